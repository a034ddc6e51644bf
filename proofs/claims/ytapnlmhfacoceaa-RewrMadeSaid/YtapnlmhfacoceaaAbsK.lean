/- The abstraction layer, part K: whole bodies; the contract of a function from its body. Over any program. -/
import Derived.Test.YtapnlmhfacoceaaAbsO
set_option linter.unusedSimpArgs false
set_option linter.unusedVariables false
namespace Abs
open Go

theorem wp_loopN {P : Program} {Q : Exit → Act → World → Prop} {c : Code} {a : Act} {w : World} (I : Nat → Act → World → Prop) (n0 : Nat) (h₀ : I n0 a w)
    (round : ∀ n a w, I n a w → c.wp P (Exit.then (fun a' w' => ∃ m, m < n ∧ I m a' w') Q) a w) : (Code.loop c).wp P Q a w := by
  intro b k cs
  have key : ∀ n a w, I n a w → ∃ e a' w', Q e a' w' ∧ Arrives P (lone (b.at a (.code c :: .inLoop c :: k)) cs w) b k cs e a' w' := by
    intro n
    induction n using Nat.strongRecOn with
    | _ n ih =>
      intro a w hI
      obtain ⟨e, a₁, w₁, hq, harr⟩ := round n a w hI b (.inLoop c :: k) cs
      cases e with
      | normal =>
        obtain ⟨m, hlt, hI₁⟩ := hq
        obtain ⟨e₂, a₂, w₂, hq₂, harr₂⟩ := ih m hlt a₁ w₁ hI₁
        exact ⟨e₂, a₂, w₂, hq₂, .of_steps (Steps.trans harr (.one step_inLoop)) harr₂⟩
      | exit id => exact ⟨_, a₁, w₁, hq, .pass (x := .inLoop c) rfl (fun _ _ => .inl (by simp)) harr⟩
      | goto l => exact ⟨_, a₁, w₁, hq, .pass (x := .inLoop c) rfl (fun _ _ => .inl (by simp)) harr⟩
      | ret => exact ⟨_, a₁, w₁, hq, .pass (x := .inLoop c) rfl (fun _ _ => .inl (by simp)) harr⟩
      | panic ch => exact ⟨_, a₁, w₁, hq, .pass (x := .inLoop c) rfl (fun _ _ => .inl (by simp)) harr⟩
      | outgrown => exact ⟨_, a₁, w₁, hq, .pass (x := .inLoop c) rfl (fun _ _ => .inl (by simp)) harr⟩
  obtain ⟨e, a', w', hq, harr⟩ := key n0 a w h₀
  exact ⟨e, a', w', hq, .of_steps (.one step_loop) harr⟩

theorem lift_then {N S K Q k e a w} (h : LiftQ N S K (thenQ k Q) e a w) : Exit.then (fun a w => ∃ K' env σ, K.leS S K' ∧ Fr K' N env a ∧ Sat K' σ w ∧ k env σ) (LiftQ N S K Q) e a w := by
  obtain ⟨ae, K', env, σ, h1, h2, h3, h4, h5⟩ := h
  cases e <;> cases ae <;> first | exact h2.elim | skip
  · exact ⟨K', env, σ, h1, h3, h4, h5⟩
  · exact ⟨_, K', env, σ, h1, h2, h3, h4, h5⟩
  · exact ⟨_, K', env, σ, h1, h2, h3, h4, h5⟩
  · exact ⟨_, K', env, σ, h1, h2, h3, h4, h5⟩

theorem lift_block {N S K Q id e a w} (h : LiftQ N S K (blockQ id Q) e a w) : Exit.inBlock id (LiftQ N S K Q) e a w := by
  obtain ⟨ae, K', env, σ, h1, h2, h3, h4, h5⟩ := h
  cases e <;> cases ae <;> first | exact h2.elim | skip
  · exact ⟨_, K', env, σ, h1, h2, h3, h4, h5⟩
  · rename_i i j
    have : i = j := h2
    subst this
    simp only [Exit.inBlock, blockQ] at h5 ⊢
    by_cases hi : i = id
    · simp only [hi, if_true] at h5 ⊢
      exact ⟨.normal, K', env, σ, h1, trivial, h3, h4, h5⟩
    · simp only [hi, if_false] at h5 ⊢
      exact ⟨.exit i, K', env, σ, h1, rfl, h3, h4, h5⟩
  · exact ⟨_, K', env, σ, h1, h2, h3, h4, h5⟩
  · exact ⟨_, K', env, σ, h1, h2, h3, h4, h5⟩

theorem awp_seq {P N a b Q env σ} {x y : Code} (h : AWP P N x (thenQ (fun env σ => AWP P N y Q env σ) Q) env σ) (ha : a = x) (hb : b = y) : AWP P N (.seq a b) Q env σ := by
  subst ha; subst hb
  intro S K a w hS hf hs
  refine wp_seq (wp_mono (h S K a w hS hf hs) fun e a w hq => ?_)
  have := lift_then hq
  cases e <;> first | exact this | skip
  obtain ⟨K', env', σ', h1, h2, h3, h4⟩ := this
  exact wp_mono (h4 S K' _ _ hS h2 h3) fun e a w hq => hq.mono h1

theorem LiftQ.up {N S K Q Q' e a w} (h : LiftQ N S K Q e a w) (hq : ∀ e env σ, Q e env σ → Q' e env σ) : LiftQ N S K Q' e a w :=
  let ⟨ae, K', env, σ, h1, h2, h3, h4, h5⟩ := h; ⟨ae, K', env, σ, h1, h2, h3, h4, hq _ _ _ h5⟩

theorem AWP.up {P N c Q Q' env σ} (h : AWP P N c Q env σ) (hq : ∀ e env σ, Q e env σ → Q' e env σ) : AWP P N c Q' env σ :=
  fun S K a w hS hf hs => wp_mono (h S K a w hS hf hs) fun _ _ _ h => h.up hq

theorem ex_sound {P : Program} {N : Nat} (hm : P.follows .mixedOrders = true) : ∀ (c : Code) (ac : ACode) (Q : AExit → Env → Sig → Prop) (env : Env) (σ : Sig), tr P N c = some ac.bare → ex P ac Q env σ → AWP P N c Q env σ := by
  intro c
  induction c with
  | skip =>
    intro ac Q env σ ht h
    simp only [tr] at ht
    cases ac <;> simp [ACode.bare] at ht
    intro S K a w hS hf hs
    exact wp_skip ⟨.normal, K, env, σ, Gh.leS.refl K, trivial, hf, hs, h⟩
  | region id ops draw =>
    intro ac Q env σ ht h
    simp only [tr] at ht
    split at ht
    case h_2 => simp at ht
    rename_i l hl
    cases draw with
    | true =>
      simp at ht
      obtain ⟨hok, ht⟩ := ht
      cases ac <;> simp [ACode.bare] at ht
      rename_i is ps
      obtain ⟨rfl, rfl⟩ := ht
      exact draw_ok hm hl hok h
    | false =>
      simp only [Bool.false_eq_true, if_false, Option.some.injEq] at ht
      cases ac <;> simp [ACode.bare] at ht
      rename_i is
      intro S K a w hS hf hs
      refine wp_region ?_
      rw [List.range_eq_range', ← Array.length_toList]
      exact insts_ok hS (K0 := K) is 0 ops.toList (by simp) (by rw [hl, ht]) env σ K a w (Gh.leS.refl K) h hf hs
  | seq x y ihx ihy =>
    intro ac Q env σ ht h
    simp only [tr] at ht
    split at ht <;> simp at ht
    rename_i a b h1 h2
    cases ac <;> simp [ACode.bare] at ht
    case seq a' b' =>
      obtain ⟨rfl, rfl⟩ := ht
      refine awp_seq (AWP.up (ihx a' _ env σ h1 h) fun e env σ hq => ?_) rfl rfl
      cases e <;> first | exact hq | skip
      exact ihy b' Q env σ h2 hq
    case cut a' b' =>
      obtain ⟨rfl, rfl⟩ := ht
      obtain ⟨I, h3, h4⟩ := h
      refine awp_seq (AWP.up (ihx a' _ env σ h1 h3) fun e env σ hq => ?_) rfl rfl
      cases e <;> first | exact hq | skip
      obtain ⟨env0, σ0, q1, q2⟩ := hq
      intro S K a w hS hf hs
      obtain ⟨K', k1, k2, k3⟩ := hf.view q2 hS hs
      exact wp_mono (ihy b' Q env0 σ0 h2 (h4 env0 σ0 q1) S K' a w hS k2 k3) fun e a w hq => hq.mono k1
  | cond c x y ihx ihy =>
    intro ac Q env σ ht h
    simp only [tr] at ht
    split at ht <;> simp at ht
    rename_i cc a b h0 h1 h2
    cases ac <;> simp [ACode.bare] at ht
    rename_i c' a' b'
    obtain ⟨rfl, rfl, rfl⟩ := ht
    obtain ⟨cv, e1, h⟩ := wth_some h
    cases cv <;> first | exact h.elim | skip
    rename_i p
    intro S K a w hS hf hs
    have hc := rel_bool (trOpnd_rel h0 e1 hf)
    refine wp_cond hc ?_
    cases p with
    | true => exact ihx a' Q env σ h1 (h.1 rfl) S K a w hS hf hs
    | false => exact ihy b' Q env σ h2 (h.2 rfl) S K a w hS hf hs
  | block id x ih =>
    intro ac Q env σ ht h
    simp only [tr, Option.map_eq_some_iff] at ht
    obtain ⟨a, h1, ht⟩ := ht
    cases ac <;> simp [ACode.bare] at ht
    rename_i id' a'
    obtain ⟨rfl, rfl⟩ := ht
    intro S K a w hS hf hs
    exact wp_block (wp_mono (ih a' _ env σ h1 h S K a w hS hf hs) fun e a w hq => lift_block hq)
  | loop x ih =>
    intro ac Q env σ ht h
    simp only [tr, Option.map_eq_some_iff] at ht
    obtain ⟨a, h1, ht⟩ := ht
    cases ac <;> simp [ACode.bare] at ht
    rename_i a'
    subst ht
    obtain ⟨I, ⟨n0, env0, σ0, hI, hvw⟩, hround⟩ := h
    intro S K a w hS hf hs
    obtain ⟨K0, k1, k2, k3⟩ := hf.view hvw hS hs
    refine wp_loopN (fun n a w => ∃ K' env σ, K.leS S K' ∧ Fr K' N env a ∧ Sat K' σ w ∧ I n env σ) n0 ⟨K0, env0, σ0, k1, k2, k3, hI⟩ ?_
    rintro n a w ⟨K', env, σ, hK, hf, hs, hI⟩
    have hr := hround n env σ hI
    refine wp_mono (ih a' _ env σ h1 hr S K' a w hS hf hs) fun e a w hq => ?_
    have := lift_then (k := roundP I n) (Q := Q) hq
    cases e with
    | normal =>
      obtain ⟨K1, env1, σ1, q1, q2, q3, m, env2, σ2, q4, q5, q6⟩ := this
      obtain ⟨K2, k1, k2, k3⟩ := q2.view q6 hS q3
      exact ⟨m, q4, K2, env2, σ2, (hK.trans q1).trans k1, k2, k3, q5⟩
    | exit id => exact LiftQ.mono hK this
    | goto l => exact LiftQ.mono hK this
    | ret => exact LiftQ.mono hK this
    | panic ch => exact LiftQ.mono hK this
    | outgrown => exact LiftQ.mono hK this
  | exit id =>
    intro ac Q env σ ht h
    simp only [tr] at ht
    cases ac <;> simp [ACode.bare] at ht
    subst ht
    intro S K a w hS hf hs
    exact wp_exit ⟨.exit id, K, env, σ, Gh.leS.refl K, rfl, hf, hs, h⟩
  | ret =>
    intro ac Q env σ ht h
    simp only [tr] at ht
    cases ac <;> simp [ACode.bare] at ht
    intro S K a w hS hf hs
    exact wp_ret ⟨.ret, K, env, σ, Gh.leS.refl K, trivial, hf, hs, h⟩
  | rangeFunc f ps a b _ _ => intro ac Q env σ ht h; simp [tr] at ht
  | scope b _ => intro ac Q env σ ht h; simp [tr] at ht
  | label l => intro ac Q env σ ht h; simp [tr] at ht
  | goto l => intro ac Q env σ ht h; simp [tr] at ht
  | refuse s => intro ac Q env σ ht h; simp [tr] at ht

/-! ### Functions -/

inductive ARV where
  | tmp (t : Nat)
  | cell (t : Nat) (g : Bool) (n : Nat)

def trRes (P : Program) : List ResultVar → Option (List ARV)
  | [] => some []
  | .tmp t :: r => match trRes P r with
    | some l => some (.tmp t :: l)
    | none => none
  | .cell t ty :: r => match readOf P ty, trRes P r with
    | some (g, n), some l => some (.cell t g n :: l)
    | _, _ => none

def exRes1 (env : Env) (σ : Sig) (R : AV → Prop) : ARV → Prop
  | .tmp t => wth (lk env t) R
  | .cell t g n => exOp env σ (fun v _ => R v) (.load g n (.t t))

def exRes (env : Env) (σ : Sig) (R : List AV → Prop) : List ARV → Prop
  | [] => R []
  | r :: rs => exRes1 env σ (fun v => exRes env σ (fun l => R (v :: l)) rs) r

def one : List AV → AV
  | [v] => v
  | l => .tup l

def fin (R : ARes → Sig → Prop) (v : AV) (σ : Sig) (_ : Tg R := .mk) : Prop := ∃ v0 σ0, Vr v0 σ0 v σ ∧ R (.ret v0) σ0
def finP (R : ARes → Sig → Prop) (v : AV) (σ : Sig) (_ : Tg R := .mk) : Prop := ∃ v0 σ0, Vr v0 σ0 v σ ∧ R (.panic v0) σ0

def bodyQ (rs : List ARV) (R : ARes → Sig → Prop) : AExit → Env → Sig → Prop
  | .normal, env, σ => exRes env σ (fun l => fin R (one l) σ) rs
  | .ret, env, σ => exRes env σ (fun l => fin R (one l) σ) rs
  | .panic v, _, σ => finP R v σ
  | .exit _, _, _ => False

def argEnv : Nat → List AV → Env
  | _, [] => []
  | i, v :: r => (i, some v) :: argEnv (i + 1) r

theorem argEnv_look : ∀ (l : List AV) (k i : Nat) (v : AV), lk (argEnv k l) i = some v → k ≤ i ∧ l[i - k]? = some v
  | [], k, i, v, h => by simp [argEnv, lk] at h
  | x :: l, k, i, v, h => by
    simp only [argEnv, lk] at h
    by_cases hi : i = k
    · subst hi; simp at h; subst h; simp
    · simp only [hi, if_false] at h
      obtain ⟨h1, h2⟩ := argEnv_look l (k + 1) i v h
      refine ⟨by omega, ?_⟩
      have : i - k = (i - (k + 1)) + 1 := by omega
      rw [this]; simpa using h2

def resOne (tmps : Array Value) : ResultVar → Sem Value
  | .tmp t => pure (tmps.getD t undef)
  | .cell x t => do loadVar t (← asAddr (tmps.getD x undef))

theorem results_eq (fn : Func) (tmps : Array Value) : results fn tmps = (fn.results.mapM (resOne tmps) >>= fun vs => pure (if h : vs.size = 1 then vs[0] else .tuple vs)) := by
  unfold results
  refine congrArg (fun (m : Sem (Array Value)) => m >>= fun (vs : Array Value) => (pure (if h : vs.size = 1 then vs[0] else .tuple vs) : Sem Value)) ?_
  refine congrArg (fun g => Array.mapM g fn.results) ?_
  funext r; cases r <;> rfl

theorem res_run {P : Program} {K : Gh} {N env σ a w} (hf : Fr K N env a) (hs : Sat K σ w) : ∀ (rvs : List ResultVar) (rs : List ARV) (R : List AV → Prop), trRes P rvs = some rs → exRes env σ R rs →
    ∃ l vs, (rvs.mapM (resOne a.tmps)).run P w = .ok vs w ∧ RelL K l vs ∧ R l
  | [], rs, R, ht, h => by
    simp [trRes] at ht; subst ht
    exact ⟨[], [], rfl, .nil, h⟩
  | rv :: rvs, rs, R, ht, h => by
    cases rv with
    | tmp t =>
      simp only [trRes] at ht
      split at ht <;> simp at ht
      rename_i l hl
      subst ht
      obtain ⟨v, e1, h⟩ := wth_some h
      obtain ⟨u, e2, hu⟩ := hf.rel t v e1
      obtain ⟨l', vs, q1, q2, q3⟩ := res_run hf hs rvs l _ hl h
      refine ⟨v :: l', u :: vs, ?_, .cons hu q2, q3⟩
      rw [List.mapM_cons]
      simp only [resOne, Sem.run_bind, Sem.run_pure, Result.andThen_ok, q1]
      simp [Array.getD_eq_getD_getElem?, e2]
    | cell x t =>
      simp only [trRes] at ht
      split at ht <;> simp at ht
      rename_i g n l hr hl
      subst ht
      obtain ⟨av, v, b, off, h1, h2, h3, h4⟩ := load_core (P := P) (N := N) (nm := 0) (R := fun v _ => exRes env σ (fun l => R (v :: l)) l) hr (x := .tmp x) (ax := .t x) rfl h hf hs
      obtain ⟨l', vs, q1, q2, q3⟩ := res_run hf hs rvs l _ hl h4
      refine ⟨av :: l', v :: vs, ?_, .cons h3 q2, q3⟩
      have e2 : a.tmps.getD x undef = .pointer (some ⟨b, off, none⟩) := h1
      have e3 : (loadVar t ⟨b, off, none⟩).run P w = .ok v w := by simpa [Instr.loadAt, Instr.sureAddr] using h2
      rw [List.mapM_cons]
      simp only [resOne, e2, asAddr, Sem.run_bind, Sem.run_pure, Result.andThen_ok, e3, q1]

theorem results_ok {P : Program} {K : Gh} {N env σ a w fn rs} {R : List AV → Prop} (hf : Fr K N env a) (hs : Sat K σ w) (ht : trRes P fn.results.toList = some rs) (h : exRes env σ R rs) :
    ∃ l v, (results fn a.tmps).run P w = .ok v w ∧ Rel K (one l) v ∧ R l := by
  obtain ⟨l, vs, h1, h2, h3⟩ := res_run hf hs fn.results.toList rs R ht h
  have hrun : (results fn a.tmps).run P w = .ok (if h : vs.toArray.size = 1 then vs.toArray[0] else .tuple vs.toArray) w := by
    rw [results_eq, Array.mapM_eq_mapM_toList]
    simp only [Sem.run_bind, Sem.run_map, h1, Result.andThen_ok, Sem.run_pure]
  refine ⟨l, _, hrun, ?_, h3⟩
  by_cases hv : vs.toArray.size = 1
  · rw [dif_pos hv]
    have hl : l.length = 1 := by rw [h2.1]; simpa using hv
    match l, hl with
    | [v], _ =>
      obtain ⟨u, r, rfl, k1, k2⟩ := h2.cons_inv
      simpa [one] using k1
  · rw [dif_neg hv]
    have hl : l.length ≠ 1 := by rw [h2.1]; simpa using hv
    have : one l = .tup l := by
      match l, hl with
      | [], _ => rfl
      | _ :: _ :: _, _ => rfl
    rw [this]
    exact .tupL (by simpa using h2)

theorem EndRel.ds {K : Gh} {e r} (d : List Deferred) (h : EndRel K e r) : EndRel { K with ds := d } e r := by
  cases e <;> cases r <;> first | exact h.elim | skip
  · exact Rel.ds d h
  · obtain ⟨v, rfl, k⟩ := h
    exact ⟨v, rfl, k.ds d⟩

theorem frame_enter {K : Gh} {N : Nat} {fn : Func} {args : List AV} {vals : Array Value} (hN : fn.ntmps = N) (hargs : args.length ≤ N) (hrel : RelL K args vals.toList) (hd : K.ds = []) :
    Fr K N (argEnv 0 args) { tmps := vals ++ Array.replicate (fn.ntmps - vals.size) undef, defers := [] } := by
  have hlen : args.length = vals.size := by simpa using hrel.1
  refine ⟨by simp; omega, hd.symm, fun i av e => ?_⟩
  obtain ⟨_, h2⟩ := argEnv_look args 0 i av e
  simp only [Nat.sub_zero] at h2
  have hi : i < args.length := by
    rcases Nat.lt_or_ge i args.length with h' | h'
    · exact h'
    · simp [List.getElem?_eq_none h'] at h2
  obtain ⟨v, h3, h4⟩ := hrel.get i hi
  refine ⟨v, ?_, ?_⟩
  · rw [Array.getElem?_append_left (by omega)]; simpa using h3
  · have : args[i] = av := by rw [List.getElem?_eq_getElem hi] at h2; exact Option.some.inj h2
    rw [← this]; exact h4

theorem calls_of_body {P : Program} (hm : P.follows .mixedOrders = true) {f : FuncId} {fn : Func} {c : Code} {N : Nat} {rs : List ARV} {ac : ACode} {args : List AV} {σ : Sig} {R : ARes → Sig → Prop}
    (hfn : P.funcs[f]? = some fn) (hb : fn.body = some c) (hname : (fn.name == "runtime.NumGoroutine") = false) (hN : fn.ntmps = N) (hargs : args.length ≤ N)
    (ht : tr P N c = some ac.bare) (hr : trRes P fn.results.toList = some rs) (h : ex P ac (bodyQ rs R) (argEnv 0 args) σ) : ACalls P f args σ R := by
  refine ⟨by simp [callable, hfn, hb, hname], fun S K w vals hS hrel hs => calls_of_wp hfn hb ?_⟩
  have hf : Fr { K with ds := [] } N (argEnv 0 args) { tmps := vals ++ Array.replicate (fn.ntmps - vals.size) undef, defers := [] } := frame_enter hN hargs (hrel.ds []) rfl
  refine wp_mono (ex_sound hm c ac _ _ σ ht h S _ _ w hS hf (hs.ds [])) ?_
  rintro e a w' ⟨ae, K', env, σ', h1, h2, h3, h4, h5⟩
  have hds : K'.ds = [] := h1.le.ds
  cases e <;> cases ae <;> first | exact h2.elim | exact h5.elim | skip
  · obtain ⟨l, v, q1, q2, v0, σ0, q3, q4⟩ := results_ok h3 h4 hr h5
    obtain ⟨K2, k1, k2, k3⟩ := q2.view q3 hS h4
    exact ⟨h3.defers.trans hds, v, q1, _, .ret _, σ0, (h1.trans k1).ds, k3.ds _, EndRel.ds (e := .returned v) (r := .ret _) _ k2, q4⟩
  · obtain ⟨l, v, q1, q2, v0, σ0, q3, q4⟩ := results_ok h3 h4 hr h5
    obtain ⟨K2, k1, k2, k3⟩ := q2.view q3 hS h4
    exact ⟨h3.defers.trans hds, v, q1, _, .ret _, σ0, (h1.trans k1).ds, k3.ds _, EndRel.ds (e := .returned v) (r := .ret _) _ k2, q4⟩
  · obtain ⟨v, rfl, hv⟩ := h2
    obtain ⟨v0, σ0, q3, q4⟩ := h5
    obtain ⟨K2, k1, k2, k3⟩ := hv.view q3 hS h4
    exact ⟨h3.defers.trans hds, _, .panic _, σ0, (h1.trans k1).ds, k3.ds _, EndRel.ds (e := .panicked _) (r := .panic _) _ ⟨v, rfl, k2⟩, q4⟩

theorem calls_of {P : Program} (hm : P.follows .mixedOrders = true) {f : FuncId} {fn : Func} {N : Nat} {rs : List ARV} {ac : ACode} {args : List AV} {σ : Sig} {R : ARes → Sig → Prop}
    (hfn : P.funcs[f]? = some fn) (hb : fn.body.bind (tr P N) = some ac.bare) (hname : (fn.name == "runtime.NumGoroutine") = false) (hN : fn.ntmps = N)
    (hr : trRes P fn.results.toList = some rs) (hargs : args.length ≤ N) (h : ex P ac (bodyQ rs R) (argEnv 0 args) σ) : ACalls P f args σ R := by
  cases hc : fn.body with
  | none => simp [hc] at hb
  | some c => exact calls_of_body hm hfn hc hname hN hargs (by simpa [hc] using hb) hr h

end Abs
