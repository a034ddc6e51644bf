/- The abstraction layer, part W: a function that defers one call. Over any program. -/
import Derived.Test.YtapnlmhfacoceaaAbsK
import Derived.Defers
import Derived.Recover
set_option linter.unusedSimpArgs false
set_option linter.unusedVariables false
namespace Abs
open Go

def dfrOf (P : Program) (N : Nat) : Code → Option (ACode × ACode × AInst × Nat × ACode)
  | .seq x (.seq y (.seq (.region _ ops false) z)) =>
    match ops.toList with
    | [o1, o2] =>
      match o2.op with
      | .defer cl =>
        match cl.callee with
        | .value (.tmp d) =>
          if o1.guard = none ∧ o2.guard = none ∧ o2.dst = none ∧ cl.args = #[] then
            match tr P N x, tr P N y, trInst P N ops o1, tr P N z with
            | some a, some b, some i, some e => some (a, b, i, d, e)
            | _, _, _, _ => none
          else none
        | _ => none
      | _ => none
    | _ => none
  | _ => none

theorem dfrOf_some {P N c a b i d e} (h : dfrOf P N c = some (a, b, i, d, e)) : ∃ x y id ops z o1 o2 cl, c = .seq x (.seq y (.seq (.region id ops false) z)) ∧ ops.toList = [o1, o2] ∧
    o2.op = .defer cl ∧ cl.callee = .value (.tmp d) ∧ o1.guard = none ∧ o2.guard = none ∧ o2.dst = none ∧ cl.args = #[] ∧ tr P N x = some a ∧ tr P N y = some b ∧ trInst P N ops o1 = some i ∧ tr P N z = some e := by
  unfold dfrOf at h
  split at h <;> try (simp at h; done)
  rename_i x y id ops z
  split at h <;> try (simp at h; done)
  rename_i o1 o2 ho
  split at h <;> try (simp at h; done)
  rename_i cl hcl
  split at h <;> try (simp at h; done)
  rename_i d' hd
  split at h <;> try (simp at h; done)
  rename_i hg
  split at h <;> try (simp at h; done)
  rename_i a' b' i' e' h1 h2 h3 h4
  simp only [Option.some.injEq, Prod.mk.injEq] at h
  obtain ⟨rfl, rfl, rfl, rfl, rfl⟩ := h
  exact ⟨x, y, id, ops, z, o1, o2, cl, rfl, ho, hcl, hd, hg.1, hg.2.1, hg.2.2.1, hg.2.2.2, h1, h2, h3, h4⟩

def ADef (P : Program) (g : FuncId) (args : List AV) (σ : Sig) (k : Sig → Prop) : Prop :=
  callable P g = true ∧ ∀ (S : Nat → Prop) K w (vals : Array Value), Bnd S → RelL K args vals.toList → Sat K σ w →
    CallsD P g vals .returning w fun e u w' => (∃ v, e = .returned v) ∧ u = .returning ∧ ∃ K' σ', K.leS S K' ∧ Sat K' σ' w' ∧ k σ'

def dfrQ (P : Program) (rs : List ARV) (R : ARes → Sig → Prop) (g : FuncId) (args : List AV) : AExit → Env → Sig → Prop
  | .normal, env, σ => ADef P g args σ (fun σ => exRes env σ (fun l => fin R (one l) σ) rs)
  | .ret, env, σ => ADef P g args σ (fun σ => exRes env σ (fun l => fin R (one l) σ) rs)
  | .panic _, _, _ => False
  | .exit _, _, _ => False

def exDfr (P : Program) (rs : List ARV) (R : ARes → Sig → Prop) (d : Nat) (e : ACode) (env : Env) (σ : Sig) : Prop :=
  wth (lk env d) fun v => match v with
    | .fn g first caps => ex P e (dfrQ P rs R g (first ++ caps)) env σ
    | _ => False

theorem upon_up {P : Program} {o : Oper} {a : Act} {next : Act → World → Prop} {Q Q' : Exit → Act → World → Prop} {r : Result Next} (h : o.upon P a next Q r)
    (hq : ∀ e a w, e ≠ .normal → Q e a w → Q' e a w) : o.upon P a next Q' r := by
  have hl : LetsOut Q → LetsOut Q' := fun ⟨a, w, h⟩ => ⟨a, w, hq _ _ _ (by simp) h⟩
  unfold Oper.upon at h ⊢
  split at h
  · exact h
  · exact h
  · exact h
  · exact h.mono fun e w' q => by
      cases e
      · exact q
      · exact hq _ _ _ (by simp) q
      · exact hl q
  · exact h
  · exact hq _ _ _ (by simp) h
  · exact h.elim

theorem calls_of_defer {P : Program} (hm : P.follows .mixedOrders = true) {f : FuncId} {fn : Func} {N : Nat} {rs : List ARV} {a b e : ACode} {i : AInst} {d : Nat} {args : List AV} {σ : Sig} {R : ARes → Sig → Prop}
    (hfn : P.funcs[f]? = some fn) (hb : fn.body.bind (dfrOf P N) = some (a.bare, b.bare, i.bare, d, e.bare)) (hname : (fn.name == "runtime.NumGoroutine") = false) (hN : fn.ntmps = N)
    (hr : trRes P fn.results.toList = some rs) (hargs : args.length ≤ N)
    (h : ex P a (thenQ (fun env σ => ex P b (thenQ (fun env σ => instRun P (bodyQ rs R) (fun v σ => exDfr P rs R d e (putA i.dst v env) σ) env σ i.op) (bodyQ rs R)) env σ) (bodyQ rs R)) (argEnv 0 args) σ) :
    ACalls P f args σ R := by
  cases hc : fn.body with
  | none => simp [hc] at hb
  | some c =>
  rw [hc] at hb
  obtain ⟨x, y, id, ops, z, o1, o2, cl, rfl, ho, hcl, hd, g1, g2, g3, g4, t1, t2, t3, t4⟩ := dfrOf_some (by simpa using hb)
  refine ⟨by simp [callable, hfn, hc, hname], fun S K w vals hS hrel hs => calls_of_wp_defers hfn hc ?_⟩
  have hf : Fr { K with ds := [] } N (argEnv 0 args) { tmps := vals ++ Array.replicate (fn.ntmps - vals.size) undef, defers := [] } := frame_enter hN hargs (hrel.ds []) rfl
  -- what ends the body without the call deferred
  have early : ∀ ex ac w', LiftQ N S { K with ds := [] } (bodyQ rs R) ex ac w' → bodyPostD P fn (fun e w' => ∃ K' r σ', K.leS S K' ∧ Sat K' σ' w' ∧ EndRel K' e r ∧ R r σ') ex ac w' := by
    rintro ex ac w' ⟨ae, K', env, σ', h1, h2, h3, h4, h5⟩
    have hds : ac.defers = [] := h3.defers.trans h1.le.ds
    cases ex <;> cases ae <;> first | exact h2.elim | exact h5.elim | skip
    · obtain ⟨l, v, q1, q2, v0, σ0, q3, q4⟩ := results_ok h3 h4 hr h5
      obtain ⟨K2, k1, k2, k3⟩ := q2.view q3 hS h4
      show Leaves P fn ac.tmps _ ac.defers .returning w'
      rw [hds]
      exact ⟨v, q1, _, .ret _, σ0, (h1.trans k1).ds, k3.ds _, EndRel.ds (e := .returned v) (r := .ret _) _ k2, q4⟩
    · obtain ⟨l, v, q1, q2, v0, σ0, q3, q4⟩ := results_ok h3 h4 hr h5
      obtain ⟨K2, k1, k2, k3⟩ := q2.view q3 hS h4
      show Leaves P fn ac.tmps _ ac.defers .returning w'
      rw [hds]
      exact ⟨v, q1, _, .ret _, σ0, (h1.trans k1).ds, k3.ds _, EndRel.ds (e := .returned v) (r := .ret _) _ k2, q4⟩
    · obtain ⟨v, rfl, hv⟩ := h2
      obtain ⟨v0, σ0, q3, q4⟩ := h5
      obtain ⟨K2, k1, k2, k3⟩ := hv.view q3 hS h4
      show Leaves P fn ac.tmps _ ac.defers (.panicking _) w'
      rw [hds]
      exact ⟨_, .panic _, σ0, (h1.trans k1).ds, k3.ds _, EndRel.ds (e := .panicked _) (r := .panic _) _ ⟨v, rfl, k2⟩, q4⟩
  refine wp_seq (wp_mono (ex_sound hm x a _ _ σ t1 h S _ _ w hS hf (hs.ds [])) fun ex ac w' hq => ?_)
  have hq := lift_then hq
  cases ex <;> first | exact early _ _ _ hq | skip
  obtain ⟨K1, env1, σ1, k1, k2, k3, k4⟩ := hq
  refine wp_seq (wp_mono (ex_sound hm y b _ _ σ1 t2 k4 S _ _ w' hS k2 k3) fun ex ac w' hq => ?_)
  have hq := lift_then (hq.mono k1)
  cases ex <;> first | exact early _ _ _ hq | skip
  obtain ⟨K2, env2, σ2, m1, m2, m3, m4⟩ := hq
  refine wp_seq (wp_region ?_)
  have hsz : ops.size = 2 := by rw [← Array.length_toList, ho]; rfl
  have e0 : ops[0]? = some o1 := by rw [← Array.getElem?_toList, ho]; rfl
  have e1 : ops[1]? = some o2 := by rw [← Array.getElem?_toList, ho]; rfl
  rw [hsz, show List.range 2 = [0, 1] from rfl]
  obtain ⟨u1, u2, u3, u4, u5⟩ := trInst_some t3
  simp only [wpOps, e0, e1, Region.wanted, g1, g2, if_true]
  left
  refine upon_up (inst_wp (o := o1) (i := i) (Q := bodyQ rs R) hS (K0 := { K with ds := [] }) (fun env σ => exDfr P rs R d e env σ) _ m1 u1 u2 u3 u4 (fun K3 env3 σ3 a3 w3 q1 q2 q3 q4 => ?_) m4 m2 m3) (fun e a w hne hq => by
    have := early _ _ _ hq
    cases e <;> first | exact absurd rfl hne | exact this)
  have hds3 : K3.ds = [] := q1.le.ds
  -- the call is deferred
  obtain ⟨fv, l1, q2⟩ := wth_some q2
  cases fv <;> first | exact q2.elim | skip
  rename_i g first caps
  obtain ⟨v, l2, l3⟩ := q3.rel d _ l1
  obtain ⟨fs, cs, rfl, l4, l5⟩ := rel_fn l3
  have hev : a3.eval (.tmp d) = .func (.func g) fs cs := by simp [Act.eval, Array.getD_eq_getD_getElem?, l2]
  left
  have hrun : (execOp a3.eval o2).run P w3 = .ok (.defer { target := .fn (.func g) cs, args := fs }) w3 := by
    obtain ⟨callee, cargs, types⟩ := cl
    simp only at hd g4
    subst hd; subst g4
    simp only [execOp, hcl, resolve, hev, Deferred.ofValue, Sem.run_bind, Sem.run_pure, Result.andThen_ok]
    simp
  unfold Oper.wp
  rw [hrun]
  simp only [Oper.upon, g3, Act.put, wpOps, Exit.then]
  let dd : Deferred := { target := .fn (.func g) cs, args := fs }
  have hf4 : Fr { K3 with ds := [dd] } N env3 { a3 with defers := dd :: a3.defers } := ⟨q3.size, by show dd :: a3.defers = [dd]; rw [q3.defers, hds3], fun i av e => by
    obtain ⟨v, e1, r⟩ := q3.rel i av e
    exact ⟨v, e1, r.ds _⟩⟩
  have hz := ex_sound hm z e _ _ σ3 t4 q2 S _ _ w3 hS hf4 (q4.ds [dd])
  refine wp_mono hz ?_
  rintro ex a4 w4 ⟨ae, K4, env4, σ4, n1, n2, n3, n4, n5⟩
  have hd4 : K4.ds = [dd] := n1.le.ds
  have fin4 : ADef P g (first ++ caps) σ4 (fun σ => exRes env4 σ (fun l => fin R (one l) σ) rs) → Leaves P fn a4.tmps (fun e w' => ∃ K' r σ', K.leS S K' ∧ Sat K' σ' w' ∧ EndRel K' e r ∧ R r σ') a4.defers .returning w4 := by
    rintro ⟨hcall, hdef⟩
    rw [n3.defers, hd4]
    refine leaves_cons (f := g) (args := fs ++ cs) (by simp) ?_ ?_
    · simp only [invoke]
      exact callFunc_run hcall _ _
    · have hrel4 : RelL K4 (first ++ caps) (fs ++ cs).toList := by
        rw [Array.toList_append]
        have hle : K3.le { K4 with ds := K3.ds } := (Gh.leS.ds n1).le
        have := ((l4.append l5).mono hle).ds [dd]
        have he : ({ ({ K4 with ds := K3.ds } : Gh) with ds := [dd] } : Gh) = K4 := by rw [← hd4]
        rw [he] at this; exact this
      refine (hdef S K4 w4 (fs ++ cs) hS hrel4 n4).mono fun ed u wd hq => ?_
      obtain ⟨⟨v, rfl⟩, rfl, K5, σ5, p1, p2, p3⟩ := hq
      show Leaves P fn a4.tmps _ [] (settle .returning) wd
      obtain ⟨l, v, w1, w2, v0, σ0, w3', w4'⟩ := results_ok (n3.mono p1.le) p2 hr p3
      obtain ⟨K6, y1, y2, y3⟩ := w2.view w3' hS p2
      have hq1 : K.leS S { K3 with ds := K.ds } := by
        have := q1.ds
        exact this
      have hn : ({ K3 with ds := K.ds } : Gh).leS S { K6 with ds := K.ds } := by
        have hh := (n1.trans p1).trans y1
        exact ⟨⟨hh.le.base, hh.le.claim, hh.le.own, rfl⟩, hh.free⟩
      exact ⟨v, w1, _, .ret _, σ0, hq1.trans hn, y3.ds _, EndRel.ds (e := .returned v) (r := .ret _) _ y2, w4'⟩
  cases ex <;> cases ae <;> first | exact n2.elim | exact n5.elim | skip
  · exact fin4 n5
  · exact fin4 n5

end Abs
