/- blast: contracts: operations of one and of two words, choices. -/
import Derived.Test.YtbbihmmobfmadaaNBlaBlaH
set_option linter.unusedSimpArgs false
set_option linter.unusedVariables false
namespace Go.Proofs.Ytbbihmmobfmadaa
open Abs Fil Fil.Bl A

@[go_sem] theorem thenI_n {k : Env → Sig → Prop} {env : Env} {σ : Sig} : thenI k .normal env σ = k env σ := rfl
theorem exRng_i {P : Program} {rs : List ARV} {R : ARes → Sig → Prop} {t p q : Nat} {id ie : List AInst} {env : Env} {σ : Sig} (g : Nat) (caps : List AV) (xs : List Int) (S : Nat → Sig)
    (h1 : lk env t = some (.fn g [] caps)) (h2 : AIter P g caps σ xs) (h3 : Sub (S 0) σ) (h4 : ∀ k o, σ o = none → S k o = none)
    (h5 : ∀ k x τ, xs[k]? = some x → Sub (S k) τ → XI P (thenI fun _ τ' => Sub (S (k + 1)) τ' ∧ Pins τ τ') id ((q, some (.int .i64 x)) :: (p, some (.int .i64 x)) :: env) τ)
    (h6 : ∀ τ, Sub (S xs.length) τ → XI P (thenI fun env τ' => (Sub (S xs.length) τ' ∧ Pins τ τ') ∧ exRes env (S xs.length) (fun l => fin R (one l) (S xs.length)) rs) ie env τ) : exRng P rs R t p q id ie env σ := by
  unfold exRng
  rw [h1]
  exact ⟨rfl, xs, S, h2, h3, h4, h5, h6⟩
theorem calls_rng {f : FuncId} {fn : Func} {N : Nat} {rs : List ARV} {ia ib id ie : List AInst} {t p q : Nat} {args : List AV} {σ : Sig} {R : ARes → Sig → Prop}
    (hfn : Try.prog.funcs[f]? = some fn) (hb : fn.body.bind (rngOf Try.prog N) = some (ia.map AInst.bare, ib.map AInst.bare, t, p, q, id.map AInst.bare, ie.map AInst.bare)) (hname : (fn.name == "runtime.NumGoroutine") = false) (hN : fn.ntmps = N)
    (hr : trRes Try.prog fn.results.toList = some rs) (hargs : args.length ≤ N)
    (h : XI Try.prog (thenI fun env σ => XI Try.prog (thenI fun env σ => exRng Try.prog rs R t p q id ie env σ) ib env σ) ia (argEnv 0 args) σ) :
    ACalls Try.prog f args σ R := calls_of_range hfn hb hname hN hr hargs h
def fA : List AInst := [⟨some 3, .box (.t 0), none⟩, ⟨some 5, .box (.t 2), none⟩, ⟨some 6, .mov (.c (.int .i64 0)), none⟩]
def fB : List AInst := [⟨some 8, .mov (.t 1), none⟩]
def fD : List AInst := [⟨some 10, .load false 1 (.t 5), none⟩, ⟨some 11, .load false 1 (.t 3), none⟩, ⟨some 12, .mov (.t 7), none⟩, ⟨some 13, .call (.t 10) [.t 11, .t 12], none⟩, ⟨none, .store 1 (.t 3) (.t 13), none⟩]
def fE : List AInst := [⟨some 14, .load false 1 (.t 3), none⟩, ⟨some 6, .mov (.t 14), none⟩]
def FoldAt (op : Bl.Op) (a : Int) (xs : List Int) (b : Bu) (k : Nat) : Int × Bu := (foldP (fun x y => .op op x y 0 .ret) a xs k).run b
theorem fold_next (op : Bl.Op) (a : Int) (xs : List Int) (b : Bu) (k : Nat) : FoldAt op a xs b (k + 1) = (FoldAt op a xs b k).2.op op (FoldAt op a xs b k).1 (gt xs k) 0 := iter_run _ _ _ _
theorem fold_wf (op : Bl.Op) {a : Int} (xs : List Int) {b : Bu} (hb : Wf b.g) (ha : I64 a) : ∀ k, Wf (FoldAt op a xs b k).2.g ∧ I64 (FoldAt op a xs b k).1
  | 0 => ⟨hb, ha⟩
  | k + 1 => by rw [fold_next]; exact bu_wf (fold_wf op xs hb ha k).1 _ _ _ _
set_option maxHeartbeats 2000000 in
theorem bu_fold (op : Bl.Op) (fF : Nat) (bo : Nat) (b : Bu) (a : Int) (xs : List Int) (g : Nat) (caps : List AV) (σ : Sig) (h : σ bo = some (buC b)) (hs : Wf b.g) (ha : I64 a) (hx : ∀ x ∈ xs, I64 x)
    (hit : ∀ τ, Sub σ τ → AIter Try.prog g caps τ xs)
    (hop : ∀ b x y τ, τ bo = some (buC b) → Wf b.g → I64 x → I64 y → ACalls Try.prog fF [.ptr bo 0, .int .i64 x, .int .i64 y] τ (fun r σ' => r = .ret (.int .i64 (b.op op x y 0).1) ∧ σ' = upd τ bo (buC (b.op op x y 0).2))) :
    ACalls Try.prog 59 [.int .i64 a, .fn g [] caps, .fn fF [.ptr bo 0] []] σ (fun r σ' => r = .ret (.int .i64 (FoldAt op a xs b xs.length).1) ∧ σ' = upd σ bo (buC (FoldAt op a xs b xs.length).2)) := by
  refine calls_rng (rs := [.tmp 6]) (N := 15) (ia := fA) (ib := fB) (id := fD) (ie := fE) (t := 8) (p := 9) (q := 7) Try.func59 (by kernel_rfl) (by kernel_rfl) (by kernel_rfl) (by kernel_rfl) (by simp) ?_
  unfold fA fB fD fE
  repeat' (first | simp (maxDischargeDepth := 9) -implicitDefEqProofs -dsimp only [go_sem, seval, *] | ((with_reducible refine Zt (fun oF hoF hnF hnF' => ?_)); (try simp only [upd_none, ne_eq, not_and] at hoF)))
  rename_i o1 ho1 hn1 hn1'
  obtain ⟨o2, ho2'⟩ : ∃ x, x = oF := ⟨_, rfl⟩
  subst ho2'
  obtain ⟨hne, ho2⟩ := hoF
  have b1 : ¬ bo = o1 := fun e => by rw [e, ho1] at h; simp at h
  have b2 : ¬ bo = o2 := fun e => by rw [e, ho2] at h; simp at h
  have hwf := fold_wf op xs hs ha
  have hnx := fold_next op a xs b
  have h0 : FoldAt op a xs b 0 = (a, b) := rfl
  obtain ⟨G, hG⟩ : ∃ G, FoldAt op a xs b = G := ⟨_, rfl⟩
  rw [hG] at hwf hnx h0 ⊢
  clear hG hn1 hn1' hnF hnF'
  refine exRng_i g caps xs (fun k => upd (upd (upd σ o1 (.cells [.int .i64 (G k).1])) o2 (.cells [.fn fF [.ptr bo 0] []])) bo (buC (G k).2)) (by simp (maxDischargeDepth := 9) -implicitDefEqProofs -dsimp only [go_sem, seval, *]; done) (hit _ ?_) ?_ ?_ ?_ ?_
  · exact (Sub.upd_fresh ho1).trans (Sub.upd_fresh (by simp [upd, hne, ho2]))
  · intro o x e
    by_cases hb : o = bo
    · subst hb
      simp only [upd, if_true, h0] at e
      simp only [upd, if_neg b1, if_neg b2]
      rw [h]; exact e
    · simp only [upd, if_neg hb, h0] at e ⊢
      exact e
  · intro k o e
    have e1 : ¬ o = o2 := fun h' => by subst h'; simp [upd] at e
    have e2 : ¬ o = o1 := fun h' => by subst h'; simp [upd, e1] at e
    have e3 : σ o = none := by simpa [upd, e1, e2] using e
    have e4 : ¬ o = bo := fun h' => by rw [h', h] at e3; simp at e3
    simp [upd, e1, e2, e3, e4]
  · intro k x τ hk hτ
    have q1 := hτ o1 (.cells [.int .i64 (G k).1]) (by simp [upd, hne, Ne.symm b1, Ne.symm hne])
    have q2 := hτ o2 (.cells [.fn fF [.ptr bo 0] []]) (by simp [upd, Ne.symm b2])
    have q3 := hτ bo (buC (G k).2) (by simp [upd])
    have hgx : gt xs k = x := by simp [gt, List.getD_eq_getElem?_getD, hk]
    have hxk := hx x (List.mem_of_getElem? hk)
    have c1 := hop (G k).2 (G k).1 x τ q3 (hwf k).1 (hwf k).2 hxk
    have hnk := hnx k
    rw [hgx] at hnk
    rw [← hnk] at c1
    have hS : ∀ τ', τ' = upd (upd τ bo (buC (G (k + 1)).2)) o1 (.cells [.int .i64 (G (k + 1)).1]) → Sub (upd (upd (upd σ o1 (.cells [.int .i64 (G (k + 1)).1])) o2 (.cells [.fn fF [.ptr bo 0] []])) bo (buC (G (k + 1)).2)) τ' ∧ Pins τ τ' := by
      rintro τ' rfl
      constructor
      · intro o y e
        by_cases e1 : o = bo
        · subst e1; simpa [upd, b1] using e
        by_cases e2 : o = o1
        · subst e2; simpa [upd, e1, Ne.symm hne] using e
        simp only [upd, if_neg e1, if_neg e2]
        refine hτ o y ?_
        simpa [upd, e1, e2] using e
      · intro o y e
        have e1 : ¬ o = bo := fun h' => by rw [h', q3] at e; simp [buC, workC] at e
        have e2 : ¬ o = o1 := fun h' => by rw [h', q1] at e; simp at e
        simpa [upd, e1, e2] using e
    have b1' : ¬ o1 = bo := Ne.symm b1
    clear hτ hx hwf hnx hnk hgx hk h0 hit hop
    repeat' (first | simp (maxDischargeDepth := 9) -implicitDefEqProofs -dsimp only [go_sem, seval, *] | ((with_reducible refine Zt (fun oF hoF hnF hnF' => ?_)); (try simp only [upd_none, ne_eq, not_and] at hoF)) | ((with_reducible apply ACalls.one1); (focus ((first | with_reducible refine c1) <;> (first | (simp (maxDischargeDepth := 9) -implicitDefEqProofs -dsimp only [go_sem, seval, *]; done) | omega))); (focus (first | trivial | with_reducible exact rfl | (simp (maxDischargeDepth := 9) -implicitDefEqProofs -dsimp only [go_sem, seval]; done)))))
  · intro τ hτ
    have q1 := hτ o1 (.cells [.int .i64 (G xs.length).1]) (by simp [upd, hne, Ne.symm b1, Ne.symm hne])
    repeat' (first | simp (maxDischargeDepth := 9) -implicitDefEqProofs -dsimp only [go_sem, seval, *] | ((with_reducible refine Zt (fun oF hoF hnF hnF' => ?_)); (try simp only [upd_none, ne_eq, not_and] at hoF)))
    refine ⟨fun _ _ e => e, ?_⟩
    repeat' (first | simp (maxDischargeDepth := 9) -implicitDefEqProofs -dsimp only [go_sem, seval, *] | ((with_reducible refine Zt (fun oF hoF hnF hnF' => ?_)); (try simp only [upd_none, ne_eq, not_and] at hoF)))
    refine fin_eq ?_
    (repeat' (first | simp (maxDischargeDepth := 9) -implicitDefEqProofs -dsimp only [go_sem, seval, *])) <;> (repeat' refine And.intro ?_ ?_) <;> (first | omega | rfl | assumption | skip)

/-! ### A word collected -/
def sA : List AInst := [⟨some 2, .box (.t 0), none⟩, ⟨some 4, .mov (.c (.slice [] .nil)), none⟩]
def sB : List AInst := [⟨some 6, .mov (.t 1), none⟩]
def sD : List AInst := [⟨some 8, .load false 1 (.t 2), none⟩, ⟨some 9, .mov (.t 5), none⟩, ⟨some 10, .bslice 1 [.t 9], none⟩, ⟨some 11, .append 1 8 (.t 8) (.t 10), none⟩, ⟨none, .store 1 (.t 2) (.t 11), none⟩]
def sE : List AInst := [⟨some 12, .load false 1 (.t 2), none⟩, ⟨some 4, .mov (.t 12), none⟩]
theorem sl_appseq0 (vo : Nat) (xs : List Int) (g : Nat) (caps : List AV) (σ : Sig) (h : σ vo = some (.grow 1 0)) (hx : xs.length ≤ 1000000)
    (hit : ∀ τ, Sub σ τ → AIter Try.prog g caps τ xs) :
    ACalls Try.prog 94 [.slice [] (.own vo), .fn g [] caps] σ (fun r σ' => r = .ret (.slice (xs.map fun x => .int .i64 x) (.own vo)) ∧ σ' = upd σ vo (.grow 1 xs.length)) := by
  refine calls_rng (rs := [.tmp 4]) (N := 13) (ia := sA) (ib := sB) (id := sD) (ie := sE) (t := 6) (p := 7) (q := 5) Try.func94 (by kernel_rfl) (by kernel_rfl) (by kernel_rfl) (by kernel_rfl) (by simp) ?_
  unfold sA sB sD sE
  repeat' (first | simp (maxDischargeDepth := 9) -implicitDefEqProofs -dsimp only [go_sem, seval, *] | ((with_reducible refine Zt (fun oF hoF hnF hnF' => ?_)); (try simp only [upd_none, ne_eq, not_and] at hoF)))
  obtain ⟨o1, ho1'⟩ : ∃ x, x = oF := ⟨_, rfl⟩
  subst ho1'
  have b1 : ¬ vo = o1 := fun e => by rw [e, hoF] at h; simp at h
  refine exRng_i g caps xs (fun k => upd (upd σ o1 (.cells [.slice ((xs.take k).map fun x => .int .i64 x) (.own vo)])) vo (.grow 1 (xs.take k).length)) (by simp (maxDischargeDepth := 9) -implicitDefEqProofs -dsimp only [go_sem, seval, *]; done) (hit _ (Sub.upd_fresh hoF)) ?_ ?_ ?_ ?_
  · intro o x e
    by_cases hb : o = vo
    · subst hb
      simp only [upd, if_true, List.take_zero, List.length_nil] at e
      simp only [upd, if_neg b1]
      rw [h]; exact e
    · simpa [upd, hb] using e
  · intro k o e
    have e2 : ¬ o = o1 := fun h' => by subst h'; simp [upd] at e
    have e3 : σ o = none := by simpa [upd, e2] using e
    have e4 : ¬ o = vo := fun h' => by rw [h', h] at e3; simp at e3
    simp [upd, e2, e3, e4]
  · intro k x τ hk hτ
    have q1 := hτ o1 (.cells [.slice ((xs.take k).map fun x => .int .i64 x) (.own vo)]) (by simp [upd, Ne.symm b1])
    have q3 := hτ vo (.grow 1 (xs.take k).length) (by simp [upd])
    have htk : xs.take (k + 1) = xs.take k ++ [x] := by rw [List.take_add_one, hk]; rfl
    rw [htk]
    have hle : (xs.take k).length ≤ 1000000 := by simp; omega
    obtain ⟨ys, hys⟩ : ∃ ys, xs.take k = ys := ⟨_, rfl⟩
    rw [hys] at q1 q3 hle ⊢
    rw [hys] at hτ
    have hS : ∀ τ', τ' = upd (upd τ vo (.grow 1 (ys.length + 1))) o1 (.cells [.slice ((ys ++ [x]).map fun x => .int .i64 x) (.own vo)]) → Sub (upd (upd σ o1 (.cells [.slice ((ys ++ [x]).map fun x => .int .i64 x) (.own vo)])) vo (.grow 1 (ys ++ [x]).length)) τ' ∧ Pins τ τ' := by
      rintro τ' rfl
      constructor
      · intro o y e
        by_cases e1 : o = vo
        · subst e1; simpa [upd, b1] using e
        by_cases e2 : o = o1
        · subst e2; simpa [upd, e1] using e
        simp only [upd, if_neg e1, if_neg e2]
        refine hτ o y ?_
        simpa [upd, e1, e2] using e
      · intro o y e
        have e1 : ¬ o = vo := fun h' => by rw [h', q3] at e; simp at e
        have e2 : ¬ o = o1 := fun h' => by rw [h', q1] at e; simp at e
        simpa [upd, e1, e2] using e
    have b1' : ¬ o1 = vo := Ne.symm b1
    have q3' : τ vo = some (.grow 1 (ys.map fun x => AV.int .i64 x).length) := by rw [q3]; simp
    have hsz : szs 1 (ys.map fun x => AV.int .i64 x) := by simp [szs, cellsA]
    have hbd : (ys.length + 1) * 8 ≤ 35184372088832 := by omega
    clear hτ hx hit hk htk hys q3
    repeat' (first | simp (maxDischargeDepth := 9) -implicitDefEqProofs -dsimp only [go_sem, seval, List.length_map, List.length_append, List.length_cons, List.length_nil, List.map_append, List.map_cons, List.map_nil, Nat.zero_add, *] | ((with_reducible refine Zt (fun oF hoF hnF hnF' => ?_)); (try simp only [upd_none, ne_eq, not_and] at hoF)))
    have hz := hS _ rfl
    simp only [List.map_append, List.map_cons, List.map_nil, List.length_append, List.length_cons, List.length_nil, Nat.zero_add] at hz
    first | exact hz | exact hz.1
  · intro τ hτ
    rw [List.take_length] at hτ ⊢
    have q1 := hτ o1 (.cells [.slice (xs.map fun x => .int .i64 x) (.own vo)]) (by simp [upd, Ne.symm b1])
    repeat' (first | simp (maxDischargeDepth := 9) -implicitDefEqProofs -dsimp only [go_sem, seval, *] | ((with_reducible refine Zt (fun oF hoF hnF hnF' => ?_)); (try simp only [upd_none, ne_eq, not_and] at hoF)))
    refine ⟨fun _ _ e => e, ?_⟩
    repeat' (first | simp (maxDischargeDepth := 9) -implicitDefEqProofs -dsimp only [go_sem, seval, *] | ((with_reducible refine Zt (fun oF hoF hnF hnF' => ?_)); (try simp only [upd_none, ne_eq, not_and] at hoF)))
    refine fin_eq ?_
    (repeat' (first | simp (maxDischargeDepth := 9) -implicitDefEqProofs -dsimp only [go_sem, seval, *])) <;> (repeat' refine And.intro ?_ ?_) <;> (first | omega | rfl | assumption | skip)
theorem calls_out {P : Program} {f : FuncId} {args : List AV} {σ : Sig} {R0 R : ARes → Sig → Prop} (h : ACalls P f args σ R0) (hR : ∀ v s, R0 (.ret v) s → fin R v s) (hp : ∀ v s, ¬ R0 (.panic v) s) : ACalls P f args σ R :=
  ⟨h.1, fun S K w vals h0 h1 h2 => (h.2 S K w vals h0 h1 h2).mono fun e w' ⟨K', r, σ', a, b, c, d⟩ => by
    cases r with
    | ret v =>
      obtain ⟨v0, σ0, q3, q4⟩ := hR v σ' d
      cases e <;> first | exact c.elim | skip
      obtain ⟨K2, k1, k2, k3⟩ := Rel.view q3 h0 c b
      exact ⟨K2, .ret v0, σ0, a.trans k1, k3, k2, q4⟩
    | panic v => exact (hp v σ' d).elim⟩
theorem sl_appseq (xs : List Int) (g : Nat) (caps : List AV) (σ : Sig) (hx : xs.length ≤ 1000000)
    (hit : ∀ τ, Sub σ τ → AIter Try.prog g caps τ xs) :
    ACalls Try.prog 94 [.slice [] .nil, .fn g [] caps] σ (fun r σ' => r = .ret (.slice (xs.map fun x => .int .i64 x) .no) ∧ σ' = σ) := by
  refine ACalls.virt (by kernel_rfl) 1 (fun vo h1 _ _ => ?_)
  have h2 := sl_appseq0 vo xs g caps (upd σ vo (.grow 1 0)) (by simp [upd]) hx (fun τ hτ => hit τ ((Sub.upd_fresh h1).trans hτ))
  refine ACalls.fl (calls_out h2 (fun v s hv => ?_) (fun v s hv => by simp at hv)) ?_ ?_
  · obtain ⟨hv, rfl⟩ := hv
    simp only [ARes.ret.injEq] at hv
    subst hv
    refine fin_eq ?_
    (repeat' (first | simp (maxDischargeDepth := 9) -implicitDefEqProofs -dsimp only [go_sem, seval, *])) <;> (repeat' refine And.intro ?_ ?_) <;> (first | omega | rfl | assumption | skip)
  · (repeat' (first | simp (maxDischargeDepth := 9) -implicitDefEqProofs -dsimp only [go_sem, seval, *])) <;> (repeat' refine And.intro ?_ ?_) <;> (first | omega | rfl | assumption | skip)
  · intro o _ y e
    by_cases ho : o = vo
    · subst ho
      refine ⟨.virt 1, by simp [upd], ?_⟩
      simp only [upd, if_true, Option.some.injEq] at e
      subst e
      exact ⟨rfl, rfl⟩
    · exact ⟨y, by simpa [upd, ho] using e, .refl _ y⟩
theorem sl_collect (xs : List Int) (g : Nat) (caps : List AV) (σ : Sig) (hx : xs.length ≤ 1000000)
    (hit : ∀ τ, Sub σ τ → AIter Try.prog g caps τ xs) :
    ACalls Try.prog 81 [.fn g [] caps] σ (fun r σ' => r = .ret (.slice (xs.map fun x => .int .i64 x) .no) ∧ σ' = σ) := by
  refine calls_x mixed Try.func81 b81 n81 rfl q81 (by simp) ?_; unfold c81 r81
  repeat' (first | simp (maxDischargeDepth := 9) -implicitDefEqProofs -dsimp only [go_sem, seval, *] | ((with_reducible apply ACalls.one1); (focus ((first | with_reducible refine sl_appseq xs g caps _ hx hit) <;> (first | (simp (maxDischargeDepth := 9) -implicitDefEqProofs -dsimp only [go_sem, seval, *]; done) | omega))); (focus (first | trivial | with_reducible exact rfl | (simp (maxDischargeDepth := 9) -implicitDefEqProofs -dsimp only [go_sem, seval]; done)))))
  refine fin_eq ?_
  (repeat' (first | simp (maxDischargeDepth := 9) -implicitDefEqProofs -dsimp only [go_sem, seval, *])) <;> (repeat' refine And.intro ?_ ?_) <;> (first | omega | rfl | assumption | skip)
theorem bl_turned (xs : List Int) (t : Tok) (σ : Sig) :
    ACalls Try.prog 60 [.slice (xs.map fun x => .int .i64 x) t] σ (NewO σ (fun o => .fn 82 [] [.ptr o 0]) (.cells [.slice (xs.map fun x => .int .i64 x) t])) := by
  refine calls_x mixed Try.func60 b60 n60 rfl q60 (by simp) ?_; unfold c60 r60
  repeat' (first | simp (maxDischargeDepth := 9) -implicitDefEqProofs -dsimp only [go_sem, seval, *] | ((with_reducible refine Zt (fun oF hoF hnF hnF' => ?_)); (try simp only [upd_none, ne_eq, not_and] at hoF)))
  refine fin_new _ ‹_› ?_
  (repeat' (first | simp (maxDischargeDepth := 9) -implicitDefEqProofs -dsimp only [go_sem, seval, *])) <;> (repeat' refine And.intro ?_ ?_) <;> (first | omega | rfl | assumption | skip)
theorem sl_values (xs : List Int) (t : Tok) (σ : Sig) :
    ACalls Try.prog 65 [.slice (xs.map fun x => .int .i64 x) t] σ (NewO σ (fun o => .fn 84 [] [.ptr o 0]) (.cells [.slice (xs.map fun x => .int .i64 x) t])) := by
  refine calls_x mixed Try.func65 b65 n65 rfl q65 (by simp) ?_; unfold c65 r65
  repeat' (first | simp (maxDischargeDepth := 9) -implicitDefEqProofs -dsimp only [go_sem, seval, *] | ((with_reducible refine Zt (fun oF hoF hnF hnF' => ?_)); (try simp only [upd_none, ne_eq, not_and] at hoF)))
  refine fin_new _ ‹_› ?_
  (repeat' (first | simp (maxDischargeDepth := 9) -implicitDefEqProofs -dsimp only [go_sem, seval, *])) <;> (repeat' refine And.intro ?_ ?_) <;> (first | omega | rfl | assumption | skip)
theorem cl_turned (o : Nat) (xs : List Int) (t : Tok) (σ : Sig) (h : σ o = some (.cells [.slice (xs.map fun x => .int .i64 x) t])) (hx : xs.length ≤ 1000000) (hi : ∀ x ∈ xs, I64 x) :
    ACalls Try.prog 81 [.fn 82 [] [.ptr o 0]] σ (fun r σ' => r = .ret (.slice ((notW xs).map fun x => .int .i64 x) .no) ∧ σ' = σ) :=
  sl_collect (notW xs) _ _ σ (by simpa [notW] using hx) (fun τ hτ => iter_turned o xs t τ hx hi (hτ _ _ h))
theorem bl_not (xs : List Int) (t : Tok) (σ : Sig) (hx : xs.length ≤ 1000000) (hi : ∀ x ∈ xs, I64 x) :
    ACalls Try.prog 56 [.slice (xs.map fun x => .int .i64 x) t] σ (fun r σ' => r = .ret (.slice ((notW xs).map fun x => .int .i64 x) .no) ∧ σ' = σ) := by
  have c1 := fun o τ h => cl_turned o xs t τ h hx hi
  clear hx hi
  refine calls_x mixed Try.func56 b56 n56 rfl q56 (by simp) ?_; unfold c56 r56
  repeat' (first | simp (maxDischargeDepth := 9) -implicitDefEqProofs -dsimp only [go_sem, seval, *] | ((with_reducible apply ACalls.one1); (focus ((first | with_reducible refine c1 _ _ ?_) <;> (first | (simp (maxDischargeDepth := 9) -implicitDefEqProofs -dsimp only [go_sem, seval, *]; done) | omega))); (focus (first | trivial | with_reducible exact rfl | (simp (maxDischargeDepth := 9) -implicitDefEqProofs -dsimp only [go_sem, seval]; done)))) | ((with_reducible apply ACalls.newO); (focus ((first | with_reducible refine bl_turned xs t _) <;> (first | (simp (maxDischargeDepth := 9) -implicitDefEqProofs -dsimp only [go_sem, seval, *]; done) | omega))); (intro oF hoF hnF hnF'); (try simp only [upd_none, ne_eq, not_and] at hoF)))
  refine fin_eq ?_
  (repeat' (first | simp (maxDischargeDepth := 9) -implicitDefEqProofs -dsimp only [go_sem, seval, *])) <;> (repeat' refine And.intro ?_ ?_) <;> (first | omega | rfl | assumption | skip)
end Go.Proofs.Ytbbihmmobfmadaa

namespace Go.Proofs.Ytbbihmmobfmadaa
open Abs Fil Fil.Bl A
abbrev encW (x : List Int) (t : Tok) : AV := .slice (x.map fun x => .int .i64 x) t
set_option maxHeartbeats 2000000 in
theorem bl_zip (x y : List Int) (tx ty : Tok) (fF : Nat) (first caps : List AV) (out : Nat → Int) (S : Nat → Sig) (hlen : x.length ≤ y.length) (hx : x.length ≤ 1000000)
    (hd : ∀ k o, S 0 o = none → S k o = none)
    (hdo : ∀ i, i < x.length → ∀ o z, S 0 o = none → ACalls Try.prog fF (first ++ [.int .i64 (gt x i), .int .i64 (gt y i)] ++ caps) (upd (S i) o z) (fun r τ' => r = .ret (.int .i64 (out i)) ∧ τ' = upd (S (i + 1)) o z)) :
    ACalls Try.prog 51 [encW x tx, encW y ty, .fn fF first caps] (S 0) (fun r σ' => r = .ret (encW ((List.range x.length).map out) .no) ∧ σ' = S x.length) := by
  refine calls_x mixed Try.func51 b51 n51 rfl q51 (by simp) ?_; unfold c51 r51
  repeat' (first | simp (maxDischargeDepth := 9) -implicitDefEqProofs -dsimp only [go_sem, seval, *] | simp (disch := omega) only [wrap64] | ((with_reducible refine Zv ?_ ?_); focus (first | omega | exact rfl)) | ((with_reducible refine Zt (fun oF hoF hnF hnF' => ?_)); (try simp only [upd_none, ne_eq, not_and] at hoF)))
  refine loop_rule (fun i : Nat => [(15, some (.int .i64 i)), (14, some (.int .i64 x.length)), (13, some (encW x tx)), (7, some (encW ((List.range i).map out) (.own oF))), (2, some (.fn fF first caps)), (1, some (encW y ty))]) (fun i => upd (S i) oF (.grow 1 i)) (fun i => i ≤ x.length) (fun i => x.length - i) 0 ?_ ?_
  · (repeat' (first | simp (maxDischargeDepth := 9) -implicitDefEqProofs -dsimp only [go_sem, seval, encW, List.range_zero, List.map_nil, *] | simp (disch := omega) only [wrap64])) <;> (repeat' refine And.intro ?_ ?_) <;> (first | omega | rfl | assumption | skip)
  intro i hi
  by_cases hlt : i < x.length
  · have c1 := hdo i hlt oF (.grow 1 i) hoF
    have hgx : (x.map fun x => AV.int .i64 x)[i]? = some (.int .i64 (gt x i)) := by simp [gt, List.getD_eq_getElem?_getD, hlt]
    have hgy : (y.map fun x => AV.int .i64 x)[i]? = some (.int .i64 (gt y i)) := by simp [gt, List.getD_eq_getElem?_getD, show i < y.length by omega]
    have hr : (List.range (i + 1)).map out = (List.range i).map out ++ [out i] := by simp [List.range_succ]
    have hbd : (i + 1) * 8 ≤ 35184372088832 := by omega
    repeat' (first | simp (maxDischargeDepth := 9) -implicitDefEqProofs -dsimp only [go_sem, seval, List.length_range, List.length_map, *] | simp (disch := omega) only [wrap64] | ((with_reducible refine Zv ?_ ?_); focus (first | omega | exact rfl)) | ((with_reducible refine Zt (fun oF hoF hnF hnF' => ?_)); (try simp only [upd_none, ne_eq, not_and] at hoF)) | ((with_reducible apply ACalls.one1); (focus ((first | with_reducible refine c1) <;> (first | (simp (maxDischargeDepth := 9) -implicitDefEqProofs -dsimp only [go_sem, seval, *]; done) | omega))); (focus (first | trivial | with_reducible exact rfl | (simp (maxDischargeDepth := 9) -implicitDefEqProofs -dsimp only [go_sem, seval]; done)))))
    refine loop_next _ _ _ _ (i + 1) ?_; (repeat' (first | simp (maxDischargeDepth := 9) -implicitDefEqProofs -dsimp only [go_sem, seval,  encW, hr, List.map_append, List.map_cons, List.map_nil, *] | simp (disch := omega) only [wrap64])) <;> (repeat' refine And.intro ?_ ?_) <;> (first | omega | rfl | assumption | skip)
  · have : i = x.length := by omega
    subst this
    repeat' (first | simp (maxDischargeDepth := 9) -implicitDefEqProofs -dsimp only [go_sem, seval, *] | simp (disch := omega) only [wrap64] | ((with_reducible refine Zv ?_ ?_); focus (first | omega | exact rfl)) | ((with_reducible refine Zt (fun oF hoF hnF hnF' => ?_)); (try simp only [upd_none, ne_eq, not_and] at hoF)))
    refine fin_eq ?_
    (repeat' (first | simp (maxDischargeDepth := 9) -implicitDefEqProofs -dsimp only [go_sem, seval, encW, *] | simp (disch := omega) only [wrap64])) <;> (repeat' refine And.intro ?_ ?_) <;> (first | omega | rfl | assumption | skip)
end Go.Proofs.Ytbbihmmobfmadaa

namespace Go.Proofs.Ytbbihmmobfmadaa
open Abs Fil Fil.Bl A
theorem full_run (x y c : Int) (b : Bu) {r1 r2 r3 r4 r5 : Int × Bu} (e1 : b.op Bl.Op.xor x y 0 = r1) (e2 : r1.2.op Bl.Op.xor r1.1 c 0 = r2) (e3 : r2.2.op Bl.Op.and x y 0 = r3) (e4 : r3.2.op Bl.Op.and r1.1 c 0 = r4) (e5 : r4.2.op Bl.Op.or r3.1 r4.1 0 = r5) :
    (fullP x y c).run b = ((r2.1, r5.1), r5.2) := by
  subst e1 e2 e3 e4 e5; rfl
theorem bu_sum1 (bo p q : Nat) (b : Bu) (x y c : Int) (σ : Sig) (h : σ bo = some (buC b)) (hs : Wf b.g) (hx : I64 x) (hy : I64 y) (hc : I64 c) (hp : σ p = some (.cells [.ptr bo 0])) (hq : σ q = some (.cells [.int .i64 c])) :
    ACalls Try.prog 80 [.int .i64 x, .int .i64 y, .ptr p 0, .ptr q 0] σ (fun r σ' => r = .ret (.int .i64 ((fullP x y c).run b).1.1) ∧ σ' = upd (upd σ bo (buC ((fullP x y c).run b).2)) q (.cells [.int .i64 ((fullP x y c).run b).1.2])) := by
  obtain ⟨r1, e1⟩ : ∃ r, b.op Bl.Op.xor x y 0 = r := ⟨_, rfl⟩
  have w1 := bu_wf hs Bl.Op.xor x y 0
  have c1 := fun τ h => bu_xor bo b x y τ h hs hx hy
  rw [e1] at w1 c1
  obtain ⟨r2, e2⟩ : ∃ r, r1.2.op Bl.Op.xor r1.1 c 0 = r := ⟨_, rfl⟩
  have w2 := bu_wf w1.1 Bl.Op.xor r1.1 c 0
  have c2 := fun τ h => bu_xor bo r1.2 r1.1 c τ h w1.1 w1.2 hc
  rw [e2] at w2 c2
  obtain ⟨r3, e3⟩ : ∃ r, r2.2.op Bl.Op.and x y 0 = r := ⟨_, rfl⟩
  have w3 := bu_wf w2.1 Bl.Op.and x y 0
  have c3 := fun τ h => bu_and bo r2.2 x y τ h w2.1 hx hy
  rw [e3] at w3 c3
  obtain ⟨r4, e4⟩ : ∃ r, r3.2.op Bl.Op.and r1.1 c 0 = r := ⟨_, rfl⟩
  have w4 := bu_wf w3.1 Bl.Op.and r1.1 c 0
  have c4 := fun τ h => bu_and bo r3.2 r1.1 c τ h w3.1 w1.2 hc
  rw [e4] at w4 c4
  obtain ⟨r5, e5⟩ : ∃ r, r4.2.op Bl.Op.or r3.1 r4.1 0 = r := ⟨_, rfl⟩
  have c5 := fun τ h => bu_or bo r4.2 r3.1 r4.1 τ h w4.1 w3.2 w4.2
  rw [e5] at c5
  rw [full_run x y c b e1 e2 e3 e4 e5]
  obtain ⟨a1, b1⟩ := r1
  obtain ⟨a2, b2⟩ := r2
  obtain ⟨a3, b3⟩ := r3
  obtain ⟨a4, b4⟩ := r4
  obtain ⟨a5, b5⟩ := r5
  simp only at c1 c2 c3 c4 c5 ⊢
  have n1 : ¬ bo = q := fun e => by rw [e, hq] at h; simp [buC, workC] at h
  have n2 : ¬ bo = p := fun e => by rw [e, hp] at h; simp [buC, workC] at h
  have n3 : ¬ p = q := fun e => by rw [e, hq] at hp; simp at hp
  have n1' := Ne.symm n1
  have n2' := Ne.symm n2
  have n3' := Ne.symm n3
  clear e1 e2 e3 e4 e5 w1 w2 w3 w4 hs hx hy hc
  refine calls_x mixed Try.func80 b80 n80 rfl q80 (by simp) ?_; unfold c80 r80
  repeat' (first | simp (maxDischargeDepth := 9) -implicitDefEqProofs -dsimp only [go_sem, seval, *] | ((with_reducible apply ACalls.one1); (focus ((first | with_reducible refine c1 _ ?_ | with_reducible refine c2 _ ?_ | with_reducible refine c3 _ ?_ | with_reducible refine c4 _ ?_ | with_reducible refine c5 _ ?_) <;> (first | (simp (maxDischargeDepth := 9) -implicitDefEqProofs -dsimp only [go_sem, seval, *]; done) | omega))); (focus (first | trivial | with_reducible exact rfl | (simp (maxDischargeDepth := 9) -implicitDefEqProofs -dsimp only [go_sem, seval]; done)))))
  refine fin_eq ?_
  (repeat' (first | simp (maxDischargeDepth := 9) -implicitDefEqProofs -dsimp only [go_sem, seval, *])) <;> (repeat' refine And.intro ?_ ?_) <;> (first | omega | rfl | assumption | skip)
def SumAt (x y : List Int) (c : Int) (b : Bu) (k : Nat) : (List Int × Int) × Bu := (sumP x y c k).run b
theorem sum_next (x y : List Int) (c : Int) (b : Bu) (k : Nat) : SumAt x y c b (k + 1) = (((SumAt x y c b k).1.1 ++ [((fullP (gt x k) (gt y k) (SumAt x y c b k).1.2).run (SumAt x y c b k).2).1.1], ((fullP (gt x k) (gt y k) (SumAt x y c b k).1.2).run (SumAt x y c b k).2).1.2), ((fullP (gt x k) (gt y k) (SumAt x y c b k).1.2).run (SumAt x y c b k).2).2) := by
  show (sumP x y c (k + 1)).run b = _
  unfold sumP
  rw [iter_run, run_bind]
  rfl
theorem i64_gt {l : List Int} (h : ∀ x ∈ l, I64 x) (k : Nat) : I64 (gt l k) := by
  unfold gt
  rw [List.getD_eq_getElem?_getD]
  cases hk : l[k]? with
  | none => exact ⟨by decide, by decide⟩
  | some x => exact h x (List.mem_of_getElem? hk)
theorem full_wf {x y c : Int} {b : Bu} (hs : Wf b.g) : Wf ((fullP x y c).run b).2.g ∧ I64 ((fullP x y c).run b).1.1 ∧ I64 ((fullP x y c).run b).1.2 := by
  rw [full_run x y c b rfl rfl rfl rfl rfl]
  have w1 := bu_wf hs Bl.Op.xor x y 0
  have w2 := bu_wf w1.1 Bl.Op.xor (b.op Bl.Op.xor x y 0).1 c 0
  have w3 := bu_wf w2.1 Bl.Op.and x y 0
  have w4 := bu_wf w3.1 Bl.Op.and (b.op Bl.Op.xor x y 0).1 c 0
  exact ⟨(bu_wf w4.1 _ _ _ _).1, w2.2, (bu_wf w4.1 _ _ _ _).2⟩
theorem sum_wf {x y : List Int} {c : Int} {b : Bu} (hs : Wf b.g) (hc : I64 c) : ∀ k, Wf (SumAt x y c b k).2.g ∧ I64 (SumAt x y c b k).1.2 ∧ (SumAt x y c b k).1.1.length = k ∧ ∀ z ∈ (SumAt x y c b k).1.1, I64 z
  | 0 => ⟨hs, hc, rfl, fun z h => by simp [SumAt, sumP, iter, Pg.run] at h⟩
  | k + 1 => by
    obtain ⟨h1, h2, h3, h4⟩ := sum_wf hs hc k
    rw [sum_next]
    have h5 := full_wf (x := gt x k) (y := gt y k) (c := (SumAt x y c b k).1.2) h1
    refine ⟨h5.1, h5.2.2, by simp [h3], fun z hz => ?_⟩
    rcases List.mem_append.1 hz with hz | hz
    · exact h4 z hz
    · obtain rfl : z = _ := by simpa using hz
      exact h5.2.1
theorem sum_out {x y : List Int} {c : Int} {b : Bu} : ∀ k, (SumAt x y c b k).1.1 = (List.range k).map fun i => ((fullP (gt x i) (gt y i) (SumAt x y c b i).1.2).run (SumAt x y c b i).2).1.1
  | 0 => rfl
  | k + 1 => by rw [sum_next, List.range_succ, List.map_append, ← sum_out k]; rfl
set_option maxHeartbeats 2000000 in
theorem bu_sum (bo : Nat) (b : Bu) (x y : List Int) (tx ty : Tok) (c : Int) (σ : Sig) (h : σ bo = some (buC b)) (hs : Wf b.g) (hx : ∀ z ∈ x, I64 z) (hy : ∀ z ∈ y, I64 z) (hc : I64 c) (hlen : x.length ≤ y.length) (hxl : x.length ≤ 1000000) :
    ACalls Try.prog 55 [.ptr bo 0, encW x tx, encW y ty, .int .i64 c] σ (fun r σ' => r = .ret (.tup [encW ((sumW x y c).run b).1.1 .no, .int .i64 ((sumW x y c).run b).1.2]) ∧ σ' = upd σ bo (buC ((sumW x y c).run b).2)) := by
  show ACalls Try.prog 55 _ σ (fun r σ' => r = .ret (.tup [encW (SumAt x y c b x.length).1.1 .no, .int .i64 (SumAt x y c b x.length).1.2]) ∧ σ' = upd σ bo (buC (SumAt x y c b x.length).2))
  have key : ∀ p q, σ p = none → σ q = none → ¬ p = q → ACalls Try.prog 51 [encW x tx, encW y ty, .fn 80 [] [.ptr p 0, .ptr q 0]] (upd (upd σ p (.cells [.ptr bo 0])) q (.cells [.int .i64 c])) (fun r σ' => r = .ret (encW (SumAt x y c b x.length).1.1 .no) ∧ σ' = upd (upd (upd σ p (.cells [.ptr bo 0])) q (.cells [.int .i64 (SumAt x y c b x.length).1.2])) bo (buC (SumAt x y c b x.length).2)) := by
    intro p q hp hq hpq
    have n1 : ¬ bo = q := fun e => by rw [e, hq] at h; simp at h
    have n2 : ¬ bo = p := fun e => by rw [e, hp] at h; simp at h
    have hz := bl_zip x y tx ty 80 [] [.ptr p 0, .ptr q 0] (fun i => ((fullP (gt x i) (gt y i) (SumAt x y c b i).1.2).run (SumAt x y c b i).2).1.1)
      (fun k => upd (upd (upd σ p (.cells [.ptr bo 0])) q (.cells [.int .i64 (SumAt x y c b k).1.2])) bo (buC (SumAt x y c b k).2)) hlen hxl ?_ ?_
    · rw [← sum_out] at hz
      have e0 : upd (upd (upd σ p (.cells [.ptr bo 0])) q (.cells [.int .i64 (SumAt x y c b 0).1.2])) bo (buC (SumAt x y c b 0).2) = upd (upd σ p (.cells [.ptr bo 0])) q (.cells [.int .i64 c]) := by
        funext i
        by_cases hi : i = bo
        · subst hi; simp only [upd, if_true, if_neg n1, if_neg n2, h]; rfl
        · simp only [upd, if_neg hi]; rfl
      rw [e0] at hz
      exact hz
    · intro k o ho
      have a1 : ¬ o = bo := fun e => by subst e; simp [upd] at ho
      have a2 : ¬ o = q := fun e => by subst e; simp [upd, a1] at ho
      have a3 : ¬ o = p := fun e => by subst e; simp [upd, a1, a2] at ho
      simpa [upd, a1, a2, a3] using ho
    · intro i hi o z ho
      have a1 : ¬ o = bo := fun e => by subst e; simp [upd] at ho
      have a2 : ¬ o = q := fun e => by subst e; simp [upd, a1] at ho
      have a3 : ¬ o = p := fun e => by subst e; simp [upd, a1, a2] at ho
      obtain ⟨w1, w2, _, _⟩ := sum_wf (x := x) (y := y) hs hc i
      have hh := bu_sum1 bo p q (SumAt x y c b i).2 (gt x i) (gt y i) (SumAt x y c b i).1.2 (upd (upd (upd (upd σ p (.cells [.ptr bo 0])) q (.cells [.int .i64 (SumAt x y c b i).1.2])) bo (buC (SumAt x y c b i).2)) o z)
        (by simp [upd, Ne.symm a1]) w1 (i64_gt hx i) (i64_gt hy i) w2 (by simp [upd, Ne.symm a3, Ne.symm n2, hpq]) (by simp [upd, Ne.symm a2, Ne.symm n1])
      refine hh.mono fun r σ' ⟨q1, q2⟩ => ⟨q1, ?_⟩
      rw [q2, sum_next]
      funext j
      by_cases j1 : j = o
      · subst j1; simp [upd, a1, a2]
      by_cases j2 : j = q
      · subst j2; simp [upd, j1, Ne.symm n1]
      by_cases j3 : j = bo
      · subst j3; simp [upd, j1, j2]
      simp [upd, j1, j2, j3]
  clear hs hx hy hc hlen hxl
  obtain ⟨G, hG⟩ : ∃ G, SumAt x y c b x.length = G := ⟨_, rfl⟩
  rw [hG] at key ⊢
  obtain ⟨⟨g1, g2⟩, g3⟩ := G
  simp only at key ⊢
  clear hG
  refine calls_x mixed Try.func55 b55 n55 rfl q55 (by simp) ?_; unfold c55 r55
  repeat' (first | simp (maxDischargeDepth := 9) -implicitDefEqProofs -dsimp only [go_sem, seval, *] | ((with_reducible refine Zt (fun oF hoF hnF hnF' => ?_)); (try simp only [upd_none, ne_eq, not_and] at hoF)) | ((with_reducible apply ACalls.one1); (focus ((first | with_reducible refine key _ _ ?_ ?_ ?_) <;> (first | (simp (maxDischargeDepth := 9) -implicitDefEqProofs -dsimp only [go_sem, seval, *]; done) | omega))); (focus (first | trivial | with_reducible exact rfl | (simp (maxDischargeDepth := 9) -implicitDefEqProofs -dsimp only [go_sem, seval]; done)))))
  refine fin_eq ?_
  (repeat' (first | simp (maxDischargeDepth := 9) -implicitDefEqProofs -dsimp only [go_sem, seval, *])) <;> (repeat' refine And.intro ?_ ?_) <;> (first | omega | rfl | assumption | skip)
end Go.Proofs.Ytbbihmmobfmadaa

namespace Go.Proofs.Ytbbihmmobfmadaa
open Abs Fil Fil.Bl A
theorem xor1' (a : Int) (h : I64 a) : IntKind.i64.wrap ((BitVec.ofInt IntKind.i64.bits 1 ^^^ BitVec.ofInt IntKind.i64.bits a).toNat : Nat) = turn a := by
  rw [BitVec.xor_comm]; exact xor1 a h.1 h.2
theorem i64_turn {a : Int} (h : I64 a) : I64 (turn a) := by
  unfold I64 turn at *; omega
theorem i64_not {x : List Int} (h : ∀ z ∈ x, I64 z) : ∀ z ∈ notW x, I64 z := by
  intro z hz
  obtain ⟨y, hy, rfl⟩ := List.mem_map.1 hz
  exact i64_turn (h y hy)
theorem sumW_wf {x y : List Int} {c : Int} {b : Bu} (hs : Wf b.g) (hc : I64 c) : Wf ((sumW x y c).run b).2.g ∧ I64 ((sumW x y c).run b).1.2 ∧ ((sumW x y c).run b).1.1.length = x.length ∧ ∀ z ∈ ((sumW x y c).run b).1.1, I64 z := sum_wf hs hc x.length
theorem bu_less (bo : Nat) (b : Bu) (x y : List Int) (tx ty : Tok) (σ : Sig) (h : σ bo = some (buC b)) (hs : Wf b.g) (hx : ∀ z ∈ x, I64 z) (hy : ∀ z ∈ y, I64 z) (hlen : x.length ≤ y.length) (hyl : y.length ≤ 1000000) :
    ACalls Try.prog 61 [.ptr bo 0, encW x tx, encW y ty] σ (fun r σ' => r = .ret (.int .i64 ((lessW x y).run b).1) ∧ σ' = upd σ bo (buC ((lessW x y).run b).2)) := by
  have e : (lessW x y).run b = (turn ((sumW x (notW y) 1).run b).1.2, ((sumW x (notW y) 1).run b).2) := by unfold lessW; rw [run_bind]; rfl
  rw [e]
  have c1 := fun τ => bl_not y ty τ hyl hy
  have hl2 : x.length ≤ (notW y).length := by simpa [notW] using hlen
  have c2 := fun τ h => bu_sum bo b x (notW y) tx .no 1 τ h hs hx (i64_not hy) ⟨by decide, by decide⟩ hl2 (by omega)
  have hw := (sumW_wf (x := x) (y := notW y) (c := 1) hs ⟨by decide, by decide⟩).2.1
  obtain ⟨G, hG⟩ : ∃ G, (sumW x (notW y) 1).run b = G := ⟨_, rfl⟩
  rw [hG] at c2 hw ⊢
  obtain ⟨⟨g1, g2⟩, g3⟩ := G
  simp only at c2 hw ⊢
  have hxx := xor1' g2 hw
  clear e hG hs hx hy hlen hyl hl2 hw
  refine calls_x mixed Try.func61 b61 n61 rfl q61 (by simp) ?_; unfold c61 r61
  repeat' (first | simp (maxDischargeDepth := 9) -implicitDefEqProofs -dsimp only [go_sem, seval, *] | ((with_reducible apply ACalls.one1); (focus ((first | with_reducible refine c1 _ | with_reducible refine c2 _ ?_) <;> (first | (simp (maxDischargeDepth := 9) -implicitDefEqProofs -dsimp only [go_sem, seval, *]; done) | omega))); (focus (first | trivial | with_reducible exact rfl | (simp (maxDischargeDepth := 9) -implicitDefEqProofs -dsimp only [go_sem, seval]; done)))))
  refine fin_eq ?_
  (repeat' (first | simp (maxDischargeDepth := 9) -implicitDefEqProofs -dsimp only [go_sem, seval, *])) <;> (repeat' refine And.intro ?_ ?_) <;> (first | omega | rfl | assumption | skip)
def RowAt (x : List Int) (bit : Int) (i : Nat) (b : Bu) (j : Nat) : List Int × Bu := (rowP x bit i j).run b
theorem row_next (x : List Int) (bit : Int) (i : Nat) (b : Bu) (j : Nat) : RowAt x bit i b (j + 1) = ((RowAt x bit i b j).1 ++ [((RowAt x bit i b j).2.op Bl.Op.and (gt x j) bit 0).1], ((RowAt x bit i b j).2.op Bl.Op.and (gt x j) bit 0).2) := by
  show (rowP x bit i (j + 1)).run b = _
  unfold rowP
  rw [iter_run, run_bind]
  rfl
theorem row_wf {x : List Int} {bit : Int} {i : Nat} {b : Bu} (hs : Wf b.g) : ∀ j, Wf (RowAt x bit i b j).2.g ∧ (RowAt x bit i b j).1.length = i + j ∧ ∀ z ∈ (RowAt x bit i b j).1, I64 z
  | 0 => ⟨hs, by simp [RowAt, rowP, iter, Pg.run], fun z h => by
    simp only [RowAt, rowP, iter, Pg.run, List.mem_replicate] at h
    rw [h.2]; exact ⟨by decide, by decide⟩⟩
  | j + 1 => by
    obtain ⟨h1, h2, h3⟩ := row_wf (x := x) (bit := bit) (i := i) hs j
    rw [row_next]
    have h4 := bu_wf h1 Bl.Op.and (gt x j) bit 0
    refine ⟨h4.1, by simp [h2]; omega, fun z hz => ?_⟩
    rcases List.mem_append.1 hz with hz | hz
    · exact h3 z hz
    · obtain rfl : z = _ := by simpa using hz
      exact h4.2
def MulAt (x y : List Int) (b : Bu) (i : Nat) : List Int × Bu := (mulP x y i).run b
theorem mul_next (x y : List Int) (b : Bu) (i : Nat) : MulAt x y b (i + 1) = (((sumW (MulAt x y b i).1 (RowAt x (gt y i) i (MulAt x y b i).2 (x.length - i)).1 0).run (RowAt x (gt y i) i (MulAt x y b i).2 (x.length - i)).2).1.1, ((sumW (MulAt x y b i).1 (RowAt x (gt y i) i (MulAt x y b i).2 (x.length - i)).1 0).run (RowAt x (gt y i) i (MulAt x y b i).2 (x.length - i)).2).2) := by
  show (mulP x y (i + 1)).run b = _
  unfold mulP
  rw [iter_run, run_bind, run_bind]
  rfl
theorem mul_wf {x y : List Int} {b : Bu} (hs : Wf b.g) : ∀ i, Wf (MulAt x y b i).2.g ∧ (MulAt x y b i).1.length = x.length ∧ ∀ z ∈ (MulAt x y b i).1, I64 z
  | 0 => ⟨hs, by simp [MulAt, mulP, iter, Pg.run], fun z h => by
    simp only [MulAt, mulP, iter, Pg.run, List.mem_replicate] at h
    rw [h.2]; exact ⟨by decide, by decide⟩⟩
  | i + 1 => by
    obtain ⟨h1, h2, h3⟩ := mul_wf (x := x) (y := y) hs i
    rw [mul_next]
    have h4 := row_wf (x := x) (bit := gt y i) (i := i) h1 (x.length - i)
    have h5 := sumW_wf (x := (MulAt x y b i).1) (y := (RowAt x (gt y i) i (MulAt x y b i).2 (x.length - i)).1) (c := 0) h4.1 ⟨by decide, by decide⟩
    exact ⟨h5.1, h5.2.2.1.trans h2, h5.2.2.2⟩
set_option maxHeartbeats 4000000 in
theorem bu_mul (bo : Nat) (b : Bu) (x y : List Int) (tx ty : Tok) (σ : Sig) (h : σ bo = some (buC b)) (hs : Wf b.g) (hx : ∀ z ∈ x, I64 z) (hy : ∀ z ∈ y, I64 z) (hlen : y.length ≤ x.length) (hx1 : 1 ≤ x.length) (hxl : x.length ≤ 1000000) :
    ACalls Try.prog 57 [.ptr bo 0, encW x tx, encW y ty] σ (fun r σ' => r = .ret (encW (MulAt x y b y.length).1 .no) ∧ σ' = upd σ bo (buC (MulAt x y b y.length).2)) := by
  have hmw := fun i => mul_wf (x := x) (y := y) hs i
  have hmn := mul_next x y b
  have h0 : MulAt x y b 0 = (List.replicate x.length 0, b) := rfl
  obtain ⟨G, hG⟩ : ∃ G, MulAt x y b = G := ⟨_, rfl⟩
  rw [hG] at hmw hmn h0 ⊢
  clear hG
  have hbx : x.length * 8 ≤ 35184372088832 := by omega
  refine calls_x mixed Try.func57 b57 n57 rfl q57 (by simp) ?_; unfold c57 r57
  repeat' (first | simp (maxDischargeDepth := 9) -implicitDefEqProofs -dsimp only [go_sem, seval, List.length_map, *] | simp (disch := omega) only [wrap64] | ((with_reducible refine Zv ?_ ?_); focus (first | omega | exact rfl)) | ((with_reducible refine Zt (fun oF hoF hnF hnF' => ?_)); (try simp only [upd_none, ne_eq, not_and] at hoF)))
  refine loop_rule (fun i : Nat => [(18, some (.int .i64 i)), (17, some (.int .i64 y.length)), (16, some (encW y ty)), (1, some (encW x tx)), (0, some (.ptr bo 0)), (7, some (encW (G i).1 .no))]) (fun i => upd σ bo (buC (G i).2)) (fun i => i ≤ y.length) (fun i => y.length - i) 0 ?_ ?_
  · have nb : ¬ bo = oF := fun e => by rw [e, hoF] at h; simp at h
    have nb' := Ne.symm nb
    (repeat' (first | simp (maxDischargeDepth := 9) -implicitDefEqProofs -dsimp only [go_sem, seval, h0, encW, List.map_replicate, *] | simp (disch := omega) only [wrap64])) <;> (repeat' refine And.intro ?_ ?_) <;> (first | omega | rfl | assumption | skip)
  intro i hi
  by_cases hlt : i < y.length
  · have hgy : (y.map fun x => AV.int .i64 x)[i]? = some (.int .i64 (gt y i)) := by simp [gt, List.getD_eq_getElem?_getD, hlt]
    have hix : i ≤ x.length := by omega
    have hsub : ((x.length : Int) - (i : Int)) = ((x.length - i : Nat) : Int) := by omega
    have hbi := i64_gt hy i
    have hrw := fun j => row_wf (x := x) (bit := gt y i) (i := i) (hmw i).1 j
    have hrn := row_next x (gt y i) i (G i).2
    have hr0 : RowAt x (gt y i) i (G i).2 0 = (List.replicate i 0, (G i).2) := rfl
    have hG1 := hmn i
    have hGi := hmw i
    obtain ⟨R, hR⟩ : ∃ R, RowAt x (gt y i) i (G i).2 = R := ⟨_, rfl⟩
    rw [hR] at hrw hrn hr0 hG1
    obtain ⟨bit, hbit⟩ : ∃ B, gt y i = B := ⟨_, rfl⟩
    rw [hbit] at hgy hbi hrn
    clear hR hbit
    repeat' (first | simp (maxDischargeDepth := 9) -implicitDefEqProofs -dsimp only [go_sem, seval, List.length_map, *] | simp (disch := omega) only [wrap64] | ((with_reducible refine Zv ?_ ?_); focus (first | omega | exact rfl)) | ((with_reducible refine Zt (fun oF hoF hnF hnF' => ?_)); (try simp only [upd_none, ne_eq, not_and] at hoF)))
    refine loop_rule (fun j : Nat => [(34, some (.int .i64 j)), (33, some (.int .i64 (x.length - i : Nat))), (32, some (encW (x.take (x.length - i)) .no)), (10, some (encW (R j).1 (.own oF))), (0, some (.ptr bo 0)), (9, some (.int .i64 bit)), (7, some (encW (G i).1 .no)), (18, some (.int .i64 i)), (17, some (.int .i64 y.length)), (16, some (encW y ty)), (1, some (encW x tx))])
      (fun j => upd (upd σ bo (buC (R j).2)) oF (.grow 1 (i + j))) (fun j => j ≤ x.length - i) (fun j => x.length - i - j) 0 ?_ ?_
    · have htk : List.take (x.length - i) (List.map (fun x => AV.int .i64 x) x) = List.map (fun x => AV.int .i64 x) (List.take (x.length - i) x) := List.map_take.symm
      have hln : (List.take (x.length - i) x).length = x.length - i := by simp
      (repeat' (first | simp (maxDischargeDepth := 9) -implicitDefEqProofs -dsimp only [go_sem, seval, hr0, encW, htk, hln, List.length_map, List.map_replicate, Nat.add_zero, *] | simp (disch := omega) only [wrap64])) <;> (repeat' refine And.intro ?_ ?_) <;> (first | omega | rfl | assumption | skip)
    intro j hj
    have hln : (List.take (x.length - i) x).length = x.length - i := by simp
    by_cases hlj : j < x.length - i
    · have hgx : ((x.take (x.length - i)).map fun x => AV.int .i64 x)[j]? = some (.int .i64 (gt x j)) := by
        rw [List.getElem?_map, List.getElem?_take_of_lt hlj]
        simp [gt, List.getD_eq_getElem?_getD, show j < x.length by omega]
      have c1 := fun τ h => bu_and bo (R j).2 (gt x j) bit τ h (hrw j).1 (i64_gt hx j) hbi
      have hn := hrn j
      have hRl := (hrw j).2.1
      obtain ⟨r, hr⟩ : ∃ r, (R j).2.op Bl.Op.and (gt x j) bit 0 = r := ⟨_, rfl⟩
      rw [hr] at c1 hn
      have hjj : ((j : Int)) < ((x.length - i : Nat) : Int) := by omega
      have hbd : (i + j + 1) * 8 ≤ 35184372088832 := by omega
      clear hr hrw hrn hG1 hGi hmw hmn hs hx hy hbi
      repeat' (first | simp (maxDischargeDepth := 9) -implicitDefEqProofs -dsimp only [go_sem, seval, List.length_map, *] | simp (disch := omega) only [wrap64] | ((with_reducible refine Zv ?_ ?_); focus (first | omega | exact rfl)) | ((with_reducible refine Zt (fun oF hoF hnF hnF' => ?_)); (try simp only [upd_none, ne_eq, not_and] at hoF)) | ((with_reducible apply ACalls.one1); (focus ((first | with_reducible refine c1 _ ?_) <;> (first | (simp (maxDischargeDepth := 9) -implicitDefEqProofs -dsimp only [go_sem, seval, *]; done) | omega))); (focus (first | trivial | with_reducible exact rfl | (simp (maxDischargeDepth := 9) -implicitDefEqProofs -dsimp only [go_sem, seval]; done)))))
      have hadd : i + (j + 1) = i + j + 1 := rfl
      refine loop_next _ _ _ _ (j + 1) ?_; (repeat' (first | simp (maxDischargeDepth := 9) -implicitDefEqProofs -dsimp only [go_sem, seval,  hn, encW, hadd, List.map_append, List.map_cons, List.map_nil, *] | simp (disch := omega) only [wrap64])) <;> (repeat' refine And.intro ?_ ?_) <;> (first | omega | rfl | assumption | skip)
    · have : j = x.length - i := by omega
      subst this
      have hRl := hrw (x.length - i)
      have hrl : (G i).1.length ≤ (R (x.length - i)).1.length := by rw [hRl.2.1, hGi.2.1]; omega
      have c1 := fun τ h => bu_sum bo (R (x.length - i)).2 (G i).1 (R (x.length - i)).1 .no (.own oF) 0 τ h hRl.1 hGi.2.2 hRl.2.2 ⟨by decide, by decide⟩ hrl (by rw [hGi.2.1]; exact hxl)
      obtain ⟨Z, hZ⟩ : ∃ Z, (sumW (G i).1 (R (x.length - i)).1 0).run (R (x.length - i)).2 = Z := ⟨_, rfl⟩
      rw [hZ] at c1 hG1
      clear hZ hrw hrn hmw hmn hs hx hy hbi hrl hRl hGi
      repeat' (first | simp (maxDischargeDepth := 9) -implicitDefEqProofs -dsimp only [go_sem, seval, *] | simp (disch := omega) only [wrap64] | ((with_reducible refine Zv ?_ ?_); focus (first | omega | exact rfl)) | ((with_reducible refine Zt (fun oF hoF hnF hnF' => ?_)); (try simp only [upd_none, ne_eq, not_and] at hoF)) | ((with_reducible apply ACalls.one1); (focus ((first | with_reducible refine c1 _ ?_) <;> (first | (simp (maxDischargeDepth := 9) -implicitDefEqProofs -dsimp only [go_sem, seval, *]; done) | omega))); (focus (first | trivial | with_reducible exact rfl | (simp (maxDischargeDepth := 9) -implicitDefEqProofs -dsimp only [go_sem, seval]; done)))))
      refine loop_next _ _ _ _ (i + 1) ?_; (repeat' (first | simp (maxDischargeDepth := 9) -implicitDefEqProofs -dsimp only [go_sem, seval,  hG1, encW, *] | simp (disch := omega) only [wrap64])) <;> (repeat' refine And.intro ?_ ?_) <;> (first | omega | rfl | assumption | skip)
  · have : i = y.length := by omega
    subst this
    clear hmw hmn hs hx hy
    repeat' (first | simp (maxDischargeDepth := 9) -implicitDefEqProofs -dsimp only [go_sem, seval, *] | simp (disch := omega) only [wrap64] | ((with_reducible refine Zv ?_ ?_); focus (first | omega | exact rfl)) | ((with_reducible refine Zt (fun oF hoF hnF hnF' => ?_)); (try simp only [upd_none, ne_eq, not_and] at hoF)))
    refine fin_eq ?_
    (repeat' (first | simp (maxDischargeDepth := 9) -implicitDefEqProofs -dsimp only [go_sem, seval, *] | simp (disch := omega) only [wrap64])) <;> (repeat' refine And.intro ?_ ?_) <;> (first | omega | rfl | assumption | skip)
end Go.Proofs.Ytbbihmmobfmadaa

namespace Go.Proofs.Ytbbihmmobfmadaa
open Abs Fil Fil.Bl A
def S1At (x : List Int) (bit : Int) (up : Bool) (i : Nat) (b : Bu) (j : Nat) : List Int × Bu := (shift1 x bit up i j).run b
theorem s1_next (x : List Int) (bit : Int) (up : Bool) (i : Nat) (b : Bu) (j : Nat) : S1At x bit up i b (j + 1) = ((S1At x bit up i b j).1 ++ [((S1At x bit up i b j).2.op Bl.Op.mux bit (far x (farI up i j)) (gt x j)).1], ((S1At x bit up i b j).2.op Bl.Op.mux bit (far x (farI up i j)) (gt x j)).2) := by
  show (shift1 x bit up i (j + 1)).run b = _
  unfold shift1
  rw [iter_run, run_bind]
  rfl
theorem s1_wf {x : List Int} {bit : Int} {up : Bool} {i : Nat} {b : Bu} (hs : Wf b.g) : ∀ j, Wf (S1At x bit up i b j).2.g ∧ (S1At x bit up i b j).1.length = j ∧ ∀ z ∈ (S1At x bit up i b j).1, I64 z
  | 0 => ⟨hs, rfl, fun z h => by simp [S1At, shift1, iter, Pg.run] at h⟩
  | j + 1 => by
    obtain ⟨h1, h2, h3⟩ := s1_wf (x := x) (bit := bit) (up := up) (i := i) hs j
    rw [s1_next]
    have h4 := bu_wf h1 Bl.Op.mux bit (far x (farI up i j)) (gt x j)
    refine ⟨h4.1, by simp [h2], fun z hz => ?_⟩
    rcases List.mem_append.1 hz with hz | hz
    · exact h3 z hz
    · obtain rfl : z = _ := by simpa using hz
      exact h4.2
def ShAt (x y : List Int) (up : Bool) (b : Bu) (i : Nat) : List Int × Bu := (shiftP x y up i).run b
theorem sh_next (x y : List Int) (up : Bool) (b : Bu) (i : Nat) : ShAt x y up b (i + 1) = S1At (ShAt x y up b i).1 (gt y i) up i (ShAt x y up b i).2 (ShAt x y up b i).1.length := by
  show (shiftP x y up (i + 1)).run b = _
  unfold shiftP
  rw [iter_run]
  rfl
theorem sh_wf {x y : List Int} {up : Bool} {b : Bu} (hs : Wf b.g) (hx : ∀ z ∈ x, I64 z) : ∀ i, Wf (ShAt x y up b i).2.g ∧ (ShAt x y up b i).1.length = x.length ∧ ∀ z ∈ (ShAt x y up b i).1, I64 z
  | 0 => ⟨hs, rfl, hx⟩
  | i + 1 => by
    obtain ⟨h1, h2, h3⟩ := sh_wf (y := y) (up := up) hs hx i
    rw [sh_next]
    have h4 := s1_wf (x := (ShAt x y up b i).1) (bit := gt y i) (up := up) (i := i) h1 (ShAt x y up b i).1.length
    exact ⟨h4.1, h4.2.1.trans h2, h4.2.2⟩
theorem i64_far {x : List Int} (h : ∀ z ∈ x, I64 z) (k : Int) : I64 (far x k) := by
  unfold far
  split
  · exact i64_gt h _
  · exact ⟨by decide, by decide⟩
set_option maxHeartbeats 4000000 in
theorem bu_shift (bo : Nat) (b : Bu) (x y : List Int) (tx ty : Tok) (up : Bool) (σ : Sig) (h : σ bo = some (buC b)) (hs : Wf b.g) (hx : ∀ z ∈ x, I64 z) (hy : ∀ z ∈ y, I64 z) (hx1 : 1 ≤ x.length) (hxl : x.length ≤ 1000000) (hyl : y.length ≤ 1000000) :
    ACalls Try.prog 58 [.ptr bo 0, encW x tx, encW y ty, .int .i64 (if up then 1 else -1)] σ (fun r σ' => r = .ret (encW (ShAt x y up b y.length).1 .no) ∧ σ' = upd σ bo (buC (ShAt x y up b y.length).2)) := by
  have hmw := fun i => sh_wf (y := y) (up := up) hs hx i
  have hmn := sh_next x y up b
  have h0 : ShAt x y up b 0 = (x, b) := rfl
  obtain ⟨G, hG⟩ : ∃ G, ShAt x y up b = G := ⟨_, rfl⟩
  rw [hG] at hmw hmn h0 ⊢
  obtain ⟨way, hway⟩ : ∃ w : Int, (if up then 1 else -1) = w := ⟨_, rfl⟩
  rw [hway]
  clear hG
  refine calls_x mixed Try.func58 b58 n58 rfl q58 (by simp) ?_; unfold c58 r58
  repeat' (first | simp (maxDischargeDepth := 9) -implicitDefEqProofs -dsimp only [go_sem, seval, List.length_map, *] | simp (disch := omega) only [wrap64] | ((with_reducible refine Zt (fun oF hoF hnF hnF' => ?_)); (try simp only [upd_none, ne_eq, not_and] at hoF)))
  refine loop_rule (fun i : Nat => [(19, some (.int .i64 i)), (18, some (.int .i64 y.length)), (17, some (encW y ty)), (3, some (.int .i64 way)), (0, some (.ptr bo 0)), (1, some (encW (G i).1 .no))]) (fun i => upd σ bo (buC (G i).2)) (fun i => i ≤ y.length) (fun i => y.length - i) 0 ?_ ?_
  · (repeat' (first | simp (maxDischargeDepth := 9) -implicitDefEqProofs -dsimp only [go_sem, seval, h0, encW, *] | simp (disch := omega) only [wrap64])) <;> (repeat' refine And.intro ?_ ?_) <;> (first | omega | rfl | assumption | skip)
  intro i hi
  by_cases hlt : i < y.length
  · have hgy : (y.map fun x => AV.int .i64 x)[i]? = some (.int .i64 (gt y i)) := by simp [gt, List.getD_eq_getElem?_getD, hlt]
    have hbi := i64_gt hy i
    have hG1 := hmn i
    have hGi := hmw i
    obtain ⟨bit, hbit⟩ : ∃ B, gt y i = B := ⟨_, rfl⟩
    rw [hbit] at hgy hbi hG1
    clear hbit
    have hmin : ¬ min (i : Int) 8 < 0 := by omega
    obtain ⟨FAR, hFAR⟩ : ∃ F : Int, way * 2 ^ (min i 8) = F := ⟨_, rfl⟩
    have hpw : 2 ^ (min i 8) ≤ 2 ^ 8 := Nat.pow_le_pow_right (by omega) (by omega)
    have hpp := Nat.two_pow_pos (min i 8)
    have hcast : ((2 : Int) ^ (min i 8)) = ((2 ^ (min i 8) : Nat) : Int) := by simp
    have hFb : -256 ≤ FAR ∧ FAR ≤ 256 := by
      rw [← hFAR, hcast, ← hway]
      cases up <;> simp only [if_true, if_false, Bool.false_eq_true] <;> omega
    have hfar : ∀ j : Nat, farI up i j = (j : Int) - FAR := fun j => by
      rw [← hFAR, ← hway]
      unfold farI
      cases up <;> simp only [if_true, if_false, Bool.false_eq_true] <;> omega
    have hsh : IntKind.i64.wrap (way * 2 ^ ((min (i : Int) 8).toNat.min 64)) = FAR := by
      have e : (min (i : Int) 8).toNat.min 64 = min i 8 := by
        show min (min (i : Int) 8).toNat 64 = min i 8
        omega
      rw [e, hFAR, wrap64 _ (by omega) (by omega)]
    have hrw := fun j => s1_wf (x := (G i).1) (bit := bit) (up := up) (i := i) hGi.1 j
    have hrn := s1_next (G i).1 bit up i (G i).2
    have hr0 : S1At (G i).1 bit up i (G i).2 0 = ([], (G i).2) := rfl
    obtain ⟨R, hR⟩ : ∃ R, S1At (G i).1 bit up i (G i).2 = R := ⟨_, rfl⟩
    rw [hR] at hrw hrn hr0 hG1
    clear hR hFAR hpw hpp hcast hway
    repeat' (first | simp (maxDischargeDepth := 9) -implicitDefEqProofs -dsimp only [go_sem, seval, List.length_map, *] | simp (disch := omega) only [wrap64] | ((with_reducible refine Zt (fun oF hoF hnF hnF' => ?_)); (try simp only [upd_none, ne_eq, not_and] at hoF)))
    refine loop_rule (fun j : Nat => [(31, some (.int .i64 j)), (30, some (.int .i64 x.length)), (29, some (encW (G i).1 .no)), (11, some (.int .i64 FAR)), (12, some (encW (G i).1 .no)), (1, some (encW (R j).1 (.own oF))), (0, some (.ptr bo 0)), (10, some (.int .i64 bit)), (19, some (.int .i64 i)), (18, some (.int .i64 y.length)), (17, some (encW y ty)), (3, some (.int .i64 way))])
      (fun j => upd (upd σ bo (buC (R j).2)) oF (.grow 1 j)) (fun j => j ≤ x.length) (fun j => x.length - j) 0 ?_ ?_
    · (repeat' (first | simp (maxDischargeDepth := 9) -implicitDefEqProofs -dsimp only [go_sem, seval, hr0, encW, List.map_nil, *] | simp (disch := omega) only [wrap64])) <;> (repeat' refine And.intro ?_ ?_) <;> (first | omega | rfl | assumption | skip)
    intro j hj
    have hGl := hGi.2.1
    by_cases hlj : j < x.length
    · have hgx : ((G i).1.map fun x => AV.int .i64 x)[j]? = some (.int .i64 (gt (G i).1 j)) := by
        simp [gt, List.getD_eq_getElem?_getD, hGl, hlj]
      have c1 := fun τ h => bu_mux bo (R j).2 bit (far (G i).1 (farI up i j)) (gt (G i).1 j) τ h (hrw j).1 hbi (i64_far hGi.2.2 _) (i64_gt hGi.2.2 j)
      have hn := hrn j
      have hRl := (hrw j).2.1
      obtain ⟨r, hr⟩ : ∃ r, (R j).2.op Bl.Op.mux bit (far (G i).1 (farI up i j)) (gt (G i).1 j) = r := ⟨_, rfl⟩
      rw [hr] at c1 hn
      have hbd : (j + 1) * 8 ≤ 35184372088832 := by omega
      have hw : IntKind.i64.wrap ((j : Int) - FAR) = (j : Int) - FAR := wrap64 _ (by omega) (by omega)
      have hff := hfar j
      rw [hff] at c1
      clear hr hrw hrn hG1 hGi hmw hmn hs hx hy hbi hfar hsh hmin hff
      by_cases hk : 0 ≤ (j : Int) - FAR ∧ (j : Int) - FAR < x.length
      · obtain ⟨kk, hkk⟩ : ∃ kk : Nat, (j : Int) - FAR = kk := ⟨((j : Int) - FAR).toNat, by omega⟩
        have hfa : far (G i).1 ((j : Int) - FAR) = gt (G i).1 kk := by
          unfold far
          rw [if_pos (by rw [hGl]; exact hk), hkk]; rfl
        have hkl : kk < x.length := by omega
        have hgk : ((G i).1.map fun x => AV.int .i64 x)[kk]? = some (.int .i64 (gt (G i).1 kk)) := by
          simp [gt, List.getD_eq_getElem?_getD, hGl, hkl]
        rw [hfa] at c1
        rw [hkk] at hw
        clear hk hfa hFb
        have hk0 : (kk : Int) ≥ 0 := by omega
        have hk1 : (kk : Int) < (x.length : Int) := by omega
        repeat' (first | simp (maxDischargeDepth := 9) -implicitDefEqProofs -dsimp only [go_sem, seval, List.length_map, *] | simp (disch := omega) only [wrap64] | ((with_reducible refine Zt (fun oF hoF hnF hnF' => ?_)); (try simp only [upd_none, ne_eq, not_and] at hoF)) | ((with_reducible apply ACalls.one1); (focus ((first | with_reducible refine c1 _ ?_) <;> (first | (simp (maxDischargeDepth := 9) -implicitDefEqProofs -dsimp only [go_sem, seval, *]; done) | omega))); (focus (first | trivial | with_reducible exact rfl | (simp (maxDischargeDepth := 9) -implicitDefEqProofs -dsimp only [go_sem, seval]; done)))))
        refine loop_next _ _ _ _ (j + 1) ?_; (repeat' (first | simp (maxDischargeDepth := 9) -implicitDefEqProofs -dsimp only [go_sem, seval,  hn, encW, List.map_append, List.map_cons, List.map_nil, *] | simp (disch := omega) only [wrap64])) <;> (repeat' refine And.intro ?_ ?_) <;> (first | omega | rfl | assumption | skip)
      · have hfa : far (G i).1 ((j : Int) - FAR) = 0 := by
          unfold far
          rw [if_neg (by rw [hGl]; exact hk)]
        rw [hfa] at c1
        obtain ⟨KK, hKK⟩ : ∃ K : Int, (j : Int) - FAR = K := ⟨_, rfl⟩
        rw [hKK] at hw hk
        clear hfa hFb
        by_cases hk0 : KK ≥ 0
        · have hk1 : ¬ KK < (x.length : Int) := by omega
          clear hk
          repeat' (first | simp (maxDischargeDepth := 9) -implicitDefEqProofs -dsimp only [go_sem, seval, List.length_map, *] | simp (disch := omega) only [wrap64] | ((with_reducible refine Zt (fun oF hoF hnF hnF' => ?_)); (try simp only [upd_none, ne_eq, not_and] at hoF)) | ((with_reducible apply ACalls.one1); (focus ((first | with_reducible refine c1 _ ?_) <;> (first | (simp (maxDischargeDepth := 9) -implicitDefEqProofs -dsimp only [go_sem, seval, *]; done) | omega))); (focus (first | trivial | with_reducible exact rfl | (simp (maxDischargeDepth := 9) -implicitDefEqProofs -dsimp only [go_sem, seval]; done)))))
          refine loop_next _ _ _ _ (j + 1) ?_; (repeat' (first | simp (maxDischargeDepth := 9) -implicitDefEqProofs -dsimp only [go_sem, seval,  hn, encW, List.map_append, List.map_cons, List.map_nil, *] | simp (disch := omega) only [wrap64])) <;> (repeat' refine And.intro ?_ ?_) <;> (first | omega | rfl | assumption | skip)
        · clear hk
          repeat' (first | simp (maxDischargeDepth := 9) -implicitDefEqProofs -dsimp only [go_sem, seval, List.length_map, *] | simp (disch := omega) only [wrap64] | ((with_reducible refine Zt (fun oF hoF hnF hnF' => ?_)); (try simp only [upd_none, ne_eq, not_and] at hoF)) | ((with_reducible apply ACalls.one1); (focus ((first | with_reducible refine c1 _ ?_) <;> (first | (simp (maxDischargeDepth := 9) -implicitDefEqProofs -dsimp only [go_sem, seval, *]; done) | omega))); (focus (first | trivial | with_reducible exact rfl | (simp (maxDischargeDepth := 9) -implicitDefEqProofs -dsimp only [go_sem, seval]; done)))))
          refine loop_next _ _ _ _ (j + 1) ?_; (repeat' (first | simp (maxDischargeDepth := 9) -implicitDefEqProofs -dsimp only [go_sem, seval,  hn, encW, List.map_append, List.map_cons, List.map_nil, *] | simp (disch := omega) only [wrap64])) <;> (repeat' refine And.intro ?_ ?_) <;> (first | omega | rfl | assumption | skip)
    · have : j = x.length := by omega
      subst this
      rw [hGl] at hG1
      clear hrw hrn hmw hmn hs hx hy hbi hGi hGl hfar hsh hmin
      repeat' (first | simp (maxDischargeDepth := 9) -implicitDefEqProofs -dsimp only [go_sem, seval, *] | simp (disch := omega) only [wrap64] | ((with_reducible refine Zt (fun oF hoF hnF hnF' => ?_)); (try simp only [upd_none, ne_eq, not_and] at hoF)))
      refine loop_next _ _ _ _ (i + 1) ?_; (repeat' (first | simp (maxDischargeDepth := 9) -implicitDefEqProofs -dsimp only [go_sem, seval,  hG1, encW, *] | simp (disch := omega) only [wrap64])) <;> (repeat' refine And.intro ?_ ?_) <;> (first | omega | rfl | assumption | skip)
  · have : i = y.length := by omega
    subst this
    clear hmw hmn hs hx hy
    repeat' (first | simp (maxDischargeDepth := 9) -implicitDefEqProofs -dsimp only [go_sem, seval, *] | simp (disch := omega) only [wrap64] | ((with_reducible refine Zt (fun oF hoF hnF hnF' => ?_)); (try simp only [upd_none, ne_eq, not_and] at hoF)))
    refine fin_eq ?_
    (repeat' (first | simp (maxDischargeDepth := 9) -implicitDefEqProofs -dsimp only [go_sem, seval, *] | simp (disch := omega) only [wrap64])) <;> (repeat' refine And.intro ?_ ?_) <;> (first | omega | rfl | assumption | skip)
end Go.Proofs.Ytbbihmmobfmadaa

namespace Go.Proofs.Ytbbihmmobfmadaa
open Abs Fil Fil.Bl A

/-! ### Two words, by an operation of gates -/
def ZipAt (f : Int → Int → Pg Int) (x y : List Int) (b : Bu) (k : Nat) : List Int × Bu := (zipP f x y k).run b
theorem zip_next (f : Int → Int → Pg Int) (x y : List Int) (b : Bu) (k : Nat) : ZipAt f x y b (k + 1) = ((ZipAt f x y b k).1 ++ [((f (gt x k) (gt y k)).run (ZipAt f x y b k).2).1], ((f (gt x k) (gt y k)).run (ZipAt f x y b k).2).2) := by
  show (zipP f x y (k + 1)).run b = _
  unfold zipP
  rw [iter_run, run_bind]
  rfl
def WfF (f : Int → Int → Pg Int) : Prop := ∀ (b : Bu) p q, Wf b.g → Wf ((f p q).run b).2.g ∧ I64 ((f p q).run b).1
theorem wff_op (op : Bl.Op) : WfF (fun p q => .op op p q 0 .ret) := fun _ p q h => bu_wf h op p q 0
theorem zip_wf {f : Int → Int → Pg Int} (hf : WfF f) {x y : List Int} {b : Bu} (hs : Wf b.g) : ∀ k, Wf (ZipAt f x y b k).2.g ∧ (ZipAt f x y b k).1.length = k ∧ ∀ z ∈ (ZipAt f x y b k).1, I64 z
  | 0 => ⟨hs, rfl, fun z h => by simp [ZipAt, zipP, iter, Pg.run] at h⟩
  | k + 1 => by
    obtain ⟨h1, h2, h3⟩ := zip_wf hf (x := x) (y := y) hs k
    rw [zip_next]
    have h4 := hf _ (gt x k) (gt y k) h1
    refine ⟨h4.1, by simp [h2], fun z hz => ?_⟩
    rcases List.mem_append.1 hz with hz | hz
    · exact h3 z hz
    · obtain rfl : z = _ := by simpa using hz
      exact h4.2
theorem zip_out {f : Int → Int → Pg Int} {x y : List Int} {b : Bu} : ∀ k, (ZipAt f x y b k).1 = (List.range k).map fun i => ((f (gt x i) (gt y i)).run (ZipAt f x y b i).2).1
  | 0 => rfl
  | k + 1 => by rw [zip_next, List.range_succ, List.map_append, ← zip_out k]; rfl
theorem bl_zipf (f : Int → Int → Pg Int) (hf : WfF f) (fF : Nat) (first caps : List AV) (bo : Nat) (b : Bu) (x y : List Int) (tx ty : Tok) (σ : Sig) (h : σ bo = some (buC b)) (hs : Wf b.g) (hlen : x.length ≤ y.length) (hxl : x.length ≤ 1000000)
    (hop : ∀ b τ k, k < x.length → τ bo = some (buC b) → Wf b.g → (∀ o z, ¬ o = bo → σ o = some z → τ o = some z) → ACalls Try.prog fF (first ++ [.int .i64 (gt x k), .int .i64 (gt y k)] ++ caps) τ (fun r τ' => r = .ret (.int .i64 ((f (gt x k) (gt y k)).run b).1) ∧ τ' = upd τ bo (buC ((f (gt x k) (gt y k)).run b).2))) :
    ACalls Try.prog 51 [encW x tx, encW y ty, .fn fF first caps] σ (fun r σ' => r = .ret (encW (ZipAt f x y b x.length).1 .no) ∧ σ' = upd σ bo (buC (ZipAt f x y b x.length).2)) := by
  have hz := bl_zip x y tx ty fF first caps (fun i => ((f (gt x i) (gt y i)).run (ZipAt f x y b i).2).1) (fun k => upd σ bo (buC (ZipAt f x y b k).2)) hlen hxl ?_ ?_
  · rw [← zip_out] at hz
    have e0 : upd σ bo (buC (ZipAt f x y b 0).2) = σ := by
      funext i
      by_cases hi : i = bo
      · subst hi; simp only [upd, if_true, h]; rfl
      · simp only [upd, if_neg hi]
    rw [e0] at hz
    exact hz
  · intro k o ho
    have a1 : ¬ o = bo := fun e => by subst e; simp [upd] at ho
    simpa [upd, a1] using ho
  · intro i hi o z ho
    have a1 : ¬ o = bo := fun e => by subst e; simp [upd] at ho
    have ho' : σ o = none := by simpa [upd, a1] using ho
    refine (hop (ZipAt f x y b i).2 (upd (upd σ bo (buC (ZipAt f x y b i).2)) o z) i hi (by simp [upd, Ne.symm a1]) (zip_wf hf hs i).1 (fun o' z' h1 h2 => ?_)).mono fun r σ' ⟨q1, q2⟩ => ⟨q1, ?_⟩
    · have : ¬ o' = o := fun e => by rw [e, ho'] at h2; simp at h2
      simp [upd, this, h1, h2]
    · rw [q2, zip_next]
      funext j
      by_cases j1 : j = o
      · subst j1; simp [upd, a1]
      by_cases j3 : j = bo
      · subst j3; simp [upd, j1]
      simp [upd, j1, j3]
theorem zip_and (bo : Nat) (b : Bu) (x y : List Int) (tx ty : Tok) (σ : Sig) (h : σ bo = some (buC b)) (hs : Wf b.g) (hx : ∀ z ∈ x, I64 z) (hy : ∀ z ∈ y, I64 z) (hlen : x.length ≤ y.length) (hxl : x.length ≤ 1000000) :
    ACalls Try.prog 51 [encW x tx, encW y ty, .fn 52 [.ptr bo 0] []] σ (fun r σ' => r = .ret (encW ((zipP andP x y x.length).run b).1 .no) ∧ σ' = upd σ bo (buC ((zipP andP x y x.length).run b).2)) :=
  bl_zipf _ (wff_op .and) _ _ _ bo b x y tx ty σ h hs hlen hxl fun b τ k _ h1 h2 _ => bu_and bo b _ _ τ h1 h2 (i64_gt hx k) (i64_gt hy k)
theorem zip_or (bo : Nat) (b : Bu) (x y : List Int) (tx ty : Tok) (σ : Sig) (h : σ bo = some (buC b)) (hs : Wf b.g) (hx : ∀ z ∈ x, I64 z) (hy : ∀ z ∈ y, I64 z) (hlen : x.length ≤ y.length) (hxl : x.length ≤ 1000000) :
    ACalls Try.prog 51 [encW x tx, encW y ty, .fn 53 [.ptr bo 0] []] σ (fun r σ' => r = .ret (encW ((zipP orP x y x.length).run b).1 .no) ∧ σ' = upd σ bo (buC ((zipP orP x y x.length).run b).2)) :=
  bl_zipf _ (wff_op .or) _ _ _ bo b x y tx ty σ h hs hlen hxl fun b τ k _ h1 h2 _ => bu_or bo b _ _ τ h1 h2 (i64_gt hx k) (i64_gt hy k)
theorem zip_xor (bo : Nat) (b : Bu) (x y : List Int) (tx ty : Tok) (σ : Sig) (h : σ bo = some (buC b)) (hs : Wf b.g) (hx : ∀ z ∈ x, I64 z) (hy : ∀ z ∈ y, I64 z) (hlen : x.length ≤ y.length) (hxl : x.length ≤ 1000000) :
    ACalls Try.prog 51 [encW x tx, encW y ty, .fn 54 [.ptr bo 0] []] σ (fun r σ' => r = .ret (encW ((zipP xorP x y x.length).run b).1 .no) ∧ σ' = upd σ bo (buC ((zipP xorP x y x.length).run b).2)) :=
  bl_zipf _ (wff_op .xor) _ _ _ bo b x y tx ty σ h hs hlen hxl fun b τ k _ h1 h2 _ => bu_xor bo b _ _ τ h1 h2 (i64_gt hx k) (i64_gt hy k)

/-! ### Folds -/
theorem fold_and (bo o : Nat) (b : Bu) (xs : List Int) (t : Tok) (σ : Sig) (h : σ bo = some (buC b)) (ho : σ o = some (.cells [encW xs t])) (hs : Wf b.g) (hx : ∀ z ∈ xs, I64 z) (hl : xs.length ≤ 1000000) :
    ACalls Try.prog 59 [.int .i64 1, .fn 84 [] [.ptr o 0], .fn 52 [.ptr bo 0] []] σ (fun r σ' => r = .ret (.int .i64 ((allW xs).run b).1) ∧ σ' = upd σ bo (buC ((allW xs).run b).2)) :=
  bu_fold .and _ bo b 1 xs _ _ σ h hs ⟨by decide, by decide⟩ hx (fun τ hτ => iter_values o xs t τ hl (hτ _ _ ho)) fun b x y τ h hs hx hy => bu_and bo b x y τ h hs hx hy
theorem fold_nand (bo o : Nat) (b : Bu) (xs : List Int) (t : Tok) (σ : Sig) (h : σ bo = some (buC b)) (ho : σ o = some (.cells [encW xs t])) (hs : Wf b.g) (hx : ∀ z ∈ xs, I64 z) (hl : xs.length ≤ 1000000) :
    ACalls Try.prog 59 [.int .i64 1, .fn 82 [] [.ptr o 0], .fn 52 [.ptr bo 0] []] σ (fun r σ' => r = .ret (.int .i64 ((allW (notW xs)).run b).1) ∧ σ' = upd σ bo (buC ((allW (notW xs)).run b).2)) :=
  bu_fold .and _ bo b 1 (notW xs) _ _ σ h hs ⟨by decide, by decide⟩ (i64_not hx) (fun τ hτ => iter_turned o xs t τ hl hx (hτ _ _ ho)) fun b x y τ h hs hx hy => bu_and bo b x y τ h hs hx hy
theorem fold_xor (bo o : Nat) (b : Bu) (xs : List Int) (t : Tok) (σ : Sig) (h : σ bo = some (buC b)) (ho : σ o = some (.cells [encW xs t])) (hs : Wf b.g) (hx : ∀ z ∈ xs, I64 z) (hl : xs.length ≤ 1000000) :
    ACalls Try.prog 59 [.int .i64 0, .fn 84 [] [.ptr o 0], .fn 54 [.ptr bo 0] []] σ (fun r σ' => r = .ret (.int .i64 ((foldP xorP 0 xs xs.length).run b).1) ∧ σ' = upd σ bo (buC ((foldP xorP 0 xs xs.length).run b).2)) :=
  bu_fold .xor _ bo b 0 xs _ _ σ h hs ⟨by decide, by decide⟩ hx (fun τ hτ => iter_values o xs t τ hl (hτ _ _ ho)) fun b x y τ h hs hx hy => bu_xor bo b x y τ h hs hx hy
theorem allW_wf {xs : List Int} {b : Bu} (hs : Wf b.g) : Wf ((allW xs).run b).2.g ∧ I64 ((allW xs).run b).1 := fold_wf .and (a := 1) xs hs ⟨by decide, by decide⟩ xs.length

/-! ### One word -/
set_option maxHeartbeats 4000000 in
theorem bu_un (bo : Nat) (b : Bu) (op : Int) (a : List Int) (t : Tok) (σ : Sig) (h : σ bo = some (buC b)) (hs : Wf b.g) (ha : ∀ z ∈ a, I64 z) (h1 : 1 ≤ a.length) (hl : a.length ≤ 1000000) (ho : 1 ≤ op ∧ op ≤ 6) (h6 : op = 6 → a.length = 1) :
    ACalls Try.prog 40 [.ptr bo 0, .int .i64 op, encW a t] σ (fun r σ' => r = .ret (encW ((unP op a).run b).1 .no) ∧ σ' = upd σ bo (buC ((unP op a).run b).2)) := by
  have hu : upd σ bo (buC b) = σ := by
    funext i
    by_cases hi : i = bo
    · subst hi; simp [upd, h]
    · simp [upd, hi]
  have c1 := fun t τ => bl_not a t τ hl ha
  have hc : op = 1 ∨ op = 2 ∨ op = 3 ∨ op = 4 ∨ op = 5 ∨ op = 6 := by omega
  rcases hc with rfl | rfl | rfl | rfl | rfl | rfl
  · have e : (unP 1 a).run b = (notW a, b) := rfl
    rw [e]
    simp only [hu]
    clear hu hs ha h1 hl ho h6 e
    refine calls_x mixed Try.func40 b40 n40 rfl q40 (by simp) ?_; unfold c40 r40
    repeat' (first | simp (maxDischargeDepth := 9) -implicitDefEqProofs -dsimp only [go_sem, seval, *] | ((with_reducible refine Zv ?_ ?_); focus (first | omega | exact rfl)) | ((with_reducible refine Zt (fun oF hoF hnF hnF' => ?_)); (try simp only [upd_none, ne_eq, not_and] at hoF)) | ((with_reducible apply ACalls.one1); (focus ((first | with_reducible refine c1 _ _ | with_reducible refine ACalls.flA (c1 _ _) ?_) <;> (first | (simp (maxDischargeDepth := 9) -implicitDefEqProofs -dsimp only [go_sem, seval, *]; done) | omega))); (focus (first | trivial | with_reducible exact rfl | (simp (maxDischargeDepth := 9) -implicitDefEqProofs -dsimp only [go_sem, seval]; done)))))
    refine fin_eq ?_
    (repeat' (first | simp (maxDischargeDepth := 9) -implicitDefEqProofs -dsimp only [go_sem, seval, encW, *])) <;> (repeat' refine And.intro ?_ ?_) <;> (first | omega | rfl | assumption | skip)
  · have e : (unP 2 a).run b = (((sumW (notW a) (List.replicate a.length 0) 1).run b).1.1, ((sumW (notW a) (List.replicate a.length 0) 1).run b).2) := by
      show ((sumW (notW a) (List.replicate a.length 0) 1).bind fun r => .ret r.1).run b = _
      rw [run_bind]; rfl
    rw [e]
    have hnl : (notW a).length = a.length := by simp [notW]
    have c2 := fun ty τ h => bu_sum bo b (notW a) (List.replicate a.length 0) .no ty 1 τ h hs (i64_not ha) (fun z hz => by rw [(List.mem_replicate.1 hz).2]; exact ⟨by decide, by decide⟩) ⟨by decide, by decide⟩ (by simp [hnl]) (by omega)
    simp only [encW, List.map_replicate] at c2
    obtain ⟨Z, hZ⟩ : ∃ Z, (sumW (notW a) (List.replicate a.length 0) 1).run b = Z := ⟨_, rfl⟩
    rw [hZ] at c2 ⊢
    have hb : a.length * 8 ≤ 35184372088832 := by omega
    clear hu hs ha h1 ho h6 e hZ hnl
    refine calls_x mixed Try.func40 b40 n40 rfl q40 (by simp) ?_; unfold c40 r40
    repeat' (first | simp (maxDischargeDepth := 9) -implicitDefEqProofs -dsimp only [go_sem, seval, List.length_map, *] | ((with_reducible refine Zv ?_ ?_); focus (first | omega | exact rfl)) | ((with_reducible refine Zt (fun oF hoF hnF hnF' => ?_)); (try simp only [upd_none, ne_eq, not_and] at hoF)) | ((with_reducible apply ACalls.one1); (focus ((first | with_reducible refine c1 _ _ | with_reducible refine c2 _ _ ?_ | with_reducible refine ACalls.flA (c1 _ _) ?_ | with_reducible refine ACalls.flA (c2 _ _ ?_) ?_) <;> (first | (simp (maxDischargeDepth := 9) -implicitDefEqProofs -dsimp only [go_sem, seval, *]; done) | omega))); (focus (first | trivial | with_reducible exact rfl | (simp (maxDischargeDepth := 9) -implicitDefEqProofs -dsimp only [go_sem, seval]; done)))) | ((with_reducible apply id_one0); (focus (intro tS hS; ((first | with_reducible refine c1 _ _ | with_reducible refine c2 _ _ ?_ | with_reducible refine ACalls.flA (c1 _ _) ?_ | with_reducible refine ACalls.flA (c2 _ _ ?_) ?_) <;> (first | (simp (maxDischargeDepth := 9) -implicitDefEqProofs -dsimp only [go_sem, seval, *]; done) | omega | ((with_reducible refine Sub.get hS ?_); simp (maxDischargeDepth := 9) -implicitDefEqProofs -dsimp only [go_sem, seval, *]; done))))); (focus (first | trivial | (simp (maxDischargeDepth := 9) -implicitDefEqProofs -dsimp only [go_sem, seval, *]; done)))) | ((with_reducible apply id_one1); (focus (intro tS hS; ((first | with_reducible refine c1 _ _ | with_reducible refine c2 _ _ ?_ | with_reducible refine ACalls.flA (c1 _ _) ?_ | with_reducible refine ACalls.flA (c2 _ _ ?_) ?_) <;> (first | (simp (maxDischargeDepth := 9) -implicitDefEqProofs -dsimp only [go_sem, seval, *]; done) | omega | ((with_reducible refine Sub.get hS ?_); simp (maxDischargeDepth := 9) -implicitDefEqProofs -dsimp only [go_sem, seval, *]; done))))); (focus (first | trivial | (simp (maxDischargeDepth := 9) -implicitDefEqProofs -dsimp only [go_sem, seval, *]; done)))))
    refine fin_eq ?_
    (repeat' (first | simp (maxDischargeDepth := 9) -implicitDefEqProofs -dsimp only [go_sem, seval, encW, *])) <;> (repeat' refine And.intro ?_ ?_) <;> (first | omega | rfl | assumption | skip)
  · have e : (unP 3 a).run b = ([((allW a).run b).1], ((allW a).run b).2) := by
      show ((allW a).bind fun r => .ret [r]).run b = _
      rw [run_bind]; rfl
    rw [e]
    have c2 := fun o τ h ho => fold_and bo o b a t τ h ho hs ha hl
    obtain ⟨Z, hZ⟩ : ∃ Z, (allW a).run b = Z := ⟨_, rfl⟩
    rw [hZ] at c2 ⊢
    clear hu hs ha h1 hl ho h6 e hZ c1
    refine calls_x mixed Try.func40 b40 n40 rfl q40 (by simp) ?_; unfold c40 r40
    repeat' (first | simp (maxDischargeDepth := 9) -implicitDefEqProofs -dsimp only [go_sem, seval, *] | ((with_reducible refine Zv ?_ ?_); focus (first | omega | exact rfl)) | ((with_reducible refine Zt (fun oF hoF hnF hnF' => ?_)); (try simp only [upd_none, ne_eq, not_and] at hoF)) | ((with_reducible apply ACalls.one1); (focus ((first | with_reducible refine c2 _ _ ?_ ?_ | with_reducible refine ACalls.flA (c2 _ _ ?_ ?_) ?_) <;> (first | (simp (maxDischargeDepth := 9) -implicitDefEqProofs -dsimp only [go_sem, seval, *]; done) | omega))); (focus (first | trivial | with_reducible exact rfl | (simp (maxDischargeDepth := 9) -implicitDefEqProofs -dsimp only [go_sem, seval]; done)))) | ((with_reducible apply ACalls.newO); (focus ((first | with_reducible refine sl_values a t _ | with_reducible refine ACalls.flA (sl_values a t _) ?_) <;> (first | (simp (maxDischargeDepth := 9) -implicitDefEqProofs -dsimp only [go_sem, seval, *]; done) | omega))); (intro oF hoF hnF hnF'); (try simp only [upd_none, ne_eq, not_and] at hoF)))
    refine fin_eq ?_
    (repeat' (first | simp (maxDischargeDepth := 9) -implicitDefEqProofs -dsimp only [go_sem, seval, encW, List.map_cons, List.map_nil, *])) <;> (repeat' refine And.intro ?_ ?_) <;> (first | omega | rfl | assumption | skip)
  · have e : (unP 4 a).run b = ([turn ((allW (notW a)).run b).1], ((allW (notW a)).run b).2) := by
      show ((allW (notW a)).bind fun r => .ret [turn r]).run b = _
      rw [run_bind]; rfl
    rw [e]
    have c2 := fun o τ h ho => fold_nand bo o b a t τ h ho hs ha hl
    have hw := (allW_wf (xs := notW a) hs).2
    obtain ⟨Z, hZ⟩ : ∃ Z, (allW (notW a)).run b = Z := ⟨_, rfl⟩
    rw [hZ] at c2 hw ⊢
    have hxx := xor1' Z.1 hw
    clear hu hs ha h1 hl ho h6 e hZ c1 hw
    refine calls_x mixed Try.func40 b40 n40 rfl q40 (by simp) ?_; unfold c40 r40
    repeat' (first | simp (maxDischargeDepth := 9) -implicitDefEqProofs -dsimp only [go_sem, seval, *] | ((with_reducible refine Zv ?_ ?_); focus (first | omega | exact rfl)) | ((with_reducible refine Zt (fun oF hoF hnF hnF' => ?_)); (try simp only [upd_none, ne_eq, not_and] at hoF)) | ((with_reducible apply ACalls.one1); (focus ((first | with_reducible refine c2 _ _ ?_ ?_ | with_reducible refine ACalls.flA (c2 _ _ ?_ ?_) ?_) <;> (first | (simp (maxDischargeDepth := 9) -implicitDefEqProofs -dsimp only [go_sem, seval, *]; done) | omega))); (focus (first | trivial | with_reducible exact rfl | (simp (maxDischargeDepth := 9) -implicitDefEqProofs -dsimp only [go_sem, seval]; done)))) | ((with_reducible apply ACalls.newO); (focus ((first | with_reducible refine bl_turned a t _ | with_reducible refine ACalls.flA (bl_turned a t _) ?_) <;> (first | (simp (maxDischargeDepth := 9) -implicitDefEqProofs -dsimp only [go_sem, seval, *]; done) | omega))); (intro oF hoF hnF hnF'); (try simp only [upd_none, ne_eq, not_and] at hoF)))
    refine fin_eq ?_
    (repeat' (first | simp (maxDischargeDepth := 9) -implicitDefEqProofs -dsimp only [go_sem, seval, encW, List.map_cons, List.map_nil, *])) <;> (repeat' refine And.intro ?_ ?_) <;> (first | omega | rfl | assumption | skip)
  · have e : (unP 5 a).run b = ([((foldP xorP 0 a a.length).run b).1], ((foldP xorP 0 a a.length).run b).2) := by
      show ((foldP xorP 0 a a.length).bind fun r => .ret [r]).run b = _
      rw [run_bind]; rfl
    rw [e]
    have c2 := fun o τ h ho => fold_xor bo o b a t τ h ho hs ha hl
    obtain ⟨Z, hZ⟩ : ∃ Z, (foldP xorP 0 a a.length).run b = Z := ⟨_, rfl⟩
    rw [hZ] at c2 ⊢
    clear hu hs ha h1 hl ho h6 e hZ c1
    refine calls_x mixed Try.func40 b40 n40 rfl q40 (by simp) ?_; unfold c40 r40
    repeat' (first | simp (maxDischargeDepth := 9) -implicitDefEqProofs -dsimp only [go_sem, seval, *] | ((with_reducible refine Zv ?_ ?_); focus (first | omega | exact rfl)) | ((with_reducible refine Zt (fun oF hoF hnF hnF' => ?_)); (try simp only [upd_none, ne_eq, not_and] at hoF)) | ((with_reducible apply ACalls.one1); (focus ((first | with_reducible refine c2 _ _ ?_ ?_ | with_reducible refine ACalls.flA (c2 _ _ ?_ ?_) ?_) <;> (first | (simp (maxDischargeDepth := 9) -implicitDefEqProofs -dsimp only [go_sem, seval, *]; done) | omega))); (focus (first | trivial | with_reducible exact rfl | (simp (maxDischargeDepth := 9) -implicitDefEqProofs -dsimp only [go_sem, seval]; done)))) | ((with_reducible apply ACalls.newO); (focus ((first | with_reducible refine sl_values a t _ | with_reducible refine ACalls.flA (sl_values a t _) ?_) <;> (first | (simp (maxDischargeDepth := 9) -implicitDefEqProofs -dsimp only [go_sem, seval, *]; done) | omega))); (intro oF hoF hnF hnF'); (try simp only [upd_none, ne_eq, not_and] at hoF)))
    refine fin_eq ?_
    (repeat' (first | simp (maxDischargeDepth := 9) -implicitDefEqProofs -dsimp only [go_sem, seval, encW, List.map_cons, List.map_nil, *])) <;> (repeat' refine And.intro ?_ ?_) <;> (first | omega | rfl | assumption | skip)
  · have e : (unP 6 a).run b = ([turn (gt a 0)], b) := rfl
    rw [e]
    simp only [hu]
    obtain ⟨z, rfl⟩ := List.length_eq_one_iff.1 (h6 rfl)
    have c1 := c1 .no
    clear hu hs ha h1 hl ho h6 e
    refine calls_x mixed Try.func40 b40 n40 rfl q40 (by simp) ?_; unfold c40 r40
    repeat' (first | simp (maxDischargeDepth := 9) -implicitDefEqProofs -dsimp only [go_sem, seval, List.map_cons, List.map_nil, *] | ((with_reducible refine Zv ?_ ?_); focus (first | omega | exact rfl)) | ((with_reducible refine Zt (fun oF hoF hnF hnF' => ?_)); (try simp only [upd_none, ne_eq, not_and] at hoF)) | ((with_reducible apply ACalls.one1); (focus ((first | with_reducible refine c1 _ | with_reducible refine ACalls.flA (c1 _) ?_) <;> (first | (simp (maxDischargeDepth := 9) -implicitDefEqProofs -dsimp only [go_sem, seval, *]; done) | omega))); (focus (first | trivial | with_reducible exact rfl | (simp (maxDischargeDepth := 9) -implicitDefEqProofs -dsimp only [go_sem, seval]; done)))))
    refine fin_eq ?_
    (repeat' (first | simp (maxDischargeDepth := 9) -implicitDefEqProofs -dsimp only [go_sem, seval, encW, notW, gt, List.map_cons, List.map_nil, List.getD_cons_zero, *])) <;> (repeat' refine And.intro ?_ ?_) <;> (first | omega | rfl | assumption | skip)
end Go.Proofs.Ytbbihmmobfmadaa

