/- blast: few gates; the law that nothing is made again. -/
import Derived.Test.YtbbihmmobfmadaaNBlaBlaS
set_option linter.unusedSimpArgs false
set_option linter.unusedVariables false
namespace Go.Proofs.Ytbbihmmobfmadaa
open Abs Fil Fil.Bl A
theorem no_listB {P : Program} {f : FuncId} {args : List AV} {σ : Sig} {l : List AV} {sz n : Nat} (h : ACalls P f args σ (fun r σ' => (l = [] ∧ r = .ret (.slice [] .nil) ∧ σ' = σ) ∨ NewO σ (fun o => .slice l (.own o)) (.grow sz n) r σ')) :
    ACalls P f args σ (fun r σ' => r = .ret (.slice l .no) ∧ σ' = σ) := by
  refine h.view fun r s h => ?_
  rcases h with ⟨rfl, rfl, rfl⟩ | ⟨o, ho, rfl, rfl⟩
  · exact ⟨_, .slice [] .no, _, rfl, vr_of (by simp only [go_sem]) (by simp only [go_sem]), rfl, rfl⟩
  · exact ⟨_, .slice l .no, _, rfl, vr_of (by simp only [go_sem]) (by simp only [go_sem, ho, implies_true, ne_eq, not_true_eq_false, reduceCtorEq, not_false_eq_true]), rfl, rfl⟩
theorem sl_growIntB (n : Int) (σ : Sig) (h0 : 0 < n) (hb1 : n * 8 ≤ 35184372088832) (hn2 : n ≤ 1000000000000) :
    ACalls Try.prog 85 [.slice [] .nil, .int .i64 n] σ (fun r σ' => ∃ o, σ o = none ∧ r = .ret (.slice [] (.own o)) ∧ σ' = upd σ o (.grow 1 0)) :=
  lib_grow (sz := 1) (bytes := 8) mixed Try.func85 b85 n85 rfl q85 n h0 (by simpa using hb1) hn2
theorem sl_growIntB0 (σ : Sig) : ACalls Try.prog 85 [.slice [] .nil, .int .i64 0] σ (fun r σ' => r = .ret (.slice [] .nil) ∧ σ' = σ) :=
  lib_grow0 (sz := 1) (bytes := 8) mixed Try.func85 b85 n85 rfl q85
theorem sl_concatB (ls : List (List Int)) (σ : Sig) (hlen : ls.length ≤ 1000000) (htot : ls.flatten.length ≤ 1000000000) :
    ACalls Try.prog 67 [.slice (ls.map (encRow encInt)) .no] σ (fun r σ' => r = .ret (.slice (ls.flatten.map encInt) .no) ∧ σ' = σ) := by
  refine no_listB (sz := 1) (n := ls.flatten.length) ?_
  refine (lib_concat (sz := 1) (bytes := 8) mixed Try.func67 b67 n67 rfl q67 (fun _ => rfl) (fun σ n h1 h2 h3 => sl_growIntB n σ h1 (by simpa using h2) h3) sl_growIntB0 ls hlen htot (by decide)).mono fun r s h => ?_
  rcases h with ⟨h1, h2, h3⟩ | h
  · exact .inl ⟨by rw [h1]; rfl, h2, h3⟩
  · exact .inr h
theorem sl_concat2B (a b : List Int) (σ : Sig) (h : a.length + b.length ≤ 1000000000) :
    ACalls Try.prog 67 [.slice [encW a .no, encW b .no] .no] σ (fun r σ' => r = .ret (encW (a ++ b) .no) ∧ σ' = σ) := by
  have := sl_concatB [a, b] σ (by simp) (by simpa using h)
  rw [show [a, b].flatten = a ++ b by simp] at this
  exact this
theorem sl_concat2T (a b : List Int) (t : Tok) (σ : Sig) (h : a.length + b.length ≤ 1000000000) :
    ACalls Try.prog 67 [.slice [encW a t, encW b .no] .full] σ (fun r σ' => r = .ret (encW (a ++ b) .no) ∧ σ' = σ) :=
  ACalls.fl (sl_concat2B a b σ h) (.cons (.slice _ _ _ _ (.inl rfl) rfl fun i h0 h1 => by
    match i, h0, h1 with
    | 0, _, _ => exact .slice _ _ _ _ (.inl rfl) rfl fun _ _ _ => .refl _
    | 1, _, _ => exact .refl _) (.refl _ _)) (fun o _ x e => ⟨x, e, .refl _ x⟩)
theorem sl_repeatT (m : Int) (t : Tok) (c : Nat) (hc : c ≤ 64) (σ : Sig) :
    ACalls Try.prog 68 [.slice [.int .i64 m] t, .int .i64 c] σ (fun r σ' => r = .ret (encW (List.replicate c m) .no) ∧ σ' = σ) := sl_repeat m t c hc σ
theorem sl_cloneB (l : List Int) (t : Tok) (σ : Sig) (h : l.length ≤ 1000000) :
    ACalls Try.prog 66 [encW l t] σ (fun r σ' => r = .ret (encW l .no) ∧ σ' = σ) := by
  refine calls_x mixed Try.func66 b66 n66 rfl q66 (by simp) ?_; unfold c66 r66
  cases l with
  | nil =>
    repeat' (first | simp (maxDischargeDepth := 9) -implicitDefEqProofs -dsimp only [go_sem, seval, List.map_nil, *] | ((with_reducible refine Zv ?_ ?_); focus (first | omega | exact rfl)) | ((with_reducible refine Zt (fun oF hoF hnF hnF' => ?_)); (try simp only [upd_none, ne_eq, not_and] at hoF)))
    refine ⟨?_, ?_⟩
    · refine fin_eq ?_
      (repeat' (first | simp (maxDischargeDepth := 9) -implicitDefEqProofs -dsimp only [go_sem, seval, List.map_nil, encW, *])) <;> (repeat' refine And.intro ?_ ?_) <;> (first | omega | rfl | assumption | skip)
    · refine fin_eq ?_
      (repeat' (first | simp (maxDischargeDepth := 9) -implicitDefEqProofs -dsimp only [go_sem, seval, List.map_nil, encW, *])) <;> (repeat' refine And.intro ?_ ?_) <;> (first | omega | rfl | assumption | skip)
  | cons x l =>
    have h' : l.length ≤ 999999 := by simp only [List.length_cons] at h; omega
    repeat' (first | simp (maxDischargeDepth := 9) -implicitDefEqProofs -dsimp only [go_sem, seval, List.map_cons, *] | ((with_reducible refine Zv ?_ ?_); focus (first | omega | exact rfl)) | ((with_reducible refine Zt (fun oF hoF hnF hnF' => ?_)); (try simp only [upd_none, ne_eq, not_and] at hoF)))
    all_goals first | (exfalso; simp at hq; done) | skip
    refine fin_eq ?_
    (repeat' (first | simp (maxDischargeDepth := 9) -implicitDefEqProofs -dsimp only [go_sem, seval, List.map_cons, List.nil_append, encW, *])) <;> (repeat' refine And.intro ?_ ?_) <;> (first | omega | rfl | assumption | skip)
theorem bl_extended (op : Int) (w : Nat) (a : List Int) (t : Tok) (σ : Sig) (h1 : 1 ≤ a.length) (hl : a.length ≤ 64) (hw : 1 ≤ w ∧ w ≤ 64) (ho : (op = 31 ∨ op = 32) ∧ a.length ≤ w ∨ op = 33 ∧ w ≤ a.length) :
    ACalls Try.prog 43 [.int .i64 op, .int .i64 w, encW a t] σ (fun r σ' => r = .ret (encW (extW op w a) .no) ∧ σ' = σ) := by
  rcases ho with ⟨h31 | h32, hle⟩ | ⟨h33, hle⟩
  · subst h31
    have e : extW 31 w a = a ++ List.replicate (w - a.length) 0 := by unfold extW; rw [if_neg (by decide), if_neg (by decide)]; simp
    rw [e]
    have c1 := fun τ => sl_repeatT 0 .full (w - a.length) (by omega) τ
    have c2 := fun τ => sl_concat2T a (List.replicate (w - a.length) 0) t τ (by simp; omega)
    have hsub : (w : Int) - (a.length : Int) = ((w - a.length : Nat) : Int) := by omega
    clear e
    refine calls_x mixed Try.func43 b43 n43 rfl q43 (by simp) ?_; unfold c43 r43
    repeat' (first | simp (maxDischargeDepth := 9) -implicitDefEqProofs -dsimp only [go_sem, seval, List.length_map, *] | simp (disch := omega) only [wrap64] | ((with_reducible apply ACalls.one1); (focus ((first | with_reducible refine c1 _ | with_reducible refine c2 _) <;> (first | (simp (maxDischargeDepth := 9) -implicitDefEqProofs -dsimp only [go_sem, seval, *]; done) | omega))); (focus (first | trivial | with_reducible exact rfl | (simp (maxDischargeDepth := 9) -implicitDefEqProofs -dsimp only [go_sem, seval]; done)))))
    refine fin_eq ?_
    (repeat' (first | simp (maxDischargeDepth := 9) -implicitDefEqProofs -dsimp only [go_sem, seval, encW, *] | simp (disch := omega) only [wrap64])) <;> (repeat' refine And.intro ?_ ?_) <;> (first | omega | rfl | assumption | skip)
  · subst h32
    have e : extW 32 w a = a ++ List.replicate (w - a.length) (gt a (a.length - 1)) := by unfold extW; rw [if_neg (by decide), if_pos rfl]; simp
    rw [e]
    obtain ⟨m, hm⟩ : ∃ m, gt a (a.length - 1) = m := ⟨_, rfl⟩
    have hgx : (a.map fun x => AV.int .i64 x)[a.length - 1]? = some (.int .i64 m) := by
      rw [← hm]; simp [gt, List.getD_eq_getElem?_getD, show a.length - 1 < a.length by omega]
    rw [hm]
    have c1 := fun τ => sl_repeatT m .full (w - a.length) (by omega) τ
    have c2 := fun τ => sl_concat2T a (List.replicate (w - a.length) m) t τ (by simp; omega)
    have hsub : (w : Int) - (a.length : Int) = ((w - a.length : Nat) : Int) := by omega
    have hsub1 : (a.length : Int) - 1 = ((a.length - 1 : Nat) : Int) := by omega
    have hlt : a.length - 1 < a.length := by omega
    clear e hm
    refine calls_x mixed Try.func43 b43 n43 rfl q43 (by simp) ?_; unfold c43 r43
    repeat' (first | simp (maxDischargeDepth := 9) -implicitDefEqProofs -dsimp only [go_sem, seval, List.length_map, *] | simp (disch := omega) only [wrap64] | ((with_reducible apply ACalls.one1); (focus ((first | with_reducible refine c1 _ | with_reducible refine c2 _) <;> (first | (simp (maxDischargeDepth := 9) -implicitDefEqProofs -dsimp only [go_sem, seval, *]; done) | omega))); (focus (first | trivial | with_reducible exact rfl | (simp (maxDischargeDepth := 9) -implicitDefEqProofs -dsimp only [go_sem, seval]; done)))))
    refine fin_eq ?_
    (repeat' (first | simp (maxDischargeDepth := 9) -implicitDefEqProofs -dsimp only [go_sem, seval, encW, *] | simp (disch := omega) only [wrap64])) <;> (repeat' refine And.intro ?_ ?_) <;> (first | omega | rfl | assumption | skip)
  · subst h33
    have e : extW 33 w a = a.take w := by unfold extW; rw [if_pos rfl]; simp
    rw [e]
    have c1 : ∀ τ, ACalls Try.prog 66 [.slice (List.take w (a.map fun x => AV.int .i64 x)) .no] τ (fun r σ' => r = .ret (encW (a.take w) .no) ∧ σ' = τ) := fun τ => by
      have := sl_cloneB (a.take w) .no τ (by simp; omega)
      rw [show encW (a.take w) .no = .slice (List.take w (a.map fun x => AV.int .i64 x)) .no by rw [encW, List.map_take]] at this ⊢
      exact this
    clear e
    refine calls_x mixed Try.func43 b43 n43 rfl q43 (by simp) ?_; unfold c43 r43
    repeat' (first | simp (maxDischargeDepth := 9) -implicitDefEqProofs -dsimp only [go_sem, seval, List.length_map, *] | simp (disch := omega) only [wrap64] | ((with_reducible apply ACalls.one1); (focus ((first | with_reducible refine c1 _) <;> (first | (simp (maxDischargeDepth := 9) -implicitDefEqProofs -dsimp only [go_sem, seval, *]; done) | omega))); (focus (first | trivial | with_reducible exact rfl | (simp (maxDischargeDepth := 9) -implicitDefEqProofs -dsimp only [go_sem, seval]; done)))))
    refine fin_eq ?_
    (repeat' (first | simp (maxDischargeDepth := 9) -implicitDefEqProofs -dsimp only [go_sem, seval, encW, *] | simp (disch := omega) only [wrap64])) <;> (repeat' refine And.intro ?_ ?_) <;> (first | omega | rfl | assumption | skip)
theorem bl_Ext1 (og oa ow oo : Nat) (g : Aig) (op w : Int) (x : List Int) (tx : Tok) (σ : Sig) (hf : Fine g) (hx : x.length ≤ 1000000)
    (h1 : σ og = some (.cells (aigL g))) (h2 : σ oa = some (.cells [encW x tx])) (h3 : σ ow = some (.cells [.int .i64 w])) (h4 : σ oo = some (.cells [.int .i64 op])) :
    ACalls Try.prog 41 [.ptr og 0, .ptr oa 0, .ptr ow 0, .ptr oo 0] σ (fun r σ' => r = .ret (.bool (mayExt g op w x)) ∧ σ' = σ) := by
  have c1 := fun τ => bl_word g x tx τ hf hx
  have hM : mayExt g op w x = (word g x && decide (1 ≤ w ∧ w ≤ 64 ∧ 31 ≤ op ∧ op ≤ 33 ∧ (w = x.length ∨ (w < x.length ↔ op = 33)))) := rfl
  obtain ⟨M, hMM⟩ : ∃ M, mayExt g op w x = M := ⟨_, rfl⟩
  rw [hMM] at hM ⊢
  obtain ⟨X, hX⟩ : ∃ X, word g x = X := ⟨_, rfl⟩
  rw [hX] at c1 hM
  clear hMM hX hf
  cases X with
  | false =>
    simp only [Bool.false_and] at hM
    subst hM
    refine calls_x mixed Try.func41 b41 n41 rfl q41 (by simp) ?_; unfold c41 r41
    repeat' (first | simp (maxDischargeDepth := 9) -implicitDefEqProofs -dsimp only [go_sem, seval, *] | ((with_reducible apply ACalls.one1); (focus ((first | with_reducible refine c1 _) <;> (first | (simp (maxDischargeDepth := 9) -implicitDefEqProofs -dsimp only [go_sem, seval, *]; done) | omega))); (focus (first | trivial | with_reducible exact rfl | (simp (maxDischargeDepth := 9) -implicitDefEqProofs -dsimp only [go_sem, seval]; done)))))
    refine fin_eq ?_
    (repeat' (first | simp (maxDischargeDepth := 9) -implicitDefEqProofs -dsimp only [go_sem, seval, *])) <;> (repeat' refine And.intro ?_ ?_) <;> (first | omega | rfl | assumption | skip)
  | true =>
    simp only [Bool.true_and] at hM
    by_cases o1 : w < 1
    · have e : M = false := by rw [hM, decide_eq_false_iff_not]; omega
      subst e
      clear hM
      refine calls_x mixed Try.func41 b41 n41 rfl q41 (by simp) ?_; unfold c41 r41
      repeat' (first | simp (maxDischargeDepth := 9) -implicitDefEqProofs -dsimp only [go_sem, seval, gt_iff_lt, *] | ((with_reducible apply ACalls.one1); (focus ((first | with_reducible refine c1 _) <;> (first | (simp (maxDischargeDepth := 9) -implicitDefEqProofs -dsimp only [go_sem, seval, *]; done) | omega))); (focus (first | trivial | with_reducible exact rfl | (simp (maxDischargeDepth := 9) -implicitDefEqProofs -dsimp only [go_sem, seval]; done)))))
      refine fin_eq ?_
      (repeat' (first | simp (maxDischargeDepth := 9) -implicitDefEqProofs -dsimp only [go_sem, seval, *])) <;> (repeat' refine And.intro ?_ ?_) <;> (first | omega | rfl | assumption | skip)
    by_cases o2 : 64 < w
    · have e : M = false := by rw [hM, decide_eq_false_iff_not]; omega
      subst e
      clear hM
      refine calls_x mixed Try.func41 b41 n41 rfl q41 (by simp) ?_; unfold c41 r41
      repeat' (first | simp (maxDischargeDepth := 9) -implicitDefEqProofs -dsimp only [go_sem, seval, gt_iff_lt, *] | ((with_reducible apply ACalls.one1); (focus ((first | with_reducible refine c1 _) <;> (first | (simp (maxDischargeDepth := 9) -implicitDefEqProofs -dsimp only [go_sem, seval, *]; done) | omega))); (focus (first | trivial | with_reducible exact rfl | (simp (maxDischargeDepth := 9) -implicitDefEqProofs -dsimp only [go_sem, seval]; done)))))
      refine fin_eq ?_
      (repeat' (first | simp (maxDischargeDepth := 9) -implicitDefEqProofs -dsimp only [go_sem, seval, *])) <;> (repeat' refine And.intro ?_ ?_) <;> (first | omega | rfl | assumption | skip)
    by_cases o3 : op < 31
    · have e : M = false := by rw [hM, decide_eq_false_iff_not]; omega
      subst e
      clear hM
      refine calls_x mixed Try.func41 b41 n41 rfl q41 (by simp) ?_; unfold c41 r41
      repeat' (first | simp (maxDischargeDepth := 9) -implicitDefEqProofs -dsimp only [go_sem, seval, gt_iff_lt, *] | ((with_reducible apply ACalls.one1); (focus ((first | with_reducible refine c1 _) <;> (first | (simp (maxDischargeDepth := 9) -implicitDefEqProofs -dsimp only [go_sem, seval, *]; done) | omega))); (focus (first | trivial | with_reducible exact rfl | (simp (maxDischargeDepth := 9) -implicitDefEqProofs -dsimp only [go_sem, seval]; done)))))
      refine fin_eq ?_
      (repeat' (first | simp (maxDischargeDepth := 9) -implicitDefEqProofs -dsimp only [go_sem, seval, *])) <;> (repeat' refine And.intro ?_ ?_) <;> (first | omega | rfl | assumption | skip)
    by_cases o4 : 33 < op
    · have e : M = false := by rw [hM, decide_eq_false_iff_not]; omega
      subst e
      clear hM
      refine calls_x mixed Try.func41 b41 n41 rfl q41 (by simp) ?_; unfold c41 r41
      repeat' (first | simp (maxDischargeDepth := 9) -implicitDefEqProofs -dsimp only [go_sem, seval, gt_iff_lt, *] | ((with_reducible apply ACalls.one1); (focus ((first | with_reducible refine c1 _) <;> (first | (simp (maxDischargeDepth := 9) -implicitDefEqProofs -dsimp only [go_sem, seval, *]; done) | omega))); (focus (first | trivial | with_reducible exact rfl | (simp (maxDischargeDepth := 9) -implicitDefEqProofs -dsimp only [go_sem, seval]; done)))))
      refine fin_eq ?_
      (repeat' (first | simp (maxDischargeDepth := 9) -implicitDefEqProofs -dsimp only [go_sem, seval, *])) <;> (repeat' refine And.intro ?_ ?_) <;> (first | omega | rfl | assumption | skip)
    by_cases o5 : w = x.length
    · have e : M = true := by rw [hM, decide_eq_true_iff]; exact ⟨by omega, by omega, by omega, by omega, .inl o5⟩
      have b5 : (w == (x.length : Int)) = true := by rw [beq_iff_eq]; exact o5
      subst e
      clear hM o5
      refine calls_x mixed Try.func41 b41 n41 rfl q41 (by simp) ?_; unfold c41 r41
      repeat' (first | simp (maxDischargeDepth := 9) -implicitDefEqProofs -dsimp only [go_sem, seval, gt_iff_lt, List.length_map, *] | ((with_reducible apply ACalls.one1); (focus ((first | with_reducible refine c1 _) <;> (first | (simp (maxDischargeDepth := 9) -implicitDefEqProofs -dsimp only [go_sem, seval, *]; done) | omega))); (focus (first | trivial | with_reducible exact rfl | (simp (maxDischargeDepth := 9) -implicitDefEqProofs -dsimp only [go_sem, seval]; done)))))
      refine fin_eq ?_
      (repeat' (first | simp (maxDischargeDepth := 9) -implicitDefEqProofs -dsimp only [go_sem, seval, *])) <;> (repeat' refine And.intro ?_ ?_) <;> (first | omega | rfl | assumption | skip)
    · have b5 : (w == (x.length : Int)) = false := by rw [beq_eq_false_iff_ne]; exact o5
      have e : M = (decide (w < (x.length : Int)) == (op == 33)) := by
        rw [hM, Bool.eq_iff_iff, decide_eq_true_iff, beq_iff_eq, Bool.eq_iff_iff, decide_eq_true_iff, beq_iff_eq]
        constructor
        · rintro ⟨_, _, _, _, h | h⟩
          · exact absurd h o5
          · exact h
        · intro h
          exact ⟨by omega, by omega, by omega, by omega, .inr h⟩
      subst e
      clear hM o5
      refine calls_x mixed Try.func41 b41 n41 rfl q41 (by simp) ?_; unfold c41 r41
      repeat' (first | simp (maxDischargeDepth := 9) -implicitDefEqProofs -dsimp only [go_sem, seval, gt_iff_lt, List.length_map, *] | ((with_reducible apply ACalls.one1); (focus ((first | with_reducible refine c1 _) <;> (first | (simp (maxDischargeDepth := 9) -implicitDefEqProofs -dsimp only [go_sem, seval, *]; done) | omega))); (focus (first | trivial | with_reducible exact rfl | (simp (maxDischargeDepth := 9) -implicitDefEqProofs -dsimp only [go_sem, seval]; done)))))
      refine fin_eq ?_
      (repeat' (first | simp (maxDischargeDepth := 9) -implicitDefEqProofs -dsimp only [go_sem, seval, *])) <;> (repeat' refine And.intro ?_ ?_) <;> (first | omega | rfl | assumption | skip)
theorem bl_Ext2 (bo oo ow oa : Nat) (b : Bu) (op : Int) (w : Nat) (x : List Int) (tx : Tok) (σ : Sig) (h : σ bo = some (buC b)) (h1 : 1 ≤ x.length) (hl : x.length ≤ 64) (hw : 1 ≤ w ∧ w ≤ 64) (ho : (op = 31 ∨ op = 32) ∧ x.length ≤ w ∨ op = 33 ∧ w ≤ x.length) (h2 : σ oa = some (.cells [encW x tx])) (h3 : σ ow = some (.cells [.int .i64 w])) (h4 : σ oo = some (.cells [.int .i64 op])) :
    ACalls Try.prog 42 [.ptr bo 0, .ptr oo 0, .ptr ow 0, .ptr oa 0] σ (fun r σ' => r = .ret (encW (extW op w x) .no) ∧ σ' = σ) := by
  have c1 := fun τ => bl_extended op w x tx τ h1 hl hw ho
  obtain ⟨Z, hZ⟩ : ∃ Z, extW op w x = Z := ⟨_, rfl⟩
  rw [hZ] at c1 ⊢
  clear hZ h1 hl hw ho
  refine calls_x mixed Try.func42 b42 n42 rfl q42 (by simp) ?_; unfold c42 r42
  repeat' (first | simp (maxDischargeDepth := 9) -implicitDefEqProofs -dsimp only [go_sem, seval, *] | ((with_reducible apply ACalls.one1); (focus ((first | with_reducible refine c1 _) <;> (first | (simp (maxDischargeDepth := 9) -implicitDefEqProofs -dsimp only [go_sem, seval, *]; done) | omega))); (focus (first | trivial | with_reducible exact rfl | (simp (maxDischargeDepth := 9) -implicitDefEqProofs -dsimp only [go_sem, seval]; done)))))
  refine fin_eq ?_
  (repeat' (first | simp (maxDischargeDepth := 9) -implicitDefEqProofs -dsimp only [go_sem, seval, encW, *])) <;> (repeat' refine And.intro ?_ ?_) <;> (first | omega | rfl | assumption | skip)
set_option maxHeartbeats 2000000 in
theorem bl_Ext (g : Aig) (op w : Int) (x : List Int) (tx : Tok) (σ : Sig) (hs : Wf g) (hxl : x.length ≤ 1000000) :
    ACalls Try.prog 19 [encAig g, .int .i64 op, .int .i64 w, encW x tx] σ (fun r σ' => r = .ret (.tup [encAig (Ext g op w x).1, encW (Ext g op w x).2.1 .no, .int .i64 (Ext g op w x).2.2]) ∧ σ' = σ) := by
  have key : ∀ τ og oo ow oa, τ og = some (.cells (aigL g)) → τ oa = some (.cells [encW x tx]) → τ ow = some (.cells [.int .i64 w]) → τ oo = some (.cells [.int .i64 op]) →
      ACalls Try.prog 27 [encAig g, .fn 41 [] [.ptr og 0, .ptr oa 0, .ptr ow 0, .ptr oo 0], .fn 42 [] [.ptr oo 0, .ptr ow 0, .ptr oa 0]] τ (fun r σ' => r = .ret (.tup [encAig (Ext g op w x).1, encW (Ext g op w x).2.1 .no, .int .i64 (Ext g op w x).2.2]) ∧ σ' = τ) := fun τ og oo ow oa h1 h2 h3 h4 =>
    bl_made g _ _ _ _ (mayExt g op w x) (.ret (extW op w x)) τ hs
      (fun h0 o z ho => bl_Ext1 og oa ow oo g op w x tx _ (check_fine hs h0) hxl (kept ho h1) (kept ho h2) (kept ho h3) (kept ho h4))
      (fun h0 hm o z bo ho hb hne => by
        have hb' : upd τ o z bo = none := by simp [upd, hne, hb]
        unfold mayExt word at hm
        simp only [Bool.and_eq_true, decide_eq_true_eq] at hm
        obtain ⟨⟨⟨m1, m2⟩, m3⟩, m4, m5, m6, m7, m8⟩ := hm
        obtain ⟨n, rfl⟩ : ∃ n : Nat, w = n := ⟨w.toNat, by omega⟩
        have hn : (op = 31 ∨ op = 32) ∧ x.length ≤ n ∨ op = 33 ∧ n ≤ x.length := by
          rcases m8 with m8 | m8
          · omega
          · by_cases h33 : op = 33
            · exact .inr ⟨h33, by have := m8.2 h33; omega⟩
            · refine .inl ⟨by omega, ?_⟩
              have := fun h => h33 (m8.1 h)
              omega
        refine (bl_Ext2 bo oo ow oa ⟨g, 0⟩ op n x tx _ (by simp [upd]) (by omega) m2 (by omega) hn (kept hb' (kept ho h2)) (kept hb' (kept ho h3)) (kept hb' (kept ho h4))).mono fun r σ' ⟨q1, q2⟩ => ⟨q1, q2⟩)
  obtain ⟨Z, hZ⟩ : ∃ Z, Ext g op w x = Z := ⟨_, rfl⟩
  rw [hZ] at key ⊢
  obtain ⟨z1, z2, z3⟩ := Z
  simp only at key ⊢
  clear hZ hs hxl
  refine calls_x mixed Try.func19 b19 n19 rfl q19 (by simp) ?_; unfold c19 r19
  repeat' (first | simp (maxDischargeDepth := 9) -implicitDefEqProofs -dsimp only [go_sem, seval, *] | ((with_reducible refine Zt (fun oF hoF hnF hnF' => ?_)); (try simp only [upd_none, ne_eq, not_and] at hoF)) | ((with_reducible apply ACalls.one1); (focus ((first | with_reducible refine key _ _ _ _ _ ?_ ?_ ?_ ?_) <;> (first | (simp (maxDischargeDepth := 9) -implicitDefEqProofs -dsimp only [go_sem, seval, *]; done) | omega))); (focus (first | trivial | with_reducible exact rfl | (simp (maxDischargeDepth := 9) -implicitDefEqProofs -dsimp only [go_sem, seval]; done)))))
  refine fin_eq ?_
  (repeat' (first | simp (maxDischargeDepth := 9) -implicitDefEqProofs -dsimp only [go_sem, seval, encW, *])) <;> (repeat' refine And.intro ?_ ?_) <;> (first | omega | rfl | assumption | skip)
end Go.Proofs.Ytbbihmmobfmadaa

namespace Go.Proofs.Ytbbihmmobfmadaa
open Abs Fil Fil.Bl A
theorem wf_two2 : Wf ⟨2, [], [], []⟩ := ⟨by simp [I64], by simp, by simp, by simp, by simp, by simp, by simp⟩
theorem sm2 {x y : Int} (hx : I64 x) (hy : I64 y) : ∀ z ∈ [x, y], I64 z := by simp [hx, hy]
theorem sm1 {x : Int} (hx : I64 x) : ∀ z ∈ [x], I64 z := by simp [hx]
abbrev aig2 : AV := .agg [.int .i64 2, .slice [] .no, .slice [] .no, .slice [] .no]
abbrev aig0 : AV := .agg [.int .i64 0, .slice [] .no, .slice [] .no, .slice [] .no]
theorem i64_small {x : Int} (h : -100 ≤ x ∧ x ≤ 100) : I64 x := by unfold I64; omega
theorem ex_New (τ : Sig) : ACalls Try.prog 24 [.int .i64 2, .slice [] .nil] τ (fun r σ' => r = .ret (.tup [aig2, .int .i64 0]) ∧ σ' = τ) := by
  have h := aig_New 2 [] τ (i64_small (by decide)) (by simp)
  rw [show Aig.New 2 [] = (⟨2, [], [], []⟩, 0) by decide] at h
  exact ACalls.fl h (.cons (.refl _) (.cons (.slice _ _ _ _ (.inl rfl) rfl fun i h _ => by simp at h) (.nil _))) (fun o _ x e => ⟨x, e, .refl _ x⟩)
theorem ex_Bin (τ : Sig) : ACalls Try.prog 9 [aig2, .int .i64 14, .slice [.int .i64 2] .full, .slice [.int .i64 4] .full] τ
    (fun r σ' => r = .ret (.tup [.agg [.int .i64 2, .slice [] .no, .slice [encGate (2, 5), encGate (3, 4), encGate (7, 9), encGate (2, 4)] .no, .slice [] .no], .slice [.int .i64 11] .no, .int .i64 0]) ∧ σ' = τ) := by
  have h := bl_Bin ⟨2, [], [], []⟩ 14 [2] [4] .full .full τ wf_two2 (sm1 (i64_small (by decide))) (sm1 (i64_small (by decide))) (by simp) (by simp)
  rw [show Bin ⟨2, [], [], []⟩ 14 [2] [4] = (⟨2, [], [(2, 5), (3, 4), (7, 9), (2, 4)], []⟩, [11], 0) by decide] at h
  exact h
theorem ex_Bin2 (τ : Sig) : ACalls Try.prog 9 [aig2, .int .i64 14, .slice [.int .i64 2] .full, .slice [.int .i64 4, .int .i64 0] .full] τ
    (fun r σ' => r = .ret (.tup [aig0, .slice [] .no, .int .i64 1]) ∧ σ' = τ) := by
  have h := bl_Bin ⟨2, [], [], []⟩ 14 [2] [4, 0] .full .full τ wf_two2 (sm1 (i64_small (by decide))) (sm2 (i64_small (by decide)) (i64_small (by decide))) (by simp) (by simp)
  rw [show Bin ⟨2, [], [], []⟩ 14 [2] [4, 0] = (⟨0, [], [], []⟩, [], 1) by decide] at h
  exact h
theorem ex_Un (τ : Sig) : ACalls Try.prog 18 [aig2, .int .i64 1, .slice [.int .i64 2, .int .i64 5] .full] τ
    (fun r σ' => r = .ret (.tup [aig2, .slice [.int .i64 3, .int .i64 4] .no, .int .i64 0]) ∧ σ' = τ) := by
  have h := bl_Un ⟨2, [], [], []⟩ 1 [2, 5] .full τ wf_two2 (sm2 (i64_small (by decide)) (i64_small (by decide))) (by simp)
  rw [show Un ⟨2, [], [], []⟩ 1 [2, 5] = (⟨2, [], [], []⟩, [3, 4], 0) by decide] at h
  exact h
theorem ex_Un2 (τ : Sig) : ACalls Try.prog 18 [aig2, .int .i64 1, .slice [.int .i64 6] .full] τ
    (fun r σ' => r = .ret (.tup [aig0, .slice [] .no, .int .i64 1]) ∧ σ' = τ) := by
  have h := bl_Un ⟨2, [], [], []⟩ 1 [6] .full τ wf_two2 (sm1 (i64_small (by decide))) (by simp)
  rw [show Un ⟨2, [], [], []⟩ 1 [6] = (⟨0, [], [], []⟩, [], 1) by decide] at h
  exact h
theorem ex_Ext (τ : Sig) : ACalls Try.prog 19 [aig2, .int .i64 32, .int .i64 3, .slice [.int .i64 2, .int .i64 4] .full] τ
    (fun r σ' => r = .ret (.tup [aig2, .slice [.int .i64 2, .int .i64 4, .int .i64 4] .no, .int .i64 0]) ∧ σ' = τ) := by
  have h := bl_Ext ⟨2, [], [], []⟩ 32 3 [2, 4] .full τ wf_two2 (by simp)
  rw [show Ext ⟨2, [], [], []⟩ 32 3 [2, 4] = (⟨2, [], [], []⟩, [2, 4, 4], 0) by decide] at h
  exact h
theorem ex_Num (τ : Sig) : ACalls Try.prog 15 [.int .i64 4, .int .u64 10] τ
    (fun r σ' => r = .ret (.tup [.slice [.int .i64 0, .int .i64 1, .int .i64 0, .int .i64 1] .no, .int .i64 0]) ∧ σ' = τ) := by
  have h := bl_Num 4 10 (by decide) τ
  rw [show bitsN 4 10 = true by decide, if_pos rfl, if_pos rfl, show numW 4 ((10 : Nat) : Int) = [0, 1, 0, 1] by decide] at h
  exact h
theorem ex_Num2 (τ : Sig) : ACalls Try.prog 15 [.int .i64 2, .int .u64 4] τ
    (fun r σ' => r = .ret (.tup [.slice [] .no, .int .i64 1]) ∧ σ' = τ) := by
  have h := bl_Num 2 4 (by decide) τ
  rw [show bitsN 2 4 = false by decide, if_neg (by simp), if_neg (by simp)] at h
  exact h
set_option maxHeartbeats 8000000 in
set_option maxRecDepth 20000 in
theorem law_live (σ : Sig) : ACalls Try.prog 7 [] σ (fun r σ' => r = .ret (.bool true) ∧ σ' = σ) := by
  refine calls_x mixed Try.func7 b7 n7 rfl q7 (by simp) ?_; unfold c7 r7
  repeat' (first | simp (maxDischargeDepth := 9) -implicitDefEqProofs -dsimp only [go_sem, seval, *] | ((with_reducible refine Zt (fun oF hoF hnF hnF' => ?_)); (try simp only [upd_none, ne_eq, not_and] at hoF)) | ((with_reducible apply ACalls.one1); (focus ((first | with_reducible refine ex_New _ | with_reducible refine ex_Bin _ | with_reducible refine ex_Bin2 _ | with_reducible refine ex_Un _ | with_reducible refine ex_Un2 _ | with_reducible refine ex_Ext _ | with_reducible refine ex_Num _ | with_reducible refine ex_Num2 _) <;> (first | (simp (maxDischargeDepth := 9) -implicitDefEqProofs -dsimp only [go_sem, seval, *]; done) | omega))); (focus (first | trivial | with_reducible exact rfl | (simp (maxDischargeDepth := 9) -implicitDefEqProofs -dsimp only [go_sem, seval]; done)))))
  refine fin_eq ?_
  (repeat' (first | simp (maxDischargeDepth := 9) -implicitDefEqProofs -dsimp only [go_sem, seval, *])) <;> (repeat' refine And.intro ?_ ?_) <;> (first | omega | rfl | assumption | skip)
end Go.Proofs.Ytbbihmmobfmadaa

namespace Abs
open Go
inductive Sh where
  | bool
  | int (k : IntKind)
  | str
  | slice (agg : Bool) (e : Sh)
  | row (l : List Sh)
def shAll (f : TypeId → Option Sh) : List TypeId → Option (List Sh)
  | [] => some []
  | t :: ts => match f t, shAll f ts with
    | some s, some l => some (s :: l)
    | _, _ => none
def shOf (P : Program) : Nat → TypeId → Option Sh
  | 0, _ => none
  | g + 1, t =>
    match P.underlying t with
    | some .bool => some .bool
    | some (.int k) => some (.int k)
    | some .string => some .str
    | some (.slice e) => (shOf P g e).map (.slice (isAgg P e))
    | some (.struct fs) => (shAll (shOf P g) (fs.toList.map (·.type))).map .row
    | some (.array n e) => (shAll (shOf P g) (List.replicate n e)).map .row
    | _ => none
mutual
def ShC : Sh → List AV → Prop
  | .bool, cs => ∃ b, cs = [.bool b]
  | .int k, cs => ∃ n, cs = [.int k n] ∧ k.min ≤ n ∧ n ≤ k.max
  | .str, cs => ∃ s : ByteArray, cs = [.str s] ∧ s.size ≤ maxLen
  | .slice b e, cs => ∃ l, cs = [.slice l .no] ∧ l.length ≤ maxLen ∧ ∀ x ∈ l, ∃ es, mkv b es = some x ∧ ShC e es
  | .row l, cs => ShL l cs
def ShL : List Sh → List AV → Prop
  | [], cs => cs = []
  | s :: l, cs => ∃ p q, cs = p ++ q ∧ ShC s p ∧ ShL l q
end
theorem cells_sh {P : Program} : ∀ (g : Nat) (t : TypeId) (s : Sh) (cs : List AV), shOf P g t = some s → Cells P g t cs → ShC s cs
  | 0, _, _, _, h, _ => by simp [shOf] at h
  | g + 1, t, s, cs, h, hc => by
    have all : ∀ (ts : List TypeId) (l : List Sh) (cs : List AV), shAll (shOf P g) ts = some l → CellsL (Cells P g) ts cs → ShL l cs := by
      intro ts
      induction ts with
      | nil => intro l cs h hc; simp [shAll] at h; subst h; simpa [ShL, CellsL] using hc
      | cons t ts ih =>
        intro l cs h hc
        simp only [shAll] at h
        split at h <;> simp at h
        rename_i s' l' h1 h2
        subst h
        obtain ⟨p, q, e, c1, c2⟩ := hc
        exact ⟨p, q, e, cells_sh g t s' p h1 c1, ih l' q h2 c2⟩
    simp only [shOf] at h
    simp only [Cells] at hc
    split at h
    · rename_i hu; rw [hu] at hc; simp at h; subst h; exact hc
    · rename_i k hu; rw [hu] at hc; simp at h; subst h; exact hc
    · rename_i hu; rw [hu] at hc; simp at h; subst h; exact hc
    · rename_i e hu
      rw [hu] at hc
      simp only [Option.map_eq_some_iff] at h
      obtain ⟨s', h1, rfl⟩ := h
      obtain ⟨l, e1, e2, e3⟩ := hc
      refine ⟨l, e1, e2, fun x hx => ?_⟩
      obtain ⟨es, k1, k2⟩ := e3 x hx
      exact ⟨es, k1, cells_sh g e s' es h1 k2⟩
    · rename_i fs hu
      rw [hu] at hc
      simp only [Option.map_eq_some_iff] at h
      obtain ⟨l, h1, rfl⟩ := h
      exact all _ l cs h1 hc
    · rename_i n e hu
      rw [hu] at hc
      simp only [Option.map_eq_some_iff] at h
      obtain ⟨l, h1, rfl⟩ := h
      exact all _ l cs h1 hc
    · simp at h
def ShV (b : Bool) (s : Sh) (a : AV) : Prop := ∃ es, mkv b es = some a ∧ ShC s es
def ShVs : List (Bool × Sh) → List AV → Prop
  | [], as_ => as_ = []
  | p :: l, as_ => ∃ a r, as_ = a :: r ∧ ShV p.1 p.2 a ∧ ShVs l r
def argSh (P : Program) (g : Nat) : List TypeId → Option (List (Bool × Sh))
  | [] => some []
  | t :: ts => match shOf P g t, argSh P g ts with
    | some s, some l => some ((isAgg P t, s) :: l)
    | _, _ => none
theorem args_sh {P : Program} {g : Nat} : ∀ {ts : List TypeId} {l : List (Bool × Sh)} {as_ : List AV}, argSh P g ts = some l → ArgsAre P g ts as_ → ShVs l as_
  | [], l, [], h, _ => by simp [argSh] at h; subst h; rfl
  | [], _, _ :: _, _, ha => ha.elim
  | t :: ts, _, [], _, ha => ha.elim
  | t :: ts, l, a :: as_, h, ha => by
    simp only [argSh] at h
    split at h <;> simp at h
    rename_i s l' h1 h2
    subst h
    obtain ⟨⟨es, k1, k2⟩, k3⟩ := ha
    exact ⟨a, as_, rfl, ⟨es, k1, cells_sh g t s es h1 k2⟩, args_sh h2 k3⟩
theorem list_dec {α : Type} {f : α → AV} {p : α → Prop} : ∀ {l : List AV}, (∀ x ∈ l, ∃ y, x = f y ∧ p y) → ∃ m : List α, l = m.map f ∧ ∀ y ∈ m, p y
  | [], _ => ⟨[], rfl, by simp⟩
  | x :: l, h => by
    obtain ⟨y, e, hy⟩ := h x (by simp)
    obtain ⟨m, e', hm⟩ := list_dec (l := l) fun x hx => h x (by simp [hx])
    exact ⟨y :: m, by simp [e, e'], by simpa using ⟨hy, hm⟩⟩
theorem shv_int {k : IntKind} {a : AV} (h : ShV false (.int k) a) : ∃ n, a = .int k n ∧ k.min ≤ n ∧ n ≤ k.max := by
  obtain ⟨es, h1, n, rfl, h2⟩ := h
  simp [mkv] at h1
  exact ⟨n, h1.symm, h2⟩
theorem shv_slice {b : Bool} {e : Sh} {a : AV} (h : ShV false (.slice b e) a) {α : Type} {f : α → AV} {p : α → Prop} (hd : ∀ x, ShV b e x → ∃ y, x = f y ∧ p y) : ∃ m : List α, a = .slice (m.map f) .no ∧ m.length ≤ maxLen ∧ ∀ y ∈ m, p y := by
  obtain ⟨es, h1, l, rfl, h2, h3⟩ := h
  simp [mkv] at h1
  obtain ⟨m, rfl, hm⟩ := list_dec (f := f) (p := p) (l := l) fun x hx => hd x (h3 x hx)
  exact ⟨m, h1.symm, by simpa using h2, hm⟩
theorem shc_slice {b : Bool} {e : Sh} {cs : List AV} (h : ShC (.slice b e) cs) {α : Type} {f : α → AV} {p : α → Prop} (hd : ∀ x, ShV b e x → ∃ y, x = f y ∧ p y) : ∃ m : List α, cs = [.slice (m.map f) .no] ∧ m.length ≤ maxLen ∧ ∀ y ∈ m, p y := by
  obtain ⟨l, rfl, h2, h3⟩ := h
  obtain ⟨m, rfl, hm⟩ := list_dec (f := f) (p := p) (l := l) fun x hx => hd x (h3 x hx)
  exact ⟨m, rfl, by simpa using h2, hm⟩
end Abs

namespace Fil
open Abs Go
theorem i64_min : IntKind.i64.min = -9223372036854775808 := by decide
theorem i64_max : IntKind.i64.max = 9223372036854775807 := by decide
theorem I64_of {n : Int} (h : IntKind.i64.min ≤ n ∧ n ≤ IntKind.i64.max) : I64 n := by rw [i64_min, i64_max] at h; exact h
theorem arg_int {a : AV} (h : ShV false (.int .i64) a) : ∃ n, a = encInt n ∧ I64 n := by
  obtain ⟨n, e, hn⟩ := shv_int h
  exact ⟨n, e, I64_of hn⟩
theorem arg_gate {a : AV} (h : ShV true (.row [.int .i64, .int .i64]) a) : ∃ x : Int × Int, a = encGate x ∧ I64 x.1 ∧ I64 x.2 := by
  obtain ⟨es, e, p, q, rfl, ⟨n, rfl, hn⟩, p', q', rfl, ⟨m, rfl, hm⟩, rfl⟩ := h
  simp [mkv] at e
  exact ⟨(n, m), e.symm, I64_of hn, I64_of hm⟩
theorem arg_flop {a : AV} (h : ShV true (.row [.int .i64, .bool]) a) : ∃ x : Flop, a = encFlop x ∧ I64 x.next := by
  obtain ⟨es, e, p, q, rfl, ⟨n, rfl, hn⟩, p', q', rfl, ⟨m, rfl⟩, rfl⟩ := h
  simp [mkv] at e
  exact ⟨⟨n, m⟩, e.symm, I64_of hn⟩
structure Wide (g : Aig) : Prop where
  ins : I64 g.ins
  nexts : ∀ f ∈ g.flops, I64 f.next
  gates : ∀ x ∈ g.ands, I64 x.1 ∧ I64 x.2
  lits : ∀ a ∈ g.outs, I64 a
theorem arg_aig {a : AV} (h : ShV true (.row [.int .i64, .slice true (.row [.int .i64, .bool]), .slice true (.row [.int .i64, .int .i64]), .slice false (.int .i64)]) a) : ∃ g : Aig, a = encAig g ∧ Wide g := by
  obtain ⟨es, e, p, q, rfl, ⟨n, rfl, hn⟩, p1, q1, rfl, h1, p2, q2, rfl, h2, p3, q3, rfl, h3, rfl⟩ := h
  obtain ⟨fl, rfl, _, k1⟩ := shc_slice (f := encFlop) (p := fun x : Flop => I64 x.next) h1 fun x hx => arg_flop hx
  obtain ⟨an, rfl, _, k2⟩ := shc_slice (f := encGate) (p := fun x : Int × Int => I64 x.1 ∧ I64 x.2) h2 fun x hx => arg_gate hx
  obtain ⟨ou, rfl, _, k3⟩ := shc_slice (f := encInt) (p := I64) h3 fun x hx => arg_int hx
  simp [mkv] at e
  exact ⟨⟨n, fl, an, ou⟩, e.symm, I64_of hn, k1, k2, k3⟩
def Few (g : Aig) : Prop := g.ins ≤ 200 ∧ g.flops.length ≤ 200 ∧ g.ands.length ≤ 1000 ∧ g.outs.length ≤ 200
theorem few_wf {g : Aig} (h : Wide g) (hf : Few g) : Wf g :=
  ⟨h.ins, by have := hf.2.1; omega, by have := hf.2.2.1; omega, by have := hf.2.2.2; omega, h.nexts, h.gates, h.lits⟩
end Fil

namespace Fil.Bl
open Abs
theorem vals_head : ∀ (l : List (Int × Int)) (x : Bool) (v : List Bool), (Aig.vals (x :: v) l).getD 0 false = x
  | [], x, v => rfl
  | y :: l, x, v => by
    simp only [Aig.vals, List.cons_append]
    exact vals_head l x _
theorem value01 (K : Aig) (inp st : List Bool) : K.value 0 inp st = false ∧ K.value 1 inp st = true := by
  unfold Aig.value Aig.val
  have h := vals_head K.ands false (inp ++ st)
  constructor
  · show ((Aig.vals (false :: (inp ++ st)) K.ands).getD 0 false != decide ((0 : Int) % 2 = 1)) = false
    rw [h]; decide
  · show ((Aig.vals (false :: (inp ++ st)) K.ands).getD 0 false != decide ((1 : Int) % 2 = 1)) = true
    rw [h]; decide
theorem lits_of {K : Aig} (hK : Ok K) (inp st : List Bool) : Lits (fun a => K.lit a = true) (fun a => K.value a inp st) := by
  have hlo := hK.fine.lo
  have hcb : 0 ≤ K.count := by unfold Aig.count; omega
  have h0 : ∀ {a : Int}, K.lit a = true → 0 ≤ a := fun {a} h => by
    unfold Aig.lit Aig.litN at h
    simp only [Bool.and_eq_true, decide_eq_true_eq] at h
    exact h.1
  refine ⟨?_, ?_, (value01 K inp st).1, (value01 K inp st).2, fun a h => turn_lit h, fun a h => value_turn (h0 h)⟩
  · simp only [Aig.lit, Aig.litN, Bool.and_eq_true, decide_eq_true_eq]; omega
  · simp only [Aig.lit, Aig.litN, Bool.and_eq_true, decide_eq_true_eq]; omega
theorem word_ext {g h : Aig} (hx : Fil.Ext g h) {a : List Int} (hw : word g a = true) : word h a = true := by
  unfold word at hw ⊢
  simp only [Bool.and_eq_true, decide_eq_true_eq, List.all_eq_true] at hw ⊢
  refine ⟨hw.1, fun x hxm => ?_⟩
  have := hw.2 x hxm
  obtain ⟨l, hl⟩ := hx.ands
  unfold Aig.lit Aig.litN Aig.count at this ⊢
  rw [hx.ins, hx.flops, hl]
  simp only [Bool.and_eq_true, decide_eq_true_eq, List.length_append] at this ⊢
  omega
theorem made_ok {g : Aig} {may : Bool} {p : Pg (List Int)} (h : (made g may p).2.2 = 0) : g.check = 0 ∧ may = true ∧ (p.run ⟨g, 0⟩).2.e = 0 ∧ made g may p = ((p.run ⟨g, 0⟩).2.g, (p.run ⟨g, 0⟩).1, 0) := by
  unfold made at h ⊢
  by_cases h0 : g.check = 0
  · rw [if_neg (by omega)] at h ⊢
    cases may with
    | false => simp at h
    | true =>
      rw [if_neg (by simp)] at h ⊢
      unfold told at h ⊢
      by_cases he : (p.run ⟨g, 0⟩).2.e = 0
      · rw [if_neg (by omega)]
        exact ⟨h0, rfl, he, rfl⟩
      · rw [if_pos he] at h
        exact absurd h he
  · rw [if_pos h0] at h
    exact absurd h h0
theorem made_of {g : Aig} {p : Pg (List Int)} (h0 : g.check = 0) (he : (p.run ⟨g, 0⟩).2.e = 0) : made g true p = ((p.run ⟨g, 0⟩).2.g, (p.run ⟨g, 0⟩).1, 0) := by
  unfold made told
  rw [if_neg (by omega), if_neg (by simp), if_neg (by omega)]
theorem binN_fst (op : Int) (w a b : Nat) : (binN op w a b).1 ≤ w + 1 := by
  have key : ∀ {c : Prop} [Decidable c] {x y : Nat × Nat}, x.1 ≤ w + 1 → y.1 ≤ w + 1 → (if c then x else y).1 ≤ w + 1 := by
    intro c _ x y h1 h2
    split <;> assumption
  unfold binN
  repeat' (first | exact Nat.le_succ w | exact Nat.le_add_left 1 w | refine key ?_ ?_)
theorem again_law {g : Aig} {op : Int} {a b : List Int} (hs : Wf g) (h : (Bin g op a b).2.2 = 0) (ha : a.length ≤ 8) (hb : b.length ≤ 8) :
    Bin (Bin g op a b).1 op a b = ((Bin g op a b).1, (Bin g op a b).2.1, 0) ∧ ((Bin g op a b).1.ands.length ≤ g.ands.length + 1300 ∧ (Bin g op a b).2.1.length ≤ 9) ∧ Wf (Bin g op a b).1 := by
  obtain ⟨h0, hm, he, hr⟩ := made_ok h
  have hr : Bin g op a b = (((binP op a b).run ⟨g, 0⟩).2.g, ((binP op a b).run ⟨g, 0⟩).1, 0) := hr
  rw [hr]
  obtain ⟨k1, k2⟩ := run_ok (binP op a b) ⟨g, 0⟩ hs ⟨hs, h0⟩ he
  have hag := run_again k1 (binP op a b) ⟨g, 0⟩ hs he (.refl _)
  have hmay : mayBin ((binP op a b).run ⟨g, 0⟩).2.g op a b = true := by
    unfold mayBin at hm ⊢
    simp only [Bool.and_eq_true] at hm ⊢
    exact ⟨⟨word_ext k2 hm.1.1, word_ext k2 hm.1.2⟩, hm.2⟩
  refine ⟨?_, ?_, k1.wf⟩
  · show made _ (mayBin _ op a b) (binP op a b) = _
    rw [hmay, made_of k1.chk (by rw [hag]), hag]
  · have hm' := hm
    unfold mayBin word at hm'
    simp only [Bool.and_eq_true, decide_eq_true_eq, List.all_eq_true] at hm'
    obtain ⟨⟨⟨⟨a1, a2⟩, a3⟩, ⟨b1, b2⟩, b3⟩, c1⟩ := hm'
    have hww : ∀ {l : List Int}, (∀ x ∈ l, g.lit x = true) → Ws (fun z => ((binP op a b).run ⟨g, 0⟩).2.g.lit z = true) l := fun {l} hl x hx => k2.lit (hl x hx)
    have hlo := (check_fine hs h0).lo
    obtain ⟨n, hn, hle⟩ := run_sem (inp := List.replicate g.ins.toNat false) (st := List.replicate g.flops.length false) (binP op a b) ⟨g, 0⟩ _ hs (by simp; omega) (by simp) he (.refl _)
      (bin_wp (lits_of k1 _ _) (hww a3) (hww b3) ⟨by omega, by omega⟩ (by omega) (by omega))
    have h1 : a.length * b.length ≤ 8 * 8 := Nat.mul_le_mul ha hb
    have h2 : 6 * a.length * b.length = 6 * (a.length * b.length) := Nat.mul_assoc _ _ _
    have h3 := hn.1
    rw [h2] at h3
    have hle : ((binP op a b).run ⟨g, 0⟩).2.g.ands.length ≤ g.ands.length + 3 * n := hle
    refine ⟨?_, ?_⟩
    · show ((binP op a b).run ⟨g, 0⟩).2.g.ands.length ≤ _
      omega
    · show ((binP op a b).run ⟨g, 0⟩).1.length ≤ 9
      have h4 := congrArg Prod.fst hn.2.2
      simp only at h4
      rw [h4]
      have := binN_fst op a.length (toN (a.map fun z => ((binP op a b).run ⟨g, 0⟩).2.g.value z (List.replicate g.ins.toNat false) (List.replicate g.flops.length false))) (toN (b.map fun z => ((binP op a b).run ⟨g, 0⟩).2.g.value z (List.replicate g.ins.toNat false) (List.replicate g.flops.length false)))
      omega
end Fil.Bl

namespace Go.Proofs.Ytbbihmmobfmadaa
open Abs Fil Fil.Bl A
def fewG (g : Aig) : Bool := decide (g.ins ≤ 40) && decide (g.flops.length ≤ 20) && decide (g.ands.length ≤ 80) && decide (g.outs.length ≤ 60)
theorem bl_few (g : Aig) (ls : List (List Int)) (t : Tok) (σ : Sig) (hl : ls.length ≤ 1000) :
    ACalls Try.prog 8 [encAig g, .slice (ls.map fun l => encW l .no) t] σ (fun r σ' => r = .ret (.bool ((ls.all fun l => decide (l.length ≤ 8)) && fewG g)) ∧ σ' = σ) := by
  refine calls_x mixed Try.func8 b8 n8 rfl q8 (by simp) ?_; unfold c8 r8
  repeat' (first | simp (maxDischargeDepth := 9) -implicitDefEqProofs -dsimp only [go_sem, seval, *] | simp (disch := omega) only [wrap64])
  refine loop_rule (fun i : Nat => [(5, some (.int .i64 i)), (1, some (.slice (ls.map fun l => encW l .no) t)), (2, some (.cptr (aigL g)))]) (fun _ => σ) (fun i => i ≤ ls.length ∧ (ls.take i).all (fun l => decide (l.length ≤ 8)) = true) (fun i => ls.length - i) 0 ?_ ?_
  · (repeat' (first | simp (maxDischargeDepth := 9) -implicitDefEqProofs -dsimp only [go_sem, seval, List.take_zero, List.all_nil, *] | simp (disch := omega) only [wrap64])) <;> (repeat' refine And.intro ?_ ?_) <;> (first | omega | rfl | assumption | skip)
  rintro i ⟨hi, hall⟩
  by_cases hlt : i < ls.length
  · have hgx : (ls.map fun l => encW l .no)[i]? = some (encW ls[i] .no) := by simp [hlt]
    have htk : ls.take (i + 1) = ls.take i ++ [ls[i]] := by rw [List.take_add_one]; simp [hlt]
    have hmem : ls[i] ∈ ls := List.getElem_mem _
    obtain ⟨x, hx⟩ : ∃ x, ls[i] = x := ⟨_, rfl⟩
    rw [hx] at hgx htk hmem
    clear hx
    by_cases h8 : (8 : Int) < (x.length : Int)
    · have hf : (ls.all fun l => decide (l.length ≤ 8)) = false := by
        rw [List.all_eq_false]
        exact ⟨x, hmem, by simp; omega⟩
      rw [hf, Bool.false_and]
      clear hf htk hall hmem
      repeat' (first | simp (maxDischargeDepth := 9) -implicitDefEqProofs -dsimp only [go_sem, seval, gt_iff_lt, List.length_map, *] | simp (disch := omega) only [wrap64])
      refine fin_eq ?_
      (repeat' (first | simp (maxDischargeDepth := 9) -implicitDefEqProofs -dsimp only [go_sem, seval, *] | simp (disch := omega) only [wrap64])) <;> (repeat' refine And.intro ?_ ?_) <;> (first | omega | rfl | assumption | skip)
    · have hall2 : (ls.take (i + 1)).all (fun l => decide (l.length ≤ 8)) = true := by
        rw [htk, List.all_append, hall]; simp; omega
      clear htk hall hmem
      repeat' (first | simp (maxDischargeDepth := 9) -implicitDefEqProofs -dsimp only [go_sem, seval, gt_iff_lt, List.length_map, *] | simp (disch := omega) only [wrap64])
      refine loop_next _ _ _ _ (i + 1) ?_; (repeat' (first | simp (maxDischargeDepth := 9) -implicitDefEqProofs -dsimp only [go_sem, seval,  hall2, *] | simp (disch := omega) only [wrap64])) <;> (repeat' refine And.intro ?_ ?_) <;> (first | omega | rfl | assumption | skip)
  · have : i = ls.length := by omega
    subst this
    rw [List.take_length] at hall
    rw [hall, Bool.true_and]
    have hM : fewG g = (decide (g.ins ≤ 40) && decide (g.flops.length ≤ 20) && decide (g.ands.length ≤ 80) && decide (g.outs.length ≤ 60)) := rfl
    obtain ⟨M, hMM⟩ : ∃ M, fewG g = M := ⟨_, rfl⟩
    rw [hMM] at hM ⊢
    clear hMM hall
    by_cases h1 : g.ins ≤ 40
    case neg =>
      have e : M = false := by rw [hM]; simp [h1]
      subst e
      clear hM
      repeat' (first | simp (maxDischargeDepth := 9) -implicitDefEqProofs -dsimp only [go_sem, seval, List.length_map, *] | simp (disch := omega) only [wrap64])
      refine fin_eq ?_
      (repeat' (first | simp (maxDischargeDepth := 9) -implicitDefEqProofs -dsimp only [go_sem, seval, *] | simp (disch := omega) only [wrap64])) <;> (repeat' refine And.intro ?_ ?_) <;> (first | omega | rfl | assumption | skip)
    by_cases h2 : (g.flops.length : Int) ≤ 20
    case neg =>
      have e : M = false := by rw [hM, show decide (g.flops.length ≤ 20) = false by rw [decide_eq_false_iff_not]; omega]; simp
      subst e
      clear hM
      repeat' (first | simp (maxDischargeDepth := 9) -implicitDefEqProofs -dsimp only [go_sem, seval, List.length_map, *] | simp (disch := omega) only [wrap64])
      refine fin_eq ?_
      (repeat' (first | simp (maxDischargeDepth := 9) -implicitDefEqProofs -dsimp only [go_sem, seval, *] | simp (disch := omega) only [wrap64])) <;> (repeat' refine And.intro ?_ ?_) <;> (first | omega | rfl | assumption | skip)
    by_cases h3 : (g.ands.length : Int) ≤ 80
    case neg =>
      have e : M = false := by rw [hM, show decide (g.ands.length ≤ 80) = false by rw [decide_eq_false_iff_not]; omega]; simp
      subst e
      clear hM
      repeat' (first | simp (maxDischargeDepth := 9) -implicitDefEqProofs -dsimp only [go_sem, seval, List.length_map, *] | simp (disch := omega) only [wrap64])
      refine fin_eq ?_
      (repeat' (first | simp (maxDischargeDepth := 9) -implicitDefEqProofs -dsimp only [go_sem, seval, *] | simp (disch := omega) only [wrap64])) <;> (repeat' refine And.intro ?_ ?_) <;> (first | omega | rfl | assumption | skip)
    have e : M = decide ((g.outs.length : Int) ≤ 60) := by
      rw [hM, show decide (g.ins ≤ 40) = true by simpa using h1, show decide (g.flops.length ≤ 20) = true by rw [decide_eq_true_iff]; omega, show decide (g.ands.length ≤ 80) = true by rw [decide_eq_true_iff]; omega]
      simp only [Bool.true_and]
      rw [Bool.eq_iff_iff, decide_eq_true_iff, decide_eq_true_iff]; omega
    subst e
    clear hM
    repeat' (first | simp (maxDischargeDepth := 9) -implicitDefEqProofs -dsimp only [go_sem, seval, List.length_map, *] | simp (disch := omega) only [wrap64])
    refine fin_eq ?_
    (repeat' (first | simp (maxDischargeDepth := 9) -implicitDefEqProofs -dsimp only [go_sem, seval, *] | simp (disch := omega) only [wrap64])) <;> (repeat' refine And.intro ?_ ?_) <;> (first | omega | rfl | assumption | skip)
theorem few_of {g : Aig} (h : fewG g = true) : Few g := by
  unfold fewG at h
  simp only [Bool.and_eq_true, decide_eq_true_eq] at h
  exact ⟨by omega, by omega, by omega, by omega⟩
theorem few2 (g : Aig) (a b : List Int) (τ : Sig) : ACalls Try.prog 8 [encAig g, .slice [encW a .no, encW b .no] .full] τ (fun r σ' => r = .ret (.bool (decide (a.length ≤ 8) && decide (b.length ≤ 8) && fewG g)) ∧ σ' = τ) := by
  have h := bl_few g [a, b] .full τ (by simp)
  rw [show ([a, b].all fun l => decide (l.length ≤ 8)) = (decide (a.length ≤ 8) && decide (b.length ≤ 8)) by simp] at h
  exact h
set_option maxRecDepth 20000 in
set_option maxHeartbeats 4000000 in
theorem again_ok (g : Aig) (op : Int) (a b : List Int) (σ : Sig) (hs : fewG g = true → Wf g) (ha : ∀ z ∈ a, I64 z) (hb : ∀ z ∈ b, I64 z) :
    ACalls Try.prog 5 [encAig g, .int .i64 op, encW a .no, encW b .no] σ (fun r σ' => r = .ret (.bool true) ∧ σ' = σ) := by
  have z2 := fun τ => few2 g a b τ
  cases hF : (decide (a.length ≤ 8) && decide (b.length ≤ 8) && fewG g) with
  | false =>
    rw [hF] at z2
    clear hF hs ha hb
    refine calls_x mixed Try.func5 b5 n5 rfl q5 (by simp) ?_; unfold c5 r5
    repeat' (first | simp (maxDischargeDepth := 9) -implicitDefEqProofs -dsimp only [go_sem, seval, *] | ((with_reducible refine Zt (fun oF hoF hnF hnF' => ?_)); (try simp only [upd_none, ne_eq, not_and] at hoF)) | ((with_reducible apply ACalls.one1); (focus ((first | with_reducible refine law_live _ | with_reducible refine z2 _) <;> (first | (simp (maxDischargeDepth := 9) -implicitDefEqProofs -dsimp only [go_sem, seval, *]; done) | omega))); (focus (first | trivial | with_reducible exact rfl | (simp (maxDischargeDepth := 9) -implicitDefEqProofs -dsimp only [go_sem, seval]; done)))))
    refine fin_eq ?_
    (repeat' (first | simp (maxDischargeDepth := 9) -implicitDefEqProofs -dsimp only [go_sem, seval, *])) <;> (repeat' refine And.intro ?_ ?_) <;> (first | omega | rfl | assumption | skip)
  | true =>
    rw [hF] at z2
    simp only [Bool.and_eq_true, decide_eq_true_eq] at hF
    obtain ⟨⟨la, lb⟩, hg⟩ := hF
    have hs := hs hg
    have z3 := fun τ => bl_Bin g op a b .no .no τ hs ha hb (by omega) (by omega)
    have hl := again_law (g := g) (op := op) (a := a) (b := b) hs
    have hgl : g.ands.length ≤ 80 := by
      unfold fewG at hg
      simp only [Bool.and_eq_true, decide_eq_true_eq] at hg
      exact hg.1.2
    obtain ⟨⟨h, l, e⟩, hZ⟩ : ∃ Z, Bin g op a b = Z := ⟨_, rfl⟩
    rw [hZ] at z3 hl
    simp only at z3 hl
    by_cases he : e = 0
    · subst he
      obtain ⟨l1, ⟨l2, l4⟩, l3⟩ := hl rfl la lb
      have z4 := fun τ => bl_Bin h op a b .no .no τ l3 ha hb (by omega) (by omega)
      rw [l1] at z4
      simp only at z4
      have z5 := fun τ => ref_Same h h τ l3.flops l3.ands l3.outs
      rw [show decide (h = h) = true by simp] at z5
      have hll : l.length ≤ 1000000000 := by omega
      have z6 : ∀ τ, ACalls Try.prog 17 [encW l .no, encW l .no] τ (fun r σ' => r = .ret (.bool true) ∧ σ' = τ) := fun τ => by
        have h6 := ref_Ints l l τ hll
        rw [show decide (l = l) = true by simp] at h6
        exact h6
      have hbd : ¬ (20000 : Int) < (h.ands.length : Int) := by omega
      clear l1 l2 l3 l4 hs ha hb hg hgl la lb hZ hl hll
      refine calls_x mixed Try.func5 b5 n5 rfl q5 (by simp) ?_; unfold c5 r5
      repeat' (first | simp (maxDischargeDepth := 9) -implicitDefEqProofs -dsimp only [go_sem, seval, gt_iff_lt, List.length_map, *] | ((with_reducible refine Zt (fun oF hoF hnF hnF' => ?_)); (try simp only [upd_none, ne_eq, not_and] at hoF)) | ((with_reducible apply ACalls.one1); (focus ((first | with_reducible refine law_live _ | with_reducible refine z2 _ | with_reducible refine z3 _ | with_reducible refine z4 _ | with_reducible refine z5 _ | with_reducible refine z6 _) <;> (first | (simp (maxDischargeDepth := 9) -implicitDefEqProofs -dsimp only [go_sem, seval, *]; done) | omega))); (focus (first | trivial | with_reducible exact rfl | (simp (maxDischargeDepth := 9) -implicitDefEqProofs -dsimp only [go_sem, seval]; done)))))
      refine fin_eq ?_
      (repeat' (first | simp (maxDischargeDepth := 9) -implicitDefEqProofs -dsimp only [go_sem, seval, *])) <;> (repeat' refine And.intro ?_ ?_) <;> (first | omega | rfl | assumption | skip)
    · have he' : (e != 0) = true := by simpa using he
      clear hs ha hb hg hgl la lb hZ hl he
      refine calls_x mixed Try.func5 b5 n5 rfl q5 (by simp) ?_; unfold c5 r5
      repeat' (first | simp (maxDischargeDepth := 9) -implicitDefEqProofs -dsimp only [go_sem, seval, gt_iff_lt, List.length_map, *] | ((with_reducible refine Zt (fun oF hoF hnF hnF' => ?_)); (try simp only [upd_none, ne_eq, not_and] at hoF)) | ((with_reducible apply ACalls.one1); (focus ((first | with_reducible refine law_live _ | with_reducible refine z2 _ | with_reducible refine z3 _) <;> (first | (simp (maxDischargeDepth := 9) -implicitDefEqProofs -dsimp only [go_sem, seval, *]; done) | omega))); (focus (first | trivial | with_reducible exact rfl | (simp (maxDischargeDepth := 9) -implicitDefEqProofs -dsimp only [go_sem, seval]; done)))))
      refine fin_eq ?_
      (repeat' (first | simp (maxDischargeDepth := 9) -implicitDefEqProofs -dsimp only [go_sem, seval, *])) <;> (repeat' refine And.intro ?_ ?_) <;> (first | omega | rfl | assumption | skip)
end Go.Proofs.Ytbbihmmobfmadaa

