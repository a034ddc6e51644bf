/- blast: the document's answer: operations of two words, and a choice. -/
import Derived.Test.YtbbihmmobfmadaaGreatOBlzBlaV
set_option linter.unusedSimpArgs false
set_option linter.unusedVariables false
namespace Go.Proofs.YtbbihmmobfmadaaGreat
open Abs Fil Fil.Bl A
theorem few1 (g : Aig) (a : List Int) (τ : Sig) : ACalls Tryz.prog 8 [encAig g, .slice [encW a .no] .full] τ (fun r σ' => r = .ret (.bool (decide (a.length ≤ 8) && fewG g)) ∧ σ' = τ) := by
  have h := bl_few g [a] .full τ (by simp)
  rw [show ([a].all fun l => decide (l.length ≤ 8)) = decide (a.length ≤ 8) by simp] at h
  exact h
theorem arg_u64 {a : AV} (h : ShV false (.int .u64) a) : ∃ n : Nat, a = .int .u64 n ∧ n < 18446744073709551616 := by
  obtain ⟨n, rfl, h1⟩ := shv_int h
  have e1 : IntKind.u64.min = 0 := by decide
  have e2 : IntKind.u64.max = 18446744073709551615 := by decide
  rw [e1, e2] at h1
  exact ⟨n.toNat, by rw [Int.toNat_of_nonneg h1.1], by omega⟩
theorem run_wf {α : Type} : ∀ (p : Pg α) (b : Bu), Wf b.g → Wf (p.run b).2.g
  | .ret a, b, h => h
  | .op o x y z k, b, h => run_wf (k _) _ (bu_wf h o x y z).1
theorem zG_wf : Wf zG := ⟨by unfold zG I64; simp, by simp [zG], by simp [zG], by simp [zG], by simp [zG], by simp [zG], by simp [zG]⟩
theorem made_wf {g : Aig} {may : Bool} {p : Pg (List Int)} (hs : Wf g) : Wf (made g may p).1 := by
  unfold made
  split
  · exact zG_wf
  split
  · exact zG_wf
  · unfold told
    split
    · exact zG_wf
    · exact run_wf p ⟨g, 0⟩ hs
theorem made_len {g : Aig} {may : Bool} {p : Pg (List Int)} {n : Nat} (h : (p.run ⟨g, 0⟩).1.length ≤ n) : (made g may p).2.1.length ≤ n := by
  unfold made
  split
  · exact Nat.zero_le _
  split
  · exact Nat.zero_le _
  · unfold told
    split
    · exact Nat.zero_le _
    · exact h
theorem not_len (x : List Int) : (notW x).length = x.length := by simp [notW]
theorem un_len {op : Int} {x : List Int} {b : Bu} (hs : Wf b.g) : ((unP op x).run b).1.length ≤ x.length + 1 := by
  have h1 := (sumW_wf (x := notW x) (y := List.replicate x.length 0) (c := 1) hs ⟨by decide, by decide⟩).2.2.1
  rw [not_len] at h1
  unfold unP
  repeat' split
  · exact Nat.le_succ_of_le (Nat.le_of_eq (not_len x))
  · rw [run_bind]; exact Nat.le_succ_of_le (Nat.le_of_eq h1)
  all_goals first | (rw [run_bind]; exact Nat.le_add_left 1 _) | exact Nat.le_add_left 1 _
theorem ext_len {op w : Int} {x : List Int} (h : w ≤ 64) : (extW op w x).length ≤ x.length + 64 := by
  unfold extW
  split
  · rw [List.length_take]; omega
  · rw [List.length_append, List.length_replicate]; omega
theorem same_Same (g : Aig) (h : Wf g) (τ : Sig) : ACalls Tryz.prog 13 [encAig g, encAig g] τ (fun r σ' => r = .ret (.bool true) ∧ σ' = τ) := by
  have z := ref_Same g g τ h.flops h.ands h.outs
  rwa [show decide (g = g) = true by simp] at z
theorem same_Ints (l : List Int) (h : l.length ≤ 1000000000) (τ : Sig) : ACalls Tryz.prog 14 [encW l .no, encW l .no] τ (fun r σ' => r = .ret (.bool true) ∧ σ' = τ) := by
  have z := ref_Ints l l τ h
  rwa [show decide (l = l) = true by simp] at z
set_option maxRecDepth 20000 in
set_option maxHeartbeats 8000000 in
theorem one_ok (g : Aig) (op : Int) (a : List Int) (w : Int) (v : Nat) (σ : Sig) (hs : fewG g = true → Wf g) (ha : ∀ z ∈ a, I64 z) (hv : v < 18446744073709551616) :
    ACalls Tryz.prog 5 [encAig g, .int .i64 op, encW a .no, .int .i64 w, .int .u64 v] σ (fun r σ' => r = .ret (.bool true) ∧ σ' = σ) := by
  have z2 := fun τ => few1 g a τ
  cases hF : (decide (a.length ≤ 8) && fewG g) with
  | false =>
    rw [hF] at z2
    clear hF hs ha
    refine calls_x mixed Tryz.func5 b5 n5 rfl q5 (by simp) ?_; unfold c5 r5
    repeat' (first | simp (maxDischargeDepth := 9) -implicitDefEqProofs -dsimp only [go_sem, seval, *] | ((with_reducible refine Zt (fun oF hoF hnF hnF' => ?_)); (try simp only [upd_none, ne_eq, not_and] at hoF)) | ((with_reducible apply ACalls.one1); (focus ((first | with_reducible refine law_live _ | with_reducible refine z2 _) <;> (first | (simp (maxDischargeDepth := 9) -implicitDefEqProofs -dsimp only [go_sem, seval, *]; done) | omega))); (focus (first | trivial | with_reducible exact rfl | (simp (maxDischargeDepth := 9) -implicitDefEqProofs -dsimp only [go_sem, seval]; done)))))
    refine fin_eq ?_
    (repeat' (first | simp (maxDischargeDepth := 9) -implicitDefEqProofs -dsimp only [go_sem, seval, *])) <;> (repeat' refine And.intro ?_ ?_) <;> (first | omega | rfl | assumption | skip)
  | true =>
    rw [hF] at z2
    simp only [Bool.and_eq_true, decide_eq_true_eq] at hF
    obtain ⟨la, hg⟩ := hF
    have hs := hs hg
    have z3 := fun τ => bl_Un g op a .no τ hs ha (by omega)
    have z4 := fun τ => r19_Un g op a .no τ hs (by omega)
    have z5 := fun τ => bl_Ext g op w a .no τ hs (by omega)
    have z6 := fun τ => r19_Ext g op w a .no τ hs (by omega)
    have z7 := fun τ => bl_Num w v hv τ
    have z8 := fun τ => r19_Num w v hv τ
    have w1 : Wf (Un g op a).1 := made_wf hs
    have w2 : (Un g op a).2.1.length ≤ a.length + 1 := made_len (un_len (b := ⟨g, 0⟩) hs)
    have w3 : Wf (Bl.Ext g op w a).1 := made_wf hs
    have w4 : (Bl.Ext g op w a).2.1.length ≤ a.length + 64 := by
      by_cases hw : w ≤ 64
      · exact made_len (p := .ret (extW op w a)) (ext_len hw)
      · have e : mayExt g op w a = false := by
          unfold mayExt
          rw [Bool.and_eq_false_iff]
          right
          rw [decide_eq_false_iff_not]; omega
        unfold Bl.Ext made
        rw [e]
        split
        · exact Nat.zero_le _
        · rw [if_pos rfl]; exact Nat.zero_le _
    have w5 : (if bitsN w v then numW w v else []).length ≤ 64 := by
      split
      · rename_i h
        have := (bitsN_iff.1 h).1
        unfold numW
        rw [List.length_map, List.length_range]; omega
      · exact Nat.zero_le _
    obtain ⟨⟨x, l, e⟩, hX⟩ : ∃ Z, Un g op a = Z := ⟨_, rfl⟩
    rw [hX] at z3 z4 w1 w2
    obtain ⟨⟨y, m, f⟩, hY⟩ : ∃ Z, Bl.Ext g op w a = Z := ⟨_, rfl⟩
    rw [hY] at z5 z6 w3 w4
    obtain ⟨N, hN⟩ : ∃ N, (if bitsN w v then numW w v else []) = N := ⟨_, rfl⟩
    rw [hN] at z7 z8 w5
    obtain ⟨E, hE⟩ : ∃ E : Int, (if bitsN w v then (0 : Int) else 1) = E := ⟨_, rfl⟩
    rw [hE] at z7 z8
    simp only at z3 z4 z5 z6 w1 w2 w3 w4
    have s1 := fun τ => same_Same x w1 τ
    have s2 := fun τ => same_Same y w3 τ
    have s3 := fun τ => same_Ints l (by omega) τ
    have s4 := fun τ => same_Ints m (by omega) τ
    have s5 := fun τ => same_Ints N (by omega) τ
    have b1 : (e == e) = true := by simp
    have b2 : (f == f) = true := by simp
    have b3 : (E == E) = true := by simp
    clear hs ha hg la hX hY hN hE w1 w2 w3 w4 w5
    refine calls_x mixed Tryz.func5 b5 n5 rfl q5 (by simp) ?_; unfold c5 r5
    repeat' (first | simp (maxDischargeDepth := 9) -implicitDefEqProofs -dsimp only [go_sem, seval, *] | ((with_reducible refine Zt (fun oF hoF hnF hnF' => ?_)); (try simp only [upd_none, ne_eq, not_and] at hoF)) | ((with_reducible apply ACalls.one1); (focus ((first | with_reducible refine law_live _ | with_reducible refine z2 _ | with_reducible refine z3 _ | with_reducible refine z4 _ | with_reducible refine z5 _ | with_reducible refine z6 _ | with_reducible refine z7 _ | with_reducible refine z8 _ | with_reducible refine s1 _ | with_reducible refine s2 _ | with_reducible refine s3 _ | with_reducible refine s4 _ | with_reducible refine s5 _) <;> (first | (simp (maxDischargeDepth := 9) -implicitDefEqProofs -dsimp only [go_sem, seval, *]; done) | omega))); (focus (first | trivial | with_reducible exact rfl | (simp (maxDischargeDepth := 9) -implicitDefEqProofs -dsimp only [go_sem, seval]; done)))))
    refine fin_eq ?_
    (repeat' (first | simp (maxDischargeDepth := 9) -implicitDefEqProofs -dsimp only [go_sem, seval, *])) <;> (repeat' refine And.intro ?_ ?_) <;> (first | omega | rfl | assumption | skip)
end Go.Proofs.YtbbihmmobfmadaaGreat

namespace Go.Proofs.YtbbihmmobfmadaaGreat
open Abs Fil Fil.Bl A
theorem bl_Cond1 (og oa ob oc : Nat) (g : Aig) (c : Int) (x y : List Int) (tx ty : Tok) (σ : Sig) (hf : Fine g) (hx : x.length ≤ 1000000) (hy : y.length ≤ 1000000)
    (h1 : σ og = some (.cells (aigL g))) (h2 : σ oa = some (.cells [encW x tx])) (h3 : σ ob = some (.cells [encW y ty])) (h4 : σ oc = some (.cells [.int .i64 c])) :
    ACalls Tryz.prog 64 [.ptr og 0, .ptr oa 0, .ptr ob 0, .ptr oc 0] σ (fun r σ' => r = .ret (.bool (mayCond g c x y)) ∧ σ' = σ) := by
  have z1 := fun τ => bl_word g x tx τ hf hx
  have z2 := fun τ => bl_word g y ty τ hf hy
  have z3 : ∀ τ, ACalls Tryz.prog 36 [encAig g, .slice [.int .i64 c] .full] τ (fun r σ' => r = .ret (.bool (word g [c])) ∧ σ' = τ) := fun τ => bl_word g [c] .full τ hf (by simp)
  have hM : mayCond g c x y = (word g x && word g y && word g [c] && decide (x.length = y.length)) := rfl
  rw [show decide (x.length = y.length) = ((x.length : Int) == (y.length : Int)) by rw [Bool.eq_iff_iff, decide_eq_true_iff, beq_iff_eq]; omega] at hM
  obtain ⟨M, hMM⟩ : ∃ M, mayCond g c x y = M := ⟨_, rfl⟩
  rw [hMM] at hM ⊢
  obtain ⟨X, hX⟩ : ∃ X, word g x = X := ⟨_, rfl⟩
  rw [hX] at z1 hM
  obtain ⟨Y, hY⟩ : ∃ Y, word g y = Y := ⟨_, rfl⟩
  rw [hY] at z2 hM
  obtain ⟨C, hC⟩ : ∃ Y, word g [c] = Y := ⟨_, rfl⟩
  rw [hC] at z3 hM
  clear hMM hX hY hC hf
  cases X with
  | false =>
    simp only [Bool.false_and] at hM
    subst hM
    refine calls_x mixed Tryz.func64 b64 n64 rfl q64 (by simp) ?_; unfold c64 r64
    repeat' (first | simp (maxDischargeDepth := 9) -implicitDefEqProofs -dsimp only [go_sem, seval, *] | ((with_reducible apply ACalls.one1); (focus ((first | with_reducible refine z1 _) <;> (first | (simp (maxDischargeDepth := 9) -implicitDefEqProofs -dsimp only [go_sem, seval, *]; done) | omega))); (focus (first | trivial | with_reducible exact rfl | (simp (maxDischargeDepth := 9) -implicitDefEqProofs -dsimp only [go_sem, seval]; done)))))
    refine fin_eq ?_
    (repeat' (first | simp (maxDischargeDepth := 9) -implicitDefEqProofs -dsimp only [go_sem, seval, *])) <;> (repeat' refine And.intro ?_ ?_) <;> (first | omega | rfl | assumption | skip)
  | true =>
    cases Y with
    | false =>
      simp only [Bool.false_and, Bool.and_false] at hM
      subst hM
      refine calls_x mixed Tryz.func64 b64 n64 rfl q64 (by simp) ?_; unfold c64 r64
      repeat' (first | simp (maxDischargeDepth := 9) -implicitDefEqProofs -dsimp only [go_sem, seval, *] | ((with_reducible apply ACalls.one1); (focus ((first | with_reducible refine z1 _ | with_reducible refine z2 _) <;> (first | (simp (maxDischargeDepth := 9) -implicitDefEqProofs -dsimp only [go_sem, seval, *]; done) | omega))); (focus (first | trivial | with_reducible exact rfl | (simp (maxDischargeDepth := 9) -implicitDefEqProofs -dsimp only [go_sem, seval]; done)))))
      refine fin_eq ?_
      (repeat' (first | simp (maxDischargeDepth := 9) -implicitDefEqProofs -dsimp only [go_sem, seval, *])) <;> (repeat' refine And.intro ?_ ?_) <;> (first | omega | rfl | assumption | skip)
    | true =>
      cases C with
      | false =>
        simp only [Bool.false_and, Bool.and_false] at hM
        subst hM
        refine calls_x mixed Tryz.func64 b64 n64 rfl q64 (by simp) ?_; unfold c64 r64
        repeat' (first | simp (maxDischargeDepth := 9) -implicitDefEqProofs -dsimp only [go_sem, seval, *] | ((with_reducible apply ACalls.one1); (focus ((first | with_reducible refine z1 _ | with_reducible refine z2 _ | with_reducible refine z3 _) <;> (first | (simp (maxDischargeDepth := 9) -implicitDefEqProofs -dsimp only [go_sem, seval, *]; done) | omega))); (focus (first | trivial | with_reducible exact rfl | (simp (maxDischargeDepth := 9) -implicitDefEqProofs -dsimp only [go_sem, seval]; done)))))
        refine fin_eq ?_
        (repeat' (first | simp (maxDischargeDepth := 9) -implicitDefEqProofs -dsimp only [go_sem, seval, *])) <;> (repeat' refine And.intro ?_ ?_) <;> (first | omega | rfl | assumption | skip)
      | true =>
        simp only [Bool.true_and] at hM
        subst hM
        refine calls_x mixed Tryz.func64 b64 n64 rfl q64 (by simp) ?_; unfold c64 r64
        repeat' (first | simp (maxDischargeDepth := 9) -implicitDefEqProofs -dsimp only [go_sem, seval, List.length_map, *] | ((with_reducible apply ACalls.one1); (focus ((first | with_reducible refine z1 _ | with_reducible refine z2 _ | with_reducible refine z3 _) <;> (first | (simp (maxDischargeDepth := 9) -implicitDefEqProofs -dsimp only [go_sem, seval, *]; done) | omega))); (focus (first | trivial | with_reducible exact rfl | (simp (maxDischargeDepth := 9) -implicitDefEqProofs -dsimp only [go_sem, seval]; done)))))
        refine fin_eq ?_
        (repeat' (first | simp (maxDischargeDepth := 9) -implicitDefEqProofs -dsimp only [go_sem, seval, *])) <;> (repeat' refine And.intro ?_ ?_) <;> (first | omega | rfl | assumption | skip)
theorem bl_Cond2 (bo oc oa ob : Nat) (b : Bu) (c : Int) (x y : List Int) (tx ty : Tok) (σ : Sig) (h : σ bo = some (buC b)) (hs : Wf b.g) (hc : I64 c) (hx : ∀ z ∈ x, I64 z) (hy : ∀ z ∈ y, I64 z) (hl : x.length = y.length) (hxl : x.length ≤ 1000000) (h2 : σ oa = some (.cells [encW x tx])) (h3 : σ ob = some (.cells [encW y ty])) (h4 : σ oc = some (.cells [.int .i64 c])) :
    ACalls Tryz.prog 65 [.ptr bo 0, .ptr oc 0, .ptr oa 0, .ptr ob 0] σ (fun r σ' => r = .ret (encW ((condP c x y).run b).1 .no) ∧ σ' = upd σ bo (buC ((condP c x y).run b).2)) := by
  have z1 := fun τ h => bu_cond bo b c x y tx ty τ h hs hc hx hy (by omega) hxl
  obtain ⟨Z, hZ⟩ : ∃ Z, (condP c x y).run b = Z := ⟨_, rfl⟩
  rw [hZ] at z1 ⊢
  clear hZ hs hc hx hy hl hxl
  refine calls_x mixed Tryz.func65 b65 n65 rfl q65 (by simp) ?_; unfold c65 r65
  repeat' (first | simp (maxDischargeDepth := 9) -implicitDefEqProofs -dsimp only [go_sem, seval, *] | ((with_reducible apply ACalls.one1); (focus ((first | with_reducible refine z1 _ ?_) <;> (first | (simp (maxDischargeDepth := 9) -implicitDefEqProofs -dsimp only [go_sem, seval, *]; done) | omega))); (focus (first | trivial | with_reducible exact rfl | (simp (maxDischargeDepth := 9) -implicitDefEqProofs -dsimp only [go_sem, seval]; done)))))
  refine fin_eq ?_
  (repeat' (first | simp (maxDischargeDepth := 9) -implicitDefEqProofs -dsimp only [go_sem, seval, encW, *])) <;> (repeat' refine And.intro ?_ ?_) <;> (first | omega | rfl | assumption | skip)
set_option maxHeartbeats 2000000 in
theorem bl_Cond (g : Aig) (c : Int) (x y : List Int) (tx ty : Tok) (σ : Sig) (hs : Wf g) (hc : I64 c) (hx : ∀ z ∈ x, I64 z) (hy : ∀ z ∈ y, I64 z) (hxl : x.length ≤ 1000000) (hyl : y.length ≤ 1000000) :
    ACalls Tryz.prog 27 [encAig g, .int .i64 c, encW x tx, encW y ty] σ (fun r σ' => r = .ret (.tup [encAig (Cond g c x y).1, encW (Cond g c x y).2.1 .no, .int .i64 (Cond g c x y).2.2]) ∧ σ' = σ) := by
  have key : ∀ τ og oc oa ob, τ og = some (.cells (aigL g)) → τ oa = some (.cells [encW x tx]) → τ ob = some (.cells [encW y ty]) → τ oc = some (.cells [.int .i64 c]) →
      ACalls Tryz.prog 37 [encAig g, .fn 64 [] [.ptr og 0, .ptr oa 0, .ptr ob 0, .ptr oc 0], .fn 65 [] [.ptr oc 0, .ptr oa 0, .ptr ob 0]] τ (fun r σ' => r = .ret (.tup [encAig (Cond g c x y).1, encW (Cond g c x y).2.1 .no, .int .i64 (Cond g c x y).2.2]) ∧ σ' = τ) := fun τ og oc oa ob h1 h2 h3 h4 =>
    bl_made g _ _ _ _ (mayCond g c x y) (condP c x y) τ hs
      (fun h0 o z ho => bl_Cond1 og oa ob oc g c x y tx ty _ (check_fine hs h0) hxl hyl (kept ho h1) (kept ho h2) (kept ho h3) (kept ho h4))
      (fun h0 hm o z bo ho hb hne => by
        have hb' : upd τ o z bo = none := by simp [upd, hne, hb]
        have hl : x.length = y.length := by
          unfold mayCond at hm
          simp only [Bool.and_eq_true, decide_eq_true_eq] at hm
          exact hm.2
        refine (bl_Cond2 bo oc oa ob ⟨g, 0⟩ c x y tx ty _ (by simp [upd]) hs hc hx hy hl hxl (kept hb' (kept ho h2)) (kept hb' (kept ho h3)) (kept hb' (kept ho h4))).mono fun r σ' ⟨q1, q2⟩ => ⟨q1, ?_⟩
        rw [q2, upd_upd])
  obtain ⟨Z, hZ⟩ : ∃ Z, Cond g c x y = Z := ⟨_, rfl⟩
  rw [hZ] at key ⊢
  obtain ⟨z1, z2, z3⟩ := Z
  simp only at key ⊢
  clear hZ hs hc hx hy hxl hyl
  refine calls_x mixed Tryz.func27 b27 n27 rfl q27 (by simp) ?_; unfold c27 r27
  repeat' (first | simp (maxDischargeDepth := 9) -implicitDefEqProofs -dsimp only [go_sem, seval, *] | ((with_reducible refine Zt (fun oF hoF hnF hnF' => ?_)); (try simp only [upd_none, ne_eq, not_and] at hoF)) | ((with_reducible apply ACalls.one1); (focus ((first | with_reducible refine key _ _ _ _ _ ?_ ?_ ?_ ?_) <;> (first | (simp (maxDischargeDepth := 9) -implicitDefEqProofs -dsimp only [go_sem, seval, *]; done) | omega))); (focus (first | trivial | with_reducible exact rfl | (simp (maxDischargeDepth := 9) -implicitDefEqProofs -dsimp only [go_sem, seval]; done)))))
  refine fin_eq ?_
  (repeat' (first | simp (maxDischargeDepth := 9) -implicitDefEqProofs -dsimp only [go_sem, seval, encW, *])) <;> (repeat' refine And.intro ?_ ?_) <;> (first | omega | rfl | assumption | skip)
end Go.Proofs.YtbbihmmobfmadaaGreat

namespace Go.Proofs.YtbbihmmobfmadaaGreat
open Abs Fil Fil.Bl A
theorem bin_len {op : Int} {x y : List Int} {b : Bu} (hs : Wf b.g) : ((binP op x y).run b).1.length ≤ x.length + 1 := by
  have hz : ∀ o : Bl.Op, ((zipP (fun p q => .op o p q 0 .ret) x y x.length).run b).1.length = x.length := fun o => (zip_wf (wff_op o) (x := x) (y := y) hs x.length).2.1
  have h1 : ∀ z c, I64 c → ((sumW x z c).run b).1.1.length = x.length := fun z c hc => (sumW_wf (x := x) (y := z) hs hc).2.2.1
  have hm : ((mulP x y y.length).run b).1.length = x.length := (mul_wf (x := x) (y := y) hs y.length).2.1
  have hsh : ∀ up n, ((shiftP x y up n).run b).1.length = x.length := by
    intro up n
    induction n with
    | zero => rfl
    | succ n ih =>
      show (ShAt x y up b (n + 1)).1.length = _
      have hw : Wf (ShAt x y up b n).2.g := run_wf _ _ hs
      rw [sh_next, (s1_wf hw _).2.1]
      exact ih
  have key : ∀ {c : Prop} [Decidable c] {p q : Pg (List Int)}, (p.run b).1.length ≤ x.length + 1 → (q.run b).1.length ≤ x.length + 1 → ((if c then p else q).run b).1.length ≤ x.length + 1 := by
    intro c _ p q h1 h2
    split <;> assumption
  unfold binP
  repeat' refine key ?_ ?_
  · exact Nat.le_succ_of_le (Nat.le_of_eq (hz .and))
  · exact Nat.le_succ_of_le (Nat.le_of_eq (hz .or))
  · exact Nat.le_succ_of_le (Nat.le_of_eq (hz .xor))
  · rw [run_bind]; exact Nat.le_succ_of_le (Nat.le_of_eq (h1 y 0 ⟨by decide, by decide⟩))
  · rw [run_bind]; exact Nat.le_succ_of_le (Nat.le_of_eq (h1 (notW y) 1 ⟨by decide, by decide⟩))
  · exact Nat.le_succ_of_le (Nat.le_of_eq hm)
  · exact Nat.le_succ_of_le (Nat.le_of_eq (hsh true _))
  · exact Nat.le_succ_of_le (Nat.le_of_eq (hsh false _))
  all_goals (rw [run_bind]; exact Nat.le_add_left 1 _)
theorem cond_len {c : Int} {x y : List Int} {b : Bu} (hs : Wf b.g) : ((condP c x y).run b).1.length ≤ x.length + 1 :=
  Nat.le_succ_of_le (Nat.le_of_eq (zip_wf (wff_mux c) (x := x) (y := y) hs x.length).2.1)
set_option maxRecDepth 20000 in
set_option maxHeartbeats 8000000 in
theorem two_ok (g : Aig) (op : Int) (a b : List Int) (c : Int) (σ : Sig) (hs : fewG g = true → Wf g) (ha : ∀ z ∈ a, I64 z) (hb : ∀ z ∈ b, I64 z) (hc : I64 c) :
    ACalls Tryz.prog 6 [encAig g, .int .i64 op, encW a .no, encW b .no, .int .i64 c] σ (fun r σ' => r = .ret (.bool true) ∧ σ' = σ) := by
  have z2 := fun τ => few2 g a b τ
  cases hF : (decide (a.length ≤ 8) && decide (b.length ≤ 8) && fewG g) with
  | false =>
    rw [hF] at z2
    clear hF hs ha hb
    refine calls_x mixed Tryz.func6 b6 n6 rfl q6 (by simp) ?_; unfold c6 r6
    repeat' (first | simp (maxDischargeDepth := 9) -implicitDefEqProofs -dsimp only [go_sem, seval, *] | ((with_reducible refine Zt (fun oF hoF hnF hnF' => ?_)); (try simp only [upd_none, ne_eq, not_and] at hoF)) | ((with_reducible apply ACalls.one1); (focus ((first | with_reducible refine law_live _ | with_reducible refine z2 _) <;> (first | (simp (maxDischargeDepth := 9) -implicitDefEqProofs -dsimp only [go_sem, seval, *]; done) | omega))); (focus (first | trivial | with_reducible exact rfl | (simp (maxDischargeDepth := 9) -implicitDefEqProofs -dsimp only [go_sem, seval]; done)))))
    refine fin_eq ?_
    (repeat' (first | simp (maxDischargeDepth := 9) -implicitDefEqProofs -dsimp only [go_sem, seval, *])) <;> (repeat' refine And.intro ?_ ?_) <;> (first | omega | rfl | assumption | skip)
  | true =>
    rw [hF] at z2
    simp only [Bool.and_eq_true, decide_eq_true_eq] at hF
    obtain ⟨⟨la, lb⟩, hg⟩ := hF
    have hs := hs hg
    have z3 := fun τ => bl_Bin g op a b .no .no τ hs ha hb (by omega) (by omega)
    have z4 := fun τ => r19_Bin g op a b .no .no τ hs (by omega) (by omega)
    have z5 := fun τ => bl_Cond g c a b .no .no τ hs hc ha hb (by omega) (by omega)
    have z6 := fun τ => r19_Cond g c a b .no .no τ hs hc (by omega) (by omega)
    have w1 : Wf (Bin g op a b).1 := made_wf hs
    have w2 : (Bin g op a b).2.1.length ≤ a.length + 1 := made_len (bin_len (b := ⟨g, 0⟩) hs)
    have w3 : Wf (Cond g c a b).1 := made_wf hs
    have w4 : (Cond g c a b).2.1.length ≤ a.length + 1 := made_len (cond_len (b := ⟨g, 0⟩) hs)
    obtain ⟨⟨x, l, e⟩, hX⟩ : ∃ Z, Bin g op a b = Z := ⟨_, rfl⟩
    rw [hX] at z3 z4 w1 w2
    obtain ⟨⟨y, m, f⟩, hY⟩ : ∃ Z, Cond g c a b = Z := ⟨_, rfl⟩
    rw [hY] at z5 z6 w3 w4
    simp only at z3 z4 z5 z6 w1 w2 w3 w4
    have s1 := fun τ => same_Same x w1 τ
    have s2 := fun τ => same_Same y w3 τ
    have s3 := fun τ => same_Ints l (by omega) τ
    have s4 := fun τ => same_Ints m (by omega) τ
    have b1 : (e == e) = true := by simp
    have b2 : (f == f) = true := by simp
    clear hs ha hb hc hg la lb hX hY w1 w2 w3 w4
    refine calls_x mixed Tryz.func6 b6 n6 rfl q6 (by simp) ?_; unfold c6 r6
    repeat' (first | simp (maxDischargeDepth := 9) -implicitDefEqProofs -dsimp only [go_sem, seval, *] | ((with_reducible refine Zt (fun oF hoF hnF hnF' => ?_)); (try simp only [upd_none, ne_eq, not_and] at hoF)) | ((with_reducible apply ACalls.one1); (focus ((first | with_reducible refine law_live _ | with_reducible refine z2 _ | with_reducible refine z3 _ | with_reducible refine z4 _ | with_reducible refine z5 _ | with_reducible refine z6 _ | with_reducible refine s1 _ | with_reducible refine s2 _ | with_reducible refine s3 _ | with_reducible refine s4 _) <;> (first | (simp (maxDischargeDepth := 9) -implicitDefEqProofs -dsimp only [go_sem, seval, *]; done) | omega))); (focus (first | trivial | with_reducible exact rfl | (simp (maxDischargeDepth := 9) -implicitDefEqProofs -dsimp only [go_sem, seval]; done)))))
    refine fin_eq ?_
    (repeat' (first | simp (maxDischargeDepth := 9) -implicitDefEqProofs -dsimp only [go_sem, seval, *])) <;> (repeat' refine And.intro ?_ ?_) <;> (first | omega | rfl | assumption | skip)
end Go.Proofs.YtbbihmmobfmadaaGreat

