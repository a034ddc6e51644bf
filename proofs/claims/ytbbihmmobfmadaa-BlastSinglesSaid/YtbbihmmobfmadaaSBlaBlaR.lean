/- blast: contracts: Num, Un. -/
import Derived.Test.YtbbihmmobfmadaaSBlaBlaM
set_option linter.unusedSimpArgs false
set_option linter.unusedVariables false
namespace Go.Proofs.Ytbbihmmobfmadaa
open Abs Fil Fil.Bl A

/-! ### Two words, by an operation of gates -/
def ZipAt (f : Int → Int → Pg Int) (x y : List Int) (b : Bu) (k : Nat) : List Int × Bu := (zipP f x y k).run b
theorem zip_next (f : Int → Int → Pg Int) (x y : List Int) (b : Bu) (k : Nat) : ZipAt f x y b (k + 1) = ((ZipAt f x y b k).1 ++ [((f (gt x k) (gt y k)).run (ZipAt f x y b k).2).1], ((f (gt x k) (gt y k)).run (ZipAt f x y b k).2).2) := by
  show (zipP f x y (k + 1)).run b = _
  unfold zipP
  rw [iter_run, run_bind]
  rfl
def WfF (f : Int → Int → Pg Int) : Prop := ∀ (b : Bu) p q, Wf b.g → Wf ((f p q).run b).2.g ∧ I64 ((f p q).run b).1
theorem wff_op (op : Bl.Op) : WfF (fun p q => .op op p q 0 .ret) := fun _ p q h => bu_wf h op p q 0
theorem wff_mux (c : Int) : WfF (fun p q => muxP c p q) := fun _ p q h => bu_wf h .mux c p q
theorem zip_wf {f : Int → Int → Pg Int} (hf : WfF f) {x y : List Int} {b : Bu} (hs : Wf b.g) : ∀ k, Wf (ZipAt f x y b k).2.g ∧ (ZipAt f x y b k).1.length = k ∧ ∀ z ∈ (ZipAt f x y b k).1, I64 z
  | 0 => ⟨hs, rfl, fun z h => by simp [ZipAt, zipP, iter, Pg.run] at h⟩
  | k + 1 => by
    obtain ⟨h1, h2, h3⟩ := zip_wf hf (x := x) (y := y) hs k
    rw [zip_next]
    have h4 := hf _ (gt x k) (gt y k) h1
    refine ⟨h4.1, by simp [h2], fun z hz => ?_⟩
    rcases List.mem_append.1 hz with hz | hz
    · exact h3 z hz
    · obtain rfl : z = _ := by simpa using hz
      exact h4.2
theorem zip_out {f : Int → Int → Pg Int} {x y : List Int} {b : Bu} : ∀ k, (ZipAt f x y b k).1 = (List.range k).map fun i => ((f (gt x i) (gt y i)).run (ZipAt f x y b i).2).1
  | 0 => rfl
  | k + 1 => by rw [zip_next, List.range_succ, List.map_append, ← zip_out k]; rfl
theorem bl_zipf (f : Int → Int → Pg Int) (hf : WfF f) (fF : Nat) (first caps : List AV) (bo : Nat) (b : Bu) (x y : List Int) (tx ty : Tok) (σ : Sig) (h : σ bo = some (buC b)) (hs : Wf b.g) (hlen : x.length ≤ y.length) (hxl : x.length ≤ 1000000)
    (hop : ∀ b τ k, k < x.length → τ bo = some (buC b) → Wf b.g → (∀ o z, ¬ o = bo → σ o = some z → τ o = some z) → ACalls Try.prog fF (first ++ [.int .i64 (gt x k), .int .i64 (gt y k)] ++ caps) τ (fun r τ' => r = .ret (.int .i64 ((f (gt x k) (gt y k)).run b).1) ∧ τ' = upd τ bo (buC ((f (gt x k) (gt y k)).run b).2))) :
    ACalls Try.prog 51 [encW x tx, encW y ty, .fn fF first caps] σ (fun r σ' => r = .ret (encW (ZipAt f x y b x.length).1 .no) ∧ σ' = upd σ bo (buC (ZipAt f x y b x.length).2)) := by
  have hz := bl_zip x y tx ty fF first caps (fun i => ((f (gt x i) (gt y i)).run (ZipAt f x y b i).2).1) (fun k => upd σ bo (buC (ZipAt f x y b k).2)) hlen hxl ?_ ?_
  · rw [← zip_out] at hz
    have e0 : upd σ bo (buC (ZipAt f x y b 0).2) = σ := by
      funext i
      by_cases hi : i = bo
      · subst hi; simp only [upd, if_true, h]; rfl
      · simp only [upd, if_neg hi]
    rw [e0] at hz
    exact hz
  · intro k o ho
    have a1 : ¬ o = bo := fun e => by subst e; simp [upd] at ho
    simpa [upd, a1] using ho
  · intro i hi o z ho
    have a1 : ¬ o = bo := fun e => by subst e; simp [upd] at ho
    have ho' : σ o = none := by simpa [upd, a1] using ho
    refine (hop (ZipAt f x y b i).2 (upd (upd σ bo (buC (ZipAt f x y b i).2)) o z) i hi (by simp [upd, Ne.symm a1]) (zip_wf hf hs i).1 (fun o' z' h1 h2 => ?_)).mono fun r σ' ⟨q1, q2⟩ => ⟨q1, ?_⟩
    · have : ¬ o' = o := fun e => by rw [e, ho'] at h2; simp at h2
      simp [upd, this, h1, h2]
    · rw [q2, zip_next]
      funext j
      by_cases j1 : j = o
      · subst j1; simp [upd, a1]
      by_cases j3 : j = bo
      · subst j3; simp [upd, j1]
      simp [upd, j1, j3]
theorem zip_and (bo : Nat) (b : Bu) (x y : List Int) (tx ty : Tok) (σ : Sig) (h : σ bo = some (buC b)) (hs : Wf b.g) (hx : ∀ z ∈ x, I64 z) (hy : ∀ z ∈ y, I64 z) (hlen : x.length ≤ y.length) (hxl : x.length ≤ 1000000) :
    ACalls Try.prog 51 [encW x tx, encW y ty, .fn 52 [.ptr bo 0] []] σ (fun r σ' => r = .ret (encW ((zipP andP x y x.length).run b).1 .no) ∧ σ' = upd σ bo (buC ((zipP andP x y x.length).run b).2)) :=
  bl_zipf _ (wff_op .and) _ _ _ bo b x y tx ty σ h hs hlen hxl fun b τ k _ h1 h2 _ => bu_and bo b _ _ τ h1 h2 (i64_gt hx k) (i64_gt hy k)
theorem zip_or (bo : Nat) (b : Bu) (x y : List Int) (tx ty : Tok) (σ : Sig) (h : σ bo = some (buC b)) (hs : Wf b.g) (hx : ∀ z ∈ x, I64 z) (hy : ∀ z ∈ y, I64 z) (hlen : x.length ≤ y.length) (hxl : x.length ≤ 1000000) :
    ACalls Try.prog 51 [encW x tx, encW y ty, .fn 53 [.ptr bo 0] []] σ (fun r σ' => r = .ret (encW ((zipP orP x y x.length).run b).1 .no) ∧ σ' = upd σ bo (buC ((zipP orP x y x.length).run b).2)) :=
  bl_zipf _ (wff_op .or) _ _ _ bo b x y tx ty σ h hs hlen hxl fun b τ k _ h1 h2 _ => bu_or bo b _ _ τ h1 h2 (i64_gt hx k) (i64_gt hy k)
theorem zip_xor (bo : Nat) (b : Bu) (x y : List Int) (tx ty : Tok) (σ : Sig) (h : σ bo = some (buC b)) (hs : Wf b.g) (hx : ∀ z ∈ x, I64 z) (hy : ∀ z ∈ y, I64 z) (hlen : x.length ≤ y.length) (hxl : x.length ≤ 1000000) :
    ACalls Try.prog 51 [encW x tx, encW y ty, .fn 54 [.ptr bo 0] []] σ (fun r σ' => r = .ret (encW ((zipP xorP x y x.length).run b).1 .no) ∧ σ' = upd σ bo (buC ((zipP xorP x y x.length).run b).2)) :=
  bl_zipf _ (wff_op .xor) _ _ _ bo b x y tx ty σ h hs hlen hxl fun b τ k _ h1 h2 _ => bu_xor bo b _ _ τ h1 h2 (i64_gt hx k) (i64_gt hy k)

/-! ### Folds -/
theorem fold_and (bo o : Nat) (b : Bu) (xs : List Int) (t : Tok) (σ : Sig) (h : σ bo = some (buC b)) (ho : σ o = some (.cells [encW xs t])) (hs : Wf b.g) (hx : ∀ z ∈ xs, I64 z) (hl : xs.length ≤ 1000000) :
    ACalls Try.prog 59 [.int .i64 1, .fn 84 [] [.ptr o 0], .fn 52 [.ptr bo 0] []] σ (fun r σ' => r = .ret (.int .i64 ((allW xs).run b).1) ∧ σ' = upd σ bo (buC ((allW xs).run b).2)) :=
  bu_fold .and _ bo b 1 xs _ _ σ h hs ⟨by decide, by decide⟩ hx (fun τ hτ => iter_values o xs t τ hl (hτ _ _ ho)) fun b x y τ h hs hx hy => bu_and bo b x y τ h hs hx hy
theorem fold_nand (bo o : Nat) (b : Bu) (xs : List Int) (t : Tok) (σ : Sig) (h : σ bo = some (buC b)) (ho : σ o = some (.cells [encW xs t])) (hs : Wf b.g) (hx : ∀ z ∈ xs, I64 z) (hl : xs.length ≤ 1000000) :
    ACalls Try.prog 59 [.int .i64 1, .fn 82 [] [.ptr o 0], .fn 52 [.ptr bo 0] []] σ (fun r σ' => r = .ret (.int .i64 ((allW (notW xs)).run b).1) ∧ σ' = upd σ bo (buC ((allW (notW xs)).run b).2)) :=
  bu_fold .and _ bo b 1 (notW xs) _ _ σ h hs ⟨by decide, by decide⟩ (i64_not hx) (fun τ hτ => iter_turned o xs t τ hl hx (hτ _ _ ho)) fun b x y τ h hs hx hy => bu_and bo b x y τ h hs hx hy
theorem fold_xor (bo o : Nat) (b : Bu) (xs : List Int) (t : Tok) (σ : Sig) (h : σ bo = some (buC b)) (ho : σ o = some (.cells [encW xs t])) (hs : Wf b.g) (hx : ∀ z ∈ xs, I64 z) (hl : xs.length ≤ 1000000) :
    ACalls Try.prog 59 [.int .i64 0, .fn 84 [] [.ptr o 0], .fn 54 [.ptr bo 0] []] σ (fun r σ' => r = .ret (.int .i64 ((foldP xorP 0 xs xs.length).run b).1) ∧ σ' = upd σ bo (buC ((foldP xorP 0 xs xs.length).run b).2)) :=
  bu_fold .xor _ bo b 0 xs _ _ σ h hs ⟨by decide, by decide⟩ hx (fun τ hτ => iter_values o xs t τ hl (hτ _ _ ho)) fun b x y τ h hs hx hy => bu_xor bo b x y τ h hs hx hy
theorem allW_wf {xs : List Int} {b : Bu} (hs : Wf b.g) : Wf ((allW xs).run b).2.g ∧ I64 ((allW xs).run b).1 := fold_wf .and (a := 1) xs hs ⟨by decide, by decide⟩ xs.length

/-! ### One word -/
set_option maxHeartbeats 4000000 in
theorem bu_un (bo : Nat) (b : Bu) (op : Int) (a : List Int) (t : Tok) (σ : Sig) (h : σ bo = some (buC b)) (hs : Wf b.g) (ha : ∀ z ∈ a, I64 z) (h1 : 1 ≤ a.length) (hl : a.length ≤ 1000000) (ho : 1 ≤ op ∧ op ≤ 6) (h6 : op = 6 → a.length = 1) :
    ACalls Try.prog 40 [.ptr bo 0, .int .i64 op, encW a t] σ (fun r σ' => r = .ret (encW ((unP op a).run b).1 .no) ∧ σ' = upd σ bo (buC ((unP op a).run b).2)) := by
  have hu : upd σ bo (buC b) = σ := by
    funext i
    by_cases hi : i = bo
    · subst hi; simp [upd, h]
    · simp [upd, hi]
  have c1 := fun t τ => bl_not a t τ hl ha
  have hc : op = 1 ∨ op = 2 ∨ op = 3 ∨ op = 4 ∨ op = 5 ∨ op = 6 := by omega
  rcases hc with rfl | rfl | rfl | rfl | rfl | rfl
  · have e : (unP 1 a).run b = (notW a, b) := rfl
    rw [e]
    simp only [hu]
    clear hu hs ha h1 hl ho h6 e
    refine calls_x mixed Try.func40 b40 n40 rfl q40 (by simp) ?_; unfold c40 r40
    repeat' (first | simp (maxDischargeDepth := 9) -implicitDefEqProofs -dsimp only [go_sem, seval, *] | ((with_reducible refine Zv ?_ ?_); focus (first | omega | exact rfl)) | ((with_reducible refine Zt (fun oF hoF hnF hnF' => ?_)); (try simp only [upd_none, ne_eq, not_and] at hoF)) | ((with_reducible apply ACalls.one1); (focus ((first | with_reducible refine c1 _ _ | with_reducible refine ACalls.flA (c1 _ _) ?_) <;> (first | (simp (maxDischargeDepth := 9) -implicitDefEqProofs -dsimp only [go_sem, seval, *]; done) | omega))); (focus (first | trivial | with_reducible exact rfl | (simp (maxDischargeDepth := 9) -implicitDefEqProofs -dsimp only [go_sem, seval]; done)))))
    refine fin_eq ?_
    (repeat' (first | simp (maxDischargeDepth := 9) -implicitDefEqProofs -dsimp only [go_sem, seval, encW, *])) <;> (repeat' refine And.intro ?_ ?_) <;> (first | omega | rfl | assumption | skip)
  · have e : (unP 2 a).run b = (((sumW (notW a) (List.replicate a.length 0) 1).run b).1.1, ((sumW (notW a) (List.replicate a.length 0) 1).run b).2) := by
      show ((sumW (notW a) (List.replicate a.length 0) 1).bind fun r => .ret r.1).run b = _
      rw [run_bind]; rfl
    rw [e]
    have hnl : (notW a).length = a.length := by simp [notW]
    have c2 := fun ty τ h => bu_sum bo b (notW a) (List.replicate a.length 0) .no ty 1 τ h hs (i64_not ha) (fun z hz => by rw [(List.mem_replicate.1 hz).2]; exact ⟨by decide, by decide⟩) ⟨by decide, by decide⟩ (by simp [hnl]) (by omega)
    simp only [encW, List.map_replicate] at c2
    obtain ⟨Z, hZ⟩ : ∃ Z, (sumW (notW a) (List.replicate a.length 0) 1).run b = Z := ⟨_, rfl⟩
    rw [hZ] at c2 ⊢
    have hb : a.length * 8 ≤ 35184372088832 := by omega
    clear hu hs ha h1 ho h6 e hZ hnl
    refine calls_x mixed Try.func40 b40 n40 rfl q40 (by simp) ?_; unfold c40 r40
    repeat' (first | simp (maxDischargeDepth := 9) -implicitDefEqProofs -dsimp only [go_sem, seval, List.length_map, *] | ((with_reducible refine Zv ?_ ?_); focus (first | omega | exact rfl)) | ((with_reducible refine Zt (fun oF hoF hnF hnF' => ?_)); (try simp only [upd_none, ne_eq, not_and] at hoF)) | ((with_reducible apply ACalls.one1); (focus ((first | with_reducible refine c1 _ _ | with_reducible refine c2 _ _ ?_ | with_reducible refine ACalls.flA (c1 _ _) ?_ | with_reducible refine ACalls.flA (c2 _ _ ?_) ?_) <;> (first | (simp (maxDischargeDepth := 9) -implicitDefEqProofs -dsimp only [go_sem, seval, *]; done) | omega))); (focus (first | trivial | with_reducible exact rfl | (simp (maxDischargeDepth := 9) -implicitDefEqProofs -dsimp only [go_sem, seval]; done)))) | ((with_reducible apply id_one0); (focus (intro tS hS; ((first | with_reducible refine c1 _ _ | with_reducible refine c2 _ _ ?_ | with_reducible refine ACalls.flA (c1 _ _) ?_ | with_reducible refine ACalls.flA (c2 _ _ ?_) ?_) <;> (first | (simp (maxDischargeDepth := 9) -implicitDefEqProofs -dsimp only [go_sem, seval, *]; done) | omega | ((with_reducible refine Sub.get hS ?_); simp (maxDischargeDepth := 9) -implicitDefEqProofs -dsimp only [go_sem, seval, *]; done))))); (focus (first | trivial | (simp (maxDischargeDepth := 9) -implicitDefEqProofs -dsimp only [go_sem, seval, *]; done)))) | ((with_reducible apply id_one1); (focus (intro tS hS; ((first | with_reducible refine c1 _ _ | with_reducible refine c2 _ _ ?_ | with_reducible refine ACalls.flA (c1 _ _) ?_ | with_reducible refine ACalls.flA (c2 _ _ ?_) ?_) <;> (first | (simp (maxDischargeDepth := 9) -implicitDefEqProofs -dsimp only [go_sem, seval, *]; done) | omega | ((with_reducible refine Sub.get hS ?_); simp (maxDischargeDepth := 9) -implicitDefEqProofs -dsimp only [go_sem, seval, *]; done))))); (focus (first | trivial | (simp (maxDischargeDepth := 9) -implicitDefEqProofs -dsimp only [go_sem, seval, *]; done)))))
    refine fin_eq ?_
    (repeat' (first | simp (maxDischargeDepth := 9) -implicitDefEqProofs -dsimp only [go_sem, seval, encW, *])) <;> (repeat' refine And.intro ?_ ?_) <;> (first | omega | rfl | assumption | skip)
  · have e : (unP 3 a).run b = ([((allW a).run b).1], ((allW a).run b).2) := by
      show ((allW a).bind fun r => .ret [r]).run b = _
      rw [run_bind]; rfl
    rw [e]
    have c2 := fun o τ h ho => fold_and bo o b a t τ h ho hs ha hl
    obtain ⟨Z, hZ⟩ : ∃ Z, (allW a).run b = Z := ⟨_, rfl⟩
    rw [hZ] at c2 ⊢
    clear hu hs ha h1 hl ho h6 e hZ c1
    refine calls_x mixed Try.func40 b40 n40 rfl q40 (by simp) ?_; unfold c40 r40
    repeat' (first | simp (maxDischargeDepth := 9) -implicitDefEqProofs -dsimp only [go_sem, seval, *] | ((with_reducible refine Zv ?_ ?_); focus (first | omega | exact rfl)) | ((with_reducible refine Zt (fun oF hoF hnF hnF' => ?_)); (try simp only [upd_none, ne_eq, not_and] at hoF)) | ((with_reducible apply ACalls.one1); (focus ((first | with_reducible refine c2 _ _ ?_ ?_ | with_reducible refine ACalls.flA (c2 _ _ ?_ ?_) ?_) <;> (first | (simp (maxDischargeDepth := 9) -implicitDefEqProofs -dsimp only [go_sem, seval, *]; done) | omega))); (focus (first | trivial | with_reducible exact rfl | (simp (maxDischargeDepth := 9) -implicitDefEqProofs -dsimp only [go_sem, seval]; done)))) | ((with_reducible apply ACalls.newO); (focus ((first | with_reducible refine sl_values a t _ | with_reducible refine ACalls.flA (sl_values a t _) ?_) <;> (first | (simp (maxDischargeDepth := 9) -implicitDefEqProofs -dsimp only [go_sem, seval, *]; done) | omega))); (intro oF hoF hnF hnF'); (try simp only [upd_none, ne_eq, not_and] at hoF)))
    refine fin_eq ?_
    (repeat' (first | simp (maxDischargeDepth := 9) -implicitDefEqProofs -dsimp only [go_sem, seval, encW, List.map_cons, List.map_nil, *])) <;> (repeat' refine And.intro ?_ ?_) <;> (first | omega | rfl | assumption | skip)
  · have e : (unP 4 a).run b = ([turn ((allW (notW a)).run b).1], ((allW (notW a)).run b).2) := by
      show ((allW (notW a)).bind fun r => .ret [turn r]).run b = _
      rw [run_bind]; rfl
    rw [e]
    have c2 := fun o τ h ho => fold_nand bo o b a t τ h ho hs ha hl
    have hw := (allW_wf (xs := notW a) hs).2
    obtain ⟨Z, hZ⟩ : ∃ Z, (allW (notW a)).run b = Z := ⟨_, rfl⟩
    rw [hZ] at c2 hw ⊢
    have hxx := xor1' Z.1 hw
    clear hu hs ha h1 hl ho h6 e hZ c1 hw
    refine calls_x mixed Try.func40 b40 n40 rfl q40 (by simp) ?_; unfold c40 r40
    repeat' (first | simp (maxDischargeDepth := 9) -implicitDefEqProofs -dsimp only [go_sem, seval, *] | ((with_reducible refine Zv ?_ ?_); focus (first | omega | exact rfl)) | ((with_reducible refine Zt (fun oF hoF hnF hnF' => ?_)); (try simp only [upd_none, ne_eq, not_and] at hoF)) | ((with_reducible apply ACalls.one1); (focus ((first | with_reducible refine c2 _ _ ?_ ?_ | with_reducible refine ACalls.flA (c2 _ _ ?_ ?_) ?_) <;> (first | (simp (maxDischargeDepth := 9) -implicitDefEqProofs -dsimp only [go_sem, seval, *]; done) | omega))); (focus (first | trivial | with_reducible exact rfl | (simp (maxDischargeDepth := 9) -implicitDefEqProofs -dsimp only [go_sem, seval]; done)))) | ((with_reducible apply ACalls.newO); (focus ((first | with_reducible refine bl_turned a t _ | with_reducible refine ACalls.flA (bl_turned a t _) ?_) <;> (first | (simp (maxDischargeDepth := 9) -implicitDefEqProofs -dsimp only [go_sem, seval, *]; done) | omega))); (intro oF hoF hnF hnF'); (try simp only [upd_none, ne_eq, not_and] at hoF)))
    refine fin_eq ?_
    (repeat' (first | simp (maxDischargeDepth := 9) -implicitDefEqProofs -dsimp only [go_sem, seval, encW, List.map_cons, List.map_nil, *])) <;> (repeat' refine And.intro ?_ ?_) <;> (first | omega | rfl | assumption | skip)
  · have e : (unP 5 a).run b = ([((foldP xorP 0 a a.length).run b).1], ((foldP xorP 0 a a.length).run b).2) := by
      show ((foldP xorP 0 a a.length).bind fun r => .ret [r]).run b = _
      rw [run_bind]; rfl
    rw [e]
    have c2 := fun o τ h ho => fold_xor bo o b a t τ h ho hs ha hl
    obtain ⟨Z, hZ⟩ : ∃ Z, (foldP xorP 0 a a.length).run b = Z := ⟨_, rfl⟩
    rw [hZ] at c2 ⊢
    clear hu hs ha h1 hl ho h6 e hZ c1
    refine calls_x mixed Try.func40 b40 n40 rfl q40 (by simp) ?_; unfold c40 r40
    repeat' (first | simp (maxDischargeDepth := 9) -implicitDefEqProofs -dsimp only [go_sem, seval, *] | ((with_reducible refine Zv ?_ ?_); focus (first | omega | exact rfl)) | ((with_reducible refine Zt (fun oF hoF hnF hnF' => ?_)); (try simp only [upd_none, ne_eq, not_and] at hoF)) | ((with_reducible apply ACalls.one1); (focus ((first | with_reducible refine c2 _ _ ?_ ?_ | with_reducible refine ACalls.flA (c2 _ _ ?_ ?_) ?_) <;> (first | (simp (maxDischargeDepth := 9) -implicitDefEqProofs -dsimp only [go_sem, seval, *]; done) | omega))); (focus (first | trivial | with_reducible exact rfl | (simp (maxDischargeDepth := 9) -implicitDefEqProofs -dsimp only [go_sem, seval]; done)))) | ((with_reducible apply ACalls.newO); (focus ((first | with_reducible refine sl_values a t _ | with_reducible refine ACalls.flA (sl_values a t _) ?_) <;> (first | (simp (maxDischargeDepth := 9) -implicitDefEqProofs -dsimp only [go_sem, seval, *]; done) | omega))); (intro oF hoF hnF hnF'); (try simp only [upd_none, ne_eq, not_and] at hoF)))
    refine fin_eq ?_
    (repeat' (first | simp (maxDischargeDepth := 9) -implicitDefEqProofs -dsimp only [go_sem, seval, encW, List.map_cons, List.map_nil, *])) <;> (repeat' refine And.intro ?_ ?_) <;> (first | omega | rfl | assumption | skip)
  · have e : (unP 6 a).run b = ([turn (gt a 0)], b) := rfl
    rw [e]
    simp only [hu]
    obtain ⟨z, rfl⟩ := List.length_eq_one_iff.1 (h6 rfl)
    have c1 := c1 .no
    clear hu hs ha h1 hl ho h6 e
    refine calls_x mixed Try.func40 b40 n40 rfl q40 (by simp) ?_; unfold c40 r40
    repeat' (first | simp (maxDischargeDepth := 9) -implicitDefEqProofs -dsimp only [go_sem, seval, List.map_cons, List.map_nil, *] | ((with_reducible refine Zv ?_ ?_); focus (first | omega | exact rfl)) | ((with_reducible refine Zt (fun oF hoF hnF hnF' => ?_)); (try simp only [upd_none, ne_eq, not_and] at hoF)) | ((with_reducible apply ACalls.one1); (focus ((first | with_reducible refine c1 _ | with_reducible refine ACalls.flA (c1 _) ?_) <;> (first | (simp (maxDischargeDepth := 9) -implicitDefEqProofs -dsimp only [go_sem, seval, *]; done) | omega))); (focus (first | trivial | with_reducible exact rfl | (simp (maxDischargeDepth := 9) -implicitDefEqProofs -dsimp only [go_sem, seval]; done)))))
    refine fin_eq ?_
    (repeat' (first | simp (maxDischargeDepth := 9) -implicitDefEqProofs -dsimp only [go_sem, seval, encW, notW, gt, List.map_cons, List.map_nil, List.getD_cons_zero, *])) <;> (repeat' refine And.intro ?_ ?_) <;> (first | omega | rfl | assumption | skip)
end Go.Proofs.Ytbbihmmobfmadaa

namespace Go.Proofs.Ytbbihmmobfmadaa
open Abs Fil Fil.Bl A
structure Two (op : Int) (x y : List Int) : Prop where
  x1 : 1 ≤ x.length
  y1 : 1 ≤ y.length
  xl : x.length ≤ 1000000
  yl : y.length ≤ 1000000
  hx : ∀ z ∈ x, I64 z
  hy : ∀ z ∈ y, I64 z
  ho : 11 ≤ op ∧ op ≤ 26
  len : op = 17 ∨ op = 18 ∨ x.length = y.length
abbrev BinC (bo : Nat) (b : Bu) (op : Int) (x y : List Int) (tx ty : Tok) (σ : Sig) : Prop :=
  ACalls Try.prog 29 [.ptr bo 0, .int .i64 op, encW x tx, encW y ty] σ (fun r σ' => r = .ret (encW ((binP op x y).run b).1 .no) ∧ σ' = upd σ bo (buC ((binP op x y).run b).2))
theorem bin_11 (bo : Nat) (b : Bu) (x y : List Int) (tx ty : Tok) (σ : Sig) (h : σ bo = some (buC b)) (hs : Wf b.g) (ht : Two 11 x y) : BinC bo b 11 x y tx ty σ := by
  have hl : x.length = y.length := by rcases ht.len with h | h | h <;> first | exact h | exact absurd h (by decide)
  have e : (binP 11 x y).run b = (zipP andP x y x.length).run b := rfl
  unfold BinC
  rw [e]
  have c1 := fun τ h => zip_and bo b x y tx ty τ h hs ht.hx ht.hy (by omega) ht.xl
  obtain ⟨Z, hZ⟩ : ∃ Z, (zipP andP x y x.length).run b = Z := ⟨_, rfl⟩
  rw [hZ] at c1 ⊢
  clear hs ht hl e hZ
  refine calls_x mixed Try.func29 b29 n29 rfl q29 (by simp) ?_; unfold c29 r29
  repeat' (first | simp (maxDischargeDepth := 9) -implicitDefEqProofs -dsimp only [go_sem, seval, *] | ((with_reducible apply ACalls.one1); (focus ((first | with_reducible refine c1 _ ?_) <;> (first | (simp (maxDischargeDepth := 9) -implicitDefEqProofs -dsimp only [go_sem, seval, *]; done) | omega))); (focus (first | trivial | with_reducible exact rfl | (simp (maxDischargeDepth := 9) -implicitDefEqProofs -dsimp only [go_sem, seval]; done)))))
  refine fin_eq ?_
  (repeat' (first | simp (maxDischargeDepth := 9) -implicitDefEqProofs -dsimp only [go_sem, seval, encW, *])) <;> (repeat' refine And.intro ?_ ?_) <;> (first | omega | rfl | assumption | skip)
theorem bin_25 (bo : Nat) (b : Bu) (x y : List Int) (tx ty : Tok) (σ : Sig) (h : σ bo = some (buC b)) (hs : Wf b.g) (ht : Two 25 x y) : BinC bo b 25 x y tx ty σ := by
  have hl : x.length = y.length := by rcases ht.len with h | h | h <;> first | exact h | exact absurd h (by decide)
  have e : (binP 25 x y).run b = (zipP andP x y x.length).run b := rfl
  unfold BinC
  rw [e]
  have c1 := fun τ h => zip_and bo b x y tx ty τ h hs ht.hx ht.hy (by omega) ht.xl
  obtain ⟨Z, hZ⟩ : ∃ Z, (zipP andP x y x.length).run b = Z := ⟨_, rfl⟩
  rw [hZ] at c1 ⊢
  clear hs ht hl e hZ
  refine calls_x mixed Try.func29 b29 n29 rfl q29 (by simp) ?_; unfold c29 r29
  repeat' (first | simp (maxDischargeDepth := 9) -implicitDefEqProofs -dsimp only [go_sem, seval, *] | ((with_reducible apply ACalls.one1); (focus ((first | with_reducible refine c1 _ ?_) <;> (first | (simp (maxDischargeDepth := 9) -implicitDefEqProofs -dsimp only [go_sem, seval, *]; done) | omega))); (focus (first | trivial | with_reducible exact rfl | (simp (maxDischargeDepth := 9) -implicitDefEqProofs -dsimp only [go_sem, seval]; done)))))
  refine fin_eq ?_
  (repeat' (first | simp (maxDischargeDepth := 9) -implicitDefEqProofs -dsimp only [go_sem, seval, encW, *])) <;> (repeat' refine And.intro ?_ ?_) <;> (first | omega | rfl | assumption | skip)
theorem bin_12 (bo : Nat) (b : Bu) (x y : List Int) (tx ty : Tok) (σ : Sig) (h : σ bo = some (buC b)) (hs : Wf b.g) (ht : Two 12 x y) : BinC bo b 12 x y tx ty σ := by
  have hl : x.length = y.length := by rcases ht.len with h | h | h <;> first | exact h | exact absurd h (by decide)
  have e : (binP 12 x y).run b = (zipP orP x y x.length).run b := rfl
  unfold BinC
  rw [e]
  have c1 := fun τ h => zip_or bo b x y tx ty τ h hs ht.hx ht.hy (by omega) ht.xl
  obtain ⟨Z, hZ⟩ : ∃ Z, (zipP orP x y x.length).run b = Z := ⟨_, rfl⟩
  rw [hZ] at c1 ⊢
  clear hs ht hl e hZ
  refine calls_x mixed Try.func29 b29 n29 rfl q29 (by simp) ?_; unfold c29 r29
  repeat' (first | simp (maxDischargeDepth := 9) -implicitDefEqProofs -dsimp only [go_sem, seval, *] | ((with_reducible apply ACalls.one1); (focus ((first | with_reducible refine c1 _ ?_) <;> (first | (simp (maxDischargeDepth := 9) -implicitDefEqProofs -dsimp only [go_sem, seval, *]; done) | omega))); (focus (first | trivial | with_reducible exact rfl | (simp (maxDischargeDepth := 9) -implicitDefEqProofs -dsimp only [go_sem, seval]; done)))))
  refine fin_eq ?_
  (repeat' (first | simp (maxDischargeDepth := 9) -implicitDefEqProofs -dsimp only [go_sem, seval, encW, *])) <;> (repeat' refine And.intro ?_ ?_) <;> (first | omega | rfl | assumption | skip)
theorem bin_26 (bo : Nat) (b : Bu) (x y : List Int) (tx ty : Tok) (σ : Sig) (h : σ bo = some (buC b)) (hs : Wf b.g) (ht : Two 26 x y) : BinC bo b 26 x y tx ty σ := by
  have hl : x.length = y.length := by rcases ht.len with h | h | h <;> first | exact h | exact absurd h (by decide)
  have e : (binP 26 x y).run b = (zipP orP x y x.length).run b := rfl
  unfold BinC
  rw [e]
  have c1 := fun τ h => zip_or bo b x y tx ty τ h hs ht.hx ht.hy (by omega) ht.xl
  obtain ⟨Z, hZ⟩ : ∃ Z, (zipP orP x y x.length).run b = Z := ⟨_, rfl⟩
  rw [hZ] at c1 ⊢
  clear hs ht hl e hZ
  refine calls_x mixed Try.func29 b29 n29 rfl q29 (by simp) ?_; unfold c29 r29
  repeat' (first | simp (maxDischargeDepth := 9) -implicitDefEqProofs -dsimp only [go_sem, seval, *] | ((with_reducible apply ACalls.one1); (focus ((first | with_reducible refine c1 _ ?_) <;> (first | (simp (maxDischargeDepth := 9) -implicitDefEqProofs -dsimp only [go_sem, seval, *]; done) | omega))); (focus (first | trivial | with_reducible exact rfl | (simp (maxDischargeDepth := 9) -implicitDefEqProofs -dsimp only [go_sem, seval]; done)))))
  refine fin_eq ?_
  (repeat' (first | simp (maxDischargeDepth := 9) -implicitDefEqProofs -dsimp only [go_sem, seval, encW, *])) <;> (repeat' refine And.intro ?_ ?_) <;> (first | omega | rfl | assumption | skip)
theorem bin_13 (bo : Nat) (b : Bu) (x y : List Int) (tx ty : Tok) (σ : Sig) (h : σ bo = some (buC b)) (hs : Wf b.g) (ht : Two 13 x y) : BinC bo b 13 x y tx ty σ := by
  have hl : x.length = y.length := by rcases ht.len with h | h | h <;> first | exact h | exact absurd h (by decide)
  have e : (binP 13 x y).run b = (zipP xorP x y x.length).run b := rfl
  unfold BinC
  rw [e]
  have c1 := fun τ h => zip_xor bo b x y tx ty τ h hs ht.hx ht.hy (by omega) ht.xl
  obtain ⟨Z, hZ⟩ : ∃ Z, (zipP xorP x y x.length).run b = Z := ⟨_, rfl⟩
  rw [hZ] at c1 ⊢
  clear hs ht hl e hZ
  refine calls_x mixed Try.func29 b29 n29 rfl q29 (by simp) ?_; unfold c29 r29
  repeat' (first | simp (maxDischargeDepth := 9) -implicitDefEqProofs -dsimp only [go_sem, seval, *] | ((with_reducible apply ACalls.one1); (focus ((first | with_reducible refine c1 _ ?_) <;> (first | (simp (maxDischargeDepth := 9) -implicitDefEqProofs -dsimp only [go_sem, seval, *]; done) | omega))); (focus (first | trivial | with_reducible exact rfl | (simp (maxDischargeDepth := 9) -implicitDefEqProofs -dsimp only [go_sem, seval]; done)))))
  refine fin_eq ?_
  (repeat' (first | simp (maxDischargeDepth := 9) -implicitDefEqProofs -dsimp only [go_sem, seval, encW, *])) <;> (repeat' refine And.intro ?_ ?_) <;> (first | omega | rfl | assumption | skip)
theorem bin_14 (bo : Nat) (b : Bu) (x y : List Int) (tx ty : Tok) (σ : Sig) (h : σ bo = some (buC b)) (hs : Wf b.g) (ht : Two 14 x y) : BinC bo b 14 x y tx ty σ := by
  have hl : x.length = y.length := by rcases ht.len with h | h | h <;> first | exact h | exact absurd h (by decide)
  have e : (binP 14 x y).run b = (((sumW x y 0).run b).1.1, ((sumW x y 0).run b).2) := by
    show ((sumW x y 0).bind fun r => .ret r.1).run b = _
    rw [run_bind]; rfl
  unfold BinC
  rw [e]
  have c1 := fun τ h => bu_sum bo b x y tx ty 0 τ h hs ht.hx ht.hy ⟨by decide, by decide⟩ (by omega) ht.xl
  obtain ⟨Z, hZ⟩ : ∃ Z, (sumW x y 0).run b = Z := ⟨_, rfl⟩
  rw [hZ] at c1 ⊢
  clear hs ht hl e hZ
  refine calls_x mixed Try.func29 b29 n29 rfl q29 (by simp) ?_; unfold c29 r29
  repeat' (first | simp (maxDischargeDepth := 9) -implicitDefEqProofs -dsimp only [go_sem, seval, *] | ((with_reducible apply ACalls.one1); (focus ((first | with_reducible refine c1 _ ?_) <;> (first | (simp (maxDischargeDepth := 9) -implicitDefEqProofs -dsimp only [go_sem, seval, *]; done) | omega))); (focus (first | trivial | with_reducible exact rfl | (simp (maxDischargeDepth := 9) -implicitDefEqProofs -dsimp only [go_sem, seval]; done)))))
  refine fin_eq ?_
  (repeat' (first | simp (maxDischargeDepth := 9) -implicitDefEqProofs -dsimp only [go_sem, seval, encW, *])) <;> (repeat' refine And.intro ?_ ?_) <;> (first | omega | rfl | assumption | skip)
theorem bin_15 (bo : Nat) (b : Bu) (x y : List Int) (tx ty : Tok) (σ : Sig) (h : σ bo = some (buC b)) (hs : Wf b.g) (ht : Two 15 x y) : BinC bo b 15 x y tx ty σ := by
  have hl : x.length = y.length := by rcases ht.len with h | h | h <;> first | exact h | exact absurd h (by decide)
  have e : (binP 15 x y).run b = (((sumW x (notW y) 1).run b).1.1, ((sumW x (notW y) 1).run b).2) := by
    show ((sumW x (notW y) 1).bind fun r => .ret r.1).run b = _
    rw [run_bind]; rfl
  unfold BinC
  rw [e]
  have hnl : (notW y).length = y.length := by simp [notW]
  have c0 := fun τ => bl_not y ty τ ht.yl ht.hy
  have c1 := fun τ h => bu_sum bo b x (notW y) tx .no 1 τ h hs ht.hx (i64_not ht.hy) ⟨by decide, by decide⟩ (by omega) ht.xl
  obtain ⟨Z, hZ⟩ : ∃ Z, (sumW x (notW y) 1).run b = Z := ⟨_, rfl⟩
  rw [hZ] at c1 ⊢
  clear hs ht hl e hZ hnl
  refine calls_x mixed Try.func29 b29 n29 rfl q29 (by simp) ?_; unfold c29 r29
  repeat' (first | simp (maxDischargeDepth := 9) -implicitDefEqProofs -dsimp only [go_sem, seval, *] | ((with_reducible apply ACalls.one1); (focus ((first | with_reducible refine c0 _ | with_reducible refine c1 _ ?_) <;> (first | (simp (maxDischargeDepth := 9) -implicitDefEqProofs -dsimp only [go_sem, seval, *]; done) | omega))); (focus (first | trivial | with_reducible exact rfl | (simp (maxDischargeDepth := 9) -implicitDefEqProofs -dsimp only [go_sem, seval]; done)))))
  refine fin_eq ?_
  (repeat' (first | simp (maxDischargeDepth := 9) -implicitDefEqProofs -dsimp only [go_sem, seval, encW, *])) <;> (repeat' refine And.intro ?_ ?_) <;> (first | omega | rfl | assumption | skip)
theorem bin_16 (bo : Nat) (b : Bu) (x y : List Int) (tx ty : Tok) (σ : Sig) (h : σ bo = some (buC b)) (hs : Wf b.g) (ht : Two 16 x y) : BinC bo b 16 x y tx ty σ := by
  have hl : x.length = y.length := by rcases ht.len with h | h | h <;> first | exact h | exact absurd h (by decide)
  have e : (binP 16 x y).run b = MulAt x y b y.length := rfl
  unfold BinC
  rw [e]
  have c1 := fun τ h => bu_mul bo b x y tx ty τ h hs ht.hx ht.hy (by omega) ht.x1 ht.xl
  obtain ⟨Z, hZ⟩ : ∃ Z, MulAt x y b y.length = Z := ⟨_, rfl⟩
  rw [hZ] at c1 ⊢
  clear hs ht hl e hZ
  refine calls_x mixed Try.func29 b29 n29 rfl q29 (by simp) ?_; unfold c29 r29
  repeat' (first | simp (maxDischargeDepth := 9) -implicitDefEqProofs -dsimp only [go_sem, seval, *] | ((with_reducible apply ACalls.one1); (focus ((first | with_reducible refine c1 _ ?_) <;> (first | (simp (maxDischargeDepth := 9) -implicitDefEqProofs -dsimp only [go_sem, seval, *]; done) | omega))); (focus (first | trivial | with_reducible exact rfl | (simp (maxDischargeDepth := 9) -implicitDefEqProofs -dsimp only [go_sem, seval]; done)))))
  refine fin_eq ?_
  (repeat' (first | simp (maxDischargeDepth := 9) -implicitDefEqProofs -dsimp only [go_sem, seval, encW, *])) <;> (repeat' refine And.intro ?_ ?_) <;> (first | omega | rfl | assumption | skip)
theorem bin_17 (bo : Nat) (b : Bu) (x y : List Int) (tx ty : Tok) (σ : Sig) (h : σ bo = some (buC b)) (hs : Wf b.g) (ht : Two 17 x y) : BinC bo b 17 x y tx ty σ := by
  have e : (binP 17 x y).run b = ShAt x y true b y.length := rfl
  unfold BinC
  rw [e]
  have c1 := fun τ h => bu_shift bo b x y tx ty true τ h hs ht.hx ht.hy ht.x1 ht.xl ht.yl
  simp only [if_true, if_false, Bool.false_eq_true] at c1
  obtain ⟨Z, hZ⟩ : ∃ Z, ShAt x y true b y.length = Z := ⟨_, rfl⟩
  rw [hZ] at c1 ⊢
  clear hs ht e hZ
  refine calls_x mixed Try.func29 b29 n29 rfl q29 (by simp) ?_; unfold c29 r29
  repeat' (first | simp (maxDischargeDepth := 9) -implicitDefEqProofs -dsimp only [go_sem, seval, *] | ((with_reducible apply ACalls.one1); (focus ((first | with_reducible refine c1 _ ?_) <;> (first | (simp (maxDischargeDepth := 9) -implicitDefEqProofs -dsimp only [go_sem, seval, *]; done) | omega))); (focus (first | trivial | with_reducible exact rfl | (simp (maxDischargeDepth := 9) -implicitDefEqProofs -dsimp only [go_sem, seval]; done)))))
  refine fin_eq ?_
  (repeat' (first | simp (maxDischargeDepth := 9) -implicitDefEqProofs -dsimp only [go_sem, seval, encW, *])) <;> (repeat' refine And.intro ?_ ?_) <;> (first | omega | rfl | assumption | skip)
theorem bin_18 (bo : Nat) (b : Bu) (x y : List Int) (tx ty : Tok) (σ : Sig) (h : σ bo = some (buC b)) (hs : Wf b.g) (ht : Two 18 x y) : BinC bo b 18 x y tx ty σ := by
  have e : (binP 18 x y).run b = ShAt x y false b y.length := rfl
  unfold BinC
  rw [e]
  have c1 := fun τ h => bu_shift bo b x y tx ty false τ h hs ht.hx ht.hy ht.x1 ht.xl ht.yl
  simp only [if_true, if_false, Bool.false_eq_true] at c1
  obtain ⟨Z, hZ⟩ : ∃ Z, ShAt x y false b y.length = Z := ⟨_, rfl⟩
  rw [hZ] at c1 ⊢
  clear hs ht e hZ
  refine calls_x mixed Try.func29 b29 n29 rfl q29 (by simp) ?_; unfold c29 r29
  repeat' (first | simp (maxDischargeDepth := 9) -implicitDefEqProofs -dsimp only [go_sem, seval, *] | ((with_reducible apply ACalls.one1); (focus ((first | with_reducible refine c1 _ ?_) <;> (first | (simp (maxDischargeDepth := 9) -implicitDefEqProofs -dsimp only [go_sem, seval, *]; done) | omega))); (focus (first | trivial | with_reducible exact rfl | (simp (maxDischargeDepth := 9) -implicitDefEqProofs -dsimp only [go_sem, seval]; done)))))
  refine fin_eq ?_
  (repeat' (first | simp (maxDischargeDepth := 9) -implicitDefEqProofs -dsimp only [go_sem, seval, encW, *])) <;> (repeat' refine And.intro ?_ ?_) <;> (first | omega | rfl | assumption | skip)
theorem eqW_run (x y : List Int) (b : Bu) : (eqW x y).run b = (allW (notW ((zipP xorP x y x.length).run b).1)).run ((zipP xorP x y x.length).run b).2 := by unfold eqW; rw [run_bind]
theorem eqW_wf {x y : List Int} {b : Bu} (hs : Wf b.g) : Wf ((eqW x y).run b).2.g ∧ I64 ((eqW x y).run b).1 := by rw [eqW_run]; exact allW_wf (zip_wf (wff_op .xor) hs x.length).1
theorem bin_eq (bo : Nat) (b : Bu) (x y : List Int) (tx ty : Tok) (σ : Sig) (h : σ bo = some (buC b)) (hs : Wf b.g) (hx : ∀ z ∈ x, I64 z) (hy : ∀ z ∈ y, I64 z) (hl : x.length = y.length) (hxl : x.length ≤ 1000000) :
    ACalls Try.prog 29 [.ptr bo 0, .int .i64 19, encW x tx, encW y ty] σ (fun r σ' => r = .ret (encW [((eqW x y).run b).1] .no) ∧ σ' = upd σ bo (buC ((eqW x y).run b).2)) := by
  rw [eqW_run]
  have c1 := fun τ h => zip_xor bo b x y tx ty τ h hs hx hy (by omega) hxl
  have hz := zip_wf (wff_op .xor) (x := x) (y := y) hs x.length
  rw [show ZipAt (fun p q => Pg.op Bl.Op.xor p q 0 .ret) x y b x.length = (zipP xorP x y x.length).run b from rfl] at hz
  obtain ⟨Z, hZ⟩ : ∃ Z, (zipP xorP x y x.length).run b = Z := ⟨_, rfl⟩
  rw [hZ] at c1 hz ⊢
  have c2 := fun o τ h ho => fold_nand bo o Z.2 Z.1 .no τ h ho hz.1 hz.2.2 (by rw [hz.2.1]; exact hxl)
  have c3 := fun τ => bl_turned Z.1 .no τ
  obtain ⟨Y, hY⟩ : ∃ Y, (allW (notW Z.1)).run Z.2 = Y := ⟨_, rfl⟩
  rw [hY] at c2 ⊢
  clear hs hx hy hl hz hZ hY
  refine calls_x mixed Try.func29 b29 n29 rfl q29 (by simp) ?_; unfold c29 r29
  repeat' (first | simp (maxDischargeDepth := 9) -implicitDefEqProofs -dsimp only [go_sem, seval, *] | ((with_reducible apply ACalls.one1); (focus ((first | with_reducible refine c1 _ ?_ | with_reducible refine c2 _ _ ?_ ?_) <;> (first | (simp (maxDischargeDepth := 9) -implicitDefEqProofs -dsimp only [go_sem, seval, *]; done) | omega))); (focus (first | trivial | with_reducible exact rfl | (simp (maxDischargeDepth := 9) -implicitDefEqProofs -dsimp only [go_sem, seval]; done)))) | ((with_reducible apply ACalls.newO); (focus ((first | with_reducible refine c3 _) <;> (first | (simp (maxDischargeDepth := 9) -implicitDefEqProofs -dsimp only [go_sem, seval, *]; done) | omega))); (intro oF hoF hnF hnF'); (try simp only [upd_none, ne_eq, not_and] at hoF)))
  refine fin_eq ?_
  (repeat' (first | simp (maxDischargeDepth := 9) -implicitDefEqProofs -dsimp only [go_sem, seval, encW, List.map_cons, List.map_nil, *])) <;> (repeat' refine And.intro ?_ ?_) <;> (first | omega | rfl | assumption | skip)
theorem bin_19 (bo : Nat) (b : Bu) (x y : List Int) (tx ty : Tok) (σ : Sig) (h : σ bo = some (buC b)) (hs : Wf b.g) (ht : Two 19 x y) : BinC bo b 19 x y tx ty σ := by
  have hl : x.length = y.length := by rcases ht.len with h | h | h <;> first | exact h | exact absurd h (by decide)
  have e : (binP 19 x y).run b = ([((eqW x y).run b).1], ((eqW x y).run b).2) := by
    show ((eqW x y).bind fun r => .ret [r]).run b = _
    rw [run_bind]; rfl
  unfold BinC
  rw [e]
  exact bin_eq bo b x y tx ty σ h hs ht.hx ht.hy hl ht.xl
theorem bin_20 (bo : Nat) (b : Bu) (x y : List Int) (tx ty : Tok) (σ : Sig) (h : σ bo = some (buC b)) (hs : Wf b.g) (ht : Two 20 x y) : BinC bo b 20 x y tx ty σ := by
  have hl : x.length = y.length := by rcases ht.len with h | h | h <;> first | exact h | exact absurd h (by decide)
  have e : (binP 20 x y).run b = ([turn ((eqW x y).run b).1], ((eqW x y).run b).2) := by
    show ((eqW x y).bind fun r => .ret [turn r]).run b = _
    rw [run_bind]; rfl
  unfold BinC
  rw [e]
  have c1 := fun τ h => bin_eq bo b x y tx ty τ h hs ht.hx ht.hy hl ht.xl
  have hw := (eqW_wf (x := x) (y := y) hs).2
  obtain ⟨Z, hZ⟩ : ∃ Z, (eqW x y).run b = Z := ⟨_, rfl⟩
  rw [hZ] at c1 hw ⊢
  have c2 := fun τ => bl_not [Z.1] .no τ (by simp) (by simpa using hw)
  have e1 : notW [Z.1] = [turn Z.1] := rfl
  rw [e1] at c2
  clear hs ht hl e hZ hw e1
  refine calls_x mixed Try.func29 b29 n29 rfl q29 (by simp) ?_; unfold c29 r29
  repeat' (first | simp (maxDischargeDepth := 9) -implicitDefEqProofs -dsimp only [go_sem, seval, *] | ((with_reducible apply ACalls.one1); (focus ((first | with_reducible refine c1 _ ?_ | with_reducible refine c2 _) <;> (first | (simp (maxDischargeDepth := 9) -implicitDefEqProofs -dsimp only [go_sem, seval, *]; done) | omega))); (focus (first | trivial | with_reducible exact rfl | (simp (maxDischargeDepth := 9) -implicitDefEqProofs -dsimp only [go_sem, seval]; done)))))
  refine fin_eq ?_
  (repeat' (first | simp (maxDischargeDepth := 9) -implicitDefEqProofs -dsimp only [go_sem, seval, encW, *])) <;> (repeat' refine And.intro ?_ ?_) <;> (first | omega | rfl | assumption | skip)
theorem less_wf {x y : List Int} {b : Bu} (hs : Wf b.g) : Wf ((lessW x y).run b).2.g ∧ I64 ((lessW x y).run b).1 := by
  have e : (lessW x y).run b = (turn ((sumW x (notW y) 1).run b).1.2, ((sumW x (notW y) 1).run b).2) := by unfold lessW; rw [run_bind]; rfl
  rw [e]
  have h := sumW_wf (x := x) (y := notW y) (c := 1) hs ⟨by decide, by decide⟩
  exact ⟨h.1, i64_turn h.2.1⟩
theorem bin_21 (bo : Nat) (b : Bu) (x y : List Int) (tx ty : Tok) (σ : Sig) (h : σ bo = some (buC b)) (hs : Wf b.g) (ht : Two 21 x y) : BinC bo b 21 x y tx ty σ := by
  have hl : x.length = y.length := by rcases ht.len with h | h | h <;> first | exact h | exact absurd h (by decide)
  have e : (binP 21 x y).run b = ([((lessW x y).run b).1], ((lessW x y).run b).2) := by
    show ((lessW x y).bind fun r => .ret [r]).run b = _
    rw [run_bind]; rfl
  unfold BinC
  rw [e]
  have c1 := fun τ h => bu_less bo b x y tx ty τ h hs ht.hx ht.hy (by omega) ht.yl
  have hw := (less_wf (x := x) (y := y) hs).2
  obtain ⟨Z, hZ⟩ : ∃ Z, (lessW x y).run b = Z := ⟨_, rfl⟩
  rw [hZ] at c1 hw ⊢
  have hxx := xor1' Z.1 hw
  clear hs ht hl e hZ hw
  refine calls_x mixed Try.func29 b29 n29 rfl q29 (by simp) ?_; unfold c29 r29
  repeat' (first | simp (maxDischargeDepth := 9) -implicitDefEqProofs -dsimp only [go_sem, seval, *] | ((with_reducible apply ACalls.one1); (focus ((first | with_reducible refine c1 _ ?_) <;> (first | (simp (maxDischargeDepth := 9) -implicitDefEqProofs -dsimp only [go_sem, seval, *]; done) | omega))); (focus (first | trivial | with_reducible exact rfl | (simp (maxDischargeDepth := 9) -implicitDefEqProofs -dsimp only [go_sem, seval]; done)))))
  refine fin_eq ?_
  (repeat' (first | simp (maxDischargeDepth := 9) -implicitDefEqProofs -dsimp only [go_sem, seval, encW, List.map_cons, List.map_nil, *])) <;> (repeat' refine And.intro ?_ ?_) <;> (first | omega | rfl | assumption | skip)
theorem bin_23 (bo : Nat) (b : Bu) (x y : List Int) (tx ty : Tok) (σ : Sig) (h : σ bo = some (buC b)) (hs : Wf b.g) (ht : Two 23 x y) : BinC bo b 23 x y tx ty σ := by
  have hl : x.length = y.length := by rcases ht.len with h | h | h <;> first | exact h | exact absurd h (by decide)
  have e : (binP 23 x y).run b = ([((lessW y x).run b).1], ((lessW y x).run b).2) := by
    show ((lessW y x).bind fun r => .ret [r]).run b = _
    rw [run_bind]; rfl
  unfold BinC
  rw [e]
  have c1 := fun τ h => bu_less bo b y x ty tx τ h hs ht.hy ht.hx (by omega) ht.xl
  have hw := (less_wf (x := y) (y := x) hs).2
  obtain ⟨Z, hZ⟩ : ∃ Z, (lessW y x).run b = Z := ⟨_, rfl⟩
  rw [hZ] at c1 hw ⊢
  have hxx := xor1' Z.1 hw
  clear hs ht hl e hZ hw
  refine calls_x mixed Try.func29 b29 n29 rfl q29 (by simp) ?_; unfold c29 r29
  repeat' (first | simp (maxDischargeDepth := 9) -implicitDefEqProofs -dsimp only [go_sem, seval, *] | ((with_reducible apply ACalls.one1); (focus ((first | with_reducible refine c1 _ ?_) <;> (first | (simp (maxDischargeDepth := 9) -implicitDefEqProofs -dsimp only [go_sem, seval, *]; done) | omega))); (focus (first | trivial | with_reducible exact rfl | (simp (maxDischargeDepth := 9) -implicitDefEqProofs -dsimp only [go_sem, seval]; done)))))
  refine fin_eq ?_
  (repeat' (first | simp (maxDischargeDepth := 9) -implicitDefEqProofs -dsimp only [go_sem, seval, encW, List.map_cons, List.map_nil, *])) <;> (repeat' refine And.intro ?_ ?_) <;> (first | omega | rfl | assumption | skip)
theorem bin_22 (bo : Nat) (b : Bu) (x y : List Int) (tx ty : Tok) (σ : Sig) (h : σ bo = some (buC b)) (hs : Wf b.g) (ht : Two 22 x y) : BinC bo b 22 x y tx ty σ := by
  have hl : x.length = y.length := by rcases ht.len with h | h | h <;> first | exact h | exact absurd h (by decide)
  have e : (binP 22 x y).run b = ([turn ((lessW y x).run b).1], ((lessW y x).run b).2) := by
    show ((lessW y x).bind fun r => .ret [turn r]).run b = _
    rw [run_bind]; rfl
  unfold BinC
  rw [e]
  have c1 := fun τ h => bu_less bo b y x ty tx τ h hs ht.hy ht.hx (by omega) ht.xl
  have hw := (less_wf (x := y) (y := x) hs).2
  obtain ⟨Z, hZ⟩ : ∃ Z, (lessW y x).run b = Z := ⟨_, rfl⟩
  rw [hZ] at c1 hw ⊢
  have hxx := xor1' Z.1 hw
  clear hs ht hl e hZ hw
  refine calls_x mixed Try.func29 b29 n29 rfl q29 (by simp) ?_; unfold c29 r29
  repeat' (first | simp (maxDischargeDepth := 9) -implicitDefEqProofs -dsimp only [go_sem, seval, *] | ((with_reducible apply ACalls.one1); (focus ((first | with_reducible refine c1 _ ?_) <;> (first | (simp (maxDischargeDepth := 9) -implicitDefEqProofs -dsimp only [go_sem, seval, *]; done) | omega))); (focus (first | trivial | with_reducible exact rfl | (simp (maxDischargeDepth := 9) -implicitDefEqProofs -dsimp only [go_sem, seval]; done)))))
  refine fin_eq ?_
  (repeat' (first | simp (maxDischargeDepth := 9) -implicitDefEqProofs -dsimp only [go_sem, seval, encW, List.map_cons, List.map_nil, *])) <;> (repeat' refine And.intro ?_ ?_) <;> (first | omega | rfl | assumption | skip)
theorem bin_24 (bo : Nat) (b : Bu) (x y : List Int) (tx ty : Tok) (σ : Sig) (h : σ bo = some (buC b)) (hs : Wf b.g) (ht : Two 24 x y) : BinC bo b 24 x y tx ty σ := by
  have hl : x.length = y.length := by rcases ht.len with h | h | h <;> first | exact h | exact absurd h (by decide)
  have e : (binP 24 x y).run b = ([turn ((lessW x y).run b).1], ((lessW x y).run b).2) := by
    show ((lessW x y).bind fun r => .ret [turn r]).run b = _
    rw [run_bind]; rfl
  unfold BinC
  rw [e]
  have c1 := fun τ h => bu_less bo b x y tx ty τ h hs ht.hx ht.hy (by omega) ht.yl
  have hw := (less_wf (x := x) (y := y) hs).2
  obtain ⟨Z, hZ⟩ : ∃ Z, (lessW x y).run b = Z := ⟨_, rfl⟩
  rw [hZ] at c1 hw ⊢
  have hxx := xor1' Z.1 hw
  clear hs ht hl e hZ hw
  refine calls_x mixed Try.func29 b29 n29 rfl q29 (by simp) ?_; unfold c29 r29
  repeat' (first | simp (maxDischargeDepth := 9) -implicitDefEqProofs -dsimp only [go_sem, seval, *] | ((with_reducible apply ACalls.one1); (focus ((first | with_reducible refine c1 _ ?_) <;> (first | (simp (maxDischargeDepth := 9) -implicitDefEqProofs -dsimp only [go_sem, seval, *]; done) | omega))); (focus (first | trivial | with_reducible exact rfl | (simp (maxDischargeDepth := 9) -implicitDefEqProofs -dsimp only [go_sem, seval]; done)))))
  refine fin_eq ?_
  (repeat' (first | simp (maxDischargeDepth := 9) -implicitDefEqProofs -dsimp only [go_sem, seval, encW, List.map_cons, List.map_nil, *])) <;> (repeat' refine And.intro ?_ ?_) <;> (first | omega | rfl | assumption | skip)
theorem bu_bin (bo : Nat) (b : Bu) (op : Int) (x y : List Int) (tx ty : Tok) (σ : Sig) (h : σ bo = some (buC b)) (hs : Wf b.g) (ht : Two op x y) : BinC bo b op x y tx ty σ := by
  have hc : op = 11 ∨ op = 12 ∨ op = 13 ∨ op = 14 ∨ op = 15 ∨ op = 16 ∨ op = 17 ∨ op = 18 ∨ op = 19 ∨ op = 20 ∨ op = 21 ∨ op = 22 ∨ op = 23 ∨ op = 24 ∨ op = 25 ∨ op = 26 := by
    have := ht.ho; omega
  rcases hc with rfl | rfl | rfl | rfl | rfl | rfl | rfl | rfl | rfl | rfl | rfl | rfl | rfl | rfl | rfl | rfl
  · exact bin_11 bo b x y tx ty σ h hs ht
  · exact bin_12 bo b x y tx ty σ h hs ht
  · exact bin_13 bo b x y tx ty σ h hs ht
  · exact bin_14 bo b x y tx ty σ h hs ht
  · exact bin_15 bo b x y tx ty σ h hs ht
  · exact bin_16 bo b x y tx ty σ h hs ht
  · exact bin_17 bo b x y tx ty σ h hs ht
  · exact bin_18 bo b x y tx ty σ h hs ht
  · exact bin_19 bo b x y tx ty σ h hs ht
  · exact bin_20 bo b x y tx ty σ h hs ht
  · exact bin_21 bo b x y tx ty σ h hs ht
  · exact bin_22 bo b x y tx ty σ h hs ht
  · exact bin_23 bo b x y tx ty σ h hs ht
  · exact bin_24 bo b x y tx ty σ h hs ht
  · exact bin_25 bo b x y tx ty σ h hs ht
  · exact bin_26 bo b x y tx ty σ h hs ht
theorem bu_cond1 (bo p q : Nat) (b : Bu) (c x y : Int) (σ : Sig) (h : σ bo = some (buC b)) (hs : Wf b.g) (hc : I64 c) (hx : I64 x) (hy : I64 y) (hp : σ p = some (.cells [.ptr bo 0])) (hq : σ q = some (.cells [.int .i64 c])) :
    ACalls Try.prog 69 [.int .i64 x, .int .i64 y, .ptr p 0, .ptr q 0] σ (fun r σ' => r = .ret (.int .i64 (b.op Bl.Op.mux c x y).1) ∧ σ' = upd σ bo (buC (b.op Bl.Op.mux c x y).2)) := by
  have c1 := fun τ h => bu_mux bo b c x y τ h hs hc hx hy
  obtain ⟨Z, hZ⟩ : ∃ Z, b.op Bl.Op.mux c x y = Z := ⟨_, rfl⟩
  rw [hZ] at c1 ⊢
  clear hs hc hx hy hZ
  refine calls_x mixed Try.func69 b69 n69 rfl q69 (by simp) ?_; unfold c69 r69
  repeat' (first | simp (maxDischargeDepth := 9) -implicitDefEqProofs -dsimp only [go_sem, seval, *] | ((with_reducible apply ACalls.one1); (focus ((first | with_reducible refine c1 _ ?_) <;> (first | (simp (maxDischargeDepth := 9) -implicitDefEqProofs -dsimp only [go_sem, seval, *]; done) | omega))); (focus (first | trivial | with_reducible exact rfl | (simp (maxDischargeDepth := 9) -implicitDefEqProofs -dsimp only [go_sem, seval]; done)))))
  refine fin_eq ?_
  (repeat' (first | simp (maxDischargeDepth := 9) -implicitDefEqProofs -dsimp only [go_sem, seval, *])) <;> (repeat' refine And.intro ?_ ?_) <;> (first | omega | rfl | assumption | skip)
theorem bu_cond (bo : Nat) (b : Bu) (c : Int) (x y : List Int) (tx ty : Tok) (σ : Sig) (h : σ bo = some (buC b)) (hs : Wf b.g) (hc : I64 c) (hx : ∀ z ∈ x, I64 z) (hy : ∀ z ∈ y, I64 z) (hl : x.length ≤ y.length) (hxl : x.length ≤ 1000000) :
    ACalls Try.prog 46 [.ptr bo 0, .int .i64 c, encW x tx, encW y ty] σ (fun r σ' => r = .ret (encW ((condP c x y).run b).1 .no) ∧ σ' = upd σ bo (buC ((condP c x y).run b).2)) := by
  have key : ∀ p q, σ p = none → σ q = none → ¬ p = q → ACalls Try.prog 51 [encW x tx, encW y ty, .fn 69 [] [.ptr p 0, .ptr q 0]] (upd (upd σ p (.cells [.ptr bo 0])) q (.cells [.int .i64 c])) (fun r σ' => r = .ret (encW ((condP c x y).run b).1 .no) ∧ σ' = upd (upd (upd σ p (.cells [.ptr bo 0])) q (.cells [.int .i64 c])) bo (buC ((condP c x y).run b).2)) := by
    intro p q hp hq hpq
    have n1 : ¬ bo = q := fun e => by rw [e, hq] at h; simp at h
    have n2 : ¬ bo = p := fun e => by rw [e, hp] at h; simp at h
    exact bl_zipf _ (wff_mux c) _ _ _ bo b x y tx ty _ (by simp [upd, n1, n2, h]) hs hl hxl fun b τ k _ h1 h2 h3 => bu_cond1 bo p q b c _ _ τ h1 h2 hc (i64_gt hx k) (i64_gt hy k) (h3 p _ (Ne.symm n2) (by simp [upd, hpq])) (h3 q _ (Ne.symm n1) (by simp [upd]))
  obtain ⟨Z, hZ⟩ : ∃ Z, (condP c x y).run b = Z := ⟨_, rfl⟩
  rw [hZ] at key ⊢
  clear hs hc hx hy hl hxl hZ
  refine calls_x mixed Try.func46 b46 n46 rfl q46 (by simp) ?_; unfold c46 r46
  repeat' (first | simp (maxDischargeDepth := 9) -implicitDefEqProofs -dsimp only [go_sem, seval, *] | ((with_reducible refine Zt (fun oF hoF hnF hnF' => ?_)); (try simp only [upd_none, ne_eq, not_and] at hoF)) | ((with_reducible apply ACalls.one1); (focus ((first | with_reducible refine key _ _ ?_ ?_ ?_) <;> (first | (simp (maxDischargeDepth := 9) -implicitDefEqProofs -dsimp only [go_sem, seval, *]; done) | omega))); (focus (first | trivial | with_reducible exact rfl | (simp (maxDischargeDepth := 9) -implicitDefEqProofs -dsimp only [go_sem, seval]; done)))))
  refine fin_eq ?_
  (repeat' (first | simp (maxDischargeDepth := 9) -implicitDefEqProofs -dsimp only [go_sem, seval, encW, *])) <;> (repeat' refine And.intro ?_ ?_) <;> (first | omega | rfl | assumption | skip)
end Go.Proofs.Ytbbihmmobfmadaa

namespace Go.Proofs.Ytbbihmmobfmadaa
open Abs Fil Fil.Bl A
theorem bl_word1 (p : Nat) (l n : Int) (σ : Sig) (h : σ p = some (.cells [.int .i64 n])) :
    ACalls Try.prog 49 [.int .i64 l, .ptr p 0] σ (fun r σ' => r = .ret (.bool (decide (l < 0) || decide (n ≤ l))) ∧ σ' = σ) := by
  refine calls_x mixed Try.func49 b49 n49 rfl q49 (by simp) ?_; unfold c49 r49
  by_cases h1 : l < 0
  · repeat' (first | simp (maxDischargeDepth := 9) -implicitDefEqProofs -dsimp only [go_sem, seval, *])
    refine fin_eq ?_
    (repeat' (first | simp (maxDischargeDepth := 9) -implicitDefEqProofs -dsimp only [go_sem, seval, decide_true, Bool.true_or, *])) <;> (repeat' refine And.intro ?_ ?_) <;> (first | omega | rfl | assumption | skip)
  · repeat' (first | simp (maxDischargeDepth := 9) -implicitDefEqProofs -dsimp only [go_sem, seval, ge_iff_le, *])
    refine fin_eq ?_
    (repeat' (first | simp (maxDischargeDepth := 9) -implicitDefEqProofs -dsimp only [go_sem, seval, decide_false, Bool.false_or, ge_iff_le, *])) <;> (repeat' refine And.intro ?_ ?_) <;> (first | omega | rfl | assumption | skip)
theorem lit_any (g : Aig) (a : List Int) : (!a.any fun l => decide (l < 0) || decide (2 * (1 + g.count) ≤ l)) = a.all g.lit := by
  induction a with
  | nil => rfl
  | cons x a ih =>
    simp only [List.any_cons, List.all_cons, Bool.not_or, ih]
    congr 1
    unfold Aig.lit Aig.litN
    by_cases h1 : x < 0 <;> by_cases h2 : 2 * (1 + g.count) ≤ x <;> simp [h1, h2, Int.not_lt, Int.not_le] <;> omega
theorem bl_word (g : Aig) (a : List Int) (t : Tok) (σ : Sig) (hf : Fine g) (hl : a.length ≤ 1000000) :
    ACalls Try.prog 26 [encAig g, encW a t] σ (fun r σ' => r = .ret (.bool (word g a)) ∧ σ' = σ) := by
  have hw : word g a = (decide (0 < a.length) && decide (a.length ≤ 64) && !a.any fun l => decide (l < 0) || decide (2 * (1 + g.count) ≤ l)) := by rw [lit_any]; rfl
  have c1 : ∀ p τ, τ p = some (.cells [.int .i64 (2 * (1 + g.count))]) → ACalls Try.prog 48 [encW a t, .fn 49 [] [.ptr p 0]] τ (fun r σ' => r = .ret (.bool (a.any fun l => decide (l < 0) || decide (2 * (1 + g.count) ≤ l))) ∧ σ' = τ) :=
    fun p τ h => ACalls.fl (sl_containsInt (fun l => decide (l < 0) || decide (2 * (1 + g.count) ≤ l)) a (by omega) τ (F := 49) (caps := [.ptr p 0]) (fun x _ => bl_word1 p x _ τ h)) (.cons (.slice _ _ _ _ (.inl rfl) rfl fun _ _ _ => .refl _) (.refl _ _)) (fun o _ x e => ⟨x, e, .refl _ x⟩)
  obtain ⟨B, hB⟩ : ∃ B, (a.any fun l => decide (l < 0) || decide (2 * (1 + g.count) ≤ l)) = B := ⟨_, rfl⟩
  rw [hB] at c1 hw
  have hc : g.count = g.ins + g.flops.length + g.ands.length := rfl
  have hcb := hf.cnt
  have hlo := hf.lo
  have hb1 : g.ins ≤ 65536 := by omega
  have hb2 : g.flops.length ≤ 65536 := by omega
  have hb3 : g.ands.length ≤ 65536 := by omega
  have hn : 2 * (1 + g.ins + (g.flops.length : Int) + (g.ands.length : Int)) = 2 * (1 + g.count) := by omega
  obtain ⟨W, hW⟩ : ∃ W, word g a = W := ⟨_, rfl⟩
  rw [hW] at hw ⊢
  obtain ⟨N, hN⟩ : ∃ N, 2 * (1 + g.count) = N := ⟨_, rfl⟩
  rw [hN] at c1 hn
  clear hB hW hf hc hcb hN
  by_cases h1 : 0 < a.length
  · have h1' : (0 : Int) < (a.length : Int) := by omega
    by_cases h2 : a.length ≤ 64
    · have h2' : (a.length : Int) ≤ 64 := by omega
      have e : W = !B := by rw [hw]; simp [h1, h2]
      subst e
      clear hw h1 h2
      refine calls_x mixed Try.func26 b26 n26 rfl q26 (by simp) ?_; unfold c26 r26
      repeat' (first | simp (maxDischargeDepth := 9) -implicitDefEqProofs -dsimp only [go_sem, seval, List.length_map, gt_iff_lt, *] | simp (disch := omega) only [wrap64] | ((with_reducible refine Zt (fun oF hoF hnF hnF' => ?_)); (try simp only [upd_none, ne_eq, not_and] at hoF)) | ((with_reducible apply ACalls.one1); (focus ((first | with_reducible refine c1 _ _ ?_) <;> (first | (simp (maxDischargeDepth := 9) -implicitDefEqProofs -dsimp only [go_sem, seval, *]; done) | omega))); (focus (first | trivial | with_reducible exact rfl | (simp (maxDischargeDepth := 9) -implicitDefEqProofs -dsimp only [go_sem, seval]; done)))))
      refine fin_eq ?_
      (repeat' (first | simp (maxDischargeDepth := 9) -implicitDefEqProofs -dsimp only [go_sem, seval, *] | simp (disch := omega) only [wrap64])) <;> (repeat' refine And.intro ?_ ?_) <;> (first | omega | rfl | assumption | skip)
    · have h2' : ¬ (a.length : Int) ≤ 64 := by omega
      have e : W = false := by rw [hw]; simp [h2]
      subst e
      clear hw h1 h2
      refine calls_x mixed Try.func26 b26 n26 rfl q26 (by simp) ?_; unfold c26 r26
      repeat' (first | simp (maxDischargeDepth := 9) -implicitDefEqProofs -dsimp only [go_sem, seval, List.length_map, gt_iff_lt, *] | simp (disch := omega) only [wrap64] | ((with_reducible refine Zt (fun oF hoF hnF hnF' => ?_)); (try simp only [upd_none, ne_eq, not_and] at hoF)))
      refine fin_eq ?_
      (repeat' (first | simp (maxDischargeDepth := 9) -implicitDefEqProofs -dsimp only [go_sem, seval, *] | simp (disch := omega) only [wrap64])) <;> (repeat' refine And.intro ?_ ?_) <;> (first | omega | rfl | assumption | skip)
  · have h1' : ¬ (0 : Int) < (a.length : Int) := by omega
    have e : W = false := by rw [hw]; simp [h1]
    subst e
    clear hw h1
    refine calls_x mixed Try.func26 b26 n26 rfl q26 (by simp) ?_; unfold c26 r26
    repeat' (first | simp (maxDischargeDepth := 9) -implicitDefEqProofs -dsimp only [go_sem, seval, List.length_map, gt_iff_lt, *] | simp (disch := omega) only [wrap64] | ((with_reducible refine Zt (fun oF hoF hnF hnF' => ?_)); (try simp only [upd_none, ne_eq, not_and] at hoF)))
    refine fin_eq ?_
    (repeat' (first | simp (maxDischargeDepth := 9) -implicitDefEqProofs -dsimp only [go_sem, seval, *] | simp (disch := omega) only [wrap64])) <;> (repeat' refine And.intro ?_ ?_) <;> (first | omega | rfl | assumption | skip)
end Go.Proofs.Ytbbihmmobfmadaa

namespace Go.Proofs.Ytbbihmmobfmadaa
open Abs Fil Fil.Bl A
theorem bl_made (g : Aig) (mF dF : Nat) (mc dc : List AV) (may : Bool) (p : Pg (List Int)) (σ : Sig) (hs : Wf g)
    (hm : g.check = 0 → ∀ o x, σ o = none → ACalls Try.prog mF mc (upd σ o x) (fun r τ' => r = .ret (.bool may) ∧ τ' = upd σ o x))
    (hd : g.check = 0 → may = true → ∀ o x bo, σ o = none → σ bo = none → ¬ bo = o → ACalls Try.prog dF (.ptr bo 0 :: dc) (upd (upd σ o x) bo (buC ⟨g, 0⟩)) (fun r τ' => r = .ret (encW (p.run ⟨g, 0⟩).1 .no) ∧ τ' = upd (upd σ o x) bo (buC (p.run ⟨g, 0⟩).2))) :
    ACalls Try.prog 27 [encAig g, .fn mF [] mc, .fn dF [] dc] σ (fun r σ' => r = .ret (.tup [encAig (made g may p).1, encW (made g may p).2.1 .no, .int .i64 (made g may p).2.2]) ∧ σ' = σ) := by
  have c1 := fun τ => aig_Check g τ hs
  by_cases h0 : g.check = 0
  · have hm := hm h0
    rw [h0] at c1
    cases may with
    | false =>
      have e : made g false p = (zG, [], 1) := by unfold made; rw [if_neg (by omega), if_pos rfl]
      rw [e]
      clear hd hs h0 e
      refine calls_x mixed Try.func27 b27 n27 rfl q27 (by simp) ?_; unfold c27 r27
      repeat' (first | simp (maxDischargeDepth := 9) -implicitDefEqProofs -dsimp only [go_sem, seval, *] | ((with_reducible refine Zt (fun oF hoF hnF hnF' => ?_)); (try simp only [upd_none, ne_eq, not_and] at hoF)) | ((with_reducible apply ACalls.one1); (focus ((first | with_reducible refine c1 _ | with_reducible refine hm _ _ ?_) <;> (first | (simp (maxDischargeDepth := 9) -implicitDefEqProofs -dsimp only [go_sem, seval, *]; done) | omega))); (focus (first | trivial | with_reducible exact rfl | (simp (maxDischargeDepth := 9) -implicitDefEqProofs -dsimp only [go_sem, seval]; done)))))
      refine fin_eq ?_
      (repeat' (first | simp (maxDischargeDepth := 9) -implicitDefEqProofs -dsimp only [go_sem, seval, zG, encW, List.map_nil, *])) <;> (repeat' refine And.intro ?_ ?_) <;> (first | omega | rfl | assumption | skip)
    | true =>
      have hd := hd h0 rfl
      have e : made g true p = told (p.run ⟨g, 0⟩) := by unfold made; rw [if_neg (by omega), if_neg (by simp)]
      rw [e]
      obtain ⟨Z, hZ⟩ : ∃ Z, p.run ⟨g, 0⟩ = Z := ⟨_, rfl⟩
      rw [hZ] at hd ⊢
      obtain ⟨l, g2, e2⟩ := Z
      simp only at hd
      by_cases he : e2 = 0
      · subst he
        rw [show told (l, ⟨g2, 0⟩) = (g2, l, 0) from rfl]
        clear hs h0 e hZ
        refine calls_x mixed Try.func27 b27 n27 rfl q27 (by simp) ?_; unfold c27 r27
        repeat' (first | simp (maxDischargeDepth := 9) -implicitDefEqProofs -dsimp only [go_sem, seval, *] | ((with_reducible refine Zt (fun oF hoF hnF hnF' => ?_)); (try simp only [upd_none, ne_eq, not_and] at hoF)) | ((with_reducible apply ACalls.one1); (focus ((first | with_reducible refine c1 _ | with_reducible refine hm _ _ ?_ | with_reducible refine hd _ _ _ ?_ ?_ ?_) <;> (first | (simp (maxDischargeDepth := 9) -implicitDefEqProofs -dsimp only [go_sem, seval, *]; done) | omega))); (focus (first | trivial | with_reducible exact rfl | (simp (maxDischargeDepth := 9) -implicitDefEqProofs -dsimp only [go_sem, seval]; done)))))
        refine fin_eq ?_
        (repeat' (first | simp (maxDischargeDepth := 9) -implicitDefEqProofs -dsimp only [go_sem, seval, encW, *])) <;> (repeat' refine And.intro ?_ ?_) <;> (first | omega | rfl | assumption | skip)
      · have he' : (e2 != 0) = true := by simpa using he
        rw [show told (l, ⟨g2, e2⟩) = (zG, [], e2) by unfold told; rw [if_pos he]]
        clear hs h0 e hZ he
        refine calls_x mixed Try.func27 b27 n27 rfl q27 (by simp) ?_; unfold c27 r27
        repeat' (first | simp (maxDischargeDepth := 9) -implicitDefEqProofs -dsimp only [go_sem, seval, *] | ((with_reducible refine Zt (fun oF hoF hnF hnF' => ?_)); (try simp only [upd_none, ne_eq, not_and] at hoF)) | ((with_reducible apply ACalls.one1); (focus ((first | with_reducible refine c1 _ | with_reducible refine hm _ _ ?_ | with_reducible refine hd _ _ _ ?_ ?_ ?_) <;> (first | (simp (maxDischargeDepth := 9) -implicitDefEqProofs -dsimp only [go_sem, seval, *]; done) | omega))); (focus (first | trivial | with_reducible exact rfl | (simp (maxDischargeDepth := 9) -implicitDefEqProofs -dsimp only [go_sem, seval]; done)))))
        refine fin_eq ?_
        (repeat' (first | simp (maxDischargeDepth := 9) -implicitDefEqProofs -dsimp only [go_sem, seval, zG, encW, List.map_nil, *])) <;> (repeat' refine And.intro ?_ ?_) <;> (first | omega | rfl | assumption | skip)
  · have e : made g may p = (zG, [], g.check) := by unfold made; rw [if_pos h0]
    rw [e]
    have h0' : (g.check != 0) = true := by simpa using h0
    obtain ⟨c, hc⟩ : ∃ c, g.check = c := ⟨_, rfl⟩
    rw [hc] at c1 h0' ⊢
    clear hm hd hs h0 e hc
    refine calls_x mixed Try.func27 b27 n27 rfl q27 (by simp) ?_; unfold c27 r27
    repeat' (first | simp (maxDischargeDepth := 9) -implicitDefEqProofs -dsimp only [go_sem, seval, *] | ((with_reducible refine Zt (fun oF hoF hnF hnF' => ?_)); (try simp only [upd_none, ne_eq, not_and] at hoF)) | ((with_reducible apply ACalls.one1); (focus ((first | with_reducible refine c1 _) <;> (first | (simp (maxDischargeDepth := 9) -implicitDefEqProofs -dsimp only [go_sem, seval, *]; done) | omega))); (focus (first | trivial | with_reducible exact rfl | (simp (maxDischargeDepth := 9) -implicitDefEqProofs -dsimp only [go_sem, seval]; done)))))
    refine fin_eq ?_
    (repeat' (first | simp (maxDischargeDepth := 9) -implicitDefEqProofs -dsimp only [go_sem, seval, zG, encW, List.map_nil, *])) <;> (repeat' refine And.intro ?_ ?_) <;> (first | omega | rfl | assumption | skip)
theorem bl_Bin1 (og oa ob oo : Nat) (g : Aig) (op : Int) (x y : List Int) (tx ty : Tok) (σ : Sig) (hf : Fine g) (hx : x.length ≤ 1000000) (hy : y.length ≤ 1000000)
    (h1 : σ og = some (.cells (aigL g))) (h2 : σ oa = some (.cells [encW x tx])) (h3 : σ ob = some (.cells [encW y ty])) (h4 : σ oo = some (.cells [.int .i64 op])) :
    ACalls Try.prog 25 [.ptr og 0, .ptr oa 0, .ptr ob 0, .ptr oo 0] σ (fun r σ' => r = .ret (.bool (mayBin g op x y)) ∧ σ' = σ) := by
  have c1 := fun τ => bl_word g x tx τ hf hx
  have c2 := fun τ => bl_word g y ty τ hf hy
  have hM : mayBin g op x y = (word g x && word g y && decide (11 ≤ op ∧ op ≤ 26 ∧ (op = 17 ∨ op = 18 ∨ (x.length = y.length ∧ (op < 25 ∨ x.length = 1))))) := rfl
  obtain ⟨M, hMM⟩ : ∃ M, mayBin g op x y = M := ⟨_, rfl⟩
  rw [hMM] at hM ⊢
  obtain ⟨X, hX⟩ : ∃ X, word g x = X := ⟨_, rfl⟩
  rw [hX] at c1 hM
  obtain ⟨Y, hY⟩ : ∃ Y, word g y = Y := ⟨_, rfl⟩
  rw [hY] at c2 hM
  clear hMM hX hY hf
  cases X with
  | false =>
    simp only [Bool.false_and] at hM
    subst hM
    refine calls_x mixed Try.func25 b25 n25 rfl q25 (by simp) ?_; unfold c25 r25
    repeat' (first | simp (maxDischargeDepth := 9) -implicitDefEqProofs -dsimp only [go_sem, seval, *] | ((with_reducible apply ACalls.one1); (focus ((first | with_reducible refine c1 _) <;> (first | (simp (maxDischargeDepth := 9) -implicitDefEqProofs -dsimp only [go_sem, seval, *]; done) | omega))); (focus (first | trivial | with_reducible exact rfl | (simp (maxDischargeDepth := 9) -implicitDefEqProofs -dsimp only [go_sem, seval]; done)))))
    refine fin_eq ?_
    (repeat' (first | simp (maxDischargeDepth := 9) -implicitDefEqProofs -dsimp only [go_sem, seval, *])) <;> (repeat' refine And.intro ?_ ?_) <;> (first | omega | rfl | assumption | skip)
  | true =>
    cases Y with
    | false =>
      simp only [Bool.false_and, Bool.and_false] at hM
      subst hM
      refine calls_x mixed Try.func25 b25 n25 rfl q25 (by simp) ?_; unfold c25 r25
      repeat' (first | simp (maxDischargeDepth := 9) -implicitDefEqProofs -dsimp only [go_sem, seval, *] | ((with_reducible apply ACalls.one1); (focus ((first | with_reducible refine c1 _ | with_reducible refine c2 _) <;> (first | (simp (maxDischargeDepth := 9) -implicitDefEqProofs -dsimp only [go_sem, seval, *]; done) | omega))); (focus (first | trivial | with_reducible exact rfl | (simp (maxDischargeDepth := 9) -implicitDefEqProofs -dsimp only [go_sem, seval]; done)))))
      refine fin_eq ?_
      (repeat' (first | simp (maxDischargeDepth := 9) -implicitDefEqProofs -dsimp only [go_sem, seval, *])) <;> (repeat' refine And.intro ?_ ?_) <;> (first | omega | rfl | assumption | skip)
    | true =>
      simp only [Bool.true_and] at hM
      by_cases o1 : op < 11
      · have e : M = false := by rw [hM, decide_eq_false_iff_not]; omega
        subst e
        clear hM
        refine calls_x mixed Try.func25 b25 n25 rfl q25 (by simp) ?_; unfold c25 r25
        repeat' (first | simp (maxDischargeDepth := 9) -implicitDefEqProofs -dsimp only [go_sem, seval, gt_iff_lt, *] | ((with_reducible apply ACalls.one1); (focus ((first | with_reducible refine c1 _ | with_reducible refine c2 _) <;> (first | (simp (maxDischargeDepth := 9) -implicitDefEqProofs -dsimp only [go_sem, seval, *]; done) | omega))); (focus (first | trivial | with_reducible exact rfl | (simp (maxDischargeDepth := 9) -implicitDefEqProofs -dsimp only [go_sem, seval]; done)))))
        refine fin_eq ?_
        (repeat' (first | simp (maxDischargeDepth := 9) -implicitDefEqProofs -dsimp only [go_sem, seval, *])) <;> (repeat' refine And.intro ?_ ?_) <;> (first | omega | rfl | assumption | skip)
      by_cases o2 : 26 < op
      · have e : M = false := by rw [hM, decide_eq_false_iff_not]; omega
        subst e
        clear hM
        refine calls_x mixed Try.func25 b25 n25 rfl q25 (by simp) ?_; unfold c25 r25
        repeat' (first | simp (maxDischargeDepth := 9) -implicitDefEqProofs -dsimp only [go_sem, seval, gt_iff_lt, *] | ((with_reducible apply ACalls.one1); (focus ((first | with_reducible refine c1 _ | with_reducible refine c2 _) <;> (first | (simp (maxDischargeDepth := 9) -implicitDefEqProofs -dsimp only [go_sem, seval, *]; done) | omega))); (focus (first | trivial | with_reducible exact rfl | (simp (maxDischargeDepth := 9) -implicitDefEqProofs -dsimp only [go_sem, seval]; done)))))
        refine fin_eq ?_
        (repeat' (first | simp (maxDischargeDepth := 9) -implicitDefEqProofs -dsimp only [go_sem, seval, *])) <;> (repeat' refine And.intro ?_ ?_) <;> (first | omega | rfl | assumption | skip)
      by_cases o3 : op = 17
      · have e : M = true := by rw [hM, decide_eq_true_iff]; omega
        subst e o3
        clear hM
        refine calls_x mixed Try.func25 b25 n25 rfl q25 (by simp) ?_; unfold c25 r25
        repeat' (first | simp (maxDischargeDepth := 9) -implicitDefEqProofs -dsimp only [go_sem, seval, gt_iff_lt, *] | ((with_reducible apply ACalls.one1); (focus ((first | with_reducible refine c1 _ | with_reducible refine c2 _) <;> (first | (simp (maxDischargeDepth := 9) -implicitDefEqProofs -dsimp only [go_sem, seval, *]; done) | omega))); (focus (first | trivial | with_reducible exact rfl | (simp (maxDischargeDepth := 9) -implicitDefEqProofs -dsimp only [go_sem, seval]; done)))))
        refine fin_eq ?_
        (repeat' (first | simp (maxDischargeDepth := 9) -implicitDefEqProofs -dsimp only [go_sem, seval, *])) <;> (repeat' refine And.intro ?_ ?_) <;> (first | omega | rfl | assumption | skip)
      by_cases o4 : op = 18
      · have e : M = true := by rw [hM, decide_eq_true_iff]; omega
        subst e o4
        clear hM
        refine calls_x mixed Try.func25 b25 n25 rfl q25 (by simp) ?_; unfold c25 r25
        repeat' (first | simp (maxDischargeDepth := 9) -implicitDefEqProofs -dsimp only [go_sem, seval, gt_iff_lt, *] | ((with_reducible apply ACalls.one1); (focus ((first | with_reducible refine c1 _ | with_reducible refine c2 _) <;> (first | (simp (maxDischargeDepth := 9) -implicitDefEqProofs -dsimp only [go_sem, seval, *]; done) | omega))); (focus (first | trivial | with_reducible exact rfl | (simp (maxDischargeDepth := 9) -implicitDefEqProofs -dsimp only [go_sem, seval]; done)))))
        refine fin_eq ?_
        (repeat' (first | simp (maxDischargeDepth := 9) -implicitDefEqProofs -dsimp only [go_sem, seval, *])) <;> (repeat' refine And.intro ?_ ?_) <;> (first | omega | rfl | assumption | skip)
      have b3 : (op == 17) = false := by simpa using o3
      have b4 : (op == 18) = false := by simpa using o4
      by_cases o5 : x.length = y.length
      · have b5 : ((x.length : Int) == (y.length : Int)) = true := by rw [beq_iff_eq]; omega
        by_cases o6 : op < 25
        · have e : M = true := by rw [hM, decide_eq_true_iff]; omega
          subst e
          clear hM o3 o4 o5
          refine calls_x mixed Try.func25 b25 n25 rfl q25 (by simp) ?_; unfold c25 r25
          repeat' (first | simp (maxDischargeDepth := 9) -implicitDefEqProofs -dsimp only [go_sem, seval, gt_iff_lt, List.length_map, *] | ((with_reducible apply ACalls.one1); (focus ((first | with_reducible refine c1 _ | with_reducible refine c2 _) <;> (first | (simp (maxDischargeDepth := 9) -implicitDefEqProofs -dsimp only [go_sem, seval, *]; done) | omega))); (focus (first | trivial | with_reducible exact rfl | (simp (maxDischargeDepth := 9) -implicitDefEqProofs -dsimp only [go_sem, seval]; done)))))
          refine fin_eq ?_
          (repeat' (first | simp (maxDischargeDepth := 9) -implicitDefEqProofs -dsimp only [go_sem, seval, *])) <;> (repeat' refine And.intro ?_ ?_) <;> (first | omega | rfl | assumption | skip)
        · have e : M = ((x.length : Int) == 1) := by
            rw [hM, Bool.eq_iff_iff, decide_eq_true_iff, beq_iff_eq]; omega
          subst e
          clear hM o3 o4 o5
          refine calls_x mixed Try.func25 b25 n25 rfl q25 (by simp) ?_; unfold c25 r25
          repeat' (first | simp (maxDischargeDepth := 9) -implicitDefEqProofs -dsimp only [go_sem, seval, gt_iff_lt, List.length_map, *] | ((with_reducible apply ACalls.one1); (focus ((first | with_reducible refine c1 _ | with_reducible refine c2 _) <;> (first | (simp (maxDischargeDepth := 9) -implicitDefEqProofs -dsimp only [go_sem, seval, *]; done) | omega))); (focus (first | trivial | with_reducible exact rfl | (simp (maxDischargeDepth := 9) -implicitDefEqProofs -dsimp only [go_sem, seval]; done)))))
          refine fin_eq ?_
          (repeat' (first | simp (maxDischargeDepth := 9) -implicitDefEqProofs -dsimp only [go_sem, seval, *])) <;> (repeat' refine And.intro ?_ ?_) <;> (first | omega | rfl | assumption | skip)
      · have b5 : ((x.length : Int) == (y.length : Int)) = false := by
          rw [beq_eq_false_iff_ne]; omega
        have e : M = false := by rw [hM, decide_eq_false_iff_not]; omega
        subst e
        clear hM o3 o4 o5
        refine calls_x mixed Try.func25 b25 n25 rfl q25 (by simp) ?_; unfold c25 r25
        repeat' (first | simp (maxDischargeDepth := 9) -implicitDefEqProofs -dsimp only [go_sem, seval, gt_iff_lt, List.length_map, *] | ((with_reducible apply ACalls.one1); (focus ((first | with_reducible refine c1 _ | with_reducible refine c2 _) <;> (first | (simp (maxDischargeDepth := 9) -implicitDefEqProofs -dsimp only [go_sem, seval, *]; done) | omega))); (focus (first | trivial | with_reducible exact rfl | (simp (maxDischargeDepth := 9) -implicitDefEqProofs -dsimp only [go_sem, seval]; done)))))
        refine fin_eq ?_
        (repeat' (first | simp (maxDischargeDepth := 9) -implicitDefEqProofs -dsimp only [go_sem, seval, *])) <;> (repeat' refine And.intro ?_ ?_) <;> (first | omega | rfl | assumption | skip)
theorem bl_Bin2 (bo oo oa ob : Nat) (b : Bu) (op : Int) (x y : List Int) (tx ty : Tok) (σ : Sig) (h : σ bo = some (buC b)) (hs : Wf b.g) (ht : Two op x y) (h2 : σ oa = some (.cells [encW x tx])) (h3 : σ ob = some (.cells [encW y ty])) (h4 : σ oo = some (.cells [.int .i64 op])) :
    ACalls Try.prog 28 [.ptr bo 0, .ptr oo 0, .ptr oa 0, .ptr ob 0] σ (fun r σ' => r = .ret (encW ((binP op x y).run b).1 .no) ∧ σ' = upd σ bo (buC ((binP op x y).run b).2)) := by
  have c1 := fun τ h => bu_bin bo b op x y tx ty τ h hs ht
  unfold BinC at c1
  obtain ⟨Z, hZ⟩ : ∃ Z, (binP op x y).run b = Z := ⟨_, rfl⟩
  rw [hZ] at c1 ⊢
  clear hZ hs ht
  refine calls_x mixed Try.func28 b28 n28 rfl q28 (by simp) ?_; unfold c28 r28
  repeat' (first | simp (maxDischargeDepth := 9) -implicitDefEqProofs -dsimp only [go_sem, seval, *] | ((with_reducible apply ACalls.one1); (focus ((first | with_reducible refine c1 _ ?_) <;> (first | (simp (maxDischargeDepth := 9) -implicitDefEqProofs -dsimp only [go_sem, seval, *]; done) | omega))); (focus (first | trivial | with_reducible exact rfl | (simp (maxDischargeDepth := 9) -implicitDefEqProofs -dsimp only [go_sem, seval]; done)))))
  refine fin_eq ?_
  (repeat' (first | simp (maxDischargeDepth := 9) -implicitDefEqProofs -dsimp only [go_sem, seval, encW, *])) <;> (repeat' refine And.intro ?_ ?_) <;> (first | omega | rfl | assumption | skip)
theorem two_of {g : Aig} {op : Int} {x y : List Int} (h : mayBin g op x y = true) (hx : ∀ z ∈ x, I64 z) (hy : ∀ z ∈ y, I64 z) (hxl : x.length ≤ 1000000) (hyl : y.length ≤ 1000000) : Two op x y := by
  unfold mayBin word at h
  simp only [Bool.and_eq_true, decide_eq_true_eq] at h
  exact ⟨by omega, by omega, hxl, hyl, hx, hy, by omega, by omega⟩
theorem kept {σ : Sig} {o o' : Nat} {x y : AObj} (ho : σ o' = none) (h : σ o = some x) : upd σ o' y o = some x := by
  have : ¬ o = o' := fun e => by rw [e, ho] at h; simp at h
  simp [upd, this, h]
set_option maxHeartbeats 2000000 in
theorem bl_Bin (g : Aig) (op : Int) (x y : List Int) (tx ty : Tok) (σ : Sig) (hs : Wf g) (hx : ∀ z ∈ x, I64 z) (hy : ∀ z ∈ y, I64 z) (hxl : x.length ≤ 1000000) (hyl : y.length ≤ 1000000) :
    ACalls Try.prog 9 [encAig g, .int .i64 op, encW x tx, encW y ty] σ (fun r σ' => r = .ret (.tup [encAig (Bin g op x y).1, encW (Bin g op x y).2.1 .no, .int .i64 (Bin g op x y).2.2]) ∧ σ' = σ) := by
  have key : ∀ τ og oo oa ob, τ og = some (.cells (aigL g)) → τ oa = some (.cells [encW x tx]) → τ ob = some (.cells [encW y ty]) → τ oo = some (.cells [.int .i64 op]) →
      ACalls Try.prog 27 [encAig g, .fn 25 [] [.ptr og 0, .ptr oa 0, .ptr ob 0, .ptr oo 0], .fn 28 [] [.ptr oo 0, .ptr oa 0, .ptr ob 0]] τ (fun r σ' => r = .ret (.tup [encAig (Bin g op x y).1, encW (Bin g op x y).2.1 .no, .int .i64 (Bin g op x y).2.2]) ∧ σ' = τ) := fun τ og oo oa ob h1 h2 h3 h4 =>
    bl_made g _ _ _ _ (mayBin g op x y) (binP op x y) τ hs
      (fun h0 o z ho => bl_Bin1 og oa ob oo g op x y tx ty _ (check_fine hs h0) hxl hyl (kept ho h1) (kept ho h2) (kept ho h3) (kept ho h4))
      (fun h0 hm o z bo ho hb hne => by
        have hb' : upd τ o z bo = none := by simp [upd, hne, hb]
        refine (bl_Bin2 bo oo oa ob ⟨g, 0⟩ op x y tx ty _ (by simp [upd]) hs (two_of hm hx hy hxl hyl) (kept hb' (kept ho h2)) (kept hb' (kept ho h3)) (kept hb' (kept ho h4))).mono fun r σ' ⟨q1, q2⟩ => ⟨q1, ?_⟩
        rw [q2, upd_upd])
  obtain ⟨Z, hZ⟩ : ∃ Z, Bin g op x y = Z := ⟨_, rfl⟩
  rw [hZ] at key ⊢
  obtain ⟨z1, z2, z3⟩ := Z
  simp only at key ⊢
  clear hZ hs hx hy hxl hyl
  refine calls_x mixed Try.func9 b9 n9 rfl q9 (by simp) ?_; unfold c9 r9
  repeat' (first | simp (maxDischargeDepth := 9) -implicitDefEqProofs -dsimp only [go_sem, seval, *] | ((with_reducible refine Zt (fun oF hoF hnF hnF' => ?_)); (try simp only [upd_none, ne_eq, not_and] at hoF)) | ((with_reducible apply ACalls.one1); (focus ((first | with_reducible refine key _ _ _ _ _ ?_ ?_ ?_ ?_) <;> (first | (simp (maxDischargeDepth := 9) -implicitDefEqProofs -dsimp only [go_sem, seval, *]; done) | omega))); (focus (first | trivial | with_reducible exact rfl | (simp (maxDischargeDepth := 9) -implicitDefEqProofs -dsimp only [go_sem, seval]; done)))))
  refine fin_eq ?_
  (repeat' (first | simp (maxDischargeDepth := 9) -implicitDefEqProofs -dsimp only [go_sem, seval, encW, *])) <;> (repeat' refine And.intro ?_ ?_) <;> (first | omega | rfl | assumption | skip)
end Go.Proofs.Ytbbihmmobfmadaa

namespace Go.Proofs.Ytbbihmmobfmadaa
open Abs Fil Fil.Bl A
set_option maxHeartbeats 2000000 in
theorem bl_Num (w : Int) (v : Nat) (hv : v < 18446744073709551616) (σ : Sig) :
    ACalls Try.prog 15 [.int .i64 w, .int .u64 v] σ (fun r σ' => r = .ret (.tup [encW (if bitsN w v then numW w v else []) .no, .int .i64 (if bitsN w v then 0 else 1)]) ∧ σ' = σ) := by
  have c1 := fun τ => bv_Check w v hv τ
  have hb : bitsN w v = decide (1 ≤ w ∧ w ≤ 64 ∧ v ≤ maskN w) := rfl
  obtain ⟨B, hB⟩ : ∃ B, bitsN w v = B := ⟨_, rfl⟩
  rw [hB] at c1 hb ⊢
  clear hB
  cases B with
  | false =>
    rw [show (if (false : Bool) = true then (0 : Int) else 1) = 1 from rfl] at c1
    rw [if_neg (by simp), if_neg (by simp)]
    refine calls_x mixed Try.func15 b15 n15 rfl q15 (by simp) ?_; unfold c15 r15
    repeat' (first | simp (maxDischargeDepth := 9) -implicitDefEqProofs -dsimp only [go_sem, seval, *] | simp (disch := omega) only [wrap64] | ((with_reducible apply ACalls.one1); (focus ((first | with_reducible refine c1 _) <;> (first | (simp (maxDischargeDepth := 9) -implicitDefEqProofs -dsimp only [go_sem, seval, *]; done) | omega))); (focus (first | trivial | with_reducible exact rfl | (simp (maxDischargeDepth := 9) -implicitDefEqProofs -dsimp only [go_sem, seval]; done)))))
    refine fin_eq ?_
    (repeat' (first | simp (maxDischargeDepth := 9) -implicitDefEqProofs -dsimp only [go_sem, seval, encW, List.map_nil, *] | simp (disch := omega) only [wrap64])) <;> (repeat' refine And.intro ?_ ?_) <;> (first | omega | rfl | assumption | skip)
  | true =>
    rw [show (if (true : Bool) = true then (0 : Int) else 1) = 0 from rfl] at c1
    rw [if_pos rfl, if_pos rfl]
    have hb' := of_decide_eq_true hb.symm
    obtain ⟨n, rfl⟩ : ∃ n : Nat, w = n := ⟨w.toNat, by omega⟩
    have hn : n ≤ 64 := by omega
    clear hb
    refine ACalls.virt (callable_of Try.func15 b15 n15) 1 (fun oV1 hoV1 hnV1 hnV1' => ?_); (try simp only [upd_none, ne_eq, not_and] at hoV1); refine calls_x mixed Try.func15 b15 n15 rfl q15 (by simp) ?_; unfold c15 r15
    repeat' (first | simp (maxDischargeDepth := 9) -implicitDefEqProofs -dsimp only [go_sem, seval, *] | simp (disch := omega) only [wrap64] | ((with_reducible apply ACalls.one1); (focus ((first | with_reducible refine c1 _) <;> (first | (simp (maxDischargeDepth := 9) -implicitDefEqProofs -dsimp only [go_sem, seval, *]; done) | omega))); (focus (first | trivial | with_reducible exact rfl | (simp (maxDischargeDepth := 9) -implicitDefEqProofs -dsimp only [go_sem, seval]; done)))))
    refine loop_rule (fun i : Nat => [(15, some (.int .i64 i)), (14, some (.int .i64 n)), (4, some (encW ((List.range i).map fun i => (v : Int) / 2 ^ i % 2) (.own oV1))), (1, some (.int .u64 v)), (5, some (.int .i64 0))]) (fun i => upd σ oV1 (.grow 1 i)) (fun i => i ≤ n) (fun i => n - i) 0 ?_ ?_
    · (repeat' (first | simp (maxDischargeDepth := 9) -implicitDefEqProofs -dsimp only [go_sem, seval, encW, List.range_zero, List.map_nil, *] | simp (disch := omega) only [wrap64])) <;> (repeat' refine And.intro ?_ ?_) <;> (first | omega | rfl | assumption | skip)
    intro i hi
    by_cases hlt : i < n
    · have hmn : Nat.min i 64 = i := Nat.min_eq_left (by omega)
      have hfd := fdivU v i
      have hdv : v / 2 ^ i ≤ v := Nat.div_le_self _ _
      have hor := and1U (v / 2 ^ i) (by omega)
      have hr : (List.range (i + 1)).map (fun i => (v : Int) / 2 ^ i % 2) = (List.range i).map (fun i => (v : Int) / 2 ^ i % 2) ++ [((v / 2 ^ i % 2 : Nat) : Int)] := by
        rw [List.range_succ, List.map_append]
        simp
      have hlt2 : v / 2 ^ i % 2 < 2 := Nat.mod_lt _ (by omega)
      have hm2 : (v : Int) / 2 ^ i % 2 = ((v / 2 ^ i % 2 : Nat) : Int) := by simp
      obtain ⟨D, hD⟩ : ∃ D, v / 2 ^ i = D := ⟨_, rfl⟩
      rw [hD] at hfd hor hr hlt2 hm2
      obtain ⟨M, hM⟩ : ∃ M, D % 2 = M := ⟨_, rfl⟩
      rw [hM] at hor hr hlt2 hm2
      have hcv : IntKind.i64.wrap (M : Int) = (M : Int) := wrap64 _ (by omega) (by omega)
      have hbd : (i + 1) * 8 ≤ 35184372088832 := by omega
      have hni : ¬ (i : Int) < 0 := by omega
      clear hD hM hdv
      repeat' (first | simp (maxDischargeDepth := 9) -implicitDefEqProofs -dsimp only [go_sem, seval, List.length_map, List.length_range, *] | simp (disch := omega) only [wrap64])
      refine loop_next _ _ _ _ (i + 1) ?_; (repeat' (first | simp (maxDischargeDepth := 9) -implicitDefEqProofs -dsimp only [go_sem, seval,  encW, hr, List.map_append, List.map_cons, List.map_nil, *] | simp (disch := omega) only [wrap64])) <;> (repeat' refine And.intro ?_ ?_) <;> (first | omega | rfl | assumption | skip)
    · have : i = n := by omega
      subst this
      repeat' (first | simp (maxDischargeDepth := 9) -implicitDefEqProofs -dsimp only [go_sem, seval, *] | simp (disch := omega) only [wrap64])
      refine fin_eq ?_
      (repeat' (first | simp (maxDischargeDepth := 9) -implicitDefEqProofs -dsimp only [go_sem, seval, encW, numW, Int.toNat_natCast, *] | simp (disch := omega) only [wrap64])) <;> (repeat' refine And.intro ?_ ?_) <;> (first | omega | rfl | assumption | skip)
theorem bl_Un1 (og oa oo : Nat) (g : Aig) (op : Int) (x : List Int) (tx : Tok) (σ : Sig) (hf : Fine g) (hx : x.length ≤ 1000000)
    (h1 : σ og = some (.cells (aigL g))) (h2 : σ oa = some (.cells [encW x tx])) (h4 : σ oo = some (.cells [.int .i64 op])) :
    ACalls Try.prog 38 [.ptr og 0, .ptr oa 0, .ptr oo 0] σ (fun r σ' => r = .ret (.bool (mayUn g op x)) ∧ σ' = σ) := by
  have c1 := fun τ => bl_word g x tx τ hf hx
  have hM : mayUn g op x = (word g x && decide (1 ≤ op ∧ op ≤ 6 ∧ (op ≠ 6 ∨ x.length = 1))) := rfl
  obtain ⟨M, hMM⟩ : ∃ M, mayUn g op x = M := ⟨_, rfl⟩
  rw [hMM] at hM ⊢
  obtain ⟨X, hX⟩ : ∃ X, word g x = X := ⟨_, rfl⟩
  rw [hX] at c1 hM
  clear hMM hX hf
  cases X with
  | false =>
    simp only [Bool.false_and] at hM
    subst hM
    refine calls_x mixed Try.func38 b38 n38 rfl q38 (by simp) ?_; unfold c38 r38
    repeat' (first | simp (maxDischargeDepth := 9) -implicitDefEqProofs -dsimp only [go_sem, seval, *] | ((with_reducible apply ACalls.one1); (focus ((first | with_reducible refine c1 _) <;> (first | (simp (maxDischargeDepth := 9) -implicitDefEqProofs -dsimp only [go_sem, seval, *]; done) | omega))); (focus (first | trivial | with_reducible exact rfl | (simp (maxDischargeDepth := 9) -implicitDefEqProofs -dsimp only [go_sem, seval]; done)))))
    refine fin_eq ?_
    (repeat' (first | simp (maxDischargeDepth := 9) -implicitDefEqProofs -dsimp only [go_sem, seval, *])) <;> (repeat' refine And.intro ?_ ?_) <;> (first | omega | rfl | assumption | skip)
  | true =>
    simp only [Bool.true_and] at hM
    by_cases o1 : 1 ≤ op
    case neg =>
      have e : M = false := by rw [hM, decide_eq_false_iff_not]; omega
      subst e
      clear hM
      refine calls_x mixed Try.func38 b38 n38 rfl q38 (by simp) ?_; unfold c38 r38
      repeat' (first | simp (maxDischargeDepth := 9) -implicitDefEqProofs -dsimp only [go_sem, seval, gt_iff_lt, *] | ((with_reducible apply ACalls.one1); (focus ((first | with_reducible refine c1 _) <;> (first | (simp (maxDischargeDepth := 9) -implicitDefEqProofs -dsimp only [go_sem, seval, *]; done) | omega))); (focus (first | trivial | with_reducible exact rfl | (simp (maxDischargeDepth := 9) -implicitDefEqProofs -dsimp only [go_sem, seval]; done)))))
      refine fin_eq ?_
      (repeat' (first | simp (maxDischargeDepth := 9) -implicitDefEqProofs -dsimp only [go_sem, seval, *])) <;> (repeat' refine And.intro ?_ ?_) <;> (first | omega | rfl | assumption | skip)
    by_cases o2 : op ≤ 6
    case neg =>
      have e : M = false := by rw [hM, decide_eq_false_iff_not]; omega
      subst e
      clear hM
      refine calls_x mixed Try.func38 b38 n38 rfl q38 (by simp) ?_; unfold c38 r38
      repeat' (first | simp (maxDischargeDepth := 9) -implicitDefEqProofs -dsimp only [go_sem, seval, gt_iff_lt, *] | ((with_reducible apply ACalls.one1); (focus ((first | with_reducible refine c1 _) <;> (first | (simp (maxDischargeDepth := 9) -implicitDefEqProofs -dsimp only [go_sem, seval, *]; done) | omega))); (focus (first | trivial | with_reducible exact rfl | (simp (maxDischargeDepth := 9) -implicitDefEqProofs -dsimp only [go_sem, seval]; done)))))
      refine fin_eq ?_
      (repeat' (first | simp (maxDischargeDepth := 9) -implicitDefEqProofs -dsimp only [go_sem, seval, *])) <;> (repeat' refine And.intro ?_ ?_) <;> (first | omega | rfl | assumption | skip)
    by_cases o3 : op = 6
    · have e : M = ((x.length : Int) == 1) := by rw [hM, Bool.eq_iff_iff, decide_eq_true_iff, beq_iff_eq]; omega
      subst e o3
      clear hM
      refine calls_x mixed Try.func38 b38 n38 rfl q38 (by simp) ?_; unfold c38 r38
      repeat' (first | simp (maxDischargeDepth := 9) -implicitDefEqProofs -dsimp only [go_sem, seval, gt_iff_lt, List.length_map, *] | ((with_reducible apply ACalls.one1); (focus ((first | with_reducible refine c1 _) <;> (first | (simp (maxDischargeDepth := 9) -implicitDefEqProofs -dsimp only [go_sem, seval, *]; done) | omega))); (focus (first | trivial | with_reducible exact rfl | (simp (maxDischargeDepth := 9) -implicitDefEqProofs -dsimp only [go_sem, seval]; done)))))
      refine fin_eq ?_
      (repeat' (first | simp (maxDischargeDepth := 9) -implicitDefEqProofs -dsimp only [go_sem, seval, *])) <;> (repeat' refine And.intro ?_ ?_) <;> (first | omega | rfl | assumption | skip)
    · have e : M = true := by rw [hM, decide_eq_true_iff]; omega
      have b3 : (op != 6) = true := by simpa using o3
      subst e
      clear hM o3
      refine calls_x mixed Try.func38 b38 n38 rfl q38 (by simp) ?_; unfold c38 r38
      repeat' (first | simp (maxDischargeDepth := 9) -implicitDefEqProofs -dsimp only [go_sem, seval, gt_iff_lt, List.length_map, *] | ((with_reducible apply ACalls.one1); (focus ((first | with_reducible refine c1 _) <;> (first | (simp (maxDischargeDepth := 9) -implicitDefEqProofs -dsimp only [go_sem, seval, *]; done) | omega))); (focus (first | trivial | with_reducible exact rfl | (simp (maxDischargeDepth := 9) -implicitDefEqProofs -dsimp only [go_sem, seval]; done)))))
      refine fin_eq ?_
      (repeat' (first | simp (maxDischargeDepth := 9) -implicitDefEqProofs -dsimp only [go_sem, seval, *])) <;> (repeat' refine And.intro ?_ ?_) <;> (first | omega | rfl | assumption | skip)
theorem bl_Un2 (bo oo oa : Nat) (b : Bu) (op : Int) (x : List Int) (tx : Tok) (σ : Sig) (h : σ bo = some (buC b)) (hs : Wf b.g) (hx : ∀ z ∈ x, I64 z) (h1 : 1 ≤ x.length) (hl : x.length ≤ 1000000) (ho : 1 ≤ op ∧ op ≤ 6) (h6 : op = 6 → x.length = 1) (h2 : σ oa = some (.cells [encW x tx])) (h4 : σ oo = some (.cells [.int .i64 op])) :
    ACalls Try.prog 39 [.ptr bo 0, .ptr oo 0, .ptr oa 0] σ (fun r σ' => r = .ret (encW ((unP op x).run b).1 .no) ∧ σ' = upd σ bo (buC ((unP op x).run b).2)) := by
  have c1 := fun τ h => bu_un bo b op x tx τ h hs hx h1 hl ho h6
  obtain ⟨Z, hZ⟩ : ∃ Z, (unP op x).run b = Z := ⟨_, rfl⟩
  rw [hZ] at c1 ⊢
  clear hZ hs hx h1 hl ho h6
  refine calls_x mixed Try.func39 b39 n39 rfl q39 (by simp) ?_; unfold c39 r39
  repeat' (first | simp (maxDischargeDepth := 9) -implicitDefEqProofs -dsimp only [go_sem, seval, *] | ((with_reducible apply ACalls.one1); (focus ((first | with_reducible refine c1 _ ?_) <;> (first | (simp (maxDischargeDepth := 9) -implicitDefEqProofs -dsimp only [go_sem, seval, *]; done) | omega))); (focus (first | trivial | with_reducible exact rfl | (simp (maxDischargeDepth := 9) -implicitDefEqProofs -dsimp only [go_sem, seval]; done)))))
  refine fin_eq ?_
  (repeat' (first | simp (maxDischargeDepth := 9) -implicitDefEqProofs -dsimp only [go_sem, seval, encW, *])) <;> (repeat' refine And.intro ?_ ?_) <;> (first | omega | rfl | assumption | skip)
set_option maxHeartbeats 2000000 in
theorem bl_Un (g : Aig) (op : Int) (x : List Int) (tx : Tok) (σ : Sig) (hs : Wf g) (hx : ∀ z ∈ x, I64 z) (hxl : x.length ≤ 1000000) :
    ACalls Try.prog 18 [encAig g, .int .i64 op, encW x tx] σ (fun r σ' => r = .ret (.tup [encAig (Un g op x).1, encW (Un g op x).2.1 .no, .int .i64 (Un g op x).2.2]) ∧ σ' = σ) := by
  have key : ∀ τ og oo oa, τ og = some (.cells (aigL g)) → τ oa = some (.cells [encW x tx]) → τ oo = some (.cells [.int .i64 op]) →
      ACalls Try.prog 27 [encAig g, .fn 38 [] [.ptr og 0, .ptr oa 0, .ptr oo 0], .fn 39 [] [.ptr oo 0, .ptr oa 0]] τ (fun r σ' => r = .ret (.tup [encAig (Un g op x).1, encW (Un g op x).2.1 .no, .int .i64 (Un g op x).2.2]) ∧ σ' = τ) := fun τ og oo oa h1 h2 h4 =>
    bl_made g _ _ _ _ (mayUn g op x) (unP op x) τ hs
      (fun h0 o z ho => bl_Un1 og oa oo g op x tx _ (check_fine hs h0) hxl (kept ho h1) (kept ho h2) (kept ho h4))
      (fun h0 hm o z bo ho hb hne => by
        have hb' : upd τ o z bo = none := by simp [upd, hne, hb]
        unfold mayUn word at hm
        simp only [Bool.and_eq_true, decide_eq_true_eq] at hm
        refine (bl_Un2 bo oo oa ⟨g, 0⟩ op x tx _ (by simp [upd]) hs hx (by omega) hxl (by omega) (by omega) (kept hb' (kept ho h2)) (kept hb' (kept ho h4))).mono fun r σ' ⟨q1, q2⟩ => ⟨q1, ?_⟩
        rw [q2, upd_upd])
  obtain ⟨Z, hZ⟩ : ∃ Z, Un g op x = Z := ⟨_, rfl⟩
  rw [hZ] at key ⊢
  obtain ⟨z1, z2, z3⟩ := Z
  simp only at key ⊢
  clear hZ hs hx hxl
  refine calls_x mixed Try.func18 b18 n18 rfl q18 (by simp) ?_; unfold c18 r18
  repeat' (first | simp (maxDischargeDepth := 9) -implicitDefEqProofs -dsimp only [go_sem, seval, *] | ((with_reducible refine Zt (fun oF hoF hnF hnF' => ?_)); (try simp only [upd_none, ne_eq, not_and] at hoF)) | ((with_reducible apply ACalls.one1); (focus ((first | with_reducible refine key _ _ _ _ ?_ ?_ ?_) <;> (first | (simp (maxDischargeDepth := 9) -implicitDefEqProofs -dsimp only [go_sem, seval, *]; done) | omega))); (focus (first | trivial | with_reducible exact rfl | (simp (maxDischargeDepth := 9) -implicitDefEqProofs -dsimp only [go_sem, seval]; done)))))
  refine fin_eq ?_
  (repeat' (first | simp (maxDischargeDepth := 9) -implicitDefEqProofs -dsimp only [go_sem, seval, encW, *])) <;> (repeat' refine And.intro ?_ ?_) <;> (first | omega | rfl | assumption | skip)
end Go.Proofs.Ytbbihmmobfmadaa

