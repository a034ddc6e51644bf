/- blast: contracts: the document's words: turned, zeros, all, sum. -/
import Derived.Test.YtbbihmmobfmadaaGreatOBlzBlaK
set_option linter.unusedSimpArgs false
set_option linter.unusedVariables false
namespace Go.Proofs.YtbbihmmobfmadaaGreat
open Abs Fil Fil.Bl A
theorem xor1' (a : Int) (h : I64 a) : IntKind.i64.wrap ((BitVec.ofInt IntKind.i64.bits 1 ^^^ BitVec.ofInt IntKind.i64.bits a).toNat : Nat) = turn a := by
  rw [BitVec.xor_comm]; exact xor1 a h.1 h.2
theorem i64_turn {a : Int} (h : I64 a) : I64 (turn a) := by
  unfold I64 turn at *; omega
theorem i64_not {x : List Int} (h : ∀ z ∈ x, I64 z) : ∀ z ∈ notW x, I64 z := by
  intro z hz
  obtain ⟨y, hy, rfl⟩ := List.mem_map.1 hz
  exact i64_turn (h y hy)
theorem sumW_wf {x y : List Int} {c : Int} {b : Bu} (hs : Wf b.g) (hc : I64 c) : Wf ((sumW x y c).run b).2.g ∧ I64 ((sumW x y c).run b).1.2 ∧ ((sumW x y c).run b).1.1.length = x.length ∧ ∀ z ∈ ((sumW x y c).run b).1.1, I64 z := sum_wf hs hc x.length
theorem bu_less (bo : Nat) (b : Bu) (x y : List Int) (tx ty : Tok) (σ : Sig) (h : σ bo = some (buC b)) (hs : Wf b.g) (hx : ∀ z ∈ x, I64 z) (hy : ∀ z ∈ y, I64 z) (hlen : x.length ≤ y.length) (hyl : y.length ≤ 1000000) :
    ACalls Tryz.prog 112 [.ptr bo 0, encW x tx, encW y ty] σ (fun r σ' => r = .ret (.int .i64 ((lessW x y).run b).1) ∧ σ' = upd σ bo (buC ((lessW x y).run b).2)) := by
  have e : (lessW x y).run b = (turn ((sumW x (notW y) 1).run b).1.2, ((sumW x (notW y) 1).run b).2) := by unfold lessW; rw [run_bind]; rfl
  rw [e]
  have c1 := fun τ => bl_not y ty τ hyl hy
  have hl2 : x.length ≤ (notW y).length := by simpa [notW] using hlen
  have c2 := fun τ h => bu_sum bo b x (notW y) tx .no 1 τ h hs hx (i64_not hy) ⟨by decide, by decide⟩ hl2 (by omega)
  have hw := (sumW_wf (x := x) (y := notW y) (c := 1) hs ⟨by decide, by decide⟩).2.1
  obtain ⟨G, hG⟩ : ∃ G, (sumW x (notW y) 1).run b = G := ⟨_, rfl⟩
  rw [hG] at c2 hw ⊢
  obtain ⟨⟨g1, g2⟩, g3⟩ := G
  simp only at c2 hw ⊢
  have hxx := xor1' g2 hw
  clear e hG hs hx hy hlen hyl hl2 hw
  refine calls_x mixed Tryz.func112 b112 n112 rfl q112 (by simp) ?_; unfold c112 r112
  repeat' (first | simp (maxDischargeDepth := 9) -implicitDefEqProofs -dsimp only [go_sem, seval, *] | ((with_reducible apply ACalls.one1); (focus ((first | with_reducible refine c1 _ | with_reducible refine c2 _ ?_) <;> (first | (simp (maxDischargeDepth := 9) -implicitDefEqProofs -dsimp only [go_sem, seval, *]; done) | omega))); (focus (first | trivial | with_reducible exact rfl | (simp (maxDischargeDepth := 9) -implicitDefEqProofs -dsimp only [go_sem, seval]; done)))))
  refine fin_eq ?_
  (repeat' (first | simp (maxDischargeDepth := 9) -implicitDefEqProofs -dsimp only [go_sem, seval, *])) <;> (repeat' refine And.intro ?_ ?_) <;> (first | omega | rfl | assumption | skip)
def RowAt (x : List Int) (bit : Int) (i : Nat) (b : Bu) (j : Nat) : List Int × Bu := (rowP x bit i j).run b
theorem row_next (x : List Int) (bit : Int) (i : Nat) (b : Bu) (j : Nat) : RowAt x bit i b (j + 1) = ((RowAt x bit i b j).1 ++ [((RowAt x bit i b j).2.op Bl.Op.and (gt x j) bit 0).1], ((RowAt x bit i b j).2.op Bl.Op.and (gt x j) bit 0).2) := by
  show (rowP x bit i (j + 1)).run b = _
  unfold rowP
  rw [iter_run, run_bind]
  rfl
theorem row_wf {x : List Int} {bit : Int} {i : Nat} {b : Bu} (hs : Wf b.g) : ∀ j, Wf (RowAt x bit i b j).2.g ∧ (RowAt x bit i b j).1.length = i + j ∧ ∀ z ∈ (RowAt x bit i b j).1, I64 z
  | 0 => ⟨hs, by simp [RowAt, rowP, iter, Pg.run], fun z h => by
    simp only [RowAt, rowP, iter, Pg.run, List.mem_replicate] at h
    rw [h.2]; exact ⟨by decide, by decide⟩⟩
  | j + 1 => by
    obtain ⟨h1, h2, h3⟩ := row_wf (x := x) (bit := bit) (i := i) hs j
    rw [row_next]
    have h4 := bu_wf h1 Bl.Op.and (gt x j) bit 0
    refine ⟨h4.1, by simp [h2]; omega, fun z hz => ?_⟩
    rcases List.mem_append.1 hz with hz | hz
    · exact h3 z hz
    · obtain rfl : z = _ := by simpa using hz
      exact h4.2
def MulAt (x y : List Int) (b : Bu) (i : Nat) : List Int × Bu := (mulP x y i).run b
theorem mul_next (x y : List Int) (b : Bu) (i : Nat) : MulAt x y b (i + 1) = (((sumW (MulAt x y b i).1 (RowAt x (gt y i) i (MulAt x y b i).2 (x.length - i)).1 0).run (RowAt x (gt y i) i (MulAt x y b i).2 (x.length - i)).2).1.1, ((sumW (MulAt x y b i).1 (RowAt x (gt y i) i (MulAt x y b i).2 (x.length - i)).1 0).run (RowAt x (gt y i) i (MulAt x y b i).2 (x.length - i)).2).2) := by
  show (mulP x y (i + 1)).run b = _
  unfold mulP
  rw [iter_run, run_bind, run_bind]
  rfl
theorem mul_wf {x y : List Int} {b : Bu} (hs : Wf b.g) : ∀ i, Wf (MulAt x y b i).2.g ∧ (MulAt x y b i).1.length = x.length ∧ ∀ z ∈ (MulAt x y b i).1, I64 z
  | 0 => ⟨hs, by simp [MulAt, mulP, iter, Pg.run], fun z h => by
    simp only [MulAt, mulP, iter, Pg.run, List.mem_replicate] at h
    rw [h.2]; exact ⟨by decide, by decide⟩⟩
  | i + 1 => by
    obtain ⟨h1, h2, h3⟩ := mul_wf (x := x) (y := y) hs i
    rw [mul_next]
    have h4 := row_wf (x := x) (bit := gt y i) (i := i) h1 (x.length - i)
    have h5 := sumW_wf (x := (MulAt x y b i).1) (y := (RowAt x (gt y i) i (MulAt x y b i).2 (x.length - i)).1) (c := 0) h4.1 ⟨by decide, by decide⟩
    exact ⟨h5.1, h5.2.2.1.trans h2, h5.2.2.2⟩
set_option maxHeartbeats 4000000 in
theorem bu_mul (bo : Nat) (b : Bu) (x y : List Int) (tx ty : Tok) (σ : Sig) (h : σ bo = some (buC b)) (hs : Wf b.g) (hx : ∀ z ∈ x, I64 z) (hy : ∀ z ∈ y, I64 z) (hlen : y.length ≤ x.length) (hx1 : 1 ≤ x.length) (hxl : x.length ≤ 1000000) :
    ACalls Tryz.prog 111 [.ptr bo 0, encW x tx, encW y ty] σ (fun r σ' => r = .ret (encW (MulAt x y b y.length).1 .no) ∧ σ' = upd σ bo (buC (MulAt x y b y.length).2)) := by
  have hmw := fun i => mul_wf (x := x) (y := y) hs i
  have hmn := mul_next x y b
  have h0 : MulAt x y b 0 = (List.replicate x.length 0, b) := rfl
  obtain ⟨G, hG⟩ : ∃ G, MulAt x y b = G := ⟨_, rfl⟩
  rw [hG] at hmw hmn h0 ⊢
  clear hG
  have hbx : x.length * 8 ≤ 35184372088832 := by omega
  refine calls_x mixed Tryz.func111 b111 n111 rfl q111 (by simp) ?_; unfold c111 r111
  repeat' (first | simp (maxDischargeDepth := 9) -implicitDefEqProofs -dsimp only [go_sem, seval, List.length_map, *] | simp (disch := omega) only [wrap64] | ((with_reducible refine Zv ?_ ?_); focus (first | omega | exact rfl)) | ((with_reducible refine Zt (fun oF hoF hnF hnF' => ?_)); (try simp only [upd_none, ne_eq, not_and] at hoF)))
  refine loop_rule (fun i : Nat => [(18, some (.int .i64 i)), (17, some (.int .i64 y.length)), (16, some (encW y ty)), (1, some (encW x tx)), (0, some (.ptr bo 0)), (7, some (encW (G i).1 .no))]) (fun i => upd σ bo (buC (G i).2)) (fun i => i ≤ y.length) (fun i => y.length - i) 0 ?_ ?_
  · have nb : ¬ bo = oF := fun e => by rw [e, hoF] at h; simp at h
    have nb' := Ne.symm nb
    (repeat' (first | simp (maxDischargeDepth := 9) -implicitDefEqProofs -dsimp only [go_sem, seval, h0, encW, List.map_replicate, *] | simp (disch := omega) only [wrap64])) <;> (repeat' refine And.intro ?_ ?_) <;> (first | omega | rfl | assumption | skip)
  intro i hi
  by_cases hlt : i < y.length
  · have hgy : (y.map fun x => AV.int .i64 x)[i]? = some (.int .i64 (gt y i)) := by simp [gt, List.getD_eq_getElem?_getD, hlt]
    have hix : i ≤ x.length := by omega
    have hsub : ((x.length : Int) - (i : Int)) = ((x.length - i : Nat) : Int) := by omega
    have hbi := i64_gt hy i
    have hrw := fun j => row_wf (x := x) (bit := gt y i) (i := i) (hmw i).1 j
    have hrn := row_next x (gt y i) i (G i).2
    have hr0 : RowAt x (gt y i) i (G i).2 0 = (List.replicate i 0, (G i).2) := rfl
    have hG1 := hmn i
    have hGi := hmw i
    obtain ⟨R, hR⟩ : ∃ R, RowAt x (gt y i) i (G i).2 = R := ⟨_, rfl⟩
    rw [hR] at hrw hrn hr0 hG1
    obtain ⟨bit, hbit⟩ : ∃ B, gt y i = B := ⟨_, rfl⟩
    rw [hbit] at hgy hbi hrn
    clear hR hbit
    repeat' (first | simp (maxDischargeDepth := 9) -implicitDefEqProofs -dsimp only [go_sem, seval, List.length_map, *] | simp (disch := omega) only [wrap64] | ((with_reducible refine Zv ?_ ?_); focus (first | omega | exact rfl)) | ((with_reducible refine Zt (fun oF hoF hnF hnF' => ?_)); (try simp only [upd_none, ne_eq, not_and] at hoF)))
    refine loop_rule (fun j : Nat => [(34, some (.int .i64 j)), (33, some (.int .i64 (x.length - i : Nat))), (32, some (encW (x.take (x.length - i)) .no)), (10, some (encW (R j).1 (.own oF))), (0, some (.ptr bo 0)), (9, some (.int .i64 bit)), (7, some (encW (G i).1 .no)), (18, some (.int .i64 i)), (17, some (.int .i64 y.length)), (16, some (encW y ty)), (1, some (encW x tx))])
      (fun j => upd (upd σ bo (buC (R j).2)) oF (.grow 1 (i + j))) (fun j => j ≤ x.length - i) (fun j => x.length - i - j) 0 ?_ ?_
    · have htk : List.take (x.length - i) (List.map (fun x => AV.int .i64 x) x) = List.map (fun x => AV.int .i64 x) (List.take (x.length - i) x) := List.map_take.symm
      have hln : (List.take (x.length - i) x).length = x.length - i := by simp
      (repeat' (first | simp (maxDischargeDepth := 9) -implicitDefEqProofs -dsimp only [go_sem, seval, hr0, encW, htk, hln, List.length_map, List.map_replicate, Nat.add_zero, *] | simp (disch := omega) only [wrap64])) <;> (repeat' refine And.intro ?_ ?_) <;> (first | omega | rfl | assumption | skip)
    intro j hj
    have hln : (List.take (x.length - i) x).length = x.length - i := by simp
    by_cases hlj : j < x.length - i
    · have hgx : ((x.take (x.length - i)).map fun x => AV.int .i64 x)[j]? = some (.int .i64 (gt x j)) := by
        rw [List.getElem?_map, List.getElem?_take_of_lt hlj]
        simp [gt, List.getD_eq_getElem?_getD, show j < x.length by omega]
      have c1 := fun τ h => bu_and bo (R j).2 (gt x j) bit τ h (hrw j).1 (i64_gt hx j) hbi
      have hn := hrn j
      have hRl := (hrw j).2.1
      obtain ⟨r, hr⟩ : ∃ r, (R j).2.op Bl.Op.and (gt x j) bit 0 = r := ⟨_, rfl⟩
      rw [hr] at c1 hn
      have hjj : ((j : Int)) < ((x.length - i : Nat) : Int) := by omega
      have hbd : (i + j + 1) * 8 ≤ 35184372088832 := by omega
      clear hr hrw hrn hG1 hGi hmw hmn hs hx hy hbi
      repeat' (first | simp (maxDischargeDepth := 9) -implicitDefEqProofs -dsimp only [go_sem, seval, List.length_map, *] | simp (disch := omega) only [wrap64] | ((with_reducible refine Zv ?_ ?_); focus (first | omega | exact rfl)) | ((with_reducible refine Zt (fun oF hoF hnF hnF' => ?_)); (try simp only [upd_none, ne_eq, not_and] at hoF)) | ((with_reducible apply ACalls.one1); (focus ((first | with_reducible refine c1 _ ?_) <;> (first | (simp (maxDischargeDepth := 9) -implicitDefEqProofs -dsimp only [go_sem, seval, *]; done) | omega))); (focus (first | trivial | with_reducible exact rfl | (simp (maxDischargeDepth := 9) -implicitDefEqProofs -dsimp only [go_sem, seval]; done)))))
      have hadd : i + (j + 1) = i + j + 1 := rfl
      refine loop_next _ _ _ _ (j + 1) ?_; (repeat' (first | simp (maxDischargeDepth := 9) -implicitDefEqProofs -dsimp only [go_sem, seval,  hn, encW, hadd, List.map_append, List.map_cons, List.map_nil, *] | simp (disch := omega) only [wrap64])) <;> (repeat' refine And.intro ?_ ?_) <;> (first | omega | rfl | assumption | skip)
    · have : j = x.length - i := by omega
      subst this
      have hRl := hrw (x.length - i)
      have hrl : (G i).1.length ≤ (R (x.length - i)).1.length := by rw [hRl.2.1, hGi.2.1]; omega
      have c1 := fun τ h => bu_sum bo (R (x.length - i)).2 (G i).1 (R (x.length - i)).1 .no (.own oF) 0 τ h hRl.1 hGi.2.2 hRl.2.2 ⟨by decide, by decide⟩ hrl (by rw [hGi.2.1]; exact hxl)
      obtain ⟨Z, hZ⟩ : ∃ Z, (sumW (G i).1 (R (x.length - i)).1 0).run (R (x.length - i)).2 = Z := ⟨_, rfl⟩
      rw [hZ] at c1 hG1
      clear hZ hrw hrn hmw hmn hs hx hy hbi hrl hRl hGi
      repeat' (first | simp (maxDischargeDepth := 9) -implicitDefEqProofs -dsimp only [go_sem, seval, *] | simp (disch := omega) only [wrap64] | ((with_reducible refine Zv ?_ ?_); focus (first | omega | exact rfl)) | ((with_reducible refine Zt (fun oF hoF hnF hnF' => ?_)); (try simp only [upd_none, ne_eq, not_and] at hoF)) | ((with_reducible apply ACalls.one1); (focus ((first | with_reducible refine c1 _ ?_) <;> (first | (simp (maxDischargeDepth := 9) -implicitDefEqProofs -dsimp only [go_sem, seval, *]; done) | omega))); (focus (first | trivial | with_reducible exact rfl | (simp (maxDischargeDepth := 9) -implicitDefEqProofs -dsimp only [go_sem, seval]; done)))))
      refine loop_next _ _ _ _ (i + 1) ?_; (repeat' (first | simp (maxDischargeDepth := 9) -implicitDefEqProofs -dsimp only [go_sem, seval,  hG1, encW, *] | simp (disch := omega) only [wrap64])) <;> (repeat' refine And.intro ?_ ?_) <;> (first | omega | rfl | assumption | skip)
  · have : i = y.length := by omega
    subst this
    clear hmw hmn hs hx hy
    repeat' (first | simp (maxDischargeDepth := 9) -implicitDefEqProofs -dsimp only [go_sem, seval, *] | simp (disch := omega) only [wrap64] | ((with_reducible refine Zv ?_ ?_); focus (first | omega | exact rfl)) | ((with_reducible refine Zt (fun oF hoF hnF hnF' => ?_)); (try simp only [upd_none, ne_eq, not_and] at hoF)))
    refine fin_eq ?_
    (repeat' (first | simp (maxDischargeDepth := 9) -implicitDefEqProofs -dsimp only [go_sem, seval, *] | simp (disch := omega) only [wrap64])) <;> (repeat' refine And.intro ?_ ?_) <;> (first | omega | rfl | assumption | skip)
end Go.Proofs.YtbbihmmobfmadaaGreat

namespace Go.Proofs.YtbbihmmobfmadaaGreat
open Abs Fil Fil.Bl A
def S1At (x : List Int) (bit : Int) (up : Bool) (i : Nat) (b : Bu) (j : Nat) : List Int × Bu := (shift1 x bit up i j).run b
theorem s1_next (x : List Int) (bit : Int) (up : Bool) (i : Nat) (b : Bu) (j : Nat) : S1At x bit up i b (j + 1) = ((S1At x bit up i b j).1 ++ [((S1At x bit up i b j).2.op Bl.Op.mux bit (far x (farI up i j)) (gt x j)).1], ((S1At x bit up i b j).2.op Bl.Op.mux bit (far x (farI up i j)) (gt x j)).2) := by
  show (shift1 x bit up i (j + 1)).run b = _
  unfold shift1
  rw [iter_run, run_bind]
  rfl
theorem s1_wf {x : List Int} {bit : Int} {up : Bool} {i : Nat} {b : Bu} (hs : Wf b.g) : ∀ j, Wf (S1At x bit up i b j).2.g ∧ (S1At x bit up i b j).1.length = j ∧ ∀ z ∈ (S1At x bit up i b j).1, I64 z
  | 0 => ⟨hs, rfl, fun z h => by simp [S1At, shift1, iter, Pg.run] at h⟩
  | j + 1 => by
    obtain ⟨h1, h2, h3⟩ := s1_wf (x := x) (bit := bit) (up := up) (i := i) hs j
    rw [s1_next]
    have h4 := bu_wf h1 Bl.Op.mux bit (far x (farI up i j)) (gt x j)
    refine ⟨h4.1, by simp [h2], fun z hz => ?_⟩
    rcases List.mem_append.1 hz with hz | hz
    · exact h3 z hz
    · obtain rfl : z = _ := by simpa using hz
      exact h4.2
def ShAt (x y : List Int) (up : Bool) (b : Bu) (i : Nat) : List Int × Bu := (shiftP x y up i).run b
theorem sh_next (x y : List Int) (up : Bool) (b : Bu) (i : Nat) : ShAt x y up b (i + 1) = S1At (ShAt x y up b i).1 (gt y i) up i (ShAt x y up b i).2 (ShAt x y up b i).1.length := by
  show (shiftP x y up (i + 1)).run b = _
  unfold shiftP
  rw [iter_run]
  rfl
theorem sh_wf {x y : List Int} {up : Bool} {b : Bu} (hs : Wf b.g) (hx : ∀ z ∈ x, I64 z) : ∀ i, Wf (ShAt x y up b i).2.g ∧ (ShAt x y up b i).1.length = x.length ∧ ∀ z ∈ (ShAt x y up b i).1, I64 z
  | 0 => ⟨hs, rfl, hx⟩
  | i + 1 => by
    obtain ⟨h1, h2, h3⟩ := sh_wf (y := y) (up := up) hs hx i
    rw [sh_next]
    have h4 := s1_wf (x := (ShAt x y up b i).1) (bit := gt y i) (up := up) (i := i) h1 (ShAt x y up b i).1.length
    exact ⟨h4.1, h4.2.1.trans h2, h4.2.2⟩
theorem i64_far {x : List Int} (h : ∀ z ∈ x, I64 z) (k : Int) : I64 (far x k) := by
  unfold far
  split
  · exact i64_gt h _
  · exact ⟨by decide, by decide⟩
set_option maxHeartbeats 4000000 in
theorem bu_shift (bo : Nat) (b : Bu) (x y : List Int) (tx ty : Tok) (up : Bool) (σ : Sig) (h : σ bo = some (buC b)) (hs : Wf b.g) (hx : ∀ z ∈ x, I64 z) (hy : ∀ z ∈ y, I64 z) (hx1 : 1 ≤ x.length) (hxl : x.length ≤ 1000000) (hyl : y.length ≤ 1000000) :
    ACalls Tryz.prog 77 [.ptr bo 0, encW x tx, encW y ty, .int .i64 (if up then 1 else -1)] σ (fun r σ' => r = .ret (encW (ShAt x y up b y.length).1 .no) ∧ σ' = upd σ bo (buC (ShAt x y up b y.length).2)) := by
  have hmw := fun i => sh_wf (y := y) (up := up) hs hx i
  have hmn := sh_next x y up b
  have h0 : ShAt x y up b 0 = (x, b) := rfl
  obtain ⟨G, hG⟩ : ∃ G, ShAt x y up b = G := ⟨_, rfl⟩
  rw [hG] at hmw hmn h0 ⊢
  obtain ⟨way, hway⟩ : ∃ w : Int, (if up then 1 else -1) = w := ⟨_, rfl⟩
  rw [hway]
  clear hG
  refine calls_x mixed Tryz.func77 b77 n77 rfl q77 (by simp) ?_; unfold c77 r77
  repeat' (first | simp (maxDischargeDepth := 9) -implicitDefEqProofs -dsimp only [go_sem, seval, List.length_map, *] | simp (disch := omega) only [wrap64] | ((with_reducible refine Zt (fun oF hoF hnF hnF' => ?_)); (try simp only [upd_none, ne_eq, not_and] at hoF)))
  refine loop_rule (fun i : Nat => [(19, some (.int .i64 i)), (18, some (.int .i64 y.length)), (17, some (encW y ty)), (3, some (.int .i64 way)), (0, some (.ptr bo 0)), (1, some (encW (G i).1 .no))]) (fun i => upd σ bo (buC (G i).2)) (fun i => i ≤ y.length) (fun i => y.length - i) 0 ?_ ?_
  · (repeat' (first | simp (maxDischargeDepth := 9) -implicitDefEqProofs -dsimp only [go_sem, seval, h0, encW, *] | simp (disch := omega) only [wrap64])) <;> (repeat' refine And.intro ?_ ?_) <;> (first | omega | rfl | assumption | skip)
  intro i hi
  by_cases hlt : i < y.length
  · have hgy : (y.map fun x => AV.int .i64 x)[i]? = some (.int .i64 (gt y i)) := by simp [gt, List.getD_eq_getElem?_getD, hlt]
    have hbi := i64_gt hy i
    have hG1 := hmn i
    have hGi := hmw i
    obtain ⟨bit, hbit⟩ : ∃ B, gt y i = B := ⟨_, rfl⟩
    rw [hbit] at hgy hbi hG1
    clear hbit
    have hmin : ¬ min (i : Int) 8 < 0 := by omega
    obtain ⟨FAR, hFAR⟩ : ∃ F : Int, way * 2 ^ (min i 8) = F := ⟨_, rfl⟩
    have hpw : 2 ^ (min i 8) ≤ 2 ^ 8 := Nat.pow_le_pow_right (by omega) (by omega)
    have hpp := Nat.two_pow_pos (min i 8)
    have hcast : ((2 : Int) ^ (min i 8)) = ((2 ^ (min i 8) : Nat) : Int) := by simp
    have hFb : -256 ≤ FAR ∧ FAR ≤ 256 := by
      rw [← hFAR, hcast, ← hway]
      cases up <;> simp only [if_true, if_false, Bool.false_eq_true] <;> omega
    have hfar : ∀ j : Nat, farI up i j = (j : Int) - FAR := fun j => by
      rw [← hFAR, ← hway]
      unfold farI
      cases up <;> simp only [if_true, if_false, Bool.false_eq_true] <;> omega
    have hsh : IntKind.i64.wrap (way * 2 ^ ((min (i : Int) 8).toNat.min 64)) = FAR := by
      have e : (min (i : Int) 8).toNat.min 64 = min i 8 := by
        show min (min (i : Int) 8).toNat 64 = min i 8
        omega
      rw [e, hFAR, wrap64 _ (by omega) (by omega)]
    have hrw := fun j => s1_wf (x := (G i).1) (bit := bit) (up := up) (i := i) hGi.1 j
    have hrn := s1_next (G i).1 bit up i (G i).2
    have hr0 : S1At (G i).1 bit up i (G i).2 0 = ([], (G i).2) := rfl
    obtain ⟨R, hR⟩ : ∃ R, S1At (G i).1 bit up i (G i).2 = R := ⟨_, rfl⟩
    rw [hR] at hrw hrn hr0 hG1
    clear hR hFAR hpw hpp hcast hway
    repeat' (first | simp (maxDischargeDepth := 9) -implicitDefEqProofs -dsimp only [go_sem, seval, List.length_map, *] | simp (disch := omega) only [wrap64] | ((with_reducible refine Zt (fun oF hoF hnF hnF' => ?_)); (try simp only [upd_none, ne_eq, not_and] at hoF)))
    refine loop_rule (fun j : Nat => [(31, some (.int .i64 j)), (30, some (.int .i64 x.length)), (29, some (encW (G i).1 .no)), (11, some (.int .i64 FAR)), (12, some (encW (G i).1 .no)), (1, some (encW (R j).1 (.own oF))), (0, some (.ptr bo 0)), (10, some (.int .i64 bit)), (19, some (.int .i64 i)), (18, some (.int .i64 y.length)), (17, some (encW y ty)), (3, some (.int .i64 way))])
      (fun j => upd (upd σ bo (buC (R j).2)) oF (.grow 1 j)) (fun j => j ≤ x.length) (fun j => x.length - j) 0 ?_ ?_
    · (repeat' (first | simp (maxDischargeDepth := 9) -implicitDefEqProofs -dsimp only [go_sem, seval, hr0, encW, List.map_nil, *] | simp (disch := omega) only [wrap64])) <;> (repeat' refine And.intro ?_ ?_) <;> (first | omega | rfl | assumption | skip)
    intro j hj
    have hGl := hGi.2.1
    by_cases hlj : j < x.length
    · have hgx : ((G i).1.map fun x => AV.int .i64 x)[j]? = some (.int .i64 (gt (G i).1 j)) := by
        simp [gt, List.getD_eq_getElem?_getD, hGl, hlj]
      have c1 := fun τ h => bu_mux bo (R j).2 bit (far (G i).1 (farI up i j)) (gt (G i).1 j) τ h (hrw j).1 hbi (i64_far hGi.2.2 _) (i64_gt hGi.2.2 j)
      have hn := hrn j
      have hRl := (hrw j).2.1
      obtain ⟨r, hr⟩ : ∃ r, (R j).2.op Bl.Op.mux bit (far (G i).1 (farI up i j)) (gt (G i).1 j) = r := ⟨_, rfl⟩
      rw [hr] at c1 hn
      have hbd : (j + 1) * 8 ≤ 35184372088832 := by omega
      have hw : IntKind.i64.wrap ((j : Int) - FAR) = (j : Int) - FAR := wrap64 _ (by omega) (by omega)
      have hff := hfar j
      rw [hff] at c1
      clear hr hrw hrn hG1 hGi hmw hmn hs hx hy hbi hfar hsh hmin hff
      by_cases hk : 0 ≤ (j : Int) - FAR ∧ (j : Int) - FAR < x.length
      · obtain ⟨kk, hkk⟩ : ∃ kk : Nat, (j : Int) - FAR = kk := ⟨((j : Int) - FAR).toNat, by omega⟩
        have hfa : far (G i).1 ((j : Int) - FAR) = gt (G i).1 kk := by
          unfold far
          rw [if_pos (by rw [hGl]; exact hk), hkk]; rfl
        have hkl : kk < x.length := by omega
        have hgk : ((G i).1.map fun x => AV.int .i64 x)[kk]? = some (.int .i64 (gt (G i).1 kk)) := by
          simp [gt, List.getD_eq_getElem?_getD, hGl, hkl]
        rw [hfa] at c1
        rw [hkk] at hw
        clear hk hfa hFb
        have hk0 : (kk : Int) ≥ 0 := by omega
        have hk1 : (kk : Int) < (x.length : Int) := by omega
        repeat' (first | simp (maxDischargeDepth := 9) -implicitDefEqProofs -dsimp only [go_sem, seval, List.length_map, *] | simp (disch := omega) only [wrap64] | ((with_reducible refine Zt (fun oF hoF hnF hnF' => ?_)); (try simp only [upd_none, ne_eq, not_and] at hoF)) | ((with_reducible apply ACalls.one1); (focus ((first | with_reducible refine c1 _ ?_) <;> (first | (simp (maxDischargeDepth := 9) -implicitDefEqProofs -dsimp only [go_sem, seval, *]; done) | omega))); (focus (first | trivial | with_reducible exact rfl | (simp (maxDischargeDepth := 9) -implicitDefEqProofs -dsimp only [go_sem, seval]; done)))))
        refine loop_next _ _ _ _ (j + 1) ?_; (repeat' (first | simp (maxDischargeDepth := 9) -implicitDefEqProofs -dsimp only [go_sem, seval,  hn, encW, List.map_append, List.map_cons, List.map_nil, *] | simp (disch := omega) only [wrap64])) <;> (repeat' refine And.intro ?_ ?_) <;> (first | omega | rfl | assumption | skip)
      · have hfa : far (G i).1 ((j : Int) - FAR) = 0 := by
          unfold far
          rw [if_neg (by rw [hGl]; exact hk)]
        rw [hfa] at c1
        obtain ⟨KK, hKK⟩ : ∃ K : Int, (j : Int) - FAR = K := ⟨_, rfl⟩
        rw [hKK] at hw hk
        clear hfa hFb
        by_cases hk0 : KK ≥ 0
        · have hk1 : ¬ KK < (x.length : Int) := by omega
          clear hk
          repeat' (first | simp (maxDischargeDepth := 9) -implicitDefEqProofs -dsimp only [go_sem, seval, List.length_map, *] | simp (disch := omega) only [wrap64] | ((with_reducible refine Zt (fun oF hoF hnF hnF' => ?_)); (try simp only [upd_none, ne_eq, not_and] at hoF)) | ((with_reducible apply ACalls.one1); (focus ((first | with_reducible refine c1 _ ?_) <;> (first | (simp (maxDischargeDepth := 9) -implicitDefEqProofs -dsimp only [go_sem, seval, *]; done) | omega))); (focus (first | trivial | with_reducible exact rfl | (simp (maxDischargeDepth := 9) -implicitDefEqProofs -dsimp only [go_sem, seval]; done)))))
          refine loop_next _ _ _ _ (j + 1) ?_; (repeat' (first | simp (maxDischargeDepth := 9) -implicitDefEqProofs -dsimp only [go_sem, seval,  hn, encW, List.map_append, List.map_cons, List.map_nil, *] | simp (disch := omega) only [wrap64])) <;> (repeat' refine And.intro ?_ ?_) <;> (first | omega | rfl | assumption | skip)
        · clear hk
          repeat' (first | simp (maxDischargeDepth := 9) -implicitDefEqProofs -dsimp only [go_sem, seval, List.length_map, *] | simp (disch := omega) only [wrap64] | ((with_reducible refine Zt (fun oF hoF hnF hnF' => ?_)); (try simp only [upd_none, ne_eq, not_and] at hoF)) | ((with_reducible apply ACalls.one1); (focus ((first | with_reducible refine c1 _ ?_) <;> (first | (simp (maxDischargeDepth := 9) -implicitDefEqProofs -dsimp only [go_sem, seval, *]; done) | omega))); (focus (first | trivial | with_reducible exact rfl | (simp (maxDischargeDepth := 9) -implicitDefEqProofs -dsimp only [go_sem, seval]; done)))))
          refine loop_next _ _ _ _ (j + 1) ?_; (repeat' (first | simp (maxDischargeDepth := 9) -implicitDefEqProofs -dsimp only [go_sem, seval,  hn, encW, List.map_append, List.map_cons, List.map_nil, *] | simp (disch := omega) only [wrap64])) <;> (repeat' refine And.intro ?_ ?_) <;> (first | omega | rfl | assumption | skip)
    · have : j = x.length := by omega
      subst this
      rw [hGl] at hG1
      clear hrw hrn hmw hmn hs hx hy hbi hGi hGl hfar hsh hmin
      repeat' (first | simp (maxDischargeDepth := 9) -implicitDefEqProofs -dsimp only [go_sem, seval, *] | simp (disch := omega) only [wrap64] | ((with_reducible refine Zt (fun oF hoF hnF hnF' => ?_)); (try simp only [upd_none, ne_eq, not_and] at hoF)))
      refine loop_next _ _ _ _ (i + 1) ?_; (repeat' (first | simp (maxDischargeDepth := 9) -implicitDefEqProofs -dsimp only [go_sem, seval,  hG1, encW, *] | simp (disch := omega) only [wrap64])) <;> (repeat' refine And.intro ?_ ?_) <;> (first | omega | rfl | assumption | skip)
  · have : i = y.length := by omega
    subst this
    clear hmw hmn hs hx hy
    repeat' (first | simp (maxDischargeDepth := 9) -implicitDefEqProofs -dsimp only [go_sem, seval, *] | simp (disch := omega) only [wrap64] | ((with_reducible refine Zt (fun oF hoF hnF hnF' => ?_)); (try simp only [upd_none, ne_eq, not_and] at hoF)))
    refine fin_eq ?_
    (repeat' (first | simp (maxDischargeDepth := 9) -implicitDefEqProofs -dsimp only [go_sem, seval, *] | simp (disch := omega) only [wrap64])) <;> (repeat' refine And.intro ?_ ?_) <;> (first | omega | rfl | assumption | skip)
end Go.Proofs.YtbbihmmobfmadaaGreat

namespace Go.Proofs.YtbbihmmobfmadaaGreat
open Abs Fil Fil.Bl A

/-! ### Two words, by an operation of gates -/
def ZipAt (f : Int → Int → Pg Int) (x y : List Int) (b : Bu) (k : Nat) : List Int × Bu := (zipP f x y k).run b
theorem zip_next (f : Int → Int → Pg Int) (x y : List Int) (b : Bu) (k : Nat) : ZipAt f x y b (k + 1) = ((ZipAt f x y b k).1 ++ [((f (gt x k) (gt y k)).run (ZipAt f x y b k).2).1], ((f (gt x k) (gt y k)).run (ZipAt f x y b k).2).2) := by
  show (zipP f x y (k + 1)).run b = _
  unfold zipP
  rw [iter_run, run_bind]
  rfl
def WfF (f : Int → Int → Pg Int) : Prop := ∀ (b : Bu) p q, Wf b.g → Wf ((f p q).run b).2.g ∧ I64 ((f p q).run b).1
theorem wff_op (op : Bl.Op) : WfF (fun p q => .op op p q 0 .ret) := fun _ p q h => bu_wf h op p q 0
theorem wff_mux (c : Int) : WfF (fun p q => muxP c p q) := fun _ p q h => bu_wf h .mux c p q
theorem zip_wf {f : Int → Int → Pg Int} (hf : WfF f) {x y : List Int} {b : Bu} (hs : Wf b.g) : ∀ k, Wf (ZipAt f x y b k).2.g ∧ (ZipAt f x y b k).1.length = k ∧ ∀ z ∈ (ZipAt f x y b k).1, I64 z
  | 0 => ⟨hs, rfl, fun z h => by simp [ZipAt, zipP, iter, Pg.run] at h⟩
  | k + 1 => by
    obtain ⟨h1, h2, h3⟩ := zip_wf hf (x := x) (y := y) hs k
    rw [zip_next]
    have h4 := hf _ (gt x k) (gt y k) h1
    refine ⟨h4.1, by simp [h2], fun z hz => ?_⟩
    rcases List.mem_append.1 hz with hz | hz
    · exact h3 z hz
    · obtain rfl : z = _ := by simpa using hz
      exact h4.2
theorem zip_out {f : Int → Int → Pg Int} {x y : List Int} {b : Bu} : ∀ k, (ZipAt f x y b k).1 = (List.range k).map fun i => ((f (gt x i) (gt y i)).run (ZipAt f x y b i).2).1
  | 0 => rfl
  | k + 1 => by rw [zip_next, List.range_succ, List.map_append, ← zip_out k]; rfl
theorem bl_zipf (f : Int → Int → Pg Int) (hf : WfF f) (fF : Nat) (first caps : List AV) (bo : Nat) (b : Bu) (x y : List Int) (tx ty : Tok) (σ : Sig) (h : σ bo = some (buC b)) (hs : Wf b.g) (hlen : x.length ≤ y.length) (hxl : x.length ≤ 1000000)
    (hop : ∀ b τ k, k < x.length → τ bo = some (buC b) → Wf b.g → (∀ o z, ¬ o = bo → σ o = some z → τ o = some z) → ACalls Tryz.prog fF (first ++ [.int .i64 (gt x k), .int .i64 (gt y k)] ++ caps) τ (fun r τ' => r = .ret (.int .i64 ((f (gt x k) (gt y k)).run b).1) ∧ τ' = upd τ bo (buC ((f (gt x k) (gt y k)).run b).2))) :
    ACalls Tryz.prog 109 [encW x tx, encW y ty, .fn fF first caps] σ (fun r σ' => r = .ret (encW (ZipAt f x y b x.length).1 .no) ∧ σ' = upd σ bo (buC (ZipAt f x y b x.length).2)) := by
  have hz := bl_zip x y tx ty fF first caps (fun i => ((f (gt x i) (gt y i)).run (ZipAt f x y b i).2).1) (fun k => upd σ bo (buC (ZipAt f x y b k).2)) hlen hxl ?_ ?_
  · rw [← zip_out] at hz
    have e0 : upd σ bo (buC (ZipAt f x y b 0).2) = σ := by
      funext i
      by_cases hi : i = bo
      · subst hi; simp only [upd, if_true, h]; rfl
      · simp only [upd, if_neg hi]
    rw [e0] at hz
    exact hz
  · intro k o ho
    have a1 : ¬ o = bo := fun e => by subst e; simp [upd] at ho
    simpa [upd, a1] using ho
  · intro i hi o z ho
    have a1 : ¬ o = bo := fun e => by subst e; simp [upd] at ho
    have ho' : σ o = none := by simpa [upd, a1] using ho
    refine (hop (ZipAt f x y b i).2 (upd (upd σ bo (buC (ZipAt f x y b i).2)) o z) i hi (by simp [upd, Ne.symm a1]) (zip_wf hf hs i).1 (fun o' z' h1 h2 => ?_)).mono fun r σ' ⟨q1, q2⟩ => ⟨q1, ?_⟩
    · have : ¬ o' = o := fun e => by rw [e, ho'] at h2; simp at h2
      simp [upd, this, h1, h2]
    · rw [q2, zip_next]
      funext j
      by_cases j1 : j = o
      · subst j1; simp [upd, a1]
      by_cases j3 : j = bo
      · subst j3; simp [upd, j1]
      simp [upd, j1, j3]
theorem zip_and (bo : Nat) (b : Bu) (x y : List Int) (tx ty : Tok) (σ : Sig) (h : σ bo = some (buC b)) (hs : Wf b.g) (hx : ∀ z ∈ x, I64 z) (hy : ∀ z ∈ y, I64 z) (hlen : x.length ≤ y.length) (hxl : x.length ≤ 1000000) :
    ACalls Tryz.prog 109 [encW x tx, encW y ty, .fn 98 [.ptr bo 0] []] σ (fun r σ' => r = .ret (encW ((zipP andP x y x.length).run b).1 .no) ∧ σ' = upd σ bo (buC ((zipP andP x y x.length).run b).2)) :=
  bl_zipf _ (wff_op .and) _ _ _ bo b x y tx ty σ h hs hlen hxl fun b τ k _ h1 h2 _ => bu_and bo b _ _ τ h1 h2 (i64_gt hx k) (i64_gt hy k)
theorem zip_or (bo : Nat) (b : Bu) (x y : List Int) (tx ty : Tok) (σ : Sig) (h : σ bo = some (buC b)) (hs : Wf b.g) (hx : ∀ z ∈ x, I64 z) (hy : ∀ z ∈ y, I64 z) (hlen : x.length ≤ y.length) (hxl : x.length ≤ 1000000) :
    ACalls Tryz.prog 109 [encW x tx, encW y ty, .fn 110 [.ptr bo 0] []] σ (fun r σ' => r = .ret (encW ((zipP orP x y x.length).run b).1 .no) ∧ σ' = upd σ bo (buC ((zipP orP x y x.length).run b).2)) :=
  bl_zipf _ (wff_op .or) _ _ _ bo b x y tx ty σ h hs hlen hxl fun b τ k _ h1 h2 _ => bu_or bo b _ _ τ h1 h2 (i64_gt hx k) (i64_gt hy k)
theorem zip_xor (bo : Nat) (b : Bu) (x y : List Int) (tx ty : Tok) (σ : Sig) (h : σ bo = some (buC b)) (hs : Wf b.g) (hx : ∀ z ∈ x, I64 z) (hy : ∀ z ∈ y, I64 z) (hlen : x.length ≤ y.length) (hxl : x.length ≤ 1000000) :
    ACalls Tryz.prog 109 [encW x tx, encW y ty, .fn 100 [.ptr bo 0] []] σ (fun r σ' => r = .ret (encW ((zipP xorP x y x.length).run b).1 .no) ∧ σ' = upd σ bo (buC ((zipP xorP x y x.length).run b).2)) :=
  bl_zipf _ (wff_op .xor) _ _ _ bo b x y tx ty σ h hs hlen hxl fun b τ k _ h1 h2 _ => bu_xor bo b _ _ τ h1 h2 (i64_gt hx k) (i64_gt hy k)

/-! ### Folds -/
theorem fold_and (bo o : Nat) (b : Bu) (xs : List Int) (t : Tok) (σ : Sig) (h : σ bo = some (buC b)) (ho : σ o = some (.cells [encW xs t])) (hs : Wf b.g) (hx : ∀ z ∈ xs, I64 z) (hl : xs.length ≤ 1000000) :
    ACalls Tryz.prog 96 [.int .i64 1, .fn 162 [] [.ptr o 0], .fn 98 [.ptr bo 0] []] σ (fun r σ' => r = .ret (.int .i64 ((allW xs).run b).1) ∧ σ' = upd σ bo (buC ((allW xs).run b).2)) :=
  bu_fold .and _ bo b 1 xs _ _ σ h hs ⟨by decide, by decide⟩ hx (fun τ hτ => iter_values o xs t τ hl (hτ _ _ ho)) fun b x y τ h hs hx hy => bu_and bo b x y τ h hs hx hy
theorem fold_nand (bo o : Nat) (b : Bu) (xs : List Int) (t : Tok) (σ : Sig) (h : σ bo = some (buC b)) (ho : σ o = some (.cells [encW xs t])) (hs : Wf b.g) (hx : ∀ z ∈ xs, I64 z) (hl : xs.length ≤ 1000000) :
    ACalls Tryz.prog 96 [.int .i64 1, .fn 166 [] [.ptr o 0], .fn 98 [.ptr bo 0] []] σ (fun r σ' => r = .ret (.int .i64 ((allW (notW xs)).run b).1) ∧ σ' = upd σ bo (buC ((allW (notW xs)).run b).2)) :=
  bu_fold .and _ bo b 1 (notW xs) _ _ σ h hs ⟨by decide, by decide⟩ (i64_not hx) (fun τ hτ => iter_turned o xs t τ hl hx (hτ _ _ ho)) fun b x y τ h hs hx hy => bu_and bo b x y τ h hs hx hy
theorem fold_xor (bo o : Nat) (b : Bu) (xs : List Int) (t : Tok) (σ : Sig) (h : σ bo = some (buC b)) (ho : σ o = some (.cells [encW xs t])) (hs : Wf b.g) (hx : ∀ z ∈ xs, I64 z) (hl : xs.length ≤ 1000000) :
    ACalls Tryz.prog 96 [.int .i64 0, .fn 162 [] [.ptr o 0], .fn 100 [.ptr bo 0] []] σ (fun r σ' => r = .ret (.int .i64 ((foldP xorP 0 xs xs.length).run b).1) ∧ σ' = upd σ bo (buC ((foldP xorP 0 xs xs.length).run b).2)) :=
  bu_fold .xor _ bo b 0 xs _ _ σ h hs ⟨by decide, by decide⟩ hx (fun τ hτ => iter_values o xs t τ hl (hτ _ _ ho)) fun b x y τ h hs hx hy => bu_xor bo b x y τ h hs hx hy
theorem allW_wf {xs : List Int} {b : Bu} (hs : Wf b.g) : Wf ((allW xs).run b).2.g ∧ I64 ((allW xs).run b).1 := fold_wf .and (a := 1) xs hs ⟨by decide, by decide⟩ xs.length

/-! ### One word -/
set_option maxHeartbeats 4000000 in
theorem bu_un (bo : Nat) (b : Bu) (op : Int) (a : List Int) (t : Tok) (σ : Sig) (h : σ bo = some (buC b)) (hs : Wf b.g) (ha : ∀ z ∈ a, I64 z) (h1 : 1 ≤ a.length) (hl : a.length ≤ 1000000) (ho : 1 ≤ op ∧ op ≤ 6) (h6 : op = 6 → a.length = 1) :
    ACalls Tryz.prog 52 [.ptr bo 0, .int .i64 op, encW a t] σ (fun r σ' => r = .ret (encW ((unP op a).run b).1 .no) ∧ σ' = upd σ bo (buC ((unP op a).run b).2)) := by
  have hu : upd σ bo (buC b) = σ := by
    funext i
    by_cases hi : i = bo
    · subst hi; simp [upd, h]
    · simp [upd, hi]
  have c1 := fun t τ => bl_not a t τ hl ha
  have hc : op = 1 ∨ op = 2 ∨ op = 3 ∨ op = 4 ∨ op = 5 ∨ op = 6 := by omega
  rcases hc with rfl | rfl | rfl | rfl | rfl | rfl
  · have e : (unP 1 a).run b = (notW a, b) := rfl
    rw [e]
    simp only [hu]
    clear hu hs ha h1 hl ho h6 e
    refine calls_x mixed Tryz.func52 b52 n52 rfl q52 (by simp) ?_; unfold c52 r52
    repeat' (first | simp (maxDischargeDepth := 9) -implicitDefEqProofs -dsimp only [go_sem, seval, *] | ((with_reducible refine Zv ?_ ?_); focus (first | omega | exact rfl)) | ((with_reducible refine Zt (fun oF hoF hnF hnF' => ?_)); (try simp only [upd_none, ne_eq, not_and] at hoF)) | ((with_reducible apply ACalls.one1); (focus ((first | with_reducible refine c1 _ _ | with_reducible refine ACalls.flA (c1 _ _) ?_) <;> (first | (simp (maxDischargeDepth := 9) -implicitDefEqProofs -dsimp only [go_sem, seval, *]; done) | omega))); (focus (first | trivial | with_reducible exact rfl | (simp (maxDischargeDepth := 9) -implicitDefEqProofs -dsimp only [go_sem, seval]; done)))))
    refine fin_eq ?_
    (repeat' (first | simp (maxDischargeDepth := 9) -implicitDefEqProofs -dsimp only [go_sem, seval, encW, *])) <;> (repeat' refine And.intro ?_ ?_) <;> (first | omega | rfl | assumption | skip)
  · have e : (unP 2 a).run b = (((sumW (notW a) (List.replicate a.length 0) 1).run b).1.1, ((sumW (notW a) (List.replicate a.length 0) 1).run b).2) := by
      show ((sumW (notW a) (List.replicate a.length 0) 1).bind fun r => .ret r.1).run b = _
      rw [run_bind]; rfl
    rw [e]
    have hnl : (notW a).length = a.length := by simp [notW]
    have c2 := fun ty τ h => bu_sum bo b (notW a) (List.replicate a.length 0) .no ty 1 τ h hs (i64_not ha) (fun z hz => by rw [(List.mem_replicate.1 hz).2]; exact ⟨by decide, by decide⟩) ⟨by decide, by decide⟩ (by simp [hnl]) (by omega)
    simp only [encW, List.map_replicate] at c2
    obtain ⟨Z, hZ⟩ : ∃ Z, (sumW (notW a) (List.replicate a.length 0) 1).run b = Z := ⟨_, rfl⟩
    rw [hZ] at c2 ⊢
    have hb : a.length * 8 ≤ 35184372088832 := by omega
    clear hu hs ha h1 ho h6 e hZ hnl
    refine calls_x mixed Tryz.func52 b52 n52 rfl q52 (by simp) ?_; unfold c52 r52
    repeat' (first | simp (maxDischargeDepth := 9) -implicitDefEqProofs -dsimp only [go_sem, seval, List.length_map, *] | ((with_reducible refine Zv ?_ ?_); focus (first | omega | exact rfl)) | ((with_reducible refine Zt (fun oF hoF hnF hnF' => ?_)); (try simp only [upd_none, ne_eq, not_and] at hoF)) | ((with_reducible apply ACalls.one1); (focus ((first | with_reducible refine c1 _ _ | with_reducible refine c2 _ _ ?_ | with_reducible refine ACalls.flA (c1 _ _) ?_ | with_reducible refine ACalls.flA (c2 _ _ ?_) ?_) <;> (first | (simp (maxDischargeDepth := 9) -implicitDefEqProofs -dsimp only [go_sem, seval, *]; done) | omega))); (focus (first | trivial | with_reducible exact rfl | (simp (maxDischargeDepth := 9) -implicitDefEqProofs -dsimp only [go_sem, seval]; done)))) | ((with_reducible apply id_one0); (focus (intro tS hS; ((first | with_reducible refine c1 _ _ | with_reducible refine c2 _ _ ?_ | with_reducible refine ACalls.flA (c1 _ _) ?_ | with_reducible refine ACalls.flA (c2 _ _ ?_) ?_) <;> (first | (simp (maxDischargeDepth := 9) -implicitDefEqProofs -dsimp only [go_sem, seval, *]; done) | omega | ((with_reducible refine Sub.get hS ?_); simp (maxDischargeDepth := 9) -implicitDefEqProofs -dsimp only [go_sem, seval, *]; done))))); (focus (first | trivial | (simp (maxDischargeDepth := 9) -implicitDefEqProofs -dsimp only [go_sem, seval, *]; done)))) | ((with_reducible apply id_one1); (focus (intro tS hS; ((first | with_reducible refine c1 _ _ | with_reducible refine c2 _ _ ?_ | with_reducible refine ACalls.flA (c1 _ _) ?_ | with_reducible refine ACalls.flA (c2 _ _ ?_) ?_) <;> (first | (simp (maxDischargeDepth := 9) -implicitDefEqProofs -dsimp only [go_sem, seval, *]; done) | omega | ((with_reducible refine Sub.get hS ?_); simp (maxDischargeDepth := 9) -implicitDefEqProofs -dsimp only [go_sem, seval, *]; done))))); (focus (first | trivial | (simp (maxDischargeDepth := 9) -implicitDefEqProofs -dsimp only [go_sem, seval, *]; done)))))
    refine fin_eq ?_
    (repeat' (first | simp (maxDischargeDepth := 9) -implicitDefEqProofs -dsimp only [go_sem, seval, encW, *])) <;> (repeat' refine And.intro ?_ ?_) <;> (first | omega | rfl | assumption | skip)
  · have e : (unP 3 a).run b = ([((allW a).run b).1], ((allW a).run b).2) := by
      show ((allW a).bind fun r => .ret [r]).run b = _
      rw [run_bind]; rfl
    rw [e]
    have c2 := fun o τ h ho => fold_and bo o b a t τ h ho hs ha hl
    obtain ⟨Z, hZ⟩ : ∃ Z, (allW a).run b = Z := ⟨_, rfl⟩
    rw [hZ] at c2 ⊢
    clear hu hs ha h1 hl ho h6 e hZ c1
    refine calls_x mixed Tryz.func52 b52 n52 rfl q52 (by simp) ?_; unfold c52 r52
    repeat' (first | simp (maxDischargeDepth := 9) -implicitDefEqProofs -dsimp only [go_sem, seval, *] | ((with_reducible refine Zv ?_ ?_); focus (first | omega | exact rfl)) | ((with_reducible refine Zt (fun oF hoF hnF hnF' => ?_)); (try simp only [upd_none, ne_eq, not_and] at hoF)) | ((with_reducible apply ACalls.one1); (focus ((first | with_reducible refine c2 _ _ ?_ ?_ | with_reducible refine ACalls.flA (c2 _ _ ?_ ?_) ?_) <;> (first | (simp (maxDischargeDepth := 9) -implicitDefEqProofs -dsimp only [go_sem, seval, *]; done) | omega))); (focus (first | trivial | with_reducible exact rfl | (simp (maxDischargeDepth := 9) -implicitDefEqProofs -dsimp only [go_sem, seval]; done)))) | ((with_reducible apply ACalls.newO); (focus ((first | with_reducible refine sl_values a t _ | with_reducible refine ACalls.flA (sl_values a t _) ?_) <;> (first | (simp (maxDischargeDepth := 9) -implicitDefEqProofs -dsimp only [go_sem, seval, *]; done) | omega))); (intro oF hoF hnF hnF'); (try simp only [upd_none, ne_eq, not_and] at hoF)))
    refine fin_eq ?_
    (repeat' (first | simp (maxDischargeDepth := 9) -implicitDefEqProofs -dsimp only [go_sem, seval, encW, List.map_cons, List.map_nil, *])) <;> (repeat' refine And.intro ?_ ?_) <;> (first | omega | rfl | assumption | skip)
  · have e : (unP 4 a).run b = ([turn ((allW (notW a)).run b).1], ((allW (notW a)).run b).2) := by
      show ((allW (notW a)).bind fun r => .ret [turn r]).run b = _
      rw [run_bind]; rfl
    rw [e]
    have c2 := fun o τ h ho => fold_nand bo o b a t τ h ho hs ha hl
    have hw := (allW_wf (xs := notW a) hs).2
    obtain ⟨Z, hZ⟩ : ∃ Z, (allW (notW a)).run b = Z := ⟨_, rfl⟩
    rw [hZ] at c2 hw ⊢
    have hxx := xor1' Z.1 hw
    clear hu hs ha h1 hl ho h6 e hZ c1 hw
    refine calls_x mixed Tryz.func52 b52 n52 rfl q52 (by simp) ?_; unfold c52 r52
    repeat' (first | simp (maxDischargeDepth := 9) -implicitDefEqProofs -dsimp only [go_sem, seval, *] | ((with_reducible refine Zv ?_ ?_); focus (first | omega | exact rfl)) | ((with_reducible refine Zt (fun oF hoF hnF hnF' => ?_)); (try simp only [upd_none, ne_eq, not_and] at hoF)) | ((with_reducible apply ACalls.one1); (focus ((first | with_reducible refine c2 _ _ ?_ ?_ | with_reducible refine ACalls.flA (c2 _ _ ?_ ?_) ?_) <;> (first | (simp (maxDischargeDepth := 9) -implicitDefEqProofs -dsimp only [go_sem, seval, *]; done) | omega))); (focus (first | trivial | with_reducible exact rfl | (simp (maxDischargeDepth := 9) -implicitDefEqProofs -dsimp only [go_sem, seval]; done)))) | ((with_reducible apply ACalls.newO); (focus ((first | with_reducible refine bl_turned a t _ | with_reducible refine ACalls.flA (bl_turned a t _) ?_) <;> (first | (simp (maxDischargeDepth := 9) -implicitDefEqProofs -dsimp only [go_sem, seval, *]; done) | omega))); (intro oF hoF hnF hnF'); (try simp only [upd_none, ne_eq, not_and] at hoF)))
    refine fin_eq ?_
    (repeat' (first | simp (maxDischargeDepth := 9) -implicitDefEqProofs -dsimp only [go_sem, seval, encW, List.map_cons, List.map_nil, *])) <;> (repeat' refine And.intro ?_ ?_) <;> (first | omega | rfl | assumption | skip)
  · have e : (unP 5 a).run b = ([((foldP xorP 0 a a.length).run b).1], ((foldP xorP 0 a a.length).run b).2) := by
      show ((foldP xorP 0 a a.length).bind fun r => .ret [r]).run b = _
      rw [run_bind]; rfl
    rw [e]
    have c2 := fun o τ h ho => fold_xor bo o b a t τ h ho hs ha hl
    obtain ⟨Z, hZ⟩ : ∃ Z, (foldP xorP 0 a a.length).run b = Z := ⟨_, rfl⟩
    rw [hZ] at c2 ⊢
    clear hu hs ha h1 hl ho h6 e hZ c1
    refine calls_x mixed Tryz.func52 b52 n52 rfl q52 (by simp) ?_; unfold c52 r52
    repeat' (first | simp (maxDischargeDepth := 9) -implicitDefEqProofs -dsimp only [go_sem, seval, *] | ((with_reducible refine Zv ?_ ?_); focus (first | omega | exact rfl)) | ((with_reducible refine Zt (fun oF hoF hnF hnF' => ?_)); (try simp only [upd_none, ne_eq, not_and] at hoF)) | ((with_reducible apply ACalls.one1); (focus ((first | with_reducible refine c2 _ _ ?_ ?_ | with_reducible refine ACalls.flA (c2 _ _ ?_ ?_) ?_) <;> (first | (simp (maxDischargeDepth := 9) -implicitDefEqProofs -dsimp only [go_sem, seval, *]; done) | omega))); (focus (first | trivial | with_reducible exact rfl | (simp (maxDischargeDepth := 9) -implicitDefEqProofs -dsimp only [go_sem, seval]; done)))) | ((with_reducible apply ACalls.newO); (focus ((first | with_reducible refine sl_values a t _ | with_reducible refine ACalls.flA (sl_values a t _) ?_) <;> (first | (simp (maxDischargeDepth := 9) -implicitDefEqProofs -dsimp only [go_sem, seval, *]; done) | omega))); (intro oF hoF hnF hnF'); (try simp only [upd_none, ne_eq, not_and] at hoF)))
    refine fin_eq ?_
    (repeat' (first | simp (maxDischargeDepth := 9) -implicitDefEqProofs -dsimp only [go_sem, seval, encW, List.map_cons, List.map_nil, *])) <;> (repeat' refine And.intro ?_ ?_) <;> (first | omega | rfl | assumption | skip)
  · have e : (unP 6 a).run b = ([turn (gt a 0)], b) := rfl
    rw [e]
    simp only [hu]
    obtain ⟨z, rfl⟩ := List.length_eq_one_iff.1 (h6 rfl)
    have c1 := c1 .no
    clear hu hs ha h1 hl ho h6 e
    refine calls_x mixed Tryz.func52 b52 n52 rfl q52 (by simp) ?_; unfold c52 r52
    repeat' (first | simp (maxDischargeDepth := 9) -implicitDefEqProofs -dsimp only [go_sem, seval, List.map_cons, List.map_nil, *] | ((with_reducible refine Zv ?_ ?_); focus (first | omega | exact rfl)) | ((with_reducible refine Zt (fun oF hoF hnF hnF' => ?_)); (try simp only [upd_none, ne_eq, not_and] at hoF)) | ((with_reducible apply ACalls.one1); (focus ((first | with_reducible refine c1 _ | with_reducible refine ACalls.flA (c1 _) ?_) <;> (first | (simp (maxDischargeDepth := 9) -implicitDefEqProofs -dsimp only [go_sem, seval, *]; done) | omega))); (focus (first | trivial | with_reducible exact rfl | (simp (maxDischargeDepth := 9) -implicitDefEqProofs -dsimp only [go_sem, seval]; done)))))
    refine fin_eq ?_
    (repeat' (first | simp (maxDischargeDepth := 9) -implicitDefEqProofs -dsimp only [go_sem, seval, encW, notW, gt, List.map_cons, List.map_nil, List.getD_cons_zero, *])) <;> (repeat' refine And.intro ?_ ?_) <;> (first | omega | rfl | assumption | skip)
end Go.Proofs.YtbbihmmobfmadaaGreat

namespace Go.Proofs.YtbbihmmobfmadaaGreat
open Abs Fil Fil.Bl A
theorem upd_same {σ : Sig} {o : Nat} {x : AObj} (h : σ o = some x) : upd σ o x = σ := by
  funext k
  by_cases hk : k = o
  · subst hk; simp [upd, h]
  · simp [upd, hk]
theorem r19_keep (o : Nat) (b : Bu) (g' : Aig) (l e' : Int) (σ : Sig) (h : σ o = some (buC b)) (hb : b.e = 0) :
    ACalls Tryz.prog 170 [.ptr o 0, encAig g', .int .i64 l, .int .i64 e'] σ (fun r σ' => r = .ret (.int .i64 (if e' ≠ 0 then 0 else l)) ∧ σ' = upd σ o (buC (if e' ≠ 0 then ⟨b.g, e'⟩ else ⟨g', 0⟩))) := by
  by_cases he : e' = 0
  · subst he
    simp only [ne_eq, not_true_eq_false, if_false]
    refine calls_x mixed Tryz.func170 b170 n170 rfl q170 (by simp) ?_; unfold c170 r170
    repeat' (first | simp (maxDischargeDepth := 9) -implicitDefEqProofs -dsimp only [go_sem, seval, *])
    refine fin_eq ?_
    (repeat' (first | simp (maxDischargeDepth := 9) -implicitDefEqProofs -dsimp only [go_sem, seval, *])) <;> (repeat' refine And.intro ?_ ?_) <;> (first | omega | rfl | assumption | skip)
  · have heb : (e' != 0) = true := by simpa using he
    rw [if_pos he, if_pos he]
    clear he
    refine calls_x mixed Tryz.func170 b170 n170 rfl q170 (by simp) ?_; unfold c170 r170
    repeat' (first | simp (maxDischargeDepth := 9) -implicitDefEqProofs -dsimp only [go_sem, seval, *])
    refine fin_eq ?_
    (repeat' (first | simp (maxDischargeDepth := 9) -implicitDefEqProofs -dsimp only [go_sem, seval, *])) <;> (repeat' refine And.intro ?_ ?_) <;> (first | omega | rfl | assumption | skip)
theorem bu_of0 (o : Bl.Op) (b : Bu) (x y z : Int) {g' : Aig} {l e' : Int} (h : o.ap b.g x y z = (g', l, e')) (hb : b.e = 0) :
    b.op o x y z = (if e' ≠ 0 then 0 else l, if e' ≠ 0 then ⟨b.g, e'⟩ else ⟨g', 0⟩) := by
  rw [bu_of o b x y z h]
  simp only [hb, ne_eq, not_true_eq_false, if_false]
theorem bu_of1 (o : Bl.Op) (b : Bu) (x y z : Int) (hb : b.e ≠ 0) : b.op o x y z = (0, b) := by
  unfold Bu.op
  rw [if_pos hb]
theorem r19_and (o : Nat) (b : Bu) (x y : Int) (σ : Sig) (h : σ o = some (buC b)) (hs : Wf b.g) :
    ACalls Tryz.prog 115 [.ptr o 0, .int .i64 x, .int .i64 y] σ (fun r σ' => r = .ret (.int .i64 (b.op Bl.Op.and x y 0).1) ∧ σ' = upd σ o (buC (b.op Bl.Op.and x y 0).2)) := by
  have c1 := fun τ => ref_And b.g x y τ hs
  obtain ⟨⟨g', l, e'⟩, hr⟩ : ∃ r, b.g.And x y = r := ⟨_, rfl⟩
  rw [hr] at c1
  have h0 := bu_of0 Bl.Op.and b x y 0 hr
  simp only at c1
  clear hr hs
  by_cases hb : b.e = 0
  · have c2 := fun τ h => r19_keep o b g' l e' τ h hb
    rw [h0 hb]
    obtain ⟨L, hL⟩ : ∃ L, (if e' ≠ 0 then (0 : Int) else l) = L := ⟨_, rfl⟩
    obtain ⟨B, hB⟩ : ∃ B, (if e' ≠ 0 then ⟨b.g, e'⟩ else ⟨g', 0⟩ : Bu) = B := ⟨_, rfl⟩
    rw [hL, hB] at c2 ⊢
    clear hL hB h0
    refine calls_x mixed Tryz.func115 b115 n115 rfl q115 (by simp) ?_; unfold c115 r115
    repeat' (first | simp (maxDischargeDepth := 9) -implicitDefEqProofs -dsimp only [go_sem, seval, *] | ((with_reducible refine Zt (fun oF hoF hnF hnF' => ?_)); (try simp only [upd_none, ne_eq, not_and] at hoF)) | ((with_reducible apply ACalls.one1); (focus ((first | with_reducible refine c1 _ | with_reducible refine c2 _ ?_) <;> (first | (simp (maxDischargeDepth := 9) -implicitDefEqProofs -dsimp only [go_sem, seval, *]; done) | omega))); (focus (first | trivial | with_reducible exact rfl | (simp (maxDischargeDepth := 9) -implicitDefEqProofs -dsimp only [go_sem, seval]; done)))))
    refine fin_eq ?_
    (repeat' (first | simp (maxDischargeDepth := 9) -implicitDefEqProofs -dsimp only [go_sem, seval, *])) <;> (repeat' refine And.intro ?_ ?_) <;> (first | omega | rfl | assumption | skip)
  · rw [bu_of1 _ b _ _ _ hb, upd_same h]
    have hbb : (b.e != 0) = true := by simpa using hb
    clear hb c1 h0
    refine calls_x mixed Tryz.func115 b115 n115 rfl q115 (by simp) ?_; unfold c115 r115
    repeat' (first | simp (maxDischargeDepth := 9) -implicitDefEqProofs -dsimp only [go_sem, seval, *] | ((with_reducible refine Zt (fun oF hoF hnF hnF' => ?_)); (try simp only [upd_none, ne_eq, not_and] at hoF)))
    refine fin_eq ?_
    (repeat' (first | simp (maxDischargeDepth := 9) -implicitDefEqProofs -dsimp only [go_sem, seval, *])) <;> (repeat' refine And.intro ?_ ?_) <;> (first | omega | rfl | assumption | skip)
theorem r19_or (o : Nat) (b : Bu) (x y : Int) (σ : Sig) (h : σ o = some (buC b)) (hs : Wf b.g) :
    ACalls Tryz.prog 116 [.ptr o 0, .int .i64 x, .int .i64 y] σ (fun r σ' => r = .ret (.int .i64 (b.op Bl.Op.or x y 0).1) ∧ σ' = upd σ o (buC (b.op Bl.Op.or x y 0).2)) := by
  have c1 := fun τ => ref_Or b.g x y τ hs
  obtain ⟨⟨g', l, e'⟩, hr⟩ : ∃ r, b.g.Or x y = r := ⟨_, rfl⟩
  rw [hr] at c1
  have h0 := bu_of0 Bl.Op.or b x y 0 hr
  simp only at c1
  clear hr hs
  by_cases hb : b.e = 0
  · have c2 := fun τ h => r19_keep o b g' l e' τ h hb
    rw [h0 hb]
    obtain ⟨L, hL⟩ : ∃ L, (if e' ≠ 0 then (0 : Int) else l) = L := ⟨_, rfl⟩
    obtain ⟨B, hB⟩ : ∃ B, (if e' ≠ 0 then ⟨b.g, e'⟩ else ⟨g', 0⟩ : Bu) = B := ⟨_, rfl⟩
    rw [hL, hB] at c2 ⊢
    clear hL hB h0
    refine calls_x mixed Tryz.func116 b116 n116 rfl q116 (by simp) ?_; unfold c116 r116
    repeat' (first | simp (maxDischargeDepth := 9) -implicitDefEqProofs -dsimp only [go_sem, seval, *] | ((with_reducible refine Zt (fun oF hoF hnF hnF' => ?_)); (try simp only [upd_none, ne_eq, not_and] at hoF)) | ((with_reducible apply ACalls.one1); (focus ((first | with_reducible refine c1 _ | with_reducible refine c2 _ ?_) <;> (first | (simp (maxDischargeDepth := 9) -implicitDefEqProofs -dsimp only [go_sem, seval, *]; done) | omega))); (focus (first | trivial | with_reducible exact rfl | (simp (maxDischargeDepth := 9) -implicitDefEqProofs -dsimp only [go_sem, seval]; done)))))
    refine fin_eq ?_
    (repeat' (first | simp (maxDischargeDepth := 9) -implicitDefEqProofs -dsimp only [go_sem, seval, *])) <;> (repeat' refine And.intro ?_ ?_) <;> (first | omega | rfl | assumption | skip)
  · rw [bu_of1 _ b _ _ _ hb, upd_same h]
    have hbb : (b.e != 0) = true := by simpa using hb
    clear hb c1 h0
    refine calls_x mixed Tryz.func116 b116 n116 rfl q116 (by simp) ?_; unfold c116 r116
    repeat' (first | simp (maxDischargeDepth := 9) -implicitDefEqProofs -dsimp only [go_sem, seval, *] | ((with_reducible refine Zt (fun oF hoF hnF hnF' => ?_)); (try simp only [upd_none, ne_eq, not_and] at hoF)))
    refine fin_eq ?_
    (repeat' (first | simp (maxDischargeDepth := 9) -implicitDefEqProofs -dsimp only [go_sem, seval, *])) <;> (repeat' refine And.intro ?_ ?_) <;> (first | omega | rfl | assumption | skip)
theorem r19_xor (o : Nat) (b : Bu) (x y : Int) (σ : Sig) (h : σ o = some (buC b)) (hs : Wf b.g) (hx : I64 x) (hy : I64 y) :
    ACalls Tryz.prog 106 [.ptr o 0, .int .i64 x, .int .i64 y] σ (fun r σ' => r = .ret (.int .i64 (b.op Bl.Op.xor x y 0).1) ∧ σ' = upd σ o (buC (b.op Bl.Op.xor x y 0).2)) := by
  have c1 := fun τ => ref_Xor b.g x y τ hs hx hy
  obtain ⟨⟨g', l, e'⟩, hr⟩ : ∃ r, b.g.Xor x y = r := ⟨_, rfl⟩
  rw [hr] at c1
  have h0 := bu_of0 Bl.Op.xor b x y 0 hr
  simp only at c1
  clear hr hs hx hy
  by_cases hb : b.e = 0
  · have c2 := fun τ h => r19_keep o b g' l e' τ h hb
    rw [h0 hb]
    obtain ⟨L, hL⟩ : ∃ L, (if e' ≠ 0 then (0 : Int) else l) = L := ⟨_, rfl⟩
    obtain ⟨B, hB⟩ : ∃ B, (if e' ≠ 0 then ⟨b.g, e'⟩ else ⟨g', 0⟩ : Bu) = B := ⟨_, rfl⟩
    rw [hL, hB] at c2 ⊢
    clear hL hB h0
    refine calls_x mixed Tryz.func106 b106 n106 rfl q106 (by simp) ?_; unfold c106 r106
    repeat' (first | simp (maxDischargeDepth := 9) -implicitDefEqProofs -dsimp only [go_sem, seval, *] | ((with_reducible refine Zt (fun oF hoF hnF hnF' => ?_)); (try simp only [upd_none, ne_eq, not_and] at hoF)) | ((with_reducible apply ACalls.one1); (focus ((first | with_reducible refine c1 _ | with_reducible refine c2 _ ?_) <;> (first | (simp (maxDischargeDepth := 9) -implicitDefEqProofs -dsimp only [go_sem, seval, *]; done) | omega))); (focus (first | trivial | with_reducible exact rfl | (simp (maxDischargeDepth := 9) -implicitDefEqProofs -dsimp only [go_sem, seval]; done)))))
    refine fin_eq ?_
    (repeat' (first | simp (maxDischargeDepth := 9) -implicitDefEqProofs -dsimp only [go_sem, seval, *])) <;> (repeat' refine And.intro ?_ ?_) <;> (first | omega | rfl | assumption | skip)
  · rw [bu_of1 _ b _ _ _ hb, upd_same h]
    have hbb : (b.e != 0) = true := by simpa using hb
    clear hb c1 h0
    refine calls_x mixed Tryz.func106 b106 n106 rfl q106 (by simp) ?_; unfold c106 r106
    repeat' (first | simp (maxDischargeDepth := 9) -implicitDefEqProofs -dsimp only [go_sem, seval, *] | ((with_reducible refine Zt (fun oF hoF hnF hnF' => ?_)); (try simp only [upd_none, ne_eq, not_and] at hoF)))
    refine fin_eq ?_
    (repeat' (first | simp (maxDischargeDepth := 9) -implicitDefEqProofs -dsimp only [go_sem, seval, *])) <;> (repeat' refine And.intro ?_ ?_) <;> (first | omega | rfl | assumption | skip)
theorem r19_mux (o : Nat) (b : Bu) (c x y : Int) (σ : Sig) (h : σ o = some (buC b)) (hs : Wf b.g) (hc : I64 c) :
    ACalls Tryz.prog 119 [.ptr o 0, .int .i64 c, .int .i64 x, .int .i64 y] σ (fun r σ' => r = .ret (.int .i64 (b.op Bl.Op.mux c x y).1) ∧ σ' = upd σ o (buC (b.op Bl.Op.mux c x y).2)) := by
  have c1 := fun τ => ref_Mux b.g c x y τ hs hc
  obtain ⟨⟨g', l, e'⟩, hr⟩ : ∃ r, b.g.Mux c x y = r := ⟨_, rfl⟩
  rw [hr] at c1
  have h0 := bu_of0 Bl.Op.mux b c x y hr
  simp only at c1
  clear hr hs hc
  by_cases hb : b.e = 0
  · have c2 := fun τ h => r19_keep o b g' l e' τ h hb
    rw [h0 hb]
    obtain ⟨L, hL⟩ : ∃ L, (if e' ≠ 0 then (0 : Int) else l) = L := ⟨_, rfl⟩
    obtain ⟨B, hB⟩ : ∃ B, (if e' ≠ 0 then ⟨b.g, e'⟩ else ⟨g', 0⟩ : Bu) = B := ⟨_, rfl⟩
    rw [hL, hB] at c2 ⊢
    clear hL hB h0
    refine calls_x mixed Tryz.func119 b119 n119 rfl q119 (by simp) ?_; unfold c119 r119
    repeat' (first | simp (maxDischargeDepth := 9) -implicitDefEqProofs -dsimp only [go_sem, seval, *] | ((with_reducible refine Zt (fun oF hoF hnF hnF' => ?_)); (try simp only [upd_none, ne_eq, not_and] at hoF)) | ((with_reducible apply ACalls.one1); (focus ((first | with_reducible refine c1 _ | with_reducible refine c2 _ ?_) <;> (first | (simp (maxDischargeDepth := 9) -implicitDefEqProofs -dsimp only [go_sem, seval, *]; done) | omega))); (focus (first | trivial | with_reducible exact rfl | (simp (maxDischargeDepth := 9) -implicitDefEqProofs -dsimp only [go_sem, seval]; done)))))
    refine fin_eq ?_
    (repeat' (first | simp (maxDischargeDepth := 9) -implicitDefEqProofs -dsimp only [go_sem, seval, *])) <;> (repeat' refine And.intro ?_ ?_) <;> (first | omega | rfl | assumption | skip)
  · rw [bu_of1 _ b _ _ _ hb, upd_same h]
    have hbb : (b.e != 0) = true := by simpa using hb
    clear hb c1 h0
    refine calls_x mixed Tryz.func119 b119 n119 rfl q119 (by simp) ?_; unfold c119 r119
    repeat' (first | simp (maxDischargeDepth := 9) -implicitDefEqProofs -dsimp only [go_sem, seval, *] | ((with_reducible refine Zt (fun oF hoF hnF hnF' => ?_)); (try simp only [upd_none, ne_eq, not_and] at hoF)))
    refine fin_eq ?_
    (repeat' (first | simp (maxDischargeDepth := 9) -implicitDefEqProofs -dsimp only [go_sem, seval, *])) <;> (repeat' refine And.intro ?_ ?_) <;> (first | omega | rfl | assumption | skip)
theorem r19_turned (l : Int) (σ : Sig) (h : 0 ≤ l ∧ l ≤ 1000000000) : ACalls Tryz.prog 105 [.int .i64 l] σ (fun r σ' => r = .ret (.int .i64 (turn l)) ∧ σ' = σ) := by
  have hm : Int.tmod l 2 = l % 2 := Int.tmod_eq_emod_of_nonneg h.1
  obtain ⟨h1, h2⟩ := h
  by_cases hl : l % 2 = 1
  · have e : turn l = l - 1 := by unfold turn; omega
    rw [e]
    have hb : (l % 2 == 1) = true := by rw [hl]; rfl
    refine calls_x mixed Tryz.func105 b105 n105 rfl q105 (by simp) ?_; unfold c105 r105
    repeat' (first | simp (maxDischargeDepth := 9) -implicitDefEqProofs -dsimp only [go_sem, seval, hm, *] | simp (disch := omega) only [wrap64])
    refine fin_eq ?_
    (repeat' (first | simp (maxDischargeDepth := 9) -implicitDefEqProofs -dsimp only [go_sem, seval, *] | simp (disch := omega) only [wrap64])) <;> (repeat' refine And.intro ?_ ?_) <;> (first | omega | rfl | assumption | skip)
  · have e : turn l = l + 1 := by unfold turn; omega
    rw [e]
    have hb : (l % 2 == 1) = false := by simpa using hl
    refine calls_x mixed Tryz.func105 b105 n105 rfl q105 (by simp) ?_; unfold c105 r105
    repeat' (first | simp (maxDischargeDepth := 9) -implicitDefEqProofs -dsimp only [go_sem, seval, hm, *] | simp (disch := omega) only [wrap64])
    refine fin_eq ?_
    (repeat' (first | simp (maxDischargeDepth := 9) -implicitDefEqProofs -dsimp only [go_sem, seval, *] | simp (disch := omega) only [wrap64])) <;> (repeat' refine And.intro ?_ ?_) <;> (first | omega | rfl | assumption | skip)
end Go.Proofs.YtbbihmmobfmadaaGreat

namespace Go.Proofs.YtbbihmmobfmadaaGreat
open Abs Fil Fil.Bl A
def L0 (z : Int) : Prop := 0 ≤ z ∧ z < 1000000
def Lw (x : List Int) : Prop := ∀ z ∈ x, L0 z
theorem L0.i64 {z : Int} (h : L0 z) : I64 z := by unfold L0 at h; unfold I64; omega
theorem Lw.i64 {x : List Int} (h : Lw x) : ∀ z ∈ x, I64 z := fun z hz => (h z hz).i64
theorem L0.turn {z : Int} (h : L0 z) : L0 (turn z) := by unfold L0 Abs.turn at *; omega
theorem Lw.not {x : List Int} (h : Lw x) : Lw (notW x) := by
  intro z hz
  obtain ⟨y, hy, rfl⟩ := List.mem_map.1 hz
  exact (h y hy).turn
theorem Lw.gt {x : List Int} (h : Lw x) (k : Nat) : L0 (Bl.gt x k) := by
  unfold Bl.gt
  rw [List.getD_eq_getElem?_getD]
  cases hk : x[k]? with
  | none => exact ⟨by decide, by decide⟩
  | some z => exact h z (List.mem_of_getElem? hk)
theorem lit_L0 {g : Aig} (hf : Fine g) {a : Int} (h : g.lit a = true) : L0 a := by
  have := hf.cnt
  rw [Aig.lit, litN_iff] at h
  unfold L0
  omega
theorem L0.zero : L0 0 := ⟨by decide, by decide⟩
theorem bu_L0 {b : Bu} (hs : Wf b.g) (o : Bl.Op) (x y z : Int) : L0 (b.op o x y z).1 := by
  unfold Bu.op
  split
  · exact L0.zero
  split
  · exact L0.zero
  · rename_i h1 h2
    obtain ⟨_, k1, _, k2, _⟩ := op_ok hs (o := o) (x := x) (y := y) (z := z) (by omega)
    exact lit_L0 k1.fine k2
theorem Lw.append {x y : List Int} (hx : Lw x) (hy : Lw y) : Lw (x ++ y) := fun z hz => (List.mem_append.1 hz).elim (hx z) (hy z)
theorem Lw.one {z : Int} (h : L0 z) : Lw [z] := fun y hy => by rw [List.mem_singleton.1 hy]; exact h
theorem Lw.nil : Lw [] := fun z h => by simp at h
theorem Lw.zeros (n : Nat) : Lw (List.replicate n 0) := fun z h => by rw [(List.mem_replicate.1 h).2]; exact ⟨by decide, by decide⟩
theorem r19_not (x : List Int) (t : Tok) (σ : Sig) (hx : Lw x) (hl : x.length ≤ 1000000) : ACalls Tryz.prog 101 [encW x t] σ (fun r σ' => r = .ret (encW (notW x) .no) ∧ σ' = σ) := by
  refine calls_x mixed Tryz.func101 b101 n101 rfl q101 (by simp) ?_; unfold c101 r101
  repeat' (first | simp (maxDischargeDepth := 9) -implicitDefEqProofs -dsimp only [go_sem, seval, *] | simp (disch := omega) only [wrap64] | ((with_reducible refine Zt (fun oF hoF hnF hnF' => ?_)); (try simp only [upd_none, ne_eq, not_and] at hoF)))
  refine loop_rule (fun i : Nat => [(4, some (.int .i64 i)), (0, some (encW x t)), (3, some (encW (notW (x.take i)) (.own oF)))]) (fun i => upd σ oF (.grow 1 i)) (fun i => i ≤ x.length) (fun i => x.length - i) 0 ?_ ?_
  · (repeat' (first | simp (maxDischargeDepth := 9) -implicitDefEqProofs -dsimp only [go_sem, seval, encW, notW, List.take_zero, List.map_nil, *] | simp (disch := omega) only [wrap64])) <;> (repeat' refine And.intro ?_ ?_) <;> (first | omega | rfl | assumption | skip)
  intro i hi
  by_cases hlt : i < x.length
  · have hgx : (x.map fun x => AV.int .i64 x)[i]? = some (.int .i64 (Bl.gt x i)) := by simp [Bl.gt, List.getD_eq_getElem?_getD, hlt]
    have z1 := fun τ => r19_turned (Bl.gt x i) τ (by have := hx.gt i; unfold L0 at this; omega)
    have hn : notW (x.take (i + 1)) = notW (x.take i) ++ [turn (Bl.gt x i)] := by
      unfold notW
      rw [List.take_add_one, List.map_append]
      simp [Bl.gt, List.getD_eq_getElem?_getD, hlt]
    have hln : (notW (x.take i)).length = i := by simp [notW]; omega
    have hbd : (i + 1) * 8 ≤ 35184372088832 := by omega
    clear hx
    repeat' (first | simp (maxDischargeDepth := 9) -implicitDefEqProofs -dsimp only [go_sem, seval, List.length_map, *] | simp (disch := omega) only [wrap64] | ((with_reducible refine Zt (fun oF hoF hnF hnF' => ?_)); (try simp only [upd_none, ne_eq, not_and] at hoF)) | ((with_reducible apply ACalls.one1); (focus ((first | with_reducible refine z1 _) <;> (first | (simp (maxDischargeDepth := 9) -implicitDefEqProofs -dsimp only [go_sem, seval, *]; done) | omega))); (focus (first | trivial | with_reducible exact rfl | (simp (maxDischargeDepth := 9) -implicitDefEqProofs -dsimp only [go_sem, seval]; done)))))
    refine loop_next _ _ _ _ (i + 1) ?_; (repeat' (first | simp (maxDischargeDepth := 9) -implicitDefEqProofs -dsimp only [go_sem, seval,  hn, encW, List.map_append, List.map_cons, List.map_nil, *] | simp (disch := omega) only [wrap64])) <;> (repeat' refine And.intro ?_ ?_) <;> (first | omega | rfl | assumption | skip)
  · have : i = x.length := by omega
    subst this
    rw [List.take_length]
    clear hx
    repeat' (first | simp (maxDischargeDepth := 9) -implicitDefEqProofs -dsimp only [go_sem, seval, List.length_map, *] | simp (disch := omega) only [wrap64] | ((with_reducible refine Zt (fun oF hoF hnF hnF' => ?_)); (try simp only [upd_none, ne_eq, not_and] at hoF)))
    refine fin_eq ?_
    (repeat' (first | simp (maxDischargeDepth := 9) -implicitDefEqProofs -dsimp only [go_sem, seval, encW, *] | simp (disch := omega) only [wrap64])) <;> (repeat' refine And.intro ?_ ?_) <;> (first | omega | rfl | assumption | skip)
theorem r19_zeros (n : Nat) (σ : Sig) (hn : n ≤ 1000000) : ACalls Tryz.prog 103 [.int .i64 n] σ (NewO σ (fun o => encW (List.replicate n 0) (.own o)) (.grow 1 n)) := by
  have hb : n * 8 ≤ 35184372088832 := by omega
  refine calls_x mixed Tryz.func103 b103 n103 rfl q103 (by simp) ?_; unfold c103 r103
  repeat' (first | simp (maxDischargeDepth := 9) -implicitDefEqProofs -dsimp only [go_sem, seval, *] | ((with_reducible refine Zv ?_ ?_); focus (first | omega | exact rfl)) | ((with_reducible refine Zt (fun oF hoF hnF hnF' => ?_)); (try simp only [upd_none, ne_eq, not_and] at hoF)))
  refine fin_new oF hoF ?_
  (repeat' (first | simp (maxDischargeDepth := 9) -implicitDefEqProofs -dsimp only [go_sem, seval, encW, List.map_replicate, *])) <;> (repeat' refine And.intro ?_ ?_) <;> (first | omega | rfl | assumption | skip)
theorem r19_all (bo : Nat) (b : Bu) (x : List Int) (t : Tok) (σ : Sig) (h : σ bo = some (buC b)) (hs : Wf b.g) (hl : x.length ≤ 1000000) :
    ACalls Tryz.prog 104 [.ptr bo 0, encW x t] σ (fun r σ' => r = .ret (.int .i64 ((allW x).run b).1) ∧ σ' = upd σ bo (buC ((allW x).run b).2)) := by
  show ACalls Tryz.prog 104 _ σ (fun r σ' => r = .ret (.int .i64 (FoldAt .and 1 x b x.length).1) ∧ σ' = upd σ bo (buC (FoldAt .and 1 x b x.length).2))
  have hw := fold_wf .and x hs (a := 1) ⟨by decide, by decide⟩
  have hnx := fold_next .and 1 x b
  have h0 : FoldAt .and 1 x b 0 = (1, b) := rfl
  obtain ⟨G, hG⟩ : ∃ G, FoldAt .and 1 x b = G := ⟨_, rfl⟩
  rw [hG] at hw hnx h0 ⊢
  clear hG
  refine calls_x mixed Tryz.func104 b104 n104 rfl q104 (by simp) ?_; unfold c104 r104
  repeat' (first | simp (maxDischargeDepth := 9) -implicitDefEqProofs -dsimp only [go_sem, seval, *] | simp (disch := omega) only [wrap64])
  refine loop_rule (fun i : Nat => [(6, some (.int .i64 i)), (1, some (encW x t)), (0, some (.ptr bo 0)), (5, some (.int .i64 (G i).1))]) (fun i => upd σ bo (buC (G i).2)) (fun i => i ≤ x.length) (fun i => x.length - i) 0 ?_ ?_
  · (repeat' (first | simp (maxDischargeDepth := 9) -implicitDefEqProofs -dsimp only [go_sem, seval, h0, *] | simp (disch := omega) only [wrap64])) <;> (repeat' refine And.intro ?_ ?_) <;> (first | omega | rfl | assumption | skip)
  intro i hi
  by_cases hlt : i < x.length
  · have hgx : (x.map fun x => AV.int .i64 x)[i]? = some (.int .i64 (Bl.gt x i)) := by simp [Bl.gt, List.getD_eq_getElem?_getD, hlt]
    have z1 := fun τ h => r19_and bo (G i).2 (G i).1 (Bl.gt x i) τ h (hw i).1
    have hn := hnx i
    rw [← hn] at z1
    clear hw hnx hs hn
    repeat' (first | simp (maxDischargeDepth := 9) -implicitDefEqProofs -dsimp only [go_sem, seval, List.length_map, *] | simp (disch := omega) only [wrap64] | ((with_reducible apply ACalls.one1); (focus ((first | with_reducible refine z1 _ ?_) <;> (first | (simp (maxDischargeDepth := 9) -implicitDefEqProofs -dsimp only [go_sem, seval, *]; done) | omega))); (focus (first | trivial | with_reducible exact rfl | (simp (maxDischargeDepth := 9) -implicitDefEqProofs -dsimp only [go_sem, seval]; done)))))
    refine loop_next _ _ _ _ (i + 1) ?_; (repeat' (first | simp (maxDischargeDepth := 9) -implicitDefEqProofs -dsimp only [go_sem, seval, *] | simp (disch := omega) only [wrap64])) <;> (repeat' refine And.intro ?_ ?_) <;> (first | omega | rfl | assumption | skip)
  · have : i = x.length := by omega
    subst this
    clear hw hnx hs
    repeat' (first | simp (maxDischargeDepth := 9) -implicitDefEqProofs -dsimp only [go_sem, seval, List.length_map, *] | simp (disch := omega) only [wrap64])
    refine fin_eq ?_
    (repeat' (first | simp (maxDischargeDepth := 9) -implicitDefEqProofs -dsimp only [go_sem, seval, *] | simp (disch := omega) only [wrap64])) <;> (repeat' refine And.intro ?_ ?_) <;> (first | omega | rfl | assumption | skip)
theorem full_L0 {x y c : Int} {b : Bu} (hs : Wf b.g) : L0 ((fullP x y c).run b).1.1 ∧ L0 ((fullP x y c).run b).1.2 := by
  rw [full_run x y c b rfl rfl rfl rfl rfl]
  have w1 := bu_wf hs Bl.Op.xor x y 0
  have w2 := bu_wf w1.1 Bl.Op.xor (b.op Bl.Op.xor x y 0).1 c 0
  have w3 := bu_wf w2.1 Bl.Op.and x y 0
  have w4 := bu_wf w3.1 Bl.Op.and (b.op Bl.Op.xor x y 0).1 c 0
  exact ⟨bu_L0 w1.1 _ _ _ _, bu_L0 w4.1 _ _ _ _⟩
theorem sum_L0 {x y : List Int} {c : Int} {b : Bu} (hs : Wf b.g) (hc : L0 c) : ∀ k, L0 (SumAt x y c b k).1.2 ∧ Lw (SumAt x y c b k).1.1
  | 0 => ⟨hc, .nil⟩
  | k + 1 => by
    have h1 := (sum_wf (x := x) (y := y) hs hc.i64 k).1
    rw [sum_next]
    have h5 := full_L0 (x := Bl.gt x k) (y := Bl.gt y k) (c := (SumAt x y c b k).1.2) h1
    exact ⟨h5.2, (sum_L0 hs hc k).2.append (.one h5.1)⟩
set_option maxHeartbeats 4000000 in
theorem r19_sum (bo : Nat) (b : Bu) (x y : List Int) (tx ty : Tok) (c : Int) (σ : Sig) (h : σ bo = some (buC b)) (hs : Wf b.g) (hx : ∀ z ∈ x, I64 z) (hy : ∀ z ∈ y, I64 z) (hc : I64 c) (hlen : x.length ≤ y.length) (hxl : x.length ≤ 1000000) :
    ACalls Tryz.prog 102 [.ptr bo 0, encW x tx, encW y ty, .int .i64 c] σ (fun r σ' => r = .ret (.tup [encW ((sumW x y c).run b).1.1 .no, .int .i64 ((sumW x y c).run b).1.2]) ∧ σ' = upd σ bo (buC ((sumW x y c).run b).2)) := by
  show ACalls Tryz.prog 102 _ σ (fun r σ' => r = .ret (.tup [encW (SumAt x y c b x.length).1.1 .no, .int .i64 (SumAt x y c b x.length).1.2]) ∧ σ' = upd σ bo (buC (SumAt x y c b x.length).2))
  have hw := sum_wf (x := x) (y := y) hs hc
  have hnx := sum_next x y c b
  have h0 : SumAt x y c b 0 = (([], c), b) := rfl
  obtain ⟨G, hG⟩ : ∃ G, SumAt x y c b = G := ⟨_, rfl⟩
  rw [hG] at hw hnx h0 ⊢
  clear hG
  refine calls_x mixed Tryz.func102 b102 n102 rfl q102 (by simp) ?_; unfold c102 r102
  repeat' (first | simp (maxDischargeDepth := 9) -implicitDefEqProofs -dsimp only [go_sem, seval, *] | simp (disch := omega) only [wrap64] | ((with_reducible refine Zt (fun oF hoF hnF hnF' => ?_)); (try simp only [upd_none, ne_eq, not_and] at hoF)))
  refine loop_rule (fun i : Nat => [(11, some (.int .i64 i)), (1, some (encW x tx)), (0, some (.ptr bo 0)), (2, some (encW y ty)), (10, some (encW (G i).1.1 (.own oF))), (3, some (.int .i64 (G i).1.2))]) (fun i => upd (upd σ bo (buC (G i).2)) oF (.grow 1 i)) (fun i => i ≤ x.length) (fun i => x.length - i) 0 ?_ ?_
  · have nb : ¬ bo = oF := fun e => by rw [e, hoF] at h; simp at h
    have nb' := Ne.symm nb
    (repeat' (first | simp (maxDischargeDepth := 9) -implicitDefEqProofs -dsimp only [go_sem, seval, h0, encW, List.map_nil, *] | simp (disch := omega) only [wrap64])) <;> (repeat' refine And.intro ?_ ?_) <;> (first | omega | rfl | assumption | skip)
  intro i hi
  have nb : ¬ bo = oF := fun e => by rw [e, hoF] at h; simp at h
  have nb' := Ne.symm nb
  by_cases hlt : i < x.length
  · have hgx : (x.map fun x => AV.int .i64 x)[i]? = some (.int .i64 (Bl.gt x i)) := by simp [Bl.gt, List.getD_eq_getElem?_getD, hlt]
    have hgy : (y.map fun x => AV.int .i64 x)[i]? = some (.int .i64 (Bl.gt y i)) := by simp [Bl.gt, List.getD_eq_getElem?_getD, show i < y.length by omega]
    have hix := i64_gt hx i
    have hiy := i64_gt hy i
    obtain ⟨w0, wc, wl, _⟩ := hw i
    have hn := hnx i
    obtain ⟨⟨⟨out, c⟩, b⟩, hS⟩ : ∃ S, G i = S := ⟨_, rfl⟩
    rw [hS] at hn w0 wc wl ⊢
    simp only at hn w0 wc wl ⊢
    obtain ⟨X, hX⟩ : ∃ X, Bl.gt x i = X := ⟨_, rfl⟩
    obtain ⟨Y, hY⟩ : ∃ Y, Bl.gt y i = Y := ⟨_, rfl⟩
    rw [hX] at hgx hix hn
    rw [hY] at hgy hiy hn
    obtain ⟨r1, e1⟩ : ∃ r, b.op Bl.Op.xor X Y 0 = r := ⟨_, rfl⟩
    have w1 := bu_wf w0 Bl.Op.xor X Y 0
    have z1 := fun τ h => r19_xor bo b X Y τ h w0 hix hiy
    rw [e1] at w1 z1
    obtain ⟨r2, e2⟩ : ∃ r, r1.2.op Bl.Op.xor r1.1 c 0 = r := ⟨_, rfl⟩
    have w2 := bu_wf w1.1 Bl.Op.xor r1.1 c 0
    have z2 := fun τ h => r19_xor bo r1.2 r1.1 c τ h w1.1 w1.2 wc
    rw [e2] at w2 z2
    obtain ⟨r3, e3⟩ : ∃ r, r2.2.op Bl.Op.and X Y 0 = r := ⟨_, rfl⟩
    have w3 := bu_wf w2.1 Bl.Op.and X Y 0
    have z3 := fun τ h => r19_and bo r2.2 X Y τ h w2.1
    rw [e3] at w3 z3
    obtain ⟨r4, e4⟩ : ∃ r, r3.2.op Bl.Op.and r1.1 c 0 = r := ⟨_, rfl⟩
    have w4 := bu_wf w3.1 Bl.Op.and r1.1 c 0
    have z4 := fun τ h => r19_and bo r3.2 r1.1 c τ h w3.1
    rw [e4] at w4 z4
    obtain ⟨r5, e5⟩ : ∃ r, r4.2.op Bl.Op.or r3.1 r4.1 0 = r := ⟨_, rfl⟩
    have z5 := fun τ h => r19_or bo r4.2 r3.1 r4.1 τ h w4.1
    rw [e5] at z5
    rw [full_run X Y c b e1 e2 e3 e4 e5] at hn
    obtain ⟨a1, b1⟩ := r1
    obtain ⟨a2, b2⟩ := r2
    obtain ⟨a3, b3⟩ := r3
    obtain ⟨a4, b4⟩ := r4
    obtain ⟨a5, b5⟩ := r5
    simp only at z1 z2 z3 z4 z5 hn
    have hbd : (i + 1) * 8 ≤ 35184372088832 := by omega
    clear e1 e2 e3 e4 e5 w1 w2 w3 w4 hs hx hy hc hw hnx h0 hix hiy wc w0 hX hY hS
    repeat' (first | simp (maxDischargeDepth := 9) -implicitDefEqProofs -dsimp only [go_sem, seval, List.length_map, *] | simp (disch := omega) only [wrap64] | ((with_reducible refine Zt (fun oF hoF hnF hnF' => ?_)); (try simp only [upd_none, ne_eq, not_and] at hoF)) | ((with_reducible apply ACalls.one1); (focus ((first | with_reducible refine z1 _ ?_ | with_reducible refine z2 _ ?_ | with_reducible refine z3 _ ?_ | with_reducible refine z4 _ ?_ | with_reducible refine z5 _ ?_) <;> (first | (simp (maxDischargeDepth := 9) -implicitDefEqProofs -dsimp only [go_sem, seval, *]; done) | omega))); (focus (first | trivial | with_reducible exact rfl | (simp (maxDischargeDepth := 9) -implicitDefEqProofs -dsimp only [go_sem, seval]; done)))) | ((with_reducible apply id_one1); (focus (intro tS hS; ((first | with_reducible refine z1 _ ?_ | with_reducible refine z2 _ ?_ | with_reducible refine z3 _ ?_ | with_reducible refine z4 _ ?_ | with_reducible refine z5 _ ?_) <;> (first | (simp (maxDischargeDepth := 9) -implicitDefEqProofs -dsimp only [go_sem, seval, *]; done) | omega | ((with_reducible refine Sub.get hS ?_); simp (maxDischargeDepth := 9) -implicitDefEqProofs -dsimp only [go_sem, seval, *]; done))))); (focus (first | trivial | (simp (maxDischargeDepth := 9) -implicitDefEqProofs -dsimp only [go_sem, seval, *]; done)))))
    refine loop_next _ _ _ _ (i + 1) ?_; (repeat' (first | simp (maxDischargeDepth := 9) -implicitDefEqProofs -dsimp only [go_sem, seval,  hn, encW, List.map_append, List.map_cons, List.map_nil, *] | simp (disch := omega) only [wrap64])) <;> (repeat' refine And.intro ?_ ?_) <;> (first | omega | rfl | assumption | skip)
  · have : i = x.length := by omega
    subst this
    clear hw hnx hs hx hy
    repeat' (first | simp (maxDischargeDepth := 9) -implicitDefEqProofs -dsimp only [go_sem, seval, List.length_map, *] | simp (disch := omega) only [wrap64] | ((with_reducible refine Zt (fun oF hoF hnF hnF' => ?_)); (try simp only [upd_none, ne_eq, not_and] at hoF)))
    refine fin_eq ?_
    (repeat' (first | simp (maxDischargeDepth := 9) -implicitDefEqProofs -dsimp only [go_sem, seval, encW, *] | simp (disch := omega) only [wrap64])) <;> (repeat' refine And.intro ?_ ?_) <;> (first | omega | rfl | assumption | skip)
end Go.Proofs.YtbbihmmobfmadaaGreat

