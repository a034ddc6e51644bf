/- bdd: plain law: what is there stays; once more nothing is put. No program in sight. -/
import Derived.Test.YtjichkelfhcbcaaGreatBddLook
set_option linter.unusedSimpArgs false
set_option linter.unusedVariables false
namespace Go.Proofs.YtjichkelfhcbcaaGreat.B
open Abs Fil Fil.Bd
theorem getD_b (l : List Bool) (i : Nat) (h : i < l.length) : l[i] = l.getD i false := by simp [List.getD_eq_getElem?_getD, h]
theorem unflat_bool : ∀ (l : List Bool) (n : Nat), n = l.length → unflat false 1 n (l.map encBool) = some (l.map encBool)
  | [], n, h => by subst h; rfl
  | x :: l, n, h => by
    subst h
    simp only [List.length_cons, unflat, List.map_cons, List.take_succ_cons, List.take_zero, List.drop_succ_cons, List.drop_zero, mkv, unflat_bool l l.length rfl]
    rfl
theorem put_bool (l : List Bool) (i : Nat) (v : Bool) (h : i < l.length) : Abs.putAt (l.map encBool) i [.bool v] = (l.set i v).map encBool := by
  have h1 : (l.set i v).map encBool = (l.map encBool).set i (encBool v) := by rw [List.map_set]
  rw [h1, List.set_eq_take_append_cons_drop]
  simp [Abs.putAt, h]
theorem rep_bool (n : Nat) : (List.replicate n [AV.bool false]).flatten = (List.replicate n false).map encBool := by
  induction n with
  | zero => rfl
  | succ n ih => simp only [List.replicate_succ, List.flatten_cons, ih, List.map_cons]; rfl
set_option maxHeartbeats 1000000 in
theorem bdd_One (b : D) (f : Int) (σ : Sig) (hl : b.2.length ≤ 9223372036854775807) :
    ACalls Tryz.prog 12 [encB b.1 b.2, .int .i64 f] σ (fun r σ' => r = .ret (.tup [.slice ((oneW b f).1.map encBool) .no, .bool (oneW b f).2.1, .int .i64 (oneW b f).2.2]) ∧ σ' = σ) := by
  refine calls_x mixed Tryz.func12 b12 n12 rfl q12 (by simp) ?_; unfold c12 r12
  obtain ⟨e, he⟩ : ∃ e, chk b.1 b.2 = e := ⟨_, rfl⟩
  by_cases h0 : e = 0
  · subst h0
    have hf := chk_fine.1 he
    cases hof : [f].any (outside b.2) with
    | true =>
      have hw : oneW b f = ([], false, 1) := by unfold oneW; rw [ask_arg hf (by simp [hof]), if_pos (by decide)]
      rw [hw]
      have ez : ((1 : Int) != 0) = true := by decide
      repeat' (first | simp (maxDischargeDepth := 9) -implicitDefEqProofs -dsimp only [go_sem, seval, *] | ((with_reducible refine Zv ?_ ?_); focus (first | omega | exact rfl)) | ((with_reducible refine Zu ?_ ?_); focus omega) | ((with_reducible refine Zt (fun oF hoF hnF hnF' => ?_)); clear hnF hnF'; (try simp only [Zw, ne_eq] at hoF)) | ((with_reducible apply ACalls.one1); (focus ((first | with_reducible refine bdd_asked_arg b.1 b.2 [f] _ hf ?_ hof | with_reducible refine ACalls.flA (bdd_asked_arg b.1 b.2 [f] _ hf ?_ hof) ?_) <;> (first | (simp (maxDischargeDepth := 9) -implicitDefEqProofs -dsimp only [go_sem, seval, *]; done) | omega))); (focus (first | trivial | with_reducible exact rfl | (simp (maxDischargeDepth := 9) -implicitDefEqProofs -dsimp only [go_sem, seval]; done)))))
      refine fin_eq ?_
      (repeat' (first | simp (maxDischargeDepth := 9) -implicitDefEqProofs -dsimp only [go_sem, seval, List.map_nil, *])) <;> (repeat' refine And.intro ?_ ?_) <;> (first | omega | rfl | assumption | skip)
    | false =>
    have hof' : outside b.2 f = false := by simpa using hof
    have i := out_In hof' hf.toOk
    have hask : askE b [f] false = 0 := ask_ok hf (by simp [hof'])
    have ez : ((0 : Int) != 0) = false := by decide
    by_cases hf0 : f = 0
    · subst hf0
      have hw : oneW b 0 = ([], false, 0) := by unfold oneW; rw [hask, if_neg (by simp), if_pos rfl]
      rw [hw]
      repeat' (first | simp (maxDischargeDepth := 9) -implicitDefEqProofs -dsimp only [go_sem, seval, *] | ((with_reducible refine Zv ?_ ?_); focus (first | omega | exact rfl)) | ((with_reducible refine Zu ?_ ?_); focus omega) | ((with_reducible refine Zt (fun oF hoF hnF hnF' => ?_)); clear hnF hnF'; (try simp only [Zw, ne_eq] at hoF)))
      refine newMac4 (ACalls.flA (bdd_asked_yes b.1 b.2 [0] _ hf (by simp) hof) (by simp (maxDischargeDepth := 9) -implicitDefEqProofs -dsimp only [go_sem, seval, *]; done)) fun m t a d hne q1 q2 q3 q4 => ?_
      have hne' := hne
      obtain ⟨e1, e2, e3, e4, e5, e6, f1, f2, f3, f4, f5, f6⟩ := hne'
      repeat' (first | simp (maxDischargeDepth := 9) -implicitDefEqProofs -dsimp only [go_sem, seval, *] | ((with_reducible refine Zv ?_ ?_); focus (first | omega | exact rfl)) | ((with_reducible refine Zu ?_ ?_); focus omega) | ((with_reducible refine Zt (fun oF hoF hnF hnF' => ?_)); clear hnF hnF'; (try simp only [Zw, ne_eq] at hoF)))
      refine fin_eq ?_
      (repeat' (first | simp (maxDischargeDepth := 9) -implicitDefEqProofs -dsimp only [go_sem, seval, List.map_nil, *])) <;> (repeat' refine And.intro ?_ ?_) <;> (first | omega | rfl | assumption | skip)
    · have hw : oneW b f = (one1 b.2 f.toNat f (List.replicate b.1.toNat false), true, 0) := by unfold oneW; rw [hask, if_neg (by simp), if_neg hf0]
      obtain ⟨R, hR⟩ : ∃ R, one1 b.2 f.toNat f (List.replicate b.1.toNat false) = R := ⟨_, rfl⟩
      rw [hw, hR]
      clear hw
      have hfb : (f == 0) = false := by simpa using hf0
      have hlo := hf.lo
      have hfew := hf.few
      have i1 := i.1
      have i2 := i.2.1
      repeat' (first | simp (maxDischargeDepth := 9) -implicitDefEqProofs -dsimp only [go_sem, seval, *] | ((with_reducible refine Zv ?_ ?_); focus (first | omega | exact rfl)) | ((with_reducible refine Zu ?_ ?_); focus omega) | ((with_reducible refine Zt (fun oF hoF hnF hnF' => ?_)); clear hnF hnF'; (try simp only [Zw, ne_eq] at hoF)))
      refine newMac4 (ACalls.flA (bdd_asked_yes b.1 b.2 [f] _ hf (by simp) hof) (by simp (maxDischargeDepth := 9) -implicitDefEqProofs -dsimp only [go_sem, seval, *]; done)) fun m t a d hne q1 q2 q3 q4 => ?_
      have hne' := hne
      obtain ⟨e1, e2, e3, e4, e5, e6, f1, f2, f3, f4, f5, f6⟩ := hne'
      clear hne
      have hbl : b.1 * 1 ≤ 35184372088832 := by omega
      repeat' (first | simp (maxDischargeDepth := 9) -implicitDefEqProofs -dsimp only [go_sem, seval, *] | ((with_reducible refine Zv ?_ ?_); focus (first | omega | exact rfl)) | ((with_reducible refine Zu ?_ ?_); focus omega) | ((with_reducible refine Zt (fun oF hoF hnF hnF' => ?_)); clear hnF hnF'; (try simp only [Zw, ne_eq] at hoF)))
      refine loop_rule (fun x : Int × List Bool => [(1, some (.int .i64 x.1)), (7, some (.ptr m 0)), (9, some (.vec oF b.1.toNat))]) (fun x => upd (upd σ m (machT b.1 b.2 (.own t) a d)) oF (.vec 1 b.1.toNat (x.2.map encBool)))
        (fun x => 0 ≤ x.1 ∧ x.1 < b.2.length ∧ x.2.length = b.1.toNat ∧ ∃ k : Nat, x.1 ≤ k ∧ one1 b.2 k x.1 x.2 = R) (fun x => x.1.toNat) (f, List.replicate b.1.toNat false) ?_ ?_
      · refine ⟨?_, ?_, i1, i2, by simp, f.toNat, by show f ≤ _; omega, hR⟩
        · (repeat' (first | simp (maxDischargeDepth := 9) -implicitDefEqProofs -dsimp only [go_sem, seval, *])) <;> (repeat' refine And.intro ?_ ?_) <;> (first | omega | rfl | assumption | skip)
        · (repeat' (first | simp (maxDischargeDepth := 9) -implicitDefEqProofs -dsimp only [go_sem, seval, rep_bool, *])) <;> (repeat' refine And.intro ?_ ?_) <;> (first | omega | rfl | assumption | skip)
      · rintro ⟨x, l⟩ ⟨x1, x2, xl, k, x3, x4⟩
        simp only at x1 x2 xl x3 x4
        by_cases hx : 2 ≤ x
        · obtain ⟨k, rfl⟩ : ∃ j, k = j + 1 := ⟨k - 1, by omega⟩
          have hx1 : 1 < x := by omega
          have hx2 : ¬ x < 2 := by omega
          have hv := hf.var x hx x2
          have hlow := hf.low x hx x2
          have hhi := hf.high x hx x2
          obtain ⟨v1, v2⟩ := hv
          obtain ⟨l1, l2, _⟩ := hlow
          obtain ⟨u1, u2, _⟩ := hhi
          have hvl : (frk b.2 x).1.toNat < l.length := by omega
          have hvb : (frk b.2 x).1.toNat < b.1.toNat := by omega
          rw [one1, if_neg hx2] at x4
          by_cases hb : (frk b.2 x).2.1 = 0
          · rw [if_pos hb] at x4
            have hbb : ((frk b.2 x).2.1 == 0) = true := by simpa using hb
            have hp : List.take ((frk b.2 x).1.toNat * 1) (l.map encBool) ++ [AV.bool true] ++ List.drop ((frk b.2 x).1.toNat * 1 + 1) (l.map encBool) = (l.set (frk b.2 x).1.toNat true).map encBool := by
              have := put_bool l (frk b.2 x).1.toNat true hvl
              simpa [Abs.putAt] using this
            repeat' (first | simp (maxDischargeDepth := 9) -implicitDefEqProofs -dsimp only [go_sem, seval, gt_iff_lt, *] | ((with_reducible refine Zv ?_ ?_); focus (first | omega | exact rfl)) | ((with_reducible refine Zu ?_ ?_); focus omega) | ((with_reducible refine Zt (fun oF hoF hnF hnF' => ?_)); clear hnF hnF'; (try simp only [Zw, ne_eq] at hoF)))
            refine loop_next _ _ _ _ ((frk b.2 x).2.2, l.set (frk b.2 x).1.toNat true) ⟨?_, ?_, ⟨u1, by show (frk b.2 x).2.2 < _; omega, by simp [xl], k, by show (frk b.2 x).2.2 ≤ _; omega, x4⟩, by show (frk b.2 x).2.2.toNat < x.toNat; omega⟩
            · (repeat' (first | simp (maxDischargeDepth := 9) -implicitDefEqProofs -dsimp only [go_sem, seval, *])) <;> (repeat' refine And.intro ?_ ?_) <;> (first | omega | rfl | assumption | skip)
            · (repeat' (first | simp (maxDischargeDepth := 9) -implicitDefEqProofs -dsimp only [go_sem, seval, *])) <;> (repeat' refine And.intro ?_ ?_) <;> (first | omega | rfl | assumption | skip)
          · rw [if_neg hb] at x4
            have hbb : ((frk b.2 x).2.1 == 0) = false := by simpa using hb
            repeat' (first | simp (maxDischargeDepth := 9) -implicitDefEqProofs -dsimp only [go_sem, seval, gt_iff_lt, *] | ((with_reducible refine Zv ?_ ?_); focus (first | omega | exact rfl)) | ((with_reducible refine Zu ?_ ?_); focus omega) | ((with_reducible refine Zt (fun oF hoF hnF hnF' => ?_)); clear hnF hnF'; (try simp only [Zw, ne_eq] at hoF)))
            refine loop_next _ _ _ _ ((frk b.2 x).2.1, l) ⟨?_, ?_, ⟨l1, by show (frk b.2 x).2.1 < _; omega, xl, k, by show (frk b.2 x).2.1 ≤ _; omega, x4⟩, by show (frk b.2 x).2.1.toNat < x.toNat; omega⟩
            · (repeat' (first | simp (maxDischargeDepth := 9) -implicitDefEqProofs -dsimp only [go_sem, seval, *])) <;> (repeat' refine And.intro ?_ ?_) <;> (first | omega | rfl | assumption | skip)
            · (repeat' (first | simp (maxDischargeDepth := 9) -implicitDefEqProofs -dsimp only [go_sem, seval, *])) <;> (repeat' refine And.intro ?_ ?_) <;> (first | omega | rfl | assumption | skip)
        · have hx1 : ¬ 1 < x := by omega
          have hu := unflat_bool l b.1.toNat xl.symm
          rw [one1_end (by omega)] at x4
          subst x4
          repeat' (first | simp (maxDischargeDepth := 9) -implicitDefEqProofs -dsimp only [go_sem, seval, gt_iff_lt, implies_true, *] | ((with_reducible refine Zv ?_ ?_); focus (first | omega | exact rfl)) | ((with_reducible refine Zu ?_ ?_); focus omega) | ((with_reducible refine Zt (fun oF hoF hnF hnF' => ?_)); clear hnF hnF'; (try simp only [Zw, ne_eq] at hoF)))
          refine fin_eq ?_
          (repeat' (first | simp (maxDischargeDepth := 9) -implicitDefEqProofs -dsimp only [go_sem, seval, *])) <;> (repeat' refine And.intro ?_ ?_) <;> (first | omega | rfl | assumption | skip)
  · have hw : oneW b f = ([], false, e) := by unfold oneW; rw [ask_err he h0, if_pos h0]
    rw [hw]
    have hb : (e != 0) = true := by simpa using h0
    repeat' (first | simp (maxDischargeDepth := 9) -implicitDefEqProofs -dsimp only [go_sem, seval, *] | ((with_reducible refine Zv ?_ ?_); focus (first | omega | exact rfl)) | ((with_reducible refine Zu ?_ ?_); focus omega) | ((with_reducible refine Zt (fun oF hoF hnF hnF' => ?_)); clear hnF hnF'; (try simp only [Zw, ne_eq] at hoF)) | ((with_reducible apply ACalls.one1); (focus ((first | with_reducible refine bdd_asked_no b.1 b.2 [f] _ hl e he h0 | with_reducible refine ACalls.flA (bdd_asked_no b.1 b.2 [f] _ hl e he h0) ?_) <;> (first | (simp (maxDischargeDepth := 9) -implicitDefEqProofs -dsimp only [go_sem, seval, *]; done) | omega))); (focus (first | trivial | with_reducible exact rfl | (simp (maxDischargeDepth := 9) -implicitDefEqProofs -dsimp only [go_sem, seval]; done)))))
    refine fin_eq ?_
    (repeat' (first | simp (maxDischargeDepth := 9) -implicitDefEqProofs -dsimp only [go_sem, seval, List.map_nil, *])) <;> (repeat' refine And.intro ?_ ?_) <;> (first | omega | rfl | assumption | skip)
end Go.Proofs.YtjichkelfhcbcaaGreat.B

namespace Fil.Bd
def cnt (t : List Bool) : Int := ((t.count true : Nat) : Int)
def cn (vars : Int) (F : List T3) (n : Int) : Int := cnt (tab F (vars - top vars F n).toNat (top vars F n) n)
end Fil.Bd

namespace Go.Proofs.YtjichkelfhcbcaaGreat.B
open Abs Fil Fil.Bd
theorem eq3 (x y : T3) : (x.1 == y.1 && (x.2.1 == y.2.1 && x.2.2 == y.2.2)) = decide (x = y) := by
  rw [Bool.eq_iff_iff]
  simp only [Bool.and_eq_true, beq_iff_eq, decide_eq_true_eq]
  exact ⟨fun ⟨a, b, c⟩ => Prod.ext a (Prod.ext b c), fun e => by subst e; exact ⟨rfl, rfl, rfl⟩⟩
def newW (v : Int) : D × Int := if v < 0 then ((0, []), 1) else if 32 < v then ((0, []), 2) else ((v, [(-1, 0, 0), (-1, 0, 0)]), 0)
theorem bdd_New (v : Int) (σ : Sig) : ACalls Tryz.prog 17 [.int .i64 v] σ (fun r σ' => r = .ret (.tup [encB (newW v).1.1 (newW v).1.2, .int .i64 (newW v).2]) ∧ σ' = σ) := by
  refine calls_x mixed Tryz.func17 b17 n17 rfl q17 (by simp) ?_; unfold c17 r17
  by_cases h1 : v < 0
  · have hw : newW v = ((0, []), 1) := by unfold newW; rw [if_pos h1]
    rw [hw]
    repeat' (first | simp (maxDischargeDepth := 9) -implicitDefEqProofs -dsimp only [go_sem, seval, gt_iff_lt, *] | ((with_reducible refine Zt (fun oF hoF hnF hnF' => ?_)); clear hnF hnF'; (try simp only [Zw, ne_eq] at hoF)))
    refine fin_eq ?_
    (repeat' (first | simp (maxDischargeDepth := 9) -implicitDefEqProofs -dsimp only [go_sem, seval, List.map_nil, *])) <;> (repeat' refine And.intro ?_ ?_) <;> (first | omega | rfl | assumption | skip)
  by_cases h2 : 32 < v
  · have hw : newW v = ((0, []), 2) := by unfold newW; rw [if_neg h1, if_pos h2]
    rw [hw]
    repeat' (first | simp (maxDischargeDepth := 9) -implicitDefEqProofs -dsimp only [go_sem, seval, gt_iff_lt, *] | ((with_reducible refine Zt (fun oF hoF hnF hnF' => ?_)); clear hnF hnF'; (try simp only [Zw, ne_eq] at hoF)))
    refine fin_eq ?_
    (repeat' (first | simp (maxDischargeDepth := 9) -implicitDefEqProofs -dsimp only [go_sem, seval, List.map_nil, *])) <;> (repeat' refine And.intro ?_ ?_) <;> (first | omega | rfl | assumption | skip)
  · have hw : newW v = ((v, [(-1, 0, 0), (-1, 0, 0)]), 0) := by unfold newW; rw [if_neg h1, if_neg h2]
    rw [hw]
    repeat' (first | simp (maxDischargeDepth := 9) -implicitDefEqProofs -dsimp only [go_sem, seval, gt_iff_lt, *] | ((with_reducible refine Zt (fun oF hoF hnF hnF' => ?_)); clear hnF hnF'; (try simp only [Zw, ne_eq] at hoF)))
    refine fin_eq ?_
    (repeat' (first | simp (maxDischargeDepth := 9) -implicitDefEqProofs -dsimp only [go_sem, seval, List.map_nil, List.map_cons, *])) <;> (repeat' refine And.intro ?_ ?_) <;> (first | omega | rfl | assumption | skip)
theorem ref_New (v : Int) (σ : Sig) : ACalls Tryz.prog 42 [.int .i64 v] σ (fun r σ' => r = .ret (.tup [encB (newW v).1.1 (newW v).1.2, .int .i64 (newW v).2]) ∧ σ' = σ) := by
  refine calls_x mixed Tryz.func42 b42 n42 rfl q42 (by simp) ?_; unfold c42 r42
  by_cases h1 : v < 0
  · have hw : newW v = ((0, []), 1) := by unfold newW; rw [if_pos h1]
    rw [hw]
    repeat' (first | simp (maxDischargeDepth := 9) -implicitDefEqProofs -dsimp only [go_sem, seval, gt_iff_lt, *] | ((with_reducible refine Zt (fun oF hoF hnF hnF' => ?_)); clear hnF hnF'; (try simp only [Zw, ne_eq] at hoF)))
    refine fin_eq ?_
    (repeat' (first | simp (maxDischargeDepth := 9) -implicitDefEqProofs -dsimp only [go_sem, seval, List.map_nil, *])) <;> (repeat' refine And.intro ?_ ?_) <;> (first | omega | rfl | assumption | skip)
  by_cases h2 : 32 < v
  · have hw : newW v = ((0, []), 2) := by unfold newW; rw [if_neg h1, if_pos h2]
    rw [hw]
    repeat' (first | simp (maxDischargeDepth := 9) -implicitDefEqProofs -dsimp only [go_sem, seval, gt_iff_lt, *] | ((with_reducible refine Zt (fun oF hoF hnF hnF' => ?_)); clear hnF hnF'; (try simp only [Zw, ne_eq] at hoF)))
    refine fin_eq ?_
    (repeat' (first | simp (maxDischargeDepth := 9) -implicitDefEqProofs -dsimp only [go_sem, seval, List.map_nil, *])) <;> (repeat' refine And.intro ?_ ?_) <;> (first | omega | rfl | assumption | skip)
  · have hw : newW v = ((v, [(-1, 0, 0), (-1, 0, 0)]), 0) := by unfold newW; rw [if_neg h1, if_neg h2]
    rw [hw]
    repeat' (first | simp (maxDischargeDepth := 9) -implicitDefEqProofs -dsimp only [go_sem, seval, gt_iff_lt, *] | ((with_reducible refine Zt (fun oF hoF hnF hnF' => ?_)); clear hnF hnF'; (try simp only [Zw, ne_eq] at hoF)))
    refine fin_eq ?_
    (repeat' (first | simp (maxDischargeDepth := 9) -implicitDefEqProofs -dsimp only [go_sem, seval, List.map_nil, List.map_cons, *])) <;> (repeat' refine And.intro ?_ ?_) <;> (first | omega | rfl | assumption | skip)
theorem ref_below (vars : Int) (F : List T3) (n v i : Int) (σ : Sig) (hi : i ≤ F.length) :
    ACalls Tryz.prog 99 [encB vars F, .int .i64 n, .int .i64 v, .int .i64 i] σ (fun r σ' => r = .ret (.bool (und F n v i)) ∧ σ' = σ) := by
  refine calls_x mixed Tryz.func99 b99 n99 rfl q99 (by simp) ?_; unfold c99 r99
  repeat' (first | simp (maxDischargeDepth := 9) -implicitDefEqProofs -dsimp only [go_sem, seval, *] | (with_reducible (first | apply Za | apply Zb) <;> intro hq) | ((with_reducible refine Zu ?_ ?_); focus omega))
  all_goals refine fin_eq ?_
  all_goals (repeat' (first | simp (maxDischargeDepth := 9) -implicitDefEqProofs -dsimp only [go_sem, seval, und, *])) <;> (repeat' refine And.intro ?_ ?_) <;> (first | omega | rfl | assumption | skip)
theorem ref_fork (vars : Int) (F : List T3) (j : Nat) (σ : Sig) (h : j + 2 < F.length) (hl : F.length ≤ 65536) :
    ACalls Tryz.prog 77 [encB vars F, .int .i64 ((j : Int) + 2)] σ (fun r σ' => r = .ret (.bool (!bad vars F j)) ∧ σ' = σ) := by
  refine calls_x mixed Tryz.func77 b77 n77 rfl q77 (by simp) ?_; unfold c77 r77
  obtain ⟨x, hx⟩ : ∃ x, frk F ((j : Int) + 2) = x := ⟨_, rfl⟩
  have hj2 : (j : Int) + 2 ≤ F.length := by omega
  have hj3 : (j : Int) + 2 < F.length := by omega
  have hj0 : 0 ≤ (j : Int) + 2 := by omega
  by_cases c : 0 ≤ x.1 ∧ x.1 < vars ∧ x.2.1 ≠ x.2.2 ∧ und F x.2.1 x.1 (j + 2) = true ∧ und F x.2.2 x.1 (j + 2) = true
  · obtain ⟨c1, c2, c3, c4, c5⟩ := c
    have b1 : ¬ x.1 < 0 := by omega
    have b2 : ¬ vars ≤ x.1 := by omega
    have b3 : (x.2.1 == x.2.2) = false := by simpa using c3
    have hbad : bad vars F j = false ↔ ∀ i, i < j → frk F ((i : Int) + 2) ≠ x := by
      rw [bad_iff, hx]
      exact ⟨fun q => q.1, fun q => ⟨q, c1, c2, c3, c4, c5⟩⟩
    repeat' (first | simp (maxDischargeDepth := 9) -implicitDefEqProofs -dsimp only [go_sem, seval, ge_iff_le, *] | simp (disch := omega) only [wrap64] | (with_reducible (first | apply Zb | apply Zk | apply Zp | apply Zr) <;> intro hq) | ((with_reducible refine Zv ?_ ?_); focus (first | omega | exact rfl)) | ((with_reducible refine Zu ?_ ?_); focus omega) | ((with_reducible refine Zt (fun oF hoF hnF hnF' => ?_)); clear hnF hnF'; (try simp only [Zw, ne_eq] at hoF)) | ((with_reducible apply ACalls.one1); (focus ((first | with_reducible refine ref_below vars F _ _ _ _ hj2) <;> (first | (simp (maxDischargeDepth := 9) -implicitDefEqProofs -dsimp only [go_sem, seval, *]; done) | omega))); (focus (first | trivial | with_reducible exact rfl | (simp (maxDischargeDepth := 9) -implicitDefEqProofs -dsimp only [go_sem, seval]; done)))))
    all_goals first | (exfalso; omega) | skip
    refine loop_rule (fun i : Nat => [(6, some (.int .i64 ((i : Int) + 2))), (1, some (.int .i64 ((j : Int) + 2))), (2, some (.cptr [.int .i64 vars, .slice (F.map encF) .no])), (5, some (.ptr oF 0))]) (fun _ => upd σ oF (.cells [.int .i64 x.1, .int .i64 x.2.1, .int .i64 x.2.2])) (fun i => i ≤ j ∧ ∀ k : Nat, k < i → frk F ((k : Int) + 2) ≠ x) (fun i => j - i) 0 ?_ ?_
    · (repeat' (first | simp (maxDischargeDepth := 9) -implicitDefEqProofs -dsimp only [go_sem, seval, *] | simp (disch := omega) only [wrap64])) <;> (repeat' refine And.intro ?_ ?_) <;> (first | omega | rfl | assumption | skip)
    · rintro i ⟨hi, hall⟩
      by_cases hlt : i < j
      · have hi2 : (i : Int) + 2 < (j : Int) + 2 := by omega
        have hi3 : (i : Int) + 2 < F.length := by omega
        by_cases he : frk F ((i : Int) + 2) = x
        · have be : decide (frk F ((i : Int) + 2) = x) = true := by simpa using he
          have hb : bad vars F j = true := by
            rw [← Bool.not_eq_false]
            exact fun e => hbad.1 e i hlt he
          rw [hb]
          clear hall hbad he
          repeat' (first | simp (maxDischargeDepth := 9) -implicitDefEqProofs -dsimp only [go_sem, seval, eq3, *] | simp (disch := omega) only [wrap64] | (with_reducible (first | apply Zb | apply Zk | apply Zp | apply Zr) <;> intro hq) | ((with_reducible refine Zv ?_ ?_); focus (first | omega | exact rfl)) | ((with_reducible refine Zu ?_ ?_); focus omega) | ((with_reducible refine Zt (fun oF hoF hnF hnF' => ?_)); clear hnF hnF'; (try simp only [Zw, ne_eq] at hoF)))
          refine fin_eq ?_
          (repeat' (first | simp (maxDischargeDepth := 9) -implicitDefEqProofs -dsimp only [go_sem, seval, Bool.not_true, *] | simp (disch := omega) only [wrap64])) <;> (repeat' refine And.intro ?_ ?_) <;> (first | omega | rfl | assumption | skip)
        · have be : decide (frk F ((i : Int) + 2) = x) = false := by simpa using he
          have hall' : ∀ k : Nat, k < i + 1 → frk F ((k : Int) + 2) ≠ x := fun k hk => by
            rcases Nat.lt_or_ge k i with c | c
            · exact hall k c
            · have : k = i := by omega
              rw [this]; exact he
          clear hall hbad he
          repeat' (first | simp (maxDischargeDepth := 9) -implicitDefEqProofs -dsimp only [go_sem, seval, eq3, *] | simp (disch := omega) only [wrap64] | (with_reducible (first | apply Zb | apply Zk | apply Zp | apply Zr) <;> intro hq) | ((with_reducible refine Zv ?_ ?_); focus (first | omega | exact rfl)) | ((with_reducible refine Zu ?_ ?_); focus omega) | ((with_reducible refine Zt (fun oF hoF hnF hnF' => ?_)); clear hnF hnF'; (try simp only [Zw, ne_eq] at hoF)))
          have ei : ((i + 1 : Nat) : Int) + 2 = (i : Int) + 2 + 1 := by omega
          refine loop_next _ _ _ _ (i + 1) ?_; (repeat' (first | simp (maxDischargeDepth := 9) -implicitDefEqProofs -dsimp only [go_sem, seval,  ei, *] | simp (disch := omega) only [wrap64])) <;> (repeat' refine And.intro ?_ ?_) <;> (first | omega | rfl | assumption | skip)
      · have hb : bad vars F j = false := hbad.2 fun k hk => hall k (by omega)
        rw [hb]
        have hi2 : ¬ (i : Int) + 2 < (j : Int) + 2 := by omega
        clear hall hbad
        repeat' (first | simp (maxDischargeDepth := 9) -implicitDefEqProofs -dsimp only [go_sem, seval, *] | simp (disch := omega) only [wrap64] | (with_reducible (first | apply Zb | apply Zk | apply Zp | apply Zr) <;> intro hq) | ((with_reducible refine Zv ?_ ?_); focus (first | omega | exact rfl)) | ((with_reducible refine Zu ?_ ?_); focus omega) | ((with_reducible refine Zt (fun oF hoF hnF hnF' => ?_)); clear hnF hnF'; (try simp only [Zw, ne_eq] at hoF)))
        refine fin_eq ?_
        (repeat' (first | simp (maxDischargeDepth := 9) -implicitDefEqProofs -dsimp only [go_sem, seval, Bool.not_false, *] | simp (disch := omega) only [wrap64])) <;> (repeat' refine And.intro ?_ ?_) <;> (first | omega | rfl | assumption | skip)
  · have hb : bad vars F j = true := by
      rw [← Bool.not_eq_false]
      intro e
      rw [bad_iff, hx] at e
      exact c e.2
    rw [hb]
    clear hb
    repeat' (first | simp (maxDischargeDepth := 9) -implicitDefEqProofs -dsimp only [go_sem, seval, ge_iff_le, *] | simp (disch := omega) only [wrap64] | (with_reducible (first | apply Zb | apply Zk | apply Zp | apply Zr) <;> intro hq) | ((with_reducible refine Zv ?_ ?_); focus (first | omega | exact rfl)) | ((with_reducible refine Zu ?_ ?_); focus omega) | ((with_reducible refine Zt (fun oF hoF hnF hnF' => ?_)); clear hnF hnF'; (try simp only [Zw, ne_eq] at hoF)) | ((with_reducible apply ACalls.one1); (focus ((first | with_reducible refine ref_below vars F _ _ _ _ hj2) <;> (first | (simp (maxDischargeDepth := 9) -implicitDefEqProofs -dsimp only [go_sem, seval, *]; done) | omega))); (focus (first | trivial | with_reducible exact rfl | (simp (maxDischargeDepth := 9) -implicitDefEqProofs -dsimp only [go_sem, seval]; done)))))
    all_goals first | (with_reducible refine fin_eq ?_; (repeat' (first | simp (maxDischargeDepth := 9) -implicitDefEqProofs -dsimp only [go_sem, seval, Bool.not_true, *] | simp (disch := omega) only [wrap64])) <;> (repeat' refine And.intro ?_ ?_) <;> (first | omega | rfl | assumption | skip); done) | skip
    exfalso
    rename_i w1 w2 w3 w4
    exact c ⟨by omega, by omega, w3.1, w4, hq⟩
end Go.Proofs.YtjichkelfhcbcaaGreat.B

namespace Go.Proofs.YtjichkelfhcbcaaGreat.B
open Abs Fil Fil.Bd
theorem ref_Check (vars : Int) (F : List T3) (σ : Sig) (hl : F.length ≤ 9223372036854775807) :
    ACalls Tryz.prog 46 [encB vars F] σ (fun r σ' => r = .ret (.int .i64 (chk vars F)) ∧ σ' = σ) := by
  refine calls_x mixed Tryz.func46 b46 n46 rfl q46 (by simp) ?_; unfold c46 r46
  by_cases h1 : 65536 < F.length
  · have hc : chk vars F = 220 := by unfold chk; rw [if_pos h1]
    have h1' : (65536 : Int) < F.length := by omega
    rw [hc]
    repeat' (first | simp (maxDischargeDepth := 9) -implicitDefEqProofs -dsimp only [go_sem, seval, gt_iff_lt, *] | simp (disch := omega) only [wrap64] | (with_reducible (first | apply Zb | apply Zc | apply Zp | apply Zr) <;> intro hq) | ((with_reducible refine Zu ?_ ?_); focus omega) | ((with_reducible refine Zt (fun oF hoF hnF hnF' => ?_)); clear hnF hnF'; (try simp only [Zw, ne_eq] at hoF)))
    refine fin_eq ?_
    (repeat' (first | simp (maxDischargeDepth := 9) -implicitDefEqProofs -dsimp only [go_sem, seval, *] | simp (disch := omega) only [wrap64])) <;> (repeat' refine And.intro ?_ ?_) <;> (first | omega | rfl | assumption | skip)
  have h1' : ¬ (65536 : Int) < F.length := by omega
  cases hh : head vars F with
  | true =>
    have hc : chk vars F = 1 := by unfold chk; rw [if_neg h1, if_pos hh]
    rw [hc]
    simp only [head, Bool.or_eq_true, decide_eq_true_eq] at hh
    clear hc
    repeat' (first | simp (maxDischargeDepth := 9) -implicitDefEqProofs -dsimp only [go_sem, seval, gt_iff_lt, *] | simp (disch := omega) only [wrap64] | (with_reducible (first | apply Zb | apply Zc | apply Zp | apply Zr) <;> intro hq) | ((with_reducible refine Zu ?_ ?_); focus omega) | ((with_reducible refine Zt (fun oF hoF hnF hnF' => ?_)); clear hnF hnF'; (try simp only [Zw, ne_eq] at hoF)))
    all_goals first | (with_reducible refine fin_eq ?_; (repeat' (first | simp (maxDischargeDepth := 9) -implicitDefEqProofs -dsimp only [go_sem, seval, *] | simp (disch := omega) only [wrap64])) <;> (repeat' refine And.intro ?_ ?_) <;> (first | omega | rfl | assumption | skip); done) | skip
    exfalso
    rename_i q1 q2 q3 q4
    simp only [Bool.and_eq_true, beq_iff_eq] at hq q4
    rcases hh with (((h1 | h1) | h1) | h1) | h1
    · exact absurd h1 (by omega)
    · exact absurd h1 (by omega)
    · exact absurd h1 (by omega)
    · exact h1 (Prod.ext q4.1 (Prod.ext q4.2.1 q4.2.2))
    · exact h1 (Prod.ext hq.1 (Prod.ext hq.2.1 hq.2.2))
  | false =>
    obtain ⟨k1, k2, k3, k4, k5⟩ := begin_facts (by omega) hh
    have w1 : ¬ vars < 0 := by omega
    have w2 : ¬ 32 < vars := by omega
    have w3 : ¬ (F.length : Int) < 2 := by omega
    have hle : F.length ≤ 65536 := by omega
    repeat' (first | simp (maxDischargeDepth := 9) -implicitDefEqProofs -dsimp only [go_sem, seval, gt_iff_lt, *] | simp (disch := omega) only [wrap64] | (with_reducible (first | apply Zb | apply Zc | apply Zp | apply Zr) <;> intro hq) | ((with_reducible refine Zu ?_ ?_); focus omega) | ((with_reducible refine Zt (fun oF hoF hnF hnF' => ?_)); clear hnF hnF'; (try simp only [Zw, ne_eq] at hoF)))
    all_goals first | (exfalso; omega) | skip
    refine loop_rule (fun i : Nat => [(4, some (.int .i64 ((i : Int) + 2))), (1, some (.cptr [.int .i64 vars, .slice (F.map encF) .no]))]) (fun _ => σ) (fun i => i ≤ F.length - 2 ∧ ∀ k : Nat, k < i → bad vars F k = false) (fun i => F.length - 2 - i) 0 ?_ ?_
    · (repeat' (first | simp (maxDischargeDepth := 9) -implicitDefEqProofs -dsimp only [go_sem, seval, *] | simp (disch := omega) only [wrap64])) <;> (repeat' refine And.intro ?_ ?_) <;> (first | omega | rfl | assumption | skip)
    · rintro i ⟨hi, hall⟩
      by_cases hlt : i < F.length - 2
      · have hi2 : (i : Int) + 2 < F.length := by omega
        have hi3 : i + 2 < F.length := by omega
        cases hb : bad vars F i with
        | true =>
          have hc : chk vars F = 1 := by
            unfold chk
            rw [if_neg h1, if_neg (by simp [hh]), if_pos]
            simp only [List.any_eq_true, List.mem_range]
            exact ⟨i, hlt, hb⟩
          rw [hc]
          clear hall hc
          repeat' (first | simp (maxDischargeDepth := 9) -implicitDefEqProofs -dsimp only [go_sem, seval, *] | simp (disch := omega) only [wrap64] | (with_reducible (first | apply Zb | apply Zc | apply Zp | apply Zr) <;> intro hq) | ((with_reducible refine Zu ?_ ?_); focus omega) | ((with_reducible refine Zt (fun oF hoF hnF hnF' => ?_)); clear hnF hnF'; (try simp only [Zw, ne_eq] at hoF)) | ((with_reducible apply ACalls.one1); (focus ((first | with_reducible refine ref_fork vars F i _ hi3 hle) <;> (first | (simp (maxDischargeDepth := 9) -implicitDefEqProofs -dsimp only [go_sem, seval, *]; done) | omega))); (focus (first | trivial | with_reducible exact rfl | (simp (maxDischargeDepth := 9) -implicitDefEqProofs -dsimp only [go_sem, seval]; done)))))
          refine fin_eq ?_
          (repeat' (first | simp (maxDischargeDepth := 9) -implicitDefEqProofs -dsimp only [go_sem, seval, *] | simp (disch := omega) only [wrap64])) <;> (repeat' refine And.intro ?_ ?_) <;> (first | omega | rfl | assumption | skip)
        | false =>
          have hall' : ∀ k : Nat, k < i + 1 → bad vars F k = false := fun k hk => by
            rcases Nat.lt_or_ge k i with c | c
            · exact hall k c
            · have : k = i := by omega
              rw [this]; exact hb
          clear hall
          have ei : ((i + 1 : Nat) : Int) + 2 = (i : Int) + 2 + 1 := by omega
          repeat' (first | simp (maxDischargeDepth := 9) -implicitDefEqProofs -dsimp only [go_sem, seval, *] | simp (disch := omega) only [wrap64] | (with_reducible (first | apply Zb | apply Zc | apply Zp | apply Zr) <;> intro hq) | ((with_reducible refine Zu ?_ ?_); focus omega) | ((with_reducible refine Zt (fun oF hoF hnF hnF' => ?_)); clear hnF hnF'; (try simp only [Zw, ne_eq] at hoF)) | ((with_reducible apply ACalls.one1); (focus ((first | with_reducible refine ref_fork vars F i _ hi3 hle) <;> (first | (simp (maxDischargeDepth := 9) -implicitDefEqProofs -dsimp only [go_sem, seval, *]; done) | omega))); (focus (first | trivial | with_reducible exact rfl | (simp (maxDischargeDepth := 9) -implicitDefEqProofs -dsimp only [go_sem, seval]; done)))))
          refine loop_next _ _ _ _ (i + 1) ?_; (repeat' (first | simp (maxDischargeDepth := 9) -implicitDefEqProofs -dsimp only [go_sem, seval,  ei, *] | simp (disch := omega) only [wrap64])) <;> (repeat' refine And.intro ?_ ?_) <;> (first | omega | rfl | assumption | skip)
      · have hc : chk vars F = 0 := by
          unfold chk
          rw [if_neg h1, if_neg (by simp [hh]), if_neg]
          simp only [List.any_eq_true, List.mem_range, not_exists, not_and, Bool.not_eq_true]
          exact fun k hk => hall k (by omega)
        rw [hc]
        have hi2 : ¬ (i : Int) + 2 < F.length := by omega
        clear hall hc
        repeat' (first | simp (maxDischargeDepth := 9) -implicitDefEqProofs -dsimp only [go_sem, seval, *] | simp (disch := omega) only [wrap64] | (with_reducible (first | apply Zb | apply Zc | apply Zp | apply Zr) <;> intro hq) | ((with_reducible refine Zu ?_ ?_); focus omega) | ((with_reducible refine Zt (fun oF hoF hnF hnF' => ?_)); clear hnF hnF'; (try simp only [Zw, ne_eq] at hoF)))
        refine fin_eq ?_
        (repeat' (first | simp (maxDischargeDepth := 9) -implicitDefEqProofs -dsimp only [go_sem, seval, *] | simp (disch := omega) only [wrap64])) <;> (repeat' refine And.intro ?_ ?_) <;> (first | omega | rfl | assumption | skip)
def few (b : D) (n : Int) : Bool := decide (b.1 ≤ n ∧ (b.2.length : Int) ≤ 300 ∨ b.1 < 0 ∨ 32 < b.1 ∧ (b.2.length : Int) ≤ 300 ∨ 65536 < (b.2.length : Int))
end Go.Proofs.YtjichkelfhcbcaaGreat.B

namespace Fil.Bd
def lookT : List Bool → List Bool → Bool
  | t, [] => t.headD false
  | t, x :: w => lookT (if x then t.drop (2 ^ w.length) else t.take (2 ^ w.length)) w
theorem lookT_two {a b : List Bool} {x : Bool} {w : List Bool} (h : a.length = 2 ^ w.length) : lookT (a ++ b) (x :: w) = lookT (if x then b else a) w := by
  simp only [lookT]
  rw [List.drop_left' h, List.take_left' h]
theorem iteT_take : ∀ (n : Nat) (a b c : List Bool), (iteT a b c).take n = iteT (a.take n) (b.take n) (c.take n)
  | 0, a, b, c => by simp [iteT]
  | n + 1, [], b, c => by simp [iteT]
  | n + 1, x :: a, [], c => by simp [iteT]
  | n + 1, x :: a, y :: b, [] => by simp [iteT]
  | n + 1, x :: a, y :: b, z :: c => by simp [iteT, iteT_take n a b c]
theorem iteT_drop : ∀ (n : Nat) (a b c : List Bool), (iteT a b c).drop n = iteT (a.drop n) (b.drop n) (c.drop n)
  | 0, a, b, c => by simp
  | n + 1, [], b, c => by simp [iteT]
  | n + 1, x :: a, [], c => by
    have : ∀ d : List Bool, iteT d [] (c.drop (n + 1)) = [] := fun d => by cases d <;> rfl
    simp [iteT, this]
  | n + 1, x :: a, y :: b, [] => by
    have : ∀ d e : List Bool, iteT d e [] = [] := fun d e => by cases d <;> cases e <;> rfl
    simp [iteT, this]
  | n + 1, x :: a, y :: b, z :: c => by simp [iteT, iteT_drop n a b c]
theorem lookT_ite : ∀ (w a b c : List Bool), a.length = 2 ^ w.length → b.length = 2 ^ w.length → c.length = 2 ^ w.length → lookT (iteT a b c) w = if lookT a w then lookT b w else lookT c w
  | [], a, b, c, h1, h2, h3 => by
    match a, b, c, h1, h2, h3 with
    | [x], [y], [z], _, _, _ => simp [lookT, iteT]
  | x :: w, a, b, c, h1, h2, h3 => by
    have hp : 2 ^ (x :: w).length = 2 * 2 ^ w.length := by rw [List.length_cons, Nat.pow_succ]; omega
    simp only [lookT]
    cases x
    · simp only [Bool.false_eq_true, if_false]
      rw [iteT_take, lookT_ite w _ _ _ (by simp; omega) (by simp; omega) (by simp; omega)]
    · simp only [if_true]
      rw [iteT_drop, lookT_ite w _ _ _ (by simp; omega) (by simp; omega) (by simp; omega)]
theorem drop_cons {inp : List Bool} {v : Int} (h0 : 0 ≤ v) (h : v < inp.length) : inp.drop v.toNat = inp.getD v.toNat false :: inp.drop (v + 1).toNat := by
  rw [show (v + 1).toNat = v.toNat + 1 by omega, List.getD_eq_getElem?_getD, List.getElem?_eq_getElem (by omega : v.toNat < inp.length)]
  simp
theorem eval_tab {vars : Int} {F : List T3} {inp : List Bool} (ho : Ok vars F) (hl : (inp.length : Int) = vars) : ∀ (k K : Nat) (v n : Int), 0 ≤ v → v + k = vars → In vars F v n → n ≤ K → lookT (tab F k v n) (inp.drop v.toNat) = evf F inp K n
  | 0, K, v, n, h0, hv, hn, hK => by
    have e : v = vars := by omega
    have hd : inp.drop v.toNat = [] := List.drop_of_length_le (by omega)
    have hn2 := (e ▸ hn : In vars F vars n).end ho
    rw [hd, evf_end (by omega)]
    simp only [lookT, tab, List.headD_cons]
    rfl
  | k + 1, K, v, n, h0, hv, hn, hK => by
    have hwl : (inp.drop (v + 1).toNat).length = k := by rw [List.length_drop]; omega
    rw [drop_cons h0 (by omega)]
    by_cases c : 2 ≤ n ∧ (frk F n).1 = v
    · obtain ⟨K, rfl⟩ : ∃ j, K = j + 1 := ⟨K - 1, by omega⟩
      have hlo := hn.lo ho c
      have hhi := hn.hi ho c
      have l1 := ho.low n c.1 hn.2.1
      have l2 := ho.high n c.1 hn.2.1
      rw [tab_at c, lookT_two (by rw [tab_len, hwl]), evf_step c.1]
      unfold nx
      rw [c.2]
      cases inp.getD v.toNat false
      · simpa using eval_tab ho hl k K (v + 1) _ (by omega) (by omega) hlo (by omega)
      · simpa using eval_tab ho hl k K (v + 1) _ (by omega) (by omega) hhi (by omega)
    · rw [tab_up c, lookT_two (by rw [tab_len, hwl]), if_same]
      exact eval_tab ho hl k K (v + 1) n (by omega) (by omega) (hn.up ho hv c) hK
  where if_same : ∀ {b : Bool} {x : List Bool}, (if b then x else x) = x := fun {b x} => by cases b <;> rfl
theorem fine_of {vars : Int} {F l : List T3} (hf : Fine vars F) (ho : Ok vars (F ++ l)) (hl : (F ++ l).length ≤ 65536) : Fine vars (F ++ l) := by
  have h2 := hf.two
  exact ⟨ho, hf.few, hl, by rw [frk_app (by omega) (by omega)]; exact hf.end0, by rw [frk_app (by omega) (by omega)]; exact hf.end1⟩
theorem in_out {vars : Int} {F : List T3} {v n : Int} (h : In vars F v n) : outside F n = false := by
  simp [outside, h.1, h.2.1]
theorem T_len (b : D) (f : Int) : (T b f).length = 2 ^ b.1.toNat := tab_len ..
end Fil.Bd

namespace Fil.Bd
def bit (i k : Nat) : Bool := (i / 2 ^ k % 2 == 1)
def row (k i : Nat) : List Bool := (List.range k).map fun j => bit i (k - 1 - j)
theorem row_len (k i : Nat) : (row k i).length = k := by simp [row]
theorem row_succ (k i : Nat) : row (k + 1) i = bit i k :: row k i := by
  unfold row
  rw [List.range_succ_eq_map, List.map_cons, List.map_map]
  refine List.cons_eq_cons.mpr ⟨by simp, List.map_congr_left fun j hj => ?_⟩
  simp only [Function.comp_apply]
  congr 1; omega
theorem row_get (k i j : Nat) (h : j < k) : (row k i).getD j false = bit i (k - 1 - j) := by
  simp [row, List.getD_eq_getElem?_getD, h]
theorem mod_succ (i k : Nat) : i % 2 ^ (k + 1) = (if bit i k then 2 ^ k else 0) + i % 2 ^ k := by
  rw [Nat.mod_pow_succ]
  unfold bit
  rcases Nat.mod_two_eq_zero_or_one (i / 2 ^ k) with h | h <;> simp [h]
  omega
theorem getD_app_l {a b : List Bool} {i : Nat} (h : i < a.length) : (a ++ b).getD i false = a.getD i false := by
  simp only [List.getD_eq_getElem?_getD]; rw [List.getElem?_append_left h]
theorem getD_app_r {a b : List Bool} {i : Nat} (h : a.length ≤ i) : (a ++ b).getD i false = b.getD (i - a.length) false := by
  simp only [List.getD_eq_getElem?_getD]; rw [List.getElem?_append_right h]
theorem lookT_row : ∀ (k i : Nat) (t : List Bool), t.length = 2 ^ k → lookT t (row k i) = t.getD (i % 2 ^ k) false
  | 0, i, t, h => by
    match t, h with
    | [x], _ => simp [row, lookT, Nat.mod_one]
  | k + 1, i, t, h => by
    have hp : 2 ^ (k + 1) = 2 * 2 ^ k := by rw [Nat.pow_succ]; omega
    have hm : i % 2 ^ k < 2 ^ k := Nat.mod_lt _ (Nat.two_pow_pos k)
    rw [row_succ, mod_succ]
    simp only [lookT, row_len]
    have e1 : (t.take (2 ^ k)).length = 2 ^ k := by simp; omega
    have e2 : (t.drop (2 ^ k)).length = 2 ^ k := by simp; omega
    have ht : t = t.take (2 ^ k) ++ t.drop (2 ^ k) := (List.take_append_drop _ _).symm
    cases hb : bit i k
    · simp only [Bool.false_eq_true, if_false, Nat.zero_add]
      rw [lookT_row k i _ e1]
      conv => rhs; rw [ht]
      rw [getD_app_l (by omega)]
    · simp only [if_true]
      rw [lookT_row k i _ e2]
      conv => rhs; rw [ht]
      rw [getD_app_r (by omega), e1, Nat.add_sub_cancel_left]
theorem take_getD {t : List Bool} {i : Nat} (h : i < t.length) : t.take (i + 1) = t.take i ++ [t.getD i false] := by
  rw [List.take_add_one, List.getElem?_eq_getElem h]
  simp [List.getD_eq_getElem?_getD, h]
theorem evf_row {vars : Nat} {F : List T3} {f : Int} (ho : Ok vars F) (h : In vars F 0 f) {i : Nat} (hi : i < 2 ^ vars) : evf F (row vars i) f.toNat f = (tab F vars 0 f).getD i false := by
  have := eval_tab (inp := row vars i) ho (by simp [row_len]) vars f.toNat 0 f (by omega) (by omega) h (by have := h.1; omega)
  simp only [Int.toNat_zero, List.drop_zero] at this
  rw [← this, lookT_row vars i _ (tab_len ..), Nat.mod_eq_of_lt hi]
theorem iteT_getD : ∀ (i : Nat) (a b c : List Bool), b.length = a.length → c.length = a.length → (iteT a b c).getD i false = if a.getD i false then b.getD i false else c.getD i false
  | i, [], b, c, h1, h2 => by
    have e1 : b = [] := List.length_eq_zero_iff.1 (by simpa using h1)
    have e2 : c = [] := List.length_eq_zero_iff.1 (by simpa using h2)
    subst e1 e2; simp [iteT]
  | 0, x :: a, y :: b, z :: c, h1, h2 => by simp [iteT]
  | i + 1, x :: a, y :: b, z :: c, h1, h2 => by
    have := iteT_getD i a b c (by simpa using h1) (by simpa using h2)
    simpa [iteT] using this
theorem varT_getD : ∀ (k d i : Nat), d < k → i < 2 ^ k → (varT k d).getD i false = bit i (k - 1 - d)
  | k + 1, 0, i, h, hi => by
    have hp : 2 ^ (k + 1) = 2 * 2 ^ k := by rw [Nat.pow_succ]; omega
    simp only [varT, bit, show k + 1 - 1 - 0 = k by omega]
    by_cases c : i < 2 ^ k
    · rw [getD_app_l (by simpa using c), Nat.div_eq_of_lt c]
      simp [List.getD_eq_getElem?_getD, c]
    · have hq : i / 2 ^ k = 1 := by
        have : i = 2 ^ k + (i - 2 ^ k) := by omega
        rw [this, Nat.add_div_left _ (Nat.two_pow_pos k), Nat.div_eq_of_lt (by omega)]
      rw [getD_app_r (by simpa using c), hq]
      have : i - 2 ^ k < 2 ^ k := by omega
      simp [List.getD_eq_getElem?_getD, this]
  | k + 1, d + 1, i, h, hi => by
    have hp : 2 ^ (k + 1) = 2 * 2 ^ k := by rw [Nat.pow_succ]; omega
    have hl : (varT k d).length = 2 ^ k := len k d (by omega)
    have e : k + 1 - 1 - (d + 1) = k - 1 - d := by omega
    simp only [varT]
    rw [e]
    by_cases c : i < 2 ^ k
    · rw [getD_app_l (by omega), varT_getD k d i (by omega) c]
    · rw [getD_app_r (by omega), hl, varT_getD k d _ (by omega) (by omega)]
      have : i = 2 ^ k + (i - 2 ^ k) := by omega
      obtain ⟨j, hj⟩ : ∃ j, i - 2 ^ k = j := ⟨_, rfl⟩
      rw [hj] at this ⊢
      subst this
      unfold bit
      obtain ⟨m, hm⟩ : ∃ m, k = (k - 1 - d) + (m + 1) := ⟨d, by omega⟩
      have : (2 ^ k + j) / 2 ^ (k - 1 - d) = 2 * 2 ^ m + j / 2 ^ (k - 1 - d) := by
        have e2 : 2 ^ k = 2 ^ (k - 1 - d) * (2 * 2 ^ m) := by
          conv => lhs; rw [hm, Nat.pow_add, Nat.pow_succ, Nat.mul_comm (2 ^ m) 2]
        rw [e2, Nat.mul_add_div (Nat.two_pow_pos _)]
      rw [this]
      congr 1; omega
where
  len : ∀ (k d : Nat), d < k → (varT k d).length = 2 ^ k
    | k + 1, 0, _ => by simp [varT]; rw [Nat.pow_succ]; omega
    | k + 1, d + 1, h => by simp [varT, len k d (by omega)]; rw [Nat.pow_succ]; omega
theorem put_len : ∀ (k : Nat) (F : List T3) (v : Int) (t : List Bool), (put k F v t).1.length + 1 ≤ F.length + 2 ^ k
  | 0, F, v, t => by simp [put]
  | k + 1, F, v, t => by
    have hp : 2 ^ (k + 1) = 2 * 2 ^ k := by rw [Nat.pow_succ]; omega
    have h1 := put_len k F (v + 1) (t.take (2 ^ k))
    have h2 := put_len k (put k F (v + 1) (t.take (2 ^ k))).1 (v + 1) (t.drop (2 ^ k))
    have := Nat.two_pow_pos k
    simp only [put]
    split
    · omega
    · split
      · simp only; omega
      · simp only [List.length_append, List.length_cons, List.length_nil]; omega
theorem put_grow : ∀ (k : Nat) (F : List T3) (v : Int) (t : List Bool), F.length ≤ (put k F v t).1.length
  | 0, F, v, t => by simp [put]
  | k + 1, F, v, t => by
    have h1 := put_grow k F (v + 1) (t.take (2 ^ k))
    have h2 := put_grow k (put k F (v + 1) (t.take (2 ^ k))).1 (v + 1) (t.drop (2 ^ k))
    simp only [put]
    split
    · omega
    · split
      · simp only; omega
      · simp only [List.length_append, List.length_cons, List.length_nil]; omega
theorem fnd_first : ∀ (l : List T3) (x : T3) (i : Int) (j : Nat), j < l.length → l.getD j (0, 0, 0) = x → (∀ k, k < j → l.getD k (0, 0, 0) ≠ x) → fnd l x i = some (i + j)
  | [], x, i, j, h, _, _ => by simp at h
  | y :: l, x, i, 0, h, e, _ => by simp at e; simp [fnd, e]
  | y :: l, x, i, j + 1, h, e, hn => by
    have h0 : y ≠ x := by simpa using hn 0 (by omega)
    simp only [fnd, if_neg h0]
    rw [fnd_first l x (i + 1) j (by simpa using h) (by simpa using e) fun k hk => by simpa using hn (k + 1) (by omega)]
    congr 1; omega
theorem fnd_no : ∀ (l : List T3) (x : T3) (i : Int), (∀ k, k < l.length → l.getD k (0, 0, 0) ≠ x) → fnd l x i = none
  | [], x, i, _ => rfl
  | y :: l, x, i, hn => by
    have h0 : y ≠ x := by simpa using hn 0 (by simp)
    simp only [fnd, if_neg h0]
    exact fnd_no l x (i + 1) fun k hk => by simpa using hn (k + 1) (by simpa using hk)
theorem frk2 (F : List T3) (j : Nat) : frk F ((j : Int) + 2) = (F.drop 2).getD j (0, 0, 0) := by
  rw [getD_drop]; unfold frk; congr 1; omega
def findI (F : List T3) (x : T3) : Int := (find F x).getD (-1)
theorem find_first {F : List T3} {x : T3} {j : Nat} (h : j < F.length - 2) (e : frk F ((j : Int) + 2) = x) (hn : ∀ k : Nat, k < j → frk F ((k : Int) + 2) ≠ x) : findI F x = (j : Int) + 2 := by
  unfold findI find
  rw [fnd_first (F.drop 2) x 2 j (by simpa using h) (by rw [← frk2]; exact e) fun k hk => by rw [← frk2]; exact hn k hk]
  simp; omega
theorem find_no {F : List T3} {x : T3} (hn : ∀ k : Nat, k < F.length - 2 → frk F ((k : Int) + 2) ≠ x) : findI F x = -1 := by
  unfold findI find
  rw [fnd_no (F.drop 2) x 2 fun k hk => by rw [← frk2]; exact hn k (by simpa using hk)]
  rfl
theorem put_2 {k : Nat} {F : List T3} {v : Int} {t : List Bool} (hs : t.take (2 ^ k) ≠ t.drop (2 ^ k)) {C G : List T3} {lo hi : Int} (h1 : put k F (v + 1) (t.take (2 ^ k)) = (C, lo)) (h2 : put k C (v + 1) (t.drop (2 ^ k)) = (G, hi)) :
    (0 ≤ findI G (v, lo, hi) ∧ put (k + 1) F v t = (G, findI G (v, lo, hi))) ∨ (findI G (v, lo, hi) = -1 ∧ put (k + 1) F v t = (G ++ [(v, lo, hi)], (G.length : Int))) := by
  simp only [put, if_neg hs, h1, h2]
  unfold findI
  cases hf : find G (v, lo, hi) with
  | some i =>
    have := (find_some hf).1
    exact .inl ⟨by show 0 ≤ i; omega, rfl⟩
  | none => exact .inr ⟨rfl, rfl⟩
theorem put_1 {k : Nat} {F : List T3} {v : Int} {t : List Bool} (hs : t.take (2 ^ k) = t.drop (2 ^ k)) : put (k + 1) F v t = put k F (v + 1) (t.take (2 ^ k)) := by
  simp only [put]; rw [if_pos hs]
end Fil.Bd

namespace Go.Proofs.YtjichkelfhcbcaaGreat.B
open Abs Fil Fil.Bd
theorem ref_node (b : D) (f : Int) (σ : Sig) : ACalls Tryz.prog 47 [encB b.1 b.2, .int .i64 f] σ (fun r σ' => r = .ret (.bool (!outside b.2 f)) ∧ σ' = σ) := by
  refine calls_x mixed Tryz.func47 b47 n47 rfl q47 (by simp) ?_; unfold c47 r47
  repeat' (first | simp (maxDischargeDepth := 9) -implicitDefEqProofs -dsimp only [go_sem, seval, ge_iff_le, *] | (with_reducible (first | apply Za) <;> intro hq))
  all_goals refine fin_eq ?_
  all_goals (repeat' (first | simp (maxDischargeDepth := 9) -implicitDefEqProofs -dsimp only [go_sem, seval, *])) <;> (repeat' refine And.intro ?_ ?_) <;> (first | omega | rfl | assumption | skip)
  all_goals first | (unfold outside; rw [Bool.eq_iff_iff]; simp; omega) | (unfold outside; simp; omega) | skip
theorem shr_bit {i d : Nat} : ∃ q : Nat, (i : Int).fdiv (2 ^ d) = q ∧ ((q : Int) % 2 == 1) = bit i d := by
  refine ⟨i / 2 ^ d, ?_, ?_⟩
  · rw [Int.fdiv_eq_ediv_of_nonneg _ (by exact Int.le_of_lt (Int.pow_pos (by decide)))]
    simp
  · unfold bit; rw [Bool.eq_iff_iff, beq_iff_eq, beq_iff_eq]; omega
theorem u64_id {k : Nat} (h : k ≤ 9223372036854775807) : IntKind.u64.wrap k = k := by
  simp [IntKind.wrap, IntKind.signed, IntKind.bits]; omega
theorem shl_one {n : Nat} (h : n ≤ 40) : IntKind.i64.wrap (1 * 2 ^ n) = ((2 ^ n : Nat) : Int) := by
  have hp : 2 ^ n ≤ 2 ^ 40 := Nat.pow_le_pow_right (by decide) h
  have hpi : ((2 ^ n : Nat) : Int) = (2 : Int) ^ n := by simp
  rw [Int.one_mul, ← hpi]
  generalize 2 ^ n = P at *
  exact wrap64 _ (by omega) (by omega)
theorem ref_is (n : Nat) (F : List T3) (f : Int) (i : Nat) (σ : Sig) (hf : Fine n F) (hi : In n F 0 f) (h : i < 2 ^ n) :
    ACalls Tryz.prog 78 [encB n F, .int .i64 f, .int .i64 i] σ (fun r σ' => r = .ret (.bool ((T (n, F) f).getD i false)) ∧ σ' = σ) := by
  refine calls_x mixed Tryz.func78 b78 n78 rfl q78 (by simp) ?_; unfold c78 r78
  have hT : (T (n, F) f).getD i false = evf F (row n i) f.toNat f := (evf_row hf.toOk hi h).symm
  rw [hT]
  have hn := hf.few
  have i1 := hi.1
  have i2 := hi.2.1
  have h40 : i < 4294967296 := Nat.lt_of_lt_of_le h (show 2 ^ n ≤ 2 ^ 32 from Nat.pow_le_pow_right (by decide) (by omega))
  obtain ⟨R, hR⟩ : ∃ R, evf F (row n i) f.toNat f = R := ⟨_, rfl⟩
  rw [hR]
  repeat' (first | simp (maxDischargeDepth := 9) -implicitDefEqProofs -dsimp only [go_sem, seval, *] | simp (disch := omega) only [wrap64, tmod2] | ((with_reducible refine Zu ?_ ?_); focus omega) | ((with_reducible refine Zt (fun oF hoF hnF hnF' => ?_)); clear hnF hnF'; (try simp only [Zw, ne_eq] at hoF)))
  refine loop_rule (fun x : Int => [(1, some (.int .i64 x)), (3, some (.cptr [.int .i64 n, .slice (F.map encF) .no])), (2, some (.int .i64 i))]) (fun _ => σ) (fun x => 0 ≤ x ∧ x < F.length ∧ ∃ k : Nat, x ≤ k ∧ evf F (row n i) k x = R) (fun x => x.toNat) f ?_ ?_
  · refine ⟨?_, ?_, i1, i2, f.toNat, by omega, hR⟩
    · (repeat' (first | simp (maxDischargeDepth := 9) -implicitDefEqProofs -dsimp only [go_sem, seval, *] | simp (disch := omega) only [wrap64, tmod2])) <;> (repeat' refine And.intro ?_ ?_) <;> (first | omega | rfl | assumption | skip)
    · (repeat' (first | simp (maxDischargeDepth := 9) -implicitDefEqProofs -dsimp only [go_sem, seval, *] | simp (disch := omega) only [wrap64, tmod2])) <;> (repeat' refine And.intro ?_ ?_) <;> (first | omega | rfl | assumption | skip)
  · rintro x ⟨x1, x2, k, x3, x4⟩
    by_cases hx : 2 ≤ x
    · obtain ⟨k, rfl⟩ : ∃ j, k = j + 1 := ⟨k - 1, by omega⟩
      have hx1 : 1 < x := by omega
      have hv := hf.var x hx x2
      have hlo := hf.low x hx x2
      have hhi := hf.high x hx x2
      obtain ⟨v1, v2⟩ := hv
      obtain ⟨l1, l2, _⟩ := hlo
      obtain ⟨u1, u2, _⟩ := hhi
      rw [evf_step hx] at x4
      obtain ⟨d, hd⟩ : ∃ d : Nat, (n : Int) - 1 - (frk F x).1 = d := ⟨((n : Int) - 1 - (frk F x).1).toNat, by omega⟩
      have hku := u64_id (k := d) (by omega)
      have hkm : Nat.min d 64 = d := Nat.min_eq_left (by omega)
      have hd0 : ¬ (d : Int) < 0 := by omega
      obtain ⟨q, hq1, hq2⟩ := @shr_bit i d
      have hr : (row n i).getD (frk F x).1.toNat false = bit i d := by
        rw [row_get _ _ _ (by omega)]; congr 1; omega
      cases hb : bit i d with
      | true =>
        rw [hb] at hr hq2
        have hn' : nx F (row n i) x = (frk F x).2.2 := by unfold nx; rw [hr]; rfl
        rw [hn'] at x4
        clear hr hn'
        repeat' (first | simp (maxDischargeDepth := 9) -implicitDefEqProofs -dsimp only [go_sem, seval, gt_iff_lt, *] | simp (disch := omega) only [wrap64, tmod2] | ((with_reducible refine Zu ?_ ?_); focus omega) | ((with_reducible refine Zt (fun oF hoF hnF hnF' => ?_)); clear hnF hnF'; (try simp only [Zw, ne_eq] at hoF)))
        refine loop_next _ _ _ _ ((frk F x).2.2) ⟨?_, ?_, ⟨by omega, by omega, k, by omega, x4⟩, by omega⟩
        · (repeat' (first | simp (maxDischargeDepth := 9) -implicitDefEqProofs -dsimp only [go_sem, seval, *] | simp (disch := omega) only [wrap64, tmod2])) <;> (repeat' refine And.intro ?_ ?_) <;> (first | omega | rfl | assumption | skip)
        · (repeat' (first | simp (maxDischargeDepth := 9) -implicitDefEqProofs -dsimp only [go_sem, seval, *] | simp (disch := omega) only [wrap64, tmod2])) <;> (repeat' refine And.intro ?_ ?_) <;> (first | omega | rfl | assumption | skip)
      | false =>
        rw [hb] at hr hq2
        have hn' : nx F (row n i) x = (frk F x).2.1 := by unfold nx; rw [hr]; rfl
        rw [hn'] at x4
        clear hr hn'
        repeat' (first | simp (maxDischargeDepth := 9) -implicitDefEqProofs -dsimp only [go_sem, seval, gt_iff_lt, *] | simp (disch := omega) only [wrap64, tmod2] | ((with_reducible refine Zu ?_ ?_); focus omega) | ((with_reducible refine Zt (fun oF hoF hnF hnF' => ?_)); clear hnF hnF'; (try simp only [Zw, ne_eq] at hoF)))
        refine loop_next _ _ _ _ ((frk F x).2.1) ⟨?_, ?_, ⟨by omega, by omega, k, by omega, x4⟩, by omega⟩
        · (repeat' (first | simp (maxDischargeDepth := 9) -implicitDefEqProofs -dsimp only [go_sem, seval, *] | simp (disch := omega) only [wrap64, tmod2])) <;> (repeat' refine And.intro ?_ ?_) <;> (first | omega | rfl | assumption | skip)
        · (repeat' (first | simp (maxDischargeDepth := 9) -implicitDefEqProofs -dsimp only [go_sem, seval, *] | simp (disch := omega) only [wrap64, tmod2])) <;> (repeat' refine And.intro ?_ ?_) <;> (first | omega | rfl | assumption | skip)
    · have hx1 : ¬ 1 < x := by omega
      rw [evf_end (by omega)] at x4
      have hv : R = (x == 1) := by rw [← x4]; rfl
      rw [hv]
      repeat' (first | simp (maxDischargeDepth := 9) -implicitDefEqProofs -dsimp only [go_sem, seval, gt_iff_lt, *] | simp (disch := omega) only [wrap64, tmod2] | ((with_reducible refine Zu ?_ ?_); focus omega) | ((with_reducible refine Zt (fun oF hoF hnF hnF' => ?_)); clear hnF hnF'; (try simp only [Zw, ne_eq] at hoF)))
      refine fin_eq ?_
      (repeat' (first | simp (maxDischargeDepth := 9) -implicitDefEqProofs -dsimp only [go_sem, seval, *] | simp (disch := omega) only [wrap64, tmod2])) <;> (repeat' refine And.intro ?_ ?_) <;> (first | omega | rfl | assumption | skip)
theorem szs_bool (l : List Bool) : szs 1 (l.map encBool) = True := szs_map _ _ _ fun _ => rfl
theorem ref_table (n : Nat) (F : List T3) (f : Int) (σ : Sig) (hf : Fine n F) (hi : In n F 0 f) :
    ACalls Tryz.prog 48 [encB n F, .int .i64 f] σ (fun r σ' => r = .ret (.slice ((T (n, F) f).map encBool) .no) ∧ σ' = σ) := by
  refine ACalls.virt (callable_of Tryz.func48 b48 n48) 1 (fun oV1 hoV1 hnV1 hnV1' => ?_); (try simp only [upd_none, ne_eq, not_and] at hoV1); refine calls_x mixed Tryz.func48 b48 n48 rfl q48 (by simp) ?_; unfold c48 r48
  have hn := hf.few
  have hn32 : n ≤ 32 := by omega
  have hl : (T (n, F) f).length = 2 ^ n := T_len (n, F) f
  have hs := shl_one (n := n) (by omega)
  have hp : 2 ^ n ≤ 2 ^ 32 := Nat.pow_le_pow_right (by decide) hn32
  have hku := u64_id (k := n) (by omega)
  have hkm : Nat.min n 64 = n := Nat.min_eq_left (by omega)
  have hd0 : ¬ (n : Int) < 0 := by omega
  have his := fun i τ h => ref_is n F f i τ hf hi h
  obtain ⟨P, hP⟩ : ∃ P : Nat, 2 ^ n = P := ⟨_, rfl⟩
  rw [hP] at hl hs hp his
  clear hf hi hn
  obtain ⟨t, ht⟩ : ∃ t, T (n, F) f = t := ⟨_, rfl⟩
  rw [ht] at hl his ⊢
  repeat' (first | simp (maxDischargeDepth := 9) -implicitDefEqProofs -dsimp only [go_sem, seval, *] | simp (disch := omega) only [wrap64] | ((with_reducible refine Zv ?_ ?_); focus (first | omega | exact rfl)))
  refine loop_rule (fun i : Nat => [(6, some (.int .i64 i)), (2, some (.cptr [.int .i64 n, .slice (F.map encF) .no])), (1, some (.int .i64 f)), (5, some (.slice ((t.take i).map encBool) (.own oV1)))])
    (fun i => upd σ oV1 (.grow 1 i)) (fun i => i ≤ P) (fun i => P - i) 0 ?_ ?_
  · (repeat' (first | simp (maxDischargeDepth := 9) -implicitDefEqProofs -dsimp only [go_sem, seval, *] | simp (disch := omega) only [wrap64])) <;> (repeat' refine And.intro ?_ ?_) <;> (first | omega | rfl | assumption | skip)
  · intro i hi
    by_cases hlt : i < P
    · have hlt' : (i : Int) < P := by omega
      have hs' := take_getD (t := t) (i := i) (by omega)
      have hlen : (t.take i).length = i := by simp; omega
      repeat' (first | simp (maxDischargeDepth := 9) -implicitDefEqProofs -dsimp only [go_sem, seval, szs_bool, *] | simp (disch := omega) only [wrap64] | ((with_reducible refine Zv ?_ ?_); focus (first | omega | exact rfl)) | ((with_reducible apply ACalls.one1); (focus ((first | with_reducible refine his i _ hlt) <;> (first | (simp (maxDischargeDepth := 9) -implicitDefEqProofs -dsimp only [go_sem, seval, *]; done) | omega))); (focus (first | trivial | with_reducible exact rfl | (simp (maxDischargeDepth := 9) -implicitDefEqProofs -dsimp only [go_sem, seval]; done)))))
      refine loop_next _ _ _ _ (i + 1) ?_; (repeat' (first | simp (maxDischargeDepth := 9) -implicitDefEqProofs -dsimp only [go_sem, seval,  List.map_append, List.map_cons, List.map_nil, *] | simp (disch := omega) only [wrap64])) <;> (repeat' refine And.intro ?_ ?_) <;> (first | omega | rfl | assumption | skip)
    · have hlt' : ¬ (i : Int) < P := by omega
      have e0 : t.take i = t := List.take_of_length_le (by omega)
      repeat' (first | simp (maxDischargeDepth := 9) -implicitDefEqProofs -dsimp only [go_sem, seval, *] | simp (disch := omega) only [wrap64] | ((with_reducible refine Zv ?_ ?_); focus (first | omega | exact rfl)))
      refine fin_eq ?_
      (repeat' (first | simp (maxDischargeDepth := 9) -implicitDefEqProofs -dsimp only [go_sem, seval, *] | simp (disch := omega) only [wrap64])) <;> (repeat' refine And.intro ?_ ?_) <;> (first | omega | rfl | assumption | skip)
theorem ref_same (a b : List Bool) (σ : Sig) (h : a.length = b.length) (hl : a.length ≤ 9223372036854775807) :
    ACalls Tryz.prog 108 [.slice (a.map encBool) .no, .slice (b.map encBool) .no] σ (fun r σ' => r = .ret (.bool (decide (a = b))) ∧ σ' = σ) := by
  refine calls_x mixed Tryz.func108 b108 n108 rfl q108 (by simp) ?_; unfold c108 r108
  have hl' := And.intro (Nat.le_of_eq h) (Nat.le_of_eq h.symm)
  clear h
  repeat' (first | simp (maxDischargeDepth := 9) -implicitDefEqProofs -dsimp only [go_sem, seval, *] | simp (disch := omega) only [wrap64] | ((with_reducible refine Zu ?_ ?_); focus omega))
  refine loop_rule (fun i : Nat => [(5, some (.int .i64 i)), (0, some (.slice (a.map encBool) .no)), (1, some (.slice (b.map encBool) .no))]) (fun _ => σ) (fun i => i ≤ a.length ∧ ∀ j : Nat, (hj : j < a.length) → j < i → a[j] = b[j]) (fun i => a.length - i) 0 ?_ ?_
  · (repeat' (first | simp (maxDischargeDepth := 9) -implicitDefEqProofs -dsimp only [go_sem, seval, *] | simp (disch := omega) only [wrap64])) <;> (repeat' refine And.intro ?_ ?_) <;> (first | omega | rfl | assumption | skip)
  · rintro i ⟨hi, hall⟩
    by_cases hlt : i < a.length
    · have hlt2 : i < b.length := by omega
      obtain ⟨x, hx⟩ : ∃ x, a[i] = x := ⟨_, rfl⟩
      obtain ⟨y, hy⟩ : ∃ y, b[i] = y := ⟨_, rfl⟩
      by_cases he : x = y
      · subst he
        have hall' : ∀ j : Nat, (hj : j < a.length) → j < i + 1 → a[j] = b[j] := fun j hj hji => by
          rcases Nat.lt_or_ge j i with c | c
          · exact hall j hj c
          · obtain rfl : j = i := by omega
            rw [hx, hy]
        clear hall
        repeat' (first | simp (maxDischargeDepth := 9) -implicitDefEqProofs -dsimp only [go_sem, seval, *] | simp (disch := omega) only [wrap64] | ((with_reducible refine Zu ?_ ?_); focus omega))
        refine loop_next _ _ _ _ (i + 1) ⟨?_, ?_, ⟨by omega, hall'⟩, by omega⟩
        · (repeat' (first | simp (maxDischargeDepth := 9) -implicitDefEqProofs -dsimp only [go_sem, seval, *] | simp (disch := omega) only [wrap64])) <;> (repeat' refine And.intro ?_ ?_) <;> (first | omega | rfl | assumption | skip)
        · (repeat' (first | simp (maxDischargeDepth := 9) -implicitDefEqProofs -dsimp only [go_sem, seval, *] | simp (disch := omega) only [wrap64])) <;> (repeat' refine And.intro ?_ ?_) <;> (first | omega | rfl | assumption | skip)
      · have hv : decide (a = b) = false := by simp; intro e; exact he (by rw [← hx, ← hy]; simp only [e])
        have hb : (x == y) = false := by simpa using he
        rw [hv]
        clear hall
        repeat' (first | simp (maxDischargeDepth := 9) -implicitDefEqProofs -dsimp only [go_sem, seval, *] | simp (disch := omega) only [wrap64] | ((with_reducible refine Zu ?_ ?_); focus omega))
        refine fin_eq ?_
        (repeat' (first | simp (maxDischargeDepth := 9) -implicitDefEqProofs -dsimp only [go_sem, seval, *] | simp (disch := omega) only [wrap64])) <;> (repeat' refine And.intro ?_ ?_) <;> (first | omega | rfl | assumption | skip)
    · have hv : decide (a = b) = true := by simp; exact List.ext_getElem (by omega) fun j hj _ => hall j hj (by omega)
      rw [hv]
      clear hall
      repeat' (first | simp (maxDischargeDepth := 9) -implicitDefEqProofs -dsimp only [go_sem, seval, *] | simp (disch := omega) only [wrap64] | ((with_reducible refine Zu ?_ ?_); focus omega))
      refine fin_eq ?_
      (repeat' (first | simp (maxDischargeDepth := 9) -implicitDefEqProofs -dsimp only [go_sem, seval, *] | simp (disch := omega) only [wrap64])) <;> (repeat' refine And.intro ?_ ?_) <;> (first | omega | rfl | assumption | skip)
theorem ref_find (vars : Int) (F : List T3) (x : T3) (σ : Sig) (hl : F.length ≤ 1099511627776) :
    ACalls Tryz.prog 109 [encB vars F, encF x] σ (fun r σ' => r = .ret (.int .i64 (findI F x)) ∧ σ' = σ) := by
  refine calls_x mixed Tryz.func109 b109 n109 rfl q109 (by simp) ?_; unfold c109 r109
  repeat' (first | simp (maxDischargeDepth := 9) -implicitDefEqProofs -dsimp only [go_sem, seval, *] | simp (disch := omega) only [wrap64] | ((with_reducible refine Zv ?_ ?_); focus (first | omega | exact rfl)) | ((with_reducible refine Zu ?_ ?_); focus omega))
  refine loop_rule (fun i : Nat => [(5, some (.int .i64 ((i : Int) + 2))), (2, some (.cptr [.int .i64 vars, .slice (F.map encF) .no])), (3, some (.cptr [.int .i64 x.1, .int .i64 x.2.1, .int .i64 x.2.2]))]) (fun _ => σ) (fun i => i ≤ F.length - 2 ∧ ∀ k : Nat, k < i → frk F ((k : Int) + 2) ≠ x) (fun i => F.length - 2 - i) 0 ?_ ?_
  · (repeat' (first | simp (maxDischargeDepth := 9) -implicitDefEqProofs -dsimp only [go_sem, seval, *] | simp (disch := omega) only [wrap64])) <;> (repeat' refine And.intro ?_ ?_) <;> (first | omega | rfl | assumption | skip)
  · rintro i ⟨hi, hall⟩
    by_cases hlt : i < F.length - 2
    · have hi2 : (i : Int) + 2 < F.length := by omega
      have hi3 : ((i : Int) + 2).toNat < F.length := by omega
      by_cases he : frk F ((i : Int) + 2) = x
      · have hv := find_first hlt he hall
        have be : decide (frk F ((i : Int) + 2) = x) = true := by simpa using he
        rw [hv]
        clear hall he
        repeat' (first | simp (maxDischargeDepth := 9) -implicitDefEqProofs -dsimp only [go_sem, seval, eq3, *] | simp (disch := omega) only [wrap64] | ((with_reducible refine Zv ?_ ?_); focus (first | omega | exact rfl)) | ((with_reducible refine Zu ?_ ?_); focus omega))
        refine fin_eq ?_
        (repeat' (first | simp (maxDischargeDepth := 9) -implicitDefEqProofs -dsimp only [go_sem, seval, *] | simp (disch := omega) only [wrap64])) <;> (repeat' refine And.intro ?_ ?_) <;> (first | omega | rfl | assumption | skip)
      · have be : decide (frk F ((i : Int) + 2) = x) = false := by simpa using he
        have hall' : ∀ k : Nat, k < i + 1 → frk F ((k : Int) + 2) ≠ x := fun k hk => by
          rcases Nat.lt_or_ge k i with c | c
          · exact hall k c
          · have : k = i := by omega
            rw [this]; exact he
        clear hall he
        repeat' (first | simp (maxDischargeDepth := 9) -implicitDefEqProofs -dsimp only [go_sem, seval, eq3, *] | simp (disch := omega) only [wrap64] | ((with_reducible refine Zv ?_ ?_); focus (first | omega | exact rfl)) | ((with_reducible refine Zu ?_ ?_); focus omega))
        have ei : ((i + 1 : Nat) : Int) + 2 = (i : Int) + 2 + 1 := by omega
        refine loop_next _ _ _ _ (i + 1) ⟨?_, ?_, ⟨by omega, hall'⟩, by omega⟩
        · (repeat' (first | simp (maxDischargeDepth := 9) -implicitDefEqProofs -dsimp only [go_sem, seval, ei, *] | simp (disch := omega) only [wrap64])) <;> (repeat' refine And.intro ?_ ?_) <;> (first | omega | rfl | assumption | skip)
        · (repeat' (first | simp (maxDischargeDepth := 9) -implicitDefEqProofs -dsimp only [go_sem, seval, *] | simp (disch := omega) only [wrap64])) <;> (repeat' refine And.intro ?_ ?_) <;> (first | omega | rfl | assumption | skip)
    · have hi2 : ¬ (i : Int) + 2 < F.length := by omega
      have hv : findI F x = -1 := find_no fun k hk => hall k (by omega)
      rw [hv]
      clear hall
      repeat' (first | simp (maxDischargeDepth := 9) -implicitDefEqProofs -dsimp only [go_sem, seval, *] | simp (disch := omega) only [wrap64] | ((with_reducible refine Zv ?_ ?_); focus (first | omega | exact rfl)) | ((with_reducible refine Zu ?_ ?_); focus omega))
      refine fin_eq ?_
      (repeat' (first | simp (maxDischargeDepth := 9) -implicitDefEqProofs -dsimp only [go_sem, seval, *] | simp (disch := omega) only [wrap64])) <;> (repeat' refine And.intro ?_ ?_) <;> (first | omega | rfl | assumption | skip)
end Go.Proofs.YtjichkelfhcbcaaGreat.B

namespace Fil.Bd
def fstT : Nat → List Bool → Option (List Bool)
  | 0, t => if t.headD false then some [] else none
  | k + 1, t => match fstT k (t.take (2 ^ k)) with
    | some w => some (false :: w)
    | none => (fstT k (t.drop (2 ^ k))).map (true :: ·)
theorem fst_two {k : Nat} {a b : List Bool} (h : a.length = 2 ^ k) : fstT (k + 1) (a ++ b) = (match fstT k a with
    | some w => some (false :: w)
    | none => (fstT k b).map (true :: ·)) := by
  simp only [fstT]
  rw [List.take_left' h, List.drop_left' h]
theorem fst_zeros : ∀ k : Nat, fstT k (List.replicate (2 ^ k) false) = none
  | 0 => rfl
  | k + 1 => by
    rw [show 2 ^ (k + 1) = 2 ^ k + 2 ^ k by rw [Nat.pow_succ]; omega, ← List.replicate_append_replicate, fst_two (by simp), fst_zeros k]
    rfl
theorem one_first {vars : Int} {F : List T3} (ho : Ok vars F) : ∀ (k K : Nat) (v n : Int) (l : List Bool), 0 ≤ v → v + k = vars → In vars F v n → n ≠ 0 → n ≤ K → (l.length : Int) = vars → l.drop v.toNat = List.replicate k false →
    ∃ w, w.length = k ∧ fstT k (tab F k v n) = some w ∧ one1 F K n l = l.take v.toNat ++ w
  | 0, K, v, n, l, h0, hv, hn, hne, hK, hl, hd => by
    have e : v = vars := by omega
    have hn1 : n = 1 := by
      have := (e ▸ hn : In vars F vars n).end ho
      omega
    subst hn1
    exact ⟨[], rfl, rfl, by rw [one1_end (by omega), List.take_of_length_le (by omega)]; simp⟩
  | k + 1, K, v, n, l, h0, hv, hn, hne, hK, hl, hd => by
    have hd' : l.drop (v + 1).toNat = List.replicate k false := by
      have := congrArg (List.drop 1) hd
      rw [List.drop_drop] at this
      rw [show (v + 1).toNat = v.toNat + 1 by omega, this]
      simp [List.replicate_succ]
    have hlt : v.toNat < l.length := by omega
    have hv0 : l[v.toNat] = false := by
      have h1 : (l.drop v.toNat)[0]? = some false := by rw [hd]; simp [List.replicate_succ]
      rw [List.getElem?_drop, Nat.add_zero, List.getElem?_eq_getElem hlt] at h1
      exact Option.some.inj h1
    have ht : l.take (v + 1).toNat = l.take v.toNat ++ [false] := by
      rw [show (v + 1).toNat = v.toNat + 1 by omega, List.take_add_one, List.getElem?_eq_getElem hlt, hv0]; rfl
    by_cases c : 2 ≤ n ∧ (frk F n).1 = v
    · obtain ⟨K, rfl⟩ : ∃ j, K = j + 1 := ⟨K - 1, by omega⟩
      have hlo := hn.lo ho c
      have hhi := hn.hi ho c
      have l1 := ho.low n c.1 hn.2.1
      have l2 := ho.high n c.1 hn.2.1
      have lne := ho.ne n c.1 hn.2.1
      rw [tab_at c, fst_two (tab_len ..), one1, if_neg (by omega)]
      by_cases hz : (frk F n).2.1 = 0
      · rw [if_pos hz, hz, tab_zero, fst_zeros, c.2]
        obtain ⟨w, w1, w2, w3⟩ := one_first ho k K (v + 1) (frk F n).2.2 (l.set v.toNat true) (by omega) (by omega) hhi (fun e => lne (by rw [hz, e])) (by omega) (by simpa using hl) (by
          rw [List.drop_set_of_lt (by omega)]; exact hd')
        refine ⟨true :: w, by simp [w1], by rw [w2]; rfl, ?_⟩
        rw [w3, show (v + 1).toNat = v.toNat + 1 by omega, List.take_add_one]
        simp [hlt, List.take_set_of_le]
      · rw [if_neg hz]
        obtain ⟨w, w1, w2, w3⟩ := one_first ho k K (v + 1) (frk F n).2.1 l (by omega) (by omega) hlo hz (by omega) hl hd'
        refine ⟨false :: w, by simp [w1], by rw [w2], ?_⟩
        rw [w3, ht]; simp
    · rw [tab_up c, fst_two (tab_len ..)]
      obtain ⟨w, w1, w2, w3⟩ := one_first ho k K (v + 1) n l (by omega) (by omega) (hn.up ho hv c) hne hK hl hd'
      refine ⟨false :: w, by simp [w1], by rw [w2], ?_⟩
      rw [w3, ht]; simp
theorem lookT_cons (t : List Bool) (x : Bool) (w : List Bool) : lookT t (x :: w) = lookT (if x then t.drop (2 ^ w.length) else t.take (2 ^ w.length)) w := rfl
theorem fst_spec : ∀ (k : Nat) (t w : List Bool), fstT k t = some w → w.length = k ∧ lookT t w = true ∧ ∀ u : List Bool, u.length = k → lookT t u = true → u = w ∨ ∃ p a b, w = p ++ false :: a ∧ u = p ++ true :: b
  | 0, t, w, h => by
    simp only [fstT] at h
    split at h
    · rename_i ht
      simp at h; subst h
      exact ⟨rfl, ht, fun u hu _ => .inl (List.length_eq_zero_iff.1 hu)⟩
    · simp at h
  | k + 1, t, w, h => by
    simp only [fstT] at h
    split at h
    · rename_i w' hw'
      simp at h; subst h
      obtain ⟨h1, h2, h3⟩ := fst_spec k _ _ hw'
      refine ⟨by simp [h1], by rw [lookT_cons, h1]; simpa using h2, fun u hu hlu => ?_⟩
      cases u with
      | nil => simp at hu
      | cons x u =>
        have hu' : u.length = k := by simpa using hu
        cases x
        · rw [lookT_cons, hu'] at hlu
          rcases h3 u hu' (by simpa using hlu) with rfl | ⟨p, a, b, e1, e2⟩
          · exact .inl rfl
          · exact .inr ⟨false :: p, a, b, by rw [e1]; rfl, by rw [e2]; rfl⟩
        · exact .inr ⟨[], w', u, rfl, rfl⟩
    · rename_i hn
      rw [Option.map_eq_some_iff] at h
      obtain ⟨w', hw', rfl⟩ := h
      obtain ⟨h1, h2, h3⟩ := fst_spec k _ _ hw'
      refine ⟨by simp [h1], by rw [lookT_cons, h1]; simpa using h2, fun u hu hlu => ?_⟩
      cases u with
      | nil => simp at hu
      | cons x u =>
        have hu' : u.length = k := by simpa using hu
        rw [lookT_cons, hu'] at hlu
        cases x
        · exfalso
          have := fst_none k _ hn u hu'
          simp only [Bool.false_eq_true, if_false] at hlu
          rw [this] at hlu; simp at hlu
        · rcases h3 u hu' (by simpa using hlu) with rfl | ⟨p, a, b, e1, e2⟩
          · exact .inl rfl
          · exact .inr ⟨true :: p, a, b, by rw [e1]; rfl, by rw [e2]; rfl⟩
where
  fst_none : ∀ (k : Nat) (t : List Bool), fstT k t = none → ∀ u : List Bool, u.length = k → lookT t u = false
    | 0, t, h, u, hu => by
      have := List.length_eq_zero_iff.1 hu
      subst this
      simp only [fstT] at h
      split at h
      · simp at h
      · rename_i ht; exact Bool.not_eq_true _ |>.mp ht
    | k + 1, t, h, u, hu => by
      simp only [fstT] at h
      split at h
      · simp at h
      · rename_i hn
        cases u with
        | nil => simp at hu
        | cons x u =>
          have hu' : u.length = k := by simpa using hu
          rw [lookT_cons, hu']
          cases x
          · simpa using fst_none k _ hn u hu'
          · simpa using fst_none k _ (by simpa using h) u hu'
theorem oneW_ok {b : D} {f : Int} (hf : Fine b.1 b.2) (i : In b.1 b.2 0 f) (h : f ≠ 0) : ∃ w, oneW b f = (w, true, 0) ∧ w.length = b.1.toNat ∧ fstT b.1.toNat (T b f) = some w := by
  have hlo := hf.lo
  obtain ⟨w, w1, w2, w3⟩ := one_first hf.toOk b.1.toNat f.toNat 0 f (List.replicate b.1.toNat false) (by omega) (by omega) i h (by have := i.1; omega) (by simp; omega) (by simp)
  refine ⟨w, ?_, w1, w2⟩
  unfold oneW
  rw [ask_ok hf (by simp [in_out i]), if_neg (by simp), if_neg h, w3]
  simp
end Fil.Bd

namespace Fil.Bd
theorem fst_no : ∀ (k : Nat) (t : List Bool), (∀ j, t.getD j false = false) → fstT k t = none
  | 0, t, h => by
    have := h 0
    cases t with
    | nil => rfl
    | cons x t => simp at this; subst this; rfl
  | k + 1, t, h => by
    have h1 : ∀ j, (t.take (2 ^ k)).getD j false = false := fun j => by
      by_cases hj : j < 2 ^ k
      · rw [List.getD_eq_getElem?_getD, List.getElem?_take_of_lt hj, ← List.getD_eq_getElem?_getD]; exact h j
      · rw [List.getD_eq_getElem?_getD, List.getElem?_eq_none (by simp; omega)]; rfl
    have h2 : ∀ j, (t.drop (2 ^ k)).getD j false = false := fun j => by
      rw [List.getD_eq_getElem?_getD, List.getElem?_drop, ← List.getD_eq_getElem?_getD]; exact h _
    simp only [fstT, fst_no k _ h1, fst_no k _ h2]
    rfl
theorem fst_row : ∀ (k i : Nat) (t : List Bool), t.length = 2 ^ k → i < 2 ^ k → t.getD i false = true → (∀ j, j < i → t.getD j false = false) → fstT k t = some (row k i)
  | 0, i, t, h, hi, ht, hn => by
    match t, h with
    | [x], _ =>
      have : i = 0 := by simp at hi; omega
      subst this
      have hx : x = true := by simpa using ht
      subst hx
      simp [fstT, row]
  | k + 1, i, t, h, hi, ht, hn => by
    have hp : 2 ^ (k + 1) = 2 * 2 ^ k := by rw [Nat.pow_succ]; omega
    have e1 : (t.take (2 ^ k)).length = 2 ^ k := by simp; omega
    have e2 : (t.drop (2 ^ k)).length = 2 ^ k := by simp; omega
    have he : t = t.take (2 ^ k) ++ t.drop (2 ^ k) := (List.take_append_drop _ _).symm
    generalize t.take (2 ^ k) = a at *
    generalize t.drop (2 ^ k) = b at *
    subst he
    rw [fst_two e1, row_succ]
    by_cases c : i < 2 ^ k
    · rw [getD_app_l (by omega)] at ht
      rw [fst_row k i a e1 c ht fun j hj => by have := hn j hj; rwa [getD_app_l (by omega)] at this]
      have : bit i k = false := by simp [bit, Nat.div_eq_of_lt c]
      rw [this]
    · obtain ⟨j, rfl⟩ : ∃ j, i = 2 ^ k + j := ⟨i - 2 ^ k, by omega⟩
      have hj : j < 2 ^ k := by omega
      rw [getD_app_r (by omega), e1, Nat.add_sub_cancel_left] at ht
      rw [fst_no k a fun m => by
        by_cases hm : m < 2 ^ k
        · have := hn m (by omega); rwa [getD_app_l (by omega)] at this
        · simp [List.getD_eq_getElem?_getD, List.getElem?_eq_none (show a.length ≤ m by omega)]]
      rw [fst_row k j b e2 hj ht fun m hm => by have := hn (2 ^ k + m) (by omega); rwa [getD_app_r (by omega), e1, Nat.add_sub_cancel_left] at this]
      have h1 : bit (2 ^ k + j) k = true := by
        unfold bit
        rw [Nat.add_div_left _ (Nat.two_pow_pos k), Nat.div_eq_of_lt hj]; rfl
      have h2 : row k (2 ^ k + j) = row k j := by
        unfold row
        refine List.map_congr_left fun m hm => ?_
        have hm' := List.mem_range.1 hm
        unfold bit
        obtain ⟨r, hr⟩ : ∃ r, k = (k - 1 - m) + (r + 1) := ⟨m, by omega⟩
        have e : 2 ^ k = 2 ^ (k - 1 - m) * (2 * 2 ^ r) := by
          conv => lhs; rw [hr, Nat.pow_add, Nat.pow_succ, Nat.mul_comm (2 ^ r) 2]
        rw [e, Nat.mul_add_div (Nat.two_pow_pos _)]
        congr 1; omega
      rw [h1, h2]; rfl
theorem one_at {n : Nat} {F : List T3} {f : Int} {i : Nat} (hf : Fine n F) (h : In n F 0 f) (hi : i < 2 ^ n) (ht : (T (n, F) f).getD i false = true) (hn : ∀ j, j < i → (T (n, F) f).getD j false = false) : oneW (n, F) f = (row n i, true, 0) := by
  have hne : f ≠ 0 := fun e => by
    subst e
    have hz : T ((n : Int), F) 0 = List.replicate (2 ^ n) false := tab_zero ..
    rw [hz] at ht
    simp [List.getD_eq_getElem?_getD, hi] at ht
  obtain ⟨w, h1, h2, h3⟩ := oneW_ok (b := ((n : Int), F)) hf h hne
  rw [h1]
  have := fst_row n i _ (T_len ((n : Int), F) f) hi ht hn
  simp only [Int.toNat_natCast] at h3
  rw [h3] at this
  simp only [Option.some.injEq] at this
  rw [this]
theorem one_no {n : Nat} {F : List T3} {f : Int} (hf : Fine n F) (h : In n F 0 f) (hn : ∀ j, j < 2 ^ n → (T (n, F) f).getD j false = false) : oneW (n, F) f = ([], false, 0) := by
  by_cases hz : f = 0
  · subst hz
    unfold oneW
    rw [ask_ok (b := ((n : Int), F)) hf (by simp [in_out h]), if_neg (by simp), if_pos rfl]
  · exfalso
    obtain ⟨w, h1, h2, h3⟩ := oneW_ok (b := ((n : Int), F)) hf h hz
    have hl : (T ((n : Int), F) f).length = 2 ^ n := T_len ((n : Int), F) f
    rw [Int.toNat_natCast, fst_no n _ fun j => by
      by_cases hj : j < 2 ^ n
      · exact hn j hj
      · rw [List.getD_eq_getElem?_getD, List.getElem?_eq_none (by omega)]; rfl] at h3
    simp at h3
end Fil.Bd

namespace Go.Proofs.YtjichkelfhcbcaaGreat.B
open Abs Fil Fil.Bd
theorem out_no {b : D} {f : Int} (hf : Fine b.1 b.2) (h : outside b.2 f = true) : askE b [f] false = 1 := ask_arg hf (by simp [h])
set_option maxHeartbeats 1000000 in
theorem ref_One (b : D) (f : Int) (σ : Sig) (hl : b.2.length ≤ 9223372036854775807) :
    ACalls Tryz.prog 15 [encB b.1 b.2, .int .i64 f] σ (fun r σ' => r = .ret (.tup [.slice ((oneW b f).1.map encBool) .no, .bool (oneW b f).2.1, .int .i64 (oneW b f).2.2]) ∧ σ' = σ) := by
  refine ACalls.virt (callable_of Tryz.func15 b15 n15) 1 (fun oV1 hoV1 hnV1 hnV1' => ?_); (try simp only [upd_none, ne_eq, not_and] at hoV1); refine calls_x mixed Tryz.func15 b15 n15 rfl q15 (by simp) ?_; unfold c15 r15
  obtain ⟨e, he⟩ : ∃ e, chk b.1 b.2 = e := ⟨_, rfl⟩
  by_cases h0 : e = 0
  · subst h0
    have ez : ((0 : Int) != 0) = false := by decide
    have hf := chk_fine.1 he
    cases hout : outside b.2 f with
    | true =>
      have hw : oneW b f = ([], false, 1) := by unfold oneW; rw [out_no hf hout, if_pos (by decide)]
      rw [hw]
      clear hw
      repeat' (first | simp (maxDischargeDepth := 9) -implicitDefEqProofs -dsimp only [go_sem, seval, *] | simp (disch := omega) only [wrap64, tmod2] | ((with_reducible refine Zv ?_ ?_); focus (first | omega | exact rfl)) | ((with_reducible refine Zu ?_ ?_); focus omega) | ((with_reducible apply ACalls.one1); (focus ((first | with_reducible refine ref_Check b.1 b.2 _ hl | with_reducible refine ref_node b f _) <;> (first | (simp (maxDischargeDepth := 9) -implicitDefEqProofs -dsimp only [go_sem, seval, *]; done) | omega))); (focus (first | trivial | with_reducible exact rfl | (simp (maxDischargeDepth := 9) -implicitDefEqProofs -dsimp only [go_sem, seval]; done)))))
      refine fin_eq ?_
      (repeat' (first | simp (maxDischargeDepth := 9) -implicitDefEqProofs -dsimp only [go_sem, seval, List.map_nil, *] | simp (disch := omega) only [wrap64, tmod2])) <;> (repeat' refine And.intro ?_ ?_) <;> (first | omega | rfl | assumption | skip)
    | false =>
      have q1 : (!outside b.2 f) = true := by simp [hout]
      have i1 := out_In hout hf.toOk
      have hlo := hf.lo
      obtain ⟨vars, F⟩ := b
      simp only at *
      obtain ⟨n, rfl⟩ : ∃ n : Nat, vars = n := ⟨vars.toNat, by omega⟩
      have n32 := hf.few
      have hp : 2 ^ n ≤ 2 ^ 32 := Nat.pow_le_pow_right (by decide) (by omega)
      have t1 : (T ((n : Int), F) f).length = 2 ^ n := T_len ((n : Int), F) f
      have c1 := fun τ => ref_table n F f τ hf i1
      have at1 := fun i => one_at (i := i) hf i1
      have no1 := one_no hf i1
      obtain ⟨w, hw⟩ : ∃ w, oneW ((n : Int), F) f = w := ⟨_, rfl⟩
      rw [hw] at at1 no1 ⊢
      generalize T ((n : Int), F) f = X at *
      rw [← t1] at at1 no1
      have hX : X.length ≤ 4294967296 := by omega
      clear hw t1 hp hf i1
      repeat' (first | simp (maxDischargeDepth := 9) -implicitDefEqProofs -dsimp only [go_sem, seval, *] | simp (disch := omega) only [wrap64, tmod2] | ((with_reducible refine Zv ?_ ?_); focus (first | omega | exact rfl)) | ((with_reducible refine Zu ?_ ?_); focus omega) | ((with_reducible apply ACalls.one1); (focus ((first | with_reducible refine ref_Check n F _ hl | with_reducible refine ref_node (n, F) f _ | with_reducible refine c1 _) <;> (first | (simp (maxDischargeDepth := 9) -implicitDefEqProofs -dsimp only [go_sem, seval, *]; done) | omega))); (focus (first | trivial | with_reducible exact rfl | (simp (maxDischargeDepth := 9) -implicitDefEqProofs -dsimp only [go_sem, seval]; done)))))
      refine loop_rule (fun i : Nat => [(9, some (.int .i64 i)), (8, some (.slice (X.map encBool) .no)), (2, some (.cptr [.int .i64 n, .slice (F.map encF) .no]))])
        (fun _ => upd σ oV1 (.virt 1)) (fun i => i ≤ X.length ∧ ∀ j, j < i → X.getD j false = false) (fun i => X.length - i) 0 ?_ ?_
      · (repeat' (first | simp (maxDischargeDepth := 9) -implicitDefEqProofs -dsimp only [go_sem, seval, *] | simp (disch := omega) only [wrap64, tmod2])) <;> (repeat' refine And.intro ?_ ?_) <;> (first | omega | rfl | assumption | skip)
      · rintro i ⟨hi, hall⟩
        by_cases hlt : i < X.length
        · cases hx : X.getD i false with
          | true =>
            have hv := at1 i hlt hx hall
            subst hv
            clear at1 no1 hall c1
            have hrl := row_len n i
            repeat' (first | simp (maxDischargeDepth := 9) -implicitDefEqProofs -dsimp only [go_sem, seval, getD_b, *] | simp (disch := omega) only [wrap64, tmod2] | ((with_reducible refine Zv ?_ ?_); focus (first | omega | exact rfl)) | ((with_reducible refine Zu ?_ ?_); focus omega))
            refine loop_rule (fun k : Nat => [(11, some (.int .i64 k)), (2, some (.cptr [.int .i64 n, .slice (F.map encF) .no])), (10, some (.slice (((row n i).take k).map encBool) (.own oV1))), (9, some (.int .i64 i))])
              (fun k => upd σ oV1 (.grow 1 k)) (fun k => k ≤ n) (fun k => n - k) 0 ?_ ?_
            · (repeat' (first | simp (maxDischargeDepth := 9) -implicitDefEqProofs -dsimp only [go_sem, seval, *] | simp (disch := omega) only [wrap64, tmod2])) <;> (repeat' refine And.intro ?_ ?_) <;> (first | omega | rfl | assumption | skip)
            · intro k hk
              by_cases hkn : k < n
              · have hkn' : (k : Int) < n := by omega
                have hs' := take_getD (t := row n i) (i := k) (by omega)
                have hlen : ((row n i).take k).length = k := by simp [row_len]; omega
                rw [row_get n i k hkn] at hs'
                obtain ⟨m, hm⟩ : ∃ m : Nat, (n : Int) - 1 - k = m := ⟨((n : Int) - 1 - k).toNat, by omega⟩
                have hm' : n - 1 - k = m := by omega
                have hmu := u64_id (k := m) (by omega)
                have hmm : Nat.min m 64 = m := Nat.min_eq_left (by omega)
                have hm0 : ¬ (m : Int) < 0 := by omega
                rw [hm'] at hs'
                obtain ⟨q, hq1, hq2⟩ := @shr_bit i m
                repeat' (first | simp (maxDischargeDepth := 9) -implicitDefEqProofs -dsimp only [go_sem, seval, szs_bool, *] | simp (disch := omega) only [wrap64, tmod2] | ((with_reducible refine Zv ?_ ?_); focus (first | omega | exact rfl)) | ((with_reducible refine Zu ?_ ?_); focus omega))
                refine loop_next _ _ _ _ (k + 1) ?_; (repeat' (first | simp (maxDischargeDepth := 9) -implicitDefEqProofs -dsimp only [go_sem, seval,  List.map_append, List.map_cons, List.map_nil, *] | simp (disch := omega) only [wrap64, tmod2])) <;> (repeat' refine And.intro ?_ ?_) <;> (first | omega | rfl | assumption | skip)
              · have hkn' : ¬ (k : Int) < n := by omega
                have e0 : (row n i).take k = row n i := List.take_of_length_le (by omega)
                repeat' (first | simp (maxDischargeDepth := 9) -implicitDefEqProofs -dsimp only [go_sem, seval, *] | simp (disch := omega) only [wrap64, tmod2] | ((with_reducible refine Zv ?_ ?_); focus (first | omega | exact rfl)) | ((with_reducible refine Zu ?_ ?_); focus omega))
                refine fin_eq ?_
                (repeat' (first | simp (maxDischargeDepth := 9) -implicitDefEqProofs -dsimp only [go_sem, seval, *] | simp (disch := omega) only [wrap64, tmod2])) <;> (repeat' refine And.intro ?_ ?_) <;> (first | omega | rfl | assumption | skip)
          | false =>
            have hall' : ∀ j, j < i + 1 → X.getD j false = false := fun j hj => by
              rcases Nat.lt_or_ge j i with c | c
              · exact hall j c
              · have : j = i := by omega
                rw [this]; exact hx
            clear at1 no1 hall c1
            repeat' (first | simp (maxDischargeDepth := 9) -implicitDefEqProofs -dsimp only [go_sem, seval, getD_b, *] | simp (disch := omega) only [wrap64, tmod2] | ((with_reducible refine Zv ?_ ?_); focus (first | omega | exact rfl)) | ((with_reducible refine Zu ?_ ?_); focus omega))
            refine loop_next _ _ _ _ (i + 1) ⟨?_, ?_, ⟨by omega, hall'⟩, by omega⟩
            · (repeat' (first | simp (maxDischargeDepth := 9) -implicitDefEqProofs -dsimp only [go_sem, seval, *] | simp (disch := omega) only [wrap64, tmod2])) <;> (repeat' refine And.intro ?_ ?_) <;> (first | omega | rfl | assumption | skip)
            · (repeat' (first | simp (maxDischargeDepth := 9) -implicitDefEqProofs -dsimp only [go_sem, seval, *] | simp (disch := omega) only [wrap64, tmod2])) <;> (repeat' refine And.intro ?_ ?_) <;> (first | omega | rfl | assumption | skip)
        · have hv := no1 fun j hj => hall j (by omega)
          subst hv
          clear at1 no1 hall
          repeat' (first | simp (maxDischargeDepth := 9) -implicitDefEqProofs -dsimp only [go_sem, seval, *] | simp (disch := omega) only [wrap64, tmod2] | ((with_reducible refine Zv ?_ ?_); focus (first | omega | exact rfl)) | ((with_reducible refine Zu ?_ ?_); focus omega))
          refine fin_eq ?_
          (repeat' (first | simp (maxDischargeDepth := 9) -implicitDefEqProofs -dsimp only [go_sem, seval, List.map_nil, *] | simp (disch := omega) only [wrap64, tmod2])) <;> (repeat' refine And.intro ?_ ?_) <;> (first | omega | rfl | assumption | skip)
  · have hb : (e != 0) = true := by simpa using h0
    have hw : oneW b f = ([], false, e) := by unfold oneW; rw [ask_err he h0, if_pos h0]
    rw [hw]
    repeat' (first | simp (maxDischargeDepth := 9) -implicitDefEqProofs -dsimp only [go_sem, seval, *] | simp (disch := omega) only [wrap64, tmod2] | ((with_reducible refine Zv ?_ ?_); focus (first | omega | exact rfl)) | ((with_reducible refine Zu ?_ ?_); focus omega) | ((with_reducible apply ACalls.one1); (focus ((first | with_reducible refine ref_Check b.1 b.2 _ hl) <;> (first | (simp (maxDischargeDepth := 9) -implicitDefEqProofs -dsimp only [go_sem, seval, *]; done) | omega))); (focus (first | trivial | with_reducible exact rfl | (simp (maxDischargeDepth := 9) -implicitDefEqProofs -dsimp only [go_sem, seval]; done)))))
    refine fin_eq ?_
    (repeat' (first | simp (maxDischargeDepth := 9) -implicitDefEqProofs -dsimp only [go_sem, seval, List.map_nil, *] | simp (disch := omega) only [wrap64, tmod2])) <;> (repeat' refine And.intro ?_ ?_) <;> (first | omega | rfl | assumption | skip)
end Go.Proofs.YtjichkelfhcbcaaGreat.B

namespace Fil.Bd
theorem T_app {vars : Int} {F l : List T3} (ho : Ok vars F) {f : Int} (i : In vars F 0 f) : T (vars, F ++ l) f = T (vars, F) f := tab_app ho l _ _ _ i.1 i.2.1
end Fil.Bd

