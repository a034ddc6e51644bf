/- blast: the law that of numbers numbers are made. -/
import Derived.Shelf.Bits.Mul64
import Derived.Laws.CopyOwn
import Derived.Test.YtbbihmmobfmadaaMBlaBlaR
set_option linter.unusedSimpArgs false
set_option linter.unusedVariables false
namespace Go.Proofs.Ytbbihmmobfmadaa
open Abs Fil Fil.Bl A Go.RowKit Go.Shelf Go.Lib
def ren212 : Ren where
  f := fun x => match x with
    | 212 => 86
    | 263 => 95
    | 264 => 96
    | n => n
  t := fun x => match x with
    | 46 => 107
    | 51 => 114
    | 53 => 36
    | 146 => 115
    | 148 => 117
    | n => n
  g := fun x => x
theorem body212 : Try.f86 = Body.n212 ren212 := by kernel_rfl
theorem body263 : Try.f95 = Body.n263 ren212 := by kernel_rfl
theorem body264 : Try.f96 = Body.n264 ren212 := by kernel_rfl
theorem lays212 : Lays.n212 Try.prog ren212 :=
  { mixed := by kernel_rfl, f212 := Eq.trans Try.func86 (congrArg some body212), f263 := Eq.trans Try.func95 (congrArg some body263), f264 := Eq.trans Try.func96 (congrArg some body264),
    t46 := Try.underlying107, a46 := Try.isAgg107, z46 := Try.sizeOf107, v46 := Try.zeroValue107,
    t51 := Try.underlying114, a51 := Try.isAgg114, z51 := Try.sizeOf114, v51 := Try.zeroValue114,
    t53 := Try.underlying36, a53 := Try.isAgg36, z53 := Try.sizeOf36, v53 := Try.zeroValue36,
    t146 := Try.underlying115, a146 := Try.isAgg115, z146 := Try.sizeOf115, v146 := Try.zeroValue115,
    t148 := Try.underlying117, a148 := Try.isAgg117, z148 := Try.sizeOf117, v148 := Try.zeroValue117 }
theorem mul_run (x y : Nat) (hx : x < 18446744073709551616) (hy : y < 18446744073709551616) (w : World) :
    CallsIn Fence.wide 7 Try.prog 86 #[.int .u64 x, .int .u64 y] w fun e w' => e = .returned (.tuple #[.int .u64 ((x * y / 18446744073709551616 : Nat) : Int), .int .u64 ((x * y % 18446744073709551616 : Nat) : Int)]) ∧ w' = w :=
  callsIn_wide.2 (Any.bits_Mul lays212 x y hx hy w)
theorem make_run (c : Nat) (hc : c ≤ 64) (W : World) : ∃ Z : Array Value, Z.size = c ∧ (Instr.makeSlice 24 (.int .i64 (c : Int)) (.int .i64 (c : Int))).run Try.prog W = .ok (.slice (some ⟨W.heap.size, 0, none⟩) c c) (W.alloc (.cells Z 3)) := by
  obtain ⟨i, h1, h2, h3, h4⟩ : ∃ i, Try.prog.info? 3 = some i ∧ i.size = 1 ∧ i.bytes = 8 ∧ i.zero = some (.int .i64 0) := by
    cases h : Try.prog.info? 3 with
    | none => exact absurd (show (Try.prog.info? 3).isSome = true by kernel_rfl) (by rw [h]; simp)
    | some i =>
      refine ⟨i, rfl, ?_, ?_, ?_⟩
      · have : (Try.prog.info? 3).map (·.size) = some 1 := by kernel_rfl
        rw [h] at this; simpa using this
      · have : (Try.prog.info? 3).map (·.bytes) = some 8 := by kernel_rfl
        rw [h] at this; simpa using this
      · have : (Try.prog.info? 3).bind (·.zero) = some (.int .i64 0) := by kernel_rfl
        rw [h] at this; simpa using this
  have := run_makeSlice (P := Try.prog) W 24 3 i (.int .i64 0) Try.underlying24 h1 h4 .i64 .i64 c c (by omega) (Int.le_refl _) (by rw [h2]; simp; omega) (by rw [h3]; omega) (by omega)
  simp only [Int.toNat_natCast, h2, Nat.mul_one] at this
  exact ⟨_, size_madeCells _ _, this⟩
section walks
attribute [local go_sem] Oper.semAt_some
set_option maxRecDepth 100000 in
set_option maxHeartbeats 2000000 in
theorem repeat0_in (b off cap : Nat) (W : World) :
    CallsIn Fence.wide 8 Try.prog 68 #[.slice (some ⟨b, off, none⟩) 1 cap, .int .i64 0] W fun e W' => e = .returned (.slice (some ⟨W.heap.size, 0, none⟩) 0 0) ∧ Below W.heap.size W W' ∧ W'.heap.size = W.heap.size + 1 ∧ ∃ Z t, W'.heap[W.heap.size]? = some (.cells Z t (0, 0)) := by
  have hmul := mul_run 1 0 (by omega) (by omega) W
  have e1 : 1 * 0 / 18446744073709551616 = 0 := by omega
  have e2 : 1 * 0 % 18446744073709551616 = 0 := by omega
  rw [e1, e2] at hmul
  obtain ⟨Z, hZ, hmake⟩ := make_run 0 (by omega) W
  obtain ⟨W1, hW1⟩ : ∃ W1, W.alloc (.cells Z 3) = W1 := ⟨_, rfl⟩
  rw [hW1] at hmake
  have hB1 : Below W.heap.size W W1 := by rw [← hW1]; exact (Below.refl _ _).alloc (Nat.le_refl _) _
  have hs1 : W1.heap.size = W.heap.size + 1 := by rw [← hW1]; simp
  have hr1 : W1.heap[W.heap.size]? = some (.cells Z 3 (0, 0)) := by rw [← hW1]; exact World.alloc_heap_new _ _
  obtain ⟨B, hB⟩ : ∃ B, W.heap.size = B := ⟨_, rfl⟩
  rw [hB] at hmake hB1 hs1 hr1 ⊢
  have hcp1 := run_copy_none (P := Try.prog) W1 24 24 3 3 (some ⟨B, 0, none⟩) (some ⟨b, off, none⟩) 0 0 1 cap Try.underlying24 (by kernel_rfl) (by rfl)
  clear hW1 hZ
  simp only [Int.natCast_zero] at hmul hmake
  refine callsIn_of_wp Try.func68 rfl trivial ?_ rfl
  simp only [Try.ntmps68, List.size_toArray, List.length_cons, List.length_nil, Nat.reduceAdd, Nat.reduceSub, Array.replicate_succ, Array.replicate_zero, List.push_toArray, List.append_toArray, List.nil_append, List.cons_append]
  gi_wp2
  refine ⟨trivial, CallsIn.mono hmul ?_⟩
  rintro e w' ⟨rfl, hww⟩
  rw [hww]
  clear hww w'
  gi_wp2
  gi_loopw [8] (fun i wr => i = .int .i64 0 ∧ wr = W1) (fun _ _ => 0)
  case atStart => exact ⟨rfl, rfl⟩
  case round =>
    obtain ⟨rfl, rfl⟩ := hrel
    gi_wp2
    go_ret
    exact ⟨rfl, hB1, hs1, _, _, hr1⟩
set_option maxRecDepth 100000 in
set_option maxHeartbeats 4000000 in
theorem repeat1_in (b off cap : Nat) (m : Int) (c : Nat) (hc : 1 ≤ c ∧ c ≤ 64) (W : World) (hcell : W.cell? ⟨b, off, none⟩ = some (.int .i64 m)) :
    CallsIn Fence.wide 8 Try.prog 68 #[.slice (some ⟨b, off, none⟩) 1 cap, .int .i64 c] W fun e W' => e = .returned (.slice (some ⟨W.heap.size, 0, none⟩) c c) ∧ Below W.heap.size W W' ∧ W'.heap.size = W.heap.size + 1 ∧ ∃ t, W'.heap[W.heap.size]? = some (.cells (Array.replicate c (.int .i64 m)) t (0, 0)) := by
  have hmul := mul_run 1 c (by omega) (by omega) W
  have e1 : 1 * c / 18446744073709551616 = 0 := by omega
  have e2 : 1 * c % 18446744073709551616 = c := by omega
  rw [e1, e2] at hmul
  obtain ⟨Z, hZ, hmake⟩ : ∃ Z : Array Value, Z.size = c ∧ (Instr.makeSlice 24 (.int .i64 (c : Int)) (.int .i64 (c : Int))).run Try.prog W = .ok (.slice (some ⟨W.heap.size, 0, none⟩) c c) (W.alloc (.cells Z 3)) := make_run c (by omega) W
  obtain ⟨W1, hW1⟩ : ∃ W1, W.alloc (.cells Z 3) = W1 := ⟨_, rfl⟩
  rw [hW1] at hmake
  have hB1 : Below W.heap.size W W1 := by rw [← hW1]; exact (Below.refl _ _).alloc (Nat.le_refl _) _
  have hs1 : W1.heap.size = W.heap.size + 1 := by rw [← hW1]; simp
  have hr1 : W1.heap[W.heap.size]? = some (.cells Z 3 (0, 0)) := by rw [← hW1]; exact World.alloc_heap_new _ _
  have hblt : b < W.heap.size := block_lt_of_cell hcell
  have hc1 : W1.cell? ⟨b, off, none⟩ = some (.int .i64 m) := (hB1.cell (p := ⟨b, off, none⟩) hblt).trans hcell
  obtain ⟨B, hB⟩ : ∃ B, W.heap.size = B := ⟨_, rfl⟩
  rw [hB] at hmake hB1 hs1 hr1 hblt ⊢
  have hcp1 := run_copy_row (P := Try.prog) W1 24 24 3 3 B 0 c c ⟨b, off, none⟩ 1 cap Z 3 [.int .i64 m] Try.underlying24 (by kernel_rfl) hr1 (by show 1 = min 1 c; omega) (fun j v h => by
    cases j with
    | zero => simp at h; subst h; simpa [Addr.add] using hc1
    | succ j => simp at h) (by simp; omega) (by simp [Value.oneCell'])
  simp only [List.length_singleton] at hcp1
  clear hW1
  refine callsIn_of_wp Try.func68 rfl trivial ?_ rfl
  simp only [Try.ntmps68, List.size_toArray, List.length_cons, List.length_nil, Nat.reduceAdd, Nat.reduceSub, Array.replicate_succ, Array.replicate_zero, List.push_toArray, List.append_toArray, List.nil_append, List.cons_append]
  gi_wp2
  refine ⟨trivial, CallsIn.mono hmul ?_⟩
  rintro e w' ⟨rfl, hww⟩
  rw [hww]
  clear hww w'
  gi_wp2
  have hmix : Try.prog.follows .mixedOrders = true := mixed
  gi_loopw [8] (fun i wr => ∃ n : Nat, 1 ≤ n ∧ n ≤ c ∧ i = .int .i64 n ∧ Below B W wr ∧ wr.heap.size = B + 1 ∧ wr.heap[B]? = some (.cells (List.replicate n (Value.int .i64 m) ++ Z.toList.drop n).toArray 3 (0, 0)))
    (fun i _ => c - (intOf i).toNat)
  case atStart =>
    refine ⟨1, by omega, by omega, rfl, below_setRow hB1 (Nat.le_refl _) _, ?_, ?_⟩
    · simp [World.setRow, hs1]
    · rw [setRow_heap _ _ _ _ _ _ hr1]
      simp
  case round =>
    obtain ⟨n, hn1, hnc, rfl, hBw, hsw, hrw⟩ := hrel
    by_cases hlt : n < c
    · obtain ⟨k, hk⟩ : ∃ k, min n (c - n) = k := ⟨_, rfl⟩
      have hcp2 := run_copy_row (P := Try.prog) wr.drew 24 24 3 3 B n (c - n) (c - n) ⟨B, 0, none⟩ n c (List.replicate n (Value.int .i64 m) ++ Z.toList.drop n).toArray 3 (List.replicate k (.int .i64 m)) Try.underlying24 (by kernel_rfl) hrw (by rw [List.length_replicate]; exact hk.symm) (fun j v h => by
        have hj : j < k := by
          have := (List.getElem?_eq_some_iff.1 h).1
          simpa using this
        have hv : v = .int .i64 m := by
          rw [List.getElem?_replicate, if_pos hj] at h
          simpa using h.symm
        subst hv
        have hadd : (⟨B, 0, none⟩ : Addr).add j = ⟨B, j, none⟩ := by unfold Addr.add; split <;> simp_all
        rw [hadd]
        show wr.cell? ⟨B, j, none⟩ = _
        simp only [World.cell?, hrw]
        have : (List.replicate n (Value.int .i64 m) ++ Z.toList.drop n)[j]? = some (.int .i64 m) := by
          rw [List.getElem?_append_left (by simp; omega), List.getElem?_replicate, if_pos (by omega)]
        simpa using this) (by simp [hZ]; omega) (fun v hv => by rw [(List.mem_replicate.1 hv).2]; rfl)
      simp only [List.length_replicate] at hcp2
      gi_wp2
      gi_region
      go_roundw
      case rel =>
        refine ⟨_, _, _, _, _, _, _, _, _, _, _, _, _, _, ⟨n + k, by omega, by omega, by simp, below_setRow hBw.drew (Nat.le_refl _) _, ?_, ?_⟩, rfl⟩
        · rw [setRow_size]; exact hsw
        · rw [setRow_heap wr.drew _ _ _ _ _ hrw]
          have e : List.drop (n + k) (List.replicate n (Value.int .i64 m) ++ Z.toList.drop n) = Z.toList.drop (n + k) := by
            rw [List.drop_append, List.length_replicate, Nat.add_sub_cancel_left, List.drop_drop, List.drop_eq_nil_of_le (by simp), List.nil_append]
          rw [e]
      case measure => simp [intOf]; omega
    · obtain rfl : n = c := by omega
      gi_wp2
      go_ret
      refine ⟨rfl, hBw, hsw, 3, ?_⟩
      rw [hrw, List.drop_eq_nil_of_le (by simp [hZ])]
      simp
end walks
theorem pushed_of {w w' : World} {ob : Obj} (h : Below w.heap.size w w') (hs : w'.heap.size = w.heap.size + 1) (ho : w'.heap[w.heap.size]? = some ob) : Pushed w w' ob := by
  refine ⟨h.os, h.tape, h.output, Array.ext_getElem? fun i => ?_⟩
  rcases Nat.lt_trichotomy i w.heap.size with hi | hi | hi
  · rw [h.block i hi, Array.getElem?_push, if_neg (by omega)]
  · subst hi; rw [ho]; simp
  · rw [Array.getElem?_eq_none (by omega), Array.getElem?_eq_none (by simp; omega)]
theorem sl_repeat (m : Int) (t : Tok) (c : Nat) (hc : c ≤ 64) (σ : Sig) :
    ACalls Try.prog 68 [encW [m] t, .int .i64 c] σ (fun r σ' => r = .ret (encW (List.replicate c m) .no) ∧ σ' = σ) := by
  refine ⟨by kernel_rfl, fun S K w vals hS hr hs => ?_⟩
  obtain ⟨v0, r, hv, h1, h2⟩ := hr.cons_inv
  obtain ⟨v1, r', rfl, h3, h4⟩ := h2.cons_inv
  have hr0 : r' = [] := by have := h4.1; simpa using this.symm
  subst hr0
  obtain rfl := array_two hv
  obtain rfl := rel_int h3
  rcases rel_slice h1 with ⟨a, cap, rfl, e1, _⟩ | ⟨b, off, cap, sz, u, rfl, u1, u2, u3, _, _⟩
  · simp at e1
  have hcl : K.claim b off = some (.int .i64 m) := by
    have h5 := u2 0 (by simp [flat, cellsA])
    have h6 := u3 0 (by simp [flat, cellsA])
    have h7 : Rel K (.int .i64 m) (u 0) := by simpa [flat, cellsA] using h6
    rw [rel_int h7] at h5
    simpa using h5
  by_cases hc0 : c = 0
  · subst hc0
    refine (callsIn_wide.1 (repeat0_in b off cap w)).mono ?_
    rintro e w' ⟨rfl, h5, h6, Z, tt, h7⟩
    obtain ⟨k1, k2⟩ := hs.push (pushed_of h5 h6 h7) rfl (fun _ => none) (fun i v e => by simp at e)
    exact ⟨_, .ret (encW [] .no), σ, Gh.leS_own k1 rfl, k2, .sl0 _ _ _ (.inl rfl), rfl, rfl⟩
  · refine (callsIn_wide.1 (repeat1_in b off cap m c (by omega) w (hs.claim b off _ hcl))).mono ?_
    rintro e w' ⟨rfl, h5, h6, tt, h7⟩
    obtain ⟨k1, k2⟩ := hs.push (pushed_of h5 h6 h7) rfl (fun i => if i < c then some (.int .i64 m) else none) (fun i v e => by
      split at e <;> simp at e
      rename_i hi
      subst e
      exact ⟨by simp [World.cell?, h7, hi], rfl⟩)
    have hfl := flat_ints (List.replicate c m)
    refine ⟨_, .ret (encW (List.replicate c m) .no), σ, Gh.leS_own k1 rfl, k2, ?_, rfl, rfl⟩
    have hlen : ((List.replicate c m).map fun x => AV.int .i64 x).length = c := by simp
    show Rel _ (encW (List.replicate c m) .no) _
    have := Rel.slice (K := K.claimed w.heap.size fun i => if i < c then some (.int .i64 m) else none) ((List.replicate c m).map fun x => AV.int .i64 x) .no w.heap.size 0 c 1 (fun _ => .int .i64 m) (fun x hx => by
      obtain ⟨y, _, rfl⟩ := List.mem_map.1 hx; rfl) (fun i hi => by
      rw [hfl, hlen] at hi
      simp [Gh.claimed, hi]) (fun i hi => by
      rw [hfl, hlen] at hi
      simp only [hfl, List.getElem_map, List.getElem_replicate]
      exact .int _ _) trivial (by rw [hlen]; exact Nat.le_refl _)
    rw [hlen] at this
    exact this
end Go.Proofs.Ytbbihmmobfmadaa

namespace Go.Proofs.Ytbbihmmobfmadaa
open Abs Fil Fil.Bl A
theorem no_listB {P : Program} {f : FuncId} {args : List AV} {σ : Sig} {l : List AV} {sz n : Nat} (h : ACalls P f args σ (fun r σ' => (l = [] ∧ r = .ret (.slice [] .nil) ∧ σ' = σ) ∨ NewO σ (fun o => .slice l (.own o)) (.grow sz n) r σ')) :
    ACalls P f args σ (fun r σ' => r = .ret (.slice l .no) ∧ σ' = σ) := by
  refine h.view fun r s h => ?_
  rcases h with ⟨rfl, rfl, rfl⟩ | ⟨o, ho, rfl, rfl⟩
  · exact ⟨_, .slice [] .no, _, rfl, vr_of (by simp only [go_sem]) (by simp only [go_sem]), rfl, rfl⟩
  · exact ⟨_, .slice l .no, _, rfl, vr_of (by simp only [go_sem]) (by simp only [go_sem, ho, implies_true, ne_eq, not_true_eq_false, reduceCtorEq, not_false_eq_true]), rfl, rfl⟩
theorem sl_growIntB (n : Int) (σ : Sig) (h0 : 0 < n) (hb1 : n * 8 ≤ 35184372088832) (hn2 : n ≤ 1000000000000) :
    ACalls Try.prog 85 [.slice [] .nil, .int .i64 n] σ (fun r σ' => ∃ o, σ o = none ∧ r = .ret (.slice [] (.own o)) ∧ σ' = upd σ o (.grow 1 0)) :=
  lib_grow (sz := 1) (bytes := 8) mixed Try.func85 b85 n85 rfl q85 n h0 (by simpa using hb1) hn2
theorem sl_growIntB0 (σ : Sig) : ACalls Try.prog 85 [.slice [] .nil, .int .i64 0] σ (fun r σ' => r = .ret (.slice [] .nil) ∧ σ' = σ) :=
  lib_grow0 (sz := 1) (bytes := 8) mixed Try.func85 b85 n85 rfl q85
theorem sl_concatB (ls : List (List Int)) (σ : Sig) (hlen : ls.length ≤ 1000000) (htot : ls.flatten.length ≤ 1000000000) :
    ACalls Try.prog 67 [.slice (ls.map (encRow encInt)) .no] σ (fun r σ' => r = .ret (.slice (ls.flatten.map encInt) .no) ∧ σ' = σ) := by
  refine no_listB (sz := 1) (n := ls.flatten.length) ?_
  refine (lib_concat (sz := 1) (bytes := 8) mixed Try.func67 b67 n67 rfl q67 (fun _ => rfl) (fun σ n h1 h2 h3 => sl_growIntB n σ h1 (by simpa using h2) h3) sl_growIntB0 ls hlen htot (by decide)).mono fun r s h => ?_
  rcases h with ⟨h1, h2, h3⟩ | h
  · exact .inl ⟨by rw [h1]; rfl, h2, h3⟩
  · exact .inr h
theorem sl_concat2B (a b : List Int) (σ : Sig) (h : a.length + b.length ≤ 1000000000) :
    ACalls Try.prog 67 [.slice [encW a .no, encW b .no] .no] σ (fun r σ' => r = .ret (encW (a ++ b) .no) ∧ σ' = σ) := by
  have := sl_concatB [a, b] σ (by simp) (by simpa using h)
  rw [show [a, b].flatten = a ++ b by simp] at this
  exact this
theorem sl_concat2T (a b : List Int) (t : Tok) (σ : Sig) (h : a.length + b.length ≤ 1000000000) :
    ACalls Try.prog 67 [.slice [encW a t, encW b .no] .full] σ (fun r σ' => r = .ret (encW (a ++ b) .no) ∧ σ' = σ) :=
  ACalls.fl (sl_concat2B a b σ h) (.cons (.slice _ _ _ _ (.inl rfl) rfl fun i h0 h1 => by
    match i, h0, h1 with
    | 0, _, _ => exact .slice _ _ _ _ (.inl rfl) rfl fun _ _ _ => .refl _
    | 1, _, _ => exact .refl _) (.refl _ _)) (fun o _ x e => ⟨x, e, .refl _ x⟩)
theorem sl_repeatT (m : Int) (t : Tok) (c : Nat) (hc : c ≤ 64) (σ : Sig) :
    ACalls Try.prog 68 [.slice [.int .i64 m] t, .int .i64 c] σ (fun r σ' => r = .ret (encW (List.replicate c m) .no) ∧ σ' = σ) := sl_repeat m t c hc σ
theorem sl_cloneB (l : List Int) (t : Tok) (σ : Sig) (h : l.length ≤ 1000000) :
    ACalls Try.prog 66 [encW l t] σ (fun r σ' => r = .ret (encW l .no) ∧ σ' = σ) := by
  refine calls_x mixed Try.func66 b66 n66 rfl q66 (by simp) ?_; unfold c66 r66
  cases l with
  | nil =>
    repeat' (first | simp (maxDischargeDepth := 9) -implicitDefEqProofs -dsimp only [go_sem, seval, List.map_nil, *] | ((with_reducible refine Zv ?_ ?_); focus (first | omega | exact rfl)) | ((with_reducible refine Zt (fun oF hoF hnF hnF' => ?_)); (try simp only [upd_none, ne_eq, not_and] at hoF)))
    refine ⟨?_, ?_⟩
    · refine fin_eq ?_
      (repeat' (first | simp (maxDischargeDepth := 9) -implicitDefEqProofs -dsimp only [go_sem, seval, List.map_nil, encW, *])) <;> (repeat' refine And.intro ?_ ?_) <;> (first | omega | rfl | assumption | skip)
    · refine fin_eq ?_
      (repeat' (first | simp (maxDischargeDepth := 9) -implicitDefEqProofs -dsimp only [go_sem, seval, List.map_nil, encW, *])) <;> (repeat' refine And.intro ?_ ?_) <;> (first | omega | rfl | assumption | skip)
  | cons x l =>
    have h' : l.length ≤ 999999 := by simp only [List.length_cons] at h; omega
    repeat' (first | simp (maxDischargeDepth := 9) -implicitDefEqProofs -dsimp only [go_sem, seval, List.map_cons, *] | ((with_reducible refine Zv ?_ ?_); focus (first | omega | exact rfl)) | ((with_reducible refine Zt (fun oF hoF hnF hnF' => ?_)); (try simp only [upd_none, ne_eq, not_and] at hoF)))
    all_goals first | (exfalso; simp at hq; done) | skip
    refine fin_eq ?_
    (repeat' (first | simp (maxDischargeDepth := 9) -implicitDefEqProofs -dsimp only [go_sem, seval, List.map_cons, List.nil_append, encW, *])) <;> (repeat' refine And.intro ?_ ?_) <;> (first | omega | rfl | assumption | skip)
theorem bl_extended (op : Int) (w : Nat) (a : List Int) (t : Tok) (σ : Sig) (h1 : 1 ≤ a.length) (hl : a.length ≤ 64) (hw : 1 ≤ w ∧ w ≤ 64) (ho : (op = 31 ∨ op = 32) ∧ a.length ≤ w ∨ op = 33 ∧ w ≤ a.length) :
    ACalls Try.prog 43 [.int .i64 op, .int .i64 w, encW a t] σ (fun r σ' => r = .ret (encW (extW op w a) .no) ∧ σ' = σ) := by
  rcases ho with ⟨h31 | h32, hle⟩ | ⟨h33, hle⟩
  · subst h31
    have e : extW 31 w a = a ++ List.replicate (w - a.length) 0 := by unfold extW; rw [if_neg (by decide), if_neg (by decide)]; simp
    rw [e]
    have c1 := fun τ => sl_repeatT 0 .full (w - a.length) (by omega) τ
    have c2 := fun τ => sl_concat2T a (List.replicate (w - a.length) 0) t τ (by simp; omega)
    have hsub : (w : Int) - (a.length : Int) = ((w - a.length : Nat) : Int) := by omega
    clear e
    refine calls_x mixed Try.func43 b43 n43 rfl q43 (by simp) ?_; unfold c43 r43
    repeat' (first | simp (maxDischargeDepth := 9) -implicitDefEqProofs -dsimp only [go_sem, seval, List.length_map, *] | simp (disch := omega) only [wrap64] | ((with_reducible apply ACalls.one1); (focus ((first | with_reducible refine c1 _ | with_reducible refine c2 _) <;> (first | (simp (maxDischargeDepth := 9) -implicitDefEqProofs -dsimp only [go_sem, seval, *]; done) | omega))); (focus (first | trivial | with_reducible exact rfl | (simp (maxDischargeDepth := 9) -implicitDefEqProofs -dsimp only [go_sem, seval]; done)))))
    refine fin_eq ?_
    (repeat' (first | simp (maxDischargeDepth := 9) -implicitDefEqProofs -dsimp only [go_sem, seval, encW, *] | simp (disch := omega) only [wrap64])) <;> (repeat' refine And.intro ?_ ?_) <;> (first | omega | rfl | assumption | skip)
  · subst h32
    have e : extW 32 w a = a ++ List.replicate (w - a.length) (gt a (a.length - 1)) := by unfold extW; rw [if_neg (by decide), if_pos rfl]; simp
    rw [e]
    obtain ⟨m, hm⟩ : ∃ m, gt a (a.length - 1) = m := ⟨_, rfl⟩
    have hgx : (a.map fun x => AV.int .i64 x)[a.length - 1]? = some (.int .i64 m) := by
      rw [← hm]; simp [gt, List.getD_eq_getElem?_getD, show a.length - 1 < a.length by omega]
    rw [hm]
    have c1 := fun τ => sl_repeatT m .full (w - a.length) (by omega) τ
    have c2 := fun τ => sl_concat2T a (List.replicate (w - a.length) m) t τ (by simp; omega)
    have hsub : (w : Int) - (a.length : Int) = ((w - a.length : Nat) : Int) := by omega
    have hsub1 : (a.length : Int) - 1 = ((a.length - 1 : Nat) : Int) := by omega
    have hlt : a.length - 1 < a.length := by omega
    clear e hm
    refine calls_x mixed Try.func43 b43 n43 rfl q43 (by simp) ?_; unfold c43 r43
    repeat' (first | simp (maxDischargeDepth := 9) -implicitDefEqProofs -dsimp only [go_sem, seval, List.length_map, *] | simp (disch := omega) only [wrap64] | ((with_reducible apply ACalls.one1); (focus ((first | with_reducible refine c1 _ | with_reducible refine c2 _) <;> (first | (simp (maxDischargeDepth := 9) -implicitDefEqProofs -dsimp only [go_sem, seval, *]; done) | omega))); (focus (first | trivial | with_reducible exact rfl | (simp (maxDischargeDepth := 9) -implicitDefEqProofs -dsimp only [go_sem, seval]; done)))))
    refine fin_eq ?_
    (repeat' (first | simp (maxDischargeDepth := 9) -implicitDefEqProofs -dsimp only [go_sem, seval, encW, *] | simp (disch := omega) only [wrap64])) <;> (repeat' refine And.intro ?_ ?_) <;> (first | omega | rfl | assumption | skip)
  · subst h33
    have e : extW 33 w a = a.take w := by unfold extW; rw [if_pos rfl]; simp
    rw [e]
    have c1 : ∀ τ, ACalls Try.prog 66 [.slice (List.take w (a.map fun x => AV.int .i64 x)) .no] τ (fun r σ' => r = .ret (encW (a.take w) .no) ∧ σ' = τ) := fun τ => by
      have := sl_cloneB (a.take w) .no τ (by simp; omega)
      rw [show encW (a.take w) .no = .slice (List.take w (a.map fun x => AV.int .i64 x)) .no by rw [encW, List.map_take]] at this ⊢
      exact this
    clear e
    refine calls_x mixed Try.func43 b43 n43 rfl q43 (by simp) ?_; unfold c43 r43
    repeat' (first | simp (maxDischargeDepth := 9) -implicitDefEqProofs -dsimp only [go_sem, seval, List.length_map, *] | simp (disch := omega) only [wrap64] | ((with_reducible apply ACalls.one1); (focus ((first | with_reducible refine c1 _) <;> (first | (simp (maxDischargeDepth := 9) -implicitDefEqProofs -dsimp only [go_sem, seval, *]; done) | omega))); (focus (first | trivial | with_reducible exact rfl | (simp (maxDischargeDepth := 9) -implicitDefEqProofs -dsimp only [go_sem, seval]; done)))))
    refine fin_eq ?_
    (repeat' (first | simp (maxDischargeDepth := 9) -implicitDefEqProofs -dsimp only [go_sem, seval, encW, *] | simp (disch := omega) only [wrap64])) <;> (repeat' refine And.intro ?_ ?_) <;> (first | omega | rfl | assumption | skip)
theorem bl_Ext1 (og oa ow oo : Nat) (g : Aig) (op w : Int) (x : List Int) (tx : Tok) (σ : Sig) (hf : Fine g) (hx : x.length ≤ 1000000)
    (h1 : σ og = some (.cells (aigL g))) (h2 : σ oa = some (.cells [encW x tx])) (h3 : σ ow = some (.cells [.int .i64 w])) (h4 : σ oo = some (.cells [.int .i64 op])) :
    ACalls Try.prog 41 [.ptr og 0, .ptr oa 0, .ptr ow 0, .ptr oo 0] σ (fun r σ' => r = .ret (.bool (mayExt g op w x)) ∧ σ' = σ) := by
  have c1 := fun τ => bl_word g x tx τ hf hx
  have hM : mayExt g op w x = (word g x && decide (1 ≤ w ∧ w ≤ 64 ∧ 31 ≤ op ∧ op ≤ 33 ∧ (w = x.length ∨ (w < x.length ↔ op = 33)))) := rfl
  obtain ⟨M, hMM⟩ : ∃ M, mayExt g op w x = M := ⟨_, rfl⟩
  rw [hMM] at hM ⊢
  obtain ⟨X, hX⟩ : ∃ X, word g x = X := ⟨_, rfl⟩
  rw [hX] at c1 hM
  clear hMM hX hf
  cases X with
  | false =>
    simp only [Bool.false_and] at hM
    subst hM
    refine calls_x mixed Try.func41 b41 n41 rfl q41 (by simp) ?_; unfold c41 r41
    repeat' (first | simp (maxDischargeDepth := 9) -implicitDefEqProofs -dsimp only [go_sem, seval, *] | ((with_reducible apply ACalls.one1); (focus ((first | with_reducible refine c1 _) <;> (first | (simp (maxDischargeDepth := 9) -implicitDefEqProofs -dsimp only [go_sem, seval, *]; done) | omega))); (focus (first | trivial | with_reducible exact rfl | (simp (maxDischargeDepth := 9) -implicitDefEqProofs -dsimp only [go_sem, seval]; done)))))
    refine fin_eq ?_
    (repeat' (first | simp (maxDischargeDepth := 9) -implicitDefEqProofs -dsimp only [go_sem, seval, *])) <;> (repeat' refine And.intro ?_ ?_) <;> (first | omega | rfl | assumption | skip)
  | true =>
    simp only [Bool.true_and] at hM
    by_cases o1 : w < 1
    · have e : M = false := by rw [hM, decide_eq_false_iff_not]; omega
      subst e
      clear hM
      refine calls_x mixed Try.func41 b41 n41 rfl q41 (by simp) ?_; unfold c41 r41
      repeat' (first | simp (maxDischargeDepth := 9) -implicitDefEqProofs -dsimp only [go_sem, seval, gt_iff_lt, *] | ((with_reducible apply ACalls.one1); (focus ((first | with_reducible refine c1 _) <;> (first | (simp (maxDischargeDepth := 9) -implicitDefEqProofs -dsimp only [go_sem, seval, *]; done) | omega))); (focus (first | trivial | with_reducible exact rfl | (simp (maxDischargeDepth := 9) -implicitDefEqProofs -dsimp only [go_sem, seval]; done)))))
      refine fin_eq ?_
      (repeat' (first | simp (maxDischargeDepth := 9) -implicitDefEqProofs -dsimp only [go_sem, seval, *])) <;> (repeat' refine And.intro ?_ ?_) <;> (first | omega | rfl | assumption | skip)
    by_cases o2 : 64 < w
    · have e : M = false := by rw [hM, decide_eq_false_iff_not]; omega
      subst e
      clear hM
      refine calls_x mixed Try.func41 b41 n41 rfl q41 (by simp) ?_; unfold c41 r41
      repeat' (first | simp (maxDischargeDepth := 9) -implicitDefEqProofs -dsimp only [go_sem, seval, gt_iff_lt, *] | ((with_reducible apply ACalls.one1); (focus ((first | with_reducible refine c1 _) <;> (first | (simp (maxDischargeDepth := 9) -implicitDefEqProofs -dsimp only [go_sem, seval, *]; done) | omega))); (focus (first | trivial | with_reducible exact rfl | (simp (maxDischargeDepth := 9) -implicitDefEqProofs -dsimp only [go_sem, seval]; done)))))
      refine fin_eq ?_
      (repeat' (first | simp (maxDischargeDepth := 9) -implicitDefEqProofs -dsimp only [go_sem, seval, *])) <;> (repeat' refine And.intro ?_ ?_) <;> (first | omega | rfl | assumption | skip)
    by_cases o3 : op < 31
    · have e : M = false := by rw [hM, decide_eq_false_iff_not]; omega
      subst e
      clear hM
      refine calls_x mixed Try.func41 b41 n41 rfl q41 (by simp) ?_; unfold c41 r41
      repeat' (first | simp (maxDischargeDepth := 9) -implicitDefEqProofs -dsimp only [go_sem, seval, gt_iff_lt, *] | ((with_reducible apply ACalls.one1); (focus ((first | with_reducible refine c1 _) <;> (first | (simp (maxDischargeDepth := 9) -implicitDefEqProofs -dsimp only [go_sem, seval, *]; done) | omega))); (focus (first | trivial | with_reducible exact rfl | (simp (maxDischargeDepth := 9) -implicitDefEqProofs -dsimp only [go_sem, seval]; done)))))
      refine fin_eq ?_
      (repeat' (first | simp (maxDischargeDepth := 9) -implicitDefEqProofs -dsimp only [go_sem, seval, *])) <;> (repeat' refine And.intro ?_ ?_) <;> (first | omega | rfl | assumption | skip)
    by_cases o4 : 33 < op
    · have e : M = false := by rw [hM, decide_eq_false_iff_not]; omega
      subst e
      clear hM
      refine calls_x mixed Try.func41 b41 n41 rfl q41 (by simp) ?_; unfold c41 r41
      repeat' (first | simp (maxDischargeDepth := 9) -implicitDefEqProofs -dsimp only [go_sem, seval, gt_iff_lt, *] | ((with_reducible apply ACalls.one1); (focus ((first | with_reducible refine c1 _) <;> (first | (simp (maxDischargeDepth := 9) -implicitDefEqProofs -dsimp only [go_sem, seval, *]; done) | omega))); (focus (first | trivial | with_reducible exact rfl | (simp (maxDischargeDepth := 9) -implicitDefEqProofs -dsimp only [go_sem, seval]; done)))))
      refine fin_eq ?_
      (repeat' (first | simp (maxDischargeDepth := 9) -implicitDefEqProofs -dsimp only [go_sem, seval, *])) <;> (repeat' refine And.intro ?_ ?_) <;> (first | omega | rfl | assumption | skip)
    by_cases o5 : w = x.length
    · have e : M = true := by rw [hM, decide_eq_true_iff]; exact ⟨by omega, by omega, by omega, by omega, .inl o5⟩
      have b5 : (w == (x.length : Int)) = true := by rw [beq_iff_eq]; exact o5
      subst e
      clear hM o5
      refine calls_x mixed Try.func41 b41 n41 rfl q41 (by simp) ?_; unfold c41 r41
      repeat' (first | simp (maxDischargeDepth := 9) -implicitDefEqProofs -dsimp only [go_sem, seval, gt_iff_lt, List.length_map, *] | ((with_reducible apply ACalls.one1); (focus ((first | with_reducible refine c1 _) <;> (first | (simp (maxDischargeDepth := 9) -implicitDefEqProofs -dsimp only [go_sem, seval, *]; done) | omega))); (focus (first | trivial | with_reducible exact rfl | (simp (maxDischargeDepth := 9) -implicitDefEqProofs -dsimp only [go_sem, seval]; done)))))
      refine fin_eq ?_
      (repeat' (first | simp (maxDischargeDepth := 9) -implicitDefEqProofs -dsimp only [go_sem, seval, *])) <;> (repeat' refine And.intro ?_ ?_) <;> (first | omega | rfl | assumption | skip)
    · have b5 : (w == (x.length : Int)) = false := by rw [beq_eq_false_iff_ne]; exact o5
      have e : M = (decide (w < (x.length : Int)) == (op == 33)) := by
        rw [hM, Bool.eq_iff_iff, decide_eq_true_iff, beq_iff_eq, Bool.eq_iff_iff, decide_eq_true_iff, beq_iff_eq]
        constructor
        · rintro ⟨_, _, _, _, h | h⟩
          · exact absurd h o5
          · exact h
        · intro h
          exact ⟨by omega, by omega, by omega, by omega, .inr h⟩
      subst e
      clear hM o5
      refine calls_x mixed Try.func41 b41 n41 rfl q41 (by simp) ?_; unfold c41 r41
      repeat' (first | simp (maxDischargeDepth := 9) -implicitDefEqProofs -dsimp only [go_sem, seval, gt_iff_lt, List.length_map, *] | ((with_reducible apply ACalls.one1); (focus ((first | with_reducible refine c1 _) <;> (first | (simp (maxDischargeDepth := 9) -implicitDefEqProofs -dsimp only [go_sem, seval, *]; done) | omega))); (focus (first | trivial | with_reducible exact rfl | (simp (maxDischargeDepth := 9) -implicitDefEqProofs -dsimp only [go_sem, seval]; done)))))
      refine fin_eq ?_
      (repeat' (first | simp (maxDischargeDepth := 9) -implicitDefEqProofs -dsimp only [go_sem, seval, *])) <;> (repeat' refine And.intro ?_ ?_) <;> (first | omega | rfl | assumption | skip)
theorem bl_Ext2 (bo oo ow oa : Nat) (b : Bu) (op : Int) (w : Nat) (x : List Int) (tx : Tok) (σ : Sig) (h : σ bo = some (buC b)) (h1 : 1 ≤ x.length) (hl : x.length ≤ 64) (hw : 1 ≤ w ∧ w ≤ 64) (ho : (op = 31 ∨ op = 32) ∧ x.length ≤ w ∨ op = 33 ∧ w ≤ x.length) (h2 : σ oa = some (.cells [encW x tx])) (h3 : σ ow = some (.cells [.int .i64 w])) (h4 : σ oo = some (.cells [.int .i64 op])) :
    ACalls Try.prog 42 [.ptr bo 0, .ptr oo 0, .ptr ow 0, .ptr oa 0] σ (fun r σ' => r = .ret (encW (extW op w x) .no) ∧ σ' = σ) := by
  have c1 := fun τ => bl_extended op w x tx τ h1 hl hw ho
  obtain ⟨Z, hZ⟩ : ∃ Z, extW op w x = Z := ⟨_, rfl⟩
  rw [hZ] at c1 ⊢
  clear hZ h1 hl hw ho
  refine calls_x mixed Try.func42 b42 n42 rfl q42 (by simp) ?_; unfold c42 r42
  repeat' (first | simp (maxDischargeDepth := 9) -implicitDefEqProofs -dsimp only [go_sem, seval, *] | ((with_reducible apply ACalls.one1); (focus ((first | with_reducible refine c1 _) <;> (first | (simp (maxDischargeDepth := 9) -implicitDefEqProofs -dsimp only [go_sem, seval, *]; done) | omega))); (focus (first | trivial | with_reducible exact rfl | (simp (maxDischargeDepth := 9) -implicitDefEqProofs -dsimp only [go_sem, seval]; done)))))
  refine fin_eq ?_
  (repeat' (first | simp (maxDischargeDepth := 9) -implicitDefEqProofs -dsimp only [go_sem, seval, encW, *])) <;> (repeat' refine And.intro ?_ ?_) <;> (first | omega | rfl | assumption | skip)
set_option maxHeartbeats 2000000 in
theorem bl_Ext (g : Aig) (op w : Int) (x : List Int) (tx : Tok) (σ : Sig) (hs : Wf g) (hxl : x.length ≤ 1000000) :
    ACalls Try.prog 19 [encAig g, .int .i64 op, .int .i64 w, encW x tx] σ (fun r σ' => r = .ret (.tup [encAig (Ext g op w x).1, encW (Ext g op w x).2.1 .no, .int .i64 (Ext g op w x).2.2]) ∧ σ' = σ) := by
  have key : ∀ τ og oo ow oa, τ og = some (.cells (aigL g)) → τ oa = some (.cells [encW x tx]) → τ ow = some (.cells [.int .i64 w]) → τ oo = some (.cells [.int .i64 op]) →
      ACalls Try.prog 27 [encAig g, .fn 41 [] [.ptr og 0, .ptr oa 0, .ptr ow 0, .ptr oo 0], .fn 42 [] [.ptr oo 0, .ptr ow 0, .ptr oa 0]] τ (fun r σ' => r = .ret (.tup [encAig (Ext g op w x).1, encW (Ext g op w x).2.1 .no, .int .i64 (Ext g op w x).2.2]) ∧ σ' = τ) := fun τ og oo ow oa h1 h2 h3 h4 =>
    bl_made g _ _ _ _ (mayExt g op w x) (.ret (extW op w x)) τ hs
      (fun h0 o z ho => bl_Ext1 og oa ow oo g op w x tx _ (check_fine hs h0) hxl (kept ho h1) (kept ho h2) (kept ho h3) (kept ho h4))
      (fun h0 hm o z bo ho hb hne => by
        have hb' : upd τ o z bo = none := by simp [upd, hne, hb]
        unfold mayExt word at hm
        simp only [Bool.and_eq_true, decide_eq_true_eq] at hm
        obtain ⟨⟨⟨m1, m2⟩, m3⟩, m4, m5, m6, m7, m8⟩ := hm
        obtain ⟨n, rfl⟩ : ∃ n : Nat, w = n := ⟨w.toNat, by omega⟩
        have hn : (op = 31 ∨ op = 32) ∧ x.length ≤ n ∨ op = 33 ∧ n ≤ x.length := by
          rcases m8 with m8 | m8
          · omega
          · by_cases h33 : op = 33
            · exact .inr ⟨h33, by have := m8.2 h33; omega⟩
            · refine .inl ⟨by omega, ?_⟩
              have := fun h => h33 (m8.1 h)
              omega
        refine (bl_Ext2 bo oo ow oa ⟨g, 0⟩ op n x tx _ (by simp [upd]) (by omega) m2 (by omega) hn (kept hb' (kept ho h2)) (kept hb' (kept ho h3)) (kept hb' (kept ho h4))).mono fun r σ' ⟨q1, q2⟩ => ⟨q1, q2⟩)
  obtain ⟨Z, hZ⟩ : ∃ Z, Ext g op w x = Z := ⟨_, rfl⟩
  rw [hZ] at key ⊢
  obtain ⟨z1, z2, z3⟩ := Z
  simp only at key ⊢
  clear hZ hs hxl
  refine calls_x mixed Try.func19 b19 n19 rfl q19 (by simp) ?_; unfold c19 r19
  repeat' (first | simp (maxDischargeDepth := 9) -implicitDefEqProofs -dsimp only [go_sem, seval, *] | ((with_reducible refine Zt (fun oF hoF hnF hnF' => ?_)); (try simp only [upd_none, ne_eq, not_and] at hoF)) | ((with_reducible apply ACalls.one1); (focus ((first | with_reducible refine key _ _ _ _ _ ?_ ?_ ?_ ?_) <;> (first | (simp (maxDischargeDepth := 9) -implicitDefEqProofs -dsimp only [go_sem, seval, *]; done) | omega))); (focus (first | trivial | with_reducible exact rfl | (simp (maxDischargeDepth := 9) -implicitDefEqProofs -dsimp only [go_sem, seval]; done)))))
  refine fin_eq ?_
  (repeat' (first | simp (maxDischargeDepth := 9) -implicitDefEqProofs -dsimp only [go_sem, seval, encW, *])) <;> (repeat' refine And.intro ?_ ?_) <;> (first | omega | rfl | assumption | skip)
end Go.Proofs.Ytbbihmmobfmadaa

namespace Go.Proofs.Ytbbihmmobfmadaa
open Abs Fil Fil.Bl A
theorem wf_two2 : Wf ⟨2, [], [], []⟩ := ⟨by simp [I64], by simp, by simp, by simp, by simp, by simp, by simp⟩
theorem sm2 {x y : Int} (hx : I64 x) (hy : I64 y) : ∀ z ∈ [x, y], I64 z := by simp [hx, hy]
theorem sm1 {x : Int} (hx : I64 x) : ∀ z ∈ [x], I64 z := by simp [hx]
abbrev aig2 : AV := .agg [.int .i64 2, .slice [] .no, .slice [] .no, .slice [] .no]
abbrev aig0 : AV := .agg [.int .i64 0, .slice [] .no, .slice [] .no, .slice [] .no]
theorem i64_small {x : Int} (h : -100 ≤ x ∧ x ≤ 100) : I64 x := by unfold I64; omega
theorem ex_New (τ : Sig) : ACalls Try.prog 24 [.int .i64 2, .slice [] .nil] τ (fun r σ' => r = .ret (.tup [aig2, .int .i64 0]) ∧ σ' = τ) := by
  have h := aig_New 2 [] τ (i64_small (by decide)) (by simp)
  rw [show Aig.New 2 [] = (⟨2, [], [], []⟩, 0) by decide] at h
  exact ACalls.fl h (.cons (.refl _) (.cons (.slice _ _ _ _ (.inl rfl) rfl fun i h _ => by simp at h) (.nil _))) (fun o _ x e => ⟨x, e, .refl _ x⟩)
theorem ex_Bin (τ : Sig) : ACalls Try.prog 9 [aig2, .int .i64 14, .slice [.int .i64 2] .full, .slice [.int .i64 4] .full] τ
    (fun r σ' => r = .ret (.tup [.agg [.int .i64 2, .slice [] .no, .slice [encGate (2, 5), encGate (3, 4), encGate (7, 9), encGate (2, 4)] .no, .slice [] .no], .slice [.int .i64 11] .no, .int .i64 0]) ∧ σ' = τ) := by
  have h := bl_Bin ⟨2, [], [], []⟩ 14 [2] [4] .full .full τ wf_two2 (sm1 (i64_small (by decide))) (sm1 (i64_small (by decide))) (by simp) (by simp)
  rw [show Bin ⟨2, [], [], []⟩ 14 [2] [4] = (⟨2, [], [(2, 5), (3, 4), (7, 9), (2, 4)], []⟩, [11], 0) by decide] at h
  exact h
theorem ex_Bin2 (τ : Sig) : ACalls Try.prog 9 [aig2, .int .i64 14, .slice [.int .i64 2] .full, .slice [.int .i64 4, .int .i64 0] .full] τ
    (fun r σ' => r = .ret (.tup [aig0, .slice [] .no, .int .i64 1]) ∧ σ' = τ) := by
  have h := bl_Bin ⟨2, [], [], []⟩ 14 [2] [4, 0] .full .full τ wf_two2 (sm1 (i64_small (by decide))) (sm2 (i64_small (by decide)) (i64_small (by decide))) (by simp) (by simp)
  rw [show Bin ⟨2, [], [], []⟩ 14 [2] [4, 0] = (⟨0, [], [], []⟩, [], 1) by decide] at h
  exact h
theorem ex_Un (τ : Sig) : ACalls Try.prog 18 [aig2, .int .i64 1, .slice [.int .i64 2, .int .i64 5] .full] τ
    (fun r σ' => r = .ret (.tup [aig2, .slice [.int .i64 3, .int .i64 4] .no, .int .i64 0]) ∧ σ' = τ) := by
  have h := bl_Un ⟨2, [], [], []⟩ 1 [2, 5] .full τ wf_two2 (sm2 (i64_small (by decide)) (i64_small (by decide))) (by simp)
  rw [show Un ⟨2, [], [], []⟩ 1 [2, 5] = (⟨2, [], [], []⟩, [3, 4], 0) by decide] at h
  exact h
theorem ex_Un2 (τ : Sig) : ACalls Try.prog 18 [aig2, .int .i64 1, .slice [.int .i64 6] .full] τ
    (fun r σ' => r = .ret (.tup [aig0, .slice [] .no, .int .i64 1]) ∧ σ' = τ) := by
  have h := bl_Un ⟨2, [], [], []⟩ 1 [6] .full τ wf_two2 (sm1 (i64_small (by decide))) (by simp)
  rw [show Un ⟨2, [], [], []⟩ 1 [6] = (⟨0, [], [], []⟩, [], 1) by decide] at h
  exact h
theorem ex_Ext (τ : Sig) : ACalls Try.prog 19 [aig2, .int .i64 32, .int .i64 3, .slice [.int .i64 2, .int .i64 4] .full] τ
    (fun r σ' => r = .ret (.tup [aig2, .slice [.int .i64 2, .int .i64 4, .int .i64 4] .no, .int .i64 0]) ∧ σ' = τ) := by
  have h := bl_Ext ⟨2, [], [], []⟩ 32 3 [2, 4] .full τ wf_two2 (by simp)
  rw [show Ext ⟨2, [], [], []⟩ 32 3 [2, 4] = (⟨2, [], [], []⟩, [2, 4, 4], 0) by decide] at h
  exact h
theorem ex_Num (τ : Sig) : ACalls Try.prog 15 [.int .i64 4, .int .u64 10] τ
    (fun r σ' => r = .ret (.tup [.slice [.int .i64 0, .int .i64 1, .int .i64 0, .int .i64 1] .no, .int .i64 0]) ∧ σ' = τ) := by
  have h := bl_Num 4 10 (by decide) τ
  rw [show bitsN 4 10 = true by decide, if_pos rfl, if_pos rfl, show numW 4 ((10 : Nat) : Int) = [0, 1, 0, 1] by decide] at h
  exact h
theorem ex_Num2 (τ : Sig) : ACalls Try.prog 15 [.int .i64 2, .int .u64 4] τ
    (fun r σ' => r = .ret (.tup [.slice [] .no, .int .i64 1]) ∧ σ' = τ) := by
  have h := bl_Num 2 4 (by decide) τ
  rw [show bitsN 2 4 = false by decide, if_neg (by simp), if_neg (by simp)] at h
  exact h
set_option maxHeartbeats 8000000 in
set_option maxRecDepth 20000 in
theorem law_live (σ : Sig) : ACalls Try.prog 7 [] σ (fun r σ' => r = .ret (.bool true) ∧ σ' = σ) := by
  refine calls_x mixed Try.func7 b7 n7 rfl q7 (by simp) ?_; unfold c7 r7
  repeat' (first | simp (maxDischargeDepth := 9) -implicitDefEqProofs -dsimp only [go_sem, seval, *] | ((with_reducible refine Zt (fun oF hoF hnF hnF' => ?_)); (try simp only [upd_none, ne_eq, not_and] at hoF)) | ((with_reducible apply ACalls.one1); (focus ((first | with_reducible refine ex_New _ | with_reducible refine ex_Bin _ | with_reducible refine ex_Bin2 _ | with_reducible refine ex_Un _ | with_reducible refine ex_Un2 _ | with_reducible refine ex_Ext _ | with_reducible refine ex_Num _ | with_reducible refine ex_Num2 _) <;> (first | (simp (maxDischargeDepth := 9) -implicitDefEqProofs -dsimp only [go_sem, seval, *]; done) | omega))); (focus (first | trivial | with_reducible exact rfl | (simp (maxDischargeDepth := 9) -implicitDefEqProofs -dsimp only [go_sem, seval]; done)))))
  refine fin_eq ?_
  (repeat' (first | simp (maxDischargeDepth := 9) -implicitDefEqProofs -dsimp only [go_sem, seval, *])) <;> (repeat' refine And.intro ?_ ?_) <;> (first | omega | rfl | assumption | skip)
end Go.Proofs.Ytbbihmmobfmadaa

namespace Abs
open Go
inductive Sh where
  | bool
  | int (k : IntKind)
  | str
  | slice (agg : Bool) (e : Sh)
  | row (l : List Sh)
def shAll (f : TypeId → Option Sh) : List TypeId → Option (List Sh)
  | [] => some []
  | t :: ts => match f t, shAll f ts with
    | some s, some l => some (s :: l)
    | _, _ => none
def shOf (P : Program) : Nat → TypeId → Option Sh
  | 0, _ => none
  | g + 1, t =>
    match P.underlying t with
    | some .bool => some .bool
    | some (.int k) => some (.int k)
    | some .string => some .str
    | some (.slice e) => (shOf P g e).map (.slice (isAgg P e))
    | some (.struct fs) => (shAll (shOf P g) (fs.toList.map (·.type))).map .row
    | some (.array n e) => (shAll (shOf P g) (List.replicate n e)).map .row
    | _ => none
mutual
def ShC : Sh → List AV → Prop
  | .bool, cs => ∃ b, cs = [.bool b]
  | .int k, cs => ∃ n, cs = [.int k n] ∧ k.min ≤ n ∧ n ≤ k.max
  | .str, cs => ∃ s : ByteArray, cs = [.str s] ∧ s.size ≤ maxLen
  | .slice b e, cs => ∃ l, cs = [.slice l .no] ∧ l.length ≤ maxLen ∧ ∀ x ∈ l, ∃ es, mkv b es = some x ∧ ShC e es
  | .row l, cs => ShL l cs
def ShL : List Sh → List AV → Prop
  | [], cs => cs = []
  | s :: l, cs => ∃ p q, cs = p ++ q ∧ ShC s p ∧ ShL l q
end
theorem cells_sh {P : Program} : ∀ (g : Nat) (t : TypeId) (s : Sh) (cs : List AV), shOf P g t = some s → Cells P g t cs → ShC s cs
  | 0, _, _, _, h, _ => by simp [shOf] at h
  | g + 1, t, s, cs, h, hc => by
    have all : ∀ (ts : List TypeId) (l : List Sh) (cs : List AV), shAll (shOf P g) ts = some l → CellsL (Cells P g) ts cs → ShL l cs := by
      intro ts
      induction ts with
      | nil => intro l cs h hc; simp [shAll] at h; subst h; simpa [ShL, CellsL] using hc
      | cons t ts ih =>
        intro l cs h hc
        simp only [shAll] at h
        split at h <;> simp at h
        rename_i s' l' h1 h2
        subst h
        obtain ⟨p, q, e, c1, c2⟩ := hc
        exact ⟨p, q, e, cells_sh g t s' p h1 c1, ih l' q h2 c2⟩
    simp only [shOf] at h
    simp only [Cells] at hc
    split at h
    · rename_i hu; rw [hu] at hc; simp at h; subst h; exact hc
    · rename_i k hu; rw [hu] at hc; simp at h; subst h; exact hc
    · rename_i hu; rw [hu] at hc; simp at h; subst h; exact hc
    · rename_i e hu
      rw [hu] at hc
      simp only [Option.map_eq_some_iff] at h
      obtain ⟨s', h1, rfl⟩ := h
      obtain ⟨l, e1, e2, e3⟩ := hc
      refine ⟨l, e1, e2, fun x hx => ?_⟩
      obtain ⟨es, k1, k2⟩ := e3 x hx
      exact ⟨es, k1, cells_sh g e s' es h1 k2⟩
    · rename_i fs hu
      rw [hu] at hc
      simp only [Option.map_eq_some_iff] at h
      obtain ⟨l, h1, rfl⟩ := h
      exact all _ l cs h1 hc
    · rename_i n e hu
      rw [hu] at hc
      simp only [Option.map_eq_some_iff] at h
      obtain ⟨l, h1, rfl⟩ := h
      exact all _ l cs h1 hc
    · simp at h
def ShV (b : Bool) (s : Sh) (a : AV) : Prop := ∃ es, mkv b es = some a ∧ ShC s es
def ShVs : List (Bool × Sh) → List AV → Prop
  | [], as_ => as_ = []
  | p :: l, as_ => ∃ a r, as_ = a :: r ∧ ShV p.1 p.2 a ∧ ShVs l r
def argSh (P : Program) (g : Nat) : List TypeId → Option (List (Bool × Sh))
  | [] => some []
  | t :: ts => match shOf P g t, argSh P g ts with
    | some s, some l => some ((isAgg P t, s) :: l)
    | _, _ => none
theorem args_sh {P : Program} {g : Nat} : ∀ {ts : List TypeId} {l : List (Bool × Sh)} {as_ : List AV}, argSh P g ts = some l → ArgsAre P g ts as_ → ShVs l as_
  | [], l, [], h, _ => by simp [argSh] at h; subst h; rfl
  | [], _, _ :: _, _, ha => ha.elim
  | t :: ts, _, [], _, ha => ha.elim
  | t :: ts, l, a :: as_, h, ha => by
    simp only [argSh] at h
    split at h <;> simp at h
    rename_i s l' h1 h2
    subst h
    obtain ⟨⟨es, k1, k2⟩, k3⟩ := ha
    exact ⟨a, as_, rfl, ⟨es, k1, cells_sh g t s es h1 k2⟩, args_sh h2 k3⟩
theorem list_dec {α : Type} {f : α → AV} {p : α → Prop} : ∀ {l : List AV}, (∀ x ∈ l, ∃ y, x = f y ∧ p y) → ∃ m : List α, l = m.map f ∧ ∀ y ∈ m, p y
  | [], _ => ⟨[], rfl, by simp⟩
  | x :: l, h => by
    obtain ⟨y, e, hy⟩ := h x (by simp)
    obtain ⟨m, e', hm⟩ := list_dec (l := l) fun x hx => h x (by simp [hx])
    exact ⟨y :: m, by simp [e, e'], by simpa using ⟨hy, hm⟩⟩
theorem shv_int {k : IntKind} {a : AV} (h : ShV false (.int k) a) : ∃ n, a = .int k n ∧ k.min ≤ n ∧ n ≤ k.max := by
  obtain ⟨es, h1, n, rfl, h2⟩ := h
  simp [mkv] at h1
  exact ⟨n, h1.symm, h2⟩
theorem shc_slice {b : Bool} {e : Sh} {cs : List AV} (h : ShC (.slice b e) cs) {α : Type} {f : α → AV} {p : α → Prop} (hd : ∀ x, ShV b e x → ∃ y, x = f y ∧ p y) : ∃ m : List α, cs = [.slice (m.map f) .no] ∧ m.length ≤ maxLen ∧ ∀ y ∈ m, p y := by
  obtain ⟨l, rfl, h2, h3⟩ := h
  obtain ⟨m, rfl, hm⟩ := list_dec (f := f) (p := p) (l := l) fun x hx => hd x (h3 x hx)
  exact ⟨m, rfl, by simpa using h2, hm⟩
end Abs

namespace Fil
open Abs Go
theorem i64_min : IntKind.i64.min = -9223372036854775808 := by decide
theorem i64_max : IntKind.i64.max = 9223372036854775807 := by decide
theorem I64_of {n : Int} (h : IntKind.i64.min ≤ n ∧ n ≤ IntKind.i64.max) : I64 n := by rw [i64_min, i64_max] at h; exact h
theorem arg_int {a : AV} (h : ShV false (.int .i64) a) : ∃ n, a = encInt n ∧ I64 n := by
  obtain ⟨n, e, hn⟩ := shv_int h
  exact ⟨n, e, I64_of hn⟩
theorem arg_gate {a : AV} (h : ShV true (.row [.int .i64, .int .i64]) a) : ∃ x : Int × Int, a = encGate x ∧ I64 x.1 ∧ I64 x.2 := by
  obtain ⟨es, e, p, q, rfl, ⟨n, rfl, hn⟩, p', q', rfl, ⟨m, rfl, hm⟩, rfl⟩ := h
  simp [mkv] at e
  exact ⟨(n, m), e.symm, I64_of hn, I64_of hm⟩
theorem arg_flop {a : AV} (h : ShV true (.row [.int .i64, .bool]) a) : ∃ x : Flop, a = encFlop x ∧ I64 x.next := by
  obtain ⟨es, e, p, q, rfl, ⟨n, rfl, hn⟩, p', q', rfl, ⟨m, rfl⟩, rfl⟩ := h
  simp [mkv] at e
  exact ⟨⟨n, m⟩, e.symm, I64_of hn⟩
structure Wide (g : Aig) : Prop where
  ins : I64 g.ins
  nexts : ∀ f ∈ g.flops, I64 f.next
  gates : ∀ x ∈ g.ands, I64 x.1 ∧ I64 x.2
  lits : ∀ a ∈ g.outs, I64 a
theorem arg_aig {a : AV} (h : ShV true (.row [.int .i64, .slice true (.row [.int .i64, .bool]), .slice true (.row [.int .i64, .int .i64]), .slice false (.int .i64)]) a) : ∃ g : Aig, a = encAig g ∧ Wide g := by
  obtain ⟨es, e, p, q, rfl, ⟨n, rfl, hn⟩, p1, q1, rfl, h1, p2, q2, rfl, h2, p3, q3, rfl, h3, rfl⟩ := h
  obtain ⟨fl, rfl, _, k1⟩ := shc_slice (f := encFlop) (p := fun x : Flop => I64 x.next) h1 fun x hx => arg_flop hx
  obtain ⟨an, rfl, _, k2⟩ := shc_slice (f := encGate) (p := fun x : Int × Int => I64 x.1 ∧ I64 x.2) h2 fun x hx => arg_gate hx
  obtain ⟨ou, rfl, _, k3⟩ := shc_slice (f := encInt) (p := I64) h3 fun x hx => arg_int hx
  simp [mkv] at e
  exact ⟨⟨n, fl, an, ou⟩, e.symm, I64_of hn, k1, k2, k3⟩
def Few (g : Aig) : Prop := g.ins ≤ 200 ∧ g.flops.length ≤ 200 ∧ g.ands.length ≤ 1000 ∧ g.outs.length ≤ 200
theorem few_wf {g : Aig} (h : Wide g) (hf : Few g) : Wf g :=
  ⟨h.ins, by have := hf.2.1; omega, by have := hf.2.2.1; omega, by have := hf.2.2.2; omega, h.nexts, h.gates, h.lits⟩
end Fil

namespace Fil.Bl
open Abs
theorem made_ok {g : Aig} {may : Bool} {p : Pg (List Int)} (h : (made g may p).2.2 = 0) : g.check = 0 ∧ may = true ∧ (p.run ⟨g, 0⟩).2.e = 0 ∧ made g may p = ((p.run ⟨g, 0⟩).2.g, (p.run ⟨g, 0⟩).1, 0) := by
  unfold made at h ⊢
  by_cases h0 : g.check = 0
  · rw [if_neg (by omega)] at h ⊢
    cases may with
    | false => simp at h
    | true =>
      rw [if_neg (by simp)] at h ⊢
      unfold told at h ⊢
      by_cases he : (p.run ⟨g, 0⟩).2.e = 0
      · rw [if_neg (by omega)]
        exact ⟨h0, rfl, he, rfl⟩
      · rw [if_pos he] at h
        exact absurd h he
  · rw [if_pos h0] at h
    exact absurd h h0
theorem binN_fst (op : Int) (w a b : Nat) : (binN op w a b).1 ≤ w + 1 := by
  have key : ∀ {c : Prop} [Decidable c] {x y : Nat × Nat}, x.1 ≤ w + 1 → y.1 ≤ w + 1 → (if c then x else y).1 ≤ w + 1 := by
    intro c _ x y h1 h2
    split <;> assumption
  unfold binN
  repeat' (first | exact Nat.le_succ w | exact Nat.le_add_left 1 w | refine key ?_ ?_)
end Fil.Bl

namespace Go.Proofs.Ytbbihmmobfmadaa
open Abs Fil Fil.Bl A
def fewG (g : Aig) : Bool := decide (g.ins ≤ 40) && decide (g.flops.length ≤ 20) && decide (g.ands.length ≤ 80) && decide (g.outs.length ≤ 60)
theorem bl_few (g : Aig) (ls : List (List Int)) (t : Tok) (σ : Sig) (hl : ls.length ≤ 1000) :
    ACalls Try.prog 8 [encAig g, .slice (ls.map fun l => encW l .no) t] σ (fun r σ' => r = .ret (.bool ((ls.all fun l => decide (l.length ≤ 8)) && fewG g)) ∧ σ' = σ) := by
  refine calls_x mixed Try.func8 b8 n8 rfl q8 (by simp) ?_; unfold c8 r8
  repeat' (first | simp (maxDischargeDepth := 9) -implicitDefEqProofs -dsimp only [go_sem, seval, *] | simp (disch := omega) only [wrap64])
  refine loop_rule (fun i : Nat => [(5, some (.int .i64 i)), (1, some (.slice (ls.map fun l => encW l .no) t)), (2, some (.cptr (aigL g)))]) (fun _ => σ) (fun i => i ≤ ls.length ∧ (ls.take i).all (fun l => decide (l.length ≤ 8)) = true) (fun i => ls.length - i) 0 ?_ ?_
  · (repeat' (first | simp (maxDischargeDepth := 9) -implicitDefEqProofs -dsimp only [go_sem, seval, List.take_zero, List.all_nil, *] | simp (disch := omega) only [wrap64])) <;> (repeat' refine And.intro ?_ ?_) <;> (first | omega | rfl | assumption | skip)
  rintro i ⟨hi, hall⟩
  by_cases hlt : i < ls.length
  · have hgx : (ls.map fun l => encW l .no)[i]? = some (encW ls[i] .no) := by simp [hlt]
    have htk : ls.take (i + 1) = ls.take i ++ [ls[i]] := by rw [List.take_add_one]; simp [hlt]
    have hmem : ls[i] ∈ ls := List.getElem_mem _
    obtain ⟨x, hx⟩ : ∃ x, ls[i] = x := ⟨_, rfl⟩
    rw [hx] at hgx htk hmem
    clear hx
    by_cases h8 : (8 : Int) < (x.length : Int)
    · have hf : (ls.all fun l => decide (l.length ≤ 8)) = false := by
        rw [List.all_eq_false]
        exact ⟨x, hmem, by simp; omega⟩
      rw [hf, Bool.false_and]
      clear hf htk hall hmem
      repeat' (first | simp (maxDischargeDepth := 9) -implicitDefEqProofs -dsimp only [go_sem, seval, gt_iff_lt, List.length_map, *] | simp (disch := omega) only [wrap64])
      refine fin_eq ?_
      (repeat' (first | simp (maxDischargeDepth := 9) -implicitDefEqProofs -dsimp only [go_sem, seval, *] | simp (disch := omega) only [wrap64])) <;> (repeat' refine And.intro ?_ ?_) <;> (first | omega | rfl | assumption | skip)
    · have hall2 : (ls.take (i + 1)).all (fun l => decide (l.length ≤ 8)) = true := by
        rw [htk, List.all_append, hall]; simp; omega
      clear htk hall hmem
      repeat' (first | simp (maxDischargeDepth := 9) -implicitDefEqProofs -dsimp only [go_sem, seval, gt_iff_lt, List.length_map, *] | simp (disch := omega) only [wrap64])
      refine loop_next _ _ _ _ (i + 1) ?_; (repeat' (first | simp (maxDischargeDepth := 9) -implicitDefEqProofs -dsimp only [go_sem, seval,  hall2, *] | simp (disch := omega) only [wrap64])) <;> (repeat' refine And.intro ?_ ?_) <;> (first | omega | rfl | assumption | skip)
  · have : i = ls.length := by omega
    subst this
    rw [List.take_length] at hall
    rw [hall, Bool.true_and]
    have hM : fewG g = (decide (g.ins ≤ 40) && decide (g.flops.length ≤ 20) && decide (g.ands.length ≤ 80) && decide (g.outs.length ≤ 60)) := rfl
    obtain ⟨M, hMM⟩ : ∃ M, fewG g = M := ⟨_, rfl⟩
    rw [hMM] at hM ⊢
    clear hMM hall
    by_cases h1 : g.ins ≤ 40
    case neg =>
      have e : M = false := by rw [hM]; simp [h1]
      subst e
      clear hM
      repeat' (first | simp (maxDischargeDepth := 9) -implicitDefEqProofs -dsimp only [go_sem, seval, List.length_map, *] | simp (disch := omega) only [wrap64])
      refine fin_eq ?_
      (repeat' (first | simp (maxDischargeDepth := 9) -implicitDefEqProofs -dsimp only [go_sem, seval, *] | simp (disch := omega) only [wrap64])) <;> (repeat' refine And.intro ?_ ?_) <;> (first | omega | rfl | assumption | skip)
    by_cases h2 : (g.flops.length : Int) ≤ 20
    case neg =>
      have e : M = false := by rw [hM, show decide (g.flops.length ≤ 20) = false by rw [decide_eq_false_iff_not]; omega]; simp
      subst e
      clear hM
      repeat' (first | simp (maxDischargeDepth := 9) -implicitDefEqProofs -dsimp only [go_sem, seval, List.length_map, *] | simp (disch := omega) only [wrap64])
      refine fin_eq ?_
      (repeat' (first | simp (maxDischargeDepth := 9) -implicitDefEqProofs -dsimp only [go_sem, seval, *] | simp (disch := omega) only [wrap64])) <;> (repeat' refine And.intro ?_ ?_) <;> (first | omega | rfl | assumption | skip)
    by_cases h3 : (g.ands.length : Int) ≤ 80
    case neg =>
      have e : M = false := by rw [hM, show decide (g.ands.length ≤ 80) = false by rw [decide_eq_false_iff_not]; omega]; simp
      subst e
      clear hM
      repeat' (first | simp (maxDischargeDepth := 9) -implicitDefEqProofs -dsimp only [go_sem, seval, List.length_map, *] | simp (disch := omega) only [wrap64])
      refine fin_eq ?_
      (repeat' (first | simp (maxDischargeDepth := 9) -implicitDefEqProofs -dsimp only [go_sem, seval, *] | simp (disch := omega) only [wrap64])) <;> (repeat' refine And.intro ?_ ?_) <;> (first | omega | rfl | assumption | skip)
    have e : M = decide ((g.outs.length : Int) ≤ 60) := by
      rw [hM, show decide (g.ins ≤ 40) = true by simpa using h1, show decide (g.flops.length ≤ 20) = true by rw [decide_eq_true_iff]; omega, show decide (g.ands.length ≤ 80) = true by rw [decide_eq_true_iff]; omega]
      simp only [Bool.true_and]
      rw [Bool.eq_iff_iff, decide_eq_true_iff, decide_eq_true_iff]; omega
    subst e
    clear hM
    repeat' (first | simp (maxDischargeDepth := 9) -implicitDefEqProofs -dsimp only [go_sem, seval, List.length_map, *] | simp (disch := omega) only [wrap64])
    refine fin_eq ?_
    (repeat' (first | simp (maxDischargeDepth := 9) -implicitDefEqProofs -dsimp only [go_sem, seval, *] | simp (disch := omega) only [wrap64])) <;> (repeat' refine And.intro ?_ ?_) <;> (first | omega | rfl | assumption | skip)
theorem few_of {g : Aig} (h : fewG g = true) : Few g := by
  unfold fewG at h
  simp only [Bool.and_eq_true, decide_eq_true_eq] at h
  exact ⟨by omega, by omega, by omega, by omega⟩
end Go.Proofs.Ytbbihmmobfmadaa

namespace Fil.Bl
open Abs
theorem lits01 : Lits (fun a => a = 0 ∨ a = 1) (fun a => decide (a = 1)) := by
  refine ⟨.inl rfl, .inr rfl, by decide, by decide, fun a h => ?_, fun a h => ?_⟩
  · rcases h with rfl | rfl
    · exact .inr (by decide)
    · exact .inl (by decide)
  · rcases h with rfl | rfl <;> decide
theorem num_len (n v : Nat) : (numW n v).length = n := by simp [numW]
theorem num_ws (n v : Nat) : Ws (fun a => a = 0 ∨ a = 1) (numW n v) := by
  intro a ha
  obtain ⟨i, _, rfl⟩ := List.mem_map.1 ha
  have : (v : Int) / 2 ^ i % 2 = ((v / 2 ^ i % 2 : Nat) : Int) := by simp
  rw [this]
  rcases Nat.mod_two_eq_zero_or_one (v / 2 ^ i) with h | h <;> rw [h] <;> simp
theorem gt_num {n v i : Nat} (h : i < n) : gt (numW n v) i = ((v / 2 ^ i % 2 : Nat) : Int) := by
  simp [gt, numW, List.getD_eq_getElem?_getD, h]
theorem toN_num {n v : Nat} (h : v < 2 ^ n) : toN ((numW n v).map fun a => decide (a = 1)) = v := by
  refine Nat.eq_of_testBit_eq fun j => ?_
  rw [bit_V lits01]
  by_cases hj : j < n
  · rw [gt_num hj, Nat.testBit_eq_decide_div_mod_eq]
    rw [decide_eq_decide]
    omega
  · rw [gt_ge (by rw [num_len]; omega)]
    rw [Nat.testBit_lt_two_pow (Nat.lt_of_lt_of_le h (Nat.pow_le_pow_right (by omega) (by omega)))]
    decide
theorem word_num {out : List Int} (h : Ws (fun a => a = 0 ∨ a = 1) out) : out = numW out.length (toN (out.map fun a => decide (a = 1)) : Nat) := by
  refine List.ext_getElem (by rw [num_len]) fun i h1 h2 => ?_
  have e1 : out[i] = gt out i := (gt_lt h1).symm
  have e2 : (numW out.length (toN (out.map fun a => decide (a = 1)) : Nat))[i] = gt (numW out.length (toN (out.map fun a => decide (a = 1)) : Nat)) i := (gt_lt h2).symm
  rw [e1, e2, gt_num h1]
  have hb := bit_V lits01 out i
  rw [Nat.testBit_eq_decide_div_mod_eq] at hb
  rcases gt_W lits01 h i with hz | hz
  · rw [hz] at hb ⊢
    have : ¬ (toN (out.map fun a => decide (a = 1)) / 2 ^ i % 2 = 1) := by
      intro hc
      rw [hc] at hb
      simp at hb
    omega
  · rw [hz] at hb ⊢
    have : toN (out.map fun a => decide (a = 1)) / 2 ^ i % 2 = 1 := by
      by_cases hc : toN (out.map fun a => decide (a = 1)) / 2 ^ i % 2 = 1
      · exact hc
      · simp [hc] at hb
    omega
theorem binN_pos (op : Int) {w : Nat} (a b : Nat) (h : 1 ≤ w) : 1 ≤ (binN op w a b).1 := by
  have key : ∀ {c : Prop} [Decidable c] {x y : Nat × Nat}, 1 ≤ x.1 → 1 ≤ y.1 → 1 ≤ (if c then x else y).1 := by
    intro c _ x y h1 h2
    split <;> assumption
  unfold binN
  repeat' (first | exact h | exact Nat.le_refl 1 | refine key ?_ ?_)
theorem num_law {g : Aig} {op : Int} {n u v : Nat} (hs : Wf g) (hn : 1 ≤ n ∧ n ≤ 8) (hu : u < 2 ^ n) (hv : v < 2 ^ n) (h : (Bin g op (numW n u) (numW n v)).2.2 = 0) :
    (11 ≤ op ∧ op ≤ 26 ∧ (op < 25 ∨ n = 1)) ∧ Bin g op (numW n u) (numW n v) = (g, numW (binN op n u v).1 ((binN op n u v).2 : Nat), 0) ∧ bitsN (binN op n u v).1 (binN op n u v).2 = true ∧ g.check = 0 := by
  obtain ⟨h0, hm, he, hr⟩ := made_ok h
  have hr : Bin g op (numW n u) (numW n v) = (((binP op (numW n u) (numW n v)).run ⟨g, 0⟩).2.g, ((binP op (numW n u) (numW n v)).run ⟨g, 0⟩).1, 0) := hr
  have hm' := hm
  unfold mayBin word at hm'
  simp only [Bool.and_eq_true, decide_eq_true_eq, num_len] at hm'
  obtain ⟨_, c1, c2, c3⟩ := hm'
  have hop : 11 ≤ op ∧ op ≤ 26 ∧ (op < 25 ∨ n = 1) := by omega
  obtain ⟨k1, m, k2, k3, k4⟩ := run_const (binP op (numW n u) (numW n v)) ⟨g, 0⟩ _ rfl ⟨hs, h0⟩ (bin_wp lits01 (num_ws n u) (num_ws n v) ⟨c1, c2⟩ (by rw [num_len]; omega) (by rw [num_len, num_len]; omega))
  rw [num_len, toN_num hu, toN_num hv] at k4
  rw [k1] at hr
  have hw := word_num k3
  have hlt := toN_lt (((binP op (numW n u) (numW n v)).run ⟨g, 0⟩).1.map fun a => decide (a = 1))
  rw [List.length_map] at hlt
  have e1 := congrArg Prod.fst k4
  have e2 := congrArg Prod.snd k4
  simp only at e1 e2
  rw [e1, e2] at hw
  rw [e1, e2] at hlt
  refine ⟨hop, by rw [hr, ← hw], ?_, h0⟩
  have hf := binN_fst op n u v
  have hf1 := binN_pos op u v hn.1
  exact bitsN_iff.2 ⟨⟨by omega, by omega⟩, by simpa using hlt⟩
end Fil.Bl

namespace Go.Proofs.Ytbbihmmobfmadaa
open Abs Fil Fil.Bl A
theorem arg_u8 {a : AV} (h : ShV false (.int .u8) a) : ∃ n : Nat, a = .int .u8 n ∧ n < 256 := by
  obtain ⟨n, rfl, h1⟩ := shv_int h
  have e1 : IntKind.u8.min = 0 := by decide
  have e2 : IntKind.u8.max = 255 := by decide
  rw [e1, e2] at h1
  exact ⟨n.toNat, by rw [Int.toNat_of_nonneg h1.1], by omega⟩
theorem arg_u64 {a : AV} (h : ShV false (.int .u64) a) : ∃ n : Nat, a = .int .u64 n ∧ n < 18446744073709551616 := by
  obtain ⟨n, rfl, h1⟩ := shv_int h
  have e1 : IntKind.u64.min = 0 := by decide
  have e2 : IntKind.u64.max = 18446744073709551615 := by decide
  rw [e1, e2] at h1
  exact ⟨n.toNat, by rw [Int.toNat_of_nonneg h1.1], by omega⟩
theorem few0 (g : Aig) (τ : Sig) : ACalls Try.prog 8 [encAig g, .slice [] .nil] τ (fun r σ' => r = .ret (.bool (fewG g)) ∧ σ' = τ) := by
  have h := bl_few g [] .nil τ (by simp)
  exact h
theorem num_i64 (n v : Nat) : ∀ z ∈ numW n v, I64 z := fun z hz => by
  rcases num_ws n v z hz with rfl | rfl
  · exact ⟨by decide, by decide⟩
  · exact ⟨by decide, by decide⟩
theorem bl_NumN {n u : Nat} (hn : 1 ≤ n ∧ n ≤ 64) (hu : u < 2 ^ n) (τ : Sig) : ACalls Try.prog 15 [.int .i64 n, .int .u64 u] τ (fun r σ' => r = .ret (.tup [encW (numW n u) .no, .int .i64 0]) ∧ σ' = τ) := by
  have h := bl_Num n u (lt64 hn hu) τ
  rw [bits_ok hn hu, if_pos rfl, if_pos rfl] at h
  exact h
set_option maxRecDepth 20000 in
set_option maxHeartbeats 8000000 in
theorem numbers_ok (g : Aig) (op : Int) (w x y : Nat) (σ : Sig) (hs : fewG g = true → Wf g) (hw : w < 256) (hx : x < 18446744073709551616) (hy : y < 18446744073709551616) :
    ACalls Try.prog 4 [encAig g, .int .i64 op, .int .u8 w, .int .u64 x, .int .u64 y] σ (fun r σ' => r = .ret (.bool true) ∧ σ' = σ) := by
  have z2 := fun τ => few0 g τ
  have htm : ((w : Int)).tmod 8 = ((w % 8 : Nat) : Int) := by rw [Int.tmod_eq_emod_of_nonneg (by omega)]; simp
  obtain ⟨M, hM⟩ : ∃ M, w % 8 = M := ⟨_, rfl⟩
  rw [hM] at htm
  have hM8 : M ≤ 7 := by omega
  cases hF : fewG g with
  | false =>
    rw [hF] at z2
    clear hF hs hM
    refine calls_x mixed Try.func4 b4 n4 rfl q4 (by simp) ?_; unfold c4 r4
    repeat' (first | simp (maxDischargeDepth := 9) -implicitDefEqProofs -dsimp only [go_sem, seval, *] | simp (disch := omega) only [wrap64] | ((with_reducible refine Zt (fun oF hoF hnF hnF' => ?_)); (try simp only [upd_none, ne_eq, not_and] at hoF)) | ((with_reducible apply ACalls.one1); (focus ((first | with_reducible refine law_live _ | with_reducible refine z2 _) <;> (first | (simp (maxDischargeDepth := 9) -implicitDefEqProofs -dsimp only [go_sem, seval, *]; done) | omega))); (focus (first | trivial | with_reducible exact rfl | (simp (maxDischargeDepth := 9) -implicitDefEqProofs -dsimp only [go_sem, seval]; done)))))
    refine fin_eq ?_
    (repeat' (first | simp (maxDischargeDepth := 9) -implicitDefEqProofs -dsimp only [go_sem, seval, *] | simp (disch := omega) only [wrap64])) <;> (repeat' refine And.intro ?_ ?_) <;> (first | omega | rfl | assumption | skip)
  | true =>
    rw [hF] at z2
    have hs := hs hF
    obtain ⟨n, hn⟩ : ∃ n, 1 + M = n := ⟨_, rfl⟩
    have hnn : (1 : Int) + (M : Int) = (n : Int) := by omega
    have hn1 : 1 ≤ n ∧ n ≤ 8 := by omega
    have hwn : IntKind.i64.wrap (n : Int) = (n : Int) := wrap64 _ (by omega) (by omega)
    have hwM : IntKind.i64.wrap (M : Int) = (M : Int) := wrap64 _ (by omega) (by omega)
    have z3 := fun τ => rf_Mask n τ
    have hmk : maskN (n : Int) = 2 ^ n - 1 := mask_eq (w := n) (by omega)
    have hax := andU x (maskN n) hx (maskN_lt _)
    have hay := andU y (maskN n) hy (maskN_lt _)
    have hu : x &&& maskN (n : Int) < 2 ^ n := by
      rw [hmk, Nat.and_two_pow_sub_one_eq_mod]; exact Nat.mod_lt _ (Nat.two_pow_pos _)
    have hv : y &&& maskN (n : Int) < 2 ^ n := by
      rw [hmk, Nat.and_two_pow_sub_one_eq_mod]; exact Nat.mod_lt _ (Nat.two_pow_pos _)
    obtain ⟨u, hue⟩ : ∃ u, x &&& maskN (n : Int) = u := ⟨_, rfl⟩
    obtain ⟨v, hve⟩ : ∃ u, y &&& maskN (n : Int) = u := ⟨_, rfl⟩
    rw [hue] at hax hu
    rw [hve] at hay hv
    obtain ⟨K, hK⟩ : ∃ K, maskN (n : Int) = K := ⟨_, rfl⟩
    rw [hK] at z3 hax hay
    have z4 := fun τ => bl_NumN (n := n) (by omega) hu τ
    have z5 := fun τ => bl_NumN (n := n) (by omega) hv τ
    have z6 := fun τ => bl_Bin g op (numW n u) (numW n v) .no .no τ hs (num_i64 n u) (num_i64 n v) (by rw [num_len]; omega) (by rw [num_len]; omega)
    have z7 := fun τ => rf_Bin op n u n v τ (by omega) hu (by omega) hv (.inr (.inr rfl))
    have hl := num_law (g := g) (op := op) (n := n) (u := u) (v := v) hs hn1 hu hv
    obtain ⟨⟨h, l, e⟩, hZ⟩ : ∃ Z, Bin g op (numW n u) (numW n v) = Z := ⟨_, rfl⟩
    rw [hZ] at z6 hl
    simp only at z6 hl
    by_cases he : e = 0
    · subst he
      obtain ⟨h1, h2, h3, h4⟩ := hl rfl
      simp only [Prod.mk.injEq, and_true] at h2
      obtain ⟨h2a, h2b⟩ := h2
      have hgh : g = h := h2a.symm
      subst hgh
      subst h2b
      clear h2a
      have hR : binR op n u v = (binN op n u v, 0) := by unfold binR; rw [if_pos h1]
      rw [hR] at z7
      have hb := bitsN_iff.1 h3
      obtain ⟨⟨W, V⟩, hWV⟩ : ∃ Z, binN op n u v = Z := ⟨_, rfl⟩
      rw [hWV] at z7 z6 hb
      simp only at z7 z6 hb
      have z8 := fun τ => bl_NumN (n := W) (u := V) (by omega) (by simpa using hb.2) τ
      have z9 := fun τ => ref_Same g g τ hs.flops hs.ands hs.outs
      rw [show decide (g = g) = true by simp] at z9
      have z10 : ∀ τ, ACalls Try.prog 17 [encW (numW W V) .no, encW (numW W V) .no] τ (fun r σ' => r = .ret (.bool true) ∧ σ' = τ) := fun τ => by
        have h6 := ref_Ints (numW W V) (numW W V) τ (by rw [num_len]; omega)
        rw [show decide (numW W V = numW W V) = true by simp] at h6
        exact h6
      clear hs hF hl h1 h3 h4 hZ hR hb hWV hu hv hmk hK hue hve hn hM hM8 hn1
      refine calls_x mixed Try.func4 b4 n4 rfl q4 (by simp) ?_; unfold c4 r4
      repeat' (first | simp (maxDischargeDepth := 9) -implicitDefEqProofs -dsimp only [go_sem, seval, *] | simp (disch := omega) only [wrap64] | ((with_reducible refine Zt (fun oF hoF hnF hnF' => ?_)); (try simp only [upd_none, ne_eq, not_and] at hoF)) | ((with_reducible apply ACalls.one1); (focus ((first | with_reducible refine law_live _ | with_reducible refine z2 _ | with_reducible refine z3 _ | with_reducible refine z4 _ | with_reducible refine z5 _ | with_reducible refine z6 _ | with_reducible refine z7 _ | with_reducible refine z8 _ | with_reducible refine z9 _ | with_reducible refine z10 _) <;> (first | (simp (maxDischargeDepth := 9) -implicitDefEqProofs -dsimp only [go_sem, seval, *]; done) | omega))); (focus (first | trivial | with_reducible exact rfl | (simp (maxDischargeDepth := 9) -implicitDefEqProofs -dsimp only [go_sem, seval]; done)))))
      refine fin_eq ?_
      (repeat' (first | simp (maxDischargeDepth := 9) -implicitDefEqProofs -dsimp only [go_sem, seval, *] | simp (disch := omega) only [wrap64])) <;> (repeat' refine And.intro ?_ ?_) <;> (first | omega | rfl | assumption | skip)
    · have he' : (e != 0) = true := by simpa using he
      obtain ⟨⟨⟨W, V⟩, E⟩, hR⟩ : ∃ Z, binR op n u v = Z := ⟨_, rfl⟩
      rw [hR] at z7
      simp only at z7
      clear hs hF hl hZ hR hu hv hmk hK hue hve hn hM hM8 hn1 he
      refine calls_x mixed Try.func4 b4 n4 rfl q4 (by simp) ?_; unfold c4 r4
      repeat' (first | simp (maxDischargeDepth := 9) -implicitDefEqProofs -dsimp only [go_sem, seval, *] | simp (disch := omega) only [wrap64] | ((with_reducible refine Zt (fun oF hoF hnF hnF' => ?_)); (try simp only [upd_none, ne_eq, not_and] at hoF)) | ((with_reducible apply ACalls.one1); (focus ((first | with_reducible refine law_live _ | with_reducible refine z2 _ | with_reducible refine z3 _ | with_reducible refine z4 _ | with_reducible refine z5 _ | with_reducible refine z6 _ | with_reducible refine z7 _) <;> (first | (simp (maxDischargeDepth := 9) -implicitDefEqProofs -dsimp only [go_sem, seval, *]; done) | omega))); (focus (first | trivial | with_reducible exact rfl | (simp (maxDischargeDepth := 9) -implicitDefEqProofs -dsimp only [go_sem, seval]; done)))))
      refine fin_eq ?_
      (repeat' (first | simp (maxDischargeDepth := 9) -implicitDefEqProofs -dsimp only [go_sem, seval, *] | simp (disch := omega) only [wrap64])) <;> (repeat' refine And.intro ?_ ?_) <;> (first | omega | rfl | assumption | skip)
end Go.Proofs.Ytbbihmmobfmadaa

