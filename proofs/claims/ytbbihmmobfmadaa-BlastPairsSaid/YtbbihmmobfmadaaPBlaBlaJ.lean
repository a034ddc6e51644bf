/- blast: contracts: two words, literal by literal. -/
import Derived.RangeFuncLeaves
import Derived.RangeFuncSeq
import Derived.RangeFuncRecord
import Derived.RangeFuncBox
import Derived.Shelf.Abstract
import Derived.WalkKit
import Derived.OwnWalkIn
import Derived.TacticsInMore
import Derived.LoopNIn
import Derived.LoopIn
import Derived.Test.YtbbihmmobfmadaaPBlaBlaD
set_option linter.unusedSimpArgs false
set_option linter.unusedVariables false
namespace Go.Proofs.Ytbbihmmobfmadaa
open Abs Fil Fil.Bl
theorem andNot_mask {w : Int} {v : Nat} (hw : 1 ≤ w ∧ w ≤ 64) (hv : v < 18446744073709551616) :
    (IntKind.u64.wrap ((BitVec.ofInt IntKind.u64.bits (v : Int) &&& ~~~ BitVec.ofInt IntKind.u64.bits (maskN w : Int)).toNat : Nat) == 0) = decide (v ≤ maskN w) := by
  have hm := maskN_of hw
  have hml := maskN_lt w
  have hp := Nat.two_pow_pos w.toNat
  have e : (BitVec.ofInt 64 (v : Int) &&& ~~~ BitVec.ofInt 64 (maskN w : Int)).toNat = v - v % 2 ^ w.toNat := by
    have e1 : BitVec.ofInt 64 (v : Int) = BitVec.ofNat 64 v := by simp
    have e2 : BitVec.ofInt 64 (maskN w : Int) = BitVec.ofNat 64 (maskN w) := by simp
    rw [e1, e2]
    apply Nat.eq_of_testBit_eq
    intro i
    rw [BitVec.testBit_toNat, BitVec.getLsbD_and, BitVec.getLsbD_not, BitVec.getLsbD_ofNat, BitVec.getLsbD_ofNat, hm, Nat.testBit_two_pow_sub_one]
    have hd : v - v % 2 ^ w.toNat = v / 2 ^ w.toNat * 2 ^ w.toNat := by
      have := Nat.div_add_mod v (2 ^ w.toNat)
      rw [Nat.mul_comm] at this; omega
    rw [hd, Nat.testBit_mul_two_pow, Nat.testBit_div_two_pow]
    by_cases h1 : i < 64
    · by_cases h2 : w.toNat ≤ i
      · have h3 : ¬ i < w.toNat := by omega
        simp [h1, h2, h3, Nat.sub_add_cancel h2]
      · have h3 : i < w.toNat := by omega
        simp [h1, h2, h3]
    · have hvb : v.testBit i = false := Nat.testBit_lt_two_pow (Nat.lt_of_lt_of_le hv (by
        have : 2 ^ 64 ≤ 2 ^ i := Nat.pow_le_pow_right (by omega) (by omega)
        have e : (2 : Nat) ^ 64 = 18446744073709551616 := by decide
        omega))
      by_cases h2 : w.toNat ≤ i
      · simp [h1, h2, Nat.sub_add_cancel h2, hvb]
      · simp [h1, h2]
  show (IntKind.u64.wrap ((BitVec.ofInt 64 (v : Int) &&& ~~~ BitVec.ofInt 64 (maskN w : Int)).toNat : Nat) == 0) = _
  have hle := Nat.mod_le v (2 ^ w.toNat)
  rw [e, wrapU _ (by omega) (by omega), Bool.eq_iff_iff, beq_iff_eq, decide_eq_true_eq, hm]
  have hmod := Nat.mod_lt v hp
  constructor
  · intro h; omega
  · intro h
    have : v % 2 ^ w.toNat = v := Nat.mod_eq_of_lt (by omega)
    omega
theorem bv_Mask (w : Int) (σ : Sig) : ACalls Try.prog 83 [.int .i64 w] σ (fun r σ' => r = .ret (.int .u64 (maskN w)) ∧ σ' = σ) := by
  refine calls_x mixed Try.func83 b83 n83 rfl q83 (by simp) ?_; unfold c83 r83
  by_cases h1 : w ≤ 0
  · have e : maskN w = 0 := by unfold maskN; rw [if_pos (by omega)]
    rw [e]
    clear e
    repeat' (first | simp (maxDischargeDepth := 9) -implicitDefEqProofs -dsimp only [go_sem, seval, *])
    refine fin_eq ?_
    (repeat' (first | simp (maxDischargeDepth := 9) -implicitDefEqProofs -dsimp only [go_sem, seval, Int.natCast_zero, *])) <;> (repeat' refine And.intro ?_ ?_) <;> (first | omega | rfl | assumption | skip)
  by_cases h2 : w < 64
  case neg =>
    have e : maskN w = 18446744073709551615 := by unfold maskN; rw [if_neg (by omega), if_pos (by omega)]
    rw [e]
    clear e
    repeat' (first | simp (maxDischargeDepth := 9) -implicitDefEqProofs -dsimp only [go_sem, seval, *])
    refine fin_eq ?_
    (repeat' (first | simp (maxDischargeDepth := 9) -implicitDefEqProofs -dsimp only [go_sem, seval, *])) <;> (repeat' refine And.intro ?_ ?_) <;> (first | omega | rfl | assumption | skip)
  have h0 : ¬ w < 0 := by omega
  have hm : Nat.min w.toNat 64 = w.toNat := Nat.min_eq_left (by omega)
  have hlt : 2 ^ w.toNat ≤ 2 ^ 63 := Nat.pow_le_pow_right (by omega) (by omega)
  have e63 : (2 : Nat) ^ 63 = 9223372036854775808 := by decide
  have hp := Nat.two_pow_pos w.toNat
  have hs : IntKind.u64.wrap (18446744073709551615 * 2 ^ w.toNat) = ((18446744073709551616 - 2 ^ w.toNat : Nat) : Int) := by
    have := shlU 18446744073709551615 w.toNat
    have e : 18446744073709551615 * 2 ^ w.toNat = (18446744073709551616 - 2 ^ w.toNat) + 18446744073709551616 * (2 ^ w.toNat - 1) := by
      obtain ⟨N, hN⟩ : ∃ N, 2 ^ w.toNat = N := ⟨_, rfl⟩
      rw [hN] at hp hlt ⊢
      omega
    rw [e, Nat.add_mul_mod_self_left, Nat.mod_eq_of_lt (by omega)] at this
    exact this
  have e : maskN w = 2 ^ w.toNat - 1 := maskN_of (by omega)
  rw [e]
  obtain ⟨N, hN⟩ : ∃ N, 2 ^ w.toNat = N := ⟨_, rfl⟩
  rw [hN] at hs hp hlt ⊢
  clear e hN
  repeat' (first | simp (maxDischargeDepth := 9) -implicitDefEqProofs -dsimp only [go_sem, seval, *])
  refine fin_eq ?_
  (repeat' (first | simp (maxDischargeDepth := 9) -implicitDefEqProofs -dsimp only [go_sem, seval, *])) <;> (repeat' refine And.intro ?_ ?_) <;> (first | omega | rfl | assumption | skip)
  all_goals
    have ex : (BitVec.ofInt IntKind.u64.bits 18446744073709551615 ^^^ BitVec.ofInt IntKind.u64.bits ((18446744073709551616 - N : Nat) : Int)).toNat = N - 1 := by
      show (BitVec.ofInt 64 18446744073709551615 ^^^ BitVec.ofInt 64 ((18446744073709551616 - N : Nat) : Int)).toNat = N - 1
      have e1 : BitVec.ofInt 64 18446744073709551615 = BitVec.allOnes 64 := by decide
      rw [e1, BitVec.allOnes_xor, BitVec.ofInt_natCast, BitVec.toNat_not, BitVec.toNat_ofNat, Nat.mod_eq_of_lt (by omega)]
      omega
    rw [ex, wrapU_mod]; omega
theorem bv_may (w : Int) (v : Nat) (hv : v < 18446744073709551616) (σ : Sig) : ACalls Try.prog 64 [encB w v] σ (fun r σ' => r = .ret (.bool (bitsN w v)) ∧ σ' = σ) := by
  have c1 := fun τ => bv_Mask w τ
  have hb : bitsN w v = decide (1 ≤ w ∧ w ≤ 64 ∧ v ≤ maskN w) := rfl
  have hn := fun h => andNot_mask (w := w) (v := v) h hv
  obtain ⟨B, hB⟩ : ∃ B, bitsN w v = B := ⟨_, rfl⟩
  rw [hB] at hb ⊢
  obtain ⟨M, hM⟩ : ∃ M, maskN w = M := ⟨_, rfl⟩
  rw [hM] at c1 hb hn
  clear hB hM
  refine calls_x mixed Try.func64 b64 n64 rfl q64 (by simp) ?_; unfold c64 r64
  by_cases h1 : 0 < w
  case neg =>
    have hB : B = false := by rw [hb]; exact decide_eq_false (by omega)
    subst hB
    clear hb hn
    repeat' (first | simp (maxDischargeDepth := 9) -implicitDefEqProofs -dsimp only [go_sem, seval, *] | ((with_reducible apply id_one0); (focus (intro tS hS; ((first | with_reducible refine c1 _) <;> (first | (simp (maxDischargeDepth := 9) -implicitDefEqProofs -dsimp only [go_sem, seval, *]; done) | omega | ((with_reducible refine Sub.get hS ?_); simp (maxDischargeDepth := 9) -implicitDefEqProofs -dsimp only [go_sem, seval, *]; done))))); (focus (first | trivial | (simp (maxDischargeDepth := 9) -implicitDefEqProofs -dsimp only [go_sem, seval, *]; done)))))
    refine fin_eq ?_
    (repeat' (first | simp (maxDischargeDepth := 9) -implicitDefEqProofs -dsimp only [go_sem, seval, *])) <;> (repeat' refine And.intro ?_ ?_) <;> (first | omega | rfl | assumption | skip)
  by_cases h2 : w ≤ 64
  case neg =>
    have hB : B = false := by rw [hb]; exact decide_eq_false (by omega)
    subst hB
    clear hb hn
    repeat' (first | simp (maxDischargeDepth := 9) -implicitDefEqProofs -dsimp only [go_sem, seval, *] | ((with_reducible apply id_one0); (focus (intro tS hS; ((first | with_reducible refine c1 _) <;> (first | (simp (maxDischargeDepth := 9) -implicitDefEqProofs -dsimp only [go_sem, seval, *]; done) | omega | ((with_reducible refine Sub.get hS ?_); simp (maxDischargeDepth := 9) -implicitDefEqProofs -dsimp only [go_sem, seval, *]; done))))); (focus (first | trivial | (simp (maxDischargeDepth := 9) -implicitDefEqProofs -dsimp only [go_sem, seval, *]; done)))))
    refine fin_eq ?_
    (repeat' (first | simp (maxDischargeDepth := 9) -implicitDefEqProofs -dsimp only [go_sem, seval, *])) <;> (repeat' refine And.intro ?_ ?_) <;> (first | omega | rfl | assumption | skip)
  have hn := hn (by omega)
  have hB : decide (v ≤ M) = B := by rw [hb]; congr 1; simp only [eq_iff_iff]; omega
  rw [hB] at hn
  clear hb hB
  repeat' (first | simp (maxDischargeDepth := 9) -implicitDefEqProofs -dsimp only [go_sem, seval, *] | ((with_reducible apply id_one0); (focus (intro tS hS; ((first | with_reducible refine c1 _) <;> (first | (simp (maxDischargeDepth := 9) -implicitDefEqProofs -dsimp only [go_sem, seval, *]; done) | omega | ((with_reducible refine Sub.get hS ?_); simp (maxDischargeDepth := 9) -implicitDefEqProofs -dsimp only [go_sem, seval, *]; done))))); (focus (first | trivial | (simp (maxDischargeDepth := 9) -implicitDefEqProofs -dsimp only [go_sem, seval, *]; done)))))
  refine fin_eq ?_
  (repeat' (first | simp (maxDischargeDepth := 9) -implicitDefEqProofs -dsimp only [go_sem, seval, *])) <;> (repeat' refine And.intro ?_ ?_) <;> (first | omega | rfl | assumption | skip)
theorem bv_Check (w : Int) (v : Nat) (hv : v < 18446744073709551616) (σ : Sig) : ACalls Try.prog 37 [encB w v] σ (fun r σ' => r = .ret (.int .i64 (if bitsN w v then 0 else 1)) ∧ σ' = σ) := by
  have c1 := fun τ => bv_may w v hv τ
  obtain ⟨B, hB⟩ : ∃ B, bitsN w v = B := ⟨_, rfl⟩
  rw [hB] at c1 ⊢
  clear hB
  refine calls_x mixed Try.func37 b37 n37 rfl q37 (by simp) ?_; unfold c37 r37
  cases B
  all_goals
    repeat' (first | simp (maxDischargeDepth := 9) -implicitDefEqProofs -dsimp only [go_sem, seval, *] | ((with_reducible apply ACalls.one1); (focus ((first | with_reducible refine c1 _) <;> (first | (simp (maxDischargeDepth := 9) -implicitDefEqProofs -dsimp only [go_sem, seval, *]; done) | omega))); (focus (first | trivial | with_reducible exact rfl | (simp (maxDischargeDepth := 9) -implicitDefEqProofs -dsimp only [go_sem, seval]; done)))))
    refine fin_eq ?_
    (repeat' (first | simp (maxDischargeDepth := 9) -implicitDefEqProofs -dsimp only [go_sem, seval, *])) <;> (repeat' refine And.intro ?_ ?_) <;> (first | omega | rfl | assumption | skip)
end Go.Proofs.Ytbbihmmobfmadaa

namespace Go.Proofs.Ytbbihmmobfmadaa
open Abs Fil Fil.Bl
abbrev buC (b : Bu) : AObj := workC b.g b.e
theorem bu_do (o : Nat) (b : Bu) (g' : Aig) (l e' : Int) (F : Nat) (caps : List AV) (σ : Sig) (h : σ o = some (buC b))
    (hF : b.e = 0 → ACalls Try.prog F caps σ (fun r σ' => r = .ret (.tup [encAig g', .int .i64 l, .int .i64 e']) ∧ σ' = σ)) :
    ACalls Try.prog 73 [.ptr o 0, .fn F [] caps] σ (fun r σ' => r = .ret (.int .i64 (if b.e ≠ 0 then 0 else if e' ≠ 0 then 0 else l)) ∧ σ' = upd σ o (buC (if b.e ≠ 0 then b else if e' ≠ 0 then ⟨b.g, e'⟩ else ⟨g', 0⟩))) := by
  have hu : upd σ o (buC b) = σ := by
    funext k
    by_cases hk : k = o
    · subst hk; simp [upd, h]
    · simp [upd, hk]
  obtain ⟨L, hL⟩ : ∃ L, (if b.e ≠ 0 then (0 : Int) else if e' ≠ 0 then 0 else l) = L := ⟨_, rfl⟩
  obtain ⟨B, hB⟩ : ∃ B, (if b.e ≠ 0 then b else if e' ≠ 0 then ⟨b.g, e'⟩ else ⟨g', 0⟩ : Bu) = B := ⟨_, rfl⟩
  rw [hL, hB]
  by_cases hb : b.e = 0
  · simp only [hb, ne_eq, not_true_eq_false, if_false] at hL hB
    have hF := hF hb
    by_cases he : e' = 0
    · simp only [he, not_true_eq_false, if_false] at hL hB
      subst he hL hB
      clear hu
      refine calls_x mixed Try.func73 b73 n73 rfl q73 (by simp) ?_; unfold c73 r73
      repeat' (first | simp (maxDischargeDepth := 9) -implicitDefEqProofs -dsimp only [go_sem, seval, *] | ((with_reducible refine Zt (fun oF hoF hnF hnF' => ?_)); (try simp only [upd_none, ne_eq, not_and] at hoF)) | ((with_reducible apply ACalls.one1); (focus ((first | with_reducible refine hF) <;> (first | (simp (maxDischargeDepth := 9) -implicitDefEqProofs -dsimp only [go_sem, seval, *]; done) | omega))); (focus (first | trivial | with_reducible exact rfl | (simp (maxDischargeDepth := 9) -implicitDefEqProofs -dsimp only [go_sem, seval]; done)))))
      refine fin_eq ?_
      (repeat' (first | simp (maxDischargeDepth := 9) -implicitDefEqProofs -dsimp only [go_sem, seval, *])) <;> (repeat' refine And.intro ?_ ?_) <;> (first | omega | rfl | assumption | skip)
    · simp only [he, not_false_eq_true, if_true] at hL hB
      subst hL hB
      have heb : (e' != 0) = true := by simpa using he
      clear hu he
      refine calls_x mixed Try.func73 b73 n73 rfl q73 (by simp) ?_; unfold c73 r73
      repeat' (first | simp (maxDischargeDepth := 9) -implicitDefEqProofs -dsimp only [go_sem, seval, *] | ((with_reducible refine Zt (fun oF hoF hnF hnF' => ?_)); (try simp only [upd_none, ne_eq, not_and] at hoF)) | ((with_reducible apply ACalls.one1); (focus ((first | with_reducible refine hF) <;> (first | (simp (maxDischargeDepth := 9) -implicitDefEqProofs -dsimp only [go_sem, seval, *]; done) | omega))); (focus (first | trivial | with_reducible exact rfl | (simp (maxDischargeDepth := 9) -implicitDefEqProofs -dsimp only [go_sem, seval]; done)))))
      refine fin_eq ?_
      (repeat' (first | simp (maxDischargeDepth := 9) -implicitDefEqProofs -dsimp only [go_sem, seval, *])) <;> (repeat' refine And.intro ?_ ?_) <;> (first | omega | rfl | assumption | skip)
  · simp only [hb, ne_eq, not_false_eq_true, if_true] at hL hB
    subst hL hB
    rw [hu]
    have hbb : (b.e != 0) = true := by simpa using hb
    clear hF hu hb
    refine calls_x mixed Try.func73 b73 n73 rfl q73 (by simp) ?_; unfold c73 r73
    repeat' (first | simp (maxDischargeDepth := 9) -implicitDefEqProofs -dsimp only [go_sem, seval, *] | ((with_reducible refine Zt (fun oF hoF hnF hnF' => ?_)); (try simp only [upd_none, ne_eq, not_and] at hoF)))
    refine fin_eq ?_
    (repeat' (first | simp (maxDischargeDepth := 9) -implicitDefEqProofs -dsimp only [go_sem, seval, *])) <;> (repeat' refine And.intro ?_ ?_) <;> (first | omega | rfl | assumption | skip)
end Go.Proofs.Ytbbihmmobfmadaa

namespace Abs
open Go

/-! ### Pins -/
theorem pushed_alloc (w : World) (x : Obj) : Pushed w (w.alloc x) x := ⟨rfl, rfl, rfl, rfl⟩
theorem Sat.pinNew {K : Gh} {σ : Sig} {w : World} (h : Sat K σ w) {x : Obj} (hx : Obj.loose x) {o : Nat} (ho : K.own o = none) {S : Nat → Prop} (hS : ¬ S o) :
    ∃ K', K.leS S K' ∧ Sat K' (upd σ o (.pin x)) (w.alloc x) ∧ K'.own o = some (.pin w.heap.size) := by
  obtain ⟨h1, h2⟩ := h.pushName (pushed_alloc w x) hx (fun _ => none) (fun i v e => by simp at e) ho (.pin w.heap.size) rfl (.pin x) ⟨h.size, (pushed_alloc w x).new, fun i => by simp [Gh.claimed]⟩
  refine ⟨_, ⟨h1, fun o' hs hn => ?_⟩, h2, by simp [Gh.named]⟩
  have : o' ≠ o := fun e => hS (e ▸ hs)
  simp only [Gh.named, Gh.claimed, if_neg this]
  exact hn
theorem Sat.pinPut {K : Gh} {σ : Sig} {w : World} (h : Sat K σ w) {x x' : Obj} (hx' : Obj.loose x') {o r : Nat} (hs : σ o = some (.pin x)) (ho : K.own o = some (.pin r)) :
    Sat K (upd σ o (.pin x')) (w.putObj r x') := by
  obtain ⟨e, k1, k2⟩ := h.live o _ hs
  rw [ho] at k1
  cases k1
  simp only [ObjSat] at k2
  obtain ⟨q1, q2, q3⟩ := k2
  have hlt : r < w.heap.size := (Array.getElem?_eq_some_iff.1 q2).1
  refine h.write (Gh.le.refl K) hs ho rfl (fun _ _ => rfl) ho rfl rfl rfl rfl (by simp [World.putObj]) (fun b hb => World.putObj_heap_other hb) (fun i => ?_) (fun i v e => ?_) (fun _ _ _ => rfl) ⟨q1, World.putObj_heap_same hlt, q3⟩
  · exact frozen_loose (World.putObj_heap_same hlt) hx'
  · have := q3 i
    rw [show (Own.pin r).blk = r from rfl] at e
    rw [this] at e
    simp at e

/-! ### Regions in a round -/
theorem uponIn_round {P : Program} {o : Oper} {a : Act} {next next' : Act → World → Prop} {Q : Exit → Act → World → Prop} {r : Result Next} (l n : Nat) (hn : ∀ a w, next a w → next' a w)
    (h : o.upon P a next Q r) : o.uponIn (Fence.wide.inRound l) n P a next' Q r := by
  unfold Oper.upon at h
  unfold Oper.uponIn
  split at h
  · exact hn _ _ h
  · exact hn _ _ h
  · exact hn _ _ h
  · refine ⟨fun hd => by simp [Fence.wide] at hd, ?_⟩
    exact CallsIn.mono (callsIn_wide.2 h) fun e w' q => by
      cases e
      · exact hn _ _ q
      · exact q
      · exact q
  · refine ⟨fun hd => by simp [Fence.wide] at hd, ?_⟩
    intro c cs _
    obtain ⟨v, w', r, s⟩ := h c cs
    exact ⟨v, w', hn _ _ r, stepsIn_wide.2 s⟩
  · exact h
  · exact h.elim
theorem wpOps_round {P : Program} {ops : Array Oper} {Q : Exit → Act → World → Prop} (l n : Nat) (hd : ∀ (i : Nat) (o : Oper), ops[i]? = some o → ∀ c, o.op ≠ .defer c) (hl : ¬ LetsOut Q) :
    ∀ (is : List Nat) (a : Act) (w : World), wpOps P ops Q is a w → wpOpsIn (Fence.wide.inRound l) n P ops Q is a w
  | [], a, w, h => h
  | i :: is, a, w, h => by
    simp only [wpOps] at h
    simp only [wpOpsIn]
    cases ho : ops[i]? with
    | none =>
      rw [ho] at h
      exact wpOps_round l n hd hl is a w h
    | some o =>
      rw [ho] at h
      simp only at h ⊢
      split
      · rename_i hw
        rw [if_pos hw] at h
        rcases h with h | h
        · refine ⟨fun _ _ => trivial, ?_⟩
          rw [Oper.semAt_eq _ _ _ (hd i o ho)]
          exact uponIn_round l n (fun a w => wpOps_round l n hd hl is a w) h
        · exact absurd h.2 hl
      · rename_i hw
        rw [if_neg hw] at h
        exact ⟨fun _ _ => trivial, wpOps_round l n hd hl is _ _ h⟩

/-! ### The loop -/
theorem range_law {P : Program} {n : Nat} {t : Nat} {p : Tmp} {assign body : Code} {Q : Exit → Act → World → Prop} {a : Act} {w : World} {gf : Nat} {lb : Array Value}
    (hg : a.eval (.tmp t) = .func (.func gf) #[] lb) (hc : callable P gf = true) {xs : List Int} (I : Nat → Obj → World → Prop)
    (h0 : ∀ r, I 0 (.loop r) ((w.alloc (.deferred (some []))).alloc (.loop r)))
    (hrec : ∀ k o W, I k o W → W.heap[w.heap.size + 1]? = some o)
    (hput : ∀ k r r' W, I k (.loop r) W → I k (.loop r') (W.putObj (w.heap.size + 1) (.loop r')))
    (hit : ∀ (J : Nat → World → Prop) W, (∃ r, W = (w.alloc (.deferred (some []))).alloc (.loop r)) → (∀ k W, J k W → ∃ o, I k o W) → (∀ k x W1, xs[k]? = some x → J k W1 → YieldAt Fence.wide (n - 1 - 1) P (w.heap.size + 1) #[.int .i64 x] W1 fun e W' => e = .returned (.bool true) ∧ J (k + 1) W') →
      J 0 W → CallsIn Fence.wide (n - 1) P gf (#[.func (.yield (w.heap.size + 1)) #[] #[]] ++ lb) W fun e W' => (∃ v, e = .returned v) ∧ J xs.length W')
    (a₁ : Int → Act)
    (hassign : ∀ x W (K : Act → World → Prop), K (a₁ x) W → assign.wpIn (Fence.wide.inRound (w.heap.size + 1)) (n - 1 - 1) P (Exit.then K (fun _ _ _ => False)) { tmps := (#[p].zip #[Value.int .i64 x]).foldl (fun t (p, v) => t.setIfInBounds p v) a.tmps, defers := [] } W)
    (hbody : ∀ k x r W, xs[k]? = some x → I k (.loop r) W → body.wpIn (Fence.wide.inRound (w.heap.size + 1)) (n - 1 - 1) P (fun e _ W' => e = .normal ∧ I (k + 1) (.loop r) W') (a₁ x) W)
    (hdone : ∀ r W, I xs.length (.loop r) W → Q .normal { a with defers := { target := .collected w.heap.size, args := #[] } :: a.defers } W) :
    (Code.rangeFunc (.tmp t) #[p] assign body).wpIn Fence.wide n P Q a w := by
  refine wpIn_rangeFunc ?_
  intro fn hfn
  obtain ⟨rec, hrc⟩ : ∃ rec : LoopState → Option Code → Loop, rec = fun st pe => { state := st, pending := pe, fn, tmps := a.tmps, params := #[p], assign, body, defers := w.heap.size } := ⟨_, rfl⟩
  obtain ⟨W1, hW1⟩ : ∃ W1, (w.alloc (.deferred (some []))).alloc (.loop (rec .ready none)) = W1 := ⟨_, rfl⟩
  refine ⟨w.heap.size + 1, [{ target := .collected w.heap.size, args := #[] }], W1, { target := .fn (.func gf) lb, args := #[.func (.yield (w.heap.size + 1)) #[] #[]] }, W1, gf,
    #[.func (.yield (w.heap.size + 1)) #[] #[]] ++ lb, W1, ?_, ?_, fun _ _ => trivial, ?_, fun hd => by simp [Fence.wide] at hd, ?_⟩
  · rw [← hW1, hrc]; exact run_enterLoop_outer _ _ _ _ _
  · simp only [resolve, hg]
    simp [go_sem]
  · simp only [invoke]
    exact callFunc_run hc _ _
  · refine CallsIn.mono (hit (fun k W => I k (.loop (rec .ready none)) W) W1 ⟨_, hW1.symm⟩ (fun k W h => ⟨_, h⟩) ?_ (by rw [← hW1]; exact h0 _)) ?_
    · rintro k x W hx hi
      have hl := hrec _ _ _ hi
      have hy := run_yield (P := P) (args := #[Value.int .i64 x]) hl (by rw [hrc]; rfl)
      rw [hrc] at hy
      refine ⟨fn, _, assign, body, hy, roundIn_of_wpIn hfn ?_⟩
      refine hassign x W _ ?_
      refine ⟨_, run_beginRound hl (by rw [hrc]), ?_⟩
      have hi2 := hput k _ { rec .ready none with state := .busy } W hi
      refine wpIn_mono (hbody k x _ _ hx hi2) ?_
      rintro e a3 W3 ⟨rfl, hi3⟩
      have hl3 := hrec _ _ _ hi3
      refine ⟨_, _, run_endRound (P := P) none hl3, rfl, ?_⟩
      have := hput (k + 1) _ (rec .ready none) W3 hi3
      have e : ({ rec .ready none with state := .busy } : Loop) = { rec .ready none with state := .busy } := rfl
      rw [hrc] at this ⊢
      exact this
    · rintro e W2 ⟨⟨v, rfl⟩, hi⟩
      have hl := hrec _ _ _ hi
      refine ⟨none, _, ?_, hdone _ _ (hput _ _ { rec .ready none with state := .exhausted } _ hi)⟩
      have := run_endLoop (P := P) hl (by rw [hrc]; simp)
      rw [hrc] at this ⊢
      exact this

/-! ### A body with one range over a function -/
def rngOf (P : Program) (N : Nat) : Code → Option (List AInst × List AInst × Nat × Nat × Nat × List AInst × List AInst)
  | .seq (.region _ oa false) (.seq (.seq (.region _ ob false) (.block _ (.rangeFunc (.tmp t) ps (.region _ oc false) (.block _ (.region _ od false))))) (.seq (.region _ oe false) .ret)) =>
    match oc.toList, ps.toList with
    | [c], [p] =>
      match c.op, c.dst with
      | .assign (.tmp p'), some q =>
        if p' = p ∧ c.guard = none ∧ p < N ∧ q < N then
          match trInsts P N oa oa.toList, trInsts P N ob ob.toList, trInsts P N od od.toList, trInsts P N oe oe.toList with
          | some ia, some ib, some id, some ie => some (ia, ib, t, p, q, id, ie)
          | _, _, _, _ => none
        else none
      | _, _ => none
    | _, _ => none
  | _ => none
theorem rngOf_some {P N c ia ib t p q id ie} (h : rngOf P N c = some (ia, ib, t, p, q, id, ie)) : ∃ i1 oa i2 ob i3 ps i4 oc i5 i6 od i7 oe x, c = .seq (.region i1 oa false) (.seq (.seq (.region i2 ob false) (.block i3 (.rangeFunc (.tmp t) ps (.region i4 oc false) (.block i5 (.region i6 od false))))) (.seq (.region i7 oe false) .ret)) ∧
    oc.toList = [x] ∧ ps.toList = [p] ∧ x.op = .assign (.tmp p) ∧ x.dst = some q ∧ x.guard = none ∧ p < N ∧ q < N ∧ trInsts P N oa oa.toList = some ia ∧ trInsts P N ob ob.toList = some ib ∧ trInsts P N od od.toList = some id ∧ trInsts P N oe oe.toList = some ie := by
  unfold rngOf at h
  split at h <;> try (simp at h; done)
  rename_i i1 oa i2 ob i3 t' ps i4 oc i5 i6 od i7 oe
  split at h <;> try (simp at h; done)
  rename_i x p1 e1 e2
  split at h <;> try (simp at h; done)
  rename_i p2 q1 e3 e4
  split at h <;> try (simp at h; done)
  rename_i hc
  split at h <;> try (simp at h; done)
  rename_i a b d e h1 h2 h3 h4
  simp only [Option.some.injEq, Prod.mk.injEq] at h
  obtain ⟨rfl, rfl, rfl, rfl, rfl, rfl, rfl⟩ := h
  obtain ⟨rfl, g1, g2, g3⟩ := hc
  exact ⟨i1, oa, i2, ob, i3, ps, i4, oc, i5, i6, od, i7, oe, x, rfl, e1, e2, e3, e4, g1, g2, g3, h1, h2, h3, h4⟩
def thenI (k : Env → Sig → Prop) : AExit → Env → Sig → Prop
  | .normal, env, σ => k env σ
  | _, _, _ => False
def AIter (P : Program) (g : FuncId) (caps : List AV) (σ : Sig) (xs : List Int) : Prop :=
  callable P g = true ∧ ∀ K w (vals : Array Value), RelL K caps vals.toList → Sat K σ w → ∀ (l : Nat) (J : Nat → World → Prop) (W : World),
    (∀ b, b < w.heap.size → W.heap[b]? = w.heap[b]?) → (∀ k W, J k W → ∀ b o v, K.claim b o = some v → W.cell? ⟨b, o, none⟩ = some v) →
    (∀ k x W1, xs[k]? = some x → J k W1 → YieldAt Fence.wide 7 P l #[.int .i64 x] W1 fun e W' => e = .returned (.bool true) ∧ J (k + 1) W') →
    J 0 W → CallsIn Fence.wide 8 P g (#[.func (.yield l) #[] #[]] ++ vals) W fun e W' => (∃ v, e = .returned v) ∧ J xs.length W'
def Pins (τ τ' : Sig) : Prop := ∀ o y, τ o = some (.pin y) → τ' o = some (.pin y)
def exRng (P : Program) (rs : List ARV) (R : ARes → Sig → Prop) (t p q : Nat) (id ie : List AInst) (env : Env) (σ : Sig) (_ : Tg R := .mk) : Prop :=
  wth (lk env t) fun v => match v with
    | .fn g first caps => first = [] ∧ ∃ (xs : List Int) (S : Nat → Sig), AIter P g caps σ xs ∧ Sub (S 0) σ ∧ (∀ k o, σ o = none → S k o = none) ∧
      (∀ k x τ, xs[k]? = some x → Sub (S k) τ → exInsts P (thenI fun _ τ' => Sub (S (k + 1)) τ' ∧ Pins τ τ') id ((q, some (.int .i64 x)) :: (p, some (.int .i64 x)) :: env) τ) ∧
      (∀ τ, Sub (S xs.length) τ → exInsts P (thenI fun env τ' => (Sub (S xs.length) τ' ∧ Pins τ τ') ∧ exRes env (S xs.length) (fun l => fin R (one l) (S xs.length)) rs) ie env τ)
    | _ => False
theorem region_ok {P : Program} {N : Nat} {S : Nat → Prop} (hS : Bnd S) {ops : Array Oper} {is : List AInst} (ht : trInsts P N ops ops.toList = some (is.map AInst.bare)) {Q : AExit → Env → Sig → Prop} {env : Env} {σ : Sig} {K : Gh} {a : Act} {w : World}
    (h : exInsts P Q is env σ) (hf : Fr K N env a) (hs : Sat K σ w) : wpOps P ops (LiftQ N S K Q) (List.range ops.size) a w := by
  have := insts_ok (Q := Q) (ops := ops) hS (K0 := K) is 0 ops.toList (by simp) ht env σ K a w (Gh.leS.refl K) h hf hs
  rw [List.range_eq_range']
  simpa using this
theorem no_defer {P : Program} {N : Nat} {ops : Array Oper} : ∀ {l : List Oper} {is : List AInst}, trInsts P N ops l = some is → ∀ o ∈ l, ∀ c, o.op ≠ .defer c
  | [], is, _, o, ho, c => by simp at ho
  | x :: l, is, h, o, ho, c => by
    simp only [trInsts] at h
    split at h <;> try (simp at h; done)
    rename_i i is' h1 h2
    rcases List.mem_cons.1 ho with rfl | ho
    · intro hd
      have := (trInst_some h1).1
      rw [hd] at this
      simp [trOp] at this
    · exact no_defer h2 o ho c
theorem not_out {N : Nat} {S : Nat → Prop} {K : Gh} {Q : AExit → Env → Sig → Prop} : ¬ LetsOut (LiftQ N S K Q) := by
  rintro ⟨a, w, ae, K', env, σ, h1, h2, _⟩
  cases ae <;> exact h2.elim
theorem lift_I {N S K k e a w} (h : LiftQ N S K (thenI k) e a w) : e = .normal ∧ ∃ K' env σ, K.leS S K' ∧ Fr K' N env a ∧ Sat K' σ w ∧ k env σ := by
  obtain ⟨ae, K', env, σ, h1, h2, h3, h4, h5⟩ := h
  cases ae <;> first | exact h5.elim | skip
  cases e <;> first | exact h2.elim | skip
  exact ⟨rfl, K', env, σ, h1, h3, h4, h5⟩
theorem pin_own {K K' : Gh} (h : K.le K') {o r : Nat} (ho : K.own o = some (.pin r)) : K'.own o = some (.pin r) := by
  obtain ⟨x, h1, h2⟩ := h.own o _ ho
  simp only [Own.le] at h2
  rw [h1, ← h2]
theorem sub_upd {σ τ : Sig} {o : Nat} {x : AObj} (h : Sub σ τ) (ho : σ o = none) : Sub σ (upd τ o x) := fun i y e => by
  have : i ≠ o := fun e' => by subst e'; simp [ho] at e
  simp only [upd, if_neg this]
  exact h i y e
theorem calls_of_range {P : Program} {f : FuncId} {fn : Func} {N : Nat} {rs : List ARV} {ia ib id ie : List AInst} {t p q : Nat} {args : List AV} {σ : Sig} {R : ARes → Sig → Prop}
    (hfn : P.funcs[f]? = some fn) (hb : fn.body.bind (rngOf P N) = some (ia.map AInst.bare, ib.map AInst.bare, t, p, q, id.map AInst.bare, ie.map AInst.bare)) (hname : (fn.name == "runtime.NumGoroutine") = false) (hN : fn.ntmps = N)
    (hr : trRes P fn.results.toList = some rs) (hargs : args.length ≤ N)
    (h : exInsts P (thenI fun env σ => exInsts P (thenI fun env σ => exRng P rs R t p q id ie env σ) ib env σ) ia (argEnv 0 args) σ) :
    ACalls P f args σ R := by
  cases hc : fn.body with
  | none => simp [hc] at hb
  | some c =>
  rw [hc] at hb
  obtain ⟨i1, oa, i2, ob, i3, ps, i4, oc, i5, i6, od, i7, oe, x, rfl, ec, ep, x1, x2, x3, hp, hq, ta, tb, td, te⟩ := rngOf_some (by simpa using hb)
  obtain rfl := array_one ec
  obtain rfl := array_one ep
  refine ⟨by simp [callable, hfn, hc, hname], fun S K w vals hS hrel hs => callsIn_wide.1 (callsIn_of_wp_marks (F := Fence.wide) (n := 9) hfn hc trivial ?_ rfl)⟩
  have hf : Fr { K with ds := [] } N (argEnv 0 args) { tmps := vals ++ Array.replicate (fn.ntmps - vals.size) undef, defers := [] } := frame_enter hN hargs (hrel.ds []) rfl
  refine wpIn_seq (wpIn_mono (wpIn_wide.2 (wp_region (region_ok hS ta h hf (hs.ds [])))) fun e a1 w1 hq1 => ?_)
  obtain ⟨rfl, K1, env1, σ1, k1, k2, k3, k4⟩ := lift_I hq1
  show Code.wpIn _ _ _ _ _ a1 w1
  refine wpIn_seq (wpIn_seq (wpIn_mono (wpIn_wide.2 (wp_region (region_ok hS tb k4 k2 k3))) fun e a2 w2 hq2 => ?_))
  obtain ⟨rfl, K2, env2, σ2, m1, m2, m3, m4⟩ := lift_I hq2
  show Code.wpIn _ _ _ _ _ a2 w2
  obtain ⟨fv, l1, m5⟩ := wth_some m4
  cases fv <;> first | exact m5.elim | skip
  rename_i g first caps
  obtain ⟨rfl, xs, Z, ⟨hcal, hai⟩, z0, zd, zs, ze⟩ := m5
  obtain ⟨v, l2, l3⟩ := m2.rel t _ l1
  obtain ⟨fs, cs, rfl, l4, l5⟩ := rel_fn l3
  obtain rfl : fs = #[] := by have := l4.1; simp at this; exact Array.eq_empty_of_size_eq_zero (by simpa using this.symm)
  have hev : a2.eval (.tmp t) = .func (.func g) #[] cs := by simp [Act.eval, Array.getD_eq_getD_getElem?, l2]
  have hK02 := k1.trans m1
  have hds2 : K2.ds = [] := hK02.le.ds
  -- the two names
  obtain ⟨nd, d1, d2, d3⟩ := freshFor m3 hS
  obtain ⟨K3, n1, n2, n3⟩ := m3.pinNew (x := .deferred (some [])) trivial d1 d2
  obtain ⟨nl, e1, e2, e3⟩ := freshFor n2 hS
  have hne : nl ≠ nd := fun h => by rw [h, n3] at e1; simp at e1
  have e4 : σ2 nl = none := by simpa [upd, hne] using e3
  refine wpIn_block (range_law (w := w2) (xs := xs) hev hcal (fun k o W => ∃ K' τ, K2.leS S K' ∧ Sat K' τ W ∧ Sub (Z k) τ ∧ τ nd = some (.pin (.deferred (some []))) ∧ K'.own nd = some (.pin w2.heap.size) ∧ τ nl = some (.pin o) ∧ K'.own nl = some (.pin (w2.heap.size + 1)))
    (fun r => ?_) ?_ ?_ ?_ (fun y => ({ tmps := (#[p].zip #[Value.int .i64 y]).foldl (fun t (p, v) => t.setIfInBounds p v) a2.tmps, defers := [] } : Act).put (some q) (.int .i64 y)) ?_ ?_ ?_)
  · obtain ⟨K4, o1, o2, o3⟩ := n2.pinNew (x := .loop r) trivial e1 e2
    refine ⟨K4, _, n1.trans o1, o2, ?_, ?_, pin_own o1.le n3, by simp [upd], by rw [o3, World.size_alloc]⟩
    · exact sub_upd (sub_upd z0 (zd 0 nd d3)) (zd 0 nl e4)
    · simp [upd, Ne.symm hne]
  · rintro k o W ⟨K', τ, q1, q2, q3, q4, q5, q6, q7⟩
    obtain ⟨e, r1, r2⟩ := q2.live nl _ q6
    rw [q7] at r1; cases r1
    exact r2.2.1
  · rintro k r r' W ⟨K', τ, q1, q2, q3, q4, q5, q6, q7⟩
    refine ⟨K', _, q1, q2.pinPut (x' := .loop r') trivial q6 q7, sub_upd q3 (zd k nl e4), ?_, q5, by simp [upd], q7⟩
    simp only [upd, if_neg (Ne.symm hne)]; exact q4
  · rintro J W ⟨r, rfl⟩ hJ hy h0
    refine hai K2 w2 cs l5 m3 _ J _ (fun b hb => ?_) (fun k W hk b o v hcl => ?_) hy h0
    · rw [(pushed_alloc _ _).old b (by rw [World.size_alloc]; omega), (pushed_alloc _ _).old b hb]
    · obtain ⟨o', K', τ, q1, q2, _⟩ := hJ k W hk
      exact q2.claim b o v (q1.le.claim b o v hcl)
  · intro y W Kq hKq
    refine wpIn_region ?_
    have hsz : (#[x] : Array Oper).size = 1 := rfl
    rw [hsz, show List.range 1 = [0] from rfl]
    simp only [wpOpsIn, List.getElem?_toArray, List.getElem?_cons_zero, Region.wanted, x3, if_true]
    refine ⟨fun _ _ => trivial, ?_⟩
    rw [Oper.semAt_eq _ _ _ (by rw [x1]; intro c; simp)]
    have hpa : p < a2.tmps.size := by rw [m2.size]; exact hp
    have hv : ({ tmps := (#[p].zip #[Value.int .i64 y]).foldl (fun t (p, v) => t.setIfInBounds p v) a2.tmps, defers := [] } : Act).eval (.tmp p) = .int .i64 y := by
      simp [Act.eval, Array.getD_eq_getD_getElem?, hpa]
    simp only [execOp, x1, hv, Sem.run_pure, Oper.uponIn_value, x2]
    exact hKq
  · rintro k y r W hy ⟨K', τ, q1, q2, q3, q4, q5, q6, q7⟩
    have hf2 : Fr K' N ((q, some (.int .i64 y)) :: (p, some (.int .i64 y)) :: env2) (({ tmps := (#[p].zip #[Value.int .i64 y]).foldl (fun t (p, v) => t.setIfInBounds p v) a2.tmps, defers := [] } : Act).put (some q) (.int .i64 y)) := by
      have h1 := ((m2.mono q1.le).put hp (.int .i64 y)).put hq (.int .i64 y)
      have : a2.defers = [] := m2.defers.trans hds2
      simpa [Act.put, this] using h1
    have hw := wpOps_round (w2.heap.size + 1) (9 - 1 - 1) (fun i o ho c => no_defer td o (by
      rw [← Array.getElem?_toList] at ho
      exact List.mem_of_getElem? ho) c) not_out _ _ _ (region_ok hS td (zs k y τ hy q3) hf2 q2)
    refine wpIn_block (wpIn_mono (wpIn_region hw) fun e a w hq => ?_)
    obtain ⟨rfl, K6, env6, σ6, u1, u2, u3, u4, u5⟩ := lift_I hq
    exact ⟨rfl, K6, σ6, q1.trans u1, u3, u4, u5 _ _ q4, pin_own u1.le q5, u5 _ _ q6, pin_own u1.le q7⟩
  · rintro r W ⟨K', τ, q1, q2, q3, q4, q5, q6, q7⟩
    let dd : Deferred := { target := .collected w2.heap.size, args := #[] }
    have had : a2.defers = [] := m2.defers.trans hds2
    have hf3 : Fr { K' with ds := [dd] } N env2 { a2 with defers := dd :: a2.defers } := ⟨m2.size, by show dd :: a2.defers = [dd]; rw [had], fun i av e => by
      obtain ⟨v, e1, r⟩ := m2.rel i av e
      exact ⟨v, e1, (r.mono q1.le).ds _⟩⟩
    show Code.wpIn _ _ _ _ _ ({ a2 with defers := dd :: a2.defers } : Act) W
    refine wpIn_seq (wpIn_mono (wpIn_wide.2 (wp_region (region_ok hS te (ze τ q3) hf3 (q2.ds [dd])))) fun e a5 w5 hq5 => ?_)
    obtain ⟨rfl, K5, env5, σ5, v1, v2, v3, ⟨v4, v5⟩, v6⟩ := lift_I hq5
    show Code.wpIn _ _ _ _ _ a5 w5
    refine wpIn_ret ?_
    have hds5 : K5.ds = [dd] := v1.le.ds
    have hown5 : K5.own nd = some (.pin w2.heap.size) := pin_own v1.le (K := { K' with ds := [dd] }) q5
    have hpin5 := v5 _ _ q4
    have hheap : w5.heap[w2.heap.size]? = some (.deferred (some [])) := by
      obtain ⟨e, r1, r2⟩ := v3.live nd _ hpin5
      rw [hown5] at r1; cases r1
      exact r2.2.1
    show LeavesInM Fence.wide 9 P fn a5.tmps _ a5.defers .returning w5
    rw [v2.defers, hds5]
    refine ⟨by simp, .inl ⟨_, _, rfl, run_takeDeferred hheap, ?_⟩⟩
    have hs6 := (v3.pinPut (x' := .deferred none) trivial hpin5 hown5).sub (sub_upd v4 (zd _ nd d3))
    obtain ⟨l, v, w1', w2', v0, σ0, w3', w4'⟩ := results_ok v2 hs6 hr v6
    obtain ⟨K6, y1, y2, y3⟩ := w2'.view w3' hS hs6
    have hle : K.leS S { K6 with ds := K.ds } := by
      have h1 := (k1.trans m1).trans q1
      have h2 := v1.trans y1
      exact ⟨⟨h2.le.base.trans h1.le.base, fun b o v e => h2.le.claim b o v (h1.le.claim b o v e), fun o x e => by
        obtain ⟨x', e', l'⟩ := h1.le.own o x e
        obtain ⟨x'', e'', l''⟩ := h2.le.own o x' e'
        exact ⟨x'', e'', Own.le_trans l' l''⟩, rfl⟩, fun o hs hn => h2.free o hs (h1.free o hs hn)⟩
    exact ⟨v, w1', _, .ret _, σ0, hle, y3.ds _, EndRel.ds (e := .returned v) (r := .ret _) _ y2, w4'⟩
end Abs

namespace Go.Proofs.Ytbbihmmobfmadaa
open Abs Fil Fil.Bl Go.RowKit Go.Shelf
section walks
attribute [local go_sem] Oper.semAt_some
set_option maxRecDepth 100000 in
set_option maxHeartbeats 4000000 in
theorem values1_in (l Bs b off len cap : Nat) (zs : Nat → Int) (hreach : len * 8 ≤ 140737488351232) (J : Nat → World → Prop)
    (hcl : ∀ k W, J k W → ∀ j, j < len → W.cell? ⟨b, off + j, none⟩ = some (.int .i64 (zs j)))
    (hY : ∀ k W1, k < len → J k W1 → YieldAt Fence.wide 7 Try.prog l #[.int .i64 (zs k)] W1 fun e W' => e = .returned (.bool true) ∧ J (k + 1) W')
    (W : World) (hBs : W.cell? ⟨Bs, 0, none⟩ = some (.slice (some ⟨b, off, none⟩) len cap)) (h0 : J 0 W) :
    CallsIn Fence.wide 8 Try.prog 84 #[.func (.yield l) #[] #[], .pointer (some ⟨Bs, 0, none⟩)] W fun e W' => (∃ v, e = .returned v) ∧ J len W' := by
  refine callsIn_of_wp Try.func84 rfl trivial ?_ rfl
  simp only [Try.ntmps84, List.size_toArray, List.length_cons, List.length_nil, Nat.reduceAdd, Nat.reduceSub, Array.replicate_succ, Array.replicate_zero, List.push_toArray, List.append_toArray, List.nil_append, List.cons_append]
  gi_wp2
  gi_loopw [7] (fun i wr => ∃ k : Nat, k ≤ len ∧ i = .int .i64 k ∧ J k wr)
    (fun i _ => len - (intOf i).toNat)
  case atStart => exact ⟨0, Nat.zero_le _, rfl, h0⟩
  case round =>
    obtain ⟨k, hk, rfl, hJs⟩ := hrel
    by_cases hlt : k < len
    · obtain ⟨fn, tmps, assign, body, hy, hR⟩ := hY _ wr hlt hJs
      have hcx' := hcl k wr hJs k hlt
      gi_wp2
      refine hR.mono ?_
      rintro e W3 ⟨rfl, hJ3⟩
      gi_wp2
      go_roundw
      case rel => exact ⟨k + 1, by omega, by simp, hJ3⟩
      case measure => simp [intOf]; omega
    · obtain rfl : k = len := by omega
      gi_wp2
      go_end0
      exact ⟨⟨_, rfl⟩, hJs⟩
set_option maxRecDepth 100000 in
set_option maxHeartbeats 1000000 in
theorem values0_in (l Bs : Nat) (a : Option Addr) (cap : Nat) (J : Nat → World → Prop) (W : World) (hBs : W.cell? ⟨Bs, 0, none⟩ = some (.slice a 0 cap)) (h0 : J 0 W) :
    CallsIn Fence.wide 8 Try.prog 84 #[.func (.yield l) #[] #[], .pointer (some ⟨Bs, 0, none⟩)] W fun e W' => (∃ v, e = .returned v) ∧ J 0 W' := by
  refine callsIn_of_wp Try.func84 rfl trivial ?_ rfl
  simp only [Try.ntmps84, List.size_toArray, List.length_cons, List.length_nil, Nat.reduceAdd, Nat.reduceSub, Array.replicate_succ, Array.replicate_zero, List.push_toArray, List.append_toArray, List.nil_append, List.cons_append]
  gi_wp2
  gi_loopw [7] (fun i wr => i = .int .i64 0 ∧ J 0 wr) (fun _ _ => 0)
  case atStart => exact ⟨rfl, h0⟩
  case round =>
    obtain ⟨rfl, hJs⟩ := hrel
    gi_wp2
    go_end0
    exact ⟨⟨_, rfl⟩, hJs⟩
set_option maxRecDepth 100000 in
set_option maxHeartbeats 4000000 in
theorem turned1_in (l Bs b off len cap : Nat) (zs : Nat → Int) (hreach : len * 8 ≤ 140737488351232) (hz : ∀ j, j < len → I64 (zs j)) (J : Nat → World → Prop)
    (hcl : ∀ k W, J k W → ∀ j, j < len → W.cell? ⟨b, off + j, none⟩ = some (.int .i64 (zs j)))
    (hY : ∀ k W1, k < len → J k W1 → YieldAt Fence.wide 7 Try.prog l #[.int .i64 (turn (zs k))] W1 fun e W' => e = .returned (.bool true) ∧ J (k + 1) W')
    (W : World) (hBs : W.cell? ⟨Bs, 0, none⟩ = some (.slice (some ⟨b, off, none⟩) len cap)) (h0 : J 0 W) :
    CallsIn Fence.wide 8 Try.prog 82 #[.func (.yield l) #[] #[], .pointer (some ⟨Bs, 0, none⟩)] W fun e W' => (∃ v, e = .returned v) ∧ J len W' := by
  refine callsIn_of_wp Try.func82 rfl trivial ?_ rfl
  simp only [Try.ntmps82, List.size_toArray, List.length_cons, List.length_nil, Nat.reduceAdd, Nat.reduceSub, Array.replicate_succ, Array.replicate_zero, List.push_toArray, List.append_toArray, List.nil_append, List.cons_append]
  gi_wp2
  gi_loopw [7] (fun i wr => ∃ k : Nat, k ≤ len ∧ i = .int .i64 k ∧ J k wr)
    (fun i _ => len - (intOf i).toNat)
  case atStart => exact ⟨0, Nat.zero_le _, rfl, h0⟩
  case round =>
    obtain ⟨k, hk, rfl, hJs⟩ := hrel
    by_cases hlt : k < len
    · obtain ⟨fn, tmps, assign, body, hy, hR⟩ := hY _ wr hlt hJs
      have hcx' := hcl k wr hJs k hlt
      have hbit : turn (zs k) = bits BinOp.xor IntKind.i64 (zs k) 1 := (xor1 _ (hz k hlt).1 (hz k hlt).2).symm
      rw [hbit] at hy
      clear hbit
      gi_wp2
      refine hR.mono ?_
      rintro e W3 ⟨rfl, hJ3⟩
      gi_wp2
      go_roundw
      case rel => exact ⟨k + 1, by omega, by simp, hJ3⟩
      case measure => simp [intOf]; omega
    · obtain rfl : k = len := by omega
      gi_wp2
      go_end0
      exact ⟨⟨_, rfl⟩, hJs⟩
set_option maxRecDepth 100000 in
set_option maxHeartbeats 1000000 in
theorem turned0_in (l Bs : Nat) (a : Option Addr) (cap : Nat) (J : Nat → World → Prop) (W : World) (hBs : W.cell? ⟨Bs, 0, none⟩ = some (.slice a 0 cap)) (h0 : J 0 W) :
    CallsIn Fence.wide 8 Try.prog 82 #[.func (.yield l) #[] #[], .pointer (some ⟨Bs, 0, none⟩)] W fun e W' => (∃ v, e = .returned v) ∧ J 0 W' := by
  refine callsIn_of_wp Try.func82 rfl trivial ?_ rfl
  simp only [Try.ntmps82, List.size_toArray, List.length_cons, List.length_nil, Nat.reduceAdd, Nat.reduceSub, Array.replicate_succ, Array.replicate_zero, List.push_toArray, List.append_toArray, List.nil_append, List.cons_append]
  gi_wp2
  gi_loopw [7] (fun i wr => i = .int .i64 0 ∧ J 0 wr) (fun _ _ => 0)
  case atStart => exact ⟨rfl, h0⟩
  case round =>
    obtain ⟨rfl, hJs⟩ := hrel
    gi_wp2
    go_end0
    exact ⟨⟨_, rfl⟩, hJs⟩
end walks
theorem flat_ints : ∀ xs : List Int, flat (xs.map fun x => AV.int .i64 x) = xs.map fun x => AV.int .i64 x
  | [] => rfl
  | x :: xs => by simp only [List.map_cons, flat_cons, flat_ints xs]; rfl
theorem word_at {bo : Nat} {xs : List Int} {t : Tok} {σ : Sig} (h : σ bo = some (.cells [.slice (xs.map fun x => .int .i64 x) t])) {K : Gh} {w : World} {vals : Array Value} (hr : RelL K [.ptr bo 0] vals.toList) (hs : Sat K σ w) :
    ∃ Bs, vals = #[.pointer (some ⟨Bs, 0, none⟩)] ∧ Bs < w.heap.size ∧ ∃ sv, w.cell? ⟨Bs, 0, none⟩ = some sv ∧ ((xs = [] ∧ ∃ a cap, sv = .slice a 0 cap) ∨ (∃ b off cap, sv = .slice (some ⟨b, off, none⟩) xs.length cap ∧ ∀ j, j < xs.length → K.claim b (off + j) = some (.int .i64 (xs.getD j 0)))) := by
  obtain ⟨v, r, hv, h1, h2⟩ := hr.cons_inv
  have hr0 : r = [] := by have := h2.1; simpa using this.symm
  subst hr0
  obtain rfl := array_one hv
  obtain ⟨e, rfl, h3, h4⟩ := rel_ptr h1
  obtain ⟨e', k1, k2⟩ := hs.live bo _ h
  rw [h3] at k1; cases k1
  cases e <;> simp only [ObjSat] at k2
  rename_i Bs
  obtain ⟨k3, ⟨c, el, k4, k5⟩, k6⟩ := k2
  obtain ⟨sv, r, hc, k7, k8⟩ := k5.cons_inv
  have hr0 : r = [] := by have := k8.1; simpa using this.symm
  subst hr0
  obtain rfl := array_one hc
  refine ⟨Bs, rfl, (Array.getElem?_eq_some_iff.1 k4).1, sv, by simp [World.cell?, k4], ?_⟩
  rcases rel_slice k7 with ⟨a, cap, rfl, e1, _⟩ | ⟨b, off, cap, sz, u, rfl, u1, u2, u3, _, _⟩
  · exact .inl ⟨by simpa using e1, a, cap, rfl⟩
  · refine .inr ⟨b, off, cap, by simp, fun j hj => ?_⟩
    have hfl := flat_ints xs
    have hj' : j < (flat (xs.map fun x => AV.int .i64 x)).length := by rw [hfl]; simpa using hj
    rw [u2 j hj']
    have := u3 j hj'
    simp only [hfl, List.getElem_map] at this
    rw [rel_int this]
    simp [List.getD_eq_getElem?_getD, hj]
theorem iter_values (bo : Nat) (xs : List Int) (t : Tok) (σ : Sig) (hx : xs.length ≤ 1000000) (h : σ bo = some (.cells [.slice (xs.map fun x => .int .i64 x) t])) :
    AIter Try.prog 84 [.ptr bo 0] σ xs := by
  refine ⟨by kernel_rfl, fun K w vals hr hs l J W hW hcl hY h0 => ?_⟩
  obtain ⟨Bs, rfl, hB, sv, hsv, hh⟩ := word_at h hr hs
  have hsv' : W.cell? ⟨Bs, 0, none⟩ = some sv := by rw [cell_of_heap (hW Bs hB)]; exact hsv
  rcases hh with ⟨rfl, a, cap, rfl⟩ | ⟨b, off, cap, rfl, hc⟩
  · exact values0_in l Bs a cap J W hsv' h0
  · exact values1_in l Bs b off xs.length cap (fun j => xs.getD j 0) (by omega) J (fun k W hk j hj => hcl k W hk _ _ _ (hc j hj)) (fun k W1 hk hJ => hY k _ W1 (by simp [List.getD_eq_getElem?_getD, hk]) hJ) W hsv' h0
theorem iter_turned (bo : Nat) (xs : List Int) (t : Tok) (σ : Sig) (hx : xs.length ≤ 1000000) (hi : ∀ x ∈ xs, I64 x) (h : σ bo = some (.cells [.slice (xs.map fun x => .int .i64 x) t])) :
    AIter Try.prog 82 [.ptr bo 0] σ (notW xs) := by
  refine ⟨by kernel_rfl, fun K w vals hr hs l J W hW hcl hY h0 => ?_⟩
  obtain ⟨Bs, rfl, hB, sv, hsv, hh⟩ := word_at h hr hs
  have hsv' : W.cell? ⟨Bs, 0, none⟩ = some sv := by rw [cell_of_heap (hW Bs hB)]; exact hsv
  have hlen : (notW xs).length = xs.length := by simp [notW]
  rw [hlen]
  rcases hh with ⟨rfl, a, cap, rfl⟩ | ⟨b, off, cap, rfl, hc⟩
  · exact turned0_in l Bs a cap J W hsv' h0
  · refine turned1_in l Bs b off xs.length cap (fun j => xs.getD j 0) (by omega) (fun j hj => hi _ ?_) J (fun k W hk j hj => hcl k W hk _ _ _ (hc j hj)) (fun k W1 hk hJ => hY k _ W1 ?_ hJ) W hsv' h0
    · simp [List.getD_eq_getElem?_getD, hj]
    · simp [notW, List.getD_eq_getElem?_getD, hk]
end Go.Proofs.Ytbbihmmobfmadaa

namespace Go.Proofs.Ytbbihmmobfmadaa
open Abs Fil Fil.Bl A
theorem bu_of (o : Bl.Op) (b : Bu) (x y z : Int) {g' : Aig} {l e' : Int} (h : o.ap b.g x y z = (g', l, e')) :
    b.op o x y z = (if b.e ≠ 0 then 0 else if e' ≠ 0 then 0 else l, if b.e ≠ 0 then b else if e' ≠ 0 then ⟨b.g, e'⟩ else ⟨g', 0⟩) := by
  unfold Bu.op
  rw [h]
  split
  · rfl
  · split <;> rfl
theorem bu_and1 (o p q s : Nat) (b : Bu) (x y : Int) (σ : Sig) (h : σ o = some (buC b)) (hs : Wf b.g) (hx : I64 x) (hy : I64 y) (hp : σ p = some (.cells [.ptr o 0])) (hq : σ q = some (.cells [.int .i64 x])) (hr : σ s = some (.cells [.int .i64 y])) :
    ACalls Try.prog 74 [.ptr p 0, .ptr q 0, .ptr s 0] σ (fun r σ' => r = .ret (.tup [encAig (b.g.And x y).1, .int .i64 (b.g.And x y).2.1, .int .i64 (b.g.And x y).2.2]) ∧ σ' = σ) := by
  have c1 := fun τ => aig_And b.g x y τ hs hx hy
  obtain ⟨r1, e1⟩ : ∃ r, (b.g.And x y) = r := ⟨_, rfl⟩
  rw [e1] at c1 ⊢
  clear e1 hs hx hy
  refine calls_x mixed Try.func74 b74 n74 rfl q74 (by simp) ?_; unfold c74 r74
  repeat' (first | simp (maxDischargeDepth := 9) -implicitDefEqProofs -dsimp only [go_sem, seval, *] | ((with_reducible refine Zt (fun oF hoF hnF hnF' => ?_)); (try simp only [upd_none, ne_eq, not_and] at hoF)) | ((with_reducible apply id_one0); (focus (intro tS hS; ((first | with_reducible refine c1 _) <;> (first | (simp (maxDischargeDepth := 9) -implicitDefEqProofs -dsimp only [go_sem, seval, *]; done) | omega | ((with_reducible refine Sub.get hS ?_); simp (maxDischargeDepth := 9) -implicitDefEqProofs -dsimp only [go_sem, seval, *]; done))))); (focus (first | trivial | (simp (maxDischargeDepth := 9) -implicitDefEqProofs -dsimp only [go_sem, seval, *]; done)))))
  refine fin_eq ?_
  (repeat' (first | simp (maxDischargeDepth := 9) -implicitDefEqProofs -dsimp only [go_sem, seval, *])) <;> (repeat' refine And.intro ?_ ?_) <;> (first | omega | rfl | assumption | skip)
theorem bu_and (o : Nat) (b : Bu) (x y : Int) (σ : Sig) (h : σ o = some (buC b)) (hs : Wf b.g) (hx : I64 x) (hy : I64 y) :
    ACalls Try.prog 52 [.ptr o 0, .int .i64 x, .int .i64 y] σ (fun r σ' => r = .ret (.int .i64 (b.op Bl.Op.and x y 0).1) ∧ σ' = upd σ o (buC (b.op Bl.Op.and x y 0).2)) := by
  have c1 := fun p q s τ h1 h2 h3 h4 => bu_and1 o p q s b x y τ h1 hs hx hy h2 h3 h4
  obtain ⟨⟨g', l, e'⟩, hr⟩ : ∃ r, b.g.And x y = r := ⟨_, rfl⟩
  rw [bu_of Bl.Op.and b x y 0 hr]
  rw [hr] at c1
  clear hr hs hx hy
  refine calls_x mixed Try.func52 b52 n52 rfl q52 (by simp) ?_; unfold c52 r52
  repeat' (first | simp (maxDischargeDepth := 9) -implicitDefEqProofs -dsimp only [go_sem, seval, *] | ((with_reducible refine Zt (fun oF hoF hnF hnF' => ?_)); (try simp only [upd_none, ne_eq, not_and] at hoF)) | ((with_reducible apply ACalls.one1); (focus ((first | with_reducible refine bu_do o b g' l e' 74 _ _ ?_ (fun _ => c1 _ _ _ _ ?_ ?_ ?_ ?_)) <;> (first | (simp (maxDischargeDepth := 9) -implicitDefEqProofs -dsimp only [go_sem, seval, *]; done) | omega))); (focus (first | trivial | with_reducible exact rfl | (simp (maxDischargeDepth := 9) -implicitDefEqProofs -dsimp only [go_sem, seval]; done)))))
  refine fin_eq ?_
  (repeat' (first | simp (maxDischargeDepth := 9) -implicitDefEqProofs -dsimp only [go_sem, seval, *])) <;> (repeat' refine And.intro ?_ ?_) <;> (first | omega | rfl | assumption | skip)
theorem bu_or1 (o p q s : Nat) (b : Bu) (x y : Int) (σ : Sig) (h : σ o = some (buC b)) (hs : Wf b.g) (hx : I64 x) (hy : I64 y) (hp : σ p = some (.cells [.ptr o 0])) (hq : σ q = some (.cells [.int .i64 x])) (hr : σ s = some (.cells [.int .i64 y])) :
    ACalls Try.prog 76 [.ptr p 0, .ptr q 0, .ptr s 0] σ (fun r σ' => r = .ret (.tup [encAig (b.g.Or x y).1, .int .i64 (b.g.Or x y).2.1, .int .i64 (b.g.Or x y).2.2]) ∧ σ' = σ) := by
  have c1 := fun τ => aig_Or b.g x y τ hs hx hy
  obtain ⟨r1, e1⟩ : ∃ r, (b.g.Or x y) = r := ⟨_, rfl⟩
  rw [e1] at c1 ⊢
  clear e1 hs hx hy
  refine calls_x mixed Try.func76 b76 n76 rfl q76 (by simp) ?_; unfold c76 r76
  repeat' (first | simp (maxDischargeDepth := 9) -implicitDefEqProofs -dsimp only [go_sem, seval, *] | ((with_reducible refine Zt (fun oF hoF hnF hnF' => ?_)); (try simp only [upd_none, ne_eq, not_and] at hoF)) | ((with_reducible apply id_one0); (focus (intro tS hS; ((first | with_reducible refine c1 _) <;> (first | (simp (maxDischargeDepth := 9) -implicitDefEqProofs -dsimp only [go_sem, seval, *]; done) | omega | ((with_reducible refine Sub.get hS ?_); simp (maxDischargeDepth := 9) -implicitDefEqProofs -dsimp only [go_sem, seval, *]; done))))); (focus (first | trivial | (simp (maxDischargeDepth := 9) -implicitDefEqProofs -dsimp only [go_sem, seval, *]; done)))))
  refine fin_eq ?_
  (repeat' (first | simp (maxDischargeDepth := 9) -implicitDefEqProofs -dsimp only [go_sem, seval, *])) <;> (repeat' refine And.intro ?_ ?_) <;> (first | omega | rfl | assumption | skip)
theorem bu_or (o : Nat) (b : Bu) (x y : Int) (σ : Sig) (h : σ o = some (buC b)) (hs : Wf b.g) (hx : I64 x) (hy : I64 y) :
    ACalls Try.prog 53 [.ptr o 0, .int .i64 x, .int .i64 y] σ (fun r σ' => r = .ret (.int .i64 (b.op Bl.Op.or x y 0).1) ∧ σ' = upd σ o (buC (b.op Bl.Op.or x y 0).2)) := by
  have c1 := fun p q s τ h1 h2 h3 h4 => bu_or1 o p q s b x y τ h1 hs hx hy h2 h3 h4
  obtain ⟨⟨g', l, e'⟩, hr⟩ : ∃ r, b.g.Or x y = r := ⟨_, rfl⟩
  rw [bu_of Bl.Op.or b x y 0 hr]
  rw [hr] at c1
  clear hr hs hx hy
  refine calls_x mixed Try.func53 b53 n53 rfl q53 (by simp) ?_; unfold c53 r53
  repeat' (first | simp (maxDischargeDepth := 9) -implicitDefEqProofs -dsimp only [go_sem, seval, *] | ((with_reducible refine Zt (fun oF hoF hnF hnF' => ?_)); (try simp only [upd_none, ne_eq, not_and] at hoF)) | ((with_reducible apply ACalls.one1); (focus ((first | with_reducible refine bu_do o b g' l e' 76 _ _ ?_ (fun _ => c1 _ _ _ _ ?_ ?_ ?_ ?_)) <;> (first | (simp (maxDischargeDepth := 9) -implicitDefEqProofs -dsimp only [go_sem, seval, *]; done) | omega))); (focus (first | trivial | with_reducible exact rfl | (simp (maxDischargeDepth := 9) -implicitDefEqProofs -dsimp only [go_sem, seval]; done)))))
  refine fin_eq ?_
  (repeat' (first | simp (maxDischargeDepth := 9) -implicitDefEqProofs -dsimp only [go_sem, seval, *])) <;> (repeat' refine And.intro ?_ ?_) <;> (first | omega | rfl | assumption | skip)
theorem bu_xor1 (o p q s : Nat) (b : Bu) (x y : Int) (σ : Sig) (h : σ o = some (buC b)) (hs : Wf b.g) (hx : I64 x) (hy : I64 y) (hp : σ p = some (.cells [.ptr o 0])) (hq : σ q = some (.cells [.int .i64 x])) (hr : σ s = some (.cells [.int .i64 y])) :
    ACalls Try.prog 78 [.ptr p 0, .ptr q 0, .ptr s 0] σ (fun r σ' => r = .ret (.tup [encAig (b.g.Xor x y).1, .int .i64 (b.g.Xor x y).2.1, .int .i64 (b.g.Xor x y).2.2]) ∧ σ' = σ) := by
  have c1 := fun τ => aig_Xor b.g x y τ hs hx hy
  obtain ⟨r1, e1⟩ : ∃ r, (b.g.Xor x y) = r := ⟨_, rfl⟩
  rw [e1] at c1 ⊢
  clear e1 hs hx hy
  refine calls_x mixed Try.func78 b78 n78 rfl q78 (by simp) ?_; unfold c78 r78
  repeat' (first | simp (maxDischargeDepth := 9) -implicitDefEqProofs -dsimp only [go_sem, seval, *] | ((with_reducible refine Zt (fun oF hoF hnF hnF' => ?_)); (try simp only [upd_none, ne_eq, not_and] at hoF)) | ((with_reducible apply id_one0); (focus (intro tS hS; ((first | with_reducible refine c1 _) <;> (first | (simp (maxDischargeDepth := 9) -implicitDefEqProofs -dsimp only [go_sem, seval, *]; done) | omega | ((with_reducible refine Sub.get hS ?_); simp (maxDischargeDepth := 9) -implicitDefEqProofs -dsimp only [go_sem, seval, *]; done))))); (focus (first | trivial | (simp (maxDischargeDepth := 9) -implicitDefEqProofs -dsimp only [go_sem, seval, *]; done)))))
  refine fin_eq ?_
  (repeat' (first | simp (maxDischargeDepth := 9) -implicitDefEqProofs -dsimp only [go_sem, seval, *])) <;> (repeat' refine And.intro ?_ ?_) <;> (first | omega | rfl | assumption | skip)
theorem bu_xor (o : Nat) (b : Bu) (x y : Int) (σ : Sig) (h : σ o = some (buC b)) (hs : Wf b.g) (hx : I64 x) (hy : I64 y) :
    ACalls Try.prog 54 [.ptr o 0, .int .i64 x, .int .i64 y] σ (fun r σ' => r = .ret (.int .i64 (b.op Bl.Op.xor x y 0).1) ∧ σ' = upd σ o (buC (b.op Bl.Op.xor x y 0).2)) := by
  have c1 := fun p q s τ h1 h2 h3 h4 => bu_xor1 o p q s b x y τ h1 hs hx hy h2 h3 h4
  obtain ⟨⟨g', l, e'⟩, hr⟩ : ∃ r, b.g.Xor x y = r := ⟨_, rfl⟩
  rw [bu_of Bl.Op.xor b x y 0 hr]
  rw [hr] at c1
  clear hr hs hx hy
  refine calls_x mixed Try.func54 b54 n54 rfl q54 (by simp) ?_; unfold c54 r54
  repeat' (first | simp (maxDischargeDepth := 9) -implicitDefEqProofs -dsimp only [go_sem, seval, *] | ((with_reducible refine Zt (fun oF hoF hnF hnF' => ?_)); (try simp only [upd_none, ne_eq, not_and] at hoF)) | ((with_reducible apply ACalls.one1); (focus ((first | with_reducible refine bu_do o b g' l e' 78 _ _ ?_ (fun _ => c1 _ _ _ _ ?_ ?_ ?_ ?_)) <;> (first | (simp (maxDischargeDepth := 9) -implicitDefEqProofs -dsimp only [go_sem, seval, *]; done) | omega))); (focus (first | trivial | with_reducible exact rfl | (simp (maxDischargeDepth := 9) -implicitDefEqProofs -dsimp only [go_sem, seval]; done)))))
  refine fin_eq ?_
  (repeat' (first | simp (maxDischargeDepth := 9) -implicitDefEqProofs -dsimp only [go_sem, seval, *])) <;> (repeat' refine And.intro ?_ ?_) <;> (first | omega | rfl | assumption | skip)
theorem bu_mux1 (o p u q s : Nat) (b : Bu) (c x y : Int) (σ : Sig) (h : σ o = some (buC b)) (hs : Wf b.g) (hc : I64 c) (hx : I64 x) (hy : I64 y) (hp : σ p = some (.cells [.ptr o 0])) (hu : σ u = some (.cells [.int .i64 c])) (hq : σ q = some (.cells [.int .i64 x])) (hr : σ s = some (.cells [.int .i64 y])) :
    ACalls Try.prog 87 [.ptr p 0, .ptr u 0, .ptr q 0, .ptr s 0] σ (fun r σ' => r = .ret (.tup [encAig (b.g.Mux c x y).1, .int .i64 (b.g.Mux c x y).2.1, .int .i64 (b.g.Mux c x y).2.2]) ∧ σ' = σ) := by
  have c1 := fun τ => aig_Mux b.g c x y τ hs hc hx hy
  obtain ⟨r1, e1⟩ : ∃ r, (b.g.Mux c x y) = r := ⟨_, rfl⟩
  rw [e1] at c1 ⊢
  clear e1 hs hc hx hy
  refine calls_x mixed Try.func87 b87 n87 rfl q87 (by simp) ?_; unfold c87 r87
  repeat' (first | simp (maxDischargeDepth := 9) -implicitDefEqProofs -dsimp only [go_sem, seval, *] | ((with_reducible refine Zt (fun oF hoF hnF hnF' => ?_)); (try simp only [upd_none, ne_eq, not_and] at hoF)) | ((with_reducible apply id_one0); (focus (intro tS hS; ((first | with_reducible refine c1 _) <;> (first | (simp (maxDischargeDepth := 9) -implicitDefEqProofs -dsimp only [go_sem, seval, *]; done) | omega | ((with_reducible refine Sub.get hS ?_); simp (maxDischargeDepth := 9) -implicitDefEqProofs -dsimp only [go_sem, seval, *]; done))))); (focus (first | trivial | (simp (maxDischargeDepth := 9) -implicitDefEqProofs -dsimp only [go_sem, seval, *]; done)))))
  refine fin_eq ?_
  (repeat' (first | simp (maxDischargeDepth := 9) -implicitDefEqProofs -dsimp only [go_sem, seval, *])) <;> (repeat' refine And.intro ?_ ?_) <;> (first | omega | rfl | assumption | skip)
theorem bu_mux (o : Nat) (b : Bu) (c x y : Int) (σ : Sig) (h : σ o = some (buC b)) (hs : Wf b.g) (hc : I64 c) (hx : I64 x) (hy : I64 y) :
    ACalls Try.prog 70 [.ptr o 0, .int .i64 c, .int .i64 x, .int .i64 y] σ (fun r σ' => r = .ret (.int .i64 (b.op Bl.Op.mux c x y).1) ∧ σ' = upd σ o (buC (b.op Bl.Op.mux c x y).2)) := by
  have c1 := fun p u q s τ h1 h2 h3 h4 h5 => bu_mux1 o p u q s b c x y τ h1 hs hc hx hy h2 h3 h4 h5
  obtain ⟨⟨g', l, e'⟩, hr⟩ : ∃ r, b.g.Mux c x y = r := ⟨_, rfl⟩
  rw [bu_of Bl.Op.mux b c x y hr]
  rw [hr] at c1
  clear hr hs hc hx hy
  refine calls_x mixed Try.func70 b70 n70 rfl q70 (by simp) ?_; unfold c70 r70
  repeat' (first | simp (maxDischargeDepth := 9) -implicitDefEqProofs -dsimp only [go_sem, seval, *] | ((with_reducible refine Zt (fun oF hoF hnF hnF' => ?_)); (try simp only [upd_none, ne_eq, not_and] at hoF)) | ((with_reducible apply ACalls.one1); (focus ((first | with_reducible refine bu_do o b g' l e' 87 _ _ ?_ (fun _ => c1 _ _ _ _ _ ?_ ?_ ?_ ?_ ?_)) <;> (first | (simp (maxDischargeDepth := 9) -implicitDefEqProofs -dsimp only [go_sem, seval, *]; done) | omega))); (focus (first | trivial | with_reducible exact rfl | (simp (maxDischargeDepth := 9) -implicitDefEqProofs -dsimp only [go_sem, seval]; done)))))
  refine fin_eq ?_
  (repeat' (first | simp (maxDischargeDepth := 9) -implicitDefEqProofs -dsimp only [go_sem, seval, *])) <;> (repeat' refine And.intro ?_ ?_) <;> (first | omega | rfl | assumption | skip)
end Go.Proofs.Ytbbihmmobfmadaa

namespace Go.Proofs.Ytbbihmmobfmadaa
open Abs Fil Fil.Bl A

@[go_sem] theorem thenI_n {k : Env → Sig → Prop} {env : Env} {σ : Sig} : thenI k .normal env σ = k env σ := rfl
theorem exRng_i {P : Program} {rs : List ARV} {R : ARes → Sig → Prop} {t p q : Nat} {id ie : List AInst} {env : Env} {σ : Sig} (g : Nat) (caps : List AV) (xs : List Int) (S : Nat → Sig)
    (h1 : lk env t = some (.fn g [] caps)) (h2 : AIter P g caps σ xs) (h3 : Sub (S 0) σ) (h4 : ∀ k o, σ o = none → S k o = none)
    (h5 : ∀ k x τ, xs[k]? = some x → Sub (S k) τ → XI P (thenI fun _ τ' => Sub (S (k + 1)) τ' ∧ Pins τ τ') id ((q, some (.int .i64 x)) :: (p, some (.int .i64 x)) :: env) τ)
    (h6 : ∀ τ, Sub (S xs.length) τ → XI P (thenI fun env τ' => (Sub (S xs.length) τ' ∧ Pins τ τ') ∧ exRes env (S xs.length) (fun l => fin R (one l) (S xs.length)) rs) ie env τ) : exRng P rs R t p q id ie env σ := by
  unfold exRng
  rw [h1]
  exact ⟨rfl, xs, S, h2, h3, h4, h5, h6⟩
theorem calls_rng {f : FuncId} {fn : Func} {N : Nat} {rs : List ARV} {ia ib id ie : List AInst} {t p q : Nat} {args : List AV} {σ : Sig} {R : ARes → Sig → Prop}
    (hfn : Try.prog.funcs[f]? = some fn) (hb : fn.body.bind (rngOf Try.prog N) = some (ia.map AInst.bare, ib.map AInst.bare, t, p, q, id.map AInst.bare, ie.map AInst.bare)) (hname : (fn.name == "runtime.NumGoroutine") = false) (hN : fn.ntmps = N)
    (hr : trRes Try.prog fn.results.toList = some rs) (hargs : args.length ≤ N)
    (h : XI Try.prog (thenI fun env σ => XI Try.prog (thenI fun env σ => exRng Try.prog rs R t p q id ie env σ) ib env σ) ia (argEnv 0 args) σ) :
    ACalls Try.prog f args σ R := calls_of_range hfn hb hname hN hr hargs h
def fA : List AInst := [⟨some 3, .box (.t 0), none⟩, ⟨some 5, .box (.t 2), none⟩, ⟨some 6, .mov (.c (.int .i64 0)), none⟩]
def fB : List AInst := [⟨some 8, .mov (.t 1), none⟩]
def fD : List AInst := [⟨some 10, .load false 1 (.t 5), none⟩, ⟨some 11, .load false 1 (.t 3), none⟩, ⟨some 12, .mov (.t 7), none⟩, ⟨some 13, .call (.t 10) [.t 11, .t 12], none⟩, ⟨none, .store 1 (.t 3) (.t 13), none⟩]
def fE : List AInst := [⟨some 14, .load false 1 (.t 3), none⟩, ⟨some 6, .mov (.t 14), none⟩]
def FoldAt (op : Bl.Op) (a : Int) (xs : List Int) (b : Bu) (k : Nat) : Int × Bu := (foldP (fun x y => .op op x y 0 .ret) a xs k).run b
theorem fold_next (op : Bl.Op) (a : Int) (xs : List Int) (b : Bu) (k : Nat) : FoldAt op a xs b (k + 1) = (FoldAt op a xs b k).2.op op (FoldAt op a xs b k).1 (gt xs k) 0 := iter_run _ _ _ _
theorem fold_wf (op : Bl.Op) {a : Int} (xs : List Int) {b : Bu} (hb : Wf b.g) (ha : I64 a) : ∀ k, Wf (FoldAt op a xs b k).2.g ∧ I64 (FoldAt op a xs b k).1
  | 0 => ⟨hb, ha⟩
  | k + 1 => by rw [fold_next]; exact bu_wf (fold_wf op xs hb ha k).1 _ _ _ _
set_option maxHeartbeats 2000000 in
theorem bu_fold (op : Bl.Op) (fF : Nat) (bo : Nat) (b : Bu) (a : Int) (xs : List Int) (g : Nat) (caps : List AV) (σ : Sig) (h : σ bo = some (buC b)) (hs : Wf b.g) (ha : I64 a) (hx : ∀ x ∈ xs, I64 x)
    (hit : ∀ τ, Sub σ τ → AIter Try.prog g caps τ xs)
    (hop : ∀ b x y τ, τ bo = some (buC b) → Wf b.g → I64 x → I64 y → ACalls Try.prog fF [.ptr bo 0, .int .i64 x, .int .i64 y] τ (fun r σ' => r = .ret (.int .i64 (b.op op x y 0).1) ∧ σ' = upd τ bo (buC (b.op op x y 0).2))) :
    ACalls Try.prog 59 [.int .i64 a, .fn g [] caps, .fn fF [.ptr bo 0] []] σ (fun r σ' => r = .ret (.int .i64 (FoldAt op a xs b xs.length).1) ∧ σ' = upd σ bo (buC (FoldAt op a xs b xs.length).2)) := by
  refine calls_rng (rs := [.tmp 6]) (N := 15) (ia := fA) (ib := fB) (id := fD) (ie := fE) (t := 8) (p := 9) (q := 7) Try.func59 (by kernel_rfl) (by kernel_rfl) (by kernel_rfl) (by kernel_rfl) (by simp) ?_
  unfold fA fB fD fE
  repeat' (first | simp (maxDischargeDepth := 9) -implicitDefEqProofs -dsimp only [go_sem, seval, *] | ((with_reducible refine Zt (fun oF hoF hnF hnF' => ?_)); (try simp only [upd_none, ne_eq, not_and] at hoF)))
  rename_i o1 ho1 hn1 hn1'
  obtain ⟨o2, ho2'⟩ : ∃ x, x = oF := ⟨_, rfl⟩
  subst ho2'
  obtain ⟨hne, ho2⟩ := hoF
  have b1 : ¬ bo = o1 := fun e => by rw [e, ho1] at h; simp at h
  have b2 : ¬ bo = o2 := fun e => by rw [e, ho2] at h; simp at h
  have hwf := fold_wf op xs hs ha
  have hnx := fold_next op a xs b
  have h0 : FoldAt op a xs b 0 = (a, b) := rfl
  obtain ⟨G, hG⟩ : ∃ G, FoldAt op a xs b = G := ⟨_, rfl⟩
  rw [hG] at hwf hnx h0 ⊢
  clear hG hn1 hn1' hnF hnF'
  refine exRng_i g caps xs (fun k => upd (upd (upd σ o1 (.cells [.int .i64 (G k).1])) o2 (.cells [.fn fF [.ptr bo 0] []])) bo (buC (G k).2)) (by simp (maxDischargeDepth := 9) -implicitDefEqProofs -dsimp only [go_sem, seval, *]; done) (hit _ ?_) ?_ ?_ ?_ ?_
  · exact (Sub.upd_fresh ho1).trans (Sub.upd_fresh (by simp [upd, hne, ho2]))
  · intro o x e
    by_cases hb : o = bo
    · subst hb
      simp only [upd, if_true, h0] at e
      simp only [upd, if_neg b1, if_neg b2]
      rw [h]; exact e
    · simp only [upd, if_neg hb, h0] at e ⊢
      exact e
  · intro k o e
    have e1 : ¬ o = o2 := fun h' => by subst h'; simp [upd] at e
    have e2 : ¬ o = o1 := fun h' => by subst h'; simp [upd, e1] at e
    have e3 : σ o = none := by simpa [upd, e1, e2] using e
    have e4 : ¬ o = bo := fun h' => by rw [h', h] at e3; simp at e3
    simp [upd, e1, e2, e3, e4]
  · intro k x τ hk hτ
    have q1 := hτ o1 (.cells [.int .i64 (G k).1]) (by simp [upd, hne, Ne.symm b1, Ne.symm hne])
    have q2 := hτ o2 (.cells [.fn fF [.ptr bo 0] []]) (by simp [upd, Ne.symm b2])
    have q3 := hτ bo (buC (G k).2) (by simp [upd])
    have hgx : gt xs k = x := by simp [gt, List.getD_eq_getElem?_getD, hk]
    have hxk := hx x (List.mem_of_getElem? hk)
    have c1 := hop (G k).2 (G k).1 x τ q3 (hwf k).1 (hwf k).2 hxk
    have hnk := hnx k
    rw [hgx] at hnk
    rw [← hnk] at c1
    have hS : ∀ τ', τ' = upd (upd τ bo (buC (G (k + 1)).2)) o1 (.cells [.int .i64 (G (k + 1)).1]) → Sub (upd (upd (upd σ o1 (.cells [.int .i64 (G (k + 1)).1])) o2 (.cells [.fn fF [.ptr bo 0] []])) bo (buC (G (k + 1)).2)) τ' ∧ Pins τ τ' := by
      rintro τ' rfl
      constructor
      · intro o y e
        by_cases e1 : o = bo
        · subst e1; simpa [upd, b1] using e
        by_cases e2 : o = o1
        · subst e2; simpa [upd, e1, Ne.symm hne] using e
        simp only [upd, if_neg e1, if_neg e2]
        refine hτ o y ?_
        simpa [upd, e1, e2] using e
      · intro o y e
        have e1 : ¬ o = bo := fun h' => by rw [h', q3] at e; simp [buC, workC] at e
        have e2 : ¬ o = o1 := fun h' => by rw [h', q1] at e; simp at e
        simpa [upd, e1, e2] using e
    have b1' : ¬ o1 = bo := Ne.symm b1
    clear hτ hx hwf hnx hnk hgx hk h0 hit hop
    repeat' (first | simp (maxDischargeDepth := 9) -implicitDefEqProofs -dsimp only [go_sem, seval, *] | ((with_reducible refine Zt (fun oF hoF hnF hnF' => ?_)); (try simp only [upd_none, ne_eq, not_and] at hoF)) | ((with_reducible apply ACalls.one1); (focus ((first | with_reducible refine c1) <;> (first | (simp (maxDischargeDepth := 9) -implicitDefEqProofs -dsimp only [go_sem, seval, *]; done) | omega))); (focus (first | trivial | with_reducible exact rfl | (simp (maxDischargeDepth := 9) -implicitDefEqProofs -dsimp only [go_sem, seval]; done)))))
  · intro τ hτ
    have q1 := hτ o1 (.cells [.int .i64 (G xs.length).1]) (by simp [upd, hne, Ne.symm b1, Ne.symm hne])
    repeat' (first | simp (maxDischargeDepth := 9) -implicitDefEqProofs -dsimp only [go_sem, seval, *] | ((with_reducible refine Zt (fun oF hoF hnF hnF' => ?_)); (try simp only [upd_none, ne_eq, not_and] at hoF)))
    refine ⟨fun _ _ e => e, ?_⟩
    repeat' (first | simp (maxDischargeDepth := 9) -implicitDefEqProofs -dsimp only [go_sem, seval, *] | ((with_reducible refine Zt (fun oF hoF hnF hnF' => ?_)); (try simp only [upd_none, ne_eq, not_and] at hoF)))
    refine fin_eq ?_
    (repeat' (first | simp (maxDischargeDepth := 9) -implicitDefEqProofs -dsimp only [go_sem, seval, *])) <;> (repeat' refine And.intro ?_ ?_) <;> (first | omega | rfl | assumption | skip)

/-! ### A word collected -/
def sA : List AInst := [⟨some 2, .box (.t 0), none⟩, ⟨some 4, .mov (.c (.slice [] .nil)), none⟩]
def sB : List AInst := [⟨some 6, .mov (.t 1), none⟩]
def sD : List AInst := [⟨some 8, .load false 1 (.t 2), none⟩, ⟨some 9, .mov (.t 5), none⟩, ⟨some 10, .bslice 1 [.t 9], none⟩, ⟨some 11, .append 1 8 (.t 8) (.t 10), none⟩, ⟨none, .store 1 (.t 2) (.t 11), none⟩]
def sE : List AInst := [⟨some 12, .load false 1 (.t 2), none⟩, ⟨some 4, .mov (.t 12), none⟩]
theorem sl_appseq0 (vo : Nat) (xs : List Int) (g : Nat) (caps : List AV) (σ : Sig) (h : σ vo = some (.grow 1 0)) (hx : xs.length ≤ 1000000)
    (hit : ∀ τ, Sub σ τ → AIter Try.prog g caps τ xs) :
    ACalls Try.prog 94 [.slice [] (.own vo), .fn g [] caps] σ (fun r σ' => r = .ret (.slice (xs.map fun x => .int .i64 x) (.own vo)) ∧ σ' = upd σ vo (.grow 1 xs.length)) := by
  refine calls_rng (rs := [.tmp 4]) (N := 13) (ia := sA) (ib := sB) (id := sD) (ie := sE) (t := 6) (p := 7) (q := 5) Try.func94 (by kernel_rfl) (by kernel_rfl) (by kernel_rfl) (by kernel_rfl) (by simp) ?_
  unfold sA sB sD sE
  repeat' (first | simp (maxDischargeDepth := 9) -implicitDefEqProofs -dsimp only [go_sem, seval, *] | ((with_reducible refine Zt (fun oF hoF hnF hnF' => ?_)); (try simp only [upd_none, ne_eq, not_and] at hoF)))
  obtain ⟨o1, ho1'⟩ : ∃ x, x = oF := ⟨_, rfl⟩
  subst ho1'
  have b1 : ¬ vo = o1 := fun e => by rw [e, hoF] at h; simp at h
  refine exRng_i g caps xs (fun k => upd (upd σ o1 (.cells [.slice ((xs.take k).map fun x => .int .i64 x) (.own vo)])) vo (.grow 1 (xs.take k).length)) (by simp (maxDischargeDepth := 9) -implicitDefEqProofs -dsimp only [go_sem, seval, *]; done) (hit _ (Sub.upd_fresh hoF)) ?_ ?_ ?_ ?_
  · intro o x e
    by_cases hb : o = vo
    · subst hb
      simp only [upd, if_true, List.take_zero, List.length_nil] at e
      simp only [upd, if_neg b1]
      rw [h]; exact e
    · simpa [upd, hb] using e
  · intro k o e
    have e2 : ¬ o = o1 := fun h' => by subst h'; simp [upd] at e
    have e3 : σ o = none := by simpa [upd, e2] using e
    have e4 : ¬ o = vo := fun h' => by rw [h', h] at e3; simp at e3
    simp [upd, e2, e3, e4]
  · intro k x τ hk hτ
    have q1 := hτ o1 (.cells [.slice ((xs.take k).map fun x => .int .i64 x) (.own vo)]) (by simp [upd, Ne.symm b1])
    have q3 := hτ vo (.grow 1 (xs.take k).length) (by simp [upd])
    have htk : xs.take (k + 1) = xs.take k ++ [x] := by rw [List.take_add_one, hk]; rfl
    rw [htk]
    have hle : (xs.take k).length ≤ 1000000 := by simp; omega
    obtain ⟨ys, hys⟩ : ∃ ys, xs.take k = ys := ⟨_, rfl⟩
    rw [hys] at q1 q3 hle ⊢
    rw [hys] at hτ
    have hS : ∀ τ', τ' = upd (upd τ vo (.grow 1 (ys.length + 1))) o1 (.cells [.slice ((ys ++ [x]).map fun x => .int .i64 x) (.own vo)]) → Sub (upd (upd σ o1 (.cells [.slice ((ys ++ [x]).map fun x => .int .i64 x) (.own vo)])) vo (.grow 1 (ys ++ [x]).length)) τ' ∧ Pins τ τ' := by
      rintro τ' rfl
      constructor
      · intro o y e
        by_cases e1 : o = vo
        · subst e1; simpa [upd, b1] using e
        by_cases e2 : o = o1
        · subst e2; simpa [upd, e1] using e
        simp only [upd, if_neg e1, if_neg e2]
        refine hτ o y ?_
        simpa [upd, e1, e2] using e
      · intro o y e
        have e1 : ¬ o = vo := fun h' => by rw [h', q3] at e; simp at e
        have e2 : ¬ o = o1 := fun h' => by rw [h', q1] at e; simp at e
        simpa [upd, e1, e2] using e
    have b1' : ¬ o1 = vo := Ne.symm b1
    have q3' : τ vo = some (.grow 1 (ys.map fun x => AV.int .i64 x).length) := by rw [q3]; simp
    have hsz : szs 1 (ys.map fun x => AV.int .i64 x) := by simp [szs, cellsA]
    have hbd : (ys.length + 1) * 8 ≤ 35184372088832 := by omega
    clear hτ hx hit hk htk hys q3
    repeat' (first | simp (maxDischargeDepth := 9) -implicitDefEqProofs -dsimp only [go_sem, seval, List.length_map, List.length_append, List.length_cons, List.length_nil, List.map_append, List.map_cons, List.map_nil, Nat.zero_add, *] | ((with_reducible refine Zt (fun oF hoF hnF hnF' => ?_)); (try simp only [upd_none, ne_eq, not_and] at hoF)))
    have hz := hS _ rfl
    simp only [List.map_append, List.map_cons, List.map_nil, List.length_append, List.length_cons, List.length_nil, Nat.zero_add] at hz
    first | exact hz | exact hz.1
  · intro τ hτ
    rw [List.take_length] at hτ ⊢
    have q1 := hτ o1 (.cells [.slice (xs.map fun x => .int .i64 x) (.own vo)]) (by simp [upd, Ne.symm b1])
    repeat' (first | simp (maxDischargeDepth := 9) -implicitDefEqProofs -dsimp only [go_sem, seval, *] | ((with_reducible refine Zt (fun oF hoF hnF hnF' => ?_)); (try simp only [upd_none, ne_eq, not_and] at hoF)))
    refine ⟨fun _ _ e => e, ?_⟩
    repeat' (first | simp (maxDischargeDepth := 9) -implicitDefEqProofs -dsimp only [go_sem, seval, *] | ((with_reducible refine Zt (fun oF hoF hnF hnF' => ?_)); (try simp only [upd_none, ne_eq, not_and] at hoF)))
    refine fin_eq ?_
    (repeat' (first | simp (maxDischargeDepth := 9) -implicitDefEqProofs -dsimp only [go_sem, seval, *])) <;> (repeat' refine And.intro ?_ ?_) <;> (first | omega | rfl | assumption | skip)
theorem calls_out {P : Program} {f : FuncId} {args : List AV} {σ : Sig} {R0 R : ARes → Sig → Prop} (h : ACalls P f args σ R0) (hR : ∀ v s, R0 (.ret v) s → fin R v s) (hp : ∀ v s, ¬ R0 (.panic v) s) : ACalls P f args σ R :=
  ⟨h.1, fun S K w vals h0 h1 h2 => (h.2 S K w vals h0 h1 h2).mono fun e w' ⟨K', r, σ', a, b, c, d⟩ => by
    cases r with
    | ret v =>
      obtain ⟨v0, σ0, q3, q4⟩ := hR v σ' d
      cases e <;> first | exact c.elim | skip
      obtain ⟨K2, k1, k2, k3⟩ := Rel.view q3 h0 c b
      exact ⟨K2, .ret v0, σ0, a.trans k1, k3, k2, q4⟩
    | panic v => exact (hp v σ' d).elim⟩
theorem sl_appseq (xs : List Int) (g : Nat) (caps : List AV) (σ : Sig) (hx : xs.length ≤ 1000000)
    (hit : ∀ τ, Sub σ τ → AIter Try.prog g caps τ xs) :
    ACalls Try.prog 94 [.slice [] .nil, .fn g [] caps] σ (fun r σ' => r = .ret (.slice (xs.map fun x => .int .i64 x) .no) ∧ σ' = σ) := by
  refine ACalls.virt (by kernel_rfl) 1 (fun vo h1 _ _ => ?_)
  have h2 := sl_appseq0 vo xs g caps (upd σ vo (.grow 1 0)) (by simp [upd]) hx (fun τ hτ => hit τ ((Sub.upd_fresh h1).trans hτ))
  refine ACalls.fl (calls_out h2 (fun v s hv => ?_) (fun v s hv => by simp at hv)) ?_ ?_
  · obtain ⟨hv, rfl⟩ := hv
    simp only [ARes.ret.injEq] at hv
    subst hv
    refine fin_eq ?_
    (repeat' (first | simp (maxDischargeDepth := 9) -implicitDefEqProofs -dsimp only [go_sem, seval, *])) <;> (repeat' refine And.intro ?_ ?_) <;> (first | omega | rfl | assumption | skip)
  · (repeat' (first | simp (maxDischargeDepth := 9) -implicitDefEqProofs -dsimp only [go_sem, seval, *])) <;> (repeat' refine And.intro ?_ ?_) <;> (first | omega | rfl | assumption | skip)
  · intro o _ y e
    by_cases ho : o = vo
    · subst ho
      refine ⟨.virt 1, by simp [upd], ?_⟩
      simp only [upd, if_true, Option.some.injEq] at e
      subst e
      exact ⟨rfl, rfl⟩
    · exact ⟨y, by simpa [upd, ho] using e, .refl _ y⟩
theorem sl_collect (xs : List Int) (g : Nat) (caps : List AV) (σ : Sig) (hx : xs.length ≤ 1000000)
    (hit : ∀ τ, Sub σ τ → AIter Try.prog g caps τ xs) :
    ACalls Try.prog 81 [.fn g [] caps] σ (fun r σ' => r = .ret (.slice (xs.map fun x => .int .i64 x) .no) ∧ σ' = σ) := by
  refine calls_x mixed Try.func81 b81 n81 rfl q81 (by simp) ?_; unfold c81 r81
  repeat' (first | simp (maxDischargeDepth := 9) -implicitDefEqProofs -dsimp only [go_sem, seval, *] | ((with_reducible apply ACalls.one1); (focus ((first | with_reducible refine sl_appseq xs g caps _ hx hit) <;> (first | (simp (maxDischargeDepth := 9) -implicitDefEqProofs -dsimp only [go_sem, seval, *]; done) | omega))); (focus (first | trivial | with_reducible exact rfl | (simp (maxDischargeDepth := 9) -implicitDefEqProofs -dsimp only [go_sem, seval]; done)))))
  refine fin_eq ?_
  (repeat' (first | simp (maxDischargeDepth := 9) -implicitDefEqProofs -dsimp only [go_sem, seval, *])) <;> (repeat' refine And.intro ?_ ?_) <;> (first | omega | rfl | assumption | skip)
theorem bl_turned (xs : List Int) (t : Tok) (σ : Sig) :
    ACalls Try.prog 60 [.slice (xs.map fun x => .int .i64 x) t] σ (NewO σ (fun o => .fn 82 [] [.ptr o 0]) (.cells [.slice (xs.map fun x => .int .i64 x) t])) := by
  refine calls_x mixed Try.func60 b60 n60 rfl q60 (by simp) ?_; unfold c60 r60
  repeat' (first | simp (maxDischargeDepth := 9) -implicitDefEqProofs -dsimp only [go_sem, seval, *] | ((with_reducible refine Zt (fun oF hoF hnF hnF' => ?_)); (try simp only [upd_none, ne_eq, not_and] at hoF)))
  refine fin_new _ ‹_› ?_
  (repeat' (first | simp (maxDischargeDepth := 9) -implicitDefEqProofs -dsimp only [go_sem, seval, *])) <;> (repeat' refine And.intro ?_ ?_) <;> (first | omega | rfl | assumption | skip)
theorem sl_values (xs : List Int) (t : Tok) (σ : Sig) :
    ACalls Try.prog 65 [.slice (xs.map fun x => .int .i64 x) t] σ (NewO σ (fun o => .fn 84 [] [.ptr o 0]) (.cells [.slice (xs.map fun x => .int .i64 x) t])) := by
  refine calls_x mixed Try.func65 b65 n65 rfl q65 (by simp) ?_; unfold c65 r65
  repeat' (first | simp (maxDischargeDepth := 9) -implicitDefEqProofs -dsimp only [go_sem, seval, *] | ((with_reducible refine Zt (fun oF hoF hnF hnF' => ?_)); (try simp only [upd_none, ne_eq, not_and] at hoF)))
  refine fin_new _ ‹_› ?_
  (repeat' (first | simp (maxDischargeDepth := 9) -implicitDefEqProofs -dsimp only [go_sem, seval, *])) <;> (repeat' refine And.intro ?_ ?_) <;> (first | omega | rfl | assumption | skip)
theorem cl_turned (o : Nat) (xs : List Int) (t : Tok) (σ : Sig) (h : σ o = some (.cells [.slice (xs.map fun x => .int .i64 x) t])) (hx : xs.length ≤ 1000000) (hi : ∀ x ∈ xs, I64 x) :
    ACalls Try.prog 81 [.fn 82 [] [.ptr o 0]] σ (fun r σ' => r = .ret (.slice ((notW xs).map fun x => .int .i64 x) .no) ∧ σ' = σ) :=
  sl_collect (notW xs) _ _ σ (by simpa [notW] using hx) (fun τ hτ => iter_turned o xs t τ hx hi (hτ _ _ h))
theorem bl_not (xs : List Int) (t : Tok) (σ : Sig) (hx : xs.length ≤ 1000000) (hi : ∀ x ∈ xs, I64 x) :
    ACalls Try.prog 56 [.slice (xs.map fun x => .int .i64 x) t] σ (fun r σ' => r = .ret (.slice ((notW xs).map fun x => .int .i64 x) .no) ∧ σ' = σ) := by
  have c1 := fun o τ h => cl_turned o xs t τ h hx hi
  clear hx hi
  refine calls_x mixed Try.func56 b56 n56 rfl q56 (by simp) ?_; unfold c56 r56
  repeat' (first | simp (maxDischargeDepth := 9) -implicitDefEqProofs -dsimp only [go_sem, seval, *] | ((with_reducible apply ACalls.one1); (focus ((first | with_reducible refine c1 _ _ ?_) <;> (first | (simp (maxDischargeDepth := 9) -implicitDefEqProofs -dsimp only [go_sem, seval, *]; done) | omega))); (focus (first | trivial | with_reducible exact rfl | (simp (maxDischargeDepth := 9) -implicitDefEqProofs -dsimp only [go_sem, seval]; done)))) | ((with_reducible apply ACalls.newO); (focus ((first | with_reducible refine bl_turned xs t _) <;> (first | (simp (maxDischargeDepth := 9) -implicitDefEqProofs -dsimp only [go_sem, seval, *]; done) | omega))); (intro oF hoF hnF hnF'); (try simp only [upd_none, ne_eq, not_and] at hoF)))
  refine fin_eq ?_
  (repeat' (first | simp (maxDischargeDepth := 9) -implicitDefEqProofs -dsimp only [go_sem, seval, *])) <;> (repeat' refine And.intro ?_ ?_) <;> (first | omega | rfl | assumption | skip)
end Go.Proofs.Ytbbihmmobfmadaa

namespace Go.Proofs.Ytbbihmmobfmadaa
open Abs Fil Fil.Bl A
abbrev encW (x : List Int) (t : Tok) : AV := .slice (x.map fun x => .int .i64 x) t
set_option maxHeartbeats 2000000 in
theorem bl_zip (x y : List Int) (tx ty : Tok) (fF : Nat) (first caps : List AV) (out : Nat → Int) (S : Nat → Sig) (hlen : x.length ≤ y.length) (hx : x.length ≤ 1000000)
    (hd : ∀ k o, S 0 o = none → S k o = none)
    (hdo : ∀ i, i < x.length → ∀ o z, S 0 o = none → ACalls Try.prog fF (first ++ [.int .i64 (gt x i), .int .i64 (gt y i)] ++ caps) (upd (S i) o z) (fun r τ' => r = .ret (.int .i64 (out i)) ∧ τ' = upd (S (i + 1)) o z)) :
    ACalls Try.prog 51 [encW x tx, encW y ty, .fn fF first caps] (S 0) (fun r σ' => r = .ret (encW ((List.range x.length).map out) .no) ∧ σ' = S x.length) := by
  refine calls_x mixed Try.func51 b51 n51 rfl q51 (by simp) ?_; unfold c51 r51
  repeat' (first | simp (maxDischargeDepth := 9) -implicitDefEqProofs -dsimp only [go_sem, seval, *] | simp (disch := omega) only [wrap64] | ((with_reducible refine Zv ?_ ?_); focus (first | omega | exact rfl)) | ((with_reducible refine Zt (fun oF hoF hnF hnF' => ?_)); (try simp only [upd_none, ne_eq, not_and] at hoF)))
  refine loop_rule (fun i : Nat => [(15, some (.int .i64 i)), (14, some (.int .i64 x.length)), (13, some (encW x tx)), (7, some (encW ((List.range i).map out) (.own oF))), (2, some (.fn fF first caps)), (1, some (encW y ty))]) (fun i => upd (S i) oF (.grow 1 i)) (fun i => i ≤ x.length) (fun i => x.length - i) 0 ?_ ?_
  · (repeat' (first | simp (maxDischargeDepth := 9) -implicitDefEqProofs -dsimp only [go_sem, seval, encW, List.range_zero, List.map_nil, *] | simp (disch := omega) only [wrap64])) <;> (repeat' refine And.intro ?_ ?_) <;> (first | omega | rfl | assumption | skip)
  intro i hi
  by_cases hlt : i < x.length
  · have c1 := hdo i hlt oF (.grow 1 i) hoF
    have hgx : (x.map fun x => AV.int .i64 x)[i]? = some (.int .i64 (gt x i)) := by simp [gt, List.getD_eq_getElem?_getD, hlt]
    have hgy : (y.map fun x => AV.int .i64 x)[i]? = some (.int .i64 (gt y i)) := by simp [gt, List.getD_eq_getElem?_getD, show i < y.length by omega]
    have hr : (List.range (i + 1)).map out = (List.range i).map out ++ [out i] := by simp [List.range_succ]
    have hbd : (i + 1) * 8 ≤ 35184372088832 := by omega
    repeat' (first | simp (maxDischargeDepth := 9) -implicitDefEqProofs -dsimp only [go_sem, seval, List.length_range, List.length_map, *] | simp (disch := omega) only [wrap64] | ((with_reducible refine Zv ?_ ?_); focus (first | omega | exact rfl)) | ((with_reducible refine Zt (fun oF hoF hnF hnF' => ?_)); (try simp only [upd_none, ne_eq, not_and] at hoF)) | ((with_reducible apply ACalls.one1); (focus ((first | with_reducible refine c1) <;> (first | (simp (maxDischargeDepth := 9) -implicitDefEqProofs -dsimp only [go_sem, seval, *]; done) | omega))); (focus (first | trivial | with_reducible exact rfl | (simp (maxDischargeDepth := 9) -implicitDefEqProofs -dsimp only [go_sem, seval]; done)))))
    refine loop_next _ _ _ _ (i + 1) ?_; (repeat' (first | simp (maxDischargeDepth := 9) -implicitDefEqProofs -dsimp only [go_sem, seval,  encW, hr, List.map_append, List.map_cons, List.map_nil, *] | simp (disch := omega) only [wrap64])) <;> (repeat' refine And.intro ?_ ?_) <;> (first | omega | rfl | assumption | skip)
  · have : i = x.length := by omega
    subst this
    repeat' (first | simp (maxDischargeDepth := 9) -implicitDefEqProofs -dsimp only [go_sem, seval, *] | simp (disch := omega) only [wrap64] | ((with_reducible refine Zv ?_ ?_); focus (first | omega | exact rfl)) | ((with_reducible refine Zt (fun oF hoF hnF hnF' => ?_)); (try simp only [upd_none, ne_eq, not_and] at hoF)))
    refine fin_eq ?_
    (repeat' (first | simp (maxDischargeDepth := 9) -implicitDefEqProofs -dsimp only [go_sem, seval, encW, *] | simp (disch := omega) only [wrap64])) <;> (repeat' refine And.intro ?_ ?_) <;> (first | omega | rfl | assumption | skip)
end Go.Proofs.Ytbbihmmobfmadaa

