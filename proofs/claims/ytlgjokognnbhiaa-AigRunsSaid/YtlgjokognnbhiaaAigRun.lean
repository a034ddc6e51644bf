/- Plain laws on running gates row by row. -/
import Derived.Test.YtlgjokognnbhiaaAigModel
set_option linter.unusedSimpArgs false
set_option linter.unusedVariables false
namespace Fil
open Abs Go

/-- Something put away from simp. -/
structure Pk (p : Prop) : Prop where
  out : p

/-- The flops' values behind so many rows. -/
def Aig.stAt (g : Aig) (st : List Bool) (ins : List (List Bool)) (i : Nat) : List Bool := (ins.take i).foldl (fun s inp => (g.Eval inp s).2.1) st

theorem runs_err {g : Aig} : ∀ {ins : List (List Bool)} {st : List Bool} {out : List (List Bool)}, (g.runs st out ins).2 ≠ 0 → (g.runs st out ins).1 = []
  | [], st, out, h => by simp [Aig.runs] at h
  | inp :: ins, st, out, h => by
    simp only [Aig.runs] at h ⊢
    split
    · rfl
    · rename_i he; rw [if_neg he] at h; exact runs_err h

theorem runs_spec {g : Aig} : ∀ {ins : List (List Bool)} {st : List Bool} {out : List (List Bool)}, (g.runs st out ins).2 = 0 → ∃ rows, g.runs st out ins = (out ++ rows, 0) ∧ rows.length = ins.length ∧
    (∀ k, k ≤ ins.length → g.runs st out (ins.take k) = (out ++ rows.take k, 0)) ∧ ∀ i, (h : i < ins.length) → (g.Eval ins[i] (g.stAt st ins i)).2.2 = 0 ∧ rows[i]? = some (g.Eval ins[i] (g.stAt st ins i)).1
  | [], st, out, h => ⟨[], by simp [Aig.runs], rfl, fun k _ => by simp [Aig.runs], fun i h => by simp at h⟩
  | inp :: ins, st, out, h => by
    simp only [Aig.runs] at h
    split at h
    · rename_i he; exact (he h).elim
    · rename_i he
      have he' : (g.Eval inp st).2.2 = 0 := Classical.not_not.1 he
      obtain ⟨rows, h1, h2, h3, h4⟩ := runs_spec h
      refine ⟨(g.Eval inp st).1 :: rows, ?_, by simp [h2], fun k hk => ?_, fun i hi => ?_⟩
      · simp only [Aig.runs]; rw [if_neg he, h1]; simp
      · cases k with
        | zero => simp [Aig.runs]
        | succ k =>
          simp only [List.take_succ_cons, Aig.runs]
          rw [if_neg he, h3 k (by simpa using hk)]; simp
      · cases i with
        | zero => exact ⟨he', rfl⟩
        | succ i =>
          have := h4 i (by simpa using hi)
          simpa [Aig.stAt] using this

theorem stAt_succ {g : Aig} {st : List Bool} {ins : List (List Bool)} {i : Nat} (h : i < ins.length) : g.stAt st ins (i + 1) = (g.Eval ins[i] (g.stAt st ins i)).2.1 := by
  simp only [Aig.stAt]
  rw [take_succ h, List.foldl_append]; rfl

theorem run_err {g : Aig} {ins : List (List Bool)} (h : (g.Run ins).2 ≠ 0) : (g.Run ins).1 = [] := by
  unfold Aig.Run at h ⊢
  split
  · rfl
  · rename_i hc; rw [if_neg hc] at h; exact runs_err h
theorem run_ok {g : Aig} {ins : List (List Bool)} (h : (g.Run ins).2 = 0) : g.check = 0 ∧ g.Run ins = g.runs (g.flops.map (·.init)) [] ins := by
  unfold Aig.Run at h ⊢
  split at h
  · rename_i hc; exact (hc h).elim
  · rename_i hc; rw [if_neg hc]; exact ⟨Classical.not_not.1 hc, rfl⟩

theorem and_mask (a : Int) (k : Nat) (hk : k ≤ 62) : IntKind.i64.wrap ((BitVec.ofInt IntKind.i64.bits a &&& BitVec.ofInt IntKind.i64.bits (2 ^ k - 1)).toNat : Nat) = a % 2 ^ k := by
  have h1 : (2 : Nat) ^ k ≤ 2 ^ 62 := Nat.pow_le_pow_right (by omega) hk
  have h0 : 0 < (2 : Nat) ^ k := Nat.pow_pos (by omega)
  have e0 : ((2 : Int) ^ k - 1) = ((2 ^ k - 1 : Nat) : Int) := by
    rw [Int.natCast_sub (by omega)]; simp
  have e : (BitVec.ofInt 64 a &&& BitVec.ofInt 64 (2 ^ k - 1)).toNat = (a % 18446744073709551616).toNat % 2 ^ k := by
    rw [BitVec.toNat_and, ofInt_nat, ofInt_nat]
    have : (((2 : Int) ^ k - 1) % 18446744073709551616).toNat = 2 ^ k - 1 := by rw [e0]; omega
    rw [this, Nat.and_two_pow_sub_one_eq_mod]
  show IntKind.i64.wrap ((BitVec.ofInt 64 a &&& BitVec.ofInt 64 (2 ^ k - 1)).toNat : Nat) = a % 2 ^ k
  rw [e]
  have hd : (2 ^ k : Nat) ∣ 18446744073709551616 := by
    have : (18446744073709551616 : Nat) = 2 ^ 64 := by decide
    rw [this]; exact Nat.pow_dvd_pow 2 (by omega)
  have e3 : (((a % 18446744073709551616).toNat % 2 ^ k : Nat) : Int) = a % 2 ^ k := by
    obtain ⟨c, hc⟩ := hd
    have hc' : (18446744073709551616 : Int) = 2 ^ k * c := by
      have := congrArg (fun n : Nat => (n : Int)) hc
      simpa using this
    rw [Int.natCast_emod]
    have : (((a % 18446744073709551616).toNat : Nat) : Int) = a % 18446744073709551616 := by omega
    rw [this, Int.natCast_pow]
    show a % 18446744073709551616 % 2 ^ k = a % 2 ^ k
    exact Int.emod_emod_of_dvd a ⟨c, hc'⟩
  rw [e3]
  have hb : (0 : Int) ≤ a % 2 ^ k ∧ a % 2 ^ k < 2 ^ k := ⟨Int.emod_nonneg _ (by have : (0 : Int) < 2 ^ k := by exact_mod_cast h0
                                                                                omega), Int.emod_lt_of_pos _ (by exact_mod_cast h0)⟩
  have h1' : (2 : Int) ^ k ≤ 2 ^ 62 := by exact_mod_cast h1
  exact wrap64 _ (by omega) (by omega)

theorem and_ffff (a : Int) : IntKind.i64.wrap ((BitVec.ofInt IntKind.i64.bits a &&& BitVec.ofInt IntKind.i64.bits 65535).toNat : Nat) = a % 65536 := by
  simpa using and_mask a 16 (by omega)

end Fil
