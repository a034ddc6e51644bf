/- bdd: plain models: Count. No program in sight. -/
import Derived.Test.YteabanjbgpplmaaBddLook
set_option linter.unusedSimpArgs false
set_option linter.unusedVariables false
namespace Fil.Bd

/-- For how many inputs. -/
def cnt (t : List Bool) : Int := ((t.count true : Nat) : Int)

theorem cnt_append (a b : List Bool) : cnt (a ++ b) = cnt a + cnt b := by unfold cnt; rw [List.count_append]; omega
theorem cnt_le (t : List Bool) : 0 ≤ cnt t ∧ cnt t ≤ t.length := by
  unfold cnt; have := List.count_le_length (a := true) (l := t); omega

/-- What is counted of a node, from its own variable on. -/
def cn (vars : Int) (F : List T3) (n : Int) : Int := cnt (tab F (vars - top vars F n).toNat (top vars F n) n)

theorem cnt_up {vars : Int} {F : List T3} {n : Int} : ∀ (d k : Nat) (u : Int), u + d = top vars F n → u + (k + d : Nat) = vars → cnt (tab F (k + d) u n) = cnt (tab F k (top vars F n) n) * 2 ^ d
  | 0, k, u, h1, h2 => by
    have : u = top vars F n := by omega
    subst this; simp
  | d + 1, k, u, h1, h2 => by
    have hne : top vars F n ≠ u := by omega
    rw [show k + (d + 1) = (k + d) + 1 by omega, tab_up (top_up hne), cnt_append, cnt_up (vars := vars) d k (u + 1) (by omega) (by omega), Int.pow_succ, ← Int.mul_assoc]
    omega

theorem cn_up {vars : Int} {F : List T3} {n u : Int} (ho : Ok vars F) (hn : In vars F u n) {k : Nat} (hk : u + k = vars) : cnt (tab F k u n) = cn vars F n * 2 ^ (top vars F n - u).toNat := by
  have h1 := hn.2.2
  have h2 := top_In ho hn
  have := cnt_up (vars := vars) (F := F) (n := n) (top vars F n - u).toNat (vars - top vars F n).toNat u (by omega) (by omega)
  have e : (vars - top vars F n).toNat + (top vars F n - u).toNat = k := by omega
  rw [e] at this
  exact this

theorem cn_step {vars : Int} {F : List T3} {i : Int} (ho : Ok vars F) (h2 : 2 ≤ i) (hi : i < F.length) :
    cn vars F i = cn vars F (frk F i).2.1 * 2 ^ (top vars F (frk F i).2.1 - (frk F i).1 - 1).toNat + cn vars F (frk F i).2.2 * 2 ^ (top vars F (frk F i).2.2 - (frk F i).1 - 1).toNat := by
  have hv := ho.var i h2 hi
  have et : top vars F i = (frk F i).1 := by unfold top; rw [if_neg (by omega)]
  have hin : In vars F (frk F i).1 i := ⟨by omega, hi, by omega⟩
  have hlo := hin.lo ho ⟨h2, rfl⟩
  have hhi := hin.hi ho ⟨h2, rfl⟩
  unfold cn
  rw [et]
  obtain ⟨k, hk⟩ : ∃ k : Nat, (frk F i).1 + (k + 1 : Nat) = vars := ⟨(vars - (frk F i).1).toNat - 1, by omega⟩
  rw [show (vars - (frk F i).1).toNat = k + 1 by omega, tab_at ⟨h2, rfl⟩, cnt_append, cn_up ho hlo (k := k) (by omega), cn_up ho hhi (k := k) (by omega)]
  unfold cn
  rw [show (top vars F (frk F i).2.1 - ((frk F i).1 + 1)).toNat = (top vars F (frk F i).2.1 - (frk F i).1 - 1).toNat by omega, show (top vars F (frk F i).2.2 - ((frk F i).1 + 1)).toNat = (top vars F (frk F i).2.2 - (frk F i).1 - 1).toNat by omega]

theorem cn_bound {vars : Int} {F : List T3} {n u : Int} (ho : Ok vars F) (hn : In vars F u n) (hu : 0 ≤ u) (hf : vars ≤ 32) : 0 ≤ cn vars F n * 2 ^ (top vars F n - u).toNat ∧ cn vars F n * 2 ^ (top vars F n - u).toNat ≤ 4294967296 := by
  have h1 := hn.2.2
  have h2 := top_In ho hn
  obtain ⟨k, hk⟩ : ∃ k : Nat, u + k = vars := ⟨(vars - u).toNat, by omega⟩
  rw [← cn_up ho hn hk]
  have h3 := cnt_le (tab F k u n)
  rw [tab_len] at h3
  have h4 : 2 ^ k ≤ 2 ^ 32 := Nat.pow_le_pow_right (by decide) (by omega)
  omega

def countW (b : D) (f : Int) : Int × Int := if askE b [f] false ≠ 0 then (0, askE b [f] false) else (cnt (T b f), 0)

theorem cn_zero (vars : Int) (F : List T3) : cn vars F 0 = 0 := by
  have : top vars F 0 = vars := by simp [top]
  unfold cn; rw [this, show (vars - vars).toNat = 0 by omega]; rfl
theorem cn_one (vars : Int) (F : List T3) : cn vars F 1 = 1 := by
  have : top vars F 1 = vars := by simp [top]
  unfold cn; rw [this, show (vars - vars).toNat = 0 by omega]; rfl

/-- What is counted so far. -/
def cns (vars : Int) (F : List T3) (j : Nat) : List Int := (List.range (j + 2)).map fun i : Nat => cn vars F (i : Int)

theorem cns_zero (vars : Int) (F : List T3) : cns vars F 0 = [0, 1] := by
  simp only [cns, Nat.zero_add, List.range_succ, List.range_zero, List.nil_append, List.map_append, List.map_cons, List.map_nil, List.cons_append]
  rw [show ((0 : Nat) : Int) = 0 from rfl, show ((1 : Nat) : Int) = 1 from rfl, cn_zero, cn_one]
theorem cns_succ (vars : Int) (F : List T3) (j : Nat) : cns vars F (j + 1) = cns vars F j ++ [cn vars F ((j : Int) + 2)] := by
  have : (((j + 2 : Nat)) : Int) = (j : Int) + 2 := by omega
  simp only [cns, show j + 1 + 2 = (j + 2) + 1 by omega, List.range_succ (n := j + 2), List.map_append, List.map_cons, List.map_nil, this]
theorem cns_len (vars : Int) (F : List T3) (j : Nat) : (cns vars F j).length = j + 2 := by simp [cns]
theorem cns_get (vars : Int) (F : List T3) (j : Nat) (i : Int) (h0 : 0 ≤ i) (h : i.toNat < (cns vars F j).length) : (cns vars F j)[i.toNat] = cn vars F i := by
  have : ((i.toNat : Nat) : Int) = i := by omega
  simp only [cns, List.getElem_map, List.getElem_range, this]

end Fil.Bd
