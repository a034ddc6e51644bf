/- bdd: plain models: which diagrams may be. No program in sight. -/
import Derived.Test.YteabanjbgpplmaaBddParts
set_option linter.unusedSimpArgs false
set_option linter.unusedVariables false
namespace Fil.Bd

def und (F : List T3) (n v i : Int) : Bool := decide (0 ≤ n ∧ n < i ∧ (n < 2 ∨ v < (frk F n).1))

/-- Where forks are, so far. -/
def atL (F : List T3) : Nat → List (T3 × Int)
  | 0 => []
  | j + 1 => set3 (atL F j) (frk F (j + 2)) (j + 2)

theorem at_some (F : List T3) (x : T3) : ∀ j, (get3 (atL F j) x).isSome = true ↔ ∃ i, i < j ∧ frk F (i + 2) = x
  | 0 => by simp [atL, get3]
  | j + 1 => by
    rw [atL, get_set]
    split
    · rename_i e
      simp only [Option.isSome_some, true_iff]
      exact ⟨j, by omega, e⟩
    · rename_i e
      rw [at_some F x j]
      constructor
      · rintro ⟨i, h1, h2⟩; exact ⟨i, by omega, h2⟩
      · rintro ⟨i, h1, h2⟩
        have : i ≠ j := fun e' => e (by rw [← h2, e'])
        exact ⟨i, by omega, h2⟩

/-- A fork that may not be at its place. -/
def bad (vars : Int) (F : List T3) (j : Nat) : Bool :=
  (get3 (atL F j) (frk F (j + 2))).isSome || decide ((frk F (j + 2)).1 < 0) || decide (vars ≤ (frk F (j + 2)).1) || decide ((frk F (j + 2)).2.1 = (frk F (j + 2)).2.2) ||
    !und F (frk F (j + 2)).2.1 (frk F (j + 2)).1 (j + 2) || !und F (frk F (j + 2)).2.2 (frk F (j + 2)).1 (j + 2)

def head (vars : Int) (F : List T3) : Bool := decide (vars < 0) || decide (32 < vars) || decide (F.length < 2) || decide (frk F 0 ≠ (-1, 0, 0)) || decide (frk F 1 ≠ (-1, 0, 0))

def chk (vars : Int) (F : List T3) : Int :=
  if 65536 < F.length then 220 else if head vars F = true then 1 else if (List.range (F.length - 2)).any (bad vars F) = true then 1 else 0

/-- Diagrams that may be. -/
structure Fine (vars : Int) (F : List T3) : Prop extends Ok vars F where
  few : vars ≤ 32
  all : F.length ≤ 65536
  end0 : frk F 0 = (-1, 0, 0)
  end1 : frk F 1 = (-1, 0, 0)

theorem und_iff {F n v i} : und F n v i = true ↔ 0 ≤ n ∧ n < i ∧ (n < 2 ∨ v < (frk F n).1) := by simp [und]

theorem bad_iff {vars F j} : bad vars F j = false ↔ (∀ i, i < j → frk F (i + 2) ≠ frk F (j + 2)) ∧ 0 ≤ (frk F (j + 2)).1 ∧ (frk F (j + 2)).1 < vars ∧ (frk F (j + 2)).2.1 ≠ (frk F (j + 2)).2.2 ∧
    und F (frk F (j + 2)).2.1 (frk F (j + 2)).1 (j + 2) = true ∧ und F (frk F (j + 2)).2.2 (frk F (j + 2)).1 (j + 2) = true := by
  have h := at_some F (frk F (j + 2)) j
  have h' : (get3 (atL F j) (frk F (j + 2))).isSome = false ↔ ∀ i, i < j → frk F (i + 2) ≠ frk F (j + 2) := by
    rw [← Bool.not_eq_true, h]
    exact ⟨fun q i h1 h2 => q ⟨i, h1, h2⟩, fun q ⟨i, h1, h2⟩ => q i h1 h2⟩
  simp only [bad, Bool.or_eq_false_iff, h', Bool.not_eq_false', decide_eq_false_iff_not, Int.not_lt, Int.not_le, and_assoc]

theorem head_iff {vars F} : head vars F = false ↔ 0 ≤ vars ∧ vars ≤ 32 ∧ 2 ≤ F.length ∧ frk F 0 = (-1, 0, 0) ∧ frk F 1 = (-1, 0, 0) := by
  simp only [head, Bool.or_eq_false_iff, decide_eq_false_iff_not, Int.not_lt, Nat.not_lt, Decidable.not_not, and_assoc]

theorem chk_fine {vars F} : chk vars F = 0 ↔ Fine vars F := by
  have step : ∀ {j : Nat}, (frk F (j + 2)).1 < vars → ∀ n, (und F n (frk F (j + 2)).1 (j + 2) = true ↔ 0 ≤ n ∧ n < j + 2 ∧ (frk F (j + 2)).1 < top vars F n) := fun {j} hv n => by
    rw [und_iff]
    unfold top
    split <;> constructor <;> (intro ⟨a, b, c⟩; refine ⟨a, b, ?_⟩; omega)
  constructor
  · intro h
    unfold chk at h
    split at h
    · simp at h
    split at h
    · simp at h
    split at h
    · simp at h
    rename_i h1 h2 h3
    obtain ⟨k1, k2, k3, k4, k5⟩ := head_iff.1 (by simpa using h2)
    have hall : ∀ j : Nat, j + 2 < F.length → bad vars F j = false := fun j hj => by
      have := h3
      simp only [List.any_eq_true, List.mem_range, not_exists, not_and, Bool.not_eq_true] at this
      exact this j (by omega)
    have conv : ∀ i : Int, 2 ≤ i → i < F.length → ∃ j : Nat, i = j + 2 ∧ j + 2 < F.length := fun i a b => ⟨i.toNat - 2, by omega, by omega⟩
    refine ⟨⟨k3, k1, ?_, ?_, ?_, ?_, ?_⟩, k2, by omega, k4, k5⟩
    · intro i a b
      obtain ⟨j, rfl, hj⟩ := conv i a b
      have := bad_iff.1 (hall j hj)
      exact ⟨this.2.1, this.2.2.1⟩
    · intro i a b
      obtain ⟨j, rfl, hj⟩ := conv i a b
      exact (bad_iff.1 (hall j hj)).2.2.2.1
    · intro i a b
      obtain ⟨j, rfl, hj⟩ := conv i a b
      have := bad_iff.1 (hall j hj)
      exact (step this.2.2.1 _).1 this.2.2.2.2.1
    · intro i a b
      obtain ⟨j, rfl, hj⟩ := conv i a b
      have := bad_iff.1 (hall j hj)
      exact (step this.2.2.1 _).1 this.2.2.2.2.2
    · intro i i' a b a' b' e
      obtain ⟨j, rfl, hj⟩ := conv i a b
      obtain ⟨j', rfl, hj'⟩ := conv i' a' b'
      rcases Nat.lt_trichotomy j j' with h | h | h
      · exact absurd e ((bad_iff.1 (hall j' hj')).1 j h)
      · rw [h]
      · exact absurd e.symm ((bad_iff.1 (hall j hj)).1 j' h)
  · intro h
    have h2 := h.two
    unfold chk
    have hh : head vars F = false := head_iff.2 ⟨h.lo, h.few, h2, h.end0, h.end1⟩
    have ha : (List.range (F.length - 2)).any (bad vars F) = false := by
      rw [List.any_eq_false]
      intro j hj
      rw [Bool.not_eq_true]
      have hj' : j < F.length - 2 := List.mem_range.1 hj
      have v := h.var (j + 2) (by omega) (by omega)
      refine bad_iff.2 ⟨fun i hi e => ?_, v.1, v.2, h.ne (j + 2) (by omega) (by omega), (step v.2 _).2 (h.low (j + 2) (by omega) (by omega)), (step v.2 _).2 (h.high (j + 2) (by omega) (by omega))⟩
      have := h.uniq (i + 2) (j + 2) (by omega) (by omega) (by omega) (by omega) e
      omega
    rw [if_neg (by have := h.all; omega), if_neg (by simp [hh]), if_neg (by simp [ha])]

/-- The machine of diagrams that may be. -/
def mac (F : List T3) : Mac := ⟨F, atL F (F.length - 2), []⟩

theorem mac_ok {vars F} (h : Ok vars F) : MOk vars (mac F) := by
  have key : ∀ j : Nat, j + 2 ≤ F.length → (∀ x n, get3 (atL F j) x = some n → 2 ≤ n ∧ n < j + 2 ∧ frk F n = x) ∧ (∀ n : Int, 2 ≤ n → n < j + 2 → get3 (atL F j) (frk F n) = some n) := by
    intro j
    induction j with
    | zero => intro hj; exact ⟨fun x n e => by simp [atL, get3] at e, fun n a b => by omega⟩
    | succ j ih =>
      intro hj
      obtain ⟨q1, q2⟩ := ih (by omega)
      refine ⟨fun x n e => ?_, fun n a b => ?_⟩
      · rw [atL, get_set] at e
        split at e
        · rename_i e'
          simp at e; subst e; exact ⟨by omega, by omega, e'⟩
        · obtain ⟨a, b, c⟩ := q1 x n e
          exact ⟨a, by omega, c⟩
      · rw [atL, get_set]
        by_cases c : n = j + 2
        · subst c; rw [if_pos rfl]
        · rw [if_neg (fun e => c (h.uniq n (j + 2) a (by omega) (by omega) (by omega) e.symm)), q2 n a (by omega)]
  have h2 := h.two
  obtain ⟨q1, q2⟩ := key (F.length - 2) (by omega)
  exact ⟨h, fun x n e => by obtain ⟨a, b, c⟩ := q1 x n e; exact ⟨a, by show n < F.length; omega, c⟩, fun n a b => q2 n a (by have : n < F.length := b; omega)⟩

theorem mac_kept {vars F} : Kept (DoneOk vars) (mac F) := fun k n e => by simp [mac, get3] at e

end Fil.Bd
