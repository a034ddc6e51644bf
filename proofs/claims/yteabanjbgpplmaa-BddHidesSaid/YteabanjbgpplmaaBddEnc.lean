/- bdd: how diagrams and machines are abstract values. No program in sight. -/
import Derived.Test.YteabanjbgpplmaaAigModel
import Derived.Test.YteabanjbgpplmaaBddSome
set_option linter.unusedSimpArgs false
set_option linter.unusedVariables false
namespace Fil.Bd
open Abs Go

abbrev encF (f : T3) : AV := .agg [.int .i64 f.1, .int .i64 f.2.1, .int .i64 f.2.2]
abbrev encB (vars : Int) (F : List T3) : AV := .agg [.int .i64 vars, .slice (F.map encF) .no]
abbrev encM (l : List (T3 × Int)) : List (AV × AV) := l.map fun p => (encF p.1, .int .i64 p.2)
abbrev encS (l : List (Int × Int)) : List (AV × AV) := l.map fun p => (.int .i64 p.1, .int .i64 p.2)
abbrev machT (vars : Int) (F : List T3) (k : Tok) (a d : Nat) : AObj := .cells [.int .i64 vars, .slice (F.map encF) k, .map a, .map d]

theorem szs_fork (l : List T3) : szs 3 (l.map encF) = True := szs_map _ _ _ fun _ => rfl

theorem keyOk_f (x y z : Int) : keyOk (.row [0, 0, 0]) (.agg [.int .i64 x, .int .i64 y, .int .i64 z]) = true := rfl
theorem keyOk_i (x : Int) : keyOk (.one 0) (.int .i64 x) = true := rfl

theorem eqKey_f (x y z : Int) (p : T3) : eqKey (.row [0, 0, 0]) (.agg [.int .i64 x, .int .i64 y, .int .i64 z]) (encF p) = some (decide (p = (x, y, z))) := by
  obtain ⟨a, b, c⟩ := p
  simp only [eqKey, eqCells, eq1, if_true, Bool.and_true, Option.some.injEq, Prod.mk.injEq]
  rw [Bool.eq_iff_iff]
  simp only [Bool.and_eq_true, beq_iff_eq, decide_eq_true_eq]
  exact ⟨fun ⟨h1, h2, h3⟩ => ⟨h1.symm, h2.symm, h3.symm⟩, fun ⟨h1, h2, h3⟩ => ⟨h1.symm, h2.symm, h3.symm⟩⟩

theorem look_f (x y z : Int) : ∀ l : List (T3 × Int), lookK (.row [0, 0, 0]) (.agg [.int .i64 x, .int .i64 y, .int .i64 z]) (encM l) = some ((get3 l (x, y, z)).map (.int .i64))
  | [] => rfl
  | p :: r => by
    have ih := look_f x y z r
    simp only [encM, List.map_cons, lookK, eqKey_f, get3] at ih ⊢
    by_cases c : p.1 = (x, y, z)
    · simp [c]
    · simp [c, ih]

theorem set_f (x y z v : Int) : ∀ l : List (T3 × Int), setK (.row [0, 0, 0]) (.agg [.int .i64 x, .int .i64 y, .int .i64 z]) (.int .i64 v) (encM l) = some (encM (set3 l (x, y, z) v))
  | [] => rfl
  | p :: r => by
    have ih := set_f x y z v r
    simp only [encM, List.map_cons, setK, eqKey_f, set3] at ih ⊢
    by_cases c : p.1 = (x, y, z)
    · simp [c]
    · simp [c, ih]

theorem look_i (x : Int) : ∀ l : List (Int × Int), lookK (.one 0) (.int .i64 x) (encS l) = some ((get1 l x).map (.int .i64))
  | [] => rfl
  | p :: r => by
    have ih := look_i x r
    simp only [encS, List.map_cons, lookK, eqKey, eq1, if_true, get1] at ih ⊢
    by_cases c : p.1 = x
    · simp [c]
    · have : (x == p.1) = false := by simpa using fun e => c e.symm
      simp [c, this, ih]

theorem set_i (x v : Int) : ∀ l : List (Int × Int), setK (.one 0) (.int .i64 x) (.int .i64 v) (encS l) = some (encS (set1 l x v))
  | [] => rfl
  | p :: r => by
    have ih := set_i x v r
    simp only [encS, List.map_cons, setK, eqKey, eq1, if_true, set1] at ih ⊢
    by_cases c : p.1 = x
    · simp [c]
    · have : (x == p.1) = false := by simpa using fun e => c e.symm
      simp [c, this, ih]

theorem get_frk (F : List T3) (i : Int) (h : i.toNat < F.length) : F[i.toNat] = frk F i := by
  simp [frk, List.getD_eq_getElem?_getD, h]

theorem get_frk0 (F : List T3) (h : 0 < F.length) : F[0] = frk F 0 := get_frk F 0 h
theorem get_frk1 (F : List T3) (h : 1 < F.length) : F[1] = frk F 1 := get_frk F 1 h
theorem get_drop (F : List T3) (i : Nat) (h : i < (F.drop 2).length) : (F.drop 2)[i] = frk F ((i : Int) + 2) := by
  have h' : 2 + i < F.length := by simp at h; omega
  simp only [List.getElem_drop]
  have := get_frk F ((i : Int) + 2) (by omega)
  rw [← this]; congr 1; omega

attribute [go_sem] szs_fork keyOk_f keyOk_i look_f set_f look_i set_i get_frk get_frk0 get_frk1 get_drop

end Fil.Bd
