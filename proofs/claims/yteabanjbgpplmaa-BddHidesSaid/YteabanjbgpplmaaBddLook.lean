/- bdd: plain models: Eval, One, Count. No program in sight. -/
import Derived.Test.YteabanjbgpplmaaBddOps
namespace Fil.Bd

def nx (F : List T3) (inp : List Bool) (n : Int) : Int := if inp.getD (frk F n).1.toNat false then (frk F n).2.2 else (frk F n).2.1

def evf (F : List T3) (inp : List Bool) : Nat → Int → Bool
  | 0, n => decide (n = 1)
  | k + 1, n => if n < 2 then decide (n = 1) else evf F inp k (nx F inp n)

theorem evf_end {F inp k} {n : Int} (h : n < 2) : evf F inp k n = decide (n = 1) := by
  cases k with
  | zero => rfl
  | succ k => rw [evf, if_pos h]

theorem evf_step {F inp k} {n : Int} (h : 2 ≤ n) : evf F inp (k + 1) n = evf F inp k (nx F inp n) := by rw [evf, if_neg (by omega)]

def evalW (b : D) (f : Int) (inp : List Bool) : Bool × Int :=
  if askE b [f] false ≠ 0 then (false, askE b [f] false) else if (inp.length : Int) ≠ b.1 then (false, 1) else (evf b.2 inp f.toNat f, 0)

def one1 (F : List T3) : Nat → Int → List Bool → List Bool
  | 0, _, l => l
  | k + 1, n, l => if n < 2 then l else if (frk F n).2.1 = 0 then one1 F k (frk F n).2.2 (l.set (frk F n).1.toNat true) else one1 F k (frk F n).2.1 l

theorem one1_end {F k l} {n : Int} (h : n < 2) : one1 F k n l = l := by
  cases k with
  | zero => rfl
  | succ k => rw [one1, if_pos h]

def oneW (b : D) (f : Int) : List Bool × Bool × Int :=
  if askE b [f] false ≠ 0 then ([], false, askE b [f] false) else if f = 0 then ([], false, 0) else (one1 b.2 f.toNat f (List.replicate b.1.toNat false), true, 0)

end Fil.Bd
