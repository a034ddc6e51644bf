/- bdd: plain models: what the operations tell. No program in sight. -/
import Derived.Test.YteabanjbgpplmaaBddCheck
set_option linter.unusedSimpArgs false
set_option linter.unusedVariables false
namespace Fil.Bd

def outside (F : List T3) (n : Int) : Bool := decide (n < 0) || decide ((F.length : Int) ≤ n)

/-- Diagrams: how many variables, the forks. -/
abbrev D := Int × List T3

def T (b : D) (f : Int) : List Bool := tab b.2 b.1.toNat 0 f

def askE (b : D) (l : List Int) (no : Bool) : Int := if chk b.1 b.2 ≠ 0 then chk b.1 b.2 else if (l.any (outside b.2) || no) = true then 1 else 0

def opW (b : D) (e : Int) (t : List Bool) : D × Int × Int := if e ≠ 0 then ((0, []), 0, e) else ((b.1, (put b.1.toNat b.2 0 t).1), (put b.1.toNat b.2 0 t).2, 0)

def iteW (b : D) (f g h : Int) : D × Int × Int := opW b (askE b [f, g, h] false) (iteT (T b f) (T b g) (T b h))
def notW (b : D) (f : Int) : D × Int × Int := iteW b f 0 1
def off (b : D) (n : Int) : Bool := decide (n < 0) || decide (b.1 ≤ n)
def someW (b : D) (f n : Int) : D × Int × Int := opW b (askE b [f] (off b n)) (exT b.1.toNat n.toNat (T b f))

/-- The table of a variable that is so far down. -/
def varT : Nat → Nat → List Bool
  | 0, _ => []
  | k + 1, 0 => List.replicate (2 ^ k) false ++ List.replicate (2 ^ k) true
  | k + 1, d + 1 => varT k d ++ varT k d

def varW (b : D) (n : Int) : D × Int × Int := opW b (askE b [] (off b n)) (varT b.1.toNat n.toNat)

theorem out_In {vars : Int} {F : List T3} {n : Int} (h : outside F n = false) (ho : Ok vars F) : In vars F 0 n := by
  simp only [outside, Bool.or_eq_false_iff, decide_eq_false_iff_not] at h
  refine ⟨by omega, by omega, ?_⟩
  unfold top
  split
  · exact ho.lo
  · exact (ho.var n (by omega) (by omega)).1

theorem ask_err {b l no e} (he : chk b.1 b.2 = e) (h0 : e ≠ 0) : askE b l no = e := by unfold askE; rw [he, if_pos h0]
theorem ask_arg {b l no} (hf : Fine b.1 b.2) (h : (l.any (outside b.2) || no) = true) : askE b l no = 1 := by unfold askE; rw [chk_fine.2 hf, if_neg (by simp), if_pos h]
theorem ask_ok {b l no} (hf : Fine b.1 b.2) (h : (l.any (outside b.2) || no) = false) : askE b l no = 0 := by unfold askE; rw [chk_fine.2 hf, if_neg (by simp), if_neg (by simp [h])]
theorem op_err {b e t} (h0 : e ≠ 0) : opW b e t = ((0, []), 0, e) := by unfold opW; rw [if_pos h0]

theorem ite_mac {b : D} {f g h : Int} (hf : Fine b.1 b.2) (i : In b.1 b.2 0 f) (j : In b.1 b.2 0 g) (k : In b.1 b.2 0 h) :
    iteW b f g h = ((b.1, (iteM b.1 (b.1.toNat + 1) (mac b.2) f g h).1.forks), (iteM b.1 (b.1.toNat + 1) (mac b.2) f g h).2, 0) := by
  have hlo := hf.lo
  have m := ite_put b.1.toNat (b.1.toNat + 1) (mac b.2) f g h 0 (mac_ok hf.toOk) mac_kept (by omega) (by omega) (by omega) i j k
  have q : ∀ n, In b.1 b.2 0 n → outside b.2 n = false := fun n i => by simp [outside, i.1, i.2.1]
  have hp := m.put
  have e0 : askE b [f, g, h] false = 0 := ask_ok hf (by simp [q f i, q g j, q h k])
  have e : iteW b f g h = ((b.1, (put b.1.toNat b.2 0 (iteT (T b f) (T b g) (T b h))).1), (put b.1.toNat b.2 0 (iteT (T b f) (T b g) (T b h))).2, 0) := by
    unfold iteW opW; rw [e0]; rfl
  rw [e]
  have hp' : put b.1.toNat b.2 0 (iteT (T b f) (T b g) (T b h)) = ((iteM b.1 (b.1.toNat + 1) (mac b.2) f g h).1.forks, (iteM b.1 (b.1.toNat + 1) (mac b.2) f g h).2) := hp.symm
  rw [hp']

/-- Variables ahead, that make no difference. -/
theorem put_var {F : List T3} : ∀ (d k : Nat) (v : Int), put (d + (k + 1)) F v (varT (d + (k + 1)) d) = put (k + 1) F (v + d) (List.replicate (2 ^ k) false ++ List.replicate (2 ^ k) true)
  | 0, k, v => by simp [varT]
  | d + 1, k, v => by
    have hl : ∀ d k : Nat, (varT (d + (k + 1)) d).length = 2 ^ (d + (k + 1)) := by
      intro d
      induction d with
      | zero => intro k; rw [show 0 + (k + 1) = k + 1 by omega]; simp [varT]; omega
      | succ d ih => intro k; rw [show d + 1 + (k + 1) = (d + (k + 1)) + 1 by omega]; simp only [varT, List.length_append, ih]; omega
    rw [show d + 1 + (k + 1) = (d + (k + 1)) + 1 by omega]
    simp only [varT]
    rw [put_same (hl d k), put_var d k (v + 1)]
    congr 1; omega

theorem var_mac {b : D} {n : Int} (hf : Fine b.1 b.2) (h : off b n = false) :
    varW b n = ((b.1, (forkM (mac b.2) n 0 1).1.forks), (forkM (mac b.2) n 0 1).2, 0) := by
  have hlo := hf.lo
  have h' : 0 ≤ n ∧ n < b.1 := by simpa [off] using h
  have h2 := hf.two
  obtain ⟨k, hk⟩ : ∃ k : Nat, b.1.toNat = n.toNat + (k + 1) := ⟨b.1.toNat - n.toNat - 1, by omega⟩
  have i0 : In b.1 b.2 (n + 1) 0 := ⟨by omega, by omega, by simp [top]; omega⟩
  have i1 : In b.1 b.2 (n + 1) 1 := ⟨by omega, by omega, by simp [top]; omega⟩
  have hp := (fork_put (k := k) (mac_ok hf.toOk) h'.1 (by omega) i0 i1).2.2
  rw [tab_zero, tab_one] at hp
  have e : varW b n = ((b.1, (put b.1.toNat b.2 0 (varT b.1.toNat n.toNat)).1), (put b.1.toNat b.2 0 (varT b.1.toNat n.toNat)).2, 0) := by
    unfold varW opW; rw [ask_ok hf (by simp [h])]; rfl
  rw [e, hk, put_var n.toNat k 0, show (0 : Int) + n.toNat = n by omega]
  have hp' : put (k + 1) b.2 n (List.replicate (2 ^ k) false ++ List.replicate (2 ^ k) true) = ((forkM (mac b.2) n 0 1).1.forks, (forkM (mac b.2) n 0 1).2) := hp.symm
  rw [hp']

theorem fork_done (s : Mac) (v lo hi : Int) : (forkM s v lo hi).1.done = s.done := by
  unfold forkM
  split
  · rfl
  · split <;> rfl

theorem copied_done (G : List T3) : ∀ (m : Nat) (s : Mac) (n : Int) (seen : List (Int × Int)), (copiedM G m s n seen).1.done = s.done
  | 0, s, n, seen => rfl
  | m + 1, s, n, seen => by
    simp only [copiedM]
    split
    · rfl
    · split
      · rfl
      · simp only [fork_done, copied_done G m]

theorem some_mac {b : D} {f n : Int} (hf : Fine b.1 b.2) (i : In b.1 b.2 0 f) (h : off b n = false) :
    let S := someM b.1 (b.1.toNat + 1) (mac b.2) f n
    let C := copiedM S.1.forks (b.1.toNat + 1) (mac b.2) S.2 []
    someW b f n = ((b.1, C.1.forks), C.2.2, 0) ∧ Ok b.1 S.1.forks ∧ In b.1 S.1.forks 0 S.2 ∧ S.1.forks.length + 1 ≤ b.2.length + 2 ^ b.1.toNat := by
  intro S C
  have hlo := hf.lo
  have h' : 0 ≤ n ∧ n < b.1 := by simpa [off] using h
  have m := some_put b.1.toNat (b.1.toNat + 1) (mac b.2) f n 0 (mac_ok hf.toOk) mac_kept (by omega) (by omega) (by omega) h'.2 h'.1 i
  have P := put_ok b.1.toNat b.2 0 _ hf.toOk (by omega) (by omega) (exT_len b.1.toNat (n - 0).toNat _ (tab_len b.2 b.1.toNat 0 f))
  have mp : (S.1.forks, S.2) = put b.1.toNat b.2 0 (exT b.1.toNat (n - 0).toNat (tab b.2 b.1.toNat 0 f)) := m.put
  rw [← mp] at P
  have hc := copied_put P.ok b.1.toNat (b.1.toNat + 1) (mac b.2) S.2 0 [] (mac_ok hf.toOk) (fun n a e => by simp [get1] at e) (by omega) (by omega) (by omega) P.inn
  have q : outside b.2 f = false := by simp [outside, i.1, i.2.1]
  have hp := hc.put
  have e : someW b f n = ((b.1, (put b.1.toNat b.2 0 (exT b.1.toNat n.toNat (T b f))).1), (put b.1.toNat b.2 0 (exT b.1.toNat n.toNat (T b f))).2, 0) := by
    unfold someW opW; rw [ask_ok hf (by simp [q, h])]; rfl
  have ht := P.tab
  simp only at ht
  refine ⟨?_, P.ok, P.inn, P.len⟩
  rw [e]
  rw [ht] at hp
  have e1 : (n - 0).toNat = n.toNat := by omega
  rw [e1] at hp
  have hp' : put b.1.toNat b.2 0 (exT b.1.toNat n.toNat (T b f)) = (C.1.forks, C.2.2) := hp.symm
  rw [hp']

end Fil.Bd
