/- bdd: plain models: what ite's parts are, for its walk. No program in sight. -/
import Derived.Test.YteabanjbgpplmaaBddSome
set_option linter.unusedSimpArgs false
set_option linter.unusedVariables false
namespace Fil.Bd

/-- Ite's steps: what is so at each. -/
structure Parts (vars : Int) (n : Nat) (s : Mac) (f g h v0 : Int) (a b : Mac × Int) : Prop where
  lo : 0 ≤ v0
  hi : v0 < vars
  f0 : In vars s.forks (v0 + 1) (halfM vars s.forks f v0 false)
  g0 : In vars s.forks (v0 + 1) (halfM vars s.forks g v0 false)
  h0 : In vars s.forks (v0 + 1) (halfM vars s.forks h v0 false)
  am : MOk vars a.1
  ak : Kept (DoneOk vars) a.1
  al : a.1.forks.length + 2 ^ n ≤ s.forks.length + 2 ^ (n + 1)
  af : s.forks.length ≤ a.1.forks.length
  f1 : In vars a.1.forks (v0 + 1) (halfM vars a.1.forks f v0 true)
  g1 : In vars a.1.forks (v0 + 1) (halfM vars a.1.forks g v0 true)
  h1 : In vars a.1.forks (v0 + 1) (halfM vars a.1.forks h v0 true)
  bl : b.1.forks.length + 2 ≤ s.forks.length + 2 ^ (n + 1)

theorem ite_parts {vars : Int} {n : Nat} {s : Mac} {f g h v : Int} (hm : MOk vars s) (hk : Kept (DoneOk vars) s) (hv0 : 0 ≤ v) (hvn : vars < v + (n + 1 : Nat)) (hf : In vars s.forks v f) (hg : In vars s.forks v g) (hh : In vars s.forks v h) (hf2 : 2 ≤ f)
    {v0 : Int} (e0 : v0 = tops vars s.forks f g h) {a : Mac × Int} (ea : a = iteM vars n s (halfM vars s.forks f v0 false) (halfM vars s.forks g v0 false) (halfM vars s.forks h v0 false))
    {b : Mac × Int} (eb : b = iteM vars n a.1 (halfM vars a.1.forks f v0 true) (halfM vars a.1.forks g v0 true) (halfM vars a.1.forks h v0 true)) : Parts vars n s f g h v0 a b := by
  have hv : v ≤ v0 := by rw [e0]; exact tops_le hf hg hh
  have htop : v0 < vars := by
    have := hm.ok.var f hf2 hf.2.1
    rw [e0]; unfold tops top; rw [if_neg (by omega)]; omega
  have hf' : In vars s.forks v0 f := ⟨hf.1, hf.2.1, by rw [e0]; unfold tops; omega⟩
  have hg' : In vars s.forks v0 g := ⟨hg.1, hg.2.1, by rw [e0]; unfold tops; omega⟩
  have hh' : In vars s.forks v0 h := ⟨hh.1, hh.2.1, by rw [e0]; unfold tops; omega⟩
  clear e0
  obtain ⟨k, hk1⟩ : ∃ k : Nat, v0 + (k + 1 : Nat) = vars := ⟨(vars - v0).toNat - 1, by omega⟩
  have hkn : k + 1 ≤ n := by omega
  have hpow : 2 ^ (k + 1) ≤ 2 ^ n := Nat.pow_le_pow_right (by decide) hkn
  have hp2 : 2 ^ (n + 1) = 2 * 2 ^ n := by rw [Nat.pow_succ]; omega
  have hp1 : 2 ^ (k + 1) = 2 * 2 ^ k := by rw [Nat.pow_succ]; omega
  have m1 := ite_put k n s _ _ _ (v0 + 1) hm hk (by omega) (by omega) (by omega) (half_In htop hm.ok hk1 hf' false) (half_In htop hm.ok hk1 hg' false) (half_In htop hm.ok hk1 hh' false)
  have P1 := put_ok k s.forks (v0 + 1) _ hm.ok (by omega) (by omega) (iteT_len (tab_len s.forks k (v0 + 1) (halfM vars s.forks f v0 false)) (tab_len s.forks k (v0 + 1) (halfM vars s.forks g v0 false)) (tab_len s.forks k (v0 + 1) (halfM vars s.forks h v0 false)))
  rw [← m1.put] at P1
  rw [← ea] at m1 P1
  obtain ⟨la, eqa⟩ := P1.pre
  simp only at eqa
  have hf1 : In vars a.1.forks v0 f := by rw [eqa]; exact hf'.app la
  have hg1 : In vars a.1.forks v0 g := by rw [eqa]; exact hg'.app la
  have hh1 : In vars a.1.forks v0 h := by rw [eqa]; exact hh'.app la
  have m2 := ite_put k n a.1 _ _ _ (v0 + 1) m1.ok m1.kept (by omega) (by omega) (by omega) (half_In htop m1.ok.ok hk1 hf1 true) (half_In htop m1.ok.ok hk1 hg1 true) (half_In htop m1.ok.ok hk1 hh1 true)
  have P2 := put_ok k a.1.forks (v0 + 1) _ m1.ok.ok (by omega) (by omega) (iteT_len (tab_len a.1.forks k (v0 + 1) (halfM vars a.1.forks f v0 true)) (tab_len a.1.forks k (v0 + 1) (halfM vars a.1.forks g v0 true)) (tab_len a.1.forks k (v0 + 1) (halfM vars a.1.forks h v0 true)))
  rw [← m2.put] at P2
  rw [← eb] at m2 P2
  have l1 := P1.len
  have l2 := P2.len
  simp only at l1 l2
  exact ⟨by omega, htop, half_In htop hm.ok hk1 hf' false, half_In htop hm.ok hk1 hg' false, half_In htop hm.ok hk1 hh' false, m1.ok, m1.kept, by omega, by rw [eqa]; simp,
    half_In htop m1.ok.ok hk1 hf1 true, half_In htop m1.ok.ok hk1 hg1 true, half_In htop m1.ok.ok hk1 hh1 true, by omega⟩

structure SParts (vars : Int) (n : Nat) (s : Mac) (f v v0 : Int) (a b : Mac × Int) : Prop where
  lo : 0 ≤ v0
  hi : v0 < vars
  f0 : In vars s.forks (v0 + 1) (frk s.forks f).2.1
  am : MOk vars a.1
  ak : Kept (DoneOk vars) a.1
  al : a.1.forks.length + 2 ^ n ≤ s.forks.length + 2 ^ (n + 1)
  af : s.forks.length ≤ a.1.forks.length
  e1 : frk a.1.forks f = frk s.forks f
  f1 : In vars a.1.forks (v0 + 1) (frk s.forks f).2.2
  bl : b.1.forks.length + 2 ≤ s.forks.length + 2 ^ (n + 1)
  bf : s.forks.length ≤ b.1.forks.length
  e2 : frk b.1.forks f = frk s.forks f

theorem some_parts {vars : Int} {n : Nat} {s : Mac} {f v u : Int} (hm : MOk vars s) (hk : Kept (DoneOk vars) s) (hu0 : 0 ≤ u) (hun : vars < u + (n + 1 : Nat)) (hf : In vars s.forks u f) (hf2 : 2 ≤ f) (hv : v < vars)
    (hlt : (frk s.forks f).1 < v) {a : Mac × Int} (ea : a = someM vars n s (frk s.forks f).2.1 v) {b : Mac × Int} (eb : b = someM vars n a.1 (frk s.forks f).2.2 v) : SParts vars n s f v (frk s.forks f).1 a b := by
  have htop : (frk s.forks f).1 < vars := (hm.ok.var f hf2 hf.2.1).2
  have hlo0 := (hm.ok.var f hf2 hf.2.1).1
  have hat : 2 ≤ f ∧ (frk s.forks f).1 = (frk s.forks f).1 := ⟨hf2, rfl⟩
  have huv : u ≤ (frk s.forks f).1 := by have := hf.2.2; unfold top at this; rw [if_neg (by omega)] at this; exact this
  have hf' : In vars s.forks (frk s.forks f).1 f := ⟨hf.1, hf.2.1, by unfold top; rw [if_neg (by omega)]; exact Int.le_refl _⟩
  have hlo := hf'.lo hm.ok hat
  have hhi := hf'.hi hm.ok hat
  generalize hv0 : (frk s.forks f).1 = v0 at *
  obtain ⟨k, hk1⟩ : ∃ k : Nat, v0 + (k + 1 : Nat) = vars := ⟨(vars - v0).toNat - 1, by omega⟩
  have hkn : k + 1 ≤ n := by omega
  have hpow : 2 ^ (k + 1) ≤ 2 ^ n := Nat.pow_le_pow_right (by decide) hkn
  have hp2 : 2 ^ (n + 1) = 2 * 2 ^ n := by rw [Nat.pow_succ]; omega
  have hp1 : 2 ^ (k + 1) = 2 * 2 ^ k := by rw [Nat.pow_succ]; omega
  have m1 := some_put k n s _ v (v0 + 1) hm hk (by omega) (by omega) (by omega) hv (by omega) hlo
  have P1 := put_ok k s.forks (v0 + 1) _ hm.ok (by omega) (by omega) (exT_len k (v - (v0 + 1)).toNat _ (tab_len s.forks k (v0 + 1) (frk s.forks f).2.1))
  rw [← m1.put] at P1
  rw [← ea] at m1 P1
  obtain ⟨la, eqa⟩ := P1.pre
  simp only at eqa
  have hf1 : In vars a.1.forks (v0 + 1) (frk s.forks f).2.2 := by rw [eqa]; exact hhi.app la
  have m2 := some_put k n a.1 _ v (v0 + 1) m1.ok m1.kept (by omega) (by omega) (by omega) hv (by omega) hf1
  have P2 := put_ok k a.1.forks (v0 + 1) _ m1.ok.ok (by omega) (by omega) (exT_len k (v - (v0 + 1)).toNat _ (tab_len a.1.forks k (v0 + 1) (frk s.forks f).2.2))
  rw [← m2.put] at P2
  rw [← eb] at m2 P2
  obtain ⟨lb, eqb⟩ := P2.pre
  simp only at eqb
  have l1 := P1.len
  have l2 := P2.len
  simp only at l1 l2
  refine ⟨by omega, htop, hlo, m1.ok, m1.kept, by omega, by rw [eqa]; simp, by rw [eqa]; exact frk_app hf.1 hf.2.1, hf1, by omega, by rw [eqb, eqa]; simp, by rw [eqb, eqa, List.append_assoc]; exact frk_app hf.1 hf.2.1⟩

structure CParts (vars : Int) (m : Nat) (G : List T3) (s : Mac) (n v0 : Int) (a b : Mac × List (Int × Int) × Int) : Prop where
  lo : 0 ≤ v0
  hi : v0 < vars
  f0 : In vars G (v0 + 1) (frk G n).2.1
  f1 : In vars G (v0 + 1) (frk G n).2.2
  am : MOk vars a.1
  as : Seen vars G a.1.forks a.2.1
  al : a.1.forks.length + 2 ^ m ≤ s.forks.length + 2 ^ (m + 1)
  bl : b.1.forks.length + 2 ≤ s.forks.length + 2 ^ (m + 1)
  ad : a.1.done = s.done
  bd : b.1.done = s.done

theorem copied_parts {vars : Int} {G : List T3} (hG : Ok vars G) {m : Nat} {s : Mac} {n u : Int} {seen : List (Int × Int)} (hm : MOk vars s) (hs : Seen vars G s.forks seen) (hu0 : 0 ≤ u) (hun : vars < u + (m + 1 : Nat)) (hn : In vars G u n) (hn2 : 2 ≤ n)
    {a b : Mac × List (Int × Int) × Int} (ea : a = copiedM G m s (frk G n).2.1 seen) (eb : b = copiedM G m a.1 (frk G n).2.2 a.2.1) : CParts vars m G s n (frk G n).1 a b := by
  have htop : (frk G n).1 < vars := (hG.var n hn2 hn.2.1).2
  have hlo0 := (hG.var n hn2 hn.2.1).1
  have hat : 2 ≤ n ∧ (frk G n).1 = (frk G n).1 := ⟨hn2, rfl⟩
  have huv : u ≤ (frk G n).1 := by have := hn.2.2; unfold top at this; rw [if_neg (by omega)] at this; exact this
  have hf' : In vars G (frk G n).1 n := ⟨hn.1, hn.2.1, by unfold top; rw [if_neg (by omega)]; exact Int.le_refl _⟩
  have hlo := hf'.lo hG hat
  have hhi := hf'.hi hG hat
  generalize hv0 : (frk G n).1 = v0 at *
  obtain ⟨k, hk1⟩ : ∃ k : Nat, v0 + (k + 1 : Nat) = vars := ⟨(vars - v0).toNat - 1, by omega⟩
  have hkn : k + 1 ≤ m := by omega
  have hpow : 2 ^ (k + 1) ≤ 2 ^ m := Nat.pow_le_pow_right (by decide) hkn
  have hp2 : 2 ^ (m + 1) = 2 * 2 ^ m := by rw [Nat.pow_succ]; omega
  have hp1 : 2 ^ (k + 1) = 2 * 2 ^ k := by rw [Nat.pow_succ]; omega
  have m1 := copied_put hG k m s (frk G n).2.1 (v0 + 1) seen hm hs (by omega) (by omega) (by omega) hlo
  have P1 := put_ok k s.forks (v0 + 1) _ hm.ok (by omega) (by omega) (tab_len G k (v0 + 1) (frk G n).2.1)
  rw [← m1.put] at P1
  rw [← ea] at m1 P1
  have m2 := copied_put hG k m a.1 (frk G n).2.2 (v0 + 1) a.2.1 m1.ok m1.seen (by omega) (by omega) (by omega) hhi
  have P2 := put_ok k a.1.forks (v0 + 1) _ m1.ok.ok (by omega) (by omega) (tab_len G k (v0 + 1) (frk G n).2.2)
  rw [← m2.put] at P2
  rw [← eb] at m2 P2
  have l1 := P1.len
  have l2 := P2.len
  simp only at l1 l2
  exact ⟨by omega, htop, hlo, hhi, m1.ok, m1.seen, by omega, by omega, m1.done, m2.done.trans m1.done⟩

end Fil.Bd
