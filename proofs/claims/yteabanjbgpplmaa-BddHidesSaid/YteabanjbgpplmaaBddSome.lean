/- bdd: plain models: some, copied. No program in sight. -/
import Derived.Test.YteabanjbgpplmaaBddMac
set_option linter.unusedSimpArgs false
set_option linter.unusedVariables false
namespace Fil.Bd

def someM (vars : Int) : Nat → Mac → Int → Int → Mac × Int
  | 0, s, f, _ => (s, f)
  | k + 1, s, f, v =>
    if v < top vars s.forks f then (s, f)
    else if top vars s.forks f = v then iteM vars (k + 1) s (frk s.forks f).2.1 1 (frk s.forks f).2.2
    else match get3 s.done (f, v, -1) with
    | some n => (s, n)
    | none =>
      let a := someM vars k s (frk s.forks f).2.1 v
      let b := someM vars k a.1 (frk a.1.forks f).2.2 v
      let r := forkM b.1 (frk b.1.forks f).1 a.2 b.2
      (setD r.1 (f, v, -1) r.2, r.2)

theorem some_put {vars : Int} : ∀ (k n : Nat) (s : Mac) (f v u : Int), MOk vars s → Kept (DoneOk vars) s → 0 ≤ u → u + k = vars → k < n → v < vars → u ≤ v → In vars s.forks u f →
    Made vars s k u (exT k (v - u).toNat (tab s.forks k u f)) (someM vars n s f v)
  | 0, n, s, f, v, u, hm, hk, hu0, hu, hn, hv, huv, hf => by omega
  | k + 1, n, s, f, v, u, hm, hk, hu0, hu, hn, hv, huv, hf => by
    obtain ⟨n, rfl⟩ : ∃ m, n = m + 1 := ⟨n - 1, by omega⟩
    by_cases c : top vars s.forks f = u
    · have hat := top_at (by omega) c
      have hlo := hf.lo hm.ok hat
      have hhi := hf.hi hm.ok hat
      have hne : ¬ v < top vars s.forks f := by omega
      simp only [someM, if_neg hne]
      by_cases c2 : u = v
      · subst c2
        rw [if_pos c, tab_at hat, show (u - u).toNat = 0 by omega, exT_zero (tab_len ..)]
        have m1 := ite_put k (n + 1) s (frk s.forks f).2.1 1 (frk s.forks f).2.2 (u + 1) hm hk (by omega) (by omega) (by omega) hlo ⟨by omega, by have := hm.ok.two; omega, by simp [top]; omega⟩ hhi
        refine ⟨m1.ok, m1.kept, ?_⟩
        rw [m1.put, tab_one, put_same (iteT_len (tab_len ..) (by simp) (tab_len ..))]
      · rw [if_neg (by omega)]
        cases hd : get3 s.done (f, v, -1) with
        | some m =>
          obtain ⟨_, q⟩ := (hk _ _ hd).2 (by simp)
          obtain ⟨q1, q2⟩ := q (k + 1) (by show top vars s.forks f + _ = _; rw [c]; exact hu)
          simp only [c] at q1 q2
          exact .same hm hk hu q1 q2
        | none =>
          have hd1 : (v - u).toNat = (v - (u + 1)).toNat + 1 := by omega
          have m1 := some_put k n s (frk s.forks f).2.1 v (u + 1) hm hk (by omega) (by omega) (by omega) hv (by omega) hlo
          have L1 := exT_len k (v - (u + 1)).toNat _ (tab_len s.forks k (u + 1) (frk s.forks f).2.1)
          have L2 := exT_len k (v - (u + 1)).toNat _ (tab_len s.forks k (u + 1) (frk s.forks f).2.2)
          have P1 := put_ok k s.forks (u + 1) _ hm.ok (by omega) (by omega) L1
          rw [← m1.put] at P1
          have e1 := m1.put
          simp only []
          generalize someM vars n s (frk s.forks f).2.1 v = a at *
          obtain ⟨la, ea⟩ := P1.pre
          simp only at ea
          have efa : frk a.1.forks f = frk s.forks f := by rw [ea]; exact frk_app hf.1 hf.2.1
          have hhi1 : In vars a.1.forks (u + 1) (frk s.forks f).2.2 := by rw [ea]; exact hhi.app la
          have m2 := some_put k n a.1 (frk s.forks f).2.2 v (u + 1) m1.ok m1.kept (by omega) (by omega) (by omega) hv (by omega) hhi1
          have et : tab a.1.forks k (u + 1) (frk s.forks f).2.2 = tab s.forks k (u + 1) (frk s.forks f).2.2 := by rw [ea, tab_app hm.ok _ _ _ _ hhi.1 hhi.2.1]
          rw [efa]
          have e2 := m2.put
          rw [et] at e2
          have P2 := put_ok k a.1.forks (u + 1) _ m1.ok.ok (by omega) (by omega) L2
          rw [← e2] at P2
          generalize someM vars n a.1 (frk s.forks f).2.2 v = b at *
          obtain ⟨lb, eb⟩ := P2.pre
          simp only at eb
          have efb : frk b.1.forks f = frk s.forks f := by rw [eb, ea, List.append_assoc]; exact frk_app hf.1 hf.2.1
          rw [efb, hat.2]
          have ia : In vars b.1.forks (u + 1) a.2 := by rw [eb]; exact P1.inn.app lb
          have ta := P1.tab
          rw [← tab_app m1.ok.ok lb _ _ _ P1.inn.1 P1.inn.2.1, ← eb] at ta
          simp only at ta
          obtain ⟨f1, f2, f3⟩ := fork_put (k := k) m2.ok hu0 hu ia P2.inn
          have tb := P2.tab
          simp only at tb
          have hc := put_comp (v := u) hm.ok hu0 hu L1 L2 e1 e2
          simp only at hc
          have hx : exT (k + 1) (v - u).toNat (tab s.forks (k + 1) u f) = exT k (v - (u + 1)).toNat (tab s.forks k (u + 1) (frk s.forks f).2.1) ++ exT k (v - (u + 1)).toNat (tab s.forks k (u + 1) (frk s.forks f).2.2) := by
            rw [tab_at hat, hd1, exT_succ (tab_len ..)]
          have P4 := put_ok (k + 1) b.1.forks u (tab b.1.forks k (u + 1) a.2 ++ tab b.1.forks k (u + 1) b.2) m2.ok.ok hu0 hu (by simp [tab_len]; omega)
          rw [← f3] at P4
          rw [ta, tb, ← hc, ← hx] at f3
          have P3 := put_ok (k + 1) s.forks u _ hm.ok hu0 hu (exT_len (k + 1) (v - u).toNat _ (tab_len s.forks (k + 1) u f))
          rw [← f3] at P3
          generalize forkM b.1 u a.2 b.2 = r at *
          obtain ⟨lr, er⟩ := P3.pre
          simp only at er
          obtain ⟨lq, eq⟩ := P4.pre
          refine ⟨mok_set f1, kept_set (kept_app m2.kept m2.ok.ok f2 eq) ?_, f3⟩
          refine ⟨fun h' => absurd h' (by simp), fun _ => ?_⟩
          have et : top vars r.1.forks f = u := by rw [er, top_app hf.2.1]; exact c
          have i1 := hf.app lr
          rw [← er] at i1
          refine ⟨⟨i1.1, i1.2.1⟩, fun k' hk' => ?_⟩
          simp only [et] at hk' ⊢
          have : k' = k + 1 := by omega
          subst this
          refine ⟨P3.inn, ?_⟩
          have := P3.tab
          simp only at this
          rw [this, er, tab_app hm.ok _ _ _ _ hf.1 hf.2.1]
    · have hup := hf.up hm.ok hu (top_up c)
      by_cases c2 : v < top vars s.forks f
      · simp only [someM, if_pos c2]
        refine .same hm hk hu hf ?_
        -- the variable is ahead of the node's own
        have key : ∀ (k : Nat) (u : Int), u + k = vars → u ≤ v → v < top vars s.forks f → exT k (v - u).toNat (tab s.forks k u f) = tab s.forks k u f := by
          intro k
          induction k with
          | zero => intro u h1 h2 h3; rfl
          | succ k ih =>
            intro u h1 h2 h3
            have hne : top vars s.forks f ≠ u := by omega
            rw [tab_up (top_up hne)]
            by_cases c3 : u = v
            · subst c3
              rw [show (u - u).toNat = 0 by omega, exT_zero (tab_len ..)]
              have : iteT (tab s.forks k (u + 1) f) (List.replicate (2 ^ k) true) (tab s.forks k (u + 1) f) = tab s.forks k (u + 1) f := by
                have aux : ∀ (n : Nat) (l : List Bool), l.length = n → iteT l (List.replicate n true) l = l := by
                  intro n
                  induction n with
                  | zero => intro l h; have := List.length_eq_zero_iff.1 h; subst this; rfl
                  | succ n ih => intro l h; cases l with
                    | nil => simp at h
                    | cons x l => cases x <;> simp [List.replicate_succ, iteT, ih l (by simpa using h)]
                exact aux _ _ (tab_len ..)
              rw [this]
            · rw [show (v - u).toNat = (v - (u + 1)).toNat + 1 by omega, exT_succ (tab_len ..), ih (u + 1) (by omega) (by omega) h3]
        exact (key (k + 1) u hu huv c2).symm
      · have huv' : u ≠ v := fun e => by have := hf.2.2; omega
        have ih := some_put k (n + 1) s f v (u + 1) hm hk (by omega) (by omega) (by omega) hv (by omega) hup
        refine ⟨ih.ok, ih.kept, ?_⟩
        rw [ih.put, tab_up (top_up c), show (v - u).toNat = (v - (u + 1)).toNat + 1 by omega, exT_succ (tab_len ..), put_same (exT_len _ _ _ (tab_len ..))]

/-! ### Copied -/

def copiedM (from_ : List T3) : Nat → Mac → Int → List (Int × Int) → Mac × List (Int × Int) × Int
  | 0, s, n, seen => (s, seen, n)
  | k + 1, s, n, seen =>
    if n < 2 then (s, seen, n) else
    match get1 seen n with
    | some a => (s, seen, a)
    | none =>
      let a := copiedM from_ k s (frk from_ n).2.1 seen
      let b := copiedM from_ k a.1 (frk from_ n).2.2 a.2.1
      let r := forkM b.1 (frk from_ n).1 a.2.2 b.2.2
      (r.1, set1 b.2.1 n r.2, r.2)

/-- What was seen is there. -/
def Seen (vars : Int) (from_ F : List T3) (seen : List (Int × Int)) : Prop := ∀ n a, get1 seen n = some a → (2 ≤ n ∧ n < from_.length) ∧ In vars F (top vars from_ n) a ∧ ∀ k : Nat, top vars from_ n + k = vars → tab F k (top vars from_ n) a = tab from_ k (top vars from_ n) n

theorem Seen.app {vars : Int} {G F : List T3} {seen} (h : Seen vars G F seen) (ho : Ok vars F) (l : List T3) : Seen vars G (F ++ l) seen := fun n a e => by
  obtain ⟨h1, h2, h3⟩ := h n a e
  exact ⟨h1, h2.app l, fun k hk => by rw [tab_app ho _ _ _ _ h2.1 h2.2.1, h3 k hk]⟩

structure Copied (vars : Int) (G : List T3) (s : Mac) (k : Nat) (v n : Int) (r : Mac × List (Int × Int) × Int) : Prop where
  ok : MOk vars r.1
  done : r.1.done = s.done
  seen : Seen vars G r.1.forks r.2.1
  put : (r.1.forks, r.2.2) = put k s.forks v (tab G k v n)

theorem copied_put {vars : Int} {G : List T3} (hG : Ok vars G) : ∀ (k m : Nat) (s : Mac) (n v : Int) (seen : List (Int × Int)), MOk vars s → Seen vars G s.forks seen → 0 ≤ v → v + k = vars → k < m → In vars G v n →
    Copied vars G s k v n (copiedM G m s n seen)
  | k, 0, s, n, v, seen, hm, hs, hv0, hv, hkm, hn => by omega
  | k, m + 1, s, n, v, seen, hm, hs, hv0, hv, hkm, hn => by
    by_cases c0 : n < 2
    · simp only [copiedM, if_pos c0]
      refine ⟨hm, rfl, hs, ?_⟩
      have hin : In vars s.forks v n := ⟨hn.1, by have := hm.ok.two; omega, by have := hn.2.2; unfold top at this ⊢; rw [if_pos c0] at this ⊢; exact this⟩
      have : tab G k v n = tab s.forks k v n := by
        have : n = 0 ∨ n = 1 := by have := hn.1; omega
        rcases this with rfl | rfl
        · rw [tab_zero, tab_zero]
        · rw [tab_one, tab_one]
      rw [this, put_present hm.ok k v n hv hin]
    match k, hv, hkm with
    | 0, hv, hkm =>
      have e : v = vars := by omega
      have := (e ▸ hn : In vars G vars n).end hG
      omega
    | k + 1, hv, hkm =>
    by_cases c : top vars G n = v
    · have hat := top_at (by omega) c
      have hlo := hn.lo hG hat
      have hhi := hn.hi hG hat
      simp only [copiedM, if_neg c0]
      cases hg : get1 seen n with
      | some a =>
        obtain ⟨_, q1, q2⟩ := hs n a hg
        rw [c] at q1 q2
        exact ⟨hm, rfl, hs, by rw [← q2 (k + 1) hv, put_present hm.ok (k + 1) v a hv q1]⟩
      | none =>
        have m1 := copied_put hG k m s (frk G n).2.1 (v + 1) seen hm hs (by omega) (by omega) (by omega) hlo
        have P1 := put_ok k s.forks (v + 1) _ hm.ok (by omega) (by omega) (tab_len G k (v + 1) (frk G n).2.1)
        rw [← m1.put] at P1
        have e1 := m1.put
        simp only []
        generalize copiedM G m s (frk G n).2.1 seen = a at *
        obtain ⟨la, ea⟩ := P1.pre
        simp only at ea
        have m2 := copied_put hG k m a.1 (frk G n).2.2 (v + 1) a.2.1 m1.ok m1.seen (by omega) (by omega) (by omega) hhi
        have P2 := put_ok k a.1.forks (v + 1) _ m1.ok.ok (by omega) (by omega) (tab_len G k (v + 1) (frk G n).2.2)
        rw [← m2.put] at P2
        have e2 := m2.put
        generalize copiedM G m a.1 (frk G n).2.2 a.2.1 = b at *
        obtain ⟨lb, eb⟩ := P2.pre
        simp only at eb
        rw [hat.2]
        have ia : In vars b.1.forks (v + 1) a.2.2 := by rw [eb]; exact P1.inn.app lb
        have ta := P1.tab
        rw [← tab_app m1.ok.ok lb _ _ _ P1.inn.1 P1.inn.2.1, ← eb] at ta
        simp only at ta
        obtain ⟨f1, f2, f3⟩ := fork_put (k := k) m2.ok hv0 hv ia P2.inn
        have tb := P2.tab
        simp only at tb
        have hc := put_comp (v := v) hm.ok hv0 hv (tab_len ..) (tab_len ..) e1 e2
        simp only at hc
        have P4 := put_ok (k + 1) b.1.forks v (tab b.1.forks k (v + 1) a.2.2 ++ tab b.1.forks k (v + 1) b.2.2) m2.ok.ok hv0 hv (by simp [tab_len]; omega)
        rw [← f3] at P4
        rw [ta, tb, ← hc, ← tab_at hat] at f3
        have P3 := put_ok (k + 1) s.forks v _ hm.ok hv0 hv (tab_len G (k + 1) v n)
        rw [← f3] at P3
        generalize forkM b.1 v a.2.2 b.2.2 = r at *
        obtain ⟨lq, eq⟩ := P4.pre
        simp only at eq
        refine ⟨f1, by rw [f2, m2.done, m1.done], fun n' a' e => ?_, f3⟩
        simp only [get_set1] at e
        split at e
        · rename_i e'
          subst e'
          simp at e; subst e
          refine ⟨⟨by omega, hn.2.1⟩, by rw [c]; exact P3.inn, fun k' hk' => ?_⟩
          rw [c] at hk' ⊢
          have : k' = k + 1 := by omega
          subst this
          exact P3.tab
        · have := (m2.seen.app m2.ok.ok lq) n' a' e
          rw [← eq] at this
          exact this
    · have ih := copied_put hG k (m + 1) s n (v + 1) seen hm hs (by omega) (by omega) (by omega) (hn.up hG hv (top_up c))
      refine ⟨ih.ok, ih.done, ih.seen, ?_⟩
      rw [ih.put, tab_up (top_up c), put_same (tab_len ..)]
  termination_by k m => k + m

end Fil.Bd
