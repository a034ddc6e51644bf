/- bdd: plain models: what the operations tell. No program in sight. -/
import Derived.Test.YtjichkelfhcbcaaBddModel
set_option linter.unusedSimpArgs false
set_option linter.unusedVariables false
namespace Fil.Bd
def get3 : List (T3 × Int) → T3 → Option Int
  | [], _ => none
  | p :: r, k => if p.1 = k then some p.2 else get3 r k
def set3 : List (T3 × Int) → T3 → Int → List (T3 × Int)
  | [], k, v => [(k, v)]
  | p :: r, k, v => if p.1 = k then (k, v) :: r else p :: set3 r k v
theorem get_set : ∀ (l : List (T3 × Int)) (k : T3) (v : Int) (k' : T3), get3 (set3 l k v) k' = if k = k' then some v else get3 l k'
  | [], k, v, k' => by simp [set3, get3]
  | p :: r, k, v, k' => by
    simp only [set3]
    split
    · rename_i e
      subst e
      simp only [get3]
      split <;> rfl
    · rename_i e
      simp only [get3, get_set r]
      split
      · rename_i e2
        rw [if_neg (fun e3 => e (e2.trans e3.symm))]
      · rfl
def get1 : List (Int × Int) → Int → Option Int
  | [], _ => none
  | p :: r, k => if p.1 = k then some p.2 else get1 r k
def set1 : List (Int × Int) → Int → Int → List (Int × Int)
  | [], k, v => [(k, v)]
  | p :: r, k, v => if p.1 = k then (k, v) :: r else p :: set1 r k v
structure Mac where
  forks : List T3
  at_ : List (T3 × Int)
  done : List (T3 × Int)
def forkM (s : Mac) (v lo hi : Int) : Mac × Int :=
  if lo = hi then (s, lo) else
    match get3 s.at_ (v, lo, hi) with
    | some n => (s, n)
    | none => ({ s with forks := s.forks ++ [(v, lo, hi)], at_ := set3 s.at_ (v, lo, hi) s.forks.length }, s.forks.length)
def halfM (vars : Int) (F : List T3) (n v : Int) (way : Bool) : Int :=
  if top vars F n ≠ v then n else if way then (frk F n).2.2 else (frk F n).2.1
def tops (vars : Int) (F : List T3) (f g h : Int) : Int := min (top vars F f) (min (top vars F g) (top vars F h))
def setD (s : Mac) (k : T3) (n : Int) : Mac := { s with done := set3 s.done k n }
def iteM (vars : Int) : Nat → Mac → Int → Int → Int → Mac × Int
  | 0, s, f, g, h => if f = 1 ∨ g = h then (s, g) else (s, h)
  | k + 1, s, f, g, h =>
    if f = 1 ∨ g = h then (s, g) else if f = 0 then (s, h) else if g = 1 ∧ h = 0 then (s, f) else
    match get3 s.done (f, g, h) with
    | some n => (s, n)
    | none =>
      let v := tops vars s.forks f g h
      let a := iteM vars k s (halfM vars s.forks f v false) (halfM vars s.forks g v false) (halfM vars s.forks h v false)
      let b := iteM vars k a.1 (halfM vars a.1.forks f v true) (halfM vars a.1.forks g v true) (halfM vars a.1.forks h v true)
      let r := forkM b.1 v a.2 b.2
      (setD r.1 (f, g, h) r.2, r.2)
def iteT : List Bool → List Bool → List Bool → List Bool
  | x :: a, y :: b, z :: c => (if x then y else z) :: iteT a b c
  | _, _, _ => []
theorem iteT_len : ∀ {a b c : List Bool} {n}, a.length = n → b.length = n → c.length = n → (iteT a b c).length = n
  | [], b, c, n, h, _, _ => by simpa [iteT] using h
  | x :: a, [], c, n, h, h', _ => by simp at h h'; omega
  | x :: a, y :: b, [], n, h, _, h' => by simp at h h'; omega
  | x :: a, y :: b, z :: c, n, h1, h2, h3 => by
    simp only [iteT, List.length_cons] at *
    rw [iteT_len (n := n - 1) (by omega) (by omega) (by omega)]; omega
theorem iteT_append : ∀ {a b c a' b' c' : List Bool}, a.length = b.length → a.length = c.length → iteT (a ++ a') (b ++ b') (c ++ c') = iteT a b c ++ iteT a' b' c'
  | [], b, c, a', b', c', h, h' => by
    have := List.length_eq_zero_iff.1 h.symm; have := List.length_eq_zero_iff.1 h'.symm
    subst_vars; rfl
  | x :: a, [], c, _, _, _, h, _ => by simp at h
  | x :: a, y :: b, [], _, _, _, _, h => by simp at h
  | x :: a, y :: b, z :: c, a', b', c', h, h' => by simp [iteT, iteT_append (a := a) (b := b) (c := c) (by simpa using h) (by simpa using h')]
theorem tab_one (F : List T3) : ∀ (k : Nat) (v : Int), tab F k v 1 = List.replicate (2 ^ k) true
  | 0, v => rfl
  | k + 1, v => by rw [tab_up (by omega), tab_one F k, List.replicate_append_replicate]; congr 1; omega
theorem tab_zero (F : List T3) : ∀ (k : Nat) (v : Int), tab F k v 0 = List.replicate (2 ^ k) false
  | 0, v => rfl
  | k + 1, v => by rw [tab_up (by omega), tab_zero F k, List.replicate_append_replicate]; congr 1; omega
theorem iteT_true : ∀ (n : Nat) (b c : List Bool), b.length = n → c.length = n → iteT (List.replicate n true) b c = b
  | 0, b, c, h, _ => by have := List.length_eq_zero_iff.1 h; subst this; rfl
  | n + 1, [], c, h, _ => by simp at h
  | n + 1, y :: b, [], _, h => by simp at h
  | n + 1, y :: b, z :: c, h, h' => by simp [List.replicate_succ, iteT, iteT_true n b c (by simpa using h) (by simpa using h')]
theorem iteT_false : ∀ (n : Nat) (b c : List Bool), b.length = n → c.length = n → iteT (List.replicate n false) b c = c
  | 0, b, c, _, h => by have := List.length_eq_zero_iff.1 h; subst this; rfl
  | n + 1, [], c, h, _ => by simp at h
  | n + 1, y :: b, [], _, h => by simp at h
  | n + 1, y :: b, z :: c, h, h' => by simp [List.replicate_succ, iteT, iteT_false n b c (by simpa using h) (by simpa using h')]
theorem iteT_self : ∀ (a b : List Bool), a.length = b.length → iteT a b b = b
  | [], [], _ => rfl
  | x :: a, [], h => by simp at h
  | [], y :: b, h => by simp at h
  | x :: a, y :: b, h => by simp [iteT, iteT_self a b (by simpa using h)]
theorem iteT_id : ∀ (n : Nat) (a : List Bool), a.length = n → iteT a (List.replicate n true) (List.replicate n false) = a
  | 0, a, h => by have := List.length_eq_zero_iff.1 h; subst this; rfl
  | n + 1, [], h => by simp at h
  | n + 1, x :: a, h => by cases x <;> simp [List.replicate_succ, iteT, iteT_id n a (by simpa using h)]
theorem top_In {vars F v n} (ho : Ok vars F) (h : In vars F v n) : top vars F n ≤ vars := by
  unfold top
  split
  · omega
  · have := (ho.var n (by omega) h.2.1).2; omega
theorem top_at {vars F v n} (hv : v < vars) (h : top vars F n = v) : 2 ≤ n ∧ (frk F n).1 = v := by
  unfold top at h
  split at h
  · omega
  · exact ⟨by omega, h⟩
theorem top_up {vars F v n} (h : top vars F n ≠ v) : ¬ (2 ≤ n ∧ (frk F n).1 = v) := fun c => h (by unfold top; rw [if_neg (by omega), c.2])
theorem half_lo {vars F v n} (hv : v < vars) (k : Nat) : tab F (k + 1) v n = tab F k (v + 1) (halfM vars F n v false) ++ tab F k (v + 1) (halfM vars F n v true) := by
  unfold halfM
  by_cases c : top vars F n = v
  · rw [tab_at (top_at hv c)]; simp [c]
  · rw [tab_up (top_up c)]; simp [c]
theorem half_In {vars F v n} (hv : v < vars) (ho : Ok vars F) {k : Nat} (hk : v + (k + 1 : Nat) = vars) (h : In vars F v n) (w : Bool) : In vars F (v + 1) (halfM vars F n v w) := by
  unfold halfM
  by_cases c : top vars F n = v
  · cases w
    · simpa [c] using h.lo ho (top_at hv c)
    · simpa [c] using h.hi ho (top_at hv c)
  · simpa [c] using h.up ho hk (top_up c)
theorem half_app {vars F l v n w} (h0 : 0 ≤ n) (h : n < F.length) : halfM vars (F ++ l) n v w = halfM vars F n v w := by
  unfold halfM; rw [top_app h, frk_app h0 h]
def exT : Nat → Nat → List Bool → List Bool
  | 0, _, t => t
  | k + 1, 0, t => iteT (t.take (2 ^ k)) (List.replicate (2 ^ k) true) (t.drop (2 ^ k)) ++ iteT (t.take (2 ^ k)) (List.replicate (2 ^ k) true) (t.drop (2 ^ k))
  | k + 1, d + 1, t => exT k d (t.take (2 ^ k)) ++ exT k d (t.drop (2 ^ k))
def DoneOk (vars : Int) (F : List T3) (key : T3) (n : Int) : Prop :=
  (0 ≤ key.2.2 → (0 ≤ key.1 ∧ key.1 < F.length) ∧ (0 ≤ key.2.1 ∧ key.2.1 < F.length) ∧ (0 ≤ key.2.2 ∧ key.2.2 < F.length) ∧
    ∀ k : Nat, tops vars F key.1 key.2.1 key.2.2 + k = vars → In vars F (tops vars F key.1 key.2.1 key.2.2) n ∧
      tab F k (tops vars F key.1 key.2.1 key.2.2) n = iteT (tab F k (tops vars F key.1 key.2.1 key.2.2) key.1) (tab F k (tops vars F key.1 key.2.1 key.2.2) key.2.1) (tab F k (tops vars F key.1 key.2.1 key.2.2) key.2.2)) ∧
  (key.2.2 < 0 → (0 ≤ key.1 ∧ key.1 < F.length) ∧ ∀ k : Nat, top vars F key.1 + k = vars → In vars F (top vars F key.1) n ∧ tab F k (top vars F key.1) n = exT k (key.2.1 - top vars F key.1).toNat (tab F k (top vars F key.1) key.1))
structure MOk (vars : Int) (s : Mac) : Prop where
  ok : Ok vars s.forks
  at1 : ∀ x n, get3 s.at_ x = some n → 2 ≤ n ∧ n < s.forks.length ∧ frk s.forks n = x
  at2 : ∀ n : Int, 2 ≤ n → n < s.forks.length → get3 s.at_ (frk s.forks n) = some n
def Kept (P : List T3 → T3 → Int → Prop) (s : Mac) : Prop := ∀ k n, get3 s.done k = some n → P s.forks k n
theorem DoneOk.app {vars F key n} (ho : Ok vars F) (l : List T3) (h : DoneOk vars F key n) : DoneOk vars (F ++ l) key n := by
  refine ⟨fun hk => ?_, fun hk => ?_⟩
  rotate_left
  · obtain ⟨h1, h2⟩ := h.2 hk
    rw [top_app h1.2]
    refine ⟨⟨h1.1, by simp; omega⟩, fun k hv => ?_⟩
    obtain ⟨q1, q2⟩ := h2 k hv
    exact ⟨q1.app l, by rw [tab_app ho _ _ _ _ q1.1 q1.2.1, tab_app ho _ _ _ _ h1.1 h1.2, q2]⟩
  obtain ⟨h1, h2, h3, h4⟩ := h.1 hk
  have et : tops vars (F ++ l) key.1 key.2.1 key.2.2 = tops vars F key.1 key.2.1 key.2.2 := by unfold tops; rw [top_app h1.2, top_app h2.2, top_app h3.2]
  rw [et]
  refine ⟨⟨h1.1, by simp; omega⟩, ⟨h2.1, by simp; omega⟩, ⟨h3.1, by simp; omega⟩, fun k hv => ?_⟩
  obtain ⟨q1, q2⟩ := h4 k hv
  exact ⟨q1.app l, by rw [tab_app ho _ _ _ _ q1.1 q1.2.1, tab_app ho _ _ _ _ h1.1 h1.2, tab_app ho _ _ _ _ h2.1 h2.2, tab_app ho _ _ _ _ h3.1 h3.2, q2]⟩
theorem at_find {vars s} (h : MOk vars s) (x : T3) : get3 s.at_ x = find s.forks x := by
  cases c : find s.forks x with
  | some n =>
    obtain ⟨a, b, e⟩ := find_some c
    rw [← e]; exact h.at2 n a b
  | none =>
    cases c' : get3 s.at_ x with
    | none => rfl
    | some n =>
      obtain ⟨a, b, e⟩ := h.at1 x n c'
      exact absurd e (find_none c n a b)
theorem fork_put {vars : Int} {s : Mac} (h : MOk vars s) {v lo hi : Int} {k : Nat} (hv0 : 0 ≤ v) (hv : v + (k + 1 : Nat) = vars) (h1 : In vars s.forks (v + 1) lo) (h2 : In vars s.forks (v + 1) hi) :
    MOk vars (forkM s v lo hi).1 ∧ (forkM s v lo hi).1.done = s.done ∧ ((forkM s v lo hi).1.forks, (forkM s v lo hi).2) = put (k + 1) s.forks v (tab s.forks k (v + 1) lo ++ tab s.forks k (v + 1) hi) := by
  have p1 := put_present h.ok k (v + 1) lo (by omega) h1
  have p2 := put_present h.ok k (v + 1) hi (by omega) h2
  unfold forkM
  by_cases c : lo = hi
  · subst c
    rw [if_pos rfl, put_same (tab_len ..), p1]
    exact ⟨h, rfl, rfl⟩
  · rw [if_neg c, at_find h]
    have hne : tab s.forks k (v + 1) lo ≠ tab s.forks k (v + 1) hi := fun e => c (canon h.ok k (v + 1) _ _ (by omega) h1 h2 e)
    rw [put_two (tab_len ..) hne, p1]
    simp only [p2]
    cases hf : find s.forks (v, lo, hi) with
    | some n => exact ⟨h, rfl, rfl⟩
    | none =>
      obtain ⟨o1, o2⟩ := h.ok.push hv0 (by omega) c h1 h2 hf
      refine ⟨⟨o1, fun x n hg => ?_, fun n a b => ?_⟩, rfl, rfl⟩
      · simp only [get_set] at hg
        split at hg
        · rename_i e
          simp at hg; subst hg; subst e
          have := h.ok.two
          exact ⟨by omega, by simp; omega, o2⟩
        · obtain ⟨a, b, e⟩ := h.at1 x n hg
          exact ⟨a, by simp; omega, by rw [frk_app (by omega) b]; exact e⟩
      · simp only [get_set]
        by_cases hn : n < s.forks.length
        · rw [frk_app (by omega) hn, if_neg (fun e => find_none hf n a hn e.symm)]
          exact h.at2 n a hn
        · have e : n = s.forks.length := by simp at b; omega
          subst e
          rw [o2, if_pos rfl]

/-! ### Ite -/
theorem put_comp {vars : Int} {F : List T3} {k : Nat} {v : Int} {s t : List Bool} (ho : Ok vars F) (hv0 : 0 ≤ v) (hv : v + (k + 1 : Nat) = vars) (hs : s.length = 2 ^ k) (ht : t.length = 2 ^ k)
    {a b : List T3 × Int} (ha : a = put k F (v + 1) s) (hb : b = put k a.1 (v + 1) t) : put (k + 1) F v (s ++ t) = put (k + 1) b.1 v (s ++ t) := by
  have P1 := put_ok k F (v + 1) s ho (by omega) (by omega) hs
  rw [← ha] at P1
  have P2 := put_ok k a.1 (v + 1) t P1.ok (by omega) (by omega) ht
  rw [← hb] at P2
  obtain ⟨lb, eb⟩ := P2.pre
  have ia : In vars b.1 (v + 1) a.2 := by rw [eb]; exact P1.inn.app lb
  have ta : tab b.1 k (v + 1) a.2 = s := by rw [eb, tab_app P1.ok _ _ _ _ P1.inn.1 P1.inn.2.1]; exact P1.tab
  have p1 := put_present P2.ok k (v + 1) a.2 (by omega) ia
  have p2 := put_present P2.ok k (v + 1) b.2 (by omega) P2.inn
  rw [ta] at p1
  rw [P2.tab] at p2
  by_cases c : s = t
  · subst c
    rw [put_same hs, put_same hs, p1, ← ha]
    have q := put_present P1.ok k (v + 1) a.2 (by omega) P1.inn
    rw [P1.tab, ← hb] at q
    rw [q]
  · rw [put_two hs c, put_two hs c, p1]
    simp only [p2, ← ha, ← hb]
theorem tops_le {vars F f g h v} (hf : In vars F v f) (hg : In vars F v g) (hh : In vars F v h) : v ≤ tops vars F f g h := by
  unfold tops; have := hf.2.2; have := hg.2.2; have := hh.2.2; omega
structure Made (vars : Int) (s : Mac) (k : Nat) (v : Int) (t : List Bool) (r : Mac × Int) : Prop where
  ok : MOk vars r.1
  kept : Kept (DoneOk vars) r.1
  put : (r.1.forks, r.2) = put k s.forks v t
theorem Made.same {vars s k v t n} (h : MOk vars s) (hk : Kept (DoneOk vars) s) (hv : v + (k : Nat) = vars) (hn : In vars s.forks v n) (ht : tab s.forks k v n = t) : Made vars s k v t (s, n) :=
  ⟨h, hk, by rw [← ht, put_present h.ok k v n hv hn]⟩
theorem kept_set {vars s key n} (hk : Kept (DoneOk vars) s) (h : DoneOk vars s.forks key n) : Kept (DoneOk vars) (setD s key n) := fun k m e => by
  simp only [setD, get_set] at e ⊢
  split at e
  · rename_i c
    simp at e; subst e; subst c; exact h
  · exact hk k m e
theorem kept_app {vars} {s s' : Mac} (h : Kept (DoneOk vars) s) (ho : Ok vars s.forks) (hd : s'.done = s.done) {l} (hf : s'.forks = s.forks ++ l) : Kept (DoneOk vars) s' := fun k m e => by
  rw [hf]; exact (h k m (hd ▸ e)).app ho l
theorem mok_set {vars s key n} (h : MOk vars s) : MOk vars (setD s key n) := ⟨h.ok, h.at1, h.at2⟩
theorem ite_up {vars F f g h v} {k : Nat} (hf : top vars F f ≠ v) (hg : top vars F g ≠ v) (hh : top vars F h ≠ v) :
    iteT (tab F (k + 1) v f) (tab F (k + 1) v g) (tab F (k + 1) v h) = iteT (tab F k (v + 1) f) (tab F k (v + 1) g) (tab F k (v + 1) h) ++ iteT (tab F k (v + 1) f) (tab F k (v + 1) g) (tab F k (v + 1) h) := by
  rw [tab_up (top_up hf), tab_up (top_up hg), tab_up (top_up hh), iteT_append (by simp [tab_len]) (by simp [tab_len])]
theorem ite_half {vars F f g h v} {k : Nat} (hv : v < vars) :
    iteT (tab F (k + 1) v f) (tab F (k + 1) v g) (tab F (k + 1) v h) =
      iteT (tab F k (v + 1) (halfM vars F f v false)) (tab F k (v + 1) (halfM vars F g v false)) (tab F k (v + 1) (halfM vars F h v false)) ++
      iteT (tab F k (v + 1) (halfM vars F f v true)) (tab F k (v + 1) (halfM vars F g v true)) (tab F k (v + 1) (halfM vars F h v true)) := by
  rw [half_lo hv k, half_lo hv k, half_lo hv k, iteT_append (by simp [tab_len]) (by simp [tab_len])]
theorem ite_stop {vars : Int} {n : Nat} {s : Mac} {f g h v : Int} {k : Nat} (hm : MOk vars s) (hk : Kept (DoneOk vars) s) (hv : v + (k : Nat) = vars) (hf : In vars s.forks v f) (hg : In vars s.forks v g) (hh : In vars s.forks v h)
    (c : f = 1 ∨ g = h ∨ f = 0 ∨ (g = 1 ∧ h = 0)) : Made vars s k v (iteT (tab s.forks k v f) (tab s.forks k v g) (tab s.forks k v h)) (iteM vars (n + 1) s f g h) := by
  simp only [iteM]
  by_cases c1 : f = 1 ∨ g = h
  · rw [if_pos c1]
    refine .same hm hk hv hg ?_
    rcases c1 with rfl | rfl
    · rw [tab_one, iteT_true _ _ _ (tab_len ..) (tab_len ..)]
    · rw [iteT_self _ _ (by simp [tab_len])]
  rw [if_neg c1]
  by_cases c2 : f = 0
  · rw [if_pos c2]
    refine .same hm hk hv hh ?_
    subst c2
    rw [tab_zero, iteT_false _ _ _ (tab_len ..) (tab_len ..)]
  rw [if_neg c2]
  have c3 : g = 1 ∧ h = 0 := by omega
  rw [if_pos c3]
  refine .same hm hk hv hf ?_
  obtain ⟨rfl, rfl⟩ := c3
  rw [tab_one, tab_zero, iteT_id _ _ (tab_len ..)]
theorem ite_put {vars : Int} : ∀ (k n : Nat) (s : Mac) (f g h v : Int), MOk vars s → Kept (DoneOk vars) s → 0 ≤ v → v + k = vars → k < n → In vars s.forks v f → In vars s.forks v g → In vars s.forks v h →
    Made vars s k v (iteT (tab s.forks k v f) (tab s.forks k v g) (tab s.forks k v h)) (iteM vars n s f g h)
  | 0, n, s, f, g, h, v, hm, hk, hv0, hv, hn, hf, hg, hh => by
    obtain ⟨n, rfl⟩ : ∃ m, n = m + 1 := ⟨n - 1, by omega⟩
    have e : v = vars := by omega
    have := (e ▸ hf : In vars s.forks vars f).end hm.ok
    exact ite_stop hm hk hv hf hg hh (by omega)
  | k + 1, n, s, f, g, h, v, hm, hk, hv0, hv, hn, hf, hg, hh => by
    by_cases c : top vars s.forks f ≠ v ∧ top vars s.forks g ≠ v ∧ top vars s.forks h ≠ v
    · have ih := ite_put k n s f g h (v + 1) hm hk (by omega) (by omega) (by omega) (hf.up hm.ok hv (top_up c.1)) (hg.up hm.ok hv (top_up c.2.1)) (hh.up hm.ok hv (top_up c.2.2))
      refine ⟨ih.ok, ih.kept, ?_⟩
      rw [ih.put, ite_up c.1 c.2.1 c.2.2, put_same (iteT_len (tab_len ..) (tab_len ..) (tab_len ..))]
    obtain ⟨n, rfl⟩ : ∃ m, n = m + 1 := ⟨n - 1, by omega⟩
    by_cases cs : f = 1 ∨ g = h ∨ f = 0 ∨ (g = 1 ∧ h = 0)
    · exact ite_stop hm hk hv hf hg hh cs
    have ht : tops vars s.forks f g h = v := by
      have h1 := hf.2.2; have h2 := hg.2.2; have h3 := hh.2.2
      unfold tops; omega
    have hvv : v < vars := by omega
    simp only [iteM]
    rw [if_neg (by omega), if_neg (by omega), if_neg (by omega)]
    cases hd : get3 s.done (f, g, h) with
    | some m =>
      obtain ⟨_, _, _, q⟩ := (hk _ _ hd).1 hh.1
      obtain ⟨q1, q2⟩ := q (k + 1) (by show tops vars s.forks f g h + _ = _; rw [ht]; exact hv)
      simp only [ht] at q1 q2
      exact .same hm hk hv q1 q2
    | none =>
      simp only [ht]
      have m1 := ite_put k n s _ _ _ (v + 1) hm hk (by omega) (by omega) (by omega) (half_In hvv hm.ok hv hf false) (half_In hvv hm.ok hv hg false) (half_In hvv hm.ok hv hh false)
      have P1 := put_ok k s.forks (v + 1) _ hm.ok (by omega) (by omega) (iteT_len (tab_len s.forks k (v + 1) (halfM vars s.forks f v false)) (tab_len s.forks k (v + 1) (halfM vars s.forks g v false)) (tab_len s.forks k (v + 1) (halfM vars s.forks h v false)))
      rw [← m1.put] at P1
      have e1 := m1.put
      generalize iteM vars n s (halfM vars s.forks f v false) (halfM vars s.forks g v false) (halfM vars s.forks h v false) = a at *
      obtain ⟨la, ea⟩ := P1.pre
      simp only at ea
      have hf1 : In vars a.1.forks v f := by rw [ea]; exact hf.app la
      have hg1 : In vars a.1.forks v g := by rw [ea]; exact hg.app la
      have hh1 : In vars a.1.forks v h := by rw [ea]; exact hh.app la
      have m2 := ite_put k n a.1 _ _ _ (v + 1) m1.ok m1.kept (by omega) (by omega) (by omega) (half_In hvv m1.ok.ok hv hf1 true) (half_In hvv m1.ok.ok hv hg1 true) (half_In hvv m1.ok.ok hv hh1 true)
      have P2 := put_ok k a.1.forks (v + 1) _ m1.ok.ok (by omega) (by omega) (iteT_len (tab_len a.1.forks k (v + 1) (halfM vars a.1.forks f v true)) (tab_len a.1.forks k (v + 1) (halfM vars a.1.forks g v true)) (tab_len a.1.forks k (v + 1) (halfM vars a.1.forks h v true)))
      rw [← m2.put] at P2
      have e2 := m2.put
      have hhalf : ∀ x, In vars s.forks v x → tab a.1.forks k (v + 1) (halfM vars a.1.forks x v true) = tab s.forks k (v + 1) (halfM vars s.forks x v true) := fun x hx => by
        have hi := half_In hvv hm.ok hv hx true
        rw [ea, half_app hx.1 hx.2.1, tab_app hm.ok _ _ _ _ hi.1 hi.2.1]
      rw [hhalf f hf, hhalf g hg, hhalf h hh] at P2 e2
      generalize iteM vars n a.1 (halfM vars a.1.forks f v true) (halfM vars a.1.forks g v true) (halfM vars a.1.forks h v true) = b at *
      obtain ⟨lb, eb⟩ := P2.pre
      simp only at eb
      have ia : In vars b.1.forks (v + 1) a.2 := by rw [eb]; exact P1.inn.app lb
      have ta := P1.tab
      rw [← tab_app m1.ok.ok lb _ _ _ P1.inn.1 P1.inn.2.1, ← eb] at ta
      simp only at ta
      obtain ⟨f1, f2, f3⟩ := fork_put (k := k) m2.ok hv0 hv ia P2.inn
      have tb := P2.tab
      simp only at tb
      have hc := put_comp (v := v) hm.ok hv0 hv (iteT_len (tab_len ..) (tab_len ..) (tab_len ..)) (iteT_len (tab_len ..) (tab_len ..) (tab_len ..)) e1 e2
      simp only at hc
      rw [ta, tb, ← hc, ← ite_half hvv] at f3
      have P3 := put_ok (k + 1) s.forks v _ hm.ok hv0 hv (iteT_len (tab_len s.forks (k + 1) v f) (tab_len s.forks (k + 1) v g) (tab_len s.forks (k + 1) v h))
      rw [← f3] at P3
      generalize forkM b.1 v a.2 b.2 = r at *
      obtain ⟨lr, er⟩ := P3.pre
      simp only at er
      have P4 := put_ok (k + 1) b.1.forks v (tab b.1.forks k (v + 1) a.2 ++ tab b.1.forks k (v + 1) b.2) m2.ok.ok hv0 hv (by simp [tab_len]; omega)
      rw [ta, tb, ← hc, ← ite_half hvv, ← f3] at P4
      obtain ⟨lq, eq⟩ := P4.pre
      refine ⟨mok_set f1, kept_set (kept_app m2.kept m2.ok.ok f2 eq) ?_, f3⟩
      refine ⟨fun _ => ?_, fun h' => by have := hh.1; simp only at h'; omega⟩
      have et : tops vars r.1.forks f g h = v := by rw [er]; unfold tops; rw [top_app hf.2.1, top_app hg.2.1, top_app hh.2.1]; exact ht
      have i1 := hf.app lr; have i2 := hg.app lr; have i3 := hh.app lr
      rw [← er] at i1 i2 i3
      refine ⟨⟨i1.1, i1.2.1⟩, ⟨i2.1, i2.2.1⟩, ⟨i3.1, i3.2.1⟩, fun k' hk' => ?_⟩
      simp only [et] at hk' ⊢
      have : k' = k + 1 := by omega
      subst this
      refine ⟨P3.inn, ?_⟩
      have := P3.tab
      simp only at this
      rw [this, er, tab_app hm.ok _ _ _ _ hf.1 hf.2.1, tab_app hm.ok _ _ _ _ hg.1 hg.2.1, tab_app hm.ok _ _ _ _ hh.1 hh.2.1]
end Fil.Bd

namespace Fil.Bd
def Seen (vars : Int) (from_ F : List T3) (seen : List (Int × Int)) : Prop := ∀ n a, get1 seen n = some a → (2 ≤ n ∧ n < from_.length) ∧ In vars F (top vars from_ n) a ∧ ∀ k : Nat, top vars from_ n + k = vars → tab F k (top vars from_ n) a = tab from_ k (top vars from_ n) n
theorem Seen.app {vars : Int} {G F : List T3} {seen} (h : Seen vars G F seen) (ho : Ok vars F) (l : List T3) : Seen vars G (F ++ l) seen := fun n a e => by
  obtain ⟨h1, h2, h3⟩ := h n a e
  exact ⟨h1, h2.app l, fun k hk => by rw [tab_app ho _ _ _ _ h2.1 h2.2.1, h3 k hk]⟩
end Fil.Bd

namespace Fil.Bd
open Abs Go
abbrev encF (f : T3) : AV := .agg [.int .i64 f.1, .int .i64 f.2.1, .int .i64 f.2.2]
abbrev encB (vars : Int) (F : List T3) : AV := .agg [.int .i64 vars, .slice (F.map encF) .no]
abbrev encM (l : List (T3 × Int)) : List (AV × AV) := l.map fun p => (encF p.1, .int .i64 p.2)
abbrev encS (l : List (Int × Int)) : List (AV × AV) := l.map fun p => (.int .i64 p.1, .int .i64 p.2)
abbrev machT (vars : Int) (F : List T3) (k : Tok) (a d : Nat) : AObj := .cells [.int .i64 vars, .slice (F.map encF) k, .map a, .map d]
theorem szs_fork (l : List T3) : szs 3 (l.map encF) = True := szs_map _ _ _ fun _ => rfl
theorem keyOk_f (x y z : Int) : keyOk (.row [0, 0, 0]) (.agg [.int .i64 x, .int .i64 y, .int .i64 z]) = true := rfl
theorem keyOk_i (x : Int) : keyOk (.one 0) (.int .i64 x) = true := rfl
theorem eqKey_f (x y z : Int) (p : T3) : eqKey (.row [0, 0, 0]) (.agg [.int .i64 x, .int .i64 y, .int .i64 z]) (encF p) = some (decide (p = (x, y, z))) := by
  obtain ⟨a, b, c⟩ := p
  simp only [eqKey, eqCells, eq1, if_true, Bool.and_true, Option.some.injEq, Prod.mk.injEq]
  rw [Bool.eq_iff_iff]
  simp only [Bool.and_eq_true, beq_iff_eq, decide_eq_true_eq]
  exact ⟨fun ⟨h1, h2, h3⟩ => ⟨h1.symm, h2.symm, h3.symm⟩, fun ⟨h1, h2, h3⟩ => ⟨h1.symm, h2.symm, h3.symm⟩⟩
theorem look_f (x y z : Int) : ∀ l : List (T3 × Int), lookK (.row [0, 0, 0]) (.agg [.int .i64 x, .int .i64 y, .int .i64 z]) (encM l) = some ((get3 l (x, y, z)).map (.int .i64))
  | [] => rfl
  | p :: r => by
    have ih := look_f x y z r
    simp only [encM, List.map_cons, lookK, eqKey_f, get3] at ih ⊢
    by_cases c : p.1 = (x, y, z)
    · simp [c]
    · simp [c, ih]
theorem set_f (x y z v : Int) : ∀ l : List (T3 × Int), setK (.row [0, 0, 0]) (.agg [.int .i64 x, .int .i64 y, .int .i64 z]) (.int .i64 v) (encM l) = some (encM (set3 l (x, y, z) v))
  | [] => rfl
  | p :: r => by
    have ih := set_f x y z v r
    simp only [encM, List.map_cons, setK, eqKey_f, set3] at ih ⊢
    by_cases c : p.1 = (x, y, z)
    · simp [c]
    · simp [c, ih]
theorem look_i (x : Int) : ∀ l : List (Int × Int), lookK (.one 0) (.int .i64 x) (encS l) = some ((get1 l x).map (.int .i64))
  | [] => rfl
  | p :: r => by
    have ih := look_i x r
    simp only [encS, List.map_cons, lookK, eqKey, eq1, if_true, get1] at ih ⊢
    by_cases c : p.1 = x
    · simp [c]
    · have : (x == p.1) = false := by simpa using fun e => c e.symm
      simp [c, this, ih]
theorem set_i (x v : Int) : ∀ l : List (Int × Int), setK (.one 0) (.int .i64 x) (.int .i64 v) (encS l) = some (encS (set1 l x v))
  | [] => rfl
  | p :: r => by
    have ih := set_i x v r
    simp only [encS, List.map_cons, setK, eqKey, eq1, if_true, set1] at ih ⊢
    by_cases c : p.1 = x
    · simp [c]
    · have : (x == p.1) = false := by simpa using fun e => c e.symm
      simp [c, this, ih]
theorem get_frk (F : List T3) (i : Int) (h : i.toNat < F.length) : F[i.toNat] = frk F i := by
  simp [frk, List.getD_eq_getElem?_getD, h]
theorem get_frk0 (F : List T3) (h : 0 < F.length) : F[0] = frk F 0 := get_frk F 0 h
theorem get_frk1 (F : List T3) (h : 1 < F.length) : F[1] = frk F 1 := get_frk F 1 h
theorem get_drop (F : List T3) (i : Nat) (h : i < (F.drop 2).length) : (F.drop 2)[i] = frk F ((i : Int) + 2) := by
  have h' : 2 + i < F.length := by simp at h; omega
  simp only [List.getElem_drop]
  have := get_frk F ((i : Int) + 2) (by omega)
  rw [← this]; congr 1; omega
attribute [go_sem] szs_fork keyOk_f keyOk_i look_f set_f look_i set_i get_frk get_frk0 get_frk1 get_drop
end Fil.Bd

namespace Fil.Bd
structure Parts (vars : Int) (n : Nat) (s : Mac) (f g h v0 : Int) (a b : Mac × Int) : Prop where
  lo : 0 ≤ v0
  hi : v0 < vars
  f0 : In vars s.forks (v0 + 1) (halfM vars s.forks f v0 false)
  g0 : In vars s.forks (v0 + 1) (halfM vars s.forks g v0 false)
  h0 : In vars s.forks (v0 + 1) (halfM vars s.forks h v0 false)
  am : MOk vars a.1
  ak : Kept (DoneOk vars) a.1
  al : a.1.forks.length + 2 ^ n ≤ s.forks.length + 2 ^ (n + 1)
  af : s.forks.length ≤ a.1.forks.length
  f1 : In vars a.1.forks (v0 + 1) (halfM vars a.1.forks f v0 true)
  g1 : In vars a.1.forks (v0 + 1) (halfM vars a.1.forks g v0 true)
  h1 : In vars a.1.forks (v0 + 1) (halfM vars a.1.forks h v0 true)
  bl : b.1.forks.length + 2 ≤ s.forks.length + 2 ^ (n + 1)
theorem ite_parts {vars : Int} {n : Nat} {s : Mac} {f g h v : Int} (hm : MOk vars s) (hk : Kept (DoneOk vars) s) (hv0 : 0 ≤ v) (hvn : vars < v + (n + 1 : Nat)) (hf : In vars s.forks v f) (hg : In vars s.forks v g) (hh : In vars s.forks v h) (hf2 : 2 ≤ f)
    {v0 : Int} (e0 : v0 = tops vars s.forks f g h) {a : Mac × Int} (ea : a = iteM vars n s (halfM vars s.forks f v0 false) (halfM vars s.forks g v0 false) (halfM vars s.forks h v0 false))
    {b : Mac × Int} (eb : b = iteM vars n a.1 (halfM vars a.1.forks f v0 true) (halfM vars a.1.forks g v0 true) (halfM vars a.1.forks h v0 true)) : Parts vars n s f g h v0 a b := by
  have hv : v ≤ v0 := by rw [e0]; exact tops_le hf hg hh
  have htop : v0 < vars := by
    have := hm.ok.var f hf2 hf.2.1
    rw [e0]; unfold tops top; rw [if_neg (by omega)]; omega
  have hf' : In vars s.forks v0 f := ⟨hf.1, hf.2.1, by rw [e0]; unfold tops; omega⟩
  have hg' : In vars s.forks v0 g := ⟨hg.1, hg.2.1, by rw [e0]; unfold tops; omega⟩
  have hh' : In vars s.forks v0 h := ⟨hh.1, hh.2.1, by rw [e0]; unfold tops; omega⟩
  clear e0
  obtain ⟨k, hk1⟩ : ∃ k : Nat, v0 + (k + 1 : Nat) = vars := ⟨(vars - v0).toNat - 1, by omega⟩
  have hkn : k + 1 ≤ n := by omega
  have hpow : 2 ^ (k + 1) ≤ 2 ^ n := Nat.pow_le_pow_right (by decide) hkn
  have hp2 : 2 ^ (n + 1) = 2 * 2 ^ n := by rw [Nat.pow_succ]; omega
  have hp1 : 2 ^ (k + 1) = 2 * 2 ^ k := by rw [Nat.pow_succ]; omega
  have m1 := ite_put k n s _ _ _ (v0 + 1) hm hk (by omega) (by omega) (by omega) (half_In htop hm.ok hk1 hf' false) (half_In htop hm.ok hk1 hg' false) (half_In htop hm.ok hk1 hh' false)
  have P1 := put_ok k s.forks (v0 + 1) _ hm.ok (by omega) (by omega) (iteT_len (tab_len s.forks k (v0 + 1) (halfM vars s.forks f v0 false)) (tab_len s.forks k (v0 + 1) (halfM vars s.forks g v0 false)) (tab_len s.forks k (v0 + 1) (halfM vars s.forks h v0 false)))
  rw [← m1.put] at P1
  rw [← ea] at m1 P1
  obtain ⟨la, eqa⟩ := P1.pre
  simp only at eqa
  have hf1 : In vars a.1.forks v0 f := by rw [eqa]; exact hf'.app la
  have hg1 : In vars a.1.forks v0 g := by rw [eqa]; exact hg'.app la
  have hh1 : In vars a.1.forks v0 h := by rw [eqa]; exact hh'.app la
  have m2 := ite_put k n a.1 _ _ _ (v0 + 1) m1.ok m1.kept (by omega) (by omega) (by omega) (half_In htop m1.ok.ok hk1 hf1 true) (half_In htop m1.ok.ok hk1 hg1 true) (half_In htop m1.ok.ok hk1 hh1 true)
  have P2 := put_ok k a.1.forks (v0 + 1) _ m1.ok.ok (by omega) (by omega) (iteT_len (tab_len a.1.forks k (v0 + 1) (halfM vars a.1.forks f v0 true)) (tab_len a.1.forks k (v0 + 1) (halfM vars a.1.forks g v0 true)) (tab_len a.1.forks k (v0 + 1) (halfM vars a.1.forks h v0 true)))
  rw [← m2.put] at P2
  rw [← eb] at m2 P2
  have l1 := P1.len
  have l2 := P2.len
  simp only at l1 l2
  exact ⟨by omega, htop, half_In htop hm.ok hk1 hf' false, half_In htop hm.ok hk1 hg' false, half_In htop hm.ok hk1 hh' false, m1.ok, m1.kept, by omega, by rw [eqa]; simp,
    half_In htop m1.ok.ok hk1 hf1 true, half_In htop m1.ok.ok hk1 hg1 true, half_In htop m1.ok.ok hk1 hh1 true, by omega⟩
end Fil.Bd

namespace Fil.Bd
def und (F : List T3) (n v i : Int) : Bool := decide (0 ≤ n ∧ n < i ∧ (n < 2 ∨ v < (frk F n).1))
def atL (F : List T3) : Nat → List (T3 × Int)
  | 0 => []
  | j + 1 => set3 (atL F j) (frk F (j + 2)) (j + 2)
theorem at_some (F : List T3) (x : T3) : ∀ j, (get3 (atL F j) x).isSome = true ↔ ∃ i, i < j ∧ frk F (i + 2) = x
  | 0 => by simp [atL, get3]
  | j + 1 => by
    rw [atL, get_set]
    split
    · rename_i e
      simp only [Option.isSome_some, true_iff]
      exact ⟨j, by omega, e⟩
    · rename_i e
      rw [at_some F x j]
      constructor
      · rintro ⟨i, h1, h2⟩; exact ⟨i, by omega, h2⟩
      · rintro ⟨i, h1, h2⟩
        have : i ≠ j := fun e' => e (by rw [← h2, e'])
        exact ⟨i, by omega, h2⟩
def bad (vars : Int) (F : List T3) (j : Nat) : Bool :=
  (get3 (atL F j) (frk F (j + 2))).isSome || decide ((frk F (j + 2)).1 < 0) || decide (vars ≤ (frk F (j + 2)).1) || decide ((frk F (j + 2)).2.1 = (frk F (j + 2)).2.2) ||
    !und F (frk F (j + 2)).2.1 (frk F (j + 2)).1 (j + 2) || !und F (frk F (j + 2)).2.2 (frk F (j + 2)).1 (j + 2)
def head (vars : Int) (F : List T3) : Bool := decide (vars < 0) || decide (32 < vars) || decide (F.length < 2) || decide (frk F 0 ≠ (-1, 0, 0)) || decide (frk F 1 ≠ (-1, 0, 0))
def chk (vars : Int) (F : List T3) : Int :=
  if 65536 < F.length then 220 else if head vars F = true then 1 else if (List.range (F.length - 2)).any (bad vars F) = true then 1 else 0
structure Fine (vars : Int) (F : List T3) : Prop extends Ok vars F where
  few : vars ≤ 32
  all : F.length ≤ 65536
  end0 : frk F 0 = (-1, 0, 0)
  end1 : frk F 1 = (-1, 0, 0)
theorem und_iff {F n v i} : und F n v i = true ↔ 0 ≤ n ∧ n < i ∧ (n < 2 ∨ v < (frk F n).1) := by simp [und]
theorem bad_iff {vars F j} : bad vars F j = false ↔ (∀ i, i < j → frk F (i + 2) ≠ frk F (j + 2)) ∧ 0 ≤ (frk F (j + 2)).1 ∧ (frk F (j + 2)).1 < vars ∧ (frk F (j + 2)).2.1 ≠ (frk F (j + 2)).2.2 ∧
    und F (frk F (j + 2)).2.1 (frk F (j + 2)).1 (j + 2) = true ∧ und F (frk F (j + 2)).2.2 (frk F (j + 2)).1 (j + 2) = true := by
  have h := at_some F (frk F (j + 2)) j
  have h' : (get3 (atL F j) (frk F (j + 2))).isSome = false ↔ ∀ i, i < j → frk F (i + 2) ≠ frk F (j + 2) := by
    rw [← Bool.not_eq_true, h]
    exact ⟨fun q i h1 h2 => q ⟨i, h1, h2⟩, fun q ⟨i, h1, h2⟩ => q i h1 h2⟩
  simp only [bad, Bool.or_eq_false_iff, h', Bool.not_eq_false', decide_eq_false_iff_not, Int.not_lt, Int.not_le, and_assoc]
theorem head_iff {vars F} : head vars F = false ↔ 0 ≤ vars ∧ vars ≤ 32 ∧ 2 ≤ F.length ∧ frk F 0 = (-1, 0, 0) ∧ frk F 1 = (-1, 0, 0) := by
  simp only [head, Bool.or_eq_false_iff, decide_eq_false_iff_not, Int.not_lt, Nat.not_lt, Decidable.not_not, and_assoc]
theorem chk_fine {vars F} : chk vars F = 0 ↔ Fine vars F := by
  have step : ∀ {j : Nat}, (frk F (j + 2)).1 < vars → ∀ n, (und F n (frk F (j + 2)).1 (j + 2) = true ↔ 0 ≤ n ∧ n < j + 2 ∧ (frk F (j + 2)).1 < top vars F n) := fun {j} hv n => by
    rw [und_iff]
    unfold top
    split <;> constructor <;> (intro ⟨a, b, c⟩; refine ⟨a, b, ?_⟩; omega)
  constructor
  · intro h
    unfold chk at h
    split at h
    · simp at h
    split at h
    · simp at h
    split at h
    · simp at h
    rename_i h1 h2 h3
    obtain ⟨k1, k2, k3, k4, k5⟩ := head_iff.1 (by simpa using h2)
    have hall : ∀ j : Nat, j + 2 < F.length → bad vars F j = false := fun j hj => by
      have := h3
      simp only [List.any_eq_true, List.mem_range, not_exists, not_and, Bool.not_eq_true] at this
      exact this j (by omega)
    have conv : ∀ i : Int, 2 ≤ i → i < F.length → ∃ j : Nat, i = j + 2 ∧ j + 2 < F.length := fun i a b => ⟨i.toNat - 2, by omega, by omega⟩
    refine ⟨⟨k3, k1, ?_, ?_, ?_, ?_, ?_⟩, k2, by omega, k4, k5⟩
    · intro i a b
      obtain ⟨j, rfl, hj⟩ := conv i a b
      have := bad_iff.1 (hall j hj)
      exact ⟨this.2.1, this.2.2.1⟩
    · intro i a b
      obtain ⟨j, rfl, hj⟩ := conv i a b
      exact (bad_iff.1 (hall j hj)).2.2.2.1
    · intro i a b
      obtain ⟨j, rfl, hj⟩ := conv i a b
      have := bad_iff.1 (hall j hj)
      exact (step this.2.2.1 _).1 this.2.2.2.2.1
    · intro i a b
      obtain ⟨j, rfl, hj⟩ := conv i a b
      have := bad_iff.1 (hall j hj)
      exact (step this.2.2.1 _).1 this.2.2.2.2.2
    · intro i i' a b a' b' e
      obtain ⟨j, rfl, hj⟩ := conv i a b
      obtain ⟨j', rfl, hj'⟩ := conv i' a' b'
      rcases Nat.lt_trichotomy j j' with h | h | h
      · exact absurd e ((bad_iff.1 (hall j' hj')).1 j h)
      · rw [h]
      · exact absurd e.symm ((bad_iff.1 (hall j hj)).1 j' h)
  · intro h
    have h2 := h.two
    unfold chk
    have hh : head vars F = false := head_iff.2 ⟨h.lo, h.few, h2, h.end0, h.end1⟩
    have ha : (List.range (F.length - 2)).any (bad vars F) = false := by
      rw [List.any_eq_false]
      intro j hj
      rw [Bool.not_eq_true]
      have hj' : j < F.length - 2 := List.mem_range.1 hj
      have v := h.var (j + 2) (by omega) (by omega)
      refine bad_iff.2 ⟨fun i hi e => ?_, v.1, v.2, h.ne (j + 2) (by omega) (by omega), (step v.2 _).2 (h.low (j + 2) (by omega) (by omega)), (step v.2 _).2 (h.high (j + 2) (by omega) (by omega))⟩
      have := h.uniq (i + 2) (j + 2) (by omega) (by omega) (by omega) (by omega) e
      omega
    rw [if_neg (by have := h.all; omega), if_neg (by simp [hh]), if_neg (by simp [ha])]
def mac (F : List T3) : Mac := ⟨F, atL F (F.length - 2), []⟩
theorem mac_ok {vars F} (h : Ok vars F) : MOk vars (mac F) := by
  have key : ∀ j : Nat, j + 2 ≤ F.length → (∀ x n, get3 (atL F j) x = some n → 2 ≤ n ∧ n < j + 2 ∧ frk F n = x) ∧ (∀ n : Int, 2 ≤ n → n < j + 2 → get3 (atL F j) (frk F n) = some n) := by
    intro j
    induction j with
    | zero => intro hj; exact ⟨fun x n e => by simp [atL, get3] at e, fun n a b => by omega⟩
    | succ j ih =>
      intro hj
      obtain ⟨q1, q2⟩ := ih (by omega)
      refine ⟨fun x n e => ?_, fun n a b => ?_⟩
      · rw [atL, get_set] at e
        split at e
        · rename_i e'
          simp at e; subst e; exact ⟨by omega, by omega, e'⟩
        · obtain ⟨a, b, c⟩ := q1 x n e
          exact ⟨a, by omega, c⟩
      · rw [atL, get_set]
        by_cases c : n = j + 2
        · subst c; rw [if_pos rfl]
        · rw [if_neg (fun e => c (h.uniq n (j + 2) a (by omega) (by omega) (by omega) e.symm)), q2 n a (by omega)]
  have h2 := h.two
  obtain ⟨q1, q2⟩ := key (F.length - 2) (by omega)
  exact ⟨h, fun x n e => by obtain ⟨a, b, c⟩ := q1 x n e; exact ⟨a, by show n < F.length; omega, c⟩, fun n a b => q2 n a (by have : n < F.length := b; omega)⟩
theorem mac_kept {vars F} : Kept (DoneOk vars) (mac F) := fun k n e => by simp [mac, get3] at e
end Fil.Bd

namespace Go.Proofs.Ytjichkelfhcbcaa.B
open Abs Fil Fil.Bd
theorem bdd_top (m a d : Nat) (k : Tok) (vars : Int) (F : List T3) (n : Int) (σ : Sig) (h : σ m = some (machT vars F k a d)) (h0 : 0 ≤ n) (hn : n < F.length) :
    ACalls Try.prog 95 [.ptr m 0, .int .i64 n] σ (fun r σ' => r = .ret (.int .i64 (top vars F n)) ∧ σ' = σ) := by
  refine calls_x mixed Try.func95 b95 n95 rfl q95 (by simp) ?_; unfold c95 r95
  repeat' (first | simp (maxDischargeDepth := 9) -implicitDefEqProofs -dsimp only [go_sem, seval, *] | (with_reducible (first | apply Zc) <;> intro hq) | ((with_reducible refine Zu ?_ ?_); focus omega))
  · refine fin_eq ?_
    (repeat' (first | simp (maxDischargeDepth := 9) -implicitDefEqProofs -dsimp only [go_sem, seval, top, *])) <;> (repeat' refine And.intro ?_ ?_) <;> (first | omega | rfl | assumption | skip)
  · refine fin_eq ?_
    have : ¬ n < 2 := by omega
    (repeat' (first | simp (maxDischargeDepth := 9) -implicitDefEqProofs -dsimp only [go_sem, seval, top, this, *])) <;> (repeat' refine And.intro ?_ ?_) <;> (first | omega | rfl | assumption | skip)
theorem bdd_under (m a d : Nat) (k : Tok) (vars : Int) (F : List T3) (n v i : Int) (σ : Sig) (h : σ m = some (machT vars F k a d)) (hi : i < F.length) :
    ACalls Try.prog 112 [.ptr m 0, .int .i64 n, .int .i64 v, .int .i64 i] σ (fun r σ' => r = .ret (.bool (und F n v i)) ∧ σ' = σ) := by
  refine calls_x mixed Try.func112 b112 n112 rfl q112 (by simp) ?_; unfold c112 r112
  repeat' (first | simp (maxDischargeDepth := 9) -implicitDefEqProofs -dsimp only [go_sem, seval, *] | (with_reducible (first | apply Za | apply Zb) <;> intro hq) | ((with_reducible refine Zu ?_ ?_); focus omega))
  all_goals refine fin_eq ?_
  all_goals (repeat' (first | simp (maxDischargeDepth := 9) -implicitDefEqProofs -dsimp only [go_sem, seval, und, *])) <;> (repeat' refine And.intro ?_ ?_) <;> (first | omega | rfl | assumption | skip)
theorem bdd_half (m a d : Nat) (k : Tok) (vars : Int) (F : List T3) (n v : Int) (w : Bool) (σ : Sig) (h : σ m = some (machT vars F k a d)) (h0 : 0 ≤ n) (hn : n < F.length) (hv : v < vars) :
    ACalls Try.prog 96 [.ptr m 0, .int .i64 n, .int .i64 v, .int .i64 (if w then 1 else 0)] σ (fun r σ' => r = .ret (.int .i64 (halfM vars F n v w)) ∧ σ' = σ) := by
  refine calls_x mixed Try.func96 b96 n96 rfl q96 (by simp) ?_; unfold c96 r96
  by_cases c : top vars F n = v
  · have h2 := top_at hv c
    have h3 := h2.1
    cases w
    · repeat' (first | simp (maxDischargeDepth := 9) -implicitDefEqProofs -dsimp only [go_sem, seval, *] | ((with_reducible refine Zu ?_ ?_); focus omega) | ((with_reducible apply ACalls.one1); (focus ((first | with_reducible refine bdd_top m a d k vars F n σ h h0 hn) <;> (first | (simp (maxDischargeDepth := 9) -implicitDefEqProofs -dsimp only [go_sem, seval, *]; done) | omega))); (focus (first | trivial | with_reducible exact rfl | (simp (maxDischargeDepth := 9) -implicitDefEqProofs -dsimp only [go_sem, seval]; done)))))
      refine fin_eq ?_
      (repeat' (first | simp (maxDischargeDepth := 9) -implicitDefEqProofs -dsimp only [go_sem, seval, halfM, *])) <;> (repeat' refine And.intro ?_ ?_) <;> (first | omega | rfl | assumption | skip)
    · repeat' (first | simp (maxDischargeDepth := 9) -implicitDefEqProofs -dsimp only [go_sem, seval, *] | ((with_reducible refine Zu ?_ ?_); focus omega) | ((with_reducible apply ACalls.one1); (focus ((first | with_reducible refine bdd_top m a d k vars F n σ h h0 hn) <;> (first | (simp (maxDischargeDepth := 9) -implicitDefEqProofs -dsimp only [go_sem, seval, *]; done) | omega))); (focus (first | trivial | with_reducible exact rfl | (simp (maxDischargeDepth := 9) -implicitDefEqProofs -dsimp only [go_sem, seval]; done)))))
      refine fin_eq ?_
      (repeat' (first | simp (maxDischargeDepth := 9) -implicitDefEqProofs -dsimp only [go_sem, seval, halfM, *])) <;> (repeat' refine And.intro ?_ ?_) <;> (first | omega | rfl | assumption | skip)
  · have c' : (top vars F n != v) = true := by simpa using c
    repeat' (first | simp (maxDischargeDepth := 9) -implicitDefEqProofs -dsimp only [go_sem, seval, *] | ((with_reducible refine Zu ?_ ?_); focus omega) | ((with_reducible apply ACalls.one1); (focus ((first | with_reducible refine bdd_top m a d k vars F n σ h h0 hn) <;> (first | (simp (maxDischargeDepth := 9) -implicitDefEqProofs -dsimp only [go_sem, seval, *]; done) | omega))); (focus (first | trivial | with_reducible exact rfl | (simp (maxDischargeDepth := 9) -implicitDefEqProofs -dsimp only [go_sem, seval]; done)))))
    refine fin_eq ?_
    (repeat' (first | simp (maxDischargeDepth := 9) -implicitDefEqProofs -dsimp only [go_sem, seval, halfM, *])) <;> (repeat' refine And.intro ?_ ?_) <;> (first | omega | rfl | assumption | skip)
end Go.Proofs.Ytjichkelfhcbcaa.B

namespace Go.Proofs.Ytjichkelfhcbcaa.B
open Abs Fil Fil.Bd
structure Apart (m t a d : Nat) : Prop where
  mt : ¬ m = t
  ma : ¬ m = a
  md : ¬ m = d
  ta : ¬ t = a
  td : ¬ t = d
  ad : ¬ a = d
  mt' : ¬ t = m
  ma' : ¬ a = m
  md' : ¬ d = m
  ta' : ¬ a = t
  td' : ¬ d = t
  ad' : ¬ d = a
theorem bdd_fork (m t a d : Nat) (vars : Int) (s : Mac) (v lo hi : Int) (σ : Sig) (hne : Apart m t a d) (h1 : σ m = some (machT vars s.forks (.own t) a d)) (h2 : σ t = some (.grow 3 s.forks.length)) (h3 : σ a = some (.map true (encM s.at_))) (hr : lo ≠ hi → get3 s.at_ (v, lo, hi) = none → s.forks.length < 65536) :
    ACalls Try.prog 69 [.ptr m 0, .int .i64 v, .int .i64 lo, .int .i64 hi] σ (fun r σ' => r = .ret (.int .i64 (forkM s v lo hi).2) ∧
      σ' = upd (upd (upd σ m (machT vars (forkM s v lo hi).1.forks (.own t) a d)) t (.grow 3 (forkM s v lo hi).1.forks.length)) a (.map true (encM (forkM s v lo hi).1.at_))) := by
  refine calls_x mixed Try.func69 b69 n69 rfl q69 (by simp) ?_; unfold c69 r69
  obtain ⟨e1, e2, e3, e4, e5, e6, f1, f2, f3, f4, f5, f6⟩ := hne
  by_cases c : lo = hi
  · subst c
    repeat' (first | simp (maxDischargeDepth := 9) -implicitDefEqProofs -dsimp only [go_sem, seval, *] | simp (disch := omega) only [wrap64] | (with_reducible (first | apply Zc) <;> intro hq) | ((with_reducible refine Zv ?_ ?_); focus (first | omega | exact rfl)) | ((with_reducible refine Zt (fun oF hoF hnF hnF' => ?_)); (try simp only [upd_none, ne_eq, not_and] at hoF)))
    refine fin_eq ?_
    (repeat' (first | simp (maxDischargeDepth := 9) -implicitDefEqProofs -dsimp only [go_sem, seval, forkM, *] | simp (disch := omega) only [wrap64])) <;> (repeat' refine And.intro ?_ ?_) <;> (first | omega | rfl | assumption | skip)
  · have cb : (lo == hi) = false := by simpa using c
    cases hg : get3 s.at_ (v, lo, hi) with
    | some n =>
      have hf : forkM s v lo hi = (s, n) := by simp only [forkM, if_neg c, hg]
      rw [hf]
      repeat' (first | simp (maxDischargeDepth := 9) -implicitDefEqProofs -dsimp only [go_sem, seval, Option.map_some, Option.getD_some, Option.isSome_some, *] | simp (disch := omega) only [wrap64] | (with_reducible (first | apply Zc) <;> intro hq) | ((with_reducible refine Zv ?_ ?_); focus (first | omega | exact rfl)) | ((with_reducible refine Zt (fun oF hoF hnF hnF' => ?_)); (try simp only [upd_none, ne_eq, not_and] at hoF)))
      refine fin_eq ?_
      (repeat' (first | simp (maxDischargeDepth := 9) -implicitDefEqProofs -dsimp only [go_sem, seval, *] | simp (disch := omega) only [wrap64])) <;> (repeat' refine And.intro ?_ ?_) <;> (first | omega | rfl | assumption | skip)
    | none =>
      have hf : forkM s v lo hi = ({ s with forks := s.forks ++ [(v, lo, hi)], at_ := set3 s.at_ (v, lo, hi) s.forks.length }, (s.forks.length : Int)) := by simp only [forkM, if_neg c, hg]
      rw [hf]
      have hr' := hr c hg
      repeat' (first | simp (maxDischargeDepth := 9) -implicitDefEqProofs -dsimp only [go_sem, seval, Option.map_none, Option.getD_none, Option.isSome_none, *] | simp (disch := omega) only [wrap64] | (with_reducible (first | apply Zc) <;> intro hq) | ((with_reducible refine Zv ?_ ?_); focus (first | omega | exact rfl)) | ((with_reducible refine Zt (fun oF hoF hnF hnF' => ?_)); (try simp only [upd_none, ne_eq, not_and] at hoF)))
      · exfalso; omega
      refine fin_eq ?_
      have en : (s.forks.length : Int) + 1 - 1 = s.forks.length := by omega
      (repeat' (first | simp (maxDischargeDepth := 9) -implicitDefEqProofs -dsimp only [go_sem, seval, en, implies_true, *] | simp (disch := omega) only [wrap64])) <;> (repeat' refine And.intro ?_ ?_) <;> (first | omega | rfl | assumption | skip)
theorem bdd_half0 (m a d : Nat) (k : Tok) (vars : Int) (F : List T3) (n v : Int) (σ : Sig) (h : σ m = some (machT vars F k a d)) (h0 : 0 ≤ n) (hn : n < F.length) (hv : v < vars) :
    ACalls Try.prog 96 [.ptr m 0, .int .i64 n, .int .i64 v, .int .i64 0] σ (fun r σ' => r = .ret (.int .i64 (halfM vars F n v false)) ∧ σ' = σ) := bdd_half m a d k vars F n v false σ h h0 hn hv
theorem bdd_half1 (m a d : Nat) (k : Tok) (vars : Int) (F : List T3) (n v : Int) (σ : Sig) (h : σ m = some (machT vars F k a d)) (h0 : 0 ≤ n) (hn : n < F.length) (hv : v < vars) :
    ACalls Try.prog 96 [.ptr m 0, .int .i64 n, .int .i64 v, .int .i64 1] σ (fun r σ' => r = .ret (.int .i64 (halfM vars F n v true)) ∧ σ' = σ) := bdd_half m a d k vars F n v true σ h h0 hn hv
theorem forkM_done (s : Mac) (v lo hi : Int) : (forkM s v lo hi).1.done = s.done := by
  unfold forkM
  split
  · rfl
  · split <;> rfl
theorem bdd_ite (m t a d : Nat) (hne : Apart m t a d) (vars : Int) : ∀ (n : Nat) (s : Mac) (f g h v : Int) (σ : Sig), σ m = some (machT vars s.forks (.own t) a d) → σ t = some (.grow 3 s.forks.length) → σ a = some (.map true (encM s.at_)) → σ d = some (.map true (encM s.done)) → MOk vars s → Kept (DoneOk vars) s → vars ≤ 32 → 0 ≤ v → vars < v + n → s.forks.length + 2 ^ n ≤ 65537 →
    In vars s.forks v f → In vars s.forks v g → In vars s.forks v h →
    ACalls Try.prog 73 [.ptr m 0, .int .i64 f, .int .i64 g, .int .i64 h] σ (fun r σ' => r = .ret (.int .i64 (iteM vars n s f g h).2) ∧
      σ' = upd (upd (upd (upd σ m (machT vars (iteM vars n s f g h).1.forks (.own t) a d)) t (.grow 3 (iteM vars n s f g h).1.forks.length)) a (.map true (encM (iteM vars n s f g h).1.at_))) d (.map true (encM (iteM vars n s f g h).1.done)))
  | 0, s, f, g, h, v, σ, h1, h2, h3, h4, hm, hk, hvars, hv0, hvn, hroom, hf, hg, hh => by
    exfalso
    have := top_In hm.ok hf
    have := hf.2.2
    omega
  | n + 1, s, f, g, h, v, σ, h1, h2, h3, h4, hm, hk, hvars, hv0, hvn, hroom, hf, hg, hh => by
    refine calls_x mixed Try.func73 b73 n73 rfl q73 (by simp) ?_; unfold c73 r73
    have hne' := hne
    obtain ⟨e1, e2, e3, e4, e5, e6, f1, f2, f3, f4, f5, f6⟩ := hne'
    by_cases c1 : f = 1 ∨ g = h
    · have hi : iteM vars (n + 1) s f g h = (s, g) := by simp only [iteM, if_pos c1]
      rw [hi]
      repeat' (first | simp (maxDischargeDepth := 9) -implicitDefEqProofs -dsimp only [go_sem, seval, *] | simp (disch := omega) only [wrap64] | (with_reducible (first | apply Zd | apply Ze | apply Zf | apply Zl | apply Zr) <;> intro hq) | ((with_reducible refine Zt (fun oF hoF hnF hnF' => ?_)); (try simp only [upd_none, ne_eq, not_and] at hoF)))
      all_goals first | (exfalso; omega) | (refine fin_eq ?_; (repeat' (first | simp (maxDischargeDepth := 9) -implicitDefEqProofs -dsimp only [go_sem, seval, *] | simp (disch := omega) only [wrap64])) <;> (repeat' refine And.intro ?_ ?_) <;> (first | omega | rfl | assumption | skip); done)
    by_cases c2 : f = 0
    · have hi : iteM vars (n + 1) s f g h = (s, h) := by simp only [iteM, if_neg c1, if_pos c2]
      rw [hi]
      repeat' (first | simp (maxDischargeDepth := 9) -implicitDefEqProofs -dsimp only [go_sem, seval, *] | simp (disch := omega) only [wrap64] | (with_reducible (first | apply Zd | apply Ze | apply Zf | apply Zl | apply Zr) <;> intro hq) | ((with_reducible refine Zt (fun oF hoF hnF hnF' => ?_)); (try simp only [upd_none, ne_eq, not_and] at hoF)))
      all_goals first | (exfalso; omega) | (refine fin_eq ?_; (repeat' (first | simp (maxDischargeDepth := 9) -implicitDefEqProofs -dsimp only [go_sem, seval, *] | simp (disch := omega) only [wrap64])) <;> (repeat' refine And.intro ?_ ?_) <;> (first | omega | rfl | assumption | skip); done)
    by_cases c3 : g = 1 ∧ h = 0
    · have hi : iteM vars (n + 1) s f g h = (s, f) := by simp only [iteM, if_neg c1, if_neg c2, if_pos c3]
      rw [hi]
      repeat' (first | simp (maxDischargeDepth := 9) -implicitDefEqProofs -dsimp only [go_sem, seval, *] | simp (disch := omega) only [wrap64] | (with_reducible (first | apply Zd | apply Ze | apply Zf | apply Zl | apply Zr) <;> intro hq) | ((with_reducible refine Zt (fun oF hoF hnF hnF' => ?_)); (try simp only [upd_none, ne_eq, not_and] at hoF)))
      all_goals first | (exfalso; omega) | (refine fin_eq ?_; (repeat' (first | simp (maxDischargeDepth := 9) -implicitDefEqProofs -dsimp only [go_sem, seval, *] | simp (disch := omega) only [wrap64])) <;> (repeat' refine And.intro ?_ ?_) <;> (first | omega | rfl | assumption | skip); done)
    have hf2 : 2 ≤ f := by have := hf.1; omega
    have hv : v ≤ tops vars s.forks f g h := tops_le hf hg hh
    have htop : tops vars s.forks f g h < vars := by
      have := hm.ok.var f hf2 hf.2.1
      unfold tops top; rw [if_neg (by omega)]; omega
    have hmin : min (min (top vars s.forks f) (top vars s.forks g)) (top vars s.forks h) = tops vars s.forks f g h := by unfold tops; omega
    have if1 : 0 ≤ f := hf.1
    have if2 : f < s.forks.length := hf.2.1
    have ig1 : 0 ≤ g := hg.1
    have ig2 : g < s.forks.length := hg.2.1
    have ih1 : 0 ≤ h := hh.1
    have ih2 : h < s.forks.length := hh.2.1
    have b1 : (f == 1) = false := by simpa using fun e => c1 (.inl e)
    have b2 : (g == h) = false := by simpa using fun e => c1 (.inr e)
    have b3 : (f == 0) = false := by simpa using c2
    have b4 : ((g == 1) = true ∧ (h == 0) = false) ∨ (g == 1) = false := by
      by_cases c : g = 1
      · exact .inl ⟨by simpa using c, by simpa using fun e => c3 ⟨c, e⟩⟩
      · exact .inr (by simpa using c)
    cases hd : get3 s.done (f, g, h) with
    | some x =>
      have hi : iteM vars (n + 1) s f g h = (s, x) := by simp only [iteM, if_neg c1, if_neg c2, if_neg c3, hd]
      rw [hi]
      clear c1 c2 c3 hi hmin htop hv hvn
      rcases b4 with ⟨b4, b5⟩ | b4
      all_goals
        repeat' (first | simp (maxDischargeDepth := 9) -implicitDefEqProofs -dsimp only [go_sem, seval, Option.map_some, Option.getD_some, Option.isSome_some, *] | simp (disch := omega) only [wrap64] | (with_reducible (first | apply Zd | apply Ze | apply Zf | apply Zl | apply Zr) <;> intro hq) | ((with_reducible refine Zt (fun oF hoF hnF hnF' => ?_)); (try simp only [upd_none, ne_eq, not_and] at hoF)))
        all_goals (refine fin_eq ?_; (repeat' (first | simp (maxDischargeDepth := 9) -implicitDefEqProofs -dsimp only [go_sem, seval, *] | simp (disch := omega) only [wrap64])) <;> (repeat' refine And.intro ?_ ?_) <;> (first | omega | rfl | assumption | skip); done)
    | none =>
      obtain ⟨v0, ev0⟩ : ∃ v0, v0 = tops vars s.forks f g h := ⟨_, rfl⟩
      obtain ⟨A, eA⟩ : ∃ A, iteM vars n s (halfM vars s.forks f v0 false) (halfM vars s.forks g v0 false) (halfM vars s.forks h v0 false) = A := ⟨_, rfl⟩
      obtain ⟨B, eB⟩ : ∃ B, iteM vars n A.1 (halfM vars A.1.forks f v0 true) (halfM vars A.1.forks g v0 true) (halfM vars A.1.forks h v0 true) = B := ⟨_, rfl⟩
      have hi : iteM vars (n + 1) s f g h = (setD (forkM B.1 v0 A.2 B.2).1 (f, g, h) (forkM B.1 v0 A.2 B.2).2, (forkM B.1 v0 A.2 B.2).2) := by
        simp only [iteM, if_neg c1, if_neg c2, if_neg c3, hd, ← ev0, eA, eB]
      obtain ⟨p1, p2, p3, p4, p5, p6, p7, p8, p9, p10, p11, p12, p13⟩ := ite_parts hm hk hv0 hvn hf hg hh hf2 ev0 eA.symm eB.symm
      rw [← ev0] at hmin hv htop
      have if3 : f < A.1.forks.length := by omega
      have ig3 : g < A.1.forks.length := by omega
      have ih3 : h < A.1.forks.length := by omega
      have hvn' : vars < v0 + 1 + n := by omega
      have hv1 : 0 ≤ v0 + 1 := by omega
      have hr1 : s.forks.length + 2 ^ n ≤ 65537 := by rw [Nat.pow_succ] at hroom; omega
      have hr2 : A.1.forks.length + 2 ^ n ≤ 65537 := by omega
      have hr3 : A.2 ≠ B.2 → get3 B.1.at_ (v0, A.2, B.2) = none → B.1.forks.length < 65536 := fun _ _ => by omega
      have ihr := bdd_ite m t a d hne vars n
      have hdn := forkM_done B.1 v0 A.2 B.2
      rw [hi]
      clear c1 c2 c3 hv hvn hroom ev0 p8 p9 p13 hi htop hf hg hh hv0
      rcases b4 with ⟨b4, b5⟩ | b4
      all_goals
        repeat' (first | simp (maxDischargeDepth := 9) -implicitDefEqProofs -dsimp only [go_sem, seval, Option.map_none, Option.getD_none, Option.isSome_none, *] | simp (disch := omega) only [wrap64] | (with_reducible (first | apply Zd | apply Ze | apply Zf | apply Zl | apply Zr) <;> intro hq) | ((with_reducible refine Zt (fun oF hoF hnF hnF' => ?_)); (try simp only [upd_none, ne_eq, not_and] at hoF)) | ((with_reducible apply ACalls.one1); (focus ((first | with_reducible refine bdd_top m a d (.own t) vars s.forks f _ ?_ if1 if2 | with_reducible refine bdd_top m a d (.own t) vars s.forks _ _ ?_ ig1 ig2 | with_reducible refine bdd_top m a d (.own t) vars s.forks h _ ?_ ih1 ih2) <;> (first | (simp (maxDischargeDepth := 9) -implicitDefEqProofs -dsimp only [go_sem, seval, *]; done) | omega))); (focus (first | trivial | with_reducible exact rfl | (simp (maxDischargeDepth := 9) -implicitDefEqProofs -dsimp only [go_sem, seval]; done)))))
        rename_i o9 ho9 hn9 hn9'
        refine loop_rule (fun x : Int × Int × Int × Mac => [(62, some (.int .i64 x.1)), (0, some (.ptr m 0)), (1, some (.int .i64 f)), (2, some (.int .i64 g)), (3, some (.int .i64 h)), (12, some (.int .i64 v0)), (13, some (.ptr oF 0)), (9, some (.ptr o9 0))])
          (fun x => upd (upd (upd (upd (upd (upd σ o9 (.cells [.int .i64 f, .int .i64 g, .int .i64 h])) oF (.cells [.int .i64 x.2.1, .int .i64 x.2.2.1])) m (machT vars x.2.2.2.forks (.own t) a d)) t (.grow 3 x.2.2.2.forks.length)) a (.map true (encM x.2.2.2.at_))) d (.map true (encM x.2.2.2.done)))
          (fun x => x = (0, 0, 0, s) ∨ x = (1, A.2, 0, A.1) ∨ x = (2, A.2, B.2, B.1)) (fun x => (2 - x.1).toNat) (0, 0, 0, s) ?_ ?_
        · (repeat' (first | simp (maxDischargeDepth := 9) -implicitDefEqProofs -dsimp only [go_sem, seval, *] | simp (disch := omega) only [wrap64])) <;> (repeat' refine And.intro ?_ ?_) <;> (first | omega | rfl | assumption | skip)
        · rintro x (rfl | rfl | rfl)
          · repeat' (first | simp (maxDischargeDepth := 9) -implicitDefEqProofs -dsimp only [go_sem, seval, *] | simp (disch := omega) only [wrap64] | (with_reducible (first | apply Zd | apply Ze | apply Zf | apply Zl | apply Zr) <;> intro hq) | ((with_reducible refine Zt (fun oF hoF hnF hnF' => ?_)); (try simp only [upd_none, ne_eq, not_and] at hoF)) | ((with_reducible apply ACalls.one1); (focus ((first | with_reducible refine bdd_half0 m a d (.own t) vars s.forks f v0 _ ?_ if1 if2 p2 | with_reducible refine bdd_half0 m a d (.own t) vars s.forks g v0 _ ?_ ig1 ig2 p2 | with_reducible refine bdd_half0 m a d (.own t) vars s.forks h v0 _ ?_ ih1 ih2 p2 | with_reducible refine ihr s _ _ _ (v0 + 1) _ ?_ ?_ ?_ ?_ hm hk hvars hv1 hvn' hr1 p3 p4 p5) <;> (first | (simp (maxDischargeDepth := 9) -implicitDefEqProofs -dsimp only [go_sem, seval, *]; done) | omega))); (focus (first | trivial | with_reducible exact rfl | (simp (maxDischargeDepth := 9) -implicitDefEqProofs -dsimp only [go_sem, seval]; done)))))
            refine loop_next _ _ _ _ ((1, A.2, 0, A.1)) ?_; (repeat' (first | simp (maxDischargeDepth := 9) -implicitDefEqProofs -dsimp only [go_sem, seval, *] | simp (disch := omega) only [wrap64])) <;> (repeat' refine And.intro ?_ ?_) <;> (first | omega | rfl | assumption | skip)
          · repeat' (first | simp (maxDischargeDepth := 9) -implicitDefEqProofs -dsimp only [go_sem, seval, *] | simp (disch := omega) only [wrap64] | (with_reducible (first | apply Zd | apply Ze | apply Zf | apply Zl | apply Zr) <;> intro hq) | ((with_reducible refine Zt (fun oF hoF hnF hnF' => ?_)); (try simp only [upd_none, ne_eq, not_and] at hoF)) | ((with_reducible apply ACalls.one1); (focus ((first | with_reducible refine bdd_half1 m a d (.own t) vars A.1.forks f v0 _ ?_ if1 if3 p2 | with_reducible refine bdd_half1 m a d (.own t) vars A.1.forks g v0 _ ?_ ig1 ig3 p2 | with_reducible refine bdd_half1 m a d (.own t) vars A.1.forks h v0 _ ?_ ih1 ih3 p2 | with_reducible refine ihr A.1 _ _ _ (v0 + 1) _ ?_ ?_ ?_ ?_ p6 p7 hvars hv1 hvn' hr2 p10 p11 p12) <;> (first | (simp (maxDischargeDepth := 9) -implicitDefEqProofs -dsimp only [go_sem, seval, *]; done) | omega))); (focus (first | trivial | with_reducible exact rfl | (simp (maxDischargeDepth := 9) -implicitDefEqProofs -dsimp only [go_sem, seval]; done)))))
            refine loop_next _ _ _ _ ((2, A.2, B.2, B.1)) ?_; (repeat' (first | simp (maxDischargeDepth := 9) -implicitDefEqProofs -dsimp only [go_sem, seval, *] | simp (disch := omega) only [wrap64])) <;> (repeat' refine And.intro ?_ ?_) <;> (first | omega | rfl | assumption | skip)
          · repeat' (first | simp (maxDischargeDepth := 9) -implicitDefEqProofs -dsimp only [go_sem, seval, *] | simp (disch := omega) only [wrap64] | (with_reducible (first | apply Zd | apply Ze | apply Zf | apply Zl | apply Zr) <;> intro hq) | ((with_reducible refine Zt (fun oF hoF hnF hnF' => ?_)); (try simp only [upd_none, ne_eq, not_and] at hoF)) | ((with_reducible apply ACalls.one1); (focus ((first | with_reducible refine bdd_fork m t a d vars B.1 v0 A.2 B.2 _ hne ?_ ?_ ?_ hr3) <;> (first | (simp (maxDischargeDepth := 9) -implicitDefEqProofs -dsimp only [go_sem, seval, *]; done) | omega))); (focus (first | trivial | with_reducible exact rfl | (simp (maxDischargeDepth := 9) -implicitDefEqProofs -dsimp only [go_sem, seval]; done)))))
            refine fin_eq ?_
            (repeat' (first | simp (maxDischargeDepth := 9) -implicitDefEqProofs -dsimp only [go_sem, seval, setD, hdn, *] | simp (disch := omega) only [wrap64])) <;> (repeat' refine And.intro ?_ ?_) <;> (first | omega | rfl | assumption | skip)
end Go.Proofs.Ytjichkelfhcbcaa.B

namespace Go.Proofs.Ytjichkelfhcbcaa.B
open Abs Fil Fil.Bd
theorem sl_clipFork (F : List T3) (σ : Sig) (h : 0 < F.length) (hl : F.length ≤ 1000000000000) :
    ACalls Try.prog 113 [.slice (F.map encF) .no] σ (NewO σ (fun o => .slice (F.map encF) (.own o)) (.grow 3 F.length)) := by
  refine calls_x mixed Try.func113 b113 n113 rfl q113 (by simp) ?_; unfold c113 r113
  repeat' (first | simp (maxDischargeDepth := 9) -implicitDefEqProofs -dsimp only [go_sem, seval, *] | ((with_reducible refine Zv ?_ ?_); focus (first | omega | exact rfl)) | ((with_reducible refine Zt (fun oF hoF hnF hnF' => ?_)); (try simp only [upd_none, ne_eq, not_and] at hoF)))
  exact fin_id ⟨oF, hoF, rfl, rfl⟩
theorem bdd_begin_big (vars : Int) (F : List T3) (σ : Sig) (h : 65536 < F.length) (hl : F.length ≤ 9223372036854775807) :
    ACalls Try.prog 89 [encB vars F] σ (fun r σ' => r = .ret (.tup [.nilp, .int .i64 220]) ∧ σ' = σ) := by
  refine calls_x mixed Try.func89 b89 n89 rfl q89 (by simp) ?_; unfold c89 r89
  repeat' (first | simp (maxDischargeDepth := 9) -implicitDefEqProofs -dsimp only [go_sem, seval, gt_iff_lt, *] | (with_reducible (first | apply Zb | apply Zc | apply Zp | apply Zr) <;> intro hq) | ((with_reducible refine Zv ?_ ?_); focus (first | omega | exact rfl)) | ((with_reducible refine Zu ?_ ?_); focus omega) | ((with_reducible refine Zt (fun oF hoF hnF hnF' => ?_)); (try simp only [upd_none, ne_eq, not_and] at hoF)))
  all_goals first | (exfalso; omega) | (refine fin_eq ?_; (repeat' (first | simp (maxDischargeDepth := 9) -implicitDefEqProofs -dsimp only [go_sem, seval, *])) <;> (repeat' refine And.intro ?_ ?_) <;> (first | omega | rfl | assumption | skip); done)
theorem bdd_begin_head (vars : Int) (F : List T3) (σ : Sig) (h : F.length ≤ 65536) (hh : head vars F = true) :
    ACalls Try.prog 89 [encB vars F] σ (fun r σ' => r = .ret (.tup [.nilp, .int .i64 1]) ∧ σ' = σ) := by
  refine calls_x mixed Try.func89 b89 n89 rfl q89 (by simp) ?_; unfold c89 r89
  simp only [head, Bool.or_eq_true, decide_eq_true_eq] at hh
  repeat' (first | simp (maxDischargeDepth := 9) -implicitDefEqProofs -dsimp only [go_sem, seval, gt_iff_lt, *] | (with_reducible (first | apply Zb | apply Zc | apply Zp | apply Zr) <;> intro hq) | ((with_reducible refine Zv ?_ ?_); focus (first | omega | exact rfl)) | ((with_reducible refine Zu ?_ ?_); focus omega) | ((with_reducible refine Zt (fun oF hoF hnF hnF' => ?_)); (try simp only [upd_none, ne_eq, not_and] at hoF)))
  all_goals first | (exfalso; omega) | (refine fin_eq ?_; (repeat' (first | simp (maxDischargeDepth := 9) -implicitDefEqProofs -dsimp only [go_sem, seval, *])) <;> (repeat' refine And.intro ?_ ?_) <;> (first | omega | rfl | assumption | skip); done) | skip
  exfalso
  rename_i q4
  simp only [Bool.and_eq_true, beq_iff_eq] at hq q4
  rcases hh with (((h1 | h1) | h1) | h1) | h1
  · exact absurd h1 (by omega)
  · exact absurd h1 (by omega)
  · exact absurd h1 (by omega)
  · exact h1 (Prod.ext q4.1 (Prod.ext q4.2.1 q4.2.2))
  · exact h1 (Prod.ext hq.1 (Prod.ext hq.2.1 hq.2.2))
theorem begin_facts {vars : Int} {F : List T3} (h : F.length ≤ 65536) (hh : head vars F = false) : 0 ≤ vars ∧ vars ≤ 32 ∧ 2 ≤ F.length ∧
    ((frk F 0).1 == -1 && ((frk F 0).2.1 == 0 && (frk F 0).2.2 == 0)) = true ∧ ((frk F 1).1 == -1 && ((frk F 1).2.1 == 0 && (frk F 1).2.2 == 0)) = true := by
  obtain ⟨a, b, c, d, e⟩ := head_iff.1 hh
  exact ⟨a, b, c, by rw [d]; rfl, by rw [e]; rfl⟩
theorem bdd_begin_ok (vars : Int) (F : List T3) (σ : Sig) (h : F.length ≤ 65536) (hh : head vars F = false) (hb : ∀ j, j < F.length - 2 → bad vars F j = false) :
    ACalls Try.prog 89 [encB vars F] σ (fun r σ' => ∃ m t a d, σ m = none ∧ σ t = none ∧ σ a = none ∧ σ d = none ∧ Apart m t a d ∧ r = .ret (.tup [.ptr m 0, .int .i64 0]) ∧
      σ' = upd (upd (upd (upd σ m (machT vars F (.own t) a d)) t (.grow 3 F.length)) a (.map true (encM (mac F).at_))) d (.map true [])) := by
  refine calls_x mixed Try.func89 b89 n89 rfl q89 (by simp) ?_; unfold c89 r89
  obtain ⟨k1, k2, k3, k4, k5⟩ := begin_facts h hh
  repeat' (first | simp (maxDischargeDepth := 9) -implicitDefEqProofs -dsimp only [go_sem, seval, gt_iff_lt, *] | simp (disch := omega) only [wrap64] | (with_reducible (first | apply Zb | apply Zc) <;> intro hq) | ((with_reducible refine Zv ?_ ?_); focus (first | omega | exact rfl)) | ((with_reducible refine Zu ?_ ?_); focus omega) | ((with_reducible refine Zt (fun oF hoF hnF hnF' => ?_)); (try simp only [upd_none, ne_eq, not_and] at hoF)))
  all_goals first | (exfalso; omega) | skip
  rename_i q0 oa hoa hna hna' od hnd hnd' hod om hnm hnm' hom q1 q2
  clear hna hna' hnd hnd' hnm hnm' hnF hnF' k4 k5 hh
  obtain ⟨x1, x2⟩ := hod
  obtain ⟨x3, x4, x5⟩ := hom
  obtain ⟨x6, x7, x8, x9⟩ := hoF
  have y1 : ¬ oa = od := fun e => x1 e.symm
  have y2 : ¬ od = om := fun e => x3 e.symm
  have y3 : ¬ oa = om := fun e => x4 e.symm
  refine loop_rule (fun i : Nat => [(54, some (.int .i64 i)), (53, some (.int .i64 ((F.length - 2 : Nat) : Int))), (52, some (.slice ((F.map encF).drop 2) .no)), (4, some (.ptr om 0)), (1, some (.cptr [.int .i64 vars, .slice (F.map encF) .no]))])
    (fun i => upd (upd (upd σ oa (.map true (encM (atL F i)))) od (.map true [])) om (machT vars F .no oa od)) (fun i => i ≤ F.length - 2) (fun i => F.length - 2 - i) 0 ?_ ?_
  · (repeat' (first | simp (maxDischargeDepth := 9) -implicitDefEqProofs -dsimp only [go_sem, seval, atL, List.length_drop, List.length_map, *] | simp (disch := omega) only [wrap64])) <;> (repeat' refine And.intro ?_ ?_) <;> (first | omega | rfl | assumption | skip)
  · intro i hi
    by_cases hlt : i < F.length - 2
    · have hbi := hb i hlt
      obtain ⟨r1, r2, r3, r4, r5, r6⟩ := bad_iff.1 hbi
      have g0 : get3 (atL F i) (frk F (i + 2)) = none := by
        cases c : get3 (atL F i) (frk F (i + 2)) with
        | none => rfl
        | some n =>
          obtain ⟨j, j1, j2⟩ := (at_some F (frk F (i + 2)) i).1 (by rw [c]; rfl)
          exact absurd j2 (r1 j j1)
      have r4' : ((frk F (i + 2)).2.1 == (frk F (i + 2)).2.2) = false := by simpa using r4
      have hi2 : (i : Int) + 2 < F.length := by omega
      have gi : (List.drop 2 (List.map encF F))[i]? = some (.agg [.int .i64 (frk F ((i : Int) + 2)).1, .int .i64 (frk F ((i : Int) + 2)).2.1, .int .i64 (frk F ((i : Int) + 2)).2.2]) := by
        rw [List.getElem?_drop, List.getElem?_map, List.getElem?_eq_getElem (by omega : 2 + i < F.length)]
        have := get_frk F ((i : Int) + 2) (by omega)
        have e : ((i : Int) + 2).toNat = 2 + i := by omega
        simp only [e] at this
        rw [this]; rfl
      clear r1 r4 hb hbi
      repeat' (first | simp (maxDischargeDepth := 9) -implicitDefEqProofs -dsimp only [go_sem, seval, gt_iff_lt, ge_iff_le, Option.map_none, Option.getD_none, Option.isSome_none, *] | simp (disch := omega) only [wrap64] | (with_reducible (first | apply Zb | apply Zc) <;> intro hq) | ((with_reducible refine Zv ?_ ?_); focus (first | omega | exact rfl)) | ((with_reducible refine Zu ?_ ?_); focus omega) | ((with_reducible refine Zt (fun oF hoF hnF hnF' => ?_)); (try simp only [upd_none, ne_eq, not_and] at hoF)) | ((with_reducible apply ACalls.one1); (focus ((first | with_reducible refine bdd_under om oa od .no vars F _ _ _ _ ?_ hi2) <;> (first | (simp (maxDischargeDepth := 9) -implicitDefEqProofs -dsimp only [go_sem, seval, *]; done) | omega))); (focus (first | trivial | with_reducible exact rfl | (simp (maxDischargeDepth := 9) -implicitDefEqProofs -dsimp only [go_sem, seval]; done)))))
      all_goals first | (exfalso; omega) | skip
      refine loop_next _ _ _ _ (i + 1) ?_; (repeat' (first | simp (maxDischargeDepth := 9) -implicitDefEqProofs -dsimp only [go_sem, seval,  atL, *] | simp (disch := omega) only [wrap64])) <;> (repeat' refine And.intro ?_ ?_) <;> (first | omega | rfl | assumption | skip)
    · have ei : i = F.length - 2 := by omega
      subst ei
      have hl0 : 0 < F.length := by omega
      have hl1 : F.length ≤ 1000000000000 := by omega
      repeat' (first | simp (maxDischargeDepth := 9) -implicitDefEqProofs -dsimp only [go_sem, seval, *] | simp (disch := omega) only [wrap64] | (with_reducible (first | apply Zb | apply Zc) <;> intro hq) | ((with_reducible refine Zv ?_ ?_); focus (first | omega | exact rfl)) | ((with_reducible refine Zu ?_ ?_); focus omega) | ((with_reducible refine Zt (fun oF hoF hnF hnF' => ?_)); (try simp only [upd_none, ne_eq, not_and] at hoF)) | ((with_reducible apply ACalls.newO); (focus ((first | with_reducible refine sl_clipFork F _ hl0 hl1) <;> (first | (simp (maxDischargeDepth := 9) -implicitDefEqProofs -dsimp only [go_sem, seval, *]; done) | omega))); (intro oF hoF hnF hnF'); (try simp only [upd_none, ne_eq, not_and] at hoF)))
      obtain ⟨z1, z2, z3, z4⟩ := hoF
      refine fin_v (.tup [.ptr om 0, .int .i64 0]) (upd (upd (upd (upd σ om (machT vars F (.own oF) oa od)) oF (.grow 3 F.length)) oa (.map true (encM (mac F).at_))) od (.map true []))
        ⟨om, oF, oa, od, x5, z4, hoa, x2, ⟨fun e => z1 e.symm, x4, x3, z3, z2, y1, z1, y3, y2, fun e => z3 e.symm, fun e => z2 e.symm, x1⟩, rfl, rfl⟩ ?_ ?_
      · (repeat' (first | simp (maxDischargeDepth := 9) -implicitDefEqProofs -dsimp only [go_sem, seval, *] | simp (disch := omega) only [wrap64])) <;> (repeat' refine And.intro ?_ ?_) <;> (first | omega | rfl | assumption | skip)
      · (repeat' (first | simp (maxDischargeDepth := 9) -implicitDefEqProofs -dsimp only [go_sem, seval, mac, *] | simp (disch := omega) only [wrap64])) <;> (repeat' refine And.intro ?_ ?_) <;> (first | omega | rfl | assumption | skip)
theorem bdd_begin_bad (vars : Int) (F : List T3) (σ : Sig) (h : F.length ≤ 65536) (hh : head vars F = false) (hb : ∃ j, j < F.length - 2 ∧ bad vars F j = true) :
    ACalls Try.prog 89 [encB vars F] σ (fun r σ' => r = .ret (.tup [.nilp, .int .i64 1]) ∧ σ' = σ) := by
  refine calls_x mixed Try.func89 b89 n89 rfl q89 (by simp) ?_; unfold c89 r89
  obtain ⟨k1, k2, k3, k4, k5⟩ := begin_facts h hh
  repeat' (first | simp (maxDischargeDepth := 9) -implicitDefEqProofs -dsimp only [go_sem, seval, gt_iff_lt, *] | simp (disch := omega) only [wrap64] | (with_reducible (first | apply Zb | apply Zc | apply Zk | apply Zp | apply Zr) <;> intro hq) | ((with_reducible refine Zv ?_ ?_); focus (first | omega | exact rfl)) | ((with_reducible refine Zu ?_ ?_); focus omega) | ((with_reducible refine Zt (fun oF hoF hnF hnF' => ?_)); (try simp only [upd_none, ne_eq, not_and] at hoF)))
  all_goals first | (refine fin_eq ?_; (repeat' (first | simp (maxDischargeDepth := 9) -implicitDefEqProofs -dsimp only [go_sem, seval, *] | simp (disch := omega) only [wrap64])) <;> (repeat' refine And.intro ?_ ?_) <;> (first | omega | rfl | assumption | skip); done) | (exfalso; omega) | skip
  rename_i q0 oa hoa hna hna' od hnd hnd' hod om hnm hnm' hom q1 q2
  clear hna hna' hnd hnd' hnm hnm' hnF hnF' k4 k5 hh
  obtain ⟨x1, x2⟩ := hod
  obtain ⟨x3, x4, x5⟩ := hom
  obtain ⟨x6, x7, x8, x9⟩ := hoF
  have y1 : ¬ oa = od := fun e => x1 e.symm
  have y2 : ¬ od = om := fun e => x3 e.symm
  have y3 : ¬ oa = om := fun e => x4 e.symm
  refine loop_rule (fun i : Nat => [(54, some (.int .i64 i)), (53, some (.int .i64 ((F.length - 2 : Nat) : Int))), (52, some (.slice ((F.map encF).drop 2) .no)), (4, some (.ptr om 0)), (1, some (.cptr [.int .i64 vars, .slice (F.map encF) .no]))])
    (fun i => upd (upd (upd σ oa (.map true (encM (atL F i)))) od (.map true [])) om (machT vars F .no oa od)) (fun i => i ≤ F.length - 2 ∧ ∀ j, j < i → bad vars F j = false) (fun i => F.length - 2 - i) 0 ?_ ?_
  · (repeat' (first | simp (maxDischargeDepth := 9) -implicitDefEqProofs -dsimp only [go_sem, seval, atL, List.length_drop, List.length_map, *] | simp (disch := omega) only [wrap64])) <;> (repeat' refine And.intro ?_ ?_) <;> (first | omega | rfl | assumption | skip)
  · rintro i ⟨hi, hall⟩
    by_cases hlt : i < F.length - 2
    · cases hbi : bad vars F i with
      | false =>
        obtain ⟨r1, r2, r3, r4, r5, r6⟩ := bad_iff.1 hbi
        have g0 : get3 (atL F i) (frk F (i + 2)) = none := by
          cases c : get3 (atL F i) (frk F (i + 2)) with
          | none => rfl
          | some n =>
            obtain ⟨j, j1, j2⟩ := (at_some F (frk F (i + 2)) i).1 (by rw [c]; rfl)
            exact absurd j2 (r1 j j1)
        have r4' : ((frk F (i + 2)).2.1 == (frk F (i + 2)).2.2) = false := by simpa using r4
        have hi2 : (i : Int) + 2 < F.length := by omega
        have gi : (List.drop 2 (List.map encF F))[i]? = some (.agg [.int .i64 (frk F ((i : Int) + 2)).1, .int .i64 (frk F ((i : Int) + 2)).2.1, .int .i64 (frk F ((i : Int) + 2)).2.2]) := by
          rw [List.getElem?_drop, List.getElem?_map, List.getElem?_eq_getElem (by omega : 2 + i < F.length)]
          have := get_frk F ((i : Int) + 2) (by omega)
          have e : ((i : Int) + 2).toNat = 2 + i := by omega
          simp only [e] at this
          rw [this]; rfl
        clear r1 r4 hb
        repeat' (first | simp (maxDischargeDepth := 9) -implicitDefEqProofs -dsimp only [go_sem, seval, gt_iff_lt, ge_iff_le, Option.map_none, Option.getD_none, Option.isSome_none, *] | simp (disch := omega) only [wrap64] | (with_reducible (first | apply Zb | apply Zc | apply Zk | apply Zp | apply Zr) <;> intro hq) | ((with_reducible refine Zv ?_ ?_); focus (first | omega | exact rfl)) | ((with_reducible refine Zu ?_ ?_); focus omega) | ((with_reducible refine Zt (fun oF hoF hnF hnF' => ?_)); (try simp only [upd_none, ne_eq, not_and] at hoF)) | ((with_reducible apply ACalls.one1); (focus ((first | with_reducible refine bdd_under om oa od .no vars F _ _ _ _ ?_ hi2) <;> (first | (simp (maxDischargeDepth := 9) -implicitDefEqProofs -dsimp only [go_sem, seval, *]; done) | omega))); (focus (first | trivial | with_reducible exact rfl | (simp (maxDischargeDepth := 9) -implicitDefEqProofs -dsimp only [go_sem, seval]; done)))))
        all_goals first | (exfalso; omega) | skip
        have hall' : ∀ j, j < i + 1 → bad vars F j = false := fun j hj => by
          rcases Nat.lt_or_ge j i with c | c
          · exact hall j c
          · have : j = i := by omega
            subst this; exact hbi
        clear hall
        refine loop_next _ _ _ _ (i + 1) ?_; (repeat' (first | simp (maxDischargeDepth := 9) -implicitDefEqProofs -dsimp only [go_sem, seval,  atL, *] | simp (disch := omega) only [wrap64])) <;> (repeat' refine And.intro ?_ ?_) <;> (first | omega | rfl | assumption | skip)
      | true =>
        have hi2 : (i : Int) + 2 < F.length := by omega
        have gi : (List.drop 2 (List.map encF F))[i]? = some (.agg [.int .i64 (frk F ((i : Int) + 2)).1, .int .i64 (frk F ((i : Int) + 2)).2.1, .int .i64 (frk F ((i : Int) + 2)).2.2]) := by
          rw [List.getElem?_drop, List.getElem?_map, List.getElem?_eq_getElem (by omega : 2 + i < F.length)]
          have := get_frk F ((i : Int) + 2) (by omega)
          have e : ((i : Int) + 2).toNat = 2 + i := by omega
          simp only [e] at this
          rw [this]; rfl
        clear hb hall
        cases g0 : get3 (atL F i) (frk F (i + 2)) with
        | some n =>
          clear hbi
          repeat' (first | simp (maxDischargeDepth := 9) -implicitDefEqProofs -dsimp only [go_sem, seval, gt_iff_lt, ge_iff_le, Option.map_some, Option.getD_some, Option.isSome_some, *] | simp (disch := omega) only [wrap64] | (with_reducible (first | apply Zb | apply Zc | apply Zk | apply Zp | apply Zr) <;> intro hq) | ((with_reducible refine Zv ?_ ?_); focus (first | omega | exact rfl)) | ((with_reducible refine Zu ?_ ?_); focus omega) | ((with_reducible refine Zt (fun oF hoF hnF hnF' => ?_)); (try simp only [upd_none, ne_eq, not_and] at hoF)) | ((with_reducible apply ACalls.one1); (focus ((first | with_reducible refine bdd_under om oa od .no vars F _ _ _ _ ?_ hi2) <;> (first | (simp (maxDischargeDepth := 9) -implicitDefEqProofs -dsimp only [go_sem, seval, *]; done) | omega))); (focus (first | trivial | with_reducible exact rfl | (simp (maxDischargeDepth := 9) -implicitDefEqProofs -dsimp only [go_sem, seval]; done)))))
          refine fin_eq ?_
          (repeat' (first | simp (maxDischargeDepth := 9) -implicitDefEqProofs -dsimp only [go_sem, seval, *] | simp (disch := omega) only [wrap64])) <;> (repeat' refine And.intro ?_ ?_) <;> (first | omega | rfl | assumption | skip)
        | none =>
          have hbj : (((decide ((frk F (i + 2)).1 < 0) = true ∨ decide (vars ≤ (frk F (i + 2)).1) = true) ∨ decide ((frk F (i + 2)).2.1 = (frk F (i + 2)).2.2) = true) ∨ und F (frk F (i + 2)).2.1 (frk F (i + 2)).1 (i + 2) = false) ∨ und F (frk F (i + 2)).2.2 (frk F (i + 2)).1 (i + 2) = false := by
            simpa [bad, g0] using hbi
          clear hbi
          simp only [decide_eq_true_eq] at hbj
          repeat' (first | simp (maxDischargeDepth := 9) -implicitDefEqProofs -dsimp only [go_sem, seval, gt_iff_lt, ge_iff_le, Option.map_none, Option.getD_none, Option.isSome_none, *] | simp (disch := omega) only [wrap64] | (with_reducible (first | apply Zb | apply Zc | apply Zk | apply Zp | apply Zr) <;> intro hq) | ((with_reducible refine Zv ?_ ?_); focus (first | omega | exact rfl)) | ((with_reducible refine Zu ?_ ?_); focus omega) | ((with_reducible refine Zt (fun oF hoF hnF hnF' => ?_)); (try simp only [upd_none, ne_eq, not_and] at hoF)) | ((with_reducible apply ACalls.one1); (focus ((first | with_reducible refine bdd_under om oa od .no vars F _ _ _ _ ?_ hi2) <;> (first | (simp (maxDischargeDepth := 9) -implicitDefEqProofs -dsimp only [go_sem, seval, *]; done) | omega))); (focus (first | trivial | with_reducible exact rfl | (simp (maxDischargeDepth := 9) -implicitDefEqProofs -dsimp only [go_sem, seval]; done)))))
          all_goals first | (refine fin_eq ?_; (repeat' (first | simp (maxDischargeDepth := 9) -implicitDefEqProofs -dsimp only [go_sem, seval, *] | simp (disch := omega) only [wrap64])) <;> (repeat' refine And.intro ?_ ?_) <;> (first | omega | rfl | assumption | skip); done) | skip
          exfalso
          rename_i w1 w2 w3 w4
          rcases hbj with (((c | c) | c) | c) | c
          · exact w1 c
          · exact w2 c
          · exact w3.1 c
          · rw [w4] at c; simp at c
          · rw [hq] at c; simp at c
    · obtain ⟨j, j1, j2⟩ := hb
      have := hall j (by omega)
      rw [this] at j2
      exact absurd j2 (by simp)
theorem bdd_begin_no (vars : Int) (F : List T3) (σ : Sig) (hl : F.length ≤ 9223372036854775807) (e : Int) (he : chk vars F = e) (h0 : e ≠ 0) :
    ACalls Try.prog 89 [encB vars F] σ (fun r σ' => r = .ret (.tup [.nilp, .int .i64 e]) ∧ σ' = σ) := by
  unfold chk at he
  split at he
  · rename_i h; subst he; exact bdd_begin_big vars F σ h hl
  rename_i h
  split at he
  · rename_i hh; subst he; exact bdd_begin_head vars F σ (by omega) hh
  rename_i hh
  split at he
  · rename_i hb
    subst he
    simp only [List.any_eq_true, List.mem_range] at hb
    exact bdd_begin_bad vars F σ (by omega) (by simpa using hh) hb
  · exact absurd he.symm h0
def NewMac (σ : Sig) (vars : Int) (F : List T3) : ARes → Sig → Prop := fun r σ' => ∃ m t a d, σ m = none ∧ σ t = none ∧ σ a = none ∧ σ d = none ∧ Apart m t a d ∧ r = .ret (.tup [.ptr m 0, .int .i64 0]) ∧
  σ' = upd (upd (upd (upd σ m (machT vars F (.own t) a d)) t (.grow 3 F.length)) a (.map true (encM (mac F).at_))) d (.map true [])
theorem bdd_begin_yes (vars : Int) (F : List T3) (σ : Sig) (h : Fine vars F) : ACalls Try.prog 89 [encB vars F] σ (NewMac σ vars F) := by
  have hc := chk_fine.2 h
  unfold chk at hc
  split at hc
  · simp at hc
  split at hc
  · simp at hc
  rename_i hh
  split at hc
  · simp at hc
  rename_i hb
  refine bdd_begin_ok vars F σ h.all (by simpa using hh) fun j hj => ?_
  simp only [List.any_eq_true, List.mem_range, not_exists, not_and, Bool.not_eq_true] at hb
  exact hb j hj
end Go.Proofs.Ytjichkelfhcbcaa.B

namespace Fil.Bd
def outside (F : List T3) (n : Int) : Bool := decide (n < 0) || decide ((F.length : Int) ≤ n)
abbrev D := Int × List T3
def T (b : D) (f : Int) : List Bool := tab b.2 b.1.toNat 0 f
def askE (b : D) (l : List Int) (no : Bool) : Int := if chk b.1 b.2 ≠ 0 then chk b.1 b.2 else if (l.any (outside b.2) || no) = true then 1 else 0
def opW (b : D) (e : Int) (t : List Bool) : D × Int × Int := if e ≠ 0 then ((0, []), 0, e) else ((b.1, (put b.1.toNat b.2 0 t).1), (put b.1.toNat b.2 0 t).2, 0)
def iteW (b : D) (f g h : Int) : D × Int × Int := opW b (askE b [f, g, h] false) (iteT (T b f) (T b g) (T b h))
def notW (b : D) (f : Int) : D × Int × Int := iteW b f 0 1
def off (b : D) (n : Int) : Bool := decide (n < 0) || decide (b.1 ≤ n)
def varT : Nat → Nat → List Bool
  | 0, _ => []
  | k + 1, 0 => List.replicate (2 ^ k) false ++ List.replicate (2 ^ k) true
  | k + 1, d + 1 => varT k d ++ varT k d
def varW (b : D) (n : Int) : D × Int × Int := opW b (askE b [] (off b n)) (varT b.1.toNat n.toNat)
theorem out_In {vars : Int} {F : List T3} {n : Int} (h : outside F n = false) (ho : Ok vars F) : In vars F 0 n := by
  simp only [outside, Bool.or_eq_false_iff, decide_eq_false_iff_not] at h
  refine ⟨by omega, by omega, ?_⟩
  unfold top
  split
  · exact ho.lo
  · exact (ho.var n (by omega) (by omega)).1
theorem ask_err {b l no e} (he : chk b.1 b.2 = e) (h0 : e ≠ 0) : askE b l no = e := by unfold askE; rw [he, if_pos h0]
theorem ask_arg {b l no} (hf : Fine b.1 b.2) (h : (l.any (outside b.2) || no) = true) : askE b l no = 1 := by unfold askE; rw [chk_fine.2 hf, if_neg (by simp), if_pos h]
theorem ask_ok {b l no} (hf : Fine b.1 b.2) (h : (l.any (outside b.2) || no) = false) : askE b l no = 0 := by unfold askE; rw [chk_fine.2 hf, if_neg (by simp), if_neg (by simp [h])]
theorem op_err {b e t} (h0 : e ≠ 0) : opW b e t = ((0, []), 0, e) := by unfold opW; rw [if_pos h0]
theorem ite_mac {b : D} {f g h : Int} (hf : Fine b.1 b.2) (i : In b.1 b.2 0 f) (j : In b.1 b.2 0 g) (k : In b.1 b.2 0 h) :
    iteW b f g h = ((b.1, (iteM b.1 (b.1.toNat + 1) (mac b.2) f g h).1.forks), (iteM b.1 (b.1.toNat + 1) (mac b.2) f g h).2, 0) := by
  have hlo := hf.lo
  have m := ite_put b.1.toNat (b.1.toNat + 1) (mac b.2) f g h 0 (mac_ok hf.toOk) mac_kept (by omega) (by omega) (by omega) i j k
  have q : ∀ n, In b.1 b.2 0 n → outside b.2 n = false := fun n i => by simp [outside, i.1, i.2.1]
  have hp := m.put
  have e0 : askE b [f, g, h] false = 0 := ask_ok hf (by simp [q f i, q g j, q h k])
  have e : iteW b f g h = ((b.1, (put b.1.toNat b.2 0 (iteT (T b f) (T b g) (T b h))).1), (put b.1.toNat b.2 0 (iteT (T b f) (T b g) (T b h))).2, 0) := by
    unfold iteW opW; rw [e0]; rfl
  rw [e]
  have hp' : put b.1.toNat b.2 0 (iteT (T b f) (T b g) (T b h)) = ((iteM b.1 (b.1.toNat + 1) (mac b.2) f g h).1.forks, (iteM b.1 (b.1.toNat + 1) (mac b.2) f g h).2) := hp.symm
  rw [hp']
theorem put_var {F : List T3} : ∀ (d k : Nat) (v : Int), put (d + (k + 1)) F v (varT (d + (k + 1)) d) = put (k + 1) F (v + d) (List.replicate (2 ^ k) false ++ List.replicate (2 ^ k) true)
  | 0, k, v => by simp [varT]
  | d + 1, k, v => by
    have hl : ∀ d k : Nat, (varT (d + (k + 1)) d).length = 2 ^ (d + (k + 1)) := by
      intro d
      induction d with
      | zero => intro k; rw [show 0 + (k + 1) = k + 1 by omega]; simp [varT]; omega
      | succ d ih => intro k; rw [show d + 1 + (k + 1) = (d + (k + 1)) + 1 by omega]; simp only [varT, List.length_append, ih]; omega
    rw [show d + 1 + (k + 1) = (d + (k + 1)) + 1 by omega]
    simp only [varT]
    rw [put_same (hl d k), put_var d k (v + 1)]
    congr 1; omega
theorem var_mac {b : D} {n : Int} (hf : Fine b.1 b.2) (h : off b n = false) :
    varW b n = ((b.1, (forkM (mac b.2) n 0 1).1.forks), (forkM (mac b.2) n 0 1).2, 0) := by
  have hlo := hf.lo
  have h' : 0 ≤ n ∧ n < b.1 := by simpa [off] using h
  have h2 := hf.two
  obtain ⟨k, hk⟩ : ∃ k : Nat, b.1.toNat = n.toNat + (k + 1) := ⟨b.1.toNat - n.toNat - 1, by omega⟩
  have i0 : In b.1 b.2 (n + 1) 0 := ⟨by omega, by omega, by simp [top]; omega⟩
  have i1 : In b.1 b.2 (n + 1) 1 := ⟨by omega, by omega, by simp [top]; omega⟩
  have hp := (fork_put (k := k) (mac_ok hf.toOk) h'.1 (by omega) i0 i1).2.2
  rw [tab_zero, tab_one] at hp
  have e : varW b n = ((b.1, (put b.1.toNat b.2 0 (varT b.1.toNat n.toNat)).1), (put b.1.toNat b.2 0 (varT b.1.toNat n.toNat)).2, 0) := by
    unfold varW opW; rw [ask_ok hf (by simp [h])]; rfl
  rw [e, hk, put_var n.toNat k 0, show (0 : Int) + n.toNat = n by omega]
  have hp' : put (k + 1) b.2 n (List.replicate (2 ^ k) false ++ List.replicate (2 ^ k) true) = ((forkM (mac b.2) n 0 1).1.forks, (forkM (mac b.2) n 0 1).2) := hp.symm
  rw [hp']
end Fil.Bd

