/- bdd: plain models: the machine (ite, some, copied) puts what tables put. No program in sight. -/
import Derived.Test.YteabanjbgpplmaaBddModel
set_option linter.unusedSimpArgs false
set_option linter.unusedVariables false
namespace Fil.Bd

def get3 : List (T3 × Int) → T3 → Option Int
  | [], _ => none
  | p :: r, k => if p.1 = k then some p.2 else get3 r k
def set3 : List (T3 × Int) → T3 → Int → List (T3 × Int)
  | [], k, v => [(k, v)]
  | p :: r, k, v => if p.1 = k then (k, v) :: r else p :: set3 r k v

theorem get_set : ∀ (l : List (T3 × Int)) (k : T3) (v : Int) (k' : T3), get3 (set3 l k v) k' = if k = k' then some v else get3 l k'
  | [], k, v, k' => by simp [set3, get3]
  | p :: r, k, v, k' => by
    simp only [set3]
    split
    · rename_i e
      subst e
      simp only [get3]
      split <;> rfl
    · rename_i e
      simp only [get3, get_set r]
      split
      · rename_i e2
        rw [if_neg (fun e3 => e (e2.trans e3.symm))]
      · rfl

def get1 : List (Int × Int) → Int → Option Int
  | [], _ => none
  | p :: r, k => if p.1 = k then some p.2 else get1 r k
def set1 : List (Int × Int) → Int → Int → List (Int × Int)
  | [], k, v => [(k, v)]
  | p :: r, k, v => if p.1 = k then (k, v) :: r else p :: set1 r k v

theorem get_set1 : ∀ (l : List (Int × Int)) (k : Int) (v : Int) (k' : Int), get1 (set1 l k v) k' = if k = k' then some v else get1 l k'
  | [], k, v, k' => by simp [set1, get1]
  | p :: r, k, v, k' => by
    simp only [set1]
    split
    · rename_i e
      subst e
      simp only [get1]
      split <;> rfl
    · rename_i e
      simp only [get1, get_set1 r]
      split
      · rename_i e2
        rw [if_neg (fun e3 => e (e2.trans e3.symm))]
      · rfl

structure Mac where
  forks : List T3
  at_ : List (T3 × Int)
  done : List (T3 × Int)

def forkM (s : Mac) (v lo hi : Int) : Mac × Int :=
  if lo = hi then (s, lo) else
    match get3 s.at_ (v, lo, hi) with
    | some n => (s, n)
    | none => ({ s with forks := s.forks ++ [(v, lo, hi)], at_ := set3 s.at_ (v, lo, hi) s.forks.length }, s.forks.length)

def halfM (vars : Int) (F : List T3) (n v : Int) (way : Bool) : Int :=
  if top vars F n ≠ v then n else if way then (frk F n).2.2 else (frk F n).2.1

def tops (vars : Int) (F : List T3) (f g h : Int) : Int := min (top vars F f) (min (top vars F g) (top vars F h))

def setD (s : Mac) (k : T3) (n : Int) : Mac := { s with done := set3 s.done k n }

def iteM (vars : Int) : Nat → Mac → Int → Int → Int → Mac × Int
  | 0, s, f, g, h => if f = 1 ∨ g = h then (s, g) else (s, h)
  | k + 1, s, f, g, h =>
    if f = 1 ∨ g = h then (s, g) else if f = 0 then (s, h) else if g = 1 ∧ h = 0 then (s, f) else
    match get3 s.done (f, g, h) with
    | some n => (s, n)
    | none =>
      let v := tops vars s.forks f g h
      let a := iteM vars k s (halfM vars s.forks f v false) (halfM vars s.forks g v false) (halfM vars s.forks h v false)
      let b := iteM vars k a.1 (halfM vars a.1.forks f v true) (halfM vars a.1.forks g v true) (halfM vars a.1.forks h v true)
      let r := forkM b.1 v a.2 b.2
      (setD r.1 (f, g, h) r.2, r.2)

/-- What one is where another one is true, or a third one. -/
def iteT : List Bool → List Bool → List Bool → List Bool
  | x :: a, y :: b, z :: c => (if x then y else z) :: iteT a b c
  | _, _, _ => []

theorem iteT_len : ∀ {a b c : List Bool} {n}, a.length = n → b.length = n → c.length = n → (iteT a b c).length = n
  | [], b, c, n, h, _, _ => by simpa [iteT] using h
  | x :: a, [], c, n, h, h', _ => by simp at h h'; omega
  | x :: a, y :: b, [], n, h, _, h' => by simp at h h'; omega
  | x :: a, y :: b, z :: c, n, h1, h2, h3 => by
    simp only [iteT, List.length_cons] at *
    rw [iteT_len (n := n - 1) (by omega) (by omega) (by omega)]; omega

theorem iteT_append : ∀ {a b c a' b' c' : List Bool}, a.length = b.length → a.length = c.length → iteT (a ++ a') (b ++ b') (c ++ c') = iteT a b c ++ iteT a' b' c'
  | [], b, c, a', b', c', h, h' => by
    have := List.length_eq_zero_iff.1 h.symm; have := List.length_eq_zero_iff.1 h'.symm
    subst_vars; rfl
  | x :: a, [], c, _, _, _, h, _ => by simp at h
  | x :: a, y :: b, [], _, _, _, _, h => by simp at h
  | x :: a, y :: b, z :: c, a', b', c', h, h' => by simp [iteT, iteT_append (a := a) (b := b) (c := c) (by simpa using h) (by simpa using h')]

theorem tab_one (F : List T3) : ∀ (k : Nat) (v : Int), tab F k v 1 = List.replicate (2 ^ k) true
  | 0, v => rfl
  | k + 1, v => by rw [tab_up (by omega), tab_one F k, List.replicate_append_replicate]; congr 1; omega
theorem tab_zero (F : List T3) : ∀ (k : Nat) (v : Int), tab F k v 0 = List.replicate (2 ^ k) false
  | 0, v => rfl
  | k + 1, v => by rw [tab_up (by omega), tab_zero F k, List.replicate_append_replicate]; congr 1; omega

theorem iteT_true : ∀ (n : Nat) (b c : List Bool), b.length = n → c.length = n → iteT (List.replicate n true) b c = b
  | 0, b, c, h, _ => by have := List.length_eq_zero_iff.1 h; subst this; rfl
  | n + 1, [], c, h, _ => by simp at h
  | n + 1, y :: b, [], _, h => by simp at h
  | n + 1, y :: b, z :: c, h, h' => by simp [List.replicate_succ, iteT, iteT_true n b c (by simpa using h) (by simpa using h')]
theorem iteT_false : ∀ (n : Nat) (b c : List Bool), b.length = n → c.length = n → iteT (List.replicate n false) b c = c
  | 0, b, c, _, h => by have := List.length_eq_zero_iff.1 h; subst this; rfl
  | n + 1, [], c, h, _ => by simp at h
  | n + 1, y :: b, [], _, h => by simp at h
  | n + 1, y :: b, z :: c, h, h' => by simp [List.replicate_succ, iteT, iteT_false n b c (by simpa using h) (by simpa using h')]
theorem iteT_self : ∀ (a b : List Bool), a.length = b.length → iteT a b b = b
  | [], [], _ => rfl
  | x :: a, [], h => by simp at h
  | [], y :: b, h => by simp at h
  | x :: a, y :: b, h => by simp [iteT, iteT_self a b (by simpa using h)]
theorem iteT_id : ∀ (n : Nat) (a : List Bool), a.length = n → iteT a (List.replicate n true) (List.replicate n false) = a
  | 0, a, h => by have := List.length_eq_zero_iff.1 h; subst this; rfl
  | n + 1, [], h => by simp at h
  | n + 1, x :: a, h => by cases x <;> simp [List.replicate_succ, iteT, iteT_id n a (by simpa using h)]

theorem top_In {vars F v n} (ho : Ok vars F) (h : In vars F v n) : top vars F n ≤ vars := by
  unfold top
  split
  · omega
  · have := (ho.var n (by omega) h.2.1).2; omega

theorem top_at {vars F v n} (hv : v < vars) (h : top vars F n = v) : 2 ≤ n ∧ (frk F n).1 = v := by
  unfold top at h
  split at h
  · omega
  · exact ⟨by omega, h⟩
theorem top_up {vars F v n} (h : top vars F n ≠ v) : ¬ (2 ≤ n ∧ (frk F n).1 = v) := fun c => h (by unfold top; rw [if_neg (by omega), c.2])

/-- A function with its tables, one behind the other from a place on. -/
theorem half_lo {vars F v n} (hv : v < vars) (k : Nat) : tab F (k + 1) v n = tab F k (v + 1) (halfM vars F n v false) ++ tab F k (v + 1) (halfM vars F n v true) := by
  unfold halfM
  by_cases c : top vars F n = v
  · rw [tab_at (top_at hv c)]; simp [c]
  · rw [tab_up (top_up c)]; simp [c]

theorem half_In {vars F v n} (hv : v < vars) (ho : Ok vars F) {k : Nat} (hk : v + (k + 1 : Nat) = vars) (h : In vars F v n) (w : Bool) : In vars F (v + 1) (halfM vars F n v w) := by
  unfold halfM
  by_cases c : top vars F n = v
  · cases w
    · simpa [c] using h.lo ho (top_at hv c)
    · simpa [c] using h.hi ho (top_at hv c)
  · simpa [c] using h.up ho hk (top_up c)

theorem half_app {vars F l v n w} (h0 : 0 ≤ n) (h : n < F.length) : halfM vars (F ++ l) n v w = halfM vars F n v w := by
  unfold halfM; rw [top_app h, frk_app h0 h]

/-- Whichever the variable is that is so far down. -/
def exT : Nat → Nat → List Bool → List Bool
  | 0, _, t => t
  | k + 1, 0, t => iteT (t.take (2 ^ k)) (List.replicate (2 ^ k) true) (t.drop (2 ^ k)) ++ iteT (t.take (2 ^ k)) (List.replicate (2 ^ k) true) (t.drop (2 ^ k))
  | k + 1, d + 1, t => exT k d (t.take (2 ^ k)) ++ exT k d (t.drop (2 ^ k))

theorem exT_len : ∀ (k d : Nat) (t : List Bool), t.length = 2 ^ k → (exT k d t).length = 2 ^ k
  | 0, d, t, h => h
  | k + 1, 0, t, h => by
    have := Nat.one_le_two_pow (n := k)
    simp only [exT, List.length_append]
    rw [iteT_len (n := 2 ^ k) (by simp; omega) (by simp) (by simp; omega)]; omega
  | k + 1, d + 1, t, h => by
    have := Nat.one_le_two_pow (n := k)
    simp only [exT, List.length_append]
    rw [exT_len k d _ (by simp; omega), exT_len k d _ (by simp; omega)]; omega

theorem exT_zero {k : Nat} {a b : List Bool} (h : a.length = 2 ^ k) : exT (k + 1) 0 (a ++ b) = iteT a (List.replicate (2 ^ k) true) b ++ iteT a (List.replicate (2 ^ k) true) b := by
  simp only [exT]; rw [List.take_left' h, List.drop_left' h]
theorem exT_succ {k d : Nat} {a b : List Bool} (h : a.length = 2 ^ k) : exT (k + 1) (d + 1) (a ++ b) = exT k d a ++ exT k d b := by
  simp only [exT]; rw [List.take_left' h, List.drop_left' h]

/-- What a machine has done. -/
def DoneOk (vars : Int) (F : List T3) (key : T3) (n : Int) : Prop :=
  (0 ≤ key.2.2 → (0 ≤ key.1 ∧ key.1 < F.length) ∧ (0 ≤ key.2.1 ∧ key.2.1 < F.length) ∧ (0 ≤ key.2.2 ∧ key.2.2 < F.length) ∧
    ∀ k : Nat, tops vars F key.1 key.2.1 key.2.2 + k = vars → In vars F (tops vars F key.1 key.2.1 key.2.2) n ∧
      tab F k (tops vars F key.1 key.2.1 key.2.2) n = iteT (tab F k (tops vars F key.1 key.2.1 key.2.2) key.1) (tab F k (tops vars F key.1 key.2.1 key.2.2) key.2.1) (tab F k (tops vars F key.1 key.2.1 key.2.2) key.2.2)) ∧
  (key.2.2 < 0 → (0 ≤ key.1 ∧ key.1 < F.length) ∧ ∀ k : Nat, top vars F key.1 + k = vars → In vars F (top vars F key.1) n ∧ tab F k (top vars F key.1) n = exT k (key.2.1 - top vars F key.1).toNat (tab F k (top vars F key.1) key.1))

structure MOk (vars : Int) (s : Mac) : Prop where
  ok : Ok vars s.forks
  at1 : ∀ x n, get3 s.at_ x = some n → 2 ≤ n ∧ n < s.forks.length ∧ frk s.forks n = x
  at2 : ∀ n : Int, 2 ≤ n → n < s.forks.length → get3 s.at_ (frk s.forks n) = some n

/-- What it has done is so. -/
def Kept (P : List T3 → T3 → Int → Prop) (s : Mac) : Prop := ∀ k n, get3 s.done k = some n → P s.forks k n

theorem DoneOk.app {vars F key n} (ho : Ok vars F) (l : List T3) (h : DoneOk vars F key n) : DoneOk vars (F ++ l) key n := by
  refine ⟨fun hk => ?_, fun hk => ?_⟩
  rotate_left
  · obtain ⟨h1, h2⟩ := h.2 hk
    rw [top_app h1.2]
    refine ⟨⟨h1.1, by simp; omega⟩, fun k hv => ?_⟩
    obtain ⟨q1, q2⟩ := h2 k hv
    exact ⟨q1.app l, by rw [tab_app ho _ _ _ _ q1.1 q1.2.1, tab_app ho _ _ _ _ h1.1 h1.2, q2]⟩
  obtain ⟨h1, h2, h3, h4⟩ := h.1 hk
  have et : tops vars (F ++ l) key.1 key.2.1 key.2.2 = tops vars F key.1 key.2.1 key.2.2 := by unfold tops; rw [top_app h1.2, top_app h2.2, top_app h3.2]
  rw [et]
  refine ⟨⟨h1.1, by simp; omega⟩, ⟨h2.1, by simp; omega⟩, ⟨h3.1, by simp; omega⟩, fun k hv => ?_⟩
  obtain ⟨q1, q2⟩ := h4 k hv
  exact ⟨q1.app l, by rw [tab_app ho _ _ _ _ q1.1 q1.2.1, tab_app ho _ _ _ _ h1.1 h1.2, tab_app ho _ _ _ _ h2.1 h2.2, tab_app ho _ _ _ _ h3.1 h3.2, q2]⟩

theorem at_find {vars s} (h : MOk vars s) (x : T3) : get3 s.at_ x = find s.forks x := by
  cases c : find s.forks x with
  | some n =>
    obtain ⟨a, b, e⟩ := find_some c
    rw [← e]; exact h.at2 n a b
  | none =>
    cases c' : get3 s.at_ x with
    | none => rfl
    | some n =>
      obtain ⟨a, b, e⟩ := h.at1 x n c'
      exact absurd e (find_none c n a b)

/-- A fork is put as its table is. -/
theorem fork_put {vars : Int} {s : Mac} (h : MOk vars s) {v lo hi : Int} {k : Nat} (hv0 : 0 ≤ v) (hv : v + (k + 1 : Nat) = vars) (h1 : In vars s.forks (v + 1) lo) (h2 : In vars s.forks (v + 1) hi) :
    MOk vars (forkM s v lo hi).1 ∧ (forkM s v lo hi).1.done = s.done ∧ ((forkM s v lo hi).1.forks, (forkM s v lo hi).2) = put (k + 1) s.forks v (tab s.forks k (v + 1) lo ++ tab s.forks k (v + 1) hi) := by
  have p1 := put_present h.ok k (v + 1) lo (by omega) h1
  have p2 := put_present h.ok k (v + 1) hi (by omega) h2
  unfold forkM
  by_cases c : lo = hi
  · subst c
    rw [if_pos rfl, put_same (tab_len ..), p1]
    exact ⟨h, rfl, rfl⟩
  · rw [if_neg c, at_find h]
    have hne : tab s.forks k (v + 1) lo ≠ tab s.forks k (v + 1) hi := fun e => c (canon h.ok k (v + 1) _ _ (by omega) h1 h2 e)
    rw [put_two (tab_len ..) hne, p1]
    simp only [p2]
    cases hf : find s.forks (v, lo, hi) with
    | some n => exact ⟨h, rfl, rfl⟩
    | none =>
      obtain ⟨o1, o2⟩ := h.ok.push hv0 (by omega) c h1 h2 hf
      refine ⟨⟨o1, fun x n hg => ?_, fun n a b => ?_⟩, rfl, rfl⟩
      · simp only [get_set] at hg
        split at hg
        · rename_i e
          simp at hg; subst hg; subst e
          have := h.ok.two
          exact ⟨by omega, by simp; omega, o2⟩
        · obtain ⟨a, b, e⟩ := h.at1 x n hg
          exact ⟨a, by simp; omega, by rw [frk_app (by omega) b]; exact e⟩
      · simp only [get_set]
        by_cases hn : n < s.forks.length
        · rw [frk_app (by omega) hn, if_neg (fun e => find_none hf n a hn e.symm)]
          exact h.at2 n a hn
        · have e : n = s.forks.length := by simp at b; omega
          subst e
          rw [o2, if_pos rfl]

/-! ### Ite -/

/-- Put once more is put. -/
theorem put_comp {vars : Int} {F : List T3} {k : Nat} {v : Int} {s t : List Bool} (ho : Ok vars F) (hv0 : 0 ≤ v) (hv : v + (k + 1 : Nat) = vars) (hs : s.length = 2 ^ k) (ht : t.length = 2 ^ k)
    {a b : List T3 × Int} (ha : a = put k F (v + 1) s) (hb : b = put k a.1 (v + 1) t) : put (k + 1) F v (s ++ t) = put (k + 1) b.1 v (s ++ t) := by
  have P1 := put_ok k F (v + 1) s ho (by omega) (by omega) hs
  rw [← ha] at P1
  have P2 := put_ok k a.1 (v + 1) t P1.ok (by omega) (by omega) ht
  rw [← hb] at P2
  obtain ⟨lb, eb⟩ := P2.pre
  have ia : In vars b.1 (v + 1) a.2 := by rw [eb]; exact P1.inn.app lb
  have ta : tab b.1 k (v + 1) a.2 = s := by rw [eb, tab_app P1.ok _ _ _ _ P1.inn.1 P1.inn.2.1]; exact P1.tab
  have p1 := put_present P2.ok k (v + 1) a.2 (by omega) ia
  have p2 := put_present P2.ok k (v + 1) b.2 (by omega) P2.inn
  rw [ta] at p1
  rw [P2.tab] at p2
  by_cases c : s = t
  · subst c
    rw [put_same hs, put_same hs, p1, ← ha]
    have q := put_present P1.ok k (v + 1) a.2 (by omega) P1.inn
    rw [P1.tab, ← hb] at q
    rw [q]
  · rw [put_two hs c, put_two hs c, p1]
    simp only [p2, ← ha, ← hb]

theorem tops_le {vars F f g h v} (hf : In vars F v f) (hg : In vars F v g) (hh : In vars F v h) : v ≤ tops vars F f g h := by
  unfold tops; have := hf.2.2; have := hg.2.2; have := hh.2.2; omega

structure Made (vars : Int) (s : Mac) (k : Nat) (v : Int) (t : List Bool) (r : Mac × Int) : Prop where
  ok : MOk vars r.1
  kept : Kept (DoneOk vars) r.1
  put : (r.1.forks, r.2) = put k s.forks v t

theorem Made.same {vars s k v t n} (h : MOk vars s) (hk : Kept (DoneOk vars) s) (hv : v + (k : Nat) = vars) (hn : In vars s.forks v n) (ht : tab s.forks k v n = t) : Made vars s k v t (s, n) :=
  ⟨h, hk, by rw [← ht, put_present h.ok k v n hv hn]⟩

theorem kept_set {vars s key n} (hk : Kept (DoneOk vars) s) (h : DoneOk vars s.forks key n) : Kept (DoneOk vars) (setD s key n) := fun k m e => by
  simp only [setD, get_set] at e ⊢
  split at e
  · rename_i c
    simp at e; subst e; subst c; exact h
  · exact hk k m e

theorem kept_app {vars} {s s' : Mac} (h : Kept (DoneOk vars) s) (ho : Ok vars s.forks) (hd : s'.done = s.done) {l} (hf : s'.forks = s.forks ++ l) : Kept (DoneOk vars) s' := fun k m e => by
  rw [hf]; exact (h k m (hd ▸ e)).app ho l

theorem mok_set {vars s key n} (h : MOk vars s) : MOk vars (setD s key n) := ⟨h.ok, h.at1, h.at2⟩

/-- Where no one of three asks the variable. -/
theorem ite_up {vars F f g h v} {k : Nat} (hf : top vars F f ≠ v) (hg : top vars F g ≠ v) (hh : top vars F h ≠ v) :
    iteT (tab F (k + 1) v f) (tab F (k + 1) v g) (tab F (k + 1) v h) = iteT (tab F k (v + 1) f) (tab F k (v + 1) g) (tab F k (v + 1) h) ++ iteT (tab F k (v + 1) f) (tab F k (v + 1) g) (tab F k (v + 1) h) := by
  rw [tab_up (top_up hf), tab_up (top_up hg), tab_up (top_up hh), iteT_append (by simp [tab_len]) (by simp [tab_len])]

theorem ite_half {vars F f g h v} {k : Nat} (hv : v < vars) :
    iteT (tab F (k + 1) v f) (tab F (k + 1) v g) (tab F (k + 1) v h) =
      iteT (tab F k (v + 1) (halfM vars F f v false)) (tab F k (v + 1) (halfM vars F g v false)) (tab F k (v + 1) (halfM vars F h v false)) ++
      iteT (tab F k (v + 1) (halfM vars F f v true)) (tab F k (v + 1) (halfM vars F g v true)) (tab F k (v + 1) (halfM vars F h v true)) := by
  rw [half_lo hv k, half_lo hv k, half_lo hv k, iteT_append (by simp [tab_len]) (by simp [tab_len])]

theorem ite_stop {vars : Int} {n : Nat} {s : Mac} {f g h v : Int} {k : Nat} (hm : MOk vars s) (hk : Kept (DoneOk vars) s) (hv : v + (k : Nat) = vars) (hf : In vars s.forks v f) (hg : In vars s.forks v g) (hh : In vars s.forks v h)
    (c : f = 1 ∨ g = h ∨ f = 0 ∨ (g = 1 ∧ h = 0)) : Made vars s k v (iteT (tab s.forks k v f) (tab s.forks k v g) (tab s.forks k v h)) (iteM vars (n + 1) s f g h) := by
  simp only [iteM]
  by_cases c1 : f = 1 ∨ g = h
  · rw [if_pos c1]
    refine .same hm hk hv hg ?_
    rcases c1 with rfl | rfl
    · rw [tab_one, iteT_true _ _ _ (tab_len ..) (tab_len ..)]
    · rw [iteT_self _ _ (by simp [tab_len])]
  rw [if_neg c1]
  by_cases c2 : f = 0
  · rw [if_pos c2]
    refine .same hm hk hv hh ?_
    subst c2
    rw [tab_zero, iteT_false _ _ _ (tab_len ..) (tab_len ..)]
  rw [if_neg c2]
  have c3 : g = 1 ∧ h = 0 := by omega
  rw [if_pos c3]
  refine .same hm hk hv hf ?_
  obtain ⟨rfl, rfl⟩ := c3
  rw [tab_one, tab_zero, iteT_id _ _ (tab_len ..)]

theorem ite_put {vars : Int} : ∀ (k n : Nat) (s : Mac) (f g h v : Int), MOk vars s → Kept (DoneOk vars) s → 0 ≤ v → v + k = vars → k < n → In vars s.forks v f → In vars s.forks v g → In vars s.forks v h →
    Made vars s k v (iteT (tab s.forks k v f) (tab s.forks k v g) (tab s.forks k v h)) (iteM vars n s f g h)
  | 0, n, s, f, g, h, v, hm, hk, hv0, hv, hn, hf, hg, hh => by
    obtain ⟨n, rfl⟩ : ∃ m, n = m + 1 := ⟨n - 1, by omega⟩
    have e : v = vars := by omega
    have := (e ▸ hf : In vars s.forks vars f).end hm.ok
    exact ite_stop hm hk hv hf hg hh (by omega)
  | k + 1, n, s, f, g, h, v, hm, hk, hv0, hv, hn, hf, hg, hh => by
    by_cases c : top vars s.forks f ≠ v ∧ top vars s.forks g ≠ v ∧ top vars s.forks h ≠ v
    · have ih := ite_put k n s f g h (v + 1) hm hk (by omega) (by omega) (by omega) (hf.up hm.ok hv (top_up c.1)) (hg.up hm.ok hv (top_up c.2.1)) (hh.up hm.ok hv (top_up c.2.2))
      refine ⟨ih.ok, ih.kept, ?_⟩
      rw [ih.put, ite_up c.1 c.2.1 c.2.2, put_same (iteT_len (tab_len ..) (tab_len ..) (tab_len ..))]
    obtain ⟨n, rfl⟩ : ∃ m, n = m + 1 := ⟨n - 1, by omega⟩
    by_cases cs : f = 1 ∨ g = h ∨ f = 0 ∨ (g = 1 ∧ h = 0)
    · exact ite_stop hm hk hv hf hg hh cs
    have ht : tops vars s.forks f g h = v := by
      have h1 := hf.2.2; have h2 := hg.2.2; have h3 := hh.2.2
      unfold tops; omega
    have hvv : v < vars := by omega
    simp only [iteM]
    rw [if_neg (by omega), if_neg (by omega), if_neg (by omega)]
    cases hd : get3 s.done (f, g, h) with
    | some m =>
      obtain ⟨_, _, _, q⟩ := (hk _ _ hd).1 hh.1
      obtain ⟨q1, q2⟩ := q (k + 1) (by show tops vars s.forks f g h + _ = _; rw [ht]; exact hv)
      simp only [ht] at q1 q2
      exact .same hm hk hv q1 q2
    | none =>
      simp only [ht]
      have m1 := ite_put k n s _ _ _ (v + 1) hm hk (by omega) (by omega) (by omega) (half_In hvv hm.ok hv hf false) (half_In hvv hm.ok hv hg false) (half_In hvv hm.ok hv hh false)
      have P1 := put_ok k s.forks (v + 1) _ hm.ok (by omega) (by omega) (iteT_len (tab_len s.forks k (v + 1) (halfM vars s.forks f v false)) (tab_len s.forks k (v + 1) (halfM vars s.forks g v false)) (tab_len s.forks k (v + 1) (halfM vars s.forks h v false)))
      rw [← m1.put] at P1
      have e1 := m1.put
      generalize iteM vars n s (halfM vars s.forks f v false) (halfM vars s.forks g v false) (halfM vars s.forks h v false) = a at *
      obtain ⟨la, ea⟩ := P1.pre
      simp only at ea
      have hf1 : In vars a.1.forks v f := by rw [ea]; exact hf.app la
      have hg1 : In vars a.1.forks v g := by rw [ea]; exact hg.app la
      have hh1 : In vars a.1.forks v h := by rw [ea]; exact hh.app la
      have m2 := ite_put k n a.1 _ _ _ (v + 1) m1.ok m1.kept (by omega) (by omega) (by omega) (half_In hvv m1.ok.ok hv hf1 true) (half_In hvv m1.ok.ok hv hg1 true) (half_In hvv m1.ok.ok hv hh1 true)
      have P2 := put_ok k a.1.forks (v + 1) _ m1.ok.ok (by omega) (by omega) (iteT_len (tab_len a.1.forks k (v + 1) (halfM vars a.1.forks f v true)) (tab_len a.1.forks k (v + 1) (halfM vars a.1.forks g v true)) (tab_len a.1.forks k (v + 1) (halfM vars a.1.forks h v true)))
      rw [← m2.put] at P2
      have e2 := m2.put
      have hhalf : ∀ x, In vars s.forks v x → tab a.1.forks k (v + 1) (halfM vars a.1.forks x v true) = tab s.forks k (v + 1) (halfM vars s.forks x v true) := fun x hx => by
        have hi := half_In hvv hm.ok hv hx true
        rw [ea, half_app hx.1 hx.2.1, tab_app hm.ok _ _ _ _ hi.1 hi.2.1]
      rw [hhalf f hf, hhalf g hg, hhalf h hh] at P2 e2
      generalize iteM vars n a.1 (halfM vars a.1.forks f v true) (halfM vars a.1.forks g v true) (halfM vars a.1.forks h v true) = b at *
      obtain ⟨lb, eb⟩ := P2.pre
      simp only at eb
      have ia : In vars b.1.forks (v + 1) a.2 := by rw [eb]; exact P1.inn.app lb
      have ta := P1.tab
      rw [← tab_app m1.ok.ok lb _ _ _ P1.inn.1 P1.inn.2.1, ← eb] at ta
      simp only at ta
      obtain ⟨f1, f2, f3⟩ := fork_put (k := k) m2.ok hv0 hv ia P2.inn
      have tb := P2.tab
      simp only at tb
      have hc := put_comp (v := v) hm.ok hv0 hv (iteT_len (tab_len ..) (tab_len ..) (tab_len ..)) (iteT_len (tab_len ..) (tab_len ..) (tab_len ..)) e1 e2
      simp only at hc
      rw [ta, tb, ← hc, ← ite_half hvv] at f3
      have P3 := put_ok (k + 1) s.forks v _ hm.ok hv0 hv (iteT_len (tab_len s.forks (k + 1) v f) (tab_len s.forks (k + 1) v g) (tab_len s.forks (k + 1) v h))
      rw [← f3] at P3
      generalize forkM b.1 v a.2 b.2 = r at *
      obtain ⟨lr, er⟩ := P3.pre
      simp only at er
      have P4 := put_ok (k + 1) b.1.forks v (tab b.1.forks k (v + 1) a.2 ++ tab b.1.forks k (v + 1) b.2) m2.ok.ok hv0 hv (by simp [tab_len]; omega)
      rw [ta, tb, ← hc, ← ite_half hvv, ← f3] at P4
      obtain ⟨lq, eq⟩ := P4.pre
      refine ⟨mok_set f1, kept_set (kept_app m2.kept m2.ok.ok f2 eq) ?_, f3⟩
      refine ⟨fun _ => ?_, fun h' => by have := hh.1; simp only at h'; omega⟩
      have et : tops vars r.1.forks f g h = v := by rw [er]; unfold tops; rw [top_app hf.2.1, top_app hg.2.1, top_app hh.2.1]; exact ht
      have i1 := hf.app lr; have i2 := hg.app lr; have i3 := hh.app lr
      rw [← er] at i1 i2 i3
      refine ⟨⟨i1.1, i1.2.1⟩, ⟨i2.1, i2.2.1⟩, ⟨i3.1, i3.2.1⟩, fun k' hk' => ?_⟩
      simp only [et] at hk' ⊢
      have : k' = k + 1 := by omega
      subst this
      refine ⟨P3.inn, ?_⟩
      have := P3.tab
      simp only at this
      rw [this, er, tab_app hm.ok _ _ _ _ hf.1 hf.2.1, tab_app hm.ok _ _ _ _ hg.1 hg.2.1, tab_app hm.ok _ _ _ _ hh.1 hh.2.1]

end Fil.Bd
