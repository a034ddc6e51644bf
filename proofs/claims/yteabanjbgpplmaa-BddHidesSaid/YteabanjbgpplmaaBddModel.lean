/- bdd: plain models: diagrams, tables, what is put. No program in sight. -/
import Derived.Test.YteabanjbgpplmaaAbsU
set_option linter.unusedSimpArgs false
set_option linter.unusedVariables false
namespace Fil.Bd

abbrev T3 := Int × Int × Int

/-- The fork of a node. -/
def frk (F : List T3) (n : Int) : T3 := F.getD n.toNat (0, 0, 0)

/-- A node's variable. -/
def top (vars : Int) (F : List T3) (n : Int) : Int := if n < 2 then vars else (frk F n).1

/-- What a node is, of k variables from v on. -/
def tab (F : List T3) : Nat → Int → Int → List Bool
  | 0, _, n => [n == 1]
  | k + 1, v, n => if 2 ≤ n ∧ (frk F n).1 = v then tab F k (v + 1) (frk F n).2.1 ++ tab F k (v + 1) (frk F n).2.2 else tab F k (v + 1) n ++ tab F k (v + 1) n

structure Ok (vars : Int) (F : List T3) : Prop where
  two : 2 ≤ F.length
  lo : 0 ≤ vars
  var : ∀ i : Int, 2 ≤ i → i < F.length → 0 ≤ (frk F i).1 ∧ (frk F i).1 < vars
  ne : ∀ i : Int, 2 ≤ i → i < F.length → (frk F i).2.1 ≠ (frk F i).2.2
  low : ∀ i : Int, 2 ≤ i → i < F.length → 0 ≤ (frk F i).2.1 ∧ (frk F i).2.1 < i ∧ (frk F i).1 < top vars F (frk F i).2.1
  high : ∀ i : Int, 2 ≤ i → i < F.length → 0 ≤ (frk F i).2.2 ∧ (frk F i).2.2 < i ∧ (frk F i).1 < top vars F (frk F i).2.2
  uniq : ∀ i j : Int, 2 ≤ i → i < F.length → 2 ≤ j → j < F.length → frk F i = frk F j → i = j

/-- A node that may stand at a place in the order. -/
def In (vars : Int) (F : List T3) (v n : Int) : Prop := 0 ≤ n ∧ n < F.length ∧ v ≤ top vars F n

theorem tab_len (F : List T3) : ∀ k v n, (tab F k v n).length = 2 ^ k
  | 0, v, n => rfl
  | k + 1, v, n => by
    simp only [tab]
    split <;> simp [tab_len F k] <;> omega

theorem tab_at {F : List T3} {k v n} (h : 2 ≤ n ∧ (frk F n).1 = v) : tab F (k + 1) v n = tab F k (v + 1) (frk F n).2.1 ++ tab F k (v + 1) (frk F n).2.2 := by rw [tab, if_pos h]
theorem tab_up {F : List T3} {k v n} (h : ¬ (2 ≤ n ∧ (frk F n).1 = v)) : tab F (k + 1) v n = tab F k (v + 1) n ++ tab F k (v + 1) n := by rw [tab, if_neg h]

theorem In.up {vars F v n} (h : In vars F v n) (ho : Ok vars F) {k : Nat} (hv : v + (k + 1 : Nat) = vars) (hn : ¬ (2 ≤ n ∧ (frk F n).1 = v)) : In vars F (v + 1) n := by
  obtain ⟨h1, h2, h3⟩ := h
  refine ⟨h1, h2, ?_⟩
  unfold top at h3 ⊢
  split
  · omega
  · rename_i h4
    rw [if_neg h4] at h3
    have : (frk F n).1 ≠ v := fun e => hn ⟨by omega, e⟩
    omega

theorem In.lo {vars F v n} (h : In vars F v n) (ho : Ok vars F) (hn : 2 ≤ n ∧ (frk F n).1 = v) : In vars F (v + 1) (frk F n).2.1 := by
  obtain ⟨h1, h2, h3⟩ := h
  obtain ⟨a, b, c⟩ := ho.low n hn.1 h2
  exact ⟨a, by omega, by omega⟩
theorem In.hi {vars F v n} (h : In vars F v n) (ho : Ok vars F) (hn : 2 ≤ n ∧ (frk F n).1 = v) : In vars F (v + 1) (frk F n).2.2 := by
  obtain ⟨h1, h2, h3⟩ := h
  obtain ⟨a, b, c⟩ := ho.high n hn.1 h2
  exact ⟨a, by omega, by omega⟩

theorem In.end {vars F n} (h : In vars F vars n) (ho : Ok vars F) : n = 0 ∨ n = 1 := by
  obtain ⟨h1, h2, h3⟩ := h
  unfold top at h3
  split at h3
  · omega
  · have := (ho.var n (by omega) h2).2
    omega

theorem canon {vars F} (ho : Ok vars F) : ∀ (k : Nat) (v n m : Int), v + k = vars → In vars F v n → In vars F v m → tab F k v n = tab F k v m → n = m
  | 0, v, n, m, hv, hn, hm, h => by
    have e : v = vars := by omega
    subst e
    rcases hn.end ho with rfl | rfl <;> rcases hm.end ho with rfl | rfl <;> first | rfl | (exfalso; revert h; simp [tab])
  | k + 1, v, n, m, hv, hn, hm, h => by
    have ih := canon ho k (v + 1)
    have hl : ∀ a b, (tab F k (v + 1) a).length = (tab F k (v + 1) b).length := fun a b => by rw [tab_len, tab_len]
    by_cases c1 : 2 ≤ n ∧ (frk F n).1 = v <;> by_cases c2 : 2 ≤ m ∧ (frk F m).1 = v
    · rw [tab_at c1, tab_at c2] at h
      obtain ⟨e1, e2⟩ := List.append_inj h (hl _ _)
      have q1 := ih _ _ (by omega) (hn.lo ho c1) (hm.lo ho c2) e1
      have q2 := ih _ _ (by omega) (hn.hi ho c1) (hm.hi ho c2) e2
      refine ho.uniq n m c1.1 hn.2.1 c2.1 hm.2.1 ?_
      exact Prod.ext (c1.2.trans c2.2.symm) (Prod.ext q1 q2)
    · rw [tab_at c1, tab_up c2] at h
      obtain ⟨e1, e2⟩ := List.append_inj h (hl _ _)
      have q1 := ih _ _ (by omega) (hn.lo ho c1) (hm.up ho hv c2) e1
      have q2 := ih _ _ (by omega) (hn.hi ho c1) (hm.up ho hv c2) e2
      exact absurd (q1.trans q2.symm) (ho.ne n c1.1 hn.2.1)
    · rw [tab_up c1, tab_at c2] at h
      obtain ⟨e1, e2⟩ := List.append_inj h (hl _ _)
      have q1 := ih _ _ (by omega) (hn.up ho hv c1) (hm.lo ho c2) e1
      have q2 := ih _ _ (by omega) (hn.up ho hv c1) (hm.hi ho c2) e2
      exact absurd (q1.symm.trans q2) (ho.ne m c2.1 hm.2.1)
    · rw [tab_up c1, tab_up c2] at h
      obtain ⟨e1, e2⟩ := List.append_inj h (hl _ _)
      exact ih _ _ (by omega) (hn.up ho hv c1) (hm.up ho hv c2) e1

/-! ### What is there stays -/

theorem frk_app {F l : List T3} {n : Int} (h0 : 0 ≤ n) (h : n < F.length) : frk (F ++ l) n = frk F n := by
  unfold frk
  rw [List.getD_eq_getElem?_getD, List.getD_eq_getElem?_getD, List.getElem?_append_left (by omega)]

theorem top_app {vars} {F l : List T3} {n : Int} (h : n < F.length) : top vars (F ++ l) n = top vars F n := by
  unfold top
  split
  · rfl
  · rw [frk_app (by omega) h]

theorem In.app {vars F v n} (l : List T3) (h : In vars F v n) : In vars (F ++ l) v n :=
  ⟨h.1, by have := h.2.1; simp; omega, by rw [top_app h.2.1]; exact h.2.2⟩

theorem tab_app {vars F} (ho : Ok vars F) (l : List T3) : ∀ (k : Nat) (v n : Int), 0 ≤ n → n < F.length → tab (F ++ l) k v n = tab F k v n
  | 0, v, n, _, _ => rfl
  | k + 1, v, n, h0, h => by
    simp only [tab, frk_app h0 h]
    split
    · rename_i c
      obtain ⟨a, b, _⟩ := ho.low n c.1 h
      obtain ⟨a', b', _⟩ := ho.high n c.1 h
      rw [tab_app ho l k _ _ a (by omega), tab_app ho l k _ _ a' (by omega)]
    · rw [tab_app ho l k _ _ h0 h]

/-! ### What is put -/

def fnd : List T3 → T3 → Int → Option Int
  | [], _, _ => none
  | y :: r, x, i => if y = x then some i else fnd r x (i + 1)

theorem fnd_some : ∀ {l : List T3} {x : T3} {i n : Int}, fnd l x i = some n → i ≤ n ∧ n < i + l.length ∧ l.getD (n - i).toNat (0, 0, 0) = x
  | [], x, i, n, h => by simp [fnd] at h
  | y :: r, x, i, n, h => by
    simp only [fnd] at h
    split at h
    · rename_i e
      simp at h; subst h
      simp [e]; omega
    · obtain ⟨a, b, c⟩ := fnd_some h
      refine ⟨by omega, by simp; omega, ?_⟩
      have : (n - i).toNat = (n - (i + 1)).toNat + 1 := by omega
      rw [this]; simpa using c

theorem fnd_none : ∀ {l : List T3} {x : T3} {i : Int}, fnd l x i = none → ∀ j : Nat, j < l.length → l.getD j (0, 0, 0) ≠ x
  | [], x, i, h, j, hj => by simp at hj
  | y :: r, x, i, h, j, hj => by
    simp only [fnd] at h
    split at h
    · simp at h
    · rename_i e
      cases j with
      | zero => simpa using e
      | succ j => simpa using fnd_none h j (by simpa using hj)

/-- The node of a fork. -/
def find (F : List T3) (x : T3) : Option Int := fnd (F.drop 2) x 2

theorem getD_drop (F : List T3) (i : Nat) : (F.drop 2).getD i (0, 0, 0) = F.getD (2 + i) (0, 0, 0) := by
  simp [List.getD_eq_getElem?_getD]

theorem find_some {F x n} (h : find F x = some n) : 2 ≤ n ∧ n < F.length ∧ frk F n = x := by
  obtain ⟨a, b, c⟩ := fnd_some h
  rw [getD_drop] at c
  simp only [List.length_drop] at b
  refine ⟨a, by omega, ?_⟩
  unfold frk
  rw [← c]; congr 1; omega

theorem find_none {F x} (h : find F x = none) (n : Int) (h2 : 2 ≤ n) (hn : n < F.length) : frk F n ≠ x := by
  have := fnd_none h (n.toNat - 2) (by simp; omega)
  rw [getD_drop] at this
  unfold frk
  rwa [show 2 + (n.toNat - 2) = n.toNat by omega] at this

theorem find_eq {vars F} (ho : Ok vars F) {n : Int} (h2 : 2 ≤ n) (hn : n < F.length) {x} (hx : frk F n = x) : find F x = some n := by
  cases h : find F x with
  | none => exact absurd hx (find_none h n h2 hn)
  | some m =>
    obtain ⟨a, b, c⟩ := find_some h
    rw [ho.uniq n m h2 hn a b (hx.trans c.symm)]

/-- A function of the k variables from v on, by its table. -/
def put : Nat → List T3 → Int → List Bool → List T3 × Int
  | 0, F, _, t => (F, if t.headD false then 1 else 0)
  | k + 1, F, v, t =>
    if t.take (2 ^ k) = t.drop (2 ^ k) then put k F (v + 1) (t.take (2 ^ k))
    else
      let a := put k F (v + 1) (t.take (2 ^ k))
      let b := put k a.1 (v + 1) (t.drop (2 ^ k))
      match find b.1 (v, a.2, b.2) with
      | some i => (b.1, i)
      | none => (b.1 ++ [(v, a.2, b.2)], b.1.length)

theorem put_same {k F v t} (h : t.length = 2 ^ k) : put (k + 1) F v (t ++ t) = put k F (v + 1) t := by
  simp only [put]
  rw [List.take_left' h, List.drop_left' h, if_pos rfl]

theorem put_two {k F v s t} (h : s.length = 2 ^ k) (hne : s ≠ t) : put (k + 1) F v (s ++ t) =
    (match find (put k (put k F (v + 1) s).1 (v + 1) t).1 (v, (put k F (v + 1) s).2, (put k (put k F (v + 1) s).1 (v + 1) t).2) with
      | some i => ((put k (put k F (v + 1) s).1 (v + 1) t).1, i)
      | none => ((put k (put k F (v + 1) s).1 (v + 1) t).1 ++ [(v, (put k F (v + 1) s).2, (put k (put k F (v + 1) s).1 (v + 1) t).2)], ((put k (put k F (v + 1) s).1 (v + 1) t).1.length : Int))) := by
  simp only [put]
  rw [List.take_left' h, List.drop_left' h, if_neg hne]

theorem put_present {vars F} (ho : Ok vars F) : ∀ (k : Nat) (v n : Int), v + k = vars → In vars F v n → put k F v (tab F k v n) = (F, n)
  | 0, v, n, hv, hn => by
    have e : v = vars := by omega
    subst e
    rcases hn.end ho with rfl | rfl <;> simp [put, tab]
  | k + 1, v, n, hv, hn => by
    by_cases c : 2 ≤ n ∧ (frk F n).1 = v
    · rw [tab_at c, put_two (tab_len ..)]
      · have h1 := put_present ho k (v + 1) _ (by omega) (hn.lo ho c)
        have h2 := put_present ho k (v + 1) _ (by omega) (hn.hi ho c)
        simp only [h1, h2]
        rw [find_eq ho c.1 hn.2.1 (x := (v, (frk F n).2.1, (frk F n).2.2)) (by rw [← c.2])]
      · intro e
        exact ho.ne n c.1 hn.2.1 (canon ho k (v + 1) _ _ (by omega) (hn.lo ho c) (hn.hi ho c) e)
    · rw [tab_up c, put_same (tab_len ..)]
      exact put_present ho k (v + 1) n (by omega) (hn.up ho hv c)

theorem Ok.push {vars F} (ho : Ok vars F) {v lo hi : Int} (hv0 : 0 ≤ v) (hv : v < vars) (hne : lo ≠ hi) (h1 : In vars F (v + 1) lo) (h2 : In vars F (v + 1) hi) (hf : find F (v, lo, hi) = none) :
    Ok vars (F ++ [(v, lo, hi)]) ∧ frk (F ++ [(v, lo, hi)]) F.length = (v, lo, hi) := by
  have hlast : frk (F ++ [(v, lo, hi)]) F.length = (v, lo, hi) := by simp [frk, List.getD_eq_getElem?_getD]
  refine ⟨?_, hlast⟩
  have split : ∀ i : Int, 2 ≤ i → i < (F ++ [(v, lo, hi)]).length → (i < F.length ∧ frk (F ++ [(v, lo, hi)]) i = frk F i) ∨ (i = F.length ∧ frk (F ++ [(v, lo, hi)]) i = (v, lo, hi)) := fun i a b => by
    simp at b
    by_cases c : i < F.length
    · exact .inl ⟨c, frk_app (by omega) c⟩
    · have e : i = F.length := by omega
      subst e; exact .inr ⟨rfl, hlast⟩
  refine ⟨by have := ho.two; simp; omega, ho.lo, fun i a b => ?_, fun i a b => ?_, fun i a b => ?_, fun i a b => ?_, fun i j a b c d e => ?_⟩
  · rcases split i a b with ⟨q, e⟩ | ⟨q, e⟩ <;> rw [e]
    · exact ho.var i a q
    · exact ⟨hv0, hv⟩
  · rcases split i a b with ⟨q, e⟩ | ⟨q, e⟩ <;> rw [e]
    · exact ho.ne i a q
    · exact hne
  · rcases split i a b with ⟨q, e⟩ | ⟨q, e⟩ <;> rw [e]
    · obtain ⟨x, y, z⟩ := ho.low i a q
      exact ⟨x, y, by rw [top_app (by omega)]; exact z⟩
    · exact ⟨h1.1, by have := h1.2.1; subst q; exact this, by rw [top_app h1.2.1]; have := h1.2.2; show v < _; omega⟩
  · rcases split i a b with ⟨q, e⟩ | ⟨q, e⟩ <;> rw [e]
    · obtain ⟨x, y, z⟩ := ho.high i a q
      exact ⟨x, y, by rw [top_app (by omega)]; exact z⟩
    · exact ⟨h2.1, by have := h2.2.1; subst q; exact this, by rw [top_app h2.2.1]; have := h2.2.2; show v < _; omega⟩
  · rcases split i a b with ⟨q, e1⟩ | ⟨q, e1⟩ <;> rcases split j c d with ⟨q', e2⟩ | ⟨q', e2⟩ <;> rw [e1, e2] at e
    · exact ho.uniq i j a q c q' e
    · exact absurd e (find_none hf i a q)
    · exact absurd e.symm (find_none hf j c q')
    · omega

theorem two_pow_pos' (k : Nat) : 1 ≤ 2 ^ k := Nat.one_le_two_pow

/-- What is put, and where. -/
structure Put (vars : Int) (F : List T3) (k : Nat) (v : Int) (t : List Bool) (r : List T3 × Int) : Prop where
  ok : Ok vars r.1
  pre : ∃ l, r.1 = F ++ l
  inn : In vars r.1 v r.2
  tab : tab r.1 k v r.2 = t
  len : r.1.length + 1 ≤ F.length + 2 ^ k
  last : r.1 = F ∨ r.2 = r.1.length - 1
  new : ∀ i : Int, F.length ≤ i → i < r.1.length → v ≤ (frk r.1 i).1

theorem put_ok {vars} : ∀ (k : Nat) (F : List T3) (v : Int) (t : List Bool), Ok vars F → 0 ≤ v → v + k = vars → t.length = 2 ^ k → Put vars F k v t (put k F v t)
  | 0, F, v, t, ho, hv0, hv, ht => by
    obtain ⟨b, rfl⟩ : ∃ b, t = [b] := by
      match t, ht with
      | [b], _ => exact ⟨b, rfl⟩
    have h2 := ho.two
    refine ⟨ho, ⟨[], by simp [put]⟩, ?_, ?_, by simp [put], .inl rfl, fun i a b => by simp only [put] at b; omega⟩
    · cases b <;> refine ⟨by simp [put], by simp [put]; omega, by simp [put, top]; omega⟩
    · cases b <;> simp [put, Bd.tab]
  | k + 1, F, v, t, ho, hv0, hv, ht => by
    have hp := two_pow_pos' k
    have he : t = t.take (2 ^ k) ++ t.drop (2 ^ k) := (List.take_append_drop _ _).symm
    have l1 : (t.take (2 ^ k)).length = 2 ^ k := by rw [List.length_take, ht]; omega
    have l2 : (t.drop (2 ^ k)).length = 2 ^ k := by rw [List.length_drop, ht]; omega
    generalize t.take (2 ^ k) = s1 at *
    generalize t.drop (2 ^ k) = s2 at *
    subst he
    have up : ∀ {F n}, In vars F (v + 1) n → Ok vars F → tab F (k + 1) v n = tab F k (v + 1) n ++ tab F k (v + 1) n := fun {F n} h ho => by
      refine tab_up fun c => ?_
      have := h.2.2
      unfold top at this
      rw [if_neg (by omega)] at this
      omega
    by_cases hs : s1 = s2
    · subst hs
      rw [put_same l1]
      have p := put_ok k F (v + 1) s1 ho (by omega) (by omega) l1
      exact ⟨p.ok, p.pre, ⟨p.inn.1, p.inn.2.1, by have := p.inn.2.2; omega⟩, by rw [up p.inn p.ok, p.tab], by have := p.len; omega, p.last, fun i a b => by have := p.new i a b; omega⟩
    · rw [put_two l1 hs]
      have p := put_ok k F (v + 1) s1 ho (by omega) (by omega) l1
      generalize ha : put k F (v + 1) s1 = a at *
      have q := put_ok k a.1 (v + 1) s2 p.ok (by omega) (by omega) l2
      generalize hb : put k a.1 (v + 1) s2 = b at *
      obtain ⟨la, ea⟩ := p.pre
      obtain ⟨lb, eb⟩ := q.pre
      have ia : In vars b.1 (v + 1) a.2 := by rw [eb]; exact p.inn.app lb
      have ta : Bd.tab b.1 k (v + 1) a.2 = s1 := by rw [eb, tab_app p.ok _ _ _ _ p.inn.1 p.inn.2.1, p.tab]
      have hlen := p.len
      have hlen' := q.len
      cases hf : find b.1 (v, a.2, b.2) with
      | some i =>
        obtain ⟨f1, f2, f3⟩ := find_some hf
        refine ⟨q.ok, ⟨la ++ lb, by rw [eb, ea, List.append_assoc]⟩, ⟨by show 0 ≤ i; omega, f2, by show v ≤ top vars b.1 i; unfold top; rw [if_neg (by omega), f3]; exact Int.le_refl v⟩, ?_, by show b.1.length + 1 ≤ _; omega, ?_, ?_⟩
        · show Bd.tab b.1 (k + 1) v i = _
          rw [tab_at ⟨f1, by rw [f3]⟩, f3]
          show Bd.tab b.1 k (v + 1) a.2 ++ Bd.tab b.1 k (v + 1) b.2 = _
          rw [ta, q.tab]
        · refine .inl ?_
          show b.1 = F
          have hiF : i < F.length := by
            rcases Int.lt_or_le i F.length with h | h
            · exact h
            · exfalso
              by_cases hia : i < a.1.length
              · have := p.new i h hia
                have e : frk b.1 i = frk a.1 i := by rw [eb]; exact frk_app (by omega) hia
                rw [← e, f3] at this
                simp only at this
                omega
              · have := q.new i (by omega) f2
                rw [f3] at this
                simp only at this
                omega
          have hFb : b.1 = F ++ (la ++ lb) := by rw [eb, ea, List.append_assoc]
          have htab : Bd.tab F (k + 1) v i = s1 ++ s2 := by
            rw [← tab_app ho (la ++ lb) _ _ _ (by omega) hiF, ← hFb, tab_at ⟨f1, by rw [f3]⟩, f3]
            show Bd.tab b.1 k (v + 1) a.2 ++ Bd.tab b.1 k (v + 1) b.2 = _
            rw [ta, q.tab]
          have hin : In vars F v i := ⟨by omega, hiF, by
            have : frk b.1 i = frk F i := by rw [hFb]; exact frk_app (by omega) hiF
            unfold top; rw [if_neg (by omega), ← this, f3]; exact Int.le_refl v⟩
          have hpp := put_present ho (k + 1) v i hv hin
          rw [htab, put_two l1 hs, ha, hb, hf] at hpp
          exact (Prod.mk.inj hpp).1
        · intro j h1 h2
          show v ≤ (frk b.1 j).1
          by_cases hia : j < a.1.length
          · have := p.new j h1 hia
            have e : frk b.1 j = frk a.1 j := by rw [eb]; exact frk_app (by omega) hia
            rw [e]; omega
          · have := q.new j (by omega) h2
            omega
      | none =>
        have hne : a.2 ≠ b.2 := fun e => by
          apply hs
          rw [← ta, e, q.tab]
        obtain ⟨o1, o2⟩ := q.ok.push hv0 (by omega) hne ia q.inn hf
        refine ⟨o1, ⟨la ++ lb ++ [(v, a.2, b.2)], by show b.1 ++ _ = _; rw [eb, ea]; simp⟩, ⟨by show (0 : Int) ≤ b.1.length; omega, by simp; omega, ?_⟩, ?_, by simp; omega, .inr (by simp), ?_⟩
        · show v ≤ top vars _ (b.1.length : Int)
          have := q.ok.two
          unfold top
          rw [if_neg (by omega), o2]
          exact Int.le_refl v
        · show Bd.tab (b.1 ++ [(v, a.2, b.2)]) (k + 1) v b.1.length = _
          have := q.ok.two
          rw [tab_at ⟨by omega, by rw [o2]⟩, o2]
          show Bd.tab _ k (v + 1) a.2 ++ Bd.tab _ k (v + 1) b.2 = _
          rw [tab_app q.ok _ _ _ _ ia.1 ia.2.1, tab_app q.ok _ _ _ _ q.inn.1 q.inn.2.1, ta, q.tab]
        · intro j h1 h2
          show v ≤ (frk (b.1 ++ [(v, a.2, b.2)]) j).1
          by_cases hj : j < b.1.length
          · rw [frk_app (by omega) hj]
            by_cases hia : j < a.1.length
            · have := p.new j h1 hia
              have e : frk b.1 j = frk a.1 j := by rw [eb]; exact frk_app (by omega) hia
              rw [e]; omega
            · have := q.new j (by omega) hj
              omega
          · have e : j = b.1.length := by simp at h2; omega
            rw [e, o2]; exact Int.le_refl v

end Fil.Bd
