/- rewr: contracts of Still, and of what is told of gates that may not be. -/
import Derived.Test.YtapnlmhfacoceaaRewRewJ
set_option linter.unusedSimpArgs false
set_option linter.unusedVariables false
namespace Fil.Rw
open Abs
abbrev Kn := Option Bool
def kTurn : Kn → Kn
  | some b => some (!b)
  | none => none
def kOf (v : List Kn) (a : Int) : Kn := if a % 2 = 1 then kTurn (v.getD (a / 2).toNat none) else v.getD (a / 2).toNat none
def kBoth : Kn → Kn → Kn
  | some false, _ => some false
  | some true, b => b
  | none, some false => some false
  | none, _ => none
def initAt (g : Aig) (i : Nat) : Bool := (g.flops.getD i ⟨0, false⟩).init
def nextAt (g : Aig) (i : Nat) : Int := (g.flops.getD i ⟨0, false⟩).next
def stl (g : Aig) (so : List Bool) (i : Nat) : Option Bool := if so.getD i false then some (initAt g i) else none
def kFl (g : Aig) (so : List Bool) : Nat → List Kn
  | 0 => some false :: List.replicate g.ins.toNat none
  | i + 1 => kFl g so i ++ [stl g so i]
def kAt (g : Aig) (so : List Bool) : Nat → List Kn
  | 0 => kFl g so g.flops.length
  | i + 1 => kAt g so i ++ [kBoth (kOf (kAt g so i) (g.ands.getD i (0, 0)).1) (kOf (kAt g so i) (g.ands.getD i (0, 0)).2)]
def qDel (g : Aig) (v : List Kn) (so : List Bool) : Nat → List Bool
  | 0 => so
  | i + 1 => if kOf v (nextAt g i) = some (initAt g i) then qDel g v so i else (qDel g v so i).set i false
def qStep (g : Aig) (so : List Bool) : List Bool := qDel g (kAt g so g.ands.length) so g.flops.length
def qAll (g : Aig) : List Bool := List.replicate g.flops.length true
def qIt (g : Aig) : Nat → List Bool
  | 0 => qAll g
  | k + 1 => qStep g (qIt g k)
def quietG (g : Aig) : List Bool := qIt g g.flops.length
def still (g : Aig) : Aig := hashed g (stl g (quietG g))
def mKat (g : Aig) (so : List Bool) : Nat → List (Int × Bool)
  | 0 => []
  | i + 1 => mKat g so i ++ if so.getD i false then [((i : Int), initAt g i)] else []
def cT (so : List Bool) : Nat → Nat
  | 0 => 0
  | i + 1 => cT so i + if so.getD i false then 1 else 0
theorem kFl_len (g : Aig) (so : List Bool) : ∀ i, (kFl g so i).length = 1 + g.ins.toNat + i
  | 0 => by simp [kFl]; omega
  | i + 1 => by simp [kFl, kFl_len g so i]; omega
theorem kAt_len (g : Aig) (so : List Bool) : ∀ i, (kAt g so i).length = 1 + g.ins.toNat + g.flops.length + i
  | 0 => by simp [kAt, kFl_len]
  | i + 1 => by simp [kAt, kAt_len g so i]; omega
theorem qDel_len (g : Aig) (v : List Kn) (so : List Bool) : ∀ i, (qDel g v so i).length = so.length
  | 0 => rfl
  | i + 1 => by
    unfold qDel
    split
    · exact qDel_len g v so i
    · rw [List.length_set]; exact qDel_len g v so i
theorem qStep_len (g : Aig) (so : List Bool) : (qStep g so).length = so.length := qDel_len _ _ _ _
theorem qIt_len (g : Aig) : ∀ k, (qIt g k).length = g.flops.length
  | 0 => by simp [qIt, qAll]
  | k + 1 => by rw [qIt, qStep_len, qIt_len g k]
theorem set_getD (l : List Bool) (i j : Nat) : (l.set i false).getD j false = if i = j then false else l.getD j false := by
  simp only [List.getD_eq_getElem?_getD, List.getElem?_set]
  by_cases h : i = j
  · subst h
    by_cases h2 : i < l.length <;> simp [h2]
  · simp [h]
theorem qDel_get (g : Aig) (v : List Kn) (so : List Bool) (j : Nat) : ∀ i, (qDel g v so i).getD j false = if j < i then so.getD j false && decide (kOf v (nextAt g j) = some (initAt g j)) else so.getD j false
  | 0 => by simp [qDel]
  | i + 1 => by
    have ih := qDel_get g v so j i
    unfold qDel
    split
    · rename_i hc
      rw [ih]
      by_cases h : j < i
      · rw [if_pos h, if_pos (by omega)]
      · by_cases h2 : j = i
        · subst h2
          rw [if_neg h, if_pos (by omega)]
          simp [hc]
        · rw [if_neg h, if_neg (by omega)]
    · rename_i hc
      rw [set_getD, ih]
      by_cases h2 : i = j
      · subst h2
        rw [if_pos rfl, if_pos (by omega)]
        simp [hc]
      · rw [if_neg h2]
        by_cases h : j < i
        · rw [if_pos h, if_pos (by omega)]
        · rw [if_neg h, if_neg (by omega)]
theorem qStep_le (g : Aig) (so : List Bool) (j : Nat) (h : (qStep g so).getD j false = true) : so.getD j false = true := by
  unfold qStep at h
  rw [qDel_get] at h
  split at h
  · simp only [Bool.and_eq_true] at h; exact h.1
  · exact h
theorem bl_ext {a b : List Bool} (hl : a.length = b.length) (h : ∀ i, i < a.length → a.getD i false = b.getD i false) : a = b := by
  apply List.ext_getElem hl
  intro i h1 h2
  have := h i h1
  simp only [List.getD_eq_getElem?_getD, List.getElem?_eq_getElem h1, List.getElem?_eq_getElem h2, Option.getD_some] at this
  exact this
theorem cT_le {a b : List Bool} (h : ∀ j, a.getD j false = true → b.getD j false = true) : ∀ n, cT a n ≤ cT b n
  | 0 => Nat.le_refl _
  | n + 1 => by
    have ih := cT_le h n
    have := h n
    unfold cT
    cases ha : a.getD n false with
    | false => simp only [Bool.false_eq_true, if_false]; split <;> omega
    | true => rw [this ha]; simp only [if_true]; omega
theorem cT_lt {a b : List Bool} (h : ∀ j, a.getD j false = true → b.getD j false = true) {i : Nat} (ha : a.getD i false = false) (hb : b.getD i false = true) : ∀ n, i < n → cT a n < cT b n
  | n + 1, hi => by
    unfold cT
    by_cases e : i = n
    · subst e
      have := cT_le h i
      rw [ha, hb]; simp only [Bool.false_eq_true, if_false, if_true]; omega
    · have ih := cT_lt h ha hb n (by omega)
      have := h n
      cases hq : a.getD n false with
      | false => simp only [Bool.false_eq_true, if_false]; split <;> omega
      | true => rw [this hq]; simp only [if_true]; omega
theorem cT_bound (a : List Bool) : ∀ n, cT a n ≤ n
  | 0 => Nat.le_refl _
  | n + 1 => by have := cT_bound a n; unfold cT; split <;> omega
theorem qStep_cases {g : Aig} {so : List Bool} (hl : so.length = g.flops.length) : (qStep g so = so ∧ cT (qStep g so) g.flops.length = cT so g.flops.length) ∨ (qStep g so ≠ so ∧ cT (qStep g so) g.flops.length < cT so g.flops.length) := by
  by_cases h : ∀ i, i < (qStep g so).length → (qStep g so).getD i false = so.getD i false
  · have := bl_ext (qStep_len g so) h
    exact .inl ⟨this, by rw [this]⟩
  · obtain ⟨i, hi⟩ := Classical.not_forall.1 h
    obtain ⟨h1, h2⟩ := Classical.not_imp.1 hi
    have hle := qStep_le g so
    have hs : (qStep g so).getD i false = false ∧ so.getD i false = true := by
      cases ha : (qStep g so).getD i false with
      | true => rw [ha, hle i ha] at h2; exact absurd rfl h2
      | false =>
        cases hb : so.getD i false with
        | true => exact ⟨rfl, rfl⟩
        | false => rw [ha, hb] at h2; exact absurd rfl h2
    refine .inr ⟨fun e => h2 (by rw [e]), cT_lt hle hs.1 hs.2 _ ?_⟩
    rw [qStep_len, hl] at h1; exact h1
theorem qIt_more {g : Aig} {k : Nat} (h : qStep g (qIt g k) = qIt g k) : ∀ d, qIt g (k + d) = qIt g k
  | 0 => rfl
  | d + 1 => by
    show qStep g (qIt g (k + d)) = _
    rw [qIt_more h d, h]
theorem quiet_end {g : Aig} {k : Nat} (hk : k ≤ g.flops.length) (h : qStep g (qIt g k) = qIt g k) : qIt g k = quietG g := by
  unfold quietG
  rw [show g.flops.length = k + (g.flops.length - k) by omega, qIt_more h]
theorem gk_app {α : Type} (x : Int) : ∀ (l m : List (Int × α)), gk (l ++ m) x = match gk l x with | some v => some v | none => gk m x
  | [], m => rfl
  | p :: l, m => by
    have ih := gk_app x l m
    simp only [List.cons_append, gk]
    split
    · rfl
    · exact ih
theorem dk_app {α : Type} (x : Int) : ∀ (l m : List (Int × α)), dk (l ++ m) x = if (gk l x).isSome then dk l x ++ m else l ++ dk m x
  | [], m => rfl
  | p :: l, m => by
    have ih := dk_app x l m
    simp only [List.cons_append, gk, dk]
    by_cases h : p.1 = x
    · simp [h]
    · simp only [h, if_false, ih]
      split <;> simp
theorem dk_none {α : Type} (x : Int) : ∀ (l : List (Int × α)), gk l x = none → dk l x = l
  | [], _ => rfl
  | p :: l, h => by
    simp only [gk] at h
    simp only [dk]
    split at h
    · simp at h
    · rename_i hp
      rw [if_neg hp, dk_none x l h]
theorem sk_none {α : Type} (x : Int) (v : α) : ∀ (l : List (Int × α)), gk l x = none → sk l x v = l ++ [(x, v)]
  | [], _ => rfl
  | p :: l, h => by
    simp only [gk] at h
    simp only [sk, List.cons_append]
    split at h
    · simp at h
    · rename_i hp
      rw [if_neg hp, sk_none x v l h]
theorem gk_mKat (g : Aig) (so : List Bool) (j : Nat) : ∀ k, gk (mKat g so k) (j : Int) = if j < k then stl g so j else none
  | 0 => by simp [mKat, gk]
  | k + 1 => by
    have ih := gk_mKat g so j k
    unfold mKat
    rw [gk_app, ih]
    have hk : gk (if so.getD k false then [((k : Int), initAt g k)] else []) (j : Int) = if j = k then stl g so j else none := by
      unfold stl
      by_cases e : j = k
      · subst e
        cases so.getD j false <;> simp [gk]
      · have : ¬ ((k : Int) = j) := by omega
        rw [if_neg e]
        cases so.getD k false <;> simp [gk, this]
    rw [hk]
    by_cases h : j < k
    · have c : j < k + 1 := by omega
      have c2 : ¬ j = k := by omega
      rw [if_pos h, if_pos c, if_neg c2]
      cases stl g so j <;> rfl
    · rw [if_neg h]
      by_cases h2 : j = k
      · have c : j < k + 1 := by omega
        rw [if_pos h2, if_pos c]
      · have c : ¬ j < k + 1 := by omega
        rw [if_neg h2, if_neg c]
theorem dk_mKat (g : Aig) (so : List Bool) (j : Nat) : ∀ k, dk (mKat g so k) (j : Int) = mKat g (so.set j false) k
  | 0 => rfl
  | k + 1 => by
    have ih := dk_mKat g so j k
    have hg := gk_mKat g so j k
    unfold mKat
    rw [dk_app, set_getD]
    by_cases hs : (gk (mKat g so k) (j : Int)).isSome = true
    · rw [if_pos hs, ih]
      have hjk : j < k := by
        rw [hg] at hs
        split at hs
        · assumption
        · simp at hs
      have c : ¬ j = k := by omega
      rw [if_neg c]
    · rw [if_neg hs]
      have hn : gk (mKat g so k) (j : Int) = none := by
        cases hq : gk (mKat g so k) (j : Int) with
        | none => rfl
        | some v => rw [hq] at hs; simp at hs
      rw [dk_none _ _ hn] at ih
      rw [← ih]
      by_cases e : j = k
      · subst e
        rw [if_pos rfl]
        cases so.getD j false <;> simp [dk]
      · rw [if_neg e]
        cases so.getD k false with
        | false => simp [dk]
        | true =>
          have : ¬ ((k : Int) = j) := by omega
          simp [dk, this]
theorem mKat_len (g : Aig) (so : List Bool) : ∀ k, (mKat g so k).length = cT so k
  | 0 => rfl
  | k + 1 => by
    unfold mKat cT
    rw [List.length_append, mKat_len g so k]
    split <;> rfl
theorem sk_mKat (g : Aig) (i : Nat) (hi : i < g.flops.length) : sk (mKat g (qAll g) i) (i : Int) (initAt g i) = mKat g (qAll g) (i + 1) := by
  have hn : gk (mKat g (qAll g) i) (i : Int) = none := by rw [gk_mKat, if_neg (by omega)]
  rw [sk_none _ _ _ hn]
  conv => rhs; unfold mKat
  have : (qAll g).getD i false = true := by simp [qAll, List.getD_eq_getElem?_getD, hi]
  rw [this]; rfl
end Fil.Rw

namespace Go.Proofs.Ytapnlmhfacoceaa
open Abs Fil Fil.Rw
def encKn : Kn → AV
  | some b => .iface 94 (.bool b)
  | none => .iface 97 (.agg [])
theorem encKn_cells (k : Kn) : cellsA (encKn k) = [encKn k] := by cases k <;> rfl
theorem encKn_one (k : Kn) : oneA (encKn k) = true := by cases k <;> rfl
theorem szs_kn (l : List Kn) : szs 1 (l.map encKn) = True := szs_map _ _ _ fun k => by rw [encKn_cells]; rfl
theorem rw_sure (b : Bool) (σ : Sig) : ACalls Try.prog 114 [.bool b] σ (fun r σ' => r = .ret (encKn (some (!b))) ∧ σ' = σ) := by
  refine calls_x mixed Try.func114 b114 n114 rfl q114 (by simp) ?_; unfold c114 r114
  repeat' (first | simp (maxDischargeDepth := 9) -implicitDefEqProofs -dsimp only [go_sem, seval, *])
  refine fin_eq ?_
  (repeat' (first | simp (maxDischargeDepth := 9) -implicitDefEqProofs -dsimp only [go_sem, seval, encKn, *])) <;> (repeat' refine And.intro ?_ ?_) <;> (first | omega | rfl | assumption | skip)
theorem rw_nothing (σ : Sig) : ACalls Try.prog 115 [.agg []] σ (fun r σ' => r = .ret (encKn none) ∧ σ' = σ) := by
  refine calls_x mixed Try.func115 b115 n115 rfl q115 (by simp) ?_; unfold c115 r115
  repeat' (first | simp (maxDischargeDepth := 9) -implicitDefEqProofs -dsimp only [go_sem, seval, List.length_nil, List.take_nil, List.drop_nil, *])
  refine fin_eq ?_
  (repeat' (first | simp (maxDischargeDepth := 9) -implicitDefEqProofs -dsimp only [go_sem, seval, encKn, *])) <;> (repeat' refine And.intro ?_ ?_) <;> (first | omega | rfl | assumption | skip)
theorem kn_get {v : List Kn} {n : Nat} (h : n < v.length) : v[n] = v.getD n none := by simp [List.getD_eq_getElem?_getD, h]
theorem rw_of (o : Nat) (v : List Kn) (t : Tok) (a : Int) (σ : Sig) (h : σ o = some (.cells [.slice (v.map encKn) t])) (h0 : 0 ≤ a) (h1 : (a / 2).toNat < v.length) (h2 : a ≤ 1000000) :
    ACalls Try.prog 78 [.int .i64 a, .ptr o 0] σ (fun r σ' => r = .ret (encKn (kOf v a)) ∧ σ' = σ) := by
  refine calls_x mixed Try.func78 b78 n78 rfl q78 (by simp) ?_; unfold c78 r78
  have hg := kn_get h1
  obtain ⟨k, hk⟩ : ∃ k, v.getD (a / 2).toNat none = k := ⟨_, rfl⟩
  rw [hk] at hg
  have ho : kOf v a = if a % 2 = 1 then kTurn k else k := by unfold kOf; rw [hk]
  rw [ho]
  have c1 := encKn_cells k
  have c2 := encKn_one k
  clear ho hk
  by_cases he : a % 2 = 1
  · have hb : (a % 2 == 1) = true := by simp [he]
    rw [if_pos he]
    clear he
    cases k with
    | some b =>
      have hs := rw_sure b
      simp only [encKn] at c1 c2 hs
      repeat' (first | simp (maxDischargeDepth := 9) -implicitDefEqProofs -dsimp only [go_sem, seval, encKn, kTurn, *] | simp (disch := omega) only [wrap64, tdiv2, and1] | ((with_reducible refine Zv ?_ ?_); focus (first | omega | exact rfl)) | ((with_reducible refine Zu ?_ ?_); focus omega) | ((with_reducible apply ACalls.one1); (focus ((first | with_reducible refine hs _) <;> (first | (simp (maxDischargeDepth := 9) -implicitDefEqProofs -dsimp only [go_sem, seval, *]; done) | omega))); (focus (first | trivial | with_reducible exact rfl | (simp (maxDischargeDepth := 9) -implicitDefEqProofs -dsimp only [go_sem, seval]; done)))))
      refine fin_eq ?_
      (repeat' (first | simp (maxDischargeDepth := 9) -implicitDefEqProofs -dsimp only [go_sem, seval, encKn, kTurn, *] | simp (disch := omega) only [wrap64, tdiv2, and1])) <;> (repeat' refine And.intro ?_ ?_) <;> (first | omega | rfl | assumption | skip)
    | none =>
      have hs := rw_nothing
      simp only [encKn] at c1 c2 hs
      repeat' (first | simp (maxDischargeDepth := 9) -implicitDefEqProofs -dsimp only [go_sem, seval, encKn, kTurn, *] | simp (disch := omega) only [wrap64, tdiv2, and1] | ((with_reducible refine Zv ?_ ?_); focus (first | omega | exact rfl)) | ((with_reducible refine Zu ?_ ?_); focus omega) | ((with_reducible apply ACalls.one1); (focus ((first | with_reducible refine hs _) <;> (first | (simp (maxDischargeDepth := 9) -implicitDefEqProofs -dsimp only [go_sem, seval, *]; done) | omega))); (focus (first | trivial | with_reducible exact rfl | (simp (maxDischargeDepth := 9) -implicitDefEqProofs -dsimp only [go_sem, seval]; done)))))
      refine fin_eq ?_
      (repeat' (first | simp (maxDischargeDepth := 9) -implicitDefEqProofs -dsimp only [go_sem, seval, encKn, kTurn, *] | simp (disch := omega) only [wrap64, tdiv2, and1])) <;> (repeat' refine And.intro ?_ ?_) <;> (first | omega | rfl | assumption | skip)
  · have hb : (a % 2 == 1) = false := by simp [he]
    rw [if_neg he]
    clear he
    repeat' (first | simp (maxDischargeDepth := 9) -implicitDefEqProofs -dsimp only [go_sem, seval, *] | simp (disch := omega) only [wrap64, tdiv2, and1] | ((with_reducible refine Zv ?_ ?_); focus (first | omega | exact rfl)) | ((with_reducible refine Zu ?_ ?_); focus omega))
    refine fin_eq ?_
    (repeat' (first | simp (maxDischargeDepth := 9) -implicitDefEqProofs -dsimp only [go_sem, seval, *] | simp (disch := omega) only [wrap64, tdiv2, and1])) <;> (repeat' refine And.intro ?_ ?_) <;> (first | omega | rfl | assumption | skip)
def kk (a b : Kn) (i : Nat) : Kn := if i = 0 then a else b
def allK (a b : Kn) : Nat → Bool
  | 0 => true
  | 1 => a.isSome
  | _ => a.isSome && b.isSome
set_option maxHeartbeats 4000000 in
theorem rw_both (a b : Kn) (σ : Sig) : ACalls Try.prog 79 [encKn a, encKn b] σ (fun r σ' => r = .ret (encKn (kBoth a b)) ∧ σ' = σ) := by
  refine calls_x mixed Try.func79 b79 n79 rfl q79 (by simp) ?_; unfold c79 r79
  have c1 := encKn_cells a
  have c2 := encKn_one a
  have c3 := encKn_cells b
  have c4 := encKn_one b
  repeat' (first | simp (maxDischargeDepth := 9) -implicitDefEqProofs -dsimp only [go_sem, seval, *] | simp (disch := omega) only [wrap64] | ((with_reducible refine Zt (fun oF hoF hnF hnF' => ?_)); (try simp only [upd_none, ne_eq, not_and] at hoF)))
  refine loop_rule (fun i : Nat => [(14, some (.int .i64 i)), (13, some (.int .i64 2)), (12, some (.slice [encKn a, encKn b] .no)), (5, some (.bool (allK a b i)))]) (fun _ => σ) (fun i => i ≤ 2 ∧ ∀ j, j < i → kk a b j ≠ some false) (fun i => 2 - i) 0 ?_ ?_
  · (repeat' (first | simp (maxDischargeDepth := 9) -implicitDefEqProofs -dsimp only [go_sem, seval, allK, Int.natCast_zero, *] | simp (disch := omega) only [wrap64])) <;> (repeat' refine And.intro ?_ ?_) <;> (first | omega | rfl | assumption | skip)
  · rintro i ⟨hi, hn⟩
    by_cases hlt : i < 2
    · rcases (show i = 0 ∨ i = 1 by omega) with rfl | rfl
      · clear hlt hi hn
        rcases a with _ | _ | _
        · simp only [encKn] at c1 c2 ⊢
          repeat' (first | simp (maxDischargeDepth := 9) -implicitDefEqProofs -dsimp only [go_sem, seval, true_implies, false_implies, and_true, true_and, ne_eq, not_true_eq_false, not_false_eq_true, Nat.reduceEqDiff, encKn, Int.natCast_zero, allK, *] | simp (disch := omega) only [wrap64] | ((with_reducible refine Zt (fun oF hoF hnF hnF' => ?_)); (try simp only [upd_none, ne_eq, not_and] at hoF)))
          refine loop_next _ _ _ _ 1 ⟨?_, ?_, ⟨by omega, fun j hj => ?_⟩, by omega⟩
          · (repeat' (first | simp (maxDischargeDepth := 9) -implicitDefEqProofs -dsimp only [go_sem, seval, allK, encKn, Int.natCast_one, Int.zero_add, Option.isSome_none, *] | simp (disch := omega) only [wrap64])) <;> (repeat' refine And.intro ?_ ?_) <;> (first | omega | rfl | assumption | skip)
          · (repeat' (first | simp (maxDischargeDepth := 9) -implicitDefEqProofs -dsimp only [go_sem, seval, *] | simp (disch := omega) only [wrap64])) <;> (repeat' refine And.intro ?_ ?_) <;> (first | omega | rfl | assumption | skip)
          · rw [show j = 0 by omega]; simp [kk]
        · simp only [encKn] at c1 c2 ⊢
          repeat' (first | simp (maxDischargeDepth := 9) -implicitDefEqProofs -dsimp only [go_sem, seval, true_implies, false_implies, and_true, true_and, ne_eq, not_true_eq_false, not_false_eq_true, Nat.reduceEqDiff, encKn, Int.natCast_zero, allK, *] | simp (disch := omega) only [wrap64] | ((with_reducible refine Zt (fun oF hoF hnF hnF' => ?_)); (try simp only [upd_none, ne_eq, not_and] at hoF)))
          refine fin_eq ?_
          (repeat' (first | simp (maxDischargeDepth := 9) -implicitDefEqProofs -dsimp only [go_sem, seval, encKn, kBoth, *] | simp (disch := omega) only [wrap64])) <;> (repeat' refine And.intro ?_ ?_) <;> (first | omega | rfl | assumption | skip)
        · simp only [encKn] at c1 c2 ⊢
          repeat' (first | simp (maxDischargeDepth := 9) -implicitDefEqProofs -dsimp only [go_sem, seval, true_implies, false_implies, and_true, true_and, ne_eq, not_true_eq_false, not_false_eq_true, Nat.reduceEqDiff, encKn, Int.natCast_zero, allK, *] | simp (disch := omega) only [wrap64] | ((with_reducible refine Zt (fun oF hoF hnF hnF' => ?_)); (try simp only [upd_none, ne_eq, not_and] at hoF)))
          refine loop_next _ _ _ _ 1 ⟨?_, ?_, ⟨by omega, fun j hj => ?_⟩, by omega⟩
          · (repeat' (first | simp (maxDischargeDepth := 9) -implicitDefEqProofs -dsimp only [go_sem, seval, allK, encKn, Int.natCast_one, Int.zero_add, Option.isSome_some, *] | simp (disch := omega) only [wrap64])) <;> (repeat' refine And.intro ?_ ?_) <;> (first | omega | rfl | assumption | skip)
          · (repeat' (first | simp (maxDischargeDepth := 9) -implicitDefEqProofs -dsimp only [go_sem, seval, *] | simp (disch := omega) only [wrap64])) <;> (repeat' refine And.intro ?_ ?_) <;> (first | omega | rfl | assumption | skip)
          · rw [show j = 0 by omega]; simp [kk]
      · clear hlt hi
        have hn0 := hn 0 (by omega)
        clear hn
        have e2 : kk a b 0 = a := rfl
        rw [e2] at hn0
        rcases b with _ | _ | _
        · simp only [encKn] at c3 c4 ⊢
          repeat' (first | simp (maxDischargeDepth := 9) -implicitDefEqProofs -dsimp only [go_sem, seval, true_implies, false_implies, and_true, true_and, ne_eq, not_true_eq_false, not_false_eq_true, Nat.reduceEqDiff, Int.natCast_one, allK, *] | simp (disch := omega) only [wrap64] | ((with_reducible refine Zt (fun oF hoF hnF hnF' => ?_)); (try simp only [upd_none, ne_eq, not_and] at hoF)))
          refine loop_next _ _ _ _ 2 ⟨?_, ?_, ⟨by omega, fun j hj => ?_⟩, by omega⟩
          · (repeat' (first | simp (maxDischargeDepth := 9) -implicitDefEqProofs -dsimp only [go_sem, seval, allK, encKn, Int.natCast_one, Option.isSome_none, Bool.and_false, *] | simp (disch := omega) only [wrap64])) <;> (repeat' refine And.intro ?_ ?_) <;> (first | omega | rfl | assumption | skip)
          · (repeat' (first | simp (maxDischargeDepth := 9) -implicitDefEqProofs -dsimp only [go_sem, seval, *] | simp (disch := omega) only [wrap64])) <;> (repeat' refine And.intro ?_ ?_) <;> (first | omega | rfl | assumption | skip)
          · rcases (show j = 0 ∨ j = 1 by omega) with rfl | rfl
            · exact hn0
            · simp [kk]
        · simp only [encKn] at c3 c4 ⊢
          have hr : kBoth a (some false) = some false := by rcases a with _ | _ | _ <;> rfl
          repeat' (first | simp (maxDischargeDepth := 9) -implicitDefEqProofs -dsimp only [go_sem, seval, true_implies, false_implies, and_true, true_and, ne_eq, not_true_eq_false, not_false_eq_true, Nat.reduceEqDiff, Int.natCast_one, allK, *] | simp (disch := omega) only [wrap64] | ((with_reducible refine Zt (fun oF hoF hnF hnF' => ?_)); (try simp only [upd_none, ne_eq, not_and] at hoF)))
          refine fin_eq ?_
          (repeat' (first | simp (maxDischargeDepth := 9) -implicitDefEqProofs -dsimp only [go_sem, seval, encKn, hr, *] | simp (disch := omega) only [wrap64])) <;> (repeat' refine And.intro ?_ ?_) <;> (first | omega | rfl | assumption | skip)
        · simp only [encKn] at c3 c4 ⊢
          repeat' (first | simp (maxDischargeDepth := 9) -implicitDefEqProofs -dsimp only [go_sem, seval, true_implies, false_implies, and_true, true_and, ne_eq, not_true_eq_false, not_false_eq_true, Nat.reduceEqDiff, Int.natCast_one, allK, *] | simp (disch := omega) only [wrap64] | ((with_reducible refine Zt (fun oF hoF hnF hnF' => ?_)); (try simp only [upd_none, ne_eq, not_and] at hoF)))
          refine loop_next _ _ _ _ 2 ⟨?_, ?_, ⟨by omega, fun j hj => ?_⟩, by omega⟩
          · (repeat' (first | simp (maxDischargeDepth := 9) -implicitDefEqProofs -dsimp only [go_sem, seval, allK, encKn, Int.natCast_one, Option.isSome_some, Bool.and_true, *] | simp (disch := omega) only [wrap64])) <;> (repeat' refine And.intro ?_ ?_) <;> (first | omega | rfl | assumption | skip)
          · (repeat' (first | simp (maxDischargeDepth := 9) -implicitDefEqProofs -dsimp only [go_sem, seval, *] | simp (disch := omega) only [wrap64])) <;> (repeat' refine And.intro ?_ ?_) <;> (first | omega | rfl | assumption | skip)
          · rcases (show j = 0 ∨ j = 1 by omega) with rfl | rfl
            · exact hn0
            · simp [kk]
    · have e : i = 2 := by omega
      subst e
      have h0 := hn 0 (by omega)
      have h1 := hn 1 (by omega)
      have e0 : kk a b 0 = a := rfl
      have e1 : kk a b 1 = b := rfl
      rw [e0] at h0
      rw [e1] at h1
      clear hn hi hlt c1 c2 c3 c4
      rcases a with _ | _ | _
      · have hr : kBoth none b = none := by
          rcases b with _ | _ | _
          · rfl
          · exact absurd rfl h1
          · rfl
        rw [hr]
        clear h0 h1
        repeat' (first | simp (maxDischargeDepth := 9) -implicitDefEqProofs -dsimp only [go_sem, seval, allK, Option.isSome_none, Bool.false_and, List.length_nil, List.take_nil, *] | simp (disch := omega) only [wrap64] | ((with_reducible refine Zt (fun oF hoF hnF hnF' => ?_)); (try simp only [upd_none, ne_eq, not_and] at hoF)))
        refine fin_eq ?_
        (repeat' (first | simp (maxDischargeDepth := 9) -implicitDefEqProofs -dsimp only [go_sem, seval, encKn, *] | simp (disch := omega) only [wrap64])) <;> (repeat' refine And.intro ?_ ?_) <;> (first | omega | rfl | assumption | skip)
      · exact absurd rfl h0
      · have hr : kBoth (some true) b = b := rfl
        rw [hr]
        rcases b with _ | _ | _
        · clear h0 h1
          repeat' (first | simp (maxDischargeDepth := 9) -implicitDefEqProofs -dsimp only [go_sem, seval, allK, Option.isSome_none, Option.isSome_some, Bool.and_false, *] | simp (disch := omega) only [wrap64] | ((with_reducible refine Zt (fun oF hoF hnF hnF' => ?_)); (try simp only [upd_none, ne_eq, not_and] at hoF)))
          refine fin_eq ?_
          (repeat' (first | simp (maxDischargeDepth := 9) -implicitDefEqProofs -dsimp only [go_sem, seval, encKn, *] | simp (disch := omega) only [wrap64])) <;> (repeat' refine And.intro ?_ ?_) <;> (first | omega | rfl | assumption | skip)
        · exact absurd rfl h1
        · clear h0 h1
          repeat' (first | simp (maxDischargeDepth := 9) -implicitDefEqProofs -dsimp only [go_sem, seval, allK, Option.isSome_some, Bool.and_true, *] | simp (disch := omega) only [wrap64] | ((with_reducible refine Zt (fun oF hoF hnF hnF' => ?_)); (try simp only [upd_none, ne_eq, not_and] at hoF)))
          refine fin_eq ?_
          (repeat' (first | simp (maxDischargeDepth := 9) -implicitDefEqProofs -dsimp only [go_sem, seval, encKn, *] | simp (disch := omega) only [wrap64])) <;> (repeat' refine And.intro ?_ ?_) <;> (first | omega | rfl | assumption | skip)
end Go.Proofs.Ytapnlmhfacoceaa

namespace Go.Proofs.Ytapnlmhfacoceaa
open Abs Fil Fil.Rw
theorem initAt_eq {g : Aig} {i : Nat} (h : i < g.flops.length) : initAt g i = g.flops[i].init := by simp [initAt, List.getD_eq_getElem?_getD, h]
theorem nextAt_eq {g : Aig} {i : Nat} (h : i < g.flops.length) : nextAt g i = g.flops[i].next := by simp [nextAt, List.getD_eq_getElem?_getD, h]
theorem qDel_all {g : Aig} {v : List Kn} {so : List Bool} {i : Nat} (h : i < so.length) (hl : so.length = g.flops.length) : decide (so.set i false = qAll g) = false := by
  simp only [decide_eq_false_iff_not]
  intro e
  have := congrArg (fun l : List Bool => l.getD i true) e
  simp [qAll, List.getD_eq_getElem?_getD, h, ← hl] at this
theorem wrapN (n : Nat) (h : n ≤ 1000000) : IntKind.i64.wrap ((n : Int) + 1) = ((n + 1 : Nat) : Int) := wrap64 _ (by omega) (by omega)
def kOf_d (k : Kn) (b : Bool) : Bool := decide (k = some b)
def kIn (j : Nat) : List Kn := some false :: List.replicate j none
theorem kIn_map (j : Nat) : (kIn (j + 1)).map encKn = (kIn j).map encKn ++ [.iface 97 (.agg [])] := by
  unfold kIn
  rw [List.replicate_succ', ← List.cons_append, List.map_append]; rfl
theorem kIn_len (j : Nat) : (kIn j).length = j + 1 := by simp [kIn]
theorem kFl_map (g : Aig) (so : List Bool) (i : Nat) : (kFl g so (i + 1)).map encKn = (kFl g so i).map encKn ++ [encKn (stl g so i)] := by
  show (kFl g so i ++ [stl g so i]).map encKn = _
  rw [List.map_append]; rfl
theorem kAt_map (g : Aig) (so : List Bool) (i : Nat) : (kAt g so (i + 1)).map encKn = (kAt g so i).map encKn ++ [encKn (kBoth (kOf (kAt g so i) (g.ands.getD i (0, 0)).1) (kOf (kAt g so i) (g.ands.getD i (0, 0)).2))] := by
  show (kAt g so i ++ [_]).map encKn = _
  rw [List.map_append]; rfl
set_option maxRecDepth 20000 in
set_option maxHeartbeats 8000000 in
theorem rw_quiet (g : Aig) (σ : Sig) (hg : Sml g) : ACalls Try.prog 56 [encAig g] σ (NewO σ .map (.map (decide (quietG g = qAll g)) (encK .bool (mKat g (quietG g) g.flops.length)))) := by
  refine calls_x mixed Try.func56 b56 n56 rfl q56 (by simp) ?_; unfold c56 r56
  have hlo := hg.lo
  have h1 := hg.ins
  have h2 := hg.flops
  have h3 := hg.ands
  obtain ⟨N, hN⟩ : ∃ N : Nat, (N : Int) = g.ins := ⟨g.ins.toNat, by omega⟩
  have hN' : g.ins = (N : Int) := hN.symm
  have hN1 : N ≤ 60 := by omega
  have hNt : g.ins.toNat = N := by omega
  clear hN
  repeat' (first | simp (maxDischargeDepth := 9) -implicitDefEqProofs -dsimp only [go_sem, seval, *] | simp (disch := omega) only [wrap64] | ((with_reducible refine Zv ?_ ?_); focus (first | omega | exact rfl)) | ((with_reducible refine Zu ?_ ?_); focus omega) | ((with_reducible refine Zt (fun oF hoF hnF hnF' => ?_)); (try simp only [upd_none, ne_eq, not_and] at hoF)))
  obtain ⟨om, eM⟩ : ∃ x, x = oF := ⟨oF, rfl⟩
  subst eM
  have hσm : σ om = none := hoF
  clear hoF hnF hnF'
  refine loop_rule (fun i : Nat => [(20, some (.int .i64 i)), (19, some (.int .i64 g.flops.length)), (18, some (.slice (g.flops.map encFlop) .no)), (3, some (.map om)), (1, some (.cptr (aigL g)))])
    (fun i => upd σ om (.map true (encK .bool (mKat g (qAll g) i)))) (fun i => i ≤ g.flops.length) (fun i => g.flops.length - i) 0 ?_ ?_
  · (repeat' (first | simp (maxDischargeDepth := 9) -implicitDefEqProofs -dsimp only [go_sem, seval, mKat, encK_nil, Int.natCast_zero, *] | simp (disch := omega) only [wrap64])) <;> (repeat' refine And.intro ?_ ?_) <;> (first | omega | rfl | assumption | skip)
  · intro i hi
    by_cases hlt : i < g.flops.length
    · have hlt' : (i : Int) < g.flops.length := by omega
      have hs := sk_mKat g i hlt
      have hset := set_k AV.bool i (initAt g i) (mKat g (qAll g) i)
      rw [hs] at hset
      have hin := initAt_eq hlt
      obtain ⟨f, hf⟩ : ∃ f, g.flops[i] = f := ⟨_, rfl⟩
      rw [hf] at hin
      rw [hin] at hset
      clear hs hin
      repeat' (first | simp (maxDischargeDepth := 9) -implicitDefEqProofs -dsimp only [go_sem, seval, *] | simp (disch := omega) only [wrap64] | ((with_reducible refine Zv ?_ ?_); focus (first | omega | exact rfl)) | ((with_reducible refine Zu ?_ ?_); focus omega) | ((with_reducible refine Zt (fun oF hoF hnF hnF' => ?_)); (try simp only [upd_none, ne_eq, not_and] at hoF)))
      refine loop_next _ _ _ _ (i + 1) ?_; (repeat' (first | simp (maxDischargeDepth := 9) -implicitDefEqProofs -dsimp only [go_sem, seval, *] | simp (disch := omega) only [wrap64])) <;> (repeat' refine And.intro ?_ ?_) <;> (first | omega | rfl | assumption | skip)
    · have hlt' : ¬ (i : Int) < g.flops.length := by omega
      have ei : i = g.flops.length := by omega
      subst ei
      clear hi hlt
      repeat' (first | simp (maxDischargeDepth := 9) -implicitDefEqProofs -dsimp only [go_sem, seval, *] | simp (disch := omega) only [wrap64] | ((with_reducible refine Zv ?_ ?_); focus (first | omega | exact rfl)) | ((with_reducible refine Zu ?_ ?_); focus omega) | ((with_reducible refine Zt (fun oF hoF hnF hnF' => ?_)); (try simp only [upd_none, ne_eq, not_and] at hoF)))
      refine loop_rule (fun _ : List Bool => [(3, some (.map om)), (1, some (.cptr (aigL g)))])
        (fun x => upd σ om (.map (decide (x = qAll g)) (encK .bool (mKat g x g.flops.length)))) (fun x => x.length = g.flops.length ∧ ∃ k, x = qIt g k ∧ k + cT x g.flops.length ≤ g.flops.length) (fun x => cT x g.flops.length) (qAll g) ?_ ?_
      · refine ⟨?_, ?_, qIt_len g 0, 0, rfl, by have := cT_bound (qAll g) g.flops.length; omega⟩
        · (repeat' (first | simp (maxDischargeDepth := 9) -implicitDefEqProofs -dsimp only [go_sem, seval, *] | simp (disch := omega) only [wrap64])) <;> (repeat' refine And.intro ?_ ?_) <;> (first | omega | rfl | assumption | skip)
        · (repeat' (first | simp (maxDischargeDepth := 9) -implicitDefEqProofs -dsimp only [go_sem, seval, decide_true, *] | simp (disch := omega) only [wrap64])) <;> (repeat' refine And.intro ?_ ?_) <;> (first | omega | rfl | assumption | skip)
      · rintro so ⟨hsl, hso⟩
        have hcb := cT_bound so g.flops.length
        repeat' (first | simp (maxDischargeDepth := 9) -implicitDefEqProofs -dsimp only [go_sem, seval, *] | simp (disch := omega) only [wrap64] | ((with_reducible refine Zv ?_ ?_); focus (first | omega | exact rfl)) | ((with_reducible refine Zu ?_ ?_); focus omega) | ((with_reducible refine Zt (fun oF hoF hnF hnF' => ?_)); (try simp only [upd_none, ne_eq, not_and] at hoF)))
        rename_i oX hnX hnX' hoX
        obtain ⟨ov, eV⟩ : ∃ x, x = oF := ⟨oF, rfl⟩
        subst eV
        have hoV := hoF
        clear hnX hnX' hnF hnF' hoF
        obtain ⟨x1, x2⟩ := hoX
        obtain ⟨v1, v2, v3⟩ := hoV
        have w1 : ¬ oX = ov := fun e => v1 e.symm
        have w2 : ¬ om = ov := fun e => v2 e.symm
        have w3 : ¬ om = oX := fun e => x1 e.symm
        obtain ⟨M, hM⟩ : ∃ M, mKat g so g.flops.length = M := ⟨_, rfl⟩
        have hMl : (encK AV.bool M).length = cT so g.flops.length := by rw [encK_len, ← hM, mKat_len]
        have hMg : ∀ j, j < g.flops.length → gk M (j : Int) = stl g so j := fun j hj => by rw [← hM, gk_mKat, if_pos hj]
        rw [hM]
        obtain ⟨d, hd⟩ : ∃ d, decide (so = qAll g) = d := ⟨_, rfl⟩
        rw [hd]
        refine loop_rule (fun j : Nat => [(34, some (.int .i64 j)), (33, some (.int .i64 N)), (6, some (.ptr ov 0)), (3, some (.map om)), (1, some (.cptr (aigL g)))])
          (fun j => upd (upd (upd σ om (.map d (encK .bool M))) oX (.grow 1 (j + 1))) ov (.cells [.slice ((kIn j).map encKn) (.own oX)])) (fun j => j ≤ N) (fun j => N - j) 0 ?_ ?_
        · have e0 : (kIn 0).map encKn = [.iface 94 (.bool false)] := rfl
          (repeat' (first | simp (maxDischargeDepth := 9) -implicitDefEqProofs -dsimp only [go_sem, seval, e0, Int.natCast_zero, Nat.zero_add, *] | simp (disch := omega) only [wrap64])) <;> (repeat' refine And.intro ?_ ?_) <;> (first | omega | rfl | assumption | skip)
        · intro j hj
          have hkl := kIn_len j
          by_cases hlt : j < N
          · have hlt' : (j : Int) < N := by omega
            have hkm := kIn_map j
            obtain ⟨L, hL⟩ : ∃ L, (kIn j).map encKn = L := ⟨_, rfl⟩
            have hLl : L.length = j + 1 := by rw [← hL, List.length_map, hkl]
            have hsz : szs 1 L = True := by rw [← hL]; exact szs_kn _
            rw [hL] at hkm ⊢
            clear hkl hL hM hMl hMg hso hsl hcb
            repeat' (first | simp (maxDischargeDepth := 9) -implicitDefEqProofs -dsimp only [go_sem, seval, *] | simp (disch := omega) only [wrap64] | ((with_reducible refine Zv ?_ ?_); focus (first | omega | exact rfl)) | ((with_reducible refine Zu ?_ ?_); focus omega) | ((with_reducible refine Zt (fun oF hoF hnF hnF' => ?_)); (try simp only [upd_none, ne_eq, not_and] at hoF)))
            refine loop_next _ _ _ _ (j + 1) ?_; (repeat' (first | simp (maxDischargeDepth := 9) -implicitDefEqProofs -dsimp only [go_sem, seval, *] | simp (disch := omega) only [wrap64])) <;> (repeat' refine And.intro ?_ ?_) <;> (first | omega | rfl | assumption | skip)
          · have hlt' : ¬ (j : Int) < N := by omega
            have ej : N = j := by omega
            subst ej
            have e0 : kIn N = kFl g so 0 := by
              unfold kIn kFl; rw [hNt]
            rw [e0] at hkl ⊢
            clear hlt hj
            repeat' (first | simp (maxDischargeDepth := 9) -implicitDefEqProofs -dsimp only [go_sem, seval, *] | simp (disch := omega) only [wrap64] | ((with_reducible refine Zv ?_ ?_); focus (first | omega | exact rfl)) | ((with_reducible refine Zu ?_ ?_); focus omega) | ((with_reducible refine Zt (fun oF hoF hnF hnF' => ?_)); (try simp only [upd_none, ne_eq, not_and] at hoF)))
            refine loop_rule (fun i : Nat => [(45, some (.int .i64 i)), (44, some (.int .i64 g.flops.length)), (6, some (.ptr ov 0)), (3, some (.map om)), (1, some (.cptr (aigL g)))])
              (fun i => upd (upd (upd σ om (.map d (encK .bool M))) oX (.grow 1 (kFl g so i).length)) ov (.cells [.slice ((kFl g so i).map encKn) (.own oX)])) (fun i => i ≤ g.flops.length) (fun i => g.flops.length - i) 0 ?_ ?_
            · (repeat' (first | simp (maxDischargeDepth := 9) -implicitDefEqProofs -dsimp only [go_sem, seval, Int.natCast_zero, *] | simp (disch := omega) only [wrap64])) <;> (repeat' refine And.intro ?_ ?_) <;> (first | omega | rfl | assumption | skip)
            · intro i hi
              have hkl := kFl_len g so i
              by_cases hlt : i < g.flops.length
              · have hlt' : (i : Int) < g.flops.length := by omega
                have hkm := kFl_map g so i
                have hlk := look_k AV.bool (i : Int) M
                rw [hMg i hlt] at hlk
                have hl1 : (kFl g so (i + 1)).length = (kFl g so i).length + 1 := by rw [kFl_len, kFl_len]; omega
                have hl2 : (kFl g so i).length ≤ 1000 := by omega
                obtain ⟨l, hl⟩ : ∃ l, kFl g so i = l := ⟨_, rfl⟩
                rw [hl] at hkm hl1 hl2 ⊢
                have hsz := szs_kn l
                have hki := key_int i
                clear hkl hl hM hMl hMg hso hsl hcb
                obtain ⟨s, hs⟩ : ∃ s, stl g so i = s := ⟨_, rfl⟩
                rw [hs] at hlk hkm
                cases s with
                | none =>
                  simp only [encKn] at hkm
                  repeat' (first | simp (maxDischargeDepth := 9) -implicitDefEqProofs -dsimp only [go_sem, seval, Option.map_none, Option.getD_none, Option.isSome_none, *] | simp (disch := omega) only [wrap64] | ((with_reducible refine Zv ?_ ?_); focus (first | omega | exact rfl)) | ((with_reducible refine Zu ?_ ?_); focus omega) | ((with_reducible refine Zt (fun oF hoF hnF hnF' => ?_)); (try simp only [upd_none, ne_eq, not_and] at hoF)))
                  refine loop_next _ _ _ _ (i + 1) ?_; (repeat' (first | simp (maxDischargeDepth := 9) -implicitDefEqProofs -dsimp only [go_sem, seval, *] | simp (disch := omega) only [wrap64])) <;> (repeat' refine And.intro ?_ ?_) <;> (first | omega | rfl | assumption | skip)
                | some b =>
                  simp only [encKn] at hkm
                  repeat' (first | simp (maxDischargeDepth := 9) -implicitDefEqProofs -dsimp only [go_sem, seval, Option.map_some, Option.getD_some, Option.isSome_some, *] | simp (disch := omega) only [wrap64] | ((with_reducible refine Zv ?_ ?_); focus (first | omega | exact rfl)) | ((with_reducible refine Zu ?_ ?_); focus omega) | ((with_reducible refine Zt (fun oF hoF hnF hnF' => ?_)); (try simp only [upd_none, ne_eq, not_and] at hoF)))
                  refine loop_next _ _ _ _ (i + 1) ?_; (repeat' (first | simp (maxDischargeDepth := 9) -implicitDefEqProofs -dsimp only [go_sem, seval, *] | simp (disch := omega) only [wrap64])) <;> (repeat' refine And.intro ?_ ?_) <;> (first | omega | rfl | assumption | skip)
              · have hlt' : ¬ (i : Int) < g.flops.length := by omega
                have ei : i = g.flops.length := by omega
                subst ei
                have e0 : kFl g so g.flops.length = kAt g so 0 := rfl
                rw [e0] at hkl ⊢
                clear hlt hi
                repeat' (first | simp (maxDischargeDepth := 9) -implicitDefEqProofs -dsimp only [go_sem, seval, *] | simp (disch := omega) only [wrap64] | ((with_reducible refine Zv ?_ ?_); focus (first | omega | exact rfl)) | ((with_reducible refine Zu ?_ ?_); focus omega) | ((with_reducible refine Zt (fun oF hoF hnF hnF' => ?_)); (try simp only [upd_none, ne_eq, not_and] at hoF)))
                refine loop_rule (fun i : Nat => [(70, some (.int .i64 i)), (69, some (.int .i64 g.ands.length)), (68, some (.slice (g.ands.map encGate) .no)), (10, some (.fn 78 [] [.ptr ov 0])), (6, some (.ptr ov 0)), (3, some (.map om)), (1, some (.cptr (aigL g)))])
                  (fun i => upd (upd (upd σ om (.map d (encK .bool M))) oX (.grow 1 (kAt g so i).length)) ov (.cells [.slice ((kAt g so i).map encKn) (.own oX)])) (fun i => i ≤ g.ands.length) (fun i => g.ands.length - i) 0 ?_ ?_
                · (repeat' (first | simp (maxDischargeDepth := 9) -implicitDefEqProofs -dsimp only [go_sem, seval, Int.natCast_zero, *] | simp (disch := omega) only [wrap64])) <;> (repeat' refine And.intro ?_ ?_) <;> (first | omega | rfl | assumption | skip)
                · intro i hi
                  have hkl := kAt_len g so i
                  rw [hNt] at hkl
                  by_cases hlt : i < g.ands.length
                  · have hlt' : (i : Int) < g.ands.length := by omega
                    have hkm := kAt_map g so i
                    obtain ⟨⟨a1, a2⟩, a3, a4⟩ := gate_bounds hg hlt
                    have hgd := ands_getD hlt
                    rw [hgd] at hkm
                    have hfst : g.first = 1 + N + g.flops.length := by simp only [Aig.first, hN']
                    have hl1 : (kAt g so (i + 1)).length = (kAt g so i).length + 1 := by rw [kAt_len, kAt_len]; omega
                    have hl2 : (kAt g so i).length ≤ 1000 := by omega
                    obtain ⟨l, hl⟩ : ∃ l, kAt g so i = l := ⟨_, rfl⟩
                    rw [hl] at hkm hl1 hl2 hkl ⊢
                    have hsz := szs_kn l
                    have o1 := fun τ hB => rw_of ov l (.own oX) g.ands[i].1 τ hB a1 (by omega) (by omega)
                    have o2 := fun τ hB => rw_of ov l (.own oX) g.ands[i].2 τ hB a3 (by omega) (by omega)
                    obtain ⟨k1, hk1⟩ : ∃ k, kOf l g.ands[i].1 = k := ⟨_, rfl⟩
                    obtain ⟨k2, hk2⟩ : ∃ k, kOf l g.ands[i].2 = k := ⟨_, rfl⟩
                    rw [hk1] at o1 hkm
                    rw [hk2] at o2 hkm
                    have o3 := rw_both k1 k2
                    obtain ⟨k3, hk3⟩ : ∃ k, kBoth k1 k2 = k := ⟨_, rfl⟩
                    rw [hk3] at o3 hkm
                    have c1 := encKn_cells k3
                    have c2 := encKn_one k3
                    clear hkl hl hM hMl hMg hso hsl hcb hk1 hk2 hk3 a1 a2 a3 a4 hgd hfst
                    repeat' (first | simp (maxDischargeDepth := 9) -implicitDefEqProofs -dsimp only [go_sem, seval, *] | simp (disch := omega) only [wrap64] | ((with_reducible refine Zv ?_ ?_); focus (first | omega | exact rfl)) | ((with_reducible refine Zu ?_ ?_); focus omega) | ((with_reducible refine Zt (fun oF hoF hnF hnF' => ?_)); (try simp only [upd_none, ne_eq, not_and] at hoF)) | ((with_reducible apply id_one0); (focus (intro tS hS; ((first | with_reducible refine o1 _ ?_ | with_reducible refine o2 _ ?_ | with_reducible refine o3 _) <;> (first | (simp (maxDischargeDepth := 9) -implicitDefEqProofs -dsimp only [go_sem, seval, *]; done) | omega | ((with_reducible refine Sub.get hS ?_); simp (maxDischargeDepth := 9) -implicitDefEqProofs -dsimp only [go_sem, seval, *]; done))))); (focus (first | trivial | (simp (maxDischargeDepth := 9) -implicitDefEqProofs -dsimp only [go_sem, seval, *]; done)))))
                    refine loop_next _ _ _ _ (i + 1) ?_; (repeat' (first | simp (maxDischargeDepth := 9) -implicitDefEqProofs -dsimp only [go_sem, seval, *] | simp (disch := omega) only [wrap64])) <;> (repeat' refine And.intro ?_ ?_) <;> (first | omega | rfl | assumption | skip)
                  · have hlt' : ¬ (i : Int) < g.ands.length := by omega
                    have ei : i = g.ands.length := by omega
                    subst ei
                    clear hlt hi
                    repeat' (first | simp (maxDischargeDepth := 9) -implicitDefEqProofs -dsimp only [go_sem, seval, *] | simp (disch := omega) only [wrap64] | ((with_reducible refine Zv ?_ ?_); focus (first | omega | exact rfl)) | ((with_reducible refine Zu ?_ ?_); focus omega) | ((with_reducible refine Zt (fun oF hoF hnF hnF' => ?_)); (try simp only [upd_none, ne_eq, not_and] at hoF)))
                    obtain ⟨v, hv⟩ : ∃ v, kAt g so g.ands.length = v := ⟨_, rfl⟩
                    rw [hv] at hkl ⊢
                    have hstep : qStep g so = qDel g v so g.flops.length := by unfold qStep; rw [hv]
                    subst hd
                    subst hM
                    refine loop_rule (fun i : Nat => [(92, some (.int .i64 i)), (91, some (.int .i64 g.flops.length)), (90, some (.slice (g.flops.map encFlop) .no)), (10, some (.fn 78 [] [.ptr ov 0])), (13, some (.int .i64 (cT so g.flops.length))), (3, some (.map om)), (1, some (.cptr (aigL g)))])
                      (fun i => upd (upd (upd σ om (.map (decide (qDel g v so i = qAll g)) (encK .bool (mKat g (qDel g v so i) g.flops.length)))) oX (.grow 1 v.length)) ov (.cells [.slice (v.map encKn) (.own oX)])) (fun i => i ≤ g.flops.length) (fun i => g.flops.length - i) 0 ?_ ?_
                    · have e0 : qDel g v so 0 = so := rfl
                      (repeat' (first | simp (maxDischargeDepth := 9) -implicitDefEqProofs -dsimp only [go_sem, seval, Int.natCast_zero, e0, *] | simp (disch := omega) only [wrap64])) <;> (repeat' refine And.intro ?_ ?_) <;> (first | omega | rfl | assumption | skip)
                    · intro i hi
                      have hql := qDel_len g v so i
                      rw [hsl] at hql
                      by_cases hlt : i < g.flops.length
                      · have hlt' : (i : Int) < g.flops.length := by omega
                        have hnx := good_flops hg.good (List.getElem_mem hlt)
                        have cf := count_first g
                        have hfst : g.first = 1 + N + g.flops.length := by simp only [Aig.first, hN']
                        have e1 := nextAt_eq hlt
                        have e2 := initAt_eq hlt
                        have hqs : qDel g v so (i + 1) = if kOf v (nextAt g i) = some (initAt g i) then qDel g v so i else (qDel g v so i).set i false := rfl
                        rw [e1, e2] at hqs
                        have hdk := dk_mKat g (qDel g v so i) i g.flops.length
                        have hda := qDel_all (g := g) (v := v) (so := qDel g v so i) (i := i) (by omega) hql
                        have hdel := del_k AV.bool (i : Int) (mKat g (qDel g v so i) g.flops.length)
                        rw [hdk] at hdel
                        obtain ⟨f, hf⟩ : ∃ f, g.flops[i] = f := ⟨_, rfl⟩
                        rw [hf] at hnx hqs
                        have o1 := fun τ hB => rw_of ov v (.own oX) f.next τ hB hnx.1 (by omega) (by omega)
                        obtain ⟨k, hk⟩ : ∃ k, kOf v f.next = k := ⟨_, rfl⟩
                        rw [hk] at o1 hqs
                        obtain ⟨q, hq⟩ : ∃ q, qDel g v so i = q := ⟨_, rfl⟩
                        rw [hq] at hqs hdel hda hql ⊢
                        have hki := key_int i
                        clear hkl hso hsl hcb hk hq e1 e2 hnx cf hfst hstep hdk hMl hMg hv
                        have hdel2 : ∀ b, kOf_d k f.init = b → b = false → qDel g v so (i + 1) = q.set i false := fun b h1 h2 => by
                          rw [hqs, if_neg]
                          intro e
                          rw [e] at h1
                          rw [h2] at h1
                          simp [kOf_d] at h1
                        have hkeep : kOf_d k f.init = true → qDel g v so (i + 1) = q := fun h1 => by
                          rw [hqs, if_pos]
                          simpa [kOf_d] using h1
                        have hi1 : IntKind.i64.wrap ((i : Int) + 1) = ((i + 1 : Nat) : Int) := wrapN i (by omega)
                        clear hqs
                        rcases k with _ | b
                        · have hS := hdel2 _ rfl rfl
                          simp only [encKn] at o1
                          clear hdel2 hkeep
                          repeat' (first | simp (maxDischargeDepth := 9) -implicitDefEqProofs -dsimp only [go_sem, seval, Nat.reduceEqDiff, *] | simp (disch := omega) only [wrap64] | ((with_reducible refine Zv ?_ ?_); focus (first | omega | exact rfl)) | ((with_reducible refine Zu ?_ ?_); focus omega) | ((with_reducible refine Zt (fun oF hoF hnF hnF' => ?_)); (try simp only [upd_none, ne_eq, not_and] at hoF)) | ((with_reducible apply id_one0); (focus (intro tS hS; ((first | with_reducible refine o1 _ ?_) <;> (first | (simp (maxDischargeDepth := 9) -implicitDefEqProofs -dsimp only [go_sem, seval, *]; done) | omega | ((with_reducible refine Sub.get hS ?_); simp (maxDischargeDepth := 9) -implicitDefEqProofs -dsimp only [go_sem, seval, *]; done))))); (focus (first | trivial | (simp (maxDischargeDepth := 9) -implicitDefEqProofs -dsimp only [go_sem, seval, *]; done)))))
                          refine loop_next _ _ _ _ (i + 1) ?_; (repeat' (first | simp (maxDischargeDepth := 9) -implicitDefEqProofs -dsimp only [go_sem, seval, *] | simp (disch := omega) only [wrap64])) <;> (repeat' refine And.intro ?_ ?_) <;> (first | omega | rfl | assumption | skip)
                        · by_cases hb : b = f.init
                          · have hS := hkeep (by simp [kOf_d, hb])
                            have hb2 : (b == f.init) = true := by simp [hb]
                            simp only [encKn] at o1
                            clear hdel2 hkeep hb hdel hda
                            repeat' (first | simp (maxDischargeDepth := 9) -implicitDefEqProofs -dsimp only [go_sem, seval, Nat.reduceEqDiff, *] | simp (disch := omega) only [wrap64] | ((with_reducible refine Zv ?_ ?_); focus (first | omega | exact rfl)) | ((with_reducible refine Zu ?_ ?_); focus omega) | ((with_reducible refine Zt (fun oF hoF hnF hnF' => ?_)); (try simp only [upd_none, ne_eq, not_and] at hoF)) | ((with_reducible apply id_one0); (focus (intro tS hS; ((first | with_reducible refine o1 _ ?_) <;> (first | (simp (maxDischargeDepth := 9) -implicitDefEqProofs -dsimp only [go_sem, seval, *]; done) | omega | ((with_reducible refine Sub.get hS ?_); simp (maxDischargeDepth := 9) -implicitDefEqProofs -dsimp only [go_sem, seval, *]; done))))); (focus (first | trivial | (simp (maxDischargeDepth := 9) -implicitDefEqProofs -dsimp only [go_sem, seval, *]; done)))))
                            refine loop_next _ _ _ _ (i + 1) ?_; (repeat' (first | simp (maxDischargeDepth := 9) -implicitDefEqProofs -dsimp only [go_sem, seval, *] | simp (disch := omega) only [wrap64])) <;> (repeat' refine And.intro ?_ ?_) <;> (first | omega | rfl | assumption | skip)
                          · have hS := hdel2 _ rfl (by simp [kOf_d, hb])
                            have hb2 : (b == f.init) = false := by simp [hb]
                            simp only [encKn] at o1
                            clear hdel2 hkeep hb
                            repeat' (first | simp (maxDischargeDepth := 9) -implicitDefEqProofs -dsimp only [go_sem, seval, Nat.reduceEqDiff, *] | simp (disch := omega) only [wrap64] | ((with_reducible refine Zv ?_ ?_); focus (first | omega | exact rfl)) | ((with_reducible refine Zu ?_ ?_); focus omega) | ((with_reducible refine Zt (fun oF hoF hnF hnF' => ?_)); (try simp only [upd_none, ne_eq, not_and] at hoF)) | ((with_reducible apply id_one0); (focus (intro tS hS; ((first | with_reducible refine o1 _ ?_) <;> (first | (simp (maxDischargeDepth := 9) -implicitDefEqProofs -dsimp only [go_sem, seval, *]; done) | omega | ((with_reducible refine Sub.get hS ?_); simp (maxDischargeDepth := 9) -implicitDefEqProofs -dsimp only [go_sem, seval, *]; done))))); (focus (first | trivial | (simp (maxDischargeDepth := 9) -implicitDefEqProofs -dsimp only [go_sem, seval, *]; done)))))
                            refine loop_next _ _ _ _ (i + 1) ?_; (repeat' (first | simp (maxDischargeDepth := 9) -implicitDefEqProofs -dsimp only [go_sem, seval, *] | simp (disch := omega) only [wrap64])) <;> (repeat' refine And.intro ?_ ?_) <;> (first | omega | rfl | assumption | skip)
                      · have hlt' : ¬ (i : Int) < g.flops.length := by omega
                        have ei : i = g.flops.length := by omega
                        subst ei
                        rw [← hstep] at hql ⊢
                        obtain ⟨k, hk, hks⟩ := hso
                        have hlen : (encK AV.bool (mKat g (qStep g so) g.flops.length)).length = cT (qStep g so) g.flops.length := by rw [encK_len, mKat_len]
                        rcases qStep_cases hsl with ⟨he, hc⟩ | ⟨hne, hc⟩
                        · have hq : so = quietG g := by rw [hk]; exact quiet_end (by omega) (by rw [← hk]; exact he)
                          have hb : (((cT (qStep g so) g.flops.length : Nat) : Int) == ((cT so g.flops.length : Nat) : Int)) = true := by simp [hc]
                          rw [← hq]
                          rw [he] at hlen hb ⊢
                          clear hk hks hq hMl hMg hv hstep hc he hkl
                          repeat' (first | simp (maxDischargeDepth := 9) -implicitDefEqProofs -dsimp only [go_sem, seval, *] | simp (disch := omega) only [wrap64] | ((with_reducible refine Zv ?_ ?_); focus (first | omega | exact rfl)) | ((with_reducible refine Zu ?_ ?_); focus omega) | ((with_reducible refine Zt (fun oF hoF hnF hnF' => ?_)); (try simp only [upd_none, ne_eq, not_and] at hoF)))
                          refine fin_new om hσm ?_
                          (repeat' (first | simp (maxDischargeDepth := 9) -implicitDefEqProofs -dsimp only [go_sem, seval, *] | simp (disch := omega) only [wrap64])) <;> (repeat' refine And.intro ?_ ?_) <;> (first | omega | rfl | assumption | skip)
                        · have hb : (((cT (qStep g so) g.flops.length : Nat) : Int) == ((cT so g.flops.length : Nat) : Int)) = false := by
                            simp only [beq_eq_false_iff_ne, ne_eq]; omega
                          have hso2 : qStep g so = qIt g (k + 1) := by rw [hk]; rfl
                          have hsl2 : (qStep g so).length = g.flops.length := by rw [qStep_len]; exact hsl
                          have hks2 : k + 1 + cT (qStep g so) g.flops.length ≤ g.flops.length := by omega
                          obtain ⟨q, hq⟩ : ∃ q, qStep g so = q := ⟨_, rfl⟩
                          rw [hq] at hlen hb hso2 hsl2 hks2 hc ⊢
                          have hinv : Hd (q.length = g.flops.length ∧ ∃ k, q = qIt g k ∧ k + cT q g.flops.length ≤ g.flops.length) := ⟨⟨hsl2, k + 1, hso2, hks2⟩⟩
                          clear hk hks hq hMl hMg hv hstep hne hkl hql hso2 hsl2 hks2
                          repeat' (first | simp (maxDischargeDepth := 9) -implicitDefEqProofs -dsimp only [go_sem, seval, *] | simp (disch := omega) only [wrap64] | ((with_reducible refine Zv ?_ ?_); focus (first | omega | exact rfl)) | ((with_reducible refine Zu ?_ ?_); focus omega) | ((with_reducible refine Zt (fun oF hoF hnF hnF' => ?_)); (try simp only [upd_none, ne_eq, not_and] at hoF)))
                          refine loop_next _ _ _ _ q ⟨?_, ?_, hinv.out, hc⟩
                          · (repeat' (first | simp (maxDischargeDepth := 9) -implicitDefEqProofs -dsimp only [go_sem, seval, *] | simp (disch := omega) only [wrap64])) <;> (repeat' refine And.intro ?_ ?_) <;> (first | omega | rfl | assumption | skip)
                          · (repeat' (first | simp (maxDischargeDepth := 9) -implicitDefEqProofs -dsimp only [go_sem, seval, *] | simp (disch := omega) only [wrap64])) <;> (repeat' refine And.intro ?_ ?_) <;> (first | omega | rfl | assumption | skip)
end Go.Proofs.Ytapnlmhfacoceaa

namespace Go.Proofs.Ytapnlmhfacoceaa
open Abs Fil Fil.Rw
set_option maxHeartbeats 4000000 in
theorem rw_Still (g : Aig) (σ : Sig) (hg : Sml g) : ACalls Try.prog 22 [encAig g] σ (fun r σ' => r = .ret (.tup [encAig (still g), .int .i64 0]) ∧ σ' = σ) := by
  refine calls_x mixed Try.func22 b22 n22 rfl q22 (by simp) ?_; unfold c22 r22
  have ez : ((0 : Int) != 0) = false := by decide
  have hck := fun τ => A.aig_Check g τ hg.wf
  rw [hg.chk] at hck
  repeat' (first | simp (maxDischargeDepth := 9) -implicitDefEqProofs -dsimp only [go_sem, seval, *] | ((with_reducible refine Zt (fun oF hoF hnF hnF' => ?_)); (try simp only [upd_none, ne_eq, not_and] at hoF)) | ((with_reducible apply ACalls.one1); (focus ((first | with_reducible refine hck _) <;> (first | (simp (maxDischargeDepth := 9) -implicitDefEqProofs -dsimp only [go_sem, seval, *]; done) | omega))); (focus (first | trivial | with_reducible exact rfl | (simp (maxDischargeDepth := 9) -implicitDefEqProofs -dsimp only [go_sem, seval]; done)))))
  refine id_new ren_map (fun τ _ => rw_quiet g τ hg) ?_
  intro oQ hoQ hnQ hnQ'
  simp only [upd_none, ne_eq, not_and] at hoQ
  have hQ2 : ¬ oF = oQ := fun e => hoQ.1 e.symm
  have hh := fun τ (h : τ oQ = some (.map (decide (quietG g = qAll g)) (encK .bool (mKat g (quietG g) g.flops.length)))) => rw_hashed g (stl g (quietG g)) (.map oQ) τ (.inr ⟨oQ, _, _, rfl, h, fun i hi => by rw [look_k, gk_mKat, if_pos hi]⟩) hg
  have e0 : Rw.hashed g (stl g (quietG g)) = still g := rfl
  rw [e0] at hh
  repeat' (first | simp (maxDischargeDepth := 9) -implicitDefEqProofs -dsimp only [go_sem, seval, *] | ((with_reducible refine Zt (fun oF hoF hnF hnF' => ?_)); (try simp only [upd_none, ne_eq, not_and] at hoF)) | ((with_reducible apply ACalls.one1); (focus ((first | with_reducible refine hh _ ?_) <;> (first | (simp (maxDischargeDepth := 9) -implicitDefEqProofs -dsimp only [go_sem, seval, *]; done) | omega))); (focus (first | trivial | with_reducible exact rfl | (simp (maxDischargeDepth := 9) -implicitDefEqProofs -dsimp only [go_sem, seval]; done)))) | ((with_reducible apply id_one0); (focus (intro tS hS; ((first | with_reducible refine hh _ ?_) <;> (first | (simp (maxDischargeDepth := 9) -implicitDefEqProofs -dsimp only [go_sem, seval, *]; done) | omega | ((with_reducible refine Sub.get hS ?_); simp (maxDischargeDepth := 9) -implicitDefEqProofs -dsimp only [go_sem, seval, *]; done))))); (focus (first | trivial | (simp (maxDischargeDepth := 9) -implicitDefEqProofs -dsimp only [go_sem, seval, *]; done)))))
  refine fin_eq ?_
  (repeat' (first | simp (maxDischargeDepth := 9) -implicitDefEqProofs -dsimp only [go_sem, seval, *])) <;> (repeat' refine And.intro ?_ ?_) <;> (first | omega | rfl | assumption | skip)
theorem rw_Balance_err (g : Aig) (e : Int) (σ : Sig) (hs : Wf g) (he : g.check = e) (h0 : e ≠ 0) : ACalls Try.prog 20 [encAig g] σ (fun r σ' => r = .ret (.tup [encAig ⟨0, [], [], []⟩, .int .i64 e]) ∧ σ' = σ) := by
  refine calls_x mixed Try.func20 b20 n20 rfl q20 (by simp) ?_; unfold c20 r20
  have hb : (e != 0) = true := by simpa using h0
  have hck := fun τ => A.aig_Check g τ hs
  rw [he] at hck
  repeat' (first | simp (maxDischargeDepth := 9) -implicitDefEqProofs -dsimp only [go_sem, seval, *] | ((with_reducible refine Zt (fun oF hoF hnF hnF' => ?_)); (try simp only [upd_none, ne_eq, not_and] at hoF)) | ((with_reducible apply ACalls.one1); (focus ((first | with_reducible refine hck _) <;> (first | (simp (maxDischargeDepth := 9) -implicitDefEqProofs -dsimp only [go_sem, seval, *]; done) | omega))); (focus (first | trivial | with_reducible exact rfl | (simp (maxDischargeDepth := 9) -implicitDefEqProofs -dsimp only [go_sem, seval]; done)))))
  refine fin_eq ?_
  (repeat' (first | simp (maxDischargeDepth := 9) -implicitDefEqProofs -dsimp only [go_sem, seval, List.map_nil, *])) <;> (repeat' refine And.intro ?_ ?_) <;> (first | omega | rfl | assumption | skip)
end Go.Proofs.Ytapnlmhfacoceaa

