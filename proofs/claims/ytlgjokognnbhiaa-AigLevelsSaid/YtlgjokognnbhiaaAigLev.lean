/- How deep gates are. -/
import Derived.Test.YtlgjokognnbhiaaAigStab
set_option linter.unusedSimpArgs false
set_option linter.unusedVariables false
namespace Fil
open Abs

theorem levs_prefix : ∀ (l : List (Int × Int)) (v : List Int), ∃ m, Aig.levs v l = v ++ m
  | [], v => ⟨[], by simp [Aig.levs]⟩
  | x :: l, v => by
    obtain ⟨m, hm⟩ := levs_prefix l (v ++ [1 + max (v.getD (x.1 / 2).toNat 0) (v.getD (x.2 / 2).toNat 0)])
    exact ⟨_ :: m, by rw [Aig.levs, hm, List.append_assoc]; rfl⟩

/-- The levels of gates that may be. -/
def Aig.lv (g : Aig) : List Int := Aig.levs (List.replicate g.first.toNat 0) g.ands

theorem levels_eq {g : Aig} (hc : g.check = 0) : g.Levels = (g.lv, 0) := by simp [Aig.Levels, hc, Aig.lv]
theorem lv_length {g : Aig} (hf : Fine g) : ((g.lv.length : Nat) : Int) = 1 + g.count := by
  have hlo := hf.lo
  unfold Aig.lv
  rw [levs_length, List.length_replicate, count_first]
  unfold Aig.first; omega
theorem lv_bound {g : Aig} (hf : Fine g) : ∀ x ∈ g.lv, 0 ≤ x ∧ x ≤ 1000000 := fun x hx => by
  have := levs_bound g.ands (List.replicate g.first.toNat 0) 0 (fun y hy => by simp at hy; omega) (by omega) x hx
  have := hf.ands
  omega
theorem lv_zero {g : Aig} {i : Nat} (h : (i : Int) < g.first) (hl : i < g.lv.length) : g.lv[i] = 0 := by
  have h0 : i < (List.replicate g.first.toNat (0 : Int)).length := by rw [List.length_replicate]; omega
  obtain ⟨m, e⟩ := levs_prefix g.ands (List.replicate g.first.toNat 0)
  have : g.lv[i]? = some 0 := by
    unfold Aig.lv
    rw [e, List.getElem?_append_left h0, List.getElem?_replicate]
    rw [List.length_replicate] at h0
    simp [h0]
  rw [List.getElem?_eq_getElem hl] at this
  exact Option.some.inj this
theorem lv_gate {g : Aig} (hf : Fine g) {k : Nat} (hk : k < g.ands.length) {i : Nat} (hi : (i : Int) = g.first + k) (hl : i < g.lv.length) :
    ∃ (h1 : (g.ands[k].1 / 2).toNat < g.lv.length) (h2 : (g.ands[k].2 / 2).toNat < g.lv.length), g.lv[i] = max g.lv[(g.ands[k].1 / 2).toNat] g.lv[(g.ands[k].2 / 2).toNat] + 1 := by
  have hlo := hf.lo
  have hg := gatesOk_iff.1 hf.gok k hk
  have st := levs_step (v := List.replicate g.first.toNat 0) hk
  have ln := levs_len (v := List.replicate g.first.toNat 0) (l := g.ands) (i := k) (by omega)
  rw [List.length_replicate] at ln
  have sp : g.ands = g.ands.take (k + 1) ++ g.ands.drop (k + 1) := (List.take_append_drop _ _).symm
  have sp' : g.ands = g.ands.take k ++ g.ands.drop k := (List.take_append_drop _ _).symm
  obtain ⟨m, e⟩ := levs_prefix (g.ands.drop (k + 1)) (Aig.levs (List.replicate g.first.toNat 0) (g.ands.take (k + 1)))
  obtain ⟨m', e'⟩ := levs_prefix (g.ands.drop k) (Aig.levs (List.replicate g.first.toNat 0) (g.ands.take k))
  rw [← levs_append, ← sp, st] at e
  rw [← levs_append, ← sp'] at e'
  have hff : 0 ≤ g.first := by unfold Aig.first; omega
  have a1 : (g.ands[k].1 / 2).toNat < (Aig.levs (List.replicate g.first.toNat 0) (g.ands.take k)).length := by omega
  have a2 : (g.ands[k].2 / 2).toNat < (Aig.levs (List.replicate g.first.toNat 0) (g.ands.take k)).length := by omega
  have b1 : (g.ands[k].1 / 2).toNat < g.lv.length := by omega
  have b2 : (g.ands[k].2 / 2).toNat < g.lv.length := by omega
  refine ⟨b1, b2, ?_⟩
  have q1 : g.lv[(g.ands[k].1 / 2).toNat]? = (Aig.levs (List.replicate g.first.toNat 0) (g.ands.take k))[(g.ands[k].1 / 2).toNat]? := by
    unfold Aig.lv; rw [e', List.getElem?_append_left a1]
  have q2 : g.lv[(g.ands[k].2 / 2).toNat]? = (Aig.levs (List.replicate g.first.toNat 0) (g.ands.take k))[(g.ands[k].2 / 2).toNat]? := by
    unfold Aig.lv; rw [e', List.getElem?_append_left a2]
  have hi' : i = (Aig.levs (List.replicate g.first.toNat 0) (g.ands.take k)).length := by omega
  have q3 : g.lv[i]? = some (1 + max g.lv[(g.ands[k].1 / 2).toNat] g.lv[(g.ands[k].2 / 2).toNat]) := by
    have c1 : g.lv[(g.ands[k].1 / 2).toNat] = (Aig.levs (List.replicate g.first.toNat 0) (g.ands.take k)).getD (g.ands[k].1 / 2).toNat 0 := by
      rw [List.getD_eq_getElem?_getD, ← q1, List.getElem?_eq_getElem b1]; rfl
    have c2 : g.lv[(g.ands[k].2 / 2).toNat] = (Aig.levs (List.replicate g.first.toNat 0) (g.ands.take k)).getD (g.ands[k].2 / 2).toNat 0 := by
      rw [List.getD_eq_getElem?_getD, ← q2, List.getElem?_eq_getElem b2]; rfl
    rw [c1, c2]
    show (Aig.levs _ g.ands)[i]? = _
    rw [e, hi', List.append_assoc, List.getElem?_append_right (Nat.le_refl _)]
    simp
  rw [List.getElem?_eq_getElem hl] at q3
  have := Option.some.inj q3
  omega

/-- A gate more. -/
theorem andO_cases {g h : Aig} {p q x : Int} (ho : g.andO p q = some (h, x)) : h = g ∨ (h = { g with ands := g.ands ++ [(min p q, max p q)] } ∧ x = 2 * (g.count + 1)) := by
  unfold Aig.andO at ho
  simp only at ho
  split at ho
  · simp at ho; exact .inl ho.1.symm
  · split at ho
    · simp at ho; exact .inl ho.1.symm
    · split at ho
      · simp at ho; exact .inl ho.1.symm
      · split at ho
        · simp at ho
        · simp at ho; exact .inr ⟨ho.1.symm, ho.2.symm⟩

theorem lev_and {g : Aig} (hs : Wf g) {a b top : Int} (h : (g.And a b).2.2 = 0) (ht : ∀ y ∈ g.lv, y ≤ top) :
    ∃ i, 0 ≤ (g.And a b).2.1 ∧ ((g.And a b).2.1 / 2).toNat = i ∧ ∃ hi : i < (g.And a b).1.lv.length, (g.And a b).1.lv[i] ≤ top + 1 := by
  have hr := (and_res hs a b).check hs h
  obtain ⟨hc, hf, hx, hl, _, hm, hg⟩ := hr
  have hfg := check_fine hs hg
  have hlen := lv_length hf
  have l0 := litN_iff.1 hl
  refine ⟨_, l0.1, rfl, by omega, ?_⟩
  have key : ∀ h x, g.andO a b = some (h, x) → ((x / 2).toNat < h.lv.length) → ∀ y, h.lv[(x / 2).toNat]? = some y → y ≤ top + 1 := fun h x ho hlt y hy => by
    rcases andO_cases ho with rfl | ⟨rfl, rfl⟩
    · have := ht y (List.mem_of_getElem? hy); omega
    · have e : Aig.lv { g with ands := g.ands ++ [(min a b, max a b)] } = g.lv ++ [1 + max (g.lv.getD (min a b / 2).toNat 0) (g.lv.getD (max a b / 2).toNat 0)] := by
        show Aig.levs (List.replicate g.first.toNat 0) (g.ands ++ [(min a b, max a b)]) = _
        rw [levs_append]; rfl
      have hlg := lv_length hfg
      have hix : (2 * (g.count + 1) / 2).toNat = g.lv.length := by omega
      rw [e, hix, List.getElem?_append_right (Nat.le_refl _)] at hy
      simp only [Nat.sub_self, List.getElem?_cons_zero, Option.some.injEq] at hy
      have m1 := litN_iff.1 (hm a (by simp))
      have m2 := litN_iff.1 (hm b (by simp))
      have n1 : (min a b / 2).toNat < g.lv.length := by omega
      have n2 : (max a b / 2).toNat < g.lv.length := by omega
      have t1 := ht _ (List.getElem_mem n1)
      have t2 := ht _ (List.getElem_mem n2)
      have d1 : g.lv.getD (min a b / 2).toNat 0 = g.lv[(min a b / 2).toNat] := by simp [List.getD, n1]
      have d2 : g.lv.getD (max a b / 2).toNat 0 = g.lv[(max a b / 2).toNat] := by simp [List.getD, n2]
      rw [d1, d2] at hy
      omega
  have c1 : g.checkL g.check [a, b] = 0 := checkL_zero.2 ⟨hg, hm⟩
  have hlt : ((g.And a b).2.1 / 2).toNat < (g.And a b).1.lv.length := by omega
  have e : g.And a b = Aig.endW (g.andW 0 a b) := by unfold Aig.And; rw [c1]
  rw [endW_and] at e
  cases ho : g.andO a b with
  | none => rw [ho] at e; rw [e] at h; simp at h
  | some r =>
    rw [ho] at e
    simp only at e
    exact key _ _ (by rw [e]; exact ho) hlt _ (List.getElem?_eq_getElem hlt)

/-- The highest so far. -/
def Aig.tops (l : List Int) : Int := l.foldl max 0
theorem tops_snoc (l : List Int) (x : Int) : Aig.tops (l ++ [x]) = max (Aig.tops l) x := by simp [Aig.tops]
theorem tops_le : ∀ (l : List Int) (b : Int), b ≤ l.foldl max b ∧ ∀ y ∈ l, y ≤ l.foldl max b
  | [], b => by simp
  | x :: l, b => by
    have := tops_le l (max b x)
    simp only [List.foldl_cons]
    refine ⟨by omega, fun y hy => ?_⟩
    rcases List.mem_cons.1 hy with rfl | h
    · omega
    · exact this.2 y h
theorem tops_bound : ∀ (l : List Int) (b m : Int), (∀ y ∈ l, y ≤ m) → b ≤ m → l.foldl max b ≤ m
  | [], b, m, _, h => h
  | x :: l, b, m, hy, h => by
    simp only [List.foldl_cons]
    exact tops_bound l _ m (fun y hm => hy y (List.mem_cons_of_mem _ hm)) (by have := hy x (by simp); omega)
end Fil
