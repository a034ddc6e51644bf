/- The abstraction layer, part X: a row that may be written, seen as the list that it holds; rows of several cells, element by element. Over any program. -/
import Derived.Test.YtapnlmhfacoceaaAbsW
import Derived.Test.YtapnlmhfacoceaaAbsT
set_option linter.unusedSimpArgs false
set_option linter.unusedVariables false
namespace Abs
open Go

def frzB (o n : Nat) (l : List AV) (a b : AV) : Prop := b = .vec o n ∧ (a = .slice l (.own o) ∨ a = .slice l .no)

theorem frzB_plain (o n : Nat) (l : List AV) : PlainB (frzB o n l) := fun a b ⟨h1, h2⟩ => by
  subst h1
  rcases h2 with rfl | rfl <;> exact ⟨rfl, rfl⟩

theorem view_frz {σ : Sig} {o sz n : Nat} {cs l : List AV} (h : σ o = some (.vec sz n cs)) (hf : flat l = cs) (hl : l.length = n) (hall : ∀ x ∈ l, (cellsA x).length = sz) :
    View (Lift (frzB o n l)) (upd σ o (.grow sz n)) σ := fun S K w hS hs => by
  obtain ⟨e0, h1, h2⟩ := hs.live o _ h
  cases e0 <;> simp only [ObjSat] at h2
  rename_i b cap sz' n'
  obtain ⟨rfl, rfl, h3⟩ := h2
  obtain ⟨K', k1, k2, k3⟩ := hs.freeze h h1 hf hl hall S
  refine ⟨K', k1, k3, fun a0 a v hab hr => ?_⟩
  refine Rel.lift (frzB_plain o _ l) k1.le (fun x y v ⟨e1, e2⟩ hr => ?_) hab hr
  subst e1
  obtain ⟨b', cap', rfl, hown, _⟩ := vec_at hs h hr
  rw [h1] at hown
  simp only [Option.some.injEq, Own.vec.injEq] at hown
  obtain ⟨rfl, rfl, _, _⟩ := hown
  rcases e2 with rfl | rfl
  · exact k2
  · exact Rel.lift (nilB_plain (fun _ => none)) (Gh.le.refl K') (fun a b v ⟨o, sz, _, _, h3⟩ hr => by simp at h3) (.slice l l .no (.own o) (.inl rfl) rfl fun i _ _ => .refl _) k2

theorem ACalls.viewIn {P : Program} {f : FuncId} {args args0 : List AV} {σ σ0 : Sig} {R : ARes → Sig → Prop} {F : AV → AV → Prop} (hv : View F σ0 σ) (ha : args0.length = args.length) (hF : ∀ i, (h0 : i < args0.length) → (h1 : i < args.length) → F args0[i] args[i])
    (h : ACalls P f args0 σ0 R) : ACalls P f args σ R :=
  ⟨h.1, fun S K w vals hS hr hs => by
    obtain ⟨K1, k1, k2, k3⟩ := hv S K w hS hs
    refine (h.2 S K1 w vals hS ⟨ha.trans hr.1, fun i h1 h2 => k3 _ _ _ (hF i h1 (by omega)) (hr.2 i (by omega) h2)⟩ k2).mono ?_
    rintro e w' ⟨K', r, σ', a, b, c, d⟩
    exact ⟨K', r, σ', k1.trans a, b, c, d⟩⟩

/-! ### Rows of elements of several cells -/

theorem flat_map_len {α : Type} (e : α → AV) (sz : Nat) (he : ∀ x, (cellsA (e x)).length = sz) : ∀ l : List α, (flat (l.map e)).length = l.length * sz
  | [] => by simp [flat]
  | x :: l => by
    have := flat_map_len e sz he l
    simp only [List.map_cons, flat_cons, List.length_append, he, this, List.length_cons]
    rw [Nat.succ_mul]; omega

theorem flat_get {α : Type} (e : α → AV) (sz : Nat) (he : ∀ x, (cellsA (e x)).length = sz) : ∀ (l : List α) (i k : Nat), (hi : i < l.length) → k < sz → (flat (l.map e))[i * sz + k]? = (cellsA (e l[i]))[k]?
  | x :: l, 0, k, _, hk => by
    simp only [List.map_cons, flat_cons, Nat.zero_mul, Nat.zero_add, List.getElem_cons_zero]
    rw [List.getElem?_append_left (by rw [he]; exact hk)]
  | x :: l, i + 1, k, hi, hk => by
    have := flat_get e sz he l i k (by simpa using hi) hk
    simp only [List.map_cons, flat_cons, List.getElem_cons_succ]
    rw [List.getElem?_append_right (by rw [he, Nat.succ_mul]; omega), he, Nat.succ_mul]
    rw [show i * sz + sz + k - sz = i * sz + k by omega]
    exact this

theorem flat_set {α : Type} (e : α → AV) (sz : Nat) (he : ∀ x, (cellsA (e x)).length = sz) (y : α) : ∀ (l : List α) (i : Nat), i < l.length → putAt (flat (l.map e)) (i * sz) (cellsA (e y)) = flat ((l.set i y).map e)
  | x :: l, 0, _ => by
    simp only [List.map_cons, flat_cons, Nat.zero_mul, List.set_cons_zero, putAt, List.take_zero, List.nil_append, Nat.zero_add]
    rw [he, List.drop_append_of_le_length (by rw [he]; exact Nat.le_refl _), List.drop_eq_nil_of_le (by rw [he]; exact Nat.le_refl _), List.nil_append]
  | x :: l, i + 1, h => by
    have ih := flat_set e sz he y l i (by simpa using h)
    simp only [List.map_cons, flat_cons, List.set_cons_succ]
    rw [← ih]
    have hx := he x
    unfold putAt
    rw [Nat.succ_mul, Nat.add_comm (i * sz) sz, List.take_append, List.take_of_length_le (by omega), hx, Nat.add_sub_cancel_left]
    have hd : List.drop (sz + i * sz + (cellsA (e y)).length) (cellsA (e x)) = [] := List.drop_eq_nil_of_le (by omega)
    rw [List.drop_append, hd, hx, List.nil_append, show sz + i * sz + (cellsA (e y)).length - sz = i * sz + (cellsA (e y)).length by omega]
    simp only [List.append_assoc]

theorem mkv_one {cs : List AV} {off : Nat} {a : AV} (h : cs[off]? = some a) : mkv false ((cs.drop off).take 1) = some a := by
  have hlt : off < cs.length := by
    rcases Nat.lt_or_ge off cs.length with h' | h'
    · exact h'
    · rw [List.getElem?_eq_none h'] at h; simp at h
  rw [List.drop_eq_getElem_cons hlt]
  rw [List.getElem?_eq_getElem hlt] at h
  simp only [mkv, List.take_succ_cons, List.take_zero, List.head?_cons]
  exact h

theorem fin_frz {R : ARes → Sig → Prop} {v v0 v1 : AV} {σ τ : Sig} (o : Nat) {sz n : Nat} {cs l : List AV} (h : σ o = some (.vec sz n cs)) (hf : flat l = cs) (hl : l.length = n) (hall : ∀ x ∈ l, (cellsA x).length = sz)
    (hv : Lift (frzB o n l) v1 v) (hv0 : FL (upd σ o (.grow sz n)) v0 v1) (hs : SubX [] τ (upd σ o (.grow sz n))) (hR : R (.ret v0) τ) : fin R v σ :=
  ⟨v0, τ, Vr.comp (vr_of hv0 hs) ⟨_, view_frz h hf hl hall, hv⟩, hR⟩

theorem subx_of {τ σ : Sig} (h : ∀ q x, τ q = some x → σ q = some x) : SubX [] τ σ := fun q _ x e => ⟨x, h q x e, .refl _ x⟩

/-! ### A call that makes four objects -/

structure Fr4 (σ : Sig) (a b c d : Nat) : Prop where
  ha : σ a = none
  hb : σ b = none
  hc : σ c = none
  hd : σ d = none
  ab : ¬ a = b
  ba : ¬ b = a
  ac : ¬ a = c
  ca : ¬ c = a
  ad : ¬ a = d
  da : ¬ d = a
  bc : ¬ b = c
  cb : ¬ c = b
  bd : ¬ b = d
  db : ¬ d = b
  cd : ¬ c = d
  dc : ¬ d = c

theorem Fr4.old {σ : Sig} {a b c d : Nat} (h : Fr4 σ a b c d) : ∀ o, ¬ σ o = none → ¬ o = a ∧ ¬ a = o ∧ ¬ o = b ∧ ¬ b = o ∧ ¬ o = c ∧ ¬ c = o ∧ ¬ o = d ∧ ¬ d = o := fun o ho =>
  ⟨fun e => ho (e ▸ h.ha), fun e => ho (e ▸ h.ha), fun e => ho (e ▸ h.hb), fun e => ho (e ▸ h.hb), fun e => ho (e ▸ h.hc), fun e => ho (e ▸ h.hc), fun e => ho (e ▸ h.hd), fun e => ho (e ▸ h.hd)⟩

def New4 (σ : Sig) (v : Nat → AV) (S : Nat → Nat → Nat → Nat → Sig) : ARes → Sig → Prop := fun r s => ∃ a b c d, Fr4 σ a b c d ∧ r = .ret (v a) ∧ s = S a b c d

theorem ACalls.new4 {P : Program} {f : FuncId} {args : List AV} {σ : Sig} {v : Nat → AV} {S : Nat → Nat → Nat → Nat → Sig} {R : ARes → Sig → Prop} (h : ACalls P f args σ (New4 σ v S))
    (hR : ∀ a b c d, Fr4 σ a b c d → R (.ret (v a)) (S a b c d)) : ACalls P f args σ R :=
  h.mono fun r s ⟨a, b, c, d, k, e1, e2⟩ => by
    subst e1 e2
    exact hR a b c d k

theorem fin_new4 {σ σ' : Sig} {v : Nat → AV} {S : Nat → Nat → Nat → Nat → Sig} {w : AV} (a b c d : Nat) (hf : Fr4 σ a b c d) (h : FL σ' (v a) w ∧ SubX [] (S a b c d) σ') : fin (New4 σ v S) w σ' := fin_v (v a) (S a b c d) ⟨a, b, c, d, hf, rfl, rfl⟩ h.1 h.2

end Abs
