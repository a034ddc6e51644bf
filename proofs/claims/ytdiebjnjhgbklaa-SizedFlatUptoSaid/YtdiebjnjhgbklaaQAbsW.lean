/- The abstraction layer, part W: a function that defers one call. Over any program. -/
import Derived.Defers
import Derived.Recover
import Derived.Test.YtdiebjnjhgbklaaQAbsL
set_option linter.unusedSimpArgs false
set_option linter.unusedVariables false
namespace Abs
open Go
theorem Sub.get {σ τ : Sig} (h : Sub σ τ) {o : Nat} {x : AObj} (e : σ o = some x) : τ o = some x := h o x e
theorem id_one0 {P : Program} {f : FuncId} {args : List AV} {σ σb : Sig} {v : AV} {k : AV → List (Nat × AObj) → Prop} {tk : Tg k} (h : ∀ τ, Sub σb τ → ACalls P f args τ (fun r s => r = .ret v ∧ s = τ)) (_ : True) (hk : k v []) :
  callQ P f args σ σb k tk := .inl ⟨v, [], h, trivial, hk⟩
theorem id_one1 {P : Program} {f : FuncId} {args : List AV} {σ σb : Sig} {v : AV} {o : Nat} {x : AObj} {k : AV → List (Nat × AObj) → Prop} {tk : Tg k} (h : ∀ τ, Sub σb τ → ACalls P f args τ (fun r s => r = .ret v ∧ s = upd τ o x)) (h1 : σ o ≠ none) (hk : k v [(o, x)]) :
  callQ P f args σ σb k tk := .inl ⟨v, [(o, x)], h, ⟨h1, trivial⟩, hk⟩
theorem id_one2 {P : Program} {f : FuncId} {args : List AV} {σ σb : Sig} {v : AV} {o o2 : Nat} {x x2 : AObj} {k : AV → List (Nat × AObj) → Prop} {tk : Tg k} (h : ∀ τ, Sub σb τ → ACalls P f args τ (fun r s => r = .ret v ∧ s = upd (upd τ o x) o2 x2)) (h1 : σ o ≠ none ∧ σ o2 ≠ none)
  (hk : k v [(o, x), (o2, x2)]) : callQ P f args σ σb k tk := .inl ⟨v, [(o, x), (o2, x2)], h, ⟨h1.1, h1.2, trivial⟩, hk⟩
theorem id_one3 {P : Program} {f : FuncId} {args : List AV} {σ σb : Sig} {v : AV} {o o2 o3 : Nat} {x x2 x3 : AObj} {k : AV → List (Nat × AObj) → Prop} {tk : Tg k} (h : ∀ τ, Sub σb τ → ACalls P f args τ (fun r s => r = .ret v ∧ s = upd (upd (upd τ o x) o2 x2) o3 x3))
  (h1 : σ o ≠ none ∧ σ o2 ≠ none ∧ σ o3 ≠ none) (hk : k v [(o, x), (o2, x2), (o3, x3)]) : callQ P f args σ σb k tk := .inl ⟨v, [(o, x), (o2, x2), (o3, x3)], h, ⟨h1.1, h1.2.1, h1.2.2, trivial⟩, hk⟩
theorem id_one4 {P : Program} {f : FuncId} {args : List AV} {σ σb : Sig} {v : AV} {o o2 o3 o4 : Nat} {x x2 x3 x4 : AObj} {k : AV → List (Nat × AObj) → Prop} {tk : Tg k} (h : ∀ τ, Sub σb τ → ACalls P f args τ (fun r s => r = .ret v ∧ s = upd (upd (upd (upd τ o x) o2 x2) o3 x3) o4 x4))
  (h1 : σ o ≠ none ∧ σ o2 ≠ none ∧ σ o3 ≠ none ∧ σ o4 ≠ none) (hk : k v [(o, x), (o2, x2), (o3, x3), (o4, x4)]) : callQ P f args σ σb k tk := .inl ⟨v, [(o, x), (o2, x2), (o3, x3), (o4, x4)], h, ⟨h1.1, h1.2.1, h1.2.2.1, h1.2.2.2, trivial⟩, hk⟩
def NewO (σ : Sig) (v : Nat → AV) (x : AObj) : ARes → Sig → Prop := fun r s => ∃ o, σ o = none ∧ r = .ret (v o) ∧ s = upd σ o x
def Ren (v : Nat → AV) : Prop := ∀ (K K' : Gh) o o' x, K.le K' → K'.own o' = K.own o → Rel K (v o) x → Rel K' (v o') x
theorem Bnd.or {S : Nat → Prop} (h : Bnd S) (nm : Nat) : Bnd (fun m => S m ∨ m = nm) := by
 obtain ⟨n, hn⟩ := h
 refine ⟨max n (nm + 1), fun m hm => ?_⟩
 rintro (h | rfl)
 ·exact hn m (by omega) h
 ·omega
theorem ACalls.named {P : Program} {f : FuncId} {args : List AV} {σ : Sig} {v : Nat → AV} {x : AObj} (h : ACalls P f args σ (NewO σ v x)) (hr : Ren v) (nm : Nat) : ACallsN P f args σ nm (fun r s => r = .ret (v nm) ∧ s = upd σ nm x) :=
 ⟨h.1, fun S K w vals hS hSn hn hrel hsat => by
  refine (h.2 (fun m => S m ∨ m = nm) K w vals (hS.or nm) hrel hsat).mono fun e w' he => ?_
  obtain ⟨K', r, σ', a, b, c, o, ho, rfl, rfl⟩ := he
  by_cases hon : o = nm
  ·subst hon
   exact ⟨K', _, _, a.weak fun m hm => .inl hm, b, c, rfl, rfl⟩
  ·have hfree : K'.own nm = none := a.free nm (.inr rfl) hn
   obtain ⟨eo, he1, he2⟩ := b.live o x (upd_same _ _ _)
   have hown : ∀ q, q ≠ nm → (K'.named nm eo).own q = K'.own q := fun q hq => by simp [Gh.named, hq]
   have hnew : (K'.named nm eo).own nm = some eo := by simp [Gh.named]
   have hle : K'.le (K'.named nm eo) := ⟨rfl, fun _ _ _ h => h, fun q y hq => ⟨y, by rw [hown q (fun e => by rw [e, hfree] at hq; simp at hq)]; exact hq, Own.le_refl y⟩, rfl⟩
   have hσo : ∀ q y, σ q = some y → q ≠ o := fun q y hq e => by rw [e, ho] at hq; simp at hq
   have hst : ∀ q y, upd σ nm x q = some y → (q = nm ∧ y = x) ∨ (q ≠ nm ∧ upd σ o x q = some y ∧ q ≠ o) := fun q y hq => by
    by_cases hqn : q = nm
    ·subst hqn; rw [upd_same] at hq; exact .inl ⟨rfl, (Option.some.inj hq).symm⟩
    ·rw [upd_other _ _ _ _ hqn] at hq
     exact .inr ⟨hqn, by rw [upd_other _ _ _ _ (hσo q y hq)]; exact hq, hσo q y hq⟩
   refine ⟨K'.named nm eo, .ret (v nm), upd σ nm x, ⟨a.le.trans hle, fun q hq hqn => ?_⟩, ?_, ?_, rfl, rfl⟩
   ·rw [hown q (fun e => hSn (e ▸ hq))]; exact a.free q (.inl hq) hqn
   ·refine { os := b.os, tape := b.tape, output := b.output, size := b.size, old := b.old, free := b.free, claim := b.claim, one := b.one, live := fun q y hq => ?_, apart := fun q q' y y' e1 e2 h1 h2 hne k1 k2 r1 r2 => ?_, room := ?_ }
    ·rcases hst q y hq with ⟨rfl, rfl⟩ | ⟨h1, h2, _⟩
     ·exact ⟨eo, hnew, he2.keep hle (fun _ => rfl) (fun _ _ => rfl)⟩
     ·obtain ⟨e', k1, k2⟩ := b.live q y h2
      exact ⟨e', by rw [hown q h1]; exact k1, k2.keep hle (fun _ => rfl) (fun _ _ => rfl)⟩
    ·rcases hst q y h1 with ⟨rfl, rfl⟩ | ⟨p1, p2, p3⟩ <;> rcases hst q' y' h2 with ⟨rfl, rfl⟩ | ⟨p4, p5, p6⟩
     ·exact absurd rfl hne
     ·rw [hnew] at k1; rw [hown q' p4] at k2
      cases k1
      exact b.apart o q' _ _ _ _ (upd_same _ _ _) p5 (Ne.symm p6) he1 k2 r1 r2
     ·rw [hnew] at k2; rw [hown q p1] at k1
      cases k2
      exact b.apart q o _ _ _ _ p2 (upd_same _ _ _) p3 k1 he1 r1 r2
     ·rw [hown q p1] at k1; rw [hown q' p4] at k2
      exact b.apart q q' _ _ _ _ p2 p5 hne k1 k2 r1 r2
    ·obtain ⟨n, hn'⟩ := b.room
     exact ⟨max n (nm + 1), fun q hq => by rw [hown q (by omega)]; exact hn' q (by omega)⟩
   ·cases e <;> first | exact c.elim | exact hr K' _ o nm _ hle (hnew.trans he1.symm) c⟩
def turn (a : Int) : Int := a + 1 - 2 * (a % 2)
theorem tdiv2 (a : Int) (h : 0 ≤ a) : a.tdiv 2 = a / 2 := Int.tdiv_eq_ediv_of_nonneg h
theorem tmod2 (a : Int) (h : 0 ≤ a) : a.tmod 2 = a % 2 := Int.tmod_eq_emod_of_nonneg h
theorem shr1 (a : Int) : a.fdiv (2 ^ Nat.min (Int.toNat 1) IntKind.i64.bits) = a / 2 := by
 have : (2 : Int) ^ Nat.min (Int.toNat 1) IntKind.i64.bits = 2 := by decide
 rw [this, Int.fdiv_eq_ediv_of_nonneg _ (by omega)]
theorem shr1' (a : Int) : a.fdiv (2 ^ Nat.min 1 64) = a / 2 := shr1 a
theorem ofInt_nat (a : Int) : (BitVec.ofInt 64 a).toNat = (a % 18446744073709551616).toNat := by
 rw [BitVec.toNat_ofInt]; rfl
theorem and1 (a : Int) : IntKind.i64.wrap ((BitVec.ofInt IntKind.i64.bits a &&& BitVec.ofInt IntKind.i64.bits 1).toNat : Nat) = a % 2 := by
 have e : (BitVec.ofInt 64 a &&& BitVec.ofInt 64 1).toNat = (a % 18446744073709551616).toNat % 2 := by
  rw [BitVec.toNat_and, ofInt_nat, ofInt_nat]
  have : ((1 : Int) % 18446744073709551616).toNat = 1 := by decide
  rw [this, Nat.and_one_is_mod]
 show IntKind.i64.wrap ((BitVec.ofInt 64 a &&& BitVec.ofInt 64 1).toNat : Nat) = a % 2
 rw [e, wrap64 _ (by omega) (by omega)]
 omega
theorem xor1 (a : Int) (h1 : -9223372036854775808 ≤ a) (h2 : a ≤ 9223372036854775807) :
  IntKind.i64.wrap ((BitVec.ofInt IntKind.i64.bits a ^^^ BitVec.ofInt IntKind.i64.bits 1).toNat : Nat) = turn a := by
 have key : ∀ n : Nat, n ^^^ 1 = if n % 2 = 0 then n + 1 else n - 1 := by
  intro n
  rcases Nat.mod_two_eq_zero_or_one n with h | h
  ·rw [if_pos h]
   obtain ⟨k, rfl⟩ : ∃ k, n = 2 * k := ⟨n / 2, by omega⟩
   have e1 : 2 * k / 2 = k := by omega
   have e2 : (2 * k + 1) / 2 = k := by omega
   apply Nat.eq_of_testBit_eq
   intro i
   cases i with
   | zero => simp [Nat.testBit_xor, Nat.testBit_zero]
   | succ i => rw [Nat.testBit_xor]; simp only [Nat.testBit_succ, e1, e2, Nat.reduceDiv, Nat.zero_testBit, Bool.xor_false]
  ·rw [if_neg (by omega)]
   obtain ⟨k, rfl⟩ : ∃ k, n = 2 * k + 1 := ⟨n / 2, by omega⟩
   have e1 : (2 * k + 1 - 1) / 2 = k := by omega
   have e2 : (2 * k + 1) / 2 = k := by omega
   apply Nat.eq_of_testBit_eq
   intro i
   cases i with
   | zero => simp [Nat.testBit_xor, Nat.testBit_zero]
   | succ i => rw [Nat.testBit_xor]; simp only [Nat.testBit_succ, e1, e2, Nat.reduceDiv, Nat.zero_testBit, Bool.xor_false]
 have e : (BitVec.ofInt 64 a ^^^ BitVec.ofInt 64 1).toNat = (a % 18446744073709551616).toNat ^^^ 1 := by
  rw [BitVec.toNat_xor, ofInt_nat, ofInt_nat]; rfl
 show IntKind.i64.wrap ((BitVec.ofInt 64 a ^^^ BitVec.ofInt 64 1).toNat : Nat) = turn a
 rw [e, key]
 simp only [turn, IntKind.wrap, IntKind.signed, IntKind.bits]
 split <;> simp <;> omega
theorem xor_is1 (a b : Int) (h1 : -9223372036854775808 ≤ a) (h2 : a ≤ 9223372036854775807) (h3 : -9223372036854775808 ≤ b) (h4 : b ≤ 9223372036854775807) :
  (IntKind.i64.wrap ((BitVec.ofInt IntKind.i64.bits a ^^^ BitVec.ofInt IntKind.i64.bits b).toNat : Nat) == 1) = decide (a = turn b) := by
 have hb := xor1 b h3 h4
 have hlt : (BitVec.ofInt 64 a ^^^ BitVec.ofInt 64 b).toNat < 2 ^ 64 := (BitVec.ofInt 64 a ^^^ BitVec.ofInt 64 b).isLt
 have e0 : (IntKind.i64.wrap ((BitVec.ofInt 64 a ^^^ BitVec.ofInt 64 b).toNat : Nat) = 1) ↔ (BitVec.ofInt 64 a ^^^ BitVec.ofInt 64 b).toNat = 1 := by
  generalize (BitVec.ofInt 64 a ^^^ BitVec.ofInt 64 b).toNat = n at hlt
  simp only [IntKind.wrap, IntKind.signed, IntKind.bits]
  simp
  omega
 have e1 : (BitVec.ofInt 64 a ^^^ BitVec.ofInt 64 b).toNat = 1 ↔ BitVec.ofInt 64 a = BitVec.ofInt 64 b ^^^ BitVec.ofInt 64 1 := by
  constructor
  ·intro h
   have h' : BitVec.ofInt 64 a ^^^ BitVec.ofInt 64 b = BitVec.ofInt 64 1 := BitVec.eq_of_toNat_eq (by rw [h]; rfl)
   rw [← h', BitVec.xor_comm (BitVec.ofInt 64 a), ← BitVec.xor_assoc, BitVec.xor_self, BitVec.zero_xor]
  ·intro h
   rw [h, BitVec.xor_comm (BitVec.ofInt 64 b), BitVec.xor_assoc, BitVec.xor_self, BitVec.xor_zero]; rfl
 have e2 : BitVec.ofInt 64 a = BitVec.ofInt 64 b ^^^ BitVec.ofInt 64 1 ↔ a = turn b := by
  have hb' : IntKind.i64.wrap ((BitVec.ofInt 64 b ^^^ BitVec.ofInt 64 1).toNat : Nat) = turn b := hb
  have ha' : IntKind.i64.wrap ((BitVec.ofInt 64 a).toNat : Nat) = a := by
   rw [ofInt_nat]
   simp only [IntKind.wrap, IntKind.signed, IntKind.bits]
   simp
   omega
  constructor
  ·intro h; rw [← ha', h, hb']
  ·intro h
   apply BitVec.eq_of_toNat_eq
   have h5 : IntKind.i64.wrap ((BitVec.ofInt 64 a).toNat : Nat) = IntKind.i64.wrap ((BitVec.ofInt 64 b ^^^ BitVec.ofInt 64 1).toNat : Nat) := by rw [ha', hb', h]
   have l1 := (BitVec.ofInt 64 a).isLt
   have l2 := (BitVec.ofInt 64 b ^^^ BitVec.ofInt 64 1).isLt
   generalize (BitVec.ofInt 64 a).toNat = n at *
   generalize (BitVec.ofInt 64 b ^^^ BitVec.ofInt 64 1).toNat = m at *
   simp only [IntKind.wrap, IntKind.signed, IntKind.bits] at h5
   simp at h5
   omega
 rw [Bool.eq_iff_iff]
 simp only [beq_iff_eq, decide_eq_true_eq]
 exact (e0.trans e1).trans e2
def tkF : Option Nat → Tok
 | none => .full
 | some o => .own o
def sgF (σ : Sig) (sz n : Nat) : Option Nat → Sig
 | none => σ
 | some o => upd σ o (.grow sz n)
theorem tkF_none : tkF none = .full := rfl
theorem tkF_some (o : Nat) : tkF (some o) = .own o := rfl
theorem sgF_none (σ : Sig) (sz n : Nat) : sgF σ sz n none = σ := rfl
theorem sgF_some (σ : Sig) (sz n o : Nat) : sgF σ sz n (some o) = upd σ o (.grow sz n) := rfl
attribute [go_sem] tkF_none tkF_some sgF_none sgF_some

/-! ### Bodies of library functions -/
def cIndexFunc (sz : Nat) (g : Bool) : ACode :=
 .seq (.reg [⟨some 4, .mov (.c (.int .i64 0)), none⟩])
 (.seq (.seq (.reg [⟨some 6, .mov (.t 0), none⟩,
   ⟨some 7, .len (.t 6), none⟩,
   ⟨some 8, .mov (.c (.int .i64 0)), none⟩])
 (.block 0 (.loop (.seq (.reg [⟨some 9, .bin .lss false (.t 8) (.t 7), none⟩])
  (.seq (.cond (.t 9)
   (.skip)
   (.exit 0))
  (.seq (.block 1 (.seq (.reg [⟨some 10, .mov (.t 8), none⟩,
    ⟨some 5, .mov (.t 10), none⟩])
  (.seq (.reg [⟨some 11, .mov (.t 1), none⟩,
    ⟨some 12, .mov (.t 0), none⟩,
    ⟨some 13, .mov (.t 5), none⟩,
    ⟨some 14, .idxS sz (.t 12) (.t 13), none⟩,
    ⟨some 15, .load g sz (.t 14), none⟩,
    ⟨some 16, .call (.t 11) [(.t 15)], none⟩])
  (.cond (.t 16)
   (.seq (.reg [⟨some 17, .mov (.t 5), none⟩,
     ⟨some 4, .mov (.t 17), none⟩])
   (.ret))
   (.skip)))))
  (.reg [⟨some 18, .bin .add false (.t 8) (.c (.int .i64 1)), none⟩,
    ⟨some 8, .mov (.t 18), none⟩])))))))
 (.seq (.reg [⟨some 4, .mov (.c (.int .i64 (-1))), none⟩])
 (.ret)))
def cContainsFunc (F : Nat) : ACode :=
 .seq (.reg [⟨some 4, .mov (.c (.bool false)), none⟩])
 (.seq (.reg [⟨some 5, .mov (.t 0), none⟩,
   ⟨some 6, .mov (.t 1), none⟩,
   ⟨some 7, .call (.c (.fn F [] [])) [(.t 5), (.t 6)], none⟩,
   ⟨some 8, .bin .geq false (.t 7) (.c (.int .i64 0)), none⟩,
   ⟨some 4, .mov (.t 8), none⟩])
 (.ret))
def idxF {α : Type} (p : α → Bool) : List α → Int
 | [] => -1
 | a :: l => if p a then 0 else (if idxF p l < 0 then -1 else idxF p l + 1)
theorem idxF_none {α : Type} {p : α → Bool} : ∀ {l : List α}, (∀ a ∈ l, p a = false) → idxF p l = -1
 | [], _ => rfl
 | a :: l, h => by
  simp only [idxF]
  rw [if_neg (by simp [h a (by simp)]), idxF_none (l := l) (fun b hb => h b (by simp [hb]))]
  rfl
theorem idxF_some {α : Type} {p : α → Bool} : ∀ {l : List α} {i : Nat} (h : i < l.length), (∀ j, (hj : j < i) → p (l[j]'(by omega)) = false) → p l[i] = true → idxF p l = i
 | a :: l, 0, h, _, h2 => by simp only [List.getElem_cons_zero] at h2; simp [idxF, h2]
 | a :: l, i + 1, h, h1, h2 => by
  have h0 := h1 0 (by omega)
  simp only [List.getElem_cons_zero] at h0
  have := idxF_some (p := p) (l := l) (i := i) (by simpa using h) (fun j hj => by have := h1 (j + 1) (by omega); simpa using this) (by simpa using h2)
  simp only [idxF]
  rw [if_neg (by simp [h0]), this, if_neg (by omega)]
  omega
theorem idxF_cases {α : Type} (p : α → Bool) (l : List α) : (idxF p l = -1 ∧ ∀ a ∈ l, p a = false) ∨ ∃ i, ∃ h : i < l.length, idxF p l = i ∧ p l[i] = true ∧ ∀ j, (hj : j < i) → p (l[j]'(by omega)) = false := by
 by_cases h : ∃ i, ∃ h : i < l.length, p l[i] = true
 ·have : ∃ i, ∃ h : i < l.length, p l[i] = true ∧ ∀ j, (hj : j < i) → p (l[j]'(by omega)) = false := by
   obtain ⟨i, hi, hp⟩ := h
   induction i using Nat.strongRecOn with
   | _ i ih =>
    by_cases h' : ∃ j, ∃ hj : j < i, p (l[j]'(by omega)) = true
    ·obtain ⟨j, hj, hp'⟩ := h'
     exact ih j hj (by omega) hp'
    ·exact ⟨i, hi, hp, fun j hj => by
      cases hh : p (l[j]'(by omega)) with
      | false => rfl
      | true => exact (h' ⟨j, hj, hh⟩).elim⟩
  obtain ⟨i, hi, hp, hb⟩ := this
  exact .inr ⟨i, hi, idxF_some hi hb hp, hp, hb⟩
 ·left
  have : ∀ a ∈ l, p a = false := fun a ha => by
   obtain ⟨i, hi, rfl⟩ := List.getElem_of_mem ha
   cases hh : p l[i] with
   | false => rfl
   | true => exact (h ⟨i, hi, hh⟩).elim
  exact ⟨idxF_none this, this⟩
theorem idxF_any {α : Type} (p : α → Bool) (l : List α) : decide (0 ≤ idxF p l) = l.any p := by
 rcases idxF_cases p l with ⟨h1, h2⟩ | ⟨i, hi, h1, h2, h3⟩
 ·rw [h1]
  have : l.any p = false := by simpa using h2
  rw [this]; decide
 ·rw [h1]
  have : l.any p = true := by simp only [List.any_eq_true]; exact ⟨_, List.getElem_mem hi, h2⟩
  rw [this]; simp
section lib
variable {P : Program} {f : FuncId} {fn : Func} {σ : Sig} {α : Type} {enc : α → AV} {sz : Nat} {g : Bool}
theorem lib_indexFunc (hm : P.follows .mixedOrders = true) (hfn : P.funcs[f]? = some fn) (hb : fn.body.bind (tr P 19) = some (cIndexFunc sz g).bare) (hn : (fn.name == "runtime.NumGoroutine") = false) (hN : fn.ntmps = 19)
  (hr : trRes P fn.results.toList = some [.tmp 4]) (hmk : ∀ x, mkv g (cellsA (enc x)) = some (enc x)) (hsz : ∀ x, (cellsA (enc x)).length = sz) (p : α → Bool) (l : List α) (hl : l.length ≤ 1000000000000)
  {F : Nat} {first caps : List AV} (hF : ∀ x ∈ l, ACalls P F (first ++ [enc x] ++ caps) σ (fun r σ' => r = .ret (.bool (p x)) ∧ σ' = σ)) :
  ACalls P f [.slice (l.map enc) .no, .fn F first caps] σ (fun r σ' => r = .ret (.int .i64 (idxF p l)) ∧ σ' = σ) := by
 refine calls_x hm hfn hb hn hN hr (by simp) ?_
 unfold cIndexFunc
 simp (maxDischargeDepth := 9) -implicitDefEqProofs -dsimp only [go_sem, seval, List.length_map]
 refine loop_rule (fun i : Nat => [(0, some (.slice (l.map enc) .no)), (1, some (.fn F first caps)), (8, some (.int .i64 i)), (7, some (.int .i64 l.length))]) (fun _ => σ) (fun i => i ≤ l.length ∧ ∀ j, (hj : j < l.length) → j < i → p l[j] = false) (fun i => l.length - i) 0 ?_ ?_
 ·simp (maxDischargeDepth := 9) -implicitDefEqProofs -dsimp only [go_sem, seval]
  exact ⟨Nat.zero_le _, fun j hj h => by omega⟩
 ·rintro i ⟨hi, hb⟩
  have tk : ∀ x, List.take sz (cellsA (enc x)) = cellsA (enc x) := fun x => List.take_of_length_le (by rw [hsz]; exact Nat.le_refl _)
  repeat' (first | simp (maxDischargeDepth := 9) -implicitDefEqProofs -dsimp only [go_sem, seval, *] | simp (disch := omega) only [wrap64, tdiv2, tmod2, and1, xor1, xor_is1, shr1, shr1'] | (with_reducible (first | apply Za | apply Zb | apply Zc | apply Zd | apply Ze | apply Zf | apply Zg | apply Zh | apply Zi | apply Zj | apply Zk | apply Zl | apply Zm | apply Zn | apply Zo | apply Zp | apply Zq | apply Zr | apply Zs) <;> intro hq) | ((with_reducible refine Zv ?_ ?_); focus (first | omega | exact rfl)) | ((with_reducible refine Zu ?_ ?_); focus omega) | ((with_reducible refine Zt (fun oF hoF hnF hnF' => ?_)); (try simp only [upd_none, ne_eq, not_and] at hoF)) | ((with_reducible apply ACalls.one1); (focus ((first | with_reducible refine hF _ (List.getElem_mem (by omega)) | with_reducible refine ACalls.flA (hF _ (List.getElem_mem (by omega))) ?_) <;> (first | (simp (maxDischargeDepth := 9) -implicitDefEqProofs -dsimp only [go_sem, seval, *]; done) | omega))); (focus (first | trivial | with_reducible exact rfl | (simp (maxDischargeDepth := 9) -implicitDefEqProofs -dsimp only [go_sem, seval]; done)))) | ((with_reducible apply id_one0); (focus (intro tS hS; ((first | with_reducible refine hF _ (List.getElem_mem (by omega)) | with_reducible refine ACalls.flA (hF _ (List.getElem_mem (by omega))) ?_) <;> (first | (simp (maxDischargeDepth := 9) -implicitDefEqProofs -dsimp only [go_sem, seval, *]; done) | omega | ((with_reducible refine Sub.get hS ?_); simp (maxDischargeDepth := 9) -implicitDefEqProofs -dsimp only [go_sem, seval, *]; done))))); (focus (first | trivial | (simp (maxDischargeDepth := 9) -implicitDefEqProofs -dsimp only [go_sem, seval, *]; done)))) | ((with_reducible apply id_one1); (focus (intro tS hS; ((first | with_reducible refine hF _ (List.getElem_mem (by omega)) | with_reducible refine ACalls.flA (hF _ (List.getElem_mem (by omega))) ?_) <;> (first | (simp (maxDischargeDepth := 9) -implicitDefEqProofs -dsimp only [go_sem, seval, *]; done) | omega | ((with_reducible refine Sub.get hS ?_); simp (maxDischargeDepth := 9) -implicitDefEqProofs -dsimp only [go_sem, seval, *]; done))))); (focus (first | trivial | (simp (maxDischargeDepth := 9) -implicitDefEqProofs -dsimp only [go_sem, seval, *]; done)))) | ((with_reducible apply id_one2); (focus (intro tS hS; ((first | with_reducible refine hF _ (List.getElem_mem (by omega)) | with_reducible refine ACalls.flA (hF _ (List.getElem_mem (by omega))) ?_) <;> (first | (simp (maxDischargeDepth := 9) -implicitDefEqProofs -dsimp only [go_sem, seval, *]; done) | omega | ((with_reducible refine Sub.get hS ?_); simp (maxDischargeDepth := 9) -implicitDefEqProofs -dsimp only [go_sem, seval, *]; done))))); (focus (first | trivial | (simp (maxDischargeDepth := 9) -implicitDefEqProofs -dsimp only [go_sem, seval, *]; done)))) | ((with_reducible apply id_one3); (focus (intro tS hS; ((first | with_reducible refine hF _ (List.getElem_mem (by omega)) | with_reducible refine ACalls.flA (hF _ (List.getElem_mem (by omega))) ?_) <;> (first | (simp (maxDischargeDepth := 9) -implicitDefEqProofs -dsimp only [go_sem, seval, *]; done) | omega | ((with_reducible refine Sub.get hS ?_); simp (maxDischargeDepth := 9) -implicitDefEqProofs -dsimp only [go_sem, seval, *]; done))))); (focus (first | trivial | (simp (maxDischargeDepth := 9) -implicitDefEqProofs -dsimp only [go_sem, seval, *]; done)))) | ((with_reducible apply id_one4); (focus (intro tS hS; ((first | with_reducible refine hF _ (List.getElem_mem (by omega)) | with_reducible refine ACalls.flA (hF _ (List.getElem_mem (by omega))) ?_) <;> (first | (simp (maxDischargeDepth := 9) -implicitDefEqProofs -dsimp only [go_sem, seval, *]; done) | omega | ((with_reducible refine Sub.get hS ?_); simp (maxDischargeDepth := 9) -implicitDefEqProofs -dsimp only [go_sem, seval, *]; done))))); (focus (first | trivial | (simp (maxDischargeDepth := 9) -implicitDefEqProofs -dsimp only [go_sem, seval, *]; done)))) | fail)
  ·refine fin_eq ?_
   rw [idxF_some (by omega) (fun j hj => hb j (by omega) hj) hq]
   simp (maxDischargeDepth := 9) -implicitDefEqProofs -dsimp only [go_sem, seval]
  ·refine loop_next _ _ _ _ (i + 1) ?_; (repeat' (first | simp (maxDischargeDepth := 9) -implicitDefEqProofs -dsimp only [go_sem, seval, *] | simp (disch := omega) only [wrap64, tdiv2, tmod2, and1, xor1, xor_is1, shr1, shr1'])) <;> (repeat' refine And.intro ?_ ?_) <;> (first | omega | rfl | assumption | skip)
   intro j hj h
   rcases Nat.lt_or_ge j i with h' | h'
   ·exact hb j hj h'
   ·obtain rfl : j = i := by omega
    exact hq
  ·refine fin_eq ?_
   rw [idxF_none]
   ·simp (maxDischargeDepth := 9) -implicitDefEqProofs -dsimp only [go_sem, seval]
   ·intro a ha
    obtain ⟨j, hj, rfl⟩ := List.getElem_of_mem ha
    exact hb j hj (by omega)
theorem lib_containsFunc (hm : P.follows .mixedOrders = true) {F' : Nat} (hfn : P.funcs[f]? = some fn) (hb : fn.body.bind (tr P 9) = some (cContainsFunc F').bare) (hn : (fn.name == "runtime.NumGoroutine") = false) (hN : fn.ntmps = 9)
  (hr : trRes P fn.results.toList = some [.tmp 4]) (p : α → Bool) (l : List α) {F : Nat} {first caps : List AV}
  (h : ACalls P F' [.slice (l.map enc) .no, .fn F first caps] σ (fun r σ' => r = .ret (.int .i64 (idxF p l)) ∧ σ' = σ)) :
  ACalls P f [.slice (l.map enc) .no, .fn F first caps] σ (fun r σ' => r = .ret (.bool (l.any p)) ∧ σ' = σ) := by
 refine calls_x hm hfn hb hn hN hr (by simp) ?_
 unfold cContainsFunc
 repeat' (first | simp (maxDischargeDepth := 9) -implicitDefEqProofs -dsimp only [go_sem, seval, *] | simp (disch := omega) only [wrap64, tdiv2, tmod2, and1, xor1, xor_is1, shr1, shr1'] | (with_reducible (first | apply Za | apply Zb | apply Zc | apply Zd | apply Ze | apply Zf | apply Zg | apply Zh | apply Zi | apply Zj | apply Zk | apply Zl | apply Zm | apply Zn | apply Zo | apply Zp | apply Zq | apply Zr | apply Zs) <;> intro hq) | ((with_reducible refine Zv ?_ ?_); focus (first | omega | exact rfl)) | ((with_reducible refine Zu ?_ ?_); focus omega) | ((with_reducible refine Zt (fun oF hoF hnF hnF' => ?_)); (try simp only [upd_none, ne_eq, not_and] at hoF)) | ((with_reducible apply ACalls.one1); (focus ((first | with_reducible refine h | with_reducible refine ACalls.flA (h) ?_) <;> (first | (simp (maxDischargeDepth := 9) -implicitDefEqProofs -dsimp only [go_sem, seval, *]; done) | omega))); (focus (first | trivial | with_reducible exact rfl | (simp (maxDischargeDepth := 9) -implicitDefEqProofs -dsimp only [go_sem, seval]; done)))) | ((with_reducible apply id_one0); (focus (intro tS hS; ((first | with_reducible refine h | with_reducible refine ACalls.flA (h) ?_) <;> (first | (simp (maxDischargeDepth := 9) -implicitDefEqProofs -dsimp only [go_sem, seval, *]; done) | omega | ((with_reducible refine Sub.get hS ?_); simp (maxDischargeDepth := 9) -implicitDefEqProofs -dsimp only [go_sem, seval, *]; done))))); (focus (first | trivial | (simp (maxDischargeDepth := 9) -implicitDefEqProofs -dsimp only [go_sem, seval, *]; done)))) | ((with_reducible apply id_one1); (focus (intro tS hS; ((first | with_reducible refine h | with_reducible refine ACalls.flA (h) ?_) <;> (first | (simp (maxDischargeDepth := 9) -implicitDefEqProofs -dsimp only [go_sem, seval, *]; done) | omega | ((with_reducible refine Sub.get hS ?_); simp (maxDischargeDepth := 9) -implicitDefEqProofs -dsimp only [go_sem, seval, *]; done))))); (focus (first | trivial | (simp (maxDischargeDepth := 9) -implicitDefEqProofs -dsimp only [go_sem, seval, *]; done)))) | ((with_reducible apply id_one2); (focus (intro tS hS; ((first | with_reducible refine h | with_reducible refine ACalls.flA (h) ?_) <;> (first | (simp (maxDischargeDepth := 9) -implicitDefEqProofs -dsimp only [go_sem, seval, *]; done) | omega | ((with_reducible refine Sub.get hS ?_); simp (maxDischargeDepth := 9) -implicitDefEqProofs -dsimp only [go_sem, seval, *]; done))))); (focus (first | trivial | (simp (maxDischargeDepth := 9) -implicitDefEqProofs -dsimp only [go_sem, seval, *]; done)))) | ((with_reducible apply id_one3); (focus (intro tS hS; ((first | with_reducible refine h | with_reducible refine ACalls.flA (h) ?_) <;> (first | (simp (maxDischargeDepth := 9) -implicitDefEqProofs -dsimp only [go_sem, seval, *]; done) | omega | ((with_reducible refine Sub.get hS ?_); simp (maxDischargeDepth := 9) -implicitDefEqProofs -dsimp only [go_sem, seval, *]; done))))); (focus (first | trivial | (simp (maxDischargeDepth := 9) -implicitDefEqProofs -dsimp only [go_sem, seval, *]; done)))) | ((with_reducible apply id_one4); (focus (intro tS hS; ((first | with_reducible refine h | with_reducible refine ACalls.flA (h) ?_) <;> (first | (simp (maxDischargeDepth := 9) -implicitDefEqProofs -dsimp only [go_sem, seval, *]; done) | omega | ((with_reducible refine Sub.get hS ?_); simp (maxDischargeDepth := 9) -implicitDefEqProofs -dsimp only [go_sem, seval, *]; done))))); (focus (first | trivial | (simp (maxDischargeDepth := 9) -implicitDefEqProofs -dsimp only [go_sem, seval, *]; done)))) | fail)
 refine fin_eq ?_
 rw [← idxF_any]
 simp (maxDischargeDepth := 9) -implicitDefEqProofs -dsimp only [go_sem, seval]
abbrev encRow (enc : α → AV) (l : List α) : AV := .slice (l.map enc) .no
end lib
end Abs

namespace Abs
open Go
end Abs

