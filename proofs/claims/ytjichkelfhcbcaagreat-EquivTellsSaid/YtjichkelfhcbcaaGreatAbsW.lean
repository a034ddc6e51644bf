/- The abstraction layer, part W: a function that defers one call. Over any program. -/
import Derived.Defers
import Derived.Recover
import Derived.Test.YtjichkelfhcbcaaGreatAbsL
set_option linter.unusedSimpArgs false
set_option linter.unusedVariables false
namespace Abs
open Go
theorem Sub.get {σ τ : Sig} (h : Sub σ τ) {o : Nat} {x : AObj} (e : σ o = some x) : τ o = some x := h o x e
theorem id_one0 {P : Program} {f : FuncId} {args : List AV} {σ σb : Sig} {v : AV} {k : AV → List (Nat × AObj) → Prop} (h : ∀ τ, Sub σb τ → ACalls P f args τ (fun r s => r = .ret v ∧ s = τ)) (_ : True) (hk : k v []) :
    ∃ v us, DCall P f args σb v us ∧ allIn σ us ∧ k v us := ⟨v, [], h, trivial, hk⟩
theorem id_one1 {P : Program} {f : FuncId} {args : List AV} {σ σb : Sig} {v : AV} {o : Nat} {x : AObj} {k : AV → List (Nat × AObj) → Prop} (h : ∀ τ, Sub σb τ → ACalls P f args τ (fun r s => r = .ret v ∧ s = upd τ o x)) (h1 : σ o ≠ none) (hk : k v [(o, x)]) :
    ∃ v us, DCall P f args σb v us ∧ allIn σ us ∧ k v us := ⟨v, [(o, x)], h, ⟨h1, trivial⟩, hk⟩
theorem id_one2 {P : Program} {f : FuncId} {args : List AV} {σ σb : Sig} {v : AV} {o o2 : Nat} {x x2 : AObj} {k : AV → List (Nat × AObj) → Prop} (h : ∀ τ, Sub σb τ → ACalls P f args τ (fun r s => r = .ret v ∧ s = upd (upd τ o x) o2 x2)) (h1 : σ o ≠ none ∧ σ o2 ≠ none)
    (hk : k v [(o, x), (o2, x2)]) : ∃ v us, DCall P f args σb v us ∧ allIn σ us ∧ k v us := ⟨v, [(o, x), (o2, x2)], h, ⟨h1.1, h1.2, trivial⟩, hk⟩
theorem id_one3 {P : Program} {f : FuncId} {args : List AV} {σ σb : Sig} {v : AV} {o o2 o3 : Nat} {x x2 x3 : AObj} {k : AV → List (Nat × AObj) → Prop} (h : ∀ τ, Sub σb τ → ACalls P f args τ (fun r s => r = .ret v ∧ s = upd (upd (upd τ o x) o2 x2) o3 x3))
    (h1 : σ o ≠ none ∧ σ o2 ≠ none ∧ σ o3 ≠ none) (hk : k v [(o, x), (o2, x2), (o3, x3)]) : ∃ v us, DCall P f args σb v us ∧ allIn σ us ∧ k v us := ⟨v, [(o, x), (o2, x2), (o3, x3)], h, ⟨h1.1, h1.2.1, h1.2.2, trivial⟩, hk⟩
theorem id_one4 {P : Program} {f : FuncId} {args : List AV} {σ σb : Sig} {v : AV} {o o2 o3 o4 : Nat} {x x2 x3 x4 : AObj} {k : AV → List (Nat × AObj) → Prop} (h : ∀ τ, Sub σb τ → ACalls P f args τ (fun r s => r = .ret v ∧ s = upd (upd (upd (upd τ o x) o2 x2) o3 x3) o4 x4))
    (h1 : σ o ≠ none ∧ σ o2 ≠ none ∧ σ o3 ≠ none ∧ σ o4 ≠ none) (hk : k v [(o, x), (o2, x2), (o3, x3), (o4, x4)]) : ∃ v us, DCall P f args σb v us ∧ allIn σ us ∧ k v us := ⟨v, [(o, x), (o2, x2), (o3, x3), (o4, x4)], h, ⟨h1.1, h1.2.1, h1.2.2.1, h1.2.2.2, trivial⟩, hk⟩
def NewO (σ : Sig) (v : Nat → AV) (x : AObj) : ARes → Sig → Prop := fun r s => ∃ o, σ o = none ∧ r = .ret (v o) ∧ s = upd σ o x
theorem ACalls.newO {P : Program} {f : FuncId} {args : List AV} {σ : Sig} {v : Nat → AV} {x : AObj} {R : ARes → Sig → Prop} (h : ACalls P f args σ (NewO σ v x))
    (hR : ∀ o, σ o = none → (∀ o', ¬ σ o' = none → ¬ o' = o) → (∀ o', ¬ σ o' = none → ¬ o = o') → R (.ret (v o)) (upd σ o x)) : ACalls P f args σ R :=
  h.mono fun r s ⟨o, ho, e1, e2⟩ => by
    subst e1 e2
    exact hR o ho (fun o' h' e => h' (e ▸ ho)) (fun o' h' e => h' (e ▸ ho))
theorem fin_new {σ σ' : Sig} {v : Nat → AV} {x : AObj} {w : AV} (o : Nat) (ho : σ o = none) (h : FL σ' (v o) w ∧ SubX [] (upd σ o x) σ') : fin (NewO σ v x) w σ' := fin_v (v o) (upd σ o x) ⟨o, ho, rfl, rfl⟩ h.1 h.2
def turn (a : Int) : Int := a + 1 - 2 * (a % 2)
theorem tdiv2 (a : Int) (h : 0 ≤ a) : a.tdiv 2 = a / 2 := Int.tdiv_eq_ediv_of_nonneg h
theorem tmod2 (a : Int) (h : 0 ≤ a) : a.tmod 2 = a % 2 := Int.tmod_eq_emod_of_nonneg h
theorem shr1 (a : Int) : a.fdiv (2 ^ Nat.min (Int.toNat 1) IntKind.i64.bits) = a / 2 := by
  have : (2 : Int) ^ Nat.min (Int.toNat 1) IntKind.i64.bits = 2 := by decide
  rw [this, Int.fdiv_eq_ediv_of_nonneg _ (by omega)]
theorem shr1' (a : Int) : a.fdiv (2 ^ Nat.min 1 64) = a / 2 := shr1 a
theorem ofInt_nat (a : Int) : (BitVec.ofInt 64 a).toNat = (a % 18446744073709551616).toNat := by
  rw [BitVec.toNat_ofInt]; rfl
theorem and1 (a : Int) : IntKind.i64.wrap ((BitVec.ofInt IntKind.i64.bits a &&& BitVec.ofInt IntKind.i64.bits 1).toNat : Nat) = a % 2 := by
  have e : (BitVec.ofInt 64 a &&& BitVec.ofInt 64 1).toNat = (a % 18446744073709551616).toNat % 2 := by
    rw [BitVec.toNat_and, ofInt_nat, ofInt_nat]
    have : ((1 : Int) % 18446744073709551616).toNat = 1 := by decide
    rw [this, Nat.and_one_is_mod]
  show IntKind.i64.wrap ((BitVec.ofInt 64 a &&& BitVec.ofInt 64 1).toNat : Nat) = a % 2
  rw [e, wrap64 _ (by omega) (by omega)]
  omega
theorem xor1 (a : Int) (h1 : -9223372036854775808 ≤ a) (h2 : a ≤ 9223372036854775807) :
    IntKind.i64.wrap ((BitVec.ofInt IntKind.i64.bits a ^^^ BitVec.ofInt IntKind.i64.bits 1).toNat : Nat) = turn a := by
  have key : ∀ n : Nat, n ^^^ 1 = if n % 2 = 0 then n + 1 else n - 1 := by
    intro n
    rcases Nat.mod_two_eq_zero_or_one n with h | h
    · rw [if_pos h]
      obtain ⟨k, rfl⟩ : ∃ k, n = 2 * k := ⟨n / 2, by omega⟩
      have e1 : 2 * k / 2 = k := by omega
      have e2 : (2 * k + 1) / 2 = k := by omega
      apply Nat.eq_of_testBit_eq
      intro i
      cases i with
      | zero => simp [Nat.testBit_xor, Nat.testBit_zero]
      | succ i => rw [Nat.testBit_xor]; simp only [Nat.testBit_succ, e1, e2, Nat.reduceDiv, Nat.zero_testBit, Bool.xor_false]
    · rw [if_neg (by omega)]
      obtain ⟨k, rfl⟩ : ∃ k, n = 2 * k + 1 := ⟨n / 2, by omega⟩
      have e1 : (2 * k + 1 - 1) / 2 = k := by omega
      have e2 : (2 * k + 1) / 2 = k := by omega
      apply Nat.eq_of_testBit_eq
      intro i
      cases i with
      | zero => simp [Nat.testBit_xor, Nat.testBit_zero]
      | succ i => rw [Nat.testBit_xor]; simp only [Nat.testBit_succ, e1, e2, Nat.reduceDiv, Nat.zero_testBit, Bool.xor_false]
  have e : (BitVec.ofInt 64 a ^^^ BitVec.ofInt 64 1).toNat = (a % 18446744073709551616).toNat ^^^ 1 := by
    rw [BitVec.toNat_xor, ofInt_nat, ofInt_nat]; rfl
  show IntKind.i64.wrap ((BitVec.ofInt 64 a ^^^ BitVec.ofInt 64 1).toNat : Nat) = turn a
  rw [e, key]
  simp only [turn, IntKind.wrap, IntKind.signed, IntKind.bits]
  split <;> simp <;> omega
theorem xor_is1 (a b : Int) (h1 : -9223372036854775808 ≤ a) (h2 : a ≤ 9223372036854775807) (h3 : -9223372036854775808 ≤ b) (h4 : b ≤ 9223372036854775807) :
    (IntKind.i64.wrap ((BitVec.ofInt IntKind.i64.bits a ^^^ BitVec.ofInt IntKind.i64.bits b).toNat : Nat) == 1) = decide (a = turn b) := by
  have hb := xor1 b h3 h4
  have hlt : (BitVec.ofInt 64 a ^^^ BitVec.ofInt 64 b).toNat < 2 ^ 64 := (BitVec.ofInt 64 a ^^^ BitVec.ofInt 64 b).isLt
  have e0 : (IntKind.i64.wrap ((BitVec.ofInt 64 a ^^^ BitVec.ofInt 64 b).toNat : Nat) = 1) ↔ (BitVec.ofInt 64 a ^^^ BitVec.ofInt 64 b).toNat = 1 := by
    generalize (BitVec.ofInt 64 a ^^^ BitVec.ofInt 64 b).toNat = n at hlt
    simp only [IntKind.wrap, IntKind.signed, IntKind.bits]
    simp
    omega
  have e1 : (BitVec.ofInt 64 a ^^^ BitVec.ofInt 64 b).toNat = 1 ↔ BitVec.ofInt 64 a = BitVec.ofInt 64 b ^^^ BitVec.ofInt 64 1 := by
    constructor
    · intro h
      have h' : BitVec.ofInt 64 a ^^^ BitVec.ofInt 64 b = BitVec.ofInt 64 1 := BitVec.eq_of_toNat_eq (by rw [h]; rfl)
      rw [← h', BitVec.xor_comm (BitVec.ofInt 64 a), ← BitVec.xor_assoc, BitVec.xor_self, BitVec.zero_xor]
    · intro h
      rw [h, BitVec.xor_comm (BitVec.ofInt 64 b), BitVec.xor_assoc, BitVec.xor_self, BitVec.xor_zero]; rfl
  have e2 : BitVec.ofInt 64 a = BitVec.ofInt 64 b ^^^ BitVec.ofInt 64 1 ↔ a = turn b := by
    have hb' : IntKind.i64.wrap ((BitVec.ofInt 64 b ^^^ BitVec.ofInt 64 1).toNat : Nat) = turn b := hb
    have ha' : IntKind.i64.wrap ((BitVec.ofInt 64 a).toNat : Nat) = a := by
      rw [ofInt_nat]
      simp only [IntKind.wrap, IntKind.signed, IntKind.bits]
      simp
      omega
    constructor
    · intro h; rw [← ha', h, hb']
    · intro h
      apply BitVec.eq_of_toNat_eq
      have h5 : IntKind.i64.wrap ((BitVec.ofInt 64 a).toNat : Nat) = IntKind.i64.wrap ((BitVec.ofInt 64 b ^^^ BitVec.ofInt 64 1).toNat : Nat) := by rw [ha', hb', h]
      have l1 := (BitVec.ofInt 64 a).isLt
      have l2 := (BitVec.ofInt 64 b ^^^ BitVec.ofInt 64 1).isLt
      generalize (BitVec.ofInt 64 a).toNat = n at *
      generalize (BitVec.ofInt 64 b ^^^ BitVec.ofInt 64 1).toNat = m at *
      simp only [IntKind.wrap, IntKind.signed, IntKind.bits] at h5
      simp at h5
      omega
  rw [Bool.eq_iff_iff]
  simp only [beq_iff_eq, decide_eq_true_eq]
  exact (e0.trans e1).trans e2
def tkF : Option Nat → Tok
  | none => .full
  | some o => .own o
def sgF (σ : Sig) (sz n : Nat) : Option Nat → Sig
  | none => σ
  | some o => upd σ o (.grow sz n)
theorem tkF_none : tkF none = .full := rfl
theorem tkF_some (o : Nat) : tkF (some o) = .own o := rfl
theorem sgF_none (σ : Sig) (sz n : Nat) : sgF σ sz n none = σ := rfl
theorem sgF_some (σ : Sig) (sz n o : Nat) : sgF σ sz n (some o) = upd σ o (.grow sz n) := rfl
attribute [go_sem] tkF_none tkF_some sgF_none sgF_some

/-! ### Bodies of library functions -/
def cIndexFunc (sz : Nat) (g : Bool) : ACode :=
 .seq (.reg [⟨some 4, .mov (.c (.int .i64 0)), none⟩])
 (.seq (.seq (.reg [⟨some 6, .mov (.t 0), none⟩,
   ⟨some 7, .len (.t 6), none⟩,
   ⟨some 8, .mov (.c (.int .i64 0)), none⟩])
 (.block 0 (.loop (.seq (.reg [⟨some 9, .bin .lss false (.t 8) (.t 7), none⟩])
  (.seq (.cond (.t 9)
   (.skip)
   (.exit 0))
  (.seq (.block 1 (.seq (.reg [⟨some 10, .mov (.t 8), none⟩,
    ⟨some 5, .mov (.t 10), none⟩])
  (.seq (.reg [⟨some 11, .mov (.t 1), none⟩,
    ⟨some 12, .mov (.t 0), none⟩,
    ⟨some 13, .mov (.t 5), none⟩,
    ⟨some 14, .idxS sz (.t 12) (.t 13), none⟩,
    ⟨some 15, .load g sz (.t 14), none⟩,
    ⟨some 16, .call (.t 11) [(.t 15)], none⟩])
  (.cond (.t 16)
   (.seq (.reg [⟨some 17, .mov (.t 5), none⟩,
     ⟨some 4, .mov (.t 17), none⟩])
   (.ret))
   (.skip)))))
  (.reg [⟨some 18, .bin .add false (.t 8) (.c (.int .i64 1)), none⟩,
    ⟨some 8, .mov (.t 18), none⟩])))))))
 (.seq (.reg [⟨some 4, .mov (.c (.int .i64 (-1))), none⟩])
 (.ret)))
def cContainsFunc (F : Nat) : ACode :=
 .seq (.reg [⟨some 4, .mov (.c (.bool false)), none⟩])
 (.seq (.reg [⟨some 5, .mov (.t 0), none⟩,
   ⟨some 6, .mov (.t 1), none⟩,
   ⟨some 7, .call (.c (.fn F [] [])) [(.t 5), (.t 6)], none⟩,
   ⟨some 8, .bin .geq false (.t 7) (.c (.int .i64 0)), none⟩,
   ⟨some 4, .mov (.t 8), none⟩])
 (.ret))
def cClip (sz : Nat) : ACode :=
 .seq (.reg [⟨some 2, .mov (.c (.slice [] .nil)), none⟩])
 (.seq (.reg [⟨some 3, .mov (.t 0), none⟩,
   ⟨some 4, .mov (.t 0), none⟩,
   ⟨some 5, .len (.t 4), none⟩,
   ⟨some 6, .mov (.t 0), none⟩,
   ⟨some 7, .len (.t 6), none⟩,
   ⟨some 8, .slc sz (.t 3) none (some (.t 5)) (some (.t 7)), none⟩,
   ⟨some 2, .mov (.t 8), none⟩])
 (.ret))
def cGrow (ty sz bytes : Nat) : ACode :=
 .seq (.reg [⟨some 4, .mov (.c (.slice [] .nil)), none⟩])
 (.seq (.seq (.reg [⟨some 5, .mov (.t 1), none⟩,
   ⟨some 6, .bin .lss false (.t 5) (.c (.int .i64 0)), none⟩])
 (.cond (.t 6)
  (.reg [⟨some 7, .mkiface ty (.c (.str ⟨#[99, 97, 110, 110, 111, 116, 32, 98, 101, 32, 110, 101, 103, 97, 116, 105, 118, 101]⟩)), none⟩,
    ⟨none, .panic (.t 7), none⟩])
  (.skip)))
 (.seq (.seq (.reg [⟨some 8, .mov (.t 1), none⟩,
   ⟨some 9, .mov (.t 0), none⟩,
   ⟨some 10, .cap (.t 9), none⟩,
   ⟨some 11, .mov (.t 0), none⟩,
   ⟨some 12, .len (.t 11), none⟩,
   ⟨some 13, .bin .sub false (.t 10) (.t 12), none⟩,
   ⟨some 14, .bin .sub false (.t 8) (.t 13), none⟩,
   ⟨some 1, .mov (.t 14), none⟩])
 (.seq (.reg [⟨some 15, .mov (.t 1), none⟩,
   ⟨some 16, .bin .gtr false (.t 15) (.c (.int .i64 0)), none⟩])
 (.cond (.t 16)
  (.reg [⟨some 17, .mov (.t 0), none⟩,
    ⟨some 18, .mov (.t 0), none⟩,
    ⟨some 19, .cap (.t 18), none⟩,
    ⟨some 20, .slcN sz (.t 17) none (some (.t 19)) none, none⟩,
    ⟨some 21, .mov (.t 1), none⟩,
    ⟨some 22, .appz sz bytes (.t 20) (.t 21), none⟩,
    ⟨some 23, .mov (.t 0), none⟩,
    ⟨some 24, .len (.t 23), none⟩,
    ⟨some 25, .slcR sz (.t 22) none (some (.t 24)) none, none⟩,
    ⟨some 0, .mov (.t 25), none⟩])
  (.skip))))
 (.seq (.reg [⟨some 26, .mov (.t 0), none⟩,
   ⟨some 4, .mov (.t 26), none⟩])
 (.ret))))
def cConcat (ty F sz bytes : Nat) : ACode :=
 .seq (.reg [⟨some 2, .mov (.c (.slice [] .nil)), none⟩])
 (.seq (.reg [⟨some 3, .mov (.c (.int .i64 0)), none⟩])
 (.seq (.seq (.reg [⟨some 9, .mov (.t 0), none⟩,
   ⟨some 10, .len (.t 9), none⟩,
   ⟨some 11, .mov (.c (.int .i64 0)), none⟩])
 (.block 0 (.loop (.seq (.reg [⟨some 12, .bin .lss false (.t 11) (.t 10), none⟩])
  (.seq (.cond (.t 12)
   (.skip)
   (.exit 0))
  (.seq (.block 1 (.seq (.reg [⟨some 13, .idxS 1 (.t 9) (.t 11), none⟩,
    ⟨some 14, .load false 1 (.t 13), none⟩,
    ⟨some 5, .mov (.t 14), none⟩])
  (.seq (.reg [⟨some 15, .mov (.t 3), none⟩,
    ⟨some 16, .mov (.t 5), none⟩,
    ⟨some 17, .len (.t 16), none⟩,
    ⟨some 18, .bin .add false (.t 15) (.t 17), none⟩,
    ⟨some 3, .mov (.t 18), none⟩])
  (.seq (.reg [⟨some 19, .mov (.t 3), none⟩,
    ⟨some 20, .bin .lss false (.t 19) (.c (.int .i64 0)), none⟩])
  (.cond (.t 20)
   (.reg [⟨some 21, .mkiface ty (.c (.str ⟨#[108, 101, 110, 32, 111, 117, 116, 32, 111, 102, 32, 114, 97, 110, 103, 101]⟩)), none⟩,
     ⟨none, .panic (.t 21), none⟩])
   (.skip))))))
  (.reg [⟨some 22, .bin .add false (.t 11) (.c (.int .i64 1)), none⟩,
    ⟨some 11, .mov (.t 22), none⟩])))))))
 (.seq (.reg [⟨some 23, .mov (.t 3), none⟩,
   ⟨some 24, .call (.c (.fn F [] [])) [(.c (.slice [] .nil)), (.t 23)], none⟩,
   ⟨some 6, .mov (.t 24), none⟩])
 (.seq (.seq (.reg [⟨some 25, .mov (.t 0), none⟩,
   ⟨some 26, .len (.t 25), none⟩,
   ⟨some 27, .mov (.c (.int .i64 0)), none⟩])
 (.block 2 (.loop (.seq (.reg [⟨some 28, .bin .lss false (.t 27) (.t 26), none⟩])
  (.seq (.cond (.t 28)
   (.skip)
   (.exit 2))
  (.seq (.block 3 (.seq (.reg [⟨some 29, .idxS 1 (.t 25) (.t 27), none⟩,
    ⟨some 30, .load false 1 (.t 29), none⟩,
    ⟨some 8, .mov (.t 30), none⟩])
  (.reg [⟨some 31, .mov (.t 6), none⟩,
    ⟨some 32, .mov (.t 8), none⟩,
    ⟨some 33, .append sz bytes (.t 31) (.t 32), none⟩,
    ⟨some 6, .mov (.t 33), none⟩])))
  (.reg [⟨some 34, .bin .add false (.t 27) (.c (.int .i64 1)), none⟩,
    ⟨some 27, .mov (.t 34), none⟩])))))))
 (.seq (.reg [⟨some 35, .mov (.t 6), none⟩,
   ⟨some 2, .mov (.t 35), none⟩])
 (.ret))))))
def idxF {α : Type} (p : α → Bool) : List α → Int
  | [] => -1
  | a :: l => if p a then 0 else (if idxF p l < 0 then -1 else idxF p l + 1)
theorem idxF_none {α : Type} {p : α → Bool} : ∀ {l : List α}, (∀ a ∈ l, p a = false) → idxF p l = -1
  | [], _ => rfl
  | a :: l, h => by
    simp only [idxF]
    rw [if_neg (by simp [h a (by simp)]), idxF_none (l := l) (fun b hb => h b (by simp [hb]))]
    rfl
theorem idxF_some {α : Type} {p : α → Bool} : ∀ {l : List α} {i : Nat} (h : i < l.length), (∀ j, (hj : j < i) → p (l[j]'(by omega)) = false) → p l[i] = true → idxF p l = i
  | a :: l, 0, h, _, h2 => by simp only [List.getElem_cons_zero] at h2; simp [idxF, h2]
  | a :: l, i + 1, h, h1, h2 => by
    have h0 := h1 0 (by omega)
    simp only [List.getElem_cons_zero] at h0
    have := idxF_some (p := p) (l := l) (i := i) (by simpa using h) (fun j hj => by have := h1 (j + 1) (by omega); simpa using this) (by simpa using h2)
    simp only [idxF]
    rw [if_neg (by simp [h0]), this, if_neg (by omega)]
    omega
theorem idxF_cases {α : Type} (p : α → Bool) (l : List α) : (idxF p l = -1 ∧ ∀ a ∈ l, p a = false) ∨ ∃ i, ∃ h : i < l.length, idxF p l = i ∧ p l[i] = true ∧ ∀ j, (hj : j < i) → p (l[j]'(by omega)) = false := by
  by_cases h : ∃ i, ∃ h : i < l.length, p l[i] = true
  · have : ∃ i, ∃ h : i < l.length, p l[i] = true ∧ ∀ j, (hj : j < i) → p (l[j]'(by omega)) = false := by
      obtain ⟨i, hi, hp⟩ := h
      induction i using Nat.strongRecOn with
      | _ i ih =>
        by_cases h' : ∃ j, ∃ hj : j < i, p (l[j]'(by omega)) = true
        · obtain ⟨j, hj, hp'⟩ := h'
          exact ih j hj (by omega) hp'
        · exact ⟨i, hi, hp, fun j hj => by
            cases hh : p (l[j]'(by omega)) with
            | false => rfl
            | true => exact (h' ⟨j, hj, hh⟩).elim⟩
    obtain ⟨i, hi, hp, hb⟩ := this
    exact .inr ⟨i, hi, idxF_some hi hb hp, hp, hb⟩
  · left
    have : ∀ a ∈ l, p a = false := fun a ha => by
      obtain ⟨i, hi, rfl⟩ := List.getElem_of_mem ha
      cases hh : p l[i] with
      | false => rfl
      | true => exact (h ⟨i, hi, hh⟩).elim
    exact ⟨idxF_none this, this⟩
theorem idxF_any {α : Type} (p : α → Bool) (l : List α) : decide (0 ≤ idxF p l) = l.any p := by
  rcases idxF_cases p l with ⟨h1, h2⟩ | ⟨i, hi, h1, h2, h3⟩
  · rw [h1]
    have : l.any p = false := by simpa using h2
    rw [this]; decide
  · rw [h1]
    have : l.any p = true := by simp only [List.any_eq_true]; exact ⟨_, List.getElem_mem hi, h2⟩
    rw [this]; simp
theorem idxF_bounds {α : Type} (p : α → Bool) (l : List α) : -1 ≤ idxF p l ∧ idxF p l < l.length := by
  rcases idxF_cases p l with ⟨h1, h2⟩ | ⟨i, hi, h1, h2, h3⟩ <;> omega
section lib
variable {P : Program} {f : FuncId} {fn : Func} {σ : Sig} {α : Type} {enc : α → AV} {sz : Nat} {g : Bool}
theorem lib_indexFunc (hm : P.follows .mixedOrders = true) (hfn : P.funcs[f]? = some fn) (hb : fn.body.bind (tr P 19) = some (cIndexFunc sz g).bare) (hn : (fn.name == "runtime.NumGoroutine") = false) (hN : fn.ntmps = 19)
    (hr : trRes P fn.results.toList = some [.tmp 4]) (hmk : ∀ x, mkv g (cellsA (enc x)) = some (enc x)) (hsz : ∀ x, (cellsA (enc x)).length = sz) (p : α → Bool) (l : List α) (hl : l.length ≤ 1000000000000)
    {F : Nat} {first caps : List AV} (hF : ∀ x ∈ l, ACalls P F (first ++ [enc x] ++ caps) σ (fun r σ' => r = .ret (.bool (p x)) ∧ σ' = σ)) :
    ACalls P f [.slice (l.map enc) .no, .fn F first caps] σ (fun r σ' => r = .ret (.int .i64 (idxF p l)) ∧ σ' = σ) := by
  refine calls_x hm hfn hb hn hN hr (by simp) ?_
  unfold cIndexFunc
  simp (maxDischargeDepth := 9) -implicitDefEqProofs -dsimp only [go_sem, seval, List.length_map]
  refine loop_rule (fun i : Nat => [(0, some (.slice (l.map enc) .no)), (1, some (.fn F first caps)), (8, some (.int .i64 i)), (7, some (.int .i64 l.length))]) (fun _ => σ) (fun i => i ≤ l.length ∧ ∀ j, (hj : j < l.length) → j < i → p l[j] = false) (fun i => l.length - i) 0 ?_ ?_
  · simp (maxDischargeDepth := 9) -implicitDefEqProofs -dsimp only [go_sem, seval]
    exact ⟨Nat.zero_le _, fun j hj h => by omega⟩
  · rintro i ⟨hi, hb⟩
    have tk : ∀ x, List.take sz (cellsA (enc x)) = cellsA (enc x) := fun x => List.take_of_length_le (by rw [hsz]; exact Nat.le_refl _)
    repeat' (first | simp (maxDischargeDepth := 9) -implicitDefEqProofs -dsimp only [go_sem, seval, *] | simp (disch := omega) only [wrap64, tdiv2, tmod2, and1, xor1, xor_is1, shr1, shr1'] | (with_reducible (first | apply Za | apply Zb | apply Zc | apply Zd | apply Ze | apply Zf | apply Zg | apply Zh | apply Zi | apply Zj | apply Zk | apply Zl | apply Zm | apply Zn | apply Zo | apply Zp | apply Zq | apply Zr | apply Zs) <;> intro hq) | ((with_reducible refine Zv ?_ ?_); focus (first | omega | exact rfl)) | ((with_reducible refine Zu ?_ ?_); focus omega) | ((with_reducible refine Zt (fun oF hoF hnF hnF' => ?_)); (try simp only [upd_none, ne_eq, not_and] at hoF)) | ((with_reducible apply ACalls.one1); (focus ((first | with_reducible refine hF _ (List.getElem_mem (by omega)) | with_reducible refine ACalls.flA (hF _ (List.getElem_mem (by omega))) ?_) <;> (first | (simp (maxDischargeDepth := 9) -implicitDefEqProofs -dsimp only [go_sem, seval, *]; done) | omega))); (focus (first | trivial | with_reducible exact rfl | (simp (maxDischargeDepth := 9) -implicitDefEqProofs -dsimp only [go_sem, seval]; done)))) | ((with_reducible apply id_one0); (focus (intro tS hS; ((first | with_reducible refine hF _ (List.getElem_mem (by omega)) | with_reducible refine ACalls.flA (hF _ (List.getElem_mem (by omega))) ?_) <;> (first | (simp (maxDischargeDepth := 9) -implicitDefEqProofs -dsimp only [go_sem, seval, *]; done) | omega | ((with_reducible refine Sub.get hS ?_); simp (maxDischargeDepth := 9) -implicitDefEqProofs -dsimp only [go_sem, seval, *]; done))))); (focus (first | trivial | (simp (maxDischargeDepth := 9) -implicitDefEqProofs -dsimp only [go_sem, seval, *]; done)))) | ((with_reducible apply id_one1); (focus (intro tS hS; ((first | with_reducible refine hF _ (List.getElem_mem (by omega)) | with_reducible refine ACalls.flA (hF _ (List.getElem_mem (by omega))) ?_) <;> (first | (simp (maxDischargeDepth := 9) -implicitDefEqProofs -dsimp only [go_sem, seval, *]; done) | omega | ((with_reducible refine Sub.get hS ?_); simp (maxDischargeDepth := 9) -implicitDefEqProofs -dsimp only [go_sem, seval, *]; done))))); (focus (first | trivial | (simp (maxDischargeDepth := 9) -implicitDefEqProofs -dsimp only [go_sem, seval, *]; done)))) | ((with_reducible apply id_one2); (focus (intro tS hS; ((first | with_reducible refine hF _ (List.getElem_mem (by omega)) | with_reducible refine ACalls.flA (hF _ (List.getElem_mem (by omega))) ?_) <;> (first | (simp (maxDischargeDepth := 9) -implicitDefEqProofs -dsimp only [go_sem, seval, *]; done) | omega | ((with_reducible refine Sub.get hS ?_); simp (maxDischargeDepth := 9) -implicitDefEqProofs -dsimp only [go_sem, seval, *]; done))))); (focus (first | trivial | (simp (maxDischargeDepth := 9) -implicitDefEqProofs -dsimp only [go_sem, seval, *]; done)))) | ((with_reducible apply id_one3); (focus (intro tS hS; ((first | with_reducible refine hF _ (List.getElem_mem (by omega)) | with_reducible refine ACalls.flA (hF _ (List.getElem_mem (by omega))) ?_) <;> (first | (simp (maxDischargeDepth := 9) -implicitDefEqProofs -dsimp only [go_sem, seval, *]; done) | omega | ((with_reducible refine Sub.get hS ?_); simp (maxDischargeDepth := 9) -implicitDefEqProofs -dsimp only [go_sem, seval, *]; done))))); (focus (first | trivial | (simp (maxDischargeDepth := 9) -implicitDefEqProofs -dsimp only [go_sem, seval, *]; done)))) | ((with_reducible apply id_one4); (focus (intro tS hS; ((first | with_reducible refine hF _ (List.getElem_mem (by omega)) | with_reducible refine ACalls.flA (hF _ (List.getElem_mem (by omega))) ?_) <;> (first | (simp (maxDischargeDepth := 9) -implicitDefEqProofs -dsimp only [go_sem, seval, *]; done) | omega | ((with_reducible refine Sub.get hS ?_); simp (maxDischargeDepth := 9) -implicitDefEqProofs -dsimp only [go_sem, seval, *]; done))))); (focus (first | trivial | (simp (maxDischargeDepth := 9) -implicitDefEqProofs -dsimp only [go_sem, seval, *]; done)))) | fail)
    · refine fin_eq ?_
      rw [idxF_some (by omega) (fun j hj => hb j (by omega) hj) hq]
      simp (maxDischargeDepth := 9) -implicitDefEqProofs -dsimp only [go_sem, seval]
    · refine loop_next _ _ _ _ (i + 1) ?_; (repeat' (first | simp (maxDischargeDepth := 9) -implicitDefEqProofs -dsimp only [go_sem, seval, *] | simp (disch := omega) only [wrap64, tdiv2, tmod2, and1, xor1, xor_is1, shr1, shr1'])) <;> (repeat' refine And.intro ?_ ?_) <;> (first | omega | rfl | assumption | skip)
      intro j hj h
      rcases Nat.lt_or_ge j i with h' | h'
      · exact hb j hj h'
      · obtain rfl : j = i := by omega
        exact hq
    · refine fin_eq ?_
      rw [idxF_none]
      · simp (maxDischargeDepth := 9) -implicitDefEqProofs -dsimp only [go_sem, seval]
      · intro a ha
        obtain ⟨j, hj, rfl⟩ := List.getElem_of_mem ha
        exact hb j hj (by omega)
theorem lib_containsFunc (hm : P.follows .mixedOrders = true) {F' : Nat} (hfn : P.funcs[f]? = some fn) (hb : fn.body.bind (tr P 9) = some (cContainsFunc F').bare) (hn : (fn.name == "runtime.NumGoroutine") = false) (hN : fn.ntmps = 9)
    (hr : trRes P fn.results.toList = some [.tmp 4]) (p : α → Bool) (l : List α) {F : Nat} {first caps : List AV}
    (h : ACalls P F' [.slice (l.map enc) .no, .fn F first caps] σ (fun r σ' => r = .ret (.int .i64 (idxF p l)) ∧ σ' = σ)) :
    ACalls P f [.slice (l.map enc) .no, .fn F first caps] σ (fun r σ' => r = .ret (.bool (l.any p)) ∧ σ' = σ) := by
  refine calls_x hm hfn hb hn hN hr (by simp) ?_
  unfold cContainsFunc
  repeat' (first | simp (maxDischargeDepth := 9) -implicitDefEqProofs -dsimp only [go_sem, seval, *] | simp (disch := omega) only [wrap64, tdiv2, tmod2, and1, xor1, xor_is1, shr1, shr1'] | (with_reducible (first | apply Za | apply Zb | apply Zc | apply Zd | apply Ze | apply Zf | apply Zg | apply Zh | apply Zi | apply Zj | apply Zk | apply Zl | apply Zm | apply Zn | apply Zo | apply Zp | apply Zq | apply Zr | apply Zs) <;> intro hq) | ((with_reducible refine Zv ?_ ?_); focus (first | omega | exact rfl)) | ((with_reducible refine Zu ?_ ?_); focus omega) | ((with_reducible refine Zt (fun oF hoF hnF hnF' => ?_)); (try simp only [upd_none, ne_eq, not_and] at hoF)) | ((with_reducible apply ACalls.one1); (focus ((first | with_reducible refine h | with_reducible refine ACalls.flA (h) ?_) <;> (first | (simp (maxDischargeDepth := 9) -implicitDefEqProofs -dsimp only [go_sem, seval, *]; done) | omega))); (focus (first | trivial | with_reducible exact rfl | (simp (maxDischargeDepth := 9) -implicitDefEqProofs -dsimp only [go_sem, seval]; done)))) | ((with_reducible apply id_one0); (focus (intro tS hS; ((first | with_reducible refine h | with_reducible refine ACalls.flA (h) ?_) <;> (first | (simp (maxDischargeDepth := 9) -implicitDefEqProofs -dsimp only [go_sem, seval, *]; done) | omega | ((with_reducible refine Sub.get hS ?_); simp (maxDischargeDepth := 9) -implicitDefEqProofs -dsimp only [go_sem, seval, *]; done))))); (focus (first | trivial | (simp (maxDischargeDepth := 9) -implicitDefEqProofs -dsimp only [go_sem, seval, *]; done)))) | ((with_reducible apply id_one1); (focus (intro tS hS; ((first | with_reducible refine h | with_reducible refine ACalls.flA (h) ?_) <;> (first | (simp (maxDischargeDepth := 9) -implicitDefEqProofs -dsimp only [go_sem, seval, *]; done) | omega | ((with_reducible refine Sub.get hS ?_); simp (maxDischargeDepth := 9) -implicitDefEqProofs -dsimp only [go_sem, seval, *]; done))))); (focus (first | trivial | (simp (maxDischargeDepth := 9) -implicitDefEqProofs -dsimp only [go_sem, seval, *]; done)))) | ((with_reducible apply id_one2); (focus (intro tS hS; ((first | with_reducible refine h | with_reducible refine ACalls.flA (h) ?_) <;> (first | (simp (maxDischargeDepth := 9) -implicitDefEqProofs -dsimp only [go_sem, seval, *]; done) | omega | ((with_reducible refine Sub.get hS ?_); simp (maxDischargeDepth := 9) -implicitDefEqProofs -dsimp only [go_sem, seval, *]; done))))); (focus (first | trivial | (simp (maxDischargeDepth := 9) -implicitDefEqProofs -dsimp only [go_sem, seval, *]; done)))) | ((with_reducible apply id_one3); (focus (intro tS hS; ((first | with_reducible refine h | with_reducible refine ACalls.flA (h) ?_) <;> (first | (simp (maxDischargeDepth := 9) -implicitDefEqProofs -dsimp only [go_sem, seval, *]; done) | omega | ((with_reducible refine Sub.get hS ?_); simp (maxDischargeDepth := 9) -implicitDefEqProofs -dsimp only [go_sem, seval, *]; done))))); (focus (first | trivial | (simp (maxDischargeDepth := 9) -implicitDefEqProofs -dsimp only [go_sem, seval, *]; done)))) | ((with_reducible apply id_one4); (focus (intro tS hS; ((first | with_reducible refine h | with_reducible refine ACalls.flA (h) ?_) <;> (first | (simp (maxDischargeDepth := 9) -implicitDefEqProofs -dsimp only [go_sem, seval, *]; done) | omega | ((with_reducible refine Sub.get hS ?_); simp (maxDischargeDepth := 9) -implicitDefEqProofs -dsimp only [go_sem, seval, *]; done))))); (focus (first | trivial | (simp (maxDischargeDepth := 9) -implicitDefEqProofs -dsimp only [go_sem, seval, *]; done)))) | fail)
  refine fin_eq ?_
  rw [← idxF_any]
  simp (maxDischargeDepth := 9) -implicitDefEqProofs -dsimp only [go_sem, seval]
theorem lib_clip (hm : P.follows .mixedOrders = true) (hfn : P.funcs[f]? = some fn) (hb : fn.body.bind (tr P 9) = some (cClip sz).bare) (hn : (fn.name == "runtime.NumGoroutine") = false) (hN : fn.ntmps = 9)
    (hr : trRes P fn.results.toList = some [.tmp 2]) (hsz : ∀ x, (cellsA (enc x)).length = sz) (l : List α) :
    ACalls P f [.slice (l.map enc) .no] σ (fun r σ' => r = .ret (.slice (l.map enc) .full) ∧ σ' = σ) := by
  refine calls_x hm hfn hb hn hN hr (by simp) ?_
  unfold cClip
  repeat' (first | simp (maxDischargeDepth := 9) -implicitDefEqProofs -dsimp only [go_sem, seval, szs_map sz enc l hsz, *] | simp (disch := omega) only [wrap64, tdiv2, tmod2, and1, xor1, xor_is1, shr1, shr1'] | (with_reducible (first | apply Za | apply Zb | apply Zc | apply Zd | apply Ze | apply Zf | apply Zg | apply Zh | apply Zi | apply Zj | apply Zk | apply Zl | apply Zm | apply Zn | apply Zo | apply Zp | apply Zq | apply Zr | apply Zs) <;> intro hq) | ((with_reducible refine Zv ?_ ?_); focus (first | omega | exact rfl)) | ((with_reducible refine Zu ?_ ?_); focus omega) | ((with_reducible refine Zt (fun oF hoF hnF hnF' => ?_)); (try simp only [upd_none, ne_eq, not_and] at hoF)) | fail)
  exact fin_id ⟨rfl, rfl⟩
theorem lib_grow (hm : P.follows .mixedOrders = true) {ty bytes : Nat} (hfn : P.funcs[f]? = some fn) (hb : fn.body.bind (tr P 27) = some (cGrow ty sz bytes).bare) (hn : (fn.name == "runtime.NumGoroutine") = false) (hN : fn.ntmps = 27)
    (hr : trRes P fn.results.toList = some [.tmp 4]) (n : Int) (h0 : 0 < n) (hb1 : n * bytes ≤ 35184372088832) (hn2 : n ≤ 1000000000000) :
    ACalls P f [.slice [] .nil, .int .i64 n] σ (fun r σ' => ∃ o, σ o = none ∧ r = .ret (.slice [] (.own o)) ∧ σ' = upd σ o (.grow sz 0)) := by
  refine calls_x hm hfn hb hn hN hr (by simp) ?_
  unfold cGrow
  repeat' (first | simp (maxDischargeDepth := 9) -implicitDefEqProofs -dsimp only [go_sem, seval, *] | simp (disch := omega) only [wrap64, tdiv2, tmod2, and1, xor1, xor_is1, shr1, shr1'] | (with_reducible (first | apply Za | apply Zb | apply Zc | apply Zd | apply Ze | apply Zf | apply Zg | apply Zh | apply Zi | apply Zj | apply Zk | apply Zl | apply Zm | apply Zn | apply Zo | apply Zp | apply Zq | apply Zr | apply Zs) <;> intro hq) | ((with_reducible refine Zv ?_ ?_); focus (first | omega | exact rfl)) | ((with_reducible refine Zu ?_ ?_); focus omega) | ((with_reducible refine Zt (fun oF hoF hnF hnF' => ?_)); (try simp only [upd_none, ne_eq, not_and] at hoF)) | fail)
  · omega
  · exact fin_id ⟨_, hoF, rfl, rfl⟩
theorem lib_grow0 (hm : P.follows .mixedOrders = true) {ty bytes : Nat} (hfn : P.funcs[f]? = some fn) (hb : fn.body.bind (tr P 27) = some (cGrow ty sz bytes).bare) (hn : (fn.name == "runtime.NumGoroutine") = false) (hN : fn.ntmps = 27)
    (hr : trRes P fn.results.toList = some [.tmp 4]) :
    ACalls P f [.slice [] .nil, .int .i64 0] σ (fun r σ' => r = .ret (.slice [] .nil) ∧ σ' = σ) := by
  refine calls_x hm hfn hb hn hN hr (by simp) ?_
  unfold cGrow
  repeat' (first | simp (maxDischargeDepth := 9) -implicitDefEqProofs -dsimp only [go_sem, seval, Int.reduceGT, *] | simp (disch := omega) only [wrap64, tdiv2, tmod2, and1, xor1, xor_is1, shr1, shr1'] | (with_reducible (first | apply Za | apply Zb | apply Zc | apply Zd | apply Ze | apply Zf | apply Zg | apply Zh | apply Zi | apply Zj | apply Zk | apply Zl | apply Zm | apply Zn | apply Zo | apply Zp | apply Zq | apply Zr | apply Zs) <;> intro hq) | ((with_reducible refine Zv ?_ ?_); focus (first | omega | exact rfl)) | ((with_reducible refine Zu ?_ ?_); focus omega) | ((with_reducible refine Zt (fun oF hoF hnF hnF' => ?_)); (try simp only [upd_none, ne_eq, not_and] at hoF)) | fail)
  exact fin_id ⟨rfl, rfl⟩
abbrev encRow (enc : α → AV) (l : List α) : AV := .slice (l.map enc) .no
theorem lib_concat (hm : P.follows .mixedOrders = true) {ty bytes F : Nat} (hfn : P.funcs[f]? = some fn) (hb : fn.body.bind (tr P 36) = some (cConcat ty F sz bytes).bare) (hn : (fn.name == "runtime.NumGoroutine") = false) (hN : fn.ntmps = 36)
    (hr : trRes P fn.results.toList = some [.tmp 2]) (hsz : ∀ x, (cellsA (enc x)).length = sz)
    (hg : ∀ σ : Sig, ∀ n : Int, 0 < n → n * bytes ≤ 35184372088832 → n ≤ 1000000000000 → ACalls P F [.slice [] .nil, .int .i64 n] σ (fun r σ' => ∃ o, σ o = none ∧ r = .ret (.slice [] (.own o)) ∧ σ' = upd σ o (.grow sz 0)))
    (hg0 : ∀ σ, ACalls P F [.slice [] .nil, .int .i64 0] σ (fun r σ' => r = .ret (.slice [] .nil) ∧ σ' = σ))
    (ls : List (List α)) (hlen : ls.length ≤ 1000000) (htot : ls.flatten.length ≤ 1000000000) (hby : bytes ≤ 4096) :
    ACalls P f [.slice (ls.map (encRow enc)) .no] σ (fun r σ' => (ls.flatten = [] ∧ r = .ret (.slice [] .nil) ∧ σ' = σ) ∨
      NewO σ (fun o => .slice (ls.flatten.map enc) (.own o)) (.grow sz ls.flatten.length) r σ') := by
  refine calls_x hm hfn hb hn hN hr (by simp) ?_
  unfold cConcat
  have tot : ∀ i, (ls.take i).flatten.length ≤ ls.flatten.length := fun i => by
    have := congrArg List.length (congrArg List.flatten (List.take_append_drop i ls))
    rw [List.flatten_append, List.length_append] at this
    omega
  have step : ∀ i (h : i < ls.length), (ls.take (i + 1)).flatten = (ls.take i).flatten ++ ls[i] := fun i h => by
    rw [List.take_add_one, List.getElem?_eq_getElem h, List.flatten_append]; simp only [Option.toList_some, List.flatten_cons, List.flatten_nil, List.append_nil]
  have stepL : ∀ i (h : i < ls.length), (ls.take (i + 1)).flatten.length = (ls.take i).flatten.length + ls[i].length := fun i h => by
    rw [step i h, List.length_append]
  repeat' (first | simp (maxDischargeDepth := 9) -implicitDefEqProofs -dsimp only [go_sem, seval, *] | simp (disch := omega) only [wrap64, tdiv2, tmod2, and1, xor1, xor_is1, shr1, shr1'] | (with_reducible (first | apply Za | apply Zb | apply Zc | apply Zd | apply Ze | apply Zf | apply Zg | apply Zh | apply Zi | apply Zj | apply Zk | apply Zl | apply Zm | apply Zn | apply Zo | apply Zp | apply Zq | apply Zr | apply Zs) <;> intro hq) | ((with_reducible refine Zv ?_ ?_); focus (first | omega | exact rfl)) | ((with_reducible refine Zu ?_ ?_); focus omega) | ((with_reducible refine Zt (fun oF hoF hnF hnF' => ?_)); (try simp only [upd_none, ne_eq, not_and] at hoF)) | fail)
  refine loop_rule (fun i : Nat => [(0, some (.slice (ls.map (encRow enc)) .no)), (9, some (.slice (ls.map (encRow enc)) .no)), (11, some (.int .i64 i)), (10, some (.int .i64 ls.length)), (3, some (.int .i64 (ls.take i).flatten.length))]) (fun _ => σ) (fun i => i ≤ ls.length) (fun i => ls.length - i) 0 ?_ ?_
  · repeat' (first | simp (maxDischargeDepth := 9) -implicitDefEqProofs -dsimp only [go_sem, seval, List.take_zero, List.flatten_nil, *] | simp (disch := omega) only [wrap64, tdiv2, tmod2, and1, xor1, xor_is1, shr1, shr1'] | (with_reducible (first | apply Za | apply Zb | apply Zc | apply Zd | apply Ze | apply Zf | apply Zg | apply Zh | apply Zi | apply Zj | apply Zk | apply Zl | apply Zm | apply Zn | apply Zo | apply Zp | apply Zq | apply Zr | apply Zs) <;> intro hq) | ((with_reducible refine Zv ?_ ?_); focus (first | omega | exact rfl)) | ((with_reducible refine Zu ?_ ?_); focus omega) | ((with_reducible refine Zt (fun oF hoF hnF hnF' => ?_)); (try simp only [upd_none, ne_eq, not_and] at hoF)) | fail)
    exact Nat.zero_le _
  · intro i hi
    have := tot i
    by_cases hlt : i < ls.length
    · have := tot (i + 1)
      have e := stepL i hlt
      repeat' (first | simp (maxDischargeDepth := 9) -implicitDefEqProofs -dsimp only [go_sem, seval, *] | simp (disch := omega) only [wrap64, tdiv2, tmod2, and1, xor1, xor_is1, shr1, shr1'] | (with_reducible (first | apply Za | apply Zb | apply Zc | apply Zd | apply Ze | apply Zf | apply Zg | apply Zh | apply Zi | apply Zj | apply Zk | apply Zl | apply Zm | apply Zn | apply Zo | apply Zp | apply Zq | apply Zr | apply Zs) <;> intro hq) | ((with_reducible refine Zv ?_ ?_); focus (first | omega | exact rfl)) | ((with_reducible refine Zu ?_ ?_); focus omega) | ((with_reducible refine Zt (fun oF hoF hnF hnF' => ?_)); (try simp only [upd_none, ne_eq, not_and] at hoF)) | fail)
      · omega
      · refine loop_next _ _ _ _ (i + 1) ?_; (repeat' (first | simp (maxDischargeDepth := 9) -implicitDefEqProofs -dsimp only [go_sem, seval, *] | simp (disch := omega) only [wrap64, tdiv2, tmod2, and1, xor1, xor_is1, shr1, shr1'])) <;> (repeat' refine And.intro ?_ ?_) <;> (first | omega | rfl | assumption | skip)
    · repeat' (first | simp (maxDischargeDepth := 9) -implicitDefEqProofs -dsimp only [go_sem, seval, *] | simp (disch := omega) only [wrap64, tdiv2, tmod2, and1, xor1, xor_is1, shr1, shr1'] | (with_reducible (first | apply Za | apply Zb | apply Zc | apply Zd | apply Ze | apply Zf | apply Zg | apply Zh | apply Zi | apply Zj | apply Zk | apply Zl | apply Zm | apply Zn | apply Zo | apply Zp | apply Zq | apply Zr | apply Zs) <;> intro hq) | ((with_reducible refine Zv ?_ ?_); focus (first | omega | exact rfl)) | ((with_reducible refine Zu ?_ ?_); focus omega) | ((with_reducible refine Zt (fun oF hoF hnF hnF' => ?_)); (try simp only [upd_none, ne_eq, not_and] at hoF)) | fail)
      have e0 : ls.take i = ls := List.take_of_length_le (by omega)
      rw [e0]
      by_cases hz : ls.flatten.length = 0
      · have hnil : ls.flatten = [] := List.length_eq_zero_iff.1 hz
        have hnili : ∀ i (h : i < ls.length), ls[i] = [] := fun i h => by
          have := stepL i h
          have h2 := tot (i + 1)
          exact List.length_eq_zero_iff.1 (by omega)
        rw [hz]
        repeat' (first | simp (maxDischargeDepth := 9) -implicitDefEqProofs -dsimp only [go_sem, seval, *] | simp (disch := omega) only [wrap64, tdiv2, tmod2, and1, xor1, xor_is1, shr1, shr1'] | (with_reducible (first | apply Za | apply Zb | apply Zc | apply Zd | apply Ze | apply Zf | apply Zg | apply Zh | apply Zi | apply Zj | apply Zk | apply Zl | apply Zm | apply Zn | apply Zo | apply Zp | apply Zq | apply Zr | apply Zs) <;> intro hq) | ((with_reducible refine Zv ?_ ?_); focus (first | omega | exact rfl)) | ((with_reducible refine Zu ?_ ?_); focus omega) | ((with_reducible refine Zt (fun oF hoF hnF hnF' => ?_)); (try simp only [upd_none, ne_eq, not_and] at hoF)) | ((with_reducible apply ACalls.one1); (focus ((first | with_reducible refine hg0 σ | with_reducible refine ACalls.flA (hg0 σ) ?_) <;> (first | (simp (maxDischargeDepth := 9) -implicitDefEqProofs -dsimp only [go_sem, seval, *]; done) | omega))); (focus (first | trivial | with_reducible exact rfl | (simp (maxDischargeDepth := 9) -implicitDefEqProofs -dsimp only [go_sem, seval]; done)))) | ((with_reducible apply id_one0); (focus (intro tS hS; ((first | with_reducible refine hg0 σ | with_reducible refine ACalls.flA (hg0 σ) ?_) <;> (first | (simp (maxDischargeDepth := 9) -implicitDefEqProofs -dsimp only [go_sem, seval, *]; done) | omega | ((with_reducible refine Sub.get hS ?_); simp (maxDischargeDepth := 9) -implicitDefEqProofs -dsimp only [go_sem, seval, *]; done))))); (focus (first | trivial | (simp (maxDischargeDepth := 9) -implicitDefEqProofs -dsimp only [go_sem, seval, *]; done)))) | ((with_reducible apply id_one1); (focus (intro tS hS; ((first | with_reducible refine hg0 σ | with_reducible refine ACalls.flA (hg0 σ) ?_) <;> (first | (simp (maxDischargeDepth := 9) -implicitDefEqProofs -dsimp only [go_sem, seval, *]; done) | omega | ((with_reducible refine Sub.get hS ?_); simp (maxDischargeDepth := 9) -implicitDefEqProofs -dsimp only [go_sem, seval, *]; done))))); (focus (first | trivial | (simp (maxDischargeDepth := 9) -implicitDefEqProofs -dsimp only [go_sem, seval, *]; done)))) | ((with_reducible apply id_one2); (focus (intro tS hS; ((first | with_reducible refine hg0 σ | with_reducible refine ACalls.flA (hg0 σ) ?_) <;> (first | (simp (maxDischargeDepth := 9) -implicitDefEqProofs -dsimp only [go_sem, seval, *]; done) | omega | ((with_reducible refine Sub.get hS ?_); simp (maxDischargeDepth := 9) -implicitDefEqProofs -dsimp only [go_sem, seval, *]; done))))); (focus (first | trivial | (simp (maxDischargeDepth := 9) -implicitDefEqProofs -dsimp only [go_sem, seval, *]; done)))) | ((with_reducible apply id_one3); (focus (intro tS hS; ((first | with_reducible refine hg0 σ | with_reducible refine ACalls.flA (hg0 σ) ?_) <;> (first | (simp (maxDischargeDepth := 9) -implicitDefEqProofs -dsimp only [go_sem, seval, *]; done) | omega | ((with_reducible refine Sub.get hS ?_); simp (maxDischargeDepth := 9) -implicitDefEqProofs -dsimp only [go_sem, seval, *]; done))))); (focus (first | trivial | (simp (maxDischargeDepth := 9) -implicitDefEqProofs -dsimp only [go_sem, seval, *]; done)))) | ((with_reducible apply id_one4); (focus (intro tS hS; ((first | with_reducible refine hg0 σ | with_reducible refine ACalls.flA (hg0 σ) ?_) <;> (first | (simp (maxDischargeDepth := 9) -implicitDefEqProofs -dsimp only [go_sem, seval, *]; done) | omega | ((with_reducible refine Sub.get hS ?_); simp (maxDischargeDepth := 9) -implicitDefEqProofs -dsimp only [go_sem, seval, *]; done))))); (focus (first | trivial | (simp (maxDischargeDepth := 9) -implicitDefEqProofs -dsimp only [go_sem, seval, *]; done)))) | fail)
        refine loop_rule (fun i : Nat => [(25, some (.slice (ls.map (encRow enc)) .no)), (27, some (.int .i64 i)), (26, some (.int .i64 ls.length)), (6, some (.slice [] .nil))]) (fun _ => σ) (fun i => i ≤ ls.length) (fun i => ls.length - i) 0 ?_ ?_
        · repeat' (first | simp (maxDischargeDepth := 9) -implicitDefEqProofs -dsimp only [go_sem, seval, *] | simp (disch := omega) only [wrap64, tdiv2, tmod2, and1, xor1, xor_is1, shr1, shr1'] | (with_reducible (first | apply Za | apply Zb | apply Zc | apply Zd | apply Ze | apply Zf | apply Zg | apply Zh | apply Zi | apply Zj | apply Zk | apply Zl | apply Zm | apply Zn | apply Zo | apply Zp | apply Zq | apply Zr | apply Zs) <;> intro hq) | ((with_reducible refine Zv ?_ ?_); focus (first | omega | exact rfl)) | ((with_reducible refine Zu ?_ ?_); focus omega) | ((with_reducible refine Zt (fun oF hoF hnF hnF' => ?_)); (try simp only [upd_none, ne_eq, not_and] at hoF)) | fail)
          exact Nat.zero_le _
        · intro i hi
          repeat' (first | simp (maxDischargeDepth := 9) -implicitDefEqProofs -dsimp only [go_sem, seval, *] | simp (disch := omega) only [wrap64, tdiv2, tmod2, and1, xor1, xor_is1, shr1, shr1'] | (with_reducible (first | apply Za | apply Zb | apply Zc | apply Zd | apply Ze | apply Zf | apply Zg | apply Zh | apply Zi | apply Zj | apply Zk | apply Zl | apply Zm | apply Zn | apply Zo | apply Zp | apply Zq | apply Zr | apply Zs) <;> intro hq) | ((with_reducible refine Zv ?_ ?_); focus (first | omega | exact rfl)) | ((with_reducible refine Zu ?_ ?_); focus omega) | ((with_reducible refine Zt (fun oF hoF hnF hnF' => ?_)); (try simp only [upd_none, ne_eq, not_and] at hoF)) | fail)
          · have e := hnili i (by omega)
            repeat' (first | simp (maxDischargeDepth := 9) -implicitDefEqProofs -dsimp only [go_sem, seval, List.map_nil, *] | simp (disch := omega) only [wrap64, tdiv2, tmod2, and1, xor1, xor_is1, shr1, shr1'] | (with_reducible (first | apply Za | apply Zb | apply Zc | apply Zd | apply Ze | apply Zf | apply Zg | apply Zh | apply Zi | apply Zj | apply Zk | apply Zl | apply Zm | apply Zn | apply Zo | apply Zp | apply Zq | apply Zr | apply Zs) <;> intro hq) | ((with_reducible refine Zv ?_ ?_); focus (first | omega | exact rfl)) | ((with_reducible refine Zu ?_ ?_); focus omega) | ((with_reducible refine Zt (fun oF hoF hnF hnF' => ?_)); (try simp only [upd_none, ne_eq, not_and] at hoF)) | fail)
            refine loop_next _ _ _ _ (i + 1) ?_; (repeat' (first | simp (maxDischargeDepth := 9) -implicitDefEqProofs -dsimp only [go_sem, seval, *] | simp (disch := omega) only [wrap64, tdiv2, tmod2, and1, xor1, xor_is1, shr1, shr1'])) <;> (repeat' refine And.intro ?_ ?_) <;> (first | omega | rfl | assumption | skip)
          · exact fin_id (.inl ⟨hnil, rfl, rfl⟩)
      · refine (hg σ _ (by omega) (by
          have := Nat.mul_le_mul htot hby
          have e : ((ls.flatten.length * bytes : Nat) : Int) ≤ 35184372088832 := by omega
          rwa [Int.natCast_mul] at e) (by omega)).mono ?_
        rintro r σ' ⟨o, ho, rfl, rfl⟩
        repeat' (first | simp (maxDischargeDepth := 9) -implicitDefEqProofs -dsimp only [go_sem, seval, *] | simp (disch := omega) only [wrap64, tdiv2, tmod2, and1, xor1, xor_is1, shr1, shr1'] | (with_reducible (first | apply Za | apply Zb | apply Zc | apply Zd | apply Ze | apply Zf | apply Zg | apply Zh | apply Zi | apply Zj | apply Zk | apply Zl | apply Zm | apply Zn | apply Zo | apply Zp | apply Zq | apply Zr | apply Zs) <;> intro hq) | ((with_reducible refine Zv ?_ ?_); focus (first | omega | exact rfl)) | ((with_reducible refine Zu ?_ ?_); focus omega) | ((with_reducible refine Zt (fun oF hoF hnF hnF' => ?_)); (try simp only [upd_none, ne_eq, not_and] at hoF)) | fail)
        refine loop_rule (fun i : Nat => [(25, some (.slice (ls.map (encRow enc)) .no)), (27, some (.int .i64 i)), (26, some (.int .i64 ls.length)), (6, some (.slice ((ls.take i).flatten.map enc) (.own o)))]) (fun i => upd σ o (.grow sz (ls.take i).flatten.length)) (fun i => i ≤ ls.length) (fun i => ls.length - i) 0 ?_ ?_
        · repeat' (first | simp (maxDischargeDepth := 9) -implicitDefEqProofs -dsimp only [go_sem, seval, List.take_zero, List.flatten_nil, List.map_nil, *] | simp (disch := omega) only [wrap64, tdiv2, tmod2, and1, xor1, xor_is1, shr1, shr1'] | (with_reducible (first | apply Za | apply Zb | apply Zc | apply Zd | apply Ze | apply Zf | apply Zg | apply Zh | apply Zi | apply Zj | apply Zk | apply Zl | apply Zm | apply Zn | apply Zo | apply Zp | apply Zq | apply Zr | apply Zs) <;> intro hq) | ((with_reducible refine Zv ?_ ?_); focus (first | omega | exact rfl)) | ((with_reducible refine Zu ?_ ?_); focus omega) | ((with_reducible refine Zt (fun oF hoF hnF hnF' => ?_)); (try simp only [upd_none, ne_eq, not_and] at hoF)) | fail)
          exact Nat.zero_le _
        · intro i hi
          by_cases hlt : i < ls.length
          · have e := step i hlt
            have e2 := stepL i hlt
            have h1 := tot (i + 1)
            have hb1 : ((ls.take i).flatten.length + ls[i].length) * bytes ≤ 35184372088832 := by
              have := Nat.mul_le_mul (show (ls.take i).flatten.length + ls[i].length ≤ 1000000000 by omega) hby
              omega
            repeat' (first | simp (maxDischargeDepth := 9) -implicitDefEqProofs -dsimp only [go_sem, seval, szs_map sz enc _ hsz, *] | simp (disch := omega) only [wrap64, tdiv2, tmod2, and1, xor1, xor_is1, shr1, shr1'] | (with_reducible (first | apply Za | apply Zb | apply Zc | apply Zd | apply Ze | apply Zf | apply Zg | apply Zh | apply Zi | apply Zj | apply Zk | apply Zl | apply Zm | apply Zn | apply Zo | apply Zp | apply Zq | apply Zr | apply Zs) <;> intro hq) | ((with_reducible refine Zv ?_ ?_); focus (first | omega | exact rfl)) | ((with_reducible refine Zu ?_ ?_); focus omega) | ((with_reducible refine Zt (fun oF hoF hnF hnF' => ?_)); (try simp only [upd_none, ne_eq, not_and] at hoF)) | fail)
            refine loop_next _ _ _ _ (i + 1) ?_; (repeat' (first | simp (maxDischargeDepth := 9) -implicitDefEqProofs -dsimp only [go_sem, seval, *] | simp (disch := omega) only [wrap64, tdiv2, tmod2, and1, xor1, xor_is1, shr1, shr1'])) <;> (repeat' refine And.intro ?_ ?_) <;> (first | omega | rfl | assumption | skip)
          · repeat' (first | simp (maxDischargeDepth := 9) -implicitDefEqProofs -dsimp only [go_sem, seval, *] | simp (disch := omega) only [wrap64, tdiv2, tmod2, and1, xor1, xor_is1, shr1, shr1'] | (with_reducible (first | apply Za | apply Zb | apply Zc | apply Zd | apply Ze | apply Zf | apply Zg | apply Zh | apply Zi | apply Zj | apply Zk | apply Zl | apply Zm | apply Zn | apply Zo | apply Zp | apply Zq | apply Zr | apply Zs) <;> intro hq) | ((with_reducible refine Zv ?_ ?_); focus (first | omega | exact rfl)) | ((with_reducible refine Zu ?_ ?_); focus omega) | ((with_reducible refine Zt (fun oF hoF hnF hnF' => ?_)); (try simp only [upd_none, ne_eq, not_and] at hoF)) | fail)
            have e0 : ls.take i = ls := List.take_of_length_le (by omega)
            rw [e0]
            exact fin_id (.inr ⟨o, ho, rfl, rfl⟩)
end lib
end Abs

namespace Abs
open Go
def dfrOf (P : Program) (N : Nat) : Code → Option (ACode × ACode × AInst × Nat × ACode)
  | .seq x (.seq y (.seq (.region _ ops false) z)) =>
    match ops.toList with
    | [o1, o2] =>
      match o2.op with
      | .defer cl =>
        match cl.callee with
        | .value (.tmp d) =>
          if o1.guard = none ∧ o2.guard = none ∧ o2.dst = none ∧ cl.args = #[] then
            match tr P N x, tr P N y, trInst P N ops o1, tr P N z with
            | some a, some b, some i, some e => some (a, b, i, d, e)
            | _, _, _, _ => none
          else none
        | _ => none
      | _ => none
    | _ => none
  | _ => none
theorem dfrOf_some {P N c a b i d e} (h : dfrOf P N c = some (a, b, i, d, e)) : ∃ x y id ops z o1 o2 cl, c = .seq x (.seq y (.seq (.region id ops false) z)) ∧ ops.toList = [o1, o2] ∧
    o2.op = .defer cl ∧ cl.callee = .value (.tmp d) ∧ o1.guard = none ∧ o2.guard = none ∧ o2.dst = none ∧ cl.args = #[] ∧ tr P N x = some a ∧ tr P N y = some b ∧ trInst P N ops o1 = some i ∧ tr P N z = some e := by
  unfold dfrOf at h
  split at h <;> try (simp at h; done)
  rename_i x y id ops z
  split at h <;> try (simp at h; done)
  rename_i o1 o2 ho
  split at h <;> try (simp at h; done)
  rename_i cl hcl
  split at h <;> try (simp at h; done)
  rename_i d' hd
  split at h <;> try (simp at h; done)
  rename_i hg
  split at h <;> try (simp at h; done)
  rename_i a' b' i' e' h1 h2 h3 h4
  simp only [Option.some.injEq, Prod.mk.injEq] at h
  obtain ⟨rfl, rfl, rfl, rfl, rfl⟩ := h
  exact ⟨x, y, id, ops, z, o1, o2, cl, rfl, ho, hcl, hd, hg.1, hg.2.1, hg.2.2.1, hg.2.2.2, h1, h2, h3, h4⟩
def ADef (P : Program) (g : FuncId) (args : List AV) (σ : Sig) (k : Sig → Prop) : Prop :=
  callable P g = true ∧ ∀ (S : Nat → Prop) K w (vals : Array Value), Bnd S → RelL K args vals.toList → Sat K σ w →
    CallsD P g vals .returning w fun e u w' => (∃ v, e = .returned v) ∧ u = .returning ∧ ∃ K' σ', K.leS S K' ∧ Sat K' σ' w' ∧ k σ'
def dfrQ (P : Program) (rs : List ARV) (R : ARes → Sig → Prop) (g : FuncId) (args : List AV) : AExit → Env → Sig → Prop
  | .normal, env, σ => ADef P g args σ (fun σ => exRes env σ (fun l => fin R (one l) σ) rs)
  | .ret, env, σ => ADef P g args σ (fun σ => exRes env σ (fun l => fin R (one l) σ) rs)
  | .panic _, _, _ => False
  | .exit _, _, _ => False
def exDfr (P : Program) (rs : List ARV) (R : ARes → Sig → Prop) (d : Nat) (e : ACode) (env : Env) (σ : Sig) : Prop :=
  wth (lk env d) fun v => match v with
    | .fn g first caps => ex P e (dfrQ P rs R g (first ++ caps)) env σ
    | _ => False
theorem upon_up {P : Program} {o : Oper} {a : Act} {next : Act → World → Prop} {Q Q' : Exit → Act → World → Prop} {r : Result Next} (h : o.upon P a next Q r)
    (hq : ∀ e a w, e ≠ .normal → Q e a w → Q' e a w) : o.upon P a next Q' r := by
  have hl : LetsOut Q → LetsOut Q' := fun ⟨a, w, h⟩ => ⟨a, w, hq _ _ _ (by simp) h⟩
  unfold Oper.upon at h ⊢
  split at h
  · exact h
  · exact h
  · exact h
  · exact h.mono fun e w' q => by
      cases e
      · exact q
      · exact hq _ _ _ (by simp) q
      · exact hl q
  · exact h
  · exact hq _ _ _ (by simp) h
  · exact h.elim
theorem calls_of_defer {P : Program} (hm : P.follows .mixedOrders = true) {f : FuncId} {fn : Func} {N : Nat} {rs : List ARV} {a b e : ACode} {i : AInst} {d : Nat} {args : List AV} {σ : Sig} {R : ARes → Sig → Prop}
    (hfn : P.funcs[f]? = some fn) (hb : fn.body.bind (dfrOf P N) = some (a.bare, b.bare, i.bare, d, e.bare)) (hname : (fn.name == "runtime.NumGoroutine") = false) (hN : fn.ntmps = N)
    (hr : trRes P fn.results.toList = some rs) (hargs : args.length ≤ N)
    (h : ex P a (thenQ (fun env σ => ex P b (thenQ (fun env σ => instRun P (bodyQ rs R) (fun v σ => exDfr P rs R d e (putA i.dst v env) σ) env σ i.op) (bodyQ rs R)) env σ) (bodyQ rs R)) (argEnv 0 args) σ) :
    ACalls P f args σ R := by
  cases hc : fn.body with
  | none => simp [hc] at hb
  | some c =>
  rw [hc] at hb
  obtain ⟨x, y, id, ops, z, o1, o2, cl, rfl, ho, hcl, hd, g1, g2, g3, g4, t1, t2, t3, t4⟩ := dfrOf_some (by simpa using hb)
  refine ⟨by simp [callable, hfn, hc, hname], fun S K w vals hS hrel hs => calls_of_wp_defers hfn hc ?_⟩
  have hf : Fr { K with ds := [] } N (argEnv 0 args) { tmps := vals ++ Array.replicate (fn.ntmps - vals.size) undef, defers := [] } := frame_enter hN hargs (hrel.ds []) rfl
  -- what ends the body without the call deferred
  have early : ∀ ex ac w', LiftQ N S { K with ds := [] } (bodyQ rs R) ex ac w' → bodyPostD P fn (fun e w' => ∃ K' r σ', K.leS S K' ∧ Sat K' σ' w' ∧ EndRel K' e r ∧ R r σ') ex ac w' := by
    rintro ex ac w' ⟨ae, K', env, σ', h1, h2, h3, h4, h5⟩
    have hds : ac.defers = [] := h3.defers.trans h1.le.ds
    cases ex <;> cases ae <;> first | exact h2.elim | exact h5.elim | skip
    · obtain ⟨l, v, q1, q2, v0, σ0, q3, q4⟩ := results_ok h3 h4 hr h5
      obtain ⟨K2, k1, k2, k3⟩ := q2.view q3 hS h4
      show Leaves P fn ac.tmps _ ac.defers .returning w'
      rw [hds]
      exact ⟨v, q1, _, .ret _, σ0, (h1.trans k1).ds, k3.ds _, EndRel.ds (e := .returned v) (r := .ret _) _ k2, q4⟩
    · obtain ⟨l, v, q1, q2, v0, σ0, q3, q4⟩ := results_ok h3 h4 hr h5
      obtain ⟨K2, k1, k2, k3⟩ := q2.view q3 hS h4
      show Leaves P fn ac.tmps _ ac.defers .returning w'
      rw [hds]
      exact ⟨v, q1, _, .ret _, σ0, (h1.trans k1).ds, k3.ds _, EndRel.ds (e := .returned v) (r := .ret _) _ k2, q4⟩
    · obtain ⟨v, rfl, hv⟩ := h2
      obtain ⟨v0, σ0, q3, q4⟩ := h5
      obtain ⟨K2, k1, k2, k3⟩ := hv.view q3 hS h4
      show Leaves P fn ac.tmps _ ac.defers (.panicking _) w'
      rw [hds]
      exact ⟨_, .panic _, σ0, (h1.trans k1).ds, k3.ds _, EndRel.ds (e := .panicked _) (r := .panic _) _ ⟨v, rfl, k2⟩, q4⟩
  refine wp_seq (wp_mono (ex_sound hm x a _ _ σ t1 h S _ _ w hS hf (hs.ds [])) fun ex ac w' hq => ?_)
  have hq := lift_then hq
  cases ex <;> first | exact early _ _ _ hq | skip
  obtain ⟨K1, env1, σ1, k1, k2, k3, k4⟩ := hq
  refine wp_seq (wp_mono (ex_sound hm y b _ _ σ1 t2 k4 S _ _ w' hS k2 k3) fun ex ac w' hq => ?_)
  have hq := lift_then (hq.mono k1)
  cases ex <;> first | exact early _ _ _ hq | skip
  obtain ⟨K2, env2, σ2, m1, m2, m3, m4⟩ := hq
  refine wp_seq (wp_region ?_)
  have hsz : ops.size = 2 := by rw [← Array.length_toList, ho]; rfl
  have e0 : ops[0]? = some o1 := by rw [← Array.getElem?_toList, ho]; rfl
  have e1 : ops[1]? = some o2 := by rw [← Array.getElem?_toList, ho]; rfl
  rw [hsz, show List.range 2 = [0, 1] from rfl]
  obtain ⟨u1, u2, u3, u4, u5⟩ := trInst_some t3
  simp only [wpOps, e0, e1, Region.wanted, g1, g2, if_true]
  left
  refine upon_up (inst_wp (o := o1) (i := i) (Q := bodyQ rs R) hS (K0 := { K with ds := [] }) (fun env σ => exDfr P rs R d e env σ) _ m1 u1 u2 u3 u4 (fun K3 env3 σ3 a3 w3 q1 q2 q3 q4 => ?_) m4 m2 m3) (fun e a w hne hq => by
    have := early _ _ _ hq
    cases e <;> first | exact absurd rfl hne | exact this)
  have hds3 : K3.ds = [] := q1.le.ds
  -- the call is deferred
  obtain ⟨fv, l1, q2⟩ := wth_some q2
  cases fv <;> first | exact q2.elim | skip
  rename_i g first caps
  obtain ⟨v, l2, l3⟩ := q3.rel d _ l1
  obtain ⟨fs, cs, rfl, l4, l5⟩ := rel_fn l3
  have hev : a3.eval (.tmp d) = .func (.func g) fs cs := by simp [Act.eval, Array.getD_eq_getD_getElem?, l2]
  left
  have hrun : (execOp a3.eval o2).run P w3 = .ok (.defer { target := .fn (.func g) cs, args := fs }) w3 := by
    obtain ⟨callee, cargs, types⟩ := cl
    simp only at hd g4
    subst hd; subst g4
    simp only [execOp, hcl, resolve, hev, Deferred.ofValue, Sem.run_bind, Sem.run_pure, Result.andThen_ok]
    simp
  unfold Oper.wp
  rw [hrun]
  simp only [Oper.upon, g3, Act.put, wpOps, Exit.then]
  let dd : Deferred := { target := .fn (.func g) cs, args := fs }
  have hf4 : Fr { K3 with ds := [dd] } N env3 { a3 with defers := dd :: a3.defers } := ⟨q3.size, by show dd :: a3.defers = [dd]; rw [q3.defers, hds3], fun i av e => by
    obtain ⟨v, e1, r⟩ := q3.rel i av e
    exact ⟨v, e1, r.ds _⟩⟩
  have hz := ex_sound hm z e _ _ σ3 t4 q2 S _ _ w3 hS hf4 (q4.ds [dd])
  refine wp_mono hz ?_
  rintro ex a4 w4 ⟨ae, K4, env4, σ4, n1, n2, n3, n4, n5⟩
  have hd4 : K4.ds = [dd] := n1.le.ds
  have fin4 : ADef P g (first ++ caps) σ4 (fun σ => exRes env4 σ (fun l => fin R (one l) σ) rs) → Leaves P fn a4.tmps (fun e w' => ∃ K' r σ', K.leS S K' ∧ Sat K' σ' w' ∧ EndRel K' e r ∧ R r σ') a4.defers .returning w4 := by
    rintro ⟨hcall, hdef⟩
    rw [n3.defers, hd4]
    refine leaves_cons (f := g) (args := fs ++ cs) (by simp) ?_ ?_
    · simp only [invoke]
      exact callFunc_run hcall _ _
    · have hrel4 : RelL K4 (first ++ caps) (fs ++ cs).toList := by
        rw [Array.toList_append]
        have hle : K3.le { K4 with ds := K3.ds } := (Gh.leS.ds n1).le
        have := ((l4.append l5).mono hle).ds [dd]
        have he : ({ ({ K4 with ds := K3.ds } : Gh) with ds := [dd] } : Gh) = K4 := by rw [← hd4]
        rw [he] at this; exact this
      refine (hdef S K4 w4 (fs ++ cs) hS hrel4 n4).mono fun ed u wd hq => ?_
      obtain ⟨⟨v, rfl⟩, rfl, K5, σ5, p1, p2, p3⟩ := hq
      show Leaves P fn a4.tmps _ [] (settle .returning) wd
      obtain ⟨l, v, w1, w2, v0, σ0, w3', w4'⟩ := results_ok (n3.mono p1.le) p2 hr p3
      obtain ⟨K6, y1, y2, y3⟩ := w2.view w3' hS p2
      have hq1 : K.leS S { K3 with ds := K.ds } := by
        have := q1.ds
        exact this
      have hn : ({ K3 with ds := K.ds } : Gh).leS S { K6 with ds := K.ds } := by
        have hh := (n1.trans p1).trans y1
        exact ⟨⟨hh.le.base, hh.le.claim, hh.le.own, rfl⟩, hh.free⟩
      exact ⟨v, w1, _, .ret _, σ0, hq1.trans hn, y3.ds _, EndRel.ds (e := .returned v) (r := .ret _) _ y2, w4'⟩
  cases ex <;> cases ae <;> first | exact n2.elim | exact n5.elim | skip
  · exact fin4 n5
  · exact fin4 n5
end Abs

