/- The abstraction layer, part P: maps. Over any program. -/
import Derived.Test.YtapnlmhfacoceaaAbsN
import Derived.Laws.Strings
import Derived.MapKept
import Derived.WideKeyRuns
set_option linter.unusedSimpArgs false
set_option linter.unusedVariables false
namespace Abs
open Go

theorem bytes_inj {a b : ByteArray} (h : a.toList = b.toList) : a = b := by
  rw [ByteArray.toList_eq, ByteArray.toList_eq] at h
  exact ByteArray.ext (Array.toList_inj.1 h)

/-! ### Keys -/

theorem eq1_val {K : Gh} {k : Nat} {a b : AV} {va vb : Value} (h : eq1 k a b = some true) (ha : Rel K a va) (hb : Rel K b vb) : va = vb ∧ ∀ n, Instr.sameBits n va vb = true := by
  match k, a, b, h with
  | 0, .int k x, .int k' y, h =>
    simp [eq1] at h
    obtain ⟨rfl, rfl⟩ := h
    rw [rel_int ha, rel_int hb]
    exact ⟨rfl, fun n => by cases n <;> simp [Instr.sameBits]⟩
  | 1, .bool x, .bool y, h =>
    simp [eq1] at h
    subst h
    rw [rel_bool ha, rel_bool hb]
    exact ⟨rfl, fun n => by cases n <;> simp [Instr.sameBits]⟩
  | 2, .str x, .str y, h =>
    simp [eq1] at h
    obtain rfl := bytes_inj h
    rw [rel_str ha, rel_str hb]
    exact ⟨rfl, fun n => by cases n <;> simp [Instr.sameBits, MapKept.bytes_beq]⟩

theorem eqCells_val {K : Gh} : ∀ {ks : List Nat} {l m : List AV} {vs us : List Value}, eqCells ks l m = some true → RelL K l vs → RelL K m us → vs = us ∧ ∀ n, ((vs.zip us).all fun (x, y) => Instr.sameBits n x y) = true
  | [], l, m, vs, us, h, hl, hm => by
    cases l <;> cases m <;> simp [eqCells] at h
    obtain rfl : vs = [] := by simpa using hl.1.symm
    obtain rfl : us = [] := by simpa using hm.1.symm
    exact ⟨rfl, fun n => rfl⟩
  | k :: ks, l, m, vs, us, h, hl, hm => by
    cases l with
    | nil => simp [eqCells] at h
    | cons a l =>
      cases m with
      | nil => simp [eqCells] at h
      | cons b m =>
        simp only [eqCells] at h
        split at h <;> simp at h
        rename_i p r hp hr
        obtain ⟨rfl, rfl⟩ := h
        obtain ⟨va, xr, rfl, ha1, ha2⟩ := hl.cons_inv
        obtain ⟨vb, yr, rfl, hb1, hb2⟩ := hm.cons_inv
        obtain ⟨e1, q1⟩ := eq1_val hp ha1 hb1
        obtain ⟨e2, q2⟩ := eqCells_val hr ha2 hb2
        refine ⟨by rw [e1, e2], fun n => ?_⟩
        simp only [List.zip_cons_cons, List.all_cons, q1 n, Bool.true_and]
        exact q2 n

theorem eqKey_val {K : Gh} {kk : KK} {a b : AV} {va vb : Value} (h : eqKey kk a b = some true) (ha : Rel K a va) (hb : Rel K b vb) : va = vb ∧ Instr.sameBits 10000 va vb = true := by
  cases kk with
  | one k => obtain ⟨e1, e2⟩ := eq1_val h ha hb; exact ⟨e1, e2 _⟩
  | row ks =>
    cases a <;> cases b <;> simp only [eqKey] at h <;> try (simp at h; done)
    obtain ⟨vs, rfl, h1⟩ := rel_agg ha
    obtain ⟨us, rfl, h2⟩ := rel_agg hb
    obtain ⟨e1, e2⟩ := eqCells_val h h1 h2
    have e3 : vs = us := Array.toList_inj.1 e1
    subst e3
    exact ⟨rfl, by simp only [Instr.sameBits, e2 9999, Bool.and_true]; simp⟩

section
variable {P : Program}

theorem kkOf_cases {t : TypeId} {kk : KK} (h : kkOf P t = some kk) : (∃ n, kk = .one n ∧ kindOf P t = some n) ∨ ∃ ks, kk = .row ks ∧ plainEq P t = some ks := by
  unfold kkOf at h
  split at h
  · rename_i n hn
    simp at h
    exact .inl ⟨n, h.symm, hn⟩
  · simp only [Option.map_eq_some_iff] at h
    obtain ⟨ks, h1, h2⟩ := h
    exact .inr ⟨ks, h2.symm, h1⟩

theorem run_eqKey {K : Gh} {t : TypeId} {kk : KK} {a b : AV} {va vb : Value} {r : Bool} (hk : kkOf P t = some kk) (ha : Rel K a va) (hb : Rel K b vb) (h : eqKey kk a b = some r) (w : World) : (Op.equal t va vb).run P w = .ok r w := by
  rcases kkOf_cases hk with ⟨n, rfl, hn⟩ | ⟨ks, rfl, hks⟩
  · exact run_eq1 hn ha hb h 9999 w
  · cases a <;> cases b <;> simp only [eqKey] at h <;> try (simp at h; done)
    obtain ⟨vs, rfl, h1⟩ := rel_agg ha
    obtain ⟨us, rfl, h2⟩ := rel_agg hb
    exact (run_plainEq hks h1 h2 h w).1

theorem check_one {K : Gh} {t : TypeId} {k : Nat} {a : AV} {v : Value} (hk : kindOf P t = some k) (h : (eq1 k a a).isSome = true) (hr : Rel K a v) (e : Bool) (n : Nat) (w : World) : (Instr.checkKey e (n + 1) t v).run P w = .ok () w := by
  unfold kindOf at hk
  split at hk <;> simp at hk <;> subst hk <;> (cases a <;> simp [eq1] at h)
  · rename_i hu _ _
    rw [rel_int hr]; simp [Instr.checkKey, run_underlying hu]
  · rename_i hu _
    rw [rel_bool hr]; simp [Instr.checkKey, run_underlying hu]
  · rename_i hu _
    rw [rel_str hr]; simp [Instr.checkKey, run_underlying hu]

theorem eqCells_self : ∀ {ks : List Nat} {l : List AV}, (eqCells ks l l).isSome = true → ks.length = l.length ∧ ∀ (i k : Nat) (a : AV), ks[i]? = some k → l[i]? = some a → (eq1 k a a).isSome = true
  | [], l, h => by cases l <;> simp [eqCells] at h ⊢
  | k :: ks, l, h => by
    cases l with
    | nil => simp [eqCells] at h
    | cons a l =>
      simp only [eqCells] at h
      split at h <;> simp at h
      rename_i p r hp hr
      obtain ⟨e1, e2⟩ := eqCells_self (ks := ks) (l := l) (by rw [hr]; rfl)
      refine ⟨by simp [e1], fun i k' a' h1 h2 => ?_⟩
      cases i with
      | zero => simp at h1 h2; subst h1; subst h2; rw [hp]; rfl
      | succ i => exact e2 i k' a' (by simpa using h1) (by simpa using h2)

theorem check_row {K : Gh} {t : TypeId} {ks : List Nat} {l : List AV} {vs : Array Value} (hp : plainEq P t = some ks) (h : (eqCells ks l l).isSome = true) (hr : RelL K l vs.toList) (e : Bool) (w : World) :
    (Instr.checkKey e 10000 t (.agg vs)).run P w = .ok () w := by
  obtain ⟨hlen, hone⟩ := eqCells_self h
  have hlv : l.length = vs.size := by simpa using hr.1
  -- one cell
  have cell : ∀ (i : Nat) (k : Nat) (ft : TypeId) (n : Nat), ks[i]? = some k → kindOf P ft = some k → ∃ v, (part ft vs i).run P w = .ok v w ∧ (Instr.checkKey e (n + 1) ft v).run P w = .ok () w := by
    intro i k ft n hi hk
    have hil : i < l.length := by rw [← hlen]; exact (List.getElem?_eq_some_iff.1 hi).1
    have hiv : i < vs.size := by omega
    have h1 := hr.2 i hil (by simpa using hiv)
    refine ⟨vs[i], kind_part hk w vs i (by simp [hiv]), check_one hk (hone i k l[i] hi (List.getElem?_eq_getElem hil)) (v := vs[i]) (by simpa using h1) e n w⟩
  unfold plainEq at hp
  split at hp
  · rename_i fs hu
    split at hp
    case isFalse => simp at hp
    rw [Instr.checkKey]
    simp only [Sem.run_bind, run_underlying hu, Result.andThen_ok]
    rw [← Array.forIn_toList]
    have key : ∀ (L : List Field) (i : Nat) (ks' : List Nat), fieldKinds P i L = some ks' → (∀ j k, ks'[j]? = some k → ks[i + j]? = some k) →
        ∀ f ∈ L, f.name ≠ "_" ∧ ∃ v, (part f.type vs f.offset).run P w = .ok v w ∧ (Instr.checkKey e 9999 f.type v).run P w = .ok () w := by
      intro L
      induction L with
      | nil => intro i ks' _ _ f hf; simp at hf
      | cons f0 L ih =>
        intro i ks' hk hs f hf
        simp only [fieldKinds] at hk
        split at hk <;> try (simp at hk; done)
        rename_i hc
        obtain ⟨hoff, hname⟩ := hc
        split at hk <;> simp at hk
        rename_i k ks2 hk1 hk2
        subst hk
        rcases List.mem_cons.1 hf with rfl | hf
        · refine ⟨hname, ?_⟩
          rw [hoff]
          exact cell i k f.type 9998 (by simpa using hs 0 k rfl) hk1
        · exact ih (i + 1) ks2 hk2 (fun j k hj => by have := hs (j + 1) k (by simpa using hj); rwa [show i + 1 + j = i + (j + 1) by omega]) f hf
    have each := key fs.toList 0 ks hp (fun j k hj => by simpa using hj)
    clear key hp
    generalize fs.toList = L at each
    induction L with
    | nil => simp
    | cons f L ih =>
      obtain ⟨hn, v, p1, p2⟩ := each f (by simp)
      simp only [List.forIn_cons, Sem.run_bind, hn, ne_eq, not_false_eq_true, if_true, p1, Result.andThen_ok, p2, Sem.run_pure]
      exact ih (fun y hy => each y (by simp [hy]))
  · rename_i n el hu
    split at hp
    case isFalse => simp at hp
    rename_i hc
    simp at hp
    obtain ⟨k, hk, rfl⟩ := hp
    rw [Instr.checkKey]
    simp only [Sem.run_bind, run_underlying hu, Result.andThen_ok]
    simp only [Std.Legacy.Range.forIn_eq_forIn_range', Std.Legacy.Range.size, Nat.sub_zero, Nat.add_one_sub_one, Nat.div_one]
    have each : ∀ j ∈ List.range' 0 n, ∃ v, (part el vs j).run P w = .ok v w ∧ (Instr.checkKey e 9999 el v).run P w = .ok () w := by
      intro j hj
      have hjn : j < n := by simp [List.mem_range'_1] at hj; omega
      exact cell j k el 9998 (by simp [hjn]) hk
    generalize List.range' 0 n = is at each
    induction is with
    | nil => simp
    | cons j is ih =>
      obtain ⟨v, p1, p2⟩ := each j (by simp)
      simp only [List.forIn_cons, Sem.run_bind, run_sizeOf' hc.2.1, Result.andThen_ok, Nat.mul_one, p1, p2, Sem.run_pure]
      exact ih (fun y hy => each y (by simp [hy]))
  · simp at hp

theorem run_check {K : Gh} {t : TypeId} {kk : KK} {a : AV} {v : Value} (hk : kkOf P t = some kk) (h : keyOk kk a = true) (hr : Rel K a v) (e : Bool) (w : World) : (Instr.checkKey e 10000 t v).run P w = .ok () w := by
  unfold keyOk at h
  rcases kkOf_cases hk with ⟨n, rfl, hn⟩ | ⟨ks, rfl, hks⟩
  · exact check_one hn h hr e 9999 w
  · cases a <;> simp only [eqKey] at h <;> try (simp at h; done)
    obtain ⟨vs, rfl, h1⟩ := rel_agg hr
    exact check_row hks h h1 e w

/-! ### Places -/

def idxK (kk : KK) (k : AV) : List (AV × AV) → Option (Option Nat)
  | [] => some none
  | (a, _) :: r => match eqKey kk k a with
    | some true => some (some 0)
    | some false => (idxK kk k r).map fun i => i.map (· + 1)
    | none => none

theorem lookK_idx (kk : KK) (k : AV) : ∀ m : List (AV × AV), lookK kk k m = (idxK kk k m).map fun i => i.bind fun i => m[i]?.map (·.2)
  | [] => rfl
  | (a, v) :: r => by
    simp only [lookK, idxK]
    cases he : eqKey kk k a with
    | none => simp
    | some b =>
      cases b with
      | true => simp
      | false =>
        simp only [lookK_idx kk k r]
        cases idxK kk k r with
        | none => rfl
        | some i => cases i <;> simp

theorem setK_idx (kk : KK) (k v : AV) : ∀ m : List (AV × AV), setK kk k v m = (idxK kk k m).map fun i => match i with | some i => m.modify i (fun _ => (k, v)) | none => m ++ [(k, v)]
  | [] => rfl
  | (a, u) :: r => by
    simp only [setK, idxK]
    cases he : eqKey kk k a with
    | none => simp
    | some b =>
      cases b with
      | true => simp
      | false =>
        simp only [setK_idx kk k v r]
        cases idxK kk k r with
        | none => rfl
        | some i => cases i <;> simp

theorem delK_idx (kk : KK) (k : AV) : ∀ m : List (AV × AV), delK kk k m = (idxK kk k m).map fun i => match i with | some i => m.eraseIdx i | none => m
  | [] => rfl
  | (a, u) :: r => by
    simp only [delK, idxK]
    cases he : eqKey kk k a with
    | none => simp
    | some b =>
      cases b with
      | true => simp
      | false =>
        simp only [delK_idx kk k r]
        cases idxK kk k r with
        | none => rfl
        | some i => cases i <;> simp

theorem entK_idx (kk : KK) (k z : AV) : ∀ m : List (AV × AV), entK kk k z m = (idxK kk k m).map fun i => match i with | some i => ((m[i]?.map (·.2)).getD z, i, m.modify i (fun p => (k, p.2))) | none => (z, m.length, m ++ [(k, z)])
  | [] => rfl
  | (a, u) :: r => by
    simp only [entK, idxK]
    cases he : eqKey kk k a with
    | none => simp
    | some b =>
      cases b with
      | true => simp
      | false =>
        simp only [entK_idx kk k z r]
        cases idxK kk k r with
        | none => rfl
        | some i => cases i <;> simp

theorem idxK_lt (kk : KK) (k : AV) : ∀ {m : List (AV × AV)} {i : Nat}, idxK kk k m = some (some i) → i < m.length ∧ ∃ p, m[i]? = some p ∧ eqKey kk k p.1 = some true
  | [], i, h => by simp [idxK] at h
  | (a, v) :: r, i, h => by
    simp only [idxK] at h
    split at h
    · rename_i he
      simp at h; subst h
      exact ⟨by simp, _, rfl, he⟩
    · simp only [Option.map_eq_some_iff] at h
      obtain ⟨j, h1, h2⟩ := h
      cases j with
      | none => simp at h2
      | some j =>
        simp at h2; subst h2
        obtain ⟨q1, p, q2, q3⟩ := idxK_lt kk k h1
        exact ⟨by simp; omega, p, by simpa using q2, q3⟩
    · simp at h

def RelM (K : Gh) (m : List (AV × AV)) (es : List MapEntry) : Prop := m.length = es.length ∧ ∀ i, (h : i < m.length) → (h' : i < es.length) → Rel K m[i].1 es[i].key ∧ Rel K m[i].2 es[i].val

theorem RelM.cons_inv {K : Gh} {p m es} (h : RelM K (p :: m) es) : ∃ e r, es = e :: r ∧ (Rel K p.1 e.key ∧ Rel K p.2 e.val) ∧ RelM K m r := by
  cases es with
  | nil => simp [RelM] at h
  | cons e r =>
    refine ⟨e, r, rfl, h.2 0 (by simp) (by simp), by simpa using h.1, fun i h1 h2 => ?_⟩
    exact h.2 (i + 1) (by simpa using h1) (by simpa using h2)

def foundAt (es : List MapEntry) (i0 : Nat) : Option Nat → Option (Nat × Value) := fun i => i.map fun i => (i0 + i, (es[i]?.map (·.val)).getD undef)

theorem run_asking {K : Gh} {t : TypeId} {kk : KK} {k : AV} {v : Value} (hk : kkOf P t = some kk) (hr : Rel K k v) (w : World) : ∀ {m : List (AV × AV)} {es : List MapEntry} {i : Option Nat} (i0 : Nat), RelM K m es → idxK kk k m = some i →
    (Instr.findAsking t v es i0).run P w = .ok (foundAt es i0 i) w
  | [], es, i, i0, hm, h => by
    obtain rfl : es = [] := by simpa using hm.1.symm
    simp [idxK] at h; subst h
    rfl
  | (a, u) :: m, es, i, i0, hm, h => by
    obtain ⟨e, r, rfl, ⟨h1, h2⟩, h3⟩ := hm.cons_inv
    simp only [idxK] at h
    split at h
    · rename_i he
      simp at h; subst h
      simp only [Instr.findAsking, Sem.run_bind, run_eqKey hk hr h1 he w, Result.andThen_ok, if_true, Sem.run_pure]
      simp [foundAt]
    · rename_i he
      simp only [Option.map_eq_some_iff] at h
      obtain ⟨j, h4, rfl⟩ := h
      have ih := run_asking hk hr w (i0 + 1) h3 h4
      simp only [Instr.findAsking, Sem.run_bind, run_eqKey hk hr h1 he w, Result.andThen_ok, Bool.false_eq_true, if_false]
      rw [ih]
      cases j with
      | none => rfl
      | some j => simp [foundAt]; omega
    · simp at h

theorem sameNow_eq {K : Gh} {t : TypeId} {d : TypeDesc} {n : Nat} {a b : AV} {va vb : Value} {r : Bool} (hd : P.underlying t = some d) (hk : kindOf P t = some n) (ha : Rel K a va) (hb : Rel K b vb) (h : eq1 n a b = some r) : Instr.sameNow d va vb = some r := by
  unfold kindOf at hk
  rw [hd] at hk
  cases d <;> simp at hk <;> subst hk <;> (cases a <;> cases b <;> simp [eq1] at h)
  · subst h
    rw [rel_bool ha, rel_bool hb]; simp [Instr.sameNow]
  · obtain ⟨rfl, rfl⟩ := h
    rw [rel_int ha, rel_int hb]; simp [Instr.sameNow]
  · subst h
    rw [rel_str ha, rel_str hb]
    simp only [Instr.sameNow, Option.some.injEq]
    rw [Bool.eq_iff_iff]
    simp only [MapKept.bytes_beq, beq_iff_eq]
    exact ⟨fun e => by rw [e], bytes_inj⟩

theorem run_now {K : Gh} {t : TypeId} {d : TypeDesc} {n : Nat} {k : AV} {v : Value} (hd : P.underlying t = some d) (hk : kindOf P t = some n) (hr : Rel K k v) : ∀ {m : List (AV × AV)} {es : List MapEntry} {i : Option Nat} (i0 : Nat), RelM K m es → idxK (.one n) k m = some i →
    Instr.findNow d v es i0 = some (foundAt es i0 i)
  | [], es, i, i0, hm, h => by
    obtain rfl : es = [] := by simpa using hm.1.symm
    simp [idxK] at h; subst h
    rfl
  | (a, u) :: m, es, i, i0, hm, h => by
    obtain ⟨e, r, rfl, ⟨h1, h2⟩, h3⟩ := hm.cons_inv
    simp only [idxK] at h
    split at h
    · rename_i he
      simp at h; subst h
      simp only [Instr.findNow, sameNow_eq hd hk hr h1 he]
      simp [foundAt]
    · rename_i he
      simp only [Option.map_eq_some_iff] at h
      obtain ⟨j, h4, rfl⟩ := h
      have ih := run_now hd hk hr (i0 + 1) h3 h4
      simp only [Instr.findNow, sameNow_eq hd hk hr h1 he]
      rw [ih]
      cases j with
      | none => rfl
      | some j => simp [foundAt]; omega
    · simp at h

theorem run_find {K : Gh} {t : TypeId} {kk : KK} {k : AV} {v : Value} (hk : kkOf P t = some kk) (hr : Rel K k v) (w : World) {m : List (AV × AV)} {es : List MapEntry} {i : Option Nat} (hm : RelM K m es) (h : idxK kk k m = some i) :
    (Instr.findKey t v es).run P w = .ok (foundAt es 0 i) w := by
  rcases kkOf_cases hk with ⟨n, rfl, hn⟩ | ⟨ks, rfl, hks⟩
  · obtain ⟨d, hd⟩ : ∃ d, P.underlying t = some d := by
      unfold kindOf at hn
      cases hu : P.underlying t with
      | none => rw [hu] at hn; simp at hn
      | some d => exact ⟨d, rfl⟩
    exact MapKept.run_findKey hd (run_now hd hn hr 0 hm h)
  · have hw : (match P.underlying t with | some (.array _ _) | some (.struct _) => true | _ => false) = true := by
      unfold plainEq at hks
      split at hks
      · rename_i hu; rw [hu]
      · rename_i hu; rw [hu]
      · simp at hks
    rw [run_findKey_eq w hw v es]
    exact run_asking hk hr w 0 hm h
end

end Abs
