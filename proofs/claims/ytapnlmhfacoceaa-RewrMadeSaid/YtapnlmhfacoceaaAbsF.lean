/- The abstraction layer, part F: operations on slices, structs and arrays. Over any program. -/
import Derived.Test.YtapnlmhfacoceaaAbsE
set_option linter.unusedSimpArgs false
set_option linter.unusedVariables false
namespace Abs
open Go

/-! ### Rows of values -/

theorem flat_nil : flat [] = [] := rfl
theorem flat_cons (x l) : flat (x :: l) = cellsA x ++ flat l := by simp [flat]
theorem flat_append (l m) : flat (l ++ m) = flat l ++ flat m := by simp [flat]
theorem flat_length {l : List AV} {sz} (h : ∀ x ∈ l, (cellsA x).length = sz) : (flat l).length = l.length * sz := by
  induction l with
  | nil => simp [flat]
  | cons x l ih =>
    rw [flat_cons, List.length_append, h x (by simp), ih (fun y hy => h y (by simp [hy]))]
    simp [Nat.succ_mul]; omega
theorem flat_drop {l : List AV} {sz} (h : ∀ x ∈ l, (cellsA x).length = sz) (n : Nat) : flat (l.drop n) = (flat l).drop (n * sz) := by
  induction n generalizing l with
  | zero => simp
  | succ n ih =>
    cases l with
    | nil => simp [flat]
    | cons x l =>
      rw [List.drop_succ_cons, ih (fun y hy => h y (by simp [hy])), flat_cons, Nat.succ_mul, Nat.add_comm, List.drop_append, List.drop_of_length_le (l := cellsA x) (by rw [h x (by simp)]; omega), h x (by simp)]
      simp
theorem flat_take {l : List AV} {sz} (h : ∀ x ∈ l, (cellsA x).length = sz) (n : Nat) : flat (l.take n) = (flat l).take (n * sz) := by
  induction n generalizing l with
  | zero => simp [flat]
  | succ n ih =>
    cases l with
    | nil => simp [flat]
    | cons x l =>
      rw [List.take_succ_cons, flat_cons, ih (fun y hy => h y (by simp [hy])), flat_cons, Nat.succ_mul, Nat.add_comm, List.take_append, List.take_of_length_le (l := cellsA x) (by rw [h x (by simp)]; omega), h x (by simp)]
      simp
theorem flat_at {l : List AV} {sz} (h : ∀ x ∈ l, (cellsA x).length = sz) {i : Nat} {e : AV} (he : l[i]? = some e) : ((flat l).drop (i * sz)).take sz = cellsA e := by
  rw [← flat_drop h]
  have hi : i < l.length := by
    rcases Nat.lt_or_ge i l.length with h' | h'
    · exact h'
    · simp [List.getElem?_eq_none h'] at he
  rw [List.drop_eq_getElem_cons hi, flat_cons]
  have : l[i] = e := by rw [List.getElem?_eq_getElem hi] at he; exact Option.some.inj he
  rw [this, List.take_append, List.take_of_length_le (by rw [h e (this ▸ List.getElem_mem hi)]; omega), h e (this ▸ List.getElem_mem hi)]
  simp

theorem rel_slice {K l t v} (h : Rel K (.slice l t) v) :
    (∃ a cap, v = .slice a 0 cap ∧ l = [] ∧ (t = .no ∨ t = .full ∧ cap = 0 ∨ t = .nil ∧ a = none ∧ cap = 0 ∨ (a = none ∧ cap = 0 ∧ ∃ o, t = .own o ∧ NilOwn K o))) ∨
    (∃ b off cap sz, ∃ u : Nat → Value, v = .slice (some ⟨b, off, none⟩) l.length cap ∧ (∀ x ∈ l, (cellsA x).length = sz) ∧ (∀ i, i < (flat l).length → K.claim b (off + i) = some (u i)) ∧
      (∀ i, (h : i < (flat l).length) → Rel K (flat l)[i] (u i)) ∧ TokOk K t l.length b off cap sz ∧ l.length ≤ cap) := by
  cases h with
  | sl0 a cap t ht => exact .inl ⟨a, cap, rfl, rfl, ht⟩
  | slice l t b off cap sz u hsz hc hr ht hcap => exact .inr ⟨b, off, cap, sz, u, rfl, hsz, hc, hr, ht, hcap⟩

theorem rel_vec {K o len v} (h : Rel K (.vec o len) v) : ∃ b cap, v = .slice (some ⟨b, 0, none⟩) len cap ∧ VecOk K o len b cap ∧ len ≤ cap := by
  cases h with | vec o len b cap h hl => exact ⟨b, cap, rfl, h, hl⟩

theorem rel_pre {K o len n v} (h : Rel K (.pre o len n) v) : ∃ b cap, v = .slice (some ⟨b, 0, none⟩) len cap ∧ VecOk K o n b cap ∧ len ≤ n ∧ n ≤ cap := by
  cases h with | pre o len n b cap h h1 hl => exact ⟨b, cap, rfl, h, h1, hl⟩

section ops
variable {P : Program} {o : Oper} {N : Nat} {env : Env} {σ : Sig} {nm : Nat} {R : AV → Option (Nat × AObj) → Prop}

theorem ok_un {op t x ax} (ho : o.op = .unOp op t x) (hx : trOpnd x = some ax) (h : exOpN nm env σ R (.un op ax)) : OpOk P o N env σ nm R := by
  refine .still fun K a w hf hs => ?_
  obtain ⟨av, h1, h2⟩ := wth_some h
  have hr := trOpnd_rel hx h1 hf
  cases op <;> cases av <;> simp at h2
  case not.bool => exact ⟨_, _, by simp [execOp, ho, rel_bool hr, Op.unary] <;> rfl, .bool _, h2⟩
  case neg.int => exact ⟨_, _, by simp [execOp, ho, rel_int hr, Op.unary, Op.intArith] <;> rfl, .int _ _, h2⟩

theorem ok_conv {s d x ax ks k} (ho : o.op = .convert s d x) (hs1 : P.underlying s = some (.int ks)) (hd : P.underlying d = some (.int k)) (hx : trOpnd x = some ax) (h : exOpN nm env σ R (.conv k ax)) : OpOk P o N env σ nm R := by
  refine .still fun K a w hf hs => ?_
  obtain ⟨av, h1, h2⟩ := wth_some h
  have hr := trOpnd_rel hx h1 hf
  cases av <;> simp at h2
  have e := rel_int hr
  exact ⟨_, _, by simp [execOp, ho, e, Go.convert, run_underlying' hs1, run_underlying' hd, Conv.intToInt] <;> rfl, .int _ _, h2⟩

theorem ok_mkfn {f first caps af ac} (ho : o.op = .makeFunc (.func f) first caps) (h1 : trOpnds first.toList = some af) (h2 : trOpnds caps.toList = some ac) (h : exOpN nm env σ R (.mkfn f af ac)) : OpOk P o N env σ nm R := by
  refine .still fun K a w hf hs => ?_
  obtain ⟨l, e1, h3⟩ := wthL_some h
  obtain ⟨m, e2, h4⟩ := wthL_some h3
  have r1 := trOpnds_rel hf h1 e1
  have r2 := trOpnds_rel hf h2 e2
  refine ⟨.fn f l m, .func (.func f) (first.map a.eval) (caps.map a.eval), by simp [execOp, ho, Instr.makeFunc], ?_, h4⟩
  refine .fn f l m _ _ (by simpa using r1.1) (by simpa using r2.1) (fun i i1 i2 => ?_) (fun i i1 i2 => ?_)
  · have := r1.2 i i1 (by simpa using i2); simpa using this
  · have := r2.2 i i1 (by simpa using i2); simpa using this

theorem run_fieldAt {s f} {fs : Array Field} {fd : Field} (hu : P.underlying s = some (.struct fs)) (hf : fs[f]? = some fd) {n} (hn : szOf P fd.type = some n) (hn0 : n ≠ 0) (w : World) (b off : Nat) :
    (Instr.fieldAt s (.pointer (some ⟨b, off, none⟩)) f).run P w = .ok (.pointer (some ⟨b, off + fd.offset, none⟩)) w := by
  simp [Instr.fieldAt, run_underlying' hu, hf, Instr.sureAddr, fieldPlace, run_sizeOf' hn, hn0, add_none]

theorem ok_fldA {s x f ax fs fd n} (ho : o.op = .fieldAddr s x f) (hu : P.underlying s = some (.struct fs)) (hf' : fs[f]? = some fd) (hn : szOf P fd.type = some n) (hn0 : n ≠ 0) (hx : trOpnd x = some ax)
    (h : exOpN nm env σ R (.fldA fd.offset ax)) : OpOk P o N env σ nm R := by
  refine .still fun K a w hf hs => ?_
  obtain ⟨av, h1, h2⟩ := wth_some h
  have hr := trOpnd_rel hx h1 hf
  cases av <;> simp at h2
  case ptr ob off =>
    obtain ⟨e, he, h3, h4⟩ := rel_ptr hr
    exact ⟨_, _, by simp [execOp, ho, he, run_fieldAt hu hf' hn hn0] <;> rfl, .ptr _ _ e h3 h4, h2⟩
  case eptr ob m off =>
    obtain ⟨b, cap, he, h3⟩ := rel_eptr hr
    exact ⟨_, _, by simp [execOp, ho, he, run_fieldAt hu hf' hn hn0] <;> rfl, .eptr _ _ _ b cap h3, h2⟩
  case cptr cs =>
    obtain ⟨b, off, u, he, h3, h4⟩ := rel_cptr hr
    refine ⟨_, _, by simp [execOp, ho, he, run_fieldAt hu hf' hn hn0] <;> rfl, ?_, h2⟩
    refine .cptr _ b (off + fd.offset) (fun i => u (fd.offset + i)) (fun i hi => ?_) (fun i hi => ?_)
    · rw [Nat.add_assoc]; exact h3 _ (by simp at hi; omega)
    · simpa using h4 (fd.offset + i) (by simp at hi; omega)

theorem run_part {t g n} (hr : readOf P t = some (g, n)) (w : World) (cs : Array Value) (off : Nat) (h : off + n ≤ cs.size) :
    (part t cs off).run P w = .ok (if g then .agg (cs.extract off (off + n)) else cs[off]?.getD undef) w := by
  obtain ⟨h1, h2, h3⟩ := readOf_some hr
  cases g with
  | true => simp [part, run_isAgg' h1, run_sizeOf' h2]
  | false =>
    have := h3 rfl
    subst this
    have ho : off < cs.size := by omega
    simp [part, run_isAgg' h1, ho]

theorem part_rel {K : Gh} {g : Bool} {cs : List AV} {vs : Array Value} {off n a} (hr : RelL K cs vs.toList) (h : mkv g ((cs.drop off).take n) = some a) (hn : g = false → n = 1) (hl : off + n ≤ cs.length) :
    Rel K a (if g then .agg (vs.extract off (off + n)) else vs[off]?.getD undef) := by
  have h1 := mkv_rel ((hr.drop off).take n) h
  cases g with
  | true =>
    have e : (List.take n (List.drop off vs.toList)).toArray = vs.extract off (off + n) := by
      apply Array.ext'
      rw [Array.toList_extract]
      simp [List.take_drop]
    simp only [if_true] at h1 ⊢
    rw [← e]; exact h1
  | false =>
    have := hn rfl
    subst this
    have hs : off < vs.size := by have := hr.1; simp at this; omega
    simpa [hs] using h1

theorem ok_fldV {s x f ax fs fd g n} (ho : o.op = .field s x f) (hu : P.underlying s = some (.struct fs)) (hf' : fs[f]? = some fd) (hn : readOf P fd.type = some (g, n)) (hx : trOpnd x = some ax)
    (h : exOpN nm env σ R (.fldV g fd.offset n ax)) : OpOk P o N env σ nm R := by
  refine .still fun K a w hf hs => ?_
  obtain ⟨av, h1, h2⟩ := wth_some h
  have hr := trOpnd_rel hx h1 hf
  cases av <;> simp at h2
  rename_i cs
  obtain ⟨h3, h4⟩ := h2
  obtain ⟨rv, h5, h6⟩ := wth_some h4
  obtain ⟨vs, he, hv⟩ := rel_agg hr
  have hl : cs.length = vs.size := by simpa using hv.1
  refine ⟨rv, _, by simp [execOp, ho, he, Instr.field, run_underlying' hu, hf', asAgg, run_part hn w vs fd.offset (by omega)] <;> rfl, part_rel hv h5 (readOf_some hn).2.2 h3, h6⟩

theorem ok_idxS {t x i e ax ai sz} (ho : o.op = .indexAddr t x i) (hu : P.underlying t = some (.slice e)) (hsz : szOf P e = some sz) (hx : trOpnd x = some ax) (hi : trOpnd i = some ai)
    (h : exOpN nm env σ R (.idxS sz ax ai)) : OpOk P o N env σ nm R := by
  refine .still fun K a w hf hs => ?_
  obtain ⟨sv, h1, h2⟩ := wth_some h
  obtain ⟨iv, h3, h4⟩ := wth_some h2
  have rs := trOpnd_rel hx h1 hf
  have ri := trOpnd_rel hi h3 hf
  cases sv <;> cases iv <;> simp at h4
  case slice.int l tk k n =>
    obtain ⟨p1, h5⟩ := h4
    obtain ⟨el, p2, p3, p4⟩ := wth_some h5
    have ei := rel_int ri
    have hlt : n.toNat < l.length := by
      rcases Nat.lt_or_ge n.toNat l.length with h' | h'
      · exact h'
      · simp [List.getElem?_eq_none h'] at p2
    rcases rel_slice rs with ⟨a0, cap, he, rfl, _⟩ | ⟨b, off, cap, sz', u, he, q1, q2, q3, q4, q5⟩
    · simp at hlt
    have hel : el ∈ l := List.mem_of_getElem? p2
    have hszz : sz' = sz := by rw [← q1 el hel, p3]
    subst hszz
    have hn : n < (l.length : Int) := by omega
    have hfl := flat_at q1 p2
    have hlen := flat_length q1
    have hbound : n.toNat * sz' + sz' ≤ (flat l).length := by
      rw [hlen]; have := Nat.mul_le_mul_right sz' (show n.toNat + 1 ≤ l.length by omega)
      rw [Nat.succ_mul] at this; exact this
    refine ⟨_, _, by simp [execOp, ho, he, ei, Instr.indexAt, asIntOf, run_underlying' hu, p1, hn, run_sizeOf' hsz, add_none] <;> rfl, ?_, p4⟩
    refine .cptr _ b (off + n.toNat * sz') (fun j => u (n.toNat * sz' + j)) (fun j hj => ?_) (fun j hj => ?_)
    · rw [Nat.add_assoc]; exact q2 _ (by omega)
    · have hj' : n.toNat * sz' + j < (flat l).length := by omega
      have := q3 (n.toNat * sz' + j) hj'
      have e2 : (flat l)[n.toNat * sz' + j] = (cellsA el)[j] := by
        apply Option.some.inj
        rw [← List.getElem?_eq_getElem, ← List.getElem?_eq_getElem, ← hfl, List.getElem?_take, if_pos (by omega), List.getElem?_drop]
      rw [← e2]; exact this
  case vec.int ob len k n =>
    obtain ⟨⟨p1, p2⟩, p4⟩ := h4
    have ei := rel_int ri
    obtain ⟨b, cap, he, q1, q2⟩ := rel_vec rs
    refine ⟨_, _, by simp [execOp, ho, he, ei, Instr.indexAt, asIntOf, run_underlying' hu, p1, p2, run_sizeOf' hsz, add_none] <;> rfl, ?_, p4⟩
    exact .eptr ob _ _ b cap q1
  case pre.int ob len nn k n =>
    obtain ⟨⟨p1, p2⟩, p4⟩ := h4
    have ei := rel_int ri
    obtain ⟨b, cap, he, q1, q2⟩ := rel_pre rs
    refine ⟨_, _, by simp [execOp, ho, he, ei, Instr.indexAt, asIntOf, run_underlying' hu, p1, p2, run_sizeOf' hsz, add_none] <;> rfl, ?_, p4⟩
    exact .eptr ob _ _ b cap q1

theorem ok_idxR {t x i e len ax ai sz} (ho : o.op = .indexAddr t x i) (hu : P.underlying t = some (.array len e)) (hsz : szOf P e = some sz) (hx : trOpnd x = some ax) (hi : trOpnd i = some ai)
    (h : exOpN nm env σ R (.idxR sz len ax ai)) : OpOk P o N env σ nm R := by
  refine .still fun K a w hf hs => ?_
  obtain ⟨sv, h1, h2⟩ := wth_some h
  obtain ⟨iv, h3, h4⟩ := wth_some h2
  have rs := trOpnd_rel hx h1 hf
  have ri := trOpnd_rel hi h3 hf
  have run : ∀ {b off : Nat} {k : IntKind} {n : Int}, a.eval x = .pointer (some ⟨b, off, none⟩) → a.eval i = .int k n → 0 ≤ n → n < len →
      (execOp a.eval o).run P w = .ok (.value (.pointer (some ⟨b, off + n.toNat * sz, none⟩))) w := by
    intro b off k n he ei p1 p2
    simp [execOp, ho, he, ei, Instr.indexAt, asIntOf, run_underlying' hu, p1, p2, run_sizeOf' hsz, add_none, Instr.sureAddr]
  cases sv <;> cases iv <;> simp at h4
  case ptr.int ob off k n =>
    obtain ⟨⟨p1, p2⟩, p4⟩ := h4
    obtain ⟨e0, he, q1, q2⟩ := rel_ptr rs
    exact ⟨_, _, run he (rel_int ri) p1 p2, .ptr ob _ e0 q1 q2, p4⟩
  case eptr.int ob m off k n =>
    obtain ⟨⟨p1, p2⟩, p4⟩ := h4
    obtain ⟨b, cap, he, q1⟩ := rel_eptr rs
    exact ⟨_, _, run he (rel_int ri) p1 p2, .eptr ob _ _ b cap q1, p4⟩
  case cptr.int cs k n =>
    obtain ⟨⟨p1, p2⟩, p4⟩ := h4
    obtain ⟨b, off, u, he, q1, q2⟩ := rel_cptr rs
    refine ⟨_, _, run he (rel_int ri) p1 p2, ?_, p4⟩
    refine .cptr _ b _ (fun j => u (n.toNat * sz + j)) (fun j hj => ?_) (fun j hj => ?_)
    · rw [Nat.add_assoc]; exact q1 _ (by simp at hj; omega)
    · simpa using q2 (n.toNat * sz + j) (by simp at hj; omega)

theorem ok_idxV {t x i e len ax ai g sz} (ho : o.op = .index t x i) (hu : P.underlying t = some (.array len e)) (hsz : readOf P e = some (g, sz)) (hx : trOpnd x = some ax) (hi : trOpnd i = some ai)
    (h : exOpN nm env σ R (.idxV g sz len ax ai)) : OpOk P o N env σ nm R := by
  refine .still fun K a w hf hs => ?_
  obtain ⟨sv, h1, h2⟩ := wth_some h
  obtain ⟨iv, h3, h4⟩ := wth_some h2
  have rs := trOpnd_rel hx h1 hf
  have ri := trOpnd_rel hi h3 hf
  cases sv <;> cases iv <;> simp at h4
  rename_i cs k n
  obtain ⟨⟨p1, p2, p3⟩, p4⟩ := h4
  obtain ⟨rv, h5, h6⟩ := wth_some p4
  obtain ⟨vs, he, hv⟩ := rel_agg rs
  have ei := rel_int ri
  have hl : cs.length = vs.size := by simpa using hv.1
  obtain ⟨m1, m2, m3⟩ := readOf_some hsz
  exact ⟨rv, _, by simp [execOp, ho, he, ei, Instr.index, asIntOf, run_underlying' hu, p1, p2, run_sizeOf' m2, run_part hsz w vs (n.toNat * sz) (by omega)] <;> rfl, part_rel hv h5 m3 p3, h6⟩

theorem ok_extract {x ax k} (ho : o.op = .extract x k) (hx : trOpnd x = some ax) (h : exOpN nm env σ R (.extract ax k)) : OpOk P o N env σ nm R := by
  refine .still fun K a w hf hs => ?_
  obtain ⟨av, h1, h2⟩ := wth_some h
  have hr := trOpnd_rel hx h1 hf
  cases av <;> simp at h2
  rename_i cs
  obtain ⟨rv, h5, h6⟩ := wth_some h2
  obtain ⟨vs, he, hv⟩ := rel_tup hr
  have hk : k < cs.length := by
    rcases Nat.lt_or_ge k cs.length with h' | h'
    · exact h'
    · simp [List.getElem?_eq_none h'] at h5
  obtain ⟨v, e1, r1⟩ := hv.get k hk
  have : cs[k] = rv := by rw [List.getElem?_eq_getElem hk] at h5; exact Option.some.inj h5
  rw [this] at r1
  exact ⟨rv, v, by simp at e1; simp [execOp, ho, he, Instr.extract, e1], r1, h6⟩

theorem ok_mkiface {t x ax d} (ho : o.op = .makeInterface t x) (hu : P.underlying t = some d) (hd : ∀ ms, d ≠ .interface ms) (hx : trOpnd x = some ax) (h : exOpN nm env σ R (.mkiface t ax)) : OpOk P o N env σ nm R := by
  refine .still fun K a w hf hs => ?_
  obtain ⟨av, h1, h2⟩ := wth_some h
  refine ⟨_, _, ?_, .iface t av _ (trOpnd_rel hx h1 hf), h2⟩
  cases d <;> first | (exact absurd rfl (hd _)) | simp [execOp, ho, Instr.makeInterface, run_underlying' hu]

end ops
end Abs
