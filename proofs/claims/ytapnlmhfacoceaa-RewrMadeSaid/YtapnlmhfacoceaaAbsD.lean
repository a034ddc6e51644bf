/- The abstraction layer, part D: each operation of the model does what its abstract operation says (calls and panics aside). Over any program. -/
import Derived.Test.YtapnlmhfacoceaaAbsC
import Derived.Laws.Strings
set_option linter.unusedSimpArgs false
set_option linter.unusedVariables false
namespace Abs
open Go

theorem rel_ptr {K o off v} (h : Rel K (.ptr o off) v) : ∃ e, v = .pointer (some ⟨e.blk, off, none⟩) ∧ K.own o = some e ∧ e.fixed = true := by
  cases h with | ptr _ _ e h hk => exact ⟨e, rfl, h, hk⟩
theorem rel_eptr {K o n off v} (h : Rel K (.eptr o n off) v) : ∃ b cap, v = .pointer (some ⟨b, off, none⟩) ∧ VecOk K o n b cap := by
  cases h with | eptr _ _ _ b cap h => exact ⟨b, cap, rfl, h⟩
theorem rel_cptr {K cs v} (h : Rel K (.cptr cs) v) : ∃ b off, ∃ u : Nat → Value, v = .pointer (some ⟨b, off, none⟩) ∧ (∀ i, i < cs.length → K.claim b (off + i) = some (u i)) ∧ (∀ i, (h : i < cs.length) → Rel K cs[i] (u i)) := by
  cases h with | cptr _ b off u hc hr => exact ⟨b, off, u, rfl, hc, hr⟩
theorem rel_bool {K b v} (h : Rel K (.bool b) v) : v = .bool b := by cases h; rfl
theorem rel_int {K k n v} (h : Rel K (.int k n) v) : v = .int k n := by cases h; rfl
theorem rel_str {K s v} (h : Rel K (.str s) v) : v = .string s := by cases h; rfl
theorem rel_agg {K cs v} (h : Rel K (.agg cs) v) : ∃ vs, v = .agg vs ∧ RelL K cs vs.toList := by
  cases h with | agg _ vs hs hr => exact ⟨vs, rfl, by simpa using hs, fun i h1 h2 => by rw [Array.getElem_toList]; exact hr i h1 (by simpa using h2)⟩
theorem rel_tup {K cs v} (h : Rel K (.tup cs) v) : ∃ vs, v = .tuple vs ∧ RelL K cs vs.toList := by
  cases h with | tup _ vs hs hr => exact ⟨vs, rfl, by simpa using hs, fun i h1 h2 => by rw [Array.getElem_toList]; exact hr i h1 (by simpa using h2)⟩
theorem rel_fn {K f l m v} (h : Rel K (.fn f l m) v) : ∃ fs cs, v = .func (.func f) fs cs ∧ RelL K l fs.toList ∧ RelL K m cs.toList := by
  cases h with | fn _ _ _ fs cs h1 h2 r1 r2 =>
    exact ⟨fs, cs, rfl, ⟨by simpa using h1, fun i a b => by rw [Array.getElem_toList]; exact r1 i a (by simpa using b)⟩, ⟨by simpa using h2, fun i a b => by rw [Array.getElem_toList]; exact r2 i a (by simpa using b)⟩⟩

def OpOk (P : Program) (o : Oper) (N : Nat) (env : Env) (σ : Sig) (nm : Nat) (R : AV → Option (Nat × AObj) → Prop) : Prop :=
  ∀ (S : Nat → Prop) K a w, Fr K N env a → Sat K σ w → K.own nm = none → ¬ S nm → ∃ K' av e v w', ((execOp a.eval o).run P w = .ok (.value v) w' ∨ ((execOp a.eval o).run P w = .ok .skip w' ∧ o.dst = none)) ∧
    K.leS S K' ∧ Rel K' av v ∧ Sat K' (app σ e) w' ∧ R av e

theorem wth_some {x : Option AV} {R : AV → Prop} (h : wth x R) : ∃ a, x = some a ∧ R a := by
  cases x with
  | none => exact h.elim
  | some a => exact ⟨a, rfl, h⟩
theorem wthL_some {x : Option (List AV)} {R : List AV → Prop} (h : wthL x R) : ∃ a, x = some a ∧ R a := by
  cases x with
  | none => exact h.elim
  | some a => exact ⟨a, rfl, h⟩

theorem run_sizeOf' {P : Program} {t n} (h : szOf P t = some n) (w : World) : (Go.sizeOf t).run P w = .ok n w := by
  unfold szOf at h
  cases hi : P.info? t with
  | none => simp [hi] at h
  | some i => simp [hi] at h; subst h; simp [Go.sizeOf, typeInfo, hi]

theorem run_underlying' {P : Program} {t d} (h : P.underlying t = some d) (w : World) : (underlying t).run P w = .ok d w := by
  simp [underlying, h]

theorem run_isAgg' {P : Program} {t g} (h : aggOf P t = some g) (w : World) : (isAgg t).run P w = .ok g w := by
  unfold aggOf at h
  cases hu : P.underlying t with
  | none => simp [hu] at h
  | some d => cases d <;> simp [hu] at h <;> subst h <;> simp [isAgg, run_underlying' hu]

theorem run_zeroValue' {P : Program} {K : Gh} {t z} (h : zeroOf P t = some z) (w : World) : ∃ v, (zeroValue t).run P w = .ok v w ∧ RelL K z v.cells.toList ∧ (P.info? t).bind (·.zero) = some v := by
  unfold zeroOf at h
  split at h
  · rename_i v hv
    refine ⟨v, ?_, ofFlats_rel h, hv⟩
    cases hi : P.info? t with
    | none => simp [hi] at hv
    | some i => simp [hi] at hv; simp [zeroValue, typeInfo, hi, hv]
  · simp at h

theorem add_none (b off n : Nat) : (⟨b, off, none⟩ : Addr).add n = ⟨b, off + n, none⟩ := by
  unfold Addr.add; split <;> simp_all

theorem readOf_some {P : Program} {t g n} (h : readOf P t = some (g, n)) : aggOf P t = some g ∧ szOf P t = some n ∧ (g = false → n = 1) := by
  unfold readOf at h
  split at h
  · rename_i g' n' h1 h2
    split at h <;> simp at h
    obtain ⟨rfl, rfl⟩ := h
    refine ⟨h1, h2, fun hg => ?_⟩
    subst hg; simp_all
  · simp at h

theorem mkv_rel {K : Gh} {g : Bool} {cs : List AV} {vs : List Value} {a} (hr : RelL K cs vs) (h : mkv g cs = some a) :
    Rel K a (if g then .agg vs.toArray else vs[0]?.getD undef) := by
  cases g with
  | true => simp [mkv] at h; subst h; exact .aggL (by simpa using hr)
  | false =>
    simp only [mkv, Bool.false_eq_true, if_false] at h ⊢
    cases cs with
    | nil => simp at h
    | cons c r =>
      simp at h; subst h
      obtain ⟨v, r', rfl, h1, _⟩ := hr.cons_inv
      simpa using h1

theorem load_run {P : Program} {t g n} (hr : readOf P t = some (g, n)) (w : World) (b off : Nat) (f : Nat → Value) (h : ∀ i, i < n → w.cell? ⟨b, off + i, none⟩ = some (f i)) :
    (Instr.loadAt t (.pointer (some ⟨b, off, none⟩))).run P w = .ok (if g then .agg ((List.range n).map f).toArray else ((List.range n).map f)[0]?.getD undef) w := by
  obtain ⟨h1, h2, h3⟩ := readOf_some hr
  have hl := run_loadCells (P := P) w ⟨b, off, none⟩ n f (fun j hj => by rw [add_none]; exact h j hj)
  cases g with
  | true => simp [Instr.loadAt, Instr.sureAddr, loadVar, run_isAgg' h1, run_sizeOf' h2, hl]
  | false =>
    have hn := h3 rfl
    subst hn
    have h0 := h 0 (by omega)
    simp only [Nat.add_zero] at h0
    simp [Instr.loadAt, Instr.sureAddr, loadVar, run_isAgg' h1, h0]

def ReadsAt (K : Gh) (w : World) (b off : Nat) (cs : List AV) : Prop := ∀ i, (h : i < cs.length) → ∃ v, w.cell? ⟨b, off + i, none⟩ = some v ∧ Rel K cs[i] v

theorem load_reads {P : Program} {K : Gh} {t g n} (hr : readOf P t = some (g, n)) {w : World} {b off : Nat} {cs : List AV} (h : ReadsAt K w b off cs) (hn : cs.length = n) {a} (hm : mkv g cs = some a) :
    ∃ v, (Instr.loadAt t (.pointer (some ⟨b, off, none⟩))).run P w = .ok v w ∧ Rel K a v := by
  let f : Nat → Value := fun i => (w.cell? ⟨b, off + i, none⟩).getD undef
  have hf : ∀ i, i < n → w.cell? ⟨b, off + i, none⟩ = some (f i) := fun i hi => by
    obtain ⟨v, h1, _⟩ := h i (by omega)
    show _ = some ((w.cell? ⟨b, off + i, none⟩).getD undef)
    rw [h1]; rfl
  refine ⟨_, load_run hr w b off f hf, mkv_rel (vs := (List.range n).map f) ⟨by simp [hn], fun i h1 h2 => ?_⟩ hm⟩
  obtain ⟨v, e, r⟩ := h i h1
  have : f i = v := by show (w.cell? ⟨b, off + i, none⟩).getD undef = v; rw [e]; rfl
  simpa [this] using r

theorem ReadsAt.sub {K w b off cs} (h : ReadsAt K w b off cs) (k n : Nat) : ReadsAt K w b (off + k) ((cs.drop k).take n) := fun i hi => by
  have hi' : k + i < cs.length := by simp at hi; omega
  obtain ⟨v, h1, h2⟩ := h (k + i) hi'
  refine ⟨v, by rw [Nat.add_assoc]; exact h1, ?_⟩
  simpa using h2

theorem reads_cptr {K σ w cs b off} {v : Nat → Value} (hs : Sat K σ w) (hc : ∀ i, i < cs.length → K.claim b (off + i) = some (v i)) (hr : ∀ i, (h : i < cs.length) → Rel K cs[i] (v i)) : ReadsAt K w b off cs :=
  fun i hi => ⟨v i, hs.claim _ _ _ (hc i hi), hr i hi⟩

theorem reads_obj {K σ w o e cs} (hs : Sat K σ w) (he : K.own o = some e) (h : σ o = some (.cells cs)) : ReadsAt K w e.blk 0 cs := by
  obtain ⟨e', h1, h2⟩ := hs.live o _ h
  have : e' = e := by simp_all
  subst this
  cases e' <;> simp only [ObjSat] at h2
  obtain ⟨_, ⟨c, el, h3, h4⟩, _⟩ := h2
  intro i hi
  obtain ⟨v, h5, h6⟩ := h4.get i hi
  exact ⟨v, by simp [World.cell?, Own.blk, h3]; simpa using h5, h6⟩

theorem reads_vec {K σ w o sz n cs b cap} (hs : Sat K σ w) (hv : VecOk K o n b cap) (h : σ o = some (.vec sz n cs)) : ReadsAt K w b 0 cs := by
  obtain ⟨e', h1, h2⟩ := hs.live o _ h
  cases e' <;> simp only [ObjSat] at h2
  obtain ⟨e1, e2, k1, k2, _, ⟨c, el, h3, h4, h6⟩, _⟩ := h2
  subst e1 e2
  obtain ⟨b', cap', sz', n', hv | hv, v2, v3⟩ := hv
  · rw [h1] at hv
    simp only [Option.some.injEq, Own.vec.injEq] at hv
    obtain ⟨rfl, rfl, rfl, rfl⟩ := hv
    obtain ⟨rfl, rfl⟩ := v3 rfl
    intro i hi
    have hi' : i < c.size := by
      rw [h4]
      exact Nat.lt_of_lt_of_le hi (k1 ▸ Nat.mul_le_mul_right _ k2.1)
    exact ⟨c[i], by simp [World.cell?, h3, hi'], (h6 i hi hi').1⟩
  · rw [h1] at hv; simp at hv

theorem OpOk.still {P o N env σ nm R} (h : ∀ K a w, Fr K N env a → Sat K σ w → ∃ av v, (execOp a.eval o).run P w = .ok (.value v) w ∧ Rel K av v ∧ R av none) : OpOk P o N env σ nm R :=
  fun _ K a w hf hs _ _ => let ⟨av, v, h1, h2, h3⟩ := h K a w hf hs; ⟨K, av, none, v, w, .inl h1, Gh.leS.refl K, h2, hs, h3⟩

section ops
variable {P : Program} {o : Oper} {N : Nat} {env : Env} {σ : Sig} {nm : Nat} {R : AV → Option (Nat × AObj) → Prop}

theorem ok_mov {x ax} (ho : o.op = .move x ∨ o.op = .assign x) (hx : trOpnd x = some ax) (h : exOpN nm env σ R (.mov ax)) : OpOk P o N env σ nm R := by
  refine .still fun K a w hf hs => ?_
  obtain ⟨av, h1, h2⟩ := wth_some h
  refine ⟨av, a.eval x, ?_, trOpnd_rel hx h1 hf, h2⟩
  rcases ho with ho | ho <;> simp [execOp, ho]

theorem ok_pick {c x y ac ax ay} (ho : o.op = .pick c x y) (hc : trOpnd c = some ac) (hx : trOpnd x = some ax) (hy : trOpnd y = some ay) (h : exOpN nm env σ R (.pick ac ax ay)) : OpOk P o N env σ nm R := by
  refine .still fun K a w hf hs => ?_
  obtain ⟨cv, h1, h2⟩ := wth_some h
  cases cv <;> simp at h2
  rename_i p
  have hp : a.eval c = .bool p := rel_bool (trOpnd_rel hc h1 hf)
  cases p with
  | true =>
    simp at h2
    obtain ⟨av, h3, h4⟩ := wth_some h2
    exact ⟨av, a.eval x, by simp [execOp, ho, hp, asBool], trOpnd_rel hx h3 hf, h4⟩
  | false =>
    simp at h2
    obtain ⟨av, h3, h4⟩ := wth_some h2
    exact ⟨av, a.eval y, by simp [execOp, ho, hp, asBool], trOpnd_rel hy h3 hf, h4⟩

theorem load_core {t x ax g n} {K : Gh} {a : Act} {w : World} (hr : readOf P t = some (g, n)) (hx : trOpnd x = some ax) (h : exOpN nm env σ R (.load g n ax)) (hf : Fr K N env a) (hs : Sat K σ w) :
    ∃ av v b off, a.eval x = .pointer (some ⟨b, off, none⟩) ∧ (Instr.loadAt t (.pointer (some ⟨b, off, none⟩))).run P w = .ok v w ∧ Rel K av v ∧ R av none := by
  obtain ⟨pv, h1, h2⟩ := wth_some h
  have hp := trOpnd_rel hx h1 hf
  have fin : ∀ {b off : Nat} {cs : List AV} {av : AV}, a.eval x = .pointer (some ⟨b, off, none⟩) → ReadsAt K w b off cs → cs.length = n → mkv g cs = some av → R av none →
      ∃ av v b off, a.eval x = .pointer (some ⟨b, off, none⟩) ∧ (Instr.loadAt t (.pointer (some ⟨b, off, none⟩))).run P w = .ok v w ∧ Rel K av v ∧ R av none := by
    intro b off cs av e hrd hl hm hR
    obtain ⟨v, h5, h6⟩ := load_reads hr hrd hl hm
    exact ⟨av, v, b, off, e, h5, h6, hR⟩
  cases pv <;> simp at h2
  case ptr ob off =>
    obtain ⟨e, he, hown, hfix⟩ := rel_ptr hp
    split at h2
    · rename_i cs hcs
      obtain ⟨h3, h4⟩ := h2
      obtain ⟨av, h5, h6⟩ := wth_some h4
      have := (reads_obj hs hown hcs).sub off n
      rw [Nat.zero_add] at this
      exact fin he this (by simp; omega) h5 h6
    · exact h2.elim
  case eptr ob m off =>
    obtain ⟨b, cap, he, hv⟩ := rel_eptr hp
    split at h2
    · rename_i sz m' cs hcs
      obtain ⟨⟨rfl, h3⟩, h4⟩ := h2
      obtain ⟨av, h5, h6⟩ := wth_some h4
      have := (reads_vec hs hv hcs).sub off n
      rw [Nat.zero_add] at this
      exact fin he this (by simp; omega) h5 h6
    · exact h2.elim
  case cptr cs =>
    obtain ⟨b, off, v, he, hc, hrr⟩ := rel_cptr hp
    obtain ⟨h3, h4⟩ := h2
    obtain ⟨av, h5, h6⟩ := wth_some h4
    have := (reads_cptr hs hc hrr).sub 0 n
    rw [Nat.add_zero] at this
    exact fin he (by simpa using this) (by simp; omega) h5 h6

theorem ok_load {t x ax g n} (ho : o.op = .load t x) (hr : readOf P t = some (g, n)) (hx : trOpnd x = some ax) (h : exOpN nm env σ R (.load g n ax)) : OpOk P o N env σ nm R := by
  refine .still fun K a w hf hs => ?_
  obtain ⟨av, v, b, off, h1, h2, h3, h4⟩ := load_core hr hx h hf hs
  exact ⟨av, v, by simp [execOp, ho, h1, h2], h3, h4⟩

theorem run_storeAt {t n} (hn : szOf P t = some n) (w : World) (b off : Nat) (v : Value) (c : Array Value) (el : TypeId) (hc : v.cells.size = n) (hh : w.heap[b]? = some (.cells c el (0, 0)))
    (hl : off + n ≤ c.size) (h1 : ∀ u ∈ v.cells.toList, u.oneCell' = true) :
    (Instr.storeAt t (.pointer (some ⟨b, off, none⟩)) v).run P w = .ok () (w.setRow b (c.toList.take off ++ v.cells.toList ++ c.toList.drop (off + v.cells.toList.length)).toArray) := by
  have := run_storeCells_at P b off el v.cells.toList 0 c w hh (by simp; omega) h1
  simp only [Nat.add_zero] at this
  simp [Instr.storeAt, Instr.sureAddr, storeVar, run_sizeOf' hn, hc, this]

theorem Sat.setRow {K : Gh} {σ w} (h : Sat K σ w) {ob e x x'} {c : Array Value} {el : TypeId} (hx : σ ob = some x) (he : K.own ob = some e) (hre : e.real = true) (c' : Array Value)
    (hh : w.heap[e.blk]? = some (.cells c el (0, 0))) (hno : ∀ i, K.claim e.blk i = none) (hx' : ObjSat K (w.setRow e.blk c') e x') : Sat K (upd σ ob x') (w.setRow e.blk c') := by
  refine h.write (Gh.le.refl K) hx he hre (fun _ _ => rfl) he rfl rfl rfl rfl (by simp) (fun b hb => setRow_other w _ b c' hb) (fun i => ?_) (fun i v e' => by simp [hno] at e') (fun _ _ _ => rfl) hx'
  exact frozen_loose (setRow_heap w e.blk c c' el (0, 0) hh) rfl

theorem putv_take (A us : List Value) (off m : Nat) (h : off + us.length ≤ m) (h2 : m ≤ A.length) :
    (A.take m).take off ++ us ++ (A.take m).drop (off + us.length) = (A.take off ++ us ++ A.drop (off + us.length)).take m := by
  have e1 : (A.take off).length = off := by simp; omega
  rw [List.take_take, Nat.min_eq_left (by omega), List.drop_take, List.take_append, List.take_append, e1, List.take_of_length_le (l := A.take off) (by simp; omega),
    List.take_of_length_le (l := us) (by omega), List.length_append, e1]

theorem ok_store {t p x ap ax n} (ho : o.op = .store t p x) (hd : o.dst = none) (hn : szOf P t = some n) (hp : trOpnd p = some ap) (hx : trOpnd x = some ax) (h : exOpN nm env σ R (.store n ap ax)) : OpOk P o N env σ nm R := by
  intro S K a w hf hs _ _
  obtain ⟨pv, h1, h2⟩ := wth_some h
  obtain ⟨xv, h3, h4⟩ := wth_some h2
  have rp := trOpnd_rel hp h1 hf
  have rx := trOpnd_rel hx h3 hf
  have ones : (∀ y ∈ cellsA xv, oneA y = true) → ∀ u ∈ (a.eval x).cells.toList, u.oneCell' = true := by
    intro hall u hu
    obtain ⟨i, hi, rfl⟩ := List.getElem_of_mem hu
    have hl : i < (cellsA xv).length := by rw [rx.cells.1]; exact hi
    exact (rx.cells.2 i hl hi).oneCell (hall _ (List.getElem_mem hl))
  have lens : (cellsA xv).length = (a.eval x).cells.size := by simpa using rx.cells.1
  cases pv <;> simp at h4
  case ptr ob off =>
   obtain ⟨e, he, hown, hfix⟩ := rel_ptr rp
   split at h4
   · rename_i cs hcs
     obtain ⟨⟨k1, k2, k3⟩, k4⟩ := h4
     obtain ⟨e', l1, l2⟩ := hs.live ob _ hcs
     have : e' = e := by simp_all
     subst this
     cases e' <;> simp only [ObjSat] at l2
     rename_i b
     obtain ⟨m1, ⟨c, el, m2, m3⟩, m4⟩ := l2
     have hsz : cs.length = c.size := by simpa using m3.1
     have hrun := run_storeAt (P := P) hn w b off (a.eval x) c el (by omega) m2 (by omega) (ones k3)
     refine ⟨K, .tup [], some _, undef, _, .inr ⟨by simp only [execOp, ho, he, Own.blk, Sem.run_bind, hrun, Result.andThen_ok, Sem.run_pure]; rfl, hd⟩, Gh.leS.refl K, .tupL .nil, ?_, k4⟩
     exact Sat.setRow hs hcs hown rfl _ m2 m4 ⟨m1, ⟨_, el, setRow_heap w b c _ el (0, 0) m2, by simpa using m3.putAt rx.cells off⟩, m4⟩
   · exact h4.elim
  case eptr ob m off =>
   obtain ⟨b0, cap0, he, hv⟩ := rel_eptr rp
   split at h4
   · rename_i sz m' cs hcs
     obtain ⟨⟨rfl, k1, k2, k3⟩, k4⟩ := h4
     obtain ⟨e', l1, l2⟩ := hs.live ob _ hcs
     cases e' <;> simp only [ObjSat] at l2
     rename_i b cap sz' n'
     obtain ⟨rfl, rfl, p1, p2, m1, ⟨c, el, m2, m5, m6⟩, m4⟩ := l2
     obtain ⟨b', cap', sz2, n2, hv | hv, v2, v3⟩ := hv
     case inr => rw [l1] at hv; simp at hv
     rw [l1] at hv
     simp only [Option.some.injEq, Own.vec.injEq] at hv
     obtain ⟨rfl, rfl, rfl, rfl⟩ := hv
     obtain ⟨rfl, rfl⟩ := v3 rfl
     have hle := Nat.mul_le_mul_right sz' p2.1
     have hrun := run_storeAt (P := P) hn w b0 off (a.eval x) c el (by omega) m2 (by omega) (ones k3)
     refine ⟨K, .tup [], some _, undef, _, .inr ⟨by simp only [execOp, ho, he, Sem.run_bind, hrun, Result.andThen_ok, Sem.run_pure]; rfl, hd⟩, Gh.leS.refl K, .tupL .nil, ?_, k4⟩
     have rl : RelL K cs (c.toList.take cs.length) := ⟨by simp; omega, fun i i1 i2 => by
       have := (m6 i i1 (by omega)).1
       simpa using this⟩
     have rl2 := rl.putAt rx.cells off
     have hxl : (a.eval x).cells.toList.length = n := by simp; omega
     refine Sat.setRow hs hcs l1 rfl _ m2 m4 ⟨rfl, rfl, ?_, p2, m1, ⟨_, el, setRow_heap w b0 c _ el (0, 0) m2, ?_, ?_⟩, m4⟩
     · simp [putAt]; omega
     · simp; omega
     · intro i i1 i2
       have i1' := i1
       rw [rl2.1] at i1'
       have r3 := rl2.2 i i1 i1'
       have hpt := putv_take c.toList (a.eval x).cells.toList off cs.length (by omega) (by simp; omega)
       have hi : i < cs.length := by simp [putAt] at i1; omega
       have : (List.take off (c.toList.take cs.length) ++ (a.eval x).cells.toList ++ List.drop (off + (a.eval x).cells.toList.length) (c.toList.take cs.length))[i]'i1' =
           (c.toList.take off ++ (a.eval x).cells.toList ++ c.toList.drop (off + (a.eval x).cells.toList.length))[i]'(by simpa using i2) := by
         apply Option.some.inj
         rw [← List.getElem?_eq_getElem, ← List.getElem?_eq_getElem, hpt, List.getElem?_take, if_pos hi]
       rw [this] at r3
       refine ⟨by simpa using r3, ?_⟩
       have hmem : ∀ u, (c.toList.take off ++ (a.eval x).cells.toList ++ c.toList.drop (off + (a.eval x).cells.toList.length))[i]? = some u → u.oneCell' = true := by
         intro u hu
         rw [List.getElem?_append] at hu
         split at hu
         · rw [List.getElem?_append] at hu
           split at hu
           · rename_i q1 q2
             rw [List.getElem?_take] at hu
             split at hu
             · have hic : i < c.size := by omega
               rw [Array.getElem?_toList, Array.getElem?_eq_getElem hic] at hu
               simp only [Option.some.injEq] at hu
               rw [← hu]; exact (m6 i hi hic).2
             · simp at hu
           · exact ones k3 u (List.mem_of_getElem? hu)
         · rename_i q1
           rw [List.getElem?_drop] at hu
           have e1 : off + (a.eval x).cells.toList.length + (i - (c.toList.take off ++ (a.eval x).cells.toList).length) = i := by
             simp at q1 ⊢; omega
           rw [e1] at hu
           have hic : i < c.size := by omega
           rw [Array.getElem?_toList, Array.getElem?_eq_getElem hic] at hu
           simp only [Option.some.injEq] at hu
           rw [← hu]; exact (m6 i hi hic).2
       refine hmem _ ?_
       have i2' : i < (c.toList.take off ++ (a.eval x).cells.toList ++ c.toList.drop (off + (a.eval x).cells.toList.length)).length := by simpa using i2
       rw [List.getElem?_eq_getElem i2']
       simp
   · exact h4.elim

end ops
end Abs
