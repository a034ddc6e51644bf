/- The abstraction layer, part G: slices cut, appended to, made; structs built and compared. Over any program. -/
import Derived.Laws.Strings
import Derived.Laws.Append
import Derived.Laws.AppendOwn
import Derived.Laws.MakeOwn
import Derived.Test.YtbbihmmobfmadaaGreatOAbsC
set_option linter.unusedSimpArgs false
set_option linter.unusedVariables false
namespace Abs
open Go
theorem rel_ptr {K o off v} (h : Rel K (.ptr o off) v) : ∃ e, v = .pointer (some ⟨e.blk, off, none⟩) ∧ K.own o = some e ∧ e.fixed = true := by
  cases h with | ptr _ _ e h hk => exact ⟨e, rfl, h, hk⟩
theorem rel_eptr {K o n off v} (h : Rel K (.eptr o n off) v) : ∃ b cap, v = .pointer (some ⟨b, off, none⟩) ∧ VecOk K o n b cap := by
  cases h with | eptr _ _ _ b cap h => exact ⟨b, cap, rfl, h⟩
theorem rel_cptr {K cs v} (h : Rel K (.cptr cs) v) : ∃ b off, ∃ u : Nat → Value, v = .pointer (some ⟨b, off, none⟩) ∧ (∀ i, i < cs.length → K.claim b (off + i) = some (u i)) ∧ (∀ i, (h : i < cs.length) → Rel K cs[i] (u i)) := by
  cases h with | cptr _ b off u hc hr => exact ⟨b, off, u, rfl, hc, hr⟩
theorem rel_bool {K b v} (h : Rel K (.bool b) v) : v = .bool b := by cases h; rfl
theorem rel_int {K k n v} (h : Rel K (.int k n) v) : v = .int k n := by cases h; rfl
theorem rel_str {K s v} (h : Rel K (.str s) v) : v = .string s := by cases h; rfl
theorem rel_agg {K cs v} (h : Rel K (.agg cs) v) : ∃ vs, v = .agg vs ∧ RelL K cs vs.toList := by
  cases h with | agg _ vs hs hr => exact ⟨vs, rfl, by simpa using hs, fun i h1 h2 => by rw [Array.getElem_toList]; exact hr i h1 (by simpa using h2)⟩
theorem rel_tup {K cs v} (h : Rel K (.tup cs) v) : ∃ vs, v = .tuple vs ∧ RelL K cs vs.toList := by
  cases h with | tup _ vs hs hr => exact ⟨vs, rfl, by simpa using hs, fun i h1 h2 => by rw [Array.getElem_toList]; exact hr i h1 (by simpa using h2)⟩
theorem rel_fn {K f l m v} (h : Rel K (.fn f l m) v) : ∃ fs cs, v = .func (.func f) fs cs ∧ RelL K l fs.toList ∧ RelL K m cs.toList := by
  cases h with | fn _ _ _ fs cs h1 h2 r1 r2 =>
    exact ⟨fs, cs, rfl, ⟨by simpa using h1, fun i a b => by rw [Array.getElem_toList]; exact r1 i a (by simpa using b)⟩, ⟨by simpa using h2, fun i a b => by rw [Array.getElem_toList]; exact r2 i a (by simpa using b)⟩⟩
def OpOk (P : Program) (o : Oper) (N : Nat) (env : Env) (σ : Sig) (nm : Nat) (R : AV → Option (Nat × AObj) → Prop) : Prop :=
  ∀ (S : Nat → Prop) K a w, Fr K N env a → Sat K σ w → K.own nm = none → ¬ S nm → ∃ K' av e v w', ((execOp a.eval o).run P w = .ok (.value v) w' ∨ ((execOp a.eval o).run P w = .ok .skip w' ∧ o.dst = none)) ∧
    K.leS S K' ∧ Rel K' av v ∧ Sat K' (app σ e) w' ∧ R av e
theorem wth_some {x : Option AV} {R : AV → Prop} (h : wth x R) : ∃ a, x = some a ∧ R a := by
  cases x with
  | none => exact h.elim
  | some a => exact ⟨a, rfl, h⟩
theorem wthL_some {x : Option (List AV)} {R : List AV → Prop} (h : wthL x R) : ∃ a, x = some a ∧ R a := by
  cases x with
  | none => exact h.elim
  | some a => exact ⟨a, rfl, h⟩
theorem run_sizeOf' {P : Program} {t n} (h : szOf P t = some n) (w : World) : (Go.sizeOf t).run P w = .ok n w := by
  unfold szOf at h
  cases hi : P.info? t with
  | none => simp [hi] at h
  | some i => simp [hi] at h; subst h; simp [Go.sizeOf, typeInfo, hi]
theorem run_underlying' {P : Program} {t d} (h : P.underlying t = some d) (w : World) : (underlying t).run P w = .ok d w := by
  simp [underlying, h]
theorem run_isAgg' {P : Program} {t g} (h : aggOf P t = some g) (w : World) : (isAgg t).run P w = .ok g w := by
  unfold aggOf at h
  cases hu : P.underlying t with
  | none => simp [hu] at h
  | some d => cases d <;> simp [hu] at h <;> subst h <;> simp [isAgg, run_underlying' hu]
theorem run_zeroValue' {P : Program} {K : Gh} {t z} (h : zeroOf P t = some z) (w : World) : ∃ v, (zeroValue t).run P w = .ok v w ∧ RelL K z v.cells.toList ∧ (P.info? t).bind (·.zero) = some v := by
  unfold zeroOf at h
  split at h
  · rename_i v hv
    refine ⟨v, ?_, ofFlats_rel h, hv⟩
    cases hi : P.info? t with
    | none => simp [hi] at hv
    | some i => simp [hi] at hv; simp [zeroValue, typeInfo, hi, hv]
  · simp at h
theorem add_none (b off n : Nat) : (⟨b, off, none⟩ : Addr).add n = ⟨b, off + n, none⟩ := by
  unfold Addr.add; split <;> simp_all
theorem readOf_some {P : Program} {t g n} (h : readOf P t = some (g, n)) : aggOf P t = some g ∧ szOf P t = some n ∧ (g = false → n = 1) := by
  unfold readOf at h
  split at h
  · rename_i g' n' h1 h2
    split at h <;> simp at h
    obtain ⟨rfl, rfl⟩ := h
    refine ⟨h1, h2, fun hg => ?_⟩
    subst hg; simp_all
  · simp at h
theorem mkv_rel {K : Gh} {g : Bool} {cs : List AV} {vs : List Value} {a} (hr : RelL K cs vs) (h : mkv g cs = some a) :
    Rel K a (if g then .agg vs.toArray else vs[0]?.getD undef) := by
  cases g with
  | true => simp [mkv] at h; subst h; exact .aggL (by simpa using hr)
  | false =>
    simp only [mkv, Bool.false_eq_true, if_false] at h ⊢
    cases cs with
    | nil => simp at h
    | cons c r =>
      simp at h; subst h
      obtain ⟨v, r', rfl, h1, _⟩ := hr.cons_inv
      simpa using h1
theorem load_run {P : Program} {t g n} (hr : readOf P t = some (g, n)) (w : World) (b off : Nat) (f : Nat → Value) (h : ∀ i, i < n → w.cell? ⟨b, off + i, none⟩ = some (f i)) :
    (Instr.loadAt t (.pointer (some ⟨b, off, none⟩))).run P w = .ok (if g then .agg ((List.range n).map f).toArray else ((List.range n).map f)[0]?.getD undef) w := by
  obtain ⟨h1, h2, h3⟩ := readOf_some hr
  have hl := run_loadCells (P := P) w ⟨b, off, none⟩ n f (fun j hj => by rw [add_none]; exact h j hj)
  cases g with
  | true => simp [Instr.loadAt, Instr.sureAddr, loadVar, run_isAgg' h1, run_sizeOf' h2, hl]
  | false =>
    have hn := h3 rfl
    subst hn
    have h0 := h 0 (by omega)
    simp only [Nat.add_zero] at h0
    simp [Instr.loadAt, Instr.sureAddr, loadVar, run_isAgg' h1, h0]
def ReadsAt (K : Gh) (w : World) (b off : Nat) (cs : List AV) : Prop := ∀ i, (h : i < cs.length) → ∃ v, w.cell? ⟨b, off + i, none⟩ = some v ∧ Rel K cs[i] v
theorem load_reads {P : Program} {K : Gh} {t g n} (hr : readOf P t = some (g, n)) {w : World} {b off : Nat} {cs : List AV} (h : ReadsAt K w b off cs) (hn : cs.length = n) {a} (hm : mkv g cs = some a) :
    ∃ v, (Instr.loadAt t (.pointer (some ⟨b, off, none⟩))).run P w = .ok v w ∧ Rel K a v := by
  let f : Nat → Value := fun i => (w.cell? ⟨b, off + i, none⟩).getD undef
  have hf : ∀ i, i < n → w.cell? ⟨b, off + i, none⟩ = some (f i) := fun i hi => by
    obtain ⟨v, h1, _⟩ := h i (by omega)
    show _ = some ((w.cell? ⟨b, off + i, none⟩).getD undef)
    rw [h1]; rfl
  refine ⟨_, load_run hr w b off f hf, mkv_rel (vs := (List.range n).map f) ⟨by simp [hn], fun i h1 h2 => ?_⟩ hm⟩
  obtain ⟨v, e, r⟩ := h i h1
  have : f i = v := by show (w.cell? ⟨b, off + i, none⟩).getD undef = v; rw [e]; rfl
  simpa [this] using r
theorem ReadsAt.sub {K w b off cs} (h : ReadsAt K w b off cs) (k n : Nat) : ReadsAt K w b (off + k) ((cs.drop k).take n) := fun i hi => by
  have hi' : k + i < cs.length := by simp at hi; omega
  obtain ⟨v, h1, h2⟩ := h (k + i) hi'
  refine ⟨v, by rw [Nat.add_assoc]; exact h1, ?_⟩
  simpa using h2
theorem reads_cptr {K σ w cs b off} {v : Nat → Value} (hs : Sat K σ w) (hc : ∀ i, i < cs.length → K.claim b (off + i) = some (v i)) (hr : ∀ i, (h : i < cs.length) → Rel K cs[i] (v i)) : ReadsAt K w b off cs :=
  fun i hi => ⟨v i, hs.claim _ _ _ (hc i hi), hr i hi⟩
theorem reads_obj {K σ w o e cs} (hs : Sat K σ w) (he : K.own o = some e) (h : σ o = some (.cells cs)) : ReadsAt K w e.blk 0 cs := by
  obtain ⟨e', h1, h2⟩ := hs.live o _ h
  have : e' = e := by simp_all
  subst this
  cases e' <;> simp only [ObjSat] at h2
  obtain ⟨_, ⟨c, el, h3, h4⟩, _⟩ := h2
  intro i hi
  obtain ⟨v, h5, h6⟩ := h4.get i hi
  exact ⟨v, by simp [World.cell?, Own.blk, h3]; simpa using h5, h6⟩
theorem reads_vec {K σ w o sz n cs b cap} (hs : Sat K σ w) (hv : VecOk K o n b cap) (h : σ o = some (.vec sz n cs)) : ReadsAt K w b 0 cs := by
  obtain ⟨e', h1, h2⟩ := hs.live o _ h
  cases e' <;> simp only [ObjSat] at h2
  obtain ⟨e1, e2, k1, k2, _, ⟨c, el, h3, h4, h6⟩, _⟩ := h2
  subst e1 e2
  obtain ⟨b', cap', sz', n', hv | hv, v2, v3⟩ := hv
  · rw [h1] at hv
    simp only [Option.some.injEq, Own.vec.injEq] at hv
    obtain ⟨rfl, rfl, rfl, rfl⟩ := hv
    obtain ⟨rfl, rfl⟩ := v3 rfl
    intro i hi
    have hi' : i < c.size := by
      rw [h4]
      exact Nat.lt_of_lt_of_le hi (k1 ▸ Nat.mul_le_mul_right _ k2.1)
    exact ⟨c[i], by simp [World.cell?, h3, hi'], (h6 i hi hi').1⟩
  · rw [h1] at hv; simp at hv
theorem OpOk.still {P o N env σ nm R} (h : ∀ K a w, Fr K N env a → Sat K σ w → ∃ av v, (execOp a.eval o).run P w = .ok (.value v) w ∧ Rel K av v ∧ R av none) : OpOk P o N env σ nm R :=
  fun _ K a w hf hs _ _ => let ⟨av, v, h1, h2, h3⟩ := h K a w hf hs; ⟨K, av, none, v, w, .inl h1, Gh.leS.refl K, h2, hs, h3⟩
section ops
variable {P : Program} {o : Oper} {N : Nat} {env : Env} {σ : Sig} {nm : Nat} {R : AV → Option (Nat × AObj) → Prop}
theorem ok_mov {x ax} (ho : o.op = .move x ∨ o.op = .assign x) (hx : trOpnd x = some ax) (h : exOpN nm env σ R (.mov ax)) : OpOk P o N env σ nm R := by
  refine .still fun K a w hf hs => ?_
  obtain ⟨av, h1, h2⟩ := wth_some h
  refine ⟨av, a.eval x, ?_, trOpnd_rel hx h1 hf, h2⟩
  rcases ho with ho | ho <;> simp [execOp, ho]
theorem ok_pick {c x y ac ax ay} (ho : o.op = .pick c x y) (hc : trOpnd c = some ac) (hx : trOpnd x = some ax) (hy : trOpnd y = some ay) (h : exOpN nm env σ R (.pick ac ax ay)) : OpOk P o N env σ nm R := by
  refine .still fun K a w hf hs => ?_
  obtain ⟨cv, h1, h2⟩ := wth_some h
  cases cv <;> simp at h2
  rename_i p
  have hp : a.eval c = .bool p := rel_bool (trOpnd_rel hc h1 hf)
  cases p with
  | true =>
    simp at h2
    obtain ⟨av, h3, h4⟩ := wth_some h2
    exact ⟨av, a.eval x, by simp [execOp, ho, hp, asBool], trOpnd_rel hx h3 hf, h4⟩
  | false =>
    simp at h2
    obtain ⟨av, h3, h4⟩ := wth_some h2
    exact ⟨av, a.eval y, by simp [execOp, ho, hp, asBool], trOpnd_rel hy h3 hf, h4⟩
theorem load_core {t x ax g n} {K : Gh} {a : Act} {w : World} (hr : readOf P t = some (g, n)) (hx : trOpnd x = some ax) (h : exOpN nm env σ R (.load g n ax)) (hf : Fr K N env a) (hs : Sat K σ w) :
    ∃ av v b off, a.eval x = .pointer (some ⟨b, off, none⟩) ∧ (Instr.loadAt t (.pointer (some ⟨b, off, none⟩))).run P w = .ok v w ∧ Rel K av v ∧ R av none := by
  obtain ⟨pv, h1, h2⟩ := wth_some h
  have hp := trOpnd_rel hx h1 hf
  have fin : ∀ {b off : Nat} {cs : List AV} {av : AV}, a.eval x = .pointer (some ⟨b, off, none⟩) → ReadsAt K w b off cs → cs.length = n → mkv g cs = some av → R av none →
      ∃ av v b off, a.eval x = .pointer (some ⟨b, off, none⟩) ∧ (Instr.loadAt t (.pointer (some ⟨b, off, none⟩))).run P w = .ok v w ∧ Rel K av v ∧ R av none := by
    intro b off cs av e hrd hl hm hR
    obtain ⟨v, h5, h6⟩ := load_reads hr hrd hl hm
    exact ⟨av, v, b, off, e, h5, h6, hR⟩
  cases pv <;> simp at h2
  case ptr ob off =>
    obtain ⟨e, he, hown, hfix⟩ := rel_ptr hp
    split at h2
    · rename_i cs hcs
      obtain ⟨h3, h4⟩ := h2
      obtain ⟨av, h5, h6⟩ := wth_some h4
      have := (reads_obj hs hown hcs).sub off n
      rw [Nat.zero_add] at this
      exact fin he this (by simp; omega) h5 h6
    · exact h2.elim
  case eptr ob m off =>
    obtain ⟨b, cap, he, hv⟩ := rel_eptr hp
    split at h2
    · rename_i sz m' cs hcs
      obtain ⟨⟨rfl, h3⟩, h4⟩ := h2
      obtain ⟨av, h5, h6⟩ := wth_some h4
      have := (reads_vec hs hv hcs).sub off n
      rw [Nat.zero_add] at this
      exact fin he this (by simp; omega) h5 h6
    · exact h2.elim
  case cptr cs =>
    obtain ⟨b, off, v, he, hc, hrr⟩ := rel_cptr hp
    obtain ⟨h3, h4⟩ := h2
    obtain ⟨av, h5, h6⟩ := wth_some h4
    have := (reads_cptr hs hc hrr).sub 0 n
    rw [Nat.add_zero] at this
    exact fin he (by simpa using this) (by simp; omega) h5 h6
theorem ok_load {t x ax g n} (ho : o.op = .load t x) (hr : readOf P t = some (g, n)) (hx : trOpnd x = some ax) (h : exOpN nm env σ R (.load g n ax)) : OpOk P o N env σ nm R := by
  refine .still fun K a w hf hs => ?_
  obtain ⟨av, v, b, off, h1, h2, h3, h4⟩ := load_core hr hx h hf hs
  exact ⟨av, v, by simp [execOp, ho, h1, h2], h3, h4⟩
theorem run_storeAt {t n} (hn : szOf P t = some n) (w : World) (b off : Nat) (v : Value) (c : Array Value) (el : TypeId) (hc : v.cells.size = n) (hh : w.heap[b]? = some (.cells c el (0, 0)))
    (hl : off + n ≤ c.size) (h1 : ∀ u ∈ v.cells.toList, u.oneCell' = true) :
    (Instr.storeAt t (.pointer (some ⟨b, off, none⟩)) v).run P w = .ok () (w.setRow b (c.toList.take off ++ v.cells.toList ++ c.toList.drop (off + v.cells.toList.length)).toArray) := by
  have := run_storeCells_at P b off el v.cells.toList 0 c w hh (by simp; omega) h1
  simp only [Nat.add_zero] at this
  simp [Instr.storeAt, Instr.sureAddr, storeVar, run_sizeOf' hn, hc, this]
theorem Sat.setRow {K : Gh} {σ w} (h : Sat K σ w) {ob e x x'} {c : Array Value} {el : TypeId} (hx : σ ob = some x) (he : K.own ob = some e) (hre : e.real = true) (c' : Array Value)
    (hh : w.heap[e.blk]? = some (.cells c el (0, 0))) (hno : ∀ i, K.claim e.blk i = none) (hx' : ObjSat K (w.setRow e.blk c') e x') : Sat K (upd σ ob x') (w.setRow e.blk c') := by
  refine h.write (Gh.le.refl K) hx he hre (fun _ _ => rfl) he rfl rfl rfl rfl (by simp) (fun b hb => setRow_other w _ b c' hb) (fun i => ?_) (fun i v e' => by simp [hno] at e') (fun _ _ _ => rfl) hx'
  exact frozen_loose (setRow_heap w e.blk c c' el (0, 0) hh) rfl
theorem putv_take (A us : List Value) (off m : Nat) (h : off + us.length ≤ m) (h2 : m ≤ A.length) :
    (A.take m).take off ++ us ++ (A.take m).drop (off + us.length) = (A.take off ++ us ++ A.drop (off + us.length)).take m := by
  have e1 : (A.take off).length = off := by simp; omega
  rw [List.take_take, Nat.min_eq_left (by omega), List.drop_take, List.take_append, List.take_append, e1, List.take_of_length_le (l := A.take off) (by simp; omega),
    List.take_of_length_le (l := us) (by omega), List.length_append, e1]
theorem ok_store {t p x ap ax n} (ho : o.op = .store t p x) (hd : o.dst = none) (hn : szOf P t = some n) (hp : trOpnd p = some ap) (hx : trOpnd x = some ax) (h : exOpN nm env σ R (.store n ap ax)) : OpOk P o N env σ nm R := by
  intro S K a w hf hs _ _
  obtain ⟨pv, h1, h2⟩ := wth_some h
  obtain ⟨xv, h3, h4⟩ := wth_some h2
  have rp := trOpnd_rel hp h1 hf
  have rx := trOpnd_rel hx h3 hf
  have ones : (∀ y ∈ cellsA xv, oneA y = true) → ∀ u ∈ (a.eval x).cells.toList, u.oneCell' = true := by
    intro hall u hu
    obtain ⟨i, hi, rfl⟩ := List.getElem_of_mem hu
    have hl : i < (cellsA xv).length := by rw [rx.cells.1]; exact hi
    exact (rx.cells.2 i hl hi).oneCell (hall _ (List.getElem_mem hl))
  have lens : (cellsA xv).length = (a.eval x).cells.size := by simpa using rx.cells.1
  cases pv <;> simp at h4
  case ptr ob off =>
   obtain ⟨e, he, hown, hfix⟩ := rel_ptr rp
   split at h4
   · rename_i cs hcs
     obtain ⟨⟨k1, k2, k3⟩, k4⟩ := h4
     obtain ⟨e', l1, l2⟩ := hs.live ob _ hcs
     have : e' = e := by simp_all
     subst this
     cases e' <;> simp only [ObjSat] at l2
     rename_i b
     obtain ⟨m1, ⟨c, el, m2, m3⟩, m4⟩ := l2
     have hsz : cs.length = c.size := by simpa using m3.1
     have hrun := run_storeAt (P := P) hn w b off (a.eval x) c el (by omega) m2 (by omega) (ones k3)
     refine ⟨K, .tup [], some _, undef, _, .inr ⟨by simp only [execOp, ho, he, Own.blk, Sem.run_bind, hrun, Result.andThen_ok, Sem.run_pure]; rfl, hd⟩, Gh.leS.refl K, .tupL .nil, ?_, k4⟩
     exact Sat.setRow hs hcs hown rfl _ m2 m4 ⟨m1, ⟨_, el, setRow_heap w b c _ el (0, 0) m2, by simpa using m3.putAt rx.cells off⟩, m4⟩
   · exact h4.elim
  case eptr ob m off =>
   obtain ⟨b0, cap0, he, hv⟩ := rel_eptr rp
   split at h4
   · rename_i sz m' cs hcs
     obtain ⟨⟨rfl, k1, k2, k3⟩, k4⟩ := h4
     obtain ⟨e', l1, l2⟩ := hs.live ob _ hcs
     cases e' <;> simp only [ObjSat] at l2
     rename_i b cap sz' n'
     obtain ⟨rfl, rfl, p1, p2, m1, ⟨c, el, m2, m5, m6⟩, m4⟩ := l2
     obtain ⟨b', cap', sz2, n2, hv | hv, v2, v3⟩ := hv
     case inr => rw [l1] at hv; simp at hv
     rw [l1] at hv
     simp only [Option.some.injEq, Own.vec.injEq] at hv
     obtain ⟨rfl, rfl, rfl, rfl⟩ := hv
     obtain ⟨rfl, rfl⟩ := v3 rfl
     have hle := Nat.mul_le_mul_right sz' p2.1
     have hrun := run_storeAt (P := P) hn w b0 off (a.eval x) c el (by omega) m2 (by omega) (ones k3)
     refine ⟨K, .tup [], some _, undef, _, .inr ⟨by simp only [execOp, ho, he, Sem.run_bind, hrun, Result.andThen_ok, Sem.run_pure]; rfl, hd⟩, Gh.leS.refl K, .tupL .nil, ?_, k4⟩
     have rl : RelL K cs (c.toList.take cs.length) := ⟨by simp; omega, fun i i1 i2 => by
       have := (m6 i i1 (by omega)).1
       simpa using this⟩
     have rl2 := rl.putAt rx.cells off
     have hxl : (a.eval x).cells.toList.length = n := by simp; omega
     refine Sat.setRow hs hcs l1 rfl _ m2 m4 ⟨rfl, rfl, ?_, p2, m1, ⟨_, el, setRow_heap w b0 c _ el (0, 0) m2, ?_, ?_⟩, m4⟩
     · simp [putAt]; omega
     · simp; omega
     · intro i i1 i2
       have i1' := i1
       rw [rl2.1] at i1'
       have r3 := rl2.2 i i1 i1'
       have hpt := putv_take c.toList (a.eval x).cells.toList off cs.length (by omega) (by simp; omega)
       have hi : i < cs.length := by simp [putAt] at i1; omega
       have : (List.take off (c.toList.take cs.length) ++ (a.eval x).cells.toList ++ List.drop (off + (a.eval x).cells.toList.length) (c.toList.take cs.length))[i]'i1' =
           (c.toList.take off ++ (a.eval x).cells.toList ++ c.toList.drop (off + (a.eval x).cells.toList.length))[i]'(by simpa using i2) := by
         apply Option.some.inj
         rw [← List.getElem?_eq_getElem, ← List.getElem?_eq_getElem, hpt, List.getElem?_take, if_pos hi]
       rw [this] at r3
       refine ⟨by simpa using r3, ?_⟩
       have hmem : ∀ u, (c.toList.take off ++ (a.eval x).cells.toList ++ c.toList.drop (off + (a.eval x).cells.toList.length))[i]? = some u → u.oneCell' = true := by
         intro u hu
         rw [List.getElem?_append] at hu
         split at hu
         · rw [List.getElem?_append] at hu
           split at hu
           · rename_i q1 q2
             rw [List.getElem?_take] at hu
             split at hu
             · have hic : i < c.size := by omega
               rw [Array.getElem?_toList, Array.getElem?_eq_getElem hic] at hu
               simp only [Option.some.injEq] at hu
               rw [← hu]; exact (m6 i hi hic).2
             · simp at hu
           · exact ones k3 u (List.mem_of_getElem? hu)
         · rename_i q1
           rw [List.getElem?_drop] at hu
           have e1 : off + (a.eval x).cells.toList.length + (i - (c.toList.take off ++ (a.eval x).cells.toList).length) = i := by
             simp at q1 ⊢; omega
           rw [e1] at hu
           have hic : i < c.size := by omega
           rw [Array.getElem?_toList, Array.getElem?_eq_getElem hic] at hu
           simp only [Option.some.injEq] at hu
           rw [← hu]; exact (m6 i hi hic).2
       refine hmem _ ?_
       have i2' : i < (c.toList.take off ++ (a.eval x).cells.toList ++ c.toList.drop (off + (a.eval x).cells.toList.length)).length := by simpa using i2
       rw [List.getElem?_eq_getElem i2']
       simp
   · exact h4.elim
end ops
end Abs

namespace Abs
open Go
theorem pushed_mk (w : World) (ob : Obj) : Pushed w { w with heap := w.heap.push ob } ob := ⟨rfl, rfl, rfl, rfl⟩
theorem Sat.newCells {K σ w} (h : Sat K σ w) {cs : List AV} {vs : Array Value} (hr : RelL K cs vs.toList) (el : TypeId) {o : Nat} (ho : K.own o = none) {S : Nat → Prop} (hS : ¬ S o) :
    ∃ K', K.leS S K' ∧ K'.own o = some (.obj w.heap.size) ∧ Sat K' (upd σ o (.cells cs)) { w with heap := w.heap.push (.cells vs el) } := by
  have hp := pushed_mk w (.cells vs el)
  have hle0 := (h.push hp rfl (fun _ => none) (fun i v e => by simp at e)).1
  obtain ⟨h1, h2⟩ := h.pushName hp rfl (fun _ => none) (fun i v e => by simp at e) ho (.obj w.heap.size) rfl (.cells cs)
    ⟨by show K.base.heap.size ≤ _; exact h.size, ⟨vs, el, hp.new, hr.mono hle0⟩, fun i => by simp [Gh.claimed]⟩
  refine ⟨_, ⟨h1, fun o' hs hn => ?_⟩, by simp [Gh.named], h2⟩
  have : o' ≠ o := fun e => hS (e ▸ hs)
  simp [Gh.named, Gh.claimed, this, hn]
theorem Sat.newRow {K σ w} (h : Sat K σ w) (vs : Array Value) (el : TypeId) (n : Nat) (hn : n ≤ vs.size) (h1 : ∀ i, (hi : i < n) → (vs[i]'(by omega)).oneCell' = true) :
    ∃ K', K.le K' ∧ (∀ i, i < n → K'.claim w.heap.size i = vs[i]?) ∧ (∀ i, n ≤ i → K'.claim w.heap.size i = none) ∧ K'.own = K.own ∧ Sat K' σ { w with heap := w.heap.push (.cells vs el) } := by
  have hp := pushed_mk w (.cells vs el)
  obtain ⟨h2, h3⟩ := h.push hp rfl (fun i => if i < n then vs[i]? else none) (fun i v e => by
    by_cases hi : i < n
    · rw [if_pos hi] at e
      refine ⟨by simp [World.cell?]; exact e, ?_⟩
      have := h1 i hi
      rw [Array.getElem?_eq_getElem (by omega)] at e
      simp at e; rw [← e]; exact this
    · rw [if_neg hi] at e
      simp at e)
  exact ⟨_, h2, fun i hi => by simp [Gh.claimed, hi], fun i hi => by simp [Gh.claimed]; omega, rfl, h3⟩
theorem RelL.ones {K cs vs} (h : RelL K cs vs) (h1 : cs.all oneA = true) (i : Nat) (hi : i < vs.length) : vs[i].oneCell' = true := by
  have hi' : i < cs.length := h.1 ▸ hi
  have := h.2 i hi' hi
  exact this.oneCell (List.all_eq_true.1 h1 _ (List.getElem_mem hi'))
section ops
variable {P : Program} {o : Oper} {N : Nat} {env : Env} {σ : Sig} {nm : Nat} {R : AV → Option (Nat × AObj) → Prop}
theorem ok_alloc {e z} (ho : o.op = .alloc e) (hz : zeroOf P e = some z) (h : exOpN nm env σ R (.alloc z)) : OpOk P o N env σ nm R := by
  intro S K a w hf hs hnm hS
  obtain ⟨v, h1, h2, _⟩ := run_zeroValue' (K := K) hz w
  obtain ⟨K', k2, k3, k4⟩ := hs.newCells h2 e hnm hS
  refine ⟨K', _, some (nm, _), _, _, .inl ?_, k2, .ptr nm 0 _ k3 rfl, k4, h⟩
  simp [execOp, ho, Instr.alloc, h1, newVar, Go.newRow, Own.blk]
theorem ok_box {e x ax} (ho : o.op = .box e x) (hx : trOpnd x = some ax) (h : exOpN nm env σ R (.box ax)) : OpOk P o N env σ nm R := by
  intro S K a w hf hs hnm hS
  obtain ⟨av, h1, h2⟩ := wth_some h
  obtain ⟨K', k2, k3, k4⟩ := hs.newCells (trOpnd_rel hx h1 hf).cells e hnm hS
  refine ⟨K', _, some (nm, _), _, _, .inl ?_, k2, .ptr nm 0 _ k3 rfl, k4, h2⟩
  simp [execOp, ho, Instr.box, newVar, Go.newRow, Own.blk]
theorem ok_boxI {e x ax} (ho : o.op = .box e x) (hx : trOpnd x = some ax) (h : exOpN nm env σ R (.boxI ax)) : OpOk P o N env σ nm R := by
  intro S K a w hf hs _ _
  obtain ⟨av, h1, h0, h2⟩ := wth_some h
  have hr := (trOpnd_rel hx h1 hf).cells
  have hl : (cellsA av).length = (a.eval x).cells.size := by simpa using hr.1
  obtain ⟨K', k1, k2, _, k5, k4⟩ := hs.newRow (a.eval x).cells e (a.eval x).cells.size (Nat.le_refl _) (fun i hi => by
    have := hr.ones h0 i (by simpa using hi)
    simpa using this)
  refine ⟨K', .cptr (cellsA av), none, .pointer (some ⟨w.heap.size, 0, none⟩), _, .inl ?_, Gh.leS_own k1 k5, ?_, k4, h2⟩
  · simp [execOp, ho, Instr.box, newVar, Go.newRow]
  · refine .cptr _ _ _ (fun i => ((a.eval x).cells[i]?).getD undef) (fun i hi => ?_) (fun i hi => ?_)
    · rw [Nat.zero_add, k2 i (by omega), Array.getElem?_eq_getElem (by omega)]; rfl
    · have := hr.2 i hi (by simp; omega)
      rw [Array.getElem?_eq_getElem (by omega)]
      simpa using this.mono k1
theorem ok_nilchk {x ax} (ho : o.op = .nilCheck x) (hx : trOpnd x = some ax) (h : exOpN nm env σ R (.nilchk ax)) : OpOk P o N env σ nm R := by
  refine .still fun K a w hf hs => ?_
  obtain ⟨av, h1, h2⟩ := wth_some h
  have hr := trOpnd_rel hx h1 hf
  cases av <;> simp at h2
  case ptr ob off =>
    obtain ⟨e, he, _, _⟩ := rel_ptr hr
    exact ⟨_, _, by simp [execOp, ho, he]; rfl, by rw [← he]; exact hr, h2⟩
  case eptr ob m off =>
    obtain ⟨b, cap, he, _⟩ := rel_eptr hr
    exact ⟨_, _, by simp [execOp, ho, he]; rfl, by rw [← he]; exact hr, h2⟩
  case cptr cs =>
    obtain ⟨b, off, u, he, _, _⟩ := rel_cptr hr
    exact ⟨_, _, by simp [execOp, ho, he]; rfl, by rw [← he]; exact hr, h2⟩
  case fn f l m =>
    obtain ⟨fs, cs, he, _, _⟩ := rel_fn hr
    exact ⟨_, _, by simp [execOp, ho, he]; rfl, by rw [← he]; exact hr, h2⟩
theorem eqGuard_plain (op : BinOp) (t : TypeId) (x y : Operand) (u v : Value) (w : World) (h1 : ∀ cs, u ≠ .agg cs) (h2 : u ≠ .nilIface) : (eqGuard op t x y u v).run P w = .ok () w := by
  unfold eqGuard
  cases op <;> first | rfl | (cases u <;> first | (exact absurd rfl h2) | (exact absurd rfl (h1 _)) | (cases v <;> rfl))
theorem run_equal_bool {t : TypeId} (hb : isBool P t = true) (p q : Bool) (w : World) : (Op.equal t (.bool p) (.bool q)).run P w = .ok (p == q) w := by
  unfold isBool at hb
  split at hb
  · rename_i hu
    have e : Op.maxDepth = 9999 + 1 := rfl
    rw [Op.equal, e, Op.equalIn]
    simp [run_underlying' hu]
  · simp at hb
theorem ok_bin {op t x y yt tb ax ay} (ho : o.op = .binOp op t x y yt) (hp : tb = true → isBool P t = true) (hx : trOpnd x = some ax) (hy : trOpnd y = some ay) (h : exOpN nm env σ R (.bin op tb ax ay)) : OpOk P o N env σ nm R := by
  refine .still fun K a w hf hs => ?_
  obtain ⟨av, h1, h2⟩ := wth_some h
  obtain ⟨bv, h3, h4⟩ := wth_some h2
  obtain ⟨rv, h5, h6⟩ := wth_some h4
  have ra := trOpnd_rel hx h1 hf
  have rb := trOpnd_rel hy h3 hf
  have fin : ∀ {v : Value}, (binOp op t (a.eval x) (a.eval y)).run P w = .ok v w → (∀ cs, a.eval x ≠ .agg cs) → a.eval x ≠ .nilIface → Rel K rv v → ∃ av v, (execOp a.eval o).run P w = .ok (.value v) w ∧ Rel K av v ∧ R av none := by
    intro v e n1 n2 r
    exact ⟨rv, v, by simp [execOp, ho, eqGuard_plain op t x y _ _ w n1 n2, e], r, h6⟩
  cases av <;> cases bv <;> simp only [binA] at h5 <;> try (simp at h5; done)
  case int.int k n k' m =>
    have ea := rel_int ra
    have eb := rel_int rb
    have hn1 : ∀ cs, a.eval x ≠ .agg cs := by simp [ea]
    have hn2 : a.eval x ≠ .nilIface := by simp [ea]
    cases op <;> simp only [] at h5
    case shl =>
      split at h5 <;> simp at h5
      subst h5
      rename_i hb
      refine fin ?_ hn1 hn2 (.int _ _)
      simp [ea, eb, binOp, Op.shift, hb]
    case shr =>
      split at h5 <;> simp at h5
      subst h5
      rename_i hb
      refine fin ?_ hn1 hn2 (.int _ _)
      simp [ea, eb, binOp, Op.shift, hb]
    case quo =>
      split at h5 <;> simp at h5
      obtain ⟨hz, h5⟩ := h5
      subst h5; rename_i hk; subst hk
      refine fin ?_ hn1 hn2 (.int _ _)
      simp [ea, eb, binOp, Op.intDiv, hz]
    case rem =>
      split at h5 <;> simp at h5
      obtain ⟨hz, h5⟩ := h5
      subst h5; rename_i hk; subst hk
      refine fin ?_ hn1 hn2 (.int _ _)
      simp [ea, eb, binOp, Op.intDiv, hz]
    all_goals
      split at h5 <;> simp at h5
      subst h5; rename_i hk; subst hk
      first
        | (refine fin ?_ hn1 hn2 (.int _ _); simp [ea, eb, binOp, Op.intArith, Op.intBits, Op.intCmp]; done)
        | (refine fin ?_ hn1 hn2 (.bool _); simp [ea, eb, binOp, Op.intArith, Op.intBits, Op.intCmp]; done)
  case bool.bool p q =>
    have ea := rel_bool ra
    have eb := rel_bool rb
    have hn1 : ∀ cs, a.eval x ≠ .agg cs := by simp [ea]
    have hn2 : a.eval x ≠ .nilIface := by simp [ea]
    cases op <;> simp at h5
    all_goals
      obtain ⟨h7, h5⟩ := h5
      subst h5
      refine fin ?_ hn1 hn2 (.bool _)
      simp [ea, eb, binOp, run_equal_bool (hp h7)]
  case str.str p q =>
    have ea := rel_str ra
    have eb := rel_str rb
    have hn1 : ∀ cs, a.eval x ≠ .agg cs := by simp [ea]
    have hn2 : a.eval x ≠ .nilIface := by simp [ea]
    cases op <;> simp at h5
    all_goals
      subst h5
      refine fin ?_ hn1 hn2 (.bool _)
      simp [ea, eb, binOp, Op.stringOp]
end ops
end Abs

namespace Abs
open Go

/-! ### Rows of values -/
theorem flat_nil : flat [] = [] := rfl
theorem flat_cons (x l) : flat (x :: l) = cellsA x ++ flat l := by simp [flat]
theorem flat_append (l m) : flat (l ++ m) = flat l ++ flat m := by simp [flat]
theorem flat_length {l : List AV} {sz} (h : ∀ x ∈ l, (cellsA x).length = sz) : (flat l).length = l.length * sz := by
  induction l with
  | nil => simp [flat]
  | cons x l ih =>
    rw [flat_cons, List.length_append, h x (by simp), ih (fun y hy => h y (by simp [hy]))]
    simp [Nat.succ_mul]; omega
theorem flat_drop {l : List AV} {sz} (h : ∀ x ∈ l, (cellsA x).length = sz) (n : Nat) : flat (l.drop n) = (flat l).drop (n * sz) := by
  induction n generalizing l with
  | zero => simp
  | succ n ih =>
    cases l with
    | nil => simp [flat]
    | cons x l =>
      rw [List.drop_succ_cons, ih (fun y hy => h y (by simp [hy])), flat_cons, Nat.succ_mul, Nat.add_comm, List.drop_append, List.drop_of_length_le (l := cellsA x) (by rw [h x (by simp)]; omega), h x (by simp)]
      simp
theorem flat_take {l : List AV} {sz} (h : ∀ x ∈ l, (cellsA x).length = sz) (n : Nat) : flat (l.take n) = (flat l).take (n * sz) := by
  induction n generalizing l with
  | zero => simp [flat]
  | succ n ih =>
    cases l with
    | nil => simp [flat]
    | cons x l =>
      rw [List.take_succ_cons, flat_cons, ih (fun y hy => h y (by simp [hy])), flat_cons, Nat.succ_mul, Nat.add_comm, List.take_append, List.take_of_length_le (l := cellsA x) (by rw [h x (by simp)]; omega), h x (by simp)]
      simp
theorem flat_at {l : List AV} {sz} (h : ∀ x ∈ l, (cellsA x).length = sz) {i : Nat} {e : AV} (he : l[i]? = some e) : ((flat l).drop (i * sz)).take sz = cellsA e := by
  rw [← flat_drop h]
  have hi : i < l.length := by
    rcases Nat.lt_or_ge i l.length with h' | h'
    · exact h'
    · simp [List.getElem?_eq_none h'] at he
  rw [List.drop_eq_getElem_cons hi, flat_cons]
  have : l[i] = e := by rw [List.getElem?_eq_getElem hi] at he; exact Option.some.inj he
  rw [this, List.take_append, List.take_of_length_le (by rw [h e (this ▸ List.getElem_mem hi)]; omega), h e (this ▸ List.getElem_mem hi)]
  simp
theorem rel_slice {K l t v} (h : Rel K (.slice l t) v) :
    (∃ a cap, v = .slice a 0 cap ∧ l = [] ∧ (t = .no ∨ t = .full ∧ cap = 0 ∨ t = .nil ∧ a = none ∧ cap = 0 ∨ (a = none ∧ cap = 0 ∧ ∃ o, t = .own o ∧ NilOwn K o))) ∨
    (∃ b off cap sz, ∃ u : Nat → Value, v = .slice (some ⟨b, off, none⟩) l.length cap ∧ (∀ x ∈ l, (cellsA x).length = sz) ∧ (∀ i, i < (flat l).length → K.claim b (off + i) = some (u i)) ∧
      (∀ i, (h : i < (flat l).length) → Rel K (flat l)[i] (u i)) ∧ TokOk K t l.length b off cap sz ∧ l.length ≤ cap) := by
  cases h with
  | sl0 a cap t ht => exact .inl ⟨a, cap, rfl, rfl, ht⟩
  | slice l t b off cap sz u hsz hc hr ht hcap => exact .inr ⟨b, off, cap, sz, u, rfl, hsz, hc, hr, ht, hcap⟩
theorem rel_vec {K o len v} (h : Rel K (.vec o len) v) : ∃ b cap, v = .slice (some ⟨b, 0, none⟩) len cap ∧ VecOk K o len b cap ∧ len ≤ cap := by
  cases h with | vec o len b cap h hl => exact ⟨b, cap, rfl, h, hl⟩
theorem rel_pre {K o len n v} (h : Rel K (.pre o len n) v) : ∃ b cap, v = .slice (some ⟨b, 0, none⟩) len cap ∧ VecOk K o n b cap ∧ len ≤ n ∧ n ≤ cap := by
  cases h with | pre o len n b cap h h1 hl => exact ⟨b, cap, rfl, h, h1, hl⟩
section ops
variable {P : Program} {o : Oper} {N : Nat} {env : Env} {σ : Sig} {nm : Nat} {R : AV → Option (Nat × AObj) → Prop}
theorem ok_un {op t x ax} (ho : o.op = .unOp op t x) (hx : trOpnd x = some ax) (h : exOpN nm env σ R (.un op ax)) : OpOk P o N env σ nm R := by
  refine .still fun K a w hf hs => ?_
  obtain ⟨av, h1, h2⟩ := wth_some h
  have hr := trOpnd_rel hx h1 hf
  cases op <;> cases av <;> simp at h2
  case not.bool => exact ⟨_, _, by simp [execOp, ho, rel_bool hr, Op.unary] <;> rfl, .bool _, h2⟩
  case neg.int => exact ⟨_, _, by simp [execOp, ho, rel_int hr, Op.unary, Op.intArith] <;> rfl, .int _ _, h2⟩
  case xor.int k n =>
    cases k <;> simp only [] at h2 <;> first | exact h2.elim | skip
    exact ⟨_, _, by simp [execOp, ho, rel_int hr, Op.unary, Op.intBits] <;> rfl, .int _ _, h2⟩
theorem ok_conv {s d x ax ks k} (ho : o.op = .convert s d x) (hs1 : P.underlying s = some (.int ks)) (hd : P.underlying d = some (.int k)) (hx : trOpnd x = some ax) (h : exOpN nm env σ R (.conv k ax)) : OpOk P o N env σ nm R := by
  refine .still fun K a w hf hs => ?_
  obtain ⟨av, h1, h2⟩ := wth_some h
  have hr := trOpnd_rel hx h1 hf
  cases av <;> simp at h2
  have e := rel_int hr
  exact ⟨_, _, by simp [execOp, ho, e, Go.convert, run_underlying' hs1, run_underlying' hd, Conv.intToInt] <;> rfl, .int _ _, h2⟩
theorem ok_mkfn {f first caps af ac} (ho : o.op = .makeFunc (.func f) first caps) (h1 : trOpnds first.toList = some af) (h2 : trOpnds caps.toList = some ac) (h : exOpN nm env σ R (.mkfn f af ac)) : OpOk P o N env σ nm R := by
  refine .still fun K a w hf hs => ?_
  obtain ⟨l, e1, h3⟩ := wthL_some h
  obtain ⟨m, e2, h4⟩ := wthL_some h3
  have r1 := trOpnds_rel hf h1 e1
  have r2 := trOpnds_rel hf h2 e2
  refine ⟨.fn f l m, .func (.func f) (first.map a.eval) (caps.map a.eval), by simp [execOp, ho, Instr.makeFunc], ?_, h4⟩
  refine .fn f l m _ _ (by simpa using r1.1) (by simpa using r2.1) (fun i i1 i2 => ?_) (fun i i1 i2 => ?_)
  · have := r1.2 i i1 (by simpa using i2); simpa using this
  · have := r2.2 i i1 (by simpa using i2); simpa using this
theorem run_fieldAt {s f} {fs : Array Field} {fd : Field} (hu : P.underlying s = some (.struct fs)) (hf : fs[f]? = some fd) {n} (hn : szOf P fd.type = some n) (hn0 : n ≠ 0) (w : World) (b off : Nat) :
    (Instr.fieldAt s (.pointer (some ⟨b, off, none⟩)) f).run P w = .ok (.pointer (some ⟨b, off + fd.offset, none⟩)) w := by
  simp [Instr.fieldAt, run_underlying' hu, hf, Instr.sureAddr, fieldPlace, run_sizeOf' hn, hn0, add_none]
theorem ok_fldA {s x f ax fs fd n} (ho : o.op = .fieldAddr s x f) (hu : P.underlying s = some (.struct fs)) (hf' : fs[f]? = some fd) (hn : szOf P fd.type = some n) (hn0 : n ≠ 0) (hx : trOpnd x = some ax)
    (h : exOpN nm env σ R (.fldA fd.offset ax)) : OpOk P o N env σ nm R := by
  refine .still fun K a w hf hs => ?_
  obtain ⟨av, h1, h2⟩ := wth_some h
  have hr := trOpnd_rel hx h1 hf
  cases av <;> simp at h2
  case ptr ob off =>
    obtain ⟨e, he, h3, h4⟩ := rel_ptr hr
    exact ⟨_, _, by simp [execOp, ho, he, run_fieldAt hu hf' hn hn0] <;> rfl, .ptr _ _ e h3 h4, h2⟩
  case eptr ob m off =>
    obtain ⟨b, cap, he, h3⟩ := rel_eptr hr
    exact ⟨_, _, by simp [execOp, ho, he, run_fieldAt hu hf' hn hn0] <;> rfl, .eptr _ _ _ b cap h3, h2⟩
  case cptr cs =>
    obtain ⟨b, off, u, he, h3, h4⟩ := rel_cptr hr
    refine ⟨_, _, by simp [execOp, ho, he, run_fieldAt hu hf' hn hn0] <;> rfl, ?_, h2⟩
    refine .cptr _ b (off + fd.offset) (fun i => u (fd.offset + i)) (fun i hi => ?_) (fun i hi => ?_)
    · rw [Nat.add_assoc]; exact h3 _ (by simp at hi; omega)
    · simpa using h4 (fd.offset + i) (by simp at hi; omega)
theorem run_part {t g n} (hr : readOf P t = some (g, n)) (w : World) (cs : Array Value) (off : Nat) (h : off + n ≤ cs.size) :
    (part t cs off).run P w = .ok (if g then .agg (cs.extract off (off + n)) else cs[off]?.getD undef) w := by
  obtain ⟨h1, h2, h3⟩ := readOf_some hr
  cases g with
  | true => simp [part, run_isAgg' h1, run_sizeOf' h2]
  | false =>
    have := h3 rfl
    subst this
    have ho : off < cs.size := by omega
    simp [part, run_isAgg' h1, ho]
theorem part_rel {K : Gh} {g : Bool} {cs : List AV} {vs : Array Value} {off n a} (hr : RelL K cs vs.toList) (h : mkv g ((cs.drop off).take n) = some a) (hn : g = false → n = 1) (hl : off + n ≤ cs.length) :
    Rel K a (if g then .agg (vs.extract off (off + n)) else vs[off]?.getD undef) := by
  have h1 := mkv_rel ((hr.drop off).take n) h
  cases g with
  | true =>
    have e : (List.take n (List.drop off vs.toList)).toArray = vs.extract off (off + n) := by
      apply Array.ext'
      rw [Array.toList_extract]
      simp [List.take_drop]
    simp only [if_true] at h1 ⊢
    rw [← e]; exact h1
  | false =>
    have := hn rfl
    subst this
    have hs : off < vs.size := by have := hr.1; simp at this; omega
    simpa [hs] using h1
theorem ok_fldV {s x f ax fs fd g n} (ho : o.op = .field s x f) (hu : P.underlying s = some (.struct fs)) (hf' : fs[f]? = some fd) (hn : readOf P fd.type = some (g, n)) (hx : trOpnd x = some ax)
    (h : exOpN nm env σ R (.fldV g fd.offset n ax)) : OpOk P o N env σ nm R := by
  refine .still fun K a w hf hs => ?_
  obtain ⟨av, h1, h2⟩ := wth_some h
  have hr := trOpnd_rel hx h1 hf
  cases av <;> simp at h2
  rename_i cs
  obtain ⟨h3, h4⟩ := h2
  obtain ⟨rv, h5, h6⟩ := wth_some h4
  obtain ⟨vs, he, hv⟩ := rel_agg hr
  have hl : cs.length = vs.size := by simpa using hv.1
  refine ⟨rv, _, by simp [execOp, ho, he, Instr.field, run_underlying' hu, hf', asAgg, run_part hn w vs fd.offset (by omega)] <;> rfl, part_rel hv h5 (readOf_some hn).2.2 h3, h6⟩
theorem ok_idxS {t x i e ax ai sz} (ho : o.op = .indexAddr t x i) (hu : P.underlying t = some (.slice e)) (hsz : szOf P e = some sz) (hx : trOpnd x = some ax) (hi : trOpnd i = some ai)
    (h : exOpN nm env σ R (.idxS sz ax ai)) : OpOk P o N env σ nm R := by
  refine .still fun K a w hf hs => ?_
  obtain ⟨sv, h1, h2⟩ := wth_some h
  obtain ⟨iv, h3, h4⟩ := wth_some h2
  have rs := trOpnd_rel hx h1 hf
  have ri := trOpnd_rel hi h3 hf
  cases sv <;> cases iv <;> simp at h4
  case slice.int l tk k n =>
    obtain ⟨p1, h5⟩ := h4
    obtain ⟨el, p2, p3, p4⟩ := wth_some h5
    have ei := rel_int ri
    have hlt : n.toNat < l.length := by
      rcases Nat.lt_or_ge n.toNat l.length with h' | h'
      · exact h'
      · simp [List.getElem?_eq_none h'] at p2
    rcases rel_slice rs with ⟨a0, cap, he, rfl, _⟩ | ⟨b, off, cap, sz', u, he, q1, q2, q3, q4, q5⟩
    · simp at hlt
    have hel : el ∈ l := List.mem_of_getElem? p2
    have hszz : sz' = sz := by rw [← q1 el hel, p3]
    subst hszz
    have hn : n < (l.length : Int) := by omega
    have hfl := flat_at q1 p2
    have hlen := flat_length q1
    have hbound : n.toNat * sz' + sz' ≤ (flat l).length := by
      rw [hlen]; have := Nat.mul_le_mul_right sz' (show n.toNat + 1 ≤ l.length by omega)
      rw [Nat.succ_mul] at this; exact this
    refine ⟨_, _, by simp [execOp, ho, he, ei, Instr.indexAt, asIntOf, run_underlying' hu, p1, hn, run_sizeOf' hsz, add_none] <;> rfl, ?_, p4⟩
    refine .cptr _ b (off + n.toNat * sz') (fun j => u (n.toNat * sz' + j)) (fun j hj => ?_) (fun j hj => ?_)
    · rw [Nat.add_assoc]; exact q2 _ (by omega)
    · have hj' : n.toNat * sz' + j < (flat l).length := by omega
      have := q3 (n.toNat * sz' + j) hj'
      have e2 : (flat l)[n.toNat * sz' + j] = (cellsA el)[j] := by
        apply Option.some.inj
        rw [← List.getElem?_eq_getElem, ← List.getElem?_eq_getElem, ← hfl, List.getElem?_take, if_pos (by omega), List.getElem?_drop]
      rw [← e2]; exact this
  case vec.int ob len k n =>
    obtain ⟨⟨p1, p2⟩, p4⟩ := h4
    have ei := rel_int ri
    obtain ⟨b, cap, he, q1, q2⟩ := rel_vec rs
    refine ⟨_, _, by simp [execOp, ho, he, ei, Instr.indexAt, asIntOf, run_underlying' hu, p1, p2, run_sizeOf' hsz, add_none] <;> rfl, ?_, p4⟩
    exact .eptr ob _ _ b cap q1
  case pre.int ob len nn k n =>
    obtain ⟨⟨p1, p2⟩, p4⟩ := h4
    have ei := rel_int ri
    obtain ⟨b, cap, he, q1, q2⟩ := rel_pre rs
    refine ⟨_, _, by simp [execOp, ho, he, ei, Instr.indexAt, asIntOf, run_underlying' hu, p1, p2, run_sizeOf' hsz, add_none] <;> rfl, ?_, p4⟩
    exact .eptr ob _ _ b cap q1
theorem ok_idxR {t x i e len ax ai sz} (ho : o.op = .indexAddr t x i) (hu : P.underlying t = some (.array len e)) (hsz : szOf P e = some sz) (hx : trOpnd x = some ax) (hi : trOpnd i = some ai)
    (h : exOpN nm env σ R (.idxR sz len ax ai)) : OpOk P o N env σ nm R := by
  refine .still fun K a w hf hs => ?_
  obtain ⟨sv, h1, h2⟩ := wth_some h
  obtain ⟨iv, h3, h4⟩ := wth_some h2
  have rs := trOpnd_rel hx h1 hf
  have ri := trOpnd_rel hi h3 hf
  have run : ∀ {b off : Nat} {k : IntKind} {n : Int}, a.eval x = .pointer (some ⟨b, off, none⟩) → a.eval i = .int k n → 0 ≤ n → n < len →
      (execOp a.eval o).run P w = .ok (.value (.pointer (some ⟨b, off + n.toNat * sz, none⟩))) w := by
    intro b off k n he ei p1 p2
    simp [execOp, ho, he, ei, Instr.indexAt, asIntOf, run_underlying' hu, p1, p2, run_sizeOf' hsz, add_none, Instr.sureAddr]
  cases sv <;> cases iv <;> simp at h4
  case ptr.int ob off k n =>
    obtain ⟨⟨p1, p2⟩, p4⟩ := h4
    obtain ⟨e0, he, q1, q2⟩ := rel_ptr rs
    exact ⟨_, _, run he (rel_int ri) p1 p2, .ptr ob _ e0 q1 q2, p4⟩
  case eptr.int ob m off k n =>
    obtain ⟨⟨p1, p2⟩, p4⟩ := h4
    obtain ⟨b, cap, he, q1⟩ := rel_eptr rs
    exact ⟨_, _, run he (rel_int ri) p1 p2, .eptr ob _ _ b cap q1, p4⟩
  case cptr.int cs k n =>
    obtain ⟨⟨p1, p2⟩, p4⟩ := h4
    obtain ⟨b, off, u, he, q1, q2⟩ := rel_cptr rs
    refine ⟨_, _, run he (rel_int ri) p1 p2, ?_, p4⟩
    refine .cptr _ b _ (fun j => u (n.toNat * sz + j)) (fun j hj => ?_) (fun j hj => ?_)
    · rw [Nat.add_assoc]; exact q1 _ (by simp at hj; omega)
    · simpa using q2 (n.toNat * sz + j) (by simp at hj; omega)
theorem ok_idxV {t x i e len ax ai g sz} (ho : o.op = .index t x i) (hu : P.underlying t = some (.array len e)) (hsz : readOf P e = some (g, sz)) (hx : trOpnd x = some ax) (hi : trOpnd i = some ai)
    (h : exOpN nm env σ R (.idxV g sz len ax ai)) : OpOk P o N env σ nm R := by
  refine .still fun K a w hf hs => ?_
  obtain ⟨sv, h1, h2⟩ := wth_some h
  obtain ⟨iv, h3, h4⟩ := wth_some h2
  have rs := trOpnd_rel hx h1 hf
  have ri := trOpnd_rel hi h3 hf
  cases sv <;> cases iv <;> simp at h4
  rename_i cs k n
  obtain ⟨⟨p1, p2, p3⟩, p4⟩ := h4
  obtain ⟨rv, h5, h6⟩ := wth_some p4
  obtain ⟨vs, he, hv⟩ := rel_agg rs
  have ei := rel_int ri
  have hl : cs.length = vs.size := by simpa using hv.1
  obtain ⟨m1, m2, m3⟩ := readOf_some hsz
  exact ⟨rv, _, by simp [execOp, ho, he, ei, Instr.index, asIntOf, run_underlying' hu, p1, p2, run_sizeOf' m2, run_part hsz w vs (n.toNat * sz) (by omega)] <;> rfl, part_rel hv h5 m3 p3, h6⟩
theorem ok_extract {x ax k} (ho : o.op = .extract x k) (hx : trOpnd x = some ax) (h : exOpN nm env σ R (.extract ax k)) : OpOk P o N env σ nm R := by
  refine .still fun K a w hf hs => ?_
  obtain ⟨av, h1, h2⟩ := wth_some h
  have hr := trOpnd_rel hx h1 hf
  cases av <;> simp at h2
  rename_i cs
  obtain ⟨rv, h5, h6⟩ := wth_some h2
  obtain ⟨vs, he, hv⟩ := rel_tup hr
  have hk : k < cs.length := by
    rcases Nat.lt_or_ge k cs.length with h' | h'
    · exact h'
    · simp [List.getElem?_eq_none h'] at h5
  obtain ⟨v, e1, r1⟩ := hv.get k hk
  have : cs[k] = rv := by rw [List.getElem?_eq_getElem hk] at h5; exact Option.some.inj h5
  rw [this] at r1
  exact ⟨rv, v, by simp at e1; simp [execOp, ho, he, Instr.extract, e1], r1, h6⟩
theorem ok_mkiface {t x ax d} (ho : o.op = .makeInterface t x) (hu : P.underlying t = some d) (hd : ∀ ms, d ≠ .interface ms) (hx : trOpnd x = some ax) (h : exOpN nm env σ R (.mkiface t ax)) : OpOk P o N env σ nm R := by
  refine .still fun K a w hf hs => ?_
  obtain ⟨av, h1, h2⟩ := wth_some h
  refine ⟨_, _, ?_, .iface t av _ (trOpnd_rel hx h1 hf), h2⟩
  cases d <;> first | (exact absurd rfl (hd _)) | simp [execOp, ho, Instr.makeInterface, run_underlying' hu]
end ops
end Abs

namespace Abs
open Go
section ops
variable {P : Program} {o : Oper} {N : Nat} {env : Env} {σ : Sig} {nm : Nat} {R : AV → Option (Nat × AObj) → Prop}
theorem run_sliceBound (k : IntKind) (n : Int) (y : Nat) (code : BoundsCode) (w : World) (h0 : 0 ≤ n) (h1 : n ≤ y) : (Instr.sliceBound (.int k n) y code).run P w = .ok n.toNat w := by
  simp [Instr.sliceBound, asIntOf, h0, h1]
theorem bnd_run {K : Gh} {a : Act} {x : Option Operand} {ax : Option AOpnd} {d hi : Nat} {Q : Nat → Prop} (hf : Fr K N env a) (hx : trOpt x = some ax) (h : bnd env ax d hi Q) :
    ∃ r : Nat, Q r ∧ ((x.isNone ∧ r = d) ∨ ∃ k n, x.map a.eval = some (.int k n) ∧ 0 ≤ n ∧ n ≤ hi ∧ r = n.toNat) := by
  cases x with
  | none =>
    simp [trOpt] at hx; subst hx
    exact ⟨d, h, .inl ⟨rfl, rfl⟩⟩
  | some x =>
    simp only [trOpt, Option.map_eq_some_iff] at hx
    obtain ⟨b, hb, rfl⟩ := hx
    obtain ⟨av, h1, h2⟩ := wth_some (x := aval env b) h
    have hr := trOpnd_rel hb h1 hf
    cases av <;> simp at h2
    obtain ⟨⟨p1, p2⟩, p3⟩ := h2
    exact ⟨_, p3, .inr ⟨_, _, by rw [Option.map_some, rel_int hr], p1, p2, rfl⟩⟩
theorem piece_rel {K : Gh} {l t v} (hr : Rel K (.slice l t) v) {sz : Nat} (hsz : ∀ x ∈ l, (cellsA x).length = sz) {lo h m : Nat} (h1 : lo ≤ h) (h2 : h ≤ l.length) (h3 : h ≤ m) (full : Bool) (hfull : full = true → m = h) :
    ∀ a len cap, v = .slice a len cap → len = l.length ∧ (m ≤ cap → Rel K (.slice ((l.take h).drop lo) (if full then .full else .no)) (.slice (if m = lo then a else a.map (·.add (lo * sz))) (h - lo) (m - lo))) := by
  intro a len cap hv
  rcases rel_slice hr with ⟨a', cap', he, rfl, _⟩ | ⟨b, off, cap', sz', u, he, q1, q2, q3, q4, q5⟩
  · rw [he] at hv; cases hv
    refine ⟨rfl, fun _ => ?_⟩
    simp at h2
    have e1 : h = 0 := h2
    have e2 : lo = 0 := by omega
    subst e1; subst e2
    simp only [List.take_nil, List.drop_nil, Nat.sub_zero]
    refine .sl0 _ _ _ ?_
    cases full with
    | true => right; left; exact ⟨rfl, by simpa using hfull rfl⟩
    | false => left; rfl
  · rw [he] at hv; cases hv
    refine ⟨rfl, fun hm => ?_⟩
    have hlen : ((l.take h).drop lo).length = h - lo := by simp; omega
    by_cases hml : m = lo
    · have : h = lo := by omega
      subst this
      have e : (l.take h).drop h = [] := by apply List.eq_nil_of_length_eq_zero; rw [hlen]; omega
      rw [e, if_pos hml, Nat.sub_self]
      refine .sl0 _ _ _ ?_
      cases full with
      | true => right; left; exact ⟨rfl, by omega⟩
      | false => left; rfl
    · rw [if_neg hml]
      show Rel K _ (.slice (some ((⟨b, off, none⟩ : Addr).add (lo * sz))) (h - lo) (m - lo))
      rw [add_none, ← hlen]
      have hmem : ∀ x ∈ (l.take h).drop lo, x ∈ l := fun x hx => List.mem_of_mem_take (List.mem_of_mem_drop hx)
      have hall : ∀ x ∈ l.take h, (cellsA x).length = sz := fun x hx => hsz x (List.mem_of_mem_take hx)
      have hflat : flat ((l.take h).drop lo) = ((flat l).take (h * sz)).drop (lo * sz) := by rw [flat_drop hall, flat_take hsz]
      refine .slice _ _ b (off + lo * sz) (m - lo) sz (fun i => u (lo * sz + i)) (fun x hx => hsz x (hmem x hx)) (fun i hi => ?_) (fun i hi => ?_) ?_ (by rw [hlen]; omega)
      · rw [hflat] at hi
        rw [Nat.add_assoc]; exact q2 _ (by simp at hi; omega)
      · have hi' := hi
        rw [hflat] at hi'
        have hi2 : lo * sz + i < (flat l).length := by simp at hi'; omega
        have := q3 (lo * sz + i) hi2
        have e2 : (flat ((l.take h).drop lo))[i] = (flat l)[lo * sz + i] := by
          apply Option.some.inj
          rw [← List.getElem?_eq_getElem, ← List.getElem?_eq_getElem, hflat, List.getElem?_drop, List.getElem?_take, if_pos (by simp at hi'; omega)]
        rw [e2]; exact this
      · cases full with
        | true => have := hfull rfl; show m - lo = _; rw [hlen]; omega
        | false => trivial
theorem run_slcV {K : Gh} {a : Act} {t x lo hi mx e sz alo ahi amx} (hf : Fr K N env a) (ho : o.op = .slice t x lo hi mx) (hu : P.underlying t = some (.slice e)) (hsz : szOf P e = some sz)
    (hlo : trOpt lo = some alo) (hhi : trOpt hi = some ahi) (hmx : trOpt mx = some amx) {b len cap : Nat} (he : a.eval x = .slice (some ⟨b, 0, none⟩) len cap) (hl : len ≤ cap) (hm : alo.isSome = false ∧ amx.isSome = false)
    {Rn : Nat → Prop} (h : bnd env ahi len len Rn) (w : World) : ∃ hh, hh ≤ len ∧ Rn hh ∧ (execOp a.eval o).run P w = .ok (.value (.slice (some ⟨b, 0, none⟩) hh cap)) w := by
  obtain ⟨hh, h4, c1⟩ := bnd_run hf hhi h
  have hln : lo = none := by cases lo <;> cases alo <;> simp [trOpt] at hlo hm ⊢
  have hmn : mx = none := by cases mx <;> cases amx <;> simp [trOpt] at hmx hm ⊢
  subst hln hmn
  have hhl : hh ≤ len := by rcases c1 with ⟨_, rfl⟩ | ⟨k, n, _, n0, n1, rfl⟩ <;> omega
  have c1' : (hi = none ∧ hh = len) ∨ ∃ y k n, hi = some y ∧ a.eval y = .int k n ∧ 0 ≤ n ∧ n ≤ (len : Nat) ∧ hh = n.toNat := by
    rcases c1 with ⟨hn, e⟩ | ⟨k, n, hn, n0, n1, e⟩
    · left; cases hi <;> simp at hn; exact ⟨rfl, e⟩
    · right; cases hi <;> simp at hn; exact ⟨_, k, n, rfl, hn, n0, n1, e⟩
  have hsb : ∀ w : World, (Instr.sliceBounds true len cap none (hi.map a.eval) none).run P w = .ok (0, hh, cap) w := by
    intro w
    rcases c1' with ⟨rfl, rfl⟩ | ⟨y, k, n, rfl, ey, n0, n1, rfl⟩
    · simp [Instr.sliceBounds]
    · simp [Instr.sliceBounds, ey, run_sliceBound k n cap _ _ n0 (by omega)]
  refine ⟨hh, hhl, h4, ?_⟩
  simp only [execOp, ho, Sem.run_bind]
  rw [he]
  simp [Instr.sliceAt, Instr.slice, run_underlying' hu, hsb, run_sizeOf' hsz, Addr.add]
theorem ok_slc {t x lo hi mx e sz ax alo ahi amx} (ho : o.op = .slice t x lo hi mx) (hu : P.underlying t = some (.slice e)) (hsz : szOf P e = some sz) (hx : trOpnd x = some ax)
    (hlo : trOpt lo = some alo) (hhi : trOpt hi = some ahi) (hmx : trOpt mx = some amx) (h : exOpN nm env σ R (.slc sz ax alo ahi amx)) : OpOk P o N env σ nm R := by
  refine .still fun K a w hf hs => ?_
  obtain ⟨av, h1, h2⟩ := wth_some h
  have hr := trOpnd_rel hx h1 hf
  cases av <;> simp only [] at h2 <;> first | exact h2.elim | skip
  case vec ob len =>
    obtain ⟨b, cap, he, h3, h4⟩ := rel_vec hr
    obtain ⟨hh, k1, k2, k3⟩ := run_slcV hf ho hu hsz hlo hhi hmx he h4 h2.1 h2.2 w
    exact ⟨_, _, k3, .pre ob hh len b cap h3 k1 h4, k2⟩
  case pre ob len n =>
    obtain ⟨b, cap, he, h3, h4, h5⟩ := rel_pre hr
    obtain ⟨hh, k1, k2, k3⟩ := run_slcV hf ho hu hsz hlo hhi hmx he (by omega) h2.1 h2.2 w
    exact ⟨_, _, k3, .pre ob hh n b cap h3 (by omega) h5, k2⟩
  rename_i l tk
  obtain ⟨p1, h3⟩ := h2
  obtain ⟨hh, h4, c1⟩ := bnd_run hf hhi h3
  obtain ⟨ll, h5, c2⟩ := bnd_run hf hlo h4
  obtain ⟨a0, cap, he, hcap⟩ : ∃ a0 cap, a.eval x = .slice a0 l.length cap ∧ l.length ≤ cap := by
    rcases rel_slice hr with ⟨a', cap', he, rfl, _⟩ | ⟨b, off, cap', sz', u, he, q1, q2, q3, q4, q5⟩
    · exact ⟨a', cap', he, Nat.zero_le _⟩
    · exact ⟨_, cap', he, q5⟩
  have hhl : hh ≤ l.length := by rcases c1 with ⟨_, rfl⟩ | ⟨k, n, _, n0, n1, rfl⟩ <;> omega
  have hlh : ll ≤ hh := by rcases c2 with ⟨_, rfl⟩ | ⟨k, n, _, n0, n1, rfl⟩ <;> omega
  have c1' : (hi = none ∧ hh = l.length) ∨ ∃ y k n, hi = some y ∧ a.eval y = .int k n ∧ 0 ≤ n ∧ n ≤ (l.length : Nat) ∧ hh = n.toNat := by
    rcases c1 with ⟨hn, e⟩ | ⟨k, n, hn, n0, n1, e⟩
    · left; cases hi <;> simp at hn; exact ⟨rfl, e⟩
    · right; cases hi <;> simp at hn; exact ⟨_, k, n, rfl, hn, n0, n1, e⟩
  have c2' : (lo = none ∧ ll = 0) ∨ ∃ y k n, lo = some y ∧ a.eval y = .int k n ∧ 0 ≤ n ∧ n ≤ (hh : Nat) ∧ ll = n.toNat := by
    rcases c2 with ⟨hn, e⟩ | ⟨k, n, hn, n0, n1, e⟩
    · left; cases lo <;> simp at hn; exact ⟨rfl, e⟩
    · right; cases lo <;> simp at hn; exact ⟨_, k, n, rfl, hn, n0, n1, e⟩
  cases amx with
  | none =>
    have hmn : mx = none := by cases mx <;> simp [trOpt] at hmx; rfl
    subst hmn
    have hp := piece_rel hr p1 (lo := ll) (h := hh) (m := cap) hlh hhl (by omega) false (by simp) a0 _ cap he
    refine ⟨_, _, ?_, hp.2 (Nat.le_refl _), h5⟩
    have hsb : ∀ w : World, (Instr.sliceBounds true l.length cap (lo.map a.eval) (hi.map a.eval) none).run P w = .ok (ll, hh, cap) w := by
      intro w
      rcases c1' with ⟨rfl, rfl⟩ | ⟨y, k, n, rfl, ey, n0, n1, rfl⟩ <;> rcases c2' with ⟨rfl, rfl⟩ | ⟨y', k', n', rfl, ey', n0', n1', rfl⟩
      · simp [Instr.sliceBounds]
      · simp [Instr.sliceBounds, ey', run_sliceBound k' n' _ _ _ n0' n1']
      · simp [Instr.sliceBounds, ey, run_sliceBound k n cap _ _ n0 (by omega)]
      · simp [Instr.sliceBounds, ey, ey', run_sliceBound k n cap _ _ n0 (by omega), run_sliceBound k' n' _ _ _ n0' n1']
    simp only [execOp, ho, Sem.run_bind]
    rw [he]
    simp [Instr.sliceAt, Instr.slice, run_underlying' hu, hsb, run_sizeOf' hsz]
  | some am =>
    obtain ⟨k1, h6⟩ := h5
    obtain ⟨mv, h7, h8⟩ := wth_some h6
    cases mx with
    | none => simp [trOpt] at hmx
    | some mo =>
      simp only [trOpt, Option.map_some, Option.map_eq_some_iff] at hmx
      obtain ⟨am', hma, hmb⟩ := hmx
      obtain rfl : am' = am := by simpa using hmb
      have hrm := trOpnd_rel hma h7 hf
      cases mv <;> simp at h8
      rename_i k m
      obtain ⟨m1, m2⟩ := h8
      have em := rel_int hrm
      have hp := piece_rel hr p1 (lo := ll) (h := hh) (m := hh) hlh hhl (Nat.le_refl _) true (fun _ => rfl) a0 _ cap he
      refine ⟨_, _, ?_, hp.2 (by omega), m2⟩
      have hbm : ∀ w : World, (Instr.sliceBound (a.eval mo) cap .slice3Acap).run P w = .ok hh w := by
        intro w; rw [em, run_sliceBound k m cap _ w (by omega) (by omega)]
        congr 1; omega
      have hsb : ∀ w : World, (Instr.sliceBounds true l.length cap (lo.map a.eval) (hi.map a.eval) (some (a.eval mo))).run P w = .ok (ll, hh, hh) w := by
        intro w
        have e1 := hbm w
        rcases c1' with ⟨rfl, _⟩ | ⟨y, k, n, rfl, ey, n0, n1, e0⟩
        · simp [trOpt] at hhi; subst hhi; simp at k1
        · have e3 : (Instr.sliceBound (.int k n) hh .slice3B).run P w = .ok hh w := by
            rw [run_sliceBound k n hh _ w n0 (by omega)]; rw [← e0]
          rcases c2' with ⟨rfl, rfl⟩ | ⟨y', k', n', rfl, ey', n0', n1', rfl⟩
          · simp [Instr.sliceBounds, e1, ey, e3]
          · simp [Instr.sliceBounds, e1, ey, e3, ey', run_sliceBound k' n' _ _ _ n0' n1']
      simp only [execOp, ho, Sem.run_bind]
      rw [he]
      simp [Instr.sliceAt, Instr.slice, run_underlying' hu, hsb, run_sizeOf' hsz]
theorem ok_len {t x e ax} (ho : o.op = .call { callee := .builtin .len, args := #[x], argTypes := #[t] }) (hu : P.underlying t = some (.slice e)) (hx : trOpnd x = some ax)
    (h : exOpN nm env σ R (.len ax)) : OpOk P o N env σ nm R := by
  refine .still fun K a w hf hs => ?_
  obtain ⟨av, h1, h2⟩ := wth_some h
  have hr := trOpnd_rel hx h1 hf
  cases av <;> simp at h2
  case slice l tk =>
    obtain ⟨a0, cap, he⟩ : ∃ a0 cap, a.eval x = .slice a0 l.length cap := by
      rcases rel_slice hr with ⟨a', cap', he, rfl, _⟩ | ⟨b, off, cap', sz', u, he, _⟩
      · exact ⟨a', cap', he⟩
      · exact ⟨_, cap', he⟩
    exact ⟨_, _, by simp [execOp, ho, resolve, invoke, Go.builtin, Builtin.len_, he, run_underlying' hu, goInt] <;> rfl, .int _ _, h2⟩
  case vec ob n =>
    obtain ⟨b, cap, he, _⟩ := rel_vec hr
    exact ⟨_, _, by simp [execOp, ho, resolve, invoke, Go.builtin, Builtin.len_, he, run_underlying' hu, goInt] <;> rfl, .int _ _, h2⟩
  case pre ob len n =>
    obtain ⟨b, cap, he, _⟩ := rel_pre hr
    exact ⟨_, _, by simp [execOp, ho, resolve, invoke, Go.builtin, Builtin.len_, he, run_underlying' hu, goInt] <;> rfl, .int _ _, h2⟩
theorem ok_lenS {t x ax} (ho : o.op = .call { callee := .builtin .len, args := #[x], argTypes := #[t] }) (hu : P.underlying t = some .string) (hx : trOpnd x = some ax)
    (h : exOpN nm env σ R (.lenS ax)) : OpOk P o N env σ nm R := by
  refine .still fun K a w hf hs => ?_
  obtain ⟨av, h1, h2⟩ := wth_some h
  have hr := trOpnd_rel hx h1 hf
  cases av <;> simp at h2
  exact ⟨_, _, by simp [execOp, ho, resolve, invoke, Go.builtin, Builtin.len_, rel_str hr, run_underlying' hu, goInt] <;> rfl, .int _ _, h2⟩
theorem ok_lenA {t x n e} (ho : o.op = .call { callee := .builtin .len, args := #[x], argTypes := #[t] }) (hu : P.underlying t = some (.array n e))
    (h : exOpN nm env σ R (.mov (.c (.int .i64 n)))) : OpOk P o N env σ nm R := by
  refine .still fun K a w hf hs => ?_
  exact ⟨_, _, by simp [execOp, ho, resolve, invoke, Go.builtin, Builtin.len_, run_underlying' hu, goInt] <;> rfl, .int _ _, h⟩
theorem ok_cap {t x e ax} (ho : o.op = .call { callee := .builtin .cap, args := #[x], argTypes := #[t] }) (hu : P.underlying t = some (.slice e)) (hx : trOpnd x = some ax)
    (h : exOpN nm env σ R (.cap ax)) : OpOk P o N env σ nm R := by
  refine .still fun K a w hf hs => ?_
  obtain ⟨av, h1, h2⟩ := wth_some h
  have hr := trOpnd_rel hx h1 hf
  cases av <;> first | exact h2.elim | skip
  rename_i l tk
  cases tk with
  | no => exact h2.elim
  | own t => exact h2.elim
  | nil =>
    obtain ⟨a0, he⟩ : ∃ a0, a.eval x = .slice a0 l.length 0 := by
      rcases rel_slice hr with ⟨a', cap', he, rfl, ht⟩ | ⟨b, off, cap', sz', u, he, _, _, _, ht, _⟩
      · simp at ht; obtain ⟨rfl, rfl⟩ := ht; exact ⟨_, he⟩
      · exact ht.elim
    exact ⟨_, _, by simp [execOp, ho, resolve, invoke, Go.builtin, Builtin.cap_, he, run_underlying' hu, goInt] <;> rfl, .int _ _, h2⟩
  | full =>
    obtain ⟨a0, he⟩ : ∃ a0, a.eval x = .slice a0 l.length l.length := by
      rcases rel_slice hr with ⟨a', cap', he, rfl, ht⟩ | ⟨b, off, cap', sz', u, he, _, _, _, ht, _⟩
      · simp at ht; subst ht; exact ⟨_, he⟩
      · simp [TokOk] at ht; subst ht; exact ⟨_, he⟩
    exact ⟨_, _, by simp [execOp, ho, resolve, invoke, Go.builtin, Builtin.cap_, he, run_underlying' hu, goInt] <;> rfl, .int _ _, h2⟩
theorem minI_run {K : Gh} {avs : List AV} {vs : List Value} {r : Int} (hr : RelL K avs vs) (h : minI avs = some r) (w : World) : (Builtin.min_ #[] 0 vs.toArray).run P w = .ok (.int .i64 r) w := by
  unfold minI at h
  split at h <;> simp at h
  · subst h
    obtain ⟨v, q, rfl, h1, h2⟩ := hr.cons_inv
    obtain rfl : q = [] := by simpa using h2.1.symm
    simp [Builtin.min_, rel_int h1]
  · subst h
    obtain ⟨v, q, rfl, h1, h2⟩ := hr.cons_inv
    obtain ⟨v2, q2, rfl, h3, h4⟩ := h2.cons_inv
    obtain rfl : q2 = [] := by simpa using h4.1.symm
    simp [Builtin.min_, rel_int h1, rel_int h3, Builtin.min2]
  · subst h
    obtain ⟨v, q, rfl, h1, h2⟩ := hr.cons_inv
    obtain ⟨v2, q2, rfl, h3, h4⟩ := h2.cons_inv
    obtain ⟨v3, q3, rfl, h5, h6⟩ := h4.cons_inv
    obtain rfl : q3 = [] := by simpa using h6.1.symm
    simp [Builtin.min_, rel_int h1, rel_int h3, rel_int h5, Builtin.min2]
theorem maxI_run {K : Gh} {avs : List AV} {vs : List Value} {r : Int} (hr : RelL K avs vs) (h : maxI avs = some r) (w : World) : (Builtin.max_ #[] 0 vs.toArray).run P w = .ok (.int .i64 r) w := by
  unfold maxI at h
  split at h <;> simp at h
  · subst h
    obtain ⟨v, q, rfl, h1, h2⟩ := hr.cons_inv
    obtain rfl : q = [] := by simpa using h2.1.symm
    simp [Builtin.max_, rel_int h1]
  · subst h
    obtain ⟨v, q, rfl, h1, h2⟩ := hr.cons_inv
    obtain ⟨v2, q2, rfl, h3, h4⟩ := h2.cons_inv
    obtain rfl : q2 = [] := by simpa using h4.1.symm
    simp [Builtin.max_, rel_int h1, rel_int h3, Builtin.max2]
  · subst h
    obtain ⟨v, q, rfl, h1, h2⟩ := hr.cons_inv
    obtain ⟨v2, q2, rfl, h3, h4⟩ := h2.cons_inv
    obtain ⟨v3, q3, rfl, h5, h6⟩ := h4.cons_inv
    obtain rfl : q3 = [] := by simpa using h6.1.symm
    simp [Builtin.max_, rel_int h1, rel_int h3, rel_int h5, Builtin.max2]
theorem ok_min {args : Array Operand} {ats : Array TypeId} {axs} (ho : o.op = .call { callee := .builtin .min, args := args, argTypes := ats }) (hx : trOpnds args.toList = some axs) (h : exOpN nm env σ R (.min axs)) : OpOk P o N env σ nm R := by
  refine .still fun K a w hf hs => ?_
  obtain ⟨l, h1, h2⟩ := wthL_some h
  have hr := trOpnds_rel hf hx h1
  split at h2
  · rename_i r hm
    have hrun := minI_run (P := P) hr hm w
    refine ⟨_, _, ?_, .int _ _, h2⟩
    have e : Builtin.min_ ats o.type (args.map a.eval) = Builtin.min_ #[] 0 (args.toList.map a.eval).toArray := by simp [Builtin.min_]
    simp only [execOp, ho, resolve, invoke, Go.builtin, e, Sem.run_bind, Sem.run_pure, Result.andThen_ok, hrun]
  · exact h2.elim
theorem ok_max {args : Array Operand} {ats : Array TypeId} {axs} (ho : o.op = .call { callee := .builtin .max, args := args, argTypes := ats }) (hx : trOpnds args.toList = some axs) (h : exOpN nm env σ R (.max axs)) : OpOk P o N env σ nm R := by
  refine .still fun K a w hf hs => ?_
  obtain ⟨l, h1, h2⟩ := wthL_some h
  have hr := trOpnds_rel hf hx h1
  split at h2
  · rename_i r hm
    have hrun := maxI_run (P := P) hr hm w
    refine ⟨_, _, ?_, .int _ _, h2⟩
    have e : Builtin.max_ ats o.type (args.map a.eval) = Builtin.max_ #[] 0 (args.toList.map a.eval).toArray := by simp [Builtin.max_]
    simp only [execOp, ho, resolve, invoke, Go.builtin, e, Sem.run_bind, Sem.run_pure, Result.andThen_ok, hrun]
  · exact h2.elim

/-! ### Structs and arrays -/
theorem fold_put : ∀ (xs : List Value) (k off : Nat) (cs : Array Value), off + k + xs.length ≤ cs.size →
    ((xs.zipIdx k).foldl (fun cs (c, j) => cs.setIfInBounds (off + j) c) cs).toList = cs.toList.take (off + k) ++ xs ++ cs.toList.drop (off + k + xs.length)
  | [], k, off, cs, _ => by simp
  | x :: xs, k, off, cs, h => by
    simp only [List.zipIdx_cons, List.foldl_cons]
    rw [fold_put xs (k + 1) off _ (by simp at h ⊢; omega)]
    have hk : off + k < cs.toList.length := by simp at h ⊢; omega
    rw [Array.toList_setIfInBounds]
    have e := list_seg_step cs.toList (off + k) x xs (by simp at h ⊢; omega)
    simpa [Nat.add_assoc] using e
theorem fold_put' (v : Value) (off : Nat) (cs : Array Value) (h : off + v.cells.size ≤ cs.size) :
    (v.cells.zipIdx.foldl (fun cs (c, j) => cs.setIfInBounds (off + j) c) cs).toList = cs.toList.take off ++ v.cells.toList ++ cs.toList.drop (off + v.cells.toList.length) := by
  rw [← Array.foldl_toList, Array.toList_zipIdx]
  exact fold_put v.cells.toList 0 off cs (by simpa using h)
theorem fill_rel {K : Gh} {a : Act} (hf : Fr K N env a) (place : Nat → Option (Nat × Nat)) : ∀ (parts : List (Nat × Operand)) (aps : List (Nat × Nat × AOpnd)) (cs cs' : List AV) (cells : Array Value),
    parts.length = aps.length → (∀ (k i : Nat) (x : Operand) (off n : Nat) (ax : AOpnd), parts[k]? = some (i, x) → aps[k]? = some (off, n, ax) → place i = some (off, n) ∧ trOpnd x = some ax) →
    RelL K cs cells.toList → fillA env cs aps = some cs' → ∃ cells', Instr.fill place cells (parts.map fun (i, x) => (i, a.eval x)) = some cells' ∧ RelL K cs' cells'.toList
  | [], aps, cs, cs', cells, hl, _, hr, h => by
    have : aps = [] := by cases aps <;> simp at hl; rfl
    subst this
    simp [fillA] at h; subst h
    exact ⟨cells, rfl, hr⟩
  | (i, x) :: parts, aps, cs, cs', cells, hl, hp, hr, h => by
    cases aps with
    | nil => simp at hl
    | cons p aps =>
      obtain ⟨off, n, ax⟩ := p
      obtain ⟨h1, h2⟩ := hp 0 i x off n ax rfl rfl
      simp only [fillA] at h
      split at h
      · rename_i av hav
        split at h
        · rename_i hc
          obtain ⟨hc1, hc2⟩ := hc
          have rv := (trOpnd_rel h2 hav hf).cells
          have hsz : (a.eval x).cells.size = n := by have := rv.1; simp at this; omega
          have hcs : cs.length = cells.size := by simpa using hr.1
          have hput := fold_put' (a.eval x) off cells (by omega)
          have hr' : RelL K (putAt cs off (cellsA av)) ((a.eval x).cells.zipIdx.foldl (fun cs (c, j) => cs.setIfInBounds (off + j) c) cells).toList := by
            rw [hput]; exact hr.putAt rv off
          obtain ⟨cells', e1, e2⟩ := fill_rel hf place parts aps _ cs' _ (by simpa using hl) (fun k i x off n ax hk1 hk2 => hp (k + 1) i x off n ax (by simpa using hk1) (by simpa using hk2)) hr' h
          refine ⟨cells', ?_, e2⟩
          simp only [List.map_cons, Instr.fill, h1]
          rw [if_neg (by simp [hsz]; omega)]
          exact e1
        · simp at h
      · simp at h
theorem trFields_spec {fs : Array Field} : ∀ {ps : List (Nat × Operand)} {aps}, trFields P fs ps = some aps → ps.length = aps.length ∧ ∀ (k i : Nat) (x : Operand) (off n : Nat) (ax : AOpnd), ps[k]? = some (i, x) → aps[k]? = some (off, n, ax) →
    ∃ f, fs[i]? = some f ∧ f.offset = off ∧ szOf P f.type = some n ∧ trOpnd x = some ax
  | [], aps, h => by simp [trFields] at h; subst h; simp
  | (i, x) :: r, aps, h => by
    simp only [trFields] at h
    split at h <;> try (simp at h; done)
    rename_i f a l h1 h2 h3
    split at h <;> simp at h
    rename_i n hn
    subst h
    obtain ⟨k1, k2⟩ := trFields_spec h3
    refine ⟨by simp [k1], fun k i' x' off n' ax e1 e2 => ?_⟩
    cases k with
    | zero => simp at e1 e2; obtain ⟨rfl, rfl⟩ := e1; obtain ⟨rfl, rfl, rfl⟩ := e2; exact ⟨f, h1, rfl, hn, h2⟩
    | succ k => exact k2 k i' x' off n' ax (by simpa using e1) (by simpa using e2)
theorem trElems_spec {sz : Nat} : ∀ {ps : List (Nat × Operand)} {aps}, trElems sz ps = some aps → ps.length = aps.length ∧ ∀ (k i : Nat) (x : Operand) (off n : Nat) (ax : AOpnd), ps[k]? = some (i, x) → aps[k]? = some (off, n, ax) →
    off = i * sz ∧ n = sz ∧ trOpnd x = some ax
  | [], aps, h => by simp [trElems] at h; subst h; simp
  | (i, x) :: r, aps, h => by
    simp only [trElems] at h
    split at h <;> simp at h
    rename_i a l h2 h3
    subst h
    obtain ⟨k1, k2⟩ := trElems_spec h3
    refine ⟨by simp [k1], fun k i' x' off n' ax e1 e2 => ?_⟩
    cases k with
    | zero => simp at e1 e2; obtain ⟨rfl, rfl⟩ := e1; obtain ⟨rfl, rfl, rfl⟩ := e2; exact ⟨rfl, rfl, h2⟩
    | succ k => exact k2 k i' x' off n' ax (by simpa using e1) (by simpa using e2)
theorem run_places' {w : World} {fs : Array Field} (h : fs.toList.all (fun f => (szOf P f.type).isSome) = true) :
    (fs.mapM fun f => do pure (f.offset, ← Go.sizeOf f.type) : Sem (Array (Nat × Nat))).run P w = .ok (fs.map fun f => (f.offset, (szOf P f.type).getD 0)) w := by
  rw [Array.mapM_eq_mapM_toList]
  have key : ∀ l : List Field, l.all (fun f => (szOf P f.type).isSome) = true → (l.mapM fun f => do pure (f.offset, ← Go.sizeOf f.type) : Sem (List (Nat × Nat))).run P w = .ok (l.map fun f => (f.offset, (szOf P f.type).getD 0)) w := by
    intro l
    induction l with
    | nil => intro _; rfl
    | cons f l ih =>
      intro hl
      simp only [List.all_cons, Bool.and_eq_true] at hl
      obtain ⟨n, hn⟩ := Option.isSome_iff_exists.1 hl.1
      have := ih hl.2
      simp only [List.mapM_cons, Sem.run_bind, run_sizeOf' hn, Result.andThen_ok, Sem.run_pure, this, List.map_cons, hn, Option.getD_some]
  simp only [Sem.run_map]
  rw [key _ h]
  simp
  exact Array.ext' (by simp)
theorem ok_buildS {t ps fs z aps} (ho : o.op = .build t ps) (hu : P.underlying t = some (.struct fs)) (hz : zeroOf P t = some z) (hall : fs.toList.all (fun f => (szOf P f.type).isSome) = true)
    (hps : trFields P fs ps.toList = some aps) (h : exOpN nm env σ R (.build z aps)) : OpOk P o N env σ nm R := by
  refine .still fun K a w hf hs => ?_
  simp only [exOpN, exOpG] at h
  split at h
  · rename_i cs hcs
    obtain ⟨v, h1, h2, _⟩ := run_zeroValue' (K := K) hz w
    obtain ⟨k1, k2⟩ := trFields_spec hps
    obtain ⟨cells', e1, e2⟩ := fill_rel hf (fun i => ((fs.map fun f => (f.offset, (szOf P f.type).getD 0)))[i]?) ps.toList aps z cs v.cells k1 (fun k i x off n ax q1 q2 => by
      obtain ⟨f, f1, f2, f3, f4⟩ := k2 k i x off n ax q1 q2
      exact ⟨by simp [f1, f2, f3], f4⟩) h2 hcs
    refine ⟨.agg cs, .agg cells', ?_, .aggL e2, h⟩
    have e3 : (ps.map fun (i, x) => (i, a.eval x)).toList = ps.toList.map fun (i, x) => (i, a.eval x) := by simp
    simp only [execOp, ho, Instr.build, Sem.run_bind, h1, Result.andThen_ok, run_underlying' hu, run_places' hall, e3, e1]
    rfl
  · exact h.elim
theorem ok_buildA {t ps n e sz z aps} (ho : o.op = .build t ps) (hu : P.underlying t = some (.array n e)) (hz : zeroOf P t = some z) (hsz : szOf P e = some sz)
    (hps : trElems sz ps.toList = some aps) (h : exOpN nm env σ R (.build z aps)) : OpOk P o N env σ nm R := by
  refine .still fun K a w hf hs => ?_
  simp only [exOpN, exOpG] at h
  split at h
  · rename_i cs hcs
    obtain ⟨v, h1, h2, _⟩ := run_zeroValue' (K := K) hz w
    obtain ⟨k1, k2⟩ := trElems_spec hps
    obtain ⟨cells', e1, e2⟩ := fill_rel hf (fun i => some (i * sz, sz)) ps.toList aps z cs v.cells k1 (fun k i x off n ax q1 q2 => by
      obtain ⟨f1, f2, f3⟩ := k2 k i x off n ax q1 q2
      exact ⟨by simp [f1, f2], f3⟩) h2 hcs
    refine ⟨.agg cs, .agg cells', ?_, .aggL e2, h⟩
    have e3 : (ps.map fun (i, x) => (i, a.eval x)).toList = ps.toList.map fun (i, x) => (i, a.eval x) := by simp
    simp only [execOp, ho, Instr.build, Sem.run_bind, h1, Result.andThen_ok, run_underlying' hu, run_sizeOf' hsz, e3, e1]
    rfl
  · exact h.elim
end ops
end Abs

