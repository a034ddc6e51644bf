/- The abstraction layer, part C: how the ghost state follows the world (new blocks, stores). General lemmas over any program. -/
import Derived.Test.YtapnlmhfacoceaaAbsB
import Derived.Laws.Rows
import Derived.Laws.CopyRow
set_option linter.unusedSimpArgs false
set_option linter.unusedVariables false
namespace Abs
open Go

structure Fr (K : Gh) (N : Nat) (env : Env) (a : Act) : Prop where
  size : a.tmps.size = N
  defers : a.defers = K.ds
  rel : ∀ i av, lk env i = some av → ∃ v, a.tmps[i]? = some v ∧ Rel K av v

theorem Fr.mono {K K' : Gh} (hK : K.le K') {N env a} (h : Fr K N env a) : Fr K' N env a :=
  ⟨h.size, h.defers.trans hK.ds.symm, fun i av e => let ⟨v, e1, r⟩ := h.rel i av e; ⟨v, e1, r.mono hK⟩⟩

theorem Fr.put {K : Gh} {N env a} (h : Fr K N env a) {d : Nat} (hd : d < N) {av v} (hr : Rel K av v) : Fr K N ((d, some av) :: env) (a.put (some d) v) := by
  refine ⟨by simp [Act.put, h.size], by simp [Act.put, h.defers], fun i x e => ?_⟩
  simp only [lk] at e
  by_cases hi : i = d
  · subst hi
    simp at e; subst e
    exact ⟨v, by simp [Act.put, h.size, hd], hr⟩
  · simp only [hi, if_false] at e
    obtain ⟨u, e1, r⟩ := h.rel i x e
    refine ⟨u, ?_, r⟩
    simp only [Act.put]
    rw [Array.getElem?_setIfInBounds_ne (by omega)]; exact e1

theorem Fr.skip {K : Gh} {N env a} (h : Fr K N env a) {d : Nat} {v} : Fr K N ((d, none) :: env) (a.put (some d) v) := by
  refine ⟨by simp [Act.put, h.size], by simp [Act.put, h.defers], fun i x e => ?_⟩
  simp only [lk] at e
  by_cases hi : i = d
  · simp [hi] at e
  · simp only [hi, if_false] at e
    obtain ⟨u, e1, r⟩ := h.rel i x e
    refine ⟨u, ?_, r⟩
    simp only [Act.put]
    rw [Array.getElem?_setIfInBounds_ne (by omega)]; exact e1

theorem RelL.get {K cs vs} (h : RelL K cs vs) (i : Nat) (hi : i < cs.length) : ∃ v, vs[i]? = some v ∧ Rel K cs[i] v :=
  ⟨vs[i]'(h.1 ▸ hi), by rw [List.getElem?_eq_getElem], h.2 i hi (h.1 ▸ hi)⟩

theorem RelL.nil {K} : RelL K [] [] := ⟨rfl, fun i h => by simp at h⟩
theorem RelL.cons {K a v cs vs} (h : Rel K a v) (hs : RelL K cs vs) : RelL K (a :: cs) (v :: vs) :=
  ⟨by simp [hs.1], fun i h1 h2 => by
    cases i with
    | zero => exact h
    | succ i => exact hs.2 i (by simpa using h1) (by simpa using h2)⟩
theorem RelL.cons_inv {K a cs vs} (h : RelL K (a :: cs) vs) : ∃ v r, vs = v :: r ∧ Rel K a v ∧ RelL K cs r := by
  cases vs with
  | nil => simp [RelL] at h
  | cons v r =>
    refine ⟨v, r, rfl, h.2 0 (by simp) (by simp), by simpa using h.1, fun i h1 h2 => ?_⟩
    exact h.2 (i + 1) (by simpa using h1) (by simpa using h2)
theorem RelL.append {K cs vs ds us} (h : RelL K cs vs) (h' : RelL K ds us) : RelL K (cs ++ ds) (vs ++ us) :=
  ⟨by simp [h.1, h'.1], fun i h1 h2 => by
    rw [List.getElem_append, List.getElem_append]
    by_cases hi : i < cs.length
    · have : i < vs.length := h.1 ▸ hi
      simp only [hi, this, dite_true]; exact h.2 i hi this
    · have : ¬ i < vs.length := h.1 ▸ hi
      simp only [hi, this, dite_false]
      have e : i - cs.length = i - vs.length := by rw [h.1]
      have h3 : i - cs.length < ds.length := by simp at h1; omega
      have := h'.2 (i - cs.length) h3 (by rw [← h'.1]; exact h3)
      simp only [e] at this ⊢
      exact this⟩
theorem RelL.take {K cs vs} (h : RelL K cs vs) (n : Nat) : RelL K (cs.take n) (vs.take n) :=
  ⟨by simp [h.1], fun i h1 h2 => by simp only [List.getElem_take]; exact h.2 i (by simp at h1; omega) (by simp at h2; omega)⟩
theorem RelL.drop {K cs vs} (h : RelL K cs vs) (n : Nat) : RelL K (cs.drop n) (vs.drop n) :=
  ⟨by simp [h.1], fun i h1 h2 => by simp only [List.getElem_drop]; exact h.2 (n + i) (by simp at h1; omega) (by simp at h2; omega)⟩
theorem RelL.putAt {K cs vs xs us} (h : RelL K cs vs) (h' : RelL K xs us) (off : Nat) : RelL K (putAt cs off xs) (vs.take off ++ us ++ vs.drop (off + us.length)) := by
  unfold Abs.putAt; rw [h'.1]; exact ((h.take off).append h').append (h.drop _)

theorem Rel.cells {K a v} (h : Rel K a v) : RelL K (cellsA a) v.cells.toList := by
  cases h with
  | agg cs vs hs hr => exact ⟨by simpa [cellsA, Value.cells] using hs, fun i h1 h2 => by
      have h3 : i < vs.size := by simpa [Value.cells] using h2
      have h4 := hr i h1 h3
      show Rel K cs[i] (vs.toList[i]'(by simpa using h3))
      rw [Array.getElem_toList]; exact h4⟩
  | int k n => exact .cons (.int k n) .nil
  | bool b => exact .cons (.bool b) .nil
  | str s => exact .cons (.str s) .nil
  | nilp => exact .cons .nilp .nil
  | ptr o off e h hk => exact .cons (.ptr o off e h hk) .nil
  | cptr cs b off v hc hr => exact .cons (.cptr cs b off v hc hr) .nil
  | sl0 a cap t ht => exact .cons (.sl0 a cap t ht) .nil
  | slice l t b off cap sz v hsz hc hr ht hcap => exact .cons (.slice l t b off cap sz v hsz hc hr ht hcap) .nil
  | vec o len b cap h hl => exact .cons (.vec o len b cap h hl) .nil
  | eptr o n off b cap h => exact .cons (.eptr o n off b cap h) .nil
  | pre o len n b cap h h1 hl => exact .cons (.pre o len n b cap h h1 hl) .nil
  | raw o len b cap sz h hl => exact .cons (.raw o len b cap sz h hl) .nil
  | tup cs vs hs hr => exact .cons (.tup cs vs hs hr) .nil
  | map o r h => exact .cons (.map o r h) .nil
  | nilmap => exact .cons .nilmap .nil
  | fn f first caps fs cs h1 h2 r1 r2 => exact .cons (.fn f first caps fs cs h1 h2 r1 r2) .nil
  | nilfn => exact .cons .nilfn .nil
  | iface t a v h => exact .cons (.iface t a v h) .nil
  | nili => exact .cons .nili .nil

theorem Rel.aggL {K cs} {vs : Array Value} (h : RelL K cs vs.toList) : Rel K (.agg cs) (.agg vs) :=
  .agg cs vs (by simpa using h.1) (fun i h1 h2 => by have := h.2 i h1 (by simpa using h2); rwa [Array.getElem_toList] at this)
theorem Rel.tupL {K cs} {vs : Array Value} (h : RelL K cs vs.toList) : Rel K (.tup cs) (.tuple vs) :=
  .tup cs vs (by simpa using h.1) (fun i h1 h2 => by have := h.2 i h1 (by simpa using h2); rwa [Array.getElem_toList] at this)

theorem Rel.oneCell {K a v} (h : Rel K a v) (ha : oneA a = true) : v.oneCell' = true := by
  cases h <;> first | rfl | (simp [oneA] at ha)

/-! ### The constants -/

theorem ofFlat_rel {K v a} (h : ofFlat v = some a) : Rel K a v := by
  unfold ofFlat at h
  split at h <;> simp at h <;> subst h
  · exact .int _ _
  · exact .bool _
  · exact .str _
  · exact .nilp
  · exact .sl0 none 0 .nil (by simp)
  · exact .nilmap
  · exact .nilfn
  · exact .nili

theorem ofFlats_rel {K} : ∀ {vs : List Value} {cs}, ofFlats vs = some cs → RelL K cs vs
  | [], cs, h => by simp [ofFlats] at h; subst h; exact .nil
  | v :: r, cs, h => by
    simp only [ofFlats] at h
    split at h <;> simp at h
    rename_i a l h1 h2
    subst h
    exact .cons (ofFlat_rel h1) (ofFlats_rel h2)

theorem ofValue_rel {K v a} (h : ofValue v = some a) : Rel K a v := by
  unfold ofValue at h
  split at h
  · simp only [Option.map_eq_some_iff] at h
    obtain ⟨cs, h1, rfl⟩ := h
    exact .aggL (ofFlats_rel h1)
  · exact ofFlat_rel h

theorem trOpnd_rel {K N env a x ax av} (h : trOpnd x = some ax) (hv : aval env ax = some av) (hf : Fr K N env a) : Rel K av (a.eval x) := by
  cases x with
  | tmp t =>
    simp [trOpnd] at h; subst h
    obtain ⟨v, e, r⟩ := hf.rel t av hv
    simpa [Act.eval, Array.getD_eq_getD_getElem?, e] using r
  | const v =>
    simp only [trOpnd, Option.map_eq_some_iff] at h
    obtain ⟨b, h1, rfl⟩ := h
    simp [aval] at hv; subst hv
    exact ofValue_rel h1
  | global g => simp [trOpnd] at h
  | func f =>
    simp [trOpnd] at h; subst h
    simp [aval] at hv; subst hv
    exact .fn f [] [] #[] #[] rfl rfl (fun i h => by simp at h) (fun i h => by simp at h)

theorem trOpnds_rel {K N env a} (hf : Fr K N env a) : ∀ {xs : List Operand} {axs avs}, trOpnds xs = some axs → avals env axs = some avs → RelL K avs (xs.map a.eval)
  | [], axs, avs, h, hv => by
    simp [trOpnds] at h; subst h
    simp [avals] at hv; subst hv
    exact .nil
  | x :: r, axs, avs, h, hv => by
    simp only [trOpnds] at h
    split at h <;> simp at h
    rename_i b l h1 h2
    subst h
    simp only [avals] at hv
    split at hv <;> simp at hv
    rename_i c m h3 h4
    subst hv
    exact .cons (trOpnd_rel h1 h3 hf) (trOpnds_rel hf h2 h4)

/-! ### The ghost state follows the world -/

structure Gh.leS (S : Nat → Prop) (K K' : Gh) : Prop where
  le : K.le K'
  free : ∀ o, S o → K.own o = none → K'.own o = none

theorem Gh.leS.refl {S : Nat → Prop} (K : Gh) : K.leS S K := ⟨Gh.le.refl K, fun _ _ h => h⟩
theorem Gh.leS.trans {S : Nat → Prop} {K K' K'' : Gh} (h : K.leS S K') (h' : K'.leS S K'') : K.leS S K'' := ⟨h.le.trans h'.le, fun o hs hn => h'.free o hs (h.free o hs hn)⟩
theorem Gh.leS.weak {S S' : Nat → Prop} {K K' : Gh} (h : K.leS S K') (hs : ∀ o, S' o → S o) : K.leS S' K' := ⟨h.le, fun o h1 h2 => h.free o (hs o h1) h2⟩
theorem Gh.leS_own {S : Nat → Prop} {K K' : Gh} (h : K.le K') (ho : K'.own = K.own) : K.leS S K' := ⟨h, fun o _ hn => by rw [ho]; exact hn⟩

def Bnd (S : Nat → Prop) : Prop := ∃ n, ∀ o, n ≤ o → ¬ S o


theorem ObjSat.keep {K K' : Gh} {w w' : World} {e x} (h : ObjSat K w e x) (hK : K.le K') (hh : e.real = true → w'.heap[e.blk]? = w.heap[e.blk]?)
    (hc : e.real = true → ∀ i, K'.claim e.blk i = K.claim e.blk i) : ObjSat K' w' e x := by
  cases e <;> cases x <;> simp only [ObjSat, Own.blk, Own.real, forall_const] at h hh hc ⊢
  case virt.grow => exact h
  case virt.virt => exact h
  case full.grow => exact h
  case obj.cells b cs =>
    obtain ⟨h1, ⟨c, el, h2, h3⟩, h4⟩ := h
    exact ⟨by rw [hK.base]; exact h1, ⟨c, el, by rw [hh]; exact h2, h3.mono hK⟩, fun i => by rw [hc]; exact h4 i⟩
  case vec.vec b cap sz n sz' n' cs =>
    obtain ⟨h0, h00, h01, h02, h1, ⟨c, el, h2, h3, h6⟩, h4⟩ := h
    exact ⟨h0, h00, h01, h02, by rw [hK.base]; exact h1, ⟨c, el, by rw [hh]; exact h2, h3, fun i a b => ⟨(h6 i a b).1.mono hK, (h6 i a b).2⟩⟩, fun i => by rw [hc]; exact h4 i⟩
  case buf.grow b cap sz n sz' n' =>
    obtain ⟨h0, h00, h000, h1, ⟨c, el, h2, h3⟩, h4⟩ := h
    exact ⟨h0, h00, h000, by rw [hK.base]; exact h1, ⟨c, el, by rw [hh]; exact h2, h3⟩, fun i a => by rw [hc]; exact h4 i a⟩
  case map.map r d m =>
    obtain ⟨h1, es, clock, h2, h3, h4, h5⟩ := h
    exact ⟨by rw [hK.base]; exact h1, es, clock, by rw [hh]; exact h2, h3, fun i a b => ⟨(h4 i a b).1.mono hK, (h4 i a b).2.mono hK⟩, h5⟩
  case iter.iter r m n seen =>
    obtain ⟨h1, ⟨rm, h2, h3⟩, h4⟩ := h
    obtain ⟨x', e', l⟩ := hK.own m _ h2
    simp only [Own.le] at l
    exact ⟨by rw [hK.base]; exact h1, ⟨rm, l ▸ e', by rw [hh]; exact h3⟩, fun i => by rw [hc]; exact h4 i⟩

theorem ObjSat.blk_lt {K w e x} (h : ObjSat K w e x) (hr : e.real = true) : e.blk < w.heap.size := by
  have key : ∀ {b : Nat} {o : Obj}, w.heap[b]? = some o → b < w.heap.size := fun {b o} e => by
    rcases Nat.lt_or_ge b w.heap.size with h | h
    · exact h
    · simp [Array.getElem?_eq_none h] at e
  cases e <;> cases x <;> simp only [ObjSat, Own.blk, Own.real, Bool.false_eq_true] at h hr ⊢
  · obtain ⟨_, ⟨c, el, h2, _⟩, _⟩ := h; exact key h2
  · obtain ⟨_, _, _, _, _, ⟨c, el, h2, _⟩, _⟩ := h; exact key h2
  · obtain ⟨_, _, _, _, ⟨c, el, h2, _⟩, _⟩ := h; exact key h2
  · obtain ⟨_, es, clock, h2, _⟩ := h; exact key h2
  · obtain ⟨_, ⟨rm, _, h2⟩, _⟩ := h; exact key h2

theorem ObjSat.base_le {K w e x} (h : ObjSat K w e x) (hr : e.real = true) : K.base.heap.size ≤ e.blk := by
  cases e <;> cases x <;> simp only [ObjSat, Own.blk, Own.real, Bool.false_eq_true] at h hr ⊢
  · exact h.1
  · exact h.2.2.2.2.1
  · exact h.2.2.2.1
  · exact h.1
  · exact h.1

theorem cell_lt {w : World} {b o : Nat} {v : Value} (h : w.cell? ⟨b, o, none⟩ = some v) : b < w.heap.size := block_lt_of_cell h

theorem Sat.claim_lt {K σ w} (h : Sat K σ w) {b o v} (e : K.claim b o = some v) : b < w.heap.size := cell_lt (h.claim b o v e)

theorem Sat.fresh {K σ w} (h : Sat K σ w) {o : Nat} (ho : K.own o = none) : σ o = none := by
  cases hs : σ o with
  | none => rfl
  | some x => obtain ⟨e, h1, _⟩ := h.live o x hs; simp [ho] at h1

theorem heap_push_old (w : World) (ob : Obj) (i : Nat) (h : i < w.heap.size) : ({ w with heap := w.heap.push ob } : World).heap[i]? = w.heap[i]? :=
  heap_alloc_old w ob i h
theorem heap_push_new (w : World) (ob : Obj) : ({ w with heap := w.heap.push ob } : World).heap[w.heap.size]? = some ob := heap_alloc_new w ob

theorem cell_of_heap {w w' : World} {b o : Nat} (h : w'.heap[b]? = w.heap[b]?) : w'.cell? ⟨b, o, none⟩ = w.cell? ⟨b, o, none⟩ := by
  simp [World.cell?, h]
theorem frozen_of_heap {w w' : World} {b o : Nat} (h : w'.heap[b]? = w.heap[b]?) : w'.frozen? ⟨b, o, none⟩ = w.frozen? ⟨b, o, none⟩ := by
  simp [World.frozen?, h]

def Gh.claimed (K : Gh) (b : Nat) (cl : Nat → Option Value) : Gh := { K with claim := fun b' i => if b' = b then cl i else K.claim b' i }
def Gh.named (K : Gh) (o : Nat) (e : Own) : Gh := { K with own := fun i => if i = o then some e else K.own i }

theorem Gh.le_claimed {K : Gh} {b cl} (h : ∀ i v, K.claim b i = some v → cl i = some v) : K.le (K.claimed b cl) :=
  ⟨rfl, fun b' i v e => by
    simp only [Gh.claimed]
    split
    · rename_i hb; subst hb; exact h i v e
    · exact e, fun o x e => ⟨x, e, Own.le_refl x⟩, rfl⟩

theorem Gh.le_named {K : Gh} {o e} (h : K.own o = none) : K.le (K.named o e) :=
  ⟨rfl, fun _ _ _ e => e, fun o' x e' => ⟨x, by
    simp only [Gh.named]
    split
    · rename_i hb; subst hb; simp [h] at e'
    · exact e', Own.le_refl x⟩, rfl⟩

structure Pushed (w w' : World) (ob : Obj) : Prop where
  os : w'.os = w.os
  tape : w'.tape = w.tape
  output : w'.output = w.output
  heap : w'.heap = w.heap.push ob

theorem Pushed.old {w w' ob} (h : Pushed w w' ob) (i : Nat) (hi : i < w.heap.size) : w'.heap[i]? = w.heap[i]? := by
  rw [h.heap, Array.getElem?_push, if_neg (by omega)]
theorem Pushed.new {w w' ob} (h : Pushed w w' ob) : w'.heap[w.heap.size]? = some ob := by
  rw [h.heap]; simp

def Obj.loose : Obj → Prop
  | .cells _ _ f => f = (0, 0)
  | _ => True

theorem frozen_loose {w : World} {b o : Nat} {ob : Obj} (h : w.heap[b]? = some ob) (hl : Obj.loose ob) : w.frozen? ⟨b, o, none⟩ = false := by
  cases ob <;> simp [World.frozen?, h]
  simp only [Obj.loose] at hl
  subst hl
  simp

theorem Sat.push {K σ w w' ob} (h : Sat K σ w) (hp : Pushed w w' ob) (hl : Obj.loose ob) (cl : Nat → Option Value)
    (hcl : ∀ i v, cl i = some v → w'.cell? ⟨w.heap.size, i, none⟩ = some v ∧ v.oneCell' = true) : K.le (K.claimed w.heap.size cl) ∧ Sat (K.claimed w.heap.size cl) σ w' := by
  have hnone : ∀ i, K.claim w.heap.size i = none := fun i => by
    cases e : K.claim w.heap.size i with
    | none => rfl
    | some v => exact absurd (h.claim_lt e) (Nat.lt_irrefl _)
  have hle : K.le (K.claimed w.heap.size cl) := Gh.le_claimed (fun i v e => by simp [hnone] at e)
  have hsz : w'.heap.size = w.heap.size + 1 := by rw [hp.heap]; simp
  refine ⟨hle, ⟨hp.os.trans h.os, hp.tape.trans h.tape, hp.output.trans h.output, by show K.base.heap.size ≤ _; have := h.size; omega, fun b hb => ?_, fun b o hb => ?_, fun b o v e => ?_, fun b o v e => ?_, fun o x e => ?_, h.apart, h.room⟩⟩
  · rw [hp.old b (Nat.lt_of_lt_of_le hb h.size)]; exact h.old b hb
  · rcases Nat.lt_trichotomy b w.heap.size with hlt | heq | hgt
    · rw [frozen_of_heap (hp.old b hlt)]; exact h.free b o hb
    · subst heq; exact frozen_loose hp.new hl
    · have : w'.heap[b]? = none := by simp; omega
      simp [World.frozen?, this]
  · simp only [Gh.claimed] at e
    split at e
    · rename_i hb; subst hb; exact (hcl o v e).1
    · rw [cell_of_heap (hp.old b (h.claim_lt e))]; exact h.claim b o v e
  · simp only [Gh.claimed] at e
    split at e
    · exact (hcl o v e).2
    · exact h.one b o v e
  · obtain ⟨e', h1, h2⟩ := h.live o x e
    refine ⟨e', h1, h2.keep hle (fun hr => hp.old _ (h2.blk_lt hr)) (fun hr i => ?_)⟩
    simp only [Gh.claimed]
    rw [if_neg (Nat.ne_of_lt (h2.blk_lt hr))]

theorem Sat.name {K σ w} (h : Sat K σ w) {o : Nat} (ho : K.own o = none) (e : Own) (x : AObj) (hx : ObjSat K w e x)
    (hb : ∀ o' x' e', σ o' = some x' → K.own o' = some e' → e'.real = true → e.real = true → e'.blk ≠ e.blk) : K.le (K.named o e) ∧ Sat (K.named o e) (upd σ o x) w := by
  have hle : K.le (K.named o e) := Gh.le_named ho
  refine ⟨hle, ⟨h.os, h.tape, h.output, h.size, h.old, h.free, h.claim, h.one, fun o' x' e' => ?_, ?_, ?_⟩⟩
  · simp only [upd] at e'
    by_cases hi : o' = o
    · subst hi
      simp at e'; subst e'
      exact ⟨e, by simp [Gh.named], hx.keep hle (fun _ => rfl) (fun _ _ => rfl)⟩
    · simp only [hi, if_false] at e'
      obtain ⟨e'', h1, h2⟩ := h.live o' x' e'
      exact ⟨e'', by simp [Gh.named, hi, h1], h2.keep hle (fun _ => rfl) (fun _ _ => rfl)⟩
  · intro o1 o2 x1 x2 e1 e2 h1 h2 hne k1 k2
    simp only [upd, Gh.named] at h1 h2 k1 k2
    by_cases i1 : o1 = o
    · by_cases i2 : o2 = o
      · exact absurd (i1.trans i2.symm) hne
      · simp only [i1, i2, if_true, if_false] at h1 h2 k1 k2
        simp at k1; subst k1
        exact fun q1 q2 => (hb o2 x2 e2 h2 k2 q2 q1).symm
    · by_cases i2 : o2 = o
      · simp only [i1, i2, if_true, if_false] at h1 h2 k1 k2
        simp at k2; subst k2
        exact hb o1 x1 e1 h1 k1
      · simp only [i1, i2, if_false] at h1 h2 k1 k2
        exact h.apart o1 o2 x1 x2 e1 e2 h1 h2 hne k1 k2
  · obtain ⟨n, hn⟩ := h.room
    refine ⟨max n (o + 1), fun i hi => ?_⟩
    simp only [Gh.named]
    rw [if_neg (by omega)]
    exact hn i (by omega)

theorem Sat.pushName {K σ w w' ob} (h : Sat K σ w) (hp : Pushed w w' ob) (hl : Obj.loose ob) (cl : Nat → Option Value)
    (hcl : ∀ i v, cl i = some v → w'.cell? ⟨w.heap.size, i, none⟩ = some v ∧ v.oneCell' = true) {o : Nat} (ho : K.own o = none) (e : Own) (he : e.blk = w.heap.size) (x : AObj)
    (hx : ObjSat (K.claimed w.heap.size cl) w' e x) : K.le ((K.claimed w.heap.size cl).named o e) ∧ Sat ((K.claimed w.heap.size cl).named o e) (upd σ o x) w' := by
  obtain ⟨h1, h2⟩ := h.push hp hl cl hcl
  obtain ⟨h3, h4⟩ := h2.name (o := o) ho e x hx (fun o' x' e' k1 k2 hr _ => by
    obtain ⟨e'', k3, k4⟩ := h.live o' x' k1
    have : e'' = e' := by have : K.own o' = some e' := k2; simp_all
    subst this
    rw [he]; exact Nat.ne_of_lt (k4.blk_lt hr))
  exact ⟨h1.trans h3, h4⟩

theorem Gh.le_renamed {K K' : Gh} {o e e'} (hb : K'.base = K.base) (hc : ∀ b i v, K.claim b i = some v → K'.claim b i = some v) (he : K.own o = some e) (he' : K'.own o = some e') (hee : e.le e')
    (hother : ∀ o', o' ≠ o → K'.own o' = K.own o') (hd : K'.ds = K.ds := by rfl) : K.le K' :=
  ⟨hb, hc, fun o' x e1 => by
    by_cases hi : o' = o
    · subst hi
      have : x = e := by simp_all
      subst this
      exact ⟨e', he', hee⟩
    · exact ⟨x, by rw [hother o' hi]; exact e1, Own.le_refl x⟩, hd⟩

/-! ### Other deferred calls -/

theorem Rel.ds {K : Gh} {a v} (d : List Deferred) (h : Rel K a v) : Rel { K with ds := d } a v := by
  induction h with
  | int k n => exact .int k n
  | bool b => exact .bool b
  | str s => exact .str s
  | nilp => exact .nilp
  | ptr o off e h hk => exact .ptr o off e h hk
  | cptr cs b off v hc hr ih => exact .cptr cs b off v hc ih
  | sl0 a cap t ht => exact .sl0 a cap t ht
  | slice l t b off cap sz v hsz hc hr ht hcap ih => exact .slice l t b off cap sz v hsz hc ih ht hcap
  | eptr o n off b cap h => exact .eptr o n off b cap h
  | vec o len b cap h hl => exact .vec o len b cap h hl
  | pre o len n b cap h h1 hl => exact .pre o len n b cap h h1 hl
  | raw o len b cap sz h hl => exact .raw o len b cap sz h hl
  | agg cs vs hs hr ih => exact .agg cs vs hs ih
  | tup cs vs hs hr ih => exact .tup cs vs hs ih
  | map o r h => exact .map o r h
  | nilmap => exact .nilmap
  | fn f first caps fs cs h1 h2 r1 r2 i1 i2 => exact .fn f first caps fs cs h1 h2 i1 i2
  | nilfn => exact .nilfn
  | iface t a v h ih => exact .iface t a v ih
  | nili => exact .nili

theorem RelL.ds {K : Gh} {cs vs} (d : List Deferred) (h : RelL K cs vs) : RelL { K with ds := d } cs vs := ⟨h.1, fun i h1 h2 => (h.2 i h1 h2).ds d⟩

theorem ObjSat.ds {K : Gh} {w e x} (d : List Deferred) (h : ObjSat K w e x) : ObjSat { K with ds := d } w e x := by
  cases e <;> cases x <;> simp only [ObjSat] at h ⊢
  case virt.grow => exact h
  case virt.virt => exact h
  case full.grow => exact h
  case obj.cells b cs =>
    obtain ⟨h1, ⟨c, el, h2, h3⟩, h4⟩ := h
    exact ⟨h1, ⟨c, el, h2, h3.ds d⟩, h4⟩
  case vec.vec b cap sz n sz' n' cs =>
    obtain ⟨h0, h00, h01, h02, h1, ⟨c, el, h2, h3, h6⟩, h4⟩ := h
    exact ⟨h0, h00, h01, h02, h1, ⟨c, el, h2, h3, fun i k1 k2 => ⟨(h6 i k1 k2).1.ds d, (h6 i k1 k2).2⟩⟩, h4⟩
  case buf.grow => exact h
  case iter.iter => exact h
  case map.map r d' m =>
    obtain ⟨h1, es, clock, h2, h3, h4, h5⟩ := h
    exact ⟨h1, es, clock, h2, h3, fun i k1 k2 => ⟨(h4 i k1 k2).1.ds d, (h4 i k1 k2).2.ds d⟩, h5⟩

theorem Sat.ds {K : Gh} {σ w} (d : List Deferred) (h : Sat K σ w) : Sat { K with ds := d } σ w :=
  { os := h.os, tape := h.tape, output := h.output, size := h.size, old := h.old, free := h.free, claim := h.claim, one := h.one, apart := h.apart, room := h.room,
    live := fun o x e => let ⟨e', k1, k2⟩ := h.live o x e; ⟨e', k1, k2.ds d⟩ }

theorem Gh.leS.ds {S : Nat → Prop} {K K' : Gh} {d : List Deferred} (h : ({ K with ds := d } : Gh).leS S K') : K.leS S { K' with ds := K.ds } :=
  ⟨⟨h.le.base, h.le.claim, h.le.own, rfl⟩, h.free⟩

theorem Sat.write {K K' : Gh} {σ w w'} (h : Sat K σ w) (hle : K.le K') {o : Nat} {x x' : AObj} {e e' : Own} (hx : σ o = some x) (he : K.own o = some e) (hre : e.real = true)
    (hown : ∀ o', o' ≠ o → K'.own o' = K.own o') (he' : K'.own o = some e') (hblk : e'.blk = e.blk)
    (hos : w'.os = w.os) (htape : w'.tape = w.tape) (hout : w'.output = w.output) (hsz : w'.heap.size = w.heap.size) (hother : ∀ b, b ≠ e.blk → w'.heap[b]? = w.heap[b]?)
    (hfree : ∀ i, w'.frozen? ⟨e.blk, i, none⟩ = false) (hclaim : ∀ i v, K'.claim e.blk i = some v → w'.cell? ⟨e.blk, i, none⟩ = some v ∧ v.oneCell' = true)
    (hcother : ∀ b i, b ≠ e.blk → K'.claim b i = K.claim b i) (hx' : ObjSat K' w' e' x') : Sat K' (upd σ o x') w' := by
  obtain ⟨e0, k1, k2⟩ := h.live o x hx
  have : e0 = e := by simp_all
  subst this
  have hb := k2.base_le hre
  have back : ∀ o1 e1, K'.own o1 = some e1 → ∃ e2, K.own o1 = some e2 ∧ e2.blk = e1.blk ∧ (e1.real = true → e2.real = true) := fun o1 e1 h1 => by
    by_cases hi : o1 = o
    · subst hi
      have : e1 = e' := by simp_all
      subst this
      exact ⟨e0, he, hblk.symm, fun _ => hre⟩
    · exact ⟨e1, by rw [← hown o1 hi]; exact h1, rfl, id⟩
  have alive : ∀ o1 x1, upd σ o x' o1 = some x1 → ∃ y, σ o1 = some y := fun o1 x1 h1 => by
    simp only [upd] at h1; by_cases hi : o1 = o
    · exact ⟨x, hi ▸ hx⟩
    · simp only [hi, if_false] at h1; exact ⟨x1, h1⟩
  refine ⟨by rw [hle.base]; exact hos.trans h.os, by rw [hle.base]; exact htape.trans h.tape, by rw [hle.base]; exact hout.trans h.output, by rw [hle.base, hsz]; exact h.size, fun b hb' => ?_, fun b i hb' => ?_, fun b i v ec => ?_, fun b i v ec => ?_, fun o' y ey => ?_, ?_, ?_⟩
  · rw [hle.base] at hb' ⊢
    rw [hother b (by omega)]; exact h.old b hb'
  · rw [hle.base] at hb'
    by_cases hbe : b = e0.blk
    · subst hbe; exact hfree i
    · rw [frozen_of_heap (hother b hbe)]; exact h.free b i hb'
  · by_cases hbe : b = e0.blk
    · subst hbe; exact (hclaim i v ec).1
    · rw [hcother b i hbe] at ec
      rw [cell_of_heap (hother b hbe)]; exact h.claim b i v ec
  · by_cases hbe : b = e0.blk
    · subst hbe; exact (hclaim i v ec).2
    · rw [hcother b i hbe] at ec
      exact h.one b i v ec
  · simp only [upd] at ey
    by_cases hi : o' = o
    · subst hi
      simp at ey; subst ey
      exact ⟨e', he', hx'⟩
    · simp only [hi, if_false] at ey
      obtain ⟨e'', h1, h2⟩ := h.live o' y ey
      have hne := h.apart o' o y x e'' e0 ey hx hi h1 he
      exact ⟨e'', by rw [hown o' hi]; exact h1, h2.keep hle (fun hr => hother _ (hne hr hre)) (fun hr i => hcother _ i (hne hr hre))⟩
  · intro o1 o2 x1 x2 e1 e2 h1 h2 hne k1 k2
    obtain ⟨y1, l1⟩ := alive o1 x1 h1
    obtain ⟨y2, l2⟩ := alive o2 x2 h2
    obtain ⟨f1, m1, n1, p1⟩ := back o1 e1 k1
    obtain ⟨f2, m2, n2, p2⟩ := back o2 e2 k2
    rw [← n1, ← n2]
    exact fun q1 q2 => h.apart o1 o2 y1 y2 f1 f2 l1 l2 hne m1 m2 (p1 q1) (p2 q2)
  · obtain ⟨n, hn⟩ := h.room
    refine ⟨max n (o + 1), fun i hi => ?_⟩
    rw [hown i (by omega)]; exact hn i (by omega)

theorem Sat.move {K K' : Gh} {σ w} (h : Sat K σ w) (hle : K.le K') (hcl : K'.claim = K.claim) {o : Nat} {x x' : AObj} {e e' : Own} (hx : σ o = some x) (he : K.own o = some e)
    (hown : ∀ o', o' ≠ o → K'.own o' = K.own o') (he' : K'.own o = some e') (hx' : ObjSat K' w e' x')
    (hb : ∀ o' y e'', σ o' = some y → K.own o' = some e'' → e''.real = true → e'.real = true → e''.blk ≠ e'.blk) : Sat K' (upd σ o x') w := by
  refine ⟨by rw [hle.base]; exact h.os, by rw [hle.base]; exact h.tape, by rw [hle.base]; exact h.output, by rw [hle.base]; exact h.size, by rw [hle.base]; exact h.old, by rw [hle.base]; exact h.free,
    by rw [hcl]; exact h.claim, by rw [hcl]; exact h.one, fun o' y ey => ?_, ?_, ?_⟩
  · simp only [upd] at ey
    by_cases hi : o' = o
    · subst hi
      simp at ey; subst ey
      exact ⟨e', he', hx'⟩
    · simp only [hi, if_false] at ey
      obtain ⟨e'', h1, h2⟩ := h.live o' y ey
      exact ⟨e'', by rw [hown o' hi]; exact h1, h2.keep hle (fun _ => rfl) (fun _ i => by rw [hcl])⟩
  · intro o1 o2 x1 x2 e1 e2 h1 h2 hne k1 k2
    simp only [upd] at h1 h2
    by_cases i1 : o1 = o
    · by_cases i2 : o2 = o
      · exact absurd (i1.trans i2.symm) hne
      · simp only [i2, if_false] at h2
        have : e1 = e' := by subst i1; simp_all
        subst this
        exact fun q1 q2 => (hb o2 x2 e2 h2 (by rw [← hown o2 i2]; exact k2) q2 q1).symm
    · by_cases i2 : o2 = o
      · simp only [i1, if_false] at h1
        have : e2 = e' := by subst i2; simp_all
        subst this
        exact hb o1 x1 e1 h1 (by rw [← hown o1 i1]; exact k1)
      · simp only [i1, i2, if_false] at h1 h2
        exact h.apart o1 o2 x1 x2 e1 e2 h1 h2 hne (by rw [← hown o1 i1]; exact k1) (by rw [← hown o2 i2]; exact k2)
  · obtain ⟨n, hn⟩ := h.room
    refine ⟨max n (o + 1), fun i hi => ?_⟩
    rw [hown i (by omega)]; exact hn i (by omega)

theorem Sat.same {K σ w w'} (h : Sat K σ w) (hos : w'.os = w.os) (htape : w'.tape = w.tape) (hout : w'.output = w.output) (hh : w'.heap = w.heap) : Sat K σ w' := by
  have hc : ∀ b o, w'.cell? ⟨b, o, none⟩ = w.cell? ⟨b, o, none⟩ := fun b o => cell_of_heap (by rw [hh])
  refine ⟨hos.trans h.os, htape.trans h.tape, hout.trans h.output, by rw [hh]; exact h.size, fun b hb => by rw [hh]; exact h.old b hb, fun b o hb => ?_, fun b o v e => by rw [hc]; exact h.claim b o v e, h.one, fun o x e => ?_, h.apart, h.room⟩
  · rw [frozen_of_heap (w := w) (w' := w') (by rw [hh])]; exact h.free b o hb
  · obtain ⟨e', h1, h2⟩ := h.live o x e
    exact ⟨e', h1, h2.keep (Gh.le.refl K) (fun _ => by rw [hh]) (fun _ _ => rfl)⟩

end Abs
