/- The abstraction layer, part Q: the further operations are what is said of them: maps, type assertions. Over any program. -/
import Derived.Test.YtapnlmhfacoceaaAbsP
set_option linter.unusedSimpArgs false
set_option linter.unusedVariables false
namespace Abs
open Go

theorem lkm_some {α : Type} {x : Option α} {R : α → Prop} (h : lkm x R) : ∃ a, x = some a ∧ R a := by
  cases x with
  | none => exact h.elim
  | some a => exact ⟨a, rfl, h⟩

theorem rel_map {K : Gh} {o : Nat} {v : Value} (h : Rel K (.map o) v) : ∃ r, v = .map (some r) ∧ K.own o = some (.map r) := by
  cases h with | map _ r h => exact ⟨r, rfl, h⟩
theorem rel_nilmap {K : Gh} {v : Value} (h : Rel K .nilmap v) : v = .map none := by cases h; rfl

structure MapAt (K : Gh) (w : World) (r : Nat) (d : Bool) (m : List (AV × AV)) (es : Array MapEntry) (clock : Nat) : Prop where
  base : K.base.heap.size ≤ r
  heap : w.heap[r]? = some (.map es clock)
  rel : RelM K m es.toList
  lt : ∀ i, (h : i < es.size) → es[i].born < clock
  inj : ∀ i j, (h : i < es.size) → (h' : j < es.size) → es[i].born = es[j].born → i = j
  dense : d = true → clock = es.size ∧ ∀ i, (h : i < es.size) → es[i].born = i

theorem mapAt_of {K : Gh} {σ : Sig} {w : World} (hs : Sat K σ w) {o r : Nat} {d : Bool} {m : List (AV × AV)} (h : σ o = some (.map d m)) (ho : K.own o = some (.map r)) : ∃ es clock, MapAt K w r d m es clock := by
  obtain ⟨e, h1, h2⟩ := hs.live o _ h
  rw [ho] at h1
  cases h1
  simp only [ObjSat] at h2
  obtain ⟨q1, es, clock, q2, q3, q4, q5, q6, q7⟩ := h2
  exact ⟨es, clock, q1, q2, ⟨by simp [q3], fun i h1 h2 => by simpa using q4 i h1 (by simpa using h2)⟩, q5, q6, q7⟩

theorem MapAt.sat {K : Gh} {w : World} {r : Nat} {d : Bool} {m : List (AV × AV)} {es : Array MapEntry} {clock : Nat} (h : MapAt K w r d m es clock) : ObjSat K w (.map r) (.map d m) := by
  refine ⟨h.base, es, clock, h.heap, ?_, fun i h1 h2 => ?_, h.lt, h.inj, h.dense⟩
  · have := h.rel.1; simpa using this.symm
  · have := h.rel.2 i h1 (by simpa using h2); simpa using this

theorem Sat.mapSet {K : Gh} {σ : Sig} {w : World} (hs : Sat K σ w) {o r : Nat} {d d' : Bool} {m m' : List (AV × AV)} {es es' : Array MapEntry} {clock clock' : Nat} (h : σ o = some (.map d m)) (ho : K.own o = some (.map r)) (hm : MapAt K w r d m es clock)
    (hr : RelM K m' es'.toList) (hlt : ∀ i, (h : i < es'.size) → es'[i].born < clock') (hinj : ∀ i j, (h : i < es'.size) → (h' : j < es'.size) → es'[i].born = es'[j].born → i = j)
    (hd : d' = true → clock' = es'.size ∧ ∀ i, (h : i < es'.size) → es'[i].born = i) : Sat K (upd σ o (.map d' m')) { w with heap := w.heap.setIfInBounds r (.map es' clock') } := by
  have hh := MapKept.heap_set (w := w) (r := r) (o' := Obj.map es' clock') hm.heap
  refine hs.write (Gh.le.refl K) h ho rfl (fun _ _ => rfl) ho rfl rfl rfl rfl (by simp) hh.2 (fun i => frozen_loose hh.1 trivial) (fun i v hv => ?_) (fun _ _ _ => rfl) ?_
  · have h1 := hs.claim r i v hv
    simp [World.cell?, hm.heap] at h1
  · exact MapAt.sat ⟨hm.base, hh.1, hr, hlt, hinj, hd⟩

section ops
variable {P : Program} {o : Oper} {N : Nat} {env : Env} {σ : Sig} {nm : Nat} {R : AV → Option (Nat × AObj) → Prop}

theorem zeroAV_run {K : Gh} {e : TypeId} {z : AV} (h : zeroAV P e = some z) (w : World) : ∃ v, (zeroValue e).run P w = .ok v w ∧ Rel K z v := by
  unfold zeroAV at h
  split at h
  · rename_i v hv
    refine ⟨v, ?_, ofValue_rel h⟩
    cases hi : P.info? e with
    | none => simp [hi] at hv
    | some i => simp [hi] at hv; simp [zeroValue, typeInfo, hi, hv]
  · simp at h

theorem ok_mkmap {t} (ho : o.op = .makeMap t none) (h : exOpN nm env σ R (.ext .mkmap)) : OpOk P o N env σ nm R := by
  intro S K a w hf hs hnm hS
  have hp := pushed_mk w (.map #[] 0)
  have hle0 := (hs.push hp trivial (fun _ => none) (fun i v e => by simp at e)).1
  obtain ⟨h1, h2⟩ := hs.pushName hp trivial (fun _ => none) (fun i v e => by simp at e) hnm (.map w.heap.size) rfl (.map true [])
    (MapAt.sat ⟨by show K.base.heap.size ≤ _; exact hs.size, hp.new, ⟨rfl, fun i h => by simp at h⟩, fun i h => by simp at h, fun i j h => by simp at h, fun _ => ⟨rfl, fun i h => by simp at h⟩⟩)
  refine ⟨_, _, some (nm, _), _, _, .inl ?_, ⟨h1, fun o' hs' hn => ?_⟩, .map nm w.heap.size (by simp [Gh.named]), h2, h⟩
  · simp [execOp, ho, Instr.makeMap]
  · have : o' ≠ nm := fun e => hS (e ▸ hs')
    simp [Gh.named, Gh.claimed, this, hn]

theorem ok_look {t kt e x i c kk z ax ai} (ho : o.op = .lookup t x i c) (hu : P.underlying t = some (.map kt e)) (hk : kkOf P kt = some kk) (hz : zeroAV P e = some z) (hx : trOpnd x = some ax) (hi : trOpnd i = some ai)
    (h : exOpN nm env σ R (.ext (.look kk z c ax ai))) : OpOk P o N env σ nm R := by
  refine .still fun K a w hf hs => ?_
  obtain ⟨mv, h1, h2⟩ := wth_some h
  obtain ⟨kv, h3, h4⟩ := wth_some h2
  have rm := trOpnd_rel hx h1 hf
  have rk := trOpnd_rel hi h3 hf
  obtain ⟨zv, hzr, hzrel⟩ := zeroAV_run (K := K) hz w
  cases mv <;> simp only [] at h4 <;> first | exact h4.elim | skip
  case map ob =>
    obtain ⟨r, he, hown⟩ := rel_map rm
    split at h4
    · rename_i d l hl
      obtain ⟨h5, h6⟩ := h4
      obtain ⟨ov, h7, h8⟩ := lkm_some h6
      obtain ⟨es, clock, hm⟩ := mapAt_of hs hl hown
      rw [lookK_idx] at h7
      simp only [Option.map_eq_some_iff] at h7
      obtain ⟨oi, h9, h10⟩ := h7
      have hfind := run_find hk rk w hm.rel h9
      have hcheck := run_check hk h5 rk es.isEmpty w
      cases oi with
      | none =>
        simp at h10; subst h10
        simp only [Option.getD_none, Option.isSome_none] at h8
        refine ⟨_, if c then .tuple #[zv, .bool false] else zv, ?_, ?_, h8⟩
        · simp [execOp, ho, he, Instr.lookup, run_underlying' hu, MapKept.run_getObj_map hm.heap, hcheck, hfind, foundAt, hzr]
        · cases c
          · exact hzrel
          · exact .tupL (.cons hzrel (.cons (.bool _) .nil))
      | some j =>
        obtain ⟨q1, p, q2, q3⟩ := idxK_lt kk kv h9
        have hj : j < es.toList.length := by rw [← hm.rel.1]; exact q1
        obtain ⟨r1, r2⟩ := hm.rel.2 j q1 hj
        simp only [Option.bind_some, q2, Option.map_some] at h10
        subst h10
        simp only [Option.getD_some, Option.isSome_some] at h8
        have hp : l[j] = p := by rw [List.getElem?_eq_getElem q1] at q2; exact Option.some.inj q2
        rw [hp] at r2
        refine ⟨_, if c then .tuple #[es.toList[j].val, .bool true] else es.toList[j].val, ?_, ?_, h8⟩
        · simp [execOp, ho, he, Instr.lookup, run_underlying' hu, MapKept.run_getObj_map hm.heap, hcheck, hfind, foundAt]
          have : j < es.size := by simpa using hj
          simp [this]
        · cases c
          · exact r2
          · exact .tupL (.cons r2 (.cons (.bool _) .nil))
    · exact h4.elim
  case nilmap =>
    have he := rel_nilmap rm
    obtain ⟨h5, h6⟩ := h4
    have hcheck := run_check hk h5 rk true w
    have hfind := run_find hk rk w (m := []) (es := []) (i := none) ⟨rfl, fun i h => by simp at h⟩ rfl
    refine ⟨_, if c then .tuple #[zv, .bool false] else zv, ?_, ?_, h6⟩
    · simp [execOp, ho, he, Instr.lookup, run_underlying' hu, hcheck, hfind, foundAt, hzr]
    · cases c
      · exact hzrel
      · exact .tupL (.cons hzrel (.cons (.bool _) .nil))

theorem RelM.push {K : Gh} {m : List (AV × AV)} {es : List MapEntry} (h : RelM K m es) {k v : AV} {e : MapEntry} (h1 : Rel K k e.key) (h2 : Rel K v e.val) : RelM K (m ++ [(k, v)]) (es ++ [e]) := by
  refine ⟨by simp [h.1], fun i hi hi' => ?_⟩
  have hl := h.1
  rcases Nat.lt_or_ge i m.length with h' | h'
  · have := h.2 i h' (by omega)
    rw [List.getElem_append_left h', List.getElem_append_left (by omega)]; exact this
  · have : i = m.length := by simp at hi; omega
    subst this
    rw [List.getElem_append_right (by omega), List.getElem_append_right (by omega)]
    simp [h1, h2, hl]

theorem RelM.modify {K : Gh} {m : List (AV × AV)} {es : List MapEntry} (h : RelM K m es) (j : Nat) {f : AV × AV → AV × AV} {g : MapEntry → MapEntry} (hfg : ∀ p e, Rel K p.1 e.key → Rel K p.2 e.val → Rel K (f p).1 (g e).key ∧ Rel K (f p).2 (g e).val) : RelM K (m.modify j f) (es.modify j g) := by
  refine ⟨by simp [h.1], fun i hi hi' => ?_⟩
  simp only [List.length_modify] at hi hi'
  have := h.2 i hi hi'
  rw [List.getElem_modify, List.getElem_modify]
  split
  · exact hfg _ _ this.1 this.2
  · exact this

theorem RelM.erase {K : Gh} {m : List (AV × AV)} {es : List MapEntry} (h : RelM K m es) (j : Nat) : RelM K (m.eraseIdx j) (es.eraseIdx j) := by
  have hl := h.1
  refine ⟨by simp [List.length_eraseIdx, hl], fun i hi hi' => ?_⟩
  rw [List.getElem_eraseIdx, List.getElem_eraseIdx]
  simp only [List.length_eraseIdx] at hi hi'
  split
  · exact h.2 _ _ _
  · exact h.2 _ _ _

theorem map_lay {K : Gh} {w : World} (hs : Sat K σ w) {ob r : Nat} {d : Bool} {m : List (AV × AV)} {es : Array MapEntry} {clock : Nat} (hl : σ ob = some (.map d m)) (hown : K.own ob = some (.map r)) (hm : MapAt K w r d m es clock)
    {k v : AV} {kv vv : Value} (rk : Rel K k kv) (rv : Rel K v vv) :
    Sat K (upd σ ob (.map d (m ++ [(k, v)]))) { w with heap := w.heap.setIfInBounds r (.map (es.push { key := kv, val := vv, born := clock }) (clock + 1)) } := by
  refine hs.mapSet hl hown hm (by rw [Array.toList_push]; exact hm.rel.push rk rv) (fun i h => ?_) (fun i j h h' e => ?_) (fun hd => ?_)
  · rw [Array.getElem_push]
    split
    · have := hm.lt i ‹_›; omega
    · simp
  · rw [Array.getElem_push, Array.getElem_push] at e
    simp only [Array.size_push] at h h'
    split at e <;> split at e
    · exact hm.inj i j _ _ e
    · have := hm.lt i ‹_›; simp at e; omega
    · have := hm.lt j ‹_›; simp at e; omega
    · omega
  · obtain ⟨d1, d2⟩ := hm.dense hd
    refine ⟨by simp [d1], fun i h => ?_⟩
    rw [Array.getElem_push]
    split
    · exact d2 i _
    · simp only [Array.size_push] at h; simp; omega

theorem map_mod {K : Gh} {w : World} (hs : Sat K σ w) {ob r : Nat} {d : Bool} {m : List (AV × AV)} {es : Array MapEntry} {clock : Nat} (hl : σ ob = some (.map d m)) (hown : K.own ob = some (.map r)) (hm : MapAt K w r d m es clock) (j : Nat)
    {f : AV × AV → AV × AV} {g : MapEntry → MapEntry} (hfg : ∀ p e, Rel K p.1 e.key → Rel K p.2 e.val → Rel K (f p).1 (g e).key ∧ Rel K (f p).2 (g e).val) (hb : ∀ e, (g e).born = e.born) :
    Sat K (upd σ ob (.map d (m.modify j f))) { w with heap := w.heap.setIfInBounds r (.map (es.modify j g) clock) } := by
  have eb : ∀ i, (h : i < (es.modify j g).size) → (es.modify j g)[i].born = (es[i]'(by simpa using h)).born := fun i h => by
    rw [Array.getElem_modify]
    split
    · exact hb _
    · rfl
  refine hs.mapSet hl hown hm (by rw [Array.toList_modify]; exact hm.rel.modify j hfg) (fun i h => ?_) (fun i i' h h' e => ?_) (fun hd => ?_)
  · rw [eb]; exact hm.lt i _
  · rw [eb, eb] at e; exact hm.inj i i' _ _ e
  · obtain ⟨d1, d2⟩ := hm.dense hd
    exact ⟨by simp [d1], fun i h => by rw [eb]; exact d2 i _⟩

theorem run_stays {old new : Value} (h : Instr.sameBits 10000 old new = true) (w : World) : (Instr.keyThatStays old new).run P w = .ok new w := by
  simp [Instr.keyThatStays, h]

theorem ok_mset {t kt e m k v kk am ak av} (ho : o.op = .mapUpdate t m k v ∨ o.op = .insert t m k v) (hd : o.dst = none) (hu : P.underlying t = some (.map kt e)) (hk : kkOf P kt = some kk) (hm : trOpnd m = some am) (hk' : trOpnd k = some ak) (hv : trOpnd v = some av)
    (h : exOpN nm env σ R (.ext (.mset kk am ak av))) : OpOk P o N env σ nm R := by
  intro S K a w hf hs _ _
  obtain ⟨mv, h1, h2⟩ := wth_some h
  obtain ⟨kv, h3, h4⟩ := wth_some h2
  obtain ⟨vv, h5, h6⟩ := wth_some h4
  have rm := trOpnd_rel hm h1 hf
  have rk := trOpnd_rel hk' h3 hf
  have rv := trOpnd_rel hv h5 hf
  cases mv <;> simp only [] at h6 <;> first | exact h6.elim | skip
  rename_i ob
  obtain ⟨r, he, hown⟩ := rel_map rm
  split at h6
  · rename_i d l hl
    obtain ⟨h7, h8⟩ := h6
    obtain ⟨l', h9, h10⟩ := lkm_some h8
    obtain ⟨es, clock, hma⟩ := mapAt_of hs hl hown
    rw [setK_idx] at h9
    simp only [Option.map_eq_some_iff] at h9
    obtain ⟨oi, h11, h12⟩ := h9
    have hfind := run_find hk rk w hma.rel h11
    have hcheck := run_check hk h7 rk false w
    have exe : ∀ {w'}, (Instr.mapUpdate t (.map (some r)) (a.eval k) (a.eval v)).run P w = .ok () w' → (execOp a.eval o).run P w = .ok .skip w' := by
      intro w' hr
      rcases ho with ho | ho <;> simp [execOp, ho, he, hr]
    cases oi with
    | none =>
      simp at h12; subst h12
      refine ⟨K, .tup [], some (ob, _), undef, _, .inr ⟨exe ?_, hd⟩, Gh.leS.refl K, .tupL .nil, map_lay hs hl hown hma rk rv, h10⟩
      simp [Instr.mapUpdate, run_underlying' hu, MapKept.run_getObj_map hma.heap, hcheck, hfind, foundAt, MapKept.run_setObj_map _ hma.heap]
    | some j =>
      simp at h12; subst h12
      obtain ⟨q1, p, q2, q3⟩ := idxK_lt kk kv h11
      have hj : j < es.toList.length := by rw [← hma.rel.1]; exact q1
      obtain ⟨r1, r2⟩ := hma.rel.2 j q1 hj
      have hp : l[j] = p := by rw [List.getElem?_eq_getElem q1] at q2; exact Option.some.inj q2
      rw [hp] at r1
      obtain ⟨e1, e2⟩ := eqKey_val q3 rk r1
      have hje : j < es.size := by simpa using hj
      have hold : (Option.map (fun e : MapEntry => e.key) es[j]?).getD (a.eval k) = a.eval k := by
        rw [Array.getElem?_eq_getElem hje]; simp; rw [e1]; simp
      have hst : Instr.sameBits 10000 (a.eval k) (a.eval k) = true := by rw [← e1] at e2; exact e2
      refine ⟨K, .tup [], some (ob, _), undef, _, .inr ⟨exe ?_, hd⟩, Gh.leS.refl K, .tupL .nil,
        map_mod hs hl hown hma j (f := fun _ => (kv, vv)) (g := fun e => { e with key := a.eval k, val := a.eval v }) (fun p e _ _ => ⟨rk, rv⟩) (fun e => rfl), h10⟩
      simp [Instr.mapUpdate, run_underlying' hu, MapKept.run_getObj_map hma.heap, hcheck, hfind, foundAt, hold, run_stays hst, MapKept.run_setObj_map _ hma.heap]
  · exact h6.elim

theorem ok_mdel {t kt e t2 m k kk am ak} (ho : o.op = .call { callee := .builtin .delete, args := #[m, k], argTypes := #[t, t2] }) (hu : P.underlying t = some (.map kt e)) (hk : kkOf P kt = some kk) (hm : trOpnd m = some am) (hk' : trOpnd k = some ak)
    (h : exOpN nm env σ R (.ext (.mdel kk am ak))) : OpOk P o N env σ nm R := by
  intro S K a w hf hs _ _
  obtain ⟨mv, h1, h2⟩ := wth_some h
  obtain ⟨kv, h3, h6⟩ := wth_some h2
  have rm := trOpnd_rel hm h1 hf
  have rk := trOpnd_rel hk' h3 hf
  cases mv <;> simp only [] at h6 <;> first | exact h6.elim | skip
  rename_i ob
  obtain ⟨r, he, hown⟩ := rel_map rm
  split at h6
  · rename_i d l hl
    obtain ⟨h7, h8⟩ := h6
    obtain ⟨l', h9, h10⟩ := lkm_some h8
    obtain ⟨es, clock, hma⟩ := mapAt_of hs hl hown
    rw [delK_idx] at h9
    simp only [Option.map_eq_some_iff] at h9
    obtain ⟨oi, h11, h12⟩ := h9
    have hfind := run_find hk rk w hma.rel h11
    have hcheck := run_check hk h7 rk es.isEmpty w
    have exe : ∀ {w'}, (Builtin.delete_ #[t, t2] o.type #[.map (some r), a.eval k]).run P w = .ok (.tuple #[]) w' → (execOp a.eval o).run P w = .ok (.value (.tuple #[])) w' := by
      intro w' hr
      have e2 : #[m, k].map a.eval = #[.map (some r), a.eval k] := by simp [he]
      simp only [execOp, ho, resolve, invoke, Go.builtin, Sem.run_bind, Sem.run_pure, Result.andThen_ok, e2, hr]
    cases oi with
    | none =>
      simp at h12; subst h12
      refine ⟨K, .tup [], some (ob, _), _, _, .inl (exe ?_), Gh.leS.refl K, .tupL .nil, hs.mapSet hl hown hma hma.rel hma.lt hma.inj (fun h => by simp at h), h10⟩
      simp [Builtin.delete_, run_underlying' hu, MapKept.run_getObj_map hma.heap, hcheck, hfind, foundAt, MapKept.run_setObj_map _ hma.heap]
    | some j =>
      simp at h12; subst h12
      obtain ⟨q1, p, q2, q3⟩ := idxK_lt kk kv h11
      have hj : j < es.toList.length := by rw [← hma.rel.1]; exact q1
      have hje : j < es.size := by simpa using hj
      have eb : ∀ i, (h : i < (es.eraseIdx j).size) → ∃ i', ∃ h' : i' < es.size, (es.eraseIdx j)[i].born = es[i'].born ∧ i' = if i < j then i else i + 1 := fun i h => by
        rw [Array.getElem_eraseIdx]
        have hsz : (es.eraseIdx j).size = es.size - 1 := by simp
        split
        · exact ⟨i, by omega, rfl, rfl⟩
        · exact ⟨i + 1, by omega, rfl, rfl⟩
      refine ⟨K, .tup [], some (ob, _), _, _, .inl (exe ?_), Gh.leS.refl K, .tupL .nil, hs.mapSet (es' := es.eraseIdx j) (clock' := clock) hl hown hma (by rw [Array.toList_eraseIdx]; exact hma.rel.erase j) (fun i h => ?_) (fun i i' h h' e => ?_) (fun h => by simp at h), h10⟩
      · simp [Builtin.delete_, run_underlying' hu, MapKept.run_getObj_map hma.heap, hcheck, hfind, foundAt, MapKept.run_setObj_map _ hma.heap, Array.eraseIdxIfInBounds, hje]
      · obtain ⟨i', h', e1, _⟩ := eb i h
        rw [e1]; exact hma.lt i' h'
      · obtain ⟨a1, a2, a3, a4⟩ := eb i h
        obtain ⟨b1, b2, b3, b4⟩ := eb i' h'
        rw [a3, b3] at e
        have := hma.inj a1 b1 a2 b2 e
        split at a4 <;> split at b4 <;> omega
  · exact h6.elim

theorem ok_lenM {t kt e x ax} (ho : o.op = .call { callee := .builtin .len, args := #[x], argTypes := #[t] }) (hu : P.underlying t = some (.map kt e)) (hx : trOpnd x = some ax)
    (h : exOpN nm env σ R (.ext (.lenM ax))) : OpOk P o N env σ nm R := by
  refine .still fun K a w hf hs => ?_
  obtain ⟨mv, h1, h2⟩ := wth_some h
  have rm := trOpnd_rel hx h1 hf
  cases mv <;> simp only [] at h2 <;> first | exact h2.elim | skip
  · rename_i ob
    obtain ⟨r, he, hown⟩ := rel_map rm
    split at h2
    · rename_i d l hl
      obtain ⟨es, clock, hma⟩ := mapAt_of hs hl hown
      have hsz : es.size = l.length := by have := hma.rel.1; simpa using this.symm
      refine ⟨_, .int .i64 l.length, ?_, .int _ _, h2⟩
      simp [execOp, ho, resolve, invoke, Go.builtin, Builtin.len_, he, run_underlying' hu, MapKept.run_getObj_map hma.heap, goInt, hsz]
    · exact h2.elim
  · have he := rel_nilmap rm
    refine ⟨_, .int .i64 0, ?_, .int _ _, h2⟩
    simp [execOp, ho, resolve, invoke, Go.builtin, Builtin.len_, he, run_underlying' hu, goInt]

theorem ok_isnil {op t x y yt ne ax ay} (ho : o.op = .binOp op t x y yt) (hop : op = .eql ∧ ne = false ∨ op = .neq ∧ ne = true) (hu : isSl P t = true) (hn : isNilC ay = true) (hx : trOpnd x = some ax) (hy : trOpnd y = some ay)
    (h : exOpN nm env σ R (.ext (.isnil ne ax))) : OpOk P o N env σ nm R := by
  refine .still fun K a w hf hs => ?_
  obtain ⟨av, h1, h2⟩ := wth_some h
  have ra := trOpnd_rel hx h1 hf
  obtain ⟨e, hut⟩ : ∃ e, P.underlying t = some (.slice e) := by
    unfold isSl at hu
    split at hu
    · exact ⟨_, by assumption⟩
    · simp at hu
  have hay : ay = .c (.slice [] .nil) := by
    unfold isNilC at hn
    split at hn
    · rfl
    · simp at hn
  subst hay
  have rb : Rel K (.slice [] .nil) (a.eval y) := trOpnd_rel hy rfl hf
  have eb : a.eval y = .slice none 0 0 := by
    generalize a.eval y = vy at rb
    cases rb with
    | sl0 a0 cap t ht =>
      rcases ht with h | ⟨h, _⟩ | ⟨_, rfl, rfl⟩ | ⟨_, _, _, h, _⟩
      · simp at h
      · simp at h
      · rfl
      · simp at h
    | slice l t b off cap sz v hsz hc hr ht hcap => exact ht.elim
  have key : ∀ {a0 : Option Addr} {n cap : Nat} {v : Bool}, a.eval x = .slice a0 n cap → (ne = false → v = a0.isNone) → (ne = true → v = !a0.isNone) → (execOp a.eval o).run P w = .ok (.value (.bool v)) w := fun {a0 n cap v} ea h1 h2 => by
    have hq' : ∀ d, (Op.equalIn (d + 1) t (.slice a0 n cap) (.slice none 0 0)).run P w = .ok a0.isNone w := fun d => by
      cases a0 <;> simp [Op.equalIn, run_underlying' hut]
    have hq : (Op.equalIn 10000 t (.slice a0 n cap) (.slice none 0 0)).run P w = .ok a0.isNone w := hq' 9999
    have hg : ∀ op, (eqGuard op t x y (.slice a0 n cap) (.slice none 0 0)).run P w = .ok () w := fun op => by
      unfold eqGuard; split <;> rfl
    rcases hop with ⟨rfl, rfl⟩ | ⟨rfl, rfl⟩
    · simp only [execOp, ho, ea, eb, Sem.run_bind, hg, Result.andThen_ok, binOp, Op.equal, Op.maxDepth, hq, Sem.run_pure, h1 rfl]
    · simp only [execOp, ho, ea, eb, Sem.run_bind, hg, Result.andThen_ok, binOp, Op.equal, Op.maxDepth, hq, Sem.run_pure, h2 rfl]
  cases av <;> first | exact h2.elim | skip
  rename_i l t'
  by_cases hl : l = []
  · subst hl
    obtain ⟨k1, k2⟩ := h2.1 rfl
    obtain ⟨a0, n, cap, ea⟩ : ∃ a0 n cap, a.eval x = .slice a0 n cap := by
      generalize a.eval x = vx at ra
      cases ra with
      | sl0 a0 cap t ht => exact ⟨_, _, _, rfl⟩
      | slice l t b off cap sz v hsz hc hr ht hcap => exact ⟨_, _, _, rfl⟩
    obtain ⟨v, hv1, hv2⟩ : ∃ v : Bool, (ne = false → v = a0.isNone) ∧ (ne = true → v = !a0.isNone) := by
      cases ne
      · exact ⟨a0.isNone, fun _ => rfl, fun h => by simp at h⟩
      · exact ⟨!a0.isNone, fun h => by simp at h, fun _ => rfl⟩
    refine ⟨_, .bool v, key ea hv1 hv2, .bool _, ?_⟩
    cases v
    · exact k2
    · exact k1
  · have k := h2.2 hl
    obtain ⟨b, off, cap, ea⟩ : ∃ b off cap, a.eval x = .slice (some ⟨b, off, none⟩) l.length cap := by
      generalize a.eval x = vx at ra
      cases ra with
      | sl0 a0 cap t ht => exact absurd rfl hl
      | slice l t b off cap sz v hsz hc hr ht hcap => exact ⟨_, _, _, rfl⟩
    exact ⟨_, .bool ne, key ea (fun h => by rw [h]; rfl) (fun h => by rw [h]; rfl), .bool _, k⟩

theorem ok_ment {t kt e m k kk z am ak} (ho : o.op = .mapEntry t m k) (hu : P.underlying t = some (.map kt e)) (hk : kkOf P kt = some kk) (hz : zeroAV P e = some z) (hm : trOpnd m = some am) (hk' : trOpnd k = some ak)
    (h : exOpN nm env σ R (.ext (.ment kk z am ak))) : OpOk P o N env σ nm R := by
  intro S K a w hf hs _ _
  obtain ⟨mv, h1, h2⟩ := wth_some h
  obtain ⟨kv, h3, h6⟩ := wth_some h2
  have rm := trOpnd_rel hm h1 hf
  have rk := trOpnd_rel hk' h3 hf
  obtain ⟨zv, hzr, hzrel⟩ := zeroAV_run (K := K) hz w
  cases mv <;> simp only [] at h6 <;> first | exact h6.elim | skip
  rename_i ob
  obtain ⟨r, he, hown⟩ := rel_map rm
  split at h6
  · rename_i l hl
    obtain ⟨h7, h8⟩ := h6
    obtain ⟨l', h9, h10⟩ := lkm_some h8
    obtain ⟨es, clock, hma⟩ := mapAt_of hs hl hown
    obtain ⟨d1, d2⟩ := hma.dense rfl
    have hsz : es.size = l.length := by have := hma.rel.1; simpa using this.symm
    rw [entK_idx] at h9
    simp only [Option.map_eq_some_iff] at h9
    obtain ⟨oi, h11, h12⟩ := h9
    have hfind := run_find hk rk w hma.rel h11
    have hcheck := run_check hk h7 rk false w
    cases oi with
    | none =>
      simp at h12; subst h12
      refine ⟨K, _, some (ob, _), .tuple #[zv, .int .i64 clock], _, .inl ?_, Gh.leS.refl K, .tupL (.cons hzrel (.cons ?_ .nil)), map_lay hs hl hown hma rk hzrel, h10⟩
      · simp [execOp, ho, he, Instr.mapEntry, run_underlying' hu, MapKept.run_getObj_map hma.heap, hcheck, hfind, foundAt, hzr, MapKept.run_setObj_map _ hma.heap, goInt]
      · rw [d1, hsz]; exact .int _ _
    | some j =>
      simp at h12; subst h12
      obtain ⟨q1, p, q2, q3⟩ := idxK_lt kk kv h11
      have hj : j < es.toList.length := by rw [← hma.rel.1]; exact q1
      obtain ⟨r1, r2⟩ := hma.rel.2 j q1 hj
      have hp : l[j] = p := by rw [List.getElem?_eq_getElem q1] at q2; exact Option.some.inj q2
      rw [hp] at r1 r2
      obtain ⟨e1, e2⟩ := eqKey_val q3 rk r1
      have hje : j < es.size := by simpa using hj
      have hold : es[j].key = a.eval k := by rw [e1]; simp
      have hst : Instr.sameBits 10000 (a.eval k) (a.eval k) = true := by rw [← e1] at e2; exact e2
      refine ⟨K, _, some (ob, _), .tuple #[es.toList[j].val, .int .i64 j], _, .inl ?_, Gh.leS.refl K, .tupL (.cons ?_ (.cons (.int _ _) .nil)),
        map_mod hs hl hown hma j (f := fun p => (kv, p.2)) (g := fun e => { e with key := a.eval k }) (fun p e _ h => ⟨rk, h⟩) (fun e => rfl), h10⟩
      · simp [execOp, ho, he, Instr.mapEntry, run_underlying' hu, MapKept.run_getObj_map hma.heap, hcheck, hfind, foundAt, hold, run_stays hst, MapKept.run_setObj_map _ hma.heap, goInt, hje, d2 j hje]
      · rw [q2]; simpa using r2
  · exact h6.elim

theorem ok_eset {t m s v am as av} (ho : o.op = .entryStore t m s v) (hd : o.dst = none) (hm : trOpnd m = some am) (hs' : trOpnd s = some as) (hv : trOpnd v = some av)
    (h : exOpN nm env σ R (.ext (.eset am as av))) : OpOk P o N env σ nm R := by
  intro S K a w hf hs _ _
  obtain ⟨mv, h1, h2⟩ := wth_some h
  obtain ⟨sv, h3, h4⟩ := wth_some h2
  obtain ⟨vv, h5, h6⟩ := wth_some h4
  have rm := trOpnd_rel hm h1 hf
  have rs := trOpnd_rel hs' h3 hf
  have rv := trOpnd_rel hv h5 hf
  split at h6
  · rename_i ob i
    obtain ⟨r, he, hown⟩ := rel_map rm
    split at h6
    · rename_i l hl
      obtain ⟨⟨p1, p2⟩, h7⟩ := h6
      obtain ⟨es, clock, hma⟩ := mapAt_of hs hl hown
      obtain ⟨d1, d2⟩ := hma.dense rfl
      have hsz : es.size = l.length := by have := hma.rel.1; simpa using this.symm
      have ei := rel_int rs
      have hfi : es.findIdx? (fun e => (e.born : Int) == i) = some i.toNat := by
        rw [Array.findIdx?_eq_some_iff_getElem]
        refine ⟨by omega, ?_, fun j hj => ?_⟩
        · rw [d2 _ (by omega)]; simp; omega
        · rw [d2 _ (by omega)]; simp; omega
      refine ⟨K, .tup [], some (ob, _), undef, _, .inr ⟨?_, hd⟩, Gh.leS.refl K, .tupL .nil,
        map_mod hs hl hown hma i.toNat (f := fun p => (p.1, vv)) (g := fun e => { e with val := a.eval v }) (fun p e h _ => ⟨h, rv⟩) (fun e => rfl), h7⟩
      simp [execOp, ho, he, ei, Instr.entryStore, MapKept.run_getObj_map hma.heap, asInt, asIntOf, hfi, MapKept.run_setObj_map _ hma.heap]
    · exact h6.elim
  · exact h6.elim

theorem ok_tas {x xt t c z ax d} (ho : o.op = .typeAssert x xt t c) (hu : P.underlying t = some d) (hd : ∀ ms, d ≠ .interface ms) (hz : zeroAV P t = some z) (hx : trOpnd x = some ax)
    (h : exOpN nm env σ R (.ext (.tas t z c ax))) : OpOk P o N env σ nm R := by
  refine .still fun K a w hf hs => ?_
  obtain ⟨av, h1, h2⟩ := wth_some h
  have ra := trOpnd_rel hx h1 hf
  obtain ⟨zv, hzr, hzrel⟩ := zeroAV_run (K := K) hz w
  have hun : ∀ {β : Type} (f : List (String × TypeId) → β), True := fun _ => trivial
  cases av <;> simp only [] at h2 <;> first | exact h2.elim | skip
  case nili =>
    obtain ⟨rfl, h3⟩ := h2
    have he : a.eval x = .nilIface := by generalize a.eval x = v at ra; cases ra; rfl
    refine ⟨_, .tuple #[zv, .bool false], ?_, .tupL (.cons hzrel (.cons (.bool _) .nil)), h3⟩
    cases d <;> first | exact absurd rfl (hd _) | simp [execOp, ho, he, Instr.typeAssert, run_underlying' hu, hzr]
  case iface t' v =>
    obtain ⟨u, he, hu'⟩ : ∃ u, a.eval x = .iface t' u ∧ Rel K v u := by
      generalize a.eval x = vv at ra
      cases ra with | iface _ _ u h => exact ⟨u, rfl, h⟩
    by_cases htt : t' = t
    · subst htt
      refine ⟨_, if c then .tuple #[u, .bool true] else u, ?_, ?_, h2.1 rfl⟩
      · cases d <;> first | exact absurd rfl (hd _) | simp [execOp, ho, he, Instr.typeAssert, run_underlying' hu]
      · cases c
        · exact hu'
        · exact .tupL (.cons hu' (.cons (.bool _) .nil))
    · obtain ⟨rfl, h3⟩ := h2.2 htt
      refine ⟨_, .tuple #[zv, .bool false], ?_, .tupL (.cons hzrel (.cons (.bool _) .nil)), h3⟩
      cases d <;> first | exact absurd rfl (hd _) | simp [execOp, ho, he, Instr.typeAssert, run_underlying' hu, hzr, htt]

end ops
end Abs
