/- The abstraction layer, part R: rows that may be written: made, grown, frozen; growth names for slices. Over any program. -/
import Derived.Test.YtjichkelfhcbcaaGreatAbsP
set_option linter.unusedSimpArgs false
set_option linter.unusedVariables false
namespace Abs
open Go
theorem lkm_some {α : Type} {x : Option α} {R : α → Prop} (h : lkm x R) : ∃ a, x = some a ∧ R a := by
  cases x with
  | none => exact h.elim
  | some a => exact ⟨a, rfl, h⟩
theorem rel_map {K : Gh} {o : Nat} {v : Value} (h : Rel K (.map o) v) : ∃ r, v = .map (some r) ∧ K.own o = some (.map r) := by
  cases h with | map _ r h => exact ⟨r, rfl, h⟩
theorem rel_nilmap {K : Gh} {v : Value} (h : Rel K .nilmap v) : v = .map none := by cases h; rfl
structure MapAt (K : Gh) (w : World) (r : Nat) (d : Bool) (m : List (AV × AV)) (es : Array MapEntry) (clock : Nat) : Prop where
  base : K.base.heap.size ≤ r
  heap : w.heap[r]? = some (.map es clock)
  rel : RelM K m es.toList
  lt : ∀ i, (h : i < es.size) → es[i].born < clock
  inj : ∀ i j, (h : i < es.size) → (h' : j < es.size) → es[i].born = es[j].born → i = j
  dense : d = true → clock = es.size ∧ ∀ i, (h : i < es.size) → es[i].born = i
theorem mapAt_of {K : Gh} {σ : Sig} {w : World} (hs : Sat K σ w) {o r : Nat} {d : Bool} {m : List (AV × AV)} (h : σ o = some (.map d m)) (ho : K.own o = some (.map r)) : ∃ es clock, MapAt K w r d m es clock := by
  obtain ⟨e, h1, h2⟩ := hs.live o _ h
  rw [ho] at h1
  cases h1
  simp only [ObjSat] at h2
  obtain ⟨q1, es, clock, q2, q3, q4, q5, q6, q7⟩ := h2
  exact ⟨es, clock, q1, q2, ⟨by simp [q3], fun i h1 h2 => by simpa using q4 i h1 (by simpa using h2)⟩, q5, q6, q7⟩
theorem MapAt.sat {K : Gh} {w : World} {r : Nat} {d : Bool} {m : List (AV × AV)} {es : Array MapEntry} {clock : Nat} (h : MapAt K w r d m es clock) : ObjSat K w (.map r) (.map d m) := by
  refine ⟨h.base, es, clock, h.heap, ?_, fun i h1 h2 => ?_, h.lt, h.inj, h.dense⟩
  · have := h.rel.1; simpa using this.symm
  · have := h.rel.2 i h1 (by simpa using h2); simpa using this
theorem Sat.mapSet {K : Gh} {σ : Sig} {w : World} (hs : Sat K σ w) {o r : Nat} {d d' : Bool} {m m' : List (AV × AV)} {es es' : Array MapEntry} {clock clock' : Nat} (h : σ o = some (.map d m)) (ho : K.own o = some (.map r)) (hm : MapAt K w r d m es clock)
    (hr : RelM K m' es'.toList) (hlt : ∀ i, (h : i < es'.size) → es'[i].born < clock') (hinj : ∀ i j, (h : i < es'.size) → (h' : j < es'.size) → es'[i].born = es'[j].born → i = j)
    (hd : d' = true → clock' = es'.size ∧ ∀ i, (h : i < es'.size) → es'[i].born = i) : Sat K (upd σ o (.map d' m')) { w with heap := w.heap.setIfInBounds r (.map es' clock') } := by
  have hh := MapKept.heap_set (w := w) (r := r) (o' := Obj.map es' clock') hm.heap
  refine hs.write (Gh.le.refl K) h ho rfl (fun _ _ => rfl) ho rfl rfl rfl rfl (by simp) hh.2 (fun i => frozen_loose hh.1 trivial) (fun i v hv => ?_) (fun _ _ _ => rfl) ?_
  · have h1 := hs.claim r i v hv
    simp [World.cell?, hm.heap] at h1
  · exact MapAt.sat ⟨hm.base, hh.1, hr, hlt, hinj, hd⟩
section ops
variable {P : Program} {o : Oper} {N : Nat} {env : Env} {σ : Sig} {nm : Nat} {R : AV → Option (Nat × AObj) → Prop}
theorem zeroAV_run {K : Gh} {e : TypeId} {z : AV} (h : zeroAV P e = some z) (w : World) : ∃ v, (zeroValue e).run P w = .ok v w ∧ Rel K z v := by
  unfold zeroAV at h
  split at h
  · rename_i v hv
    refine ⟨v, ?_, ofValue_rel h⟩
    cases hi : P.info? e with
    | none => simp [hi] at hv
    | some i => simp [hi] at hv; simp [zeroValue, typeInfo, hi, hv]
  · simp at h
theorem ok_mkmap {t} (ho : o.op = .makeMap t none) (h : exOpN nm env σ R (.ext .mkmap)) : OpOk P o N env σ nm R := by
  intro S K a w hf hs hnm hS
  have hp := pushed_mk w (.map #[] 0)
  have hle0 := (hs.push hp trivial (fun _ => none) (fun i v e => by simp at e)).1
  obtain ⟨h1, h2⟩ := hs.pushName hp trivial (fun _ => none) (fun i v e => by simp at e) hnm (.map w.heap.size) rfl (.map true [])
    (MapAt.sat ⟨by show K.base.heap.size ≤ _; exact hs.size, hp.new, ⟨rfl, fun i h => by simp at h⟩, fun i h => by simp at h, fun i j h => by simp at h, fun _ => ⟨rfl, fun i h => by simp at h⟩⟩)
  refine ⟨_, _, some (nm, _), _, _, .inl ?_, ⟨h1, fun o' hs' hn => ?_⟩, .map nm w.heap.size (by simp [Gh.named]), h2, h⟩
  · simp [execOp, ho, Instr.makeMap]
  · have : o' ≠ nm := fun e => hS (e ▸ hs')
    simp [Gh.named, Gh.claimed, this, hn]
theorem ok_look {t kt e x i c kk z ax ai} (ho : o.op = .lookup t x i c) (hu : P.underlying t = some (.map kt e)) (hk : kkOf P kt = some kk) (hz : zeroAV P e = some z) (hx : trOpnd x = some ax) (hi : trOpnd i = some ai)
    (h : exOpN nm env σ R (.ext (.look kk z c ax ai))) : OpOk P o N env σ nm R := by
  refine .still fun K a w hf hs => ?_
  obtain ⟨mv, h1, h2⟩ := wth_some h
  obtain ⟨kv, h3, h4⟩ := wth_some h2
  have rm := trOpnd_rel hx h1 hf
  have rk := trOpnd_rel hi h3 hf
  obtain ⟨zv, hzr, hzrel⟩ := zeroAV_run (K := K) hz w
  cases mv <;> simp only [] at h4 <;> first | exact h4.elim | skip
  case map ob =>
    obtain ⟨r, he, hown⟩ := rel_map rm
    split at h4
    · rename_i d l hl
      obtain ⟨h5, h6⟩ := h4
      obtain ⟨ov, h7, h8⟩ := lkm_some h6
      obtain ⟨es, clock, hm⟩ := mapAt_of hs hl hown
      rw [lookK_idx] at h7
      simp only [Option.map_eq_some_iff] at h7
      obtain ⟨oi, h9, h10⟩ := h7
      have hfind := run_find hk rk w hm.rel h9
      have hcheck := run_check hk h5 rk es.isEmpty w
      cases oi with
      | none =>
        simp at h10; subst h10
        simp only [Option.getD_none, Option.isSome_none] at h8
        refine ⟨_, if c then .tuple #[zv, .bool false] else zv, ?_, ?_, h8⟩
        · simp [execOp, ho, he, Instr.lookup, run_underlying' hu, MapKept.run_getObj_map hm.heap, hcheck, hfind, foundAt, hzr]
        · cases c
          · exact hzrel
          · exact .tupL (.cons hzrel (.cons (.bool _) .nil))
      | some j =>
        obtain ⟨q1, p, q2, q3⟩ := idxK_lt kk kv h9
        have hj : j < es.toList.length := by rw [← hm.rel.1]; exact q1
        obtain ⟨r1, r2⟩ := hm.rel.2 j q1 hj
        simp only [Option.bind_some, q2, Option.map_some] at h10
        subst h10
        simp only [Option.getD_some, Option.isSome_some] at h8
        have hp : l[j] = p := by rw [List.getElem?_eq_getElem q1] at q2; exact Option.some.inj q2
        rw [hp] at r2
        refine ⟨_, if c then .tuple #[es.toList[j].val, .bool true] else es.toList[j].val, ?_, ?_, h8⟩
        · simp [execOp, ho, he, Instr.lookup, run_underlying' hu, MapKept.run_getObj_map hm.heap, hcheck, hfind, foundAt]
          have : j < es.size := by simpa using hj
          simp [this]
        · cases c
          · exact r2
          · exact .tupL (.cons r2 (.cons (.bool _) .nil))
    · exact h4.elim
  case nilmap =>
    have he := rel_nilmap rm
    obtain ⟨h5, h6⟩ := h4
    have hcheck := run_check hk h5 rk true w
    have hfind := run_find hk rk w (m := []) (es := []) (i := none) ⟨rfl, fun i h => by simp at h⟩ rfl
    refine ⟨_, if c then .tuple #[zv, .bool false] else zv, ?_, ?_, h6⟩
    · simp [execOp, ho, he, Instr.lookup, run_underlying' hu, hcheck, hfind, foundAt, hzr]
    · cases c
      · exact hzrel
      · exact .tupL (.cons hzrel (.cons (.bool _) .nil))
theorem RelM.push {K : Gh} {m : List (AV × AV)} {es : List MapEntry} (h : RelM K m es) {k v : AV} {e : MapEntry} (h1 : Rel K k e.key) (h2 : Rel K v e.val) : RelM K (m ++ [(k, v)]) (es ++ [e]) := by
  refine ⟨by simp [h.1], fun i hi hi' => ?_⟩
  have hl := h.1
  rcases Nat.lt_or_ge i m.length with h' | h'
  · have := h.2 i h' (by omega)
    rw [List.getElem_append_left h', List.getElem_append_left (by omega)]; exact this
  · have : i = m.length := by simp at hi; omega
    subst this
    rw [List.getElem_append_right (by omega), List.getElem_append_right (by omega)]
    simp [h1, h2, hl]
theorem RelM.modify {K : Gh} {m : List (AV × AV)} {es : List MapEntry} (h : RelM K m es) (j : Nat) {f : AV × AV → AV × AV} {g : MapEntry → MapEntry} (hfg : ∀ p e, Rel K p.1 e.key → Rel K p.2 e.val → Rel K (f p).1 (g e).key ∧ Rel K (f p).2 (g e).val) : RelM K (m.modify j f) (es.modify j g) := by
  refine ⟨by simp [h.1], fun i hi hi' => ?_⟩
  simp only [List.length_modify] at hi hi'
  have := h.2 i hi hi'
  rw [List.getElem_modify, List.getElem_modify]
  split
  · exact hfg _ _ this.1 this.2
  · exact this
theorem RelM.erase {K : Gh} {m : List (AV × AV)} {es : List MapEntry} (h : RelM K m es) (j : Nat) : RelM K (m.eraseIdx j) (es.eraseIdx j) := by
  have hl := h.1
  refine ⟨by simp [List.length_eraseIdx, hl], fun i hi hi' => ?_⟩
  rw [List.getElem_eraseIdx, List.getElem_eraseIdx]
  simp only [List.length_eraseIdx] at hi hi'
  split
  · exact h.2 _ _ _
  · exact h.2 _ _ _
theorem map_lay {K : Gh} {w : World} (hs : Sat K σ w) {ob r : Nat} {d : Bool} {m : List (AV × AV)} {es : Array MapEntry} {clock : Nat} (hl : σ ob = some (.map d m)) (hown : K.own ob = some (.map r)) (hm : MapAt K w r d m es clock)
    {k v : AV} {kv vv : Value} (rk : Rel K k kv) (rv : Rel K v vv) :
    Sat K (upd σ ob (.map d (m ++ [(k, v)]))) { w with heap := w.heap.setIfInBounds r (.map (es.push { key := kv, val := vv, born := clock }) (clock + 1)) } := by
  refine hs.mapSet hl hown hm (by rw [Array.toList_push]; exact hm.rel.push rk rv) (fun i h => ?_) (fun i j h h' e => ?_) (fun hd => ?_)
  · rw [Array.getElem_push]
    split
    · have := hm.lt i ‹_›; omega
    · simp
  · rw [Array.getElem_push, Array.getElem_push] at e
    simp only [Array.size_push] at h h'
    split at e <;> split at e
    · exact hm.inj i j _ _ e
    · have := hm.lt i ‹_›; simp at e; omega
    · have := hm.lt j ‹_›; simp at e; omega
    · omega
  · obtain ⟨d1, d2⟩ := hm.dense hd
    refine ⟨by simp [d1], fun i h => ?_⟩
    rw [Array.getElem_push]
    split
    · exact d2 i _
    · simp only [Array.size_push] at h; simp; omega
theorem map_mod {K : Gh} {w : World} (hs : Sat K σ w) {ob r : Nat} {d : Bool} {m : List (AV × AV)} {es : Array MapEntry} {clock : Nat} (hl : σ ob = some (.map d m)) (hown : K.own ob = some (.map r)) (hm : MapAt K w r d m es clock) (j : Nat)
    {f : AV × AV → AV × AV} {g : MapEntry → MapEntry} (hfg : ∀ p e, Rel K p.1 e.key → Rel K p.2 e.val → Rel K (f p).1 (g e).key ∧ Rel K (f p).2 (g e).val) (hb : ∀ e, (g e).born = e.born) :
    Sat K (upd σ ob (.map d (m.modify j f))) { w with heap := w.heap.setIfInBounds r (.map (es.modify j g) clock) } := by
  have eb : ∀ i, (h : i < (es.modify j g).size) → (es.modify j g)[i].born = (es[i]'(by simpa using h)).born := fun i h => by
    rw [Array.getElem_modify]
    split
    · exact hb _
    · rfl
  refine hs.mapSet hl hown hm (by rw [Array.toList_modify]; exact hm.rel.modify j hfg) (fun i h => ?_) (fun i i' h h' e => ?_) (fun hd => ?_)
  · rw [eb]; exact hm.lt i _
  · rw [eb, eb] at e; exact hm.inj i i' _ _ e
  · obtain ⟨d1, d2⟩ := hm.dense hd
    exact ⟨by simp [d1], fun i h => by rw [eb]; exact d2 i _⟩
theorem run_stays {old new : Value} (h : Instr.sameBits 10000 old new = true) (w : World) : (Instr.keyThatStays old new).run P w = .ok new w := by
  simp [Instr.keyThatStays, h]
theorem ok_mset {t kt e m k v kk am ak av} (ho : o.op = .mapUpdate t m k v ∨ o.op = .insert t m k v) (hd : o.dst = none) (hu : P.underlying t = some (.map kt e)) (hk : kkOf P kt = some kk) (hm : trOpnd m = some am) (hk' : trOpnd k = some ak) (hv : trOpnd v = some av)
    (h : exOpN nm env σ R (.ext (.mset kk am ak av))) : OpOk P o N env σ nm R := by
  intro S K a w hf hs _ _
  obtain ⟨mv, h1, h2⟩ := wth_some h
  obtain ⟨kv, h3, h4⟩ := wth_some h2
  obtain ⟨vv, h5, h6⟩ := wth_some h4
  have rm := trOpnd_rel hm h1 hf
  have rk := trOpnd_rel hk' h3 hf
  have rv := trOpnd_rel hv h5 hf
  cases mv <;> simp only [] at h6 <;> first | exact h6.elim | skip
  rename_i ob
  obtain ⟨r, he, hown⟩ := rel_map rm
  split at h6
  · rename_i d l hl
    obtain ⟨h7, h8⟩ := h6
    obtain ⟨l', h9, h10⟩ := lkm_some h8
    obtain ⟨es, clock, hma⟩ := mapAt_of hs hl hown
    rw [setK_idx] at h9
    simp only [Option.map_eq_some_iff] at h9
    obtain ⟨oi, h11, h12⟩ := h9
    have hfind := run_find hk rk w hma.rel h11
    have hcheck := run_check hk h7 rk false w
    have exe : ∀ {w'}, (Instr.mapUpdate t (.map (some r)) (a.eval k) (a.eval v)).run P w = .ok () w' → (execOp a.eval o).run P w = .ok .skip w' := by
      intro w' hr
      rcases ho with ho | ho <;> simp [execOp, ho, he, hr]
    cases oi with
    | none =>
      simp at h12; subst h12
      refine ⟨K, .tup [], some (ob, _), undef, _, .inr ⟨exe ?_, hd⟩, Gh.leS.refl K, .tupL .nil, map_lay hs hl hown hma rk rv, h10⟩
      simp [Instr.mapUpdate, run_underlying' hu, MapKept.run_getObj_map hma.heap, hcheck, hfind, foundAt, MapKept.run_setObj_map _ hma.heap]
    | some j =>
      simp at h12; subst h12
      obtain ⟨q1, p, q2, q3⟩ := idxK_lt kk kv h11
      have hj : j < es.toList.length := by rw [← hma.rel.1]; exact q1
      obtain ⟨r1, r2⟩ := hma.rel.2 j q1 hj
      have hp : l[j] = p := by rw [List.getElem?_eq_getElem q1] at q2; exact Option.some.inj q2
      rw [hp] at r1
      obtain ⟨e1, e2⟩ := eqKey_val q3 rk r1
      have hje : j < es.size := by simpa using hj
      have hold : (Option.map (fun e : MapEntry => e.key) es[j]?).getD (a.eval k) = a.eval k := by
        rw [Array.getElem?_eq_getElem hje]; simp; rw [e1]; simp
      have hst : Instr.sameBits 10000 (a.eval k) (a.eval k) = true := by rw [← e1] at e2; exact e2
      refine ⟨K, .tup [], some (ob, _), undef, _, .inr ⟨exe ?_, hd⟩, Gh.leS.refl K, .tupL .nil,
        map_mod hs hl hown hma j (f := fun _ => (kv, vv)) (g := fun e => { e with key := a.eval k, val := a.eval v }) (fun p e _ _ => ⟨rk, rv⟩) (fun e => rfl), h10⟩
      simp [Instr.mapUpdate, run_underlying' hu, MapKept.run_getObj_map hma.heap, hcheck, hfind, foundAt, hold, run_stays hst, MapKept.run_setObj_map _ hma.heap]
  · exact h6.elim
theorem ok_mdel {t kt e t2 m k kk am ak} (ho : o.op = .call { callee := .builtin .delete, args := #[m, k], argTypes := #[t, t2] }) (hu : P.underlying t = some (.map kt e)) (hk : kkOf P kt = some kk) (hm : trOpnd m = some am) (hk' : trOpnd k = some ak)
    (h : exOpN nm env σ R (.ext (.mdel kk am ak))) : OpOk P o N env σ nm R := by
  intro S K a w hf hs _ _
  obtain ⟨mv, h1, h2⟩ := wth_some h
  obtain ⟨kv, h3, h6⟩ := wth_some h2
  have rm := trOpnd_rel hm h1 hf
  have rk := trOpnd_rel hk' h3 hf
  cases mv <;> simp only [] at h6 <;> first | exact h6.elim | skip
  rename_i ob
  obtain ⟨r, he, hown⟩ := rel_map rm
  split at h6
  · rename_i d l hl
    obtain ⟨h7, h8⟩ := h6
    obtain ⟨l', h9, h10⟩ := lkm_some h8
    obtain ⟨es, clock, hma⟩ := mapAt_of hs hl hown
    rw [delK_idx] at h9
    simp only [Option.map_eq_some_iff] at h9
    obtain ⟨oi, h11, h12⟩ := h9
    have hfind := run_find hk rk w hma.rel h11
    have hcheck := run_check hk h7 rk es.isEmpty w
    have exe : ∀ {w'}, (Builtin.delete_ #[t, t2] o.type #[.map (some r), a.eval k]).run P w = .ok (.tuple #[]) w' → (execOp a.eval o).run P w = .ok (.value (.tuple #[])) w' := by
      intro w' hr
      have e2 : #[m, k].map a.eval = #[.map (some r), a.eval k] := by simp [he]
      simp only [execOp, ho, resolve, invoke, Go.builtin, Sem.run_bind, Sem.run_pure, Result.andThen_ok, e2, hr]
    cases oi with
    | none =>
      simp at h12; subst h12
      refine ⟨K, .tup [], some (ob, _), _, _, .inl (exe ?_), Gh.leS.refl K, .tupL .nil, hs.mapSet hl hown hma hma.rel hma.lt hma.inj (fun h => by simp at h), h10⟩
      simp [Builtin.delete_, run_underlying' hu, MapKept.run_getObj_map hma.heap, hcheck, hfind, foundAt, MapKept.run_setObj_map _ hma.heap]
    | some j =>
      simp at h12; subst h12
      obtain ⟨q1, p, q2, q3⟩ := idxK_lt kk kv h11
      have hj : j < es.toList.length := by rw [← hma.rel.1]; exact q1
      have hje : j < es.size := by simpa using hj
      have eb : ∀ i, (h : i < (es.eraseIdx j).size) → ∃ i', ∃ h' : i' < es.size, (es.eraseIdx j)[i].born = es[i'].born ∧ i' = if i < j then i else i + 1 := fun i h => by
        rw [Array.getElem_eraseIdx]
        have hsz : (es.eraseIdx j).size = es.size - 1 := by simp
        split
        · exact ⟨i, by omega, rfl, rfl⟩
        · exact ⟨i + 1, by omega, rfl, rfl⟩
      refine ⟨K, .tup [], some (ob, _), _, _, .inl (exe ?_), Gh.leS.refl K, .tupL .nil, hs.mapSet (es' := es.eraseIdx j) (clock' := clock) hl hown hma (by rw [Array.toList_eraseIdx]; exact hma.rel.erase j) (fun i h => ?_) (fun i i' h h' e => ?_) (fun h => by simp at h), h10⟩
      · simp [Builtin.delete_, run_underlying' hu, MapKept.run_getObj_map hma.heap, hcheck, hfind, foundAt, MapKept.run_setObj_map _ hma.heap, Array.eraseIdxIfInBounds, hje]
      · obtain ⟨i', h', e1, _⟩ := eb i h
        rw [e1]; exact hma.lt i' h'
      · obtain ⟨a1, a2, a3, a4⟩ := eb i h
        obtain ⟨b1, b2, b3, b4⟩ := eb i' h'
        rw [a3, b3] at e
        have := hma.inj a1 b1 a2 b2 e
        split at a4 <;> split at b4 <;> omega
  · exact h6.elim
theorem ok_lenM {t kt e x ax} (ho : o.op = .call { callee := .builtin .len, args := #[x], argTypes := #[t] }) (hu : P.underlying t = some (.map kt e)) (hx : trOpnd x = some ax)
    (h : exOpN nm env σ R (.ext (.lenM ax))) : OpOk P o N env σ nm R := by
  refine .still fun K a w hf hs => ?_
  obtain ⟨mv, h1, h2⟩ := wth_some h
  have rm := trOpnd_rel hx h1 hf
  cases mv <;> simp only [] at h2 <;> first | exact h2.elim | skip
  · rename_i ob
    obtain ⟨r, he, hown⟩ := rel_map rm
    split at h2
    · rename_i d l hl
      obtain ⟨es, clock, hma⟩ := mapAt_of hs hl hown
      have hsz : es.size = l.length := by have := hma.rel.1; simpa using this.symm
      refine ⟨_, .int .i64 l.length, ?_, .int _ _, h2⟩
      simp [execOp, ho, resolve, invoke, Go.builtin, Builtin.len_, he, run_underlying' hu, MapKept.run_getObj_map hma.heap, goInt, hsz]
    · exact h2.elim
  · have he := rel_nilmap rm
    refine ⟨_, .int .i64 0, ?_, .int _ _, h2⟩
    simp [execOp, ho, resolve, invoke, Go.builtin, Builtin.len_, he, run_underlying' hu, goInt]
theorem ok_isnil {op t x y yt ne ax ay} (ho : o.op = .binOp op t x y yt) (hop : op = .eql ∧ ne = false ∨ op = .neq ∧ ne = true) (hu : isSl P t = true) (hn : isNilC ay = true) (hx : trOpnd x = some ax) (hy : trOpnd y = some ay)
    (h : exOpN nm env σ R (.ext (.isnil ne ax))) : OpOk P o N env σ nm R := by
  refine .still fun K a w hf hs => ?_
  obtain ⟨av, h1, h2⟩ := wth_some h
  have ra := trOpnd_rel hx h1 hf
  obtain ⟨e, hut⟩ : ∃ e, P.underlying t = some (.slice e) := by
    unfold isSl at hu
    split at hu
    · exact ⟨_, by assumption⟩
    · simp at hu
  have hay : ay = .c (.slice [] .nil) := by
    unfold isNilC at hn
    split at hn
    · rfl
    · simp at hn
  subst hay
  have rb : Rel K (.slice [] .nil) (a.eval y) := trOpnd_rel hy rfl hf
  have eb : a.eval y = .slice none 0 0 := by
    generalize a.eval y = vy at rb
    cases rb with
    | sl0 a0 cap t ht =>
      rcases ht with h | ⟨h, _⟩ | ⟨_, rfl, rfl⟩ | ⟨_, _, _, h, _⟩
      · simp at h
      · simp at h
      · rfl
      · simp at h
    | slice l t b off cap sz v hsz hc hr ht hcap => exact ht.elim
  have key : ∀ {a0 : Option Addr} {n cap : Nat} {v : Bool}, a.eval x = .slice a0 n cap → (ne = false → v = a0.isNone) → (ne = true → v = !a0.isNone) → (execOp a.eval o).run P w = .ok (.value (.bool v)) w := fun {a0 n cap v} ea h1 h2 => by
    have hq' : ∀ d, (Op.equalIn (d + 1) t (.slice a0 n cap) (.slice none 0 0)).run P w = .ok a0.isNone w := fun d => by
      cases a0 <;> simp [Op.equalIn, run_underlying' hut]
    have hq : (Op.equalIn 10000 t (.slice a0 n cap) (.slice none 0 0)).run P w = .ok a0.isNone w := hq' 9999
    have hg : ∀ op, (eqGuard op t x y (.slice a0 n cap) (.slice none 0 0)).run P w = .ok () w := fun op => by
      unfold eqGuard; split <;> rfl
    rcases hop with ⟨rfl, rfl⟩ | ⟨rfl, rfl⟩
    · simp only [execOp, ho, ea, eb, Sem.run_bind, hg, Result.andThen_ok, binOp, Op.equal, Op.maxDepth, hq, Sem.run_pure, h1 rfl]
    · simp only [execOp, ho, ea, eb, Sem.run_bind, hg, Result.andThen_ok, binOp, Op.equal, Op.maxDepth, hq, Sem.run_pure, h2 rfl]
  cases av <;> first | exact h2.elim | skip
  rename_i l t'
  by_cases hl : l = []
  · subst hl
    obtain ⟨k1, k2⟩ := h2.1 rfl
    obtain ⟨a0, n, cap, ea⟩ : ∃ a0 n cap, a.eval x = .slice a0 n cap := by
      generalize a.eval x = vx at ra
      cases ra with
      | sl0 a0 cap t ht => exact ⟨_, _, _, rfl⟩
      | slice l t b off cap sz v hsz hc hr ht hcap => exact ⟨_, _, _, rfl⟩
    obtain ⟨v, hv1, hv2⟩ : ∃ v : Bool, (ne = false → v = a0.isNone) ∧ (ne = true → v = !a0.isNone) := by
      cases ne
      · exact ⟨a0.isNone, fun _ => rfl, fun h => by simp at h⟩
      · exact ⟨!a0.isNone, fun h => by simp at h, fun _ => rfl⟩
    refine ⟨_, .bool v, key ea hv1 hv2, .bool _, ?_⟩
    cases v
    · exact k2
    · exact k1
  · have k := h2.2 hl
    obtain ⟨b, off, cap, ea⟩ : ∃ b off cap, a.eval x = .slice (some ⟨b, off, none⟩) l.length cap := by
      generalize a.eval x = vx at ra
      cases ra with
      | sl0 a0 cap t ht => exact absurd rfl hl
      | slice l t b off cap sz v hsz hc hr ht hcap => exact ⟨_, _, _, rfl⟩
    exact ⟨_, .bool ne, key ea (fun h => by rw [h]; rfl) (fun h => by rw [h]; rfl), .bool _, k⟩
theorem ok_ment {t kt e m k kk z am ak} (ho : o.op = .mapEntry t m k) (hu : P.underlying t = some (.map kt e)) (hk : kkOf P kt = some kk) (hz : zeroAV P e = some z) (hm : trOpnd m = some am) (hk' : trOpnd k = some ak)
    (h : exOpN nm env σ R (.ext (.ment kk z am ak))) : OpOk P o N env σ nm R := by
  intro S K a w hf hs _ _
  obtain ⟨mv, h1, h2⟩ := wth_some h
  obtain ⟨kv, h3, h6⟩ := wth_some h2
  have rm := trOpnd_rel hm h1 hf
  have rk := trOpnd_rel hk' h3 hf
  obtain ⟨zv, hzr, hzrel⟩ := zeroAV_run (K := K) hz w
  cases mv <;> simp only [] at h6 <;> first | exact h6.elim | skip
  rename_i ob
  obtain ⟨r, he, hown⟩ := rel_map rm
  split at h6
  · rename_i l hl
    obtain ⟨h7, h8⟩ := h6
    obtain ⟨l', h9, h10⟩ := lkm_some h8
    obtain ⟨es, clock, hma⟩ := mapAt_of hs hl hown
    obtain ⟨d1, d2⟩ := hma.dense rfl
    have hsz : es.size = l.length := by have := hma.rel.1; simpa using this.symm
    rw [entK_idx] at h9
    simp only [Option.map_eq_some_iff] at h9
    obtain ⟨oi, h11, h12⟩ := h9
    have hfind := run_find hk rk w hma.rel h11
    have hcheck := run_check hk h7 rk false w
    cases oi with
    | none =>
      simp at h12; subst h12
      refine ⟨K, _, some (ob, _), .tuple #[zv, .int .i64 clock], _, .inl ?_, Gh.leS.refl K, .tupL (.cons hzrel (.cons ?_ .nil)), map_lay hs hl hown hma rk hzrel, h10⟩
      · simp [execOp, ho, he, Instr.mapEntry, run_underlying' hu, MapKept.run_getObj_map hma.heap, hcheck, hfind, foundAt, hzr, MapKept.run_setObj_map _ hma.heap, goInt]
      · rw [d1, hsz]; exact .int _ _
    | some j =>
      simp at h12; subst h12
      obtain ⟨q1, p, q2, q3⟩ := idxK_lt kk kv h11
      have hj : j < es.toList.length := by rw [← hma.rel.1]; exact q1
      obtain ⟨r1, r2⟩ := hma.rel.2 j q1 hj
      have hp : l[j] = p := by rw [List.getElem?_eq_getElem q1] at q2; exact Option.some.inj q2
      rw [hp] at r1 r2
      obtain ⟨e1, e2⟩ := eqKey_val q3 rk r1
      have hje : j < es.size := by simpa using hj
      have hold : es[j].key = a.eval k := by rw [e1]; simp
      have hst : Instr.sameBits 10000 (a.eval k) (a.eval k) = true := by rw [← e1] at e2; exact e2
      refine ⟨K, _, some (ob, _), .tuple #[es.toList[j].val, .int .i64 j], _, .inl ?_, Gh.leS.refl K, .tupL (.cons ?_ (.cons (.int _ _) .nil)),
        map_mod hs hl hown hma j (f := fun p => (kv, p.2)) (g := fun e => { e with key := a.eval k }) (fun p e _ h => ⟨rk, h⟩) (fun e => rfl), h10⟩
      · simp [execOp, ho, he, Instr.mapEntry, run_underlying' hu, MapKept.run_getObj_map hma.heap, hcheck, hfind, foundAt, hold, run_stays hst, MapKept.run_setObj_map _ hma.heap, goInt, hje, d2 j hje]
      · rw [q2]; simpa using r2
  · exact h6.elim
theorem ok_eset {t m s v am as_ av} (ho : o.op = .entryStore t m s v) (hd : o.dst = none) (hm : trOpnd m = some am) (hs' : trOpnd s = some as_) (hv : trOpnd v = some av)
    (h : exOpN nm env σ R (.ext (.eset am as_ av))) : OpOk P o N env σ nm R := by
  intro S K a w hf hs _ _
  obtain ⟨mv, h1, h2⟩ := wth_some h
  obtain ⟨sv, h3, h4⟩ := wth_some h2
  obtain ⟨vv, h5, h6⟩ := wth_some h4
  have rm := trOpnd_rel hm h1 hf
  have rs := trOpnd_rel hs' h3 hf
  have rv := trOpnd_rel hv h5 hf
  split at h6
  · rename_i ob i
    obtain ⟨r, he, hown⟩ := rel_map rm
    split at h6
    · rename_i l hl
      obtain ⟨⟨p1, p2⟩, h7⟩ := h6
      obtain ⟨es, clock, hma⟩ := mapAt_of hs hl hown
      obtain ⟨d1, d2⟩ := hma.dense rfl
      have hsz : es.size = l.length := by have := hma.rel.1; simpa using this.symm
      have ei := rel_int rs
      have hfi : es.findIdx? (fun e => (e.born : Int) == i) = some i.toNat := by
        rw [Array.findIdx?_eq_some_iff_getElem]
        refine ⟨by omega, ?_, fun j hj => ?_⟩
        · rw [d2 _ (by omega)]; simp; omega
        · rw [d2 _ (by omega)]; simp; omega
      refine ⟨K, .tup [], some (ob, _), undef, _, .inr ⟨?_, hd⟩, Gh.leS.refl K, .tupL .nil,
        map_mod hs hl hown hma i.toNat (f := fun p => (p.1, vv)) (g := fun e => { e with val := a.eval v }) (fun p e h _ => ⟨h, rv⟩) (fun e => rfl), h7⟩
      simp [execOp, ho, he, ei, Instr.entryStore, MapKept.run_getObj_map hma.heap, asInt, asIntOf, hfi, MapKept.run_setObj_map _ hma.heap]
    · exact h6.elim
  · exact h6.elim
theorem ok_tas {x xt t c z ax d} (ho : o.op = .typeAssert x xt t c) (hu : P.underlying t = some d) (hd : ∀ ms, d ≠ .interface ms) (hz : zeroAV P t = some z) (hx : trOpnd x = some ax)
    (h : exOpN nm env σ R (.ext (.tas t z c ax))) : OpOk P o N env σ nm R := by
  refine .still fun K a w hf hs => ?_
  obtain ⟨av, h1, h2⟩ := wth_some h
  have ra := trOpnd_rel hx h1 hf
  obtain ⟨zv, hzr, hzrel⟩ := zeroAV_run (K := K) hz w
  have hun : ∀ {β : Type} (f : List (String × TypeId) → β), True := fun _ => trivial
  cases av <;> simp only [] at h2 <;> first | exact h2.elim | skip
  case nili =>
    obtain ⟨rfl, h3⟩ := h2
    have he : a.eval x = .nilIface := by generalize a.eval x = v at ra; cases ra; rfl
    refine ⟨_, .tuple #[zv, .bool false], ?_, .tupL (.cons hzrel (.cons (.bool _) .nil)), h3⟩
    cases d <;> first | exact absurd rfl (hd _) | simp [execOp, ho, he, Instr.typeAssert, run_underlying' hu, hzr]
  case iface t' v =>
    obtain ⟨u, he, hu'⟩ : ∃ u, a.eval x = .iface t' u ∧ Rel K v u := by
      generalize a.eval x = vv at ra
      cases ra with | iface _ _ u h => exact ⟨u, rfl, h⟩
    by_cases htt : t' = t
    · subst htt
      refine ⟨_, if c then .tuple #[u, .bool true] else u, ?_, ?_, h2.1 rfl⟩
      · cases d <;> first | exact absurd rfl (hd _) | simp [execOp, ho, he, Instr.typeAssert, run_underlying' hu]
      · cases c
        · exact hu'
        · exact .tupL (.cons hu' (.cons (.bool _) .nil))
    · obtain ⟨rfl, h3⟩ := h2.2 htt
      refine ⟨_, .tuple #[zv, .bool false], ?_, .tupL (.cons hzrel (.cons (.bool _) .nil)), h3⟩
      cases d <;> first | exact absurd rfl (hd _) | simp [execOp, ho, he, Instr.typeAssert, run_underlying' hu, hzr, htt]
end ops
end Abs

namespace Abs
open Go
inductive Lift (B : AV → AV → Prop) : AV → AV → Prop
  | refl (a) : Lift B a a
  | base (a b) (h : B a b) : Lift B a b
  | slice (l0 l : List AV) (t0 t : Tok) (ht : t0 = .no ∨ t0 = t) (hl : l0.length = l.length) (h : ∀ i, (h0 : i < l0.length) → (h1 : i < l.length) → Lift B l0[i] l[i]) : Lift B (.slice l0 t0) (.slice l t)
  | agg (l0 l : List AV) (hl : l0.length = l.length) (h : ∀ i, (h0 : i < l0.length) → (h1 : i < l.length) → Lift B l0[i] l[i]) : Lift B (.agg l0) (.agg l)
  | tup (l0 l : List AV) (hl : l0.length = l.length) (h : ∀ i, (h0 : i < l0.length) → (h1 : i < l.length) → Lift B l0[i] l[i]) : Lift B (.tup l0) (.tup l)
def LiftL (B : AV → AV → Prop) (l0 l : List AV) : Prop := l0.length = l.length ∧ ∀ i, (h0 : i < l0.length) → (h1 : i < l.length) → Lift B l0[i] l[i]
def PlainB (B : AV → AV → Prop) : Prop := ∀ a b, B a b → oneA a = true ∧ oneA b = true
theorem cells_one {a : AV} (h : oneA a = true) : cellsA a = [a] := by cases a <;> simp [oneA] at h <;> rfl
theorem LiftL.refl (B) (l : List AV) : LiftL B l l := ⟨rfl, fun _ _ _ => .refl _⟩
theorem LiftL.nil (B) : LiftL B [] [] := LiftL.refl B []
theorem LiftL.cons {B a b l m} (h : Lift B a b) (hs : LiftL B l m) : LiftL B (a :: l) (b :: m) :=
  ⟨by simp [hs.1], fun i h1 h2 => by
    cases i with
    | zero => exact h
    | succ i => exact hs.2 i (by simpa using h1) (by simpa using h2)⟩
theorem LiftL.append {B l0 l m0 m} (h : LiftL B l0 l) (h' : LiftL B m0 m) : LiftL B (l0 ++ m0) (l ++ m) :=
  ⟨by simp [h.1, h'.1], fun i h1 h2 => by
    rw [List.getElem_append, List.getElem_append]
    by_cases hi : i < l0.length
    · have : i < l.length := h.1 ▸ hi
      simp only [hi, this, dite_true]; exact h.2 i hi this
    · have : ¬ i < l.length := h.1 ▸ hi
      simp only [hi, this, dite_false]
      have e : i - l0.length = i - l.length := by rw [h.1]
      have h3 : i - l0.length < m0.length := by simp at h1; omega
      have := h'.2 (i - l0.length) h3 (by rw [← h'.1]; exact h3)
      simp only [e] at this ⊢
      exact this⟩
theorem LiftL.cons_inv {B a l m} (h : LiftL B (a :: l) m) : ∃ b r, m = b :: r ∧ Lift B a b ∧ LiftL B l r := by
  cases m with
  | nil => simp [LiftL] at h
  | cons b r =>
    refine ⟨b, r, rfl, h.2 0 (by simp) (by simp), by simpa using h.1, fun i h1 h2 => ?_⟩
    exact h.2 (i + 1) (by simpa using h1) (by simpa using h2)
theorem Lift.cells {B a b} (hB : PlainB B) (h : Lift B a b) : LiftL B (cellsA a) (cellsA b) := by
  cases h with
  | refl => exact .refl B _
  | base _ _ h => rw [cells_one (hB _ _ h).1, cells_one (hB _ _ h).2]; exact .cons (.base _ _ h) (.nil B)
  | slice l0 l t0 t ht hl h => exact .cons (.slice l0 l t0 t ht hl h) (.nil B)
  | agg l0 l hl h => exact ⟨hl, h⟩
  | tup l0 l hl h => exact .cons (.tup l0 l hl h) (.nil B)
theorem LiftL.flat {B} (hB : PlainB B) : ∀ {l0 l : List AV}, LiftL B l0 l → LiftL B (flat l0) (flat l)
  | [], l, h => by
    cases l with
    | nil => exact .nil B
    | cons a l => simp [LiftL] at h
  | a :: l0, m, h => by
    obtain ⟨b, l, rfl, h1, h2⟩ := h.cons_inv
    have := (h1.cells hB).append (LiftL.flat hB h2)
    simpa [Abs.flat] using this
theorem relL_of_cells {K : Gh} : ∀ {b : AV} {vs : List Value}, RelL K (cellsA b) vs → ∃ v, Rel K b v ∧ v.cells.toList = vs := by
  intro b vs h
  cases b with
  | agg cs => exact ⟨.agg vs.toArray, .aggL (by simpa [cellsA] using h), by simp [Value.cells]⟩
  | _ =>
    obtain ⟨v, r, rfl, h1, h2⟩ := h.cons_inv
    obtain rfl : r = [] := by have := h2.1; simpa using this.symm
    exact ⟨v, h1, by cases h1 <;> rfl⟩
theorem Rel.lift {B : AV → AV → Prop} (hB : PlainB B) {K K' : Gh} (hK : K.le K') (hr : ∀ a b v, B a b → Rel K b v → Rel K' a v) {a0 a : AV} (h : Lift B a0 a) : ∀ {v : Value}, Rel K a v → Rel K' a0 v := by
  induction h with
  | refl a => intro v h; exact h.mono hK
  | base a b hb => intro v h; exact hr a b v hb h
  | agg l0 l hl h ih =>
    intro v hv
    cases hv with
    | agg _ vs hs hr' => exact .agg l0 vs (by omega) fun i h1 h2 => ih i h1 (by omega) (hr' i (by omega) h2)
  | tup l0 l hl h ih =>
    intro v hv
    cases hv with
    | tup _ vs hs hr' => exact .tup l0 vs (by omega) fun i h1 h2 => ih i h1 (by omega) (hr' i (by omega) h2)
  | slice l0 l t0 t ht hl h ih =>
    intro v hv
    have tk : ∀ {b off cap sz}, TokOk K t l.length b off cap sz → TokOk K' t0 l0.length b off cap sz := by
      intro b off cap sz hk
      rw [hl]
      rcases ht with rfl | rfl
      · trivial
      · exact hk.mono hK
    cases hv with
    | sl0 a cap _ ht' =>
      obtain rfl : l0 = [] := by simpa using hl
      refine .sl0 a cap t0 ?_
      rcases ht with rfl | rfl
      · exact .inl rfl
      · rcases ht' with h | h | h | ⟨h1, h2, o, h3, h4⟩
        · exact .inl h
        · exact .inr (.inl h)
        · exact .inr (.inr (.inl h))
        · exact .inr (.inr (.inr ⟨h1, h2, o, h3, h4.mono hK⟩))
    | slice _ _ b off cap sz u hsz hc hr' htk hcap =>
      have hL : LiftL B l0 l := ⟨hl, h⟩
      have hF := hL.flat hB
      have hl' : ∀ x ∈ l0, (cellsA x).length = sz := by
        intro x hx
        obtain ⟨i, hi, rfl⟩ := List.getElem_of_mem hx
        have := ((h i hi (by omega)).cells hB).1
        rw [this]; exact hsz _ (List.getElem_mem _)
      have key : ∀ i, (hi : i < (Abs.flat l0).length) → Rel K' (Abs.flat l0)[i] (u i) := by
        -- element by element
        have gen : ∀ (p0 p : List AV) (k : Nat), p0.length = p.length → (∀ j, (h0 : j < p0.length) → (h1 : j < p.length) → Lift B p0[j] p[j] ∧ ∀ v, Rel K p[j] v → Rel K' p0[j] v) →
            (∀ i, (hi : i < (Abs.flat p).length) → Rel K (Abs.flat p)[i] (u (k + i))) → ∀ i, (hi : i < (Abs.flat p0).length) → Rel K' (Abs.flat p0)[i] (u (k + i)) := by
          intro p0
          induction p0 with
          | nil => intro p k _ _ _ i hi; simp [Abs.flat] at hi
          | cons x p0 ihp =>
            intro p k hlen hj hrel i hi
            cases p with
            | nil => simp at hlen
            | cons y p =>
              obtain ⟨hxy, hv0⟩ := hj 0 (by simp) (by simp)
              simp only [List.getElem_cons_zero] at hxy hv0
              have hc0 := hxy.cells hB
              have e1 : Abs.flat (x :: p0) = cellsA x ++ Abs.flat p0 := by simp [Abs.flat]
              have e2 : Abs.flat (y :: p) = cellsA y ++ Abs.flat p := by simp [Abs.flat]
              have hcy : RelL K (cellsA y) ((List.range (cellsA y).length).map fun j => u (k + j)) := by
                refine ⟨by simp, fun j h1 h2 => ?_⟩
                have := hrel j (by rw [e2, List.length_append]; omega)
                simp only [e2, List.getElem_append_left h1] at this
                simpa using this
              obtain ⟨v, hv, hvs⟩ := relL_of_cells hcy
              have hx := (hv0 v hv).cells
              rw [hvs] at hx
              by_cases hi0 : i < (cellsA x).length
              · have := hx.2 i hi0 (by have := hc0.1; simp; omega)
                simp only [e1, List.getElem_append_left hi0]
                simpa using this
              · have hi1 : i - (cellsA x).length < (Abs.flat p0).length := by rw [e1, List.length_append] at hi; omega
                have := ihp p (k + (cellsA y).length) (by simpa using hlen) (fun j h0 h1 => by
                    have := hj (j + 1) (by simpa using h0) (by simpa using h1)
                    simpa using this) (fun j hj' => by
                    have := hrel ((cellsA y).length + j) (by rw [e2, List.length_append]; omega)
                    simp only [e2, List.getElem_append_right (Nat.le_add_right _ _), Nat.add_sub_cancel_left] at this
                    rw [Nat.add_assoc]; exact this) (i - (cellsA x).length) hi1
                simp only [e1, List.getElem_append_right (Nat.le_of_not_lt hi0)]
                have e3 : k + (cellsA y).length + (i - (cellsA x).length) = k + i := by rw [← hc0.1]; omega
                rw [e3] at this; exact this
        have := gen l0 l 0 hl (fun j h0 h1 => ⟨h j h0 h1, fun v hv => ih j h0 h1 hv⟩) (fun i hi => by simpa using hr' i hi)
        intro i hi
        simpa using this i hi
      have := Rel.slice (K := K') l0 t0 b off cap sz u hl' (fun i hi => hK.claim _ _ _ (hc i (by rw [← hF.1]; exact hi))) key (tk htk) (by omega)
      rw [hl] at this; exact this

/-! ### Views -/
def LiftO (B : AV → AV → Prop) : AObj → AObj → Prop
  | .cells l0, .cells l => LiftL B l0 l
  | .vec s0 n0 l0, .vec s n l => s0 = s ∧ n0 = n ∧ LiftL B l0 l
  | .grow s0 n0, .grow s n => s0 = s ∧ n0 = n
  | .map d0 m0, .map d m => (d0 = true → d = true) ∧ m0 = m
  | .grow s0 n0, .virt s => s0 = s ∧ n0 = 0
  | .virt s0, .virt s => s0 = s
  | _, _ => False
theorem LiftO.refl (B) (x : AObj) : LiftO B x x := by
  cases x with
  | cells l => exact LiftL.refl B l
  | vec s n l => exact ⟨rfl, rfl, LiftL.refl B l⟩
  | grow s n => exact ⟨rfl, rfl⟩
  | map d m => exact ⟨id, rfl⟩
  | virt s => exact rfl
def View (f : AV → AV → Prop) (σ0 σ : Sig) : Prop := ∀ S K w, Bnd S → Sat K σ w → ∃ K', K.leS S K' ∧ Sat K' σ0 w ∧ ∀ a0 a v, f a0 a → Rel K a v → Rel K' a0 v
def Vw (env0 : Env) (σ0 : Sig) (env : Env) (σ : Sig) : Prop := ∃ f, View f σ0 σ ∧ ∀ i v0, lk env0 i = some v0 → ∃ v, lk env i = some v ∧ f v0 v
def Vr (v0 : AV) (σ0 : Sig) (v : AV) (σ : Sig) : Prop := ∃ f, View f σ0 σ ∧ f v0 v
theorem Fr.view {K N env env0 a σ σ0 w} {S : Nat → Prop} (hv : Vw env0 σ0 env σ) (hS : Bnd S) (hf : Fr K N env a) (hs : Sat K σ w) : ∃ K', K.leS S K' ∧ Fr K' N env0 a ∧ Sat K' σ0 w := by
  obtain ⟨f, hv, he⟩ := hv
  obtain ⟨K', h1, h2, h3⟩ := hv S K w hS hs
  refine ⟨K', h1, ⟨hf.size, hf.defers.trans h1.le.ds.symm, fun i v0 e0 => ?_⟩, h2⟩
  obtain ⟨v, e, hfv⟩ := he i v0 e0
  obtain ⟨u, e1, r⟩ := hf.rel i v e
  exact ⟨u, e1, h3 _ _ _ hfv r⟩
theorem Rel.view {K v v0 u σ σ0 w} {S : Nat → Prop} (hv : Vr v0 σ0 v σ) (hS : Bnd S) (hr : Rel K v u) (hs : Sat K σ w) : ∃ K', K.leS S K' ∧ Rel K' v0 u ∧ Sat K' σ0 w := by
  obtain ⟨f, hv, he⟩ := hv
  obtain ⟨K', h1, h2, h3⟩ := hv S K w hS hs
  exact ⟨K', h1, h3 _ _ _ he hr, h2⟩
def nilB (σ : Sig) (a b : AV) : Prop := ∃ o sz, a = .slice [] (.own o) ∧ b = .slice [] .nil ∧ σ o = some (.virt sz)
theorem nilB_plain (σ : Sig) : PlainB (nilB σ) := fun a b ⟨o, sz, h1, h2, _⟩ => by subst h1 h2; exact ⟨rfl, rfl⟩
abbrev FL (σ : Sig) : AV → AV → Prop := Lift (nilB σ)
abbrev FLs (σ : Sig) : List AV → List AV → Prop := LiftL (nilB σ)
abbrev FLO (σ : Sig) : AObj → AObj → Prop := LiftO (nilB σ)
def SubXr (ρ : Sig) (ex : List Nat) (σ0 σ : Sig) : Prop := ∀ o, o ∉ ex → ∀ x, σ0 o = some x → ∃ y, σ o = some y ∧ FLO ρ x y
abbrev SubX (ex : List Nat) (σ0 σ : Sig) : Prop := SubXr σ ex σ0 σ
def NilsOk (K : Gh) (σ : Sig) : Prop := ∀ o sz, σ o = some (.virt sz) → NilOwn K o
theorem Sat.nils {K σ w} (h : Sat K σ w) : NilsOk K σ := fun o sz e => by
  obtain ⟨x, h1, h2⟩ := h.live o _ e
  cases x <;> simp only [ObjSat] at h2
  exact ⟨_, .inl h1⟩
theorem Rel.fl {K σ a0 a v} (hn : NilsOk K σ) (h : FL σ a0 a) (hr : Rel K a v) : Rel K a0 v := Rel.lift (nilB_plain σ) (Gh.le.refl K) (fun a b v ⟨o, sz, h1, h2, h3⟩ hr => by
  subst h1 h2
  cases hr with
  | sl0 a cap t ht =>
    simp at ht
    obtain ⟨rfl, rfl⟩ := ht
    exact .sl0 none 0 (.own o) (.inr (.inr (.inr ⟨rfl, rfl, o, rfl, hn o sz h3⟩)))
  | slice _ _ _ _ _ _ _ _ _ _ htk => exact htk.elim) h hr
theorem RelL.fl {K σ l0 l vs} (hn : NilsOk K σ) (h : FLs σ l0 l) (hr : RelL K l vs) : RelL K l0 vs :=
  ⟨h.1.trans hr.1, fun i h1 h2 => (hr.2 i (by rw [← h.1]; exact h1) h2).fl hn (h.2 i h1 (by rw [← h.1]; exact h1))⟩
theorem ObjSat.fl {K σ w e x y} (hn : NilsOk K σ) (h : ObjSat K w e y) (hf : FLO σ x y) : ObjSat K w e x := by
  cases x <;> cases y <;> simp only [LiftO] at hf
  · cases e <;> simp only [ObjSat] at h ⊢
    obtain ⟨h1, ⟨c, el, h2, h3⟩, h4⟩ := h
    exact ⟨h1, ⟨c, el, h2, h3.fl hn hf⟩, h4⟩
  · obtain ⟨rfl, rfl, hf⟩ := hf
    cases e <;> simp only [ObjSat] at h ⊢
    obtain ⟨h1, h2, h00, h01, h02, ⟨c, el, h3, h4, h6⟩, h7⟩ := h
    have hl := hf.1
    exact ⟨h1, h2, by omega, h01, h02, ⟨c, el, h3, h4, fun i q1 q2 => ⟨(h6 i (by omega) q2).1.fl hn (hf.2 i q1 (by omega)), (h6 i (by omega) q2).2⟩⟩, h7⟩
  · obtain ⟨rfl, rfl⟩ := hf; exact h
  · obtain ⟨rfl, rfl⟩ := hf
    cases e <;> simp only [ObjSat] at h ⊢
    exact ⟨h, trivial⟩
  · obtain ⟨hd, rfl⟩ := hf
    cases e <;> simp only [ObjSat] at h ⊢
    obtain ⟨h1, es, clock, h2, h3, h4, h5, h6, h7⟩ := h
    exact ⟨h1, es, clock, h2, h3, h4, h5, h6, fun hd' => h7 (hd hd')⟩
  · subst hf; exact h
theorem view_fl {σ0 σ : Sig} (h : SubX [] σ0 σ) : View (FL σ) σ0 σ := fun S K w _ hs =>
  ⟨K, Gh.leS.refl K, { hs with
    live := fun o x e => by
      obtain ⟨y, e1, hf⟩ := h o (by simp) x e
      obtain ⟨e2, h2, h3⟩ := hs.live o y e1
      exact ⟨e2, h2, h3.fl hs.nils hf⟩
    apart := fun o o' x x' e e' h1 h2 hne q1 q2 => by
      obtain ⟨y, e1, _⟩ := h o (by simp) x h1
      obtain ⟨y', e1', _⟩ := h o' (by simp) x' h2
      exact hs.apart o o' y y' e e' e1 e1' hne q1 q2 }, fun _ _ _ hf hr => hr.fl hs.nils hf⟩
def WkF (σ : Sig) : Env → Env → Prop
  | [], _ => True
  | (i, some v0) :: e, env => (∃ v, lk env i = some v ∧ FL σ v0 v) ∧ WkF σ e env
  | (i, none) :: e, env => WkF σ e env
theorem WkF.get {σ : Sig} : ∀ {e env : Env}, WkF σ e env → ∀ i v0, lk e i = some v0 → ∃ v, lk env i = some v ∧ FL σ v0 v
  | [], _, _, i, v0, hv => by simp [lk] at hv
  | (j, u) :: e, env, h, i, v0, hv => by
    simp only [lk] at hv
    by_cases hi : i = j
    · subst hi; simp at hv; subst hv; exact h.1
    · simp only [hi, if_false] at hv
      cases u with
      | none => exact WkF.get (e := e) h i v0 hv
      | some u => exact WkF.get (e := e) h.2 i v0 hv
theorem vw_of {env0 env : Env} {σ0 σ : Sig} (h : WkF σ env0 env) (hs : SubX [] σ0 σ) : Vw env0 σ0 env σ := ⟨FL σ, view_fl hs, h.get⟩
theorem vr_of {v0 v : AV} {σ0 σ : Sig} (h : FL σ v0 v) (hs : SubX [] σ0 σ) : Vr v0 σ0 v σ := ⟨FL σ, view_fl hs, h⟩
theorem Vw.refl (env : Env) (σ : Sig) : Vw env σ env σ := ⟨FL σ, view_fl fun o _ x e => ⟨x, e, .refl _ x⟩, fun i v e => ⟨v, e, .refl v⟩⟩
theorem Vr.refl (v : AV) (σ : Sig) : Vr v σ v σ := ⟨FL σ, view_fl fun o _ x e => ⟨x, e, .refl _ x⟩, .refl v⟩

/-! ### For simp -/
theorem FL.states {σ σ' : Sig} (h : ∀ o sz, σ o = some (.virt sz) → σ' o = some (.virt sz)) {a b : AV} (hf : FL σ a b) : FL σ' a b := by
  induction hf with
  | refl a => exact .refl a
  | base a b hb => obtain ⟨o, sz, h1, h2, h3⟩ := hb; exact .base _ _ ⟨o, sz, h1, h2, h o sz h3⟩
  | slice l0 l t0 t ht hl _ ih => exact .slice l0 l t0 t ht hl ih
  | agg l0 l hl _ ih => exact .agg l0 l hl ih
  | tup l0 l hl _ ih => exact .tup l0 l hl ih
section
variable (ρ : Sig)
theorem subx_refl (ex : List Nat) (σ : Sig) : SubXr ρ ex σ σ = True := by
  simp only [eq_iff_iff, iff_true]; exact fun o _ x e => ⟨x, e, .refl _ x⟩
theorem subx_l (ex : List Nat) (σ0 σ : Sig) (o : Nat) (x : AObj) : SubXr ρ ex (upd σ0 o x) σ = ((o ∈ ex ∨ ∃ y, σ o = some y ∧ FLO ρ x y) ∧ SubXr ρ (o :: ex) σ0 σ) := by
  simp only [eq_iff_iff]
  constructor
  · intro h
    refine ⟨?_, fun o' hn x' e => h o' (by simp_all) x' (by simp at hn; simp [upd, hn, e])⟩
    by_cases ho : o ∈ ex
    · exact .inl ho
    · exact .inr (h o ho x (by simp [upd]))
  · rintro ⟨h1, h2⟩ o' hn x' e
    by_cases ho : o' = o
    · subst ho
      simp [upd] at e; subst e
      exact h1.resolve_left hn
    · exact h2 o' (by simp [ho, hn]) x' (by simpa [upd, ho] using e)
theorem subx_r (ex : List Nat) (σ0 σ : Sig) (o : Nat) (x : AObj) (h : o ∈ ex) : SubXr ρ ex σ0 (upd σ o x) = SubXr ρ ex σ0 σ := by
  have key : ∀ o', o' ∉ ex → o' ≠ o := fun o' hn e => hn (e ▸ h)
  simp only [eq_iff_iff]
  constructor
  · intro hs o' hn x' e
    obtain ⟨y, e1, hf⟩ := hs o' hn x' e
    exact ⟨y, by simpa [upd, key o' hn] using e1, hf⟩
  · intro hs o' hn x' e
    obtain ⟨y, e1, hf⟩ := hs o' hn x' e
    exact ⟨y, by simpa [upd, key o' hn] using e1, hf⟩
theorem subx_new (ex : List Nat) (σ0 σ : Sig) (o : Nat) (x : AObj) (h : σ0 o = none) : SubXr ρ ex σ0 (upd σ o x) = SubXr ρ ex σ0 σ := by
  have key : ∀ o' x', σ0 o' = some x' → o' ≠ o := fun o' x' e e' => by subst e'; simp [h] at e
  simp only [eq_iff_iff]
  constructor
  · intro hs o' hn x' e
    obtain ⟨y, e1, hf⟩ := hs o' hn x' e
    exact ⟨y, by simpa [upd, key o' x' e] using e1, hf⟩
  · intro hs o' hn x' e
    obtain ⟨y, e1, hf⟩ := hs o' hn x' e
    exact ⟨y, by simpa [upd, key o' x' e] using e1, hf⟩
end
def isVirt : Option AObj → Bool
  | some (.virt _) => true
  | _ => false
theorem isVirt_v (sz : Nat) : isVirt (some (.virt sz)) = true := rfl
section
variable (σ : Sig)
theorem fl_refl (a : AV) : FL σ a a = True := by simp only [eq_iff_iff, iff_true]; exact .refl a
theorem fls_refl (a : List AV) : FLs σ a a = True := by simp only [eq_iff_iff, iff_true]; exact .refl _ a
theorem fl_nm (o : Nat) (h : isVirt (σ o) = true) : FL σ (.slice [] (.own o)) (.slice [] .nil) = True := by
  simp only [eq_iff_iff, iff_true]
  unfold isVirt at h
  split at h
  · rename_i sz hs; exact .base _ _ ⟨o, sz, rfl, rfl, hs⟩
  · simp at h
theorem fl_slice (l : List AV) (t : Tok) : FL σ (.slice l .no) (.slice l t) = True := by simp only [eq_iff_iff, iff_true]; exact .slice l l _ t (.inl rfl) rfl fun i _ _ => .refl _
theorem fl_sliceL (l0 l : List AV) (t : Tok) : FL σ (.slice l0 .no) (.slice l t) = FLs σ l0 l := by
  simp only [eq_iff_iff]
  constructor
  · intro h
    cases h with
    | refl => exact .refl _ _
    | base _ _ h => obtain ⟨o, sz, h1, _⟩ := h; simp at h1
    | slice _ _ _ _ _ hl h => exact ⟨hl, h⟩
  · exact fun h => .slice _ _ _ _ (.inl rfl) h.1 h.2
theorem fl_agg (l0 l : List AV) : FL σ (.agg l0) (.agg l) = FLs σ l0 l := by
  simp only [eq_iff_iff]
  constructor
  · intro h
    cases h with
    | refl => exact .refl _ _
    | base _ _ h => obtain ⟨o, sz, h1, _⟩ := h; simp at h1
    | agg _ _ hl h => exact ⟨hl, h⟩
  · exact fun h => .agg _ _ h.1 h.2
theorem fl_tup (l0 l : List AV) : FL σ (.tup l0) (.tup l) = FLs σ l0 l := by
  simp only [eq_iff_iff]
  constructor
  · intro h
    cases h with
    | refl => exact .refl _ _
    | base _ _ h => obtain ⟨o, sz, h1, _⟩ := h; simp at h1
    | tup _ _ hl h => exact ⟨hl, h⟩
  · exact fun h => .tup _ _ h.1 h.2
theorem fls_cons (a b : AV) (l m : List AV) : FLs σ (a :: l) (b :: m) = (FL σ a b ∧ FLs σ l m) := by
  simp only [eq_iff_iff]
  constructor
  · intro h
    obtain ⟨b', r, e, h1, h2⟩ := h.cons_inv
    simp at e
    obtain ⟨rfl, rfl⟩ := e
    exact ⟨h1, h2⟩
  · exact fun h => .cons h.1 h.2
theorem fl_int (k : IntKind) (a b : Int) : FL σ (.int k a) (.int k b) = (a = b) := by
  simp only [eq_iff_iff]
  constructor
  · intro h
    cases h with
    | refl => rfl
    | base _ _ h => obtain ⟨o, sz, h1, _⟩ := h; simp at h1
  · rintro rfl; exact .refl _
theorem fl_bool (a b : Bool) : FL σ (.bool a) (.bool b) = (a = b) := by
  simp only [eq_iff_iff]
  constructor
  · intro h
    cases h with
    | refl => rfl
    | base _ _ h => obtain ⟨o, sz, h1, _⟩ := h; simp at h1
  · rintro rfl; exact .refl _
theorem flo_cells (l0 l : List AV) : FLO σ (.cells l0) (.cells l) = FLs σ l0 l := rfl
theorem flo_vec (s n : Nat) (l0 l : List AV) : FLO σ (.vec s n l0) (.vec s n l) = FLs σ l0 l := by simp [LiftO]
theorem flo_refl (x : AObj) : FLO σ x x = True := by simp only [eq_iff_iff, iff_true]; exact .refl _ x
theorem flo_virt (s : Nat) : FLO σ (.grow s 0) (.virt s) = True := by simp [LiftO]
theorem wkf_nil (env : Env) : WkF σ [] env = True := rfl
theorem wkf_cons (i v0) (e env : Env) : WkF σ ((i, some v0) :: e) env = ((∃ v, lk env i = some v ∧ FL σ v0 v) ∧ WkF σ e env) := rfl
end
theorem ex_some (v : AV) (p : AV → Prop) : (∃ u, some v = some u ∧ p u) = p v := by simp
theorem ex_someO (v : AObj) (p : AObj → Prop) : (∃ u, some v = some u ∧ p u) = p v := by simp
end Abs

namespace Abs
open Go
theorem VecOk.new {K : Gh} {o b cap sz n : Nat} (h : K.own o = some (.vec b cap sz n)) : VecOk K o n b cap := ⟨b, cap, sz, n, .inl h, Nat.le_refl n, fun _ => ⟨rfl, rfl⟩⟩
def RelC (K : Gh) (cs : List AV) (cells : Array Value) : Prop := cs.length ≤ cells.size ∧ ∀ i, (h : i < cs.length) → (h' : i < cells.size) → Rel K cs[i] cells[i] ∧ cells[i].oneCell' = true
theorem RelC.mono {K K' : Gh} (hK : K.le K') {cs : List AV} {cells : Array Value} (h : RelC K cs cells) : RelC K' cs cells := ⟨h.1, fun i h1 h2 => ⟨(h.2 i h1 h2).1.mono hK, (h.2 i h1 h2).2⟩⟩
theorem relC_of {K : Gh} {cs : List AV} {vs Z : List Value} (hr : RelL K cs vs) (h1 : ∀ u ∈ vs, u.oneCell' = true) : RelC K cs (vs ++ Z).toArray := by
  have hl := hr.1
  refine ⟨by simp; omega, fun i h h' => ?_⟩
  have hi : i < vs.length := by omega
  have e : (vs ++ Z).toArray[i] = vs[i] := by simp [List.getElem_append_left, hi]
  rw [e]
  exact ⟨hr.2 i h hi, h1 _ (List.getElem_mem hi)⟩
theorem relC_arr {K : Gh} {cs : List AV} {us vs : List Value} {Z : Array Value} (hr : RelL K cs (us ++ vs)) (h1 : ∀ u ∈ us ++ vs, u.oneCell' = true) : RelC K cs (us.toArray ++ vs.toArray ++ Z) := by
  have e : (us ++ vs ++ Z.toList).toArray = us.toArray ++ vs.toArray ++ Z := Array.ext' (by simp)
  rw [← e]; exact relC_of hr h1
section
variable {σ : Sig}
theorem Sat.vecNew {K : Gh} {w} (hs : Sat K σ w) (cells : Array Value) (el : TypeId) {cs : List AV} {sz cap n : Nat} (hcap : cells.size = cap * sz) (hn : n ≤ cap) (hlen : cs.length = n * sz) (hr : RelC K cs cells)
    {o : Nat} (ho : K.own o = none) {S : Nat → Prop} (hS : ¬ S o) : ∃ K', K.leS S K' ∧ Rel K' (.vec o n) (.slice (some ⟨w.heap.size, 0, none⟩) n cap) ∧ Sat K' (upd σ o (.vec sz n cs)) (w.drew.alloc (.cells cells el)) := by
  have hs' : Sat K σ w.drew := hs.same rfl rfl rfl rfl
  have hp : Pushed w.drew (w.drew.alloc (.cells cells el)) (.cells cells el) := ⟨rfl, rfl, rfl, rfl⟩
  have hle0 := (hs'.push hp rfl (fun _ => none) (fun i v e => by simp at e)).1
  obtain ⟨h1, h2⟩ := hs'.pushName hp rfl (fun _ => none) (fun i v e => by simp at e) ho (.vec w.drew.heap.size cap sz n) rfl (.vec sz n cs)
    ⟨rfl, rfl, hlen, hn, by show K.base.heap.size ≤ _; exact hs'.size, ⟨cells, el, hp.new, hcap, fun i q1 q2 => ⟨(hr.2 i q1 q2).1.mono hle0, (hr.2 i q1 q2).2⟩⟩, fun i => by simp [Gh.claimed]⟩
  refine ⟨_, ⟨h1, fun o' hs' hn => ?_⟩, .vec o n _ cap (VecOk.new (sz := sz) (by simp [Gh.named])) hn, h2⟩
  have : o' ≠ o := fun e => hS (e ▸ hs')
  simp [Gh.named, Gh.claimed, this, hn]
theorem Sat.vecOld {K : Gh} {w} (hs : Sat K σ w) (cells : Array Value) (el : TypeId) {cs cs0 : List AV} {sz cap n n0 b0 cap0 : Nat} (hcap : cells.size = cap * sz) (hn : n ≤ cap) (hlen : cs.length = n * sz) (hr : RelC K cs cells)
    {o : Nat} (ho : σ o = some (.vec sz n0 cs0)) (hown : K.own o = some (.vec b0 cap0 sz n0)) (hlt : n0 < n) (S : Nat → Prop) :
    ∃ K', K.leS S K' ∧ Rel K' (.vec o n) (.slice (some ⟨w.heap.size, 0, none⟩) n cap) ∧ Sat K' (upd σ o (.vec sz n cs)) (w.drew.alloc (.cells cells el)) := by
  have hs' : Sat K σ w.drew := hs.same rfl rfl rfl rfl
  have hp : Pushed w.drew (w.drew.alloc (.cells cells el)) (.cells cells el) := ⟨rfl, rfl, rfl, rfl⟩
  obtain ⟨hle0, h5⟩ := hs'.push hp rfl (fun _ => none) (fun i v e => by simp at e)
  let K1 := K.claimed w.drew.heap.size fun _ => none
  have e1 : K1.own = K.own := rfl
  let K2 : Gh := { K1 with own := fun i => if i = o then some (.vec w.drew.heap.size cap sz n) else K1.own i }
  have hle2 : K1.le K2 := Gh.le_renamed (e := .vec b0 cap0 sz n0) (e' := .vec w.drew.heap.size cap sz n) rfl (fun _ _ _ e => e) hown (by simp [K2]) ⟨rfl, by omega, fun e => by omega⟩ (fun o' h => by simp [K2, h])
  have hs2 : Sat K2 (upd σ o (.vec sz n cs)) (w.drew.alloc (.cells cells el)) := by
    refine h5.move (e := .vec b0 cap0 sz n0) (e' := .vec w.drew.heap.size cap sz n) hle2 rfl ho hown (fun o' h => by simp [K2, K1, h]) (by simp [K2])
      ⟨rfl, rfl, hlen, hn, by show K.base.heap.size ≤ _; exact hs'.size, ⟨cells, el, hp.new, hcap, fun i q1 q2 => ⟨(hr.2 i q1 q2).1.mono (hle0.trans hle2), (hr.2 i q1 q2).2⟩⟩, fun i => by simp [K2, K1, Gh.claimed]⟩ (fun o' y e'' r1 r2 hr _ => ?_)
    obtain ⟨e3, r3, r4⟩ := hs'.live o' y r1
    have : e3 = e'' := by
      have r2' : K.own o' = some e'' := r2
      simp_all
    subst this
    exact Nat.ne_of_lt (r4.blk_lt hr)
  refine ⟨K2, ⟨hle0.trans hle2, fun o' _ hn => ?_⟩, .vec o n _ cap (VecOk.new (sz := sz) (by simp [K2])) hn, hs2⟩
  have : o' ≠ o := fun e => by subst e; rw [hown] at hn; simp at hn
  simp only [K2, this, if_false]; exact hn
end
section ops
variable {P : Program} {o : Oper} {N : Nat} {env : Env} {σ : Sig} {nm : Nat} {R : AV → Option (Nat × AObj) → Prop}
theorem ok_vmake {t l c e i g n z al ac} (ho : o.op = .makeSlice t l c) (ht : P.underlying t = some (.slice e)) (hi : P.info? e = some i) (hr : readOf P e = some (g, n)) (hz : zeroOf P e = some z) (hzn : z.length = n) (hn0 : 0 < n) (hby0 : 0 < i.bytes)
    (hl : trOpnd l = some al) (hc : trOpnd c = some ac) (h : exOpN nm env σ R (.ext (.vmake n i.bytes z g al ac))) : OpOk P o N env σ nm R := by
  intro S K a w hf hs hnm hS
  obtain ⟨lv, h1, h2⟩ := wth_some h
  obtain ⟨cv, h3, h4⟩ := wth_some h2
  obtain ⟨ev, h5, h7⟩ := wth_some h4
  have rl := trOpnd_rel hl h1 hf
  have rc := trOpnd_rel hc h3 hf
  split at h7
  case h_2 => exact h7.elim
  rename_i ln cn
  obtain ⟨⟨h6, p4, p1, p2, p3⟩, p5⟩ := h7
  have el := rel_int rl
  have ec := rel_int rc
  obtain ⟨i', zv, hi', hzv, hzs⟩ := zerosOf (K := K) hz hzn
  obtain rfl : i' = i := by simp_all
  obtain ⟨_, hszn, _⟩ := readOf_some hr
  have hisz : i'.size = n := by simp [szOf, hi] at hszn; exact hszn
  have hzr : RelL K z zv.cells.toList := by
    unfold zeroOf at hz
    simp [hi, hzv] at hz
    exact ofFlats_rel hz
  obtain ⟨N1, hN⟩ : ∃ q : Nat, ln = (q : Int) := ⟨ln.toNat, by omega⟩
  obtain ⟨C1, hC⟩ : ∃ q : Nat, cn = (q : Int) := ⟨cn.toNat, by omega⟩
  subst hN; subst hC
  have hCb : C1 * i'.bytes ≤ 35184372088832 := by
    have : ((C1 * i'.bytes : Nat) : Int) ≤ 35184372088832 := by rw [Int.natCast_mul]; exact p3
    omega
  have hC1 : C1 ≤ 35184372088832 := by have := Nat.mul_le_mul_left C1 hby0; simp at this; omega
  have hrun := run_make (P := P) w t e i' zv ht hi hzv .i64 .i64 (N1 : Int) (C1 : Int) p1 p2 (by rw [Int.mul_comm]; omega) (by omega)
  simp only [Int.toNat_natCast] at hrun p5
  have hmade : (madeCells zv.cells (C1 * i'.size)).size = C1 * n := by rw [size_madeCells, hisz]
  have hNC : N1 ≤ C1 := by omega
  have hfl : (List.replicate N1 z).flatten.length = N1 * n := by simp [hzn]
  have hle := Nat.mul_le_mul_right n hNC
  obtain ⟨K', k2, k3, k4⟩ := hs.vecNew (madeCells zv.cells (C1 * i'.size)) e (cs := (List.replicate N1 z).flatten) (sz := n) (cap := C1) (n := N1) hmade hNC hfl
    ⟨by omega, fun i hi1 hi2 => by
      have hz0 : 0 < z.length := by omega
      have hm := Nat.mod_lt i hz0
      have e1 : zv.cells.size = z.length := by omega
      have e2 : (madeCells zv.cells (C1 * i'.size))[i] = zv.cells[i % z.length] := by
        simp only [madeCells, Array.getElem_map, Array.getElem_range, e1]
        rw [getElem!_pos zv.cells (i % z.length) (by omega)]
      have e3 : (List.replicate N1 z).flatten[i] = z[i % z.length] := by
        have := flatten_replicate_get z hz0 N1 i (by rw [hzn, ← hfl]; exact hi1)
        rw [List.getElem?_eq_getElem hi1, List.getElem?_eq_getElem hm] at this
        exact Option.some.inj this
      rw [e2, e3]
      have q1 := hzr.2 (i % z.length) hm (by simp; omega)
      have q2 := hzr.ones p4 (i % z.length) (by simp; omega)
      exact ⟨by simpa using q1, by simpa using q2⟩⟩ hnm hS
  refine ⟨K', _, some (nm, _), _, _, .inl ?_, k2, k3, k4.same (w' := w.alloc (.cells (madeCells zv.cells (C1 * i'.size)) e)) rfl rfl rfl rfl, p5⟩
  simp only [execOp, ho, Sem.run_bind, el, ec, hrun, Result.andThen_ok, Sem.run_pure]
theorem ok_bsliceG {t len ps e sz axs} (ho : o.op = .buildSlice t len ps) (hu : P.underlying t = some (.slice e)) (hsz : szOf P e = some sz) (hlen : len = ps.size) (hmax : len * sz ≤ 65536) {z} (hz : zeroOf P e = some z)
    (hps : trParts 0 ps.toList = some axs) (h : exOpN nm env σ R (.ext (.bsliceG sz axs))) : OpOk P o N env σ nm R := by
  intro S K a w hf hs hnm hS
  obtain ⟨l, h1, h0, h2⟩ := wthL_some h
  obtain ⟨k1, k2⟩ := trParts_spec hps
  have hr := trOpnds_rel hf k1 h1
  rw [List.map_map] at hr
  have hall : ∀ x ∈ l, (cellsA x).length = sz := fun x hx => by
    have := List.all_eq_true.1 h0 x hx
    simp at this; exact this.1
  have hone : (flat l).all oneA = true := by
    rw [List.all_eq_true]
    intro y hy
    rw [flat, List.mem_flatMap] at hy
    obtain ⟨x, hx, hy⟩ := hy
    have := List.all_eq_true.1 h0 x hx
    simp at this; exact this.2 y hy
  have hl : l.length = ps.size := by simpa using hr.1
  obtain ⟨zv, z1, z2, _⟩ := run_zeroValue' (K := K) hz w
  have hcs : ∀ p ∈ ps.toList, (a.eval p.2).cells.size = sz := fun p hp => by
    obtain ⟨i, hi, rfl⟩ := List.getElem_of_mem hp
    have hi' : i < l.length := by rw [hl]; simpa using hi
    have := (hr.2 i hi' (by simpa using hi)).cells.1
    simp at this
    have h3 := hall _ (List.getElem_mem hi')
    simp; omega
  have fin : ∀ zs : Array Value, ∃ cells', Instr.fill (fun i => some (i * sz, sz)) ((Array.range (len * sz)).map (zs[· % zs.size]!)) (ps.map fun (i, x) => (i, a.eval x)).toList = some cells' ∧ cells'.toList = ps.toList.flatMap fun p => (a.eval p.2).cells.toList := by
    intro zs
    obtain ⟨cells', e1, e2⟩ := fill_seq a sz ps.toList 0 [] ((Array.range (len * sz)).map (zs[· % zs.size]!)) k2 hcs (by simp) (by simp) (by simp [hlen])
    refine ⟨cells', ?_, by simpa using e2⟩
    have e3 : (ps.map fun (i, x) => (i, a.eval x)).toList = ps.toList.map fun (i, x) => (i, a.eval x) := by simp
    rw [e3]; exact e1
  have hrun : ∃ cells' : Array Value, (execOp a.eval o).run P w = .ok (.value (.slice (some ⟨w.heap.size, 0, none⟩) len len)) { w with heap := w.heap.push (.cells cells' e) } ∧ cells'.toList = ps.toList.flatMap fun p => (a.eval p.2).cells.toList := by
    by_cases h0 : len * sz = 0
    · obtain ⟨cells', e1, e2⟩ := fin #[]
      refine ⟨cells', ?_, e2⟩
      simp only [execOp, ho, Instr.buildSlice, Sem.run_bind, run_underlying' hu, Result.andThen_ok, run_sizeOf' hsz]
      rw [if_neg (by omega), if_pos h0]
      simp only [Sem.run_bind, Sem.run_pure, Result.andThen_ok]
      rw [e1]
      simp [Go.newRow]
    · obtain ⟨cells', e1, e2⟩ := fin zv.cells
      refine ⟨cells', ?_, e2⟩
      simp only [execOp, ho, Instr.buildSlice, Sem.run_bind, run_underlying' hu, Result.andThen_ok, run_sizeOf' hsz]
      rw [if_neg (by omega), if_neg h0]
      simp only [Sem.run_bind, Sem.run_pure, Result.andThen_ok, z1]
      rw [e1]
      simp [Go.newRow]
  obtain ⟨cells', hrun, e2⟩ := hrun
  have hfr : RelL K (flat l) cells'.toList := by
    have := flat_rel hr
    rw [e2]
    rw [List.flatMap_map] at this
    exact this
  have hcl : (flat l).length = cells'.size := by simpa using hfr.1
  have hfl := flat_length hall
  obtain ⟨K', q2, q3, q4⟩ := hs.grownNew cells' e (l := l) (sz := sz) (cap := l.length) (by omega) (Nat.le_refl _) hall (fun i i1 i2 => by
    have := hfr.2 i i1 (by simpa using i2)
    simpa using this) (fun i i1 i2 => by
    have := hfr.ones hone i (by simpa using i2)
    simpa using this) hnm hS
  refine ⟨K', _, some (nm, _), _, _, .inl hrun, q2, ?_, q4.same (w' := { w with heap := w.heap.push (.cells cells' e) }) rfl rfl rfl rfl, h2⟩
  rw [hlen, ← hl]; exact q3
theorem unflat_spec {K : Gh} {g : Bool} {sz : Nat} : ∀ {n : Nat} {cs : List AV} {l : List AV}, unflat g sz n cs = some l → cs.length = n * sz → (g = false → sz = 1) → (∀ x ∈ cs, oneA x = true) → l.length = n ∧ flat l = cs ∧ ∀ x ∈ l, (cellsA x).length = sz
  | 0, cs, l, h, hl, _, _ => by
    simp [unflat] at h; subst h
    simp at hl; subst hl
    exact ⟨rfl, rfl, by simp⟩
  | n + 1, cs, l, h, hl, hg, h1 => by
    simp only [unflat] at h
    split at h <;> simp at h
    rename_i a l' ha hl'
    subst h
    have hsz : (cs.take sz).length = sz := by simp [hl, Nat.succ_mul]
    have hc : cellsA a = cs.take sz := by
      cases g with
      | true => simp [mkv] at ha; subst ha; rfl
      | false =>
        obtain rfl := hg rfl
        cases cs with
        | nil => simp [mkv] at ha
        | cons x cs =>
          simp [mkv] at ha
          subst ha
          simp only [List.take_succ_cons, List.take_zero]
          exact cells_one (h1 x (by simp))
    obtain ⟨q1, q2, q3⟩ := unflat_spec (K := K) hl' (by simp [hl, Nat.succ_mul]) hg (fun x hx => h1 x (List.mem_of_mem_drop hx))
    refine ⟨by simp [q1], ?_, ?_⟩
    · rw [flat_cons, q2, hc, List.take_append_drop]
    · intro x hx
      rcases List.mem_cons.1 hx with rfl | hx
      · rw [hc]; exact hsz
      · exact q3 x hx
theorem rel_one {K : Gh} {a : AV} {v : Value} (h : Rel K a v) (h1 : v.oneCell' = true) : oneA a = true := by
  cases h <;> first | rfl | (simp [Value.oneCell'] at h1)
theorem Sat.freeze {K : Gh} {w} (hs : Sat K σ w) {ob b cap sz n : Nat} {cs l : List AV} (hl : σ ob = some (.vec sz n cs)) (hown : K.own ob = some (.vec b cap sz n)) (hfl : flat l = cs) (hll : l.length = n) (hall : ∀ x ∈ l, (cellsA x).length = sz) (S : Nat → Prop) :
    ∃ K', K.leS S K' ∧ Rel K' (.slice l (.own ob)) (.slice (some ⟨b, 0, none⟩) n cap) ∧ Sat K' (upd σ ob (.grow sz n)) w := by
  obtain ⟨e0, h1, h2⟩ := hs.live ob _ hl
  rw [hown] at h1; cases h1
  simp only [ObjSat] at h2
  obtain ⟨_, _, h3, h4, h5, ⟨c, el, h6, h7, h8⟩, h9⟩ := h2
  have hle := Nat.mul_le_mul_right sz h4
  let cl : Nat → Option Value := fun i => if i < n * sz then c[i]? else none
  let K2 : Gh := { base := K.base, ds := K.ds, claim := fun b' i => if b' = b then cl i else K.claim b' i, own := fun i => if i = ob then some (.buf b cap sz n) else K.own i }
  have hle2 : K.le K2 := Gh.le_renamed (o := ob) (e := .vec b cap sz n) (e' := .buf b cap sz n) rfl (fun b' i v hv => by
      show (if b' = b then cl i else K.claim b' i) = some v
      split
      · rename_i hb; subst hb; rw [h9 i] at hv; simp at hv
      · exact hv) hown (by simp [K2]) ⟨rfl, Nat.le_refl n, fun _ => ⟨rfl, rfl⟩⟩ (fun o' h => by simp [K2, h])
  have hcell : ∀ i v, cl i = some v → w.cell? ⟨b, i, none⟩ = some v ∧ v.oneCell' = true := fun i v hv => by
    simp only [cl] at hv
    split at hv
    · rename_i hi
      have hic : i < c.size := by omega
      refine ⟨by simp [World.cell?, h6]; exact hv, ?_⟩
      rw [Array.getElem?_eq_getElem hic] at hv
      simp only [Option.some.injEq] at hv
      rw [← hv]; exact (h8 i (by omega) hic).2
    · simp at hv
  refine ⟨K2, ⟨hle2, fun o' _ hn => ?_⟩, ?_, ?_⟩
  · have : o' ≠ ob := fun e => by subst e; rw [hown] at hn; simp at hn
    simp [K2, this, hn]
  · rw [← hll]
    refine rel_newest (K' := K2) (cells := c) (by omega) hall (fun i hi => ?_) (fun i i1 i2 => ?_) (by rw [hfl]; omega) (by simp [K2, hll])
    · show (if b = b then cl i else K.claim b i) = _
      rw [if_pos rfl]
      have : i < n * sz := by rw [hfl] at hi; omega
      simp [cl, this]
    · have := (h8 i (by rw [hfl] at i1; exact i1) i2).1.mono hle2
      simpa [hfl] using this
  · refine hs.write (e := .vec b cap sz n) (e' := .buf b cap sz n) hle2 hl hown rfl (fun o' h => by simp [K2, h]) (by simp [K2]) rfl rfl rfl rfl rfl (fun _ _ => rfl) (fun i => frozen_loose h6 rfl) (fun i v hv => ?_) (fun b' i hb' => ?_)
      ⟨rfl, rfl, h4, h5, ⟨c, el, h6, h7⟩, fun i hi => ?_⟩
    · have hv' : (if b = b then cl i else K.claim b i) = some v := hv
      rw [if_pos rfl] at hv'
      exact hcell i v hv'
    · have hb2 : ¬ b' = b := hb'
      show (if b' = b then cl i else K.claim b' i) = _
      rw [if_neg hb2]
    · show (if b = b then cl i else K.claim b i) = none
      rw [if_pos rfl]
      simp only [cl]
      rw [if_neg (by omega)]
theorem vec_at {K : Gh} {w : World} (hs : Sat K σ w) {ob n sz : Nat} {cs : List AV} {v : Value} (hl : σ ob = some (.vec sz n cs)) (hr : Rel K (.vec ob n) v) :
    ∃ b cap, v = .slice (some ⟨b, 0, none⟩) n cap ∧ K.own ob = some (.vec b cap sz n) ∧ n ≤ cap ∧ cs.length = n * sz ∧ K.base.heap.size ≤ b ∧ (∃ c el, w.heap[b]? = some (.cells c el (0, 0)) ∧ c.size = cap * sz ∧ RelC K cs c) ∧ ∀ i, K.claim b i = none := by
  obtain ⟨b, cap, he, hv, hle⟩ := rel_vec hr
  obtain ⟨e0, h1, h2⟩ := hs.live ob _ hl
  cases e0 <;> simp only [ObjSat] at h2
  obtain ⟨rfl, rfl, h3, h4, h5, ⟨c, el, h6, h7, h8⟩, h9⟩ := h2
  obtain ⟨b', cap', sz', n', hv | hv, v2, v3⟩ := hv
  · rw [h1] at hv
    simp only [Option.some.injEq, Own.vec.injEq] at hv
    obtain ⟨rfl, rfl, rfl, rfl⟩ := hv
    obtain ⟨rfl, rfl⟩ := v3 rfl
    exact ⟨_, _, he, h1, h4, h3, h5, ⟨c, el, h6, h7, by rw [h3, h7]; exact Nat.mul_le_mul_right _ h4, h8⟩, h9⟩
  · rw [h1] at hv; simp at hv
theorem ok_vfrz {x ax g} (ho : o.op = .move x ∨ o.op = .assign x) (hx : trOpnd x = some ax) (h : exOpN nm env σ R (.ext (.vfrz g ax))) : OpOk P o N env σ nm R := by
  intro S K a w hf hs hnm hS
  obtain ⟨av, h1, h2⟩ := wth_some h
  have rx := trOpnd_rel hx h1 hf
  cases av <;> simp only [] at h2 <;> first | exact h2.elim | skip
  rename_i ob len
  split at h2
  · rename_i sz n cs hl
    obtain ⟨⟨rfl, hg⟩, h3⟩ := h2
    obtain ⟨l, h4, h5⟩ := lkm_some h3
    obtain ⟨b, cap, he, hown, hle, hlen, _, ⟨c, el, hc1, hc2, hc3⟩, _⟩ := vec_at hs hl rx
    have hone : ∀ y ∈ cs, oneA y = true := fun y hy => by
      obtain ⟨i, hi, rfl⟩ := List.getElem_of_mem hy
      have := (hc3.2 i hi (by have := hc3.1; omega))
      exact rel_one this.1 this.2
    obtain ⟨q1, q2, q3⟩ := unflat_spec (K := K) h4 hlen hg hone
    obtain ⟨K', k1, k2, k3⟩ := hs.freeze hl hown q2 q1 q3 S
    refine ⟨K', .slice l (.own ob), some (ob, _), a.eval x, w, .inl ?_, k1, by rw [he]; exact k2, k3, h5⟩
    rcases ho with ho | ho <;> simp [execOp, ho]
  · exact h2.elim
theorem ok_retok {x ax sz} (ho : o.op = .move x ∨ o.op = .assign x) (hx : trOpnd x = some ax) (h : exOpN nm env σ R (.ext (.retok sz ax))) : OpOk P o N env σ nm R := by
  intro S K a w hf hs hnm hS
  obtain ⟨av, h1, h2⟩ := wth_some h
  have rx := trOpnd_rel hx h1 hf
  have exe : (execOp a.eval o).run P w = .ok (.value (a.eval x)) w := by rcases ho with ho | ho <;> simp [execOp, ho]
  have hσ : ∀ o', σ o' ≠ none → o' ≠ nm := fun o' h e => h (by rw [e]; exact hs.fresh hnm)
  split at h2
  · rename_i l
    obtain ⟨⟨h3, h4⟩, h5⟩ := h2
    obtain ⟨k1, k2⟩ := hs.name hnm (.full sz l.length) (.grow sz l.length) ⟨rfl, rfl⟩ (fun o' x' e' _ _ _ h => by simp [Own.real] at h)
    refine ⟨_, _, some (nm, _), _, _, .inl exe, ⟨k1, fun o' hs' hn => ?_⟩, ?_, k2, h5⟩
    · have : o' ≠ nm := fun e => hS (e ▸ hs')
      simp [Gh.named, this, hn]
    · rcases rel_slice rx with ⟨a', cap', he, rfl, _⟩ | ⟨b, off, cap, sz', u, he, q1, q2, q3, q4, q5⟩
      · simp at h4
      · have hsz : sz' = sz := by
          obtain ⟨y, hy⟩ := List.exists_mem_of_length_pos h4
          rw [← q1 y hy, ← h3 y hy]
        subst hsz
        rw [he]
        refine Rel.slice l _ b off cap sz' u q1 q2 (fun i h => (q3 i h).mono k1) ?_ q5
        exact .inr ⟨l.length, by simp [Gh.named], Nat.le_refl _, fun _ => q4⟩
  · obtain ⟨k1, k2⟩ := hs.name hnm (.virt sz) (.grow sz 0) ⟨rfl, rfl⟩ (fun o' x' e' _ _ _ h => by simp [Own.real] at h)
    refine ⟨_, _, some (nm, _), _, _, .inl exe, ⟨k1, fun o' hs' hn => ?_⟩, ?_, k2, h2⟩
    · have : o' ≠ nm := fun e => hS (e ▸ hs')
      simp [Gh.named, this, hn]
    · rcases rel_slice rx with ⟨a', cap', he, _, ht⟩ | ⟨b, off, cap, sz', u, he, q1, q2, q3, q4, q5⟩
      · simp at ht
        obtain ⟨rfl, rfl⟩ := ht
        rw [he]
        exact .sl0 none 0 _ (.inr (.inr (.inr ⟨rfl, rfl, nm, rfl, sz, .inl (by simp [Gh.named])⟩)))
      · exact q4.elim
  · exact h2.elim
theorem ok_vapp {t u s x e i z as_ ax} (ho : o.op = .call { callee := .builtin .append, args := #[s, x], argTypes := #[t, u] }) (ht : P.underlying t = some (.slice e)) (htu : t = u) (hi : P.info? e = some i)
    (hz : zeroOf P e = some z) (hby0 : 0 < i.bytes) (hby : i.bytes ≤ 4096) (hzl : z.length = i.size) (hs1 : trOpnd s = some as_) (hx1 : trOpnd x = some ax) (h : exOpN nm env σ R (.ext (.vapp i.size i.bytes as_ ax))) : OpOk P o N env σ nm R := by
  subst htu
  intro S K a w hf hs hnm hS
  obtain ⟨sv, h1, h2⟩ := wth_some h
  obtain ⟨xv, h3, h4⟩ := wth_some h2
  have rs := trOpnd_rel hs1 h1 hf
  have rx := trOpnd_rel hx1 h3 hf
  obtain ⟨i', zv, hi', hzv, hzs⟩ := zerosOf (K := K) hz hzl
  obtain rfl : i' = i := by simp_all
  have zsz : ∀ k, (Builtin.zeroCells zv.cells k).size = k * i'.size := fun k => by rw [size_zeroCells, hzs]
  have exe : ∀ {v : Value} {w' : World}, (Builtin.append_ #[t, t] o.type #[a.eval s, a.eval x]).run P w = .ok v w' → (execOp a.eval o).run P w = .ok (.value v) w' := by
    intro v w' he
    simp only [execOp, ho, resolve, invoke, Go.builtin, Sem.run_bind, Sem.run_pure, Result.andThen_ok]
    have e2 : #[s, x].map a.eval = #[a.eval s, a.eval x] := by simp
    simp only [e2, he, Result.andThen_ok]
  split at h4
  · -- a row that may be written
    rename_i ob len m tk
    split at h4
    · rename_i sz' n cs hl
      obtain ⟨⟨rfl, rfl, hm, hb⟩, h5⟩ := h4
      obtain ⟨b0, cap, he, hown, hle, hlen, hbase, ⟨c, el, hc1, hc2, hc3⟩, hcl⟩ := vec_at hs hl rs
      obtain ⟨xa, xc, hxe, hxs⟩ := src_reads hs rx hm
      have hml := flat_length hm
      have hlsz := Nat.mul_le_mul_right i'.size hle
      by_cases hm0 : m = []
      · subst hm0
        have e1 : upd σ ob (.vec i'.size (len + ([] : List AV).length) (cs ++ flat [])) = σ := by
          funext j; simp only [upd]; split
          · rename_i hj; rw [hj, hl]; simp [flat_nil]
          · rfl
        refine ⟨K, .vec ob (len + ([] : List AV).length), some (ob, .vec i'.size (len + ([] : List AV).length) (cs ++ flat [])), a.eval s, w, .inl (exe ?_), Gh.leS.refl K, rs, ?_, h5⟩
        · rw [hxe, he]
          exact append_zero t o.type ht hi _ len cap hle xa xc w
        · show Sat K (upd σ ob _) w
          rw [e1]; exact hs
      have hmpos : 0 < m.length := List.length_pos_iff.2 hm0
      rcases hxs with hxs | ⟨b, off, rfl, news, m1, m2, m3, m4⟩
      · omega
      have hbm : (len + m.length) * i'.bytes ≤ 140737488355328 := by omega
      have h63 : ((len + m.length : Nat) : Int) ≤ 9223372036854775807 := by
        have := Nat.mul_le_mul_left (len + m.length) hby0; simp at this; omega
      have hcl0 := hc3.1
      let olds : List Value := c.toList.take (len * i'.size)
      have o1 : olds.length = len * i'.size := by simp [olds]; omega
      have o2 : RelL K cs olds := ⟨by omega, fun i i1 i2 => by
        have := (hc3.2 i i1 (by omega)).1
        simpa [olds] using this⟩
      have o3 : ∀ v ∈ olds, v.oneCell' = true := fun v hv => by
        obtain ⟨i, hi, rfl⟩ := List.getElem_of_mem hv
        have := (hc3.2 i (by omega) (by omega)).2
        simpa [olds] using this
      have o4 : ∀ j v, olds[j]? = some v → w.cell? ((⟨b0, 0, none⟩ : Addr).add j) = some v := fun j v hj => by
        rw [add_none, Nat.zero_add]
        simp only [olds, List.getElem?_take] at hj
        split at hj
        · simp only [World.cell?, hc1]
          simpa using hj
        · simp at hj
      have rn : RelL K (cs ++ flat m) (olds ++ news) := o2.append m2
      have rone : ∀ u ∈ olds ++ news, u.oneCell' = true := fun u hu => by
        rcases List.mem_append.1 hu with h | h
        · exact o3 u h
        · exact m3 u h
      have hlen2 : (cs ++ flat m).length = (len + m.length) * i'.size := by rw [List.length_append, hlen, hml, Nat.add_mul]
      by_cases hroom : len + m.length ≤ cap
      · have hfit : len * i'.size + news.length ≤ c.size := by
          rw [hc2, m1, ← Nat.add_mul]; exact Nat.mul_le_mul_right _ hroom
        let cells' : Array Value := ((olds ++ news) ++ c.toList.drop (len * i'.size + news.length)).toArray
        have hf := run_firstCells_some (P := P) w i'.size m.length ⟨b, off, none⟩ m.length xc news m1 m4
        have hst := run_storeCells_at P b0 (len * i'.size) el news 0 c w hc1 (by simpa using hfit) m3
        simp only [Nat.add_zero] at hst
        have hst' : (storeCells ⟨b0, len * i'.size, none⟩ news).run P w = .ok () (w.setRow b0 cells') := by
          rw [hst]
        have hrun : (Builtin.append_ #[t, t] o.type #[.slice (some ⟨b0, 0, none⟩) len cap, .slice (some ⟨b, off, none⟩) m.length xc]).run P w =
            .ok (.slice (some ⟨b0, 0, none⟩) (len + m.length) cap) (w.setRow b0 cells') := by
          simp [Builtin.append_, run_underlying' ht, Go.sizeOf, typeInfo, hi, Builtin.lenOf, hroom, hf, add_none, hst']
        let K2 : Gh := { K with own := fun i => if i = ob then some (.vec b0 cap i'.size (len + m.length)) else K.own i }
        have hcs : cells'.size = c.size := by simp [cells', o1]; omega
        have hle2 : K.le K2 := Gh.le_renamed (o := ob) (e := .vec b0 cap i'.size len) (e' := .vec b0 cap i'.size (len + m.length)) rfl (fun _ _ _ h => h) hown (by simp [K2]) ⟨rfl, by simp, fun _ => ⟨rfl, rfl⟩⟩ (fun o' h => by simp [K2, h])
        have hheap := setRow_heap w b0 c cells' el (0, 0) hc1
        have hrc : RelC K2 (cs ++ flat m) cells' := (relC_of rn rone).mono hle2
        refine ⟨K2, _, some (ob, _), _, _, .inl (exe (by rw [he, hxe]; exact hrun)), ⟨hle2, fun o' _ hn => ?_⟩, .vec ob _ b0 cap (VecOk.new (sz := i'.size) (by simp [K2])) hroom, ?_, h5⟩
        · have : o' ≠ ob := fun e => by subst e; rw [hown] at hn; simp at hn
          simp [K2, this, hn]
        · refine hs.write (e := .vec b0 cap i'.size len) (e' := .vec b0 cap i'.size (len + m.length)) hle2 hl hown rfl (fun o' h => by simp [K2, h]) (by simp [K2]) rfl rfl rfl rfl (by simp) (fun b' hb' => setRow_other w _ b' cells' hb')
            (fun i => frozen_loose hheap rfl) (fun i v hv => ?_) (fun b' i hb' => rfl) ⟨rfl, rfl, hlen2, hroom, hbase, ⟨cells', el, hheap, by rw [hcs, hc2], hrc.2⟩, hcl⟩
          have hv' : K.claim b0 i = some v := hv
          rw [hcl i] at hv'; simp at hv'
      · have hge := grownCap_ge w (len + m.length) cap e
        have hrun := run_append_grow (P := P) w t o.type e i' zv ht hi hzv ⟨b0, 0, none⟩ len cap olds o1 o4 ⟨b, off, none⟩ m.length xc news m1 m4 (by omega) h63 (growslice_fits (by omega) hbm)
        obtain ⟨K', k2, k3, k4⟩ := hs.vecOld (olds.toArray ++ news.toArray ++ Builtin.zeroCells zv.cells (grownCap w (len + m.length) cap e - (len + m.length))) e (cs := cs ++ flat m) (sz := i'.size) (cap := grownCap w (len + m.length) cap e) (n := len + m.length)
          (by simp only [Array.size_append, zsz, List.size_toArray, m1, o1]; simp [← Nat.add_mul]; congr 1; omega) hge hlen2 (relC_arr rn rone) hl hown (by omega) S
        refine ⟨K', _, some (ob, _), _, _, .inl (exe (by rw [he, hxe]; exact hrun)), k2, k3, k4, h5⟩
    · exact h4.elim
  · -- a slice that has no room
    rename_i l tk m tk2
    obtain ⟨⟨hl0, hm, hb⟩, h5⟩ := h4
    obtain ⟨xa, xc, hxe, hxs⟩ := src_reads hs rx hm
    have hml := flat_length hm
    have hll := flat_length hl0
    have scap : ∃ a0 cap, a.eval s = .slice a0 l.length cap ∧ l.length ≤ cap := by
      rcases rel_slice rs with ⟨a', cap', he, rfl, _⟩ | ⟨b, off, cap', sz', u, he, _, _, _, _, q5⟩
      · exact ⟨a', cap', he, Nat.zero_le _⟩
      · exact ⟨_, cap', he, q5⟩
    obtain ⟨a0, cap0, hse, hcap0⟩ := scap
    have zero : m = [] → (execOp a.eval o).run P w = .ok (.value (a.eval s)) w := by
      intro hm0
      refine exe ?_
      rw [hxe, hm0, hse]
      exact append_zero t o.type ht hi a0 l.length cap0 hcap0 xa xc w
    -- what lies there
    have main : (tk = .nil ∨ tk = .full) → m ≠ [] → ∃ K' v w', (execOp a.eval o).run P w = .ok (.value v) w' ∧ K.leS S K' ∧ Rel K' (.vec nm (l.length + m.length)) v ∧ Sat K' (upd σ nm (.vec i'.size (l.length + m.length) (flat l ++ flat m))) w' := by
      intro htk hm0
      have hmpos : 0 < m.length := List.length_pos_iff.2 hm0
      rcases hxs with hxs | ⟨b, off, rfl, news, m1, m2, m3, m4⟩
      · omega
      have hbm : (l.length + m.length) * i'.bytes ≤ 140737488355328 := by omega
      have h63 : ((l.length + m.length : Nat) : Int) ≤ 9223372036854775807 := by
        have := Nat.mul_le_mul_left (l.length + m.length) hby0; simp at this; omega
      obtain ⟨os, olds, o1, o2, o3, o4⟩ : ∃ os : Option Addr, ∃ olds : List Value, a.eval s = .slice os l.length l.length ∧ RelL K (flat l) olds ∧ (∀ u ∈ olds, u.oneCell' = true) ∧
          (os = none → l = []) ∧ ∀ ba, os = some ba → ∀ j u, olds[j]? = some u → w.cell? (ba.add j) = some u := by
        rcases rel_slice rs with ⟨a', cap', he, rfl, ht'⟩ | ⟨b', off', cap', sz', u, he, q1, q2, q3, ht', q5⟩
        · rcases htk with rfl | rfl
          · simp at ht'; obtain ⟨rfl, rfl⟩ := ht'
            exact ⟨none, [], he, .nil, by simp, fun _ => rfl, fun ba _ j u hj => by simp at hj⟩
          · simp at ht'; subst ht'
            exact ⟨a', [], he, .nil, by simp, fun _ => rfl, fun ba _ j u hj => by simp at hj⟩
        · rcases htk with rfl | rfl
          · exact ht'.elim
          have : cap' = l.length := ht'
          subst this
          refine ⟨_, (List.range (flat l).length).map u, he, ⟨by simp, fun i h1 h2 => by simpa using q3 i h1⟩, fun v hv => ?_, fun h => by simp at h, fun ba hba j v hj => ?_⟩
          · simp only [List.mem_map, List.mem_range] at hv
            obtain ⟨i, hi, rfl⟩ := hv
            exact hs.one _ _ _ (q2 i hi)
          · simp at hba; subst hba
            have hj' : j < (flat l).length := by
              rcases Nat.lt_or_ge j (flat l).length with h' | h'
              · exact h'
              · rw [List.getElem?_eq_none (by simpa using h')] at hj; simp at hj
            rw [List.getElem?_eq_getElem (by simpa using hj')] at hj
            simp at hj; subst hj
            rw [add_none]; exact hs.claim _ _ _ (q2 j hj')
      have hge := grownCap_ge w (l.length + m.length) l.length e
      have rn : RelL K (flat l ++ flat m) (olds ++ news) := o2.append m2
      have rone : ∀ u ∈ olds ++ news, u.oneCell' = true := fun u hu => by
        rcases List.mem_append.1 hu with h | h
        · exact o3 u h
        · exact m3 u h
      have ho2 : olds.length = l.length * i'.size := by rw [← o2.1, hll]
      obtain ⟨K', k2, k3, k4⟩ := hs.vecNew (olds.toArray ++ news.toArray ++ Builtin.zeroCells zv.cells (grownCap w (l.length + m.length) l.length e - (l.length + m.length))) e (cs := flat l ++ flat m) (sz := i'.size) (cap := grownCap w (l.length + m.length) l.length e) (n := l.length + m.length)
        (by simp only [Array.size_append, zsz, List.size_toArray, m1, ho2]; simp [← Nat.add_mul]; congr 1; omega) hge (by rw [List.length_append, hll, hml, Nat.add_mul]) (relC_arr rn rone) hnm hS
      refine ⟨K', _, _, exe ?_, k2, k3, k4⟩
      rw [o1, hxe]
      cases os with
      | none =>
        have : l = [] := o4.1 rfl
        subst this
        have : olds = [] := by have := o2.1; simp [flat] at this; exact List.eq_nil_of_length_eq_zero this.symm
        subst this
        have hrun := run_append_nil (P := P) w t o.type e i' zv ht hi hzv ⟨b, off, none⟩ m.length xc news m1 m4 hmpos (by simpa using h63) (by simp at hbm; omega)
        simpa using hrun
      | some ba =>
        have hrun := run_append_grow (P := P) w t o.type e i' zv ht hi hzv ba l.length l.length olds ho2 (o4.2 ba rfl) ⟨b, off, none⟩ m.length xc news m1 m4 (by omega) h63 (growslice_fits (by omega) hbm)
        simpa using hrun
    cases tk with
    | no => exact h5.elim
    | own t => exact h5.elim
    | nil =>
      by_cases hm0 : m = []
      · exact ⟨K, _, none, _, _, .inl (zero hm0), Gh.leS.refl K, rs, hs, h5.1 hm0⟩
      · obtain ⟨K', v, w', q1, q2, q3, q4⟩ := main (.inl rfl) hm0
        exact ⟨K', _, some (nm, _), v, w', .inl q1, q2, q3, q4, h5.2 hm0⟩
    | full =>
      by_cases hm0 : m = []
      · exact ⟨K, _, none, _, _, .inl (zero hm0), Gh.leS.refl K, rs, hs, h5.1 hm0⟩
      · obtain ⟨K', v, w', q1, q2, q3, q4⟩ := main (.inr rfl) hm0
        exact ⟨K', _, some (nm, _), v, w', .inl q1, q2, q3, q4, h5.2 hm0⟩
  · exact h4.elim
end ops
end Abs

