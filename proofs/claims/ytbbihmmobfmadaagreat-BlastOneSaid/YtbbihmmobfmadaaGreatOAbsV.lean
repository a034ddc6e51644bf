/- The abstraction layer, part V: views: what an abstract state says may be said with less (a slice's name forgotten). Over any program. -/
import Derived.Test.YtbbihmmobfmadaaGreatOAbsP
set_option linter.unusedSimpArgs false
set_option linter.unusedVariables false
namespace Abs
open Go
theorem lkm_some {α : Type} {x : Option α} {R : α → Prop} (h : lkm x R) : ∃ a, x = some a ∧ R a := by
  cases x with
  | none => exact h.elim
  | some a => exact ⟨a, rfl, h⟩
theorem rel_map {K : Gh} {o : Nat} {v : Value} (h : Rel K (.map o) v) : ∃ r, v = .map (some r) ∧ K.own o = some (.map r) := by
  cases h with | map _ r h => exact ⟨r, rfl, h⟩
theorem rel_nilmap {K : Gh} {v : Value} (h : Rel K .nilmap v) : v = .map none := by cases h; rfl
structure MapAt (K : Gh) (w : World) (r : Nat) (d : Bool) (m : List (AV × AV)) (es : Array MapEntry) (clock : Nat) : Prop where
  base : K.base.heap.size ≤ r
  heap : w.heap[r]? = some (.map es clock)
  rel : RelM K m es.toList
  lt : ∀ i, (h : i < es.size) → es[i].born < clock
  inj : ∀ i j, (h : i < es.size) → (h' : j < es.size) → es[i].born = es[j].born → i = j
  dense : d = true → clock = es.size ∧ ∀ i, (h : i < es.size) → es[i].born = i
theorem mapAt_of {K : Gh} {σ : Sig} {w : World} (hs : Sat K σ w) {o r : Nat} {d : Bool} {m : List (AV × AV)} (h : σ o = some (.map d m)) (ho : K.own o = some (.map r)) : ∃ es clock, MapAt K w r d m es clock := by
  obtain ⟨e, h1, h2⟩ := hs.live o _ h
  rw [ho] at h1
  cases h1
  simp only [ObjSat] at h2
  obtain ⟨q1, es, clock, q2, q3, q4, q5, q6, q7⟩ := h2
  exact ⟨es, clock, q1, q2, ⟨by simp [q3], fun i h1 h2 => by simpa using q4 i h1 (by simpa using h2)⟩, q5, q6, q7⟩
theorem MapAt.sat {K : Gh} {w : World} {r : Nat} {d : Bool} {m : List (AV × AV)} {es : Array MapEntry} {clock : Nat} (h : MapAt K w r d m es clock) : ObjSat K w (.map r) (.map d m) := by
  refine ⟨h.base, es, clock, h.heap, ?_, fun i h1 h2 => ?_, h.lt, h.inj, h.dense⟩
  · have := h.rel.1; simpa using this.symm
  · have := h.rel.2 i h1 (by simpa using h2); simpa using this
theorem Sat.mapSet {K : Gh} {σ : Sig} {w : World} (hs : Sat K σ w) {o r : Nat} {d d' : Bool} {m m' : List (AV × AV)} {es es' : Array MapEntry} {clock clock' : Nat} (h : σ o = some (.map d m)) (ho : K.own o = some (.map r)) (hm : MapAt K w r d m es clock)
    (hr : RelM K m' es'.toList) (hlt : ∀ i, (h : i < es'.size) → es'[i].born < clock') (hinj : ∀ i j, (h : i < es'.size) → (h' : j < es'.size) → es'[i].born = es'[j].born → i = j)
    (hd : d' = true → clock' = es'.size ∧ ∀ i, (h : i < es'.size) → es'[i].born = i) : Sat K (upd σ o (.map d' m')) { w with heap := w.heap.setIfInBounds r (.map es' clock') } := by
  have hh := MapKept.heap_set (w := w) (r := r) (o' := Obj.map es' clock') hm.heap
  refine hs.write (Gh.le.refl K) h ho rfl (fun _ _ => rfl) ho rfl rfl rfl rfl (by simp) hh.2 (fun i => frozen_loose hh.1 trivial) (fun i v hv => ?_) (fun _ _ _ => rfl) ?_
  · have h1 := hs.claim r i v hv
    simp [World.cell?, hm.heap] at h1
  · exact MapAt.sat ⟨hm.base, hh.1, hr, hlt, hinj, hd⟩
section ops
variable {P : Program} {o : Oper} {N : Nat} {env : Env} {σ : Sig} {nm : Nat} {R : AV → Option (Nat × AObj) → Prop}
theorem zeroAV_run {K : Gh} {e : TypeId} {z : AV} (h : zeroAV P e = some z) (w : World) : ∃ v, (zeroValue e).run P w = .ok v w ∧ Rel K z v := by
  unfold zeroAV at h
  split at h
  · rename_i v hv
    refine ⟨v, ?_, ofValue_rel h⟩
    cases hi : P.info? e with
    | none => simp [hi] at hv
    | some i => simp [hi] at hv; simp [zeroValue, typeInfo, hi, hv]
  · simp at h
theorem ok_mkmap {t} (ho : o.op = .makeMap t none) (h : exOpN nm env σ R (.ext .mkmap)) : OpOk P o N env σ nm R := by
  intro S K a w hf hs hnm hS
  have hp := pushed_mk w (.map #[] 0)
  have hle0 := (hs.push hp trivial (fun _ => none) (fun i v e => by simp at e)).1
  obtain ⟨h1, h2⟩ := hs.pushName hp trivial (fun _ => none) (fun i v e => by simp at e) hnm (.map w.heap.size) rfl (.map true [])
    (MapAt.sat ⟨by show K.base.heap.size ≤ _; exact hs.size, hp.new, ⟨rfl, fun i h => by simp at h⟩, fun i h => by simp at h, fun i j h => by simp at h, fun _ => ⟨rfl, fun i h => by simp at h⟩⟩)
  refine ⟨_, _, some (nm, _), _, _, .inl ?_, ⟨h1, fun o' hs' hn => ?_⟩, .map nm w.heap.size (by simp [Gh.named]), h2, h⟩
  · simp [execOp, ho, Instr.makeMap]
  · have : o' ≠ nm := fun e => hS (e ▸ hs')
    simp [Gh.named, Gh.claimed, this, hn]
theorem ok_look {t kt e x i c kk z ax ai} (ho : o.op = .lookup t x i c) (hu : P.underlying t = some (.map kt e)) (hk : kkOf P kt = some kk) (hz : zeroAV P e = some z) (hx : trOpnd x = some ax) (hi : trOpnd i = some ai)
    (h : exOpN nm env σ R (.ext (.look kk z c ax ai))) : OpOk P o N env σ nm R := by
  refine .still fun K a w hf hs => ?_
  obtain ⟨mv, h1, h2⟩ := wth_some h
  obtain ⟨kv, h3, h4⟩ := wth_some h2
  have rm := trOpnd_rel hx h1 hf
  have rk := trOpnd_rel hi h3 hf
  obtain ⟨zv, hzr, hzrel⟩ := zeroAV_run (K := K) hz w
  cases mv <;> simp only [] at h4 <;> first | exact h4.elim | skip
  case map ob =>
    obtain ⟨r, he, hown⟩ := rel_map rm
    split at h4
    · rename_i d l hl
      obtain ⟨h5, h6⟩ := h4
      obtain ⟨ov, h7, h8⟩ := lkm_some h6
      obtain ⟨es, clock, hm⟩ := mapAt_of hs hl hown
      rw [lookK_idx] at h7
      simp only [Option.map_eq_some_iff] at h7
      obtain ⟨oi, h9, h10⟩ := h7
      have hfind := run_find hk rk w hm.rel h9
      have hcheck := run_check hk h5 rk es.isEmpty w
      cases oi with
      | none =>
        simp at h10; subst h10
        simp only [Option.getD_none, Option.isSome_none] at h8
        refine ⟨_, if c then .tuple #[zv, .bool false] else zv, ?_, ?_, h8⟩
        · simp [execOp, ho, he, Instr.lookup, run_underlying' hu, MapKept.run_getObj_map hm.heap, hcheck, hfind, foundAt, hzr]
        · cases c
          · exact hzrel
          · exact .tupL (.cons hzrel (.cons (.bool _) .nil))
      | some j =>
        obtain ⟨q1, p, q2, q3⟩ := idxK_lt kk kv h9
        have hj : j < es.toList.length := by rw [← hm.rel.1]; exact q1
        obtain ⟨r1, r2⟩ := hm.rel.2 j q1 hj
        simp only [Option.bind_some, q2, Option.map_some] at h10
        subst h10
        simp only [Option.getD_some, Option.isSome_some] at h8
        have hp : l[j] = p := by rw [List.getElem?_eq_getElem q1] at q2; exact Option.some.inj q2
        rw [hp] at r2
        refine ⟨_, if c then .tuple #[es.toList[j].val, .bool true] else es.toList[j].val, ?_, ?_, h8⟩
        · simp [execOp, ho, he, Instr.lookup, run_underlying' hu, MapKept.run_getObj_map hm.heap, hcheck, hfind, foundAt]
          have : j < es.size := by simpa using hj
          simp [this]
        · cases c
          · exact r2
          · exact .tupL (.cons r2 (.cons (.bool _) .nil))
    · exact h4.elim
  case nilmap =>
    have he := rel_nilmap rm
    obtain ⟨h5, h6⟩ := h4
    have hcheck := run_check hk h5 rk true w
    have hfind := run_find hk rk w (m := []) (es := []) (i := none) ⟨rfl, fun i h => by simp at h⟩ rfl
    refine ⟨_, if c then .tuple #[zv, .bool false] else zv, ?_, ?_, h6⟩
    · simp [execOp, ho, he, Instr.lookup, run_underlying' hu, hcheck, hfind, foundAt, hzr]
    · cases c
      · exact hzrel
      · exact .tupL (.cons hzrel (.cons (.bool _) .nil))
theorem RelM.push {K : Gh} {m : List (AV × AV)} {es : List MapEntry} (h : RelM K m es) {k v : AV} {e : MapEntry} (h1 : Rel K k e.key) (h2 : Rel K v e.val) : RelM K (m ++ [(k, v)]) (es ++ [e]) := by
  refine ⟨by simp [h.1], fun i hi hi' => ?_⟩
  have hl := h.1
  rcases Nat.lt_or_ge i m.length with h' | h'
  · have := h.2 i h' (by omega)
    rw [List.getElem_append_left h', List.getElem_append_left (by omega)]; exact this
  · have : i = m.length := by simp at hi; omega
    subst this
    rw [List.getElem_append_right (by omega), List.getElem_append_right (by omega)]
    simp [h1, h2, hl]
theorem RelM.modify {K : Gh} {m : List (AV × AV)} {es : List MapEntry} (h : RelM K m es) (j : Nat) {f : AV × AV → AV × AV} {g : MapEntry → MapEntry} (hfg : ∀ p e, Rel K p.1 e.key → Rel K p.2 e.val → Rel K (f p).1 (g e).key ∧ Rel K (f p).2 (g e).val) : RelM K (m.modify j f) (es.modify j g) := by
  refine ⟨by simp [h.1], fun i hi hi' => ?_⟩
  simp only [List.length_modify] at hi hi'
  have := h.2 i hi hi'
  rw [List.getElem_modify, List.getElem_modify]
  split
  · exact hfg _ _ this.1 this.2
  · exact this
theorem RelM.erase {K : Gh} {m : List (AV × AV)} {es : List MapEntry} (h : RelM K m es) (j : Nat) : RelM K (m.eraseIdx j) (es.eraseIdx j) := by
  have hl := h.1
  refine ⟨by simp [List.length_eraseIdx, hl], fun i hi hi' => ?_⟩
  rw [List.getElem_eraseIdx, List.getElem_eraseIdx]
  simp only [List.length_eraseIdx] at hi hi'
  split
  · exact h.2 _ _ _
  · exact h.2 _ _ _
theorem map_lay {K : Gh} {w : World} (hs : Sat K σ w) {ob r : Nat} {d : Bool} {m : List (AV × AV)} {es : Array MapEntry} {clock : Nat} (hl : σ ob = some (.map d m)) (hown : K.own ob = some (.map r)) (hm : MapAt K w r d m es clock)
    {k v : AV} {kv vv : Value} (rk : Rel K k kv) (rv : Rel K v vv) :
    Sat K (upd σ ob (.map d (m ++ [(k, v)]))) { w with heap := w.heap.setIfInBounds r (.map (es.push { key := kv, val := vv, born := clock }) (clock + 1)) } := by
  refine hs.mapSet hl hown hm (by rw [Array.toList_push]; exact hm.rel.push rk rv) (fun i h => ?_) (fun i j h h' e => ?_) (fun hd => ?_)
  · rw [Array.getElem_push]
    split
    · have := hm.lt i ‹_›; omega
    · simp
  · rw [Array.getElem_push, Array.getElem_push] at e
    simp only [Array.size_push] at h h'
    split at e <;> split at e
    · exact hm.inj i j _ _ e
    · have := hm.lt i ‹_›; simp at e; omega
    · have := hm.lt j ‹_›; simp at e; omega
    · omega
  · obtain ⟨d1, d2⟩ := hm.dense hd
    refine ⟨by simp [d1], fun i h => ?_⟩
    rw [Array.getElem_push]
    split
    · exact d2 i _
    · simp only [Array.size_push] at h; simp; omega
theorem map_mod {K : Gh} {w : World} (hs : Sat K σ w) {ob r : Nat} {d : Bool} {m : List (AV × AV)} {es : Array MapEntry} {clock : Nat} (hl : σ ob = some (.map d m)) (hown : K.own ob = some (.map r)) (hm : MapAt K w r d m es clock) (j : Nat)
    {f : AV × AV → AV × AV} {g : MapEntry → MapEntry} (hfg : ∀ p e, Rel K p.1 e.key → Rel K p.2 e.val → Rel K (f p).1 (g e).key ∧ Rel K (f p).2 (g e).val) (hb : ∀ e, (g e).born = e.born) :
    Sat K (upd σ ob (.map d (m.modify j f))) { w with heap := w.heap.setIfInBounds r (.map (es.modify j g) clock) } := by
  have eb : ∀ i, (h : i < (es.modify j g).size) → (es.modify j g)[i].born = (es[i]'(by simpa using h)).born := fun i h => by
    rw [Array.getElem_modify]
    split
    · exact hb _
    · rfl
  refine hs.mapSet hl hown hm (by rw [Array.toList_modify]; exact hm.rel.modify j hfg) (fun i h => ?_) (fun i i' h h' e => ?_) (fun hd => ?_)
  · rw [eb]; exact hm.lt i _
  · rw [eb, eb] at e; exact hm.inj i i' _ _ e
  · obtain ⟨d1, d2⟩ := hm.dense hd
    exact ⟨by simp [d1], fun i h => by rw [eb]; exact d2 i _⟩
theorem run_stays {old new : Value} (h : Instr.sameBits 10000 old new = true) (w : World) : (Instr.keyThatStays old new).run P w = .ok new w := by
  simp [Instr.keyThatStays, h]
theorem ok_mset {t kt e m k v kk am ak av} (ho : o.op = .mapUpdate t m k v ∨ o.op = .insert t m k v) (hd : o.dst = none) (hu : P.underlying t = some (.map kt e)) (hk : kkOf P kt = some kk) (hm : trOpnd m = some am) (hk' : trOpnd k = some ak) (hv : trOpnd v = some av)
    (h : exOpN nm env σ R (.ext (.mset kk am ak av))) : OpOk P o N env σ nm R := by
  intro S K a w hf hs _ _
  obtain ⟨mv, h1, h2⟩ := wth_some h
  obtain ⟨kv, h3, h4⟩ := wth_some h2
  obtain ⟨vv, h5, h6⟩ := wth_some h4
  have rm := trOpnd_rel hm h1 hf
  have rk := trOpnd_rel hk' h3 hf
  have rv := trOpnd_rel hv h5 hf
  cases mv <;> simp only [] at h6 <;> first | exact h6.elim | skip
  rename_i ob
  obtain ⟨r, he, hown⟩ := rel_map rm
  split at h6
  · rename_i d l hl
    obtain ⟨h7, h8⟩ := h6
    obtain ⟨l', h9, h10⟩ := lkm_some h8
    obtain ⟨es, clock, hma⟩ := mapAt_of hs hl hown
    rw [setK_idx] at h9
    simp only [Option.map_eq_some_iff] at h9
    obtain ⟨oi, h11, h12⟩ := h9
    have hfind := run_find hk rk w hma.rel h11
    have hcheck := run_check hk h7 rk false w
    have exe : ∀ {w'}, (Instr.mapUpdate t (.map (some r)) (a.eval k) (a.eval v)).run P w = .ok () w' → (execOp a.eval o).run P w = .ok .skip w' := by
      intro w' hr
      rcases ho with ho | ho <;> simp [execOp, ho, he, hr]
    cases oi with
    | none =>
      simp at h12; subst h12
      refine ⟨K, .tup [], some (ob, _), undef, _, .inr ⟨exe ?_, hd⟩, Gh.leS.refl K, .tupL .nil, map_lay hs hl hown hma rk rv, h10⟩
      simp [Instr.mapUpdate, run_underlying' hu, MapKept.run_getObj_map hma.heap, hcheck, hfind, foundAt, MapKept.run_setObj_map _ hma.heap]
    | some j =>
      simp at h12; subst h12
      obtain ⟨q1, p, q2, q3⟩ := idxK_lt kk kv h11
      have hj : j < es.toList.length := by rw [← hma.rel.1]; exact q1
      obtain ⟨r1, r2⟩ := hma.rel.2 j q1 hj
      have hp : l[j] = p := by rw [List.getElem?_eq_getElem q1] at q2; exact Option.some.inj q2
      rw [hp] at r1
      obtain ⟨e1, e2⟩ := eqKey_val q3 rk r1
      have hje : j < es.size := by simpa using hj
      have hold : (Option.map (fun e : MapEntry => e.key) es[j]?).getD (a.eval k) = a.eval k := by
        rw [Array.getElem?_eq_getElem hje]; simp; rw [e1]; simp
      have hst : Instr.sameBits 10000 (a.eval k) (a.eval k) = true := by rw [← e1] at e2; exact e2
      refine ⟨K, .tup [], some (ob, _), undef, _, .inr ⟨exe ?_, hd⟩, Gh.leS.refl K, .tupL .nil,
        map_mod hs hl hown hma j (f := fun _ => (kv, vv)) (g := fun e => { e with key := a.eval k, val := a.eval v }) (fun p e _ _ => ⟨rk, rv⟩) (fun e => rfl), h10⟩
      simp [Instr.mapUpdate, run_underlying' hu, MapKept.run_getObj_map hma.heap, hcheck, hfind, foundAt, hold, run_stays hst, MapKept.run_setObj_map _ hma.heap]
  · exact h6.elim
theorem ok_mdel {t kt e t2 m k kk am ak} (ho : o.op = .call { callee := .builtin .delete, args := #[m, k], argTypes := #[t, t2] }) (hu : P.underlying t = some (.map kt e)) (hk : kkOf P kt = some kk) (hm : trOpnd m = some am) (hk' : trOpnd k = some ak)
    (h : exOpN nm env σ R (.ext (.mdel kk am ak))) : OpOk P o N env σ nm R := by
  intro S K a w hf hs _ _
  obtain ⟨mv, h1, h2⟩ := wth_some h
  obtain ⟨kv, h3, h6⟩ := wth_some h2
  have rm := trOpnd_rel hm h1 hf
  have rk := trOpnd_rel hk' h3 hf
  cases mv <;> simp only [] at h6 <;> first | exact h6.elim | skip
  rename_i ob
  obtain ⟨r, he, hown⟩ := rel_map rm
  split at h6
  · rename_i d l hl
    obtain ⟨h7, h8⟩ := h6
    obtain ⟨l', h9, h10⟩ := lkm_some h8
    obtain ⟨es, clock, hma⟩ := mapAt_of hs hl hown
    rw [delK_idx] at h9
    simp only [Option.map_eq_some_iff] at h9
    obtain ⟨oi, h11, h12⟩ := h9
    have hfind := run_find hk rk w hma.rel h11
    have hcheck := run_check hk h7 rk es.isEmpty w
    have exe : ∀ {w'}, (Builtin.delete_ #[t, t2] o.type #[.map (some r), a.eval k]).run P w = .ok (.tuple #[]) w' → (execOp a.eval o).run P w = .ok (.value (.tuple #[])) w' := by
      intro w' hr
      have e2 : #[m, k].map a.eval = #[.map (some r), a.eval k] := by simp [he]
      simp only [execOp, ho, resolve, invoke, Go.builtin, Sem.run_bind, Sem.run_pure, Result.andThen_ok, e2, hr]
    cases oi with
    | none =>
      simp at h12; subst h12
      refine ⟨K, .tup [], some (ob, _), _, _, .inl (exe ?_), Gh.leS.refl K, .tupL .nil, hs.mapSet hl hown hma hma.rel hma.lt hma.inj (fun h => by simp at h), h10⟩
      simp [Builtin.delete_, run_underlying' hu, MapKept.run_getObj_map hma.heap, hcheck, hfind, foundAt, MapKept.run_setObj_map _ hma.heap]
    | some j =>
      simp at h12; subst h12
      obtain ⟨q1, p, q2, q3⟩ := idxK_lt kk kv h11
      have hj : j < es.toList.length := by rw [← hma.rel.1]; exact q1
      have hje : j < es.size := by simpa using hj
      have eb : ∀ i, (h : i < (es.eraseIdx j).size) → ∃ i', ∃ h' : i' < es.size, (es.eraseIdx j)[i].born = es[i'].born ∧ i' = if i < j then i else i + 1 := fun i h => by
        rw [Array.getElem_eraseIdx]
        have hsz : (es.eraseIdx j).size = es.size - 1 := by simp
        split
        · exact ⟨i, by omega, rfl, rfl⟩
        · exact ⟨i + 1, by omega, rfl, rfl⟩
      refine ⟨K, .tup [], some (ob, _), _, _, .inl (exe ?_), Gh.leS.refl K, .tupL .nil, hs.mapSet (es' := es.eraseIdx j) (clock' := clock) hl hown hma (by rw [Array.toList_eraseIdx]; exact hma.rel.erase j) (fun i h => ?_) (fun i i' h h' e => ?_) (fun h => by simp at h), h10⟩
      · simp [Builtin.delete_, run_underlying' hu, MapKept.run_getObj_map hma.heap, hcheck, hfind, foundAt, MapKept.run_setObj_map _ hma.heap, Array.eraseIdxIfInBounds, hje]
      · obtain ⟨i', h', e1, _⟩ := eb i h
        rw [e1]; exact hma.lt i' h'
      · obtain ⟨a1, a2, a3, a4⟩ := eb i h
        obtain ⟨b1, b2, b3, b4⟩ := eb i' h'
        rw [a3, b3] at e
        have := hma.inj a1 b1 a2 b2 e
        split at a4 <;> split at b4 <;> omega
  · exact h6.elim
theorem ok_lenM {t kt e x ax} (ho : o.op = .call { callee := .builtin .len, args := #[x], argTypes := #[t] }) (hu : P.underlying t = some (.map kt e)) (hx : trOpnd x = some ax)
    (h : exOpN nm env σ R (.ext (.lenM ax))) : OpOk P o N env σ nm R := by
  refine .still fun K a w hf hs => ?_
  obtain ⟨mv, h1, h2⟩ := wth_some h
  have rm := trOpnd_rel hx h1 hf
  cases mv <;> simp only [] at h2 <;> first | exact h2.elim | skip
  · rename_i ob
    obtain ⟨r, he, hown⟩ := rel_map rm
    split at h2
    · rename_i d l hl
      obtain ⟨es, clock, hma⟩ := mapAt_of hs hl hown
      have hsz : es.size = l.length := by have := hma.rel.1; simpa using this.symm
      refine ⟨_, .int .i64 l.length, ?_, .int _ _, h2⟩
      simp [execOp, ho, resolve, invoke, Go.builtin, Builtin.len_, he, run_underlying' hu, MapKept.run_getObj_map hma.heap, goInt, hsz]
    · exact h2.elim
  · have he := rel_nilmap rm
    refine ⟨_, .int .i64 0, ?_, .int _ _, h2⟩
    simp [execOp, ho, resolve, invoke, Go.builtin, Builtin.len_, he, run_underlying' hu, goInt]
theorem ok_isnil {op t x y yt ne ax ay} (ho : o.op = .binOp op t x y yt) (hop : op = .eql ∧ ne = false ∨ op = .neq ∧ ne = true) (hu : isSl P t = true) (hn : isNilC ay = true) (hx : trOpnd x = some ax) (hy : trOpnd y = some ay)
    (h : exOpN nm env σ R (.ext (.isnil ne ax))) : OpOk P o N env σ nm R := by
  refine .still fun K a w hf hs => ?_
  obtain ⟨av, h1, h2⟩ := wth_some h
  have ra := trOpnd_rel hx h1 hf
  obtain ⟨e, hut⟩ : ∃ e, P.underlying t = some (.slice e) := by
    unfold isSl at hu
    split at hu
    · exact ⟨_, by assumption⟩
    · simp at hu
  have hay : ay = .c (.slice [] .nil) := by
    unfold isNilC at hn
    split at hn
    · rfl
    · simp at hn
  subst hay
  have rb : Rel K (.slice [] .nil) (a.eval y) := trOpnd_rel hy rfl hf
  have eb : a.eval y = .slice none 0 0 := by
    generalize a.eval y = vy at rb
    cases rb with
    | sl0 a0 cap t ht =>
      rcases ht with h | ⟨h, _⟩ | ⟨_, rfl, rfl⟩ | ⟨_, _, _, h, _⟩
      · simp at h
      · simp at h
      · rfl
      · simp at h
    | slice l t b off cap sz v hsz hc hr ht hcap => exact ht.elim
  have key : ∀ {a0 : Option Addr} {n cap : Nat} {v : Bool}, a.eval x = .slice a0 n cap → (ne = false → v = a0.isNone) → (ne = true → v = !a0.isNone) → (execOp a.eval o).run P w = .ok (.value (.bool v)) w := fun {a0 n cap v} ea h1 h2 => by
    have hq' : ∀ d, (Op.equalIn (d + 1) t (.slice a0 n cap) (.slice none 0 0)).run P w = .ok a0.isNone w := fun d => by
      cases a0 <;> simp [Op.equalIn, run_underlying' hut]
    have hq : (Op.equalIn 10000 t (.slice a0 n cap) (.slice none 0 0)).run P w = .ok a0.isNone w := hq' 9999
    have hg : ∀ op, (eqGuard op t x y (.slice a0 n cap) (.slice none 0 0)).run P w = .ok () w := fun op => by
      unfold eqGuard; split <;> rfl
    rcases hop with ⟨rfl, rfl⟩ | ⟨rfl, rfl⟩
    · simp only [execOp, ho, ea, eb, Sem.run_bind, hg, Result.andThen_ok, binOp, Op.equal, Op.maxDepth, hq, Sem.run_pure, h1 rfl]
    · simp only [execOp, ho, ea, eb, Sem.run_bind, hg, Result.andThen_ok, binOp, Op.equal, Op.maxDepth, hq, Sem.run_pure, h2 rfl]
  cases av <;> first | exact h2.elim | skip
  rename_i l t'
  by_cases hl : l = []
  · subst hl
    obtain ⟨k1, k2⟩ := h2.1 rfl
    obtain ⟨a0, n, cap, ea⟩ : ∃ a0 n cap, a.eval x = .slice a0 n cap := by
      generalize a.eval x = vx at ra
      cases ra with
      | sl0 a0 cap t ht => exact ⟨_, _, _, rfl⟩
      | slice l t b off cap sz v hsz hc hr ht hcap => exact ⟨_, _, _, rfl⟩
    obtain ⟨v, hv1, hv2⟩ : ∃ v : Bool, (ne = false → v = a0.isNone) ∧ (ne = true → v = !a0.isNone) := by
      cases ne
      · exact ⟨a0.isNone, fun _ => rfl, fun h => by simp at h⟩
      · exact ⟨!a0.isNone, fun h => by simp at h, fun _ => rfl⟩
    refine ⟨_, .bool v, key ea hv1 hv2, .bool _, ?_⟩
    cases v
    · exact k2
    · exact k1
  · have k := h2.2 hl
    obtain ⟨b, off, cap, ea⟩ : ∃ b off cap, a.eval x = .slice (some ⟨b, off, none⟩) l.length cap := by
      generalize a.eval x = vx at ra
      cases ra with
      | sl0 a0 cap t ht => exact absurd rfl hl
      | slice l t b off cap sz v hsz hc hr ht hcap => exact ⟨_, _, _, rfl⟩
    exact ⟨_, .bool ne, key ea (fun h => by rw [h]; rfl) (fun h => by rw [h]; rfl), .bool _, k⟩
theorem ok_ment {t kt e m k kk z am ak} (ho : o.op = .mapEntry t m k) (hu : P.underlying t = some (.map kt e)) (hk : kkOf P kt = some kk) (hz : zeroAV P e = some z) (hm : trOpnd m = some am) (hk' : trOpnd k = some ak)
    (h : exOpN nm env σ R (.ext (.ment kk z am ak))) : OpOk P o N env σ nm R := by
  intro S K a w hf hs _ _
  obtain ⟨mv, h1, h2⟩ := wth_some h
  obtain ⟨kv, h3, h6⟩ := wth_some h2
  have rm := trOpnd_rel hm h1 hf
  have rk := trOpnd_rel hk' h3 hf
  obtain ⟨zv, hzr, hzrel⟩ := zeroAV_run (K := K) hz w
  cases mv <;> simp only [] at h6 <;> first | exact h6.elim | skip
  rename_i ob
  obtain ⟨r, he, hown⟩ := rel_map rm
  split at h6
  · rename_i l hl
    obtain ⟨h7, h8⟩ := h6
    obtain ⟨l', h9, h10⟩ := lkm_some h8
    obtain ⟨es, clock, hma⟩ := mapAt_of hs hl hown
    obtain ⟨d1, d2⟩ := hma.dense rfl
    have hsz : es.size = l.length := by have := hma.rel.1; simpa using this.symm
    rw [entK_idx] at h9
    simp only [Option.map_eq_some_iff] at h9
    obtain ⟨oi, h11, h12⟩ := h9
    have hfind := run_find hk rk w hma.rel h11
    have hcheck := run_check hk h7 rk false w
    cases oi with
    | none =>
      simp at h12; subst h12
      refine ⟨K, _, some (ob, _), .tuple #[zv, .int .i64 clock], _, .inl ?_, Gh.leS.refl K, .tupL (.cons hzrel (.cons ?_ .nil)), map_lay hs hl hown hma rk hzrel, h10⟩
      · simp [execOp, ho, he, Instr.mapEntry, run_underlying' hu, MapKept.run_getObj_map hma.heap, hcheck, hfind, foundAt, hzr, MapKept.run_setObj_map _ hma.heap, goInt]
      · rw [d1, hsz]; exact .int _ _
    | some j =>
      simp at h12; subst h12
      obtain ⟨q1, p, q2, q3⟩ := idxK_lt kk kv h11
      have hj : j < es.toList.length := by rw [← hma.rel.1]; exact q1
      obtain ⟨r1, r2⟩ := hma.rel.2 j q1 hj
      have hp : l[j] = p := by rw [List.getElem?_eq_getElem q1] at q2; exact Option.some.inj q2
      rw [hp] at r1 r2
      obtain ⟨e1, e2⟩ := eqKey_val q3 rk r1
      have hje : j < es.size := by simpa using hj
      have hold : es[j].key = a.eval k := by rw [e1]; simp
      have hst : Instr.sameBits 10000 (a.eval k) (a.eval k) = true := by rw [← e1] at e2; exact e2
      refine ⟨K, _, some (ob, _), .tuple #[es.toList[j].val, .int .i64 j], _, .inl ?_, Gh.leS.refl K, .tupL (.cons ?_ (.cons (.int _ _) .nil)),
        map_mod hs hl hown hma j (f := fun p => (kv, p.2)) (g := fun e => { e with key := a.eval k }) (fun p e _ h => ⟨rk, h⟩) (fun e => rfl), h10⟩
      · simp [execOp, ho, he, Instr.mapEntry, run_underlying' hu, MapKept.run_getObj_map hma.heap, hcheck, hfind, foundAt, hold, run_stays hst, MapKept.run_setObj_map _ hma.heap, goInt, hje, d2 j hje]
      · rw [q2]; simpa using r2
  · exact h6.elim
theorem ok_eset {t m s v am as_ av} (ho : o.op = .entryStore t m s v) (hd : o.dst = none) (hm : trOpnd m = some am) (hs' : trOpnd s = some as_) (hv : trOpnd v = some av)
    (h : exOpN nm env σ R (.ext (.eset am as_ av))) : OpOk P o N env σ nm R := by
  intro S K a w hf hs _ _
  obtain ⟨mv, h1, h2⟩ := wth_some h
  obtain ⟨sv, h3, h4⟩ := wth_some h2
  obtain ⟨vv, h5, h6⟩ := wth_some h4
  have rm := trOpnd_rel hm h1 hf
  have rs := trOpnd_rel hs' h3 hf
  have rv := trOpnd_rel hv h5 hf
  split at h6
  · rename_i ob i
    obtain ⟨r, he, hown⟩ := rel_map rm
    split at h6
    · rename_i l hl
      obtain ⟨⟨p1, p2⟩, h7⟩ := h6
      obtain ⟨es, clock, hma⟩ := mapAt_of hs hl hown
      obtain ⟨d1, d2⟩ := hma.dense rfl
      have hsz : es.size = l.length := by have := hma.rel.1; simpa using this.symm
      have ei := rel_int rs
      have hfi : es.findIdx? (fun e => (e.born : Int) == i) = some i.toNat := by
        rw [Array.findIdx?_eq_some_iff_getElem]
        refine ⟨by omega, ?_, fun j hj => ?_⟩
        · rw [d2 _ (by omega)]; simp; omega
        · rw [d2 _ (by omega)]; simp; omega
      refine ⟨K, .tup [], some (ob, _), undef, _, .inr ⟨?_, hd⟩, Gh.leS.refl K, .tupL .nil,
        map_mod hs hl hown hma i.toNat (f := fun p => (p.1, vv)) (g := fun e => { e with val := a.eval v }) (fun p e h _ => ⟨h, rv⟩) (fun e => rfl), h7⟩
      simp [execOp, ho, he, ei, Instr.entryStore, MapKept.run_getObj_map hma.heap, asInt, asIntOf, hfi, MapKept.run_setObj_map _ hma.heap]
    · exact h6.elim
  · exact h6.elim
theorem ok_tas {x xt t c z ax d} (ho : o.op = .typeAssert x xt t c) (hu : P.underlying t = some d) (hd : ∀ ms, d ≠ .interface ms) (hz : zeroAV P t = some z) (hx : trOpnd x = some ax)
    (h : exOpN nm env σ R (.ext (.tas t z c ax))) : OpOk P o N env σ nm R := by
  refine .still fun K a w hf hs => ?_
  obtain ⟨av, h1, h2⟩ := wth_some h
  have ra := trOpnd_rel hx h1 hf
  obtain ⟨zv, hzr, hzrel⟩ := zeroAV_run (K := K) hz w
  have hun : ∀ {β : Type} (f : List (String × TypeId) → β), True := fun _ => trivial
  cases av <;> simp only [] at h2 <;> first | exact h2.elim | skip
  case nili =>
    obtain ⟨rfl, h3⟩ := h2
    have he : a.eval x = .nilIface := by generalize a.eval x = v at ra; cases ra; rfl
    refine ⟨_, .tuple #[zv, .bool false], ?_, .tupL (.cons hzrel (.cons (.bool _) .nil)), h3⟩
    cases d <;> first | exact absurd rfl (hd _) | simp [execOp, ho, he, Instr.typeAssert, run_underlying' hu, hzr]
  case iface t' v =>
    obtain ⟨u, he, hu'⟩ : ∃ u, a.eval x = .iface t' u ∧ Rel K v u := by
      generalize a.eval x = vv at ra
      cases ra with | iface _ _ u h => exact ⟨u, rfl, h⟩
    by_cases htt : t' = t
    · subst htt
      refine ⟨_, if c then .tuple #[u, .bool true] else u, ?_, ?_, h2.1 rfl⟩
      · cases d <;> first | exact absurd rfl (hd _) | simp [execOp, ho, he, Instr.typeAssert, run_underlying' hu]
      · cases c
        · exact hu'
        · exact .tupL (.cons hu' (.cons (.bool _) .nil))
    · obtain ⟨rfl, h3⟩ := h2.2 htt
      refine ⟨_, .tuple #[zv, .bool false], ?_, .tupL (.cons hzrel (.cons (.bool _) .nil)), h3⟩
      cases d <;> first | exact absurd rfl (hd _) | simp [execOp, ho, he, Instr.typeAssert, run_underlying' hu, hzr, htt]
end ops
end Abs

namespace Abs
open Go
inductive Lift (B : AV → AV → Prop) : AV → AV → Prop
  | refl (a) : Lift B a a
  | base (a b) (h : B a b) : Lift B a b
  | slice (l0 l : List AV) (t0 t : Tok) (ht : t0 = .no ∨ t0 = t) (hl : l0.length = l.length) (h : ∀ i, (h0 : i < l0.length) → (h1 : i < l.length) → Lift B l0[i] l[i]) : Lift B (.slice l0 t0) (.slice l t)
  | agg (l0 l : List AV) (hl : l0.length = l.length) (h : ∀ i, (h0 : i < l0.length) → (h1 : i < l.length) → Lift B l0[i] l[i]) : Lift B (.agg l0) (.agg l)
  | tup (l0 l : List AV) (hl : l0.length = l.length) (h : ∀ i, (h0 : i < l0.length) → (h1 : i < l.length) → Lift B l0[i] l[i]) : Lift B (.tup l0) (.tup l)
def LiftL (B : AV → AV → Prop) (l0 l : List AV) : Prop := l0.length = l.length ∧ ∀ i, (h0 : i < l0.length) → (h1 : i < l.length) → Lift B l0[i] l[i]
def PlainB (B : AV → AV → Prop) : Prop := ∀ a b, B a b → oneA a = true ∧ oneA b = true
theorem cells_one {a : AV} (h : oneA a = true) : cellsA a = [a] := by cases a <;> simp [oneA] at h <;> rfl
theorem LiftL.refl (B) (l : List AV) : LiftL B l l := ⟨rfl, fun _ _ _ => .refl _⟩
theorem LiftL.nil (B) : LiftL B [] [] := LiftL.refl B []
theorem LiftL.cons {B a b l m} (h : Lift B a b) (hs : LiftL B l m) : LiftL B (a :: l) (b :: m) :=
  ⟨by simp [hs.1], fun i h1 h2 => by
    cases i with
    | zero => exact h
    | succ i => exact hs.2 i (by simpa using h1) (by simpa using h2)⟩
theorem LiftL.append {B l0 l m0 m} (h : LiftL B l0 l) (h' : LiftL B m0 m) : LiftL B (l0 ++ m0) (l ++ m) :=
  ⟨by simp [h.1, h'.1], fun i h1 h2 => by
    rw [List.getElem_append, List.getElem_append]
    by_cases hi : i < l0.length
    · have : i < l.length := h.1 ▸ hi
      simp only [hi, this, dite_true]; exact h.2 i hi this
    · have : ¬ i < l.length := h.1 ▸ hi
      simp only [hi, this, dite_false]
      have e : i - l0.length = i - l.length := by rw [h.1]
      have h3 : i - l0.length < m0.length := by simp at h1; omega
      have := h'.2 (i - l0.length) h3 (by rw [← h'.1]; exact h3)
      simp only [e] at this ⊢
      exact this⟩
theorem LiftL.cons_inv {B a l m} (h : LiftL B (a :: l) m) : ∃ b r, m = b :: r ∧ Lift B a b ∧ LiftL B l r := by
  cases m with
  | nil => simp [LiftL] at h
  | cons b r =>
    refine ⟨b, r, rfl, h.2 0 (by simp) (by simp), by simpa using h.1, fun i h1 h2 => ?_⟩
    exact h.2 (i + 1) (by simpa using h1) (by simpa using h2)
theorem Lift.cells {B a b} (hB : PlainB B) (h : Lift B a b) : LiftL B (cellsA a) (cellsA b) := by
  cases h with
  | refl => exact .refl B _
  | base _ _ h => rw [cells_one (hB _ _ h).1, cells_one (hB _ _ h).2]; exact .cons (.base _ _ h) (.nil B)
  | slice l0 l t0 t ht hl h => exact .cons (.slice l0 l t0 t ht hl h) (.nil B)
  | agg l0 l hl h => exact ⟨hl, h⟩
  | tup l0 l hl h => exact .cons (.tup l0 l hl h) (.nil B)
theorem LiftL.flat {B} (hB : PlainB B) : ∀ {l0 l : List AV}, LiftL B l0 l → LiftL B (flat l0) (flat l)
  | [], l, h => by
    cases l with
    | nil => exact .nil B
    | cons a l => simp [LiftL] at h
  | a :: l0, m, h => by
    obtain ⟨b, l, rfl, h1, h2⟩ := h.cons_inv
    have := (h1.cells hB).append (LiftL.flat hB h2)
    simpa [Abs.flat] using this
theorem relL_of_cells {K : Gh} : ∀ {b : AV} {vs : List Value}, RelL K (cellsA b) vs → ∃ v, Rel K b v ∧ v.cells.toList = vs := by
  intro b vs h
  cases b with
  | agg cs => exact ⟨.agg vs.toArray, .aggL (by simpa [cellsA] using h), by simp [Value.cells]⟩
  | _ =>
    obtain ⟨v, r, rfl, h1, h2⟩ := h.cons_inv
    obtain rfl : r = [] := by have := h2.1; simpa using this.symm
    exact ⟨v, h1, by cases h1 <;> rfl⟩
theorem Rel.lift {B : AV → AV → Prop} (hB : PlainB B) {K K' : Gh} (hK : K.le K') (hr : ∀ a b v, B a b → Rel K b v → Rel K' a v) {a0 a : AV} (h : Lift B a0 a) : ∀ {v : Value}, Rel K a v → Rel K' a0 v := by
  induction h with
  | refl a => intro v h; exact h.mono hK
  | base a b hb => intro v h; exact hr a b v hb h
  | agg l0 l hl h ih =>
    intro v hv
    cases hv with
    | agg _ vs hs hr' => exact .agg l0 vs (by omega) fun i h1 h2 => ih i h1 (by omega) (hr' i (by omega) h2)
  | tup l0 l hl h ih =>
    intro v hv
    cases hv with
    | tup _ vs hs hr' => exact .tup l0 vs (by omega) fun i h1 h2 => ih i h1 (by omega) (hr' i (by omega) h2)
  | slice l0 l t0 t ht hl h ih =>
    intro v hv
    have tk : ∀ {b off cap sz}, TokOk K t l.length b off cap sz → TokOk K' t0 l0.length b off cap sz := by
      intro b off cap sz hk
      rw [hl]
      rcases ht with rfl | rfl
      · trivial
      · exact hk.mono hK
    cases hv with
    | sl0 a cap _ ht' =>
      obtain rfl : l0 = [] := by simpa using hl
      refine .sl0 a cap t0 ?_
      rcases ht with rfl | rfl
      · exact .inl rfl
      · rcases ht' with h | h | h | ⟨h1, h2, o, h3, h4⟩
        · exact .inl h
        · exact .inr (.inl h)
        · exact .inr (.inr (.inl h))
        · exact .inr (.inr (.inr ⟨h1, h2, o, h3, h4.mono hK⟩))
    | slice _ _ b off cap sz u hsz hc hr' htk hcap =>
      have hL : LiftL B l0 l := ⟨hl, h⟩
      have hF := hL.flat hB
      have hl' : ∀ x ∈ l0, (cellsA x).length = sz := by
        intro x hx
        obtain ⟨i, hi, rfl⟩ := List.getElem_of_mem hx
        have := ((h i hi (by omega)).cells hB).1
        rw [this]; exact hsz _ (List.getElem_mem _)
      have key : ∀ i, (hi : i < (Abs.flat l0).length) → Rel K' (Abs.flat l0)[i] (u i) := by
        -- element by element
        have gen : ∀ (p0 p : List AV) (k : Nat), p0.length = p.length → (∀ j, (h0 : j < p0.length) → (h1 : j < p.length) → Lift B p0[j] p[j] ∧ ∀ v, Rel K p[j] v → Rel K' p0[j] v) →
            (∀ i, (hi : i < (Abs.flat p).length) → Rel K (Abs.flat p)[i] (u (k + i))) → ∀ i, (hi : i < (Abs.flat p0).length) → Rel K' (Abs.flat p0)[i] (u (k + i)) := by
          intro p0
          induction p0 with
          | nil => intro p k _ _ _ i hi; simp [Abs.flat] at hi
          | cons x p0 ihp =>
            intro p k hlen hj hrel i hi
            cases p with
            | nil => simp at hlen
            | cons y p =>
              obtain ⟨hxy, hv0⟩ := hj 0 (by simp) (by simp)
              simp only [List.getElem_cons_zero] at hxy hv0
              have hc0 := hxy.cells hB
              have e1 : Abs.flat (x :: p0) = cellsA x ++ Abs.flat p0 := by simp [Abs.flat]
              have e2 : Abs.flat (y :: p) = cellsA y ++ Abs.flat p := by simp [Abs.flat]
              have hcy : RelL K (cellsA y) ((List.range (cellsA y).length).map fun j => u (k + j)) := by
                refine ⟨by simp, fun j h1 h2 => ?_⟩
                have := hrel j (by rw [e2, List.length_append]; omega)
                simp only [e2, List.getElem_append_left h1] at this
                simpa using this
              obtain ⟨v, hv, hvs⟩ := relL_of_cells hcy
              have hx := (hv0 v hv).cells
              rw [hvs] at hx
              by_cases hi0 : i < (cellsA x).length
              · have := hx.2 i hi0 (by have := hc0.1; simp; omega)
                simp only [e1, List.getElem_append_left hi0]
                simpa using this
              · have hi1 : i - (cellsA x).length < (Abs.flat p0).length := by rw [e1, List.length_append] at hi; omega
                have := ihp p (k + (cellsA y).length) (by simpa using hlen) (fun j h0 h1 => by
                    have := hj (j + 1) (by simpa using h0) (by simpa using h1)
                    simpa using this) (fun j hj' => by
                    have := hrel ((cellsA y).length + j) (by rw [e2, List.length_append]; omega)
                    simp only [e2, List.getElem_append_right (Nat.le_add_right _ _), Nat.add_sub_cancel_left] at this
                    rw [Nat.add_assoc]; exact this) (i - (cellsA x).length) hi1
                simp only [e1, List.getElem_append_right (Nat.le_of_not_lt hi0)]
                have e3 : k + (cellsA y).length + (i - (cellsA x).length) = k + i := by rw [← hc0.1]; omega
                rw [e3] at this; exact this
        have := gen l0 l 0 hl (fun j h0 h1 => ⟨h j h0 h1, fun v hv => ih j h0 h1 hv⟩) (fun i hi => by simpa using hr' i hi)
        intro i hi
        simpa using this i hi
      have := Rel.slice (K := K') l0 t0 b off cap sz u hl' (fun i hi => hK.claim _ _ _ (hc i (by rw [← hF.1]; exact hi))) key (tk htk) (by omega)
      rw [hl] at this; exact this

/-! ### Views -/
def LiftO (B : AV → AV → Prop) : AObj → AObj → Prop
  | .cells l0, .cells l => LiftL B l0 l
  | .vec s0 n0 l0, .vec s n l => s0 = s ∧ n0 = n ∧ LiftL B l0 l
  | .grow s0 n0, .grow s n => s0 = s ∧ n0 = n
  | .map d0 m0, .map d m => (d0 = true → d = true) ∧ m0 = m
  | .grow s0 n0, .virt s => s0 = s ∧ n0 = 0
  | .virt s0, .virt s => s0 = s
  | .iter a0 b0 c0, .iter a b c => a0 = a ∧ b0 = b ∧ c0 = c
  | .pin x0, .pin x => x0 = x
  | _, _ => False
theorem LiftO.refl (B) (x : AObj) : LiftO B x x := by
  cases x with
  | cells l => exact LiftL.refl B l
  | vec s n l => exact ⟨rfl, rfl, LiftL.refl B l⟩
  | grow s n => exact ⟨rfl, rfl⟩
  | map d m => exact ⟨id, rfl⟩
  | virt s => exact rfl
  | iter a b c => exact ⟨rfl, rfl, rfl⟩
  | pin x => exact rfl
def View (f : AV → AV → Prop) (σ0 σ : Sig) : Prop := ∀ S K w, Bnd S → Sat K σ w → ∃ K', K.leS S K' ∧ Sat K' σ0 w ∧ ∀ a0 a v, f a0 a → Rel K a v → Rel K' a0 v
def Vw (env0 : Env) (σ0 : Sig) (env : Env) (σ : Sig) : Prop := ∃ f, View f σ0 σ ∧ ∀ i v0, lk env0 i = some v0 → ∃ v, lk env i = some v ∧ f v0 v
def Vr (v0 : AV) (σ0 : Sig) (v : AV) (σ : Sig) : Prop := ∃ f, View f σ0 σ ∧ f v0 v
theorem Fr.view {K N env env0 a σ σ0 w} {S : Nat → Prop} (hv : Vw env0 σ0 env σ) (hS : Bnd S) (hf : Fr K N env a) (hs : Sat K σ w) : ∃ K', K.leS S K' ∧ Fr K' N env0 a ∧ Sat K' σ0 w := by
  obtain ⟨f, hv, he⟩ := hv
  obtain ⟨K', h1, h2, h3⟩ := hv S K w hS hs
  refine ⟨K', h1, ⟨hf.size, hf.defers.trans h1.le.ds.symm, fun i v0 e0 => ?_⟩, h2⟩
  obtain ⟨v, e, hfv⟩ := he i v0 e0
  obtain ⟨u, e1, r⟩ := hf.rel i v e
  exact ⟨u, e1, h3 _ _ _ hfv r⟩
theorem Rel.view {K v v0 u σ σ0 w} {S : Nat → Prop} (hv : Vr v0 σ0 v σ) (hS : Bnd S) (hr : Rel K v u) (hs : Sat K σ w) : ∃ K', K.leS S K' ∧ Rel K' v0 u ∧ Sat K' σ0 w := by
  obtain ⟨f, hv, he⟩ := hv
  obtain ⟨K', h1, h2, h3⟩ := hv S K w hS hs
  exact ⟨K', h1, h3 _ _ _ he hr, h2⟩
def nilB (σ : Sig) (a b : AV) : Prop := ∃ o sz, a = .slice [] (.own o) ∧ b = .slice [] .nil ∧ σ o = some (.virt sz)
theorem nilB_plain (σ : Sig) : PlainB (nilB σ) := fun a b ⟨o, sz, h1, h2, _⟩ => by subst h1 h2; exact ⟨rfl, rfl⟩
abbrev FL (σ : Sig) : AV → AV → Prop := Lift (nilB σ)
abbrev FLs (σ : Sig) : List AV → List AV → Prop := LiftL (nilB σ)
abbrev FLO (σ : Sig) : AObj → AObj → Prop := LiftO (nilB σ)
def SubXr (ρ : Sig) (ex : List Nat) (σ0 σ : Sig) : Prop := ∀ o, o ∉ ex → ∀ x, σ0 o = some x → ∃ y, σ o = some y ∧ FLO ρ x y
abbrev SubX (ex : List Nat) (σ0 σ : Sig) : Prop := SubXr σ ex σ0 σ
def NilsOk (K : Gh) (σ : Sig) : Prop := ∀ o sz, σ o = some (.virt sz) → NilOwn K o
theorem Sat.nils {K σ w} (h : Sat K σ w) : NilsOk K σ := fun o sz e => by
  obtain ⟨x, h1, h2⟩ := h.live o _ e
  cases x <;> simp only [ObjSat] at h2
  exact ⟨_, .inl h1⟩
theorem Rel.fl {K σ a0 a v} (hn : NilsOk K σ) (h : FL σ a0 a) (hr : Rel K a v) : Rel K a0 v := Rel.lift (nilB_plain σ) (Gh.le.refl K) (fun a b v ⟨o, sz, h1, h2, h3⟩ hr => by
  subst h1 h2
  cases hr with
  | sl0 a cap t ht =>
    simp at ht
    obtain ⟨rfl, rfl⟩ := ht
    exact .sl0 none 0 (.own o) (.inr (.inr (.inr ⟨rfl, rfl, o, rfl, hn o sz h3⟩)))
  | slice _ _ _ _ _ _ _ _ _ _ htk => exact htk.elim) h hr
theorem RelL.fl {K σ l0 l vs} (hn : NilsOk K σ) (h : FLs σ l0 l) (hr : RelL K l vs) : RelL K l0 vs :=
  ⟨h.1.trans hr.1, fun i h1 h2 => (hr.2 i (by rw [← h.1]; exact h1) h2).fl hn (h.2 i h1 (by rw [← h.1]; exact h1))⟩
theorem ObjSat.fl {K σ w e x y} (hn : NilsOk K σ) (h : ObjSat K w e y) (hf : FLO σ x y) : ObjSat K w e x := by
  cases x <;> cases y <;> simp only [LiftO] at hf
  · cases e <;> simp only [ObjSat] at h ⊢
    obtain ⟨h1, ⟨c, el, h2, h3⟩, h4⟩ := h
    exact ⟨h1, ⟨c, el, h2, h3.fl hn hf⟩, h4⟩
  · obtain ⟨rfl, rfl, hf⟩ := hf
    cases e <;> simp only [ObjSat] at h ⊢
    obtain ⟨h1, h2, h00, h01, h02, ⟨c, el, h3, h4, h6⟩, h7⟩ := h
    have hl := hf.1
    exact ⟨h1, h2, by omega, h01, h02, ⟨c, el, h3, h4, fun i q1 q2 => ⟨(h6 i (by omega) q2).1.fl hn (hf.2 i q1 (by omega)), (h6 i (by omega) q2).2⟩⟩, h7⟩
  · obtain ⟨rfl, rfl⟩ := hf; exact h
  · obtain ⟨rfl, rfl⟩ := hf
    cases e <;> simp only [ObjSat] at h ⊢
    exact ⟨h, trivial⟩
  · obtain ⟨hd, rfl⟩ := hf
    cases e <;> simp only [ObjSat] at h ⊢
    obtain ⟨h1, es, clock, h2, h3, h4, h5, h6, h7⟩ := h
    exact ⟨h1, es, clock, h2, h3, h4, h5, h6, fun hd' => h7 (hd hd')⟩
  · subst hf; exact h
  · obtain ⟨rfl, rfl, rfl⟩ := hf; exact h
  · subst hf; exact h
theorem view_fl {σ0 σ : Sig} (h : SubX [] σ0 σ) : View (FL σ) σ0 σ := fun S K w _ hs =>
  ⟨K, Gh.leS.refl K, { hs with
    live := fun o x e => by
      obtain ⟨y, e1, hf⟩ := h o (by simp) x e
      obtain ⟨e2, h2, h3⟩ := hs.live o y e1
      exact ⟨e2, h2, h3.fl hs.nils hf⟩
    apart := fun o o' x x' e e' h1 h2 hne q1 q2 => by
      obtain ⟨y, e1, _⟩ := h o (by simp) x h1
      obtain ⟨y', e1', _⟩ := h o' (by simp) x' h2
      exact hs.apart o o' y y' e e' e1 e1' hne q1 q2 }, fun _ _ _ hf hr => hr.fl hs.nils hf⟩
def WkF (σ : Sig) : Env → Env → Prop
  | [], _ => True
  | (i, some v0) :: e, env => (∃ v, lk env i = some v ∧ FL σ v0 v) ∧ WkF σ e env
  | (i, none) :: e, env => WkF σ e env
theorem WkF.get {σ : Sig} : ∀ {e env : Env}, WkF σ e env → ∀ i v0, lk e i = some v0 → ∃ v, lk env i = some v ∧ FL σ v0 v
  | [], _, _, i, v0, hv => by simp [lk] at hv
  | (j, u) :: e, env, h, i, v0, hv => by
    simp only [lk] at hv
    by_cases hi : i = j
    · subst hi; simp at hv; subst hv; exact h.1
    · simp only [hi, if_false] at hv
      cases u with
      | none => exact WkF.get (e := e) h i v0 hv
      | some u => exact WkF.get (e := e) h.2 i v0 hv
theorem vw_of {env0 env : Env} {σ0 σ : Sig} (h : WkF σ env0 env) (hs : SubX [] σ0 σ) : Vw env0 σ0 env σ := ⟨FL σ, view_fl hs, h.get⟩
theorem vr_of {v0 v : AV} {σ0 σ : Sig} (h : FL σ v0 v) (hs : SubX [] σ0 σ) : Vr v0 σ0 v σ := ⟨FL σ, view_fl hs, h⟩
theorem Vw.refl (env : Env) (σ : Sig) : Vw env σ env σ := ⟨FL σ, view_fl fun o _ x e => ⟨x, e, .refl _ x⟩, fun i v e => ⟨v, e, .refl v⟩⟩
theorem Vr.refl (v : AV) (σ : Sig) : Vr v σ v σ := ⟨FL σ, view_fl fun o _ x e => ⟨x, e, .refl _ x⟩, .refl v⟩

/-! ### For simp -/
theorem FL.states {σ σ' : Sig} (h : ∀ o sz, σ o = some (.virt sz) → σ' o = some (.virt sz)) {a b : AV} (hf : FL σ a b) : FL σ' a b := by
  induction hf with
  | refl a => exact .refl a
  | base a b hb => obtain ⟨o, sz, h1, h2, h3⟩ := hb; exact .base _ _ ⟨o, sz, h1, h2, h o sz h3⟩
  | slice l0 l t0 t ht hl _ ih => exact .slice l0 l t0 t ht hl ih
  | agg l0 l hl _ ih => exact .agg l0 l hl ih
  | tup l0 l hl _ ih => exact .tup l0 l hl ih
section
variable (ρ : Sig)
theorem subx_refl (ex : List Nat) (σ : Sig) : SubXr ρ ex σ σ = True := by
  simp only [eq_iff_iff, iff_true]; exact fun o _ x e => ⟨x, e, .refl _ x⟩
theorem subx_l (ex : List Nat) (σ0 σ : Sig) (o : Nat) (x : AObj) : SubXr ρ ex (upd σ0 o x) σ = ((o ∈ ex ∨ ∃ y, σ o = some y ∧ FLO ρ x y) ∧ SubXr ρ (o :: ex) σ0 σ) := by
  simp only [eq_iff_iff]
  constructor
  · intro h
    refine ⟨?_, fun o' hn x' e => h o' (by simp_all) x' (by simp at hn; simp [upd, hn, e])⟩
    by_cases ho : o ∈ ex
    · exact .inl ho
    · exact .inr (h o ho x (by simp [upd]))
  · rintro ⟨h1, h2⟩ o' hn x' e
    by_cases ho : o' = o
    · subst ho
      simp [upd] at e; subst e
      exact h1.resolve_left hn
    · exact h2 o' (by simp [ho, hn]) x' (by simpa [upd, ho] using e)
theorem subx_r (ex : List Nat) (σ0 σ : Sig) (o : Nat) (x : AObj) (h : o ∈ ex) : SubXr ρ ex σ0 (upd σ o x) = SubXr ρ ex σ0 σ := by
  have key : ∀ o', o' ∉ ex → o' ≠ o := fun o' hn e => hn (e ▸ h)
  simp only [eq_iff_iff]
  constructor
  · intro hs o' hn x' e
    obtain ⟨y, e1, hf⟩ := hs o' hn x' e
    exact ⟨y, by simpa [upd, key o' hn] using e1, hf⟩
  · intro hs o' hn x' e
    obtain ⟨y, e1, hf⟩ := hs o' hn x' e
    exact ⟨y, by simpa [upd, key o' hn] using e1, hf⟩
theorem subx_new (ex : List Nat) (σ0 σ : Sig) (o : Nat) (x : AObj) (h : σ0 o = none) : SubXr ρ ex σ0 (upd σ o x) = SubXr ρ ex σ0 σ := by
  have key : ∀ o' x', σ0 o' = some x' → o' ≠ o := fun o' x' e e' => by subst e'; simp [h] at e
  simp only [eq_iff_iff]
  constructor
  · intro hs o' hn x' e
    obtain ⟨y, e1, hf⟩ := hs o' hn x' e
    exact ⟨y, by simpa [upd, key o' x' e] using e1, hf⟩
  · intro hs o' hn x' e
    obtain ⟨y, e1, hf⟩ := hs o' hn x' e
    exact ⟨y, by simpa [upd, key o' x' e] using e1, hf⟩
end
def isVirt : Option AObj → Bool
  | some (.virt _) => true
  | _ => false
theorem isVirt_v (sz : Nat) : isVirt (some (.virt sz)) = true := rfl
section
variable (σ : Sig)
theorem fl_refl (a : AV) : FL σ a a = True := by simp only [eq_iff_iff, iff_true]; exact .refl a
theorem fls_refl (a : List AV) : FLs σ a a = True := by simp only [eq_iff_iff, iff_true]; exact .refl _ a
theorem fl_nm (o : Nat) (h : isVirt (σ o) = true) : FL σ (.slice [] (.own o)) (.slice [] .nil) = True := by
  simp only [eq_iff_iff, iff_true]
  unfold isVirt at h
  split at h
  · rename_i sz hs; exact .base _ _ ⟨o, sz, rfl, rfl, hs⟩
  · simp at h
theorem fl_slice (l : List AV) (t : Tok) : FL σ (.slice l .no) (.slice l t) = True := by simp only [eq_iff_iff, iff_true]; exact .slice l l _ t (.inl rfl) rfl fun i _ _ => .refl _
theorem fl_sliceL (l0 l : List AV) (t : Tok) : FL σ (.slice l0 .no) (.slice l t) = FLs σ l0 l := by
  simp only [eq_iff_iff]
  constructor
  · intro h
    cases h with
    | refl => exact .refl _ _
    | base _ _ h => obtain ⟨o, sz, h1, _⟩ := h; simp at h1
    | slice _ _ _ _ _ hl h => exact ⟨hl, h⟩
  · exact fun h => .slice _ _ _ _ (.inl rfl) h.1 h.2
theorem fl_agg (l0 l : List AV) : FL σ (.agg l0) (.agg l) = FLs σ l0 l := by
  simp only [eq_iff_iff]
  constructor
  · intro h
    cases h with
    | refl => exact .refl _ _
    | base _ _ h => obtain ⟨o, sz, h1, _⟩ := h; simp at h1
    | agg _ _ hl h => exact ⟨hl, h⟩
  · exact fun h => .agg _ _ h.1 h.2
theorem fl_tup (l0 l : List AV) : FL σ (.tup l0) (.tup l) = FLs σ l0 l := by
  simp only [eq_iff_iff]
  constructor
  · intro h
    cases h with
    | refl => exact .refl _ _
    | base _ _ h => obtain ⟨o, sz, h1, _⟩ := h; simp at h1
    | tup _ _ hl h => exact ⟨hl, h⟩
  · exact fun h => .tup _ _ h.1 h.2
theorem fls_cons (a b : AV) (l m : List AV) : FLs σ (a :: l) (b :: m) = (FL σ a b ∧ FLs σ l m) := by
  simp only [eq_iff_iff]
  constructor
  · intro h
    obtain ⟨b', r, e, h1, h2⟩ := h.cons_inv
    simp at e
    obtain ⟨rfl, rfl⟩ := e
    exact ⟨h1, h2⟩
  · exact fun h => .cons h.1 h.2
theorem fl_int (k : IntKind) (a b : Int) : FL σ (.int k a) (.int k b) = (a = b) := by
  simp only [eq_iff_iff]
  constructor
  · intro h
    cases h with
    | refl => rfl
    | base _ _ h => obtain ⟨o, sz, h1, _⟩ := h; simp at h1
  · rintro rfl; exact .refl _
theorem fl_bool (a b : Bool) : FL σ (.bool a) (.bool b) = (a = b) := by
  simp only [eq_iff_iff]
  constructor
  · intro h
    cases h with
    | refl => rfl
    | base _ _ h => obtain ⟨o, sz, h1, _⟩ := h; simp at h1
  · rintro rfl; exact .refl _
theorem flo_cells (l0 l : List AV) : FLO σ (.cells l0) (.cells l) = FLs σ l0 l := rfl
theorem flo_vec (s n : Nat) (l0 l : List AV) : FLO σ (.vec s n l0) (.vec s n l) = FLs σ l0 l := by simp [LiftO]
theorem flo_refl (x : AObj) : FLO σ x x = True := by simp only [eq_iff_iff, iff_true]; exact .refl _ x
theorem flo_virt (s : Nat) : FLO σ (.grow s 0) (.virt s) = True := by simp [LiftO]
theorem wkf_nil (env : Env) : WkF σ [] env = True := rfl
theorem wkf_cons (i v0) (e env : Env) : WkF σ ((i, some v0) :: e) env = ((∃ v, lk env i = some v ∧ FL σ v0 v) ∧ WkF σ e env) := rfl
end
theorem ex_some (v : AV) (p : AV → Prop) : (∃ u, some v = some u ∧ p u) = p v := by simp
theorem ex_someO (v : AObj) (p : AObj → Prop) : (∃ u, some v = some u ∧ p u) = p v := by simp
end Abs

