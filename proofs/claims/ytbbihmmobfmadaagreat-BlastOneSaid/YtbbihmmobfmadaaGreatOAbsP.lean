/- The abstraction layer, part P: maps. Over any program. -/
import Derived.Laws.StructEq
import Derived.ChangeKeysEq
import Derived.Laws.Strings
import Derived.MapKept
import Derived.WideKeyRuns
import Derived.Test.YtbbihmmobfmadaaGreatOAbsG
set_option linter.unusedSimpArgs false
set_option linter.unusedVariables false
namespace Abs
open Go
section ops
variable {P : Program} {o : Oper} {N : Nat} {env : Env} {σ : Sig} {nm : Nat} {R : AV → Option (Nat × AObj) → Prop}
theorem fill_seq (a : Act) (sz : Nat) : ∀ (parts : List (Nat × Operand)) (k : Nat) (pre : List Value) (cells : Array Value), (∀ j p, parts[j]? = some p → p.1 = k + j) →
    (∀ p ∈ parts, (a.eval p.2).cells.size = sz) → pre.length = k * sz → cells.toList.take (k * sz) = pre → cells.size = k * sz + parts.length * sz →
    ∃ cells', Instr.fill (fun i => some (i * sz, sz)) cells (parts.map fun (i, x) => (i, a.eval x)) = some cells' ∧ cells'.toList = pre ++ parts.flatMap fun p => (a.eval p.2).cells.toList
  | [], k, pre, cells, _, _, hpre, htake, hs => by
    refine ⟨cells, rfl, ?_⟩
    rw [List.take_of_length_le (by simp at hs ⊢; omega)] at htake
    simp [htake]
  | (i, x) :: parts, k, pre, cells, hidx, hsz, hpre, htake, hs => by
    have hi : i = k := by simpa using hidx 0 (i, x) rfl
    subst hi
    have hx : (a.eval x).cells.size = sz := hsz (i, x) (by simp)
    have hsum : cells.size = i * sz + (parts.length * sz + sz) := by rw [hs]; simp [Nat.succ_mul]
    have hput := fold_put' (a.eval x) (i * sz) cells (by omega)
    have hlen := congrArg List.length hput
    simp [hx] at hlen
    obtain ⟨cells', e1, e2⟩ := fill_seq a sz parts (i + 1) (pre ++ (a.eval x).cells.toList) _ (fun j p hj => by have := hidx (j + 1) p (by simpa using hj); omega)
      (fun p hp => hsz p (by simp [hp])) (by simp [hpre, hx, Nat.succ_mul]) (by
        rw [hput, htake, Nat.succ_mul, List.take_append_of_le_length (by simp [hpre, hx]), List.take_of_length_le (by simp [hpre, hx])]) (by
        rw [← Array.length_toList, hput]
        simp [hx, Nat.succ_mul]; omega)
    refine ⟨cells', ?_, ?_⟩
    · simp only [List.map_cons, Instr.fill]
      rw [if_neg (by simp [hx]; omega)]
      exact e1
    · rw [e2]; simp
theorem trParts_spec : ∀ {ps : List (Nat × Operand)} {k : Nat} {axs}, trParts k ps = some axs → trOpnds (ps.map (·.2)) = some axs ∧ ∀ (j : Nat) (p : Nat × Operand), ps[j]? = some p → p.1 = k + j
  | [], k, axs, h => by simp [trParts] at h; subst h; simp [trOpnds]
  | (i, x) :: r, k, axs, h => by
    simp only [trParts] at h
    split at h <;> try (simp at h; done)
    rename_i hik
    subst hik
    split at h <;> simp at h
    rename_i a l h1 h2
    subst h
    obtain ⟨k1, k2⟩ := trParts_spec h2
    refine ⟨by simp [trOpnds, h1, k1], fun j p hj => ?_⟩
    cases j with
    | zero => simp at hj; subst hj; rfl
    | succ j => have := k2 j p (by simpa using hj); omega
theorem flat_rel {K : Gh} : ∀ {l : List AV} {vs : List Value}, RelL K l vs → RelL K (flat l) (vs.flatMap fun v => v.cells.toList)
  | [], vs, h => by
    obtain rfl : vs = [] := by simpa using h.1.symm
    exact .nil
  | x :: l, vs, h => by
    obtain ⟨v, r, rfl, h1, h2⟩ := h.cons_inv
    rw [flat_cons, List.flatMap_cons]
    exact h1.cells.append (flat_rel h2)
theorem ok_bslice {t len ps e sz axs} (ho : o.op = .buildSlice t len ps) (hu : P.underlying t = some (.slice e)) (hsz : szOf P e = some sz) (hlen : len = ps.size) (hmax : len * sz ≤ 65536) {z} (hz : zeroOf P e = some z)
    (hps : trParts 0 ps.toList = some axs) (h : exOpN nm env σ R (.bslice sz axs)) : OpOk P o N env σ nm R := by
  intro S K a w hf hs _ _
  obtain ⟨l, h1, h0, h2⟩ := wthL_some h
  obtain ⟨k1, k2⟩ := trParts_spec hps
  have hr := trOpnds_rel hf k1 h1
  rw [List.map_map] at hr
  have hall : ∀ x ∈ l, (cellsA x).length = sz := fun x hx => by
    have := List.all_eq_true.1 h0 x hx
    simp at this; exact this.1
  have hone : (flat l).all oneA = true := by
    rw [List.all_eq_true]
    intro y hy
    rw [flat, List.mem_flatMap] at hy
    obtain ⟨x, hx, hy⟩ := hy
    have := List.all_eq_true.1 h0 x hx
    simp at this; exact this.2 y hy
  have hl : l.length = ps.size := by simpa using hr.1
  obtain ⟨zv, z1, z2, _⟩ := run_zeroValue' (K := K) hz w
  have hcs : ∀ p ∈ ps.toList, (a.eval p.2).cells.size = sz := fun p hp => by
    obtain ⟨i, hi, rfl⟩ := List.getElem_of_mem hp
    have hi' : i < l.length := by rw [hl]; simpa using hi
    have := (hr.2 i hi' (by simpa using hi)).cells.1
    simp at this
    have h3 := hall _ (List.getElem_mem hi')
    simp; omega
  have fin : ∀ zs : Array Value, ∃ cells', Instr.fill (fun i => some (i * sz, sz)) ((Array.range (len * sz)).map (zs[· % zs.size]!)) (ps.map fun (i, x) => (i, a.eval x)).toList = some cells' ∧ cells'.toList = ps.toList.flatMap fun p => (a.eval p.2).cells.toList := by
    intro zs
    obtain ⟨cells', e1, e2⟩ := fill_seq a sz ps.toList 0 [] ((Array.range (len * sz)).map (zs[· % zs.size]!)) k2 hcs (by simp) (by simp) (by simp [hlen])
    refine ⟨cells', ?_, by simpa using e2⟩
    have e3 : (ps.map fun (i, x) => (i, a.eval x)).toList = ps.toList.map fun (i, x) => (i, a.eval x) := by simp
    rw [e3]; exact e1
  have hrun : ∃ cells' : Array Value, (execOp a.eval o).run P w = .ok (.value (.slice (some ⟨w.heap.size, 0, none⟩) len len)) { w with heap := w.heap.push (.cells cells' e) } ∧ cells'.toList = ps.toList.flatMap fun p => (a.eval p.2).cells.toList := by
    by_cases h0 : len * sz = 0
    · obtain ⟨cells', e1, e2⟩ := fin #[]
      refine ⟨cells', ?_, e2⟩
      simp only [execOp, ho, Instr.buildSlice, Sem.run_bind, run_underlying' hu, Result.andThen_ok, run_sizeOf' hsz]
      rw [if_neg (by omega), if_pos h0]
      simp only [Sem.run_bind, Sem.run_pure, Result.andThen_ok]
      rw [e1]
      simp [Go.newRow]
    · obtain ⟨cells', e1, e2⟩ := fin zv.cells
      refine ⟨cells', ?_, e2⟩
      simp only [execOp, ho, Instr.buildSlice, Sem.run_bind, run_underlying' hu, Result.andThen_ok, run_sizeOf' hsz]
      rw [if_neg (by omega), if_neg h0]
      simp only [Sem.run_bind, Sem.run_pure, Result.andThen_ok, z1]
      rw [e1]
      simp [Go.newRow]
  obtain ⟨cells', hrun, e2⟩ := hrun
  have hfr : RelL K (flat l) cells'.toList := by
    have := flat_rel hr
    rw [e2]
    rw [List.flatMap_map] at this
    exact this
  have hcl : (flat l).length = cells'.size := by simpa using hfr.1
  obtain ⟨K', q1, q2, _, q5, q4⟩ := hs.newRow cells' e cells'.size (Nat.le_refl _) (fun i hi => by
    have := hfr.ones hone i (by simpa using hi)
    simpa using this)
  refine ⟨K', _, none, _, _, .inl hrun, Gh.leS_own q1 q5, ?_, q4, h2⟩
  rw [hlen, ← hl]
  refine .slice l .full _ 0 l.length sz (fun i => (cells'[i]?).getD undef) hall (fun i hi => ?_) (fun i hi => ?_) rfl (Nat.le_refl _)
  · rw [Nat.zero_add, q2 i (by omega), Array.getElem?_eq_getElem (by omega)]; rfl
  · have := hfr.2 i hi (by simp; omega)
    rw [Array.getElem?_eq_getElem (by omega)]
    simpa using this.mono q1

/-! ### Append -/
theorem src_reads {K : Gh} {w} (hs : Sat K σ w) {m t v} (hr : Rel K (.slice m t) v) {sz} (hsz : ∀ x ∈ m, (cellsA x).length = sz) :
    ∃ a cap, v = .slice a m.length cap ∧ (m.length = 0 ∨ ∃ b off, a = some ⟨b, off, none⟩ ∧ ∃ news : List Value, news.length = m.length * sz ∧ RelL K (flat m) news ∧ (∀ u ∈ news, u.oneCell' = true) ∧
      ∀ j u, news[j]? = some u → w.cell? ((⟨b, off, none⟩ : Addr).add j) = some u) := by
  rcases rel_slice hr with ⟨a', cap', he, rfl, _⟩ | ⟨b, off, cap', sz', u, he, q1, q2, q3, q4, q5⟩
  · exact ⟨a', cap', he, .inl rfl⟩
  · refine ⟨_, cap', he, ?_⟩
    by_cases h0 : m.length = 0
    · exact .inl h0
    · right
      refine ⟨b, off, rfl, (List.range (flat m).length).map u, by simp [flat_length hsz], ⟨by simp, fun i h1 h2 => by simpa using q3 i h1⟩, fun v hv => ?_, fun j v hj => ?_⟩
      · simp only [List.mem_map, List.mem_range] at hv
        obtain ⟨i, hi, rfl⟩ := hv
        exact hs.one _ _ _ (q2 i hi)
      · simp only [List.getElem?_map, Option.map_eq_some_iff] at hj
        obtain ⟨i, hi, rfl⟩ := hj
        have hj' : j < (flat m).length := by
          rcases Nat.lt_or_ge j (flat m).length with h' | h'
          · exact h'
          · rw [List.getElem?_eq_none (by simpa using h')] at hi; simp at hi
        rw [List.getElem?_eq_getElem (by simpa using hj')] at hi
        simp at hi; subst hi
        rw [add_none]; exact hs.claim _ _ _ (q2 j hj')
theorem Sat.grownRow {K : Gh} {w} (hs : Sat K σ w) (cells : Array Value) (el : TypeId) {l : List AV} {sz cap : Nat} (hcap : cells.size = cap * sz) (hn : l.length ≤ cap) (hall : ∀ x ∈ l, (cellsA x).length = sz)
    (hrel : ∀ i, (h : i < (flat l).length) → (h' : i < cells.size) → Rel K (flat l)[i] cells[i]) (hone : ∀ i, i < (flat l).length → (h' : i < cells.size) → cells[i].oneCell' = true) :
    ∃ K', K.le K' ∧ K'.own = K.own ∧ (∀ i, i < (flat l).length → K'.claim w.heap.size i = cells[i]?) ∧ (∀ i, l.length * sz ≤ i → K'.claim w.heap.size i = none) ∧ Sat K' σ (w.drew.alloc (.cells cells el)) ∧
      K.base.heap.size ≤ w.heap.size ∧ (w.drew.alloc (.cells cells el)).heap[w.heap.size]? = some (.cells cells el (0, 0)) ∧ K'.base = K.base := by
  have hfl := flat_length hall
  have hle : l.length * sz ≤ cells.size := by rw [hcap]; exact Nat.mul_le_mul_right sz hn
  have hs' : Sat K σ w.drew := hs.same rfl rfl rfl rfl
  obtain ⟨K', h1, h2, h3, h4, h5⟩ := hs'.newRow cells el (l.length * sz) hle (fun i hi => hone i (by omega) (by omega))
  exact ⟨K', h1, h4, fun i hi => h2 i (by omega), h3, h5, hs.size, heap_alloc_new w.drew _, h1.base⟩
theorem rel_newest {K' : Gh} {l : List AV} {sz cap b : Nat} {cells : Array Value} (hn : l.length ≤ cap) (hall : ∀ x ∈ l, (cellsA x).length = sz)
    (hc : ∀ i, i < (flat l).length → K'.claim b i = cells[i]?) (hrel : ∀ i, (h : i < (flat l).length) → (h' : i < cells.size) → Rel K' (flat l)[i] cells[i]) (hsz : (flat l).length ≤ cells.size)
    {o : Nat} (ho : K'.own o = some (.buf b cap sz l.length)) : Rel K' (.slice l (.own o)) (.slice (some ⟨b, 0, none⟩) l.length cap) := by
  refine .slice l (.own o) b 0 cap sz (fun i => (cells[i]?).getD undef) hall (fun i hi => ?_) (fun i hi => ?_) (.inl ⟨b, cap, l.length, ho, Nat.le_refl _, fun _ => ⟨rfl, rfl, rfl⟩⟩) hn
  · rw [Nat.zero_add, hc i hi, Array.getElem?_eq_getElem (by omega)]; rfl
  · have := hrel i hi (by omega)
    rw [Array.getElem?_eq_getElem (by omega)]
    exact this
theorem Sat.grownNew {K : Gh} {w} (hs : Sat K σ w) (cells : Array Value) (el : TypeId) {l : List AV} {sz cap : Nat} (hcap : cells.size = cap * sz) (hn : l.length ≤ cap) (hall : ∀ x ∈ l, (cellsA x).length = sz)
    (hrel : ∀ i, (h : i < (flat l).length) → (h' : i < cells.size) → Rel K (flat l)[i] cells[i]) (hone : ∀ i, i < (flat l).length → (h' : i < cells.size) → cells[i].oneCell' = true)
    {o : Nat} (ho : K.own o = none) {S : Nat → Prop} (hS : ¬ S o) : ∃ K', K.leS S K' ∧ Rel K' (.slice l (.own o)) (.slice (some ⟨w.heap.size, 0, none⟩) l.length cap) ∧ Sat K' (upd σ o (.grow sz l.length)) (w.drew.alloc (.cells cells el)) := by
  obtain ⟨K1, h1, h2, h3, h4, h5, h6, h7, h8⟩ := hs.grownRow cells el hcap hn hall hrel hone
  have hfl := flat_length hall
  have hle : l.length * sz ≤ cells.size := by rw [hcap]; exact Nat.mul_le_mul_right sz hn
  obtain ⟨k1, k2⟩ := h5.name (o := o) (by rw [h2]; exact ho) (.buf w.heap.size cap sz l.length) (.grow sz l.length) ⟨rfl, rfl, hn, by rw [h8]; exact h6, ⟨cells, el, h7, hcap⟩, h4⟩ (fun o' x' e' q1 q2 hr _ => by
    rw [h2] at q2
    obtain ⟨e'', q3, q4⟩ := hs.live o' x' q1
    have : e'' = e' := by simp_all
    subst this
    exact Nat.ne_of_lt (q4.blk_lt hr))
  refine ⟨_, ⟨h1.trans k1, fun o' hs' hn => ?_⟩, ?_, k2⟩
  · have : o' ≠ o := fun e => hS (e ▸ hs')
    simp [Gh.named, this, h2, hn]
  exact rel_newest (K' := K1.named o (.buf w.heap.size cap sz l.length)) hn hall h3 (fun i a b => (hrel i a b).mono (h1.trans k1)) (by omega) (by simp [Gh.named])
theorem Sat.grownOld {K : Gh} {w} (hs : Sat K σ w) (cells : Array Value) (el : TypeId) {l : List AV} {sz cap : Nat} (hcap : cells.size = cap * sz) (hn : l.length ≤ cap) (hall : ∀ x ∈ l, (cellsA x).length = sz)
    (hrel : ∀ i, (h : i < (flat l).length) → (h' : i < cells.size) → Rel K (flat l)[i] cells[i]) (hone : ∀ i, i < (flat l).length → (h' : i < cells.size) → cells[i].oneCell' = true)
    {o n0 : Nat} (ho : σ o = some (.grow sz n0)) (hlt : n0 < l.length) (S : Nat → Prop) :
    ∃ K', K.leS S K' ∧ Rel K' (.slice l (.own o)) (.slice (some ⟨w.heap.size, 0, none⟩) l.length cap) ∧ Sat K' (upd σ o (.grow sz l.length)) (w.drew.alloc (.cells cells el)) := by
  obtain ⟨K1, h1, h2, h3, h4, h5, h6, h7, h8⟩ := hs.grownRow cells el hcap hn hall hrel hone
  have hfl := flat_length hall
  have hle : l.length * sz ≤ cells.size := by rw [hcap]; exact Nat.mul_le_mul_right sz hn
  obtain ⟨e0, q1, q2⟩ := h5.live o _ ho
  have hle0 : e0.le (.buf w.heap.size cap sz l.length) := by
    cases e0 <;> simp only [ObjSat] at q2
    · obtain ⟨rfl, rfl, q3⟩ := q2
      exact ⟨rfl, by omega, fun e => by omega⟩
    · obtain ⟨rfl, rfl⟩ := q2
      exact ⟨rfl, hlt⟩
    · obtain ⟨rfl, rfl⟩ := q2
      exact ⟨rfl, hlt⟩
  let K2 : Gh := { K1 with own := fun i => if i = o then some (.buf w.heap.size cap sz l.length) else K1.own i }
  have hle2 : K1.le K2 := Gh.le_renamed (e' := .buf w.heap.size cap sz l.length) rfl (fun _ _ _ e => e) q1 (by simp [K2]) hle0 (fun o' h => by simp [K2, h])
  have hs2 : Sat K2 (upd σ o (.grow sz l.length)) (w.drew.alloc (.cells cells el)) := by
    refine h5.move (e' := .buf w.heap.size cap sz l.length) hle2 rfl ho q1 (fun o' h => by simp [K2, h]) (by simp [K2]) ⟨rfl, rfl, hn, by show K1.base.heap.size ≤ _; rw [h8]; exact h6, ⟨cells, el, h7, hcap⟩, h4⟩ (fun o' y e'' r1 r2 hr _ => ?_)
    rw [h2] at r2
    obtain ⟨e3, r3, r4⟩ := hs.live o' y r1
    have : e3 = e'' := by simp_all
    subst this
    exact Nat.ne_of_lt (r4.blk_lt hr)
  refine ⟨K2, ⟨h1.trans hle2, fun o' _ hn => ?_⟩, rel_newest (K' := K2) hn hall h3 (fun i a b => (hrel i a b).mono (h1.trans hle2)) (by omega) (by simp [K2]), hs2⟩
  have : o' ≠ o := fun e => by subst e; rw [← h2, q1] at hn; simp at hn
  simp [K2, this, h2, hn]
theorem append_zero (t ty : TypeId) {e i} (ht : P.underlying t = some (.slice e)) (hi : P.info? e = some i) (a0 : Option Addr) (sl sc : Nat) (hsc : sl ≤ sc) (a1 : Option Addr) (c1 : Nat) (w : World) :
    (Builtin.append_ #[t, t] ty #[.slice a0 sl sc, .slice a1 0 c1]).run P w = .ok (.slice a0 sl sc) w := by
  have hf : (Builtin.firstCells i.size 0 (.slice a1 0 c1)).run P w = .ok #[] w := by
    cases a1 with
    | none => rfl
    | some b => simp only [Builtin.firstCells, Nat.zero_mul]; rfl
  cases a0 with
  | none => simp [Builtin.append_, run_underlying' ht, Go.sizeOf, typeInfo, hi, Builtin.lenOf, hsc, hf]
  | some a => simp [Builtin.append_, run_underlying' ht, Go.sizeOf, typeInfo, hi, Builtin.lenOf, hsc, hf, storeCells]
theorem grownCap_ge (w : World) (need old : Nat) (e : TypeId) : need ≤ grownCap w need old e := by simp [grownCap, Question.cut]
theorem zerosOf {K : Gh} {e z n} (hz : zeroOf P e = some z) (hzl : z.length = n) : ∃ i zv, P.info? e = some i ∧ i.zero = some zv ∧ zv.cells.size = n := by
  unfold zeroOf at hz
  split at hz
  · rename_i v hv
    cases hi : P.info? e with
    | none => simp [hi] at hv
    | some i =>
      simp [hi] at hv
      have := (ofFlats_rel (K := K) hz).1
      exact ⟨i, v, rfl, hv, by simp at this; omega⟩
  · simp at hz
theorem grown_cells {K : Gh} {l m : List AV} {olds news : List Value} (Z : Array Value) (hl : RelL K (flat l) olds) (hm : RelL K (flat m) news) (h1 : ∀ u ∈ olds, u.oneCell' = true) (h2 : ∀ u ∈ news, u.oneCell' = true) :
    (∀ i, (h : i < (flat (l ++ m)).length) → (h' : i < (olds.toArray ++ news.toArray ++ Z).size) → Rel K (flat (l ++ m))[i] (olds.toArray ++ news.toArray ++ Z)[i]) ∧
    ∀ i, i < (flat (l ++ m)).length → (h' : i < (olds.toArray ++ news.toArray ++ Z).size) → (olds.toArray ++ news.toArray ++ Z)[i].oneCell' = true := by
  have hr := hl.append hm
  have e : ∀ i, i < (flat (l ++ m)).length → (h' : i < (olds.toArray ++ news.toArray ++ Z).size) → ∃ h2 : i < (olds ++ news).length, (olds.toArray ++ news.toArray ++ Z)[i] = (olds ++ news)[i] := by
    intro i hi h'
    have hi2 : i < (olds ++ news).length := by rw [← hr.1, ← flat_append]; exact hi
    refine ⟨hi2, ?_⟩
    rw [Array.getElem_append_left (by simpa using hi2)]
    simp
  refine ⟨fun i hi h' => ?_, fun i hi h' => ?_⟩
  · obtain ⟨h2, e2⟩ := e i hi h'
    rw [e2]
    have := hr.2 i (by rw [← flat_append]; exact hi) h2
    simpa [flat_append] using this
  · obtain ⟨h3, e2⟩ := e i hi h'
    rw [e2]
    have := List.getElem_mem h3
    rcases List.mem_append.1 this with h | h
    · exact h1 _ h
    · exact h2 _ h
theorem ok_append {t u s x e i z as_ ax} (ho : o.op = .call { callee := .builtin .append, args := #[s, x], argTypes := #[t, u] }) (ht : P.underlying t = some (.slice e)) (htu : t = u) (hi : P.info? e = some i)
    (hz : zeroOf P e = some z) (hby0 : 0 < i.bytes) (hby : i.bytes ≤ 4096) (hzl : z.length = i.size) (hs1 : trOpnd s = some as_) (hx1 : trOpnd x = some ax) (h : exOpN nm env σ R (.append i.size i.bytes as_ ax)) : OpOk P o N env σ nm R := by
  subst htu
  intro S K a w hf hs hnm hS
  obtain ⟨sv, h1, h2⟩ := wth_some h
  obtain ⟨xv, h3, h4⟩ := wth_some h2
  have rs := trOpnd_rel hs1 h1 hf
  have rx := trOpnd_rel hx1 h3 hf
  cases sv <;> first | exact h4.elim | skip
  rename_i l tk
  cases xv <;> first | exact h4.elim | skip
  rename_i m tk2
  obtain ⟨⟨hl0, hm, hb⟩, h5⟩ := h4
  obtain ⟨i', zv, hi', hzv, hzs⟩ := zerosOf (K := K) hz hzl
  obtain rfl : i' = i := by simp_all
  obtain ⟨xa, xc, hxe, hxs⟩ := src_reads hs rx hm
  have exe : ∀ {v : Value} {w' : World}, (Builtin.append_ #[t, t] o.type #[a.eval s, a.eval x]).run P w = .ok v w' → (execOp a.eval o).run P w = .ok (.value v) w' := by
    intro v w' he
    simp only [execOp, ho, resolve, invoke, Go.builtin, Sem.run_bind, Sem.run_pure, Result.andThen_ok]
    have e2 : #[s, x].map a.eval = #[a.eval s, a.eval x] := by simp
    simp only [e2, he, Result.andThen_ok]
  have zero : ∀ {a0 : Option Addr} {sl sc : Nat}, a.eval s = .slice a0 sl sc → sl ≤ sc → m = [] → (execOp a.eval o).run P w = .ok (.value (a.eval s)) w := by
    intro a0 sl sc he hle hm0
    refine exe ?_
    rw [hxe, hm0, he]
    exact append_zero t o.type ht hi a0 sl sc hle xa xc w
  have scap : ∃ a0 cap, a.eval s = .slice a0 l.length cap ∧ l.length ≤ cap := by
    rcases rel_slice rs with ⟨a', cap', he, rfl, _⟩ | ⟨b, off, cap', sz', u, he, _, _, _, _, q5⟩
    · exact ⟨a', cap', he, Nat.zero_le _⟩
    · exact ⟨_, cap', he, q5⟩
  obtain ⟨a0, cap0, hse, hcap0⟩ := scap
  have hbm : (l.length + m.length) * i'.bytes ≤ 140737488355328 := by omega
  have hall : ∀ {sz : Nat}, sz = i'.size → (∀ x ∈ l, (cellsA x).length = sz) → ∀ x ∈ l ++ m, (cellsA x).length = sz := by
    intro sz hsz h1 x hx
    rcases List.mem_append.1 hx with h | h
    · exact h1 x h
    · rw [hsz]; exact hm x h
  have zsz : ∀ k, (Builtin.zeroCells zv.cells k).size = k * i'.size := fun k => by rw [size_zeroCells, hzs]
  cases tk with
  | no => exact h5.elim
  | nil =>
    obtain ⟨n1, n2⟩ := h5
    rcases rel_slice rs with ⟨a', cap', he, rfl, ht'⟩ | ⟨b, off, cap', sz', u, he, _, _, _, ht', _⟩
    case inr => exact ht'.elim
    by_cases hm0 : m = []
    · exact ⟨K, _, none, _, _, .inl (zero hse hcap0 hm0), Gh.leS.refl K, rs, hs, n1 hm0⟩
    simp at ht'
    obtain ⟨rfl, rfl⟩ := ht'
    have hml : 0 < m.length := List.length_pos_iff.2 hm0
    rcases hxs with hxs | ⟨b, off, rfl, news, m1, m2, m3, m4⟩
    · omega
    have hge := grownCap_ge w m.length 0 e
    have hrun := run_append_nil (P := P) w t o.type e i' zv ht hi hzv ⟨b, off, none⟩ m.length xc news m1 m4 hml (by
      have := Nat.mul_le_mul_left m.length hby0; simp at hbm; omega) (by simp at hbm; omega)
    obtain ⟨g1, g2⟩ := grown_cells (K := K) (l := []) (m := m) (olds := []) (news := news) (Builtin.zeroCells zv.cells (grownCap w m.length 0 e - m.length)) .nil m2 (by simp) m3
    simp only [List.nil_append] at g1 g2
    obtain ⟨K', k2, k3, k4⟩ := hs.grownNew (#[] ++ news.toArray ++ Builtin.zeroCells zv.cells (grownCap w m.length 0 e - m.length)) e (l := m) (sz := i'.size) (cap := grownCap w m.length 0 e)
      (by simp only [Array.size_append, zsz, List.size_toArray, m1]; simp [← Nat.add_mul]; congr 1; omega) hge hm g1 g2 hnm hS
    refine ⟨K', _, some (nm, _), _, _, .inl (exe ?_), k2, k3, k4, by simpa using n2 hm0⟩
    rw [he, hxe, hrun]
    simp
  | full =>
    obtain ⟨n1, n2⟩ := h5
    have p1 := hl0
    by_cases hm0 : m = []
    · exact ⟨K, _, none, _, _, .inl (zero hse hcap0 hm0), Gh.leS.refl K, rs, hs, n1 hm0⟩
    have hml : 0 < m.length := List.length_pos_iff.2 hm0
    rcases hxs with hxs | ⟨b, off, rfl, news, m1, m2, m3, m4⟩
    · omega
    have h63 : ((l.length + m.length : Nat) : Int) ≤ 9223372036854775807 := by
      have := Nat.mul_le_mul_left (l.length + m.length) hby0; simp at this; omega
    obtain ⟨os, olds, o1, o2, o3, o4⟩ : ∃ os : Option Addr, ∃ olds : List Value, a.eval s = .slice os l.length l.length ∧ RelL K (flat l) olds ∧ (∀ u ∈ olds, u.oneCell' = true) ∧
        (os = none → l = []) ∧ ∀ ba, os = some ba → ∀ j u, olds[j]? = some u → w.cell? (ba.add j) = some u := by
      rcases rel_slice rs with ⟨a', cap', he, rfl, ht'⟩ | ⟨b', off', cap', sz', u, he, q1, q2, q3, ht', q5⟩
      · simp at ht'; subst ht'
        exact ⟨a', [], he, .nil, by simp, fun _ => rfl, fun ba _ j u hj => by simp at hj⟩
      · have : cap' = l.length := ht'
        subst this
        refine ⟨_, (List.range (flat l).length).map u, he, ⟨by simp, fun i h1 h2 => by simpa using q3 i h1⟩, fun v hv => ?_, fun h => by simp at h, fun ba hba j v hj => ?_⟩
        · simp only [List.mem_map, List.mem_range] at hv
          obtain ⟨i, hi, rfl⟩ := hv
          exact hs.one _ _ _ (q2 i hi)
        · simp at hba; subst hba
          have hj' : j < (flat l).length := by
            rcases Nat.lt_or_ge j (flat l).length with h' | h'
            · exact h'
            · rw [List.getElem?_eq_none (by simpa using h')] at hj; simp at hj
          rw [List.getElem?_eq_getElem (by simpa using hj')] at hj
          simp at hj; subst hj
          rw [add_none]; exact hs.claim _ _ _ (q2 j hj')
    have hl' := hall rfl p1
    have hfl := flat_length p1
    have hge := grownCap_ge w (l.length + m.length) l.length e
    obtain ⟨g1, g2⟩ := grown_cells (K := K) (l := l) (m := m) (olds := olds) (news := news) (Builtin.zeroCells zv.cells (grownCap w (l.length + m.length) l.length e - (l.length + m.length))) o2 m2 o3 m3
    obtain ⟨K', k2, k3, k4⟩ := hs.grownNew _ e (l := l ++ m) (sz := i'.size) (cap := grownCap w (l.length + m.length) l.length e)
      (by
        have := o2.1
        simp only [Array.size_append, zsz, List.size_toArray, m1, ← this, hfl]; simp [← Nat.add_mul]; congr 1; omega) (by simpa using hge) hl' g1 g2 hnm hS
    refine ⟨K', _, some (nm, _), _, _, .inl (exe ?_), k2, k3, k4, n2 hm0⟩
    rw [o1, hxe]
    cases os with
    | none =>
      have : l = [] := o4.1 rfl
      subst this
      have : olds = [] := by have := o2.1; simp [flat] at this; exact List.eq_nil_of_length_eq_zero this.symm
      subst this
      have hrun := run_append_nil (P := P) w t o.type e i' zv ht hi hzv ⟨b, off, none⟩ m.length xc news m1 m4 hml (by simpa using h63) (by simp at hbm; omega)
      simpa using hrun
    | some ba =>
      have hrun := run_append_grow (P := P) w t o.type e i' zv ht hi hzv ba l.length l.length olds (by rw [← o2.1, hfl]) (o4.2 ba rfl) ⟨b, off, none⟩ m.length xc news m1 m4 (by omega) h63 (growslice_fits (by omega) hbm)
      simpa using hrun
  | own ob =>
    obtain ⟨p2, p3⟩ := h5
    have p1 := hl0
    obtain ⟨e0, q1, q2⟩ := hs.live ob _ p2
    cases e0 <;> simp only [ObjSat] at q2
    case virt szv =>
      -- no such buffer yet: the slice is nil
      obtain ⟨rfl, hl00⟩ := q2
      obtain rfl : l = [] := List.length_eq_zero_iff.1 hl00
      by_cases hm0 : m = []
      · refine ⟨K, .slice [] (.own ob), some (ob, .grow i'.size 0), _, _, .inl (zero hse hcap0 hm0), Gh.leS.refl K, rs, ?_, ?_⟩
        · have e1 : upd σ ob (.grow i'.size 0) = σ := by
            funext i
            simp only [upd]
            split
            · rename_i hi; subst hi; exact p2.symm
            · rfl
          show Sat K (upd σ ob (.grow i'.size 0)) w
          rw [e1]; exact hs
        · subst hm0; simpa using p3
      have hml : 0 < m.length := List.length_pos_iff.2 hm0
      have hnil : a.eval s = .slice none 0 0 := by
        rcases rel_slice rs with ⟨a', cap', he, _, ht'⟩ | ⟨b', off', cap', sz', u, he, k1, k2, k3, ht', k5⟩
        · simp at ht'
          obtain ⟨rfl, rfl, _⟩ := ht'
          exact he
        · rcases ht' with ⟨b2, cap2, n2, t1, t2, t3⟩ | ⟨n2, t1, t2, t3⟩ <;> (rw [q1] at t1; simp at t1)
      rcases hxs with hxs | ⟨b, off, rfl, news, m1, m2, m3, m4⟩
      · omega
      have hge := grownCap_ge w m.length 0 e
      have hrun := run_append_nil (P := P) w t o.type e i' zv ht hi hzv ⟨b, off, none⟩ m.length xc news m1 m4 hml (by
        have := Nat.mul_le_mul_left m.length hby0; simp at hbm; omega) (by simp at hbm; omega)
      obtain ⟨g1, g2⟩ := grown_cells (K := K) (l := []) (m := m) (olds := []) (news := news) (Builtin.zeroCells zv.cells (grownCap w m.length 0 e - m.length)) .nil m2 (by simp) m3
      simp only [List.nil_append] at g1 g2
      obtain ⟨K', k2, k3, k4⟩ := hs.grownOld (#[] ++ news.toArray ++ Builtin.zeroCells zv.cells (grownCap w m.length 0 e - m.length)) e (l := m) (sz := i'.size) (cap := grownCap w m.length 0 e)
        (by simp only [Array.size_append, zsz, List.size_toArray, m1]; simp [← Nat.add_mul]; congr 1; omega) hge hm g1 g2 p2 (by simpa using hml) S
      refine ⟨K', _, some (ob, _), _, _, .inl (exe ?_), k2, k3, k4, by simpa using p3⟩
      rw [hnil, hxe, hrun]
      simp
    case full szv nv =>
      -- a full slice: it moves when it grows
      obtain ⟨rfl, rfl⟩ := q2
      by_cases hm0 : m = []
      · refine ⟨K, .slice l (.own ob), some (ob, .grow i'.size l.length), _, _, .inl (zero hse hcap0 hm0), Gh.leS.refl K, rs, ?_, ?_⟩
        · have e1 : upd σ ob (.grow i'.size l.length) = σ := by
            funext j; simp only [upd]; split
            · rename_i hj; rw [hj, p2]
            · rfl
          show Sat K (upd σ ob (.grow i'.size l.length)) w
          rw [e1]; exact hs
        · subst hm0; simpa only [List.append_nil] using p3
      have hml : 0 < m.length := List.length_pos_iff.2 hm0
      rcases hxs with hxs | ⟨b, off, rfl, news, m1, m2, m3, m4⟩
      · omega
      have h63 : ((l.length + m.length : Nat) : Int) ≤ 9223372036854775807 := by
        have := Nat.mul_le_mul_left (l.length + m.length) hby0; simp at this; omega
      obtain ⟨ba, olds, o1, o2, o3, o4⟩ : ∃ ba : Addr, ∃ olds : List Value, a.eval s = .slice (some ba) l.length l.length ∧ RelL K (flat l) olds ∧ (∀ u ∈ olds, u.oneCell' = true) ∧
          ∀ j u, olds[j]? = some u → w.cell? (ba.add j) = some u := by
        rcases rel_slice rs with ⟨a', cap', he, rfl, ht'⟩ | ⟨b', off', cap', sz', u, he, k1, k2, k3, ht', k5⟩
        · simp at ht'
          obtain ⟨_, _, szn, hh | ⟨bn, cn, nn, hh, hnn⟩⟩ := ht' <;> (rw [q1] at hh; simp at hh)
        · rcases ht' with ⟨b2, cap2, n2, t1, t2, t3⟩ | ⟨n2, t1, t2, t3⟩
          · rw [q1] at t1; simp at t1
          rw [q1] at t1
          simp only [Option.some.injEq, Own.full.injEq] at t1
          obtain ⟨_, rfl⟩ := t1
          have := t3 rfl
          subst this
          refine ⟨_, (List.range (flat l).length).map u, he, ⟨by simp, fun i h1 h2 => by simpa using k3 i h1⟩, fun v hv => ?_, fun j v hj => ?_⟩
          · simp only [List.mem_map, List.mem_range] at hv
            obtain ⟨i, hi, rfl⟩ := hv
            exact hs.one _ _ _ (k2 i hi)
          · have hj' : j < (flat l).length := by
              rcases Nat.lt_or_ge j (flat l).length with h' | h'
              · exact h'
              · rw [List.getElem?_eq_none (by simpa using h')] at hj; simp at hj
            rw [List.getElem?_eq_getElem (by simpa using hj')] at hj
            simp at hj; subst hj
            rw [add_none]; exact hs.claim _ _ _ (k2 j hj')
      have hl' := hall rfl p1
      have hfl := flat_length p1
      have hge := grownCap_ge w (l.length + m.length) l.length e
      obtain ⟨g1, g2⟩ := grown_cells (K := K) (l := l) (m := m) (olds := olds) (news := news) (Builtin.zeroCells zv.cells (grownCap w (l.length + m.length) l.length e - (l.length + m.length))) o2 m2 o3 m3
      obtain ⟨K', k2, k3, k4⟩ := hs.grownOld _ e (l := l ++ m) (sz := i'.size) (cap := grownCap w (l.length + m.length) l.length e)
        (by
          have := o2.1
          simp only [Array.size_append, zsz, List.size_toArray, m1, ← this, hfl]; simp [← Nat.add_mul]; congr 1; omega) (by simpa using hge) hl' g1 g2 p2 (by simp; omega) S
      refine ⟨K', _, some (ob, _), _, _, .inl (exe ?_), k2, k3, k4, p3⟩
      rw [o1, hxe]
      have hrun := run_append_grow (P := P) w t o.type e i' zv ht hi hzv ba l.length l.length olds (by rw [← o2.1, hfl]) o4 ⟨b, off, none⟩ m.length xc news m1 m4 (by omega) h63 (growslice_fits (by omega) hbm)
      simpa using hrun
    rename_i bb cap sz0 n0
    obtain ⟨rfl, rfl, q3, q4, ⟨cur, el, q5, q6⟩, q7⟩ := q2
    -- the slice is the buffer's newest one
    obtain ⟨u, r1, r2, r3, r4⟩ : ∃ u : Nat → Value, a.eval s = .slice (some ⟨bb, 0, none⟩) l.length cap ∧ (∀ i, i < (flat l).length → K.claim bb i = some (u i)) ∧ (∀ i, (h : i < (flat l).length) → Rel K (flat l)[i] (u i)) ∧ True := by
      rcases rel_slice rs with ⟨a', cap', he, rfl, ht'⟩ | ⟨b', off', cap', sz', u, he, k1, k2, k3, ht', k5⟩
      · simp at ht'
        obtain ⟨_, _, szn, hh | ⟨bn, cn, nn, hh, hnn⟩⟩ := ht'
        · rw [q1] at hh; simp at hh
        · rw [q1] at hh
          simp at hh
          omega
      · rcases ht' with ⟨b2, cap2, n2, t1, t2, t3⟩ | ⟨n2, t1, t2, t3⟩
        case inr => rw [q1] at t1; simp at t1
        rw [q1] at t1
        simp only [Option.some.injEq, Own.buf.injEq] at t1
        obtain ⟨rfl, rfl, _, rfl⟩ := t1
        obtain ⟨rfl, rfl, rfl⟩ := t3 rfl
        exact ⟨u, he, fun i hi => by have := k2 i hi; rwa [Nat.zero_add] at this, k3, trivial⟩
    have hfl := flat_length p1
    by_cases hm0 : m = []
    · refine ⟨K, .slice l (.own ob), some (ob, .grow i'.size l.length), _, _, .inl (zero hse hcap0 hm0), Gh.leS.refl K, rs, ?_, ?_⟩
      · have e1 : upd σ ob (.grow i'.size l.length) = σ := by
          funext j; simp only [upd]; split
          · rename_i hj; rw [hj, p2]
          · rfl
        show Sat K (upd σ ob (.grow i'.size l.length)) w
        rw [e1]; exact hs
      · subst hm0
        simpa only [List.append_nil] using p3
    have hml : 0 < m.length := List.length_pos_iff.2 hm0
    rcases hxs with hxs | ⟨b, off, rfl, news, m1, m2, m3, m4⟩
    · omega
    have h63 : ((l.length + m.length : Nat) : Int) ≤ 9223372036854775807 := by
      have := Nat.mul_le_mul_left (l.length + m.length) hby0; simp at this; omega
    have hl' := hall rfl p1
    have hmf := flat_length hm
    let olds : List Value := (List.range (flat l).length).map u
    have o2 : RelL K (flat l) olds := ⟨by simp [olds], fun i h1 h2 => by simpa [olds] using r3 i h1⟩
    have o3 : ∀ v ∈ olds, v.oneCell' = true := fun v hv => by
      simp only [olds, List.mem_map, List.mem_range] at hv
      obtain ⟨i, hi, rfl⟩ := hv
      exact hs.one _ _ _ (r2 i hi)
    have o4 : ∀ j v, olds[j]? = some v → w.cell? ((⟨bb, 0, none⟩ : Addr).add j) = some v := fun j v hj => by
      have hj' : j < (flat l).length := by
        rcases Nat.lt_or_ge j (flat l).length with h' | h'
        · exact h'
        · rw [List.getElem?_eq_none (by simpa [olds] using h')] at hj; simp at hj
      rw [List.getElem?_eq_getElem (by simpa [olds] using hj')] at hj
      simp [olds] at hj; subst hj
      rw [add_none, Nat.zero_add]; exact hs.claim _ _ _ (r2 j hj')
    have hcur : cur.toList.take (l.length * i'.size) = olds := by
      apply List.ext_getElem?
      intro i
      rw [List.getElem?_take]
      by_cases hi : i < l.length * i'.size
      · rw [if_pos hi]
        have hi' : i < (flat l).length := by omega
        have h1 := hs.claim _ _ _ (r2 i hi')
        simp only [World.cell?, q5] at h1
        simp at h1
        rw [Array.getElem?_toList, h1]
        simp [olds, hi']
      · rw [if_neg hi, List.getElem?_eq_none (by simp [olds]; omega)]
    have holds : olds.length = l.length * i'.size := by rw [← o2.1, hfl]
    by_cases hroom : l.length + m.length ≤ cap
    · have hfit : l.length * i'.size + news.length ≤ cur.size := by
        rw [q6, m1, ← Nat.add_mul]; exact Nat.mul_le_mul_right _ hroom
      let cells' : Array Value := olds.toArray ++ news.toArray ++ (cur.toList.drop (l.length * i'.size + news.length)).toArray
      have hf := run_firstCells_some (P := P) w i'.size m.length ⟨b, off, none⟩ m.length xc news m1 m4
      have hst := run_storeCells_at P bb (l.length * i'.size) el news 0 cur w q5 (by simpa using hfit) m3
      simp only [Nat.add_zero, hcur] at hst
      have hst' : (storeCells ⟨bb, l.length * i'.size, none⟩ news).run P w = .ok () (w.setRow bb cells') := by
        rw [hst]; simp [cells']
      have hrun : (Builtin.append_ #[t, t] o.type #[.slice (some ⟨bb, 0, none⟩) l.length cap, .slice (some ⟨b, off, none⟩) m.length xc]).run P w =
          .ok (.slice (some ⟨bb, 0, none⟩) (l.length + m.length) cap) (w.setRow bb cells') := by
        simp [Builtin.append_, run_underlying' ht, Go.sizeOf, typeInfo, hi, Builtin.lenOf, hroom, hf, add_none, hst']
      obtain ⟨g1, g2⟩ := grown_cells (K := K) (l := l) (m := m) (olds := olds) (news := news) (cur.toList.drop (l.length * i'.size + news.length)).toArray o2 m2 o3 m3
      let cl : Nat → Option Value := fun i => if i < (flat (l ++ m)).length then cells'[i]? else none
      let K2 : Gh := { base := K.base, ds := K.ds, claim := fun b' i => if b' = bb then cl i else K.claim b' i, own := fun i => if i = ob then some (.buf bb cap i'.size (l ++ m).length) else K.own i }
      have hflm : (flat (l ++ m)).length = (l.length + m.length) * i'.size := by rw [flat_length hl', List.length_append]
      have hcs : cells'.size = cur.size := by
        simp [cells', holds]; omega
      have hbnd : (flat (l ++ m)).length ≤ cells'.size := by
        rw [hcs, q6, hflm]; exact Nat.mul_le_mul_right _ hroom
      have hclaim0 : ∀ i v, K.claim bb i = some v → cl i = some v := fun i v hv => by
        have hi : i < l.length * i'.size := by
          rcases Nat.lt_or_ge i (l.length * i'.size) with h' | h'
          · exact h'
          · rw [q7 i h'] at hv; simp at hv
        have hi2 : i < (flat l).length := by omega
        have e1 := r2 i hi2
        rw [hv] at e1
        have hi3 : i < (flat (l ++ m)).length := by rw [hflm, Nat.add_mul]; omega
        simp only [cl, if_pos hi3]
        simp only [cells']
        rw [Array.append_assoc, Array.getElem?_append_left (by simpa [holds] using hi)]
        simp [olds, hi2]
        exact (Option.some.inj e1).symm
      have hle : K.le K2 := Gh.le_renamed (o := ob) (e' := .buf bb cap i'.size (l ++ m).length) rfl (fun b' i v hv => by
          show (if b' = bb then cl i else K.claim b' i) = some v
          split
          · rename_i hb; subst hb; exact hclaim0 i v hv
          · exact hv) q1 (by simp [K2]) ⟨rfl, by simp, fun _ => ⟨rfl, rfl⟩⟩ (fun o' h => by simp [K2, h])
      have hheap := setRow_heap w bb cur cells' el (0, 0) q5
      refine ⟨K2, _, some (ob, _), _, _, .inl (exe (by rw [r1, hxe]; exact hrun)), ⟨hle, fun o' _ hn => ?_⟩, ?_, ?_, p3⟩
      · have : o' ≠ ob := fun e => by subst e; rw [q1] at hn; simp at hn
        simp [K2, this, hn]
      · rw [← List.length_append]
        refine rel_newest (K' := K2) (cells := cells') (by simpa using hroom) hl' (fun i hi => ?_) (fun i h1 h2 => (g1 i h1 h2).mono hle) hbnd (by simp [K2])
        show (if bb = bb then cl i else K.claim bb i) = _
        rw [if_pos rfl]; simp only [cl, if_pos hi]
      · refine hs.write (e := .buf bb cap i'.size l.length) (e' := .buf bb cap i'.size (l ++ m).length) hle p2 q1 rfl (fun o' h => by simp [K2, h]) (by simp [K2]) rfl rfl rfl rfl (by simp) (fun b' hb' => setRow_other w _ b' cells' hb')
          (fun i => frozen_loose hheap rfl) (fun i v hv => ?_) (fun b' i hb' => by
            have hb2 : ¬ b' = bb := hb'
            show (if b' = bb then cl i else K.claim b' i) = _
            rw [if_neg hb2]) ⟨rfl, rfl, by simpa using hroom, q4, ⟨cells', el, hheap, by rw [hcs, q6]⟩, fun i hi => ?_⟩
        · have hv' : cl i = some v := by
            have : (if bb = bb then cl i else K.claim bb i) = some v := hv
            rwa [if_pos rfl] at this
          simp only [cl] at hv'
          split at hv'
          · rename_i hi
            refine ⟨by
              show (w.setRow bb cells').cell? ⟨bb, i, none⟩ = some v
              rw [cell_of_row _ _ _ _ _ _ hheap]; exact hv', ?_⟩
            have h2 : i < cells'.size := by omega
            have := g2 i hi h2
            rw [Array.getElem?_eq_getElem h2] at hv'
            simp only [Option.some.injEq] at hv'
            rw [← hv']; exact this
          · simp at hv'
        · show (if bb = bb then cl i else K.claim bb i) = none
          rw [if_pos rfl]
          simp only [cl]
          rw [if_neg (by rw [flat_length hl']; omega)]
    · have hge := grownCap_ge w (l.length + m.length) cap e
      obtain ⟨g1, g2⟩ := grown_cells (K := K) (l := l) (m := m) (olds := olds) (news := news) (Builtin.zeroCells zv.cells (grownCap w (l.length + m.length) cap e - (l.length + m.length))) o2 m2 o3 m3
      obtain ⟨K', k2, k3, k4⟩ := hs.grownOld _ e (l := l ++ m) (sz := i'.size) (cap := grownCap w (l.length + m.length) cap e)
        (by
          have := o2.1
          simp only [Array.size_append, zsz, List.size_toArray, m1, ← this, hfl]; simp [← Nat.add_mul]; congr 1; omega) (by simpa using hge) hl' g1 g2 p2 (by simp; omega) S
      refine ⟨K', _, some (ob, _), _, _, .inl (exe ?_), k2, k3, k4, p3⟩
      rw [r1, hxe]
      have hrun := run_append_grow (P := P) w t o.type e i' zv ht hi hzv ⟨bb, 0, none⟩ l.length cap olds (by rw [← o2.1, hfl]) o4 ⟨b, off, none⟩ m.length xc news m1 m4 (by omega) h63 (growslice_fits (by omega) hbm)
      simpa using hrun

/-! ### Make; comparisons -/
theorem flat_replicate (n : Nat) (e : AV) : flat (List.replicate n e) = (List.replicate n (cellsA e)).flatten := by simp [flat, List.flatMap_def]
theorem flatten_replicate_get (z : List AV) (hz : 0 < z.length) : ∀ (n i : Nat), i < n * z.length → (List.replicate n z).flatten[i]? = z[i % z.length]?
  | 0, i, h => by simp at h
  | n + 1, i, h => by
    rw [List.replicate_succ, List.flatten_cons]
    by_cases hi : i < z.length
    · rw [List.getElem?_append_left hi, Nat.mod_eq_of_lt hi]
    · rw [List.getElem?_append_right (by omega), flatten_replicate_get z hz n (i - z.length) (by rw [Nat.succ_mul] at h; omega), ← Nat.mod_eq_sub_mod (by omega)]
theorem ok_mkslice {t l c e i g n z al ac} (ho : o.op = .makeSlice t l c) (ht : P.underlying t = some (.slice e)) (hi : P.info? e = some i) (hr : readOf P e = some (g, n)) (hz : zeroOf P e = some z) (hzn : z.length = n) (hn0 : 0 < n) (hby0 : 0 < i.bytes)
    (hl : trOpnd l = some al) (hc : trOpnd c = some ac) (h : exOpN nm env σ R (.mkslice n i.bytes z g al ac)) : OpOk P o N env σ nm R := by
  intro S K a w hf hs hnm hS
  obtain ⟨lv, h1, h2⟩ := wth_some h
  obtain ⟨cv, h3, h4⟩ := wth_some h2
  obtain ⟨ev, h5, h7⟩ := wth_some h4
  have rl := trOpnd_rel hl h1 hf
  have rc := trOpnd_rel hc h3 hf
  split at h7
  case h_2 => exact h7.elim
  rename_i ln cn
  obtain ⟨⟨h6, p4, p1, p2, p3⟩, p5⟩ := h7
  have hevl : (cellsA ev).length = n := by rw [h6, hzn]
  have el := rel_int rl
  have ec := rel_int rc
  obtain ⟨i', zv, hi', hzv, hzs⟩ := zerosOf (K := K) hz hzn
  obtain rfl : i' = i := by simp_all
  obtain ⟨_, hszn, _⟩ := readOf_some hr
  have hisz : i'.size = n := by simp [szOf, hi] at hszn; exact hszn
  have hzr : RelL K z zv.cells.toList := by
    unfold zeroOf at hz
    simp [hi, hzv] at hz
    exact ofFlats_rel hz
  obtain ⟨N1, hN⟩ : ∃ q : Nat, ln = (q : Int) := ⟨ln.toNat, by omega⟩
  obtain ⟨C1, hC⟩ : ∃ q : Nat, cn = (q : Int) := ⟨cn.toNat, by omega⟩
  subst hN; subst hC
  have hCb : C1 * i'.bytes ≤ 35184372088832 := by
    have : ((C1 * i'.bytes : Nat) : Int) ≤ 35184372088832 := by rw [Int.natCast_mul]; exact p3
    omega
  have hC1 : C1 ≤ 35184372088832 := by have := Nat.mul_le_mul_left C1 hby0; simp at this; omega
  have hrun := run_make (P := P) w t e i' zv ht hi hzv .i64 .i64 (N1 : Int) (C1 : Int) p1 p2 (by rw [Int.mul_comm]; omega) (by omega)
  simp only [Int.toNat_natCast] at hrun p5
  have hall : ∀ x ∈ List.replicate N1 ev, (cellsA x).length = n := fun x hx => by rw [(List.mem_replicate.1 hx).2]; exact hevl
  have hfl := flat_length hall
  simp only [List.length_replicate] at hfl
  have hmade : (madeCells zv.cells (C1 * i'.size)).size = C1 * n := by rw [size_madeCells, hisz]
  have hget : ∀ i, i < (flat (List.replicate N1 ev)).length → (h' : i < (madeCells zv.cells (C1 * i'.size)).size) → ∃ h1 : i % z.length < z.length, ∃ h2 : i % z.length < zv.cells.size,
      (flat (List.replicate N1 ev))[i]? = some z[i % z.length] ∧ (madeCells zv.cells (C1 * i'.size))[i] = zv.cells[i % z.length] := by
    intro i hi1 hi2
    have hz0 : 0 < z.length := by omega
    have hm := Nat.mod_lt i hz0
    refine ⟨hm, by omega, ?_, ?_⟩
    · rw [flat_replicate, h6, flatten_replicate_get z hz0 N1 i (by rw [hzn, ← hfl]; exact hi1), List.getElem?_eq_getElem hm]
    · have e1 : zv.cells.size = z.length := by omega
      simp only [madeCells, Array.getElem_map, Array.getElem_range, e1]
      rw [getElem!_pos zv.cells (i % z.length) (by omega)]
  obtain ⟨K', k2, k3, k4⟩ := hs.grownNew (madeCells zv.cells (C1 * i'.size)) e (l := List.replicate N1 ev) (sz := n) (cap := C1) hmade (by simp; omega) hall
    (fun i hi1 hi2 => by
      obtain ⟨a1, a2, a3, a4⟩ := hget i hi1 hi2
      rw [a4]
      have e2 : (flat (List.replicate N1 ev))[i] = z[i % z.length] := by
        rw [List.getElem?_eq_getElem hi1] at a3; exact Option.some.inj a3
      rw [e2]
      have := hzr.2 (i % z.length) a1 (by simpa using a2)
      simpa using this)
    (fun i hi1 hi2 => by
      obtain ⟨a1, a2, a3, a4⟩ := hget i hi1 hi2
      rw [a4]
      have := hzr.ones p4 (i % z.length) (by simpa using a2)
      simpa using this) hnm hS
  simp only [List.length_replicate] at k3 k4
  refine ⟨K', _, some (nm, _), _, _, .inl ?_, k2, k3, k4.same (w' := w.alloc (.cells (madeCells zv.cells (C1 * i'.size)) e)) rfl rfl rfl rfl, p5⟩
  simp only [execOp, ho, Sem.run_bind, el, ec, hrun, Result.andThen_ok, Sem.run_pure]
theorem run_eq1 {K : Gh} {e k a b va vb r} (hk : kindOf P e = some k) (ha : Rel K a va) (hb : Rel K b vb) (h : eq1 k a b = some r) (d : Nat) (w : World) : (Op.equalIn (d + 1) e va vb).run P w = .ok r w := by
  unfold kindOf at hk
  split at hk <;> simp at hk <;> subst hk <;> (cases a <;> cases b <;> simp [eq1] at h)
  · rename_i hu _ _ _ _
    obtain ⟨rfl, rfl⟩ := h
    rw [rel_int ha, rel_int hb]
    exact run_equalIn_int w d e _ _ _ _ hu
  · rename_i hu _ _
    subst h
    rw [rel_bool ha, rel_bool hb]
    exact run_equalIn_bool' w d e _ _ hu
  · rename_i hu _ _
    subst h
    rw [rel_str ha, rel_str hb]
    exact run_equalIn_string w d e _ _ hu
theorem kind_part {e k} (hk : kindOf P e = some k) (w : World) (cs : Array Value) (off : Nat) {v : Value} (h : cs[off]? = some v) : (part e cs off).run P w = .ok v w := by
  have h1 : aggOf P e = some false := by
    unfold kindOf at hk
    unfold aggOf
    split at hk <;> simp at hk <;> (rename_i hu; simp [hu])
  simp [part, run_isAgg' h1, h]
theorem run_fields {K : Gh} (d : Nat) (xs ys : Array Value) (w : World) : ∀ (fs : List Field) (i : Nat) (ks : List Nat) (l m : List AV) (r : Bool), fieldKinds P i fs = some ks → eqCells ks l m = some r →
    RelL K l (xs.toList.drop i) → RelL K m (ys.toList.drop i) → (Op.eqFields (d + 1) xs ys fs).run P w = .ok r w
  | [], i, ks, l, m, r, hk, hr, hl, hm => by
    simp [fieldKinds] at hk; subst hk
    cases l <;> cases m <;> simp [eqCells] at hr
    subst hr
    rfl
  | f :: fs, i, ks, l, m, r, hk, hr, hl, hm => by
    simp only [fieldKinds] at hk
    split at hk <;> try (simp at hk; done)
    rename_i hc
    obtain ⟨hoff, hname⟩ := hc
    split at hk <;> simp at hk
    rename_i k ks' hk1 hk2
    subst hk
    cases l with
    | nil => simp [eqCells] at hr
    | cons a l =>
      cases m with
      | nil => simp [eqCells] at hr
      | cons b m =>
        simp only [eqCells] at hr
        split at hr <;> simp at hr
        rename_i p r' hp hr'
        obtain ⟨va, xr, ea, ha1, ha2⟩ := hl.cons_inv
        obtain ⟨vb, yr, eb, hb1, hb2⟩ := hm.cons_inv
        have gx : xs[i]? = some va := by have := congrArg (·[0]?) ea; simpa using this
        have gy : ys[i]? = some vb := by have := congrArg (·[0]?) eb; simpa using this
        have dx : xs.toList.drop (i + 1) = xr := by rw [← List.drop_drop, ea]; rfl
        have dy : ys.toList.drop (i + 1) = yr := by rw [← List.drop_drop, eb]; rfl
        have ih := run_fields d xs ys w fs (i + 1) ks' l m r' hk2 hr' (by rw [dx]; exact ha2) (by rw [dy]; exact hb2)
        have e1 := kind_part hk1 w xs f.offset (by rw [hoff]; exact gx)
        have e2 := kind_part hk1 w ys f.offset (by rw [hoff]; exact gy)
        have e3 := run_eq1 hk1 ha1 hb1 hp d w
        simp only [Op.eqFields, hname, ne_eq, not_false_eq_true, if_true, Sem.run_bind, e1, e2, e3, Result.andThen_ok]
        subst hr
        cases p
        · simp
        · simpa using ih
theorem run_items {K : Gh} (d : Nat) {e k} (hk : kindOf P e = some k) (xs ys : Array Value) (w : World) : ∀ (n i : Nat) (l m : List AV) (r : Bool), eqCells (List.replicate n k) l m = some r →
    RelL K l (xs.toList.drop i) → RelL K m (ys.toList.drop i) → (Op.eqItems (d + 1) e 1 xs ys (List.range' i n)).run P w = .ok r w
  | 0, i, l, m, r, hr, hl, hm => by
    cases l <;> cases m <;> simp [eqCells] at hr
    subst hr
    rfl
  | n + 1, i, l, m, r, hr, hl, hm => by
    rw [List.replicate_succ] at hr
    cases l with
    | nil => simp [eqCells] at hr
    | cons a l =>
      cases m with
      | nil => simp [eqCells] at hr
      | cons b m =>
        simp only [eqCells] at hr
        split at hr <;> simp at hr
        rename_i p r' hp hr'
        obtain ⟨va, xr, ea, ha1, ha2⟩ := hl.cons_inv
        obtain ⟨vb, yr, eb, hb1, hb2⟩ := hm.cons_inv
        have gx : xs[i]? = some va := by have := congrArg (·[0]?) ea; simpa using this
        have gy : ys[i]? = some vb := by have := congrArg (·[0]?) eb; simpa using this
        have dx : xs.toList.drop (i + 1) = xr := by rw [← List.drop_drop, ea]; rfl
        have dy : ys.toList.drop (i + 1) = yr := by rw [← List.drop_drop, eb]; rfl
        have ih := run_items d hk xs ys w n (i + 1) l m r' hr' (by rw [dx]; exact ha2) (by rw [dy]; exact hb2)
        have e1 := kind_part hk w xs (i * 1) (by rw [Nat.mul_one]; exact gx)
        have e2 := kind_part hk w ys (i * 1) (by rw [Nat.mul_one]; exact gy)
        have e3 := run_eq1 hk ha1 hb1 hp d w
        rw [List.range'_succ]
        simp only [Op.eqItems, Sem.run_bind, e1, e2, e3, Result.andThen_ok]
        subst hr
        cases p
        · simp
        · simpa using ih
theorem run_plainEq {K : Gh} {t ks l m vs us r} (hp : plainEq P t = some ks) (hl : RelL K l vs.toList) (hm : RelL K m us.toList) (h : eqCells ks l m = some r) (w : World) :
    (Op.equalIn 10000 t (.agg vs) (.agg us)).run P w = .ok r w ∧ P.eqGuardType P.depth t = false := by
  unfold plainEq at hp
  split at hp
  · rename_i fs hu
    split at hp
    case isFalse => simp at hp
    rename_i hc
    have hfo : P.fieldsOf t = fs := by simp [Program.fieldsOf, hu]
    have := run_equalIn_struct (P := P) w 9999 t vs us (by rw [hfo]; exact hu) hc.1
    refine ⟨?_, hc.2⟩
    rw [this, hfo]
    exact run_fields 9998 vs us w fs.toList 0 ks l m r hp (by simpa using h) (by simpa using hl) (by simpa using hm)
  · rename_i n e hu
    split at hp
    case isFalse => simp at hp
    rename_i hc
    simp at hp
    obtain ⟨k, hk, rfl⟩ := hp
    obtain ⟨i, hi, hsz⟩ : ∃ i, P.info? e = some i ∧ i.size = 1 := by
      have := hc.2.1
      unfold szOf at this
      cases hi : P.info? e with
      | none => simp [hi] at this
      | some i => simp [hi] at this; exact ⟨i, rfl, this⟩
    have hcells : P.cellsOf e = 1 := by
      have h1 := run_sizeOf (P := P) w hi
      have h2 := run_sizeOf' (P := P) hc.2.1 w
      rw [h1] at h2
      exact (Result.ok.inj h2).1
    have := run_equalIn_array (P := P) w 9999 vs us hu hi
    refine ⟨?_, hc.1⟩
    rw [this, hcells, List.range_eq_range']
    exact run_items 9998 hk vs us w n 0 l m r h (by simpa using hl) (by simpa using hm)
  · simp at hp
theorem ok_eqs {op t x y yt ks neg ax ay} (ho : o.op = .binOp op t x y yt) (hop : op = .eql ∧ neg = false ∨ op = .neq ∧ neg = true) (hp : plainEq P t = some ks) (hx : trOpnd x = some ax) (hy : trOpnd y = some ay)
    (h : exOpN nm env σ R (.eqs neg ks ax ay)) : OpOk P o N env σ nm R := by
  refine .still fun K a w hf hs => ?_
  obtain ⟨av, h1, h2⟩ := wth_some h
  obtain ⟨bv, h3, h4⟩ := wth_some h2
  have ra := trOpnd_rel hx h1 hf
  have rb := trOpnd_rel hy h3 hf
  split at h4
  case h_2 => exact h4.elim
  rename_i l m
  split at h4
  case h_2 => exact h4.elim
  rename_i r hr
  obtain ⟨vs, ea, ha⟩ := rel_agg ra
  obtain ⟨us, eb, hb⟩ := rel_agg rb
  obtain ⟨e1, e2⟩ := run_plainEq hp ha hb hr w
  refine ⟨_, _, ?_, .bool _, h4⟩
  rcases hop with ⟨rfl, rfl⟩ | ⟨rfl, rfl⟩
  · simp only [execOp, ho, ea, eb, Sem.run_bind, run_eqGuard_agg w _ t x y vs us e2, Result.andThen_ok, run_eql_struct, e1, Sem.run_pure]
    rfl
  · simp only [execOp, ho, ea, eb, Sem.run_bind, run_eqGuard_agg w _ t x y vs us e2, Result.andThen_ok, run_neq_struct, e1, Sem.run_pure]
    rfl
end ops
end Abs

namespace Abs
open Go
section ops
variable {P : Program} {o : Oper} {N : Nat} {env : Env} {σ : Sig} {nm : Nat} {R : AV → Option (Nat × AObj) → Prop}
theorem isInt_under {P : Program} {u : TypeId} (h : isIntTy P u = true) : ∃ k, P.underlying u = some (.int k) := by
  unfold isIntTy at h
  split at h
  · rename_i k hk; exact ⟨k, hk⟩
  · simp at h
theorem run_append_nilz (w : World) (t u ty e : TypeId) (i : TypeInfo) (z : Value) {k : IntKind} (ht : P.underlying t = some (.slice e)) (hu : P.underlying u = some (.int k)) (hi : P.info? e = some i) (hz : i.zero = some z)
    (n : Int) (h0 : 0 < n) (hs : 0 < i.size) (hb0 : 0 < i.bytes) (hb : n * i.bytes ≤ 35184372088832) :
    (Builtin.append_ #[t, u] ty #[.slice none 0 0, .int .i64 n]).run P w =
      .ok (.slice (some ⟨w.heap.size, 0, none⟩) n.toNat (grownCap w n.toNat 0 e))
        (w.drew.alloc (.cells (Builtin.zeroCells z.cells n.toNat ++ Builtin.zeroCells z.cells (grownCap w n.toNat 0 e - n.toNat)) e)) := by
  have hn1 : n * 1 ≤ n * (i.bytes : Int) := Int.mul_le_mul_of_nonneg_left (by omega) (by omega)
  have hw : IntKind.i64.wrap n = n := by
    simp [IntKind.wrap, IntKind.signed, IntKind.bits]; omega
  have hn : n.toNat ≠ 0 := by omega
  have hb' : (n.toNat : Int) * i.bytes ≤ 35184372088832 := by rw [Int.toNat_of_nonneg (by omega)]; exact hb
  have h63' : ¬ (9223372036854775807 < (n.toNat : Int)) := by omega
  have h48n : n.toNat * i.bytes ≤ 35184372088832 := by
    have e : ((n.toNat * i.bytes : Nat) : Int) ≤ 35184372088832 := by rw [Int.natCast_mul]; exact hb'
    omega
  have h48' : ¬ (281474976710656 < Builtin.nextslicecap n.toNat 0 * i.bytes) := by rw [nextslicecap_zero (by omega)]; omega
  have h48 : ¬ (281474976710656 < n * (i.bytes : Int)) := by omega
  have hlt : ¬ n < 0 := by omega
  have hns : ¬ (n.toNat * i.size = 0) := by
    intro h; rcases Nat.mul_eq_zero.1 h with h | h <;> omega
  have hle : ¬ n ≤ 0 := by omega
  have hmx : ¬ (9223372036854775807 < max n 0) := by omega
  simp [Builtin.append_, run_underlying ht, run_underlying hu, Go.sizeOf, typeInfo, zeroValue, hi, hz, asInt, asIntOf, hw, hlt, h48, hn, h63', h48', Question.forced, run_firstCells_none, newRow, grownCap, hns, hle, hmx]
theorem ok_appz {t u s x e i z as_ ax} (ho : o.op = .call { callee := .builtin .append, args := #[s, x], argTypes := #[t, u] }) (ht : P.underlying t = some (.slice e)) (hu : isIntTy P u = true) (hi : P.info? e = some i)
    (hz : zeroOf P e = some z) (hs0 : 0 < i.size) (hby0 : 0 < i.bytes) (hzl : z.length = i.size) (hs1 : trOpnd s = some as_) (hx1 : trOpnd x = some ax) (h : exOpN nm env σ R (.appz i.size i.bytes as_ ax)) : OpOk P o N env σ nm R := by
  intro S K a w hf hs hnm hS
  obtain ⟨sv, h1, h2⟩ := wth_some h
  obtain ⟨xv, h3, h4⟩ := wth_some h2
  have rs := trOpnd_rel hs1 h1 hf
  have rx := trOpnd_rel hx1 h3 hf
  split at h4
  case h_2 => exact h4.elim
  rename_i l n
  obtain ⟨⟨rfl, hn0, hnb⟩, h5⟩ := h4
  obtain ⟨i', zv, hi', hzv, hzs⟩ := zerosOf (K := K) hz hzl
  obtain rfl : i' = i := by simp_all
  have hsv : a.eval s = .slice none 0 0 := by
    rcases rel_slice rs with ⟨a', cap', he, _, ht'⟩ | ⟨b, off, cap', sz', u, he, _, _, _, ht', _⟩
    · simp at ht'
      obtain ⟨rfl, rfl⟩ := ht'
      exact he
    · exact ht'.elim
  have hxv := rel_int rx
  obtain ⟨k, hu'⟩ := isInt_under hu
  have hrun := run_append_nilz (P := P) w t u o.type e i' zv ht hu' hi hzv n hn0 hs0 hby0 hnb
  have zsz : ∀ k, (Builtin.zeroCells zv.cells k).size = k * i'.size := fun k => by rw [size_zeroCells, hzs]
  have hge := grownCap_ge w n.toNat 0 e
  obtain ⟨K', k2, k3, k4⟩ := hs.grownNew (Builtin.zeroCells zv.cells n.toNat ++ Builtin.zeroCells zv.cells (grownCap w n.toNat 0 e - n.toNat)) e (l := []) (sz := i'.size) (cap := grownCap w n.toNat 0 e)
      (by simp only [Array.size_append, zsz]; rw [← Nat.add_mul]; congr 1; omega) (Nat.zero_le _) (by simp) (by simp [Abs.flat]) (by simp [Abs.flat]) hnm hS
  refine ⟨K', .raw nm n.toNat, some (nm, .grow i'.size 0), .slice (some ⟨w.heap.size, 0, none⟩) n.toNat (grownCap w n.toNat 0 e), _, .inl ?_, k2, ?_, by simpa [app] using k4, h5⟩
  · simp only [execOp, ho, resolve, invoke, Go.builtin, Sem.run_bind, Sem.run_pure, Result.andThen_ok]
    have e2 : #[s, x].map a.eval = #[a.eval s, a.eval x] := by simp
    simp only [e2, hsv, hxv, hrun, Result.andThen_ok]
  · cases k3 with
    | sl0 a cap t ht => simp at ht
    | slice _ _ _ _ _ sz u q1 q2 q3 q4 q5 => exact .raw nm _ _ _ sz q4 hge
theorem ok_slcN {t x lo hi mx e sz ax alo ahi amx} (ho : o.op = .slice t x lo hi mx) (hu : P.underlying t = some (.slice e)) (hsz : szOf P e = some sz) (hx : trOpnd x = some ax)
    (hlo : trOpt lo = some alo) (hhi : trOpt hi = some ahi) (hmx : trOpt mx = some amx) (h : exOpN nm env σ R (.slcN sz ax alo ahi amx)) : OpOk P o N env σ nm R := by
  refine .still fun K a w hf hs => ?_
  obtain ⟨av, h1, h2⟩ := wth_some h
  have hr := trOpnd_rel hx h1 hf
  split at h2
  case h_2 => exact h2.elim
  rename_i l
  obtain ⟨⟨rfl, hm⟩, h3⟩ := h2
  obtain ⟨hh, h4, c1⟩ := bnd_run hf hhi h3
  obtain ⟨ll, h5, c2⟩ := bnd_run hf hlo h4
  have hsv : a.eval x = .slice none 0 0 := by
    rcases rel_slice hr with ⟨a', cap', he, _, ht'⟩ | ⟨b, off, cap', sz', u, he, _, _, _, ht', _⟩
    · simp at ht'
      obtain ⟨rfl, rfl⟩ := ht'
      exact he
    · exact ht'.elim
  have hhl : hh = 0 := by rcases c1 with ⟨_, rfl⟩ | ⟨k, n, _, n0, n1, rfl⟩ <;> omega
  have hlh : ll = 0 := by rcases c2 with ⟨_, rfl⟩ | ⟨k, n, _, n0, n1, rfl⟩ <;> omega
  have hmn : mx = none := by cases mx <;> cases amx <;> simp [trOpt] at hmx hm ⊢
  subst hmn
  have c1' : hi = none ∨ ∃ y k n, hi = some y ∧ a.eval y = .int k n ∧ 0 ≤ n ∧ n ≤ (0 : Nat) := by
    rcases c1 with ⟨hn, e⟩ | ⟨k, n, hn, n0, n1, e⟩
    · left; cases hi <;> simp at hn; rfl
    · right; cases hi <;> simp at hn; exact ⟨_, k, n, rfl, hn, n0, by omega⟩
  have c2' : lo = none ∨ ∃ y k n, lo = some y ∧ a.eval y = .int k n ∧ 0 ≤ n ∧ n ≤ (0 : Nat) := by
    rcases c2 with ⟨hn, e⟩ | ⟨k, n, hn, n0, n1, e⟩
    · left; cases lo <;> simp at hn; rfl
    · right; cases lo <;> simp at hn; exact ⟨_, k, n, rfl, hn, n0, by omega⟩
  have hsb : ∀ w : World, (Instr.sliceBounds true 0 0 (lo.map a.eval) (hi.map a.eval) none).run P w = .ok (0, 0, 0) w := by
    intro w
    have z : ∀ n : Int, 0 ≤ n → n ≤ (0 : Nat) → n.toNat = 0 := fun n _ _ => by omega
    rcases c1' with rfl | ⟨y, k, n, rfl, ey, n0, n1⟩ <;> rcases c2' with rfl | ⟨y', k', n', rfl, ey', n0', n1'⟩
    · simp [Instr.sliceBounds]
    · simp [Instr.sliceBounds, ey', run_sliceBound k' n' _ _ _ n0' n1', z n' n0' n1']
    · simp [Instr.sliceBounds, ey, run_sliceBound k n _ _ _ n0 n1, z n n0 n1]
    · simp [Instr.sliceBounds, ey, ey', run_sliceBound k n _ _ _ n0 n1, z n n0 n1, run_sliceBound k' n' _ _ _ n0' n1', z n' n0' n1']
  refine ⟨.slice [] .nil, .slice none 0 0, ?_, .sl0 none 0 .nil (by simp), h5⟩
  simp only [execOp, ho, Sem.run_bind]
  rw [hsv]
  simp [Instr.sliceAt, Instr.slice, run_underlying' hu, hsb, run_sizeOf' hsz]
theorem ok_slcR {t x lo hi mx e sz ax alo ahi amx} (ho : o.op = .slice t x lo hi mx) (hu : P.underlying t = some (.slice e)) (hsz : szOf P e = some sz) (hx : trOpnd x = some ax)
    (hlo : trOpt lo = some alo) (hhi : trOpt hi = some ahi) (hmx : trOpt mx = some amx) (h : exOpN nm env σ R (.slcR sz ax alo ahi amx)) : OpOk P o N env σ nm R := by
  refine .still fun K a w hf hs => ?_
  obtain ⟨av, h1, h2⟩ := wth_some h
  have hr := trOpnd_rel hx h1 hf
  split at h2
  case h_2 => exact h2.elim
  rename_i ob len
  obtain ⟨⟨hl, hh0, hm⟩, h3⟩ := h2
  obtain ⟨hh, h4, c1⟩ := bnd_run hf hhi h3
  obtain ⟨h5, h6⟩ := h4
  subst h5
  have hln : lo = none := by cases lo <;> cases alo <;> simp [trOpt] at hlo hl ⊢
  have hmn : mx = none := by cases mx <;> cases amx <;> simp [trOpt] at hmx hm ⊢
  subst hln hmn
  obtain ⟨b, cap, hev, sz', htk, hcap⟩ : ∃ b cap, a.eval x = .slice (some ⟨b, 0, none⟩) len cap ∧ ∃ sz', TokOk K (.own ob) 0 b 0 cap sz' ∧ len ≤ cap := by
    generalize a.eval x = v at hr
    cases hr with
    | raw _ _ b cap sz' h hl => exact ⟨b, cap, rfl, sz', h, hl⟩
  obtain ⟨y, k, n, rfl, ey, n0, n1, n2⟩ : ∃ y k n, hi = some y ∧ a.eval y = .int k n ∧ 0 ≤ n ∧ n ≤ (len : Nat) ∧ n.toNat = 0 := by
    rcases c1 with ⟨hn, e⟩ | ⟨k, n, hn, n0, n1, e⟩
    · cases hi with
      | none => simp [trOpt] at hhi; subst hhi; simp at hh0
      | some y => simp at hn
    · cases hi with
      | none => simp at hn
      | some y => simp at hn; exact ⟨y, k, n, rfl, hn, n0, n1, e.symm⟩
  have hsb : ∀ w : World, (Instr.sliceBounds true len cap none (some (a.eval y)) none).run P w = .ok (0, 0, cap) w := by
    intro w
    simp [Instr.sliceBounds, ey, run_sliceBound k n cap _ _ n0 (by omega), n2]
  refine ⟨.slice [] (.own ob), .slice (some ⟨b, 0, none⟩) 0 cap, ?_, ?_, h6⟩
  · simp only [execOp, ho, Sem.run_bind]
    rw [hev]
    simp [Instr.sliceAt, Instr.slice, run_underlying' hu, hsb, run_sizeOf' hsz, Addr.add]
  · exact .slice [] (.own ob) b 0 cap sz' (fun _ => undef) (by simp) (by simp [Abs.flat]) (by simp [Abs.flat]) htk (Nat.zero_le _)
end ops
end Abs

namespace Abs
open Go
theorem bytes_inj {a b : ByteArray} (h : a.toList = b.toList) : a = b := by
  rw [ByteArray.toList_eq, ByteArray.toList_eq] at h
  exact ByteArray.ext (Array.toList_inj.1 h)

/-! ### Keys -/
theorem eq1_val {K : Gh} {k : Nat} {a b : AV} {va vb : Value} (h : eq1 k a b = some true) (ha : Rel K a va) (hb : Rel K b vb) : va = vb ∧ ∀ n, Instr.sameBits n va vb = true := by
  match k, a, b, h with
  | 0, .int k x, .int k' y, h =>
    simp [eq1] at h
    obtain ⟨rfl, rfl⟩ := h
    rw [rel_int ha, rel_int hb]
    exact ⟨rfl, fun n => by cases n <;> simp [Instr.sameBits]⟩
  | 1, .bool x, .bool y, h =>
    simp [eq1] at h
    subst h
    rw [rel_bool ha, rel_bool hb]
    exact ⟨rfl, fun n => by cases n <;> simp [Instr.sameBits]⟩
  | 2, .str x, .str y, h =>
    simp [eq1] at h
    obtain rfl := bytes_inj h
    rw [rel_str ha, rel_str hb]
    exact ⟨rfl, fun n => by cases n <;> simp [Instr.sameBits, MapKept.bytes_beq]⟩
theorem eqCells_val {K : Gh} : ∀ {ks : List Nat} {l m : List AV} {vs us : List Value}, eqCells ks l m = some true → RelL K l vs → RelL K m us → vs = us ∧ ∀ n, ((vs.zip us).all fun (x, y) => Instr.sameBits n x y) = true
  | [], l, m, vs, us, h, hl, hm => by
    cases l <;> cases m <;> simp [eqCells] at h
    obtain rfl : vs = [] := by simpa using hl.1.symm
    obtain rfl : us = [] := by simpa using hm.1.symm
    exact ⟨rfl, fun n => rfl⟩
  | k :: ks, l, m, vs, us, h, hl, hm => by
    cases l with
    | nil => simp [eqCells] at h
    | cons a l =>
      cases m with
      | nil => simp [eqCells] at h
      | cons b m =>
        simp only [eqCells] at h
        split at h <;> simp at h
        rename_i p r hp hr
        obtain ⟨rfl, rfl⟩ := h
        obtain ⟨va, xr, rfl, ha1, ha2⟩ := hl.cons_inv
        obtain ⟨vb, yr, rfl, hb1, hb2⟩ := hm.cons_inv
        obtain ⟨e1, q1⟩ := eq1_val hp ha1 hb1
        obtain ⟨e2, q2⟩ := eqCells_val hr ha2 hb2
        refine ⟨by rw [e1, e2], fun n => ?_⟩
        simp only [List.zip_cons_cons, List.all_cons, q1 n, Bool.true_and]
        exact q2 n
theorem eqKey_val {K : Gh} {kk : KK} {a b : AV} {va vb : Value} (h : eqKey kk a b = some true) (ha : Rel K a va) (hb : Rel K b vb) : va = vb ∧ Instr.sameBits 10000 va vb = true := by
  cases kk with
  | one k => obtain ⟨e1, e2⟩ := eq1_val h ha hb; exact ⟨e1, e2 _⟩
  | row ks =>
    cases a <;> cases b <;> simp only [eqKey] at h <;> try (simp at h; done)
    obtain ⟨vs, rfl, h1⟩ := rel_agg ha
    obtain ⟨us, rfl, h2⟩ := rel_agg hb
    obtain ⟨e1, e2⟩ := eqCells_val h h1 h2
    have e3 : vs = us := Array.toList_inj.1 e1
    subst e3
    exact ⟨rfl, by simp only [Instr.sameBits, e2 9999, Bool.and_true]; simp⟩
section
variable {P : Program}
theorem kkOf_cases {t : TypeId} {kk : KK} (h : kkOf P t = some kk) : (∃ n, kk = .one n ∧ kindOf P t = some n) ∨ ∃ ks, kk = .row ks ∧ plainEq P t = some ks := by
  unfold kkOf at h
  split at h
  · rename_i n hn
    simp at h
    exact .inl ⟨n, h.symm, hn⟩
  · simp only [Option.map_eq_some_iff] at h
    obtain ⟨ks, h1, h2⟩ := h
    exact .inr ⟨ks, h2.symm, h1⟩
theorem run_eqKey {K : Gh} {t : TypeId} {kk : KK} {a b : AV} {va vb : Value} {r : Bool} (hk : kkOf P t = some kk) (ha : Rel K a va) (hb : Rel K b vb) (h : eqKey kk a b = some r) (w : World) : (Op.equal t va vb).run P w = .ok r w := by
  rcases kkOf_cases hk with ⟨n, rfl, hn⟩ | ⟨ks, rfl, hks⟩
  · exact run_eq1 hn ha hb h 9999 w
  · cases a <;> cases b <;> simp only [eqKey] at h <;> try (simp at h; done)
    obtain ⟨vs, rfl, h1⟩ := rel_agg ha
    obtain ⟨us, rfl, h2⟩ := rel_agg hb
    exact (run_plainEq hks h1 h2 h w).1
theorem check_one {K : Gh} {t : TypeId} {k : Nat} {a : AV} {v : Value} (hk : kindOf P t = some k) (h : (eq1 k a a).isSome = true) (hr : Rel K a v) (e : Bool) (n : Nat) (w : World) : (Instr.checkKey e (n + 1) t v).run P w = .ok () w := by
  unfold kindOf at hk
  split at hk <;> simp at hk <;> subst hk <;> (cases a <;> simp [eq1] at h)
  · rename_i hu _ _
    rw [rel_int hr]; simp [Instr.checkKey, run_underlying hu]
  · rename_i hu _
    rw [rel_bool hr]; simp [Instr.checkKey, run_underlying hu]
  · rename_i hu _
    rw [rel_str hr]; simp [Instr.checkKey, run_underlying hu]
theorem eqCells_self : ∀ {ks : List Nat} {l : List AV}, (eqCells ks l l).isSome = true → ks.length = l.length ∧ ∀ (i k : Nat) (a : AV), ks[i]? = some k → l[i]? = some a → (eq1 k a a).isSome = true
  | [], l, h => by cases l <;> simp [eqCells] at h ⊢
  | k :: ks, l, h => by
    cases l with
    | nil => simp [eqCells] at h
    | cons a l =>
      simp only [eqCells] at h
      split at h <;> simp at h
      rename_i p r hp hr
      obtain ⟨e1, e2⟩ := eqCells_self (ks := ks) (l := l) (by rw [hr]; rfl)
      refine ⟨by simp [e1], fun i k' a' h1 h2 => ?_⟩
      cases i with
      | zero => simp at h1 h2; subst h1; subst h2; rw [hp]; rfl
      | succ i => exact e2 i k' a' (by simpa using h1) (by simpa using h2)
theorem check_row {K : Gh} {t : TypeId} {ks : List Nat} {l : List AV} {vs : Array Value} (hp : plainEq P t = some ks) (h : (eqCells ks l l).isSome = true) (hr : RelL K l vs.toList) (e : Bool) (w : World) :
    (Instr.checkKey e 10000 t (.agg vs)).run P w = .ok () w := by
  obtain ⟨hlen, hone⟩ := eqCells_self h
  have hlv : l.length = vs.size := by simpa using hr.1
  -- one cell
  have cell : ∀ (i : Nat) (k : Nat) (ft : TypeId) (n : Nat), ks[i]? = some k → kindOf P ft = some k → ∃ v, (part ft vs i).run P w = .ok v w ∧ (Instr.checkKey e (n + 1) ft v).run P w = .ok () w := by
    intro i k ft n hi hk
    have hil : i < l.length := by rw [← hlen]; exact (List.getElem?_eq_some_iff.1 hi).1
    have hiv : i < vs.size := by omega
    have h1 := hr.2 i hil (by simpa using hiv)
    refine ⟨vs[i], kind_part hk w vs i (by simp [hiv]), check_one hk (hone i k l[i] hi (List.getElem?_eq_getElem hil)) (v := vs[i]) (by simpa using h1) e n w⟩
  unfold plainEq at hp
  split at hp
  · rename_i fs hu
    split at hp
    case isFalse => simp at hp
    rw [Instr.checkKey]
    simp only [Sem.run_bind, run_underlying hu, Result.andThen_ok]
    rw [← Array.forIn_toList]
    have key : ∀ (L : List Field) (i : Nat) (ks' : List Nat), fieldKinds P i L = some ks' → (∀ j k, ks'[j]? = some k → ks[i + j]? = some k) →
        ∀ f ∈ L, f.name ≠ "_" ∧ ∃ v, (part f.type vs f.offset).run P w = .ok v w ∧ (Instr.checkKey e 9999 f.type v).run P w = .ok () w := by
      intro L
      induction L with
      | nil => intro i ks' _ _ f hf; simp at hf
      | cons f0 L ih =>
        intro i ks' hk hs f hf
        simp only [fieldKinds] at hk
        split at hk <;> try (simp at hk; done)
        rename_i hc
        obtain ⟨hoff, hname⟩ := hc
        split at hk <;> simp at hk
        rename_i k ks2 hk1 hk2
        subst hk
        rcases List.mem_cons.1 hf with rfl | hf
        · refine ⟨hname, ?_⟩
          rw [hoff]
          exact cell i k f.type 9998 (by simpa using hs 0 k rfl) hk1
        · exact ih (i + 1) ks2 hk2 (fun j k hj => by have := hs (j + 1) k (by simpa using hj); rwa [show i + 1 + j = i + (j + 1) by omega]) f hf
    have each := key fs.toList 0 ks hp (fun j k hj => by simpa using hj)
    clear key hp
    generalize fs.toList = L at each
    induction L with
    | nil => simp
    | cons f L ih =>
      obtain ⟨hn, v, p1, p2⟩ := each f (by simp)
      simp only [List.forIn_cons, Sem.run_bind, hn, ne_eq, not_false_eq_true, if_true, p1, Result.andThen_ok, p2, Sem.run_pure]
      exact ih (fun y hy => each y (by simp [hy]))
  · rename_i n el hu
    split at hp
    case isFalse => simp at hp
    rename_i hc
    simp at hp
    obtain ⟨k, hk, rfl⟩ := hp
    rw [Instr.checkKey]
    simp only [Sem.run_bind, run_underlying hu, Result.andThen_ok]
    simp only [Std.Legacy.Range.forIn_eq_forIn_range', Std.Legacy.Range.size, Nat.sub_zero, Nat.add_one_sub_one, Nat.div_one]
    have each : ∀ j ∈ List.range' 0 n, ∃ v, (part el vs j).run P w = .ok v w ∧ (Instr.checkKey e 9999 el v).run P w = .ok () w := by
      intro j hj
      have hjn : j < n := by simp [List.mem_range'_1] at hj; omega
      exact cell j k el 9998 (by simp [hjn]) hk
    generalize List.range' 0 n = is at each
    induction is with
    | nil => simp
    | cons j is ih =>
      obtain ⟨v, p1, p2⟩ := each j (by simp)
      simp only [List.forIn_cons, Sem.run_bind, run_sizeOf' hc.2.1, Result.andThen_ok, Nat.mul_one, p1, p2, Sem.run_pure]
      exact ih (fun y hy => each y (by simp [hy]))
  · simp at hp
theorem run_check {K : Gh} {t : TypeId} {kk : KK} {a : AV} {v : Value} (hk : kkOf P t = some kk) (h : keyOk kk a = true) (hr : Rel K a v) (e : Bool) (w : World) : (Instr.checkKey e 10000 t v).run P w = .ok () w := by
  unfold keyOk at h
  rcases kkOf_cases hk with ⟨n, rfl, hn⟩ | ⟨ks, rfl, hks⟩
  · exact check_one hn h hr e 9999 w
  · cases a <;> simp only [eqKey] at h <;> try (simp at h; done)
    obtain ⟨vs, rfl, h1⟩ := rel_agg hr
    exact check_row hks h h1 e w

/-! ### Places -/
def idxK (kk : KK) (k : AV) : List (AV × AV) → Option (Option Nat)
  | [] => some none
  | (a, _) :: r => match eqKey kk k a with
    | some true => some (some 0)
    | some false => (idxK kk k r).map fun i => i.map (· + 1)
    | none => none
theorem lookK_idx (kk : KK) (k : AV) : ∀ m : List (AV × AV), lookK kk k m = (idxK kk k m).map fun i => i.bind fun i => m[i]?.map (·.2)
  | [] => rfl
  | (a, v) :: r => by
    simp only [lookK, idxK]
    cases he : eqKey kk k a with
    | none => simp
    | some b =>
      cases b with
      | true => simp
      | false =>
        simp only [lookK_idx kk k r]
        cases idxK kk k r with
        | none => rfl
        | some i => cases i <;> simp
theorem setK_idx (kk : KK) (k v : AV) : ∀ m : List (AV × AV), setK kk k v m = (idxK kk k m).map fun i => match i with | some i => m.modify i (fun _ => (k, v)) | none => m ++ [(k, v)]
  | [] => rfl
  | (a, u) :: r => by
    simp only [setK, idxK]
    cases he : eqKey kk k a with
    | none => simp
    | some b =>
      cases b with
      | true => simp
      | false =>
        simp only [setK_idx kk k v r]
        cases idxK kk k r with
        | none => rfl
        | some i => cases i <;> simp
theorem delK_idx (kk : KK) (k : AV) : ∀ m : List (AV × AV), delK kk k m = (idxK kk k m).map fun i => match i with | some i => m.eraseIdx i | none => m
  | [] => rfl
  | (a, u) :: r => by
    simp only [delK, idxK]
    cases he : eqKey kk k a with
    | none => simp
    | some b =>
      cases b with
      | true => simp
      | false =>
        simp only [delK_idx kk k r]
        cases idxK kk k r with
        | none => rfl
        | some i => cases i <;> simp
theorem entK_idx (kk : KK) (k z : AV) : ∀ m : List (AV × AV), entK kk k z m = (idxK kk k m).map fun i => match i with | some i => ((m[i]?.map (·.2)).getD z, i, m.modify i (fun p => (k, p.2))) | none => (z, m.length, m ++ [(k, z)])
  | [] => rfl
  | (a, u) :: r => by
    simp only [entK, idxK]
    cases he : eqKey kk k a with
    | none => simp
    | some b =>
      cases b with
      | true => simp
      | false =>
        simp only [entK_idx kk k z r]
        cases idxK kk k r with
        | none => rfl
        | some i => cases i <;> simp
theorem idxK_lt (kk : KK) (k : AV) : ∀ {m : List (AV × AV)} {i : Nat}, idxK kk k m = some (some i) → i < m.length ∧ ∃ p, m[i]? = some p ∧ eqKey kk k p.1 = some true
  | [], i, h => by simp [idxK] at h
  | (a, v) :: r, i, h => by
    simp only [idxK] at h
    split at h
    · rename_i he
      simp at h; subst h
      exact ⟨by simp, _, rfl, he⟩
    · simp only [Option.map_eq_some_iff] at h
      obtain ⟨j, h1, h2⟩ := h
      cases j with
      | none => simp at h2
      | some j =>
        simp at h2; subst h2
        obtain ⟨q1, p, q2, q3⟩ := idxK_lt kk k h1
        exact ⟨by simp; omega, p, by simpa using q2, q3⟩
    · simp at h
def RelM (K : Gh) (m : List (AV × AV)) (es : List MapEntry) : Prop := m.length = es.length ∧ ∀ i, (h : i < m.length) → (h' : i < es.length) → Rel K m[i].1 es[i].key ∧ Rel K m[i].2 es[i].val
theorem RelM.cons_inv {K : Gh} {p m es} (h : RelM K (p :: m) es) : ∃ e r, es = e :: r ∧ (Rel K p.1 e.key ∧ Rel K p.2 e.val) ∧ RelM K m r := by
  cases es with
  | nil => simp [RelM] at h
  | cons e r =>
    refine ⟨e, r, rfl, h.2 0 (by simp) (by simp), by simpa using h.1, fun i h1 h2 => ?_⟩
    exact h.2 (i + 1) (by simpa using h1) (by simpa using h2)
def foundAt (es : List MapEntry) (i0 : Nat) : Option Nat → Option (Nat × Value) := fun i => i.map fun i => (i0 + i, (es[i]?.map (·.val)).getD undef)
theorem run_asking {K : Gh} {t : TypeId} {kk : KK} {k : AV} {v : Value} (hk : kkOf P t = some kk) (hr : Rel K k v) (w : World) : ∀ {m : List (AV × AV)} {es : List MapEntry} {i : Option Nat} (i0 : Nat), RelM K m es → idxK kk k m = some i →
    (Instr.findAsking t v es i0).run P w = .ok (foundAt es i0 i) w
  | [], es, i, i0, hm, h => by
    obtain rfl : es = [] := by simpa using hm.1.symm
    simp [idxK] at h; subst h
    rfl
  | (a, u) :: m, es, i, i0, hm, h => by
    obtain ⟨e, r, rfl, ⟨h1, h2⟩, h3⟩ := hm.cons_inv
    simp only [idxK] at h
    split at h
    · rename_i he
      simp at h; subst h
      simp only [Instr.findAsking, Sem.run_bind, run_eqKey hk hr h1 he w, Result.andThen_ok, if_true, Sem.run_pure]
      simp [foundAt]
    · rename_i he
      simp only [Option.map_eq_some_iff] at h
      obtain ⟨j, h4, rfl⟩ := h
      have ih := run_asking hk hr w (i0 + 1) h3 h4
      simp only [Instr.findAsking, Sem.run_bind, run_eqKey hk hr h1 he w, Result.andThen_ok, Bool.false_eq_true, if_false]
      rw [ih]
      cases j with
      | none => rfl
      | some j => simp [foundAt]; omega
    · simp at h
theorem sameNow_eq {K : Gh} {t : TypeId} {d : TypeDesc} {n : Nat} {a b : AV} {va vb : Value} {r : Bool} (hd : P.underlying t = some d) (hk : kindOf P t = some n) (ha : Rel K a va) (hb : Rel K b vb) (h : eq1 n a b = some r) : Instr.sameNow d va vb = some r := by
  unfold kindOf at hk
  rw [hd] at hk
  cases d <;> simp at hk <;> subst hk <;> (cases a <;> cases b <;> simp [eq1] at h)
  · subst h
    rw [rel_bool ha, rel_bool hb]; simp [Instr.sameNow]
  · obtain ⟨rfl, rfl⟩ := h
    rw [rel_int ha, rel_int hb]; simp [Instr.sameNow]
  · subst h
    rw [rel_str ha, rel_str hb]
    simp only [Instr.sameNow, Option.some.injEq]
    rw [Bool.eq_iff_iff]
    simp only [MapKept.bytes_beq, beq_iff_eq]
    exact ⟨fun e => by rw [e], bytes_inj⟩
theorem run_now {K : Gh} {t : TypeId} {d : TypeDesc} {n : Nat} {k : AV} {v : Value} (hd : P.underlying t = some d) (hk : kindOf P t = some n) (hr : Rel K k v) : ∀ {m : List (AV × AV)} {es : List MapEntry} {i : Option Nat} (i0 : Nat), RelM K m es → idxK (.one n) k m = some i →
    Instr.findNow d v es i0 = some (foundAt es i0 i)
  | [], es, i, i0, hm, h => by
    obtain rfl : es = [] := by simpa using hm.1.symm
    simp [idxK] at h; subst h
    rfl
  | (a, u) :: m, es, i, i0, hm, h => by
    obtain ⟨e, r, rfl, ⟨h1, h2⟩, h3⟩ := hm.cons_inv
    simp only [idxK] at h
    split at h
    · rename_i he
      simp at h; subst h
      simp only [Instr.findNow, sameNow_eq hd hk hr h1 he]
      simp [foundAt]
    · rename_i he
      simp only [Option.map_eq_some_iff] at h
      obtain ⟨j, h4, rfl⟩ := h
      have ih := run_now hd hk hr (i0 + 1) h3 h4
      simp only [Instr.findNow, sameNow_eq hd hk hr h1 he]
      rw [ih]
      cases j with
      | none => rfl
      | some j => simp [foundAt]; omega
    · simp at h
theorem run_find {K : Gh} {t : TypeId} {kk : KK} {k : AV} {v : Value} (hk : kkOf P t = some kk) (hr : Rel K k v) (w : World) {m : List (AV × AV)} {es : List MapEntry} {i : Option Nat} (hm : RelM K m es) (h : idxK kk k m = some i) :
    (Instr.findKey t v es).run P w = .ok (foundAt es 0 i) w := by
  rcases kkOf_cases hk with ⟨n, rfl, hn⟩ | ⟨ks, rfl, hks⟩
  · obtain ⟨d, hd⟩ : ∃ d, P.underlying t = some d := by
      unfold kindOf at hn
      cases hu : P.underlying t with
      | none => rw [hu] at hn; simp at hn
      | some d => exact ⟨d, rfl⟩
    exact MapKept.run_findKey hd (run_now hd hn hr 0 hm h)
  · have hw : (match P.underlying t with | some (.array _ _) | some (.struct _) => true | _ => false) = true := by
      unfold plainEq at hks
      split at hks
      · rename_i hu; rw [hu]
      · rename_i hu; rw [hu]
      · simp at hks
    rw [run_findKey_eq w hw v es]
    exact run_asking hk hr w 0 hm h
end
end Abs

