/- The abstraction layer, part R: rows that may be written: made, grown, frozen; growth names for slices. Over any program. -/
import Derived.Test.YtjichkelfhcbcaaAbsQ
import Derived.Test.YtjichkelfhcbcaaAbsV
set_option linter.unusedSimpArgs false
set_option linter.unusedVariables false
namespace Abs
open Go

theorem VecOk.new {K : Gh} {o b cap sz n : Nat} (h : K.own o = some (.vec b cap sz n)) : VecOk K o n b cap := ⟨b, cap, sz, n, .inl h, Nat.le_refl n, fun _ => ⟨rfl, rfl⟩⟩

def RelC (K : Gh) (cs : List AV) (cells : Array Value) : Prop := cs.length ≤ cells.size ∧ ∀ i, (h : i < cs.length) → (h' : i < cells.size) → Rel K cs[i] cells[i] ∧ cells[i].oneCell' = true

theorem RelC.mono {K K' : Gh} (hK : K.le K') {cs : List AV} {cells : Array Value} (h : RelC K cs cells) : RelC K' cs cells := ⟨h.1, fun i h1 h2 => ⟨(h.2 i h1 h2).1.mono hK, (h.2 i h1 h2).2⟩⟩

theorem relC_of {K : Gh} {cs : List AV} {vs Z : List Value} (hr : RelL K cs vs) (h1 : ∀ u ∈ vs, u.oneCell' = true) : RelC K cs (vs ++ Z).toArray := by
  have hl := hr.1
  refine ⟨by simp; omega, fun i h h' => ?_⟩
  have hi : i < vs.length := by omega
  have e : (vs ++ Z).toArray[i] = vs[i] := by simp [List.getElem_append_left, hi]
  rw [e]
  exact ⟨hr.2 i h hi, h1 _ (List.getElem_mem hi)⟩

theorem relC_arr {K : Gh} {cs : List AV} {us vs : List Value} {Z : Array Value} (hr : RelL K cs (us ++ vs)) (h1 : ∀ u ∈ us ++ vs, u.oneCell' = true) : RelC K cs (us.toArray ++ vs.toArray ++ Z) := by
  have e : (us ++ vs ++ Z.toList).toArray = us.toArray ++ vs.toArray ++ Z := Array.ext' (by simp)
  rw [← e]; exact relC_of hr h1

section
variable {σ : Sig}

theorem Sat.vecNew {K : Gh} {w} (hs : Sat K σ w) (cells : Array Value) (el : TypeId) {cs : List AV} {sz cap n : Nat} (hcap : cells.size = cap * sz) (hn : n ≤ cap) (hlen : cs.length = n * sz) (hr : RelC K cs cells)
    {o : Nat} (ho : K.own o = none) {S : Nat → Prop} (hS : ¬ S o) : ∃ K', K.leS S K' ∧ Rel K' (.vec o n) (.slice (some ⟨w.heap.size, 0, none⟩) n cap) ∧ Sat K' (upd σ o (.vec sz n cs)) (w.drew.alloc (.cells cells el)) := by
  have hs' : Sat K σ w.drew := hs.same rfl rfl rfl rfl
  have hp : Pushed w.drew (w.drew.alloc (.cells cells el)) (.cells cells el) := ⟨rfl, rfl, rfl, rfl⟩
  have hle0 := (hs'.push hp rfl (fun _ => none) (fun i v e => by simp at e)).1
  obtain ⟨h1, h2⟩ := hs'.pushName hp rfl (fun _ => none) (fun i v e => by simp at e) ho (.vec w.drew.heap.size cap sz n) rfl (.vec sz n cs)
    ⟨rfl, rfl, hlen, hn, by show K.base.heap.size ≤ _; exact hs'.size, ⟨cells, el, hp.new, hcap, fun i q1 q2 => ⟨(hr.2 i q1 q2).1.mono hle0, (hr.2 i q1 q2).2⟩⟩, fun i => by simp [Gh.claimed]⟩
  refine ⟨_, ⟨h1, fun o' hs' hn => ?_⟩, .vec o n _ cap (VecOk.new (sz := sz) (by simp [Gh.named])) hn, h2⟩
  have : o' ≠ o := fun e => hS (e ▸ hs')
  simp [Gh.named, Gh.claimed, this, hn]

theorem Sat.vecOld {K : Gh} {w} (hs : Sat K σ w) (cells : Array Value) (el : TypeId) {cs cs0 : List AV} {sz cap n n0 b0 cap0 : Nat} (hcap : cells.size = cap * sz) (hn : n ≤ cap) (hlen : cs.length = n * sz) (hr : RelC K cs cells)
    {o : Nat} (ho : σ o = some (.vec sz n0 cs0)) (hown : K.own o = some (.vec b0 cap0 sz n0)) (hlt : n0 < n) (S : Nat → Prop) :
    ∃ K', K.leS S K' ∧ Rel K' (.vec o n) (.slice (some ⟨w.heap.size, 0, none⟩) n cap) ∧ Sat K' (upd σ o (.vec sz n cs)) (w.drew.alloc (.cells cells el)) := by
  have hs' : Sat K σ w.drew := hs.same rfl rfl rfl rfl
  have hp : Pushed w.drew (w.drew.alloc (.cells cells el)) (.cells cells el) := ⟨rfl, rfl, rfl, rfl⟩
  obtain ⟨hle0, h5⟩ := hs'.push hp rfl (fun _ => none) (fun i v e => by simp at e)
  let K1 := K.claimed w.drew.heap.size fun _ => none
  have e1 : K1.own = K.own := rfl
  let K2 : Gh := { K1 with own := fun i => if i = o then some (.vec w.drew.heap.size cap sz n) else K1.own i }
  have hle2 : K1.le K2 := Gh.le_renamed (e := .vec b0 cap0 sz n0) (e' := .vec w.drew.heap.size cap sz n) rfl (fun _ _ _ e => e) hown (by simp [K2]) ⟨rfl, by omega, fun e => by omega⟩ (fun o' h => by simp [K2, h])
  have hs2 : Sat K2 (upd σ o (.vec sz n cs)) (w.drew.alloc (.cells cells el)) := by
    refine h5.move (e := .vec b0 cap0 sz n0) (e' := .vec w.drew.heap.size cap sz n) hle2 rfl ho hown (fun o' h => by simp [K2, K1, h]) (by simp [K2])
      ⟨rfl, rfl, hlen, hn, by show K.base.heap.size ≤ _; exact hs'.size, ⟨cells, el, hp.new, hcap, fun i q1 q2 => ⟨(hr.2 i q1 q2).1.mono (hle0.trans hle2), (hr.2 i q1 q2).2⟩⟩, fun i => by simp [K2, K1, Gh.claimed]⟩ (fun o' y e'' r1 r2 hr _ => ?_)
    obtain ⟨e3, r3, r4⟩ := hs'.live o' y r1
    have : e3 = e'' := by
      have r2' : K.own o' = some e'' := r2
      simp_all
    subst this
    exact Nat.ne_of_lt (r4.blk_lt hr)
  refine ⟨K2, ⟨hle0.trans hle2, fun o' _ hn => ?_⟩, .vec o n _ cap (VecOk.new (sz := sz) (by simp [K2])) hn, hs2⟩
  have : o' ≠ o := fun e => by subst e; rw [hown] at hn; simp at hn
  simp only [K2, this, if_false]; exact hn
end

section ops
variable {P : Program} {o : Oper} {N : Nat} {env : Env} {σ : Sig} {nm : Nat} {R : AV → Option (Nat × AObj) → Prop}

theorem ok_vmake {t l c e i g n z al ac} (ho : o.op = .makeSlice t l c) (ht : P.underlying t = some (.slice e)) (hi : P.info? e = some i) (hr : readOf P e = some (g, n)) (hz : zeroOf P e = some z) (hzn : z.length = n) (hn0 : 0 < n) (hby0 : 0 < i.bytes)
    (hl : trOpnd l = some al) (hc : trOpnd c = some ac) (h : exOpN nm env σ R (.ext (.vmake n i.bytes z g al ac))) : OpOk P o N env σ nm R := by
  intro S K a w hf hs hnm hS
  obtain ⟨lv, h1, h2⟩ := wth_some h
  obtain ⟨cv, h3, h4⟩ := wth_some h2
  obtain ⟨ev, h5, h7⟩ := wth_some h4
  have rl := trOpnd_rel hl h1 hf
  have rc := trOpnd_rel hc h3 hf
  split at h7
  case h_2 => exact h7.elim
  rename_i ln cn
  obtain ⟨⟨h6, p4, p1, p2, p3⟩, p5⟩ := h7
  have el := rel_int rl
  have ec := rel_int rc
  obtain ⟨i', zv, hi', hzv, hzs⟩ := zerosOf (K := K) hz hzn
  obtain rfl : i' = i := by simp_all
  obtain ⟨_, hszn, _⟩ := readOf_some hr
  have hisz : i'.size = n := by simp [szOf, hi] at hszn; exact hszn
  have hzr : RelL K z zv.cells.toList := by
    unfold zeroOf at hz
    simp [hi, hzv] at hz
    exact ofFlats_rel hz
  obtain ⟨N1, hN⟩ : ∃ q : Nat, ln = (q : Int) := ⟨ln.toNat, by omega⟩
  obtain ⟨C1, hC⟩ : ∃ q : Nat, cn = (q : Int) := ⟨cn.toNat, by omega⟩
  subst hN; subst hC
  have hCb : C1 * i'.bytes ≤ 35184372088832 := by
    have : ((C1 * i'.bytes : Nat) : Int) ≤ 35184372088832 := by rw [Int.natCast_mul]; exact p3
    omega
  have hC1 : C1 ≤ 35184372088832 := by have := Nat.mul_le_mul_left C1 hby0; simp at this; omega
  have hrun := run_make (P := P) w t e i' zv ht hi hzv .i64 .i64 (N1 : Int) (C1 : Int) p1 p2 (by rw [Int.mul_comm]; omega) (by omega)
  simp only [Int.toNat_natCast] at hrun p5
  have hmade : (madeCells zv.cells (C1 * i'.size)).size = C1 * n := by rw [size_madeCells, hisz]
  have hNC : N1 ≤ C1 := by omega
  have hfl : (List.replicate N1 z).flatten.length = N1 * n := by simp [hzn]
  have hle := Nat.mul_le_mul_right n hNC
  obtain ⟨K', k2, k3, k4⟩ := hs.vecNew (madeCells zv.cells (C1 * i'.size)) e (cs := (List.replicate N1 z).flatten) (sz := n) (cap := C1) (n := N1) hmade hNC hfl
    ⟨by omega, fun i hi1 hi2 => by
      have hz0 : 0 < z.length := by omega
      have hm := Nat.mod_lt i hz0
      have e1 : zv.cells.size = z.length := by omega
      have e2 : (madeCells zv.cells (C1 * i'.size))[i] = zv.cells[i % z.length] := by
        simp only [madeCells, Array.getElem_map, Array.getElem_range, e1]
        rw [getElem!_pos zv.cells (i % z.length) (by omega)]
      have e3 : (List.replicate N1 z).flatten[i] = z[i % z.length] := by
        have := flatten_replicate_get z hz0 N1 i (by rw [hzn, ← hfl]; exact hi1)
        rw [List.getElem?_eq_getElem hi1, List.getElem?_eq_getElem hm] at this
        exact Option.some.inj this
      rw [e2, e3]
      have q1 := hzr.2 (i % z.length) hm (by simp; omega)
      have q2 := hzr.ones p4 (i % z.length) (by simp; omega)
      exact ⟨by simpa using q1, by simpa using q2⟩⟩ hnm hS
  refine ⟨K', _, some (nm, _), _, _, .inl ?_, k2, k3, k4.same (w' := w.alloc (.cells (madeCells zv.cells (C1 * i'.size)) e)) rfl rfl rfl rfl, p5⟩
  simp only [execOp, ho, Sem.run_bind, el, ec, hrun, Result.andThen_ok, Sem.run_pure]

theorem ok_bsliceG {t len ps e sz axs} (ho : o.op = .buildSlice t len ps) (hu : P.underlying t = some (.slice e)) (hsz : szOf P e = some sz) (hlen : len = ps.size) (hmax : len * sz ≤ 65536) {z} (hz : zeroOf P e = some z)
    (hps : trParts 0 ps.toList = some axs) (h : exOpN nm env σ R (.ext (.bsliceG sz axs))) : OpOk P o N env σ nm R := by
  intro S K a w hf hs hnm hS
  obtain ⟨l, h1, h0, h2⟩ := wthL_some h
  obtain ⟨k1, k2⟩ := trParts_spec hps
  have hr := trOpnds_rel hf k1 h1
  rw [List.map_map] at hr
  have hall : ∀ x ∈ l, (cellsA x).length = sz := fun x hx => by
    have := List.all_eq_true.1 h0 x hx
    simp at this; exact this.1
  have hone : (flat l).all oneA = true := by
    rw [List.all_eq_true]
    intro y hy
    rw [flat, List.mem_flatMap] at hy
    obtain ⟨x, hx, hy⟩ := hy
    have := List.all_eq_true.1 h0 x hx
    simp at this; exact this.2 y hy
  have hl : l.length = ps.size := by simpa using hr.1
  obtain ⟨zv, z1, z2, _⟩ := run_zeroValue' (K := K) hz w
  have hcs : ∀ p ∈ ps.toList, (a.eval p.2).cells.size = sz := fun p hp => by
    obtain ⟨i, hi, rfl⟩ := List.getElem_of_mem hp
    have hi' : i < l.length := by rw [hl]; simpa using hi
    have := (hr.2 i hi' (by simpa using hi)).cells.1
    simp at this
    have h3 := hall _ (List.getElem_mem hi')
    simp; omega
  have fin : ∀ zs : Array Value, ∃ cells', Instr.fill (fun i => some (i * sz, sz)) ((Array.range (len * sz)).map (zs[· % zs.size]!)) (ps.map fun (i, x) => (i, a.eval x)).toList = some cells' ∧ cells'.toList = ps.toList.flatMap fun p => (a.eval p.2).cells.toList := by
    intro zs
    obtain ⟨cells', e1, e2⟩ := fill_seq a sz ps.toList 0 [] ((Array.range (len * sz)).map (zs[· % zs.size]!)) k2 hcs (by simp) (by simp) (by simp [hlen])
    refine ⟨cells', ?_, by simpa using e2⟩
    have e3 : (ps.map fun (i, x) => (i, a.eval x)).toList = ps.toList.map fun (i, x) => (i, a.eval x) := by simp
    rw [e3]; exact e1
  have hrun : ∃ cells' : Array Value, (execOp a.eval o).run P w = .ok (.value (.slice (some ⟨w.heap.size, 0, none⟩) len len)) { w with heap := w.heap.push (.cells cells' e) } ∧ cells'.toList = ps.toList.flatMap fun p => (a.eval p.2).cells.toList := by
    by_cases h0 : len * sz = 0
    · obtain ⟨cells', e1, e2⟩ := fin #[]
      refine ⟨cells', ?_, e2⟩
      simp only [execOp, ho, Instr.buildSlice, Sem.run_bind, run_underlying' hu, Result.andThen_ok, run_sizeOf' hsz]
      rw [if_neg (by omega), if_pos h0]
      simp only [Sem.run_bind, Sem.run_pure, Result.andThen_ok]
      rw [e1]
      simp [Go.newRow]
    · obtain ⟨cells', e1, e2⟩ := fin zv.cells
      refine ⟨cells', ?_, e2⟩
      simp only [execOp, ho, Instr.buildSlice, Sem.run_bind, run_underlying' hu, Result.andThen_ok, run_sizeOf' hsz]
      rw [if_neg (by omega), if_neg h0]
      simp only [Sem.run_bind, Sem.run_pure, Result.andThen_ok, z1]
      rw [e1]
      simp [Go.newRow]
  obtain ⟨cells', hrun, e2⟩ := hrun
  have hfr : RelL K (flat l) cells'.toList := by
    have := flat_rel hr
    rw [e2]
    rw [List.flatMap_map] at this
    exact this
  have hcl : (flat l).length = cells'.size := by simpa using hfr.1
  have hfl := flat_length hall
  obtain ⟨K', q2, q3, q4⟩ := hs.grownNew cells' e (l := l) (sz := sz) (cap := l.length) (by omega) (Nat.le_refl _) hall (fun i i1 i2 => by
    have := hfr.2 i i1 (by simpa using i2)
    simpa using this) (fun i i1 i2 => by
    have := hfr.ones hone i (by simpa using i2)
    simpa using this) hnm hS
  refine ⟨K', _, some (nm, _), _, _, .inl hrun, q2, ?_, q4.same (w' := { w with heap := w.heap.push (.cells cells' e) }) rfl rfl rfl rfl, h2⟩
  rw [hlen, ← hl]; exact q3

theorem unflat_spec {K : Gh} {g : Bool} {sz : Nat} : ∀ {n : Nat} {cs : List AV} {l : List AV}, unflat g sz n cs = some l → cs.length = n * sz → (g = false → sz = 1) → (∀ x ∈ cs, oneA x = true) → l.length = n ∧ flat l = cs ∧ ∀ x ∈ l, (cellsA x).length = sz
  | 0, cs, l, h, hl, _, _ => by
    simp [unflat] at h; subst h
    simp at hl; subst hl
    exact ⟨rfl, rfl, by simp⟩
  | n + 1, cs, l, h, hl, hg, h1 => by
    simp only [unflat] at h
    split at h <;> simp at h
    rename_i a l' ha hl'
    subst h
    have hsz : (cs.take sz).length = sz := by simp [hl, Nat.succ_mul]
    have hc : cellsA a = cs.take sz := by
      cases g with
      | true => simp [mkv] at ha; subst ha; rfl
      | false =>
        obtain rfl := hg rfl
        cases cs with
        | nil => simp [mkv] at ha
        | cons x cs =>
          simp [mkv] at ha
          subst ha
          simp only [List.take_succ_cons, List.take_zero]
          exact cells_one (h1 x (by simp))
    obtain ⟨q1, q2, q3⟩ := unflat_spec (K := K) hl' (by simp [hl, Nat.succ_mul]) hg (fun x hx => h1 x (List.mem_of_mem_drop hx))
    refine ⟨by simp [q1], ?_, ?_⟩
    · rw [flat_cons, q2, hc, List.take_append_drop]
    · intro x hx
      rcases List.mem_cons.1 hx with rfl | hx
      · rw [hc]; exact hsz
      · exact q3 x hx

theorem rel_one {K : Gh} {a : AV} {v : Value} (h : Rel K a v) (h1 : v.oneCell' = true) : oneA a = true := by
  cases h <;> first | rfl | (simp [Value.oneCell'] at h1)

theorem Sat.freeze {K : Gh} {w} (hs : Sat K σ w) {ob b cap sz n : Nat} {cs l : List AV} (hl : σ ob = some (.vec sz n cs)) (hown : K.own ob = some (.vec b cap sz n)) (hfl : flat l = cs) (hll : l.length = n) (hall : ∀ x ∈ l, (cellsA x).length = sz) (S : Nat → Prop) :
    ∃ K', K.leS S K' ∧ Rel K' (.slice l (.own ob)) (.slice (some ⟨b, 0, none⟩) n cap) ∧ Sat K' (upd σ ob (.grow sz n)) w := by
  obtain ⟨e0, h1, h2⟩ := hs.live ob _ hl
  rw [hown] at h1; cases h1
  simp only [ObjSat] at h2
  obtain ⟨_, _, h3, h4, h5, ⟨c, el, h6, h7, h8⟩, h9⟩ := h2
  have hle := Nat.mul_le_mul_right sz h4
  let cl : Nat → Option Value := fun i => if i < n * sz then c[i]? else none
  let K2 : Gh := { base := K.base, ds := K.ds, claim := fun b' i => if b' = b then cl i else K.claim b' i, own := fun i => if i = ob then some (.buf b cap sz n) else K.own i }
  have hle2 : K.le K2 := Gh.le_renamed (o := ob) (e := .vec b cap sz n) (e' := .buf b cap sz n) rfl (fun b' i v hv => by
      show (if b' = b then cl i else K.claim b' i) = some v
      split
      · rename_i hb; subst hb; rw [h9 i] at hv; simp at hv
      · exact hv) hown (by simp [K2]) ⟨rfl, Nat.le_refl n, fun _ => ⟨rfl, rfl⟩⟩ (fun o' h => by simp [K2, h])
  have hcell : ∀ i v, cl i = some v → w.cell? ⟨b, i, none⟩ = some v ∧ v.oneCell' = true := fun i v hv => by
    simp only [cl] at hv
    split at hv
    · rename_i hi
      have hic : i < c.size := by omega
      refine ⟨by simp [World.cell?, h6]; exact hv, ?_⟩
      rw [Array.getElem?_eq_getElem hic] at hv
      simp only [Option.some.injEq] at hv
      rw [← hv]; exact (h8 i (by omega) hic).2
    · simp at hv
  refine ⟨K2, ⟨hle2, fun o' _ hn => ?_⟩, ?_, ?_⟩
  · have : o' ≠ ob := fun e => by subst e; rw [hown] at hn; simp at hn
    simp [K2, this, hn]
  · rw [← hll]
    refine rel_newest (K' := K2) (cells := c) (by omega) hall (fun i hi => ?_) (fun i i1 i2 => ?_) (by rw [hfl]; omega) (by simp [K2, hll])
    · show (if b = b then cl i else K.claim b i) = _
      rw [if_pos rfl]
      have : i < n * sz := by rw [hfl] at hi; omega
      simp [cl, this]
    · have := (h8 i (by rw [hfl] at i1; exact i1) i2).1.mono hle2
      simpa [hfl] using this
  · refine hs.write (e := .vec b cap sz n) (e' := .buf b cap sz n) hle2 hl hown rfl (fun o' h => by simp [K2, h]) (by simp [K2]) rfl rfl rfl rfl rfl (fun _ _ => rfl) (fun i => frozen_loose h6 rfl) (fun i v hv => ?_) (fun b' i hb' => ?_)
      ⟨rfl, rfl, h4, h5, ⟨c, el, h6, h7⟩, fun i hi => ?_⟩
    · have hv' : (if b = b then cl i else K.claim b i) = some v := hv
      rw [if_pos rfl] at hv'
      exact hcell i v hv'
    · have hb2 : ¬ b' = b := hb'
      show (if b' = b then cl i else K.claim b' i) = _
      rw [if_neg hb2]
    · show (if b = b then cl i else K.claim b i) = none
      rw [if_pos rfl]
      simp only [cl]
      rw [if_neg (by omega)]

theorem vec_at {K : Gh} {w : World} (hs : Sat K σ w) {ob n sz : Nat} {cs : List AV} {v : Value} (hl : σ ob = some (.vec sz n cs)) (hr : Rel K (.vec ob n) v) :
    ∃ b cap, v = .slice (some ⟨b, 0, none⟩) n cap ∧ K.own ob = some (.vec b cap sz n) ∧ n ≤ cap ∧ cs.length = n * sz ∧ K.base.heap.size ≤ b ∧ (∃ c el, w.heap[b]? = some (.cells c el (0, 0)) ∧ c.size = cap * sz ∧ RelC K cs c) ∧ ∀ i, K.claim b i = none := by
  obtain ⟨b, cap, he, hv, hle⟩ := rel_vec hr
  obtain ⟨e0, h1, h2⟩ := hs.live ob _ hl
  cases e0 <;> simp only [ObjSat] at h2
  obtain ⟨rfl, rfl, h3, h4, h5, ⟨c, el, h6, h7, h8⟩, h9⟩ := h2
  obtain ⟨b', cap', sz', n', hv | hv, v2, v3⟩ := hv
  · rw [h1] at hv
    simp only [Option.some.injEq, Own.vec.injEq] at hv
    obtain ⟨rfl, rfl, rfl, rfl⟩ := hv
    obtain ⟨rfl, rfl⟩ := v3 rfl
    exact ⟨_, _, he, h1, h4, h3, h5, ⟨c, el, h6, h7, by rw [h3, h7]; exact Nat.mul_le_mul_right _ h4, h8⟩, h9⟩
  · rw [h1] at hv; simp at hv

theorem ok_vfrz {x ax g} (ho : o.op = .move x ∨ o.op = .assign x) (hx : trOpnd x = some ax) (h : exOpN nm env σ R (.ext (.vfrz g ax))) : OpOk P o N env σ nm R := by
  intro S K a w hf hs hnm hS
  obtain ⟨av, h1, h2⟩ := wth_some h
  have rx := trOpnd_rel hx h1 hf
  cases av <;> simp only [] at h2 <;> first | exact h2.elim | skip
  rename_i ob len
  split at h2
  · rename_i sz n cs hl
    obtain ⟨⟨rfl, hg⟩, h3⟩ := h2
    obtain ⟨l, h4, h5⟩ := lkm_some h3
    obtain ⟨b, cap, he, hown, hle, hlen, _, ⟨c, el, hc1, hc2, hc3⟩, _⟩ := vec_at hs hl rx
    have hone : ∀ y ∈ cs, oneA y = true := fun y hy => by
      obtain ⟨i, hi, rfl⟩ := List.getElem_of_mem hy
      have := (hc3.2 i hi (by have := hc3.1; omega))
      exact rel_one this.1 this.2
    obtain ⟨q1, q2, q3⟩ := unflat_spec (K := K) h4 hlen hg hone
    obtain ⟨K', k1, k2, k3⟩ := hs.freeze hl hown q2 q1 q3 S
    refine ⟨K', .slice l (.own ob), some (ob, _), a.eval x, w, .inl ?_, k1, by rw [he]; exact k2, k3, h5⟩
    rcases ho with ho | ho <;> simp [execOp, ho]
  · exact h2.elim

theorem ok_retok {x ax sz} (ho : o.op = .move x ∨ o.op = .assign x) (hx : trOpnd x = some ax) (h : exOpN nm env σ R (.ext (.retok sz ax))) : OpOk P o N env σ nm R := by
  intro S K a w hf hs hnm hS
  obtain ⟨av, h1, h2⟩ := wth_some h
  have rx := trOpnd_rel hx h1 hf
  have exe : (execOp a.eval o).run P w = .ok (.value (a.eval x)) w := by rcases ho with ho | ho <;> simp [execOp, ho]
  have hσ : ∀ o', σ o' ≠ none → o' ≠ nm := fun o' h e => h (by rw [e]; exact hs.fresh hnm)
  split at h2
  · rename_i l
    obtain ⟨⟨h3, h4⟩, h5⟩ := h2
    obtain ⟨k1, k2⟩ := hs.name hnm (.full sz l.length) (.grow sz l.length) ⟨rfl, rfl⟩ (fun o' x' e' _ _ _ h => by simp [Own.real] at h)
    refine ⟨_, _, some (nm, _), _, _, .inl exe, ⟨k1, fun o' hs' hn => ?_⟩, ?_, k2, h5⟩
    · have : o' ≠ nm := fun e => hS (e ▸ hs')
      simp [Gh.named, this, hn]
    · rcases rel_slice rx with ⟨a', cap', he, rfl, _⟩ | ⟨b, off, cap, sz', u, he, q1, q2, q3, q4, q5⟩
      · simp at h4
      · have hsz : sz' = sz := by
          obtain ⟨y, hy⟩ := List.exists_mem_of_length_pos h4
          rw [← q1 y hy, ← h3 y hy]
        subst hsz
        rw [he]
        refine Rel.slice l _ b off cap sz' u q1 q2 (fun i h => (q3 i h).mono k1) ?_ q5
        exact .inr ⟨l.length, by simp [Gh.named], Nat.le_refl _, fun _ => q4⟩
  · obtain ⟨k1, k2⟩ := hs.name hnm (.virt sz) (.grow sz 0) ⟨rfl, rfl⟩ (fun o' x' e' _ _ _ h => by simp [Own.real] at h)
    refine ⟨_, _, some (nm, _), _, _, .inl exe, ⟨k1, fun o' hs' hn => ?_⟩, ?_, k2, h2⟩
    · have : o' ≠ nm := fun e => hS (e ▸ hs')
      simp [Gh.named, this, hn]
    · rcases rel_slice rx with ⟨a', cap', he, _, ht⟩ | ⟨b, off, cap, sz', u, he, q1, q2, q3, q4, q5⟩
      · simp at ht
        obtain ⟨rfl, rfl⟩ := ht
        rw [he]
        exact .sl0 none 0 _ (.inr (.inr (.inr ⟨rfl, rfl, nm, rfl, sz, .inl (by simp [Gh.named])⟩)))
      · exact q4.elim
  · exact h2.elim

theorem ok_vapp {t u s x e i z as ax} (ho : o.op = .call { callee := .builtin .append, args := #[s, x], argTypes := #[t, u] }) (ht : P.underlying t = some (.slice e)) (htu : t = u) (hi : P.info? e = some i)
    (hz : zeroOf P e = some z) (hby0 : 0 < i.bytes) (hby : i.bytes ≤ 4096) (hzl : z.length = i.size) (hs1 : trOpnd s = some as) (hx1 : trOpnd x = some ax) (h : exOpN nm env σ R (.ext (.vapp i.size i.bytes as ax))) : OpOk P o N env σ nm R := by
  subst htu
  intro S K a w hf hs hnm hS
  obtain ⟨sv, h1, h2⟩ := wth_some h
  obtain ⟨xv, h3, h4⟩ := wth_some h2
  have rs := trOpnd_rel hs1 h1 hf
  have rx := trOpnd_rel hx1 h3 hf
  obtain ⟨i', zv, hi', hzv, hzs⟩ := zerosOf (K := K) hz hzl
  obtain rfl : i' = i := by simp_all
  have zsz : ∀ k, (Builtin.zeroCells zv.cells k).size = k * i'.size := fun k => by rw [size_zeroCells, hzs]
  have exe : ∀ {v : Value} {w' : World}, (Builtin.append_ #[t, t] o.type #[a.eval s, a.eval x]).run P w = .ok v w' → (execOp a.eval o).run P w = .ok (.value v) w' := by
    intro v w' he
    simp only [execOp, ho, resolve, invoke, Go.builtin, Sem.run_bind, Sem.run_pure, Result.andThen_ok]
    have e2 : #[s, x].map a.eval = #[a.eval s, a.eval x] := by simp
    simp only [e2, he, Result.andThen_ok]
  split at h4
  · -- a row that may be written
    rename_i ob len m tk
    split at h4
    · rename_i sz' n cs hl
      obtain ⟨⟨rfl, rfl, hm, hb⟩, h5⟩ := h4
      obtain ⟨b0, cap, he, hown, hle, hlen, hbase, ⟨c, el, hc1, hc2, hc3⟩, hcl⟩ := vec_at hs hl rs
      obtain ⟨xa, xc, hxe, hxs⟩ := src_reads hs rx hm
      have hml := flat_length hm
      have hlsz := Nat.mul_le_mul_right i'.size hle
      by_cases hm0 : m = []
      · subst hm0
        have e1 : upd σ ob (.vec i'.size (len + ([] : List AV).length) (cs ++ flat [])) = σ := by
          funext j; simp only [upd]; split
          · rename_i hj; rw [hj, hl]; simp [flat_nil]
          · rfl
        refine ⟨K, .vec ob (len + ([] : List AV).length), some (ob, .vec i'.size (len + ([] : List AV).length) (cs ++ flat [])), a.eval s, w, .inl (exe ?_), Gh.leS.refl K, rs, ?_, h5⟩
        · rw [hxe, he]
          exact append_zero t o.type ht hi _ len cap hle xa xc w
        · show Sat K (upd σ ob _) w
          rw [e1]; exact hs
      have hmpos : 0 < m.length := List.length_pos_iff.2 hm0
      rcases hxs with hxs | ⟨b, off, rfl, news, m1, m2, m3, m4⟩
      · omega
      have hbm : (len + m.length) * i'.bytes ≤ 140737488355328 := by omega
      have h63 : ((len + m.length : Nat) : Int) ≤ 9223372036854775807 := by
        have := Nat.mul_le_mul_left (len + m.length) hby0; simp at this; omega
      have hcl0 := hc3.1
      let olds : List Value := c.toList.take (len * i'.size)
      have o1 : olds.length = len * i'.size := by simp [olds]; omega
      have o2 : RelL K cs olds := ⟨by omega, fun i i1 i2 => by
        have := (hc3.2 i i1 (by omega)).1
        simpa [olds] using this⟩
      have o3 : ∀ v ∈ olds, v.oneCell' = true := fun v hv => by
        obtain ⟨i, hi, rfl⟩ := List.getElem_of_mem hv
        have := (hc3.2 i (by omega) (by omega)).2
        simpa [olds] using this
      have o4 : ∀ j v, olds[j]? = some v → w.cell? ((⟨b0, 0, none⟩ : Addr).add j) = some v := fun j v hj => by
        rw [add_none, Nat.zero_add]
        simp only [olds, List.getElem?_take] at hj
        split at hj
        · simp only [World.cell?, hc1]
          simpa using hj
        · simp at hj
      have rn : RelL K (cs ++ flat m) (olds ++ news) := o2.append m2
      have rone : ∀ u ∈ olds ++ news, u.oneCell' = true := fun u hu => by
        rcases List.mem_append.1 hu with h | h
        · exact o3 u h
        · exact m3 u h
      have hlen2 : (cs ++ flat m).length = (len + m.length) * i'.size := by rw [List.length_append, hlen, hml, Nat.add_mul]
      by_cases hroom : len + m.length ≤ cap
      · have hfit : len * i'.size + news.length ≤ c.size := by
          rw [hc2, m1, ← Nat.add_mul]; exact Nat.mul_le_mul_right _ hroom
        let cells' : Array Value := ((olds ++ news) ++ c.toList.drop (len * i'.size + news.length)).toArray
        have hf := run_firstCells_some (P := P) w i'.size m.length ⟨b, off, none⟩ m.length xc news m1 m4
        have hst := run_storeCells_at P b0 (len * i'.size) el news 0 c w hc1 (by simpa using hfit) m3
        simp only [Nat.add_zero] at hst
        have hst' : (storeCells ⟨b0, len * i'.size, none⟩ news).run P w = .ok () (w.setRow b0 cells') := by
          rw [hst]
        have hrun : (Builtin.append_ #[t, t] o.type #[.slice (some ⟨b0, 0, none⟩) len cap, .slice (some ⟨b, off, none⟩) m.length xc]).run P w =
            .ok (.slice (some ⟨b0, 0, none⟩) (len + m.length) cap) (w.setRow b0 cells') := by
          simp [Builtin.append_, run_underlying' ht, Go.sizeOf, typeInfo, hi, Builtin.lenOf, hroom, hf, add_none, hst']
        let K2 : Gh := { K with own := fun i => if i = ob then some (.vec b0 cap i'.size (len + m.length)) else K.own i }
        have hcs : cells'.size = c.size := by simp [cells', o1]; omega
        have hle2 : K.le K2 := Gh.le_renamed (o := ob) (e := .vec b0 cap i'.size len) (e' := .vec b0 cap i'.size (len + m.length)) rfl (fun _ _ _ h => h) hown (by simp [K2]) ⟨rfl, by simp, fun _ => ⟨rfl, rfl⟩⟩ (fun o' h => by simp [K2, h])
        have hheap := setRow_heap w b0 c cells' el (0, 0) hc1
        have hrc : RelC K2 (cs ++ flat m) cells' := (relC_of rn rone).mono hle2
        refine ⟨K2, _, some (ob, _), _, _, .inl (exe (by rw [he, hxe]; exact hrun)), ⟨hle2, fun o' _ hn => ?_⟩, .vec ob _ b0 cap (VecOk.new (sz := i'.size) (by simp [K2])) hroom, ?_, h5⟩
        · have : o' ≠ ob := fun e => by subst e; rw [hown] at hn; simp at hn
          simp [K2, this, hn]
        · refine hs.write (e := .vec b0 cap i'.size len) (e' := .vec b0 cap i'.size (len + m.length)) hle2 hl hown rfl (fun o' h => by simp [K2, h]) (by simp [K2]) rfl rfl rfl rfl (by simp) (fun b' hb' => setRow_other w _ b' cells' hb')
            (fun i => frozen_loose hheap rfl) (fun i v hv => ?_) (fun b' i hb' => rfl) ⟨rfl, rfl, hlen2, hroom, hbase, ⟨cells', el, hheap, by rw [hcs, hc2], hrc.2⟩, hcl⟩
          have hv' : K.claim b0 i = some v := hv
          rw [hcl i] at hv'; simp at hv'
      · have hge := grownCap_ge w (len + m.length) cap e
        have hrun := run_append_grow (P := P) w t o.type e i' zv ht hi hzv ⟨b0, 0, none⟩ len cap olds o1 o4 ⟨b, off, none⟩ m.length xc news m1 m4 (by omega) h63 (growslice_fits (by omega) hbm)
        obtain ⟨K', k2, k3, k4⟩ := hs.vecOld (olds.toArray ++ news.toArray ++ Builtin.zeroCells zv.cells (grownCap w (len + m.length) cap e - (len + m.length))) e (cs := cs ++ flat m) (sz := i'.size) (cap := grownCap w (len + m.length) cap e) (n := len + m.length)
          (by simp only [Array.size_append, zsz, List.size_toArray, m1, o1]; simp [← Nat.add_mul]; congr 1; omega) hge hlen2 (relC_arr rn rone) hl hown (by omega) S
        refine ⟨K', _, some (ob, _), _, _, .inl (exe (by rw [he, hxe]; exact hrun)), k2, k3, k4, h5⟩
    · exact h4.elim
  · -- a slice that has no room
    rename_i l tk m tk2
    obtain ⟨⟨hl0, hm, hb⟩, h5⟩ := h4
    obtain ⟨xa, xc, hxe, hxs⟩ := src_reads hs rx hm
    have hml := flat_length hm
    have hll := flat_length hl0
    have scap : ∃ a0 cap, a.eval s = .slice a0 l.length cap ∧ l.length ≤ cap := by
      rcases rel_slice rs with ⟨a', cap', he, rfl, _⟩ | ⟨b, off, cap', sz', u, he, _, _, _, _, q5⟩
      · exact ⟨a', cap', he, Nat.zero_le _⟩
      · exact ⟨_, cap', he, q5⟩
    obtain ⟨a0, cap0, hse, hcap0⟩ := scap
    have zero : m = [] → (execOp a.eval o).run P w = .ok (.value (a.eval s)) w := by
      intro hm0
      refine exe ?_
      rw [hxe, hm0, hse]
      exact append_zero t o.type ht hi a0 l.length cap0 hcap0 xa xc w
    -- what lies there
    have main : (tk = .nil ∨ tk = .full) → m ≠ [] → ∃ K' v w', (execOp a.eval o).run P w = .ok (.value v) w' ∧ K.leS S K' ∧ Rel K' (.vec nm (l.length + m.length)) v ∧ Sat K' (upd σ nm (.vec i'.size (l.length + m.length) (flat l ++ flat m))) w' := by
      intro htk hm0
      have hmpos : 0 < m.length := List.length_pos_iff.2 hm0
      rcases hxs with hxs | ⟨b, off, rfl, news, m1, m2, m3, m4⟩
      · omega
      have hbm : (l.length + m.length) * i'.bytes ≤ 140737488355328 := by omega
      have h63 : ((l.length + m.length : Nat) : Int) ≤ 9223372036854775807 := by
        have := Nat.mul_le_mul_left (l.length + m.length) hby0; simp at this; omega
      obtain ⟨os, olds, o1, o2, o3, o4⟩ : ∃ os : Option Addr, ∃ olds : List Value, a.eval s = .slice os l.length l.length ∧ RelL K (flat l) olds ∧ (∀ u ∈ olds, u.oneCell' = true) ∧
          (os = none → l = []) ∧ ∀ ba, os = some ba → ∀ j u, olds[j]? = some u → w.cell? (ba.add j) = some u := by
        rcases rel_slice rs with ⟨a', cap', he, rfl, ht'⟩ | ⟨b', off', cap', sz', u, he, q1, q2, q3, ht', q5⟩
        · rcases htk with rfl | rfl
          · simp at ht'; obtain ⟨rfl, rfl⟩ := ht'
            exact ⟨none, [], he, .nil, by simp, fun _ => rfl, fun ba _ j u hj => by simp at hj⟩
          · simp at ht'; subst ht'
            exact ⟨a', [], he, .nil, by simp, fun _ => rfl, fun ba _ j u hj => by simp at hj⟩
        · rcases htk with rfl | rfl
          · exact ht'.elim
          have : cap' = l.length := ht'
          subst this
          refine ⟨_, (List.range (flat l).length).map u, he, ⟨by simp, fun i h1 h2 => by simpa using q3 i h1⟩, fun v hv => ?_, fun h => by simp at h, fun ba hba j v hj => ?_⟩
          · simp only [List.mem_map, List.mem_range] at hv
            obtain ⟨i, hi, rfl⟩ := hv
            exact hs.one _ _ _ (q2 i hi)
          · simp at hba; subst hba
            have hj' : j < (flat l).length := by
              rcases Nat.lt_or_ge j (flat l).length with h' | h'
              · exact h'
              · rw [List.getElem?_eq_none (by simpa using h')] at hj; simp at hj
            rw [List.getElem?_eq_getElem (by simpa using hj')] at hj
            simp at hj; subst hj
            rw [add_none]; exact hs.claim _ _ _ (q2 j hj')
      have hge := grownCap_ge w (l.length + m.length) l.length e
      have rn : RelL K (flat l ++ flat m) (olds ++ news) := o2.append m2
      have rone : ∀ u ∈ olds ++ news, u.oneCell' = true := fun u hu => by
        rcases List.mem_append.1 hu with h | h
        · exact o3 u h
        · exact m3 u h
      have ho2 : olds.length = l.length * i'.size := by rw [← o2.1, hll]
      obtain ⟨K', k2, k3, k4⟩ := hs.vecNew (olds.toArray ++ news.toArray ++ Builtin.zeroCells zv.cells (grownCap w (l.length + m.length) l.length e - (l.length + m.length))) e (cs := flat l ++ flat m) (sz := i'.size) (cap := grownCap w (l.length + m.length) l.length e) (n := l.length + m.length)
        (by simp only [Array.size_append, zsz, List.size_toArray, m1, ho2]; simp [← Nat.add_mul]; congr 1; omega) hge (by rw [List.length_append, hll, hml, Nat.add_mul]) (relC_arr rn rone) hnm hS
      refine ⟨K', _, _, exe ?_, k2, k3, k4⟩
      rw [o1, hxe]
      cases os with
      | none =>
        have : l = [] := o4.1 rfl
        subst this
        have : olds = [] := by have := o2.1; simp [flat] at this; exact List.eq_nil_of_length_eq_zero this.symm
        subst this
        have hrun := run_append_nil (P := P) w t o.type e i' zv ht hi hzv ⟨b, off, none⟩ m.length xc news m1 m4 hmpos (by simpa using h63) (by simp at hbm; omega)
        simpa using hrun
      | some ba =>
        have hrun := run_append_grow (P := P) w t o.type e i' zv ht hi hzv ba l.length l.length olds ho2 (o4.2 ba rfl) ⟨b, off, none⟩ m.length xc news m1 m4 (by omega) h63 (growslice_fits (by omega) hbm)
        simpa using hrun
    cases tk with
    | no => exact h5.elim
    | own t => exact h5.elim
    | nil =>
      by_cases hm0 : m = []
      · exact ⟨K, _, none, _, _, .inl (zero hm0), Gh.leS.refl K, rs, hs, h5.1 hm0⟩
      · obtain ⟨K', v, w', q1, q2, q3, q4⟩ := main (.inl rfl) hm0
        exact ⟨K', _, some (nm, _), v, w', .inl q1, q2, q3, q4, h5.2 hm0⟩
    | full =>
      by_cases hm0 : m = []
      · exact ⟨K, _, none, _, _, .inl (zero hm0), Gh.leS.refl K, rs, hs, h5.1 hm0⟩
      · obtain ⟨K', v, w', q1, q2, q3, q4⟩ := main (.inr rfl) hm0
        exact ⟨K', _, some (nm, _), v, w', .inl q1, q2, q3, q4, h5.2 hm0⟩
  · exact h4.elim

end ops
end Abs
