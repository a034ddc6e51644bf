/- The abstraction layer, part R: rows that may be written: made, grown, frozen; growth names for slices. Over any program. -/
import Derived.Maps.RangeRun
import Derived.Test.YtbbihmmobfmadaaGreatOAbsV
set_option linter.unusedSimpArgs false
set_option linter.unusedVariables false
namespace Abs
open Go
theorem grownCap_le {w : World} {need old : Nat} {e : TypeId} (h : need ≤ 9223372036854775807) : grownCap w need old e ≤ 9223372036854775807 := by
  have h2 : 0 < 2 ^ 63 - need := by omega
  have := Nat.mod_lt (w.tape w.drawn (Question.appendCap need old e)) h2
  simp only [grownCap, Question.cut]; omega
theorem VecOk.new {K : Gh} {o b cap sz n : Nat} (h : K.own o = some (.vec b cap sz n)) : VecOk K o n b cap := ⟨b, cap, sz, n, .inl h, Nat.le_refl n, fun _ => ⟨rfl, rfl⟩⟩
def RelC (K : Gh) (cs : List AV) (cells : Array Value) : Prop := cs.length ≤ cells.size ∧ ∀ i, (h : i < cs.length) → (h' : i < cells.size) → Rel K cs[i] cells[i] ∧ cells[i].oneCell' = true
theorem RelC.mono {K K' : Gh} (hK : K.le K') {cs : List AV} {cells : Array Value} (h : RelC K cs cells) : RelC K' cs cells := ⟨h.1, fun i h1 h2 => ⟨(h.2 i h1 h2).1.mono hK, (h.2 i h1 h2).2⟩⟩
theorem relC_of {K : Gh} {cs : List AV} {vs Z : List Value} (hr : RelL K cs vs) (h1 : ∀ u ∈ vs, u.oneCell' = true) : RelC K cs (vs ++ Z).toArray := by
  have hl := hr.1
  refine ⟨by simp; omega, fun i h h' => ?_⟩
  have hi : i < vs.length := by omega
  have e : (vs ++ Z).toArray[i] = vs[i] := by simp [List.getElem_append_left, hi]
  rw [e]
  exact ⟨hr.2 i h hi, h1 _ (List.getElem_mem hi)⟩
theorem relC_arr {K : Gh} {cs : List AV} {us vs : List Value} {Z : Array Value} (hr : RelL K cs (us ++ vs)) (h1 : ∀ u ∈ us ++ vs, u.oneCell' = true) : RelC K cs (us.toArray ++ vs.toArray ++ Z) := by
  have e : (us ++ vs ++ Z.toList).toArray = us.toArray ++ vs.toArray ++ Z := Array.ext' (by simp)
  rw [← e]; exact relC_of hr h1
section
variable {σ : Sig}
theorem Sat.vecNew {K : Gh} {w} (hs : Sat K σ w) (cells : Array Value) (el : TypeId) {cs : List AV} {sz cap n : Nat} (hcap : cells.size = cap * sz) (hn : n ≤ cap ∧ (sz = 1 → cap ≤ 9223372036854775807)) (hlen : cs.length = n * sz) (hr : RelC K cs cells)
    {o : Nat} (ho : K.own o = none) {S : Nat → Prop} (hS : ¬ S o) : ∃ K', K.leS S K' ∧ Rel K' (.vec o n) (.slice (some ⟨w.heap.size, 0, none⟩) n cap) ∧ Sat K' (upd σ o (.vec sz n cs)) (w.drew.alloc (.cells cells el)) := by
  have hs' : Sat K σ w.drew := hs.same rfl rfl rfl rfl
  have hp : Pushed w.drew (w.drew.alloc (.cells cells el)) (.cells cells el) := ⟨rfl, rfl, rfl, rfl⟩
  have hle0 := (hs'.push hp rfl (fun _ => none) (fun i v e => by simp at e)).1
  obtain ⟨h1, h2⟩ := hs'.pushName hp rfl (fun _ => none) (fun i v e => by simp at e) ho (.vec w.drew.heap.size cap sz n) rfl (.vec sz n cs)
    ⟨rfl, rfl, hlen, hn, by show K.base.heap.size ≤ _; exact hs'.size, ⟨cells, el, hp.new, hcap, fun i q1 q2 => ⟨(hr.2 i q1 q2).1.mono hle0, (hr.2 i q1 q2).2⟩⟩, fun i => by simp [Gh.claimed]⟩
  refine ⟨_, ⟨h1, fun o' hs' hn => ?_⟩, .vec o n _ cap (VecOk.new (sz := sz) (by simp [Gh.named])) hn.1, h2⟩
  have : o' ≠ o := fun e => hS (e ▸ hs')
  simp [Gh.named, Gh.claimed, this, hn]
theorem Sat.vecOld {K : Gh} {w} (hs : Sat K σ w) (cells : Array Value) (el : TypeId) {cs cs0 : List AV} {sz cap n n0 b0 cap0 : Nat} (hcap : cells.size = cap * sz) (hn : n ≤ cap ∧ (sz = 1 → cap ≤ 9223372036854775807)) (hlen : cs.length = n * sz) (hr : RelC K cs cells)
    {o : Nat} (ho : σ o = some (.vec sz n0 cs0)) (hown : K.own o = some (.vec b0 cap0 sz n0)) (hlt : n0 < n) (S : Nat → Prop) :
    ∃ K', K.leS S K' ∧ Rel K' (.vec o n) (.slice (some ⟨w.heap.size, 0, none⟩) n cap) ∧ Sat K' (upd σ o (.vec sz n cs)) (w.drew.alloc (.cells cells el)) := by
  have hs' : Sat K σ w.drew := hs.same rfl rfl rfl rfl
  have hp : Pushed w.drew (w.drew.alloc (.cells cells el)) (.cells cells el) := ⟨rfl, rfl, rfl, rfl⟩
  obtain ⟨hle0, h5⟩ := hs'.push hp rfl (fun _ => none) (fun i v e => by simp at e)
  let K1 := K.claimed w.drew.heap.size fun _ => none
  have e1 : K1.own = K.own := rfl
  let K2 : Gh := { K1 with own := fun i => if i = o then some (.vec w.drew.heap.size cap sz n) else K1.own i }
  have hle2 : K1.le K2 := Gh.le_renamed (e := .vec b0 cap0 sz n0) (e' := .vec w.drew.heap.size cap sz n) rfl (fun _ _ _ e => e) hown (by simp [K2]) ⟨rfl, by omega, fun e => by omega⟩ (fun o' h => by simp [K2, h])
  have hs2 : Sat K2 (upd σ o (.vec sz n cs)) (w.drew.alloc (.cells cells el)) := by
    refine h5.move (e := .vec b0 cap0 sz n0) (e' := .vec w.drew.heap.size cap sz n) hle2 rfl ho hown (fun o' h => by simp [K2, K1, h]) (by simp [K2])
      ⟨rfl, rfl, hlen, hn, by show K.base.heap.size ≤ _; exact hs'.size, ⟨cells, el, hp.new, hcap, fun i q1 q2 => ⟨(hr.2 i q1 q2).1.mono (hle0.trans hle2), (hr.2 i q1 q2).2⟩⟩, fun i => by simp [K2, K1, Gh.claimed]⟩ (fun o' y e'' r1 r2 hr _ => ?_)
    obtain ⟨e3, r3, r4⟩ := hs'.live o' y r1
    have : e3 = e'' := by
      have r2' : K.own o' = some e'' := r2
      simp_all
    subst this
    exact Nat.ne_of_lt (r4.blk_lt hr)
  refine ⟨K2, ⟨hle0.trans hle2, fun o' _ hn => ?_⟩, .vec o n _ cap (VecOk.new (sz := sz) (by simp [K2])) hn.1, hs2⟩
  have : o' ≠ o := fun e => by subst e; rw [hown] at hn; simp at hn
  simp only [K2, this, if_false]; exact hn
end
section ops
variable {P : Program} {o : Oper} {N : Nat} {env : Env} {σ : Sig} {nm : Nat} {R : AV → Option (Nat × AObj) → Prop}
theorem ok_vmake {t l c e i g n z al ac} (ho : o.op = .makeSlice t l c) (ht : P.underlying t = some (.slice e)) (hi : P.info? e = some i) (hr : readOf P e = some (g, n)) (hz : zeroOf P e = some z) (hzn : z.length = n) (hn0 : 0 < n) (hby0 : 0 < i.bytes)
    (hl : trOpnd l = some al) (hc : trOpnd c = some ac) (h : exOpN nm env σ R (.ext (.vmake n i.bytes z g al ac))) : OpOk P o N env σ nm R := by
  intro S K a w hf hs hnm hS
  obtain ⟨lv, h1, h2⟩ := wth_some h
  obtain ⟨cv, h3, h4⟩ := wth_some h2
  obtain ⟨ev, h5, h7⟩ := wth_some h4
  have rl := trOpnd_rel hl h1 hf
  have rc := trOpnd_rel hc h3 hf
  split at h7
  case h_2 => exact h7.elim
  rename_i ln cn
  obtain ⟨⟨h6, p4, p1, p2, p3⟩, p5⟩ := h7
  have el := rel_int rl
  have ec := rel_int rc
  obtain ⟨i', zv, hi', hzv, hzs⟩ := zerosOf (K := K) hz hzn
  obtain rfl : i' = i := by simp_all
  obtain ⟨_, hszn, _⟩ := readOf_some hr
  have hisz : i'.size = n := by simp [szOf, hi] at hszn; exact hszn
  have hzr : RelL K z zv.cells.toList := by
    unfold zeroOf at hz
    simp [hi, hzv] at hz
    exact ofFlats_rel hz
  obtain ⟨N1, hN⟩ : ∃ q : Nat, ln = (q : Int) := ⟨ln.toNat, by omega⟩
  obtain ⟨C1, hC⟩ : ∃ q : Nat, cn = (q : Int) := ⟨cn.toNat, by omega⟩
  subst hN; subst hC
  have hCb : C1 * i'.bytes ≤ 35184372088832 := by
    have : ((C1 * i'.bytes : Nat) : Int) ≤ 35184372088832 := by rw [Int.natCast_mul]; exact p3
    omega
  have hC1 : C1 ≤ 35184372088832 := by have := Nat.mul_le_mul_left C1 hby0; simp at this; omega
  have hrun := run_make (P := P) w t e i' zv ht hi hzv .i64 .i64 (N1 : Int) (C1 : Int) p1 p2 (by rw [Int.mul_comm]; omega) (by omega)
  simp only [Int.toNat_natCast] at hrun p5
  have hmade : (madeCells zv.cells (C1 * i'.size)).size = C1 * n := by rw [size_madeCells, hisz]
  have hNC : N1 ≤ C1 := by omega
  have hfl : (List.replicate N1 z).flatten.length = N1 * n := by simp [hzn]
  have hle := Nat.mul_le_mul_right n hNC
  obtain ⟨K', k2, k3, k4⟩ := hs.vecNew (madeCells zv.cells (C1 * i'.size)) e (cs := (List.replicate N1 z).flatten) (sz := n) (cap := C1) (n := N1) hmade ⟨hNC, fun _ => by omega⟩ hfl
    ⟨by omega, fun i hi1 hi2 => by
      have hz0 : 0 < z.length := by omega
      have hm := Nat.mod_lt i hz0
      have e1 : zv.cells.size = z.length := by omega
      have e2 : (madeCells zv.cells (C1 * i'.size))[i] = zv.cells[i % z.length] := by
        simp only [madeCells, Array.getElem_map, Array.getElem_range, e1]
        rw [getElem!_pos zv.cells (i % z.length) (by omega)]
      have e3 : (List.replicate N1 z).flatten[i] = z[i % z.length] := by
        have := flatten_replicate_get z hz0 N1 i (by rw [hzn, ← hfl]; exact hi1)
        rw [List.getElem?_eq_getElem hi1, List.getElem?_eq_getElem hm] at this
        exact Option.some.inj this
      rw [e2, e3]
      have q1 := hzr.2 (i % z.length) hm (by simp; omega)
      have q2 := hzr.ones p4 (i % z.length) (by simp; omega)
      exact ⟨by simpa using q1, by simpa using q2⟩⟩ hnm hS
  refine ⟨K', _, some (nm, _), _, _, .inl ?_, k2, k3, k4.same (w' := w.alloc (.cells (madeCells zv.cells (C1 * i'.size)) e)) rfl rfl rfl rfl, p5⟩
  simp only [execOp, ho, Sem.run_bind, el, ec, hrun, Result.andThen_ok, Sem.run_pure]
theorem ok_bsliceG {t len ps e sz axs} (ho : o.op = .buildSlice t len ps) (hu : P.underlying t = some (.slice e)) (hsz : szOf P e = some sz) (hlen : len = ps.size) (hmax : len * sz ≤ 65536) {z} (hz : zeroOf P e = some z)
    (hps : trParts 0 ps.toList = some axs) (h : exOpN nm env σ R (.ext (.bsliceG sz axs))) : OpOk P o N env σ nm R := by
  intro S K a w hf hs hnm hS
  obtain ⟨l, h1, h0, h2⟩ := wthL_some h
  obtain ⟨k1, k2⟩ := trParts_spec hps
  have hr := trOpnds_rel hf k1 h1
  rw [List.map_map] at hr
  have hall : ∀ x ∈ l, (cellsA x).length = sz := fun x hx => by
    have := List.all_eq_true.1 h0 x hx
    simp at this; exact this.1
  have hone : (flat l).all oneA = true := by
    rw [List.all_eq_true]
    intro y hy
    rw [flat, List.mem_flatMap] at hy
    obtain ⟨x, hx, hy⟩ := hy
    have := List.all_eq_true.1 h0 x hx
    simp at this; exact this.2 y hy
  have hl : l.length = ps.size := by simpa using hr.1
  obtain ⟨zv, z1, z2, _⟩ := run_zeroValue' (K := K) hz w
  have hcs : ∀ p ∈ ps.toList, (a.eval p.2).cells.size = sz := fun p hp => by
    obtain ⟨i, hi, rfl⟩ := List.getElem_of_mem hp
    have hi' : i < l.length := by rw [hl]; simpa using hi
    have := (hr.2 i hi' (by simpa using hi)).cells.1
    simp at this
    have h3 := hall _ (List.getElem_mem hi')
    simp; omega
  have fin : ∀ zs : Array Value, ∃ cells', Instr.fill (fun i => some (i * sz, sz)) ((Array.range (len * sz)).map (zs[· % zs.size]!)) (ps.map fun (i, x) => (i, a.eval x)).toList = some cells' ∧ cells'.toList = ps.toList.flatMap fun p => (a.eval p.2).cells.toList := by
    intro zs
    obtain ⟨cells', e1, e2⟩ := fill_seq a sz ps.toList 0 [] ((Array.range (len * sz)).map (zs[· % zs.size]!)) k2 hcs (by simp) (by simp) (by simp [hlen])
    refine ⟨cells', ?_, by simpa using e2⟩
    have e3 : (ps.map fun (i, x) => (i, a.eval x)).toList = ps.toList.map fun (i, x) => (i, a.eval x) := by simp
    rw [e3]; exact e1
  have hrun : ∃ cells' : Array Value, (execOp a.eval o).run P w = .ok (.value (.slice (some ⟨w.heap.size, 0, none⟩) len len)) { w with heap := w.heap.push (.cells cells' e) } ∧ cells'.toList = ps.toList.flatMap fun p => (a.eval p.2).cells.toList := by
    by_cases h0 : len * sz = 0
    · obtain ⟨cells', e1, e2⟩ := fin #[]
      refine ⟨cells', ?_, e2⟩
      simp only [execOp, ho, Instr.buildSlice, Sem.run_bind, run_underlying' hu, Result.andThen_ok, run_sizeOf' hsz]
      rw [if_neg (by omega), if_pos h0]
      simp only [Sem.run_bind, Sem.run_pure, Result.andThen_ok]
      rw [e1]
      simp [Go.newRow]
    · obtain ⟨cells', e1, e2⟩ := fin zv.cells
      refine ⟨cells', ?_, e2⟩
      simp only [execOp, ho, Instr.buildSlice, Sem.run_bind, run_underlying' hu, Result.andThen_ok, run_sizeOf' hsz]
      rw [if_neg (by omega), if_neg h0]
      simp only [Sem.run_bind, Sem.run_pure, Result.andThen_ok, z1]
      rw [e1]
      simp [Go.newRow]
  obtain ⟨cells', hrun, e2⟩ := hrun
  have hfr : RelL K (flat l) cells'.toList := by
    have := flat_rel hr
    rw [e2]
    rw [List.flatMap_map] at this
    exact this
  have hcl : (flat l).length = cells'.size := by simpa using hfr.1
  have hfl := flat_length hall
  obtain ⟨K', q2, q3, q4⟩ := hs.grownNew cells' e (l := l) (sz := sz) (cap := l.length) (by omega) (Nat.le_refl _) hall (fun i i1 i2 => by
    have := hfr.2 i i1 (by simpa using i2)
    simpa using this) (fun i i1 i2 => by
    have := hfr.ones hone i (by simpa using i2)
    simpa using this) hnm hS
  refine ⟨K', _, some (nm, _), _, _, .inl hrun, q2, ?_, q4.same (w' := { w with heap := w.heap.push (.cells cells' e) }) rfl rfl rfl rfl, h2⟩
  rw [hlen, ← hl]; exact q3
theorem ok_bsliceV {t len ps e sz axs} (ho : o.op = .buildSlice t len ps) (hu : P.underlying t = some (.slice e)) (hsz : szOf P e = some sz) (hlen : len = ps.size) (hmax : len * sz ≤ 65536) {z} (hz : zeroOf P e = some z)
    (hps : trParts 0 ps.toList = some axs) (h : exOpN nm env σ R (.ext (.bsliceV sz axs))) : OpOk P o N env σ nm R := by
  intro S K a w hf hs hnm hS
  obtain ⟨l, h1, h0, h2⟩ := wthL_some h
  obtain ⟨k1, k2⟩ := trParts_spec hps
  have hr := trOpnds_rel hf k1 h1
  rw [List.map_map] at hr
  have hall : ∀ x ∈ l, (cellsA x).length = sz := fun x hx => by
    have := List.all_eq_true.1 h0 x hx
    simp at this; exact this.1
  have hone : (flat l).all oneA = true := by
    rw [List.all_eq_true]
    intro y hy
    rw [flat, List.mem_flatMap] at hy
    obtain ⟨x, hx, hy⟩ := hy
    have := List.all_eq_true.1 h0 x hx
    simp at this; exact this.2 y hy
  have hl : l.length = ps.size := by simpa using hr.1
  obtain ⟨zv, z1, z2, _⟩ := run_zeroValue' (K := K) hz w
  have hcs : ∀ p ∈ ps.toList, (a.eval p.2).cells.size = sz := fun p hp => by
    obtain ⟨i, hi, rfl⟩ := List.getElem_of_mem hp
    have hi' : i < l.length := by rw [hl]; simpa using hi
    have := (hr.2 i hi' (by simpa using hi)).cells.1
    simp at this
    have h3 := hall _ (List.getElem_mem hi')
    simp; omega
  have fin : ∀ zs : Array Value, ∃ cells', Instr.fill (fun i => some (i * sz, sz)) ((Array.range (len * sz)).map (zs[· % zs.size]!)) (ps.map fun (i, x) => (i, a.eval x)).toList = some cells' ∧ cells'.toList = ps.toList.flatMap fun p => (a.eval p.2).cells.toList := by
    intro zs
    obtain ⟨cells', e1, e2⟩ := fill_seq a sz ps.toList 0 [] ((Array.range (len * sz)).map (zs[· % zs.size]!)) k2 hcs (by simp) (by simp) (by simp [hlen])
    refine ⟨cells', ?_, by simpa using e2⟩
    have e3 : (ps.map fun (i, x) => (i, a.eval x)).toList = ps.toList.map fun (i, x) => (i, a.eval x) := by simp
    rw [e3]; exact e1
  have hrun : ∃ cells' : Array Value, (execOp a.eval o).run P w = .ok (.value (.slice (some ⟨w.heap.size, 0, none⟩) len len)) { w with heap := w.heap.push (.cells cells' e) } ∧ cells'.toList = ps.toList.flatMap fun p => (a.eval p.2).cells.toList := by
    by_cases h0 : len * sz = 0
    · obtain ⟨cells', e1, e2⟩ := fin #[]
      refine ⟨cells', ?_, e2⟩
      simp only [execOp, ho, Instr.buildSlice, Sem.run_bind, run_underlying' hu, Result.andThen_ok, run_sizeOf' hsz]
      rw [if_neg (by omega), if_pos h0]
      simp only [Sem.run_bind, Sem.run_pure, Result.andThen_ok]
      rw [e1]
      simp [Go.newRow]
    · obtain ⟨cells', e1, e2⟩ := fin zv.cells
      refine ⟨cells', ?_, e2⟩
      simp only [execOp, ho, Instr.buildSlice, Sem.run_bind, run_underlying' hu, Result.andThen_ok, run_sizeOf' hsz]
      rw [if_neg (by omega), if_neg h0]
      simp only [Sem.run_bind, Sem.run_pure, Result.andThen_ok, z1]
      rw [e1]
      simp [Go.newRow]
  obtain ⟨cells', hrun, e2⟩ := hrun
  have hfr : RelL K (flat l) cells'.toList := by
    have := flat_rel hr
    rw [e2]
    rw [List.flatMap_map] at this
    exact this
  have hcl : (flat l).length = cells'.size := by simpa using hfr.1
  have hfl := flat_length hall
  have hrc : RelC K (flat l) cells' := by
    have := relC_of (Z := []) hfr (fun u hu => by
      obtain ⟨i, hi, rfl⟩ := List.getElem_of_mem hu
      exact hfr.ones hone i hi)
    rw [List.append_nil] at this
    exact this
  obtain ⟨K', q2, q3, q4⟩ := hs.vecNew cells' e (cs := flat l) (sz := sz) (cap := l.length) (n := l.length) (by omega) ⟨Nat.le_refl _, fun e1 => by subst e1; omega⟩ hfl hrc hnm hS
  refine ⟨K', _, some (nm, _), _, _, .inl hrun, q2, ?_, q4.same (w' := { w with heap := w.heap.push (.cells cells' e) }) rfl rfl rfl rfl, h2⟩
  rw [hlen, ← hl]; exact q3
theorem unflat_spec {K : Gh} {g : Bool} {sz : Nat} : ∀ {n : Nat} {cs : List AV} {l : List AV}, unflat g sz n cs = some l → cs.length = n * sz → (g = false → sz = 1) → (∀ x ∈ cs, oneA x = true) → l.length = n ∧ flat l = cs ∧ ∀ x ∈ l, (cellsA x).length = sz
  | 0, cs, l, h, hl, _, _ => by
    simp [unflat] at h; subst h
    simp at hl; subst hl
    exact ⟨rfl, rfl, by simp⟩
  | n + 1, cs, l, h, hl, hg, h1 => by
    simp only [unflat] at h
    split at h <;> simp at h
    rename_i a l' ha hl'
    subst h
    have hsz : (cs.take sz).length = sz := by simp [hl, Nat.succ_mul]
    have hc : cellsA a = cs.take sz := by
      cases g with
      | true => simp [mkv] at ha; subst ha; rfl
      | false =>
        obtain rfl := hg rfl
        cases cs with
        | nil => simp [mkv] at ha
        | cons x cs =>
          simp [mkv] at ha
          subst ha
          simp only [List.take_succ_cons, List.take_zero]
          exact cells_one (h1 x (by simp))
    obtain ⟨q1, q2, q3⟩ := unflat_spec (K := K) hl' (by simp [hl, Nat.succ_mul]) hg (fun x hx => h1 x (List.mem_of_mem_drop hx))
    refine ⟨by simp [q1], ?_, ?_⟩
    · rw [flat_cons, q2, hc, List.take_append_drop]
    · intro x hx
      rcases List.mem_cons.1 hx with rfl | hx
      · rw [hc]; exact hsz
      · exact q3 x hx
theorem rel_one {K : Gh} {a : AV} {v : Value} (h : Rel K a v) (h1 : v.oneCell' = true) : oneA a = true := by
  cases h <;> first | rfl | (simp [Value.oneCell'] at h1)
theorem Sat.freeze {K : Gh} {w} (hs : Sat K σ w) {ob b cap sz n : Nat} {cs l : List AV} (hl : σ ob = some (.vec sz n cs)) (hown : K.own ob = some (.vec b cap sz n)) (hfl : flat l = cs) (hll : l.length = n) (hall : ∀ x ∈ l, (cellsA x).length = sz) (S : Nat → Prop) :
    ∃ K', K.leS S K' ∧ Rel K' (.slice l (.own ob)) (.slice (some ⟨b, 0, none⟩) n cap) ∧ Sat K' (upd σ ob (.grow sz n)) w := by
  obtain ⟨e0, h1, h2⟩ := hs.live ob _ hl
  rw [hown] at h1; cases h1
  simp only [ObjSat] at h2
  obtain ⟨_, _, h3, h4, h5, ⟨c, el, h6, h7, h8⟩, h9⟩ := h2
  have hle := Nat.mul_le_mul_right sz h4.1
  let cl : Nat → Option Value := fun i => if i < n * sz then c[i]? else none
  let K2 : Gh := { base := K.base, ds := K.ds, claim := fun b' i => if b' = b then cl i else K.claim b' i, own := fun i => if i = ob then some (.buf b cap sz n) else K.own i }
  have hle2 : K.le K2 := Gh.le_renamed (o := ob) (e := .vec b cap sz n) (e' := .buf b cap sz n) rfl (fun b' i v hv => by
      show (if b' = b then cl i else K.claim b' i) = some v
      split
      · rename_i hb; subst hb; rw [h9 i] at hv; simp at hv
      · exact hv) hown (by simp [K2]) ⟨rfl, Nat.le_refl n, fun _ => ⟨rfl, rfl⟩⟩ (fun o' h => by simp [K2, h])
  have hcell : ∀ i v, cl i = some v → w.cell? ⟨b, i, none⟩ = some v ∧ v.oneCell' = true := fun i v hv => by
    simp only [cl] at hv
    split at hv
    · rename_i hi
      have hic : i < c.size := by omega
      refine ⟨by simp [World.cell?, h6]; exact hv, ?_⟩
      rw [Array.getElem?_eq_getElem hic] at hv
      simp only [Option.some.injEq] at hv
      rw [← hv]; exact (h8 i (by omega) hic).2
    · simp at hv
  refine ⟨K2, ⟨hle2, fun o' _ hn => ?_⟩, ?_, ?_⟩
  · have : o' ≠ ob := fun e => by subst e; rw [hown] at hn; simp at hn
    simp [K2, this, hn]
  · rw [← hll]
    refine rel_newest (K' := K2) (cells := c) (by omega) hall (fun i hi => ?_) (fun i i1 i2 => ?_) (by rw [hfl]; omega) (by simp [K2, hll])
    · show (if b = b then cl i else K.claim b i) = _
      rw [if_pos rfl]
      have : i < n * sz := by rw [hfl] at hi; omega
      simp [cl, this]
    · have := (h8 i (by rw [hfl] at i1; exact i1) i2).1.mono hle2
      simpa [hfl] using this
  · refine hs.write (e := .vec b cap sz n) (e' := .buf b cap sz n) hle2 hl hown rfl (fun o' h => by simp [K2, h]) (by simp [K2]) rfl rfl rfl rfl rfl (fun _ _ => rfl) (fun i => frozen_loose h6 rfl) (fun i v hv => ?_) (fun b' i hb' => ?_)
      ⟨rfl, rfl, h4.1, h5, ⟨c, el, h6, h7⟩, fun i hi => ?_⟩
    · have hv' : (if b = b then cl i else K.claim b i) = some v := hv
      rw [if_pos rfl] at hv'
      exact hcell i v hv'
    · have hb2 : ¬ b' = b := hb'
      show (if b' = b then cl i else K.claim b' i) = _
      rw [if_neg hb2]
    · show (if b = b then cl i else K.claim b i) = none
      rw [if_pos rfl]
      simp only [cl]
      rw [if_neg (by omega)]
theorem vec_at {K : Gh} {w : World} (hs : Sat K σ w) {ob n sz : Nat} {cs : List AV} {v : Value} (hl : σ ob = some (.vec sz n cs)) (hr : Rel K (.vec ob n) v) :
    ∃ b cap, v = .slice (some ⟨b, 0, none⟩) n cap ∧ K.own ob = some (.vec b cap sz n) ∧ (n ≤ cap ∧ (sz = 1 → cap ≤ 9223372036854775807)) ∧ cs.length = n * sz ∧ K.base.heap.size ≤ b ∧ (∃ c el, w.heap[b]? = some (.cells c el (0, 0)) ∧ c.size = cap * sz ∧ RelC K cs c) ∧ ∀ i, K.claim b i = none := by
  obtain ⟨b, cap, he, hv, hle⟩ := rel_vec hr
  obtain ⟨e0, h1, h2⟩ := hs.live ob _ hl
  cases e0 <;> simp only [ObjSat] at h2
  obtain ⟨rfl, rfl, h3, h4, h5, ⟨c, el, h6, h7, h8⟩, h9⟩ := h2
  obtain ⟨b', cap', sz', n', hv | hv, v2, v3⟩ := hv
  · rw [h1] at hv
    simp only [Option.some.injEq, Own.vec.injEq] at hv
    obtain ⟨rfl, rfl, rfl, rfl⟩ := hv
    obtain ⟨rfl, rfl⟩ := v3 rfl
    exact ⟨_, _, he, h1, h4, h3, h5, ⟨c, el, h6, h7, by rw [h3, h7]; exact Nat.mul_le_mul_right _ h4.1, h8⟩, h9⟩
  · rw [h1] at hv; simp at hv
theorem Rel.takeOwn {K : Gh} {l : List AV} {ob b n cap len : Nat} (h : Rel K (.slice l (.own ob)) (.slice (some ⟨b, 0, none⟩) n cap)) (hl : len ≤ n) : Rel K (.slice (l.take len) (.own ob)) (.slice (some ⟨b, 0, none⟩) len cap) := by
  cases h with
  | sl0 a cap t ht => simp at ht
  | slice l t b off cap sz v hsz hc hr ht hcap =>
    have hll : (l.take len).length = len := by rw [List.length_take]; omega
    have hfl : (flat (l.take len)).length ≤ (flat l).length ∧ ∀ i, (h : i < (flat (l.take len)).length) → (h' : i < (flat l).length) → (flat (l.take len))[i] = (flat l)[i] := by
      have e : flat l = flat (l.take len) ++ flat (l.drop len) := by rw [← flat_append, List.take_append_drop]
      refine ⟨by rw [e]; simp, fun i h h' => ?_⟩
      simp only [e]
      rw [List.getElem_append_left h]
    have := Rel.slice (K := K) (l.take len) (.own ob) b 0 cap sz v (fun x hx => hsz x (List.mem_of_mem_take hx)) (fun i hi => hc i (by omega)) (fun i hi => by rw [hfl.2 i hi (by omega)]; exact hr i (by omega)) (by
      rcases ht with ⟨b', cap', n', h1, h2, h3⟩ | ⟨n', h1, h2, h3⟩
      · exact .inl ⟨b', cap', n', h1, by omega, fun e => h3 (by omega)⟩
      · exact .inr ⟨n', h1, by omega, fun e => by have := h3 (by omega); omega⟩) (by omega)
    rw [hll] at this
    exact this
theorem pre_at {K : Gh} {w : World} (hs : Sat K σ w) {ob len n sz : Nat} {cs : List AV} {v : Value} (hl : σ ob = some (.vec sz n cs)) (hr : Rel K (.pre ob len n) v) :
    ∃ b cap, v = .slice (some ⟨b, 0, none⟩) len cap ∧ len ≤ n ∧ K.own ob = some (.vec b cap sz n) ∧ (n ≤ cap ∧ (sz = 1 → cap ≤ 9223372036854775807)) ∧ cs.length = n * sz ∧ K.base.heap.size ≤ b ∧ (∃ c el, w.heap[b]? = some (.cells c el (0, 0)) ∧ c.size = cap * sz ∧ RelC K cs c) ∧ ∀ i, K.claim b i = none := by
  obtain ⟨b, cap, he, hv, hle, hnc⟩ := rel_pre hr
  obtain ⟨b', cap', he', k⟩ := vec_at hs hl (.vec ob n b cap hv hnc)
  simp only [Value.slice.injEq, Option.some.injEq, Addr.mk.injEq, and_true, true_and] at he'
  obtain ⟨rfl, rfl⟩ := he'
  exact ⟨b, cap, he, hle, k⟩
theorem ok_vfrz {x ax g} (ho : o.op = .move x ∨ o.op = .assign x) (hx : trOpnd x = some ax) (h : exOpN nm env σ R (.ext (.vfrz g ax))) : OpOk P o N env σ nm R := by
  intro S K a w hf hs hnm hS
  obtain ⟨av, h1, h2⟩ := wth_some h
  have rx := trOpnd_rel hx h1 hf
  cases av <;> simp only [] at h2 <;> first | exact h2.elim | skip
  case pre ob len n =>
   split at h2
   · rename_i sz n' cs hl
     obtain ⟨⟨rfl, hln, hg⟩, h3⟩ := h2
     obtain ⟨l, h4, h5⟩ := lkm_some h3
     obtain ⟨b, cap, he, _, hown, hle, hlen, _, ⟨c, el, hc1, hc2, hc3⟩, _⟩ := pre_at hs hl rx
     have hone : ∀ y ∈ cs, oneA y = true := fun y hy => by
       obtain ⟨i, hi, rfl⟩ := List.getElem_of_mem hy
       have := (hc3.2 i hi (by have := hc3.1; omega))
       exact rel_one this.1 this.2
     obtain ⟨q1, q2, q3⟩ := unflat_spec (K := K) h4 hlen hg hone
     obtain ⟨K', k1, k2, k3⟩ := hs.freeze hl hown q2 q1 q3 S
     refine ⟨K', .slice (l.take len) (.own ob), some (ob, _), a.eval x, w, .inl ?_, k1, ?_, k3, h5⟩
     · rcases ho with ho | ho <;> simp [execOp, ho]
     · rw [he]; exact Rel.takeOwn k2 hln
   · exact h2.elim
  rename_i ob len
  split at h2
  · rename_i sz n cs hl
    obtain ⟨⟨rfl, hg⟩, h3⟩ := h2
    obtain ⟨l, h4, h5⟩ := lkm_some h3
    obtain ⟨b, cap, he, hown, hle, hlen, _, ⟨c, el, hc1, hc2, hc3⟩, _⟩ := vec_at hs hl rx
    have hone : ∀ y ∈ cs, oneA y = true := fun y hy => by
      obtain ⟨i, hi, rfl⟩ := List.getElem_of_mem hy
      have := (hc3.2 i hi (by have := hc3.1; omega))
      exact rel_one this.1 this.2
    obtain ⟨q1, q2, q3⟩ := unflat_spec (K := K) h4 hlen hg hone
    obtain ⟨K', k1, k2, k3⟩ := hs.freeze hl hown q2 q1 q3 S
    refine ⟨K', .slice l (.own ob), some (ob, _), a.eval x, w, .inl ?_, k1, by rw [he]; exact k2, k3, h5⟩
    rcases ho with ho | ho <;> simp [execOp, ho]
  · exact h2.elim
theorem ok_retok {x ax sz} (ho : o.op = .move x ∨ o.op = .assign x) (hx : trOpnd x = some ax) (h : exOpN nm env σ R (.ext (.retok sz ax))) : OpOk P o N env σ nm R := by
  intro S K a w hf hs hnm hS
  obtain ⟨av, h1, h2⟩ := wth_some h
  have rx := trOpnd_rel hx h1 hf
  have exe : (execOp a.eval o).run P w = .ok (.value (a.eval x)) w := by rcases ho with ho | ho <;> simp [execOp, ho]
  have hσ : ∀ o', σ o' ≠ none → o' ≠ nm := fun o' h e => h (by rw [e]; exact hs.fresh hnm)
  split at h2
  · rename_i l
    obtain ⟨⟨h3, h4⟩, h5⟩ := h2
    obtain ⟨k1, k2⟩ := hs.name hnm (.full sz l.length) (.grow sz l.length) ⟨rfl, rfl⟩ (fun o' x' e' _ _ _ h => by simp [Own.real] at h)
    refine ⟨_, _, some (nm, _), _, _, .inl exe, ⟨k1, fun o' hs' hn => ?_⟩, ?_, k2, h5⟩
    · have : o' ≠ nm := fun e => hS (e ▸ hs')
      simp [Gh.named, this, hn]
    · rcases rel_slice rx with ⟨a', cap', he, rfl, _⟩ | ⟨b, off, cap, sz', u, he, q1, q2, q3, q4, q5⟩
      · simp at h4
      · have hsz : sz' = sz := by
          obtain ⟨y, hy⟩ := List.exists_mem_of_length_pos h4
          rw [← q1 y hy, ← h3 y hy]
        subst hsz
        rw [he]
        refine Rel.slice l _ b off cap sz' u q1 q2 (fun i h => (q3 i h).mono k1) ?_ q5
        exact .inr ⟨l.length, by simp [Gh.named], Nat.le_refl _, fun _ => q4⟩
  · obtain ⟨k1, k2⟩ := hs.name hnm (.virt sz) (.grow sz 0) ⟨rfl, rfl⟩ (fun o' x' e' _ _ _ h => by simp [Own.real] at h)
    refine ⟨_, _, some (nm, _), _, _, .inl exe, ⟨k1, fun o' hs' hn => ?_⟩, ?_, k2, h2⟩
    · have : o' ≠ nm := fun e => hS (e ▸ hs')
      simp [Gh.named, this, hn]
    · rcases rel_slice rx with ⟨a', cap', he, _, ht⟩ | ⟨b, off, cap, sz', u, he, q1, q2, q3, q4, q5⟩
      · simp at ht
        obtain ⟨rfl, rfl⟩ := ht
        rw [he]
        exact .sl0 none 0 _ (.inr (.inr (.inr ⟨rfl, rfl, nm, rfl, sz, .inl (by simp [Gh.named])⟩)))
      · exact q4.elim
  · exact h2.elim
theorem ok_vapp {t u s x e i z as_ ax} (ho : o.op = .call { callee := .builtin .append, args := #[s, x], argTypes := #[t, u] }) (ht : P.underlying t = some (.slice e)) (htu : t = u) (hi : P.info? e = some i)
    (hz : zeroOf P e = some z) (hby0 : 0 < i.bytes) (hby : i.bytes ≤ 4096) (hzl : z.length = i.size) (hs1 : trOpnd s = some as_) (hx1 : trOpnd x = some ax) (h : exOpN nm env σ R (.ext (.vapp i.size i.bytes as_ ax))) : OpOk P o N env σ nm R := by
  subst htu
  intro S K a w hf hs hnm hS
  obtain ⟨sv, h1, h2⟩ := wth_some h
  obtain ⟨xv, h3, h4⟩ := wth_some h2
  have rs := trOpnd_rel hs1 h1 hf
  have rx := trOpnd_rel hx1 h3 hf
  obtain ⟨i', zv, hi', hzv, hzs⟩ := zerosOf (K := K) hz hzl
  obtain rfl : i' = i := by simp_all
  have zsz : ∀ k, (Builtin.zeroCells zv.cells k).size = k * i'.size := fun k => by rw [size_zeroCells, hzs]
  have exe : ∀ {v : Value} {w' : World}, (Builtin.append_ #[t, t] o.type #[a.eval s, a.eval x]).run P w = .ok v w' → (execOp a.eval o).run P w = .ok (.value v) w' := by
    intro v w' he
    simp only [execOp, ho, resolve, invoke, Go.builtin, Sem.run_bind, Sem.run_pure, Result.andThen_ok]
    have e2 : #[s, x].map a.eval = #[a.eval s, a.eval x] := by simp
    simp only [e2, he, Result.andThen_ok]
  split at h4
  · -- a row that may be written
    rename_i ob len m tk
    split at h4
    · rename_i sz' n cs hl
      obtain ⟨⟨rfl, rfl, hm, hb⟩, h5⟩ := h4
      obtain ⟨b0, cap, he, hown, hle, hlen, hbase, ⟨c, el, hc1, hc2, hc3⟩, hcl⟩ := vec_at hs hl rs
      obtain ⟨xa, xc, hxe, hxs⟩ := src_reads hs rx hm
      have hml := flat_length hm
      have hlsz := Nat.mul_le_mul_right i'.size hle.1
      by_cases hm0 : m = []
      · subst hm0
        have e1 : upd σ ob (.vec i'.size (len + ([] : List AV).length) (cs ++ flat [])) = σ := by
          funext j; simp only [upd]; split
          · rename_i hj; rw [hj, hl]; simp [flat_nil]
          · rfl
        refine ⟨K, .vec ob (len + ([] : List AV).length), some (ob, .vec i'.size (len + ([] : List AV).length) (cs ++ flat [])), a.eval s, w, .inl (exe ?_), Gh.leS.refl K, rs, ?_, h5⟩
        · rw [hxe, he]
          exact append_zero t o.type ht hi _ len cap hle.1 xa xc w
        · show Sat K (upd σ ob _) w
          rw [e1]; exact hs
      have hmpos : 0 < m.length := List.length_pos_iff.2 hm0
      rcases hxs with hxs | ⟨b, off, rfl, news, m1, m2, m3, m4⟩
      · omega
      have hbm : (len + m.length) * i'.bytes ≤ 140737488355328 := by omega
      have h63 : ((len + m.length : Nat) : Int) ≤ 9223372036854775807 := by
        have := Nat.mul_le_mul_left (len + m.length) hby0; simp at this; omega
      have hcl0 := hc3.1
      let olds : List Value := c.toList.take (len * i'.size)
      have o1 : olds.length = len * i'.size := by simp [olds]; omega
      have o2 : RelL K cs olds := ⟨by omega, fun i i1 i2 => by
        have := (hc3.2 i i1 (by omega)).1
        simpa [olds] using this⟩
      have o3 : ∀ v ∈ olds, v.oneCell' = true := fun v hv => by
        obtain ⟨i, hi, rfl⟩ := List.getElem_of_mem hv
        have := (hc3.2 i (by omega) (by omega)).2
        simpa [olds] using this
      have o4 : ∀ j v, olds[j]? = some v → w.cell? ((⟨b0, 0, none⟩ : Addr).add j) = some v := fun j v hj => by
        rw [add_none, Nat.zero_add]
        simp only [olds, List.getElem?_take] at hj
        split at hj
        · simp only [World.cell?, hc1]
          simpa using hj
        · simp at hj
      have rn : RelL K (cs ++ flat m) (olds ++ news) := o2.append m2
      have rone : ∀ u ∈ olds ++ news, u.oneCell' = true := fun u hu => by
        rcases List.mem_append.1 hu with h | h
        · exact o3 u h
        · exact m3 u h
      have hlen2 : (cs ++ flat m).length = (len + m.length) * i'.size := by rw [List.length_append, hlen, hml, Nat.add_mul]
      by_cases hroom : len + m.length ≤ cap
      · have hfit : len * i'.size + news.length ≤ c.size := by
          rw [hc2, m1, ← Nat.add_mul]; exact Nat.mul_le_mul_right _ hroom
        let cells' : Array Value := ((olds ++ news) ++ c.toList.drop (len * i'.size + news.length)).toArray
        have hf := run_firstCells_some (P := P) w i'.size m.length ⟨b, off, none⟩ m.length xc news m1 m4
        have hst := run_storeCells_at P b0 (len * i'.size) el news 0 c w hc1 (by simpa using hfit) m3
        simp only [Nat.add_zero] at hst
        have hst' : (storeCells ⟨b0, len * i'.size, none⟩ news).run P w = .ok () (w.setRow b0 cells') := by
          rw [hst]
        have hrun : (Builtin.append_ #[t, t] o.type #[.slice (some ⟨b0, 0, none⟩) len cap, .slice (some ⟨b, off, none⟩) m.length xc]).run P w =
            .ok (.slice (some ⟨b0, 0, none⟩) (len + m.length) cap) (w.setRow b0 cells') := by
          simp [Builtin.append_, run_underlying' ht, Go.sizeOf, typeInfo, hi, Builtin.lenOf, hroom, hf, add_none, hst']
        let K2 : Gh := { K with own := fun i => if i = ob then some (.vec b0 cap i'.size (len + m.length)) else K.own i }
        have hcs : cells'.size = c.size := by simp [cells', o1]; omega
        have hle2 : K.le K2 := Gh.le_renamed (o := ob) (e := .vec b0 cap i'.size len) (e' := .vec b0 cap i'.size (len + m.length)) rfl (fun _ _ _ h => h) hown (by simp [K2]) ⟨rfl, by simp, fun _ => ⟨rfl, rfl⟩⟩ (fun o' h => by simp [K2, h])
        have hheap := setRow_heap w b0 c cells' el (0, 0) hc1
        have hrc : RelC K2 (cs ++ flat m) cells' := (relC_of rn rone).mono hle2
        refine ⟨K2, _, some (ob, _), _, _, .inl (exe (by rw [he, hxe]; exact hrun)), ⟨hle2, fun o' _ hn => ?_⟩, .vec ob _ b0 cap (VecOk.new (sz := i'.size) (by simp [K2])) hroom, ?_, h5⟩
        · have : o' ≠ ob := fun e => by subst e; rw [hown] at hn; simp at hn
          simp [K2, this, hn]
        · refine hs.write (e := .vec b0 cap i'.size len) (e' := .vec b0 cap i'.size (len + m.length)) hle2 hl hown rfl (fun o' h => by simp [K2, h]) (by simp [K2]) rfl rfl rfl rfl (by simp) (fun b' hb' => setRow_other w _ b' cells' hb')
            (fun i => frozen_loose hheap rfl) (fun i v hv => ?_) (fun b' i hb' => rfl) ⟨rfl, rfl, hlen2, ⟨hroom, hle.2⟩, hbase, ⟨cells', el, hheap, by rw [hcs, hc2], hrc.2⟩, hcl⟩
          have hv' : K.claim b0 i = some v := hv
          rw [hcl i] at hv'; simp at hv'
      · have hge := grownCap_ge w (len + m.length) cap e
        have hrun := run_append_grow (P := P) w t o.type e i' zv ht hi hzv ⟨b0, 0, none⟩ len cap olds o1 o4 ⟨b, off, none⟩ m.length xc news m1 m4 (by omega) h63 (growslice_fits (by omega) hbm)
        obtain ⟨K', k2, k3, k4⟩ := hs.vecOld (olds.toArray ++ news.toArray ++ Builtin.zeroCells zv.cells (grownCap w (len + m.length) cap e - (len + m.length))) e (cs := cs ++ flat m) (sz := i'.size) (cap := grownCap w (len + m.length) cap e) (n := len + m.length)
          (by simp only [Array.size_append, zsz, List.size_toArray, m1, o1]; simp [← Nat.add_mul]; congr 1; omega) ⟨hge, fun _ => grownCap_le (by omega)⟩ hlen2 (relC_arr rn rone) hl hown (by omega) S
        refine ⟨K', _, some (ob, _), _, _, .inl (exe (by rw [he, hxe]; exact hrun)), k2, k3, k4, h5⟩
    · exact h4.elim
  · -- a shorter handle of a row
    rename_i ob len n m tk
    split at h4
    · rename_i sz' n' cs hl
      obtain ⟨⟨rfl, rfl, hln, hm, hb⟩, h5⟩ := h4
      obtain ⟨b0, cap, he, _, hown, hle, hlen, hbase, ⟨c, el, hc1, hc2, hc3⟩, hcl⟩ := pre_at hs hl rs
      obtain ⟨xa, xc, hxe, hxs⟩ := src_reads hs rx hm
      have hml := flat_length hm
      have hlsz := Nat.mul_le_mul_right i'.size hle.1
      have hllz := Nat.mul_le_mul_right i'.size hln
      have hcl0 := hc3.1
      by_cases hm0 : m = []
      · subst hm0
        rw [if_pos (by simpa using hln)] at h5
        have e1 : upd σ ob (.vec i'.size n (putAt cs (len * i'.size) (flat []))) = σ := by
          funext j; simp only [upd]; split
          · rename_i hj; rw [hj, hl]; simp [flat_nil, putAt]
          · rfl
        refine ⟨K, .pre ob (len + ([] : List AV).length) n, some (ob, .vec i'.size n (putAt cs (len * i'.size) (flat []))), a.eval s, w, .inl (exe ?_), Gh.leS.refl K, rs, ?_, h5⟩
        · rw [hxe, he]
          exact append_zero t o.type ht hi _ len cap (by omega) xa xc w
        · show Sat K (upd σ ob _) w
          rw [e1]; exact hs
      have hmpos : 0 < m.length := List.length_pos_iff.2 hm0
      rcases hxs with hxs | ⟨b, off, rfl, news, m1, m2, m3, m4⟩
      · omega
      have hmono : (len + m.length) * i'.bytes ≤ (n + m.length) * i'.bytes := Nat.mul_le_mul_right _ (by omega)
      have hbm : (len + m.length) * i'.bytes ≤ 140737488355328 := by omega
      have h63 : ((len + m.length : Nat) : Int) ≤ 9223372036854775807 := by
        have := Nat.mul_le_mul_left (len + m.length) hby0; simp at this; omega
      let olds : List Value := c.toList.take (len * i'.size)
      have o1 : olds.length = len * i'.size := by simp [olds]; omega
      have o2 : RelL K (cs.take (len * i'.size)) olds := ⟨by rw [List.length_take]; omega, fun i i1 i2 => by
        rw [List.length_take] at i1
        have := (hc3.2 i (by omega) (by omega)).1
        simpa [olds] using this⟩
      have o3 : ∀ v ∈ olds, v.oneCell' = true := fun v hv => by
        obtain ⟨i, hi, rfl⟩ := List.getElem_of_mem hv
        have := (hc3.2 i (by omega) (by omega)).2
        simpa [olds] using this
      have o4 : ∀ j v, olds[j]? = some v → w.cell? ((⟨b0, 0, none⟩ : Addr).add j) = some v := fun j v hj => by
        rw [add_none, Nat.zero_add]
        simp only [olds, List.getElem?_take] at hj
        split at hj
        · simp only [World.cell?, hc1]
          simpa using hj
        · simp at hj
      have rn : RelL K (cs.take (len * i'.size) ++ flat m) (olds ++ news) := o2.append m2
      have rone : ∀ u ∈ olds ++ news, u.oneCell' = true := fun u hu => by
        rcases List.mem_append.1 hu with h | h
        · exact o3 u h
        · exact m3 u h
      have hlen2 : (cs.take (len * i'.size) ++ flat m).length = (len + m.length) * i'.size := by rw [List.length_append, List.length_take, hml, Nat.add_mul]; omega
      by_cases hroom : len + m.length ≤ cap
      · have hfit : len * i'.size + news.length ≤ c.size := by
          rw [hc2, m1, ← Nat.add_mul]; exact Nat.mul_le_mul_right _ hroom
        let cells' : Array Value := ((olds ++ news) ++ c.toList.drop (len * i'.size + news.length)).toArray
        have hf := run_firstCells_some (P := P) w i'.size m.length ⟨b, off, none⟩ m.length xc news m1 m4
        have hst := run_storeCells_at P b0 (len * i'.size) el news 0 c w hc1 (by simpa using hfit) m3
        simp only [Nat.add_zero] at hst
        have hst' : (storeCells ⟨b0, len * i'.size, none⟩ news).run P w = .ok () (w.setRow b0 cells') := by
          rw [hst]
        have hrun : (Builtin.append_ #[t, t] o.type #[.slice (some ⟨b0, 0, none⟩) len cap, .slice (some ⟨b, off, none⟩) m.length xc]).run P w =
            .ok (.slice (some ⟨b0, 0, none⟩) (len + m.length) cap) (w.setRow b0 cells') := by
          simp [Builtin.append_, run_underlying' ht, Go.sizeOf, typeInfo, hi, Builtin.lenOf, hroom, hf, add_none, hst']
        have hcs : cells'.size = c.size := by simp [cells', o1]; omega
        have hheap := setRow_heap w b0 c cells' el (0, 0) hc1
        by_cases hin : len + m.length ≤ n
        · rw [if_pos hin] at h5
          have hmn : len * i'.size + news.length ≤ n * i'.size := by rw [m1, ← Nat.add_mul]; exact Nat.mul_le_mul_right _ hin
          have oN : RelL K cs (c.toList.take (n * i'.size)) := ⟨by rw [List.length_take]; simp; omega, fun i i1 i2 => by
            have := (hc3.2 i i1 (by omega)).1
            simpa using this⟩
          have rp := oN.putAt m2 (len * i'.size)
          have hN1 : ∀ v ∈ (c.toList.take (n * i'.size)).take (len * i'.size) ++ news ++ (c.toList.take (n * i'.size)).drop (len * i'.size + news.length), v.oneCell' = true := fun v hv => by
            have hcv : ∀ u ∈ c.toList.take (n * i'.size), u.oneCell' = true := fun u hu => by
              obtain ⟨i, hi, rfl⟩ := List.getElem_of_mem hu
              rw [List.length_take] at hi
              have := (hc3.2 i (by omega) (by simp at hi; omega)).2
              simpa using this
            rcases List.mem_append.1 hv with h | h
            · rcases List.mem_append.1 h with h | h
              · exact hcv v (List.mem_of_mem_take h)
              · exact m3 v h
            · exact hcv v (List.mem_of_mem_drop h)
          have hcells : cells' = ((c.toList.take (n * i'.size)).take (len * i'.size) ++ news ++ (c.toList.take (n * i'.size)).drop (len * i'.size + news.length) ++ c.toList.drop (n * i'.size)).toArray := by
            have e1 : (c.toList.take (n * i'.size)).take (len * i'.size) = olds := by rw [List.take_take, Nat.min_eq_left hllz]
            have e2 : (c.toList.take (n * i'.size)).drop (len * i'.size + news.length) ++ c.toList.drop (n * i'.size) = c.toList.drop (len * i'.size + news.length) := by
              rw [← List.drop_append_of_le_length (by rw [List.length_take]; simp; omega), List.take_append_drop]
            simp only [cells', e1, List.append_assoc, e2]
          have hrc : RelC K (putAt cs (len * i'.size) (flat m)) cells' := by rw [hcells]; exact relC_of rp hN1
          have hplen : (putAt cs (len * i'.size) (flat m)).length = n * i'.size := by
            simp only [putAt, List.length_append, List.length_take, List.length_drop, hml]
            rw [m1] at hmn; omega
          refine ⟨K, _, some (ob, _), _, _, .inl (exe (by rw [he, hxe]; exact hrun)), Gh.leS.refl K, .pre ob (len + m.length) n b0 cap ⟨b0, cap, i'.size, n, .inl hown, Nat.le_refl n, fun _ => ⟨rfl, rfl⟩⟩ hin hle.1, ?_, h5⟩
          refine hs.write (e := .vec b0 cap i'.size n) (e' := .vec b0 cap i'.size n) (Gh.le.refl K) hl hown rfl (fun o' h => rfl) hown rfl rfl rfl rfl (by simp) (fun b' hb' => setRow_other w _ b' cells' hb')
            (fun i => frozen_loose hheap rfl) (fun i v hv => ?_) (fun b' i hb' => rfl) ⟨rfl, rfl, hplen, hle, hbase, ⟨cells', el, hheap, by rw [hcs, hc2], hrc.2⟩, hcl⟩
          have hv' : K.claim b0 i = some v := hv
          rw [hcl i] at hv'; simp at hv'
        · rw [if_neg hin] at h5
          let K2 : Gh := { K with own := fun i => if i = ob then some (.vec b0 cap i'.size (len + m.length)) else K.own i }
          have hle2 : K.le K2 := Gh.le_renamed (o := ob) (e := .vec b0 cap i'.size n) (e' := .vec b0 cap i'.size (len + m.length)) rfl (fun _ _ _ h => h) hown (by simp [K2]) ⟨rfl, by omega, fun _ => ⟨rfl, rfl⟩⟩ (fun o' h => by simp [K2, h])
          have hrc : RelC K2 (cs.take (len * i'.size) ++ flat m) cells' := (relC_of rn rone).mono hle2
          refine ⟨K2, _, some (ob, _), _, _, .inl (exe (by rw [he, hxe]; exact hrun)), ⟨hle2, fun o' _ hn => ?_⟩, .vec ob _ b0 cap (VecOk.new (sz := i'.size) (by simp [K2])) hroom, ?_, h5⟩
          · have : o' ≠ ob := fun e => by subst e; rw [hown] at hn; simp at hn
            simp [K2, this, hn]
          · refine hs.write (e := .vec b0 cap i'.size n) (e' := .vec b0 cap i'.size (len + m.length)) hle2 hl hown rfl (fun o' h => by simp [K2, h]) (by simp [K2]) rfl rfl rfl rfl (by simp) (fun b' hb' => setRow_other w _ b' cells' hb')
              (fun i => frozen_loose hheap rfl) (fun i v hv => ?_) (fun b' i hb' => rfl) ⟨rfl, rfl, hlen2, ⟨hroom, hle.2⟩, hbase, ⟨cells', el, hheap, by rw [hcs, hc2], hrc.2⟩, hcl⟩
            have hv' : K.claim b0 i = some v := hv
            rw [hcl i] at hv'; simp at hv'
      · have hin : ¬ len + m.length ≤ n := by omega
        rw [if_neg hin] at h5
        have hge := grownCap_ge w (len + m.length) cap e
        have hrun := run_append_grow (P := P) w t o.type e i' zv ht hi hzv ⟨b0, 0, none⟩ len cap olds o1 o4 ⟨b, off, none⟩ m.length xc news m1 m4 (by omega) h63 (growslice_fits (by omega) hbm)
        obtain ⟨K', k2, k3, k4⟩ := hs.vecOld (olds.toArray ++ news.toArray ++ Builtin.zeroCells zv.cells (grownCap w (len + m.length) cap e - (len + m.length))) e (cs := cs.take (len * i'.size) ++ flat m) (sz := i'.size) (cap := grownCap w (len + m.length) cap e) (n := len + m.length)
          (by simp only [Array.size_append, zsz, List.size_toArray, m1, o1]; simp [← Nat.add_mul]; congr 1; omega) ⟨hge, fun _ => grownCap_le (by omega)⟩ hlen2 (relC_arr rn rone) hl hown (by omega) S
        refine ⟨K', _, some (ob, _), _, _, .inl (exe (by rw [he, hxe]; exact hrun)), k2, k3, k4, h5⟩
    · exact h4.elim
  · -- a slice that has no room
    rename_i l tk m tk2
    obtain ⟨⟨hl0, hm, hb⟩, h5⟩ := h4
    obtain ⟨xa, xc, hxe, hxs⟩ := src_reads hs rx hm
    have hml := flat_length hm
    have hll := flat_length hl0
    have scap : ∃ a0 cap, a.eval s = .slice a0 l.length cap ∧ l.length ≤ cap := by
      rcases rel_slice rs with ⟨a', cap', he, rfl, _⟩ | ⟨b, off, cap', sz', u, he, _, _, _, _, q5⟩
      · exact ⟨a', cap', he, Nat.zero_le _⟩
      · exact ⟨_, cap', he, q5⟩
    obtain ⟨a0, cap0, hse, hcap0⟩ := scap
    have zero : m = [] → (execOp a.eval o).run P w = .ok (.value (a.eval s)) w := by
      intro hm0
      refine exe ?_
      rw [hxe, hm0, hse]
      exact append_zero t o.type ht hi a0 l.length cap0 hcap0 xa xc w
    -- what lies there
    have main : (tk = .nil ∨ tk = .full) → m ≠ [] → ∃ K' v w', (execOp a.eval o).run P w = .ok (.value v) w' ∧ K.leS S K' ∧ Rel K' (.vec nm (l.length + m.length)) v ∧ Sat K' (upd σ nm (.vec i'.size (l.length + m.length) (flat l ++ flat m))) w' := by
      intro htk hm0
      have hmpos : 0 < m.length := List.length_pos_iff.2 hm0
      rcases hxs with hxs | ⟨b, off, rfl, news, m1, m2, m3, m4⟩
      · omega
      have hbm : (l.length + m.length) * i'.bytes ≤ 140737488355328 := by omega
      have h63 : ((l.length + m.length : Nat) : Int) ≤ 9223372036854775807 := by
        have := Nat.mul_le_mul_left (l.length + m.length) hby0; simp at this; omega
      obtain ⟨os, olds, o1, o2, o3, o4⟩ : ∃ os : Option Addr, ∃ olds : List Value, a.eval s = .slice os l.length l.length ∧ RelL K (flat l) olds ∧ (∀ u ∈ olds, u.oneCell' = true) ∧
          (os = none → l = []) ∧ ∀ ba, os = some ba → ∀ j u, olds[j]? = some u → w.cell? (ba.add j) = some u := by
        rcases rel_slice rs with ⟨a', cap', he, rfl, ht'⟩ | ⟨b', off', cap', sz', u, he, q1, q2, q3, ht', q5⟩
        · rcases htk with rfl | rfl
          · simp at ht'; obtain ⟨rfl, rfl⟩ := ht'
            exact ⟨none, [], he, .nil, by simp, fun _ => rfl, fun ba _ j u hj => by simp at hj⟩
          · simp at ht'; subst ht'
            exact ⟨a', [], he, .nil, by simp, fun _ => rfl, fun ba _ j u hj => by simp at hj⟩
        · rcases htk with rfl | rfl
          · exact ht'.elim
          have : cap' = l.length := ht'
          subst this
          refine ⟨_, (List.range (flat l).length).map u, he, ⟨by simp, fun i h1 h2 => by simpa using q3 i h1⟩, fun v hv => ?_, fun h => by simp at h, fun ba hba j v hj => ?_⟩
          · simp only [List.mem_map, List.mem_range] at hv
            obtain ⟨i, hi, rfl⟩ := hv
            exact hs.one _ _ _ (q2 i hi)
          · simp at hba; subst hba
            have hj' : j < (flat l).length := by
              rcases Nat.lt_or_ge j (flat l).length with h' | h'
              · exact h'
              · rw [List.getElem?_eq_none (by simpa using h')] at hj; simp at hj
            rw [List.getElem?_eq_getElem (by simpa using hj')] at hj
            simp at hj; subst hj
            rw [add_none]; exact hs.claim _ _ _ (q2 j hj')
      have hge := grownCap_ge w (l.length + m.length) l.length e
      have rn : RelL K (flat l ++ flat m) (olds ++ news) := o2.append m2
      have rone : ∀ u ∈ olds ++ news, u.oneCell' = true := fun u hu => by
        rcases List.mem_append.1 hu with h | h
        · exact o3 u h
        · exact m3 u h
      have ho2 : olds.length = l.length * i'.size := by rw [← o2.1, hll]
      obtain ⟨K', k2, k3, k4⟩ := hs.vecNew (olds.toArray ++ news.toArray ++ Builtin.zeroCells zv.cells (grownCap w (l.length + m.length) l.length e - (l.length + m.length))) e (cs := flat l ++ flat m) (sz := i'.size) (cap := grownCap w (l.length + m.length) l.length e) (n := l.length + m.length)
        (by simp only [Array.size_append, zsz, List.size_toArray, m1, ho2]; simp [← Nat.add_mul]; congr 1; omega) ⟨hge, fun _ => grownCap_le (by omega)⟩ (by rw [List.length_append, hll, hml, Nat.add_mul]) (relC_arr rn rone) hnm hS
      refine ⟨K', _, _, exe ?_, k2, k3, k4⟩
      rw [o1, hxe]
      cases os with
      | none =>
        have : l = [] := o4.1 rfl
        subst this
        have : olds = [] := by have := o2.1; simp [flat] at this; exact List.eq_nil_of_length_eq_zero this.symm
        subst this
        have hrun := run_append_nil (P := P) w t o.type e i' zv ht hi hzv ⟨b, off, none⟩ m.length xc news m1 m4 hmpos (by simpa using h63) (by simp at hbm; omega)
        simpa using hrun
      | some ba =>
        have hrun := run_append_grow (P := P) w t o.type e i' zv ht hi hzv ba l.length l.length olds ho2 (o4.2 ba rfl) ⟨b, off, none⟩ m.length xc news m1 m4 (by omega) h63 (growslice_fits (by omega) hbm)
        simpa using hrun
    cases tk with
    | no => exact h5.elim
    | own t => exact h5.elim
    | nil =>
      by_cases hm0 : m = []
      · exact ⟨K, _, none, _, _, .inl (zero hm0), Gh.leS.refl K, rs, hs, h5.1 hm0⟩
      · obtain ⟨K', v, w', q1, q2, q3, q4⟩ := main (.inl rfl) hm0
        exact ⟨K', _, some (nm, _), v, w', .inl q1, q2, q3, q4, h5.2 hm0⟩
    | full =>
      by_cases hm0 : m = []
      · exact ⟨K, _, none, _, _, .inl (zero hm0), Gh.leS.refl K, rs, hs, h5.1 hm0⟩
      · obtain ⟨K', v, w', q1, q2, q3, q4⟩ := main (.inr rfl) hm0
        exact ⟨K', _, some (nm, _), v, w', .inl q1, q2, q3, q4, h5.2 hm0⟩
  · exact h4.elim

/-! ### A map's entries, one by one; values in interfaces compared -/
theorem ok_rng {t x k e ax} (ho : o.op = .range t x) (hu : P.underlying t = some (.map k e)) (hx : trOpnd x = some ax) (h : exOpN nm env σ R (.ext (.rng ax))) : OpOk P o N env σ nm R := by
  intro S K a w hf hs hnm hS
  obtain ⟨mv, h1, h2⟩ := wth_some h
  have rm := trOpnd_rel hx h1 hf
  cases mv <;> simp only [] at h2 <;> first | exact h2.elim | skip
  rename_i ob
  obtain ⟨r, he, hown⟩ := rel_map rm
  split at h2
  · rename_i l hl
    obtain ⟨es, clock, hma⟩ := mapAt_of hs hl hown
    obtain ⟨d1, d2⟩ := hma.dense rfl
    have hsz : es.size = l.length := by have := hma.rel.1; simpa using this.symm
    have hp := pushed_mk w (.mapIter (some r) clock #[] clock)
    obtain ⟨k1, k2⟩ := hs.pushName hp trivial (fun _ => none) (fun i v e => by simp at e) hnm (.iter w.heap.size) rfl (.iter ob l.length [])
      ⟨by show K.base.heap.size ≤ _; exact hs.size, ⟨r, hown, by rw [← hsz, ← d1]; exact hp.new⟩, fun i => by simp [Gh.claimed]⟩
    refine ⟨_, _, some (nm, _), _, _, .inl ?_, ⟨k1, fun o' hs' hn => ?_⟩, .ptr nm 0 (.iter w.heap.size) (by simp [Gh.named]) rfl, k2, h2⟩
    · simp [execOp, ho, Instr.range, run_underlying' hu, he, MapKept.run_getObj_map hma.heap]
      rfl
    · have : o' ≠ nm := fun e => hS (e ▸ hs')
      simp [Gh.named, Gh.claimed, this, hn]
  · exact h2.elim
theorem iter_at {K : Gh} {w : World} (hs : Sat K σ w) {it m n : Nat} {seen : List Nat} {l : List (AV × AV)} {e0 : Own} (hit : σ it = some (.iter m n seen)) (q1 : K.own it = some e0) (hl : σ m = some (.map true l)) (hn : n = l.length) :
    ∃ rm es clock, K.base.heap.size ≤ e0.blk ∧ w.heap[e0.blk]? = some (.mapIter (some rm) l.length seen.toArray l.length) ∧ (∀ i, K.claim e0.blk i = none) ∧ e0.real = true ∧ e0 = .iter e0.blk ∧ K.own m = some (.map rm) ∧ MapAt K w rm true l es clock ∧ clock = es.size ∧ es.size = l.length ∧ ∀ i, (h : i < es.size) → es[i].born = i := by
  subst hn
  obtain ⟨e1, w1, w2⟩ := hs.live it _ hit
  rw [q1] at w1; cases w1
  cases e0 <;> simp only [ObjSat] at w2
  rename_i r
  obtain ⟨hbase, ⟨rm, hown, hheap⟩, hcl⟩ := w2
  obtain ⟨es, clock, hma⟩ := mapAt_of hs hl hown
  obtain ⟨d1, d2⟩ := hma.dense rfl
  have hsz : es.size = l.length := by have := hma.rel.1; simpa using this.symm
  exact ⟨rm, es, clock, hbase, hheap, hcl, rfl, rfl, hown, hma, d1, hsz, d2⟩
theorem ok_nxt {x ax} (ho : o.op = .next x false) (hx : trOpnd x = some ax) (h : exOpN nm env σ R (.ext (.nxt ax))) : OpOk P o N env σ nm R := by
  intro S K a w hf hs _ _
  obtain ⟨pv, h1, h2⟩ := wth_some h
  have rp := trOpnd_rel hx h1 hf
  cases pv <;> simp only [] at h2 <;> first | exact h2.elim | skip
  rename_i it off
  obtain ⟨e0, he, q1, q2⟩ := rel_ptr rp
  split at h2
  · rename_i m n seen hit
    split at h2
    · rename_i l hl
      obtain ⟨⟨rfl, hn⟩, hover, hstep⟩ := h2
      obtain ⟨rm, es, clock, hbase, hheap, hcl, hreal, he0, hown, hma, d1, hsz, d2⟩ := iter_at hs hit q1 hl hn
      subst hn
      have hold : ∀ y ∈ es.toList, y.born < l.length := fun y hy => by
        obtain ⟨i, hi, rfl⟩ := List.getElem_of_mem hy
        have hi' : i < es.size := by simpa using hi
        have := d2 i hi'
        simp only [Array.getElem_toList]
        omega
      have exe : ∀ {v : Value} {w' : World}, (Instr.next (.pointer (some ⟨e0.blk, 0, none⟩)) false o.type).run P w = .ok v w' → (execOp a.eval o).run P w = .ok (.value v) w' := fun hr => by
        simp [execOp, ho, he, hr]
      rcases run_next_at (P := P) w o.type e0.blk rm l.length l.length seen.toArray es clock hheap hma.heap hold (Nat.le_refl _) with ⟨h0, hrun⟩ | ⟨e, hel, w1, hw1, hrun⟩
      · refine ⟨K, .tup [.bool false], none, _, w, .inl (exe hrun), Gh.leS.refl K, .tupL (.cons (.bool _) .nil), hs, hover fun i hi => ?_⟩
        have hi' : i < es.size := by omega
        have h0' : leftOf es seen.toArray = #[] := Array.eq_empty_of_size_eq_zero h0
        unfold leftOf at h0'
        rw [Array.filter_eq_empty_iff] at h0'
        have := h0' es[i] (Array.getElem_mem hi')
        rw [d2 i hi'] at this
        simpa using this
      · unfold leftOf at hel
        simp only [Array.toList_filter, List.mem_filter, Array.mem_toList_iff] at hel
        obtain ⟨hem, hns⟩ := hel
        obtain ⟨i, hi, rfl⟩ := Array.getElem_of_mem hem
        have hbi := d2 i hi
        rw [hbi] at hns hrun
        have hil : i < l.length := by omega
        have hni : i ∉ seen := by simpa using hns
        obtain ⟨r1, r2⟩ := hma.rel.2 i hil (by simpa using hi)
        simp only [Array.getElem_toList] at r1 r2
        have hs1 : Sat K σ w1 := by
          rcases hw1 with rfl | rfl
          · exact hs
          · exact hs.same rfl rfl rfl rfl
        have hh1 : w1.heap = w.heap := by rcases hw1 with rfl | rfl <;> rfl
        have hlt : e0.blk < w1.heap.size := by
          rcases Nat.lt_or_ge e0.blk w1.heap.size with h | h
          · exact h
          · rw [hh1] at h; rw [Array.getElem?_eq_none h] at hheap; simp at hheap
        have hnew : (Go.ChangeMaps.setBlock w1 e0.blk (.mapIter (some rm) l.length (seen.toArray.push i) clock)).heap[e0.blk]? = some (.mapIter (some rm) l.length (seen.toArray.push i) clock) := by
          simp [Go.ChangeMaps.setBlock, hlt]
        refine ⟨K, _, some (it, _), _, _, .inl (exe hrun), Gh.leS.refl K, .tupL (.cons (.bool _) (.cons r1 (.cons r2 .nil))), ?_, hstep i hil hni⟩
        refine hs1.write (e := e0) (e' := e0) (Gh.le.refl K) hit q1 hreal (fun o' h => rfl) q1 rfl rfl rfl rfl (by simp [Go.ChangeMaps.setBlock]) (fun b hb => ?_) (fun j => frozen_loose hnew trivial) (fun j v hv => ?_) (fun b j hb => rfl) ?_
        · simp [Go.ChangeMaps.setBlock, Array.getElem?_setIfInBounds, Ne.symm hb]
        · rw [hcl j] at hv; simp at hv
        · rw [he0]
          refine ⟨hbase, ⟨rm, hown, ?_⟩, hcl⟩
          show (Go.ChangeMaps.setBlock w1 e0.blk _).heap[e0.blk]? = _
          rw [hnew, d1, hsz]
          simp
    · exact h2.elim
  · exact h2.elim
theorem ok_entr {x ax} (ho : o.op = .entry x) (hx : trOpnd x = some ax) (h : exOpN nm env σ R (.ext (.entr ax))) : OpOk P o N env σ nm R := by
  refine .still fun K a w hf hs => ?_
  obtain ⟨pv, h1, h2⟩ := wth_some h
  have rp := trOpnd_rel hx h1 hf
  cases pv <;> simp only [] at h2 <;> first | exact h2.elim | skip
  rename_i it off
  obtain ⟨e0, he, q1, q2⟩ := rel_ptr rp
  split at h2
  · rename_i m n seen hit
    split at h2
    · rename_i l hl
      obtain ⟨⟨rfl, hn⟩, h3⟩ := h2
      obtain ⟨rm, es, clock, hbase, hheap, hcl, hreal, he0, hown, hma, d1, hsz, d2⟩ := iter_at hs hit q1 hl hn
      obtain ⟨p, h4, h5⟩ := lkm_some h3
      simp only [Option.bind_eq_some_iff] at h4
      obtain ⟨i, h6, h7⟩ := h4
      have hil : i < l.length := by
        rcases Nat.lt_or_ge i l.length with h | h
        · exact h
        · rw [List.getElem?_eq_none h] at h7; simp at h7
      have hi : i < es.size := by omega
      obtain ⟨r1, r2⟩ := hma.rel.2 i hil (by simpa using hi)
      rw [List.getElem?_eq_getElem hil] at h7
      obtain rfl := Option.some.inj h7
      simp only [Array.getElem_toList] at r1 r2
      have hseen : seen.toArray = seen.dropLast.toArray.push es[i].born := by
        rw [d2 i hi]
        have : seen = seen.dropLast ++ [i] := by
          rw [List.getLast?_eq_some_iff] at h6
          obtain ⟨ys, rfl⟩ := h6
          simp
        apply Array.ext'
        simpa using this
      rw [hseen] at hheap
      have hrun := run_entry_at (P := P) w e0.blk rm l.length seen.dropLast.toArray es l.length es[i] hheap (by rw [← hsz, ← d1]; exact hma.heap) (by simp) (by
        have : es.toList.map (·.born) = List.range es.size := List.ext_getElem (by simp) fun j h1 h2 => by
          simp only [List.getElem_map, Array.getElem_toList, List.getElem_range]
          exact d2 j (by simpa using h1)
        rw [this]; exact List.nodup_range)
      exact ⟨_, _, by simp [execOp, ho, he, hrun] <;> rfl, .tupL (.cons r1 (.cons r2 .nil)), h5⟩
    · exact h2.elim
  · exact h2.elim
theorem kGet_mem {t : Nat} {kk : Option Nat} : ∀ {l : List (Nat × Option Nat)}, kGet t l = some kk → (t, kk) ∈ l
  | [], h => by simp [kGet] at h
  | (a, k) :: r, h => by
    simp only [kGet] at h
    split at h
    · rename_i e; subst e
      simp at h; subst h; simp
    · exact List.mem_cons_of_mem _ (kGet_mem h)
theorem cmpTbl_mem {P : Program} {t u : TypeId} {kk : Option Nat} (h : (u, kk) ∈ cmpTbl P t) : ∃ i, P.info? u = some i ∧ i.comparable = true ∧ ((∃ k, kk = some k ∧ kindOf P u = some k) ∨ (kk = none ∧ P.underlying u = some (.struct #[]) ∧ P.stoodInHeld u = false)) := by
  unfold cmpTbl at h
  split at h
  · rename_i ms _
    simp only [List.mem_filterMap, List.mem_range] at h
    obtain ⟨v, _, h⟩ := h
    split at h
    · rename_i i hi
      split at h
      · rename_i hc
        simp only [Bool.and_eq_true] at hc
        split at h
        · rename_i k hk
          simp at h; obtain ⟨rfl, rfl⟩ := h
          exact ⟨i, hi, hc.1, .inl ⟨k, rfl, hk⟩⟩
        · split at h
          · rename_i fs hfs
            split at h
            · rename_i he
              simp only [Bool.and_eq_true, Bool.not_eq_true', Array.isEmpty_iff] at he
              simp at h; obtain ⟨rfl, rfl⟩ := h
              exact ⟨i, hi, hc.1, .inr ⟨rfl, by rw [hfs, he.1], he.2⟩⟩
            · simp at h
          · simp at h
      · simp at h
    · simp at h
  · simp at h
theorem iface_under {P : Program} {t : TypeId} (h : isIfaceT P t = true) : ∃ ms, P.underlying t = some (.interface ms) := by
  unfold isIfaceT at h
  split at h
  · exact ⟨_, by assumption⟩
  · simp at h
theorem eqI1_none {u v : AV} {r : Bool} (h : eqI1 none u v = some r) : u = .agg [] ∧ v = .agg [] ∧ r = true := by
  by_cases hu : u = .agg []
  · subst hu
    by_cases hv : v = .agg []
    · subst hv
      simp [eqI1] at h
      exact ⟨rfl, rfl, h⟩
    · have : eqI1 none (.agg []) v = none := by
        cases v <;> try rfl
        rename_i l
        cases l with
        | nil => exact absurd rfl hv
        | cons x l => rfl
      rw [this] at h; simp at h
  · have : eqI1 none u v = none := by
      cases u <;> try rfl
      rename_i l
      cases l with
      | nil => exact absurd rfl hu
      | cons x l => rfl
    rw [this] at h; simp at h
theorem ok_eqI {op t x y yt neg ax ay} (ho : o.op = .binOp op t x y yt) (hop : op = .eql ∧ neg = false ∨ op = .neq ∧ neg = true) (hp : isIfaceT P t = true) (hx : trOpnd x = some ax) (hy : trOpnd y = some ay)
    (h : exOpN nm env σ R (.ext (.eqI neg (cmpTbl P t) ax ay))) : OpOk P o N env σ nm R := by
  refine .still fun K a w hf hs => ?_
  obtain ⟨av, h1, h2⟩ := wth_some h
  obtain ⟨bv, h3, h4⟩ := wth_some h2
  have ra := trOpnd_rel hx h1 hf
  have rb := trOpnd_rel hy h3 hf
  obtain ⟨ms, hu⟩ := iface_under hp
  split at h4
  · rename_i tx u ty v
    obtain ⟨vu, eu, ru⟩ : ∃ vu, a.eval x = .iface tx vu ∧ Rel K u vu := by
      generalize a.eval x = z at ra
      cases ra with | iface _ _ z h => exact ⟨z, rfl, h⟩
    obtain ⟨vv, ev, rv⟩ : ∃ vv, a.eval y = .iface ty vv ∧ Rel K v vv := by
      generalize a.eval y = z at rb
      cases rb with | iface _ _ z h => exact ⟨z, rfl, h⟩
    have key : ∀ r : Bool, (Op.equal t (.iface tx vu) (.iface ty vv)).run P w = .ok r w → (execOp a.eval o).run P w = .ok (.value (.bool (if neg then !r else r))) w := fun r hr => by
      have hg : ∀ op, (eqGuard op t x y (.iface tx vu) (.iface ty vv)).run P w = .ok () w := fun op => eqGuard_plain op t x y _ _ w (by simp) (by simp)
      rcases hop with ⟨rfl, rfl⟩ | ⟨rfl, rfl⟩
      · simp [execOp, ho, eu, ev, hg, Go.binOp, hr]
      · simp [execOp, ho, eu, ev, hg, Go.binOp, hr]
    by_cases htt : tx = ty
    · subst htt
      rw [if_pos rfl] at h4
      obtain ⟨kk, h5, h6⟩ := lkm_some h4
      obtain ⟨r, h7, h8⟩ := lkm_some h6
      obtain ⟨i, i1, i2, i3⟩ := cmpTbl_mem (kGet_mem h5)
      have hin : (Op.equalIn 9999 tx vu vv).run P w = .ok r w := by
        rcases i3 with ⟨k, rfl, hk⟩ | ⟨rfl, hst, hsi⟩
        · exact run_eq1 hk ru rv h7 9998 w
        · obtain ⟨rfl, rfl, rfl⟩ := eqI1_none h7
          have e1 : vu = .agg #[] := by
            cases ru with | agg _ vs hs hr => simp at hs; rw [Array.eq_empty_of_size_eq_zero hs.symm]
          have e2 : vv = .agg #[] := by
            cases rv with | agg _ vs hs hr => simp at hs; rw [Array.eq_empty_of_size_eq_zero hs.symm]
          subst e1 e2
          have hfo : P.fieldsOf tx = #[] := by simp [Program.fieldsOf, hst]
          have := run_equalIn_struct (P := P) w 9998 tx #[] #[] (by rw [hfo]; exact hst) hsi
          rw [this, hfo]; simp [Op.eqFields]
      refine ⟨_, _, key r ?_, .bool _, h8⟩
      show (Op.equalIn 10000 t (.iface tx vu) (.iface tx vv)).run P w = _
      rw [show (10000 : Nat) = 9999 + 1 from rfl, Op.equalIn]
      simp [run_underlying' hu, typeInfo, i1, i2, hin]
    · rw [if_neg htt] at h4
      refine ⟨_, _, key false ?_, .bool _, by simpa using h4⟩
      show (Op.equalIn 10000 t (.iface tx vu) (.iface ty vv)).run P w = _
      rw [show (10000 : Nat) = 9999 + 1 from rfl, Op.equalIn]
      simp [run_underlying' hu, htt]
  · exact h4.elim
theorem fGet_mem {t f : Nat} : ∀ {l : List (Nat × Nat)}, fGet t l = some f → (t, f) ∈ l
  | [], h => by simp [fGet] at h
  | (a, k) :: r, h => by
    simp only [fGet] at h
    split at h
    · rename_i e; subst e
      simp at h; subst h; simp
    · exact List.mem_cons_of_mem _ (fGet_mem h)
theorem methTbl_mem {P : Program} {name : String} {t f : Nat} (h : (t, f) ∈ methTbl P name) : ∃ i m, P.info? t = some i ∧ i.methods.find? (·.name == name) = some m ∧ m.path.isEmpty = true ∧ m.func = some (f, false) ∧ okRecv P t = true := by
  unfold methTbl at h
  simp only [List.mem_filterMap, List.mem_range] at h
  obtain ⟨v, _, h⟩ := h
  split at h
  · rename_i i hi
    split at h
    · rename_i m hm
      split at h
      · rename_i hp
        split at h
        · rename_i g hg
          split at h
          · rename_i hr
            simp at h; obtain ⟨rfl, rfl⟩ := h
            exact ⟨i, m, hi, hm, hp, hg, hr⟩
          · simp at h
        · simp at h
      · simp at h
    · simp at h
  · simp at h
theorem meth_run {P : Program} {name : String} {t f : Nat} (h : (t, f) ∈ methTbl P name) (k : Nat) (v : Value) (w : World) : (Go.method (k + 1) t v name).run P w = .ok (f, v) w := by
  obtain ⟨i, m, h1, h2, h3, h4, h5⟩ := methTbl_mem h
  have h3' : m.path = #[] := by simpa using h3
  have hr : ∀ nm : Option String, (receiverAt t (.val v) false nm).run P w = .ok v w := fun nm => by
    unfold okRecv at h5
    split at h5 <;> first | (simp at h5; done) | skip
    all_goals
      rename_i hu
      simp [receiverAt, run_underlying' hu, Place.get]
  simp [Go.method, typeInfo, h1, h2, h3', h4, follow, hr]
end ops
end Abs

