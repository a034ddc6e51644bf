/- The abstraction layer, part W: a function that defers one call. Over any program. -/
import GoSem.ClaimChange
import Derived.OpenShut
import Derived.ChangeSame
import Derived.WideKeyArgs
import Derived.Below
import Derived.ProofKit
import Derived.RowKit
import Derived.Defers
import Derived.Recover
import Derived.Test.YtbbihmmobfmadaaGreatOAbsS
set_option linter.unusedSimpArgs false
set_option linter.unusedVariables false
namespace Abs
open Go
def isAgg (P : Program) (t : TypeId) : Bool :=
  match P.underlying t with
  | some (.struct _) => true
  | some (.array _ _) => true
  | _ => false
def laid (P : Program) : List Field → Nat → Nat → Bool
  | [], off, n => off == n
  | f :: fs, off, n => f.offset == off && laid P fs (off + P.cellsOf f.type) n
def plainTy (P : Program) : Nat → TypeId → Bool
  | 0, _ => false
  | g + 1, t =>
    match P.underlying t with
    | some .bool => P.cellsOf t == 1
    | some (.int _) => P.cellsOf t == 1
    | some .string => P.cellsOf t == 1
    | some (.slice e) => P.cellsOf t == 1 && plainTy P g e && decide (0 < P.cellsOf e)
    | some (.struct fs) => fs.toList.all (fun f => plainTy P g f.type) && laid P fs.toList 0 (P.cellsOf t)
    | some (.array n e) => plainTy P g e && n * P.cellsOf e == P.cellsOf t
    | _ => false
def CellsL (C : TypeId → List AV → Prop) : List TypeId → List AV → Prop
  | [], cs => cs = []
  | t :: ts, cs => ∃ p q, cs = p ++ q ∧ C t p ∧ CellsL C ts q
def Cells (P : Program) : Nat → TypeId → List AV → Prop
  | 0, _, _ => False
  | g + 1, t, cs =>
    match P.underlying t with
    | some .bool => ∃ b, cs = [.bool b]
    | some (.int k) => ∃ n, cs = [.int k n] ∧ k.min ≤ n ∧ n ≤ k.max
    | some .string => ∃ s : ByteArray, cs = [.str s] ∧ s.size ≤ maxLen
    | some (.slice e) => ∃ l, cs = [.slice l .no] ∧ l.length ≤ maxLen ∧ ∀ x ∈ l, ∃ es, mkv (isAgg P e) es = some x ∧ Cells P g e es
    | some (.struct fs) => CellsL (Cells P g) (fs.toList.map (·.type)) cs
    | some (.array n e) => CellsL (Cells P g) (List.replicate n e) cs
    | _ => False
def claimAll (W : World) (b o : Nat) : Option Value := if b < W.heap.size then (W.cell? ⟨b, o, none⟩).filter (·.oneCell') else none
def ghOf (W : World) : Gh := { base := W, claim := claimAll W, own := fun _ => none, ds := [] }
theorem ghOf_sat (W : World) : Sat (ghOf W) (fun _ => none) W where
  os := rfl
  tape := rfl
  output := rfl
  size := Nat.le_refl _
  old := fun _ _ => rfl
  free := fun b o h => by
    have : W.heap[b]? = none := by simp [ghOf] at h ⊢; omega
    simp [World.frozen?, this]
  claim := fun b o v h => by
    simp only [ghOf, claimAll] at h
    split at h
    · simp at h; exact h.1
    · simp at h
  one := fun b o v h => by
    simp only [ghOf, claimAll] at h
    split at h
    · simp at h; exact h.2
    · simp at h
  live := fun o x h => by simp at h
  apart := fun o o' x x' e e' h => by simp at h
  room := ⟨0, fun _ _ => rfl⟩
theorem sat_grown {K : Gh} {σ : Sig} {W w : World} (hK : K.base = W) (h : Sat K σ w) : Go.RowKit.Grown W w := by
  subst hK
  refine ⟨⟨h.os, h.output, fun i hi => ?_⟩, fun a => ?_, h.size⟩
  · rw [h.old i hi]
    generalize K.base.heap[i]? = x
    cases x with
    | none => rfl
    | some x =>
      cases x with
      | cells c t fr => exact ⟨rfl, rfl, rfl, fun _ _ => rfl⟩
      | map es clock => exact .inr ⟨rfl, rfl⟩
      | _ => rfl
  · rcases Nat.lt_or_ge a.block K.base.heap.size with hb | hb
    · simp only [World.frozen?, h.old _ hb]
    · have h1 := h.free a.block a.off hb
      have h2 : K.base.heap[a.block]? = none := by simp; omega
      have e1 : w.frozen? a = w.frozen? ⟨a.block, a.off, none⟩ := rfl
      rw [e1, h1]
      simp [World.frozen?, h2]
theorem mapM_mem {α β : Type} {g : α → Option β} : ∀ {l : List α} {ys : List β}, l.mapM g = some ys → ∀ a ∈ l, ∃ b, g a = some b
  | [], _, _, a, ha => by simp at ha
  | x :: l, ys, h, a, ha => by
    simp only [List.mapM_cons, Option.bind_eq_bind, Option.bind_eq_some_iff, Option.pure_def, Option.some.injEq] at h
    obtain ⟨y, h1, zs, h2, _⟩ := h
    rcases List.mem_cons.1 ha with rfl | ha
    · exact ⟨y, h1⟩
    · exact mapM_mem h2 a ha
theorem mapM_get {α β : Type} {g : α → Option β} : ∀ {l : List α} {ys : List β}, l.mapM g = some ys → ys.length = l.length ∧ ∀ (i : Nat) a y, l[i]? = some a → ys[i]? = some y → g a = some y
  | [], ys, h => by simp at h; subst h; simp
  | x :: l, ys, h => by
    simp only [List.mapM_cons, Option.bind_eq_bind, Option.bind_eq_some_iff, Option.pure_def, Option.some.injEq] at h
    obtain ⟨y, h1, zs, h2, rfl⟩ := h
    obtain ⟨q1, q2⟩ := mapM_get h2
    refine ⟨by simp [q1], fun i a y' ha hy => ?_⟩
    cases i with
    | zero => simp at ha hy; subst ha; subst hy; exact h1
    | succ i => exact q2 i a y' (by simpa using ha) (by simpa using hy)
theorem build_list {α : Type} {p : Nat → α → Prop} : ∀ n, (∀ i, i < n → ∃ x, p i x) → ∃ l : List α, l.length = n ∧ ∀ (i : Nat) x, l[i]? = some x → p i x
  | 0, _ => ⟨[], rfl, by simp⟩
  | n + 1, h => by
    obtain ⟨l, h1, h2⟩ := build_list n fun i hi => h i (by omega)
    obtain ⟨x, hx⟩ := h n (by omega)
    refine ⟨l ++ [x], by simp [h1], fun i y hy => ?_⟩
    rcases Nat.lt_or_ge i l.length with hi | hi
    · rw [List.getElem?_append_left hi] at hy; exact h2 i y hy
    · rw [List.getElem?_append_right hi] at hy
      have : i - l.length = 0 := by
        rcases Nat.eq_zero_or_pos (i - l.length) with h0 | h0
        · exact h0
        · rw [List.getElem?_eq_none (by simp; omega)] at hy; simp at hy
      rw [this] at hy; simp at hy; subst hy
      have : i = n := by omega
      subst this; exact hx
def Opened (P : Program) (W : World) (g : Nat) (t : TypeId) (cs : List Value) : Prop :=
  ∃ as_, RelL (ghOf W) as_ cs ∧ Cells P g t as_ ∧ as_.all oneA = true ∧ as_.length = P.cellsOf t
theorem opened_fields {P : Program} {W : World} {g n : Nat} {cs : List Value} (hn : cs.length = n) : ∀ (fs : List Field) (off : Nat), laid P fs off n = true → off ≤ n →
    (∀ f ∈ fs, Opened P W g f.type ((cs.drop f.offset).take (P.cellsOf f.type))) → ∃ as_, RelL (ghOf W) as_ (cs.drop off) ∧ CellsL (Cells P g) (fs.map (·.type)) as_ ∧ as_.all oneA = true
  | [], off, hl, ho, _ => by
    simp [laid] at hl; subst hl
    refine ⟨[], ?_, rfl, rfl⟩
    rw [List.drop_eq_nil_of_le (by omega)]
    exact .nil
  | f :: fs, off, hl, ho, h => by
    simp only [laid, Bool.and_eq_true, beq_iff_eq] at hl
    obtain ⟨rfl, hl⟩ := hl
    obtain ⟨as_, h1, h2, h3, h4⟩ := h f (by simp)
    have hle : f.offset + P.cellsOf f.type ≤ n := by
      have := h1.1
      rw [h4] at this
      simp at this
      omega
    obtain ⟨bs, k1, k2, k3⟩ := opened_fields hn fs _ hl hle fun f' hf' => h f' (by simp [hf'])
    refine ⟨as_ ++ bs, ?_, ⟨as_, bs, rfl, h2, k2⟩, by simp [List.all_append, h3, k3]⟩
    have e : cs.drop f.offset = (cs.drop f.offset).take (P.cellsOf f.type) ++ cs.drop (f.offset + P.cellsOf f.type) := by
      rw [← List.drop_drop, List.take_append_drop]
    rw [e]
    exact h1.append k1
theorem opened_array {P : Program} {W : World} {g : Nat} {e : TypeId} {cs : List Value} : ∀ (m k : Nat), cs.length = (k + m) * P.cellsOf e →
    (∀ i, k ≤ i → i < k + m → Opened P W g e ((cs.drop (i * P.cellsOf e)).take (P.cellsOf e))) → ∃ as_, RelL (ghOf W) as_ (cs.drop (k * P.cellsOf e)) ∧ CellsL (Cells P g) (List.replicate m e) as_ ∧ as_.all oneA = true
  | 0, k, hl, _ => by
    refine ⟨[], ?_, rfl, rfl⟩
    rw [List.drop_eq_nil_of_le (by simp at hl; omega)]
    exact .nil
  | m + 1, k, hl, h => by
    obtain ⟨as_, h1, h2, h3, h4⟩ := h k (by omega) (by omega)
    obtain ⟨bs, k1, k2, k3⟩ := opened_array (P := P) (W := W) (g := g) (e := e) (cs := cs) m (k + 1) (by rw [hl]; congr 1; omega) fun i h1 h2 => h i (by omega) (by omega)
    refine ⟨as_ ++ bs, ?_, by rw [List.replicate_succ]; exact ⟨as_, bs, rfl, h2, k2⟩, by simp [List.all_append, h3, k3]⟩
    have e' : cs.drop (k * P.cellsOf e) = (cs.drop (k * P.cellsOf e)).take (P.cellsOf e) ++ cs.drop ((k + 1) * P.cellsOf e) := by
      rw [Nat.succ_mul, ← List.drop_drop, List.take_append_drop]
    rw [e']
    exact h1.append k1
theorem cell_addr {W : World} {a : Addr} {v : Value} (h : W.cell? a = some v) : a.spot = none ∧ a.block < W.heap.size := by
  unfold World.cell? at h
  split at h
  · rename_i c el fr hc
    refine ⟨?_, ?_⟩
    · cases hs : a.spot with
      | none => rfl
      | some s => simp [hs] at h
    · rcases Nat.lt_or_ge a.block W.heap.size with h' | h'
      · exact h'
      · simp [Array.getElem?_eq_none h'] at hc
  · simp at h
theorem add_spot {a : Addr} (h : a.spot = none) (n : Nat) : a.add n = ⟨a.block, a.off + n, none⟩ := by
  unfold Addr.add
  split
  · rename_i hn; subst hn; cases a; simp at h; subst h; rfl
  · rfl
theorem claim_all {W : World} {b o : Nat} {v : Value} (h : W.cell? ⟨b, o, none⟩ = some v) (h1 : v.oneCell' = true) : (ghOf W).claim b o = some v := by
  have := (cell_addr h).2
  simp only [ghOf, claimAll]
  rw [if_pos this, h]
  simp [h1]
theorem mkv_cells {g : Bool} {es : List AV} {x : AV} (h : mkv g es = some x) (h1 : es.all oneA = true) (hg : g = false → es.length = 1) : cellsA x = es := by
  unfold mkv at h
  cases g with
  | true => simp at h; subst h; rfl
  | false =>
    have := hg rfl
    match es, this with
    | [v], _ =>
      simp at h; subst h
      simp at h1
      cases v <;> simp [oneA] at h1 <;> rfl
theorem plain_one {P : Program} {g : Nat} {t : TypeId} (h : plainTy P g t = true) (ha : isAgg P t = false) : P.cellsOf t = 1 := by
  cases g with
  | zero => simp [plainTy] at h
  | succ g =>
    unfold plainTy at h
    unfold isAgg at ha
    split at h <;> simp_all
theorem opened_slice {P : Program} {W : World} {g : Nat} {t e : TypeId} {a : Addr} {len cap : Nat} (ht : P.underlying t = some (.slice e)) (h1 : P.cellsOf t = 1) (hpe : plainTy P g e = true) (hpos : 0 < P.cellsOf e) (hlc : len ≤ cap) (hcm : cap ≤ maxLen)
    (hel : ∀ i, i < len → ∃ es, W.cells? 0 (a.add (i * P.cellsOf e)) (P.cellsOf e) = some es ∧ Opened P W g e es) : Opened P W (g + 1) t [.slice (some a) len cap] := by
  rcases Nat.eq_zero_or_pos len with hz | hz
  · subst hz
    refine ⟨[.slice [] .no], .cons (.sl0 (some a) cap .no (.inl rfl)) .nil, ?_, rfl, by rw [h1]; rfl⟩
    simp only [Cells, ht]
    exact ⟨[], rfl, by simp, by simp⟩
  let p : Nat → AV → Prop := fun i x => ∃ es as_, W.cells? 0 (a.add (i * P.cellsOf e)) (P.cellsOf e) = some es ∧ RelL (ghOf W) as_ es ∧ Cells P g e as_ ∧ as_.all oneA = true ∧ mkv (isAgg P e) as_ = some x ∧ cellsA x = as_ ∧ as_.length = P.cellsOf e
  have hp : ∀ i, i < len → ∃ x, p i x := by
    intro i hi
    obtain ⟨es, q1, as_, q2, q3, q4, q5⟩ := hel i hi
    have hmk : ∃ x, mkv (isAgg P e) as_ = some x := by
      unfold mkv
      split
      · exact ⟨_, rfl⟩
      · match as_, q5 with
        | [], q5 => simp at q5; omega
        | v :: r, _ => exact ⟨v, rfl⟩
    obtain ⟨x, hx⟩ := hmk
    exact ⟨x, es, as_, q1, q2, q3, q4, hx, mkv_cells hx q4 (fun hg => by rw [q5]; exact plain_one hpe hg), q5⟩
  obtain ⟨l, hl, hg⟩ := build_list len hp
  have hsz : ∀ x ∈ l, (cellsA x).length = P.cellsOf e := by
    intro x hx
    obtain ⟨i, hi⟩ := List.getElem?_of_mem hx
    obtain ⟨es, as_, _, _, _, _, _, q, q'⟩ := hg i x hi
    rw [q, q']
  -- the address
  have ha : a.spot = none := by
    obtain ⟨es, q1, _⟩ := hel 0 hz
    unfold World.cells? at q1
    rw [if_pos (Nat.zero_le _)] at q1
    obtain ⟨v, hv⟩ := mapM_mem q1 0 (by simpa using hpos)
    have := (cell_addr hv).1
    simp [Addr.add] at this
    exact this
  -- one cell of it
  have hcell : ∀ i, (hi : i < (flat l).length) → ∃ v, W.cell? ⟨a.block, a.off + i, none⟩ = some v ∧ Rel (ghOf W) (flat l)[i] v ∧ v.oneCell' = true := by
    intro i hi
    have hfl := flat_length hsz
    have hq : i / P.cellsOf e < l.length := by
      rw [Nat.div_lt_iff_lt_mul hpos]; rw [← hfl]; exact hi
    have hr : i % P.cellsOf e < P.cellsOf e := Nat.mod_lt _ hpos
    have hx : l[i / P.cellsOf e]? = some l[i / P.cellsOf e] := List.getElem?_eq_getElem hq
    obtain ⟨es, as_, q1, q2, _, q4, _, q6, q7⟩ := hg _ _ hx
    have hat := flat_at hsz hx
    unfold World.cells? at q1
    rw [if_pos (Nat.zero_le _)] at q1
    obtain ⟨m1, m2⟩ := mapM_get q1
    have hes : es.length = P.cellsOf e := by simpa using m1
    have hv := m2 (i % P.cellsOf e) (i % P.cellsOf e) (es[i % P.cellsOf e]'(by omega)) (by simp [hr]) (List.getElem?_eq_getElem (by omega))
    rw [add_spot ha, add_spot (a := ⟨a.block, _, none⟩) rfl] at hv
    simp only [Nat.add_assoc] at hv
    have hdm : i / P.cellsOf e * P.cellsOf e + i % P.cellsOf e = i := Nat.div_add_mod' i _
    rw [hdm] at hv
    refine ⟨_, hv, ?_, ?_⟩
    · have hrel := q2.2 (i % P.cellsOf e) (by omega) (by omega)
      have : (flat l)[i]? = some (as_[i % P.cellsOf e]'(by omega)) := by
        have h5 := congrArg (fun z => z[i % P.cellsOf e]?) hat
        simp only [q6] at h5
        rw [List.getElem?_take_of_lt hr, List.getElem?_drop, hdm] at h5
        rw [h5]; exact List.getElem?_eq_getElem (by omega)
      rw [List.getElem?_eq_getElem hi] at this
      rw [Option.some.inj this]; exact hrel
    · exact q2.ones q4 _ _
  let vv : Nat → Value := fun i => (W.cell? ⟨a.block, a.off + i, none⟩).getD undef
  refine ⟨[.slice l .no], .cons ?_ .nil, ?_, rfl, by rw [h1]; rfl⟩
  · have e1 : a = ⟨a.block, a.off, none⟩ := by cases a; simp at ha; subst ha; rfl
    rw [e1, ← hl]
    refine .slice l .no a.block a.off cap (P.cellsOf e) vv hsz (fun i hi => ?_) (fun i hi => ?_) trivial (by omega)
    · obtain ⟨v, k1, _, k3⟩ := hcell i hi
      simp only [vv, k1, Option.getD_some]
      exact claim_all k1 k3
    · obtain ⟨v, k1, k2, _⟩ := hcell i hi
      simp only [vv, k1, Option.getD_some]
      exact k2
  · simp only [Cells, ht]
    refine ⟨l, rfl, by omega, fun x hx => ?_⟩
    obtain ⟨i, hi⟩ := List.getElem?_of_mem hx
    obtain ⟨es, as_, _, _, q3, _, q5, _⟩ := hg i x hi
    exact ⟨as_, q5, q3⟩
theorem open_trod {H : Type} {enc : TypeId × Value → H} {P : Program} {W : World} {sp : Nat → Bool} {held : Bool} : ∀ (fuel g : Nat) (t : TypeId) (cs : List Value) (d : DataW H) (ps : List MemPlace),
    DataW.trod enc P W 0 sp held fuel t cs = some (d, ps) → plainTy P g t = true → Opened P W g t cs
  | 0, _, _, _, _, _, h, _ => by simp [DataW.trod] at h
  | fuel + 1, 0, _, _, _, _, _, h => by simp [plainTy] at h
  | fuel + 1, g + 1, t, cs, d, ps, h, hp => by
    have ih := open_trod (H := H) (enc := enc) (P := P) (W := W) (sp := sp) (held := held) fuel g
    simp only [DataW.trod] at h
    simp only [plainTy] at hp
    split at h
    case h_1 b hu =>
      rw [hu] at hp
      refine ⟨[.bool b], .cons (.bool b) .nil, ?_, rfl, by simpa using (beq_iff_eq.1 hp).symm⟩
      simp only [Cells, hu]; exact ⟨b, rfl⟩
    case h_2 k k' n hu =>
      rw [hu] at hp
      split at h <;> simp at h
      rename_i hc
      obtain ⟨rfl, hwf⟩ := hc
      refine ⟨[.int k' n], .cons (.int k' n) .nil, ?_, rfl, by simpa using (beq_iff_eq.1 hp).symm⟩
      simp only [Cells, hu]
      simp [Lit.wf] at hwf
      exact ⟨n, rfl, hwf.1, hwf.2⟩
    case h_4 s hu =>
      rw [hu] at hp
      split at h <;> simp at h
      rename_i hc
      refine ⟨[.str s], .cons (.str s) .nil, ?_, rfl, by simpa using (beq_iff_eq.1 hp).symm⟩
      simp only [Cells, hu]
      exact ⟨s, rfl, hc⟩
    all_goals first
      | (rename_i hu; rw [hu] at hp; simp at hp; done)
      | (rename_i hu _; rw [hu] at hp; simp at hp; done)
      | (simp at h; done)
      | skip
    case h_7 e hu =>
      rw [hu] at hp
      simp only [Bool.and_eq_true, beq_iff_eq] at hp
      refine ⟨[.slice [] .no], .cons (.sl0 none 0 .no (.inl rfl)) .nil, ?_, rfl, by rw [hp.1.1]; rfl⟩
      simp only [Cells, hu]
      exact ⟨[], rfl, by simp, by simp⟩
    case h_8 e a len cap hu =>
      rw [hu] at hp
      simp only [Bool.and_eq_true, beq_iff_eq, decide_eq_true_eq] at hp
      obtain ⟨⟨h1, h2⟩, h3⟩ := hp
      split at h
      · rename_i hc
        obtain ⟨c1, c2, c3⟩ := hc
        simp only [Option.bind_eq_some_iff] at h
        obtain ⟨elems, he, _⟩ := h
        refine opened_slice hu h1 h2 h3 c2 c3 fun i hi => ?_
        obtain ⟨y, hy⟩ := mapM_mem he i (by simpa using hi)
        simp only [Option.bind_eq_some_iff] at hy
        obtain ⟨es, q1, q2⟩ := hy
        exact ⟨es, q1, ih e es _ _ q2 h2⟩
      · simp at h
    case h_9 fs hu =>
      rw [hu] at hp
      simp only [Bool.and_eq_true, List.all_eq_true] at hp
      obtain ⟨h1, h2⟩ := hp
      split at h
      · rename_i hlen
        simp only [Option.map_eq_some_iff] at h
        obtain ⟨xs, hx, _⟩ := h
        obtain ⟨as_, k1, k2, k3⟩ := opened_fields (P := P) (W := W) (g := g) hlen fs.toList 0 h2 (Nat.zero_le _) fun f hf => by
          obtain ⟨y, hy⟩ := mapM_mem hx f hf
          exact ih _ _ _ _ hy (h1 f hf)
        rw [List.drop_zero] at k1
        refine ⟨as_, k1, ?_, k3, by rw [k1.1, hlen]⟩
        simp only [Cells, hu]; exact k2
      · simp at h
    case h_10 n e hu =>
      rw [hu] at hp
      simp only [Bool.and_eq_true, beq_iff_eq] at hp
      obtain ⟨h1, h2⟩ := hp
      split at h
      · rename_i hlen
        simp only [Option.map_eq_some_iff] at h
        obtain ⟨xs, hx, _⟩ := h
        obtain ⟨as_, k1, k2, k3⟩ := opened_array (P := P) (W := W) (g := g) (e := e) n 0 (by rw [hlen, ← h2]; simp) fun i _ hi => by
          obtain ⟨y, hy⟩ := mapM_mem hx i (by simpa using hi)
          exact ih _ _ _ _ hy h1
        rw [Nat.zero_mul, List.drop_zero] at k1
        refine ⟨as_, k1, ?_, k3, by rw [k1.1, hlen]⟩
        simp only [Cells, hu]; exact k2
      · simp at h
theorem open_arg {H : Type} {enc : TypeId × Value → H} {P : Program} {W : World} {sp : Nat → Bool} {held : Bool} {r : Reach} {base g : Nat} {t : TypeId} {v : Value} {d : DataW H} {ps : List MemPlace}
    (hv : Value.okWide P W r base t v) (hd : DataW.Trod enc P W 0 sp held t v d ps) (hp : plainTy P g t = true) : ∃ es a, mkv (isAgg P t) es = some a ∧ Cells P g t es ∧ Rel (ghOf W) a v := by
  obtain ⟨fuel, hd⟩ := hd
  obtain ⟨as_, h1, h2, h3, h4⟩ := open_trod fuel g t _ d ps hd hp
  by_cases ha : isAgg P t = true
  · have : ∃ cs, v = .agg cs := by
      unfold isAgg at ha
      unfold Value.okWide at hv
      split at ha
      · rename_i hu; rw [hu] at hv; obtain ⟨cs, e, _⟩ := hv; exact ⟨cs, e⟩
      · rename_i hu; rw [hu] at hv; obtain ⟨cs, e, _⟩ := hv; exact ⟨cs, e⟩
      · simp at ha
    obtain ⟨cs, rfl⟩ := this
    exact ⟨as_, .agg as_, by simp [mkv, ha], h2, .aggL (by simpa [Value.cells] using h1)⟩
  · have ha' : isAgg P t = false := by simpa using ha
    have hone := plain_one hp ha'
    rw [hone] at h4
    match as_, h4 with
    | [a], _ =>
      obtain ⟨u, rest, e, k1, k2⟩ := h1.cons_inv
      have hu : v = u := by
        have hl := h1.1
        have hne : ∀ cs, v ≠ .agg cs := by
          rintro cs rfl
          have hrest : rest = [] := by
            have := k2.1; simpa using this.symm
          unfold Value.okWide at hv
          unfold isAgg at ha'
          split at hv
          · rename_i hu; rw [hu] at ha'; simp at ha'
          · rename_i hu; rw [hu] at ha'; simp at ha'
          · unfold Cell.okWide Cell.ok at hv
            repeat' split at hv
            all_goals first | exact hv.elim | simp_all
        cases v <;> first | exact absurd rfl (hne _) | (simp [Value.cells] at e; exact e.1)
      subst hu
      exact ⟨[a], a, by simp [mkv, ha'], h2, k1⟩
def ArgsAre (P : Program) (g : Nat) : List TypeId → List AV → Prop
  | [], [] => True
  | t :: ts, a :: as_ => (∃ es, mkv (isAgg P t) es = some a ∧ Cells P g t es) ∧ ArgsAre P g ts as_
  | _, _ => False
theorem open_args {H : Type} {enc : TypeId × Value → H} {P : Program} {W : World} {sp : Nat → Bool} {held : Bool} {r : Reach} {base g : Nat} : ∀ {ts : List TypeId} {vs : List Value} {ds : List (DataW H)} {ps : List MemPlace},
    (∀ (j : Nat) t v, ts[j]? = some t → vs[j]? = some v → Value.okWide P W r base t v) → DataW.TrodAll enc P W 0 sp held ts vs ds ps → (∀ t ∈ ts, plainTy P g t = true) → ∃ as_, ArgsAre P g ts as_ ∧ RelL (ghOf W) as_ vs
  | [], [], [], _, _, _, _ => ⟨[], trivial, .nil⟩
  | t :: ts, v :: vs, d :: ds, _, hv, ⟨p, q, h1, h2, _⟩, hp => by
    obtain ⟨es, a, k1, k2, k3⟩ := open_arg (g := g) (hv 0 t v rfl rfl) h1 (hp t (by simp))
    obtain ⟨as_, m1, m2⟩ := open_args (g := g) (fun j t v h h' => hv (j + 1) t v (by simpa using h) (by simpa using h')) h2 (fun t ht => hp t (by simp [ht]))
    exact ⟨a :: as_, ⟨⟨es, k1, k2⟩, m1⟩, .cons k3 m2⟩
  | [], _ :: _, _, _, _, h, _ => h.elim
  | [], [], _ :: _, _, _, h, _ => h.elim
  | _ :: _, [], _, _, _, h, _ => h.elim
  | _ :: _, _ :: _, [], _, _, h, _ => h.elim
theorem trodAll_stays {H : Type} {enc : TypeId × Value → H} {P : Program} (hl : laidOutB P = true) {W W' : World} {sp' : Nat → Bool} : ∀ {ts : List TypeId} {vs : List Value} {ds : List (DataW H)} {ps : List MemPlace},
    (∀ t ∈ ts, P.readableRec t = true ∧ t < P.types.size) → DataW.TrodAll enc P W 0 (fun _ => true) true ts vs ds ps → (∀ p ∈ ps, W.sameAt W' p) → (∀ p ∈ ps, sp' p.block = true) → DataW.TrodAll enc P W' 0 sp' true ts vs ds ps
  | [], [], [], _, _, h, _, _ => h
  | t :: ts, v :: vs, d :: ds, _, ht, ⟨p, q, h1, h2, hpq⟩, h3, h4 => by
    subst hpq
    exact ⟨p, q, WideElems.Trod_stays hl (ht t (by simp)).1 (ht t (by simp)).2 h1 (fun x hx => h3 x (by simp [hx])) (fun x hx => h4 x (by simp [hx])),
      trodAll_stays hl (fun t h => ht t (by simp [h])) h2 (fun x hx => h3 x (by simp [hx])) (fun x hx => h4 x (by simp [hx])), rfl⟩
  | [], _ :: _, _, _, _, h, _, _ => h.elim
  | [], [], _ :: _, _, _, h, _, _ => h.elim
  | _ :: _, [], _, _, _, h, _, _ => h.elim
  | _ :: _, _ :: _, [], _, _, h, _, _ => h.elim
theorem grown_same {W W' : World} (h : Go.RowKit.Grown W W') (hsz : ∀ b, b < W.heap.size → W'.heap[b]? = W.heap[b]?) {p : MemPlace} (hp : p.block < W.heap.size) : W.sameAt W' p := by
  cases p with
  | cell b o => exact World.cell?_of_block (w := W) (hsz b hp)
  | map b => exact hsz b hp
theorem calls_true {P : Program} {k : FuncId} {as_ : List AV} {args : Array Value} {W : World} (hr : RelL (ghOf W) as_ args.toList) (hc : ACalls P k as_ (fun _ => none) (fun r _ => r = .ret (.bool true))) :
    Calls P k args W fun e W' => e = .returned (.bool true) ∧ Go.RowKit.Grown W W' ∧ ∀ b, b < W.heap.size → W'.heap[b]? = W.heap[b]? :=
  (hc.2 (fun _ => False) (ghOf W) W args ⟨0, fun _ _ h => h⟩ hr (ghOf_sat W)).mono fun e w' ⟨K', r, σ', h1, h2, h3, h4⟩ => by
    subst h4
    have hb : K'.base = W := h1.le.base
    refine ⟨?_, sat_grown hb h2, fun b hlt => ?_⟩
    · cases e with
      | returned v =>
        have : v = .bool true := rel_bool h3
        rw [this]
      | panicked c => exact h3.elim
      | outgrown => exact h3.elim
    · have := h2.old b (by rw [hb]; exact hlt)
      rw [hb] at this; exact this
theorem post_true {H : Type} {enc : TypeId × Value → H} {P : Program} {k : FuncId} {f : Func} {s : ChangeSpec} {g : Nat} {tb : TypeId} {W : World} {base : Nat} {args : Array Value} {ds gs : List (DataW H)} {before : List MemPlace} {r : Reach}
    (hl : laidOutB P = true) (hts : f.params.toList.all (fun t => P.readableRec t && decide (t < P.types.size) && plainTy P g t) = true) (hvars : s.vars = [])
    (hfn : ∀ ds : List (DataW H), ds.length = f.params.size → s.fn H ds = { results := [.lit (.bool true)], args := ds }) (hrt : f.resultTypes = #[tb]) (htb : P.underlying tb = some .bool)
    (hval : ∀ (j : Nat) t v, f.params[j]? = some t → args[j]? = some v → Value.okWide P W r base t v)
    (hW : DataW.Whole enc P f.params.toList s.vars false W args.toList ds gs before)
    (hc : ∀ as_, ArgsAre P g f.params.toList as_ → ACalls P k as_ (fun _ => none) (fun r _ => r = .ret (.bool true))) :
    Calls P k args W fun e W' => ∃ v, e = .returned v ∧ s.post enc P f false true false false W args v W' := by
  have hW' := hW
  obtain ⟨p, q, hA, hV, rfl, hfz, hnd⟩ := hW
  rw [hvars] at hV
  obtain ⟨rfl, rfl⟩ := Go.ChangeShapes.trodVars_none hV
  have hlen : ∀ {ts : List TypeId} {vs : List Value} {ds : List (DataW H)} {ps : List MemPlace}, DataW.TrodAll enc P W 0 (fun _ => true) true ts vs ds ps → ds.length = ts.length := by
    intro ts
    induction ts with
    | nil => intro vs ds ps h; cases vs <;> cases ds <;> first | exact h.elim | rfl
    | cons t ts ih =>
      intro vs ds ps h
      cases vs <;> cases ds <;> first | exact h.elim | skip
      obtain ⟨_, _, _, h2, _⟩ := h
      simp [ih h2]
  have hd := hlen hA
  have hall : ∀ t ∈ f.params.toList, (P.readableRec t = true ∧ t < P.types.size) ∧ plainTy P g t = true := by
    intro t ht
    have := List.all_eq_true.1 hts t ht
    simpa using this
  obtain ⟨as_, ha, hrel⟩ := open_args (g := g) (fun j t v h h' => hval j t v (by simpa using h) (by simpa using h')) hA (fun t ht => (hall t ht).2)
  refine (calls_true hrel (hc as_ ha)).mono fun e W' ⟨he, hg, hold⟩ => ?_
  subst he
  have hs : s.fn H (ds ++ []) = { results := [.lit (.bool true)], args := ds } := by
    rw [List.append_nil]; exact hfn ds (by simpa using hd)
  refine ⟨_, rfl, Go.ChangeShapes.post_of_same (pa := p) (pv := []) hW' ?_ ?_ ?_ rfl (hg.frame _) hg.2.1 (Go.RowKit.ok_one hrt rfl (Go.RowKit.okWide_bool_mk htb _))⟩
  · intro b sp hd
    rw [hs, hrt]
    exact trodAll_cons_mk (Go.RowKit.shut_bool htb _) Go.ChangeShapes.trodAll_mk0
  · intro sp hsp
    rw [hs]
    have hlt : ∀ x ∈ p, x.block < W.heap.size := fun x hx => hW'.lt x (by simpa using hx)
    exact trodAll_stays hl (fun t ht => (hall t ht).1) hA (fun x hx => grown_same hg hold (hlt x hx)) (fun x hx => hsp x (by simpa using hx))
  · intro sp _
    rw [hs, hvars]
    rfl
end Abs

namespace Abs
open Go
theorem Sub.get {σ τ : Sig} (h : Sub σ τ) {o : Nat} {x : AObj} (e : σ o = some x) : τ o = some x := h o x e
theorem id_one0 {P : Program} {f : FuncId} {args : List AV} {σ σb : Sig} {v : AV} {k : AV → List (Nat × AObj) → Prop} {tk : Tg k} (h : ∀ τ, Sub σb τ → ACalls P f args τ (fun r s => r = .ret v ∧ s = τ)) (_ : True) (hk : k v []) :
    callQ P f args σ σb k tk := .inl ⟨v, [], h, trivial, hk⟩
theorem id_one1 {P : Program} {f : FuncId} {args : List AV} {σ σb : Sig} {v : AV} {o : Nat} {x : AObj} {k : AV → List (Nat × AObj) → Prop} {tk : Tg k} (h : ∀ τ, Sub σb τ → ACalls P f args τ (fun r s => r = .ret v ∧ s = upd τ o x)) (h1 : σ o ≠ none) (hk : k v [(o, x)]) :
    callQ P f args σ σb k tk := .inl ⟨v, [(o, x)], h, ⟨h1, trivial⟩, hk⟩
theorem id_one2 {P : Program} {f : FuncId} {args : List AV} {σ σb : Sig} {v : AV} {o o2 : Nat} {x x2 : AObj} {k : AV → List (Nat × AObj) → Prop} {tk : Tg k} (h : ∀ τ, Sub σb τ → ACalls P f args τ (fun r s => r = .ret v ∧ s = upd (upd τ o x) o2 x2)) (h1 : σ o ≠ none ∧ σ o2 ≠ none)
    (hk : k v [(o, x), (o2, x2)]) : callQ P f args σ σb k tk := .inl ⟨v, [(o, x), (o2, x2)], h, ⟨h1.1, h1.2, trivial⟩, hk⟩
theorem id_one3 {P : Program} {f : FuncId} {args : List AV} {σ σb : Sig} {v : AV} {o o2 o3 : Nat} {x x2 x3 : AObj} {k : AV → List (Nat × AObj) → Prop} {tk : Tg k} (h : ∀ τ, Sub σb τ → ACalls P f args τ (fun r s => r = .ret v ∧ s = upd (upd (upd τ o x) o2 x2) o3 x3))
    (h1 : σ o ≠ none ∧ σ o2 ≠ none ∧ σ o3 ≠ none) (hk : k v [(o, x), (o2, x2), (o3, x3)]) : callQ P f args σ σb k tk := .inl ⟨v, [(o, x), (o2, x2), (o3, x3)], h, ⟨h1.1, h1.2.1, h1.2.2, trivial⟩, hk⟩
theorem id_one4 {P : Program} {f : FuncId} {args : List AV} {σ σb : Sig} {v : AV} {o o2 o3 o4 : Nat} {x x2 x3 x4 : AObj} {k : AV → List (Nat × AObj) → Prop} {tk : Tg k} (h : ∀ τ, Sub σb τ → ACalls P f args τ (fun r s => r = .ret v ∧ s = upd (upd (upd (upd τ o x) o2 x2) o3 x3) o4 x4))
    (h1 : σ o ≠ none ∧ σ o2 ≠ none ∧ σ o3 ≠ none ∧ σ o4 ≠ none) (hk : k v [(o, x), (o2, x2), (o3, x3), (o4, x4)]) : callQ P f args σ σb k tk := .inl ⟨v, [(o, x), (o2, x2), (o3, x3), (o4, x4)], h, ⟨h1.1, h1.2.1, h1.2.2.1, h1.2.2.2, trivial⟩, hk⟩
def NewO (σ : Sig) (v : Nat → AV) (x : AObj) : ARes → Sig → Prop := fun r s => ∃ o, σ o = none ∧ r = .ret (v o) ∧ s = upd σ o x
theorem ACalls.newO {P : Program} {f : FuncId} {args : List AV} {σ : Sig} {v : Nat → AV} {x : AObj} {R : ARes → Sig → Prop} (h : ACalls P f args σ (NewO σ v x))
    (hR : ∀ o, σ o = none → (∀ o', ¬ σ o' = none → ¬ o' = o) → (∀ o', ¬ σ o' = none → ¬ o = o') → R (.ret (v o)) (upd σ o x)) : ACalls P f args σ R :=
  h.mono fun r s ⟨o, ho, e1, e2⟩ => by
    subst e1 e2
    exact hR o ho (fun o' h' e => h' (e ▸ ho)) (fun o' h' e => h' (e ▸ ho))
def Ren (v : Nat → AV) : Prop := ∀ (K K' : Gh) o o' x, K.le K' → K'.own o' = K.own o → Rel K (v o) x → Rel K' (v o') x
theorem Bnd.or {S : Nat → Prop} (h : Bnd S) (nm : Nat) : Bnd (fun m => S m ∨ m = nm) := by
  obtain ⟨n, hn⟩ := h
  refine ⟨max n (nm + 1), fun m hm => ?_⟩
  rintro (h | rfl)
  · exact hn m (by omega) h
  · omega
theorem ACalls.named {P : Program} {f : FuncId} {args : List AV} {σ : Sig} {v : Nat → AV} {x : AObj} (h : ACalls P f args σ (NewO σ v x)) (hr : Ren v) (nm : Nat) : ACallsN P f args σ nm (fun r s => r = .ret (v nm) ∧ s = upd σ nm x) :=
  ⟨h.1, fun S K w vals hS hSn hn hrel hsat => by
    refine (h.2 (fun m => S m ∨ m = nm) K w vals (hS.or nm) hrel hsat).mono fun e w' he => ?_
    obtain ⟨K', r, σ', a, b, c, o, ho, rfl, rfl⟩ := he
    by_cases hon : o = nm
    · subst hon
      exact ⟨K', _, _, a.weak fun m hm => .inl hm, b, c, rfl, rfl⟩
    · have hfree : K'.own nm = none := a.free nm (.inr rfl) hn
      obtain ⟨eo, he1, he2⟩ := b.live o x (upd_same _ _ _)
      have hown : ∀ q, q ≠ nm → (K'.named nm eo).own q = K'.own q := fun q hq => by simp [Gh.named, hq]
      have hnew : (K'.named nm eo).own nm = some eo := by simp [Gh.named]
      have hle : K'.le (K'.named nm eo) := ⟨rfl, fun _ _ _ h => h, fun q y hq => ⟨y, by rw [hown q (fun e => by rw [e, hfree] at hq; simp at hq)]; exact hq, Own.le_refl y⟩, rfl⟩
      have hσo : ∀ q y, σ q = some y → q ≠ o := fun q y hq e => by rw [e, ho] at hq; simp at hq
      have hst : ∀ q y, upd σ nm x q = some y → (q = nm ∧ y = x) ∨ (q ≠ nm ∧ upd σ o x q = some y ∧ q ≠ o) := fun q y hq => by
        by_cases hqn : q = nm
        · subst hqn; rw [upd_same] at hq; exact .inl ⟨rfl, (Option.some.inj hq).symm⟩
        · rw [upd_other _ _ _ _ hqn] at hq
          exact .inr ⟨hqn, by rw [upd_other _ _ _ _ (hσo q y hq)]; exact hq, hσo q y hq⟩
      refine ⟨K'.named nm eo, .ret (v nm), upd σ nm x, ⟨a.le.trans hle, fun q hq hqn => ?_⟩, ?_, ?_, rfl, rfl⟩
      · rw [hown q (fun e => hSn (e ▸ hq))]; exact a.free q (.inl hq) hqn
      · refine { os := b.os, tape := b.tape, output := b.output, size := b.size, old := b.old, free := b.free, claim := b.claim, one := b.one, live := fun q y hq => ?_, apart := fun q q' y y' e1 e2 h1 h2 hne k1 k2 r1 r2 => ?_, room := ?_ }
        · rcases hst q y hq with ⟨rfl, rfl⟩ | ⟨h1, h2, _⟩
          · exact ⟨eo, hnew, he2.keep hle (fun _ => rfl) (fun _ _ => rfl)⟩
          · obtain ⟨e', k1, k2⟩ := b.live q y h2
            exact ⟨e', by rw [hown q h1]; exact k1, k2.keep hle (fun _ => rfl) (fun _ _ => rfl)⟩
        · rcases hst q y h1 with ⟨rfl, rfl⟩ | ⟨p1, p2, p3⟩ <;> rcases hst q' y' h2 with ⟨rfl, rfl⟩ | ⟨p4, p5, p6⟩
          · exact absurd rfl hne
          · rw [hnew] at k1; rw [hown q' p4] at k2
            cases k1
            exact b.apart o q' _ _ _ _ (upd_same _ _ _) p5 (Ne.symm p6) he1 k2 r1 r2
          · rw [hnew] at k2; rw [hown q p1] at k1
            cases k2
            exact b.apart q o _ _ _ _ p2 (upd_same _ _ _) p3 k1 he1 r1 r2
          · rw [hown q p1] at k1; rw [hown q' p4] at k2
            exact b.apart q q' _ _ _ _ p2 p5 hne k1 k2 r1 r2
        · obtain ⟨n, hn'⟩ := b.room
          exact ⟨max n (nm + 1), fun q hq => by rw [hown q (by omega)]; exact hn' q (by omega)⟩
      · cases e <;> first | exact c.elim | exact hr K' _ o nm _ hle (hnew.trans he1.symm) c⟩
theorem fin_new {σ σ' : Sig} {v : Nat → AV} {x : AObj} {w : AV} (o : Nat) (ho : σ o = none) (h : FL σ' (v o) w ∧ SubX [] (upd σ o x) σ') : fin (NewO σ v x) w σ' := fin_v (v o) (upd σ o x) ⟨o, ho, rfl, rfl⟩ h.1 h.2
def turn (a : Int) : Int := a + 1 - 2 * (a % 2)
theorem tdiv2 (a : Int) (h : 0 ≤ a) : a.tdiv 2 = a / 2 := Int.tdiv_eq_ediv_of_nonneg h
theorem tmod2 (a : Int) (h : 0 ≤ a) : a.tmod 2 = a % 2 := Int.tmod_eq_emod_of_nonneg h
theorem shr1 (a : Int) : a.fdiv (2 ^ Nat.min (Int.toNat 1) IntKind.i64.bits) = a / 2 := by
  have : (2 : Int) ^ Nat.min (Int.toNat 1) IntKind.i64.bits = 2 := by decide
  rw [this, Int.fdiv_eq_ediv_of_nonneg _ (by omega)]
theorem shr1' (a : Int) : a.fdiv (2 ^ Nat.min 1 64) = a / 2 := shr1 a
theorem ofInt_nat (a : Int) : (BitVec.ofInt 64 a).toNat = (a % 18446744073709551616).toNat := by
  rw [BitVec.toNat_ofInt]; rfl
theorem and1 (a : Int) : IntKind.i64.wrap ((BitVec.ofInt IntKind.i64.bits a &&& BitVec.ofInt IntKind.i64.bits 1).toNat : Nat) = a % 2 := by
  have e : (BitVec.ofInt 64 a &&& BitVec.ofInt 64 1).toNat = (a % 18446744073709551616).toNat % 2 := by
    rw [BitVec.toNat_and, ofInt_nat, ofInt_nat]
    have : ((1 : Int) % 18446744073709551616).toNat = 1 := by decide
    rw [this, Nat.and_one_is_mod]
  show IntKind.i64.wrap ((BitVec.ofInt 64 a &&& BitVec.ofInt 64 1).toNat : Nat) = a % 2
  rw [e, wrap64 _ (by omega) (by omega)]
  omega
theorem xor1 (a : Int) (h1 : -9223372036854775808 ≤ a) (h2 : a ≤ 9223372036854775807) :
    IntKind.i64.wrap ((BitVec.ofInt IntKind.i64.bits a ^^^ BitVec.ofInt IntKind.i64.bits 1).toNat : Nat) = turn a := by
  have key : ∀ n : Nat, n ^^^ 1 = if n % 2 = 0 then n + 1 else n - 1 := by
    intro n
    rcases Nat.mod_two_eq_zero_or_one n with h | h
    · rw [if_pos h]
      obtain ⟨k, rfl⟩ : ∃ k, n = 2 * k := ⟨n / 2, by omega⟩
      have e1 : 2 * k / 2 = k := by omega
      have e2 : (2 * k + 1) / 2 = k := by omega
      apply Nat.eq_of_testBit_eq
      intro i
      cases i with
      | zero => simp [Nat.testBit_xor, Nat.testBit_zero]
      | succ i => rw [Nat.testBit_xor]; simp only [Nat.testBit_succ, e1, e2, Nat.reduceDiv, Nat.zero_testBit, Bool.xor_false]
    · rw [if_neg (by omega)]
      obtain ⟨k, rfl⟩ : ∃ k, n = 2 * k + 1 := ⟨n / 2, by omega⟩
      have e1 : (2 * k + 1 - 1) / 2 = k := by omega
      have e2 : (2 * k + 1) / 2 = k := by omega
      apply Nat.eq_of_testBit_eq
      intro i
      cases i with
      | zero => simp [Nat.testBit_xor, Nat.testBit_zero]
      | succ i => rw [Nat.testBit_xor]; simp only [Nat.testBit_succ, e1, e2, Nat.reduceDiv, Nat.zero_testBit, Bool.xor_false]
  have e : (BitVec.ofInt 64 a ^^^ BitVec.ofInt 64 1).toNat = (a % 18446744073709551616).toNat ^^^ 1 := by
    rw [BitVec.toNat_xor, ofInt_nat, ofInt_nat]; rfl
  show IntKind.i64.wrap ((BitVec.ofInt 64 a ^^^ BitVec.ofInt 64 1).toNat : Nat) = turn a
  rw [e, key]
  simp only [turn, IntKind.wrap, IntKind.signed, IntKind.bits]
  split <;> simp <;> omega
theorem xor_is1 (a b : Int) (h1 : -9223372036854775808 ≤ a) (h2 : a ≤ 9223372036854775807) (h3 : -9223372036854775808 ≤ b) (h4 : b ≤ 9223372036854775807) :
    (IntKind.i64.wrap ((BitVec.ofInt IntKind.i64.bits a ^^^ BitVec.ofInt IntKind.i64.bits b).toNat : Nat) == 1) = decide (a = turn b) := by
  have hb := xor1 b h3 h4
  have hlt : (BitVec.ofInt 64 a ^^^ BitVec.ofInt 64 b).toNat < 2 ^ 64 := (BitVec.ofInt 64 a ^^^ BitVec.ofInt 64 b).isLt
  have e0 : (IntKind.i64.wrap ((BitVec.ofInt 64 a ^^^ BitVec.ofInt 64 b).toNat : Nat) = 1) ↔ (BitVec.ofInt 64 a ^^^ BitVec.ofInt 64 b).toNat = 1 := by
    generalize (BitVec.ofInt 64 a ^^^ BitVec.ofInt 64 b).toNat = n at hlt
    simp only [IntKind.wrap, IntKind.signed, IntKind.bits]
    simp
    omega
  have e1 : (BitVec.ofInt 64 a ^^^ BitVec.ofInt 64 b).toNat = 1 ↔ BitVec.ofInt 64 a = BitVec.ofInt 64 b ^^^ BitVec.ofInt 64 1 := by
    constructor
    · intro h
      have h' : BitVec.ofInt 64 a ^^^ BitVec.ofInt 64 b = BitVec.ofInt 64 1 := BitVec.eq_of_toNat_eq (by rw [h]; rfl)
      rw [← h', BitVec.xor_comm (BitVec.ofInt 64 a), ← BitVec.xor_assoc, BitVec.xor_self, BitVec.zero_xor]
    · intro h
      rw [h, BitVec.xor_comm (BitVec.ofInt 64 b), BitVec.xor_assoc, BitVec.xor_self, BitVec.xor_zero]; rfl
  have e2 : BitVec.ofInt 64 a = BitVec.ofInt 64 b ^^^ BitVec.ofInt 64 1 ↔ a = turn b := by
    have hb' : IntKind.i64.wrap ((BitVec.ofInt 64 b ^^^ BitVec.ofInt 64 1).toNat : Nat) = turn b := hb
    have ha' : IntKind.i64.wrap ((BitVec.ofInt 64 a).toNat : Nat) = a := by
      rw [ofInt_nat]
      simp only [IntKind.wrap, IntKind.signed, IntKind.bits]
      simp
      omega
    constructor
    · intro h; rw [← ha', h, hb']
    · intro h
      apply BitVec.eq_of_toNat_eq
      have h5 : IntKind.i64.wrap ((BitVec.ofInt 64 a).toNat : Nat) = IntKind.i64.wrap ((BitVec.ofInt 64 b ^^^ BitVec.ofInt 64 1).toNat : Nat) := by rw [ha', hb', h]
      have l1 := (BitVec.ofInt 64 a).isLt
      have l2 := (BitVec.ofInt 64 b ^^^ BitVec.ofInt 64 1).isLt
      generalize (BitVec.ofInt 64 a).toNat = n at *
      generalize (BitVec.ofInt 64 b ^^^ BitVec.ofInt 64 1).toNat = m at *
      simp only [IntKind.wrap, IntKind.signed, IntKind.bits] at h5
      simp at h5
      omega
  rw [Bool.eq_iff_iff]
  simp only [beq_iff_eq, decide_eq_true_eq]
  exact (e0.trans e1).trans e2
def tkF : Option Nat → Tok
  | none => .full
  | some o => .own o
def sgF (σ : Sig) (sz n : Nat) : Option Nat → Sig
  | none => σ
  | some o => upd σ o (.grow sz n)
theorem tkF_none : tkF none = .full := rfl
theorem tkF_some (o : Nat) : tkF (some o) = .own o := rfl
theorem sgF_none (σ : Sig) (sz n : Nat) : sgF σ sz n none = σ := rfl
theorem sgF_some (σ : Sig) (sz n o : Nat) : sgF σ sz n (some o) = upd σ o (.grow sz n) := rfl
attribute [go_sem] tkF_none tkF_some sgF_none sgF_some

/-! ### Bodies of library functions -/
def cIndexFunc (sz : Nat) (g : Bool) : ACode :=
 .seq (.reg [⟨some 4, .mov (.c (.int .i64 0)), none⟩])
 (.seq (.seq (.reg [⟨some 6, .mov (.t 0), none⟩,
   ⟨some 7, .len (.t 6), none⟩,
   ⟨some 8, .mov (.c (.int .i64 0)), none⟩])
 (.block 0 (.loop (.seq (.reg [⟨some 9, .bin .lss false (.t 8) (.t 7), none⟩])
  (.seq (.cond (.t 9)
   (.skip)
   (.exit 0))
  (.seq (.block 1 (.seq (.reg [⟨some 10, .mov (.t 8), none⟩,
    ⟨some 5, .mov (.t 10), none⟩])
  (.seq (.reg [⟨some 11, .mov (.t 1), none⟩,
    ⟨some 12, .mov (.t 0), none⟩,
    ⟨some 13, .mov (.t 5), none⟩,
    ⟨some 14, .idxS sz (.t 12) (.t 13), none⟩,
    ⟨some 15, .load g sz (.t 14), none⟩,
    ⟨some 16, .call (.t 11) [(.t 15)], none⟩])
  (.cond (.t 16)
   (.seq (.reg [⟨some 17, .mov (.t 5), none⟩,
     ⟨some 4, .mov (.t 17), none⟩])
   (.ret))
   (.skip)))))
  (.reg [⟨some 18, .bin .add false (.t 8) (.c (.int .i64 1)), none⟩,
    ⟨some 8, .mov (.t 18), none⟩])))))))
 (.seq (.reg [⟨some 4, .mov (.c (.int .i64 (-1))), none⟩])
 (.ret)))
def cContainsFunc (F : Nat) : ACode :=
 .seq (.reg [⟨some 4, .mov (.c (.bool false)), none⟩])
 (.seq (.reg [⟨some 5, .mov (.t 0), none⟩,
   ⟨some 6, .mov (.t 1), none⟩,
   ⟨some 7, .call (.c (.fn F [] [])) [(.t 5), (.t 6)], none⟩,
   ⟨some 8, .bin .geq false (.t 7) (.c (.int .i64 0)), none⟩,
   ⟨some 4, .mov (.t 8), none⟩])
 (.ret))
def cClip (sz : Nat) : ACode :=
 .seq (.reg [⟨some 2, .mov (.c (.slice [] .nil)), none⟩])
 (.seq (.reg [⟨some 3, .mov (.t 0), none⟩,
   ⟨some 4, .mov (.t 0), none⟩,
   ⟨some 5, .len (.t 4), none⟩,
   ⟨some 6, .mov (.t 0), none⟩,
   ⟨some 7, .len (.t 6), none⟩,
   ⟨some 8, .slc sz (.t 3) none (some (.t 5)) (some (.t 7)), none⟩,
   ⟨some 2, .mov (.t 8), none⟩])
 (.ret))
def cGrow (ty sz bytes : Nat) : ACode :=
 .seq (.reg [⟨some 4, .mov (.c (.slice [] .nil)), none⟩])
 (.seq (.seq (.reg [⟨some 5, .mov (.t 1), none⟩,
   ⟨some 6, .bin .lss false (.t 5) (.c (.int .i64 0)), none⟩])
 (.cond (.t 6)
  (.reg [⟨some 7, .mkiface ty (.c (.str ⟨#[99, 97, 110, 110, 111, 116, 32, 98, 101, 32, 110, 101, 103, 97, 116, 105, 118, 101]⟩)), none⟩,
    ⟨none, .panic (.t 7), none⟩])
  (.skip)))
 (.seq (.seq (.reg [⟨some 8, .mov (.t 1), none⟩,
   ⟨some 9, .mov (.t 0), none⟩,
   ⟨some 10, .cap (.t 9), none⟩,
   ⟨some 11, .mov (.t 0), none⟩,
   ⟨some 12, .len (.t 11), none⟩,
   ⟨some 13, .bin .sub false (.t 10) (.t 12), none⟩,
   ⟨some 14, .bin .sub false (.t 8) (.t 13), none⟩,
   ⟨some 1, .mov (.t 14), none⟩])
 (.seq (.reg [⟨some 15, .mov (.t 1), none⟩,
   ⟨some 16, .bin .gtr false (.t 15) (.c (.int .i64 0)), none⟩])
 (.cond (.t 16)
  (.reg [⟨some 17, .mov (.t 0), none⟩,
    ⟨some 18, .mov (.t 0), none⟩,
    ⟨some 19, .cap (.t 18), none⟩,
    ⟨some 20, .slcN sz (.t 17) none (some (.t 19)) none, none⟩,
    ⟨some 21, .mov (.t 1), none⟩,
    ⟨some 22, .appz sz bytes (.t 20) (.t 21), none⟩,
    ⟨some 23, .mov (.t 0), none⟩,
    ⟨some 24, .len (.t 23), none⟩,
    ⟨some 25, .slcR sz (.t 22) none (some (.t 24)) none, none⟩,
    ⟨some 0, .mov (.t 25), none⟩])
  (.skip))))
 (.seq (.reg [⟨some 26, .mov (.t 0), none⟩,
   ⟨some 4, .mov (.t 26), none⟩])
 (.ret))))
def cConcat (ty F sz bytes : Nat) : ACode :=
 .seq (.reg [⟨some 2, .mov (.c (.slice [] .nil)), none⟩])
 (.seq (.reg [⟨some 3, .mov (.c (.int .i64 0)), none⟩])
 (.seq (.seq (.reg [⟨some 9, .mov (.t 0), none⟩,
   ⟨some 10, .len (.t 9), none⟩,
   ⟨some 11, .mov (.c (.int .i64 0)), none⟩])
 (.block 0 (.loop (.seq (.reg [⟨some 12, .bin .lss false (.t 11) (.t 10), none⟩])
  (.seq (.cond (.t 12)
   (.skip)
   (.exit 0))
  (.seq (.block 1 (.seq (.reg [⟨some 13, .idxS 1 (.t 9) (.t 11), none⟩,
    ⟨some 14, .load false 1 (.t 13), none⟩,
    ⟨some 5, .mov (.t 14), none⟩])
  (.seq (.reg [⟨some 15, .mov (.t 3), none⟩,
    ⟨some 16, .mov (.t 5), none⟩,
    ⟨some 17, .len (.t 16), none⟩,
    ⟨some 18, .bin .add false (.t 15) (.t 17), none⟩,
    ⟨some 3, .mov (.t 18), none⟩])
  (.seq (.reg [⟨some 19, .mov (.t 3), none⟩,
    ⟨some 20, .bin .lss false (.t 19) (.c (.int .i64 0)), none⟩])
  (.cond (.t 20)
   (.reg [⟨some 21, .mkiface ty (.c (.str ⟨#[108, 101, 110, 32, 111, 117, 116, 32, 111, 102, 32, 114, 97, 110, 103, 101]⟩)), none⟩,
     ⟨none, .panic (.t 21), none⟩])
   (.skip))))))
  (.reg [⟨some 22, .bin .add false (.t 11) (.c (.int .i64 1)), none⟩,
    ⟨some 11, .mov (.t 22), none⟩])))))))
 (.seq (.reg [⟨some 23, .mov (.t 3), none⟩,
   ⟨some 24, .call (.c (.fn F [] [])) [(.c (.slice [] .nil)), (.t 23)], none⟩,
   ⟨some 6, .mov (.t 24), none⟩])
 (.seq (.seq (.reg [⟨some 25, .mov (.t 0), none⟩,
   ⟨some 26, .len (.t 25), none⟩,
   ⟨some 27, .mov (.c (.int .i64 0)), none⟩])
 (.block 2 (.loop (.seq (.reg [⟨some 28, .bin .lss false (.t 27) (.t 26), none⟩])
  (.seq (.cond (.t 28)
   (.skip)
   (.exit 2))
  (.seq (.block 3 (.seq (.reg [⟨some 29, .idxS 1 (.t 25) (.t 27), none⟩,
    ⟨some 30, .load false 1 (.t 29), none⟩,
    ⟨some 8, .mov (.t 30), none⟩])
  (.reg [⟨some 31, .mov (.t 6), none⟩,
    ⟨some 32, .mov (.t 8), none⟩,
    ⟨some 33, .append sz bytes (.t 31) (.t 32), none⟩,
    ⟨some 6, .mov (.t 33), none⟩])))
  (.reg [⟨some 34, .bin .add false (.t 27) (.c (.int .i64 1)), none⟩,
    ⟨some 27, .mov (.t 34), none⟩])))))))
 (.seq (.reg [⟨some 35, .mov (.t 6), none⟩,
   ⟨some 2, .mov (.t 35), none⟩])
 (.ret))))))
def idxF {α : Type} (p : α → Bool) : List α → Int
  | [] => -1
  | a :: l => if p a then 0 else (if idxF p l < 0 then -1 else idxF p l + 1)
theorem idxF_none {α : Type} {p : α → Bool} : ∀ {l : List α}, (∀ a ∈ l, p a = false) → idxF p l = -1
  | [], _ => rfl
  | a :: l, h => by
    simp only [idxF]
    rw [if_neg (by simp [h a (by simp)]), idxF_none (l := l) (fun b hb => h b (by simp [hb]))]
    rfl
theorem idxF_some {α : Type} {p : α → Bool} : ∀ {l : List α} {i : Nat} (h : i < l.length), (∀ j, (hj : j < i) → p (l[j]'(by omega)) = false) → p l[i] = true → idxF p l = i
  | a :: l, 0, h, _, h2 => by simp only [List.getElem_cons_zero] at h2; simp [idxF, h2]
  | a :: l, i + 1, h, h1, h2 => by
    have h0 := h1 0 (by omega)
    simp only [List.getElem_cons_zero] at h0
    have := idxF_some (p := p) (l := l) (i := i) (by simpa using h) (fun j hj => by have := h1 (j + 1) (by omega); simpa using this) (by simpa using h2)
    simp only [idxF]
    rw [if_neg (by simp [h0]), this, if_neg (by omega)]
    omega
theorem idxF_cases {α : Type} (p : α → Bool) (l : List α) : (idxF p l = -1 ∧ ∀ a ∈ l, p a = false) ∨ ∃ i, ∃ h : i < l.length, idxF p l = i ∧ p l[i] = true ∧ ∀ j, (hj : j < i) → p (l[j]'(by omega)) = false := by
  by_cases h : ∃ i, ∃ h : i < l.length, p l[i] = true
  · have : ∃ i, ∃ h : i < l.length, p l[i] = true ∧ ∀ j, (hj : j < i) → p (l[j]'(by omega)) = false := by
      obtain ⟨i, hi, hp⟩ := h
      induction i using Nat.strongRecOn with
      | _ i ih =>
        by_cases h' : ∃ j, ∃ hj : j < i, p (l[j]'(by omega)) = true
        · obtain ⟨j, hj, hp'⟩ := h'
          exact ih j hj (by omega) hp'
        · exact ⟨i, hi, hp, fun j hj => by
            cases hh : p (l[j]'(by omega)) with
            | false => rfl
            | true => exact (h' ⟨j, hj, hh⟩).elim⟩
    obtain ⟨i, hi, hp, hb⟩ := this
    exact .inr ⟨i, hi, idxF_some hi hb hp, hp, hb⟩
  · left
    have : ∀ a ∈ l, p a = false := fun a ha => by
      obtain ⟨i, hi, rfl⟩ := List.getElem_of_mem ha
      cases hh : p l[i] with
      | false => rfl
      | true => exact (h ⟨i, hi, hh⟩).elim
    exact ⟨idxF_none this, this⟩
theorem idxF_any {α : Type} (p : α → Bool) (l : List α) : decide (0 ≤ idxF p l) = l.any p := by
  rcases idxF_cases p l with ⟨h1, h2⟩ | ⟨i, hi, h1, h2, h3⟩
  · rw [h1]
    have : l.any p = false := by simpa using h2
    rw [this]; decide
  · rw [h1]
    have : l.any p = true := by simp only [List.any_eq_true]; exact ⟨_, List.getElem_mem hi, h2⟩
    rw [this]; simp
theorem idxF_bounds {α : Type} (p : α → Bool) (l : List α) : -1 ≤ idxF p l ∧ idxF p l < l.length := by
  rcases idxF_cases p l with ⟨h1, h2⟩ | ⟨i, hi, h1, h2, h3⟩ <;> omega
section lib
variable {P : Program} {f : FuncId} {fn : Func} {σ : Sig} {α : Type} {enc : α → AV} {sz : Nat} {g : Bool}
theorem lib_indexFunc (hm : P.follows .mixedOrders = true) (hfn : P.funcs[f]? = some fn) (hb : fn.body.bind (tr P 19) = some (cIndexFunc sz g).bare) (hn : (fn.name == "runtime.NumGoroutine") = false) (hN : fn.ntmps = 19)
    (hr : trRes P fn.results.toList = some [.tmp 4]) (hmk : ∀ x, mkv g (cellsA (enc x)) = some (enc x)) (hsz : ∀ x, (cellsA (enc x)).length = sz) (p : α → Bool) (l : List α) (hl : l.length ≤ 1000000000000)
    {F : Nat} {first caps : List AV} (hF : ∀ x ∈ l, ACalls P F (first ++ [enc x] ++ caps) σ (fun r σ' => r = .ret (.bool (p x)) ∧ σ' = σ)) :
    ACalls P f [.slice (l.map enc) .no, .fn F first caps] σ (fun r σ' => r = .ret (.int .i64 (idxF p l)) ∧ σ' = σ) := by
  refine calls_x hm hfn hb hn hN hr (by simp) ?_
  unfold cIndexFunc
  simp (maxDischargeDepth := 9) -implicitDefEqProofs -dsimp only [go_sem, seval, List.length_map]
  refine loop_rule (fun i : Nat => [(0, some (.slice (l.map enc) .no)), (1, some (.fn F first caps)), (8, some (.int .i64 i)), (7, some (.int .i64 l.length))]) (fun _ => σ) (fun i => i ≤ l.length ∧ ∀ j, (hj : j < l.length) → j < i → p l[j] = false) (fun i => l.length - i) 0 ?_ ?_
  · simp (maxDischargeDepth := 9) -implicitDefEqProofs -dsimp only [go_sem, seval]
    exact ⟨Nat.zero_le _, fun j hj h => by omega⟩
  · rintro i ⟨hi, hb⟩
    have tk : ∀ x, List.take sz (cellsA (enc x)) = cellsA (enc x) := fun x => List.take_of_length_le (by rw [hsz]; exact Nat.le_refl _)
    repeat' (first | simp (maxDischargeDepth := 9) -implicitDefEqProofs -dsimp only [go_sem, seval, *] | simp (disch := omega) only [wrap64, tdiv2, tmod2, and1, xor1, xor_is1, shr1, shr1'] | (with_reducible (first | apply Za | apply Zb | apply Zc | apply Zd | apply Ze | apply Zf | apply Zg | apply Zh | apply Zi | apply Zj | apply Zk | apply Zl | apply Zm | apply Zn | apply Zo | apply Zp | apply Zq | apply Zr | apply Zs) <;> intro hq) | ((with_reducible refine Zv ?_ ?_); focus (first | omega | exact rfl)) | ((with_reducible refine Zu ?_ ?_); focus omega) | ((with_reducible refine Zt (fun oF hoF hnF hnF' => ?_)); (try simp only [upd_none, ne_eq, not_and] at hoF)) | ((with_reducible apply ACalls.one1); (focus ((first | with_reducible refine hF _ (List.getElem_mem (by omega)) | with_reducible refine ACalls.flA (hF _ (List.getElem_mem (by omega))) ?_) <;> (first | (simp (maxDischargeDepth := 9) -implicitDefEqProofs -dsimp only [go_sem, seval, *]; done) | omega))); (focus (first | trivial | with_reducible exact rfl | (simp (maxDischargeDepth := 9) -implicitDefEqProofs -dsimp only [go_sem, seval]; done)))) | ((with_reducible apply id_one0); (focus (intro tS hS; ((first | with_reducible refine hF _ (List.getElem_mem (by omega)) | with_reducible refine ACalls.flA (hF _ (List.getElem_mem (by omega))) ?_) <;> (first | (simp (maxDischargeDepth := 9) -implicitDefEqProofs -dsimp only [go_sem, seval, *]; done) | omega | ((with_reducible refine Sub.get hS ?_); simp (maxDischargeDepth := 9) -implicitDefEqProofs -dsimp only [go_sem, seval, *]; done))))); (focus (first | trivial | (simp (maxDischargeDepth := 9) -implicitDefEqProofs -dsimp only [go_sem, seval, *]; done)))) | ((with_reducible apply id_one1); (focus (intro tS hS; ((first | with_reducible refine hF _ (List.getElem_mem (by omega)) | with_reducible refine ACalls.flA (hF _ (List.getElem_mem (by omega))) ?_) <;> (first | (simp (maxDischargeDepth := 9) -implicitDefEqProofs -dsimp only [go_sem, seval, *]; done) | omega | ((with_reducible refine Sub.get hS ?_); simp (maxDischargeDepth := 9) -implicitDefEqProofs -dsimp only [go_sem, seval, *]; done))))); (focus (first | trivial | (simp (maxDischargeDepth := 9) -implicitDefEqProofs -dsimp only [go_sem, seval, *]; done)))) | ((with_reducible apply id_one2); (focus (intro tS hS; ((first | with_reducible refine hF _ (List.getElem_mem (by omega)) | with_reducible refine ACalls.flA (hF _ (List.getElem_mem (by omega))) ?_) <;> (first | (simp (maxDischargeDepth := 9) -implicitDefEqProofs -dsimp only [go_sem, seval, *]; done) | omega | ((with_reducible refine Sub.get hS ?_); simp (maxDischargeDepth := 9) -implicitDefEqProofs -dsimp only [go_sem, seval, *]; done))))); (focus (first | trivial | (simp (maxDischargeDepth := 9) -implicitDefEqProofs -dsimp only [go_sem, seval, *]; done)))) | ((with_reducible apply id_one3); (focus (intro tS hS; ((first | with_reducible refine hF _ (List.getElem_mem (by omega)) | with_reducible refine ACalls.flA (hF _ (List.getElem_mem (by omega))) ?_) <;> (first | (simp (maxDischargeDepth := 9) -implicitDefEqProofs -dsimp only [go_sem, seval, *]; done) | omega | ((with_reducible refine Sub.get hS ?_); simp (maxDischargeDepth := 9) -implicitDefEqProofs -dsimp only [go_sem, seval, *]; done))))); (focus (first | trivial | (simp (maxDischargeDepth := 9) -implicitDefEqProofs -dsimp only [go_sem, seval, *]; done)))) | ((with_reducible apply id_one4); (focus (intro tS hS; ((first | with_reducible refine hF _ (List.getElem_mem (by omega)) | with_reducible refine ACalls.flA (hF _ (List.getElem_mem (by omega))) ?_) <;> (first | (simp (maxDischargeDepth := 9) -implicitDefEqProofs -dsimp only [go_sem, seval, *]; done) | omega | ((with_reducible refine Sub.get hS ?_); simp (maxDischargeDepth := 9) -implicitDefEqProofs -dsimp only [go_sem, seval, *]; done))))); (focus (first | trivial | (simp (maxDischargeDepth := 9) -implicitDefEqProofs -dsimp only [go_sem, seval, *]; done)))) | fail)
    · refine fin_eq ?_
      rw [idxF_some (by omega) (fun j hj => hb j (by omega) hj) hq]
      simp (maxDischargeDepth := 9) -implicitDefEqProofs -dsimp only [go_sem, seval]
    · refine loop_next _ _ _ _ (i + 1) ?_; (repeat' (first | simp (maxDischargeDepth := 9) -implicitDefEqProofs -dsimp only [go_sem, seval, *] | simp (disch := omega) only [wrap64, tdiv2, tmod2, and1, xor1, xor_is1, shr1, shr1'])) <;> (repeat' refine And.intro ?_ ?_) <;> (first | omega | rfl | assumption | skip)
      intro j hj h
      rcases Nat.lt_or_ge j i with h' | h'
      · exact hb j hj h'
      · obtain rfl : j = i := by omega
        exact hq
    · refine fin_eq ?_
      rw [idxF_none]
      · simp (maxDischargeDepth := 9) -implicitDefEqProofs -dsimp only [go_sem, seval]
      · intro a ha
        obtain ⟨j, hj, rfl⟩ := List.getElem_of_mem ha
        exact hb j hj (by omega)
theorem lib_containsFunc (hm : P.follows .mixedOrders = true) {F' : Nat} (hfn : P.funcs[f]? = some fn) (hb : fn.body.bind (tr P 9) = some (cContainsFunc F').bare) (hn : (fn.name == "runtime.NumGoroutine") = false) (hN : fn.ntmps = 9)
    (hr : trRes P fn.results.toList = some [.tmp 4]) (p : α → Bool) (l : List α) {F : Nat} {first caps : List AV}
    (h : ACalls P F' [.slice (l.map enc) .no, .fn F first caps] σ (fun r σ' => r = .ret (.int .i64 (idxF p l)) ∧ σ' = σ)) :
    ACalls P f [.slice (l.map enc) .no, .fn F first caps] σ (fun r σ' => r = .ret (.bool (l.any p)) ∧ σ' = σ) := by
  refine calls_x hm hfn hb hn hN hr (by simp) ?_
  unfold cContainsFunc
  repeat' (first | simp (maxDischargeDepth := 9) -implicitDefEqProofs -dsimp only [go_sem, seval, *] | simp (disch := omega) only [wrap64, tdiv2, tmod2, and1, xor1, xor_is1, shr1, shr1'] | (with_reducible (first | apply Za | apply Zb | apply Zc | apply Zd | apply Ze | apply Zf | apply Zg | apply Zh | apply Zi | apply Zj | apply Zk | apply Zl | apply Zm | apply Zn | apply Zo | apply Zp | apply Zq | apply Zr | apply Zs) <;> intro hq) | ((with_reducible refine Zv ?_ ?_); focus (first | omega | exact rfl)) | ((with_reducible refine Zu ?_ ?_); focus omega) | ((with_reducible refine Zt (fun oF hoF hnF hnF' => ?_)); (try simp only [upd_none, ne_eq, not_and] at hoF)) | ((with_reducible apply ACalls.one1); (focus ((first | with_reducible refine h | with_reducible refine ACalls.flA (h) ?_) <;> (first | (simp (maxDischargeDepth := 9) -implicitDefEqProofs -dsimp only [go_sem, seval, *]; done) | omega))); (focus (first | trivial | with_reducible exact rfl | (simp (maxDischargeDepth := 9) -implicitDefEqProofs -dsimp only [go_sem, seval]; done)))) | ((with_reducible apply id_one0); (focus (intro tS hS; ((first | with_reducible refine h | with_reducible refine ACalls.flA (h) ?_) <;> (first | (simp (maxDischargeDepth := 9) -implicitDefEqProofs -dsimp only [go_sem, seval, *]; done) | omega | ((with_reducible refine Sub.get hS ?_); simp (maxDischargeDepth := 9) -implicitDefEqProofs -dsimp only [go_sem, seval, *]; done))))); (focus (first | trivial | (simp (maxDischargeDepth := 9) -implicitDefEqProofs -dsimp only [go_sem, seval, *]; done)))) | ((with_reducible apply id_one1); (focus (intro tS hS; ((first | with_reducible refine h | with_reducible refine ACalls.flA (h) ?_) <;> (first | (simp (maxDischargeDepth := 9) -implicitDefEqProofs -dsimp only [go_sem, seval, *]; done) | omega | ((with_reducible refine Sub.get hS ?_); simp (maxDischargeDepth := 9) -implicitDefEqProofs -dsimp only [go_sem, seval, *]; done))))); (focus (first | trivial | (simp (maxDischargeDepth := 9) -implicitDefEqProofs -dsimp only [go_sem, seval, *]; done)))) | ((with_reducible apply id_one2); (focus (intro tS hS; ((first | with_reducible refine h | with_reducible refine ACalls.flA (h) ?_) <;> (first | (simp (maxDischargeDepth := 9) -implicitDefEqProofs -dsimp only [go_sem, seval, *]; done) | omega | ((with_reducible refine Sub.get hS ?_); simp (maxDischargeDepth := 9) -implicitDefEqProofs -dsimp only [go_sem, seval, *]; done))))); (focus (first | trivial | (simp (maxDischargeDepth := 9) -implicitDefEqProofs -dsimp only [go_sem, seval, *]; done)))) | ((with_reducible apply id_one3); (focus (intro tS hS; ((first | with_reducible refine h | with_reducible refine ACalls.flA (h) ?_) <;> (first | (simp (maxDischargeDepth := 9) -implicitDefEqProofs -dsimp only [go_sem, seval, *]; done) | omega | ((with_reducible refine Sub.get hS ?_); simp (maxDischargeDepth := 9) -implicitDefEqProofs -dsimp only [go_sem, seval, *]; done))))); (focus (first | trivial | (simp (maxDischargeDepth := 9) -implicitDefEqProofs -dsimp only [go_sem, seval, *]; done)))) | ((with_reducible apply id_one4); (focus (intro tS hS; ((first | with_reducible refine h | with_reducible refine ACalls.flA (h) ?_) <;> (first | (simp (maxDischargeDepth := 9) -implicitDefEqProofs -dsimp only [go_sem, seval, *]; done) | omega | ((with_reducible refine Sub.get hS ?_); simp (maxDischargeDepth := 9) -implicitDefEqProofs -dsimp only [go_sem, seval, *]; done))))); (focus (first | trivial | (simp (maxDischargeDepth := 9) -implicitDefEqProofs -dsimp only [go_sem, seval, *]; done)))) | fail)
  refine fin_eq ?_
  rw [← idxF_any]
  simp (maxDischargeDepth := 9) -implicitDefEqProofs -dsimp only [go_sem, seval]
theorem lib_clip (hm : P.follows .mixedOrders = true) (hfn : P.funcs[f]? = some fn) (hb : fn.body.bind (tr P 9) = some (cClip sz).bare) (hn : (fn.name == "runtime.NumGoroutine") = false) (hN : fn.ntmps = 9)
    (hr : trRes P fn.results.toList = some [.tmp 2]) (hsz : ∀ x, (cellsA (enc x)).length = sz) (l : List α) :
    ACalls P f [.slice (l.map enc) .no] σ (fun r σ' => r = .ret (.slice (l.map enc) .full) ∧ σ' = σ) := by
  refine calls_x hm hfn hb hn hN hr (by simp) ?_
  unfold cClip
  repeat' (first | simp (maxDischargeDepth := 9) -implicitDefEqProofs -dsimp only [go_sem, seval, szs_map sz enc l hsz, *] | simp (disch := omega) only [wrap64, tdiv2, tmod2, and1, xor1, xor_is1, shr1, shr1'] | (with_reducible (first | apply Za | apply Zb | apply Zc | apply Zd | apply Ze | apply Zf | apply Zg | apply Zh | apply Zi | apply Zj | apply Zk | apply Zl | apply Zm | apply Zn | apply Zo | apply Zp | apply Zq | apply Zr | apply Zs) <;> intro hq) | ((with_reducible refine Zv ?_ ?_); focus (first | omega | exact rfl)) | ((with_reducible refine Zu ?_ ?_); focus omega) | ((with_reducible refine Zt (fun oF hoF hnF hnF' => ?_)); (try simp only [upd_none, ne_eq, not_and] at hoF)) | fail)
  exact fin_id ⟨rfl, rfl⟩
theorem lib_grow (hm : P.follows .mixedOrders = true) {ty bytes : Nat} (hfn : P.funcs[f]? = some fn) (hb : fn.body.bind (tr P 27) = some (cGrow ty sz bytes).bare) (hn : (fn.name == "runtime.NumGoroutine") = false) (hN : fn.ntmps = 27)
    (hr : trRes P fn.results.toList = some [.tmp 4]) (n : Int) (h0 : 0 < n) (hb1 : n * bytes ≤ 35184372088832) (hn2 : n ≤ 1000000000000) :
    ACalls P f [.slice [] .nil, .int .i64 n] σ (fun r σ' => ∃ o, σ o = none ∧ r = .ret (.slice [] (.own o)) ∧ σ' = upd σ o (.grow sz 0)) := by
  refine calls_x hm hfn hb hn hN hr (by simp) ?_
  unfold cGrow
  repeat' (first | simp (maxDischargeDepth := 9) -implicitDefEqProofs -dsimp only [go_sem, seval, *] | simp (disch := omega) only [wrap64, tdiv2, tmod2, and1, xor1, xor_is1, shr1, shr1'] | (with_reducible (first | apply Za | apply Zb | apply Zc | apply Zd | apply Ze | apply Zf | apply Zg | apply Zh | apply Zi | apply Zj | apply Zk | apply Zl | apply Zm | apply Zn | apply Zo | apply Zp | apply Zq | apply Zr | apply Zs) <;> intro hq) | ((with_reducible refine Zv ?_ ?_); focus (first | omega | exact rfl)) | ((with_reducible refine Zu ?_ ?_); focus omega) | ((with_reducible refine Zt (fun oF hoF hnF hnF' => ?_)); (try simp only [upd_none, ne_eq, not_and] at hoF)) | fail)
  · omega
  · exact fin_id ⟨_, hoF, rfl, rfl⟩
theorem lib_grow0 (hm : P.follows .mixedOrders = true) {ty bytes : Nat} (hfn : P.funcs[f]? = some fn) (hb : fn.body.bind (tr P 27) = some (cGrow ty sz bytes).bare) (hn : (fn.name == "runtime.NumGoroutine") = false) (hN : fn.ntmps = 27)
    (hr : trRes P fn.results.toList = some [.tmp 4]) :
    ACalls P f [.slice [] .nil, .int .i64 0] σ (fun r σ' => r = .ret (.slice [] .nil) ∧ σ' = σ) := by
  refine calls_x hm hfn hb hn hN hr (by simp) ?_
  unfold cGrow
  repeat' (first | simp (maxDischargeDepth := 9) -implicitDefEqProofs -dsimp only [go_sem, seval, Int.reduceGT, *] | simp (disch := omega) only [wrap64, tdiv2, tmod2, and1, xor1, xor_is1, shr1, shr1'] | (with_reducible (first | apply Za | apply Zb | apply Zc | apply Zd | apply Ze | apply Zf | apply Zg | apply Zh | apply Zi | apply Zj | apply Zk | apply Zl | apply Zm | apply Zn | apply Zo | apply Zp | apply Zq | apply Zr | apply Zs) <;> intro hq) | ((with_reducible refine Zv ?_ ?_); focus (first | omega | exact rfl)) | ((with_reducible refine Zu ?_ ?_); focus omega) | ((with_reducible refine Zt (fun oF hoF hnF hnF' => ?_)); (try simp only [upd_none, ne_eq, not_and] at hoF)) | fail)
  exact fin_id ⟨rfl, rfl⟩
abbrev encRow (enc : α → AV) (l : List α) : AV := .slice (l.map enc) .no
theorem lib_concat (hm : P.follows .mixedOrders = true) {ty bytes F : Nat} (hfn : P.funcs[f]? = some fn) (hb : fn.body.bind (tr P 36) = some (cConcat ty F sz bytes).bare) (hn : (fn.name == "runtime.NumGoroutine") = false) (hN : fn.ntmps = 36)
    (hr : trRes P fn.results.toList = some [.tmp 2]) (hsz : ∀ x, (cellsA (enc x)).length = sz)
    (hg : ∀ σ : Sig, ∀ n : Int, 0 < n → n * bytes ≤ 35184372088832 → n ≤ 1000000000000 → ACalls P F [.slice [] .nil, .int .i64 n] σ (fun r σ' => ∃ o, σ o = none ∧ r = .ret (.slice [] (.own o)) ∧ σ' = upd σ o (.grow sz 0)))
    (hg0 : ∀ σ, ACalls P F [.slice [] .nil, .int .i64 0] σ (fun r σ' => r = .ret (.slice [] .nil) ∧ σ' = σ))
    (ls : List (List α)) (hlen : ls.length ≤ 1000000) (htot : ls.flatten.length ≤ 1000000000) (hby : bytes ≤ 4096) :
    ACalls P f [.slice (ls.map (encRow enc)) .no] σ (fun r σ' => (ls.flatten = [] ∧ r = .ret (.slice [] .nil) ∧ σ' = σ) ∨
      NewO σ (fun o => .slice (ls.flatten.map enc) (.own o)) (.grow sz ls.flatten.length) r σ') := by
  refine calls_x hm hfn hb hn hN hr (by simp) ?_
  unfold cConcat
  have tot : ∀ i, (ls.take i).flatten.length ≤ ls.flatten.length := fun i => by
    have := congrArg List.length (congrArg List.flatten (List.take_append_drop i ls))
    rw [List.flatten_append, List.length_append] at this
    omega
  have step : ∀ i (h : i < ls.length), (ls.take (i + 1)).flatten = (ls.take i).flatten ++ ls[i] := fun i h => by
    rw [List.take_add_one, List.getElem?_eq_getElem h, List.flatten_append]; simp only [Option.toList_some, List.flatten_cons, List.flatten_nil, List.append_nil]
  have stepL : ∀ i (h : i < ls.length), (ls.take (i + 1)).flatten.length = (ls.take i).flatten.length + ls[i].length := fun i h => by
    rw [step i h, List.length_append]
  repeat' (first | simp (maxDischargeDepth := 9) -implicitDefEqProofs -dsimp only [go_sem, seval, *] | simp (disch := omega) only [wrap64, tdiv2, tmod2, and1, xor1, xor_is1, shr1, shr1'] | (with_reducible (first | apply Za | apply Zb | apply Zc | apply Zd | apply Ze | apply Zf | apply Zg | apply Zh | apply Zi | apply Zj | apply Zk | apply Zl | apply Zm | apply Zn | apply Zo | apply Zp | apply Zq | apply Zr | apply Zs) <;> intro hq) | ((with_reducible refine Zv ?_ ?_); focus (first | omega | exact rfl)) | ((with_reducible refine Zu ?_ ?_); focus omega) | ((with_reducible refine Zt (fun oF hoF hnF hnF' => ?_)); (try simp only [upd_none, ne_eq, not_and] at hoF)) | fail)
  refine loop_rule (fun i : Nat => [(0, some (.slice (ls.map (encRow enc)) .no)), (9, some (.slice (ls.map (encRow enc)) .no)), (11, some (.int .i64 i)), (10, some (.int .i64 ls.length)), (3, some (.int .i64 (ls.take i).flatten.length))]) (fun _ => σ) (fun i => i ≤ ls.length) (fun i => ls.length - i) 0 ?_ ?_
  · repeat' (first | simp (maxDischargeDepth := 9) -implicitDefEqProofs -dsimp only [go_sem, seval, List.take_zero, List.flatten_nil, *] | simp (disch := omega) only [wrap64, tdiv2, tmod2, and1, xor1, xor_is1, shr1, shr1'] | (with_reducible (first | apply Za | apply Zb | apply Zc | apply Zd | apply Ze | apply Zf | apply Zg | apply Zh | apply Zi | apply Zj | apply Zk | apply Zl | apply Zm | apply Zn | apply Zo | apply Zp | apply Zq | apply Zr | apply Zs) <;> intro hq) | ((with_reducible refine Zv ?_ ?_); focus (first | omega | exact rfl)) | ((with_reducible refine Zu ?_ ?_); focus omega) | ((with_reducible refine Zt (fun oF hoF hnF hnF' => ?_)); (try simp only [upd_none, ne_eq, not_and] at hoF)) | fail)
    exact Nat.zero_le _
  · intro i hi
    have := tot i
    by_cases hlt : i < ls.length
    · have := tot (i + 1)
      have e := stepL i hlt
      repeat' (first | simp (maxDischargeDepth := 9) -implicitDefEqProofs -dsimp only [go_sem, seval, *] | simp (disch := omega) only [wrap64, tdiv2, tmod2, and1, xor1, xor_is1, shr1, shr1'] | (with_reducible (first | apply Za | apply Zb | apply Zc | apply Zd | apply Ze | apply Zf | apply Zg | apply Zh | apply Zi | apply Zj | apply Zk | apply Zl | apply Zm | apply Zn | apply Zo | apply Zp | apply Zq | apply Zr | apply Zs) <;> intro hq) | ((with_reducible refine Zv ?_ ?_); focus (first | omega | exact rfl)) | ((with_reducible refine Zu ?_ ?_); focus omega) | ((with_reducible refine Zt (fun oF hoF hnF hnF' => ?_)); (try simp only [upd_none, ne_eq, not_and] at hoF)) | fail)
      · omega
      · refine loop_next _ _ _ _ (i + 1) ?_; (repeat' (first | simp (maxDischargeDepth := 9) -implicitDefEqProofs -dsimp only [go_sem, seval, *] | simp (disch := omega) only [wrap64, tdiv2, tmod2, and1, xor1, xor_is1, shr1, shr1'])) <;> (repeat' refine And.intro ?_ ?_) <;> (first | omega | rfl | assumption | skip)
    · repeat' (first | simp (maxDischargeDepth := 9) -implicitDefEqProofs -dsimp only [go_sem, seval, *] | simp (disch := omega) only [wrap64, tdiv2, tmod2, and1, xor1, xor_is1, shr1, shr1'] | (with_reducible (first | apply Za | apply Zb | apply Zc | apply Zd | apply Ze | apply Zf | apply Zg | apply Zh | apply Zi | apply Zj | apply Zk | apply Zl | apply Zm | apply Zn | apply Zo | apply Zp | apply Zq | apply Zr | apply Zs) <;> intro hq) | ((with_reducible refine Zv ?_ ?_); focus (first | omega | exact rfl)) | ((with_reducible refine Zu ?_ ?_); focus omega) | ((with_reducible refine Zt (fun oF hoF hnF hnF' => ?_)); (try simp only [upd_none, ne_eq, not_and] at hoF)) | fail)
      have e0 : ls.take i = ls := List.take_of_length_le (by omega)
      rw [e0]
      by_cases hz : ls.flatten.length = 0
      · have hnil : ls.flatten = [] := List.length_eq_zero_iff.1 hz
        have hnili : ∀ i (h : i < ls.length), ls[i] = [] := fun i h => by
          have := stepL i h
          have h2 := tot (i + 1)
          exact List.length_eq_zero_iff.1 (by omega)
        rw [hz]
        repeat' (first | simp (maxDischargeDepth := 9) -implicitDefEqProofs -dsimp only [go_sem, seval, *] | simp (disch := omega) only [wrap64, tdiv2, tmod2, and1, xor1, xor_is1, shr1, shr1'] | (with_reducible (first | apply Za | apply Zb | apply Zc | apply Zd | apply Ze | apply Zf | apply Zg | apply Zh | apply Zi | apply Zj | apply Zk | apply Zl | apply Zm | apply Zn | apply Zo | apply Zp | apply Zq | apply Zr | apply Zs) <;> intro hq) | ((with_reducible refine Zv ?_ ?_); focus (first | omega | exact rfl)) | ((with_reducible refine Zu ?_ ?_); focus omega) | ((with_reducible refine Zt (fun oF hoF hnF hnF' => ?_)); (try simp only [upd_none, ne_eq, not_and] at hoF)) | ((with_reducible apply ACalls.one1); (focus ((first | with_reducible refine hg0 σ | with_reducible refine ACalls.flA (hg0 σ) ?_) <;> (first | (simp (maxDischargeDepth := 9) -implicitDefEqProofs -dsimp only [go_sem, seval, *]; done) | omega))); (focus (first | trivial | with_reducible exact rfl | (simp (maxDischargeDepth := 9) -implicitDefEqProofs -dsimp only [go_sem, seval]; done)))) | ((with_reducible apply id_one0); (focus (intro tS hS; ((first | with_reducible refine hg0 σ | with_reducible refine ACalls.flA (hg0 σ) ?_) <;> (first | (simp (maxDischargeDepth := 9) -implicitDefEqProofs -dsimp only [go_sem, seval, *]; done) | omega | ((with_reducible refine Sub.get hS ?_); simp (maxDischargeDepth := 9) -implicitDefEqProofs -dsimp only [go_sem, seval, *]; done))))); (focus (first | trivial | (simp (maxDischargeDepth := 9) -implicitDefEqProofs -dsimp only [go_sem, seval, *]; done)))) | ((with_reducible apply id_one1); (focus (intro tS hS; ((first | with_reducible refine hg0 σ | with_reducible refine ACalls.flA (hg0 σ) ?_) <;> (first | (simp (maxDischargeDepth := 9) -implicitDefEqProofs -dsimp only [go_sem, seval, *]; done) | omega | ((with_reducible refine Sub.get hS ?_); simp (maxDischargeDepth := 9) -implicitDefEqProofs -dsimp only [go_sem, seval, *]; done))))); (focus (first | trivial | (simp (maxDischargeDepth := 9) -implicitDefEqProofs -dsimp only [go_sem, seval, *]; done)))) | ((with_reducible apply id_one2); (focus (intro tS hS; ((first | with_reducible refine hg0 σ | with_reducible refine ACalls.flA (hg0 σ) ?_) <;> (first | (simp (maxDischargeDepth := 9) -implicitDefEqProofs -dsimp only [go_sem, seval, *]; done) | omega | ((with_reducible refine Sub.get hS ?_); simp (maxDischargeDepth := 9) -implicitDefEqProofs -dsimp only [go_sem, seval, *]; done))))); (focus (first | trivial | (simp (maxDischargeDepth := 9) -implicitDefEqProofs -dsimp only [go_sem, seval, *]; done)))) | ((with_reducible apply id_one3); (focus (intro tS hS; ((first | with_reducible refine hg0 σ | with_reducible refine ACalls.flA (hg0 σ) ?_) <;> (first | (simp (maxDischargeDepth := 9) -implicitDefEqProofs -dsimp only [go_sem, seval, *]; done) | omega | ((with_reducible refine Sub.get hS ?_); simp (maxDischargeDepth := 9) -implicitDefEqProofs -dsimp only [go_sem, seval, *]; done))))); (focus (first | trivial | (simp (maxDischargeDepth := 9) -implicitDefEqProofs -dsimp only [go_sem, seval, *]; done)))) | ((with_reducible apply id_one4); (focus (intro tS hS; ((first | with_reducible refine hg0 σ | with_reducible refine ACalls.flA (hg0 σ) ?_) <;> (first | (simp (maxDischargeDepth := 9) -implicitDefEqProofs -dsimp only [go_sem, seval, *]; done) | omega | ((with_reducible refine Sub.get hS ?_); simp (maxDischargeDepth := 9) -implicitDefEqProofs -dsimp only [go_sem, seval, *]; done))))); (focus (first | trivial | (simp (maxDischargeDepth := 9) -implicitDefEqProofs -dsimp only [go_sem, seval, *]; done)))) | fail)
        refine loop_rule (fun i : Nat => [(25, some (.slice (ls.map (encRow enc)) .no)), (27, some (.int .i64 i)), (26, some (.int .i64 ls.length)), (6, some (.slice [] .nil))]) (fun _ => σ) (fun i => i ≤ ls.length) (fun i => ls.length - i) 0 ?_ ?_
        · repeat' (first | simp (maxDischargeDepth := 9) -implicitDefEqProofs -dsimp only [go_sem, seval, *] | simp (disch := omega) only [wrap64, tdiv2, tmod2, and1, xor1, xor_is1, shr1, shr1'] | (with_reducible (first | apply Za | apply Zb | apply Zc | apply Zd | apply Ze | apply Zf | apply Zg | apply Zh | apply Zi | apply Zj | apply Zk | apply Zl | apply Zm | apply Zn | apply Zo | apply Zp | apply Zq | apply Zr | apply Zs) <;> intro hq) | ((with_reducible refine Zv ?_ ?_); focus (first | omega | exact rfl)) | ((with_reducible refine Zu ?_ ?_); focus omega) | ((with_reducible refine Zt (fun oF hoF hnF hnF' => ?_)); (try simp only [upd_none, ne_eq, not_and] at hoF)) | fail)
          exact Nat.zero_le _
        · intro i hi
          repeat' (first | simp (maxDischargeDepth := 9) -implicitDefEqProofs -dsimp only [go_sem, seval, *] | simp (disch := omega) only [wrap64, tdiv2, tmod2, and1, xor1, xor_is1, shr1, shr1'] | (with_reducible (first | apply Za | apply Zb | apply Zc | apply Zd | apply Ze | apply Zf | apply Zg | apply Zh | apply Zi | apply Zj | apply Zk | apply Zl | apply Zm | apply Zn | apply Zo | apply Zp | apply Zq | apply Zr | apply Zs) <;> intro hq) | ((with_reducible refine Zv ?_ ?_); focus (first | omega | exact rfl)) | ((with_reducible refine Zu ?_ ?_); focus omega) | ((with_reducible refine Zt (fun oF hoF hnF hnF' => ?_)); (try simp only [upd_none, ne_eq, not_and] at hoF)) | fail)
          · have e := hnili i (by omega)
            repeat' (first | simp (maxDischargeDepth := 9) -implicitDefEqProofs -dsimp only [go_sem, seval, List.map_nil, *] | simp (disch := omega) only [wrap64, tdiv2, tmod2, and1, xor1, xor_is1, shr1, shr1'] | (with_reducible (first | apply Za | apply Zb | apply Zc | apply Zd | apply Ze | apply Zf | apply Zg | apply Zh | apply Zi | apply Zj | apply Zk | apply Zl | apply Zm | apply Zn | apply Zo | apply Zp | apply Zq | apply Zr | apply Zs) <;> intro hq) | ((with_reducible refine Zv ?_ ?_); focus (first | omega | exact rfl)) | ((with_reducible refine Zu ?_ ?_); focus omega) | ((with_reducible refine Zt (fun oF hoF hnF hnF' => ?_)); (try simp only [upd_none, ne_eq, not_and] at hoF)) | fail)
            refine loop_next _ _ _ _ (i + 1) ?_; (repeat' (first | simp (maxDischargeDepth := 9) -implicitDefEqProofs -dsimp only [go_sem, seval, *] | simp (disch := omega) only [wrap64, tdiv2, tmod2, and1, xor1, xor_is1, shr1, shr1'])) <;> (repeat' refine And.intro ?_ ?_) <;> (first | omega | rfl | assumption | skip)
          · exact fin_id (.inl ⟨hnil, rfl, rfl⟩)
      · refine (hg σ _ (by omega) (by
          have := Nat.mul_le_mul htot hby
          have e : ((ls.flatten.length * bytes : Nat) : Int) ≤ 35184372088832 := by omega
          rwa [Int.natCast_mul] at e) (by omega)).mono ?_
        rintro r σ' ⟨o, ho, rfl, rfl⟩
        repeat' (first | simp (maxDischargeDepth := 9) -implicitDefEqProofs -dsimp only [go_sem, seval, *] | simp (disch := omega) only [wrap64, tdiv2, tmod2, and1, xor1, xor_is1, shr1, shr1'] | (with_reducible (first | apply Za | apply Zb | apply Zc | apply Zd | apply Ze | apply Zf | apply Zg | apply Zh | apply Zi | apply Zj | apply Zk | apply Zl | apply Zm | apply Zn | apply Zo | apply Zp | apply Zq | apply Zr | apply Zs) <;> intro hq) | ((with_reducible refine Zv ?_ ?_); focus (first | omega | exact rfl)) | ((with_reducible refine Zu ?_ ?_); focus omega) | ((with_reducible refine Zt (fun oF hoF hnF hnF' => ?_)); (try simp only [upd_none, ne_eq, not_and] at hoF)) | fail)
        refine loop_rule (fun i : Nat => [(25, some (.slice (ls.map (encRow enc)) .no)), (27, some (.int .i64 i)), (26, some (.int .i64 ls.length)), (6, some (.slice ((ls.take i).flatten.map enc) (.own o)))]) (fun i => upd σ o (.grow sz (ls.take i).flatten.length)) (fun i => i ≤ ls.length) (fun i => ls.length - i) 0 ?_ ?_
        · repeat' (first | simp (maxDischargeDepth := 9) -implicitDefEqProofs -dsimp only [go_sem, seval, List.take_zero, List.flatten_nil, List.map_nil, *] | simp (disch := omega) only [wrap64, tdiv2, tmod2, and1, xor1, xor_is1, shr1, shr1'] | (with_reducible (first | apply Za | apply Zb | apply Zc | apply Zd | apply Ze | apply Zf | apply Zg | apply Zh | apply Zi | apply Zj | apply Zk | apply Zl | apply Zm | apply Zn | apply Zo | apply Zp | apply Zq | apply Zr | apply Zs) <;> intro hq) | ((with_reducible refine Zv ?_ ?_); focus (first | omega | exact rfl)) | ((with_reducible refine Zu ?_ ?_); focus omega) | ((with_reducible refine Zt (fun oF hoF hnF hnF' => ?_)); (try simp only [upd_none, ne_eq, not_and] at hoF)) | fail)
          exact Nat.zero_le _
        · intro i hi
          by_cases hlt : i < ls.length
          · have e := step i hlt
            have e2 := stepL i hlt
            have h1 := tot (i + 1)
            have hb1 : ((ls.take i).flatten.length + ls[i].length) * bytes ≤ 35184372088832 := by
              have := Nat.mul_le_mul (show (ls.take i).flatten.length + ls[i].length ≤ 1000000000 by omega) hby
              omega
            repeat' (first | simp (maxDischargeDepth := 9) -implicitDefEqProofs -dsimp only [go_sem, seval, szs_map sz enc _ hsz, *] | simp (disch := omega) only [wrap64, tdiv2, tmod2, and1, xor1, xor_is1, shr1, shr1'] | (with_reducible (first | apply Za | apply Zb | apply Zc | apply Zd | apply Ze | apply Zf | apply Zg | apply Zh | apply Zi | apply Zj | apply Zk | apply Zl | apply Zm | apply Zn | apply Zo | apply Zp | apply Zq | apply Zr | apply Zs) <;> intro hq) | ((with_reducible refine Zv ?_ ?_); focus (first | omega | exact rfl)) | ((with_reducible refine Zu ?_ ?_); focus omega) | ((with_reducible refine Zt (fun oF hoF hnF hnF' => ?_)); (try simp only [upd_none, ne_eq, not_and] at hoF)) | fail)
            refine loop_next _ _ _ _ (i + 1) ?_; (repeat' (first | simp (maxDischargeDepth := 9) -implicitDefEqProofs -dsimp only [go_sem, seval, *] | simp (disch := omega) only [wrap64, tdiv2, tmod2, and1, xor1, xor_is1, shr1, shr1'])) <;> (repeat' refine And.intro ?_ ?_) <;> (first | omega | rfl | assumption | skip)
          · repeat' (first | simp (maxDischargeDepth := 9) -implicitDefEqProofs -dsimp only [go_sem, seval, *] | simp (disch := omega) only [wrap64, tdiv2, tmod2, and1, xor1, xor_is1, shr1, shr1'] | (with_reducible (first | apply Za | apply Zb | apply Zc | apply Zd | apply Ze | apply Zf | apply Zg | apply Zh | apply Zi | apply Zj | apply Zk | apply Zl | apply Zm | apply Zn | apply Zo | apply Zp | apply Zq | apply Zr | apply Zs) <;> intro hq) | ((with_reducible refine Zv ?_ ?_); focus (first | omega | exact rfl)) | ((with_reducible refine Zu ?_ ?_); focus omega) | ((with_reducible refine Zt (fun oF hoF hnF hnF' => ?_)); (try simp only [upd_none, ne_eq, not_and] at hoF)) | fail)
            have e0 : ls.take i = ls := List.take_of_length_le (by omega)
            rw [e0]
            exact fin_id (.inr ⟨o, ho, rfl, rfl⟩)
end lib
end Abs

namespace Abs
open Go
end Abs

