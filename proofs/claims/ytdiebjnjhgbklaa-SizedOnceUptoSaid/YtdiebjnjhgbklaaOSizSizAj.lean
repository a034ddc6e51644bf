/- sized: the law of what is sized once. -/
import Derived.Test.YtdiebjnjhgbklaaRows
import Derived.Test.YtdiebjnjhgbklaaOAbsU
set_option linter.unusedSimpArgs false
set_option linter.unusedVariables false
namespace Abs
open Go
mutual
def szA : AV → Nat
  | .str s => s.size + 1
  | .slice l _ => szAs l + 1
  | .agg l => szAs l + 1
  | _ => 1
def szAs : List AV → Nat
  | [] => 0
  | a :: l => szA a + szAs l
end
theorem szAs_append : ∀ (l m : List AV), szAs (l ++ m) = szAs l + szAs m
  | [], m => by simp [szAs]
  | a :: l, m => by simp only [List.cons_append, szAs, szAs_append l m]; omega
theorem szAs_le {b : Nat → Nat} : ∀ (l : List AV) (k : Nat), (∀ i, (h : i < l.length) → szA l[i] ≤ b (k + i)) → szAs l ≤ ((List.range' k l.length).map b).sum
  | [], _, _ => by simp [szAs]
  | a :: l, k, h => by
    have h0 := h 0 (by simp)
    have ih := szAs_le (b := b) l (k + 1) fun i hi => by
      have := h (i + 1) (by simpa using hi)
      simp only [List.getElem_cons_succ] at this
      rw [show k + 1 + i = k + (i + 1) by omega]; exact this
    simp only [List.getElem_cons_zero, Nat.add_zero] at h0
    simp only [szAs, List.length_cons, List.range'_succ, List.map_cons, List.sum_cons]
    omega
structure Bulk (H : Type) where
  B : DataW H → Nat
  BA : List (DataW H) → Nat
  lit : ∀ l, 1 ≤ B (.lit l)
  str : ∀ s, s.length + 1 ≤ B (.lit (.string s))
  nil : 1 ≤ B .nil
  slice : ∀ l r, BA l + 1 ≤ B (.slice l r)
  agg : ∀ l, BA l + 1 ≤ B (.agg l)
  bnil : BA [] = 0
  bcons : ∀ d l, BA (d :: l) = B d + BA l
def bOf {H : Type} (b : Bulk H) : Option (DataW H × List MemPlace) → Nat
  | some y => b.B y.1
  | none => 0
theorem bulk_mapM {H : Type} (b : Bulk H) {α : Type} {f : α → Option (DataW H × List MemPlace)} : ∀ {l : List α} {ys}, l.mapM f = some ys → b.BA (ys.map (·.1)) = (l.map fun a => bOf b (f a)).sum
  | [], ys, h => by simp at h; subst h; simpa using b.bnil
  | x :: l, ys, h => by
    simp only [List.mapM_cons, Option.bind_eq_bind, Option.bind_eq_some_iff, Option.pure_def, Option.some.injEq] at h
    obtain ⟨y, h1, zs, h2, rfl⟩ := h
    simp only [List.map_cons, b.bcons, List.sum_cons, bulk_mapM b h2, h1, bOf]
def agN (P : Program) (t : TypeId) : Nat := if isAgg P t then 1 else 0
def plainS (P : Program) (S : List TypeId) (t : TypeId) : Bool :=
  match P.underlying t with
  | some .bool => P.cellsOf t == 1
  | some (.int _) => P.cellsOf t == 1
  | some .string => P.cellsOf t == 1
  | some (.slice e) => P.cellsOf t == 1 && S.contains e && decide (0 < P.cellsOf e)
  | some (.struct fs) => fs.toList.all (fun f => S.contains f.type) && laid P fs.toList 0 (P.cellsOf t)
  | some (.array n e) => S.contains e && n * P.cellsOf e == P.cellsOf t
  | _ => false
def plainAll (P : Program) (S : List TypeId) : Bool := S.all (plainS P S)
theorem plainAll_mem {P : Program} {S : List TypeId} {t : TypeId} (h : plainAll P S = true) (ht : t ∈ S) : plainS P S t = true := List.all_eq_true.1 h t ht
theorem plain_one_r {P : Program} {S : List TypeId} {t : TypeId} (h : plainS P S t = true) (ha : isAgg P t = false) : P.cellsOf t = 1 := by
  unfold plainS at h
  unfold isAgg at ha
  split at h <;> simp_all
def OpenedZ (P : Program) (W : World) (g : Nat) (t : TypeId) (n : Nat) (cs : List Value) : Prop :=
  ∃ as_, RelL (ghOf W) as_ cs ∧ Cells P g t as_ ∧ as_.all oneA = true ∧ as_.length = P.cellsOf t ∧ szAs as_ + agN P t ≤ n
theorem openedZ_fields {P : Program} {W : World} {g n : Nat} {cs : List Value} (hn : cs.length = n) {b : Field → Nat} : ∀ (fs : List Field) (off : Nat), laid P fs off n = true → off ≤ n →
    (∀ f ∈ fs, OpenedZ P W g f.type (b f) ((cs.drop f.offset).take (P.cellsOf f.type))) → ∃ as_, RelL (ghOf W) as_ (cs.drop off) ∧ CellsL (Cells P g) (fs.map (·.type)) as_ ∧ as_.all oneA = true ∧ szAs as_ ≤ (fs.map b).sum
  | [], off, hl, ho, _ => by
    simp [laid] at hl; subst hl
    refine ⟨[], ?_, rfl, rfl, by simp [szAs]⟩
    rw [List.drop_eq_nil_of_le (by omega)]
    exact .nil
  | f :: fs, off, hl, ho, h => by
    simp only [laid, Bool.and_eq_true, beq_iff_eq] at hl
    obtain ⟨rfl, hl⟩ := hl
    obtain ⟨as_, h1, h2, h3, h4, h5⟩ := h f (by simp)
    have hle : f.offset + P.cellsOf f.type ≤ n := by
      have := h1.1
      rw [h4] at this
      simp at this
      omega
    obtain ⟨bs, k1, k2, k3, k4⟩ := openedZ_fields hn fs _ hl hle fun f' hf' => h f' (by simp [hf'])
    refine ⟨as_ ++ bs, ?_, ⟨as_, bs, rfl, h2, k2⟩, by simp [List.all_append, h3, k3], by rw [szAs_append, List.map_cons, List.sum_cons]; omega⟩
    have e : cs.drop f.offset = (cs.drop f.offset).take (P.cellsOf f.type) ++ cs.drop (f.offset + P.cellsOf f.type) := by
      rw [← List.drop_drop, List.take_append_drop]
    rw [e]
    exact h1.append k1
theorem openedZ_array {P : Program} {W : World} {g : Nat} {e : TypeId} {cs : List Value} {b : Nat → Nat} : ∀ (m k : Nat), cs.length = (k + m) * P.cellsOf e →
    (∀ i, k ≤ i → i < k + m → OpenedZ P W g e (b i) ((cs.drop (i * P.cellsOf e)).take (P.cellsOf e))) → ∃ as_, RelL (ghOf W) as_ (cs.drop (k * P.cellsOf e)) ∧ CellsL (Cells P g) (List.replicate m e) as_ ∧ as_.all oneA = true ∧ szAs as_ ≤ ((List.range' k m).map b).sum
  | 0, k, hl, _ => by
    refine ⟨[], ?_, rfl, rfl, by simp [szAs]⟩
    rw [List.drop_eq_nil_of_le (by simp at hl; omega)]
    exact .nil
  | m + 1, k, hl, h => by
    obtain ⟨as_, h1, h2, h3, h4, h5⟩ := h k (by omega) (by omega)
    obtain ⟨bs, k1, k2, k3, k4⟩ := openedZ_array (P := P) (W := W) (g := g) (e := e) (cs := cs) (b := b) m (k + 1) (by rw [hl]; congr 1; omega) fun i h1 h2 => h i (by omega) (by omega)
    refine ⟨as_ ++ bs, ?_, by rw [List.replicate_succ]; exact ⟨as_, bs, rfl, h2, k2⟩, by simp [List.all_append, h3, k3], by rw [szAs_append, List.range'_succ, List.map_cons, List.sum_cons]; omega⟩
    have e' : cs.drop (k * P.cellsOf e) = (cs.drop (k * P.cellsOf e)).take (P.cellsOf e) ++ cs.drop ((k + 1) * P.cellsOf e) := by
      rw [Nat.succ_mul, ← List.drop_drop, List.take_append_drop]
    rw [e']
    exact h1.append k1
theorem openedZ_slice {P : Program} {W : World} {g : Nat} {b : Nat → Nat} {t e : TypeId} {a : Addr} {len cap : Nat} (ht : P.underlying t = some (.slice e)) (h1 : P.cellsOf t = 1) (hpe : isAgg P e = false → P.cellsOf e = 1) (hpos : 0 < P.cellsOf e) (hlc : len ≤ cap) (hcm : cap ≤ maxLen)
    (hel : ∀ i, i < len → ∃ es, W.cells? 0 (a.add (i * P.cellsOf e)) (P.cellsOf e) = some es ∧ OpenedZ P W g e (b i) es) : OpenedZ P W (g + 1) t (((List.range len).map b).sum + 1) [.slice (some a) len cap] := by
  have hag : agN P t = 0 := by simp [agN, isAgg, ht]
  rcases Nat.eq_zero_or_pos len with hz | hz
  · subst hz
    refine ⟨[.slice [] .no], .cons (.sl0 (some a) cap .no (.inl rfl)) .nil, ?_, rfl, by rw [h1]; rfl, by simp [szAs, szA, hag]⟩
    simp only [Cells, ht]
    exact ⟨[], rfl, by simp, by simp⟩
  let p : Nat → AV → Prop := fun i x => ∃ es as_, W.cells? 0 (a.add (i * P.cellsOf e)) (P.cellsOf e) = some es ∧ RelL (ghOf W) as_ es ∧ Cells P g e as_ ∧ as_.all oneA = true ∧ mkv (isAgg P e) as_ = some x ∧ cellsA x = as_ ∧ as_.length = P.cellsOf e ∧ szA x ≤ b i
  have hp : ∀ i, i < len → ∃ x, p i x := by
    intro i hi
    obtain ⟨es, q1, as_, q2, q3, q4, q5, q6⟩ := hel i hi
    have hmk : ∃ x, mkv (isAgg P e) as_ = some x := by
      unfold mkv
      split
      · exact ⟨_, rfl⟩
      · match as_, q5 with
        | [], q5 => simp at q5; omega
        | v :: r, _ => exact ⟨v, rfl⟩
    obtain ⟨x, hx⟩ := hmk
    refine ⟨x, es, as_, q1, q2, q3, q4, hx, mkv_cells hx q4 (fun hg => by rw [q5]; exact hpe hg), q5, ?_⟩
    unfold mkv at hx
    unfold agN at q6
    split at hx
    · rename_i hg
      rw [if_pos hg] at q6
      simp at hx; subst hx; simp only [szA]; exact q6
    · rename_i hg
      have hl := q5.trans (hpe (by simpa using hg))
      match as_, hl with
      | [v], _ => simp at hx; subst hx; simp only [szAs] at q6; omega
  obtain ⟨l, hl, hg⟩ := build_list len hp
  have hsz : ∀ x ∈ l, (cellsA x).length = P.cellsOf e := by
    intro x hx
    obtain ⟨i, hi⟩ := List.getElem?_of_mem hx
    obtain ⟨es, as_, _, _, _, _, _, q, q', _⟩ := hg i x hi
    rw [q, q']
  -- the address
  have ha : a.spot = none := by
    obtain ⟨es, q1, _⟩ := hel 0 hz
    unfold World.cells? at q1
    rw [if_pos (Nat.zero_le _)] at q1
    obtain ⟨v, hv⟩ := mapM_mem q1 0 (by simpa using hpos)
    have := (cell_addr hv).1
    simp [Addr.add] at this
    exact this
  -- one cell of it
  have hcell : ∀ i, (hi : i < (flat l).length) → ∃ v, W.cell? ⟨a.block, a.off + i, none⟩ = some v ∧ Rel (ghOf W) (flat l)[i] v ∧ v.oneCell' = true := by
    intro i hi
    have hfl := flat_length hsz
    have hq : i / P.cellsOf e < l.length := by
      rw [Nat.div_lt_iff_lt_mul hpos]; rw [← hfl]; exact hi
    have hr : i % P.cellsOf e < P.cellsOf e := Nat.mod_lt _ hpos
    have hx : l[i / P.cellsOf e]? = some l[i / P.cellsOf e] := List.getElem?_eq_getElem hq
    obtain ⟨es, as_, q1, q2, _, q4, _, q6, q7, _⟩ := hg _ _ hx
    have hat := flat_at hsz hx
    unfold World.cells? at q1
    rw [if_pos (Nat.zero_le _)] at q1
    obtain ⟨m1, m2⟩ := mapM_get q1
    have hes : es.length = P.cellsOf e := by simpa using m1
    have hv := m2 (i % P.cellsOf e) (i % P.cellsOf e) (es[i % P.cellsOf e]'(by omega)) (by simp [hr]) (List.getElem?_eq_getElem (by omega))
    rw [add_spot ha, add_spot (a := ⟨a.block, _, none⟩) rfl] at hv
    simp only [Nat.add_assoc] at hv
    have hdm : i / P.cellsOf e * P.cellsOf e + i % P.cellsOf e = i := Nat.div_add_mod' i _
    rw [hdm] at hv
    refine ⟨_, hv, ?_, ?_⟩
    · have hrel := q2.2 (i % P.cellsOf e) (by omega) (by omega)
      have : (flat l)[i]? = some (as_[i % P.cellsOf e]'(by omega)) := by
        have h5 := congrArg (fun z => z[i % P.cellsOf e]?) hat
        simp only [q6] at h5
        rw [List.getElem?_take_of_lt hr, List.getElem?_drop, hdm] at h5
        rw [h5]; exact List.getElem?_eq_getElem (by omega)
      rw [List.getElem?_eq_getElem hi] at this
      rw [Option.some.inj this]; exact hrel
    · exact q2.ones q4 _ _
  let vv : Nat → Value := fun i => (W.cell? ⟨a.block, a.off + i, none⟩).getD undef
  refine ⟨[.slice l .no], .cons ?_ .nil, ?_, rfl, by rw [h1]; rfl, ?_⟩
  · have e1 : a = ⟨a.block, a.off, none⟩ := by cases a; simp at ha; subst ha; rfl
    rw [e1, ← hl]
    refine .slice l .no a.block a.off cap (P.cellsOf e) vv hsz (fun i hi => ?_) (fun i hi => ?_) trivial (by omega)
    · obtain ⟨v, k1, _, k3⟩ := hcell i hi
      simp only [vv, k1, Option.getD_some]
      exact claim_all k1 k3
    · obtain ⟨v, k1, k2, _⟩ := hcell i hi
      simp only [vv, k1, Option.getD_some]
      exact k2
  · simp only [Cells, ht]
    refine ⟨l, rfl, by omega, fun x hx => ?_⟩
    obtain ⟨i, hi⟩ := List.getElem?_of_mem hx
    obtain ⟨es, as_, _, _, q3, _, q5, _⟩ := hg i x hi
    exact ⟨as_, q5, q3⟩
  · have hs := szAs_le (b := b) l 0 fun i hi => by
      obtain ⟨_, _, _, _, _, _, _, _, _, q⟩ := hg i l[i] (List.getElem?_eq_getElem hi)
      rw [Nat.zero_add]; exact q
    rw [hl, ← List.range_eq_range'] at hs
    simp only [szAs, szA, hag]; omega
theorem open_trod_z {H : Type} (b : Bulk H) {enc : TypeId × Value → H} {P : Program} {W : World} {sp : Nat → Bool} {held : Bool} {S : List TypeId} (hS : plainAll P S = true) : ∀ (fuel : Nat) (t : TypeId) (cs : List Value) (d : DataW H) (ps : List MemPlace),
    DataW.trod enc P W 0 sp held fuel t cs = some (d, ps) → t ∈ S → OpenedZ P W fuel t (b.B d) cs
  | 0, _, _, _, _, h, _ => by simp [DataW.trod] at h
  | fuel + 1, t, cs, d, ps, h, hp => by
    have ih := open_trod_z b (enc := enc) (P := P) (W := W) (sp := sp) (held := held) hS fuel
    simp only [DataW.trod] at h
    replace hp := plainAll_mem hS hp
    simp only [plainS] at hp
    split at h
    case h_1 v hu =>
      rw [hu] at hp
      simp only [Option.some.injEq, Prod.mk.injEq] at h
      refine ⟨[.bool v], .cons (.bool v) .nil, ?_, rfl, by simpa using (beq_iff_eq.1 hp).symm, ?_⟩
      · simp only [Cells, hu]; exact ⟨v, rfl⟩
      · rw [← h.1]; have := b.lit (.bool v); simp [szAs, szA, agN, isAgg, hu]; omega
    case h_2 k k' n hu =>
      rw [hu] at hp
      split at h <;> simp at h
      rename_i hc
      obtain ⟨rfl, hwf⟩ := hc
      refine ⟨[.int k' n], .cons (.int k' n) .nil, ?_, rfl, by simpa using (beq_iff_eq.1 hp).symm, ?_⟩
      · simp only [Cells, hu]
        simp [Lit.wf] at hwf
        exact ⟨n, rfl, hwf.1, hwf.2⟩
      · rw [← h.1]; have := b.lit (.int k' n); simp [szAs, szA, agN, isAgg, hu]; omega
    case h_4 s hu =>
      rw [hu] at hp
      split at h <;> simp at h
      rename_i hc
      refine ⟨[.str s], .cons (.str s) .nil, ?_, rfl, by simpa using (beq_iff_eq.1 hp).symm, ?_⟩
      · simp only [Cells, hu]
        exact ⟨s, rfl, hc⟩
      · rw [← h.1]; have := b.str s.data.toList; simp [szAs, szA, agN, isAgg, hu] at this ⊢; exact this
    all_goals first
      | (rename_i hu; rw [hu] at hp; simp at hp; done)
      | (rename_i hu _; rw [hu] at hp; simp at hp; done)
      | (simp at h; done)
      | skip
    case h_7 e hu =>
      rw [hu] at hp
      simp only [Bool.and_eq_true, beq_iff_eq, List.contains_iff_mem] at hp
      simp only [Option.some.injEq, Prod.mk.injEq] at h
      refine ⟨[.slice [] .no], .cons (.sl0 none 0 .no (.inl rfl)) .nil, ?_, rfl, by rw [hp.1.1]; rfl, ?_⟩
      · simp only [Cells, hu]
        exact ⟨[], rfl, by simp, by simp⟩
      · rw [← h.1]; have := b.nil; simp [szAs, szA, agN, isAgg, hu]; omega
    case h_8 e a len cap hu =>
      rw [hu] at hp
      simp only [Bool.and_eq_true, beq_iff_eq, decide_eq_true_eq, List.contains_iff_mem] at hp
      obtain ⟨⟨h1, h2⟩, h3⟩ := hp
      split at h
      · rename_i hc
        obtain ⟨c1, c2, c3⟩ := hc
        simp only [Option.bind_eq_some_iff] at h
        obtain ⟨elems, he, h⟩ := h
        simp only [Option.map_eq_some_iff] at h
        obtain ⟨rest, _, h⟩ := h
        simp only [Prod.mk.injEq] at h
        have hbm := bulk_mapM b he
        have hop : OpenedZ P W (fuel + 1) t (((List.range len).map fun i => bOf b ((W.cells? 0 (a.add (i * P.cellsOf e)) (P.cellsOf e)).bind (DataW.trod enc P W 0 sp held fuel e))).sum + 1) [.slice (some a) len cap] := by
          refine openedZ_slice hu h1 (plain_one_r (plainAll_mem hS h2)) h3 c2 c3 fun i hi => ?_
          obtain ⟨y, hy⟩ := mapM_mem he i (by simpa using hi)
          have hy' := hy
          simp only [Option.bind_eq_some_iff] at hy
          obtain ⟨es, q1, q2⟩ := hy
          refine ⟨es, q1, ?_⟩
          simp only [hy', bOf]
          exact ih e es _ _ q2 h2
        obtain ⟨as_, z1, z2, z3, z4, z5⟩ := hop
        refine ⟨as_, z1, z2, z3, z4, ?_⟩
        rw [← h.1]
        have := b.slice (elems.map (·.1)) (rest.map (·.1))
        omega
      · simp at h
    case h_9 fs hu =>
      rw [hu] at hp
      simp only [Bool.and_eq_true, List.all_eq_true, List.contains_iff_mem] at hp
      obtain ⟨h1, h2⟩ := hp
      split at h
      · rename_i hlen
        simp only [Option.map_eq_some_iff] at h
        obtain ⟨xs, hx, h⟩ := h
        simp only [Prod.mk.injEq] at h
        have hbm := bulk_mapM b hx
        rename_i cc _ _
        obtain ⟨as_, k1, k2, k3, k4⟩ := openedZ_fields (P := P) (W := W) (g := fuel) hlen (b := fun f => bOf b (DataW.trod enc P W 0 sp held fuel f.type ((cc.drop f.offset).take (P.cellsOf f.type)))) fs.toList 0 h2 (Nat.zero_le _) fun f hf => by
          obtain ⟨y, hy⟩ := mapM_mem hx f hf
          simp only [hy, bOf]
          exact ih _ _ _ _ hy (h1 f hf)
        rw [List.drop_zero] at k1
        refine ⟨as_, k1, ?_, k3, by rw [k1.1, hlen], ?_⟩
        · simp only [Cells, hu]; exact k2
        · rw [← h.1]
          have := b.agg (xs.map (·.1))
          have : agN P t ≤ 1 := by unfold agN; split <;> omega
          omega
      · simp at h
    case h_10 n e hu =>
      rw [hu] at hp
      simp only [Bool.and_eq_true, beq_iff_eq, List.contains_iff_mem] at hp
      obtain ⟨h1, h2⟩ := hp
      split at h
      · rename_i hlen
        simp only [Option.map_eq_some_iff] at h
        obtain ⟨xs, hx, h⟩ := h
        simp only [Prod.mk.injEq] at h
        have hbm := bulk_mapM b hx
        rename_i cc _ _
        obtain ⟨as_, k1, k2, k3, k4⟩ := openedZ_array (P := P) (W := W) (g := fuel) (e := e) (b := fun i => bOf b (DataW.trod enc P W 0 sp held fuel e ((cc.drop (i * P.cellsOf e)).take (P.cellsOf e)))) n 0 (by rw [hlen, ← h2]; simp) fun i _ hi => by
          obtain ⟨y, hy⟩ := mapM_mem hx i (by simpa using hi)
          simp only [hy, bOf]
          exact ih _ _ _ _ hy h1
        rw [Nat.zero_mul, List.drop_zero] at k1
        rw [← List.range_eq_range'] at k4
        refine ⟨as_, k1, ?_, k3, by rw [k1.1, hlen], ?_⟩
        · simp only [Cells, hu]; exact k2
        · rw [← h.1]
          have := b.agg (xs.map (·.1))
          have : agN P t ≤ 1 := by unfold agN; split <;> omega
          omega
      · simp at h
theorem open_arg_z {H : Type} (b : Bulk H) {enc : TypeId × Value → H} {P : Program} {W : World} {sp : Nat → Bool} {held : Bool} {r : Reach} {base : Nat} {S : List TypeId} (hS : plainAll P S = true) {t : TypeId} {v : Value} {d : DataW H} {ps : List MemPlace}
    (hv : Value.okWide P W r base t v) (hd : DataW.Trod enc P W 0 sp held t v d ps) (hp : t ∈ S) : ∃ g es a, mkv (isAgg P t) es = some a ∧ Cells P g t es ∧ Rel (ghOf W) a v ∧ szA a ≤ b.B d := by
  obtain ⟨fuel, hd⟩ := hd
  obtain ⟨as_, h1, h2, h3, h4, h5⟩ := open_trod_z b hS fuel t _ d ps hd hp
  by_cases ha : isAgg P t = true
  · have : ∃ cs, v = .agg cs := by
      unfold isAgg at ha
      unfold Value.okWide at hv
      split at ha
      · rename_i hu; rw [hu] at hv; obtain ⟨cs, e, _⟩ := hv; exact ⟨cs, e⟩
      · rename_i hu; rw [hu] at hv; obtain ⟨cs, e, _⟩ := hv; exact ⟨cs, e⟩
      · simp at ha
    obtain ⟨cs, rfl⟩ := this
    exact ⟨fuel, as_, .agg as_, by simp [mkv, ha], h2, .aggL (by simpa [Value.cells] using h1), by simp only [agN, ha, if_true] at h5; simp only [szA]; exact h5⟩
  · have ha' : isAgg P t = false := by simpa using ha
    have hone := plain_one_r (plainAll_mem hS hp) ha'
    rw [hone] at h4
    match as_, h4 with
    | [a], _ =>
      obtain ⟨u, rest, e, k1, k2⟩ := h1.cons_inv
      have hu : v = u := by
        have hl := h1.1
        have hne : ∀ cs, v ≠ .agg cs := by
          rintro cs rfl
          have hrest : rest = [] := by
            have := k2.1; simpa using this.symm
          unfold Value.okWide at hv
          unfold isAgg at ha'
          split at hv
          · rename_i hu; rw [hu] at ha'; simp at ha'
          · rename_i hu; rw [hu] at ha'; simp at ha'
          · unfold Cell.okWide Cell.ok at hv
            repeat' split at hv
            all_goals first | exact hv.elim | simp_all
        cases v <;> first | exact absurd rfl (hne _) | (simp [Value.cells] at e; exact e.1)
      subst hu
      exact ⟨fuel, [a], a, by simp [mkv, ha'], h2, k1, by simp only [szAs] at h5; omega⟩
def ArgsR (P : Program) : List TypeId → List AV → Prop
  | [], [] => True
  | t :: ts, a :: as_ => (∃ g es, mkv (isAgg P t) es = some a ∧ Cells P g t es) ∧ ArgsR P ts as_
  | _, _ => False
theorem open_args_z {H : Type} (b : Bulk H) {enc : TypeId × Value → H} {P : Program} {W : World} {sp : Nat → Bool} {held : Bool} {r : Reach} {base : Nat} {S : List TypeId} (hS : plainAll P S = true) : ∀ {ts : List TypeId} {vs : List Value} {ds : List (DataW H)} {ps : List MemPlace},
    (∀ (j : Nat) t v, ts[j]? = some t → vs[j]? = some v → Value.okWide P W r base t v) → DataW.TrodAll enc P W 0 sp held ts vs ds ps → (∀ t ∈ ts, t ∈ S) → ∃ as_, ArgsR P ts as_ ∧ RelL (ghOf W) as_ vs ∧ szAs as_ ≤ b.BA ds
  | [], [], [], _, _, _, _ => ⟨[], trivial, .nil, by simp [szAs]⟩
  | t :: ts, v :: vs, d :: ds, _, hv, ⟨p, q, h1, h2, _⟩, hp => by
    obtain ⟨g, es, a, k1, k2, k3, k4⟩ := open_arg_z b hS (hv 0 t v rfl rfl) h1 (hp t (by simp))
    obtain ⟨as_, m1, m2, m3⟩ := open_args_z b hS (fun j t v h h' => hv (j + 1) t v (by simpa using h) (by simpa using h')) h2 (fun t ht => hp t (by simp [ht]))
    exact ⟨a :: as_, ⟨⟨g, es, k1, k2⟩, m1⟩, .cons k3 m2, by rw [b.bcons]; simp only [szAs]; omega⟩
  | [], _ :: _, _, _, _, h, _ => h.elim
  | [], [], _ :: _, _, _, h, _ => h.elim
  | _ :: _, [], _, _, _, h, _ => h.elim
  | _ :: _, _ :: _, [], _, _, h, _ => h.elim
theorem post_true_z {H : Type} (b : Bulk H) {N : Nat} {enc : TypeId × Value → H} {P : Program} {k : FuncId} {f : Func} {s : ChangeSpec} {S : List TypeId} {tb : TypeId} {W : World} {base : Nat} {args : Array Value} {ds gs : List (DataW H)} {before : List MemPlace} {r : Reach}
    (hl : laidOutB P = true) (hS : plainAll P S = true) (hts : f.params.toList.all (fun t => P.readableRec t && decide (t < P.types.size) && S.contains t) = true) (hvars : s.vars = [])
    (hfn : ∀ ds : List (DataW H), ds.length = f.params.size → s.fn H ds = { results := [.lit (.bool true)], args := ds }) (hrt : f.resultTypes = #[tb]) (htb : P.underlying tb = some .bool)
    (hval : ∀ (j : Nat) t v, f.params[j]? = some t → args[j]? = some v → Value.okWide P W r base t v)
    (hW : DataW.Whole enc P f.params.toList s.vars false W args.toList ds gs before)
    (hN : b.BA (ds ++ gs) ≤ N)
    (hc : ∀ as_, ArgsR P f.params.toList as_ → szAs as_ ≤ N → ACalls P k as_ (fun _ => none) (fun r _ => r = .ret (.bool true))) :
    Calls P k args W fun e W' => ∃ v, e = .returned v ∧ s.post enc P f false true false false W args v W' := by
  have hW' := hW
  obtain ⟨p, q, hA, hV, rfl, hfz, hnd⟩ := hW
  rw [hvars] at hV
  obtain ⟨rfl, rfl⟩ := Go.ChangeShapes.trodVars_none hV
  have hlen : ∀ {ts : List TypeId} {vs : List Value} {ds : List (DataW H)} {ps : List MemPlace}, DataW.TrodAll enc P W 0 (fun _ => true) true ts vs ds ps → ds.length = ts.length := by
    intro ts
    induction ts with
    | nil => intro vs ds ps h; cases vs <;> cases ds <;> first | exact h.elim | rfl
    | cons t ts ih =>
      intro vs ds ps h
      cases vs <;> cases ds <;> first | exact h.elim | skip
      obtain ⟨_, _, _, h2, _⟩ := h
      simp [ih h2]
  have hd := hlen hA
  have hall : ∀ t ∈ f.params.toList, (P.readableRec t = true ∧ t < P.types.size) ∧ t ∈ S := by
    intro t ht
    have := List.all_eq_true.1 hts t ht
    simpa using this
  obtain ⟨as_, ha, hrel, hsz⟩ := open_args_z b hS (fun j t v h h' => hval j t v (by simpa using h) (by simpa using h')) hA (fun t ht => (hall t ht).2)
  refine (calls_true hrel (hc as_ ha (by rw [List.append_nil] at hN; omega))).mono fun e W' ⟨he, hg, hold⟩ => ?_
  subst he
  have hs : s.fn H (ds ++ []) = { results := [.lit (.bool true)], args := ds } := by
    rw [List.append_nil]; exact hfn ds (by simpa using hd)
  refine ⟨_, rfl, Go.ChangeShapes.post_of_same (pa := p) (pv := []) hW' ?_ ?_ ?_ rfl (hg.frame _) hg.2.1 (Go.RowKit.ok_one hrt rfl (Go.RowKit.okWide_bool_mk htb _))⟩
  · intro b sp hd
    rw [hs, hrt]
    exact trodAll_cons_mk (Go.RowKit.shut_bool htb _) Go.ChangeShapes.trodAll_mk0
  · intro sp hsp
    rw [hs]
    have hlt : ∀ x ∈ p, x.block < W.heap.size := fun x hx => hW'.lt x (by simpa using hx)
    exact trodAll_stays hl (fun t ht => (hall t ht).1) hA (fun x hx => grown_same hg hold (hlt x hx)) (fun x hx => hsp x (by simpa using hx))
  · intro sp _
    rw [hs, hvars]
    rfl
end Abs

namespace Fil
open Abs Go
theorem i64_min : IntKind.i64.min = -9223372036854775808 := by decide
theorem i64_max : IntKind.i64.max = 9223372036854775807 := by decide
theorem I64_of {n : Int} (h : IntKind.i64.min ≤ n ∧ n ≤ IntKind.i64.max) : I64 n := by rw [i64_min, i64_max] at h; exact h
end Fil

namespace Fil.Sz
open Abs Go
theorem cells_int {P : Program} {g : Nat} {t : TypeId} {k : IntKind} {cs : List AV} (hu : P.underlying t = some (.int k)) (h : Cells P g t cs) : ∃ n, cs = [.int k n] ∧ k.min ≤ n ∧ n ≤ k.max := by
  cases g with
  | zero => exact h.elim
  | succ g => simp only [Cells, hu] at h; exact h
theorem cells_bool {P : Program} {g : Nat} {t : TypeId} {cs : List AV} (hu : P.underlying t = some .bool) (h : Cells P g t cs) : ∃ b, cs = [.bool b] := by
  cases g with
  | zero => exact h.elim
  | succ g => simp only [Cells, hu] at h; exact h
theorem cells_str {P : Program} {g : Nat} {t : TypeId} {cs : List AV} (hu : P.underlying t = some .string) (h : Cells P g t cs) : ∃ s : ByteArray, cs = [.str s] ∧ s.size ≤ maxLen := by
  cases g with
  | zero => exact h.elim
  | succ g => simp only [Cells, hu] at h; exact h
theorem cells_slice {P : Program} {g : Nat} {t e : TypeId} {cs : List AV} (hu : P.underlying t = some (.slice e)) (h : Cells P g t cs) :
    ∃ g', g' < g ∧ ∃ l, cs = [.slice l .no] ∧ l.length ≤ maxLen ∧ ∀ x ∈ l, ∃ es, mkv (isAgg P e) es = some x ∧ Cells P g' e es := by
  cases g with
  | zero => exact h.elim
  | succ g => simp only [Cells, hu] at h; exact ⟨g, Nat.lt_succ_self _, h⟩
def Str (P : Program) (t : TypeId) (l : List TypeId) : Prop := ∃ fs, P.underlying t = some (.struct fs) ∧ fs.toList.map (·.type) = l
theorem cells_struct {P : Program} {g : Nat} {t : TypeId} {l : List TypeId} {cs : List AV} (hu : Str P t l) (h : Cells P g t cs) : ∃ g', g' < g ∧ CellsL (Cells P g') l cs := by
  obtain ⟨fs, hu, rfl⟩ := hu
  cases g with
  | zero => exact h.elim
  | succ g => simp only [Cells, hu] at h; exact ⟨g, Nat.lt_succ_self _, h⟩
theorem str_agg {P : Program} {t : TypeId} {l : List TypeId} (h : Str P t l) : isAgg P t = true := by
  obtain ⟨fs, hu, _⟩ := h
  simp only [Abs.isAgg, hu]
theorem mkv_agg {es : List AV} {x : AV} (h : mkv true es = some x) : x = .agg es := by
  simp [mkv] at h; exact h.symm
theorem map_of {α : Type} {f : α → AV} {p : α → Prop} : ∀ {l : List AV}, (∀ x ∈ l, ∃ y, x = f y ∧ p y) → ∃ m : List α, l = m.map f ∧ ∀ y ∈ m, p y
  | [], _ => ⟨[], rfl, by simp⟩
  | x :: l, h => by
    obtain ⟨y, rfl, hy⟩ := h x (by simp)
    obtain ⟨m, rfl, hm⟩ := map_of (l := l) fun z hz => h z (by simp [hz])
    exact ⟨y :: m, rfl, by
      intro z hz
      rcases List.mem_cons.1 hz with rfl | hz
      · exact hy
      · exact hm z hz⟩
theorem u64_min : IntKind.u64.min = 0 := by decide
theorem u64_max : IntKind.u64.max = 18446744073709551615 := by decide
theorem U64_of {n : Int} (h : IntKind.u64.min ≤ n ∧ n ≤ IntKind.u64.max) : U64 n := by rw [u64_min, u64_max] at h; exact h
structure Tys (P : Program) where
  (i u b s e es t ts sg sgs p ps k ks : TypeId)
  hi : P.underlying i = some (.int .i64)
  hu : P.underlying u = some (.int .u64)
  hb : P.underlying b = some .bool
  hs : P.underlying s = some .string
  he : Str P e [i, i, u, i, i, i, i, es]
  hes : P.underlying es = some (.slice e)
  ht : Str P t [i, i, i, i, es, ts]
  hts : P.underlying ts = some (.slice t)
  hsg : Str P sg [s, i, i, u]
  hsgs : P.underlying sgs = some (.slice sg)
  hp : Str P p [b, ts]
  hps : P.underlying ps = some (.slice p)
  hk : Str P k [s, e]
  hks : P.underlying ks = some (.slice k)
variable {P : Program} (Y : Tys P)
include Y
theorem cells_i {g : Nat} {cs : List AV} (h : Cells P g Y.i cs) : ∃ n, cs = [.int .i64 n] ∧ I64 n := by
  obtain ⟨n, e, hn⟩ := cells_int Y.hi h; exact ⟨n, e, I64_of hn⟩
theorem cells_u {g : Nat} {cs : List AV} (h : Cells P g Y.u cs) : ∃ n, cs = [.int .u64 n] ∧ U64 n := by
  obtain ⟨n, e, hn⟩ := cells_int Y.hu h; exact ⟨n, e, U64_of hn⟩
theorem cells_E : ∀ (g : Nat) {t : TypeId} {cs : List AV}, Str P t [Y.i, Y.i, Y.u, Y.i, Y.i, Y.i, Y.i, Y.es] → Cells P g t cs → ∃ e, cs = eL e ∧ WfE e := by
  intro g
  induction g using Nat.strongRecOn with
  | ind g ih =>
    intro t cs hst h
    obtain ⟨g1, hg1, h⟩ := cells_struct hst h
    obtain ⟨_, _, rfl, a1, _, _, rfl, a2, _, _, rfl, a3, _, _, rfl, a4, _, _, rfl, a5, _, _, rfl, a6, _, _, rfl, a7, _, _, rfl, a8, rfl⟩ := h
    obtain ⟨n1, rfl, b1⟩ := cells_i Y a1
    obtain ⟨n2, rfl, b2⟩ := cells_i Y a2
    obtain ⟨n3, rfl, b3⟩ := cells_u Y a3
    obtain ⟨n4, rfl, b4⟩ := cells_i Y a4
    obtain ⟨n5, rfl, b5⟩ := cells_i Y a5
    obtain ⟨n6, rfl, b6⟩ := cells_i Y a6
    obtain ⟨n7, rfl, b7⟩ := cells_i Y a7
    obtain ⟨g2, hg2, l, rfl, _, hl⟩ := cells_slice Y.hes a8
    obtain ⟨m, rfl, hm⟩ := map_of (f := encE) (p := WfE) (l := l) fun x hx => by
      obtain ⟨es, h1, h2⟩ := hl x hx
      rw [str_agg Y.he] at h1
      obtain rfl := mkv_agg h1
      obtain ⟨e, rfl, he⟩ := ih g2 (by omega) Y.he h2
      exact ⟨e, rfl, he⟩
    refine ⟨.mk n1 n2 n3 n4 n5 n6 n7 m, ?_, (WfE_iff _).2 ⟨⟨b1, b2, b3, b4, b5, b6, b7⟩, hm⟩⟩
    simp only [eL, encEs_eq, E.op, E.w, E.v, E.sig, E.hi, E.lo, E.n, E.l]
    rfl
theorem cells_Es {g : Nat} {cs : List AV} (h : Cells P g Y.es cs) : ∃ m : List E, cs = [.slice (m.map encE) .no] ∧ ∀ x ∈ m, WfE x := by
  obtain ⟨g2, hg2, l, rfl, _, hl⟩ := cells_slice Y.hes h
  obtain ⟨m, rfl, hm⟩ := map_of (f := encE) (p := WfE) (l := l) fun x hx => by
    obtain ⟨es, h1, h2⟩ := hl x hx
    rw [str_agg Y.he] at h1
    obtain rfl := mkv_agg h1
    obtain ⟨e, rfl, he⟩ := cells_E Y g2 Y.he h2
    exact ⟨e, rfl, he⟩
  exact ⟨m, rfl, hm⟩
theorem cells_T : ∀ (g : Nat) {cs : List AV}, Cells P g Y.t cs → ∃ t, cs = tL t ∧ WfT t := by
  intro g
  induction g using Nat.strongRecOn with
  | ind g ih =>
    intro cs h
    obtain ⟨g1, hg1, h⟩ := cells_struct Y.ht h
    obtain ⟨_, _, rfl, a1, _, _, rfl, a2, _, _, rfl, a3, _, _, rfl, a4, _, _, rfl, a5, _, _, rfl, a8, rfl⟩ := h
    obtain ⟨n1, rfl, b1⟩ := cells_i Y a1
    obtain ⟨n2, rfl, b2⟩ := cells_i Y a2
    obtain ⟨n3, rfl, b3⟩ := cells_i Y a3
    obtain ⟨n4, rfl, b4⟩ := cells_i Y a4
    obtain ⟨m5, rfl, b5⟩ := cells_Es Y a5
    obtain ⟨g2, hg2, l, rfl, _, hl⟩ := cells_slice Y.hts a8
    obtain ⟨m, rfl, hm⟩ := map_of (f := encT) (p := WfT) (l := l) fun x hx => by
      obtain ⟨es, h1, h2⟩ := hl x hx
      rw [str_agg Y.ht] at h1
      obtain rfl := mkv_agg h1
      obtain ⟨e, rfl, he⟩ := ih g2 (by omega) h2
      exact ⟨e, rfl, he⟩
    refine ⟨.mk n1 n2 n3 n4 m5 m, ?_, (WfT_iff _).2 ⟨⟨b1, b2, b3, b4⟩, b5, hm⟩⟩
    simp only [tL, encTs_eq, T.op, T.sig, T.hi, T.lo, T.e, T.l]
    rfl
theorem cells_Ts {g : Nat} {cs : List AV} (h : Cells P g Y.ts cs) : ∃ m : List T, cs = [.slice (m.map encT) .no] ∧ ∀ x ∈ m, WfT x := by
  obtain ⟨g2, hg2, l, rfl, _, hl⟩ := cells_slice Y.hts h
  obtain ⟨m, rfl, hm⟩ := map_of (f := encT) (p := WfT) (l := l) fun x hx => by
    obtain ⟨es, h1, h2⟩ := hl x hx
    rw [str_agg Y.ht] at h1
    obtain rfl := mkv_agg h1
    obtain ⟨e, rfl, he⟩ := cells_T Y g2 h2
    exact ⟨e, rfl, he⟩
  exact ⟨m, rfl, hm⟩
theorem cells_D {g : Nat} {t : TypeId} {cs : List AV} (ht : Str P t [Y.sgs, Y.ps, Y.ks]) (h : Cells P g t cs) : ∃ d, cs = dL d ∧ WfD d := by
  obtain ⟨g1, hg1, h⟩ := cells_struct ht h
  obtain ⟨_, _, rfl, a1, _, _, rfl, a2, _, _, rfl, a3, rfl⟩ := h
  obtain ⟨g2, hg2, l, rfl, _, hl⟩ := cells_slice Y.hsgs a1
  obtain ⟨m1, rfl, hm1⟩ := map_of (f := encS) (p := WfS) (l := l) fun x hx => by
    obtain ⟨es, h1, h2⟩ := hl x hx
    rw [str_agg Y.hsg] at h1
    obtain rfl := mkv_agg h1
    obtain ⟨g3, _, h2⟩ := cells_struct Y.hsg h2
    obtain ⟨_, _, rfl, c1, _, _, rfl, c2, _, _, rfl, c3, _, _, rfl, c4, rfl⟩ := h2
    obtain ⟨s, rfl, _⟩ := cells_str Y.hs c1
    obtain ⟨n2, rfl, b2⟩ := cells_i Y c2
    obtain ⟨n3, rfl, b3⟩ := cells_i Y c3
    obtain ⟨n4, rfl, b4⟩ := cells_u Y c4
    exact ⟨⟨s, n2, n3, n4⟩, rfl, b2, b3, b4⟩
  obtain ⟨g2, hg2, l, rfl, _, hl⟩ := cells_slice Y.hps a2
  obtain ⟨m2, rfl, hm2⟩ := map_of (f := encP) (p := fun p => ∀ t ∈ p.l, WfT t) (l := l) fun x hx => by
    obtain ⟨es, h1, h2⟩ := hl x hx
    rw [str_agg Y.hp] at h1
    obtain rfl := mkv_agg h1
    obtain ⟨g3, _, h2⟩ := cells_struct Y.hp h2
    obtain ⟨_, _, rfl, c1, _, _, rfl, c2, rfl⟩ := h2
    obtain ⟨b, rfl⟩ := cells_bool Y.hb c1
    obtain ⟨m, rfl, hm⟩ := cells_Ts Y c2
    exact ⟨⟨b, m⟩, rfl, hm⟩
  obtain ⟨g2, hg2, l, rfl, _, hl⟩ := cells_slice Y.hks a3
  obtain ⟨m3, rfl, hm3⟩ := map_of (f := encC) (p := fun c => WfE c.e) (l := l) fun x hx => by
    obtain ⟨es, h1, h2⟩ := hl x hx
    rw [str_agg Y.hk] at h1
    obtain rfl := mkv_agg h1
    obtain ⟨g3, _, h2⟩ := cells_struct Y.hk h2
    obtain ⟨_, _, rfl, c1, _, _, rfl, c2, rfl⟩ := h2
    obtain ⟨s, rfl, _⟩ := cells_str Y.hs c1
    obtain ⟨e, rfl, he⟩ := cells_E Y g3 Y.he c2
    exact ⟨⟨s, e⟩, by simp [encC], he⟩
  exact ⟨⟨m1, m2, m3⟩, rfl, hm1, hm2, hm3⟩
omit Y

/-! ### How much -/
theorem szAs_map {α : Type} (f : α → AV) (l : List α) : szAs (l.map f) = (l.map fun x => szA (f x)).sum := by
  induction l with
  | nil => simp [szAs]
  | cons a l ih => simp [szAs, ih]
theorem sum_mono_m {α : Type} {f h : α → Nat} {l : List α} (q : ∀ x ∈ l, f x ≤ h x) : (l.map f).sum ≤ (l.map h).sum := by
  induction l with
  | nil => simp
  | cons a l ih =>
    have h1 := q a (by simp)
    have h2 := ih fun x hx => q x (by simp [hx])
    simp only [List.map_cons, List.sum_cons]; omega
theorem nodes_sz (e : E) : nodes e ≤ szAs (eL e) := by
  refine E.ind (P := fun e => nodes e ≤ szAs (eL e)) (fun e ih => ?_) e
  have h1 : (e.l.map nodes).sum ≤ szAs (encEs e) := by
    rw [encEs_eq, szAs_map]
    refine sum_mono_m fun x hx => ?_
    have := ih x hx
    simp only [encE, szA]; omega
  rw [nodes_eq]
  simp only [eL, szAs, szA] at h1 ⊢
  omega
theorem nodesT_sz (t : T) : nodesT t ≤ szAs (tL t) := by
  refine T.ind (P := fun t => nodesT t ≤ szAs (tL t)) (fun t ih => ?_) t
  have h1 : (t.l.map nodesT).sum ≤ szAs (encTs t) := by
    rw [encTs_eq, szAs_map]
    refine sum_mono_m fun x hx => ?_
    have := ih x hx
    simp only [encT, szA]; omega
  have h2 : (t.e.map nodes).sum ≤ szAs (t.e.map encE) := by
    rw [szAs_map]
    refine sum_mono_m fun x hx => ?_
    have := nodes_sz x
    simp only [encE, szA]; omega
  rw [nodesT_eq]
  simp only [tL, szAs, szA] at h1 h2 ⊢
  omega
theorem len_szAs {α : Type} (f : α → AV) (l : List α) : l.length ≤ szAs (l.map f) := by
  induction l with
  | nil => simp
  | cons a l ih =>
    have : 1 ≤ szA (f a) := by cases f a <;> simp [szA]
    simp only [List.map_cons, szAs, List.length_cons]; omega
theorem sm_sz {d : Flat} (h : szAs (dL d) ≤ 16777216) : d.sigs.length ≤ 16777216 ∧ d.procs.length ≤ 16777216 ∧ d.chks.length ≤ 16777216 ∧ nodesD d ≤ 16777216 := by
  simp only [dL, szAs, szA] at h
  have h1 := len_szAs encS d.sigs
  have h2 := len_szAs encP d.procs
  have h3 := len_szAs encC d.chks
  have h4 : (d.procs.map nodesP).sum ≤ szAs (d.procs.map encP) := by
    rw [szAs_map]
    refine sum_mono_m fun p hp => ?_
    have : (p.l.map nodesT).sum ≤ szAs (p.l.map encT) := by
      rw [szAs_map]
      refine sum_mono_m fun x hx => ?_
      have := nodesT_sz x
      simp only [encT, szA]; omega
    unfold nodesP
    simp only [encP, szA, szAs]; omega
  have h5 : (d.chks.map fun c => nodes c.e).sum ≤ szAs (d.chks.map encC) := by
    rw [szAs_map]
    refine sum_mono_m fun c hc => ?_
    have := nodes_sz c.e
    simp only [encC, szA, szAs] at this ⊢; omega
  refine ⟨by omega, by omega, by omega, ?_⟩
  unfold nodesD; omega
end Fil.Sz

namespace Go.Proofs.Ytdiebjnjhgbklaa
open Abs Fil Fil.Sz
def tys : Tys Try.prog where
  i := 3
  u := 27
  b := 4
  s := 9
  e := 30
  es := 28
  t := 58
  ts := 54
  sg := 71
  sgs := 22
  p := 56
  ps := 23
  k := 80
  ks := 24
  hi := Try.underlying3
  hu := Try.underlying27
  hb := Try.underlying4
  hs := Try.underlying9
  he := ⟨_, Try.underlying30, rfl⟩
  hes := Try.underlying28
  ht := ⟨_, Try.underlying58, rfl⟩
  hts := Try.underlying54
  hsg := ⟨_, Try.underlying71, rfl⟩
  hsgs := Try.underlying22
  hp := ⟨_, Try.underlying56, rfl⟩
  hps := Try.underlying23
  hk := ⟨_, Try.underlying80, rfl⟩
  hks := Try.underlying24
def plainTys : List TypeId := [3, 4, 9, 27, 22, 23, 24, 26, 28, 30, 54, 56, 58, 71, 80]
theorem plain_ok : plainAll Try.prog plainTys = true := by kernel_rfl
theorem str_D : Str Try.prog 26 [22, 23, 24] := ⟨_, Try.underlying26, rfl⟩
def bulkU (H : Type) : Bulk H where
  B := Rows.uptoBulk
  BA := Rows.uptoBulkAll
  lit := fun l => by cases l <;> simp [Rows.uptoBulk]
  str := fun s => by simp [Rows.uptoBulk]
  nil := by simp [Rows.uptoBulk]
  slice := fun l r => by simp only [Rows.uptoBulk]; omega
  agg := fun l => by simp only [Rows.uptoBulk]; omega
  bnil := by simp [Rows.uptoBulkAll]
  bcons := fun d l => by simp [Rows.uptoBulkAll]
theorem bulkU_le {H : Type} {l : List (DataW H)} (h : Rows.uptoSmall H l = true) : (bulkU H).BA l ≤ 1048576 := by
  simpa [Rows.uptoSmall, bulkU] using h
theorem arg_D {g : Nat} {es : List AV} {a : AV} (h1 : mkv (Abs.isAgg Try.prog 26) es = some a) (h2 : Cells Try.prog g 26 es) : ∃ d, a = encD d ∧ WfD d := by
  rw [str_agg str_D] at h1
  obtain rfl := mkv_agg h1
  obtain ⟨d, rfl, hd⟩ := cells_D tys str_D h2
  exact ⟨d, rfl, hd⟩
theorem sm_of {d : Flat} (h : szA (encD d) ≤ 1048576) : Sm d := sm_sz (by simp only [szA] at h; omega)
theorem argsR_cons {P : Program} {t : TypeId} {ts : List TypeId} {xs : List AV} (h : ArgsR P (t :: ts) xs) : ∃ a ys g es, xs = a :: ys ∧ mkv (Abs.isAgg P t) es = some a ∧ Cells P g t es ∧ ArgsR P ts ys := by
  cases xs with
  | nil => exact h.elim
  | cons a ys => obtain ⟨⟨g, es, h1, h2⟩, h3⟩ := h; exact ⟨a, ys, g, es, rfl, h1, h2, h3⟩
theorem argsR_nil {P : Program} {xs : List AV} (h : ArgsR P [] xs) : xs = [] := by
  cases xs with
  | nil => rfl
  | cons a ys => exact h.elim
theorem args_D {xs : List AV} (h : ArgsR Try.prog [26] xs) (hs : szAs xs ≤ 1048576) : ∃ d, xs = [encD d] ∧ WfD d ∧ Sm d := by
  obtain ⟨a, _, _, _, rfl, h1, h2, h⟩ := argsR_cons h
  obtain rfl := argsR_nil h
  obtain ⟨d, rfl, hd⟩ := arg_D h1 h2
  exact ⟨d, rfl, hd, sm_of (by simp only [szAs] at hs; omega)⟩
end Go.Proofs.Ytdiebjnjhgbklaa

namespace Go.Proofs.Ytdiebjnjhgbklaa
open Abs Fil Fil.Sz
set_option maxRecDepth 20000 in
set_option maxHeartbeats 4000000 in
theorem lw_SizedOnce (d : Flat) (σ : Sig) (hw : WfD d) (hd : Sm d) : ACalls Try.prog 6 [encD d] σ (fun r σ' => r = .ret (.bool true) ∧ σ' = σ) := by
  have z1 := fun τ => lw_live τ
  have z3 := fun τ => rf_Small d τ hd
  have z4 := fun τ => sz_Size d τ hd hw
  have hm := sm_sized hd
  have z7 := fun τ => sz_Check d τ hd hw
  have hok := sizeD_ok (d := d)
  have hbad := sizeD_bad (d := d)
  have herr := checkD_err (d := d)
  have hsame := checkD_same (d := d)
  obtain ⟨⟨x, f⟩, hR⟩ : ∃ R, sizeD d = R := ⟨_, rfl⟩
  rw [hR] at z4 hm hok hbad herr hsame
  simp only at hm hok hbad herr hsame
  obtain ⟨C, hC⟩ : ∃ C, checkD d = C := ⟨_, rfl⟩
  rw [hC] at z7 herr hsame
  obtain ⟨q, hq⟩ : ∃ C, smallD d = C := ⟨_, rfl⟩
  rw [hq] at z3
  clear hR hC hq
  refine calls_x mixed Try.func6 b6 n6 rfl q6 (by simp) ?_; unfold c6 r6
  cases q
  · clear z4 hm z7 hok hbad herr hsame hd hw
    repeat' (first | simp (maxDischargeDepth := 9) -implicitDefEqProofs -dsimp only [go_sem, seval, *] | ((with_reducible refine Zt (fun oF hoF hnF hnF' => ?_)); (try simp only [upd_none, ne_eq, not_and] at hoF)) | ((with_reducible apply ACalls.one1); (focus (first | with_reducible refine z1 _ | with_reducible refine z3 _) <;> (first | (simp (maxDischargeDepth := 9) -implicitDefEqProofs -dsimp only [go_sem, seval, *]; done) | omega)); (focus (first | trivial | with_reducible exact rfl | (simp (maxDischargeDepth := 9) -implicitDefEqProofs -dsimp only [go_sem, seval]; done)))))
    refine fin_eq ?_
    (repeat' (first | simp (maxDischargeDepth := 9) -implicitDefEqProofs -dsimp only [go_sem, seval, *])) <;> (repeat' refine And.intro ?_ ?_) <;> (first | omega | rfl | assumption | skip)
  by_cases hf : f = 0
  case neg =>
    have hx := hbad hf
    subst hx
    have hc := herr hf
    subst hc
    have hfb : (C != 0) = true := by simp [hf]
    clear hm hok hbad herr hsame hd hw hf
    repeat' (first | simp (maxDischargeDepth := 9) -implicitDefEqProofs -dsimp only [go_sem, seval, *] | ((with_reducible refine Zt (fun oF hoF hnF hnF' => ?_)); (try simp only [upd_none, ne_eq, not_and] at hoF)) | ((with_reducible apply ACalls.one1); (focus (first | with_reducible refine z1 _ | with_reducible refine z3 _ | with_reducible refine z4 _ | with_reducible refine z7 _) <;> (first | (simp (maxDischargeDepth := 9) -implicitDefEqProofs -dsimp only [go_sem, seval, *]; done) | omega)); (focus (first | trivial | with_reducible exact rfl | (simp (maxDischargeDepth := 9) -implicitDefEqProofs -dsimp only [go_sem, seval]; done)))))
    refine fin_eq ?_
    (repeat' (first | simp (maxDischargeDepth := 9) -implicitDefEqProofs -dsimp only [go_sem, seval, *])) <;> (repeat' refine And.intro ?_ ?_) <;> (first | omega | rfl | assumption | skip)
  subst hf
  have ok := hok rfl
  have z5 := fun τ => sz_Size x τ hm (ok.wf hw)
  have z8 := fun τ => sz_Check x τ hm (ok.wf hw)
  have z6 := fun τ => rf_Same x x τ hm hm
  have y6 := fun τ => rf_Same x d τ hm hd
  rw [ok.same] at z5
  rw [checkD_of ok.same] at z8
  rw [same_self] at z6
  rw [← hsame rfl] at y6
  have e1 := ok.sigs
  have e2 := ok.procs
  have e3 := ok.chks
  have e4 : x.sigs.length = d.sigs.length := by rw [e1]
  clear hm hok hbad herr hsame hd hw ok e1
  repeat' (first | simp (maxDischargeDepth := 9) -implicitDefEqProofs -dsimp only [go_sem, seval, *] | ((with_reducible refine Zt (fun oF hoF hnF hnF' => ?_)); (try simp only [upd_none, ne_eq, not_and] at hoF)) | ((with_reducible apply ACalls.one1); (focus (first | with_reducible refine z1 _ | with_reducible refine z3 _ | with_reducible refine z4 _ | with_reducible refine z5 _ | with_reducible refine z6 _ | with_reducible refine y6 _ | with_reducible refine z7 _ | with_reducible refine z8 _) <;> (first | (simp (maxDischargeDepth := 9) -implicitDefEqProofs -dsimp only [go_sem, seval, *]; done) | omega)); (focus (first | trivial | with_reducible exact rfl | (simp (maxDischargeDepth := 9) -implicitDefEqProofs -dsimp only [go_sem, seval]; done)))) | ((with_reducible apply id_one0); (focus (intro tS hS; (first | with_reducible refine z1 _ | with_reducible refine z3 _ | with_reducible refine z4 _ | with_reducible refine z5 _ | with_reducible refine z6 _ | with_reducible refine y6 _ | with_reducible refine z7 _ | with_reducible refine z8 _) <;> (first | (simp (maxDischargeDepth := 9) -implicitDefEqProofs -dsimp only [go_sem, seval, *]; done) | omega | ((with_reducible refine Sub.get hS ?_); simp (maxDischargeDepth := 9) -implicitDefEqProofs -dsimp only [go_sem, seval, *]; done)))); (focus (first | trivial | (simp (maxDischargeDepth := 9) -implicitDefEqProofs -dsimp only [go_sem, seval, *]; done)))))
  refine fin_eq ?_
  (repeat' (first | simp (maxDischargeDepth := 9) -implicitDefEqProofs -dsimp only [go_sem, seval, *])) <;> (repeat' refine And.intro ?_ ?_) <;> (first | omega | rfl | assumption | skip)
end Go.Proofs.Ytdiebjnjhgbklaa

