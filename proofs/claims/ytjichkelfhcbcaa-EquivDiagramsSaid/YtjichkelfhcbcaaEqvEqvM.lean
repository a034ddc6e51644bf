/- equiv: EquivDiagrams. -/
import Derived.Test.YtjichkelfhcbcaaEqvEqvI
set_option linter.unusedSimpArgs false
set_option linter.unusedVariables false
namespace Fil.Bd
def subs (k : Nat) : Nat → Int → List Bool → List (Int × List Bool)
  | 0, _, _ => []
  | m + 1, v, t =>
    if m + 1 ≤ k then []
    else if t.take (2 ^ m) = t.drop (2 ^ m) then subs k m (v + 1) (t.take (2 ^ m))
    else (v, t) :: (subs k m (v + 1) (t.take (2 ^ m)) ++ subs k m (v + 1) (t.drop (2 ^ m)))
theorem subs_low {k : Nat} : ∀ (m : Nat) (v : Int) (t : List Bool), m ≤ k → subs k m v t = []
  | 0, _, _, _ => rfl
  | m + 1, v, t, h => by rw [subs, if_pos h]
theorem subs_len {k : Nat} : ∀ (m : Nat) (v : Int) (t : List Bool), (subs k m v t).length + 1 ≤ 2 ^ (m - k)
  | 0, v, t => by simp [subs]
  | m + 1, v, t => by
    have h1 := subs_len (k := k) m (v + 1) (t.take (2 ^ m))
    have h2 := subs_len (k := k) m (v + 1) (t.drop (2 ^ m))
    have hp := Nat.two_pow_pos (m - k)
    rw [subs]
    by_cases hk : m + 1 ≤ k
    · rw [if_pos hk]
      have := Nat.two_pow_pos (m + 1 - k)
      simp only [List.length_nil]; omega
    · rw [if_neg hk]
      have e1 : 2 ^ (m + 1 - k) = 2 * 2 ^ (m - k) := by rw [show m + 1 - k = (m - k) + 1 by omega, Nat.pow_succ]; omega
      split
      · omega
      · simp only [List.length_cons, List.length_append]; omega
theorem subs_const {k : Nat} (x : Bool) : ∀ (m : Nat) (v : Int), subs k m v (List.replicate (2 ^ m) x) = []
  | 0, v => rfl
  | m + 1, v => by
    have e : List.replicate (2 ^ (m + 1)) x = List.replicate (2 ^ m) x ++ List.replicate (2 ^ m) x := by rw [List.replicate_append_replicate]; congr 1; rw [Nat.pow_succ]; omega
    rw [subs, e, List.take_left' (by simp), List.drop_left' (by simp)]
    split
    · rfl
    · rw [if_pos rfl]; exact subs_const x m (v + 1)
theorem subs_var {k : Nat} (f : Bool → Bool) : ∀ (m d : Nat) (v : Int), d < m → (subs k m v ((varT m d).map f)).length ≤ 1
  | 0, d, v, h => by omega
  | m + 1, 0, v, h => by
    have e : (varT (m + 1) 0).map f = List.replicate (2 ^ m) (f false) ++ List.replicate (2 ^ m) (f true) := by simp [varT]
    rw [subs, e, List.take_left' (by simp), List.drop_left' (by simp), subs_const, subs_const]
    split
    · simp
    · split <;> simp
  | m + 1, d + 1, v, h => by
    have hl := varT_len m d (by omega)
    have e : (varT (m + 1) (d + 1)).map f = (varT m d).map f ++ (varT m d).map f := by simp [varT]
    rw [subs, e, List.take_left' (by simp [hl]), List.drop_left' (by simp [hl])]
    split
    · simp
    · rw [if_pos rfl]; exact subs_var f m d (v + 1) (by omega)
def Cov (vars : Int) (L : List (Int × List Bool)) (F : List T3) : Prop := ∀ i : Nat, i < F.length → isUp vars 3 F i = true → ((frk F i).1, tab F (vars - (frk F i).1).toNat (frk F i).1 i) ∈ L
theorem put_cov {vars : Int} {L : List (Int × List Bool)} : ∀ (m : Nat) (F : List T3) (v : Int) (t : List Bool), Ok vars F → 0 ≤ v → v + m = vars → t.length = 2 ^ m → Cov vars L F → (∀ x ∈ subs 3 m v t, x ∈ L) → Cov vars L (put m F v t).1
  | 0, F, v, t, ho, h0, hv, ht, hc, hs => hc
  | m + 1, F, v, t, ho, h0, hv, ht, hc, hs => by
    have hP := put_ok (m + 1) F v t ho h0 hv ht
    have ht2 : t.length = 2 ^ m + 2 ^ m := by rw [ht, Nat.pow_succ]; omega
    have l1 : (t.take (2 ^ m)).length = 2 ^ m := by rw [List.length_take]; omega
    have l2 : (t.drop (2 ^ m)).length = 2 ^ m := by rw [List.length_drop]; omega
    by_cases hsame : t.take (2 ^ m) = t.drop (2 ^ m)
    · have e : put (m + 1) F v t = put m F (v + 1) (t.take (2 ^ m)) := by simp only [put]; rw [if_pos hsame]
      rw [e]
      refine put_cov m F (v + 1) _ ho (by omega) (by omega) l1 hc fun x hx => ?_
      by_cases hk : m + 1 ≤ 3
      · rw [subs_low m _ _ (by omega)] at hx; simp at hx
      · refine hs x ?_
        rw [subs, if_neg hk, if_pos hsame]; exact hx
    · have ha := put_ok m F (v + 1) (t.take (2 ^ m)) ho (by omega) (by omega) l1
      have hb := put_ok m (put m F (v + 1) (t.take (2 ^ m))).1 (v + 1) (t.drop (2 ^ m)) ha.ok (by omega) (by omega) l2
      have ca := put_cov (L := L) m F (v + 1) (t.take (2 ^ m)) ho (by omega) (by omega) l1 hc fun x hx => by
        by_cases hk : m + 1 ≤ 3
        · rw [subs_low m _ _ (by omega)] at hx; simp at hx
        · refine hs x ?_
          rw [subs, if_neg hk, if_neg hsame]
          exact List.mem_cons_of_mem _ (List.mem_append_left _ hx)
      have cb := put_cov (L := L) m (put m F (v + 1) (t.take (2 ^ m))).1 (v + 1) (t.drop (2 ^ m)) ha.ok (by omega) (by omega) l2 ca fun x hx => by
        by_cases hk : m + 1 ≤ 3
        · rw [subs_low m _ _ (by omega)] at hx; simp at hx
        · refine hs x ?_
          rw [subs, if_neg hk, if_neg hsame]
          exact List.mem_cons_of_mem _ (List.mem_append_right _ hx)
      obtain ⟨a, hae⟩ : ∃ a, put m F (v + 1) (t.take (2 ^ m)) = a := ⟨_, rfl⟩
      rw [hae] at ha hb ca cb
      obtain ⟨b, hbe⟩ : ∃ b, put m a.1 (v + 1) (t.drop (2 ^ m)) = b := ⟨_, rfl⟩
      rw [hbe] at hb cb
      have e : put (m + 1) F v t = match find b.1 (v, a.2, b.2) with
        | some i => (b.1, i)
        | none => (b.1 ++ [(v, a.2, b.2)], (b.1.length : Int)) := by
        simp only [put]; rw [if_neg hsame, hae, hbe]; cases find b.1 (v, a.2, b.2) <;> rfl
      rw [e] at hP ⊢
      cases hf : find b.1 (v, a.2, b.2) with
      | some i => simpa [hf] using cb
      | none =>
        rw [hf] at hP
        simp only at hP ⊢
        have htab := hP.tab
        simp only at htab
        intro i hi hu
        rw [List.length_append, List.length_cons, List.length_nil] at hi
        by_cases hlt : i < b.1.length
        · have hfr : frk (b.1 ++ [(v, a.2, b.2)]) i = frk b.1 i := frk_app (by omega) (by omega)
          have hu' : isUp vars 3 b.1 i = true := by unfold isUp at hu ⊢; rw [hfr] at hu; exact hu
          rw [hfr, tab_app hb.ok _ _ _ _ (by omega) (by omega)]
          exact cb i hlt hu'
        · obtain rfl : i = b.1.length := by omega
          have hfr : frk (b.1 ++ [(v, a.2, b.2)]) b.1.length = (v, a.2, b.2) := by simp [frk, List.getD_eq_getElem?_getD]
          have hk : ¬ m + 1 ≤ 3 := by
            unfold isUp at hu
            rw [hfr] at hu
            simp only [Bool.and_eq_true, decide_eq_true_eq, Bool.not_eq_true', decide_eq_false_iff_not] at hu
            omega
          rw [hfr]
          have ev : (vars - v).toNat = m + 1 := by omega
          simp only [ev, htab]
          refine hs _ ?_
          rw [subs, if_neg hk, if_neg hsame]
          exact List.mem_cons_self
theorem cov_ups {vars : Int} {L : List (Int × List Bool)} {F : List T3} (ho : Ok vars F) (hc : Cov vars L F) : ups vars 3 F ≤ L.length := by
  unfold ups
  have key : ((List.range F.length).filter (isUp vars 3 F)).length = (((List.range F.length).filter (isUp vars 3 F)).map fun i : Nat => ((frk F i).1, tab F (vars - (frk F i).1).toNat (frk F i).1 i)).length := by simp
  rw [key]
  have hmem : ∀ i, i ∈ (List.range F.length).filter (isUp vars 3 F) → i < F.length ∧ 2 ≤ i ∧ isUp vars 3 F i = true := fun i h => by
    simp only [List.mem_filter, List.mem_range] at h
    refine ⟨h.1, ?_, h.2⟩
    have := h.2
    simp only [isUp, Bool.and_eq_true, decide_eq_true_eq] at this
    exact this.1
  refine len_le_of_nodup _ _ ?_ ?_
  · have hnd : ((List.range F.length).filter (isUp vars 3 F)).Nodup := List.nodup_range.filter _
    refine List.pairwise_map.2 (hnd.imp_of_mem ?_)
    intro i j hi hj hne he
    obtain ⟨i1, i2, _⟩ := hmem i hi
    obtain ⟨j1, j2, _⟩ := hmem j hj
    have vi := ho.var i (by omega) (by omega)
    have vj := ho.var j (by omega) (by omega)
    simp only [Prod.mk.injEq] at he
    obtain ⟨hv, ht⟩ := he
    rw [hv] at ht
    apply hne
    have := canon ho (vars - (frk F j).1).toNat (frk F j).1 i j (by omega) ⟨by omega, by omega, by unfold top; rw [if_neg (by omega)]; omega⟩ ⟨by omega, by omega, by unfold top; rw [if_neg (by omega)]; omega⟩ ht
    omega
  · intro x hx
    simp only [List.mem_map] at hx
    obtain ⟨i, hi, rfl⟩ := hx
    obtain ⟨i1, i2, i3⟩ := hmem i hi
    exact hc i i1 i3
theorem iteT_neg : ∀ (n : Nat) (a : List Bool), a.length = n → iteT a (List.replicate n false) (List.replicate n true) = a.map (!·)
  | 0, [], _ => rfl
  | n + 1, x :: a, h => by
    simp only [List.replicate_succ, iteT, List.map_cons]
    rw [iteT_neg n a (by simpa using h)]
    cases x <;> rfl
end Fil.Bd
namespace Fil.Eqv
open Bd (D T3 In T varW notW iteW opW askE Cov subs)
def Cv (n : Nat) (ts : List (List Bool)) (b : D) : Prop := Cov n (ts.flatMap (subs 3 n 0)) b.2
def Nd (ts : List (List Bool)) (b : D) (nodes : List Int) : Prop := ∀ x ∈ nodes, T b x ∈ ts ∧ (T b x).map (!·) ∈ ts
theorem Cv.more {n : Nat} {ts : List (List Bool)} {b : D} (h : Cv n ts b) (us : List (List Bool)) : Cv n (ts ++ us) b := fun i h1 h2 => by
  rw [List.flatMap_append]; exact List.mem_append_left _ (h i h1 h2)
theorem cv_op {n c : Nat} {b : D} {t : List Bool} {ts : List (List Bool)} (h : Good n c b) (hc : Cv n ts b) (ht : t.length = 2 ^ n) (hm : t ∈ ts) : Cv n ts (opW b 0 t).1 := by
  obtain ⟨v, F⟩ := b
  obtain rfl : v = n := h.vars
  have := Bd.put_cov (L := ts.flatMap (subs 3 n 0)) n F 0 t h.fine.toOk (by omega) (by omega) ht hc fun x hx => List.mem_flatMap.2 ⟨t, hm, hx⟩
  exact this
theorem Nd.more {n c : Nat} {ts : List (List Bool)} {b r : D} {nodes : List Int} (h : Nd ts b nodes) (hg : Good n c b) (hr : r.1 = n) (hp : ∃ l, r.2 = b.2 ++ l) (hi : ∀ x ∈ nodes, In n b.2 0 x) (us : List (List Bool)) : Nd (ts ++ us) r nodes := fun x hx => by
  obtain ⟨l, hl⟩ := hp
  rw [(T_pre hg hr hl (hi x hx)).1]
  exact ⟨List.mem_append_left _ (h x hx).1, List.mem_append_left _ (h x hx).2⟩
theorem T_const {n c : Nat} {b : D} (h : Good n c b) : T b 0 = List.replicate (2 ^ n) false ∧ T b 1 = List.replicate (2 ^ n) true := by
  have hv : b.1.toNat = n := by rw [h.vars]; simp
  rw [← hv]
  exact ⟨Bd.tab_zero .., Bd.tab_one ..⟩
theorem cv_lit {n c : Nat} {b : D} {nodes : List Int} {ts : List (List Bool)} (hg : Good n c b) (hc : c < 2000) (hi : ∀ x ∈ nodes, In n b.2 0 x) (hn : Nd ts b nodes) (hv : Cv n ts b) {l : Int} (h1 : (l / 2).toNat < nodes.length) : Cv n ts (litM b nodes l).1 := by
  unfold litM
  by_cases c2 : l % 2 = 0
  · rw [if_pos c2]; exact hv
  · rw [if_neg c2]
    have hx := mem_getD h1
    have hb : b.1.toNat = n := by rw [hg.vars]; simp
    obtain ⟨f, hf⟩ : ∃ f, nodes.getD (l / 2).toNat 0 = f := ⟨_, rfl⟩
    rw [hf] at hx ⊢
    have hl : (T b f).length = 2 ^ n := by rw [Bd.T_len, hb]
    have e : askE b [f, 0, 1] false = 0 := Bd.ask_ok (by rw [hg.vars]; exact hg.fine) (by simp [Bd.in_out (hi _ hx), Bd.in_out (In0 hg).1, Bd.in_out (In0 hg).2])
    show Cv n ts (notW b f).1
    unfold notW iteW
    rw [e, (T_const hg).1, (T_const hg).2, Bd.iteT_neg _ _ hl]
    exact cv_op hg hv (by simp [hl]) (hn _ hx).2
theorem cv_ite {n c : Nat} {b : D} {f g k : Int} {ts : List (List Bool)} (h : Good n c b) (hv : Cv n ts b) (i1 : In n b.2 0 f) (i2 : In n b.2 0 g) (i3 : In n b.2 0 k) (hm : Bd.iteT (T b f) (T b g) (T b k) ∈ ts) : Cv n ts (iteW b f g k).1 := by
  have e : askE b [f, g, k] false = 0 := Bd.ask_ok (by rw [h.vars]; exact h.fine) (by simp [Bd.in_out i1, Bd.in_out i2, Bd.in_out i3])
  have hb : b.1.toNat = n := by rw [h.vars]; simp
  have hl : ∀ f, (T b f).length = 2 ^ n := fun f => by rw [Bd.T_len, hb]
  unfold iteW
  rw [e]
  exact cv_op h hv (Bd.iteT_len (hl f) (hl g) (hl k)) hm
theorem few_vars {n : Nat} (hn : n ≤ 8) : ∀ i, i ≤ n → ∃ ts, Cv n ts (stVars n i).1 ∧ Nd ts (stVars n i).1 (stVars n i).2 ∧ (ts.flatMap (subs 3 n 0)).length ≤ 2 * i
  | 0, _ => by
    refine ⟨[List.replicate (2 ^ n) false, List.replicate (2 ^ n) true], fun i h1 h2 => ?_, fun x hx => ?_, ?_⟩
    · exfalso
      have : i < 2 := h1
      unfold Bd.isUp at h2
      simp at h2
      omega
    · have e : x = 0 := by simpa [stVars] using hx
      subst e
      have : T (stVars n 0).1 0 = List.replicate (2 ^ n) false := (T_const (new_good hn)).1
      rw [this]
      simp
    · simp [Bd.subs_const]
  | i + 1, hi => by
    obtain ⟨ts, h1, h2, h3⟩ := few_vars hn i (by omega)
    obtain ⟨r1, _⟩ := rep_vars hn (w := List.replicate n false) (by simp) i (by omega)
    have e : stVars n (i + 1) = stVar (stVars n i) i := by simp [stVars, List.range_succ]
    obtain ⟨o1, o2, o3, o4, o5⟩ := var_good r1.good (by omega) (show i < n by omega)
    have hl := Bd.varT_len n i (by omega)
    have hvW : varW (stVars n i).1 (i : Int) = opW (stVars n i).1 0 (Bd.varT n i) := by
      have ea : askE (stVars n i).1 [] (Bd.off (stVars n i).1 i) = 0 := Bd.ask_ok (by rw [r1.good.vars]; exact r1.good.fine) (by simp [Bd.off, r1.good.vars]; omega)
      have hv : (stVars n i).1.1.toNat = n := by rw [r1.good.vars]; simp
      unfold varW
      rw [ea, hv, Int.toNat_natCast]
    rw [e]
    refine ⟨ts ++ [Bd.varT n i, (Bd.varT n i).map (!·)], ?_, fun x hx => ?_, ?_⟩
    · show Cv n _ (varW (stVars n i).1 i).1
      rw [hvW]
      exact cv_op r1.good (h1.more _) hl (by simp)
    · have hx' : x ∈ (stVars n i).2 ++ [(varW (stVars n i).1 i).2.1] := hx
      rcases List.mem_append.1 hx' with q | q
      · exact Nd.more h2 r1.good o2.vars o5 r1.inn _ x q
      · have : x = (varW (stVars n i).1 i).2.1 := by simpa using q
        subst this
        have : T (stVar (stVars n i) i).1 (varW (stVars n i).1 i).2.1 = Bd.varT n i := o4
        rw [this]
        simp
    · have a1 := Bd.subs_var (k := 3) id n i 0 (by omega)
      have a2 := Bd.subs_var (k := 3) (!·) n i 0 (by omega)
      rw [List.map_id] at a1
      simp only [List.flatMap_append, List.flatMap_cons, List.flatMap_nil, List.length_append, List.length_nil]
      omega
theorem few_ands {n : Nat} {w : List Bool} (hn : n ≤ 8) : ∀ (l : List (Int × Int)) (c : Nat) (s : S) (v : List Bool) (ts : List (List Bool)), Rep n c s.1 s.2 w v → c + 3 * l.length ≤ 2000 → Aig.gatesOk (s.2.length : Nat) l = true → Cv n ts s.1 → Nd ts s.1 s.2 →
    ∃ us, Cv n us (l.foldl stAnd s).1 ∧ Nd us (l.foldl stAnd s).1 (l.foldl stAnd s).2 ∧ (us.flatMap (subs 3 n 0)).length ≤ (ts.flatMap (subs 3 n 0)).length + 62 * l.length
  | [], c, s, v, ts, h, _, _, hc, hd => ⟨ts, hc, hd, by simp⟩
  | x :: l, c, s, v, ts, h, hcc, hg, hc, hd => by
    simp only [Aig.gatesOk, Bool.and_eq_true, litN_iff] at hg
    obtain ⟨⟨g1, g2⟩, g3⟩ := hg
    simp only [List.length_cons] at hcc
    have r := (rep_and h (by omega) g1 g2).1
    have hl : (stAnd s x).2.length = s.2.length + 1 := by simp [stAnd]
    obtain ⟨p1, p2, _, p4, _⟩ := rep_lit h (by omega) g1.1 (show (x.1 / 2).toNat < s.2.length by omega)
    obtain ⟨q1, q2, _, q4, _⟩ := rep_lit p1 (by omega) g2.1 (show (x.2 / 2).toNat < s.2.length by omega)
    have cp := cv_lit h.good (by omega) h.inn hd hc (show (x.1 / 2).toNat < s.2.length by omega)
    have dp := Nd.more hd h.good p1.good.vars p4 h.inn []
    rw [List.append_nil] at dp
    have cq := cv_lit p1.good (by omega) p1.inn dp cp (show (x.2 / 2).toNat < s.2.length by omega)
    have dq := Nd.more dp p1.good q1.good.vars q4 p1.inn []
    rw [List.append_nil] at dq
    obtain ⟨p, hp⟩ := p4
    obtain ⟨q, hq⟩ := q4
    have hP := T_pre p1.good q1.good.vars hq p2
    obtain ⟨t, ht⟩ : ∃ t, Bd.iteT (T (litM (litM s.1 s.2 x.1).1 s.2 x.2).1 (litM s.1 s.2 x.1).2) (T (litM (litM s.1 s.2 x.1).1 s.2 x.2).1 (litM (litM s.1 s.2 x.1).1 s.2 x.2).2) (T (litM (litM s.1 s.2 x.1).1 s.2 x.2).1 0) = t := ⟨_, rfl⟩
    obtain ⟨o1, o2, o3, o4, o5⟩ := ite_good q1.good (by omega) hP.2 q2 (In0 q1.good).1
    have ca : Cv n (ts ++ [t, t.map (!·)]) (stAnd s x).1 := by
      show Cv n _ (iteW _ _ _ 0).1
      exact cv_ite q1.good (cq.more _) hP.2 q2 (In0 q1.good).1 (by rw [ht]; simp)
    have da : Nd (ts ++ [t, t.map (!·)]) (stAnd s x).1 (stAnd s x).2 := fun y hy => by
      have hy' : y ∈ s.2 ++ [(iteW (litM (litM s.1 s.2 x.1).1 s.2 x.2).1 (litM s.1 s.2 x.1).2 (litM (litM s.1 s.2 x.1).1 s.2 x.2).2 0).2.1] := hy
      rcases List.mem_append.1 hy' with k | k
      · exact Nd.more dq q1.good o2.vars o5 q1.inn _ y k
      · have : y = (iteW (litM (litM s.1 s.2 x.1).1 s.2 x.2).1 (litM s.1 s.2 x.1).2 (litM (litM s.1 s.2 x.1).1 s.2 x.2).2 0).2.1 := by simpa using k
        subst this
        have e4 : T (stAnd s x).1 (iteW (litM (litM s.1 s.2 x.1).1 s.2 x.2).1 (litM s.1 s.2 x.1).2 (litM (litM s.1 s.2 x.1).1 s.2 x.2).2 0).2.1 = t := o4.trans ht
        rw [e4]
        simp
    obtain ⟨us, h1, h2, h3⟩ := few_ands hn l (c + 3) (stAnd s x) _ _ r (by omega) (by rw [hl]; exact_mod_cast g3) ca da
    refine ⟨us, h1, h2, ?_⟩
    have b1 := Bd.subs_len (k := 3) n 0 t
    have b2 := Bd.subs_len (k := 3) n 0 (t.map (!·))
    have hp : 2 ^ (n - 3) ≤ 2 ^ 5 := Nat.pow_le_pow_right (by decide) (by omega)
    simp only [List.flatMap_append, List.flatMap_cons, List.flatMap_nil, List.length_append, List.length_nil] at h3
    simp only [List.length_cons]
    omega
theorem few_outs {n : Nat} {nodes : List Int} {w v : List Bool} : ∀ (l : List Int) (c : Nat) (b : D) (o : List Int) (ts : List (List Bool)), Rep n c b nodes w v → c + l.length ≤ 2000 → (∀ a ∈ l, 0 ≤ a ∧ a < 2 * nodes.length) → Cv n ts b → Nd ts b nodes → Cv n ts (l.foldl (stOut nodes) (b, o)).1
  | [], c, b, o, ts, h, _, _, hc, _ => hc
  | a :: l, c, b, o, ts, h, hcc, ha, hc, hd => by
    simp only [List.length_cons] at hcc
    have ha0 := ha a (by simp)
    obtain ⟨p1, _, _, p4, _⟩ := rep_lit h (by omega) ha0.1 (show (a / 2).toNat < nodes.length by omega)
    have cp := cv_lit h.good (by omega) h.inn hd hc (show (a / 2).toNat < nodes.length by omega)
    have dp := Nd.more hd h.good p1.good.vars p4 h.inn []
    rw [List.append_nil] at dp
    exact few_outs l (c + 1) _ _ ts p1 (by omega) (fun x hx => ha x (by simp [hx])) cp dp
theorem forks_few {g : Aig} (h : Ok g) (h40 : g.ands.length ≤ 40) : (forksS g).1.2.length ≤ 3000 := by
  have hlo := h.lo
  have h8 := h.eight
  obtain ⟨n, hn⟩ : ∃ n : Nat, (n : Int) = g.ins + g.flops.length := ⟨(g.ins + g.flops.length).toNat, by omega⟩
  have hn8 : n ≤ 8 := by omega
  obtain ⟨r1, r2⟩ := rep_vars hn8 (w := List.replicate n false) zeros n (Nat.le_refl _)
  obtain ⟨ts, t1, t2, t3⟩ := few_vars hn8 n (Nat.le_refl _)
  have hfst : g.first = ((n + 1 : Nat) : Int) := by unfold Aig.first; omega
  have hgo : Aig.gatesOk ((stVars n n).2.length : Nat) g.ands = true := by
    have := good_gates h.good
    rw [hfst] at this
    rw [r2]; exact this
  obtain ⟨us, u1, u2, u3⟩ := few_ands hn8 g.ands n (stVars n n) _ ts r1 (by omega) hgo t1 t2
  have hb : g.ands.foldl stAnd (stVars n n) = bodyS g := by
    unfold bodyS
    rw [show (g.ins + g.flops.length).toNat = n by omega]
  rw [hb] at u1 u2
  have hw : (((List.replicate n false).length : Nat) : Int) = g.ins + g.flops.length := by rw [zeros]; exact hn
  obtain ⟨b1, b2⟩ := body_rep h hw
  rw [zeros] at b1 b2
  have hl := lits_len g
  have ho := h.outs
  have c := few_outs (lits g) _ (bodyS g).1 [] us b1 (by omega) (fun a ha => by
      have := lit_at hfst.symm (h.lits a ha)
      rw [b2]; omega) u1 u2
  have hr := forks_rep h hw
  rw [zeros] at hr
  have hc : Cov n (us.flatMap (subs 3 n 0)) (forksS g).1.2 := c
  have k1 := Bd.cov_ups hr.good.fine.toOk hc
  have k2 := Bd.len_ups hr.good.fine.toOk 3
  have := Bd.low3
  omega
theorem diag_law {g : Aig} (h : Ok g) (h40 : g.ands.length ≤ 40) {w : List Bool} (hw : ((w.length : Nat) : Int) = g.ins + g.flops.length) :
    (forksS g).1.2.length ≤ 3000 ∧ (forksS g).1.1 = w.length ∧ (forksS g).2.length = (outV g w).length ∧ ∀ i (h1 : i < (forksS g).2.length) (h2 : i < (outV g w).length), Bd.evalW (forksS g).1 (forksS g).2[i] w = ((outV g w)[i], 0) := by
  have r := forks_rep h hw
  refine ⟨forks_few h h40, r.good.vars, r.len, fun i h1 h2 => ?_⟩
  have hv := r.val i h1
  have e1 : (forksS g).2.getD i 0 = (forksS g).2[i] := by simp [List.getD_eq_getElem?_getD, h1]
  have e2 : (outV g w).getD i false = (outV g w)[i] := by simp [List.getD_eq_getElem?_getD, h2]
  rw [e1, e2] at hv
  have hi := r.inn _ (List.getElem_mem h1)
  rw [Bd.eval_T (by rw [r.good.vars]; exact r.good.fine) (by rw [r.good.vars]; exact hi) (by rw [r.good.vars]), hv]
end Fil.Eqv

namespace Go.Proofs.Ytjichkelfhcbcaa
open Abs Fil Fil.Eqv
open Bd (D encB encF)
theorem law_small (b : D) (σ : Sig) (h0 : 0 ≤ b.1) (h1 : b.1 ≤ 12) (h2 : b.2.length ≤ 3000) : ACalls Try.prog 31 [encB b.1 b.2] σ (fun r σ' => r = .ret (.bool true) ∧ σ' = σ) := by
  refine calls_x mixed Try.func31 b31 n31 rfl q31 (by simp) ?_; unfold c31 r31
  have h0' : b.1 ≥ 0 := h0
  have h2' : (b.2.length : Int) ≤ 3000 := by omega
  repeat' (first | simp (maxDischargeDepth := 9) -implicitDefEqProofs -dsimp only [go_sem, seval, *])
  refine fin_eq ?_
  (repeat' (first | simp (maxDischargeDepth := 9) -implicitDefEqProofs -dsimp only [go_sem, seval, *])) <;> (repeat' refine And.intro ?_ ?_) <;> (first | omega | rfl | assumption | skip)
set_option maxHeartbeats 2000000 in
theorem diagrams_law (g : Aig) (inp st : List Bool) (σ : Sig) (wg : Wide g) (hi : inp.length ≤ 9223372036854775807) (hs : st.length ≤ 9223372036854775807) :
    ACalls Try.prog 10 [encAig g, .slice (inp.map encBool) .no, .slice (st.map encBool) .no] σ (fun r σ' => r = .ret (.bool true) ∧ σ' = σ) := by
  refine calls_x mixed Try.func10 b10 n10 rfl q10 (by simp) ?_; unfold c10 r10
  have ez : ((0 : Int) != 0) = false := by decide
  cases fg : fewB g with
  | false =>
    repeat' (first | simp (maxDischargeDepth := 9) -implicitDefEqProofs -dsimp only [go_sem, seval, *] | simp (disch := omega) only [wrap64] | ((with_reducible refine Zv ?_ ?_); focus (first | omega | exact rfl)) | ((with_reducible refine Zu ?_ ?_); focus omega) | ((with_reducible refine Zt (fun oF hoF hnF hnF' => ?_)); clear hnF hnF'; (try simp only [Zw, ne_eq] at hoF)) | ((with_reducible apply ACalls.one1); (focus ((first | with_reducible refine law_live _ | with_reducible refine law_few g _ | with_reducible refine ACalls.flA (law_live _) ?_ | with_reducible refine ACalls.flA (law_few g _) ?_) <;> (first | (simp (maxDischargeDepth := 9) -implicitDefEqProofs -dsimp only [go_sem, seval, *]; done) | omega))); (focus (first | trivial | with_reducible exact rfl | (simp (maxDischargeDepth := 9) -implicitDefEqProofs -dsimp only [go_sem, seval]; done)))))
    refine fin_eq ?_
    (repeat' (first | simp (maxDischargeDepth := 9) -implicitDefEqProofs -dsimp only [go_sem, seval, *] | simp (disch := omega) only [wrap64])) <;> (repeat' refine And.intro ?_ ?_) <;> (first | omega | rfl | assumption | skip)
  | true =>
  by_cases l1 : (inp.length : Int) ≠ g.ins
  · have hb : ((inp.length : Int) != g.ins) = true := by simpa using l1
    clear l1
    repeat' (first | simp (maxDischargeDepth := 9) -implicitDefEqProofs -dsimp only [go_sem, seval, *] | simp (disch := omega) only [wrap64] | ((with_reducible refine Zv ?_ ?_); focus (first | omega | exact rfl)) | ((with_reducible refine Zu ?_ ?_); focus omega) | ((with_reducible refine Zt (fun oF hoF hnF hnF' => ?_)); clear hnF hnF'; (try simp only [Zw, ne_eq] at hoF)) | ((with_reducible apply ACalls.one1); (focus ((first | with_reducible refine law_live _ | with_reducible refine law_few g _ | with_reducible refine ACalls.flA (law_live _) ?_ | with_reducible refine ACalls.flA (law_few g _) ?_) <;> (first | (simp (maxDischargeDepth := 9) -implicitDefEqProofs -dsimp only [go_sem, seval, *]; done) | omega))); (focus (first | trivial | with_reducible exact rfl | (simp (maxDischargeDepth := 9) -implicitDefEqProofs -dsimp only [go_sem, seval]; done)))))
    refine fin_eq ?_
    (repeat' (first | simp (maxDischargeDepth := 9) -implicitDefEqProofs -dsimp only [go_sem, seval, *] | simp (disch := omega) only [wrap64])) <;> (repeat' refine And.intro ?_ ?_) <;> (first | omega | rfl | assumption | skip)
  have l1 := Decidable.not_not.1 l1
  by_cases l2 : st.length ≠ g.flops.length
  · have hb1 : ((inp.length : Int) != g.ins) = false := by simpa using l1
    have hb : ((st.length : Int) != g.flops.length) = true := by simp; omega
    clear l1 l2
    repeat' (first | simp (maxDischargeDepth := 9) -implicitDefEqProofs -dsimp only [go_sem, seval, *] | simp (disch := omega) only [wrap64] | ((with_reducible refine Zv ?_ ?_); focus (first | omega | exact rfl)) | ((with_reducible refine Zu ?_ ?_); focus omega) | ((with_reducible refine Zt (fun oF hoF hnF hnF' => ?_)); clear hnF hnF'; (try simp only [Zw, ne_eq] at hoF)) | ((with_reducible apply ACalls.one1); (focus ((first | with_reducible refine law_live _ | with_reducible refine law_few g _ | with_reducible refine ACalls.flA (law_live _) ?_ | with_reducible refine ACalls.flA (law_few g _) ?_) <;> (first | (simp (maxDischargeDepth := 9) -implicitDefEqProofs -dsimp only [go_sem, seval, *]; done) | omega))); (focus (first | trivial | with_reducible exact rfl | (simp (maxDischargeDepth := 9) -implicitDefEqProofs -dsimp only [go_sem, seval]; done)))))
    refine fin_eq ?_
    (repeat' (first | simp (maxDischargeDepth := 9) -implicitDefEqProofs -dsimp only [go_sem, seval, *] | simp (disch := omega) only [wrap64])) <;> (repeat' refine And.intro ?_ ?_) <;> (first | omega | rfl | assumption | skip)
  have l2 := Decidable.not_not.1 l2
  have hb1 : ((inp.length : Int) != g.ins) = false := by simpa using l1
  have hb2 : ((st.length : Int) != g.flops.length) = false := by simp [l2]
  obtain ⟨hwg, f1, f2, f3, hok⟩ := few_spec fg wg
  have hE := fun τ => A.ref_Eval g inp st τ hwg
  by_cases hc : g.check = 0
  · have ok := hok hc
    have h8 := ok.eight
    have hlo := ok.lo
    have hev := eval_ok hc l1 l2
    have hw : (((inp ++ st).length : Nat) : Int) = g.ins + g.flops.length := by rw [List.length_append]; omega
    obtain ⟨k1, k2, k3, k4⟩ := diag_law ok f2 hw
    rw [outV_eq] at k3 k4
    rw [hev] at hE
    have hF := fun τ => eq_Forks g ok τ
    obtain ⟨u, hu⟩ : ∃ u, inp ++ st = u := ⟨_, rfl⟩
    obtain ⟨⟨b, l⟩, hb⟩ : ∃ b, forksS g = b := ⟨_, rfl⟩
    have hol : (g.outs.map (at_ g u)).length ≤ 10 := by rw [List.length_map]; exact f3
    have hnl : ((g.flops.map (·.next)).map (at_ g u)).length ≤ 8 := by simp; exact f1
    rw [hu] at hE k2 k3 k4
    obtain ⟨o, ho⟩ : ∃ o, g.outs.map (at_ g u) = o := ⟨_, rfl⟩
    obtain ⟨x, hx⟩ : ∃ x, (g.flops.map (·.next)).map (at_ g u) = x := ⟨_, rfl⟩
    rw [ho] at hE k3 k4 hol
    rw [hx] at hE k3 k4 hnl
    rw [hb] at hF k1 k2 k3 k4
    simp only at hF hE k1 k2 k3 k4
    have hul : u.length = inp.length + st.length := by rw [← hu, List.length_append]
    have hS := fun τ => law_small b τ (by omega) (by omega) k1
    have hV := fun i (h1 : i < l.length) (h2 : i < (o ++ x).length) τ => B.bdd_Eval b l[i] u τ (by omega) (by omega)
    have m1 : inp.map encBool ++ st.map encBool = u.map encBool := by rw [← hu, List.map_append]
    obtain ⟨N, hN⟩ : ∃ N, l.length = N := ⟨_, rfl⟩
    have hN18 : N ≤ 18 := by rw [List.length_append] at k3; omega
    obtain ⟨q, hq⟩ : ∃ q, o ++ x = q := ⟨_, rfl⟩
    have m2 : o.map encBool ++ x.map encBool = q.map encBool := by rw [← hq, List.map_append]
    have hql : ((o.length + x.length : Nat) : Int) = N := by rw [List.length_append] at k3; omega
    have hil : inp.length ≤ 8 := by omega
    have hsl : st.length ≤ 8 := by omega
    rw [hq] at k3 k4 hV
    have hqN : q.length = N := by omega
    have hNN : ((N : Int) != N) = false := by simp
    have hV : ∀ i (h1 : i < l.length) (h2 : i < q.length) (τ : Sig), ACalls Try.prog 32 [encB b.1 b.2, .int .i64 l[i], .slice (u.map encBool) .no] τ (fun r σ' => r = .ret (.tup [.bool q[i], .int .i64 0]) ∧ σ' = τ) := fun i h1 h2 τ => by
      have := hV i h1 h2 τ
      rw [k4 i h1 h2] at this
      exact this
    have fi : ∀ i, i < N → i < l.length ∧ i < q.length := fun i h => by omega
    have ft : (false == true) = false := by decide
    have tf : (true == false) = false := by decide
    have tt : (true == true) = true := by decide
    have ff : (false == false) = true := by decide
    have hul3 : ∃ k, k = 0 ∧ u.length = inp.length + st.length + k := ⟨0, rfl, hul⟩
    clear k1 k2 k4 hul hb hx ho hu hev hw ok hok h8 hlo l1 l2 hq k3 hi hs
    repeat' (first | simp (maxDischargeDepth := 9) -implicitDefEqProofs -dsimp only [go_sem, seval, List.length_map, List.nil_append, List.length_append, *] | simp (disch := omega) only [wrap64] | ((with_reducible refine Zv ?_ ?_); focus (first | omega | exact rfl)) | ((with_reducible refine Zu ?_ ?_); focus omega) | ((with_reducible refine Zt (fun oF hoF hnF hnF' => ?_)); clear hnF hnF'; (try simp only [Zw, ne_eq] at hoF)) | ((with_reducible apply ACalls.one1); (focus ((first | with_reducible refine law_live _ | with_reducible refine law_few g _ | with_reducible refine hF _ | with_reducible refine hE _ | with_reducible refine hS _ | with_reducible refine ACalls.flA (law_live _) ?_ | with_reducible refine ACalls.flA (law_few g _) ?_ | with_reducible refine ACalls.flA (hF _) ?_ | with_reducible refine ACalls.flA (hE _) ?_ | with_reducible refine ACalls.flA (hS _) ?_) <;> (first | (simp (maxDischargeDepth := 9) -implicitDefEqProofs -dsimp only [go_sem, seval, *]; done) | omega))); (focus (first | trivial | with_reducible exact rfl | (simp (maxDischargeDepth := 9) -implicitDefEqProofs -dsimp only [go_sem, seval]; done)))))
    rename_i o8 h8 oQ hQ
    obtain ⟨oU, eU⟩ : ∃ x, x = oF := ⟨oF, rfl⟩
    subst eU
    clear hF hE hS m1 m2 hql fg wg hwg
    refine loop_rule (fun i : Nat => [(16, some (.int .i64 i)), (9, some (.slice (l.map encInt) .no)), (8, some (.ptr o8 0)), (15, some (.slice (u.map encBool) (.own oU))), (14, some (.slice (q.map encBool) (.own oQ))), (7, some (.bool true))])
      (fun _ => upd (upd (upd σ o8 (.cells [.int .i64 b.1, .slice (b.2.map encF) .no])) oQ (.grow 1 N)) oU (.grow 1 (inp.length + st.length))) (fun i => i ≤ N) (fun i => N - i) 0 ?_ ?_
    · (repeat' (first | simp (maxDischargeDepth := 9) -implicitDefEqProofs -dsimp only [go_sem, seval, *] | simp (disch := omega) only [wrap64])) <;> (repeat' refine And.intro ?_ ?_) <;> (first | omega | rfl | assumption | skip)
    · intro i h1
      clear hul3
      by_cases hlt : i < N
      · have hlt' : (i : Int) < N := by omega
        obtain ⟨hil', hiq⟩ := fi i hlt
        have hVi := hV i hil' hiq
        obtain ⟨p, hp⟩ : ∃ p, q[i] = p := ⟨_, rfl⟩
        have hpp : (p == p) = true := by simp
        rw [hp] at hVi
        clear hV fi
        repeat' (first | simp (maxDischargeDepth := 9) -implicitDefEqProofs -dsimp only [go_sem, seval, List.getElem_map, List.length_map, *] | simp (disch := omega) only [wrap64] | ((with_reducible refine Zv ?_ ?_); focus (first | omega | exact rfl)) | ((with_reducible refine Zu ?_ ?_); focus omega) | ((with_reducible refine Zt (fun oF hoF hnF hnF' => ?_)); clear hnF hnF'; (try simp only [Zw, ne_eq] at hoF)) | ((with_reducible apply ACalls.one1); (focus ((first | with_reducible refine hVi _ | with_reducible refine ACalls.flA (hVi _) ?_) <;> (first | (simp (maxDischargeDepth := 9) -implicitDefEqProofs -dsimp only [go_sem, seval, *]; done) | omega))); (focus (first | trivial | with_reducible exact rfl | (simp (maxDischargeDepth := 9) -implicitDefEqProofs -dsimp only [go_sem, seval]; done)))) | ((with_reducible apply id_one0); (focus (intro tS hS; ((first | with_reducible refine hVi _ | with_reducible refine ACalls.flA (hVi _) ?_) <;> (first | (simp (maxDischargeDepth := 9) -implicitDefEqProofs -dsimp only [go_sem, seval, *]; done) | omega | ((with_reducible refine Sub.get hS ?_); simp (maxDischargeDepth := 9) -implicitDefEqProofs -dsimp only [go_sem, seval, *]; done))))); (focus (first | trivial | (simp (maxDischargeDepth := 9) -implicitDefEqProofs -dsimp only [go_sem, seval, *]; done)))))
        refine loop_next _ _ _ _ (i + 1) ?_; (repeat' (first | simp (maxDischargeDepth := 9) -implicitDefEqProofs -dsimp only [go_sem, seval, *] | simp (disch := omega) only [wrap64])) <;> (repeat' refine And.intro ?_ ?_) <;> (first | omega | rfl | assumption | skip)
      · have hlt' : ¬ (i : Int) < N := by omega
        clear hV fi
        repeat' (first | simp (maxDischargeDepth := 9) -implicitDefEqProofs -dsimp only [go_sem, seval, List.length_map, *] | simp (disch := omega) only [wrap64] | ((with_reducible refine Zv ?_ ?_); focus (first | omega | exact rfl)) | ((with_reducible refine Zu ?_ ?_); focus omega) | ((with_reducible refine Zt (fun oF hoF hnF hnF' => ?_)); clear hnF hnF'; (try simp only [Zw, ne_eq] at hoF)))
        refine fin_eq ?_
        (repeat' (first | simp (maxDischargeDepth := 9) -implicitDefEqProofs -dsimp only [go_sem, seval, *] | simp (disch := omega) only [wrap64])) <;> (repeat' refine And.intro ?_ ?_) <;> (first | omega | rfl | assumption | skip)
  · obtain ⟨e, he⟩ : ∃ e, g.check = e := ⟨_, rfl⟩
    rw [he] at hc
    have hev : g.Eval inp st = ([], [], e) := by unfold Aig.Eval Aig.Nodes; simp [hc, he]
    rw [hev] at hE
    have hb : (e != 0) = true := by simpa using hc
    have hF := fun τ => eq_Forks_err g e hwg he hc τ
    clear l1 l2 hok
    repeat' (first | simp (maxDischargeDepth := 9) -implicitDefEqProofs -dsimp only [go_sem, seval, List.map_nil, *] | simp (disch := omega) only [wrap64] | ((with_reducible refine Zv ?_ ?_); focus (first | omega | exact rfl)) | ((with_reducible refine Zu ?_ ?_); focus omega) | ((with_reducible refine Zt (fun oF hoF hnF hnF' => ?_)); clear hnF hnF'; (try simp only [Zw, ne_eq] at hoF)) | ((with_reducible apply ACalls.one1); (focus ((first | with_reducible refine law_live _ | with_reducible refine law_few g _ | with_reducible refine hF _ | with_reducible refine hE _ | with_reducible refine ACalls.flA (law_live _) ?_ | with_reducible refine ACalls.flA (law_few g _) ?_ | with_reducible refine ACalls.flA (hF _) ?_ | with_reducible refine ACalls.flA (hE _) ?_) <;> (first | (simp (maxDischargeDepth := 9) -implicitDefEqProofs -dsimp only [go_sem, seval, *]; done) | omega))); (focus (first | trivial | with_reducible exact rfl | (simp (maxDischargeDepth := 9) -implicitDefEqProofs -dsimp only [go_sem, seval]; done)))))
    refine fin_eq ?_
    (repeat' (first | simp (maxDischargeDepth := 9) -implicitDefEqProofs -dsimp only [go_sem, seval, *] | simp (disch := omega) only [wrap64])) <;> (repeat' refine And.intro ?_ ?_) <;> (first | omega | rfl | assumption | skip)
end Go.Proofs.Ytjichkelfhcbcaa

