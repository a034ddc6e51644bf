/- blast: contracts: the document's operations of values. -/
import Derived.Test.YtbbihmmobfmadaaSBlSem
set_option linter.unusedSimpArgs false
set_option linter.unusedVariables false
namespace Fil.Bl
open Abs

/-! ### Rows of bits as_ numbers -/
def toN : List Bool → Nat
  | [] => 0
  | b :: l => b.toNat + 2 * toN l
theorem toN_lt : ∀ l, toN l < 2 ^ l.length
  | [] => by simp [toN]
  | b :: l => by
    have := toN_lt l
    have hb : b.toNat ≤ 1 := Bool.toNat_le b
    simp only [toN, List.length_cons, Nat.pow_succ]; omega
theorem toN_snoc (b : Bool) : ∀ l, toN (l ++ [b]) = toN l + 2 ^ l.length * b.toNat
  | [] => by simp [toN]
  | a :: l => by
    simp only [List.cons_append, toN, toN_snoc b l, List.length_cons, Nat.pow_succ]
    have : 2 ^ l.length * 2 * b.toNat = 2 * (2 ^ l.length * b.toNat) := by rw [Nat.mul_comm (2 ^ l.length) 2, Nat.mul_assoc]
    omega
theorem toN_bit : ∀ (l : List Bool) (i : Nat), (toN l).testBit i = l.getD i false
  | [], i => by simp [toN]
  | b :: l, 0 => by
    rw [Nat.testBit_zero]
    cases b <;> simp [toN]
  | b :: l, i + 1 => by
    have hb : b.toNat ≤ 1 := Bool.toNat_le b
    rw [Nat.testBit_succ]
    have : toN (b :: l) / 2 = toN l := by simp only [toN]; omega
    rw [this, toN_bit l i]; rfl
theorem toN_rep0 : ∀ n, toN (List.replicate n false) = 0
  | 0 => rfl
  | n + 1 => by simp [List.replicate_succ, toN, toN_rep0 n]
theorem toN_of {l : List Bool} {n : Nat} (h : ∀ i, n.testBit i = l.getD i false) : toN l = n := Nat.eq_of_testBit_eq fun i => by rw [toN_bit, h]
theorem toN_app : ∀ (l m : List Bool), toN (l ++ m) = toN l + 2 ^ l.length * toN m
  | [], m => by simp [toN]
  | a :: l, m => by
    simp only [List.cons_append, toN, toN_app l m, List.length_cons, Nat.pow_succ]
    have : 2 ^ l.length * 2 * toN m = 2 * (2 ^ l.length * toN m) := by rw [Nat.mul_comm (2 ^ l.length) 2, Nat.mul_assoc]
    omega
theorem toN_take (l : List Bool) (i : Nat) : toN (l.take i) = toN l % 2 ^ i := by
  refine toN_of fun j => ?_
  rw [Nat.testBit_mod_two_pow, toN_bit]
  by_cases h : j < i
  · simp [List.getD_eq_getElem?_getD, List.getElem?_take, h]
  · simp [List.getD_eq_getElem?_getD, List.getElem?_take, h]
theorem toN_not : ∀ l : List Bool, toN (l.map (!·)) + toN l + 1 = 2 ^ l.length
  | [] => rfl
  | b :: l => by
    have := toN_not l
    simp only [List.map_cons, toN, List.length_cons, Nat.pow_succ]
    cases b <;> simp only [Bool.not_true, Bool.not_false, Bool.toNat_true, Bool.toNat_false] <;> omega
theorem toN_zero {l : List Bool} : toN l = 0 ↔ ∀ b ∈ l, b = false := by
  induction l with
  | nil => simp [toN]
  | cons a l ih =>
    simp only [toN, List.mem_cons, forall_eq_or_imp, ← ih]
    cases a <;> simp only [Bool.toNat_true, Bool.toNat_false, reduceCtorEq, true_and, false_and, iff_false] <;> omega

/-! ### Literals, and what is known of them -/
structure Lits (W : Int → Prop) (V : Int → Bool) : Prop where
  w0 : W 0
  w1 : W 1
  v0 : V 0 = false
  v1 : V 1 = true
  wt : ∀ a, W a → W (turn a)
  vt : ∀ a, W a → V (turn a) = !V a
def Ws (W : Int → Prop) (l : List Int) : Prop := ∀ a ∈ l, W a
theorem gt_lt {l : List Int} {i : Nat} (h : i < l.length) : gt l i = l[i] := by simp [gt, List.getD_eq_getElem?_getD, h]
theorem gt_ge {l : List Int} {i : Nat} (h : l.length ≤ i) : gt l i = 0 := by simp [gt, List.getD_eq_getElem?_getD, h]
theorem gt_snoc_lt {l : List Int} {r : Int} {j : Nat} (h : j < l.length) : gt (l ++ [r]) j = gt l j := by
  rw [gt_lt (by simp; omega), gt_lt h, List.getElem_append_left h]
theorem gt_snoc_eq (l : List Int) (r : Int) : gt (l ++ [r]) l.length = r := by
  rw [gt_lt (by simp)]; simp
theorem take_snoc {l : List Int} {i : Nat} (h : i < l.length) : l.take (i + 1) = l.take i ++ [gt l i] := by
  rw [gt_lt h, List.take_add_one, List.getElem?_eq_getElem h]; rfl
section
variable {W : Int → Prop} {V : Int → Bool} (L : Lits W V)
include L
theorem gt_W {l : List Int} (h : Ws W l) (i : Nat) : W (gt l i) := by
  rcases Nat.lt_or_ge i l.length with q | q
  · rw [gt_lt q]; exact h _ (List.getElem_mem q)
  · rw [gt_ge q]; exact L.w0
theorem gt_V (l : List Int) (i : Nat) : (l.map V).getD i false = V (gt l i) := by
  rcases Nat.lt_or_ge i l.length with q | q
  · rw [gt_lt q]; simp [List.getD_eq_getElem?_getD, q]
  · rw [gt_ge q, L.v0]; simp [List.getD_eq_getElem?_getD, q]
theorem bit_V (l : List Int) (i : Nat) : (toN (l.map V)).testBit i = V (gt l i) := by rw [toN_bit, gt_V L]
omit L in
theorem ws_snoc {l : List Int} {r : Int} (h : Ws W l) (hr : W r) : Ws W (l ++ [r]) := fun a ha => by
  rcases List.mem_append.1 ha with h' | h'
  · exact h a h'
  · rw [List.mem_singleton] at h'; subst h'; exact hr
theorem ws_not {l : List Int} (h : Ws W l) : Ws W (notW l) := fun a ha => by
  obtain ⟨x, hx, rfl⟩ := List.mem_map.1 ha
  exact L.wt x (h x hx)
theorem bits_not {l : List Int} (h : Ws W l) : (notW l).map V = (l.map V).map (!·) := by
  unfold notW
  rw [List.map_map, List.map_map]
  exact List.map_congr_left fun x hx => L.vt x (h x hx)
theorem ws_rep (n : Nat) : Ws W (List.replicate n 0) := fun a ha => by rw [(List.mem_replicate.1 ha).2]; exact L.w0
theorem bits_rep (n : Nat) : (List.replicate n (0 : Int)).map V = List.replicate n false := by rw [List.map_replicate, L.v0]
theorem and_wp {x y : Int} (hx : W x) (hy : W y) : wpG W V (andP x y) (fun n r => n = 1 ∧ W r ∧ V r = (V x && V y)) := ⟨⟨hx, hy, L.w0⟩, fun _ h1 h2 => ⟨rfl, h1, h2⟩⟩
theorem or_wp {x y : Int} (hx : W x) (hy : W y) : wpG W V (orP x y) (fun n r => n = 1 ∧ W r ∧ V r = (V x || V y)) := ⟨⟨hx, hy, L.w0⟩, fun _ h1 h2 => ⟨rfl, h1, h2⟩⟩
theorem xor_wp {x y : Int} (hx : W x) (hy : W y) : wpG W V (xorP x y) (fun n r => n = 1 ∧ W r ∧ V r = (V x != V y)) := ⟨⟨hx, hy, L.w0⟩, fun _ h1 h2 => ⟨rfl, h1, h2⟩⟩
omit L in
theorem mux_wp {c x y : Int} (hc : W c) (hx : W x) (hy : W y) : wpG W V (muxP c x y) (fun n r => n = 1 ∧ W r ∧ V r = if V c then V x else V y) := ⟨⟨hc, hx, hy⟩, fun _ h1 h2 => ⟨rfl, h1, h2⟩⟩

omit L in
theorem wpG_iter {α : Type} {f : Nat → α → Pg α} {a : α} (I : Nat → Nat → α → Prop) (h0 : I 0 0 a) : ∀ N, (∀ i n x, i < N → I i n x → wpG W V (f i x) (fun m y => I (i + 1) (n + m) y)) → wpG W V (iter f a N) (I N)
  | 0, _ => h0
  | N + 1, h => wpG_bind (wpG_mono (wpG_iter I h0 N fun i n x hi => h i n x (by omega)) fun n x hx => h N n x (by omega) hx)
theorem zip_wp {f : Int → Int → Pg Int} {fb : Bool → Bool → Bool} (hf : ∀ p q, W p → W q → wpG W V (f p q) (fun n r => n = 1 ∧ W r ∧ V r = fb (V p) (V q))) {x y : List Int} (hx : Ws W x) (hy : Ws W y) (N : Nat) :
    wpG W V (zipP f x y N) (fun n out => n = N ∧ Ws W out ∧ out.length = N ∧ ∀ j, j < N → V (gt out j) = fb (V (gt x j)) (V (gt y j))) := by
  refine wpG_iter (fun i n (out : List Int) => n = i ∧ Ws W out ∧ out.length = i ∧ ∀ j, j < i → V (gt out j) = fb (V (gt x j)) (V (gt y j))) ⟨rfl, fun a ha => by simp at ha, rfl, fun j hj => by omega⟩ N fun i n out hi ⟨h1, h2, h3, h4⟩ => ?_
  refine wpG_bind (wpG_mono (hf _ _ (gt_W L hx i) (gt_W L hy i)) ?_)
  rintro m r ⟨rfl, hr, hv⟩
  refine ⟨by omega, ws_snoc h2 hr, by rw [List.length_append, h3]; rfl, fun j hj => ?_⟩
  rcases Nat.lt_or_ge j i with q | q
  · rw [gt_snoc_lt (by omega)]; exact h4 j q
  · have e : j = out.length := by omega
    subst e
    rw [gt_snoc_eq, hv, h3]
theorem fold_wp {f : Int → Int → Pg Int} {fb : Bool → Bool → Bool} (hf : ∀ p q, W p → W q → wpG W V (f p q) (fun n r => n = 1 ∧ W r ∧ V r = fb (V p) (V q))) {a : Int} {l : List Int} (ha : W a) (hl : Ws W l) :
    ∀ N, N ≤ l.length → wpG W V (foldP f a l N) (fun n r => n = N ∧ W r ∧ V r = ((l.take N).map V).foldl fb (V a)) := fun N hN => by
  refine wpG_iter (fun i n (r : Int) => n = i ∧ W r ∧ V r = ((l.take i).map V).foldl fb (V a)) ⟨rfl, ha, by simp⟩ N fun i n r hi ⟨h1, h2, h3⟩ => ?_
  refine wpG_mono (hf _ _ h2 (gt_W L hl i)) ?_
  rintro m r' ⟨rfl, hr, hv⟩
  refine ⟨by omega, hr, ?_⟩
  rw [take_snoc (by omega), List.map_append, List.foldl_append, hv, h3]; rfl
theorem full_wp {p q c : Int} (hp : W p) (hq : W q) (hc : W c) : wpG W V (fullP p q c) (fun n r => n = 5 ∧ W r.1 ∧ W r.2 ∧ (V r.1).toNat + 2 * (V r.2).toNat = (V p).toNat + (V q).toNat + (V c).toNat) := by
  refine ⟨⟨hp, hq, L.w0⟩, fun e he ve => ⟨⟨he, hc, L.w0⟩, fun s hs vs => ⟨⟨hp, hq, L.w0⟩, fun b hb vb => ⟨⟨he, hc, L.w0⟩, fun o ho vo => ⟨⟨hb, ho, L.w0⟩, fun k hk vk => ⟨rfl, hs, hk, ?_⟩⟩⟩⟩⟩⟩
  simp only [Op.ev] at ve vs vb vo vk
  rw [vs, vk, vb, vo, ve]
  cases V p <;> cases V q <;> cases V c <;> rfl
theorem sum_wp {x y : List Int} {c : Int} (hx : Ws W x) (hy : Ws W y) (hc : W c) (N : Nat) (h1 : N ≤ x.length) (h2 : N ≤ y.length) :
    wpG W V (sumP x y c N) (fun n r => n = 5 * N ∧ Ws W r.1 ∧ W r.2 ∧ r.1.length = N ∧ toN (r.1.map V) + 2 ^ N * (V r.2).toNat = toN ((x.take N).map V) + toN ((y.take N).map V) + (V c).toNat) := by
  refine wpG_iter (fun i n (r : List Int × Int) => n = 5 * i ∧ Ws W r.1 ∧ W r.2 ∧ r.1.length = i ∧ toN (r.1.map V) + 2 ^ i * (V r.2).toNat = toN ((x.take i).map V) + toN ((y.take i).map V) + (V c).toNat)
    ⟨rfl, fun a ha => by simp at ha, hc, rfl, by simp [toN]⟩ N fun i n r hi ⟨k1, k2, k3, k4, k5⟩ => ?_
  refine wpG_bind (wpG_mono (full_wp L (gt_W L hx i) (gt_W L hy i) k3) ?_)
  rintro m s ⟨rfl, m1, m2, m3⟩
  refine ⟨by omega, ws_snoc k2 m1, m2, by rw [List.length_append, k4]; rfl, ?_⟩
  simp only
  rw [take_snoc (by omega), take_snoc (l := y) (by omega), List.map_append, List.map_append, List.map_append]
  simp only [List.map_cons, List.map_nil]
  rw [toN_snoc, toN_snoc, toN_snoc, List.length_map, k4, List.length_map, List.length_map, List.length_take, List.length_take, Nat.min_eq_left (by omega), Nat.min_eq_left (by omega), Nat.pow_succ, Nat.mul_assoc]
  have h3 := congrArg (2 ^ i * ·) m3
  simp only [Nat.mul_add] at h3
  omega
theorem sumW_wp {x y : List Int} {c : Int} (hx : Ws W x) (hy : Ws W y) (hc : W c) (hl : y.length = x.length) :
    wpG W V (sumW x y c) (fun n r => n = 5 * x.length ∧ Ws W r.1 ∧ W r.2 ∧ r.1.length = x.length ∧ toN (r.1.map V) + 2 ^ x.length * (V r.2).toNat = toN (x.map V) + toN (y.map V) + (V c).toNat) := by
  refine wpG_mono (sum_wp L hx hy hc x.length (Nat.le_refl _) (by omega)) ?_
  rintro n r ⟨k1, k2, k3, k4, k5⟩
  rw [List.take_of_length_le (by omega), List.take_of_length_le (by omega)] at k5
  exact ⟨k1, k2, k3, k4, k5⟩
theorem row_wp {x : List Int} {bit : Int} (hx : Ws W x) (hb : W bit) (i N : Nat) (hN : N ≤ x.length) :
    wpG W V (rowP x bit i N) (fun n row => n = N ∧ Ws W row ∧ row.length = i + N ∧ toN (row.map V) = 2 ^ i * (toN ((x.take N).map V) * (V bit).toNat)) := by
  refine wpG_iter (fun j n (row : List Int) => n = j ∧ Ws W row ∧ row.length = i + j ∧ toN (row.map V) = 2 ^ i * (toN ((x.take j).map V) * (V bit).toNat))
    ⟨rfl, ws_rep L i, by simp, by rw [bits_rep L, toN_rep0]; simp [toN]⟩ N fun j n row hj ⟨k1, k2, k3, k4⟩ => ?_
  refine wpG_bind (wpG_mono (and_wp L (gt_W L hx j) hb) ?_)
  rintro m r ⟨rfl, m1, m2⟩
  refine ⟨by omega, ws_snoc k2 m1, by rw [List.length_append, k3]; simp only [List.length_cons, List.length_nil]; omega, ?_⟩
  rw [take_snoc (by omega), List.map_append, List.map_append]
  simp only [List.map_cons, List.map_nil]
  rw [toN_snoc, toN_snoc, List.length_map, List.length_map, k3, List.length_take, Nat.min_eq_left (by omega), k4, m2, Nat.pow_add]
  cases V bit <;> cases V (gt x j) <;> simp [Nat.mul_add]
theorem mul_wp {x y : List Int} (hx : Ws W x) (hy : Ws W y) : ∀ N, N ≤ y.length → N ≤ x.length →
    wpG W V (mulP x y N) (fun n out => n ≤ 6 * x.length * N ∧ Ws W out ∧ out.length = x.length ∧ toN (out.map V) = toN (x.map V) * toN ((y.take N).map V) % 2 ^ x.length) := fun N h1 h2 => by
  refine wpG_iter (fun i n (out : List Int) => n ≤ 6 * x.length * i ∧ Ws W out ∧ out.length = x.length ∧ toN (out.map V) = toN (x.map V) * toN ((y.take i).map V) % 2 ^ x.length)
    ⟨by simp, ws_rep L _, by simp, by rw [bits_rep L, toN_rep0]; simp [toN]⟩ N fun i n out hi ⟨k1, k2, k3, k4⟩ => ?_
  refine wpG_bind (wpG_mono (row_wp L hx (gt_W L hy i) i (x.length - i) (by omega)) ?_)
  rintro m row ⟨rfl, m1, m2, m3⟩
  refine wpG_bind (wpG_mono (sumW_wp L k2 m1 L.w0 (by omega)) ?_)
  rintro m' r ⟨rfl, q1, q2, q3, q4⟩
  refine ⟨?_, q1, by omega, ?_⟩
  · have e : 6 * x.length * (i + 1) = 6 * x.length * i + 6 * x.length := by rw [Nat.mul_add, Nat.mul_one]
    omega
  · have hlt := toN_lt (r.1.map V)
    rw [List.length_map, q3, k3] at hlt
    rw [k3, L.v0] at q4
    have e1 : toN (r.1.map V) = (toN (out.map V) + toN (row.map V)) % 2 ^ x.length := by
      have : toN (out.map V) + toN (row.map V) = toN (r.1.map V) + 2 ^ x.length * (V r.2).toNat := by simp only [Bool.toNat_false] at q4; omega
      rw [this, Nat.add_mul_mod_self_left, Nat.mod_eq_of_lt hlt]
    have e2 : toN (row.map V) % 2 ^ x.length = 2 ^ i * (toN (x.map V) * (V (gt y i)).toNat) % 2 ^ x.length := by
      have hp : 2 ^ x.length = 2 ^ i * 2 ^ (x.length - i) := by rw [← Nat.pow_add]; congr 1; omega
      rw [m3, List.map_take, toN_take]
      cases V (gt y i)
      · simp
      · simp only [Bool.toNat_true, Nat.mul_one]
        rw [hp, Nat.mul_mod_mul_left, Nat.mul_mod_mul_left, Nat.mod_mod]
    rw [e1, k4, Nat.add_mod, Nat.mod_mod, e2, ← Nat.add_mod, take_snoc (by omega), List.map_append]
    simp only [List.map_cons, List.map_nil]
    rw [toN_snoc, List.length_map, List.length_take, Nat.min_eq_left (by omega), Nat.mul_add]
    congr 2
    rw [← Nat.mul_assoc, ← Nat.mul_assoc, Nat.mul_comm (toN (x.map V)) (2 ^ i)]
theorem far_W {x : List Int} (hx : Ws W x) (k : Int) : W (far x k) := by
  unfold far; split
  · exact gt_W L hx _
  · exact L.w0
theorem shift1_wp {x : List Int} {bit : Int} (hx : Ws W x) (hb : W bit) (up : Bool) (i : Nat) (N : Nat) :
    wpG W V (shift1 x bit up i N) (fun n out => n = N ∧ Ws W out ∧ out.length = N ∧ ∀ j, j < N → V (gt out j) = if V bit then V (far x (farI up i j)) else V (gt x j)) := by
  refine wpG_iter (fun j n (out : List Int) => n = j ∧ Ws W out ∧ out.length = j ∧ ∀ k, k < j → V (gt out k) = if V bit then V (far x (farI up i k)) else V (gt x k)) ⟨rfl, fun a ha => by simp at ha, rfl, fun j hj => by omega⟩ N fun j n out hj ⟨h1, h2, h3, h4⟩ => ?_
  refine wpG_bind (wpG_mono (mux_wp hb (far_W L hx _) (gt_W L hx j)) ?_)
  rintro m r ⟨rfl, hr, hv⟩
  refine ⟨by omega, ws_snoc h2 hr, by rw [List.length_append, h3]; rfl, fun k hk => ?_⟩
  rcases Nat.lt_or_ge k j with q | q
  · rw [gt_snoc_lt (by omega)]; exact h4 k q
  · have e : k = out.length := by omega
    subst e
    rw [gt_snoc_eq, hv, h3]
theorem far_up {x : List Int} {i j : Nat} : V (far x (farI true i j)) = (decide (2 ^ (min i 8) ≤ j) && (toN (x.map V)).testBit (j - 2 ^ (min i 8))) ∨ x.length ≤ j := by
  rcases Nat.lt_or_ge j x.length with q | q
  · refine .inl ?_
    obtain ⟨f, hf⟩ : ∃ f, 2 ^ (min i 8) = f := ⟨_, rfl⟩
    have hf' : (2 : Int) ^ (min i 8) = (f : Int) := by rw [← hf]; simp
    unfold far farI
    simp only [↓reduceIte]
    rw [hf, hf', bit_V L]
    by_cases h : f ≤ j
    · have e : ((j : Int) - f).toNat = j - f := by omega
      rw [if_pos (by omega), e]; simp [h]
    · rw [if_neg (by omega), L.v0]; simp [h]
  · exact .inr q
theorem far_down {x : List Int} {i j : Nat} : V (far x (farI false i j)) = (toN (x.map V)).testBit (j + 2 ^ (min i 8)) := by
  obtain ⟨f, hf⟩ : ∃ f, 2 ^ (min i 8) = f := ⟨_, rfl⟩
  have hf' : (2 : Int) ^ (min i 8) = (f : Int) := by rw [← hf]; simp
  unfold far farI
  simp only [Bool.false_eq_true, ↓reduceIte]
  rw [hf, hf', bit_V L]
  by_cases h : j + f < x.length
  · have e : ((j : Int) + f).toNat = j + f := by omega
    rw [if_pos (by omega), e]
  · rw [if_neg (by omega), L.v0, gt_ge (by omega), L.v0]
theorem shift1_num {x out : List Int} {bit : Int} {up : Bool} {i : Nat} (hl : out.length = x.length) (hx64 : x.length ≤ 64) (h : ∀ j, j < x.length → V (gt out j) = if V bit then V (far x (farI up i j)) else V (gt x j)) :
    toN (out.map V) = if V bit then (if up then toN (x.map V) * 2 ^ (2 ^ i) % 2 ^ x.length else toN (x.map V) / 2 ^ (2 ^ i)) else toN (x.map V) := by
  have hxlt := toN_lt (x.map V)
  rw [List.length_map] at hxlt
  -- so far, or out of sight
  have hmin : 2 ^ (min i 8) = 2 ^ i ∨ (x.length ≤ 2 ^ (min i 8) ∧ x.length ≤ 2 ^ i) := by
    rcases Nat.lt_or_ge i 8 with q | q
    · exact .inl (by rw [Nat.min_eq_left (by omega)])
    · refine .inr ⟨?_, ?_⟩
      · rw [Nat.min_eq_right (by omega)]; omega
      · have := Nat.pow_le_pow_right (n := 2) (by omega) q; omega
  refine toN_of fun j => ?_
  rw [gt_V L]
  rcases Nat.lt_or_ge j x.length with q | q
  · rw [h j q]
    cases hb : V bit
    · simp only [Bool.false_eq_true, ↓reduceIte]; rw [bit_V L]
    · simp only [↓reduceIte]
      cases up
      · simp only [Bool.false_eq_true, ↓reduceIte]
        rw [far_down L, Nat.testBit_div_two_pow]
        rcases hmin with e | ⟨e1, e2⟩
        · rw [e]
        · rw [bit_V L, bit_V L, gt_ge (by omega), gt_ge (by omega)]
      · simp only [↓reduceIte]
        have := (far_up L (x := x) (i := i) (j := j)).resolve_right (by omega)
        rw [this, Nat.testBit_mod_two_pow, Nat.testBit_mul_two_pow]
        rcases hmin with e | ⟨e1, e2⟩
        · rw [e]; simp [q]
        · have n1 : ¬ 2 ^ (min i 8) ≤ j := by omega
          have n2 : ¬ 2 ^ i ≤ j := by omega
          simp [n1, n2]
  · rw [gt_ge (by omega), L.v0]
    have hlt : ∀ n, n < 2 ^ x.length → n.testBit j = false := fun n hn => Nat.testBit_lt_two_pow (Nat.lt_of_lt_of_le hn (Nat.pow_le_pow_right (by omega) q))
    refine hlt _ ?_
    split
    · split
      · exact Nat.mod_lt _ (Nat.two_pow_pos _)
      · exact Nat.lt_of_le_of_lt (Nat.div_le_self _ _) hxlt
    · exact hxlt
theorem shift_wp {x y : List Int} (hx : Ws W x) (hy : Ws W y) (up : Bool) (hx64 : x.length ≤ 64) (N : Nat) (hN : N ≤ y.length) :
    wpG W V (shiftP x y up N) (fun n out => n = x.length * N ∧ Ws W out ∧ out.length = x.length ∧
      toN (out.map V) = if up then toN (x.map V) * 2 ^ toN ((y.take N).map V) % 2 ^ x.length else toN (x.map V) / 2 ^ toN ((y.take N).map V)) := by
  have hxlt := toN_lt (x.map V)
  rw [List.length_map] at hxlt
  refine wpG_iter (fun i n (out : List Int) => n = x.length * i ∧ Ws W out ∧ out.length = x.length ∧
      toN (out.map V) = if up then toN (x.map V) * 2 ^ toN ((y.take i).map V) % 2 ^ x.length else toN (x.map V) / 2 ^ toN ((y.take i).map V))
    ⟨by simp, hx, rfl, by cases up <;> simp [toN, Nat.mod_eq_of_lt hxlt]⟩ N fun i n out hi ⟨k1, k2, k3, k4⟩ => ?_
  refine wpG_mono (shift1_wp L k2 (gt_W L hy i) up i out.length) ?_
  rintro m out' ⟨rfl, m1, m2, m3⟩
  refine ⟨by rw [k1, k3, Nat.mul_add, Nat.mul_one], m1, by omega, ?_⟩
  rw [shift1_num L m2 (by omega) m3, take_snoc (by omega), List.map_append]
  simp only [List.map_cons, List.map_nil]
  rw [toN_snoc, List.length_map, List.length_take, Nat.min_eq_left (by omega), k3, k4, Nat.pow_add]
  cases V (gt y i)
  · simp
  · simp only [↓reduceIte, Bool.toNat_true, Nat.mul_one]
    cases up
    · simp only [Bool.false_eq_true, ↓reduceIte]
      rw [Nat.div_div_eq_div_mul]
    · simp only [↓reduceIte]
      rw [Nat.mod_mul_mod, Nat.mul_assoc]
end
end Fil.Bl

namespace Fil.Bl
open Abs
def n1 (p : Prop) [Decidable p] : Nat := if p then 1 else 0
def par (a : Nat) : Bool := (List.range 64).foldl (fun b i => b != a.testBit i) false
def unN (op : Int) (w a : Nat) : Nat × Nat :=
  if op = 1 then (w, 2 ^ w - 1 - a)
  else if op = 2 then (w, (2 ^ w - a) % 2 ^ w)
  else if op = 3 then (1, n1 (a = 2 ^ w - 1))
  else if op = 4 then (1, n1 (a ≠ 0))
  else if op = 5 then (1, (par a).toNat)
  else (1, n1 (a = 0))
def binN (op : Int) (w a b : Nat) : Nat × Nat :=
  if op = 11 then (w, a &&& b)
  else if op = 12 then (w, a ||| b)
  else if op = 13 then (w, a ^^^ b)
  else if op = 14 then (w, (a + b) % 2 ^ w)
  else if op = 15 then (w, (a + (2 ^ w - b)) % 2 ^ w)
  else if op = 16 then (w, a * b % 2 ^ w)
  else if op = 17 then (w, a * 2 ^ b % 2 ^ w)
  else if op = 18 then (w, a / 2 ^ b)
  else if op = 19 then (1, n1 (a = b))
  else if op = 20 then (1, n1 (a ≠ b))
  else if op = 21 then (1, n1 (a < b))
  else if op = 22 then (1, n1 (a ≤ b))
  else if op = 23 then (1, n1 (b < a))
  else if op = 24 then (1, n1 (b ≤ a))
  else if op = 25 then (1, n1 (a = 1 ∧ b = 1))
  else (1, n1 (a = 1 ∨ b = 1))
theorem foldl_and : ∀ (l : List Bool) (b : Bool), l.foldl (· && ·) b = (b && l.all id)
  | [], b => by simp
  | a :: l, b => by simp only [List.foldl_cons, foldl_and l, List.all_cons, id, Bool.and_assoc]
theorem par_list : ∀ (k : Nat) (l : List Bool) (b : Bool), l.length ≤ k → (List.range k).foldl (fun b i => b != l.getD i false) b = l.foldl (· != ·) b
  | 0, l, b, h => by
    have : l = [] := List.length_eq_zero_iff.1 (by omega)
    subst this; rfl
  | k + 1, [], b, _ => by
    have := par_list k [] b (by simp)
    rw [List.range_succ, List.foldl_append, this]; simp
  | k + 1, a :: l, b, h => by
    have := par_list k l (b != a) (by simpa using h)
    rw [List.range_succ_eq_map, List.foldl_cons, List.foldl_map, List.foldl_cons]
    simp only [List.getD_cons_zero, List.getD_cons_succ]
    exact this
theorem par_bits {l : List Bool} (h : l.length ≤ 64) : l.foldl (· != ·) false = par (toN l) := by
  unfold par
  rw [← par_list 64 l false h]
  congr 1
  funext b i
  rw [toN_bit]
theorem all_true {l : List Bool} : l.all id = decide (toN l = 2 ^ l.length - 1) := by
  have h := toN_not l
  rw [Bool.eq_iff_iff, decide_eq_true_eq, List.all_eq_true]
  have hz := toN_zero (l := l.map (!·))
  constructor
  · intro k
    have : toN (l.map (!·)) = 0 := hz.2 fun b hb => by
      obtain ⟨a, ha, rfl⟩ := List.mem_map.1 hb
      have := k a ha
      simp only [id] at this; simp [this]
    omega
  · intro k a ha
    have h2 := hz.1 (by have := Nat.two_pow_pos l.length; omega) (!a) (List.mem_map_of_mem ha)
    simpa using h2
theorem toN1 (b : Bool) : toN [b] = b.toNat := by simp [toN]
theorem n1_dec (p : Prop) [Decidable p] : (decide p).toNat = n1 p := by unfold n1; by_cases h : p <;> simp [h]
section
variable {W : Int → Prop} {V : Int → Bool} (L : Lits W V)
include L
theorem all_wp {l : List Int} (hl : Ws W l) : wpG W V (allW l) (fun n r => n = l.length ∧ W r ∧ V r = decide (toN (l.map V) = 2 ^ l.length - 1)) := by
  refine wpG_mono (fold_wp L (fb := (· && ·)) (fun p q hp hq => and_wp L hp hq) L.w1 hl l.length (Nat.le_refl _)) ?_
  rintro n r ⟨h1, h2, h3⟩
  refine ⟨h1, h2, ?_⟩
  rw [h3, List.take_of_length_le (Nat.le_refl _), foldl_and, L.v1, Bool.true_and, all_true, List.length_map]
theorem less_wp {x y : List Int} (hx : Ws W x) (hy : Ws W y) (hl : y.length = x.length) : wpG W V (lessW x y) (fun n r => n = 5 * x.length ∧ W r ∧ V r = decide (toN (x.map V) < toN (y.map V))) := by
  refine wpG_bind (wpG_mono (sumW_wp L hx (ws_not L hy) L.w1 (by unfold notW; rw [List.length_map, hl])) ?_)
  rintro n r ⟨h1, h2, h3, h4, h5⟩
  refine ⟨by omega, L.wt _ h3, ?_⟩
  rw [L.vt _ h3]
  rw [bits_not L hy, L.v1] at h5
  have hn := toN_not (y.map V)
  rw [List.length_map, hl] at hn
  have hlt := toN_lt (r.1.map V)
  rw [List.length_map, h4] at hlt
  have hx' := toN_lt (x.map V)
  rw [List.length_map] at hx'
  simp only [Bool.toNat_true] at h5
  cases hc : V r.2
  · rw [hc] at h5
    simp only [Bool.toNat_false, Nat.mul_zero] at h5
    rw [decide_eq_true (by omega)]; rfl
  · rw [hc] at h5
    simp only [Bool.toNat_true, Nat.mul_one] at h5
    rw [decide_eq_false (by omega)]; rfl
theorem eq_wp {x y : List Int} (hx : Ws W x) (hy : Ws W y) (hl : y.length = x.length) : wpG W V (eqW x y) (fun n r => n = 2 * x.length ∧ W r ∧ V r = decide (toN (x.map V) = toN (y.map V))) := by
  refine wpG_bind (wpG_mono (zip_wp L (fb := (· != ·)) (fun p q hp hq => xor_wp L hp hq) hx hy x.length) ?_)
  rintro n l ⟨h1, h2, h3, h4⟩
  refine wpG_mono (all_wp L (ws_not L h2)) ?_
  rintro m r ⟨k1, k2, k3⟩
  have e : (notW l).length = l.length := by unfold notW; rw [List.length_map]
  rw [e] at k1 k3
  refine ⟨by omega, k2, ?_⟩
  rw [k3, bits_not L h2]
  have hn := toN_not (l.map V)
  rw [List.length_map] at hn
  have hz := toN_zero (l := l.map V)
  have key : toN (l.map V) = 0 ↔ toN (x.map V) = toN (y.map V) := by
    rw [hz]
    constructor
    · intro k
      refine Nat.eq_of_testBit_eq fun j => ?_
      rw [bit_V L, bit_V L]
      rcases Nat.lt_or_ge j x.length with q | q
      · have h5 := h4 j q
        have h6 := k (V (gt l j)) (by rw [gt_lt (by omega)]; exact List.mem_map_of_mem (List.getElem_mem _))
        rw [h6] at h5
        exact (show ∀ a b : Bool, false = (a != b) → a = b by decide) _ _ h5
      · rw [gt_ge (by omega), gt_ge (by omega)]
    · intro k b hb
      obtain ⟨a, ha, rfl⟩ := List.mem_map.1 hb
      obtain ⟨j, hj, rfl⟩ := List.getElem_of_mem ha
      have h5 := h4 j (by omega)
      rw [gt_lt hj] at h5
      have e1 := bit_V L x j
      have e2 := bit_V L y j
      rw [k, e2] at e1
      rw [h5, e1]; simp
  rw [Bool.eq_iff_iff, decide_eq_true_eq, decide_eq_true_eq, ← key]
  have := Nat.two_pow_pos l.length
  omega
theorem un_wp {op : Int} {a : List Int} (ha : Ws W a) (h : 1 ≤ op ∧ op ≤ 6) (hl : 0 < a.length) (hl2 : a.length ≤ 64) (h6 : op = 6 → a.length = 1) :
    wpG W V (unP op a) (fun n out => n ≤ 5 * a.length ∧ Ws W out ∧ (out.length, toN (out.map V)) = unN op a.length (toN (a.map V))) := by
  have hlt := toN_lt (a.map V)
  rw [List.length_map] at hlt
  have one : ∀ {r : Int}, W r → Ws W [r] := fun hr x hx => by rw [List.mem_singleton] at hx; subst hx; exact hr
  have hn := toN_not (a.map V)
  rw [List.length_map] at hn
  unfold unP unN
  by_cases o1 : op = 1
  · rw [if_pos o1, if_pos o1]
    refine ⟨by omega, ws_not L ha, ?_⟩
    rw [bits_not L ha]
    refine Prod.ext (by unfold notW; rw [List.length_map]) ?_
    simp only; omega
  rw [if_neg o1, if_neg o1]
  by_cases o2 : op = 2
  · rw [if_pos o2, if_pos o2]
    have hnl : (notW a).length = a.length := by unfold notW; rw [List.length_map]
    refine wpG_bind (wpG_mono (sumW_wp L (ws_not L ha) (ws_rep L a.length) L.w1 (by rw [List.length_replicate, hnl])) ?_)
    rintro n r ⟨k1, k2, k3, k4, k5⟩
    rw [hnl] at k1 k4 k5
    rw [bits_not L ha, bits_rep L, toN_rep0, L.v1] at k5
    refine ⟨by omega, k2, Prod.ext k4 ?_⟩
    have hrl := toN_lt (r.1.map V)
    rw [List.length_map, k4] at hrl
    simp only [Bool.toNat_true] at k5
    show toN (r.1.map V) = (2 ^ a.length - toN (a.map V)) % 2 ^ a.length
    have e : 2 ^ a.length - toN (a.map V) = toN (r.1.map V) + 2 ^ a.length * (V r.2).toNat := by omega
    rw [e, Nat.add_mul_mod_self_left, Nat.mod_eq_of_lt hrl]
  rw [if_neg o2, if_neg o2]
  by_cases o3 : op = 3
  · rw [if_pos o3, if_pos o3]
    refine wpG_bind (wpG_mono (all_wp L ha) ?_)
    rintro n r ⟨k1, k2, k3⟩
    refine ⟨by omega, one k2, Prod.ext rfl ?_⟩
    simp only [List.map_cons, List.map_nil]
    rw [toN1, k3, n1_dec]
  rw [if_neg o3, if_neg o3]
  by_cases o4 : op = 4
  · rw [if_pos o4, if_pos o4]
    refine wpG_bind (wpG_mono (all_wp L (ws_not L ha)) ?_)
    rintro n r ⟨k1, k2, k3⟩
    have hnl : (notW a).length = a.length := by unfold notW; rw [List.length_map]
    refine ⟨by omega, one (L.wt _ k2), Prod.ext rfl ?_⟩
    simp only [List.map_cons, List.map_nil]
    rw [toN1, L.vt _ k2, k3, bits_not L ha, hnl, ← n1_dec, ← decide_not]
    congr 1
    rw [decide_eq_decide]
    omega
  rw [if_neg o4, if_neg o4]
  by_cases o5 : op = 5
  · rw [if_pos o5, if_pos o5]
    refine wpG_bind (wpG_mono (fold_wp L (fb := (· != ·)) (fun p q hp hq => xor_wp L hp hq) L.w0 ha a.length (Nat.le_refl _)) ?_)
    rintro n r ⟨k1, k2, k3⟩
    refine ⟨by omega, one k2, Prod.ext rfl ?_⟩
    simp only [List.map_cons, List.map_nil]
    rw [toN1, k3, List.take_of_length_le (Nat.le_refl _), L.v0, par_bits (by rw [List.length_map]; exact hl2)]
  rw [if_neg o5, if_neg o5]
  have h1 : a.length = 1 := h6 (by omega)
  have hw := gt_W L ha 0
  refine ⟨by omega, one (L.wt _ hw), Prod.ext rfl ?_⟩
  simp only [List.map_cons, List.map_nil]
  have hb := bit_V L a 0
  rw [h1] at hlt
  rw [toN1, L.vt _ hw, ← hb, ← n1_dec]
  have : toN (a.map V) = 0 ∨ toN (a.map V) = 1 := by omega
  rcases this with e | e <;> rw [e] <;> rfl
theorem bin_wp {op : Int} {x y : List Int} (hx : Ws W x) (hy : Ws W y) (h : 11 ≤ op ∧ op ≤ 26) (hx64 : x.length ≤ 64) (hl : op = 17 ∨ op = 18 ∨ (x.length = y.length ∧ (op < 25 ∨ x.length = 1))) :
    wpG W V (binP op x y) (fun n out => n ≤ 6 * x.length * y.length + 5 * x.length ∧ Ws W out ∧ (out.length, toN (out.map V)) = binN op x.length (toN (x.map V)) (toN (y.map V))) := by
  have hlt := toN_lt (x.map V)
  have hlt2 := toN_lt (y.map V)
  rw [List.length_map] at hlt hlt2
  have one : ∀ {r : Int}, W r → Ws W [r] := fun hr x hx => by rw [List.mem_singleton] at hx; subst hx; exact hr
  have zip := fun {f : Int → Int → Pg Int} {fb : Bool → Bool → Bool} (hf : ∀ p q, W p → W q → wpG W V (f p q) (fun n r => n = 1 ∧ W r ∧ V r = fb (V p) (V q))) => zip_wp L hf hx hy x.length
  have bits : ∀ {out : List Int} {fb : Bool → Bool → Bool} {N : Nat}, out.length = x.length → (∀ j, j < x.length → V (gt out j) = fb (V (gt x j)) (V (gt y j))) → fb false false = false → (∀ j, N.testBit j = fb ((toN (x.map V)).testBit j) ((toN (y.map V)).testBit j)) → x.length = y.length → toN (out.map V) = N := fun {out fb N} h1 h2 h3 h4 h5 => by
    refine Nat.eq_of_testBit_eq fun j => ?_
    rw [bit_V L, h4, bit_V L, bit_V L]
    rcases Nat.lt_or_ge j x.length with q | q
    · exact h2 j q
    · rw [gt_ge (by omega), gt_ge (by omega), gt_ge (by omega), L.v0, h3]
  have cnt : ∀ n : Nat, n ≤ 5 * x.length → n ≤ 6 * x.length * y.length + 5 * x.length := fun n hn => by omega
  unfold binP
  by_cases oz1 : op = 11 ∨ op = 25
  · rw [if_pos oz1]
    have hlen : x.length = y.length := by omega
    refine wpG_mono (zip (fb := (· && ·)) fun p q hp hq => and_wp L hp hq) ?_
    rintro n out ⟨k1, k2, k3, k4⟩
    have hb := bits (fb := (· && ·)) (N := toN (x.map V) &&& toN (y.map V)) k3 k4 rfl (fun j => Nat.testBit_and _ _ _) hlen
    refine ⟨cnt _ (by omega), k2, ?_⟩
    rw [hb, k3]
    rcases oz1 with rfl | rfl
    · rfl
    · have h1 : x.length = 1 := by omega
      have h2 : y.length = 1 := by omega
      rw [h1] at hlt
      rw [h2] at hlt2
      rw [h1]
      have ea : toN (x.map V) = 0 ∨ toN (x.map V) = 1 := by omega
      have eb : toN (y.map V) = 0 ∨ toN (y.map V) = 1 := by omega
      rcases ea with ea | ea <;> rcases eb with eb | eb <;> rw [ea, eb] <;> rfl
  rw [if_neg oz1]
  by_cases oz2 : op = 12 ∨ op = 26
  · rw [if_pos oz2]
    have hlen : x.length = y.length := by omega
    refine wpG_mono (zip (fb := (· || ·)) fun p q hp hq => or_wp L hp hq) ?_
    rintro n out ⟨k1, k2, k3, k4⟩
    have hb := bits (fb := (· || ·)) (N := toN (x.map V) ||| toN (y.map V)) k3 k4 rfl (fun j => Nat.testBit_or _ _ _) hlen
    refine ⟨cnt _ (by omega), k2, ?_⟩
    rw [hb, k3]
    rcases oz2 with rfl | rfl
    · rfl
    · have h1 : x.length = 1 := by omega
      have h2 : y.length = 1 := by omega
      rw [h1] at hlt
      rw [h2] at hlt2
      rw [h1]
      have ea : toN (x.map V) = 0 ∨ toN (x.map V) = 1 := by omega
      have eb : toN (y.map V) = 0 ∨ toN (y.map V) = 1 := by omega
      rcases ea with ea | ea <;> rcases eb with eb | eb <;> rw [ea, eb] <;> rfl
  rw [if_neg oz2]
  by_cases o13 : op = 13
  · subst o13
    rw [if_pos rfl]
    have hlen : x.length = y.length := by omega
    refine wpG_mono (zip (fb := (· != ·)) fun p q hp hq => xor_wp L hp hq) ?_
    rintro n out ⟨k1, k2, k3, k4⟩
    have hb := bits (fb := (· != ·)) (N := toN (x.map V) ^^^ toN (y.map V)) k3 k4 rfl (fun j => by rw [Nat.testBit_xor]) hlen
    exact ⟨cnt _ (by omega), k2, by rw [hb, k3]; rfl⟩
  rw [if_neg o13]
  by_cases o14 : op = 14
  · subst o14
    rw [if_pos rfl]
    refine wpG_bind (wpG_mono (sumW_wp L hx hy L.w0 (by omega)) ?_)
    rintro n r ⟨k1, k2, k3, k4, k5⟩
    rw [L.v0] at k5
    refine ⟨cnt _ (by omega), k2, ?_⟩
    have hrl := toN_lt (r.1.map V)
    rw [List.length_map, k4] at hrl
    simp only [Bool.toNat_false, Nat.add_zero] at k5
    have e : toN (r.1.map V) = (toN (x.map V) + toN (y.map V)) % 2 ^ x.length := by rw [← k5, Nat.add_mul_mod_self_left, Nat.mod_eq_of_lt hrl]
    rw [k4, e]; rfl
  rw [if_neg o14]
  by_cases o15 : op = 15
  · subst o15
    rw [if_pos rfl]
    refine wpG_bind (wpG_mono (sumW_wp L hx (ws_not L hy) L.w1 (by unfold notW; rw [List.length_map]; omega)) ?_)
    rintro n r ⟨k1, k2, k3, k4, k5⟩
    rw [bits_not L hy, L.v1] at k5
    have hn := toN_not (y.map V)
    rw [List.length_map, show y.length = x.length by omega] at hn
    refine ⟨cnt _ (by omega), k2, ?_⟩
    have hrl := toN_lt (r.1.map V)
    rw [List.length_map, k4] at hrl
    simp only [Bool.toNat_true] at k5
    have e0 : toN (x.map V) + (2 ^ x.length - toN (y.map V)) = toN (r.1.map V) + 2 ^ x.length * (V r.2).toNat := by omega
    have e : toN (r.1.map V) = (toN (x.map V) + (2 ^ x.length - toN (y.map V))) % 2 ^ x.length := by rw [e0, Nat.add_mul_mod_self_left, Nat.mod_eq_of_lt hrl]
    rw [k4, e]; rfl
  rw [if_neg o15]
  by_cases o16 : op = 16
  · subst o16
    rw [if_pos rfl]
    refine wpG_mono (mul_wp L hx hy y.length (Nat.le_refl _) (by omega)) ?_
    rintro n out ⟨k1, k2, k3, k4⟩
    rw [List.take_of_length_le (Nat.le_refl _)] at k4
    exact ⟨by omega, k2, by rw [k3, k4]; rfl⟩
  rw [if_neg o16]
  have cnt2 : x.length * y.length ≤ 6 * x.length * y.length + 5 * x.length := by
    have : 6 * x.length * y.length = 6 * (x.length * y.length) := Nat.mul_assoc _ _ _
    omega
  by_cases o17 : op = 17
  · subst o17
    rw [if_pos rfl]
    refine wpG_mono (shift_wp L hx hy true hx64 y.length (Nat.le_refl _)) ?_
    rintro n out ⟨k1, k2, k3, k4⟩
    rw [List.take_of_length_le (Nat.le_refl _)] at k4
    exact ⟨by omega, k2, by rw [k3, k4]; rfl⟩
  rw [if_neg o17]
  by_cases o18 : op = 18
  · subst o18
    rw [if_pos rfl]
    refine wpG_mono (shift_wp L hx hy false hx64 y.length (Nat.le_refl _)) ?_
    rintro n out ⟨k1, k2, k3, k4⟩
    rw [List.take_of_length_le (Nat.le_refl _)] at k4
    exact ⟨by omega, k2, by rw [k3, k4]; rfl⟩
  rw [if_neg o18]
  have hlen : x.length = y.length := by omega
  have res : ∀ {r : Int} {b : Bool} {N : Nat}, V r = b → b.toNat = N → ([r].length, toN ([r].map V)) = (1, N) := fun {r b N} h1 h2 => by
    simp only [List.map_cons, List.map_nil, List.length_cons, List.length_nil]
    rw [toN1, h1, h2]
  by_cases o19 : op = 19
  · subst o19
    rw [if_pos rfl]
    refine wpG_bind (wpG_mono (eq_wp L hx hy (by omega)) ?_)
    rintro n r ⟨k1, k2, k3⟩
    exact ⟨cnt _ (by omega), one k2, res k3 (n1_dec _)⟩
  rw [if_neg o19]
  by_cases o20 : op = 20
  · subst o20
    rw [if_pos rfl]
    refine wpG_bind (wpG_mono (eq_wp L hx hy (by omega)) ?_)
    rintro n r ⟨k1, k2, k3⟩
    exact ⟨cnt _ (by omega), one (L.wt _ k2), res (by rw [L.vt _ k2, k3, ← decide_not]) (n1_dec _)⟩
  rw [if_neg o20]
  by_cases o21 : op = 21
  · subst o21
    rw [if_pos rfl]
    refine wpG_bind (wpG_mono (less_wp L hx hy (by omega)) ?_)
    rintro n r ⟨k1, k2, k3⟩
    exact ⟨cnt _ (by omega), one k2, res k3 (n1_dec _)⟩
  rw [if_neg o21]
  by_cases o23 : op = 23
  · subst o23
    rw [if_pos rfl]
    refine wpG_bind (wpG_mono (less_wp L hy hx (by omega)) ?_)
    rintro n r ⟨k1, k2, k3⟩
    exact ⟨cnt _ (by omega), one k2, res k3 (n1_dec _)⟩
  rw [if_neg o23]
  by_cases o22 : op = 22
  · subst o22
    rw [if_pos rfl]
    refine wpG_bind (wpG_mono (less_wp L hy hx (by omega)) ?_)
    rintro n r ⟨k1, k2, k3⟩
    refine ⟨cnt _ (by omega), one (L.wt _ k2), res (b := decide (toN (x.map V) ≤ toN (y.map V))) ?_ (n1_dec _)⟩
    rw [L.vt _ k2, k3, ← decide_not, decide_eq_decide]; omega
  rw [if_neg o22]
  have o24 : op = 24 := by omega
  subst o24
  refine wpG_bind (wpG_mono (less_wp L hx hy (by omega)) ?_)
  rintro n r ⟨k1, k2, k3⟩
  refine ⟨cnt _ (by omega), one (L.wt _ k2), res (b := decide (toN (y.map V) ≤ toN (x.map V))) ?_ (n1_dec _)⟩
  rw [L.vt _ k2, k3, ← decide_not, decide_eq_decide]; omega
theorem cond_wp {c : Int} {x y : List Int} (hc : W c) (hx : Ws W x) (hy : Ws W y) (hl : x.length = y.length) :
    wpG W V (condP c x y) (fun n out => n ≤ x.length ∧ Ws W out ∧ out.length = x.length ∧ toN (out.map V) = if V c then toN (x.map V) else toN (y.map V)) := by
  refine wpG_mono (zip_wp L (fb := fun a b => if V c then a else b) (fun p q hp hq => mux_wp hc hp hq) hx hy x.length) ?_
  rintro n out ⟨k1, k2, k3, k4⟩
  refine ⟨by omega, k2, k3, ?_⟩
  refine Nat.eq_of_testBit_eq fun j => ?_
  rw [bit_V L]
  rcases Nat.lt_or_ge j x.length with q | q
  · rw [k4 j q]
    split <;> rw [bit_V L]
  · rw [gt_ge (by omega), L.v0]
    split
    · rw [bit_V L, gt_ge (by omega), L.v0]
    · rw [bit_V L, gt_ge (by omega), L.v0]
end
end Fil.Bl

namespace Fil.Bl
open Abs Go
theorem wrapU (n : Int) (h : 0 ≤ n) (h2 : n < 18446744073709551616) : IntKind.u64.wrap n = n := by
  simp [IntKind.wrap, IntKind.signed, IntKind.bits]; omega
theorem wrapU_mod (n : Int) : IntKind.u64.wrap n = n % 18446744073709551616 := by
  simp [IntKind.wrap, IntKind.signed, IntKind.bits]
theorem ofU (a : Nat) : (BitVec.ofInt 64 (a : Int)).toNat = a % 18446744073709551616 := by
  rw [BitVec.toNat_ofInt]; omega
theorem andU (a b : Nat) (ha : a < 18446744073709551616) (hb : b < 18446744073709551616) : IntKind.u64.wrap ((BitVec.ofInt IntKind.u64.bits (a : Int) &&& BitVec.ofInt IntKind.u64.bits (b : Int)).toNat : Nat) = ((a &&& b : Nat) : Int) := by
  have e : (BitVec.ofInt 64 (a : Int) &&& BitVec.ofInt 64 (b : Int)).toNat = a &&& b := by
    rw [BitVec.toNat_and, ofU, ofU, Nat.mod_eq_of_lt ha, Nat.mod_eq_of_lt hb]
  show IntKind.u64.wrap ((BitVec.ofInt 64 (a : Int) &&& BitVec.ofInt 64 (b : Int)).toNat : Nat) = _
  rw [e]
  have := Nat.and_le_left (n := a) (m := b)
  exact wrapU _ (by omega) (by omega)
theorem orU (a b : Nat) (ha : a < 18446744073709551616) (hb : b < 18446744073709551616) : IntKind.u64.wrap ((BitVec.ofInt IntKind.u64.bits (a : Int) ||| BitVec.ofInt IntKind.u64.bits (b : Int)).toNat : Nat) = ((a ||| b : Nat) : Int) := by
  have e : (BitVec.ofInt 64 (a : Int) ||| BitVec.ofInt 64 (b : Int)).toNat = a ||| b := by
    rw [BitVec.toNat_or, ofU, ofU, Nat.mod_eq_of_lt ha, Nat.mod_eq_of_lt hb]
  show IntKind.u64.wrap ((BitVec.ofInt 64 (a : Int) ||| BitVec.ofInt 64 (b : Int)).toNat : Nat) = _
  rw [e]
  have : a ||| b < 2 ^ 64 := Nat.or_lt_two_pow (by omega) (by omega)
  exact wrapU _ (by omega) (by omega)
theorem xorU (a b : Nat) (ha : a < 18446744073709551616) (hb : b < 18446744073709551616) : IntKind.u64.wrap ((BitVec.ofInt IntKind.u64.bits (a : Int) ^^^ BitVec.ofInt IntKind.u64.bits (b : Int)).toNat : Nat) = ((a ^^^ b : Nat) : Int) := by
  have e : (BitVec.ofInt 64 (a : Int) ^^^ BitVec.ofInt 64 (b : Int)).toNat = a ^^^ b := by
    rw [BitVec.toNat_xor, ofU, ofU, Nat.mod_eq_of_lt ha, Nat.mod_eq_of_lt hb]
  show IntKind.u64.wrap ((BitVec.ofInt 64 (a : Int) ^^^ BitVec.ofInt 64 (b : Int)).toNat : Nat) = _
  rw [e]
  have : a ^^^ b < 2 ^ 64 := Nat.xor_lt_two_pow (by omega) (by omega)
  exact wrapU _ (by omega) (by omega)
theorem and1U (a : Nat) (ha : a < 18446744073709551616) : IntKind.u64.wrap ((BitVec.ofInt IntKind.u64.bits (a : Int) &&& BitVec.ofInt IntKind.u64.bits 1).toNat : Nat) = ((a % 2 : Nat) : Int) := by
  have := andU a 1 ha (by omega)
  rw [Nat.and_one_is_mod] at this
  exact this
theorem fdivU (a k : Nat) : ((a : Int).fdiv (2 ^ k)) = ((a / 2 ^ k : Nat) : Int) := by
  have e : (2 : Int) ^ k = ((2 ^ k : Nat) : Int) := by simp
  rw [e, Int.fdiv_eq_ediv_of_nonneg _ (Int.natCast_nonneg _), Int.natCast_ediv]
theorem shlU (a k : Nat) : IntKind.u64.wrap ((a : Int) * 2 ^ k) = ((a * 2 ^ k % 18446744073709551616 : Nat) : Int) := by
  have e : (2 : Int) ^ k = ((2 ^ k : Nat) : Int) := by simp
  rw [wrapU_mod, e]
  simp

/-! ### Masks -/
def maskN (w : Int) : Nat := if w < 1 then 0 else if 63 < w then 18446744073709551615 else 2 ^ w.toNat - 1
theorem maskN_of {w : Int} (h : 1 ≤ w ∧ w ≤ 64) : maskN w = 2 ^ w.toNat - 1 := by
  unfold maskN
  rw [if_neg (by omega)]
  split
  · have : w = 64 := by omega
    subst this; rfl
  · rfl
theorem maskN_lt (w : Int) : maskN w < 18446744073709551616 := by
  unfold maskN
  split
  · omega
  split
  · omega
  · have : 2 ^ w.toNat ≤ 2 ^ 63 := Nat.pow_le_pow_right (by omega) (by omega)
    have e : (2 : Nat) ^ 63 = 9223372036854775808 := by decide
    omega
theorem pow_lt64 {w : Int} (h : 1 ≤ w ∧ w ≤ 64) : 2 ^ w.toNat ≤ 18446744073709551616 := by
  have : 2 ^ w.toNat ≤ 2 ^ 64 := Nat.pow_le_pow_right (by omega) (by omega)
  have e : (2 : Nat) ^ 64 = 18446744073709551616 := by decide
  omega
def bitsN (w : Int) (v : Nat) : Bool := decide (1 ≤ w ∧ w ≤ 64 ∧ v ≤ maskN w)
theorem bitsN_iff {w : Int} {v : Nat} : bitsN w v = true ↔ (1 ≤ w ∧ w ≤ 64) ∧ v < 2 ^ w.toNat := by
  unfold bitsN
  rw [decide_eq_true_eq]
  constructor
  · rintro ⟨h1, h2, h3⟩
    rw [maskN_of ⟨h1, h2⟩] at h3
    have := Nat.two_pow_pos w.toNat
    exact ⟨⟨h1, h2⟩, by omega⟩
  · rintro ⟨h1, h2⟩
    refine ⟨h1.1, h1.2, ?_⟩
    rw [maskN_of h1]; omega
end Fil.Bl

namespace Go.Proofs.Ytbbihmmobfmadaa
open Abs Fil Fil.Bl
abbrev encB (w : Int) (v : Nat) : AV := .agg [.int .i64 w, .int .u64 v]
theorem rf_Mask (w : Int) (σ : Sig) : ACalls Try.prog 14 [.int .i64 w] σ (fun r σ' => r = .ret (.int .u64 (maskN w)) ∧ σ' = σ) := by
  have hv : (w < 1 ∧ maskN w = 0) ∨ (¬ w < 1 ∧ 63 < w ∧ maskN w = 18446744073709551615) ∨ (¬ w < 1 ∧ ¬ 63 < w ∧ maskN w = 2 ^ w.toNat - 1) := by
    unfold maskN
    by_cases h1 : w < 1
    · exact .inl ⟨h1, by rw [if_pos h1]⟩
    · by_cases h2 : 63 < w
      · exact .inr (.inl ⟨h1, h2, by rw [if_neg h1, if_pos h2]⟩)
      · exact .inr (.inr ⟨h1, h2, by rw [if_neg h1, if_neg h2]⟩)
  refine calls_x mixed Try.func14 b14 n14 rfl q14 (by simp) ?_; unfold c14 r14
  rcases hv with ⟨h1, h2⟩ | ⟨h1, h2, h3⟩ | ⟨h1, h2, h3⟩
  · rw [h2]
    clear h2
    repeat' (first | simp (maxDischargeDepth := 9) -implicitDefEqProofs -dsimp only [go_sem, seval, *])
    refine fin_eq ?_
    (repeat' (first | simp (maxDischargeDepth := 9) -implicitDefEqProofs -dsimp only [go_sem, seval, Int.natCast_zero, *])) <;> (repeat' refine And.intro ?_ ?_) <;> (first | omega | rfl | assumption | skip)
  · rw [h3]
    clear h3
    repeat' (first | simp (maxDischargeDepth := 9) -implicitDefEqProofs -dsimp only [go_sem, seval, gt_iff_lt, *])
    refine fin_eq ?_
    (repeat' (first | simp (maxDischargeDepth := 9) -implicitDefEqProofs -dsimp only [go_sem, seval, *])) <;> (repeat' refine And.intro ?_ ?_) <;> (first | omega | rfl | assumption | skip)
  · have h0 : ¬ w < 0 := by omega
    have hm : Nat.min w.toNat 64 = w.toNat := Nat.min_eq_left (by omega)
    have hlt : 2 ^ w.toNat ≤ 2 ^ 63 := Nat.pow_le_pow_right (by omega) (by omega)
    have e63 : (2 : Nat) ^ 63 = 9223372036854775808 := by decide
    have hs : IntKind.u64.wrap (1 * 2 ^ w.toNat) = ((2 ^ w.toNat : Nat) : Int) := by
      have := shlU 1 w.toNat
      rw [Nat.one_mul, Nat.mod_eq_of_lt (by omega)] at this
      exact this
    have hp := Nat.two_pow_pos w.toNat
    have hsb : IntKind.u64.wrap (((2 ^ w.toNat : Nat) : Int) - 1) = ((2 ^ w.toNat - 1 : Nat) : Int) := by
      rw [wrapU _ (by omega) (by omega)]; omega
    rw [h3]
    obtain ⟨M, hM⟩ : ∃ M, 2 ^ w.toNat - 1 = M := ⟨_, rfl⟩
    rw [hM] at hsb ⊢
    obtain ⟨N, hN⟩ : ∃ M, 2 ^ w.toNat = M := ⟨_, rfl⟩
    rw [hN] at hs hsb
    clear h3 hlt e63 hp hM hN
    repeat' (first | simp (maxDischargeDepth := 9) -implicitDefEqProofs -dsimp only [go_sem, seval, gt_iff_lt, *])
    refine fin_eq ?_
    (repeat' (first | simp (maxDischargeDepth := 9) -implicitDefEqProofs -dsimp only [go_sem, seval, *])) <;> (repeat' refine And.intro ?_ ?_) <;> (first | omega | rfl | assumption | skip)
theorem rf_Check01 (w : Int) (v : Nat) (σ : Sig) : ACalls Try.prog 33 [encB w v] σ (fun r σ' => r = .ret (.int .i64 (if bitsN w v then 0 else 1)) ∧ σ' = σ) := by
  have c1 := fun τ => rf_Mask w τ
  have hv : bitsN w v = decide (1 ≤ w ∧ w ≤ 64 ∧ v ≤ maskN w) := rfl
  obtain ⟨B, hB⟩ : ∃ B, bitsN w v = B := ⟨_, rfl⟩
  rw [hB] at hv ⊢
  obtain ⟨M, hM⟩ : ∃ M, maskN w = M := ⟨_, rfl⟩
  rw [hM] at c1 hv
  clear hB hM
  refine calls_x mixed Try.func33 b33 n33 rfl q33 (by simp) ?_; unfold c33 r33
  by_cases h1 : w < 1
  · have hb : B = false := by rw [hv]; exact decide_eq_false (by omega)
    subst hb
    clear hv
    repeat' (first | simp (maxDischargeDepth := 9) -implicitDefEqProofs -dsimp only [go_sem, seval, *] | ((with_reducible apply id_one0); (focus (intro tS hS; ((first | with_reducible refine c1 _) <;> (first | (simp (maxDischargeDepth := 9) -implicitDefEqProofs -dsimp only [go_sem, seval, *]; done) | omega | ((with_reducible refine Sub.get hS ?_); simp (maxDischargeDepth := 9) -implicitDefEqProofs -dsimp only [go_sem, seval, *]; done))))); (focus (first | trivial | (simp (maxDischargeDepth := 9) -implicitDefEqProofs -dsimp only [go_sem, seval, *]; done)))))
    refine fin_eq ?_
    (repeat' (first | simp (maxDischargeDepth := 9) -implicitDefEqProofs -dsimp only [go_sem, seval, *])) <;> (repeat' refine And.intro ?_ ?_) <;> (first | omega | rfl | assumption | skip)
  by_cases h2 : 64 < w
  · have hb : B = false := by rw [hv]; exact decide_eq_false (by omega)
    subst hb
    clear hv
    repeat' (first | simp (maxDischargeDepth := 9) -implicitDefEqProofs -dsimp only [go_sem, seval, gt_iff_lt, *] | ((with_reducible apply id_one0); (focus (intro tS hS; ((first | with_reducible refine c1 _) <;> (first | (simp (maxDischargeDepth := 9) -implicitDefEqProofs -dsimp only [go_sem, seval, *]; done) | omega | ((with_reducible refine Sub.get hS ?_); simp (maxDischargeDepth := 9) -implicitDefEqProofs -dsimp only [go_sem, seval, *]; done))))); (focus (first | trivial | (simp (maxDischargeDepth := 9) -implicitDefEqProofs -dsimp only [go_sem, seval, *]; done)))))
    refine fin_eq ?_
    (repeat' (first | simp (maxDischargeDepth := 9) -implicitDefEqProofs -dsimp only [go_sem, seval, *])) <;> (repeat' refine And.intro ?_ ?_) <;> (first | omega | rfl | assumption | skip)
  by_cases h3 : (M : Int) < v
  · have hb : B = false := by rw [hv]; exact decide_eq_false (by omega)
    subst hb
    clear hv
    repeat' (first | simp (maxDischargeDepth := 9) -implicitDefEqProofs -dsimp only [go_sem, seval, gt_iff_lt, *] | ((with_reducible apply id_one0); (focus (intro tS hS; ((first | with_reducible refine c1 _) <;> (first | (simp (maxDischargeDepth := 9) -implicitDefEqProofs -dsimp only [go_sem, seval, *]; done) | omega | ((with_reducible refine Sub.get hS ?_); simp (maxDischargeDepth := 9) -implicitDefEqProofs -dsimp only [go_sem, seval, *]; done))))); (focus (first | trivial | (simp (maxDischargeDepth := 9) -implicitDefEqProofs -dsimp only [go_sem, seval, *]; done)))))
    refine fin_eq ?_
    (repeat' (first | simp (maxDischargeDepth := 9) -implicitDefEqProofs -dsimp only [go_sem, seval, *])) <;> (repeat' refine And.intro ?_ ?_) <;> (first | omega | rfl | assumption | skip)
  · have hb : B = true := by rw [hv]; exact decide_eq_true (by omega)
    subst hb
    clear hv
    repeat' (first | simp (maxDischargeDepth := 9) -implicitDefEqProofs -dsimp only [go_sem, seval, gt_iff_lt, *] | ((with_reducible apply id_one0); (focus (intro tS hS; ((first | with_reducible refine c1 _) <;> (first | (simp (maxDischargeDepth := 9) -implicitDefEqProofs -dsimp only [go_sem, seval, *]; done) | omega | ((with_reducible refine Sub.get hS ?_); simp (maxDischargeDepth := 9) -implicitDefEqProofs -dsimp only [go_sem, seval, *]; done))))); (focus (first | trivial | (simp (maxDischargeDepth := 9) -implicitDefEqProofs -dsimp only [go_sem, seval, *]; done)))))
    refine fin_eq ?_
    (repeat' (first | simp (maxDischargeDepth := 9) -implicitDefEqProofs -dsimp only [go_sem, seval, *])) <;> (repeat' refine And.intro ?_ ?_) <;> (first | omega | rfl | assumption | skip)
theorem rf_bit (b : Bool) (σ : Sig) : ACalls Try.prog 36 [.bool b] σ (fun r σ' => r = .ret (encB 1 b.toNat) ∧ σ' = σ) := by
  refine calls_x mixed Try.func36 b36 n36 rfl q36 (by simp) ?_; unfold c36 r36
  cases b
  all_goals
    repeat' (first | simp (maxDischargeDepth := 9) -implicitDefEqProofs -dsimp only [go_sem, seval, Bool.toNat_true, Bool.toNat_false, *] | ((with_reducible refine Zt (fun oF hoF hnF hnF' => ?_)); (try simp only [upd_none, ne_eq, not_and] at hoF)))
    refine fin_eq ?_
    (repeat' (first | simp (maxDischargeDepth := 9) -implicitDefEqProofs -dsimp only [go_sem, seval, Bool.toNat_true, Bool.toNat_false, Int.natCast_zero, Int.natCast_one, *])) <;> (repeat' refine And.intro ?_ ?_) <;> (first | omega | rfl | assumption | skip)
theorem rf_up (v n : Nat) (σ : Sig) (hn : n < 18446744073709551616) : ACalls Try.prog 34 [.int .u64 v, .int .u64 n] σ (fun r σ' => r = .ret (.int .u64 ((if 63 < n then 0 else v * 2 ^ n % 18446744073709551616 : Nat))) ∧ σ' = σ) := by
  refine calls_x mixed Try.func34 b34 n34 rfl q34 (by simp) ?_; unfold c34 r34
  by_cases h : 63 < n
  · rw [if_pos h]
    have h2 : (63 : Int) < (n : Nat) := by omega
    repeat' (first | simp (maxDischargeDepth := 9) -implicitDefEqProofs -dsimp only [go_sem, seval, gt_iff_lt, *])
    refine fin_eq ?_
    (repeat' (first | simp (maxDischargeDepth := 9) -implicitDefEqProofs -dsimp only [go_sem, seval, Int.natCast_zero, *])) <;> (repeat' refine And.intro ?_ ?_) <;> (first | omega | rfl | assumption | skip)
  · rw [if_neg h]
    have h2 : ¬ (63 : Int) < (n : Nat) := by omega
    have h3 : ¬ (n : Int) < 0 := by omega
    have hm : Nat.min n 64 = n := Nat.min_eq_left (by omega)
    have hs := shlU v n
    obtain ⟨R, hR⟩ : ∃ R, v * 2 ^ n % 18446744073709551616 = R := ⟨_, rfl⟩
    rw [hR] at hs ⊢
    repeat' (first | simp (maxDischargeDepth := 9) -implicitDefEqProofs -dsimp only [go_sem, seval, gt_iff_lt, *])
    refine fin_eq ?_
    (repeat' (first | simp (maxDischargeDepth := 9) -implicitDefEqProofs -dsimp only [go_sem, seval, *])) <;> (repeat' refine And.intro ?_ ?_) <;> (first | omega | rfl | assumption | skip)
theorem rf_down (v n : Nat) (σ : Sig) (hn : n < 18446744073709551616) : ACalls Try.prog 35 [.int .u64 v, .int .u64 n] σ (fun r σ' => r = .ret (.int .u64 ((if 63 < n then 0 else v / 2 ^ n : Nat))) ∧ σ' = σ) := by
  refine calls_x mixed Try.func35 b35 n35 rfl q35 (by simp) ?_; unfold c35 r35
  by_cases h : 63 < n
  · rw [if_pos h]
    have h2 : (63 : Int) < (n : Nat) := by omega
    repeat' (first | simp (maxDischargeDepth := 9) -implicitDefEqProofs -dsimp only [go_sem, seval, gt_iff_lt, *])
    refine fin_eq ?_
    (repeat' (first | simp (maxDischargeDepth := 9) -implicitDefEqProofs -dsimp only [go_sem, seval, Int.natCast_zero, *])) <;> (repeat' refine And.intro ?_ ?_) <;> (first | omega | rfl | assumption | skip)
  · rw [if_neg h]
    have h2 : ¬ (63 : Int) < (n : Nat) := by omega
    have h3 : ¬ (n : Int) < 0 := by omega
    have hm : Nat.min n 64 = n := Nat.min_eq_left (by omega)
    have hs := fdivU v n
    obtain ⟨R, hR⟩ : ∃ R, v / 2 ^ n = R := ⟨_, rfl⟩
    rw [hR] at hs ⊢
    repeat' (first | simp (maxDischargeDepth := 9) -implicitDefEqProofs -dsimp only [go_sem, seval, gt_iff_lt, *])
    refine fin_eq ?_
    (repeat' (first | simp (maxDischargeDepth := 9) -implicitDefEqProofs -dsimp only [go_sem, seval, *])) <;> (repeat' refine And.intro ?_ ?_) <;> (first | omega | rfl | assumption | skip)
theorem rf_odd (v : Nat) (hv : v < 18446744073709551616) (σ : Sig) : ACalls Try.prog 47 [.int .u64 v] σ (fun r σ' => r = .ret (.bool (par v)) ∧ σ' = σ) := by
  obtain ⟨P, hP⟩ : ∃ P : Nat → Bool, ∀ i, P i = (List.range i).foldl (fun b i => b != v.testBit i) false := ⟨_, fun _ => rfl⟩
  have p0 : P 0 = false := by rw [hP]; rfl
  have ps : ∀ i, P (i + 1) = (P i != v.testBit i) := fun i => by rw [hP, hP, List.range_succ, List.foldl_append]; rfl
  have pe : par v = P 64 := by rw [hP]; rfl
  rw [pe]
  clear hP pe
  refine calls_x mixed Try.func47 b47 n47 rfl q47 (by simp) ?_; unfold c47 r47
  repeat' (first | simp (maxDischargeDepth := 9) -implicitDefEqProofs -dsimp only [go_sem, seval, *] | simp (disch := omega) only [wrap64])
  refine loop_rule (fun i : Nat => [(4, some (.int .i64 i)), (0, some (.int .u64 v)), (3, some (.bool (P i)))]) (fun _ => σ) (fun i => i ≤ 64) (fun i => 64 - i) 0 ?_ ?_
  · clear ps
    (repeat' (first | simp (maxDischargeDepth := 9) -implicitDefEqProofs -dsimp only [go_sem, seval, *] | simp (disch := omega) only [wrap64])) <;> (repeat' refine And.intro ?_ ?_) <;> (first | omega | rfl | assumption | skip)
  · intro i hi
    by_cases hlt : i < 64
    · have h1 := ps i
      have hli : (i : Int) < 64 := by omega
      have h3 : ¬ (i : Int) < 0 := by omega
      have hm : Nat.min i 64 = i := Nat.min_eq_left (by omega)
      have hd := fdivU v i
      have ha := and1U (v / 2 ^ i) (Nat.lt_of_le_of_lt (Nat.div_le_self _ _) hv)
      have hb : (((v / 2 ^ i % 2 : Nat) : Int) == 1) = v.testBit i := by
        rw [Nat.testBit_eq_decide_div_mod_eq, Bool.eq_iff_iff, beq_iff_eq, decide_eq_true_eq]; omega
      obtain ⟨b, hb2⟩ : ∃ b, v.testBit i = b := ⟨_, rfl⟩
      rw [hb2] at h1 hb
      clear ps hb2
      cases b
      · have h4 : P (i + 1) = P i := by rw [h1]; cases P i <;> rfl
        clear h1
        repeat' (first | simp (maxDischargeDepth := 9) -implicitDefEqProofs -dsimp only [go_sem, seval, *] | simp (disch := omega) only [wrap64])
        refine loop_next _ _ _ _ (i + 1) ?_; (repeat' (first | simp (maxDischargeDepth := 9) -implicitDefEqProofs -dsimp only [go_sem, seval, *] | simp (disch := omega) only [wrap64])) <;> (repeat' refine And.intro ?_ ?_) <;> (first | omega | rfl | assumption | skip)
      · have h4 : P (i + 1) = !P i := by rw [h1]; cases P i <;> rfl
        clear h1
        repeat' (first | simp (maxDischargeDepth := 9) -implicitDefEqProofs -dsimp only [go_sem, seval, *] | simp (disch := omega) only [wrap64])
        refine loop_next _ _ _ _ (i + 1) ?_; (repeat' (first | simp (maxDischargeDepth := 9) -implicitDefEqProofs -dsimp only [go_sem, seval, *] | simp (disch := omega) only [wrap64])) <;> (repeat' refine And.intro ?_ ?_) <;> (first | omega | rfl | assumption | skip)
    · have ei : i = 64 := by omega
      subst ei
      clear ps
      repeat' (first | simp (maxDischargeDepth := 9) -implicitDefEqProofs -dsimp only [go_sem, seval, *] | simp (disch := omega) only [wrap64])
      refine fin_eq ?_
      (repeat' (first | simp (maxDischargeDepth := 9) -implicitDefEqProofs -dsimp only [go_sem, seval, *] | simp (disch := omega) only [wrap64])) <;> (repeat' refine And.intro ?_ ?_) <;> (first | omega | rfl | assumption | skip)
end Go.Proofs.Ytbbihmmobfmadaa

namespace Go.Proofs.Ytbbihmmobfmadaa
open Abs Fil Fil.Bl
theorem bits_ok {w a : Nat} (hw : 1 ≤ w ∧ w ≤ 64) (ha : a < 2 ^ w) : bitsN w a = true := bitsN_iff.2 ⟨by omega, by simpa using ha⟩
theorem lt64 {w a : Nat} (hw : 1 ≤ w ∧ w ≤ 64) (ha : a < 2 ^ w) : a < 18446744073709551616 := by
  have := pow_lt64 (w := w) (by omega)
  simp only [Int.toNat_natCast] at this
  omega
theorem mask_eq {w : Nat} (hw : 1 ≤ w ∧ w ≤ 64) : maskN w = 2 ^ w - 1 := by rw [maskN_of (by omega)]; simp
theorem neg_mask {w a : Nat} (hw : 1 ≤ w ∧ w ≤ 64) (ha : a < 2 ^ w) : IntKind.u64.wrap (0 - (a : Int)) = (((18446744073709551616 - a) % 18446744073709551616 : Nat) : Int) := by
  have := lt64 hw ha
  rw [wrapU_mod]; omega
theorem pow_dvd64 {w : Nat} (hw : w ≤ 64) : ∃ k, 18446744073709551616 = 2 ^ w * k := ⟨2 ^ (64 - w), by
  rw [← Nat.pow_add, show w + (64 - w) = 64 by omega]⟩
theorem mod_pow {w : Nat} (hw : w ≤ 64) (n : Nat) : n % 18446744073709551616 % 2 ^ w = n % 2 ^ w := by
  obtain ⟨k, hk⟩ := pow_dvd64 hw
  exact Nat.mod_mod_of_dvd n ⟨k, hk⟩
theorem neg_mod {w a : Nat} (hw : 1 ≤ w ∧ w ≤ 64) (ha : a < 2 ^ w) : (18446744073709551616 - a) % 18446744073709551616 % 2 ^ w = (2 ^ w - a) % 2 ^ w := by
  rw [mod_pow hw.2]
  obtain ⟨k, hk⟩ := pow_dvd64 hw.2
  have hk1 : 1 ≤ k := by
    rcases Nat.eq_zero_or_pos k with h | h
    · subst h; omega
    · exact h
  obtain ⟨j, rfl⟩ : ∃ j, k = j + 1 := ⟨k - 1, by omega⟩
  have e : 18446744073709551616 - a = 2 ^ w - a + 2 ^ w * j := by rw [hk, Nat.mul_add]; omega
  rw [e, Nat.add_mul_mod_self_left]
theorem encB_un (p : Nat × Nat) : encB p.1 p.2 = .agg [.int .i64 p.1, .int .u64 p.2] := rfl
set_option maxRecDepth 20000 in
set_option maxHeartbeats 2000000 in
theorem rf_Un (op : Int) (w a : Nat) (σ : Sig) (hw : 1 ≤ w ∧ w ≤ 64) (ha : a < 2 ^ w) (ho : 1 ≤ op ∧ op ≤ 6) (h6 : op = 6 → w = 1) :
    ACalls Try.prog 21 [.int .i64 op, encB w a] σ (fun r σ' => r = .ret (.tup [encB (unN op w a).1 (unN op w a).2, .int .i64 0]) ∧ σ' = σ) := by
  have c1 := fun τ => rf_Check01 w a τ
  rw [bits_ok hw ha, if_pos rfl] at c1
  have c2 := fun τ => rf_Mask w τ
  have c3 := fun b τ => rf_bit b τ
  have c4 := fun τ => rf_odd a (lt64 hw ha) τ
  have hm := mask_eq hw
  have hml := maskN_lt w
  have hal := lt64 hw ha
  obtain ⟨M, hM⟩ : ∃ M, maskN w = M := ⟨_, rfl⟩
  rw [hM] at c2 hm hml
  have hu : unN op w a = if op = 1 then (w, M - a) else if op = 2 then (w, (2 ^ w - a) % 2 ^ w) else if op = 3 then (1, n1 (a = M)) else if op = 4 then (1, n1 (a ≠ 0)) else if op = 5 then (1, (par a).toNat) else (1, n1 (a = 0)) := by
    unfold unN; rw [hm]
  have hneg := neg_mask hw ha
  have hand := andU ((18446744073709551616 - a) % 18446744073709551616) M (Nat.mod_lt _ (by omega)) hml
  have hmod : (18446744073709551616 - a) % 18446744073709551616 &&& M = (2 ^ w - a) % 2 ^ w := by
    rw [hm, Nat.and_two_pow_sub_one_eq_mod, neg_mod hw ha]
  rw [hmod] at hand
  have hsub : IntKind.u64.wrap ((M : Int) - (a : Int)) = ((M - a : Nat) : Int) := by
    have := Nat.two_pow_pos w
    rw [wrapU _ (by omega) (by omega)]; omega
  obtain ⟨U, hU⟩ : ∃ U, unN op w a = U := ⟨_, rfl⟩
  rw [hU] at hu ⊢
  rw [encB_un]
  clear hU hM hmod
  obtain ⟨N, hN⟩ : ∃ N, (2 ^ w - a) % 2 ^ w = N := ⟨_, rfl⟩
  rw [hN] at hu hand
  obtain ⟨G, hG⟩ : ∃ G, (18446744073709551616 - a) % 18446744073709551616 = G := ⟨_, rfl⟩
  rw [hG] at hneg hand
  obtain ⟨D, hD⟩ : ∃ D, M - a = D := ⟨_, rfl⟩
  rw [hD] at hu hsub
  clear hN hG hD hm
  refine calls_x mixed Try.func21 b21 n21 rfl q21 (by simp) ?_; unfold c21 r21
  by_cases o1 : op = 1
  · rw [if_pos o1] at hu
    subst hu o1
    clear c3 c4 hneg hand
    repeat' (first | simp (maxDischargeDepth := 9) -implicitDefEqProofs -dsimp only [go_sem, seval, *] | ((with_reducible refine Zt (fun oF hoF hnF hnF' => ?_)); (try simp only [upd_none, ne_eq, not_and] at hoF)) | ((with_reducible apply ACalls.one1); (focus ((first | with_reducible refine c1 _ | with_reducible refine c2 _ | with_reducible refine ACalls.flA (c1 _) ?_ | with_reducible refine ACalls.flA (c2 _) ?_) <;> (first | (simp (maxDischargeDepth := 9) -implicitDefEqProofs -dsimp only [go_sem, seval, *]; done) | omega))); (focus (first | trivial | with_reducible exact rfl | (simp (maxDischargeDepth := 9) -implicitDefEqProofs -dsimp only [go_sem, seval]; done)))))
    refine fin_eq ?_
    (repeat' (first | simp (maxDischargeDepth := 9) -implicitDefEqProofs -dsimp only [go_sem, seval, *])) <;> (repeat' refine And.intro ?_ ?_) <;> (first | omega | rfl | assumption | skip)
  rw [if_neg o1] at hu
  have b1 : (op == 1) = false := by simp [o1]
  by_cases o2 : op = 2
  · rw [if_pos o2] at hu
    subst hu o2
    clear c3 c4 hsub
    repeat' (first | simp (maxDischargeDepth := 9) -implicitDefEqProofs -dsimp only [go_sem, seval, *] | ((with_reducible refine Zt (fun oF hoF hnF hnF' => ?_)); (try simp only [upd_none, ne_eq, not_and] at hoF)) | ((with_reducible apply ACalls.one1); (focus ((first | with_reducible refine c1 _ | with_reducible refine c2 _ | with_reducible refine ACalls.flA (c1 _) ?_ | with_reducible refine ACalls.flA (c2 _) ?_) <;> (first | (simp (maxDischargeDepth := 9) -implicitDefEqProofs -dsimp only [go_sem, seval, *]; done) | omega))); (focus (first | trivial | with_reducible exact rfl | (simp (maxDischargeDepth := 9) -implicitDefEqProofs -dsimp only [go_sem, seval]; done)))))
    refine fin_eq ?_
    (repeat' (first | simp (maxDischargeDepth := 9) -implicitDefEqProofs -dsimp only [go_sem, seval, *])) <;> (repeat' refine And.intro ?_ ?_) <;> (first | omega | rfl | assumption | skip)
  rw [if_neg o2] at hu
  have b2 : (op == 2) = false := by simp [o2]
  by_cases o3 : op = 3
  · rw [if_pos o3] at hu
    have c5 := fun τ => c3 ((a : Int) == (M : Int)) τ
    have e : ((a : Int) == (M : Int)).toNat = n1 (a = M) := by rw [← n1_dec]; congr 1; rw [Bool.eq_iff_iff, beq_iff_eq, decide_eq_true_eq]; omega
    rw [e] at c5
    subst hu o3
    clear c3 c4 hsub hneg hand e
    repeat' (first | simp (maxDischargeDepth := 9) -implicitDefEqProofs -dsimp only [go_sem, seval, *] | ((with_reducible refine Zt (fun oF hoF hnF hnF' => ?_)); (try simp only [upd_none, ne_eq, not_and] at hoF)) | ((with_reducible apply ACalls.one1); (focus ((first | with_reducible refine c1 _ | with_reducible refine c2 _ | with_reducible refine c5 _ | with_reducible refine ACalls.flA (c1 _) ?_ | with_reducible refine ACalls.flA (c2 _) ?_ | with_reducible refine ACalls.flA (c5 _) ?_) <;> (first | (simp (maxDischargeDepth := 9) -implicitDefEqProofs -dsimp only [go_sem, seval, *]; done) | omega))); (focus (first | trivial | with_reducible exact rfl | (simp (maxDischargeDepth := 9) -implicitDefEqProofs -dsimp only [go_sem, seval]; done)))))
    refine fin_eq ?_
    (repeat' (first | simp (maxDischargeDepth := 9) -implicitDefEqProofs -dsimp only [go_sem, seval, Int.natCast_one, *])) <;> (repeat' refine And.intro ?_ ?_) <;> (first | omega | rfl | assumption | skip)
  rw [if_neg o3] at hu
  have b3 : (op == 3) = false := by simp [o3]
  by_cases o4 : op = 4
  · rw [if_pos o4] at hu
    have c5 := fun τ => c3 ((a : Int) != 0) τ
    have e : ((a : Int) != 0).toNat = n1 (a ≠ 0) := by rw [← n1_dec]; congr 1; rw [Bool.eq_iff_iff, bne_iff_ne, decide_eq_true_eq]; omega
    rw [e] at c5
    subst hu o4
    clear c3 c4 hsub hneg hand e
    repeat' (first | simp (maxDischargeDepth := 9) -implicitDefEqProofs -dsimp only [go_sem, seval, *] | ((with_reducible refine Zt (fun oF hoF hnF hnF' => ?_)); (try simp only [upd_none, ne_eq, not_and] at hoF)) | ((with_reducible apply ACalls.one1); (focus ((first | with_reducible refine c1 _ | with_reducible refine c2 _ | with_reducible refine c5 _ | with_reducible refine ACalls.flA (c1 _) ?_ | with_reducible refine ACalls.flA (c2 _) ?_ | with_reducible refine ACalls.flA (c5 _) ?_) <;> (first | (simp (maxDischargeDepth := 9) -implicitDefEqProofs -dsimp only [go_sem, seval, *]; done) | omega))); (focus (first | trivial | with_reducible exact rfl | (simp (maxDischargeDepth := 9) -implicitDefEqProofs -dsimp only [go_sem, seval]; done)))))
    refine fin_eq ?_
    (repeat' (first | simp (maxDischargeDepth := 9) -implicitDefEqProofs -dsimp only [go_sem, seval, Int.natCast_one, *])) <;> (repeat' refine And.intro ?_ ?_) <;> (first | omega | rfl | assumption | skip)
  rw [if_neg o4] at hu
  have b4 : (op == 4) = false := by simp [o4]
  by_cases o5 : op = 5
  · rw [if_pos o5] at hu
    have c5 := fun τ => c3 (par a) τ
    subst hu o5
    clear c3 hsub hneg hand
    repeat' (first | simp (maxDischargeDepth := 9) -implicitDefEqProofs -dsimp only [go_sem, seval, *] | ((with_reducible refine Zt (fun oF hoF hnF hnF' => ?_)); (try simp only [upd_none, ne_eq, not_and] at hoF)) | ((with_reducible apply ACalls.one1); (focus ((first | with_reducible refine c1 _ | with_reducible refine c2 _ | with_reducible refine c4 _ | with_reducible refine c5 _ | with_reducible refine ACalls.flA (c1 _) ?_ | with_reducible refine ACalls.flA (c2 _) ?_ | with_reducible refine ACalls.flA (c4 _) ?_ | with_reducible refine ACalls.flA (c5 _) ?_) <;> (first | (simp (maxDischargeDepth := 9) -implicitDefEqProofs -dsimp only [go_sem, seval, *]; done) | omega))); (focus (first | trivial | with_reducible exact rfl | (simp (maxDischargeDepth := 9) -implicitDefEqProofs -dsimp only [go_sem, seval]; done)))))
    refine fin_eq ?_
    (repeat' (first | simp (maxDischargeDepth := 9) -implicitDefEqProofs -dsimp only [go_sem, seval, Int.natCast_one, *])) <;> (repeat' refine And.intro ?_ ?_) <;> (first | omega | rfl | assumption | skip)
  rw [if_neg o5] at hu
  have b5 : (op == 5) = false := by simp [o5]
  have o6 : op = 6 := by omega
  have hw1 := h6 o6
  have c5 := fun τ => c3 ((a : Int) == 0) τ
  have e : ((a : Int) == 0).toNat = n1 (a = 0) := by rw [← n1_dec]; congr 1; rw [Bool.eq_iff_iff, beq_iff_eq, decide_eq_true_eq]; omega
  rw [e] at c5
  subst hu o6 hw1
  clear c3 c4 hsub hneg hand e
  repeat' (first | simp (maxDischargeDepth := 9) -implicitDefEqProofs -dsimp only [go_sem, seval, Int.natCast_one, *] | ((with_reducible refine Zt (fun oF hoF hnF hnF' => ?_)); (try simp only [upd_none, ne_eq, not_and] at hoF)) | ((with_reducible apply ACalls.one1); (focus ((first | with_reducible refine c1 _ | with_reducible refine c2 _ | with_reducible refine c5 _ | with_reducible refine ACalls.flA (c1 _) ?_ | with_reducible refine ACalls.flA (c2 _) ?_ | with_reducible refine ACalls.flA (c5 _) ?_) <;> (first | (simp (maxDischargeDepth := 9) -implicitDefEqProofs -dsimp only [go_sem, seval, *]; done) | omega))); (focus (first | trivial | with_reducible exact rfl | (simp (maxDischargeDepth := 9) -implicitDefEqProofs -dsimp only [go_sem, seval]; done)))))
  refine fin_eq ?_
  (repeat' (first | simp (maxDischargeDepth := 9) -implicitDefEqProofs -dsimp only [go_sem, seval, Int.natCast_one, *])) <;> (repeat' refine And.intro ?_ ?_) <;> (first | omega | rfl | assumption | skip)
end Go.Proofs.Ytbbihmmobfmadaa

