/- blast: what is made of a word, and a choice, mean what is done with their values. -/
import Derived.Test.YtbbihmmobfmadaaSBlPair
set_option linter.unusedSimpArgs false
set_option linter.unusedVariables false
namespace Go.Proofs.Ytbbihmmobfmadaa
open Abs Fil Fil.Bl A
theorem word_vals {g : Aig} {a : List Int} {inp st : List Bool} (ho : Ok g) (hw : word g a = true) (hi : (inp.length : Int) = g.ins) (ht : st.length = g.flops.length) : a.length ≤ 64 ∧ 1 ≤ a.length ∧ ∀ l ∈ a, 0 ≤ l ∧ (l / 2).toNat < (Aig.vals (false :: (inp ++ st)) g.ands).length ∧ l ≤ 9223372036854775807 := by
  unfold word at hw
  simp only [Bool.and_eq_true, decide_eq_true_eq, List.all_eq_true] at hw
  refine ⟨hw.1.2, hw.1.1, fun l hl => ?_⟩
  have h := hw.2 l hl
  have hcb := ho.fine.cnt
  unfold Aig.lit Aig.litN at h
  simp only [Bool.and_eq_true, decide_eq_true_eq] at h
  rw [vals_length]
  unfold Aig.count at h hcb
  simp only [List.length_cons, List.length_append]
  omega
set_option maxRecDepth 20000 in
set_option maxHeartbeats 8000000 in
theorem pairs_ok (g : Aig) (op : Int) (a b : List Int) (inp st : List Bool) (σ : Sig) (hs : fewG g = true → Wf g) (ha : ∀ z ∈ a, I64 z) (hb : ∀ z ∈ b, I64 z) :
    ACalls Try.prog 3 [encAig g, .int .i64 op, encW a .no, encW b .no, .slice (inp.map encBool) .no, .slice (st.map encBool) .no] σ (fun r σ' => r = .ret (.bool true) ∧ σ' = σ) := by
  have z2 := fun τ => few2 g a b τ
  cases hF : (decide (a.length ≤ 8) && decide (b.length ≤ 8) && fewG g) with
  | false =>
    rw [hF] at z2
    clear hF hs ha hb
    refine calls_x mixed Try.func3 b3 n3 rfl q3 (by simp) ?_; unfold c3 r3
    repeat' (first | simp (maxDischargeDepth := 9) -implicitDefEqProofs -dsimp only [go_sem, seval, *] | ((with_reducible refine Zt (fun oF hoF hnF hnF' => ?_)); (try simp only [upd_none, ne_eq, not_and] at hoF)) | ((with_reducible apply ACalls.one1); (focus ((first | with_reducible refine law_live _ | with_reducible refine z2 _) <;> (first | (simp (maxDischargeDepth := 9) -implicitDefEqProofs -dsimp only [go_sem, seval, *]; done) | omega))); (focus (first | trivial | with_reducible exact rfl | (simp (maxDischargeDepth := 9) -implicitDefEqProofs -dsimp only [go_sem, seval]; done)))))
    refine fin_eq ?_
    (repeat' (first | simp (maxDischargeDepth := 9) -implicitDefEqProofs -dsimp only [go_sem, seval, *])) <;> (repeat' refine And.intro ?_ ?_) <;> (first | omega | rfl | assumption | skip)
  | true =>
    rw [hF] at z2
    simp only [Bool.and_eq_true, decide_eq_true_eq] at hF
    obtain ⟨⟨la, lb⟩, hg⟩ := hF
    have hs := hs hg
    unfold fewG at hg
    simp only [Bool.and_eq_true, decide_eq_true_eq] at hg
    obtain ⟨⟨⟨g1, g2⟩, g3⟩, g4⟩ := hg
    by_cases hi : (inp.length : Int) = g.ins
    case neg =>
      have hib : ((inp.length : Int) != g.ins) = true := by simpa using hi
      clear hs ha hb la lb hi
      refine calls_x mixed Try.func3 b3 n3 rfl q3 (by simp) ?_; unfold c3 r3
      repeat' (first | simp (maxDischargeDepth := 9) -implicitDefEqProofs -dsimp only [go_sem, seval, List.length_map, *] | ((with_reducible refine Zt (fun oF hoF hnF hnF' => ?_)); (try simp only [upd_none, ne_eq, not_and] at hoF)) | ((with_reducible apply ACalls.one1); (focus ((first | with_reducible refine law_live _ | with_reducible refine z2 _) <;> (first | (simp (maxDischargeDepth := 9) -implicitDefEqProofs -dsimp only [go_sem, seval, *]; done) | omega))); (focus (first | trivial | with_reducible exact rfl | (simp (maxDischargeDepth := 9) -implicitDefEqProofs -dsimp only [go_sem, seval]; done)))))
      refine fin_eq ?_
      (repeat' (first | simp (maxDischargeDepth := 9) -implicitDefEqProofs -dsimp only [go_sem, seval, *])) <;> (repeat' refine And.intro ?_ ?_) <;> (first | omega | rfl | assumption | skip)
    by_cases ht : st.length = g.flops.length
    case neg =>
      have hib : ((inp.length : Int) != g.ins) = false := by simpa using hi
      have htb : ((st.length : Int) != (g.flops.length : Int)) = true := by rw [bne_iff_ne]; omega
      clear hs ha hb la lb hi ht
      refine calls_x mixed Try.func3 b3 n3 rfl q3 (by simp) ?_; unfold c3 r3
      repeat' (first | simp (maxDischargeDepth := 9) -implicitDefEqProofs -dsimp only [go_sem, seval, List.length_map, *] | ((with_reducible refine Zt (fun oF hoF hnF hnF' => ?_)); (try simp only [upd_none, ne_eq, not_and] at hoF)) | ((with_reducible apply ACalls.one1); (focus ((first | with_reducible refine law_live _ | with_reducible refine z2 _) <;> (first | (simp (maxDischargeDepth := 9) -implicitDefEqProofs -dsimp only [go_sem, seval, *]; done) | omega))); (focus (first | trivial | with_reducible exact rfl | (simp (maxDischargeDepth := 9) -implicitDefEqProofs -dsimp only [go_sem, seval]; done)))))
      refine fin_eq ?_
      (repeat' (first | simp (maxDischargeDepth := 9) -implicitDefEqProofs -dsimp only [go_sem, seval, *])) <;> (repeat' refine And.intro ?_ ?_) <;> (first | omega | rfl | assumption | skip)
    have hib : ((inp.length : Int) != g.ins) = false := by simpa using hi
    have htb : ((st.length : Int) != (g.flops.length : Int)) = false := by rw [bne_eq_false_iff_eq]; omega
    have z3 := fun τ => bl_Bin g op a b .no .no τ hs ha hb (by omega) (by omega)
    have hl := pair_law (g := g) (op := op) (a := a) (b := b) inp st hs
    obtain ⟨⟨h, l, e⟩, hZ⟩ : ∃ Z, Bin g op a b = Z := ⟨_, rfl⟩
    rw [hZ] at z3 hl
    simp only at z3 hl
    by_cases he : e = 0
    case neg =>
      have he' : (e != 0) = true := by simpa using he
      clear hs ha hb la lb hi ht hl hZ he
      refine calls_x mixed Try.func3 b3 n3 rfl q3 (by simp) ?_; unfold c3 r3
      repeat' (first | simp (maxDischargeDepth := 9) -implicitDefEqProofs -dsimp only [go_sem, seval, List.length_map, *] | ((with_reducible refine Zt (fun oF hoF hnF hnF' => ?_)); (try simp only [upd_none, ne_eq, not_and] at hoF)) | ((with_reducible apply ACalls.one1); (focus ((first | with_reducible refine law_live _ | with_reducible refine z2 _ | with_reducible refine z3 _) <;> (first | (simp (maxDischargeDepth := 9) -implicitDefEqProofs -dsimp only [go_sem, seval, *]; done) | omega))); (focus (first | trivial | with_reducible exact rfl | (simp (maxDischargeDepth := 9) -implicitDefEqProofs -dsimp only [go_sem, seval]; done)))))
      refine fin_eq ?_
      (repeat' (first | simp (maxDischargeDepth := 9) -implicitDefEqProofs -dsimp only [go_sem, seval, *])) <;> (repeat' refine And.intro ?_ ?_) <;> (first | omega | rfl | assumption | skip)
    subst he
    obtain ⟨k1, k2, k3, k4, k5, k6, k7, k8, k9⟩ := hl rfl la lb hi ht
    have hih : (inp.length : Int) = h.ins := by rw [k2.ins]; exact hi
    have hth : st.length = h.flops.length := by rw [k2.flops]; exact ht
    have z4 := fun τ => ref_Nodes h inp st τ k1.wf
    have hN : h.Nodes inp st = (Aig.vals (false :: (inp ++ st)) h.ands, 0) := by
      unfold Aig.Nodes
      rw [if_neg (by have := k1.chk; omega), if_neg (by omega)]
    rw [hN] at z4
    simp only at z4
    have z5 := fun τ => law_extends g h l .no τ k2 k1 (by omega) k4
    obtain ⟨wa1, wa2, wa3⟩ := word_vals (inp := inp) (st := st) k1 k5 hih hth
    obtain ⟨wb1, wb2, wb3⟩ := word_vals (inp := inp) (st := st) k1 k6 hih hth
    obtain ⟨wl1, wl2, wl3⟩ := word_vals (inp := inp) (st := st) k1 k4 hih hth
    have hnl : (Aig.vals (false :: (inp ++ st)) h.ands).length ≤ 1000000 := by
      rw [vals_length]
      simp only [List.length_cons, List.length_append]
      omega
    unfold Aig.value at k9
    obtain ⟨N, hNe⟩ : ∃ N, Aig.vals (false :: (inp ++ st)) h.ands = N := ⟨_, rfl⟩
    rw [hNe] at z4 wa3 wb3 wl3 hnl k9
    have z6 := fun τ => law_value N a .no τ hnl wa1 wa3
    have z7 := fun τ => law_value N b .no τ hnl wb1 wb3
    have z8 := fun τ => law_value N l .no τ hnl wl1 wl3
    have hta := toN_lt (a.map (Aig.val N))
    have htb2 := toN_lt (b.map (Aig.val N))
    rw [List.length_map] at hta htb2
    have z9 := fun τ => rf_Bin op a.length (toN (a.map (Aig.val N))) b.length (toN (b.map (Aig.val N))) τ ⟨by omega, by omega⟩ hta ⟨by omega, by omega⟩ htb2 (by omega)
    have hR : binR op a.length (toN (a.map (Aig.val N))) (toN (b.map (Aig.val N))) = ((l.length, toN (l.map (Aig.val N))), 0) := by
      unfold binR
      rw [if_pos (by omega)]
      exact congrArg (fun x => (x, (0 : Int))) k9.symm
    rw [hR] at z9
    simp only at z9
    obtain ⟨A1, hA1⟩ : ∃ A, toN (a.map (Aig.val N)) = A := ⟨_, rfl⟩
    obtain ⟨B1, hB1⟩ : ∃ A, toN (b.map (Aig.val N)) = A := ⟨_, rfl⟩
    obtain ⟨L1, hL1⟩ : ∃ A, toN (l.map (Aig.val N)) = A := ⟨_, rfl⟩
    rw [hA1] at z6 z9
    rw [hB1] at z7 z9
    rw [hL1] at z8 z9
    clear hs ha hb la lb hi ht hZ hl k1 k2 k3 k4 k5 k6 k7 k8 k9 hih hth hN wa1 wa2 wa3 wb1 wb2 wb3 wl1 wl2 wl3 hnl hNe hta htb2 hR hA1 hB1 hL1 g1 g2 g3 g4
    refine calls_x mixed Try.func3 b3 n3 rfl q3 (by simp) ?_; unfold c3 r3
    repeat' (first | simp (maxDischargeDepth := 9) -implicitDefEqProofs -dsimp only [go_sem, seval, List.length_map, *] | ((with_reducible refine Zt (fun oF hoF hnF hnF' => ?_)); (try simp only [upd_none, ne_eq, not_and] at hoF)) | ((with_reducible apply ACalls.one1); (focus ((first | with_reducible refine law_live _ | with_reducible refine z2 _ | with_reducible refine z3 _ | with_reducible refine z4 _ | with_reducible refine z5 _ | with_reducible refine z6 _ | with_reducible refine z7 _ | with_reducible refine z8 _ | with_reducible refine z9 _) <;> (first | (simp (maxDischargeDepth := 9) -implicitDefEqProofs -dsimp only [go_sem, seval, *]; done) | omega))); (focus (first | trivial | with_reducible exact rfl | (simp (maxDischargeDepth := 9) -implicitDefEqProofs -dsimp only [go_sem, seval]; done)))) | ((with_reducible apply id_one0); (focus (intro tS hS; ((first | with_reducible refine law_live _ | with_reducible refine z2 _ | with_reducible refine z3 _ | with_reducible refine z4 _ | with_reducible refine z5 _ | with_reducible refine z6 _ | with_reducible refine z7 _ | with_reducible refine z8 _ | with_reducible refine z9 _) <;> (first | (simp (maxDischargeDepth := 9) -implicitDefEqProofs -dsimp only [go_sem, seval, *]; done) | omega | ((with_reducible refine Sub.get hS ?_); simp (maxDischargeDepth := 9) -implicitDefEqProofs -dsimp only [go_sem, seval, *]; done))))); (focus (first | trivial | (simp (maxDischargeDepth := 9) -implicitDefEqProofs -dsimp only [go_sem, seval, *]; done)))))
    refine fin_eq ?_
    (repeat' (first | simp (maxDischargeDepth := 9) -implicitDefEqProofs -dsimp only [go_sem, seval, *])) <;> (repeat' refine And.intro ?_ ?_) <;> (first | omega | rfl | assumption | skip)
end Go.Proofs.Ytbbihmmobfmadaa

namespace Fil.Bl
open Abs
theorem unN_fst (op : Int) (w a : Nat) : (unN op w a).1 ≤ w + 1 := by
  have key : ∀ {c : Prop} [Decidable c] {x y : Nat × Nat}, x.1 ≤ w + 1 → y.1 ≤ w + 1 → (if c then x else y).1 ≤ w + 1 := by
    intro c _ x y h1 h2
    split <;> assumption
  unfold unN
  repeat' (first | exact Nat.le_succ w | exact Nat.le_add_left 1 w | refine key ?_ ?_)
theorem unN_pos (op : Int) {w : Nat} (a : Nat) (h : 1 ≤ w) : 1 ≤ (unN op w a).1 := by
  have key : ∀ {c : Prop} [Decidable c] {x y : Nat × Nat}, 1 ≤ x.1 → 1 ≤ y.1 → 1 ≤ (if c then x else y).1 := by
    intro c _ x y h1 h2
    split <;> assumption
  unfold unN
  repeat' (first | exact h | exact Nat.le_refl 1 | refine key ?_ ?_)
theorem un_law {g : Aig} {op : Int} {a : List Int} (inp st : List Bool) (hs : Wf g) (h : (Un g op a).2.2 = 0) (ha : a.length ≤ 8) (hi : (inp.length : Int) = g.ins) (ht : st.length = g.flops.length) :
    Ok (Un g op a).1 ∧ Fil.Ext g (Un g op a).1 ∧ (Un g op a).1.ands.length ≤ g.ands.length + 1300 ∧ word (Un g op a).1 (Un g op a).2.1 = true ∧ word (Un g op a).1 a = true ∧ (1 ≤ op ∧ op ≤ 6 ∧ (op = 6 → a.length = 1)) ∧ (Un g op a).2.1.length ≤ 9 ∧
      ((Un g op a).2.1.length, toN ((Un g op a).2.1.map fun z => (Un g op a).1.value z inp st)) = unN op a.length (toN (a.map fun z => (Un g op a).1.value z inp st)) := by
  obtain ⟨h0, hm, he, hr⟩ := made_ok h
  have hr : Un g op a = (((unP op a).run ⟨g, 0⟩).2.g, ((unP op a).run ⟨g, 0⟩).1, 0) := hr
  rw [hr]
  obtain ⟨k1, k2⟩ := run_ok (unP op a) ⟨g, 0⟩ hs ⟨hs, h0⟩ he
  have hm' := hm
  unfold mayUn at hm'
  simp only [Bool.and_eq_true, decide_eq_true_eq] at hm'
  have hm2 := hm'
  unfold word at hm2
  simp only [Bool.and_eq_true, decide_eq_true_eq, List.all_eq_true] at hm2
  obtain ⟨⟨⟨a1, a2⟩, a3⟩, c1, c2, c3⟩ := hm2
  have hww : ∀ {l : List Int}, (∀ x ∈ l, g.lit x = true) → Ws (fun z => ((unP op a).run ⟨g, 0⟩).2.g.lit z = true) l := fun {l} hl x hx => k2.lit (hl x hx)
  obtain ⟨n, hn, hle⟩ := run_sem (inp := inp) (st := st) (unP op a) ⟨g, 0⟩ _ hs hi ht he (.refl _)
    (un_wp (lits_of k1 _ _) (hww a3) ⟨c1, c2⟩ a1 a2 (by omega))
  have h3 := hn.1
  have hle : ((unP op a).run ⟨g, 0⟩).2.g.ands.length ≤ g.ands.length + 3 * n := hle
  have hfst := congrArg Prod.fst hn.2.2
  simp only at hfst
  have hf1 := unN_fst op a.length (toN (a.map fun z => ((unP op a).run ⟨g, 0⟩).2.g.value z inp st))
  have hf2 : 1 ≤ ((unP op a).run ⟨g, 0⟩).1.length := by
    rw [hfst]
    exact unN_pos op _ a1
  refine ⟨k1, k2, by show ((unP op a).run ⟨g, 0⟩).2.g.ands.length ≤ _; omega, ?_, word_ext k2 hm'.1, ⟨c1, c2, by omega⟩, by show ((unP op a).run ⟨g, 0⟩).1.length ≤ 9; omega, hn.2.2⟩
  unfold word
  simp only [Bool.and_eq_true, decide_eq_true_eq, List.all_eq_true]
  exact ⟨⟨by omega, by omega⟩, hn.2.1⟩
theorem cond_law {g : Aig} {c : Int} {a b : List Int} (inp st : List Bool) (hs : Wf g) (h : (Cond g c a b).2.2 = 0) (ha : a.length ≤ 8) (hi : (inp.length : Int) = g.ins) (ht : st.length = g.flops.length) :
    Ok (Cond g c a b).1 ∧ Fil.Ext g (Cond g c a b).1 ∧ (Cond g c a b).1.ands.length ≤ g.ands.length + 1300 ∧ word (Cond g c a b).1 (Cond g c a b).2.1 = true ∧ word (Cond g c a b).1 a = true ∧ word (Cond g c a b).1 b = true ∧ word (Cond g c a b).1 [c] = true ∧ a.length = b.length ∧
      (Cond g c a b).2.1.length = a.length ∧ toN ((Cond g c a b).2.1.map fun z => (Cond g c a b).1.value z inp st) = if (Cond g c a b).1.value c inp st then toN (a.map fun z => (Cond g c a b).1.value z inp st) else toN (b.map fun z => (Cond g c a b).1.value z inp st) := by
  obtain ⟨h0, hm, he, hr⟩ := made_ok h
  have hr : Cond g c a b = (((condP c a b).run ⟨g, 0⟩).2.g, ((condP c a b).run ⟨g, 0⟩).1, 0) := hr
  rw [hr]
  obtain ⟨k1, k2⟩ := run_ok (condP c a b) ⟨g, 0⟩ hs ⟨hs, h0⟩ he
  have hm' := hm
  unfold mayCond at hm'
  simp only [Bool.and_eq_true, decide_eq_true_eq] at hm'
  have hm2 := hm'
  unfold word at hm2
  simp only [Bool.and_eq_true, decide_eq_true_eq, List.all_eq_true] at hm2
  obtain ⟨⟨⟨⟨⟨a1, a2⟩, a3⟩, ⟨b1, b2⟩, b3⟩, ⟨_, c3⟩⟩, c4⟩ := hm2
  have hww : ∀ {l : List Int}, (∀ x ∈ l, g.lit x = true) → Ws (fun z => ((condP c a b).run ⟨g, 0⟩).2.g.lit z = true) l := fun {l} hl x hx => k2.lit (hl x hx)
  obtain ⟨n, hn, hle⟩ := run_sem (inp := inp) (st := st) (condP c a b) ⟨g, 0⟩ _ hs hi ht he (.refl _)
    (cond_wp (lits_of k1 _ _) (k2.lit (c3 c (by simp))) (hww a3) (hww b3) c4)
  have h3 := hn.1
  have hle : ((condP c a b).run ⟨g, 0⟩).2.g.ands.length ≤ g.ands.length + 3 * n := hle
  have hlen := hn.2.2.1
  refine ⟨k1, k2, by show ((condP c a b).run ⟨g, 0⟩).2.g.ands.length ≤ _; omega, ?_, word_ext k2 hm'.1.1.1, word_ext k2 hm'.1.1.2, word_ext k2 hm'.1.2, c4, hlen, hn.2.2.2⟩
  unfold word
  simp only [Bool.and_eq_true, decide_eq_true_eq, List.all_eq_true]
  exact ⟨⟨by omega, by omega⟩, hn.2.1⟩
theorem toN_rep (b : Bool) : ∀ k, toN (List.replicate k b) = if b then 2 ^ k - 1 else 0
  | 0 => by cases b <;> simp [toN]
  | k + 1 => by
    rw [List.replicate_succ, toN, toN_rep b k]
    cases b with
    | false => simp
    | true =>
      have := Nat.two_pow_pos k
      simp only [Bool.toNat_true, if_true, Nat.pow_succ]
      omega
theorem toN_tk (l : List Bool) (n : Nat) (h : n ≤ l.length) : toN (l.take n) = toN l % 2 ^ n := by
  have e := List.take_append_drop n l
  have h1 := toN_app (l.take n) (l.drop n)
  rw [e, List.length_take, Nat.min_eq_left h] at h1
  have h2 := toN_lt (l.take n)
  rw [List.length_take, Nat.min_eq_left h] at h2
  rw [h1, Nat.add_mul_mod_self_left, Nat.mod_eq_of_lt h2]
def extP (op : Int) (w v a : Nat) : Nat := if op = 31 then a else if op = 32 then (if a / 2 ^ (v - 1) = 1 then a ||| ((2 ^ w - 1) - (2 ^ v - 1)) else a) else a % 2 ^ w
theorem ext_val (V : Int → Bool) (v0 : V 0 = false) {op : Int} {w : Nat} {a : List Int} (h1 : 1 ≤ a.length) (ho : (op = 31 ∨ op = 32) ∧ a.length ≤ w ∨ op = 33 ∧ w ≤ a.length) :
    (extW op w a).length = w ∧ toN ((extW op w a).map V) = extP op w a.length (toN (a.map V)) := by
  rcases ho with ⟨h31 | h32, hle⟩ | ⟨h33, hle⟩
  · subst h31
    have e : extW 31 w a = a ++ List.replicate (w - a.length) 0 := by unfold extW; rw [if_neg (by decide), if_neg (by decide)]; simp
    rw [e]
    refine ⟨by simp; omega, ?_⟩
    rw [List.map_append, toN_app, List.map_replicate, v0, toN_rep]
    simp [extP]
  · subst h32
    have e : extW 32 w a = a ++ List.replicate (w - a.length) (gt a (a.length - 1)) := by unfold extW; rw [if_neg (by decide), if_pos rfl]; simp
    rw [e]
    refine ⟨by simp; omega, ?_⟩
    rw [List.map_append, toN_app, List.map_replicate, toN_rep, List.length_map]
    have htop : toN (a.map V) / 2 ^ (a.length - 1) = (V (gt a (a.length - 1))).toNat := by
      have hne : a ≠ [] := by intro h; rw [h] at h1; simp at h1
      have hl : a = a.dropLast ++ [a.getLast hne] := (List.dropLast_concat_getLast hne).symm
      have hg : gt a (a.length - 1) = a.getLast hne := by rw [gt_lt (by omega), List.getLast_eq_getElem]
      rw [hg]
      have hs : toN (a.map V) = toN (a.dropLast.map V) + 2 ^ (a.length - 1) * (V (a.getLast hne)).toNat := by
        conv => lhs; rw [hl]
        rw [List.map_append, List.map_cons, List.map_nil, toN_snoc, List.length_map, List.length_dropLast]
      have hlt := toN_lt (a.dropLast.map V)
      rw [List.length_map, List.length_dropLast] at hlt
      rw [hs, Nat.add_mul_div_left _ _ (Nat.two_pow_pos _), Nat.div_eq_of_lt hlt, Nat.zero_add]
    have hlt := toN_lt (a.map V)
    rw [List.length_map] at hlt
    have e3 : extP 32 w a.length (toN (a.map V)) = (if toN (a.map V) / 2 ^ (a.length - 1) = 1 then toN (a.map V) ||| ((2 ^ w - 1) - (2 ^ a.length - 1)) else toN (a.map V)) := rfl
    rw [e3, htop]
    cases hb : V (gt a (a.length - 1)) with
    | false => simp
    | true =>
      simp only [Bool.toNat_true, if_true]
      have hp : 2 ^ w = 2 ^ a.length * 2 ^ (w - a.length) := by rw [← Nat.pow_add]; congr 1; omega
      have hor := Nat.two_pow_add_eq_or_of_lt hlt (2 ^ (w - a.length) - 1)
      have h2 := Nat.two_pow_pos a.length
      have h3 := Nat.two_pow_pos (w - a.length)
      have e2 : 2 ^ w - 1 - (2 ^ a.length - 1) = 2 ^ a.length * (2 ^ (w - a.length) - 1) := by
        rw [Nat.mul_sub, ← hp, Nat.mul_one]
        omega
      rw [e2, Nat.or_comm, ← hor, Nat.add_comm]
  · subst h33
    have e : extW 33 w a = a.take w := by unfold extW; rw [if_pos rfl]; simp
    rw [e]
    refine ⟨by simp; omega, ?_⟩
    rw [List.map_take, toN_tk _ _ (by simp; omega)]
    simp [extP]
theorem ext_law {g : Aig} {op w : Int} {a : List Int} (inp st : List Bool) (hs : Wf g) (h : (Ext g op w a).2.2 = 0) (hw20 : w ≤ 20) (ha : a.length ≤ 8) :
    Ext g op w a = (g, extW op w a, 0) ∧ Ok g ∧ word g (extW op w a) = true ∧ word g a = true ∧ 1 ≤ w ∧ ((op = 31 ∨ op = 32) ∧ a.length ≤ w.toNat ∨ op = 33 ∧ w.toNat ≤ a.length) ∧
      (extW op w a).length = w.toNat ∧ toN ((extW op w a).map fun z => g.value z inp st) = extP op w.toNat a.length (toN (a.map fun z => g.value z inp st)) := by
  obtain ⟨h0, hm, he, hr⟩ := made_ok h
  have hm' := hm
  unfold mayExt at hm'
  simp only [Bool.and_eq_true, decide_eq_true_eq] at hm'
  obtain ⟨hwd, c1, c2, c3, c4, c5⟩ := hm'
  have hwd2 := hwd
  unfold word at hwd2
  simp only [Bool.and_eq_true, decide_eq_true_eq, List.all_eq_true] at hwd2
  obtain ⟨⟨a1, a2⟩, a3⟩ := hwd2
  obtain ⟨n, rfl⟩ : ∃ n : Nat, w = n := ⟨w.toNat, by omega⟩
  simp only [Int.toNat_natCast]
  have hn : (op = 31 ∨ op = 32) ∧ a.length ≤ n ∨ op = 33 ∧ n ≤ a.length := by
    rcases c5 with m8 | m8
    · omega
    · by_cases h33 : op = 33
      · exact .inr ⟨h33, by have := m8.2 h33; omega⟩
      · refine .inl ⟨by omega, ?_⟩
        have := fun h => h33 (m8.1 h)
        omega
  have hok : Ok g := ⟨hs, h0⟩
  obtain ⟨e1, e2⟩ := ext_val (fun z => g.value z inp st) (value01 g inp st).1 a1 hn
  refine ⟨hr, hok, ?_, hwd, c1, hn, e1, e2⟩
  have hL := lits_of hok inp st
  unfold word
  simp only [Bool.and_eq_true, decide_eq_true_eq, List.all_eq_true]
  refine ⟨⟨by omega, by omega⟩, fun x hx => ?_⟩
  unfold extW at hx
  split at hx
  · exact a3 x (List.mem_of_mem_take hx)
  · rcases List.mem_append.1 hx with hx | hx
    · exact a3 x hx
    · rw [(List.mem_replicate.1 hx).2]
      split
      · rw [gt_lt (by omega)]; exact a3 _ (List.getElem_mem _)
      · exact hL.w0
end Fil.Bl

namespace Go.Proofs.Ytbbihmmobfmadaa
open Abs Fil Fil.Bl A
theorem nodes_at {h : Aig} {inp st : List Bool} (ho : Ok h) (hi : (inp.length : Int) = h.ins) (ht : st.length = h.flops.length) (τ : Sig) :
    ACalls Try.prog 10 [encAig h, .slice (inp.map encBool) .no, .slice (st.map encBool) .no] τ (fun r σ' => r = .ret (.tup [.slice ((Aig.vals (false :: (inp ++ st)) h.ands).map encBool) .no, .int .i64 0]) ∧ σ' = τ) := by
  have z := ref_Nodes h inp st τ ho.wf
  have hN : h.Nodes inp st = (Aig.vals (false :: (inp ++ st)) h.ands, 0) := by
    unfold Aig.Nodes
    rw [if_neg (by have := ho.chk; omega), if_neg (by omega)]
  rw [hN] at z
  exact z
theorem value_at {h : Aig} {a : List Int} {inp st : List Bool} (ho : Ok h) (hw : word h a = true) (hi : (inp.length : Int) = h.ins) (ht : st.length = h.flops.length) (t : Tok) (τ : Sig) :
    ACalls Try.prog 13 [.slice ((Aig.vals (false :: (inp ++ st)) h.ands).map encBool) .no, encW a t] τ (fun r σ' => r = .ret (encB a.length (toN (a.map fun z => h.value z inp st))) ∧ σ' = τ) := by
  obtain ⟨wa1, wa2, wa3⟩ := word_vals (inp := inp) (st := st) ho hw hi ht
  have hsm := ho.fine.cnt
  have hlo := ho.fine.lo
  have hnl : (Aig.vals (false :: (inp ++ st)) h.ands).length ≤ 1000000 := by
    rw [vals_length]
    unfold Aig.count at hsm
    simp only [List.length_cons, List.length_append]
    omega
  exact law_value _ a t τ hnl wa1 wa3
theorem word_len {h : Aig} {a : List Int} (hw : word h a = true) : 1 ≤ a.length ∧ a.length ≤ 64 := by
  unfold word at hw
  simp only [Bool.and_eq_true, decide_eq_true_eq] at hw
  omega
theorem toN_lt' (a : List Int) (V : Int → Bool) : toN (a.map V) < 2 ^ a.length := by
  have := toN_lt (a.map V)
  rwa [List.length_map] at this
set_option maxRecDepth 20000 in
set_option maxHeartbeats 16000000 in
theorem singles_ok (g : Aig) (op : Int) (a b : List Int) (c w : Int) (inp st : List Bool) (σ : Sig) (hs : fewG g = true → Wf g) (ha : ∀ z ∈ a, I64 z) (hb : ∀ z ∈ b, I64 z) (hc : I64 c) (hwi : I64 w) :
    ACalls Try.prog 6 [encAig g, .int .i64 op, encW a .no, encW b .no, .int .i64 c, .int .i64 w, .slice (inp.map encBool) .no, .slice (st.map encBool) .no] σ (fun r σ' => r = .ret (.bool true) ∧ σ' = σ) := by
  have z2 := fun τ => few2 g a b τ
  cases hF : (decide (a.length ≤ 8) && decide (b.length ≤ 8) && fewG g) with
  | false =>
    rw [hF] at z2
    clear hF hs ha hb
    refine calls_x mixed Try.func6 b6 n6 rfl q6 (by simp) ?_; unfold c6 r6
    repeat' (first | simp (maxDischargeDepth := 9) -implicitDefEqProofs -dsimp only [go_sem, seval, *] | (with_reducible (first | apply Zf) <;> intro hq) | ((with_reducible refine Zt (fun oF hoF hnF hnF' => ?_)); (try simp only [upd_none, ne_eq, not_and] at hoF)) | ((with_reducible apply ACalls.one1); (focus ((first | with_reducible refine law_live _ | with_reducible refine z2 _) <;> (first | (simp (maxDischargeDepth := 9) -implicitDefEqProofs -dsimp only [go_sem, seval, *]; done) | omega))); (focus (first | trivial | with_reducible exact rfl | (simp (maxDischargeDepth := 9) -implicitDefEqProofs -dsimp only [go_sem, seval]; done)))))
    refine fin_eq ?_
    (repeat' (first | simp (maxDischargeDepth := 9) -implicitDefEqProofs -dsimp only [go_sem, seval, *])) <;> (repeat' refine And.intro ?_ ?_) <;> (first | omega | rfl | assumption | skip)
  | true =>
    rw [hF] at z2
    simp only [Bool.and_eq_true, decide_eq_true_eq] at hF
    obtain ⟨⟨la, lb⟩, hg⟩ := hF
    have hs := hs hg
    unfold fewG at hg
    simp only [Bool.and_eq_true, decide_eq_true_eq] at hg
    obtain ⟨⟨⟨g1, g2⟩, g3⟩, g4⟩ := hg
    by_cases h20 : 20 < w
    · clear hs ha hb la lb
      refine calls_x mixed Try.func6 b6 n6 rfl q6 (by simp) ?_; unfold c6 r6
      repeat' (first | simp (maxDischargeDepth := 9) -implicitDefEqProofs -dsimp only [go_sem, seval, gt_iff_lt, *] | (with_reducible (first | apply Zf) <;> intro hq) | ((with_reducible refine Zt (fun oF hoF hnF hnF' => ?_)); (try simp only [upd_none, ne_eq, not_and] at hoF)) | ((with_reducible apply ACalls.one1); (focus ((first | with_reducible refine law_live _ | with_reducible refine z2 _) <;> (first | (simp (maxDischargeDepth := 9) -implicitDefEqProofs -dsimp only [go_sem, seval, *]; done) | omega))); (focus (first | trivial | with_reducible exact rfl | (simp (maxDischargeDepth := 9) -implicitDefEqProofs -dsimp only [go_sem, seval]; done)))))
      refine fin_eq ?_
      (repeat' (first | simp (maxDischargeDepth := 9) -implicitDefEqProofs -dsimp only [go_sem, seval, *])) <;> (repeat' refine And.intro ?_ ?_) <;> (first | omega | rfl | assumption | skip)
    by_cases hi : (inp.length : Int) = g.ins
    case neg =>
      have hib : ((inp.length : Int) != g.ins) = true := by simpa using hi
      clear hs ha hb la lb hi
      refine calls_x mixed Try.func6 b6 n6 rfl q6 (by simp) ?_; unfold c6 r6
      repeat' (first | simp (maxDischargeDepth := 9) -implicitDefEqProofs -dsimp only [go_sem, seval, gt_iff_lt, List.length_map, *] | (with_reducible (first | apply Zf) <;> intro hq) | ((with_reducible refine Zt (fun oF hoF hnF hnF' => ?_)); (try simp only [upd_none, ne_eq, not_and] at hoF)) | ((with_reducible apply ACalls.one1); (focus ((first | with_reducible refine law_live _ | with_reducible refine z2 _) <;> (first | (simp (maxDischargeDepth := 9) -implicitDefEqProofs -dsimp only [go_sem, seval, *]; done) | omega))); (focus (first | trivial | with_reducible exact rfl | (simp (maxDischargeDepth := 9) -implicitDefEqProofs -dsimp only [go_sem, seval]; done)))))
      refine fin_eq ?_
      (repeat' (first | simp (maxDischargeDepth := 9) -implicitDefEqProofs -dsimp only [go_sem, seval, *])) <;> (repeat' refine And.intro ?_ ?_) <;> (first | omega | rfl | assumption | skip)
    by_cases ht : st.length = g.flops.length
    case neg =>
      have hib : ((inp.length : Int) != g.ins) = false := by simpa using hi
      have htb : ((st.length : Int) != (g.flops.length : Int)) = true := by rw [bne_iff_ne]; omega
      clear hs ha hb la lb hi ht
      refine calls_x mixed Try.func6 b6 n6 rfl q6 (by simp) ?_; unfold c6 r6
      repeat' (first | simp (maxDischargeDepth := 9) -implicitDefEqProofs -dsimp only [go_sem, seval, gt_iff_lt, List.length_map, *] | (with_reducible (first | apply Zf) <;> intro hq) | ((with_reducible refine Zt (fun oF hoF hnF hnF' => ?_)); (try simp only [upd_none, ne_eq, not_and] at hoF)) | ((with_reducible apply ACalls.one1); (focus ((first | with_reducible refine law_live _ | with_reducible refine z2 _) <;> (first | (simp (maxDischargeDepth := 9) -implicitDefEqProofs -dsimp only [go_sem, seval, *]; done) | omega))); (focus (first | trivial | with_reducible exact rfl | (simp (maxDischargeDepth := 9) -implicitDefEqProofs -dsimp only [go_sem, seval]; done)))))
      refine fin_eq ?_
      (repeat' (first | simp (maxDischargeDepth := 9) -implicitDefEqProofs -dsimp only [go_sem, seval, *])) <;> (repeat' refine And.intro ?_ ?_) <;> (first | omega | rfl | assumption | skip)
    have hib : ((inp.length : Int) != g.ins) = false := by simpa using hi
    have htb : ((st.length : Int) != (g.flops.length : Int)) = false := by rw [bne_eq_false_iff_eq]; omega
    have z3 := fun τ => bl_Un g op a .no τ hs ha (by omega)
    have z4 := fun τ => bl_Ext g op w a .no τ hs (by omega)
    have z5 := fun τ => bl_Cond g c a b .no .no τ hs hc ha hb (by omega) (by omega)
    have l1 := un_law (g := g) (op := op) (a := a) inp st hs
    have l2 := ext_law (g := g) (op := op) (w := w) (a := a) inp st hs
    have l3 := cond_law (g := g) (c := c) (a := a) (b := b) inp st hs
    obtain ⟨⟨h1, w1, e1⟩, hZ1⟩ : ∃ Z, Un g op a = Z := ⟨_, rfl⟩
    rw [hZ1] at z3 l1
    obtain ⟨⟨h2, w2, e2⟩, hZ2⟩ : ∃ Z, Bl.Ext g op w a = Z := ⟨_, rfl⟩
    rw [hZ2] at z4 l2
    obtain ⟨⟨h3, w3, e3⟩, hZ3⟩ : ∃ Z, Cond g c a b = Z := ⟨_, rfl⟩
    rw [hZ3] at z5 l3
    simp only at z3 l1 z4 l2 z5 l3
    have m1 := fun (p : (e1 == 0) = true) => l1 (by simpa using p) la hi ht
    have m2 := fun (p : (e2 == 0) = true) => l2 (by simpa using p) (by omega) la
    have m3 := fun (p : (e3 == 0) = true) => l3 (by simpa using p) la hi ht
    have hih1 := fun p => show (inp.length : Int) = h1.ins by rw [(m1 p).2.1.ins]; exact hi
    have hth1 := fun p => show st.length = h1.flops.length by rw [(m1 p).2.1.flops]; exact ht
    have hih3 := fun p => show (inp.length : Int) = h3.ins by rw [(m3 p).2.1.ins]; exact hi
    have hth3 := fun p => show st.length = h3.flops.length by rw [(m3 p).2.1.flops]; exact ht
    have u1 := fun p τ => nodes_at (m1 p).1 (hih1 p) (hth1 p) τ
    have u2 := fun p τ => value_at (m1 p).1 (m1 p).2.2.2.2.1 (hih1 p) (hth1 p) .no τ
    have u3 := fun p τ => value_at (m1 p).1 (m1 p).2.2.2.1 (hih1 p) (hth1 p) .no τ
    have u5 := fun p τ => law_extends g h1 w1 .no τ (m1 p).2.1 (m1 p).1 (by have := (m1 p).2.2.1; omega) (m1 p).2.2.2.1
    have v1 := fun p τ => nodes_at (m3 p).1 (hih3 p) (hth3 p) τ
    have v2 := fun p τ => value_at (m3 p).1 (m3 p).2.2.2.2.1 (hih3 p) (hth3 p) .no τ
    have v3 := fun p τ => value_at (m3 p).1 (m3 p).2.2.2.1 (hih3 p) (hth3 p) .no τ
    have v4 := fun p τ => value_at (m3 p).1 (m3 p).2.2.2.2.2.1 (hih3 p) (hth3 p) .no τ
    have v5 := fun p τ => law_extends g h3 w3 .no τ (m3 p).2.1 (m3 p).1 (by have := (m3 p).2.2.1; omega) (m3 p).2.2.2.1
    have u4 : (e1 == 0) = true → ∀ τ, ACalls Try.prog 21 [.int .i64 op, encB a.length (toN (a.map fun z => h1.value z inp st))] τ (fun r σ' => r = .ret (.tup [encB w1.length (toN (w1.map fun z => h1.value z inp st)), .int .i64 0]) ∧ σ' = τ) := fun p τ => by
      have hal := word_len (m1 p).2.2.2.2.1
      have hop := (m1 p).2.2.2.2.2.1
      have z := rf_Un op a.length _ τ hal (toN_lt' a fun z => h1.value z inp st) ⟨hop.1, hop.2.1⟩ hop.2.2
      rw [← (m1 p).2.2.2.2.2.2.2] at z
      exact z
    have v6 : (e3 == 0) = true → ∀ τ, ACalls Try.prog 13 [.slice ((Aig.vals (false :: (inp ++ st)) h3.ands).map encBool) .no, .slice [.int .i64 c] .full] τ (fun r σ' => r = .ret (encB 1 (h3.value c inp st).toNat) ∧ σ' = τ) := fun p τ => by
      have z := value_at (m3 p).1 (m3 p).2.2.2.2.2.2.1 (hih3 p) (hth3 p) .full τ
      rw [show toN ([c].map fun z => h3.value z inp st) = (h3.value c inp st).toNat by simp [toN]] at z
      exact z
    have v7 : (e3 == 0) = true → ∀ τ, ACalls Try.prog 23 [encB 1 (h3.value c inp st).toNat, encB a.length (toN (a.map fun z => h3.value z inp st)), encB b.length (toN (b.map fun z => h3.value z inp st))] τ (fun r σ' => r = .ret (.tup [encB w3.length (toN (w3.map fun z => h3.value z inp st)), .int .i64 0]) ∧ σ' = τ) := fun p τ => by
      have hal := word_len (m3 p).2.2.2.2.1
      obtain ⟨q1, q2, q3⟩ := (m3 p).2.2.2.2.2.2.2
      have hbl := toN_lt' b fun z => h3.value z inp st
      rw [← q1] at hbl
      have z := rf_Cond (h3.value c inp st).toNat a.length (toN (a.map fun z => h3.value z inp st)) (toN (b.map fun z => h3.value z inp st)) τ (Bool.toNat_le _) hal (toN_lt' a fun z => h3.value z inp st) hbl
      rw [show (if (h3.value c inp st).toNat = 1 then toN (a.map fun z => h3.value z inp st) else toN (b.map fun z => h3.value z inp st)) = toN (w3.map fun z => h3.value z inp st) by rw [q3]; cases h3.value c inp st <;> simp] at z
      rw [q2, ← q1]
      exact z
    have n1 : (e2 == 0) = true → h2 = g := fun p => congrArg Prod.fst (m2 p).1
    have n2 : (e2 == 0) = true → w2 = extW op w a := fun p => congrArg (fun x => x.2.1) (m2 p).1
    have t1 : (e2 == 0) = true → ∀ τ, ACalls Try.prog 10 [encAig h2, .slice (inp.map encBool) .no, .slice (st.map encBool) .no] τ (fun r σ' => r = .ret (.tup [.slice ((Aig.vals (false :: (inp ++ st)) h2.ands).map encBool) .no, .int .i64 0]) ∧ σ' = τ) := fun p τ => by
      rw [n1 p]; exact nodes_at (m2 p).2.1 hi ht τ
    have t2 : (e2 == 0) = true → ∀ τ, ACalls Try.prog 13 [.slice ((Aig.vals (false :: (inp ++ st)) h2.ands).map encBool) .no, encW a .no] τ (fun r σ' => r = .ret (encB a.length (toN (a.map fun z => h2.value z inp st))) ∧ σ' = τ) := fun p τ => by
      rw [n1 p]; exact value_at (m2 p).2.1 (m2 p).2.2.2.1 hi ht .no τ
    have t3 : (e2 == 0) = true → ∀ τ, ACalls Try.prog 13 [.slice ((Aig.vals (false :: (inp ++ st)) h2.ands).map encBool) .no, encW w2 .no] τ (fun r σ' => r = .ret (encB w2.length (toN (w2.map fun z => h2.value z inp st))) ∧ σ' = τ) := fun p τ => by
      rw [n1 p, n2 p]; exact value_at (m2 p).2.1 (m2 p).2.2.1 hi ht .no τ
    have t5 : (e2 == 0) = true → ∀ τ, ACalls Try.prog 11 [encAig g, encAig h2, encW w2 .no] τ (fun r σ' => r = .ret (.bool true) ∧ σ' = τ) := fun p τ => by
      rw [n1 p, n2 p]; exact law_extends g g (extW op w a) .no τ (.refl _) (m2 p).2.1 (by omega) (m2 p).2.2.1
    have t4 : (e2 == 0) = true → ∀ τ, ACalls Try.prog 22 [.int .i64 op, .int .i64 w, encB a.length (toN (a.map fun z => h2.value z inp st))] τ (fun r σ' => r = .ret (.tup [encB w2.length (toN (w2.map fun z => h2.value z inp st)), .int .i64 0]) ∧ σ' = τ) := fun p τ => by
      obtain ⟨_, _, _, q4, q5, q6, q7, q8⟩ := m2 p
      have hal := word_len q4
      have hwn : ((w.toNat : Nat) : Int) = w := by omega
      have z := rf_Ext op w.toNat a.length (toN (a.map fun z => g.value z inp st)) τ ⟨by omega, by omega⟩ hal (toN_lt' a fun z => g.value z inp st) (by omega)
      rw [show extN op w.toNat a.length (toN (a.map fun z => g.value z inp st)) = toN ((extW op w a).map fun z => g.value z inp st) from q8.symm, ← q7] at z
      rw [n1 p, n2 p]
      rw [q7, hwn] at z ⊢
      exact z
    obtain ⟨N1, hN1⟩ : ∃ N, Aig.vals (false :: (inp ++ st)) h1.ands = N := ⟨_, rfl⟩
    rw [hN1] at u1 u2 u3
    obtain ⟨N2, hN2⟩ : ∃ N, Aig.vals (false :: (inp ++ st)) h2.ands = N := ⟨_, rfl⟩
    rw [hN2] at t1 t2 t3
    obtain ⟨N3, hN3⟩ : ∃ N, Aig.vals (false :: (inp ++ st)) h3.ands = N := ⟨_, rfl⟩
    rw [hN3] at v1 v2 v3 v4 v6
    obtain ⟨A1, hA1⟩ : ∃ N, toN (a.map fun z => h1.value z inp st) = N := ⟨_, rfl⟩
    rw [hA1] at u2 u4
    obtain ⟨A2, hA2⟩ : ∃ N, toN (a.map fun z => h2.value z inp st) = N := ⟨_, rfl⟩
    rw [hA2] at t2 t4
    obtain ⟨A3, hA3⟩ : ∃ N, toN (a.map fun z => h3.value z inp st) = N := ⟨_, rfl⟩
    rw [hA3] at v2 v7
    obtain ⟨W1, hW1⟩ : ∃ N, toN (w1.map fun z => h1.value z inp st) = N := ⟨_, rfl⟩
    rw [hW1] at u3 u4
    obtain ⟨W2, hW2⟩ : ∃ N, toN (w2.map fun z => h2.value z inp st) = N := ⟨_, rfl⟩
    rw [hW2] at t3 t4
    obtain ⟨W3, hW3⟩ : ∃ N, toN (w3.map fun z => h3.value z inp st) = N := ⟨_, rfl⟩
    rw [hW3] at v3 v7
    obtain ⟨B3, hB3⟩ : ∃ N, toN (b.map fun z => h3.value z inp st) = N := ⟨_, rfl⟩
    rw [hB3] at v4 v7
    obtain ⟨C3, hC3⟩ : ∃ N, (h3.value c inp st).toNat = N := ⟨_, rfl⟩
    rw [hC3] at v6 v7
    clear hs ha hb hc hwi la lb g1 g2 g3 g4 hi ht l1 l2 l3 m1 m2 m3 n1 n2 hih1 hth1 hih3 hth3 hZ1 hZ2 hZ3 hN1 hN2 hN3 hA1 hA2 hA3 hW1 hW2 hW3 hB3 hC3
    refine calls_x mixed Try.func6 b6 n6 rfl q6 (by simp) ?_; unfold c6 r6
    repeat' (first | simp (maxDischargeDepth := 9) -implicitDefEqProofs -dsimp only [go_sem, seval, gt_iff_lt, List.length_map, *] | (with_reducible (first | apply Zf) <;> intro hq) | ((with_reducible refine Zt (fun oF hoF hnF hnF' => ?_)); (try simp only [upd_none, ne_eq, not_and] at hoF)) | ((with_reducible apply ACalls.one1); (focus ((first | with_reducible refine law_live _ | with_reducible refine z2 _ | with_reducible refine z3 _ | with_reducible refine z4 _ | with_reducible refine z5 _ | with_reducible refine u1 ?_ _ | with_reducible refine u2 ?_ _ | with_reducible refine u3 ?_ _ | with_reducible refine u4 ?_ _ | with_reducible refine u5 ?_ _ | with_reducible refine t1 ?_ _ | with_reducible refine t2 ?_ _ | with_reducible refine t3 ?_ _ | with_reducible refine t4 ?_ _ | with_reducible refine t5 ?_ _ | with_reducible refine v1 ?_ _ | with_reducible refine v2 ?_ _ | with_reducible refine v3 ?_ _ | with_reducible refine v4 ?_ _ | with_reducible refine v5 ?_ _ | with_reducible refine v6 ?_ _ | with_reducible refine v7 ?_ _) <;> (first | (simp (maxDischargeDepth := 9) -implicitDefEqProofs -dsimp only [go_sem, seval, *]; done) | omega))); (focus (first | trivial | with_reducible exact rfl | (simp (maxDischargeDepth := 9) -implicitDefEqProofs -dsimp only [go_sem, seval]; done)))) | ((with_reducible apply id_one0); (focus (intro tS hS; ((first | with_reducible refine law_live _ | with_reducible refine z2 _ | with_reducible refine z3 _ | with_reducible refine z4 _ | with_reducible refine z5 _ | with_reducible refine u1 ?_ _ | with_reducible refine u2 ?_ _ | with_reducible refine u3 ?_ _ | with_reducible refine u4 ?_ _ | with_reducible refine u5 ?_ _ | with_reducible refine t1 ?_ _ | with_reducible refine t2 ?_ _ | with_reducible refine t3 ?_ _ | with_reducible refine t4 ?_ _ | with_reducible refine t5 ?_ _ | with_reducible refine v1 ?_ _ | with_reducible refine v2 ?_ _ | with_reducible refine v3 ?_ _ | with_reducible refine v4 ?_ _ | with_reducible refine v5 ?_ _ | with_reducible refine v6 ?_ _ | with_reducible refine v7 ?_ _) <;> (first | (simp (maxDischargeDepth := 9) -implicitDefEqProofs -dsimp only [go_sem, seval, *]; done) | omega | ((with_reducible refine Sub.get hS ?_); simp (maxDischargeDepth := 9) -implicitDefEqProofs -dsimp only [go_sem, seval, *]; done))))); (focus (first | trivial | (simp (maxDischargeDepth := 9) -implicitDefEqProofs -dsimp only [go_sem, seval, *]; done)))))
    all_goals
      refine fin_eq ?_
      (repeat' (first | simp (maxDischargeDepth := 9) -implicitDefEqProofs -dsimp only [go_sem, seval, *])) <;> (repeat' refine And.intro ?_ ?_) <;> (first | omega | rfl | assumption | skip)
end Go.Proofs.Ytbbihmmobfmadaa

