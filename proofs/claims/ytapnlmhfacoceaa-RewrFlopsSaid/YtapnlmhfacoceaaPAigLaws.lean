/- The plain laws of layer 18 over its model. -/
import Derived.Test.YtapnlmhfacoceaaPAigModel
set_option linter.unusedSimpArgs false
set_option linter.unusedVariables false
namespace Go.Proofs.Ytapnlmhfacoceaa.A
open Abs Fil
theorem aig_count (o : Nat) (g : Aig) (e : Int) (σ : Sig) (h : σ o = some (workC g e)) (hs : Small g) :
  ACalls Try.prog 83 [.ptr o 0] σ (fun r σ' => r = .ret (.int .i64 g.count) ∧ σ' = σ) := by
 refine calls_x mixed Try.func83 b83 n83 rfl q83 (by simp) ?_; unfold c83 r83
 obtain ⟨⟨h0, h1, h2, h3, h4, h5, h6⟩, h7, h8⟩ := hs
 repeat' (first | simp (maxDischargeDepth := 9) -implicitDefEqProofs -dsimp only [go_sem, seval, *] | simp (disch := omega) only [wrap64])
 exact fin_id ⟨rfl, rfl⟩
theorem aig_first (o : Nat) (g : Aig) (e : Int) (σ : Sig) (h : σ o = some (workC g e)) (hs : Small g) :
  ACalls Try.prog 82 [.ptr o 0] σ (fun r σ' => r = .ret (.int .i64 g.first) ∧ σ' = σ) := by
 refine calls_x mixed Try.func82 b82 n82 rfl q82 (by simp) ?_; unfold c82 r82
 obtain ⟨⟨h0, h1, h2, h3, h4, h5, h6⟩, h7, h8⟩ := hs
 repeat' (first | simp (maxDischargeDepth := 9) -implicitDefEqProofs -dsimp only [go_sem, seval, *] | simp (disch := omega) only [wrap64])
 exact fin_id ⟨rfl, rfl⟩
theorem aig_lit (o : Nat) (g : Aig) (e a : Int) (σ : Sig) (h : σ o = some (workC g e)) (hs : Small g) (ha : I64 a) :
  ACalls Try.prog 81 [.ptr o 0, .int .i64 a] σ (fun r σ' => r = .ret (.bool (g.lit a)) ∧ σ' = σ) := by
 refine calls_x mixed Try.func81 b81 n81 rfl q81 (by simp) ?_; unfold c81 r81
 obtain ⟨ha1, ha2⟩ := ha
 repeat' (first | simp (maxDischargeDepth := 9) -implicitDefEqProofs -dsimp only [go_sem, seval, *] | simp (disch := omega) only [wrap64, tdiv2] | (with_reducible (first | apply Za) <;> intro hq) | ((with_reducible apply ACalls.one1); (focus ((with_reducible refine aig_count o g e σ h hs) <;> (first | (simp (maxDischargeDepth := 9) -implicitDefEqProofs -dsimp only [go_sem, seval, *]; done) | omega))); (focus (first | trivial | with_reducible exact rfl | (simp (maxDischargeDepth := 9) -implicitDefEqProofs -dsimp only [go_sem, seval]; done)))))
 ·refine fin_eq ?_
  simp (maxDischargeDepth := 9) -implicitDefEqProofs -dsimp only [go_sem, seval]
  rw [Bool.eq_iff_iff]
  simp only [Aig.lit, litN_iff, decide_eq_true_eq]
  omega
 ·refine fin_eq ?_
  simp (maxDischargeDepth := 9) -implicitDefEqProofs -dsimp only [go_sem, seval]
  have : ¬ (0 ≤ a) := by omega
  simp [Aig.lit, Aig.litN, this]
theorem aig_check1 (b o : Nat) (f : Flop) (g : Aig) (e : Int) (σ : Sig) (hb : σ b = some (.cells [.ptr o 0])) (h : σ o = some (workC g e)) (hs : Small g) (hf : I64 f.next) :
  ACalls Try.prog 87 [encFlop f, .ptr b 0] σ (fun r σ' => r = .ret (.bool (!g.lit f.next)) ∧ σ' = σ) := by
 refine calls_x mixed Try.func87 b87 n87 rfl q87 (by simp) ?_; unfold c87 r87
 repeat' (first | simp (maxDischargeDepth := 9) -implicitDefEqProofs -dsimp only [go_sem, seval, *] | ((with_reducible apply ACalls.one1); (focus ((with_reducible refine aig_lit o g e f.next σ h hs hf) <;> (first | (simp (maxDischargeDepth := 9) -implicitDefEqProofs -dsimp only [go_sem, seval, *]; done) | omega))); (focus (first | trivial | with_reducible exact rfl | (simp (maxDischargeDepth := 9) -implicitDefEqProofs -dsimp only [go_sem, seval]; done)))))
 exact fin_id ⟨rfl, rfl⟩
theorem aig_check2 (b o : Nat) (a : Int) (g : Aig) (e : Int) (σ : Sig) (hb : σ b = some (.cells [.ptr o 0])) (h : σ o = some (workC g e)) (hs : Small g) (hf : I64 a) :
  ACalls Try.prog 88 [.int .i64 a, .ptr b 0] σ (fun r σ' => r = .ret (.bool (!g.lit a)) ∧ σ' = σ) := by
 refine calls_x mixed Try.func88 b88 n88 rfl q88 (by simp) ?_; unfold c88 r88
 repeat' (first | simp (maxDischargeDepth := 9) -implicitDefEqProofs -dsimp only [go_sem, seval, *] | ((with_reducible apply ACalls.one1); (focus ((with_reducible refine aig_lit o g e a σ h hs hf) <;> (first | (simp (maxDischargeDepth := 9) -implicitDefEqProofs -dsimp only [go_sem, seval, *]; done) | omega))); (focus (first | trivial | with_reducible exact rfl | (simp (maxDischargeDepth := 9) -implicitDefEqProofs -dsimp only [go_sem, seval]; done)))))
 exact fin_id ⟨rfl, rfl⟩
theorem sl_indexFlop (p : Flop → Bool) (l : List Flop) (hl : l.length ≤ 1000000000000) (σ : Sig) {F : Nat} {caps : List AV} (hF : ∀ x ∈ l, ACalls Try.prog F (encFlop x :: caps) σ (fun r σ' => r = .ret (.bool (p x)) ∧ σ' = σ)) :
  ACalls Try.prog 94 [.slice (l.map encFlop) .no, .fn F [] caps] σ (fun r σ' => r = .ret (.int .i64 (idxF p l)) ∧ σ' = σ) :=
 lib_indexFunc (sz := 2) (g := true) mixed Try.func94 b94 n94 rfl q94 (fun _ => rfl) (fun _ => rfl) p l hl hF
theorem sl_indexInt (p : Int → Bool) (l : List Int) (hl : l.length ≤ 1000000000000) (σ : Sig) {F : Nat} {caps : List AV} (hF : ∀ x ∈ l, ACalls Try.prog F (encInt x :: caps) σ (fun r σ' => r = .ret (.bool (p x)) ∧ σ' = σ)) :
  ACalls Try.prog 95 [.slice (l.map encInt) .no, .fn F [] caps] σ (fun r σ' => r = .ret (.int .i64 (idxF p l)) ∧ σ' = σ) :=
 lib_indexFunc (sz := 1) (g := false) mixed Try.func95 b95 n95 rfl q95 (fun _ => rfl) (fun _ => rfl) p l hl hF
theorem sl_indexGate (p : Int × Int → Bool) (l : List (Int × Int)) (hl : l.length ≤ 1000000000000) (σ : Sig) {F : Nat} {caps : List AV} (hF : ∀ x ∈ l, ACalls Try.prog F (encGate x :: caps) σ (fun r σ' => r = .ret (.bool (p x)) ∧ σ' = σ)) :
  ACalls Try.prog 96 [.slice (l.map encGate) .no, .fn F [] caps] σ (fun r σ' => r = .ret (.int .i64 (idxF p l)) ∧ σ' = σ) :=
 lib_indexFunc (sz := 2) (g := true) mixed Try.func96 b96 n96 rfl q96 (fun _ => rfl) (fun _ => rfl) p l hl hF
theorem sl_containsFlop (p : Flop → Bool) (l : List Flop) (hl : l.length ≤ 1000000000000) (σ : Sig) {F : Nat} {caps : List AV} (hF : ∀ x ∈ l, ACalls Try.prog F (encFlop x :: caps) σ (fun r σ' => r = .ret (.bool (p x)) ∧ σ' = σ)) :
  ACalls Try.prog 89 [.slice (l.map encFlop) .no, .fn F [] caps] σ (fun r σ' => r = .ret (.bool (l.any p)) ∧ σ' = σ) :=
 lib_containsFunc mixed Try.func89 b89 n89 rfl q89 p l (sl_indexFlop p l hl σ hF)
theorem sl_containsInt (p : Int → Bool) (l : List Int) (hl : l.length ≤ 1000000000000) (σ : Sig) {F : Nat} {caps : List AV} (hF : ∀ x ∈ l, ACalls Try.prog F (encInt x :: caps) σ (fun r σ' => r = .ret (.bool (p x)) ∧ σ' = σ)) :
  ACalls Try.prog 90 [.slice (l.map encInt) .no, .fn F [] caps] σ (fun r σ' => r = .ret (.bool (l.any p)) ∧ σ' = σ) :=
 lib_containsFunc mixed Try.func90 b90 n90 rfl q90 p l (sl_indexInt p l hl σ hF)
theorem sl_clipGate (l : List (Int × Int)) (σ : Sig) :
  ACalls Try.prog 98 [.slice (l.map encGate) .no] σ (fun r σ' => r = .ret (.slice (l.map encGate) .full) ∧ σ' = σ) :=
 lib_clip (sz := 2) mixed Try.func98 b98 n98 rfl q98 (fun _ => rfl) l
theorem aig_check (o : Nat) (g : Aig) (e : Int) (σ : Sig) (h : σ o = some (workC g e)) (hs : Wf g) :
  ACalls Try.prog 80 [.ptr o 0] σ (fun r σ' => r = .ret (.int .i64 g.check) ∧ σ' = σ) := by
 refine calls_x mixed Try.func80 b80 n80 rfl q80 (by simp) ?_; unfold c80 r80
 by_cases hlo : g.ins < 0
 ·repeat' (first | simp (maxDischargeDepth := 9) -implicitDefEqProofs -dsimp only [go_sem, seval, *] | ((with_reducible refine Zt (fun oF hoF hnF hnF' => ?_)); (try simp only [upd_none, ne_eq, not_and] at hoF)))
  refine fin_eq ?_
  have : g.check = 1 := by simp [Aig.check, hlo]
  (repeat' simp (maxDischargeDepth := 9) -implicitDefEqProofs -dsimp only [go_sem, seval, this, *])
 by_cases hhi : 65536 < g.ins
 ·repeat' (first | simp (maxDischargeDepth := 9) -implicitDefEqProofs -dsimp only [go_sem, seval, gt_iff_lt, *] | ((with_reducible refine Zt (fun oF hoF hnF hnF' => ?_)); (try simp only [upd_none, ne_eq, not_and] at hoF)))
  refine fin_eq ?_
  have : g.check = 2 := by simp [Aig.check, hlo, hhi]
  (repeat' simp (maxDischargeDepth := 9) -implicitDefEqProofs -dsimp only [go_sem, seval, this, *])
 have hsm : Small g := ⟨hs, by omega, by omega⟩
 have hfl := hs.flops
 have hol := hs.outs
 repeat' (first | simp (maxDischargeDepth := 9) -implicitDefEqProofs -dsimp only [go_sem, seval, gt_iff_lt, *] | (with_reducible (first | apply Zb | apply Zc | apply Zr) <;> intro hq) | ((with_reducible refine Zt (fun oF hoF hnF hnF' => ?_)); (try simp only [upd_none, ne_eq, not_and] at hoF)) | ((with_reducible apply ACalls.one1); (focus ((first | with_reducible refine aig_count o g e _ ?_ hsm | with_reducible refine sl_containsFlop (fun f => !g.lit f.next) g.flops ?_ _ (fun f hf => aig_check1 _ o f g e _ ?_ ?_ hsm (hs.nexts f hf)) | with_reducible refine sl_containsInt (fun a => !g.lit a) g.outs ?_ _ (fun a ha => aig_check2 _ o a g e _ ?_ ?_ hsm (hs.lits a ha))) <;> (first | (simp (maxDischargeDepth := 9) -implicitDefEqProofs -dsimp only [go_sem, seval, *]; done) | omega))); (focus (first | trivial | with_reducible exact rfl | (simp (maxDischargeDepth := 9) -implicitDefEqProofs -dsimp only [go_sem, seval]; done)))))
 ·refine fin_eq ?_
  have : g.check = 2 := by simp [Aig.check, hlo, hhi, hq]
  (repeat' simp (maxDischargeDepth := 9) -implicitDefEqProofs -dsimp only [go_sem, seval, this, *])
 ·refine fin_eq ?_
  have : g.check = 2 := by simp [Aig.check, hlo, hhi, hq]
  (repeat' simp (maxDischargeDepth := 9) -implicitDefEqProofs -dsimp only [go_sem, seval, this, *])
 ·refine fin_eq ?_
  have : g.check = 1 := by simp [Aig.check, Aig.good, hlo, hhi, *]
  (repeat' simp (maxDischargeDepth := 9) -implicitDefEqProofs -dsimp only [go_sem, seval, this, *])
 ·refine fin_eq ?_
  have : g.check = 1 := by simp [Aig.check, Aig.good, hlo, hhi, *]
  (repeat' simp (maxDischargeDepth := 9) -implicitDefEqProofs -dsimp only [go_sem, seval, this, *])
 ·refine loop_rule (fun i : Nat => [(1, some (.ptr oF 0)), (52, some (.slice (g.ands.map encGate) .no)), (53, some (.int .i64 g.ands.length)), (54, some (.int .i64 i))]) (fun _ => upd σ oF (.cells [.ptr o 0])) (fun i => i ≤ g.ands.length ∧ ∀ j, (hj : j < g.ands.length) → j < i → (0 ≤ g.ands[j].1 ∧ g.ands[j].1 < 2 * (g.first + j)) ∧ (0 ≤ g.ands[j].2 ∧ g.ands[j].2 < 2 * (g.first + j))) (fun i => g.ands.length - i) 0 ?_ ?_
  ·(repeat' simp (maxDischargeDepth := 9) -implicitDefEqProofs -dsimp only [go_sem, seval, *]) <;> (repeat' refine And.intro ?_ ?_) <;> (first | omega | skip)
  ·rintro i ⟨hi, hb⟩
   have hA := hs.ands
   have hF := hs.flops
   have hfd : 1 ≤ g.first ∧ g.first ≤ 3000000 := by
    have := hsm.lo; have := hsm.hi
    unfold Aig.first; omega
   by_cases hlt : i < g.ands.length
   ·have hgate := hs.gates _ (List.getElem_mem hlt)
    obtain ⟨⟨g1, g2⟩, g3, g4⟩ := hgate
    repeat' (first | simp (maxDischargeDepth := 9) -implicitDefEqProofs -dsimp only [go_sem, seval, ge_iff_le, *] | simp (disch := omega) only [wrap64] | (with_reducible (first | apply Zb | apply Zc | apply Zr) <;> intro hq) | ((with_reducible refine Zu ?_ ?_); focus omega) | ((with_reducible refine Zt (fun oF hoF hnF hnF' => ?_)); (try simp only [upd_none, ne_eq, not_and] at hoF)) | ((with_reducible apply id_one0); (focus (intro tS hS; ((with_reducible refine aig_first o g e _ ?_ hsm) <;> (first | (simp (maxDischargeDepth := 9) -implicitDefEqProofs -dsimp only [go_sem, seval, *]; done) | omega | ((with_reducible refine Sub.get hS ?_); simp (maxDischargeDepth := 9) -implicitDefEqProofs -dsimp only [go_sem, seval, *]; done))))); (focus (first | trivial | (simp (maxDischargeDepth := 9) -implicitDefEqProofs -dsimp only [go_sem, seval, *]; done)))))
    ·have : g.check = 1 := by
      have := gatesOk_false (n := g.first) hlt (by omega)
      simp [Aig.check, Aig.good, hlo, hhi, *]
     refine fin_eq ?_
     (repeat' simp (maxDischargeDepth := 9) -implicitDefEqProofs -dsimp only [go_sem, seval, this, *])
    ·refine loop_next _ _ _ _ (i + 1) ?_; (repeat' simp (maxDischargeDepth := 9) -implicitDefEqProofs -dsimp only [go_sem, seval, *]) <;> (repeat' refine And.intro ?_ ?_) <;> (first | omega | skip)
     intro j hj h
     rcases Nat.lt_or_ge j i with h' | h'
     ·exact hb j hj h'
     ·obtain rfl : j = i := by omega
      omega
    ·have : g.check = 1 := by
      have := gatesOk_false (n := g.first) hlt (by omega)
      simp [Aig.check, Aig.good, hlo, hhi, *]
     refine fin_eq ?_
     (repeat' simp (maxDischargeDepth := 9) -implicitDefEqProofs -dsimp only [go_sem, seval, this, *])
   ·repeat' simp (maxDischargeDepth := 9) -implicitDefEqProofs -dsimp only [go_sem, seval, *]
    refine fin_eq ?_
    have : g.check = 0 := by
     have : Aig.gatesOk g.first g.ands = true := gatesOk_iff.2 fun j hj => hb j hj (by omega)
     simp [Aig.check, Aig.good, hlo, hhi, *]
    (repeat' simp (maxDischargeDepth := 9) -implicitDefEqProofs -dsimp only [go_sem, seval, this, *])
end Go.Proofs.Ytapnlmhfacoceaa.A

namespace Go.Proofs.Ytapnlmhfacoceaa.A
open Abs Fil
theorem aig_begin (g : Aig) (l : List Int) (σ : Sig) (hs : Wf g) (hl : l.length ≤ 1000000) (hi : ∀ a ∈ l, I64 a) :
  ACalls Try.prog 59 [encAig g, .slice (l.map encInt) .no] σ (NewO σ (fun o => .ptr o 0) (workC g (g.checkL g.check l))) := by
 refine calls_x mixed Try.func59 b59 n59 rfl q59 (by simp) ?_; unfold c59 r59
 repeat' (first | simp (maxDischargeDepth := 9) -implicitDefEqProofs -dsimp only [go_sem, seval, *] | ((with_reducible refine Zt (fun oF hoF hnF hnF' => ?_)); (try simp only [upd_none, ne_eq, not_and] at hoF)) | ((with_reducible apply ACalls.one1); (focus ((with_reducible refine aig_check _ g 0 _ ?_ hs) <;> (first | (simp (maxDischargeDepth := 9) -implicitDefEqProofs -dsimp only [go_sem, seval, *]; done) | omega))); (focus (first | trivial | with_reducible exact rfl | (simp (maxDischargeDepth := 9) -implicitDefEqProofs -dsimp only [go_sem, seval]; done)))))
 refine loop_rule (fun i : Nat => [(5, some (.ptr oF 0)), (16, some (.slice (l.map encInt) .no)), (17, some (.int .i64 l.length)), (18, some (.int .i64 i))]) (fun i => upd σ oF (workC g (g.checkL g.check (l.take i)))) (fun i => i ≤ l.length) (fun i => l.length - i) 0 ?_ ?_
 ·(repeat' simp (maxDischargeDepth := 9) -implicitDefEqProofs -dsimp only [go_sem, seval, Aig.checkL, *]) <;> (first | omega | skip)
 ·intro i hi'
  by_cases hlt : i < l.length
  ·have hi2 := hi _ (List.getElem_mem hlt)
   have step : g.checkL g.check (l.take (i + 1)) = if g.checkL g.check (l.take i) = 0 ∧ g.lit l[i] = false then 1 else g.checkL g.check (l.take i) := by
    rw [List.take_add_one, List.getElem?_eq_getElem hlt]
    exact checkL_snoc g _ _ _
   by_cases he : g.checkL g.check (l.take i) = 0
   ·have hsm : Small g := checkL_small hs he
    repeat' (first | simp (maxDischargeDepth := 9) -implicitDefEqProofs -dsimp only [go_sem, seval, *] | simp (disch := omega) only [wrap64] | (with_reducible (first | apply Zr) <;> intro hq) | ((with_reducible refine Zu ?_ ?_); focus omega) | ((with_reducible apply ACalls.one1); (focus ((with_reducible refine aig_lit _ g 0 l[i] _ ?_ hsm hi2) <;> (first | (simp (maxDischargeDepth := 9) -implicitDefEqProofs -dsimp only [go_sem, seval, *]; done) | omega))); (focus (first | trivial | with_reducible exact rfl | (simp (maxDischargeDepth := 9) -implicitDefEqProofs -dsimp only [go_sem, seval]; done)))))
    ·have st : g.checkL g.check (l.take (i + 1)) = 0 := by rw [step]; simp [*]
     refine loop_next _ _ _ _ (i + 1) ?_; (repeat' simp (maxDischargeDepth := 9) -implicitDefEqProofs -dsimp only [go_sem, seval, *]) <;> (repeat' refine And.intro ?_ ?_) <;> (first | omega | skip)
    ·have st : g.checkL g.check (l.take (i + 1)) = 1 := by rw [step]; simp [*]
     refine loop_next _ _ _ _ (i + 1) ?_; (repeat' simp (maxDischargeDepth := 9) -implicitDefEqProofs -dsimp only [go_sem, seval, *]) <;> (repeat' refine And.intro ?_ ?_) <;> (first | omega | skip)
   ·have st : g.checkL g.check (l.take (i + 1)) = g.checkL g.check (l.take i) := by rw [step]; simp [*]
    have hb : (g.checkL g.check (l.take i) == 0) = false := by simpa using he
    repeat' (first | simp (maxDischargeDepth := 9) -implicitDefEqProofs -dsimp only [go_sem, seval, *] | simp (disch := omega) only [wrap64] | ((with_reducible refine Zu ?_ ?_); focus omega))
    refine loop_next _ _ _ _ (i + 1) ?_; (repeat' simp (maxDischargeDepth := 9) -implicitDefEqProofs -dsimp only [go_sem, seval, *]) <;> (repeat' refine And.intro ?_ ?_) <;> (first | omega | skip)
  ·repeat' simp (maxDischargeDepth := 9) -implicitDefEqProofs -dsimp only [go_sem, seval, *]
   refine fin_new oF hoF ?_
   have e0 : l.take i = l := List.take_of_length_le (by omega)
   (repeat' simp (maxDischargeDepth := 9) -implicitDefEqProofs -dsimp only [go_sem, seval, e0, *])
theorem aig_and1 (pa pb : Nat) (x : Int × Int) (a b : Int) (σ : Sig) (ha : σ pa = some (.cells [.int .i64 a])) (hb : σ pb = some (.cells [.int .i64 b])) :
  ACalls Try.prog 97 [encGate x, .ptr pa 0, .ptr pb 0] σ (fun r σ' => r = .ret (.bool (decide (min x.1 x.2 = a) && decide (max x.1 x.2 = b))) ∧ σ' = σ) := by
 refine calls_x mixed Try.func97 b97 n97 rfl q97 (by simp) ?_; unfold c97 r97
 repeat' (first | simp (maxDischargeDepth := 9) -implicitDefEqProofs -dsimp only [go_sem, seval, *] | (with_reducible (first | apply Zj) <;> intro hq))
 ·have e : min x.1 x.2 = a := by omega
  exact fin_id ⟨by simp [e, Bool.beq_eq_decide_eq], rfl⟩
 ·exact fin_id ⟨by simp [hq], rfl⟩
end Go.Proofs.Ytapnlmhfacoceaa.A

namespace Go.Proofs.Ytapnlmhfacoceaa.A
open Abs Fil
theorem aig_Check (g : Aig) (σ : Sig) (hs : Wf g) : ACalls Try.prog 26 [encAig g] σ (fun r σ' => r = .ret (.int .i64 g.check) ∧ σ' = σ) := by
 refine calls_x mixed Try.func26 b26 n26 rfl q26 (by simp) ?_; unfold c26 r26
 repeat' (first | simp (maxDischargeDepth := 9) -implicitDefEqProofs -dsimp only [go_sem, seval, *] | ((with_reducible apply ACalls.newO); (focus (first | ((first | with_reducible refine aig_begin g [] _ hs ?_ (by simp)) <;> (first | (simp (maxDischargeDepth := 9) -implicitDefEqProofs -dsimp only [go_sem, seval, *]; done) | omega)) | (with_reducible refine ACalls.flA (aig_begin g [] _ hs ?_ (by simp)) ?_ <;> (first | (simp (maxDischargeDepth := 9) -implicitDefEqProofs -dsimp only [go_sem, seval, *]; done) | omega)))); (intro oF hoF hnF hnF'); (try simp only [upd_none, ne_eq, not_and] at hoF)))
 refine fin_eq ?_
 (repeat' simp (maxDischargeDepth := 9) -implicitDefEqProofs -dsimp only [go_sem, seval, Aig.checkL, *])
theorem aig_of (v : List Bool) (a : Int) (σ : Sig) (h0 : 0 ≤ a) (h1 : (a / 2).toNat < v.length) (h2 : v.length ≤ 1000000000) :
  ACalls Try.prog 64 [.slice (v.map encBool) .no, .int .i64 a] σ (fun r σ' => r = .ret (.bool (Aig.val v a)) ∧ σ' = σ) := by
 refine calls_x mixed Try.func64 b64 n64 rfl q64 (by simp) ?_; unfold c64 r64
 repeat' (first | simp (maxDischargeDepth := 9) -implicitDefEqProofs -dsimp only [go_sem, seval, *] | simp (disch := omega) only [and1, shr1'] | ((with_reducible refine Zv ?_ ?_); focus (first | omega | exact rfl)) | ((with_reducible refine Zu ?_ ?_); focus omega))
 refine fin_eq ?_
 have : Aig.val v a = (v[(a / 2).toNat] != decide (a % 2 = 1)) := by simp [Aig.val, List.getD, h1]
 rw [this]
 (repeat' simp (maxDischargeDepth := 9) -implicitDefEqProofs -dsimp only [go_sem, seval, bne, beq_dec, *])
theorem sl_growBool (n : Int) (σ : Sig) (h0 : 0 < n) (hb1 : n * 1 ≤ 35184372088832) (hn2 : n ≤ 1000000000000) :
  ACalls Try.prog 91 [.slice [] .nil, .int .i64 n] σ (fun r σ' => ∃ o, σ o = none ∧ r = .ret (.slice [] (.own o)) ∧ σ' = upd σ o (.grow 1 0)) :=
 lib_grow (sz := 1) (bytes := 1) mixed Try.func91 b91 n91 rfl q91 n h0 (by simpa using hb1) hn2
theorem sl_growBool0 (σ : Sig) : ACalls Try.prog 91 [.slice [] .nil, .int .i64 0] σ (fun r σ' => r = .ret (.slice [] .nil) ∧ σ' = σ) :=
 lib_grow0 (sz := 1) (bytes := 1) mixed Try.func91 b91 n91 rfl q91
theorem sl_concatBool (ls : List (List Bool)) (σ : Sig) (hlen : ls.length ≤ 1000000) (htot : ls.flatten.length ≤ 1000000000) :
  ACalls Try.prog 84 [.slice (ls.map (encRow encBool)) .no] σ (fun r σ' => (ls.flatten = [] ∧ r = .ret (.slice [] .nil) ∧ σ' = σ) ∨
   NewO σ (fun o => .slice (ls.flatten.map encBool) (.own o)) (.grow 1 ls.flatten.length) r σ') :=
 lib_concat (sz := 1) (bytes := 1) mixed Try.func84 b84 n84 rfl q84 (fun _ => rfl) (fun σ n h1 h2 h3 => sl_growBool n σ h1 (by simpa using h2) h3) sl_growBool0 ls hlen htot (by decide)
theorem sl_concatBool1 (ls : List (List Bool)) (σ : Sig) (hlen : ls.length ≤ 1000000) (htot : ls.flatten.length ≤ 1000000000) (hne : ls.flatten ≠ []) :
  ACalls Try.prog 84 [.slice (ls.map (encRow encBool)) .no] σ (NewO σ (fun o => .slice (ls.flatten.map encBool) (.own o)) (.grow 1 ls.flatten.length)) :=
 (sl_concatBool ls σ hlen htot).mono fun r s h => h.elim (fun h => (hne h.1).elim) id
theorem aig_Nodes (g : Aig) (inp st : List Bool) (σ : Sig) (hs : Wf g) :
  ACalls Try.prog 63 [encAig g, .slice (inp.map encBool) .no, .slice (st.map encBool) .no] σ (fun r σ' => r = .ret (.tup [.slice ((g.Nodes inp st).1.map encBool) .no, .int .i64 (g.Nodes inp st).2]) ∧ σ' = σ) := by
 refine calls_x mixed Try.func63 b63 n63 rfl q63 (by simp) ?_; unfold c63 r63
 have hfl := hs.flops
 by_cases hc : g.check = 0
 ·by_cases hin : (inp.length : Int) = g.ins
  ·by_cases hf : st.length = g.flops.length
   ·have hv : g.Nodes inp st = (Aig.vals (false :: (inp ++ st)) g.ands, 0) := by simp [Aig.Nodes, *]
    have hins := (check_small hs hc).hi
    have htot : ([[false], inp, st] : List (List Bool)).flatten.length ≤ 1000000000 := by simp; omega
    have hne : ([[false], inp, st] : List (List Bool)).flatten ≠ [] := by simp
    repeat' (first | simp (maxDischargeDepth := 9) -implicitDefEqProofs -dsimp only [go_sem, seval, *] | ((with_reducible apply ACalls.one1); (focus (first | ((first | with_reducible refine aig_Check g _ hs) <;> (first | (simp (maxDischargeDepth := 9) -implicitDefEqProofs -dsimp only [go_sem, seval, *]; done) | omega)) | (with_reducible refine ACalls.flA (aig_Check g _ hs) ?_ <;> (first | (simp (maxDischargeDepth := 9) -implicitDefEqProofs -dsimp only [go_sem, seval, *]; done) | omega)))); (focus (first | trivial | with_reducible exact rfl | (simp (maxDischargeDepth := 9) -implicitDefEqProofs -dsimp only [go_sem, seval]; done)))) | ((with_reducible apply ACalls.newO); (focus (first | ((first | with_reducible refine sl_concatBool1 [[false], inp, st] _ ?_ htot hne) <;> (first | (simp (maxDischargeDepth := 9) -implicitDefEqProofs -dsimp only [go_sem, seval, *]; done) | omega)) | (with_reducible refine ACalls.flA (sl_concatBool1 [[false], inp, st] _ ?_ htot hne) ?_ <;> (first | (simp (maxDischargeDepth := 9) -implicitDefEqProofs -dsimp only [go_sem, seval, *]; done) | omega)))); (intro oF hoF hnF hnF'); (try simp only [upd_none, ne_eq, not_and] at hoF)))
    have hfine := check_fine hs hc
    have hal := hs.ands
    have hlo := hfine.lo
    have hcn := hfine.cnt
    have hfst : g.first = 1 + g.ins + g.flops.length := rfl
    obtain ⟨n1, hn1⟩ : ∃ n, n = g.first := ⟨_, rfl⟩
    rw [← hn1] at hfst
    have v0l : (false :: (inp ++ st)).length = 1 + inp.length + st.length := by simp; omega
    refine loop_rule (fun i : Nat => [(9, some (.slice ((Aig.vals (false :: (inp ++ st)) (g.ands.take i)).map encBool) (.own oF))), (36, some (.slice (g.ands.map encGate) .no)), (37, some (.int .i64 g.ands.length)), (38, some (.int .i64 i))]) (fun i => upd σ oF (.grow 1 (Aig.vals (false :: (inp ++ st)) (g.ands.take i)).length)) (fun i => i ≤ g.ands.length) (fun i => g.ands.length - i) 0 ?_ ?_
    ·(repeat' simp (maxDischargeDepth := 9) -implicitDefEqProofs -dsimp only [go_sem, seval, Aig.vals, *]) <;> (repeat' refine And.intro ?_ ?_) <;> (first | omega | skip)
    ·intro i hi
     by_cases hlt : i < g.ands.length
     ·have hg := (gatesOk_iff.1 hfine.gok) i hlt
      rw [← hn1] at hg
      have st' := vals_step (v := false :: (inp ++ st)) hlt
      have ln := vals_len (v := false :: (inp ++ st)) (l := g.ands) (i := i) (by omega)
      rw [v0l] at ln
      obtain ⟨v, hv'⟩ : ∃ v, Aig.vals (false :: (inp ++ st)) (g.ands.take i) = v := ⟨_, rfl⟩
      rw [hv'] at ln st'
      clear hn1 v0l
      repeat' (first | simp (maxDischargeDepth := 9) -implicitDefEqProofs -dsimp only [go_sem, seval, *] | simp (disch := omega) only [wrap64] | (with_reducible (first | apply Zp) <;> intro hq) | ((with_reducible refine Zv ?_ ?_); focus (first | omega | exact rfl)) | ((with_reducible refine Zu ?_ ?_); focus omega) | ((with_reducible refine Zt (fun oF hoF hnF hnF' => ?_)); (try simp only [upd_none, ne_eq, not_and] at hoF)) | ((with_reducible apply ACalls.one1); (focus (first | ((first | with_reducible refine aig_of v g.ands[i].1 _ ?_ ?_ ?_ | with_reducible refine aig_of v g.ands[i].2 _ ?_ ?_ ?_) <;> (first | (simp (maxDischargeDepth := 9) -implicitDefEqProofs -dsimp only [go_sem, seval, *]; done) | omega)) | (with_reducible refine ACalls.flA (aig_of v g.ands[i].1 _ ?_ ?_ ?_) ?_ <;> (first | (simp (maxDischargeDepth := 9) -implicitDefEqProofs -dsimp only [go_sem, seval, *]; done) | omega)) | (with_reducible refine ACalls.flA (aig_of v g.ands[i].2 _ ?_ ?_ ?_) ?_ <;> (first | (simp (maxDischargeDepth := 9) -implicitDefEqProofs -dsimp only [go_sem, seval, *]; done) | omega)))); (focus (first | trivial | with_reducible exact rfl | (simp (maxDischargeDepth := 9) -implicitDefEqProofs -dsimp only [go_sem, seval]; done)))))
      ·refine loop_next _ _ _ _ (i + 1) ?_; (repeat' simp (maxDischargeDepth := 9) -implicitDefEqProofs -dsimp only [go_sem, seval, *]) <;> (repeat' refine And.intro ?_ ?_) <;> (first | omega | skip)
      ·refine loop_next _ _ _ _ (i + 1) ?_; (repeat' simp (maxDischargeDepth := 9) -implicitDefEqProofs -dsimp only [go_sem, seval, *]) <;> (repeat' refine And.intro ?_ ?_) <;> (first | omega | skip)
     ·repeat' simp (maxDischargeDepth := 9) -implicitDefEqProofs -dsimp only [go_sem, seval, *]
      refine fin_eq ?_
      have e0 : g.ands.take i = g.ands := List.take_of_length_le (by omega)
      (repeat' simp (maxDischargeDepth := 9) -implicitDefEqProofs -dsimp only [go_sem, seval, e0, *])
   ·have hv : g.Nodes inp st = ([], 1) := by simp [Aig.Nodes, *]
    have hb : ((st.length : Int) != g.flops.length) = true := by simp; omega
    repeat' (first | simp (maxDischargeDepth := 9) -implicitDefEqProofs -dsimp only [go_sem, seval, *] | ((with_reducible apply ACalls.one1); (focus (first | ((first | with_reducible refine aig_Check g _ hs) <;> (first | (simp (maxDischargeDepth := 9) -implicitDefEqProofs -dsimp only [go_sem, seval, *]; done) | omega)) | (with_reducible refine ACalls.flA (aig_Check g _ hs) ?_ <;> (first | (simp (maxDischargeDepth := 9) -implicitDefEqProofs -dsimp only [go_sem, seval, *]; done) | omega)))); (focus (first | trivial | with_reducible exact rfl | (simp (maxDischargeDepth := 9) -implicitDefEqProofs -dsimp only [go_sem, seval]; done)))))
    refine fin_eq ?_
    (repeat' simp (maxDischargeDepth := 9) -implicitDefEqProofs -dsimp only [go_sem, seval, *])
  ·have hv : g.Nodes inp st = ([], 1) := by simp [Aig.Nodes, *]
   have hb : ((inp.length : Int) != g.ins) = true := by simpa using hin
   repeat' (first | simp (maxDischargeDepth := 9) -implicitDefEqProofs -dsimp only [go_sem, seval, *] | ((with_reducible apply ACalls.one1); (focus (first | ((first | with_reducible refine aig_Check g _ hs) <;> (first | (simp (maxDischargeDepth := 9) -implicitDefEqProofs -dsimp only [go_sem, seval, *]; done) | omega)) | (with_reducible refine ACalls.flA (aig_Check g _ hs) ?_ <;> (first | (simp (maxDischargeDepth := 9) -implicitDefEqProofs -dsimp only [go_sem, seval, *]; done) | omega)))); (focus (first | trivial | with_reducible exact rfl | (simp (maxDischargeDepth := 9) -implicitDefEqProofs -dsimp only [go_sem, seval]; done)))))
   refine fin_eq ?_
   (repeat' simp (maxDischargeDepth := 9) -implicitDefEqProofs -dsimp only [go_sem, seval, *])
 ·have hv : g.Nodes inp st = ([], g.check) := by simp [Aig.Nodes, *]
  have hb : (g.check != 0) = true := by simpa using hc
  repeat' (first | simp (maxDischargeDepth := 9) -implicitDefEqProofs -dsimp only [go_sem, seval, *] | ((with_reducible apply ACalls.one1); (focus (first | ((first | with_reducible refine aig_Check g _ hs) <;> (first | (simp (maxDischargeDepth := 9) -implicitDefEqProofs -dsimp only [go_sem, seval, *]; done) | omega)) | (with_reducible refine ACalls.flA (aig_Check g _ hs) ?_ <;> (first | (simp (maxDischargeDepth := 9) -implicitDefEqProofs -dsimp only [go_sem, seval, *]; done) | omega)))); (focus (first | trivial | with_reducible exact rfl | (simp (maxDischargeDepth := 9) -implicitDefEqProofs -dsimp only [go_sem, seval]; done)))))
  refine fin_eq ?_
  (repeat' simp (maxDischargeDepth := 9) -implicitDefEqProofs -dsimp only [go_sem, seval, *])
theorem aig_Eval (g : Aig) (inp st : List Bool) (σ : Sig) (hs : Wf g) :
  ACalls Try.prog 30 [encAig g, .slice (inp.map encBool) .no, .slice (st.map encBool) .no] σ (fun r σ' => r = .ret (.tup [.slice ((g.Eval inp st).1.map encBool) .no, .slice ((g.Eval inp st).2.1.map encBool) .no, .int .i64 (g.Eval inp st).2.2]) ∧ σ' = σ) := by
 refine ACalls.virt (callable_of Try.func30 b30 n30) 1 (fun oV1 hoV1 hnV1 hnV1' => ?_); (try simp only [upd_none, ne_eq, not_and] at hoV1); refine ACalls.virt (callable_of Try.func30 b30 n30) 1 (fun oV2 hoV2 hnV2 hnV2' => ?_); (try simp only [upd_none, ne_eq, not_and] at hoV2); refine calls_x mixed Try.func30 b30 n30 rfl q30 (by simp) ?_; unfold c30 r30
 by_cases h0 : (g.Nodes inp st).2 = 0
 ·obtain ⟨hf, hg, h1, h2, h3, h4⟩ := nodes_ok hs h0
  have hc := hf.cnt
  have ho := hs.outs
  have hfl := hs.flops
  have hlo := hf.lo
  have hcc : 0 ≤ g.count := by unfold Aig.count; omega
  have hv : g.Eval inp st = (g.outs.map (Aig.val (g.Nodes inp st).1), g.flops.map (fun f => Aig.val (g.Nodes inp st).1 f.next), 0) := by simp [Aig.Eval, h0]
  have ez : ((0 : Int) != 0) = false := by decide
  clear h3
  repeat' (first | simp (maxDischargeDepth := 9) -implicitDefEqProofs -dsimp only [go_sem, seval, *] | ((with_reducible apply ACalls.one1); (focus (first | with_reducible refine aig_Nodes g inp st _ hs) <;> (first | (simp (maxDischargeDepth := 9) -implicitDefEqProofs -dsimp only [go_sem, seval, *]; done) | omega)); (focus (first | trivial | with_reducible exact rfl | (simp (maxDischargeDepth := 9) -implicitDefEqProofs -dsimp only [go_sem, seval]; done)))))
  generalize (g.Nodes inp st).1 = v at *
  refine loop_rule (fun i : Nat => [(27, some (.int .i64 i)), (26, some (.int .i64 g.outs.length)), (25, some (.slice (g.outs.map encInt) .no)), (6, some (.slice (((g.outs.take i).map (Aig.val v)).map encBool) (.own oV1))), (9, some (.slice (v.map encBool) .no)), (3, some (.cptr (aigL g))), (7, some (.slice [] .nil))])
   (fun i => upd (upd σ oV1 (.grow 1 i)) oV2 (.virt 1)) (fun i => i ≤ g.outs.length) (fun i => g.outs.length - i) 0 ?_ ?_
  ·(repeat' simp (maxDischargeDepth := 9) -implicitDefEqProofs -dsimp only [go_sem, seval, *]) <;> (first | omega | skip)
  ·intro i hi'
   by_cases hlt : i < g.outs.length
   ·have hs' := take_succ hlt
    have hlen : (g.outs.take i).length = i := by simp; omega
    have hgo := good_outs hg (List.getElem_mem hlt)
    repeat' (first | simp (maxDischargeDepth := 9) -implicitDefEqProofs -dsimp only [go_sem, seval, *] | simp (disch := omega) only [wrap64] | ((with_reducible refine Zv ?_ ?_); focus (first | omega | exact rfl)) | ((with_reducible refine Zu ?_ ?_); focus omega) | ((with_reducible apply ACalls.one1); (focus (first | with_reducible refine aig_of v g.outs[i] _ ?_ ?_ ?_) <;> (first | (simp (maxDischargeDepth := 9) -implicitDefEqProofs -dsimp only [go_sem, seval, *]; done) | omega)); (focus (first | trivial | with_reducible exact rfl | (simp (maxDischargeDepth := 9) -implicitDefEqProofs -dsimp only [go_sem, seval]; done)))))
    refine loop_next _ _ _ _ (i + 1) ?_; (repeat' simp (maxDischargeDepth := 9) -implicitDefEqProofs -dsimp only [go_sem, seval, *]) <;> (repeat' refine And.intro ?_ ?_) <;> (first | omega | skip)
   ·repeat' simp (maxDischargeDepth := 9) -implicitDefEqProofs -dsimp only [go_sem, seval, *]
    have e0 : g.outs.take i = g.outs := List.take_of_length_le (by omega)
    rw [e0]
    refine loop_rule (fun i : Nat => [(41, some (.int .i64 i)), (40, some (.int .i64 g.flops.length)), (39, some (.slice (g.flops.map encFlop) .no)), (7, some (.slice (((g.flops.take i).map fun f => Aig.val v f.next).map encBool) (.own oV2))), (9, some (.slice (v.map encBool) .no)), (6, some (.slice ((g.outs.map (Aig.val v)).map encBool) .no))])
     (fun i => upd σ oV2 (.grow 1 i)) (fun i => i ≤ g.flops.length) (fun i => g.flops.length - i) 0 ?_ ?_
    ·(repeat' simp (maxDischargeDepth := 9) -implicitDefEqProofs -dsimp only [go_sem, seval, *]) <;> (first | omega | skip)
    ·intro i hi'
     by_cases hlt : i < g.flops.length
     ·have hs' := take_succ hlt
      have hlen : (g.flops.take i).length = i := by simp; omega
      have hgo := good_flops hg (List.getElem_mem hlt)
      repeat' (first | simp (maxDischargeDepth := 9) -implicitDefEqProofs -dsimp only [go_sem, seval, *] | simp (disch := omega) only [wrap64] | ((with_reducible refine Zv ?_ ?_); focus (first | omega | exact rfl)) | ((with_reducible refine Zu ?_ ?_); focus omega) | ((with_reducible refine Zt (fun oF hoF hnF hnF' => ?_)); (try simp only [upd_none, ne_eq, not_and] at hoF)) | ((with_reducible apply ACalls.one1); (focus (first | with_reducible refine aig_of v g.flops[i].next _ ?_ ?_ ?_) <;> (first | (simp (maxDischargeDepth := 9) -implicitDefEqProofs -dsimp only [go_sem, seval, *]; done) | omega)); (focus (first | trivial | with_reducible exact rfl | (simp (maxDischargeDepth := 9) -implicitDefEqProofs -dsimp only [go_sem, seval]; done)))))
      refine loop_next _ _ _ _ (i + 1) ?_; (repeat' simp (maxDischargeDepth := 9) -implicitDefEqProofs -dsimp only [go_sem, seval, *]) <;> (repeat' refine And.intro ?_ ?_) <;> (first | omega | skip)
     ·repeat' simp (maxDischargeDepth := 9) -implicitDefEqProofs -dsimp only [go_sem, seval, *]
      have e0 : g.flops.take i = g.flops := List.take_of_length_le (by omega)
      refine fin_eq ?_
      (repeat' simp (maxDischargeDepth := 9) -implicitDefEqProofs -dsimp only [go_sem, seval, e0, *])
 ·have hv : g.Eval inp st = ([], [], (g.Nodes inp st).2) := by simp [Aig.Eval, h0]
  have hb : ((g.Nodes inp st).2 != 0) = true := by simpa using h0
  repeat' (first | simp (maxDischargeDepth := 9) -implicitDefEqProofs -dsimp only [go_sem, seval, *] | ((with_reducible apply ACalls.one1); (focus (first | with_reducible refine aig_Nodes g inp st _ hs) <;> (first | (simp (maxDischargeDepth := 9) -implicitDefEqProofs -dsimp only [go_sem, seval, *]; done) | omega)); (focus (first | trivial | with_reducible exact rfl | (simp (maxDischargeDepth := 9) -implicitDefEqProofs -dsimp only [go_sem, seval]; done)))))
  refine fin_eq ?_
  (repeat' simp (maxDischargeDepth := 9) -implicitDefEqProofs -dsimp only [go_sem, seval, *])
end Go.Proofs.Ytapnlmhfacoceaa.A

namespace Go.Proofs.Ytapnlmhfacoceaa.A
open Abs Fil
theorem ref_Lit (n a : Int) (σ : Sig) (h1 : -1000000000 ≤ n) (h2 : n ≤ 1000000000) : ACalls Try.prog 65 [.int .i64 n, .int .i64 a] σ (fun r σ' => r = .ret (.bool (Aig.litN n a)) ∧ σ' = σ) := by
 refine calls_x mixed Try.func65 b65 n65 rfl q65 (by simp) ?_; unfold c65 r65
 repeat' (first | simp (maxDischargeDepth := 9) -implicitDefEqProofs -dsimp only [go_sem, seval, ge_iff_le, *] | simp (disch := omega) only [wrap64] | (with_reducible (first | apply Za) <;> intro hq))
 ·refine fin_eq ?_
  (repeat' simp (maxDischargeDepth := 9) -implicitDefEqProofs -dsimp only [go_sem, seval, Aig.litN, *])
 ·refine fin_eq ?_
  (repeat' simp (maxDischargeDepth := 9) -implicitDefEqProofs -dsimp only [go_sem, seval, Aig.litN, *])
theorem ref_Count (g : Aig) (σ : Sig) (hs : Small g) : ACalls Try.prog 60 [encAig g] σ (fun r σ' => r = .ret (.int .i64 (1 + g.count)) ∧ σ' = σ) := by
 refine calls_x mixed Try.func60 b60 n60 rfl q60 (by simp) ?_; unfold c60 r60
 obtain ⟨⟨h0, h1, h2, h3, h4, h5, h6⟩, h7, h8⟩ := hs
 repeat' (first | simp (maxDischargeDepth := 9) -implicitDefEqProofs -dsimp only [go_sem, seval, *] | simp (disch := omega) only [wrap64])
 exact fin_id ⟨by simp only [Aig.count, Int.add_assoc], rfl⟩
theorem ref_Check (g : Aig) (σ : Sig) (hs : Wf g) : ACalls Try.prog 32 [encAig g] σ (fun r σ' => r = .ret (.int .i64 g.check) ∧ σ' = σ) := by
 refine calls_x mixed Try.func32 b32 n32 rfl q32 (by simp) ?_; unfold c32 r32
 have hfl := hs.flops
 have hal := hs.ands
 have hol := hs.outs
 by_cases hlo : g.ins < 0
 ·have hv : g.check = 1 := by simp [Aig.check, hlo]
  repeat' simp (maxDischargeDepth := 9) -implicitDefEqProofs -dsimp only [go_sem, seval, *]
  refine fin_eq ?_
  (repeat' simp (maxDischargeDepth := 9) -implicitDefEqProofs -dsimp only [go_sem, seval, *])
 by_cases hhi : 65536 < g.ins
 ·have hv : g.check = 2 := by simp [Aig.check, hlo, hhi]
  repeat' simp (maxDischargeDepth := 9) -implicitDefEqProofs -dsimp only [go_sem, seval, gt_iff_lt, *]
  refine fin_eq ?_
  (repeat' simp (maxDischargeDepth := 9) -implicitDefEqProofs -dsimp only [go_sem, seval, *])
 have hsm : Small g := ⟨hs, by omega, by omega⟩
 by_cases hb : 65536 < g.count ∨ 65536 < (g.outs.length : Int)
 ·have hv : g.check = 2 := by simp [Aig.check, hlo, hhi, hb]
  have hb' : 65536 < g.ins + g.flops.length + g.ands.length ∨ 65536 < (g.outs.length : Int) := hb
  repeat' (first | simp (maxDischargeDepth := 9) -implicitDefEqProofs -dsimp only [go_sem, seval, gt_iff_lt, *] | simp (disch := omega) only [wrap64] | (with_reducible (first | apply Zb | apply Zc | apply Zp | apply Zr) <;> intro hq))
  all_goals first | (exfalso; omega) | (refine fin_eq ?_; (repeat' simp (maxDischargeDepth := 9) -implicitDefEqProofs -dsimp only [go_sem, seval, *]))
 have hv : g.check = if g.good then 0 else 1 := by simp [Aig.check, hlo, hhi, hb]
 have hcnt : g.ins + g.flops.length + g.ands.length ≤ 65536 ∧ (g.outs.length : Int) ≤ 65536 := by
  unfold Aig.count at hb; omega
 have hc1 : 0 ≤ g.count ∧ g.count ≤ 65536 := by unfold Aig.count; omega
 have bad1 : ∀ i, (h : i < g.ands.length) → ¬ (Aig.litN (1 + g.ins + g.flops.length + i) g.ands[i].1 = true ∧ Aig.litN (1 + g.ins + g.flops.length + i) g.ands[i].2 = true) → g.good = false := fun i h hn => by
  have : Aig.gatesOk g.first g.ands = false := gatesOk_false h (fun ⟨k1, k2⟩ => hn ⟨litN_iff.2 (by unfold Aig.first at k1; omega), litN_iff.2 (by unfold Aig.first at k2; omega)⟩)
  simp [Aig.good, this]
 have bad2 : ∀ i, (h : i < g.flops.length) → Aig.litN (1 + g.count) g.flops[i].next = false → g.good = false := fun i h hn => by
  have : (g.flops.any fun f => !g.lit f.next) = true := by simp only [List.any_eq_true]; exact ⟨_, List.getElem_mem h, by simp [Aig.lit, hn]⟩
  simp [Aig.good, this]
 have bad3 : ∀ i, (h : i < g.outs.length) → Aig.litN (1 + g.count) g.outs[i] = false → g.good = false := fun i h hn => by
  have : (g.outs.any fun a => !g.lit a) = true := by simp only [List.any_eq_true]; exact ⟨_, List.getElem_mem h, by simp [Aig.lit, hn]⟩
  simp [Aig.good, this]
 have hb2 : ¬ 65536 < (g.outs.length : Int) := by omega
 have hb3 : ¬ 65536 < g.ins + g.flops.length + g.ands.length := by omega
 repeat' (first | simp (maxDischargeDepth := 9) -implicitDefEqProofs -dsimp only [go_sem, seval, gt_iff_lt, *] | simp (disch := omega) only [wrap64])
 refine loop_rule (fun i : Nat => [(4, some (.int .i64 i)), (1, some (.cptr (aigL g))), (3, some (.int .i64 (1 + g.ins + g.flops.length)))]) (fun _ => σ)
  (fun i => i ≤ g.ands.length ∧ ∀ j, (hj : j < g.ands.length) → j < i → Aig.litN (1 + g.ins + g.flops.length + j) g.ands[j].1 = true ∧ Aig.litN (1 + g.ins + g.flops.length + j) g.ands[j].2 = true) (fun i => g.ands.length - i) 0 ?_ ?_
 ·(repeat' simp (maxDischargeDepth := 9) -implicitDefEqProofs -dsimp only [go_sem, seval, *]) <;> (repeat' refine And.intro ?_ ?_) <;> (first | omega | skip)
 ·rintro i ⟨hi, hok1⟩
  by_cases hlt : i < g.ands.length
  ·have hgb := bad1 i hlt
   clear bad1 bad2 bad3
   repeat' (first | simp (maxDischargeDepth := 9) -implicitDefEqProofs -dsimp only [go_sem, seval, *] | simp (disch := omega) only [wrap64] | (with_reducible (first | apply Zb | apply Zc | apply Zp | apply Zr) <;> intro hq) | ((with_reducible refine Zu ?_ ?_); focus omega) | ((with_reducible apply ACalls.one1); (focus ((first | with_reducible refine ref_Lit (1 + g.ins + g.flops.length + i) g.ands[i].1 _ ?_ ?_ | with_reducible refine ref_Lit (1 + g.ins + g.flops.length + i) g.ands[i].2 _ ?_ ?_) <;> (first | (simp (maxDischargeDepth := 9) -implicitDefEqProofs -dsimp only [go_sem, seval, *]; done) | omega))); (focus (first | trivial | with_reducible exact rfl | (simp (maxDischargeDepth := 9) -implicitDefEqProofs -dsimp only [go_sem, seval]; done)))))
   all_goals first | (have hx : g.good = false := hgb (by simp [*]); refine fin_eq ?_; (repeat' simp (maxDischargeDepth := 9) -implicitDefEqProofs -dsimp only [go_sem, seval, Bool.false_eq_true, *]); done) | skip
   refine loop_next _ _ _ _ (i + 1) ?_; (repeat' simp (maxDischargeDepth := 9) -implicitDefEqProofs -dsimp only [go_sem, seval, *]) <;> (repeat' refine And.intro ?_ ?_) <;> (first | omega | skip)
   intro j hj h
   rcases Nat.lt_or_ge j i with h' | h'
   ·exact hok1 j hj h'
   ·obtain rfl : j = i := by omega
    exact ⟨by assumption, by assumption⟩
  ·repeat' simp (maxDischargeDepth := 9) -implicitDefEqProofs -dsimp only [go_sem, seval, *]
   refine loop_rule (fun i : Nat => [(5, some (.int .i64 i)), (1, some (.cptr (aigL g)))]) (fun _ => σ) (fun i => i ≤ g.flops.length ∧ ∀ j, (hj : j < g.flops.length) → j < i → Aig.litN (1 + g.count) g.flops[j].next = true) (fun i => g.flops.length - i) 0 ?_ ?_
   ·(repeat' simp (maxDischargeDepth := 9) -implicitDefEqProofs -dsimp only [go_sem, seval, *]) <;> (repeat' refine And.intro ?_ ?_) <;> (first | omega | skip)
   ·rintro k ⟨hk, hok2⟩
    by_cases hlt2 : k < g.flops.length
    ·have hgb := bad2 k hlt2
     clear bad1 bad2 bad3
     repeat' (first | simp (maxDischargeDepth := 9) -implicitDefEqProofs -dsimp only [go_sem, seval, *] | simp (disch := omega) only [wrap64] | (with_reducible (first | apply Zb | apply Zc | apply Zp | apply Zr) <;> intro hq) | ((with_reducible refine Zu ?_ ?_); focus omega) | ((with_reducible apply id_one0); (focus (intro tS hS; ((first | with_reducible refine ref_Count g _ hsm | with_reducible refine ref_Lit (1 + g.count) g.flops[k].next _ ?_ ?_) <;> (first | (simp (maxDischargeDepth := 9) -implicitDefEqProofs -dsimp only [go_sem, seval, *]; done) | omega | ((with_reducible refine Sub.get hS ?_); simp (maxDischargeDepth := 9) -implicitDefEqProofs -dsimp only [go_sem, seval, *]; done))))); (focus (first | trivial | (simp (maxDischargeDepth := 9) -implicitDefEqProofs -dsimp only [go_sem, seval, *]; done)))))
     ·refine loop_next _ _ _ _ (k + 1) ?_; (repeat' simp (maxDischargeDepth := 9) -implicitDefEqProofs -dsimp only [go_sem, seval, *]) <;> (repeat' refine And.intro ?_ ?_) <;> (first | omega | skip)
      intro j hj h
      rcases Nat.lt_or_ge j k with h' | h'
      ·exact hok2 j hj h'
      ·obtain rfl : j = k := by omega
       assumption
     ·have hx := hgb hq
      refine fin_eq ?_
      (repeat' simp (maxDischargeDepth := 9) -implicitDefEqProofs -dsimp only [go_sem, seval, Bool.false_eq_true, *])
    ·repeat' simp (maxDischargeDepth := 9) -implicitDefEqProofs -dsimp only [go_sem, seval, *]
     refine loop_rule (fun i : Nat => [(6, some (.int .i64 i)), (1, some (.cptr (aigL g)))]) (fun _ => σ) (fun i => i ≤ g.outs.length ∧ ∀ j, (hj : j < g.outs.length) → j < i → Aig.litN (1 + g.count) g.outs[j] = true) (fun i => g.outs.length - i) 0 ?_ ?_
     ·(repeat' simp (maxDischargeDepth := 9) -implicitDefEqProofs -dsimp only [go_sem, seval, *]) <;> (repeat' refine And.intro ?_ ?_) <;> (first | omega | skip)
     ·rintro m ⟨hm, hok3⟩
      by_cases hlt3 : m < g.outs.length
      ·have hgb := bad3 m hlt3
       clear bad1 bad2 bad3
       repeat' (first | simp (maxDischargeDepth := 9) -implicitDefEqProofs -dsimp only [go_sem, seval, *] | simp (disch := omega) only [wrap64] | (with_reducible (first | apply Zb | apply Zc | apply Zp | apply Zr) <;> intro hq) | ((with_reducible refine Zu ?_ ?_); focus omega) | ((with_reducible apply id_one0); (focus (intro tS hS; ((first | with_reducible refine ref_Count g _ hsm | with_reducible refine ref_Lit (1 + g.count) g.outs[m] _ ?_ ?_) <;> (first | (simp (maxDischargeDepth := 9) -implicitDefEqProofs -dsimp only [go_sem, seval, *]; done) | omega | ((with_reducible refine Sub.get hS ?_); simp (maxDischargeDepth := 9) -implicitDefEqProofs -dsimp only [go_sem, seval, *]; done))))); (focus (first | trivial | (simp (maxDischargeDepth := 9) -implicitDefEqProofs -dsimp only [go_sem, seval, *]; done)))))
       ·refine loop_next _ _ _ _ (m + 1) ?_; (repeat' simp (maxDischargeDepth := 9) -implicitDefEqProofs -dsimp only [go_sem, seval, *]) <;> (repeat' refine And.intro ?_ ?_) <;> (first | omega | skip)
        intro j hj h
        rcases Nat.lt_or_ge j m with h' | h'
        ·exact hok3 j hj h'
        ·obtain rfl : j = m := by omega
         assumption
       ·have hx := hgb hq
        refine fin_eq ?_
        (repeat' simp (maxDischargeDepth := 9) -implicitDefEqProofs -dsimp only [go_sem, seval, Bool.false_eq_true, *])
      ·have hgood : g.good = true := by
        have q1 : Aig.gatesOk g.first g.ands = true := gatesOk_iff.2 fun j hj => by
         obtain ⟨k1, k2⟩ := hok1 j hj (by omega)
         have k1 := litN_iff.1 k1
         have k2 := litN_iff.1 k2
         unfold Aig.first
         omega
        have q2 : (g.flops.any fun f => !g.lit f.next) = false := by
         simp only [List.any_eq_false, Bool.not_eq_true, Bool.not_eq_false']
         intro f hf
         obtain ⟨j, hj, rfl⟩ := List.getElem_of_mem hf
         exact hok2 j hj (by omega)
        have q3 : (g.outs.any fun a => !g.lit a) = false := by
         simp only [List.any_eq_false, Bool.not_eq_true, Bool.not_eq_false']
         intro f hf
         obtain ⟨j, hj, rfl⟩ := List.getElem_of_mem hf
         exact hok3 j hj (by omega)
        simp [Aig.good, q1, q2, q3]
       clear bad1 bad2 bad3
       repeat' simp (maxDischargeDepth := 9) -implicitDefEqProofs -dsimp only [go_sem, seval, *]
       refine fin_eq ?_
       (repeat' simp (maxDischargeDepth := 9) -implicitDefEqProofs -dsimp only [go_sem, seval, *])
end Go.Proofs.Ytapnlmhfacoceaa.A

namespace Go.Proofs.Ytapnlmhfacoceaa.A
open Abs Fil
theorem ref_Bools (a b : List Bool) (σ : Sig) (ha : a.length ≤ 1000000000) :
  ACalls Try.prog 35 [.slice (a.map encBool) .no, .slice (b.map encBool) .no] σ (fun r σ' => r = .ret (.bool (decide (a = b))) ∧ σ' = σ) := by
 refine calls_x mixed Try.func35 b35 n35 rfl q35 (by simp) ?_; unfold c35 r35
 by_cases hl : a.length = b.length
 ·repeat' simp (maxDischargeDepth := 9) -implicitDefEqProofs -dsimp only [go_sem, seval, *]
  have hl' := And.intro (Nat.le_of_eq hl) (Nat.le_of_eq hl.symm)
  clear hl
  refine loop_rule (fun i : Nat => [(0, some (.slice (a.map encBool) .no)), (1, some (.slice (b.map encBool) .no)), (5, some (.int .i64 i))]) (fun _ => σ) (fun i => i ≤ a.length ∧ ∀ j, (hj : j < a.length) → j < i → a[j] = b[j]) (fun i => a.length - i) 0 ?_ ?_
  ·(repeat' simp (maxDischargeDepth := 9) -implicitDefEqProofs -dsimp only [go_sem, seval, *]) <;> (repeat' refine And.intro ?_ ?_) <;> (first | omega | skip)
  ·rintro i ⟨hi, hok⟩
   by_cases hlt : i < a.length
   ·have hlt' : i < b.length := by omega
    obtain ⟨x, hx⟩ : ∃ x, a[i] = x := ⟨_, rfl⟩
    obtain ⟨y, hy⟩ : ∃ y, b[i] = y := ⟨_, rfl⟩
    by_cases he : x = y
    ·subst he
     repeat' (first | simp (maxDischargeDepth := 9) -implicitDefEqProofs -dsimp only [go_sem, seval, *] | simp (disch := omega) only [wrap64] | ((with_reducible refine Zu ?_ ?_); focus omega))
     refine loop_next _ _ _ _ (i + 1) ?_; (repeat' simp (maxDischargeDepth := 9) -implicitDefEqProofs -dsimp only [go_sem, seval, *]) <;> (repeat' refine And.intro ?_ ?_) <;> (first | omega | skip)
     intro j hj hji
     rcases Nat.lt_or_ge j i with h' | h'
     ·exact hok j hj h'
     ·obtain rfl : j = i := by omega
      rw [hx, hy]
    ·have hv : decide (a = b) = false := by simp; intro e; exact he (by rw [← hx, ← hy]; simp only [e])
     have hb : (x == y) = false := by simpa using he
     repeat' (first | simp (maxDischargeDepth := 9) -implicitDefEqProofs -dsimp only [go_sem, seval, *] | ((with_reducible refine Zu ?_ ?_); focus omega))
     refine fin_eq ?_
     (repeat' simp (maxDischargeDepth := 9) -implicitDefEqProofs -dsimp only [go_sem, seval, *])
   ·have hv : decide (a = b) = true := by simp; exact List.ext_getElem (by omega) fun j hj _ => hok j hj (by omega)
    repeat' simp (maxDischargeDepth := 9) -implicitDefEqProofs -dsimp only [go_sem, seval, *]
    refine fin_eq ?_
    (repeat' simp (maxDischargeDepth := 9) -implicitDefEqProofs -dsimp only [go_sem, seval, *])
 ·have hb : ((a.length : Int) != b.length) = true := by simp; omega
  have hv : decide (a = b) = false := by simp; intro e; exact hl (by rw [e])
  repeat' simp (maxDischargeDepth := 9) -implicitDefEqProofs -dsimp only [go_sem, seval, *]
  refine fin_eq ?_
  (repeat' simp (maxDischargeDepth := 9) -implicitDefEqProofs -dsimp only [go_sem, seval, *])
theorem ref_Init (g : Aig) (σ : Sig) (hl : g.flops.length ≤ 1000000) :
  ACalls Try.prog 34 [encAig g] σ (fun r σ' => r = .ret (.slice ((g.flops.map (·.init)).map encBool) .no) ∧ σ' = σ) := by
 refine ACalls.virt (callable_of Try.func34 b34 n34) 1 (fun oV1 hoV1 hnV1 hnV1' => ?_); (try simp only [upd_none, ne_eq, not_and] at hoV1); refine calls_x mixed Try.func34 b34 n34 rfl q34 (by simp) ?_; unfold c34 r34
 repeat' simp (maxDischargeDepth := 9) -implicitDefEqProofs -dsimp only [go_sem, seval, *]
 refine loop_rule (fun i : Nat => [(4, some (.int .i64 i)), (1, some (.cptr (aigL g))), (3, some (.slice (((g.flops.take i).map (·.init)).map encBool) (.own oV1)))])
  (fun i => upd σ oV1 (.grow 1 i)) (fun i => i ≤ g.flops.length) (fun i => g.flops.length - i) 0 ?_ ?_
 ·(repeat' simp (maxDischargeDepth := 9) -implicitDefEqProofs -dsimp only [go_sem, seval, *]) <;> (first | omega | skip)
 ·intro i hi'
  by_cases hlt : i < g.flops.length
  ·have hs := take_succ hlt
   have hlen : (g.flops.take i).length = i := by simp; omega
   repeat' (first | simp (maxDischargeDepth := 9) -implicitDefEqProofs -dsimp only [go_sem, seval, *] | simp (disch := omega) only [wrap64] | ((with_reducible refine Zv ?_ ?_); focus (first | omega | exact rfl)) | ((with_reducible refine Zu ?_ ?_); focus omega))
   refine loop_next _ _ _ _ (i + 1) ?_; (repeat' simp (maxDischargeDepth := 9) -implicitDefEqProofs -dsimp only [go_sem, seval, *]) <;> (repeat' refine And.intro ?_ ?_) <;> (first | omega | skip)
  ·repeat' simp (maxDischargeDepth := 9) -implicitDefEqProofs -dsimp only [go_sem, seval, *]
   refine fin_eq ?_
   have e0 : g.flops.take i = g.flops := List.take_of_length_le (by omega)
   (repeat' simp (maxDischargeDepth := 9) -implicitDefEqProofs -dsimp only [go_sem, seval, e0, *])
end Go.Proofs.Ytapnlmhfacoceaa.A

namespace Abs
open Go
inductive Sh where
 | bool
 | int (k : IntKind)
 | str
 | slice (agg : Bool) (e : Sh)
 | row (l : List Sh)
def shAll (f : TypeId → Option Sh) : List TypeId → Option (List Sh)
 | [] => some []
 | t :: ts => match f t, shAll f ts with
  | some s, some l => some (s :: l)
  | _, _ => none
def shOf (P : Program) : Nat → TypeId → Option Sh
 | 0, _ => none
 | g + 1, t =>
  match P.underlying t with
  | some .bool => some .bool
  | some (.int k) => some (.int k)
  | some .string => some .str
  | some (.slice e) => (shOf P g e).map (.slice (isAgg P e))
  | some (.struct fs) => (shAll (shOf P g) (fs.toList.map (·.type))).map .row
  | some (.array n e) => (shAll (shOf P g) (List.replicate n e)).map .row
  | _ => none
mutual
def ShC : Sh → List AV → Prop
 | .bool, cs => ∃ b, cs = [.bool b]
 | .int k, cs => ∃ n, cs = [.int k n] ∧ k.min ≤ n ∧ n ≤ k.max
 | .str, cs => ∃ s : ByteArray, cs = [.str s] ∧ s.size ≤ maxLen
 | .slice b e, cs => ∃ l, cs = [.slice l .no] ∧ l.length ≤ maxLen ∧ ∀ x ∈ l, ∃ es, mkv b es = some x ∧ ShC e es
 | .row l, cs => ShL l cs
def ShL : List Sh → List AV → Prop
 | [], cs => cs = []
 | s :: l, cs => ∃ p q, cs = p ++ q ∧ ShC s p ∧ ShL l q
end
theorem cells_sh {P : Program} : ∀ (g : Nat) (t : TypeId) (s : Sh) (cs : List AV), shOf P g t = some s → Cells P g t cs → ShC s cs
 | 0, _, _, _, h, _ => by simp [shOf] at h
 | g + 1, t, s, cs, h, hc => by
  have all : ∀ (ts : List TypeId) (l : List Sh) (cs : List AV), shAll (shOf P g) ts = some l → CellsL (Cells P g) ts cs → ShL l cs := by
   intro ts
   induction ts with
   | nil => intro l cs h hc; simp [shAll] at h; subst h; simpa [ShL, CellsL] using hc
   | cons t ts ih =>
    intro l cs h hc
    simp only [shAll] at h
    split at h <;> simp at h
    rename_i s' l' h1 h2
    subst h
    obtain ⟨p, q, e, c1, c2⟩ := hc
    exact ⟨p, q, e, cells_sh g t s' p h1 c1, ih l' q h2 c2⟩
  simp only [shOf] at h
  simp only [Cells] at hc
  split at h
  ·rename_i hu; rw [hu] at hc; simp at h; subst h; exact hc
  ·rename_i k hu; rw [hu] at hc; simp at h; subst h; exact hc
  ·rename_i hu; rw [hu] at hc; simp at h; subst h; exact hc
  ·rename_i e hu
   rw [hu] at hc
   simp only [Option.map_eq_some_iff] at h
   obtain ⟨s', h1, rfl⟩ := h
   obtain ⟨l, e1, e2, e3⟩ := hc
   refine ⟨l, e1, e2, fun x hx => ?_⟩
   obtain ⟨es, k1, k2⟩ := e3 x hx
   exact ⟨es, k1, cells_sh g e s' es h1 k2⟩
  ·rename_i fs hu
   rw [hu] at hc
   simp only [Option.map_eq_some_iff] at h
   obtain ⟨l, h1, rfl⟩ := h
   exact all _ l cs h1 hc
  ·rename_i n e hu
   rw [hu] at hc
   simp only [Option.map_eq_some_iff] at h
   obtain ⟨l, h1, rfl⟩ := h
   exact all _ l cs h1 hc
  ·simp at h
def ShV (b : Bool) (s : Sh) (a : AV) : Prop := ∃ es, mkv b es = some a ∧ ShC s es
def ShVs : List (Bool × Sh) → List AV → Prop
 | [], as_ => as_ = []
 | p :: l, as_ => ∃ a r, as_ = a :: r ∧ ShV p.1 p.2 a ∧ ShVs l r
def argSh (P : Program) (g : Nat) : List TypeId → Option (List (Bool × Sh))
 | [] => some []
 | t :: ts => match shOf P g t, argSh P g ts with
  | some s, some l => some ((isAgg P t, s) :: l)
  | _, _ => none
theorem args_sh {P : Program} {g : Nat} : ∀ {ts : List TypeId} {l : List (Bool × Sh)} {as_ : List AV}, argSh P g ts = some l → ArgsAre P g ts as_ → ShVs l as_
 | [], l, [], h, _ => by simp [argSh] at h; subst h; rfl
 | [], _, _ :: _, _, ha => ha.elim
 | t :: ts, _, [], _, ha => ha.elim
 | t :: ts, l, a :: as_, h, ha => by
  simp only [argSh] at h
  split at h <;> simp at h
  rename_i s l' h1 h2
  subst h
  obtain ⟨⟨es, k1, k2⟩, k3⟩ := ha
  exact ⟨a, as_, rfl, ⟨es, k1, cells_sh g t s es h1 k2⟩, args_sh h2 k3⟩
theorem list_dec {α : Type} {f : α → AV} {p : α → Prop} : ∀ {l : List AV}, (∀ x ∈ l, ∃ y, x = f y ∧ p y) → ∃ m : List α, l = m.map f ∧ ∀ y ∈ m, p y
 | [], _ => ⟨[], rfl, by simp⟩
 | x :: l, h => by
  obtain ⟨y, e, hy⟩ := h x (by simp)
  obtain ⟨m, e', hm⟩ := list_dec (l := l) fun x hx => h x (by simp [hx])
  exact ⟨y :: m, by simp [e, e'], by simpa using ⟨hy, hm⟩⟩
theorem shv_int {k : IntKind} {a : AV} (h : ShV false (.int k) a) : ∃ n, a = .int k n ∧ k.min ≤ n ∧ n ≤ k.max := by
 obtain ⟨es, h1, n, rfl, h2⟩ := h
 simp [mkv] at h1
 exact ⟨n, h1.symm, h2⟩
theorem shv_bool {a : AV} (h : ShV false .bool a) : ∃ b, a = .bool b := by
 obtain ⟨es, h1, b, rfl⟩ := h
 simp [mkv] at h1
 exact ⟨b, h1.symm⟩
theorem shv_slice {b : Bool} {e : Sh} {a : AV} (h : ShV false (.slice b e) a) {α : Type} {f : α → AV} {p : α → Prop} (hd : ∀ x, ShV b e x → ∃ y, x = f y ∧ p y) : ∃ m : List α, a = .slice (m.map f) .no ∧ m.length ≤ maxLen ∧ ∀ y ∈ m, p y := by
 obtain ⟨es, h1, l, rfl, h2, h3⟩ := h
 simp [mkv] at h1
 obtain ⟨m, rfl, hm⟩ := list_dec (f := f) (p := p) (l := l) fun x hx => hd x (h3 x hx)
 exact ⟨m, h1.symm, by simpa using h2, hm⟩
theorem shc_slice {b : Bool} {e : Sh} {cs : List AV} (h : ShC (.slice b e) cs) {α : Type} {f : α → AV} {p : α → Prop} (hd : ∀ x, ShV b e x → ∃ y, x = f y ∧ p y) : ∃ m : List α, cs = [.slice (m.map f) .no] ∧ m.length ≤ maxLen ∧ ∀ y ∈ m, p y := by
 obtain ⟨l, rfl, h2, h3⟩ := h
 obtain ⟨m, rfl, hm⟩ := list_dec (f := f) (p := p) (l := l) fun x hx => hd x (h3 x hx)
 exact ⟨m, rfl, by simpa using h2, hm⟩
end Abs

namespace Fil.Bd
abbrev T3 := Int × Int × Int
def frk (F : List T3) (n : Int) : T3 := F.getD n.toNat (0, 0, 0)
def top (vars : Int) (F : List T3) (n : Int) : Int := if n < 2 then vars else (frk F n).1
def tab (F : List T3) : Nat → Int → Int → List Bool
 | 0, _, n => [n == 1]
 | k + 1, v, n => if 2 ≤ n ∧ (frk F n).1 = v then tab F k (v + 1) (frk F n).2.1 ++ tab F k (v + 1) (frk F n).2.2 else tab F k (v + 1) n ++ tab F k (v + 1) n
structure Ok (vars : Int) (F : List T3) : Prop where
 two : 2 ≤ F.length
 lo : 0 ≤ vars
 var : ∀ i : Int, 2 ≤ i → i < F.length → 0 ≤ (frk F i).1 ∧ (frk F i).1 < vars
 ne : ∀ i : Int, 2 ≤ i → i < F.length → (frk F i).2.1 ≠ (frk F i).2.2
 low : ∀ i : Int, 2 ≤ i → i < F.length → 0 ≤ (frk F i).2.1 ∧ (frk F i).2.1 < i ∧ (frk F i).1 < top vars F (frk F i).2.1
 high : ∀ i : Int, 2 ≤ i → i < F.length → 0 ≤ (frk F i).2.2 ∧ (frk F i).2.2 < i ∧ (frk F i).1 < top vars F (frk F i).2.2
 uniq : ∀ i j : Int, 2 ≤ i → i < F.length → 2 ≤ j → j < F.length → frk F i = frk F j → i = j
def In (vars : Int) (F : List T3) (v n : Int) : Prop := 0 ≤ n ∧ n < F.length ∧ v ≤ top vars F n
theorem tab_len (F : List T3) : ∀ k v n, (tab F k v n).length = 2 ^ k
 | 0, v, n => rfl
 | k + 1, v, n => by
  simp only [tab]
  split <;> simp [tab_len F k] <;> omega
theorem tab_at {F : List T3} {k v n} (h : 2 ≤ n ∧ (frk F n).1 = v) : tab F (k + 1) v n = tab F k (v + 1) (frk F n).2.1 ++ tab F k (v + 1) (frk F n).2.2 := by rw [tab, if_pos h]
theorem tab_up {F : List T3} {k v n} (h : ¬ (2 ≤ n ∧ (frk F n).1 = v)) : tab F (k + 1) v n = tab F k (v + 1) n ++ tab F k (v + 1) n := by rw [tab, if_neg h]
theorem In.up {vars F v n} (h : In vars F v n) (ho : Ok vars F) {k : Nat} (hv : v + (k + 1 : Nat) = vars) (hn : ¬ (2 ≤ n ∧ (frk F n).1 = v)) : In vars F (v + 1) n := by
 obtain ⟨h1, h2, h3⟩ := h
 refine ⟨h1, h2, ?_⟩
 unfold top at h3 ⊢
 split
 ·omega
 ·rename_i h4
  rw [if_neg h4] at h3
  have : (frk F n).1 ≠ v := fun e => hn ⟨by omega, e⟩
  omega
theorem In.lo {vars F v n} (h : In vars F v n) (ho : Ok vars F) (hn : 2 ≤ n ∧ (frk F n).1 = v) : In vars F (v + 1) (frk F n).2.1 := by
 obtain ⟨h1, h2, h3⟩ := h
 obtain ⟨a, b, c⟩ := ho.low n hn.1 h2
 exact ⟨a, by omega, by omega⟩
theorem In.hi {vars F v n} (h : In vars F v n) (ho : Ok vars F) (hn : 2 ≤ n ∧ (frk F n).1 = v) : In vars F (v + 1) (frk F n).2.2 := by
 obtain ⟨h1, h2, h3⟩ := h
 obtain ⟨a, b, c⟩ := ho.high n hn.1 h2
 exact ⟨a, by omega, by omega⟩
theorem In.end {vars F n} (h : In vars F vars n) (ho : Ok vars F) : n = 0 ∨ n = 1 := by
 obtain ⟨h1, h2, h3⟩ := h
 unfold top at h3
 split at h3
 ·omega
 ·have := (ho.var n (by omega) h2).2
  omega
theorem canon {vars F} (ho : Ok vars F) : ∀ (k : Nat) (v n m : Int), v + k = vars → In vars F v n → In vars F v m → tab F k v n = tab F k v m → n = m
 | 0, v, n, m, hv, hn, hm, h => by
  have e : v = vars := by omega
  subst e
  rcases hn.end ho with rfl | rfl <;> rcases hm.end ho with rfl | rfl <;> first | rfl | (exfalso; revert h; simp [tab])
 | k + 1, v, n, m, hv, hn, hm, h => by
  have ih := canon ho k (v + 1)
  have hl : ∀ a b, (tab F k (v + 1) a).length = (tab F k (v + 1) b).length := fun a b => by rw [tab_len, tab_len]
  by_cases c1 : 2 ≤ n ∧ (frk F n).1 = v <;> by_cases c2 : 2 ≤ m ∧ (frk F m).1 = v
  ·rw [tab_at c1, tab_at c2] at h
   obtain ⟨e1, e2⟩ := List.append_inj h (hl _ _)
   have q1 := ih _ _ (by omega) (hn.lo ho c1) (hm.lo ho c2) e1
   have q2 := ih _ _ (by omega) (hn.hi ho c1) (hm.hi ho c2) e2
   refine ho.uniq n m c1.1 hn.2.1 c2.1 hm.2.1 ?_
   exact Prod.ext (c1.2.trans c2.2.symm) (Prod.ext q1 q2)
  ·rw [tab_at c1, tab_up c2] at h
   obtain ⟨e1, e2⟩ := List.append_inj h (hl _ _)
   have q1 := ih _ _ (by omega) (hn.lo ho c1) (hm.up ho hv c2) e1
   have q2 := ih _ _ (by omega) (hn.hi ho c1) (hm.up ho hv c2) e2
   exact absurd (q1.trans q2.symm) (ho.ne n c1.1 hn.2.1)
  ·rw [tab_up c1, tab_at c2] at h
   obtain ⟨e1, e2⟩ := List.append_inj h (hl _ _)
   have q1 := ih _ _ (by omega) (hn.up ho hv c1) (hm.lo ho c2) e1
   have q2 := ih _ _ (by omega) (hn.up ho hv c1) (hm.hi ho c2) e2
   exact absurd (q1.symm.trans q2) (ho.ne m c2.1 hm.2.1)
  ·rw [tab_up c1, tab_up c2] at h
   obtain ⟨e1, e2⟩ := List.append_inj h (hl _ _)
   exact ih _ _ (by omega) (hn.up ho hv c1) (hm.up ho hv c2) e1

/-! ### What is there stays -/
theorem frk_app {F l : List T3} {n : Int} (h0 : 0 ≤ n) (h : n < F.length) : frk (F ++ l) n = frk F n := by
 unfold frk
 rw [List.getD_eq_getElem?_getD, List.getD_eq_getElem?_getD, List.getElem?_append_left (by omega)]
theorem top_app {vars} {F l : List T3} {n : Int} (h : n < F.length) : top vars (F ++ l) n = top vars F n := by
 unfold top
 split
 ·rfl
 ·rw [frk_app (by omega) h]
theorem In.app {vars F v n} (l : List T3) (h : In vars F v n) : In vars (F ++ l) v n :=
 ⟨h.1, by have := h.2.1; simp; omega, by rw [top_app h.2.1]; exact h.2.2⟩
theorem tab_app {vars F} (ho : Ok vars F) (l : List T3) : ∀ (k : Nat) (v n : Int), 0 ≤ n → n < F.length → tab (F ++ l) k v n = tab F k v n
 | 0, v, n, _, _ => rfl
 | k + 1, v, n, h0, h => by
  simp only [tab, frk_app h0 h]
  split
  ·rename_i c
   obtain ⟨a, b, _⟩ := ho.low n c.1 h
   obtain ⟨a', b', _⟩ := ho.high n c.1 h
   rw [tab_app ho l k _ _ a (by omega), tab_app ho l k _ _ a' (by omega)]
  ·rw [tab_app ho l k _ _ h0 h]

/-! ### What is put -/
def fnd : List T3 → T3 → Int → Option Int
 | [], _, _ => none
 | y :: r, x, i => if y = x then some i else fnd r x (i + 1)
theorem fnd_some : ∀ {l : List T3} {x : T3} {i n : Int}, fnd l x i = some n → i ≤ n ∧ n < i + l.length ∧ l.getD (n - i).toNat (0, 0, 0) = x
 | [], x, i, n, h => by simp [fnd] at h
 | y :: r, x, i, n, h => by
  simp only [fnd] at h
  split at h
  ·rename_i e
   simp at h; subst h
   simp [e]; omega
  ·obtain ⟨a, b, c⟩ := fnd_some h
   refine ⟨by omega, by simp; omega, ?_⟩
   have : (n - i).toNat = (n - (i + 1)).toNat + 1 := by omega
   rw [this]; simpa using c
theorem fnd_none : ∀ {l : List T3} {x : T3} {i : Int}, fnd l x i = none → ∀ j : Nat, j < l.length → l.getD j (0, 0, 0) ≠ x
 | [], x, i, h, j, hj => by simp at hj
 | y :: r, x, i, h, j, hj => by
  simp only [fnd] at h
  split at h
  ·simp at h
  ·rename_i e
   cases j with
   | zero => simpa using e
   | succ j => simpa using fnd_none h j (by simpa using hj)
def find (F : List T3) (x : T3) : Option Int := fnd (F.drop 2) x 2
theorem getD_drop (F : List T3) (i : Nat) : (F.drop 2).getD i (0, 0, 0) = F.getD (2 + i) (0, 0, 0) := by
 simp [List.getD_eq_getElem?_getD]
theorem find_some {F x n} (h : find F x = some n) : 2 ≤ n ∧ n < F.length ∧ frk F n = x := by
 obtain ⟨a, b, c⟩ := fnd_some h
 rw [getD_drop] at c
 simp only [List.length_drop] at b
 refine ⟨a, by omega, ?_⟩
 unfold frk
 rw [← c]; congr 1; omega
theorem find_none {F x} (h : find F x = none) (n : Int) (h2 : 2 ≤ n) (hn : n < F.length) : frk F n ≠ x := by
 have := fnd_none h (n.toNat - 2) (by simp; omega)
 rw [getD_drop] at this
 unfold frk
 rwa [show 2 + (n.toNat - 2) = n.toNat by omega] at this
theorem find_eq {vars F} (ho : Ok vars F) {n : Int} (h2 : 2 ≤ n) (hn : n < F.length) {x} (hx : frk F n = x) : find F x = some n := by
 cases h : find F x with
 | none => exact absurd hx (find_none h n h2 hn)
 | some m =>
  obtain ⟨a, b, c⟩ := find_some h
  rw [ho.uniq n m h2 hn a b (hx.trans c.symm)]
def put : Nat → List T3 → Int → List Bool → List T3 × Int
 | 0, F, _, t => (F, if t.headD false then 1 else 0)
 | k + 1, F, v, t =>
  if t.take (2 ^ k) = t.drop (2 ^ k) then put k F (v + 1) (t.take (2 ^ k))
  else
   let a := put k F (v + 1) (t.take (2 ^ k))
   let b := put k a.1 (v + 1) (t.drop (2 ^ k))
   match find b.1 (v, a.2, b.2) with
   | some i => (b.1, i)
   | none => (b.1 ++ [(v, a.2, b.2)], b.1.length)
theorem put_same {k F v t} (h : t.length = 2 ^ k) : put (k + 1) F v (t ++ t) = put k F (v + 1) t := by
 simp only [put]
 rw [List.take_left' h, List.drop_left' h, if_pos rfl]
theorem put_two {k F v s t} (h : s.length = 2 ^ k) (hne : s ≠ t) : put (k + 1) F v (s ++ t) =
  (match find (put k (put k F (v + 1) s).1 (v + 1) t).1 (v, (put k F (v + 1) s).2, (put k (put k F (v + 1) s).1 (v + 1) t).2) with
   | some i => ((put k (put k F (v + 1) s).1 (v + 1) t).1, i)
   | none => ((put k (put k F (v + 1) s).1 (v + 1) t).1 ++ [(v, (put k F (v + 1) s).2, (put k (put k F (v + 1) s).1 (v + 1) t).2)], ((put k (put k F (v + 1) s).1 (v + 1) t).1.length : Int))) := by
 simp only [put]
 rw [List.take_left' h, List.drop_left' h, if_neg hne]
theorem put_present {vars F} (ho : Ok vars F) : ∀ (k : Nat) (v n : Int), v + k = vars → In vars F v n → put k F v (tab F k v n) = (F, n)
 | 0, v, n, hv, hn => by
  have e : v = vars := by omega
  subst e
  rcases hn.end ho with rfl | rfl <;> simp [put, tab]
 | k + 1, v, n, hv, hn => by
  by_cases c : 2 ≤ n ∧ (frk F n).1 = v
  ·rw [tab_at c, put_two (tab_len ..)]
   ·have h1 := put_present ho k (v + 1) _ (by omega) (hn.lo ho c)
    have h2 := put_present ho k (v + 1) _ (by omega) (hn.hi ho c)
    simp only [h1, h2]
    rw [find_eq ho c.1 hn.2.1 (x := (v, (frk F n).2.1, (frk F n).2.2)) (by rw [← c.2])]
   ·intro e
    exact ho.ne n c.1 hn.2.1 (canon ho k (v + 1) _ _ (by omega) (hn.lo ho c) (hn.hi ho c) e)
  ·rw [tab_up c, put_same (tab_len ..)]
   exact put_present ho k (v + 1) n (by omega) (hn.up ho hv c)
theorem Ok.push {vars F} (ho : Ok vars F) {v lo hi : Int} (hv0 : 0 ≤ v) (hv : v < vars) (hne : lo ≠ hi) (h1 : In vars F (v + 1) lo) (h2 : In vars F (v + 1) hi) (hf : find F (v, lo, hi) = none) :
  Ok vars (F ++ [(v, lo, hi)]) ∧ frk (F ++ [(v, lo, hi)]) F.length = (v, lo, hi) := by
 have hlast : frk (F ++ [(v, lo, hi)]) F.length = (v, lo, hi) := by simp [frk, List.getD_eq_getElem?_getD]
 refine ⟨?_, hlast⟩
 have split : ∀ i : Int, 2 ≤ i → i < (F ++ [(v, lo, hi)]).length → (i < F.length ∧ frk (F ++ [(v, lo, hi)]) i = frk F i) ∨ (i = F.length ∧ frk (F ++ [(v, lo, hi)]) i = (v, lo, hi)) := fun i a b => by
  simp at b
  by_cases c : i < F.length
  ·exact .inl ⟨c, frk_app (by omega) c⟩
  ·have e : i = F.length := by omega
   subst e; exact .inr ⟨rfl, hlast⟩
 refine ⟨by have := ho.two; simp; omega, ho.lo, fun i a b => ?_, fun i a b => ?_, fun i a b => ?_, fun i a b => ?_, fun i j a b c d e => ?_⟩
 ·rcases split i a b with ⟨q, e⟩ | ⟨q, e⟩ <;> rw [e]
  ·exact ho.var i a q
  ·exact ⟨hv0, hv⟩
 ·rcases split i a b with ⟨q, e⟩ | ⟨q, e⟩ <;> rw [e]
  ·exact ho.ne i a q
  ·exact hne
 ·rcases split i a b with ⟨q, e⟩ | ⟨q, e⟩ <;> rw [e]
  ·obtain ⟨x, y, z⟩ := ho.low i a q
   exact ⟨x, y, by rw [top_app (by omega)]; exact z⟩
  ·exact ⟨h1.1, by have := h1.2.1; subst q; exact this, by rw [top_app h1.2.1]; have := h1.2.2; show v < _; omega⟩
 ·rcases split i a b with ⟨q, e⟩ | ⟨q, e⟩ <;> rw [e]
  ·obtain ⟨x, y, z⟩ := ho.high i a q
   exact ⟨x, y, by rw [top_app (by omega)]; exact z⟩
  ·exact ⟨h2.1, by have := h2.2.1; subst q; exact this, by rw [top_app h2.2.1]; have := h2.2.2; show v < _; omega⟩
 ·rcases split i a b with ⟨q, e1⟩ | ⟨q, e1⟩ <;> rcases split j c d with ⟨q', e2⟩ | ⟨q', e2⟩ <;> rw [e1, e2] at e
  ·exact ho.uniq i j a q c q' e
  ·exact absurd e (find_none hf i a q)
  ·exact absurd e.symm (find_none hf j c q')
  ·omega
end Fil.Bd

namespace Fil.Bd
def get3 : List (T3 × Int) → T3 → Option Int
 | [], _ => none
 | p :: r, k => if p.1 = k then some p.2 else get3 r k
def set3 : List (T3 × Int) → T3 → Int → List (T3 × Int)
 | [], k, v => [(k, v)]
 | p :: r, k, v => if p.1 = k then (k, v) :: r else p :: set3 r k v
def get1 : List (Int × Int) → Int → Option Int
 | [], _ => none
 | p :: r, k => if p.1 = k then some p.2 else get1 r k
structure Mac where
 forks : List T3
 at_ : List (T3 × Int)
 done : List (T3 × Int)
def halfM (vars : Int) (F : List T3) (n v : Int) (way : Bool) : Int :=
 if top vars F n ≠ v then n else if way then (frk F n).2.2 else (frk F n).2.1
def tops (vars : Int) (F : List T3) (f g h : Int) : Int := min (top vars F f) (min (top vars F g) (top vars F h))
def iteT : List Bool → List Bool → List Bool → List Bool
 | x :: a, y :: b, z :: c => (if x then y else z) :: iteT a b c
 | _, _, _ => []
def exT : Nat → Nat → List Bool → List Bool
 | 0, _, t => t
 | k + 1, 0, t => iteT (t.take (2 ^ k)) (List.replicate (2 ^ k) true) (t.drop (2 ^ k)) ++ iteT (t.take (2 ^ k)) (List.replicate (2 ^ k) true) (t.drop (2 ^ k))
 | k + 1, d + 1, t => exT k d (t.take (2 ^ k)) ++ exT k d (t.drop (2 ^ k))
def DoneOk (vars : Int) (F : List T3) (key : T3) (n : Int) : Prop :=
 (0 ≤ key.2.2 → (0 ≤ key.1 ∧ key.1 < F.length) ∧ (0 ≤ key.2.1 ∧ key.2.1 < F.length) ∧ (0 ≤ key.2.2 ∧ key.2.2 < F.length) ∧
  ∀ k : Nat, tops vars F key.1 key.2.1 key.2.2 + k = vars → In vars F (tops vars F key.1 key.2.1 key.2.2) n ∧
   tab F k (tops vars F key.1 key.2.1 key.2.2) n = iteT (tab F k (tops vars F key.1 key.2.1 key.2.2) key.1) (tab F k (tops vars F key.1 key.2.1 key.2.2) key.2.1) (tab F k (tops vars F key.1 key.2.1 key.2.2) key.2.2)) ∧
 (key.2.2 < 0 → (0 ≤ key.1 ∧ key.1 < F.length) ∧ ∀ k : Nat, top vars F key.1 + k = vars → In vars F (top vars F key.1) n ∧ tab F k (top vars F key.1) n = exT k (key.2.1 - top vars F key.1).toNat (tab F k (top vars F key.1) key.1))
structure MOk (vars : Int) (s : Mac) : Prop where
 ok : Ok vars s.forks
 at1 : ∀ x n, get3 s.at_ x = some n → 2 ≤ n ∧ n < s.forks.length ∧ frk s.forks n = x
 at2 : ∀ n : Int, 2 ≤ n → n < s.forks.length → get3 s.at_ (frk s.forks n) = some n
def Kept (P : List T3 → T3 → Int → Prop) (s : Mac) : Prop := ∀ k n, get3 s.done k = some n → P s.forks k n
theorem DoneOk.app {vars F key n} (ho : Ok vars F) (l : List T3) (h : DoneOk vars F key n) : DoneOk vars (F ++ l) key n := by
 refine ⟨fun hk => ?_, fun hk => ?_⟩
 rotate_left
 ·obtain ⟨h1, h2⟩ := h.2 hk
  rw [top_app h1.2]
  refine ⟨⟨h1.1, by simp; omega⟩, fun k hv => ?_⟩
  obtain ⟨q1, q2⟩ := h2 k hv
  exact ⟨q1.app l, by rw [tab_app ho _ _ _ _ q1.1 q1.2.1, tab_app ho _ _ _ _ h1.1 h1.2, q2]⟩
 obtain ⟨h1, h2, h3, h4⟩ := h.1 hk
 have et : tops vars (F ++ l) key.1 key.2.1 key.2.2 = tops vars F key.1 key.2.1 key.2.2 := by unfold tops; rw [top_app h1.2, top_app h2.2, top_app h3.2]
 rw [et]
 refine ⟨⟨h1.1, by simp; omega⟩, ⟨h2.1, by simp; omega⟩, ⟨h3.1, by simp; omega⟩, fun k hv => ?_⟩
 obtain ⟨q1, q2⟩ := h4 k hv
 exact ⟨q1.app l, by rw [tab_app ho _ _ _ _ q1.1 q1.2.1, tab_app ho _ _ _ _ h1.1 h1.2, tab_app ho _ _ _ _ h2.1 h2.2, tab_app ho _ _ _ _ h3.1 h3.2, q2]⟩
structure Made (vars : Int) (s : Mac) (k : Nat) (v : Int) (t : List Bool) (r : Mac × Int) : Prop where
 ok : MOk vars r.1
 kept : Kept (DoneOk vars) r.1
 put : (r.1.forks, r.2) = put k s.forks v t
theorem Made.same {vars s k v t n} (h : MOk vars s) (hk : Kept (DoneOk vars) s) (hv : v + (k : Nat) = vars) (hn : In vars s.forks v n) (ht : tab s.forks k v n = t) : Made vars s k v t (s, n) :=
 ⟨h, hk, by rw [← ht, put_present h.ok k v n hv hn]⟩
end Fil.Bd

namespace Fil.Bd
def Seen (vars : Int) (from_ F : List T3) (seen : List (Int × Int)) : Prop := ∀ n a, get1 seen n = some a → (2 ≤ n ∧ n < from_.length) ∧ In vars F (top vars from_ n) a ∧ ∀ k : Nat, top vars from_ n + k = vars → tab F k (top vars from_ n) a = tab from_ k (top vars from_ n) n
theorem Seen.app {vars : Int} {G F : List T3} {seen} (h : Seen vars G F seen) (ho : Ok vars F) (l : List T3) : Seen vars G (F ++ l) seen := fun n a e => by
 obtain ⟨h1, h2, h3⟩ := h n a e
 exact ⟨h1, h2.app l, fun k hk => by rw [tab_app ho _ _ _ _ h2.1 h2.2.1, h3 k hk]⟩
end Fil.Bd

namespace Fil.Bd
structure Parts (vars : Int) (n : Nat) (s : Mac) (f g h v0 : Int) (a b : Mac × Int) : Prop where
 lo : 0 ≤ v0
 hi : v0 < vars
 f0 : In vars s.forks (v0 + 1) (halfM vars s.forks f v0 false)
 g0 : In vars s.forks (v0 + 1) (halfM vars s.forks g v0 false)
 h0 : In vars s.forks (v0 + 1) (halfM vars s.forks h v0 false)
 am : MOk vars a.1
 ak : Kept (DoneOk vars) a.1
 al : a.1.forks.length + 2 ^ n ≤ s.forks.length + 2 ^ (n + 1)
 af : s.forks.length ≤ a.1.forks.length
 f1 : In vars a.1.forks (v0 + 1) (halfM vars a.1.forks f v0 true)
 g1 : In vars a.1.forks (v0 + 1) (halfM vars a.1.forks g v0 true)
 h1 : In vars a.1.forks (v0 + 1) (halfM vars a.1.forks h v0 true)
 bl : b.1.forks.length + 2 ≤ s.forks.length + 2 ^ (n + 1)
end Fil.Bd

namespace Fil.Bd
def und (F : List T3) (n v i : Int) : Bool := decide (0 ≤ n ∧ n < i ∧ (n < 2 ∨ v < (frk F n).1))
def atL (F : List T3) : Nat → List (T3 × Int)
 | 0 => []
 | j + 1 => set3 (atL F j) (frk F (j + 2)) (j + 2)
def bad (vars : Int) (F : List T3) (j : Nat) : Bool :=
 (get3 (atL F j) (frk F (j + 2))).isSome || decide ((frk F (j + 2)).1 < 0) || decide (vars ≤ (frk F (j + 2)).1) || decide ((frk F (j + 2)).2.1 = (frk F (j + 2)).2.2) ||
  !und F (frk F (j + 2)).2.1 (frk F (j + 2)).1 (j + 2) || !und F (frk F (j + 2)).2.2 (frk F (j + 2)).1 (j + 2)
def head (vars : Int) (F : List T3) : Bool := decide (vars < 0) || decide (32 < vars) || decide (F.length < 2) || decide (frk F 0 ≠ (-1, 0, 0)) || decide (frk F 1 ≠ (-1, 0, 0))
def chk (vars : Int) (F : List T3) : Int :=
 if 65536 < F.length then 220 else if head vars F = true then 1 else if (List.range (F.length - 2)).any (bad vars F) = true then 1 else 0
structure Fine (vars : Int) (F : List T3) : Prop extends Ok vars F where
 few : vars ≤ 32
 all : F.length ≤ 65536
 end0 : frk F 0 = (-1, 0, 0)
 end1 : frk F 1 = (-1, 0, 0)
end Fil.Bd

namespace Fil.Bd
def outside (F : List T3) (n : Int) : Bool := decide (n < 0) || decide ((F.length : Int) ≤ n)
abbrev D := Int × List T3
def T (b : D) (f : Int) : List Bool := tab b.2 b.1.toNat 0 f
def askE (b : D) (l : List Int) (no : Bool) : Int := if chk b.1 b.2 ≠ 0 then chk b.1 b.2 else if (l.any (outside b.2) || no) = true then 1 else 0
def opW (b : D) (e : Int) (t : List Bool) : D × Int × Int := if e ≠ 0 then ((0, []), 0, e) else ((b.1, (put b.1.toNat b.2 0 t).1), (put b.1.toNat b.2 0 t).2, 0)
def iteW (b : D) (f g h : Int) : D × Int × Int := opW b (askE b [f, g, h] false) (iteT (T b f) (T b g) (T b h))
def notW (b : D) (f : Int) : D × Int × Int := iteW b f 0 1
def off (b : D) (n : Int) : Bool := decide (n < 0) || decide (b.1 ≤ n)
def varT : Nat → Nat → List Bool
 | 0, _ => []
 | k + 1, 0 => List.replicate (2 ^ k) false ++ List.replicate (2 ^ k) true
 | k + 1, d + 1 => varT k d ++ varT k d
def varW (b : D) (n : Int) : D × Int × Int := opW b (askE b [] (off b n)) (varT b.1.toNat n.toNat)
end Fil.Bd

namespace Fil.Bd
def one1 (F : List T3) : Nat → Int → List Bool → List Bool
 | 0, _, l => l
 | k + 1, n, l => if n < 2 then l else if (frk F n).2.1 = 0 then one1 F k (frk F n).2.2 (l.set (frk F n).1.toNat true) else one1 F k (frk F n).2.1 l
end Fil.Bd

namespace Fil.Bd
def cnt (t : List Bool) : Int := ((t.count true : Nat) : Int)
def cn (vars : Int) (F : List T3) (n : Int) : Int := cnt (tab F (vars - top vars F n).toNat (top vars F n) n)
end Fil.Bd

namespace Fil.Bd
def lookT : List Bool → List Bool → Bool
 | t, [] => t.headD false
 | t, x :: w => lookT (if x then t.drop (2 ^ w.length) else t.take (2 ^ w.length)) w
end Fil.Bd

namespace Fil.Bd
def bit (i k : Nat) : Bool := (i / 2 ^ k % 2 == 1)
def row (k i : Nat) : List Bool := (List.range k).map fun j => bit i (k - 1 - j)
def findI (F : List T3) (x : T3) : Int := (find F x).getD (-1)
theorem put_2 {k : Nat} {F : List T3} {v : Int} {t : List Bool} (hs : t.take (2 ^ k) ≠ t.drop (2 ^ k)) {C G : List T3} {lo hi : Int} (h1 : put k F (v + 1) (t.take (2 ^ k)) = (C, lo)) (h2 : put k C (v + 1) (t.drop (2 ^ k)) = (G, hi)) :
  (0 ≤ findI G (v, lo, hi) ∧ put (k + 1) F v t = (G, findI G (v, lo, hi))) ∨ (findI G (v, lo, hi) = -1 ∧ put (k + 1) F v t = (G ++ [(v, lo, hi)], (G.length : Int))) := by
 simp only [put, if_neg hs, h1, h2]
 unfold findI
 cases hf : find G (v, lo, hi) with
 | some i =>
  have := (find_some hf).1
  exact .inl ⟨by show 0 ≤ i; omega, rfl⟩
 | none => exact .inr ⟨rfl, rfl⟩
end Fil.Bd

namespace Fil.Bd
theorem T_app {vars : Int} {F l : List T3} (ho : Ok vars F) {f : Int} (i : In vars F 0 f) : T (vars, F ++ l) f = T (vars, F) f := tab_app ho l _ _ _ i.1 i.2.1
end Fil.Bd

namespace Fil.Bd
theorem len_le_of_nodup {α : Type} [DecidableEq α] : ∀ (l m : List α), l.Nodup → (∀ x ∈ l, x ∈ m) → l.length ≤ m.length
 | [], m, _, _ => by simp
 | x :: l, m, h, hs => by
  have hx : x ∈ m := hs x (by simp)
  have hn := List.nodup_cons.1 h
  have := len_le_of_nodup l (m.erase x) hn.2 fun y hy => by
   have hne : y ≠ x := fun e => hn.1 (e ▸ hy)
   exact (List.mem_erase_of_ne hne).2 (hs y (by simp [hy]))
  rw [List.length_erase_of_mem hx] at this
  have hp := List.length_pos_of_mem hx
  simp only [List.length_cons]; omega
def allT : Nat → List (List Bool)
 | 0 => [[]]
 | n + 1 => (allT n).flatMap fun t => [false :: t, true :: t]
theorem allT_mem : ∀ (t : List Bool), t ∈ allT t.length
 | [] => by simp [allT]
 | x :: t => by
  simp only [List.length_cons, allT, List.mem_flatMap]
  exact ⟨t, allT_mem t, by cases x <;> simp⟩
theorem allT_len : ∀ n, (allT n).length = 2 ^ n
 | 0 => rfl
 | n + 1 => by
  have : ∀ l : List (List Bool), (l.flatMap fun t => [false :: t, true :: t]).length = 2 * l.length := fun l => by
   induction l with
   | nil => rfl
   | cons x l ih => simp only [List.flatMap_cons, List.length_append, List.length_cons, List.length_nil, ih]; omega
  rw [allT, this, allT_len n, Nat.pow_succ]; omega
def lowK (k : Nat) : List (Nat × List Bool) := (List.range k).flatMap fun j => (allT (2 ^ (j + 1))).map fun t => (j, t)
def isLow (vars : Int) (k : Nat) (F : List T3) (i : Nat) : Bool := decide (2 ≤ i) && decide (vars ≤ (frk F i).1 + k)
def isUp (vars : Int) (k : Nat) (F : List T3) (i : Nat) : Bool := decide (2 ≤ i) && !decide (vars ≤ (frk F i).1 + k)
theorem low_count {vars : Int} {F : List T3} (ho : Ok vars F) (k : Nat) : ((List.range F.length).filter (isLow vars k F)).length ≤ (lowK k).length := by
 have key : ((List.range F.length).filter (isLow vars k F)).length = (((List.range F.length).filter (isLow vars k F)).map fun i : Nat => ((vars - (frk F i).1).toNat - 1, tab F (vars - (frk F i).1).toNat (frk F i).1 i)).length := by simp
 rw [key]
 have hmem : ∀ i, i ∈ (List.range F.length).filter (isLow vars k F) → i < F.length ∧ 2 ≤ i ∧ vars ≤ (frk F i).1 + k := fun i h => by
  simp only [List.mem_filter, List.mem_range, isLow, Bool.and_eq_true, decide_eq_true_eq] at h
  exact ⟨h.1, h.2.1, h.2.2⟩
 refine len_le_of_nodup _ _ ?_ ?_
 ·have hnd : ((List.range F.length).filter (isLow vars k F)).Nodup := List.nodup_range.filter _
  refine List.pairwise_map.2 (hnd.imp_of_mem ?_)
  intro i j hi hj hne he
  obtain ⟨i1, i2, i3⟩ := hmem i hi
  obtain ⟨j1, j2, j3⟩ := hmem j hj
  have vi := ho.var i (by omega) (by omega)
  have vj := ho.var j (by omega) (by omega)
  simp only [Prod.mk.injEq] at he
  have hv : (frk F i).1 = (frk F j).1 := by omega
  rw [hv] at he
  apply hne
  have := canon ho (vars - (frk F j).1).toNat (frk F j).1 i j (by omega) ⟨by omega, by omega, by unfold top; rw [if_neg (by omega)]; omega⟩ ⟨by omega, by omega, by unfold top; rw [if_neg (by omega)]; omega⟩ he.2
  omega
 ·intro x hx
  simp only [List.mem_map] at hx
  obtain ⟨i, hi, rfl⟩ := hx
  obtain ⟨i1, i2, i3⟩ := hmem i hi
  have vi := ho.var i (by omega) (by omega)
  simp only [lowK, List.mem_flatMap, List.mem_range, List.mem_map]
  refine ⟨(vars - (frk F i).1).toNat - 1, by omega, _, ?_, rfl⟩
  have hl := tab_len F (vars - (frk F i).1).toNat (frk F i).1 i
  have := allT_mem (tab F (vars - (frk F i).1).toNat (frk F i).1 i)
  rw [hl] at this
  rwa [show (vars - (frk F i).1).toNat - 1 + 1 = (vars - (frk F i).1).toNat by omega]
def ups (vars : Int) (k : Nat) (F : List T3) : Nat := ((List.range F.length).filter (isUp vars k F)).length
theorem len_ups {vars : Int} {F : List T3} (ho : Ok vars F) (k : Nat) : F.length ≤ 2 + ups vars k F + (lowK k).length := by
 have h1 := low_count ho k
 have h2 : F.length = ((List.range F.length).filter fun i => decide (i < 2)).length + ups vars k F + ((List.range F.length).filter (isLow vars k F)).length := by
  have : ∀ l : List Nat, l.length = (l.filter fun i => decide (i < 2)).length + (l.filter (isUp vars k F)).length + (l.filter (isLow vars k F)).length := fun l => by
   induction l with
   | nil => rfl
   | cons x l ih =>
    have hc : (isUp vars k F x = true ∧ isLow vars k F x = false ∧ ¬ x < 2) ∨ (isUp vars k F x = false ∧ isLow vars k F x = true ∧ ¬ x < 2) ∨ (isUp vars k F x = false ∧ isLow vars k F x = false ∧ x < 2) := by
     unfold isUp isLow
     by_cases a : 2 ≤ x <;> by_cases b : vars ≤ (frk F x).1 + k <;> simp [a, b] <;> omega
    simp only [List.filter_cons, List.length_cons]
    rcases hc with ⟨a, b, c⟩ | ⟨a, b, c⟩ | ⟨a, b, c⟩ <;> simp [a, b, c] <;> omega
  have := this (List.range F.length)
  simpa [ups] using this
 have h3 : ((List.range F.length).filter fun i => decide (i < 2)).length ≤ 2 := by
  have := len_le_of_nodup ((List.range F.length).filter fun i => decide (i < 2)) [0, 1] (List.nodup_range.filter _) fun x hx => by
   simp only [List.mem_filter, decide_eq_true_eq] at hx
   have := hx.2
   simp; omega
  simpa using this
 omega
theorem low3 : (lowK 3).length = 276 := by
 simp only [lowK, List.length_flatMap, List.length_map, allT_len]
 rfl
end Fil.Bd

namespace Fil
open Abs
section
variable {g : Aig} {a b : Int}
theorem checkL_two (hc : g.check = 0) (ha : g.lit a = true) (hb : g.lit b = true) : g.checkL g.check [a, b] = 0 := checkL_zero.2 ⟨hc, by simp [ha, hb]⟩
end
end Fil

