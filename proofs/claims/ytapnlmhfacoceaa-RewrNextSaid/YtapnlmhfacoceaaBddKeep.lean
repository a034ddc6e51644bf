/- bdd: plain law: what is there stays; once more nothing is put. No program in sight. -/
import Derived.Test.YtapnlmhfacoceaaAbsU
import Derived.Test.YtapnlmhfacoceaaAigModel
set_option linter.unusedSimpArgs false
set_option linter.unusedVariables false
namespace Go.Proofs.Ytapnlmhfacoceaa.A
open Abs Fil
theorem aig_count (o : Nat) (g : Aig) (e : Int) (σ : Sig) (h : σ o = some (workC g e)) (hs : Small g) :
    ACalls Try.prog 83 [.ptr o 0] σ (fun r σ' => r = .ret (.int .i64 g.count) ∧ σ' = σ) := by
  refine calls_x mixed Try.func83 b83 n83 rfl q83 (by simp) ?_; unfold c83 r83
  obtain ⟨⟨h0, h1, h2, h3, h4, h5, h6⟩, h7, h8⟩ := hs
  repeat' (first | simp (maxDischargeDepth := 9) -implicitDefEqProofs -dsimp only [go_sem, seval, *] | simp (disch := omega) only [wrap64])
  exact fin_id ⟨rfl, rfl⟩
theorem aig_first (o : Nat) (g : Aig) (e : Int) (σ : Sig) (h : σ o = some (workC g e)) (hs : Small g) :
    ACalls Try.prog 82 [.ptr o 0] σ (fun r σ' => r = .ret (.int .i64 g.first) ∧ σ' = σ) := by
  refine calls_x mixed Try.func82 b82 n82 rfl q82 (by simp) ?_; unfold c82 r82
  obtain ⟨⟨h0, h1, h2, h3, h4, h5, h6⟩, h7, h8⟩ := hs
  repeat' (first | simp (maxDischargeDepth := 9) -implicitDefEqProofs -dsimp only [go_sem, seval, *] | simp (disch := omega) only [wrap64])
  exact fin_id ⟨rfl, rfl⟩
theorem aig_lit (o : Nat) (g : Aig) (e a : Int) (σ : Sig) (h : σ o = some (workC g e)) (hs : Small g) (ha : I64 a) :
    ACalls Try.prog 81 [.ptr o 0, .int .i64 a] σ (fun r σ' => r = .ret (.bool (g.lit a)) ∧ σ' = σ) := by
  refine calls_x mixed Try.func81 b81 n81 rfl q81 (by simp) ?_; unfold c81 r81
  obtain ⟨ha1, ha2⟩ := ha
  repeat' (first | simp (maxDischargeDepth := 9) -implicitDefEqProofs -dsimp only [go_sem, seval, *] | simp (disch := omega) only [wrap64, tdiv2] | (with_reducible (first | apply Za) <;> intro hq) | ((with_reducible apply ACalls.one1); (focus ((first | with_reducible refine aig_count o g e σ h hs) <;> (first | (simp (maxDischargeDepth := 9) -implicitDefEqProofs -dsimp only [go_sem, seval, *]; done) | omega))); (focus (first | trivial | with_reducible exact rfl | (simp (maxDischargeDepth := 9) -implicitDefEqProofs -dsimp only [go_sem, seval]; done)))))
  · refine fin_eq ?_
    simp (maxDischargeDepth := 9) -implicitDefEqProofs -dsimp only [go_sem, seval]
    rw [Bool.eq_iff_iff]
    simp only [Aig.lit, litN_iff, decide_eq_true_eq]
    omega
  · refine fin_eq ?_
    simp (maxDischargeDepth := 9) -implicitDefEqProofs -dsimp only [go_sem, seval]
    have : ¬ (0 ≤ a) := by omega
    simp [Aig.lit, Aig.litN, this]
theorem aig_check1 (b o : Nat) (f : Flop) (g : Aig) (e : Int) (σ : Sig) (hb : σ b = some (.cells [.ptr o 0])) (h : σ o = some (workC g e)) (hs : Small g) (hf : I64 f.next) :
    ACalls Try.prog 87 [encFlop f, .ptr b 0] σ (fun r σ' => r = .ret (.bool (!g.lit f.next)) ∧ σ' = σ) := by
  refine calls_x mixed Try.func87 b87 n87 rfl q87 (by simp) ?_; unfold c87 r87
  repeat' (first | simp (maxDischargeDepth := 9) -implicitDefEqProofs -dsimp only [go_sem, seval, *] | ((with_reducible apply ACalls.one1); (focus ((first | with_reducible refine aig_lit o g e f.next σ h hs hf) <;> (first | (simp (maxDischargeDepth := 9) -implicitDefEqProofs -dsimp only [go_sem, seval, *]; done) | omega))); (focus (first | trivial | with_reducible exact rfl | (simp (maxDischargeDepth := 9) -implicitDefEqProofs -dsimp only [go_sem, seval]; done)))))
  exact fin_id ⟨rfl, rfl⟩
theorem aig_check2 (b o : Nat) (a : Int) (g : Aig) (e : Int) (σ : Sig) (hb : σ b = some (.cells [.ptr o 0])) (h : σ o = some (workC g e)) (hs : Small g) (hf : I64 a) :
    ACalls Try.prog 88 [.int .i64 a, .ptr b 0] σ (fun r σ' => r = .ret (.bool (!g.lit a)) ∧ σ' = σ) := by
  refine calls_x mixed Try.func88 b88 n88 rfl q88 (by simp) ?_; unfold c88 r88
  repeat' (first | simp (maxDischargeDepth := 9) -implicitDefEqProofs -dsimp only [go_sem, seval, *] | ((with_reducible apply ACalls.one1); (focus ((first | with_reducible refine aig_lit o g e a σ h hs hf) <;> (first | (simp (maxDischargeDepth := 9) -implicitDefEqProofs -dsimp only [go_sem, seval, *]; done) | omega))); (focus (first | trivial | with_reducible exact rfl | (simp (maxDischargeDepth := 9) -implicitDefEqProofs -dsimp only [go_sem, seval]; done)))))
  exact fin_id ⟨rfl, rfl⟩
theorem sl_indexFlop (p : Flop → Bool) (l : List Flop) (hl : l.length ≤ 1000000000000) (σ : Sig) {F : Nat} {caps : List AV} (hF : ∀ x ∈ l, ACalls Try.prog F (encFlop x :: caps) σ (fun r σ' => r = .ret (.bool (p x)) ∧ σ' = σ)) :
    ACalls Try.prog 94 [.slice (l.map encFlop) .no, .fn F [] caps] σ (fun r σ' => r = .ret (.int .i64 (idxF p l)) ∧ σ' = σ) :=
  lib_indexFunc (sz := 2) (g := true) mixed Try.func94 b94 n94 rfl q94 (fun _ => rfl) (fun _ => rfl) p l hl hF
theorem sl_indexInt (p : Int → Bool) (l : List Int) (hl : l.length ≤ 1000000000000) (σ : Sig) {F : Nat} {caps : List AV} (hF : ∀ x ∈ l, ACalls Try.prog F (encInt x :: caps) σ (fun r σ' => r = .ret (.bool (p x)) ∧ σ' = σ)) :
    ACalls Try.prog 95 [.slice (l.map encInt) .no, .fn F [] caps] σ (fun r σ' => r = .ret (.int .i64 (idxF p l)) ∧ σ' = σ) :=
  lib_indexFunc (sz := 1) (g := false) mixed Try.func95 b95 n95 rfl q95 (fun _ => rfl) (fun _ => rfl) p l hl hF
theorem sl_indexGate (p : Int × Int → Bool) (l : List (Int × Int)) (hl : l.length ≤ 1000000000000) (σ : Sig) {F : Nat} {caps : List AV} (hF : ∀ x ∈ l, ACalls Try.prog F (encGate x :: caps) σ (fun r σ' => r = .ret (.bool (p x)) ∧ σ' = σ)) :
    ACalls Try.prog 96 [.slice (l.map encGate) .no, .fn F [] caps] σ (fun r σ' => r = .ret (.int .i64 (idxF p l)) ∧ σ' = σ) :=
  lib_indexFunc (sz := 2) (g := true) mixed Try.func96 b96 n96 rfl q96 (fun _ => rfl) (fun _ => rfl) p l hl hF
theorem sl_containsFlop (p : Flop → Bool) (l : List Flop) (hl : l.length ≤ 1000000000000) (σ : Sig) {F : Nat} {caps : List AV} (hF : ∀ x ∈ l, ACalls Try.prog F (encFlop x :: caps) σ (fun r σ' => r = .ret (.bool (p x)) ∧ σ' = σ)) :
    ACalls Try.prog 89 [.slice (l.map encFlop) .no, .fn F [] caps] σ (fun r σ' => r = .ret (.bool (l.any p)) ∧ σ' = σ) :=
  lib_containsFunc mixed Try.func89 b89 n89 rfl q89 p l (sl_indexFlop p l hl σ hF)
theorem sl_containsInt (p : Int → Bool) (l : List Int) (hl : l.length ≤ 1000000000000) (σ : Sig) {F : Nat} {caps : List AV} (hF : ∀ x ∈ l, ACalls Try.prog F (encInt x :: caps) σ (fun r σ' => r = .ret (.bool (p x)) ∧ σ' = σ)) :
    ACalls Try.prog 90 [.slice (l.map encInt) .no, .fn F [] caps] σ (fun r σ' => r = .ret (.bool (l.any p)) ∧ σ' = σ) :=
  lib_containsFunc mixed Try.func90 b90 n90 rfl q90 p l (sl_indexInt p l hl σ hF)
theorem sl_clipGate (l : List (Int × Int)) (σ : Sig) :
    ACalls Try.prog 98 [.slice (l.map encGate) .no] σ (fun r σ' => r = .ret (.slice (l.map encGate) .full) ∧ σ' = σ) :=
  lib_clip (sz := 2) mixed Try.func98 b98 n98 rfl q98 (fun _ => rfl) l
theorem aig_check (o : Nat) (g : Aig) (e : Int) (σ : Sig) (h : σ o = some (workC g e)) (hs : Wf g) :
    ACalls Try.prog 80 [.ptr o 0] σ (fun r σ' => r = .ret (.int .i64 g.check) ∧ σ' = σ) := by
  refine calls_x mixed Try.func80 b80 n80 rfl q80 (by simp) ?_; unfold c80 r80
  by_cases hlo : g.ins < 0
  · repeat' (first | simp (maxDischargeDepth := 9) -implicitDefEqProofs -dsimp only [go_sem, seval, *] | simp (disch := omega) only [wrap64] | (with_reducible (first | apply Zb | apply Zc | apply Zr) <;> intro hq) | ((with_reducible refine Zu ?_ ?_); focus omega) | ((with_reducible refine Zt (fun oF hoF hnF hnF' => ?_)); (try simp only [upd_none, ne_eq, not_and] at hoF)))
    refine fin_eq ?_
    have : g.check = 1 := by simp [Aig.check, hlo]
    (repeat' (first | simp (maxDischargeDepth := 9) -implicitDefEqProofs -dsimp only [go_sem, seval, this, *] | simp (disch := omega) only [wrap64])) <;> (repeat' refine And.intro ?_ ?_) <;> (first | omega | rfl | assumption | skip)
  by_cases hhi : 65536 < g.ins
  · repeat' (first | simp (maxDischargeDepth := 9) -implicitDefEqProofs -dsimp only [go_sem, seval, gt_iff_lt, *] | simp (disch := omega) only [wrap64] | (with_reducible (first | apply Zb | apply Zc | apply Zr) <;> intro hq) | ((with_reducible refine Zu ?_ ?_); focus omega) | ((with_reducible refine Zt (fun oF hoF hnF hnF' => ?_)); (try simp only [upd_none, ne_eq, not_and] at hoF)))
    refine fin_eq ?_
    have : g.check = 2 := by simp [Aig.check, hlo, hhi]
    (repeat' (first | simp (maxDischargeDepth := 9) -implicitDefEqProofs -dsimp only [go_sem, seval, this, *] | simp (disch := omega) only [wrap64])) <;> (repeat' refine And.intro ?_ ?_) <;> (first | omega | rfl | assumption | skip)
  have hsm : Small g := ⟨hs, by omega, by omega⟩
  have hfl := hs.flops
  have hol := hs.outs
  repeat' (first | simp (maxDischargeDepth := 9) -implicitDefEqProofs -dsimp only [go_sem, seval, gt_iff_lt, *] | simp (disch := omega) only [wrap64] | (with_reducible (first | apply Zb | apply Zc | apply Zr) <;> intro hq) | ((with_reducible refine Zu ?_ ?_); focus omega) | ((with_reducible refine Zt (fun oF hoF hnF hnF' => ?_)); (try simp only [upd_none, ne_eq, not_and] at hoF)) | ((with_reducible apply ACalls.one1); (focus ((first | with_reducible refine aig_count o g e _ ?_ hsm | with_reducible refine sl_containsFlop (fun f => !g.lit f.next) g.flops ?_ _ (fun f hf => aig_check1 _ o f g e _ ?_ ?_ hsm (hs.nexts f hf)) | with_reducible refine sl_containsInt (fun a => !g.lit a) g.outs ?_ _ (fun a ha => aig_check2 _ o a g e _ ?_ ?_ hsm (hs.lits a ha))) <;> (first | (simp (maxDischargeDepth := 9) -implicitDefEqProofs -dsimp only [go_sem, seval, *]; done) | omega))); (focus (first | trivial | with_reducible exact rfl | (simp (maxDischargeDepth := 9) -implicitDefEqProofs -dsimp only [go_sem, seval]; done)))))
  · refine fin_eq ?_
    have : g.check = 2 := by simp [Aig.check, hlo, hhi, hq]
    (repeat' (first | simp (maxDischargeDepth := 9) -implicitDefEqProofs -dsimp only [go_sem, seval, this, *] | simp (disch := omega) only [wrap64])) <;> (repeat' refine And.intro ?_ ?_) <;> (first | omega | rfl | assumption | skip)
  · refine fin_eq ?_
    have : g.check = 2 := by simp [Aig.check, hlo, hhi, hq]
    (repeat' (first | simp (maxDischargeDepth := 9) -implicitDefEqProofs -dsimp only [go_sem, seval, this, *] | simp (disch := omega) only [wrap64])) <;> (repeat' refine And.intro ?_ ?_) <;> (first | omega | rfl | assumption | skip)
  · refine fin_eq ?_
    have : g.check = 1 := by simp [Aig.check, Aig.good, hlo, hhi, *]
    (repeat' (first | simp (maxDischargeDepth := 9) -implicitDefEqProofs -dsimp only [go_sem, seval, this, *] | simp (disch := omega) only [wrap64])) <;> (repeat' refine And.intro ?_ ?_) <;> (first | omega | rfl | assumption | skip)
  · refine fin_eq ?_
    have : g.check = 1 := by simp [Aig.check, Aig.good, hlo, hhi, *]
    (repeat' (first | simp (maxDischargeDepth := 9) -implicitDefEqProofs -dsimp only [go_sem, seval, this, *] | simp (disch := omega) only [wrap64])) <;> (repeat' refine And.intro ?_ ?_) <;> (first | omega | rfl | assumption | skip)
  · refine loop_rule (fun i : Nat => [(1, some (.ptr oF 0)), (52, some (.slice (g.ands.map encGate) .no)), (53, some (.int .i64 g.ands.length)), (54, some (.int .i64 i))]) (fun _ => upd σ oF (.cells [.ptr o 0])) (fun i => i ≤ g.ands.length ∧ ∀ j, (hj : j < g.ands.length) → j < i → (0 ≤ g.ands[j].1 ∧ g.ands[j].1 < 2 * (g.first + j)) ∧ (0 ≤ g.ands[j].2 ∧ g.ands[j].2 < 2 * (g.first + j))) (fun i => g.ands.length - i) 0 ?_ ?_
    · (repeat' (first | simp (maxDischargeDepth := 9) -implicitDefEqProofs -dsimp only [go_sem, seval, *] | simp (disch := omega) only [wrap64])) <;> (repeat' refine And.intro ?_ ?_) <;> (first | omega | rfl | assumption | skip)
    · rintro i ⟨hi, hb⟩
      have hA := hs.ands
      have hF := hs.flops
      have hfd : 1 ≤ g.first ∧ g.first ≤ 3000000 := by
        have := hsm.lo; have := hsm.hi
        unfold Aig.first; omega
      by_cases hlt : i < g.ands.length
      · have hgate := hs.gates _ (List.getElem_mem hlt)
        obtain ⟨⟨g1, g2⟩, g3, g4⟩ := hgate
        repeat' (first | simp (maxDischargeDepth := 9) -implicitDefEqProofs -dsimp only [go_sem, seval, ge_iff_le, *] | simp (disch := omega) only [wrap64] | (with_reducible (first | apply Zb | apply Zc | apply Zr) <;> intro hq) | ((with_reducible refine Zu ?_ ?_); focus omega) | ((with_reducible refine Zt (fun oF hoF hnF hnF' => ?_)); (try simp only [upd_none, ne_eq, not_and] at hoF)) | ((with_reducible apply ACalls.one1); (focus ((first | with_reducible refine aig_first o g e _ ?_ hsm) <;> (first | (simp (maxDischargeDepth := 9) -implicitDefEqProofs -dsimp only [go_sem, seval, *]; done) | omega))); (focus (first | trivial | with_reducible exact rfl | (simp (maxDischargeDepth := 9) -implicitDefEqProofs -dsimp only [go_sem, seval]; done)))) | ((with_reducible apply id_one0); (focus (intro tS hS; ((first | with_reducible refine aig_first o g e _ ?_ hsm) <;> (first | (simp (maxDischargeDepth := 9) -implicitDefEqProofs -dsimp only [go_sem, seval, *]; done) | omega | ((with_reducible refine Sub.get hS ?_); simp (maxDischargeDepth := 9) -implicitDefEqProofs -dsimp only [go_sem, seval, *]; done))))); (focus (first | trivial | (simp (maxDischargeDepth := 9) -implicitDefEqProofs -dsimp only [go_sem, seval, *]; done)))))
        · have : g.check = 1 := by
            have := gatesOk_false (n := g.first) hlt (by omega)
            simp [Aig.check, Aig.good, hlo, hhi, *]
          refine fin_eq ?_
          (repeat' (first | simp (maxDischargeDepth := 9) -implicitDefEqProofs -dsimp only [go_sem, seval, this, *] | simp (disch := omega) only [wrap64])) <;> (repeat' refine And.intro ?_ ?_) <;> (first | omega | rfl | assumption | skip)
        · refine loop_next _ _ _ _ (i + 1) ?_; (repeat' (first | simp (maxDischargeDepth := 9) -implicitDefEqProofs -dsimp only [go_sem, seval, *] | simp (disch := omega) only [wrap64])) <;> (repeat' refine And.intro ?_ ?_) <;> (first | omega | rfl | assumption | skip)
          intro j hj h
          rcases Nat.lt_or_ge j i with h' | h'
          · exact hb j hj h'
          · obtain rfl : j = i := by omega
            omega
        · have : g.check = 1 := by
            have := gatesOk_false (n := g.first) hlt (by omega)
            simp [Aig.check, Aig.good, hlo, hhi, *]
          refine fin_eq ?_
          (repeat' (first | simp (maxDischargeDepth := 9) -implicitDefEqProofs -dsimp only [go_sem, seval, this, *] | simp (disch := omega) only [wrap64])) <;> (repeat' refine And.intro ?_ ?_) <;> (first | omega | rfl | assumption | skip)
      · repeat' (first | simp (maxDischargeDepth := 9) -implicitDefEqProofs -dsimp only [go_sem, seval, *] | simp (disch := omega) only [wrap64] | (with_reducible (first | apply Zb | apply Zc | apply Zr) <;> intro hq) | ((with_reducible refine Zu ?_ ?_); focus omega) | ((with_reducible refine Zt (fun oF hoF hnF hnF' => ?_)); (try simp only [upd_none, ne_eq, not_and] at hoF)))
        refine fin_eq ?_
        have : g.check = 0 := by
          have : Aig.gatesOk g.first g.ands = true := gatesOk_iff.2 fun j hj => hb j hj (by omega)
          simp [Aig.check, Aig.good, hlo, hhi, *]
        (repeat' (first | simp (maxDischargeDepth := 9) -implicitDefEqProofs -dsimp only [go_sem, seval, this, *] | simp (disch := omega) only [wrap64])) <;> (repeat' refine And.intro ?_ ?_) <;> (first | omega | rfl | assumption | skip)
end Go.Proofs.Ytapnlmhfacoceaa.A

namespace Go.Proofs.Ytapnlmhfacoceaa.A
open Abs Fil
theorem aig_begin (g : Aig) (l : List Int) (σ : Sig) (hs : Wf g) (hl : l.length ≤ 1000000) (hi : ∀ a ∈ l, I64 a) :
    ACalls Try.prog 59 [encAig g, .slice (l.map encInt) .no] σ (NewO σ (fun o => .ptr o 0) (workC g (g.checkL g.check l))) := by
  refine calls_x mixed Try.func59 b59 n59 rfl q59 (by simp) ?_; unfold c59 r59
  repeat' (first | simp (maxDischargeDepth := 9) -implicitDefEqProofs -dsimp only [go_sem, seval, *] | simp (disch := omega) only [wrap64] | (with_reducible (first | apply Zr) <;> intro hq) | ((with_reducible refine Zu ?_ ?_); focus omega) | ((with_reducible refine Zt (fun oF hoF hnF hnF' => ?_)); (try simp only [upd_none, ne_eq, not_and] at hoF)) | ((with_reducible apply ACalls.one1); (focus ((first | with_reducible refine aig_check _ g 0 _ ?_ hs) <;> (first | (simp (maxDischargeDepth := 9) -implicitDefEqProofs -dsimp only [go_sem, seval, *]; done) | omega))); (focus (first | trivial | with_reducible exact rfl | (simp (maxDischargeDepth := 9) -implicitDefEqProofs -dsimp only [go_sem, seval]; done)))))
  refine loop_rule (fun i : Nat => [(5, some (.ptr oF 0)), (16, some (.slice (l.map encInt) .no)), (17, some (.int .i64 l.length)), (18, some (.int .i64 i))]) (fun i => upd σ oF (workC g (g.checkL g.check (l.take i)))) (fun i => i ≤ l.length) (fun i => l.length - i) 0 ?_ ?_
  · (repeat' (first | simp (maxDischargeDepth := 9) -implicitDefEqProofs -dsimp only [go_sem, seval, Aig.checkL, *] | simp (disch := omega) only [wrap64])) <;> (repeat' refine And.intro ?_ ?_) <;> (first | omega | rfl | assumption | skip)
  · intro i hi'
    by_cases hlt : i < l.length
    · have hi2 := hi _ (List.getElem_mem hlt)
      have step : g.checkL g.check (l.take (i + 1)) = if g.checkL g.check (l.take i) = 0 ∧ g.lit l[i] = false then 1 else g.checkL g.check (l.take i) := by
        rw [List.take_add_one, List.getElem?_eq_getElem hlt]
        exact checkL_snoc g _ _ _
      by_cases he : g.checkL g.check (l.take i) = 0
      · have hsm : Small g := checkL_small hs he
        repeat' (first | simp (maxDischargeDepth := 9) -implicitDefEqProofs -dsimp only [go_sem, seval, *] | simp (disch := omega) only [wrap64] | (with_reducible (first | apply Zr) <;> intro hq) | ((with_reducible refine Zu ?_ ?_); focus omega) | ((with_reducible refine Zt (fun oF hoF hnF hnF' => ?_)); (try simp only [upd_none, ne_eq, not_and] at hoF)) | ((with_reducible apply ACalls.one1); (focus ((first | with_reducible refine aig_lit _ g 0 l[i] _ ?_ hsm hi2) <;> (first | (simp (maxDischargeDepth := 9) -implicitDefEqProofs -dsimp only [go_sem, seval, *]; done) | omega))); (focus (first | trivial | with_reducible exact rfl | (simp (maxDischargeDepth := 9) -implicitDefEqProofs -dsimp only [go_sem, seval]; done)))))
        · have st : g.checkL g.check (l.take (i + 1)) = 0 := by rw [step]; simp [*]
          refine loop_next _ _ _ _ (i + 1) ?_; (repeat' (first | simp (maxDischargeDepth := 9) -implicitDefEqProofs -dsimp only [go_sem, seval, *] | simp (disch := omega) only [wrap64])) <;> (repeat' refine And.intro ?_ ?_) <;> (first | omega | rfl | assumption | skip)
        · have st : g.checkL g.check (l.take (i + 1)) = 1 := by rw [step]; simp [*]
          refine loop_next _ _ _ _ (i + 1) ?_; (repeat' (first | simp (maxDischargeDepth := 9) -implicitDefEqProofs -dsimp only [go_sem, seval, *] | simp (disch := omega) only [wrap64])) <;> (repeat' refine And.intro ?_ ?_) <;> (first | omega | rfl | assumption | skip)
      · have st : g.checkL g.check (l.take (i + 1)) = g.checkL g.check (l.take i) := by rw [step]; simp [*]
        have hb : (g.checkL g.check (l.take i) == 0) = false := by simpa using he
        repeat' (first | simp (maxDischargeDepth := 9) -implicitDefEqProofs -dsimp only [go_sem, seval, *] | simp (disch := omega) only [wrap64] | (with_reducible (first | apply Zr) <;> intro hq) | ((with_reducible refine Zu ?_ ?_); focus omega) | ((with_reducible refine Zt (fun oF hoF hnF hnF' => ?_)); (try simp only [upd_none, ne_eq, not_and] at hoF)))
        refine loop_next _ _ _ _ (i + 1) ?_; (repeat' (first | simp (maxDischargeDepth := 9) -implicitDefEqProofs -dsimp only [go_sem, seval, *] | simp (disch := omega) only [wrap64])) <;> (repeat' refine And.intro ?_ ?_) <;> (first | omega | rfl | assumption | skip)
    · repeat' (first | simp (maxDischargeDepth := 9) -implicitDefEqProofs -dsimp only [go_sem, seval, *] | simp (disch := omega) only [wrap64] | (with_reducible (first | apply Zr) <;> intro hq) | ((with_reducible refine Zu ?_ ?_); focus omega) | ((with_reducible refine Zt (fun oF hoF hnF hnF' => ?_)); (try simp only [upd_none, ne_eq, not_and] at hoF)))
      refine fin_new oF hoF ?_
      have e0 : l.take i = l := List.take_of_length_le (by omega)
      (repeat' (first | simp (maxDischargeDepth := 9) -implicitDefEqProofs -dsimp only [go_sem, seval, e0, *] | simp (disch := omega) only [wrap64])) <;> (repeat' refine And.intro ?_ ?_) <;> (first | omega | rfl | assumption | skip)
theorem aig_and1 (pa pb : Nat) (x : Int × Int) (a b : Int) (σ : Sig) (ha : σ pa = some (.cells [.int .i64 a])) (hb : σ pb = some (.cells [.int .i64 b])) :
    ACalls Try.prog 97 [encGate x, .ptr pa 0, .ptr pb 0] σ (fun r σ' => r = .ret (.bool (decide (min x.1 x.2 = a) && decide (max x.1 x.2 = b))) ∧ σ' = σ) := by
  refine calls_x mixed Try.func97 b97 n97 rfl q97 (by simp) ?_; unfold c97 r97
  repeat' (first | simp (maxDischargeDepth := 9) -implicitDefEqProofs -dsimp only [go_sem, seval, *] | (with_reducible (first | apply Zj) <;> intro hq))
  · have e : min x.1 x.2 = a := by omega
    exact fin_id ⟨by simp [e, Bool.beq_eq_decide_eq], rfl⟩
  · exact fin_id ⟨by simp [hq], rfl⟩
end Go.Proofs.Ytapnlmhfacoceaa.A

namespace Go.Proofs.Ytapnlmhfacoceaa.A
open Abs Fil
theorem aig_Check (g : Aig) (σ : Sig) (hs : Wf g) : ACalls Try.prog 26 [encAig g] σ (fun r σ' => r = .ret (.int .i64 g.check) ∧ σ' = σ) := by
  refine calls_x mixed Try.func26 b26 n26 rfl q26 (by simp) ?_; unfold c26 r26
  repeat' (first | simp (maxDischargeDepth := 9) -implicitDefEqProofs -dsimp only [go_sem, seval, *] | ((with_reducible apply ACalls.newO); (focus (first | ((first | with_reducible refine aig_begin g [] _ hs ?_ (by simp)) <;> (first | (simp (maxDischargeDepth := 9) -implicitDefEqProofs -dsimp only [go_sem, seval, *]; done) | omega)) | (with_reducible refine ACalls.flA (aig_begin g [] _ hs ?_ (by simp)) ?_ <;> (first | (simp (maxDischargeDepth := 9) -implicitDefEqProofs -dsimp only [go_sem, seval, *]; done) | omega)))); (intro oF hoF hnF hnF'); (try simp only [upd_none, ne_eq, not_and] at hoF)))
  refine fin_eq ?_
  (repeat' (first | simp (maxDischargeDepth := 9) -implicitDefEqProofs -dsimp only [go_sem, seval, Aig.checkL, *])) <;> (repeat' refine And.intro ?_ ?_) <;> (first | omega | rfl | assumption | skip)
theorem aig_of (v : List Bool) (a : Int) (σ : Sig) (h0 : 0 ≤ a) (h1 : (a / 2).toNat < v.length) (h2 : v.length ≤ 1000000000) :
    ACalls Try.prog 64 [.slice (v.map encBool) .no, .int .i64 a] σ (fun r σ' => r = .ret (.bool (Aig.val v a)) ∧ σ' = σ) := by
  refine calls_x mixed Try.func64 b64 n64 rfl q64 (by simp) ?_; unfold c64 r64
  repeat' (first | simp (maxDischargeDepth := 9) -implicitDefEqProofs -dsimp only [go_sem, seval, *] | simp (disch := omega) only [and1, shr1'] | ((with_reducible refine Zv ?_ ?_); focus (first | omega | exact rfl)) | ((with_reducible refine Zu ?_ ?_); focus omega))
  refine fin_eq ?_
  have : Aig.val v a = (v[(a / 2).toNat] != decide (a % 2 = 1)) := by simp [Aig.val, List.getD, h1]
  rw [this]
  (repeat' (first | simp (maxDischargeDepth := 9) -implicitDefEqProofs -dsimp only [go_sem, seval, bne, beq_dec, *] | simp (disch := omega) only [and1, shr1'])) <;> (repeat' refine And.intro ?_ ?_) <;> (first | omega | rfl | assumption | skip)
theorem sl_growBool (n : Int) (σ : Sig) (h0 : 0 < n) (hb1 : n * 1 ≤ 35184372088832) (hn2 : n ≤ 1000000000000) :
    ACalls Try.prog 91 [.slice [] .nil, .int .i64 n] σ (fun r σ' => ∃ o, σ o = none ∧ r = .ret (.slice [] (.own o)) ∧ σ' = upd σ o (.grow 1 0)) :=
  lib_grow (sz := 1) (bytes := 1) mixed Try.func91 b91 n91 rfl q91 n h0 (by simpa using hb1) hn2
theorem sl_growBool0 (σ : Sig) : ACalls Try.prog 91 [.slice [] .nil, .int .i64 0] σ (fun r σ' => r = .ret (.slice [] .nil) ∧ σ' = σ) :=
  lib_grow0 (sz := 1) (bytes := 1) mixed Try.func91 b91 n91 rfl q91
theorem sl_concatBool (ls : List (List Bool)) (σ : Sig) (hlen : ls.length ≤ 1000000) (htot : ls.flatten.length ≤ 1000000000) :
    ACalls Try.prog 84 [.slice (ls.map (encRow encBool)) .no] σ (fun r σ' => (ls.flatten = [] ∧ r = .ret (.slice [] .nil) ∧ σ' = σ) ∨
      NewO σ (fun o => .slice (ls.flatten.map encBool) (.own o)) (.grow 1 ls.flatten.length) r σ') :=
  lib_concat (sz := 1) (bytes := 1) mixed Try.func84 b84 n84 rfl q84 (fun _ => rfl) (fun σ n h1 h2 h3 => sl_growBool n σ h1 (by simpa using h2) h3) sl_growBool0 ls hlen htot (by decide)
theorem sl_concatBool1 (ls : List (List Bool)) (σ : Sig) (hlen : ls.length ≤ 1000000) (htot : ls.flatten.length ≤ 1000000000) (hne : ls.flatten ≠ []) :
    ACalls Try.prog 84 [.slice (ls.map (encRow encBool)) .no] σ (NewO σ (fun o => .slice (ls.flatten.map encBool) (.own o)) (.grow 1 ls.flatten.length)) :=
  (sl_concatBool ls σ hlen htot).mono fun r s h => h.elim (fun h => (hne h.1).elim) id
theorem aig_Nodes (g : Aig) (inp st : List Bool) (σ : Sig) (hs : Wf g) :
    ACalls Try.prog 63 [encAig g, .slice (inp.map encBool) .no, .slice (st.map encBool) .no] σ (fun r σ' => r = .ret (.tup [.slice ((g.Nodes inp st).1.map encBool) .no, .int .i64 (g.Nodes inp st).2]) ∧ σ' = σ) := by
  refine calls_x mixed Try.func63 b63 n63 rfl q63 (by simp) ?_; unfold c63 r63
  have hfl := hs.flops
  by_cases hc : g.check = 0
  · by_cases hin : (inp.length : Int) = g.ins
    · by_cases hf : st.length = g.flops.length
      · have hv : g.Nodes inp st = (Aig.vals (false :: (inp ++ st)) g.ands, 0) := by simp [Aig.Nodes, *]
        have hins := (check_small hs hc).hi
        have htot : ([[false], inp, st] : List (List Bool)).flatten.length ≤ 1000000000 := by simp; omega
        have hne : ([[false], inp, st] : List (List Bool)).flatten ≠ [] := by simp
        repeat' (first | simp (maxDischargeDepth := 9) -implicitDefEqProofs -dsimp only [go_sem, seval, *] | simp (disch := omega) only [wrap64] | (with_reducible (first | apply Zp) <;> intro hq) | ((with_reducible refine Zv ?_ ?_); focus (first | omega | exact rfl)) | ((with_reducible refine Zu ?_ ?_); focus omega) | ((with_reducible refine Zt (fun oF hoF hnF hnF' => ?_)); (try simp only [upd_none, ne_eq, not_and] at hoF)) | ((with_reducible apply ACalls.one1); (focus (first | ((first | with_reducible refine aig_Check g _ hs) <;> (first | (simp (maxDischargeDepth := 9) -implicitDefEqProofs -dsimp only [go_sem, seval, *]; done) | omega)) | (with_reducible refine ACalls.flA (aig_Check g _ hs) ?_ <;> (first | (simp (maxDischargeDepth := 9) -implicitDefEqProofs -dsimp only [go_sem, seval, *]; done) | omega)))); (focus (first | trivial | with_reducible exact rfl | (simp (maxDischargeDepth := 9) -implicitDefEqProofs -dsimp only [go_sem, seval]; done)))) | ((with_reducible apply ACalls.newO); (focus (first | ((first | with_reducible refine sl_concatBool1 [[false], inp, st] _ ?_ htot hne) <;> (first | (simp (maxDischargeDepth := 9) -implicitDefEqProofs -dsimp only [go_sem, seval, *]; done) | omega)) | (with_reducible refine ACalls.flA (sl_concatBool1 [[false], inp, st] _ ?_ htot hne) ?_ <;> (first | (simp (maxDischargeDepth := 9) -implicitDefEqProofs -dsimp only [go_sem, seval, *]; done) | omega)))); (intro oF hoF hnF hnF'); (try simp only [upd_none, ne_eq, not_and] at hoF)))
        have hfine := check_fine hs hc
        have hal := hs.ands
        have hlo := hfine.lo
        have hcn := hfine.cnt
        have hfst : g.first = 1 + g.ins + g.flops.length := rfl
        obtain ⟨n1, hn1⟩ : ∃ n, n = g.first := ⟨_, rfl⟩
        rw [← hn1] at hfst
        have v0l : (false :: (inp ++ st)).length = 1 + inp.length + st.length := by simp; omega
        refine loop_rule (fun i : Nat => [(9, some (.slice ((Aig.vals (false :: (inp ++ st)) (g.ands.take i)).map encBool) (.own oF))), (36, some (.slice (g.ands.map encGate) .no)), (37, some (.int .i64 g.ands.length)), (38, some (.int .i64 i))]) (fun i => upd σ oF (.grow 1 (Aig.vals (false :: (inp ++ st)) (g.ands.take i)).length)) (fun i => i ≤ g.ands.length) (fun i => g.ands.length - i) 0 ?_ ?_
        · (repeat' (first | simp (maxDischargeDepth := 9) -implicitDefEqProofs -dsimp only [go_sem, seval, Aig.vals, *] | simp (disch := omega) only [wrap64])) <;> (repeat' refine And.intro ?_ ?_) <;> (first | omega | rfl | assumption | skip)
        · intro i hi
          by_cases hlt : i < g.ands.length
          · have hg := (gatesOk_iff.1 hfine.gok) i hlt
            rw [← hn1] at hg
            have st' := vals_step (v := false :: (inp ++ st)) hlt
            have ln := vals_len (v := false :: (inp ++ st)) (l := g.ands) (i := i) (by omega)
            rw [v0l] at ln
            obtain ⟨v, hv'⟩ : ∃ v, Aig.vals (false :: (inp ++ st)) (g.ands.take i) = v := ⟨_, rfl⟩
            rw [hv'] at ln st'
            clear hn1 v0l
            repeat' (first | simp (maxDischargeDepth := 9) -implicitDefEqProofs -dsimp only [go_sem, seval, *] | simp (disch := omega) only [wrap64] | (with_reducible (first | apply Zp) <;> intro hq) | ((with_reducible refine Zv ?_ ?_); focus (first | omega | exact rfl)) | ((with_reducible refine Zu ?_ ?_); focus omega) | ((with_reducible refine Zt (fun oF hoF hnF hnF' => ?_)); (try simp only [upd_none, ne_eq, not_and] at hoF)) | ((with_reducible apply ACalls.one1); (focus (first | ((first | with_reducible refine aig_of v g.ands[i].1 _ ?_ ?_ ?_ | with_reducible refine aig_of v g.ands[i].2 _ ?_ ?_ ?_) <;> (first | (simp (maxDischargeDepth := 9) -implicitDefEqProofs -dsimp only [go_sem, seval, *]; done) | omega)) | (with_reducible refine ACalls.flA (aig_of v g.ands[i].1 _ ?_ ?_ ?_) ?_ <;> (first | (simp (maxDischargeDepth := 9) -implicitDefEqProofs -dsimp only [go_sem, seval, *]; done) | omega)) | (with_reducible refine ACalls.flA (aig_of v g.ands[i].2 _ ?_ ?_ ?_) ?_ <;> (first | (simp (maxDischargeDepth := 9) -implicitDefEqProofs -dsimp only [go_sem, seval, *]; done) | omega)))); (focus (first | trivial | with_reducible exact rfl | (simp (maxDischargeDepth := 9) -implicitDefEqProofs -dsimp only [go_sem, seval]; done)))))
            · refine loop_next _ _ _ _ (i + 1) ?_; (repeat' (first | simp (maxDischargeDepth := 9) -implicitDefEqProofs -dsimp only [go_sem, seval, *] | simp (disch := omega) only [wrap64])) <;> (repeat' refine And.intro ?_ ?_) <;> (first | omega | rfl | assumption | skip)
            · refine loop_next _ _ _ _ (i + 1) ?_; (repeat' (first | simp (maxDischargeDepth := 9) -implicitDefEqProofs -dsimp only [go_sem, seval, *] | simp (disch := omega) only [wrap64])) <;> (repeat' refine And.intro ?_ ?_) <;> (first | omega | rfl | assumption | skip)
          · repeat' (first | simp (maxDischargeDepth := 9) -implicitDefEqProofs -dsimp only [go_sem, seval, *] | simp (disch := omega) only [wrap64] | (with_reducible (first | apply Zp) <;> intro hq) | ((with_reducible refine Zv ?_ ?_); focus (first | omega | exact rfl)) | ((with_reducible refine Zu ?_ ?_); focus omega) | ((with_reducible refine Zt (fun oF hoF hnF hnF' => ?_)); (try simp only [upd_none, ne_eq, not_and] at hoF)))
            refine fin_eq ?_
            have e0 : g.ands.take i = g.ands := List.take_of_length_le (by omega)
            (repeat' (first | simp (maxDischargeDepth := 9) -implicitDefEqProofs -dsimp only [go_sem, seval, e0, *] | simp (disch := omega) only [wrap64])) <;> (repeat' refine And.intro ?_ ?_) <;> (first | omega | rfl | assumption | skip)
      · have hv : g.Nodes inp st = ([], 1) := by simp [Aig.Nodes, *]
        have hb : ((st.length : Int) != g.flops.length) = true := by simp; omega
        repeat' (first | simp (maxDischargeDepth := 9) -implicitDefEqProofs -dsimp only [go_sem, seval, *] | simp (disch := omega) only [wrap64] | (with_reducible (first | apply Zp) <;> intro hq) | ((with_reducible refine Zv ?_ ?_); focus (first | omega | exact rfl)) | ((with_reducible refine Zu ?_ ?_); focus omega) | ((with_reducible refine Zt (fun oF hoF hnF hnF' => ?_)); (try simp only [upd_none, ne_eq, not_and] at hoF)) | ((with_reducible apply ACalls.one1); (focus (first | ((first | with_reducible refine aig_Check g _ hs) <;> (first | (simp (maxDischargeDepth := 9) -implicitDefEqProofs -dsimp only [go_sem, seval, *]; done) | omega)) | (with_reducible refine ACalls.flA (aig_Check g _ hs) ?_ <;> (first | (simp (maxDischargeDepth := 9) -implicitDefEqProofs -dsimp only [go_sem, seval, *]; done) | omega)))); (focus (first | trivial | with_reducible exact rfl | (simp (maxDischargeDepth := 9) -implicitDefEqProofs -dsimp only [go_sem, seval]; done)))))
        refine fin_eq ?_
        (repeat' (first | simp (maxDischargeDepth := 9) -implicitDefEqProofs -dsimp only [go_sem, seval, *] | simp (disch := omega) only [wrap64])) <;> (repeat' refine And.intro ?_ ?_) <;> (first | omega | rfl | assumption | skip)
    · have hv : g.Nodes inp st = ([], 1) := by simp [Aig.Nodes, *]
      have hb : ((inp.length : Int) != g.ins) = true := by simpa using hin
      repeat' (first | simp (maxDischargeDepth := 9) -implicitDefEqProofs -dsimp only [go_sem, seval, *] | simp (disch := omega) only [wrap64] | (with_reducible (first | apply Zp) <;> intro hq) | ((with_reducible refine Zv ?_ ?_); focus (first | omega | exact rfl)) | ((with_reducible refine Zu ?_ ?_); focus omega) | ((with_reducible refine Zt (fun oF hoF hnF hnF' => ?_)); (try simp only [upd_none, ne_eq, not_and] at hoF)) | ((with_reducible apply ACalls.one1); (focus (first | ((first | with_reducible refine aig_Check g _ hs) <;> (first | (simp (maxDischargeDepth := 9) -implicitDefEqProofs -dsimp only [go_sem, seval, *]; done) | omega)) | (with_reducible refine ACalls.flA (aig_Check g _ hs) ?_ <;> (first | (simp (maxDischargeDepth := 9) -implicitDefEqProofs -dsimp only [go_sem, seval, *]; done) | omega)))); (focus (first | trivial | with_reducible exact rfl | (simp (maxDischargeDepth := 9) -implicitDefEqProofs -dsimp only [go_sem, seval]; done)))))
      refine fin_eq ?_
      (repeat' (first | simp (maxDischargeDepth := 9) -implicitDefEqProofs -dsimp only [go_sem, seval, *] | simp (disch := omega) only [wrap64])) <;> (repeat' refine And.intro ?_ ?_) <;> (first | omega | rfl | assumption | skip)
  · have hv : g.Nodes inp st = ([], g.check) := by simp [Aig.Nodes, *]
    have hb : (g.check != 0) = true := by simpa using hc
    repeat' (first | simp (maxDischargeDepth := 9) -implicitDefEqProofs -dsimp only [go_sem, seval, *] | simp (disch := omega) only [wrap64] | (with_reducible (first | apply Zp) <;> intro hq) | ((with_reducible refine Zv ?_ ?_); focus (first | omega | exact rfl)) | ((with_reducible refine Zu ?_ ?_); focus omega) | ((with_reducible refine Zt (fun oF hoF hnF hnF' => ?_)); (try simp only [upd_none, ne_eq, not_and] at hoF)) | ((with_reducible apply ACalls.one1); (focus (first | ((first | with_reducible refine aig_Check g _ hs) <;> (first | (simp (maxDischargeDepth := 9) -implicitDefEqProofs -dsimp only [go_sem, seval, *]; done) | omega)) | (with_reducible refine ACalls.flA (aig_Check g _ hs) ?_ <;> (first | (simp (maxDischargeDepth := 9) -implicitDefEqProofs -dsimp only [go_sem, seval, *]; done) | omega)))); (focus (first | trivial | with_reducible exact rfl | (simp (maxDischargeDepth := 9) -implicitDefEqProofs -dsimp only [go_sem, seval]; done)))))
    refine fin_eq ?_
    (repeat' (first | simp (maxDischargeDepth := 9) -implicitDefEqProofs -dsimp only [go_sem, seval, *] | simp (disch := omega) only [wrap64])) <;> (repeat' refine And.intro ?_ ?_) <;> (first | omega | rfl | assumption | skip)
theorem aig_Eval (g : Aig) (inp st : List Bool) (σ : Sig) (hs : Wf g) :
    ACalls Try.prog 30 [encAig g, .slice (inp.map encBool) .no, .slice (st.map encBool) .no] σ (fun r σ' => r = .ret (.tup [.slice ((g.Eval inp st).1.map encBool) .no, .slice ((g.Eval inp st).2.1.map encBool) .no, .int .i64 (g.Eval inp st).2.2]) ∧ σ' = σ) := by
  refine ACalls.virt (callable_of Try.func30 b30 n30) 1 (fun oV1 hoV1 hnV1 hnV1' => ?_); (try simp only [upd_none, ne_eq, not_and] at hoV1); refine ACalls.virt (callable_of Try.func30 b30 n30) 1 (fun oV2 hoV2 hnV2 hnV2' => ?_); (try simp only [upd_none, ne_eq, not_and] at hoV2); refine calls_x mixed Try.func30 b30 n30 rfl q30 (by simp) ?_; unfold c30 r30
  by_cases h0 : (g.Nodes inp st).2 = 0
  · obtain ⟨hf, hg, h1, h2, h3, h4⟩ := nodes_ok hs h0
    have hc := hf.cnt
    have ho := hs.outs
    have hfl := hs.flops
    have hlo := hf.lo
    have hcc : 0 ≤ g.count := by unfold Aig.count; omega
    have hv : g.Eval inp st = (g.outs.map (Aig.val (g.Nodes inp st).1), g.flops.map (fun f => Aig.val (g.Nodes inp st).1 f.next), 0) := by simp [Aig.Eval, h0]
    have ez : ((0 : Int) != 0) = false := by decide
    clear h3
    repeat' (first | simp (maxDischargeDepth := 9) -implicitDefEqProofs -dsimp only [go_sem, seval, *] | simp (disch := omega) only [wrap64] | ((with_reducible refine Zv ?_ ?_); focus (first | omega | exact rfl)) | ((with_reducible refine Zu ?_ ?_); focus omega) | ((with_reducible refine Zt (fun oF hoF hnF hnF' => ?_)); (try simp only [upd_none, ne_eq, not_and] at hoF)) | ((with_reducible apply ACalls.one1); (focus (first | with_reducible refine aig_Nodes g inp st _ hs) <;> (first | (simp (maxDischargeDepth := 9) -implicitDefEqProofs -dsimp only [go_sem, seval, *]; done) | omega)); (focus (first | trivial | with_reducible exact rfl | (simp (maxDischargeDepth := 9) -implicitDefEqProofs -dsimp only [go_sem, seval]; done)))))
    generalize (g.Nodes inp st).1 = v at *
    refine loop_rule (fun i : Nat => [(27, some (.int .i64 i)), (26, some (.int .i64 g.outs.length)), (25, some (.slice (g.outs.map encInt) .no)), (6, some (.slice (((g.outs.take i).map (Aig.val v)).map encBool) (.own oV1))), (9, some (.slice (v.map encBool) .no)), (3, some (.cptr (aigL g))), (7, some (.slice [] .nil))])
      (fun i => upd (upd σ oV1 (.grow 1 i)) oV2 (.virt 1)) (fun i => i ≤ g.outs.length) (fun i => g.outs.length - i) 0 ?_ ?_
    · (repeat' (first | simp (maxDischargeDepth := 9) -implicitDefEqProofs -dsimp only [go_sem, seval, *] | simp (disch := omega) only [wrap64])) <;> (repeat' refine And.intro ?_ ?_) <;> (first | omega | rfl | assumption | skip)
    · intro i hi'
      by_cases hlt : i < g.outs.length
      · have hs' := take_succ hlt
        have hlen : (g.outs.take i).length = i := by simp; omega
        have hgo := good_outs hg (List.getElem_mem hlt)
        repeat' (first | simp (maxDischargeDepth := 9) -implicitDefEqProofs -dsimp only [go_sem, seval, *] | simp (disch := omega) only [wrap64] | ((with_reducible refine Zv ?_ ?_); focus (first | omega | exact rfl)) | ((with_reducible refine Zu ?_ ?_); focus omega) | ((with_reducible refine Zt (fun oF hoF hnF hnF' => ?_)); (try simp only [upd_none, ne_eq, not_and] at hoF)) | ((with_reducible apply ACalls.one1); (focus (first | with_reducible refine aig_of v g.outs[i] _ ?_ ?_ ?_) <;> (first | (simp (maxDischargeDepth := 9) -implicitDefEqProofs -dsimp only [go_sem, seval, *]; done) | omega)); (focus (first | trivial | with_reducible exact rfl | (simp (maxDischargeDepth := 9) -implicitDefEqProofs -dsimp only [go_sem, seval]; done)))))
        refine loop_next _ _ _ _ (i + 1) ?_; (repeat' (first | simp (maxDischargeDepth := 9) -implicitDefEqProofs -dsimp only [go_sem, seval, *] | simp (disch := omega) only [wrap64])) <;> (repeat' refine And.intro ?_ ?_) <;> (first | omega | rfl | assumption | skip)
      · repeat' (first | simp (maxDischargeDepth := 9) -implicitDefEqProofs -dsimp only [go_sem, seval, *] | simp (disch := omega) only [wrap64] | ((with_reducible refine Zv ?_ ?_); focus (first | omega | exact rfl)) | ((with_reducible refine Zu ?_ ?_); focus omega) | ((with_reducible refine Zt (fun oF hoF hnF hnF' => ?_)); (try simp only [upd_none, ne_eq, not_and] at hoF)))
        have e0 : g.outs.take i = g.outs := List.take_of_length_le (by omega)
        rw [e0]
        refine loop_rule (fun i : Nat => [(41, some (.int .i64 i)), (40, some (.int .i64 g.flops.length)), (39, some (.slice (g.flops.map encFlop) .no)), (7, some (.slice (((g.flops.take i).map fun f => Aig.val v f.next).map encBool) (.own oV2))), (9, some (.slice (v.map encBool) .no)), (6, some (.slice ((g.outs.map (Aig.val v)).map encBool) .no))])
          (fun i => upd σ oV2 (.grow 1 i)) (fun i => i ≤ g.flops.length) (fun i => g.flops.length - i) 0 ?_ ?_
        · (repeat' (first | simp (maxDischargeDepth := 9) -implicitDefEqProofs -dsimp only [go_sem, seval, *] | simp (disch := omega) only [wrap64])) <;> (repeat' refine And.intro ?_ ?_) <;> (first | omega | rfl | assumption | skip)
        · intro i hi'
          by_cases hlt : i < g.flops.length
          · have hs' := take_succ hlt
            have hlen : (g.flops.take i).length = i := by simp; omega
            have hgo := good_flops hg (List.getElem_mem hlt)
            repeat' (first | simp (maxDischargeDepth := 9) -implicitDefEqProofs -dsimp only [go_sem, seval, *] | simp (disch := omega) only [wrap64] | ((with_reducible refine Zv ?_ ?_); focus (first | omega | exact rfl)) | ((with_reducible refine Zu ?_ ?_); focus omega) | ((with_reducible refine Zt (fun oF hoF hnF hnF' => ?_)); (try simp only [upd_none, ne_eq, not_and] at hoF)) | ((with_reducible apply ACalls.one1); (focus (first | with_reducible refine aig_of v g.flops[i].next _ ?_ ?_ ?_) <;> (first | (simp (maxDischargeDepth := 9) -implicitDefEqProofs -dsimp only [go_sem, seval, *]; done) | omega)); (focus (first | trivial | with_reducible exact rfl | (simp (maxDischargeDepth := 9) -implicitDefEqProofs -dsimp only [go_sem, seval]; done)))))
            refine loop_next _ _ _ _ (i + 1) ?_; (repeat' (first | simp (maxDischargeDepth := 9) -implicitDefEqProofs -dsimp only [go_sem, seval, *] | simp (disch := omega) only [wrap64])) <;> (repeat' refine And.intro ?_ ?_) <;> (first | omega | rfl | assumption | skip)
          · repeat' (first | simp (maxDischargeDepth := 9) -implicitDefEqProofs -dsimp only [go_sem, seval, *] | simp (disch := omega) only [wrap64] | ((with_reducible refine Zv ?_ ?_); focus (first | omega | exact rfl)) | ((with_reducible refine Zu ?_ ?_); focus omega) | ((with_reducible refine Zt (fun oF hoF hnF hnF' => ?_)); (try simp only [upd_none, ne_eq, not_and] at hoF)))
            have e0 : g.flops.take i = g.flops := List.take_of_length_le (by omega)
            refine fin_eq ?_
            (repeat' (first | simp (maxDischargeDepth := 9) -implicitDefEqProofs -dsimp only [go_sem, seval, e0, *] | simp (disch := omega) only [wrap64])) <;> (repeat' refine And.intro ?_ ?_) <;> (first | omega | rfl | assumption | skip)
  · have hv : g.Eval inp st = ([], [], (g.Nodes inp st).2) := by simp [Aig.Eval, h0]
    have hb : ((g.Nodes inp st).2 != 0) = true := by simpa using h0
    repeat' (first | simp (maxDischargeDepth := 9) -implicitDefEqProofs -dsimp only [go_sem, seval, *] | simp (disch := omega) only [wrap64] | ((with_reducible refine Zv ?_ ?_); focus (first | omega | exact rfl)) | ((with_reducible refine Zu ?_ ?_); focus omega) | ((with_reducible refine Zt (fun oF hoF hnF hnF' => ?_)); (try simp only [upd_none, ne_eq, not_and] at hoF)) | ((with_reducible apply ACalls.one1); (focus (first | with_reducible refine aig_Nodes g inp st _ hs) <;> (first | (simp (maxDischargeDepth := 9) -implicitDefEqProofs -dsimp only [go_sem, seval, *]; done) | omega)); (focus (first | trivial | with_reducible exact rfl | (simp (maxDischargeDepth := 9) -implicitDefEqProofs -dsimp only [go_sem, seval]; done)))))
    refine fin_eq ?_
    (repeat' (first | simp (maxDischargeDepth := 9) -implicitDefEqProofs -dsimp only [go_sem, seval, *] | simp (disch := omega) only [wrap64])) <;> (repeat' refine And.intro ?_ ?_) <;> (first | omega | rfl | assumption | skip)
theorem aig_Run (g : Aig) (ins : List (List Bool)) (σ : Sig) (hs : Wf g) (hi : ins.length ≤ 1000000) :
    ACalls Try.prog 36 [encAig g, .slice (ins.map (encRow encBool)) .no] σ (fun r σ' => r = .ret (.tup [.slice ((g.Run ins).1.map (encRow encBool)) .no, .int .i64 (g.Run ins).2]) ∧ σ' = σ) := by
  refine ACalls.virt (callable_of Try.func36 b36 n36) 1 (fun oV1 hoV1 hnV1 hnV1' => ?_); (try simp only [upd_none, ne_eq, not_and] at hoV1); refine ACalls.virt (callable_of Try.func36 b36 n36) 1 (fun oV2 hoV2 hnV2 hnV2' => ?_); (try simp only [upd_none, ne_eq, not_and] at hoV2); refine calls_x mixed Try.func36 b36 n36 rfl q36 (by simp) ?_; unfold c36 r36
  have hfl := hs.flops
  have hz : ∀ l : List (List Bool), szs 1 (l.map (encRow encBool)) = True := fun l => szs_map _ _ _ fun _ => rfl
  by_cases h0 : g.check = 0
  · have hv : g.Run ins = g.runs (g.flops.map (·.init)) [] ins := by simp [Aig.Run, h0]
    have ez : ((0 : Int) != 0) = false := by decide
    repeat' (first | simp (maxDischargeDepth := 9) -implicitDefEqProofs -dsimp only [go_sem, seval, *] | simp (disch := omega) only [wrap64] | ((with_reducible refine Zv ?_ ?_); focus (first | omega | exact rfl)) | ((with_reducible refine Zu ?_ ?_); focus omega) | ((with_reducible refine Zt (fun oF hoF hnF hnF' => ?_)); (try simp only [upd_none, ne_eq, not_and] at hoF)) | ((with_reducible apply ACalls.one1); (focus (first | with_reducible refine aig_Check g _ hs) <;> (first | (simp (maxDischargeDepth := 9) -implicitDefEqProofs -dsimp only [go_sem, seval, *]; done) | omega)); (focus (first | trivial | with_reducible exact rfl | (simp (maxDischargeDepth := 9) -implicitDefEqProofs -dsimp only [go_sem, seval]; done)))))
    refine loop_rule (fun i : Nat => [(24, some (.int .i64 i)), (23, some (.int .i64 g.flops.length)), (22, some (.slice (g.flops.map encFlop) .no)), (8, some (.slice (((g.flops.take i).map (·.init)).map encBool) (.own oV1))), (1, some (.slice (ins.map (encRow encBool)) .no)), (2, some (.cptr (aigL g))), (7, some (.slice [] .nil))])
      (fun i => upd (upd σ oV1 (.grow 1 i)) oV2 (.virt 1)) (fun i => i ≤ g.flops.length) (fun i => g.flops.length - i) 0 ?_ ?_
    · (repeat' (first | simp (maxDischargeDepth := 9) -implicitDefEqProofs -dsimp only [go_sem, seval, *] | simp (disch := omega) only [wrap64])) <;> (repeat' refine And.intro ?_ ?_) <;> (first | omega | rfl | assumption | skip)
    · intro i hi'
      by_cases hlt : i < g.flops.length
      · have hs' := take_succ hlt
        have hlen : (g.flops.take i).length = i := by simp; omega
        repeat' (first | simp (maxDischargeDepth := 9) -implicitDefEqProofs -dsimp only [go_sem, seval, *] | simp (disch := omega) only [wrap64] | ((with_reducible refine Zv ?_ ?_); focus (first | omega | exact rfl)) | ((with_reducible refine Zu ?_ ?_); focus omega) | ((with_reducible refine Zt (fun oF hoF hnF hnF' => ?_)); (try simp only [upd_none, ne_eq, not_and] at hoF)))
        refine loop_next _ _ _ _ (i + 1) ?_; (repeat' (first | simp (maxDischargeDepth := 9) -implicitDefEqProofs -dsimp only [go_sem, seval, *] | simp (disch := omega) only [wrap64])) <;> (repeat' refine And.intro ?_ ?_) <;> (first | omega | rfl | assumption | skip)
      · repeat' (first | simp (maxDischargeDepth := 9) -implicitDefEqProofs -dsimp only [go_sem, seval, *] | simp (disch := omega) only [wrap64] | ((with_reducible refine Zv ?_ ?_); focus (first | omega | exact rfl)) | ((with_reducible refine Zu ?_ ?_); focus omega) | ((with_reducible refine Zt (fun oF hoF hnF hnF' => ?_)); (try simp only [upd_none, ne_eq, not_and] at hoF)))
        have e0 : g.flops.take i = g.flops := List.take_of_length_le (by omega)
        rw [e0]
        refine loop_rule (fun x : Nat × List Bool × List (List Bool) => [(36, some (.int .i64 x.1)), (35, some (.int .i64 ins.length)), (34, some (.slice (ins.map (encRow encBool)) .no)), (2, some (.cptr (aigL g))), (8, some (.slice (x.2.1.map encBool) .no)), (7, some (.slice (x.2.2.map (encRow encBool)) (.own oV2)))])
          (fun x => upd σ oV2 (.grow 1 x.1)) (fun x => x.1 ≤ ins.length ∧ x.2.2.length = x.1 ∧ g.runs (g.flops.map (·.init)) [] ins = g.runs x.2.1 x.2.2 (ins.drop x.1)) (fun x => ins.length - x.1) (0, g.flops.map (·.init), []) ?_ ?_
        · (repeat' (first | simp (maxDischargeDepth := 9) -implicitDefEqProofs -dsimp only [go_sem, seval, List.drop_zero, *] | simp (disch := omega) only [wrap64])) <;> (repeat' refine And.intro ?_ ?_) <;> (first | omega | rfl | assumption | skip)
        · rintro ⟨i, st, out⟩ ⟨hi', hlen, hr⟩
          simp only at hi' hlen hr
          by_cases hlt : i < ins.length
          · have hd : ins.drop i = ins[i] :: ins.drop (i + 1) := List.drop_eq_getElem_cons hlt
            rw [hd] at hr
            simp only [Aig.runs] at hr
            by_cases he : (g.Eval ins[i] st).2.2 = 0
            · have hr2 : g.runs (g.flops.map (·.init)) [] ins = g.runs (g.Eval ins[i] st).2.1 (out ++ [(g.Eval ins[i] st).1]) (ins.drop (i + 1)) := by rw [hr, if_neg (by simp [he])]
              clear hr hd
              rw [hv, hr2]
              clear hv
              repeat' (first | simp (maxDischargeDepth := 9) -implicitDefEqProofs -dsimp only [go_sem, seval, *] | simp (disch := omega) only [wrap64] | ((with_reducible refine Zv ?_ ?_); focus (first | omega | exact rfl)) | ((with_reducible refine Zu ?_ ?_); focus omega) | ((with_reducible refine Zt (fun oF hoF hnF hnF' => ?_)); (try simp only [upd_none, ne_eq, not_and] at hoF)) | ((with_reducible apply ACalls.one1); (focus (first | with_reducible refine aig_Eval g ins[i] st _ hs) <;> (first | (simp (maxDischargeDepth := 9) -implicitDefEqProofs -dsimp only [go_sem, seval, *]; done) | omega)); (focus (first | trivial | with_reducible exact rfl | (simp (maxDischargeDepth := 9) -implicitDefEqProofs -dsimp only [go_sem, seval]; done)))))
              refine loop_next _ _ _ _ ((i + 1, (g.Eval ins[i] st).2.1, out ++ [(g.Eval ins[i] st).1])) ?_; (repeat' (first | simp (maxDischargeDepth := 9) -implicitDefEqProofs -dsimp only [go_sem, seval, *] | simp (disch := omega) only [wrap64])) <;> (repeat' refine And.intro ?_ ?_) <;> (first | omega | rfl | assumption | skip)
            · have hr2 : g.runs (g.flops.map (·.init)) [] ins = ([], (g.Eval ins[i] st).2.2) := by rw [hr, if_pos he]
              have hb : ((g.Eval ins[i] st).2.2 != 0) = true := by simpa using he
              clear hr hd
              rw [hv, hr2]
              clear hv
              repeat' (first | simp (maxDischargeDepth := 9) -implicitDefEqProofs -dsimp only [go_sem, seval, *] | simp (disch := omega) only [wrap64] | ((with_reducible refine Zv ?_ ?_); focus (first | omega | exact rfl)) | ((with_reducible refine Zu ?_ ?_); focus omega) | ((with_reducible refine Zt (fun oF hoF hnF hnF' => ?_)); (try simp only [upd_none, ne_eq, not_and] at hoF)) | ((with_reducible apply ACalls.one1); (focus (first | with_reducible refine aig_Eval g ins[i] st _ hs) <;> (first | (simp (maxDischargeDepth := 9) -implicitDefEqProofs -dsimp only [go_sem, seval, *]; done) | omega)); (focus (first | trivial | with_reducible exact rfl | (simp (maxDischargeDepth := 9) -implicitDefEqProofs -dsimp only [go_sem, seval]; done)))))
              refine fin_eq ?_
              (repeat' (first | simp (maxDischargeDepth := 9) -implicitDefEqProofs -dsimp only [go_sem, seval, *] | simp (disch := omega) only [wrap64])) <;> (repeat' refine And.intro ?_ ?_) <;> (first | omega | rfl | assumption | skip)
          · have e1 : ins.drop i = [] := List.drop_of_length_le (by omega)
            rw [e1] at hr
            simp only [Aig.runs] at hr
            rw [hv, hr]
            clear hv
            repeat' (first | simp (maxDischargeDepth := 9) -implicitDefEqProofs -dsimp only [go_sem, seval, *] | simp (disch := omega) only [wrap64] | ((with_reducible refine Zv ?_ ?_); focus (first | omega | exact rfl)) | ((with_reducible refine Zu ?_ ?_); focus omega) | ((with_reducible refine Zt (fun oF hoF hnF hnF' => ?_)); (try simp only [upd_none, ne_eq, not_and] at hoF)))
            refine fin_eq ?_
            (repeat' (first | simp (maxDischargeDepth := 9) -implicitDefEqProofs -dsimp only [go_sem, seval, *] | simp (disch := omega) only [wrap64])) <;> (repeat' refine And.intro ?_ ?_) <;> (first | omega | rfl | assumption | skip)
  · have hv : g.Run ins = ([], g.check) := by simp [Aig.Run, h0]
    have hb : (g.check != 0) = true := by simpa using h0
    repeat' (first | simp (maxDischargeDepth := 9) -implicitDefEqProofs -dsimp only [go_sem, seval, *] | simp (disch := omega) only [wrap64] | ((with_reducible refine Zv ?_ ?_); focus (first | omega | exact rfl)) | ((with_reducible refine Zu ?_ ?_); focus omega) | ((with_reducible refine Zt (fun oF hoF hnF hnF' => ?_)); (try simp only [upd_none, ne_eq, not_and] at hoF)) | ((with_reducible apply ACalls.one1); (focus (first | with_reducible refine aig_Check g _ hs) <;> (first | (simp (maxDischargeDepth := 9) -implicitDefEqProofs -dsimp only [go_sem, seval, *]; done) | omega)); (focus (first | trivial | with_reducible exact rfl | (simp (maxDischargeDepth := 9) -implicitDefEqProofs -dsimp only [go_sem, seval]; done)))))
    refine fin_eq ?_
    (repeat' (first | simp (maxDischargeDepth := 9) -implicitDefEqProofs -dsimp only [go_sem, seval, *] | simp (disch := omega) only [wrap64])) <;> (repeat' refine And.intro ?_ ?_) <;> (first | omega | rfl | assumption | skip)
end Go.Proofs.Ytapnlmhfacoceaa.A

namespace Go.Proofs.Ytapnlmhfacoceaa.A
open Abs Fil
theorem ref_Bools (a b : List Bool) (σ : Sig) (ha : a.length ≤ 1000000000) :
    ACalls Try.prog 35 [.slice (a.map encBool) .no, .slice (b.map encBool) .no] σ (fun r σ' => r = .ret (.bool (decide (a = b))) ∧ σ' = σ) := by
  refine calls_x mixed Try.func35 b35 n35 rfl q35 (by simp) ?_; unfold c35 r35
  by_cases hl : a.length = b.length
  · repeat' (first | simp (maxDischargeDepth := 9) -implicitDefEqProofs -dsimp only [go_sem, seval, *] | simp (disch := omega) only [wrap64] | ((with_reducible refine Zu ?_ ?_); focus omega))
    have hl' := And.intro (Nat.le_of_eq hl) (Nat.le_of_eq hl.symm)
    clear hl
    refine loop_rule (fun i : Nat => [(0, some (.slice (a.map encBool) .no)), (1, some (.slice (b.map encBool) .no)), (5, some (.int .i64 i))]) (fun _ => σ) (fun i => i ≤ a.length ∧ ∀ j, (hj : j < a.length) → j < i → a[j] = b[j]) (fun i => a.length - i) 0 ?_ ?_
    · (repeat' (first | simp (maxDischargeDepth := 9) -implicitDefEqProofs -dsimp only [go_sem, seval, *] | simp (disch := omega) only [wrap64])) <;> (repeat' refine And.intro ?_ ?_) <;> (first | omega | rfl | assumption | skip)
    · rintro i ⟨hi, hok⟩
      by_cases hlt : i < a.length
      · have hlt' : i < b.length := by omega
        obtain ⟨x, hx⟩ : ∃ x, a[i] = x := ⟨_, rfl⟩
        obtain ⟨y, hy⟩ : ∃ y, b[i] = y := ⟨_, rfl⟩
        by_cases he : x = y
        · subst he
          repeat' (first | simp (maxDischargeDepth := 9) -implicitDefEqProofs -dsimp only [go_sem, seval, *] | simp (disch := omega) only [wrap64] | ((with_reducible refine Zu ?_ ?_); focus omega))
          refine loop_next _ _ _ _ (i + 1) ?_; (repeat' (first | simp (maxDischargeDepth := 9) -implicitDefEqProofs -dsimp only [go_sem, seval, *] | simp (disch := omega) only [wrap64])) <;> (repeat' refine And.intro ?_ ?_) <;> (first | omega | rfl | assumption | skip)
          intro j hj hji
          rcases Nat.lt_or_ge j i with h' | h'
          · exact hok j hj h'
          · obtain rfl : j = i := by omega
            rw [hx, hy]
        · have hv : decide (a = b) = false := by simp; intro e; exact he (by rw [← hx, ← hy]; simp only [e])
          have hb : (x == y) = false := by simpa using he
          repeat' (first | simp (maxDischargeDepth := 9) -implicitDefEqProofs -dsimp only [go_sem, seval, *] | simp (disch := omega) only [wrap64] | ((with_reducible refine Zu ?_ ?_); focus omega))
          refine fin_eq ?_
          (repeat' (first | simp (maxDischargeDepth := 9) -implicitDefEqProofs -dsimp only [go_sem, seval, *] | simp (disch := omega) only [wrap64])) <;> (repeat' refine And.intro ?_ ?_) <;> (first | omega | rfl | assumption | skip)
      · have hv : decide (a = b) = true := by simp; exact List.ext_getElem (by omega) fun j hj _ => hok j hj (by omega)
        repeat' (first | simp (maxDischargeDepth := 9) -implicitDefEqProofs -dsimp only [go_sem, seval, *] | simp (disch := omega) only [wrap64] | ((with_reducible refine Zu ?_ ?_); focus omega))
        refine fin_eq ?_
        (repeat' (first | simp (maxDischargeDepth := 9) -implicitDefEqProofs -dsimp only [go_sem, seval, *] | simp (disch := omega) only [wrap64])) <;> (repeat' refine And.intro ?_ ?_) <;> (first | omega | rfl | assumption | skip)
  · have hb : ((a.length : Int) != b.length) = true := by simp; omega
    have hv : decide (a = b) = false := by simp; intro e; exact hl (by rw [e])
    repeat' (first | simp (maxDischargeDepth := 9) -implicitDefEqProofs -dsimp only [go_sem, seval, *] | simp (disch := omega) only [wrap64] | ((with_reducible refine Zu ?_ ?_); focus omega))
    refine fin_eq ?_
    (repeat' (first | simp (maxDischargeDepth := 9) -implicitDefEqProofs -dsimp only [go_sem, seval, *] | simp (disch := omega) only [wrap64])) <;> (repeat' refine And.intro ?_ ?_) <;> (first | omega | rfl | assumption | skip)
theorem ref_Rows (a b : List (List Bool)) (σ : Sig) (ha : a.length ≤ 1000000000) (hr : ∀ x ∈ a, x.length ≤ 1000000000) :
    ACalls Try.prog 68 [.slice (a.map (encRow encBool)) .no, .slice (b.map (encRow encBool)) .no] σ (fun r σ' => r = .ret (.bool (decide (a = b))) ∧ σ' = σ) := by
  refine calls_x mixed Try.func68 b68 n68 rfl q68 (by simp) ?_; unfold c68 r68
  by_cases hl : a.length = b.length
  · repeat' (first | simp (maxDischargeDepth := 9) -implicitDefEqProofs -dsimp only [go_sem, seval, *] | simp (disch := omega) only [wrap64] | ((with_reducible refine Zu ?_ ?_); focus omega))
    have hl' := And.intro (Nat.le_of_eq hl) (Nat.le_of_eq hl.symm)
    clear hl
    refine loop_rule (fun i : Nat => [(0, some (.slice (a.map (encRow encBool)) .no)), (1, some (.slice (b.map (encRow encBool)) .no)), (5, some (.int .i64 i))]) (fun _ => σ) (fun i => i ≤ a.length ∧ ∀ j, (hj : j < a.length) → j < i → a[j] = b[j]) (fun i => a.length - i) 0 ?_ ?_
    · (repeat' (first | simp (maxDischargeDepth := 9) -implicitDefEqProofs -dsimp only [go_sem, seval, *] | simp (disch := omega) only [wrap64])) <;> (repeat' refine And.intro ?_ ?_) <;> (first | omega | rfl | assumption | skip)
    · rintro i ⟨hi, hok⟩
      by_cases hlt : i < a.length
      · have hlt' : i < b.length := by omega
        have hri := hr _ (List.getElem_mem hlt)
        clear hr
        obtain ⟨x, hx⟩ : ∃ x, a[i] = x := ⟨_, rfl⟩
        obtain ⟨y, hy⟩ : ∃ y, b[i] = y := ⟨_, rfl⟩
        rw [hx] at hri
        by_cases he : x = y
        · subst he
          repeat' (first | simp (maxDischargeDepth := 9) -implicitDefEqProofs -dsimp only [go_sem, seval, *] | simp (disch := omega) only [wrap64] | ((with_reducible refine Zu ?_ ?_); focus omega) | ((with_reducible apply id_one0); (focus (intro tS hS; ((first | with_reducible refine ref_Bools x x _ hri) <;> (first | (simp (maxDischargeDepth := 9) -implicitDefEqProofs -dsimp only [go_sem, seval, *]; done) | omega | ((with_reducible refine Sub.get hS ?_); simp (maxDischargeDepth := 9) -implicitDefEqProofs -dsimp only [go_sem, seval, *]; done))))); (focus (first | trivial | (simp (maxDischargeDepth := 9) -implicitDefEqProofs -dsimp only [go_sem, seval, *]; done)))))
          refine loop_next _ _ _ _ (i + 1) ?_; (repeat' (first | simp (maxDischargeDepth := 9) -implicitDefEqProofs -dsimp only [go_sem, seval, *] | simp (disch := omega) only [wrap64])) <;> (repeat' refine And.intro ?_ ?_) <;> (first | omega | rfl | assumption | skip)
          intro j hj hji
          rcases Nat.lt_or_ge j i with h' | h'
          · exact hok j hj h'
          · obtain rfl : j = i := by omega
            rw [hx, hy]
        · have hv : decide (a = b) = false := by simp; intro e; exact he (by rw [← hx, ← hy]; simp only [e])
          have hb : decide (x = y) = false := by simpa using he
          repeat' (first | simp (maxDischargeDepth := 9) -implicitDefEqProofs -dsimp only [go_sem, seval, *] | simp (disch := omega) only [wrap64] | ((with_reducible refine Zu ?_ ?_); focus omega) | ((with_reducible apply id_one0); (focus (intro tS hS; ((first | with_reducible refine ref_Bools x y _ hri) <;> (first | (simp (maxDischargeDepth := 9) -implicitDefEqProofs -dsimp only [go_sem, seval, *]; done) | omega | ((with_reducible refine Sub.get hS ?_); simp (maxDischargeDepth := 9) -implicitDefEqProofs -dsimp only [go_sem, seval, *]; done))))); (focus (first | trivial | (simp (maxDischargeDepth := 9) -implicitDefEqProofs -dsimp only [go_sem, seval, *]; done)))))
          refine fin_eq ?_
          (repeat' (first | simp (maxDischargeDepth := 9) -implicitDefEqProofs -dsimp only [go_sem, seval, *] | simp (disch := omega) only [wrap64])) <;> (repeat' refine And.intro ?_ ?_) <;> (first | omega | rfl | assumption | skip)
      · have hv : decide (a = b) = true := by simp; exact List.ext_getElem (by omega) fun j hj _ => hok j hj (by omega)
        clear hr
        repeat' (first | simp (maxDischargeDepth := 9) -implicitDefEqProofs -dsimp only [go_sem, seval, *] | simp (disch := omega) only [wrap64] | ((with_reducible refine Zu ?_ ?_); focus omega))
        refine fin_eq ?_
        (repeat' (first | simp (maxDischargeDepth := 9) -implicitDefEqProofs -dsimp only [go_sem, seval, *] | simp (disch := omega) only [wrap64])) <;> (repeat' refine And.intro ?_ ?_) <;> (first | omega | rfl | assumption | skip)
  · have hb : ((a.length : Int) != b.length) = true := by simp; omega
    have hv : decide (a = b) = false := by simp; intro e; exact hl (by rw [e])
    repeat' (first | simp (maxDischargeDepth := 9) -implicitDefEqProofs -dsimp only [go_sem, seval, *] | simp (disch := omega) only [wrap64] | ((with_reducible refine Zu ?_ ?_); focus omega))
    refine fin_eq ?_
    (repeat' (first | simp (maxDischargeDepth := 9) -implicitDefEqProofs -dsimp only [go_sem, seval, *] | simp (disch := omega) only [wrap64])) <;> (repeat' refine And.intro ?_ ?_) <;> (first | omega | rfl | assumption | skip)
theorem ref_Init (g : Aig) (σ : Sig) (hl : g.flops.length ≤ 1000000) :
    ACalls Try.prog 34 [encAig g] σ (fun r σ' => r = .ret (.slice ((g.flops.map (·.init)).map encBool) .no) ∧ σ' = σ) := by
  refine ACalls.virt (callable_of Try.func34 b34 n34) 1 (fun oV1 hoV1 hnV1 hnV1' => ?_); (try simp only [upd_none, ne_eq, not_and] at hoV1); refine calls_x mixed Try.func34 b34 n34 rfl q34 (by simp) ?_; unfold c34 r34
  repeat' (first | simp (maxDischargeDepth := 9) -implicitDefEqProofs -dsimp only [go_sem, seval, *] | simp (disch := omega) only [wrap64] | ((with_reducible refine Zv ?_ ?_); focus (first | omega | exact rfl)) | ((with_reducible refine Zu ?_ ?_); focus omega))
  refine loop_rule (fun i : Nat => [(4, some (.int .i64 i)), (1, some (.cptr (aigL g))), (3, some (.slice (((g.flops.take i).map (·.init)).map encBool) (.own oV1)))])
    (fun i => upd σ oV1 (.grow 1 i)) (fun i => i ≤ g.flops.length) (fun i => g.flops.length - i) 0 ?_ ?_
  · (repeat' (first | simp (maxDischargeDepth := 9) -implicitDefEqProofs -dsimp only [go_sem, seval, *] | simp (disch := omega) only [wrap64])) <;> (repeat' refine And.intro ?_ ?_) <;> (first | omega | rfl | assumption | skip)
  · intro i hi'
    by_cases hlt : i < g.flops.length
    · have hs := take_succ hlt
      have hlen : (g.flops.take i).length = i := by simp; omega
      repeat' (first | simp (maxDischargeDepth := 9) -implicitDefEqProofs -dsimp only [go_sem, seval, *] | simp (disch := omega) only [wrap64] | ((with_reducible refine Zv ?_ ?_); focus (first | omega | exact rfl)) | ((with_reducible refine Zu ?_ ?_); focus omega))
      refine loop_next _ _ _ _ (i + 1) ?_; (repeat' (first | simp (maxDischargeDepth := 9) -implicitDefEqProofs -dsimp only [go_sem, seval, *] | simp (disch := omega) only [wrap64])) <;> (repeat' refine And.intro ?_ ?_) <;> (first | omega | rfl | assumption | skip)
    · repeat' (first | simp (maxDischargeDepth := 9) -implicitDefEqProofs -dsimp only [go_sem, seval, *] | simp (disch := omega) only [wrap64] | ((with_reducible refine Zv ?_ ?_); focus (first | omega | exact rfl)) | ((with_reducible refine Zu ?_ ?_); focus omega))
      refine fin_eq ?_
      have e0 : g.flops.take i = g.flops := List.take_of_length_le (by omega)
      (repeat' (first | simp (maxDischargeDepth := 9) -implicitDefEqProofs -dsimp only [go_sem, seval, e0, *] | simp (disch := omega) only [wrap64])) <;> (repeat' refine And.intro ?_ ?_) <;> (first | omega | rfl | assumption | skip)
end Go.Proofs.Ytapnlmhfacoceaa.A

namespace Fil.Bd
abbrev T3 := Int × Int × Int
def frk (F : List T3) (n : Int) : T3 := F.getD n.toNat (0, 0, 0)
def top (vars : Int) (F : List T3) (n : Int) : Int := if n < 2 then vars else (frk F n).1
def tab (F : List T3) : Nat → Int → Int → List Bool
  | 0, _, n => [n == 1]
  | k + 1, v, n => if 2 ≤ n ∧ (frk F n).1 = v then tab F k (v + 1) (frk F n).2.1 ++ tab F k (v + 1) (frk F n).2.2 else tab F k (v + 1) n ++ tab F k (v + 1) n
structure Ok (vars : Int) (F : List T3) : Prop where
  two : 2 ≤ F.length
  lo : 0 ≤ vars
  var : ∀ i : Int, 2 ≤ i → i < F.length → 0 ≤ (frk F i).1 ∧ (frk F i).1 < vars
  ne : ∀ i : Int, 2 ≤ i → i < F.length → (frk F i).2.1 ≠ (frk F i).2.2
  low : ∀ i : Int, 2 ≤ i → i < F.length → 0 ≤ (frk F i).2.1 ∧ (frk F i).2.1 < i ∧ (frk F i).1 < top vars F (frk F i).2.1
  high : ∀ i : Int, 2 ≤ i → i < F.length → 0 ≤ (frk F i).2.2 ∧ (frk F i).2.2 < i ∧ (frk F i).1 < top vars F (frk F i).2.2
  uniq : ∀ i j : Int, 2 ≤ i → i < F.length → 2 ≤ j → j < F.length → frk F i = frk F j → i = j
def In (vars : Int) (F : List T3) (v n : Int) : Prop := 0 ≤ n ∧ n < F.length ∧ v ≤ top vars F n
theorem tab_len (F : List T3) : ∀ k v n, (tab F k v n).length = 2 ^ k
  | 0, v, n => rfl
  | k + 1, v, n => by
    simp only [tab]
    split <;> simp [tab_len F k] <;> omega
theorem tab_at {F : List T3} {k v n} (h : 2 ≤ n ∧ (frk F n).1 = v) : tab F (k + 1) v n = tab F k (v + 1) (frk F n).2.1 ++ tab F k (v + 1) (frk F n).2.2 := by rw [tab, if_pos h]
theorem tab_up {F : List T3} {k v n} (h : ¬ (2 ≤ n ∧ (frk F n).1 = v)) : tab F (k + 1) v n = tab F k (v + 1) n ++ tab F k (v + 1) n := by rw [tab, if_neg h]
theorem In.up {vars F v n} (h : In vars F v n) (ho : Ok vars F) {k : Nat} (hv : v + (k + 1 : Nat) = vars) (hn : ¬ (2 ≤ n ∧ (frk F n).1 = v)) : In vars F (v + 1) n := by
  obtain ⟨h1, h2, h3⟩ := h
  refine ⟨h1, h2, ?_⟩
  unfold top at h3 ⊢
  split
  · omega
  · rename_i h4
    rw [if_neg h4] at h3
    have : (frk F n).1 ≠ v := fun e => hn ⟨by omega, e⟩
    omega
theorem In.lo {vars F v n} (h : In vars F v n) (ho : Ok vars F) (hn : 2 ≤ n ∧ (frk F n).1 = v) : In vars F (v + 1) (frk F n).2.1 := by
  obtain ⟨h1, h2, h3⟩ := h
  obtain ⟨a, b, c⟩ := ho.low n hn.1 h2
  exact ⟨a, by omega, by omega⟩
theorem In.hi {vars F v n} (h : In vars F v n) (ho : Ok vars F) (hn : 2 ≤ n ∧ (frk F n).1 = v) : In vars F (v + 1) (frk F n).2.2 := by
  obtain ⟨h1, h2, h3⟩ := h
  obtain ⟨a, b, c⟩ := ho.high n hn.1 h2
  exact ⟨a, by omega, by omega⟩
theorem In.end {vars F n} (h : In vars F vars n) (ho : Ok vars F) : n = 0 ∨ n = 1 := by
  obtain ⟨h1, h2, h3⟩ := h
  unfold top at h3
  split at h3
  · omega
  · have := (ho.var n (by omega) h2).2
    omega
theorem canon {vars F} (ho : Ok vars F) : ∀ (k : Nat) (v n m : Int), v + k = vars → In vars F v n → In vars F v m → tab F k v n = tab F k v m → n = m
  | 0, v, n, m, hv, hn, hm, h => by
    have e : v = vars := by omega
    subst e
    rcases hn.end ho with rfl | rfl <;> rcases hm.end ho with rfl | rfl <;> first | rfl | (exfalso; revert h; simp [tab])
  | k + 1, v, n, m, hv, hn, hm, h => by
    have ih := canon ho k (v + 1)
    have hl : ∀ a b, (tab F k (v + 1) a).length = (tab F k (v + 1) b).length := fun a b => by rw [tab_len, tab_len]
    by_cases c1 : 2 ≤ n ∧ (frk F n).1 = v <;> by_cases c2 : 2 ≤ m ∧ (frk F m).1 = v
    · rw [tab_at c1, tab_at c2] at h
      obtain ⟨e1, e2⟩ := List.append_inj h (hl _ _)
      have q1 := ih _ _ (by omega) (hn.lo ho c1) (hm.lo ho c2) e1
      have q2 := ih _ _ (by omega) (hn.hi ho c1) (hm.hi ho c2) e2
      refine ho.uniq n m c1.1 hn.2.1 c2.1 hm.2.1 ?_
      exact Prod.ext (c1.2.trans c2.2.symm) (Prod.ext q1 q2)
    · rw [tab_at c1, tab_up c2] at h
      obtain ⟨e1, e2⟩ := List.append_inj h (hl _ _)
      have q1 := ih _ _ (by omega) (hn.lo ho c1) (hm.up ho hv c2) e1
      have q2 := ih _ _ (by omega) (hn.hi ho c1) (hm.up ho hv c2) e2
      exact absurd (q1.trans q2.symm) (ho.ne n c1.1 hn.2.1)
    · rw [tab_up c1, tab_at c2] at h
      obtain ⟨e1, e2⟩ := List.append_inj h (hl _ _)
      have q1 := ih _ _ (by omega) (hn.up ho hv c1) (hm.lo ho c2) e1
      have q2 := ih _ _ (by omega) (hn.up ho hv c1) (hm.hi ho c2) e2
      exact absurd (q1.symm.trans q2) (ho.ne m c2.1 hm.2.1)
    · rw [tab_up c1, tab_up c2] at h
      obtain ⟨e1, e2⟩ := List.append_inj h (hl _ _)
      exact ih _ _ (by omega) (hn.up ho hv c1) (hm.up ho hv c2) e1

/-! ### What is there stays -/
theorem frk_app {F l : List T3} {n : Int} (h0 : 0 ≤ n) (h : n < F.length) : frk (F ++ l) n = frk F n := by
  unfold frk
  rw [List.getD_eq_getElem?_getD, List.getD_eq_getElem?_getD, List.getElem?_append_left (by omega)]
theorem top_app {vars} {F l : List T3} {n : Int} (h : n < F.length) : top vars (F ++ l) n = top vars F n := by
  unfold top
  split
  · rfl
  · rw [frk_app (by omega) h]
theorem In.app {vars F v n} (l : List T3) (h : In vars F v n) : In vars (F ++ l) v n :=
  ⟨h.1, by have := h.2.1; simp; omega, by rw [top_app h.2.1]; exact h.2.2⟩
theorem tab_app {vars F} (ho : Ok vars F) (l : List T3) : ∀ (k : Nat) (v n : Int), 0 ≤ n → n < F.length → tab (F ++ l) k v n = tab F k v n
  | 0, v, n, _, _ => rfl
  | k + 1, v, n, h0, h => by
    simp only [tab, frk_app h0 h]
    split
    · rename_i c
      obtain ⟨a, b, _⟩ := ho.low n c.1 h
      obtain ⟨a', b', _⟩ := ho.high n c.1 h
      rw [tab_app ho l k _ _ a (by omega), tab_app ho l k _ _ a' (by omega)]
    · rw [tab_app ho l k _ _ h0 h]

/-! ### What is put -/
def fnd : List T3 → T3 → Int → Option Int
  | [], _, _ => none
  | y :: r, x, i => if y = x then some i else fnd r x (i + 1)
theorem fnd_some : ∀ {l : List T3} {x : T3} {i n : Int}, fnd l x i = some n → i ≤ n ∧ n < i + l.length ∧ l.getD (n - i).toNat (0, 0, 0) = x
  | [], x, i, n, h => by simp [fnd] at h
  | y :: r, x, i, n, h => by
    simp only [fnd] at h
    split at h
    · rename_i e
      simp at h; subst h
      simp [e]; omega
    · obtain ⟨a, b, c⟩ := fnd_some h
      refine ⟨by omega, by simp; omega, ?_⟩
      have : (n - i).toNat = (n - (i + 1)).toNat + 1 := by omega
      rw [this]; simpa using c
theorem fnd_none : ∀ {l : List T3} {x : T3} {i : Int}, fnd l x i = none → ∀ j : Nat, j < l.length → l.getD j (0, 0, 0) ≠ x
  | [], x, i, h, j, hj => by simp at hj
  | y :: r, x, i, h, j, hj => by
    simp only [fnd] at h
    split at h
    · simp at h
    · rename_i e
      cases j with
      | zero => simpa using e
      | succ j => simpa using fnd_none h j (by simpa using hj)
def find (F : List T3) (x : T3) : Option Int := fnd (F.drop 2) x 2
theorem getD_drop (F : List T3) (i : Nat) : (F.drop 2).getD i (0, 0, 0) = F.getD (2 + i) (0, 0, 0) := by
  simp [List.getD_eq_getElem?_getD]
theorem find_some {F x n} (h : find F x = some n) : 2 ≤ n ∧ n < F.length ∧ frk F n = x := by
  obtain ⟨a, b, c⟩ := fnd_some h
  rw [getD_drop] at c
  simp only [List.length_drop] at b
  refine ⟨a, by omega, ?_⟩
  unfold frk
  rw [← c]; congr 1; omega
theorem find_none {F x} (h : find F x = none) (n : Int) (h2 : 2 ≤ n) (hn : n < F.length) : frk F n ≠ x := by
  have := fnd_none h (n.toNat - 2) (by simp; omega)
  rw [getD_drop] at this
  unfold frk
  rwa [show 2 + (n.toNat - 2) = n.toNat by omega] at this
theorem find_eq {vars F} (ho : Ok vars F) {n : Int} (h2 : 2 ≤ n) (hn : n < F.length) {x} (hx : frk F n = x) : find F x = some n := by
  cases h : find F x with
  | none => exact absurd hx (find_none h n h2 hn)
  | some m =>
    obtain ⟨a, b, c⟩ := find_some h
    rw [ho.uniq n m h2 hn a b (hx.trans c.symm)]
def put : Nat → List T3 → Int → List Bool → List T3 × Int
  | 0, F, _, t => (F, if t.headD false then 1 else 0)
  | k + 1, F, v, t =>
    if t.take (2 ^ k) = t.drop (2 ^ k) then put k F (v + 1) (t.take (2 ^ k))
    else
      let a := put k F (v + 1) (t.take (2 ^ k))
      let b := put k a.1 (v + 1) (t.drop (2 ^ k))
      match find b.1 (v, a.2, b.2) with
      | some i => (b.1, i)
      | none => (b.1 ++ [(v, a.2, b.2)], b.1.length)
theorem put_same {k F v t} (h : t.length = 2 ^ k) : put (k + 1) F v (t ++ t) = put k F (v + 1) t := by
  simp only [put]
  rw [List.take_left' h, List.drop_left' h, if_pos rfl]
theorem put_two {k F v s t} (h : s.length = 2 ^ k) (hne : s ≠ t) : put (k + 1) F v (s ++ t) =
    (match find (put k (put k F (v + 1) s).1 (v + 1) t).1 (v, (put k F (v + 1) s).2, (put k (put k F (v + 1) s).1 (v + 1) t).2) with
      | some i => ((put k (put k F (v + 1) s).1 (v + 1) t).1, i)
      | none => ((put k (put k F (v + 1) s).1 (v + 1) t).1 ++ [(v, (put k F (v + 1) s).2, (put k (put k F (v + 1) s).1 (v + 1) t).2)], ((put k (put k F (v + 1) s).1 (v + 1) t).1.length : Int))) := by
  simp only [put]
  rw [List.take_left' h, List.drop_left' h, if_neg hne]
theorem put_present {vars F} (ho : Ok vars F) : ∀ (k : Nat) (v n : Int), v + k = vars → In vars F v n → put k F v (tab F k v n) = (F, n)
  | 0, v, n, hv, hn => by
    have e : v = vars := by omega
    subst e
    rcases hn.end ho with rfl | rfl <;> simp [put, tab]
  | k + 1, v, n, hv, hn => by
    by_cases c : 2 ≤ n ∧ (frk F n).1 = v
    · rw [tab_at c, put_two (tab_len ..)]
      · have h1 := put_present ho k (v + 1) _ (by omega) (hn.lo ho c)
        have h2 := put_present ho k (v + 1) _ (by omega) (hn.hi ho c)
        simp only [h1, h2]
        rw [find_eq ho c.1 hn.2.1 (x := (v, (frk F n).2.1, (frk F n).2.2)) (by rw [← c.2])]
      · intro e
        exact ho.ne n c.1 hn.2.1 (canon ho k (v + 1) _ _ (by omega) (hn.lo ho c) (hn.hi ho c) e)
    · rw [tab_up c, put_same (tab_len ..)]
      exact put_present ho k (v + 1) n (by omega) (hn.up ho hv c)
end Fil.Bd

namespace Fil.Bd
def get3 : List (T3 × Int) → T3 → Option Int
  | [], _ => none
  | p :: r, k => if p.1 = k then some p.2 else get3 r k
def set3 : List (T3 × Int) → T3 → Int → List (T3 × Int)
  | [], k, v => [(k, v)]
  | p :: r, k, v => if p.1 = k then (k, v) :: r else p :: set3 r k v
def get1 : List (Int × Int) → Int → Option Int
  | [], _ => none
  | p :: r, k => if p.1 = k then some p.2 else get1 r k
structure Mac where
  forks : List T3
  at_ : List (T3 × Int)
  done : List (T3 × Int)
def tops (vars : Int) (F : List T3) (f g h : Int) : Int := min (top vars F f) (min (top vars F g) (top vars F h))
def iteT : List Bool → List Bool → List Bool → List Bool
  | x :: a, y :: b, z :: c => (if x then y else z) :: iteT a b c
  | _, _, _ => []
def exT : Nat → Nat → List Bool → List Bool
  | 0, _, t => t
  | k + 1, 0, t => iteT (t.take (2 ^ k)) (List.replicate (2 ^ k) true) (t.drop (2 ^ k)) ++ iteT (t.take (2 ^ k)) (List.replicate (2 ^ k) true) (t.drop (2 ^ k))
  | k + 1, d + 1, t => exT k d (t.take (2 ^ k)) ++ exT k d (t.drop (2 ^ k))
def DoneOk (vars : Int) (F : List T3) (key : T3) (n : Int) : Prop :=
  (0 ≤ key.2.2 → (0 ≤ key.1 ∧ key.1 < F.length) ∧ (0 ≤ key.2.1 ∧ key.2.1 < F.length) ∧ (0 ≤ key.2.2 ∧ key.2.2 < F.length) ∧
    ∀ k : Nat, tops vars F key.1 key.2.1 key.2.2 + k = vars → In vars F (tops vars F key.1 key.2.1 key.2.2) n ∧
      tab F k (tops vars F key.1 key.2.1 key.2.2) n = iteT (tab F k (tops vars F key.1 key.2.1 key.2.2) key.1) (tab F k (tops vars F key.1 key.2.1 key.2.2) key.2.1) (tab F k (tops vars F key.1 key.2.1 key.2.2) key.2.2)) ∧
  (key.2.2 < 0 → (0 ≤ key.1 ∧ key.1 < F.length) ∧ ∀ k : Nat, top vars F key.1 + k = vars → In vars F (top vars F key.1) n ∧ tab F k (top vars F key.1) n = exT k (key.2.1 - top vars F key.1).toNat (tab F k (top vars F key.1) key.1))
structure MOk (vars : Int) (s : Mac) : Prop where
  ok : Ok vars s.forks
  at1 : ∀ x n, get3 s.at_ x = some n → 2 ≤ n ∧ n < s.forks.length ∧ frk s.forks n = x
  at2 : ∀ n : Int, 2 ≤ n → n < s.forks.length → get3 s.at_ (frk s.forks n) = some n
def Kept (P : List T3 → T3 → Int → Prop) (s : Mac) : Prop := ∀ k n, get3 s.done k = some n → P s.forks k n
theorem DoneOk.app {vars F key n} (ho : Ok vars F) (l : List T3) (h : DoneOk vars F key n) : DoneOk vars (F ++ l) key n := by
  refine ⟨fun hk => ?_, fun hk => ?_⟩
  rotate_left
  · obtain ⟨h1, h2⟩ := h.2 hk
    rw [top_app h1.2]
    refine ⟨⟨h1.1, by simp; omega⟩, fun k hv => ?_⟩
    obtain ⟨q1, q2⟩ := h2 k hv
    exact ⟨q1.app l, by rw [tab_app ho _ _ _ _ q1.1 q1.2.1, tab_app ho _ _ _ _ h1.1 h1.2, q2]⟩
  obtain ⟨h1, h2, h3, h4⟩ := h.1 hk
  have et : tops vars (F ++ l) key.1 key.2.1 key.2.2 = tops vars F key.1 key.2.1 key.2.2 := by unfold tops; rw [top_app h1.2, top_app h2.2, top_app h3.2]
  rw [et]
  refine ⟨⟨h1.1, by simp; omega⟩, ⟨h2.1, by simp; omega⟩, ⟨h3.1, by simp; omega⟩, fun k hv => ?_⟩
  obtain ⟨q1, q2⟩ := h4 k hv
  exact ⟨q1.app l, by rw [tab_app ho _ _ _ _ q1.1 q1.2.1, tab_app ho _ _ _ _ h1.1 h1.2, tab_app ho _ _ _ _ h2.1 h2.2, tab_app ho _ _ _ _ h3.1 h3.2, q2]⟩
structure Made (vars : Int) (s : Mac) (k : Nat) (v : Int) (t : List Bool) (r : Mac × Int) : Prop where
  ok : MOk vars r.1
  kept : Kept (DoneOk vars) r.1
  put : (r.1.forks, r.2) = put k s.forks v t
theorem Made.same {vars s k v t n} (h : MOk vars s) (hk : Kept (DoneOk vars) s) (hv : v + (k : Nat) = vars) (hn : In vars s.forks v n) (ht : tab s.forks k v n = t) : Made vars s k v t (s, n) :=
  ⟨h, hk, by rw [← ht, put_present h.ok k v n hv hn]⟩
end Fil.Bd

namespace Fil.Bd
def Seen (vars : Int) (from_ F : List T3) (seen : List (Int × Int)) : Prop := ∀ n a, get1 seen n = some a → (2 ≤ n ∧ n < from_.length) ∧ In vars F (top vars from_ n) a ∧ ∀ k : Nat, top vars from_ n + k = vars → tab F k (top vars from_ n) a = tab from_ k (top vars from_ n) n
theorem Seen.app {vars : Int} {G F : List T3} {seen} (h : Seen vars G F seen) (ho : Ok vars F) (l : List T3) : Seen vars G (F ++ l) seen := fun n a e => by
  obtain ⟨h1, h2, h3⟩ := h n a e
  exact ⟨h1, h2.app l, fun k hk => by rw [tab_app ho _ _ _ _ h2.1 h2.2.1, h3 k hk]⟩
end Fil.Bd

namespace Fil.Bd
def und (F : List T3) (n v i : Int) : Bool := decide (0 ≤ n ∧ n < i ∧ (n < 2 ∨ v < (frk F n).1))
def atL (F : List T3) : Nat → List (T3 × Int)
  | 0 => []
  | j + 1 => set3 (atL F j) (frk F (j + 2)) (j + 2)
def bad (vars : Int) (F : List T3) (j : Nat) : Bool :=
  (get3 (atL F j) (frk F (j + 2))).isSome || decide ((frk F (j + 2)).1 < 0) || decide (vars ≤ (frk F (j + 2)).1) || decide ((frk F (j + 2)).2.1 = (frk F (j + 2)).2.2) ||
    !und F (frk F (j + 2)).2.1 (frk F (j + 2)).1 (j + 2) || !und F (frk F (j + 2)).2.2 (frk F (j + 2)).1 (j + 2)
def head (vars : Int) (F : List T3) : Bool := decide (vars < 0) || decide (32 < vars) || decide (F.length < 2) || decide (frk F 0 ≠ (-1, 0, 0)) || decide (frk F 1 ≠ (-1, 0, 0))
def chk (vars : Int) (F : List T3) : Int :=
  if 65536 < F.length then 220 else if head vars F = true then 1 else if (List.range (F.length - 2)).any (bad vars F) = true then 1 else 0
structure Fine (vars : Int) (F : List T3) : Prop extends Ok vars F where
  few : vars ≤ 32
  all : F.length ≤ 65536
  end0 : frk F 0 = (-1, 0, 0)
  end1 : frk F 1 = (-1, 0, 0)
end Fil.Bd

namespace Fil.Bd
def outside (F : List T3) (n : Int) : Bool := decide (n < 0) || decide ((F.length : Int) ≤ n)
abbrev D := Int × List T3
def T (b : D) (f : Int) : List Bool := tab b.2 b.1.toNat 0 f
def askE (b : D) (l : List Int) (no : Bool) : Int := if chk b.1 b.2 ≠ 0 then chk b.1 b.2 else if (l.any (outside b.2) || no) = true then 1 else 0
def opW (b : D) (e : Int) (t : List Bool) : D × Int × Int := if e ≠ 0 then ((0, []), 0, e) else ((b.1, (put b.1.toNat b.2 0 t).1), (put b.1.toNat b.2 0 t).2, 0)
def iteW (b : D) (f g h : Int) : D × Int × Int := opW b (askE b [f, g, h] false) (iteT (T b f) (T b g) (T b h))
def notW (b : D) (f : Int) : D × Int × Int := iteW b f 0 1
def off (b : D) (n : Int) : Bool := decide (n < 0) || decide (b.1 ≤ n)
def varT : Nat → Nat → List Bool
  | 0, _ => []
  | k + 1, 0 => List.replicate (2 ^ k) false ++ List.replicate (2 ^ k) true
  | k + 1, d + 1 => varT k d ++ varT k d
def varW (b : D) (n : Int) : D × Int × Int := opW b (askE b [] (off b n)) (varT b.1.toNat n.toNat)
end Fil.Bd

namespace Fil.Bd
def one1 (F : List T3) : Nat → Int → List Bool → List Bool
  | 0, _, l => l
  | k + 1, n, l => if n < 2 then l else if (frk F n).2.1 = 0 then one1 F k (frk F n).2.2 (l.set (frk F n).1.toNat true) else one1 F k (frk F n).2.1 l
end Fil.Bd

namespace Fil.Bd
def cnt (t : List Bool) : Int := ((t.count true : Nat) : Int)
end Fil.Bd

namespace Fil.Bd
def lookT : List Bool → List Bool → Bool
  | t, [] => t.headD false
  | t, x :: w => lookT (if x then t.drop (2 ^ w.length) else t.take (2 ^ w.length)) w
end Fil.Bd

namespace Fil.Bd
def bit (i k : Nat) : Bool := (i / 2 ^ k % 2 == 1)
def row (k i : Nat) : List Bool := (List.range k).map fun j => bit i (k - 1 - j)
def findI (F : List T3) (x : T3) : Int := (find F x).getD (-1)
theorem put_2 {k : Nat} {F : List T3} {v : Int} {t : List Bool} (hs : t.take (2 ^ k) ≠ t.drop (2 ^ k)) {C G : List T3} {lo hi : Int} (h1 : put k F (v + 1) (t.take (2 ^ k)) = (C, lo)) (h2 : put k C (v + 1) (t.drop (2 ^ k)) = (G, hi)) :
    (0 ≤ findI G (v, lo, hi) ∧ put (k + 1) F v t = (G, findI G (v, lo, hi))) ∨ (findI G (v, lo, hi) = -1 ∧ put (k + 1) F v t = (G ++ [(v, lo, hi)], (G.length : Int))) := by
  simp only [put, if_neg hs, h1, h2]
  unfold findI
  cases hf : find G (v, lo, hi) with
  | some i =>
    have := (find_some hf).1
    exact .inl ⟨by show 0 ≤ i; omega, rfl⟩
  | none => exact .inr ⟨rfl, rfl⟩
end Fil.Bd

namespace Fil.Bd
theorem T_app {vars : Int} {F l : List T3} (ho : Ok vars F) {f : Int} (i : In vars F 0 f) : T (vars, F ++ l) f = T (vars, F) f := tab_app ho l _ _ _ i.1 i.2.1
end Fil.Bd

