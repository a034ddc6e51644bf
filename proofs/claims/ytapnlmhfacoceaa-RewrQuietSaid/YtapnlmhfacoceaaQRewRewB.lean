/- rewr: contract of begin. -/
import Derived.Test.YtapnlmhfacoceaaQAbsX
set_option linter.unusedSimpArgs false
set_option linter.unusedVariables false
namespace Go.Proofs.Ytapnlmhfacoceaa
open Abs Fil
open A (sl_indexGate sl_clipGate sl_containsInt sl_containsFlop aig_and1)
abbrev rowF (l : List Flop) : AObj := .vec 2 l.length (flat (l.map encFlop))
abbrev aigV (g : Aig) (p : Nat) (t : Tok) : List AV := [.int .i64 g.ins, .vec p g.flops.length, .slice (g.ands.map encGate) .no, .slice (g.outs.map encInt) t]
abbrev encV (g : Aig) (p : Nat) (t : Tok) : AV := .agg (aigV g p t)
abbrev workV (g : Aig) (p : Nat) (t : Tok) (e : Int) : AObj := .cells [.int .i64 g.ins, .vec p g.flops.length, .slice (g.ands.map encGate) .no, .slice (g.outs.map encInt) t, .int .i64 e]
abbrev aigT (g : Aig) (t : Tok) : List AV := [.int .i64 g.ins, .slice (g.flops.map encFlop) .no, .slice (g.ands.map encGate) .no, .slice (g.outs.map encInt) t]
abbrev encT (g : Aig) (t : Tok) : AV := .agg (aigT g t)
abbrev workT (g : Aig) (t : Tok) (e : Int) : AObj := .cells [.int .i64 g.ins, .slice (g.flops.map encFlop) .no, .slice (g.ands.map encGate) .no, .slice (g.outs.map encInt) t, .int .i64 e]
theorem flop_all (l : List Flop) : ∀ x ∈ l.map encFlop, (cellsA x).length = 2 := fun x hx => by
 obtain ⟨y, _, rfl⟩ := List.mem_map.1 hx; rfl
theorem flop_at (l : List Flop) (i : Nat) (h : i < l.length) : List.take 2 (List.drop (i * 2) (flat (l.map encFlop))) = [.int .i64 l[i].next, .bool l[i].init] := by
 have := flat_at (l := l.map encFlop) (i := i) (e := encFlop l[i]) (sz := 2) (flop_all l) (by simp [h])
 exact this
theorem rows_indexFlop (f : Flop → Bool) (l : List Flop) (hl : l.length ≤ 1000000000000) (σ : Sig) (p : Nat) (hp : σ p = some (rowF l)) {F : Nat} {caps : List AV} (hF : ∀ x ∈ l, ACalls Try.prog F (encFlop x :: caps) σ (fun r σ' => r = .ret (.bool (f x)) ∧ σ' = σ)) :
  ACalls Try.prog 94 [.vec p l.length, .fn F [] caps] σ (fun r σ' => r = .ret (.int .i64 (idxF f l)) ∧ σ' = σ) := by
 refine calls_x mixed Try.func94 b94 n94 rfl q94 (by simp) ?_; unfold c94 r94
 repeat' simp (maxDischargeDepth := 9) -implicitDefEqProofs -dsimp only [go_sem, seval, *]
 refine loop_rule (fun i : Nat => [(0, some (.vec p l.length)), (1, some (.fn F [] caps)), (8, some (.int .i64 i)), (7, some (.int .i64 l.length))]) (fun _ => σ) (fun i => i ≤ l.length ∧ ∀ j, (hj : j < l.length) → j < i → f l[j] = false) (fun i => l.length - i) 0 ?_ ?_
 ·(repeat' simp (maxDischargeDepth := 9) -implicitDefEqProofs -dsimp only [go_sem, seval, *]) <;> (repeat' refine And.intro ?_ ?_) <;> (first | omega | skip)
 ·rintro i ⟨hi, hb⟩
  by_cases hlt : i < l.length
  ·have hr := flop_at l i hlt
   have hlen := flat_map_len encFlop 2 (fun _ => rfl) l
   have hc := hF _ (List.getElem_mem hlt)
   obtain ⟨b, hfb⟩ : ∃ b, f l[i] = b := ⟨_, rfl⟩
   rw [hfb] at hc
   cases b with
   | true =>
    have hv := idxF_some hlt (fun j hj => hb j (by omega) hj) hfb
    clear hF hb
    repeat' (first | simp (maxDischargeDepth := 9) -implicitDefEqProofs -dsimp only [go_sem, seval, *] | ((with_reducible refine Zv ?_ ?_); focus (first | omega | exact rfl)) | ((with_reducible apply ACalls.one1); (focus ((with_reducible refine hc) <;> (first | (simp (maxDischargeDepth := 9) -implicitDefEqProofs -dsimp only [go_sem, seval, *]; done) | omega))); (focus (first | trivial | with_reducible exact rfl | (simp (maxDischargeDepth := 9) -implicitDefEqProofs -dsimp only [go_sem, seval]; done)))))
    refine fin_eq ?_
    (repeat' simp (maxDischargeDepth := 9) -implicitDefEqProofs -dsimp only [go_sem, seval, hv, *])
   | false =>
    have hb' : ∀ j, (hj : j < l.length) → j < i + 1 → f l[j] = false := fun j hj h => by
     rcases Nat.lt_or_ge j i with h' | h'
     ·exact hb j hj h'
     ·obtain rfl : j = i := by omega
      exact hfb
    clear hF hb
    repeat' (first | simp (maxDischargeDepth := 9) -implicitDefEqProofs -dsimp only [go_sem, seval, *] | simp (disch := omega) only [wrap64] | ((with_reducible refine Zv ?_ ?_); focus (first | omega | exact rfl)) | ((with_reducible apply ACalls.one1); (focus ((with_reducible refine hc) <;> (first | (simp (maxDischargeDepth := 9) -implicitDefEqProofs -dsimp only [go_sem, seval, *]; done) | omega))); (focus (first | trivial | with_reducible exact rfl | (simp (maxDischargeDepth := 9) -implicitDefEqProofs -dsimp only [go_sem, seval]; done)))))
    refine loop_next _ _ _ _ (i + 1) ⟨?_, ?_, ⟨by omega, hb'⟩, by omega⟩
    ·(repeat' simp (maxDischargeDepth := 9) -implicitDefEqProofs -dsimp only [go_sem, seval, *])
    ·(repeat' simp (maxDischargeDepth := 9) -implicitDefEqProofs -dsimp only [go_sem, seval, *])
  ·have hv : idxF f l = -1 := idxF_none fun a ha => by
    obtain ⟨j, hj, rfl⟩ := List.getElem_of_mem ha
    exact hb j hj (by omega)
   clear hF hb
   repeat' simp (maxDischargeDepth := 9) -implicitDefEqProofs -dsimp only [go_sem, seval, *]
   refine fin_eq ?_
   (repeat' simp (maxDischargeDepth := 9) -implicitDefEqProofs -dsimp only [go_sem, seval, hv, *])
theorem sl_containsIntT (p : Int → Bool) (l : List Int) (t : Tok) (hl : l.length ≤ 1000000000000) (σ : Sig) {F : Nat} {caps : List AV} (hF : ∀ x ∈ l, ACalls Try.prog F (encInt x :: caps) σ (fun r σ' => r = .ret (.bool (p x)) ∧ σ' = σ)) :
  ACalls Try.prog 90 [.slice (l.map encInt) t, .fn F [] caps] σ (fun r σ' => r = .ret (.bool (l.any p)) ∧ σ' = σ) := by
 refine ACalls.flA (sl_containsInt p l hl σ hF) ?_
 simp (maxDischargeDepth := 9) -implicitDefEqProofs -dsimp only [go_sem, seval]
theorem rows_containsFlop (f : Flop → Bool) (l : List Flop) (hl : l.length ≤ 1000000000000) (σ : Sig) (p : Nat) (hp : σ p = some (rowF l)) {F : Nat} {caps : List AV} (hF : ∀ x ∈ l, ACalls Try.prog F (encFlop x :: caps) σ (fun r σ' => r = .ret (.bool (f x)) ∧ σ' = σ)) :
  ACalls Try.prog 89 [.vec p l.length, .fn F [] caps] σ (fun r σ' => r = .ret (.bool (l.any f)) ∧ σ' = σ) := by
 refine calls_x mixed Try.func89 b89 n89 rfl q89 (by simp) ?_; unfold c89 r89
 repeat' (first | simp (maxDischargeDepth := 9) -implicitDefEqProofs -dsimp only [go_sem, seval, *] | ((with_reducible apply ACalls.one1); (focus ((with_reducible refine rows_indexFlop f l hl σ p hp hF) <;> (first | (simp (maxDischargeDepth := 9) -implicitDefEqProofs -dsimp only [go_sem, seval, *]; done) | omega))); (focus (first | trivial | with_reducible exact rfl | (simp (maxDischargeDepth := 9) -implicitDefEqProofs -dsimp only [go_sem, seval]; done)))))
 refine fin_eq ?_
 rw [← idxF_any]
 (repeat' simp (maxDischargeDepth := 9) -implicitDefEqProofs -dsimp only [go_sem, seval, *])
theorem row_count (o : Nat) (g : Aig) (e : Int) (σ : Sig) {p : Nat} {t : Tok} (h : σ o = some (workV g p t e)) (hs : Small g) :
  ACalls Try.prog 83 [.ptr o 0] σ (fun r σ' => r = .ret (.int .i64 g.count) ∧ σ' = σ) := by
 refine calls_x mixed Try.func83 b83 n83 rfl q83 (by simp) ?_; unfold c83 r83
 obtain ⟨⟨h0, h1, h2, h3, h4, h5, h6⟩, h7, h8⟩ := hs
 repeat' (first | simp (maxDischargeDepth := 9) -implicitDefEqProofs -dsimp only [go_sem, seval, *] | simp (disch := omega) only [wrap64])
 exact fin_id ⟨rfl, rfl⟩
theorem row_first (o : Nat) (g : Aig) (e : Int) (σ : Sig) {p : Nat} {t : Tok} (h : σ o = some (workV g p t e)) (hs : Small g) :
  ACalls Try.prog 82 [.ptr o 0] σ (fun r σ' => r = .ret (.int .i64 g.first) ∧ σ' = σ) := by
 refine calls_x mixed Try.func82 b82 n82 rfl q82 (by simp) ?_; unfold c82 r82
 obtain ⟨⟨h0, h1, h2, h3, h4, h5, h6⟩, h7, h8⟩ := hs
 repeat' (first | simp (maxDischargeDepth := 9) -implicitDefEqProofs -dsimp only [go_sem, seval, *] | simp (disch := omega) only [wrap64])
 exact fin_id ⟨rfl, rfl⟩
theorem row_lit (o : Nat) (g : Aig) (e a : Int) (σ : Sig) {p : Nat} {t : Tok} (h : σ o = some (workV g p t e)) (hs : Small g) (ha : I64 a) :
  ACalls Try.prog 81 [.ptr o 0, .int .i64 a] σ (fun r σ' => r = .ret (.bool (g.lit a)) ∧ σ' = σ) := by
 refine calls_x mixed Try.func81 b81 n81 rfl q81 (by simp) ?_; unfold c81 r81
 obtain ⟨ha1, ha2⟩ := ha
 repeat' (first | simp (maxDischargeDepth := 9) -implicitDefEqProofs -dsimp only [go_sem, seval, *] | simp (disch := omega) only [wrap64, tdiv2] | (with_reducible (first | apply Za) <;> intro hq) | ((with_reducible apply ACalls.one1); (focus ((with_reducible refine row_count (p := p) (t := t) o g e σ h hs) <;> (first | (simp (maxDischargeDepth := 9) -implicitDefEqProofs -dsimp only [go_sem, seval, *]; done) | omega))); (focus (first | trivial | with_reducible exact rfl | (simp (maxDischargeDepth := 9) -implicitDefEqProofs -dsimp only [go_sem, seval]; done)))))
 ·refine fin_eq ?_
  simp (maxDischargeDepth := 9) -implicitDefEqProofs -dsimp only [go_sem, seval]
  rw [Bool.eq_iff_iff]
  simp only [Aig.lit, litN_iff, decide_eq_true_eq]
  omega
 ·refine fin_eq ?_
  simp (maxDischargeDepth := 9) -implicitDefEqProofs -dsimp only [go_sem, seval]
  have : ¬ (0 ≤ a) := by omega
  simp [Aig.lit, Aig.litN, this]
theorem row_check1 (b o : Nat) (f : Flop) (g : Aig) (e : Int) (σ : Sig) {p : Nat} {t : Tok} (hb : σ b = some (.cells [.ptr o 0])) (h : σ o = some (workV g p t e)) (hs : Small g) (hf : I64 f.next) :
  ACalls Try.prog 87 [encFlop f, .ptr b 0] σ (fun r σ' => r = .ret (.bool (!g.lit f.next)) ∧ σ' = σ) := by
 refine calls_x mixed Try.func87 b87 n87 rfl q87 (by simp) ?_; unfold c87 r87
 repeat' (first | simp (maxDischargeDepth := 9) -implicitDefEqProofs -dsimp only [go_sem, seval, *] | ((with_reducible apply ACalls.one1); (focus ((with_reducible refine row_lit (p := p) (t := t) o g e f.next σ h hs hf) <;> (first | (simp (maxDischargeDepth := 9) -implicitDefEqProofs -dsimp only [go_sem, seval, *]; done) | omega))); (focus (first | trivial | with_reducible exact rfl | (simp (maxDischargeDepth := 9) -implicitDefEqProofs -dsimp only [go_sem, seval]; done)))))
 exact fin_id ⟨rfl, rfl⟩
theorem row_check2 (b o : Nat) (a : Int) (g : Aig) (e : Int) (σ : Sig) {p : Nat} {t : Tok} (hb : σ b = some (.cells [.ptr o 0])) (h : σ o = some (workV g p t e)) (hs : Small g) (hf : I64 a) :
  ACalls Try.prog 88 [.int .i64 a, .ptr b 0] σ (fun r σ' => r = .ret (.bool (!g.lit a)) ∧ σ' = σ) := by
 refine calls_x mixed Try.func88 b88 n88 rfl q88 (by simp) ?_; unfold c88 r88
 repeat' (first | simp (maxDischargeDepth := 9) -implicitDefEqProofs -dsimp only [go_sem, seval, *] | ((with_reducible apply ACalls.one1); (focus ((with_reducible refine row_lit (p := p) (t := t) o g e a σ h hs hf) <;> (first | (simp (maxDischargeDepth := 9) -implicitDefEqProofs -dsimp only [go_sem, seval, *]; done) | omega))); (focus (first | trivial | with_reducible exact rfl | (simp (maxDischargeDepth := 9) -implicitDefEqProofs -dsimp only [go_sem, seval]; done)))))
 exact fin_id ⟨rfl, rfl⟩
theorem row_check (o : Nat) (g : Aig) (e : Int) (σ : Sig) {p : Nat} {t : Tok} (hp : σ p = some (rowF g.flops)) (h : σ o = some (workV g p t e)) (hs : Wf g) :
  ACalls Try.prog 80 [.ptr o 0] σ (fun r σ' => r = .ret (.int .i64 g.check) ∧ σ' = σ) := by
 refine calls_x mixed Try.func80 b80 n80 rfl q80 (by simp) ?_; unfold c80 r80
 by_cases hlo : g.ins < 0
 ·repeat' (first | simp (maxDischargeDepth := 9) -implicitDefEqProofs -dsimp only [go_sem, seval, *] | ((with_reducible refine Zt (fun oF hoF hnF hnF' => ?_)); (try simp only [upd_none, ne_eq, not_and] at hoF)))
  refine fin_eq ?_
  have : g.check = 1 := by simp [Aig.check, hlo]
  (repeat' simp (maxDischargeDepth := 9) -implicitDefEqProofs -dsimp only [go_sem, seval, this, *])
 by_cases hhi : 65536 < g.ins
 ·repeat' (first | simp (maxDischargeDepth := 9) -implicitDefEqProofs -dsimp only [go_sem, seval, gt_iff_lt, *] | ((with_reducible refine Zt (fun oF hoF hnF hnF' => ?_)); (try simp only [upd_none, ne_eq, not_and] at hoF)))
  refine fin_eq ?_
  have : g.check = 2 := by simp [Aig.check, hlo, hhi]
  (repeat' simp (maxDischargeDepth := 9) -implicitDefEqProofs -dsimp only [go_sem, seval, this, *])
 have hsm : Small g := ⟨hs, by omega, by omega⟩
 have hfl := hs.flops
 have hol := hs.outs
 repeat' (first | simp (maxDischargeDepth := 9) -implicitDefEqProofs -dsimp only [go_sem, seval, gt_iff_lt, *] | (with_reducible (first | apply Zb | apply Zc | apply Zr) <;> intro hq) | ((with_reducible refine Zt (fun oF hoF hnF hnF' => ?_)); (try simp only [upd_none, ne_eq, not_and] at hoF)) | ((with_reducible apply ACalls.one1); (focus ((first | with_reducible refine row_count (p := p) (t := t) o g e _ ?_ hsm | with_reducible refine rows_containsFlop (fun f => !g.lit f.next) g.flops ?_ _ p ?_ (fun f hf => row_check1 (p := p) (t := t) _ o f g e _ ?_ ?_ hsm (hs.nexts f hf)) | with_reducible refine sl_containsIntT (fun a => !g.lit a) g.outs t ?_ _ (fun a ha => row_check2 (p := p) (t := t) _ o a g e _ ?_ ?_ hsm (hs.lits a ha))) <;> (first | (simp (maxDischargeDepth := 9) -implicitDefEqProofs -dsimp only [go_sem, seval, *]; done) | omega))); (focus (first | trivial | with_reducible exact rfl | (simp (maxDischargeDepth := 9) -implicitDefEqProofs -dsimp only [go_sem, seval]; done)))))
 ·refine fin_eq ?_
  have : g.check = 2 := by simp [Aig.check, hlo, hhi, hq]
  (repeat' simp (maxDischargeDepth := 9) -implicitDefEqProofs -dsimp only [go_sem, seval, this, *])
 ·refine fin_eq ?_
  have : g.check = 2 := by simp [Aig.check, hlo, hhi, hq]
  (repeat' simp (maxDischargeDepth := 9) -implicitDefEqProofs -dsimp only [go_sem, seval, this, *])
 ·refine fin_eq ?_
  have : g.check = 1 := by simp [Aig.check, Aig.good, hlo, hhi, *]
  (repeat' simp (maxDischargeDepth := 9) -implicitDefEqProofs -dsimp only [go_sem, seval, this, *])
 ·refine fin_eq ?_
  have : g.check = 1 := by simp [Aig.check, Aig.good, hlo, hhi, *]
  (repeat' simp (maxDischargeDepth := 9) -implicitDefEqProofs -dsimp only [go_sem, seval, this, *])
 ·refine loop_rule (fun i : Nat => [(1, some (.ptr oF 0)), (52, some (.slice (g.ands.map encGate) .no)), (53, some (.int .i64 g.ands.length)), (54, some (.int .i64 i))]) (fun _ => upd σ oF (.cells [.ptr o 0])) (fun i => i ≤ g.ands.length ∧ ∀ j, (hj : j < g.ands.length) → j < i → (0 ≤ g.ands[j].1 ∧ g.ands[j].1 < 2 * (g.first + j)) ∧ (0 ≤ g.ands[j].2 ∧ g.ands[j].2 < 2 * (g.first + j))) (fun i => g.ands.length - i) 0 ?_ ?_
  ·(repeat' simp (maxDischargeDepth := 9) -implicitDefEqProofs -dsimp only [go_sem, seval, *]) <;> (repeat' refine And.intro ?_ ?_) <;> (first | omega | skip)
  ·rintro i ⟨hi, hb⟩
   have hA := hs.ands
   have hF := hs.flops
   have hfd : 1 ≤ g.first ∧ g.first ≤ 3000000 := by
    have := hsm.lo; have := hsm.hi
    unfold Aig.first; omega
   by_cases hlt : i < g.ands.length
   ·have hgate := hs.gates _ (List.getElem_mem hlt)
    obtain ⟨⟨g1, g2⟩, g3, g4⟩ := hgate
    repeat' (first | simp (maxDischargeDepth := 9) -implicitDefEqProofs -dsimp only [go_sem, seval, ge_iff_le, *] | simp (disch := omega) only [wrap64] | (with_reducible (first | apply Zb | apply Zc | apply Zr) <;> intro hq) | ((with_reducible refine Zu ?_ ?_); focus omega) | ((with_reducible refine Zt (fun oF hoF hnF hnF' => ?_)); (try simp only [upd_none, ne_eq, not_and] at hoF)) | ((with_reducible apply id_one0); (focus (intro tS hS; ((with_reducible refine row_first (p := p) (t := t) o g e _ ?_ hsm) <;> (first | (simp (maxDischargeDepth := 9) -implicitDefEqProofs -dsimp only [go_sem, seval, *]; done) | omega | ((with_reducible refine Sub.get hS ?_); simp (maxDischargeDepth := 9) -implicitDefEqProofs -dsimp only [go_sem, seval, *]; done))))); (focus (first | trivial | (simp (maxDischargeDepth := 9) -implicitDefEqProofs -dsimp only [go_sem, seval, *]; done)))))
    ·have : g.check = 1 := by
      have := gatesOk_false (n := g.first) hlt (by omega)
      simp [Aig.check, Aig.good, hlo, hhi, *]
     refine fin_eq ?_
     (repeat' simp (maxDischargeDepth := 9) -implicitDefEqProofs -dsimp only [go_sem, seval, this, *])
    ·refine loop_next _ _ _ _ (i + 1) ?_; (repeat' simp (maxDischargeDepth := 9) -implicitDefEqProofs -dsimp only [go_sem, seval, *]) <;> (repeat' refine And.intro ?_ ?_) <;> (first | omega | skip)
     intro j hj h
     rcases Nat.lt_or_ge j i with h' | h'
     ·exact hb j hj h'
     ·obtain rfl : j = i := by omega
      omega
    ·have : g.check = 1 := by
      have := gatesOk_false (n := g.first) hlt (by omega)
      simp [Aig.check, Aig.good, hlo, hhi, *]
     refine fin_eq ?_
     (repeat' simp (maxDischargeDepth := 9) -implicitDefEqProofs -dsimp only [go_sem, seval, this, *])
   ·repeat' simp (maxDischargeDepth := 9) -implicitDefEqProofs -dsimp only [go_sem, seval, *]
    refine fin_eq ?_
    have : g.check = 0 := by
     have : Aig.gatesOk g.first g.ands = true := gatesOk_iff.2 fun j hj => hb j hj (by omega)
     simp [Aig.check, Aig.good, hlo, hhi, *]
    (repeat' simp (maxDischargeDepth := 9) -implicitDefEqProofs -dsimp only [go_sem, seval, this, *])
theorem row_begin (g : Aig) (l : List Int) (σ : Sig) {p : Nat} {t : Tok} (hp : σ p = some (rowF g.flops)) (hs : Wf g) (hl : l.length ≤ 1000000) (hi : ∀ a ∈ l, I64 a) :
  ACalls Try.prog 59 [encV g p t, .slice (l.map encInt) .no] σ (NewO σ (fun o => .ptr o 0) (workV g p t (g.checkL g.check l))) := by
 refine calls_x mixed Try.func59 b59 n59 rfl q59 (by simp) ?_; unfold c59 r59
 repeat' (first | simp (maxDischargeDepth := 9) -implicitDefEqProofs -dsimp only [go_sem, seval, *] | ((with_reducible refine Zt (fun oF hoF hnF hnF' => ?_)); (try simp only [upd_none, ne_eq, not_and] at hoF)) | ((with_reducible apply ACalls.one1); (focus ((with_reducible refine row_check (p := p) (t := t) _ g 0 _ ?_ ?_ hs) <;> (first | (simp (maxDischargeDepth := 9) -implicitDefEqProofs -dsimp only [go_sem, seval, *]; done) | omega))); (focus (first | trivial | with_reducible exact rfl | (simp (maxDischargeDepth := 9) -implicitDefEqProofs -dsimp only [go_sem, seval]; done)))))
 refine loop_rule (fun i : Nat => [(5, some (.ptr oF 0)), (16, some (.slice (l.map encInt) .no)), (17, some (.int .i64 l.length)), (18, some (.int .i64 i))]) (fun i => upd σ oF (workV g p t (g.checkL g.check (l.take i)))) (fun i => i ≤ l.length) (fun i => l.length - i) 0 ?_ ?_
 ·(repeat' simp (maxDischargeDepth := 9) -implicitDefEqProofs -dsimp only [go_sem, seval, Aig.checkL, *]) <;> (first | omega | skip)
 ·intro i hi'
  by_cases hlt : i < l.length
  ·have hi2 := hi _ (List.getElem_mem hlt)
   have step : g.checkL g.check (l.take (i + 1)) = if g.checkL g.check (l.take i) = 0 ∧ g.lit l[i] = false then 1 else g.checkL g.check (l.take i) := by
    rw [List.take_add_one, List.getElem?_eq_getElem hlt]
    exact checkL_snoc g _ _ _
   by_cases he : g.checkL g.check (l.take i) = 0
   ·have hsm : Small g := checkL_small hs he
    repeat' (first | simp (maxDischargeDepth := 9) -implicitDefEqProofs -dsimp only [go_sem, seval, *] | simp (disch := omega) only [wrap64] | (with_reducible (first | apply Zr) <;> intro hq) | ((with_reducible refine Zu ?_ ?_); focus omega) | ((with_reducible apply ACalls.one1); (focus ((with_reducible refine row_lit (p := p) (t := t) _ g 0 l[i] _ ?_ hsm hi2) <;> (first | (simp (maxDischargeDepth := 9) -implicitDefEqProofs -dsimp only [go_sem, seval, *]; done) | omega))); (focus (first | trivial | with_reducible exact rfl | (simp (maxDischargeDepth := 9) -implicitDefEqProofs -dsimp only [go_sem, seval]; done)))))
    ·have st : g.checkL g.check (l.take (i + 1)) = 0 := by rw [step]; simp [*]
     refine loop_next _ _ _ _ (i + 1) ?_; (repeat' simp (maxDischargeDepth := 9) -implicitDefEqProofs -dsimp only [go_sem, seval, *]) <;> (repeat' refine And.intro ?_ ?_) <;> (first | omega | skip)
    ·have st : g.checkL g.check (l.take (i + 1)) = 1 := by rw [step]; simp [*]
     refine loop_next _ _ _ _ (i + 1) ?_; (repeat' simp (maxDischargeDepth := 9) -implicitDefEqProofs -dsimp only [go_sem, seval, *]) <;> (repeat' refine And.intro ?_ ?_) <;> (first | omega | skip)
   ·have st : g.checkL g.check (l.take (i + 1)) = g.checkL g.check (l.take i) := by rw [step]; simp [*]
    have hb : (g.checkL g.check (l.take i) == 0) = false := by simpa using he
    repeat' (first | simp (maxDischargeDepth := 9) -implicitDefEqProofs -dsimp only [go_sem, seval, *] | simp (disch := omega) only [wrap64] | ((with_reducible refine Zu ?_ ?_); focus omega))
    refine loop_next _ _ _ _ (i + 1) ?_; (repeat' simp (maxDischargeDepth := 9) -implicitDefEqProofs -dsimp only [go_sem, seval, *]) <;> (repeat' refine And.intro ?_ ?_) <;> (first | omega | skip)
  ·repeat' simp (maxDischargeDepth := 9) -implicitDefEqProofs -dsimp only [go_sem, seval, *]
   refine fin_new oF hoF ?_
   have e0 : l.take i = l := List.take_of_length_le (by omega)
   (repeat' simp (maxDischargeDepth := 9) -implicitDefEqProofs -dsimp only [go_sem, seval, e0, *])
theorem row_and (o : Nat) (g : Aig) (e a b : Int) (σ : Sig) {p : Nat} {t : Tok} (h : σ o = some (workV g p t e)) (hok : e = 0 → Fine g ∧ g.lit a = true ∧ g.lit b = true) :
    ACalls Try.prog 93 [.ptr o 0, .int .i64 a, .int .i64 b] σ (fun r σ' => r = .ret (.int .i64 (g.andW e a b).2.2) ∧ σ' = upd σ o (workV (g.andW e a b).1 p t (g.andW e a b).2.1)) := by
  refine calls_x mixed Try.func93 b93 n93 rfl q93 (by simp) ?_; unfold c93 r93
  by_cases he : e = 0
  · subst he
    obtain ⟨hfine, ha, hb⟩ := hok rfl
    have hs := hfine.toSmall
    have hcn := hfine.cnt
    have ha' := litN_iff.1 ha
    have hb' := litN_iff.1 hb
    have hcnt : 0 ≤ g.count ∧ g.count ≤ 3000000 := by
      have := hs.lo; have := hs.hi; have := hs.flops; have := hs.ands
      unfold Aig.count; omega
    have hfst : 0 ≤ g.first ∧ g.first ≤ 3000000 := by
      have := hs.lo; have := hs.hi; have := hs.flops
      unfold Aig.first; omega
    have hfb := idxF_bounds (fun x : Int × Int => decide (min x.1 x.2 = min a b) && decide (max x.1 x.2 = max a b)) g.ands
    have hal := hs.ands
    have hpush : ∀ x : Int × Int, I64 x.1 ∧ I64 x.2 → g.ands.length < 1000000 → Small { g with ands := g.ands ++ [x] } := fun x hx hl => { hs with
      ands := by simp; omega
      gates := fun y hy => by
        rcases List.mem_append.1 hy with h | h
        · exact hs.gates y h
        · simp at h; subst h; exact hx }
    repeat' (first | simp (maxDischargeDepth := 9) -implicitDefEqProofs -dsimp only [go_sem, seval, ge_iff_le, *] | simp (disch := omega) only [wrap64, xor1] | (with_reducible (first | apply Zc | apply Zf | apply Zl) <;> intro hq) | ((with_reducible refine Zv ?_ ?_); focus (first | omega | exact rfl)) | ((with_reducible refine Zt (fun oF hoF hnF hnF' => ?_)); (try simp only [upd_none, ne_eq, not_and] at hoF)) | ((with_reducible apply ACalls.one1); (focus ((first | with_reducible refine row_count (p := p) (t := t) o g 0 _ ?_ hs | with_reducible refine row_first (p := p) (t := t) o g 0 _ ?_ hs | with_reducible refine sl_indexGate (fun x : Int × Int => decide (min x.1 x.2 = min a b) && decide (max x.1 x.2 = max a b)) g.ands ?_ _ (fun x _ => aig_and1 _ _ x (min a b) (max a b) _ ?_ ?_)) <;> (first | (simp (maxDischargeDepth := 9) -implicitDefEqProofs -dsimp only [go_sem, seval, *]; done) | omega))); (focus (first | trivial | with_reducible exact rfl | (simp (maxDischargeDepth := 9) -implicitDefEqProofs -dsimp only [go_sem, seval]; done)))) | ((with_reducible apply id_one0); (focus (intro tS hS; ((with_reducible refine sl_clipGate g.ands _) <;> (first | (simp (maxDischargeDepth := 9) -implicitDefEqProofs -dsimp only [go_sem, seval, *]; done) | omega | ((with_reducible refine Sub.get hS ?_); simp (maxDischargeDepth := 9) -implicitDefEqProofs -dsimp only [go_sem, seval, *]; done))))); (focus (first | trivial | (simp (maxDischargeDepth := 9) -implicitDefEqProofs -dsimp only [go_sem, seval, *]; done)))))
    all_goals try refine fin_eq ?_
    all_goals first | (rw [andW1 (by omega)]; (repeat' simp (maxDischargeDepth := 9) -implicitDefEqProofs -dsimp only [go_sem, seval, *])) | (rw [andW2 (by omega) (by omega)]; (repeat' simp (maxDischargeDepth := 9) -implicitDefEqProofs -dsimp only [go_sem, seval, *])) | (rw [andW3 (by omega) (by omega) hq]; (repeat' simp (maxDischargeDepth := 9) -implicitDefEqProofs -dsimp only [go_sem, seval, *]) <;> (first | rfl | skip)) | (rw [andW4 (by omega) (by omega) ‹_› (by omega)]; (repeat' simp (maxDischargeDepth := 9) -implicitDefEqProofs -dsimp only [go_sem, seval, *])) | skip
    have hlt : g.ands.length < 1000000 := by
      have := hs.lo
      simp only [Aig.count] at hcn
      omega
    have hs' := hpush (min a b, max a b) ⟨⟨by omega, by omega⟩, ⟨by omega, by omega⟩⟩ hlt
    refine ACalls.one (ACalls.flo (o := o) (x0 := workV { g with ands := g.ands ++ [(min a b, max a b)] } p t 0) ?_ (row_count o { g with ands := g.ands ++ [(min a b, max a b)] } 0 _ (upd_same _ _ _) hs')) ?_
    · (repeat' simp (maxDischargeDepth := 9) -implicitDefEqProofs -dsimp only [go_sem, seval, *])
    have hc' := count_push (g := g) (min a b, max a b)
    repeat' (first | simp (maxDischargeDepth := 9) -implicitDefEqProofs -dsimp only [go_sem, seval, *] | simp (disch := omega) only [wrap64, xor1])
    refine fin_eq ?_
    rw [andW5 (by omega) (by omega) ‹_› (by omega)]
    (repeat' simp (maxDischargeDepth := 9) -implicitDefEqProofs -dsimp only [go_sem, seval, *])
  · have hb : (e != 0) = true := by simpa using he
    repeat' (first | simp (maxDischargeDepth := 9) -implicitDefEqProofs -dsimp only [go_sem, seval, *] | ((with_reducible refine Zt (fun oF hoF hnF hnF' => ?_)); (try simp only [upd_none, ne_eq, not_and] at hoF)))
    refine fin_eq ?_
    (repeat' simp (maxDischargeDepth := 9) -implicitDefEqProofs -dsimp only [go_sem, seval, Aig.andW, *])
theorem row_end (o : Nat) (g : Aig) (a : Int) (σ : Sig) {p : Nat} {t : Tok} (h : σ o = some (workV g p t 0)) :
  ACalls Try.prog 92 [.ptr o 0, .int .i64 a] σ (fun r σ' => r = .ret (.tup [encV g p t, .int .i64 a, .int .i64 0]) ∧ σ' = σ) := by
 refine calls_x mixed Try.func92 b92 n92 rfl q92 (by simp) ?_; unfold c92 r92
 have ez : ((0 : Int) != 0) = false := by decide
 repeat' (first | simp (maxDischargeDepth := 9) -implicitDefEqProofs -dsimp only [go_sem, seval, *] | ((with_reducible refine Zt (fun oF hoF hnF hnF' => ?_)); (try simp only [upd_none, ne_eq, not_and] at hoF)))
 refine fin_eq ?_
 (repeat' simp (maxDischargeDepth := 9) -implicitDefEqProofs -dsimp only [go_sem, seval, *])
theorem row_And (g : Aig) (a b : Int) (σ : Sig) {p : Nat} {t : Tok} (hp : σ p = some (rowF g.flops)) (hs : Wf g) (ha : I64 a) (hb : I64 b) (h0 : (g.And a b).2.2 = 0) :
  ACalls Try.prog 85 [encV g p t, .int .i64 a, .int .i64 b] σ (fun r σ' => r = .ret (.tup [encV (g.And a b).1 p t, .int .i64 (g.And a b).2.1, .int .i64 0]) ∧ σ' = σ) := by
 refine calls_x mixed Try.func85 b85 n85 rfl q85 (by simp) ?_; unfold c85 r85
 have hok : g.checkL g.check [a, b] = 0 → Fine g ∧ g.lit a = true ∧ g.lit b = true := fun h => by
  obtain ⟨h1, h2⟩ := checkL_fine hs h
  exact ⟨h1, h2 a (by simp), h2 b (by simp)⟩
 have hl : ∀ x ∈ [a, b], I64 x := by simp [ha, hb]
 have hA : (g.And a b) = ((g.andW (g.checkL g.check [a, b]) a b).1, (g.andW (g.checkL g.check [a, b]) a b).2.2, 0) := by
  unfold Aig.And Aig.endW at h0 ⊢
  split at h0
  ·rename_i hne; exact absurd h0 hne
  ·rename_i he; rw [if_neg he]
 have hw : (g.andW (g.checkL g.check [a, b]) a b).2.1 = 0 := by
  unfold Aig.And Aig.endW at h0
  split at h0
  ·rename_i hne; exact absurd h0 hne
  ·rename_i he; simpa using he
 have hA2 := fun o τ h => row_and o g (g.checkL g.check [a, b]) a b τ (p := p) (t := t) h hok
 rw [hw] at hA2
 rw [hA]
 clear hA hw h0
 repeat' (first | simp (maxDischargeDepth := 9) -implicitDefEqProofs -dsimp only [go_sem, seval, *] | ((with_reducible refine Zt (fun oF hoF hnF hnF' => ?_)); (try simp only [upd_none, ne_eq, not_and] at hoF)) | ((with_reducible apply ACalls.one1); (focus ((first | with_reducible refine hA2 _ _ ?_ | with_reducible refine row_end (p := p) (t := t) _ (g.andW (g.checkL g.check [a, b]) a b).1 (g.andW (g.checkL g.check [a, b]) a b).2.2 _ ?_) <;> (first | (simp (maxDischargeDepth := 9) -implicitDefEqProofs -dsimp only [go_sem, seval, *]; done) | omega))); (focus (first | trivial | with_reducible exact rfl | (simp (maxDischargeDepth := 9) -implicitDefEqProofs -dsimp only [go_sem, seval]; done)))) | ((with_reducible apply ACalls.newO); (focus ((with_reducible refine ACalls.flA (row_begin (p := p) (t := t) g [a, b] _ ?_ hs ?_ hl) ?_) <;> (first | (simp (maxDischargeDepth := 9) -implicitDefEqProofs -dsimp only [go_sem, seval, *]; done) | omega))); (intro oF hoF hnF hnF'); (try simp only [upd_none, ne_eq, not_and] at hoF)))
 refine fin_eq ?_
 (repeat' simp (maxDischargeDepth := 9) -implicitDefEqProofs -dsimp only [go_sem, seval, *])

/-! The same, of gates whose flops are told. -/
theorem col_count (o : Nat) (g : Aig) (e : Int) (σ : Sig) {t : Tok} (h : σ o = some (workT g t e)) (hs : Small g) :
  ACalls Try.prog 83 [.ptr o 0] σ (fun r σ' => r = .ret (.int .i64 g.count) ∧ σ' = σ) := by
 refine calls_x mixed Try.func83 b83 n83 rfl q83 (by simp) ?_; unfold c83 r83
 obtain ⟨⟨h0, h1, h2, h3, h4, h5, h6⟩, h7, h8⟩ := hs
 repeat' (first | simp (maxDischargeDepth := 9) -implicitDefEqProofs -dsimp only [go_sem, seval, *] | simp (disch := omega) only [wrap64])
 exact fin_id ⟨rfl, rfl⟩
theorem col_first (o : Nat) (g : Aig) (e : Int) (σ : Sig) {t : Tok} (h : σ o = some (workT g t e)) (hs : Small g) :
  ACalls Try.prog 82 [.ptr o 0] σ (fun r σ' => r = .ret (.int .i64 g.first) ∧ σ' = σ) := by
 refine calls_x mixed Try.func82 b82 n82 rfl q82 (by simp) ?_; unfold c82 r82
 obtain ⟨⟨h0, h1, h2, h3, h4, h5, h6⟩, h7, h8⟩ := hs
 repeat' (first | simp (maxDischargeDepth := 9) -implicitDefEqProofs -dsimp only [go_sem, seval, *] | simp (disch := omega) only [wrap64])
 exact fin_id ⟨rfl, rfl⟩
theorem col_lit (o : Nat) (g : Aig) (e a : Int) (σ : Sig) {t : Tok} (h : σ o = some (workT g t e)) (hs : Small g) (ha : I64 a) :
  ACalls Try.prog 81 [.ptr o 0, .int .i64 a] σ (fun r σ' => r = .ret (.bool (g.lit a)) ∧ σ' = σ) := by
 refine calls_x mixed Try.func81 b81 n81 rfl q81 (by simp) ?_; unfold c81 r81
 obtain ⟨ha1, ha2⟩ := ha
 repeat' (first | simp (maxDischargeDepth := 9) -implicitDefEqProofs -dsimp only [go_sem, seval, *] | simp (disch := omega) only [wrap64, tdiv2] | (with_reducible (first | apply Za) <;> intro hq) | ((with_reducible apply ACalls.one1); (focus ((with_reducible refine col_count (t := t) o g e σ h hs) <;> (first | (simp (maxDischargeDepth := 9) -implicitDefEqProofs -dsimp only [go_sem, seval, *]; done) | omega))); (focus (first | trivial | with_reducible exact rfl | (simp (maxDischargeDepth := 9) -implicitDefEqProofs -dsimp only [go_sem, seval]; done)))))
 ·refine fin_eq ?_
  simp (maxDischargeDepth := 9) -implicitDefEqProofs -dsimp only [go_sem, seval]
  rw [Bool.eq_iff_iff]
  simp only [Aig.lit, litN_iff, decide_eq_true_eq]
  omega
 ·refine fin_eq ?_
  simp (maxDischargeDepth := 9) -implicitDefEqProofs -dsimp only [go_sem, seval]
  have : ¬ (0 ≤ a) := by omega
  simp [Aig.lit, Aig.litN, this]
theorem col_check1 (b o : Nat) (f : Flop) (g : Aig) (e : Int) (σ : Sig) {t : Tok} (hb : σ b = some (.cells [.ptr o 0])) (h : σ o = some (workT g t e)) (hs : Small g) (hf : I64 f.next) :
  ACalls Try.prog 87 [encFlop f, .ptr b 0] σ (fun r σ' => r = .ret (.bool (!g.lit f.next)) ∧ σ' = σ) := by
 refine calls_x mixed Try.func87 b87 n87 rfl q87 (by simp) ?_; unfold c87 r87
 repeat' (first | simp (maxDischargeDepth := 9) -implicitDefEqProofs -dsimp only [go_sem, seval, *] | ((with_reducible apply ACalls.one1); (focus ((with_reducible refine col_lit (t := t) o g e f.next σ h hs hf) <;> (first | (simp (maxDischargeDepth := 9) -implicitDefEqProofs -dsimp only [go_sem, seval, *]; done) | omega))); (focus (first | trivial | with_reducible exact rfl | (simp (maxDischargeDepth := 9) -implicitDefEqProofs -dsimp only [go_sem, seval]; done)))))
 exact fin_id ⟨rfl, rfl⟩
theorem col_check2 (b o : Nat) (a : Int) (g : Aig) (e : Int) (σ : Sig) {t : Tok} (hb : σ b = some (.cells [.ptr o 0])) (h : σ o = some (workT g t e)) (hs : Small g) (hf : I64 a) :
  ACalls Try.prog 88 [.int .i64 a, .ptr b 0] σ (fun r σ' => r = .ret (.bool (!g.lit a)) ∧ σ' = σ) := by
 refine calls_x mixed Try.func88 b88 n88 rfl q88 (by simp) ?_; unfold c88 r88
 repeat' (first | simp (maxDischargeDepth := 9) -implicitDefEqProofs -dsimp only [go_sem, seval, *] | ((with_reducible apply ACalls.one1); (focus ((with_reducible refine col_lit (t := t) o g e a σ h hs hf) <;> (first | (simp (maxDischargeDepth := 9) -implicitDefEqProofs -dsimp only [go_sem, seval, *]; done) | omega))); (focus (first | trivial | with_reducible exact rfl | (simp (maxDischargeDepth := 9) -implicitDefEqProofs -dsimp only [go_sem, seval]; done)))))
 exact fin_id ⟨rfl, rfl⟩
theorem col_check (o : Nat) (g : Aig) (e : Int) (σ : Sig) {t : Tok} (h : σ o = some (workT g t e)) (hs : Wf g) :
  ACalls Try.prog 80 [.ptr o 0] σ (fun r σ' => r = .ret (.int .i64 g.check) ∧ σ' = σ) := by
 refine calls_x mixed Try.func80 b80 n80 rfl q80 (by simp) ?_; unfold c80 r80
 by_cases hlo : g.ins < 0
 ·repeat' (first | simp (maxDischargeDepth := 9) -implicitDefEqProofs -dsimp only [go_sem, seval, *] | ((with_reducible refine Zt (fun oF hoF hnF hnF' => ?_)); (try simp only [upd_none, ne_eq, not_and] at hoF)))
  refine fin_eq ?_
  have : g.check = 1 := by simp [Aig.check, hlo]
  (repeat' simp (maxDischargeDepth := 9) -implicitDefEqProofs -dsimp only [go_sem, seval, this, *])
 by_cases hhi : 65536 < g.ins
 ·repeat' (first | simp (maxDischargeDepth := 9) -implicitDefEqProofs -dsimp only [go_sem, seval, gt_iff_lt, *] | ((with_reducible refine Zt (fun oF hoF hnF hnF' => ?_)); (try simp only [upd_none, ne_eq, not_and] at hoF)))
  refine fin_eq ?_
  have : g.check = 2 := by simp [Aig.check, hlo, hhi]
  (repeat' simp (maxDischargeDepth := 9) -implicitDefEqProofs -dsimp only [go_sem, seval, this, *])
 have hsm : Small g := ⟨hs, by omega, by omega⟩
 have hfl := hs.flops
 have hol := hs.outs
 repeat' (first | simp (maxDischargeDepth := 9) -implicitDefEqProofs -dsimp only [go_sem, seval, gt_iff_lt, *] | (with_reducible (first | apply Zb | apply Zc | apply Zr) <;> intro hq) | ((with_reducible refine Zt (fun oF hoF hnF hnF' => ?_)); (try simp only [upd_none, ne_eq, not_and] at hoF)) | ((with_reducible apply ACalls.one1); (focus ((first | with_reducible refine col_count (t := t) o g e _ ?_ hsm | with_reducible refine sl_containsFlop (fun f => !g.lit f.next) g.flops ?_ _ (fun f hf => col_check1 (t := t) _ o f g e _ ?_ ?_ hsm (hs.nexts f hf)) | with_reducible refine sl_containsIntT (fun a => !g.lit a) g.outs t ?_ _ (fun a ha => col_check2 (t := t) _ o a g e _ ?_ ?_ hsm (hs.lits a ha))) <;> (first | (simp (maxDischargeDepth := 9) -implicitDefEqProofs -dsimp only [go_sem, seval, *]; done) | omega))); (focus (first | trivial | with_reducible exact rfl | (simp (maxDischargeDepth := 9) -implicitDefEqProofs -dsimp only [go_sem, seval]; done)))))
 ·refine fin_eq ?_
  have : g.check = 2 := by simp [Aig.check, hlo, hhi, hq]
  (repeat' simp (maxDischargeDepth := 9) -implicitDefEqProofs -dsimp only [go_sem, seval, this, *])
 ·refine fin_eq ?_
  have : g.check = 2 := by simp [Aig.check, hlo, hhi, hq]
  (repeat' simp (maxDischargeDepth := 9) -implicitDefEqProofs -dsimp only [go_sem, seval, this, *])
 ·refine fin_eq ?_
  have : g.check = 1 := by simp [Aig.check, Aig.good, hlo, hhi, *]
  (repeat' simp (maxDischargeDepth := 9) -implicitDefEqProofs -dsimp only [go_sem, seval, this, *])
 ·refine fin_eq ?_
  have : g.check = 1 := by simp [Aig.check, Aig.good, hlo, hhi, *]
  (repeat' simp (maxDischargeDepth := 9) -implicitDefEqProofs -dsimp only [go_sem, seval, this, *])
 ·refine loop_rule (fun i : Nat => [(1, some (.ptr oF 0)), (52, some (.slice (g.ands.map encGate) .no)), (53, some (.int .i64 g.ands.length)), (54, some (.int .i64 i))]) (fun _ => upd σ oF (.cells [.ptr o 0])) (fun i => i ≤ g.ands.length ∧ ∀ j, (hj : j < g.ands.length) → j < i → (0 ≤ g.ands[j].1 ∧ g.ands[j].1 < 2 * (g.first + j)) ∧ (0 ≤ g.ands[j].2 ∧ g.ands[j].2 < 2 * (g.first + j))) (fun i => g.ands.length - i) 0 ?_ ?_
  ·(repeat' simp (maxDischargeDepth := 9) -implicitDefEqProofs -dsimp only [go_sem, seval, *]) <;> (repeat' refine And.intro ?_ ?_) <;> (first | omega | skip)
  ·rintro i ⟨hi, hb⟩
   have hA := hs.ands
   have hF := hs.flops
   have hfd : 1 ≤ g.first ∧ g.first ≤ 3000000 := by
    have := hsm.lo; have := hsm.hi
    unfold Aig.first; omega
   by_cases hlt : i < g.ands.length
   ·have hgate := hs.gates _ (List.getElem_mem hlt)
    obtain ⟨⟨g1, g2⟩, g3, g4⟩ := hgate
    repeat' (first | simp (maxDischargeDepth := 9) -implicitDefEqProofs -dsimp only [go_sem, seval, ge_iff_le, *] | simp (disch := omega) only [wrap64] | (with_reducible (first | apply Zb | apply Zc | apply Zr) <;> intro hq) | ((with_reducible refine Zu ?_ ?_); focus omega) | ((with_reducible refine Zt (fun oF hoF hnF hnF' => ?_)); (try simp only [upd_none, ne_eq, not_and] at hoF)) | ((with_reducible apply id_one0); (focus (intro tS hS; ((with_reducible refine col_first (t := t) o g e _ ?_ hsm) <;> (first | (simp (maxDischargeDepth := 9) -implicitDefEqProofs -dsimp only [go_sem, seval, *]; done) | omega | ((with_reducible refine Sub.get hS ?_); simp (maxDischargeDepth := 9) -implicitDefEqProofs -dsimp only [go_sem, seval, *]; done))))); (focus (first | trivial | (simp (maxDischargeDepth := 9) -implicitDefEqProofs -dsimp only [go_sem, seval, *]; done)))))
    ·have : g.check = 1 := by
      have := gatesOk_false (n := g.first) hlt (by omega)
      simp [Aig.check, Aig.good, hlo, hhi, *]
     refine fin_eq ?_
     (repeat' simp (maxDischargeDepth := 9) -implicitDefEqProofs -dsimp only [go_sem, seval, this, *])
    ·refine loop_next _ _ _ _ (i + 1) ?_; (repeat' simp (maxDischargeDepth := 9) -implicitDefEqProofs -dsimp only [go_sem, seval, *]) <;> (repeat' refine And.intro ?_ ?_) <;> (first | omega | skip)
     intro j hj h
     rcases Nat.lt_or_ge j i with h' | h'
     ·exact hb j hj h'
     ·obtain rfl : j = i := by omega
      omega
    ·have : g.check = 1 := by
      have := gatesOk_false (n := g.first) hlt (by omega)
      simp [Aig.check, Aig.good, hlo, hhi, *]
     refine fin_eq ?_
     (repeat' simp (maxDischargeDepth := 9) -implicitDefEqProofs -dsimp only [go_sem, seval, this, *])
   ·repeat' simp (maxDischargeDepth := 9) -implicitDefEqProofs -dsimp only [go_sem, seval, *]
    refine fin_eq ?_
    have : g.check = 0 := by
     have : Aig.gatesOk g.first g.ands = true := gatesOk_iff.2 fun j hj => hb j hj (by omega)
     simp [Aig.check, Aig.good, hlo, hhi, *]
    (repeat' simp (maxDischargeDepth := 9) -implicitDefEqProofs -dsimp only [go_sem, seval, this, *])
theorem col_begin (g : Aig) (l : List Int) (σ : Sig) {t : Tok} (hs : Wf g) (hl : l.length ≤ 1000000) (hi : ∀ a ∈ l, I64 a) :
  ACalls Try.prog 59 [encT g t, .slice (l.map encInt) .no] σ (NewO σ (fun o => .ptr o 0) (workT g t (g.checkL g.check l))) := by
 refine calls_x mixed Try.func59 b59 n59 rfl q59 (by simp) ?_; unfold c59 r59
 repeat' (first | simp (maxDischargeDepth := 9) -implicitDefEqProofs -dsimp only [go_sem, seval, *] | ((with_reducible refine Zt (fun oF hoF hnF hnF' => ?_)); (try simp only [upd_none, ne_eq, not_and] at hoF)) | ((with_reducible apply ACalls.one1); (focus ((with_reducible refine col_check (t := t) _ g 0 _ ?_ hs) <;> (first | (simp (maxDischargeDepth := 9) -implicitDefEqProofs -dsimp only [go_sem, seval, *]; done) | omega))); (focus (first | trivial | with_reducible exact rfl | (simp (maxDischargeDepth := 9) -implicitDefEqProofs -dsimp only [go_sem, seval]; done)))))
 refine loop_rule (fun i : Nat => [(5, some (.ptr oF 0)), (16, some (.slice (l.map encInt) .no)), (17, some (.int .i64 l.length)), (18, some (.int .i64 i))]) (fun i => upd σ oF (workT g t (g.checkL g.check (l.take i)))) (fun i => i ≤ l.length) (fun i => l.length - i) 0 ?_ ?_
 ·(repeat' simp (maxDischargeDepth := 9) -implicitDefEqProofs -dsimp only [go_sem, seval, Aig.checkL, *]) <;> (first | omega | skip)
 ·intro i hi'
  by_cases hlt : i < l.length
  ·have hi2 := hi _ (List.getElem_mem hlt)
   have step : g.checkL g.check (l.take (i + 1)) = if g.checkL g.check (l.take i) = 0 ∧ g.lit l[i] = false then 1 else g.checkL g.check (l.take i) := by
    rw [List.take_add_one, List.getElem?_eq_getElem hlt]
    exact checkL_snoc g _ _ _
   by_cases he : g.checkL g.check (l.take i) = 0
   ·have hsm : Small g := checkL_small hs he
    repeat' (first | simp (maxDischargeDepth := 9) -implicitDefEqProofs -dsimp only [go_sem, seval, *] | simp (disch := omega) only [wrap64] | (with_reducible (first | apply Zr) <;> intro hq) | ((with_reducible refine Zu ?_ ?_); focus omega) | ((with_reducible apply ACalls.one1); (focus ((with_reducible refine col_lit (t := t) _ g 0 l[i] _ ?_ hsm hi2) <;> (first | (simp (maxDischargeDepth := 9) -implicitDefEqProofs -dsimp only [go_sem, seval, *]; done) | omega))); (focus (first | trivial | with_reducible exact rfl | (simp (maxDischargeDepth := 9) -implicitDefEqProofs -dsimp only [go_sem, seval]; done)))))
    ·have st : g.checkL g.check (l.take (i + 1)) = 0 := by rw [step]; simp [*]
     refine loop_next _ _ _ _ (i + 1) ?_; (repeat' simp (maxDischargeDepth := 9) -implicitDefEqProofs -dsimp only [go_sem, seval, *]) <;> (repeat' refine And.intro ?_ ?_) <;> (first | omega | skip)
    ·have st : g.checkL g.check (l.take (i + 1)) = 1 := by rw [step]; simp [*]
     refine loop_next _ _ _ _ (i + 1) ?_; (repeat' simp (maxDischargeDepth := 9) -implicitDefEqProofs -dsimp only [go_sem, seval, *]) <;> (repeat' refine And.intro ?_ ?_) <;> (first | omega | skip)
   ·have st : g.checkL g.check (l.take (i + 1)) = g.checkL g.check (l.take i) := by rw [step]; simp [*]
    have hb : (g.checkL g.check (l.take i) == 0) = false := by simpa using he
    repeat' (first | simp (maxDischargeDepth := 9) -implicitDefEqProofs -dsimp only [go_sem, seval, *] | simp (disch := omega) only [wrap64] | ((with_reducible refine Zu ?_ ?_); focus omega))
    refine loop_next _ _ _ _ (i + 1) ?_; (repeat' simp (maxDischargeDepth := 9) -implicitDefEqProofs -dsimp only [go_sem, seval, *]) <;> (repeat' refine And.intro ?_ ?_) <;> (first | omega | skip)
  ·repeat' simp (maxDischargeDepth := 9) -implicitDefEqProofs -dsimp only [go_sem, seval, *]
   refine fin_new oF hoF ?_
   have e0 : l.take i = l := List.take_of_length_le (by omega)
   (repeat' simp (maxDischargeDepth := 9) -implicitDefEqProofs -dsimp only [go_sem, seval, e0, *])
theorem col_and (o : Nat) (g : Aig) (e a b : Int) (σ : Sig) {t : Tok} (h : σ o = some (workT g t e)) (hok : e = 0 → Fine g ∧ g.lit a = true ∧ g.lit b = true) :
    ACalls Try.prog 93 [.ptr o 0, .int .i64 a, .int .i64 b] σ (fun r σ' => r = .ret (.int .i64 (g.andW e a b).2.2) ∧ σ' = upd σ o (workT (g.andW e a b).1 t (g.andW e a b).2.1)) := by
  refine calls_x mixed Try.func93 b93 n93 rfl q93 (by simp) ?_; unfold c93 r93
  by_cases he : e = 0
  · subst he
    obtain ⟨hfine, ha, hb⟩ := hok rfl
    have hs := hfine.toSmall
    have hcn := hfine.cnt
    have ha' := litN_iff.1 ha
    have hb' := litN_iff.1 hb
    have hcnt : 0 ≤ g.count ∧ g.count ≤ 3000000 := by
      have := hs.lo; have := hs.hi; have := hs.flops; have := hs.ands
      unfold Aig.count; omega
    have hfst : 0 ≤ g.first ∧ g.first ≤ 3000000 := by
      have := hs.lo; have := hs.hi; have := hs.flops
      unfold Aig.first; omega
    have hfb := idxF_bounds (fun x : Int × Int => decide (min x.1 x.2 = min a b) && decide (max x.1 x.2 = max a b)) g.ands
    have hal := hs.ands
    have hpush : ∀ x : Int × Int, I64 x.1 ∧ I64 x.2 → g.ands.length < 1000000 → Small { g with ands := g.ands ++ [x] } := fun x hx hl => { hs with
      ands := by simp; omega
      gates := fun y hy => by
        rcases List.mem_append.1 hy with h | h
        · exact hs.gates y h
        · simp at h; subst h; exact hx }
    repeat' (first | simp (maxDischargeDepth := 9) -implicitDefEqProofs -dsimp only [go_sem, seval, ge_iff_le, *] | simp (disch := omega) only [wrap64, xor1] | (with_reducible (first | apply Zc | apply Zf | apply Zl) <;> intro hq) | ((with_reducible refine Zv ?_ ?_); focus (first | omega | exact rfl)) | ((with_reducible refine Zt (fun oF hoF hnF hnF' => ?_)); (try simp only [upd_none, ne_eq, not_and] at hoF)) | ((with_reducible apply ACalls.one1); (focus ((first | with_reducible refine col_count (t := t) o g 0 _ ?_ hs | with_reducible refine col_first (t := t) o g 0 _ ?_ hs | with_reducible refine sl_indexGate (fun x : Int × Int => decide (min x.1 x.2 = min a b) && decide (max x.1 x.2 = max a b)) g.ands ?_ _ (fun x _ => aig_and1 _ _ x (min a b) (max a b) _ ?_ ?_)) <;> (first | (simp (maxDischargeDepth := 9) -implicitDefEqProofs -dsimp only [go_sem, seval, *]; done) | omega))); (focus (first | trivial | with_reducible exact rfl | (simp (maxDischargeDepth := 9) -implicitDefEqProofs -dsimp only [go_sem, seval]; done)))) | ((with_reducible apply id_one0); (focus (intro tS hS; ((with_reducible refine sl_clipGate g.ands _) <;> (first | (simp (maxDischargeDepth := 9) -implicitDefEqProofs -dsimp only [go_sem, seval, *]; done) | omega | ((with_reducible refine Sub.get hS ?_); simp (maxDischargeDepth := 9) -implicitDefEqProofs -dsimp only [go_sem, seval, *]; done))))); (focus (first | trivial | (simp (maxDischargeDepth := 9) -implicitDefEqProofs -dsimp only [go_sem, seval, *]; done)))))
    all_goals try refine fin_eq ?_
    all_goals first | (rw [andW1 (by omega)]; (repeat' simp (maxDischargeDepth := 9) -implicitDefEqProofs -dsimp only [go_sem, seval, *])) | (rw [andW2 (by omega) (by omega)]; (repeat' simp (maxDischargeDepth := 9) -implicitDefEqProofs -dsimp only [go_sem, seval, *])) | (rw [andW3 (by omega) (by omega) hq]; (repeat' simp (maxDischargeDepth := 9) -implicitDefEqProofs -dsimp only [go_sem, seval, *]) <;> (first | rfl | skip)) | (rw [andW4 (by omega) (by omega) ‹_› (by omega)]; (repeat' simp (maxDischargeDepth := 9) -implicitDefEqProofs -dsimp only [go_sem, seval, *])) | skip
    have hlt : g.ands.length < 1000000 := by
      have := hs.lo
      simp only [Aig.count] at hcn
      omega
    have hs' := hpush (min a b, max a b) ⟨⟨by omega, by omega⟩, ⟨by omega, by omega⟩⟩ hlt
    refine ACalls.one (ACalls.flo (o := o) (x0 := workT { g with ands := g.ands ++ [(min a b, max a b)] } t 0) ?_ (col_count o { g with ands := g.ands ++ [(min a b, max a b)] } 0 _ (upd_same _ _ _) hs')) ?_
    · (repeat' simp (maxDischargeDepth := 9) -implicitDefEqProofs -dsimp only [go_sem, seval, *])
    have hc' := count_push (g := g) (min a b, max a b)
    repeat' (first | simp (maxDischargeDepth := 9) -implicitDefEqProofs -dsimp only [go_sem, seval, *] | simp (disch := omega) only [wrap64, xor1])
    refine fin_eq ?_
    rw [andW5 (by omega) (by omega) ‹_› (by omega)]
    (repeat' simp (maxDischargeDepth := 9) -implicitDefEqProofs -dsimp only [go_sem, seval, *])
  · have hb : (e != 0) = true := by simpa using he
    repeat' (first | simp (maxDischargeDepth := 9) -implicitDefEqProofs -dsimp only [go_sem, seval, *] | ((with_reducible refine Zt (fun oF hoF hnF hnF' => ?_)); (try simp only [upd_none, ne_eq, not_and] at hoF)))
    refine fin_eq ?_
    (repeat' simp (maxDischargeDepth := 9) -implicitDefEqProofs -dsimp only [go_sem, seval, Aig.andW, *])
theorem col_end (o : Nat) (g : Aig) (a : Int) (σ : Sig) {t : Tok} (h : σ o = some (workT g t 0)) :
  ACalls Try.prog 92 [.ptr o 0, .int .i64 a] σ (fun r σ' => r = .ret (.tup [encT g t, .int .i64 a, .int .i64 0]) ∧ σ' = σ) := by
 refine calls_x mixed Try.func92 b92 n92 rfl q92 (by simp) ?_; unfold c92 r92
 have ez : ((0 : Int) != 0) = false := by decide
 repeat' (first | simp (maxDischargeDepth := 9) -implicitDefEqProofs -dsimp only [go_sem, seval, *] | ((with_reducible refine Zt (fun oF hoF hnF hnF' => ?_)); (try simp only [upd_none, ne_eq, not_and] at hoF)))
 refine fin_eq ?_
 (repeat' simp (maxDischargeDepth := 9) -implicitDefEqProofs -dsimp only [go_sem, seval, *])
theorem col_And (g : Aig) (a b : Int) (σ : Sig) {t : Tok} (hs : Wf g) (ha : I64 a) (hb : I64 b) (h0 : (g.And a b).2.2 = 0) :
  ACalls Try.prog 85 [encT g t, .int .i64 a, .int .i64 b] σ (fun r σ' => r = .ret (.tup [encT (g.And a b).1 t, .int .i64 (g.And a b).2.1, .int .i64 0]) ∧ σ' = σ) := by
 refine calls_x mixed Try.func85 b85 n85 rfl q85 (by simp) ?_; unfold c85 r85
 have hok : g.checkL g.check [a, b] = 0 → Fine g ∧ g.lit a = true ∧ g.lit b = true := fun h => by
  obtain ⟨h1, h2⟩ := checkL_fine hs h
  exact ⟨h1, h2 a (by simp), h2 b (by simp)⟩
 have hl : ∀ x ∈ [a, b], I64 x := by simp [ha, hb]
 have hA : (g.And a b) = ((g.andW (g.checkL g.check [a, b]) a b).1, (g.andW (g.checkL g.check [a, b]) a b).2.2, 0) := by
  unfold Aig.And Aig.endW at h0 ⊢
  split at h0
  ·rename_i hne; exact absurd h0 hne
  ·rename_i he; rw [if_neg he]
 have hw : (g.andW (g.checkL g.check [a, b]) a b).2.1 = 0 := by
  unfold Aig.And Aig.endW at h0
  split at h0
  ·rename_i hne; exact absurd h0 hne
  ·rename_i he; simpa using he
 have hA2 := fun o τ h => col_and o g (g.checkL g.check [a, b]) a b τ (t := t) h hok
 rw [hw] at hA2
 rw [hA]
 clear hA hw h0
 repeat' (first | simp (maxDischargeDepth := 9) -implicitDefEqProofs -dsimp only [go_sem, seval, *] | ((with_reducible refine Zt (fun oF hoF hnF hnF' => ?_)); (try simp only [upd_none, ne_eq, not_and] at hoF)) | ((with_reducible apply ACalls.one1); (focus ((first | with_reducible refine hA2 _ _ ?_ | with_reducible refine col_end (t := t) _ (g.andW (g.checkL g.check [a, b]) a b).1 (g.andW (g.checkL g.check [a, b]) a b).2.2 _ ?_) <;> (first | (simp (maxDischargeDepth := 9) -implicitDefEqProofs -dsimp only [go_sem, seval, *]; done) | omega))); (focus (first | trivial | with_reducible exact rfl | (simp (maxDischargeDepth := 9) -implicitDefEqProofs -dsimp only [go_sem, seval]; done)))) | ((with_reducible apply ACalls.newO); (focus ((with_reducible refine ACalls.flA (col_begin (t := t) g [a, b] _ hs ?_ hl) ?_) <;> (first | (simp (maxDischargeDepth := 9) -implicitDefEqProofs -dsimp only [go_sem, seval, *]; done) | omega))); (intro oF hoF hnF hnF'); (try simp only [upd_none, ne_eq, not_and] at hoF)))
 refine fin_eq ?_
 (repeat' simp (maxDischargeDepth := 9) -implicitDefEqProofs -dsimp only [go_sem, seval, *])
end Go.Proofs.Ytapnlmhfacoceaa

namespace Go.Proofs.Ytapnlmhfacoceaa
open Abs Fil Fil.Rw
open Eqv (moveL)
def flV (p : Nat) (l : List Flop) : AV := if l = [] then .slice [] .no else .vec p l.length
def flO (l : List Flop) : AObj := if l = [] then .virt 2 else rowF l
theorem flV_cells (p : Nat) (l : List Flop) : cellsA (flV p l) = [flV p l] := by unfold flV; split <;> rfl
theorem flV_one (p : Nat) (l : List Flop) : oneA (flV p l) = true := by unfold flV; split <;> rfl
abbrev bldC (old g : Aig) (F : AV) (ta to : Tok) (L V : AV) : AObj :=
 .cells [.int .i64 old.ins, .slice (old.flops.map encFlop) .no, .slice (old.ands.map encGate) .no, .slice (old.outs.map encInt) .no, .int .i64 g.ins, F, .slice (g.ands.map encGate) ta, .slice (g.outs.map encInt) to, L, V]
abbrev ilist (l : List Int) (t : Tok) : AV := .slice (l.map encInt) t
theorem and_flops {g : Aig} (hs : Wf g) {a b : Int} (h : (g.And a b).2.2 = 0) : (g.And a b).1.flops = g.flops ∧ (g.And a b).1.ins = g.ins ∧ (g.And a b).1.outs = g.outs := by
 obtain ⟨_, _, e, _⟩ := (and_res hs a b).check hs h
 exact ⟨e.flops, e.ins, e.outs⟩
theorem bld_And (g : Aig) (a b : Int) (σ : Sig) (p : Nat) (t : Tok) (hp : σ p = some (flO g.flops)) (hs : Wf g) (ha : I64 a) (hb : I64 b) (h0 : (g.And a b).2.2 = 0) :
  ACalls Try.prog 85 [.agg [.int .i64 g.ins, flV p g.flops, .slice (g.ands.map encGate) .no, .slice (g.outs.map encInt) t], .int .i64 a, .int .i64 b] σ
   (fun r σ' => r = .ret (.tup [.agg [.int .i64 g.ins, flV p g.flops, .slice ((g.And a b).1.ands.map encGate) .no, .slice (g.outs.map encInt) t], .int .i64 (g.And a b).2.1, .int .i64 0]) ∧ σ' = σ) := by
 obtain ⟨e1, e2, e3⟩ := and_flops hs h0
 by_cases hf : g.flops = []
 ·have h := col_And g a b σ (t := t) hs ha hb h0
  unfold flV
  rw [if_pos hf]
  simp only [encT, aigT, hf, List.map_nil] at h
  refine h.mono fun r s hr => ?_
  rw [e1, e2, e3, hf] at hr
  exact hr
 ·have hp' : σ p = some (rowF g.flops) := by rw [hp]; unfold flO; rw [if_neg hf]
  have h := row_And g a b σ (t := t) hp' hs ha hb h0
  unfold flV
  rw [if_neg hf]
  refine h.mono fun r s hr => ?_
  simp only [encV, aigV] at hr
  rw [e1, e2, e3] at hr
  exact hr
theorem rw_first (o : Nat) (old : Aig) (rest : List AV) (σ : Sig) (hB : σ o = some (.cells (.int .i64 old.ins :: .slice (old.flops.map encFlop) .no :: rest))) (hs : Small old) :
  ACalls Try.prog 40 [.ptr o 0] σ (fun r σ' => r = .ret (.int .i64 old.first) ∧ σ' = σ) := by
 refine calls_x mixed Try.func40 b40 n40 rfl q40 (by simp) ?_; unfold c40 r40
 obtain ⟨⟨h0, h1, h2, h3, h4, h5, h6⟩, h7, h8⟩ := hs
 repeat' (first | simp (maxDischargeDepth := 9) -implicitDefEqProofs -dsimp only [go_sem, seval, *] | simp (disch := omega) only [wrap64])
 refine fin_eq ?_
 (repeat' simp (maxDischargeDepth := 9) -implicitDefEqProofs -dsimp only [go_sem, seval, Aig.first, *])
theorem rw_one (v : Bool) (σ : Sig) : ACalls Try.prog 69 [.bool v] σ (fun r σ' => r = .ret (.int .i64 (bit v)) ∧ σ' = σ) := by
 refine calls_x mixed Try.func69 b69 n69 rfl q69 (by simp) ?_; unfold c69 r69
 cases v with
 | true =>
  repeat' simp (maxDischargeDepth := 9) -implicitDefEqProofs -dsimp only [go_sem, seval, *]
  refine fin_eq ?_
  (repeat' simp (maxDischargeDepth := 9) -implicitDefEqProofs -dsimp only [go_sem, seval, bit, *])
 | false =>
  repeat' simp (maxDischargeDepth := 9) -implicitDefEqProofs -dsimp only [go_sem, seval, *]
  refine fin_eq ?_
  (repeat' simp (maxDischargeDepth := 9) -implicitDefEqProofs -dsimp only [go_sem, seval, bit, *])
theorem xor_bit (f a : Int) (h0 : 0 ≤ f) (h1 : f ≤ 4611686018427387904) (ha : 0 ≤ a) : IntKind.i64.wrap ((BitVec.ofInt IntKind.i64.bits f ^^^ BitVec.ofInt IntKind.i64.bits (a % 2)).toNat : Nat) = if a % 2 = 0 then f else turn f := by
 by_cases h : a % 2 = 0
 ·rw [if_pos h, h]
  have e : (BitVec.ofInt IntKind.i64.bits f ^^^ BitVec.ofInt IntKind.i64.bits 0).toNat = f.toNat := by
   show (BitVec.ofInt 64 f ^^^ BitVec.ofInt 64 0).toNat = f.toNat
   simp [BitVec.toNat_ofInt]; omega
  rw [e, Int.toNat_of_nonneg h0]
  exact wrap64 _ (by omega) (by omega)
 ·rw [if_neg h, show a % 2 = 1 by omega]
  exact xor1 f (by omega) (by omega)
theorem rw_lit (o : Nat) (c0 c1 c2 c3 c4 c5 c6 c7 c9 : AV) (lits : List Int) (t : Tok) (a : Int) (σ : Sig) (hB : σ o = some (.cells [c0, c1, c2, c3, c4, c5, c6, c7, ilist lits t, c9])) (h0 : 0 ≤ a) (h1 : (a / 2).toNat < lits.length)
  (hl : ∀ x ∈ lits, 0 ≤ x ∧ x ≤ 1000000) (ha : a ≤ 1000000) :
  ACalls Try.prog 41 [.ptr o 0, .int .i64 a] σ (fun r σ' => r = .ret (.int .i64 (moveL lits a)) ∧ σ' = σ) := by
 refine calls_x mixed Try.func41 b41 n41 rfl q41 (by simp) ?_; unfold c41 r41
 have hg : lits[(a / 2).toNat] = lits.getD (a / 2).toNat 0 := by simp [List.getD_eq_getElem?_getD, h1]
 obtain ⟨hf0, hf1⟩ := hl _ (List.getElem_mem h1)
 rw [hg] at hf0 hf1
 obtain ⟨f, hf⟩ : ∃ f, lits.getD (a / 2).toNat 0 = f := ⟨_, rfl⟩
 rw [hf] at hg hf0 hf1
 have hx := xor_bit f a hf0 (by omega) h0
 have hm : moveL lits a = if a % 2 = 0 then f else turn f := by unfold moveL; rw [hf]
 rw [hm]
 rw [← hx]
 clear hx hm hl
 repeat' (first | simp (maxDischargeDepth := 9) -implicitDefEqProofs -dsimp only [go_sem, seval, *] | simp (disch := omega) only [wrap64, tdiv2, and1] | ((with_reducible refine Zv ?_ ?_); focus (first | omega | exact rfl)) | ((with_reducible refine Zu ?_ ?_); focus omega))
 refine fin_eq ?_
 (repeat' simp (maxDischargeDepth := 9) -implicitDefEqProofs -dsimp only [go_sem, seval, *])
theorem rw_and (o p oV : Nat) (old : Aig) (b : B) (x y : Int) (to : Tok) (L : AV) (σ : Sig) (hB : σ o = some (bldC old b.g (flV p b.g.flops) .no to L (ilist b.lev (.own oV)))) (hL : cellsA L = [L]) (hL1 : oneA L = true)
  (hp : σ p = some (flO b.g.flops)) (hV : σ oV = some (.grow 1 b.lev.length)) (n1 : ¬ o = p) (n1' : ¬ p = o) (n2 : ¬ o = oV) (n2' : ¬ oV = o) (n3 : ¬ p = oV) (n3' : ¬ oV = p)
  (hs : Wf b.g) (hx0 : 0 ≤ x) (hx1 : (x / 2).toNat < b.lev.length) (hy0 : 0 ≤ y) (hy1 : (y / 2).toNat < b.lev.length) (hlev : ∀ v ∈ b.lev, 0 ≤ v ∧ v ≤ 1000000) (hll : b.lev.length ≤ 1000000) (h0 : (b.g.And x y).2.2 = 0) (hx2 : x ≤ 10000000) (hy2 : y ≤ 10000000) :
  ACalls Try.prog 71 [.ptr o 0, .int .i64 x, .int .i64 y] σ
   (fun r σ' => r = .ret (.int .i64 (andB b x y).2) ∧ σ' = upd (upd σ o (bldC old (andB b x y).1.g (flV p b.g.flops) .no to L (ilist (andB b x y).1.lev (.own oV)))) oV (.grow 1 (andB b x y).1.lev.length)) := by
 refine calls_x mixed Try.func71 b71 n71 rfl q71 (by simp) ?_; unfold c71 r71
 obtain ⟨e1, e2, e3⟩ := and_flops hs h0
 have hA := fun τ h => bld_And b.g x y τ p to h hs ⟨by omega, by omega⟩ ⟨by omega, by omega⟩ h0
 have hal := hs.ands
 have hrl : (b.g.And x y).1.ands.length ≤ 2000000 := by
  have := (and_res hs x y).check hs h0
  omega
 unfold andB
 obtain ⟨⟨g', z, e⟩, hr⟩ : ∃ r, b.g.And x y = r := ⟨_, rfl⟩
 rw [hr] at hA e1 e2 e3 hrl ⊢
 simp only at hA e1 e2 e3 hrl ⊢
 have c1 := flV_cells p b.g.flops
 have c2 := flV_one p b.g.flops
 obtain ⟨F, hF⟩ : ∃ F, flV p b.g.flops = F := ⟨_, rfl⟩
 rw [hF] at hA hB c1 c2 ⊢
 obtain ⟨F0, hF0⟩ : ∃ F, flO b.g.flops = F := ⟨_, rfl⟩
 rw [hF0] at hA hp
 have gx : b.lev[(x / 2).toNat] = b.lev.getD (x / 2).toNat 0 := by simp [List.getD_eq_getElem?_getD, hx1]
 have gy : b.lev[(y / 2).toNat] = b.lev.getD (y / 2).toNat 0 := by simp [List.getD_eq_getElem?_getD, hy1]
 obtain ⟨u1, u2⟩ := hlev _ (List.getElem_mem hx1)
 obtain ⟨v1, v2⟩ := hlev _ (List.getElem_mem hy1)
 rw [gx] at u1 u2
 rw [gy] at v1 v2
 obtain ⟨u, hu⟩ : ∃ u, b.lev.getD (x / 2).toNat 0 = u := ⟨_, rfl⟩
 obtain ⟨v, hv⟩ : ∃ v, b.lev.getD (y / 2).toNat 0 = v := ⟨_, rfl⟩
 rw [hu] at gx u1 u2 ⊢
 rw [hv] at gy v1 v2 ⊢
 clear hr hlev hs h0 hF hF0 hu hv
 by_cases hlt : b.g.ands.length < g'.ands.length
 ·have hlt' : (b.g.ands.length : Int) < g'.ands.length := by omega
  rw [if_pos hlt]
  have hb : (if v > u then v else u) = max u v := by omega
  clear hlt
  repeat' (first | simp (maxDischargeDepth := 9) -implicitDefEqProofs -dsimp only [go_sem, seval, gt_iff_lt, *] | simp (disch := omega) only [wrap64, tdiv2] | ((with_reducible refine Zv ?_ ?_); focus (first | omega | exact rfl)) | ((with_reducible refine Zu ?_ ?_); focus omega) | ((with_reducible refine Zt (fun oF hoF hnF hnF' => ?_)); (try simp only [upd_none, ne_eq, not_and] at hoF)) | ((with_reducible apply ACalls.one1); (focus ((with_reducible refine hA _ ?_) <;> (first | (simp (maxDischargeDepth := 9) -implicitDefEqProofs -dsimp only [go_sem, seval, *]; done) | omega))); (focus (first | trivial | with_reducible exact rfl | (simp (maxDischargeDepth := 9) -implicitDefEqProofs -dsimp only [go_sem, seval]; done)))))
  all_goals
   refine fin_eq ?_
   (repeat' simp (maxDischargeDepth := 9) -implicitDefEqProofs -dsimp only [go_sem, seval, ilist, List.map_append, List.map_cons, List.map_nil, *])
 ·have hlt' : ¬ (b.g.ands.length : Int) < g'.ands.length := by omega
  rw [if_neg hlt]
  clear hlt gx gy
  repeat' (first | simp (maxDischargeDepth := 9) -implicitDefEqProofs -dsimp only [go_sem, seval, gt_iff_lt, *] | ((with_reducible refine Zt (fun oF hoF hnF hnF' => ?_)); (try simp only [upd_none, ne_eq, not_and] at hoF)) | ((with_reducible apply ACalls.one1); (focus ((with_reducible refine hA _ ?_) <;> (first | (simp (maxDischargeDepth := 9) -implicitDefEqProofs -dsimp only [go_sem, seval, *]; done) | omega))); (focus (first | trivial | with_reducible exact rfl | (simp (maxDischargeDepth := 9) -implicitDefEqProofs -dsimp only [go_sem, seval]; done)))))
  refine fin_eq ?_
  (repeat' simp (maxDischargeDepth := 9) -implicitDefEqProofs -dsimp only [go_sem, seval, *])
end Go.Proofs.Ytapnlmhfacoceaa

namespace Go.Proofs.Ytapnlmhfacoceaa
open Abs Fil Fil.Rw
open Eqv (moveL)
def StOk (σ : Sig) (st : AV) (n : Nat) (s : Nat → Option Bool) : Prop :=
 (st = .nilmap ∧ ∀ i, s i = none) ∨ ∃ om d m, st = .map om ∧ σ om = some (.map d m) ∧ ∀ i, i < n → lookK (.one 0) (.int .i64 i) m = some ((s i).map .bool)
def flN (p : Nat) (l : List Flop) : AV := if l = [] then .slice [] .nil else .vec p l.length
theorem key_int (i : Int) : keyOk (.one 0) (.int .i64 i) = true := by simp [keyOk, eqKey, eq1]
abbrev begS (σ : Sig) (g : Aig) (s : Nat → Option Bool) (o oL oV p : Nat) : Sig :=
 upd (upd (upd (upd σ o (bldC g (bgn g s).g (flV p (bgn g s).g.flops) .nil .nil (ilist (bgn g s).lits (.own oL)) (ilist (bgn g s).lev (.own oV)))) oL (.grow 1 (bgn g s).lits.length)) oV (.grow 1 (bgn g s).lev.length)) p (flO (bgn g s).g.flops)
theorem bg_len (g : Aig) (s : Nat → Option Bool) : ∀ i, (bgAt g s i).1.length = (1 + g.ins).toNat + i ∧ (bgAt g s i).2.length ≤ i
 | 0 => by simp [bgAt, evens]
 | i + 1 => by
  obtain ⟨h1, h2⟩ := bg_len g s i
  unfold bgAt
  cases s i with
  | some v => simp; omega
  | none => simp; omega
theorem evens_succ (n : Nat) : evens (n + 1) = evens n ++ [2 * (n : Int)] := by simp [evens, List.range_succ]
theorem evens_length (n : Nat) : (evens n).length = n := by simp [evens]
theorem flO_nil : flO [] = .virt 2 := rfl
theorem flN_nil (p : Nat) : flN p [] = .slice [] .nil := rfl
theorem flN_cons (p : Nat) {l : List Flop} (h : l ≠ []) : flN p l = .vec p l.length := if_neg h
theorem flO_cons {l : List Flop} (h : l ≠ []) : flO l = .vec 2 l.length (flat (l.map encFlop)) := if_neg h
theorem flN_app (p : Nat) (l : List Flop) (x : Flop) : flN p (l ++ [x]) = .vec p (l.length + 1) := by rw [flN_cons p (by simp)]; simp
theorem flO_app (l : List Flop) (x : Flop) : flO (l ++ [x]) = .vec 2 (l.length + 1) (flat (l.map encFlop) ++ [.int .i64 x.next, .bool x.init]) := by
 rw [flO_cons (by simp), List.map_append, flat_append, List.length_append]; rfl
theorem flN_1 (p : Nat) (x : Flop) : flN p [x] = .vec p 1 := flN_cons p (by simp)
theorem flO_1 (x : Flop) : flO [x] = .vec 2 1 [.int .i64 x.next, .bool x.init] := flO_cons (by simp)
theorem flat_agg1 (l : List AV) : flat [.agg l] = l := by simp [flat, cellsA]
set_option maxRecDepth 20000 in
set_option maxHeartbeats 4000000 in
theorem rw_begin (g : Aig) (s : Nat → Option Bool) (st : AV) (σ : Sig) (hst : StOk σ st g.flops.length s) (hi0 : 0 ≤ g.ins) (hi1 : g.ins ≤ 10000) (hfl : g.flops.length ≤ 10000) :
  ACalls Try.prog 38 [encAig g, st] σ (New4 σ (fun o => .ptr o 0) (begS σ g s)) := by
 refine ACalls.virt (callable_of Try.func38 b38 n38) 1 (fun oV1 hoV1 hnV1 hnV1' => ?_); (try simp only [upd_none, ne_eq, not_and] at hoV1); refine ACalls.virt (callable_of Try.func38 b38 n38) 2 (fun oV2 hoV2 hnV2 hnV2' => ?_); (try simp only [upd_none, ne_eq, not_and] at hoV2); refine calls_x mixed Try.func38 b38 n38 rfl q38 (by simp) ?_; unfold c38 r38
 obtain ⟨N, hN⟩ : ∃ N : Nat, (N : Int) = 1 + g.ins := ⟨(1 + g.ins).toNat, by omega⟩
 have hN' : 1 + g.ins = (N : Int) := hN.symm
 have hN1 : N ≤ 10001 := by omega
 clear hN
 repeat' (first | simp (maxDischargeDepth := 9) -implicitDefEqProofs -dsimp only [go_sem, seval, *] | simp (disch := omega) only [wrap64] | ((with_reducible refine Zt (fun oF hoF hnF hnF' => ?_)); (try simp only [upd_none, ne_eq, not_and] at hoF)))
 obtain ⟨oB, eB⟩ : ∃ x, x = oF := ⟨oF, rfl⟩
 subst eB
 obtain ⟨_, qB1, qB2⟩ := id hoF
 refine loop_rule (fun n : Nat => [(20, some (.int .i64 n)), (19, some (.int .i64 N)), (5, some (.ptr oB 0)), (2, some (.cptr (aigL g))), (1, some st)])
  (fun n => upd (upd (upd σ oV1 (.grow 1 n)) oV2 (.virt 2)) oB (.cells [.int .i64 g.ins, .slice (g.flops.map encFlop) .no, .slice (g.ands.map encGate) .no, .slice (g.outs.map encInt) .no, .int .i64 g.ins, .slice [] .nil, .slice [] .nil, .slice [] .nil, .slice ((evens n).map encInt) (.own oV1), .slice [] .nil]))
  (fun n => n ≤ N) (fun n => N - n) 0 ?_ ?_
 ·(repeat' simp (maxDischargeDepth := 9) -implicitDefEqProofs -dsimp only [go_sem, seval, evens, List.range_zero, List.map_nil, *]) <;> (first | omega | skip)
 ·intro n hn
  have hel := evens_length n
  by_cases hlt : n < N
  ·have hlt' : (n : Int) < N := by omega
   have hes := evens_succ n
   repeat' (first | simp (maxDischargeDepth := 9) -implicitDefEqProofs -dsimp only [go_sem, seval, *] | simp (disch := omega) only [wrap64] | ((with_reducible refine Zv ?_ ?_); focus (first | omega | exact rfl)))
   refine loop_next _ _ _ _ (n + 1) ?_; (repeat' simp (maxDischargeDepth := 9) -implicitDefEqProofs -dsimp only [go_sem, seval,  List.map_append, List.map_cons, List.map_nil, *]) <;> (repeat' refine And.intro ?_ ?_) <;> (first | omega | skip)
  ·have hlt' : ¬ (n : Int) < N := by omega
   have en : n = N := by omega
   subst en
   have e0 : evens n = (bgAt g s 0).1 := by
    simp only [bgAt]; congr 1; omega
   have e1 : (bgAt g s 0).2 = [] := rfl
   rw [e0] at hel ⊢
   repeat' simp (maxDischargeDepth := 9) -implicitDefEqProofs -dsimp only [go_sem, seval, *]
   refine loop_rule (fun x : Nat × Nat => [(38, some (.int .i64 x.1)), (37, some (.int .i64 g.flops.length)), (36, some (.slice (g.flops.map encFlop) .no)), (5, some (.ptr oB 0)), (2, some (.cptr (aigL g))), (1, some st)])
    (fun x => upd (upd (upd σ oV1 (.grow 1 (bgAt g s x.1).1.length)) x.2 (flO (bgAt g s x.1).2)) oB (.cells [.int .i64 g.ins, .slice (g.flops.map encFlop) .no, .slice (g.ands.map encGate) .no, .slice (g.outs.map encInt) .no, .int .i64 g.ins, flN x.2 (bgAt g s x.1).2, .slice [] .nil, .slice [] .nil, .slice ((bgAt g s x.1).1.map encInt) (.own oV1), .slice [] .nil]))
    (fun x => x.1 ≤ g.flops.length ∧ σ x.2 = none ∧ ¬ x.2 = oV1 ∧ ¬ oV1 = x.2 ∧ ¬ x.2 = oB ∧ ¬ oB = x.2) (fun x => g.flops.length - x.1) (0, oV2) ?_ ?_
   ·(repeat' simp (maxDischargeDepth := 9) -implicitDefEqProofs -dsimp only [go_sem, seval, flO_nil, flN_nil, List.map_nil, *]) <;> (first | omega | skip)
   ·rintro ⟨i, p⟩ ⟨hi, hp, np1, np2, np3, np4⟩
    simp only at hi hp np1 np2 np3 np4 ⊢
    obtain ⟨bl1, bl2⟩ := bg_len g s i
    have bl3 : (bgAt g s i).1.length ≤ 30000 := by omega
    clear bl1
    obtain ⟨⟨L, K⟩, hLK⟩ : ∃ x, bgAt g s i = x := ⟨_, rfl⟩
    have hnext : bgAt g s (i + 1) = match s i with
     | some v => (L ++ [bit v], K)
     | none => (L ++ [2 * (g.ins + (K.length + 1 : Nat))], K ++ [⟨0, (g.flops.getD i ⟨0, false⟩).init⟩]) := by
     show (match s i with | some v => _ | none => _) = _
     rw [hLK]
    rw [hLK] at bl2 bl3 ⊢
    simp only at bl2 bl3 ⊢
    by_cases hlt : i < g.flops.length
    ·have hlt' : (i : Int) < g.flops.length := by omega
     have hg : g.flops.getD i ⟨0, false⟩ = g.flops[i] := by simp [List.getD_eq_getElem?_getD, hlt]
     rw [hg] at hnext
     obtain ⟨f, hf⟩ : ∃ f, g.flops[i] = f := ⟨_, rfl⟩
     rw [hf] at hnext
     rcases hst with ⟨rfl, hst⟩ | ⟨om, d, m, rfl, hom, hm⟩
     ·have hsi := hst i
      have hS : bgAt g s (i + 1) = (L ++ [2 * (g.ins + (K.length + 1 : Nat))], K ++ [⟨0, f.init⟩]) := by rw [hnext, hsi]
      clear hnext hst
      by_cases hK : K = []
      ·subst hK
       rw [flO_nil, flN_nil]
       repeat' (first | simp (maxDischargeDepth := 9) -implicitDefEqProofs -dsimp only [go_sem, seval, Option.getD_none, Option.isSome_none, flat_nil, flat_agg1, List.nil_append, Nat.zero_add, *] | simp (disch := omega) only [wrap64] | ((with_reducible refine Zv ?_ ?_); focus (first | omega | exact rfl)) | ((with_reducible refine Zu ?_ ?_); focus omega) | ((with_reducible refine Zt (fun oF hoF hnF hnF' => ?_)); (try simp only [upd_none, ne_eq, not_and] at hoF)))
       all_goals
        have hoF' := hoF
        obtain ⟨q1, q2, q3, q4, q5⟩ := hoF'
        refine loop_next _ _ _ _ (i + 1, oF) ⟨?_, ?_, ⟨by simp only; omega, q5, q4, fun e => q4 e.symm, q2, fun e => q2 e.symm⟩, by simp only; omega⟩
        ·(repeat' simp (maxDischargeDepth := 9) -implicitDefEqProofs -dsimp only [go_sem, seval, flN_1, flO_1, List.length_nil, List.map_nil, flat_nil, List.nil_append, List.map_append, List.map_cons, *])
        ·(repeat' simp (maxDischargeDepth := 9) -implicitDefEqProofs -dsimp only [go_sem, seval, flN_1, flO_1, List.length_nil, List.map_nil, flat_nil, List.nil_append, List.map_append, List.map_cons, List.length_append, List.length_cons, *])
      ·have hK1 := flN_cons p hK
       have hK2 := flO_cons hK
       rw [hK1, hK2]
       clear hK1 hK2 hK
       repeat' (first | simp (maxDischargeDepth := 9) -implicitDefEqProofs -dsimp only [go_sem, seval, Option.getD_none, Option.isSome_none, flat_agg1, *] | simp (disch := omega) only [wrap64] | ((with_reducible refine Zv ?_ ?_); focus (first | omega | exact rfl)) | ((with_reducible refine Zu ?_ ?_); focus omega) | ((with_reducible refine Zt (fun oF hoF hnF hnF' => ?_)); (try simp only [upd_none, ne_eq, not_and] at hoF)))
       all_goals
        have hi' : i + 1 ≤ g.flops.length ∧ g.flops.length - (i + 1) < g.flops.length - i := by omega
        refine loop_next _ _ _ _ (i + 1, p) ⟨?_, ?_, ⟨hi'.1, hp, np1, np2, np3, np4⟩, hi'.2⟩
        ·(repeat' simp (maxDischargeDepth := 9) -implicitDefEqProofs -dsimp only [go_sem, seval, flN_app, flO_app, List.map_append, List.map_cons, List.map_nil, *])
        ·(repeat' simp (maxDischargeDepth := 9) -implicitDefEqProofs -dsimp only [go_sem, seval, flN_app, flO_app, List.map_append, List.map_cons, List.map_nil, List.length_append, List.length_cons, List.length_nil, *])
     ·have hon : ¬ σ om = none := by rw [hom]; simp
      have hop : ¬ om = p ∧ ¬ p = om := ⟨fun e => hon (e ▸ hp), fun e => hon (e ▸ hp)⟩
      cases hsi : s i with
      | some v =>
       have hS : bgAt g s (i + 1) = (L ++ [bit v], K) := by rw [hnext, hsi]
       have hlk := hm i hlt
       rw [hsi] at hlk
       simp only [Option.map_some] at hlk
       clear hnext hm
       repeat' (first | simp (maxDischargeDepth := 9) -implicitDefEqProofs -dsimp only [go_sem, seval, Option.getD_some, Option.isSome_some, *] | simp (disch := omega) only [wrap64] | ((with_reducible refine Zv ?_ ?_); focus (first | omega | exact rfl)) | ((with_reducible refine Zu ?_ ?_); focus omega) | ((with_reducible refine Zt (fun oF hoF hnF hnF' => ?_)); (try simp only [upd_none, ne_eq, not_and] at hoF)) | ((with_reducible apply id_one0); (focus (intro tS hS; ((with_reducible refine rw_one v _) <;> (first | (simp (maxDischargeDepth := 9) -implicitDefEqProofs -dsimp only [go_sem, seval, *]; done) | omega | ((with_reducible refine Sub.get hS ?_); simp (maxDischargeDepth := 9) -implicitDefEqProofs -dsimp only [go_sem, seval, *]; done))))); (focus (first | trivial | (simp (maxDischargeDepth := 9) -implicitDefEqProofs -dsimp only [go_sem, seval, *]; done)))))
       have hi' : i + 1 ≤ g.flops.length ∧ g.flops.length - (i + 1) < g.flops.length - i := by omega
       refine loop_next _ _ _ _ (i + 1, p) ⟨?_, ?_, ⟨hi'.1, hp, np1, np2, np3, np4⟩, hi'.2⟩
       ·(repeat' simp (maxDischargeDepth := 9) -implicitDefEqProofs -dsimp only [go_sem, seval, List.map_append, List.map_cons, List.map_nil, *])
       ·(repeat' simp (maxDischargeDepth := 9) -implicitDefEqProofs -dsimp only [go_sem, seval, List.map_append, List.map_cons, List.map_nil, List.length_append, List.length_cons, List.length_nil, *])
      | none =>
       have hS : bgAt g s (i + 1) = (L ++ [2 * (g.ins + (K.length + 1 : Nat))], K ++ [⟨0, f.init⟩]) := by rw [hnext, hsi]
       clear hnext
       have hlk := hm i hlt
       rw [hsi] at hlk
       simp only [Option.map_none] at hlk
       clear hm
       by_cases hK : K = []
       ·subst hK
        rw [flO_nil, flN_nil]
        repeat' (first | simp (maxDischargeDepth := 9) -implicitDefEqProofs -dsimp only [go_sem, seval, Option.getD_none, Option.isSome_none, flat_nil, flat_agg1, List.nil_append, Nat.zero_add, *] | simp (disch := omega) only [wrap64] | ((with_reducible refine Zv ?_ ?_); focus (first | omega | exact rfl)) | ((with_reducible refine Zu ?_ ?_); focus omega) | ((with_reducible refine Zt (fun oF hoF hnF hnF' => ?_)); (try simp only [upd_none, ne_eq, not_and] at hoF)))
        all_goals
         have hoF' := hoF
         obtain ⟨q1, q2, q3, q4, q5⟩ := hoF'
         refine loop_next _ _ _ _ (i + 1, oF) ⟨?_, ?_, ⟨by simp only; omega, q5, q4, fun e => q4 e.symm, q2, fun e => q2 e.symm⟩, by simp only; omega⟩
         ·(repeat' simp (maxDischargeDepth := 9) -implicitDefEqProofs -dsimp only [go_sem, seval, flN_1, flO_1, List.length_nil, List.map_nil, flat_nil, List.nil_append, List.map_append, List.map_cons, *])
         ·(repeat' simp (maxDischargeDepth := 9) -implicitDefEqProofs -dsimp only [go_sem, seval, flN_1, flO_1, List.length_nil, List.map_nil, flat_nil, List.nil_append, List.map_append, List.map_cons, List.length_append, List.length_cons, *])
       ·have hK1 := flN_cons p hK
        have hK2 := flO_cons hK
        rw [hK1, hK2]
        clear hK1 hK2 hK
        repeat' (first | simp (maxDischargeDepth := 9) -implicitDefEqProofs -dsimp only [go_sem, seval, Option.getD_none, Option.isSome_none, flat_agg1, *] | simp (disch := omega) only [wrap64] | ((with_reducible refine Zv ?_ ?_); focus (first | omega | exact rfl)) | ((with_reducible refine Zu ?_ ?_); focus omega) | ((with_reducible refine Zt (fun oF hoF hnF hnF' => ?_)); (try simp only [upd_none, ne_eq, not_and] at hoF)))
        all_goals
         have hi' : i + 1 ≤ g.flops.length ∧ g.flops.length - (i + 1) < g.flops.length - i := by omega
         refine loop_next _ _ _ _ (i + 1, p) ⟨?_, ?_, ⟨hi'.1, hp, np1, np2, np3, np4⟩, hi'.2⟩
         ·(repeat' simp (maxDischargeDepth := 9) -implicitDefEqProofs -dsimp only [go_sem, seval, flN_app, flO_app, List.map_append, List.map_cons, List.map_nil, *])
         ·(repeat' simp (maxDischargeDepth := 9) -implicitDefEqProofs -dsimp only [go_sem, seval, flN_app, flO_app, List.map_append, List.map_cons, List.map_nil, List.length_append, List.length_cons, List.length_nil, *])
    ·have e : i = g.flops.length := by omega
     subst e
     have hlt' : ¬ (g.flops.length : Int) < g.flops.length := by omega
     have hbg : (bgn g s).g = ⟨g.ins, K, [], []⟩ ∧ (bgn g s).lits = L ∧ (bgn g s).lev = List.replicate (1 + g.ins + K.length).toNat 0 := by
      unfold bgn; rw [hLK]; exact ⟨rfl, rfl, rfl⟩
     obtain ⟨b1, b2, b3⟩ := hbg
     unfold begS
     rw [b1, b2, b3]
     have hlen : IntKind.i64.wrap (1 + g.ins + K.length) = 1 + g.ins + K.length := wrap64 _ (by omega) (by omega)
     clear hnext hlt hst
     by_cases hK : K = []
     ·subst hK
      rw [flO_nil, flN_nil]
      repeat' (first | simp (maxDischargeDepth := 9) -implicitDefEqProofs -dsimp only [go_sem, seval, List.length_nil, *] | simp (disch := omega) only [wrap64] | ((with_reducible refine Zv ?_ ?_); focus (first | omega | exact rfl)) | ((with_reducible refine Zt (fun oF hoF hnF hnF' => ?_)); (try simp only [upd_none, ne_eq, not_and] at hoF)))
      obtain ⟨q1, q2, q3, q4⟩ := id hoF
      refine fin_new4 oB oV1 oF p ⟨qB2, hoV1, q4, hp, qB1, fun e => qB1 e.symm, fun e => q1 e.symm, q1, np4, np3, fun e => q3 e.symm, q3, np2, np1, q2, fun e => q2 e.symm⟩ ?_
      (repeat' simp (maxDischargeDepth := 9) -implicitDefEqProofs -dsimp only [go_sem, seval, flV, flO_nil, List.map_nil, ilist, List.length_replicate, List.map_replicate, List.length_nil, Int.add_zero, Int.natCast_zero, *])
     ·have hK1 := flN_cons p hK
      have hK2 := flO_cons hK
      rw [hK1, hK2]
      repeat' (first | simp (maxDischargeDepth := 9) -implicitDefEqProofs -dsimp only [go_sem, seval, *] | simp (disch := omega) only [wrap64] | ((with_reducible refine Zv ?_ ?_); focus (first | omega | exact rfl)) | ((with_reducible refine Zt (fun oF hoF hnF hnF' => ?_)); (try simp only [upd_none, ne_eq, not_and] at hoF)))
      obtain ⟨q1, q2, q3, q4⟩ := id hoF
      refine fin_new4 oB oV1 oF p ⟨qB2, hoV1, q4, hp, qB1, fun e => qB1 e.symm, fun e => q1 e.symm, q1, np4, np3, fun e => q3 e.symm, q3, np2, np1, q2, fun e => q2 e.symm⟩ ?_
      have hV : flV p K = .vec p K.length := if_neg hK
      rw [hV]
      (repeat' simp (maxDischargeDepth := 9) -implicitDefEqProofs -dsimp only [go_sem, seval, List.map_nil, ilist, List.length_replicate, List.map_replicate, *])
end Go.Proofs.Ytapnlmhfacoceaa

