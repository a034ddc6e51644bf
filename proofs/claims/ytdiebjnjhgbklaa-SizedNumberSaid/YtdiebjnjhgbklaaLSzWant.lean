/- Plain laws: what is told is sized; numbers. -/
import Derived.Test.YtdiebjnjhgbklaaRows
import Derived.Test.YtdiebjnjhgbklaaLSzLive
set_option linter.unusedSimpArgs false
set_option linter.unusedVariables false
namespace Go.Proofs.Ytdiebjnjhgbklaa
open Abs Fil Fil.Sz
theorem sl_indexS (p : Sg → Bool) (l : List Sg) (hl : l.length ≤ 1000000000000) (σ : Sig) {F : Nat} {caps : List AV} (hF : ∀ x ∈ l, ACalls Try.prog F (encS x :: caps) σ (fun r σ' => r = .ret (.bool (p x)) ∧ σ' = σ)) :
    ACalls Try.prog 91 [.slice (l.map encS) .no, .fn F [] caps] σ (fun r σ' => r = .ret (.int .i64 (idxF p l)) ∧ σ' = σ) :=
  lib_indexFunc (sz := 4) (g := true) mixed Try.func91 b91 n91 rfl q91 (fun _ => rfl) (fun _ => rfl) p l hl hF
theorem sl_containsS (p : Sg → Bool) (l : List Sg) (hl : l.length ≤ 1000000000000) (σ : Sig) {F : Nat} {caps : List AV} (hF : ∀ x ∈ l, ACalls Try.prog F (encS x :: caps) σ (fun r σ' => r = .ret (.bool (p x)) ∧ σ' = σ)) :
    ACalls Try.prog 45 [.slice (l.map encS) .no, .fn F [] caps] σ (fun r σ' => r = .ret (.bool (l.any p)) ∧ σ' = σ) :=
  lib_containsFunc mixed Try.func45 b45 n45 rfl q45 p l (sl_indexS p l hl σ hF)
theorem sl_Clone (l : List Sg) (σ : Sig) (h : l.length ≤ 1000000) :
    ACalls Try.prog 48 [.slice (l.map encS) .no] σ (fun r σ' => r = .ret (.slice (l.map encS) .no) ∧ σ' = σ) := by
  refine calls_x mixed Try.func48 b48 n48 rfl q48 (by simp) ?_; unfold c48 r48
  cases l with
  | nil =>
    repeat' (first | simp (maxDischargeDepth := 9) -implicitDefEqProofs -dsimp only [go_sem, seval, List.map_nil, *] | ((with_reducible refine Zv ?_ ?_); focus (first | omega | exact rfl)) | ((with_reducible refine Zt (fun oF hoF hnF hnF' => ?_)); (try simp only [upd_none, ne_eq, not_and] at hoF)))
    refine ⟨?_, ?_⟩
    · refine fin_eq ?_
      (repeat' (first | simp (maxDischargeDepth := 9) -implicitDefEqProofs -dsimp only [go_sem, seval, List.map_nil, *])) <;> (repeat' refine And.intro ?_ ?_) <;> (first | omega | rfl | assumption | skip)
    · refine fin_eq ?_
      (repeat' (first | simp (maxDischargeDepth := 9) -implicitDefEqProofs -dsimp only [go_sem, seval, List.map_nil, *])) <;> (repeat' refine And.intro ?_ ?_) <;> (first | omega | rfl | assumption | skip)
  | cons x l =>
    have h' : l.length ≤ 999999 := by simp only [List.length_cons] at h; omega
    repeat' (first | simp (maxDischargeDepth := 9) -implicitDefEqProofs -dsimp only [go_sem, seval, List.map_cons, *] | ((with_reducible refine Zv ?_ ?_); focus (first | omega | exact rfl)) | ((with_reducible refine Zt (fun oF hoF hnF hnF' => ?_)); (try simp only [upd_none, ne_eq, not_and] at hoF)))
    all_goals first | (exfalso; simp at hq; done) | skip
    refine fin_eq ?_
    (repeat' (first | simp (maxDischargeDepth := 9) -implicitDefEqProofs -dsimp only [go_sem, seval, List.map_cons, List.nil_append, *])) <;> (repeat' refine And.intro ?_ ?_) <;> (first | omega | rfl | assumption | skip)
theorem sz_Size1 (s : Sg) (σ : Sig) (h : 1 ≤ s.w ∧ s.w ≤ 64) (hw : WfS s) : ACalls Try.prog 46 [encS s] σ (fun r σ' => r = .ret (.bool (!holds s.w s.init)) ∧ σ' = σ) := by
  have hc := fun τ => sz_holds s.w s.init τ (by omega) hw.2.2
  clear hw
  refine calls_x mixed Try.func46 b46 n46 rfl q46 (by simp) ?_; unfold c46 r46
  repeat' (first | simp (maxDischargeDepth := 9) -implicitDefEqProofs -dsimp only [go_sem, seval, *] | ((with_reducible apply ACalls.one1); (focus ((first | with_reducible refine hc _) <;> (first | (simp (maxDischargeDepth := 9) -implicitDefEqProofs -dsimp only [go_sem, seval, *]; done) | omega))); (focus (first | trivial | with_reducible exact rfl | (simp (maxDischargeDepth := 9) -implicitDefEqProofs -dsimp only [go_sem, seval]; done)))))
  refine fin_eq ?_
  (repeat' (first | simp (maxDischargeDepth := 9) -implicitDefEqProofs -dsimp only [go_sem, seval, *])) <;> (repeat' refine And.intro ?_ ?_) <;> (first | omega | rfl | assumption | skip)
theorem sz_Size0 (g : List Sg) (σ : Sig) (hg : g.length ≤ 1000000) (hw : ∀ s ∈ g, WfS s) (hn : fitsD ⟨g, [], []⟩ = true) (hs : shapedD ⟨g, [], []⟩ = true) (hf : fillsD ⟨g, [], []⟩ = true) :
    ACalls Try.prog 21 [encD ⟨g, [], []⟩] σ (fun r σ' => r = .ret (.tup [encD ⟨g, [], []⟩, .int .i64 0]) ∧ σ' = σ) := by
  have hd : Sm ⟨g, [], []⟩ := ⟨by show g.length ≤ _; omega, by simp, by simp, by simp [nodesD]⟩
  have hwd : WfD ⟨g, [], []⟩ := ⟨hw, by simp, by simp⟩
  have c1 := fun τ => sz_fits ⟨g, [], []⟩ τ hd
  have c2 := fun τ => sz_shaped ⟨g, [], []⟩ τ hd hwd
  have hso : SgOk g := sigsOk_ok (by
    unfold shapedD at hs
    simp only [Bool.and_eq_true] at hs
    exact hs.1.1)
  have c3 := fun τ => sl_containsS (fun s => !holds s.w s.init) g (by omega) τ (F := 46) (caps := []) fun x hx => sz_Size1 x τ (hso x hx) (hw x hx)
  have c4 := fun τ => sl_Clone g τ hg
  have hb : (g.any fun s => !holds s.w s.init) = false := by
    unfold fillsD at hf
    rw [all_any] at hf
    simpa using hf
  rw [hn] at c1
  rw [hs] at c2
  rw [hb] at c3
  clear hn hs hf hb hso hd hwd hw
  refine calls_x mixed Try.func21 b21 n21 rfl q21 (by simp) ?_; unfold c21 r21
  repeat' (first | simp (maxDischargeDepth := 9) -implicitDefEqProofs -dsimp only [go_sem, seval, *] | ((with_reducible refine Zt (fun oF hoF hnF hnF' => ?_)); (try simp only [upd_none, ne_eq, not_and] at hoF)) | ((with_reducible apply ACalls.one1); (focus ((first | with_reducible refine c1 _ | with_reducible refine c2 _ | with_reducible refine c3 _ | with_reducible refine c4 _ | with_reducible refine ACalls.flA (c1 _) ?_ | with_reducible refine ACalls.flA (c2 _) ?_ | with_reducible refine ACalls.flA (c3 _) ?_ | with_reducible refine ACalls.flA (c4 _) ?_) <;> (first | (simp (maxDischargeDepth := 9) -implicitDefEqProofs -dsimp only [go_sem, seval, *]; done) | omega))); (focus (first | trivial | with_reducible exact rfl | (simp (maxDischargeDepth := 9) -implicitDefEqProofs -dsimp only [go_sem, seval]; done)))))
  rename_i oA hoA _ _ oB _ _ hoB
  obtain ⟨oC, eo⟩ : ∃ x, x = oF := ⟨oF, rfl⟩
  subst eo
  have ho : ¬ oC = oB ∧ ¬ oC = oA ∧ σ oC = none := hoF
  obtain ⟨q1, q2, q3⟩ := ho
  have p1 : ¬ oB = oC := fun e => q1 e.symm
  have p2 : ¬ oA = oC := fun e => q2 e.symm
  have p3 : ¬ oB = oA := hoB.1
  have p4 : ¬ oA = oB := fun e => p3 e.symm
  clear hoF hnF hnF'
  refine loop_rule (fun _ : Nat => [(39, some (.int .i64 0)), (38, some (.int .i64 0)), (37, some (.slice [] .no)), (4, some (.ptr oB 0)), (5, some (.ptr oC 0)), (1, some (.cptr (dL ⟨g, [], []⟩))), (2, some (.ptr oA 0))])
    (fun _ => upd (upd (upd σ oA (.cells [.slice [] .nil, .slice [] .nil, .slice [] .nil])) oB (.cells [.slice (g.map encS) .no, .int .i64 0])) oC (.cells [.slice (g.map encS) .no, .slice [] .nil, .slice [] .nil])) (fun _ => True) (fun _ => 0) 0 ?_ ?_
  · (repeat' (first | simp (maxDischargeDepth := 9) -implicitDefEqProofs -dsimp only [go_sem, seval, *])) <;> (repeat' refine And.intro ?_ ?_) <;> (first | omega | rfl | assumption | skip)
  · intro i _
    repeat' (first | simp (maxDischargeDepth := 9) -implicitDefEqProofs -dsimp only [go_sem, seval, *] | ((with_reducible refine Zt (fun oF hoF hnF hnF' => ?_)); (try simp only [upd_none, ne_eq, not_and] at hoF)))
    refine loop_rule (fun _ : Nat => [(74, some (.int .i64 0)), (73, some (.int .i64 0)), (72, some (.slice [] .no)), (5, some (.ptr oC 0)), (4, some (.ptr oB 0)), (2, some (.ptr oA 0))])
      (fun _ => upd (upd (upd σ oA (.cells [.slice [] .nil, .slice [] .nil, .slice [] .nil])) oB (.cells [.slice (g.map encS) .no, .int .i64 0])) oC (.cells [.slice (g.map encS) .no, .slice [] .nil, .slice [] .nil])) (fun _ => True) (fun _ => 0) 0 ?_ ?_
    · (repeat' (first | simp (maxDischargeDepth := 9) -implicitDefEqProofs -dsimp only [go_sem, seval, *])) <;> (repeat' refine And.intro ?_ ?_) <;> (first | omega | rfl | assumption | skip)
    · intro i _
      repeat' (first | simp (maxDischargeDepth := 9) -implicitDefEqProofs -dsimp only [go_sem, seval, *] | ((with_reducible refine Zt (fun oF hoF hnF hnF' => ?_)); (try simp only [upd_none, ne_eq, not_and] at hoF)))
      refine fin_eq ?_
      (repeat' (first | simp (maxDischargeDepth := 9) -implicitDefEqProofs -dsimp only [go_sem, seval, *])) <;> (repeat' refine And.intro ?_ ?_) <;> (first | omega | rfl | assumption | skip)
theorem sz_Check0 (g : List Sg) (σ : Sig) (hg : g.length ≤ 1000000) (hw : ∀ s ∈ g, WfS s) (hn : fitsD ⟨g, [], []⟩ = true) (hs : shapedD ⟨g, [], []⟩ = true) (hf : fillsD ⟨g, [], []⟩ = true) :
    ACalls Try.prog 24 [encD ⟨g, [], []⟩] σ (fun r σ' => r = .ret (.int .i64 0) ∧ σ' = σ) := by
  have hd : Sm ⟨g, [], []⟩ := ⟨by show g.length ≤ _; omega, by simp, by simp, by simp [nodesD]⟩
  have c1 := fun τ => sz_Size0 g τ hg hw hn hs hf
  have c2 := fun τ => sz_Same ⟨g, [], []⟩ ⟨g, [], []⟩ τ hd hd
  rw [same_self] at c2
  clear hd hw hn hs hf
  refine calls_x mixed Try.func24 b24 n24 rfl q24 (by simp) ?_; unfold c24 r24
  repeat' (first | simp (maxDischargeDepth := 9) -implicitDefEqProofs -dsimp only [go_sem, seval, *] | ((with_reducible refine Zt (fun oF hoF hnF hnF' => ?_)); (try simp only [upd_none, ne_eq, not_and] at hoF)) | ((with_reducible apply ACalls.one1); (focus ((first | with_reducible refine c1 _ | with_reducible refine c2 _ | with_reducible refine ACalls.flA (c1 _) ?_ | with_reducible refine ACalls.flA (c2 _) ?_) <;> (first | (simp (maxDischargeDepth := 9) -implicitDefEqProofs -dsimp only [go_sem, seval, *]; done) | omega))); (focus (first | trivial | with_reducible exact rfl | (simp (maxDischargeDepth := 9) -implicitDefEqProofs -dsimp only [go_sem, seval]; done)))))
  refine fin_eq ?_
  (repeat' (first | simp (maxDischargeDepth := 9) -implicitDefEqProofs -dsimp only [go_sem, seval, *])) <;> (repeat' refine And.intro ?_ ?_) <;> (first | omega | rfl | assumption | skip)
theorem encE_bin (op : Int) (a b : E) : encE (binE op a b) = .agg [.int .i64 5, .int .i64 0, .int .u64 0, .int .i64 0, .int .i64 0, .int .i64 0, .int .i64 op, .slice [encE a, encE b] .no] := by
  unfold encE eL; rw [encEs_eq]; rfl
theorem encE_sig (hi lo : Int) : encE (sigE hi lo) = .agg [.int .i64 2, .int .i64 0, .int .u64 0, .int .i64 0, .int .i64 hi, .int .i64 lo, .int .i64 0, .slice [] .no] := by
  unfold encE eL; rw [encEs_eq]; rfl
theorem encE_numE (v : Int) : encE (numE v) = .agg [.int .i64 1, .int .i64 0, .int .u64 v, .int .i64 0, .int .i64 0, .int .i64 0, .int .i64 0, .slice [] .no] := by
  unfold encE eL; rw [encEs_eq]; rfl
theorem encD_one : encD oneD = .agg [.slice [.agg [.str ⟨#[97]⟩, .int .i64 8, .int .i64 1, .int .u64 0]] .no, .slice [] .no, .slice [] .no] := rfl
theorem lw_one (σ : Sig) : ACalls Try.prog 28 [] σ (fun r σ' => r = .ret (encD oneD) ∧ σ' = σ) := by
  rw [encD_one]
  refine calls_x mixed Try.func28 b28 n28 rfl q28 (by simp) ?_; unfold c28 r28
  repeat' (first | simp (maxDischargeDepth := 9) -implicitDefEqProofs -dsimp only [go_sem, seval, *] | ((with_reducible refine Zt (fun oF hoF hnF hnF' => ?_)); (try simp only [upd_none, ne_eq, not_and] at hoF)))
  refine fin_eq ?_
  (repeat' (first | simp (maxDischargeDepth := 9) -implicitDefEqProofs -dsimp only [go_sem, seval, *])) <;> (repeat' refine And.intro ?_ ?_) <;> (first | omega | rfl | assumption | skip)
theorem lw_num (v : Int) (σ : Sig) : ACalls Try.prog 29 [.int .u64 v] σ (fun r σ' => r = .ret (encE (numE v)) ∧ σ' = σ) := by
  rw [encE_numE]
  refine calls_x mixed Try.func29 b29 n29 rfl q29 (by simp) ?_; unfold c29 r29
  repeat' (first | simp (maxDischargeDepth := 9) -implicitDefEqProofs -dsimp only [go_sem, seval, *] | ((with_reducible refine Zt (fun oF hoF hnF hnF' => ?_)); (try simp only [upd_none, ne_eq, not_and] at hoF)))
  refine fin_eq ?_
  (repeat' (first | simp (maxDischargeDepth := 9) -implicitDefEqProofs -dsimp only [go_sem, seval, *])) <;> (repeat' refine And.intro ?_ ?_) <;> (first | omega | rfl | assumption | skip)
theorem lw_sig (hi lo : Int) (σ : Sig) : ACalls Try.prog 32 [.int .i64 hi, .int .i64 lo] σ (fun r σ' => r = .ret (encE (sigE hi lo)) ∧ σ' = σ) := by
  rw [encE_sig]
  refine calls_x mixed Try.func32 b32 n32 rfl q32 (by simp) ?_; unfold c32 r32
  repeat' (first | simp (maxDischargeDepth := 9) -implicitDefEqProofs -dsimp only [go_sem, seval, *] | ((with_reducible refine Zt (fun oF hoF hnF hnF' => ?_)); (try simp only [upd_none, ne_eq, not_and] at hoF)))
  refine fin_eq ?_
  (repeat' (first | simp (maxDischargeDepth := 9) -implicitDefEqProofs -dsimp only [go_sem, seval, *])) <;> (repeat' refine And.intro ?_ ?_) <;> (first | omega | rfl | assumption | skip)
theorem lw_bin (op : Int) (a b : E) (σ : Sig) : ACalls Try.prog 31 [.int .i64 op, encE a, encE b] σ (fun r σ' => r = .ret (encE (binE op a b)) ∧ σ' = σ) := by
  rw [encE_bin]
  refine calls_x mixed Try.func31 b31 n31 rfl q31 (by simp) ?_; unfold c31 r31
  repeat' (first | simp (maxDischargeDepth := 9) -implicitDefEqProofs -dsimp only [go_sem, seval, *] | ((with_reducible refine Zt (fun oF hoF hnF hnF' => ?_)); (try simp only [upd_none, ne_eq, not_and] at hoF)))
  refine fin_eq ?_
  (repeat' (first | simp (maxDischargeDepth := 9) -implicitDefEqProofs -dsimp only [go_sem, seval, *])) <;> (repeat' refine And.intro ?_ ?_) <;> (first | omega | rfl | assumption | skip)
def fewE (e : E) : Bool := decide (nodes e ≤ 1000) && decide (deep e ≤ 100)
theorem lw_few (e : E) (σ : Sig) (he : nodes e ≤ 16777216) : ACalls Try.prog 14 [encE e] σ (fun r σ' => r = .ret (.bool (fewE e)) ∧ σ' = σ) := by
  have c1 := fun τ => rf_Nodes e τ he
  have c2 := fun τ => rf_Deep e τ he
  have hv : fewE e = (decide ((nodes e : Int) ≤ 1000) && decide ((deep e : Int) ≤ 100)) := by
    unfold fewE; congr 1 <;> (rw [Bool.eq_iff_iff, decide_eq_true_eq, decide_eq_true_eq]; omega)
  clear he
  refine calls_x mixed Try.func14 b14 n14 rfl q14 (by simp) ?_; unfold c14 r14
  obtain ⟨p, hp⟩ : ∃ p, decide ((nodes e : Int) ≤ 1000) = p := ⟨_, rfl⟩
  rw [hp] at hv
  cases p
  all_goals
    repeat' (first | simp (maxDischargeDepth := 9) -implicitDefEqProofs -dsimp only [go_sem, seval, *] | ((with_reducible apply ACalls.one1); (focus ((first | with_reducible refine c1 _ | with_reducible refine c2 _) <;> (first | (simp (maxDischargeDepth := 9) -implicitDefEqProofs -dsimp only [go_sem, seval, *]; done) | omega))); (focus (first | trivial | with_reducible exact rfl | (simp (maxDischargeDepth := 9) -implicitDefEqProofs -dsimp only [go_sem, seval]; done)))))
    refine fin_eq ?_
    (repeat' (first | simp (maxDischargeDepth := 9) -implicitDefEqProofs -dsimp only [go_sem, seval, *])) <;> (repeat' refine And.intro ?_ ?_) <;> (first | omega | rfl | assumption | skip)
end Go.Proofs.Ytdiebjnjhgbklaa

namespace Go.Proofs.Ytdiebjnjhgbklaa
open Abs Fil Fil.Sz
theorem one_sm : Sm oneD := ⟨by simp [oneD, oneG], by simp [oneD], by simp [oneD], by simp [oneD, nodesD]⟩
def liveP : E := .mk 2 8 0 0 7 0 0 []
def liveQ : E := .mk 1 8 1 0 0 0 0 []
theorem wfE_do {e : E} (h : (I64 e.op ∧ I64 e.w ∧ U64 e.v ∧ I64 e.sig ∧ I64 e.hi ∧ I64 e.lo ∧ I64 e.n) ∧ ∀ x ∈ e.l, WfE x) : WfE e := (WfE_iff e).2 h
theorem i0 : I64 0 := by unfold I64; omega
theorem i1 : I64 1 := by unfold I64; omega
theorem i2 : I64 2 := by unfold I64; omega
theorem i5 : I64 5 := by unfold I64; omega
theorem u0 : U64 0 := by unfold U64; omega
theorem wf_sig (hi lo : Int) (h : I64 hi ∧ I64 lo) : WfE (sigE hi lo) := wfE_do ⟨⟨i2, i0, u0, i0, h.1, h.2, i0⟩, fun x hx => by cases hx⟩
theorem wf_num (v : Int) (h : U64 v) : WfE (numE v) := wfE_do ⟨⟨i1, i0, h, i0, i0, i0, i0⟩, fun x hx => by cases hx⟩
theorem wf_bin (op : Int) {a b : E} (h : I64 op) (ha : WfE a) (hb : WfE b) : WfE (binE op a b) := wfE_do ⟨⟨i5, i0, u0, i0, i0, i0, h⟩, fun x hx => by
  rcases List.mem_cons.1 hx with rfl | hx
  · exact ha
  rcases List.mem_cons.1 hx with rfl | hx
  · exact hb
  · cases hx⟩
theorem nodes_sig (hi lo : Int) : nodes (sigE hi lo) = 1 := by rw [nodes_eq]; rfl
theorem nodes_num (v : Int) : nodes (numE v) = 1 := by rw [nodes_eq]; rfl
theorem nodes_bin (op : Int) (a b : E) : nodes (binE op a b) = 1 + nodes a + nodes b := by
  rw [nodes_eq]
  show 1 + (nodes a + (nodes b + 0)) = _
  omega
set_option maxRecDepth 20000 in
set_option maxHeartbeats 2000000 in
theorem lw_live (σ : Sig) : ACalls Try.prog 13 [] σ (fun r σ' => r = .ret (.bool true) ∧ σ' = σ) := by
  have hd : oneD.sigs.length ≤ 1000000000000 := by simp [oneD, oneG]
  have hs := fun h l (q : I64 h ∧ I64 l) => wf_sig h l q
  have c1 := fun τ => lw_one τ
  have c2 := fun τ => lw_sig 7 0 τ
  have c2' := fun τ => lw_sig 2 0 τ
  have c3 := fun τ => lw_num 1 τ
  have c4 := fun τ => lw_num 300 τ
  have c5 := fun τ => lw_bin 14 (sigE 7 0) (numE 1) τ
  have c6 := fun τ => lw_bin 19 (sigE 7 0) (numE 300) τ
  have c7 := fun τ => lw_bin 14 (sigE 2 0) (sigE 7 0) τ
  have w1 := wf_sig 7 0 (by unfold I64; omega)
  have w2 := wf_sig 2 0 (by unfold I64; omega)
  have w3 := wf_num 1 (by unfold U64; omega)
  have w4 := wf_num 300 (by unfold U64; omega)
  have k1 := fun τ => sz_Expr oneD (binE 14 (sigE 7 0) (numE 1)) 0 τ hd (by rw [nodes_bin, nodes_sig, nodes_num]; omega) (wf_bin 14 (by unfold I64; omega) w1 w3)
  have k2 := fun τ => sz_Expr oneD (binE 19 (sigE 7 0) (numE 300)) 0 τ hd (by rw [nodes_bin, nodes_sig, nodes_num]; omega) (wf_bin 19 (by unfold I64; omega) w1 w4)
  have k3 := fun τ => sz_Expr oneD (binE 14 (sigE 2 0) (sigE 7 0)) 0 τ hd (by rw [nodes_bin, nodes_sig, nodes_sig]; omega) (wf_bin 14 (by unfold I64; omega) w2 w1)
  have w5 : WfE liveX := wfE_do ⟨by simp [I64, U64, liveX, liveP, liveQ, E.op, E.w, E.v, E.sig, E.hi, E.lo, E.n], fun x hx => by
    have hx : x ∈ [liveP, liveQ] := hx
    rcases List.mem_cons.1 hx with rfl | hx
    · exact wfE_do ⟨by simp [I64, U64, liveX, liveP, liveQ, E.op, E.w, E.v, E.sig, E.hi, E.lo, E.n], fun x hx => by cases hx⟩
    rcases List.mem_cons.1 hx with rfl | hx
    · exact wfE_do ⟨by simp [I64, U64, liveX, liveP, liveQ, E.op, E.w, E.v, E.sig, E.hi, E.lo, E.n], fun x hx => by cases hx⟩
    · cases hx⟩
  have n5 : nodes liveX ≤ 16777216 := by simp [liveX, nodes_eq, E.l]
  have k4 := fun τ => sz_CheckE oneD liveX τ hd n5 w5
  have k5 := fun τ => sz_CheckE oneD (numE 1) τ hd (by rw [nodes_num]; omega) w3
  have k6 := fun τ => sz_SameE liveX liveX τ n5 n5
  have k7 := fun τ => sz_SameE liveX (numE 1) τ n5 (by rw [nodes_num]; omega)
  have k8 := fun τ => sz_Size0 oneG τ (by simp [oneG]) one_wf one_fits one_shaped one_fills
  have k9 := fun τ => sz_Check0 oneG τ (by simp [oneG]) one_wf one_fits one_shaped one_fills
  have k10 := fun τ => sz_Same oneD oneD τ one_sm one_sm
  rw [live_a] at k1
  rw [live_b] at k2
  rw [live_c] at k3
  rw [live_d] at k4
  rw [live_e] at k5
  rw [same_self] at k6 k10
  rw [live_f] at k7
  rw [show (⟨oneG, [], []⟩ : Flat) = oneD from rfl] at k8 k9
  have hx : encE liveX = .agg [.int .i64 5, .int .i64 8, .int .u64 0, .int .i64 0, .int .i64 0, .int .i64 0, .int .i64 14, .slice [encE liveP, encE liveQ] .no] := by
    unfold encE eL; rw [encEs_eq]; rfl
  rw [hx] at k1 k4 k6 k7
  rw [encE_zero] at k2 k3
  have hq : liveQ.w = 8 := rfl
  have hlen : (oneD.sigs.length : Int) = 1 := rfl
  clear hx hd hs w1 w2 w3 w4 w5 n5
  refine calls_x mixed Try.func13 b13 n13 rfl q13 (by simp) ?_; unfold c13 r13
  repeat' (first | simp (maxDischargeDepth := 9) -implicitDefEqProofs -dsimp only [go_sem, seval, *] | ((with_reducible refine Zt (fun oF hoF hnF hnF' => ?_)); (try simp only [upd_none, ne_eq, not_and] at hoF)) | ((with_reducible apply ACalls.one1); (focus ((first | with_reducible refine c1 _ | with_reducible refine c2 _ | with_reducible refine c2' _ | with_reducible refine c3 _ | with_reducible refine c4 _ | with_reducible refine c5 _ | with_reducible refine c6 _ | with_reducible refine c7 _ | with_reducible refine k1 _ | with_reducible refine k2 _ | with_reducible refine k3 _ | with_reducible refine k4 _ | with_reducible refine k5 _ | with_reducible refine k6 _ | with_reducible refine k7 _ | with_reducible refine k8 _ | with_reducible refine k9 _ | with_reducible refine k10 _) <;> (first | (simp (maxDischargeDepth := 9) -implicitDefEqProofs -dsimp only [go_sem, seval, *]; done) | omega))); (focus (first | trivial | with_reducible exact rfl | (simp (maxDischargeDepth := 9) -implicitDefEqProofs -dsimp only [go_sem, seval]; done)))) | ((with_reducible apply id_one0); (focus (intro tS hS; ((first | with_reducible refine c1 _ | with_reducible refine c2 _ | with_reducible refine c2' _ | with_reducible refine c3 _ | with_reducible refine c4 _ | with_reducible refine c5 _ | with_reducible refine c6 _ | with_reducible refine c7 _ | with_reducible refine k1 _ | with_reducible refine k2 _ | with_reducible refine k3 _ | with_reducible refine k4 _ | with_reducible refine k5 _ | with_reducible refine k6 _ | with_reducible refine k7 _ | with_reducible refine k8 _ | with_reducible refine k9 _ | with_reducible refine k10 _) <;> (first | (simp (maxDischargeDepth := 9) -implicitDefEqProofs -dsimp only [go_sem, seval, *]; done) | omega | ((with_reducible refine Sub.get hS ?_); simp (maxDischargeDepth := 9) -implicitDefEqProofs -dsimp only [go_sem, seval, *]; done))))); (focus (first | trivial | (simp (maxDischargeDepth := 9) -implicitDefEqProofs -dsimp only [go_sem, seval, *]; done)))))
  refine fin_eq ?_
  (repeat' (first | simp (maxDischargeDepth := 9) -implicitDefEqProofs -dsimp only [go_sem, seval, *])) <;> (repeat' refine And.intro ?_ ?_) <;> (first | omega | rfl | assumption | skip)
end Go.Proofs.Ytdiebjnjhgbklaa

namespace Abs
open Go
inductive Sh where
  | bool
  | int (k : IntKind)
  | str
  | slice (agg : Bool) (e : Sh)
  | row (l : List Sh)
def shAll (f : TypeId → Option Sh) : List TypeId → Option (List Sh)
  | [] => some []
  | t :: ts => match f t, shAll f ts with
    | some s, some l => some (s :: l)
    | _, _ => none
def shOf (P : Program) : Nat → TypeId → Option Sh
  | 0, _ => none
  | g + 1, t =>
    match P.underlying t with
    | some .bool => some .bool
    | some (.int k) => some (.int k)
    | some .string => some .str
    | some (.slice e) => (shOf P g e).map (.slice (isAgg P e))
    | some (.struct fs) => (shAll (shOf P g) (fs.toList.map (·.type))).map .row
    | some (.array n e) => (shAll (shOf P g) (List.replicate n e)).map .row
    | _ => none
mutual
def ShC : Sh → List AV → Prop
  | .bool, cs => ∃ b, cs = [.bool b]
  | .int k, cs => ∃ n, cs = [.int k n] ∧ k.min ≤ n ∧ n ≤ k.max
  | .str, cs => ∃ s : ByteArray, cs = [.str s] ∧ s.size ≤ maxLen
  | .slice b e, cs => ∃ l, cs = [.slice l .no] ∧ l.length ≤ maxLen ∧ ∀ x ∈ l, ∃ es, mkv b es = some x ∧ ShC e es
  | .row l, cs => ShL l cs
def ShL : List Sh → List AV → Prop
  | [], cs => cs = []
  | s :: l, cs => ∃ p q, cs = p ++ q ∧ ShC s p ∧ ShL l q
end
theorem cells_sh {P : Program} : ∀ (g : Nat) (t : TypeId) (s : Sh) (cs : List AV), shOf P g t = some s → Cells P g t cs → ShC s cs
  | 0, _, _, _, h, _ => by simp [shOf] at h
  | g + 1, t, s, cs, h, hc => by
    have all : ∀ (ts : List TypeId) (l : List Sh) (cs : List AV), shAll (shOf P g) ts = some l → CellsL (Cells P g) ts cs → ShL l cs := by
      intro ts
      induction ts with
      | nil => intro l cs h hc; simp [shAll] at h; subst h; simpa [ShL, CellsL] using hc
      | cons t ts ih =>
        intro l cs h hc
        simp only [shAll] at h
        split at h <;> simp at h
        rename_i s' l' h1 h2
        subst h
        obtain ⟨p, q, e, c1, c2⟩ := hc
        exact ⟨p, q, e, cells_sh g t s' p h1 c1, ih l' q h2 c2⟩
    simp only [shOf] at h
    simp only [Cells] at hc
    split at h
    · rename_i hu; rw [hu] at hc; simp at h; subst h; exact hc
    · rename_i k hu; rw [hu] at hc; simp at h; subst h; exact hc
    · rename_i hu; rw [hu] at hc; simp at h; subst h; exact hc
    · rename_i e hu
      rw [hu] at hc
      simp only [Option.map_eq_some_iff] at h
      obtain ⟨s', h1, rfl⟩ := h
      obtain ⟨l, e1, e2, e3⟩ := hc
      refine ⟨l, e1, e2, fun x hx => ?_⟩
      obtain ⟨es, k1, k2⟩ := e3 x hx
      exact ⟨es, k1, cells_sh g e s' es h1 k2⟩
    · rename_i fs hu
      rw [hu] at hc
      simp only [Option.map_eq_some_iff] at h
      obtain ⟨l, h1, rfl⟩ := h
      exact all _ l cs h1 hc
    · rename_i n e hu
      rw [hu] at hc
      simp only [Option.map_eq_some_iff] at h
      obtain ⟨l, h1, rfl⟩ := h
      exact all _ l cs h1 hc
    · simp at h
def ShV (b : Bool) (s : Sh) (a : AV) : Prop := ∃ es, mkv b es = some a ∧ ShC s es
def ShVs : List (Bool × Sh) → List AV → Prop
  | [], as_ => as_ = []
  | p :: l, as_ => ∃ a r, as_ = a :: r ∧ ShV p.1 p.2 a ∧ ShVs l r
def argSh (P : Program) (g : Nat) : List TypeId → Option (List (Bool × Sh))
  | [] => some []
  | t :: ts => match shOf P g t, argSh P g ts with
    | some s, some l => some ((isAgg P t, s) :: l)
    | _, _ => none
theorem args_sh {P : Program} {g : Nat} : ∀ {ts : List TypeId} {l : List (Bool × Sh)} {as_ : List AV}, argSh P g ts = some l → ArgsAre P g ts as_ → ShVs l as_
  | [], l, [], h, _ => by simp [argSh] at h; subst h; rfl
  | [], _, _ :: _, _, ha => ha.elim
  | t :: ts, _, [], _, ha => ha.elim
  | t :: ts, l, a :: as_, h, ha => by
    simp only [argSh] at h
    split at h <;> simp at h
    rename_i s l' h1 h2
    subst h
    obtain ⟨⟨es, k1, k2⟩, k3⟩ := ha
    exact ⟨a, as_, rfl, ⟨es, k1, cells_sh g t s es h1 k2⟩, args_sh h2 k3⟩
theorem shv_int {k : IntKind} {a : AV} (h : ShV false (.int k) a) : ∃ n, a = .int k n ∧ k.min ≤ n ∧ n ≤ k.max := by
  obtain ⟨es, h1, n, rfl, h2⟩ := h
  simp [mkv] at h1
  exact ⟨n, h1.symm, h2⟩
end Abs

namespace Abs
open Go
mutual
def szA : AV → Nat
  | .str s => s.size + 1
  | .slice l _ => szAs l + 1
  | .agg l => szAs l + 1
  | _ => 1
def szAs : List AV → Nat
  | [] => 0
  | a :: l => szA a + szAs l
end
theorem szAs_append : ∀ (l m : List AV), szAs (l ++ m) = szAs l + szAs m
  | [], m => by simp [szAs]
  | a :: l, m => by simp only [List.cons_append, szAs, szAs_append l m]; omega
theorem szAs_le {b : Nat → Nat} : ∀ (l : List AV) (k : Nat), (∀ i, (h : i < l.length) → szA l[i] ≤ b (k + i)) → szAs l ≤ ((List.range' k l.length).map b).sum
  | [], _, _ => by simp [szAs]
  | a :: l, k, h => by
    have h0 := h 0 (by simp)
    have ih := szAs_le (b := b) l (k + 1) fun i hi => by
      have := h (i + 1) (by simpa using hi)
      simp only [List.getElem_cons_succ] at this
      rw [show k + 1 + i = k + (i + 1) by omega]; exact this
    simp only [List.getElem_cons_zero, Nat.add_zero] at h0
    simp only [szAs, List.length_cons, List.range'_succ, List.map_cons, List.sum_cons]
    omega
structure Bulk (H : Type) where
  B : DataW H → Nat
  BA : List (DataW H) → Nat
  lit : ∀ l, 1 ≤ B (.lit l)
  str : ∀ s, s.length + 1 ≤ B (.lit (.string s))
  nil : 1 ≤ B .nil
  slice : ∀ l r, BA l + 1 ≤ B (.slice l r)
  agg : ∀ l, BA l + 1 ≤ B (.agg l)
  bnil : BA [] = 0
  bcons : ∀ d l, BA (d :: l) = B d + BA l
def bOf {H : Type} (b : Bulk H) : Option (DataW H × List MemPlace) → Nat
  | some y => b.B y.1
  | none => 0
theorem bulk_mapM {H : Type} (b : Bulk H) {α : Type} {f : α → Option (DataW H × List MemPlace)} : ∀ {l : List α} {ys}, l.mapM f = some ys → b.BA (ys.map (·.1)) = (l.map fun a => bOf b (f a)).sum
  | [], ys, h => by simp at h; subst h; simpa using b.bnil
  | x :: l, ys, h => by
    simp only [List.mapM_cons, Option.bind_eq_bind, Option.bind_eq_some_iff, Option.pure_def, Option.some.injEq] at h
    obtain ⟨y, h1, zs, h2, rfl⟩ := h
    simp only [List.map_cons, b.bcons, List.sum_cons, bulk_mapM b h2, h1, bOf]
def agN (P : Program) (t : TypeId) : Nat := if isAgg P t then 1 else 0
def plainS (P : Program) (S : List TypeId) (t : TypeId) : Bool :=
  match P.underlying t with
  | some .bool => P.cellsOf t == 1
  | some (.int _) => P.cellsOf t == 1
  | some .string => P.cellsOf t == 1
  | some (.slice e) => P.cellsOf t == 1 && S.contains e && decide (0 < P.cellsOf e)
  | some (.struct fs) => fs.toList.all (fun f => S.contains f.type) && laid P fs.toList 0 (P.cellsOf t)
  | some (.array n e) => S.contains e && n * P.cellsOf e == P.cellsOf t
  | _ => false
def plainAll (P : Program) (S : List TypeId) : Bool := S.all (plainS P S)
theorem plainAll_mem {P : Program} {S : List TypeId} {t : TypeId} (h : plainAll P S = true) (ht : t ∈ S) : plainS P S t = true := List.all_eq_true.1 h t ht
theorem plain_one_r {P : Program} {S : List TypeId} {t : TypeId} (h : plainS P S t = true) (ha : isAgg P t = false) : P.cellsOf t = 1 := by
  unfold plainS at h
  unfold isAgg at ha
  split at h <;> simp_all
def OpenedZ (P : Program) (W : World) (g : Nat) (t : TypeId) (n : Nat) (cs : List Value) : Prop :=
  ∃ as_, RelL (ghOf W) as_ cs ∧ Cells P g t as_ ∧ as_.all oneA = true ∧ as_.length = P.cellsOf t ∧ szAs as_ + agN P t ≤ n
theorem openedZ_fields {P : Program} {W : World} {g n : Nat} {cs : List Value} (hn : cs.length = n) {b : Field → Nat} : ∀ (fs : List Field) (off : Nat), laid P fs off n = true → off ≤ n →
    (∀ f ∈ fs, OpenedZ P W g f.type (b f) ((cs.drop f.offset).take (P.cellsOf f.type))) → ∃ as_, RelL (ghOf W) as_ (cs.drop off) ∧ CellsL (Cells P g) (fs.map (·.type)) as_ ∧ as_.all oneA = true ∧ szAs as_ ≤ (fs.map b).sum
  | [], off, hl, ho, _ => by
    simp [laid] at hl; subst hl
    refine ⟨[], ?_, rfl, rfl, by simp [szAs]⟩
    rw [List.drop_eq_nil_of_le (by omega)]
    exact .nil
  | f :: fs, off, hl, ho, h => by
    simp only [laid, Bool.and_eq_true, beq_iff_eq] at hl
    obtain ⟨rfl, hl⟩ := hl
    obtain ⟨as_, h1, h2, h3, h4, h5⟩ := h f (by simp)
    have hle : f.offset + P.cellsOf f.type ≤ n := by
      have := h1.1
      rw [h4] at this
      simp at this
      omega
    obtain ⟨bs, k1, k2, k3, k4⟩ := openedZ_fields hn fs _ hl hle fun f' hf' => h f' (by simp [hf'])
    refine ⟨as_ ++ bs, ?_, ⟨as_, bs, rfl, h2, k2⟩, by simp [List.all_append, h3, k3], by rw [szAs_append, List.map_cons, List.sum_cons]; omega⟩
    have e : cs.drop f.offset = (cs.drop f.offset).take (P.cellsOf f.type) ++ cs.drop (f.offset + P.cellsOf f.type) := by
      rw [← List.drop_drop, List.take_append_drop]
    rw [e]
    exact h1.append k1
theorem openedZ_array {P : Program} {W : World} {g : Nat} {e : TypeId} {cs : List Value} {b : Nat → Nat} : ∀ (m k : Nat), cs.length = (k + m) * P.cellsOf e →
    (∀ i, k ≤ i → i < k + m → OpenedZ P W g e (b i) ((cs.drop (i * P.cellsOf e)).take (P.cellsOf e))) → ∃ as_, RelL (ghOf W) as_ (cs.drop (k * P.cellsOf e)) ∧ CellsL (Cells P g) (List.replicate m e) as_ ∧ as_.all oneA = true ∧ szAs as_ ≤ ((List.range' k m).map b).sum
  | 0, k, hl, _ => by
    refine ⟨[], ?_, rfl, rfl, by simp [szAs]⟩
    rw [List.drop_eq_nil_of_le (by simp at hl; omega)]
    exact .nil
  | m + 1, k, hl, h => by
    obtain ⟨as_, h1, h2, h3, h4, h5⟩ := h k (by omega) (by omega)
    obtain ⟨bs, k1, k2, k3, k4⟩ := openedZ_array (P := P) (W := W) (g := g) (e := e) (cs := cs) (b := b) m (k + 1) (by rw [hl]; congr 1; omega) fun i h1 h2 => h i (by omega) (by omega)
    refine ⟨as_ ++ bs, ?_, by rw [List.replicate_succ]; exact ⟨as_, bs, rfl, h2, k2⟩, by simp [List.all_append, h3, k3], by rw [szAs_append, List.range'_succ, List.map_cons, List.sum_cons]; omega⟩
    have e' : cs.drop (k * P.cellsOf e) = (cs.drop (k * P.cellsOf e)).take (P.cellsOf e) ++ cs.drop ((k + 1) * P.cellsOf e) := by
      rw [Nat.succ_mul, ← List.drop_drop, List.take_append_drop]
    rw [e']
    exact h1.append k1
theorem openedZ_slice {P : Program} {W : World} {g : Nat} {b : Nat → Nat} {t e : TypeId} {a : Addr} {len cap : Nat} (ht : P.underlying t = some (.slice e)) (h1 : P.cellsOf t = 1) (hpe : isAgg P e = false → P.cellsOf e = 1) (hpos : 0 < P.cellsOf e) (hlc : len ≤ cap) (hcm : cap ≤ maxLen)
    (hel : ∀ i, i < len → ∃ es, W.cells? 0 (a.add (i * P.cellsOf e)) (P.cellsOf e) = some es ∧ OpenedZ P W g e (b i) es) : OpenedZ P W (g + 1) t (((List.range len).map b).sum + 1) [.slice (some a) len cap] := by
  have hag : agN P t = 0 := by simp [agN, isAgg, ht]
  rcases Nat.eq_zero_or_pos len with hz | hz
  · subst hz
    refine ⟨[.slice [] .no], .cons (.sl0 (some a) cap .no (.inl rfl)) .nil, ?_, rfl, by rw [h1]; rfl, by simp [szAs, szA, hag]⟩
    simp only [Cells, ht]
    exact ⟨[], rfl, by simp, by simp⟩
  let p : Nat → AV → Prop := fun i x => ∃ es as_, W.cells? 0 (a.add (i * P.cellsOf e)) (P.cellsOf e) = some es ∧ RelL (ghOf W) as_ es ∧ Cells P g e as_ ∧ as_.all oneA = true ∧ mkv (isAgg P e) as_ = some x ∧ cellsA x = as_ ∧ as_.length = P.cellsOf e ∧ szA x ≤ b i
  have hp : ∀ i, i < len → ∃ x, p i x := by
    intro i hi
    obtain ⟨es, q1, as_, q2, q3, q4, q5, q6⟩ := hel i hi
    have hmk : ∃ x, mkv (isAgg P e) as_ = some x := by
      unfold mkv
      split
      · exact ⟨_, rfl⟩
      · match as_, q5 with
        | [], q5 => simp at q5; omega
        | v :: r, _ => exact ⟨v, rfl⟩
    obtain ⟨x, hx⟩ := hmk
    refine ⟨x, es, as_, q1, q2, q3, q4, hx, mkv_cells hx q4 (fun hg => by rw [q5]; exact hpe hg), q5, ?_⟩
    unfold mkv at hx
    unfold agN at q6
    split at hx
    · rename_i hg
      rw [if_pos hg] at q6
      simp at hx; subst hx; simp only [szA]; exact q6
    · rename_i hg
      have hl := q5.trans (hpe (by simpa using hg))
      match as_, hl with
      | [v], _ => simp at hx; subst hx; simp only [szAs] at q6; omega
  obtain ⟨l, hl, hg⟩ := build_list len hp
  have hsz : ∀ x ∈ l, (cellsA x).length = P.cellsOf e := by
    intro x hx
    obtain ⟨i, hi⟩ := List.getElem?_of_mem hx
    obtain ⟨es, as_, _, _, _, _, _, q, q', _⟩ := hg i x hi
    rw [q, q']
  -- the address
  have ha : a.spot = none := by
    obtain ⟨es, q1, _⟩ := hel 0 hz
    unfold World.cells? at q1
    rw [if_pos (Nat.zero_le _)] at q1
    obtain ⟨v, hv⟩ := mapM_mem q1 0 (by simpa using hpos)
    have := (cell_addr hv).1
    simp [Addr.add] at this
    exact this
  -- one cell of it
  have hcell : ∀ i, (hi : i < (flat l).length) → ∃ v, W.cell? ⟨a.block, a.off + i, none⟩ = some v ∧ Rel (ghOf W) (flat l)[i] v ∧ v.oneCell' = true := by
    intro i hi
    have hfl := flat_length hsz
    have hq : i / P.cellsOf e < l.length := by
      rw [Nat.div_lt_iff_lt_mul hpos]; rw [← hfl]; exact hi
    have hr : i % P.cellsOf e < P.cellsOf e := Nat.mod_lt _ hpos
    have hx : l[i / P.cellsOf e]? = some l[i / P.cellsOf e] := List.getElem?_eq_getElem hq
    obtain ⟨es, as_, q1, q2, _, q4, _, q6, q7, _⟩ := hg _ _ hx
    have hat := flat_at hsz hx
    unfold World.cells? at q1
    rw [if_pos (Nat.zero_le _)] at q1
    obtain ⟨m1, m2⟩ := mapM_get q1
    have hes : es.length = P.cellsOf e := by simpa using m1
    have hv := m2 (i % P.cellsOf e) (i % P.cellsOf e) (es[i % P.cellsOf e]'(by omega)) (by simp [hr]) (List.getElem?_eq_getElem (by omega))
    rw [add_spot ha, add_spot (a := ⟨a.block, _, none⟩) rfl] at hv
    simp only [Nat.add_assoc] at hv
    have hdm : i / P.cellsOf e * P.cellsOf e + i % P.cellsOf e = i := Nat.div_add_mod' i _
    rw [hdm] at hv
    refine ⟨_, hv, ?_, ?_⟩
    · have hrel := q2.2 (i % P.cellsOf e) (by omega) (by omega)
      have : (flat l)[i]? = some (as_[i % P.cellsOf e]'(by omega)) := by
        have h5 := congrArg (fun z => z[i % P.cellsOf e]?) hat
        simp only [q6] at h5
        rw [List.getElem?_take_of_lt hr, List.getElem?_drop, hdm] at h5
        rw [h5]; exact List.getElem?_eq_getElem (by omega)
      rw [List.getElem?_eq_getElem hi] at this
      rw [Option.some.inj this]; exact hrel
    · exact q2.ones q4 _ _
  let vv : Nat → Value := fun i => (W.cell? ⟨a.block, a.off + i, none⟩).getD undef
  refine ⟨[.slice l .no], .cons ?_ .nil, ?_, rfl, by rw [h1]; rfl, ?_⟩
  · have e1 : a = ⟨a.block, a.off, none⟩ := by cases a; simp at ha; subst ha; rfl
    rw [e1, ← hl]
    refine .slice l .no a.block a.off cap (P.cellsOf e) vv hsz (fun i hi => ?_) (fun i hi => ?_) trivial (by omega)
    · obtain ⟨v, k1, _, k3⟩ := hcell i hi
      simp only [vv, k1, Option.getD_some]
      exact claim_all k1 k3
    · obtain ⟨v, k1, k2, _⟩ := hcell i hi
      simp only [vv, k1, Option.getD_some]
      exact k2
  · simp only [Cells, ht]
    refine ⟨l, rfl, by omega, fun x hx => ?_⟩
    obtain ⟨i, hi⟩ := List.getElem?_of_mem hx
    obtain ⟨es, as_, _, _, q3, _, q5, _⟩ := hg i x hi
    exact ⟨as_, q5, q3⟩
  · have hs := szAs_le (b := b) l 0 fun i hi => by
      obtain ⟨_, _, _, _, _, _, _, _, _, q⟩ := hg i l[i] (List.getElem?_eq_getElem hi)
      rw [Nat.zero_add]; exact q
    rw [hl, ← List.range_eq_range'] at hs
    simp only [szAs, szA, hag]; omega
theorem open_trod_z {H : Type} (b : Bulk H) {enc : TypeId × Value → H} {P : Program} {W : World} {sp : Nat → Bool} {held : Bool} {S : List TypeId} (hS : plainAll P S = true) : ∀ (fuel : Nat) (t : TypeId) (cs : List Value) (d : DataW H) (ps : List MemPlace),
    DataW.trod enc P W 0 sp held fuel t cs = some (d, ps) → t ∈ S → OpenedZ P W fuel t (b.B d) cs
  | 0, _, _, _, _, h, _ => by simp [DataW.trod] at h
  | fuel + 1, t, cs, d, ps, h, hp => by
    have ih := open_trod_z b (enc := enc) (P := P) (W := W) (sp := sp) (held := held) hS fuel
    simp only [DataW.trod] at h
    replace hp := plainAll_mem hS hp
    simp only [plainS] at hp
    split at h
    case h_1 v hu =>
      rw [hu] at hp
      simp only [Option.some.injEq, Prod.mk.injEq] at h
      refine ⟨[.bool v], .cons (.bool v) .nil, ?_, rfl, by simpa using (beq_iff_eq.1 hp).symm, ?_⟩
      · simp only [Cells, hu]; exact ⟨v, rfl⟩
      · rw [← h.1]; have := b.lit (.bool v); simp [szAs, szA, agN, isAgg, hu]; omega
    case h_2 k k' n hu =>
      rw [hu] at hp
      split at h <;> simp at h
      rename_i hc
      obtain ⟨rfl, hwf⟩ := hc
      refine ⟨[.int k' n], .cons (.int k' n) .nil, ?_, rfl, by simpa using (beq_iff_eq.1 hp).symm, ?_⟩
      · simp only [Cells, hu]
        simp [Lit.wf] at hwf
        exact ⟨n, rfl, hwf.1, hwf.2⟩
      · rw [← h.1]; have := b.lit (.int k' n); simp [szAs, szA, agN, isAgg, hu]; omega
    case h_4 s hu =>
      rw [hu] at hp
      split at h <;> simp at h
      rename_i hc
      refine ⟨[.str s], .cons (.str s) .nil, ?_, rfl, by simpa using (beq_iff_eq.1 hp).symm, ?_⟩
      · simp only [Cells, hu]
        exact ⟨s, rfl, hc⟩
      · rw [← h.1]; have := b.str s.data.toList; simp [szAs, szA, agN, isAgg, hu] at this ⊢; exact this
    all_goals first
      | (rename_i hu; rw [hu] at hp; simp at hp; done)
      | (rename_i hu _; rw [hu] at hp; simp at hp; done)
      | (simp at h; done)
      | skip
    case h_7 e hu =>
      rw [hu] at hp
      simp only [Bool.and_eq_true, beq_iff_eq, List.contains_iff_mem] at hp
      simp only [Option.some.injEq, Prod.mk.injEq] at h
      refine ⟨[.slice [] .no], .cons (.sl0 none 0 .no (.inl rfl)) .nil, ?_, rfl, by rw [hp.1.1]; rfl, ?_⟩
      · simp only [Cells, hu]
        exact ⟨[], rfl, by simp, by simp⟩
      · rw [← h.1]; have := b.nil; simp [szAs, szA, agN, isAgg, hu]; omega
    case h_8 e a len cap hu =>
      rw [hu] at hp
      simp only [Bool.and_eq_true, beq_iff_eq, decide_eq_true_eq, List.contains_iff_mem] at hp
      obtain ⟨⟨h1, h2⟩, h3⟩ := hp
      split at h
      · rename_i hc
        obtain ⟨c1, c2, c3⟩ := hc
        simp only [Option.bind_eq_some_iff] at h
        obtain ⟨elems, he, h⟩ := h
        simp only [Option.map_eq_some_iff] at h
        obtain ⟨rest, _, h⟩ := h
        simp only [Prod.mk.injEq] at h
        have hbm := bulk_mapM b he
        have hop : OpenedZ P W (fuel + 1) t (((List.range len).map fun i => bOf b ((W.cells? 0 (a.add (i * P.cellsOf e)) (P.cellsOf e)).bind (DataW.trod enc P W 0 sp held fuel e))).sum + 1) [.slice (some a) len cap] := by
          refine openedZ_slice hu h1 (plain_one_r (plainAll_mem hS h2)) h3 c2 c3 fun i hi => ?_
          obtain ⟨y, hy⟩ := mapM_mem he i (by simpa using hi)
          have hy' := hy
          simp only [Option.bind_eq_some_iff] at hy
          obtain ⟨es, q1, q2⟩ := hy
          refine ⟨es, q1, ?_⟩
          simp only [hy', bOf]
          exact ih e es _ _ q2 h2
        obtain ⟨as_, z1, z2, z3, z4, z5⟩ := hop
        refine ⟨as_, z1, z2, z3, z4, ?_⟩
        rw [← h.1]
        have := b.slice (elems.map (·.1)) (rest.map (·.1))
        omega
      · simp at h
    case h_9 fs hu =>
      rw [hu] at hp
      simp only [Bool.and_eq_true, List.all_eq_true, List.contains_iff_mem] at hp
      obtain ⟨h1, h2⟩ := hp
      split at h
      · rename_i hlen
        simp only [Option.map_eq_some_iff] at h
        obtain ⟨xs, hx, h⟩ := h
        simp only [Prod.mk.injEq] at h
        have hbm := bulk_mapM b hx
        rename_i cc _ _
        obtain ⟨as_, k1, k2, k3, k4⟩ := openedZ_fields (P := P) (W := W) (g := fuel) hlen (b := fun f => bOf b (DataW.trod enc P W 0 sp held fuel f.type ((cc.drop f.offset).take (P.cellsOf f.type)))) fs.toList 0 h2 (Nat.zero_le _) fun f hf => by
          obtain ⟨y, hy⟩ := mapM_mem hx f hf
          simp only [hy, bOf]
          exact ih _ _ _ _ hy (h1 f hf)
        rw [List.drop_zero] at k1
        refine ⟨as_, k1, ?_, k3, by rw [k1.1, hlen], ?_⟩
        · simp only [Cells, hu]; exact k2
        · rw [← h.1]
          have := b.agg (xs.map (·.1))
          have : agN P t ≤ 1 := by unfold agN; split <;> omega
          omega
      · simp at h
    case h_10 n e hu =>
      rw [hu] at hp
      simp only [Bool.and_eq_true, beq_iff_eq, List.contains_iff_mem] at hp
      obtain ⟨h1, h2⟩ := hp
      split at h
      · rename_i hlen
        simp only [Option.map_eq_some_iff] at h
        obtain ⟨xs, hx, h⟩ := h
        simp only [Prod.mk.injEq] at h
        have hbm := bulk_mapM b hx
        rename_i cc _ _
        obtain ⟨as_, k1, k2, k3, k4⟩ := openedZ_array (P := P) (W := W) (g := fuel) (e := e) (b := fun i => bOf b (DataW.trod enc P W 0 sp held fuel e ((cc.drop (i * P.cellsOf e)).take (P.cellsOf e)))) n 0 (by rw [hlen, ← h2]; simp) fun i _ hi => by
          obtain ⟨y, hy⟩ := mapM_mem hx i (by simpa using hi)
          simp only [hy, bOf]
          exact ih _ _ _ _ hy h1
        rw [Nat.zero_mul, List.drop_zero] at k1
        rw [← List.range_eq_range'] at k4
        refine ⟨as_, k1, ?_, k3, by rw [k1.1, hlen], ?_⟩
        · simp only [Cells, hu]; exact k2
        · rw [← h.1]
          have := b.agg (xs.map (·.1))
          have : agN P t ≤ 1 := by unfold agN; split <;> omega
          omega
      · simp at h
theorem open_arg_z {H : Type} (b : Bulk H) {enc : TypeId × Value → H} {P : Program} {W : World} {sp : Nat → Bool} {held : Bool} {r : Reach} {base : Nat} {S : List TypeId} (hS : plainAll P S = true) {t : TypeId} {v : Value} {d : DataW H} {ps : List MemPlace}
    (hv : Value.okWide P W r base t v) (hd : DataW.Trod enc P W 0 sp held t v d ps) (hp : t ∈ S) : ∃ g es a, mkv (isAgg P t) es = some a ∧ Cells P g t es ∧ Rel (ghOf W) a v ∧ szA a ≤ b.B d := by
  obtain ⟨fuel, hd⟩ := hd
  obtain ⟨as_, h1, h2, h3, h4, h5⟩ := open_trod_z b hS fuel t _ d ps hd hp
  by_cases ha : isAgg P t = true
  · have : ∃ cs, v = .agg cs := by
      unfold isAgg at ha
      unfold Value.okWide at hv
      split at ha
      · rename_i hu; rw [hu] at hv; obtain ⟨cs, e, _⟩ := hv; exact ⟨cs, e⟩
      · rename_i hu; rw [hu] at hv; obtain ⟨cs, e, _⟩ := hv; exact ⟨cs, e⟩
      · simp at ha
    obtain ⟨cs, rfl⟩ := this
    exact ⟨fuel, as_, .agg as_, by simp [mkv, ha], h2, .aggL (by simpa [Value.cells] using h1), by simp only [agN, ha, if_true] at h5; simp only [szA]; exact h5⟩
  · have ha' : isAgg P t = false := by simpa using ha
    have hone := plain_one_r (plainAll_mem hS hp) ha'
    rw [hone] at h4
    match as_, h4 with
    | [a], _ =>
      obtain ⟨u, rest, e, k1, k2⟩ := h1.cons_inv
      have hu : v = u := by
        have hl := h1.1
        have hne : ∀ cs, v ≠ .agg cs := by
          rintro cs rfl
          have hrest : rest = [] := by
            have := k2.1; simpa using this.symm
          unfold Value.okWide at hv
          unfold isAgg at ha'
          split at hv
          · rename_i hu; rw [hu] at ha'; simp at ha'
          · rename_i hu; rw [hu] at ha'; simp at ha'
          · unfold Cell.okWide Cell.ok at hv
            repeat' split at hv
            all_goals first | exact hv.elim | simp_all
        cases v <;> first | exact absurd rfl (hne _) | (simp [Value.cells] at e; exact e.1)
      subst hu
      exact ⟨fuel, [a], a, by simp [mkv, ha'], h2, k1, by simp only [szAs] at h5; omega⟩
def ArgsR (P : Program) : List TypeId → List AV → Prop
  | [], [] => True
  | t :: ts, a :: as_ => (∃ g es, mkv (isAgg P t) es = some a ∧ Cells P g t es) ∧ ArgsR P ts as_
  | _, _ => False
theorem open_args_z {H : Type} (b : Bulk H) {enc : TypeId × Value → H} {P : Program} {W : World} {sp : Nat → Bool} {held : Bool} {r : Reach} {base : Nat} {S : List TypeId} (hS : plainAll P S = true) : ∀ {ts : List TypeId} {vs : List Value} {ds : List (DataW H)} {ps : List MemPlace},
    (∀ (j : Nat) t v, ts[j]? = some t → vs[j]? = some v → Value.okWide P W r base t v) → DataW.TrodAll enc P W 0 sp held ts vs ds ps → (∀ t ∈ ts, t ∈ S) → ∃ as_, ArgsR P ts as_ ∧ RelL (ghOf W) as_ vs ∧ szAs as_ ≤ b.BA ds
  | [], [], [], _, _, _, _ => ⟨[], trivial, .nil, by simp [szAs]⟩
  | t :: ts, v :: vs, d :: ds, _, hv, ⟨p, q, h1, h2, _⟩, hp => by
    obtain ⟨g, es, a, k1, k2, k3, k4⟩ := open_arg_z b hS (hv 0 t v rfl rfl) h1 (hp t (by simp))
    obtain ⟨as_, m1, m2, m3⟩ := open_args_z b hS (fun j t v h h' => hv (j + 1) t v (by simpa using h) (by simpa using h')) h2 (fun t ht => hp t (by simp [ht]))
    exact ⟨a :: as_, ⟨⟨g, es, k1, k2⟩, m1⟩, .cons k3 m2, by rw [b.bcons]; simp only [szAs]; omega⟩
  | [], _ :: _, _, _, _, h, _ => h.elim
  | [], [], _ :: _, _, _, h, _ => h.elim
  | _ :: _, [], _, _, _, h, _ => h.elim
  | _ :: _, _ :: _, [], _, _, h, _ => h.elim
theorem post_true_z {H : Type} (b : Bulk H) {N : Nat} {enc : TypeId × Value → H} {P : Program} {k : FuncId} {f : Func} {s : ChangeSpec} {S : List TypeId} {tb : TypeId} {W : World} {base : Nat} {args : Array Value} {ds gs : List (DataW H)} {before : List MemPlace} {r : Reach}
    (hl : laidOutB P = true) (hS : plainAll P S = true) (hts : f.params.toList.all (fun t => P.readableRec t && decide (t < P.types.size) && S.contains t) = true) (hvars : s.vars = [])
    (hfn : ∀ ds : List (DataW H), ds.length = f.params.size → s.fn H ds = { results := [.lit (.bool true)], args := ds }) (hrt : f.resultTypes = #[tb]) (htb : P.underlying tb = some .bool)
    (hval : ∀ (j : Nat) t v, f.params[j]? = some t → args[j]? = some v → Value.okWide P W r base t v)
    (hW : DataW.Whole enc P f.params.toList s.vars false W args.toList ds gs before)
    (hN : b.BA (ds ++ gs) ≤ N)
    (hc : ∀ as_, ArgsR P f.params.toList as_ → szAs as_ ≤ N → ACalls P k as_ (fun _ => none) (fun r _ => r = .ret (.bool true))) :
    Calls P k args W fun e W' => ∃ v, e = .returned v ∧ s.post enc P f false true false false W args v W' := by
  have hW' := hW
  obtain ⟨p, q, hA, hV, rfl, hfz, hnd⟩ := hW
  rw [hvars] at hV
  obtain ⟨rfl, rfl⟩ := Go.ChangeShapes.trodVars_none hV
  have hlen : ∀ {ts : List TypeId} {vs : List Value} {ds : List (DataW H)} {ps : List MemPlace}, DataW.TrodAll enc P W 0 (fun _ => true) true ts vs ds ps → ds.length = ts.length := by
    intro ts
    induction ts with
    | nil => intro vs ds ps h; cases vs <;> cases ds <;> first | exact h.elim | rfl
    | cons t ts ih =>
      intro vs ds ps h
      cases vs <;> cases ds <;> first | exact h.elim | skip
      obtain ⟨_, _, _, h2, _⟩ := h
      simp [ih h2]
  have hd := hlen hA
  have hall : ∀ t ∈ f.params.toList, (P.readableRec t = true ∧ t < P.types.size) ∧ t ∈ S := by
    intro t ht
    have := List.all_eq_true.1 hts t ht
    simpa using this
  obtain ⟨as_, ha, hrel, hsz⟩ := open_args_z b hS (fun j t v h h' => hval j t v (by simpa using h) (by simpa using h')) hA (fun t ht => (hall t ht).2)
  refine (calls_true hrel (hc as_ ha (by rw [List.append_nil] at hN; omega))).mono fun e W' ⟨he, hg, hold⟩ => ?_
  subst he
  have hs : s.fn H (ds ++ []) = { results := [.lit (.bool true)], args := ds } := by
    rw [List.append_nil]; exact hfn ds (by simpa using hd)
  refine ⟨_, rfl, Go.ChangeShapes.post_of_same (pa := p) (pv := []) hW' ?_ ?_ ?_ rfl (hg.frame _) hg.2.1 (Go.RowKit.ok_one hrt rfl (Go.RowKit.okWide_bool_mk htb _))⟩
  · intro b sp hd
    rw [hs, hrt]
    exact trodAll_cons_mk (Go.RowKit.shut_bool htb _) Go.ChangeShapes.trodAll_mk0
  · intro sp hsp
    rw [hs]
    have hlt : ∀ x ∈ p, x.block < W.heap.size := fun x hx => hW'.lt x (by simpa using hx)
    exact trodAll_stays hl (fun t ht => (hall t ht).1) hA (fun x hx => grown_same hg hold (hlt x hx)) (fun x hx => hsp x (by simpa using hx))
  · intro sp _
    rw [hs, hvars]
    rfl
end Abs

namespace Fil
open Abs Go
theorem i64_min : IntKind.i64.min = -9223372036854775808 := by decide
theorem i64_max : IntKind.i64.max = 9223372036854775807 := by decide
theorem I64_of {n : Int} (h : IntKind.i64.min ≤ n ∧ n ≤ IntKind.i64.max) : I64 n := by rw [i64_min, i64_max] at h; exact h
end Fil

namespace Fil.Sz
open Abs Go
theorem cells_int {P : Program} {g : Nat} {t : TypeId} {k : IntKind} {cs : List AV} (hu : P.underlying t = some (.int k)) (h : Cells P g t cs) : ∃ n, cs = [.int k n] ∧ k.min ≤ n ∧ n ≤ k.max := by
  cases g with
  | zero => exact h.elim
  | succ g => simp only [Cells, hu] at h; exact h
theorem cells_bool {P : Program} {g : Nat} {t : TypeId} {cs : List AV} (hu : P.underlying t = some .bool) (h : Cells P g t cs) : ∃ b, cs = [.bool b] := by
  cases g with
  | zero => exact h.elim
  | succ g => simp only [Cells, hu] at h; exact h
theorem cells_str {P : Program} {g : Nat} {t : TypeId} {cs : List AV} (hu : P.underlying t = some .string) (h : Cells P g t cs) : ∃ s : ByteArray, cs = [.str s] ∧ s.size ≤ maxLen := by
  cases g with
  | zero => exact h.elim
  | succ g => simp only [Cells, hu] at h; exact h
theorem cells_slice {P : Program} {g : Nat} {t e : TypeId} {cs : List AV} (hu : P.underlying t = some (.slice e)) (h : Cells P g t cs) :
    ∃ g', g' < g ∧ ∃ l, cs = [.slice l .no] ∧ l.length ≤ maxLen ∧ ∀ x ∈ l, ∃ es, mkv (isAgg P e) es = some x ∧ Cells P g' e es := by
  cases g with
  | zero => exact h.elim
  | succ g => simp only [Cells, hu] at h; exact ⟨g, Nat.lt_succ_self _, h⟩
def Str (P : Program) (t : TypeId) (l : List TypeId) : Prop := ∃ fs, P.underlying t = some (.struct fs) ∧ fs.toList.map (·.type) = l
theorem cells_struct {P : Program} {g : Nat} {t : TypeId} {l : List TypeId} {cs : List AV} (hu : Str P t l) (h : Cells P g t cs) : ∃ g', g' < g ∧ CellsL (Cells P g') l cs := by
  obtain ⟨fs, hu, rfl⟩ := hu
  cases g with
  | zero => exact h.elim
  | succ g => simp only [Cells, hu] at h; exact ⟨g, Nat.lt_succ_self _, h⟩
theorem str_agg {P : Program} {t : TypeId} {l : List TypeId} (h : Str P t l) : isAgg P t = true := by
  obtain ⟨fs, hu, _⟩ := h
  simp only [Abs.isAgg, hu]
theorem mkv_agg {es : List AV} {x : AV} (h : mkv true es = some x) : x = .agg es := by
  simp [mkv] at h; exact h.symm
theorem map_of {α : Type} {f : α → AV} {p : α → Prop} : ∀ {l : List AV}, (∀ x ∈ l, ∃ y, x = f y ∧ p y) → ∃ m : List α, l = m.map f ∧ ∀ y ∈ m, p y
  | [], _ => ⟨[], rfl, by simp⟩
  | x :: l, h => by
    obtain ⟨y, rfl, hy⟩ := h x (by simp)
    obtain ⟨m, rfl, hm⟩ := map_of (l := l) fun z hz => h z (by simp [hz])
    exact ⟨y :: m, rfl, by
      intro z hz
      rcases List.mem_cons.1 hz with rfl | hz
      · exact hy
      · exact hm z hz⟩
theorem u64_min : IntKind.u64.min = 0 := by decide
theorem u64_max : IntKind.u64.max = 18446744073709551615 := by decide
theorem U64_of {n : Int} (h : IntKind.u64.min ≤ n ∧ n ≤ IntKind.u64.max) : U64 n := by rw [u64_min, u64_max] at h; exact h
structure Tys (P : Program) where
  (i u b s e es t ts sg sgs p ps k ks : TypeId)
  hi : P.underlying i = some (.int .i64)
  hu : P.underlying u = some (.int .u64)
  hb : P.underlying b = some .bool
  hs : P.underlying s = some .string
  he : Str P e [i, i, u, i, i, i, i, es]
  hes : P.underlying es = some (.slice e)
  ht : Str P t [i, i, i, i, es, ts]
  hts : P.underlying ts = some (.slice t)
  hsg : Str P sg [s, i, i, u]
  hsgs : P.underlying sgs = some (.slice sg)
  hp : Str P p [b, ts]
  hps : P.underlying ps = some (.slice p)
  hk : Str P k [s, e]
  hks : P.underlying ks = some (.slice k)
variable {P : Program} (Y : Tys P)
include Y
theorem cells_i {g : Nat} {cs : List AV} (h : Cells P g Y.i cs) : ∃ n, cs = [.int .i64 n] ∧ I64 n := by
  obtain ⟨n, e, hn⟩ := cells_int Y.hi h; exact ⟨n, e, I64_of hn⟩
theorem cells_u {g : Nat} {cs : List AV} (h : Cells P g Y.u cs) : ∃ n, cs = [.int .u64 n] ∧ U64 n := by
  obtain ⟨n, e, hn⟩ := cells_int Y.hu h; exact ⟨n, e, U64_of hn⟩
theorem cells_E : ∀ (g : Nat) {t : TypeId} {cs : List AV}, Str P t [Y.i, Y.i, Y.u, Y.i, Y.i, Y.i, Y.i, Y.es] → Cells P g t cs → ∃ e, cs = eL e ∧ WfE e := by
  intro g
  induction g using Nat.strongRecOn with
  | ind g ih =>
    intro t cs hst h
    obtain ⟨g1, hg1, h⟩ := cells_struct hst h
    obtain ⟨_, _, rfl, a1, _, _, rfl, a2, _, _, rfl, a3, _, _, rfl, a4, _, _, rfl, a5, _, _, rfl, a6, _, _, rfl, a7, _, _, rfl, a8, rfl⟩ := h
    obtain ⟨n1, rfl, b1⟩ := cells_i Y a1
    obtain ⟨n2, rfl, b2⟩ := cells_i Y a2
    obtain ⟨n3, rfl, b3⟩ := cells_u Y a3
    obtain ⟨n4, rfl, b4⟩ := cells_i Y a4
    obtain ⟨n5, rfl, b5⟩ := cells_i Y a5
    obtain ⟨n6, rfl, b6⟩ := cells_i Y a6
    obtain ⟨n7, rfl, b7⟩ := cells_i Y a7
    obtain ⟨g2, hg2, l, rfl, _, hl⟩ := cells_slice Y.hes a8
    obtain ⟨m, rfl, hm⟩ := map_of (f := encE) (p := WfE) (l := l) fun x hx => by
      obtain ⟨es, h1, h2⟩ := hl x hx
      rw [str_agg Y.he] at h1
      obtain rfl := mkv_agg h1
      obtain ⟨e, rfl, he⟩ := ih g2 (by omega) Y.he h2
      exact ⟨e, rfl, he⟩
    refine ⟨.mk n1 n2 n3 n4 n5 n6 n7 m, ?_, (WfE_iff _).2 ⟨⟨b1, b2, b3, b4, b5, b6, b7⟩, hm⟩⟩
    simp only [eL, encEs_eq, E.op, E.w, E.v, E.sig, E.hi, E.lo, E.n, E.l]
    rfl
theorem cells_Es {g : Nat} {cs : List AV} (h : Cells P g Y.es cs) : ∃ m : List E, cs = [.slice (m.map encE) .no] ∧ ∀ x ∈ m, WfE x := by
  obtain ⟨g2, hg2, l, rfl, _, hl⟩ := cells_slice Y.hes h
  obtain ⟨m, rfl, hm⟩ := map_of (f := encE) (p := WfE) (l := l) fun x hx => by
    obtain ⟨es, h1, h2⟩ := hl x hx
    rw [str_agg Y.he] at h1
    obtain rfl := mkv_agg h1
    obtain ⟨e, rfl, he⟩ := cells_E Y g2 Y.he h2
    exact ⟨e, rfl, he⟩
  exact ⟨m, rfl, hm⟩
theorem cells_T : ∀ (g : Nat) {cs : List AV}, Cells P g Y.t cs → ∃ t, cs = tL t ∧ WfT t := by
  intro g
  induction g using Nat.strongRecOn with
  | ind g ih =>
    intro cs h
    obtain ⟨g1, hg1, h⟩ := cells_struct Y.ht h
    obtain ⟨_, _, rfl, a1, _, _, rfl, a2, _, _, rfl, a3, _, _, rfl, a4, _, _, rfl, a5, _, _, rfl, a8, rfl⟩ := h
    obtain ⟨n1, rfl, b1⟩ := cells_i Y a1
    obtain ⟨n2, rfl, b2⟩ := cells_i Y a2
    obtain ⟨n3, rfl, b3⟩ := cells_i Y a3
    obtain ⟨n4, rfl, b4⟩ := cells_i Y a4
    obtain ⟨m5, rfl, b5⟩ := cells_Es Y a5
    obtain ⟨g2, hg2, l, rfl, _, hl⟩ := cells_slice Y.hts a8
    obtain ⟨m, rfl, hm⟩ := map_of (f := encT) (p := WfT) (l := l) fun x hx => by
      obtain ⟨es, h1, h2⟩ := hl x hx
      rw [str_agg Y.ht] at h1
      obtain rfl := mkv_agg h1
      obtain ⟨e, rfl, he⟩ := ih g2 (by omega) h2
      exact ⟨e, rfl, he⟩
    refine ⟨.mk n1 n2 n3 n4 m5 m, ?_, (WfT_iff _).2 ⟨⟨b1, b2, b3, b4⟩, b5, hm⟩⟩
    simp only [tL, encTs_eq, T.op, T.sig, T.hi, T.lo, T.e, T.l]
    rfl
theorem cells_Ts {g : Nat} {cs : List AV} (h : Cells P g Y.ts cs) : ∃ m : List T, cs = [.slice (m.map encT) .no] ∧ ∀ x ∈ m, WfT x := by
  obtain ⟨g2, hg2, l, rfl, _, hl⟩ := cells_slice Y.hts h
  obtain ⟨m, rfl, hm⟩ := map_of (f := encT) (p := WfT) (l := l) fun x hx => by
    obtain ⟨es, h1, h2⟩ := hl x hx
    rw [str_agg Y.ht] at h1
    obtain rfl := mkv_agg h1
    obtain ⟨e, rfl, he⟩ := cells_T Y g2 h2
    exact ⟨e, rfl, he⟩
  exact ⟨m, rfl, hm⟩
theorem cells_D {g : Nat} {t : TypeId} {cs : List AV} (ht : Str P t [Y.sgs, Y.ps, Y.ks]) (h : Cells P g t cs) : ∃ d, cs = dL d ∧ WfD d := by
  obtain ⟨g1, hg1, h⟩ := cells_struct ht h
  obtain ⟨_, _, rfl, a1, _, _, rfl, a2, _, _, rfl, a3, rfl⟩ := h
  obtain ⟨g2, hg2, l, rfl, _, hl⟩ := cells_slice Y.hsgs a1
  obtain ⟨m1, rfl, hm1⟩ := map_of (f := encS) (p := WfS) (l := l) fun x hx => by
    obtain ⟨es, h1, h2⟩ := hl x hx
    rw [str_agg Y.hsg] at h1
    obtain rfl := mkv_agg h1
    obtain ⟨g3, _, h2⟩ := cells_struct Y.hsg h2
    obtain ⟨_, _, rfl, c1, _, _, rfl, c2, _, _, rfl, c3, _, _, rfl, c4, rfl⟩ := h2
    obtain ⟨s, rfl, _⟩ := cells_str Y.hs c1
    obtain ⟨n2, rfl, b2⟩ := cells_i Y c2
    obtain ⟨n3, rfl, b3⟩ := cells_i Y c3
    obtain ⟨n4, rfl, b4⟩ := cells_u Y c4
    exact ⟨⟨s, n2, n3, n4⟩, rfl, b2, b3, b4⟩
  obtain ⟨g2, hg2, l, rfl, _, hl⟩ := cells_slice Y.hps a2
  obtain ⟨m2, rfl, hm2⟩ := map_of (f := encP) (p := fun p => ∀ t ∈ p.l, WfT t) (l := l) fun x hx => by
    obtain ⟨es, h1, h2⟩ := hl x hx
    rw [str_agg Y.hp] at h1
    obtain rfl := mkv_agg h1
    obtain ⟨g3, _, h2⟩ := cells_struct Y.hp h2
    obtain ⟨_, _, rfl, c1, _, _, rfl, c2, rfl⟩ := h2
    obtain ⟨b, rfl⟩ := cells_bool Y.hb c1
    obtain ⟨m, rfl, hm⟩ := cells_Ts Y c2
    exact ⟨⟨b, m⟩, rfl, hm⟩
  obtain ⟨g2, hg2, l, rfl, _, hl⟩ := cells_slice Y.hks a3
  obtain ⟨m3, rfl, hm3⟩ := map_of (f := encC) (p := fun c => WfE c.e) (l := l) fun x hx => by
    obtain ⟨es, h1, h2⟩ := hl x hx
    rw [str_agg Y.hk] at h1
    obtain rfl := mkv_agg h1
    obtain ⟨g3, _, h2⟩ := cells_struct Y.hk h2
    obtain ⟨_, _, rfl, c1, _, _, rfl, c2, rfl⟩ := h2
    obtain ⟨s, rfl, _⟩ := cells_str Y.hs c1
    obtain ⟨e, rfl, he⟩ := cells_E Y g3 Y.he c2
    exact ⟨⟨s, e⟩, by simp [encC], he⟩
  exact ⟨⟨m1, m2, m3⟩, rfl, hm1, hm2, hm3⟩
omit Y

/-! ### How much -/
theorem szAs_map {α : Type} (f : α → AV) (l : List α) : szAs (l.map f) = (l.map fun x => szA (f x)).sum := by
  induction l with
  | nil => simp [szAs]
  | cons a l ih => simp [szAs, ih]
theorem sum_mono_m {α : Type} {f h : α → Nat} {l : List α} (q : ∀ x ∈ l, f x ≤ h x) : (l.map f).sum ≤ (l.map h).sum := by
  induction l with
  | nil => simp
  | cons a l ih =>
    have h1 := q a (by simp)
    have h2 := ih fun x hx => q x (by simp [hx])
    simp only [List.map_cons, List.sum_cons]; omega
theorem nodes_sz (e : E) : nodes e ≤ szAs (eL e) := by
  refine E.ind (P := fun e => nodes e ≤ szAs (eL e)) (fun e ih => ?_) e
  have h1 : (e.l.map nodes).sum ≤ szAs (encEs e) := by
    rw [encEs_eq, szAs_map]
    refine sum_mono_m fun x hx => ?_
    have := ih x hx
    simp only [encE, szA]; omega
  rw [nodes_eq]
  simp only [eL, szAs, szA] at h1 ⊢
  omega
theorem nodesT_sz (t : T) : nodesT t ≤ szAs (tL t) := by
  refine T.ind (P := fun t => nodesT t ≤ szAs (tL t)) (fun t ih => ?_) t
  have h1 : (t.l.map nodesT).sum ≤ szAs (encTs t) := by
    rw [encTs_eq, szAs_map]
    refine sum_mono_m fun x hx => ?_
    have := ih x hx
    simp only [encT, szA]; omega
  have h2 : (t.e.map nodes).sum ≤ szAs (t.e.map encE) := by
    rw [szAs_map]
    refine sum_mono_m fun x hx => ?_
    have := nodes_sz x
    simp only [encE, szA]; omega
  rw [nodesT_eq]
  simp only [tL, szAs, szA] at h1 h2 ⊢
  omega
theorem len_szAs {α : Type} (f : α → AV) (l : List α) : l.length ≤ szAs (l.map f) := by
  induction l with
  | nil => simp
  | cons a l ih =>
    have : 1 ≤ szA (f a) := by cases f a <;> simp [szA]
    simp only [List.map_cons, szAs, List.length_cons]; omega
theorem sm_sz {d : Flat} (h : szAs (dL d) ≤ 16777216) : d.sigs.length ≤ 16777216 ∧ d.procs.length ≤ 16777216 ∧ d.chks.length ≤ 16777216 ∧ nodesD d ≤ 16777216 := by
  simp only [dL, szAs, szA] at h
  have h1 := len_szAs encS d.sigs
  have h2 := len_szAs encP d.procs
  have h3 := len_szAs encC d.chks
  have h4 : (d.procs.map nodesP).sum ≤ szAs (d.procs.map encP) := by
    rw [szAs_map]
    refine sum_mono_m fun p hp => ?_
    have : (p.l.map nodesT).sum ≤ szAs (p.l.map encT) := by
      rw [szAs_map]
      refine sum_mono_m fun x hx => ?_
      have := nodesT_sz x
      simp only [encT, szA]; omega
    unfold nodesP
    simp only [encP, szA, szAs]; omega
  have h5 : (d.chks.map fun c => nodes c.e).sum ≤ szAs (d.chks.map encC) := by
    rw [szAs_map]
    refine sum_mono_m fun c hc => ?_
    have := nodes_sz c.e
    simp only [encC, szA, szAs] at this ⊢; omega
  refine ⟨by omega, by omega, by omega, ?_⟩
  unfold nodesD; omega
end Fil.Sz

namespace Go.Proofs.Ytdiebjnjhgbklaa
open Abs Fil Fil.Sz
def tys : Tys Try.prog where
  i := 3
  u := 27
  b := 4
  s := 9
  e := 30
  es := 28
  t := 58
  ts := 54
  sg := 71
  sgs := 22
  p := 56
  ps := 23
  k := 80
  ks := 24
  hi := Try.underlying3
  hu := Try.underlying27
  hb := Try.underlying4
  hs := Try.underlying9
  he := ⟨_, Try.underlying30, rfl⟩
  hes := Try.underlying28
  ht := ⟨_, Try.underlying58, rfl⟩
  hts := Try.underlying54
  hsg := ⟨_, Try.underlying71, rfl⟩
  hsgs := Try.underlying22
  hp := ⟨_, Try.underlying56, rfl⟩
  hps := Try.underlying23
  hk := ⟨_, Try.underlying80, rfl⟩
  hks := Try.underlying24
def plainTys : List TypeId := [3, 4, 9, 27, 22, 23, 24, 26, 28, 30, 54, 56, 58, 71, 80]
theorem plain_ok : plainAll Try.prog plainTys = true := by kernel_rfl
theorem str_D : Str Try.prog 26 [22, 23, 24] := ⟨_, Try.underlying26, rfl⟩
def bulkU (H : Type) : Bulk H where
  B := Rows.uptoBulk
  BA := Rows.uptoBulkAll
  lit := fun l => by cases l <;> simp [Rows.uptoBulk]
  str := fun s => by simp [Rows.uptoBulk]
  nil := by simp [Rows.uptoBulk]
  slice := fun l r => by simp only [Rows.uptoBulk]; omega
  agg := fun l => by simp only [Rows.uptoBulk]; omega
  bnil := by simp [Rows.uptoBulkAll]
  bcons := fun d l => by simp [Rows.uptoBulkAll]
theorem bulkU_le {H : Type} {l : List (DataW H)} (h : Rows.uptoSmall H l = true) : (bulkU H).BA l ≤ 1048576 := by
  simpa [Rows.uptoSmall, bulkU] using h
theorem arg_D {g : Nat} {es : List AV} {a : AV} (h1 : mkv (Abs.isAgg Try.prog 26) es = some a) (h2 : Cells Try.prog g 26 es) : ∃ d, a = encD d ∧ WfD d := by
  rw [str_agg str_D] at h1
  obtain rfl := mkv_agg h1
  obtain ⟨d, rfl, hd⟩ := cells_D tys str_D h2
  exact ⟨d, rfl, hd⟩
theorem arg_E {g : Nat} {es : List AV} {a : AV} (h1 : mkv (Abs.isAgg Try.prog 30) es = some a) (h2 : Cells Try.prog g 30 es) : ∃ e, a = encE e ∧ WfE e := by
  rw [show Abs.isAgg Try.prog 30 = true from str_agg tys.he] at h1
  obtain rfl := mkv_agg h1
  obtain ⟨d, rfl, hd⟩ := cells_E tys g tys.he h2
  exact ⟨d, rfl, hd⟩
theorem arg_I {g : Nat} {es : List AV} {a : AV} (h1 : mkv (Abs.isAgg Try.prog 3) es = some a) (h2 : Cells Try.prog g 3 es) : ∃ n, a = .int .i64 n ∧ I64 n := by
  obtain ⟨n, rfl, hn⟩ := cells_i tys h2
  have : Abs.isAgg Try.prog 3 = false := by simp only [Abs.isAgg, Try.underlying3]
  rw [this] at h1
  simp [mkv] at h1
  exact ⟨n, h1.symm, hn⟩
theorem sm_of {d : Flat} (h : szA (encD d) ≤ 1048576) : Sm d := sm_sz (by simp only [szA] at h; omega)
theorem nodes_of {e : E} (h : szA (encE e) ≤ 1048576) : nodes e ≤ 1048576 := by
  have := nodes_sz e; simp only [szA] at h; omega
theorem argsR_cons {P : Program} {t : TypeId} {ts : List TypeId} {xs : List AV} (h : ArgsR P (t :: ts) xs) : ∃ a ys g es, xs = a :: ys ∧ mkv (Abs.isAgg P t) es = some a ∧ Cells P g t es ∧ ArgsR P ts ys := by
  cases xs with
  | nil => exact h.elim
  | cons a ys => obtain ⟨⟨g, es, h1, h2⟩, h3⟩ := h; exact ⟨a, ys, g, es, rfl, h1, h2, h3⟩
theorem argsR_nil {P : Program} {xs : List AV} (h : ArgsR P [] xs) : xs = [] := by
  cases xs with
  | nil => rfl
  | cons a ys => exact h.elim
theorem args_DE {xs : List AV} (h : ArgsR Try.prog [26, 30] xs) (hs : szAs xs ≤ 1048576) : ∃ d e, xs = [encD d, encE e] ∧ WfD d ∧ Sm d ∧ WfE e ∧ nodes e ≤ 1048576 := by
  obtain ⟨a, _, _, _, rfl, h1, h2, h⟩ := argsR_cons h
  obtain ⟨b, _, _, _, rfl, h3, h4, h⟩ := argsR_cons h
  obtain rfl := argsR_nil h
  obtain ⟨d, rfl, hd⟩ := arg_D h1 h2
  obtain ⟨e, rfl, he⟩ := arg_E h3 h4
  simp only [szAs] at hs
  exact ⟨d, e, rfl, hd, sm_of (by omega), he, nodes_of (by omega)⟩
theorem args_DEI {xs : List AV} (h : ArgsR Try.prog [26, 30, 3] xs) (hs : szAs xs ≤ 1048576) : ∃ d e w, xs = [encD d, encE e, .int .i64 w] ∧ WfD d ∧ Sm d ∧ WfE e ∧ nodes e ≤ 1048576 ∧ I64 w := by
  obtain ⟨a, _, _, _, rfl, h1, h2, h⟩ := argsR_cons h
  obtain ⟨b, _, _, _, rfl, h3, h4, h⟩ := argsR_cons h
  obtain ⟨c, _, _, _, rfl, h5, h6, h⟩ := argsR_cons h
  obtain rfl := argsR_nil h
  obtain ⟨d, rfl, hd⟩ := arg_D h1 h2
  obtain ⟨e, rfl, he⟩ := arg_E h3 h4
  obtain ⟨w, rfl, hw⟩ := arg_I h5 h6
  simp only [szAs] at hs
  exact ⟨d, e, w, rfl, hd, sm_of (by omega), he, nodes_of (by omega), hw⟩
theorem args_DEE {xs : List AV} (h : ArgsR Try.prog [26, 30, 30] xs) (hs : szAs xs ≤ 1048576) : ∃ d e f, xs = [encD d, encE e, encE f] ∧ WfD d ∧ Sm d ∧ WfE e ∧ nodes e ≤ 1048576 ∧ WfE f ∧ nodes f ≤ 1048576 := by
  obtain ⟨a, _, _, _, rfl, h1, h2, h⟩ := argsR_cons h
  obtain ⟨b, _, _, _, rfl, h3, h4, h⟩ := argsR_cons h
  obtain ⟨c, _, _, _, rfl, h5, h6, h⟩ := argsR_cons h
  obtain rfl := argsR_nil h
  obtain ⟨d, rfl, hd⟩ := arg_D h1 h2
  obtain ⟨e, rfl, he⟩ := arg_E h3 h4
  obtain ⟨f, rfl, hf⟩ := arg_E h5 h6
  simp only [szAs] at hs
  exact ⟨d, e, f, rfl, hd, sm_of (by omega), he, nodes_of (by omega), hf, nodes_of (by omega)⟩
theorem args_DEEI {xs : List AV} (h : ArgsR Try.prog [26, 30, 30, 3] xs) (hs : szAs xs ≤ 1048576) : ∃ d e f w, xs = [encD d, encE e, encE f, .int .i64 w] ∧ WfD d ∧ Sm d ∧ WfE e ∧ nodes e ≤ 1048576 ∧ WfE f ∧ nodes f ≤ 1048576 ∧ I64 w := by
  obtain ⟨a, _, _, _, rfl, h1, h2, h⟩ := argsR_cons h
  obtain ⟨b, _, _, _, rfl, h3, h4, h⟩ := argsR_cons h
  obtain ⟨c, _, _, _, rfl, h5, h6, h⟩ := argsR_cons h
  obtain ⟨i, _, _, _, rfl, h7, h8, h⟩ := argsR_cons h
  obtain rfl := argsR_nil h
  obtain ⟨d, rfl, hd⟩ := arg_D h1 h2
  obtain ⟨e, rfl, he⟩ := arg_E h3 h4
  obtain ⟨f, rfl, hf⟩ := arg_E h5 h6
  obtain ⟨w, rfl, hw⟩ := arg_I h7 h8
  simp only [szAs] at hs
  exact ⟨d, e, f, w, rfl, hd, sm_of (by omega), he, nodes_of (by omega), hf, nodes_of (by omega), hw⟩
theorem args_DDEE {xs : List AV} (h : ArgsR Try.prog [26, 26, 30, 30] xs) (hs : szAs xs ≤ 1048576) : ∃ d c e f, xs = [encD d, encD c, encE e, encE f] ∧ WfD d ∧ Sm d ∧ WfD c ∧ Sm c ∧ WfE e ∧ nodes e ≤ 1048576 ∧ WfE f ∧ nodes f ≤ 1048576 := by
  obtain ⟨a, _, _, _, rfl, h1, h2, h⟩ := argsR_cons h
  obtain ⟨b, _, _, _, rfl, h3, h4, h⟩ := argsR_cons h
  obtain ⟨c, _, _, _, rfl, h5, h6, h⟩ := argsR_cons h
  obtain ⟨i, _, _, _, rfl, h7, h8, h⟩ := argsR_cons h
  obtain rfl := argsR_nil h
  obtain ⟨d, rfl, hd⟩ := arg_D h1 h2
  obtain ⟨c, rfl, hc⟩ := arg_D h3 h4
  obtain ⟨e, rfl, he⟩ := arg_E h5 h6
  obtain ⟨f, rfl, hf⟩ := arg_E h7 h8
  simp only [szAs] at hs
  exact ⟨d, c, e, f, rfl, hd, sm_of (by omega), hc, sm_of (by omega), he, nodes_of (by omega), hf, nodes_of (by omega)⟩
end Go.Proofs.Ytdiebjnjhgbklaa

namespace Fil.Sz
open Abs
def Pq (e : E) (ws : List Int) : Prop := ∀ i, (h1 : i < e.l.length) → (h2 : i < ws.length) → 0 < own e.l[i] → wide e.l[i] ws[i] = own e.l[i]
theorem eq_parts {g : List Sg} (hg : SgOk g) {e : E} (hs : shp g e = true) {W : Int} (hW : 1 ≤ W) {ws : List Int} (hw : Wt e W ws) (hp : Pq e ws) (h0 : 0 < own e) : W = own e := by
  have hwl := wt_len hs hw
  have hon : ∀ x ∈ e.l, 0 ≤ own x := fun x hx => own_nonneg hg x (shp_part hs hx)
  cases shp_nd hs with
  | num ho _ _ _ _ _ _ h7 =>
    cases hw <;> first | omega | skip
  | ext ho _ _ _ _ _ _ _ _ _ h9 =>
    cases hw <;> first | omega | skip
  | sig ho _ _ _ h6 =>
    cases hw <;> first | omega | skip
  | idx ho =>
    cases hw <;> first | omega | skip
  | cat ho =>
    cases hw <;> first | omega | skip
  | cond ho _ _ _ _ _ a b c h6 =>
    rw [own6 ho] at h0 ⊢
    cases hw <;> first | omega | skip
    have f1 := hp 1 (by rw [h6]; simp) (by simp)
    have f2 := hp 2 (by rw [h6]; simp) (by simp)
    simp only [List.getElem_cons_succ, List.getElem_cons_zero] at f1 f2
    rw [wide_of (by omega) (by omega)] at f1 f2
    have g1 := hon b (by rw [h6]; simp)
    have g2 := hon c (by rw [h6]; simp)
    simp only [h6, List.getElem_cons_succ, List.getElem_cons_zero] at f1 f2
    simp only [h6, List.map_cons, List.map_nil, List.drop_succ_cons, List.drop_zero, fst0] at h0 ⊢
    by_cases q : own b = 0
    · rw [if_pos q] at h0 ⊢
      by_cases q2 : own c = 0
      · rw [if_pos q2] at h0; omega
      · rw [if_neg q2]; exact f2 (by omega)
    · rw [if_neg q]; exact f1 (by omega)
  | un ho _ _ _ _ a h6 h7 h8 =>
    rw [own4 ho] at h0 ⊢
    by_cases hn : e.n ≤ 2
    · rw [if_pos hn] at h0 ⊢
      cases hw <;> first | omega | skip
      have f1 := hp 0 (by rw [h6]; simp) (by simp [h6])
      rw [rep_get, wide_of (by omega) (by omega)] at f1
      simp only [h6, List.getElem_cons_zero] at f1
      simp only [h6, List.map_cons, List.headD_cons] at h0 ⊢
      exact f1 h0
    · rw [if_neg hn]
      cases hw <;> omega
  | bin ho _ _ _ _ a b h6 h7 h8 =>
    rw [own5 ho] at h0 ⊢
    by_cases hn : e.n ≤ 16
    · rw [if_pos hn] at h0 ⊢
      cases hw <;> first | omega | skip
      have f1 := hp 0 (by rw [h6]; simp) (by simp [h6])
      have f2 := hp 1 (by rw [h6]; simp) (by simp [h6])
      rw [rep_get, wide_of (by omega) (by omega)] at f1 f2
      have g1 := hon a (by rw [h6]; simp)
      have g2 := hon b (by rw [h6]; simp)
      simp only [h6, List.getElem_cons_succ, List.getElem_cons_zero] at f1 f2
      simp only [h6, List.map_cons, List.map_nil, fst0] at h0 ⊢
      by_cases q : own a = 0
      · rw [if_pos q] at h0 ⊢
        by_cases q2 : own b = 0
        · rw [if_pos q2] at h0; omega
        · rw [if_neg q2]; exact f2 (by omega)
      · rw [if_neg q]; exact f1 (by omega)
    · rw [if_neg hn] at h0 ⊢
      by_cases hn2 : e.n ≤ 18
      · rw [if_pos hn2] at h0 ⊢
        cases hw <;> first | omega | skip
        have f1 := hp 0 (by rw [h6]; simp) (by simp)
        simp only [List.getElem_cons_zero] at f1
        rw [wide_of (by omega) (by omega)] at f1
        simp only [h6, List.getElem_cons_zero] at f1
        simp only [h6, List.map_cons, List.headD_cons] at h0 ⊢
        exact f1 h0
      · rw [if_neg hn2]
        cases hw <;> omega
theorem own_only {g : List Sg} (hg : SgOk g) (e : E) : ∀ (w : Int) (x : E), shp g e = true → -1 ≤ w → size e w = (x, 0) → 0 < own e → wide e w = own e := by
  refine E.ind (P := fun e => ∀ (w : Int) (x : E), shp g e = true → -1 ≤ w → size e w = (x, 0) → 0 < own e → wide e w = own e) (fun e ih w x hs h0 h ho => ?_) e
  obtain ⟨hbit, hc⟩ := size_ok h
  have hon := own_nonneg hg e hs
  have hpos := wide_pos hon h0
  rcases hc with ⟨ho1, hw0, hh, hx⟩ | ⟨hnum, ws, hws, hr, hbad, hx⟩
  · rw [own1 ho1] at ho; omega
  · have hwt := wants_wt hs hws
    have hwl := wt_len hs hwt
    obtain ⟨hl, hget⟩ := runL_ok e.l ws hwl.symm hr
    have hge := wt_ge hg hs hpos hwt
    refine eq_parts hg hs hpos hwt (fun i h1 h2 h3 => ?_) ho
    exact ih _ (List.getElem_mem h1) _ _ (shp_part hs (List.getElem_mem h1)) (hge _ (List.getElem_mem h2)) (hget i h1 h2) h3
structure Szd (d : Flat) (a : E) : Prop where
  sigs : sigsOk d.sigs = true
  shp : shp d.sigs a = true
  nodes : nodes a ≤ 65536
  deep : deep a ≤ 64
  one : 1 ≤ a.w
  few : a.w ≤ 64
  own : own a = a.w
  size : ∀ w, wide a w = a.w → ¬ (w = -1 ∧ 1 < a.w) → size a w = (a, 0)
  no : ∀ w, -1 ≤ w → wide a w ≠ a.w → (Sz.size a w).2 ≠ 0
  bit : 1 < a.w → Sz.size a (-1) = (zE, 91)
theorem checkE_ok {d : Flat} {a : E} (h : checkE d a = 0) : Szd d a := by
  unfold checkE at h
  split at h
  · simp at h
  rename_i hc
  have hw0 : a.w ≠ 0 := fun q => hc ⟨h, .inl q⟩
  have hx : (exprD d a a.w).1 = a := Classical.byContradiction fun q => hc ⟨h, .inr q⟩
  obtain ⟨⟨x, f⟩, hR⟩ : ∃ R, exprD d a a.w = R := ⟨_, rfl⟩
  rw [hR] at h hx
  simp only at h hx
  subst h hx
  unfold exprD at hR
  split at hR
  · simp at hR
  rename_i q1
  split at hR
  · simp at hR
  rename_i q2
  have s1 : sigsOk d.sigs = true := by
    cases q : sigsOk d.sigs with
    | true => rfl
    | false => exact (q1 (.inl q)).elim
  have s2 : Sz.shp d.sigs x = true := by
    cases q : Sz.shp d.sigs x with
    | true => rfl
    | false => exact (q1 (.inr (.inr (.inr q)))).elim
  have h1 : 1 ≤ x.w := by omega
  have h2 : x.w ≤ 64 := by omega
  have ok := size_main (sigsOk_ok s1) x x.w x s2 (by omega) hR
  have hwd := ok.wd
  have hown : Sz.own x = x.w := by rw [ok.own, ← hwd]
  refine ⟨s1, s2, by omega, by omega, h1, h2, hown, fun w hw hb => ok.again w (by rw [hown]; exact hb) (by rw [hw, ← hwd]), fun w h0 hw hf => ?_, fun hb => size_bit (by rw [hown]; exact hb)⟩
  have := own_only (sigsOk_ok s1) x w (Sz.size x w).1 s2 h0 (by rw [← hf]) (by omega)
  rw [hown] at this
  exact hw this
theorem Szd.wz {d : Flat} {a : E} (h : Szd d a) : wide a 0 = a.w := by
  have := h.one
  rw [wide_zero, h.own, told, if_neg (by omega)]
theorem Szd.size0 {d : Flat} {a : E} (h : Szd d a) : Sz.size a 0 = (a, 0) := h.size 0 h.wz (by omega)
theorem Szd.sizeW {d : Flat} {a : E} (h : Szd d a) : Sz.size a a.w = (a, 0) := by
  have := h.one
  exact h.size a.w (wide_of (by omega) (by omega)) (by omega)
theorem Szd.noW {d : Flat} {a : E} (h : Szd d a) {w : Int} (h1 : 1 ≤ w) (h2 : w ≠ a.w) : (Sz.size a w).2 ≠ 0 := h.no w (by omega) (by rw [wide_of (by omega) (by omega)]; exact h2)
theorem Szd.size1 {d : Flat} {a : E} (h : Szd d a) (h1 : a.w = 1) : Sz.size a (-1) = (a, 0) := h.size (-1) (by rw [wide_bit, h1]) (by omega)
end Fil.Sz

namespace Fil.Sz
open Abs
def unE (n : Int) (a : E) : E := .mk 4 0 0 0 0 0 n [a]
def condE (c a b : E) : E := .mk 6 0 0 0 0 0 0 [c, a, b]
def catE (a b : E) : E := .mk 7 0 0 0 0 0 0 [a, b]
def extE (n w : Int) (a : E) : E := .mk 8 w 0 0 0 0 n [a]
theorem exprD_size {d : Flat} {e : E} {w : Int} (h1 : sigsOk d.sigs = true) (h2 : 0 ≤ w ∧ w ≤ 64) (h3 : shp d.sigs e = true) (h4 : nodes e ≤ 65536 ∧ deep e ≤ 64) : exprD d e w = size e w := by
  unfold exprD
  rw [if_neg (by rw [h1, h3]; simp; omega), if_neg (by omega)]
theorem deep_one {op w v sg hi lo n : Int} {a : E} : deep (.mk op w v sg hi lo n [a]) = 1 + deep a := by
  rw [deep_eq]; simp [E.l, maxL]
theorem deep_two {op w v sg hi lo n : Int} {a b : E} : deep (.mk op w v sg hi lo n [a, b]) = 1 + max (deep a) (deep b) := by
  rw [deep_eq]; simp [E.l, maxL]
theorem deep_three {op w v sg hi lo n : Int} {a b c : E} : deep (.mk op w v sg hi lo n [a, b, c]) = 1 + max (deep a) (max (deep b) (deep c)) := by
  rw [deep_eq]; simp [E.l, maxL]
theorem nodes_one {op w v sg hi lo n : Int} {a : E} : nodes (.mk op w v sg hi lo n [a]) = 1 + nodes a := by
  rw [nodes_eq]; simp [E.l]
theorem nodes_two {op w v sg hi lo n : Int} {a b : E} : nodes (.mk op w v sg hi lo n [a, b]) = 1 + nodes a + nodes b := by
  rw [nodes_eq]; simp [E.l]; omega
theorem nodes_three {op w v sg hi lo n : Int} {a b c : E} : nodes (.mk op w v sg hi lo n [a, b, c]) = 1 + nodes a + nodes b + nodes c := by
  rw [nodes_eq]; simp [E.l]; omega
theorem deep_numE (v : Int) : deep (numE v) = 1 := by rw [deep_eq]; simp [numE, E.l, maxL]
theorem nodes_numE (v : Int) : nodes (numE v) = 1 := by rw [nodes_eq]; simp [numE, E.l]
theorem shp_numE (g : List Sg) (v : Int) : shp g (numE v) = true := by rw [shp_eq]; simp [numE, node, E.op, E.w, E.v, E.sig, E.hi, E.lo, E.n, E.l]
theorem wide_numE {v w : Int} (h1 : w ≠ 0) (h2 : w ≠ -1) : wide (numE v) w = w := wide_of h1 h2
theorem size_numE {v w : Int} (h1 : 1 ≤ w) (h : holds w v = true) : size (numE v) w = (.mk 1 w v 0 0 0 0 [], 0) := by
  rw [size_num (by omega) rfl rfl, wide_numE (by omega) (by omega)]
  simp [numE, E.v, h]
section
variable {d : Flat} {a b : E}
theorem shp_un {n : Int} (h : Szd d a) (hn : 1 ≤ n ∧ n ≤ 6) : shp d.sigs (unE n a) = true := by
  rw [shp_eq]; simp [unE, node, E.op, E.w, E.v, E.sig, E.hi, E.lo, E.n, E.l, h.shp, hn]
theorem shp_bin {n : Int} (h : Szd d a) (h' : Szd d b) (hn : 11 ≤ n ∧ n ≤ 26) : shp d.sigs (binE n a b) = true := by
  rw [shp_eq]; simp [binE, node, E.op, E.w, E.v, E.sig, E.hi, E.lo, E.n, E.l, h.shp, h'.shp, hn]
theorem shp_cat (h : Szd d a) (h' : Szd d b) : shp d.sigs (catE a b) = true := by
  rw [shp_eq]; simp [catE, node, E.op, E.w, E.v, E.sig, E.hi, E.lo, E.n, E.l, h.shp, h'.shp]
theorem shp_cond (h : Szd d a) (v u : Int) : shp d.sigs (condE a (numE v) (numE u)) = true := by
  rw [shp_eq]; simp [condE, node, E.op, E.w, E.v, E.sig, E.hi, E.lo, E.n, E.l, h.shp, shp_numE]
theorem shp_ext {n w : Int} (h : Szd d a) (hn : 31 ≤ n ∧ n ≤ 33) (hw : 1 ≤ w ∧ w ≤ 64) : shp d.sigs (extE n w a) = true := by
  rw [shp_eq]; simp [extE, node, E.op, E.w, E.v, E.sig, E.hi, E.lo, E.n, E.l, h.shp, hn, hw]
theorem size_no (h : Szd d a) : size (unE 6 a) 0 = if a.w = 1 then (.mk 4 1 0 0 0 0 6 [a], 0) else (zE, 91) := by
  have ho : own (unE 6 a) = 1 := by rw [own4 rfl, if_neg (by simp [unE, E.n])]
  have hw : wide (unE 6 a) 0 = 1 := by rw [wide_zero, ho]; rfl
  rw [size_some (ws := [-1]) (by omega) (by simp [unE, E.op]) (by rw [hw]; simp [wants, unE, E.op, E.n, E.l])]
  unfold sizeK
  rw [hw]
  have h1 := h.one
  by_cases q : a.w = 1
  · rw [if_pos q]
    simp [runL, unE, E.l, h.size1 q, E.op, E.set, E.v, E.sig, E.hi, E.lo, E.n]
  · rw [if_neg q]
    simp [runL, unE, E.l, h.bit (by omega)]
theorem size_all (h : Szd d a) : size (unE 3 a) 0 = (.mk 4 1 0 0 0 0 3 [a], 0) := by
  have ho : own (unE 3 a) = 1 := by rw [own4 rfl, if_neg (by simp [unE, E.n])]
  have hw : wide (unE 3 a) 0 = 1 := by rw [wide_zero, ho]; rfl
  rw [size_some (ws := [0]) (by omega) (by simp [unE, E.op]) (by rw [hw]; simp [wants, unE, E.op, E.n, E.l])]
  unfold sizeK
  rw [hw]
  simp [runL, unE, E.l, h.size0, E.op, E.set, E.v, E.sig, E.hi, E.lo, E.n]
theorem size_cond (h : Szd d a) : size (condE a (numE 1) (numE 0)) 5 = if a.w = 1 then (.mk 6 5 0 0 0 0 0 [a, .mk 1 5 1 0 0 0 0 [], .mk 1 5 0 0 0 0 0 []], 0) else (zE, 91) := by
  have hw : wide (condE a (numE 1) (numE 0)) 5 = 5 := wide_of (by omega) (by omega)
  rw [size_some (ws := [-1, 5, 5]) (by omega) (by simp [condE, E.op]) (by rw [hw]; simp [wants, condE, E.op])]
  unfold sizeK
  rw [hw]
  have h1 := h.one
  by_cases q : a.w = 1
  · rw [if_pos q]
    simp [runL, condE, E.l, h.size1 q, size_numE (v := 1) (w := 5) (by omega) (by simp [holds]), size_numE (v := 0) (w := 5) (by omega) (by simp [holds]), E.op, E.set, E.v, E.sig, E.hi, E.lo, E.n]
  · rw [if_neg q]
    simp [runL, condE, E.l, h.bit (by omega)]
theorem size_add (h : Szd d a) (h' : Szd d b) : (a.w = b.w → size (binE 14 a b) 0 = (.mk 5 a.w 0 0 0 0 14 [a, b], 0)) ∧ (a.w ≠ b.w → (size (binE 14 a b) 0).2 ≠ 0) := by
  have h1 := h.one
  have ho : own (binE 14 a b) = a.w := by
    rw [own5 rfl, if_pos (by simp [binE, E.n])]; simp [binE, E.l, fst0, h.own]; omega
  have hw : wide (binE 14 a b) 0 = a.w := by rw [wide_zero, ho, told, if_neg (by omega)]
  rw [size_some (ws := [a.w, a.w]) (by omega) (by simp [binE, E.op]) (by rw [hw]; simp [wants, binE, E.op, E.n, E.l])]
  unfold sizeK
  rw [hw]
  constructor
  · intro q
    have hb : size b a.w = (b, 0) := by rw [q]; exact h'.sizeW
    simp [runL, binE, E.l, h.sizeW, hb, E.op, E.set, E.v, E.sig, E.hi, E.lo, E.n]
  · intro q
    have hb := h'.noW h1 q
    simp [runL, binE, E.l, h.sizeW, hb]
theorem size_lt (h : Szd d a) (h' : Szd d b) : (a.w = b.w → size (binE 21 a b) 0 = (.mk 5 1 0 0 0 0 21 [a, b], 0)) ∧ (a.w ≠ b.w → (size (binE 21 a b) 0).2 ≠ 0) := by
  have h1 := h.one
  have ho : own (binE 21 a b) = 1 := by
    rw [own5 rfl, if_neg (by simp [binE, E.n]), if_neg (by simp [binE, E.n])]
  have hw : wide (binE 21 a b) 0 = 1 := by rw [wide_zero, ho, told, if_neg (by omega)]
  have hf : fst0 ((binE 21 a b).l.map own) = a.w := by simp [binE, E.l, fst0, h.own]; omega
  rw [size_some (ws := [a.w, a.w]) (by omega) (by simp [binE, E.op]) (by
    rw [hw]; unfold wants; rw [hf]; simp [binE, E.op, E.n, E.l, told]; omega)]
  unfold sizeK
  rw [hw]
  constructor
  · intro q
    have hb : size b a.w = (b, 0) := by rw [q]; exact h'.sizeW
    simp [runL, binE, E.l, h.sizeW, hb, E.op, E.set, E.v, E.sig, E.hi, E.lo, E.n]
  · intro q
    have hb := h'.noW h1 q
    simp [runL, binE, E.l, h.sizeW, hb]
theorem size_shl (h : Szd d a) (h' : Szd d b) : size (binE 17 a b) 0 = (.mk 5 a.w 0 0 0 0 17 [a, b], 0) := by
  have h1 := h.one
  have ho : own (binE 17 a b) = a.w := by
    rw [own5 rfl, if_neg (by simp [binE, E.n]), if_pos (by simp [binE, E.n])]; simp [binE, E.l, h.own]
  have hw : wide (binE 17 a b) 0 = a.w := by rw [wide_zero, ho, told, if_neg (by omega)]
  rw [size_some (ws := [a.w, 0]) (by omega) (by simp [binE, E.op]) (by rw [hw]; simp [wants, binE, E.op, E.n, E.l])]
  unfold sizeK
  rw [hw]
  simp [runL, binE, E.l, h.sizeW, h'.size0, E.op, E.set, E.v, E.sig, E.hi, E.lo, E.n]
theorem size_cat (h : Szd d a) (h' : Szd d b) : (a.w + b.w ≤ 64 → size (catE a b) 0 = (.mk 7 (a.w + b.w) 0 0 0 0 0 [a, b], 0)) ∧ (¬ a.w + b.w ≤ 64 → (size (catE a b) 0).2 ≠ 0) := by
  have h1 := h.one
  have h2 := h'.one
  have ho : own (catE a b) = a.w + b.w := by
    rw [own7 rfl]; simp [catE, E.l, cat0, h.own, h'.own]; omega
  have hw : wide (catE a b) 0 = a.w + b.w := by rw [wide_zero, ho, told, if_neg (by omega)]
  constructor
  · intro q
    rw [size_some (ws := [0, 0]) (by omega) (by simp [catE, E.op]) (by rw [wants7 rfl, ho, hw, if_neg (by omega)]; simp [catE, E.l])]
    unfold sizeK
    rw [hw]
    simp [runL, catE, E.l, h.size0, h'.size0, E.op, E.set, E.v, E.sig, E.hi, E.lo, E.n]
  · intro q
    rw [size_none (by omega) (by simp [catE, E.op]) (by rw [wants7 rfl, ho, hw, if_pos (by omega)])]
    simp
theorem size_ext {n w : Int} (h : Szd d a) (hn : 31 ≤ n ∧ n ≤ 33) (hw : 1 ≤ w) : ((if n = 33 then w ≤ a.w else a.w ≤ w) → size (extE n w a) 0 = (.mk 8 w 0 0 0 0 n [a], 0)) ∧ (¬ (if n = 33 then w ≤ a.w else a.w ≤ w) → (size (extE n w a) 0).2 ≠ 0) := by
  have ho : own (extE n w a) = w := own8 rfl
  have hwd : wide (extE n w a) 0 = w := by rw [wide_zero, ho, told, if_neg (by omega)]
  rw [size_some (ws := [0]) (by omega) (by simp [extE, E.op]) (by rw [hwd, wants0 (.inr (.inr (.inr rfl))), if_neg (by omega)]; simp [extE, E.l])]
  unfold sizeK
  rw [hwd]
  by_cases q : n = 33
  · subst q
    simp only [if_true]
    constructor
    · intro q
      simp [runL, extE, E.l, h.size0, E.op, E.set, E.v, E.sig, E.hi, E.lo, E.n, part0]; exact q
    · intro q
      simp [runL, extE, E.l, h.size0, E.op, E.set, E.v, E.sig, E.hi, E.lo, E.n, part0]; rw [if_pos (by omega)]; simp
  · simp only [if_neg q]
    constructor
    · intro q2
      simp [runL, extE, E.l, h.size0, E.op, E.set, E.v, E.sig, E.hi, E.lo, E.n, part0]; exact ⟨fun h => (q h).elim, fun _ => q2⟩
    · intro q2
      simp [runL, extE, E.l, h.size0, E.op, E.set, E.v, E.sig, E.hi, E.lo, E.n, part0]; rw [if_pos (.inr ⟨q, by omega⟩)]; simp
end
end Fil.Sz

namespace Fil.Sz
open Abs
theorem size_bad {e : E} {w : Int} (h : (size e w).2 ≠ 0) : (size e w).1 = zE := by
  rw [size_eq] at h ⊢
  split
  · rfl
  rename_i q1
  rw [if_neg q1] at h
  split
  · rename_i q2
    rw [if_pos q2] at h
    split
    · rename_i q3; rw [if_pos q3] at h; simp at h
    · rfl
  · rename_i q2
    rw [if_neg q2] at h
    split
    · rfl
    · rename_i ws hws
      rw [hws] at h
      simp only [sizeK] at h ⊢
      split
      · rfl
      rename_i q3
      rw [if_neg q3] at h
      split
      · rfl
      · rename_i q4; rw [if_neg q4] at h; simp at h
theorem exprD_zero {d : Flat} {e : E} {w : Int} (h : (exprD d e w).2 ≠ 0) : (exprD d e w).1 = zE := by
  unfold exprD at h ⊢
  split
  · rfl
  rename_i q1
  rw [if_neg q1] at h
  split
  · rfl
  rename_i q2
  rw [if_neg q2] at h
  exact size_bad h
theorem want_ok {d : Flat} {e x : E} {w : Int} (h : exprD d e w = (x, 0)) : (w = 0 ∨ x.w = w) ∧ (1 ≤ x.w ∧ x.w ≤ 64) ∧ exprD d x x.w = (x, 0) ∧ exprD d x 0 = (x, 0) ∧ checkE d x = 0 := by
  unfold exprD at h
  split at h
  · simp at h
  rename_i q1
  split at h
  · simp at h
  rename_i q2
  have s1 : sigsOk d.sigs = true := by
    cases q : sigsOk d.sigs with
    | true => rfl
    | false => exact (q1 (.inl q)).elim
  have s2 : shp d.sigs e = true := by
    cases q : shp d.sigs e with
    | true => rfl
    | false => exact (q1 (.inr (.inr (.inr q)))).elim
  have ok := size_main (sigsOk_ok s1) e w x s2 (by omega) h
  have hwd := ok.wd
  have h1 := ok.pos
  obtain ⟨h2, h3⟩ := ok.shp (by omega)
  have hn := ok.nodes
  have hd := ok.deep
  have e1 : exprD d x x.w = (x, 0) := by
    rw [exprD_size s1 (by omega) h3 (by omega)]
    exact ok.again _ (by omega) (by rw [wide_of (by omega) (by omega)]; exact hwd)
  have e2 : exprD d x 0 = (x, 0) := by
    rw [exprD_size s1 (by omega) h3 (by omega)]
    exact ok.again _ (by omega) (by rw [wide_zero, ok.own, told, if_neg (by omega)])
  refine ⟨?_, by omega, e1, e2, ?_⟩
  · by_cases q : w = 0
    · exact .inl q
    · refine .inr ?_
      rw [hwd, wide_of q (by omega)]
  · unfold checkE
    rw [e1]
    simp
    omega
theorem num_fit {v w : Int} (h : 1 ≤ w ∧ w ≤ 64) : exprD oneD (numE v) w = if holds w v then (.mk 1 w v 0 0 0 0 [], 0) else (zE, 92) := by
  rw [exprD_size oneG_ok (by omega) (shp_numE _ v) (by rw [nodes_numE, deep_numE]; omega), size_num (by omega) rfl rfl, wide_numE (by omega) (by omega)]
  rfl
theorem num_own {v w k : Int} (h : 1 ≤ w ∧ w ≤ 64) (hk : 1 ≤ k ∧ k ≤ 64) (hv : holds w v = true) : exprD oneD (.mk 1 w v 0 0 0 0 []) k = if k = w then (.mk 1 w v 0 0 0 0 [], 0) else (zE, 90) := by
  have ho : own (.mk 1 w v 0 0 0 0 []) = w := own1 rfl
  have hw : wide (.mk 1 w v 0 0 0 0 []) k = k := wide_of (by omega) (by omega)
  have hs : shp oneD.sigs (.mk 1 w v 0 0 0 0 []) = true := by
    rw [shp_eq]; simp [node, E.op, E.w, E.v, E.sig, E.hi, E.lo, E.n, E.l, hv]; omega
  rw [exprD_size oneG_ok (by omega) hs (by rw [nodes_eq, deep_eq]; simp [E.l, maxL])]
  by_cases q : k = w
  · subst q
    rw [if_pos rfl, size_some (ws := []) (by omega) (by simp [E.op, E.w]; omega) (by rw [hw, wants0 (.inl rfl), if_neg (by omega)]; simp [E.l])]
    unfold sizeK
    rw [hw]
    simp [runL, E.l, E.op, E.set, E.v, E.sig, E.hi, E.lo, E.n]
  · rw [if_neg q, size_none (by omega) (by simp [E.op, E.w]; omega) (by rw [hw, wants0 (.inl rfl), if_pos (by omega)])]
end Fil.Sz

