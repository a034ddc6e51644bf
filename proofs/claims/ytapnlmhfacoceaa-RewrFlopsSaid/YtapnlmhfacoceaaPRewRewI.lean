/- rewr: contracts of least; joined. -/
import Derived.Shelf.Slices.Cells
import Derived.Test.YtapnlmhfacoceaaPRwSweep
set_option linter.unusedSimpArgs false
set_option linter.unusedVariables false
namespace Go.Proofs.Ytapnlmhfacoceaa
open Abs Fil Fil.Rw
open Eqv (moveL)
def Rts (σ : Sig) (l : List Int) : ARes → Sig → Prop := fun r s =>
 (l = [] ∧ (r = .ret (.slice [] .nil) ∨ r = .ret (.slice [] .full)) ∧ s = σ) ∨ (l ≠ [] ∧ NewO σ (fun o => .vec o l.length) (.vec 1 l.length (l.map encInt)) r s)
theorem flat_ints (l : List Int) : flat (l.map encInt) = l.map encInt := by
 induction l with
 | nil => rfl
 | cons a l ih => simp only [List.map_cons, flat_cons, ih]; rfl
set_option maxRecDepth 20000 in
theorem rw_Clone (l : List Int) (t : Tok) (σ : Sig) (hl : l.length ≤ 1000000) : ACalls Try.prog 70 [.slice (l.map encInt) t] σ (Rts σ l) := by
 refine calls_x mixed Try.func70 b70 n70 rfl q70 (by simp) ?_; unfold c70 r70
 by_cases h : l = []
 ·subst h
  repeat' simp (maxDischargeDepth := 9) -implicitDefEqProofs -dsimp only [go_sem, seval, List.map_nil, *]
  exact ⟨fin_id (.inl ⟨rfl, .inl rfl, rfl⟩), fin_id (.inl ⟨rfl, .inr rfl, rfl⟩)⟩
 ·obtain ⟨a, m, rfl⟩ : ∃ a m, l = a :: m := by cases l with | nil => exact absurd rfl h | cons a m => exact ⟨a, m, rfl⟩
  have hfi : flat (encInt a :: List.map encInt m) = encInt a :: List.map encInt m := flat_ints (a :: m)
  have hl' : m.length + 1 ≤ 1000000 := hl
  repeat' (first | simp (maxDischargeDepth := 9) -implicitDefEqProofs -dsimp only [go_sem, seval, Nat.zero_add, flat_nil, List.nil_append, *] | ((with_reducible refine Zv ?_ ?_); focus (first | omega | exact rfl)) | ((with_reducible refine Zt (fun oF hoF hnF hnF' => ?_)); (try simp only [upd_none, ne_eq, not_and] at hoF)))
  refine fin_v (.vec oF (a :: m).length) (upd σ oF (.vec 1 (a :: m).length ((a :: m).map encInt))) (.inr ⟨h, oF, hoF, rfl, rfl⟩) ?_ ?_
  ·(repeat' simp (maxDischargeDepth := 9) -implicitDefEqProofs -dsimp only [go_sem, seval, Nat.zero_add, *])
  ·(repeat' simp (maxDischargeDepth := 9) -implicitDefEqProofs -dsimp only [go_sem, seval, Nat.zero_add, flat_nil, List.nil_append, *])
def inN (t : AV) (p : Nat) (l : List Int) : AV := if l = [] then t else .vec p l.length
def inO (l : List Int) : AObj := if l = [] then .virt 1 else .vec 1 l.length (l.map encInt)
theorem inN_nil (t : AV) (p : Nat) : inN t p [] = t := rfl
theorem inO_nil : inO [] = .virt 1 := rfl
theorem inN_ne (t : AV) (p : Nat) {l : List Int} (h : l ≠ []) : inN t p l = .vec p l.length := if_neg h
theorem inO_ne {l : List Int} (h : l ≠ []) : inO l = .vec 1 l.length (l.map encInt) := if_neg h
theorem inN_app (t : AV) (p : Nat) (l : List Int) (x : Int) : inN t p (l ++ [x]) = .vec p (l.length + 1) := by rw [inN_ne t p (by simp)]; simp
theorem inO_app (l : List Int) (x : Int) : inO (l ++ [x]) = .vec 1 (l.length + 1) (l.map encInt ++ [.int .i64 x]) := by rw [inO_ne (by simp)]; simp
theorem virt_same {σ : Sig} {v : Nat} (hv : σ v = some (.virt 1)) : upd σ v (.virt 1) = σ := by
 funext q; by_cases h : q = v
 ·subst h; simp [upd, hv]
 ·simp [upd, h]
def RtsV (σ : Sig) (v : Nat) (l : List Int) : ARes → Sig → Prop := fun r s =>
 ∃ t p, (t = .slice [] .nil ∨ t = .slice [] .full) ∧ (l = [] → p = v) ∧ (l ≠ [] → σ p = none) ∧ r = .ret (inN t p l) ∧ s = upd σ p (inO l)
theorem Rts.toV {σ : Sig} {v : Nat} (hv : σ v = some (.virt 1)) {l : List Int} {r : ARes} {s : Sig} (h : Rts σ l r s) : RtsV σ v l r s := by
 rcases h with ⟨rfl, h | h, rfl⟩ | ⟨h, o, ho, h1, h2⟩
 ·exact ⟨_, v, .inl rfl, fun _ => rfl, fun h => absurd rfl h, h, (virt_same hv).symm⟩
 ·exact ⟨_, v, .inr rfl, fun _ => rfl, fun h => absurd rfl h, h, (virt_same hv).symm⟩
 ·exact ⟨.slice [] .nil, o, .inl rfl, fun e => absurd e h, fun _ => ho, by rw [inN_ne _ _ h]; exact h1, by rw [inO_ne h]; exact h2⟩
theorem inN_1 (t : AV) (p : Nat) (x : Int) : inN t p [x] = .vec p 1 := inN_ne t p (by simp)
theorem inO_1 (x : Int) : inO [x] = .vec 1 1 [.int .i64 x] := inO_ne (by simp)
theorem flat_int1 (x : Int) : flat [.int .i64 x] = [.int .i64 x] := rfl
def curR (g : Aig) (i : Nat) : List Int := g.outs ++ (g.flops.map (·.next)).take i
set_option maxRecDepth 20000 in
set_option maxHeartbeats 4000000 in
theorem rw_roots (g : Aig) (σ : Sig) (hf : g.flops.length ≤ 100000) (ho : g.outs.length ≤ 100000) : ACalls Try.prog 39 [encAig g] σ (Rts σ (rts g)) := by
 refine ACalls.virt (callable_of Try.func39 b39 n39) 1 (fun oV1 hoV1 hnV1 hnV1' => ?_); (try simp only [upd_none, ne_eq, not_and] at hoV1); refine calls_x mixed Try.func39 b39 n39 rfl q39 (by simp) ?_; unfold c39 r39
 have hc := fun τ t hv => (rw_Clone g.outs t τ (by omega)).mono fun r s h => Rts.toV (v := oV1) hv h
 have e0 : curR g 0 = g.outs := by simp [curR]
 have eN : curR g g.flops.length = rts g := by unfold curR rts; rw [List.take_of_length_le (by simp)]
 have hlen : ∀ i, (curR g i).length ≤ 200000 := fun i => by simp only [curR, List.length_append, List.length_take, List.length_map]; omega
 repeat' simp (maxDischargeDepth := 9) -implicitDefEqProofs -dsimp only [go_sem, seval, *]
 refine (hc _ _ (by simp (maxDischargeDepth := 9) -implicitDefEqProofs -dsimp only [go_sem, seval, *])).mono ?_
 rintro r s ⟨t, p, ht, hp0, hp1, rfl, rfl⟩
 repeat' simp (maxDischargeDepth := 9) -implicitDefEqProofs -dsimp only [go_sem, seval, *]
 refine loop_rule (fun x : Nat × Nat => [(12, some (.int .i64 x.1)), (11, some (.int .i64 g.flops.length)), (10, some (.slice (g.flops.map encFlop) .no)), (3, some (inN t x.2 (curR g x.1)))])
  (fun x => upd (upd σ oV1 (.virt 1)) x.2 (inO (curR g x.1)))
  (fun x => x.1 ≤ g.flops.length ∧ (curR g x.1 = [] → x.2 = oV1) ∧ (curR g x.1 ≠ [] → σ x.2 = none ∧ ¬ x.2 = oV1 ∧ ¬ oV1 = x.2)) (fun x => g.flops.length - x.1) (0, p) ?_ ?_
 ·have h2 : g.outs ≠ [] → σ p = none ∧ ¬ p = oV1 ∧ ¬ oV1 = p := fun h => by
   have := hp1 h
   have hne : ¬ p = oV1 := fun e => by subst e; simp [upd] at this
   exact ⟨by simpa [upd, hne] using this, hne, fun e => hne e.symm⟩
  have h3 : 0 ≤ g.flops.length := Nat.zero_le _
  clear eN hc hlen hp1
  (repeat' simp (maxDischargeDepth := 9) -implicitDefEqProofs -dsimp only [go_sem, seval, *]) <;> (repeat' refine And.intro ?_ ?_) <;> (first | omega | skip)
 ·rintro ⟨i, p⟩ ⟨hi, h1, h2⟩
  simp only at hi h1 h2 ⊢
  have hl := hlen i
  clear hp0 hp1 hc hlen e0
  by_cases hlt : i < g.flops.length
  ·have hlt' : (i : Int) < g.flops.length := by omega
   have hS : curR g (i + 1) = curR g i ++ [g.flops[i].next] := by
    unfold curR
    rw [take_succ (by simpa using hlt), List.getElem_map, List.append_assoc]
   obtain ⟨L, hL⟩ : ∃ L, curR g i = L := ⟨_, rfl⟩
   rw [hL] at h1 h2 hS hl ⊢
   obtain ⟨f, hf'⟩ : ∃ f, g.flops[i] = f := ⟨_, rfl⟩
   rw [hf'] at hS
   clear eN
   by_cases hK : L = []
   ·subst hK
    obtain rfl := h1 rfl
    clear h1 h2
    rw [inN_nil, inO_nil]
    rcases ht with rfl | rfl
    all_goals
     repeat' (first | simp (maxDischargeDepth := 9) -implicitDefEqProofs -dsimp only [go_sem, seval, Nat.zero_add, flat_nil, List.nil_append, flat_agg1, *] | simp (disch := omega) only [wrap64] | ((with_reducible refine Zu ?_ ?_); focus omega) | ((with_reducible refine Zt (fun oF hoF hnF hnF' => ?_)); (try simp only [upd_none, ne_eq, not_and] at hoF)))
     obtain ⟨r1, r2, r3⟩ := id hoF
     have r4 : curR g (i + 1) ≠ [] := by rw [hS]; simp
     refine loop_next _ _ _ _ (i + 1, oF) ⟨?_, ?_, ⟨hlt, fun e => absurd e r4, fun _ => ⟨r3, r2, fun e => r2 e.symm⟩⟩, by simp only; omega⟩
     ·rw [hS, List.nil_append, inN_1]; clear hS r4; (repeat' simp (maxDischargeDepth := 9) -implicitDefEqProofs -dsimp only [go_sem, seval, *])
     ·rw [hS, List.nil_append, inO_1]; clear hS r4; (repeat' simp (maxDischargeDepth := 9) -implicitDefEqProofs -dsimp only [go_sem, seval, flat_int1, *])
   ·obtain ⟨q1, q2, q3⟩ := h2 hK
    clear h1 h2
    rw [inN_ne _ _ hK, inO_ne hK]
    repeat' (first | simp (maxDischargeDepth := 9) -implicitDefEqProofs -dsimp only [go_sem, seval, Nat.zero_add, flat_nil, List.nil_append, flat_agg1, *] | simp (disch := omega) only [wrap64] | ((with_reducible refine Zv ?_ ?_); focus (first | omega | exact rfl)) | ((with_reducible refine Zu ?_ ?_); focus omega) | ((with_reducible refine Zt (fun oF hoF hnF hnF' => ?_)); (try simp only [upd_none, ne_eq, not_and] at hoF)))
    have r4 : curR g (i + 1) ≠ [] := by rw [hS]; simp
    refine loop_next _ _ _ _ (i + 1, p) ⟨?_, ?_, ⟨hlt, fun e => absurd e r4, fun _ => ⟨q1, q2, q3⟩⟩, by simp only; omega⟩
    ·rw [hS]; (repeat' simp (maxDischargeDepth := 9) -implicitDefEqProofs -dsimp only [go_sem, seval, inN_app, inO_app, List.length_nil, Nat.zero_add, *])
    ·rw [hS]; (repeat' simp (maxDischargeDepth := 9) -implicitDefEqProofs -dsimp only [go_sem, seval, inN_app, inO_app, List.length_nil, Nat.zero_add, flat_int1, *])
  ·have hlt' : ¬ (i : Int) < g.flops.length := by omega
   have ei : i = g.flops.length := by omega
   subst ei
   rw [eN] at h1 h2 ⊢
   repeat' simp (maxDischargeDepth := 9) -implicitDefEqProofs -dsimp only [go_sem, seval, *]
   by_cases hK : rts g = []
   ·rw [hK] at h1 ⊢
    obtain rfl := h1 rfl
    rw [inN_nil, inO_nil]
    refine fin_v t σ (.inl ⟨rfl, ?_, rfl⟩) ?_ ?_
    ·rcases ht with rfl | rfl
     ·exact .inl rfl
     ·exact .inr rfl
    ·rcases ht with rfl | rfl
     ·simp (maxDischargeDepth := 9) -implicitDefEqProofs -dsimp only [go_sem, seval, *]
     ·simp (maxDischargeDepth := 9) -implicitDefEqProofs -dsimp only [go_sem, seval, *]
    ·refine subx_of fun q x hq => ?_
     have hqp : ¬ q = p := fun e => by subst e; rw [hoV1] at hq; simp at hq
     simp only [upd, hqp, if_false]; exact hq
   ·obtain ⟨q1, q2, q3⟩ := h2 hK
    rw [inN_ne _ _ hK, inO_ne hK]
    refine fin_v (.vec p (rts g).length) (upd σ p (.vec 1 (rts g).length ((rts g).map encInt))) (.inr ⟨hK, p, q1, rfl, rfl⟩) ?_ ?_
    ·(repeat' simp (maxDischargeDepth := 9) -implicitDefEqProofs -dsimp only [go_sem, seval, *])
    ·refine subx_of fun q x hq => ?_
     by_cases hqp : q = p
     ·subst hqp; simpa [upd] using hq
     ·have hqv : ¬ q = oV1 := fun e => by subst e; simp [upd, hqp, hoV1] at hq
      simp only [upd, hqp, hqv, if_false] at hq ⊢; exact hq
end Go.Proofs.Ytapnlmhfacoceaa

namespace Fil.Rw
open Abs
open Eqv (moveL)
def opsG (g : Aig) : List Int := g.ands.flatMap fun x => [x.1, x.2]
def cntL (l : List Int) (n : Int) : Nat := (l.filter fun a => decide (a / 2 = n)).length
def lastP (l : List Int) (n : Int) : Bool := l.foldl (fun b a => if a / 2 = n then decide (a % 2 = 0) else b) false
def innM (g : Aig) (n : Int) : Bool := decide (g.first ≤ n) && decide (cntL (opsG g) n + 2 * cntL (rts g) n = 1) && lastP (opsG g) n
def addK (k : Int) (m : List (Int × Int)) (l : List Int) : List (Int × Int) := l.foldl (fun m a => sk m (a / 2) ((gk m (a / 2)).getD 0 + k)) m
def plK (l : List Int) : List (Int × Bool) := l.foldl (fun m a => sk m (a / 2) (decide (a % 2 = 0))) []
def nmK (g : Aig) : List (Int × Int) := addK 2 (addK 1 [] (opsG g)) (rts g)
theorem addK_snoc (k : Int) (m : List (Int × Int)) (l : List Int) (a : Int) : addK k m (l ++ [a]) = sk (addK k m l) (a / 2) ((gk (addK k m l) (a / 2)).getD 0 + k) := by simp [addK]
theorem plK_snoc (l : List Int) (a : Int) : plK (l ++ [a]) = sk (plK l) (a / 2) (decide (a % 2 = 0)) := by simp [plK]
theorem cntL_snoc (l : List Int) (a n : Int) : cntL (l ++ [a]) n = cntL l n + if a / 2 = n then 1 else 0 := by
 simp only [cntL, List.filter_append, List.length_append]
 congr 1
 by_cases h : a / 2 = n <;> simp [h]
theorem lastP_snoc (l : List Int) (a n : Int) : lastP (l ++ [a]) n = if a / 2 = n then decide (a % 2 = 0) else lastP l n := by simp [lastP]
theorem snoc_ind {α : Type} {P : List α → Prop} (h0 : P []) (h1 : ∀ l a, P l → P (l ++ [a])) (l : List α) : P l := by
 have : ∀ m : List α, P m.reverse := fun m => by
  induction m with
  | nil => exact h0
  | cons a m ih => rw [List.reverse_cons]; exact h1 _ _ ih
 have e := this l.reverse
 rwa [List.reverse_reverse] at e
theorem addK_get (k : Int) (m : List (Int × Int)) (l : List Int) (n : Int) : (gk (addK k m l) n).getD 0 = (gk m n).getD 0 + k * cntL l n := by
 induction l using snoc_ind with
 | h0 => simp [addK, cntL]
 | h1 l a ih =>
  rw [addK_snoc, gk_sk, cntL_snoc]
  by_cases h : n = a / 2
  ·subst h
   rw [if_pos rfl, if_pos rfl, Option.getD_some, ih]
   simp only [Int.natCast_add, Int.mul_add]; simp; omega
  ·have h' : ¬ a / 2 = n := fun e => h e.symm
   rw [if_neg h, if_neg h', ih]; simp
theorem addK_uq (k : Int) {m : List (Int × Int)} (h : Uq m) (l : List Int) : Uq (addK k m l) := by
 induction l using snoc_ind with
 | h0 => exact h
 | h1 l a ih => rw [addK_snoc]; exact ih.sk
theorem plK_get (l : List Int) (n : Int) : (gk (plK l) n).getD false = lastP l n := by
 induction l using snoc_ind with
 | h0 => rfl
 | h1 l a ih =>
  rw [plK_snoc, gk_sk, lastP_snoc]
  by_cases h : n = a / 2
  ·subst h; simp
  ·have h' : ¬ a / 2 = n := fun e => h e.symm
   rw [if_neg h, if_neg h', ih]
theorem cntL_le (l : List Int) (n : Int) : cntL l n ≤ l.length := List.length_filter_le _ _
theorem opsG_len (g : Aig) : (opsG g).length = 2 * g.ands.length := by
 unfold opsG
 induction g.ands with
 | nil => rfl
 | cons x l ih => simp only [List.flatMap_cons, List.length_append, List.length_cons, List.length_nil] at ih ⊢; omega
theorem uq_get {α : Type} : ∀ {l : List (Int × α)}, Uq l → ∀ {i : Nat} {p : Int × α}, l[i]? = some p → gk l p.1 = some p.2
 | q :: r, h, 0, p, e => by
  simp at e; subst e; simp [gk]
 | q :: r, h, i + 1, p, e => by
  unfold Uq at h
  simp only [List.map_cons, List.nodup_cons] at h
  have e' : r[i]? = some p := by simpa using e
  have hm : p.1 ∈ r.map (·.1) := List.mem_map.2 ⟨p, List.mem_of_getElem? e', rfl⟩
  have hne : ¬ q.1 = p.1 := fun e => h.1 (e ▸ hm)
  simp only [gk, hne, if_false]
  exact uq_get h.2 e'
theorem gk_mem {α : Type} {n : Int} {v : α} : ∀ {l : List (Int × α)}, gk l n = some v → ∃ i : Nat, l[i]? = some (n, v)
 | q :: r, h => by
  unfold gk at h
  by_cases c : q.1 = n
  ·rw [if_pos c] at h
   simp only [Option.some.injEq] at h
   exact ⟨0, by simp [← c, ← h]⟩
  ·rw [if_neg c] at h
   obtain ⟨i, hi⟩ := gk_mem h
   exact ⟨i + 1, by simpa using hi⟩
theorem nmK_uq (g : Aig) : Uq (nmK g) := addK_uq 2 (addK_uq 1 (by simp [Uq]) _) _
theorem nmK_get (g : Aig) (n : Int) : (gk (nmK g) n).getD 0 = ((cntL (opsG g) n + 2 * cntL (rts g) n : Nat) : Int) := by
 unfold nmK
 rw [addK_get, addK_get]
 simp [gk]
theorem nmK_entry {g : Aig} {i : Nat} {p : Int × Int} (h : (nmK g)[i]? = some p) : p.2 = ((cntL (opsG g) p.1 + 2 * cntL (rts g) p.1 : Nat) : Int) := by
 have := uq_get (nmK_uq g) h
 rw [← nmK_get, this]; rfl
theorem innM_of {g : Aig} {i : Nat} {p : Int × Int} (h : (nmK g)[i]? = some p) : innM g p.1 = (decide (g.first ≤ p.1) && decide (p.2 = 1) && lastP (opsG g) p.1) := by
 rw [nmK_entry h]
 unfold innM
 congr 2
 apply decide_eq_decide.2
 omega
theorem innM_none {g : Aig} {n : Int} (h : gk (nmK g) n = none) : innM g n = false := by
 have := nmK_get g n
 rw [h] at this
 simp only [Option.getD_none] at this
 unfold innM
 have c : ¬ cntL (opsG g) n + 2 * cntL (rts g) n = 1 := by omega
 simp [c]
structure OutI (g : Aig) (seen : List Nat) (o : List (Int × Bool)) : Prop where
 val : ∀ n v, gk o n = some v → v = innM g n
 all : ∀ i ∈ seen, ∀ p, (nmK g)[i]? = some p → gk o p.1 = some (innM g p.1)
theorem out_start (g : Aig) : OutI g [] [] := ⟨fun n v h => by simp [gk] at h, fun i hi => by simp at hi⟩
theorem out_step {g : Aig} {seen : List Nat} {o : List (Int × Bool)} (h : OutI g seen o) {i : Nat} {p : Int × Int} (hp : (nmK g)[i]? = some p) : OutI g (seen ++ [i]) (sk o p.1 (innM g p.1)) := by
 refine ⟨fun n v hk => ?_, fun j hj q hq => ?_⟩
 ·rw [gk_sk] at hk
  split at hk
  ·rename_i e; simp at hk; rw [← hk, e]
  ·exact h.val n v hk
 ·rw [gk_sk]
  split
  ·rename_i e; rw [e]
  ·rename_i e
   rcases List.mem_append.1 hj with r | r
   ·exact h.all j r q hq
   ·simp at r; subst r
    rw [hp] at hq; simp at hq; subst hq
    exact absurd rfl e
theorem out_done {g : Aig} {seen : List Nat} {o : List (Int × Bool)} (h : OutI g seen o) (hall : ∀ i, i < (nmK g).length → i ∈ seen) (n : Int) : (gk o n).getD false = innM g n := by
 cases hk : gk o n with
 | some v => simp [h.val n v hk]
 | none =>
  cases hm : gk (nmK g) n with
  | none => simp [innM_none hm]
  | some c =>
   obtain ⟨i, hi⟩ := gk_mem hm
   have hlt : i < (nmK g).length := by
    rcases Nat.lt_or_ge i (nmK g).length with h' | h'
    ·exact h'
    ·rw [List.getElem?_eq_none h'] at hi; simp at hi
   have := h.all i (hall i hlt) _ hi
   simp only at this
   rw [hk] at this; simp at this
def uns (seen : List Nat) : Nat → Nat
 | 0 => 0
 | i + 1 => uns seen i + if i ∈ seen then 0 else 1
theorem uns_add {seen : List Nat} {j : Nat} (hj : j ∉ seen) : ∀ n, uns (seen ++ [j]) n + (if j < n then 1 else 0) = uns seen n
 | 0 => by simp [uns]
 | n + 1 => by
  have ih := uns_add hj n
  unfold uns
  by_cases e : n = j
  ·subst e
   have c1 : n ∈ seen ++ [n] := by simp
   have c2 : (if n < n then 1 else 0) = 0 := if_neg (by omega)
   have c3 : (if n < n + 1 then 1 else 0) = 1 := if_pos (by omega)
   rw [if_pos c1, if_neg hj, c3]; rw [c2] at ih; omega
  ·have c : (n ∈ seen ++ [j]) ↔ n ∈ seen := by simp [e]
   have c' : (if n ∈ seen ++ [j] then (0 : Nat) else 1) = if n ∈ seen then 0 else 1 := by simp [c]
   rw [c']
   by_cases h1 : j < n
   ·have c2 : (if j < n + 1 then 1 else 0) = 1 := if_pos (by omega)
    rw [if_pos h1] at ih; rw [c2]; omega
   ·have c2 : (if j < n + 1 then 1 else 0) = 0 := if_neg (by omega)
    rw [if_neg h1] at ih; rw [c2]; omega
theorem ops_take (g : Aig) {i : Nat} (h : i < g.ands.length) : (opsG g).take (2 * i + 1) = (opsG g).take (2 * i) ++ [g.ands[i].1] ∧ (opsG g).take (2 * i + 2) = (opsG g).take (2 * i + 1) ++ [g.ands[i].2] := by
 unfold opsG
 revert i
 induction g.ands with
 | nil => intro i h; simp at h
 | cons x l ih =>
  intro i h
  cases i with
  | zero => simp
  | succ i =>
   have := ih (i := i) (by simpa using h)
   simp only [List.flatMap_cons, List.cons_append, List.nil_append, Nat.mul_add, Nat.mul_one, List.getElem_cons_succ]
   constructor
   ·rw [show 2 * i + 2 + 1 = (2 * i + 1) + 1 + 1 by omega, show 2 * i + 2 = (2 * i) + 1 + 1 by omega]
    simp only [List.take_succ_cons, List.cons_append, this.1]
   ·rw [show 2 * i + 2 + 2 = (2 * i + 2) + 1 + 1 by omega, show 2 * i + 2 + 1 = (2 * i + 1) + 1 + 1 by omega]
    simp only [List.take_succ_cons, List.cons_append, this.2]
end Fil.Rw

namespace Go.Proofs.Ytapnlmhfacoceaa
open Abs Fil Fil.Rw
open Eqv (moveL)
theorem out_of {P : Program} {f : FuncId} {args : List AV} {σ : Sig} {R R' : ARes → Sig → Prop} (h : ACalls P f args σ R) (hR : ∀ r s, R r s → ∃ v, r = .ret v ∧ fin R' v s) : ACalls P f args σ R' := by
 refine ⟨h.1, fun S K w vals hS hr hs => (h.2 S K w vals hS hr hs).mono fun e w' ⟨K', r, σ', k1, k2, k3, k4⟩ => ?_⟩
 obtain ⟨v, rfl, v0, σ0, ⟨F, hv, hf⟩, hR'⟩ := hR r σ' k4
 obtain ⟨K2, m1, m2, m3⟩ := hv S K' w' hS k2
 refine ⟨K2, .ret v0, σ0, k1.trans m1, m2, ?_, hR'⟩
 cases e with
 | returned x => exact m3 _ _ _ hf k3
 | _ => exact k3.elim
theorem int_all (l : List Int) : ∀ x ∈ l.map encInt, (cellsA x).length = 1 := fun x hx => by
 obtain ⟨a, _, rfl⟩ := List.mem_map.1 hx; rfl
theorem rts_list {P : Program} {f : FuncId} {args : List AV} {σ : Sig} {l : List Int} (h : ACalls P f args σ (Rts σ l)) : ACalls P f args σ (fun r s => r = .ret (.slice (l.map encInt) .no) ∧ s = σ) := by
 refine out_of h fun r s hr => ?_
 rcases hr with ⟨rfl, hv | hv, rfl⟩ | ⟨hne, o, ho, h1, h2⟩
 ·refine ⟨_, hv, fin_v (.slice [] .no) s ⟨rfl, rfl⟩ ?_ ?_⟩
  ·simp (maxDischargeDepth := 9) -implicitDefEqProofs -dsimp only [go_sem, seval, *]
  ·simp (maxDischargeDepth := 9) -implicitDefEqProofs -dsimp only [go_sem, seval, *]
 ·refine ⟨_, hv, fin_v (.slice [] .no) s ⟨rfl, rfl⟩ ?_ ?_⟩
  ·simp (maxDischargeDepth := 9) -implicitDefEqProofs -dsimp only [go_sem, seval, *]
  ·simp (maxDischargeDepth := 9) -implicitDefEqProofs -dsimp only [go_sem, seval, *]
 ·refine ⟨_, h1, ?_⟩
  subst h2
  refine fin_frz o (sz := 1) (n := l.length) (cs := l.map encInt) (l := l.map encInt) (v0 := .slice (l.map encInt) .no) (v1 := .slice (l.map encInt) .no) (τ := σ) (by simp [upd]) (flat_ints l) (by simp) (int_all l) (.base _ _ ⟨rfl, .inr rfl⟩) ?_ ?_ ⟨rfl, rfl⟩
  ·simp (maxDischargeDepth := 9) -implicitDefEqProofs -dsimp only [go_sem, seval, *]
  ·refine subx_of fun q x hq => ?_
   have : ¬ q = o := fun e => by subst e; rw [ho] at hq; simp at hq
   simp only [upd, this, if_false]; exact hq
theorem rw_rootsL (g : Aig) (σ : Sig) (hf : g.flops.length ≤ 100000) (ho : g.outs.length ≤ 100000) : ACalls Try.prog 39 [encAig g] σ (fun r s => r = .ret (.slice ((rts g).map encInt) .no) ∧ s = σ) :=
 rts_list (rw_roots g σ hf ho)
theorem map_int (x : Option Int) : (Option.map (AV.int .i64) x).getD (.int .i64 0) = .int .i64 (x.getD 0) := by cases x <;> rfl
theorem map_bool (x : Option Bool) : (Option.map AV.bool x).getD (.bool false) = .bool (x.getD false) := by cases x <;> rfl
def InnR (σ : Sig) (g : Aig) : ARes → Sig → Prop := fun r s => ∃ q m, σ q = none ∧ r = .ret (.map q) ∧ s = upd σ q (.map true (encK .bool m)) ∧ ∀ n, (gk m n).getD false = innM g n
set_option maxRecDepth 20000 in
set_option maxHeartbeats 4000000 in
theorem rw_inner (o : Nat) (g : Aig) (rest : List AV) (σ : Sig) (hB : σ o = some (.cells (.int .i64 g.ins :: .slice (g.flops.map encFlop) .no :: .slice (g.ands.map encGate) .no :: .slice (g.outs.map encInt) .no :: rest))) (hg : Sml g) :
  ACalls Try.prog 51 [.ptr o 0] σ (InnR σ g) := by
 refine calls_x mixed Try.func51 b51 n51 rfl q51 (by simp) ?_; unfold c51 r51
 have hsm : Small g := check_small hg.wf hg.chk
 have h1 := hg.ins
 have h2 := hg.flops
 have h3 := hg.ands
 have h4 := hg.outs
 have hrt := fun τ => rw_rootsL g τ (by omega) (by omega)
 have hfc := fun τ hB => rw_first o g (.slice (g.ands.map encGate) .no :: .slice (g.outs.map encInt) .no :: rest) τ hB hsm
 have hrl : (rts g).length ≤ 120 := by simp only [rts, List.length_append, List.length_map]; omega
 have hno : ¬ σ o = none := by rw [hB]; simp
 repeat' (first | simp (maxDischargeDepth := 9) -implicitDefEqProofs -dsimp only [go_sem, seval, *] | ((with_reducible refine Zt (fun oF hoF hnF hnF' => ?_)); (try simp only [upd_none, ne_eq, not_and] at hoF)))
 rename_i oN hoN hnN hnN'
 obtain ⟨oP, eP⟩ : ∃ x, x = oF := ⟨oF, rfl⟩
 subst eP
 have hNo : ¬ o = oN ∧ ¬ oN = o ∧ ¬ o = oP ∧ ¬ oP = o := by
  have e1 := hnN o hno
  have e2 : ¬ o = oP := fun e => by rw [← e] at hoF; exact hno hoF.2
  exact ⟨e1, fun e => e1 e.symm, e2, fun e => e2 e.symm⟩
 refine loop_rule (fun i : Nat => [(22, some (.int .i64 i)), (21, some (.int .i64 g.ands.length)), (20, some (.slice (g.ands.map encGate) .no)), (3, some (.map oN)), (4, some (.map oP)), (0, some (.ptr o 0))])
  (fun i => upd (upd σ oN (.map true (encK (.int .i64) (addK 1 [] ((opsG g).take (2 * i)))))) oP (.map true (encK .bool (plK ((opsG g).take (2 * i))))))
  (fun i => i ≤ g.ands.length) (fun i => g.ands.length - i) 0 ?_ ?_
 ·have e0 : addK 1 [] ((opsG g).take 0) = [] := rfl
  have e1 : plK ((opsG g).take 0) = [] := rfl
  (repeat' simp (maxDischargeDepth := 9) -implicitDefEqProofs -dsimp only [go_sem, seval, e0, e1, encK_nil, Nat.mul_zero, *]) <;> (repeat' refine And.intro ?_ ?_) <;> (first | omega | rfl | skip)
  all_goals exact fun h => h
 ·intro i hi
  by_cases hlt : i < g.ands.length
  ·have hlt' : (i : Int) < g.ands.length := by omega
   have hb := gate_bounds hg hlt
   obtain ⟨t1, t2⟩ := ops_take g hlt
   have hfst : g.first ≤ 200 := by simp only [Aig.first]; omega
   obtain ⟨x0, hx0⟩ : ∃ x, g.ands[i].1 = x := ⟨_, rfl⟩
   obtain ⟨x1, hx1⟩ : ∃ x, g.ands[i].2 = x := ⟨_, rfl⟩
   rw [hx0, hx1] at hb
   rw [hx0] at t1
   rw [hx1] at t2
   have hlo := hg.lo
   repeat' (first | simp (maxDischargeDepth := 9) -implicitDefEqProofs -dsimp only [go_sem, seval, *] | ((with_reducible refine Zu ?_ ?_); focus omega) | ((with_reducible refine Zt (fun oF hoF hnF hnF' => ?_)); (try simp only [upd_none, ne_eq, not_and] at hoF)))
   refine loop_rule (fun k : Nat => [(27, some (.int .i64 k)), (26, some (.agg [.int .i64 x0, .int .i64 x1])), (22, some (.int .i64 i)), (21, some (.int .i64 g.ands.length)), (20, some (.slice (g.ands.map encGate) .no)), (3, some (.map oN)), (4, some (.map oP)), (0, some (.ptr o 0))])
    (fun k => upd (upd σ oN (.map true (encK (.int .i64) (addK 1 [] ((opsG g).take (2 * i + k)))))) oP (.map true (encK .bool (plK ((opsG g).take (2 * i + k))))))
    (fun k => k ≤ 2) (fun k => 2 - k) 0 ?_ ?_
   ·(repeat' simp (maxDischargeDepth := 9) -implicitDefEqProofs -dsimp only [go_sem, seval, Nat.add_zero, *])
   ·intro k hk
    have hc : ∀ n, 0 ≤ (gk (addK 1 [] ((opsG g).take (2 * i + k))) n).getD 0 ∧ (gk (addK 1 [] ((opsG g).take (2 * i + k))) n).getD 0 ≤ 100000 := fun n => by
     rw [addK_get]
     have := cntL_le ((opsG g).take (2 * i + k)) n
     have e := opsG_len g
     simp only [gk, Option.getD_none, List.length_take] at this ⊢
     omega
    by_cases hk2 : k < 2
    ·have hk2' : (k : Int) < 2 := by omega
     have hstep : ∃ a, (0 ≤ a ∧ a ≤ 1000) ∧ (opsG g).take (2 * i + (k + 1)) = (opsG g).take (2 * i + k) ++ [a] ∧ ((k = 0 ∧ a = x0) ∨ (k = 1 ∧ a = x1)) := by
      rcases (show k = 0 ∨ k = 1 by omega) with rfl | rfl
      ·exact ⟨x0, by omega, t1, .inl ⟨rfl, rfl⟩⟩
      ·exact ⟨x1, by omega, t2, .inr ⟨rfl, rfl⟩⟩
     obtain ⟨a, ha, htk, hka⟩ := hstep
     have s1 := addK_snoc 1 [] ((opsG g).take (2 * i + k)) a
     have s2 := plK_snoc ((opsG g).take (2 * i + k)) a
     rw [← htk] at s1 s2
     have hc' := hc (a / 2)
     clear htk hc t1 t2 hb hfc hrt
     rcases hka with ⟨rfl, rfl⟩ | ⟨rfl, rfl⟩
     ·have hbe : (a % 2 == 0) = decide (a % 2 = 0) := rfl
      repeat' (first | simp (maxDischargeDepth := 9) -implicitDefEqProofs -dsimp only [go_sem, seval, map_int, *] | simp (disch := omega) only [wrap64, tdiv2, and1] | ((with_reducible refine Zv ?_ ?_); focus (first | omega | exact rfl)))
      refine loop_next _ _ _ _ (0 + 1) ?_; (repeat' simp (maxDischargeDepth := 9) -implicitDefEqProofs -dsimp only [go_sem, seval, *])
     ·have hbe : (a % 2 == 0) = decide (a % 2 = 0) := rfl
      repeat' (first | simp (maxDischargeDepth := 9) -implicitDefEqProofs -dsimp only [go_sem, seval, map_int, *] | simp (disch := omega) only [wrap64, tdiv2, and1] | ((with_reducible refine Zv ?_ ?_); focus (first | omega | exact rfl)))
      refine loop_next _ _ _ _ (1 + 1) ?_; (repeat' simp (maxDischargeDepth := 9) -implicitDefEqProofs -dsimp only [go_sem, seval, *])
    ·obtain rfl : k = 2 := by omega
     clear hc t1 t2 hb hfc hrt
     repeat' (first | simp (maxDischargeDepth := 9) -implicitDefEqProofs -dsimp only [go_sem, seval, *] | simp (disch := omega) only [wrap64, tdiv2, and1])
     refine loop_next _ _ _ _ (i + 1) ?_; (repeat' simp (maxDischargeDepth := 9) -implicitDefEqProofs -dsimp only [go_sem, seval,  Nat.mul_add, Nat.mul_one, *]) <;> (repeat' refine And.intro ?_ ?_) <;> (first | omega | skip)
  ·have ei : i = g.ands.length := by omega
   subst ei
   have hlt' : ¬ (g.ands.length : Int) < g.ands.length := by omega
   have e0 : (opsG g).take (2 * g.ands.length) = opsG g := List.take_of_length_le (by rw [opsG_len]; exact Nat.le_refl _)
   rw [e0]
   repeat' (first | simp (maxDischargeDepth := 9) -implicitDefEqProofs -dsimp only [go_sem, seval, *] | ((with_reducible apply ACalls.one1); (focus ((with_reducible refine hrt _) <;> (first | (simp (maxDischargeDepth := 9) -implicitDefEqProofs -dsimp only [go_sem, seval, *]; done) | omega))); (focus (first | trivial | with_reducible exact rfl | (simp (maxDischargeDepth := 9) -implicitDefEqProofs -dsimp only [go_sem, seval]; done)))))
   refine loop_rule (fun j : Nat => [(49, some (.int .i64 j)), (48, some (.int .i64 (rts g).length)), (47, some (.slice ((rts g).map encInt) .no)), (3, some (.map oN)), (4, some (.map oP)), (0, some (.ptr o 0))])
    (fun j => upd (upd σ oN (.map true (encK (.int .i64) (addK 2 (addK 1 [] (opsG g)) ((rts g).take j))))) oP (.map true (encK .bool (plK (opsG g)))))
    (fun j => j ≤ (rts g).length) (fun j => (rts g).length - j) 0 ?_ ?_
   ·have e1 : addK 2 (addK 1 [] (opsG g)) ((rts g).take 0) = addK 1 [] (opsG g) := rfl
    (repeat' simp (maxDischargeDepth := 9) -implicitDefEqProofs -dsimp only [go_sem, seval, e1, *]) <;> (repeat' refine And.intro ?_ ?_) <;> (first | omega | rfl | skip)
    all_goals exact fun h => h
   ·intro j hj
    have hc : ∀ n, 0 ≤ (gk (addK 2 (addK 1 [] (opsG g)) ((rts g).take j)) n).getD 0 ∧ (gk (addK 2 (addK 1 [] (opsG g)) ((rts g).take j)) n).getD 0 ≤ 100000 := fun n => by
     rw [addK_get, addK_get]
     have q1 := cntL_le (opsG g) n
     have q2 := cntL_le ((rts g).take j) n
     have e := opsG_len g
     simp only [gk, Option.getD_none, List.length_take] at q1 q2 ⊢
     omega
    by_cases hjl : j < (rts g).length
    ·have hjl' : (j : Int) < (rts g).length := by omega
     have hb := root_lit hg (List.getElem_mem hjl)
     have hcn : g.count ≤ 400 := by simp only [Aig.count]; omega
     have htk := take_succ (l := rts g) (i := j) hjl
     obtain ⟨a, ha⟩ : ∃ a, (rts g)[j] = a := ⟨_, rfl⟩
     rw [ha] at hb htk
     have s1 := addK_snoc 2 (addK 1 [] (opsG g)) ((rts g).take j) a
     rw [← htk] at s1
     have hc' := hc (a / 2)
     clear htk hc hrt hfc
     repeat' (first | simp (maxDischargeDepth := 9) -implicitDefEqProofs -dsimp only [go_sem, seval, map_int, *] | simp (disch := omega) only [wrap64, tdiv2, and1] | ((with_reducible refine Zv ?_ ?_); focus (first | omega | exact rfl)) | ((with_reducible refine Zu ?_ ?_); focus omega))
     refine loop_next _ _ _ _ (j + 1) ?_; (repeat' simp (maxDischargeDepth := 9) -implicitDefEqProofs -dsimp only [go_sem, seval, *]) <;> (repeat' refine And.intro ?_ ?_) <;> (first | omega | skip)
    ·have ej : j = (rts g).length := by omega
     subst ej
     have hjl' : ¬ ((rts g).length : Int) < (rts g).length := by omega
     have e1 : addK 2 (addK 1 [] (opsG g)) ((rts g).take (rts g).length) = nmK g := by rw [List.take_length]; rfl
     rw [e1]
     clear hc hrt
     have hoP : (¬ oP = oN ∧ σ oP = none) ∧ ¬ oN = oP := ⟨hoF, fun e => hoF.1 e.symm⟩
     clear hoF hnF hnF'
     repeat' (first | simp (maxDischargeDepth := 9) -implicitDefEqProofs -dsimp only [go_sem, seval, *] | ((with_reducible refine Zt (fun oF hoF hnF hnF' => ?_)); (try simp only [upd_none, ne_eq, not_and] at hoF)))
     rename_i oO hnO hnO' hoO
     obtain ⟨oI, eI⟩ : ∃ x, x = oF := ⟨oF, rfl⟩
     subst eI
     have hI : ¬ o = oO ∧ ¬ oO = o ∧ ¬ o = oI ∧ ¬ oI = o := by
      have e1 : ¬ o = oO := fun e => by rw [← e] at hoO; exact hno hoO.2.2
      have e2 : ¬ o = oI := fun e => by rw [← e] at hoF; exact hno hoF.2.2.2
      exact ⟨e1, fun e => e1 e.symm, e2, fun e => e2 e.symm⟩
     obtain ⟨a1, a2, a3⟩ := id hoO
     obtain ⟨b1, b2, b3, b4⟩ := id hoF
     have hne : ¬ oO = oI ∧ ¬ oP = oI ∧ ¬ oN = oI ∧ ¬ oP = oO ∧ ¬ oN = oO := ⟨fun e => b1 e.symm, fun e => b2 e.symm, fun e => b3 e.symm, fun e => a1 e.symm, fun e => a2 e.symm⟩
     refine loop_rule (fun x : List Nat × List (Int × Bool) => [(61, some (.ptr oI 0)), (11, some (.map oO)), (0, some (.ptr o 0)), (4, some (.map oP))])
      (fun x => upd (upd (upd (upd σ oN (.map true (encK (.int .i64) (nmK g)))) oP (.map true (encK .bool (plK (opsG g))))) oO (.map true (encK .bool x.2))) oI (.iter oN (nmK g).length x.1))
      (fun x => OutI g x.1 x.2) (fun x => uns x.1 (nmK g).length) ([], []) ?_ ?_
     ·have i1 := out_start g
      (repeat' simp (maxDischargeDepth := 9) -implicitDefEqProofs -dsimp only [go_sem, seval, encK_nil, *])
      all_goals exact fun h => h
     ·rintro ⟨seen, m⟩ hO
      simp only at hO ⊢
      repeat' simp (maxDischargeDepth := 9) -implicitDefEqProofs -dsimp only [go_sem, seval, *]
      refine ⟨fun hall => ?_, fun i hi hn => ?_⟩
      ·rw [encK_len] at hall
       have hd := out_done hO hall
       clear hall hO
       repeat' simp (maxDischargeDepth := 9) -implicitDefEqProofs -dsimp only [go_sem, seval, *]
       refine fin_v (.map oO) (upd σ oO (.map true (encK .bool m))) ⟨oO, m, a3, rfl, rfl, hd⟩ ?_ ?_
       ·simp (maxDischargeDepth := 9) -implicitDefEqProofs -dsimp only [go_sem, seval, *]
       ·clear hd
        (repeat' simp (maxDischargeDepth := 9) -implicitDefEqProofs -dsimp only [go_sem, seval, *])
        all_goals exact fun h => h
      ·rw [encK_len] at hi
       obtain ⟨p, hp⟩ : ∃ p, (nmK g)[i] = p := ⟨_, rfl⟩
       have hp' : (nmK g)[i]? = some p := by rw [List.getElem?_eq_getElem hi, hp]
       have he1 : ((encK (.int .i64) (nmK g))[i]'(by rw [encK_len]; exact hi)).1 = .int .i64 p.1 := by simp [encK, hp]
       have he2 : ((encK (.int .i64) (nmK g))[i]'(by rw [encK_len]; exact hi)).2 = .int .i64 p.2 := by simp [encK, hp]
       have he3 : (encK (.int .i64) (nmK g))[i]? = some (.int .i64 p.1, .int .i64 p.2) := by simp [encK, hp']
       have hst := out_step hO hp'
       have hv := innM_of hp'
       have hu := uns_add hn (nmK g).length
       rw [if_pos hi] at hu
       have hm1 : uns (seen ++ [i]) (nmK g).length < uns seen (nmK g).length := by omega
       rw [← plK_get] at hv
       rw [he1, he2]
       clear he1 he2 hu hO hp hp' hn hi
       by_cases d1 : g.first ≤ p.1
       ·by_cases d2 : p.2 = 1
        ·have hv' : innM g p.1 = (gk (plK (opsG g)) p.1).getD false := by rw [hv]; simp [d1, d2]
         rw [hv'] at hst
         clear hv hv'
         repeat' (first | simp (maxDischargeDepth := 9) -implicitDefEqProofs -dsimp only [go_sem, seval, ge_iff_le, List.getLast?_concat, Option.bind_some, map_bool, *] | simp (disch := omega) only [wrap64, tdiv2, and1] | ((with_reducible refine Zv ?_ ?_); focus (first | omega | exact rfl)) | ((with_reducible apply ACalls.one1); (focus ((with_reducible refine hfc _ ?_) <;> (first | (simp (maxDischargeDepth := 9) -implicitDefEqProofs -dsimp only [go_sem, seval, *]; done) | omega))); (focus (first | trivial | with_reducible exact rfl | (simp (maxDischargeDepth := 9) -implicitDefEqProofs -dsimp only [go_sem, seval]; done)))))
         refine loop_next _ _ _ _ (seen ++ [i], _) ⟨?_, ?_, hst, hm1⟩
         ·(repeat' simp (maxDischargeDepth := 9) -implicitDefEqProofs -dsimp only [go_sem, seval, *])
         ·(repeat' simp (maxDischargeDepth := 9) -implicitDefEqProofs -dsimp only [go_sem, seval, *])
          all_goals exact fun h => h
        ·have d3 : (p.2 == 1) = false := by simpa using d2
         have hv' : innM g p.1 = false := by rw [hv]; simp [d2]
         rw [hv'] at hst
         clear hv hv'
         repeat' (first | simp (maxDischargeDepth := 9) -implicitDefEqProofs -dsimp only [go_sem, seval, ge_iff_le, List.getLast?_concat, Option.bind_some, map_bool, *] | simp (disch := omega) only [wrap64, tdiv2, and1] | ((with_reducible refine Zv ?_ ?_); focus (first | omega | exact rfl)) | ((with_reducible apply ACalls.one1); (focus ((with_reducible refine hfc _ ?_) <;> (first | (simp (maxDischargeDepth := 9) -implicitDefEqProofs -dsimp only [go_sem, seval, *]; done) | omega))); (focus (first | trivial | with_reducible exact rfl | (simp (maxDischargeDepth := 9) -implicitDefEqProofs -dsimp only [go_sem, seval]; done)))))
         refine loop_next _ _ _ _ (seen ++ [i], _) ⟨?_, ?_, hst, hm1⟩
         ·(repeat' simp (maxDischargeDepth := 9) -implicitDefEqProofs -dsimp only [go_sem, seval, *])
         ·(repeat' simp (maxDischargeDepth := 9) -implicitDefEqProofs -dsimp only [go_sem, seval, *])
          all_goals exact fun h => h
       ·have hv' : innM g p.1 = false := by rw [hv]; simp [d1]
        rw [hv'] at hst
        clear hv hv'
        repeat' (first | simp (maxDischargeDepth := 9) -implicitDefEqProofs -dsimp only [go_sem, seval, ge_iff_le, List.getLast?_concat, Option.bind_some, map_bool, *] | simp (disch := omega) only [wrap64, tdiv2, and1] | ((with_reducible refine Zv ?_ ?_); focus (first | omega | exact rfl)) | ((with_reducible apply ACalls.one1); (focus ((with_reducible refine hfc _ ?_) <;> (first | (simp (maxDischargeDepth := 9) -implicitDefEqProofs -dsimp only [go_sem, seval, *]; done) | omega))); (focus (first | trivial | with_reducible exact rfl | (simp (maxDischargeDepth := 9) -implicitDefEqProofs -dsimp only [go_sem, seval]; done)))))
        refine loop_next _ _ _ _ (seen ++ [i], _) ⟨?_, ?_, hst, hm1⟩
        ·(repeat' simp (maxDischargeDepth := 9) -implicitDefEqProofs -dsimp only [go_sem, seval, *])
        ·(repeat' simp (maxDischargeDepth := 9) -implicitDefEqProofs -dsimp only [go_sem, seval, *])
         all_goals exact fun h => h
end Go.Proofs.Ytapnlmhfacoceaa

namespace Go.Proofs.Ytapnlmhfacoceaa
open Abs Fil Fil.Rw
open Go.Shelf Go.RowKit Go.Lib Go.Sort
def ren23 : Ren where
 f := fun x => match x with
  | 23 => 75
  | n => n
 t := fun x => match x with
  | 22 => 24
  | 3 => 3
  | 4 => 4
  | 0 => 0
  | n => n
 g := fun x => x
theorem body23 : Try.f75 = Body2.n23 ren23 := by kernel_rfl
theorem lays23 : Lays2.n23 Try.prog ren23 :=
  { mixed := by kernel_rfl, f23 := Eq.trans Try.func75 (congrArg some body23),
    t0 := Try.underlying0, a0 := Try.isAgg0, z0 := Try.sizeOf0, v0 := Try.zeroValue0, t3 := Try.underlying3,
    a3 := Try.isAgg3, z3 := Try.sizeOf3, v3 := Try.zeroValue3, t4 := Try.underlying4, a4 := Try.isAgg4, z4 := Try.sizeOf4,
    v4 := Try.zeroValue4, t22 := Try.underlying24, a22 := Try.isAgg24, z22 := Try.sizeOf24, v22 := Try.zeroValue24,
    i3 := by kernel_rfl }
theorem relL_ints {K : Gh} (X : List Int) : RelL K (X.map encInt) (X.map (Value.int .i64)) := ⟨by simp, fun i h1 h2 => by
 simp only [List.getElem_map]; exact .int _ _⟩
theorem callable75 : callable Try.prog 75 = true := by
 simp only [callable, lays23.f23]
 rfl
set_option maxRecDepth 20000 in
theorem rw_Delete (o N i : Nat) (l j : List Int) (V : AV) (σ : Sig) (hσ : σ o = some (.vec 1 N (l.map encInt ++ j.map encInt))) (hN : N = l.length + j.length) (hV : (V = .vec o N ∧ j = []) ∨ V = .pre o l.length N) (hi : i < l.length) :
  ACalls Try.prog 75 [V, .int .i64 i, .int .i64 (i + 1)] σ
   (fun r s => r = .ret (.pre o (l.length - 1) N) ∧ s = upd σ o (.vec 1 N ((l.eraseIdx i).map encInt ++ ((0 :: j).map encInt)))) := by
 refine ⟨callable75, fun S K w vals hS hr hs => ?_⟩
 obtain ⟨vs⟩ := vals
 obtain ⟨hl, hrel⟩ := hr
 simp only [List.length_cons, List.length_nil] at hl
 match vs, hl with
 | [v0, v1, v2], _ =>
  have r0 := hrel 0 (by simp) (by simp)
  have r1 := hrel 1 (by simp) (by simp)
  have r2 := hrel 2 (by simp) (by simp)
  simp only [List.getElem_cons_zero, List.getElem_cons_succ] at r0 r1 r2
  have e1 := rel_int r1
  have e2 := rel_int r2
  subst e1 e2
  have hat : ∃ b cap, v0 = .slice (some ⟨b, 0, none⟩) l.length cap ∧ K.own o = some (.vec b cap 1 N) ∧ (N ≤ cap ∧ ((1 : Nat) = 1 → cap ≤ 9223372036854775807)) ∧ (l.map encInt ++ j.map encInt).length = N * 1 ∧ K.base.heap.size ≤ b ∧ (∃ c el, w.heap[b]? = some (.cells c el (0, 0)) ∧ c.size = cap * 1 ∧ RelC K (l.map encInt ++ j.map encInt) c) ∧ ∀ i, K.claim b i = none := by
   rcases hV with ⟨rfl, rfl⟩ | rfl
   ·obtain rfl : N = l.length := by simpa using hN
    exact vec_at hs hσ r0
   ·obtain ⟨b, cap, q1, _, q2⟩ := pre_at hs hσ r0
    exact ⟨b, cap, q1, q2⟩
  obtain ⟨b, cap, rfl, hown, hcap, hlen, hbase, ⟨c, el, hc1, hc2, hc3⟩, hno⟩ := hat
  have hcell : ∀ k, k < l.length → w.cell? ⟨b, 0 + k, none⟩ = some (.int .i64 (l.getD k 0)) := fun k hk => by
   have hk2 : k < c.size := by omega
   have hk1 : k < (l.map encInt ++ j.map encInt).length := by simp; omega
   have := rel_int (K := K) (k := .i64) (n := l.getD k 0) (v := c[k]) (by
    have h := (hc3.2 k hk1 hk2).1
    rw [List.getElem_append_left (by simpa using hk)] at h
    simpa [List.getD_eq_getElem?_getD, hk] using h)
   simp [World.cell?, hc1, hk2, this]
  have hfz : ∀ k, k < l.length → w.frozen? ⟨b, 0 + k, none⟩ = false := fun k hk => by simp [World.frozen?, hc1]
  have hcall := Any.slices_Delete_int_cells lays23 b 0 l.length cap i (i + 1) l w (Nat.le_refl _) (by omega) (hcap.2 rfl) (by omega) (by omega) hcell hfz
  refine hcall.mono ?_
  rintro e w' ⟨rfl, q, rfl⟩
  have hnews : List.take i (List.take l.length l) ++ List.drop (i + 1) (List.take l.length l) ++ List.replicate (i + 1 - i) 0 = l.eraseIdx i ++ [0] := by
   rw [List.take_length, List.eraseIdx_eq_take_drop_succ, show i + 1 - i = 1 by omega]; rfl
  have hel : (l.eraseIdx i ++ [0]).length = l.length := by
   rw [List.length_append, List.length_eraseIdx, if_pos hi]; simp; omega
  rw [hnews]
  have hone : ∀ v ∈ (l.eraseIdx i ++ [0]).map (Value.int .i64), v.oneCell' = true := fun v hv => by
   obtain ⟨x, _, rfl⟩ := List.mem_map.1 hv; rfl
  have hlc : (l.eraseIdx i ++ [0]).length ≤ c.size := by rw [hel]; omega
  have hcs : (w.drewN q).heap[b]? = some (.cells c el (0, 0)) := hc1
  have e1 := run_storeCells_at Try.prog b 0 el ((l.eraseIdx i ++ [0]).map (Value.int .i64)) 0 c (w.drewN q) hcs (by simpa using hlc) hone
  have e2 := run_storeCells_cells (P := Try.prog) b 0 ((l.eraseIdx i ++ [0]).map (Value.int .i64)) 0 (w.drewN q) (fun k hk => by
   have hk' : k < c.size := by rw [List.length_map] at hk; omega
   simp [World.cell?, hc1, hk']) (fun k hk => by simp [World.frozen?, hc1]) hone
  simp only [Nat.add_zero] at e1 e2
  have e3 := e1.symm.trans e2
  simp only [Result.ok.injEq, true_and] at e3
  rw [← e3]
  have hs' : Sat K σ (w.drewN q) := hs.same rfl rfl rfl rfl
  have htl : c.toList.length = c.size := by simp
  have hd : RelL K (j.map encInt) ((c.toList.drop l.length).take j.length) := ⟨by
   rw [List.length_map, List.length_take, List.length_drop]; omega, fun k k1 k2 => by
   have q1 : l.length + k < (l.map encInt ++ j.map encInt).length := by
    rw [List.length_append, List.length_map]; rw [List.length_map] at k1; simp; omega
   have q2 : l.length + k < c.size := by rw [List.length_map] at k1; omega
   have h := (hc3.2 (l.length + k) q1 q2).1
   rw [List.getElem_append_right (by simp)] at h
   simpa using h⟩
  have hj1 : ∀ u ∈ (c.toList.drop l.length).take j.length, u.oneCell' = true := fun u hu => by
   obtain ⟨k, hk, rfl⟩ := List.getElem_of_mem hu
   have hk2 : k < j.length := by rw [← List.length_map (f := encInt), hd.1]; exact hk
   have q1 : l.length + k < (l.map encInt ++ j.map encInt).length := by rw [List.length_append, List.length_map, List.length_map]; omega
   have h := (hc3.2 (l.length + k) q1 (by omega)).2
   simpa using h
  have hrel := relC_of (Z := (c.toList.drop l.length).drop j.length) ((relL_ints (K := K) (l.eraseIdx i ++ [0])).append hd) (fun u hu => by
   rcases List.mem_append.1 hu with h | h
   ·exact hone u h
   ·exact hj1 u h)
  rw [List.append_assoc, List.take_append_drop] at hrel
  have hlen2 : (List.map (Value.int IntKind.i64) (l.eraseIdx i ++ [0])).length = l.length := by rw [List.length_map, hel]
  have hc' : (List.take 0 c.toList ++ List.map (Value.int IntKind.i64) (l.eraseIdx i ++ [0]) ++ List.drop (0 + (List.map (Value.int IntKind.i64) (l.eraseIdx i ++ [0])).length) c.toList) = List.map (Value.int IntKind.i64) (l.eraseIdx i ++ [0]) ++ c.toList.drop l.length := by
   rw [hlen2]; simp
  rw [hc']
  have hce : (l.eraseIdx i ++ [0]).map encInt ++ j.map encInt = (l.eraseIdx i).map encInt ++ ((0 :: j).map encInt) := by simp
  rw [hce] at hrel
  have hsz : (List.map (Value.int IntKind.i64) (l.eraseIdx i ++ [0]) ++ c.toList.drop l.length).toArray.size = cap * 1 := by
   rw [List.size_toArray, List.length_append, hlen2, List.length_drop]; omega
  have hlen3 : ((l.eraseIdx i).map encInt ++ ((0 :: j).map encInt)).length = N * 1 := by
   rw [← hce, List.length_append, List.length_map, hel, List.length_map]; omega
  refine ⟨K, .ret (.pre o (l.length - 1) N), _, Gh.leS.refl K, ?_, ?_, rfl, rfl⟩
  ·exact Sat.setRow (e := .vec b cap 1 N) hs' hσ hown rfl _ hcs hno ⟨rfl, rfl, hlen3, hcap, hbase, ⟨_, el, setRow_heap _ b c _ el (0, 0) hcs, hsz, hrel.2⟩, hno⟩
  ·have e5 : l.length - (i + 1 - i) = l.length - 1 := by omega
   rw [e5]
   exact .pre o (l.length - 1) N b cap ⟨b, cap, 1, N, .inl hown, Nat.le_refl N, fun _ => ⟨rfl, rfl⟩⟩ (by omega) hcap.1
end Go.Proofs.Ytapnlmhfacoceaa

namespace Fil.Rw
open Abs
open Eqv (moveL)
def lstAt (lev l : List Int) : Nat → Nat
 | 0 => 0
 | i + 1 => if lev.getD (l.getD i 0 / 2).toNat 0 < lev.getD (l.getD (lstAt lev l i) 0 / 2).toNat 0 then i else lstAt lev l i
def lst (lev l : List Int) : Nat := lstAt lev l l.length
theorem lstAt_le (lev l : List Int) : ∀ i, lstAt lev l i ≤ i - 1
 | 0 => Nat.le_refl _
 | i + 1 => by
  have := lstAt_le lev l i
  unfold lstAt
  split <;> omega
theorem lst_lt {lev l : List Int} (h : 0 < l.length) : lst lev l < l.length := by
 have := lstAt_le lev l l.length
 unfold lst; omega
def pairJ (lev l : List Int) : Int × Int :=
 let i := lst lev l
 let rest := l.eraseIdx i
 let k := lst lev rest
 if k < i then (rest.getD k 0, l.getD i 0) else (l.getD i 0, rest.getD k 0)
def restJ (lev l : List Int) : List Int := (l.eraseIdx (lst lev l)).eraseIdx (lst lev (l.eraseIdx (lst lev l)))
def stepJ (b : B) (l : List Int) : B × List Int :=
 let r := andB b (pairJ b.lev l).1 (pairJ b.lev l).2
 (r.1, restJ b.lev l ++ [r.2])
def joinB : Nat → B → List Int → B × Int
 | 0, b, l => (b, l.getD 0 0)
 | f + 1, b, l => if l.length ≤ 1 then (b, l.getD 0 0) else joinB f (stepJ b l).1 (stepJ b l).2
theorem erase_len {l : List Int} {i : Nat} (h : i < l.length) : (l.eraseIdx i).length = l.length - 1 := by rw [List.length_eraseIdx, if_pos h]
theorem mem_erase {l : List Int} {i : Nat} {a : Int} (h : a ∈ l.eraseIdx i) : a ∈ l := List.mem_of_mem_eraseIdx h
theorem getD_mem {l : List Int} {i : Nat} (h : i < l.length) : l.getD i 0 ∈ l := by
 rw [List.getD_eq_getElem?_getD, List.getElem?_eq_getElem h]; exact List.getElem_mem h
structure JI (b : B) (l : List Int) : Prop extends Bd b where
 lits : ∀ a ∈ l, b.g.lit a = true
 ne : 0 < l.length
 cnt : b.g.count + l.length ≤ 2000
theorem JI.idx {b : B} {l : List Int} (h : JI b l) {a : Int} (ha : a ∈ l) : 0 ≤ a ∧ (a / 2).toNat < b.lev.length ∧ a ≤ 10000 := by
 have := litN_iff.1 (h.lits a ha)
 have hl := h.toBd.llen
 have := h.cnt
 omega
theorem pairJ_mem {b : B} {l : List Int} (h2 : 2 ≤ l.length) : (pairJ b.lev l).1 ∈ l ∧ (pairJ b.lev l).2 ∈ l := by
 have q1 := lst_lt (lev := b.lev) (show 0 < l.length by omega)
 have q2 := erase_len q1
 have q3 := lst_lt (lev := b.lev) (show 0 < (l.eraseIdx (lst b.lev l)).length by omega)
 unfold pairJ
 simp only
 split
 ·exact ⟨mem_erase (getD_mem q3), getD_mem q1⟩
 ·exact ⟨getD_mem q1, mem_erase (getD_mem q3)⟩
theorem restJ_len {b : B} {l : List Int} (h2 : 2 ≤ l.length) : (restJ b.lev l).length = l.length - 2 := by
 have q1 := lst_lt (lev := b.lev) (show 0 < l.length by omega)
 have q2 := erase_len q1
 have q3 := lst_lt (lev := b.lev) (show 0 < (l.eraseIdx (lst b.lev l)).length by omega)
 unfold restJ
 rw [erase_len q3]; omega
theorem JI.step {b : B} {l : List Int} (h : JI b l) (h2 : 2 ≤ l.length) : (b.g.And (pairJ b.lev l).1 (pairJ b.lev l).2).2.2 = 0 ∧ JI (stepJ b l).1 (stepJ b l).2 ∧ (stepJ b l).2.length = l.length - 1 ∧ Ext b.g (stepJ b l).1.g ∧ (stepJ b l).1.lits = b.lits ∧ (stepJ b l).1.g.ands.length ≤ b.g.ands.length + 1 := by
 obtain ⟨m1, m2⟩ := pairJ_mem (b := b) h2
 have hc := h.cnt
 obtain ⟨k0, k1, k2, k3, k4, k5⟩ := andB_ok h.toBd (h.lits _ m1) (h.lits _ m2) (by omega)
 have hrl := restJ_len (b := b) h2
 have hlen : (stepJ b l).2.length = l.length - 1 := by unfold stepJ; simp only [List.length_append, hrl, List.length_cons, List.length_nil]; omega
 refine ⟨k0, ⟨k1, fun a ha => ?_, by omega, ?_⟩, hlen, k3, k5, k4⟩
 ·unfold stepJ at ha
  rcases List.mem_append.1 ha with q | q
  ·exact k3.lit (h.lits a (mem_erase (mem_erase q)))
  ·simp at q; subst q; exact k2
 ·rw [hlen]
  have e : (stepJ b l).1.g.count ≤ b.g.count + 1 := by
   show (andB b _ _).1.g.count ≤ _
   simp only [Aig.count, k3.ins, k3.flops]; omega
  omega
theorem joinB_step {b : B} {l : List Int} (h : JI b l) (h2 : 2 ≤ l.length) : joinB l.length b l = joinB (stepJ b l).2.length (stepJ b l).1 (stepJ b l).2 := by
 rw [(h.step h2).2.2.1]
 obtain ⟨f, hf⟩ : ∃ f, l.length = f + 1 := ⟨l.length - 1, by omega⟩
 rw [hf, show f + 1 - 1 = f by omega]
 conv => lhs; unfold joinB
 rw [if_neg (by omega)]
theorem joinB_one {b : B} {l : List Int} (h : l.length = 1) : joinB l.length b l = (b, l.getD 0 0) := by
 rw [h]; unfold joinB; rw [if_pos (by omega)]
theorem JI.join {b : B} {l : List Int} (h : JI b l) : Bd (joinB l.length b l).1 ∧ (joinB l.length b l).1.g.lit (joinB l.length b l).2 = true ∧ Ext b.g (joinB l.length b l).1.g ∧ (joinB l.length b l).1.lits = b.lits ∧ (joinB l.length b l).1.g.ands.length + 1 ≤ b.g.ands.length + l.length := by
 obtain ⟨n, hn⟩ : ∃ n, l.length = n := ⟨_, rfl⟩
 induction n generalizing b l with
 | zero => have := h.ne; omega
 | succ n ih =>
  by_cases h2 : 2 ≤ l.length
  ·obtain ⟨_, k1, k2, k3, k4, k5⟩ := h.step h2
   rw [joinB_step h h2]
   obtain ⟨m1, m2, m3, m4, m5⟩ := ih k1 (by omega)
   exact ⟨m1, m2, k3.trans m3, m4.trans k4, by omega⟩
  ·have h1 : l.length = 1 := by have := h.ne; omega
   rw [joinB_one h1]
   exact ⟨h.toBd, h.lits _ (getD_mem (by omega)), .refl _, rfl, by simp only; omega⟩
end Fil.Rw

namespace Go.Proofs.Ytapnlmhfacoceaa
open Abs Fil Fil.Rw
open Eqv (moveL)
theorem head_at {l : List Int} {J : List AV} {i : Nat} (h : i < l.length) : (List.take 1 (List.drop i (l.map encInt ++ J))).head? = some (.int .i64 (l.getD i 0)) := by
 rw [List.drop_append_of_le_length (by simp; omega), List.drop_eq_getElem_cons (by simpa using h)]
 simp [List.getD_eq_getElem?_getD, h]
theorem get_at {l : List Int} {i : Nat} (h : i < l.length) : l[i] = l.getD i 0 := by simp [List.getD_eq_getElem?_getD, h]
set_option maxRecDepth 20000 in
set_option maxHeartbeats 4000000 in
theorem rw_least (o : Nat) (c0 c1 c2 c3 c4 c5 c6 c7 c8 : AV) (lev : List Int) (t9 : Tok) (l : List Int) (V : AV) (σ : Sig) (hB : σ o = some (.cells [c0, c1, c2, c3, c4, c5, c6, c7, c8, ilist lev t9]))
  (hV : (∃ t, V = .slice (l.map encInt) t) ∨ ∃ (p N : Nat) (j : List Int), V = .pre p l.length N ∧ N = l.length + j.length ∧ σ p = some (.vec 1 N (l.map encInt ++ j.map encInt)))
  (hl : ∀ a ∈ l, 0 ≤ a ∧ (a / 2).toNat < lev.length ∧ a ≤ 10000) (hll : l.length ≤ 100000) (hlev : ∀ v ∈ lev, 0 ≤ v ∧ v ≤ 1000000) :
  ACalls Try.prog 74 [.ptr o 0, V] σ (fun r s => r = .ret (.int .i64 (lst lev l)) ∧ s = σ) := by
 refine calls_x mixed Try.func74 b74 n74 rfl q74 (by simp) ?_; unfold c74 r74
 rcases hV with ⟨t, rfl⟩ | ⟨p, N, j, rfl, hN, hp⟩
 ·repeat' simp (maxDischargeDepth := 9) -implicitDefEqProofs -dsimp only [go_sem, seval, *]
  refine loop_rule (fun i : Nat => [(10, some (.int .i64 i)), (9, some (.int .i64 l.length)), (8, some (.slice (l.map encInt) t)), (0, some (.ptr o 0)), (1, some (.slice (l.map encInt) t)), (5, some (.int .i64 (lstAt lev l i)))])
   (fun i => σ) (fun i => i ≤ l.length) (fun i => l.length - i) 0 ?_ ?_
  ·have e0 : lstAt lev l 0 = 0 := rfl
   (repeat' simp (maxDischargeDepth := 9) -implicitDefEqProofs -dsimp only [go_sem, seval, e0, *]) <;> (first | omega | skip)
  ·intro i hi
   have hbl := lstAt_le lev l i
   by_cases hlt : i < l.length
   ·have hlt' : (i : Int) < l.length := by omega
    have hbt : lstAt lev l i < l.length := by omega
    have hS : lstAt lev l (i + 1) = if lev.getD (l.getD i 0 / 2).toNat 0 < lev.getD (l.getD (lstAt lev l i) 0 / 2).toNat 0 then i else lstAt lev l i := rfl
    obtain ⟨m, hm⟩ : ∃ m, lstAt lev l i = m := ⟨_, rfl⟩
    rw [hm] at hS hbl hbt ⊢
    have x1 := hl _ (getD_mem hlt)
    have x2 := hl _ (getD_mem hbt)
    have g1 := get_at hlt
    have g2 := get_at hbt
    obtain ⟨a, ha⟩ : ∃ a, l.getD i 0 = a := ⟨_, rfl⟩
    obtain ⟨b, hb⟩ : ∃ b, l.getD m 0 = b := ⟨_, rfl⟩
    rw [ha] at x1 g1 hS
    rw [hb] at x2 g2 hS
    have g3 := get_at (l := lev) x1.2.1
    have g4 := get_at (l := lev) x2.2.1
    clear hl hlev hm ha hb
    by_cases hc : lev.getD (a / 2).toNat 0 < lev.getD (b / 2).toNat 0
    ·rw [if_pos hc] at hS
     repeat' (first | simp (maxDischargeDepth := 9) -implicitDefEqProofs -dsimp only [go_sem, seval, *] | simp (disch := omega) only [wrap64, tdiv2] | ((with_reducible refine Zv ?_ ?_); focus (first | omega | exact rfl)) | ((with_reducible refine Zu ?_ ?_); focus omega))
     refine loop_next _ _ _ _ (i + 1) ?_; (repeat' simp (maxDischargeDepth := 9) -implicitDefEqProofs -dsimp only [go_sem, seval, *]) <;> (repeat' refine And.intro ?_ ?_) <;> (first | omega | skip)
    ·rw [if_neg hc] at hS
     repeat' (first | simp (maxDischargeDepth := 9) -implicitDefEqProofs -dsimp only [go_sem, seval, *] | simp (disch := omega) only [wrap64, tdiv2] | ((with_reducible refine Zv ?_ ?_); focus (first | omega | exact rfl)) | ((with_reducible refine Zu ?_ ?_); focus omega))
     refine loop_next _ _ _ _ (i + 1) ?_; (repeat' simp (maxDischargeDepth := 9) -implicitDefEqProofs -dsimp only [go_sem, seval, *]) <;> (repeat' refine And.intro ?_ ?_) <;> (first | omega | skip)
   ·have hlt' : ¬ (i : Int) < l.length := by omega
    have ei : i = l.length := by omega
    subst ei
    clear hl hlev
    repeat' simp (maxDischargeDepth := 9) -implicitDefEqProofs -dsimp only [go_sem, seval, *]
    refine fin_eq ?_
    (repeat' simp (maxDischargeDepth := 9) -implicitDefEqProofs -dsimp only [go_sem, seval, lst, *])
 ·have hNb : l.length ≤ N := by omega
  clear hN
  repeat' simp (maxDischargeDepth := 9) -implicitDefEqProofs -dsimp only [go_sem, seval, Nat.mul_one, Int.toNat_natCast, *]
  refine loop_rule (fun i : Nat => [(10, some (.int .i64 i)), (9, some (.int .i64 l.length)), (8, some (.pre p l.length N)), (0, some (.ptr o 0)), (1, some (.pre p l.length N)), (5, some (.int .i64 (lstAt lev l i)))])
   (fun i => σ) (fun i => i ≤ l.length) (fun i => l.length - i) 0 ?_ ?_
  ·have e0 : lstAt lev l 0 = 0 := rfl
   (repeat' simp (maxDischargeDepth := 9) -implicitDefEqProofs -dsimp only [go_sem, seval, e0, *]) <;> (first | omega | skip)
  ·intro i hi
   have hbl := lstAt_le lev l i
   by_cases hlt : i < l.length
   ·have hlt' : (i : Int) < l.length := by omega
    have hbt : lstAt lev l i < l.length := by omega
    have hS : lstAt lev l (i + 1) = if lev.getD (l.getD i 0 / 2).toNat 0 < lev.getD (l.getD (lstAt lev l i) 0 / 2).toNat 0 then i else lstAt lev l i := rfl
    obtain ⟨m, hm⟩ : ∃ m, lstAt lev l i = m := ⟨_, rfl⟩
    rw [hm] at hS hbl hbt ⊢
    have x1 := hl _ (getD_mem hlt)
    have x2 := hl _ (getD_mem hbt)
    have g1 := head_at (J := j.map encInt) hlt
    have g2 := head_at (J := j.map encInt) hbt
    obtain ⟨a, ha⟩ : ∃ a, l.getD i 0 = a := ⟨_, rfl⟩
    obtain ⟨b, hb⟩ : ∃ b, l.getD m 0 = b := ⟨_, rfl⟩
    rw [ha] at x1 g1 hS
    rw [hb] at x2 g2 hS
    have g3 := get_at (l := lev) x1.2.1
    have g4 := get_at (l := lev) x2.2.1
    clear hl hlev hm ha hb
    by_cases hc : lev.getD (a / 2).toNat 0 < lev.getD (b / 2).toNat 0
    ·rw [if_pos hc] at hS
     repeat' (first | simp (maxDischargeDepth := 9) -implicitDefEqProofs -dsimp only [go_sem, seval, Nat.mul_one, Int.toNat_natCast, *] | simp (disch := omega) only [wrap64, tdiv2] | ((with_reducible refine Zv ?_ ?_); focus (first | omega | exact rfl)) | ((with_reducible refine Zu ?_ ?_); focus omega))
     refine loop_next _ _ _ _ (i + 1) ?_; (repeat' simp (maxDischargeDepth := 9) -implicitDefEqProofs -dsimp only [go_sem, seval, *]) <;> (repeat' refine And.intro ?_ ?_) <;> (first | omega | skip)
    ·rw [if_neg hc] at hS
     repeat' (first | simp (maxDischargeDepth := 9) -implicitDefEqProofs -dsimp only [go_sem, seval, Nat.mul_one, Int.toNat_natCast, *] | simp (disch := omega) only [wrap64, tdiv2] | ((with_reducible refine Zv ?_ ?_); focus (first | omega | exact rfl)) | ((with_reducible refine Zu ?_ ?_); focus omega))
     refine loop_next _ _ _ _ (i + 1) ?_; (repeat' simp (maxDischargeDepth := 9) -implicitDefEqProofs -dsimp only [go_sem, seval, *]) <;> (repeat' refine And.intro ?_ ?_) <;> (first | omega | skip)
   ·have hlt' : ¬ (i : Int) < l.length := by omega
    have ei : i = l.length := by omega
    subst ei
    clear hl hlev
    repeat' simp (maxDischargeDepth := 9) -implicitDefEqProofs -dsimp only [go_sem, seval, Nat.mul_one, Int.toNat_natCast, *]
    refine fin_eq ?_
    (repeat' simp (maxDischargeDepth := 9) -implicitDefEqProofs -dsimp only [go_sem, seval, lst, *])
theorem unflat_one : ∀ cs : List AV, unflat false 1 cs.length cs = some cs
 | [] => rfl
 | a :: r => by
  have ih := unflat_one r
  simp only [List.length_cons, unflat, List.take_succ_cons, List.take_zero, List.drop_succ_cons, List.drop_zero, mkv, List.head?_cons, ih]
  rfl
set_option maxRecDepth 20000 in
set_option maxHeartbeats 4000000 in
theorem rw_joined (o p oV : Nat) (old : Aig) (b : B) (l : List Int) (t : Tok) (to : Tok) (L : AV) (σ : Sig) (hB : σ o = some (bldC old b.g (flV p b.g.flops) .no to L (ilist b.lev (.own oV)))) (hL : cellsA L = [L]) (hL1 : oneA L = true)
  (hp : σ p = some (flO b.g.flops)) (hV : σ oV = some (.grow 1 b.lev.length)) (n1 : ¬ o = p) (n1' : ¬ p = o) (n2 : ¬ o = oV) (n2' : ¬ oV = o) (n3 : ¬ p = oV) (n3' : ¬ oV = p) (hJ : JI b l) :
  ACalls Try.prog 52 [.ptr o 0, .slice (l.map encInt) t] σ
   (fun r σ' => r = .ret (.int .i64 (joinB l.length b l).2) ∧ σ' = upd (upd σ o (bldC old (joinB l.length b l).1.g (flV p (joinB l.length b l).1.g.flops) .no to L (ilist (joinB l.length b l).1.lev (.own oV)))) oV (.grow 1 (joinB l.length b l).1.lev.length)) := by
 refine calls_x mixed Try.func52 b52 n52 rfl q52 (by simp) ?_; unfold c52 r52
 have hjf : (joinB l.length b l).1.g.flops = b.g.flops := hJ.join.2.2.1.flops
 rw [hjf]
 have c1 := flV_cells p b.g.flops
 have c2 := flV_one p b.g.flops
 have hno : ¬ σ o = none := by rw [hB]; simp
 have hnp : ¬ σ p = none := by rw [hp]; simp
 have hnV : ¬ σ oV = none := by rw [hV]; simp
 obtain ⟨F, hF⟩ : ∃ F, flV p b.g.flops = F := ⟨_, rfl⟩
 obtain ⟨FO, hFO⟩ : ∃ F, flO b.g.flops = F := ⟨_, rfl⟩
 rw [hF] at hB c1 c2 ⊢
 rw [hFO] at hp
 repeat' simp (maxDischargeDepth := 9) -implicitDefEqProofs -dsimp only [go_sem, seval, *]
 refine loop_rule (fun x : B × List Int => [(1, some (.slice (x.2.map encInt) .no)), (0, some (.ptr o 0))])
  (fun x => upd (upd σ o (bldC old x.1.g F .no to L (ilist x.1.lev (.own oV)))) oV (.grow 1 x.1.lev.length))
  (fun x => JI x.1 x.2 ∧ x.1.g.flops = b.g.flops ∧ joinB x.2.length x.1 x.2 = joinB l.length b l) (fun x => x.2.length) (b, l) ?_ ?_
 ·have hf : b.g.flops = b.g.flops := rfl
  clear hjf
  (repeat' simp (maxDischargeDepth := 9) -implicitDefEqProofs -dsimp only [go_sem, seval, *])
 ·rintro ⟨b', l'⟩ ⟨hI, hfl, hres⟩
  simp only at hI hfl hres ⊢
  clear hjf
  have hc := hI.cnt
  have hll : l'.length ≤ 2000 := by
   have := hI.toBd.fine.lo
   have : 0 ≤ b'.g.count := by simp only [Aig.count]; omega
   omega
  by_cases h2 : 2 ≤ l'.length
  ·have hgt : (1 : Int) < l'.length := by omega
   obtain ⟨k0, k1, k2, k3, k4, k5⟩ := hI.step h2
   have hres' := (joinB_step hI h2).symm.trans hres
   obtain ⟨m1, m2⟩ := pairJ_mem (b := b') h2
   have p1 := hI.idx m1
   have p2 := hI.idx m2
   have hrl := restJ_len (b := b') h2
   have hlev := hI.toBd.bound
   have q1 := lst_lt (lev := b'.lev) (show 0 < l'.length by omega)
   have q2 := erase_len q1
   have q3 := lst_lt (lev := b'.lev) (show 0 < (l'.eraseIdx (lst b'.lev l')).length by omega)
   have hidx1 : ∀ a ∈ l', 0 ≤ a ∧ (a / 2).toNat < b'.lev.length ∧ a ≤ 10000 := fun a ha => hI.idx ha
   have hidx2 : ∀ a ∈ l'.eraseIdx (lst b'.lev l'), 0 ≤ a ∧ (a / 2).toNat < b'.lev.length ∧ a ≤ 10000 := fun a ha => hI.idx (mem_erase ha)
   have hl1 := fun τ hB => rw_least o (.int .i64 old.ins) (.slice (old.flops.map encFlop) .no) (.slice (old.ands.map encGate) .no) (.slice (old.outs.map encInt) .no) (.int .i64 b'.g.ins) F (.slice (b'.g.ands.map encGate) .no) (.slice (b'.g.outs.map encInt) to) L b'.lev (.own oV) l' (.slice (l'.map encInt) .no) τ hB (.inl ⟨_, rfl⟩) hidx1 (by omega) hlev
   have hand := fun τ hB hp hV => rw_and o p oV old b' (pairJ b'.lev l').1 (pairJ b'.lev l').2 to L τ hB hL hL1 hp hV n1 n1' n2 n2' n3 n3' hI.toBd.fine.toWf p1.1 p1.2.1 p2.1 p2.2.1 hlev (by have := hI.toBd.llen; omega) k0 (by omega) (by omega)
   rw [hfl, hF, hFO] at hand
   have hcl : ∀ τ, ACalls Try.prog 70 [.slice (l'.map encInt) .no] τ (NewO τ (fun o => .vec o l'.length) (.vec 1 l'.length (l'.map encInt))) := fun τ => (rw_Clone l' .no τ (by omega)).mono fun r s h => by
    rcases h with ⟨e, _⟩ | ⟨_, h⟩
    ·subst e; simp at h2
    ·exact h
   have hst : stepJ b' l' = ((andB b' (pairJ b'.lev l').1 (pairJ b'.lev l').2).1, restJ b'.lev l' ++ [(andB b' (pairJ b'.lev l').1 (pairJ b'.lev l').2).2]) := rfl
   have hpj : pairJ b'.lev l' = if lst b'.lev (l'.eraseIdx (lst b'.lev l')) < lst b'.lev l' then ((l'.eraseIdx (lst b'.lev l')).getD (lst b'.lev (l'.eraseIdx (lst b'.lev l'))) 0, l'.getD (lst b'.lev l') 0) else (l'.getD (lst b'.lev l') 0, (l'.eraseIdx (lst b'.lev l')).getD (lst b'.lev (l'.eraseIdx (lst b'.lev l'))) 0) := rfl
   have hrj : restJ b'.lev l' = (l'.eraseIdx (lst b'.lev l')).eraseIdx (lst b'.lev (l'.eraseIdx (lst b'.lev l'))) := rfl
   obtain ⟨i, hi⟩ : ∃ i, lst b'.lev l' = i := ⟨_, rfl⟩
   rw [hi] at hl1 hpj hrj q1 q2 q3 hidx2
   obtain ⟨R, hR⟩ : ∃ R, l'.eraseIdx i = R := ⟨_, rfl⟩
   rw [hR] at hpj hrj q2 q3 hidx2
   obtain ⟨k, hk⟩ : ∃ k, lst b'.lev R = k := ⟨_, rfl⟩
   have hd1 : ∀ τ q, τ q = some (.vec 1 l'.length (l'.map encInt)) → ACalls Try.prog 75 [.vec q l'.length, .int .i64 i, .int .i64 (i + 1)] τ (fun r s => r = .ret (.pre q R.length l'.length) ∧ s = upd τ q (.vec 1 l'.length (R.map encInt ++ [.int .i64 0]))) := fun τ q h => by
    have := rw_Delete q l'.length i l' [] (.vec q l'.length) τ (by simpa using h) (by simp) (.inl ⟨rfl, rfl⟩) q1
    rw [hR, ← q2] at this
    exact this
   have hl2 : ∀ τ q, τ o = some (.cells [(.int .i64 old.ins), (.slice (old.flops.map encFlop) .no), (.slice (old.ands.map encGate) .no), (.slice (old.outs.map encInt) .no), (.int .i64 b'.g.ins), F, (.slice (b'.g.ands.map encGate) .no), (.slice (b'.g.outs.map encInt) to), L, ilist b'.lev (.own oV)]) → τ q = some (.vec 1 l'.length (R.map encInt ++ [.int .i64 0])) → ACalls Try.prog 74 [.ptr o 0, .pre q R.length l'.length] τ (fun r s => r = .ret (.int .i64 k) ∧ s = τ) := fun τ q hB h => by
    have := rw_least o (.int .i64 old.ins) (.slice (old.flops.map encFlop) .no) (.slice (old.ands.map encGate) .no) (.slice (old.outs.map encInt) .no) (.int .i64 b'.g.ins) F (.slice (b'.g.ands.map encGate) .no) (.slice (b'.g.outs.map encInt) to) L b'.lev (.own oV) R (.pre q R.length l'.length) τ hB (.inr ⟨q, l'.length, [0], rfl, by simp; omega, h⟩) hidx2 (by omega) hlev
    rw [hk] at this
    exact this
   rw [hk] at hpj hrj q3
   have q4 := erase_len q3
   have hd2 : ∀ τ q, τ q = some (.vec 1 l'.length (R.map encInt ++ [.int .i64 0])) → ACalls Try.prog 75 [.pre q R.length l'.length, .int .i64 k, .int .i64 (k + 1)] τ (fun r s => r = .ret (.pre q (restJ b'.lev l').length l'.length) ∧ s = upd τ q (.vec 1 l'.length ((restJ b'.lev l').map encInt ++ [.int .i64 0, .int .i64 0]))) := fun τ q h => by
    have := rw_Delete q l'.length k R [0] (.pre q R.length l'.length) τ h (by simp; omega) (.inr rfl) q3
    rw [← q4, ← hrj] at this
    exact this
   have g1 := get_at q1
   have g2 := head_at (J := [.int .i64 0]) q3
   obtain ⟨M, hM⟩ : ∃ M, restJ b'.lev l' = M := ⟨_, rfl⟩
   rw [hM] at hd2 hst hrl
   obtain ⟨⟨b2, z⟩, hz⟩ : ∃ r, andB b' (pairJ b'.lev l').1 (pairJ b'.lev l').2 = r := ⟨_, rfl⟩
   rw [hz] at hand hst
   rw [hst] at k1 k2 k3 hres'
   obtain ⟨x0, hx0⟩ : ∃ x, l'.getD i 0 = x := ⟨_, rfl⟩
   obtain ⟨x1, hx1⟩ : ∃ x, R.getD k 0 = x := ⟨_, rfl⟩
   rw [hx0] at g1 hpj
   rw [hx1] at g2 hpj
   have hun : unflat false 1 l'.length (M.map encInt ++ [.int .i64 z] ++ [.int .i64 0]) = some (M.map encInt ++ [.int .i64 z] ++ [.int .i64 0]) := by
    have := unflat_one (M.map encInt ++ [.int .i64 z] ++ [.int .i64 0])
    rw [show (M.map encInt ++ [AV.int IntKind.i64 z] ++ [AV.int IntKind.i64 0]).length = l'.length by simp; omega] at this
    exact this
   have htk : List.take (M.length + 1) (M.map encInt ++ [.int .i64 z] ++ [.int .i64 0]) = (M ++ [z]).map encInt := by
    rw [List.take_append_of_le_length (by simp), List.take_of_length_le (by simp)]; simp
   have hc3 : (M.map encInt ++ [AV.int .i64 0, .int .i64 0]).take M.length = M.map encInt := by simp
   have hc4 : (M.map encInt ++ [AV.int .i64 0, .int .i64 0]).drop (M.length + 1) = [.int .i64 0] := by
    rw [List.drop_append, List.drop_eq_nil_of_le (by simp)]; simp
   have hroom : M.length + 1 ≤ l'.length := by omega
   have hF2 : b2.g.flops = b.g.flops := by
    have := k3.flops
    simp only at this
    rw [this, hfl]
   have hk1 : JI b2 (M ++ [z]) := k1
   have hk2 : (M ++ [z]).length < l'.length := by simp; omega
   have hres2 : joinB (M ++ [z]).length b2 (M ++ [z]) = joinB l.length b l := hres'
   have hq2 : R.length + 1 = l'.length := by omega
   have hq4 : M.length + 2 = l'.length := by omega
   clear q2 q4 hrl
   clear hres hres' hJ hI k0 k1 k2 k3 k4 k5 m1 m2 hlev hidx1 hidx2 hi hR hk hrj hM hst hz hx0 hx1 hfl
   by_cases hki : k < i
   ·rw [if_pos hki] at hpj
    rw [hpj] at hand p1 p2
    clear hpj
    repeat' (first | simp (maxDischargeDepth := 9) -implicitDefEqProofs -dsimp only [go_sem, seval, gt_iff_lt, Nat.mul_one, Int.toNat_natCast, imp_self, flat_int1, List.length_cons, List.length_nil, Nat.zero_add, *] | simp (disch := omega) only [wrap64] | ((with_reducible refine Zv ?_ ?_); focus (first | omega | exact rfl)) | ((with_reducible refine Zu ?_ ?_); focus omega) | ((with_reducible apply ACalls.one1); (focus ((first | with_reducible refine hl1 _ ?_ | with_reducible refine hd1 _ _ ?_ | with_reducible refine hl2 _ _ ?_ ?_ | with_reducible refine hd2 _ _ ?_ | with_reducible refine hand _ ?_ ?_ ?_) <;> (first | (simp (maxDischargeDepth := 9) -implicitDefEqProofs -dsimp only [go_sem, seval, *]; done) | omega))); (focus (first | trivial | with_reducible exact rfl | (simp (maxDischargeDepth := 9) -implicitDefEqProofs -dsimp only [go_sem, seval]; done)))) | ((with_reducible apply ACalls.newO); (focus ((with_reducible refine hcl _) <;> (first | (simp (maxDischargeDepth := 9) -implicitDefEqProofs -dsimp only [go_sem, seval, *]; done) | omega))); (intro oF hoF hnF hnF'); (try simp only [upd_none, ne_eq, not_and] at hoF)))
    refine loop_next _ _ _ _ (b2, M ++ [z]) ⟨?_, ?_, ⟨hk1, hF2, hres2⟩, hk2⟩
    ·(repeat' simp (maxDischargeDepth := 9) -implicitDefEqProofs -dsimp only [go_sem, seval, *])
    ·(repeat' simp (maxDischargeDepth := 9) -implicitDefEqProofs -dsimp only [go_sem, seval, *])
   ·rw [if_neg hki] at hpj
    rw [hpj] at hand p1 p2
    clear hpj
    repeat' (first | simp (maxDischargeDepth := 9) -implicitDefEqProofs -dsimp only [go_sem, seval, gt_iff_lt, Nat.mul_one, Int.toNat_natCast, imp_self, flat_int1, List.length_cons, List.length_nil, Nat.zero_add, *] | simp (disch := omega) only [wrap64] | ((with_reducible refine Zv ?_ ?_); focus (first | omega | exact rfl)) | ((with_reducible refine Zu ?_ ?_); focus omega) | ((with_reducible apply ACalls.one1); (focus ((first | with_reducible refine hl1 _ ?_ | with_reducible refine hd1 _ _ ?_ | with_reducible refine hl2 _ _ ?_ ?_ | with_reducible refine hd2 _ _ ?_ | with_reducible refine hand _ ?_ ?_ ?_) <;> (first | (simp (maxDischargeDepth := 9) -implicitDefEqProofs -dsimp only [go_sem, seval, *]; done) | omega))); (focus (first | trivial | with_reducible exact rfl | (simp (maxDischargeDepth := 9) -implicitDefEqProofs -dsimp only [go_sem, seval]; done)))) | ((with_reducible apply ACalls.newO); (focus ((with_reducible refine hcl _) <;> (first | (simp (maxDischargeDepth := 9) -implicitDefEqProofs -dsimp only [go_sem, seval, *]; done) | omega))); (intro oF hoF hnF hnF'); (try simp only [upd_none, ne_eq, not_and] at hoF)))
    refine loop_next _ _ _ _ (b2, M ++ [z]) ⟨?_, ?_, ⟨hk1, hF2, hres2⟩, hk2⟩
    ·(repeat' simp (maxDischargeDepth := 9) -implicitDefEqProofs -dsimp only [go_sem, seval, *])
    ·(repeat' simp (maxDischargeDepth := 9) -implicitDefEqProofs -dsimp only [go_sem, seval, *])
  ·have h1 : l'.length = 1 := by have := hI.ne; omega
   rw [joinB_one h1] at hres
   have hgt : ¬ (1 : Int) < l'.length := by omega
   rw [← hres]
   have g0 := get_at (l := l') (i := 0) (by omega)
   clear hres hJ hI
   repeat' (first | simp (maxDischargeDepth := 9) -implicitDefEqProofs -dsimp only [go_sem, seval, gt_iff_lt, *] | simp (disch := omega) only [wrap64] | ((with_reducible refine Zu ?_ ?_); focus omega))
   refine fin_eq ?_
   (repeat' simp (maxDischargeDepth := 9) -implicitDefEqProofs -dsimp only [go_sem, seval, *])
end Go.Proofs.Ytapnlmhfacoceaa

