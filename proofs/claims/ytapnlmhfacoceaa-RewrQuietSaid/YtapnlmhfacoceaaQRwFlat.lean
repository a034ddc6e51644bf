/- rewr: the document's Balance is the program's: which gates are inner ones, and which two are joined. No program in sight. -/
import Derived.Test.YtapnlmhfacoceaaQRewRewO
set_option linter.unusedSimpArgs false
set_option linter.unusedVariables false
namespace Go.Proofs.Ytapnlmhfacoceaa
open Abs Fil Fil.Rw
def knI : Kn → Int
 | some false => 0
 | some true => 1
 | none => 2
def encKI (k : Kn) : AV := .int .i64 (knI k)
theorem szs_ki (l : List Kn) : szs 1 (l.map encKI) = True := szs_map _ _ _ fun k => rfl
theorem ki_get {v : List Kn} {n : Nat} (h : n < v.length) : v[n] = v.getD n none := by simp [List.getD_eq_getElem?_getD, h]
theorem rf_known (v : List Kn) (t : Tok) (a : Int) (σ : Sig) (h0 : 0 ≤ a) (h1 : (a / 2).toNat < v.length) (h2 : a ≤ 1000000) :
  ACalls Try.prog 67 [.slice (v.map encKI) t, .int .i64 a] σ (fun r σ' => r = .ret (.int .i64 (knI (kOf v a))) ∧ σ' = σ) := by
 refine calls_x mixed Try.func67 b67 n67 rfl q67 (by simp) ?_; unfold c67 r67
 have hg := ki_get h1
 obtain ⟨k, hk⟩ : ∃ k, v.getD (a / 2).toNat none = k := ⟨_, rfl⟩
 rw [hk] at hg
 have ho : kOf v a = if a % 2 = 1 then kTurn k else k := by unfold kOf; rw [hk]
 rw [ho]
 clear ho hk
 rcases k with _ | b
 ·have hr : knI (if a % 2 = 1 then kTurn none else none) = 2 := by split <;> rfl
  have hb : ((2 : Int) == 2) = true := by decide
  rw [hr]
  clear hr
  repeat' (first | simp (maxDischargeDepth := 9) -implicitDefEqProofs -dsimp only [go_sem, seval, encKI, knI, *] | simp (disch := omega) only [wrap64, tdiv2, tmod2] | ((with_reducible refine Zv ?_ ?_); focus (first | omega | exact rfl)) | ((with_reducible refine Zu ?_ ?_); focus omega))
  refine fin_eq ?_
  (repeat' simp (maxDischargeDepth := 9) -implicitDefEqProofs -dsimp only [go_sem, seval, *])
 ·obtain ⟨f, hf⟩ : ∃ f, knI (some b) = f := ⟨_, rfl⟩
  have hf0 : 0 ≤ f ∧ f ≤ 1 := by rw [← hf]; cases b <;> simp [knI]
  have hx := xor_bit f a hf0.1 (by omega) h0
  have hr : knI (if a % 2 = 1 then kTurn (some b) else some b) = if a % 2 = 0 then f else turn f := by
   rw [← hf]
   by_cases he : a % 2 = 1
   ·rw [if_pos he, if_neg (by omega)]; cases b <;> rfl
   ·rw [if_neg he, if_pos (by omega)]
  rw [hr, ← hx]
  have hb : (f == 2) = false := by simp; omega
  clear hr hx hf0
  repeat' (first | simp (maxDischargeDepth := 9) -implicitDefEqProofs -dsimp only [go_sem, seval, encKI, *] | simp (disch := omega) only [wrap64, tdiv2, tmod2] | ((with_reducible refine Zv ?_ ?_); focus (first | omega | exact rfl)) | ((with_reducible refine Zu ?_ ?_); focus omega))
  refine fin_eq ?_
  (repeat' simp (maxDischargeDepth := 9) -implicitDefEqProofs -dsimp only [go_sem, seval, *])
theorem rf_both (a b : Kn) (σ : Sig) : ACalls Try.prog 66 [.int .i64 (knI a), .int .i64 (knI b)] σ (fun r σ' => r = .ret (.int .i64 (knI (kBoth a b))) ∧ σ' = σ) := by
 refine calls_x mixed Try.func66 b66 n66 rfl q66 (by simp) ?_; unfold c66 r66
 rcases a with _ | _ | _ <;> rcases b with _ | _ | _
 all_goals
  repeat' simp (maxDischargeDepth := 9) -implicitDefEqProofs -dsimp only [go_sem, seval, knI, kBoth, Int.reduceBEq, *]
  refine fin_eq ?_
  (repeat' simp (maxDischargeDepth := 9) -implicitDefEqProofs -dsimp only [go_sem, seval, knI, kBoth, *])
theorem rf_start (f : Flop) (so : Bool) (σ : Sig) : ACalls Try.prog 58 [encFlop f, .bool so] σ (fun r σ' => r = .ret (.int .i64 (knI (if so then some f.init else none))) ∧ σ' = σ) := by
 refine calls_x mixed Try.func58 b58 n58 rfl q58 (by simp) ?_; unfold c58 r58
 obtain ⟨x, i⟩ := f
 cases so <;> cases i
 all_goals
  repeat' (first | simp (maxDischargeDepth := 9) -implicitDefEqProofs -dsimp only [go_sem, seval, knI, *])
  refine fin_eq ?_
  (repeat' simp (maxDischargeDepth := 9) -implicitDefEqProofs -dsimp only [go_sem, seval, knI, Bool.false_eq_true, *])
end Go.Proofs.Ytapnlmhfacoceaa

namespace Go.Proofs.Ytapnlmhfacoceaa
open Abs Fil Fil.Rw
def kIn' (j : Nat) : List Kn := some false :: List.replicate j none
theorem kIn'_map (j : Nat) : (kIn' (j + 1)).map encKI = (kIn' j).map encKI ++ [.int .i64 2] := by
 unfold kIn'
 rw [List.replicate_succ', ← List.cons_append, List.map_append]; rfl
theorem kIn'_len (j : Nat) : (kIn' j).length = j + 1 := by simp [kIn']
theorem kFl_mapI (g : Aig) (so : List Bool) (i : Nat) : (kFl g so (i + 1)).map encKI = (kFl g so i).map encKI ++ [encKI (stl g so i)] := by
 show (kFl g so i ++ [stl g so i]).map encKI = _
 rw [List.map_append]; rfl
theorem kAt_mapI (g : Aig) (so : List Bool) (i : Nat) : (kAt g so (i + 1)).map encKI = (kAt g so i).map encKI ++ [encKI (kBoth (kOf (kAt g so i) (g.ands.getD i (0, 0)).1) (kOf (kAt g so i) (g.ands.getD i (0, 0)).2))] := by
 show (kAt g so i ++ [_]).map encKI = _
 rw [List.map_append]; rfl
theorem nextI {g : Aig} {i : Nat} (h : i < g.flops.length) : nextAt g i = g.flops[i].next := by simp [nextAt, List.getD_eq_getElem?_getD, h]
theorem initI {g : Aig} {i : Nat} (h : i < g.flops.length) : initAt g i = g.flops[i].init := by simp [initAt, List.getD_eq_getElem?_getD, h]
theorem knI_ne (a b : Kn) : (knI a != knI b) = decide (a ≠ b) := by
 rcases a with _ | _ | _ <;> rcases b with _ | _ | _ <;> decide
def trAt (n i : Nat) : List Bool := List.replicate i true ++ List.replicate (n - i) false
theorem trAt_len {n i : Nat} (h : i ≤ n) : (trAt n i).length = n := by simp [trAt]; omega
theorem trAt_set {n i : Nat} (h : i < n) : (trAt n i).set i true = trAt n (i + 1) := by
 unfold trAt
 obtain ⟨d, hd⟩ : ∃ d, n - i = d + 1 := ⟨n - i - 1, by omega⟩
 rw [hd, show n - (i + 1) = d by omega, List.replicate_succ, List.set_append_right _ _ (by simp), List.replicate_succ' (n := i)]
 simp
theorem set_same {l : List Bool} {i : Nat} (h : l.getD i false = false) : l.set i false = l := by
 refine bl_ext (by simp) fun j hj => ?_
 rw [set_getD]
 split
 ·rename_i e; subst e; exact h.symm
 ·rfl
theorem qDel_ne {g : Aig} {v : List Kn} {so : List Bool} {i : Nat} (hs : so.getD i false = true) : (qDel g v so i).set i false ≠ so := fun e => by
 have := congrArg (fun l : List Bool => l.getD i false) e
 simp only [set_getD, if_true] at this
 rw [hs] at this; simp at this
set_option maxRecDepth 20000 in
set_option maxHeartbeats 16000000 in
theorem rf_Quiet (g : Aig) (σ : Sig) (hg : Sml g) : ACalls Try.prog 33 [encAig g] σ (fun r σ' => r = .ret (.slice ((quietG g).map encBool) .no) ∧ σ' = σ) := by
 refine calls_x mixed Try.func33 b33 n33 rfl q33 (by simp) ?_; unfold c33 r33
 have hlo := hg.lo
 have h1 := hg.ins
 have h2 := hg.flops
 have h3 := hg.ands
 obtain ⟨N, hN⟩ : ∃ N : Nat, (N : Int) = g.ins := ⟨g.ins.toNat, by omega⟩
 have hN' : g.ins = (N : Int) := hN.symm
 have hN1 : N ≤ 60 := by omega
 have hNt : g.ins.toNat = N := by omega
 clear hN
 obtain ⟨n, hn⟩ : ∃ n, g.flops.length = n := ⟨_, rfl⟩
 repeat' (first | simp (maxDischargeDepth := 9) -implicitDefEqProofs -dsimp only [go_sem, seval, *] | ((with_reducible refine Zv ?_ ?_); focus (first | omega | exact rfl)) | ((with_reducible refine Zt (fun oF hoF hnF hnF' => ?_)); (try simp only [upd_none, ne_eq, not_and] at hoF)))
 obtain ⟨o, eo⟩ : ∃ x, x = oF := ⟨oF, rfl⟩
 subst eo
 have ho : σ o = none := hoF
 clear hoF hnF hnF'
 have hrep : (List.replicate n [AV.bool false]).flatten = (trAt n 0).map encBool := by rw [rep_bool]; rfl
 refine loop_rule (fun i : Nat => [(4, some (.int .i64 i)), (3, some (.vec o n)), (1, some (.cptr (aigL g)))])
  (fun i => upd σ o (.vec 1 n ((trAt n i).map encBool))) (fun i => i ≤ n) (fun i => n - i) 0 ?_ ?_
 ·rw [← hrep]
  clear hrep
  (repeat' simp (maxDischargeDepth := 9) -implicitDefEqProofs -dsimp only [go_sem, seval, Int.natCast_zero, *]) <;> (first | omega | skip)
 ·intro i hi
  clear hrep
  have hl := trAt_len hi
  by_cases hlt : i < n
  ·have hlt' : (i : Int) < n := by omega
   have hp := put_bool (trAt n i) i true (by omega)
   rw [trAt_set hlt] at hp
   obtain ⟨R, hR⟩ : ∃ R, trAt n i = R := ⟨_, rfl⟩
   rw [hR] at hp hl ⊢
   clear hR
   repeat' (first | simp (maxDischargeDepth := 9) -implicitDefEqProofs -dsimp only [go_sem, seval, *] | simp (disch := omega) only [wrap64] | ((with_reducible refine Zv ?_ ?_); focus (first | omega | exact rfl)))
   refine loop_next _ _ _ _ (i + 1) ?_; (repeat' simp (maxDischargeDepth := 9) -implicitDefEqProofs -dsimp only [go_sem, seval, *]) <;> (repeat' refine And.intro ?_ ?_) <;> (first | omega | skip)
  ·have hlt' : ¬ (i : Int) < n := by omega
   have ei : i = n := by omega
   subst ei
   have e0 : trAt i i = qAll g := by unfold trAt qAll; rw [hn]; simp
   rw [e0]
   clear hlt hi e0 hl
   repeat' simp (maxDischargeDepth := 9) -implicitDefEqProofs -dsimp only [go_sem, seval, *]
   refine loop_rule (fun x : Bool × List Bool => [(5, some (.bool x.1)), (3, some (.vec o i)), (1, some (.cptr (aigL g)))])
    (fun x => upd σ o (.vec 1 i (x.2.map encBool))) (fun x => x.2.length = g.flops.length ∧ (x.1 = false → qStep g x.2 = x.2) ∧ ∃ k, x.2 = qIt g k ∧ k + cT x.2 g.flops.length ≤ g.flops.length) (fun x => if x.1 then cT x.2 g.flops.length + 1 else 0) (true, qAll g) ?_ ?_
   ·refine ⟨?_, ?_, qIt_len g 0, fun h => by simp at h, 0, rfl, by
     have := cT_bound (qAll g) g.flops.length
     show 0 + cT (qAll g) g.flops.length ≤ g.flops.length
     omega⟩
    ·(repeat' simp (maxDischargeDepth := 9) -implicitDefEqProofs -dsimp only [go_sem, seval, *])
    ·(repeat' simp (maxDischargeDepth := 9) -implicitDefEqProofs -dsimp only [go_sem, seval, *])
   ·rintro ⟨again, so⟩ ⟨hsl, hfix, hso⟩
    simp only at hsl hfix hso ⊢
    cases again with
    | false =>
     obtain ⟨k, hk, hks⟩ := hso
     have hq : so = quietG g := by rw [hk]; exact quiet_end (by omega) (by rw [← hk]; exact hfix rfl)
     have hsl2 : so.length = i := by omega
     rw [← hq]
     clear hk hks hq hfix hsl
     repeat' simp (maxDischargeDepth := 9) -implicitDefEqProofs -dsimp only [go_sem, seval, *]
     refine fin_bools (o := o) (n := i) ?_ hsl2 rfl ?_
     ·simp (maxDischargeDepth := 9) -implicitDefEqProofs -dsimp only [go_sem, seval, *]
     ·(repeat' simp (maxDischargeDepth := 9) -implicitDefEqProofs -dsimp only [go_sem, seval, *])
    | true =>
     clear hfix
     repeat' (first | simp (maxDischargeDepth := 9) -implicitDefEqProofs -dsimp only [go_sem, seval, *] | ((with_reducible refine Zt (fun oF hoF hnF hnF' => ?_)); (try simp only [upd_none, ne_eq, not_and] at hoF)))
     obtain ⟨oX, eX⟩ : ∃ x, x = oF := ⟨oF, rfl⟩
     subst eX
     obtain ⟨x1, x2⟩ := hoF
     have x3 : ¬ o = oX := fun e => x1 e.symm
     clear hnF hnF'
     refine loop_rule (fun j : Nat => [(7, some (.int .i64 j)), (1, some (.cptr (aigL g))), (6, some (.slice ((kIn' j).map encKI) (.own oX))), (3, some (.vec o i))])
      (fun j => upd (upd σ o (.vec 1 i (so.map encBool))) oX (.grow 1 (j + 1))) (fun j => j ≤ N) (fun j => N - j) 0 ?_ ?_
     ·have e0 : (kIn' 0).map encKI = [.int .i64 0] := rfl
      (repeat' simp (maxDischargeDepth := 9) -implicitDefEqProofs -dsimp only [go_sem, seval, e0, Int.natCast_zero, Nat.zero_add, *]) <;> (first | omega | skip)
     ·intro j hj
      have hkl := kIn'_len j
      by_cases hlt : j < N
      ·have hlt' : (j : Int) < N := by omega
       have hkm := kIn'_map j
       obtain ⟨l, hL⟩ : ∃ L, kIn' j = L := ⟨_, rfl⟩
       rw [hL] at hkm hkl ⊢
       have hsz := szs_ki l
       clear hL hso hsl hn
       repeat' (first | simp (maxDischargeDepth := 9) -implicitDefEqProofs -dsimp only [go_sem, seval, *] | simp (disch := omega) only [wrap64] | ((with_reducible refine Zv ?_ ?_); focus (first | omega | exact rfl)))
       refine loop_next _ _ _ _ (j + 1) ?_; (repeat' simp (maxDischargeDepth := 9) -implicitDefEqProofs -dsimp only [go_sem, seval, *]) <;> (repeat' refine And.intro ?_ ?_) <;> (first | omega | skip)
      ·have hlt' : ¬ (j : Int) < N := by omega
       have ej : N = j := by omega
       subst ej
       have e0 : kIn' N = kFl g so 0 := by unfold kIn' kFl; rw [hNt]
       have e1 : N + 1 = (kFl g so 0).length := by rw [← e0, hkl]
       rw [e0, e1]
       clear hlt hj hkl e1
       repeat' simp (maxDischargeDepth := 9) -implicitDefEqProofs -dsimp only [go_sem, seval, *]
       refine loop_rule (fun q : Nat => [(8, some (.int .i64 q)), (3, some (.vec o i)), (6, some (.slice ((kFl g so q).map encKI) (.own oX))), (1, some (.cptr (aigL g)))])
        (fun q => upd (upd σ o (.vec 1 i (so.map encBool))) oX (.grow 1 (kFl g so q).length)) (fun q => q ≤ i) (fun q => i - q) 0 ?_ ?_
       ·(repeat' simp (maxDischargeDepth := 9) -implicitDefEqProofs -dsimp only [go_sem, seval, Int.natCast_zero, *]) <;> (first | omega | skip)
       ·intro q hq
        have hkl := kFl_len g so q
        by_cases hlt : q < i
        ·have hlt' : (q : Int) < i := by omega
         have hqf : q < g.flops.length := by omega
         have hkm := kFl_mapI g so q
         have hl1 : (kFl g so (q + 1)).length = (kFl g so q).length + 1 := by rw [kFl_len, kFl_len]; omega
         have hl2 : (kFl g so q).length ≤ 1000 := by omega
         have hhd := head_bool (l := so) (i := q) (by omega)
         have hst : stl g so q = if so.getD q false then some (initAt g q) else none := rfl
         rw [initI hqf] at hst
         rw [hst] at hkm
         obtain ⟨b, hb⟩ : ∃ b, so.getD q false = b := ⟨_, rfl⟩
         rw [hb] at hhd hkm
         obtain ⟨f, hf⟩ : ∃ f, g.flops[q] = f := ⟨_, rfl⟩
         rw [hf] at hkm
         have cs := rf_start f b
         obtain ⟨l, hl⟩ : ∃ l, kFl g so q = l := ⟨_, rfl⟩
         rw [hl] at hkm hl1 hl2 ⊢
         have hsz := szs_ki l
         have hsol : so.length = i := by omega
         obtain ⟨s, hs⟩ : ∃ s, (if b = true then some f.init else none : Kn) = s := ⟨_, rfl⟩
         rw [hs] at hkm cs
         rw [show encKI s = .int .i64 (knI s) from rfl] at hkm
         clear hkl hl hso hsl hb hs hst
         repeat' (first | simp (maxDischargeDepth := 9) -implicitDefEqProofs -dsimp only [go_sem, seval, *] | simp (disch := omega) only [wrap64] | ((with_reducible refine Zv ?_ ?_); focus (first | omega | exact rfl)) | ((with_reducible refine Zu ?_ ?_); focus omega) | ((with_reducible apply id_one0); (focus (intro tS hS; ((with_reducible refine cs _) <;> (first | (simp (maxDischargeDepth := 9) -implicitDefEqProofs -dsimp only [go_sem, seval, *]; done) | omega | ((with_reducible refine Sub.get hS ?_); simp (maxDischargeDepth := 9) -implicitDefEqProofs -dsimp only [go_sem, seval, *]; done))))); (focus (first | trivial | (simp (maxDischargeDepth := 9) -implicitDefEqProofs -dsimp only [go_sem, seval, *]; done)))))
         refine loop_next _ _ _ _ (q + 1) ?_; (repeat' simp (maxDischargeDepth := 9) -implicitDefEqProofs -dsimp only [go_sem, seval, *]) <;> (repeat' refine And.intro ?_ ?_) <;> (first | omega | skip)
        ·have hlt' : ¬ (q : Int) < i := by omega
         have eq : q = g.flops.length := by omega
         have e0 : kFl g so q = kAt g so 0 := by rw [eq]; rfl
         rw [e0] at hkl ⊢
         have hsol : so.length = i := by omega
         clear hlt hq eq e0
         repeat' simp (maxDischargeDepth := 9) -implicitDefEqProofs -dsimp only [go_sem, seval, *]
         refine loop_rule (fun m : Nat => [(9, some (.int .i64 m)), (1, some (.cptr (aigL g))), (6, some (.slice ((kAt g so m).map encKI) (.own oX))), (3, some (.vec o i))])
          (fun m => upd (upd σ o (.vec 1 i (so.map encBool))) oX (.grow 1 (kAt g so m).length)) (fun m => m ≤ g.ands.length) (fun m => g.ands.length - m) 0 ?_ ?_
         ·(repeat' simp (maxDischargeDepth := 9) -implicitDefEqProofs -dsimp only [go_sem, seval, Int.natCast_zero, *]) <;> (first | omega | skip)
         ·intro m hm
          have hkl := kAt_len g so m
          rw [hNt] at hkl
          by_cases hlt : m < g.ands.length
          ·have hlt' : (m : Int) < g.ands.length := by omega
           have hkm := kAt_mapI g so m
           obtain ⟨⟨a1, a2⟩, a3, a4⟩ := gate_bounds hg hlt
           rw [ands_getD hlt] at hkm
           have hfst : g.first = 1 + N + g.flops.length := by simp only [Aig.first, hN']
           have hl1 : (kAt g so (m + 1)).length = (kAt g so m).length + 1 := by rw [kAt_len, kAt_len]; omega
           have hl2 : (kAt g so m).length ≤ 1000 := by omega
           obtain ⟨l, hl⟩ : ∃ l, kAt g so m = l := ⟨_, rfl⟩
           rw [hl] at hkm hl1 hl2 hkl ⊢
           have hsz := szs_ki l
           have r1 := fun τ => rf_known l (.own oX) g.ands[m].1 τ a1 (by omega) (by omega)
           have r2 := fun τ => rf_known l (.own oX) g.ands[m].2 τ a3 (by omega) (by omega)
           obtain ⟨k1, hk1⟩ : ∃ k, kOf l g.ands[m].1 = k := ⟨_, rfl⟩
           obtain ⟨k2, hk2⟩ : ∃ k, kOf l g.ands[m].2 = k := ⟨_, rfl⟩
           rw [hk1] at r1 hkm
           rw [hk2] at r2 hkm
           have r3 := rf_both k1 k2
           obtain ⟨k3, hk3⟩ : ∃ k, kBoth k1 k2 = k := ⟨_, rfl⟩
           rw [hk3] at r3 hkm
           rw [show encKI k3 = .int .i64 (knI k3) from rfl] at hkm
           clear hkl hl hso hsl hk1 hk2 hk3 a1 a2 a3 a4 hfst
           repeat' (first | simp (maxDischargeDepth := 9) -implicitDefEqProofs -dsimp only [go_sem, seval, *] | simp (disch := omega) only [wrap64] | ((with_reducible refine Zv ?_ ?_); focus (first | omega | exact rfl)) | ((with_reducible refine Zu ?_ ?_); focus omega) | ((with_reducible apply id_one0); (focus (intro tS hS; ((first | with_reducible refine r1 _ | with_reducible refine r2 _ | with_reducible refine r3 _) <;> (first | (simp (maxDischargeDepth := 9) -implicitDefEqProofs -dsimp only [go_sem, seval, *]; done) | omega | ((with_reducible refine Sub.get hS ?_); simp (maxDischargeDepth := 9) -implicitDefEqProofs -dsimp only [go_sem, seval, *]; done))))); (focus (first | trivial | (simp (maxDischargeDepth := 9) -implicitDefEqProofs -dsimp only [go_sem, seval, *]; done)))))
           refine loop_next _ _ _ _ (m + 1) ?_; (repeat' simp (maxDischargeDepth := 9) -implicitDefEqProofs -dsimp only [go_sem, seval, *]) <;> (repeat' refine And.intro ?_ ?_) <;> (first | omega | skip)
          ·have hlt' : ¬ (m : Int) < g.ands.length := by omega
           have em : m = g.ands.length := by omega
           subst em
           clear hlt hm
           repeat' simp (maxDischargeDepth := 9) -implicitDefEqProofs -dsimp only [go_sem, seval, *]
           obtain ⟨v, hv⟩ : ∃ v, kAt g so g.ands.length = v := ⟨_, rfl⟩
           rw [hv] at hkl ⊢
           have hstep : qStep g so = qDel g v so i := by unfold qStep; rw [hv, hn]
           refine loop_rule (fun q : Nat => [(10, some (.int .i64 q)), (5, some (.bool (decide (qDel g v so q ≠ so)))), (3, some (.vec o i)), (6, some (.slice (v.map encKI) (.own oX))), (1, some (.cptr (aigL g)))])
            (fun q => upd (upd σ o (.vec 1 i ((qDel g v so q).map encBool))) oX (.grow 1 v.length)) (fun q => q ≤ i) (fun q => i - q) 0 ?_ ?_
           ·have e0 : qDel g v so 0 = so := rfl
            have e1 : decide (qDel g v so 0 ≠ so) = false := by simp [e0]
            rw [e1, e0]
            (repeat' simp (maxDischargeDepth := 9) -implicitDefEqProofs -dsimp only [go_sem, seval, Int.natCast_zero, *]) <;> (first | omega | skip)
           ·intro q hq
            have hql := qDel_len g v so q
            rw [hsol] at hql
            by_cases hlt : q < i
            ·have hlt' : (q : Int) < i := by omega
             have hqf : q < g.flops.length := by omega
             have hqf' : (q : Int) < g.flops.length := by omega
             have hnx := good_flops hg.good (List.getElem_mem hqf)
             have cf := count_first g
             have hfst : g.first = 1 + N + g.flops.length := by simp only [Aig.first, hN']
             have hqs : qDel g v so (q + 1) = if kOf v (nextAt g q) = some (initAt g q) then qDel g v so q else (qDel g v so q).set q false := rfl
             rw [nextI hqf, initI hqf] at hqs
             have hsame : (qDel g v so q).getD q false = so.getD q false := by rw [qDel_get, if_neg (by omega)]
             have hne := qDel_ne (g := g) (v := v) (so := so) (i := q)
             obtain ⟨f, hf⟩ : ∃ f, g.flops[q] = f := ⟨_, rfl⟩
             rw [hf] at hnx hqs
             have r1 := fun τ => rf_known v (.own oX) f.next τ hnx.1 (by omega) (by omega)
             have r2 : ∀ τ, ACalls Try.prog 58 [encFlop f, .bool true] τ (fun r s => r = .ret (.int .i64 (knI (some f.init))) ∧ s = τ) := fun τ => rf_start f true τ
             obtain ⟨k, hk⟩ : ∃ k, kOf v f.next = k := ⟨_, rfl⟩
             rw [hk] at r1 hqs
             have hkn := knI_ne k (some f.init)
             obtain ⟨R, hR⟩ : ∃ R, qDel g v so q = R := ⟨_, rfl⟩
             rw [hR] at hqs hsame hne hql ⊢
             have hhd := head_bool (l := R) (i := q) (by omega)
             have hp := put_bool R q false (by omega)
             have hq1 : q ≤ 1000 := by omega
             obtain ⟨b, hb⟩ : ∃ b, so.getD q false = b := ⟨_, rfl⟩
             rw [hb] at hsame hne
             rw [hsame] at hhd
             cases b with
             | false =>
              have hS : qDel g v so (q + 1) = R := by
               rw [hqs]
               split
               ·rfl
               ·exact set_same hsame
              clear hqs hkl hso hsl hk hR hne hkn hnx cf hfst hstep hv hb hsame hp r1 r2
              repeat' (first | simp (maxDischargeDepth := 9) -implicitDefEqProofs -dsimp only [go_sem, seval, *] | simp (disch := omega) only [wrap64] | ((with_reducible refine Zv ?_ ?_); focus (first | omega | exact rfl)))
              refine loop_next _ _ _ _ (q + 1) ?_; (repeat' simp (maxDischargeDepth := 9) -implicitDefEqProofs -dsimp only [go_sem, seval, *]) <;> (repeat' refine And.intro ?_ ?_) <;> (first | omega | skip)
             | true =>
              by_cases hke : k = some f.init
              ·have hS : qDel g v so (q + 1) = R := by rw [hqs, if_pos hke]
               have hkf : (knI k != knI (some f.init)) = false := by rw [hkn]; simp [hke]
               clear hqs hkl hso hsl hk hR hne hkn hnx cf hfst hstep hv hb hsame hp hke
               repeat' (first | simp (maxDischargeDepth := 9) -implicitDefEqProofs -dsimp only [go_sem, seval, *] | simp (disch := omega) only [wrap64] | ((with_reducible refine Zv ?_ ?_); focus (first | omega | exact rfl)) | ((with_reducible refine Zu ?_ ?_); focus omega) | ((with_reducible apply id_one0); (focus (intro tS hS; ((first | with_reducible refine r1 _ | with_reducible refine r2 _) <;> (first | (simp (maxDischargeDepth := 9) -implicitDefEqProofs -dsimp only [go_sem, seval, *]; done) | omega | ((with_reducible refine Sub.get hS ?_); simp (maxDischargeDepth := 9) -implicitDefEqProofs -dsimp only [go_sem, seval, *]; done))))); (focus (first | trivial | (simp (maxDischargeDepth := 9) -implicitDefEqProofs -dsimp only [go_sem, seval, *]; done)))))
               refine loop_next _ _ _ _ (q + 1) ?_; (repeat' simp (maxDischargeDepth := 9) -implicitDefEqProofs -dsimp only [go_sem, seval, *]) <;> (repeat' refine And.intro ?_ ?_) <;> (first | omega | skip)
              ·have hS : qDel g v so (q + 1) = R.set q false := by rw [hqs, if_neg hke]
               have hkf : (knI k != knI (some f.init)) = true := by rw [hkn]; simp [hke]
               have hd : decide (R.set q false ≠ so) = true := by simpa using hne rfl
               clear hqs hkl hso hsl hk hR hne hkn hnx cf hfst hstep hv hb hsame hke
               repeat' (first | simp (maxDischargeDepth := 9) -implicitDefEqProofs -dsimp only [go_sem, seval, *] | simp (disch := omega) only [wrap64] | ((with_reducible refine Zv ?_ ?_); focus (first | omega | exact rfl)) | ((with_reducible refine Zu ?_ ?_); focus omega) | ((with_reducible apply id_one0); (focus (intro tS hS; ((first | with_reducible refine r1 _ | with_reducible refine r2 _) <;> (first | (simp (maxDischargeDepth := 9) -implicitDefEqProofs -dsimp only [go_sem, seval, *]; done) | omega | ((with_reducible refine Sub.get hS ?_); simp (maxDischargeDepth := 9) -implicitDefEqProofs -dsimp only [go_sem, seval, *]; done))))); (focus (first | trivial | (simp (maxDischargeDepth := 9) -implicitDefEqProofs -dsimp only [go_sem, seval, *]; done)))))
               refine loop_next _ _ _ _ (q + 1) ?_; (repeat' simp (maxDischargeDepth := 9) -implicitDefEqProofs -dsimp only [go_sem, seval, *]) <;> (repeat' refine And.intro ?_ ?_) <;> (first | omega | skip)
            ·have hlt' : ¬ (q : Int) < i := by omega
             have eq : q = i := by omega
             subst eq
             rw [← hstep] at hql ⊢
             obtain ⟨k, hk, hks⟩ := hso
             have hP : ∃ again', decide (qStep g so ≠ so) = again' ∧ ((qStep g so).length = g.flops.length ∧ (again' = false → qStep g (qStep g so) = qStep g so) ∧ ∃ k, qStep g so = qIt g k ∧ k + cT (qStep g so) g.flops.length ≤ g.flops.length) ∧ (if again' then cT (qStep g so) g.flops.length + 1 else 0) < cT so g.flops.length + 1 := by
              have hl : (qStep g so).length = g.flops.length := by rw [qStep_len]; exact hsl
              rcases qStep_cases hsl with ⟨he, hc⟩ | ⟨hne, hc⟩
              ·exact ⟨false, by simp [he], ⟨hl, fun _ => by rw [he, he], k, by rw [he]; exact hk, by rw [hc]; exact hks⟩, by simp⟩
              ·exact ⟨true, by simp [hne], ⟨hl, fun h => by simp at h, k + 1, by rw [hk]; rfl, by omega⟩, by simp only [if_true]; omega⟩
             obtain ⟨again', h1', h2', h3'⟩ := hP
             rw [h1']
             obtain ⟨S, hS⟩ : ∃ S, qStep g so = S := ⟨_, rfl⟩
             rw [hS] at h2' h3' hql ⊢
             clear hk hks hkl hv hstep hS h1' hlt hq hsl
             repeat' simp (maxDischargeDepth := 9) -implicitDefEqProofs -dsimp only [go_sem, seval, *]
             rw [hn] at h2' h3'
             refine loop_next _ _ _ _ (again', S) ⟨?_, ?_, h2', h3'⟩
             ·clear h2' h3'
              (repeat' simp (maxDischargeDepth := 9) -implicitDefEqProofs -dsimp only [go_sem, seval, *])
             ·clear h2' h3'
              (repeat' simp (maxDischargeDepth := 9) -implicitDefEqProofs -dsimp only [go_sem, seval, *])
end Go.Proofs.Ytapnlmhfacoceaa

namespace Fil.Rw
open Abs
open Eqv (moveL)
def evL' (n : Nat) : List Int := (List.range n).map fun k : Nat => 2 * (k : Int)
theorem evL'_succ (n : Nat) : evL' (n + 1) = evL' n ++ [2 * (n : Int)] := by simp [evL', List.range_succ]
theorem bg_none (g : Aig) (h : 0 ≤ g.ins) : ∀ i, i ≤ g.flops.length → (bgAt g (fun _ => none) i).1 = evL' ((1 + g.ins).toNat + i) ∧ (bgAt g (fun _ => none) i).2 = (g.flops.take i).map fun f => ⟨0, f.init⟩
 | 0, _ => ⟨rfl, rfl⟩
 | i + 1, hi => by
  obtain ⟨h1, h2⟩ := bg_none g h i (by omega)
  have hg : g.flops.getD i ⟨0, false⟩ = g.flops[i] := by simp [List.getD_eq_getElem?_getD, show i < g.flops.length by omega]
  unfold bgAt
  simp only
  rw [h1, h2, hg]
  constructor
  ·rw [show (1 + g.ins).toNat + (i + 1) = ((1 + g.ins).toNat + i) + 1 by omega, evL'_succ]
   congr 2
   simp only [List.length_map, List.length_take]; omega
  ·rw [List.take_add_one, List.getElem?_eq_getElem (by omega), List.map_append]; rfl
theorem bgn_none {g : Aig} (hg : Sml g) : (bgn g fun _ => none).lits = evL' g.first.toNat ∧ (bgn g fun _ => none).g = ⟨g.ins, g.flops.map fun f => ⟨0, f.init⟩, [], []⟩ := by
 obtain ⟨h1, h2⟩ := bg_none g hg.lo g.flops.length (Nat.le_refl _)
 have hlo := hg.lo
 unfold bgn
 rw [h1, h2, List.take_length]
 refine ⟨?_, rfl⟩
 show evL' _ = _
 congr 1
 simp only [Aig.first]; omega
theorem nx_none (g : Aig) (lits : List Int) : ∀ i, i ≤ g.flops.length → nextsAt g (fun _ => none) lits i = (g.flops.take i).map fun f => ⟨moveL lits f.next, f.init⟩
 | 0, _ => rfl
 | i + 1, hi => by
  have ih := nx_none g lits i (by omega)
  have hg : g.flops.getD i ⟨0, false⟩ = g.flops[i] := by simp [List.getD_eq_getElem?_getD, show i < g.flops.length by omega]
  unfold nextsAt
  simp only
  rw [ih, hg, List.take_add_one, List.getElem?_eq_getElem (by omega), List.map_append]; rfl
def endG (h g : Aig) (lits : List Int) : Aig := ⟨h.ins, g.flops.map fun f => ⟨moveL lits f.next, f.init⟩, h.ands, g.outs.map (moveL lits)⟩
theorem endG_eq {g : Aig} {b : B} (ho : b.g.outs = []) : endB g (fun _ => none) b = endG b.g g b.lits := by
 unfold endB endG
 rw [nx_none g b.lits g.flops.length (Nat.le_refl _), List.take_length, ho]; rfl
def rsAt (g : Aig) : Nat → List (Int × Int) × List Int
 | 0 => ([], evL' g.first.toNat)
 | i + 1 =>
  let L := (rsAt g i).2 ++ [2 * (g.first + (rsAt g i).1.length)]
  let x := g.ands.getD i (0, 0)
  (if ndG g (g.first + i).toNat then (rsAt g i).1 ++ [(moveL L x.1, moveL L x.2)] else (rsAt g i).1, L)
def rsweep (g : Aig) : Aig := endG ⟨g.ins, [], (rsAt g g.ands.length).1, []⟩ g (rsAt g g.ands.length).2
theorem rs_len (g : Aig) : ∀ i, (rsAt g i).2.length = g.first.toNat + i
 | 0 => by simp [rsAt, evL']
 | i + 1 => by simp [rsAt, rs_len g i]; omega
theorem getD_app {l m : List Int} {n : Nat} (h : n < l.length) : (l ++ m).getD n 0 = l.getD n 0 := by
 simp only [List.getD_eq_getElem?_getD, List.getElem?_append_left h]
theorem getD_last {l : List Int} {x : Int} {n : Nat} (h : n = l.length) : (l ++ [x]).getD n 0 = x := by
 subst h
 simp [List.getD_eq_getElem?_getD]
theorem move_eq {l m : List Int} {a : Int} (h : l.getD (a / 2).toNat 0 = m.getD (a / 2).toNat 0) : moveL l a = moveL m a := by
 unfold moveL; rw [h]
theorem rs_eq {g : Aig} (hg : Sml g) : ∀ i, i ≤ g.ands.length → (rsAt g i).1 = (swAt g i).g.ands ∧ ∀ n : Nat, n < g.first.toNat + i → ((n : Int) < g.first ∨ ndG g n = true) → (rsAt g i).2.getD n 0 = (swAt g i).lits.getD n 0
 | 0, _ => by
  obtain ⟨h1, h2⟩ := bgn_none hg
  refine ⟨rfl, fun n hn _ => ?_⟩
  show (evL' _).getD n 0 = (bgn g _).lits.getD n 0
  rw [h1]
 | i + 1, hi => by
  obtain ⟨h1, h2⟩ := rs_eq hg i (by omega)
  have hlt : i < g.ands.length := by omega
  have J := sw_inv hg i (by omega)
  have hlo := hg.lo
  have hf : 1 ≤ g.first := by unfold Aig.first; omega
  have hrl := rs_len g i
  have hsl := J.len
  obtain ⟨⟨a1, a2⟩, a3, a4⟩ := gate_bounds hg hlt
  unfold rsAt swAt
  simp only
  rw [h1, ands_getD hlt]
  cases hn : ndG g (g.first + i).toNat with
  | true =>
   simp only [if_true]
   obtain ⟨k1, k2⟩ := nd_step hg hlt hn
   have hm : ∀ a, 0 ≤ a → a < 2 * (g.first + i) → ndG g (a / 2).toNat = true → moveL ((rsAt g i).2 ++ [2 * (g.first + (swAt g i).g.ands.length)]) a = moveL ((swAt g i).lits ++ [2 * (g.first + (swAt g i).g.ands.length)]) a := fun a q0 q1 q2 => by
    refine move_eq ?_
    rw [getD_app (by omega), getD_app (by omega)]
    exact h2 _ (by omega) (.inr q2)
   refine ⟨by rw [hm _ a1 a2 k1, hm _ a3 a4 k2], fun n hn1 hn2 => ?_⟩
   by_cases hlast : n < g.first.toNat + i
   ·rw [getD_app (by omega), getD_app (by omega)]
    exact h2 n hlast hn2
   ·rw [getD_last (by omega), getD_last (by omega)]
  | false =>
   simp only [Bool.false_eq_true, if_false]
   refine ⟨trivial, fun n hn1 hn2 => ?_⟩
   by_cases hlast : n < g.first.toNat + i
   ·rw [getD_app (by omega), getD_app (by omega)]
    exact h2 n hlast hn2
   ·exfalso
    have e : n = (g.first + i).toNat := by omega
    subst e
    rcases hn2 with q | q
    ·omega
    ·rw [hn] at q; simp at q
theorem rsweep_eq {g : Aig} (hg : Sml g) : rsweep g = sweep g := by
 obtain ⟨h1, h2⟩ := rs_eq hg g.ands.length (Nat.le_refl _)
 have J := sw_inv hg g.ands.length (Nat.le_refl _)
 have hlo := hg.lo
 have hf : 1 ≤ g.first := by unfold Aig.first; omega
 have cf := count_first g
 have hm : ∀ a ∈ rts g, moveL (rsAt g g.ands.length).2 a = moveL (swAt g g.ands.length).lits a := fun a ha => by
  have := root_lit hg ha
  exact move_eq (h2 _ (by omega) (.inr (nd_root hg ha)))
 unfold rsweep sweep
 rw [endG_eq J.outs]
 unfold endG
 simp only
 rw [h1, J.ins]
 congr 1
 ·refine List.map_congr_left fun f hf => ?_
  rw [hm _ (by unfold rts; exact List.mem_append_right _ (List.mem_map_of_mem hf))]
 ·refine List.map_congr_left fun a ha => ?_
  exact hm _ (by unfold rts; exact List.mem_append_left _ ha)
end Fil.Rw

namespace Go.Proofs.Ytapnlmhfacoceaa
open Abs Fil Fil.Rw
open Eqv (moveL)
theorem rf_begun (g : Aig) (σ : Sig) (hg : Sml g) : ACalls Try.prog 49 [encAig g] σ (fun r σ' => r = .ret (encAig ⟨g.ins, g.flops.map fun f => ⟨0, f.init⟩, [], []⟩) ∧ σ' = σ) := by
 refine calls_x mixed Try.func49 b49 n49 rfl q49 (by simp) ?_; unfold c49 r49
 have hlo := hg.lo
 have h1 := hg.ins
 have h2 := hg.flops
 have c1 := fun τ => A.ref_Init g τ (by omega)
 have c2 := fun τ => A.ref_New g.ins (g.flops.map (·.init)) τ hg.wf.ins (by simp; omega)
 have hN : Aig.New g.ins (g.flops.map (·.init)) = (⟨g.ins, g.flops.map fun f => ⟨0, f.init⟩, [], []⟩, 0) := by
  unfold Aig.New
  rw [if_neg (by omega), if_neg (by simp; omega), List.map_map]; rfl
 rw [hN] at c2
 simp only at c2
 clear hN h1 h2 hlo hg
 repeat' (first | simp (maxDischargeDepth := 9) -implicitDefEqProofs -dsimp only [go_sem, seval, *] | ((with_reducible refine Zt (fun oF hoF hnF hnF' => ?_)); (try simp only [upd_none, ne_eq, not_and] at hoF)) | ((with_reducible apply id_one0); (focus (intro tS hS; ((first | with_reducible refine c1 _ | with_reducible refine c2 _) <;> (first | (simp (maxDischargeDepth := 9) -implicitDefEqProofs -dsimp only [go_sem, seval, *]; done) | omega | ((with_reducible refine Sub.get hS ?_); simp (maxDischargeDepth := 9) -implicitDefEqProofs -dsimp only [go_sem, seval, *]; done))))); (focus (first | trivial | (simp (maxDischargeDepth := 9) -implicitDefEqProofs -dsimp only [go_sem, seval, *]; done)))))
 refine fin_eq ?_
 (repeat' simp (maxDischargeDepth := 9) -implicitDefEqProofs -dsimp only [go_sem, seval, *])
theorem rs_bound {g : Aig} (hg : Sml g) : ∀ i, i ≤ g.ands.length → (rsAt g i).1.length ≤ i ∧ ∀ x ∈ (rsAt g i).2, 0 ≤ x ∧ x ≤ 1000000
 | 0, _ => by
  refine ⟨Nat.le_refl _, fun x hx => ?_⟩
  have h1 := hg.ins; have h2 := hg.flops
  simp only [rsAt, evL', List.mem_map, List.mem_range] at hx
  obtain ⟨k, hk, rfl⟩ := hx
  simp only [Aig.first] at hk; omega
 | i + 1, hi => by
  obtain ⟨h1, h2⟩ := rs_bound hg i (by omega)
  have k1 := hg.ins; have k2 := hg.flops; have k3 := hg.ands; have k4 := hg.lo
  unfold rsAt
  simp only
  refine ⟨?_, fun x hx => ?_⟩
  ·split
   ·simp; omega
   ·omega
  ·rcases List.mem_append.1 hx with q | q
   ·exact h2 x q
   ·rw [List.mem_singleton.1 q]; simp only [Aig.first]; omega
set_option maxRecDepth 20000 in
set_option maxHeartbeats 8000000 in
theorem rf_Sweep (g : Aig) (σ : Sig) (hg : Sml g) : ACalls Try.prog 16 [encAig g] σ (fun r σ' => r = .ret (.tup [encAig (sweep g), .int .i64 0]) ∧ σ' = σ) := by
 refine ACalls.virt (callable_of Try.func16 b16 n16) 2 (fun oV1 hoV1 hnV1 hnV1' => ?_); (try simp only [upd_none, ne_eq, not_and] at hoV1); refine calls_x mixed Try.func16 b16 n16 rfl q16 (by simp) ?_; unfold c16 r16
 have ez : ((0 : Int) != 0) = false := by decide
 have hlo := hg.lo
 have h1 := hg.ins
 have h2 := hg.flops
 have h3 := hg.ands
 have h4 := hg.outs
 have hsm : Small g := check_small hg.wf hg.chk
 have hk := fun τ => A.ref_Check g τ hg.wf
 rw [hg.chk] at hk
 have hfst : g.first ≤ 200 ∧ 1 ≤ g.first := by simp only [Aig.first]; omega
 have hfc := fun τ => rf_first g τ hsm
 have hnd := fun τ => rf_needed g τ hg
 have hsa := fun τ => rf_same g τ hsm (by omega)
 have hndl := ndAt_len g g.ands.length
 have cf := count_first g
 obtain ⟨nd, hn⟩ : ∃ n, ndAt g g.ands.length = n := ⟨_, rfl⟩
 have hndg : ∀ i, ndG g i = nd.getD i false := fun i => by unfold ndG; rw [hn]
 rw [hn] at hnd hndl
 clear hn
 repeat' (first | simp (maxDischargeDepth := 9) -implicitDefEqProofs -dsimp only [go_sem, seval, *] | ((with_reducible refine Zt (fun oF hoF hnF hnF' => ?_)); (try simp only [upd_none, ne_eq, not_and] at hoF)) | ((with_reducible apply ACalls.one1); (focus ((first | with_reducible refine hk _ | with_reducible refine hnd _) <;> (first | (simp (maxDischargeDepth := 9) -implicitDefEqProofs -dsimp only [go_sem, seval, *]; done) | omega))); (focus (first | trivial | with_reducible exact rfl | (simp (maxDischargeDepth := 9) -implicitDefEqProofs -dsimp only [go_sem, seval]; done)))))
 obtain ⟨oR, eR⟩ : ∃ x, x = oF := ⟨oF, rfl⟩
 subst eR
 have hoR := hoF
 clear hnF hnF' hoF
 repeat' (first | simp (maxDischargeDepth := 9) -implicitDefEqProofs -dsimp only [go_sem, seval, *] | ((with_reducible refine Zt (fun oF hoF hnF hnF' => ?_)); (try simp only [upd_none, ne_eq, not_and] at hoF)) | ((with_reducible apply ACalls.newO); (focus ((with_reducible refine hsa _) <;> (first | (simp (maxDischargeDepth := 9) -implicitDefEqProofs -dsimp only [go_sem, seval, *]; done) | omega))); (intro oF hoF hnF hnF'); (try simp only [upd_none, ne_eq, not_and] at hoF)))
 rename_i oM nM nM' hoM
 obtain ⟨oH, eH⟩ : ∃ x, x = oF := ⟨oF, rfl⟩
 subst eH
 obtain ⟨a1, a2⟩ := hoR
 obtain ⟨b1, b2, b3⟩ := hoM
 obtain ⟨c1, c2, c3, c4⟩ := hoF
 have d1 : ¬ oV1 = oR := fun e => a1 e.symm
 have d2 : ¬ oR = oM := fun e => b1 e.symm
 have d3 : ¬ oV1 = oM := fun e => b2 e.symm
 have d4 : ¬ oM = oH := fun e => c1 e.symm
 have d5 : ¬ oR = oH := fun e => c2 e.symm
 have d6 : ¬ oV1 = oH := fun e => c3 e.symm
 clear nM nM' hnF hnF' hnV1 hnV1' hk hnd hsa
 refine loop_rule (fun i : Nat => [(8, some (.int .i64 i)), (1, some (.cptr (aigL g))), (6, some (ilist (rsAt g i).2 (.own oM))), (7, some (.ptr oH 0)), (5, some (.slice (nd.map encBool) .no)), (2, some (.ptr oR 0))])
  (fun i => upd (upd (upd (upd σ oV1 (.grow 2 (rsAt g i).1.length)) oR (.cells [.int .i64 0, .slice [] .nil, .slice [] .nil, .slice [] .nil])) oM (.grow 1 (rsAt g i).2.length)) oH (.cells [.int .i64 g.ins, .slice [] .nil, .slice ((rsAt g i).1.map encGate) (.own oV1), .slice [] .nil]))
  (fun i => i ≤ g.ands.length) (fun i => g.ands.length - i) 0 ?_ ?_
 ·have e0 : (rsAt g 0).1 = [] := rfl
  have e1 : (rsAt g 0).2 = evL g.first.toNat := rfl
  have e2 := evL_len g.first.toNat
  (repeat' simp (maxDischargeDepth := 9) -implicitDefEqProofs -dsimp only [go_sem, seval, e0, e1, e2, List.map_nil, List.length_nil, Int.natCast_zero, *]) <;> (first | omega | skip)
 ·intro i hi
  obtain ⟨l1, l2⟩ := rs_bound hg i hi
  have l3 := rs_len g i
  by_cases hlt : i < g.ands.length
  ·have hlt' : (i : Int) < g.ands.length := by omega
   obtain ⟨⟨q1, q2⟩, q3, q4⟩ := gate_bounds hg hlt
   have hgd := ands_getD hlt
   have hnx : rsAt g (i + 1) = (if ndG g (g.first + i).toNat then (rsAt g i).1 ++ [(moveL ((rsAt g i).2 ++ [2 * (g.first + (rsAt g i).1.length)]) g.ands[i].1, moveL ((rsAt g i).2 ++ [2 * (g.first + (rsAt g i).1.length)]) g.ands[i].2)] else (rsAt g i).1, (rsAt g i).2 ++ [2 * (g.first + (rsAt g i).1.length)]) := by
    conv => lhs; unfold rsAt
    simp only [hgd]
   rw [hndg] at hnx
   obtain ⟨x0, hx0⟩ : ∃ x, g.ands[i].1 = x := ⟨_, rfl⟩
   obtain ⟨x1, hx1⟩ : ∃ x, g.ands[i].2 = x := ⟨_, rfl⟩
   rw [hx0, hx1] at hnx
   rw [hx0] at q1 q2
   rw [hx1] at q3 q4
   obtain ⟨⟨A0, L0⟩, hAL⟩ : ∃ r, rsAt g i = r := ⟨_, rfl⟩
   rw [hAL] at hnx l1 l2 l3 ⊢
   simp only at hnx l1 l2 l3 ⊢
   obtain ⟨Z, hZ⟩ : ∃ Z, 2 * (g.first + (A0.length : Int)) = Z := ⟨_, rfl⟩
   rw [hZ] at hnx
   have hZ1 : 0 ≤ Z ∧ Z ≤ 1000000 := by omega
   have l4 : ∀ x ∈ L0 ++ [Z], 0 ≤ x ∧ x ≤ 1000000 := fun x hx => by
    rcases List.mem_append.1 hx with q | q
    ·exact l2 x q
    ·rw [List.mem_singleton.1 q]; exact hZ1
   have l5 : (L0 ++ [Z]).length = g.first.toNat + i + 1 := by simp [l3]
   have m1 := fun τ => rf_moved (L0 ++ [Z]) (.own oM) x0 τ q1 (by omega) l4 (by omega)
   have m2 := fun τ => rf_moved (L0 ++ [Z]) (.own oM) x1 τ q3 (by omega) l4 (by omega)
   obtain ⟨u, hu⟩ : ∃ u, moveL (L0 ++ [Z]) x0 = u := ⟨_, rfl⟩
   obtain ⟨v, hv⟩ : ∃ u, moveL (L0 ++ [Z]) x1 = u := ⟨_, rfl⟩
   rw [hu] at m1 hnx
   rw [hv] at m2 hnx
   simp only [ilist, List.map_append, List.map_cons, List.map_nil] at m1 m2
   have hgl : (g.first + (i : Int)).toNat < nd.length := by omega
   have hge : nd[(g.first + (i : Int)).toNat] = nd.getD (g.first + (i : Int)).toNat false := by simp [List.getD_eq_getElem?_getD, hgl]
   have hb1 : 0 ≤ g.first + (i : Int) ∧ g.first + (i : Int) ≤ 1000000 := by omega
   have hA : A0.length ≤ 1000 := by omega
   have hL : L0.length ≤ 1000 := by omega
   clear l1 l2 l4 l5 hAL hndl hndg hu hv hgd q2 q4 hsm
   cases hc : nd.getD (g.first + (i : Int)).toNat false with
   | true =>
    rw [hc, if_pos rfl] at hnx
    rw [hc] at hge
    clear hc
    repeat' (first | simp (maxDischargeDepth := 9) -implicitDefEqProofs -dsimp only [go_sem, seval, ilist, *] | simp (disch := omega) only [wrap64] | ((with_reducible refine Zv ?_ ?_); focus (first | omega | exact rfl)) | ((with_reducible refine Zu ?_ ?_); focus omega) | ((with_reducible apply ACalls.one1); (focus ((with_reducible refine hfc _) <;> (first | (simp (maxDischargeDepth := 9) -implicitDefEqProofs -dsimp only [go_sem, seval, *]; done) | omega))); (focus (first | trivial | with_reducible exact rfl | (simp (maxDischargeDepth := 9) -implicitDefEqProofs -dsimp only [go_sem, seval]; done)))) | ((with_reducible apply id_one0); (focus (intro tS hS; ((first | with_reducible refine hfc _ | with_reducible refine m1 _ | with_reducible refine m2 _) <;> (first | (simp (maxDischargeDepth := 9) -implicitDefEqProofs -dsimp only [go_sem, seval, *]; done) | omega | ((with_reducible refine Sub.get hS ?_); simp (maxDischargeDepth := 9) -implicitDefEqProofs -dsimp only [go_sem, seval, *]; done))))); (focus (first | trivial | (simp (maxDischargeDepth := 9) -implicitDefEqProofs -dsimp only [go_sem, seval, *]; done)))))
    refine loop_next _ _ _ _ (i + 1) ?_; (repeat' simp (maxDischargeDepth := 9) -implicitDefEqProofs -dsimp only [go_sem, seval,  ilist, List.map_append, List.map_cons, List.map_nil, List.length_append, List.length_cons, List.length_nil, *]) <;> (repeat' refine And.intro ?_ ?_) <;> (first | omega | skip)
   | false =>
    rw [hc, if_neg (by simp)] at hnx
    rw [hc] at hge
    clear hc m1 m2
    repeat' (first | simp (maxDischargeDepth := 9) -implicitDefEqProofs -dsimp only [go_sem, seval, ilist, *] | simp (disch := omega) only [wrap64] | ((with_reducible refine Zv ?_ ?_); focus (first | omega | exact rfl)) | ((with_reducible refine Zu ?_ ?_); focus omega) | ((with_reducible apply ACalls.one1); (focus ((with_reducible refine hfc _) <;> (first | (simp (maxDischargeDepth := 9) -implicitDefEqProofs -dsimp only [go_sem, seval, *]; done) | omega))); (focus (first | trivial | with_reducible exact rfl | (simp (maxDischargeDepth := 9) -implicitDefEqProofs -dsimp only [go_sem, seval]; done)))) | ((with_reducible apply id_one0); (focus (intro tS hS; ((with_reducible refine hfc _) <;> (first | (simp (maxDischargeDepth := 9) -implicitDefEqProofs -dsimp only [go_sem, seval, *]; done) | omega | ((with_reducible refine Sub.get hS ?_); simp (maxDischargeDepth := 9) -implicitDefEqProofs -dsimp only [go_sem, seval, *]; done))))); (focus (first | trivial | (simp (maxDischargeDepth := 9) -implicitDefEqProofs -dsimp only [go_sem, seval, *]; done)))))
    refine loop_next _ _ _ _ (i + 1) ?_; (repeat' simp (maxDischargeDepth := 9) -implicitDefEqProofs -dsimp only [go_sem, seval,  ilist, List.map_append, List.map_cons, List.map_nil, List.length_append, List.length_cons, List.length_nil, *]) <;> (repeat' refine And.intro ?_ ?_) <;> (first | omega | skip)
  ·have hlt' : ¬ (i : Int) < g.ands.length := by omega
   have ei : i = g.ands.length := by omega
   subst ei
   have hnx : ∀ f ∈ g.flops, 0 ≤ f.next ∧ (f.next / 2).toNat < (rsAt g g.ands.length).2.length ∧ f.next ≤ 1000000 := fun f hf => by
    have := good_flops hg.good hf
    rw [l3]; omega
   have hol : ∀ a ∈ g.outs, 0 ≤ a ∧ (a / 2).toNat < (rsAt g g.ands.length).2.length ∧ a ≤ 1000000 := fun a ha => by
    have := good_outs hg.good ha
    rw [l3]; omega
   have hend := fun τ => rf_ended ⟨g.ins, [], (rsAt g g.ands.length).1, []⟩ g (rsAt g g.ands.length).2 (.own oM) τ l2 hnx hol (by omega) (by omega)
   have e0 : endR ⟨g.ins, [], (rsAt g g.ands.length).1, []⟩ g (rsAt g g.ands.length).2 = rsweep g := rfl
   rw [e0, rsweep_eq hg] at hend
   obtain ⟨⟨A0, L0⟩, hAL⟩ : ∃ r, rsAt g g.ands.length = r := ⟨_, rfl⟩
   rw [hAL] at hend ⊢
   simp only [aigL, List.map_nil] at hend
   clear hnx hol l1 l2 l3 hAL hndl hndg hlt hi hsm hfc
   repeat' (first | simp (maxDischargeDepth := 9) -implicitDefEqProofs -dsimp only [go_sem, seval, ilist, *] | simp (disch := omega) only [wrap64] | ((with_reducible apply ACalls.one1); (focus ((with_reducible refine ACalls.flA (hend _) ?_) <;> (first | (simp (maxDischargeDepth := 9) -implicitDefEqProofs -dsimp only [go_sem, seval, *]; done) | omega))); (focus (first | trivial | with_reducible exact rfl | (simp (maxDischargeDepth := 9) -implicitDefEqProofs -dsimp only [go_sem, seval]; done)))))
   refine fin_eq ?_
   (repeat' simp (maxDischargeDepth := 9) -implicitDefEqProofs -dsimp only [go_sem, seval, *])
theorem lit_le {g : Aig} (hc : g.count ≤ 1000) {a : Int} (h : g.lit a = true) : 0 ≤ a ∧ a ≤ 1000000 := by
 have := litN_iff.1 h; omega
set_option maxRecDepth 20000 in
set_option maxHeartbeats 8000000 in
theorem rf_Hash (g : Aig) (σ : Sig) (hg : Sml g) : ACalls Try.prog 18 [encAig g] σ (fun r σ' => r = .ret (.tup [encAig (Rw.hashed g fun _ => none), .int .i64 0]) ∧ σ' = σ) := by
 refine calls_x mixed Try.func18 b18 n18 rfl q18 (by simp) ?_; unfold c18 r18
 have ez : ((0 : Int) != 0) = false := by decide
 have hlo := hg.lo
 have h1 := hg.ins
 have h2 := hg.flops
 have h3 := hg.ands
 have h4 := hg.outs
 have hsm : Small g := check_small hg.wf hg.chk
 have hk := fun τ => A.ref_Check g τ hg.wf
 rw [hg.chk] at hk
 have hfst : g.first ≤ 200 ∧ 1 ≤ g.first := by simp only [Aig.first]; omega
 have hbe := fun τ => rf_begun g τ hg
 have hsa := fun τ => rf_same g τ hsm (by omega)
 have cf := count_first g
 obtain ⟨g1, g2⟩ := bgn_none hg
 rw [← g2] at hbe
 repeat' (first | simp (maxDischargeDepth := 9) -implicitDefEqProofs -dsimp only [go_sem, seval, *] | ((with_reducible refine Zt (fun oF hoF hnF hnF' => ?_)); (try simp only [upd_none, ne_eq, not_and] at hoF)) | ((with_reducible apply ACalls.one1); (focus ((first | with_reducible refine hk _ | with_reducible refine hbe _) <;> (first | (simp (maxDischargeDepth := 9) -implicitDefEqProofs -dsimp only [go_sem, seval, *]; done) | omega))); (focus (first | trivial | with_reducible exact rfl | (simp (maxDischargeDepth := 9) -implicitDefEqProofs -dsimp only [go_sem, seval]; done)))))
 rename_i oR hR nR nR'
 obtain ⟨oH, eH⟩ : ∃ x, x = oF := ⟨oF, rfl⟩
 subst eH
 obtain ⟨c1, c2⟩ := hoF
 clear nR nR' hnF hnF' hk hbe
 repeat' (first | simp (maxDischargeDepth := 9) -implicitDefEqProofs -dsimp only [go_sem, seval, *] | ((with_reducible apply ACalls.newO); (focus ((with_reducible refine hsa _) <;> (first | (simp (maxDischargeDepth := 9) -implicitDefEqProofs -dsimp only [go_sem, seval, *]; done) | omega))); (intro oF hoF hnF hnF'); (try simp only [upd_none, ne_eq, not_and] at hoF)))
 obtain ⟨oM, eM⟩ : ∃ x, x = oF := ⟨oF, rfl⟩
 subst eM
 obtain ⟨b1, b2, b3⟩ := hoF
 have d1 : ¬ oR = oH := fun e => c1 e.symm
 have d2 : ¬ oR = oM := fun e => b2 e.symm
 have d3 : ¬ oH = oM := fun e => b1 e.symm
 clear hnF hnF' hsa
 refine loop_rule (fun i : Nat => [(7, some (.int .i64 i)), (1, some (.cptr (aigL g))), (6, some (ilist (hashAt g (fun _ => none) i).lits (.own oM))), (5, some (.ptr oH 0)), (2, some (.ptr oR 0))])
  (fun i => upd (upd (upd σ oR (.cells [.int .i64 0, .slice [] .nil, .slice [] .nil, .slice [] .nil])) oH (.cells (aigL (hashAt g (fun _ => none) i).g))) oM (.grow 1 (hashAt g (fun _ => none) i).lits.length))
  (fun i => i ≤ g.ands.length) (fun i => g.ands.length - i) 0 ?_ ?_
 ·have e0 : (hashAt g (fun _ => none) 0).g = (bgn g fun _ => none).g := rfl
  have e1 : (hashAt g (fun _ => none) 0).lits = evL g.first.toNat := g1
  have e2 := evL_len g.first.toNat
  (repeat' simp (maxDischargeDepth := 9) -implicitDefEqProofs -dsimp only [go_sem, seval, e0, e1, e2, Int.natCast_zero, *]) <;> (first | omega | skip)
 ·intro i hi
  have J := hash_inv hg (fun _ => none) i hi
  have hc := J.cnt hg hi
  have l3 := J.len
  have l2 : ∀ x ∈ (hashAt g (fun _ => none) i).lits, 0 ≤ x ∧ x ≤ 1000000 := fun x hx => lit_le hc (J.lits x hx)
  by_cases hlt : i < g.ands.length
  ·have hlt' : (i : Int) < g.ands.length := by omega
   obtain ⟨⟨q1, q2⟩, q3, q4⟩ := gate_bounds hg hlt
   have hgd := ands_getD hlt
   have x1 := move_lit J.lits q1 (by omega)
   have x2 := move_lit J.lits q3 (by omega)
   obtain ⟨k0, _, _, _, _, _⟩ := andB_ok J.toBd x1 x2 (by omega)
   have hnx : hashAt g (fun _ => none) (i + 1) = { (andB (hashAt g (fun _ => none) i) (moveL (hashAt g (fun _ => none) i).lits g.ands[i].1) (moveL (hashAt g (fun _ => none) i).lits g.ands[i].2)).1 with lits := (hashAt g (fun _ => none) i).lits ++ [(andB (hashAt g (fun _ => none) i) (moveL (hashAt g (fun _ => none) i).lits g.ands[i].1) (moveL (hashAt g (fun _ => none) i).lits g.ands[i].2)).2] } := by
    conv => lhs; unfold hashAt
    simp only [hgd]
   have m1 := fun τ => rf_moved (hashAt g (fun _ => none) i).lits (.own oM) g.ands[i].1 τ q1 (by omega) l2 (by omega)
   have m2 := fun τ => rf_moved (hashAt g (fun _ => none) i).lits (.own oM) g.ands[i].2 τ q3 (by omega) l2 (by omega)
   have cA := fun a b τ => A.ref_And (hashAt g (fun _ => none) i).g a b τ J.fine.toWf
   have cA2 := fun τ => cA (moveL (hashAt g (fun _ => none) i).lits g.ands[i].1) (moveL (hashAt g (fun _ => none) i).lits g.ands[i].2) τ
   rw [k0] at cA2
   have n1 : (hashAt g (fun _ => none) (i + 1)).g = ((hashAt g (fun _ => none) i).g.And (moveL (hashAt g (fun _ => none) i).lits g.ands[i].1) (moveL (hashAt g (fun _ => none) i).lits g.ands[i].2)).1 := by rw [hnx]; rfl
   have n2 : (hashAt g (fun _ => none) (i + 1)).lits = (hashAt g (fun _ => none) i).lits ++ [((hashAt g (fun _ => none) i).g.And (moveL (hashAt g (fun _ => none) i).lits g.ands[i].1) (moveL (hashAt g (fun _ => none) i).lits g.ands[i].2)).2.1] := by rw [hnx]; rfl
   obtain ⟨u, hu⟩ : ∃ u, moveL (hashAt g (fun _ => none) i).lits g.ands[i].1 = u := ⟨_, rfl⟩
   obtain ⟨v, hv⟩ : ∃ u, moveL (hashAt g (fun _ => none) i).lits g.ands[i].2 = u := ⟨_, rfl⟩
   rw [hu] at m1 cA2 n1 n2
   rw [hv] at m2 cA2 n1 n2
   obtain ⟨x0, hx0⟩ : ∃ x, g.ands[i].1 = x := ⟨_, rfl⟩
   obtain ⟨y0, hy0⟩ : ∃ x, g.ands[i].2 = x := ⟨_, rfl⟩
   rw [hx0] at m1
   rw [hy0] at m2
   obtain ⟨b, hb⟩ : ∃ b, hashAt g (fun _ => none) i = b := ⟨_, rfl⟩
   rw [hb] at m1 m2 cA2 n1 n2 l3 ⊢
   have hL : b.lits.length ≤ 1000 := by omega
   obtain ⟨⟨k, x, e⟩, hr⟩ : ∃ r, b.g.And u v = r := ⟨_, rfl⟩
   rw [hr] at cA2 n1 n2
   simp only at cA2 n1 n2
   clear cA hnx x1 x2 k0 J l2 hc hu hv hb hr hgd q1 q2 q3 q4 hsm g1 g2
   repeat' (first | simp (maxDischargeDepth := 9) -implicitDefEqProofs -dsimp only [go_sem, seval, *] | simp (disch := omega) only [wrap64] | ((with_reducible refine Zv ?_ ?_); focus (first | omega | exact rfl)) | ((with_reducible refine Zu ?_ ?_); focus omega) | ((with_reducible refine Zt (fun oF hoF hnF hnF' => ?_)); (try simp only [upd_none, ne_eq, not_and] at hoF)) | ((with_reducible apply id_one0); (focus (intro tS hS; ((first | with_reducible refine m1 _ | with_reducible refine m2 _ | with_reducible refine cA2 _) <;> (first | (simp (maxDischargeDepth := 9) -implicitDefEqProofs -dsimp only [go_sem, seval, *]; done) | omega | ((with_reducible refine Sub.get hS ?_); simp (maxDischargeDepth := 9) -implicitDefEqProofs -dsimp only [go_sem, seval, *]; done))))); (focus (first | trivial | (simp (maxDischargeDepth := 9) -implicitDefEqProofs -dsimp only [go_sem, seval, *]; done)))))
   refine loop_next _ _ _ _ (i + 1) ?_; (repeat' simp (maxDischargeDepth := 9) -implicitDefEqProofs -dsimp only [go_sem, seval,  ilist, List.map_append, List.map_cons, List.map_nil, List.length_append, List.length_cons, List.length_nil, *]) <;> (repeat' refine And.intro ?_ ?_) <;> (first | omega | skip)
  ·have hlt' : ¬ (i : Int) < g.ands.length := by omega
   have ei : i = g.ands.length := by omega
   subst ei
   have hnx : ∀ f ∈ g.flops, 0 ≤ f.next ∧ (f.next / 2).toNat < (hashAt g (fun _ => none) g.ands.length).lits.length ∧ f.next ≤ 1000000 := fun f hf => by
    have := good_flops hg.good hf
    rw [l3]; omega
   have hol : ∀ a ∈ g.outs, 0 ≤ a ∧ (a / 2).toNat < (hashAt g (fun _ => none) g.ands.length).lits.length ∧ a ≤ 1000000 := fun a ha => by
    have := good_outs hg.good ha
    rw [l3]; omega
   have hend := fun τ => rf_ended (hashAt g (fun _ => none) g.ands.length).g g (hashAt g (fun _ => none) g.ands.length).lits (.own oM) τ l2 hnx hol (by omega) (by omega)
   have e0 : endR (hashAt g (fun _ => none) g.ands.length).g g (hashAt g (fun _ => none) g.ands.length).lits = Rw.hashed g fun _ => none := (endG_eq J.outs).symm
   rw [e0] at hend
   obtain ⟨b, hb⟩ : ∃ b, hashAt g (fun _ => none) g.ands.length = b := ⟨_, rfl⟩
   rw [hb] at hend ⊢
   clear hnx hol l2 l3 hlt hi hsm J hc hb g1 g2
   repeat' (first | simp (maxDischargeDepth := 9) -implicitDefEqProofs -dsimp only [go_sem, seval, *] | ((with_reducible apply ACalls.one1); (focus ((with_reducible refine hend _) <;> (first | (simp (maxDischargeDepth := 9) -implicitDefEqProofs -dsimp only [go_sem, seval, *]; done) | omega))); (focus (first | trivial | with_reducible exact rfl | (simp (maxDischargeDepth := 9) -implicitDefEqProofs -dsimp only [go_sem, seval]; done)))))
   refine fin_eq ?_
   (repeat' simp (maxDischargeDepth := 9) -implicitDefEqProofs -dsimp only [go_sem, seval, *])
end Go.Proofs.Ytapnlmhfacoceaa

namespace Fil.Rw
open Abs
open Eqv (moveL)
theorem andB_val {b : B} (hb : Bd b) {s : List Bool} (hl : ((s.length + 1 : Nat) : Int) = b.g.first) {x y : Int} (hx : b.g.lit x = true) (hy : b.g.lit y = true) (hn : b.g.count < 65536) :
  Aig.val (Aig.vals (false :: s) (andB b x y).1.g.ands) (andB b x y).2 = (Aig.val (Aig.vals (false :: s) b.g.ands) x && Aig.val (Aig.vals (false :: s) b.g.ands) y) := by
 obtain ⟨h, z, e1, e2⟩ := and_some hb.chk hx hy hn
 have := andO_val (s := s) hb.fine hl hx hy e1
 unfold andB
 rw [e2]
 exact this
end Fil.Rw

namespace Fil
open Abs Go
structure Pk (p : Prop) : Prop where
 out : p
end Fil

namespace Fil.Rw
open Abs
open Eqv (moveL)

/-! ### Balanced -/
theorem cnt_pos {l : List Int} {a n : Int} (h : a ∈ l) (e : a / 2 = n) : 1 ≤ cntL l n := by
 unfold cntL
 exact List.length_pos_of_mem (List.mem_filter.2 ⟨h, by simpa using e⟩)
theorem last_one {a n : Int} (e : a / 2 = n) (l : List Int) : cntL l n = 1 → a ∈ l → lastP l n = decide (a % 2 = 0) := by
 induction l using snoc_ind with
 | h0 => intro _ h; simp at h
 | h1 l b ih =>
  intro h1 h2
  rw [cntL_snoc] at h1
  rw [lastP_snoc]
  by_cases hb : b / 2 = n
  ·rw [if_pos hb] at h1 ⊢
   rcases List.mem_append.1 h2 with q | q
   ·have := cnt_pos q e; omega
   ·rw [List.mem_singleton.1 q]
  ·rw [if_neg hb] at h1 ⊢
   rcases List.mem_append.1 h2 with q | q
   ·exact ih (by omega) q
   ·rw [List.mem_singleton.1 q] at e; exact absurd e hb
theorem all_erase (f : Int → Bool) : ∀ (l : List Int) (i : Nat), i < l.length → l.all f = (f (l.getD i 0) && (l.eraseIdx i).all f)
 | a :: l, 0, _ => by simp
 | a :: l, i + 1, h => by
  have ih := all_erase f l i (by simpa using h)
  simp only [List.all_cons, List.eraseIdx_cons_succ, List.getD_cons_succ, ih]
  cases f a <;> simp
theorem pair_all (f : Int → Bool) {lev l : List Int} (h2 : 2 ≤ l.length) : l.all f = (f (pairJ lev l).1 && f (pairJ lev l).2 && (restJ lev l).all f) := by
 have q1 := lst_lt (lev := lev) (show 0 < l.length by omega)
 have q2 := erase_len q1
 have q3 := lst_lt (lev := lev) (show 0 < (l.eraseIdx (lst lev l)).length by omega)
 rw [all_erase f l _ q1, all_erase f (l.eraseIdx (lst lev l)) _ q3]
 unfold pairJ restJ
 simp only
 split
 ·simp only [← Bool.and_assoc]; congr 1; exact Bool.and_comm _ _
 ·simp only [Bool.and_assoc]
theorem JI.val {b : B} {l : List Int} (h : JI b l) {s : List Bool} (hb : ((s.length + 1 : Nat) : Int) = b.g.first) :
  Aig.val (Aig.vals (false :: s) (joinB l.length b l).1.g.ands) (joinB l.length b l).2 = l.all fun a => Aig.val (Aig.vals (false :: s) b.g.ands) a := by
 obtain ⟨n, hn⟩ : ∃ n, l.length = n := ⟨_, rfl⟩
 induction n generalizing b l with
 | zero => have := h.ne; omega
 | succ n ih =>
  by_cases h2 : 2 ≤ l.length
  ·obtain ⟨_, k1, k2, k3, k4, k5⟩ := h.step h2
   rw [joinB_step h h2, ih k1 (by rw [k3.first]; exact hb) (by omega), pair_all _ (lev := b.lev) h2]
   obtain ⟨m1, m2⟩ := pairJ_mem (b := b) h2
   have hc := h.cnt
   have hv := andB_val (s := s) h.toBd hb (h.lits _ m1) (h.lits _ m2) (by omega)
   unfold stepJ
   simp only [List.all_append, List.all_cons, List.all_nil, Bool.and_true]
   rw [hv, Bool.and_comm]
   congr 1
   have hx : Ext b.g (andB b (pairJ b.lev l).1 (pairJ b.lev l).2).1.g := k3
   rw [Bool.eq_iff_iff]
   simp only [List.all_eq_true]
   constructor
   ·intro q x hx'
    rw [← val_ext h.fine hb hx (h.lits x (mem_erase (mem_erase hx')))]; exact q x hx'
   ·intro q x hx'
    rw [val_ext h.fine hb hx (h.lits x (mem_erase (mem_erase hx')))]; exact q x hx'
  ·have h1 : l.length = 1 := by have := h.ne; omega
   rw [joinB_one h1]
   obtain ⟨a, rfl⟩ := List.length_eq_one_iff.1 h1
   simp
end Fil.Rw

namespace Fil.Rw
open Abs
open Eqv (moveL)

/-! ### Inner ones -/
def cntE (l : List Int) (n : Int) : Nat := (l.filter fun a => decide (a / 2 = n) && decide (a % 2 = 0)).length
theorem cntE_snoc (l : List Int) (a n : Int) : cntE (l ++ [a]) n = cntE l n + if a / 2 = n ∧ a % 2 = 0 then 1 else 0 := by
 simp only [cntE, List.filter_append, List.length_append]
 congr 1
 by_cases h : a / 2 = n <;> by_cases h2 : a % 2 = 0 <;> simp [h, h2]
theorem cntE_le (l : List Int) (n : Int) : cntE l n ≤ cntL l n := by
 induction l using snoc_ind with
 | h0 => simp [cntE, cntL]
 | h1 l a ih =>
  rw [cntE_snoc, cntL_snoc]
  by_cases h : a / 2 = n
  ·rw [if_pos h]; split <;> omega
  ·rw [if_neg h, if_neg (fun e => h e.1)]; omega
theorem cntE_pos {l : List Int} {a n : Int} (h : a ∈ l) (e : a / 2 = n) (h2 : a % 2 = 0) : 1 ≤ cntE l n := by
 unfold cntE
 exact List.length_pos_of_mem (List.mem_filter.2 ⟨h, by simp [e, h2]⟩)
theorem cntE_mem {l : List Int} {n : Int} (h : 1 ≤ cntE l n) : ∃ a ∈ l, a / 2 = n ∧ a % 2 = 0 := by
 unfold cntE at h
 obtain ⟨a, ha⟩ := List.exists_mem_of_length_pos h
 obtain ⟨h1, h2⟩ := List.mem_filter.1 ha
 simp only [Bool.and_eq_true, decide_eq_true_eq] at h2
 exact ⟨a, h1, h2⟩
theorem cntL_mem {l : List Int} {n : Int} (h : 1 ≤ cntL l n) : ∃ a ∈ l, a / 2 = n := by
 unfold cntL at h
 obtain ⟨a, ha⟩ := List.exists_mem_of_length_pos h
 obtain ⟨h1, h2⟩ := List.mem_filter.1 ha
 exact ⟨a, h1, by simpa using h2⟩
theorem inn_eq {g : Aig} {n : Int} (hn : g.first ≤ n) : innM g n = (decide (cntL (opsG g) n + cntL (rts g) n = 1) && decide (cntE (opsG g) n = 1)) := by
 rw [Bool.eq_iff_iff]
 unfold innM
 simp only [Bool.and_eq_true, decide_eq_true_eq]
 have hle := cntE_le (opsG g) n
 constructor
 ·rintro ⟨⟨_, h1⟩, h2⟩
  have hc : cntL (opsG g) n = 1 := by omega
  obtain ⟨a, ha, e⟩ := cntL_mem (l := opsG g) (n := n) (by omega)
  have := last_one e (opsG g) hc ha
  rw [h2] at this
  have hev : a % 2 = 0 := by simpa using this.symm
  have := cntE_pos ha e hev
  omega
 ·rintro ⟨h1, h2⟩
  obtain ⟨a, ha, e, hev⟩ := cntE_mem (l := opsG g) (n := n) (by omega)
  have hc : cntL (opsG g) n = 1 := by omega
  have := last_one e (opsG g) hc ha
  exact ⟨⟨hn, by omega⟩, by rw [this]; simpa using hev⟩
def cRow (l : List Int) (N : Nat) : List Int := (List.range N).map fun n : Nat => (cntL l n : Int)
def eRow (l : List Int) (N : Nat) : List Int := (List.range N).map fun n : Nat => (cntE l n : Int)
def iRow (g : Aig) (N i : Nat) : List Bool := (List.range N).map fun n : Nat => decide (n < i) && innM g n
theorem cRow_len (l : List Int) (N : Nat) : (cRow l N).length = N := by simp [cRow]
theorem eRow_len (l : List Int) (N : Nat) : (eRow l N).length = N := by simp [eRow]
theorem iRow_len (g : Aig) (N i : Nat) : (iRow g N i).length = N := by simp [iRow]
theorem cRow_get {l : List Int} {N n : Nat} (h : n < N) : (cRow l N).getD n 0 = cntL l n := by simp [cRow, List.getD_eq_getElem?_getD, h]
theorem eRow_get {l : List Int} {N n : Nat} (h : n < N) : (eRow l N).getD n 0 = cntE l n := by simp [eRow, List.getD_eq_getElem?_getD, h]
theorem row_ext {a b : List Int} (hl : a.length = b.length) (h : ∀ i, i < a.length → a.getD i 0 = b.getD i 0) : a = b := by
 apply List.ext_getElem hl
 intro i h1 h2
 have := h i h1
 simp only [List.getD_eq_getElem?_getD, List.getElem?_eq_getElem h1, List.getElem?_eq_getElem h2, Option.getD_some] at this
 exact this
theorem seti_getD (l : List Int) (i j : Nat) (v : Int) (h : i < l.length) : (l.set i v).getD j 0 = if i = j then v else l.getD j 0 := by
 simp only [List.getD_eq_getElem?_getD, List.getElem?_set]
 by_cases e : i = j
 ·subst e; simp [h]
 ·simp [e]
theorem cRow_snoc {l : List Int} {N : Nat} {a : Int} (h0 : 0 ≤ a) (h : (a / 2).toNat < N) : (cRow l N).set (a / 2).toNat ((cRow l N).getD (a / 2).toNat 0 + 1) = cRow (l ++ [a]) N := by
 refine row_ext (by simp [cRow_len]) fun i hi => ?_
 rw [List.length_set, cRow_len] at hi
 rw [seti_getD _ _ _ _ (by rw [cRow_len]; exact h), cRow_get h, cRow_get hi, cRow_get hi, cntL_snoc]
 by_cases e : (a / 2).toNat = i
 ·have e2 : a / 2 = (i : Int) := by omega
  have e3 : (((a / 2).toNat : Nat) : Int) = i := by omega
  rw [if_pos e, if_pos e2, e3]; omega
 ·have e2 : ¬ a / 2 = (i : Int) := by omega
  rw [if_neg e, if_neg e2]; omega
theorem eRow_even {l : List Int} {N : Nat} {a : Int} (h0 : 0 ≤ a) (h : (a / 2).toNat < N) (he : a % 2 = 0) : (eRow l N).set (a / 2).toNat ((eRow l N).getD (a / 2).toNat 0 + 1) = eRow (l ++ [a]) N := by
 refine row_ext (by simp [eRow_len]) fun i hi => ?_
 rw [List.length_set, eRow_len] at hi
 rw [seti_getD _ _ _ _ (by rw [eRow_len]; exact h), eRow_get h, eRow_get hi, eRow_get hi, cntE_snoc]
 by_cases e : (a / 2).toNat = i
 ·have e2 : a / 2 = (i : Int) := by omega
  have e3 : (((a / 2).toNat : Nat) : Int) = i := by omega
  rw [if_pos e, if_pos ⟨e2, he⟩, e3]; omega
 ·have e2 : ¬ a / 2 = (i : Int) := by omega
  rw [if_neg e, if_neg (fun q => e2 q.1)]; omega
theorem eRow_odd {l : List Int} {N : Nat} {a : Int} (he : ¬ a % 2 = 0) : eRow l N = eRow (l ++ [a]) N := by
 unfold eRow
 refine List.map_congr_left fun n _ => ?_
 rw [cntE_snoc, if_neg (fun q => he q.2)]; rfl
theorem cRow_nil (N : Nat) : cRow [] N = List.replicate N 0 := by
 refine row_ext (by simp [cRow_len]) fun i hi => ?_
 rw [cRow_len] at hi
 rw [cRow_get hi]; simp [cntL, List.getD_eq_getElem?_getD, hi]
theorem eRow_nil (N : Nat) : eRow [] N = List.replicate N 0 := by
 refine row_ext (by simp [eRow_len]) fun i hi => ?_
 rw [eRow_len] at hi
 rw [eRow_get hi]; simp [cntE, List.getD_eq_getElem?_getD, hi]
theorem iRow_first (g : Aig) (N : Nat) (hf : 0 ≤ g.first) : iRow g N g.first.toNat = List.replicate N false := by
 apply List.ext_getElem (by simp [iRow])
 intro i h1 h2
 simp only [iRow, List.getElem_map, List.getElem_range, List.getElem_replicate]
 by_cases h : i < g.first.toNat
 ·have : innM g i = false := by
   cases hi : innM g i with
   | false => rfl
   | true => have := innM_first hi; omega
  simp [this]
 ·simp [h]
theorem iRow_set (g : Aig) {N i : Nat} (h : i < N) : (iRow g N i).set i (innM g i) = iRow g N (i + 1) := by
 apply List.ext_getElem (by simp [iRow])
 intro j h1 h2
 simp only [iRow, List.getElem_set, List.getElem_map, List.getElem_range]
 by_cases e : i = j
 ·subst e; simp
 ·rw [if_neg e]
  have : decide (j < i + 1) = decide (j < i) := by
   rw [decide_eq_decide]; omega
  rw [this]

/-! ### The two that are joined -/
def lsAt (lev l : List Int) (but : Int) : Nat → Int
 | 0 => -1
 | i + 1 => if (i : Int) ≠ but ∧ (lsAt lev l but i < 0 ∨ lev.getD (l.getD i 0 / 2).toNat 0 < lev.getD (l.getD (lsAt lev l but i).toNat 0 / 2).toNat 0) then i else lsAt lev l but i
theorem lsAt_bound (lev l : List Int) (but : Int) : ∀ i, -1 ≤ lsAt lev l but i ∧ lsAt lev l but i < i
 | 0 => by simp [lsAt]
 | i + 1 => by
  have := lsAt_bound lev l but i
  unfold lsAt
  split <;> omega
theorem ls_all (lev l : List Int) {but : Int} (hb : but < 0) : ∀ i, lsAt lev l but i = if i = 0 then -1 else (lstAt lev l i : Int)
 | 0 => rfl
 | i + 1 => by
  have ih := ls_all lev l hb i
  unfold lsAt lstAt
  rw [if_neg (show ¬ i + 1 = 0 by omega), ih]
  by_cases hi : i = 0
  ·subst hi
   simp only [if_true]
   rw [if_pos ⟨by omega, .inl (by omega)⟩]
   have : lstAt lev l 0 = 0 := rfl
   rw [this]; simp
  ·rw [if_neg hi]
   simp only [Int.toNat_natCast]
   by_cases hc : lev.getD (l.getD i 0 / 2).toNat 0 < lev.getD (l.getD (lstAt lev l i) 0 / 2).toNat 0
   ·rw [if_pos ⟨by omega, .inr hc⟩, if_pos hc]
   ·rw [if_neg, if_neg hc]
    rintro ⟨_, h | h⟩
    ·omega
    ·exact hc h
def upI (p k : Nat) : Nat := if k < p then k else k + 1
theorem up_get (l : List Int) (p k : Nat) : (l.eraseIdx p).getD k 0 = l.getD (upI p k) 0 := by
 unfold upI
 simp only [List.getD_eq_getElem?_getD, List.getElem?_eraseIdx]
 split <;> rfl
theorem ls_but (lev l : List Int) (p : Nat) : ∀ i, lsAt lev l p i = if (if i ≤ p then i else i - 1) = 0 then -1 else (upI p (lstAt lev (l.eraseIdx p) (if i ≤ p then i else i - 1)) : Int)
 | 0 => by simp [lsAt]
 | i + 1 => by
  have ih := ls_but lev l p i
  unfold lsAt
  by_cases hip : i = p
  ·subst hip
   rw [if_neg (by simp), ih]
   have e1 : (if i ≤ i then i else i - 1) = i := if_pos (Nat.le_refl _)
   have e2 : (if i + 1 ≤ i then i + 1 else i + 1 - 1) = i := by rw [if_neg (by omega)]; rfl
   rw [e1, e2]
  ·obtain ⟨c, hc⟩ : ∃ c, (if i ≤ p then i else i - 1) = c := ⟨_, rfl⟩
   have hc2 : (if i + 1 ≤ p then i + 1 else i + 1 - 1) = c + 1 := by
    rw [← hc]
    by_cases h : i + 1 ≤ p
    ·rw [if_pos h, if_pos (by omega)]
    ·rw [if_neg h, if_neg (by omega)]; omega
   have hui : upI p c = i := by
    unfold upI
    rw [← hc]
    by_cases h : i ≤ p
    ·rw [if_pos h, if_pos (by omega)]
    ·rw [if_neg h, if_neg (by omega)]; omega
   rw [hc2, if_neg (show ¬ c + 1 = 0 by omega)]
   rw [hc] at ih
   conv => rhs; unfold lstAt
   rw [up_get l p c, hui]
   by_cases hz : c = 0
   ·rw [if_pos hz] at ih
    rw [ih, if_pos ⟨by omega, .inl (by omega)⟩]
    subst hz
    have e0 : lstAt lev (l.eraseIdx p) 0 = 0 := rfl
    rw [e0, up_get l p 0, hui]
    simp [hui]
   ·rw [if_neg hz] at ih
    rw [ih, up_get]
    simp only [Int.toNat_natCast]
    by_cases hlt : lev.getD (l.getD i 0 / 2).toNat 0 < lev.getD (l.getD (upI p (lstAt lev (l.eraseIdx p) c)) 0 / 2).toNat 0
    ·rw [if_pos ⟨by omega, .inr hlt⟩, if_pos hlt, hui]
    ·rw [if_neg, if_neg hlt]
     rintro ⟨_, h | h⟩
     ·omega
     ·exact hlt h
theorem ls_one {lev l : List Int} (h : 0 < l.length) : lsAt lev l (-1) l.length = (lst lev l : Int) := by
 rw [ls_all lev l (by omega), if_neg (by omega)]; rfl
theorem ls_two {lev l : List Int} {p : Nat} (h : 2 ≤ l.length) (hp : p < l.length) : lsAt lev l p l.length = (upI p (lst lev (l.eraseIdx p)) : Int) := by
 rw [ls_but, if_neg (show ¬ l.length ≤ p by omega), if_neg (by omega)]
 unfold lst
 rw [erase_len hp]
theorem pair_ref {lev l : List Int} (h : 2 ≤ l.length) {i k : Nat} (hi : lst lev l = i) (hk : upI i (lst lev (l.eraseIdx i)) = k) :
  i ≠ k ∧ max i k < l.length ∧ pairJ lev l = (l.getD (min i k) 0, l.getD (max i k) 0) ∧ restJ lev l = l.take (min i k) ++ (l.take (max i k)).drop (min i k + 1) ++ l.drop (max i k + 1) := by
 have q1 := lst_lt (lev := lev) (show 0 < l.length by omega)
 rw [hi] at q1
 have q2 := erase_len q1
 have q3 := lst_lt (lev := lev) (show 0 < (l.eraseIdx i).length by omega)
 unfold pairJ restJ
 simp only [hi]
 obtain ⟨j, hj⟩ : ∃ j, lst lev (l.eraseIdx i) = j := ⟨_, rfl⟩
 rw [hj] at hk q3 ⊢
 rw [up_get, hk]
 unfold upI at hk
 by_cases hji : j < i
 ·rw [if_pos hji] at hk
  subst hk
  have e1 : min i j = j := by omega
  have e2 : max i j = i := by omega
  rw [if_pos hji, e1, e2]
  refine ⟨by omega, by omega, rfl, ?_⟩
  rw [List.eraseIdx_eq_take_drop_succ, List.eraseIdx_eq_take_drop_succ, List.take_append_of_le_length (by rw [List.length_take]; omega), List.take_take, show min j i = j by omega, List.drop_append, List.append_assoc]
  congr 1
  rw [List.length_take, show j + 1 - min i l.length = 0 by omega, List.drop_zero]
 ·rw [if_neg hji] at hk
  subst hk
  have e1 : min i (j + 1) = i := by omega
  have e2 : max i (j + 1) = j + 1 := by omega
  rw [if_neg hji, e1, e2]
  refine ⟨by omega, by omega, rfl, ?_⟩
  rw [List.eraseIdx_eq_take_drop_succ, List.eraseIdx_eq_take_drop_succ]
  rw [List.take_append, List.take_take, List.length_take, List.drop_append, List.length_take]
  have m1 : min j i = i := by omega
  have m2 : min i l.length = i := by omega
  rw [m1, m2]
  have d1 : List.drop (j + 1) (List.take i l) = [] := List.drop_eq_nil_of_le (by rw [List.length_take]; omega)
  rw [d1, List.nil_append, List.drop_drop, List.drop_take]
  have a1 : i + 1 + (j + 1 - i) = j + 1 + 1 := by omega
  have a2 : j + 1 - (i + 1) = j - i := by omega
  rw [a1, a2]
end Fil.Rw

