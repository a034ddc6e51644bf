/- rewr: RewrFlops. -/
import Derived.Test.YtapnlmhfacoceaaPRewRewAd
set_option linter.unusedSimpArgs false
set_option linter.unusedVariables false
namespace Go.Proofs.Ytapnlmhfacoceaa
open Abs Fil Fil.Rw
def kIn' (j : Nat) : List Kn := some false :: List.replicate j none
theorem kIn'_map (j : Nat) : (kIn' (j + 1)).map encKI = (kIn' j).map encKI ++ [.int .i64 2] := by
 unfold kIn'
 rw [List.replicate_succ', ← List.cons_append, List.map_append]; rfl
theorem kIn'_len (j : Nat) : (kIn' j).length = j + 1 := by simp [kIn']
theorem kFl_mapI (g : Aig) (so : List Bool) (i : Nat) : (kFl g so (i + 1)).map encKI = (kFl g so i).map encKI ++ [encKI (stl g so i)] := by
 show (kFl g so i ++ [stl g so i]).map encKI = _
 rw [List.map_append]; rfl
theorem kAt_mapI (g : Aig) (so : List Bool) (i : Nat) : (kAt g so (i + 1)).map encKI = (kAt g so i).map encKI ++ [encKI (kBoth (kOf (kAt g so i) (g.ands.getD i (0, 0)).1) (kOf (kAt g so i) (g.ands.getD i (0, 0)).2))] := by
 show (kAt g so i ++ [_]).map encKI = _
 rw [List.map_append]; rfl
theorem nextI {g : Aig} {i : Nat} (h : i < g.flops.length) : nextAt g i = g.flops[i].next := by simp [nextAt, List.getD_eq_getElem?_getD, h]
theorem initI {g : Aig} {i : Nat} (h : i < g.flops.length) : initAt g i = g.flops[i].init := by simp [initAt, List.getD_eq_getElem?_getD, h]
theorem knI_ne (a b : Kn) : (knI a != knI b) = decide (a ≠ b) := by
 rcases a with _ | _ | _ <;> rcases b with _ | _ | _ <;> decide
def trAt (n i : Nat) : List Bool := List.replicate i true ++ List.replicate (n - i) false
theorem trAt_len {n i : Nat} (h : i ≤ n) : (trAt n i).length = n := by simp [trAt]; omega
theorem trAt_set {n i : Nat} (h : i < n) : (trAt n i).set i true = trAt n (i + 1) := by
 unfold trAt
 obtain ⟨d, hd⟩ : ∃ d, n - i = d + 1 := ⟨n - i - 1, by omega⟩
 rw [hd, show n - (i + 1) = d by omega, List.replicate_succ, List.set_append_right _ _ (by simp), List.replicate_succ' (n := i)]
 simp
theorem set_same {l : List Bool} {i : Nat} (h : l.getD i false = false) : l.set i false = l := by
 refine bl_ext (by simp) fun j hj => ?_
 rw [set_getD]
 split
 ·rename_i e; subst e; exact h.symm
 ·rfl
theorem qDel_ne {g : Aig} {v : List Kn} {so : List Bool} {i : Nat} (hs : so.getD i false = true) : (qDel g v so i).set i false ≠ so := fun e => by
 have := congrArg (fun l : List Bool => l.getD i false) e
 simp only [set_getD, if_true] at this
 rw [hs] at this; simp at this
set_option maxRecDepth 20000 in
set_option maxHeartbeats 16000000 in
theorem rf_Quiet (g : Aig) (σ : Sig) (hg : Sml g) : ACalls Try.prog 33 [encAig g] σ (fun r σ' => r = .ret (.slice ((quietG g).map encBool) .no) ∧ σ' = σ) := by
 refine calls_x mixed Try.func33 b33 n33 rfl q33 (by simp) ?_; unfold c33 r33
 have hlo := hg.lo
 have h1 := hg.ins
 have h2 := hg.flops
 have h3 := hg.ands
 obtain ⟨N, hN⟩ : ∃ N : Nat, (N : Int) = g.ins := ⟨g.ins.toNat, by omega⟩
 have hN' : g.ins = (N : Int) := hN.symm
 have hN1 : N ≤ 60 := by omega
 have hNt : g.ins.toNat = N := by omega
 clear hN
 obtain ⟨n, hn⟩ : ∃ n, g.flops.length = n := ⟨_, rfl⟩
 repeat' (first | simp (maxDischargeDepth := 9) -implicitDefEqProofs -dsimp only [go_sem, seval, *] | ((with_reducible refine Zv ?_ ?_); focus (first | omega | exact rfl)) | ((with_reducible refine Zt (fun oF hoF hnF hnF' => ?_)); (try simp only [upd_none, ne_eq, not_and] at hoF)))
 obtain ⟨o, eo⟩ : ∃ x, x = oF := ⟨oF, rfl⟩
 subst eo
 have ho : σ o = none := hoF
 clear hoF hnF hnF'
 have hrep : (List.replicate n [AV.bool false]).flatten = (trAt n 0).map encBool := by rw [rep_bool]; rfl
 refine loop_rule (fun i : Nat => [(4, some (.int .i64 i)), (3, some (.vec o n)), (1, some (.cptr (aigL g)))])
  (fun i => upd σ o (.vec 1 n ((trAt n i).map encBool))) (fun i => i ≤ n) (fun i => n - i) 0 ?_ ?_
 ·rw [← hrep]
  clear hrep
  (repeat' simp (maxDischargeDepth := 9) -implicitDefEqProofs -dsimp only [go_sem, seval, Int.natCast_zero, *]) <;> (first | omega | skip)
 ·intro i hi
  clear hrep
  have hl := trAt_len hi
  by_cases hlt : i < n
  ·have hlt' : (i : Int) < n := by omega
   have hp := put_bool (trAt n i) i true (by omega)
   rw [trAt_set hlt] at hp
   obtain ⟨R, hR⟩ : ∃ R, trAt n i = R := ⟨_, rfl⟩
   rw [hR] at hp hl ⊢
   clear hR
   repeat' (first | simp (maxDischargeDepth := 9) -implicitDefEqProofs -dsimp only [go_sem, seval, *] | simp (disch := omega) only [wrap64] | ((with_reducible refine Zv ?_ ?_); focus (first | omega | exact rfl)))
   refine loop_next _ _ _ _ (i + 1) ?_; (repeat' simp (maxDischargeDepth := 9) -implicitDefEqProofs -dsimp only [go_sem, seval, *]) <;> (repeat' refine And.intro ?_ ?_) <;> (first | omega | skip)
  ·have hlt' : ¬ (i : Int) < n := by omega
   have ei : i = n := by omega
   subst ei
   have e0 : trAt i i = qAll g := by unfold trAt qAll; rw [hn]; simp
   rw [e0]
   clear hlt hi e0 hl
   repeat' simp (maxDischargeDepth := 9) -implicitDefEqProofs -dsimp only [go_sem, seval, *]
   refine loop_rule (fun x : Bool × List Bool => [(5, some (.bool x.1)), (3, some (.vec o i)), (1, some (.cptr (aigL g)))])
    (fun x => upd σ o (.vec 1 i (x.2.map encBool))) (fun x => x.2.length = g.flops.length ∧ (x.1 = false → qStep g x.2 = x.2) ∧ ∃ k, x.2 = qIt g k ∧ k + cT x.2 g.flops.length ≤ g.flops.length) (fun x => if x.1 then cT x.2 g.flops.length + 1 else 0) (true, qAll g) ?_ ?_
   ·refine ⟨?_, ?_, qIt_len g 0, fun h => by simp at h, 0, rfl, by
     have := cT_bound (qAll g) g.flops.length
     show 0 + cT (qAll g) g.flops.length ≤ g.flops.length
     omega⟩
    ·(repeat' simp (maxDischargeDepth := 9) -implicitDefEqProofs -dsimp only [go_sem, seval, *])
    ·(repeat' simp (maxDischargeDepth := 9) -implicitDefEqProofs -dsimp only [go_sem, seval, *])
   ·rintro ⟨again, so⟩ ⟨hsl, hfix, hso⟩
    simp only at hsl hfix hso ⊢
    cases again with
    | false =>
     obtain ⟨k, hk, hks⟩ := hso
     have hq : so = quietG g := by rw [hk]; exact quiet_end (by omega) (by rw [← hk]; exact hfix rfl)
     have hsl2 : so.length = i := by omega
     rw [← hq]
     clear hk hks hq hfix hsl
     repeat' simp (maxDischargeDepth := 9) -implicitDefEqProofs -dsimp only [go_sem, seval, *]
     refine fin_bools (o := o) (n := i) ?_ hsl2 rfl ?_
     ·simp (maxDischargeDepth := 9) -implicitDefEqProofs -dsimp only [go_sem, seval, *]
     ·(repeat' simp (maxDischargeDepth := 9) -implicitDefEqProofs -dsimp only [go_sem, seval, *])
    | true =>
     clear hfix
     repeat' (first | simp (maxDischargeDepth := 9) -implicitDefEqProofs -dsimp only [go_sem, seval, *] | ((with_reducible refine Zt (fun oF hoF hnF hnF' => ?_)); (try simp only [upd_none, ne_eq, not_and] at hoF)))
     obtain ⟨oX, eX⟩ : ∃ x, x = oF := ⟨oF, rfl⟩
     subst eX
     obtain ⟨x1, x2⟩ := hoF
     have x3 : ¬ o = oX := fun e => x1 e.symm
     clear hnF hnF'
     refine loop_rule (fun j : Nat => [(7, some (.int .i64 j)), (1, some (.cptr (aigL g))), (6, some (.slice ((kIn' j).map encKI) (.own oX))), (3, some (.vec o i))])
      (fun j => upd (upd σ o (.vec 1 i (so.map encBool))) oX (.grow 1 (j + 1))) (fun j => j ≤ N) (fun j => N - j) 0 ?_ ?_
     ·have e0 : (kIn' 0).map encKI = [.int .i64 0] := rfl
      (repeat' simp (maxDischargeDepth := 9) -implicitDefEqProofs -dsimp only [go_sem, seval, e0, Int.natCast_zero, Nat.zero_add, *]) <;> (first | omega | skip)
     ·intro j hj
      have hkl := kIn'_len j
      by_cases hlt : j < N
      ·have hlt' : (j : Int) < N := by omega
       have hkm := kIn'_map j
       obtain ⟨l, hL⟩ : ∃ L, kIn' j = L := ⟨_, rfl⟩
       rw [hL] at hkm hkl ⊢
       have hsz := szs_ki l
       clear hL hso hsl hn
       repeat' (first | simp (maxDischargeDepth := 9) -implicitDefEqProofs -dsimp only [go_sem, seval, *] | simp (disch := omega) only [wrap64] | ((with_reducible refine Zv ?_ ?_); focus (first | omega | exact rfl)))
       refine loop_next _ _ _ _ (j + 1) ?_; (repeat' simp (maxDischargeDepth := 9) -implicitDefEqProofs -dsimp only [go_sem, seval, *]) <;> (repeat' refine And.intro ?_ ?_) <;> (first | omega | skip)
      ·have hlt' : ¬ (j : Int) < N := by omega
       have ej : N = j := by omega
       subst ej
       have e0 : kIn' N = kFl g so 0 := by unfold kIn' kFl; rw [hNt]
       have e1 : N + 1 = (kFl g so 0).length := by rw [← e0, hkl]
       rw [e0, e1]
       clear hlt hj hkl e1
       repeat' simp (maxDischargeDepth := 9) -implicitDefEqProofs -dsimp only [go_sem, seval, *]
       refine loop_rule (fun q : Nat => [(8, some (.int .i64 q)), (3, some (.vec o i)), (6, some (.slice ((kFl g so q).map encKI) (.own oX))), (1, some (.cptr (aigL g)))])
        (fun q => upd (upd σ o (.vec 1 i (so.map encBool))) oX (.grow 1 (kFl g so q).length)) (fun q => q ≤ i) (fun q => i - q) 0 ?_ ?_
       ·(repeat' simp (maxDischargeDepth := 9) -implicitDefEqProofs -dsimp only [go_sem, seval, Int.natCast_zero, *]) <;> (first | omega | skip)
       ·intro q hq
        have hkl := kFl_len g so q
        by_cases hlt : q < i
        ·have hlt' : (q : Int) < i := by omega
         have hqf : q < g.flops.length := by omega
         have hkm := kFl_mapI g so q
         have hl1 : (kFl g so (q + 1)).length = (kFl g so q).length + 1 := by rw [kFl_len, kFl_len]; omega
         have hl2 : (kFl g so q).length ≤ 1000 := by omega
         have hhd := head_bool (l := so) (i := q) (by omega)
         have hst : stl g so q = if so.getD q false then some (initAt g q) else none := rfl
         rw [initI hqf] at hst
         rw [hst] at hkm
         obtain ⟨b, hb⟩ : ∃ b, so.getD q false = b := ⟨_, rfl⟩
         rw [hb] at hhd hkm
         obtain ⟨f, hf⟩ : ∃ f, g.flops[q] = f := ⟨_, rfl⟩
         rw [hf] at hkm
         have cs := rf_start f b
         obtain ⟨l, hl⟩ : ∃ l, kFl g so q = l := ⟨_, rfl⟩
         rw [hl] at hkm hl1 hl2 ⊢
         have hsz := szs_ki l
         have hsol : so.length = i := by omega
         obtain ⟨s, hs⟩ : ∃ s, (if b = true then some f.init else none : Kn) = s := ⟨_, rfl⟩
         rw [hs] at hkm cs
         rw [show encKI s = .int .i64 (knI s) from rfl] at hkm
         clear hkl hl hso hsl hb hs hst
         repeat' (first | simp (maxDischargeDepth := 9) -implicitDefEqProofs -dsimp only [go_sem, seval, *] | simp (disch := omega) only [wrap64] | ((with_reducible refine Zv ?_ ?_); focus (first | omega | exact rfl)) | ((with_reducible refine Zu ?_ ?_); focus omega) | ((with_reducible apply id_one0); (focus (intro tS hS; ((with_reducible refine cs _) <;> (first | (simp (maxDischargeDepth := 9) -implicitDefEqProofs -dsimp only [go_sem, seval, *]; done) | omega | ((with_reducible refine Sub.get hS ?_); simp (maxDischargeDepth := 9) -implicitDefEqProofs -dsimp only [go_sem, seval, *]; done))))); (focus (first | trivial | (simp (maxDischargeDepth := 9) -implicitDefEqProofs -dsimp only [go_sem, seval, *]; done)))))
         refine loop_next _ _ _ _ (q + 1) ?_; (repeat' simp (maxDischargeDepth := 9) -implicitDefEqProofs -dsimp only [go_sem, seval, *]) <;> (repeat' refine And.intro ?_ ?_) <;> (first | omega | skip)
        ·have hlt' : ¬ (q : Int) < i := by omega
         have eq : q = g.flops.length := by omega
         have e0 : kFl g so q = kAt g so 0 := by rw [eq]; rfl
         rw [e0] at hkl ⊢
         have hsol : so.length = i := by omega
         clear hlt hq eq e0
         repeat' simp (maxDischargeDepth := 9) -implicitDefEqProofs -dsimp only [go_sem, seval, *]
         refine loop_rule (fun m : Nat => [(9, some (.int .i64 m)), (1, some (.cptr (aigL g))), (6, some (.slice ((kAt g so m).map encKI) (.own oX))), (3, some (.vec o i))])
          (fun m => upd (upd σ o (.vec 1 i (so.map encBool))) oX (.grow 1 (kAt g so m).length)) (fun m => m ≤ g.ands.length) (fun m => g.ands.length - m) 0 ?_ ?_
         ·(repeat' simp (maxDischargeDepth := 9) -implicitDefEqProofs -dsimp only [go_sem, seval, Int.natCast_zero, *]) <;> (first | omega | skip)
         ·intro m hm
          have hkl := kAt_len g so m
          rw [hNt] at hkl
          by_cases hlt : m < g.ands.length
          ·have hlt' : (m : Int) < g.ands.length := by omega
           have hkm := kAt_mapI g so m
           obtain ⟨⟨a1, a2⟩, a3, a4⟩ := gate_bounds hg hlt
           rw [ands_getD hlt] at hkm
           have hfst : g.first = 1 + N + g.flops.length := by simp only [Aig.first, hN']
           have hl1 : (kAt g so (m + 1)).length = (kAt g so m).length + 1 := by rw [kAt_len, kAt_len]; omega
           have hl2 : (kAt g so m).length ≤ 1000 := by omega
           obtain ⟨l, hl⟩ : ∃ l, kAt g so m = l := ⟨_, rfl⟩
           rw [hl] at hkm hl1 hl2 hkl ⊢
           have hsz := szs_ki l
           have r1 := fun τ => rf_known l (.own oX) g.ands[m].1 τ a1 (by omega) (by omega)
           have r2 := fun τ => rf_known l (.own oX) g.ands[m].2 τ a3 (by omega) (by omega)
           obtain ⟨k1, hk1⟩ : ∃ k, kOf l g.ands[m].1 = k := ⟨_, rfl⟩
           obtain ⟨k2, hk2⟩ : ∃ k, kOf l g.ands[m].2 = k := ⟨_, rfl⟩
           rw [hk1] at r1 hkm
           rw [hk2] at r2 hkm
           have r3 := rf_both k1 k2
           obtain ⟨k3, hk3⟩ : ∃ k, kBoth k1 k2 = k := ⟨_, rfl⟩
           rw [hk3] at r3 hkm
           rw [show encKI k3 = .int .i64 (knI k3) from rfl] at hkm
           clear hkl hl hso hsl hk1 hk2 hk3 a1 a2 a3 a4 hfst
           repeat' (first | simp (maxDischargeDepth := 9) -implicitDefEqProofs -dsimp only [go_sem, seval, *] | simp (disch := omega) only [wrap64] | ((with_reducible refine Zv ?_ ?_); focus (first | omega | exact rfl)) | ((with_reducible refine Zu ?_ ?_); focus omega) | ((with_reducible apply id_one0); (focus (intro tS hS; ((first | with_reducible refine r1 _ | with_reducible refine r2 _ | with_reducible refine r3 _) <;> (first | (simp (maxDischargeDepth := 9) -implicitDefEqProofs -dsimp only [go_sem, seval, *]; done) | omega | ((with_reducible refine Sub.get hS ?_); simp (maxDischargeDepth := 9) -implicitDefEqProofs -dsimp only [go_sem, seval, *]; done))))); (focus (first | trivial | (simp (maxDischargeDepth := 9) -implicitDefEqProofs -dsimp only [go_sem, seval, *]; done)))))
           refine loop_next _ _ _ _ (m + 1) ?_; (repeat' simp (maxDischargeDepth := 9) -implicitDefEqProofs -dsimp only [go_sem, seval, *]) <;> (repeat' refine And.intro ?_ ?_) <;> (first | omega | skip)
          ·have hlt' : ¬ (m : Int) < g.ands.length := by omega
           have em : m = g.ands.length := by omega
           subst em
           clear hlt hm
           repeat' simp (maxDischargeDepth := 9) -implicitDefEqProofs -dsimp only [go_sem, seval, *]
           obtain ⟨v, hv⟩ : ∃ v, kAt g so g.ands.length = v := ⟨_, rfl⟩
           rw [hv] at hkl ⊢
           have hstep : qStep g so = qDel g v so i := by unfold qStep; rw [hv, hn]
           refine loop_rule (fun q : Nat => [(10, some (.int .i64 q)), (5, some (.bool (decide (qDel g v so q ≠ so)))), (3, some (.vec o i)), (6, some (.slice (v.map encKI) (.own oX))), (1, some (.cptr (aigL g)))])
            (fun q => upd (upd σ o (.vec 1 i ((qDel g v so q).map encBool))) oX (.grow 1 v.length)) (fun q => q ≤ i) (fun q => i - q) 0 ?_ ?_
           ·have e0 : qDel g v so 0 = so := rfl
            have e1 : decide (qDel g v so 0 ≠ so) = false := by simp [e0]
            rw [e1, e0]
            (repeat' simp (maxDischargeDepth := 9) -implicitDefEqProofs -dsimp only [go_sem, seval, Int.natCast_zero, *]) <;> (first | omega | skip)
           ·intro q hq
            have hql := qDel_len g v so q
            rw [hsol] at hql
            by_cases hlt : q < i
            ·have hlt' : (q : Int) < i := by omega
             have hqf : q < g.flops.length := by omega
             have hqf' : (q : Int) < g.flops.length := by omega
             have hnx := good_flops hg.good (List.getElem_mem hqf)
             have cf := count_first g
             have hfst : g.first = 1 + N + g.flops.length := by simp only [Aig.first, hN']
             have hqs : qDel g v so (q + 1) = if kOf v (nextAt g q) = some (initAt g q) then qDel g v so q else (qDel g v so q).set q false := rfl
             rw [nextI hqf, initI hqf] at hqs
             have hsame : (qDel g v so q).getD q false = so.getD q false := by rw [qDel_get, if_neg (by omega)]
             have hne := qDel_ne (g := g) (v := v) (so := so) (i := q)
             obtain ⟨f, hf⟩ : ∃ f, g.flops[q] = f := ⟨_, rfl⟩
             rw [hf] at hnx hqs
             have r1 := fun τ => rf_known v (.own oX) f.next τ hnx.1 (by omega) (by omega)
             have r2 : ∀ τ, ACalls Try.prog 58 [encFlop f, .bool true] τ (fun r s => r = .ret (.int .i64 (knI (some f.init))) ∧ s = τ) := fun τ => rf_start f true τ
             obtain ⟨k, hk⟩ : ∃ k, kOf v f.next = k := ⟨_, rfl⟩
             rw [hk] at r1 hqs
             have hkn := knI_ne k (some f.init)
             obtain ⟨R, hR⟩ : ∃ R, qDel g v so q = R := ⟨_, rfl⟩
             rw [hR] at hqs hsame hne hql ⊢
             have hhd := head_bool (l := R) (i := q) (by omega)
             have hp := put_bool R q false (by omega)
             have hq1 : q ≤ 1000 := by omega
             obtain ⟨b, hb⟩ : ∃ b, so.getD q false = b := ⟨_, rfl⟩
             rw [hb] at hsame hne
             rw [hsame] at hhd
             cases b with
             | false =>
              have hS : qDel g v so (q + 1) = R := by
               rw [hqs]
               split
               ·rfl
               ·exact set_same hsame
              clear hqs hkl hso hsl hk hR hne hkn hnx cf hfst hstep hv hb hsame hp r1 r2
              repeat' (first | simp (maxDischargeDepth := 9) -implicitDefEqProofs -dsimp only [go_sem, seval, *] | simp (disch := omega) only [wrap64] | ((with_reducible refine Zv ?_ ?_); focus (first | omega | exact rfl)))
              refine loop_next _ _ _ _ (q + 1) ?_; (repeat' simp (maxDischargeDepth := 9) -implicitDefEqProofs -dsimp only [go_sem, seval, *]) <;> (repeat' refine And.intro ?_ ?_) <;> (first | omega | skip)
             | true =>
              by_cases hke : k = some f.init
              ·have hS : qDel g v so (q + 1) = R := by rw [hqs, if_pos hke]
               have hkf : (knI k != knI (some f.init)) = false := by rw [hkn]; simp [hke]
               clear hqs hkl hso hsl hk hR hne hkn hnx cf hfst hstep hv hb hsame hp hke
               repeat' (first | simp (maxDischargeDepth := 9) -implicitDefEqProofs -dsimp only [go_sem, seval, *] | simp (disch := omega) only [wrap64] | ((with_reducible refine Zv ?_ ?_); focus (first | omega | exact rfl)) | ((with_reducible refine Zu ?_ ?_); focus omega) | ((with_reducible apply id_one0); (focus (intro tS hS; ((first | with_reducible refine r1 _ | with_reducible refine r2 _) <;> (first | (simp (maxDischargeDepth := 9) -implicitDefEqProofs -dsimp only [go_sem, seval, *]; done) | omega | ((with_reducible refine Sub.get hS ?_); simp (maxDischargeDepth := 9) -implicitDefEqProofs -dsimp only [go_sem, seval, *]; done))))); (focus (first | trivial | (simp (maxDischargeDepth := 9) -implicitDefEqProofs -dsimp only [go_sem, seval, *]; done)))))
               refine loop_next _ _ _ _ (q + 1) ?_; (repeat' simp (maxDischargeDepth := 9) -implicitDefEqProofs -dsimp only [go_sem, seval, *]) <;> (repeat' refine And.intro ?_ ?_) <;> (first | omega | skip)
              ·have hS : qDel g v so (q + 1) = R.set q false := by rw [hqs, if_neg hke]
               have hkf : (knI k != knI (some f.init)) = true := by rw [hkn]; simp [hke]
               have hd : decide (R.set q false ≠ so) = true := by simpa using hne rfl
               clear hqs hkl hso hsl hk hR hne hkn hnx cf hfst hstep hv hb hsame hke
               repeat' (first | simp (maxDischargeDepth := 9) -implicitDefEqProofs -dsimp only [go_sem, seval, *] | simp (disch := omega) only [wrap64] | ((with_reducible refine Zv ?_ ?_); focus (first | omega | exact rfl)) | ((with_reducible refine Zu ?_ ?_); focus omega) | ((with_reducible apply id_one0); (focus (intro tS hS; ((first | with_reducible refine r1 _ | with_reducible refine r2 _) <;> (first | (simp (maxDischargeDepth := 9) -implicitDefEqProofs -dsimp only [go_sem, seval, *]; done) | omega | ((with_reducible refine Sub.get hS ?_); simp (maxDischargeDepth := 9) -implicitDefEqProofs -dsimp only [go_sem, seval, *]; done))))); (focus (first | trivial | (simp (maxDischargeDepth := 9) -implicitDefEqProofs -dsimp only [go_sem, seval, *]; done)))))
               refine loop_next _ _ _ _ (q + 1) ?_; (repeat' simp (maxDischargeDepth := 9) -implicitDefEqProofs -dsimp only [go_sem, seval, *]) <;> (repeat' refine And.intro ?_ ?_) <;> (first | omega | skip)
            ·have hlt' : ¬ (q : Int) < i := by omega
             have eq : q = i := by omega
             subst eq
             rw [← hstep] at hql ⊢
             obtain ⟨k, hk, hks⟩ := hso
             have hP : ∃ again', decide (qStep g so ≠ so) = again' ∧ ((qStep g so).length = g.flops.length ∧ (again' = false → qStep g (qStep g so) = qStep g so) ∧ ∃ k, qStep g so = qIt g k ∧ k + cT (qStep g so) g.flops.length ≤ g.flops.length) ∧ (if again' then cT (qStep g so) g.flops.length + 1 else 0) < cT so g.flops.length + 1 := by
              have hl : (qStep g so).length = g.flops.length := by rw [qStep_len]; exact hsl
              rcases qStep_cases hsl with ⟨he, hc⟩ | ⟨hne, hc⟩
              ·exact ⟨false, by simp [he], ⟨hl, fun _ => by rw [he, he], k, by rw [he]; exact hk, by rw [hc]; exact hks⟩, by simp⟩
              ·exact ⟨true, by simp [hne], ⟨hl, fun h => by simp at h, k + 1, by rw [hk]; rfl, by omega⟩, by simp only [if_true]; omega⟩
             obtain ⟨again', h1', h2', h3'⟩ := hP
             rw [h1']
             obtain ⟨S, hS⟩ : ∃ S, qStep g so = S := ⟨_, rfl⟩
             rw [hS] at h2' h3' hql ⊢
             clear hk hks hkl hv hstep hS h1' hlt hq hsl
             repeat' simp (maxDischargeDepth := 9) -implicitDefEqProofs -dsimp only [go_sem, seval, *]
             rw [hn] at h2' h3'
             refine loop_next _ _ _ _ (again', S) ⟨?_, ?_, h2', h3'⟩
             ·clear h2' h3'
              (repeat' simp (maxDischargeDepth := 9) -implicitDefEqProofs -dsimp only [go_sem, seval, *])
             ·clear h2' h3'
              (repeat' simp (maxDischargeDepth := 9) -implicitDefEqProofs -dsimp only [go_sem, seval, *])
end Go.Proofs.Ytapnlmhfacoceaa

namespace Fil.Rw
open Abs
open Eqv (moveL)
theorem val_even {v : List Bool} {a : Int} (h : a % 2 = 0) : Aig.val v a = v.getD (a / 2).toNat false := by
 have : ¬ a % 2 = 1 := by omega
 unfold Aig.val; simp [this]
theorem val_odd {v : List Bool} {a : Int} (h : a % 2 ≠ 0) : Aig.val v a = !v.getD (a / 2).toNat false := by
 have : a % 2 = 1 := by omega
 unfold Aig.val; simp [this]
def kpAt (s : Nat → Option Bool) (st : List Bool) : Nat → List Bool
 | 0 => []
 | i + 1 => match s i with
  | some _ => kpAt s st i
  | none => kpAt s st i ++ [st.getD i false]
theorem V_gate {g : Aig} (hf : Fine g) {s : List Bool} (hb : ((s.length + 1 : Nat) : Int) = g.first) {i : Nat} (hi : i < g.ands.length) :
  (Aig.vals (false :: s) g.ands).getD (g.first + i).toNat false = (Aig.val (Aig.vals (false :: s) g.ands) g.ands[i].1 && Aig.val (Aig.vals (false :: s) g.ands) g.ands[i].2) := by
 have h := gate_val (s := s) hf hb hi
 rw [val_even (by omega)] at h
 rw [← h]; congr 1; omega
theorem V_base {g : Aig} {v : List Bool} {n : Nat} (h : n < v.length) : (Aig.vals v g.ands).getD n false = v.getD n false := by
 obtain ⟨m, e⟩ := vals_prefix g.ands v
 rw [e]
 simp only [List.getD_eq_getElem?_getD]
 rw [List.getElem?_append_left h]
theorem andB_val {b : B} (hb : Bd b) {s : List Bool} (hl : ((s.length + 1 : Nat) : Int) = b.g.first) {x y : Int} (hx : b.g.lit x = true) (hy : b.g.lit y = true) (hn : b.g.count < 65536) :
  Aig.val (Aig.vals (false :: s) (andB b x y).1.g.ands) (andB b x y).2 = (Aig.val (Aig.vals (false :: s) b.g.ands) x && Aig.val (Aig.vals (false :: s) b.g.ands) y) := by
 obtain ⟨h, z, e1, e2⟩ := and_some hb.chk hx hy hn
 have := andO_val (s := s) hb.fine hl hx hy e1
 unfold andB
 rw [e2]
 exact this
end Fil.Rw

namespace Fil.Rw
open Abs
open Eqv (moveL)

/-! ### Balanced -/
theorem all_erase (f : Int → Bool) : ∀ (l : List Int) (i : Nat), i < l.length → l.all f = (f (l.getD i 0) && (l.eraseIdx i).all f)
 | a :: l, 0, _ => by simp
 | a :: l, i + 1, h => by
  have ih := all_erase f l i (by simpa using h)
  simp only [List.all_cons, List.eraseIdx_cons_succ, List.getD_cons_succ, ih]
  cases f a <;> simp
theorem pair_all (f : Int → Bool) {lev l : List Int} (h2 : 2 ≤ l.length) : l.all f = (f (pairJ lev l).1 && f (pairJ lev l).2 && (restJ lev l).all f) := by
 have q1 := lst_lt (lev := lev) (show 0 < l.length by omega)
 have q2 := erase_len q1
 have q3 := lst_lt (lev := lev) (show 0 < (l.eraseIdx (lst lev l)).length by omega)
 rw [all_erase f l _ q1, all_erase f (l.eraseIdx (lst lev l)) _ q3]
 unfold pairJ restJ
 simp only
 split
 ·simp only [← Bool.and_assoc]; congr 1; exact Bool.and_comm _ _
 ·simp only [Bool.and_assoc]
theorem JI.val {b : B} {l : List Int} (h : JI b l) {s : List Bool} (hb : ((s.length + 1 : Nat) : Int) = b.g.first) :
  Aig.val (Aig.vals (false :: s) (joinB l.length b l).1.g.ands) (joinB l.length b l).2 = l.all fun a => Aig.val (Aig.vals (false :: s) b.g.ands) a := by
 obtain ⟨n, hn⟩ : ∃ n, l.length = n := ⟨_, rfl⟩
 induction n generalizing b l with
 | zero => have := h.ne; omega
 | succ n ih =>
  by_cases h2 : 2 ≤ l.length
  ·obtain ⟨_, k1, k2, k3, k4, k5⟩ := h.step h2
   rw [joinB_step h h2, ih k1 (by rw [k3.first]; exact hb) (by omega), pair_all _ (lev := b.lev) h2]
   obtain ⟨m1, m2⟩ := pairJ_mem (b := b) h2
   have hc := h.cnt
   have hv := andB_val (s := s) h.toBd hb (h.lits _ m1) (h.lits _ m2) (by omega)
   unfold stepJ
   simp only [List.all_append, List.all_cons, List.all_nil, Bool.and_true]
   rw [hv, Bool.and_comm]
   congr 1
   have hx : Ext b.g (andB b (pairJ b.lev l).1 (pairJ b.lev l).2).1.g := k3
   rw [Bool.eq_iff_iff]
   simp only [List.all_eq_true]
   constructor
   ·intro q x hx'
    rw [← val_ext h.fine hb hx (h.lits x (mem_erase (mem_erase hx')))]; exact q x hx'
   ·intro q x hx'
    rw [val_ext h.fine hb hx (h.lits x (mem_erase (mem_erase hx')))]; exact q x hx'
  ·have h1 : l.length = 1 := by have := h.ne; omega
   rw [joinB_one h1]
   obtain ⟨a, rfl⟩ := List.length_eq_one_iff.1 h1
   simp
theorem nodes_of {g : Aig} (hg : Sml g) {inp st : List Bool} (hi : (inp.length : Int) = g.ins) (hl : st.length = g.flops.length) : g.Nodes inp st = (Aig.vals (false :: (inp ++ st)) g.ands, 0) := by
 unfold Aig.Nodes
 rw [hg.chk, if_neg (by simp), if_neg]
 rintro (h | h)
 ·exact h hi
 ·exact h hl
theorem eval_of {g : Aig} (hg : Sml g) {inp st : List Bool} (hi : (inp.length : Int) = g.ins) (hl : st.length = g.flops.length) :
  g.Eval inp st = (g.outs.map (Aig.val (Aig.vals (false :: (inp ++ st)) g.ands)), g.flops.map (fun f => Aig.val (Aig.vals (false :: (inp ++ st)) g.ands) f.next), 0) := by
 unfold Aig.Eval
 rw [nodes_of hg hi hl]; rfl
theorem eval_lens {g : Aig} {inp st : List Bool} (h : (g.Eval inp st).2.2 = 0) : (inp.length : Int) = g.ins ∧ st.length = g.flops.length := by
 unfold Aig.Eval at h
 split at h
 ·rename_i hn; exact (hn h).elim
 ·rename_i hn
  have hn' : (g.Nodes inp st).2 = 0 := Classical.not_not.1 hn
  unfold Aig.Nodes at hn'
  split at hn'
  ·rename_i hc; exact (hc hn').elim
  ·split at hn'
   ·simp at hn'
   ·rename_i hh
    exact ⟨Classical.not_not.1 fun e => hh (.inl e), Classical.not_not.1 fun e => hh (.inr e)⟩
end Fil.Rw

namespace Fil.Rw
open Abs
open Eqv (moveL)
def Ag (K : List Kn) (V : List Bool) : Prop := ∀ n v, K.getD n none = some v → V.getD n false = v
theorem kOf_ok {K : List Kn} {V : List Bool} (h : Ag K V) {a : Int} {v : Bool} (hk : kOf K a = some v) : Aig.val V a = v := by
 unfold kOf at hk
 by_cases he : a % 2 = 1
 ·rw [if_pos he] at hk
  rw [val_odd (by omega)]
  cases hq : K.getD (a / 2).toNat none with
  | none => rw [hq] at hk; simp [kTurn] at hk
  | some b =>
   rw [hq] at hk
   simp only [kTurn, Option.some.injEq] at hk
   rw [h _ _ hq, hk]
 ·rw [if_neg he] at hk
  rw [val_even (by omega)]
  exact h _ _ hk
theorem kBoth_ok {a b : Kn} {x y v : Bool} (ha : ∀ u, a = some u → x = u) (hb : ∀ u, b = some u → y = u) (h : kBoth a b = some v) : (x && y) = v := by
 rcases a with _ | _ | _
 ·rcases b with _ | _ | _ <;> simp [kBoth] at h
  rw [hb _ rfl]; subst h; simp
 ·simp [kBoth] at h
  rw [ha _ rfl]; subst h; rfl
 ·simp only [kBoth] at h
  rw [ha _ rfl, hb _ h]; simp
theorem gn_app {l m : List Kn} {n : Nat} (h : n < l.length) : (l ++ m).getD n none = l.getD n none := by
 simp only [List.getD_eq_getElem?_getD, List.getElem?_append_left h]
theorem gn_last {l : List Kn} {x : Kn} {n : Nat} (h : n = l.length) : (l ++ [x]).getD n none = x := by
 subst h; simp [List.getD_eq_getElem?_getD]
theorem gn_out {l : List Kn} {n : Nat} (h : l.length ≤ n) : l.getD n none = none := by
 simp [List.getD_eq_getElem?_getD, List.getElem?_eq_none h]
def Hs (g : Aig) (so : List Bool) (st : List Bool) : Prop := ∀ i v, stl g so i = some v → st.getD i false = v
theorem ag_fl {g : Aig} (hg : Sml g) {so inp st : List Bool} (hi : (inp.length : Int) = g.ins) (hs : Hs g so st) : ∀ i, i ≤ st.length → Ag (kFl g so i) (false :: (inp ++ st))
 | 0, _ => fun n v h => by
  unfold kFl at h
  cases n with
  | zero => simp at h; subst h; rfl
  | succ n =>
   simp only [List.getD_cons_succ] at h
   simp only [List.getD_eq_getElem?_getD, List.getElem?_replicate] at h
   split at h <;> simp at h
 | i + 1, hi' => fun n v h => by
  have ih := ag_fl hg hi hs i (by omega)
  have hl := kFl_len g so i
  have hlo := hg.lo
  unfold kFl at h
  by_cases h1 : n < (kFl g so i).length
  ·rw [gn_app h1] at h; exact ih n v h
  ·by_cases h2 : n = (kFl g so i).length
   ·rw [gn_last h2] at h
    have := hs i v h
    have e : n = inp.length + i + 1 := by omega
    subst e
    rw [List.getD_cons_succ]
    simp only [List.getD_eq_getElem?_getD] at this ⊢
    rw [List.getElem?_append_right (by omega), show inp.length + i - inp.length = i by omega, this]
   ·rw [gn_out (by simp only [List.length_append, List.length_cons, List.length_nil]; omega)] at h
    simp at h
theorem ag_at {g : Aig} (hg : Sml g) {so inp st : List Bool} (hi : (inp.length : Int) = g.ins) (hl : st.length = g.flops.length) (hs : Hs g so st) : ∀ k, k ≤ g.ands.length → Ag (kAt g so k) (Aig.vals (false :: (inp ++ st)) g.ands)
 | 0, _ => fun n v h => by
  have h0 := ag_fl hg hi hs g.flops.length (by omega)
  have hlen := kFl_len g so g.flops.length
  have hlo := hg.lo
  have hn : n < (kFl g so g.flops.length).length := by
   rcases Nat.lt_or_ge n (kFl g so g.flops.length).length with q | q
   ·exact q
   ·unfold kAt at h; rw [gn_out q] at h; simp at h
  rw [V_base (by simp only [List.length_cons, List.length_append]; omega)]
  exact h0 n v h
 | k + 1, hk => fun n v h => by
  have ih := ag_at hg hi hl hs k (by omega)
  have hlen := kAt_len g so k
  have hlo := hg.lo
  have hlt : k < g.ands.length := by omega
  unfold kAt at h
  rw [ands_getD hlt] at h
  by_cases h1 : n < (kAt g so k).length
  ·rw [gn_app h1] at h; exact ih n v h
  ·by_cases h2 : n = (kAt g so k).length
   ·rw [gn_last h2] at h
    have hgv := V_gate hg.fine (s := inp ++ st) (by simp only [List.length_append, Aig.first]; omega) hlt
    have e : n = (g.first + k).toNat := by simp only [Aig.first]; omega
    rw [e, hgv]
    exact kBoth_ok (fun u hu => kOf_ok ih hu) (fun u hu => kOf_ok ih hu) h
   ·rw [gn_out (by simp only [List.length_append, List.length_cons, List.length_nil]; omega)] at h
    simp at h
theorem hs_init (g : Aig) (so : List Bool) (hl : so.length = g.flops.length) : Hs g so (g.flops.map (·.init)) := fun i v h => by
 unfold stl at h
 split at h
 ·rename_i hs
  have hi : i < g.flops.length := by
   rcases Nat.lt_or_ge i so.length with q | q
   ·omega
   ·simp [List.getD_eq_getElem?_getD, List.getElem?_eq_none q] at hs
  simp only [Option.some.injEq] at h
  rw [← h]
  simp [initAt, List.getD_eq_getElem?_getD, hi]
 ·simp at h
theorem hs_next {g : Aig} (hg : Sml g) {inp st : List Bool} (hi : (inp.length : Int) = g.ins) (hl : st.length = g.flops.length) (hs : Hs g (quietG g) st) : Hs g (quietG g) (g.Eval inp st).2.1 := fun i v h => by
 have hag := ag_at hg hi hl hs g.ands.length (Nat.le_refl _)
 rw [eval_of hg hi hl]
 simp only
 have hv := h
 unfold stl at h
 split at h
 ·rename_i hs
  have hi : i < g.flops.length := by
   rcases Nat.lt_or_ge i (quietG g).length with q | q
   ·rw [quiet_len] at q; exact q
   ·simp [List.getD_eq_getElem?_getD, List.getElem?_eq_none q] at hs
  have hq := qStep_get g (quietG g) i hi
  rw [quiet_fix, hs] at hq
  simp only [Bool.true_and] at hq
  have hk : kOf (kAt g (quietG g) g.ands.length) (nextAt g i) = some (initAt g i) := by simpa using hq.symm
  have hval := kOf_ok hag hk
  simp only [Option.some.injEq] at h
  have en : nextAt g i = g.flops[i].next := by simp [nextAt, List.getD_eq_getElem?_getD, hi]
  rw [← h, ← hval, en]
  simp [List.getD_eq_getElem?_getD, hi]
 ·simp at h
theorem nx_init (g : Aig) (s : Nat → Option Bool) (lits : List Int) : ∀ i, i ≤ g.flops.length → (nextsAt g s lits i).map (·.init) = kpAt s (g.flops.map (·.init)) i
 | 0, _ => rfl
 | i + 1, hi => by
  have ih := nx_init g s lits i (by omega)
  have hv : (g.flops.map (·.init)).getD i false = (g.flops.getD i ⟨0, false⟩).init := by simp [List.getD_eq_getElem?_getD, show i < g.flops.length by omega]
  unfold nextsAt kpAt
  cases s i with
  | some v => exact ih
  | none => simp only; rw [List.map_append, ih, hv]; rfl
end Fil.Rw

namespace Go.Proofs.Ytapnlmhfacoceaa
open Abs Fil Fil.Rw
theorem gb {l : List Bool} {n : Nat} (h : n < l.length) : l[n] = l.getD n false := by simp [List.getD_eq_getElem?_getD, h]
theorem kp_le (s : Nat → Option Bool) (st : List Bool) : ∀ i, (kpAt s st i).length ≤ i
 | 0 => Nat.le_refl _
 | i + 1 => by
  have := kp_le s st i
  unfold kpAt
  cases s i with
  | some v => simp only; omega
  | none => simp; omega
set_option maxRecDepth 20000 in
set_option maxHeartbeats 16000000 in
theorem rewrFlops_ok (g : Aig) (ins : List (List Bool)) (σ : Sig) (hw : Wide g) : ACalls Try.prog 11 [encAig g, .slice (ins.map (encRow encBool)) .no] σ (fun r σ' => r = .ret (.bool true) ∧ σ' = σ) := by
 refine ACalls.virt (callable_of Try.func11 b11 n11) 1 (fun oV1 hoV1 hnV1 hnV1' => ?_); (try simp only [upd_none, ne_eq, not_and] at hoV1); refine calls_x mixed Try.func11 b11 n11 rfl q11 (by simp) ?_; unfold c11 r11
 have hf := law_few g
 have ez : ((0 : Int) != 0) = false := by decide
 cases hfw : fewR g with
 | false =>
  rw [hfw] at hf
  clear hfw hw
  repeat' (first | simp (maxDischargeDepth := 9) -implicitDefEqProofs -dsimp only [go_sem, seval, *] | ((with_reducible apply ACalls.one1); (focus ((first | with_reducible refine law_live _ | with_reducible refine hf _) <;> (first | (simp (maxDischargeDepth := 9) -implicitDefEqProofs -dsimp only [go_sem, seval, *]; done) | omega))); (focus (first | trivial | with_reducible exact rfl | (simp (maxDischargeDepth := 9) -implicitDefEqProofs -dsimp only [go_sem, seval]; done)))))
  refine fin_eq ?_
  (repeat' simp (maxDischargeDepth := 9) -implicitDefEqProofs -dsimp only [go_sem, seval, *])
 | true =>
  rw [hfw] at hf
  obtain ⟨wf, hs⟩ := few_sml hw hfw
  by_cases hl : (20 : Int) < ins.length
  ·clear hfw hw hs wf
   repeat' (first | simp (maxDischargeDepth := 9) -implicitDefEqProofs -dsimp only [go_sem, seval, gt_iff_lt, *] | ((with_reducible apply ACalls.one1); (focus ((first | with_reducible refine law_live _ | with_reducible refine hf _) <;> (first | (simp (maxDischargeDepth := 9) -implicitDefEqProofs -dsimp only [go_sem, seval, *]; done) | omega))); (focus (first | trivial | with_reducible exact rfl | (simp (maxDischargeDepth := 9) -implicitDefEqProofs -dsimp only [go_sem, seval]; done)))))
   refine fin_eq ?_
   (repeat' simp (maxDischargeDepth := 9) -implicitDefEqProofs -dsimp only [go_sem, seval, *])
  ·have hck := fun τ => A.ref_Check g τ wf
   by_cases hc : g.check = 0
   ·have hg := hs hc
    rw [hc] at hck
    have h2 := hg.flops
    have s1 := (still_less hg).sml
    have cS := fun τ => rw_Still g τ hg
    have cQ := fun τ => rf_Quiet g τ hg
    have cI := fun τ => A.ref_Init g τ (by omega)
    have cI2 := fun τ => A.ref_Init (still g) τ (by have := s1.flops; omega)
    have hni : (still g).flops.map (·.init) = kpAt (stl g (quietG g)) (g.flops.map (·.init)) g.flops.length := nx_init g _ _ _ (Nat.le_refl _)
    rw [hni] at cI2
    have hql := quiet_len g
    have h0 := hs_init g (quietG g) hql
    have hnext := fun inp st hi hl hs => hs_next hg (inp := inp) (st := st) hi hl hs
    obtain ⟨iv, hiv⟩ : ∃ iv, g.flops.map (·.init) = iv := ⟨_, rfl⟩
    have hivl : iv.length = g.flops.length := by rw [← hiv]; simp
    rw [hiv] at cI cI2 h0
    obtain ⟨so, hso⟩ : ∃ so, quietG g = so := ⟨_, rfl⟩
    rw [hso] at cQ cI2 h0 hnext hql
    obtain ⟨H, hH⟩ : ∃ H, still g = H := ⟨_, rfl⟩
    rw [hH] at cS cI2
    have hkl := kp_le (stl g so) iv g.flops.length
    have cB := fun τ => A.ref_Bools (kpAt (stl g so) iv g.flops.length) (kpAt (stl g so) iv g.flops.length) τ (by omega)
    have hE := fun inp st τ => A.aig_Eval g inp st τ wf
    have hinit : ∀ i, (h : i < g.flops.length) → ∀ v, stl g so i = some v → g.flops[i].init = v := fun i h v hv => by
     unfold stl at hv
     split at hv
     ·simp only [Option.some.injEq] at hv
      rw [← hv]; simp [initAt, List.getD_eq_getElem?_getD, h]
     ·simp at hv
    clear hfw hw hs wf hc hni hiv hso hH s1
    repeat' (first | simp (maxDischargeDepth := 9) -implicitDefEqProofs -dsimp only [go_sem, seval, gt_iff_lt, *] | ((with_reducible refine Zt (fun oF hoF hnF hnF' => ?_)); (try simp only [upd_none, ne_eq, not_and] at hoF)) | ((with_reducible apply ACalls.one1); (focus ((first | with_reducible refine law_live _ | with_reducible refine hf _ | with_reducible refine hck _ | with_reducible refine cS _ | with_reducible refine cQ _ | with_reducible refine cI _) <;> (first | (simp (maxDischargeDepth := 9) -implicitDefEqProofs -dsimp only [go_sem, seval, *]; done) | omega))); (focus (first | trivial | with_reducible exact rfl | (simp (maxDischargeDepth := 9) -implicitDefEqProofs -dsimp only [go_sem, seval]; done)))))
    obtain ⟨oH, eH⟩ : ∃ x, x = oF := ⟨oF, rfl⟩
    subst eH
    obtain ⟨p1, p2⟩ := hoF
    have p3 : ¬ oV1 = oH := fun e => p1 e.symm
    clear hnF hnF' hnV1 hnV1' hf hck cS cQ cI
    refine loop_rule (fun i : Nat => [(11, some (.int .i64 i)), (8, some (.slice (so.map encBool) .no)), (10, some (.slice ((kpAt (stl g so) iv i).map encBool) (.own oV1))), (9, some (.slice (iv.map encBool) .no)), (7, some (.int .i64 0)), (6, some (.ptr oH 0)), (1, some (.slice (ins.map (encRow encBool)) .no)), (2, some (.cptr (aigL g))), (5, some (.bool true))])
     (fun i => upd (upd σ oV1 (.grow 1 (kpAt (stl g so) iv i).length)) oH (.cells (aigL H))) (fun i => i ≤ so.length) (fun i => so.length - i) 0 ?_ ?_
    ·have e0 : kpAt (stl g so) iv 0 = [] := rfl
     (repeat' simp (maxDischargeDepth := 9) -implicitDefEqProofs -dsimp only [go_sem, seval, e0, List.map_nil, List.length_nil, Int.natCast_zero, *]) <;> (first | omega | skip)
    ·intro i hi
     have hkl2 := kp_le (stl g so) iv i
     by_cases hlt : i < so.length
     ·have hlt' : (i : Int) < g.flops.length := by omega
      have hli : i < iv.length := by omega
      have g1 := gb hlt
      have g2 := gb hli
      have hnx : kpAt (stl g so) iv (i + 1) = if so.getD i false then kpAt (stl g so) iv i else kpAt (stl g so) iv i ++ [iv.getD i false] := by
       conv => lhs; unfold kpAt
       unfold stl
       cases so.getD i false <;> rfl
      obtain ⟨K, hK⟩ : ∃ K, kpAt (stl g so) iv i = K := ⟨_, rfl⟩
      rw [hK] at hnx hkl2 ⊢
      obtain ⟨w, hwv⟩ : ∃ w, iv.getD i false = w := ⟨_, rfl⟩
      rw [hwv] at hnx g2
      have hk1 : K.length ≤ 1000 := by omega
      clear hK hwv cI2 cB hE hinit hnext h0
      cases hb : so.getD i false with
      | true =>
       rw [hb, if_pos rfl] at hnx
       rw [hb] at g1
       clear hb
       repeat' (first | simp (maxDischargeDepth := 9) -implicitDefEqProofs -dsimp only [go_sem, seval, *] | simp (disch := omega) only [wrap64] | ((with_reducible refine Zu ?_ ?_); focus omega))
       refine loop_next _ _ _ _ (i + 1) ?_; (repeat' simp (maxDischargeDepth := 9) -implicitDefEqProofs -dsimp only [go_sem, seval, *]) <;> (repeat' refine And.intro ?_ ?_) <;> (first | omega | skip)
      | false =>
       rw [hb, if_neg (by simp)] at hnx
       rw [hb] at g1
       clear hb
       repeat' (first | simp (maxDischargeDepth := 9) -implicitDefEqProofs -dsimp only [go_sem, seval, *] | simp (disch := omega) only [wrap64] | ((with_reducible refine Zv ?_ ?_); focus (first | omega | exact rfl)) | ((with_reducible refine Zu ?_ ?_); focus omega))
       refine loop_next _ _ _ _ (i + 1) ?_; (repeat' simp (maxDischargeDepth := 9) -implicitDefEqProofs -dsimp only [go_sem, seval,  List.map_append, List.map_cons, List.map_nil, List.length_append, List.length_cons, List.length_nil, *]) <;> (repeat' refine And.intro ?_ ?_) <;> (first | omega | skip)
     ·have hlt' : ¬ (i : Int) < g.flops.length := by omega
      have ei : i = g.flops.length := by omega
      rw [← ei] at cI2 cB
      obtain ⟨K, hK⟩ : ∃ K, kpAt (stl g so) iv i = K := ⟨_, rfl⟩
      rw [hK] at cI2 cB ⊢
      clear hlt hK hkl hkl2 hi ei
      repeat' (first | simp (maxDischargeDepth := 9) -implicitDefEqProofs -dsimp only [go_sem, seval, decide_true, *] | ((with_reducible apply ACalls.one1); (focus ((first | with_reducible refine cI2 _ | with_reducible refine ACalls.flA (cB _) ?_) <;> (first | (simp (maxDischargeDepth := 9) -implicitDefEqProofs -dsimp only [go_sem, seval, *]; done) | omega))); (focus (first | trivial | with_reducible exact rfl | (simp (maxDischargeDepth := 9) -implicitDefEqProofs -dsimp only [go_sem, seval]; done)))))
      refine loop_rule (fun x : Nat × List Bool => [(12, some (.int .i64 x.1)), (1, some (.slice (ins.map (encRow encBool)) .no)), (2, some (.cptr (aigL g))), (9, some (.slice (x.2.map encBool) .no)), (5, some (.bool true)), (8, some (.slice (so.map encBool) .no))])
       (fun _ => σ) (fun x => x.1 ≤ ins.length ∧ x.2.length = g.flops.length ∧ Hs g so x.2) (fun x => ins.length - x.1) (0, iv) ?_ ?_
      ·refine ⟨?_, ?_, by simp, hivl, h0⟩
       ·(repeat' simp (maxDischargeDepth := 9) -implicitDefEqProofs -dsimp only [go_sem, seval, Int.natCast_zero, *])
       ·(repeat' simp (maxDischargeDepth := 9) -implicitDefEqProofs -dsimp only [go_sem, seval, *])
      ·rintro ⟨k, st⟩ ⟨hk, hsl, hHs⟩
       simp only at hk hsl hHs ⊢
       clear cI2 cB
       by_cases hlt : k < ins.length
       ·have hlt' : (k : Int) < ins.length := by omega
        have c1 := fun τ => hE ins[k] st τ
        by_cases hev : (g.Eval ins[k] st).2.2 = 0
        ·obtain ⟨l1, l2⟩ := eval_lens hev
         have hHs2 := hnext _ _ l1 l2 hHs
         have hnl : (g.Eval ins[k] st).2.1.length = g.flops.length := by rw [eval_of hg l1 l2]; simp
         obtain ⟨inp, hinp⟩ : ∃ x, ins[k] = x := ⟨_, rfl⟩
         rw [hinp] at c1 hHs2 hnl hev
         obtain ⟨⟨u, n, e⟩, hr⟩ : ∃ r, g.Eval inp st = r := ⟨_, rfl⟩
         rw [hr] at c1 hHs2 hnl hev
         simp only at c1 hHs2 hnl hev
         subst hev
         have hne : ((g.flops.length : Int) != (g.flops.length : Int)) = false := by simp
         clear hE hHs hr l1 l2 hnext h0
         repeat' (first | simp (maxDischargeDepth := 9) -implicitDefEqProofs -dsimp only [go_sem, seval, *] | ((with_reducible refine Zu ?_ ?_); focus omega) | ((with_reducible apply id_one0); (focus (intro tS hS; ((with_reducible refine c1 _) <;> (first | (simp (maxDischargeDepth := 9) -implicitDefEqProofs -dsimp only [go_sem, seval, *]; done) | omega | ((with_reducible refine Sub.get hS ?_); simp (maxDischargeDepth := 9) -implicitDefEqProofs -dsimp only [go_sem, seval, *]; done))))); (focus (first | trivial | (simp (maxDischargeDepth := 9) -implicitDefEqProofs -dsimp only [go_sem, seval, *]; done)))))
         refine loop_rule (fun i : Nat => [(16, some (.int .i64 i)), (14, some (.slice (n.map encBool) .no)), (8, some (.slice (so.map encBool) .no)), (2, some (.cptr (aigL g))), (12, some (.int .i64 k)), (5, some (.bool true)), (1, some (.slice (ins.map (encRow encBool)) .no))]) (fun _ => σ) (fun i => i ≤ n.length) (fun i => n.length - i) 0 ?_ ?_
         ·(repeat' simp (maxDischargeDepth := 9) -implicitDefEqProofs -dsimp only [go_sem, seval, Int.natCast_zero, *]) <;> (first | omega | skip)
         ·intro i hi
          clear c1
          by_cases hin : i < n.length
          ·have hin' : (i : Int) < g.flops.length := by omega
           have his : i < so.length := by omega
           have hif : i < g.flops.length := by omega
           have g1 := gb his
           have g2 := gb hin
           have hst : stl g so i = if so.getD i false then some (initAt g i) else none := rfl
           have hia : initAt g i = g.flops[i].init := by simp [initAt, List.getD_eq_getElem?_getD, hif]
           rw [hia] at hst
           obtain ⟨f, hff⟩ : ∃ f, g.flops[i] = f := ⟨_, rfl⟩
           rw [hff] at hst
           obtain ⟨w, hwv⟩ : ∃ w, n.getD i false = w := ⟨_, rfl⟩
           have hHi := hHs2 i
           rw [hwv] at g2 hHi
           cases hb : so.getD i false with
           | true =>
            rw [hb, if_pos rfl] at hst
            have hwi := hHi _ hst
            subst hwi
            rw [hb] at g1
            have hbb : (f.init == f.init) = true := by simp
            clear hb hst hHi hHs2 hinit hia hwv hsl
            repeat' (first | simp (maxDischargeDepth := 9) -implicitDefEqProofs -dsimp only [go_sem, seval, *] | simp (disch := omega) only [wrap64] | ((with_reducible refine Zu ?_ ?_); focus omega))
            refine loop_next _ _ _ _ (i + 1) ?_; (repeat' simp (maxDischargeDepth := 9) -implicitDefEqProofs -dsimp only [go_sem, seval, *]) <;> (repeat' refine And.intro ?_ ?_) <;> (first | omega | skip)
           | false =>
            rw [hb] at g1
            clear hb hst hHi hHs2 hinit hia hwv hsl
            repeat' (first | simp (maxDischargeDepth := 9) -implicitDefEqProofs -dsimp only [go_sem, seval, *] | simp (disch := omega) only [wrap64] | ((with_reducible refine Zu ?_ ?_); focus omega))
            refine loop_next _ _ _ _ (i + 1) ?_; (repeat' simp (maxDischargeDepth := 9) -implicitDefEqProofs -dsimp only [go_sem, seval, *]) <;> (repeat' refine And.intro ?_ ?_) <;> (first | omega | skip)
          ·have hin' : ¬ (i : Int) < g.flops.length := by omega
           have hk1 : k + 1 ≤ ins.length ∧ ins.length - (k + 1) < ins.length - k := by omega
           repeat' (first | simp (maxDischargeDepth := 9) -implicitDefEqProofs -dsimp only [go_sem, seval, *] | simp (disch := omega) only [wrap64])
           refine loop_next _ _ _ _ (k + 1, n) ⟨?_, ?_, ⟨hk1.1, hnl, hHs2⟩, hk1.2⟩
           ·clear hHs2
            (repeat' simp (maxDischargeDepth := 9) -implicitDefEqProofs -dsimp only [go_sem, seval, *])
           ·clear hHs2
            (repeat' simp (maxDischargeDepth := 9) -implicitDefEqProofs -dsimp only [go_sem, seval, *])
        ·have hb : ((g.Eval ins[k] st).2.2 != 0) = true := by simpa using hev
         obtain ⟨inp, hinp⟩ : ∃ x, ins[k] = x := ⟨_, rfl⟩
         rw [hinp] at c1 hb
         clear hE hHs hnext h0 hev
         repeat' (first | simp (maxDischargeDepth := 9) -implicitDefEqProofs -dsimp only [go_sem, seval, *] | ((with_reducible refine Zu ?_ ?_); focus omega) | ((with_reducible apply id_one0); (focus (intro tS hS; ((with_reducible refine c1 _) <;> (first | (simp (maxDischargeDepth := 9) -implicitDefEqProofs -dsimp only [go_sem, seval, *]; done) | omega | ((with_reducible refine Sub.get hS ?_); simp (maxDischargeDepth := 9) -implicitDefEqProofs -dsimp only [go_sem, seval, *]; done))))); (focus (first | trivial | (simp (maxDischargeDepth := 9) -implicitDefEqProofs -dsimp only [go_sem, seval, *]; done)))))
         refine fin_eq ?_
         (repeat' simp (maxDischargeDepth := 9) -implicitDefEqProofs -dsimp only [go_sem, seval, *])
       ·have hlt' : ¬ (k : Int) < ins.length := by omega
        clear hE hHs hnext h0
        repeat' simp (maxDischargeDepth := 9) -implicitDefEqProofs -dsimp only [go_sem, seval, *]
        refine fin_eq ?_
        (repeat' simp (maxDischargeDepth := 9) -implicitDefEqProofs -dsimp only [go_sem, seval, *])
   ·have hb : (g.check != 0) = true := by simpa using hc
    clear hfw hw hs wf
    repeat' (first | simp (maxDischargeDepth := 9) -implicitDefEqProofs -dsimp only [go_sem, seval, gt_iff_lt, *] | ((with_reducible apply ACalls.one1); (focus ((first | with_reducible refine law_live _ | with_reducible refine hf _ | with_reducible refine hck _) <;> (first | (simp (maxDischargeDepth := 9) -implicitDefEqProofs -dsimp only [go_sem, seval, *]; done) | omega))); (focus (first | trivial | with_reducible exact rfl | (simp (maxDischargeDepth := 9) -implicitDefEqProofs -dsimp only [go_sem, seval]; done)))))
    refine fin_eq ?_
    (repeat' simp (maxDischargeDepth := 9) -implicitDefEqProofs -dsimp only [go_sem, seval, *])
end Go.Proofs.Ytapnlmhfacoceaa

