/- Own widths, part by part. -/
import Derived.Test.YtdiebjnjhgbklaaESzSig
set_option linter.unusedSimpArgs false
set_option linter.unusedVariables false
namespace Go.Proofs.Ytdiebjnjhgbklaa
open Abs Fil Fil.Sz
theorem init_beq (s : Sg) : (s.name.toList == (⟨#[]⟩ : ByteArray).toList) = decide (s.name = noName) := str_beq _ _
set_option maxRecDepth 20000 in
theorem sz_signals (l : List Sg) (σ : Sig) (hl : l.length ≤ 1000000000000) : ACalls Try.prog 35 [.slice (l.map encS) .no] σ (fun r σ' => r = .ret (.bool (sigsOk l)) ∧ σ' = σ) := by
  refine calls_x mixed Try.func35 b35 n35 rfl q35 (by simp) ?_; unfold c35 r35
  have k0 : setK (.one 2) (.str ⟨#[]⟩) (.bool true) [] = some (encN (namesTo l 0)) := rfl
  have kk := keyOk_s
  repeat' (first | simp (maxDischargeDepth := 9) -implicitDefEqProofs -dsimp only [go_sem, seval, *] | simp (disch := omega) only [wrap64] | (with_reducible (first | apply Zb | apply Zg | apply Zi) <;> intro hq) | ((with_reducible refine Zu ?_ ?_); focus omega) | ((with_reducible refine Zt (fun oF hoF hnF hnF' => ?_)); (try simp only [upd_none, ne_eq, not_and] at hoF)))
  obtain ⟨o, eo⟩ : ∃ x, x = oF := ⟨oF, rfl⟩
  subst eo
  have ho : σ o = none := hoF
  clear hoF hnF hnF' k0
  refine loop_rule (fun i : Nat => [(10, some (.int .i64 i)), (9, some (.int .i64 l.length)), (8, some (.slice (l.map encS) .no)), (3, some (.map o))])
    (fun i => upd σ o (.map true (encN (namesTo l i)))) (fun i => i ≤ l.length ∧ SgTo l i) (fun i => l.length - i) 0 ?_ ?_
  · (repeat' (first | simp (maxDischargeDepth := 9) -implicitDefEqProofs -dsimp only [go_sem, seval, *] | simp (disch := omega) only [wrap64])) <;> (repeat' refine And.intro ?_ ?_) <;> (first | omega | rfl | assumption | skip)
    intro j _ h
    omega
  · rintro i ⟨hi, hok⟩
    by_cases hlt : i < l.length
    · have hns := names_succ hlt
      have hout := names_out hlt
      by_cases hg : SgAt l i hlt
      · have hstep := sgTo_succ hlt hok hg
        obtain ⟨⟨g1, g2, g3, g4, g5, g6⟩, g7⟩ := hg
        have hm := hout.2 ⟨g1, g7⟩
        have hlk := look_out hm
        have hst := set_out hm
        rw [← hns] at hst
        clear g7 hm hout hns g1 hok
        by_cases hk : l[i].kind = 4
        · have hk2 : (l[i].kind != 4) = false := by simp [hk]
          repeat' (first | simp (maxDischargeDepth := 9) -implicitDefEqProofs -dsimp only [go_sem, seval, gt_iff_lt, Option.getD_none, *] | simp (disch := omega) only [wrap64] | (with_reducible (first | apply Zb | apply Zg | apply Zi) <;> intro hq) | ((with_reducible refine Zu ?_ ?_); focus omega) | ((with_reducible refine Zt (fun oF hoF hnF hnF' => ?_)); (try simp only [upd_none, ne_eq, not_and] at hoF)))
          all_goals first | (exfalso; omega) | skip
          refine loop_next _ _ _ _ (i + 1) ?_; (repeat' (first | simp (maxDischargeDepth := 9) -implicitDefEqProofs -dsimp only [go_sem, seval, *] | simp (disch := omega) only [wrap64])) <;> (repeat' refine And.intro ?_ ?_) <;> (first | omega | rfl | assumption | skip)
        · have hk2 : (l[i].kind != 4) = true := by simp [hk]
          have hin : (l[i].init != 0) = false := by
            rcases g6 with h | h
            · exact (hk h).elim
            · simp [h]
          repeat' (first | simp (maxDischargeDepth := 9) -implicitDefEqProofs -dsimp only [go_sem, seval, gt_iff_lt, Option.getD_none, *] | simp (disch := omega) only [wrap64] | (with_reducible (first | apply Zb | apply Zg | apply Zi) <;> intro hq) | ((with_reducible refine Zu ?_ ?_); focus omega) | ((with_reducible refine Zt (fun oF hoF hnF hnF' => ?_)); (try simp only [upd_none, ne_eq, not_and] at hoF)))
          all_goals first | (exfalso; omega) | skip
          refine loop_next _ _ _ _ (i + 1) ?_; (repeat' (first | simp (maxDischargeDepth := 9) -implicitDefEqProofs -dsimp only [go_sem, seval, *] | simp (disch := omega) only [wrap64])) <;> (repeat' refine And.intro ?_ ?_) <;> (first | omega | rfl | assumption | skip)
      · have hb := sigs_bad hlt hg
        clear hok hns
        by_cases hm : l[i].name ∈ namesTo l i
        · have hlk := look_in hm
          repeat' (first | simp (maxDischargeDepth := 9) -implicitDefEqProofs -dsimp only [go_sem, seval, gt_iff_lt, Option.getD_some, *] | simp (disch := omega) only [wrap64] | (with_reducible (first | apply Zb | apply Zg | apply Zi) <;> intro hq) | ((with_reducible refine Zu ?_ ?_); focus omega) | ((with_reducible refine Zt (fun oF hoF hnF hnF' => ?_)); (try simp only [upd_none, ne_eq, not_and] at hoF)))
          refine fin_eq ?_
          (repeat' (first | simp (maxDischargeDepth := 9) -implicitDefEqProofs -dsimp only [go_sem, seval, *] | simp (disch := omega) only [wrap64])) <;> (repeat' refine And.intro ?_ ?_) <;> (first | omega | rfl | assumption | skip)
        · have hlk := look_out hm
          have hm2 := hout.1 hm
          have hg2 : ¬ (1 ≤ l[i].w ∧ l[i].w ≤ 64 ∧ 1 ≤ l[i].kind ∧ l[i].kind ≤ 4 ∧ (l[i].kind = 4 ∨ l[i].init = 0)) := fun ⟨a1, a2, a3, a4, a5⟩ => hg ⟨⟨hm2.1, a1, a2, a3, a4, a5⟩, hm2.2⟩
          clear hg hm hm2 hout
          repeat' (first | simp (maxDischargeDepth := 9) -implicitDefEqProofs -dsimp only [go_sem, seval, gt_iff_lt, Option.getD_none, *] | simp (disch := omega) only [wrap64] | (with_reducible (first | apply Zb | apply Zg | apply Zi) <;> intro hq) | ((with_reducible refine Zu ?_ ?_); focus omega) | ((with_reducible refine Zt (fun oF hoF hnF hnF' => ?_)); (try simp only [upd_none, ne_eq, not_and] at hoF)))
          all_goals first | (exfalso; apply hg2; omega) | skip
          all_goals
            refine fin_eq ?_
            (repeat' (first | simp (maxDischargeDepth := 9) -implicitDefEqProofs -dsimp only [go_sem, seval, *] | simp (disch := omega) only [wrap64])) <;> (repeat' refine And.intro ?_ ?_) <;> (first | omega | rfl | assumption | skip)
    · have ei : i = l.length := by omega
      subst ei
      have hs : sigsOk l = true := sigsOk_iff.2 hok
      clear hok
      repeat' (first | simp (maxDischargeDepth := 9) -implicitDefEqProofs -dsimp only [go_sem, seval, *] | simp (disch := omega) only [wrap64] | (with_reducible (first | apply Zb | apply Zg | apply Zi) <;> intro hq) | ((with_reducible refine Zu ?_ ?_); focus omega) | ((with_reducible refine Zt (fun oF hoF hnF hnF' => ?_)); (try simp only [upd_none, ne_eq, not_and] at hoF)))
      refine fin_eq ?_
      (repeat' (first | simp (maxDischargeDepth := 9) -implicitDefEqProofs -dsimp only [go_sem, seval, *] | simp (disch := omega) only [wrap64])) <;> (repeat' refine And.intro ?_ ?_) <;> (first | omega | rfl | assumption | skip)
set_option maxRecDepth 20000 in
theorem rf_Signals (l : List Sg) (σ : Sig) (hl : l.length ≤ 1000000000000) : ACalls Try.prog 40 [.slice (l.map encS) .no] σ (fun r σ' => r = .ret (.bool (sigsOk l)) ∧ σ' = σ) := by
  refine calls_x mixed Try.func40 b40 n40 rfl q40 (by simp) ?_; unfold c40 r40
  repeat' (first | simp (maxDischargeDepth := 9) -implicitDefEqProofs -dsimp only [go_sem, seval, *] | simp (disch := omega) only [wrap64] | (with_reducible (first | apply Zb | apply Zg | apply Zi) <;> intro hq) | ((with_reducible refine Zu ?_ ?_); focus omega) | ((with_reducible refine Zt (fun oF hoF hnF hnF' => ?_)); (try simp only [upd_none, ne_eq, not_and] at hoF)))
  refine loop_rule (fun i : Nat => [(3, some (.int .i64 i)), (0, some (.slice (l.map encS) .no))])
    (fun i => σ) (fun i => i ≤ l.length ∧ SgTo l i) (fun i => l.length - i) 0 ?_ ?_
  · (repeat' (first | simp (maxDischargeDepth := 9) -implicitDefEqProofs -dsimp only [go_sem, seval, *] | simp (disch := omega) only [wrap64])) <;> (repeat' refine And.intro ?_ ?_) <;> (first | omega | rfl | assumption | skip)
    intro j _ h
    omega
  · rintro i ⟨hi, hok⟩
    by_cases hlt : i < l.length
    · have hnm := init_beq l[i]
      by_cases hg : SgGood l[i]
      · have hstep := fun h => sgTo_succ hlt hok ⟨hg, h⟩
        have hbad := fun (k : Nat) (hk : k < i) (h : (l[k]'(by omega)).name = l[i].name) => sigs_bad hlt (fun hh : SgGood l[i] ∧ ∀ k, (hk : k < i) → ¬ (l[k]'(by omega)).name = l[i].name => hh.2 k hk h)
        obtain ⟨g1, g2, g3, g4, g5, g6⟩ := hg
        have hnm2 : decide (l[i].name = noName) = false := by simp [g1]
        rw [hnm2] at hnm
        clear g1 hok hnm2
        obtain ⟨b, hk2, hin⟩ : ∃ b, (l[i].kind != 4) = b ∧ (b = true → (l[i].init != 0) = false) := ⟨_, rfl, fun h => by
          rcases g6 with q | q
          · rw [q] at h; simp at h
          · simp [q]⟩
        clear g6
        cases b
        · clear hin
          repeat' (first | simp (maxDischargeDepth := 9) -implicitDefEqProofs -dsimp only [go_sem, seval, gt_iff_lt, *] | simp (disch := omega) only [wrap64] | (with_reducible (first | apply Zb | apply Zg | apply Zi) <;> intro hq) | ((with_reducible refine Zu ?_ ?_); focus omega) | ((with_reducible refine Zt (fun oF hoF hnF hnF' => ?_)); (try simp only [upd_none, ne_eq, not_and] at hoF)))
          all_goals first | (exfalso; omega) | skip
          obtain ⟨o, eo⟩ : ∃ x, x = oF := ⟨oF, rfl⟩
          subst eo
          have ho : σ o = none := hoF
          clear hoF hnF hnF'
          refine loop_rule (fun k : Nat => [(5, some (.int .i64 k)), (3, some (.int .i64 i)), (0, some (.slice (l.map encS) .no)), (4, some (.ptr o 0))])
            (fun _ => upd σ o (.cells [.str l[i].name, .int .i64 l[i].w, .int .i64 l[i].kind, .int .u64 l[i].init])) (fun k => k ≤ i ∧ ∀ j, (h : j < k) → (hi : k ≤ i) → ¬ (l[j]'(by omega)).name = l[i].name) (fun k => i - k) 0 ?_ ?_
          · clear hstep hbad
            (repeat' (first | simp (maxDischargeDepth := 9) -implicitDefEqProofs -dsimp only [go_sem, seval, *] | simp (disch := omega) only [wrap64])) <;> (repeat' refine And.intro ?_ ?_) <;> (first | omega | rfl | assumption | skip)
          · rintro k ⟨hk, hokk⟩
            by_cases hkt : k < i
            · have hkl : k < l.length := by omega
              have hki : (k : Int) < i := by omega
              have hsb := str_beq l[k].name l[i].name
              by_cases he : l[k].name = l[i].name
              · have hv := hbad k hkt he
                have hd : decide (l[k].name = l[i].name) = true := by simp [he]
                rw [hd] at hsb
                clear hstep hbad hokk he hd
                repeat' (first | simp (maxDischargeDepth := 9) -implicitDefEqProofs -dsimp only [go_sem, seval, *] | simp (disch := omega) only [wrap64] | (with_reducible (first | apply Zb | apply Zg | apply Zi) <;> intro hq) | ((with_reducible refine Zu ?_ ?_); focus omega) | ((with_reducible refine Zt (fun oF hoF hnF hnF' => ?_)); (try simp only [upd_none, ne_eq, not_and] at hoF)))
                refine fin_eq ?_
                (repeat' (first | simp (maxDischargeDepth := 9) -implicitDefEqProofs -dsimp only [go_sem, seval, *] | simp (disch := omega) only [wrap64])) <;> (repeat' refine And.intro ?_ ?_) <;> (first | omega | rfl | assumption | skip)
              · have hd : decide (l[k].name = l[i].name) = false := by simp [he]
                rw [hd] at hsb
                clear hstep hbad hd
                have hn : ∀ j, (h : j < k + 1) → ¬ (l[j]'(by omega)).name = l[i].name := fun j h => by
                  rcases Nat.lt_or_ge j k with q | q
                  · exact hokk j q (by omega)
                  · obtain rfl : j = k := by omega
                    exact he
                clear hokk he
                repeat' (first | simp (maxDischargeDepth := 9) -implicitDefEqProofs -dsimp only [go_sem, seval, *] | simp (disch := omega) only [wrap64] | (with_reducible (first | apply Zb | apply Zg | apply Zi) <;> intro hq) | ((with_reducible refine Zu ?_ ?_); focus omega) | ((with_reducible refine Zt (fun oF hoF hnF hnF' => ?_)); (try simp only [upd_none, ne_eq, not_and] at hoF)))
                refine loop_next _ _ _ _ (k + 1) ?_; (repeat' (first | simp (maxDischargeDepth := 9) -implicitDefEqProofs -dsimp only [go_sem, seval, *] | simp (disch := omega) only [wrap64])) <;> (repeat' refine And.intro ?_ ?_) <;> (first | omega | rfl | assumption | skip)
                exact fun j h _ => hn j h
            · have ek : k = i := by omega
              subst ek
              have hki : ¬ (k : Int) < k := by omega
              have hn := hstep fun j h => hokk j h (Nat.le_refl _)
              clear hstep hbad hokk
              repeat' (first | simp (maxDischargeDepth := 9) -implicitDefEqProofs -dsimp only [go_sem, seval, *] | simp (disch := omega) only [wrap64] | (with_reducible (first | apply Zb | apply Zg | apply Zi) <;> intro hq) | ((with_reducible refine Zu ?_ ?_); focus omega) | ((with_reducible refine Zt (fun oF hoF hnF hnF' => ?_)); (try simp only [upd_none, ne_eq, not_and] at hoF)))
              refine loop_next _ _ _ _ (k + 1) ?_; (repeat' (first | simp (maxDischargeDepth := 9) -implicitDefEqProofs -dsimp only [go_sem, seval, *] | simp (disch := omega) only [wrap64])) <;> (repeat' refine And.intro ?_ ?_) <;> (first | omega | rfl | assumption | skip)
        · replace hin := hin rfl
          repeat' (first | simp (maxDischargeDepth := 9) -implicitDefEqProofs -dsimp only [go_sem, seval, gt_iff_lt, *] | simp (disch := omega) only [wrap64] | (with_reducible (first | apply Zb | apply Zg | apply Zi) <;> intro hq) | ((with_reducible refine Zu ?_ ?_); focus omega) | ((with_reducible refine Zt (fun oF hoF hnF hnF' => ?_)); (try simp only [upd_none, ne_eq, not_and] at hoF)))
          all_goals first | (exfalso; omega) | skip
          obtain ⟨o, eo⟩ : ∃ x, x = oF := ⟨oF, rfl⟩
          subst eo
          have ho : σ o = none := hoF
          clear hoF hnF hnF' hin
          refine loop_rule (fun k : Nat => [(5, some (.int .i64 k)), (3, some (.int .i64 i)), (0, some (.slice (l.map encS) .no)), (4, some (.ptr o 0))])
            (fun _ => upd σ o (.cells [.str l[i].name, .int .i64 l[i].w, .int .i64 l[i].kind, .int .u64 l[i].init])) (fun k => k ≤ i ∧ ∀ j, (h : j < k) → (hi : k ≤ i) → ¬ (l[j]'(by omega)).name = l[i].name) (fun k => i - k) 0 ?_ ?_
          · clear hstep hbad
            (repeat' (first | simp (maxDischargeDepth := 9) -implicitDefEqProofs -dsimp only [go_sem, seval, *] | simp (disch := omega) only [wrap64])) <;> (repeat' refine And.intro ?_ ?_) <;> (first | omega | rfl | assumption | skip)
          · rintro k ⟨hk, hokk⟩
            by_cases hkt : k < i
            · have hkl : k < l.length := by omega
              have hki : (k : Int) < i := by omega
              have hsb := str_beq l[k].name l[i].name
              by_cases he : l[k].name = l[i].name
              · have hv := hbad k hkt he
                have hd : decide (l[k].name = l[i].name) = true := by simp [he]
                rw [hd] at hsb
                clear hstep hbad hokk he hd
                repeat' (first | simp (maxDischargeDepth := 9) -implicitDefEqProofs -dsimp only [go_sem, seval, *] | simp (disch := omega) only [wrap64] | (with_reducible (first | apply Zb | apply Zg | apply Zi) <;> intro hq) | ((with_reducible refine Zu ?_ ?_); focus omega) | ((with_reducible refine Zt (fun oF hoF hnF hnF' => ?_)); (try simp only [upd_none, ne_eq, not_and] at hoF)))
                refine fin_eq ?_
                (repeat' (first | simp (maxDischargeDepth := 9) -implicitDefEqProofs -dsimp only [go_sem, seval, *] | simp (disch := omega) only [wrap64])) <;> (repeat' refine And.intro ?_ ?_) <;> (first | omega | rfl | assumption | skip)
              · have hd : decide (l[k].name = l[i].name) = false := by simp [he]
                rw [hd] at hsb
                clear hstep hbad hd
                have hn : ∀ j, (h : j < k + 1) → ¬ (l[j]'(by omega)).name = l[i].name := fun j h => by
                  rcases Nat.lt_or_ge j k with q | q
                  · exact hokk j q (by omega)
                  · obtain rfl : j = k := by omega
                    exact he
                clear hokk he
                repeat' (first | simp (maxDischargeDepth := 9) -implicitDefEqProofs -dsimp only [go_sem, seval, *] | simp (disch := omega) only [wrap64] | (with_reducible (first | apply Zb | apply Zg | apply Zi) <;> intro hq) | ((with_reducible refine Zu ?_ ?_); focus omega) | ((with_reducible refine Zt (fun oF hoF hnF hnF' => ?_)); (try simp only [upd_none, ne_eq, not_and] at hoF)))
                refine loop_next _ _ _ _ (k + 1) ?_; (repeat' (first | simp (maxDischargeDepth := 9) -implicitDefEqProofs -dsimp only [go_sem, seval, *] | simp (disch := omega) only [wrap64])) <;> (repeat' refine And.intro ?_ ?_) <;> (first | omega | rfl | assumption | skip)
                exact fun j h _ => hn j h
            · have ek : k = i := by omega
              subst ek
              have hki : ¬ (k : Int) < k := by omega
              have hn := hstep fun j h => hokk j h (Nat.le_refl _)
              clear hstep hbad hokk
              repeat' (first | simp (maxDischargeDepth := 9) -implicitDefEqProofs -dsimp only [go_sem, seval, *] | simp (disch := omega) only [wrap64] | (with_reducible (first | apply Zb | apply Zg | apply Zi) <;> intro hq) | ((with_reducible refine Zu ?_ ?_); focus omega) | ((with_reducible refine Zt (fun oF hoF hnF hnF' => ?_)); (try simp only [upd_none, ne_eq, not_and] at hoF)))
              refine loop_next _ _ _ _ (k + 1) ?_; (repeat' (first | simp (maxDischargeDepth := 9) -implicitDefEqProofs -dsimp only [go_sem, seval, *] | simp (disch := omega) only [wrap64])) <;> (repeat' refine And.intro ?_ ?_) <;> (first | omega | rfl | assumption | skip)
      · have hb := sigs_bad hlt (fun hh => hg hh.1)
        clear hok
        by_cases hm : l[i].name = noName
        · have hnm2 : decide (l[i].name = noName) = true := by simp [hm]
          rw [hnm2] at hnm
          clear hm hnm2
          repeat' (first | simp (maxDischargeDepth := 9) -implicitDefEqProofs -dsimp only [go_sem, seval, gt_iff_lt, *] | simp (disch := omega) only [wrap64] | (with_reducible (first | apply Zb | apply Zg | apply Zi) <;> intro hq) | ((with_reducible refine Zu ?_ ?_); focus omega) | ((with_reducible refine Zt (fun oF hoF hnF hnF' => ?_)); (try simp only [upd_none, ne_eq, not_and] at hoF)))
          refine fin_eq ?_
          (repeat' (first | simp (maxDischargeDepth := 9) -implicitDefEqProofs -dsimp only [go_sem, seval, *] | simp (disch := omega) only [wrap64])) <;> (repeat' refine And.intro ?_ ?_) <;> (first | omega | rfl | assumption | skip)
        · have hnm2 : decide (l[i].name = noName) = false := by simp [hm]
          rw [hnm2] at hnm
          have hg2 : ¬ (1 ≤ l[i].w ∧ l[i].w ≤ 64 ∧ 1 ≤ l[i].kind ∧ l[i].kind ≤ 4 ∧ (l[i].kind = 4 ∨ l[i].init = 0)) := fun ⟨a1, a2, a3, a4, a5⟩ => hg ⟨hm, a1, a2, a3, a4, a5⟩
          clear hg hm hnm2
          repeat' (first | simp (maxDischargeDepth := 9) -implicitDefEqProofs -dsimp only [go_sem, seval, gt_iff_lt, *] | simp (disch := omega) only [wrap64] | (with_reducible (first | apply Zb | apply Zg | apply Zi) <;> intro hq) | ((with_reducible refine Zu ?_ ?_); focus omega) | ((with_reducible refine Zt (fun oF hoF hnF hnF' => ?_)); (try simp only [upd_none, ne_eq, not_and] at hoF)))
          all_goals first | (exfalso; apply hg2; omega) | skip
          all_goals
            refine fin_eq ?_
            (repeat' (first | simp (maxDischargeDepth := 9) -implicitDefEqProofs -dsimp only [go_sem, seval, *] | simp (disch := omega) only [wrap64])) <;> (repeat' refine And.intro ?_ ?_) <;> (first | omega | rfl | assumption | skip)
    · have ei : i = l.length := by omega
      subst ei
      have hs : sigsOk l = true := sigsOk_iff.2 hok
      clear hok
      repeat' (first | simp (maxDischargeDepth := 9) -implicitDefEqProofs -dsimp only [go_sem, seval, *] | simp (disch := omega) only [wrap64] | (with_reducible (first | apply Zb | apply Zg | apply Zi) <;> intro hq) | ((with_reducible refine Zu ?_ ?_); focus omega) | ((with_reducible refine Zt (fun oF hoF hnF hnF' => ?_)); (try simp only [upd_none, ne_eq, not_and] at hoF)))
      refine fin_eq ?_
      (repeat' (first | simp (maxDischargeDepth := 9) -implicitDefEqProofs -dsimp only [go_sem, seval, *] | simp (disch := omega) only [wrap64])) <;> (repeat' refine And.intro ?_ ?_) <;> (first | omega | rfl | assumption | skip)
end Go.Proofs.Ytdiebjnjhgbklaa

namespace Go.Proofs.Ytdiebjnjhgbklaa
open Abs Fil Fil.Sz
theorem sl_indexE (p : E → Bool) (l : List E) (hl : l.length ≤ 1000000000000) (σ : Sig) {F : Nat} {caps : List AV} (hF : ∀ x ∈ l, ACalls Try.prog F (encE x :: caps) σ (fun r σ' => r = .ret (.bool (p x)) ∧ σ' = σ)) :
    ACalls Try.prog 95 [.slice (l.map encE) .no, .fn F [] caps] σ (fun r σ' => r = .ret (.int .i64 (idxF p l)) ∧ σ' = σ) :=
  lib_indexFunc (sz := 8) (g := true) mixed Try.func95 b95 n95 rfl q95 (fun _ => rfl) (fun _ => rfl) p l hl hF
theorem sl_containsE (p : E → Bool) (l : List E) (hl : l.length ≤ 1000000000000) (σ : Sig) {F : Nat} {caps : List AV} (hF : ∀ x ∈ l, ACalls Try.prog F (encE x :: caps) σ (fun r σ' => r = .ret (.bool (p x)) ∧ σ' = σ)) :
    ACalls Try.prog 68 [.slice (l.map encE) .no, .fn F [] caps] σ (fun r σ' => r = .ret (.bool (l.any p)) ∧ σ' = σ) :=
  lib_containsFunc mixed Try.func68 b68 n68 rfl q68 p l (sl_indexE p l hl σ hF)
theorem sz_left (v s h l n : Int) (σ : Sig) : ACalls Try.prog 27 [.agg [.int .i64 0, .int .i64 0, .int .u64 v, .int .i64 s, .int .i64 h, .int .i64 l, .int .i64 n, .slice [] .no], .agg [.int .i64 0, .int .i64 0, .int .u64 0, .int .i64 0, .int .i64 0, .int .i64 0, .int .i64 0, .slice [] .no]] σ
    (fun r σ' => r = .ret (.bool (decide (v = 0 ∧ s = 0 ∧ h = 0 ∧ l = 0 ∧ n = 0))) ∧ σ' = σ) := by
  have h1 := sz_SameE (.mk 0 0 v s h l n []) zE σ (by simp [nodes_eq, E.l]) (by simp [nodes_eq, zE, E.l])
  have e1 : encEs (.mk 0 0 v s h l n []) = [] := by rw [encEs_eq]; rfl
  have e2 : encEs zE = [] := by rw [encEs_eq]; rfl
  have e3 : same (E.mk 0 0 v s h l n []) zE = decide (v = 0 ∧ s = 0 ∧ h = 0 ∧ l = 0 ∧ n = 0) := by
    rw [Bool.eq_iff_iff, same_iff, decide_eq_true_eq]
    simp only [zE, E.mk.injEq, true_and, and_true]
  rw [e3] at h1
  simp only [encE, eL, e1, e2] at h1
  exact h1
set_option maxRecDepth 20000 in
set_option maxHeartbeats 1000000 in
theorem sz_shape (g : List Sg) (hg : g.length ≤ 1000000000000) (e : E) : ∀ (σ : Sig), nodes e ≤ 16777216 → WfE e → ACalls Try.prog 36 [.slice (g.map encS) .no, encE e] σ (fun r σ' => r = .ret (.bool (shp g e)) ∧ σ' = σ) := by
  refine E.ind (P := fun e => ∀ (σ : Sig), nodes e ≤ 16777216 → WfE e → ACalls Try.prog 36 [.slice (g.map encS) .no, encE e] σ (fun r σ' => r = .ret (.bool (shp g e)) ∧ σ' = σ)) (fun e ih σ he hw => ?_) e
  have h1 := encEs_eq e
  have l1 := len_nodes e
  obtain ⟨⟨w1, w2, w3, w4, w5, w6, w7⟩, w8⟩ := (WfE_iff e).1 hw
  obtain ⟨w2a, w2b⟩ := w2
  have hs := shp_eq g e
  have hall : e.l.all (shp g) = !e.l.any fun x => !shp g x := by
    rw [Bool.eq_iff_iff]; simp [List.any_eq_true, List.all_eq_true]
  have hclo : ∀ (b : Nat) (τ : Sig), τ b = some (.cells [.slice (g.map encS) .no]) → ∀ x ∈ e.l, ACalls Try.prog 69 (encE x :: [.ptr b 0]) τ (fun r σ' => r = .ret (.bool (!shp g x)) ∧ σ' = τ) := fun b τ hb x hx => by
    have hc := fun τ => ih x hx τ (by have := part_nodes hx; omega) (w8 x hx)
    refine calls_x mixed Try.func69 b69 n69 rfl q69 (by simp) ?_; unfold c69 r69
    repeat' (first | simp (maxDischargeDepth := 9) -implicitDefEqProofs -dsimp only [go_sem, seval, *] | (with_reducible (first | apply Za | apply Zc | apply Zd | apply Ze | apply Zf) <;> intro hq) | ((with_reducible refine Zt (fun oF hoF hnF hnF' => ?_)); (try simp only [upd_none, ne_eq, not_and] at hoF)) | ((with_reducible apply ACalls.one1); (focus ((first | with_reducible refine hc _ | with_reducible refine ACalls.flA (hc _) ?_) <;> (first | (simp (maxDischargeDepth := 9) -implicitDefEqProofs -dsimp only [go_sem, seval, *]; done) | omega))); (focus (first | trivial | with_reducible exact rfl | (simp (maxDischargeDepth := 9) -implicitDefEqProofs -dsimp only [go_sem, seval]; done)))))
    refine fin_eq ?_
    (repeat' (first | simp (maxDischargeDepth := 9) -implicitDefEqProofs -dsimp only [go_sem, seval, *])) <;> (repeat' refine And.intro ?_ ?_) <;> (first | omega | rfl | assumption | skip)
  have hcon := fun (b : Nat) (τ : Sig) (hb : τ b = some (.cells [.slice (g.map encS) .no])) => sl_containsE (fun x => !shp g x) e.l (by omega) τ (hclo b τ hb)
  rw [hall] at hs
  obtain ⟨A, hA⟩ : ∃ A, (e.l.any fun x => !shp g x) = A := ⟨_, rfl⟩
  rw [hA] at hs hcon
  clear ih hclo hA hall hw w8
  refine calls_x mixed Try.func36 b36 n36 rfl q36 (by simp) ?_; unfold c36 r36
  by_cases hn : node g e = true
  · rw [hn, Bool.true_and] at hs
    cases node_nd hn with
    | num ho h2 h3 h4 h5 h6 h7 h8 h9 =>
      have hh := fun τ => sz_holds e.w e.v τ h7 w3
      have hle : e.l.length = 0 := by rw [h6]; rfl
      have hL := fun τ => sz_left 0 e.sig e.hi e.lo e.n τ
      rw [h2, h3, h4, h5] at hL
      clear h6 hn
      rcases h9 with h9 | h9
      · repeat' (first | simp (maxDischargeDepth := 9) -implicitDefEqProofs -dsimp only [go_sem, seval, ge_iff_le, *] | (with_reducible (first | apply Za | apply Zc | apply Zd | apply Ze | apply Zf) <;> intro hq) | ((with_reducible refine Zt (fun oF hoF hnF hnF' => ?_)); (try simp only [upd_none, ne_eq, not_and] at hoF)) | ((with_reducible apply ACalls.one1); (focus ((first | with_reducible refine hL _ | with_reducible refine hcon _ _ ?_ | with_reducible refine ACalls.flA (hL _) ?_ | with_reducible refine ACalls.flA (hcon _ _ ?_) ?_) <;> (first | (simp (maxDischargeDepth := 9) -implicitDefEqProofs -dsimp only [go_sem, seval, *]; done) | omega))); (focus (first | trivial | with_reducible exact rfl | (simp (maxDischargeDepth := 9) -implicitDefEqProofs -dsimp only [go_sem, seval]; done)))))
        refine fin_eq ?_
        (repeat' (first | simp (maxDischargeDepth := 9) -implicitDefEqProofs -dsimp only [go_sem, seval, *])) <;> (repeat' refine And.intro ?_ ?_) <;> (first | omega | rfl | assumption | skip)
      · rw [h9] at hh
        repeat' (first | simp (maxDischargeDepth := 9) -implicitDefEqProofs -dsimp only [go_sem, seval, ge_iff_le, *] | (with_reducible (first | apply Za | apply Zc | apply Zd | apply Ze | apply Zf) <;> intro hq) | ((with_reducible refine Zt (fun oF hoF hnF hnF' => ?_)); (try simp only [upd_none, ne_eq, not_and] at hoF)) | ((with_reducible apply ACalls.one1); (focus ((first | with_reducible refine hL _ | with_reducible refine hh _ | with_reducible refine hcon _ _ ?_ | with_reducible refine ACalls.flA (hL _) ?_ | with_reducible refine ACalls.flA (hh _) ?_ | with_reducible refine ACalls.flA (hcon _ _ ?_) ?_) <;> (first | (simp (maxDischargeDepth := 9) -implicitDefEqProofs -dsimp only [go_sem, seval, *]; done) | omega))); (focus (first | trivial | with_reducible exact rfl | (simp (maxDischargeDepth := 9) -implicitDefEqProofs -dsimp only [go_sem, seval]; done)))))
        all_goals
          refine fin_eq ?_
          (repeat' (first | simp (maxDischargeDepth := 9) -implicitDefEqProofs -dsimp only [go_sem, seval, *])) <;> (repeat' refine And.intro ?_ ?_) <;> (first | omega | rfl | assumption | skip)
    | sig ho h2 h5 h6 h7 =>
      have hh := fun τ => sz_slice g e.sig e.hi e.lo τ hg
      rw [h7] at hh
      have hle : e.l.length = 0 := by rw [h6]; rfl
      have hL := fun τ => sz_left e.v 0 0 0 e.n τ
      rw [h2, h5] at hL
      clear h6 hn
      repeat' (first | simp (maxDischargeDepth := 9) -implicitDefEqProofs -dsimp only [go_sem, seval, ge_iff_le, *] | (with_reducible (first | apply Za | apply Zc | apply Zd | apply Ze | apply Zf) <;> intro hq) | ((with_reducible refine Zt (fun oF hoF hnF hnF' => ?_)); (try simp only [upd_none, ne_eq, not_and] at hoF)) | ((with_reducible apply ACalls.one1); (focus ((first | with_reducible refine hL _ | with_reducible refine hh _ | with_reducible refine hcon _ _ ?_ | with_reducible refine ACalls.flA (hL _) ?_ | with_reducible refine ACalls.flA (hh _) ?_ | with_reducible refine ACalls.flA (hcon _ _ ?_) ?_) <;> (first | (simp (maxDischargeDepth := 9) -implicitDefEqProofs -dsimp only [go_sem, seval, *]; done) | omega))); (focus (first | trivial | with_reducible exact rfl | (simp (maxDischargeDepth := 9) -implicitDefEqProofs -dsimp only [go_sem, seval]; done)))))
      refine fin_eq ?_
      (repeat' (first | simp (maxDischargeDepth := 9) -implicitDefEqProofs -dsimp only [go_sem, seval, *])) <;> (repeat' refine And.intro ?_ ?_) <;> (first | omega | rfl | assumption | skip)
    | idx ho h2 h3 h4 h5 a h6 h7 h8 =>
      have hle : e.l.length = 1 := by rw [h6]; rfl
      have hL := fun τ => sz_left e.v 0 e.hi e.lo e.n τ
      rw [h2, h3, h4, h5] at hL
      clear h6 hn
      repeat' (first | simp (maxDischargeDepth := 9) -implicitDefEqProofs -dsimp only [go_sem, seval, ge_iff_le, *] | (with_reducible (first | apply Za | apply Zc | apply Zd | apply Ze | apply Zf) <;> intro hq) | ((with_reducible refine Zt (fun oF hoF hnF hnF' => ?_)); (try simp only [upd_none, ne_eq, not_and] at hoF)) | ((with_reducible apply ACalls.one1); (focus ((first | with_reducible refine hL _ | with_reducible refine hcon _ _ ?_ | with_reducible refine ACalls.flA (hL _) ?_ | with_reducible refine ACalls.flA (hcon _ _ ?_) ?_) <;> (first | (simp (maxDischargeDepth := 9) -implicitDefEqProofs -dsimp only [go_sem, seval, *]; done) | omega))); (focus (first | trivial | with_reducible exact rfl | (simp (maxDischargeDepth := 9) -implicitDefEqProofs -dsimp only [go_sem, seval]; done)))))
      refine fin_eq ?_
      (repeat' (first | simp (maxDischargeDepth := 9) -implicitDefEqProofs -dsimp only [go_sem, seval, *])) <;> (repeat' refine And.intro ?_ ?_) <;> (first | omega | rfl | assumption | skip)
    | un ho h2 h3 h4 h5 a h6 h7 h8 =>
      have hle : e.l.length = 1 := by rw [h6]; rfl
      have hL := fun τ => sz_left e.v e.sig e.hi e.lo 0 τ
      rw [h2, h3, h4, h5] at hL
      clear h6 hn
      repeat' (first | simp (maxDischargeDepth := 9) -implicitDefEqProofs -dsimp only [go_sem, seval, ge_iff_le, *] | (with_reducible (first | apply Za | apply Zc | apply Zd | apply Ze | apply Zf) <;> intro hq) | ((with_reducible refine Zt (fun oF hoF hnF hnF' => ?_)); (try simp only [upd_none, ne_eq, not_and] at hoF)) | ((with_reducible apply ACalls.one1); (focus ((first | with_reducible refine hL _ | with_reducible refine hcon _ _ ?_ | with_reducible refine ACalls.flA (hL _) ?_ | with_reducible refine ACalls.flA (hcon _ _ ?_) ?_) <;> (first | (simp (maxDischargeDepth := 9) -implicitDefEqProofs -dsimp only [go_sem, seval, *]; done) | omega))); (focus (first | trivial | with_reducible exact rfl | (simp (maxDischargeDepth := 9) -implicitDefEqProofs -dsimp only [go_sem, seval]; done)))))
      refine fin_eq ?_
      (repeat' (first | simp (maxDischargeDepth := 9) -implicitDefEqProofs -dsimp only [go_sem, seval, *])) <;> (repeat' refine And.intro ?_ ?_) <;> (first | omega | rfl | assumption | skip)
    | bin ho h2 h3 h4 h5 a b h6 h7 h8 =>
      have hle : e.l.length = 2 := by rw [h6]; rfl
      have hL := fun τ => sz_left e.v e.sig e.hi e.lo 0 τ
      rw [h2, h3, h4, h5] at hL
      clear h6 hn
      repeat' (first | simp (maxDischargeDepth := 9) -implicitDefEqProofs -dsimp only [go_sem, seval, ge_iff_le, *] | (with_reducible (first | apply Za | apply Zc | apply Zd | apply Ze | apply Zf) <;> intro hq) | ((with_reducible refine Zt (fun oF hoF hnF hnF' => ?_)); (try simp only [upd_none, ne_eq, not_and] at hoF)) | ((with_reducible apply ACalls.one1); (focus ((first | with_reducible refine hL _ | with_reducible refine hcon _ _ ?_ | with_reducible refine ACalls.flA (hL _) ?_ | with_reducible refine ACalls.flA (hcon _ _ ?_) ?_) <;> (first | (simp (maxDischargeDepth := 9) -implicitDefEqProofs -dsimp only [go_sem, seval, *]; done) | omega))); (focus (first | trivial | with_reducible exact rfl | (simp (maxDischargeDepth := 9) -implicitDefEqProofs -dsimp only [go_sem, seval]; done)))))
      refine fin_eq ?_
      (repeat' (first | simp (maxDischargeDepth := 9) -implicitDefEqProofs -dsimp only [go_sem, seval, *])) <;> (repeat' refine And.intro ?_ ?_) <;> (first | omega | rfl | assumption | skip)
    | cond ho h2 h3 h4 h5 h7 a b c h6 =>
      have hle : e.l.length = 3 := by rw [h6]; rfl
      have hL := fun τ => sz_left e.v e.sig e.hi e.lo e.n τ
      rw [h2, h3, h4, h5, h7] at hL
      clear h6 hn
      repeat' (first | simp (maxDischargeDepth := 9) -implicitDefEqProofs -dsimp only [go_sem, seval, ge_iff_le, *] | (with_reducible (first | apply Za | apply Zc | apply Zd | apply Ze | apply Zf) <;> intro hq) | ((with_reducible refine Zt (fun oF hoF hnF hnF' => ?_)); (try simp only [upd_none, ne_eq, not_and] at hoF)) | ((with_reducible apply ACalls.one1); (focus ((first | with_reducible refine hL _ | with_reducible refine hcon _ _ ?_ | with_reducible refine ACalls.flA (hL _) ?_ | with_reducible refine ACalls.flA (hcon _ _ ?_) ?_) <;> (first | (simp (maxDischargeDepth := 9) -implicitDefEqProofs -dsimp only [go_sem, seval, *]; done) | omega))); (focus (first | trivial | with_reducible exact rfl | (simp (maxDischargeDepth := 9) -implicitDefEqProofs -dsimp only [go_sem, seval]; done)))))
      refine fin_eq ?_
      (repeat' (first | simp (maxDischargeDepth := 9) -implicitDefEqProofs -dsimp only [go_sem, seval, *])) <;> (repeat' refine And.intro ?_ ?_) <;> (first | omega | rfl | assumption | skip)
    | cat ho h2 h3 h4 h5 h7 h6 =>
      have hL := fun τ => sz_left e.v e.sig e.hi e.lo e.n τ
      rw [h2, h3, h4, h5, h7] at hL
      have hle : 0 < (e.l.length : Int) := by omega
      clear hn h6
      repeat' (first | simp (maxDischargeDepth := 9) -implicitDefEqProofs -dsimp only [go_sem, seval, gt_iff_lt, *] | (with_reducible (first | apply Za | apply Zc | apply Zd | apply Ze | apply Zf) <;> intro hq) | ((with_reducible refine Zt (fun oF hoF hnF hnF' => ?_)); (try simp only [upd_none, ne_eq, not_and] at hoF)) | ((with_reducible apply ACalls.one1); (focus ((first | with_reducible refine hL _ | with_reducible refine hcon _ _ ?_ | with_reducible refine ACalls.flA (hL _) ?_ | with_reducible refine ACalls.flA (hcon _ _ ?_) ?_) <;> (first | (simp (maxDischargeDepth := 9) -implicitDefEqProofs -dsimp only [go_sem, seval, *]; done) | omega))); (focus (first | trivial | with_reducible exact rfl | (simp (maxDischargeDepth := 9) -implicitDefEqProofs -dsimp only [go_sem, seval]; done)))))
      refine fin_eq ?_
      (repeat' (first | simp (maxDischargeDepth := 9) -implicitDefEqProofs -dsimp only [go_sem, seval, *])) <;> (repeat' refine And.intro ?_ ?_) <;> (first | omega | rfl | assumption | skip)
    | ext ho h2 h3 h4 h5 a h6 h7 h8 h9 h10 =>
      have hle : e.l.length = 1 := by rw [h6]; rfl
      have hL := fun τ => sz_left e.v e.sig e.hi e.lo 0 τ
      rw [h2, h3, h4, h5] at hL
      clear h6 hn
      repeat' (first | simp (maxDischargeDepth := 9) -implicitDefEqProofs -dsimp only [go_sem, seval, ge_iff_le, *] | (with_reducible (first | apply Za | apply Zc | apply Zd | apply Ze | apply Zf) <;> intro hq) | ((with_reducible refine Zt (fun oF hoF hnF hnF' => ?_)); (try simp only [upd_none, ne_eq, not_and] at hoF)) | ((with_reducible apply ACalls.one1); (focus ((first | with_reducible refine hL _ | with_reducible refine hcon _ _ ?_ | with_reducible refine ACalls.flA (hL _) ?_ | with_reducible refine ACalls.flA (hcon _ _ ?_) ?_) <;> (first | (simp (maxDischargeDepth := 9) -implicitDefEqProofs -dsimp only [go_sem, seval, *]; done) | omega))); (focus (first | trivial | with_reducible exact rfl | (simp (maxDischargeDepth := 9) -implicitDefEqProofs -dsimp only [go_sem, seval]; done)))))
      refine fin_eq ?_
      (repeat' (first | simp (maxDischargeDepth := 9) -implicitDefEqProofs -dsimp only [go_sem, seval, *])) <;> (repeat' refine And.intro ?_ ?_) <;> (first | omega | rfl | assumption | skip)
  · have hn' : node g e = false := by simpa using hn
    rw [hn', Bool.false_and] at hs
    clear hn'
    by_cases ho1 : e.op = 1
    · obtain ⟨b, hb⟩ : ∃ b, holds e.w e.v = b := ⟨_, rfl⟩
      have hh := fun τ h => sz_holds e.w e.v τ h w3
      rw [hb] at hh
      have hnf : ¬ (e.sig = 0 ∧ e.hi = 0 ∧ e.lo = 0 ∧ e.n = 0 ∧ e.l.length = 0 ∧ 0 ≤ e.w ∧ e.w ≤ 64 ∧ (e.w = 0 ∨ b = true)) := fun h => hn (by unfold node; simp only [ho1]; simp [h, hb])
      have hL := fun τ => sz_left 0 e.sig e.hi e.lo e.n τ
      clear hn hb
      cases b
      all_goals
        try simp only [Bool.false_eq_true, or_false, or_true, and_true, and_false, not_false_eq_true] at hnf
        repeat' (first | simp (maxDischargeDepth := 9) -implicitDefEqProofs -dsimp only [go_sem, seval, ge_iff_le, gt_iff_lt, *] | (with_reducible (first | apply Za | apply Zc | apply Zd | apply Ze | apply Zf) <;> intro hq) | ((with_reducible refine Zt (fun oF hoF hnF hnF' => ?_)); (try simp only [upd_none, ne_eq, not_and] at hoF)) | ((with_reducible apply ACalls.one1); (focus ((first | with_reducible refine hL _ | with_reducible refine hh _ ?_ | with_reducible refine hcon _ _ ?_ | with_reducible refine ACalls.flA (hL _) ?_ | with_reducible refine ACalls.flA (hh _ ?_) ?_ | with_reducible refine ACalls.flA (hcon _ _ ?_) ?_) <;> (first | (simp (maxDischargeDepth := 9) -implicitDefEqProofs -dsimp only [go_sem, seval, *]; done) | omega))); (focus (first | trivial | with_reducible exact rfl | (simp (maxDischargeDepth := 9) -implicitDefEqProofs -dsimp only [go_sem, seval]; done)))))
        all_goals first | (exfalso; apply hnf; clear hL hcon; omega) | skip
        all_goals
          refine fin_eq ?_
          (repeat' (first | simp (maxDischargeDepth := 9) -implicitDefEqProofs -dsimp only [go_sem, seval, *])) <;> (repeat' refine And.intro ?_ ?_) <;> (first | omega | rfl | assumption | skip)
    by_cases ho2 : e.op = 2
    · obtain ⟨b, hb⟩ : ∃ b, place g e.sig e.hi e.lo = b := ⟨_, rfl⟩
      have hh := fun τ => sz_slice g e.sig e.hi e.lo τ hg
      rw [hb] at hh
      have hnf : ¬ (e.v = 0 ∧ e.n = 0 ∧ e.l.length = 0 ∧ b = true) := fun h => hn (by unfold node; simp only [ho2]; simp [h, hb])
      have hL := fun τ => sz_left e.v 0 0 0 e.n τ
      clear hn hb
      cases b
      all_goals
        try simp only [Bool.false_eq_true, or_false, or_true, and_true, and_false, not_false_eq_true] at hnf
        repeat' (first | simp (maxDischargeDepth := 9) -implicitDefEqProofs -dsimp only [go_sem, seval, ge_iff_le, gt_iff_lt, *] | (with_reducible (first | apply Za | apply Zc | apply Zd | apply Ze | apply Zf) <;> intro hq) | ((with_reducible refine Zt (fun oF hoF hnF hnF' => ?_)); (try simp only [upd_none, ne_eq, not_and] at hoF)) | ((with_reducible apply ACalls.one1); (focus ((first | with_reducible refine hL _ | with_reducible refine hh _ | with_reducible refine hcon _ _ ?_ | with_reducible refine ACalls.flA (hL _) ?_ | with_reducible refine ACalls.flA (hh _) ?_ | with_reducible refine ACalls.flA (hcon _ _ ?_) ?_) <;> (first | (simp (maxDischargeDepth := 9) -implicitDefEqProofs -dsimp only [go_sem, seval, *]; done) | omega))); (focus (first | trivial | with_reducible exact rfl | (simp (maxDischargeDepth := 9) -implicitDefEqProofs -dsimp only [go_sem, seval]; done)))))
        all_goals first | (exfalso; apply hnf; clear hL hcon; omega) | skip
        all_goals
          refine fin_eq ?_
          (repeat' (first | simp (maxDischargeDepth := 9) -implicitDefEqProofs -dsimp only [go_sem, seval, *])) <;> (repeat' refine And.intro ?_ ?_) <;> (first | omega | rfl | assumption | skip)
    by_cases ho3 : e.op = 3
    · have hnf : ¬ (e.v = 0 ∧ e.hi = 0 ∧ e.lo = 0 ∧ e.n = 0 ∧ e.l.length = 1 ∧ 0 ≤ e.sig ∧ e.sig < g.length) := fun h => hn (by unfold node; simp only [ho3]; simp [h])
      have hL := fun τ => sz_left e.v 0 e.hi e.lo e.n τ
      clear hn
      repeat' (first | simp (maxDischargeDepth := 9) -implicitDefEqProofs -dsimp only [go_sem, seval, ge_iff_le, gt_iff_lt, *] | (with_reducible (first | apply Za | apply Zc | apply Zd | apply Ze | apply Zf) <;> intro hq) | ((with_reducible refine Zt (fun oF hoF hnF hnF' => ?_)); (try simp only [upd_none, ne_eq, not_and] at hoF)) | ((with_reducible apply ACalls.one1); (focus ((first | with_reducible refine hL _ | with_reducible refine hcon _ _ ?_ | with_reducible refine ACalls.flA (hL _) ?_ | with_reducible refine ACalls.flA (hcon _ _ ?_) ?_) <;> (first | (simp (maxDischargeDepth := 9) -implicitDefEqProofs -dsimp only [go_sem, seval, *]; done) | omega))); (focus (first | trivial | with_reducible exact rfl | (simp (maxDischargeDepth := 9) -implicitDefEqProofs -dsimp only [go_sem, seval]; done)))))
      all_goals first | (exfalso; apply hnf; clear hL hcon; omega) | skip
      all_goals
        refine fin_eq ?_
        (repeat' (first | simp (maxDischargeDepth := 9) -implicitDefEqProofs -dsimp only [go_sem, seval, *])) <;> (repeat' refine And.intro ?_ ?_) <;> (first | omega | rfl | assumption | skip)
    by_cases ho4 : e.op = 4
    · have hnf : ¬ (e.v = 0 ∧ e.sig = 0 ∧ e.hi = 0 ∧ e.lo = 0 ∧ e.l.length = 1 ∧ 1 ≤ e.n ∧ e.n ≤ 6) := fun h => hn (by unfold node; simp only [ho4]; simp [h])
      have hL := fun τ => sz_left e.v e.sig e.hi e.lo 0 τ
      clear hn
      repeat' (first | simp (maxDischargeDepth := 9) -implicitDefEqProofs -dsimp only [go_sem, seval, ge_iff_le, gt_iff_lt, *] | (with_reducible (first | apply Za | apply Zc | apply Zd | apply Ze | apply Zf) <;> intro hq) | ((with_reducible refine Zt (fun oF hoF hnF hnF' => ?_)); (try simp only [upd_none, ne_eq, not_and] at hoF)) | ((with_reducible apply ACalls.one1); (focus ((first | with_reducible refine hL _ | with_reducible refine hcon _ _ ?_ | with_reducible refine ACalls.flA (hL _) ?_ | with_reducible refine ACalls.flA (hcon _ _ ?_) ?_) <;> (first | (simp (maxDischargeDepth := 9) -implicitDefEqProofs -dsimp only [go_sem, seval, *]; done) | omega))); (focus (first | trivial | with_reducible exact rfl | (simp (maxDischargeDepth := 9) -implicitDefEqProofs -dsimp only [go_sem, seval]; done)))))
      all_goals first | (exfalso; apply hnf; clear hL hcon; omega) | skip
      all_goals
        refine fin_eq ?_
        (repeat' (first | simp (maxDischargeDepth := 9) -implicitDefEqProofs -dsimp only [go_sem, seval, *])) <;> (repeat' refine And.intro ?_ ?_) <;> (first | omega | rfl | assumption | skip)
    by_cases ho5 : e.op = 5
    · have hnf : ¬ (e.v = 0 ∧ e.sig = 0 ∧ e.hi = 0 ∧ e.lo = 0 ∧ e.l.length = 2 ∧ 11 ≤ e.n ∧ e.n ≤ 26) := fun h => hn (by unfold node; simp only [ho5]; simp [h])
      have hL := fun τ => sz_left e.v e.sig e.hi e.lo 0 τ
      clear hn
      repeat' (first | simp (maxDischargeDepth := 9) -implicitDefEqProofs -dsimp only [go_sem, seval, ge_iff_le, gt_iff_lt, *] | (with_reducible (first | apply Za | apply Zc | apply Zd | apply Ze | apply Zf) <;> intro hq) | ((with_reducible refine Zt (fun oF hoF hnF hnF' => ?_)); (try simp only [upd_none, ne_eq, not_and] at hoF)) | ((with_reducible apply ACalls.one1); (focus ((first | with_reducible refine hL _ | with_reducible refine hcon _ _ ?_ | with_reducible refine ACalls.flA (hL _) ?_ | with_reducible refine ACalls.flA (hcon _ _ ?_) ?_) <;> (first | (simp (maxDischargeDepth := 9) -implicitDefEqProofs -dsimp only [go_sem, seval, *]; done) | omega))); (focus (first | trivial | with_reducible exact rfl | (simp (maxDischargeDepth := 9) -implicitDefEqProofs -dsimp only [go_sem, seval]; done)))))
      all_goals first | (exfalso; apply hnf; clear hL hcon; omega) | skip
      all_goals
        refine fin_eq ?_
        (repeat' (first | simp (maxDischargeDepth := 9) -implicitDefEqProofs -dsimp only [go_sem, seval, *])) <;> (repeat' refine And.intro ?_ ?_) <;> (first | omega | rfl | assumption | skip)
    by_cases ho6 : e.op = 6
    · have hnf : ¬ (e.v = 0 ∧ e.sig = 0 ∧ e.hi = 0 ∧ e.lo = 0 ∧ e.n = 0 ∧ e.l.length = 3) := fun h => hn (by unfold node; simp only [ho6]; simp [h])
      have hL := fun τ => sz_left e.v e.sig e.hi e.lo e.n τ
      clear hn
      repeat' (first | simp (maxDischargeDepth := 9) -implicitDefEqProofs -dsimp only [go_sem, seval, ge_iff_le, gt_iff_lt, *] | (with_reducible (first | apply Za | apply Zc | apply Zd | apply Ze | apply Zf) <;> intro hq) | ((with_reducible refine Zt (fun oF hoF hnF hnF' => ?_)); (try simp only [upd_none, ne_eq, not_and] at hoF)) | ((with_reducible apply ACalls.one1); (focus ((first | with_reducible refine hL _ | with_reducible refine hcon _ _ ?_ | with_reducible refine ACalls.flA (hL _) ?_ | with_reducible refine ACalls.flA (hcon _ _ ?_) ?_) <;> (first | (simp (maxDischargeDepth := 9) -implicitDefEqProofs -dsimp only [go_sem, seval, *]; done) | omega))); (focus (first | trivial | with_reducible exact rfl | (simp (maxDischargeDepth := 9) -implicitDefEqProofs -dsimp only [go_sem, seval]; done)))))
      all_goals first | (exfalso; apply hnf; clear hL hcon; omega) | skip
      all_goals
        refine fin_eq ?_
        (repeat' (first | simp (maxDischargeDepth := 9) -implicitDefEqProofs -dsimp only [go_sem, seval, *])) <;> (repeat' refine And.intro ?_ ?_) <;> (first | omega | rfl | assumption | skip)
    by_cases ho7 : e.op = 7
    · have hnf : ¬ (e.v = 0 ∧ e.sig = 0 ∧ e.hi = 0 ∧ e.lo = 0 ∧ e.n = 0 ∧ 0 < e.l.length) := fun h => hn (by unfold node; simp only [ho7]; simp [h])
      have hL := fun τ => sz_left e.v e.sig e.hi e.lo e.n τ
      clear hn
      repeat' (first | simp (maxDischargeDepth := 9) -implicitDefEqProofs -dsimp only [go_sem, seval, ge_iff_le, gt_iff_lt, *] | (with_reducible (first | apply Za | apply Zc | apply Zd | apply Ze | apply Zf) <;> intro hq) | ((with_reducible refine Zt (fun oF hoF hnF hnF' => ?_)); (try simp only [upd_none, ne_eq, not_and] at hoF)) | ((with_reducible apply ACalls.one1); (focus ((first | with_reducible refine hL _ | with_reducible refine hcon _ _ ?_ | with_reducible refine ACalls.flA (hL _) ?_ | with_reducible refine ACalls.flA (hcon _ _ ?_) ?_) <;> (first | (simp (maxDischargeDepth := 9) -implicitDefEqProofs -dsimp only [go_sem, seval, *]; done) | omega))); (focus (first | trivial | with_reducible exact rfl | (simp (maxDischargeDepth := 9) -implicitDefEqProofs -dsimp only [go_sem, seval]; done)))))
      all_goals first | (exfalso; apply hnf; clear hL hcon; omega) | skip
      all_goals
        refine fin_eq ?_
        (repeat' (first | simp (maxDischargeDepth := 9) -implicitDefEqProofs -dsimp only [go_sem, seval, *])) <;> (repeat' refine And.intro ?_ ?_) <;> (first | omega | rfl | assumption | skip)
    by_cases ho8 : e.op = 8
    · have hnf : ¬ (e.v = 0 ∧ e.sig = 0 ∧ e.hi = 0 ∧ e.lo = 0 ∧ e.l.length = 1 ∧ 31 ≤ e.n ∧ e.n ≤ 33 ∧ 1 ≤ e.w ∧ e.w ≤ 64) := fun h => hn (by unfold node; simp only [ho8]; simp [h])
      have hL := fun τ => sz_left e.v e.sig e.hi e.lo 0 τ
      clear hn
      repeat' (first | simp (maxDischargeDepth := 9) -implicitDefEqProofs -dsimp only [go_sem, seval, ge_iff_le, gt_iff_lt, *] | (with_reducible (first | apply Za | apply Zc | apply Zd | apply Ze | apply Zf) <;> intro hq) | ((with_reducible refine Zt (fun oF hoF hnF hnF' => ?_)); (try simp only [upd_none, ne_eq, not_and] at hoF)) | ((with_reducible apply ACalls.one1); (focus ((first | with_reducible refine hL _ | with_reducible refine hcon _ _ ?_ | with_reducible refine ACalls.flA (hL _) ?_ | with_reducible refine ACalls.flA (hcon _ _ ?_) ?_) <;> (first | (simp (maxDischargeDepth := 9) -implicitDefEqProofs -dsimp only [go_sem, seval, *]; done) | omega))); (focus (first | trivial | with_reducible exact rfl | (simp (maxDischargeDepth := 9) -implicitDefEqProofs -dsimp only [go_sem, seval]; done)))))
      all_goals first | (exfalso; apply hnf; clear hL hcon; omega) | skip
      all_goals
        refine fin_eq ?_
        (repeat' (first | simp (maxDischargeDepth := 9) -implicitDefEqProofs -dsimp only [go_sem, seval, *])) <;> (repeat' refine And.intro ?_ ?_) <;> (first | omega | rfl | assumption | skip)
    clear hn
    repeat' (first | simp (maxDischargeDepth := 9) -implicitDefEqProofs -dsimp only [go_sem, seval, *] | (with_reducible (first | apply Za | apply Zc | apply Zd | apply Ze | apply Zf) <;> intro hq) | ((with_reducible refine Zt (fun oF hoF hnF hnF' => ?_)); (try simp only [upd_none, ne_eq, not_and] at hoF)))
    all_goals first | (exfalso; omega) | skip
    all_goals
      refine fin_eq ?_
      (repeat' (first | simp (maxDischargeDepth := 9) -implicitDefEqProofs -dsimp only [go_sem, seval, *])) <;> (repeat' refine And.intro ?_ ?_) <;> (first | omega | rfl | assumption | skip)
end Go.Proofs.Ytdiebjnjhgbklaa

namespace Go.Proofs.Ytdiebjnjhgbklaa
open Abs Fil Fil.Sz
def nodeP (e : E) : Bool :=
  if e.op = 1 ∨ e.op = 2 then decide (e.l.length = 0) else if e.op = 3 ∨ e.op = 4 ∨ e.op = 8 then decide (e.l.length = 1)
  else if e.op = 5 then decide (e.l.length = 2) else if e.op = 6 then decide (e.l.length = 3) else if e.op = 7 then decide (1 ≤ e.l.length) else false
theorem rf_parts (e : E) (σ : Sig) (he : nodes e ≤ 16777216) : ACalls Try.prog 75 [encE e] σ (fun r σ' => r = .ret (.bool (nodeP e)) ∧ σ' = σ) := by
  have h1 := encEs_eq e
  have l1 := len_nodes e
  refine calls_x mixed Try.func75 b75 n75 rfl q75 (by simp) ?_; unfold c75 r75
  repeat' (first | simp (maxDischargeDepth := 9) -implicitDefEqProofs -dsimp only [go_sem, seval, ge_iff_le, *] | (with_reducible (first | apply Zf) <;> intro hq))
  all_goals
    refine fin_eq ?_
    (repeat' (first | simp (maxDischargeDepth := 9) -implicitDefEqProofs -dsimp only [go_sem, seval, *])) <;> (repeat' refine And.intro ?_ ?_) <;> (first | omega | rfl | assumption | skip)
  all_goals
    unfold nodeP
    (repeat' split) <;> first | (exfalso; omega) | (rw [Bool.eq_iff_iff]; done) | (rw [Bool.eq_iff_iff]; simp; done) | (rw [Bool.eq_iff_iff]; simp; omega)
def nodeF (g : List Sg) (e : E) : Bool :=
  if e.op = 1 then decide (e.sig = 0 ∧ e.hi = 0 ∧ e.lo = 0 ∧ e.n = 0 ∧ 0 ≤ e.w ∧ e.w ≤ 64) && (decide (e.w = 0) || holds e.w e.v)
  else if e.op = 2 then decide (e.v = 0 ∧ e.n = 0) && place g e.sig e.hi e.lo
  else if e.op = 3 then decide (e.v = 0 ∧ e.hi = 0 ∧ e.lo = 0 ∧ e.n = 0 ∧ 0 ≤ e.sig ∧ e.sig < g.length)
  else if e.op = 4 then decide (e.v = 0 ∧ e.sig = 0 ∧ e.hi = 0 ∧ e.lo = 0 ∧ 1 ≤ e.n ∧ e.n ≤ 6)
  else if e.op = 5 then decide (e.v = 0 ∧ e.sig = 0 ∧ e.hi = 0 ∧ e.lo = 0 ∧ 11 ≤ e.n ∧ e.n ≤ 26)
  else if e.op = 6 then decide (e.v = 0 ∧ e.sig = 0 ∧ e.hi = 0 ∧ e.lo = 0 ∧ e.n = 0)
  else if e.op = 7 then decide (e.v = 0 ∧ e.sig = 0 ∧ e.hi = 0 ∧ e.lo = 0 ∧ e.n = 0)
  else if e.op = 8 then decide (e.v = 0 ∧ e.sig = 0 ∧ e.hi = 0 ∧ e.lo = 0 ∧ 31 ≤ e.n ∧ e.n ≤ 33 ∧ 1 ≤ e.w ∧ e.w ≤ 64)
  else false
theorem node_split (g : List Sg) (e : E) : node g e = (nodeP e && nodeF g e) := by
  unfold node nodeP nodeF
  by_cases h1 : e.op = 1
  · simp only [h1]; simp; rw [Bool.eq_iff_iff]; simp; grind
  by_cases h2 : e.op = 2
  · simp only [h2]; simp; rw [Bool.eq_iff_iff]; simp; grind
  by_cases h3 : e.op = 3
  · simp only [h3]; simp; rw [Bool.eq_iff_iff]; simp; grind
  by_cases h4 : e.op = 4
  · simp only [h4]; simp; rw [Bool.eq_iff_iff]; simp; grind
  by_cases h5 : e.op = 5
  · simp only [h5]; simp; rw [Bool.eq_iff_iff]; simp; grind
  by_cases h6 : e.op = 6
  · simp only [h6]; simp; rw [Bool.eq_iff_iff]; simp; grind
  by_cases h7 : e.op = 7
  · simp only [h7]; simp; rw [Bool.eq_iff_iff]; simp; grind
  by_cases h8 : e.op = 8
  · simp only [h8]; simp; rw [Bool.eq_iff_iff]; simp; grind
  simp [h1, h2, h3, h4, h5, h6, h7, h8]
set_option maxRecDepth 20000 in
set_option maxHeartbeats 1000000 in
theorem rf_fields (g : List Sg) (hg : g.length ≤ 1000000000000) (e : E) (σ : Sig) (hw : WfE e) (hop : 1 ≤ e.op ∧ e.op ≤ 8) : ACalls Try.prog 76 [.slice (g.map encS) .no, encE e] σ (fun r σ' => r = .ret (.bool (nodeF g e)) ∧ σ' = σ) := by
  obtain ⟨⟨w1, w2, w3, w4, w5, w6, w7⟩, w8⟩ := (WfE_iff e).1 hw
  obtain ⟨w2a, w2b⟩ := w2
  obtain ⟨x, hx⟩ : ∃ x, nodeF g e = x := ⟨_, rfl⟩
  clear hw w8
  refine calls_x mixed Try.func76 b76 n76 rfl q76 (by simp) ?_; unfold c76 r76
  by_cases ho1 : e.op = 1
  · obtain ⟨b, hb⟩ : ∃ b, holds e.w e.v = b := ⟨_, rfl⟩
    have hh := fun τ h => rf_Holds e.w e.v τ h w2b w3
    rw [hb] at hh
    have hnf : nodeF g e = true ↔ (e.sig = 0 ∧ e.hi = 0 ∧ e.lo = 0 ∧ e.n = 0 ∧ 0 ≤ e.w ∧ e.w ≤ 64 ∧ (e.w = 0 ∨ b = true)) := by unfold nodeF; simp only [ho1]; simp [hb]; try grind
    rw [hx] at hnf
    clear hb
    cases b
    all_goals
      try simp only [Bool.false_eq_true, or_false, or_true, and_true, and_false, iff_false, Bool.not_eq_true] at hnf
      cases x
      all_goals
        try simp only [Bool.false_eq_true, true_iff, false_iff] at hnf
        repeat' (first | simp (maxDischargeDepth := 9) -implicitDefEqProofs -dsimp only [go_sem, seval, ge_iff_le, *] | (with_reducible (first | apply Za | apply Ze | apply Zh | apply Zi) <;> intro hq) | ((with_reducible apply ACalls.one1); (focus ((first | with_reducible refine hh _ ?_) <;> (first | (simp (maxDischargeDepth := 9) -implicitDefEqProofs -dsimp only [go_sem, seval, *]; done) | omega))); (focus (first | trivial | with_reducible exact rfl | (simp (maxDischargeDepth := 9) -implicitDefEqProofs -dsimp only [go_sem, seval]; done)))))
        all_goals first | (exfalso; omega) | (exfalso; cases hnf; done) | skip
        all_goals
          refine fin_eq ?_
          (repeat' (first | simp (maxDischargeDepth := 9) -implicitDefEqProofs -dsimp only [go_sem, seval, *])) <;> (repeat' refine And.intro ?_ ?_) <;> (first | omega | rfl | assumption | skip)
        all_goals first | (rw [eq_comm, decide_eq_true_iff]; omega) | (rw [eq_comm, decide_eq_false_iff_not]; omega)
  by_cases ho2 : e.op = 2
  · obtain ⟨b, hb⟩ : ∃ b, place g e.sig e.hi e.lo = b := ⟨_, rfl⟩
    have hh := fun τ => rf_place g e.sig e.hi e.lo τ hg
    rw [hb] at hh
    have hnf : nodeF g e = true ↔ (e.v = 0 ∧ e.n = 0 ∧ b = true) := by unfold nodeF; simp only [ho2]; simp [hb]; try grind
    rw [hx] at hnf
    clear hb
    cases b
    all_goals
      try simp only [Bool.false_eq_true, or_false, or_true, and_true, and_false, iff_false, Bool.not_eq_true] at hnf
      cases x
      all_goals
        try simp only [Bool.false_eq_true, true_iff, false_iff] at hnf
        repeat' (first | simp (maxDischargeDepth := 9) -implicitDefEqProofs -dsimp only [go_sem, seval, ge_iff_le, *] | (with_reducible (first | apply Za | apply Ze | apply Zh | apply Zi) <;> intro hq) | ((with_reducible apply ACalls.one1); (focus ((first | with_reducible refine hh _) <;> (first | (simp (maxDischargeDepth := 9) -implicitDefEqProofs -dsimp only [go_sem, seval, *]; done) | omega))); (focus (first | trivial | with_reducible exact rfl | (simp (maxDischargeDepth := 9) -implicitDefEqProofs -dsimp only [go_sem, seval]; done)))))
        all_goals first | (exfalso; omega) | (exfalso; cases hnf; done) | skip
        all_goals
          refine fin_eq ?_
          (repeat' (first | simp (maxDischargeDepth := 9) -implicitDefEqProofs -dsimp only [go_sem, seval, *])) <;> (repeat' refine And.intro ?_ ?_) <;> (first | omega | rfl | assumption | skip)
        all_goals first | (rw [eq_comm, decide_eq_true_iff]; omega) | (rw [eq_comm, decide_eq_false_iff_not]; omega)
  by_cases ho3 : e.op = 3
  · have hnf : nodeF g e = true ↔ (e.v = 0 ∧ e.hi = 0 ∧ e.lo = 0 ∧ e.n = 0 ∧ 0 ≤ e.sig ∧ e.sig < g.length) := by unfold nodeF; simp only [ho3]; simp; try grind
    rw [hx] at hnf
    cases x
    all_goals
      try simp only [Bool.false_eq_true, true_iff, false_iff] at hnf
      repeat' (first | simp (maxDischargeDepth := 9) -implicitDefEqProofs -dsimp only [go_sem, seval, ge_iff_le, *] | (with_reducible (first | apply Za | apply Ze | apply Zh | apply Zi) <;> intro hq))
      all_goals first | (exfalso; omega) | (exfalso; cases hnf; done) | skip
      all_goals
        refine fin_eq ?_
        (repeat' (first | simp (maxDischargeDepth := 9) -implicitDefEqProofs -dsimp only [go_sem, seval, *])) <;> (repeat' refine And.intro ?_ ?_) <;> (first | omega | rfl | assumption | skip)
      all_goals first | (rw [eq_comm, decide_eq_true_iff]; omega) | (rw [eq_comm, decide_eq_false_iff_not]; omega)
  by_cases ho4 : e.op = 4
  · have hnf : nodeF g e = true ↔ (e.v = 0 ∧ e.sig = 0 ∧ e.hi = 0 ∧ e.lo = 0 ∧ 1 ≤ e.n ∧ e.n ≤ 6) := by unfold nodeF; simp only [ho4]; simp; try grind
    rw [hx] at hnf
    cases x
    all_goals
      try simp only [Bool.false_eq_true, true_iff, false_iff] at hnf
      repeat' (first | simp (maxDischargeDepth := 9) -implicitDefEqProofs -dsimp only [go_sem, seval, ge_iff_le, *] | (with_reducible (first | apply Za | apply Ze | apply Zh | apply Zi) <;> intro hq))
      all_goals first | (exfalso; omega) | (exfalso; cases hnf; done) | skip
      all_goals
        refine fin_eq ?_
        (repeat' (first | simp (maxDischargeDepth := 9) -implicitDefEqProofs -dsimp only [go_sem, seval, *])) <;> (repeat' refine And.intro ?_ ?_) <;> (first | omega | rfl | assumption | skip)
      all_goals first | (rw [eq_comm, decide_eq_true_iff]; omega) | (rw [eq_comm, decide_eq_false_iff_not]; omega)
  by_cases ho5 : e.op = 5
  · have hnf : nodeF g e = true ↔ (e.v = 0 ∧ e.sig = 0 ∧ e.hi = 0 ∧ e.lo = 0 ∧ 11 ≤ e.n ∧ e.n ≤ 26) := by unfold nodeF; simp only [ho5]; simp; try grind
    rw [hx] at hnf
    cases x
    all_goals
      try simp only [Bool.false_eq_true, true_iff, false_iff] at hnf
      repeat' (first | simp (maxDischargeDepth := 9) -implicitDefEqProofs -dsimp only [go_sem, seval, ge_iff_le, *] | (with_reducible (first | apply Za | apply Ze | apply Zh | apply Zi) <;> intro hq))
      all_goals first | (exfalso; omega) | (exfalso; cases hnf; done) | skip
      all_goals
        refine fin_eq ?_
        (repeat' (first | simp (maxDischargeDepth := 9) -implicitDefEqProofs -dsimp only [go_sem, seval, *])) <;> (repeat' refine And.intro ?_ ?_) <;> (first | omega | rfl | assumption | skip)
      all_goals first | (rw [eq_comm, decide_eq_true_iff]; omega) | (rw [eq_comm, decide_eq_false_iff_not]; omega)
  by_cases ho6 : e.op = 6
  · have hnf : nodeF g e = true ↔ (e.v = 0 ∧ e.sig = 0 ∧ e.hi = 0 ∧ e.lo = 0 ∧ e.n = 0) := by unfold nodeF; simp only [ho6]; simp; try grind
    rw [hx] at hnf
    cases x
    all_goals
      try simp only [Bool.false_eq_true, true_iff, false_iff] at hnf
      repeat' (first | simp (maxDischargeDepth := 9) -implicitDefEqProofs -dsimp only [go_sem, seval, ge_iff_le, *] | (with_reducible (first | apply Za | apply Ze | apply Zh | apply Zi) <;> intro hq))
      all_goals first | (exfalso; omega) | (exfalso; cases hnf; done) | skip
      all_goals
        refine fin_eq ?_
        (repeat' (first | simp (maxDischargeDepth := 9) -implicitDefEqProofs -dsimp only [go_sem, seval, *])) <;> (repeat' refine And.intro ?_ ?_) <;> (first | omega | rfl | assumption | skip)
      all_goals first | (rw [eq_comm, decide_eq_true_iff]; omega) | (rw [eq_comm, decide_eq_false_iff_not]; omega)
  by_cases ho7 : e.op = 7
  · have hnf : nodeF g e = true ↔ (e.v = 0 ∧ e.sig = 0 ∧ e.hi = 0 ∧ e.lo = 0 ∧ e.n = 0) := by unfold nodeF; simp only [ho7]; simp; try grind
    rw [hx] at hnf
    cases x
    all_goals
      try simp only [Bool.false_eq_true, true_iff, false_iff] at hnf
      repeat' (first | simp (maxDischargeDepth := 9) -implicitDefEqProofs -dsimp only [go_sem, seval, ge_iff_le, *] | (with_reducible (first | apply Za | apply Ze | apply Zh | apply Zi) <;> intro hq))
      all_goals first | (exfalso; omega) | (exfalso; cases hnf; done) | skip
      all_goals
        refine fin_eq ?_
        (repeat' (first | simp (maxDischargeDepth := 9) -implicitDefEqProofs -dsimp only [go_sem, seval, *])) <;> (repeat' refine And.intro ?_ ?_) <;> (first | omega | rfl | assumption | skip)
      all_goals first | (rw [eq_comm, decide_eq_true_iff]; omega) | (rw [eq_comm, decide_eq_false_iff_not]; omega)
  by_cases ho8 : e.op = 8
  · have hnf : nodeF g e = true ↔ (e.v = 0 ∧ e.sig = 0 ∧ e.hi = 0 ∧ e.lo = 0 ∧ 31 ≤ e.n ∧ e.n ≤ 33 ∧ 1 ≤ e.w ∧ e.w ≤ 64) := by unfold nodeF; simp only [ho8]; simp; try grind
    rw [hx] at hnf
    cases x
    all_goals
      try simp only [Bool.false_eq_true, true_iff, false_iff] at hnf
      repeat' (first | simp (maxDischargeDepth := 9) -implicitDefEqProofs -dsimp only [go_sem, seval, ge_iff_le, *] | (with_reducible (first | apply Za | apply Ze | apply Zh | apply Zi) <;> intro hq))
      all_goals first | (exfalso; omega) | (exfalso; cases hnf; done) | skip
      all_goals
        refine fin_eq ?_
        (repeat' (first | simp (maxDischargeDepth := 9) -implicitDefEqProofs -dsimp only [go_sem, seval, *])) <;> (repeat' refine And.intro ?_ ?_) <;> (first | omega | rfl | assumption | skip)
      all_goals first | (rw [eq_comm, decide_eq_true_iff]; omega) | (rw [eq_comm, decide_eq_false_iff_not]; omega)
  exfalso; omega
theorem nodeP_op {e : E} (h : nodeP e = true) : 1 ≤ e.op ∧ e.op ≤ 8 := by
  unfold nodeP at h
  repeat' split at h
  all_goals first | omega | (simp at h)
theorem rf_shapes_step (g : List Sg) (l : List E) (hl : l.length ≤ 1000000000000) (ih : ∀ x ∈ l, ∀ τ, ACalls Try.prog 41 [.slice (g.map encS) .no, encE x] τ (fun r σ' => r = .ret (.bool (shp g x)) ∧ σ' = τ)) (σ : Sig) :
    ACalls Try.prog 77 [.slice (g.map encS) .no, .slice (l.map encE) .no] σ (fun r σ' => r = .ret (.bool (l.all (shp g))) ∧ σ' = σ) := by
  refine calls_x mixed Try.func77 b77 n77 rfl q77 (by simp) ?_; unfold c77 r77
  repeat' (first | simp (maxDischargeDepth := 9) -implicitDefEqProofs -dsimp only [go_sem, seval, *] | simp (disch := omega) only [wrap64] | ((with_reducible refine Zu ?_ ?_); focus omega))
  refine loop_rule (fun i : Nat => [(5, some (.int .i64 i)), (1, some (.slice (l.map encE) .no)), (0, some (.slice (g.map encS) .no))]) (fun _ => σ) (fun i => i ≤ l.length ∧ ∀ j, (h : j < l.length) → j < i → shp g l[j] = true) (fun i => l.length - i) 0 ?_ ?_
  · clear ih
    (repeat' (first | simp (maxDischargeDepth := 9) -implicitDefEqProofs -dsimp only [go_sem, seval, *] | simp (disch := omega) only [wrap64])) <;> (repeat' refine And.intro ?_ ?_) <;> (first | omega | rfl | assumption | skip)
  · rintro i ⟨hi, hok⟩
    by_cases hlt : i < l.length
    · have hc := fun τ => ih l[i] (List.getElem_mem hlt) τ
      obtain ⟨b, hb⟩ : ∃ b, shp g l[i] = b := ⟨_, rfl⟩
      rw [hb] at hc
      cases b with
      | false =>
        have hv : l.all (shp g) = false := by rw [List.all_eq_false]; exact ⟨_, List.getElem_mem hlt, by rw [hb]; simp⟩
        clear ih hok hb
        repeat' (first | simp (maxDischargeDepth := 9) -implicitDefEqProofs -dsimp only [go_sem, seval, *] | simp (disch := omega) only [wrap64] | ((with_reducible refine Zu ?_ ?_); focus omega) | ((with_reducible apply ACalls.one1); (focus ((first | with_reducible refine hc _) <;> (first | (simp (maxDischargeDepth := 9) -implicitDefEqProofs -dsimp only [go_sem, seval, *]; done) | omega))); (focus (first | trivial | with_reducible exact rfl | (simp (maxDischargeDepth := 9) -implicitDefEqProofs -dsimp only [go_sem, seval]; done)))))
        refine fin_eq ?_
        (repeat' (first | simp (maxDischargeDepth := 9) -implicitDefEqProofs -dsimp only [go_sem, seval, *] | simp (disch := omega) only [wrap64])) <;> (repeat' refine And.intro ?_ ?_) <;> (first | omega | rfl | assumption | skip)
      | true =>
        have hn : ∀ j, (h : j < l.length) → j < i + 1 → shp g l[j] = true := fun j h h1 => by
          rcases Nat.lt_or_ge j i with q | q
          · exact hok j h q
          · obtain rfl : j = i := by omega
            exact hb
        clear ih hok hb
        repeat' (first | simp (maxDischargeDepth := 9) -implicitDefEqProofs -dsimp only [go_sem, seval, *] | simp (disch := omega) only [wrap64] | ((with_reducible refine Zu ?_ ?_); focus omega) | ((with_reducible apply ACalls.one1); (focus ((first | with_reducible refine hc _) <;> (first | (simp (maxDischargeDepth := 9) -implicitDefEqProofs -dsimp only [go_sem, seval, *]; done) | omega))); (focus (first | trivial | with_reducible exact rfl | (simp (maxDischargeDepth := 9) -implicitDefEqProofs -dsimp only [go_sem, seval]; done)))))
        refine loop_next _ _ _ _ (i + 1) ?_; (repeat' (first | simp (maxDischargeDepth := 9) -implicitDefEqProofs -dsimp only [go_sem, seval, *] | simp (disch := omega) only [wrap64])) <;> (repeat' refine And.intro ?_ ?_) <;> (first | omega | rfl | assumption | skip)
    · have hv : l.all (shp g) = true := by
        rw [List.all_eq_true]
        intro x hx
        obtain ⟨j, hj, rfl⟩ := List.getElem_of_mem hx
        exact hok j hj (by omega)
      clear ih hok
      repeat' (first | simp (maxDischargeDepth := 9) -implicitDefEqProofs -dsimp only [go_sem, seval, *] | simp (disch := omega) only [wrap64] | ((with_reducible refine Zu ?_ ?_); focus omega))
      refine fin_eq ?_
      (repeat' (first | simp (maxDischargeDepth := 9) -implicitDefEqProofs -dsimp only [go_sem, seval, *] | simp (disch := omega) only [wrap64])) <;> (repeat' refine And.intro ?_ ?_) <;> (first | omega | rfl | assumption | skip)
theorem rf_Shape (g : List Sg) (hg : g.length ≤ 1000000000000) (e : E) : ∀ (σ : Sig), nodes e ≤ 16777216 → WfE e → ACalls Try.prog 41 [.slice (g.map encS) .no, encE e] σ (fun r σ' => r = .ret (.bool (shp g e)) ∧ σ' = σ) := by
  refine E.ind (P := fun e => ∀ (σ : Sig), nodes e ≤ 16777216 → WfE e → ACalls Try.prog 41 [.slice (g.map encS) .no, encE e] σ (fun r σ' => r = .ret (.bool (shp g e)) ∧ σ' = σ)) (fun e ih σ he hw => ?_) e
  have h1 := encEs_eq e
  have l1 := len_nodes e
  have w8 := ((WfE_iff e).1 hw).2
  have hs := shp_eq g e
  rw [node_split] at hs
  have c1 := fun τ => rf_parts e τ he
  have c2 := fun τ h => rf_fields g hg e τ hw h
  have c3 := fun τ => rf_shapes_step g e.l (by omega) (fun x hx τ => ih x hx τ (by have := part_nodes hx; omega) (w8 x hx)) τ
  have hop := nodeP_op (e := e)
  obtain ⟨a, ha⟩ : ∃ a, nodeP e = a := ⟨_, rfl⟩
  obtain ⟨b, hb⟩ : ∃ a, nodeF g e = a := ⟨_, rfl⟩
  rw [ha] at c1 hs hop
  rw [hb] at c2 hs
  clear ih w8 hw ha hb
  refine calls_x mixed Try.func41 b41 n41 rfl q41 (by simp) ?_; unfold c41 r41
  cases a with
  | false =>
    rw [Bool.false_and, Bool.false_and] at hs
    repeat' (first | simp (maxDischargeDepth := 9) -implicitDefEqProofs -dsimp only [go_sem, seval, *] | ((with_reducible apply ACalls.one1); (focus ((first | with_reducible refine c1 _ | with_reducible refine ACalls.flA (c1 _) ?_) <;> (first | (simp (maxDischargeDepth := 9) -implicitDefEqProofs -dsimp only [go_sem, seval, *]; done) | omega))); (focus (first | trivial | with_reducible exact rfl | (simp (maxDischargeDepth := 9) -implicitDefEqProofs -dsimp only [go_sem, seval]; done)))))
    refine fin_eq ?_
    (repeat' (first | simp (maxDischargeDepth := 9) -implicitDefEqProofs -dsimp only [go_sem, seval, *])) <;> (repeat' refine And.intro ?_ ?_) <;> (first | omega | rfl | assumption | skip)
  | true =>
    have hop := hop rfl
    replace c2 := fun τ => c2 τ hop
    rw [Bool.true_and] at hs
    cases b
    · rw [Bool.false_and] at hs
      repeat' (first | simp (maxDischargeDepth := 9) -implicitDefEqProofs -dsimp only [go_sem, seval, *] | ((with_reducible apply ACalls.one1); (focus ((first | with_reducible refine c1 _ | with_reducible refine c2 _ | with_reducible refine ACalls.flA (c1 _) ?_ | with_reducible refine ACalls.flA (c2 _) ?_) <;> (first | (simp (maxDischargeDepth := 9) -implicitDefEqProofs -dsimp only [go_sem, seval, *]; done) | omega))); (focus (first | trivial | with_reducible exact rfl | (simp (maxDischargeDepth := 9) -implicitDefEqProofs -dsimp only [go_sem, seval]; done)))))
      refine fin_eq ?_
      (repeat' (first | simp (maxDischargeDepth := 9) -implicitDefEqProofs -dsimp only [go_sem, seval, *])) <;> (repeat' refine And.intro ?_ ?_) <;> (first | omega | rfl | assumption | skip)
    · rw [Bool.true_and] at hs
      repeat' (first | simp (maxDischargeDepth := 9) -implicitDefEqProofs -dsimp only [go_sem, seval, *] | ((with_reducible apply ACalls.one1); (focus ((first | with_reducible refine c1 _ | with_reducible refine c2 _ | with_reducible refine c3 _ | with_reducible refine ACalls.flA (c1 _) ?_ | with_reducible refine ACalls.flA (c2 _) ?_ | with_reducible refine ACalls.flA (c3 _) ?_) <;> (first | (simp (maxDischargeDepth := 9) -implicitDefEqProofs -dsimp only [go_sem, seval, *]; done) | omega))); (focus (first | trivial | with_reducible exact rfl | (simp (maxDischargeDepth := 9) -implicitDefEqProofs -dsimp only [go_sem, seval]; done)))))
      refine fin_eq ?_
      (repeat' (first | simp (maxDischargeDepth := 9) -implicitDefEqProofs -dsimp only [go_sem, seval, *])) <;> (repeat' refine And.intro ?_ ?_) <;> (first | omega | rfl | assumption | skip)
end Go.Proofs.Ytdiebjnjhgbklaa

namespace Fil.Sz
open Abs
theorem fst0_at {α : Type} {f : α → Int} : ∀ {l : List α} {i : Nat} (h : i < l.length), (∀ j, (hj : j < i) → f (l[j]'(by omega)) = 0) → f l[i] ≠ 0 → fst0 (l.map f) = f l[i]
  | [], _, h, _, _ => by simp at h
  | a :: l, 0, _, _, hn => by simp only [List.getElem_cons_zero] at hn ⊢; simp [fst0, hn]
  | a :: l, i + 1, h, hz, hn => by
    have h0 := hz 0 (by omega)
    simp only [List.getElem_cons_zero] at h0
    simp only [List.map_cons, fst0, h0, if_true, List.getElem_cons_succ]
    exact fst0_at (l := l) (i := i) (by simpa using h) (fun j hj => by have := hz (j + 1) (by omega); simpa using this) (by simpa using hn)
theorem fst0_none {α : Type} {f : α → Int} {l : List α} (h : ∀ j, (hj : j < l.length) → f l[j] = 0) : fst0 (l.map f) = 0 :=
  fst0_zero fun a ha => by
    obtain ⟨x, hx, rfl⟩ := List.mem_map.1 ha
    obtain ⟨j, hj, rfl⟩ := List.getElem_of_mem hx
    exact h j hj
def sumI {α : Type} (f : α → Int) (l : List α) (i : Nat) : Int := ((l.take i).map f).sum
theorem sumI_zero {α : Type} {f : α → Int} {l : List α} : sumI f l 0 = 0 := by simp [sumI]
theorem sumI_succ {α : Type} {f : α → Int} {l : List α} {i : Nat} (h : i < l.length) : sumI f l (i + 1) = sumI f l i + f l[i] := by
  unfold sumI
  rw [List.take_add_one, List.getElem?_eq_getElem h, List.map_append, List.sum_append, Option.toList_some, List.map_cons, List.map_nil, List.sum_cons, List.sum_nil, Int.add_zero]
theorem sumI_all {α : Type} {f : α → Int} {l : List α} : sumI f l l.length = (l.map f).sum := by simp [sumI]
theorem sumI_bounds {l : List E} {f : E → Int} (h0 : ∀ x ∈ l, 0 ≤ f x) (h : ∀ x ∈ l, f x ≤ 64 * nodes x) (i : Nat) : 0 ≤ sumI f l i ∧ sumI f l i ≤ 64 * ((l.map nodes).sum : Nat) := by
  unfold sumI
  refine ⟨sum_nonneg fun a ha => ?_, ?_⟩
  · obtain ⟨x, hx, rfl⟩ := List.mem_map.1 ha
    exact h0 x (List.mem_of_mem_take hx)
  · have h1 := sum_le (l := l.take i) (f := f) fun x hx => h x (List.mem_of_mem_take hx)
    have h2 : sumTo nodes l i ≤ (l.map nodes).sum := sumTo_le
    unfold sumTo at h2
    omega
theorem cat0_zero {l : List E} {f : E → Int} {x : E} (hx : x ∈ l) (h : f x = 0) : cat0 (l.map f) = 0 := by
  unfold cat0; rw [if_pos (List.mem_map.2 ⟨x, hx, h⟩)]
theorem cat0_sum {l : List E} {f : E → Int} (h : ∀ j, (hj : j < l.length) → ¬ f l[j] = 0) : cat0 (l.map f) = (l.map f).sum := by
  unfold cat0
  rw [if_neg]
  intro hm
  obtain ⟨x, hx, e⟩ := List.mem_map.1 hm
  obtain ⟨j, hj, rfl⟩ := List.getElem_of_mem hx
  exact h j hj e
theorem headD_get {α : Type} {f : α → Int} {l : List α} (h : 0 < l.length) : (l.map f).headD 0 = f l[0] := by
  cases l with
  | nil => simp at h
  | cons a l => rfl
theorem fst0_two {α : Type} {f : α → Int} {l : List α} (h : l.length = 2) : fst0 (l.map f) = if f l[0] = 0 then f l[1] else f l[0] := by
  obtain ⟨a, b, rfl⟩ := len2 h
  simp only [List.map_cons, List.map_nil, fst0, List.getElem_cons_zero, List.getElem_cons_succ]
  split
  · split <;> simp_all
  · rfl
end Fil.Sz

