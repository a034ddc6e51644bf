/- sized: contracts: expressions sized. -/
import Derived.Test.YtdiebjnjhgbklaaOSzOwn
set_option linter.unusedSimpArgs false
set_option linter.unusedVariables false
namespace Go.Proofs.Ytdiebjnjhgbklaa
open Abs Fil Fil.Sz
theorem sz_told (w o : Int) (σ : Sig) : ACalls Try.prog 73 [.int .i64 w, .int .i64 o] σ (fun r σ' => r = .ret (.int .i64 (told w o)) ∧ σ' = σ) := by
  refine calls_x mixed Try.func73 b73 n73 rfl q73 (by simp) ?_; unfold c73 r73
  repeat' (first | simp (maxDischargeDepth := 9) -implicitDefEqProofs -dsimp only [go_sem, seval, *] | (with_reducible (first | apply Zf) <;> intro hq))
  all_goals
    have hv : told w o = if w = 0 then o else w := rfl
    refine fin_eq ?_
    (repeat' (first | simp (maxDischargeDepth := 9) -implicitDefEqProofs -dsimp only [go_sem, seval, if_true, if_false, *])) <;> (repeat' refine And.intro ?_ ?_) <;> (first | omega | rfl | assumption | skip)
theorem sz_first_step (l : List E) (hl : l.length ≤ 1000000000000) (ih : ∀ x ∈ l, ∀ τ, ACalls Try.prog 72 [encE x] τ (fun r σ' => r = .ret (.int .i64 (own x)) ∧ σ' = τ)) (σ : Sig) :
    ACalls Try.prog 96 [.slice (l.map encE) .no] σ (fun r σ' => r = .ret (.int .i64 (fst0 (l.map own))) ∧ σ' = σ) := by
  refine calls_x mixed Try.func96 b96 n96 rfl q96 (by simp) ?_; unfold c96 r96
  repeat' (first | simp (maxDischargeDepth := 9) -implicitDefEqProofs -dsimp only [go_sem, seval, *] | simp (disch := omega) only [wrap64] | ((with_reducible refine Zu ?_ ?_); focus omega) | ((with_reducible refine Zt (fun oF hoF hnF hnF' => ?_)); (try simp only [upd_none, ne_eq, not_and] at hoF)))
  refine loop_rule (fun i : Nat => [(8, some (.int .i64 i)), (7, some (.int .i64 l.length)), (6, some (.slice (l.map encE) .no))]) (fun _ => σ) (fun i => i ≤ l.length ∧ ∀ j, (h : j < l.length) → j < i → own l[j] = 0) (fun i => l.length - i) 0 ?_ ?_
  · clear ih
    (repeat' (first | simp (maxDischargeDepth := 9) -implicitDefEqProofs -dsimp only [go_sem, seval, *] | simp (disch := omega) only [wrap64])) <;> (repeat' refine And.intro ?_ ?_) <;> (first | omega | rfl | assumption | skip)
  · rintro i ⟨hi, hok⟩
    by_cases hlt : i < l.length
    · have hc := fun τ => ih l[i] (List.getElem_mem hlt) τ
      obtain ⟨w, hw⟩ : ∃ w, own l[i] = w := ⟨_, rfl⟩
      rw [hw] at hc
      by_cases hz : w = 0
      · have hn : ∀ j, (h : j < l.length) → j < i + 1 → own l[j] = 0 := fun j h h1 => by
          rcases Nat.lt_or_ge j i with q | q
          · exact hok j h q
          · obtain rfl : j = i := by omega
            rw [hw, hz]
        subst hz
        clear ih hok hw
        repeat' (first | simp (maxDischargeDepth := 9) -implicitDefEqProofs -dsimp only [go_sem, seval, *] | simp (disch := omega) only [wrap64] | ((with_reducible refine Zu ?_ ?_); focus omega) | ((with_reducible refine Zt (fun oF hoF hnF hnF' => ?_)); (try simp only [upd_none, ne_eq, not_and] at hoF)) | ((with_reducible apply ACalls.one1); (focus ((first | with_reducible refine hc _) <;> (first | (simp (maxDischargeDepth := 9) -implicitDefEqProofs -dsimp only [go_sem, seval, *]; done) | omega))); (focus (first | trivial | with_reducible exact rfl | (simp (maxDischargeDepth := 9) -implicitDefEqProofs -dsimp only [go_sem, seval]; done)))))
        refine loop_next _ _ _ _ (i + 1) ?_; (repeat' (first | simp (maxDischargeDepth := 9) -implicitDefEqProofs -dsimp only [go_sem, seval, *] | simp (disch := omega) only [wrap64])) <;> (repeat' refine And.intro ?_ ?_) <;> (first | omega | rfl | assumption | skip)
      · have hv := fst0_at (f := own) hlt (fun j hj => hok j (by omega) hj) (by rw [hw]; exact hz)
        rw [hw] at hv
        have hb : (w != 0) = true := by simpa using hz
        clear ih hok hw
        repeat' (first | simp (maxDischargeDepth := 9) -implicitDefEqProofs -dsimp only [go_sem, seval, *] | simp (disch := omega) only [wrap64] | ((with_reducible refine Zu ?_ ?_); focus omega) | ((with_reducible refine Zt (fun oF hoF hnF hnF' => ?_)); (try simp only [upd_none, ne_eq, not_and] at hoF)) | ((with_reducible apply ACalls.one1); (focus ((first | with_reducible refine hc _) <;> (first | (simp (maxDischargeDepth := 9) -implicitDefEqProofs -dsimp only [go_sem, seval, *]; done) | omega))); (focus (first | trivial | with_reducible exact rfl | (simp (maxDischargeDepth := 9) -implicitDefEqProofs -dsimp only [go_sem, seval]; done)))))
        refine fin_eq ?_
        (repeat' (first | simp (maxDischargeDepth := 9) -implicitDefEqProofs -dsimp only [go_sem, seval, *] | simp (disch := omega) only [wrap64])) <;> (repeat' refine And.intro ?_ ?_) <;> (first | omega | rfl | assumption | skip)
    · have hv := fst0_none (f := own) fun j hj => hok j hj (by omega)
      clear ih hok
      repeat' (first | simp (maxDischargeDepth := 9) -implicitDefEqProofs -dsimp only [go_sem, seval, *] | simp (disch := omega) only [wrap64] | ((with_reducible refine Zu ?_ ?_); focus omega) | ((with_reducible refine Zt (fun oF hoF hnF hnF' => ?_)); (try simp only [upd_none, ne_eq, not_and] at hoF)))
      refine fin_eq ?_
      (repeat' (first | simp (maxDischargeDepth := 9) -implicitDefEqProofs -dsimp only [go_sem, seval, *] | simp (disch := omega) only [wrap64])) <;> (repeat' refine And.intro ?_ ?_) <;> (first | omega | rfl | assumption | skip)
set_option maxRecDepth 20000 in
set_option maxHeartbeats 1000000 in
theorem sz_own (g : List Sg) (hg : SgOk g) (e : E) : ∀ (σ : Sig), shp g e = true → nodes e ≤ 16777216 → ACalls Try.prog 72 [encE e] σ (fun r σ' => r = .ret (.int .i64 (own e)) ∧ σ' = σ) := by
  refine E.ind (P := fun e => ∀ (σ : Sig), shp g e = true → nodes e ≤ 16777216 → ACalls Try.prog 72 [encE e] σ (fun r σ' => r = .ret (.int .i64 (own e)) ∧ σ' = σ)) (fun e ih σ hs he => ?_) e
  have h1 := encEs_eq e
  have l1 := len_nodes e
  have hE := fun (x : E) (hx : x ∈ e.l) τ => ih x hx τ (shp_part hs hx) (by have := part_nodes hx; omega)
  have hfst := fun τ => sz_first_step e.l (by omega) hE τ
  have hfst1 := fun τ => sz_first_step (e.l.drop 1) (by rw [List.length_drop]; omega) (fun x hx τ => hE x (List.mem_of_mem_drop hx) τ) τ
  clear ih
  have hnd := shp_nd hs
  cases hnd with
  | num ho => 
    have hv := own1 ho
    clear hE hfst hfst1
    refine calls_x mixed Try.func72 b72 n72 rfl q72 (by simp) ?_; unfold c72 r72
    repeat' (first | simp (maxDischargeDepth := 9) -implicitDefEqProofs -dsimp only [go_sem, seval, *] | simp (disch := omega) only [wrap64] | (with_reducible (first | apply Zc) <;> intro hq) | ((with_reducible refine Zu ?_ ?_); focus omega) | ((with_reducible refine Zt (fun oF hoF hnF hnF' => ?_)); (try simp only [upd_none, ne_eq, not_and] at hoF)))
    refine fin_eq ?_
    (repeat' (first | simp (maxDischargeDepth := 9) -implicitDefEqProofs -dsimp only [go_sem, seval, *] | simp (disch := omega) only [wrap64])) <;> (repeat' refine And.intro ?_ ?_) <;> (first | omega | rfl | assumption | skip)
  | ext ho =>
    have hv := own8 ho
    clear hE hfst hfst1
    refine calls_x mixed Try.func72 b72 n72 rfl q72 (by simp) ?_; unfold c72 r72
    repeat' (first | simp (maxDischargeDepth := 9) -implicitDefEqProofs -dsimp only [go_sem, seval, *] | simp (disch := omega) only [wrap64] | (with_reducible (first | apply Zc) <;> intro hq) | ((with_reducible refine Zu ?_ ?_); focus omega) | ((with_reducible refine Zt (fun oF hoF hnF hnF' => ?_)); (try simp only [upd_none, ne_eq, not_and] at hoF)))
    refine fin_eq ?_
    (repeat' (first | simp (maxDischargeDepth := 9) -implicitDefEqProofs -dsimp only [go_sem, seval, *] | simp (disch := omega) only [wrap64])) <;> (repeat' refine And.intro ?_ ?_) <;> (first | omega | rfl | assumption | skip)
  | sig ho h2 h3 h4 h5 =>
    have hv := own2 ho
    obtain ⟨p1, p2, p3⟩ := place_bits hg h5
    clear hE hfst hfst1
    refine calls_x mixed Try.func72 b72 n72 rfl q72 (by simp) ?_; unfold c72 r72
    repeat' (first | simp (maxDischargeDepth := 9) -implicitDefEqProofs -dsimp only [go_sem, seval, *] | simp (disch := omega) only [wrap64] | (with_reducible (first | apply Zc) <;> intro hq) | ((with_reducible refine Zu ?_ ?_); focus omega) | ((with_reducible refine Zt (fun oF hoF hnF hnF' => ?_)); (try simp only [upd_none, ne_eq, not_and] at hoF)))
    refine fin_eq ?_
    (repeat' (first | simp (maxDischargeDepth := 9) -implicitDefEqProofs -dsimp only [go_sem, seval, *] | simp (disch := omega) only [wrap64])) <;> (repeat' refine And.intro ?_ ?_) <;> (first | omega | rfl | assumption | skip)
  | idx ho =>
    have hv := own3 ho
    clear hE hfst hfst1
    refine calls_x mixed Try.func72 b72 n72 rfl q72 (by simp) ?_; unfold c72 r72
    repeat' (first | simp (maxDischargeDepth := 9) -implicitDefEqProofs -dsimp only [go_sem, seval, *] | simp (disch := omega) only [wrap64] | (with_reducible (first | apply Zc) <;> intro hq) | ((with_reducible refine Zu ?_ ?_); focus omega) | ((with_reducible refine Zt (fun oF hoF hnF hnF' => ?_)); (try simp only [upd_none, ne_eq, not_and] at hoF)))
    refine fin_eq ?_
    (repeat' (first | simp (maxDischargeDepth := 9) -implicitDefEqProofs -dsimp only [go_sem, seval, *] | simp (disch := omega) only [wrap64])) <;> (repeat' refine And.intro ?_ ?_) <;> (first | omega | rfl | assumption | skip)
  | un ho h2 h3 h4 h5 a h6 h7 h8 =>
    have hv := own4 ho
    have hle : 0 < e.l.length := by rw [h6]; simp
    have hle2 : (0 : Int) < e.l.length := by omega
    rw [headD_get hle] at hv
    have hc := fun τ => hE e.l[0] (List.getElem_mem hle) τ
    clear hE hfst hfst1 h6
    refine calls_x mixed Try.func72 b72 n72 rfl q72 (by simp) ?_; unfold c72 r72
    repeat' (first | simp (maxDischargeDepth := 9) -implicitDefEqProofs -dsimp only [go_sem, seval, *] | simp (disch := omega) only [wrap64] | (with_reducible (first | apply Zc) <;> intro hq) | ((with_reducible refine Zu ?_ ?_); focus omega) | ((with_reducible refine Zt (fun oF hoF hnF hnF' => ?_)); (try simp only [upd_none, ne_eq, not_and] at hoF)) | ((with_reducible apply ACalls.one1); (focus ((first | with_reducible refine hc _) <;> (first | (simp (maxDischargeDepth := 9) -implicitDefEqProofs -dsimp only [go_sem, seval, *]; done) | omega))); (focus (first | trivial | with_reducible exact rfl | (simp (maxDischargeDepth := 9) -implicitDefEqProofs -dsimp only [go_sem, seval]; done)))))
    all_goals
      refine fin_eq ?_
      (repeat' (first | simp (maxDischargeDepth := 9) -implicitDefEqProofs -dsimp only [go_sem, seval, if_true, if_false, *] | simp (disch := omega) only [wrap64])) <;> (repeat' refine And.intro ?_ ?_) <;> (first | omega | rfl | assumption | skip)
  | bin ho h2 h3 h4 h5 a b h6 h7 h8 =>
    have hv := own5 ho
    have hle : 0 < e.l.length := by rw [h6]; simp
    have hle2 : (0 : Int) < e.l.length := by omega
    rw [headD_get hle] at hv
    have hc := fun τ => hE e.l[0] (List.getElem_mem hle) τ
    clear hE hfst1 h6
    refine calls_x mixed Try.func72 b72 n72 rfl q72 (by simp) ?_; unfold c72 r72
    repeat' (first | simp (maxDischargeDepth := 9) -implicitDefEqProofs -dsimp only [go_sem, seval, *] | simp (disch := omega) only [wrap64] | (with_reducible (first | apply Zc) <;> intro hq) | ((with_reducible refine Zu ?_ ?_); focus omega) | ((with_reducible refine Zt (fun oF hoF hnF hnF' => ?_)); (try simp only [upd_none, ne_eq, not_and] at hoF)) | ((with_reducible apply ACalls.one1); (focus ((first | with_reducible refine hc _ | with_reducible refine hfst _) <;> (first | (simp (maxDischargeDepth := 9) -implicitDefEqProofs -dsimp only [go_sem, seval, *]; done) | omega))); (focus (first | trivial | with_reducible exact rfl | (simp (maxDischargeDepth := 9) -implicitDefEqProofs -dsimp only [go_sem, seval]; done)))))
    all_goals
      refine fin_eq ?_
      (repeat' (first | simp (maxDischargeDepth := 9) -implicitDefEqProofs -dsimp only [go_sem, seval, if_true, if_false, *] | simp (disch := omega) only [wrap64])) <;> (repeat' refine And.intro ?_ ?_) <;> (first | omega | rfl | assumption | skip)
  | cond ho h2 h3 h4 h5 h7 a b c h6 =>
    have hv := own6 ho
    rw [← List.map_drop] at hv
    have hle : e.l.length = 3 := by rw [h6]; rfl
    have hdm : List.drop 1 (List.take 3 (e.l.map encE)) = (e.l.drop 1).map encE := by rw [h6]; rfl
    clear hE hfst h6
    refine calls_x mixed Try.func72 b72 n72 rfl q72 (by simp) ?_; unfold c72 r72
    repeat' (first | simp (maxDischargeDepth := 9) -implicitDefEqProofs -dsimp only [go_sem, seval, *] | simp (disch := omega) only [wrap64] | (with_reducible (first | apply Zc) <;> intro hq) | ((with_reducible refine Zu ?_ ?_); focus omega) | ((with_reducible refine Zt (fun oF hoF hnF hnF' => ?_)); (try simp only [upd_none, ne_eq, not_and] at hoF)) | ((with_reducible apply ACalls.one1); (focus ((first | with_reducible refine hfst1 _) <;> (first | (simp (maxDischargeDepth := 9) -implicitDefEqProofs -dsimp only [go_sem, seval, *]; done) | omega))); (focus (first | trivial | with_reducible exact rfl | (simp (maxDischargeDepth := 9) -implicitDefEqProofs -dsimp only [go_sem, seval]; done)))))
    refine fin_eq ?_
    (repeat' (first | simp (maxDischargeDepth := 9) -implicitDefEqProofs -dsimp only [go_sem, seval, *] | simp (disch := omega) only [wrap64])) <;> (repeat' refine And.intro ?_ ?_) <;> (first | omega | rfl | assumption | skip)
  | cat ho h2 h3 h4 h5 h7 h6 =>
    have hv := own7 ho
    have hon := fun (x : E) (hx : x ∈ e.l) => own_nonneg hg x (shp_part hs hx)
    have hol := fun (x : E) (hx : x ∈ e.l) => own_le hg x (shp_part hs hx)
    have hsb := sumI_bounds hon hol
    have hns := nodes_eq e
    have hz := fun (x : E) (hx : x ∈ e.l) (h : own x = 0) => cat0_zero (f := own) hx h
    clear hfst hfst1 hon hol
    refine calls_x mixed Try.func72 b72 n72 rfl q72 (by simp) ?_; unfold c72 r72
    repeat' (first | simp (maxDischargeDepth := 9) -implicitDefEqProofs -dsimp only [go_sem, seval, *] | simp (disch := omega) only [wrap64] | (with_reducible (first | apply Zc) <;> intro hq) | ((with_reducible refine Zu ?_ ?_); focus omega) | ((with_reducible refine Zt (fun oF hoF hnF hnF' => ?_)); (try simp only [upd_none, ne_eq, not_and] at hoF)))
    refine loop_rule (fun i : Nat => [(27, some (.int .i64 i)), (26, some (.int .i64 e.l.length)), (25, some (.slice (e.l.map encE) .no)), (3, some (.int .i64 (sumI own e.l i)))]) (fun _ => σ) (fun i => i ≤ e.l.length ∧ ∀ j, (h : j < e.l.length) → j < i → ¬ own e.l[j] = 0) (fun i => e.l.length - i) 0 ?_ ?_
    · clear hE hsb hz
      have e0 := sumI_zero (f := own) (l := e.l)
      (repeat' (first | simp (maxDischargeDepth := 9) -implicitDefEqProofs -dsimp only [go_sem, seval, *] | simp (disch := omega) only [wrap64])) <;> (repeat' refine And.intro ?_ ?_) <;> (first | omega | rfl | assumption | skip)
    · rintro i ⟨hi, hok⟩
      obtain ⟨s1, s2⟩ := hsb i
      by_cases hlt : i < e.l.length
      · have hc := fun τ => hE e.l[i] (List.getElem_mem hlt) τ
        have hss := sumI_succ (f := own) hlt
        obtain ⟨t1, t2⟩ := hsb (i + 1)
        by_cases hw : own e.l[i] = 0
        · rw [hz _ (List.getElem_mem hlt) hw] at hv
          rw [hw] at hc
          clear hE hok hsb hz hw hss
          repeat' (first | simp (maxDischargeDepth := 9) -implicitDefEqProofs -dsimp only [go_sem, seval, *] | simp (disch := omega) only [wrap64] | (with_reducible (first | apply Zc) <;> intro hq) | ((with_reducible refine Zu ?_ ?_); focus omega) | ((with_reducible refine Zt (fun oF hoF hnF hnF' => ?_)); (try simp only [upd_none, ne_eq, not_and] at hoF)) | ((with_reducible apply ACalls.one1); (focus ((first | with_reducible refine hc _) <;> (first | (simp (maxDischargeDepth := 9) -implicitDefEqProofs -dsimp only [go_sem, seval, *]; done) | omega))); (focus (first | trivial | with_reducible exact rfl | (simp (maxDischargeDepth := 9) -implicitDefEqProofs -dsimp only [go_sem, seval]; done)))))
          refine fin_eq ?_
          (repeat' (first | simp (maxDischargeDepth := 9) -implicitDefEqProofs -dsimp only [go_sem, seval, *] | simp (disch := omega) only [wrap64])) <;> (repeat' refine And.intro ?_ ?_) <;> (first | omega | rfl | assumption | skip)
        · have hn : ∀ j, (h : j < e.l.length) → j < i + 1 → ¬ own e.l[j] = 0 := fun j h h1 => by
            rcases Nat.lt_or_ge j i with q | q
            · exact hok j h q
            · obtain rfl : j = i := by omega
              exact hw
          have hwb : (own e.l[i] == 0) = false := by simpa using hw
          clear hE hok hsb hz
          repeat' (first | simp (maxDischargeDepth := 9) -implicitDefEqProofs -dsimp only [go_sem, seval, *] | simp (disch := omega) only [wrap64] | (with_reducible (first | apply Zc) <;> intro hq) | ((with_reducible refine Zu ?_ ?_); focus omega) | ((with_reducible refine Zt (fun oF hoF hnF hnF' => ?_)); (try simp only [upd_none, ne_eq, not_and] at hoF)) | ((with_reducible apply ACalls.one1); (focus ((first | with_reducible refine hc _) <;> (first | (simp (maxDischargeDepth := 9) -implicitDefEqProofs -dsimp only [go_sem, seval, *]; done) | omega))); (focus (first | trivial | with_reducible exact rfl | (simp (maxDischargeDepth := 9) -implicitDefEqProofs -dsimp only [go_sem, seval]; done)))))
          refine loop_next _ _ _ _ (i + 1) ?_; (repeat' (first | simp (maxDischargeDepth := 9) -implicitDefEqProofs -dsimp only [go_sem, seval, *] | simp (disch := omega) only [wrap64])) <;> (repeat' refine And.intro ?_ ?_) <;> (first | omega | rfl | assumption | skip)
      · have ei : i = e.l.length := by omega
        subst ei
        rw [cat0_sum fun j hj => hok j hj hj] at hv
        rw [sumI_all]
        clear hE hok hsb hz
        repeat' (first | simp (maxDischargeDepth := 9) -implicitDefEqProofs -dsimp only [go_sem, seval, *] | simp (disch := omega) only [wrap64] | (with_reducible (first | apply Zc) <;> intro hq) | ((with_reducible refine Zu ?_ ?_); focus omega) | ((with_reducible refine Zt (fun oF hoF hnF hnF' => ?_)); (try simp only [upd_none, ne_eq, not_and] at hoF)))
        refine fin_eq ?_
        (repeat' (first | simp (maxDischargeDepth := 9) -implicitDefEqProofs -dsimp only [go_sem, seval, *] | simp (disch := omega) only [wrap64])) <;> (repeat' refine And.intro ?_ ?_) <;> (first | omega | rfl | assumption | skip)
theorem sz_first (g : List Sg) (hg : SgOk g) (l : List E) (hs : ∀ x ∈ l, shp g x = true) (hn : (l.map nodes).sum ≤ 16777216) (σ : Sig) :
    ACalls Try.prog 96 [.slice (l.map encE) .no] σ (fun r σ' => r = .ret (.int .i64 (fst0 (l.map own))) ∧ σ' = σ) :=
  sz_first_step l (by have := len_sum nodes_pos l; omega) (fun x hx τ => sz_own g hg x τ (hs x hx) (by have := mem_sum (f := nodes) hx; omega)) σ
end Go.Proofs.Ytdiebjnjhgbklaa

namespace Abs
open Go
def frzB (o n : Nat) (l : List AV) (a b : AV) : Prop := b = .vec o n ∧ (a = .slice l (.own o) ∨ a = .slice l .no)
theorem frzB_plain (o n : Nat) (l : List AV) : PlainB (frzB o n l) := fun a b ⟨h1, h2⟩ => by
  subst h1
  rcases h2 with rfl | rfl <;> exact ⟨rfl, rfl⟩
theorem view_frz {σ : Sig} {o sz n : Nat} {cs l : List AV} (h : σ o = some (.vec sz n cs)) (hf : flat l = cs) (hl : l.length = n) (hall : ∀ x ∈ l, (cellsA x).length = sz) :
    View (Lift (frzB o n l)) (upd σ o (.grow sz n)) σ := fun S K w hS hs => by
  obtain ⟨e0, h1, h2⟩ := hs.live o _ h
  cases e0 <;> simp only [ObjSat] at h2
  rename_i b cap sz' n'
  obtain ⟨rfl, rfl, h3⟩ := h2
  obtain ⟨K', k1, k2, k3⟩ := hs.freeze h h1 hf hl hall S
  refine ⟨K', k1, k3, fun a0 a v hab hr => ?_⟩
  refine Rel.lift (frzB_plain o _ l) k1.le (fun x y v ⟨e1, e2⟩ hr => ?_) hab hr
  subst e1
  obtain ⟨b', cap', rfl, hown, _⟩ := vec_at hs h hr
  rw [h1] at hown
  simp only [Option.some.injEq, Own.vec.injEq] at hown
  obtain ⟨rfl, rfl, _, _⟩ := hown
  rcases e2 with rfl | rfl
  · exact k2
  · exact Rel.lift (nilB_plain (fun _ => none)) (Gh.le.refl K') (fun a b v ⟨o, sz, _, _, h3⟩ hr => by simp at h3) (.slice l l .no (.own o) (.inl rfl) rfl fun i _ _ => .refl _) k2
theorem flat_map_len {α : Type} (e : α → AV) (sz : Nat) (he : ∀ x, (cellsA (e x)).length = sz) : ∀ l : List α, (flat (l.map e)).length = l.length * sz
  | [] => by simp [flat]
  | x :: l => by
    have := flat_map_len e sz he l
    simp only [List.map_cons, flat_cons, List.length_append, he, this, List.length_cons]
    rw [Nat.succ_mul]; omega
theorem fin_frz {R : ARes → Sig → Prop} {v v0 v1 : AV} {σ τ : Sig} (o : Nat) {sz n : Nat} {cs l : List AV} (h : σ o = some (.vec sz n cs)) (hf : flat l = cs) (hl : l.length = n) (hall : ∀ x ∈ l, (cellsA x).length = sz)
    (hv : Lift (frzB o n l) v1 v) (hv0 : FL (upd σ o (.grow sz n)) v0 v1) (hs : SubX [] τ (upd σ o (.grow sz n))) (hR : R (.ret v0) τ) : fin R v σ :=
  ⟨v0, τ, Vr.comp (vr_of hv0 hs) ⟨_, view_frz h hf hl hall, hv⟩, hR⟩
structure Fr4 (σ : Sig) (a b c d : Nat) : Prop where
  ha : σ a = none
  hb : σ b = none
  hc : σ c = none
  hd : σ d = none
  ab : ¬ a = b
  ba : ¬ b = a
  ac : ¬ a = c
  ca : ¬ c = a
  ad : ¬ a = d
  da : ¬ d = a
  bc : ¬ b = c
  cb : ¬ c = b
  bd : ¬ b = d
  db : ¬ d = b
  cd : ¬ c = d
  dc : ¬ d = c
theorem Fr4.old {σ : Sig} {a b c d : Nat} (h : Fr4 σ a b c d) : ∀ o, ¬ σ o = none → ¬ o = a ∧ ¬ a = o ∧ ¬ o = b ∧ ¬ b = o ∧ ¬ o = c ∧ ¬ c = o ∧ ¬ o = d ∧ ¬ d = o := fun o ho =>
  ⟨fun e => ho (e ▸ h.ha), fun e => ho (e ▸ h.ha), fun e => ho (e ▸ h.hb), fun e => ho (e ▸ h.hb), fun e => ho (e ▸ h.hc), fun e => ho (e ▸ h.hc), fun e => ho (e ▸ h.hd), fun e => ho (e ▸ h.hd)⟩
end Abs

namespace Fil.Sz
open Abs
theorem runL_ok : ∀ (es : List E) (ws : List Int), es.length = ws.length → (runL (es.map size) ws).2 = 0 →
    ∃ h : (runL (es.map size) ws).1.length = es.length, ∀ i, (h1 : i < es.length) → (h2 : i < ws.length) → size es[i] ws[i] = ((runL (es.map size) ws).1[i]'(by omega), 0)
  | [], [], _, _ => ⟨rfl, fun i h => by simp at h⟩
  | a :: es, w :: ws, hl, h => by
    simp only [List.map_cons, runL] at h ⊢
    by_cases h1 : (size a w).2 ≠ 0
    · rw [if_pos h1] at h; exact (h1 h).elim
    · rw [if_neg h1] at h
      by_cases h2 : (runL (es.map size) ws).2 ≠ 0
      · rw [if_pos h2] at h; exact (h2 h).elim
      · obtain ⟨k1, k2⟩ := runL_ok es ws (by simpa using hl) (by simpa using h2)
        simp only [h1, h2, if_false]
        refine ⟨by simp [k1], fun i q1 q2 => ?_⟩
        match i, q1, q2 with
        | 0, _, _ => 
          have : (size a w).2 = 0 := by simpa using h1
          simp only [List.getElem_cons_zero]
          rw [← this]
        | i + 1, q1, q2 => simpa using k2 i (by simpa using q1) (by simpa using q2)
theorem runL_of : ∀ (es : List E) (ws : List Int) (xs : List E), es.length = ws.length → xs.length = es.length →
    (∀ i, (h1 : i < es.length) → (h2 : i < ws.length) → (h3 : i < xs.length) → size es[i] ws[i] = (xs[i], 0)) → runL (es.map size) ws = (xs, 0)
  | [], [], [], _, _, _ => rfl
  | a :: es, w :: ws, x :: xs, hl, hx, h => by
    have h0 := h 0 (by simp) (by simp) (by simp)
    simp only [List.getElem_cons_zero] at h0
    have ih := runL_of es ws xs (by simpa using hl) (by simpa using hx) fun i h1 h2 h3 => by
      have := h (i + 1) (by simpa using h1) (by simpa using h2) (by simpa using h3)
      simpa using this
    simp only [List.map_cons, runL, h0, ih]
    simp
theorem wide_pos {e : E} {w : Int} (ho : 0 ≤ own e) (hw : -1 ≤ w) : 1 ≤ wide e w := by
  unfold wide told
  by_cases h1 : w = -1
  · simp [h1]
  · by_cases h2 : w = 0
    · subst h2; simp; split <;> omega
    · simp [h1, h2]; omega
theorem wide_bit (e : E) : wide e (-1) = 1 := by simp [wide, told]
theorem wide_of {e : E} {w : Int} (h1 : w ≠ 0) (h2 : w ≠ -1) : wide e w = w := by simp [wide, told, h1, h2]
theorem wide_zero (e : E) : wide e 0 = told (own e) 32 := by simp [wide, told]
theorem wants6 {e : E} {w : Int} (h : e.op = 6) : wants e w = some [-1, w, w] := by simp [wants, h]
theorem wants7 {e : E} {w : Int} (h : e.op = 7) : wants e w = if own e = 0 ∨ own e ≠ w ∨ 64 < own e then none else some (List.replicate e.l.length 0) := by simp [wants, h]
theorem wants0 {e : E} {w : Int} (h : e.op = 1 ∨ e.op = 2 ∨ e.op = 3 ∨ e.op = 8) : wants e w = if own e ≠ w then none else some (List.replicate e.l.length 0) := by
  have h1 : ¬ e.op = 6 := by omega
  have h2 : ¬ e.op = 7 := by omega
  have h3 : ¬ (e.op = 4 ∨ e.op = 5) := by omega
  simp [wants, h1, h2, h3]
theorem wants4 {e : E} {w : Int} (h : e.op = 4 ∨ e.op = 5) : wants e w =
    if e.n = 6 ∨ e.n = 25 ∨ e.n = 26 then if w ≠ 1 then none else some (List.replicate e.l.length (-1))
    else if e.n = 3 ∨ e.n = 4 ∨ e.n = 5 then if w ≠ 1 then none else some (List.replicate e.l.length 0)
    else if 19 ≤ e.n ∧ e.n ≤ 24 then if w ≠ 1 then none else some (List.replicate e.l.length (told (fst0 (e.l.map own)) 32))
    else if e.n = 17 ∨ e.n = 18 then some [w, 0]
    else some (List.replicate e.l.length w) := by
  have h1 : ¬ e.op = 6 := by omega
  have h2 : ¬ e.op = 7 := by omega
  simp [wants, h1, h2, h]
inductive Wt (e : E) (w : Int) : List Int → Prop
  | leaf (ho : e.op = 1 ∨ e.op = 2 ∨ e.op = 3 ∨ e.op = 8) (h : own e = w) : Wt e w (List.replicate e.l.length 0)
  | cat (ho : e.op = 7) (h1 : own e ≠ 0) (h2 : own e = w) (h3 : own e ≤ 64) : Wt e w (List.replicate e.l.length 0)
  | cond (ho : e.op = 6) : Wt e w [-1, w, w]
  | bits (ho : e.op = 4 ∨ e.op = 5) (hn : e.n = 6 ∨ e.n = 25 ∨ e.n = 26) (h : w = 1) : Wt e w (List.replicate e.l.length (-1))
  | all (ho : e.op = 4 ∨ e.op = 5) (hn : e.n = 3 ∨ e.n = 4 ∨ e.n = 5) (h : w = 1) : Wt e w (List.replicate e.l.length 0)
  | cmp (ho : e.op = 4 ∨ e.op = 5) (hn : 19 ≤ e.n) (hn2 : e.n ≤ 24) (h : w = 1) : Wt e w (List.replicate e.l.length (told (fst0 (e.l.map own)) 32))
  | sh (ho : e.op = 4 ∨ e.op = 5) (hn : e.n = 17 ∨ e.n = 18) : Wt e w [w, 0]
  | ari (ho : e.op = 4 ∨ e.op = 5) (hn : ¬ (e.n = 6 ∨ e.n = 25 ∨ e.n = 26)) (hn2 : ¬ (e.n = 3 ∨ e.n = 4 ∨ e.n = 5)) (hn3 : ¬ (19 ≤ e.n ∧ e.n ≤ 24)) (hn4 : ¬ (e.n = 17 ∨ e.n = 18)) : Wt e w (List.replicate e.l.length w)
theorem wants_wt {g : List Sg} {e : E} (hs : shp g e = true) {w : Int} {ws : List Int} (h : wants e w = some ws) : Wt e w ws := by
  have hop : (e.op = 1 ∨ e.op = 2 ∨ e.op = 3 ∨ e.op = 8) ∨ e.op = 7 ∨ e.op = 6 ∨ (e.op = 4 ∨ e.op = 5) := by
    cases shp_nd hs <;> omega
  rcases hop with ho | ho | ho | ho
  · rw [wants0 ho] at h
    split at h
    · simp at h
    · simp only [Option.some.injEq] at h; subst h
      exact .leaf ho (by omega)
  · rw [wants7 ho] at h
    split at h
    · simp at h
    · simp only [Option.some.injEq] at h; subst h
      exact .cat ho (by omega) (by omega) (by omega)
  · rw [wants6 ho] at h
    simp only [Option.some.injEq] at h; subst h
    exact .cond ho
  · rw [wants4 ho] at h
    split at h
    · split at h
      · simp at h
      · simp only [Option.some.injEq] at h; subst h
        exact .bits ho (by assumption) (by omega)
    split at h
    · split at h
      · simp at h
      · simp only [Option.some.injEq] at h; subst h
        exact .all ho (by assumption) (by omega)
    split at h
    · split at h
      · simp at h
      · simp only [Option.some.injEq] at h; subst h
        exact .cmp ho (by omega) (by omega) (by omega)
    split at h
    · simp only [Option.some.injEq] at h; subst h
      exact .sh ho (by assumption)
    · simp only [Option.some.injEq] at h; subst h
      exact .ari ho (by assumption) (by assumption) (by assumption) (by assumption)
theorem wt_wants {e : E} {w : Int} {ws : List Int} (h : Wt e w ws) : wants e w = some ws := by
  cases h with
  | leaf ho h => rw [wants0 ho, if_neg (by omega)]
  | cat ho h1 h2 h3 => rw [wants7 ho, if_neg (by omega)]
  | cond ho => exact wants6 ho
  | bits ho hn h => rw [wants4 ho, if_pos hn, if_neg (by omega)]
  | all ho hn h => rw [wants4 ho, if_neg (by omega), if_pos hn, if_neg (by omega)]
  | cmp ho hn hn2 h => rw [wants4 ho, if_neg (by omega), if_neg (by omega), if_pos ⟨hn, hn2⟩, if_neg (by omega)]
  | sh ho hn => rw [wants4 ho, if_neg (by omega), if_neg (by omega), if_neg (by omega), if_pos hn]
  | ari ho hn hn2 hn3 hn4 => rw [wants4 ho, if_neg hn, if_neg hn2, if_neg hn3, if_neg hn4]
theorem wt_len {g : List Sg} {e : E} (hs : shp g e = true) {w : Int} {ws : List Int} (h : Wt e w ws) : ws.length = e.l.length := by
  cases h with
  | cond ho =>
    cases shp_nd hs <;> first | omega | skip
    rename_i h5; rw [h5]; rfl
  | sh ho hn =>
    cases shp_nd hs <;> first | omega | skip
    rename_i h5 _ _; rw [h5]; rfl
  | _ => simp
theorem size_ok {e x : E} {w : Int} (h : size e w = (x, 0)) : ¬ (w = -1 ∧ 1 < own e) ∧
    ((e.op = 1 ∧ e.w = 0 ∧ holds (wide e w) e.v = true ∧ x = .mk 1 (wide e w) e.v 0 0 0 0 []) ∨
     (¬ (e.op = 1 ∧ e.w = 0) ∧ ∃ ws, wants e (wide e w) = some ws ∧ (runL (e.l.map size) ws).2 = 0 ∧
       ¬ (e.op = 8 ∧ (e.n = 33 ∧ part0 (runL (e.l.map size) ws).1 < wide e w ∨ e.n ≠ 33 ∧ wide e w < part0 (runL (e.l.map size) ws).1)) ∧ x = e.set (wide e w) (runL (e.l.map size) ws).1)) := by
  rw [size_eq] at h
  split at h
  · simp at h
  rename_i h1
  refine ⟨h1, ?_⟩
  split at h
  · rename_i h2
    split at h
    · simp only [Prod.mk.injEq, and_true] at h
      exact .inl ⟨h2.1, h2.2, by assumption, h.symm⟩
    · simp at h
  · rename_i h2
    refine .inr ⟨h2, ?_⟩
    split at h
    · simp at h
    · rename_i ws hws
      unfold sizeK at h
      split at h
      · rename_i h3
        simp only [Prod.mk.injEq] at h
        exact (h3 h.2).elim
      · rename_i h3
        split at h
        · simp at h
        · rename_i h4
          simp only [Prod.mk.injEq, and_true] at h
          exact ⟨ws, hws, by simpa using h3, h4, h.symm⟩
theorem size_of {e : E} {w : Int} {ws : List Int} {xs : List E} (h1 : ¬ (w = -1 ∧ 1 < own e)) (h2 : ¬ (e.op = 1 ∧ e.w = 0)) (h3 : wants e (wide e w) = some ws) (h4 : runL (e.l.map size) ws = (xs, 0))
    (h5 : ¬ (e.op = 8 ∧ (e.n = 33 ∧ part0 xs < wide e w ∨ e.n ≠ 33 ∧ wide e w < part0 xs))) : size e w = (e.set (wide e w) xs, 0) := by
  rw [size_eq, if_neg h1, if_neg h2, h3]
  simp only [h4, sizeK]
  rw [if_neg (by simp), if_neg h5]
end Fil.Sz

namespace Go.Proofs.Ytdiebjnjhgbklaa
open Abs Fil Fil.Sz
theorem put_int (l : List Int) (i : Nat) (v : Int) (h : i < l.length) : List.take (i * 1) (l.map encInt) ++ [AV.int .i64 v] ++ List.drop (i * 1 + 1) (l.map encInt) = (l.set i v).map encInt := by
  have h1 : (l.set i v).map encInt = (l.map encInt).set i (encInt v) := by rw [List.map_set]
  rw [h1, List.set_eq_take_append_cons_drop]
  simp [h]
theorem put_int0 (l : List Int) (v : Int) (h : 0 < l.length) : AV.int .i64 v :: List.drop 1 (l.map encInt) = (l.set 0 v).map encInt := by
  cases l with
  | nil => simp at h
  | cons a l => rfl
theorem rep_int (n : Nat) : (List.replicate n [AV.int .i64 0]).flatten = (List.replicate n (0 : Int)).map encInt := by
  induction n with
  | zero => rfl
  | succ n ih => simp only [List.replicate_succ, List.flatten_cons, ih, List.map_cons]; rfl
theorem flat_ints (l : List Int) : flat (l.map encInt) = l.map encInt := by
  induction l with
  | nil => rfl
  | cons a l ih => rw [List.map_cons, flat_cons, ih]; rfl
theorem int_all (l : List Int) : ∀ x ∈ l.map encInt, (cellsA x).length = 1 := fun x hx => by
  obtain ⟨a, _, rfl⟩ := List.mem_map.1 hx
  rfl
def setTo (w : Int) (c : List Int) (i : Nat) : List Int := List.replicate i w ++ c.drop i
theorem setTo_len (w : Int) (c : List Int) {i : Nat} (h : i ≤ c.length) : (setTo w c i).length = c.length := by simp [setTo]; omega
theorem setTo_succ (w : Int) (c : List Int) {i : Nat} (h : i < c.length) : (setTo w c i).set i w = setTo w c (i + 1) := by
  unfold setTo
  rw [List.drop_eq_getElem_cons h, List.replicate_succ', List.set_append_right _ _ (by simp), List.length_replicate, Nat.sub_self, List.set_cons_zero]
  simp
theorem setTo_all (w : Int) (c : List Int) : setTo w c c.length = List.replicate c.length w := by simp [setTo]
theorem sz_set (w : Int) (b o n : Nat) (c : List Int) (σ : Sig) (hb : σ b = some (.cells [.vec o n])) (ho : σ o = some (.vec 1 n (c.map encInt))) (hc : c.length = n) (hn : n ≤ 1000000000000) (h1 : ¬ b = o) (h2 : ¬ o = b) :
    ACalls Try.prog 97 [.int .i64 w, .ptr b 0] σ (fun r σ' => r = .ret (.tup []) ∧ σ' = upd σ o (.vec 1 n ((List.replicate n w).map encInt))) := by
  refine calls_x mixed Try.func97 b97 n97 rfl q97 (by simp) ?_; unfold c97 r97
  repeat' (first | simp (maxDischargeDepth := 9) -implicitDefEqProofs -dsimp only [go_sem, seval, *] | simp (disch := omega) only [wrap64] | ((with_reducible refine Zv ?_ ?_); focus (first | omega | exact rfl)))
  refine loop_rule (fun i : Nat => [(6, some (.int .i64 i)), (5, some (.int .i64 n)), (1, some (.ptr b 0)), (0, some (.int .i64 w))]) (fun i => upd σ o (.vec 1 n ((setTo w c i).map encInt))) (fun i => i ≤ n) (fun i => n - i) 0 ?_ ?_
  · have e0 : setTo w c 0 = c := rfl
    (repeat' (first | simp (maxDischargeDepth := 9) -implicitDefEqProofs -dsimp only [go_sem, seval, *] | simp (disch := omega) only [wrap64])) <;> (repeat' refine And.intro ?_ ?_) <;> (first | omega | rfl | assumption | skip)
  · intro i hi
    have hl := setTo_len w c (i := i) (by omega)
    by_cases hlt : i < n
    · have hp := put_int (setTo w c i) i w (by omega)
      rw [setTo_succ w c (by omega)] at hp
      have hlt' : (i : Int) < n := by omega
      obtain ⟨d, hd⟩ : ∃ d, setTo w c i = d := ⟨_, rfl⟩
      rw [hd] at hp hl ⊢
      clear hd
      repeat' (first | simp (maxDischargeDepth := 9) -implicitDefEqProofs -dsimp only [go_sem, seval, *] | simp (disch := omega) only [wrap64] | ((with_reducible refine Zv ?_ ?_); focus (first | omega | exact rfl)))
      refine loop_next _ _ _ _ (i + 1) ?_; (repeat' (first | simp (maxDischargeDepth := 9) -implicitDefEqProofs -dsimp only [go_sem, seval, *] | simp (disch := omega) only [wrap64])) <;> (repeat' refine And.intro ?_ ?_) <;> (first | omega | rfl | assumption | skip)
    · have ei : i = n := by omega
      subst ei
      have hlt' : ¬ (i : Int) < i := by omega
      have hs := setTo_all w c
      rw [hc] at hs
      rw [hs]
      repeat' (first | simp (maxDischargeDepth := 9) -implicitDefEqProofs -dsimp only [go_sem, seval, *] | simp (disch := omega) only [wrap64] | ((with_reducible refine Zv ?_ ?_); focus (first | omega | exact rfl)))
      refine fin_eq ?_
      (repeat' (first | simp (maxDischargeDepth := 9) -implicitDefEqProofs -dsimp only [go_sem, seval, *] | simp (disch := omega) only [wrap64])) <;> (repeat' refine And.intro ?_ ?_) <;> (first | omega | rfl | assumption | skip)
theorem fin_ints2 {v : AV} {σ τ : Sig} {o n : Nat} {l : List Int} (h : σ o = some (.vec 1 n (l.map encInt))) (hl : l.length = n) (hv : v = .tup [.vec o n, .int .i64 0]) (hs : SubX [] τ (upd σ o (.grow 1 n))) :
    fin (fun r s => r = .ret (.tup [.slice (l.map encInt) .no, .int .i64 0]) ∧ s = τ) v σ := by
  subst hv
  refine fin_frz o (sz := 1) (n := n) (cs := l.map encInt) (l := l.map encInt) (v0 := .tup [.slice (l.map encInt) .no, .int .i64 0]) (v1 := .tup [.slice (l.map encInt) .no, .int .i64 0]) (τ := τ) h (flat_ints l) (by simpa using hl) (int_all l) ?_ (by simp (maxDischargeDepth := 9) -implicitDefEqProofs -dsimp only [go_sem, seval]) hs ⟨rfl, rfl⟩
  refine .tup _ _ rfl ?_
  intro a a0 a1
  match a, a0 with
  | 0, _ => exact .base _ _ ⟨rfl, .inr rfl⟩
  | 1, _ => exact .refl _
def wantV : Option (List Int) → AV
  | none => .tup [.slice [] .no, .int .i64 90]
  | some ws => .tup [.slice (ws.map encInt) .no, .int .i64 0]
set_option maxRecDepth 20000 in
set_option maxHeartbeats 2000000 in
theorem sz_wanted (g : List Sg) (hg : SgOk g) (e : E) (w : Int) (σ : Sig) (hs : shp g e = true) (he : nodes e ≤ 16777216) : ACalls Try.prog 74 [encE e, .int .i64 w] σ (fun r σ' => r = .ret (wantV (wants e w)) ∧ σ' = σ) := by
  have h1 := encEs_eq e
  have l1 := len_nodes e
  have hown := fun τ => sz_own g hg e τ hs he
  have hns := nodes_eq e
  have hfst := fun τ => sz_first g hg e.l (fun x hx => shp_part hs hx) (by omega) τ
  have htold := fun τ => sz_told (fst0 (e.l.map own)) 32 τ
  have hnd := shp_nd hs
  clear hs hns
  obtain ⟨n, hn⟩ : ∃ n, e.l.length = n := ⟨_, rfl⟩
  have hrep := rep_int n
  have hset := fun v b o τ h2 h3 h4 h5 => sz_set v b o n (List.replicate n 0) τ h2 h3 (by simp) (by omega) h4 h5
  have vn : wantV none = .tup [.slice [] .no, .int .i64 90] := rfl
  have vs : ∀ ws, wantV (some ws) = .tup [.slice (ws.map encInt) .no, .int .i64 0] := fun _ => rfl
  refine calls_x mixed Try.func74 b74 n74 rfl q74 (by simp) ?_; unfold c74 r74
  by_cases hA : e.op = 1 ∨ e.op = 2 ∨ e.op = 3 ∨ e.op = 8
  · have h6 : (e.op == 6) = false := by simp; omega
    have h7 : (e.op == 7) = false := by simp; omega
    have h4 : (e.op == 4) = false := by simp; omega
    have h5 : (e.op == 5) = false := by simp; omega
    rw [wants0 hA, hn]
    clear hnd hfst htold hset hA
    by_cases hw : own e = w
    · have hb : (own e != w) = false := by simp [hw]
      rw [if_neg (by omega), vs]
      rw [hw] at hown
      clear hw hb
      repeat' (first | simp (maxDischargeDepth := 9) -implicitDefEqProofs -dsimp only [go_sem, seval, *] | ((with_reducible refine Zv ?_ ?_); focus (first | omega | exact rfl)) | ((with_reducible refine Zt (fun oF hoF hnF hnF' => ?_)); (try simp only [upd_none, ne_eq, not_and] at hoF)) | ((with_reducible apply ACalls.one1); (focus ((first | with_reducible refine hown _ | with_reducible refine ACalls.flA (hown _) ?_) <;> (first | (simp (maxDischargeDepth := 9) -implicitDefEqProofs -dsimp only [go_sem, seval, *]; done) | omega))); (focus (first | trivial | with_reducible exact rfl | (simp (maxDischargeDepth := 9) -implicitDefEqProofs -dsimp only [go_sem, seval]; done)))))
      refine fin_ints2 (l := List.replicate n 0) ?_ ?_ rfl ?_
      · simp (maxDischargeDepth := 9) -implicitDefEqProofs -dsimp only [go_sem, seval, *]
      · simp
      · (repeat' (first | simp (maxDischargeDepth := 9) -implicitDefEqProofs -dsimp only [go_sem, seval, *])) <;> (repeat' refine And.intro ?_ ?_) <;> (first | omega | rfl | assumption | skip)
    · have hb : (own e != w) = true := by simp [hw]
      rw [if_pos hw, vn]
      clear hw
      repeat' (first | simp (maxDischargeDepth := 9) -implicitDefEqProofs -dsimp only [go_sem, seval, *] | ((with_reducible refine Zv ?_ ?_); focus (first | omega | exact rfl)) | ((with_reducible refine Zt (fun oF hoF hnF hnF' => ?_)); (try simp only [upd_none, ne_eq, not_and] at hoF)) | ((with_reducible apply ACalls.one1); (focus ((first | with_reducible refine hown _ | with_reducible refine ACalls.flA (hown _) ?_) <;> (first | (simp (maxDischargeDepth := 9) -implicitDefEqProofs -dsimp only [go_sem, seval, *]; done) | omega))); (focus (first | trivial | with_reducible exact rfl | (simp (maxDischargeDepth := 9) -implicitDefEqProofs -dsimp only [go_sem, seval]; done)))))
      refine fin_eq ?_
      (repeat' (first | simp (maxDischargeDepth := 9) -implicitDefEqProofs -dsimp only [go_sem, seval, *])) <;> (repeat' refine And.intro ?_ ?_) <;> (first | omega | rfl | assumption | skip)
  by_cases h7 : e.op = 7
  · rw [wants7 h7, hn]
    clear hnd hfst htold hset hA
    by_cases hz : own e = 0
    · rw [if_pos (.inl hz), vn]
      rw [hz] at hown
      clear hz
      repeat' (first | simp (maxDischargeDepth := 9) -implicitDefEqProofs -dsimp only [go_sem, seval, *] | ((with_reducible refine Zv ?_ ?_); focus (first | omega | exact rfl)) | ((with_reducible refine Zt (fun oF hoF hnF hnF' => ?_)); (try simp only [upd_none, ne_eq, not_and] at hoF)) | ((with_reducible apply ACalls.one1); (focus ((first | with_reducible refine hown _ | with_reducible refine ACalls.flA (hown _) ?_) <;> (first | (simp (maxDischargeDepth := 9) -implicitDefEqProofs -dsimp only [go_sem, seval, *]; done) | omega))); (focus (first | trivial | with_reducible exact rfl | (simp (maxDischargeDepth := 9) -implicitDefEqProofs -dsimp only [go_sem, seval]; done)))))
      refine fin_eq ?_
      (repeat' (first | simp (maxDischargeDepth := 9) -implicitDefEqProofs -dsimp only [go_sem, seval, *])) <;> (repeat' refine And.intro ?_ ?_) <;> (first | omega | rfl | assumption | skip)
    by_cases hw : own e = w
    · have hz2 : (w == 0) = false := by simp; omega
      rw [hw] at hown hz ⊢
      by_cases h64 : 64 < w
      · rw [if_pos (.inr (.inr h64)), vn]
        repeat' (first | simp (maxDischargeDepth := 9) -implicitDefEqProofs -dsimp only [go_sem, seval, gt_iff_lt, *] | ((with_reducible refine Zv ?_ ?_); focus (first | omega | exact rfl)) | ((with_reducible refine Zt (fun oF hoF hnF hnF' => ?_)); (try simp only [upd_none, ne_eq, not_and] at hoF)) | ((with_reducible apply ACalls.one1); (focus ((first | with_reducible refine hown _ | with_reducible refine ACalls.flA (hown _) ?_) <;> (first | (simp (maxDischargeDepth := 9) -implicitDefEqProofs -dsimp only [go_sem, seval, *]; done) | omega))); (focus (first | trivial | with_reducible exact rfl | (simp (maxDischargeDepth := 9) -implicitDefEqProofs -dsimp only [go_sem, seval]; done)))))
        refine fin_eq ?_
        (repeat' (first | simp (maxDischargeDepth := 9) -implicitDefEqProofs -dsimp only [go_sem, seval, *])) <;> (repeat' refine And.intro ?_ ?_) <;> (first | omega | rfl | assumption | skip)
      · rw [if_neg (by omega), vs]
        repeat' (first | simp (maxDischargeDepth := 9) -implicitDefEqProofs -dsimp only [go_sem, seval, gt_iff_lt, *] | ((with_reducible refine Zv ?_ ?_); focus (first | omega | exact rfl)) | ((with_reducible refine Zt (fun oF hoF hnF hnF' => ?_)); (try simp only [upd_none, ne_eq, not_and] at hoF)) | ((with_reducible apply ACalls.one1); (focus ((first | with_reducible refine hown _ | with_reducible refine ACalls.flA (hown _) ?_) <;> (first | (simp (maxDischargeDepth := 9) -implicitDefEqProofs -dsimp only [go_sem, seval, *]; done) | omega))); (focus (first | trivial | with_reducible exact rfl | (simp (maxDischargeDepth := 9) -implicitDefEqProofs -dsimp only [go_sem, seval]; done)))))
        refine fin_ints2 (l := List.replicate n 0) ?_ ?_ rfl ?_
        · simp (maxDischargeDepth := 9) -implicitDefEqProofs -dsimp only [go_sem, seval, *]
        · simp
        · (repeat' (first | simp (maxDischargeDepth := 9) -implicitDefEqProofs -dsimp only [go_sem, seval, *])) <;> (repeat' refine And.intro ?_ ?_) <;> (first | omega | rfl | assumption | skip)
    · have hz2 : (own e == 0) = false := by simp [hz]
      have hw2 : (own e != w) = true := by simp [hw]
      rw [if_pos (.inr (.inl hw)), vn]
      clear hw hz
      repeat' (first | simp (maxDischargeDepth := 9) -implicitDefEqProofs -dsimp only [go_sem, seval, *] | ((with_reducible refine Zv ?_ ?_); focus (first | omega | exact rfl)) | ((with_reducible refine Zt (fun oF hoF hnF hnF' => ?_)); (try simp only [upd_none, ne_eq, not_and] at hoF)) | ((with_reducible apply ACalls.one1); (focus ((first | with_reducible refine hown _ | with_reducible refine ACalls.flA (hown _) ?_) <;> (first | (simp (maxDischargeDepth := 9) -implicitDefEqProofs -dsimp only [go_sem, seval, *]; done) | omega))); (focus (first | trivial | with_reducible exact rfl | (simp (maxDischargeDepth := 9) -implicitDefEqProofs -dsimp only [go_sem, seval]; done)))))
      refine fin_eq ?_
      (repeat' (first | simp (maxDischargeDepth := 9) -implicitDefEqProofs -dsimp only [go_sem, seval, *])) <;> (repeat' refine And.intro ?_ ?_) <;> (first | omega | rfl | assumption | skip)
  by_cases h6 : e.op = 6
  · have h3 : n = 3 := by
      cases hnd <;> first | omega | skip
      rename_i hl; rw [hl] at hn; simpa using hn.symm
    rw [wants6 h6, vs]
    have hq : (List.replicate n w).set 0 (-1) = [-1, w, w] := by subst h3; rfl
    have hp := put_int0 (List.replicate n w) (-1) (by simp; omega)
    rw [← hq]
    have hn0 : (0 : Int) < n := by omega
    have hn1 : 1 ≤ n := by omega
    clear hnd hfst htold hown hA hq h3
    repeat' (first | simp (maxDischargeDepth := 9) -implicitDefEqProofs -dsimp only [go_sem, seval, *] | ((with_reducible refine Zv ?_ ?_); focus (first | omega | exact rfl)) | ((with_reducible refine Zt (fun oF hoF hnF hnF' => ?_)); (try simp only [upd_none, ne_eq, not_and] at hoF)))
    rename_i ox hox nx1 nx2
    obtain ⟨ob, eob⟩ : ∃ x, x = oF := ⟨oF, rfl⟩
    subst eob
    obtain ⟨q1, q2⟩ := hoF
    have q3 : ¬ ox = ob := fun e => q1 e.symm
    clear nx1 nx2 hnF hnF'
    repeat' (first | simp (maxDischargeDepth := 9) -implicitDefEqProofs -dsimp only [go_sem, seval, List.length_replicate, *] | ((with_reducible refine Zv ?_ ?_); focus (first | omega | exact rfl)) | ((with_reducible refine Zt (fun oF hoF hnF hnF' => ?_)); (try simp only [upd_none, ne_eq, not_and] at hoF)) | ((with_reducible apply ACalls.one1); (focus ((first | with_reducible refine hset w ob ox _ ?_ ?_ q1 q3 | with_reducible refine ACalls.flA (hset w ob ox _ ?_ ?_ q1 q3) ?_) <;> (first | (simp (maxDischargeDepth := 9) -implicitDefEqProofs -dsimp only [go_sem, seval, *]; done) | omega))); (focus (first | trivial | with_reducible exact rfl | (simp (maxDischargeDepth := 9) -implicitDefEqProofs -dsimp only [go_sem, seval]; done)))))
    refine fin_ints2 (l := (List.replicate n w).set 0 (-1)) ?_ ?_ rfl ?_
    · simp (maxDischargeDepth := 9) -implicitDefEqProofs -dsimp only [go_sem, seval, *]
    · simp
    · (repeat' (first | simp (maxDischargeDepth := 9) -implicitDefEqProofs -dsimp only [go_sem, seval, *])) <;> (repeat' refine And.intro ?_ ?_) <;> (first | omega | rfl | assumption | skip)
  have hop : e.op = 4 ∨ e.op = 5 := by cases hnd <;> omega
  have hln : e.op = 5 → n = 2 := fun h => by
    cases hnd <;> first | omega | skip
    rename_i hl _ _; rw [hl] at hn; simpa using hn.symm
  have hun : e.op = 4 → e.n ≤ 6 := fun h => by cases hnd <;> omega
  rw [wants4 hop, hn]
  clear hnd hown hA
  by_cases c1 : e.n = 6 ∨ e.n = 25 ∨ e.n = 26
  · rw [if_pos c1]
    clear hfst htold hln hun
    by_cases hw : w = 1
    · rw [if_neg (by omega), vs]
      have hw2 : (w != 1) = false := by simp [hw]
      clear hw
      rcases hop with ho | ho <;> rcases c1 with c | c | c
      all_goals
        repeat' (first | simp (maxDischargeDepth := 9) -implicitDefEqProofs -dsimp only [go_sem, seval, *] | ((with_reducible refine Zv ?_ ?_); focus (first | omega | exact rfl)) | ((with_reducible refine Zt (fun oF hoF hnF hnF' => ?_)); (try simp only [upd_none, ne_eq, not_and] at hoF)))
        rename_i ox hox nx1 nx2
        obtain ⟨ob, eob⟩ : ∃ x, x = oF := ⟨oF, rfl⟩
        subst eob
        obtain ⟨q1, q2⟩ := hoF
        have q3 : ¬ ox = ob := fun e => q1 e.symm
        clear nx1 nx2 hnF hnF'
        repeat' (first | simp (maxDischargeDepth := 9) -implicitDefEqProofs -dsimp only [go_sem, seval, *] | ((with_reducible refine Zv ?_ ?_); focus (first | omega | exact rfl)) | ((with_reducible refine Zt (fun oF hoF hnF hnF' => ?_)); (try simp only [upd_none, ne_eq, not_and] at hoF)) | ((with_reducible apply ACalls.one1); (focus ((first | with_reducible refine hset (-1) ob ox _ ?_ ?_ q1 q3 | with_reducible refine ACalls.flA (hset (-1) ob ox _ ?_ ?_ q1 q3) ?_) <;> (first | (simp (maxDischargeDepth := 9) -implicitDefEqProofs -dsimp only [go_sem, seval, *]; done) | omega))); (focus (first | trivial | with_reducible exact rfl | (simp (maxDischargeDepth := 9) -implicitDefEqProofs -dsimp only [go_sem, seval]; done)))))
        refine fin_ints2 (l := List.replicate n (-1)) ?_ ?_ rfl ?_
        · simp (maxDischargeDepth := 9) -implicitDefEqProofs -dsimp only [go_sem, seval, *]
        · simp
        · (repeat' (first | simp (maxDischargeDepth := 9) -implicitDefEqProofs -dsimp only [go_sem, seval, *])) <;> (repeat' refine And.intro ?_ ?_) <;> (first | omega | rfl | assumption | skip)
    · rw [if_pos hw, vn]
      have hw2 : (w != 1) = true := by simp [hw]
      clear hw
      rcases hop with ho | ho <;> rcases c1 with c | c | c
      all_goals
        repeat' (first | simp (maxDischargeDepth := 9) -implicitDefEqProofs -dsimp only [go_sem, seval, *] | ((with_reducible refine Zv ?_ ?_); focus (first | omega | exact rfl)) | ((with_reducible refine Zt (fun oF hoF hnF hnF' => ?_)); (try simp only [upd_none, ne_eq, not_and] at hoF)))
        rename_i ox hox nx1 nx2
        obtain ⟨ob, eob⟩ : ∃ x, x = oF := ⟨oF, rfl⟩
        subst eob
        obtain ⟨q1, q2⟩ := hoF
        have q3 : ¬ ox = ob := fun e => q1 e.symm
        clear nx1 nx2 hnF hnF'
        repeat' (first | simp (maxDischargeDepth := 9) -implicitDefEqProofs -dsimp only [go_sem, seval, *] | ((with_reducible refine Zv ?_ ?_); focus (first | omega | exact rfl)) | ((with_reducible refine Zt (fun oF hoF hnF hnF' => ?_)); (try simp only [upd_none, ne_eq, not_and] at hoF)) | ((with_reducible apply ACalls.one1); (focus ((first | with_reducible refine hset (-1) ob ox _ ?_ ?_ q1 q3 | with_reducible refine ACalls.flA (hset (-1) ob ox _ ?_ ?_ q1 q3) ?_) <;> (first | (simp (maxDischargeDepth := 9) -implicitDefEqProofs -dsimp only [go_sem, seval, *]; done) | omega))); (focus (first | trivial | with_reducible exact rfl | (simp (maxDischargeDepth := 9) -implicitDefEqProofs -dsimp only [go_sem, seval]; done)))))
        refine fin_eq ?_
        (repeat' (first | simp (maxDischargeDepth := 9) -implicitDefEqProofs -dsimp only [go_sem, seval, *])) <;> (repeat' refine And.intro ?_ ?_) <;> (first | omega | rfl | assumption | skip)
  by_cases c2 : e.n = 3 ∨ e.n = 4 ∨ e.n = 5
  · rw [if_neg c1, if_pos c2]
    clear hfst htold hset hln hun c1
    by_cases hw : w = 1
    · rw [if_neg (by omega), vs]
      have hw2 : (w != 1) = false := by simp [hw]
      clear hw
      rcases hop with ho | ho <;> rcases c2 with c | c | c
      all_goals
        repeat' (first | simp (maxDischargeDepth := 9) -implicitDefEqProofs -dsimp only [go_sem, seval, *] | ((with_reducible refine Zv ?_ ?_); focus (first | omega | exact rfl)) | ((with_reducible refine Zt (fun oF hoF hnF hnF' => ?_)); (try simp only [upd_none, ne_eq, not_and] at hoF)))
        refine fin_ints2 (l := List.replicate n 0) ?_ ?_ rfl ?_
        · simp (maxDischargeDepth := 9) -implicitDefEqProofs -dsimp only [go_sem, seval, *]
        · simp
        · (repeat' (first | simp (maxDischargeDepth := 9) -implicitDefEqProofs -dsimp only [go_sem, seval, *])) <;> (repeat' refine And.intro ?_ ?_) <;> (first | omega | rfl | assumption | skip)
    · rw [if_pos hw, vn]
      have hw2 : (w != 1) = true := by simp [hw]
      clear hw
      rcases hop with ho | ho <;> rcases c2 with c | c | c
      all_goals
        repeat' (first | simp (maxDischargeDepth := 9) -implicitDefEqProofs -dsimp only [go_sem, seval, *] | ((with_reducible refine Zv ?_ ?_); focus (first | omega | exact rfl)) | ((with_reducible refine Zt (fun oF hoF hnF hnF' => ?_)); (try simp only [upd_none, ne_eq, not_and] at hoF)))
        refine fin_eq ?_
        (repeat' (first | simp (maxDischargeDepth := 9) -implicitDefEqProofs -dsimp only [go_sem, seval, *])) <;> (repeat' refine And.intro ?_ ?_) <;> (first | omega | rfl | assumption | skip)
  by_cases c3 : 19 ≤ e.n ∧ e.n ≤ 24
  · rw [if_neg c1, if_neg c2, if_pos c3]
    have ho : e.op = 5 := by
      rcases hop with h | h
      · have := hun h; omega
      · exact h
    have c4 : e.n = 19 ∨ e.n = 20 ∨ e.n = 21 ∨ e.n = 22 ∨ e.n = 23 ∨ e.n = 24 := by omega
    obtain ⟨F, hF⟩ : ∃ F, fst0 (e.l.map own) = F := ⟨_, rfl⟩
    rw [hF] at hfst htold ⊢
    obtain ⟨K, hK⟩ : ∃ K, told F 32 = K := ⟨_, rfl⟩
    rw [hK] at htold ⊢
    clear hop hln hun c1 c2 c3 hF hK
    by_cases hw : w = 1
    · rw [if_neg (by omega), vs]
      have hw2 : (w != 1) = false := by simp [hw]
      clear hw
      rcases c4 with c | c | c | c | c | c
      all_goals
        repeat' (first | simp (maxDischargeDepth := 9) -implicitDefEqProofs -dsimp only [go_sem, seval, *] | ((with_reducible refine Zv ?_ ?_); focus (first | omega | exact rfl)) | ((with_reducible refine Zt (fun oF hoF hnF hnF' => ?_)); (try simp only [upd_none, ne_eq, not_and] at hoF)) | ((with_reducible apply ACalls.one1); (focus ((first | with_reducible refine hfst _ | with_reducible refine htold _ | with_reducible refine ACalls.flA (hfst _) ?_ | with_reducible refine ACalls.flA (htold _) ?_) <;> (first | (simp (maxDischargeDepth := 9) -implicitDefEqProofs -dsimp only [go_sem, seval, *]; done) | omega))); (focus (first | trivial | with_reducible exact rfl | (simp (maxDischargeDepth := 9) -implicitDefEqProofs -dsimp only [go_sem, seval]; done)))))
        rename_i ox hox nx1 nx2
        obtain ⟨ob, eob⟩ : ∃ x, x = oF := ⟨oF, rfl⟩
        subst eob
        obtain ⟨q1, q2⟩ := hoF
        have q3 : ¬ ox = ob := fun e => q1 e.symm
        clear nx1 nx2 hnF hnF'
        repeat' (first | simp (maxDischargeDepth := 9) -implicitDefEqProofs -dsimp only [go_sem, seval, *] | ((with_reducible refine Zv ?_ ?_); focus (first | omega | exact rfl)) | ((with_reducible refine Zt (fun oF hoF hnF hnF' => ?_)); (try simp only [upd_none, ne_eq, not_and] at hoF)) | ((with_reducible apply ACalls.one1); (focus ((first | with_reducible refine hset K ob ox _ ?_ ?_ q1 q3 | with_reducible refine ACalls.flA (hset K ob ox _ ?_ ?_ q1 q3) ?_) <;> (first | (simp (maxDischargeDepth := 9) -implicitDefEqProofs -dsimp only [go_sem, seval, *]; done) | omega))); (focus (first | trivial | with_reducible exact rfl | (simp (maxDischargeDepth := 9) -implicitDefEqProofs -dsimp only [go_sem, seval]; done)))))
        refine fin_ints2 (l := List.replicate n K) ?_ ?_ rfl ?_
        · simp (maxDischargeDepth := 9) -implicitDefEqProofs -dsimp only [go_sem, seval, *]
        · simp
        · (repeat' (first | simp (maxDischargeDepth := 9) -implicitDefEqProofs -dsimp only [go_sem, seval, *])) <;> (repeat' refine And.intro ?_ ?_) <;> (first | omega | rfl | assumption | skip)
    · rw [if_pos hw, vn]
      have hw2 : (w != 1) = true := by simp [hw]
      clear hw
      rcases c4 with c | c | c | c | c | c
      all_goals
        repeat' (first | simp (maxDischargeDepth := 9) -implicitDefEqProofs -dsimp only [go_sem, seval, *] | ((with_reducible refine Zv ?_ ?_); focus (first | omega | exact rfl)) | ((with_reducible refine Zt (fun oF hoF hnF hnF' => ?_)); (try simp only [upd_none, ne_eq, not_and] at hoF)))
        refine fin_eq ?_
        (repeat' (first | simp (maxDischargeDepth := 9) -implicitDefEqProofs -dsimp only [go_sem, seval, *])) <;> (repeat' refine And.intro ?_ ?_) <;> (first | omega | rfl | assumption | skip)
  by_cases c4 : e.n = 17 ∨ e.n = 18
  · rw [if_neg c1, if_neg c2, if_neg c3, if_pos c4, vs]
    have ho : e.op = 5 := by
      rcases hop with h | h
      · have := hun h; omega
      · exact h
    have hn2 := hln ho
    have hq : (List.replicate n (0 : Int)).set 0 w = [w, 0] := by subst hn2; rfl
    have hp := put_int0 (List.replicate n 0) w (by simp; omega)
    have hn0 : (0 : Int) < n := by omega
    have hn1 : 1 ≤ n := by omega
    rw [← hq]
    clear hop hln hun c1 c2 c3 hq hn2 hfst htold hset
    rcases c4 with c | c
    all_goals
      repeat' (first | simp (maxDischargeDepth := 9) -implicitDefEqProofs -dsimp only [go_sem, seval, List.length_replicate, *] | ((with_reducible refine Zv ?_ ?_); focus (first | omega | exact rfl)) | ((with_reducible refine Zt (fun oF hoF hnF hnF' => ?_)); (try simp only [upd_none, ne_eq, not_and] at hoF)))
      refine fin_ints2 (l := (List.replicate n 0).set 0 w) ?_ ?_ rfl ?_
      · simp (maxDischargeDepth := 9) -implicitDefEqProofs -dsimp only [go_sem, seval, *]
      · simp
      · (repeat' (first | simp (maxDischargeDepth := 9) -implicitDefEqProofs -dsimp only [go_sem, seval, *])) <;> (repeat' refine And.intro ?_ ?_) <;> (first | omega | rfl | assumption | skip)
  · rw [if_neg c1, if_neg c2, if_neg c3, if_neg c4, vs]
    have e1 : (e.n == 6) = false := by simp; omega
    have e2 : (e.n == 25) = false := by simp; omega
    have e3 : (e.n == 26) = false := by simp; omega
    have e4 : (e.n == 3) = false := by simp; omega
    have e5 : (e.n == 4) = false := by simp; omega
    have e6 : (e.n == 5) = false := by simp; omega
    have e7 : (e.n == 19) = false := by simp; omega
    have e8 : (e.n == 20) = false := by simp; omega
    have e9 : (e.n == 21) = false := by simp; omega
    have e10 : (e.n == 22) = false := by simp; omega
    have e11 : (e.n == 23) = false := by simp; omega
    have e12 : (e.n == 24) = false := by simp; omega
    have e13 : (e.n == 17) = false := by simp; omega
    have e14 : (e.n == 18) = false := by simp; omega
    clear hln hun c1 c2 c3 c4 hfst htold
    rcases hop with ho | ho
    all_goals
      repeat' (first | simp (maxDischargeDepth := 9) -implicitDefEqProofs -dsimp only [go_sem, seval, *] | ((with_reducible refine Zv ?_ ?_); focus (first | omega | exact rfl)) | ((with_reducible refine Zt (fun oF hoF hnF hnF' => ?_)); (try simp only [upd_none, ne_eq, not_and] at hoF)))
      rename_i ox hox nx1 nx2
      obtain ⟨ob, eob⟩ : ∃ x, x = oF := ⟨oF, rfl⟩
      subst eob
      obtain ⟨q1, q2⟩ := hoF
      have q3 : ¬ ox = ob := fun e => q1 e.symm
      clear nx1 nx2 hnF hnF'
      repeat' (first | simp (maxDischargeDepth := 9) -implicitDefEqProofs -dsimp only [go_sem, seval, *] | ((with_reducible refine Zv ?_ ?_); focus (first | omega | exact rfl)) | ((with_reducible refine Zt (fun oF hoF hnF hnF' => ?_)); (try simp only [upd_none, ne_eq, not_and] at hoF)) | ((with_reducible apply ACalls.one1); (focus ((first | with_reducible refine hset w ob ox _ ?_ ?_ q1 q3 | with_reducible refine ACalls.flA (hset w ob ox _ ?_ ?_ q1 q3) ?_) <;> (first | (simp (maxDischargeDepth := 9) -implicitDefEqProofs -dsimp only [go_sem, seval, *]; done) | omega))); (focus (first | trivial | with_reducible exact rfl | (simp (maxDischargeDepth := 9) -implicitDefEqProofs -dsimp only [go_sem, seval]; done)))))
      refine fin_ints2 (l := List.replicate n w) ?_ ?_ rfl ?_
      · simp (maxDischargeDepth := 9) -implicitDefEqProofs -dsimp only [go_sem, seval, *]
      · simp
      · (repeat' (first | simp (maxDischargeDepth := 9) -implicitDefEqProofs -dsimp only [go_sem, seval, *])) <;> (repeat' refine And.intro ?_ ?_) <;> (first | omega | rfl | assumption | skip)
end Go.Proofs.Ytdiebjnjhgbklaa

namespace Fil.Sz
open Abs
def resTo (l : List E) (ws : List Int) (i : Nat) : List E := ((l.zip ws).take i).map fun q => (size q.1 q.2).1
theorem resTo_len {l : List E} {ws : List Int} (hl : ws.length = l.length) {i : Nat} (hi : i ≤ l.length) : (resTo l ws i).length = i := by
  simp [resTo, hl]; omega
theorem resTo_succ {l : List E} {ws : List Int} {i : Nat} (h1 : i < l.length) (h2 : i < ws.length) : resTo l ws (i + 1) = resTo l ws i ++ [(size l[i] ws[i]).1] := by
  unfold resTo
  have h : i < (l.zip ws).length := by simp; omega
  rw [List.take_add_one, List.getElem?_eq_getElem h]
  simp
theorem resTo_get {l : List E} {ws : List Int} {n i : Nat} (h1 : i < l.length) (h2 : i < ws.length) (h3 : i < (resTo l ws n).length) : (resTo l ws n)[i] = (size l[i] ws[i]).1 := by
  simp [resTo]
theorem runL_all {l : List E} {ws : List Int} (hl : ws.length = l.length) (h : ∀ j, (h1 : j < l.length) → (h2 : j < ws.length) → (size l[j] ws[j]).2 = 0) : runL (l.map size) ws = (resTo l ws l.length, 0) := by
  refine runL_of l ws _ hl.symm (resTo_len hl (Nat.le_refl _)) fun i h1 h2 h3 => ?_
  rw [resTo_get h1 h2 h3]
  have := h i h1 h2
  rw [← this]
theorem runL_err : ∀ {l : List E} {ws : List Int} {i : Nat} (h1 : i < l.length) (h2 : i < ws.length), (∀ j, (h3 : j < i) → (size (l[j]'(by omega)) (ws[j]'(by omega))).2 = 0) → (size l[i] ws[i]).2 ≠ 0 → runL (l.map size) ws = ([], (size l[i] ws[i]).2)
  | [], _, _, h1, _, _, _ => by simp at h1
  | a :: l, [], _, _, h2, _, _ => by simp at h2
  | a :: l, w :: ws, 0, _, _, _, hn => by
    simp only [List.getElem_cons_zero] at hn
    simp only [List.map_cons, runL, List.getElem_cons_zero]
    rw [if_pos hn]
  | a :: l, w :: ws, i + 1, h1, h2, hz, hn => by
    have h0 := hz 0 (by omega)
    simp only [List.getElem_cons_zero] at h0
    simp only [List.getElem_cons_succ] at hn
    have ih := runL_err (l := l) (ws := ws) (i := i) (by simpa using h1) (by simpa using h2) (fun j hj => by have := hz (j + 1) (by omega); simpa using this) hn
    simp only [List.map_cons, runL, List.getElem_cons_succ, ih]
    rw [if_neg (by simp [h0]), if_pos hn]
theorem size_bit {e : E} (h : 1 < own e) : size e (-1) = (zE, 91) := by rw [size_eq, if_pos ⟨rfl, h⟩]
theorem size_num {e : E} {w : Int} (h : ¬ (w = -1 ∧ 1 < own e)) (ho : e.op = 1) (hw : e.w = 0) : size e w = if holds (wide e w) e.v then (.mk 1 (wide e w) e.v 0 0 0 0 [], 0) else (zE, 92) := by
  rw [size_eq, if_neg h, if_pos ⟨ho, hw⟩]
theorem size_none {e : E} {w : Int} (h : ¬ (w = -1 ∧ 1 < own e)) (ho : ¬ (e.op = 1 ∧ e.w = 0)) (hw : wants e (wide e w) = none) : size e w = (zE, 90) := by
  rw [size_eq, if_neg h, if_neg ho, hw]
theorem size_some {e : E} {w : Int} {ws : List Int} (h : ¬ (w = -1 ∧ 1 < own e)) (ho : ¬ (e.op = 1 ∧ e.w = 0)) (hw : wants e (wide e w) = some ws) : size e w = sizeK e w (runL (e.l.map size) ws) := by
  rw [size_eq, if_neg h, if_neg ho, hw]
theorem wt_ge {g : List Sg} (hg : SgOk g) {e : E} (hs : shp g e = true) {w : Int} (hw : 1 ≤ w) {ws : List Int} (h : Wt e w ws) : ∀ v ∈ ws, -1 ≤ v := by
  have hf : 0 ≤ fst0 (e.l.map own) := fst0_nonneg fun a ha => by
    obtain ⟨x, hx, rfl⟩ := List.mem_map.1 ha
    exact own_nonneg hg x (shp_part hs hx)
  intro v hv
  cases h with
  | cond ho => simp at hv; omega
  | sh ho hn => simp at hv; omega
  | cmp ho hn hn2 h =>
    have := (List.mem_replicate.1 hv).2
    subst this
    unfold told
    split <;> omega
  | _ => have := (List.mem_replicate.1 hv).2; omega
end Fil.Sz

namespace Go.Proofs.Ytdiebjnjhgbklaa
open Abs Fil Fil.Sz
abbrev zN : List AV := [.int .i64 0, .int .i64 0, .int .u64 0, .int .i64 0, .int .i64 0, .int .i64 0, .int .i64 0, .slice [] .nil]
def rowT (X : List E) (k : Nat) : List AV := flat (X.map encE) ++ (List.replicate k zN).flatten
theorem rowT_put (X : List E) (x : E) (k : Nat) : List.take (X.length * 8) (rowT X (k + 1)) ++ eL x ++ List.drop (X.length * 8 + 8) (rowT X (k + 1)) = rowT (X ++ [x]) k := by
  have hl : (flat (X.map encE)).length = X.length * 8 := flat_map_len encE 8 (fun _ => rfl) X
  unfold rowT
  rw [List.replicate_succ, List.flatten_cons]
  have e1 : List.take (X.length * 8) (flat (X.map encE) ++ (zN ++ (List.replicate k zN).flatten)) = flat (X.map encE) := by rw [← hl]; simp
  have e2 : List.drop (X.length * 8 + 8) (flat (X.map encE) ++ (zN ++ (List.replicate k zN).flatten)) = (List.replicate k zN).flatten := by
    rw [← hl, ← List.drop_drop, List.drop_left]; rfl
  rw [e1, e2, List.map_append, flat_append]
  simp only [List.append_assoc]
  rfl
theorem rowT_zero (n : Nat) : rowT [] n = (List.replicate n zN).flatten := rfl
theorem rowT_all (X : List E) : rowT X 0 = flat (X.map encE) := by simp [rowT]
theorem rowT_len (X : List E) (k : Nat) : (rowT X k).length = (X.length + k) * 8 := by
  have hl : (flat (X.map encE)).length = X.length * 8 := flat_map_len encE 8 (fun _ => rfl) X
  have h2 : ∀ k, ((List.replicate k zN).flatten).length = k * 8 := fun k => by
    induction k with
    | zero => rfl
    | succ k ih => rw [List.replicate_succ, List.flatten_cons, List.length_append, ih, Nat.succ_mul]; simp; omega
  unfold rowT
  rw [List.length_append, hl, h2]; omega
theorem unflat_e : ∀ (X : List E), unflat true 8 X.length (flat (X.map encE)) = some (X.map encE)
  | [] => rfl
  | x :: X => by
    have ih := unflat_e X
    simp only [List.length_cons, List.map_cons, flat_cons, unflat]
    have e1 : List.take 8 (cellsA (encE x) ++ flat (X.map encE)) = eL x := rfl
    have e2 : List.drop 8 (cellsA (encE x) ++ flat (X.map encE)) = flat (X.map encE) := rfl
    rw [e1, e2, ih]
    rfl
theorem encE_zero : encE zE = .agg [.int .i64 0, .int .i64 0, .int .u64 0, .int .i64 0, .int .i64 0, .int .i64 0, .int .i64 0, .slice [] .no] := by
  have e : encEs zE = [] := by rw [encEs_eq]; rfl
  simp only [encE, eL, e]; rfl
theorem encE_num (w v : Int) : encE (.mk 1 w v 0 0 0 0 []) = .agg [.int .i64 1, .int .i64 w, .int .u64 v, .int .i64 0, .int .i64 0, .int .i64 0, .int .i64 0, .slice [] .no] := by
  have e : encEs (.mk 1 w v 0 0 0 0 []) = [] := by rw [encEs_eq]; rfl
  simp only [encE, eL, e]; rfl
theorem encE_set (e : E) (w : Int) (X : List E) : encE (e.set w X) = .agg [.int .i64 e.op, .int .i64 w, .int .u64 e.v, .int .i64 e.sig, .int .i64 e.hi, .int .i64 e.lo, .int .i64 e.n, .slice (X.map encE) .no] := by
  have h : encEs (e.set w X) = X.map encE := by rw [encEs_eq]; rfl
  simp only [encE, eL, h]; rfl
set_option maxRecDepth 20000 in
set_option maxHeartbeats 2000000 in
theorem sz_size (g : List Sg) (hg : SgOk g) (e : E) : ∀ (w : Int) (σ : Sig), shp g e = true → nodes e ≤ 16777216 → WfE e → -1 ≤ w → ACalls Try.prog 39 [encE e, .int .i64 w] σ (fun r σ' => r = .ret (.tup [encE (size e w).1, .int .i64 (size e w).2]) ∧ σ' = σ) := by
  refine E.ind (P := fun e => ∀ (w : Int) (σ : Sig), shp g e = true → nodes e ≤ 16777216 → WfE e → -1 ≤ w → ACalls Try.prog 39 [encE e, .int .i64 w] σ (fun r σ' => r = .ret (.tup [encE (size e w).1, .int .i64 (size e w).2]) ∧ σ' = σ)) (fun e ih w σ hs he hw h0 => ?_) e
  have h1 := encEs_eq e
  have l1 := len_nodes e
  have hown := fun τ => sz_own g hg e τ hs he
  have hwp := wide_pos (own_nonneg hg e hs) h0
  have ht1 := fun τ => sz_told (own e) 32 τ
  have ht2 := fun w τ => sz_told w (told (own e) 32) τ
  have hwd : wide e w = told (if w = -1 then 1 else w) (told (own e) 32) := rfl
  have hwant := fun τ => sz_wanted g hg e (wide e w) τ hs he
  have hv64 := ((WfE_iff e).1 hw).1.2.2.1
  have hh := fun τ h => sz_holds (wide e w) e.v τ h hv64
  have hsub := fun (x : E) (hx : x ∈ e.l) w τ h => ih x hx w τ (shp_part hs hx) (by have := part_nodes hx; omega) (((WfE_iff e).1 hw).2 x hx) h
  clear ih hw
  refine calls_x mixed Try.func39 b39 n39 rfl q39 (by simp) ?_; unfold c39 r39
  by_cases hbit : w = -1 ∧ 1 < own e
  · obtain ⟨rfl, hb⟩ := hbit
    rw [size_bit hb, encE_zero]
    clear hsub hh hwant ht1 ht2
    repeat' (first | simp (maxDischargeDepth := 9) -implicitDefEqProofs -dsimp only [go_sem, seval, gt_iff_lt, *] | simp (disch := omega) only [wrap64] | (with_reducible (first | apply Zb | apply Zc | apply Zd | apply Zg) <;> intro hq) | ((with_reducible refine Zv ?_ ?_); focus (first | omega | exact rfl)) | ((with_reducible refine Zu ?_ ?_); focus omega) | ((with_reducible refine Zt (fun oF hoF hnF hnF' => ?_)); (try simp only [upd_none, ne_eq, not_and] at hoF)) | ((with_reducible apply ACalls.one1); (focus ((first | with_reducible refine hown _ | with_reducible refine ACalls.flA (hown _) ?_) <;> (first | (simp (maxDischargeDepth := 9) -implicitDefEqProofs -dsimp only [go_sem, seval, *]; done) | omega))); (focus (first | trivial | with_reducible exact rfl | (simp (maxDischargeDepth := 9) -implicitDefEqProofs -dsimp only [go_sem, seval]; done)))))
    refine fin_eq ?_
    (repeat' (first | simp (maxDischargeDepth := 9) -implicitDefEqProofs -dsimp only [go_sem, seval, *] | simp (disch := omega) only [wrap64])) <;> (repeat' refine And.intro ?_ ?_) <;> (first | omega | rfl | assumption | skip)
  -- the width
  have hhead : ∃ w', w' = (if w = -1 then 1 else w) := ⟨_, rfl⟩
  obtain ⟨w', hw'⟩ := hhead
  rw [← hw'] at hwd
  obtain ⟨W, hW⟩ : ∃ W, wide e w = W := ⟨_, rfl⟩
  obtain ⟨o, ho⟩ : ∃ o, own e = o := ⟨_, rfl⟩
  obtain ⟨t1, ht1'⟩ : ∃ t, told o 32 = t := ⟨_, rfl⟩
  rw [ho, ht1', hW] at hwd
  rw [ho] at hown
  rw [ho, ht1'] at ht1 ht2
  have hw2 : told w' t1 = W := hwd.symm
  have hcase : (w = -1 ∧ w' = 1 ∧ ¬ 1 < o) ∨ ((w == -1) = false ∧ w' = w) := by
    by_cases hm1 : w = -1
    · exact .inl ⟨hm1, by rw [hw', if_pos hm1], fun h => hbit ⟨hm1, by rw [ho]; exact h⟩⟩
    · exact .inr ⟨by simp [hm1], by rw [hw', if_neg hm1]⟩
  rw [hW] at hh hwant hwp
  clear hw' hwd ht1'
  by_cases hnum : e.op = 1 ∧ e.w = 0
  · rw [size_num hbit hnum.1 hnum.2, hW]
    obtain ⟨n1, n2⟩ := hnum
    obtain ⟨b, hb⟩ : ∃ b, holds W e.v = b := ⟨_, rfl⟩
    rw [hb] at hh ⊢
    clear hsub hwant hb hbit hW ho
    cases b
    · rw [if_neg (by simp), encE_zero]
      rcases hcase with ⟨rfl, rfl, h3⟩ | ⟨h3, rfl⟩
      all_goals
        repeat' (first | simp (maxDischargeDepth := 9) -implicitDefEqProofs -dsimp only [go_sem, seval, gt_iff_lt, *] | simp (disch := omega) only [wrap64] | (with_reducible (first | apply Zb | apply Zc | apply Zd | apply Zg) <;> intro hq) | ((with_reducible refine Zv ?_ ?_); focus (first | omega | exact rfl)) | ((with_reducible refine Zu ?_ ?_); focus omega) | ((with_reducible refine Zt (fun oF hoF hnF hnF' => ?_)); (try simp only [upd_none, ne_eq, not_and] at hoF)) | ((with_reducible apply ACalls.one1); (focus ((first | with_reducible refine hown _ | with_reducible refine ht1 _ | with_reducible refine ht2 _ _ | with_reducible refine hh _ ?_ | with_reducible refine ACalls.flA (hown _) ?_ | with_reducible refine ACalls.flA (ht1 _) ?_ | with_reducible refine ACalls.flA (ht2 _ _) ?_ | with_reducible refine ACalls.flA (hh _ ?_) ?_) <;> (first | (simp (maxDischargeDepth := 9) -implicitDefEqProofs -dsimp only [go_sem, seval, *]; done) | omega))); (focus (first | trivial | with_reducible exact rfl | (simp (maxDischargeDepth := 9) -implicitDefEqProofs -dsimp only [go_sem, seval]; done)))))
        refine fin_eq ?_
        (repeat' (first | simp (maxDischargeDepth := 9) -implicitDefEqProofs -dsimp only [go_sem, seval, *] | simp (disch := omega) only [wrap64])) <;> (repeat' refine And.intro ?_ ?_) <;> (first | omega | rfl | assumption | skip)
    · rw [if_pos rfl, encE_num]
      rcases hcase with ⟨rfl, rfl, h3⟩ | ⟨h3, rfl⟩
      all_goals
        repeat' (first | simp (maxDischargeDepth := 9) -implicitDefEqProofs -dsimp only [go_sem, seval, gt_iff_lt, *] | simp (disch := omega) only [wrap64] | (with_reducible (first | apply Zb | apply Zc | apply Zd | apply Zg) <;> intro hq) | ((with_reducible refine Zv ?_ ?_); focus (first | omega | exact rfl)) | ((with_reducible refine Zu ?_ ?_); focus omega) | ((with_reducible refine Zt (fun oF hoF hnF hnF' => ?_)); (try simp only [upd_none, ne_eq, not_and] at hoF)) | ((with_reducible apply ACalls.one1); (focus ((first | with_reducible refine hown _ | with_reducible refine ht1 _ | with_reducible refine ht2 _ _ | with_reducible refine hh _ ?_ | with_reducible refine ACalls.flA (hown _) ?_ | with_reducible refine ACalls.flA (ht1 _) ?_ | with_reducible refine ACalls.flA (ht2 _ _) ?_ | with_reducible refine ACalls.flA (hh _ ?_) ?_) <;> (first | (simp (maxDischargeDepth := 9) -implicitDefEqProofs -dsimp only [go_sem, seval, *]; done) | omega))); (focus (first | trivial | with_reducible exact rfl | (simp (maxDischargeDepth := 9) -implicitDefEqProofs -dsimp only [go_sem, seval]; done)))))
        refine fin_eq ?_
        (repeat' (first | simp (maxDischargeDepth := 9) -implicitDefEqProofs -dsimp only [go_sem, seval, *] | simp (disch := omega) only [wrap64])) <;> (repeat' refine And.intro ?_ ?_) <;> (first | omega | rfl | assumption | skip)
  · have hp : ((e.op == 1) = true ∧ (e.w == 0) = false) ∨ (e.op == 1) = false := by
      by_cases h : e.op = 1
      · exact .inl ⟨by simp [h], by simp; omega⟩
      · exact .inr (by simp [h])
    cases hws : wants e W with
    | none =>
      rw [size_none hbit hnum (by rw [hW]; exact hws), encE_zero]
      rw [hws] at hwant
      have vn : wantV none = .tup [.slice [] .no, .int .i64 90] := rfl
      rw [vn] at hwant
      clear hsub hh hbit hW ho hws vn hnum
      rcases hp with ⟨p1, p2⟩ | p1 <;> rcases hcase with ⟨rfl, rfl, h3⟩ | ⟨h3, rfl⟩
      all_goals
        repeat' (first | simp (maxDischargeDepth := 9) -implicitDefEqProofs -dsimp only [go_sem, seval, gt_iff_lt, *] | simp (disch := omega) only [wrap64] | (with_reducible (first | apply Zb | apply Zc | apply Zd | apply Zg) <;> intro hq) | ((with_reducible refine Zv ?_ ?_); focus (first | omega | exact rfl)) | ((with_reducible refine Zu ?_ ?_); focus omega) | ((with_reducible refine Zt (fun oF hoF hnF hnF' => ?_)); (try simp only [upd_none, ne_eq, not_and] at hoF)) | ((with_reducible apply ACalls.one1); (focus ((first | with_reducible refine hown _ | with_reducible refine ht1 _ | with_reducible refine ht2 _ _ | with_reducible refine hwant _ | with_reducible refine ACalls.flA (hown _) ?_ | with_reducible refine ACalls.flA (ht1 _) ?_ | with_reducible refine ACalls.flA (ht2 _ _) ?_ | with_reducible refine ACalls.flA (hwant _) ?_) <;> (first | (simp (maxDischargeDepth := 9) -implicitDefEqProofs -dsimp only [go_sem, seval, *]; done) | omega))); (focus (first | trivial | with_reducible exact rfl | (simp (maxDischargeDepth := 9) -implicitDefEqProofs -dsimp only [go_sem, seval]; done)))))
        refine fin_eq ?_
        (repeat' (first | simp (maxDischargeDepth := 9) -implicitDefEqProofs -dsimp only [go_sem, seval, *] | simp (disch := omega) only [wrap64])) <;> (repeat' refine And.intro ?_ ?_) <;> (first | omega | rfl | assumption | skip)
    | some ws =>
      have hsz := size_some hbit hnum (by rw [hW]; exact hws)
      have hwt := wants_wt hs hws
      have hwl := wt_len hs hwt
      have hge := wt_ge hg hs hwp hwt
      rw [hws] at hwant
      have vs : wantV (some ws) = .tup [.slice (ws.map encInt) .no, .int .i64 0] := rfl
      rw [vs] at hwant
      have hext1 : e.op = 8 → e.l.length = 1 := fun h => by
        cases shp_nd hs <;> first | omega | skip
        rename_i hl _ _ _ _; rw [hl]; rfl
      have kE : ∀ i, (h1 : i < e.l.length) → (h2 : i < ws.length) → (∀ j, (h3 : j < e.l.length) → (h4 : j < ws.length) → j < i → (size e.l[j] ws[j]).2 = 0) → (size e.l[i] ws[i]).2 ≠ 0 → size e w = (zE, (size e.l[i] ws[i]).2) := fun i h1 h2 h3 h4 => by
        rw [hsz, runL_err h1 h2 (fun j hj => h3 j (by omega) (by omega) hj) h4, sizeK, if_pos h4]
      have kA := fun h => runL_all (l := e.l) (ws := ws) hwl h
      have kO : (∀ j, (h3 : j < e.l.length) → (h4 : j < ws.length) → (size e.l[j] ws[j]).2 = 0) → ¬ (e.op = 8 ∧ (e.n = 33 ∧ part0 (resTo e.l ws e.l.length) < W ∨ e.n ≠ 33 ∧ W < part0 (resTo e.l ws e.l.length))) → size e w = (e.set W (resTo e.l ws e.l.length), 0) := fun h h2 => by
        rw [hsz, kA h, sizeK, if_neg (by simp), hW, if_neg h2]
      have kB : (∀ j, (h3 : j < e.l.length) → (h4 : j < ws.length) → (size e.l[j] ws[j]).2 = 0) → (e.op = 8 ∧ (e.n = 33 ∧ part0 (resTo e.l ws e.l.length) < W ∨ e.n ≠ 33 ∧ W < part0 (resTo e.l ws e.l.length))) → size e w = (zE, 90) := fun h h2 => by
        rw [hsz, kA h, sizeK, if_neg (by simp), hW, if_pos h2]
      have kr := fun i hi => resTo_len (l := e.l) (ws := ws) hwl (i := i) hi
      have ks := fun i h1 h2 => resTo_succ (l := e.l) (ws := ws) (i := i) h1 h2
      obtain ⟨R, hR⟩ : ∃ R, size e w = R := ⟨_, rfl⟩
      rw [hR] at kE kO kB ⊢
      have hn1 : e.l.length ≤ 16777216 := by omega
      have hrz := rowT_zero e.l.length
      clear hh hbit hws vs hnum hwt he hs ho hR hsz kA hW
      rcases hp with ⟨p1, p2⟩ | p1 <;> rcases hcase with ⟨rfl, rfl, h3⟩ | ⟨h3, rfl⟩
      all_goals
        repeat' (first | simp (maxDischargeDepth := 9) -implicitDefEqProofs -dsimp only [go_sem, seval, *] | simp (disch := omega) only [wrap64] | (with_reducible (first | apply Zb | apply Zc | apply Zd | apply Zg) <;> intro hq) | ((with_reducible refine Zv ?_ ?_); focus (first | omega | exact rfl)) | ((with_reducible refine Zu ?_ ?_); focus omega) | ((with_reducible refine Zt (fun oF hoF hnF hnF' => ?_)); (try simp only [upd_none, ne_eq, not_and] at hoF)))
        rename_i o2 ho2 nx1 nx2
        obtain ⟨o4, e4⟩ : ∃ x, x = oF := ⟨oF, rfl⟩
        subst e4
        obtain ⟨a1, ho4⟩ := hoF
        have a2 : ¬ o2 = o4 := fun e => a1 e.symm
        clear nx1 nx2 hnF hnF'
        repeat' (first | simp (maxDischargeDepth := 9) -implicitDefEqProofs -dsimp only [go_sem, seval, gt_iff_lt, *] | simp (disch := omega) only [wrap64] | (with_reducible (first | apply Zb | apply Zc | apply Zd | apply Zg) <;> intro hq) | ((with_reducible refine Zv ?_ ?_); focus (first | omega | exact rfl)) | ((with_reducible refine Zu ?_ ?_); focus omega) | ((with_reducible refine Zt (fun oF hoF hnF hnF' => ?_)); (try simp only [upd_none, ne_eq, not_and] at hoF)) | ((with_reducible apply ACalls.one1); (focus ((first | with_reducible refine hown _ | with_reducible refine ht1 _ | with_reducible refine ht2 _ _ | with_reducible refine hwant _ | with_reducible refine ACalls.flA (hown _) ?_ | with_reducible refine ACalls.flA (ht1 _) ?_ | with_reducible refine ACalls.flA (ht2 _ _) ?_ | with_reducible refine ACalls.flA (hwant _) ?_) <;> (first | (simp (maxDischargeDepth := 9) -implicitDefEqProofs -dsimp only [go_sem, seval, *]; done) | omega))); (focus (first | trivial | with_reducible exact rfl | (simp (maxDischargeDepth := 9) -implicitDefEqProofs -dsimp only [go_sem, seval]; done)))))
        obtain ⟨o8, e8⟩ : ∃ x, x = oF := ⟨oF, rfl⟩
        subst e8
        obtain ⟨a3, a4, ho8⟩ := hoF
        have a5 : ¬ o4 = o8 := fun e => a3 e.symm
        have a6 : ¬ o2 = o8 := fun e => a4 e.symm
        clear hnF hnF' hown ht1 ht2 hwant h3 hw2
        refine loop_rule (fun i : Nat => [(59, some (.int .i64 i)), (58, some (.int .i64 e.l.length)), (57, some (.slice (e.l.map encE) .no)), (6, some (.slice (ws.map encInt) .no)), (4, some (.ptr o4 0)), (8, some (.vec o8 e.l.length)), (2, some (.ptr o2 0)), (1, some (.int .i64 W))])
          (fun i => upd (upd (upd σ o2 (.cells [.int .i64 e.op, .int .i64 e.w, .int .u64 e.v, .int .i64 e.sig, .int .i64 e.hi, .int .i64 e.lo, .int .i64 e.n, .slice (e.l.map encE) .no])) o4 (.cells zN)) o8 (.vec 8 e.l.length (rowT (resTo e.l ws i) (e.l.length - i))))
          (fun i => i ≤ e.l.length ∧ ∀ j, (h3 : j < e.l.length) → (h4 : j < ws.length) → j < i → (size e.l[j] ws[j]).2 = 0) (fun i => e.l.length - i) 0 ?_ ?_
        · have e0 : resTo e.l ws 0 = [] := by simp [resTo]
          clear kE kO kB kr ks hge hext1 hsub
          (repeat' (first | simp (maxDischargeDepth := 9) -implicitDefEqProofs -dsimp only [go_sem, seval, Nat.sub_zero, *] | simp (disch := omega) only [wrap64])) <;> (repeat' refine And.intro ?_ ?_) <;> (first | omega | rfl | assumption | skip)
        · rintro i ⟨hi, hok⟩
          by_cases hlt : i < e.l.length
          · have hlt2 : i < ws.length := by omega
            have hc := fun τ => hsub e.l[i] (List.getElem_mem hlt) ws[i] τ (hge _ (List.getElem_mem hlt2))
            have kEi := kE i hlt hlt2 hok
            have ksi := ks i hlt hlt2
            have kri := kr i (by omega)
            have hstep : (size e.l[i] ws[i]).2 = 0 → ∀ j, (h3 : j < e.l.length) → (h4 : j < ws.length) → j < i + 1 → (size e.l[j] ws[j]).2 = 0 := fun h j h3 h4 h5 => by
              rcases Nat.lt_or_ge j i with q | q
              · exact hok j h3 h4 q
              · obtain rfl : j = i := by omega
                exact h
            obtain ⟨⟨x, f⟩, hxf⟩ : ∃ r, size e.l[i] ws[i] = r := ⟨_, rfl⟩
            rw [hxf] at hc kEi ksi hstep
            simp only at hc kEi ksi hstep
            clear kE kO kB kr ks hge hext1 hsub hok hxf
            obtain ⟨k, hk⟩ : ∃ k, e.l.length - i = k + 1 := ⟨e.l.length - i - 1, by omega⟩
            have hk2 : e.l.length - (i + 1) = k := by omega
            have hput := rowT_put (resTo e.l ws i) x k
            rw [kri, ← ksi] at hput
            obtain ⟨X, hX⟩ : ∃ X, resTo e.l ws i = X := ⟨_, rfl⟩
            rw [hX] at kri ksi hput ⊢
            rw [hk]
            by_cases hf : f = 0
            · subst hf
              have hn := hstep rfl
              have hrl : i * 8 + 8 ≤ (rowT X (k + 1)).length := by rw [rowT_len]; omega
              clear kEi hstep hX
              repeat' (first | simp (maxDischargeDepth := 9) -implicitDefEqProofs -dsimp only [go_sem, seval, *] | simp (disch := omega) only [wrap64] | (with_reducible (first | apply Zb | apply Zc | apply Zd | apply Zg) <;> intro hq) | ((with_reducible refine Zv ?_ ?_); focus (first | omega | exact rfl)) | ((with_reducible refine Zu ?_ ?_); focus omega) | ((with_reducible refine Zt (fun oF hoF hnF hnF' => ?_)); (try simp only [upd_none, ne_eq, not_and] at hoF)) | ((with_reducible apply ACalls.one1); (focus ((first | with_reducible refine hc _ | with_reducible refine ACalls.flA (hc _) ?_) <;> (first | (simp (maxDischargeDepth := 9) -implicitDefEqProofs -dsimp only [go_sem, seval, *]; done) | omega))); (focus (first | trivial | with_reducible exact rfl | (simp (maxDischargeDepth := 9) -implicitDefEqProofs -dsimp only [go_sem, seval]; done)))) | ((with_reducible apply id_one0); (focus (intro tS hS; ((first | with_reducible refine hc _ | with_reducible refine ACalls.flA (hc _) ?_) <;> (first | (simp (maxDischargeDepth := 9) -implicitDefEqProofs -dsimp only [go_sem, seval, *]; done) | omega | ((with_reducible refine Sub.get hS ?_); simp (maxDischargeDepth := 9) -implicitDefEqProofs -dsimp only [go_sem, seval, *]; done))))); (focus (first | trivial | (simp (maxDischargeDepth := 9) -implicitDefEqProofs -dsimp only [go_sem, seval, *]; done)))))
              refine loop_next _ _ _ _ (i + 1) ?_; (repeat' (first | simp (maxDischargeDepth := 9) -implicitDefEqProofs -dsimp only [go_sem, seval, *] | simp (disch := omega) only [wrap64])) <;> (repeat' refine And.intro ?_ ?_) <;> (first | omega | rfl | assumption | skip)
              exact fun j h3 h4 h5 => hn j h3 (by omega) h5
            · have hfb : (f != 0) = true := by simpa using hf
              have hv := kEi hf
              clear kEi hstep hX hf
              rw [hv, encE_zero]
              repeat' (first | simp (maxDischargeDepth := 9) -implicitDefEqProofs -dsimp only [go_sem, seval, *] | simp (disch := omega) only [wrap64] | (with_reducible (first | apply Zb | apply Zc | apply Zd | apply Zg) <;> intro hq) | ((with_reducible refine Zv ?_ ?_); focus (first | omega | exact rfl)) | ((with_reducible refine Zu ?_ ?_); focus omega) | ((with_reducible refine Zt (fun oF hoF hnF hnF' => ?_)); (try simp only [upd_none, ne_eq, not_and] at hoF)) | ((with_reducible apply ACalls.one1); (focus ((first | with_reducible refine hc _ | with_reducible refine ACalls.flA (hc _) ?_) <;> (first | (simp (maxDischargeDepth := 9) -implicitDefEqProofs -dsimp only [go_sem, seval, *]; done) | omega))); (focus (first | trivial | with_reducible exact rfl | (simp (maxDischargeDepth := 9) -implicitDefEqProofs -dsimp only [go_sem, seval]; done)))) | ((with_reducible apply id_one0); (focus (intro tS hS; ((first | with_reducible refine hc _ | with_reducible refine ACalls.flA (hc _) ?_) <;> (first | (simp (maxDischargeDepth := 9) -implicitDefEqProofs -dsimp only [go_sem, seval, *]; done) | omega | ((with_reducible refine Sub.get hS ?_); simp (maxDischargeDepth := 9) -implicitDefEqProofs -dsimp only [go_sem, seval, *]; done))))); (focus (first | trivial | (simp (maxDischargeDepth := 9) -implicitDefEqProofs -dsimp only [go_sem, seval, *]; done)))))
              refine fin_eq ?_
              (repeat' (first | simp (maxDischargeDepth := 9) -implicitDefEqProofs -dsimp only [go_sem, seval, *] | simp (disch := omega) only [wrap64])) <;> (repeat' refine And.intro ?_ ?_) <;> (first | omega | rfl | assumption | skip)
          · have ei : i = e.l.length := by omega
            subst ei
            have hall := fun j h3 h4 => hok j h3 h4 h3
            have kO' := kO hall
            have kB' := kB hall
            have hXl := kr e.l.length (Nat.le_refl _)
            obtain ⟨X, hX⟩ : ∃ X, resTo e.l ws e.l.length = X := ⟨_, rfl⟩
            rw [hX] at kO' kB' hXl ⊢
            rw [Nat.sub_self, rowT_all]
            have hun := unflat_e X
            rw [hXl] at hun
            clear kE kO kB kr ks hge hsub hok hall hX hrz
            by_cases h8 : e.op = 8
            · have hl1 := hext1 h8
              rw [hl1] at hXl
              obtain ⟨x, rfl⟩ := len1 hXl
              have hfx : flat ([x].map encE) = eL x := rfl
              have hpx : part0 [x] = x.w := rfl
              have hmx : [x].map encE = [encE x] := rfl
              rw [hfx, hmx, hl1] at hun
              rw [hfx]
              rw [hpx] at kO' kB'
              clear hext1 hfx hpx hXl
              by_cases hbad : e.n = 33 ∧ x.w < W ∨ e.n ≠ 33 ∧ W < x.w
              · rw [kB' ⟨h8, hbad⟩, encE_zero]
                clear kO' kB'
                repeat' (first | simp (maxDischargeDepth := 9) -implicitDefEqProofs -dsimp only [go_sem, seval, gt_iff_lt, *] | simp (disch := omega) only [wrap64] | (with_reducible (first | apply Zb | apply Zc | apply Zd | apply Zg) <;> intro hq) | ((with_reducible refine Zv ?_ ?_); focus (first | omega | exact rfl)) | ((with_reducible refine Zu ?_ ?_); focus omega) | ((with_reducible refine Zt (fun oF hoF hnF hnF' => ?_)); (try simp only [upd_none, ne_eq, not_and] at hoF)))
                all_goals first | (exfalso; omega) | skip
                all_goals
                  refine fin_eq ?_
                  (repeat' (first | simp (maxDischargeDepth := 9) -implicitDefEqProofs -dsimp only [go_sem, seval, *] | simp (disch := omega) only [wrap64])) <;> (repeat' refine And.intro ?_ ?_) <;> (first | omega | rfl | assumption | skip)
              · rw [kO' fun h => hbad h.2, encE_set, hmx]
                clear kO' kB'
                repeat' (first | simp (maxDischargeDepth := 9) -implicitDefEqProofs -dsimp only [go_sem, seval, gt_iff_lt, imp_self, *] | simp (disch := omega) only [wrap64] | (with_reducible (first | apply Zb | apply Zc | apply Zd | apply Zg) <;> intro hq) | ((with_reducible refine Zv ?_ ?_); focus (first | omega | exact rfl)) | ((with_reducible refine Zu ?_ ?_); focus omega) | ((with_reducible refine Zt (fun oF hoF hnF hnF' => ?_)); (try simp only [upd_none, ne_eq, not_and] at hoF)))
                all_goals first | (exfalso; omega) | skip
                all_goals
                  refine fin_eq ?_
                  (repeat' (first | simp (maxDischargeDepth := 9) -implicitDefEqProofs -dsimp only [go_sem, seval, *] | simp (disch := omega) only [wrap64])) <;> (repeat' refine And.intro ?_ ?_) <;> (first | omega | rfl | assumption | skip)
            · have hb8 : (e.op == 8) = false := by simp [h8]
              rw [kO' fun h => h8 h.1, encE_set]
              clear kO' kB' hext1
              repeat' (first | simp (maxDischargeDepth := 9) -implicitDefEqProofs -dsimp only [go_sem, seval, imp_self, *] | simp (disch := omega) only [wrap64] | (with_reducible (first | apply Zb | apply Zc | apply Zd | apply Zg) <;> intro hq) | ((with_reducible refine Zv ?_ ?_); focus (first | omega | exact rfl)) | ((with_reducible refine Zu ?_ ?_); focus omega) | ((with_reducible refine Zt (fun oF hoF hnF hnF' => ?_)); (try simp only [upd_none, ne_eq, not_and] at hoF)))
              refine fin_eq ?_
              (repeat' (first | simp (maxDischargeDepth := 9) -implicitDefEqProofs -dsimp only [go_sem, seval, *] | simp (disch := omega) only [wrap64])) <;> (repeat' refine And.intro ?_ ?_) <;> (first | omega | rfl | assumption | skip)
end Go.Proofs.Ytdiebjnjhgbklaa

