/- bdd: plain models: diagrams, tables, what is put. No program in sight. -/
import Derived.Test.YtjichkelfhcbcaaAbsU
import Derived.Test.YtjichkelfhcbcaaEqvAigB
set_option linter.unusedSimpArgs false
set_option linter.unusedVariables false
namespace Go.Proofs.Ytjichkelfhcbcaa.A
open Abs Fil
theorem aig_And (g : Aig) (a b : Int) (σ : Sig) (hs : Wf g) (ha : I64 a) (hb : I64 b) :
    ACalls Try.prog 51 [encAig g, .int .i64 a, .int .i64 b] σ (fun r σ' => r = .ret (.tup [encAig (g.And a b).1, .int .i64 (g.And a b).2.1, .int .i64 (g.And a b).2.2]) ∧ σ' = σ) := by
  refine calls_x mixed Try.func51 b51 n51 rfl q51 (by simp) ?_; unfold c51 r51
  have hok : g.checkL g.check [a, b] = 0 → Fine g ∧ g.lit a = true ∧ g.lit b = true := fun h => by
    obtain ⟨h1, h2⟩ := checkL_fine hs h
    exact ⟨h1, h2 a (by simp), h2 b (by simp)⟩
  have hl : ∀ x ∈ [a, b], I64 x := by simp [ha, hb]
  repeat' (first | simp (maxDischargeDepth := 9) -implicitDefEqProofs -dsimp only [go_sem, seval, *] | ((with_reducible refine Zt (fun oF hoF hnF hnF' => ?_)); (try simp only [upd_none, ne_eq, not_and] at hoF)) | ((with_reducible apply ACalls.one1); (focus (first | ((first | with_reducible refine aig_and _ g (g.checkL g.check [a, b]) a b _ ?_ hok | with_reducible refine aig_end _ (g.andW (g.checkL g.check [a, b]) a b).1 (g.andW (g.checkL g.check [a, b]) a b).2.1 _ _ ?_) <;> (first | (simp (maxDischargeDepth := 9) -implicitDefEqProofs -dsimp only [go_sem, seval, *]; done) | omega)) | (with_reducible refine ACalls.flA (aig_and _ g (g.checkL g.check [a, b]) a b _ ?_ hok) ?_ <;> (first | (simp (maxDischargeDepth := 9) -implicitDefEqProofs -dsimp only [go_sem, seval, *]; done) | omega)) | (with_reducible refine ACalls.flA (aig_end _ (g.andW (g.checkL g.check [a, b]) a b).1 (g.andW (g.checkL g.check [a, b]) a b).2.1 _ _ ?_) ?_ <;> (first | (simp (maxDischargeDepth := 9) -implicitDefEqProofs -dsimp only [go_sem, seval, *]; done) | omega)))); (focus (first | trivial | with_reducible exact rfl | (simp (maxDischargeDepth := 9) -implicitDefEqProofs -dsimp only [go_sem, seval]; done)))) | ((with_reducible apply ACalls.newO); (focus (first | ((first | with_reducible refine aig_begin g [a, b] _ hs ?_ hl) <;> (first | (simp (maxDischargeDepth := 9) -implicitDefEqProofs -dsimp only [go_sem, seval, *]; done) | omega)) | (with_reducible refine ACalls.flA (aig_begin g [a, b] _ hs ?_ hl) ?_ <;> (first | (simp (maxDischargeDepth := 9) -implicitDefEqProofs -dsimp only [go_sem, seval, *]; done) | omega)))); (intro oF hoF hnF hnF'); (try simp only [upd_none, ne_eq, not_and] at hoF)))
  refine fin_eq ?_
  (repeat' (first | simp (maxDischargeDepth := 9) -implicitDefEqProofs -dsimp only [go_sem, seval, Aig.And, *])) <;> (repeat' refine And.intro ?_ ?_) <;> (first | omega | rfl | assumption | skip)
theorem aig_Or (g : Aig) (a b : Int) (σ : Sig) (hs : Wf g) (ha : I64 a) (hb : I64 b) :
    ACalls Try.prog 53 [encAig g, .int .i64 a, .int .i64 b] σ (fun r σ' => r = .ret (.tup [encAig (g.Or a b).1, .int .i64 (g.Or a b).2.1, .int .i64 (g.Or a b).2.2]) ∧ σ' = σ) := by
  refine calls_x mixed Try.func53 b53 n53 rfl q53 (by simp) ?_; unfold c53 r53
  have hok : g.checkL g.check [a, b] = 0 → Fine g ∧ g.lit a = true ∧ g.lit b = true := fun h => by
    obtain ⟨h1, h2⟩ := checkL_fine hs h
    exact ⟨h1, h2 a (by simp), h2 b (by simp)⟩
  have hl : ∀ x ∈ [a, b], I64 x := by simp [ha, hb]
  repeat' (first | simp (maxDischargeDepth := 9) -implicitDefEqProofs -dsimp only [go_sem, seval, *] | ((with_reducible refine Zt (fun oF hoF hnF hnF' => ?_)); (try simp only [upd_none, ne_eq, not_and] at hoF)) | ((with_reducible apply ACalls.one1); (focus (first | ((first | with_reducible refine aig_or _ g (g.checkL g.check [a, b]) a b _ ?_ ha hb hok | with_reducible refine aig_end _ (g.orW (g.checkL g.check [a, b]) a b).1 (g.orW (g.checkL g.check [a, b]) a b).2.1 _ _ ?_) <;> (first | (simp (maxDischargeDepth := 9) -implicitDefEqProofs -dsimp only [go_sem, seval, *]; done) | omega)) | (with_reducible refine ACalls.flA (aig_or _ g (g.checkL g.check [a, b]) a b _ ?_ ha hb hok) ?_ <;> (first | (simp (maxDischargeDepth := 9) -implicitDefEqProofs -dsimp only [go_sem, seval, *]; done) | omega)) | (with_reducible refine ACalls.flA (aig_end _ (g.orW (g.checkL g.check [a, b]) a b).1 (g.orW (g.checkL g.check [a, b]) a b).2.1 _ _ ?_) ?_ <;> (first | (simp (maxDischargeDepth := 9) -implicitDefEqProofs -dsimp only [go_sem, seval, *]; done) | omega)))); (focus (first | trivial | with_reducible exact rfl | (simp (maxDischargeDepth := 9) -implicitDefEqProofs -dsimp only [go_sem, seval]; done)))) | ((with_reducible apply ACalls.newO); (focus (first | ((first | with_reducible refine aig_begin g [a, b] _ hs ?_ hl) <;> (first | (simp (maxDischargeDepth := 9) -implicitDefEqProofs -dsimp only [go_sem, seval, *]; done) | omega)) | (with_reducible refine ACalls.flA (aig_begin g [a, b] _ hs ?_ hl) ?_ <;> (first | (simp (maxDischargeDepth := 9) -implicitDefEqProofs -dsimp only [go_sem, seval, *]; done) | omega)))); (intro oF hoF hnF hnF'); (try simp only [upd_none, ne_eq, not_and] at hoF)))
  refine fin_eq ?_
  (repeat' (first | simp (maxDischargeDepth := 9) -implicitDefEqProofs -dsimp only [go_sem, seval, Aig.Or, *])) <;> (repeat' refine And.intro ?_ ?_) <;> (first | omega | rfl | assumption | skip)
theorem aig_Check (g : Aig) (σ : Sig) (hs : Wf g) : ACalls Try.prog 33 [encAig g] σ (fun r σ' => r = .ret (.int .i64 g.check) ∧ σ' = σ) := by
  refine calls_x mixed Try.func33 b33 n33 rfl q33 (by simp) ?_; unfold c33 r33
  repeat' (first | simp (maxDischargeDepth := 9) -implicitDefEqProofs -dsimp only [go_sem, seval, *] | ((with_reducible apply ACalls.newO); (focus (first | ((first | with_reducible refine aig_begin g [] _ hs ?_ (by simp)) <;> (first | (simp (maxDischargeDepth := 9) -implicitDefEqProofs -dsimp only [go_sem, seval, *]; done) | omega)) | (with_reducible refine ACalls.flA (aig_begin g [] _ hs ?_ (by simp)) ?_ <;> (first | (simp (maxDischargeDepth := 9) -implicitDefEqProofs -dsimp only [go_sem, seval, *]; done) | omega)))); (intro oF hoF hnF hnF'); (try simp only [upd_none, ne_eq, not_and] at hoF)))
  refine fin_eq ?_
  (repeat' (first | simp (maxDischargeDepth := 9) -implicitDefEqProofs -dsimp only [go_sem, seval, Aig.checkL, *])) <;> (repeat' refine And.intro ?_ ?_) <;> (first | omega | rfl | assumption | skip)
theorem pairs_ok {g : Aig} {e a b c d : Int} (hs : Wf g) (h : e = 0 → Fine g ∧ g.lit a = true ∧ g.lit b = true ∧ g.lit c = true ∧ g.lit d = true) :
    ∃ r s, g.andW e a b = r ∧ r.1.andW r.2.1 c d = s ∧ g.pairs e a b c d = s.1.orW s.2.1 r.2.2 s.2.2 ∧ I64 r.2.2 ∧ I64 s.2.2 ∧ (e = 0 → Fine g ∧ g.lit a = true ∧ g.lit b = true) ∧
      (r.2.1 = 0 → Fine r.1 ∧ r.1.lit c = true ∧ r.1.lit d = true) ∧ (s.2.1 = 0 → Fine s.1 ∧ s.1.lit r.2.2 = true ∧ s.1.lit s.2.2 = true) := by
  have hok : e = 0 → Fine g ∧ g.lit a = true ∧ g.lit b = true := fun he => ⟨(h he).1, (h he).2.1, (h he).2.2.1⟩
  obtain ⟨k1, k2, _⟩ := andW_ok hok
  have hok2 : (g.andW e a b).2.1 = 0 → Fine (g.andW e a b).1 ∧ (g.andW e a b).1.lit c = true ∧ (g.andW e a b).1.lit d = true := fun hr => by
    obtain ⟨h1, h2, h3, h4, h5⟩ := h (andW_err hr)
    exact ⟨(k1 hr).1, k2.lit h4, k2.lit h5⟩
  obtain ⟨m1, m2, _⟩ := andW_ok hok2
  exact ⟨_, _, rfl, rfl, rfl, andW_range hok, andW_range hok2, hok, hok2, fun hs => ⟨(m1 hs).1, m2.lit (k1 (andW_err hs)).2, (m1 hs).2⟩⟩
theorem aig_Xor (g : Aig) (a b : Int) (σ : Sig) (hs : Wf g) (ha : I64 a) (hb : I64 b) :
    ACalls Try.prog 54 [encAig g, .int .i64 a, .int .i64 b] σ (fun r σ' => r = .ret (.tup [encAig (g.Xor a b).1, .int .i64 (g.Xor a b).2.1, .int .i64 (g.Xor a b).2.2]) ∧ σ' = σ) := by
  refine calls_x mixed Try.func54 b54 n54 rfl q54 (by simp) ?_; unfold c54 r54
  have hl : ∀ x ∈ [a, b], I64 x := by simp [ha, hb]
  obtain ⟨e, he⟩ : ∃ e, g.checkL g.check [a, b] = e := ⟨_, rfl⟩
  obtain ⟨r, s, hr, hss, hp, r1, s1, o1, o2, o3⟩ := pairs_ok (e := e) (a := a) (b := turn b) (c := turn a) (d := b) hs (fun h => by
    obtain ⟨h1, h2⟩ := checkL_fine hs (he.trans h)
    exact ⟨h1, h2 a (by simp), turn_lit (h2 b (by simp)), turn_lit (h2 a (by simp)), h2 b (by simp)⟩)
  obtain ⟨ha1, ha2⟩ := ha
  obtain ⟨hb1, hb2⟩ := hb
  repeat' (first | simp (maxDischargeDepth := 9) -implicitDefEqProofs -dsimp only [go_sem, seval, *] | simp (disch := omega) only [xor1] | ((with_reducible refine Zt (fun oF hoF hnF hnF' => ?_)); (try simp only [upd_none, ne_eq, not_and] at hoF)) | ((with_reducible apply ACalls.one1); (focus (first | ((first | with_reducible refine aig_and _ g e a (turn b) _ ?_ o1 | with_reducible refine aig_and _ r.1 r.2.1 (turn a) b _ ?_ o2 | with_reducible refine aig_or _ s.1 s.2.1 r.2.2 s.2.2 _ ?_ r1 s1 o3 | with_reducible refine aig_end _ (s.1.orW s.2.1 r.2.2 s.2.2).1 (s.1.orW s.2.1 r.2.2 s.2.2).2.1 _ _ ?_) <;> (first | (simp (maxDischargeDepth := 9) -implicitDefEqProofs -dsimp only [go_sem, seval, *]; done) | omega)) | (with_reducible refine ACalls.flA (aig_and _ g e a (turn b) _ ?_ o1) ?_ <;> (first | (simp (maxDischargeDepth := 9) -implicitDefEqProofs -dsimp only [go_sem, seval, *]; done) | omega)) | (with_reducible refine ACalls.flA (aig_and _ r.1 r.2.1 (turn a) b _ ?_ o2) ?_ <;> (first | (simp (maxDischargeDepth := 9) -implicitDefEqProofs -dsimp only [go_sem, seval, *]; done) | omega)) | (with_reducible refine ACalls.flA (aig_or _ s.1 s.2.1 r.2.2 s.2.2 _ ?_ r1 s1 o3) ?_ <;> (first | (simp (maxDischargeDepth := 9) -implicitDefEqProofs -dsimp only [go_sem, seval, *]; done) | omega)) | (with_reducible refine ACalls.flA (aig_end _ (s.1.orW s.2.1 r.2.2 s.2.2).1 (s.1.orW s.2.1 r.2.2 s.2.2).2.1 _ _ ?_) ?_ <;> (first | (simp (maxDischargeDepth := 9) -implicitDefEqProofs -dsimp only [go_sem, seval, *]; done) | omega)))); (focus (first | trivial | with_reducible exact rfl | (simp (maxDischargeDepth := 9) -implicitDefEqProofs -dsimp only [go_sem, seval]; done)))) | ((with_reducible apply ACalls.newO); (focus (first | ((first | with_reducible refine aig_begin g [a, b] _ hs ?_ hl) <;> (first | (simp (maxDischargeDepth := 9) -implicitDefEqProofs -dsimp only [go_sem, seval, *]; done) | omega)) | (with_reducible refine ACalls.flA (aig_begin g [a, b] _ hs ?_ hl) ?_ <;> (first | (simp (maxDischargeDepth := 9) -implicitDefEqProofs -dsimp only [go_sem, seval, *]; done) | omega)))); (intro oF hoF hnF hnF'); (try simp only [upd_none, ne_eq, not_and] at hoF)))
  refine fin_eq ?_
  (repeat' (first | simp (maxDischargeDepth := 9) -implicitDefEqProofs -dsimp only [go_sem, seval, Aig.Xor, *] | simp (disch := omega) only [xor1])) <;> (repeat' refine And.intro ?_ ?_) <;> (first | omega | rfl | assumption | skip)
theorem aig_of (v : List Bool) (a : Int) (σ : Sig) (h0 : 0 ≤ a) (h1 : (a / 2).toNat < v.length) (h2 : v.length ≤ 1000000000) :
    ACalls Try.prog 111 [.slice (v.map encBool) .no, .int .i64 a] σ (fun r σ' => r = .ret (.bool (Aig.val v a)) ∧ σ' = σ) := by
  refine calls_x mixed Try.func111 b111 n111 rfl q111 (by simp) ?_; unfold c111 r111
  repeat' (first | simp (maxDischargeDepth := 9) -implicitDefEqProofs -dsimp only [go_sem, seval, *] | simp (disch := omega) only [and1, shr1'] | ((with_reducible refine Zv ?_ ?_); focus (first | omega | exact rfl)) | ((with_reducible refine Zu ?_ ?_); focus omega))
  refine fin_eq ?_
  have : Aig.val v a = (v[(a / 2).toNat] != decide (a % 2 = 1)) := by simp [Aig.val, List.getD, h1]
  rw [this]
  (repeat' (first | simp (maxDischargeDepth := 9) -implicitDefEqProofs -dsimp only [go_sem, seval, bne, beq_dec, *] | simp (disch := omega) only [and1, shr1'])) <;> (repeat' refine And.intro ?_ ?_) <;> (first | omega | rfl | assumption | skip)
theorem sl_growBool (n : Int) (σ : Sig) (h0 : 0 < n) (hb1 : n * 1 ≤ 35184372088832) (hn2 : n ≤ 1000000000000) :
    ACalls Try.prog 127 [.slice [] .nil, .int .i64 n] σ (fun r σ' => ∃ o, σ o = none ∧ r = .ret (.slice [] (.own o)) ∧ σ' = upd σ o (.grow 1 0)) :=
  lib_grow (sz := 1) (bytes := 1) mixed Try.func127 b127 n127 rfl q127 n h0 (by simpa using hb1) hn2
theorem sl_growBool0 (σ : Sig) : ACalls Try.prog 127 [.slice [] .nil, .int .i64 0] σ (fun r σ' => r = .ret (.slice [] .nil) ∧ σ' = σ) :=
  lib_grow0 (sz := 1) (bytes := 1) mixed Try.func127 b127 n127 rfl q127
theorem sl_concatBool (ls : List (List Bool)) (σ : Sig) (hlen : ls.length ≤ 1000000) (htot : ls.flatten.length ≤ 1000000000) :
    ACalls Try.prog 122 [.slice (ls.map (encRow encBool)) .no] σ (fun r σ' => (ls.flatten = [] ∧ r = .ret (.slice [] .nil) ∧ σ' = σ) ∨
      NewO σ (fun o => .slice (ls.flatten.map encBool) (.own o)) (.grow 1 ls.flatten.length) r σ') :=
  lib_concat (sz := 1) (bytes := 1) mixed Try.func122 b122 n122 rfl q122 (fun _ => rfl) (fun σ n h1 h2 h3 => sl_growBool n σ h1 (by simpa using h2) h3) sl_growBool0 ls hlen htot (by decide)
theorem sl_concatBool1 (ls : List (List Bool)) (σ : Sig) (hlen : ls.length ≤ 1000000) (htot : ls.flatten.length ≤ 1000000000) (hne : ls.flatten ≠ []) :
    ACalls Try.prog 122 [.slice (ls.map (encRow encBool)) .no] σ (NewO σ (fun o => .slice (ls.flatten.map encBool) (.own o)) (.grow 1 ls.flatten.length)) :=
  (sl_concatBool ls σ hlen htot).mono fun r s h => h.elim (fun h => (hne h.1).elim) id
theorem aig_Nodes (g : Aig) (inp st : List Bool) (σ : Sig) (hs : Wf g) :
    ACalls Try.prog 110 [encAig g, .slice (inp.map encBool) .no, .slice (st.map encBool) .no] σ (fun r σ' => r = .ret (.tup [.slice ((g.Nodes inp st).1.map encBool) .no, .int .i64 (g.Nodes inp st).2]) ∧ σ' = σ) := by
  refine calls_x mixed Try.func110 b110 n110 rfl q110 (by simp) ?_; unfold c110 r110
  have hfl := hs.flops
  by_cases hc : g.check = 0
  · by_cases hin : (inp.length : Int) = g.ins
    · by_cases hf : st.length = g.flops.length
      · have hv : g.Nodes inp st = (Aig.vals (false :: (inp ++ st)) g.ands, 0) := by simp [Aig.Nodes, *]
        have hins := (check_small hs hc).hi
        have htot : ([[false], inp, st] : List (List Bool)).flatten.length ≤ 1000000000 := by simp; omega
        have hne : ([[false], inp, st] : List (List Bool)).flatten ≠ [] := by simp
        repeat' (first | simp (maxDischargeDepth := 9) -implicitDefEqProofs -dsimp only [go_sem, seval, *] | simp (disch := omega) only [wrap64] | (with_reducible (first | apply Zp) <;> intro hq) | ((with_reducible refine Zv ?_ ?_); focus (first | omega | exact rfl)) | ((with_reducible refine Zu ?_ ?_); focus omega) | ((with_reducible refine Zt (fun oF hoF hnF hnF' => ?_)); (try simp only [upd_none, ne_eq, not_and] at hoF)) | ((with_reducible apply ACalls.one1); (focus (first | ((first | with_reducible refine aig_Check g _ hs) <;> (first | (simp (maxDischargeDepth := 9) -implicitDefEqProofs -dsimp only [go_sem, seval, *]; done) | omega)) | (with_reducible refine ACalls.flA (aig_Check g _ hs) ?_ <;> (first | (simp (maxDischargeDepth := 9) -implicitDefEqProofs -dsimp only [go_sem, seval, *]; done) | omega)))); (focus (first | trivial | with_reducible exact rfl | (simp (maxDischargeDepth := 9) -implicitDefEqProofs -dsimp only [go_sem, seval]; done)))) | ((with_reducible apply ACalls.newO); (focus (first | ((first | with_reducible refine sl_concatBool1 [[false], inp, st] _ ?_ htot hne) <;> (first | (simp (maxDischargeDepth := 9) -implicitDefEqProofs -dsimp only [go_sem, seval, *]; done) | omega)) | (with_reducible refine ACalls.flA (sl_concatBool1 [[false], inp, st] _ ?_ htot hne) ?_ <;> (first | (simp (maxDischargeDepth := 9) -implicitDefEqProofs -dsimp only [go_sem, seval, *]; done) | omega)))); (intro oF hoF hnF hnF'); (try simp only [upd_none, ne_eq, not_and] at hoF)))
        have hfine := check_fine hs hc
        have hal := hs.ands
        have hlo := hfine.lo
        have hcn := hfine.cnt
        have hfst : g.first = 1 + g.ins + g.flops.length := rfl
        obtain ⟨n1, hn1⟩ : ∃ n, n = g.first := ⟨_, rfl⟩
        rw [← hn1] at hfst
        have v0l : (false :: (inp ++ st)).length = 1 + inp.length + st.length := by simp; omega
        refine loop_rule (fun i : Nat => [(9, some (.slice ((Aig.vals (false :: (inp ++ st)) (g.ands.take i)).map encBool) (.own oF))), (36, some (.slice (g.ands.map encGate) .no)), (37, some (.int .i64 g.ands.length)), (38, some (.int .i64 i))]) (fun i => upd σ oF (.grow 1 (Aig.vals (false :: (inp ++ st)) (g.ands.take i)).length)) (fun i => i ≤ g.ands.length) (fun i => g.ands.length - i) 0 ?_ ?_
        · (repeat' (first | simp (maxDischargeDepth := 9) -implicitDefEqProofs -dsimp only [go_sem, seval, Aig.vals, *] | simp (disch := omega) only [wrap64])) <;> (repeat' refine And.intro ?_ ?_) <;> (first | omega | rfl | assumption | skip)
        · intro i hi
          by_cases hlt : i < g.ands.length
          · have hg := (gatesOk_iff.1 hfine.gok) i hlt
            rw [← hn1] at hg
            have st' := vals_step (v := false :: (inp ++ st)) hlt
            have ln := vals_len (v := false :: (inp ++ st)) (l := g.ands) (i := i) (by omega)
            rw [v0l] at ln
            obtain ⟨v, hv'⟩ : ∃ v, Aig.vals (false :: (inp ++ st)) (g.ands.take i) = v := ⟨_, rfl⟩
            rw [hv'] at ln st'
            clear hn1 v0l
            repeat' (first | simp (maxDischargeDepth := 9) -implicitDefEqProofs -dsimp only [go_sem, seval, *] | simp (disch := omega) only [wrap64] | (with_reducible (first | apply Zp) <;> intro hq) | ((with_reducible refine Zv ?_ ?_); focus (first | omega | exact rfl)) | ((with_reducible refine Zu ?_ ?_); focus omega) | ((with_reducible refine Zt (fun oF hoF hnF hnF' => ?_)); (try simp only [upd_none, ne_eq, not_and] at hoF)) | ((with_reducible apply ACalls.one1); (focus (first | ((first | with_reducible refine aig_of v g.ands[i].1 _ ?_ ?_ ?_ | with_reducible refine aig_of v g.ands[i].2 _ ?_ ?_ ?_) <;> (first | (simp (maxDischargeDepth := 9) -implicitDefEqProofs -dsimp only [go_sem, seval, *]; done) | omega)) | (with_reducible refine ACalls.flA (aig_of v g.ands[i].1 _ ?_ ?_ ?_) ?_ <;> (first | (simp (maxDischargeDepth := 9) -implicitDefEqProofs -dsimp only [go_sem, seval, *]; done) | omega)) | (with_reducible refine ACalls.flA (aig_of v g.ands[i].2 _ ?_ ?_ ?_) ?_ <;> (first | (simp (maxDischargeDepth := 9) -implicitDefEqProofs -dsimp only [go_sem, seval, *]; done) | omega)))); (focus (first | trivial | with_reducible exact rfl | (simp (maxDischargeDepth := 9) -implicitDefEqProofs -dsimp only [go_sem, seval]; done)))))
            · refine loop_next _ _ _ _ (i + 1) ?_; (repeat' (first | simp (maxDischargeDepth := 9) -implicitDefEqProofs -dsimp only [go_sem, seval, *] | simp (disch := omega) only [wrap64])) <;> (repeat' refine And.intro ?_ ?_) <;> (first | omega | rfl | assumption | skip)
            · refine loop_next _ _ _ _ (i + 1) ?_; (repeat' (first | simp (maxDischargeDepth := 9) -implicitDefEqProofs -dsimp only [go_sem, seval, *] | simp (disch := omega) only [wrap64])) <;> (repeat' refine And.intro ?_ ?_) <;> (first | omega | rfl | assumption | skip)
          · repeat' (first | simp (maxDischargeDepth := 9) -implicitDefEqProofs -dsimp only [go_sem, seval, *] | simp (disch := omega) only [wrap64] | (with_reducible (first | apply Zp) <;> intro hq) | ((with_reducible refine Zv ?_ ?_); focus (first | omega | exact rfl)) | ((with_reducible refine Zu ?_ ?_); focus omega) | ((with_reducible refine Zt (fun oF hoF hnF hnF' => ?_)); (try simp only [upd_none, ne_eq, not_and] at hoF)))
            refine fin_eq ?_
            have e0 : g.ands.take i = g.ands := List.take_of_length_le (by omega)
            (repeat' (first | simp (maxDischargeDepth := 9) -implicitDefEqProofs -dsimp only [go_sem, seval, e0, *] | simp (disch := omega) only [wrap64])) <;> (repeat' refine And.intro ?_ ?_) <;> (first | omega | rfl | assumption | skip)
      · have hv : g.Nodes inp st = ([], 1) := by simp [Aig.Nodes, *]
        have hb : ((st.length : Int) != g.flops.length) = true := by simp; omega
        repeat' (first | simp (maxDischargeDepth := 9) -implicitDefEqProofs -dsimp only [go_sem, seval, *] | simp (disch := omega) only [wrap64] | (with_reducible (first | apply Zp) <;> intro hq) | ((with_reducible refine Zv ?_ ?_); focus (first | omega | exact rfl)) | ((with_reducible refine Zu ?_ ?_); focus omega) | ((with_reducible refine Zt (fun oF hoF hnF hnF' => ?_)); (try simp only [upd_none, ne_eq, not_and] at hoF)) | ((with_reducible apply ACalls.one1); (focus (first | ((first | with_reducible refine aig_Check g _ hs) <;> (first | (simp (maxDischargeDepth := 9) -implicitDefEqProofs -dsimp only [go_sem, seval, *]; done) | omega)) | (with_reducible refine ACalls.flA (aig_Check g _ hs) ?_ <;> (first | (simp (maxDischargeDepth := 9) -implicitDefEqProofs -dsimp only [go_sem, seval, *]; done) | omega)))); (focus (first | trivial | with_reducible exact rfl | (simp (maxDischargeDepth := 9) -implicitDefEqProofs -dsimp only [go_sem, seval]; done)))))
        refine fin_eq ?_
        (repeat' (first | simp (maxDischargeDepth := 9) -implicitDefEqProofs -dsimp only [go_sem, seval, *] | simp (disch := omega) only [wrap64])) <;> (repeat' refine And.intro ?_ ?_) <;> (first | omega | rfl | assumption | skip)
    · have hv : g.Nodes inp st = ([], 1) := by simp [Aig.Nodes, *]
      have hb : ((inp.length : Int) != g.ins) = true := by simpa using hin
      repeat' (first | simp (maxDischargeDepth := 9) -implicitDefEqProofs -dsimp only [go_sem, seval, *] | simp (disch := omega) only [wrap64] | (with_reducible (first | apply Zp) <;> intro hq) | ((with_reducible refine Zv ?_ ?_); focus (first | omega | exact rfl)) | ((with_reducible refine Zu ?_ ?_); focus omega) | ((with_reducible refine Zt (fun oF hoF hnF hnF' => ?_)); (try simp only [upd_none, ne_eq, not_and] at hoF)) | ((with_reducible apply ACalls.one1); (focus (first | ((first | with_reducible refine aig_Check g _ hs) <;> (first | (simp (maxDischargeDepth := 9) -implicitDefEqProofs -dsimp only [go_sem, seval, *]; done) | omega)) | (with_reducible refine ACalls.flA (aig_Check g _ hs) ?_ <;> (first | (simp (maxDischargeDepth := 9) -implicitDefEqProofs -dsimp only [go_sem, seval, *]; done) | omega)))); (focus (first | trivial | with_reducible exact rfl | (simp (maxDischargeDepth := 9) -implicitDefEqProofs -dsimp only [go_sem, seval]; done)))))
      refine fin_eq ?_
      (repeat' (first | simp (maxDischargeDepth := 9) -implicitDefEqProofs -dsimp only [go_sem, seval, *] | simp (disch := omega) only [wrap64])) <;> (repeat' refine And.intro ?_ ?_) <;> (first | omega | rfl | assumption | skip)
  · have hv : g.Nodes inp st = ([], g.check) := by simp [Aig.Nodes, *]
    have hb : (g.check != 0) = true := by simpa using hc
    repeat' (first | simp (maxDischargeDepth := 9) -implicitDefEqProofs -dsimp only [go_sem, seval, *] | simp (disch := omega) only [wrap64] | (with_reducible (first | apply Zp) <;> intro hq) | ((with_reducible refine Zv ?_ ?_); focus (first | omega | exact rfl)) | ((with_reducible refine Zu ?_ ?_); focus omega) | ((with_reducible refine Zt (fun oF hoF hnF hnF' => ?_)); (try simp only [upd_none, ne_eq, not_and] at hoF)) | ((with_reducible apply ACalls.one1); (focus (first | ((first | with_reducible refine aig_Check g _ hs) <;> (first | (simp (maxDischargeDepth := 9) -implicitDefEqProofs -dsimp only [go_sem, seval, *]; done) | omega)) | (with_reducible refine ACalls.flA (aig_Check g _ hs) ?_ <;> (first | (simp (maxDischargeDepth := 9) -implicitDefEqProofs -dsimp only [go_sem, seval, *]; done) | omega)))); (focus (first | trivial | with_reducible exact rfl | (simp (maxDischargeDepth := 9) -implicitDefEqProofs -dsimp only [go_sem, seval]; done)))))
    refine fin_eq ?_
    (repeat' (first | simp (maxDischargeDepth := 9) -implicitDefEqProofs -dsimp only [go_sem, seval, *] | simp (disch := omega) only [wrap64])) <;> (repeat' refine And.intro ?_ ?_) <;> (first | omega | rfl | assumption | skip)
theorem aig_Eval (g : Aig) (inp st : List Bool) (σ : Sig) (hs : Wf g) :
    ACalls Try.prog 88 [encAig g, .slice (inp.map encBool) .no, .slice (st.map encBool) .no] σ (fun r σ' => r = .ret (.tup [.slice ((g.Eval inp st).1.map encBool) .no, .slice ((g.Eval inp st).2.1.map encBool) .no, .int .i64 (g.Eval inp st).2.2]) ∧ σ' = σ) := by
  refine ACalls.virt (callable_of Try.func88 b88 n88) 1 (fun oV1 hoV1 hnV1 hnV1' => ?_); (try simp only [upd_none, ne_eq, not_and] at hoV1); refine ACalls.virt (callable_of Try.func88 b88 n88) 1 (fun oV2 hoV2 hnV2 hnV2' => ?_); (try simp only [upd_none, ne_eq, not_and] at hoV2); refine calls_x mixed Try.func88 b88 n88 rfl q88 (by simp) ?_; unfold c88 r88
  by_cases h0 : (g.Nodes inp st).2 = 0
  · obtain ⟨hf, hg, h1, h2, h3, h4⟩ := nodes_ok hs h0
    have hc := hf.cnt
    have ho := hs.outs
    have hfl := hs.flops
    have hlo := hf.lo
    have hcc : 0 ≤ g.count := by unfold Aig.count; omega
    have hv : g.Eval inp st = (g.outs.map (Aig.val (g.Nodes inp st).1), g.flops.map (fun f => Aig.val (g.Nodes inp st).1 f.next), 0) := by simp [Aig.Eval, h0]
    have ez : ((0 : Int) != 0) = false := by decide
    clear h3
    repeat' (first | simp (maxDischargeDepth := 9) -implicitDefEqProofs -dsimp only [go_sem, seval, *] | simp (disch := omega) only [wrap64] | ((with_reducible refine Zv ?_ ?_); focus (first | omega | exact rfl)) | ((with_reducible refine Zu ?_ ?_); focus omega) | ((with_reducible refine Zt (fun oF hoF hnF hnF' => ?_)); (try simp only [upd_none, ne_eq, not_and] at hoF)) | ((with_reducible apply ACalls.one1); (focus (first | with_reducible refine aig_Nodes g inp st _ hs) <;> (first | (simp (maxDischargeDepth := 9) -implicitDefEqProofs -dsimp only [go_sem, seval, *]; done) | omega)); (focus (first | trivial | with_reducible exact rfl | (simp (maxDischargeDepth := 9) -implicitDefEqProofs -dsimp only [go_sem, seval]; done)))))
    generalize (g.Nodes inp st).1 = v at *
    refine loop_rule (fun i : Nat => [(27, some (.int .i64 i)), (26, some (.int .i64 g.outs.length)), (25, some (.slice (g.outs.map encInt) .no)), (6, some (.slice (((g.outs.take i).map (Aig.val v)).map encBool) (.own oV1))), (9, some (.slice (v.map encBool) .no)), (3, some (.cptr (aigL g))), (7, some (.slice [] .nil))])
      (fun i => upd (upd σ oV1 (.grow 1 i)) oV2 (.virt 1)) (fun i => i ≤ g.outs.length) (fun i => g.outs.length - i) 0 ?_ ?_
    · (repeat' (first | simp (maxDischargeDepth := 9) -implicitDefEqProofs -dsimp only [go_sem, seval, *] | simp (disch := omega) only [wrap64])) <;> (repeat' refine And.intro ?_ ?_) <;> (first | omega | rfl | assumption | skip)
    · intro i hi'
      by_cases hlt : i < g.outs.length
      · have hs' := take_succ hlt
        have hlen : (g.outs.take i).length = i := by simp; omega
        have hgo := good_outs hg (List.getElem_mem hlt)
        repeat' (first | simp (maxDischargeDepth := 9) -implicitDefEqProofs -dsimp only [go_sem, seval, *] | simp (disch := omega) only [wrap64] | ((with_reducible refine Zv ?_ ?_); focus (first | omega | exact rfl)) | ((with_reducible refine Zu ?_ ?_); focus omega) | ((with_reducible refine Zt (fun oF hoF hnF hnF' => ?_)); (try simp only [upd_none, ne_eq, not_and] at hoF)) | ((with_reducible apply ACalls.one1); (focus (first | with_reducible refine aig_of v g.outs[i] _ ?_ ?_ ?_) <;> (first | (simp (maxDischargeDepth := 9) -implicitDefEqProofs -dsimp only [go_sem, seval, *]; done) | omega)); (focus (first | trivial | with_reducible exact rfl | (simp (maxDischargeDepth := 9) -implicitDefEqProofs -dsimp only [go_sem, seval]; done)))))
        refine loop_next _ _ _ _ (i + 1) ?_; (repeat' (first | simp (maxDischargeDepth := 9) -implicitDefEqProofs -dsimp only [go_sem, seval, *] | simp (disch := omega) only [wrap64])) <;> (repeat' refine And.intro ?_ ?_) <;> (first | omega | rfl | assumption | skip)
      · repeat' (first | simp (maxDischargeDepth := 9) -implicitDefEqProofs -dsimp only [go_sem, seval, *] | simp (disch := omega) only [wrap64] | ((with_reducible refine Zv ?_ ?_); focus (first | omega | exact rfl)) | ((with_reducible refine Zu ?_ ?_); focus omega) | ((with_reducible refine Zt (fun oF hoF hnF hnF' => ?_)); (try simp only [upd_none, ne_eq, not_and] at hoF)))
        have e0 : g.outs.take i = g.outs := List.take_of_length_le (by omega)
        rw [e0]
        refine loop_rule (fun i : Nat => [(41, some (.int .i64 i)), (40, some (.int .i64 g.flops.length)), (39, some (.slice (g.flops.map encFlop) .no)), (7, some (.slice (((g.flops.take i).map fun f => Aig.val v f.next).map encBool) (.own oV2))), (9, some (.slice (v.map encBool) .no)), (6, some (.slice ((g.outs.map (Aig.val v)).map encBool) .no))])
          (fun i => upd σ oV2 (.grow 1 i)) (fun i => i ≤ g.flops.length) (fun i => g.flops.length - i) 0 ?_ ?_
        · (repeat' (first | simp (maxDischargeDepth := 9) -implicitDefEqProofs -dsimp only [go_sem, seval, *] | simp (disch := omega) only [wrap64])) <;> (repeat' refine And.intro ?_ ?_) <;> (first | omega | rfl | assumption | skip)
        · intro i hi'
          by_cases hlt : i < g.flops.length
          · have hs' := take_succ hlt
            have hlen : (g.flops.take i).length = i := by simp; omega
            have hgo := good_flops hg (List.getElem_mem hlt)
            repeat' (first | simp (maxDischargeDepth := 9) -implicitDefEqProofs -dsimp only [go_sem, seval, *] | simp (disch := omega) only [wrap64] | ((with_reducible refine Zv ?_ ?_); focus (first | omega | exact rfl)) | ((with_reducible refine Zu ?_ ?_); focus omega) | ((with_reducible refine Zt (fun oF hoF hnF hnF' => ?_)); (try simp only [upd_none, ne_eq, not_and] at hoF)) | ((with_reducible apply ACalls.one1); (focus (first | with_reducible refine aig_of v g.flops[i].next _ ?_ ?_ ?_) <;> (first | (simp (maxDischargeDepth := 9) -implicitDefEqProofs -dsimp only [go_sem, seval, *]; done) | omega)); (focus (first | trivial | with_reducible exact rfl | (simp (maxDischargeDepth := 9) -implicitDefEqProofs -dsimp only [go_sem, seval]; done)))))
            refine loop_next _ _ _ _ (i + 1) ?_; (repeat' (first | simp (maxDischargeDepth := 9) -implicitDefEqProofs -dsimp only [go_sem, seval, *] | simp (disch := omega) only [wrap64])) <;> (repeat' refine And.intro ?_ ?_) <;> (first | omega | rfl | assumption | skip)
          · repeat' (first | simp (maxDischargeDepth := 9) -implicitDefEqProofs -dsimp only [go_sem, seval, *] | simp (disch := omega) only [wrap64] | ((with_reducible refine Zv ?_ ?_); focus (first | omega | exact rfl)) | ((with_reducible refine Zu ?_ ?_); focus omega) | ((with_reducible refine Zt (fun oF hoF hnF hnF' => ?_)); (try simp only [upd_none, ne_eq, not_and] at hoF)))
            have e0 : g.flops.take i = g.flops := List.take_of_length_le (by omega)
            refine fin_eq ?_
            (repeat' (first | simp (maxDischargeDepth := 9) -implicitDefEqProofs -dsimp only [go_sem, seval, e0, *] | simp (disch := omega) only [wrap64])) <;> (repeat' refine And.intro ?_ ?_) <;> (first | omega | rfl | assumption | skip)
  · have hv : g.Eval inp st = ([], [], (g.Nodes inp st).2) := by simp [Aig.Eval, h0]
    have hb : ((g.Nodes inp st).2 != 0) = true := by simpa using h0
    repeat' (first | simp (maxDischargeDepth := 9) -implicitDefEqProofs -dsimp only [go_sem, seval, *] | simp (disch := omega) only [wrap64] | ((with_reducible refine Zv ?_ ?_); focus (first | omega | exact rfl)) | ((with_reducible refine Zu ?_ ?_); focus omega) | ((with_reducible refine Zt (fun oF hoF hnF hnF' => ?_)); (try simp only [upd_none, ne_eq, not_and] at hoF)) | ((with_reducible apply ACalls.one1); (focus (first | with_reducible refine aig_Nodes g inp st _ hs) <;> (first | (simp (maxDischargeDepth := 9) -implicitDefEqProofs -dsimp only [go_sem, seval, *]; done) | omega)); (focus (first | trivial | with_reducible exact rfl | (simp (maxDischargeDepth := 9) -implicitDefEqProofs -dsimp only [go_sem, seval]; done)))))
    refine fin_eq ?_
    (repeat' (first | simp (maxDischargeDepth := 9) -implicitDefEqProofs -dsimp only [go_sem, seval, *] | simp (disch := omega) only [wrap64])) <;> (repeat' refine And.intro ?_ ?_) <;> (first | omega | rfl | assumption | skip)
theorem aig_Run (g : Aig) (ins : List (List Bool)) (σ : Sig) (hs : Wf g) (hi : ins.length ≤ 1000000) :
    ACalls Try.prog 59 [encAig g, .slice (ins.map (encRow encBool)) .no] σ (fun r σ' => r = .ret (.tup [.slice ((g.Run ins).1.map (encRow encBool)) .no, .int .i64 (g.Run ins).2]) ∧ σ' = σ) := by
  refine ACalls.virt (callable_of Try.func59 b59 n59) 1 (fun oV1 hoV1 hnV1 hnV1' => ?_); (try simp only [upd_none, ne_eq, not_and] at hoV1); refine ACalls.virt (callable_of Try.func59 b59 n59) 1 (fun oV2 hoV2 hnV2 hnV2' => ?_); (try simp only [upd_none, ne_eq, not_and] at hoV2); refine calls_x mixed Try.func59 b59 n59 rfl q59 (by simp) ?_; unfold c59 r59
  have hfl := hs.flops
  have hz : ∀ l : List (List Bool), szs 1 (l.map (encRow encBool)) = True := fun l => szs_map _ _ _ fun _ => rfl
  by_cases h0 : g.check = 0
  · have hv : g.Run ins = g.runs (g.flops.map (·.init)) [] ins := by simp [Aig.Run, h0]
    have ez : ((0 : Int) != 0) = false := by decide
    repeat' (first | simp (maxDischargeDepth := 9) -implicitDefEqProofs -dsimp only [go_sem, seval, *] | simp (disch := omega) only [wrap64] | ((with_reducible refine Zv ?_ ?_); focus (first | omega | exact rfl)) | ((with_reducible refine Zu ?_ ?_); focus omega) | ((with_reducible refine Zt (fun oF hoF hnF hnF' => ?_)); (try simp only [upd_none, ne_eq, not_and] at hoF)) | ((with_reducible apply ACalls.one1); (focus (first | with_reducible refine aig_Check g _ hs) <;> (first | (simp (maxDischargeDepth := 9) -implicitDefEqProofs -dsimp only [go_sem, seval, *]; done) | omega)); (focus (first | trivial | with_reducible exact rfl | (simp (maxDischargeDepth := 9) -implicitDefEqProofs -dsimp only [go_sem, seval]; done)))))
    refine loop_rule (fun i : Nat => [(24, some (.int .i64 i)), (23, some (.int .i64 g.flops.length)), (22, some (.slice (g.flops.map encFlop) .no)), (8, some (.slice (((g.flops.take i).map (·.init)).map encBool) (.own oV1))), (1, some (.slice (ins.map (encRow encBool)) .no)), (2, some (.cptr (aigL g))), (7, some (.slice [] .nil))])
      (fun i => upd (upd σ oV1 (.grow 1 i)) oV2 (.virt 1)) (fun i => i ≤ g.flops.length) (fun i => g.flops.length - i) 0 ?_ ?_
    · (repeat' (first | simp (maxDischargeDepth := 9) -implicitDefEqProofs -dsimp only [go_sem, seval, *] | simp (disch := omega) only [wrap64])) <;> (repeat' refine And.intro ?_ ?_) <;> (first | omega | rfl | assumption | skip)
    · intro i hi'
      by_cases hlt : i < g.flops.length
      · have hs' := take_succ hlt
        have hlen : (g.flops.take i).length = i := by simp; omega
        repeat' (first | simp (maxDischargeDepth := 9) -implicitDefEqProofs -dsimp only [go_sem, seval, *] | simp (disch := omega) only [wrap64] | ((with_reducible refine Zv ?_ ?_); focus (first | omega | exact rfl)) | ((with_reducible refine Zu ?_ ?_); focus omega) | ((with_reducible refine Zt (fun oF hoF hnF hnF' => ?_)); (try simp only [upd_none, ne_eq, not_and] at hoF)))
        refine loop_next _ _ _ _ (i + 1) ?_; (repeat' (first | simp (maxDischargeDepth := 9) -implicitDefEqProofs -dsimp only [go_sem, seval, *] | simp (disch := omega) only [wrap64])) <;> (repeat' refine And.intro ?_ ?_) <;> (first | omega | rfl | assumption | skip)
      · repeat' (first | simp (maxDischargeDepth := 9) -implicitDefEqProofs -dsimp only [go_sem, seval, *] | simp (disch := omega) only [wrap64] | ((with_reducible refine Zv ?_ ?_); focus (first | omega | exact rfl)) | ((with_reducible refine Zu ?_ ?_); focus omega) | ((with_reducible refine Zt (fun oF hoF hnF hnF' => ?_)); (try simp only [upd_none, ne_eq, not_and] at hoF)))
        have e0 : g.flops.take i = g.flops := List.take_of_length_le (by omega)
        rw [e0]
        refine loop_rule (fun x : Nat × List Bool × List (List Bool) => [(36, some (.int .i64 x.1)), (35, some (.int .i64 ins.length)), (34, some (.slice (ins.map (encRow encBool)) .no)), (2, some (.cptr (aigL g))), (8, some (.slice (x.2.1.map encBool) .no)), (7, some (.slice (x.2.2.map (encRow encBool)) (.own oV2)))])
          (fun x => upd σ oV2 (.grow 1 x.1)) (fun x => x.1 ≤ ins.length ∧ x.2.2.length = x.1 ∧ g.runs (g.flops.map (·.init)) [] ins = g.runs x.2.1 x.2.2 (ins.drop x.1)) (fun x => ins.length - x.1) (0, g.flops.map (·.init), []) ?_ ?_
        · (repeat' (first | simp (maxDischargeDepth := 9) -implicitDefEqProofs -dsimp only [go_sem, seval, List.drop_zero, *] | simp (disch := omega) only [wrap64])) <;> (repeat' refine And.intro ?_ ?_) <;> (first | omega | rfl | assumption | skip)
        · rintro ⟨i, st, out⟩ ⟨hi', hlen, hr⟩
          simp only at hi' hlen hr
          by_cases hlt : i < ins.length
          · have hd : ins.drop i = ins[i] :: ins.drop (i + 1) := List.drop_eq_getElem_cons hlt
            rw [hd] at hr
            simp only [Aig.runs] at hr
            by_cases he : (g.Eval ins[i] st).2.2 = 0
            · have hr2 : g.runs (g.flops.map (·.init)) [] ins = g.runs (g.Eval ins[i] st).2.1 (out ++ [(g.Eval ins[i] st).1]) (ins.drop (i + 1)) := by rw [hr, if_neg (by simp [he])]
              clear hr hd
              rw [hv, hr2]
              clear hv
              repeat' (first | simp (maxDischargeDepth := 9) -implicitDefEqProofs -dsimp only [go_sem, seval, *] | simp (disch := omega) only [wrap64] | ((with_reducible refine Zv ?_ ?_); focus (first | omega | exact rfl)) | ((with_reducible refine Zu ?_ ?_); focus omega) | ((with_reducible refine Zt (fun oF hoF hnF hnF' => ?_)); (try simp only [upd_none, ne_eq, not_and] at hoF)) | ((with_reducible apply ACalls.one1); (focus (first | with_reducible refine aig_Eval g ins[i] st _ hs) <;> (first | (simp (maxDischargeDepth := 9) -implicitDefEqProofs -dsimp only [go_sem, seval, *]; done) | omega)); (focus (first | trivial | with_reducible exact rfl | (simp (maxDischargeDepth := 9) -implicitDefEqProofs -dsimp only [go_sem, seval]; done)))))
              refine loop_next _ _ _ _ ((i + 1, (g.Eval ins[i] st).2.1, out ++ [(g.Eval ins[i] st).1])) ?_; (repeat' (first | simp (maxDischargeDepth := 9) -implicitDefEqProofs -dsimp only [go_sem, seval, *] | simp (disch := omega) only [wrap64])) <;> (repeat' refine And.intro ?_ ?_) <;> (first | omega | rfl | assumption | skip)
            · have hr2 : g.runs (g.flops.map (·.init)) [] ins = ([], (g.Eval ins[i] st).2.2) := by rw [hr, if_pos he]
              have hb : ((g.Eval ins[i] st).2.2 != 0) = true := by simpa using he
              clear hr hd
              rw [hv, hr2]
              clear hv
              repeat' (first | simp (maxDischargeDepth := 9) -implicitDefEqProofs -dsimp only [go_sem, seval, *] | simp (disch := omega) only [wrap64] | ((with_reducible refine Zv ?_ ?_); focus (first | omega | exact rfl)) | ((with_reducible refine Zu ?_ ?_); focus omega) | ((with_reducible refine Zt (fun oF hoF hnF hnF' => ?_)); (try simp only [upd_none, ne_eq, not_and] at hoF)) | ((with_reducible apply ACalls.one1); (focus (first | with_reducible refine aig_Eval g ins[i] st _ hs) <;> (first | (simp (maxDischargeDepth := 9) -implicitDefEqProofs -dsimp only [go_sem, seval, *]; done) | omega)); (focus (first | trivial | with_reducible exact rfl | (simp (maxDischargeDepth := 9) -implicitDefEqProofs -dsimp only [go_sem, seval]; done)))))
              refine fin_eq ?_
              (repeat' (first | simp (maxDischargeDepth := 9) -implicitDefEqProofs -dsimp only [go_sem, seval, *] | simp (disch := omega) only [wrap64])) <;> (repeat' refine And.intro ?_ ?_) <;> (first | omega | rfl | assumption | skip)
          · have e1 : ins.drop i = [] := List.drop_of_length_le (by omega)
            rw [e1] at hr
            simp only [Aig.runs] at hr
            rw [hv, hr]
            clear hv
            repeat' (first | simp (maxDischargeDepth := 9) -implicitDefEqProofs -dsimp only [go_sem, seval, *] | simp (disch := omega) only [wrap64] | ((with_reducible refine Zv ?_ ?_); focus (first | omega | exact rfl)) | ((with_reducible refine Zu ?_ ?_); focus omega) | ((with_reducible refine Zt (fun oF hoF hnF hnF' => ?_)); (try simp only [upd_none, ne_eq, not_and] at hoF)))
            refine fin_eq ?_
            (repeat' (first | simp (maxDischargeDepth := 9) -implicitDefEqProofs -dsimp only [go_sem, seval, *] | simp (disch := omega) only [wrap64])) <;> (repeat' refine And.intro ?_ ?_) <;> (first | omega | rfl | assumption | skip)
  · have hv : g.Run ins = ([], g.check) := by simp [Aig.Run, h0]
    have hb : (g.check != 0) = true := by simpa using h0
    repeat' (first | simp (maxDischargeDepth := 9) -implicitDefEqProofs -dsimp only [go_sem, seval, *] | simp (disch := omega) only [wrap64] | ((with_reducible refine Zv ?_ ?_); focus (first | omega | exact rfl)) | ((with_reducible refine Zu ?_ ?_); focus omega) | ((with_reducible refine Zt (fun oF hoF hnF hnF' => ?_)); (try simp only [upd_none, ne_eq, not_and] at hoF)) | ((with_reducible apply ACalls.one1); (focus (first | with_reducible refine aig_Check g _ hs) <;> (first | (simp (maxDischargeDepth := 9) -implicitDefEqProofs -dsimp only [go_sem, seval, *]; done) | omega)); (focus (first | trivial | with_reducible exact rfl | (simp (maxDischargeDepth := 9) -implicitDefEqProofs -dsimp only [go_sem, seval]; done)))))
    refine fin_eq ?_
    (repeat' (first | simp (maxDischargeDepth := 9) -implicitDefEqProofs -dsimp only [go_sem, seval, *] | simp (disch := omega) only [wrap64])) <;> (repeat' refine And.intro ?_ ?_) <;> (first | omega | rfl | assumption | skip)
end Go.Proofs.Ytjichkelfhcbcaa.A

namespace Go.Proofs.Ytjichkelfhcbcaa.A
open Abs Fil
theorem ref_Lit (n a : Int) (σ : Sig) (h1 : -1000000000 ≤ n) (h2 : n ≤ 1000000000) : ACalls Try.prog 64 [.int .i64 n, .int .i64 a] σ (fun r σ' => r = .ret (.bool (Aig.litN n a)) ∧ σ' = σ) := by
  refine calls_x mixed Try.func64 b64 n64 rfl q64 (by simp) ?_; unfold c64 r64
  repeat' (first | simp (maxDischargeDepth := 9) -implicitDefEqProofs -dsimp only [go_sem, seval, ge_iff_le, *] | simp (disch := omega) only [wrap64] | (with_reducible (first | apply Za) <;> intro hq))
  · refine fin_eq ?_
    (repeat' (first | simp (maxDischargeDepth := 9) -implicitDefEqProofs -dsimp only [go_sem, seval, Aig.litN, *] | simp (disch := omega) only [wrap64])) <;> (repeat' refine And.intro ?_ ?_) <;> (first | omega | rfl | assumption | skip)
  · refine fin_eq ?_
    (repeat' (first | simp (maxDischargeDepth := 9) -implicitDefEqProofs -dsimp only [go_sem, seval, Aig.litN, *] | simp (disch := omega) only [wrap64])) <;> (repeat' refine And.intro ?_ ?_) <;> (first | omega | rfl | assumption | skip)
theorem ref_Count (g : Aig) (σ : Sig) (hs : Small g) : ACalls Try.prog 30 [encAig g] σ (fun r σ' => r = .ret (.int .i64 (1 + g.count)) ∧ σ' = σ) := by
  refine calls_x mixed Try.func30 b30 n30 rfl q30 (by simp) ?_; unfold c30 r30
  obtain ⟨⟨h0, h1, h2, h3, h4, h5, h6⟩, h7, h8⟩ := hs
  repeat' (first | simp (maxDischargeDepth := 9) -implicitDefEqProofs -dsimp only [go_sem, seval, *] | simp (disch := omega) only [wrap64])
  exact fin_id ⟨by simp only [Aig.count, Int.add_assoc], rfl⟩
theorem ref_Check (g : Aig) (σ : Sig) (hs : Wf g) : ACalls Try.prog 29 [encAig g] σ (fun r σ' => r = .ret (.int .i64 g.check) ∧ σ' = σ) := by
  refine calls_x mixed Try.func29 b29 n29 rfl q29 (by simp) ?_; unfold c29 r29
  have hfl := hs.flops
  have hal := hs.ands
  have hol := hs.outs
  by_cases hlo : g.ins < 0
  · have hv : g.check = 1 := by simp [Aig.check, hlo]
    repeat' (first | simp (maxDischargeDepth := 9) -implicitDefEqProofs -dsimp only [go_sem, seval, *] | simp (disch := omega) only [wrap64] | (with_reducible (first | apply Zb | apply Zc | apply Zp | apply Zr) <;> intro hq) | ((with_reducible refine Zu ?_ ?_); focus omega) | ((with_reducible refine Zt (fun oF hoF hnF hnF' => ?_)); (try simp only [upd_none, ne_eq, not_and] at hoF)))
    refine fin_eq ?_
    (repeat' (first | simp (maxDischargeDepth := 9) -implicitDefEqProofs -dsimp only [go_sem, seval, *] | simp (disch := omega) only [wrap64])) <;> (repeat' refine And.intro ?_ ?_) <;> (first | omega | rfl | assumption | skip)
  by_cases hhi : 65536 < g.ins
  · have hv : g.check = 2 := by simp [Aig.check, hlo, hhi]
    repeat' (first | simp (maxDischargeDepth := 9) -implicitDefEqProofs -dsimp only [go_sem, seval, gt_iff_lt, *] | simp (disch := omega) only [wrap64] | (with_reducible (first | apply Zb | apply Zc | apply Zp | apply Zr) <;> intro hq) | ((with_reducible refine Zu ?_ ?_); focus omega) | ((with_reducible refine Zt (fun oF hoF hnF hnF' => ?_)); (try simp only [upd_none, ne_eq, not_and] at hoF)))
    refine fin_eq ?_
    (repeat' (first | simp (maxDischargeDepth := 9) -implicitDefEqProofs -dsimp only [go_sem, seval, *] | simp (disch := omega) only [wrap64])) <;> (repeat' refine And.intro ?_ ?_) <;> (first | omega | rfl | assumption | skip)
  have hsm : Small g := ⟨hs, by omega, by omega⟩
  by_cases hb : 65536 < g.count ∨ 65536 < (g.outs.length : Int)
  · have hv : g.check = 2 := by simp [Aig.check, hlo, hhi, hb]
    have hb' : 65536 < g.ins + g.flops.length + g.ands.length ∨ 65536 < (g.outs.length : Int) := hb
    repeat' (first | simp (maxDischargeDepth := 9) -implicitDefEqProofs -dsimp only [go_sem, seval, gt_iff_lt, *] | simp (disch := omega) only [wrap64] | (with_reducible (first | apply Zb | apply Zc | apply Zp | apply Zr) <;> intro hq) | ((with_reducible refine Zu ?_ ?_); focus omega) | ((with_reducible refine Zt (fun oF hoF hnF hnF' => ?_)); (try simp only [upd_none, ne_eq, not_and] at hoF)))
    all_goals first | (exfalso; omega) | (refine fin_eq ?_; (repeat' (first | simp (maxDischargeDepth := 9) -implicitDefEqProofs -dsimp only [go_sem, seval, *] | simp (disch := omega) only [wrap64])) <;> (repeat' refine And.intro ?_ ?_) <;> (first | omega | rfl | assumption | skip))
  have hv : g.check = if g.good then 0 else 1 := by simp [Aig.check, hlo, hhi, hb]
  have hcnt : g.ins + g.flops.length + g.ands.length ≤ 65536 ∧ (g.outs.length : Int) ≤ 65536 := by
    unfold Aig.count at hb; omega
  have hc1 : 0 ≤ g.count ∧ g.count ≤ 65536 := by unfold Aig.count; omega
  have bad1 : ∀ i, (h : i < g.ands.length) → ¬ (Aig.litN (1 + g.ins + g.flops.length + i) g.ands[i].1 = true ∧ Aig.litN (1 + g.ins + g.flops.length + i) g.ands[i].2 = true) → g.good = false := fun i h hn => by
    have : Aig.gatesOk g.first g.ands = false := gatesOk_false h (fun ⟨k1, k2⟩ => hn ⟨litN_iff.2 (by unfold Aig.first at k1; omega), litN_iff.2 (by unfold Aig.first at k2; omega)⟩)
    simp [Aig.good, this]
  have bad2 : ∀ i, (h : i < g.flops.length) → Aig.litN (1 + g.count) g.flops[i].next = false → g.good = false := fun i h hn => by
    have : (g.flops.any fun f => !g.lit f.next) = true := by simp only [List.any_eq_true]; exact ⟨_, List.getElem_mem h, by simp [Aig.lit, hn]⟩
    simp [Aig.good, this]
  have bad3 : ∀ i, (h : i < g.outs.length) → Aig.litN (1 + g.count) g.outs[i] = false → g.good = false := fun i h hn => by
    have : (g.outs.any fun a => !g.lit a) = true := by simp only [List.any_eq_true]; exact ⟨_, List.getElem_mem h, by simp [Aig.lit, hn]⟩
    simp [Aig.good, this]
  have hb2 : ¬ 65536 < (g.outs.length : Int) := by omega
  have hb3 : ¬ 65536 < g.ins + g.flops.length + g.ands.length := by omega
  repeat' (first | simp (maxDischargeDepth := 9) -implicitDefEqProofs -dsimp only [go_sem, seval, gt_iff_lt, *] | simp (disch := omega) only [wrap64] | (with_reducible (first | apply Zb | apply Zc | apply Zp | apply Zr) <;> intro hq) | ((with_reducible refine Zu ?_ ?_); focus omega) | ((with_reducible refine Zt (fun oF hoF hnF hnF' => ?_)); (try simp only [upd_none, ne_eq, not_and] at hoF)))
  refine loop_rule (fun i : Nat => [(4, some (.int .i64 i)), (1, some (.cptr (aigL g))), (3, some (.int .i64 (1 + g.ins + g.flops.length)))]) (fun _ => σ)
    (fun i => i ≤ g.ands.length ∧ ∀ j, (hj : j < g.ands.length) → j < i → Aig.litN (1 + g.ins + g.flops.length + j) g.ands[j].1 = true ∧ Aig.litN (1 + g.ins + g.flops.length + j) g.ands[j].2 = true) (fun i => g.ands.length - i) 0 ?_ ?_
  · (repeat' (first | simp (maxDischargeDepth := 9) -implicitDefEqProofs -dsimp only [go_sem, seval, *] | simp (disch := omega) only [wrap64])) <;> (repeat' refine And.intro ?_ ?_) <;> (first | omega | rfl | assumption | skip)
  · rintro i ⟨hi, hok1⟩
    by_cases hlt : i < g.ands.length
    · have hgb := bad1 i hlt
      clear bad1 bad2 bad3
      repeat' (first | simp (maxDischargeDepth := 9) -implicitDefEqProofs -dsimp only [go_sem, seval, *] | simp (disch := omega) only [wrap64] | (with_reducible (first | apply Zb | apply Zc | apply Zp | apply Zr) <;> intro hq) | ((with_reducible refine Zu ?_ ?_); focus omega) | ((with_reducible refine Zt (fun oF hoF hnF hnF' => ?_)); (try simp only [upd_none, ne_eq, not_and] at hoF)) | ((with_reducible apply ACalls.one1); (focus ((first | with_reducible refine ref_Lit (1 + g.ins + g.flops.length + i) g.ands[i].1 _ ?_ ?_ | with_reducible refine ref_Lit (1 + g.ins + g.flops.length + i) g.ands[i].2 _ ?_ ?_) <;> (first | (simp (maxDischargeDepth := 9) -implicitDefEqProofs -dsimp only [go_sem, seval, *]; done) | omega))); (focus (first | trivial | with_reducible exact rfl | (simp (maxDischargeDepth := 9) -implicitDefEqProofs -dsimp only [go_sem, seval]; done)))))
      all_goals first | (have hx : g.good = false := hgb (by simp [*]); refine fin_eq ?_; (repeat' (first | simp (maxDischargeDepth := 9) -implicitDefEqProofs -dsimp only [go_sem, seval, Bool.false_eq_true, *] | simp (disch := omega) only [wrap64])) <;> (repeat' refine And.intro ?_ ?_) <;> (first | omega | rfl | assumption | skip); done) | skip
      refine loop_next _ _ _ _ (i + 1) ?_; (repeat' (first | simp (maxDischargeDepth := 9) -implicitDefEqProofs -dsimp only [go_sem, seval, *] | simp (disch := omega) only [wrap64])) <;> (repeat' refine And.intro ?_ ?_) <;> (first | omega | rfl | assumption | skip)
      intro j hj h
      rcases Nat.lt_or_ge j i with h' | h'
      · exact hok1 j hj h'
      · obtain rfl : j = i := by omega
        exact ⟨by assumption, by assumption⟩
    · repeat' (first | simp (maxDischargeDepth := 9) -implicitDefEqProofs -dsimp only [go_sem, seval, *] | simp (disch := omega) only [wrap64] | (with_reducible (first | apply Zb | apply Zc | apply Zp | apply Zr) <;> intro hq) | ((with_reducible refine Zu ?_ ?_); focus omega) | ((with_reducible refine Zt (fun oF hoF hnF hnF' => ?_)); (try simp only [upd_none, ne_eq, not_and] at hoF)))
      refine loop_rule (fun i : Nat => [(5, some (.int .i64 i)), (1, some (.cptr (aigL g)))]) (fun _ => σ) (fun i => i ≤ g.flops.length ∧ ∀ j, (hj : j < g.flops.length) → j < i → Aig.litN (1 + g.count) g.flops[j].next = true) (fun i => g.flops.length - i) 0 ?_ ?_
      · (repeat' (first | simp (maxDischargeDepth := 9) -implicitDefEqProofs -dsimp only [go_sem, seval, *] | simp (disch := omega) only [wrap64])) <;> (repeat' refine And.intro ?_ ?_) <;> (first | omega | rfl | assumption | skip)
      · rintro k ⟨hk, hok2⟩
        by_cases hlt2 : k < g.flops.length
        · have hgb := bad2 k hlt2
          clear bad1 bad2 bad3
          repeat' (first | simp (maxDischargeDepth := 9) -implicitDefEqProofs -dsimp only [go_sem, seval, *] | simp (disch := omega) only [wrap64] | (with_reducible (first | apply Zb | apply Zc | apply Zp | apply Zr) <;> intro hq) | ((with_reducible refine Zu ?_ ?_); focus omega) | ((with_reducible refine Zt (fun oF hoF hnF hnF' => ?_)); (try simp only [upd_none, ne_eq, not_and] at hoF)) | ((with_reducible apply ACalls.one1); (focus ((first | with_reducible refine ref_Count g _ hsm | with_reducible refine ref_Lit (1 + g.count) g.flops[k].next _ ?_ ?_) <;> (first | (simp (maxDischargeDepth := 9) -implicitDefEqProofs -dsimp only [go_sem, seval, *]; done) | omega))); (focus (first | trivial | with_reducible exact rfl | (simp (maxDischargeDepth := 9) -implicitDefEqProofs -dsimp only [go_sem, seval]; done)))) | ((with_reducible apply id_one0); (focus (intro tS hS; ((first | with_reducible refine ref_Count g _ hsm | with_reducible refine ref_Lit (1 + g.count) g.flops[k].next _ ?_ ?_) <;> (first | (simp (maxDischargeDepth := 9) -implicitDefEqProofs -dsimp only [go_sem, seval, *]; done) | omega | ((with_reducible refine Sub.get hS ?_); simp (maxDischargeDepth := 9) -implicitDefEqProofs -dsimp only [go_sem, seval, *]; done))))); (focus (first | trivial | (simp (maxDischargeDepth := 9) -implicitDefEqProofs -dsimp only [go_sem, seval, *]; done)))))
          · refine loop_next _ _ _ _ (k + 1) ?_; (repeat' (first | simp (maxDischargeDepth := 9) -implicitDefEqProofs -dsimp only [go_sem, seval, *] | simp (disch := omega) only [wrap64])) <;> (repeat' refine And.intro ?_ ?_) <;> (first | omega | rfl | assumption | skip)
            intro j hj h
            rcases Nat.lt_or_ge j k with h' | h'
            · exact hok2 j hj h'
            · obtain rfl : j = k := by omega
              assumption
          · have hx := hgb hq
            refine fin_eq ?_
            (repeat' (first | simp (maxDischargeDepth := 9) -implicitDefEqProofs -dsimp only [go_sem, seval, Bool.false_eq_true, *] | simp (disch := omega) only [wrap64])) <;> (repeat' refine And.intro ?_ ?_) <;> (first | omega | rfl | assumption | skip)
        · repeat' (first | simp (maxDischargeDepth := 9) -implicitDefEqProofs -dsimp only [go_sem, seval, *] | simp (disch := omega) only [wrap64] | (with_reducible (first | apply Zb | apply Zc | apply Zp | apply Zr) <;> intro hq) | ((with_reducible refine Zu ?_ ?_); focus omega) | ((with_reducible refine Zt (fun oF hoF hnF hnF' => ?_)); (try simp only [upd_none, ne_eq, not_and] at hoF)))
          refine loop_rule (fun i : Nat => [(6, some (.int .i64 i)), (1, some (.cptr (aigL g)))]) (fun _ => σ) (fun i => i ≤ g.outs.length ∧ ∀ j, (hj : j < g.outs.length) → j < i → Aig.litN (1 + g.count) g.outs[j] = true) (fun i => g.outs.length - i) 0 ?_ ?_
          · (repeat' (first | simp (maxDischargeDepth := 9) -implicitDefEqProofs -dsimp only [go_sem, seval, *] | simp (disch := omega) only [wrap64])) <;> (repeat' refine And.intro ?_ ?_) <;> (first | omega | rfl | assumption | skip)
          · rintro m ⟨hm, hok3⟩
            by_cases hlt3 : m < g.outs.length
            · have hgb := bad3 m hlt3
              clear bad1 bad2 bad3
              repeat' (first | simp (maxDischargeDepth := 9) -implicitDefEqProofs -dsimp only [go_sem, seval, *] | simp (disch := omega) only [wrap64] | (with_reducible (first | apply Zb | apply Zc | apply Zp | apply Zr) <;> intro hq) | ((with_reducible refine Zu ?_ ?_); focus omega) | ((with_reducible refine Zt (fun oF hoF hnF hnF' => ?_)); (try simp only [upd_none, ne_eq, not_and] at hoF)) | ((with_reducible apply ACalls.one1); (focus ((first | with_reducible refine ref_Count g _ hsm | with_reducible refine ref_Lit (1 + g.count) g.outs[m] _ ?_ ?_) <;> (first | (simp (maxDischargeDepth := 9) -implicitDefEqProofs -dsimp only [go_sem, seval, *]; done) | omega))); (focus (first | trivial | with_reducible exact rfl | (simp (maxDischargeDepth := 9) -implicitDefEqProofs -dsimp only [go_sem, seval]; done)))) | ((with_reducible apply id_one0); (focus (intro tS hS; ((first | with_reducible refine ref_Count g _ hsm | with_reducible refine ref_Lit (1 + g.count) g.outs[m] _ ?_ ?_) <;> (first | (simp (maxDischargeDepth := 9) -implicitDefEqProofs -dsimp only [go_sem, seval, *]; done) | omega | ((with_reducible refine Sub.get hS ?_); simp (maxDischargeDepth := 9) -implicitDefEqProofs -dsimp only [go_sem, seval, *]; done))))); (focus (first | trivial | (simp (maxDischargeDepth := 9) -implicitDefEqProofs -dsimp only [go_sem, seval, *]; done)))))
              · refine loop_next _ _ _ _ (m + 1) ?_; (repeat' (first | simp (maxDischargeDepth := 9) -implicitDefEqProofs -dsimp only [go_sem, seval, *] | simp (disch := omega) only [wrap64])) <;> (repeat' refine And.intro ?_ ?_) <;> (first | omega | rfl | assumption | skip)
                intro j hj h
                rcases Nat.lt_or_ge j m with h' | h'
                · exact hok3 j hj h'
                · obtain rfl : j = m := by omega
                  assumption
              · have hx := hgb hq
                refine fin_eq ?_
                (repeat' (first | simp (maxDischargeDepth := 9) -implicitDefEqProofs -dsimp only [go_sem, seval, Bool.false_eq_true, *] | simp (disch := omega) only [wrap64])) <;> (repeat' refine And.intro ?_ ?_) <;> (first | omega | rfl | assumption | skip)
            · have hgood : g.good = true := by
                have q1 : Aig.gatesOk g.first g.ands = true := gatesOk_iff.2 fun j hj => by
                  obtain ⟨k1, k2⟩ := hok1 j hj (by omega)
                  have k1 := litN_iff.1 k1
                  have k2 := litN_iff.1 k2
                  unfold Aig.first
                  omega
                have q2 : (g.flops.any fun f => !g.lit f.next) = false := by
                  simp only [List.any_eq_false, Bool.not_eq_true, Bool.not_eq_false']
                  intro f hf
                  obtain ⟨j, hj, rfl⟩ := List.getElem_of_mem hf
                  exact hok2 j hj (by omega)
                have q3 : (g.outs.any fun a => !g.lit a) = false := by
                  simp only [List.any_eq_false, Bool.not_eq_true, Bool.not_eq_false']
                  intro f hf
                  obtain ⟨j, hj, rfl⟩ := List.getElem_of_mem hf
                  exact hok3 j hj (by omega)
                simp [Aig.good, q1, q2, q3]
              clear bad1 bad2 bad3
              repeat' (first | simp (maxDischargeDepth := 9) -implicitDefEqProofs -dsimp only [go_sem, seval, *] | simp (disch := omega) only [wrap64] | (with_reducible (first | apply Zb | apply Zc | apply Zp | apply Zr) <;> intro hq) | ((with_reducible refine Zu ?_ ?_); focus omega) | ((with_reducible refine Zt (fun oF hoF hnF hnF' => ?_)); (try simp only [upd_none, ne_eq, not_and] at hoF)))
              refine fin_eq ?_
              (repeat' (first | simp (maxDischargeDepth := 9) -implicitDefEqProofs -dsimp only [go_sem, seval, *] | simp (disch := omega) only [wrap64])) <;> (repeat' refine And.intro ?_ ?_) <;> (first | omega | rfl | assumption | skip)
end Go.Proofs.Ytjichkelfhcbcaa.A

namespace Fil.Bd
abbrev T3 := Int × Int × Int
def frk (F : List T3) (n : Int) : T3 := F.getD n.toNat (0, 0, 0)
def top (vars : Int) (F : List T3) (n : Int) : Int := if n < 2 then vars else (frk F n).1
def tab (F : List T3) : Nat → Int → Int → List Bool
  | 0, _, n => [n == 1]
  | k + 1, v, n => if 2 ≤ n ∧ (frk F n).1 = v then tab F k (v + 1) (frk F n).2.1 ++ tab F k (v + 1) (frk F n).2.2 else tab F k (v + 1) n ++ tab F k (v + 1) n
structure Ok (vars : Int) (F : List T3) : Prop where
  two : 2 ≤ F.length
  lo : 0 ≤ vars
  var : ∀ i : Int, 2 ≤ i → i < F.length → 0 ≤ (frk F i).1 ∧ (frk F i).1 < vars
  ne : ∀ i : Int, 2 ≤ i → i < F.length → (frk F i).2.1 ≠ (frk F i).2.2
  low : ∀ i : Int, 2 ≤ i → i < F.length → 0 ≤ (frk F i).2.1 ∧ (frk F i).2.1 < i ∧ (frk F i).1 < top vars F (frk F i).2.1
  high : ∀ i : Int, 2 ≤ i → i < F.length → 0 ≤ (frk F i).2.2 ∧ (frk F i).2.2 < i ∧ (frk F i).1 < top vars F (frk F i).2.2
  uniq : ∀ i j : Int, 2 ≤ i → i < F.length → 2 ≤ j → j < F.length → frk F i = frk F j → i = j
def In (vars : Int) (F : List T3) (v n : Int) : Prop := 0 ≤ n ∧ n < F.length ∧ v ≤ top vars F n
theorem tab_len (F : List T3) : ∀ k v n, (tab F k v n).length = 2 ^ k
  | 0, v, n => rfl
  | k + 1, v, n => by
    simp only [tab]
    split <;> simp [tab_len F k] <;> omega
theorem tab_at {F : List T3} {k v n} (h : 2 ≤ n ∧ (frk F n).1 = v) : tab F (k + 1) v n = tab F k (v + 1) (frk F n).2.1 ++ tab F k (v + 1) (frk F n).2.2 := by rw [tab, if_pos h]
theorem tab_up {F : List T3} {k v n} (h : ¬ (2 ≤ n ∧ (frk F n).1 = v)) : tab F (k + 1) v n = tab F k (v + 1) n ++ tab F k (v + 1) n := by rw [tab, if_neg h]
theorem In.up {vars F v n} (h : In vars F v n) (ho : Ok vars F) {k : Nat} (hv : v + (k + 1 : Nat) = vars) (hn : ¬ (2 ≤ n ∧ (frk F n).1 = v)) : In vars F (v + 1) n := by
  obtain ⟨h1, h2, h3⟩ := h
  refine ⟨h1, h2, ?_⟩
  unfold top at h3 ⊢
  split
  · omega
  · rename_i h4
    rw [if_neg h4] at h3
    have : (frk F n).1 ≠ v := fun e => hn ⟨by omega, e⟩
    omega
theorem In.lo {vars F v n} (h : In vars F v n) (ho : Ok vars F) (hn : 2 ≤ n ∧ (frk F n).1 = v) : In vars F (v + 1) (frk F n).2.1 := by
  obtain ⟨h1, h2, h3⟩ := h
  obtain ⟨a, b, c⟩ := ho.low n hn.1 h2
  exact ⟨a, by omega, by omega⟩
theorem In.hi {vars F v n} (h : In vars F v n) (ho : Ok vars F) (hn : 2 ≤ n ∧ (frk F n).1 = v) : In vars F (v + 1) (frk F n).2.2 := by
  obtain ⟨h1, h2, h3⟩ := h
  obtain ⟨a, b, c⟩ := ho.high n hn.1 h2
  exact ⟨a, by omega, by omega⟩
theorem In.end {vars F n} (h : In vars F vars n) (ho : Ok vars F) : n = 0 ∨ n = 1 := by
  obtain ⟨h1, h2, h3⟩ := h
  unfold top at h3
  split at h3
  · omega
  · have := (ho.var n (by omega) h2).2
    omega
theorem canon {vars F} (ho : Ok vars F) : ∀ (k : Nat) (v n m : Int), v + k = vars → In vars F v n → In vars F v m → tab F k v n = tab F k v m → n = m
  | 0, v, n, m, hv, hn, hm, h => by
    have e : v = vars := by omega
    subst e
    rcases hn.end ho with rfl | rfl <;> rcases hm.end ho with rfl | rfl <;> first | rfl | (exfalso; revert h; simp [tab])
  | k + 1, v, n, m, hv, hn, hm, h => by
    have ih := canon ho k (v + 1)
    have hl : ∀ a b, (tab F k (v + 1) a).length = (tab F k (v + 1) b).length := fun a b => by rw [tab_len, tab_len]
    by_cases c1 : 2 ≤ n ∧ (frk F n).1 = v <;> by_cases c2 : 2 ≤ m ∧ (frk F m).1 = v
    · rw [tab_at c1, tab_at c2] at h
      obtain ⟨e1, e2⟩ := List.append_inj h (hl _ _)
      have q1 := ih _ _ (by omega) (hn.lo ho c1) (hm.lo ho c2) e1
      have q2 := ih _ _ (by omega) (hn.hi ho c1) (hm.hi ho c2) e2
      refine ho.uniq n m c1.1 hn.2.1 c2.1 hm.2.1 ?_
      exact Prod.ext (c1.2.trans c2.2.symm) (Prod.ext q1 q2)
    · rw [tab_at c1, tab_up c2] at h
      obtain ⟨e1, e2⟩ := List.append_inj h (hl _ _)
      have q1 := ih _ _ (by omega) (hn.lo ho c1) (hm.up ho hv c2) e1
      have q2 := ih _ _ (by omega) (hn.hi ho c1) (hm.up ho hv c2) e2
      exact absurd (q1.trans q2.symm) (ho.ne n c1.1 hn.2.1)
    · rw [tab_up c1, tab_at c2] at h
      obtain ⟨e1, e2⟩ := List.append_inj h (hl _ _)
      have q1 := ih _ _ (by omega) (hn.up ho hv c1) (hm.lo ho c2) e1
      have q2 := ih _ _ (by omega) (hn.up ho hv c1) (hm.hi ho c2) e2
      exact absurd (q1.symm.trans q2) (ho.ne m c2.1 hm.2.1)
    · rw [tab_up c1, tab_up c2] at h
      obtain ⟨e1, e2⟩ := List.append_inj h (hl _ _)
      exact ih _ _ (by omega) (hn.up ho hv c1) (hm.up ho hv c2) e1

/-! ### What is there stays -/
theorem frk_app {F l : List T3} {n : Int} (h0 : 0 ≤ n) (h : n < F.length) : frk (F ++ l) n = frk F n := by
  unfold frk
  rw [List.getD_eq_getElem?_getD, List.getD_eq_getElem?_getD, List.getElem?_append_left (by omega)]
theorem top_app {vars} {F l : List T3} {n : Int} (h : n < F.length) : top vars (F ++ l) n = top vars F n := by
  unfold top
  split
  · rfl
  · rw [frk_app (by omega) h]
theorem In.app {vars F v n} (l : List T3) (h : In vars F v n) : In vars (F ++ l) v n :=
  ⟨h.1, by have := h.2.1; simp; omega, by rw [top_app h.2.1]; exact h.2.2⟩
theorem tab_app {vars F} (ho : Ok vars F) (l : List T3) : ∀ (k : Nat) (v n : Int), 0 ≤ n → n < F.length → tab (F ++ l) k v n = tab F k v n
  | 0, v, n, _, _ => rfl
  | k + 1, v, n, h0, h => by
    simp only [tab, frk_app h0 h]
    split
    · rename_i c
      obtain ⟨a, b, _⟩ := ho.low n c.1 h
      obtain ⟨a', b', _⟩ := ho.high n c.1 h
      rw [tab_app ho l k _ _ a (by omega), tab_app ho l k _ _ a' (by omega)]
    · rw [tab_app ho l k _ _ h0 h]

/-! ### What is put -/
def fnd : List T3 → T3 → Int → Option Int
  | [], _, _ => none
  | y :: r, x, i => if y = x then some i else fnd r x (i + 1)
theorem fnd_some : ∀ {l : List T3} {x : T3} {i n : Int}, fnd l x i = some n → i ≤ n ∧ n < i + l.length ∧ l.getD (n - i).toNat (0, 0, 0) = x
  | [], x, i, n, h => by simp [fnd] at h
  | y :: r, x, i, n, h => by
    simp only [fnd] at h
    split at h
    · rename_i e
      simp at h; subst h
      simp [e]; omega
    · obtain ⟨a, b, c⟩ := fnd_some h
      refine ⟨by omega, by simp; omega, ?_⟩
      have : (n - i).toNat = (n - (i + 1)).toNat + 1 := by omega
      rw [this]; simpa using c
theorem fnd_none : ∀ {l : List T3} {x : T3} {i : Int}, fnd l x i = none → ∀ j : Nat, j < l.length → l.getD j (0, 0, 0) ≠ x
  | [], x, i, h, j, hj => by simp at hj
  | y :: r, x, i, h, j, hj => by
    simp only [fnd] at h
    split at h
    · simp at h
    · rename_i e
      cases j with
      | zero => simpa using e
      | succ j => simpa using fnd_none h j (by simpa using hj)
def find (F : List T3) (x : T3) : Option Int := fnd (F.drop 2) x 2
theorem getD_drop (F : List T3) (i : Nat) : (F.drop 2).getD i (0, 0, 0) = F.getD (2 + i) (0, 0, 0) := by
  simp [List.getD_eq_getElem?_getD]
theorem find_some {F x n} (h : find F x = some n) : 2 ≤ n ∧ n < F.length ∧ frk F n = x := by
  obtain ⟨a, b, c⟩ := fnd_some h
  rw [getD_drop] at c
  simp only [List.length_drop] at b
  refine ⟨a, by omega, ?_⟩
  unfold frk
  rw [← c]; congr 1; omega
theorem find_none {F x} (h : find F x = none) (n : Int) (h2 : 2 ≤ n) (hn : n < F.length) : frk F n ≠ x := by
  have := fnd_none h (n.toNat - 2) (by simp; omega)
  rw [getD_drop] at this
  unfold frk
  rwa [show 2 + (n.toNat - 2) = n.toNat by omega] at this
theorem find_eq {vars F} (ho : Ok vars F) {n : Int} (h2 : 2 ≤ n) (hn : n < F.length) {x} (hx : frk F n = x) : find F x = some n := by
  cases h : find F x with
  | none => exact absurd hx (find_none h n h2 hn)
  | some m =>
    obtain ⟨a, b, c⟩ := find_some h
    rw [ho.uniq n m h2 hn a b (hx.trans c.symm)]
def put : Nat → List T3 → Int → List Bool → List T3 × Int
  | 0, F, _, t => (F, if t.headD false then 1 else 0)
  | k + 1, F, v, t =>
    if t.take (2 ^ k) = t.drop (2 ^ k) then put k F (v + 1) (t.take (2 ^ k))
    else
      let a := put k F (v + 1) (t.take (2 ^ k))
      let b := put k a.1 (v + 1) (t.drop (2 ^ k))
      match find b.1 (v, a.2, b.2) with
      | some i => (b.1, i)
      | none => (b.1 ++ [(v, a.2, b.2)], b.1.length)
theorem put_same {k F v t} (h : t.length = 2 ^ k) : put (k + 1) F v (t ++ t) = put k F (v + 1) t := by
  simp only [put]
  rw [List.take_left' h, List.drop_left' h, if_pos rfl]
theorem put_two {k F v s t} (h : s.length = 2 ^ k) (hne : s ≠ t) : put (k + 1) F v (s ++ t) =
    (match find (put k (put k F (v + 1) s).1 (v + 1) t).1 (v, (put k F (v + 1) s).2, (put k (put k F (v + 1) s).1 (v + 1) t).2) with
      | some i => ((put k (put k F (v + 1) s).1 (v + 1) t).1, i)
      | none => ((put k (put k F (v + 1) s).1 (v + 1) t).1 ++ [(v, (put k F (v + 1) s).2, (put k (put k F (v + 1) s).1 (v + 1) t).2)], ((put k (put k F (v + 1) s).1 (v + 1) t).1.length : Int))) := by
  simp only [put]
  rw [List.take_left' h, List.drop_left' h, if_neg hne]
theorem put_present {vars F} (ho : Ok vars F) : ∀ (k : Nat) (v n : Int), v + k = vars → In vars F v n → put k F v (tab F k v n) = (F, n)
  | 0, v, n, hv, hn => by
    have e : v = vars := by omega
    subst e
    rcases hn.end ho with rfl | rfl <;> simp [put, tab]
  | k + 1, v, n, hv, hn => by
    by_cases c : 2 ≤ n ∧ (frk F n).1 = v
    · rw [tab_at c, put_two (tab_len ..)]
      · have h1 := put_present ho k (v + 1) _ (by omega) (hn.lo ho c)
        have h2 := put_present ho k (v + 1) _ (by omega) (hn.hi ho c)
        simp only [h1, h2]
        rw [find_eq ho c.1 hn.2.1 (x := (v, (frk F n).2.1, (frk F n).2.2)) (by rw [← c.2])]
      · intro e
        exact ho.ne n c.1 hn.2.1 (canon ho k (v + 1) _ _ (by omega) (hn.lo ho c) (hn.hi ho c) e)
    · rw [tab_up c, put_same (tab_len ..)]
      exact put_present ho k (v + 1) n (by omega) (hn.up ho hv c)
theorem Ok.push {vars F} (ho : Ok vars F) {v lo hi : Int} (hv0 : 0 ≤ v) (hv : v < vars) (hne : lo ≠ hi) (h1 : In vars F (v + 1) lo) (h2 : In vars F (v + 1) hi) (hf : find F (v, lo, hi) = none) :
    Ok vars (F ++ [(v, lo, hi)]) ∧ frk (F ++ [(v, lo, hi)]) F.length = (v, lo, hi) := by
  have hlast : frk (F ++ [(v, lo, hi)]) F.length = (v, lo, hi) := by simp [frk, List.getD_eq_getElem?_getD]
  refine ⟨?_, hlast⟩
  have split : ∀ i : Int, 2 ≤ i → i < (F ++ [(v, lo, hi)]).length → (i < F.length ∧ frk (F ++ [(v, lo, hi)]) i = frk F i) ∨ (i = F.length ∧ frk (F ++ [(v, lo, hi)]) i = (v, lo, hi)) := fun i a b => by
    simp at b
    by_cases c : i < F.length
    · exact .inl ⟨c, frk_app (by omega) c⟩
    · have e : i = F.length := by omega
      subst e; exact .inr ⟨rfl, hlast⟩
  refine ⟨by have := ho.two; simp; omega, ho.lo, fun i a b => ?_, fun i a b => ?_, fun i a b => ?_, fun i a b => ?_, fun i j a b c d e => ?_⟩
  · rcases split i a b with ⟨q, e⟩ | ⟨q, e⟩ <;> rw [e]
    · exact ho.var i a q
    · exact ⟨hv0, hv⟩
  · rcases split i a b with ⟨q, e⟩ | ⟨q, e⟩ <;> rw [e]
    · exact ho.ne i a q
    · exact hne
  · rcases split i a b with ⟨q, e⟩ | ⟨q, e⟩ <;> rw [e]
    · obtain ⟨x, y, z⟩ := ho.low i a q
      exact ⟨x, y, by rw [top_app (by omega)]; exact z⟩
    · exact ⟨h1.1, by have := h1.2.1; subst q; exact this, by rw [top_app h1.2.1]; have := h1.2.2; show v < _; omega⟩
  · rcases split i a b with ⟨q, e⟩ | ⟨q, e⟩ <;> rw [e]
    · obtain ⟨x, y, z⟩ := ho.high i a q
      exact ⟨x, y, by rw [top_app (by omega)]; exact z⟩
    · exact ⟨h2.1, by have := h2.2.1; subst q; exact this, by rw [top_app h2.2.1]; have := h2.2.2; show v < _; omega⟩
  · rcases split i a b with ⟨q, e1⟩ | ⟨q, e1⟩ <;> rcases split j c d with ⟨q', e2⟩ | ⟨q', e2⟩ <;> rw [e1, e2] at e
    · exact ho.uniq i j a q c q' e
    · exact absurd e (find_none hf i a q)
    · exact absurd e.symm (find_none hf j c q')
    · omega
theorem two_pow_pos' (k : Nat) : 1 ≤ 2 ^ k := Nat.one_le_two_pow
structure Put (vars : Int) (F : List T3) (k : Nat) (v : Int) (t : List Bool) (r : List T3 × Int) : Prop where
  ok : Ok vars r.1
  pre : ∃ l, r.1 = F ++ l
  inn : In vars r.1 v r.2
  tab : tab r.1 k v r.2 = t
  len : r.1.length + 1 ≤ F.length + 2 ^ k
  last : r.1 = F ∨ r.2 = r.1.length - 1
  new : ∀ i : Int, F.length ≤ i → i < r.1.length → v ≤ (frk r.1 i).1
theorem put_ok {vars} : ∀ (k : Nat) (F : List T3) (v : Int) (t : List Bool), Ok vars F → 0 ≤ v → v + k = vars → t.length = 2 ^ k → Put vars F k v t (put k F v t)
  | 0, F, v, t, ho, hv0, hv, ht => by
    obtain ⟨b, rfl⟩ : ∃ b, t = [b] := by
      match t, ht with
      | [b], _ => exact ⟨b, rfl⟩
    have h2 := ho.two
    refine ⟨ho, ⟨[], by simp [put]⟩, ?_, ?_, by simp [put], .inl rfl, fun i a b => by simp only [put] at b; omega⟩
    · cases b <;> refine ⟨by simp [put], by simp [put]; omega, by simp [put, top]; omega⟩
    · cases b <;> simp [put, Bd.tab]
  | k + 1, F, v, t, ho, hv0, hv, ht => by
    have hp := two_pow_pos' k
    have he : t = t.take (2 ^ k) ++ t.drop (2 ^ k) := (List.take_append_drop _ _).symm
    have l1 : (t.take (2 ^ k)).length = 2 ^ k := by rw [List.length_take, ht]; omega
    have l2 : (t.drop (2 ^ k)).length = 2 ^ k := by rw [List.length_drop, ht]; omega
    generalize t.take (2 ^ k) = s1 at *
    generalize t.drop (2 ^ k) = s2 at *
    subst he
    have up : ∀ {F n}, In vars F (v + 1) n → Ok vars F → tab F (k + 1) v n = tab F k (v + 1) n ++ tab F k (v + 1) n := fun {F n} h ho => by
      refine tab_up fun c => ?_
      have := h.2.2
      unfold top at this
      rw [if_neg (by omega)] at this
      omega
    by_cases hs : s1 = s2
    · subst hs
      rw [put_same l1]
      have p := put_ok k F (v + 1) s1 ho (by omega) (by omega) l1
      exact ⟨p.ok, p.pre, ⟨p.inn.1, p.inn.2.1, by have := p.inn.2.2; omega⟩, by rw [up p.inn p.ok, p.tab], by have := p.len; omega, p.last, fun i a b => by have := p.new i a b; omega⟩
    · rw [put_two l1 hs]
      have p := put_ok k F (v + 1) s1 ho (by omega) (by omega) l1
      generalize ha : put k F (v + 1) s1 = a at *
      have q := put_ok k a.1 (v + 1) s2 p.ok (by omega) (by omega) l2
      generalize hb : put k a.1 (v + 1) s2 = b at *
      obtain ⟨la, ea⟩ := p.pre
      obtain ⟨lb, eb⟩ := q.pre
      have ia : In vars b.1 (v + 1) a.2 := by rw [eb]; exact p.inn.app lb
      have ta : Bd.tab b.1 k (v + 1) a.2 = s1 := by rw [eb, tab_app p.ok _ _ _ _ p.inn.1 p.inn.2.1, p.tab]
      have hlen := p.len
      have hlen' := q.len
      cases hf : find b.1 (v, a.2, b.2) with
      | some i =>
        obtain ⟨f1, f2, f3⟩ := find_some hf
        refine ⟨q.ok, ⟨la ++ lb, by rw [eb, ea, List.append_assoc]⟩, ⟨by show 0 ≤ i; omega, f2, by show v ≤ top vars b.1 i; unfold top; rw [if_neg (by omega), f3]; exact Int.le_refl v⟩, ?_, by show b.1.length + 1 ≤ _; omega, ?_, ?_⟩
        · show Bd.tab b.1 (k + 1) v i = _
          rw [tab_at ⟨f1, by rw [f3]⟩, f3]
          show Bd.tab b.1 k (v + 1) a.2 ++ Bd.tab b.1 k (v + 1) b.2 = _
          rw [ta, q.tab]
        · refine .inl ?_
          show b.1 = F
          have hiF : i < F.length := by
            rcases Int.lt_or_le i F.length with h | h
            · exact h
            · exfalso
              by_cases hia : i < a.1.length
              · have := p.new i h hia
                have e : frk b.1 i = frk a.1 i := by rw [eb]; exact frk_app (by omega) hia
                rw [← e, f3] at this
                simp only at this
                omega
              · have := q.new i (by omega) f2
                rw [f3] at this
                simp only at this
                omega
          have hFb : b.1 = F ++ (la ++ lb) := by rw [eb, ea, List.append_assoc]
          have htab : Bd.tab F (k + 1) v i = s1 ++ s2 := by
            rw [← tab_app ho (la ++ lb) _ _ _ (by omega) hiF, ← hFb, tab_at ⟨f1, by rw [f3]⟩, f3]
            show Bd.tab b.1 k (v + 1) a.2 ++ Bd.tab b.1 k (v + 1) b.2 = _
            rw [ta, q.tab]
          have hin : In vars F v i := ⟨by omega, hiF, by
            have : frk b.1 i = frk F i := by rw [hFb]; exact frk_app (by omega) hiF
            unfold top; rw [if_neg (by omega), ← this, f3]; exact Int.le_refl v⟩
          have hpp := put_present ho (k + 1) v i hv hin
          rw [htab, put_two l1 hs, ha, hb, hf] at hpp
          exact (Prod.mk.inj hpp).1
        · intro j h1 h2
          show v ≤ (frk b.1 j).1
          by_cases hia : j < a.1.length
          · have := p.new j h1 hia
            have e : frk b.1 j = frk a.1 j := by rw [eb]; exact frk_app (by omega) hia
            rw [e]; omega
          · have := q.new j (by omega) h2
            omega
      | none =>
        have hne : a.2 ≠ b.2 := fun e => by
          apply hs
          rw [← ta, e, q.tab]
        obtain ⟨o1, o2⟩ := q.ok.push hv0 (by omega) hne ia q.inn hf
        refine ⟨o1, ⟨la ++ lb ++ [(v, a.2, b.2)], by show b.1 ++ _ = _; rw [eb, ea]; simp⟩, ⟨by show (0 : Int) ≤ b.1.length; omega, by simp; omega, ?_⟩, ?_, by simp; omega, .inr (by simp), ?_⟩
        · show v ≤ top vars _ (b.1.length : Int)
          have := q.ok.two
          unfold top
          rw [if_neg (by omega), o2]
          exact Int.le_refl v
        · show Bd.tab (b.1 ++ [(v, a.2, b.2)]) (k + 1) v b.1.length = _
          have := q.ok.two
          rw [tab_at ⟨by omega, by rw [o2]⟩, o2]
          show Bd.tab _ k (v + 1) a.2 ++ Bd.tab _ k (v + 1) b.2 = _
          rw [tab_app q.ok _ _ _ _ ia.1 ia.2.1, tab_app q.ok _ _ _ _ q.inn.1 q.inn.2.1, ta, q.tab]
        · intro j h1 h2
          show v ≤ (frk (b.1 ++ [(v, a.2, b.2)]) j).1
          by_cases hj : j < b.1.length
          · rw [frk_app (by omega) hj]
            by_cases hia : j < a.1.length
            · have := p.new j h1 hia
              have e : frk b.1 j = frk a.1 j := by rw [eb]; exact frk_app (by omega) hia
              rw [e]; omega
            · have := q.new j (by omega) hj
              omega
          · have e : j = b.1.length := by simp at h2; omega
            rw [e, o2]; exact Int.le_refl v
end Fil.Bd

