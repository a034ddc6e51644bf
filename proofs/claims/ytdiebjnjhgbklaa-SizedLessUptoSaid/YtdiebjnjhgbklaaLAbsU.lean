/- The abstraction layer, part U: a statement's arguments by the shapes of their types. Over any program. -/
import Derived.Test.YtdiebjnjhgbklaaLSizSizAe
set_option linter.unusedSimpArgs false
set_option linter.unusedVariables false
namespace Fil.Sz
open Abs

/-! ### Two lists, one by one -/
def All2 {α β : Type} (R : α → β → Prop) : List α → List β → Prop
  | [], [] => True
  | a :: l, b :: m => R a b ∧ All2 R l m
  | [], _ :: _ => False
  | _ :: _, [] => False
theorem all2_len {α β : Type} {R : α → β → Prop} : ∀ {l : List α} {m : List β}, All2 R l m → m.length = l.length
  | [], [], _ => rfl
  | a :: l, b :: m, h => by rw [List.length_cons, List.length_cons, all2_len h.2]
  | [], _ :: _, h => h.elim
  | _ :: _, [], h => h.elim
theorem all2_imp {α β : Type} {R S : α → β → Prop} : ∀ {l : List α} {m : List β}, All2 R l m → (∀ a ∈ l, ∀ b, R a b → S a b) → All2 S l m
  | [], [], _, _ => trivial
  | a :: l, b :: m, h, k => ⟨k a (by simp) b h.1, all2_imp h.2 fun a' ha => k a' (by simp [ha])⟩
  | [], _ :: _, h, _ => h.elim
  | _ :: _, [], h, _ => h.elim
theorem all2_map {α β γ : Type} {R : α → β → Prop} {f : α → γ} {k : β → γ} (h : ∀ a b, R a b → k b = f a) : ∀ {l : List α} {m : List β}, All2 R l m → m.map k = l.map f
  | [], [], _ => rfl
  | a :: l, b :: m, q => by rw [List.map_cons, List.map_cons, h a b q.1, all2_map h q.2]
  | [], _ :: _, q => q.elim
  | _ :: _, [], q => q.elim
theorem all2_right {α β : Type} {R : α → β → Prop} {S : β → β → Prop} (h : ∀ a b, R a b → S b b) : ∀ {l : List α} {m : List β}, All2 R l m → All2 S m m
  | [], [], _ => trivial
  | a :: l, b :: m, q => ⟨h a b q.1, all2_right h q.2⟩
  | [], _ :: _, q => q.elim
  | _ :: _, [], q => q.elim
theorem all2_all {α β : Type} {R : α → β → Prop} {p : α → Bool} {q : β → Bool} (h : ∀ a b, R a b → p a = true → q b = true) : ∀ {l : List α} {m : List β}, All2 R l m → l.all p = true → m.all q = true
  | [], [], _, _ => rfl
  | a :: l, b :: m, k, hp => by
    rw [List.all_cons, Bool.and_eq_true] at hp ⊢
    exact ⟨h a b k.1 hp.1, all2_all h k.2 hp.2⟩
  | [], _ :: _, q, _ => q.elim
  | _ :: _, [], q, _ => q.elim
theorem all2_mapL {α β γ : Type} {R : α → β → Prop} {f : γ → α} : ∀ {l : List γ} {m : List β}, All2 R (l.map f) m ↔ All2 (fun a b => R (f a) b) l m
  | [], [] => Iff.rfl
  | a :: l, b :: m => by
    show R (f a) b ∧ All2 R (l.map f) m ↔ R (f a) b ∧ All2 (fun a b => R (f a) b) l m
    rw [all2_mapL]
  | [], _ :: _ => Iff.rfl
  | _ :: _, [] => Iff.rfl
theorem all2_take {α : Type} {R : α → α → Prop} : ∀ (n : Nat) {l : List α}, All2 R l l → All2 R (l.take n) (l.take n)
  | 0, l, _ => by rw [List.take_zero]; trivial
  | n + 1, [], _ => trivial
  | n + 1, a :: l, h => ⟨h.1, all2_take n h.2⟩
theorem all2_drop {α : Type} {R : α → α → Prop} : ∀ (n : Nat) {l : List α}, All2 R l l → All2 R (l.drop n) (l.drop n)
  | 0, l, h => h
  | n + 1, [], _ => trivial
  | n + 1, a :: l, h => all2_drop n h.2
theorem all2_mem {α β : Type} {R : α → β → Prop} : ∀ {l : List α} {m : List β}, All2 R l m → ∀ b ∈ m, ∃ a ∈ l, R a b
  | [], [], _, b, hb => by cases hb
  | a :: l, c :: m, h, b, hb => by
    rcases List.mem_cons.1 hb with rfl | hb
    · exact ⟨a, by simp, h.1⟩
    · obtain ⟨a', h1, h2⟩ := all2_mem h.2 b hb
      exact ⟨a', by simp [h1], h2⟩
  | [], _ :: _, h, _, _ => h.elim
  | _ :: _, [], h, _, _ => h.elim
def Keeps {β : Type} (f : Int → β × Int) : Prop := ∀ e, e ≠ 0 → (f e).2 = e
theorem thrL_iff {β : Type} : ∀ {l : List (Int → β × Int)} {xs : List β} {e : Int}, (∀ f ∈ l, Keeps f) → (thrL l e = (xs, 0) ↔ e = 0 ∧ All2 (fun f x => f 0 = (x, 0)) l xs)
  | [], xs, e, _ => by
    cases xs with
    | nil => simp [thrL, All2]
    | cons x xs => simp [thrL, All2]
  | f :: l, xs, e, h => by
    have ih := fun (xs : List β) (e : Int) => thrL_iff (l := l) (xs := xs) (e := e) fun f' hf => h f' (by simp [hf])
    have hf := h f (by simp)
    cases xs with
    | nil => simp [thrL, All2]
    | cons x xs =>
      simp only [thrL, Prod.mk.injEq, List.cons.injEq]
      constructor
      · rintro ⟨⟨h1, h2⟩, h3⟩
        obtain ⟨k1, k2⟩ := (ih xs (f e).2).1 (Prod.ext h2 h3)
        have he : e = 0 := Classical.byContradiction fun q => q (by rw [← hf e q]; exact k1)
        subst he
        exact ⟨rfl, Prod.ext h1 k1, k2⟩
      · rintro ⟨rfl, h1, h2⟩
        have h3 := (ih xs (f 0).2).2 ⟨by rw [h1], h2⟩
        rw [h3, h1]
        simp
theorem thrL_ok {β : Type} {l : List (Int → β × Int)} {e : Int} (h : ∀ f ∈ l, Keeps f) (h0 : (thrL l e).2 = 0) : e = 0 ∧ All2 (fun f x => f 0 = (x, 0)) l (thrL l e).1 :=
  (thrL_iff h).1 (Prod.ext rfl h0)
theorem keeps_E (w : Int) (l : List E) : ∀ f ∈ l.map (fun x => exprS x w), Keeps f := fun f hf e he => by
  obtain ⟨x, _, rfl⟩ := List.mem_map.1 hf
  exact exprS_err _ _ _ he
theorem keeps_T (g : List Sg) (clk : Bool) (lab : Int) (l : List T) : ∀ f ∈ l.map (fun x => stT g clk x lab), Keeps f := fun f hf e he => by
  obtain ⟨x, _, rfl⟩ := List.mem_map.1 hf
  exact stT_err _ _ _ _ _ he
theorem keeps_P (g : List Sg) (l : List Pr) : ∀ f ∈ l.map (prS g), Keeps f := fun f hf e he => by
  obtain ⟨x, _, rfl⟩ := List.mem_map.1 hf
  exact lsT_err _ _ _ _ _ he
theorem keeps_C (l : List Ck) : ∀ f ∈ l.map ckS, Keeps f := fun f hf e he => by
  obtain ⟨x, _, rfl⟩ := List.mem_map.1 hf
  exact exprS_err _ _ _ he
theorem exprS0 (x : E) (w : Int) : exprS x w 0 = size x w := by simp [exprS]

/-! ### A statement's labels matter to arms alone -/
structure OkT (g : List Sg) (clk : Bool) (t : T) (lab : Int) (x : T) : Prop where
  op : x.op = t.op
  sig : x.sig = t.sig
  hi : x.hi = t.hi
  lo : x.lo = t.lo
  lenE : x.e.length = t.e.length
  lenL : x.l.length = t.l.length
  nodes : nodesT x = nodesT t
  deep : deepT x = deepT t
  shp : shpT g t = true → shpT g x = true
  arm : armT g t = true → armT g x = true
  wf : WfT t → WfT x
  again : stT g clk x lab 0 = (x, 0)
theorem armsOk_map {l m : List T} (h : m.map (fun t => t.e.length) = l.map (fun t => t.e.length)) (hl : armsOk l) : armsOk m := by
  have hlen : m.length = l.length := by have := congrArg List.length h; simpa using this
  refine ⟨by rw [hlen]; exact hl.1, fun i hi => ?_⟩
  have h2 := hl.2 i (by omega)
  have h3 : (m.map (fun t => t.e.length))[i]'(by simpa using hi) = (l.map (fun t => t.e.length))[i]'(by simp; omega) := by simp only [h]
  simp only [List.getElem_map] at h3
  rw [h3, hlen]; exact h2
theorem stT_ok {g : List Sg} (hg : SgOk g) (clk : Bool) (t : T) : ∀ (lab e0 : Int) (x : T), ShT g t → -1 ≤ lab → lab ≤ 64 → stT g clk t lab e0 = (x, 0) → e0 = 0 ∧ roleE g clk t 0 = 0 ∧ OkT g clk t lab x := by
  refine T.ind (P := fun t => ∀ (lab e0 : Int) (x : T), ShT g t → -1 ≤ lab → lab ≤ 64 → stT g clk t lab e0 = (x, 0) → e0 = 0 ∧ roleE g clk t 0 = 0 ∧ OkT g clk t lab x) (fun t ih lab e0 x hs h0 h64 h => ?_) t
  obtain ⟨⟨s1, s2, s3⟩, s4⟩ := (ShT_iff g t).1 hs
  rw [stT_eq] at h
  have hwg := wantT_ge (lab := lab) s2 h0
  have hw64 : wantT t lab ≤ 64 := by
    unfold wantT
    split
    · rename_i ho; have := place_bits hg (s2 ho); omega
    split
    · omega
    split
    · omega
    · exact h64
  obtain ⟨⟨xs, e1⟩, hX⟩ : ∃ X, esT g clk t lab e0 = X := ⟨_, rfl⟩
  rw [hX] at h
  simp only at h
  obtain ⟨⟨ys, e2⟩, hY⟩ : ∃ Y, lsT g clk t.l (labT t lab xs) e1 = Y := ⟨_, rfl⟩
  rw [hY] at h
  simp only [Prod.mk.injEq] at h
  obtain ⟨hx, rfl⟩ := h
  unfold lsT at hY
  obtain ⟨rfl, hL⟩ := (thrL_iff (keeps_T _ _ _ _)).1 hY
  have hX2 := hX
  unfold esT at hX
  obtain ⟨hr, hE⟩ := (thrL_iff (keeps_E _ _)).1 hX
  have he0 : e0 = 0 := Classical.byContradiction fun q => by
    have := stT_err g clk t lab e0 q
    rw [stT_eq, hX2] at this
    simp only at this
    unfold lsT at this
    rw [hY] at this
    exact q this.symm
  subst he0
  rw [all2_mapL] at hE hL
  -- the expressions
  have hE2 : All2 (fun a b => shp g a = true ∧ Ok g a (wantT t lab) b) t.e xs := all2_imp hE fun a ha b hab => by
    rw [exprS0] at hab
    exact ⟨s1 a ha, size_main hg a _ b (s1 a ha) hwg hab⟩
  have hlab : -1 ≤ labT t lab xs ∧ labT t lab xs ≤ 64 := by
    unfold labT
    split
    · rename_i ho
      cases hxs : xs with
      | nil => simp [part0, zE_w]
      | cons b l =>
        cases hte : t.e with
        | nil => have := s3 ho; rw [hte] at this; simp at this
        | cons a l' =>
          rw [hxs, hte] at hE2
          have ok := hE2.1.2
          have h1 := (ok.shp hw64).1
          have h2 := ok.pos
          have h3 := ok.wd
          simp only [part0, List.headD_cons]
          omega
    · exact ⟨h0, h64⟩
  have hL2 : All2 (fun a b => OkT g clk a (labT t lab xs) b) t.l ys := all2_imp hL fun a ha b hab => (ih a ha _ _ b (s4 a ha) hlab.1 hlab.2 hab).2.2
  subst hx
  have hEs : All2 (fun a b => shp g a = true ∧ shp g b = true ∧ Sz.nodes b = Sz.nodes a ∧ Sz.deep b = Sz.deep a ∧ b.op = a.op ∧ exprS b (wantT t lab) 0 = (b, 0)) t.e xs := all2_imp hE2 fun a _ b ⟨q, ok⟩ =>
    ⟨q, (ok.shp hw64).2, ok.nodes, ok.deep, ok.op, by rw [exprS0]; exact ok.same⟩
  have hEw : All2 (fun a b => WfE a → WfE b) t.e xs := all2_imp hE fun a ha b hab hwa => by
    rw [exprS0] at hab
    exact size_wf hg a _ b (s1 a ha) hwg hw64 hwa hab
  have lenE := all2_len hE2
  have lenL := all2_len hL2
  have allE : xs.all (Sz.shp g) = true := all2_all (p := Sz.shp g) (fun a b h _ => h.2.1) hEs (List.all_eq_true.2 s1)
  have opsL : ∀ (k : Int), t.l.all (fun x => decide (x.op = k)) = true → ys.all (fun x => decide (x.op = k)) = true := fun k => all2_all (fun a b h q => by rw [h.op]; exact q) hL2
  have allL : t.l.all (shpT g) = true → ys.all (shpT g) = true := all2_all (fun a b h q => h.shp q) hL2
  have allA : t.l.all (armT g) = true → ys.all (armT g) = true := all2_all (fun a b h q => h.arm q) hL2
  have lens : ys.map (fun t => t.e.length) = t.l.map (fun t => t.e.length) := all2_map (fun a b h => h.lenE) hL2
  refine ⟨rfl, hr, rfl, rfl, rfl, rfl, lenE, lenL, ?_, ?_, fun hsh => ?_, fun ha => ?_, fun hwf => ?_, ?_⟩
  · rw [nodesT_eq, nodesT_eq t, T.mk_e, T.mk_l, all2_map (fun a b h => h.2.2.1) hEs, all2_map (fun a b h => h.nodes) hL2]
  · rw [deepT_eq, deepT_eq t, T.mk_e, T.mk_l, all2_map (fun a b h => h.2.2.2.1) hEs, all2_map (fun a b h => h.deep) hL2]
  · rw [shpT_eq] at hsh ⊢
    rw [T.mk_op, T.mk_sig, T.mk_hi, T.mk_lo, T.mk_e, T.mk_l, allE]
    split at hsh
    · rename_i ho
      rw [if_pos ho]
      simp only [Bool.and_eq_true, decide_eq_true_eq] at hsh ⊢
      exact ⟨⟨trivial, by omega, by omega⟩, hsh.2⟩
    rename_i ho
    rw [if_neg ho]
    simp only [Bool.and_eq_true] at hsh ⊢
    refine ⟨⟨hsh.1.1, trivial⟩, ?_⟩
    replace hsh := hsh.2
    split at hsh
    · rename_i ho
      rw [if_pos ho]
      simp only [Bool.and_eq_true, decide_eq_true_eq] at hsh ⊢
      exact ⟨⟨⟨by omega, by omega⟩, opsL 5 hsh.1.2⟩, allL hsh.2⟩
    rename_i ho
    rw [if_neg ho]
    split at hsh
    · rename_i ho
      rw [if_pos ho]
      simp only [Bool.and_eq_true, decide_eq_true_eq, armsT] at hsh ⊢
      exact ⟨by omega, armsOk_map lens hsh.2.1, allA hsh.2.2⟩
    rename_i ho
    rw [if_neg ho]
    split at hsh
    · rename_i ho
      rw [if_pos ho]
      simp only [Bool.and_eq_true, decide_eq_true_eq] at hsh ⊢
      exact ⟨by omega, allL hsh.2⟩
    · simp at hsh
  · rw [armT_eq] at ha ⊢
    simp only [T.mk_op, T.mk_sig, T.mk_hi, T.mk_lo, T.mk_e, T.mk_l, Bool.and_eq_true] at ha ⊢
    refine ⟨⟨ha.1.1, ?_⟩, allL ha.2⟩
    refine all2_all (fun a b h q => ?_) hEs ha.1.2
    rw [Bool.and_eq_true, decide_eq_true_eq] at q ⊢
    exact ⟨by rw [h.2.2.2.2.1]; exact q.1, h.2.1⟩
  · rw [WfT_iff] at hwf ⊢
    refine ⟨hwf.1, fun b hb => ?_, fun b hb => ?_⟩
    · obtain ⟨a, h1, h2⟩ := all2_mem hEw b hb
      exact h2 (hwf.2.1 a h1)
    · obtain ⟨a, h1, h2⟩ := all2_mem hL2 b hb
      exact h2.wf (hwf.2.2 a h1)
  · have q1 : esT g clk (T.mk t.op t.sig t.hi t.lo xs ys) lab 0 = (xs, 0) := by
      have e1 : roleE g clk (T.mk t.op t.sig t.hi t.lo xs ys) 0 = roleE g clk t 0 := rfl
      have e2 : wantT (T.mk t.op t.sig t.hi t.lo xs ys) lab = wantT t lab := rfl
      unfold esT
      rw [e1, e2, T.mk_e]
      refine (thrL_iff (keeps_E _ _)).2 ⟨hr, all2_mapL.2 (all2_right (fun a b h => h.2.2.2.2.2) hEs)⟩
    rw [stT_eq, q1]
    simp only [T.mk_op, T.mk_sig, T.mk_hi, T.mk_lo, T.mk_l]
    have e3 : labT (T.mk t.op t.sig t.hi t.lo xs ys) lab xs = labT t lab xs := rfl
    have q2 : lsT g clk ys (labT (T.mk t.op t.sig t.hi t.lo xs ys) lab xs) 0 = (ys, 0) := by
      rw [e3]
      exact (thrL_iff (keeps_T _ _ _ _)).2 ⟨rfl, all2_mapL.2 (all2_right (fun a b h => h.again) hL2)⟩
    rw [q2]

/-! ### Designs -/
structure OkP (g : List Sg) (p q : Pr) : Prop where
  clk : q.clk = p.clk
  nodes : nodesP q = nodesP p
  deep : deepP q = deepP p
  shp : q.l.all (shpT g) = true
  wf : (∀ t ∈ p.l, WfT t) → ∀ t ∈ q.l, WfT t
  again : prS g q 0 = (q, 0)
structure OkC (g : List Sg) (c k : Ck) : Prop where
  nodes : Sz.nodes k.e = Sz.nodes c.e
  deep : Sz.deep k.e = Sz.deep c.e
  shp : shp g k.e = true
  wf : WfE c.e → WfE k.e
  again : ckS k 0 = (k, 0)
theorem prS_ok {g : List Sg} (hg : SgOk g) {p q : Pr} (hs : p.l.all (shpT g) = true) (h : prS g p 0 = (q, 0)) : OkP g p q := by
  unfold prS at h
  simp only [Prod.mk.injEq] at h
  obtain ⟨rfl, h2⟩ := h
  obtain ⟨ys, hY⟩ : ∃ Y, (lsT g p.clk p.l 0 0).1 = Y := ⟨_, rfl⟩
  have hL : lsT g p.clk p.l 0 0 = (ys, 0) := Prod.ext hY h2
  rw [hY]
  rw [List.all_eq_true] at hs
  have hL2 := hL
  unfold lsT at hL
  obtain ⟨_, hA⟩ := (thrL_iff (keeps_T _ _ _ _)).1 hL
  rw [all2_mapL] at hA
  have hA2 : All2 (fun a b => OkT g p.clk a 0 b) p.l ys := all2_imp hA fun a ha b hab => (stT_ok hg p.clk a 0 0 b (shpT_sh g a (.inl (hs a ha))) (by omega) (by omega) hab).2.2
  refine ⟨rfl, ?_, ?_, ?_, fun hwf b hb => ?_, ?_⟩
  · unfold nodesP; rw [all2_map (fun a b h => h.nodes) hA2]
  · unfold deepP; rw [all2_map (fun a b h => h.deep) hA2]
  · exact all2_all (fun a b h q => h.shp q) hA2 (List.all_eq_true.2 hs)
  · obtain ⟨a, h1, h2⟩ := all2_mem hA2 b hb
    exact h2.wf (hwf a h1)
  · have : lsT g p.clk ys 0 0 = (ys, 0) := (thrL_iff (keeps_T _ _ _ _)).2 ⟨rfl, all2_mapL.2 (all2_right (fun a b h => h.again) hA2)⟩
    unfold prS
    simp only [this]
theorem ckS_ok {g : List Sg} (hg : SgOk g) {c k : Ck} (hs : shp g c.e = true) (h : ckS c 0 = (k, 0)) : OkC g c k := by
  unfold ckS at h
  simp only [Prod.mk.injEq, exprS0] at h
  obtain ⟨rfl, h2⟩ := h
  have ok := size_main hg c.e (-1) (size c.e (-1)).1 hs (by omega) (Prod.ext rfl h2)
  refine ⟨ok.nodes, ok.deep, (ok.shp (by omega)).2, fun hwf => size_wf hg c.e (-1) _ hs (by omega) (by omega) hwf (Prod.ext rfl h2), ?_⟩
  unfold ckS
  simp only [exprS0, ok.same]
structure SzOk (d x : Flat) : Prop where
  sigs : x.sigs = d.sigs
  procs : x.procs.length = d.procs.length
  chks : x.chks.length = d.chks.length
  nodes : nodesD x = nodesD d
  wf : WfD d → WfD x
  same : sizeD x = (x, 0)
theorem sizeD_parts {d : Flat} (h : (sizeD d).2 = 0) : fitsD d = true ∧ shapedD d = true ∧ fillsD d = true ∧ (prsD d).2 = 0 ∧ (cksD d).2 = 0 ∧ sizeD d = (⟨d.sigs, (prsD d).1, (cksD d).1⟩, 0) := by
  unfold sizeD at h ⊢
  split at h
  · simp at h
  rename_i q1
  split at h
  · simp at h
  rename_i q2
  split at h
  · simp at h
  rename_i q3
  split at h
  · rename_i q4; exact (q4 h).elim
  rename_i q4
  have hc : (cksD d).2 = 0 := by omega
  have hp : (prsD d).2 = 0 := by
    have := (thrL_ok (keeps_C _) (show (thrL (d.chks.map ckS) (prsD d).2).2 = 0 from hc)).1
    exact this
  refine ⟨by simpa using q1, by simpa using q2, by simpa using q3, hp, hc, ?_⟩
  rw [if_neg q1, if_neg q2, if_neg q3, if_neg q4]
theorem sizeD_of {d : Flat} {ps : List Pr} {cs : List Ck} (h1 : fitsD d = true) (h2 : shapedD d = true) (h3 : fillsD d = true) (h4 : prsD d = (ps, 0)) (h5 : cksD d = (cs, 0)) : sizeD d = (⟨d.sigs, ps, cs⟩, 0) := by
  unfold sizeD
  rw [h1, h2, h3, h4, h5]
  simp
theorem shapedD_iff {d : Flat} : shapedD d = true ↔ sigsOk d.sigs = true ∧ d.procs.all (fun p => p.l.all (shpT d.sigs)) = true ∧ d.chks.all (fun c => shp d.sigs c.e) = true := by
  unfold shapedD; simp only [Bool.and_eq_true, and_assoc]
theorem sizeD_ok {d : Flat} (h : (sizeD d).2 = 0) : SzOk d (sizeD d).1 := by
  obtain ⟨f1, f2, f3, f4, f5, f6⟩ := sizeD_parts h
  rw [f6]
  obtain ⟨s1, s2, s3⟩ := shapedD_iff.1 f2
  have hg := sigsOk_ok s1
  obtain ⟨ps, hps⟩ : ∃ ps, (prsD d).1 = ps := ⟨_, rfl⟩
  obtain ⟨cs, hcs⟩ : ∃ cs, (cksD d).1 = cs := ⟨_, rfl⟩
  rw [hps, hcs]
  have hP : prsD d = (ps, 0) := Prod.ext hps f4
  have hC : cksD d = (cs, 0) := Prod.ext hcs f5
  unfold prsD at hP
  unfold cksD at hC
  obtain ⟨_, aP⟩ := (thrL_iff (keeps_P _ _)).1 hP
  obtain ⟨_, aC⟩ := (thrL_iff (keeps_C _)).1 hC
  rw [all2_mapL] at aP aC
  have oP : All2 (fun a b => OkP d.sigs a b) d.procs ps := all2_imp aP fun a ha b hab => prS_ok hg (List.all_eq_true.1 s2 a ha) hab
  have oC : All2 (fun a b => OkC d.sigs a b) d.chks cs := all2_imp aC fun a ha b hab => ckS_ok hg (List.all_eq_true.1 s3 a ha) hab
  have lP := all2_len oP
  have lC := all2_len oC
  have hn : nodesD ⟨d.sigs, ps, cs⟩ = nodesD d := by
    unfold nodesD
    rw [all2_map (fun a b h => h.nodes) oP, all2_map (f := fun c : Ck => Sz.nodes c.e) (fun a b h => h.nodes) oC]
  have hd : deepD ⟨d.sigs, ps, cs⟩ = deepD d := by
    unfold deepD
    rw [all2_map (fun a b h => h.deep) oP, all2_map (f := fun c : Ck => Sz.deep c.e) (fun a b h => h.deep) oC]
  have hfit : fitsD ⟨d.sigs, ps, cs⟩ = true := by
    unfold fitsD at f1 ⊢
    rw [hn, hd]
    simp only [decide_eq_true_eq] at f1 ⊢
    exact ⟨f1.1, by omega, f1.2.2.1, f1.2.2.2.1, f1.2.2.2.2⟩
  have hsh : shapedD ⟨d.sigs, ps, cs⟩ = true := shapedD_iff.2 ⟨s1, all2_all (p := fun p : Pr => p.l.all (shpT d.sigs)) (fun a b h _ => h.shp) oP s2, all2_all (p := fun c : Ck => shp d.sigs c.e) (fun a b h _ => h.shp) oC s3⟩
  have hPs : prsD ⟨d.sigs, ps, cs⟩ = (ps, 0) := (thrL_iff (keeps_P _ _)).2 ⟨rfl, all2_mapL.2 (all2_right (fun a b h => h.again) oP)⟩
  have hCs : cksD ⟨d.sigs, ps, cs⟩ = (cs, 0) := by
    unfold cksD
    rw [hPs]
    exact (thrL_iff (keeps_C _)).2 ⟨rfl, all2_mapL.2 (all2_right (fun a b h => h.again) oC)⟩
  refine ⟨rfl, lP, lC, hn, fun hw => ⟨hw.sigs, fun q hq => ?_, fun k hk => ?_⟩, sizeD_of hfit hsh f3 hPs hCs⟩
  · obtain ⟨p, h1, h2⟩ := all2_mem oP q hq
    exact h2.wf (hw.procs p h1)
  · obtain ⟨c, h1, h2⟩ := all2_mem oC k hk
    exact h2.wf (hw.chks c h1)
theorem sizeD_bad {d : Flat} (h : (sizeD d).2 ≠ 0) : (sizeD d).1 = zD := by
  unfold sizeD at h ⊢
  split
  · rfl
  rename_i q1; rw [if_neg q1] at h
  split
  · rfl
  rename_i q2; rw [if_neg q2] at h
  split
  · rfl
  rename_i q3; rw [if_neg q3] at h
  split
  · rfl
  rename_i q4; rw [if_neg q4] at h; simp at h
theorem checkD_of {x : Flat} (h : sizeD x = (x, 0)) : checkD x = 0 := by unfold checkD; rw [h]; simp
open Classical in
theorem checkD_iff {d : Flat} : checkD d = 0 ↔ sizeD d = (d, 0) := by
  constructor
  · intro h
    unfold checkD at h
    split at h
    · simp at h
    rename_i q
    refine Prod.ext (Classical.byContradiction fun k => q ⟨h, k⟩) h
  · exact checkD_of
open Classical in
theorem checkD_err {d : Flat} (h : (sizeD d).2 ≠ 0) : checkD d = (sizeD d).2 := by
  unfold checkD; rw [if_neg fun q => h q.1]
open Classical in
theorem checkD_same {d : Flat} (h : (sizeD d).2 = 0) : (checkD d == 0) = same (sizeD d).1 d := by
  unfold checkD
  by_cases q : (sizeD d).1 = d
  · rw [if_neg fun k => k.2 q, h, same_iff.2 q]; rfl
  · rw [if_pos ⟨h, q⟩, same_false.2 q]; rfl

/-! ### Less of it -/
theorem sum_take {α : Type} (f : α → Nat) : ∀ (n : Nat) (l : List α), ((l.take n).map f).sum ≤ (l.map f).sum
  | 0, l => by simp
  | n + 1, [] => by simp
  | n + 1, a :: l => by have := sum_take f n l; simp only [List.take_succ_cons, List.map_cons, List.sum_cons]; omega
theorem sum_drop {α : Type} (f : α → Nat) : ∀ (n : Nat) (l : List α), ((l.drop n).map f).sum ≤ (l.map f).sum
  | 0, l => by simp
  | n + 1, [] => by simp
  | n + 1, a :: l => by have := sum_drop f n l; simp only [List.drop_succ_cons, List.map_cons, List.sum_cons]; omega
theorem max_take {α : Type} (f : α → Nat) : ∀ (n : Nat) (l : List α), maxL ((l.take n).map f) ≤ maxL (l.map f)
  | 0, l => by simp [maxL]
  | n + 1, [] => by simp
  | n + 1, a :: l => by
    have := max_take f n l
    simp only [maxL, List.take_succ_cons, List.map_cons, List.foldr_cons] at *; omega
theorem max_drop {α : Type} (f : α → Nat) : ∀ (n : Nat) (l : List α), maxL ((l.drop n).map f) ≤ maxL (l.map f)
  | 0, l => by simp
  | n + 1, [] => by simp
  | n + 1, a :: l => by
    have := max_drop f n l
    simp only [maxL, List.drop_succ_cons, List.map_cons, List.foldr_cons] at *; omega
theorem all_take {α : Type} {p : α → Bool} {n : Nat} {l : List α} (h : l.all p = true) : (l.take n).all p = true := by
  rw [List.all_eq_true] at h ⊢
  exact fun x hx => h x (List.mem_of_mem_take hx)
theorem all_drop {α : Type} {p : α → Bool} {n : Nat} {l : List α} (h : l.all p = true) : (l.drop n).all p = true := by
  rw [List.all_eq_true] at h ⊢
  exact fun x hx => h x (List.mem_of_mem_drop hx)
def lessD (d : Flat) (n m : Nat) : Flat := ⟨d.sigs, d.procs.take n, d.chks.drop m⟩
theorem fits_less {d : Flat} (n m : Nat) (h : fitsD d = true) : fitsD (lessD d n m) = true := by
  unfold fitsD at h ⊢
  simp only [decide_eq_true_eq] at h ⊢
  have h1 := sum_take nodesP n d.procs
  have h2 := sum_drop (fun c : Ck => nodes c.e) m d.chks
  have h3 := max_take deepP n d.procs
  have h4 := max_drop (fun c : Ck => deep c.e) m d.chks
  refine ⟨h.1, ?_, h.2.2.1, ?_, ?_⟩
  · have : (lessD d n m).procs.length ≤ d.procs.length := by simp only [lessD, List.length_take]; omega
    omega
  · have := h.2.2.2.1
    unfold nodesD at this ⊢
    simp only [lessD]; omega
  · have := h.2.2.2.2
    unfold deepD at this ⊢
    simp only [lessD]; omega
theorem less_ok {d : Flat} (n m : Nat) (h : checkD d = 0) : checkD (lessD d n m) = 0 := by
  rw [checkD_iff] at h ⊢
  obtain ⟨f1, f2, f3, f4, f5, f6⟩ := sizeD_parts (d := d) (by rw [h])
  rw [h] at f6
  simp only [Prod.mk.injEq, and_true] at f6
  obtain ⟨s1, s2, s3⟩ := shapedD_iff.1 f2
  have hps : (prsD d).1 = d.procs := (congrArg Flat.procs f6).symm
  have hcs : (cksD d).1 = d.chks := (congrArg Flat.chks f6).symm
  have hP : prsD d = (d.procs, 0) := Prod.ext hps f4
  have hC : cksD d = (d.chks, 0) := Prod.ext hcs f5
  unfold prsD at hP
  unfold cksD at hC
  obtain ⟨_, aP⟩ := (thrL_iff (keeps_P _ _)).1 hP
  obtain ⟨_, aC⟩ := (thrL_iff (keeps_C _)).1 hC
  rw [all2_mapL] at aP aC
  have hsh : shapedD (lessD d n m) = true := shapedD_iff.2 ⟨s1, all_take s2, all_drop s3⟩
  have hPs : prsD (lessD d n m) = ((lessD d n m).procs, 0) := (thrL_iff (keeps_P _ _)).2 ⟨rfl, all2_mapL.2 (all2_take n aP)⟩
  have hCs : cksD (lessD d n m) = ((lessD d n m).chks, 0) := by
    unfold cksD
    rw [hPs]
    exact (thrL_iff (keeps_C _)).2 ⟨rfl, all2_mapL.2 (all2_drop m aC)⟩
  exact sizeD_of (fits_less n m f1) hsh f3 hPs hCs
def turnD (d : Flat) : Flat := ⟨d.sigs, (match d.procs with | [] => [] | p :: ps => ⟨!p.clk, p.l⟩ :: ps), d.chks⟩
theorem turn_bad {d : Flat} {p : Pr} {ps : List Pr} {t : T} {ts : List T} (h : checkD d = 0) (hp : d.procs = p :: ps) (hl : p.l = t :: ts) (ho : t.op = 1) : checkD (turnD d) = 85 := by
  rw [checkD_iff] at h
  obtain ⟨f1, f2, f3, f4, f5, f6⟩ := sizeD_parts (d := d) (by rw [h])
  obtain ⟨s1, s2, s3⟩ := shapedD_iff.1 f2
  have hg := sigsOk_ok s1
  have hsp : ∀ q ∈ p :: ps, q.l.all (shpT d.sigs) = true := by rw [← hp]; exact List.all_eq_true.1 s2
  have hst : shpT d.sigs t = true := List.all_eq_true.1 (hsp p (by simp)) t (by rw [hl]; simp)
  -- what it was
  have hP := (thrL_ok (keeps_P _ _) (show (thrL (d.procs.map (prS d.sigs)) 0).2 = 0 from f4)).2
  rw [hp, List.map_cons] at hP
  have hr : roleE d.sigs p.clk t 0 = 0 := by
    cases hq : (thrL (prS d.sigs p :: ps.map (prS d.sigs)) 0).1 with
    | nil => rw [hq] at hP; exact hP.elim
    | cons q qs =>
      rw [hq] at hP
      have h1 := congrArg Prod.snd hP.1
      simp only [prS, hl] at h1
      have h2 := (thrL_ok (keeps_T _ _ _ _) (show (thrL ((t :: ts).map fun x => stT d.sigs p.clk x 0) 0).2 = 0 from h1)).2
      rw [List.map_cons] at h2
      cases hq2 : (thrL (stT d.sigs p.clk t 0 :: ts.map fun x => stT d.sigs p.clk x 0) 0).1 with
      | nil => rw [hq2] at h2; exact h2.elim
      | cons y ys =>
        rw [hq2] at h2
        exact (stT_ok hg p.clk t 0 0 y (shpT_sh _ _ (.inl hst)) (by omega) (by omega) h2.1).2.1
  have hr2 : roleE d.sigs (!p.clk) t 0 = 85 := by
    unfold roleE at hr ⊢
    split at hr
    · simp at hr
    rename_i q
    rw [if_pos]
    refine ⟨ho, rfl, Classical.byContradiction fun k => q ⟨ho, rfl, ?_⟩⟩
    have k2 : (!p.clk) = decide (kindOf d.sigs t = 4) := Classical.byContradiction fun k3 => k (.inr k3)
    refine .inr fun k4 => ?_
    rw [← k2] at k4
    cases hc : p.clk <;> rw [hc] at k4 <;> simp at k4
  have e1 : (stT d.sigs (!p.clk) t 0 0).2 = 85 := by
    have h1 : (esT d.sigs (!p.clk) t 0 0).2 = 85 := by
      unfold esT
      rw [hr2]
      exact thrL_err _ (keeps_E _ _) 85 (by omega)
    rw [stT_eq]
    simp only
    rw [h1]
    exact lsT_err _ _ _ _ 85 (by omega)
  have e2 : (prS d.sigs ⟨!p.clk, p.l⟩ 0).2 = 85 := by
    simp only [prS, hl, lsT, List.map_cons, thrL]
    rw [e1]
    exact thrL_err _ (keeps_T _ _ _ _) 85 (by omega)
  have e3 : (prsD (turnD d)).2 = 85 := by
    unfold prsD turnD
    simp only [hp, List.map_cons, thrL]
    rw [e2]
    exact thrL_err _ (keeps_P _ _) 85 (by omega)
  have e4 : (cksD (turnD d)).2 = 85 := by
    unfold cksD
    rw [e3]
    exact thrL_err _ (keeps_C _) 85 (by omega)
  have t1 : fitsD (turnD d) = true := by
    unfold fitsD at f1 ⊢
    have q1 : (turnD d).procs.length = d.procs.length := by simp [turnD, hp]
    have q2 : nodesD (turnD d) = nodesD d := by unfold nodesD turnD; simp only [hp, List.map_cons]; rfl
    have q3 : deepD (turnD d) = deepD d := by unfold deepD turnD; simp only [hp, List.map_cons]; rfl
    rw [q1, q2, q3]; exact f1
  have t2 : shapedD (turnD d) = true := by
    refine shapedD_iff.2 ⟨s1, ?_, s3⟩
    simp only [turnD, hp, List.all_cons]
    rw [hp, List.all_cons] at s2
    exact s2
  have e5 : (sizeD (turnD d)).2 = 85 := by
    unfold sizeD
    have t3 : fillsD (turnD d) = true := f3
    rw [t1, t2, t3, e4]
    simp
  rw [checkD_err (by rw [e5]; omega), e5]
end Fil.Sz

namespace Fil.Sz
open Abs
theorem sizeD_go {d : Flat} (h1 : fitsD d = true) (h2 : shapedD d = true) (h3 : fillsD d = true) : sizeD d = if (cksD d).2 ≠ 0 then (zD, (cksD d).2) else (⟨d.sigs, (prsD d).1, (cksD d).1⟩, 0) := by
  unfold sizeD; rw [h1, h2, h3]; simp
end Fil.Sz

namespace Go.Proofs.Ytdiebjnjhgbklaa
open Abs Fil Fil.Sz
theorem fls_app (σ : Sig) (l : List AV) {a b : List AV} (h : FLs σ a b) : FLs σ (l ++ a) (l ++ b) := by
  refine ⟨by rw [List.length_append, List.length_append, h.1], fun i h0 h1 => ?_⟩
  rw [List.getElem_append, List.getElem_append]
  split
  · exact .refl _
  · exact h.2 _ _ _
end Go.Proofs.Ytdiebjnjhgbklaa

namespace Go.Proofs.Ytdiebjnjhgbklaa
open Abs Fil Fil.Sz
theorem sizeD_2 {d : Flat} (h : fitsD d = false) : sizeD d = (zD, 2) := by unfold sizeD; rw [if_pos h]
theorem sizeD_1 {d : Flat} (h : fitsD d = true) (h2 : shapedD d = false) : sizeD d = (zD, 1) := by unfold sizeD; rw [if_neg (by simp [h]), if_pos h2]
theorem sizeD_92 {d : Flat} (h : fitsD d = true) (h2 : shapedD d = true) (h3 : fillsD d = false) : sizeD d = (zD, 92) := by unfold sizeD; rw [if_neg (by simp [h]), if_neg (by simp [h2]), if_pos h3]
theorem encD_zero : encD zD = .agg [.slice [] .no, .slice [] .no, .slice [] .no] := rfl
theorem sm_sized {d : Flat} (hd : Sm d) : Sm (sizeD d).1 := by
  by_cases h : (sizeD d).2 = 0
  · have k := sizeD_ok h
    exact ⟨by rw [k.sigs]; exact hd.1, by rw [k.procs]; exact hd.2.1, by rw [k.chks]; exact hd.2.2.1, by rw [k.nodes]; exact hd.2.2.2⟩
  · rw [sizeD_bad h]; exact ⟨by simp [zD], by simp [zD], by simp [zD], by simp [zD, nodesD]⟩
theorem checkD_cases {d : Flat} : checkD d = if (sizeD d).2 ≠ 0 then (sizeD d).2 else if same (sizeD d).1 d = false then 90 else 0 := by
  by_cases h : (sizeD d).2 = 0
  · have h2 := checkD_same h
    rw [if_neg (by omega), ← h2]
    by_cases h3 : checkD d = 0
    · rw [h3]; simp
    · unfold checkD at h3 ⊢
      split
      · rename_i q; rw [if_pos q] at h3; simp
      · rename_i q; rw [if_neg q] at h3; exact (h3 h).elim
  · rw [if_pos h, checkD_err h]
end Go.Proofs.Ytdiebjnjhgbklaa

namespace Go.Proofs.Ytdiebjnjhgbklaa
open Abs Fil Fil.Sz
theorem sl_indexS (p : Sg → Bool) (l : List Sg) (hl : l.length ≤ 1000000000000) (σ : Sig) {F : Nat} {caps : List AV} (hF : ∀ x ∈ l, ACalls Try.prog F (encS x :: caps) σ (fun r σ' => r = .ret (.bool (p x)) ∧ σ' = σ)) :
    ACalls Try.prog 91 [.slice (l.map encS) .no, .fn F [] caps] σ (fun r σ' => r = .ret (.int .i64 (idxF p l)) ∧ σ' = σ) :=
  lib_indexFunc (sz := 4) (g := true) mixed Try.func91 b91 n91 rfl q91 (fun _ => rfl) (fun _ => rfl) p l hl hF
theorem sl_containsS (p : Sg → Bool) (l : List Sg) (hl : l.length ≤ 1000000000000) (σ : Sig) {F : Nat} {caps : List AV} (hF : ∀ x ∈ l, ACalls Try.prog F (encS x :: caps) σ (fun r σ' => r = .ret (.bool (p x)) ∧ σ' = σ)) :
    ACalls Try.prog 45 [.slice (l.map encS) .no, .fn F [] caps] σ (fun r σ' => r = .ret (.bool (l.any p)) ∧ σ' = σ) :=
  lib_containsFunc mixed Try.func45 b45 n45 rfl q45 p l (sl_indexS p l hl σ hF)
theorem sl_Clone (l : List Sg) (σ : Sig) (h : l.length ≤ 1000000) :
    ACalls Try.prog 48 [.slice (l.map encS) .no] σ (fun r σ' => r = .ret (.slice (l.map encS) .no) ∧ σ' = σ) := by
  refine calls_x mixed Try.func48 b48 n48 rfl q48 (by simp) ?_; unfold c48 r48
  cases l with
  | nil =>
    repeat' (first | simp (maxDischargeDepth := 9) -implicitDefEqProofs -dsimp only [go_sem, seval, List.map_nil, *] | ((with_reducible refine Zv ?_ ?_); focus (first | omega | exact rfl)) | ((with_reducible refine Zt (fun oF hoF hnF hnF' => ?_)); (try simp only [upd_none, ne_eq, not_and] at hoF)))
    refine ⟨?_, ?_⟩
    · refine fin_eq ?_
      (repeat' (first | simp (maxDischargeDepth := 9) -implicitDefEqProofs -dsimp only [go_sem, seval, List.map_nil, *])) <;> (repeat' refine And.intro ?_ ?_) <;> (first | omega | rfl | assumption | skip)
    · refine fin_eq ?_
      (repeat' (first | simp (maxDischargeDepth := 9) -implicitDefEqProofs -dsimp only [go_sem, seval, List.map_nil, *])) <;> (repeat' refine And.intro ?_ ?_) <;> (first | omega | rfl | assumption | skip)
  | cons x l =>
    have h' : l.length ≤ 999999 := by simp only [List.length_cons] at h; omega
    repeat' (first | simp (maxDischargeDepth := 9) -implicitDefEqProofs -dsimp only [go_sem, seval, List.map_cons, *] | ((with_reducible refine Zv ?_ ?_); focus (first | omega | exact rfl)) | ((with_reducible refine Zt (fun oF hoF hnF hnF' => ?_)); (try simp only [upd_none, ne_eq, not_and] at hoF)))
    all_goals first | (exfalso; simp at hq; done) | skip
    refine fin_eq ?_
    (repeat' (first | simp (maxDischargeDepth := 9) -implicitDefEqProofs -dsimp only [go_sem, seval, List.map_cons, List.nil_append, *])) <;> (repeat' refine And.intro ?_ ?_) <;> (first | omega | rfl | assumption | skip)
theorem sz_Size1 (s : Sg) (σ : Sig) (h : 1 ≤ s.w ∧ s.w ≤ 64) (hw : WfS s) : ACalls Try.prog 46 [encS s] σ (fun r σ' => r = .ret (.bool (!holds s.w s.init)) ∧ σ' = σ) := by
  have hc := fun τ => sz_holds s.w s.init τ (by omega) hw.2.2
  clear hw
  refine calls_x mixed Try.func46 b46 n46 rfl q46 (by simp) ?_; unfold c46 r46
  repeat' (first | simp (maxDischargeDepth := 9) -implicitDefEqProofs -dsimp only [go_sem, seval, *] | ((with_reducible apply ACalls.one1); (focus ((first | with_reducible refine hc _) <;> (first | (simp (maxDischargeDepth := 9) -implicitDefEqProofs -dsimp only [go_sem, seval, *]; done) | omega))); (focus (first | trivial | with_reducible exact rfl | (simp (maxDischargeDepth := 9) -implicitDefEqProofs -dsimp only [go_sem, seval]; done)))))
  refine fin_eq ?_
  (repeat' (first | simp (maxDischargeDepth := 9) -implicitDefEqProofs -dsimp only [go_sem, seval, *])) <;> (repeat' refine And.intro ?_ ?_) <;> (first | omega | rfl | assumption | skip)
theorem sz_Size0 (g : List Sg) (σ : Sig) (hg : g.length ≤ 1000000) (hw : ∀ s ∈ g, WfS s) (hn : fitsD ⟨g, [], []⟩ = true) (hs : shapedD ⟨g, [], []⟩ = true) (hf : fillsD ⟨g, [], []⟩ = true) :
    ACalls Try.prog 21 [encD ⟨g, [], []⟩] σ (fun r σ' => r = .ret (.tup [encD ⟨g, [], []⟩, .int .i64 0]) ∧ σ' = σ) := by
  have hd : Sm ⟨g, [], []⟩ := ⟨by show g.length ≤ _; omega, by simp, by simp, by simp [nodesD]⟩
  have hwd : WfD ⟨g, [], []⟩ := ⟨hw, by simp, by simp⟩
  have c1 := fun τ => sz_fits ⟨g, [], []⟩ τ hd
  have c2 := fun τ => sz_shaped ⟨g, [], []⟩ τ hd hwd
  have hso : SgOk g := sigsOk_ok (by
    unfold shapedD at hs
    simp only [Bool.and_eq_true] at hs
    exact hs.1.1)
  have c3 := fun τ => sl_containsS (fun s => !holds s.w s.init) g (by omega) τ (F := 46) (caps := []) fun x hx => sz_Size1 x τ (hso x hx) (hw x hx)
  have c4 := fun τ => sl_Clone g τ hg
  have hb : (g.any fun s => !holds s.w s.init) = false := by
    unfold fillsD at hf
    rw [all_any] at hf
    simpa using hf
  rw [hn] at c1
  rw [hs] at c2
  rw [hb] at c3
  clear hn hs hf hb hso hd hwd hw
  refine calls_x mixed Try.func21 b21 n21 rfl q21 (by simp) ?_; unfold c21 r21
  repeat' (first | simp (maxDischargeDepth := 9) -implicitDefEqProofs -dsimp only [go_sem, seval, *] | ((with_reducible refine Zt (fun oF hoF hnF hnF' => ?_)); (try simp only [upd_none, ne_eq, not_and] at hoF)) | ((with_reducible apply ACalls.one1); (focus ((first | with_reducible refine c1 _ | with_reducible refine c2 _ | with_reducible refine c3 _ | with_reducible refine c4 _ | with_reducible refine ACalls.flA (c1 _) ?_ | with_reducible refine ACalls.flA (c2 _) ?_ | with_reducible refine ACalls.flA (c3 _) ?_ | with_reducible refine ACalls.flA (c4 _) ?_) <;> (first | (simp (maxDischargeDepth := 9) -implicitDefEqProofs -dsimp only [go_sem, seval, *]; done) | omega))); (focus (first | trivial | with_reducible exact rfl | (simp (maxDischargeDepth := 9) -implicitDefEqProofs -dsimp only [go_sem, seval]; done)))))
  rename_i oA hoA _ _ oB _ _ hoB
  obtain ⟨oC, eo⟩ : ∃ x, x = oF := ⟨oF, rfl⟩
  subst eo
  have ho : ¬ oC = oB ∧ ¬ oC = oA ∧ σ oC = none := hoF
  obtain ⟨q1, q2, q3⟩ := ho
  have p1 : ¬ oB = oC := fun e => q1 e.symm
  have p2 : ¬ oA = oC := fun e => q2 e.symm
  have p3 : ¬ oB = oA := hoB.1
  have p4 : ¬ oA = oB := fun e => p3 e.symm
  clear hoF hnF hnF'
  refine loop_rule (fun _ : Nat => [(39, some (.int .i64 0)), (38, some (.int .i64 0)), (37, some (.slice [] .no)), (4, some (.ptr oB 0)), (5, some (.ptr oC 0)), (1, some (.cptr (dL ⟨g, [], []⟩))), (2, some (.ptr oA 0))])
    (fun _ => upd (upd (upd σ oA (.cells [.slice [] .nil, .slice [] .nil, .slice [] .nil])) oB (.cells [.slice (g.map encS) .no, .int .i64 0])) oC (.cells [.slice (g.map encS) .no, .slice [] .nil, .slice [] .nil])) (fun _ => True) (fun _ => 0) 0 ?_ ?_
  · (repeat' (first | simp (maxDischargeDepth := 9) -implicitDefEqProofs -dsimp only [go_sem, seval, *])) <;> (repeat' refine And.intro ?_ ?_) <;> (first | omega | rfl | assumption | skip)
  · intro i _
    repeat' (first | simp (maxDischargeDepth := 9) -implicitDefEqProofs -dsimp only [go_sem, seval, *] | ((with_reducible refine Zt (fun oF hoF hnF hnF' => ?_)); (try simp only [upd_none, ne_eq, not_and] at hoF)))
    refine loop_rule (fun _ : Nat => [(74, some (.int .i64 0)), (73, some (.int .i64 0)), (72, some (.slice [] .no)), (5, some (.ptr oC 0)), (4, some (.ptr oB 0)), (2, some (.ptr oA 0))])
      (fun _ => upd (upd (upd σ oA (.cells [.slice [] .nil, .slice [] .nil, .slice [] .nil])) oB (.cells [.slice (g.map encS) .no, .int .i64 0])) oC (.cells [.slice (g.map encS) .no, .slice [] .nil, .slice [] .nil])) (fun _ => True) (fun _ => 0) 0 ?_ ?_
    · (repeat' (first | simp (maxDischargeDepth := 9) -implicitDefEqProofs -dsimp only [go_sem, seval, *])) <;> (repeat' refine And.intro ?_ ?_) <;> (first | omega | rfl | assumption | skip)
    · intro i _
      repeat' (first | simp (maxDischargeDepth := 9) -implicitDefEqProofs -dsimp only [go_sem, seval, *] | ((with_reducible refine Zt (fun oF hoF hnF hnF' => ?_)); (try simp only [upd_none, ne_eq, not_and] at hoF)))
      refine fin_eq ?_
      (repeat' (first | simp (maxDischargeDepth := 9) -implicitDefEqProofs -dsimp only [go_sem, seval, *])) <;> (repeat' refine And.intro ?_ ?_) <;> (first | omega | rfl | assumption | skip)
theorem sz_Check0 (g : List Sg) (σ : Sig) (hg : g.length ≤ 1000000) (hw : ∀ s ∈ g, WfS s) (hn : fitsD ⟨g, [], []⟩ = true) (hs : shapedD ⟨g, [], []⟩ = true) (hf : fillsD ⟨g, [], []⟩ = true) :
    ACalls Try.prog 24 [encD ⟨g, [], []⟩] σ (fun r σ' => r = .ret (.int .i64 0) ∧ σ' = σ) := by
  have hd : Sm ⟨g, [], []⟩ := ⟨by show g.length ≤ _; omega, by simp, by simp, by simp [nodesD]⟩
  have c1 := fun τ => sz_Size0 g τ hg hw hn hs hf
  have c2 := fun τ => sz_Same ⟨g, [], []⟩ ⟨g, [], []⟩ τ hd hd
  rw [same_self] at c2
  clear hd hw hn hs hf
  refine calls_x mixed Try.func24 b24 n24 rfl q24 (by simp) ?_; unfold c24 r24
  repeat' (first | simp (maxDischargeDepth := 9) -implicitDefEqProofs -dsimp only [go_sem, seval, *] | ((with_reducible refine Zt (fun oF hoF hnF hnF' => ?_)); (try simp only [upd_none, ne_eq, not_and] at hoF)) | ((with_reducible apply ACalls.one1); (focus ((first | with_reducible refine c1 _ | with_reducible refine c2 _ | with_reducible refine ACalls.flA (c1 _) ?_ | with_reducible refine ACalls.flA (c2 _) ?_) <;> (first | (simp (maxDischargeDepth := 9) -implicitDefEqProofs -dsimp only [go_sem, seval, *]; done) | omega))); (focus (first | trivial | with_reducible exact rfl | (simp (maxDischargeDepth := 9) -implicitDefEqProofs -dsimp only [go_sem, seval]; done)))))
  refine fin_eq ?_
  (repeat' (first | simp (maxDischargeDepth := 9) -implicitDefEqProofs -dsimp only [go_sem, seval, *])) <;> (repeat' refine And.intro ?_ ?_) <;> (first | omega | rfl | assumption | skip)
theorem encE_bin (op : Int) (a b : E) : encE (binE op a b) = .agg [.int .i64 5, .int .i64 0, .int .u64 0, .int .i64 0, .int .i64 0, .int .i64 0, .int .i64 op, .slice [encE a, encE b] .no] := by
  unfold encE eL; rw [encEs_eq]; rfl
theorem encE_sig (hi lo : Int) : encE (sigE hi lo) = .agg [.int .i64 2, .int .i64 0, .int .u64 0, .int .i64 0, .int .i64 hi, .int .i64 lo, .int .i64 0, .slice [] .no] := by
  unfold encE eL; rw [encEs_eq]; rfl
theorem encE_numE (v : Int) : encE (numE v) = .agg [.int .i64 1, .int .i64 0, .int .u64 v, .int .i64 0, .int .i64 0, .int .i64 0, .int .i64 0, .slice [] .no] := by
  unfold encE eL; rw [encEs_eq]; rfl
theorem encD_one : encD oneD = .agg [.slice [.agg [.str ⟨#[97]⟩, .int .i64 8, .int .i64 1, .int .u64 0]] .no, .slice [] .no, .slice [] .no] := rfl
theorem lw_one (σ : Sig) : ACalls Try.prog 28 [] σ (fun r σ' => r = .ret (encD oneD) ∧ σ' = σ) := by
  rw [encD_one]
  refine calls_x mixed Try.func28 b28 n28 rfl q28 (by simp) ?_; unfold c28 r28
  repeat' (first | simp (maxDischargeDepth := 9) -implicitDefEqProofs -dsimp only [go_sem, seval, *] | ((with_reducible refine Zt (fun oF hoF hnF hnF' => ?_)); (try simp only [upd_none, ne_eq, not_and] at hoF)))
  refine fin_eq ?_
  (repeat' (first | simp (maxDischargeDepth := 9) -implicitDefEqProofs -dsimp only [go_sem, seval, *])) <;> (repeat' refine And.intro ?_ ?_) <;> (first | omega | rfl | assumption | skip)
theorem lw_num (v : Int) (σ : Sig) : ACalls Try.prog 29 [.int .u64 v] σ (fun r σ' => r = .ret (encE (numE v)) ∧ σ' = σ) := by
  rw [encE_numE]
  refine calls_x mixed Try.func29 b29 n29 rfl q29 (by simp) ?_; unfold c29 r29
  repeat' (first | simp (maxDischargeDepth := 9) -implicitDefEqProofs -dsimp only [go_sem, seval, *] | ((with_reducible refine Zt (fun oF hoF hnF hnF' => ?_)); (try simp only [upd_none, ne_eq, not_and] at hoF)))
  refine fin_eq ?_
  (repeat' (first | simp (maxDischargeDepth := 9) -implicitDefEqProofs -dsimp only [go_sem, seval, *])) <;> (repeat' refine And.intro ?_ ?_) <;> (first | omega | rfl | assumption | skip)
theorem lw_sig (hi lo : Int) (σ : Sig) : ACalls Try.prog 32 [.int .i64 hi, .int .i64 lo] σ (fun r σ' => r = .ret (encE (sigE hi lo)) ∧ σ' = σ) := by
  rw [encE_sig]
  refine calls_x mixed Try.func32 b32 n32 rfl q32 (by simp) ?_; unfold c32 r32
  repeat' (first | simp (maxDischargeDepth := 9) -implicitDefEqProofs -dsimp only [go_sem, seval, *] | ((with_reducible refine Zt (fun oF hoF hnF hnF' => ?_)); (try simp only [upd_none, ne_eq, not_and] at hoF)))
  refine fin_eq ?_
  (repeat' (first | simp (maxDischargeDepth := 9) -implicitDefEqProofs -dsimp only [go_sem, seval, *])) <;> (repeat' refine And.intro ?_ ?_) <;> (first | omega | rfl | assumption | skip)
theorem lw_bin (op : Int) (a b : E) (σ : Sig) : ACalls Try.prog 31 [.int .i64 op, encE a, encE b] σ (fun r σ' => r = .ret (encE (binE op a b)) ∧ σ' = σ) := by
  rw [encE_bin]
  refine calls_x mixed Try.func31 b31 n31 rfl q31 (by simp) ?_; unfold c31 r31
  repeat' (first | simp (maxDischargeDepth := 9) -implicitDefEqProofs -dsimp only [go_sem, seval, *] | ((with_reducible refine Zt (fun oF hoF hnF hnF' => ?_)); (try simp only [upd_none, ne_eq, not_and] at hoF)))
  refine fin_eq ?_
  (repeat' (first | simp (maxDischargeDepth := 9) -implicitDefEqProofs -dsimp only [go_sem, seval, *])) <;> (repeat' refine And.intro ?_ ?_) <;> (first | omega | rfl | assumption | skip)
end Go.Proofs.Ytdiebjnjhgbklaa

namespace Go.Proofs.Ytdiebjnjhgbklaa
open Abs Fil Fil.Sz
theorem thr_at {β γ : Type} {l : List γ} {f : γ → Int → β × Int} {e : Int} {P : Nat → List β × Int} (hP : ∀ i, P i = thrL ((l.map f).take i) e) :
    P 0 = ([], e) ∧ (∀ i, i ≤ l.length → (P i).1.length = i) ∧ P l.length = thrL (l.map f) e ∧
    (∀ i, (h : i < l.length) → P (i + 1) = ((P i).1 ++ [(f l[i] (P i).2).1], (f l[i] (P i).2).2)) := by
  refine ⟨by rw [hP]; rfl, fun i hi => ?_, ?_, fun i h => ?_⟩
  · rw [hP, thrL_len, List.length_take, List.length_map]; omega
  · rw [hP]; congr 1; exact List.take_of_length_le (by simp)
  · rw [hP, hP, thrL_take (by simpa using h), List.getElem_map]
theorem Zw (σ : Sig) (o o' : Nat) (x : AObj) : (upd σ o x o' = none) = (¬ o' = o ∧ ¬ o = o' ∧ σ o' = none) := by
  simp only [upd]
  by_cases h : o' = o
  · simp [h]
  · have h2 : ¬ o = o' := fun e => h e.symm
    simp [h, h2]
set_option maxRecDepth 20000 in
set_option maxHeartbeats 8000000 in
theorem sz_Size (d : Flat) (σ : Sig) (hd : Sm d) (hw : WfD d) : ACalls Try.prog 21 [encD d] σ (fun r σ' => r = .ret (.tup [encD (sizeD d).1, .int .i64 (sizeD d).2]) ∧ σ' = σ) := by
  have l1 := hd.1
  have l2 := hd.2.1
  have l3 := hd.2.2.1
  have c1 := fun τ => sz_fits d τ hd
  have c2 := fun τ => sz_shaped d τ hd hw
  have c3 := fun (h : SgOk d.sigs) τ => sl_containsS (fun s => !holds s.w s.init) d.sigs (by omega) τ (F := 46) (caps := []) fun x hx => sz_Size1 x τ (h x hx) (hw.sigs x hx)
  have c4 := fun (h : d.sigs.length ≤ 1000000) τ => sl_Clone d.sigs τ h
  have hlen : fitsD d = true → d.sigs.length ≤ 1000000 := fun h => by
    unfold fitsD at h
    simp only [decide_eq_true_eq] at h
    omega
  have k2 := sizeD_2 (d := d)
  have k1 := sizeD_1 (d := d)
  have k9 := sizeD_92 (d := d)
  have kg := sizeD_go (d := d)
  have hso : shapedD d = true → SgOk d.sigs := fun h => sigsOk_ok (shapedD_iff.1 h).1
  have conP := fun (h : shapedD d = true) (p : Pr) (hp : p ∈ d.procs) (t : T) (ht : t ∈ p.l) (o : Nat) (e0 : Int) (τ : Sig) (hτ : τ o = some (szrC d.sigs e0)) =>
    sz_statement d.sigs (hso h) (by omega) p.clk o t 0 e0 τ hτ (shpT_sh _ _ (.inl (List.all_eq_true.1 (List.all_eq_true.1 (shapedD_iff.1 h).2.1 p hp) t ht))) (by have h := sm_pr hd hp; unfold nodesP at h; have := mem_sum (f := nodesT) ht; omega) (hw.procs p hp t ht) (by omega)
  have conL := fun (p : Pr) (hp : p ∈ d.procs) => (show p.l.length ≤ 16777216 by have h := sm_pr hd hp; unfold nodesP at h; have := len_sum nodesT_pos p.l; omega)
  have conC := fun (h : shapedD d = true) (x : Ck) (hx : x ∈ d.chks) (o : Nat) (e0 : Int) (τ : Sig) (hτ : τ o = some (szrC d.sigs e0)) =>
    sz_expr o d.sigs (hso h) e0 x.e (-1) τ hτ (List.all_eq_true.1 (shapedD_iff.1 h).2.2 x hx) (sm_ck hd hx) (hw.chks x hx) (by omega)
  have hfl : (d.sigs.any fun s => !holds s.w s.init) = !fillsD d := by
    have : fillsD d = d.sigs.all fun s => holds s.w s.init := rfl
    rw [this, all_any, Bool.not_not]
  rw [hfl] at c3
  clear hfl hw hd
  obtain ⟨R, hR⟩ : ∃ R, sizeD d = R := ⟨_, rfl⟩
  rw [hR] at k2 k1 k9 kg ⊢
  clear hR
  obtain ⟨P, hP⟩ : ∃ P : Nat → List Pr × Int, ∀ i, P i = thrL ((d.procs.map (prS d.sigs)).take i) 0 := ⟨_, fun _ => rfl⟩
  obtain ⟨p0, pl, pe, ps⟩ := thr_at hP
  have hpe : thrL (d.procs.map (prS d.sigs)) 0 = prsD d := rfl
  rw [hpe] at pe
  obtain ⟨Q, hQ⟩ : ∃ Q : Nat → List Ck × Int, ∀ i, Q i = thrL ((d.chks.map ckS).take i) (prsD d).2 := ⟨_, fun _ => rfl⟩
  obtain ⟨q0, ql, qe, qs⟩ := thr_at hQ
  have hqe : thrL (d.chks.map ckS) (prsD d).2 = cksD d := rfl
  rw [hqe] at qe
  clear hP hQ hpe hqe
  obtain ⟨A, hA⟩ : ∃ A, fitsD d = A := ⟨_, rfl⟩
  obtain ⟨B, hB⟩ : ∃ A, shapedD d = A := ⟨_, rfl⟩
  obtain ⟨C, hC⟩ : ∃ A, fillsD d = A := ⟨_, rfl⟩
  rw [hA] at c1 k2 k1 k9 kg hlen
  rw [hB] at c2 k1 k9 kg hso conP conC
  rw [hC] at c3 k9 kg
  clear hA hB hC
  refine ACalls.virt (callable_of Try.func21 b21 n21) 2 (fun oV1 hoV1 hnV1 hnV1' => ?_); (try simp only [upd_none, ne_eq, not_and] at hoV1); refine ACalls.virt (callable_of Try.func21 b21 n21) 9 (fun oV2 hoV2 hnV2 hnV2' => ?_); (try simp only [upd_none, ne_eq, not_and] at hoV2); refine calls_x mixed Try.func21 b21 n21 rfl q21 (by simp) ?_; unfold c21 r21
  cases A
  · rw [k2 rfl, encD_zero]
    clear k2 k1 k9 kg hso conP conL conC pl ps pe p0 ql qs qe q0 c2 c3 c4 hlen
    repeat' (first | simp (maxDischargeDepth := 9) -implicitDefEqProofs -dsimp only [go_sem, seval, *] | simp (disch := omega) only [wrap64] | ((with_reducible refine Zv ?_ ?_); focus (first | omega | exact rfl)) | ((with_reducible refine Zu ?_ ?_); focus omega) | ((with_reducible refine Zt (fun oF hoF hnF hnF' => ?_)); clear hnF hnF'; (try simp only [Zw, ne_eq] at hoF)) | ((with_reducible apply ACalls.one1); (focus ((first | with_reducible refine c1 _ | with_reducible refine ACalls.flA (c1 _) ?_) <;> (first | (simp (maxDischargeDepth := 9) -implicitDefEqProofs -dsimp only [go_sem, seval, *]; done) | omega))); (focus (first | trivial | with_reducible exact rfl | (simp (maxDischargeDepth := 9) -implicitDefEqProofs -dsimp only [go_sem, seval]; done)))))
    refine fin_eq ?_
    (repeat' (first | simp (maxDischargeDepth := 9) -implicitDefEqProofs -dsimp only [go_sem, seval, *] | simp (disch := omega) only [wrap64])) <;> (repeat' refine And.intro ?_ ?_) <;> (first | omega | rfl | assumption | skip)
  cases B
  · rw [k1 rfl rfl, encD_zero]
    clear k2 k1 k9 kg hso conP conL conC pl ps pe p0 ql qs qe q0 c3 c4 hlen
    repeat' (first | simp (maxDischargeDepth := 9) -implicitDefEqProofs -dsimp only [go_sem, seval, *] | simp (disch := omega) only [wrap64] | ((with_reducible refine Zv ?_ ?_); focus (first | omega | exact rfl)) | ((with_reducible refine Zu ?_ ?_); focus omega) | ((with_reducible refine Zt (fun oF hoF hnF hnF' => ?_)); clear hnF hnF'; (try simp only [Zw, ne_eq] at hoF)) | ((with_reducible apply ACalls.one1); (focus ((first | with_reducible refine c1 _ | with_reducible refine c2 _ | with_reducible refine ACalls.flA (c1 _) ?_ | with_reducible refine ACalls.flA (c2 _) ?_) <;> (first | (simp (maxDischargeDepth := 9) -implicitDefEqProofs -dsimp only [go_sem, seval, *]; done) | omega))); (focus (first | trivial | with_reducible exact rfl | (simp (maxDischargeDepth := 9) -implicitDefEqProofs -dsimp only [go_sem, seval]; done)))))
    refine fin_eq ?_
    (repeat' (first | simp (maxDischargeDepth := 9) -implicitDefEqProofs -dsimp only [go_sem, seval, *] | simp (disch := omega) only [wrap64])) <;> (repeat' refine And.intro ?_ ?_) <;> (first | omega | rfl | assumption | skip)
  have c3' := c3 (hso rfl)
  cases C
  · rw [k9 rfl rfl rfl, encD_zero]
    clear k2 k1 k9 kg hso conP conL conC pl ps pe p0 ql qs qe q0 c3 c4 hlen
    repeat' (first | simp (maxDischargeDepth := 9) -implicitDefEqProofs -dsimp only [go_sem, seval, *] | simp (disch := omega) only [wrap64] | ((with_reducible refine Zv ?_ ?_); focus (first | omega | exact rfl)) | ((with_reducible refine Zu ?_ ?_); focus omega) | ((with_reducible refine Zt (fun oF hoF hnF hnF' => ?_)); clear hnF hnF'; (try simp only [Zw, ne_eq] at hoF)) | ((with_reducible apply ACalls.one1); (focus ((first | with_reducible refine c1 _ | with_reducible refine c2 _ | with_reducible refine c3' _ | with_reducible refine ACalls.flA (c1 _) ?_ | with_reducible refine ACalls.flA (c2 _) ?_ | with_reducible refine ACalls.flA (c3' _) ?_) <;> (first | (simp (maxDischargeDepth := 9) -implicitDefEqProofs -dsimp only [go_sem, seval, *]; done) | omega))); (focus (first | trivial | with_reducible exact rfl | (simp (maxDischargeDepth := 9) -implicitDefEqProofs -dsimp only [go_sem, seval]; done)))))
    refine fin_eq ?_
    (repeat' (first | simp (maxDischargeDepth := 9) -implicitDefEqProofs -dsimp only [go_sem, seval, *] | simp (disch := omega) only [wrap64])) <;> (repeat' refine And.intro ?_ ?_) <;> (first | omega | rfl | assumption | skip)
  have kg := kg rfl rfl rfl
  replace conP := conP rfl
  replace conC := conC rfl
  replace c4 := c4 (hlen rfl)
  clear k2 k1 k9 hso c3 hlen
  repeat' (first | simp (maxDischargeDepth := 9) -implicitDefEqProofs -dsimp only [go_sem, seval, *] | simp (disch := omega) only [wrap64] | ((with_reducible refine Zv ?_ ?_); focus (first | omega | exact rfl)) | ((with_reducible refine Zu ?_ ?_); focus omega) | ((with_reducible refine Zt (fun oF hoF hnF hnF' => ?_)); clear hnF hnF'; (try simp only [Zw, ne_eq] at hoF)) | ((with_reducible apply ACalls.one1); (focus ((first | with_reducible refine c1 _ | with_reducible refine c2 _ | with_reducible refine c3' _ | with_reducible refine c4 _ | with_reducible refine ACalls.flA (c1 _) ?_ | with_reducible refine ACalls.flA (c2 _) ?_ | with_reducible refine ACalls.flA (c3' _) ?_ | with_reducible refine ACalls.flA (c4 _) ?_) <;> (first | (simp (maxDischargeDepth := 9) -implicitDefEqProofs -dsimp only [go_sem, seval, *]; done) | omega))); (focus (first | trivial | with_reducible exact rfl | (simp (maxDischargeDepth := 9) -implicitDefEqProofs -dsimp only [go_sem, seval]; done)))))
  rename_i oA hoA oB hoB
  obtain ⟨oC, eC⟩ : ∃ x, x = oF := ⟨oF, rfl⟩
  subst eC
  have hoC := hoF
  obtain ⟨a13, a14⟩ := hoV2
  have b10 : ¬ oV1 = oV2 := fun e => a13 e.symm
  clear hoF hnV1 hnV1' hnV2 hnV2' c1 c2 c3' c4
  refine loop_rule (fun i : Nat => [(39, some (.int .i64 i)), (38, some (.int .i64 d.procs.length)), (37, some (.slice (d.procs.map encP) .no)), (4, some (.ptr oB 0)), (5, some (.ptr oC 0)), (1, some (.cptr (dL d))), (2, some (.ptr oA 0))])
    (fun i => upd (upd (upd (upd (upd σ oV1 (.grow 2 i)) oV2 (.virt 9)) oA (.cells [.slice [] .nil, .slice [] .nil, .slice [] .nil])) oC (.cells [.slice (d.sigs.map encS) .no, .slice ((P i).1.map encP) (.own oV1), .slice [] .nil])) oB (szrC d.sigs (P i).2))
    (fun i => i ≤ d.procs.length) (fun i => d.procs.length - i) 0 ?_ ?_
  · clear conP conL conC pl ps pe ql qs qe q0 kg
    (repeat' (first | simp (maxDischargeDepth := 9) -implicitDefEqProofs -dsimp only [go_sem, seval, List.map_nil, *] | simp (disch := omega) only [wrap64])) <;> (repeat' refine And.intro ?_ ?_) <;> (first | omega | rfl | assumption | skip)
  · intro i hi
    by_cases hlt : i < d.procs.length
    · have hc := conP d.procs[i] (List.getElem_mem hlt)
      have hll := conL d.procs[i] (List.getElem_mem hlt)
      have h3 := ps i hlt
      have h5 := pl i hi
      clear conP conL conC pl ps pe p0 ql qs qe q0 kg
      obtain ⟨⟨X, e0⟩, hX⟩ : ∃ X, P i = X := ⟨_, rfl⟩
      rw [hX] at h3 h5 ⊢
      simp only at h3 h5
      clear hX
      repeat' (first | simp (maxDischargeDepth := 9) -implicitDefEqProofs -dsimp only [go_sem, seval, *] | simp (disch := omega) only [wrap64] | ((with_reducible refine Zv ?_ ?_); focus (first | omega | exact rfl)) | ((with_reducible refine Zu ?_ ?_); focus omega) | ((with_reducible refine Zt (fun oF hoF hnF hnF' => ?_)); clear hnF hnF'; (try simp only [Zw, ne_eq] at hoF)))
      rename_i oP hoP
      obtain ⟨oX, eX⟩ : ∃ x, x = oF := ⟨oF, rfl⟩
      subst eX
      have hoX := hoF
      clear hoF
      obtain ⟨U, hU⟩ : ∃ U : Nat → List T × Int, ∀ k, U k = thrL ((d.procs[i].l.map fun x => stT d.sigs d.procs[i].clk x 0).take k) e0 := ⟨_, fun _ => rfl⟩
      obtain ⟨u0, ul, ue, us⟩ := thr_at hU
      have hpr : P (i + 1) = (X ++ [⟨d.procs[i].clk, (U d.procs[i].l.length).1⟩], (U d.procs[i].l.length).2) := by rw [h3, ue]; rfl
      clear h3 ue hU
      refine loop_rule (X := Option (Nat × Nat)) (fun x => match x with | none => [(49, some (.int .i64 0)), (48, some (.int .i64 d.procs[i].l.length)), (47, some (.slice (d.procs[i].l.map encT) .no)), (8, some (.ptr oX 0)), (4, some (.ptr oB 0)), (7, some (.ptr oP 0)), (5, some (.ptr oC 0)), (39, some (.int .i64 i)), (1, some (.cptr (dL d))), (2, some (.ptr oA 0)), (38, some (.int .i64 d.procs.length)), (37, some (.slice (d.procs.map encP) .no))] | some (k, _) => [(49, some (.int .i64 k)), (48, some (.int .i64 d.procs[i].l.length)), (47, some (.slice (d.procs[i].l.map encT) .no)), (8, some (.ptr oX 0)), (4, some (.ptr oB 0)), (7, some (.ptr oP 0)), (5, some (.ptr oC 0)), (39, some (.int .i64 i)), (1, some (.cptr (dL d))), (2, some (.ptr oA 0)), (38, some (.int .i64 d.procs.length)), (37, some (.slice (d.procs.map encP) .no))])
        (fun x => match x with
          | none => upd (upd (upd (upd (upd (upd (upd σ oV1 (.grow 2 i)) oV2 (.virt 9)) oA (.cells [.slice [] .nil, .slice [] .nil, .slice [] .nil])) oC (.cells [.slice (d.sigs.map encS) .no, .slice (X.map encP) (.own oV1), .slice [] .nil])) oP (.cells [.bool d.procs[i].clk, .slice (d.procs[i].l.map encT) .no])) oX (.cells [.bool d.procs[i].clk, .slice [] .nil])) oB (szrC d.sigs e0)
          | some (k, o) => upd (upd (upd (upd (upd (upd (upd (upd σ oV1 (.grow 2 i)) oV2 (.virt 9)) oA (.cells [.slice [] .nil, .slice [] .nil, .slice [] .nil])) oC (.cells [.slice (d.sigs.map encS) .no, .slice (X.map encP) (.own oV1), .slice [] .nil])) oP (.cells [.bool d.procs[i].clk, .slice (d.procs[i].l.map encT) .no])) oX (.cells [.bool d.procs[i].clk, .slice ((U k).1.map encT) (.own o)])) o (.grow 6 k)) oB (szrC d.sigs (U k).2))
        (fun x => match x with
          | none => True
          | some (k, o) => (1 ≤ k ∧ k ≤ d.procs[i].l.length) ∧ (¬ o = oB ∧ ¬ oB = o) ∧ (¬ o = oX ∧ ¬ oX = o) ∧ (¬ o = oP ∧ ¬ oP = o) ∧ (¬ o = oC ∧ ¬ oC = o) ∧ (¬ o = oA ∧ ¬ oA = o) ∧ (¬ o = oV2 ∧ ¬ oV2 = o) ∧ (¬ o = oV1 ∧ ¬ oV1 = o) ∧ σ o = none)
        (fun x => match x with | none => d.procs[i].l.length + 1 | some (k, _) => d.procs[i].l.length - k) none ?_ ?_
      · clear hc hpr us ul u0
        (repeat' (first | simp (maxDischargeDepth := 9) -implicitDefEqProofs -dsimp only [go_sem, seval, *] | simp (disch := omega) only [wrap64])) <;> (repeat' refine And.intro ?_ ?_) <;> (first | omega | rfl | assumption | skip)
      · rintro (_ | ⟨k, o⟩) hiv
        · dsimp only at hiv ⊢
          by_cases hpos : 0 < d.procs[i].l.length
          · have hposI : (0 : Int) < (d.procs[i].l.length : Nat) := by omega
            have hx := encTs_eq d.procs[i].l[0]
            have hcs := hc d.procs[i].l[0] (List.getElem_mem hpos) oB e0
            have g1 := us 0 hpos
            rw [u0] at g1
            obtain ⟨⟨y, f⟩, hY⟩ : ∃ Y, stT d.sigs d.procs[i].clk d.procs[i].l[0] 0 e0 = Y := ⟨_, rfl⟩
            simp only at g1
            rw [hY] at g1 hcs
            simp only [List.nil_append, Nat.zero_add] at g1
            clear hc hpr us ul u0 hY hiv
            repeat' (first | simp (maxDischargeDepth := 9) -implicitDefEqProofs -dsimp only [go_sem, seval, *] | simp (disch := omega) only [wrap64] | ((with_reducible refine Zv ?_ ?_); focus (first | omega | exact rfl)) | ((with_reducible refine Zu ?_ ?_); focus omega) | ((with_reducible refine Zt (fun oF hoF hnF hnF' => ?_)); clear hnF hnF'; (try simp only [Zw, ne_eq] at hoF)) | ((with_reducible apply ACalls.one1); (focus ((first | with_reducible refine hcs _ ?_ | with_reducible refine ACalls.flA (hcs _ ?_) ?_) <;> (first | (simp (maxDischargeDepth := 9) -implicitDefEqProofs -dsimp only [go_sem, seval, *]; done) | omega))); (focus (first | trivial | with_reducible exact rfl | (simp (maxDischargeDepth := 9) -implicitDefEqProofs -dsimp only [go_sem, seval]; done)))) | ((with_reducible apply id_one1); (focus (intro tS hS; ((first | with_reducible refine hcs _ ?_ | with_reducible refine ACalls.flA (hcs _ ?_) ?_) <;> (first | (simp (maxDischargeDepth := 9) -implicitDefEqProofs -dsimp only [go_sem, seval, *]; done) | omega | ((with_reducible refine Sub.get hS ?_); simp (maxDischargeDepth := 9) -implicitDefEqProofs -dsimp only [go_sem, seval, *]; done))))); (focus (first | trivial | (simp (maxDischargeDepth := 9) -implicitDefEqProofs -dsimp only [go_sem, seval, *]; done)))))
            refine loop_next _ _ _ _ (some (1, oF)) ?_; (repeat' (first | simp (maxDischargeDepth := 9) -implicitDefEqProofs -dsimp only [go_sem, seval,  List.map_cons, List.map_nil, *] | simp (disch := omega) only [wrap64])) <;> (repeat' refine And.intro ?_ ?_) <;> (first | omega | rfl | assumption | skip)
          · have hz : d.procs[i].l.length = 0 := by omega
            rw [hz, u0] at hpr
            have g5 : (P (i + 1)).1.map encP = X.map encP ++ [.agg [.bool d.procs[i].clk, .slice [] .no]] := by
              rw [hpr, List.map_append, List.map_cons, List.map_nil]; rfl
            have g6 : (P (i + 1)).2 = e0 := by rw [hpr]
            clear hc hpr us ul u0 hiv
            repeat' (first | simp (maxDischargeDepth := 9) -implicitDefEqProofs -dsimp only [go_sem, seval, *] | simp (disch := omega) only [wrap64] | ((with_reducible refine Zv ?_ ?_); focus (first | omega | exact rfl)) | ((with_reducible refine Zu ?_ ?_); focus omega) | ((with_reducible refine Zt (fun oF hoF hnF hnF' => ?_)); clear hnF hnF'; (try simp only [Zw, ne_eq] at hoF)))
            refine loop_next _ _ _ _ (i + 1) ?_; (repeat' (first | simp (maxDischargeDepth := 9) -implicitDefEqProofs -dsimp only [go_sem, seval, *] | simp (disch := omega) only [wrap64])) <;> (repeat' refine And.intro ?_ ?_) <;> (first | omega | rfl | assumption | skip)
            rw [fl_sliceT]
            refine fls_app _ _ ?_
            (repeat' (first | simp (maxDischargeDepth := 9) -implicitDefEqProofs -dsimp only [go_sem, seval, *] | simp (disch := omega) only [wrap64])) <;> (repeat' refine And.intro ?_ ?_) <;> (first | omega | rfl | assumption | skip)
        · dsimp only at hiv ⊢
          obtain ⟨⟨hk1, hk2⟩, hof⟩ := hiv
          by_cases hkt : k < d.procs[i].l.length
          · have hx := encTs_eq d.procs[i].l[k]
            have hcs := hc d.procs[i].l[k] (List.getElem_mem hkt) oB (U k).2
            have g1 := us k hkt
            have g2 := ul k (by omega)
            obtain ⟨⟨Z, e1⟩, hZ⟩ : ∃ Z, U k = Z := ⟨_, rfl⟩
            rw [hZ] at g1 g2 hcs ⊢
            simp only at g1 g2
            obtain ⟨⟨y, f⟩, hY⟩ : ∃ Y, stT d.sigs d.procs[i].clk d.procs[i].l[k] 0 e1 = Y := ⟨_, rfl⟩
            simp only at hcs
            rw [hY] at g1 hcs
            simp only at g1
            clear hc hpr us ul u0 hY hZ
            repeat' (first | simp (maxDischargeDepth := 9) -implicitDefEqProofs -dsimp only [go_sem, seval, *] | simp (disch := omega) only [wrap64] | ((with_reducible refine Zv ?_ ?_); focus (first | omega | exact rfl)) | ((with_reducible refine Zu ?_ ?_); focus omega) | ((with_reducible refine Zt (fun oF hoF hnF hnF' => ?_)); clear hnF hnF'; (try simp only [Zw, ne_eq] at hoF)) | ((with_reducible apply ACalls.one1); (focus ((first | with_reducible refine hcs _ ?_ | with_reducible refine ACalls.flA (hcs _ ?_) ?_) <;> (first | (simp (maxDischargeDepth := 9) -implicitDefEqProofs -dsimp only [go_sem, seval, *]; done) | omega))); (focus (first | trivial | with_reducible exact rfl | (simp (maxDischargeDepth := 9) -implicitDefEqProofs -dsimp only [go_sem, seval]; done)))) | ((with_reducible apply id_one1); (focus (intro tS hS; ((first | with_reducible refine hcs _ ?_ | with_reducible refine ACalls.flA (hcs _ ?_) ?_) <;> (first | (simp (maxDischargeDepth := 9) -implicitDefEqProofs -dsimp only [go_sem, seval, *]; done) | omega | ((with_reducible refine Sub.get hS ?_); simp (maxDischargeDepth := 9) -implicitDefEqProofs -dsimp only [go_sem, seval, *]; done))))); (focus (first | trivial | (simp (maxDischargeDepth := 9) -implicitDefEqProofs -dsimp only [go_sem, seval, *]; done)))))
            refine loop_next _ _ _ _ (some (k + 1, o)) ?_; (repeat' (first | simp (maxDischargeDepth := 9) -implicitDefEqProofs -dsimp only [go_sem, seval,  List.map_append, List.map_cons, List.map_nil, *] | simp (disch := omega) only [wrap64])) <;> (repeat' refine And.intro ?_ ?_) <;> (first | omega | rfl | assumption | skip)
          · have ek : k = d.procs[i].l.length := by omega
            subst ek
            have g2 := ul _ hk2
            obtain ⟨⟨Z, e1⟩, hZ⟩ : ∃ Z, U d.procs[i].l.length = Z := ⟨_, rfl⟩
            rw [hZ] at hpr g2 ⊢
            simp only at hpr g2
            have g5 : (P (i + 1)).1.map encP = X.map encP ++ [.agg [.bool d.procs[i].clk, .slice (Z.map encT) .no]] := by
              rw [hpr, List.map_append, List.map_cons, List.map_nil]
            have g6 : (P (i + 1)).2 = e1 := by rw [hpr]
            clear hc hpr us ul u0 hZ
            repeat' (first | simp (maxDischargeDepth := 9) -implicitDefEqProofs -dsimp only [go_sem, seval, *] | simp (disch := omega) only [wrap64] | ((with_reducible refine Zv ?_ ?_); focus (first | omega | exact rfl)) | ((with_reducible refine Zu ?_ ?_); focus omega) | ((with_reducible refine Zt (fun oF hoF hnF hnF' => ?_)); clear hnF hnF'; (try simp only [Zw, ne_eq] at hoF)))
            refine loop_next _ _ _ _ (i + 1) ?_; (repeat' (first | simp (maxDischargeDepth := 9) -implicitDefEqProofs -dsimp only [go_sem, seval, *] | simp (disch := omega) only [wrap64])) <;> (repeat' refine And.intro ?_ ?_) <;> (first | omega | rfl | assumption | skip)
            rw [fl_sliceT]
            refine fls_app _ _ ?_
            (repeat' (first | simp (maxDischargeDepth := 9) -implicitDefEqProofs -dsimp only [go_sem, seval, *] | simp (disch := omega) only [wrap64])) <;> (repeat' refine And.intro ?_ ?_) <;> (first | omega | rfl | assumption | skip)
    · have ei : i = d.procs.length := by omega
      subst ei
      have hX := pl _ (Nat.le_refl _)
      rw [pe] at hX ⊢
      clear conP conL pl ps pe p0
      have good : ∀ cs f, cksD d = (cs, f) → R = if f ≠ 0 then (zD, f) else (⟨d.sigs, (prsD d).1, cs⟩, 0) := fun cs f h => by rw [kg, h]
      obtain ⟨⟨X, e0⟩, hXX⟩ : ∃ X, prsD d = X := ⟨_, rfl⟩
      rw [hXX] at hX good q0 ⊢
      simp only at hX good q0
      clear hXX kg
      repeat' (first | simp (maxDischargeDepth := 9) -implicitDefEqProofs -dsimp only [go_sem, seval, *] | simp (disch := omega) only [wrap64] | ((with_reducible refine Zv ?_ ?_); focus (first | omega | exact rfl)) | ((with_reducible refine Zu ?_ ?_); focus omega) | ((with_reducible refine Zt (fun oF hoF hnF hnF' => ?_)); clear hnF hnF'; (try simp only [Zw, ne_eq] at hoF)))
      refine loop_rule (fun k : Nat => [(74, some (.int .i64 k)), (73, some (.int .i64 d.chks.length)), (72, some (.slice (d.chks.map encC) .no)), (5, some (.ptr oC 0)), (4, some (.ptr oB 0)), (2, some (.ptr oA 0))])
        (fun k => upd (upd (upd (upd (upd σ oV1 (.grow 2 d.procs.length)) oV2 (.grow 9 k)) oA (.cells [.slice [] .nil, .slice [] .nil, .slice [] .nil])) oC (.cells [.slice (d.sigs.map encS) .no, .slice (X.map encP) (.own oV1), .slice ((Q k).1.map encC) (.own oV2)])) oB (szrC d.sigs (Q k).2))
        (fun k => k ≤ d.chks.length) (fun k => d.chks.length - k) 0 ?_ ?_
      · clear conC ql qs qe good
        (repeat' (first | simp (maxDischargeDepth := 9) -implicitDefEqProofs -dsimp only [go_sem, seval, List.map_nil, *] | simp (disch := omega) only [wrap64])) <;> (repeat' refine And.intro ?_ ?_) <;> (first | omega | rfl | assumption | skip)
      · intro k hk
        by_cases hkt : k < d.chks.length
        · have hc := conC d.chks[k] (List.getElem_mem hkt) oB
          have h3 := qs k hkt
          have h5 := ql k hk
          obtain ⟨⟨Z, e1⟩, hZ⟩ : ∃ Z, Q k = Z := ⟨_, rfl⟩
          rw [hZ] at h3 h5 ⊢
          simp only at h3 h5
          replace hc := hc e1
          have hck : ckS d.chks[k] e1 = (⟨d.chks[k].name, (exprS d.chks[k].e (-1) e1).1⟩, (exprS d.chks[k].e (-1) e1).2) := rfl
          obtain ⟨⟨y, f⟩, hY⟩ : ∃ Y, exprS d.chks[k].e (-1) e1 = Y := ⟨_, rfl⟩
          rw [hY] at hc hck
          rw [hck] at h3
          have g5 : (Q (k + 1)).1.map encC = Z.map encC ++ [encC ⟨d.chks[k].name, y⟩] := by
            rw [h3, List.map_append, List.map_cons, List.map_nil]
          have g6 : (Q (k + 1)).2 = f := by rw [h3]
          clear conC ql qs qe q0 good hY hZ hck h3
          repeat' (first | simp (maxDischargeDepth := 9) -implicitDefEqProofs -dsimp only [go_sem, seval, *] | simp (disch := omega) only [wrap64] | ((with_reducible refine Zv ?_ ?_); focus (first | omega | exact rfl)) | ((with_reducible refine Zu ?_ ?_); focus omega) | ((with_reducible refine Zt (fun oF hoF hnF hnF' => ?_)); clear hnF hnF'; (try simp only [Zw, ne_eq] at hoF)) | ((with_reducible apply ACalls.one1); (focus ((first | with_reducible refine hc _ ?_ | with_reducible refine ACalls.flA (hc _ ?_) ?_) <;> (first | (simp (maxDischargeDepth := 9) -implicitDefEqProofs -dsimp only [go_sem, seval, *]; done) | omega))); (focus (first | trivial | with_reducible exact rfl | (simp (maxDischargeDepth := 9) -implicitDefEqProofs -dsimp only [go_sem, seval]; done)))) | ((with_reducible apply id_one1); (focus (intro tS hS; ((first | with_reducible refine hc _ ?_ | with_reducible refine ACalls.flA (hc _ ?_) ?_) <;> (first | (simp (maxDischargeDepth := 9) -implicitDefEqProofs -dsimp only [go_sem, seval, *]; done) | omega | ((with_reducible refine Sub.get hS ?_); simp (maxDischargeDepth := 9) -implicitDefEqProofs -dsimp only [go_sem, seval, *]; done))))); (focus (first | trivial | (simp (maxDischargeDepth := 9) -implicitDefEqProofs -dsimp only [go_sem, seval, *]; done)))))
          refine loop_next _ _ _ _ (k + 1) ?_; (repeat' (first | simp (maxDischargeDepth := 9) -implicitDefEqProofs -dsimp only [go_sem, seval, *] | simp (disch := omega) only [wrap64])) <;> (repeat' refine And.intro ?_ ?_) <;> (first | omega | rfl | assumption | skip)
        · have ek : k = d.chks.length := by omega
          subst ek
          have hZ := ql _ (Nat.le_refl _)
          rw [qe] at hZ ⊢
          have g4 := good (cksD d).1 (cksD d).2 rfl
          obtain ⟨⟨Z, f⟩, hZZ⟩ : ∃ Z, cksD d = Z := ⟨_, rfl⟩
          rw [hZZ] at hZ g4 ⊢
          simp only at hZ g4
          clear conC ql qs qe q0 good hZZ
          by_cases hf : f = 0
          · rw [if_neg (by omega)] at g4
            subst hf
            rw [g4]
            clear g4
            repeat' (first | simp (maxDischargeDepth := 9) -implicitDefEqProofs -dsimp only [go_sem, seval, *] | simp (disch := omega) only [wrap64] | ((with_reducible refine Zv ?_ ?_); focus (first | omega | exact rfl)) | ((with_reducible refine Zu ?_ ?_); focus omega) | ((with_reducible refine Zt (fun oF hoF hnF hnF' => ?_)); clear hnF hnF'; (try simp only [Zw, ne_eq] at hoF)))
            refine fin_eq ?_
            (repeat' (first | simp (maxDischargeDepth := 9) -implicitDefEqProofs -dsimp only [go_sem, seval, *] | simp (disch := omega) only [wrap64])) <;> (repeat' refine And.intro ?_ ?_) <;> (first | omega | rfl | assumption | skip)
          · have hfb : (f != 0) = true := by simpa using hf
            rw [if_pos hf] at g4
            rw [g4, encD_zero]
            clear g4 hf
            repeat' (first | simp (maxDischargeDepth := 9) -implicitDefEqProofs -dsimp only [go_sem, seval, *] | simp (disch := omega) only [wrap64] | ((with_reducible refine Zv ?_ ?_); focus (first | omega | exact rfl)) | ((with_reducible refine Zu ?_ ?_); focus omega) | ((with_reducible refine Zt (fun oF hoF hnF hnF' => ?_)); clear hnF hnF'; (try simp only [Zw, ne_eq] at hoF)))
            refine fin_eq ?_
            (repeat' (first | simp (maxDischargeDepth := 9) -implicitDefEqProofs -dsimp only [go_sem, seval, *] | simp (disch := omega) only [wrap64])) <;> (repeat' refine And.intro ?_ ?_) <;> (first | omega | rfl | assumption | skip)
theorem sz_Check (d : Flat) (σ : Sig) (hd : Sm d) (hw : WfD d) : ACalls Try.prog 24 [encD d] σ (fun r σ' => r = .ret (.int .i64 (checkD d)) ∧ σ' = σ) := by
  have c1 := fun τ => sz_Size d τ hd hw
  have hm := sm_sized hd
  have c2 := fun τ => sz_Same (sizeD d).1 d τ hm hd
  have hc := checkD_cases (d := d)
  obtain ⟨⟨x, f⟩, hR⟩ : ∃ R, sizeD d = R := ⟨_, rfl⟩
  rw [hR] at c1 c2 hc
  simp only at hc
  obtain ⟨C, hC⟩ : ∃ C, checkD d = C := ⟨_, rfl⟩
  rw [hC] at hc ⊢
  obtain ⟨s, hs⟩ : ∃ C, same x d = C := ⟨_, rfl⟩
  rw [hs] at c2 hc
  clear hR hC hs hm hd hw
  refine calls_x mixed Try.func24 b24 n24 rfl q24 (by simp) ?_; unfold c24 r24
  by_cases hf : f = 0
  · rw [if_neg (by omega)] at hc
    subst hf
    cases s
    · rw [if_pos rfl] at hc
      subst hc
      repeat' (first | simp (maxDischargeDepth := 9) -implicitDefEqProofs -dsimp only [go_sem, seval, *] | ((with_reducible refine Zt (fun oF hoF hnF hnF' => ?_)); clear hnF hnF'; (try simp only [Zw, ne_eq] at hoF)) | ((with_reducible apply ACalls.one1); (focus ((first | with_reducible refine c1 _ | with_reducible refine c2 _) <;> (first | (simp (maxDischargeDepth := 9) -implicitDefEqProofs -dsimp only [go_sem, seval, *]; done) | omega))); (focus (first | trivial | with_reducible exact rfl | (simp (maxDischargeDepth := 9) -implicitDefEqProofs -dsimp only [go_sem, seval]; done)))))
      refine fin_eq ?_
      (repeat' (first | simp (maxDischargeDepth := 9) -implicitDefEqProofs -dsimp only [go_sem, seval, *])) <;> (repeat' refine And.intro ?_ ?_) <;> (first | omega | rfl | assumption | skip)
    · rw [if_neg (by simp)] at hc
      subst hc
      repeat' (first | simp (maxDischargeDepth := 9) -implicitDefEqProofs -dsimp only [go_sem, seval, *] | ((with_reducible refine Zt (fun oF hoF hnF hnF' => ?_)); clear hnF hnF'; (try simp only [Zw, ne_eq] at hoF)) | ((with_reducible apply ACalls.one1); (focus ((first | with_reducible refine c1 _ | with_reducible refine c2 _) <;> (first | (simp (maxDischargeDepth := 9) -implicitDefEqProofs -dsimp only [go_sem, seval, *]; done) | omega))); (focus (first | trivial | with_reducible exact rfl | (simp (maxDischargeDepth := 9) -implicitDefEqProofs -dsimp only [go_sem, seval]; done)))))
      refine fin_eq ?_
      (repeat' (first | simp (maxDischargeDepth := 9) -implicitDefEqProofs -dsimp only [go_sem, seval, *])) <;> (repeat' refine And.intro ?_ ?_) <;> (first | omega | rfl | assumption | skip)
  · rw [if_pos hf] at hc
    have hfb : (f == 0) = false := by simpa using hf
    subst hc
    clear hf c2
    repeat' (first | simp (maxDischargeDepth := 9) -implicitDefEqProofs -dsimp only [go_sem, seval, *] | ((with_reducible refine Zt (fun oF hoF hnF hnF' => ?_)); clear hnF hnF'; (try simp only [Zw, ne_eq] at hoF)) | ((with_reducible apply ACalls.one1); (focus ((first | with_reducible refine c1 _) <;> (first | (simp (maxDischargeDepth := 9) -implicitDefEqProofs -dsimp only [go_sem, seval, *]; done) | omega))); (focus (first | trivial | with_reducible exact rfl | (simp (maxDischargeDepth := 9) -implicitDefEqProofs -dsimp only [go_sem, seval]; done)))))
    refine fin_eq ?_
    (repeat' (first | simp (maxDischargeDepth := 9) -implicitDefEqProofs -dsimp only [go_sem, seval, *])) <;> (repeat' refine And.intro ?_ ?_) <;> (first | omega | rfl | assumption | skip)
end Go.Proofs.Ytdiebjnjhgbklaa

namespace Go.Proofs.Ytdiebjnjhgbklaa
open Abs Fil Fil.Sz
theorem one_sm : Sm oneD := ⟨by simp [oneD, oneG], by simp [oneD], by simp [oneD], by simp [oneD, nodesD]⟩
def liveP : E := .mk 2 8 0 0 7 0 0 []
def liveQ : E := .mk 1 8 1 0 0 0 0 []
theorem wfE_do {e : E} (h : (I64 e.op ∧ I64 e.w ∧ U64 e.v ∧ I64 e.sig ∧ I64 e.hi ∧ I64 e.lo ∧ I64 e.n) ∧ ∀ x ∈ e.l, WfE x) : WfE e := (WfE_iff e).2 h
theorem i0 : I64 0 := by unfold I64; omega
theorem i1 : I64 1 := by unfold I64; omega
theorem i2 : I64 2 := by unfold I64; omega
theorem i5 : I64 5 := by unfold I64; omega
theorem u0 : U64 0 := by unfold U64; omega
theorem wf_sig (hi lo : Int) (h : I64 hi ∧ I64 lo) : WfE (sigE hi lo) := wfE_do ⟨⟨i2, i0, u0, i0, h.1, h.2, i0⟩, fun x hx => by cases hx⟩
theorem wf_num (v : Int) (h : U64 v) : WfE (numE v) := wfE_do ⟨⟨i1, i0, h, i0, i0, i0, i0⟩, fun x hx => by cases hx⟩
theorem wf_bin (op : Int) {a b : E} (h : I64 op) (ha : WfE a) (hb : WfE b) : WfE (binE op a b) := wfE_do ⟨⟨i5, i0, u0, i0, i0, i0, h⟩, fun x hx => by
  rcases List.mem_cons.1 hx with rfl | hx
  · exact ha
  rcases List.mem_cons.1 hx with rfl | hx
  · exact hb
  · cases hx⟩
theorem nodes_sig (hi lo : Int) : nodes (sigE hi lo) = 1 := by rw [nodes_eq]; rfl
theorem nodes_num (v : Int) : nodes (numE v) = 1 := by rw [nodes_eq]; rfl
theorem nodes_bin (op : Int) (a b : E) : nodes (binE op a b) = 1 + nodes a + nodes b := by
  rw [nodes_eq]
  show 1 + (nodes a + (nodes b + 0)) = _
  omega
set_option maxRecDepth 20000 in
set_option maxHeartbeats 2000000 in
theorem lw_live (σ : Sig) : ACalls Try.prog 13 [] σ (fun r σ' => r = .ret (.bool true) ∧ σ' = σ) := by
  have hd : oneD.sigs.length ≤ 1000000000000 := by simp [oneD, oneG]
  have hs := fun h l (q : I64 h ∧ I64 l) => wf_sig h l q
  have c1 := fun τ => lw_one τ
  have c2 := fun τ => lw_sig 7 0 τ
  have c2' := fun τ => lw_sig 2 0 τ
  have c3 := fun τ => lw_num 1 τ
  have c4 := fun τ => lw_num 300 τ
  have c5 := fun τ => lw_bin 14 (sigE 7 0) (numE 1) τ
  have c6 := fun τ => lw_bin 19 (sigE 7 0) (numE 300) τ
  have c7 := fun τ => lw_bin 14 (sigE 2 0) (sigE 7 0) τ
  have w1 := wf_sig 7 0 (by unfold I64; omega)
  have w2 := wf_sig 2 0 (by unfold I64; omega)
  have w3 := wf_num 1 (by unfold U64; omega)
  have w4 := wf_num 300 (by unfold U64; omega)
  have k1 := fun τ => sz_Expr oneD (binE 14 (sigE 7 0) (numE 1)) 0 τ hd (by rw [nodes_bin, nodes_sig, nodes_num]; omega) (wf_bin 14 (by unfold I64; omega) w1 w3)
  have k2 := fun τ => sz_Expr oneD (binE 19 (sigE 7 0) (numE 300)) 0 τ hd (by rw [nodes_bin, nodes_sig, nodes_num]; omega) (wf_bin 19 (by unfold I64; omega) w1 w4)
  have k3 := fun τ => sz_Expr oneD (binE 14 (sigE 2 0) (sigE 7 0)) 0 τ hd (by rw [nodes_bin, nodes_sig, nodes_sig]; omega) (wf_bin 14 (by unfold I64; omega) w2 w1)
  have w5 : WfE liveX := wfE_do ⟨by simp [I64, U64, liveX, liveP, liveQ, E.op, E.w, E.v, E.sig, E.hi, E.lo, E.n], fun x hx => by
    have hx : x ∈ [liveP, liveQ] := hx
    rcases List.mem_cons.1 hx with rfl | hx
    · exact wfE_do ⟨by simp [I64, U64, liveX, liveP, liveQ, E.op, E.w, E.v, E.sig, E.hi, E.lo, E.n], fun x hx => by cases hx⟩
    rcases List.mem_cons.1 hx with rfl | hx
    · exact wfE_do ⟨by simp [I64, U64, liveX, liveP, liveQ, E.op, E.w, E.v, E.sig, E.hi, E.lo, E.n], fun x hx => by cases hx⟩
    · cases hx⟩
  have n5 : nodes liveX ≤ 16777216 := by simp [liveX, nodes_eq, E.l]
  have k4 := fun τ => sz_CheckE oneD liveX τ hd n5 w5
  have k5 := fun τ => sz_CheckE oneD (numE 1) τ hd (by rw [nodes_num]; omega) w3
  have k6 := fun τ => sz_SameE liveX liveX τ n5 n5
  have k7 := fun τ => sz_SameE liveX (numE 1) τ n5 (by rw [nodes_num]; omega)
  have k8 := fun τ => sz_Size0 oneG τ (by simp [oneG]) one_wf one_fits one_shaped one_fills
  have k9 := fun τ => sz_Check0 oneG τ (by simp [oneG]) one_wf one_fits one_shaped one_fills
  have k10 := fun τ => sz_Same oneD oneD τ one_sm one_sm
  rw [live_a] at k1
  rw [live_b] at k2
  rw [live_c] at k3
  rw [live_d] at k4
  rw [live_e] at k5
  rw [same_self] at k6 k10
  rw [live_f] at k7
  rw [show (⟨oneG, [], []⟩ : Flat) = oneD from rfl] at k8 k9
  have hx : encE liveX = .agg [.int .i64 5, .int .i64 8, .int .u64 0, .int .i64 0, .int .i64 0, .int .i64 0, .int .i64 14, .slice [encE liveP, encE liveQ] .no] := by
    unfold encE eL; rw [encEs_eq]; rfl
  rw [hx] at k1 k4 k6 k7
  rw [encE_zero] at k2 k3
  have hq : liveQ.w = 8 := rfl
  have hlen : (oneD.sigs.length : Int) = 1 := rfl
  clear hx hd hs w1 w2 w3 w4 w5 n5
  refine calls_x mixed Try.func13 b13 n13 rfl q13 (by simp) ?_; unfold c13 r13
  repeat' (first | simp (maxDischargeDepth := 9) -implicitDefEqProofs -dsimp only [go_sem, seval, *] | ((with_reducible refine Zt (fun oF hoF hnF hnF' => ?_)); (try simp only [upd_none, ne_eq, not_and] at hoF)) | ((with_reducible apply ACalls.one1); (focus ((first | with_reducible refine c1 _ | with_reducible refine c2 _ | with_reducible refine c2' _ | with_reducible refine c3 _ | with_reducible refine c4 _ | with_reducible refine c5 _ | with_reducible refine c6 _ | with_reducible refine c7 _ | with_reducible refine k1 _ | with_reducible refine k2 _ | with_reducible refine k3 _ | with_reducible refine k4 _ | with_reducible refine k5 _ | with_reducible refine k6 _ | with_reducible refine k7 _ | with_reducible refine k8 _ | with_reducible refine k9 _ | with_reducible refine k10 _) <;> (first | (simp (maxDischargeDepth := 9) -implicitDefEqProofs -dsimp only [go_sem, seval, *]; done) | omega))); (focus (first | trivial | with_reducible exact rfl | (simp (maxDischargeDepth := 9) -implicitDefEqProofs -dsimp only [go_sem, seval]; done)))) | ((with_reducible apply id_one0); (focus (intro tS hS; ((first | with_reducible refine c1 _ | with_reducible refine c2 _ | with_reducible refine c2' _ | with_reducible refine c3 _ | with_reducible refine c4 _ | with_reducible refine c5 _ | with_reducible refine c6 _ | with_reducible refine c7 _ | with_reducible refine k1 _ | with_reducible refine k2 _ | with_reducible refine k3 _ | with_reducible refine k4 _ | with_reducible refine k5 _ | with_reducible refine k6 _ | with_reducible refine k7 _ | with_reducible refine k8 _ | with_reducible refine k9 _ | with_reducible refine k10 _) <;> (first | (simp (maxDischargeDepth := 9) -implicitDefEqProofs -dsimp only [go_sem, seval, *]; done) | omega | ((with_reducible refine Sub.get hS ?_); simp (maxDischargeDepth := 9) -implicitDefEqProofs -dsimp only [go_sem, seval, *]; done))))); (focus (first | trivial | (simp (maxDischargeDepth := 9) -implicitDefEqProofs -dsimp only [go_sem, seval, *]; done)))))
  refine fin_eq ?_
  (repeat' (first | simp (maxDischargeDepth := 9) -implicitDefEqProofs -dsimp only [go_sem, seval, *])) <;> (repeat' refine And.intro ?_ ?_) <;> (first | omega | rfl | assumption | skip)
end Go.Proofs.Ytdiebjnjhgbklaa

namespace Abs
open Go
inductive Sh where
  | bool
  | int (k : IntKind)
  | str
  | slice (agg : Bool) (e : Sh)
  | row (l : List Sh)
end Abs

