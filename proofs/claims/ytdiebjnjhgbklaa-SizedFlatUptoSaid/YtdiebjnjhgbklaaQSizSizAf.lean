/- sized: contracts: the document's statements, sized. -/
import Derived.Test.YtdiebjnjhgbklaaQSizSizAe
set_option linter.unusedSimpArgs false
set_option linter.unusedVariables false
namespace Fil.Sz
open Abs

/-! ### Two lists, one by one -/
def All2 {α β : Type} (R : α → β → Prop) : List α → List β → Prop
 | [], [] => True
 | a :: l, b :: m => R a b ∧ All2 R l m
 | [], _ :: _ => False
 | _ :: _, [] => False
theorem all2_len {α β : Type} {R : α → β → Prop} : ∀ {l : List α} {m : List β}, All2 R l m → m.length = l.length
 | [], [], _ => rfl
 | a :: l, b :: m, h => by rw [List.length_cons, List.length_cons, all2_len h.2]
 | [], _ :: _, h => h.elim
 | _ :: _, [], h => h.elim
theorem all2_imp {α β : Type} {R S : α → β → Prop} : ∀ {l : List α} {m : List β}, All2 R l m → (∀ a ∈ l, ∀ b, R a b → S a b) → All2 S l m
 | [], [], _, _ => trivial
 | a :: l, b :: m, h, k => ⟨k a (by simp) b h.1, all2_imp h.2 fun a' ha => k a' (by simp [ha])⟩
 | [], _ :: _, h, _ => h.elim
 | _ :: _, [], h, _ => h.elim
theorem all2_map {α β γ : Type} {R : α → β → Prop} {f : α → γ} {k : β → γ} (h : ∀ a b, R a b → k b = f a) : ∀ {l : List α} {m : List β}, All2 R l m → m.map k = l.map f
 | [], [], _ => rfl
 | a :: l, b :: m, q => by rw [List.map_cons, List.map_cons, h a b q.1, all2_map h q.2]
 | [], _ :: _, q => q.elim
 | _ :: _, [], q => q.elim
theorem all2_right {α β : Type} {R : α → β → Prop} {S : β → β → Prop} (h : ∀ a b, R a b → S b b) : ∀ {l : List α} {m : List β}, All2 R l m → All2 S m m
 | [], [], _ => trivial
 | a :: l, b :: m, q => ⟨h a b q.1, all2_right h q.2⟩
 | [], _ :: _, q => q.elim
 | _ :: _, [], q => q.elim
theorem all2_all {α β : Type} {R : α → β → Prop} {p : α → Bool} {q : β → Bool} (h : ∀ a b, R a b → p a = true → q b = true) : ∀ {l : List α} {m : List β}, All2 R l m → l.all p = true → m.all q = true
 | [], [], _, _ => rfl
 | a :: l, b :: m, k, hp => by
  rw [List.all_cons, Bool.and_eq_true] at hp ⊢
  exact ⟨h a b k.1 hp.1, all2_all h k.2 hp.2⟩
 | [], _ :: _, q, _ => q.elim
 | _ :: _, [], q, _ => q.elim
theorem all2_mapL {α β γ : Type} {R : α → β → Prop} {f : γ → α} : ∀ {l : List γ} {m : List β}, All2 R (l.map f) m ↔ All2 (fun a b => R (f a) b) l m
 | [], [] => Iff.rfl
 | a :: l, b :: m => by
  show R (f a) b ∧ All2 R (l.map f) m ↔ R (f a) b ∧ All2 (fun a b => R (f a) b) l m
  rw [all2_mapL]
 | [], _ :: _ => Iff.rfl
 | _ :: _, [] => Iff.rfl
theorem all2_mem {α β : Type} {R : α → β → Prop} : ∀ {l : List α} {m : List β}, All2 R l m → ∀ b ∈ m, ∃ a ∈ l, R a b
 | [], [], _, b, hb => by cases hb
 | a :: l, c :: m, h, b, hb => by
  rcases List.mem_cons.1 hb with rfl | hb
  ·exact ⟨a, by simp, h.1⟩
  ·obtain ⟨a', h1, h2⟩ := all2_mem h.2 b hb
   exact ⟨a', by simp [h1], h2⟩
 | [], _ :: _, h, _, _ => h.elim
 | _ :: _, [], h, _, _ => h.elim
def Keeps {β : Type} (f : Int → β × Int) : Prop := ∀ e, e ≠ 0 → (f e).2 = e
theorem thrL_iff {β : Type} : ∀ {l : List (Int → β × Int)} {xs : List β} {e : Int}, (∀ f ∈ l, Keeps f) → (thrL l e = (xs, 0) ↔ e = 0 ∧ All2 (fun f x => f 0 = (x, 0)) l xs)
 | [], xs, e, _ => by
  cases xs with
  | nil => simp [thrL, All2]
  | cons x xs => simp [thrL, All2]
 | f :: l, xs, e, h => by
  have ih := fun (xs : List β) (e : Int) => thrL_iff (l := l) (xs := xs) (e := e) fun f' hf => h f' (by simp [hf])
  have hf := h f (by simp)
  cases xs with
  | nil => simp [thrL, All2]
  | cons x xs =>
   simp only [thrL, Prod.mk.injEq, List.cons.injEq]
   constructor
   ·rintro ⟨⟨h1, h2⟩, h3⟩
    obtain ⟨k1, k2⟩ := (ih xs (f e).2).1 (Prod.ext h2 h3)
    have he : e = 0 := Classical.byContradiction fun q => q (by rw [← hf e q]; exact k1)
    subst he
    exact ⟨rfl, Prod.ext h1 k1, k2⟩
   ·rintro ⟨rfl, h1, h2⟩
    have h3 := (ih xs (f 0).2).2 ⟨by rw [h1], h2⟩
    rw [h3, h1]
    simp
theorem thrL_ok {β : Type} {l : List (Int → β × Int)} {e : Int} (h : ∀ f ∈ l, Keeps f) (h0 : (thrL l e).2 = 0) : e = 0 ∧ All2 (fun f x => f 0 = (x, 0)) l (thrL l e).1 :=
 (thrL_iff h).1 (Prod.ext rfl h0)
theorem keeps_E (w : Int) (l : List E) : ∀ f ∈ l.map (fun x => exprS x w), Keeps f := fun f hf e he => by
 obtain ⟨x, _, rfl⟩ := List.mem_map.1 hf
 exact exprS_err _ _ _ he
theorem keeps_T (g : List Sg) (clk : Bool) (lab : Int) (l : List T) : ∀ f ∈ l.map (fun x => stT g clk x lab), Keeps f := fun f hf e he => by
 obtain ⟨x, _, rfl⟩ := List.mem_map.1 hf
 exact stT_err _ _ _ _ _ he
theorem keeps_P (g : List Sg) (l : List Pr) : ∀ f ∈ l.map (prS g), Keeps f := fun f hf e he => by
 obtain ⟨x, _, rfl⟩ := List.mem_map.1 hf
 exact lsT_err _ _ _ _ _ he
theorem keeps_C (l : List Ck) : ∀ f ∈ l.map ckS, Keeps f := fun f hf e he => by
 obtain ⟨x, _, rfl⟩ := List.mem_map.1 hf
 exact exprS_err _ _ _ he
theorem exprS0 (x : E) (w : Int) : exprS x w 0 = size x w := by simp [exprS]

/-! ### A statement's labels matter to arms alone -/
theorem lab_any (g : List Sg) (clk : Bool) (t : T) : shpT g t = true → ∀ lab lab' e0, stT g clk t lab e0 = stT g clk t lab' e0 := by
 refine T.ind (P := fun t => shpT g t = true → ∀ lab lab' e0, stT g clk t lab e0 = stT g clk t lab' e0) (fun t ih h lab lab' e0 => ?_) t
 have key : esT g clk t lab e0 = esT g clk t lab' e0 → (t.op = 3 ∨ ∀ x ∈ t.l, shpT g x = true) → stT g clk t lab e0 = stT g clk t lab' e0 := fun h1 h2 => by
  rw [stT_eq, stT_eq, h1]
  have : lsT g clk t.l (labT t lab (esT g clk t lab' e0).1) (esT g clk t lab' e0).2 = lsT g clk t.l (labT t lab' (esT g clk t lab' e0).1) (esT g clk t lab' e0).2 := by
   rcases h2 with h2 | h2
   ·unfold labT; rw [if_pos h2, if_pos h2]
   ·unfold lsT
    congr 1
    exact List.map_congr_left fun x hx => funext fun e => ih x hx (h2 x hx) _ _ e
  rw [this]
 have hsame : (t.op = 1 ∨ t.op = 2 ∨ t.op = 3 ∨ t.e = []) → esT g clk t lab e0 = esT g clk t lab' e0 := fun q => by
  unfold esT
  rcases q with q | q | q | q
  ·unfold wantT; rw [if_pos q, if_pos q]
  ·have e : ∀ k, wantT t k = -1 := fun k => by unfold wantT; rw [if_neg (by omega), if_pos q]
   rw [e, e]
  ·have e : ∀ k, wantT t k = 0 := fun k => by unfold wantT; rw [if_neg (by omega), if_neg (by omega), if_pos q]
   rw [e, e]
  ·rw [q]; rfl
 rw [shpT_eq] at h
 split at h
 ·rename_i ho
  simp only [Bool.and_eq_true, decide_eq_true_eq] at h
  exact key (hsame (.inl ho)) (.inr fun x hx => by have := List.length_pos_of_mem hx; omega)
 rename_i ho
 simp only [Bool.and_eq_true] at h
 obtain ⟨_, h⟩ := h
 split at h
 ·rename_i ho2
  simp only [Bool.and_eq_true, List.all_eq_true] at h
  exact key (hsame (.inr (.inl ho2))) (.inr h.2)
 split at h
 ·rename_i ho3
  exact key (hsame (.inr (.inr (.inl ho3)))) (.inl ho3)
 split at h
 ·simp only [Bool.and_eq_true, decide_eq_true_eq, List.all_eq_true] at h
  exact key (hsame (.inr (.inr (.inr (List.length_eq_zero_iff.1 h.1))))) (.inr h.2)
 ·simp at h

/-! ### A statement that is sized -/
structure OkT (g : List Sg) (clk : Bool) (t : T) (lab : Int) (x : T) : Prop where
 op : x.op = t.op
 sig : x.sig = t.sig
 hi : x.hi = t.hi
 lo : x.lo = t.lo
 lenE : x.e.length = t.e.length
 lenL : x.l.length = t.l.length
 nodes : nodesT x = nodesT t
 deep : deepT x = deepT t
 shp : shpT g t = true → shpT g x = true
 arm : armT g t = true → armT g x = true
 wf : WfT t → WfT x
 again : stT g clk x lab 0 = (x, 0)
theorem armsOk_map {l m : List T} (h : m.map (fun t => t.e.length) = l.map (fun t => t.e.length)) (hl : armsOk l) : armsOk m := by
 have hlen : m.length = l.length := by have := congrArg List.length h; simpa using this
 refine ⟨by rw [hlen]; exact hl.1, fun i hi => ?_⟩
 have h2 := hl.2 i (by omega)
 have h3 : (m.map (fun t => t.e.length))[i]'(by simpa using hi) = (l.map (fun t => t.e.length))[i]'(by simp; omega) := by simp only [h]
 simp only [List.getElem_map] at h3
 rw [h3, hlen]; exact h2
theorem stT_ok {g : List Sg} (hg : SgOk g) (clk : Bool) (t : T) : ∀ (lab e0 : Int) (x : T), ShT g t → -1 ≤ lab → lab ≤ 64 → stT g clk t lab e0 = (x, 0) → e0 = 0 ∧ roleE g clk t 0 = 0 ∧ OkT g clk t lab x := by
 refine T.ind (P := fun t => ∀ (lab e0 : Int) (x : T), ShT g t → -1 ≤ lab → lab ≤ 64 → stT g clk t lab e0 = (x, 0) → e0 = 0 ∧ roleE g clk t 0 = 0 ∧ OkT g clk t lab x) (fun t ih lab e0 x hs h0 h64 h => ?_) t
 obtain ⟨⟨s1, s2, s3⟩, s4⟩ := (ShT_iff g t).1 hs
 rw [stT_eq] at h
 have hwg := wantT_ge (lab := lab) s2 h0
 have hw64 : wantT t lab ≤ 64 := by
  unfold wantT
  split
  ·rename_i ho; have := place_bits hg (s2 ho); omega
  split
  ·omega
  split
  ·omega
  ·exact h64
 obtain ⟨⟨xs, e1⟩, hX⟩ : ∃ X, esT g clk t lab e0 = X := ⟨_, rfl⟩
 rw [hX] at h
 simp only at h
 obtain ⟨⟨ys, e2⟩, hY⟩ : ∃ Y, lsT g clk t.l (labT t lab xs) e1 = Y := ⟨_, rfl⟩
 rw [hY] at h
 simp only [Prod.mk.injEq] at h
 obtain ⟨hx, rfl⟩ := h
 unfold lsT at hY
 obtain ⟨rfl, hL⟩ := (thrL_iff (keeps_T _ _ _ _)).1 hY
 have hX2 := hX
 unfold esT at hX
 obtain ⟨hr, hE⟩ := (thrL_iff (keeps_E _ _)).1 hX
 have he0 : e0 = 0 := Classical.byContradiction fun q => by
  have := stT_err g clk t lab e0 q
  rw [stT_eq, hX2] at this
  simp only at this
  unfold lsT at this
  rw [hY] at this
  exact q this.symm
 subst he0
 rw [all2_mapL] at hE hL
 -- the expressions
 have hE2 : All2 (fun a b => shp g a = true ∧ Ok g a (wantT t lab) b) t.e xs := all2_imp hE fun a ha b hab => by
  rw [exprS0] at hab
  exact ⟨s1 a ha, size_main hg a _ b (s1 a ha) hwg hab⟩
 have hlab : -1 ≤ labT t lab xs ∧ labT t lab xs ≤ 64 := by
  unfold labT
  split
  ·rename_i ho
   cases hxs : xs with
   | nil => simp [part0, zE_w]
   | cons b l =>
    cases hte : t.e with
    | nil => have := s3 ho; rw [hte] at this; simp at this
    | cons a l' =>
     rw [hxs, hte] at hE2
     have ok := hE2.1.2
     have h1 := (ok.shp hw64).1
     have h2 := ok.pos
     have h3 := ok.wd
     simp only [part0, List.headD_cons]
     omega
  ·exact ⟨h0, h64⟩
 have hL2 : All2 (fun a b => OkT g clk a (labT t lab xs) b) t.l ys := all2_imp hL fun a ha b hab => (ih a ha _ _ b (s4 a ha) hlab.1 hlab.2 hab).2.2
 subst hx
 have hEs : All2 (fun a b => shp g a = true ∧ shp g b = true ∧ Sz.nodes b = Sz.nodes a ∧ Sz.deep b = Sz.deep a ∧ b.op = a.op ∧ exprS b (wantT t lab) 0 = (b, 0)) t.e xs := all2_imp hE2 fun a _ b ⟨q, ok⟩ =>
  ⟨q, (ok.shp hw64).2, ok.nodes, ok.deep, ok.op, by rw [exprS0]; exact ok.same⟩
 have hEw : All2 (fun a b => WfE a → WfE b) t.e xs := all2_imp hE fun a ha b hab hwa => by
  rw [exprS0] at hab
  exact size_wf hg a _ b (s1 a ha) hwg hw64 hwa hab
 have lenE := all2_len hE2
 have lenL := all2_len hL2
 have allE : xs.all (Sz.shp g) = true := all2_all (p := Sz.shp g) (fun a b h _ => h.2.1) hEs (List.all_eq_true.2 s1)
 have opsL : ∀ (k : Int), t.l.all (fun x => decide (x.op = k)) = true → ys.all (fun x => decide (x.op = k)) = true := fun k => all2_all (fun a b h q => by rw [h.op]; exact q) hL2
 have allL : t.l.all (shpT g) = true → ys.all (shpT g) = true := all2_all (fun a b h q => h.shp q) hL2
 have allA : t.l.all (armT g) = true → ys.all (armT g) = true := all2_all (fun a b h q => h.arm q) hL2
 have lens : ys.map (fun t => t.e.length) = t.l.map (fun t => t.e.length) := all2_map (fun a b h => h.lenE) hL2
 refine ⟨rfl, hr, rfl, rfl, rfl, rfl, lenE, lenL, ?_, ?_, fun hsh => ?_, fun ha => ?_, fun hwf => ?_, ?_⟩
 ·rw [nodesT_eq, nodesT_eq t, T.mk_e, T.mk_l, all2_map (fun a b h => h.2.2.1) hEs, all2_map (fun a b h => h.nodes) hL2]
 ·rw [deepT_eq, deepT_eq t, T.mk_e, T.mk_l, all2_map (fun a b h => h.2.2.2.1) hEs, all2_map (fun a b h => h.deep) hL2]
 ·rw [shpT_eq] at hsh ⊢
  rw [T.mk_op, T.mk_sig, T.mk_hi, T.mk_lo, T.mk_e, T.mk_l, allE]
  split at hsh
  ·rename_i ho
   rw [if_pos ho]
   simp only [Bool.and_eq_true, decide_eq_true_eq] at hsh ⊢
   exact ⟨⟨trivial, by omega, by omega⟩, hsh.2⟩
  rename_i ho
  rw [if_neg ho]
  simp only [Bool.and_eq_true] at hsh ⊢
  refine ⟨⟨hsh.1.1, trivial⟩, ?_⟩
  replace hsh := hsh.2
  split at hsh
  ·rename_i ho
   rw [if_pos ho]
   simp only [Bool.and_eq_true, decide_eq_true_eq] at hsh ⊢
   exact ⟨⟨⟨by omega, by omega⟩, opsL 5 hsh.1.2⟩, allL hsh.2⟩
  rename_i ho
  rw [if_neg ho]
  split at hsh
  ·rename_i ho
   rw [if_pos ho]
   simp only [Bool.and_eq_true, decide_eq_true_eq, armsT] at hsh ⊢
   exact ⟨by omega, armsOk_map lens hsh.2.1, allA hsh.2.2⟩
  rename_i ho
  rw [if_neg ho]
  split at hsh
  ·rename_i ho
   rw [if_pos ho]
   simp only [Bool.and_eq_true, decide_eq_true_eq] at hsh ⊢
   exact ⟨by omega, allL hsh.2⟩
  ·simp at hsh
 ·rw [armT_eq] at ha ⊢
  simp only [T.mk_op, T.mk_sig, T.mk_hi, T.mk_lo, T.mk_e, T.mk_l, Bool.and_eq_true] at ha ⊢
  refine ⟨⟨ha.1.1, ?_⟩, allL ha.2⟩
  refine all2_all (fun a b h q => ?_) hEs ha.1.2
  rw [Bool.and_eq_true, decide_eq_true_eq] at q ⊢
  exact ⟨by rw [h.2.2.2.2.1]; exact q.1, h.2.1⟩
 ·rw [WfT_iff] at hwf ⊢
  refine ⟨hwf.1, fun b hb => ?_, fun b hb => ?_⟩
  ·obtain ⟨a, h1, h2⟩ := all2_mem hEw b hb
   exact h2 (hwf.2.1 a h1)
  ·obtain ⟨a, h1, h2⟩ := all2_mem hL2 b hb
   exact h2.wf (hwf.2.2 a h1)
 ·have q1 : esT g clk (T.mk t.op t.sig t.hi t.lo xs ys) lab 0 = (xs, 0) := by
   have e1 : roleE g clk (T.mk t.op t.sig t.hi t.lo xs ys) 0 = roleE g clk t 0 := rfl
   have e2 : wantT (T.mk t.op t.sig t.hi t.lo xs ys) lab = wantT t lab := rfl
   unfold esT
   rw [e1, e2, T.mk_e]
   refine (thrL_iff (keeps_E _ _)).2 ⟨hr, all2_mapL.2 (all2_right (fun a b h => h.2.2.2.2.2) hEs)⟩
  rw [stT_eq, q1]
  simp only [T.mk_op, T.mk_sig, T.mk_hi, T.mk_lo, T.mk_l]
  have e3 : labT (T.mk t.op t.sig t.hi t.lo xs ys) lab xs = labT t lab xs := rfl
  have q2 : lsT g clk ys (labT (T.mk t.op t.sig t.hi t.lo xs ys) lab xs) 0 = (ys, 0) := by
   rw [e3]
   exact (thrL_iff (keeps_T _ _ _ _)).2 ⟨rfl, all2_mapL.2 (all2_right (fun a b h => h.again) hL2)⟩
  rw [q2]

/-! ### Designs -/
structure OkP (g : List Sg) (p q : Pr) : Prop where
 clk : q.clk = p.clk
 nodes : nodesP q = nodesP p
 deep : deepP q = deepP p
 shp : q.l.all (shpT g) = true
 wf : (∀ t ∈ p.l, WfT t) → ∀ t ∈ q.l, WfT t
 again : prS g q 0 = (q, 0)
structure OkC (g : List Sg) (c k : Ck) : Prop where
 nodes : Sz.nodes k.e = Sz.nodes c.e
 deep : Sz.deep k.e = Sz.deep c.e
 shp : shp g k.e = true
 wf : WfE c.e → WfE k.e
 again : ckS k 0 = (k, 0)
theorem prS_ok {g : List Sg} (hg : SgOk g) {p q : Pr} (hs : p.l.all (shpT g) = true) (h : prS g p 0 = (q, 0)) : OkP g p q := by
 unfold prS at h
 simp only [Prod.mk.injEq] at h
 obtain ⟨rfl, h2⟩ := h
 obtain ⟨ys, hY⟩ : ∃ Y, (lsT g p.clk p.l 0 0).1 = Y := ⟨_, rfl⟩
 have hL : lsT g p.clk p.l 0 0 = (ys, 0) := Prod.ext hY h2
 rw [hY]
 rw [List.all_eq_true] at hs
 have hL2 := hL
 unfold lsT at hL
 obtain ⟨_, hA⟩ := (thrL_iff (keeps_T _ _ _ _)).1 hL
 rw [all2_mapL] at hA
 have hA2 : All2 (fun a b => OkT g p.clk a 0 b) p.l ys := all2_imp hA fun a ha b hab => (stT_ok hg p.clk a 0 0 b (shpT_sh g a (.inl (hs a ha))) (by omega) (by omega) hab).2.2
 refine ⟨rfl, ?_, ?_, ?_, fun hwf b hb => ?_, ?_⟩
 ·unfold nodesP; rw [all2_map (fun a b h => h.nodes) hA2]
 ·unfold deepP; rw [all2_map (fun a b h => h.deep) hA2]
 ·exact all2_all (fun a b h q => h.shp q) hA2 (List.all_eq_true.2 hs)
 ·obtain ⟨a, h1, h2⟩ := all2_mem hA2 b hb
  exact h2.wf (hwf a h1)
 ·have : lsT g p.clk ys 0 0 = (ys, 0) := (thrL_iff (keeps_T _ _ _ _)).2 ⟨rfl, all2_mapL.2 (all2_right (fun a b h => h.again) hA2)⟩
  unfold prS
  simp only [this]
theorem ckS_ok {g : List Sg} (hg : SgOk g) {c k : Ck} (hs : shp g c.e = true) (h : ckS c 0 = (k, 0)) : OkC g c k := by
 unfold ckS at h
 simp only [Prod.mk.injEq, exprS0] at h
 obtain ⟨rfl, h2⟩ := h
 have ok := size_main hg c.e (-1) (size c.e (-1)).1 hs (by omega) (Prod.ext rfl h2)
 refine ⟨ok.nodes, ok.deep, (ok.shp (by omega)).2, fun hwf => size_wf hg c.e (-1) _ hs (by omega) (by omega) hwf (Prod.ext rfl h2), ?_⟩
 unfold ckS
 simp only [exprS0, ok.same]
structure SzOk (d x : Flat) : Prop where
 sigs : x.sigs = d.sigs
 procs : x.procs.length = d.procs.length
 chks : x.chks.length = d.chks.length
 nodes : nodesD x = nodesD d
 wf : WfD d → WfD x
 same : sizeD x = (x, 0)
theorem sizeD_parts {d : Flat} (h : (sizeD d).2 = 0) : fitsD d = true ∧ shapedD d = true ∧ fillsD d = true ∧ (prsD d).2 = 0 ∧ (cksD d).2 = 0 ∧ sizeD d = (⟨d.sigs, (prsD d).1, (cksD d).1⟩, 0) := by
 unfold sizeD at h ⊢
 split at h
 ·simp at h
 rename_i q1
 split at h
 ·simp at h
 rename_i q2
 split at h
 ·simp at h
 rename_i q3
 split at h
 ·rename_i q4; exact (q4 h).elim
 rename_i q4
 have hc : (cksD d).2 = 0 := by omega
 have hp : (prsD d).2 = 0 := by
  have := (thrL_ok (keeps_C _) (show (thrL (d.chks.map ckS) (prsD d).2).2 = 0 from hc)).1
  exact this
 refine ⟨by simpa using q1, by simpa using q2, by simpa using q3, hp, hc, ?_⟩
 rw [if_neg q1, if_neg q2, if_neg q3, if_neg q4]
theorem sizeD_of {d : Flat} {ps : List Pr} {cs : List Ck} (h1 : fitsD d = true) (h2 : shapedD d = true) (h3 : fillsD d = true) (h4 : prsD d = (ps, 0)) (h5 : cksD d = (cs, 0)) : sizeD d = (⟨d.sigs, ps, cs⟩, 0) := by
 unfold sizeD
 rw [h1, h2, h3, h4, h5]
 simp
theorem shapedD_iff {d : Flat} : shapedD d = true ↔ sigsOk d.sigs = true ∧ d.procs.all (fun p => p.l.all (shpT d.sigs)) = true ∧ d.chks.all (fun c => shp d.sigs c.e) = true := by
 unfold shapedD; simp only [Bool.and_eq_true, and_assoc]
theorem sizeD_ok {d : Flat} (h : (sizeD d).2 = 0) : SzOk d (sizeD d).1 := by
 obtain ⟨f1, f2, f3, f4, f5, f6⟩ := sizeD_parts h
 rw [f6]
 obtain ⟨s1, s2, s3⟩ := shapedD_iff.1 f2
 have hg := sigsOk_ok s1
 obtain ⟨ps, hps⟩ : ∃ ps, (prsD d).1 = ps := ⟨_, rfl⟩
 obtain ⟨cs, hcs⟩ : ∃ cs, (cksD d).1 = cs := ⟨_, rfl⟩
 rw [hps, hcs]
 have hP : prsD d = (ps, 0) := Prod.ext hps f4
 have hC : cksD d = (cs, 0) := Prod.ext hcs f5
 unfold prsD at hP
 unfold cksD at hC
 obtain ⟨_, aP⟩ := (thrL_iff (keeps_P _ _)).1 hP
 obtain ⟨_, aC⟩ := (thrL_iff (keeps_C _)).1 hC
 rw [all2_mapL] at aP aC
 have oP : All2 (fun a b => OkP d.sigs a b) d.procs ps := all2_imp aP fun a ha b hab => prS_ok hg (List.all_eq_true.1 s2 a ha) hab
 have oC : All2 (fun a b => OkC d.sigs a b) d.chks cs := all2_imp aC fun a ha b hab => ckS_ok hg (List.all_eq_true.1 s3 a ha) hab
 have lP := all2_len oP
 have lC := all2_len oC
 have hn : nodesD ⟨d.sigs, ps, cs⟩ = nodesD d := by
  unfold nodesD
  rw [all2_map (fun a b h => h.nodes) oP, all2_map (f := fun c : Ck => Sz.nodes c.e) (fun a b h => h.nodes) oC]
 have hd : deepD ⟨d.sigs, ps, cs⟩ = deepD d := by
  unfold deepD
  rw [all2_map (fun a b h => h.deep) oP, all2_map (f := fun c : Ck => Sz.deep c.e) (fun a b h => h.deep) oC]
 have hfit : fitsD ⟨d.sigs, ps, cs⟩ = true := by
  unfold fitsD at f1 ⊢
  rw [hn, hd]
  simp only [decide_eq_true_eq] at f1 ⊢
  exact ⟨f1.1, by omega, f1.2.2.1, f1.2.2.2.1, f1.2.2.2.2⟩
 have hsh : shapedD ⟨d.sigs, ps, cs⟩ = true := shapedD_iff.2 ⟨s1, all2_all (p := fun p : Pr => p.l.all (shpT d.sigs)) (fun a b h _ => h.shp) oP s2, all2_all (p := fun c : Ck => shp d.sigs c.e) (fun a b h _ => h.shp) oC s3⟩
 have hPs : prsD ⟨d.sigs, ps, cs⟩ = (ps, 0) := (thrL_iff (keeps_P _ _)).2 ⟨rfl, all2_mapL.2 (all2_right (fun a b h => h.again) oP)⟩
 have hCs : cksD ⟨d.sigs, ps, cs⟩ = (cs, 0) := by
  unfold cksD
  rw [hPs]
  exact (thrL_iff (keeps_C _)).2 ⟨rfl, all2_mapL.2 (all2_right (fun a b h => h.again) oC)⟩
 refine ⟨rfl, lP, lC, hn, fun hw => ⟨hw.sigs, fun q hq => ?_, fun k hk => ?_⟩, sizeD_of hfit hsh f3 hPs hCs⟩
 ·obtain ⟨p, h1, h2⟩ := all2_mem oP q hq
  exact h2.wf (hw.procs p h1)
 ·obtain ⟨c, h1, h2⟩ := all2_mem oC k hk
  exact h2.wf (hw.chks c h1)
theorem sizeD_bad {d : Flat} (h : (sizeD d).2 ≠ 0) : (sizeD d).1 = zD := by
 unfold sizeD at h ⊢
 split
 ·rfl
 rename_i q1; rw [if_neg q1] at h
 split
 ·rfl
 rename_i q2; rw [if_neg q2] at h
 split
 ·rfl
 rename_i q3; rw [if_neg q3] at h
 split
 ·rfl
 rename_i q4; rw [if_neg q4] at h; simp at h
open Classical in
theorem checkD_err {d : Flat} (h : (sizeD d).2 ≠ 0) : checkD d = (sizeD d).2 := by
 unfold checkD; rw [if_neg fun q => h q.1]
open Classical in
theorem checkD_same {d : Flat} (h : (sizeD d).2 = 0) : (checkD d == 0) = same (sizeD d).1 d := by
 unfold checkD
 by_cases q : (sizeD d).1 = d
 ·rw [if_neg fun k => k.2 q, h, same_iff.2 q]; rfl
 ·rw [if_pos ⟨h, q⟩, same_false.2 q]; rfl

/-! ### Less of it -/
end Fil.Sz

namespace Fil.Sz
open Abs
def oneR (g : List Sg) (clk : Bool) (t : T) : T × Int :=
 if (esT g clk t 0 0).2 ≠ 0 then (zT, (esT g clk t 0 0).2)
 else (.mk t.op t.sig t.hi t.lo (esT g clk t 0 0).1 (resV [] (lsT g clk t.l (labT t 0 (esT g clk t 0 0).1) 0)).1, (lsT g clk t.l (labT t 0 (esT g clk t 0 0).1) 0).2)
theorem oneR_err (g : List Sg) (clk : Bool) (t : T) : (oneR g clk t).2 = (stT g clk t 0 0).2 := by
 unfold oneR
 rw [stT_eq]
 split
 ·rename_i h
  simp only
  rw [lsT_err _ _ _ _ _ h]
 ·rename_i h
  have h : (esT g clk t 0 0).2 = 0 := by omega
  simp only [h]
theorem oneR_ok {g : List Sg} {clk : Bool} {t : T} (h : (oneR g clk t).2 = 0) : oneR g clk t = stT g clk t 0 0 := by
 have h2 := oneR_err g clk t
 rw [h] at h2
 have h3 : (esT g clk t 0 0).2 = 0 := Classical.byContradiction fun q => by
  unfold oneR at h; rw [if_pos q] at h; exact q h
 rw [stT_eq] at h2 ⊢
 simp only at h2
 unfold oneR at h ⊢
 rw [if_neg (by omega)] at h ⊢
 simp only at h
 rw [h3] at h2 ⊢
 unfold resV
 rw [if_pos h]
theorem esT_one {g : List Sg} {clk : Bool} {t : T} {x : E} {W lab : Int} (he : t.e = [x]) (hW : wantT t lab = W) (hr : roleE g clk t 0 = 0) : esT g clk t lab 0 = ([(size x W).1], (size x W).2) := by
 unfold esT; rw [he, hW, hr]; simp [thrL, exprS]
theorem esT_none {g : List Sg} {clk : Bool} {t : T} {lab : Int} (he : t.e = []) (ho : ¬ t.op = 1) : esT g clk t lab 0 = ([], 0) := by
 unfold esT; rw [he]; simp [thrL, roleE, ho]
theorem esT_role {g : List Sg} {clk : Bool} {t : T} {lab : Int} (hr : roleE g clk t 0 ≠ 0) : (esT g clk t lab 0).2 = roleE g clk t 0 := by
 unfold esT; exact thrL_err _ (keeps_E _ _) _ hr
theorem oneR_bad {g : List Sg} {clk : Bool} {t : T} {f : Int} (h : (esT g clk t 0 0).2 = f) (hf : f ≠ 0) : oneR g clk t = (zT, f) := by
 unfold oneR; rw [h, if_pos hf]
theorem oneR_go {g : List Sg} {clk : Bool} {t : T} {es : List E} (h : esT g clk t 0 0 = (es, 0)) : oneR g clk t = (.mk t.op t.sig t.hi t.lo es (resV [] (lsT g clk t.l (labT t 0 es) 0)).1, (lsT g clk t.l (labT t 0 es) 0).2) := by
 unfold oneR; rw [h]; simp
theorem lsT_at {g : List Sg} {clk : Bool} {l : List T} {lab : Int} {P : Nat → List T × Int} (hP : ∀ i, P i = thrL ((l.map fun x => stT g clk x lab).take i) 0) :
  P 0 = ([], 0) ∧ (∀ i, i ≤ l.length → (P i).1.length = i) ∧ P l.length = lsT g clk l lab 0 ∧
  (∀ i, (h : i < l.length) → (P i).2 = 0 → (stT g clk l[i] lab 0).2 = 0 → P (i + 1) = ((P i).1 ++ [(stT g clk l[i] lab 0).1], 0)) ∧
  (∀ i, (h : i < l.length) → (P i).2 = 0 → (stT g clk l[i] lab 0).2 ≠ 0 → (lsT g clk l lab 0).2 = (stT g clk l[i] lab 0).2) := by
 have step : ∀ i, (h : i < l.length) → (P i).2 = 0 → P (i + 1) = ((P i).1 ++ [(stT g clk l[i] lab 0).1], (stT g clk l[i] lab 0).2) := fun i h h0 => by
  have h1 := hP (i + 1)
  rw [thrL_take (by simpa using h), List.getElem_map, ← hP i] at h1
  rw [h1, h0]
 refine ⟨by rw [hP]; rfl, fun i hi => ?_, ?_, fun i h h0 h1 => by rw [step i h h0, h1], fun i h h0 h1 => ?_⟩
 ·rw [hP, thrL_len, List.length_take, List.length_map]; omega
 ·rw [hP]; unfold lsT; congr 1; exact List.take_of_length_le (by simp)
 ·have h2 := step i h h0
  rw [hP] at h2
  have h3 := thrL_to (l := l.map fun x => stT g clk x lab) (keeps_T g clk lab l) (i := i + 1) (e := 0) (by rw [h2]; exact h1)
  unfold lsT
  rw [h3, h2]
theorem resV_of {α : Type} {z : α} {r : α × Int} (h : r.2 = 0) : resV z r = r := by unfold resV; rw [if_pos h]
theorem resV_bad {α : Type} {z : α} {r : α × Int} {f : Int} (h : r.2 = f) (hf : f ≠ 0) : resV z r = (z, f) := by unfold resV; rw [h, if_neg hf]
theorem lab_at {l : List E} {w : Int} {P : Nat → List E × Int} (hP : ∀ i, P i = thrL ((l.map fun x => exprS x w).take i) 0) :
  P 0 = ([], 0) ∧ (∀ i, i ≤ l.length → (P i).1.length = i) ∧ P l.length = thrL (l.map fun x => exprS x w) 0 ∧
  (∀ i, (h : i < l.length) → (P i).2 = 0 → (size l[i] w).2 = 0 → P (i + 1) = ((P i).1 ++ [(size l[i] w).1], 0)) ∧
  (∀ i, (h : i < l.length) → (P i).2 = 0 → (size l[i] w).2 ≠ 0 → (thrL (l.map fun x => exprS x w) 0).2 = (size l[i] w).2) := by
 have step : ∀ i, (h : i < l.length) → (P i).2 = 0 → P (i + 1) = ((P i).1 ++ [(size l[i] w).1], (size l[i] w).2) := fun i h h0 => by
  have h1 := hP (i + 1)
  rw [thrL_take (by simpa using h), List.getElem_map, ← hP i] at h1
  rw [h1, h0, exprS0]
 refine ⟨by rw [hP]; rfl, fun i hi => ?_, ?_, fun i h h0 h1 => by rw [step i h h0, h1], fun i h h0 h1 => ?_⟩
 ·rw [hP, thrL_len, List.length_take, List.length_map]; omega
 ·rw [hP]; congr 1; exact List.take_of_length_le (by simp)
 ·have h2 := step i h h0
  rw [hP] at h2
  have h3 := thrL_to (l := l.map fun x => exprS x w) (keeps_E w l) (i := i + 1) (e := 0) (by rw [h2]; exact h1)
  rw [h3, h2]
theorem stT_arm {g : List Sg} {clk : Bool} {t : T} {w : Int} (ha : armT g t = true) :
  ((thrL (t.e.map fun x => exprS x w) 0).2 ≠ 0 → (stT g clk t w 0).2 = (thrL (t.e.map fun x => exprS x w) 0).2) ∧
  ((thrL (t.e.map fun x => exprS x w) 0).2 = 0 → (stT g clk t w 0).2 = (lsT g clk t.l 0 0).2 ∧
   stT g clk t w 0 = (.mk 4 0 0 0 (thrL (t.e.map fun x => exprS x w) 0).1 (lsT g clk t.l 0 0).1, (lsT g clk t.l 0 0).2)) := by
 rw [armT_eq] at ha
 simp only [Bool.and_eq_true, decide_eq_true_eq, List.all_eq_true] at ha
 obtain ⟨⟨⟨o1, o2, o3, o4⟩, _⟩, h2⟩ := ha
 have he : esT g clk t w 0 = thrL (t.e.map fun x => exprS x w) 0 := by
  unfold esT wantT roleE
  rw [if_neg (by omega), if_neg (by omega), if_neg (by omega), if_neg (by omega)]
 have hl : ∀ es, labT t w es = w := fun es => by unfold labT; rw [if_neg (by omega)]
 have hls : ∀ e, lsT g clk t.l w e = lsT g clk t.l 0 e := fun e => by
  unfold lsT
  congr 1
  exact List.map_congr_left fun x hx => funext fun e => lab_any g clk x (h2 x hx) _ _ e
 rw [stT_eq, he, hl, hls, o1, o2, o3, o4]
 refine ⟨fun h => lsT_err _ _ _ _ _ h, fun h => ?_⟩
 rw [h]
 exact ⟨rfl, rfl⟩
theorem resV_2 {α : Type} {z : α} {r : α × Int} : (resV z r).2 = r.2 := by unfold resV; split <;> rfl
theorem oneR_at {g : List Sg} {clk : Bool} {t : T} {es : List E} {m : List T} {h L : Int} (h1 : esT g clk t 0 0 = (es, 0)) (h2 : labT t 0 es = L) (h3 : resV [] (lsT g clk t.l L 0) = (m, h)) : oneR g clk t = (.mk t.op t.sig t.hi t.lo es m, h) := by
 rw [oneR_go h1, h2]
 have := congrArg Prod.snd h3
 rw [resV_2] at this
 rw [this, h3]
theorem arm_op {g : List Sg} {t : T} (h : armT g t = true) : t.op = 4 ∧ t.sig = 0 ∧ t.hi = 0 ∧ t.lo = 0 := by
 rw [armT_eq] at h
 simp only [Bool.and_eq_true, decide_eq_true_eq] at h
 exact h.1.1
theorem arm_shp {g : List Sg} {t : T} (h : armT g t = true) {x : E} (hx : x ∈ t.e) : shp g x = true := by
 rw [armT_eq] at h
 simp only [Bool.and_eq_true, List.all_eq_true] at h
 exact (h.1.2 x hx).2
theorem arm_shps {g : List Sg} {t : T} (h : armT g t = true) {x : T} (hx : x ∈ t.l) : shpT g x = true := by
 rw [armT_eq] at h
 simp only [Bool.and_eq_true, List.all_eq_true] at h
 exact h.2 x hx
theorem shpT_kids {g : List Sg} {t : T} (h : shpT g t = true) : (t.op ≠ 3 → ∀ x ∈ t.l, shpT g x = true) ∧ (t.op = 3 → ∀ x ∈ t.l, armT g x = true) := by
 rw [shpT_eq] at h
 split at h
 ·rename_i o
  simp only [Bool.and_eq_true, decide_eq_true_eq] at h
  exact ⟨fun _ x hx => by have := List.length_pos_of_mem hx; omega, fun q => by omega⟩
 simp only [Bool.and_eq_true] at h
 obtain ⟨_, h⟩ := h
 split at h
 ·rename_i o
  simp only [Bool.and_eq_true, List.all_eq_true] at h
  exact ⟨fun _ => h.2, fun q => by omega⟩
 split at h
 ·rename_i o
  simp only [Bool.and_eq_true, armsT, List.all_eq_true] at h
  exact ⟨fun q => (q o).elim, fun _ => h.2.2⟩
 rename_i o
 split at h
 ·simp only [Bool.and_eq_true, List.all_eq_true] at h
  exact ⟨fun _ => h.2, fun q => (o q).elim⟩
 ·simp at h
theorem prs_at {d : Flat} {P : Nat → List Pr × Int} (hP : ∀ i, P i = thrL ((d.procs.map (prS d.sigs)).take i) 0) :
  P 0 = ([], 0) ∧ (∀ i, i ≤ d.procs.length → (P i).1.length = i) ∧ P d.procs.length = prsD d ∧
  (∀ i, (h : i < d.procs.length) → (P i).2 = 0 → (lsT d.sigs d.procs[i].clk d.procs[i].l 0 0).2 = 0 → P (i + 1) = ((P i).1 ++ [⟨d.procs[i].clk, (lsT d.sigs d.procs[i].clk d.procs[i].l 0 0).1⟩], 0)) ∧
  (∀ i, (h : i < d.procs.length) → (P i).2 = 0 → (lsT d.sigs d.procs[i].clk d.procs[i].l 0 0).2 ≠ 0 → (prsD d).2 = (lsT d.sigs d.procs[i].clk d.procs[i].l 0 0).2) := by
 have step : ∀ i, (h : i < d.procs.length) → (P i).2 = 0 → P (i + 1) = ((P i).1 ++ [⟨d.procs[i].clk, (lsT d.sigs d.procs[i].clk d.procs[i].l 0 0).1⟩], (lsT d.sigs d.procs[i].clk d.procs[i].l 0 0).2) := fun i h h0 => by
  have h1 := hP (i + 1)
  rw [thrL_take (by simpa using h), List.getElem_map, ← hP i] at h1
  rw [h1, h0]; rfl
 refine ⟨by rw [hP]; rfl, fun i hi => ?_, ?_, fun i h h0 h1 => by rw [step i h h0, h1], fun i h h0 h1 => ?_⟩
 ·rw [hP, thrL_len, List.length_take, List.length_map]; omega
 ·rw [hP]; unfold prsD; congr 1; exact List.take_of_length_le (by simp)
 ·have h2 := step i h h0
  rw [hP] at h2
  have h3 := thrL_to (l := d.procs.map (prS d.sigs)) (keeps_P d.sigs d.procs) (i := i + 1) (e := 0) (by rw [h2]; exact h1)
  unfold prsD
  rw [h3, h2]
theorem cks_at {d : Flat} (hp : (prsD d).2 = 0) {Q : Nat → List Ck × Int} (hQ : ∀ i, Q i = thrL ((d.chks.map ckS).take i) 0) :
  Q 0 = ([], 0) ∧ (∀ i, i ≤ d.chks.length → (Q i).1.length = i) ∧ Q d.chks.length = cksD d ∧
  (∀ i, (h : i < d.chks.length) → (Q i).2 = 0 → (size d.chks[i].e (-1)).2 = 0 → Q (i + 1) = ((Q i).1 ++ [⟨d.chks[i].name, (size d.chks[i].e (-1)).1⟩], 0)) ∧
  (∀ i, (h : i < d.chks.length) → (Q i).2 = 0 → (size d.chks[i].e (-1)).2 ≠ 0 → (cksD d).2 = (size d.chks[i].e (-1)).2) := by
 have step : ∀ i, (h : i < d.chks.length) → (Q i).2 = 0 → Q (i + 1) = ((Q i).1 ++ [⟨d.chks[i].name, (size d.chks[i].e (-1)).1⟩], (size d.chks[i].e (-1)).2) := fun i h h0 => by
  have h1 := hQ (i + 1)
  rw [thrL_take (by simpa using h), List.getElem_map, ← hQ i] at h1
  rw [h1, h0]; simp only [ckS, exprS0]
 refine ⟨by rw [hQ]; rfl, fun i hi => ?_, ?_, fun i h h0 h1 => by rw [step i h h0, h1], fun i h h0 h1 => ?_⟩
 ·rw [hQ, thrL_len, List.length_take, List.length_map]; omega
 ·rw [hQ]; unfold cksD; rw [hp]; congr 1; exact List.take_of_length_le (by simp)
 ·have h2 := step i h h0
  rw [hQ] at h2
  have h3 := thrL_to (l := d.chks.map ckS) (keeps_C d.chks) (i := i + 1) (e := 0) (by rw [h2]; exact h1)
  unfold cksD
  rw [hp, h3, h2]
theorem cks_err {d : Flat} (h : (prsD d).2 ≠ 0) : (cksD d).2 = (prsD d).2 := thrL_err _ (keeps_C _) _ h
theorem sizeD_go {d : Flat} (h1 : fitsD d = true) (h2 : shapedD d = true) (h3 : fillsD d = true) : sizeD d = if (cksD d).2 ≠ 0 then (zD, (cksD d).2) else (⟨d.sigs, (prsD d).1, (cksD d).1⟩, 0) := by
 unfold sizeD; rw [h1, h2, h3]; simp
end Fil.Sz

namespace Go.Proofs.Ytdiebjnjhgbklaa
open Abs Fil Fil.Sz
theorem encT_zero : encT zT = .agg [.int .i64 0, .int .i64 0, .int .i64 0, .int .i64 0, .slice [] .no, .slice [] .no] := encT_mk _ _ _ _ _ _
theorem fls_app (σ : Sig) (l : List AV) {a b : List AV} (h : FLs σ a b) : FLs σ (l ++ a) (l ++ b) := by
 refine ⟨by rw [List.length_append, List.length_append, h.1], fun i h0 h1 => ?_⟩
 rw [List.getElem_append, List.getElem_append]
 split
 ·exact .refl _
 ·exact h.2 _ _ _
def someR (g : List Sg) (clk : Bool) (l : List T) (w : Int) : List T × Int := resV [] (lsT g clk l w 0)
theorem rf_some_step (g : List Sg) (clk : Bool) (l : List T) (hl : l.length ≤ 16777216)
  (ih : ∀ x ∈ l, ∀ τ, ACalls Try.prog 94 [.slice (g.map encS) .no, encT x, .bool clk] τ (fun r σ' => r = .ret (.tup [encT (oneR g clk x).1, .int .i64 (oneR g clk x).2]) ∧ σ' = τ)) (σ : Sig) :
  ACalls Try.prog 54 [.slice (g.map encS) .no, .slice (l.map encT) .no, .bool clk] σ (fun r σ' => r = .ret (.tup [.slice ((someR g clk l 0).1.map encT) .no, .int .i64 (someR g clk l 0).2]) ∧ σ' = σ) := by
 obtain ⟨P, hP⟩ : ∃ P : Nat → List T × Int, ∀ i, P i = thrL ((l.map fun x => stT g clk x 0).take i) 0 := ⟨_, fun _ => rfl⟩
 obtain ⟨p0, pl, pe, ps, pb⟩ := lsT_at hP
 have ho := fun (x : T) => oneR_err g clk x
 have hk := fun (x : T) (h : (oneR g clk x).2 = 0) => oneR_ok h
 clear hP
 have hv0 := resV_of (z := ([] : List T)) (r := lsT g clk l 0 0)
 have hvb := fun f => resV_bad (z := ([] : List T)) (r := lsT g clk l 0 0) (f := f)
 unfold someR
 obtain ⟨RV, hRV⟩ : ∃ R, resV ([] : List T) (lsT g clk l 0 0) = R := ⟨_, rfl⟩
 rw [hRV] at hv0 hvb ⊢
 rw [← pe] at hv0
 clear hRV pe
 refine ACalls.virt (callable_of Try.func54 b54 n54) 6 (fun oV1 hoV1 hnV1 hnV1' => ?_); (try simp only [upd_none, ne_eq, not_and] at hoV1); refine calls_x mixed Try.func54 b54 n54 rfl q54 (by simp) ?_; unfold c54 r54
 repeat' simp (maxDischargeDepth := 9) -implicitDefEqProofs -dsimp only [go_sem, seval, *]
 refine loop_rule (fun i : Nat => [(9, some (.int .i64 i)), (1, some (.slice (l.map encT) .no)), (0, some (.slice (g.map encS) .no)), (2, some (.bool clk)), (8, some (.slice ((P i).1.map encT) (.own oV1)))])
  (fun i => upd σ oV1 (.grow 6 i)) (fun i => i ≤ l.length ∧ (P i).2 = 0) (fun i => l.length - i) 0 ?_ ?_
 ·clear ih ps pb pl hv0 hvb ho hk
  (repeat' simp (maxDischargeDepth := 9) -implicitDefEqProofs -dsimp only [go_sem, seval, List.map_nil, *]) <;> (first | omega | skip)
 ·rintro i ⟨hi, hok⟩
  by_cases hlt : i < l.length
  ·have hx := encTs_eq l[i]
   have hc := ih l[i] (List.getElem_mem hlt)
   have h1 := ho l[i]
   have h2 := hk l[i]
   have h3 := ps i hlt hok
   have h4 := pb i hlt hok
   have h5 := pl i hi
   clear ih ps pb pl ho hk p0 hv0
   rw [← h1] at h3 h4
   have h3' : (oneR g clk l[i]).2 = 0 → P (i + 1) = ((P i).1 ++ [(oneR g clk l[i]).1], 0) := fun h => by rw [h2 h]; exact h3 h
   obtain ⟨⟨y, f⟩, hyf⟩ : ∃ R, oneR g clk l[i] = R := ⟨_, rfl⟩
   rw [hyf] at hc h3' h4
   simp only at h3' h4
   obtain ⟨X, hX⟩ : ∃ X, (P i).1 = X := ⟨_, rfl⟩
   rw [hX] at h3' h5 ⊢
   clear h1 h2 h3 hyf hX hok
   by_cases hf : f = 0
   ·subst hf
    have h6 := h3' rfl
    clear h3' h4 hvb hx
    repeat' (first | simp (maxDischargeDepth := 9) -implicitDefEqProofs -dsimp only [go_sem, seval, *] | simp (disch := omega) only [wrap64] | ((with_reducible refine Zv ?_ ?_); focus (first | omega | exact rfl)) | ((with_reducible refine Zu ?_ ?_); focus omega) | ((with_reducible refine Zt (fun oF hoF hnF hnF' => ?_)); (try simp only [upd_none, ne_eq, not_and] at hoF)) | ((with_reducible apply ACalls.one1); (focus ((with_reducible refine hc _) <;> (first | (simp (maxDischargeDepth := 9) -implicitDefEqProofs -dsimp only [go_sem, seval, *]; done) | omega))); (focus (first | trivial | with_reducible exact rfl | (simp (maxDischargeDepth := 9) -implicitDefEqProofs -dsimp only [go_sem, seval]; done)))))
    refine loop_next _ _ _ _ (i + 1) ?_; (repeat' simp (maxDischargeDepth := 9) -implicitDefEqProofs -dsimp only [go_sem, seval,  List.map_append, List.map_cons, List.map_nil, *]) <;> (repeat' refine And.intro ?_ ?_) <;> (first | omega | skip)
   ·have hfb : (f != 0) = true := by simpa using hf
    have h6 := hvb f (h4 hf) hf
    rw [h6]
    clear h3' h4 hvb h6 hf hx
    repeat' (first | simp (maxDischargeDepth := 9) -implicitDefEqProofs -dsimp only [go_sem, seval, *] | simp (disch := omega) only [wrap64] | ((with_reducible refine Zu ?_ ?_); focus omega) | ((with_reducible refine Zt (fun oF hoF hnF hnF' => ?_)); (try simp only [upd_none, ne_eq, not_and] at hoF)) | ((with_reducible apply ACalls.one1); (focus ((with_reducible refine hc _) <;> (first | (simp (maxDischargeDepth := 9) -implicitDefEqProofs -dsimp only [go_sem, seval, *]; done) | omega))); (focus (first | trivial | with_reducible exact rfl | (simp (maxDischargeDepth := 9) -implicitDefEqProofs -dsimp only [go_sem, seval]; done)))))
    refine fin_eq ?_
    (repeat' simp (maxDischargeDepth := 9) -implicitDefEqProofs -dsimp only [go_sem, seval, List.map_nil, *])
  ·have ei : i = l.length := by omega
   subst ei
   rw [hv0 hok]
   obtain ⟨X, hX⟩ : ∃ X, (P l.length).1 = X := ⟨_, rfl⟩
   rw [hX, hok]
   clear ih ps pb pl ho hk p0 hv0 hvb hX hok
   repeat' simp (maxDischargeDepth := 9) -implicitDefEqProofs -dsimp only [go_sem, seval, *]
   refine fin_eq ?_
   (repeat' simp (maxDischargeDepth := 9) -implicitDefEqProofs -dsimp only [go_sem, seval, *])
set_option maxRecDepth 20000 in
set_option maxHeartbeats 2000000 in
theorem rf_cases_step (g : List Sg) (hg : SgOk g) (clk : Bool) (l : List T) (hn : (l.map nodesT).sum ≤ 16777216) (hw : ∀ t ∈ l, WfT t) (ha : ∀ t ∈ l, armT g t = true) (w : Int) (hw0 : 0 ≤ w)
  (ih : ∀ x ∈ l, ∀ τ, ACalls Try.prog 54 [.slice (g.map encS) .no, .slice (x.l.map encT) .no, .bool clk] τ (fun r σ' => r = .ret (.tup [.slice ((someR g clk x.l 0).1.map encT) .no, .int .i64 (someR g clk x.l 0).2]) ∧ σ' = τ)) (σ : Sig) :
  ACalls Try.prog 107 [.slice (g.map encS) .no, .slice (l.map encT) .no, .bool clk, .int .i64 w] σ (fun r σ' => r = .ret (.tup [.slice ((someR g clk l w).1.map encT) .no, .int .i64 (someR g clk l w).2]) ∧ σ' = σ) := by
 have l1 := len_sum nodesT_pos l
 obtain ⟨P, hP⟩ : ∃ P : Nat → List T × Int, ∀ i, P i = thrL ((l.map fun x => stT g clk x w).take i) 0 := ⟨_, fun _ => rfl⟩
 obtain ⟨p0, pl, pe, ps, pb⟩ := lsT_at hP
 have harm := fun (x : T) (hx : x ∈ l) => stT_arm (g := g) (clk := clk) (w := w) (ha x hx)
 have hop := fun (x : T) (hx : x ∈ l) => arm_op (ha x hx)
 have conE := fun (x : T) (hx : x ∈ l) (y : E) (hy : y ∈ x.e) τ => rf_sized g hg y w τ (arm_shp (ha x hx) hy) (by have := mem_sum (f := nodesT) hx; have := partE_nodes hy; omega) (((WfT_iff x).1 (hw x hx)).2.1 y hy) hw0
 have lE := fun (x : T) (hx : x ∈ l) => (show x.e.length ≤ 16777216 by have := mem_sum (f := nodesT) hx; have := lenE_nodes x; omega)
 clear hP hw ha
 have hv0 := resV_of (z := ([] : List T)) (r := lsT g clk l w 0)
 have hvb := fun f => resV_bad (z := ([] : List T)) (r := lsT g clk l w 0) (f := f)
 have hrr : someR g clk l w = resV ([] : List T) (lsT g clk l w 0) := rfl
 rw [hrr]
 obtain ⟨RV, hRV⟩ : ∃ R, resV ([] : List T) (lsT g clk l w 0) = R := ⟨_, rfl⟩
 rw [hRV] at hv0 hvb ⊢
 rw [← pe] at hv0
 clear hRV hrr pe
 refine ACalls.virt (callable_of Try.func107 b107 n107) 6 (fun oV1 hoV1 hnV1 hnV1' => ?_); (try simp only [upd_none, ne_eq, not_and] at hoV1); refine calls_x mixed Try.func107 b107 n107 rfl q107 (by simp) ?_; unfold c107 r107
 repeat' simp (maxDischargeDepth := 9) -implicitDefEqProofs -dsimp only [go_sem, seval, *]
 refine loop_rule (fun i : Nat => [(11, some (.int .i64 i)), (1, some (.slice (l.map encT) .no)), (3, some (.int .i64 w)), (0, some (.slice (g.map encS) .no)), (2, some (.bool clk)), (10, some (.slice ((P i).1.map encT) (.own oV1)))])
  (fun i => upd σ oV1 (.grow 6 i)) (fun i => i ≤ l.length ∧ (P i).2 = 0) (fun i => l.length - i) 0 ?_ ?_
 ·clear ih ps pb pl hv0 hvb harm hop conE lE
  (repeat' simp (maxDischargeDepth := 9) -implicitDefEqProofs -dsimp only [go_sem, seval, List.map_nil, *]) <;> (first | omega | skip)
 ·rintro i ⟨hi, hok⟩
  by_cases hlt : i < l.length
  ·have hx := encTs_eq l[i]
   have hm := List.getElem_mem hlt
   have hc := ih l[i] hm
   obtain ⟨a1, a2⟩ := harm l[i] hm
   obtain ⟨o1, o2, o3, o4⟩ := hop l[i] hm
   have cE := conE l[i] hm
   have le := lE l[i] hm
   have h3 := ps i hlt hok
   have h4 := pb i hlt hok
   have h5 := pl i hi
   obtain ⟨Q, hQ⟩ : ∃ Q : Nat → List E × Int, ∀ k, Q k = thrL ((l[i].e.map fun x => exprS x w).take k) 0 := ⟨_, fun _ => rfl⟩
   obtain ⟨q0, ql, qe, qs, qb⟩ := lab_at hQ
   have hs2 : (someR g clk l[i].l 0).2 = (lsT g clk l[i].l 0 0).2 := resV_2
   have hs1 : (someR g clk l[i].l 0).2 = 0 → (someR g clk l[i].l 0).1 = (lsT g clk l[i].l 0 0).1 := fun h => by
    unfold someR at h ⊢
    rw [resV_2] at h
    rw [resV_of h]
   obtain ⟨⟨M, h⟩, hMh⟩ : ∃ R, someR g clk l[i].l 0 = R := ⟨_, rfl⟩
   rw [hMh] at hc hs1 hs2
   simp only at hs1 hs2
   rw [← qe] at a1 a2
   -- the arm: labels fail; statements fail; both are sized
   have bad1 : ∀ f, f ≠ 0 → (thrL (l[i].e.map fun x => exprS x w) 0).2 = f → RV = ([], f) := fun f hf e => by
    rw [← qe] at e
    have e2 := a1 (by rw [e]; exact hf)
    exact hvb f (by rw [h4 (by rw [e2, e]; exact hf), e2, e]) hf
   have bad2 : (Q l[i].e.length).2 = 0 → h ≠ 0 → RV = ([], h) := fun e hh => by
    have e2 := (a2 e).1
    rw [← hs2] at e2
    exact hvb h (by rw [h4 (by rw [e2]; exact hh), e2]) hh
   have good : (Q l[i].e.length).2 = 0 → h = 0 → P (i + 1) = ((P i).1 ++ [.mk 4 0 0 0 (Q l[i].e.length).1 M], 0) := fun e hh => by
    obtain ⟨e1, e2⟩ := a2 e
    rw [← hs2] at e1 e2
    rw [h3 (by rw [e1]; exact hh), e2, hs1 hh]
   clear ih ps pb pl harm hop conE lE p0 hv0 hvb a1 a2 h3 h4 hs1 hs2 hMh hQ
   obtain ⟨X, hX⟩ : ∃ X, (P i).1 = X := ⟨_, rfl⟩
   rw [hX] at good h5 ⊢
   clear hX hok
   repeat' (first | simp (maxDischargeDepth := 9) -implicitDefEqProofs -dsimp only [go_sem, seval, *] | ((with_reducible refine Zu ?_ ?_); focus omega) | ((with_reducible refine Zt (fun oF hoF hnF hnF' => ?_)); (try simp only [upd_none, ne_eq, not_and] at hoF)))
   rename_i oX nx1 nx2 hoX
   obtain ⟨oL, eL⟩ : ∃ x, x = oF := ⟨oF, rfl⟩
   subst eL
   obtain ⟨a1, a2⟩ := hoX
   obtain ⟨a3, a4, a5⟩ := hoF
   have b1 : ¬ oV1 = oX := fun e => a1 e.symm
   have b3 : ¬ oX = oL := fun e => a3 e.symm
   have b4 : ¬ oV1 = oL := fun e => a4 e.symm
   clear nx1 nx2 hnF hnF' hnV1 hnV1'
   refine loop_rule (fun k : Nat => [(14, some (.int .i64 k)), (12, some (.ptr oX 0)), (3, some (.int .i64 w)), (13, some (.slice ((Q k).1.map encE) (.own oL))), (0, some (.slice (g.map encS) .no)), (2, some (.bool clk)), (10, some (.slice (X.map encT) (.own oV1))), (11, some (.int .i64 i)), (1, some (.slice (l.map encT) .no))])
    (fun k => upd (upd (upd σ oV1 (.grow 6 i)) oX (.cells [.int .i64 4, .int .i64 0, .int .i64 0, .int .i64 0, .slice (l[i].e.map encE) .no, .slice (l[i].l.map encT) .no])) oL (.grow 8 k))
    (fun k => k ≤ l[i].e.length ∧ (Q k).2 = 0) (fun k => l[i].e.length - k) 0 ?_ ?_
   ·clear cE ql qs qb hc bad1 bad2 good
    (repeat' simp (maxDischargeDepth := 9) -implicitDefEqProofs -dsimp only [go_sem, seval, List.map_nil, *]) <;> (first | omega | skip)
   ·rintro k ⟨hk, hqk⟩
    by_cases hkt : k < l[i].e.length
    ·have hce := cE l[i].e[k] (List.getElem_mem hkt)
     have g1 := qs k hkt hqk
     have g2 := qb k hkt hqk
     have g3 := ql k hk
     have hxe := encEs_eq l[i].e[k]
     obtain ⟨⟨y, f⟩, hY⟩ : ∃ Y, size l[i].e[k] w = Y := ⟨_, rfl⟩
     rw [hY] at hce g1 g2
     simp only at g1 g2
     obtain ⟨Z, hZ⟩ : ∃ Z, (Q k).1 = Z := ⟨_, rfl⟩
     rw [hZ] at g1 g3 ⊢
     clear cE qs qb ql q0 hc bad2 good hY hZ hqk qe hm o1 o2 o3 o4
     by_cases hf : f = 0
     ·subst hf
      have g4 := g1 rfl
      clear g1 g2 bad1 hxe hx
      repeat' (first | simp (maxDischargeDepth := 9) -implicitDefEqProofs -dsimp only [go_sem, seval, *] | simp (disch := omega) only [wrap64] | ((with_reducible refine Zv ?_ ?_); focus (first | omega | exact rfl)) | ((with_reducible refine Zu ?_ ?_); focus omega) | ((with_reducible refine Zt (fun oF hoF hnF hnF' => ?_)); (try simp only [upd_none, ne_eq, not_and] at hoF)) | ((with_reducible apply ACalls.one1); (focus ((with_reducible refine hce _) <;> (first | (simp (maxDischargeDepth := 9) -implicitDefEqProofs -dsimp only [go_sem, seval, *]; done) | omega))); (focus (first | trivial | with_reducible exact rfl | (simp (maxDischargeDepth := 9) -implicitDefEqProofs -dsimp only [go_sem, seval]; done)))))
      refine loop_next _ _ _ _ (k + 1) ?_; (repeat' simp (maxDischargeDepth := 9) -implicitDefEqProofs -dsimp only [go_sem, seval,  List.map_append, List.map_cons, List.map_nil, *]) <;> (repeat' refine And.intro ?_ ?_) <;> (first | omega | skip)
     ·have g5 := bad1 f hf (g2 hf)
      have hfb : (f != 0) = true := by simpa using hf
      rw [g5]
      clear g1 g2 bad1 g5 hf hxe hx
      repeat' (first | simp (maxDischargeDepth := 9) -implicitDefEqProofs -dsimp only [go_sem, seval, *] | simp (disch := omega) only [wrap64] | ((with_reducible refine Zu ?_ ?_); focus omega) | ((with_reducible refine Zt (fun oF hoF hnF hnF' => ?_)); (try simp only [upd_none, ne_eq, not_and] at hoF)) | ((with_reducible apply ACalls.one1); (focus ((with_reducible refine hce _) <;> (first | (simp (maxDischargeDepth := 9) -implicitDefEqProofs -dsimp only [go_sem, seval, *]; done) | omega))); (focus (first | trivial | with_reducible exact rfl | (simp (maxDischargeDepth := 9) -implicitDefEqProofs -dsimp only [go_sem, seval]; done)))))
      refine fin_eq ?_
      (repeat' simp (maxDischargeDepth := 9) -implicitDefEqProofs -dsimp only [go_sem, seval, List.map_nil, *])
    ·have ek : k = l[i].e.length := by omega
     subst ek
     have g3 := ql _ (Nat.le_refl _)
     obtain ⟨Z, hZ⟩ : ∃ Z, (Q l[i].e.length).1 = Z := ⟨_, rfl⟩
     rw [hZ] at good g3 ⊢
     clear cE qs qb ql q0 qe bad1 hm o1 o2 o3 o4 hZ
     by_cases hh : h = 0
     ·subst hh
      have g4 := good hqk rfl
      have g5 : (P (i + 1)).1.map encT = X.map encT ++ [.agg [.int .i64 4, .int .i64 0, .int .i64 0, .int .i64 0, .slice (Z.map encE) .no, .slice (M.map encT) .no]] := by
       rw [g4, List.map_append, List.map_cons, List.map_nil, encT_mk]
      have g6 : (P (i + 1)).2 = 0 := by rw [g4]
      clear good bad2 hqk g4
      repeat' (first | simp (maxDischargeDepth := 9) -implicitDefEqProofs -dsimp only [go_sem, seval, *] | simp (disch := omega) only [wrap64] | ((with_reducible refine Zv ?_ ?_); focus (first | omega | exact rfl)) | ((with_reducible apply ACalls.one1); (focus ((with_reducible refine hc _) <;> (first | (simp (maxDischargeDepth := 9) -implicitDefEqProofs -dsimp only [go_sem, seval, *]; done) | omega))); (focus (first | trivial | with_reducible exact rfl | (simp (maxDischargeDepth := 9) -implicitDefEqProofs -dsimp only [go_sem, seval]; done)))))
      refine loop_next _ _ _ _ (i + 1) ?_; (repeat' simp (maxDischargeDepth := 9) -implicitDefEqProofs -dsimp only [go_sem, seval, *]) <;> (repeat' refine And.intro ?_ ?_) <;> (first | omega | skip)
      rw [fl_sliceT]
      refine fls_app _ _ ?_
      (repeat' simp (maxDischargeDepth := 9) -implicitDefEqProofs -dsimp only [go_sem, seval, *])
     ·have g5 := bad2 hqk hh
      have hfb : (h != 0) = true := by simpa using hh
      rw [g5]
      clear good bad2 hqk g5 hh
      repeat' (first | simp (maxDischargeDepth := 9) -implicitDefEqProofs -dsimp only [go_sem, seval, *] | simp (disch := omega) only [wrap64] | ((with_reducible apply ACalls.one1); (focus ((with_reducible refine hc _) <;> (first | (simp (maxDischargeDepth := 9) -implicitDefEqProofs -dsimp only [go_sem, seval, *]; done) | omega))); (focus (first | trivial | with_reducible exact rfl | (simp (maxDischargeDepth := 9) -implicitDefEqProofs -dsimp only [go_sem, seval]; done)))))
      refine fin_eq ?_
      (repeat' simp (maxDischargeDepth := 9) -implicitDefEqProofs -dsimp only [go_sem, seval, List.map_nil, *])
  ·have ei : i = l.length := by omega
   subst ei
   rw [hv0 hok]
   obtain ⟨X, hX⟩ : ∃ X, (P l.length).1 = X := ⟨_, rfl⟩
   rw [hX, hok]
   clear ih ps pb pl p0 hv0 hvb hX hok harm hop conE lE
   repeat' simp (maxDischargeDepth := 9) -implicitDefEqProofs -dsimp only [go_sem, seval, *]
   refine fin_eq ?_
   (repeat' simp (maxDischargeDepth := 9) -implicitDefEqProofs -dsimp only [go_sem, seval, *])
set_option maxRecDepth 20000 in
set_option maxHeartbeats 4000000 in
theorem rf_one_step (g : List Sg) (hg : SgOk g) (hgl : g.length ≤ 1000000000000) (clk : Bool) (t : T) (hn : nodesT t ≤ 16777216) (hw : WfT t) (hs : shpT g t = true)
  (hsm : t.op ≠ 3 → ∀ τ, ACalls Try.prog 54 [.slice (g.map encS) .no, .slice (t.l.map encT) .no, .bool clk] τ (fun r σ' => r = .ret (.tup [.slice ((someR g clk t.l 0).1.map encT) .no, .int .i64 (someR g clk t.l 0).2]) ∧ σ' = τ))
  (hcs : t.op = 3 → ∀ w τ, 0 ≤ w → ACalls Try.prog 107 [.slice (g.map encS) .no, .slice (t.l.map encT) .no, .bool clk, .int .i64 w] τ (fun r σ' => r = .ret (.tup [.slice ((someR g clk t.l w).1.map encT) .no, .int .i64 (someR g clk t.l w).2]) ∧ σ' = τ)) (σ : Sig) :
  ACalls Try.prog 94 [.slice (g.map encS) .no, encT t, .bool clk] σ (fun r σ' => r = .ret (.tup [encT (oneR g clk t).1, .int .i64 (oneR g clk t).2]) ∧ σ' = σ) := by
 have h1 := encTs_eq t
 have w8 := (WfT_iff t).1 hw
 have con := fun (x : E) (hx : x ∈ t.e) (hsx : shp g x = true) (W : Int) (h0 : 0 ≤ W) τ => rf_sized g hg x W τ hsx (by have := partE_nodes hx; omega) (w8.2.1 x hx) h0
 have conB := fun (x : E) (hx : x ∈ t.e) (hsx : shp g x = true) τ => rf_bit g hg x τ hsx (by have := partE_nodes hx; omega) (w8.2.1 x hx)
 have hsw := fun (x : E) (hsx : shp g x = true) => size_w hg hsx (w := 0) (by omega)
 obtain ⟨R, hR⟩ : ∃ R, oneR g clk t = R := ⟨_, rfl⟩
 have hbad : ∀ f, (esT g clk t 0 0).2 = f → f ≠ 0 → R = (zT, f) := fun f h hf => by rw [← hR]; exact oneR_bad h hf
 have hat : ∀ es m h L, esT g clk t 0 0 = (es, 0) → labT t 0 es = L → someR g clk t.l L = (m, h) → R = (.mk t.op t.sig t.hi t.lo es m, h) := fun es m h L k1 k2 k3 => by rw [← hR]; exact oneR_at k1 k2 k3
 have hl3 : t.op ≠ 3 → ∀ es, labT t 0 es = 0 := fun h es => by unfold labT; rw [if_neg h]
 rw [hR]
 rw [shpT_eq] at hs
 clear hw hR w8
 by_cases o1 : t.op = 1
 ·rw [if_pos o1] at hs
  simp only [Bool.and_eq_true, List.all_eq_true, decide_eq_true_eq] at hs
  obtain ⟨⟨hs1, hs2, hs3⟩, hpl⟩ := hs
  have e0 : 0 < t.e.length := by omega
  have he : t.e = [t.e[0]] := by
   obtain ⟨x, hx⟩ := len1 hs2
   simp [hx]
  have hsx := hs1 _ (List.getElem_mem e0)
  have hpb := place_bits hg hpl
  obtain ⟨p1, p2, p3, p4, p5⟩ := place_iff.1 hpl
  have p6 : t.sig.toNat < g.length := by omega
  have hgs : g.getD t.sig.toNat zS = g[t.sig.toNat] := by rw [List.getD_eq_getElem?_getD, List.getElem?_eq_getElem p6]; rfl
  have hk : kindOf g t = (g[t.sig.toNat]).kind := by unfold Fil.Sz.kindOf; rw [hgs]
  have c1 := con _ (List.getElem_mem e0) hsx (t.hi - t.lo + 1) (by omega)
  have c2 := hsm (by omega)
  have hr : ∀ V, roleE g clk t 0 = V → V ≠ 0 → R = (zT, V) := fun V h hV => hbad V (by rw [esT_role (by rw [h]; exact hV), h]) hV
  have hok : roleE g clk t 0 = 0 → esT g clk t 0 0 = ([(size t.e[0] (t.hi - t.lo + 1)).1], (size t.e[0] (t.hi - t.lo + 1)).2) := fun h => esT_one he (by unfold wantT; rw [if_pos o1]) h
  have hl0 := hl3 (by omega)
  have hrv : roleE g clk t 0 = if (g[t.sig.toNat]).kind = 1 ∨ clk ≠ decide ((g[t.sig.toNat]).kind = 4) then 85 else 0 := by
   unfold roleE; rw [hk]; simp [o1]
  obtain ⟨⟨m, h⟩, hM⟩ : ∃ M, someR g clk t.l 0 = M := ⟨_, rfl⟩
  rw [hM] at c2
  have hat1 : ∀ es, esT g clk t 0 0 = (es, 0) → R = (.mk t.op t.sig t.hi t.lo es m, h) := fun es k => hat es m h 0 k (hl0 es) hM
  obtain ⟨⟨y, f⟩, hY⟩ : ∃ Y, size t.e[0] (t.hi - t.lo + 1) = Y := ⟨_, rfl⟩
  rw [hY] at c1 hok
  simp only at hok
  have hb1 : roleE g clk t 0 = 0 → f ≠ 0 → R = (zT, f) := fun k1 k2 => hbad f (by rw [hok k1]) k2
  have hg1 : roleE g clk t 0 = 0 → f = 0 → R = (.mk t.op t.sig t.hi t.lo [y] m, h) := fun k1 k2 => hat1 [y] (by rw [hok k1, k2])
  clear con conB hsw hbad hat hl3 hsm hcs hs1 he hsx hgs hk hl0 hM hat1 hY hok
  obtain ⟨K, hK⟩ : ∃ K, (g[t.sig.toNat]).kind = K := ⟨_, rfl⟩
  rw [hK] at hrv
  obtain ⟨c4, hc4⟩ : ∃ c, (K == 4) = c := ⟨_, rfl⟩
  obtain ⟨k1, hk1⟩ : ∃ c, (K == 1) = c := ⟨_, rfl⟩
  have hd4 : decide (K = 4) = c4 := hc4
  have hd1 : K = 1 ↔ k1 = true := by rw [← hk1]; simp
  rw [hd4] at hrv
  have hrv1 : k1 = true ∨ clk ≠ c4 → roleE g clk t 0 = 85 := fun q => by rw [hrv, if_pos (by rw [hd1]; exact q)]
  have hrv2 : ¬ (k1 = true ∨ clk ≠ c4) → roleE g clk t 0 = 0 := fun q => by rw [hrv, if_neg (by rw [hd1]; exact q)]
  clear hd4 hd1 hrv
  have bft : ((false : Bool) == true) = false := rfl
  have btf : ((true : Bool) == false) = false := rfl
  obtain ⟨V, hV⟩ : ∃ V, roleE g clk t 0 = V := ⟨_, rfl⟩
  rw [hV] at hrv1 hrv2 hr hb1 hg1
  replace hr := hr V rfl
  clear hV
  refine calls_x mixed Try.func94 b94 n94 rfl q94 (by simp) ?_; unfold c94 r94
  by_cases hcc : clk = c4
  case neg =>
   have hrv := hrv1 (.inr hcc)
   have hR := hr (by omega)
   subst hrv
   rw [hR, encT_zero]
   clear hr hb1 hg1 hR c1 c2 hrv1 hrv2
   cases clk <;> cases c4
   ·exact (hcc rfl).elim
   ·clear hcc
    repeat' (first | simp (maxDischargeDepth := 9) -implicitDefEqProofs -dsimp only [go_sem, seval, *] | simp (disch := omega) only [wrap64] | ((with_reducible refine Zu ?_ ?_); focus omega) | ((with_reducible refine Zt (fun oF hoF hnF hnF' => ?_)); (try simp only [upd_none, ne_eq, not_and] at hoF)))
    refine fin_eq ?_
    (repeat' simp (maxDischargeDepth := 9) -implicitDefEqProofs -dsimp only [go_sem, seval, *])
   ·clear hcc
    repeat' (first | simp (maxDischargeDepth := 9) -implicitDefEqProofs -dsimp only [go_sem, seval, *] | simp (disch := omega) only [wrap64] | ((with_reducible refine Zu ?_ ?_); focus omega) | ((with_reducible refine Zt (fun oF hoF hnF hnF' => ?_)); (try simp only [upd_none, ne_eq, not_and] at hoF)))
    refine fin_eq ?_
    (repeat' simp (maxDischargeDepth := 9) -implicitDefEqProofs -dsimp only [go_sem, seval, *])
   ·exact (hcc rfl).elim
  subst hcc
  have hcl : (clk != clk) = false := by simp
  cases k1
  case true =>
   have hrv := hrv1 (.inl rfl)
   have hR := hr (by omega)
   subst hrv
   rw [hR, encT_zero]
   clear hr hb1 hg1 hR c1 c2 hrv1 hrv2
   repeat' (first | simp (maxDischargeDepth := 9) -implicitDefEqProofs -dsimp only [go_sem, seval, *] | simp (disch := omega) only [wrap64] | ((with_reducible refine Zu ?_ ?_); focus omega) | ((with_reducible refine Zt (fun oF hoF hnF hnF' => ?_)); (try simp only [upd_none, ne_eq, not_and] at hoF)))
   refine fin_eq ?_
   (repeat' simp (maxDischargeDepth := 9) -implicitDefEqProofs -dsimp only [go_sem, seval, *])
  have hrv := hrv2 (by simp)
  subst hrv
  clear hr hrv1 hrv2
  by_cases hf : f = 0
  ·have hR := hg1 rfl hf
   rw [hR, encT_mk]
   subst hf
   clear hb1 hg1 hR
   repeat' (first | simp (maxDischargeDepth := 9) -implicitDefEqProofs -dsimp only [go_sem, seval, *] | simp (disch := omega) only [wrap64] | ((with_reducible refine Zu ?_ ?_); focus omega) | ((with_reducible refine Zt (fun oF hoF hnF hnF' => ?_)); (try simp only [upd_none, ne_eq, not_and] at hoF)) | ((with_reducible apply ACalls.one1); (focus ((with_reducible refine c2 _) <;> (first | (simp (maxDischargeDepth := 9) -implicitDefEqProofs -dsimp only [go_sem, seval, *]; done) | omega))); (focus (first | trivial | with_reducible exact rfl | (simp (maxDischargeDepth := 9) -implicitDefEqProofs -dsimp only [go_sem, seval]; done)))) | ((with_reducible apply id_one0); (focus (intro tS hS; ((with_reducible refine c1 _) <;> (first | (simp (maxDischargeDepth := 9) -implicitDefEqProofs -dsimp only [go_sem, seval, *]; done) | omega | ((with_reducible refine Sub.get hS ?_); simp (maxDischargeDepth := 9) -implicitDefEqProofs -dsimp only [go_sem, seval, *]; done))))); (focus (first | trivial | (simp (maxDischargeDepth := 9) -implicitDefEqProofs -dsimp only [go_sem, seval, *]; done)))))
   refine fin_eq ?_
   (repeat' simp (maxDischargeDepth := 9) -implicitDefEqProofs -dsimp only [go_sem, seval, List.map_cons, List.map_nil, *])
  ·have hR := hb1 rfl hf
   rw [hR, encT_zero]
   have hfb : (f != 0) = true := by simpa using hf
   clear hb1 hg1 hR c2 hf
   repeat' (first | simp (maxDischargeDepth := 9) -implicitDefEqProofs -dsimp only [go_sem, seval, *] | simp (disch := omega) only [wrap64] | ((with_reducible refine Zu ?_ ?_); focus omega) | ((with_reducible refine Zt (fun oF hoF hnF hnF' => ?_)); (try simp only [upd_none, ne_eq, not_and] at hoF)) | ((with_reducible apply id_one0); (focus (intro tS hS; ((with_reducible refine c1 _) <;> (first | (simp (maxDischargeDepth := 9) -implicitDefEqProofs -dsimp only [go_sem, seval, *]; done) | omega | ((with_reducible refine Sub.get hS ?_); simp (maxDischargeDepth := 9) -implicitDefEqProofs -dsimp only [go_sem, seval, *]; done))))); (focus (first | trivial | (simp (maxDischargeDepth := 9) -implicitDefEqProofs -dsimp only [go_sem, seval, *]; done)))))
   refine fin_eq ?_
   (repeat' simp (maxDischargeDepth := 9) -implicitDefEqProofs -dsimp only [go_sem, seval, *])
 rw [if_neg o1] at hs
 have ob1 : (t.op == 1) = false := by simp [o1]
 have hr0 : roleE g clk t 0 = 0 := by unfold roleE; rw [if_neg (fun q => o1 q.1)]
 simp only [Bool.and_eq_true, List.all_eq_true, decide_eq_true_eq] at hs
 obtain ⟨⟨⟨z1, z2, z3⟩, hs1⟩, hs⟩ := hs
 by_cases o2 : t.op = 2
 ·rw [if_pos o2] at hs
  simp only [Bool.and_eq_true, decide_eq_true_eq] at hs
  have e0 : 0 < t.e.length := by omega
  have he : t.e = [t.e[0]] := by
   obtain ⟨x, hx⟩ := len1 hs.1.1.1
   simp [hx]
  have hsx := hs1 _ (List.getElem_mem e0)
  have c1 := conB _ (List.getElem_mem e0) hsx
  have c2 := hsm (by omega)
  have hok := esT_one (g := g) (clk := clk) (lab := 0) he (show wantT t 0 = -1 by unfold wantT; rw [if_neg (by omega), if_pos o2]) hr0
  have hl0 := hl3 (by omega)
  obtain ⟨⟨m, h⟩, hM⟩ : ∃ M, someR g clk t.l 0 = M := ⟨_, rfl⟩
  rw [hM] at c2
  obtain ⟨⟨y, f⟩, hY⟩ : ∃ Y, size t.e[0] (-1) = Y := ⟨_, rfl⟩
  rw [hY] at c1 hok
  simp only at hok
  have hb1 : f ≠ 0 → R = (zT, f) := fun k2 => hbad f (by rw [hok]) k2
  have hg1 : f = 0 → R = (.mk t.op t.sig t.hi t.lo [y] m, h) := fun k2 => hat [y] m h 0 (by rw [hok, k2]) (hl0 _) hM
  clear con conB hsw hbad hat hl3 hsm hcs hs1 he hsx hl0 hM hY hok hr0 hs
  refine calls_x mixed Try.func94 b94 n94 rfl q94 (by simp) ?_; unfold c94 r94
  by_cases hf : f = 0
  ·have hR := hg1 hf
   rw [hR, encT_mk]
   subst hf
   clear hb1 hg1 hR
   repeat' (first | simp (maxDischargeDepth := 9) -implicitDefEqProofs -dsimp only [go_sem, seval, *] | simp (disch := omega) only [wrap64] | ((with_reducible refine Zu ?_ ?_); focus omega) | ((with_reducible refine Zt (fun oF hoF hnF hnF' => ?_)); (try simp only [upd_none, ne_eq, not_and] at hoF)) | ((with_reducible apply ACalls.one1); (focus ((first | with_reducible refine c1 _ | with_reducible refine c2 _) <;> (first | (simp (maxDischargeDepth := 9) -implicitDefEqProofs -dsimp only [go_sem, seval, *]; done) | omega))); (focus (first | trivial | with_reducible exact rfl | (simp (maxDischargeDepth := 9) -implicitDefEqProofs -dsimp only [go_sem, seval]; done)))))
   refine fin_eq ?_
   (repeat' simp (maxDischargeDepth := 9) -implicitDefEqProofs -dsimp only [go_sem, seval, List.map_cons, List.map_nil, *])
  ·have hR := hb1 hf
   rw [hR, encT_zero]
   have hfb : (f != 0) = true := by simpa using hf
   clear hb1 hg1 hR c2 hf
   repeat' (first | simp (maxDischargeDepth := 9) -implicitDefEqProofs -dsimp only [go_sem, seval, *] | simp (disch := omega) only [wrap64] | ((with_reducible refine Zu ?_ ?_); focus omega) | ((with_reducible refine Zt (fun oF hoF hnF hnF' => ?_)); (try simp only [upd_none, ne_eq, not_and] at hoF)) | ((with_reducible apply ACalls.one1); (focus ((with_reducible refine c1 _) <;> (first | (simp (maxDischargeDepth := 9) -implicitDefEqProofs -dsimp only [go_sem, seval, *]; done) | omega))); (focus (first | trivial | with_reducible exact rfl | (simp (maxDischargeDepth := 9) -implicitDefEqProofs -dsimp only [go_sem, seval]; done)))))
   refine fin_eq ?_
   (repeat' simp (maxDischargeDepth := 9) -implicitDefEqProofs -dsimp only [go_sem, seval, *])
 rw [if_neg o2] at hs
 have ob2 : (t.op == 2) = false := by simp [o2]
 by_cases o3 : t.op = 3
 ·rw [if_pos o3] at hs
  simp only [Bool.and_eq_true, decide_eq_true_eq] at hs
  have e0 : 0 < t.e.length := by omega
  have he : t.e = [t.e[0]] := by
   obtain ⟨x, hx⟩ := len1 hs.1
   simp [hx]
  have hsx := hs1 _ (List.getElem_mem e0)
  have c1 := con _ (List.getElem_mem e0) hsx 0 (by omega)
  have hw0 := hsw _ hsx
  have hok := esT_one (g := g) (clk := clk) (lab := 0) he (show wantT t 0 = 0 by unfold wantT; rw [if_neg (by omega), if_neg (by omega), if_pos o3]) hr0
  have hl0 : ∀ y : E, labT t 0 [y] = y.w := fun y => by unfold labT; rw [if_pos o3]; rfl
  obtain ⟨⟨y, f⟩, hY⟩ : ∃ Y, size t.e[0] 0 = Y := ⟨_, rfl⟩
  rw [hY] at c1 hok hw0
  simp only at hok hw0
  have c2 := fun τ => hcs o3 y.w τ hw0
  have hye := encEs_eq y
  obtain ⟨⟨m, h⟩, hM⟩ : ∃ M, someR g clk t.l y.w = M := ⟨_, rfl⟩
  rw [hM] at c2
  have hb1 : f ≠ 0 → R = (zT, f) := fun k2 => hbad f (by rw [hok]) k2
  have hg1 : f = 0 → R = (.mk t.op t.sig t.hi t.lo [y] m, h) := fun k2 => hat [y] m h y.w (by rw [hok, k2]) (hl0 _) hM
  clear con conB hsw hbad hat hl3 hsm hcs hs1 he hsx hl0 hM hY hok hr0 hs hw0
  refine calls_x mixed Try.func94 b94 n94 rfl q94 (by simp) ?_; unfold c94 r94
  by_cases hf : f = 0
  ·have hR := hg1 hf
   rw [hR, encT_mk]
   subst hf
   clear hb1 hg1 hR hye
   repeat' (first | simp (maxDischargeDepth := 9) -implicitDefEqProofs -dsimp only [go_sem, seval, *] | simp (disch := omega) only [wrap64] | ((with_reducible refine Zu ?_ ?_); focus omega) | ((with_reducible refine Zt (fun oF hoF hnF hnF' => ?_)); (try simp only [upd_none, ne_eq, not_and] at hoF)) | ((with_reducible apply ACalls.one1); (focus ((first | with_reducible refine c1 _ | with_reducible refine c2 _) <;> (first | (simp (maxDischargeDepth := 9) -implicitDefEqProofs -dsimp only [go_sem, seval, *]; done) | omega))); (focus (first | trivial | with_reducible exact rfl | (simp (maxDischargeDepth := 9) -implicitDefEqProofs -dsimp only [go_sem, seval]; done)))))
   refine fin_eq ?_
   (repeat' simp (maxDischargeDepth := 9) -implicitDefEqProofs -dsimp only [go_sem, seval, List.map_cons, List.map_nil, *])
  ·have hR := hb1 hf
   rw [hR, encT_zero]
   have hfb : (f != 0) = true := by simpa using hf
   clear hb1 hg1 hR c2 hf hye
   repeat' (first | simp (maxDischargeDepth := 9) -implicitDefEqProofs -dsimp only [go_sem, seval, *] | simp (disch := omega) only [wrap64] | ((with_reducible refine Zu ?_ ?_); focus omega) | ((with_reducible refine Zt (fun oF hoF hnF hnF' => ?_)); (try simp only [upd_none, ne_eq, not_and] at hoF)) | ((with_reducible apply ACalls.one1); (focus ((with_reducible refine c1 _) <;> (first | (simp (maxDischargeDepth := 9) -implicitDefEqProofs -dsimp only [go_sem, seval, *]; done) | omega))); (focus (first | trivial | with_reducible exact rfl | (simp (maxDischargeDepth := 9) -implicitDefEqProofs -dsimp only [go_sem, seval]; done)))))
   refine fin_eq ?_
   (repeat' simp (maxDischargeDepth := 9) -implicitDefEqProofs -dsimp only [go_sem, seval, *])
 rw [if_neg o3] at hs
 have ob3 : (t.op == 3) = false := by simp [o3]
 split at hs
 case isFalse => simp at hs
 rename_i o5
 simp only [Bool.and_eq_true, decide_eq_true_eq] at hs
 have he : t.e = [] := List.length_eq_zero_iff.1 hs.1
 have c2 := hsm o3
 have hl0 := hl3 o3
 obtain ⟨⟨m, h⟩, hM⟩ : ∃ M, someR g clk t.l 0 = M := ⟨_, rfl⟩
 rw [hM] at c2
 have hR := hat [] m h 0 (esT_none he o1) (hl0 _) hM
 rw [hR, encT_mk]
 clear con conB hsw hbad hat hl3 hsm hcs hs1 hl0 hM hr0 hs hR o1 o2 o3
 refine calls_x mixed Try.func94 b94 n94 rfl q94 (by simp) ?_; unfold c94 r94
 repeat' (first | simp (maxDischargeDepth := 9) -implicitDefEqProofs -dsimp only [go_sem, seval, *] | simp (disch := omega) only [wrap64] | ((with_reducible refine Zt (fun oF hoF hnF hnF' => ?_)); (try simp only [upd_none, ne_eq, not_and] at hoF)) | ((with_reducible apply ACalls.one1); (focus ((with_reducible refine c2 _) <;> (first | (simp (maxDischargeDepth := 9) -implicitDefEqProofs -dsimp only [go_sem, seval, *]; done) | omega))); (focus (first | trivial | with_reducible exact rfl | (simp (maxDischargeDepth := 9) -implicitDefEqProofs -dsimp only [go_sem, seval]; done)))))
 refine fin_eq ?_
 (repeat' simp (maxDischargeDepth := 9) -implicitDefEqProofs -dsimp only [go_sem, seval, List.map_nil, *])
theorem rf_one (g : List Sg) (hg : SgOk g) (hgl : g.length ≤ 1000000000000) (clk : Bool) (t : T) : nodesT t ≤ 16777216 → WfT t →
  (shpT g t = true → ∀ τ, ACalls Try.prog 94 [.slice (g.map encS) .no, encT t, .bool clk] τ (fun r σ' => r = .ret (.tup [encT (oneR g clk t).1, .int .i64 (oneR g clk t).2]) ∧ σ' = τ)) ∧
  ((∀ x ∈ t.l, shpT g x = true) → ∀ τ, ACalls Try.prog 54 [.slice (g.map encS) .no, .slice (t.l.map encT) .no, .bool clk] τ (fun r σ' => r = .ret (.tup [.slice ((someR g clk t.l 0).1.map encT) .no, .int .i64 (someR g clk t.l 0).2]) ∧ σ' = τ)) := by
 refine T.ind (P := fun t => nodesT t ≤ 16777216 → WfT t →
  (shpT g t = true → ∀ τ, ACalls Try.prog 94 [.slice (g.map encS) .no, encT t, .bool clk] τ (fun r σ' => r = .ret (.tup [encT (oneR g clk t).1, .int .i64 (oneR g clk t).2]) ∧ σ' = τ)) ∧
  ((∀ x ∈ t.l, shpT g x = true) → ∀ τ, ACalls Try.prog 54 [.slice (g.map encS) .no, .slice (t.l.map encT) .no, .bool clk] τ (fun r σ' => r = .ret (.tup [.slice ((someR g clk t.l 0).1.map encT) .no, .int .i64 (someR g clk t.l 0).2]) ∧ σ' = τ))) (fun t ih hn hw => ?_) t
 have h := fun (x : T) (hx : x ∈ t.l) => ih x hx (by have := partT_nodes hx; omega) (((WfT_iff t).1 hw).2.2 x hx)
 have hsome : (∀ x ∈ t.l, shpT g x = true) → ∀ τ, ACalls Try.prog 54 [.slice (g.map encS) .no, .slice (t.l.map encT) .no, .bool clk] τ (fun r σ' => r = .ret (.tup [.slice ((someR g clk t.l 0).1.map encT) .no, .int .i64 (someR g clk t.l 0).2]) ∧ σ' = τ) := fun hs τ =>
  rf_some_step g clk t.l (by have := lenL_nodes t; omega) (fun x hx => (h x hx).1 (hs x hx)) τ
 refine ⟨fun hs τ => ?_, hsome⟩
 have hkids := shpT_kids hs
 refine rf_one_step g hg hgl clk t hn hw hs (fun h3 => hsome (hkids.1 h3)) (fun h3 w τ hw0 => ?_) τ
 have ha := hkids.2 h3
 exact rf_cases_step g hg clk t.l (by have := sub_nodesT t; omega) ((WfT_iff t).1 hw).2.2 ha w hw0 (fun x hx => (h x hx).2 fun y hy => arm_shps (ha x hx) hy) τ
theorem rf_some (g : List Sg) (hg : SgOk g) (hgl : g.length ≤ 1000000000000) (clk : Bool) (l : List T) (hn : (l.map nodesT).sum ≤ 16777216) (hw : ∀ t ∈ l, WfT t) (hs : l.all (shpT g) = true) (σ : Sig) :
  ACalls Try.prog 54 [.slice (g.map encS) .no, .slice (l.map encT) .no, .bool clk] σ (fun r σ' => r = .ret (.tup [.slice ((someR g clk l 0).1.map encT) .no, .int .i64 (someR g clk l 0).2]) ∧ σ' = σ) :=
 rf_some_step g clk l (by have := len_sum nodesT_pos l; omega) (fun x hx => (rf_one g hg hgl clk x (by have := mem_sum (f := nodesT) hx; omega) (hw x hx)).1 (List.all_eq_true.1 hs x hx)) σ
end Go.Proofs.Ytdiebjnjhgbklaa

