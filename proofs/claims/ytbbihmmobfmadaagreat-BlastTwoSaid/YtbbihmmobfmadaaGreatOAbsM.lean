/- The abstraction layer, part M: a region whose order is drawn comes to the same end in every order. Over any program. -/
import Derived.Orders
import Derived.Test.YtbbihmmobfmadaaGreatOAbsJ
set_option linter.unusedSimpArgs false
set_option linter.unusedVariables false
namespace Abs
open Go

/-! ### What an operation does hangs on what it looks at alone -/
theorem aval_agree {env env' : Env} {x : AOpnd} (h : ∀ s ∈ slotOf x, lk env' s = lk env s) : aval env' x = aval env x := by
  cases x with
  | t n => exact h n (by simp [slotOf])
  | c v => rfl
  | m n tbl => simp only [aval]; rw [h n (by simp [slotOf])]
theorem avals_agree {env env' : Env} : ∀ {l : List AOpnd}, (∀ s ∈ l.flatMap slotOf, lk env' s = lk env s) → avals env' l = avals env l
  | [], _ => rfl
  | x :: l, h => by
    simp only [avals]
    rw [aval_agree (x := x) (fun s hs => h s (by simp [hs])), avals_agree (l := l) (fun s hs => h s (by
      simp only [List.flatMap_cons, List.mem_append]; exact .inr hs))]
theorem fillA_agree {env env' : Env} : ∀ {ps : List (Nat × Nat × AOpnd)} {cs : List AV}, (∀ s ∈ ps.flatMap (fun p => slotOf p.2.2), lk env' s = lk env s) → fillA env' cs ps = fillA env cs ps
  | [], cs, _ => rfl
  | (off, n, x) :: ps, cs, h => by
    simp only [fillA]
    rw [aval_agree (x := x) (fun s hs => h s (by simp [hs]))]
    cases aval env x with
    | none => rfl
    | some a =>
      simp only []
      split
      · exact fillA_agree (fun s hs => h s (by simp only [List.flatMap_cons, List.mem_append]; exact .inr hs))
      · rfl
theorem bnd_agree {env env' : Env} {x : Option AOpnd} {d hi : Nat} {R R' : Nat → Prop} (h : ∀ s ∈ x.toList.flatMap slotOf, lk env' s = lk env s) (hR : ∀ n, R n = R' n) : bnd env' x d hi R = bnd env x d hi R' := by
  have : R = R' := funext hR
  subst this
  cases x with
  | none => rfl
  | some x =>
    simp only [bnd]
    rw [aval_agree (x := x) (fun s hs => h s (by simpa using hs))]
def mapOf (env : Env) (x : AOpnd) : Option Nat :=
  match aval env x with
  | some (.map o) => some o
  | _ => none
def touchX (nm : Nat) (env : Env) : XOp → Option Nat
  | .mkmap => some nm
  | .look _ _ _ x _ => mapOf env x
  | .mset _ m _ _ => mapOf env m
  | .mdel _ m _ => mapOf env m
  | .lenM x => mapOf env x
  | .isnil _ _ => none
  | .ment _ _ m _ => mapOf env m
  | .eset m _ _ => mapOf env m
  | .tas _ _ _ _ => none
  | .bsliceG _ _ => some nm
  | .vmake _ _ _ _ _ _ => some nm
  | .vapp _ _ s _ => match aval env s with
    | some (.vec o _) => some o
    | some (.pre o _ _) => some o
    | some (.slice _ _) => some nm
    | _ => none
  | .vfrz _ x => match aval env x with
    | some (.vec o _) => some o
    | some (.pre o _ _) => some o
    | _ => none
  | .retok _ _ => some nm
  | .rng _ => none
  | .nxt _ => none
  | .entr _ => none
  | .eqI _ _ _ _ => none
  | .bsliceV _ _ => some nm
def touch (nm : Nat) (env : Env) : AOp → Option Nat
  | .ext x => touchX nm env x
  | .load _ _ x => match aval env x with
    | some (.ptr o _) => some o
    | some (.eptr o _ _) => some o
    | _ => none
  | .store _ p _ => match aval env p with
    | some (.ptr o _) => some o
    | some (.eptr o _ _) => some o
    | _ => none
  | .append _ _ s _ => match aval env s with
    | some (.slice _ (.own o)) => some o
    | some (.slice _ _) => some nm
    | _ => none
  | .alloc _ => some nm
  | .box _ => some nm
  | .mkslice _ _ _ _ _ _ => some nm
  | .appz _ _ _ _ => some nm
  | _ => none
theorem exX_local {nm : Nat} {env env' : Env} {σ σ' : Sig} {R : AV → Option (Nat × AObj) → Prop} {op : XOp} (hd : op.draws = true) (hu : ∀ s ∈ usesX op, lk env' s = lk env s) (ht : ∀ o, touchX nm env op = some o → σ' o = σ o)
    (h : exX (fun k => k nm) env σ R op) : exX (fun k => k nm) env' σ' R op := by
  cases op with
  | mkmap => exact h
  | look kk z c x i =>
    have h0 := aval_agree (env := env) (env' := env') (x := x) (fun s hs => hu s (by simp [usesX, hs]))
    have h1 := aval_agree (env := env) (env' := env') (x := i) (fun s hs => hu s (by simp [usesX, hs]))
    simp only [exX] at h ⊢
    rw [h0, h1]
    cases hp : aval env x with
    | none => rw [hp] at h; exact h
    | some v =>
      rw [hp] at h
      cases v <;> first | exact h | skip
      rename_i o
      have := ht o (by simp [touchX, mapOf, hp])
      simp only [wth] at h ⊢
      rw [this]; exact h
  | mset kk m k v =>
    have h0 := aval_agree (env := env) (env' := env') (x := m) (fun s hs => hu s (by simp [usesX, hs]))
    have h1 := aval_agree (env := env) (env' := env') (x := k) (fun s hs => hu s (by simp [usesX, hs]))
    have h2 := aval_agree (env := env) (env' := env') (x := v) (fun s hs => hu s (by simp [usesX, hs]))
    simp only [exX] at h ⊢
    rw [h0, h1, h2]
    cases hp : aval env m with
    | none => rw [hp] at h; exact h
    | some v =>
      rw [hp] at h
      cases v <;> first | exact h | skip
      rename_i o
      have := ht o (by simp [touchX, mapOf, hp])
      simp only [wth] at h ⊢
      rw [this]; exact h
  | mdel kk m k =>
    have h0 := aval_agree (env := env) (env' := env') (x := m) (fun s hs => hu s (by simp [usesX, hs]))
    have h1 := aval_agree (env := env) (env' := env') (x := k) (fun s hs => hu s (by simp [usesX, hs]))
    simp only [exX] at h ⊢
    rw [h0, h1]
    cases hp : aval env m with
    | none => rw [hp] at h; exact h
    | some v =>
      rw [hp] at h
      cases v <;> first | exact h | skip
      rename_i o
      have := ht o (by simp [touchX, mapOf, hp])
      simp only [wth] at h ⊢
      rw [this]; exact h
  | lenM x =>
    have h0 := aval_agree (env := env) (env' := env') (x := x) (fun s hs => hu s (by simp [usesX, hs]))
    simp only [exX] at h ⊢
    rw [h0]
    cases hp : aval env x with
    | none => rw [hp] at h; exact h
    | some v =>
      rw [hp] at h
      cases v <;> first | exact h | skip
      rename_i o
      have := ht o (by simp [touchX, mapOf, hp])
      simp only [wth] at h ⊢
      rw [this]; exact h
  | isnil ne x =>
    have h0 := aval_agree (env := env) (env' := env') (x := x) (fun s hs => hu s (by simp [usesX, hs]))
    simp only [exX] at h ⊢
    rw [h0]; exact h
  | ment kk z m k =>
    have h0 := aval_agree (env := env) (env' := env') (x := m) (fun s hs => hu s (by simp [usesX, hs]))
    have h1 := aval_agree (env := env) (env' := env') (x := k) (fun s hs => hu s (by simp [usesX, hs]))
    simp only [exX] at h ⊢
    rw [h0, h1]
    cases hp : aval env m with
    | none => rw [hp] at h; exact h
    | some v =>
      rw [hp] at h
      cases v <;> first | exact h | skip
      rename_i o
      have := ht o (by simp [touchX, mapOf, hp])
      simp only [wth] at h ⊢
      rw [this]; exact h
  | eset m s v =>
    have h0 := aval_agree (env := env) (env' := env') (x := m) (fun t hs => hu t (by simp [usesX, hs]))
    have h1 := aval_agree (env := env) (env' := env') (x := s) (fun t hs => hu t (by simp [usesX, hs]))
    have h2 := aval_agree (env := env) (env' := env') (x := v) (fun t hs => hu t (by simp [usesX, hs]))
    simp only [exX] at h ⊢
    rw [h0, h1, h2]
    obtain ⟨mv, e1, k1⟩ := wth_some h
    obtain ⟨sv, e2, k2⟩ := wth_some k1
    obtain ⟨vv, e3, k3⟩ := wth_some k2
    rw [e1, e2, e3]
    simp only [wth]
    clear h k1 k2 hu h0 h1 h2 e2 e3
    revert k3
    intro h
    split at h
    · rename_i o i
      have := ht o (by simp [touchX, mapOf, e1])
      simp only [this]; exact h
    · exact h.elim
  | tas t z c x => simp only [exX] at h ⊢; rw [aval_agree (x := x) hu]; exact h
  | bsliceG sz ps => simp only [exX] at h ⊢; rw [avals_agree (l := ps) hu]; exact h
  | vmake sz by_ z g a b =>
    simp only [exX] at h ⊢
    rw [aval_agree (x := a) (fun s hs => hu s (by simp [usesX, hs])), aval_agree (x := b) (fun s hs => hu s (by simp [usesX, hs]))]
    exact h
  | vapp sz by_ s x =>
    have h0 := aval_agree (env := env) (env' := env') (x := s) (fun t hs => hu t (by simp [usesX, hs]))
    have h1 := aval_agree (env := env) (env' := env') (x := x) (fun t hs => hu t (by simp [usesX, hs]))
    simp only [exX] at h ⊢
    rw [h0, h1]
    obtain ⟨sv, e1, k1⟩ := wth_some h
    obtain ⟨xv, e2, k2⟩ := wth_some k1
    rw [e1, e2]
    simp only [wth]
    clear h k1 hu h0 h1 e2
    revert k2
    intro h
    split at h
    · rename_i o len m t
      have := ht o (by simp [touchX, e1])
      simp only [this]; exact h
    · rename_i o len n m t
      have := ht o (by simp [touchX, e1])
      simp only [this]; exact h
    · exact h
    · exact h.elim
  | vfrz g x =>
    have h0 := aval_agree (env := env) (env' := env') (x := x) hu
    simp only [exX] at h ⊢
    rw [h0]
    cases hp : aval env x with
    | none => rw [hp] at h; exact h
    | some v =>
      rw [hp] at h
      cases v <;> first | exact h | skip
      case vec o len =>
        have := ht o (by simp [touchX, hp])
        simp only [wth] at h ⊢
        rw [this]; exact h
      case pre o len n =>
        have := ht o (by simp [touchX, hp])
        simp only [wth] at h ⊢
        rw [this]; exact h
  | retok sz x => simp only [exX] at h ⊢; rw [aval_agree (x := x) hu]; exact h
  | rng x => simp [XOp.draws] at hd
  | nxt x => simp [XOp.draws] at hd
  | entr x => simp [XOp.draws] at hd
  | bsliceV sz ps => simp [XOp.draws] at hd
  | eqI neg tbl x y =>
    simp only [exX] at h ⊢
    rw [aval_agree (x := x) (fun s hs => hu s (by simp [usesX, hs])), aval_agree (x := y) (fun s hs => hu s (by simp [usesX, hs]))]
    exact h
theorem exOpN_local {nm : Nat} {env env' : Env} {σ σ' : Sig} {R : AV → Option (Nat × AObj) → Prop} {op : AOp} (hd : ∀ x, op = .ext x → x.draws = true) (hu : ∀ s ∈ usesOp op, lk env' s = lk env s) (ht : ∀ o, touch nm env op = some o → σ' o = σ o)
    (h : exOpN nm env σ R op) : exOpN nm env' σ' R op := by
  cases op with
  | alloc z => exact h
  | call f l => exact h
  | panic x => exact h
  | ext x => exact exX_local (nm := nm) (hd x rfl) hu ht h
  | mov x => simp only [exOpN, exOpG] at h ⊢; rw [aval_agree (x := x) hu]; exact h
  | box x => simp only [exOpN, exOpG] at h ⊢; rw [aval_agree (x := x) hu]; exact h
  | boxI x => simp only [exOpN, exOpG] at h ⊢; rw [aval_agree (x := x) hu]; exact h
  | nilchk x => simp only [exOpN, exOpG] at h ⊢; rw [aval_agree (x := x) hu]; exact h
  | un op x => simp only [exOpN, exOpG] at h ⊢; rw [aval_agree (x := x) hu]; exact h
  | conv k x => simp only [exOpN, exOpG] at h ⊢; rw [aval_agree (x := x) hu]; exact h
  | fldA k x => simp only [exOpN, exOpG] at h ⊢; rw [aval_agree (x := x) hu]; exact h
  | fldV g a b x => simp only [exOpN, exOpG] at h ⊢; rw [aval_agree (x := x) hu]; exact h
  | extract x k => simp only [exOpN, exOpG] at h ⊢; rw [aval_agree (x := x) hu]; exact h
  | len x => simp only [exOpN, exOpG] at h ⊢; rw [aval_agree (x := x) hu]; exact h
  | lenS x => simp only [exOpN, exOpG] at h ⊢; rw [aval_agree (x := x) hu]; exact h
  | cap x => simp only [exOpN, exOpG] at h ⊢; rw [aval_agree (x := x) hu]; exact h
  | mkiface t x => simp only [exOpN, exOpG] at h ⊢; rw [aval_agree (x := x) hu]; exact h
  | bslice sz ps => simp only [exOpN, exOpG] at h ⊢; rw [avals_agree (l := ps) hu]; exact h
  | min ps => simp only [exOpN, exOpG] at h ⊢; rw [avals_agree (l := ps) hu]; exact h
  | max ps => simp only [exOpN, exOpG] at h ⊢; rw [avals_agree (l := ps) hu]; exact h
  | build z ps => simp only [exOpN, exOpG] at h ⊢; rw [fillA_agree (ps := ps) hu]; exact h
  | pick c a b =>
    simp only [exOpN, exOpG] at h ⊢
    rw [aval_agree (x := c) (fun s hs => hu s (by simp [usesOp, hs])), aval_agree (x := a) (fun s hs => hu s (by simp [usesOp, hs])), aval_agree (x := b) (fun s hs => hu s (by simp [usesOp, hs]))]
    exact h
  | bin op t a b =>
    simp only [exOpN, exOpG] at h ⊢
    rw [aval_agree (x := a) (fun s hs => hu s (by simp [usesOp, hs])), aval_agree (x := b) (fun s hs => hu s (by simp [usesOp, hs]))]
    exact h
  | eqs n ks a b =>
    simp only [exOpN, exOpG] at h ⊢
    rw [aval_agree (x := a) (fun s hs => hu s (by simp [usesOp, hs])), aval_agree (x := b) (fun s hs => hu s (by simp [usesOp, hs]))]
    exact h
  | idxS sz a b =>
    simp only [exOpN, exOpG] at h ⊢
    rw [aval_agree (x := a) (fun s hs => hu s (by simp [usesOp, hs])), aval_agree (x := b) (fun s hs => hu s (by simp [usesOp, hs]))]
    exact h
  | idxR sz l a b =>
    simp only [exOpN, exOpG] at h ⊢
    rw [aval_agree (x := a) (fun s hs => hu s (by simp [usesOp, hs])), aval_agree (x := b) (fun s hs => hu s (by simp [usesOp, hs]))]
    exact h
  | idxV g sz l a b =>
    simp only [exOpN, exOpG] at h ⊢
    rw [aval_agree (x := a) (fun s hs => hu s (by simp [usesOp, hs])), aval_agree (x := b) (fun s hs => hu s (by simp [usesOp, hs]))]
    exact h
  | mkslice sz by_ z g a b =>
    simp only [exOpN, exOpG] at h ⊢
    rw [aval_agree (x := a) (fun s hs => hu s (by simp [usesOp, hs])), aval_agree (x := b) (fun s hs => hu s (by simp [usesOp, hs]))]
    exact h
  | mkfn f a b =>
    simp only [exOpN, exOpG] at h ⊢
    rw [avals_agree (l := a) (fun s hs => hu s (by simp only [usesOp, List.mem_append]; exact .inl hs)), avals_agree (l := b) (fun s hs => hu s (by simp only [usesOp, List.mem_append]; exact .inr hs))]
    exact h
  | slc sz x a b c =>
    simp only [exOpN, exOpG] at h ⊢
    have h0 := aval_agree (env := env) (env' := env') (x := x) (fun s hs => hu s (by simp only [usesOp, List.mem_append]; exact .inl hs))
    have ha : ∀ s ∈ a.toList.flatMap slotOf, lk env' s = lk env s := fun s hs => hu s (by simp only [usesOp, List.mem_append, List.flatMap_append]; exact .inr (.inl (.inl hs)))
    have hb : ∀ s ∈ b.toList.flatMap slotOf, lk env' s = lk env s := fun s hs => hu s (by simp only [usesOp, List.mem_append, List.flatMap_append]; exact .inr (.inl (.inr hs)))
    have hc : ∀ s ∈ c.toList.flatMap slotOf, lk env' s = lk env s := fun s hs => hu s (by simp only [usesOp, List.mem_append, List.flatMap_append]; exact .inr (.inr hs))
    rw [h0]
    cases hx : aval env x with
    | none => rw [hx] at h; exact h
    | some v =>
      rw [hx] at h
      cases v <;> first | exact h | skip
      case vec o len => exact ⟨h.1, Eq.mpr (bnd_agree hb fun n => rfl) h.2⟩
      case pre o len n => exact ⟨h.1, Eq.mpr (bnd_agree hb fun n => rfl) h.2⟩
      rename_i l t
      refine ⟨h.1, ?_⟩
      have h2 := h.2
      refine Eq.mpr (bnd_agree hb fun n => bnd_agree ha fun m => ?_) h2
      cases c with
      | none => rfl
      | some c =>
        simp only []
        rw [aval_agree (x := c) (fun s hs => hc s (by simpa using hs))]
  | appz sz by_ a b =>
    simp only [exOpN, exOpG] at h ⊢
    rw [aval_agree (x := a) (fun s hs => hu s (by simp [usesOp, hs])), aval_agree (x := b) (fun s hs => hu s (by simp [usesOp, hs]))]
    exact h
  | slcN sz x a b c =>
    simp only [exOpN, exOpG] at h ⊢
    have h0 := aval_agree (env := env) (env' := env') (x := x) (fun s hs => hu s (by simp only [usesOp, List.mem_append]; exact .inl hs))
    have ha : ∀ s ∈ a.toList.flatMap slotOf, lk env' s = lk env s := fun s hs => hu s (by simp only [usesOp, List.mem_append, List.flatMap_append]; exact .inr (.inl (.inl hs)))
    have hb : ∀ s ∈ b.toList.flatMap slotOf, lk env' s = lk env s := fun s hs => hu s (by simp only [usesOp, List.mem_append, List.flatMap_append]; exact .inr (.inl (.inr hs)))
    rw [h0]
    cases hx : aval env x with
    | none => rw [hx] at h; exact h
    | some v =>
      rw [hx] at h
      simp only [wth] at h ⊢
      split at h
      · exact ⟨h.1, Eq.mpr (bnd_agree hb fun n => bnd_agree ha fun m => rfl) h.2⟩
      · exact h.elim
  | slcR sz x a b c =>
    simp only [exOpN, exOpG] at h ⊢
    have h0 := aval_agree (env := env) (env' := env') (x := x) (fun s hs => hu s (by simp only [usesOp, List.mem_append]; exact .inl hs))
    have hb : ∀ s ∈ b.toList.flatMap slotOf, lk env' s = lk env s := fun s hs => hu s (by simp only [usesOp, List.mem_append, List.flatMap_append]; exact .inr (.inl (.inr hs)))
    rw [h0]
    cases hx : aval env x with
    | none => rw [hx] at h; exact h
    | some v =>
      rw [hx] at h
      simp only [wth] at h ⊢
      split at h
      · exact ⟨h.1, Eq.mpr (bnd_agree hb fun n => rfl) h.2⟩
      · exact h.elim
  | load g n x =>
    have h0 := aval_agree (env := env) (env' := env') (x := x) hu
    simp only [exOpN, exOpG] at h ⊢
    rw [h0]
    cases hx : aval env x with
    | none => rw [hx] at h; exact h
    | some v =>
      rw [hx] at h
      cases v <;> first | exact h | skip
      all_goals
        first
          | (rename_i o _
             have := ht o (by simp [touch, hx])
             simp only [wth] at h ⊢
             rw [this]; exact h)
          | (rename_i o _ _
             have := ht o (by simp [touch, hx])
             simp only [wth] at h ⊢
             rw [this]; exact h)
  | store n p x =>
    have h0 := aval_agree (env := env) (env' := env') (x := p) (fun s hs => hu s (by simp [usesOp, hs]))
    have h1 := aval_agree (env := env) (env' := env') (x := x) (fun s hs => hu s (by simp [usesOp, hs]))
    simp only [exOpN, exOpG] at h ⊢
    rw [h0, h1]
    cases hp : aval env p with
    | none => rw [hp] at h; exact h
    | some v =>
      rw [hp] at h
      cases v <;> first | exact h | skip
      all_goals
        first
          | (rename_i o _
             have := ht o (by simp [touch, hp])
             simp only [wth] at h ⊢
             rw [this]; exact h)
          | (rename_i o _ _
             have := ht o (by simp [touch, hp])
             simp only [wth] at h ⊢
             rw [this]; exact h)
  | append sz by_ s x =>
    have h0 := aval_agree (env := env) (env' := env') (x := s) (fun s hs => hu s (by simp [usesOp, hs]))
    have h1 := aval_agree (env := env) (env' := env') (x := x) (fun s hs => hu s (by simp [usesOp, hs]))
    simp only [exOpN, exOpG] at h ⊢
    rw [h0, h1]
    cases hp : aval env s with
    | none => rw [hp] at h; exact h
    | some v =>
      rw [hp] at h
      cases v <;> first | exact h | skip
      rename_i l t
      generalize aval env x = bx at h ⊢
      cases bx with
      | none => exact h
      | some v =>
        cases v <;> first | exact h | skip
        cases t with
        | own o =>
          have := ht o (by simp [touch, hp])
          simp only [wth] at h ⊢
          rw [this]; exact h
        | no => exact h
        | nil => exact h
        | full => exact h

/-! ### ... and it is one thing -/
def EffOk (nm : Nat) (σ : Sig) (t : Option Nat) (w : Bool) (e : Option (Nat × AObj)) : Prop :=
  (e = none ∧ (w = true → t = none ∨ t = some nm)) ∨ w = true ∧ ∃ o x, e = some (o, x) ∧ t = some o ∧ (o = nm ∨ σ o ≠ none)
def Det (E : Option (Nat × AObj) → Prop) (T : (AV → Option (Nat × AObj) → Prop) → Prop) : Prop := ∀ R, T R → ∃ v e, R v e ∧ E e ∧ T (fun a e' => a = v ∧ e' = e)
section
variable {E : Option (Nat × AObj) → Prop}
theorem det_R (v : AV) (e : Option (Nat × AObj)) (h : E e) : Det E (fun R => R v e) := fun _ hR => ⟨v, e, hR, h, rfl, rfl⟩
theorem det_F : Det E (fun _ => False) := fun _ h => h.elim
theorem det_wth {x : Option AV} {f : AV → (AV → Option (Nat × AObj) → Prop) → Prop} (h : ∀ a, x = some a → Det E (f a)) : Det E (fun R => wth x (fun a => f a R)) := fun R hR => by
  obtain ⟨a, h1, h2⟩ := wth_some hR
  obtain ⟨v, e, q1, q2, q3⟩ := h a h1 R h2
  exact ⟨v, e, q1, q2, by rw [h1]; exact q3⟩
theorem det_wthL {x : Option (List AV)} {f : List AV → (AV → Option (Nat × AObj) → Prop) → Prop} (h : ∀ a, x = some a → Det E (f a)) : Det E (fun R => wthL x (fun a => f a R)) := fun R hR => by
  obtain ⟨a, h1, h2⟩ := wthL_some hR
  obtain ⟨v, e, q1, q2, q3⟩ := h a h1 R h2
  exact ⟨v, e, q1, q2, by rw [h1]; exact q3⟩
theorem det_wth' {x : Option AV} {f : AV → (AV → Option (Nat × AObj) → Prop) → Prop} (h : ∀ a, Det E (f a)) : Det E (fun R => wth x (fun a => f a R)) := det_wth fun a _ => h a
theorem det_wthL' {x : Option (List AV)} {f : List AV → (AV → Option (Nat × AObj) → Prop) → Prop} (h : ∀ a, Det E (f a)) : Det E (fun R => wthL x (fun a => f a R)) := det_wthL fun a _ => h a
theorem det_req {p : Prop} {f : (AV → Option (Nat × AObj) → Prop) → Prop} (h : p → Det E f) : Det E (fun R => req p (f R)) := fun R hR => by
  obtain ⟨v, e, q1, q2, q3⟩ := h hR.1 R hR.2
  exact ⟨v, e, q1, q2, hR.1, q3⟩
theorem det_ifnil {m : List AV} {f g : (AV → Option (Nat × AObj) → Prop) → Prop} (hf : Det E f) (hg : Det E g) : Det E (fun R => ifnil m (f R) (g R)) := fun R hR => by
  by_cases hm : m = []
  · obtain ⟨v, e, q1, q2, q3⟩ := hf R (hR.1 hm)
    exact ⟨v, e, q1, q2, fun _ => q3, fun h => absurd hm h⟩
  · obtain ⟨v, e, q1, q2, q3⟩ := hg R (hR.2 hm)
    exact ⟨v, e, q1, q2, fun h => absurd h hm, fun _ => q3⟩
theorem det_bnd {env : Env} {x : Option AOpnd} {d hi : Nat} {f : Nat → (AV → Option (Nat × AObj) → Prop) → Prop} (h : ∀ n, Det E (f n)) : Det E (fun R => bnd env x d hi (fun n => f n R)) := by
  cases x with
  | none => exact h d
  | some o =>
    refine det_wth (fun a _ => ?_)
    cases a <;> first | exact det_F | skip
    exact det_req (fun _ => h _)
end
theorem det_lkm {E : Option (Nat × AObj) → Prop} {α : Type} {x : Option α} {f : α → (AV → Option (Nat × AObj) → Prop) → Prop} (h : ∀ a, Det E (f a)) : Det E (fun R => lkm x (fun a => f a R)) := fun R hR => by
  obtain ⟨a, h1, h2⟩ := lkm_some hR
  obtain ⟨v, e, q1, q2, q3⟩ := h a R h2
  exact ⟨v, e, q1, q2, by rw [h1]; exact q3⟩
theorem exX_det (nm : Nat) (env : Env) (σ : Sig) (op : XOp) (hd : op.draws = true) : Det (EffOk nm σ (touchX nm env op) (isW (.ext op))) (fun R => exX (fun k => k nm) env σ R op) := by
  have n0 : ∀ {t}, EffOk nm σ t false none := fun {t} => .inl ⟨rfl, fun h => by simp at h⟩
  cases op with
  | mkmap => exact det_R _ _ (.inr ⟨rfl, nm, _, rfl, rfl, .inl rfl⟩)
  | look kk z c x i =>
    refine det_wth' fun m => det_wth' fun k => ?_
    cases m <;> first | exact det_F | skip
    · rename_i o
      intro R hR
      simp only [] at hR ⊢
      cases hso : σ o with
      | none => simp only [hso] at hR
      | some y =>
        simp only [hso] at hR ⊢
        cases y <;> first | exact hR.elim | skip
        exact det_req (fun _ => det_lkm fun v => det_R _ none n0) R hR
    · exact det_req fun _ => det_R _ none n0
  | mset kk m k v =>
    refine det_wth fun m' hm => det_wth' fun k => det_wth' fun v => ?_
    cases m' <;> first | exact det_F | skip
    rename_i o
    have ht : touchX nm env (.mset kk m ‹_› ‹_›) = some o := by simp [touchX, mapOf, hm]
    intro R hR
    simp only [] at hR ⊢
    cases hso : σ o with
    | none => simp only [hso] at hR
    | some y =>
      simp only [hso] at hR ⊢
      cases y <;> first | exact hR.elim | skip
      exact det_req (fun _ => det_lkm fun v => det_R _ _ (.inr ⟨rfl, o, _, rfl, by simp [touchX, mapOf, hm], .inr (by rw [hso]; simp)⟩)) R hR
  | mdel kk m k =>
    refine det_wth fun m' hm => det_wth' fun k => ?_
    cases m' <;> first | exact det_F | skip
    rename_i o
    intro R hR
    simp only [] at hR ⊢
    cases hso : σ o with
    | none => simp only [hso] at hR
    | some y =>
      simp only [hso] at hR ⊢
      cases y <;> first | exact hR.elim | skip
      exact det_req (fun _ => det_lkm fun v => det_R _ _ (.inr ⟨rfl, o, _, rfl, by simp [touchX, mapOf, hm], .inr (by rw [hso]; simp)⟩)) R hR
  | lenM x =>
    refine det_wth' fun m => ?_
    cases m <;> first | exact det_F | skip
    · rename_i o
      intro R hR
      simp only [] at hR ⊢
      cases hso : σ o with
      | none => simp only [hso] at hR
      | some y =>
        simp only [hso] at hR ⊢
        cases y <;> first | exact hR.elim | skip
        exact det_R _ none n0 R hR
    · exact det_R _ none n0
  | isnil ne x => simp [XOp.draws] at hd
  | rng x => simp [XOp.draws] at hd
  | nxt x => simp [XOp.draws] at hd
  | entr x => simp [XOp.draws] at hd
  | bsliceV sz ps => simp [XOp.draws] at hd
  | eqI neg tbl x y =>
    refine det_wth' fun a => det_wth' fun b => ?_
    intro R hR
    split at hR
    · rename_i t u t' v
      by_cases htt : t = t'
      · rw [if_pos htt] at hR
        obtain ⟨kk, h1, h2⟩ := lkm_some hR
        obtain ⟨r, h3, h4⟩ := lkm_some h2
        refine ⟨_, _, h4, n0, ?_⟩
        simp only [if_pos htt, h1, lkm, h3, and_self]
      · rw [if_neg htt] at hR
        refine ⟨_, _, hR, n0, ?_⟩
        simp only [if_neg htt, and_self]
    · exact hR.elim
  | ment kk z m k =>
    refine det_wth fun m' hm => det_wth' fun k => ?_
    cases m' <;> first | exact det_F | skip
    rename_i o
    intro R hR
    simp only [] at hR ⊢
    cases hso : σ o with
    | none => simp only [hso] at hR
    | some y =>
      simp only [hso] at hR ⊢
      cases y <;> first | exact hR.elim | skip
      rename_i d l
      cases d with
      | false => exact hR.elim
      | true => exact det_req (fun _ => det_lkm fun v => det_R _ _ (.inr ⟨rfl, o, _, rfl, by simp [touchX, mapOf, hm], .inr (by rw [hso]; simp)⟩)) R hR
  | eset m s v =>
    refine det_wth fun m' hm => det_wth' fun s' => det_wth' fun v => ?_
    intro R hR
    split at hR
    · rename_i o i
      cases hso : σ o with
      | none => simp only [hso] at hR
      | some y =>
        simp only [hso] at hR ⊢
        cases y <;> first | exact hR.elim | skip
        rename_i d l
        cases d with
        | false => exact hR.elim
        | true => exact det_req (fun _ => det_R _ _ (.inr ⟨rfl, o, _, rfl, by simp [touchX, mapOf, hm], .inr (by rw [hso]; simp)⟩)) R hR
    · exact hR.elim
  | tas t z c x =>
    refine det_wth' fun a => ?_
    cases a <;> first | exact det_F | skip
    · rename_i t' v
      intro R hR
      by_cases htt : t' = t
      · exact ⟨_, _, hR.1 htt, n0, fun _ => ⟨rfl, rfl⟩, fun h => absurd htt h⟩
      · obtain ⟨q1, q2⟩ := hR.2 htt
        exact ⟨_, _, q2, n0, fun h => absurd h htt, fun _ => ⟨q1, rfl, rfl⟩⟩
    · exact det_req fun _ => det_R _ none n0
  | bsliceG sz ps => exact det_wthL' fun l => det_req fun _ => det_R _ _ (.inr ⟨rfl, nm, _, rfl, rfl, .inl rfl⟩)
  | vmake sz by_ z g n c =>
    refine det_wth' fun a => det_wth' fun b => det_wth' fun e => ?_
    intro R hR
    split at hR
    · exact ⟨_, _, hR.2, .inr ⟨rfl, nm, _, rfl, rfl, .inl rfl⟩, hR.1, rfl, rfl⟩
    · exact hR.elim
  | vapp sz by_ s x =>
    refine det_wth fun a ha => det_wth' fun b => ?_
    intro R hR
    split at hR
    · rename_i o len m t
      cases hso : σ o with
      | none => simp only [hso] at hR
      | some y =>
        simp only [hso] at hR ⊢
        cases y <;> first | exact hR.elim | skip
        exact det_req (fun _ => det_R _ _ (.inr ⟨rfl, o, _, rfl, by simp [touchX, ha], .inr (by rw [hso]; simp)⟩)) R hR
    · rename_i o len n m t
      cases hso : σ o with
      | none => simp only [hso] at hR
      | some y =>
        simp only [hso] at hR ⊢
        cases y <;> first | exact hR.elim | skip
        obtain ⟨q1, q2⟩ := hR
        by_cases hc : len + m.length ≤ n
        · rw [if_pos hc] at q2
          refine ⟨_, _, q2, .inr ⟨rfl, o, _, rfl, by simp [touchX, ha], .inr (by rw [hso]; simp)⟩, q1, ?_⟩
          rw [if_pos hc]; exact ⟨rfl, rfl⟩
        · rw [if_neg hc] at q2
          refine ⟨_, _, q2, .inr ⟨rfl, o, _, rfl, by simp [touchX, ha], .inr (by rw [hso]; simp)⟩, q1, ?_⟩
          rw [if_neg hc]; exact ⟨rfl, rfl⟩
    · rename_i l t m t2
      obtain ⟨q1, q2⟩ := hR
      cases t with
      | no => exact q2.elim
      | own o => exact q2.elim
      | nil =>
        by_cases hm : m = []
        · exact ⟨_, _, q2.1 hm, .inl ⟨rfl, fun _ => .inr (by simp [touchX, ha])⟩, q1, fun _ => ⟨rfl, rfl⟩, fun h => absurd hm h⟩
        · exact ⟨_, _, q2.2 hm, .inr ⟨rfl, nm, _, rfl, by simp [touchX, ha], .inl rfl⟩, q1, fun h => absurd h hm, fun _ => ⟨rfl, rfl⟩⟩
      | full =>
        by_cases hm : m = []
        · exact ⟨_, _, q2.1 hm, .inl ⟨rfl, fun _ => .inr (by simp [touchX, ha])⟩, q1, fun _ => ⟨rfl, rfl⟩, fun h => absurd hm h⟩
        · exact ⟨_, _, q2.2 hm, .inr ⟨rfl, nm, _, rfl, by simp [touchX, ha], .inl rfl⟩, q1, fun h => absurd h hm, fun _ => ⟨rfl, rfl⟩⟩
    · exact hR.elim
  | vfrz g x => simp [XOp.draws] at hd
  | retok sz x =>
    refine det_wth' fun a => ?_
    intro R hR
    split at hR
    · exact det_req (fun _ => det_R _ _ (.inr ⟨rfl, nm, _, rfl, rfl, .inl rfl⟩)) R hR
    · exact det_R _ _ (.inr ⟨rfl, nm, _, rfl, rfl, .inl rfl⟩) R hR
    · exact hR.elim
theorem exOpN_det (nm : Nat) (env : Env) (σ : Sig) (op : AOp) (hd : ∀ x, op = .ext x → x.draws = true) : Det (EffOk nm σ (touch nm env op) (isW op)) (fun R => exOpN nm env σ R op) := by
  have n0 : ∀ {t}, EffOk nm σ t false none := fun {t} => .inl ⟨rfl, fun h => by simp at h⟩
  cases op with
  | mov x => exact det_wth' fun a => det_R a none n0
  | pick c a b =>
    refine det_wth' fun p => ?_
    cases p <;> first | exact det_F | skip
    rename_i q
    cases q
    · exact det_wth' fun a => det_R a none n0
    · exact det_wth' fun a => det_R a none n0
  | alloc z => exact det_R _ _ (.inr ⟨rfl, nm, _, rfl, rfl, .inl rfl⟩)
  | box x => exact det_wth' fun a => det_R _ _ (.inr ⟨rfl, nm, _, rfl, rfl, .inl rfl⟩)
  | boxI x => exact det_wth' fun a => det_req fun _ => det_R _ none n0
  | build z ps =>
    show Det _ (fun R => match fillA env z ps with | some cs => R (.agg cs) none | none => False)
    cases fillA env z ps with
    | none => exact det_F
    | some cs => exact det_R _ none n0
  | bslice sz ps => exact det_wthL' fun l => det_req fun _ => det_R _ none n0
  | load g n x =>
    refine det_wth' fun p => ?_
    cases p <;> first | exact det_F | skip
    case ptr o off =>
      show Det _ (fun R => match σ o with | some (.cells cs) => req (off + n ≤ cs.length) (wth (mkv g ((cs.drop off).take n)) fun a => R a none) | _ => False)
      cases σ o with
      | none => exact det_F
      | some y =>
        cases y <;> first | exact det_F | exact det_req fun _ => det_wth' fun a => det_R a none n0
    case eptr o m off =>
      show Det _ (fun R => match σ o with | some (.vec _ m' cs) => req (m = m' ∧ off + n ≤ cs.length) (wth (mkv g ((cs.drop off).take n)) fun a => R a none) | _ => False)
      cases σ o with
      | none => exact det_F
      | some y =>
        cases y <;> first | exact det_F | exact det_req fun _ => det_wth' fun a => det_R a none n0
    case cptr cs => exact det_req fun _ => det_wth' fun a => det_R a none n0
  | store n p x =>
    refine det_wth fun p' hp => det_wth' fun a => ?_
    cases p' <;> first | exact det_F | skip
    case ptr o off =>
      have ht : touch nm env (.store n p x) = some o := by simp [touch, hp]
      cases hso : σ o with
      | none =>
        intro R hR
        simp only [hso] at hR
      | some y =>
        intro R hR
        simp only [hso] at hR ⊢
        cases y <;> first | exact hR.elim | skip
        exact ⟨_, _, hR.2, .inr ⟨rfl, o, _, rfl, ht, .inr (by rw [hso]; simp)⟩, hR.1, rfl, rfl⟩
    case eptr o m off =>
      have ht : touch nm env (.store n p x) = some o := by simp [touch, hp]
      cases hso : σ o with
      | none =>
        intro R hR
        simp only [hso] at hR
      | some y =>
        intro R hR
        simp only [hso] at hR ⊢
        cases y <;> first | exact hR.elim | skip
        exact ⟨_, _, hR.2, .inr ⟨rfl, o, _, rfl, ht, .inr (by rw [hso]; simp)⟩, hR.1, rfl, rfl⟩
  | nilchk x =>
    refine det_wth' fun p => ?_
    cases p <;> first | exact det_F | exact det_R _ none n0
  | bin op tb x y => exact det_wth' fun a => det_wth' fun b => det_wth' fun r => det_R r none n0
  | eqs neg ks x y =>
    refine det_wth' fun a => det_wth' fun b => ?_
    cases a <;> cases b <;> first | exact det_F | skip
    rename_i l m
    show Det _ (fun R => match eqCells ks l m with | some r => R (.bool (if neg then !r else r)) none | none => False)
    cases eqCells ks l m with
    | none => exact det_F
    | some r => exact det_R _ none n0
  | un op x =>
    refine det_wth' fun a => ?_
    cases op <;> cases a <;> first | exact det_F | exact det_R _ none n0 | (rename_i k n; cases k <;> first | exact det_F | exact det_R _ none n0)
  | conv k x =>
    refine det_wth' fun a => ?_
    cases a <;> first | exact det_F | exact det_R _ none n0
  | mkfn f a b => exact det_wthL' fun l => det_wthL' fun m => det_R _ none n0
  | fldA k x =>
    refine det_wth' fun a => ?_
    cases a <;> first | exact det_F | exact det_R _ none n0
  | fldV g o n x =>
    refine det_wth' fun a => ?_
    cases a <;> first | exact det_F | exact det_req fun _ => det_wth' fun a => det_R a none n0
  | idxS sz x i =>
    refine det_wth' fun a => det_wth' fun b => ?_
    cases a <;> cases b <;> first | exact det_F | exact det_req fun _ => det_wth' fun e => det_req fun _ => det_R _ none n0 | exact det_req fun _ => det_R _ none n0
  | idxR sz l x i =>
    refine det_wth' fun a => det_wth' fun b => ?_
    cases a <;> cases b <;> first | exact det_F | exact det_req fun _ => det_R _ none n0
  | idxV g sz l x i =>
    refine det_wth' fun a => det_wth' fun b => ?_
    cases a <;> cases b <;> first | exact det_F | exact det_req fun _ => det_wth' fun e => det_R _ none n0
  | slc sz x lo hi mx =>
    refine det_wth' fun a => ?_
    cases a <;> first | exact det_F | skip
    case vec o len => exact det_req fun _ => det_bnd fun h => det_R _ none n0
    case pre o len n => exact det_req fun _ => det_bnd fun h => det_R _ none n0
    refine det_req fun _ => det_bnd fun h => det_bnd fun l => ?_
    cases mx with
    | none => exact det_R _ none n0
    | some m =>
      refine det_req fun _ => det_wth' fun v => ?_
      cases v <;> first | exact det_F | exact det_req fun _ => det_R _ none n0
  | extract x i =>
    refine det_wth' fun a => ?_
    cases a <;> first | exact det_F | exact det_wth' fun a => det_R a none n0
  | call f l => exact det_F
  | len x =>
    refine det_wth' fun a => ?_
    cases a <;> first | exact det_F | exact det_R _ none n0
  | lenS x =>
    refine det_wth' fun a => ?_
    cases a <;> first | exact det_F | exact det_R _ none n0
  | cap x =>
    refine det_wth' fun a => ?_
    cases a <;> first | exact det_F | skip
    rename_i l t
    cases t <;> first | exact det_F | exact det_R _ none n0
  | append sz by_ s x =>
    refine det_wth fun a ha => det_wth' fun b => ?_
    cases a <;> cases b <;> first | exact det_F | skip
    rename_i l t m t2
    refine det_req fun _ => ?_
    cases t with
    | no => exact det_F
    | nil => exact det_ifnil (det_R _ none (.inl ⟨rfl, fun _ => .inr (by simp [touch, ha])⟩)) (det_R _ _ (.inr ⟨rfl, nm, _, rfl, by simp [touch, ha], .inl rfl⟩))
    | full => exact det_ifnil (det_R _ none (.inl ⟨rfl, fun _ => .inr (by simp [touch, ha])⟩)) (det_R _ _ (.inr ⟨rfl, nm, _, rfl, by simp [touch, ha], .inl rfl⟩))
    | own o => exact det_req fun ho => det_R _ _ (.inr ⟨rfl, o, _, rfl, by simp [touch, ha], .inr (by rw [ho]; simp)⟩)
  | min xs =>
    refine det_wthL' fun l => ?_
    show Det _ (fun R => match minI l with | some r => R (.int .i64 r) none | none => False)
    cases minI l with
    | none => exact det_F
    | some r => exact det_R _ none n0
  | max xs =>
    refine det_wthL' fun l => ?_
    show Det _ (fun R => match maxI l with | some r => R (.int .i64 r) none | none => False)
    cases maxI l with
    | none => exact det_F
    | some r => exact det_R _ none n0
  | mkslice sz by_ z g n c =>
    refine det_wth' fun a => det_wth' fun b => det_wth' fun e => ?_
    intro R hR
    split at hR
    · exact ⟨_, _, hR.2, .inr ⟨rfl, nm, _, rfl, rfl, .inl rfl⟩, hR.1, rfl, rfl⟩
    · exact hR.elim
  | mkiface t x => exact det_wth' fun a => det_R _ none n0
  | appz sz by_ s x =>
    refine det_wth' fun a => det_wth' fun b => ?_
    intro R hR
    split at hR
    · exact ⟨_, _, hR.2, .inr ⟨rfl, nm, _, rfl, rfl, .inl rfl⟩, hR.1, rfl, rfl⟩
    · exact hR.elim
  | slcN sz x lo hi mx =>
    refine det_wth' fun a => ?_
    intro R hR
    split at hR
    · have := det_bnd (E := EffOk nm σ (touch nm env (.slcN sz x lo hi mx)) (isW (.slcN sz x lo hi mx))) (env := env) (x := hi) (d := 0) (hi := 0) (f := fun _ R => bnd env lo 0 0 fun _ => R (.slice [] .nil) none) (fun h => det_bnd fun l => det_R _ none n0) R hR.2
      obtain ⟨v, e, h1, h2, h3⟩ := this
      exact ⟨v, e, h1, h2, hR.1, h3⟩
    · exact hR.elim
  | slcR sz x lo hi mx =>
    refine det_wth' fun a => ?_
    intro R hR
    split at hR
    · rename_i o len
      have := det_bnd (E := EffOk nm σ (touch nm env (.slcR sz x lo hi mx)) (isW (.slcR sz x lo hi mx))) (env := env) (x := hi) (d := len) (hi := len) (f := fun h R => req (h = 0) (R (.slice [] (.own o)) none)) (fun h => det_req fun _ => det_R _ none n0) R hR.2
      obtain ⟨v, e, h1, h2, h3⟩ := this
      exact ⟨v, e, h1, h2, hR.1, h3⟩
    · exact hR.elim
  | ext x => exact exX_det nm env σ x (hd x rfl)
  | panic x => exact det_F
end Abs

