/- The abstraction layer, part J: soundness of the predicate transformer; the contract of a function from its body. Over any program. -/
import Derived.Test.YtbbihmmobfmadaaGreatOAbsR
set_option linter.unusedSimpArgs false
set_option linter.unusedVariables false
namespace Abs
open Go
def putA (d : Option Nat) (v : AV) (env : Env) : Env :=
  match d with
  | some d => (d, some v) :: env
  | none => env
def skipA (d : Option Nat) (env : Env) : Env :=
  match d with
  | some d => (d, some (.tup [])) :: env
  | none => env
def EndRel (K : Gh) : Ending → ARes → Prop
  | .returned v, .ret a => Rel K a v
  | .panicked ch, .panic a => ∃ v, ch = [{ v, recovered := false }] ∧ Rel K a v
  | _, _ => False
def callable (P : Program) (f : FuncId) : Bool :=
  match P.funcs[f]? with
  | some fn => fn.body.isSome && !(fn.name == "runtime.NumGoroutine")
  | none => false
def ACalls (P : Program) (f : FuncId) (args : List AV) (σ : Sig) (R : ARes → Sig → Prop) (_ : Tg R := .mk) : Prop :=
  callable P f = true ∧ ∀ (S : Nat → Prop) K w (vals : Array Value), Bnd S → RelL K args vals.toList → Sat K σ w → Calls P f vals w fun e w' => ∃ K' r σ', K.leS S K' ∧ Sat K' σ' w' ∧ EndRel K' e r ∧ R r σ'
theorem ACalls.mono {P f args σ R R'} (h : ACalls P f args σ R) (hR : ∀ r σ', R r σ' → R' r σ') : ACalls P f args σ R' :=
  ⟨h.1, fun S K w vals h0 h1 h2 => (h.2 S K w vals h0 h1 h2).mono fun _ _ ⟨K', r, σ', a, b, c, d⟩ => ⟨K', r, σ', a, b, c, hR _ _ d⟩⟩
def retK (k : AV → Sig → Prop) (p : AV → Sig → Prop) : ARes → Sig → Prop
  | .ret v, σ => k v σ
  | .panic v, σ => p v σ
def instRun (P : Program) (Q : AExit → Env → Sig → Prop) (k : AV → Sig → Prop) (env : Env) (σ : Sig) : AOp → Prop
  | .call f args => wth (aval env f) fun fv => wthL (avals env args) fun vs => match fv with
    | .fn f first caps => ACalls P f (first ++ vs ++ caps) σ (retK k (fun v σ' => Q (.panic v) env σ'))
    | _ => False
  | .panic x => wth (aval env x) fun v => match v with
    | .iface t a => Q (.panic (.iface t a)) env σ
    | _ => False
  | op => exOp env σ k op
def gd (p b : Bool) (run skip : Prop) (_ : Tg run := .mk) (_ : Tg skip := .mk) : Prop := (p = b → run) ∧ (p ≠ b → skip)
def guarded (env : Env) (run skip : Prop) : Option (Nat × Bool) → Prop
  | none => run
  | some (s, b) => wth (lk env s) fun v => match v with
    | .bool p => gd p b run skip
    | .tup _ => skip
    | _ => False
def br (p : Bool) (a b : Prop) (_ : Tg a := .mk) (_ : Tg b := .mk) : Prop := (p = true → a) ∧ (p = false → b)
def roundP (I : Nat → Env → Sig → Prop) (n : Nat) (env : Env) (σ : Sig) : Prop := ∃ m env0 σ0, m < n ∧ I m env0 σ0 ∧ Vw env0 σ0 env σ
def keepP (I : Env → Sig → Prop) (env : Env) (σ : Sig) : Prop := ∃ env0 σ0, I env0 σ0 ∧ Vw env0 σ0 env σ
def thenQ (k : Env → Sig → Prop) (Q : AExit → Env → Sig → Prop) : AExit → Env → Sig → Prop
  | .normal, env, σ => k env σ
  | e, env, σ => Q e env σ
def loopP (body : (AExit → Env → Sig → Prop) → Env → Sig → Prop) (Q : AExit → Env → Sig → Prop) (env : Env) (σ : Sig) (_ : Tg body := .mk) (_ : Tg Q := .mk) : Prop :=
  ∃ I : Nat → Env → Sig → Prop, (∃ n env0 σ0, I n env0 σ0 ∧ Vw env0 σ0 env σ) ∧
    ∀ n env σ, I n env σ → body (thenQ (roundP I n) Q) env σ
def exInsts (P : Program) (Q : AExit → Env → Sig → Prop) : List AInst → Env → Sig → Prop
  | [], env, σ => Q .normal env σ
  | ⟨d, op, g⟩ :: is, env, σ => guarded env (instRun P Q (fun v σ' => exInsts P Q is (putA d v env) σ') env σ op) (exInsts P Q is (skipA d env) σ) g
def Weak (env' env : Env) : Prop := ∀ i v, lk env' i = some v → lk env i = some v
theorem Fr.weak {K N env env' a} (h : Fr K N env a) (hw : Weak env' env) : Fr K N env' a := ⟨h.size, h.defers, fun i v e => h.rel i v (hw i v e)⟩
def blockQ (id : Nat) (Q : AExit → Env → Sig → Prop) : AExit → Env → Sig → Prop
  | .exit j, env, σ => if j = id then Q .normal env σ else Q (.exit j) env σ
  | e, env, σ => Q e env σ
def apps (σ : Sig) : List (Nat × AObj) → Sig
  | [] => σ
  | (o, x) :: r => apps (upd σ o x) r
inductive TI where
  | mem (o : Nat) (rd : Option (Nat × Nat × List AV))
  | call (us : List (Nat × AObj))
def touchL (env : Env) (σ : Sig) : AOp → Option TI
  | .load _ n x => match aval env x with
    | some (.ptr o off) => match σ o with
      | some (.cells cs) => some (.mem o (some (off, n, (cs.drop off).take n)))
      | _ => some (.mem o none)
    | some (.eptr o _ _) => some (.mem o none)
    | _ => none
  | .ext (.look _ _ _ x _) => match aval env x with
    | some (.map o) => some (.mem o none)
    | _ => none
  | .ext (.lenM x) => match aval env x with
    | some (.map o) => some (.mem o none)
    | _ => none
  | _ => none
def tch (n : Nat) (env : Env) (σ : Sig) (op : AOp) (tl : List (Nat × TI)) : Option (Nat × AObj) → List (Nat × TI)
  | some (o, _) => (n, .mem o none) :: tl
  | none => match touchL env σ op with
    | some t => (n, t) :: tl
    | none => tl
def look2 (i : Nat) : List (Nat × TI) → Option TI
  | [] => none
  | (j, o) :: r => if i = j then some o else look2 i r
def stable (o : Nat) (rd : Option (Nat × Nat × List AV)) : List (Nat × AObj) → Prop
  | [] => True
  | (a, x) :: r => (a ≠ o ∨ match rd, x with
    | some (off, n, vs), .cells cs => off + n ≤ cs.length ∧ (cs.drop off).take n = vs
    | _, _ => False) ∧ stable o rd r
def notIn (o : Nat) : List (Nat × AObj) → Prop
  | [] => True
  | (a, _) :: r => a ≠ o ∧ notIn o r
def apartT : TI → TI → Prop
  | .mem a _, .mem b _ => a ≠ b
  | .mem a rd, .call us => stable a rd us
  | .call us, .mem b _ => notIn b us
  | .call us, .call vs => us = [] ∧ vs = []
def apartP (tl : List (Nat × TI)) : List (Nat × Nat) → Prop
  | [] => True
  | (i, j) :: r => (match look2 i tl, look2 j tl with
    | some a, some b => apartT a b
    | _, _ => True) ∧ apartP tl r
def XOp.draws : XOp → Bool
  | .bsliceG _ _ => false
  | .isnil _ _ => false
  | .vfrz _ _ => false
  | .retok _ _ => false
  | .rng _ => false
  | .nxt _ => false
  | .entr _ => false
  | .bsliceV _ _ => false
  | _ => true
def DCall (P : Program) (f : FuncId) (args : List AV) (σ : Sig) (v : AV) (us : List (Nat × AObj)) : Prop :=
  ∀ τ, Sub σ τ → ACalls P f args τ (fun r σ' => r = .ret v ∧ σ' = apps τ us)
def ACallsN (P : Program) (f : FuncId) (args : List AV) (σ : Sig) (nm : Nat) (R : ARes → Sig → Prop) : Prop :=
  callable P f = true ∧ ∀ (S : Nat → Prop) K w (vals : Array Value), Bnd S → ¬ S nm → K.own nm = none → RelL K args vals.toList → Sat K σ w → Calls P f vals w fun e w' => ∃ K' r σ', K.leS S K' ∧ Sat K' σ' w' ∧ EndRel K' e r ∧ R r σ'
def NCall (P : Program) (f : FuncId) (args : List AV) (σ : Sig) (nm : Nat) (v : AV) (x : AObj) : Prop :=
  ∀ τ, Sub σ τ → τ nm = none → ACallsN P f args τ nm (fun r σ' => r = .ret v ∧ σ' = upd τ nm x)
def allIn (σ : Sig) : List (Nat × AObj) → Prop
  | [] => True
  | (a, _) :: r => σ a ≠ none ∧ allIn σ r
def callQ (P : Program) (f : FuncId) (args : List AV) (σ σb : Sig) (kc : AV → List (Nat × AObj) → Prop) (_ : Tg kc := .mk) : Prop :=
  (∃ v us, DCall P f args σb v us ∧ allIn σ us ∧ kc v us) ∨ ∃ (v : Nat → AV) (x : AObj), ∀ o, σ o = none → NCall P f args σb o (v o) x ∧ kc (v o) [(o, x)]
def instDraw (P : Program) (k : AV → Option (Nat × AObj) → Prop) (kc : AV → List (Nat × AObj) → Prop) (env : Env) (σ σb : Sig) : AOp → Prop
  | .call f args => wth (aval env f) fun fv => wthL (avals env args) fun vs => match fv with
    | .fn f first caps => callQ P f (first ++ vs ++ caps) σ σb kc
    | _ => False
  | .ext x => if x.draws then exX (fun k => fresh σ k) env σ k x else False
  | op => exOpG (fun k => fresh σ k) env σ k op
def baseS (n : Nat) (σ : Sig) : List (Nat × Nat) → Sig
  | [] => σ
  | (a, b) :: r => if a = n then (if b = n then fun _ => none else baseS n σ r) else baseS n σ r
def exDraw (P : Program) (pairs : List (Nat × Nat)) (k : Env → Sig → Prop) : List AInst → Nat → List (Nat × TI) → Env → Sig → Prop
  | [], _, tl, env, σ => req (apartP tl pairs) (k env σ)
  | ⟨d, op, g⟩ :: is, n, tl, env, σ => guarded env (instDraw P (fun v e => exDraw P pairs k is (n + 1) (tch n env σ op tl e) (putA d v env) (app σ e))
      (fun v us => exDraw P pairs k is (n + 1) ((n, .call us) :: tl) (putA d v env) (apps σ us)) env σ (baseS n σ pairs) op)
      (exDraw P pairs k is (n + 1) tl (skipA d env) σ) g
def cutP (a b : (AExit → Env → Sig → Prop) → Env → Sig → Prop) (Q : AExit → Env → Sig → Prop) (env : Env) (σ : Sig) (_ : Tg a := .mk) (_ : Tg b := .mk) (_ : Tg Q := .mk) : Prop :=
  ∃ I : Env → Sig → Prop, a (thenQ (keepP I) Q) env σ ∧ ∀ env σ, I env σ → b Q env σ
def ex (P : Program) : ACode → (AExit → Env → Sig → Prop) → Env → Sig → Prop
  | .skip, Q, env, σ => Q .normal env σ
  | .reg is, Q, env, σ => exInsts P Q is env σ
  | .drw is ps, Q, env, σ => exDraw P ps (fun env σ => Q .normal env σ) is 0 [] env σ
  | .seq a b, Q, env, σ => ex P a (thenQ (ex P b Q) Q) env σ
  | .cut a b, Q, env, σ => cutP (fun Q env σ => ex P a Q env σ) (fun Q env σ => ex P b Q env σ) Q env σ
  | .cond c a b, Q, env, σ => wth (aval env c) fun v => match v with
    | .bool p => br p (ex P a Q env σ) (ex P b Q env σ)
    | _ => False
  | .block id a, Q, env, σ => ex P a (blockQ id Q) env σ
  | .loop a, Q, env, σ => loopP (fun Q env σ => ex P a Q env σ) Q env σ
  | .exit id, Q, env, σ => Q (.exit id) env σ
  | .ret, Q, env, σ => Q .ret env σ

/-! ### The translation of code -/
def isStore : AOp → Bool
  | .store _ _ _ => true
  | .ext (.mset _ _ _ _) => true
  | .ext (.eset _ _ _) => true
  | _ => false
def dstOk (N : Nat) (a : AOp) : Option Nat → Bool
  | some d => decide (d < N) && !isStore a
  | none => true
def trInst (P : Program) (N : Nat) (ops : Array Oper) (o : Oper) : Option AInst :=
  match trOp P o.op with
  | none => none
  | some a =>
    if dstOk N a o.dst = true then
      match o.guard with
      | none => some ⟨o.dst, a, none⟩
      | some (j, b) => match (ops[j]?).bind (·.dst) with
        | some s => some ⟨o.dst, a, some (s, b)⟩
        | none => none
    else none
def trInsts (P : Program) (N : Nat) (ops : Array Oper) : List Oper → Option (List AInst)
  | [] => some []
  | o :: r => match trInst P N ops o, trInsts P N ops r with
    | some a, some l => some (a :: l)
    | _, _ => none
def maskOf (acc : List Nat) (o : Oper) : Nat :=
  o.after.toList.foldl (fun s e => if Region.binds .any e then s ||| 2 ^ e.on ||| acc.getD e.on 0 else s) 0
def masks : List Nat → List Oper → List Nat
  | acc, [] => acc
  | acc, o :: r => masks (acc ++ [maskOf acc o]) r
def isW : AOp → Bool
  | .store _ _ _ => true
  | .append _ _ _ _ => true
  | .appz _ _ _ _ => true
  | .alloc _ => true
  | .box _ => true
  | .mkslice _ _ _ _ _ _ => true
  | .ext .mkmap => true
  | .ext (.mset _ _ _ _) => true
  | .ext (.mdel _ _ _) => true
  | .ext (.ment _ _ _ _) => true
  | .ext (.eset _ _ _) => true
  | .ext (.bsliceG _ _) => true
  | .ext (.vmake _ _ _ _ _ _) => true
  | .ext (.vapp _ _ _ _) => true
  | .ext (.vfrz _ _) => true
  | .ext (.retok _ _) => true
  | .ext (.rng _) => true
  | .ext (.nxt _) => true
  | .ext (.bsliceV _ _) => true
  | _ => false
def isNew : AOp → Bool
  | .appz _ _ _ _ => true
  | .alloc _ => true
  | .box _ => true
  | .mkslice _ _ _ _ _ _ => true
  | .ext .mkmap => true
  | .ext (.vmake _ _ _ _ _ _) => true
  | _ => false
def isMem : AOp → Bool
  | .load _ _ _ => true
  | .call _ _ => true
  | .ext (.look _ _ _ _ _) => true
  | .ext (.lenM _) => true
  | op => isW op
def isCall : AOp → Bool
  | .call _ _ => true
  | _ => false
def slotOf : AOpnd → List Nat
  | .t n => [n]
  | .c _ => []
  | .m n _ => [n]
def usesX : XOp → List Nat
  | .mkmap => []
  | .look _ _ _ x i => slotOf x ++ slotOf i
  | .mset _ m k v => slotOf m ++ slotOf k ++ slotOf v
  | .mdel _ m k => slotOf m ++ slotOf k
  | .lenM x => slotOf x
  | .isnil _ x => slotOf x
  | .ment _ _ m k => slotOf m ++ slotOf k
  | .eset m s v => slotOf m ++ slotOf s ++ slotOf v
  | .tas _ _ _ x => slotOf x
  | .bsliceG _ ps => ps.flatMap slotOf
  | .vmake _ _ _ _ l c => slotOf l ++ slotOf c
  | .vapp _ _ s x => slotOf s ++ slotOf x
  | .vfrz _ x => slotOf x
  | .retok _ x => slotOf x
  | .rng x => slotOf x
  | .nxt x => slotOf x
  | .entr x => slotOf x
  | .eqI _ _ x y => slotOf x ++ slotOf y
  | .bsliceV _ ps => ps.flatMap slotOf
def usesOp : AOp → List Nat
  | .ext x => usesX x
  | .mov x | .box x | .boxI x | .nilchk x | .un _ x | .conv _ x | .fldA _ x | .fldV _ _ _ x | .extract x _ | .len x | .lenS x | .cap x | .mkiface _ x | .panic x | .load _ _ x => slotOf x
  | .pick c a b => slotOf c ++ slotOf a ++ slotOf b
  | .alloc _ => []
  | .build _ ps => ps.flatMap fun p => slotOf p.2.2
  | .bslice _ ps | .min ps | .max ps => ps.flatMap slotOf
  | .store _ a x | .bin _ _ a x | .eqs _ _ a x | .idxS _ a x | .idxR _ _ a x | .idxV _ _ _ a x | .append _ _ a x | .appz _ _ a x | .mkslice _ _ _ _ a x => slotOf a ++ slotOf x
  | .mkfn _ a b => a.flatMap slotOf ++ b.flatMap slotOf
  | .slc _ x a b c | .slcN _ x a b c | .slcR _ x a b c => slotOf x ++ (a.toList ++ b.toList ++ c.toList).flatMap slotOf
  | .call f l => slotOf f ++ l.flatMap slotOf
def usesI (i : AInst) : List Nat := usesOp i.op ++ (match i.guard with | some (s, _) => [s] | none => [])
def ordered (cl : List Nat) (i j : Nat) : Bool := if j < i then (cl.getD i 0).testBit j else (cl.getD j 0).testBit i
def drawOk (ops : List Oper) (is : List AInst) (cl : List Nat) : Bool :=
  (ops.zipIdx.all fun (o, i) => o.after.toList.all fun e => !Region.binds .any e || decide (e.on < i)) &&
  is.zipIdx.all fun (x, i) => is.zipIdx.all fun (y, j) =>
    i == j || ((match x.dst with | some d => y.dst != some d | none => true) &&
      (match y.dst with | some d => !(usesI x).contains d || ordered cl i j | none => true) &&
      (!(isCall x.op && isW y.op) || isNew y.op || ordered cl i j))
def openPairs (is : List AInst) (cl : List Nat) : List (Nat × Nat) :=
  is.zipIdx.flatMap fun (x, i) => is.zipIdx.filterMap fun (y, j) =>
    if i < j ∧ isMem x.op = true ∧ isMem y.op = true ∧ (isW x.op || isW y.op || isCall x.op || isCall y.op) = true ∧ (isCall x.op && isNew y.op) = false ∧ ordered cl i j = false then some (i, j) else none
def selfPairs (is : List AInst) (cl : List Nat) : List (Nat × Nat) :=
  is.zipIdx.filterMap fun (x, i) => if isCall x.op = true ∧ (is.zipIdx.any fun (y, j) => decide (j < i) && isW y.op && isNew y.op && !ordered cl i j) = true then some (i, i) else none
def allPairs (is : List AInst) (cl : List Nat) : List (Nat × Nat) := openPairs is cl ++ selfPairs is cl
def tr (P : Program) (N : Nat) : Code → Option ACode
  | .skip => some .skip
  | .region _ ops draw => match trInsts P N ops ops.toList with
    | some l => if draw then (if drawOk ops.toList l (masks [] ops.toList) = true then some (.drw l (allPairs l (masks [] ops.toList))) else none) else some (.reg l)
    | none => none
  | .seq a b => match tr P N a, tr P N b with
    | some a, some b => some (.seq a b)
    | _, _ => none
  | .cond c a b => match trOpnd c, tr P N a, tr P N b with
    | some c, some a, some b => some (.cond c a b)
    | _, _, _ => none
  | .block id a => (tr P N a).map (.block id)
  | .loop a => (tr P N a).map .loop
  | .exit id => some (.exit id)
  | .ret => some .ret
  | _ => none

/-! ### Soundness -/
def ExitRel (K : Gh) : Exit → AExit → Prop
  | .normal, .normal => True
  | .exit i, .exit j => i = j
  | .ret, .ret => True
  | .panic ch, .panic a => ∃ v, ch = [{ v, recovered := false }] ∧ Rel K a v
  | _, _ => False
def LiftQ (N : Nat) (S : Nat → Prop) (K : Gh) (Q : AExit → Env → Sig → Prop) : Exit → Act → World → Prop :=
  fun e a w => ∃ ae K' env σ, K.leS S K' ∧ ExitRel K' e ae ∧ Fr K' N env a ∧ Sat K' σ w ∧ Q ae env σ
theorem LiftQ.mono {N S K K1 Q e a w} (hK : K.leS S K1) (h : LiftQ N S K1 Q e a w) : LiftQ N S K Q e a w :=
  let ⟨ae, K', env, σ, h1, h2⟩ := h; ⟨ae, K', env, σ, hK.trans h1, h2⟩
def AWP (P : Program) (N : Nat) (c : Code) (Q : AExit → Env → Sig → Prop) (env : Env) (σ : Sig) : Prop :=
  ∀ S K a w, Bnd S → Fr K N env a → Sat K σ w → c.wp P (LiftQ N S K Q) a w
theorem wth_mono {x : Option AV} {R R' : AV → Prop} (h : wth x R) (hR : ∀ a, R a → R' a) : wth x R' := by
  cases x with
  | none => exact h
  | some a => exact hR a h
theorem wthL_mono {x : Option (List AV)} {R R' : List AV → Prop} (h : wthL x R) (hR : ∀ a, R a → R' a) : wthL x R' := by
  cases x with
  | none => exact h
  | some a => exact hR a h
theorem exX_mono {F F' : (Nat → Prop) → Prop} (hF : ∀ k, F k → F' k) {env : Env} {σ : Sig} {R : AV → Option (Nat × AObj) → Prop} {x : XOp} (h : exX F env σ R x) : exX F' env σ R x := by
  cases x with
  | mkmap => exact hF _ h
  | bsliceG sz ps => exact wthL_mono h fun l h => ⟨h.1, hF _ h.2⟩
  | bsliceV sz ps => exact wthL_mono h fun l h => ⟨h.1, hF _ h.2⟩
  | rng x =>
    refine wth_mono h fun m h => ?_
    cases m <;> first | exact h | skip
    simp only [] at h ⊢
    split at h
    · exact hF _ h
    · exact h.elim
  | vmake sz bytes z g n c =>
    refine wth_mono h fun n h => wth_mono h fun c h => wth_mono h fun e h => ?_
    split at h
    · exact ⟨h.1, hF _ h.2⟩
    · exact h.elim
  | vapp sz bytes s x =>
    refine wth_mono h fun s h => wth_mono h fun x h => ?_
    split at h
    · exact h
    · exact h
    · rename_i l t m t2 _
      refine ⟨h.1, ?_⟩
      have h2 := h.2
      cases t with
      | nil => exact ⟨h2.1, fun hm => hF _ (h2.2 hm)⟩
      | full => exact ⟨h2.1, fun hm => hF _ (h2.2 hm)⟩
      | no => exact h2
      | own t => exact h2
    · exact h.elim
  | retok sz x =>
    refine wth_mono h fun x h => ?_
    cases x <;> first | exact h | skip
    rename_i l t
    cases l with
    | nil => cases t <;> first | exact h | exact hF _ h | exact ⟨h.1, hF _ h.2⟩
    | cons a l => cases t <;> first | exact h | exact ⟨h.1, hF _ h.2⟩
  | _ => exact h
theorem exOpG_mono {F F' : (Nat → Prop) → Prop} (hF : ∀ k, F k → F' k) {env : Env} {σ : Sig} {R : AV → Option (Nat × AObj) → Prop} {op : AOp} (h : exOpG F env σ R op) : exOpG F' env σ R op := by
  cases op with
  | alloc z => exact hF _ h
  | box x =>
    simp only [exOpG] at h ⊢
    cases hx : aval env x with
    | none => rw [hx] at h; exact h
    | some a => rw [hx] at h; exact hF _ h
  | append sz bytes s x =>
    simp only [exOpG] at h ⊢
    cases hs : aval env s with
    | none => rw [hs] at h; exact h
    | some a =>
      rw [hs] at h
      cases hx : aval env x with
      | none => rw [hx] at h; exact h
      | some b =>
        rw [hx] at h
        cases a <;> cases b <;> first | exact h | skip
        rename_i l t m t2
        obtain ⟨h1, h2⟩ := h
        refine ⟨h1, ?_⟩
        cases t with
        | nil => exact ⟨h2.1, fun hm => hF _ (h2.2 hm)⟩
        | full => exact ⟨h2.1, fun hm => hF _ (h2.2 hm)⟩
        | no => exact h2
        | own t => exact h2
  | appz sz bytes s x =>
    simp only [exOpG] at h ⊢
    cases hs : aval env s with
    | none => rw [hs] at h; exact h
    | some a =>
      rw [hs] at h
      cases hx : aval env x with
      | none => rw [hx] at h; exact h
      | some b =>
        rw [hx] at h
        simp only [wth] at h ⊢
        split at h
        · exact ⟨h.1, hF _ h.2⟩
        · exact h.elim
  | ext x =>
    simp only [exOpG] at h ⊢
    exact exX_mono hF h
  | mkslice sz bytes z g n c =>
    simp only [exOpG] at h ⊢
    cases hn : aval env n with
    | none => rw [hn] at h; exact h
    | some a =>
      rw [hn] at h
      cases hc : aval env c with
      | none => rw [hc] at h; exact h
      | some b =>
        rw [hc] at h
        cases hz : mkv g z with
        | none => rw [hz] at h; exact h
        | some e =>
          rw [hz] at h
          simp only [wth] at h ⊢
          split at h
          · exact ⟨h.1, hF _ h.2⟩
          · exact h.elim
  | _ => exact h
theorem exOp_N {env : Env} {σ : Sig} {R : AV → Sig → Prop} {op : AOp} {nm : Nat} (hn : σ nm = none) (h : exOp env σ R op) : exOpN nm env σ (fun v e => R v (app σ e)) op :=
  exOpG_mono (fun k hk => hk nm hn) h
theorem freshFor {K : Gh} {σ w} (hs : Sat K σ w) {S : Nat → Prop} (hS : Bnd S) : ∃ nm, K.own nm = none ∧ ¬ S nm ∧ σ nm = none := by
  obtain ⟨n, hn⟩ := hs.room
  obtain ⟨m, hm⟩ := hS
  exact ⟨max n m, hn _ (by omega), hm _ (by omega), hs.fresh (hn _ (by omega))⟩
theorem array_one {α : Type} {a : Array α} {x : α} (h : a.toList = [x]) : a = #[x] := by
  cases a; simp at h; subst h; rfl
theorem array_two {α : Type} {a : Array α} {x y : α} (h : a.toList = [x, y]) : a = #[x, y] := by
  cases a; simp at h; subst h; rfl
theorem bare_cases {a a' : AOp} (h : a'.bare = a) : a' = a ∨ (∃ x, a' = .boxI x ∧ a = .box x) ∨ (∃ s x l h m, a' = .slcN s x l h m ∧ a = .slc s x l h m) ∨ (∃ s x l h m, a' = .slcR s x l h m ∧ a = .slc s x l h m) ∨
    (∃ x, a' = .ext x ∧ x.draws = false ∧ ((∃ s ps, (x = .bsliceG s ps ∨ x = .bsliceV s ps) ∧ a = .bslice s ps) ∨ (∃ g y, x = .vfrz g y ∧ a = .mov y) ∨ (∃ s y, x = .retok s y ∧ a = .mov y))) ∨
    (∃ s b z g l c, a' = .ext (.vmake s b z g l c) ∧ a = .mkslice s b z g l c) ∨ (∃ s b x y, a' = .ext (.vapp s b x y) ∧ a = .append s b x y) := by
  cases a' with
  | boxI x => exact .inr (.inl ⟨_, rfl, h.symm⟩)
  | slcN s x l hh m => exact .inr (.inr (.inl ⟨_, _, _, _, _, rfl, h.symm⟩))
  | slcR s x l hh m => exact .inr (.inr (.inr (.inl ⟨_, _, _, _, _, rfl, h.symm⟩)))
  | ext x =>
    cases x with
    | bsliceG s ps => exact .inr (.inr (.inr (.inr (.inl ⟨_, rfl, rfl, .inl ⟨_, _, .inl rfl, h.symm⟩⟩))))
    | bsliceV s ps => exact .inr (.inr (.inr (.inr (.inl ⟨_, rfl, rfl, .inl ⟨_, _, .inr rfl, h.symm⟩⟩))))
    | vfrz g y => exact .inr (.inr (.inr (.inr (.inl ⟨_, rfl, rfl, .inr (.inl ⟨_, _, rfl, h.symm⟩)⟩))))
    | retok s y => exact .inr (.inr (.inr (.inr (.inl ⟨_, rfl, rfl, .inr (.inr ⟨_, _, rfl, h.symm⟩)⟩))))
    | vmake s b z g l c => exact .inr (.inr (.inr (.inr (.inr (.inl ⟨_, _, _, _, _, _, rfl, h.symm⟩)))))
    | vapp s b x y => exact .inr (.inr (.inr (.inr (.inr (.inr ⟨_, _, _, _, rfl, h.symm⟩)))))
    | _ => exact .inl h
  | _ => exact .inl h
theorem builtin_ok {P : Program} {o : Oper} {N : Nat} {env : Env} {σ : Sig} {nm : Nat} {R : AV → Option (Nat × AObj) → Prop} {b : Builtin} {args : Array Operand} {types : Array TypeId} {a : AOp} (ho : o.op = .call { callee := .builtin b, args := args, argTypes := types })
    (ht : trBuiltin P b args.toList types.toList = some a) (h : exOpN nm env σ R a) : OpOk P o N env σ nm R := by
  unfold trBuiltin at ht
  split at ht
  · split at ht
    · rename_i x t e1 e2
      obtain rfl := array_one e1
      obtain rfl := array_one e2
      split at ht <;> simp at ht <;> subst ht
      · rename_i hu _; exact ok_lenA ho hu h
      · rename_i hu hx; exact ok_len ho hu hx h
      · rename_i hu hx; exact ok_lenM ho hu hx h
      · rename_i hu hx; exact ok_lenS ho hu hx h
    · simp at ht
  · split at ht
    · rename_i x t e1 e2
      obtain rfl := array_one e1
      obtain rfl := array_one e2
      split at ht <;> simp at ht <;> subst ht
      rename_i hu hx; exact ok_cap ho hu hx h
    · simp at ht
  · split at ht
    · rename_i s x t u e1 e2
      obtain rfl := array_two e1
      obtain rfl := array_two e2
      split at ht <;> try (simp at ht; done)
      rename_i hu hs hx
      split at ht <;> try (simp at ht; done)
      rename_i hi hz
      split at ht
      · rename_i hc
        obtain ⟨c1, c2, c3, c4, c5⟩ := hc
        simp at ht; subst ht
        exact ok_append ho hu c5 hi hz c2 c3 c4 hs hx h
      · split at ht <;> simp at ht
        rename_i hc
        obtain ⟨c1, c2, c3, c4, c5⟩ := hc
        subst ht
        exact ok_appz ho hu c5 hi hz c1 c2 c4 hs hx h
    · simp at ht
  · simp only [Option.map_eq_some_iff] at ht
    obtain ⟨l, h1, rfl⟩ := ht
    exact ok_min ho h1 h
  · simp only [Option.map_eq_some_iff] at ht
    obtain ⟨l, h1, rfl⟩ := ht
    exact ok_max ho h1 h
  · split at ht
    · rename_i m k t t2 e1 e2
      obtain rfl := array_two e1
      obtain rfl := array_two e2
      split at ht <;> try (simp at ht; done)
      rename_i hu hm hk
      simp only [Option.map_eq_some_iff] at ht
      obtain ⟨kk, h1, rfl⟩ := ht
      exact ok_mdel ho hu h1 hm hk h
    · simp at ht
  · simp at ht
theorem trBuiltin_box {P : Program} {b args types x} (h : trBuiltin P b args types = some (.box x)) : False := by
  unfold trBuiltin at h
  repeat' split at h
  all_goals first
    | (simp at h; done)
    | (simp only [Option.map_eq_some_iff] at h; obtain ⟨_, _, e⟩ := h; simp at e)
theorem trOp_box {P : Program} {op : Op} {x : AOpnd} (h : trOp P op = some (.box x)) : ∃ e y, op = .box e y ∧ trOpnd y = some x := by
  cases op
  case box e y =>
    simp only [trOp, Option.map_eq_some_iff] at h
    obtain ⟨z, h1, h2⟩ := h
    simp at h2; subst h2
    exact ⟨e, y, rfl, h1⟩
  case call c =>
    simp only [trOp, trCall] at h
    split at h
    · split at h <;> simp at h
    · exact (trBuiltin_box h).elim
    · simp only [Option.map_eq_some_iff] at h; obtain ⟨_, _, e⟩ := h; simp at e
    · simp at h
  case makeFunc fn first caps =>
    cases fn <;> simp only [trOp] at h <;> try (simp at h; done)
    split at h <;> simp at h
  case makeMap t r => cases r <;> simp [trOp] at h
  all_goals
    simp only [trOp] at h
    repeat' split at h
    all_goals first
      | (simp at h; done)
      | (simp only [Option.map_eq_some_iff] at h; obtain ⟨_, _, e⟩ := h; simp at e)
theorem trBuiltin_slc {P : Program} {b args types s x l h m} (hh : trBuiltin P b args types = some (.slc s x l h m)) : False := by
  unfold trBuiltin at hh
  repeat' split at hh
  all_goals first
    | (simp at hh; done)
    | (simp only [Option.map_eq_some_iff] at hh; obtain ⟨_, _, e⟩ := hh; simp at e)
theorem trOp_slc {P : Program} {op : Op} {s x l h m} (hh : trOp P op = some (.slc s x l h m)) : ∃ t y lo hi mx e, op = .slice t y lo hi mx ∧ P.underlying t = some (.slice e) ∧ szOf P e = some s ∧ trOpnd y = some x ∧ trOpt lo = some l ∧ trOpt hi = some h ∧ trOpt mx = some m := by
  cases op
  case slice t y lo hi mx =>
    simp only [trOp] at hh
    split at hh
    · rename_i hu
      split at hh <;> simp at hh
      obtain ⟨rfl, rfl, rfl, rfl, rfl⟩ := hh
      exact ⟨_, _, _, _, _, _, rfl, by assumption, by assumption, by assumption, by assumption, by assumption, by assumption⟩
    · simp at hh
  case call c =>
    simp only [trOp, trCall] at hh
    split at hh
    · split at hh <;> simp at hh
    · exact (trBuiltin_slc hh).elim
    · simp only [Option.map_eq_some_iff] at hh; obtain ⟨_, _, e⟩ := hh; simp at e
    · simp at hh
  case makeFunc fn first caps =>
    cases fn <;> simp only [trOp] at hh <;> try (simp at hh; done)
    split at hh <;> simp at hh
  case makeMap t r => cases r <;> simp [trOp] at hh
  all_goals
    simp only [trOp] at hh
    repeat' split at hh
    all_goals first
      | (simp at hh; done)
      | (simp only [Option.map_eq_some_iff] at hh; obtain ⟨_, _, e⟩ := hh; simp at e)
theorem trBuiltin_mov {P : Program} {b args types x} (hh : trBuiltin P b args types = some (.mov x)) : ∃ n, x = .c (.int .i64 n) := by
  unfold trBuiltin at hh
  repeat' split at hh
  all_goals first
    | (simp at hh; done)
    | (simp only [Option.map_eq_some_iff] at hh; obtain ⟨_, _, e⟩ := hh; simp at e; done)
    | skip
  simp at hh
  subst hh
  exact ⟨_, rfl⟩
theorem trOp_bslice {P : Program} {op : Op} {sz ps} (hh : trOp P op = some (.bslice sz ps)) : ∃ t len qs e, op = .buildSlice t len qs ∧ P.underlying t = some (.slice e) ∧ szOf P e = some sz ∧ len = qs.size ∧ len * sz ≤ 65536 ∧ (zeroOf P e).isSome = true ∧ trParts 0 qs.toList = some ps := by
  cases op
  case buildSlice t len qs =>
    simp only [trOp] at hh
    split at hh
    · rename_i hu
      split at hh
      · rename_i hsz
        split at hh
        · rename_i hc
          obtain ⟨c1, c2, c3⟩ := hc
          simp only [Option.map_eq_some_iff] at hh; obtain ⟨_, h1, h2⟩ := hh
          simp at h2
          obtain ⟨rfl, rfl⟩ := h2
          exact ⟨_, _, _, _, rfl, hu, hsz, c1, c2, c3, h1⟩
        · simp at hh
      · simp at hh
    · simp at hh
  case call c =>
    simp only [trOp, trCall] at hh
    split at hh
    · split at hh <;> simp at hh
    · exfalso
      unfold trBuiltin at hh
      repeat' split at hh
      all_goals first
        | (simp at hh; done)
        | (simp only [Option.map_eq_some_iff] at hh; obtain ⟨_, _, e⟩ := hh; simp at e)
    · simp only [Option.map_eq_some_iff] at hh; obtain ⟨_, _, e⟩ := hh; simp at e
    · simp at hh
  case makeFunc fn first caps =>
    cases fn <;> simp only [trOp] at hh <;> try (simp at hh; done)
    split at hh <;> simp at hh
  case makeMap t r => cases r <;> simp [trOp] at hh
  all_goals
    simp only [trOp] at hh
    repeat' split at hh
    all_goals first
      | (simp at hh; done)
      | (simp only [Option.map_eq_some_iff] at hh; obtain ⟨_, _, e⟩ := hh; simp at e)
theorem trOp_mkslice {P : Program} {op : Op} {n b z g al ac} (hh : trOp P op = some (.mkslice n b z g al ac)) : ∃ t l c e i, op = .makeSlice t l c ∧ P.underlying t = some (.slice e) ∧ P.info? e = some i ∧ b = i.bytes ∧ readOf P e = some (g, n) ∧ zeroOf P e = some z ∧ trOpnd l = some al ∧ trOpnd c = some ac ∧ z.length = n ∧ 0 < n ∧ 0 < i.bytes := by
  cases op
  case makeSlice t l c =>
    simp only [trOp] at hh
    split at hh
    · rename_i hu
      split at hh
      · rename_i hi hr hz hl hc
        split at hh <;> simp at hh
        rename_i hcnd
        obtain ⟨c1, c2, c3⟩ := hcnd
        obtain ⟨rfl, rfl, rfl, rfl, rfl, rfl⟩ := hh
        exact ⟨_, _, _, _, _, rfl, hu, hi, rfl, hr, hz, hl, hc, c1, c2, c3⟩
      · simp at hh
    · simp at hh
  case call c =>
    simp only [trOp, trCall] at hh
    split at hh
    · split at hh <;> simp at hh
    · exfalso
      unfold trBuiltin at hh
      repeat' split at hh
      all_goals first
        | (simp at hh; done)
        | (simp only [Option.map_eq_some_iff] at hh; obtain ⟨_, _, e⟩ := hh; simp at e)
    · simp only [Option.map_eq_some_iff] at hh; obtain ⟨_, _, e⟩ := hh; simp at e
    · simp at hh
  case makeFunc fn first caps =>
    cases fn <;> simp only [trOp] at hh <;> try (simp at hh; done)
    split at hh <;> simp at hh
  case makeMap t r => cases r <;> simp [trOp] at hh
  all_goals
    simp only [trOp] at hh
    repeat' split at hh
    all_goals first
      | (simp at hh; done)
      | (simp only [Option.map_eq_some_iff] at hh; obtain ⟨_, _, e⟩ := hh; simp at e)
theorem trOp_append {P : Program} {op : Op} {n b as_ ax} (hh : trOp P op = some (.append n b as_ ax)) : ∃ s x t u e i z, op = .call { callee := .builtin .append, args := #[s, x], argTypes := #[t, u] } ∧ P.underlying t = some (.slice e) ∧ t = u ∧ P.info? e = some i ∧ n = i.size ∧ b = i.bytes ∧
    zeroOf P e = some z ∧ 0 < i.bytes ∧ i.bytes ≤ 4096 ∧ z.length = i.size ∧ trOpnd s = some as_ ∧ trOpnd x = some ax := by
  cases op
  case call c =>
    obtain ⟨callee, args, types⟩ := c
    simp only [trOp, trCall] at hh
    split at hh
    · split at hh <;> simp at hh
    · rename_i b' hb
      unfold trBuiltin at hh
      split at hh
      case h_3 =>
        split at hh
        · rename_i s x t u e1 e2
          obtain rfl := array_two e1
          obtain rfl := array_two e2
          split at hh <;> try (simp at hh; done)
          rename_i hu hs hx
          split at hh <;> try (simp at hh; done)
          rename_i hi hz
          split at hh
          · rename_i hc
            obtain ⟨c1, c2, c3, c4, c5⟩ := hc
            simp at hh
            obtain ⟨rfl, rfl, rfl, rfl⟩ := hh
            exact ⟨_, _, _, _, _, _, _, rfl, hu, c5, hi, rfl, rfl, hz, c2, c3, c4, hs, hx⟩
          · split at hh <;> simp at hh
        · simp at hh
      all_goals
        exfalso
        repeat' split at hh
        all_goals first
          | (simp at hh; done)
          | (simp only [Option.map_eq_some_iff] at hh; obtain ⟨_, _, e⟩ := hh; simp at e)
    · simp only [Option.map_eq_some_iff] at hh; obtain ⟨_, _, e⟩ := hh; simp at e
    · simp at hh
  case makeFunc fn first caps =>
    cases fn <;> simp only [trOp] at hh <;> try (simp at hh; done)
    split at hh <;> simp at hh
  case makeMap t r => cases r <;> simp [trOp] at hh
  all_goals
    simp only [trOp] at hh
    repeat' split at hh
    all_goals first
      | (simp at hh; done)
      | (simp only [Option.map_eq_some_iff] at hh; obtain ⟨_, _, e⟩ := hh; simp at e)
theorem trOp_mov {P : Program} {op : Op} {x : AOpnd} (hh : trOp P op = some (.mov x)) : (∃ y, (op = .move y ∨ op = .assign y) ∧ trOpnd y = some x) ∨ ∃ n, x = .c (.int .i64 n) := by
  cases op
  case move y =>
    simp only [trOp, Option.map_eq_some_iff] at hh; obtain ⟨_, h1, h2⟩ := hh
    simp at h2; subst h2
    exact .inl ⟨y, .inl rfl, h1⟩
  case assign y =>
    simp only [trOp, Option.map_eq_some_iff] at hh; obtain ⟨_, h1, h2⟩ := hh
    simp at h2; subst h2
    exact .inl ⟨y, .inr rfl, h1⟩
  case call c =>
    simp only [trOp, trCall] at hh
    split at hh
    · split at hh <;> simp at hh
    · exact .inr (trBuiltin_mov hh)
    · simp only [Option.map_eq_some_iff] at hh; obtain ⟨_, _, e⟩ := hh; simp at e
    · simp at hh
  case makeFunc fn first caps =>
    cases fn <;> simp only [trOp] at hh <;> try (simp at hh; done)
    split at hh <;> simp at hh
  case makeMap t r => cases r <;> simp [trOp] at hh
  all_goals
    simp only [trOp] at hh
    repeat' split at hh
    all_goals first
      | (simp at hh; done)
      | (simp only [Option.map_eq_some_iff] at hh; obtain ⟨_, _, e⟩ := hh; simp at e)
theorem ok_none {P : Program} {o : Oper} {N : Nat} {env : Env} {σ : Sig} {nm : Nat} {R : AV → Option (Nat × AObj) → Prop} (h : False) : OpOk P o N env σ nm R := h.elim
theorem op_ok {P : Program} {o : Oper} {N : Nat} {env : Env} {σ : Sig} {nm : Nat} {R : AV → Option (Nat × AObj) → Prop} {a a' : AOp} (ht : trOp P o.op = some a) (hb : a'.bare = a) (hd : isStore a = true → o.dst = none)
    (h : exOpN nm env σ R a') : OpOk P o N env σ nm R := by
  generalize ho : o.op = op at ht
  rcases bare_cases hb with rfl | ⟨x, rfl, rfl⟩ | ⟨s, x, l, hh, m, rfl, rfl⟩ | ⟨s, x, l, hh, m, rfl, rfl⟩ | ⟨x, rfl, _, ⟨s, ps, hxx, rfl⟩ | ⟨g, y, rfl, rfl⟩ | ⟨s, y, rfl, rfl⟩⟩ | ⟨s, b, z, g, l, c, rfl, rfl⟩ | ⟨s, b, x, y, rfl, rfl⟩
  case inr.inr.inr.inr.inl.inl =>
    obtain ⟨t, len, qs, e, rfl, h1, h2, h3, h4, h5, h6⟩ := trOp_bslice ht
    obtain ⟨z, hz⟩ := Option.isSome_iff_exists.1 h5
    rcases hxx with rfl | rfl
    · exact ok_bsliceG ho h1 h2 h3 h4 hz h6 h
    · exact ok_bsliceV ho h1 h2 h3 h4 hz h6 h
  case inr.inr.inr.inr.inl.inr.inl =>
    rcases trOp_mov ht with ⟨x, h1, h2⟩ | ⟨n, rfl⟩
    · exact ok_vfrz (by rcases h1 with rfl | rfl; exact .inl ho; exact .inr ho) h2 h
    · exact ok_none h
  case inr.inr.inr.inr.inl.inr.inr =>
    rcases trOp_mov ht with ⟨x, h1, h2⟩ | ⟨n, rfl⟩
    · exact ok_retok (by rcases h1 with rfl | rfl; exact .inl ho; exact .inr ho) h2 h
    · exact ok_none h
  case inr.inr.inr.inr.inr.inl =>
    obtain ⟨t, l', c', e, i, rfl, h1, h2, rfl, h3, h4, h5, h6, h7, h8, h9⟩ := trOp_mkslice ht
    exact ok_vmake ho h1 h2 h3 h4 h7 h8 h9 h5 h6 h
  case inr.inr.inr.inr.inr.inr =>
    obtain ⟨s', x', t, u, e, i, z, rfl, h1, h2, h3, rfl, rfl, h4, h5, h6, h7, h8, h9⟩ := trOp_append ht
    exact ok_vapp ho h1 h2 h3 h4 h5 h6 h7 h8 h9 h
  case inr.inl =>
    obtain ⟨e, y, rfl, h1⟩ := trOp_box ht
    exact ok_boxI ho h1 h
  case inr.inr.inl =>
    obtain ⟨t, y, lo, hi, mx, e, rfl, h1, h2, h3, h4, h5, h6⟩ := trOp_slc ht
    exact ok_slcN ho h1 h2 h3 h4 h5 h6 h
  case inr.inr.inr =>
    obtain ⟨t, y, lo, hi, mx, e, rfl, h1, h2, h3, h4, h5, h6⟩ := trOp_slc ht
    exact ok_slcR ho h1 h2 h3 h4 h5 h6 h
  cases op <;> simp only [trOp] at ht <;> try (simp at ht; done)
  case move x =>
    simp only [Option.map_eq_some_iff] at ht; obtain ⟨_, h1, rfl⟩ := ht
    exact ok_mov (.inl ho) h1 h
  case assign x =>
    simp only [Option.map_eq_some_iff] at ht; obtain ⟨_, h1, rfl⟩ := ht
    exact ok_mov (.inr ho) h1 h
  case pick c x y =>
    split at ht <;> simp at ht
    subst ht
    exact ok_pick ho (by assumption) (by assumption) (by assumption) h
  case alloc e =>
    simp only [Option.map_eq_some_iff] at ht; obtain ⟨_, h1, rfl⟩ := ht
    exact ok_alloc ho h1 h
  case box e x =>
    simp only [Option.map_eq_some_iff] at ht; obtain ⟨_, h1, rfl⟩ := ht
    exact ok_box ho h1 h
  case build t ps =>
    split at ht
    · split at ht
      · rename_i hu hz hall
        simp only [Option.map_eq_some_iff] at ht; obtain ⟨_, h1, rfl⟩ := ht
        exact ok_buildS ho hu hz hall h1 h
      · simp at ht
    · rename_i hu hz
      split at ht
      · rename_i hsz
        simp only [Option.map_eq_some_iff] at ht; obtain ⟨_, h1, rfl⟩ := ht
        exact ok_buildA ho hu hz hsz h1 h
      · simp at ht
    · simp at ht
  case buildSlice t len ps =>
    split at ht
    · rename_i hu
      split at ht
      · rename_i hsz
        split at ht
        · rename_i hc
          obtain ⟨c1, c2, c3⟩ := hc
          obtain ⟨z, hz⟩ := Option.isSome_iff_exists.1 c3
          simp only [Option.map_eq_some_iff] at ht; obtain ⟨_, h1, rfl⟩ := ht
          exact ok_bslice ho hu hsz c1 c2 hz h1 h
        · simp at ht
      · simp at ht
    · simp at ht
  case load t x =>
    split at ht <;> simp at ht
    subst ht
    exact ok_load ho (by assumption) (by assumption) h
  case store t p x =>
    split at ht <;> simp at ht
    subst ht
    exact ok_store ho (hd rfl) (by assumption) (by assumption) (by assumption) h
  case nilCheck x =>
    simp only [Option.map_eq_some_iff] at ht; obtain ⟨_, h1, rfl⟩ := ht
    exact ok_nilchk ho h1 h
  case binOp op t x y yt =>
    split at ht
    · rename_i hx hy
      have bool : ∀ {tb : Bool}, tb = isBool P t → tb = true → isBool P t = true := fun e h => e ▸ h
      split at ht
      · split at ht
        · simp at ht; subst ht
          exact ok_bin ho (bool rfl) hx hy h
        · split at ht
          · rename_i hn
            simp at ht; subst ht
            rw [Bool.and_eq_true] at hn
            exact ok_isnil ho (.inl ⟨rfl, rfl⟩) hn.1 hn.2 hx hy h
          · split at ht
            · rename_i hi
              simp at ht; subst ht
              exact ok_eqI ho (.inl ⟨rfl, rfl⟩) hi hx hy h
            · simp only [Option.map_eq_some_iff] at ht; obtain ⟨_, h1, rfl⟩ := ht
              exact ok_eqs ho (.inl ⟨rfl, rfl⟩) h1 hx hy h
      · split at ht
        · simp at ht; subst ht
          exact ok_bin ho (bool rfl) hx hy h
        · split at ht
          · rename_i hn
            simp at ht; subst ht
            rw [Bool.and_eq_true] at hn
            exact ok_isnil ho (.inr ⟨rfl, rfl⟩) hn.1 hn.2 hx hy h
          · split at ht
            · rename_i hi
              simp at ht; subst ht
              exact ok_eqI ho (.inr ⟨rfl, rfl⟩) hi hx hy h
            · simp only [Option.map_eq_some_iff] at ht; obtain ⟨_, h1, rfl⟩ := ht
              exact ok_eqs ho (.inr ⟨rfl, rfl⟩) h1 hx hy h
      · simp at ht; subst ht
        exact ok_bin ho (by simp) hx hy h
    · simp at ht
  case unOp op t x =>
    simp only [Option.map_eq_some_iff] at ht; obtain ⟨_, h1, rfl⟩ := ht
    exact ok_un ho h1 h
  case convert s d x =>
    split at ht <;> simp at ht
    subst ht
    exact ok_conv ho (by assumption) (by assumption) (by assumption) h
  case makeInterface t x =>
    split at ht
    · simp at ht
    · rename_i d hu hn
      simp only [Option.map_eq_some_iff] at ht; obtain ⟨_, h1, rfl⟩ := ht
      exact ok_mkiface ho hn (fun ms e => hu ms e) h1 h
    · simp at ht
  case makeFunc fn first caps =>
    cases fn <;> simp only [] at ht <;> try (simp at ht; done)
    split at ht <;> simp at ht
    subst ht
    exact ok_mkfn ho (by assumption) (by assumption) h
  case makeSlice t l c =>
    split at ht
    · rename_i hu
      split at ht
      · rename_i hi hr hz hl hc
        split at ht <;> simp at ht
        rename_i hcnd
        obtain ⟨c1, c2, c3⟩ := hcnd
        subst ht
        exact ok_mkslice ho hu hi hr hz c1 c2 c3 hl hc h
      · simp at ht
    · simp at ht
  case slice t x lo hi mx =>
    split at ht
    · rename_i hu
      split at ht <;> simp at ht
      subst ht
      exact ok_slc ho hu (by assumption) (by assumption) (by assumption) (by assumption) (by assumption) h
    · simp at ht
  case fieldAddr s x f =>
    split at ht
    · rename_i hu hx
      split at ht
      · rename_i hf
        split at ht
        · rename_i n hn
          split at ht <;> simp at ht
          rename_i hn0
          subst ht
          exact ok_fldA ho hu hf hn hn0 hx h
        · simp at ht
      · simp at ht
    · simp at ht
  case field s x f =>
    split at ht
    · rename_i hu hx
      split at ht
      · rename_i hf
        simp only [Option.map_eq_some_iff] at ht; obtain ⟨⟨g, n⟩, h1, rfl⟩ := ht
        exact ok_fldV ho hu hf h1 hx h
      · simp at ht
    · simp at ht
  case indexAddr t x i =>
    split at ht
    · rename_i hu hx hi
      simp only [Option.map_eq_some_iff] at ht; obtain ⟨_, h1, rfl⟩ := ht
      exact ok_idxS ho hu h1 hx hi h
    · rename_i hu hx hi
      simp only [Option.map_eq_some_iff] at ht; obtain ⟨_, h1, rfl⟩ := ht
      exact ok_idxR ho hu h1 hx hi h
    · simp at ht
  case index t x i =>
    split at ht
    · rename_i hu hx hi
      simp only [Option.map_eq_some_iff] at ht; obtain ⟨⟨g, n⟩, h1, rfl⟩ := ht
      exact ok_idxV ho hu h1 hx hi h
    · simp at ht
  case extract x i =>
    simp only [Option.map_eq_some_iff] at ht; obtain ⟨_, h1, rfl⟩ := ht
    exact ok_extract ho h1 h
  case call c =>
    obtain ⟨callee, args, types⟩ := c
    simp only [trCall] at ht
    split at ht
    · split at ht <;> simp at ht
      subst ht
      exact ok_none h
    · exact builtin_ok ho ht h
    · simp only [Option.map_eq_some_iff] at ht; obtain ⟨_, h1, rfl⟩ := ht
      exact ok_none h
    · simp at ht
  case panic x =>
    simp only [Option.map_eq_some_iff] at ht; obtain ⟨_, h1, rfl⟩ := ht
    exact ok_none h
  case makeMap t r =>
    cases r <;> simp only [trOp] at ht <;> simp at ht
    subst ht
    exact ok_mkmap ho h
  case lookup t x i c =>
    split at ht
    · rename_i hu hx hi
      split at ht <;> simp at ht
      subst ht
      exact ok_look ho hu (by assumption) (by assumption) hx hi h
    · simp at ht
  case mapUpdate t m k v =>
    split at ht
    · rename_i hu hm hk hv
      simp only [Option.map_eq_some_iff] at ht; obtain ⟨kk, h1, rfl⟩ := ht
      exact ok_mset (.inl ho) (hd rfl) hu h1 hm hk hv h
    · simp at ht
  case insert t m k v =>
    split at ht
    · rename_i hu hm hk hv
      simp only [Option.map_eq_some_iff] at ht; obtain ⟨kk, h1, rfl⟩ := ht
      exact ok_mset (.inr ho) (hd rfl) hu h1 hm hk hv h
    · simp at ht
  case mapEntry t m k =>
    split at ht
    · rename_i hu hm hk
      split at ht <;> simp at ht
      subst ht
      exact ok_ment ho hu (by assumption) (by assumption) hm hk h
    · simp at ht
  case entryStore t m s v =>
    split at ht <;> simp at ht
    subst ht
    exact ok_eset ho (hd rfl) (by assumption) (by assumption) (by assumption) h
  case typeAssert x xt t c =>
    split at ht
    · simp at ht
    · rename_i d hn hu
      split at ht <;> simp at ht
      subst ht
      exact ok_tas ho hu (fun ms e => hn ms e) (by assumption) (by assumption) h
    · simp at ht
  case range t x =>
    split at ht <;> simp at ht
    subst ht
    exact ok_rng ho (by assumption) (by assumption) h
  case next it b =>
    cases b
    · simp only [Bool.false_eq_true, if_false, Option.map_eq_some_iff] at ht
      obtain ⟨_, h1, rfl⟩ := ht
      exact ok_nxt ho h1 h
    · simp at ht
  case entry it =>
    simp only [Option.map_eq_some_iff] at ht; obtain ⟨_, h1, rfl⟩ := ht
    exact ok_entr ho h1 h
end Abs

namespace Abs
open Go
theorem Fr.putA {K : Gh} {N env a} (h : Fr K N env a) {d : Option Nat} (hd : ∀ x, d = some x → x < N) {av v} (hr : Rel K av v) : Fr K N (putA d av env) (a.put d v) := by
  cases d with
  | none => exact h
  | some d => exact h.put (hd d rfl) hr
theorem Fr.skipA {K : Gh} {N env a} (h : Fr K N env a) {d : Option Nat} (hd : ∀ x, d = some x → x < N) : Fr K N (skipA d env) (a.put d undef) := by
  cases d with
  | none => exact h
  | some d => exact h.put (hd d rfl) (.tup [] #[] rfl (fun i h => by simp at h))
theorem trInst_some {P N ops o} {i : AInst} (h : trInst P N ops o = some i) : trOp P o.op = some i.op ∧ o.dst = i.dst ∧ (∀ x, o.dst = some x → x < N) ∧ (isStore i.op = true → o.dst = none) ∧
    ((o.guard = none ∧ i.guard = none) ∨ ∃ j b s, o.guard = some (j, b) ∧ i.guard = some (s, b) ∧ (ops[j]?).bind (·.dst) = some s) := by
  unfold trInst at h
  split at h
  · simp at h
  · rename_i a ha
    split at h
    · rename_i hc
      have hc1 : ∀ x, o.dst = some x → x < N := fun x hx => by rw [hx] at hc; simp [dstOk] at hc; exact hc.1
      have hc2 : isStore a = true → o.dst = none := fun hs => by
        cases hd : o.dst with
        | none => rfl
        | some d => rw [hd] at hc; simp [dstOk, hs] at hc
      split at h
      · simp at h; subst h
        rename_i hg
        exact ⟨ha, rfl, hc1, hc2, .inl ⟨hg, rfl⟩⟩
      · rename_i j b hg
        split at h <;> simp at h
        subst h
        rename_i s hs
        exact ⟨ha, rfl, hc1, hc2, .inr ⟨j, b, s, hg, rfl, hs⟩⟩
    · simp at h
theorem callFunc_run {P : Program} {f : FuncId} (h : callable P f = true) (args : Array Value) (w : World) : (callFunc f args).run P w = .ok (.enter f args) w := by
  unfold callable at h
  split at h
  · rename_i fn hf
    simp at h
    obtain ⟨h1, h2⟩ := h
    have h3 : fn.body.isNone = false := by cases hb : fn.body <;> simp_all
    simp only [callFunc, Sem.run_bind, run_program, Result.andThen_ok, hf]
    rw [if_neg (by simp [h2]), if_neg (by simp [h3])]
    rfl
  · simp at h
theorem call_run {P : Program} {o : Oper} {a : Act} {f : Operand} {args : Array Operand} {types : Array TypeId} (ho : o.op = .call { callee := .value f, args := args, argTypes := types }) {g : Nat} {fs cs : Array Value}
    (hf : a.eval f = .func (.func g) fs cs) (hc : callable P g = true) (w : World) : (execOp a.eval o).run P w = .ok (.enter g (fs ++ args.map a.eval ++ cs)) w := by
  simp only [execOp, ho, resolve, hf, Deferred.ofValue, Sem.run_bind, Sem.run_pure, Result.andThen_ok, invoke]
  exact callFunc_run hc _ w
theorem call_meth {P : Program} {o : Oper} {a : Act} {r : Operand} {name : String} {args : Array Operand} {types : Array TypeId} (ho : o.op = .call { callee := .invoke r name, args := args, argTypes := types }) {t g : Nat} {v : Value}
    (hr : a.eval r = .iface t v) (ht : (t, g) ∈ methTbl P name) (hc : callable P g = true) (w : World) : (execOp a.eval o).run P w = .ok (.enter g (#[v] ++ args.map a.eval)) w := by
  have hm := meth_run ht (P.types.size + Made.depth - 1) v w
  have h0 : 0 < Made.depth := by decide
  have e : P.types.size + Made.depth - 1 + 1 = P.types.size + Made.depth := by omega
  rw [e] at hm
  have hx : (#[Value.iface t v] ++ args.map a.eval)[0]? = some (.iface t v) := by rw [Array.getElem?_append_left (by simp)]; rfl
  have hy : (#[Value.iface t v] ++ args.map a.eval).extract 1 (#[Value.iface t v] ++ args.map a.eval).size = args.map a.eval := by
    apply Array.ext'
    simp
    rw [List.take_of_length_le (by simp)]
  simp only [execOp, ho, resolve, hr, Sem.run_bind, Sem.run_pure, Result.andThen_ok, invoke, hx, hy, callMethod, run_program, hm]
  exact callFunc_run hc _ w
theorem meth_rel {K : Gh} {N : Nat} {env : Env} {a : Act} (hf : Fr K N env a) {r : Nat} {tbl : List (Nat × Nat)} {g : Nat} {first caps : List AV} (h : aval env (.m r tbl) = some (.fn g first caps)) :
    ∃ t v av, a.eval (.tmp r) = .iface t v ∧ Rel K av v ∧ (t, g) ∈ tbl ∧ first = [av] ∧ caps = [] := by
  simp only [aval, methA] at h
  split at h
  · rename_i t av he
    simp only [Option.map_eq_some_iff] at h
    obtain ⟨f, h1, h2⟩ := h
    simp only [AV.fn.injEq] at h2
    obtain ⟨rfl, rfl, rfl⟩ := h2
    obtain ⟨u, e, rr⟩ := hf.rel r _ he
    cases rr with
    | iface _ _ v hv => exact ⟨t, v, av, by simp [Act.eval, Array.getD_eq_getD_getElem?, e], hv, fGet_mem h1, rfl, rfl⟩
  · simp at h
theorem call_wp {P : Program} {N : Nat} {Q : AExit → Env → Sig → Prop} {o : Oper} {i : AInst} {env : Env} {S : Nat → Prop} {K0 K : Gh} {a : Act} {w : World} (k : Env → Sig → Prop) (next : Act → World → Prop)
    (hK : K0.leS S K) (hop : trOp P o.op = some i.bare.op) (hdst : o.dst = i.dst) (hdN : ∀ x, o.dst = some x → x < N)
    (hnext : ∀ K1 env1 σ1 a1 w1, K0.leS S K1 → k env1 σ1 → Fr K1 N env1 a1 → Sat K1 σ1 w1 → next a1 w1)
    {f : AOpnd} {args : List AOpnd} (hi : i.op = .call f args) {g : FuncId} {first caps vs : List AV} (f1 : aval env f = some (.fn g first caps)) (f2 : avals env args = some vs) (hcal : callable P g = true)
    (hc : ∀ vals : Array Value, RelL K (first ++ vs ++ caps) vals.toList → Calls P g vals w fun e w' => ∃ K' r σ', K.leS S K' ∧ Sat K' σ' w' ∧ EndRel K' e r ∧ retK (fun v σ' => k (putA i.dst v env) σ') (fun v σ' => Q (.panic v) env σ') r σ')
    (hf : Fr K N env a) : o.wp P a w next (LiftQ N S K0 Q) := by
  have hop' : trOp P o.op = some (.call f args) := by rw [hop]; simp [AInst.bare, hi, AOp.bare]
  generalize ho : o.op = op at hop'
  cases op
  case call c =>
    obtain ⟨callee, cargs, types⟩ := c
    simp only [trOp, trCall] at hop'
    split at hop'
    · split at hop' <;> simp at hop'
      rename_i fo _ fa l t1 t2
      obtain ⟨rfl, rfl⟩ := hop'
      have rf := trOpnd_rel t1 f1 hf
      have ra := trOpnds_rel hf t2 f2
      obtain ⟨fs, cs, ef, r1, r2⟩ := rel_fn rf
      unfold Oper.wp
      rw [call_run ho ef hcal w, Oper.upon_enter]
      have hargs : RelL K (first ++ vs ++ caps) (fs ++ cargs.map a.eval ++ cs).toList := by
        simp only [Array.toList_append, Array.toList_map]
        exact (r1.append ra).append r2
      refine (hc _ hargs).mono ?_
      rintro e w' ⟨K', r, σ', h1, h2, h3, h4⟩
      cases e <;> cases r <;> first | exact h3.elim | skip
      · exact hnext K' _ σ' _ w' (hK.trans h1) h4 (by rw [← hdst]; exact (hf.mono h1.le).putA hdN h3) h2
      · obtain ⟨v, rfl, hv⟩ := h3
        exact ⟨.panic _, K', env, σ', hK.trans h1, ⟨v, rfl, hv⟩, hf.mono h1.le, h2, h4⟩
    · rename_i b hb
      exfalso
      unfold trBuiltin at hop'
      repeat' split at hop'
      all_goals first
        | (simp at hop'; done)
        | (simp only [Option.map_eq_some_iff] at hop'; obtain ⟨_, _, e⟩ := hop'; simp at e)
    · rename_i r name
      simp only [Option.map_eq_some_iff] at hop'
      obtain ⟨l, t2, h2⟩ := hop'
      simp only [AOp.call.injEq] at h2
      obtain ⟨rfl, rfl⟩ := h2
      obtain ⟨t, v, av, ev, rv, hmem, rfl, rfl⟩ := meth_rel hf f1
      have ra := trOpnds_rel hf t2 f2
      unfold Oper.wp
      rw [call_meth ho ev hmem hcal w, Oper.upon_enter]
      have hargs : RelL K ([av] ++ vs ++ []) (#[v] ++ cargs.map a.eval).toList := by
        simp only [Array.toList_append, Array.toList_map, List.append_nil]
        exact (RelL.cons rv .nil).append ra
      refine (hc _ hargs).mono ?_
      rintro e w' ⟨K', r, σ', h1, h2, h3, h4⟩
      cases e <;> cases r <;> first | exact h3.elim | skip
      · exact hnext K' _ σ' _ w' (hK.trans h1) h4 (by rw [← hdst]; exact (hf.mono h1.le).putA hdN h3) h2
      · obtain ⟨v, rfl, hv⟩ := h3
        exact ⟨.panic _, K', env, σ', hK.trans h1, ⟨v, rfl, hv⟩, hf.mono h1.le, h2, h4⟩
    · simp at hop'
  case makeFunc fn first caps =>
    exfalso
    cases fn <;> simp only [trOp] at hop' <;> try (simp at hop'; done)
    split at hop' <;> simp at hop'
  case makeMap t r => exfalso; cases r <;> simp [trOp] at hop'
  all_goals
    exfalso
    simp only [trOp] at hop'
    repeat' split at hop'
    all_goals first
      | (simp at hop'; done)
      | (simp only [Option.map_eq_some_iff] at hop'; obtain ⟨_, _, e⟩ := hop'; simp at e)
theorem inst_wp {P : Program} {N : Nat} {Q : AExit → Env → Sig → Prop} {o : Oper} {i : AInst} {env : Env} {σ : Sig} {S : Nat → Prop} (hS : Bnd S) {K0 K : Gh} {a : Act} {w : World} (k : Env → Sig → Prop) (next : Act → World → Prop)
    (hK : K0.leS S K) (hop : trOp P o.op = some i.bare.op) (hdst : o.dst = i.dst) (hdN : ∀ x, o.dst = some x → x < N) (hst : isStore i.bare.op = true → o.dst = none)
    (hnext : ∀ K1 env1 σ1 a1 w1, K0.leS S K1 → k env1 σ1 → Fr K1 N env1 a1 → Sat K1 σ1 w1 → next a1 w1)
    (hrun : instRun P Q (fun v σ' => k (putA i.dst v env) σ') env σ i.op)
    (hf : Fr K N env a) (hs : Sat K σ w) : o.wp P a w next (LiftQ N S K0 Q) := by
  have gen : ∀ op, i.op = op → exOp env σ (fun v σ' => k (putA i.dst v env) σ') op → o.wp P a w next (LiftQ N S K0 Q) := by
    intro op hop' h
    obtain ⟨nm, n1, n2, n3⟩ := freshFor hs hS
    obtain ⟨K', av, ef, v, w', h1, h2, h3, h4, h5⟩ := op_ok (N := N) hop (a' := op) (by rw [← hop']; rfl) hst (exOp_N n3 h) S K a w hf hs n1 n2
    unfold Oper.wp
    rcases h1 with h1 | ⟨h1, hd⟩
    · rw [h1]
      show next (a.put o.dst v) w'
      exact hnext K' _ _ _ w' (hK.trans h2) h5 (by rw [← hdst]; exact (hf.mono h2.le).putA hdN h3) h4
    · rw [h1]
      show next (a.put o.dst undef) w'
      refine hnext K' _ _ _ w' (hK.trans h2) h5 ?_ h4
      rw [← hdst, hd]; exact hf.mono h2.le
  cases hi : i.op
  case call f args =>
    rw [hi] at hrun
    obtain ⟨fv, f1, hr1⟩ := wth_some hrun
    obtain ⟨vs, f2, hr2⟩ := wthL_some hr1
    clear hrun hr1
    cases fv <;> first | exact hr2.elim | skip
    rename_i g first caps
    exact call_wp k next hK hop hdst hdN hnext hi f1 f2 hr2.1 (fun vals hargs => hr2.2 S K w vals hS hargs hs) hf
  case panic x =>
    rw [hi] at hrun
    obtain ⟨v, f1, hr1⟩ := wth_some hrun
    clear hrun
    cases v <;> first | exact hr1.elim | skip
    rename_i t av
    have hop' : trOp P o.op = some (.panic x) := by rw [hop]; simp [AInst.bare, hi, AOp.bare]
    generalize ho : o.op = op at hop'
    cases op
    case panic y =>
      simp only [trOp, Option.map_eq_some_iff] at hop'
      obtain ⟨z, t1, t2⟩ := hop'
      simp at t2; subst t2
      have rv := trOpnd_rel t1 f1 hf
      generalize hy : a.eval y = yv at rv
      cases rv with
      | iface _ _ u hu =>
        unfold Oper.wp
        have : (execOp a.eval o).run P w = .halt (.panic (.iface t u)) w := by simp [execOp, ho, hy, Instr.panic]
        rw [this, Oper.upon_panic]
        exact ⟨.panic (.iface t av), K, env, σ, hK, ⟨_, rfl, .iface t av u hu⟩, hf, hs, hr1⟩
    case call c =>
      exfalso
      obtain ⟨callee, cargs, types⟩ := c
      simp only [trOp, trCall] at hop'
      split at hop'
      · split at hop' <;> simp at hop'
      · unfold trBuiltin at hop'
        repeat' split at hop'
        all_goals first
          | (simp at hop'; done)
          | (simp only [Option.map_eq_some_iff] at hop'; obtain ⟨_, _, e⟩ := hop'; simp at e)
      · simp only [Option.map_eq_some_iff] at hop'; obtain ⟨_, _, e⟩ := hop'; simp at e
      · simp at hop'
    case makeFunc fn first caps =>
      exfalso
      cases fn <;> simp only [trOp] at hop' <;> try (simp at hop'; done)
      split at hop' <;> simp at hop'
    case makeMap t r => exfalso; cases r <;> simp [trOp] at hop'
    all_goals
      exfalso
      simp only [trOp] at hop'
      repeat' split at hop'
      all_goals first
        | (simp at hop'; done)
        | (simp only [Option.map_eq_some_iff] at hop'; obtain ⟨_, _, e⟩ := hop'; simp at e)
  all_goals
    rw [hi] at hrun
    exact gen _ hi hrun
theorem guard_wanted {K : Gh} {N env a} (hf : Fr K N env a) {ops : Array Oper} {o : Oper} {j : Nat} {b p : Bool} {s : Nat} (hg : o.guard = some (j, b)) (hd : (ops[j]?).bind (·.dst) = some s) (hp : lk env s = some (.bool p)) :
    Region.wanted o (yielded ops a.tmps) = (p == b) := by
  obtain ⟨v, h1, h2⟩ := hf.rel s _ hp
  have := rel_bool h2
  subst this
  simp [Region.wanted, hg, yielded, hd, h1]
theorem guard_undef {K : Gh} {N env a} (hf : Fr K N env a) {ops : Array Oper} {o : Oper} {j : Nat} {b : Bool} {s : Nat} {vs : List AV} (hg : o.guard = some (j, b)) (hd : (ops[j]?).bind (·.dst) = some s) (hp : lk env s = some (.tup vs)) :
    Region.wanted o (yielded ops a.tmps) = false := by
  obtain ⟨v, h1, h2⟩ := hf.rel s _ hp
  cases h2 with
  | tup _ us _ _ => simp [Region.wanted, hg, yielded, hd, h1]
theorem insts_ok {P : Program} {N : Nat} {Q : AExit → Env → Sig → Prop} {ops : Array Oper} {S : Nat → Prop} (hS : Bnd S) {K0 : Gh} : ∀ (is : List AInst) (k : Nat) (os : List Oper), ops.toList.drop k = os → trInsts P N ops os = some (is.map AInst.bare) →
    ∀ env σ K a w, K0.leS S K → exInsts P Q is env σ → Fr K N env a → Sat K σ w → wpOps P ops (LiftQ N S K0 Q) (List.range' k os.length) a w
  | [], k, os, hos, ht, env, σ, K, a, w, hK, hx, hf, hs => by
    cases os with
    | cons o os => simp only [trInsts] at ht; split at ht <;> simp at ht
    | nil =>
      simp only [List.length_nil, List.range'_zero, wpOps]
      exact ⟨.normal, K, env, σ, hK, trivial, hf, hs, hx⟩
  | i :: is, k, os, hos, ht, env, σ, K, a, w, hK, hx, hf, hs => by
    cases os with
    | nil => simp [trInsts] at ht
    | cons o os =>
      simp only [trInsts] at ht
      split at ht <;> simp at ht
      rename_i i' l h1 h2
      obtain ⟨rfl, rfl⟩ := ht
      obtain ⟨t1, t2, t3, t4, t5⟩ := trInst_some h1
      have hget : ops[k]? = some o := by
        have := congrArg (·[0]?) hos
        simpa using this
      have hdrop : ops.toList.drop (k + 1) = os := by
        rw [← List.drop_drop, hos]; rfl
      have ih := fun env σ K a w hK hx hf hs => insts_ok (Q := Q) hS (K0 := K0) is (k + 1) os hdrop h2 env σ K a w hK hx hf hs
      rw [List.length_cons, List.range'_succ]
      simp only [wpOps, hget]
      obtain ⟨d, op, g⟩ := i
      have key := inst_wp (P := P) (N := N) (Q := Q) (o := o) (i := ⟨d, op, g⟩) (env := env) (σ := σ) hS (K0 := K0) (K := K) (a := a) (w := w) (fun env σ => exInsts P Q is env σ)
        (wpOps P ops (LiftQ N S K0 Q) (List.range' (k + 1) os.length)) hK t1 t2 t3 t4 (fun K1 env1 σ1 a1 w1 q1 q2 q3 q4 => ih env1 σ1 K1 a1 w1 q1 q2 q3 q4)
      simp only [exInsts] at hx
      rcases t5 with ⟨g1, g2⟩ | ⟨j, b, s, g1, g2, g3⟩
      · have hgn : g = none := by simpa [AInst.bare] using g2
        subst hgn
        simp only [Region.wanted, g1, if_true]
        left
        exact key hx hf hs
      · have hgs : g = some (s, b) := by simpa [AInst.bare] using g2
        subst hgs
        obtain ⟨gv, e1, hx⟩ := wth_some hx
        have skips : exInsts P Q is (Abs.skipA d env) σ → wpOps P ops (LiftQ N S K0 Q) (List.range' (k + 1) os.length) (a.put o.dst undef) w := fun hx => by
          refine ih _ σ K _ w hK hx ?_ hs
          have e2 : o.dst = d := t2
          rw [e2]; exact hf.skipA (fun x hx => t3 x (by rw [e2]; exact hx))
        cases gv <;> first | exact hx.elim | skip
        case tup vs =>
          rw [guard_undef hf g1 g3 e1]
          simp only [Bool.false_eq_true, if_false]
          exact skips hx
        rename_i p
        rw [guard_wanted hf g1 g3 e1]
        by_cases hpb : p = b
        · simp only [hpb, beq_self_eq_true, if_true]
          left
          exact key (hx.1 hpb) hf hs
        · have : (p == b) = false := by simpa using hpb
          simp only [this, Bool.false_eq_true, if_false]
          exact skips (hx.2 hpb)
end Abs

