/- The abstraction layer, part S: how simp computes the predicate transformer: each form under a mark, so that simp works at its head alone. Over any program. -/
import Derived.Attr
import Derived.Test.YtbbihmmobfmadaaGreatOAbsK
set_option linter.unusedSimpArgs false
set_option linter.unusedVariables false
namespace Abs
open Go
def XO (env : Env) (σ : Sig) (R : AV → Option (Nat × AObj) → Prop) (op : AOp) (_ : Tg (env, σ, R, op) := .mk) : Prop := exOpG (fun k => fresh σ k) env σ R op
def IR (P : Program) (Q : AExit → Env → Sig → Prop) (k : AV → Sig → Prop) (env : Env) (σ : Sig) (op : AOp) (_ : Tg (Q, k, env, σ, op) := .mk) : Prop := instRun P Q k env σ op
def ID (P : Program) (k : AV → Option (Nat × AObj) → Prop) (kc : AV → List (Nat × AObj) → Prop) (env : Env) (σ σb : Sig) (op : AOp) (_ : Tg (k, kc, env, σ, σb, op) := .mk) : Prop := instDraw P k kc env σ σb op
def XI (P : Program) (Q : AExit → Env → Sig → Prop) (is : List AInst) (env : Env) (σ : Sig) (_ : Tg (Q, is, env, σ) := .mk) : Prop := exInsts P Q is env σ
def XD (P : Program) (ps : List (Nat × Nat)) (k : Env → Sig → Prop) (is : List AInst) (n : Nat) (tl : List (Nat × TI)) (env : Env) (σ : Sig) (_ : Tg (k, is, tl, env, σ) := .mk) : Prop := exDraw P ps k is n tl env σ
def TC (n : Nat) (env : Env) (σ : Sig) (op : AOp) (tl : List (Nat × TI)) (e : Option (Nat × AObj)) (_ : Tg (env, σ, op, tl) := .mk) : List (Nat × TI) := tch n env σ op tl e
def XC (P : Program) (c : ACode) (Q : AExit → Env → Sig → Prop) (env : Env) (σ : Sig) (_ : Tg (c, Q, env, σ) := .mk) : Prop := ex P c Q env σ
def XR (env : Env) (σ : Sig) (R : List AV → Prop) (rs : List ARV) (_ : Tg (env, σ, R, rs) := .mk) : Prop := exRes env σ R rs
section
variable (P : Program) (Q : AExit → Env → Sig → Prop) (env : Env) (σ σb : Sig) (R : AV → Option (Nat × AObj) → Prop) (k : AV → Sig → Prop) (kd : AV → Option (Nat × AObj) → Prop) (kc : AV → List (Nat × AObj) → Prop) (k0 : Env → Sig → Prop) (is : List AInst)
theorem xi_nil : XI P Q [] env σ = Q .normal env σ := rfl
theorem xi_cons (d op) : XI P Q (⟨d, op, none⟩ :: is) env σ = IR P Q (fun v σ' => XI P Q is (putA d v env) σ') env σ op := rfl
theorem xi_consg (d op s b) : XI P Q (⟨d, op, some (s, b)⟩ :: is) env σ = wth (lk env s) fun v => match v with
    | .bool p => gd p b (IR P Q (fun v σ' => XI P Q is (putA d v env) σ') env σ op) (XI P Q is (skipA d env) σ)
    | .tup _ => XI P Q is (skipA d env) σ
    | _ => False := rfl
theorem xd_nil (ps n tl) : XD P ps k0 [] n tl env σ = req (apartP tl ps) (k0 env σ) := rfl
theorem xd_cons (ps n tl d op) : XD P ps k0 (⟨d, op, none⟩ :: is) n tl env σ = ID P (fun v e => XD P ps k0 is (n + 1) (TC n env σ op tl e) (putA d v env) (app σ e)) (fun v us => XD P ps k0 is (n + 1) ((n, .call us) :: tl) (putA d v env) (apps σ us)) env σ (baseS n σ ps) op := rfl
theorem xd_consg (ps n tl d op s b) : XD P ps k0 (⟨d, op, some (s, b)⟩ :: is) n tl env σ = wth (lk env s) fun v => match v with
    | .bool p => gd p b (ID P (fun v e => XD P ps k0 is (n + 1) (TC n env σ op tl e) (putA d v env) (app σ e)) (fun v us => XD P ps k0 is (n + 1) ((n, .call us) :: tl) (putA d v env) (apps σ us)) env σ (baseS n σ ps) op) (XD P ps k0 is (n + 1) tl (skipA d env) σ)
    | .tup _ => XD P ps k0 is (n + 1) tl (skipA d env) σ
    | _ => False := rfl
theorem base_nil (n) : baseS n σ [] = σ := rfl
theorem base_cons (n a b r) : baseS n σ ((a, b) :: r) = if a = n then (if b = n then fun _ => none else baseS n σ r) else baseS n σ r := rfl
theorem xc_skip : XC P .skip Q env σ = Q .normal env σ := rfl
theorem xc_reg : XC P (.reg is) Q env σ = XI P Q is env σ := rfl
theorem xc_drw (ps) : XC P (.drw is ps) Q env σ = XD P ps (fun env σ => Q .normal env σ) is 0 [] env σ := rfl
theorem xc_seq (a b) : XC P (.seq a b) Q env σ = XC P a (thenQ (fun env σ => XC P b Q env σ) Q) env σ := rfl
theorem xc_cut (a b) : XC P (.cut a b) Q env σ = cutP (fun Q env σ => XC P a Q env σ) (fun Q env σ => XC P b Q env σ) Q env σ := rfl
theorem xc_cond (c a b) : XC P (.cond c a b) Q env σ = wth (aval env c) fun v => match v with
    | .bool p => br p (XC P a Q env σ) (XC P b Q env σ)
    | _ => False := rfl
theorem xc_block (id a) : XC P (.block id a) Q env σ = XC P a (blockQ id Q) env σ := rfl
theorem xc_loop (a) : XC P (.loop a) Q env σ = loopP (fun Q env σ => XC P a Q env σ) Q env σ := rfl
theorem xc_exit (id) : XC P (.exit id) Q env σ = Q (.exit id) env σ := rfl
theorem xc_ret : XC P .ret Q env σ = Q .ret env σ := rfl
theorem then_n (K) : thenQ K Q .normal env σ = K env σ := rfl
theorem then_r (K) : thenQ K Q .ret env σ = Q .ret env σ := rfl
theorem then_e (K id) : thenQ K Q (.exit id) env σ = Q (.exit id) env σ := rfl
theorem then_p (K v) : thenQ K Q (.panic v) env σ = Q (.panic v) env σ := rfl
theorem block_n (i) : blockQ i Q .normal env σ = Q .normal env σ := rfl
theorem block_r (i) : blockQ i Q .ret env σ = Q .ret env σ := rfl
theorem block_p (i v) : blockQ i Q (.panic v) env σ = Q (.panic v) env σ := rfl
theorem block_e (i) : blockQ i Q (.exit i) env σ = Q .normal env σ := by simp [blockQ]
theorem block_o (i j) (h : j ≠ i) : blockQ i Q (.exit j) env σ = Q (.exit j) env σ := by simp [blockQ, h]
theorem body_n (rs R) : bodyQ rs R .normal env σ = XR env σ (fun l => fin R (one l) σ) rs := rfl
theorem body_r (rs R) : bodyQ rs R .ret env σ = XR env σ (fun l => fin R (one l) σ) rs := rfl
theorem body_p (rs R v) : bodyQ rs R (.panic v) env σ = finP R v σ := rfl
theorem xr_nil (R) : XR env σ R [] = R [] := rfl
theorem xr_tmp (R t rs) : XR env σ R (.tmp t :: rs) = wth (lk env t) (fun v => XR env σ (fun l => R (v :: l)) rs) := rfl
theorem xr_cell (R t g n rs) : XR env σ R (.cell t g n :: rs) = XO env σ (fun v _ => XR env σ (fun l => R (v :: l)) rs) (.load g n (.t t)) := rfl
theorem retK_r (p v) : retK k p (.ret v) σ = k v σ := rfl
theorem retK_p (p v) : retK k p (.panic v) σ = p v σ := rfl
theorem ir_call (f args) : IR P Q k env σ (.call f args) = wth (aval env f) fun fv => wthL (avals env args) fun vs => match fv with
    | .fn f first caps => ACalls P f (first ++ vs ++ caps) σ (retK k (fun v σ' => Q (.panic v) env σ'))
    | _ => False := rfl
theorem ir_panic (x) : IR P Q k env σ (.panic x) = wth (aval env x) fun v => match v with
    | .iface t a => Q (.panic (.iface t a)) env σ
    | _ => False := rfl
theorem id_call (f args) : ID P kd kc env σ σb (.call f args) = wth (aval env f) fun fv => wthL (avals env args) fun vs => match fv with
    | .fn f first caps => callQ P f (first ++ vs ++ caps) σ σb kc
    | _ => False := rfl
theorem ir_mov (x) : IR P Q k env σ (.mov x) = wth (aval env x) fun a => k a σ := rfl
theorem ir_pick (c a b) : IR P Q k env σ (.pick c a b) = XO env σ (fun v e => k v (app σ e)) (.pick c a b) := rfl
theorem ir_alloc (z) : IR P Q k env σ (.alloc z) = XO env σ (fun v e => k v (app σ e)) (.alloc z) := rfl
theorem ir_box (z) : IR P Q k env σ (.box z) = XO env σ (fun v e => k v (app σ e)) (.box z) := rfl
theorem ir_boxI (z) : IR P Q k env σ (.boxI z) = XO env σ (fun v e => k v (app σ e)) (.boxI z) := rfl
theorem ir_build (z p) : IR P Q k env σ (.build z p) = XO env σ (fun v e => k v (app σ e)) (.build z p) := rfl
theorem ir_bslice (z p) : IR P Q k env σ (.bslice z p) = XO env σ (fun v e => k v (app σ e)) (.bslice z p) := rfl
theorem ir_load (g n x) : IR P Q k env σ (.load g n x) = XO env σ (fun v e => k v (app σ e)) (.load g n x) := rfl
theorem ir_store (n p x) : IR P Q k env σ (.store n p x) = XO env σ (fun v e => k v (app σ e)) (.store n p x) := rfl
theorem ir_nilchk (x) : IR P Q k env σ (.nilchk x) = XO env σ (fun v e => k v (app σ e)) (.nilchk x) := rfl
theorem ir_bin (op t x y) : IR P Q k env σ (.bin op t x y) = XO env σ (fun v e => k v (app σ e)) (.bin op t x y) := rfl
theorem ir_eqs (n ks x y) : IR P Q k env σ (.eqs n ks x y) = XO env σ (fun v e => k v (app σ e)) (.eqs n ks x y) := rfl
theorem ir_un (op x) : IR P Q k env σ (.un op x) = XO env σ (fun v e => k v (app σ e)) (.un op x) := rfl
theorem ir_conv (kk x) : IR P Q k env σ (.conv kk x) = XO env σ (fun v e => k v (app σ e)) (.conv kk x) := rfl
theorem ir_mkfn (f a b) : IR P Q k env σ (.mkfn f a b) = XO env σ (fun v e => k v (app σ e)) (.mkfn f a b) := rfl
theorem ir_fldA (o x) : IR P Q k env σ (.fldA o x) = XO env σ (fun v e => k v (app σ e)) (.fldA o x) := rfl
theorem ir_fldV (g o n x) : IR P Q k env σ (.fldV g o n x) = XO env σ (fun v e => k v (app σ e)) (.fldV g o n x) := rfl
theorem ir_idxS (s x i) : IR P Q k env σ (.idxS s x i) = XO env σ (fun v e => k v (app σ e)) (.idxS s x i) := rfl
theorem ir_idxR (s l x i) : IR P Q k env σ (.idxR s l x i) = XO env σ (fun v e => k v (app σ e)) (.idxR s l x i) := rfl
theorem ir_idxV (g s l x i) : IR P Q k env σ (.idxV g s l x i) = XO env σ (fun v e => k v (app σ e)) (.idxV g s l x i) := rfl
theorem ir_slc (s x a b c) : IR P Q k env σ (.slc s x a b c) = XO env σ (fun v e => k v (app σ e)) (.slc s x a b c) := rfl
theorem ir_extract (x i) : IR P Q k env σ (.extract x i) = XO env σ (fun v e => k v (app σ e)) (.extract x i) := rfl
theorem ir_len (x) : IR P Q k env σ (.len x) = XO env σ (fun v e => k v (app σ e)) (.len x) := rfl
theorem ir_lenS (x) : IR P Q k env σ (.lenS x) = XO env σ (fun v e => k v (app σ e)) (.lenS x) := rfl
theorem ir_cap (x) : IR P Q k env σ (.cap x) = XO env σ (fun v e => k v (app σ e)) (.cap x) := rfl
theorem ir_append (s b x y) : IR P Q k env σ (.append s b x y) = XO env σ (fun v e => k v (app σ e)) (.append s b x y) := rfl
theorem ir_appz (s b x y) : IR P Q k env σ (.appz s b x y) = XO env σ (fun v e => k v (app σ e)) (.appz s b x y) := rfl
theorem ir_slcN (s x a b c) : IR P Q k env σ (.slcN s x a b c) = XO env σ (fun v e => k v (app σ e)) (.slcN s x a b c) := rfl
theorem ir_slcR (s x a b c) : IR P Q k env σ (.slcR s x a b c) = XO env σ (fun v e => k v (app σ e)) (.slcR s x a b c) := rfl
theorem ir_min (l) : IR P Q k env σ (.min l) = XO env σ (fun v e => k v (app σ e)) (.min l) := rfl
theorem ir_max (l) : IR P Q k env σ (.max l) = XO env σ (fun v e => k v (app σ e)) (.max l) := rfl
theorem ir_mkslice (s b z g l c) : IR P Q k env σ (.mkslice s b z g l c) = XO env σ (fun v e => k v (app σ e)) (.mkslice s b z g l c) := rfl
theorem ir_mkiface (t x) : IR P Q k env σ (.mkiface t x) = XO env σ (fun v e => k v (app σ e)) (.mkiface t x) := rfl
theorem id_mov (x) : ID P kd kc env σ σb (.mov x) = wth (aval env x) fun a => kd a none := rfl
theorem tc_mov (nn tl) (x) : TC nn env σ (.mov x) tl none = tl := rfl
theorem id_pick (c a b) : ID P kd kc env σ σb (.pick c a b) = XO env σ kd (.pick c a b) := rfl
theorem tc_pick (nn tl) (c a b) : TC nn env σ (.pick c a b) tl none = tl := rfl
theorem id_alloc (z) : ID P kd kc env σ σb (.alloc z) = XO env σ kd (.alloc z) := rfl
theorem tc_alloc (nn tl) (z) : TC nn env σ (.alloc z) tl none = tl := rfl
theorem id_box (z) : ID P kd kc env σ σb (.box z) = XO env σ kd (.box z) := rfl
theorem tc_box (nn tl) (z) : TC nn env σ (.box z) tl none = tl := rfl
theorem id_boxI (z) : ID P kd kc env σ σb (.boxI z) = XO env σ kd (.boxI z) := rfl
theorem tc_boxI (nn tl) (z) : TC nn env σ (.boxI z) tl none = tl := rfl
theorem id_build (z p) : ID P kd kc env σ σb (.build z p) = XO env σ kd (.build z p) := rfl
theorem tc_build (nn tl) (z p) : TC nn env σ (.build z p) tl none = tl := rfl
theorem id_bslice (z p) : ID P kd kc env σ σb (.bslice z p) = XO env σ kd (.bslice z p) := rfl
theorem tc_bslice (nn tl) (z p) : TC nn env σ (.bslice z p) tl none = tl := rfl
theorem id_load (g n x) : ID P kd kc env σ σb (.load g n x) = XO env σ kd (.load g n x) := rfl
theorem tc_load (nn tl) (g n x) : TC nn env σ (.load g n x) tl none = match aval env x with
    | some (.ptr o off) => (match σ o with
      | some (.cells cs) => (nn, .mem o (some (off, n, (cs.drop off).take n))) :: tl
      | _ => (nn, .mem o none) :: tl)
    | some (.eptr o _ _) => (nn, .mem o none) :: tl
    | _ => tl := by
  show tch nn env σ (.load g n x) tl none = _
  simp only [tch, touchL]
  cases aval env x with
  | none => rfl
  | some a =>
    cases a <;> first | rfl | skip
    rename_i o off
    cases h : σ o with
    | none => simp only [h]
    | some y => cases y <;> simp only [h]
theorem id_store (n p x) : ID P kd kc env σ σb (.store n p x) = XO env σ kd (.store n p x) := rfl
theorem tc_store (nn tl) (n p x) : TC nn env σ (.store n p x) tl none = tl := rfl
theorem id_nilchk (x) : ID P kd kc env σ σb (.nilchk x) = XO env σ kd (.nilchk x) := rfl
theorem tc_nilchk (nn tl) (x) : TC nn env σ (.nilchk x) tl none = tl := rfl
theorem id_bin (op t x y) : ID P kd kc env σ σb (.bin op t x y) = XO env σ kd (.bin op t x y) := rfl
theorem tc_bin (nn tl) (op t x y) : TC nn env σ (.bin op t x y) tl none = tl := rfl
theorem id_eqs (n ks x y) : ID P kd kc env σ σb (.eqs n ks x y) = XO env σ kd (.eqs n ks x y) := rfl
theorem tc_eqs (nn tl) (n ks x y) : TC nn env σ (.eqs n ks x y) tl none = tl := rfl
theorem id_un (op x) : ID P kd kc env σ σb (.un op x) = XO env σ kd (.un op x) := rfl
theorem tc_un (nn tl) (op x) : TC nn env σ (.un op x) tl none = tl := rfl
theorem id_conv (kk x) : ID P kd kc env σ σb (.conv kk x) = XO env σ kd (.conv kk x) := rfl
theorem tc_conv (nn tl) (kk x) : TC nn env σ (.conv kk x) tl none = tl := rfl
theorem id_mkfn (f a b) : ID P kd kc env σ σb (.mkfn f a b) = XO env σ kd (.mkfn f a b) := rfl
theorem tc_mkfn (nn tl) (f a b) : TC nn env σ (.mkfn f a b) tl none = tl := rfl
theorem id_fldA (o x) : ID P kd kc env σ σb (.fldA o x) = XO env σ kd (.fldA o x) := rfl
theorem tc_fldA (nn tl) (o x) : TC nn env σ (.fldA o x) tl none = tl := rfl
theorem id_fldV (g o n x) : ID P kd kc env σ σb (.fldV g o n x) = XO env σ kd (.fldV g o n x) := rfl
theorem tc_fldV (nn tl) (g o n x) : TC nn env σ (.fldV g o n x) tl none = tl := rfl
theorem id_idxS (s x i) : ID P kd kc env σ σb (.idxS s x i) = XO env σ kd (.idxS s x i) := rfl
theorem tc_idxS (nn tl) (s x i) : TC nn env σ (.idxS s x i) tl none = tl := rfl
theorem id_idxR (s l x i) : ID P kd kc env σ σb (.idxR s l x i) = XO env σ kd (.idxR s l x i) := rfl
theorem tc_idxR (nn tl) (s l x i) : TC nn env σ (.idxR s l x i) tl none = tl := rfl
theorem id_idxV (g s l x i) : ID P kd kc env σ σb (.idxV g s l x i) = XO env σ kd (.idxV g s l x i) := rfl
theorem tc_idxV (nn tl) (g s l x i) : TC nn env σ (.idxV g s l x i) tl none = tl := rfl
theorem id_slc (s x a b c) : ID P kd kc env σ σb (.slc s x a b c) = XO env σ kd (.slc s x a b c) := rfl
theorem tc_slc (nn tl) (s x a b c) : TC nn env σ (.slc s x a b c) tl none = tl := rfl
theorem id_extract (x i) : ID P kd kc env σ σb (.extract x i) = XO env σ kd (.extract x i) := rfl
theorem tc_extract (nn tl) (x i) : TC nn env σ (.extract x i) tl none = tl := rfl
theorem id_len (x) : ID P kd kc env σ σb (.len x) = XO env σ kd (.len x) := rfl
theorem tc_len (nn tl) (x) : TC nn env σ (.len x) tl none = tl := rfl
theorem id_lenS (x) : ID P kd kc env σ σb (.lenS x) = XO env σ kd (.lenS x) := rfl
theorem tc_lenS (nn tl) (x) : TC nn env σ (.lenS x) tl none = tl := rfl
theorem id_cap (x) : ID P kd kc env σ σb (.cap x) = XO env σ kd (.cap x) := rfl
theorem tc_cap (nn tl) (x) : TC nn env σ (.cap x) tl none = tl := rfl
theorem id_append (s b x y) : ID P kd kc env σ σb (.append s b x y) = XO env σ kd (.append s b x y) := rfl
theorem tc_append (nn tl) (s b x y) : TC nn env σ (.append s b x y) tl none = tl := rfl
theorem id_appz (s b x y) : ID P kd kc env σ σb (.appz s b x y) = XO env σ kd (.appz s b x y) := rfl
theorem tc_appz (nn tl) (s b x y) : TC nn env σ (.appz s b x y) tl none = tl := rfl
theorem id_slcN (s x a b c) : ID P kd kc env σ σb (.slcN s x a b c) = XO env σ kd (.slcN s x a b c) := rfl
theorem tc_slcN (nn tl) (s x a b c) : TC nn env σ (.slcN s x a b c) tl none = tl := rfl
theorem id_slcR (s x a b c) : ID P kd kc env σ σb (.slcR s x a b c) = XO env σ kd (.slcR s x a b c) := rfl
theorem tc_slcR (nn tl) (s x a b c) : TC nn env σ (.slcR s x a b c) tl none = tl := rfl
theorem id_min (l) : ID P kd kc env σ σb (.min l) = XO env σ kd (.min l) := rfl
theorem tc_min (nn tl) (l) : TC nn env σ (.min l) tl none = tl := rfl
theorem id_max (l) : ID P kd kc env σ σb (.max l) = XO env σ kd (.max l) := rfl
theorem tc_max (nn tl) (l) : TC nn env σ (.max l) tl none = tl := rfl
theorem id_mkslice (s b z g l c) : ID P kd kc env σ σb (.mkslice s b z g l c) = XO env σ kd (.mkslice s b z g l c) := rfl
theorem tc_mkslice (nn tl) (s b z g l c) : TC nn env σ (.mkslice s b z g l c) tl none = tl := rfl
theorem id_mkiface (t x) : ID P kd kc env σ σb (.mkiface t x) = XO env σ kd (.mkiface t x) := rfl
theorem tc_mkiface (nn tl) (t x) : TC nn env σ (.mkiface t x) tl none = tl := rfl
theorem tc_some (nn op tl o x) : TC nn env σ op tl (some (o, x)) = (nn, .mem o none) :: tl := rfl
theorem ir_mkmap : IR P Q k env σ (.ext .mkmap) = XO env σ (fun v e => k v (app σ e)) (.ext .mkmap) := rfl
theorem id_mkmap : ID P kd kc env σ σb (.ext .mkmap) = XO env σ kd (.ext .mkmap) := rfl
theorem tc_mkmap (nn tl ) : TC nn env σ (.ext .mkmap) tl none = tl := rfl
theorem xo_mkmap : XO env σ R (.ext .mkmap) = fresh σ fun o => R (.map o) (some (o, (.map true []))) := rfl
theorem ir_look (kk z c x i) : IR P Q k env σ (.ext (.look kk z c x i)) = XO env σ (fun v e => k v (app σ e)) (.ext (.look kk z c x i)) := rfl
theorem id_look (kk z c x i) : ID P kd kc env σ σb (.ext (.look kk z c x i)) = XO env σ kd (.ext (.look kk z c x i)) := rfl
theorem tc_look (nn tl kk z c x i) : TC nn env σ (.ext (.look kk z c x i)) tl none = match aval env x with
    | some (.map o) => (nn, .mem o none) :: tl
    | _ => tl := by
  show tch nn env σ (.ext (.look kk z c x i)) tl none = _
  simp only [tch, touchL]
  cases aval env x with
  | none => rfl
  | some a => cases a <;> rfl
theorem xo_look (kk z c x i) : XO env σ R (.ext (.look kk z c x i)) = wth (aval env x) fun m => wth (aval env i) fun k => match m with
    | .map o => match σ o with
      | some (.map _ l) => req (keyOk kk k = true) (lkm (lookK kk k l) fun v => R (if c then .tup [v.getD z, .bool v.isSome] else v.getD z) none)
      | _ => False
    | .nilmap => req (keyOk kk k = true) (R (if c then .tup [z, .bool false] else z) none)
    | _ => False := rfl
theorem ir_mset (kk m a v) : IR P Q k env σ (.ext (.mset kk m a v)) = XO env σ (fun v e => k v (app σ e)) (.ext (.mset kk m a v)) := rfl
theorem id_mset (kk m a v) : ID P kd kc env σ σb (.ext (.mset kk m a v)) = XO env σ kd (.ext (.mset kk m a v)) := rfl
theorem tc_mset (nn tl kk m a v) : TC nn env σ (.ext (.mset kk m a v)) tl none = tl := rfl
theorem xo_mset (kk m k v) : XO env σ R (.ext (.mset kk m k v)) = wth (aval env m) fun m => wth (aval env k) fun k => wth (aval env v) fun v => match m with
    | .map o => match σ o with
      | some (.map d l) => req (keyOk kk k = true) (lkm (setK kk k v l) fun l => R (.tup []) (some (o, (.map d l))))
      | _ => False
    | _ => False := rfl
theorem ir_mdel (kk m a) : IR P Q k env σ (.ext (.mdel kk m a)) = XO env σ (fun v e => k v (app σ e)) (.ext (.mdel kk m a)) := rfl
theorem id_mdel (kk m a) : ID P kd kc env σ σb (.ext (.mdel kk m a)) = XO env σ kd (.ext (.mdel kk m a)) := rfl
theorem tc_mdel (nn tl kk m a) : TC nn env σ (.ext (.mdel kk m a)) tl none = tl := rfl
theorem xo_mdel (kk m k) : XO env σ R (.ext (.mdel kk m k)) = wth (aval env m) fun m => wth (aval env k) fun k => match m with
    | .map o => match σ o with
      | some (.map _ l) => req (keyOk kk k = true) (lkm (delK kk k l) fun l => R (.tup []) (some (o, (.map false l))))
      | _ => False
    | _ => False := rfl
theorem ir_lenM (x) : IR P Q k env σ (.ext (.lenM x)) = XO env σ (fun v e => k v (app σ e)) (.ext (.lenM x)) := rfl
theorem id_lenM (x) : ID P kd kc env σ σb (.ext (.lenM x)) = XO env σ kd (.ext (.lenM x)) := rfl
theorem tc_lenM (nn tl x) : TC nn env σ (.ext (.lenM x)) tl none = match aval env x with
    | some (.map o) => (nn, .mem o none) :: tl
    | _ => tl := by
  show tch nn env σ (.ext (.lenM x)) tl none = _
  simp only [tch, touchL]
  cases aval env x with
  | none => rfl
  | some a => cases a <;> rfl
theorem xo_lenM (x) : XO env σ R (.ext (.lenM x)) = wth (aval env x) fun m => match m with
    | .map o => match σ o with
      | some (.map _ l) => R (.int .i64 l.length) none
      | _ => False
    | .nilmap => R (.int .i64 0) none
    | _ => False := rfl
theorem ir_isnil (b x) : IR P Q k env σ (.ext (.isnil b x)) = XO env σ (fun v e => k v (app σ e)) (.ext (.isnil b x)) := rfl
theorem xo_isnil (b x) : XO env σ R (.ext (.isnil b x)) = wth (aval env x) fun a => match a with
    | .slice l _ => ifnil l (R (.bool true) none ∧ R (.bool false) none) (R (.bool b) none)
    | _ => False := rfl
theorem ir_ment (kk z m a) : IR P Q k env σ (.ext (.ment kk z m a)) = XO env σ (fun v e => k v (app σ e)) (.ext (.ment kk z m a)) := rfl
theorem id_ment (kk z m a) : ID P kd kc env σ σb (.ext (.ment kk z m a)) = XO env σ kd (.ext (.ment kk z m a)) := rfl
theorem tc_ment (nn tl kk z m a) : TC nn env σ (.ext (.ment kk z m a)) tl none = tl := rfl
theorem xo_ment (kk z m k) : XO env σ R (.ext (.ment kk z m k)) = wth (aval env m) fun m => wth (aval env k) fun k => match m with
    | .map o => match σ o with
      | some (.map true l) => req (keyOk kk k = true) (lkm (entK kk k z l) fun r => R (.tup [r.1, .int .i64 r.2.1]) (some (o, (.map true r.2.2))))
      | _ => False
    | _ => False := rfl
theorem ir_eset (m s v) : IR P Q k env σ (.ext (.eset m s v)) = XO env σ (fun v e => k v (app σ e)) (.ext (.eset m s v)) := rfl
theorem id_eset (m s v) : ID P kd kc env σ σb (.ext (.eset m s v)) = XO env σ kd (.ext (.eset m s v)) := rfl
theorem tc_eset (nn tl m s v) : TC nn env σ (.ext (.eset m s v)) tl none = tl := rfl
theorem xo_eset (m s v) : XO env σ R (.ext (.eset m s v)) = wth (aval env m) fun m => wth (aval env s) fun s => wth (aval env v) fun v => match m, s with
    | .map o, .int .i64 i => match σ o with
      | some (.map true l) => req (0 ≤ i ∧ i < l.length) (R (.tup []) (some (o, (.map true (l.modify i.toNat fun p => (p.1, v))))))
      | _ => False
    | _, _ => False := rfl
theorem ir_tas (t z c x) : IR P Q k env σ (.ext (.tas t z c x)) = XO env σ (fun v e => k v (app σ e)) (.ext (.tas t z c x)) := rfl
theorem id_tas (t z c x) : ID P kd kc env σ σb (.ext (.tas t z c x)) = XO env σ kd (.ext (.tas t z c x)) := rfl
theorem tc_tas (nn tl t z c x) : TC nn env σ (.ext (.tas t z c x)) tl none = tl := rfl
theorem xo_tas (t z c x) : XO env σ R (.ext (.tas t z c x)) = wth (aval env x) fun a => match a with
    | .nili => req (c = true) (R (.tup [z, .bool false]) none)
    | .iface t' v => (t' = t → R (if c then .tup [v, .bool true] else v) none) ∧ (t' ≠ t → req (c = true) (R (.tup [z, .bool false]) none))
    | _ => False := rfl
theorem ir_bsliceG (sz ps) : IR P Q k env σ (.ext (.bsliceG sz ps)) = XO env σ (fun v e => k v (app σ e)) (.ext (.bsliceG sz ps)) := rfl
theorem xo_bsliceG (sz ps) : XO env σ R (.ext (.bsliceG sz ps)) = wthL (avals env ps) fun l => req ((l.all fun x => (cellsA x).length == sz && (cellsA x).all oneA) = true) (fresh σ fun o => R (.slice l (.own o)) (some (o, (.grow sz l.length)))) := rfl
theorem ir_vmake (sz b z g l c) : IR P Q k env σ (.ext (.vmake sz b z g l c)) = XO env σ (fun v e => k v (app σ e)) (.ext (.vmake sz b z g l c)) := rfl
theorem id_vmake (sz b z g l c) : ID P kd kc env σ σb (.ext (.vmake sz b z g l c)) = XO env σ kd (.ext (.vmake sz b z g l c)) := rfl
theorem tc_vmake (nn tl sz b z g l c) : TC nn env σ (.ext (.vmake sz b z g l c)) tl none = tl := rfl
theorem xo_vmake (sz bytes z g n c) : XO env σ R (.ext (.vmake sz bytes z g n c)) = wth (aval env n) fun n => wth (aval env c) fun c => wth (mkv g z) fun e => match n, c with
    | .int .i64 n, .int .i64 c => req (cellsA e = z ∧ z.all oneA = true ∧ 0 ≤ n ∧ n ≤ c ∧ c * bytes ≤ 35184372088832) (fresh σ fun o => R (.vec o n.toNat) (some (o, (.vec sz n.toNat (List.replicate n.toNat z).flatten))))
    | _, _ => False := rfl
theorem ir_vapp (sz b s x) : IR P Q k env σ (.ext (.vapp sz b s x)) = XO env σ (fun v e => k v (app σ e)) (.ext (.vapp sz b s x)) := rfl
theorem id_vapp (sz b s x) : ID P kd kc env σ σb (.ext (.vapp sz b s x)) = XO env σ kd (.ext (.vapp sz b s x)) := rfl
theorem tc_vapp (nn tl sz b s x) : TC nn env σ (.ext (.vapp sz b s x)) tl none = tl := rfl
theorem xo_vapp (sz bytes s x) : XO env σ R (.ext (.vapp sz bytes s x)) = wth (aval env s) fun s => wth (aval env x) fun x => match s, x with
    | .vec o len, .slice m _ => match σ o with
      | some (.vec sz' n cs) => req (sz' = sz ∧ len = n ∧ szs sz m ∧ (n + m.length) * bytes ≤ 35184372088832) (R (.vec o (n + m.length)) (some (o, (.vec sz (n + m.length) (cs ++ flat m)))))
      | _ => False
    | .pre o len n, .slice m _ => match σ o with
      | some (.vec sz' n' cs) => req (sz' = sz ∧ n = n' ∧ len ≤ n ∧ szs sz m ∧ (n + m.length) * bytes ≤ 35184372088832)
          (ifP (len + m.length ≤ n) (R (.pre o (len + m.length) n) (some (o, (.vec sz n (putAt cs (len * sz) (flat m)))))) (R (.vec o (len + m.length)) (some (o, (.vec sz (len + m.length) (cs.take (len * sz) ++ flat m))))))
      | _ => False
    | .slice l t, .slice m _ => req (szs sz l ∧ szs sz m ∧ (l.length + m.length) * bytes ≤ 35184372088832) (match t with
      | .nil => ifnil m (R (.slice l .nil) none) (fresh σ fun o => R (.vec o (l.length + m.length)) (some (o, (.vec sz (l.length + m.length) (flat l ++ flat m)))))
      | .full => ifnil m (R (.slice l .full) none) (fresh σ fun o => R (.vec o (l.length + m.length)) (some (o, (.vec sz (l.length + m.length) (flat l ++ flat m)))))
      | _ => False)
    | _, _ => False := rfl
theorem ir_vfrz (g x) : IR P Q k env σ (.ext (.vfrz g x)) = XO env σ (fun v e => k v (app σ e)) (.ext (.vfrz g x)) := rfl
theorem xo_vfrz (g x) : XO env σ R (.ext (.vfrz g x)) = wth (aval env x) fun x => match x with
    | .vec o len => match σ o with
      | some (.vec sz n cs) => req (len = n ∧ (g = false → sz = 1)) (lkm (unflat g sz n cs) fun l => R (.slice l (.own o)) (some (o, (.grow sz n))))
      | _ => False
    | .pre o len n => match σ o with
      | some (.vec sz n' cs) => req (n = n' ∧ len ≤ n ∧ (g = false → sz = 1)) (lkm (unflat g sz n cs) fun l => R (.slice (l.take len) (.own o)) (some (o, (.grow sz n))))
      | _ => False
    | _ => False := rfl
theorem ir_retok (sz x) : IR P Q k env σ (.ext (.retok sz x)) = XO env σ (fun v e => k v (app σ e)) (.ext (.retok sz x)) := rfl
theorem xo_retok (sz x) : XO env σ R (.ext (.retok sz x)) = wth (aval env x) fun x => match x with
    | .slice l .full => req (szs sz l ∧ 0 < l.length) (fresh σ fun o => R (.slice l (.own o)) (some (o, (.grow sz l.length))))
    | .slice [] .nil => fresh σ fun o => R (.slice [] (.own o)) (some (o, (.grow sz 0)))
    | _ => False := rfl
theorem ir_rng (x) : IR P Q k env σ (.ext (.rng x)) = XO env σ (fun v e => k v (app σ e)) (.ext (.rng x)) := rfl
theorem xo_rng (x) : XO env σ R (.ext (.rng x)) = wth (aval env x) fun m => match m with
    | .map o => match σ o with
      | some (.map true l) => fresh σ fun it => R (.ptr it 0) (some (it, (.iter o l.length [])))
      | _ => False
    | _ => False := rfl
theorem ir_nxt (x) : IR P Q k env σ (.ext (.nxt x)) = XO env σ (fun v e => k v (app σ e)) (.ext (.nxt x)) := rfl
theorem xo_nxt (x) : XO env σ R (.ext (.nxt x)) = wth (aval env x) fun p => match p with
    | .ptr it off => match σ it with
      | some (.iter m n seen) => match σ m with
        | some (.map true l) => req (off = 0 ∧ n = l.length) (nxtQ l seen (R (.tup [.bool false]) none) fun i k v => R (.tup [.bool true, k, v]) (some (it, (.iter m n (seen ++ [i])))))
        | _ => False
      | _ => False
    | _ => False := rfl
theorem ir_entr (x) : IR P Q k env σ (.ext (.entr x)) = XO env σ (fun v e => k v (app σ e)) (.ext (.entr x)) := rfl
theorem xo_entr (x) : XO env σ R (.ext (.entr x)) = wth (aval env x) fun p => match p with
    | .ptr it off => match σ it with
      | some (.iter m n seen) => match σ m with
        | some (.map true l) => req (off = 0 ∧ n = l.length) (lkm (seen.getLast?.bind (l[·]?)) fun p => R (.tup [p.1, p.2]) none)
        | _ => False
      | _ => False
    | _ => False := rfl
theorem ir_eqI (g t x y) : IR P Q k env σ (.ext (.eqI g t x y)) = XO env σ (fun v e => k v (app σ e)) (.ext (.eqI g t x y)) := rfl
theorem id_eqI (g t x y) : ID P kd kc env σ σb (.ext (.eqI g t x y)) = XO env σ kd (.ext (.eqI g t x y)) := rfl
theorem tc_eqI (nn tl g t x y) : TC nn env σ (.ext (.eqI g t x y)) tl none = tl := rfl
theorem xo_eqI (neg tbl x y) : XO env σ R (.ext (.eqI neg tbl x y)) = wth (aval env x) fun a => wth (aval env y) fun b => match a, b with
    | .iface t u, .iface t' v => ifP (t = t') (lkm (kGet t tbl) fun kk => lkm (eqI1 kk u v) fun r => R (.bool (if neg then !r else r)) none) (R (.bool neg) none)
    | _, _ => False := rfl
theorem ir_bsliceV (sz ps) : IR P Q k env σ (.ext (.bsliceV sz ps)) = XO env σ (fun v e => k v (app σ e)) (.ext (.bsliceV sz ps)) := rfl
theorem xo_bsliceV (sz ps) : XO env σ R (.ext (.bsliceV sz ps)) = wthL (avals env ps) fun l => req ((l.all fun x => (cellsA x).length == sz && (cellsA x).all oneA) = true) (fresh σ fun o => R (.vec o l.length) (some (o, (.vec sz l.length (flat l))))) := rfl
theorem fget_nil (t : Nat) : fGet t [] = none := rfl
theorem fget_cons (t a f : Nat) (r) : fGet t ((a, f) :: r) = if t = a then some f else fGet t r := rfl
theorem kget_cons (t a : Nat) (k) (r) : kGet t ((a, k) :: r) = if t = a then some k else kGet t r := rfl
theorem meth_i (tbl) (t : Nat) (v : AV) : methA tbl (some (.iface t v)) = (fGet t tbl).map fun f => .fn f [v] [] := rfl
theorem eqi_s (k : Nat) (a b : AV) : eqI1 (some k) a b = eq1 k a b := rfl
theorem eqi_n : eqI1 none (.agg []) (.agg []) = some true := rfl
theorem xo_pick (c a b) : XO env σ R (.pick c a b) = wth (aval env c) fun p => match p with
    | .bool p => if p then wth (aval env a) fun a => R a none else wth (aval env b) fun a => R a none
    | _ => False := rfl
theorem xo_alloc (z) : XO env σ R (.alloc z) = fresh σ fun o => R (.ptr o 0) (some (o, (.cells z))) := rfl
theorem xo_box (x) : XO env σ R (.box x) = wth (aval env x) fun a => fresh σ fun o => R (.ptr o 0) (some (o, (.cells (cellsA a)))) := rfl
theorem xo_boxI (x) : XO env σ R (.boxI x) = wth (aval env x) fun a => req ((cellsA a).all oneA = true) (R (.cptr (cellsA a)) none) := rfl
theorem xo_build (z ps) : XO env σ R (.build z ps) = wthL (fillA env z ps) fun cs => R (.agg cs) none := by
  show exOpG _ env σ R (.build z ps) = _
  unfold exOpG wthL; rfl
theorem xo_bslice (sz ps) : XO env σ R (.bslice sz ps) = wthL (avals env ps) fun l => req ((l.all fun x => (cellsA x).length == sz && (cellsA x).all oneA) = true) (R (.slice l .full) none) := rfl
theorem xo_load (g n x) : XO env σ R (.load g n x) = wth (aval env x) fun p => match p with
    | .ptr o off => match σ o with
      | some (.cells cs) => req (off + n ≤ cs.length) (wth (mkv g ((cs.drop off).take n)) fun a => R a none)
      | _ => False
    | .eptr o m off => match σ o with
      | some (.vec _ m' cs) => req (m = m' ∧ off + n ≤ cs.length) (wth (mkv g ((cs.drop off).take n)) fun a => R a none)
      | _ => False
    | .cptr cs => req (n ≤ cs.length) (wth (mkv g (cs.take n)) fun a => R a none)
    | _ => False := rfl
theorem xo_store (n p x) : XO env σ R (.store n p x) = wth (aval env p) fun p => wth (aval env x) fun a => match p with
    | .ptr o off => match σ o with
      | some (.cells cs) => req ((cellsA a).length = n ∧ off + n ≤ cs.length ∧ (cellsA a).all oneA = true) (R (.tup []) (some (o, (.cells (putAt cs off (cellsA a))))))
      | _ => False
    | .eptr o m off => match σ o with
      | some (.vec sz m' cs) => req (m = m' ∧ (cellsA a).length = n ∧ off + n ≤ cs.length ∧ (cellsA a).all oneA = true) (R (.tup []) (some (o, (.vec sz m' (putAt cs off (cellsA a))))))
      | _ => False
    | _ => False := rfl
theorem xo_nilchk (x) : XO env σ R (.nilchk x) = wth (aval env x) fun p => match p with
    | .ptr o off => R (.ptr o off) none
    | .eptr o m off => R (.eptr o m off) none
    | .cptr cs => R (.cptr cs) none
    | .fn f a b => R (.fn f a b) none
    | _ => False := rfl
theorem xo_bin (op tb x y) : XO env σ R (.bin op tb x y) = wth (aval env x) fun a => wth (aval env y) fun b => wth (binA op tb a b) fun r => R r none := rfl
theorem xo_eqs (neg ks x y) : XO env σ R (.eqs neg ks x y) = wth (aval env x) fun a => wth (aval env y) fun b => match a, b with
    | .agg l, .agg m => match eqCells ks l m with
      | some r => R (.bool (if neg then !r else r)) none
      | none => False
    | _, _ => False := rfl
theorem xo_not (x) : XO env σ R (.un .not x) = wth (aval env x) fun a => match a with
    | .bool b => R (.bool !b) none
    | _ => False := by
  show (wth (aval env x) _) = _
  cases aval env x with
  | none => rfl
  | some a => cases a <;> rfl
theorem xo_xor (x) : XO env σ R (.un .xor x) = wth (aval env x) fun a => match a with
    | .int .u64 n => R (.int .u64 (IntKind.u64.wrap (BitVec.ofInt IntKind.u64.bits 18446744073709551615 ^^^ BitVec.ofInt IntKind.u64.bits n).toNat)) none
    | _ => False := by
  show (wth (aval env x) _) = _
  cases aval env x with
  | none => rfl
  | some a => cases a <;> first | rfl | (rename_i k n; cases k <;> rfl)
theorem xo_neg (x) : XO env σ R (.un .neg x) = wth (aval env x) fun a => match a with
    | .int k n => R (.int k (k.wrap (0 - n))) none
    | _ => False := by
  show (wth (aval env x) _) = _
  cases aval env x with
  | none => rfl
  | some a => cases a <;> rfl
theorem xo_conv (kk x) : XO env σ R (.conv kk x) = wth (aval env x) fun a => match a with
    | .int _ n => R (.int kk (kk.wrap n)) none
    | _ => False := rfl
theorem xo_mkfn (f first caps) : XO env σ R (.mkfn f first caps) = wthL (avals env first) fun l => wthL (avals env caps) fun m => R (.fn f l m) none := rfl
theorem xo_fldA (off x) : XO env σ R (.fldA off x) = wth (aval env x) fun p => match p with
    | .ptr o o1 => R (.ptr o (o1 + off)) none
    | .eptr o m o1 => R (.eptr o m (o1 + off)) none
    | .cptr cs => R (.cptr (cs.drop off)) none
    | _ => False := rfl
theorem xo_fldV (g off n x) : XO env σ R (.fldV g off n x) = wth (aval env x) fun a => match a with
    | .agg cs => req (off + n ≤ cs.length) (wth (mkv g ((cs.drop off).take n)) fun a => R a none)
    | _ => False := rfl
theorem xo_idxS (sz x i) : XO env σ R (.idxS sz x i) = wth (aval env x) fun s => wth (aval env i) fun i => match s, i with
    | .slice l _, .int _ i => req (0 ≤ i) (wth l[i.toNat]? fun e => req ((cellsA e).length = sz) (R (.cptr (cellsA e)) none))
    | .vec o len, .int _ i => req (0 ≤ i ∧ i < len) (R (.eptr o len (i.toNat * sz)) none)
    | .pre o len n, .int _ i => req (0 ≤ i ∧ i < len) (R (.eptr o n (i.toNat * sz)) none)
    | _, _ => False := rfl
theorem xo_idxR (sz len x i) : XO env σ R (.idxR sz len x i) = wth (aval env x) fun s => wth (aval env i) fun i => match s, i with
    | .ptr o off, .int _ i => req (0 ≤ i ∧ i < len) (R (.ptr o (off + i.toNat * sz)) none)
    | .eptr o m off, .int _ i => req (0 ≤ i ∧ i < len) (R (.eptr o m (off + i.toNat * sz)) none)
    | .cptr cs, .int _ i => req (0 ≤ i ∧ i < len) (R (.cptr (cs.drop (i.toNat * sz))) none)
    | _, _ => False := rfl
theorem xo_idxV (g sz len x i) : XO env σ R (.idxV g sz len x i) = wth (aval env x) fun s => wth (aval env i) fun i => match s, i with
    | .agg cs, .int _ i => req (0 ≤ i ∧ i < len ∧ i.toNat * sz + sz ≤ cs.length) (wth (mkv g ((cs.drop (i.toNat * sz)).take sz)) fun a => R a none)
    | _, _ => False := rfl
theorem xo_slc (sz x lo hi mx) : XO env σ R (.slc sz x lo hi mx) = wth (aval env x) fun s => match s with
    | .slice l _ => req (szs sz l) (bnd env hi l.length l.length fun h => bnd env lo 0 h fun lo => match mx with
      | none => R (.slice ((l.take h).drop lo) .no) none
      | some m => req (hi.isSome = true) (wth (aval env m) fun m => match m with
        | .int _ m => req (m = h) (R (.slice ((l.take h).drop lo) .full) none)
        | _ => False))
    | .vec o len => req (lo.isSome = false ∧ mx.isSome = false) (bnd env hi len len fun h => R (.pre o h len) none)
    | .pre o len n => req (lo.isSome = false ∧ mx.isSome = false) (bnd env hi len len fun h => R (.pre o h n) none)
    | _ => False := rfl
theorem xo_extract (x i) : XO env σ R (.extract x i) = wth (aval env x) fun a => match a with
    | .tup vs => wth vs[i]? fun a => R a none
    | _ => False := rfl
theorem xo_len (x) : XO env σ R (.len x) = wth (aval env x) fun a => match a with
    | .slice l _ => R (.int .i64 l.length) none
    | .vec _ n => R (.int .i64 n) none
    | .pre _ len _ => R (.int .i64 len) none
    | _ => False := rfl
theorem xo_lenS (x) : XO env σ R (.lenS x) = wth (aval env x) fun a => match a with
    | .str s => R (.int .i64 s.size) none
    | _ => False := rfl
theorem xo_cap (x) : XO env σ R (.cap x) = wth (aval env x) fun a => match a with
    | .slice l .full => R (.int .i64 l.length) none
    | .slice _ .nil => R (.int .i64 0) none
    | _ => False := rfl
theorem xo_append (sz bytes s x) : XO env σ R (.append sz bytes s x) = wth (aval env s) fun s => wth (aval env x) fun x => match s, x with
    | .slice l t, .slice m _ => req (szs sz l ∧ szs sz m ∧ (l.length + m.length) * bytes ≤ 35184372088832) (match t with
      | .no => False
      | .nil => ifnil m (R (.slice l .nil) none) (fresh σ fun o => R (.slice (l ++ m) (.own o)) (some (o, (.grow sz (l ++ m).length))))
      | .full => ifnil m (R (.slice l .full) none) (fresh σ fun o => R (.slice (l ++ m) (.own o)) (some (o, (.grow sz (l ++ m).length))))
      | .own o => req (σ o = some (.grow sz l.length)) (R (.slice (l ++ m) (.own o)) (some (o, (.grow sz (l ++ m).length)))))
    | _, _ => False := rfl
theorem xo_appz (sz bytes s x) : XO env σ R (.appz sz bytes s x) = wth (aval env s) fun s => wth (aval env x) fun x => match s, x with
    | .slice l .nil, .int .i64 n => req (l = [] ∧ 0 < n ∧ n * bytes ≤ 35184372088832) (fresh σ fun o => R (.raw o n.toNat) (some (o, (.grow sz 0))))
    | _, _ => False := rfl
theorem xo_slcN (sz x lo hi mx) : XO env σ R (.slcN sz x lo hi mx) = wth (aval env x) fun s => match s with
    | .slice l .nil => req (l = [] ∧ mx.isSome = false) (bnd env hi 0 0 fun _ => bnd env lo 0 0 fun _ => R (.slice [] .nil) none)
    | _ => False := rfl
theorem xo_slcR (sz x lo hi mx) : XO env σ R (.slcR sz x lo hi mx) = wth (aval env x) fun s => match s with
    | .raw o len => req (lo.isSome = false ∧ hi.isSome = true ∧ mx.isSome = false) (bnd env hi len len fun h => req (h = 0) (R (.slice [] (.own o)) none))
    | _ => False := rfl
theorem xo_min (xs) : XO env σ R (.min xs) = wthL (avals env xs) fun l => match minI l with
    | some r => R (.int .i64 r) none
    | none => False := rfl
theorem xo_max (xs) : XO env σ R (.max xs) = wthL (avals env xs) fun l => match maxI l with
    | some r => R (.int .i64 r) none
    | none => False := rfl
theorem xo_mkslice (sz bytes z g n c) : XO env σ R (.mkslice sz bytes z g n c) = wth (aval env n) fun n => wth (aval env c) fun c => wth (mkv g z) fun e => match n, c with
    | .int .i64 n, .int .i64 c => req (cellsA e = z ∧ z.all oneA = true ∧ 0 ≤ n ∧ n ≤ c ∧ c * bytes ≤ 35184372088832) (fresh σ fun o => R (.slice (List.replicate n.toNat e) (.own o)) (some (o, (.grow sz n.toNat))))
    | _, _ => False := rfl
theorem xo_mkiface (t x) : XO env σ R (.mkiface t x) = wth (aval env x) fun a => R (.iface t a) none := rfl
theorem fill_nil (cs) : fillA env cs [] = some cs := rfl
theorem fill_cons (cs off n x r) : fillA env cs ((off, n, x) :: r) = match aval env x with
    | some a => if (cellsA a).length = n ∧ off + n ≤ cs.length then fillA env (putAt cs off (cellsA a)) r else none
    | none => none := rfl
end
theorem wth_yes (a : AV) (R : AV → Prop) : wth (some a) R = R a := rfl
theorem wth_no (R : AV → Prop) : wth none R = False := rfl
theorem wthL_yes (a : List AV) (R : List AV → Prop) : wthL (some a) R = R a := rfl
theorem req_true (k : Prop) : req True k = k := by simp [req]
theorem gd_tt (r s : Prop) : gd true true r s = r := by simp [gd]
theorem gd_ff (r s : Prop) : gd false false r s = r := by simp [gd]
theorem gd_tf (r s : Prop) : gd true false r s = s := by simp [gd]
theorem gd_ft (r s : Prop) : gd false true r s = s := by simp [gd]
theorem br_t (r s : Prop) : br true r s = r := by simp [br]
theorem br_f (r s : Prop) : br false r s = s := by simp [br]
theorem ifnil_nil (r s : Prop) : ifnil [] r s = r := by simp [ifnil]
theorem ifnil_cons (a : AV) (l : List AV) (r s : Prop) : ifnil (a :: l) r s = s := by simp [ifnil]
theorem app_n (σ : Sig) : app σ none = σ := rfl
theorem app_s (σ : Sig) (o : Nat) (x : AObj) : app σ (some (o, x)) = upd σ o x := rfl
theorem apart_nil (tl : List (Nat × TI)) : apartP tl [] = True := rfl
theorem apart_cons (tl : List (Nat × TI)) (i j : Nat) (r : List (Nat × Nat)) : apartP tl ((i, j) :: r) = ((match look2 i tl, look2 j tl with
    | some a, some b => apartT a b
    | _, _ => True) ∧ apartP tl r) := rfl
theorem look2_nil (i : Nat) : look2 i [] = none := rfl
theorem look2_hit (i : Nat) (o : TI) (r : List (Nat × TI)) : look2 i ((i, o) :: r) = some o := by simp [look2]
theorem look2_miss (i j : Nat) (o : TI) (r : List (Nat × TI)) (h : i ≠ j) : look2 i ((j, o) :: r) = look2 i r := by simp [look2, h]
theorem apt_mm (a b : Nat) (x y) : apartT (.mem a x) (.mem b y) = ¬ a = b := rfl
theorem apt_mc (a : Nat) (x us) : apartT (.mem a x) (.call us) = stable a x us := rfl
theorem apt_cm (b : Nat) (us y) : apartT (.call us) (.mem b y) = notIn b us := rfl
theorem apt_cc (us vs) : apartT (.call us) (.call vs) = (us = [] ∧ vs = []) := rfl
theorem stable_nil (o rd) : stable o rd [] = True := rfl
theorem stable_cons (o rd a x r) : stable o rd ((a, x) :: r) = ((¬ a = o ∨ match rd, x with
    | some (off, n, vs), .cells cs => off + n ≤ cs.length ∧ (cs.drop off).take n = vs
    | _, _ => False) ∧ stable o rd r) := rfl
theorem notIn_nil (o) : notIn o [] = True := rfl
theorem notIn_cons (o a x r) : notIn o ((a, x) :: r) = (¬ a = o ∧ notIn o r) := rfl
theorem allIn_nil (σ : Sig) : allIn σ [] = True := rfl
theorem allIn_cons (σ : Sig) (a x r) : allIn σ ((a, x) :: r) = (σ a ≠ none ∧ allIn σ r) := rfl
theorem apps_nil (σ : Sig) : apps σ [] = σ := rfl
theorem apps_cons (σ : Sig) (a x r) : apps σ ((a, x) :: r) = apps (upd σ a x) r := rfl
theorem lkm_some_eq {α : Type} (a : α) (R : α → Prop) : lkm (some a) R = R a := rfl
theorem lkm_none_eq {α : Type} (R : α → Prop) : lkm none R = False := rfl
theorem upd_none (σ : Sig) (o o' : Nat) (x : AObj) : (upd σ o x o' = none) = (o' ≠ o ∧ σ o' = none) := by
  by_cases h : o' = o <;> simp [upd, h]
theorem lk_hit (i : Nat) (v : Option AV) (e : Env) : lk ((i, v) :: e) i = v := by simp [lk]
theorem lk_miss (i j : Nat) (v : Option AV) (e : Env) (h : i ≠ j) : lk ((j, v) :: e) i = lk e i := by simp [lk, h]
theorem aval_t (env : Env) (n : Nat) : aval env (.t n) = lk env n := rfl
theorem aval_c (env : Env) (v : AV) : aval env (.c v) = some v := rfl
theorem aval_m (env : Env) (n : Nat) (tbl) : aval env (.m n tbl) = methA tbl (lk env n) := rfl
theorem avals_nil (env : Env) : avals env [] = some [] := rfl
theorem avals_cons (env : Env) (x : AOpnd) (xs : List AOpnd) : avals env (x :: xs) = match aval env x, avals env xs with
    | some a, some l => some (a :: l)
    | _, _ => none := rfl
theorem putA_s (d : Nat) (v : AV) (env : Env) : putA (some d) v env = (d, some v) :: env := rfl
theorem putA_n (v : AV) (env : Env) : putA none v env = env := rfl
theorem skipA_s (d : Nat) (env : Env) : skipA (some d) env = (d, some (.tup [])) :: env := rfl
theorem skipA_n (env : Env) : skipA none env = env := rfl
theorem Zr {p : Bool} {r s : Prop} (h1 : p = true → r) (h2 : p = false → s) : br p r s := ⟨h1, h2⟩
theorem szs_nil (n : Nat) : szs n [] = True := by simp [szs]
theorem szs_cons (n : Nat) (a : AV) (l : List AV) : szs n (a :: l) = ((cellsA a).length = n ∧ szs n l) := by simp [szs]
theorem szs_append (n : Nat) (l m : List AV) : szs n (l ++ m) = (szs n l ∧ szs n m) := by
  simp only [szs, List.mem_append, eq_iff_iff]
  exact ⟨fun h => ⟨fun x hx => h x (.inl hx), fun x hx => h x (.inr hx)⟩, fun h x hx => hx.elim (h.1 x) (h.2 x)⟩
theorem szs_map {α : Type} (n : Nat) (f : α → AV) (l : List α) (h : ∀ a, (cellsA (f a)).length = n) : szs n (l.map f) = True := by
  simp [szs, h]
section
variable {X : Type} (mk : X → Env) (sg : X → Sig) (inv : X → Prop) (ms : X → Nat)
def LoopI (n : Nat) (env : Env) (σ : Sig) : Prop := ∃ x, n = ms x ∧ env = mk x ∧ σ = sg x ∧ inv x
theorem loop_rule {body : (AExit → Env → Sig → Prop) → Env → Sig → Prop} {Q : AExit → Env → Sig → Prop} {env : Env} {σ : Sig} (x0 : X)
    (h0 : WkF σ (mk x0) env ∧ SubX [] (sg x0) σ ∧ inv x0) (hr : ∀ x, inv x → body (thenQ (roundP (LoopI mk sg inv ms) (ms x)) Q) (mk x) (sg x)) : loopP body Q env σ := by
  refine ⟨LoopI mk sg inv ms, ⟨ms x0, mk x0, sg x0, ⟨x0, rfl, rfl, rfl, h0.2.2⟩, vw_of h0.1 h0.2.1⟩, ?_⟩
  rintro n env σ ⟨x, rfl, rfl, rfl, hi⟩
  exact hr x hi
theorem loop_next {n : Nat} {env : Env} {σ : Sig} (x : X) (h : WkF σ (mk x) env ∧ SubX [] (sg x) σ ∧ inv x ∧ ms x < n) : roundP (LoopI mk sg inv ms) n env σ :=
  ⟨ms x, mk x, sg x, h.2.2.2, ⟨x, rfl, rfl, rfl, h.2.2.1⟩, vw_of h.1 h.2.1⟩
end

/-! ### Ends and calls -/
theorem fin_id {R : ARes → Sig → Prop} {v σ} (h : R (.ret v) σ) : fin R v σ := ⟨v, σ, Vr.refl v σ, h⟩
theorem fin_v {R : ARes → Sig → Prop} {v σ} (v0 : AV) (σ0 : Sig) (h : R (.ret v0) σ0) (hv : FL σ v0 v) (hs : SubX [] σ0 σ) : fin R v σ := ⟨v0, σ0, vr_of hv hs, h⟩
theorem fin_eq {v0 v σ0 σ} (h : FL σ v0 v ∧ SubX [] σ0 σ) : fin (fun r s => r = .ret v0 ∧ s = σ0) v σ := ⟨v0, σ0, vr_of h.1 h.2, rfl, rfl⟩
theorem ACalls.fl {P : Program} {f : FuncId} {args0 args : List AV} {σ0 σ : Sig} {R : ARes → Sig → Prop} (h : ACalls P f args0 σ0 R) (ha : FLs σ args0 args) (hs : SubX [] σ0 σ) : ACalls P f args σ R := by
  refine ⟨h.1, fun S K w vals hS hr hsat => ?_⟩
  obtain ⟨K1, k1, k2, k3⟩ := view_fl hs S K w hS hsat
  refine (h.2 S K1 w vals hS ?_ k2).mono fun e w' ⟨K', r, σ', q1, q2⟩ => ⟨K', r, σ', k1.trans q1, q2⟩
  obtain ⟨K2, m1, m2, m3⟩ := view_fl hs S K w hS hsat
  exact ⟨ha.1.trans hr.1, fun i h1 h2 => k3 _ _ _ (ha.2 i h1 (by rw [← ha.1]; exact h1)) (hr.2 i (by rw [← ha.1]; exact h1) h2)⟩
theorem ACalls.flA {P : Program} {f : FuncId} {args0 args : List AV} {σ : Sig} {R : ARes → Sig → Prop} (h : ACalls P f args0 σ R) (ha : FLs σ args0 args) : ACalls P f args σ R :=
  h.fl ha (fun o _ x e => ⟨x, e, .refl _ x⟩)
theorem callable_of {P : Program} {f : FuncId} {fn : Func} {N : Nat} {ac : ACode} (hfn : P.funcs[f]? = some fn) (hb : fn.body.bind (tr P N) = some ac) (hname : (fn.name == "runtime.NumGoroutine") = false) : callable P f = true := by
  cases hc : fn.body with
  | none => simp [hc] at hb
  | some c => simp [callable, hfn, hc, hname]
theorem ACalls.virt {P : Program} {f : FuncId} {args : List AV} {σ : Sig} {R : ARes → Sig → Prop} (hc : callable P f = true) (sz : Nat)
    (h : ∀ o, σ o = none → (∀ o', ¬ σ o' = none → ¬ o' = o) → (∀ o', ¬ σ o' = none → ¬ o = o') → ACalls P f args (upd σ o (.virt sz)) R) : ACalls P f args σ R := by
  have h' : ∀ o, σ o = none → ACalls P f args (upd σ o (.virt sz)) R := fun o ho => h o ho (fun o' h' e => h' (e ▸ ho)) (fun o' h' e => h' (e ▸ ho))
  refine ⟨hc, fun S K w vals hS hr hs => ?_⟩
  obtain ⟨nm, n1, n2, n3⟩ := freshFor hs hS
  obtain ⟨k1, k2⟩ := hs.name n1 (.virt sz) (.virt sz) (by simp [ObjSat]) (fun o' x' e' q1 q2 q3 q4 => by simp [Own.real] at q4)
  refine ((h' nm n3).2 S _ w vals hS (hr.mono k1) k2).mono fun e w' ⟨K', r, σ', q1, q2⟩ => ⟨K', r, σ', ?_, q2⟩
  refine Gh.leS.trans ⟨k1, fun o hs hn => ?_⟩ q1
  have : o ≠ nm := fun e => n2 (e ▸ hs)
  simp [Gh.named, this, hn]
theorem ACalls.view {P : Program} {f : FuncId} {args : List AV} {σ : Sig} {R R' : ARes → Sig → Prop} (h : ACalls P f args σ R) (hR : ∀ r s, R r s → ∃ v v0 s0, r = .ret v ∧ Vr v0 s0 v s ∧ R' (.ret v0) s0) : ACalls P f args σ R' := by
  refine ⟨h.1, fun S K w vals hS hr hsat => (h.2 S K w vals hS hr hsat).mono ?_⟩
  rintro e w' ⟨K', r, σ', q1, q2, q3, q4⟩
  obtain ⟨v, v0, s0, rfl, hv, hr'⟩ := hR r σ' q4
  cases e <;> first | exact q3.elim | skip
  obtain ⟨K2, k1, k2, k3⟩ := Rel.view hv hS q3 q2
  exact ⟨K2, .ret v0, s0, q1.trans k1, k3, k2, hr'⟩
theorem ACalls.flo {P : Program} {f : FuncId} {args : List AV} {σ : Sig} {R : ARes → Sig → Prop} {o : Nat} {x0 : AObj} (h : ∃ x, σ o = some x ∧ FLO σ x0 x) (c : ACalls P f args (upd σ o x0) R) : ACalls P f args σ R := by
  refine c.fl (.refl _ _) ?_
  show SubXr σ [] (upd σ o x0) σ
  rw [subx_l]
  refine ⟨.inr h, ?_⟩
  rw [subx_refl]; trivial
theorem ACalls.one1 {P : Program} {f : FuncId} {args : List AV} {σ σ' : Sig} {v : AV} {R : ARes → Sig → Prop} (h : ACalls P f args σ (fun r s => r = .ret v ∧ s = σ')) (_ : True) (hR : R (.ret v) σ') : ACalls P f args σ R :=
  h.mono fun r s ⟨e1, e2⟩ => by subst e1 e2; exact hR
theorem ACalls.one {P : Program} {f : FuncId} {args : List AV} {σ σ' : Sig} {v : AV} {R : ARes → Sig → Prop} (h : ACalls P f args σ (fun r s => r = .ret v ∧ s = σ')) (hR : R (.ret v) σ') : ACalls P f args σ R :=
  h.mono fun r s ⟨e1, e2⟩ => by subst e1 e2; exact hR
theorem cells_agg (l : List AV) : cellsA (.agg l) = l := rfl
theorem one_agg (l : List AV) : oneA (.agg l) = false := rfl
theorem mkv_t (l : List AV) : mkv true l = some (.agg l) := rfl
theorem mkv_f (l : List AV) : mkv false l = l.head? := rfl
theorem cells_int (k : IntKind) (n : Int) : cellsA (.int k n) = [(.int k n)] := rfl
theorem one_int (k : IntKind) (n : Int) : oneA (.int k n) = true := rfl
theorem cells_bool (b : Bool) : cellsA (.bool b) = [(.bool b)] := rfl
theorem one_bool (b : Bool) : oneA (.bool b) = true := rfl
theorem cells_str (s : ByteArray) : cellsA (.str s) = [(.str s)] := rfl
theorem one_str (s : ByteArray) : oneA (.str s) = true := rfl
theorem cells_nilp  : cellsA .nilp = [.nilp] := rfl
theorem one_nilp  : oneA .nilp = true := rfl
theorem cells_ptr (o f : Nat) : cellsA (.ptr o f) = [(.ptr o f)] := rfl
theorem one_ptr (o f : Nat) : oneA (.ptr o f) = true := rfl
theorem cells_eptr (o n f : Nat) : cellsA (.eptr o n f) = [(.eptr o n f)] := rfl
theorem one_eptr (o n f : Nat) : oneA (.eptr o n f) = true := rfl
theorem cells_cptr (l : List AV) : cellsA (.cptr l) = [(.cptr l)] := rfl
theorem one_cptr (l : List AV) : oneA (.cptr l) = true := rfl
theorem cells_slice (l : List AV) (t : Tok) : cellsA (.slice l t) = [(.slice l t)] := rfl
theorem one_slice (l : List AV) (t : Tok) : oneA (.slice l t) = true := rfl
theorem cells_vec (o n : Nat) : cellsA (.vec o n) = [(.vec o n)] := rfl
theorem one_vec (o n : Nat) : oneA (.vec o n) = true := rfl
theorem cells_pre (o l n : Nat) : cellsA (.pre o l n) = [(.pre o l n)] := rfl
theorem one_pre (o l n : Nat) : oneA (.pre o l n) = true := rfl
theorem cells_raw (o n : Nat) : cellsA (.raw o n) = [(.raw o n)] := rfl
theorem one_raw (o n : Nat) : oneA (.raw o n) = true := rfl
theorem cells_tup (l : List AV) : cellsA (.tup l) = [(.tup l)] := rfl
theorem one_tup (l : List AV) : oneA (.tup l) = false := rfl
theorem cells_map (o : Nat) : cellsA (.map o) = [(.map o)] := rfl
theorem one_map (o : Nat) : oneA (.map o) = true := rfl
theorem cells_nilmap  : cellsA .nilmap = [.nilmap] := rfl
theorem one_nilmap  : oneA .nilmap = true := rfl
theorem cells_fn (f : Nat) (a b : List AV) : cellsA (.fn f a b) = [(.fn f a b)] := rfl
theorem one_fn (f : Nat) (a b : List AV) : oneA (.fn f a b) = true := rfl
theorem cells_nilfn  : cellsA .nilfn = [.nilfn] := rfl
theorem one_nilfn  : oneA .nilfn = true := rfl
theorem cells_iface (t : Nat) (v : AV) : cellsA (.iface t v) = [(.iface t v)] := rfl
theorem one_iface (t : Nat) (v : AV) : oneA (.iface t v) = true := rfl
theorem cells_nili  : cellsA .nili = [.nili] := rfl
theorem one_nili  : oneA .nili = true := rfl
attribute [go_sem] cells_agg one_agg mkv_t mkv_f cells_int one_int cells_bool one_bool cells_str one_str cells_nilp one_nilp cells_ptr one_ptr cells_eptr one_eptr cells_cptr one_cptr cells_slice one_slice cells_vec one_vec cells_raw one_raw cells_tup one_tup cells_map one_map cells_nilmap one_nilmap cells_fn one_fn cells_nilfn one_nilfn cells_iface one_iface cells_nili one_nili
attribute [go_sem ↓] xo_appz xo_slcN xo_slcR ir_appz ir_slcN ir_slcR id_appz tc_appz id_slcN tc_slcN id_slcR tc_slcR
attribute [go_sem] fl_refl fls_refl fl_nm isVirt_v flo_virt fl_slice fl_sliceL fl_agg fl_tup fls_cons flo_refl flo_cells flo_vec wkf_nil wkf_cons ex_some subx_refl fl_int fl_bool
attribute [go_sem] upd_other subx_new subx_l subx_r List.mem_cons List.not_mem_nil or_false false_or or_true true_or ex_someO Option.isSome_none Option.isSome_some
attribute [go_sem] base_nil base_cons
attribute [go_sem ↓] xc_cut xc_drw xd_nil xd_cons xd_consg id_call id_mov tc_mov id_pick tc_pick id_alloc tc_alloc id_box tc_box id_boxI tc_boxI id_build tc_build id_bslice tc_bslice id_load tc_load id_store tc_store id_nilchk tc_nilchk id_bin tc_bin id_eqs tc_eqs id_un tc_un id_conv tc_conv id_mkfn tc_mkfn id_fldA tc_fldA id_fldV tc_fldV id_idxS tc_idxS id_idxR tc_idxR id_idxV tc_idxV id_slc tc_slc id_extract tc_extract id_len tc_len id_lenS tc_lenS id_cap tc_cap id_append tc_append id_min tc_min id_max tc_max id_mkslice tc_mkslice id_mkiface tc_mkiface tc_some app_n app_s xc_skip xc_reg xc_seq xc_cond xc_block xc_loop xc_exit xc_ret xi_nil xi_cons xi_consg then_n then_r then_e then_p block_n block_r block_p block_e block_o body_n body_r body_p xr_nil xr_tmp xr_cell retK_r retK_p ir_call ir_panic ir_mov ir_pick ir_alloc ir_box ir_boxI ir_build ir_bslice ir_load ir_store ir_nilchk ir_bin ir_eqs ir_un ir_conv ir_mkfn ir_fldA ir_fldV ir_idxS ir_idxR ir_idxV ir_slc ir_extract ir_len ir_lenS ir_cap ir_append ir_min ir_max ir_mkslice ir_mkiface xo_pick xo_alloc xo_box xo_boxI xo_build xo_bslice xo_load xo_store xo_nilchk xo_bin xo_eqs xo_not xo_neg xo_xor xo_conv xo_mkfn xo_fldA xo_fldV xo_idxS xo_idxR xo_idxV xo_slc xo_extract xo_len xo_lenS xo_cap xo_append xo_min xo_max xo_mkslice xo_mkiface fill_nil fill_cons wth_yes lk_hit lk_miss aval_t aval_c avals_nil avals_cons putA_s putA_n skipA_s skipA_n
attribute [go_sem] apart_nil apart_cons look2_nil look2_hit look2_miss wth_yes wth_no wthL_yes req_true gd_tt gd_ff gd_tf gd_ft br_t br_f ifnil_nil ifnil_cons szs_nil szs_cons szs_append upd_same upd_upd argEnv binA putAt minI maxI eq1 eqCells bnd one ne_eq not_false_eq_true
attribute [go_sem] List.nil_append List.append_nil List.cons_append List.length_cons List.length_nil List.take_zero List.drop_zero List.take_succ_cons List.drop_succ_cons List.head?_cons List.take_nil List.drop_nil List.all_cons List.all_nil Bool.and_true Bool.true_and and_true true_and

/-! ### Splits -/
theorem take_map_len {α : Type} (f : α → AV) (l : List α) : List.take l.length (l.map f) = l.map f := List.take_of_length_le (by simp)
theorem get0 (a : AV) (l : List AV) : (a :: l)[0]? = some a := rfl
theorem get1 (a b : AV) (l : List AV) : (a :: b :: l)[1]? = some b := rfl
theorem get2 (a b c : AV) (l : List AV) : (a :: b :: c :: l)[2]? = some c := rfl
theorem get3 (a b c d : AV) (l : List AV) : (a :: b :: c :: d :: l)[3]? = some d := rfl
theorem get4 (a b c d e : AV) (l : List AV) : (a :: b :: c :: d :: e :: l)[4]? = some e := rfl
theorem get5 (a b c d e f : AV) (l : List AV) : (a :: b :: c :: d :: e :: f :: l)[5]? = some f := rfl
theorem get6 (a b c d e f g : AV) (l : List AV) : (a :: b :: c :: d :: e :: f :: g :: l)[6]? = some g := rfl
theorem get7 (a b c d e f g h : AV) (l : List AV) : (a :: b :: c :: d :: e :: f :: g :: h :: l)[7]? = some h := rfl
theorem get8 (a b c d e f g h i : AV) (l : List AV) : (a :: b :: c :: d :: e :: f :: g :: h :: i :: l)[8]? = some i := rfl
attribute [go_sem] get0 get1 get2 get3 get4 get5 get6 get7 get8
theorem prod_eta {α β : Type} (p : α × β) : (p.1, p.2) = p := rfl
theorem min2 (a b : Int) : (if b < a then b else a) = min a b := by omega
theorem max2 (a b : Int) : (if b > a then b else a) = max a b := by omega
theorem Zp {p : Bool} {r s : Prop} (h1 : p = true → r) (h2 : p = false → s) : gd p true r s := ⟨h1, fun h => h2 (by simpa using h)⟩
theorem Zq {p : Bool} {r s : Prop} (h1 : p = false → r) (h2 : p = true → s) : gd p false r s := ⟨h1, fun h => h2 (by simpa using h)⟩
theorem Za {q : Prop} [Decidable q] {r s : Prop} (h1 : q → r) (h2 : ¬ q → s) : gd (decide q) true r s := Zp (fun h => h1 (of_decide_eq_true h)) (fun h => h2 (of_decide_eq_false h))
theorem Zb {q : Prop} [Decidable q] {r s : Prop} (h1 : ¬ q → r) (h2 : q → s) : gd (decide q) false r s := Zq (fun h => h1 (of_decide_eq_false h)) (fun h => h2 (of_decide_eq_true h))
theorem Zc {q : Prop} [Decidable q] {r s : Prop} (h1 : q → r) (h2 : ¬ q → s) : br (decide q) r s := Zr (fun h => h1 (of_decide_eq_true h)) (fun h => h2 (of_decide_eq_false h))
theorem Zd {a : Int} {n : Nat} {r s : Prop} (h1 : (a = OfNat.ofNat n) ∧ (a == OfNat.ofNat n) = true → r) (h2 : (a ≠ OfNat.ofNat n) ∧ (a == OfNat.ofNat n) = false → s) : gd (a == OfNat.ofNat n) true r s := Zp (fun h => h1 ⟨by simpa using h, h⟩) (fun h => h2 ⟨by simpa using h, h⟩)
theorem Zj {a b : Int} {r s : Prop} (h1 : (a ≤ b ∧ b ≤ a) ∧ (a == b) = true → r) (h2 : (a ≠ b) ∧ (a == b) = false → s) : gd (a == b) true r s := Zp (fun h => h1 ⟨by have := h; simp at this; omega, h⟩) (fun h => h2 ⟨by have := h; simp at this; omega, h⟩)
theorem Ze {a : Int} {n : Nat} {r s : Prop} (h1 : (a ≠ OfNat.ofNat n) ∧ (a == OfNat.ofNat n) = false → r) (h2 : (a = OfNat.ofNat n) ∧ (a == OfNat.ofNat n) = true → s) : gd (a == OfNat.ofNat n) false r s := Zq (fun h => h1 ⟨by simpa using h, h⟩) (fun h => h2 ⟨by simpa using h, h⟩)
theorem Zk {a b : Int} {r s : Prop} (h1 : (a ≠ b) ∧ (a == b) = false → r) (h2 : (a ≤ b ∧ b ≤ a) ∧ (a == b) = true → s) : gd (a == b) false r s := Zq (fun h => h1 ⟨by have := h; simp at this; omega, h⟩) (fun h => h2 ⟨by have := h; simp at this; omega, h⟩)
theorem Zf {a : Int} {n : Nat} {r s : Prop} (h1 : (a = OfNat.ofNat n) ∧ (a == OfNat.ofNat n) = true → r) (h2 : (a ≠ OfNat.ofNat n) ∧ (a == OfNat.ofNat n) = false → s) : br (a == OfNat.ofNat n) r s := Zr (fun h => h1 ⟨by simpa using h, h⟩) (fun h => h2 ⟨by simpa using h, h⟩)
theorem Zl {a b : Int} {r s : Prop} (h1 : (a ≤ b ∧ b ≤ a) ∧ (a == b) = true → r) (h2 : (a ≠ b) ∧ (a == b) = false → s) : br (a == b) r s := Zr (fun h => h1 ⟨by have := h; simp at this; omega, h⟩) (fun h => h2 ⟨by have := h; simp at this; omega, h⟩)
theorem Zg {a : Int} {n : Nat} {r s : Prop} (h1 : (a ≠ OfNat.ofNat n) ∧ (a != OfNat.ofNat n) = true → r) (h2 : (a = OfNat.ofNat n) ∧ (a != OfNat.ofNat n) = false → s) : gd (a != OfNat.ofNat n) true r s := Zp (fun h => h1 ⟨by simpa using h, h⟩) (fun h => h2 ⟨by simpa using h, h⟩)
theorem Zm {a b : Int} {r s : Prop} (h1 : (a ≠ b) ∧ (a != b) = true → r) (h2 : (a ≤ b ∧ b ≤ a) ∧ (a != b) = false → s) : gd (a != b) true r s := Zp (fun h => h1 ⟨by have := h; simp at this; omega, h⟩) (fun h => h2 ⟨by have := h; simp at this; omega, h⟩)
theorem Zh {a : Int} {n : Nat} {r s : Prop} (h1 : (a = OfNat.ofNat n) ∧ (a != OfNat.ofNat n) = false → r) (h2 : (a ≠ OfNat.ofNat n) ∧ (a != OfNat.ofNat n) = true → s) : gd (a != OfNat.ofNat n) false r s := Zq (fun h => h1 ⟨by simpa using h, h⟩) (fun h => h2 ⟨by simpa using h, h⟩)
theorem Zn {a b : Int} {r s : Prop} (h1 : (a ≤ b ∧ b ≤ a) ∧ (a != b) = false → r) (h2 : (a ≠ b) ∧ (a != b) = true → s) : gd (a != b) false r s := Zq (fun h => h1 ⟨by have := h; simp at this; omega, h⟩) (fun h => h2 ⟨by have := h; simp at this; omega, h⟩)
theorem Zi {a : Int} {n : Nat} {r s : Prop} (h1 : (a ≠ OfNat.ofNat n) ∧ (a != OfNat.ofNat n) = true → r) (h2 : (a = OfNat.ofNat n) ∧ (a != OfNat.ofNat n) = false → s) : br (a != OfNat.ofNat n) r s := Zr (fun h => h1 ⟨by simpa using h, h⟩) (fun h => h2 ⟨by simpa using h, h⟩)
theorem Zo {a b : Int} {r s : Prop} (h1 : (a ≠ b) ∧ (a != b) = true → r) (h2 : (a ≤ b ∧ b ≤ a) ∧ (a != b) = false → s) : br (a != b) r s := Zr (fun h => h1 ⟨by have := h; simp at this; omega, h⟩) (fun h => h2 ⟨by have := h; simp at this; omega, h⟩)
theorem br_not (p : Bool) (r s : Prop) : br (!p) r s = br p s r := by cases p <;> simp [br]
theorem gd_not_t (p : Bool) (r s : Prop) : gd (!p) true r s = gd p false r s := by cases p <;> simp [gd]
theorem gd_not_f (p : Bool) (r s : Prop) : gd (!p) false r s = gd p true r s := by cases p <;> simp [gd]
attribute [go_sem] br_not gd_not_t gd_not_f
theorem Zt {σ : Sig} {k : Nat → Prop} (h : ∀ o, σ o = none → (∀ o', ¬ σ o' = none → ¬ o' = o) → (∀ o', ¬ σ o' = none → ¬ o = o') → k o) : fresh σ k := fun o ho => h o ho (fun o' h' e => h' (e ▸ ho)) (fun o' h' e => h' (e ▸ ho))
theorem Zv {p k : Prop} (h : p) (h' : k) : req p k := ⟨h, h'⟩
theorem Zu {α : Type} {f : α → AV} {l : List α} {i : Nat} {R : AV → Prop} (h : i < l.length) (h' : R (f l[i])) : wth (l.map f)[i]? R := by
  rw [List.getElem?_map, List.getElem?_eq_getElem h]; exact h'
theorem Zs {m : List AV} {a b : Prop} (h1 : m = [] → a) (h2 : m ≠ [] → b) : ifnil m a b := ⟨h1, h2⟩
theorem wrap64 (n : Int) (h1 : -9223372036854775808 ≤ n) (h2 : n ≤ 9223372036854775807) : IntKind.i64.wrap n = n := by
  simp [IntKind.wrap, IntKind.signed, IntKind.bits]; omega
attribute [go_sem] decide_true decide_false List.length_map Int.toNat_natCast Int.natCast_nonneg Bool.not_true Bool.not_false beq_self_eq_true bne_self_eq_false Int.ofNat_lt Int.ofNat_le Int.natCast_zero Int.sub_zero Int.cast_ofNat_Int take_map_len min2 max2 not_true_eq_false false_and and_false Bool.false_and Bool.and_false prod_eta List.length_append Int.natCast_add List.map_append List.map_cons List.map_nil List.take_zero List.flatten_nil List.flatten_cons
theorem calls_x {P : Program} (hm : P.follows .mixedOrders = true) {f : FuncId} {fn : Func} {N : Nat} {rs : List ARV} {ac : ACode} {args : List AV} {σ : Sig} {R : ARes → Sig → Prop}
    (hfn : P.funcs[f]? = some fn) (hb : fn.body.bind (tr P N) = some ac.bare) (hname : (fn.name == "runtime.NumGoroutine") = false) (hN : fn.ntmps = N)
    (hr : trRes P fn.results.toList = some rs) (hargs : args.length ≤ N) (h : XC P ac (bodyQ rs R) (argEnv 0 args) σ) : ACalls P f args σ R :=
  calls_of hm hfn hb hname hN hr hargs h
attribute [go_sem] apt_mm apt_mc apt_cm apt_cc stable_nil stable_cons notIn_nil notIn_cons allIn_nil allIn_cons apps_nil apps_cons lkm_some_eq lkm_none_eq
attribute [go_sem ↓] ir_isnil xo_isnil ir_mkmap id_mkmap tc_mkmap xo_mkmap ir_look id_look tc_look xo_look ir_mset id_mset tc_mset xo_mset ir_mdel id_mdel tc_mdel xo_mdel ir_lenM id_lenM tc_lenM xo_lenM ir_ment id_ment tc_ment xo_ment ir_eset id_eset tc_eset xo_eset ir_tas id_tas tc_tas xo_tas ir_bsliceG xo_bsliceG ir_vmake id_vmake tc_vmake xo_vmake ir_vapp id_vapp tc_vapp xo_vapp ir_vfrz xo_vfrz ir_retok xo_retok
attribute [go_sem ↓] ir_rng xo_rng ir_nxt xo_nxt ir_entr xo_entr ir_eqI id_eqI tc_eqI xo_eqI ir_bsliceV xo_bsliceV aval_m
attribute [go_sem] fget_nil fget_cons kget_cons meth_i eqi_s eqi_n cells_pre one_pre ifP_t ifP_f Option.map_some
end Abs

