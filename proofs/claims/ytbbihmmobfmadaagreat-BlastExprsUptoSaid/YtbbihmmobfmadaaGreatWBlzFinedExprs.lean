/- THE STATEMENT BlastExprs, second form: for whatever arguments of bulk at most 1048576 the call returns true, and each argument reads as_ it did. -/
import Derived.Test.YtbbihmmobfmadaaGreatRows
import Derived.WalkKit
import Derived.ProofKit
import Derived.OpenShut
import Derived.JoinedCond
import Derived.Test.YtbbihmmobfmadaaGreatWBlzBlzX
set_option linter.unusedSimpArgs false
set_option linter.unusedVariables false
set_option maxRecDepth 100000
namespace Go.Proofs.YtbbihmmobfmadaaGreat
open Abs Fil Fil.Bl A
open Go.ChangeShapes Go.WideShapes Go.ChangeAt Go.RowKit
namespace blastExprs
theorem own:ownKnob Tryz.prog.godebug=none:=by kernel_rfl
theorem Ig:laidOutB Tryz.prog=true:=by kernel_rfl
theorem ok:∀xs,mb Tryz.prog Tryz.f4.params.toList xs->bW xs<=1048576->ACalls Tryz.prog 4 xs (λ_=>none) (λr _=>r= .ret (.bool true)):=by
 intro xs h hs;obtain⟨d,g,v,e,ys,rfl,h2,⟨hw,hd⟩,hg,hv,he,hn⟩:=Bg h hs;obtain⟨a,ys2,_,_,rfl,h3,h4,h5⟩:=fH h2;obtain⟨b,ys3,_,_,rfl,h6,h7,h8⟩:=fH h5;obtain rfl:=Bf h8
 obtain⟨inp,rfl⟩:=ED h3 h4;obtain⟨st,rfl⟩:=ED h6 h7;exact(EH d g v e inp st _ hd hw (by omega) he (λhf=>KQ hg (KS hf)) (by omega)).mono λr s h=>h.1
theorem lifted(os:Os)(started:os.Started)(H:Type)(enc:TypeId×Value->H)(F:Stop.Interp):
  ReturnsInHanded {} Tryz.checked os 4 .any ((Rows.OpenSpec.upto Rows.blastExprsSpec).pre6 enc Tryz.prog Tryz.f4 Rows.blastExprsUptoRow.domain false) (((Rows.OpenSpec.upto Rows.blastExprsSpec).at F).post enc Tryz.prog Tryz.f4 false true false false):=by
 refine returnsInHanded_of_cond (C:=Tryz.checked) (s:=Rows.OpenSpec.upto Rows.blastExprsSpec) (k:=Rows.uptoSmall) rfl own started (by kernel_rfl) Tryz.func4
  (OpenSpec.witness (enc:=enc) (C:=Tryz.checked) (s:=Rows.OpenSpec.upto Rows.blastExprsSpec) (k:=Rows.uptoSmall) rfl false ⟨#[],#[.agg #[.slice none 0 0, .slice none 0 0, .slice none 0 0], .agg #[.int .i64 0, .slice none 0 0, .slice none 0 0, .slice none 0 0], .slice none 0 0, .agg #[.int .i64 0, .int .i64 0, .int .u64 0, .int .i64 0, .int .i64 0, .int .i64 0, .int .i64 0, .slice none 0 0], .slice none 0 0, .slice none 0 0],[]⟩ 8 (by kernel_rfl) (by kernel_rfl) (by kernel_rfl)
   (x:=([.agg [.nil, .nil, .nil], .agg [.lit (.int .i64 0), .nil, .nil, .nil], .nil, .agg [.lit (.int .i64 0), .lit (.int .i64 0), .lit (.int .u64 0), .lit (.int .i64 0), .lit (.int .i64 0), .lit (.int .i64 0), .lit (.int .i64 0), .nil], .nil, .nil],[],[])) (by kernel_rfl) rfl (by kernel_rfl)) ?_
 intro W base args ds gs before hval hW _ hk _;refine vu (EB H) (P:=Tryz.prog) (s:=Rows.blastExprsSpec) (S:=vw) Ig EA (by kernel_rfl) rfl (λds h=>?_) (by kernel_rfl) (tb:=4) Tryz.underlying4 hval hW (EC hk) ok;match ds,h with
 |[_,_,_,_,_,_],_=>rfl
end blastExprs
theorem blastExprsUpto_holds:Rows.BlastExprsUptoSaid:=
 OpenClaim.holds_of_cond 4 Tryz.f4 rfl rfl rfl rfl rfl rfl rfl ⟨rfl,rfl,rfl,rfl,rfl⟩ rfl rfl rfl rfl rfl (by kernel_rfl) Tryz.func4 (by kernel_rfl)
  (of_decide_eq_true (by kernel_rfl)) (by unfold Func.isWrapper;first|(rw[if_pos (by decide+kernel)];kernel_rfl)|(rw[if_neg (by decide+kernel)];exact⟨rfl,rfl⟩))
  (λos started H enc _ F=>blastExprs.lifted os started H enc F)
end Go.Proofs.YtbbihmmobfmadaaGreat
