/- THE STATEMENT BlastWhole, second form: for whatever arguments of bulk at most 1048576 the call returns true, and each argument reads as_ it did. -/
import Derived.Test.YtbbihmmobfmadaaGreatRows
import Derived.WalkKit
import Derived.ProofKit
import Derived.OpenShut
import Derived.JoinedCond
import Derived.Test.YtbbihmmobfmadaaGreatVBlzBlzU
set_option linter.unusedSimpArgs false
set_option linter.unusedVariables false
set_option maxRecDepth 100000
namespace Go.Proofs.YtbbihmmobfmadaaGreat
open Abs Fil Fil.Bl A
open Go.ChangeShapes Go.WideShapes Go.ChangeAt Go.RowKit
namespace blastWhole
theorem own:ownKnob Tryz.prog.godebug=none:=by kernel_rfl
theorem Gw:laidOutB Tryz.prog=true:=by kernel_rfl
theorem ok:∀xs,lI Tryz.prog Tryz.f3.params.toList xs->bX xs<=1048576->ACalls Tryz.prog 3 xs (λ_=>none) (λr _=>r= .ret (.bool true)):=by
 intro xs h hs;obtain⟨d,g,v,e,ys,rfl,h2,⟨hw,hd⟩,hg,hv,he,hn⟩:=zV h hs;obtain rfl:=zU h2
 exact(C5 d g v e _ hd hw (by omega) he (λhf=>IU hg (IW hf)) (by omega)).mono λr s h=>h.1
theorem lifted(os:Os)(started:os.Started)(H:Type)(enc:TypeId×Value->H)(F:Stop.Interp):
  ReturnsInHanded {} Tryz.checked os 3 .any ((Rows.OpenSpec.upto Rows.blastWholeSpec).pre6 enc Tryz.prog Tryz.f3 Rows.blastWholeUptoRow.domain false) (((Rows.OpenSpec.upto Rows.blastWholeSpec).at F).post enc Tryz.prog Tryz.f3 false true false false):=by
 refine returnsInHanded_of_cond (C:=Tryz.checked) (s:=Rows.OpenSpec.upto Rows.blastWholeSpec) (k:=Rows.uptoSmall) rfl own started (by kernel_rfl) Tryz.func3
  (OpenSpec.witness (enc:=enc) (C:=Tryz.checked) (s:=Rows.OpenSpec.upto Rows.blastWholeSpec) (k:=Rows.uptoSmall) rfl false ⟨#[],#[.agg #[.slice none 0 0, .slice none 0 0, .slice none 0 0], .agg #[.int .i64 0, .slice none 0 0, .slice none 0 0, .slice none 0 0], .slice none 0 0, .agg #[.int .i64 0, .int .i64 0, .int .u64 0, .int .i64 0, .int .i64 0, .int .i64 0, .int .i64 0, .slice none 0 0]],[]⟩ 8 (by kernel_rfl) (by kernel_rfl) (by kernel_rfl)
   (x:=([.agg [.nil, .nil, .nil], .agg [.lit (.int .i64 0), .nil, .nil, .nil], .nil, .agg [.lit (.int .i64 0), .lit (.int .i64 0), .lit (.int .u64 0), .lit (.int .i64 0), .lit (.int .i64 0), .lit (.int .i64 0), .lit (.int .i64 0), .nil]],[],[])) (by kernel_rfl) rfl (by kernel_rfl)) ?_
 intro W base args ds gs before hval hW _ hk _;refine ur (C9 H) (P:=Tryz.prog) (s:=Rows.blastWholeSpec) (S:=ut) Gw C8 (by kernel_rfl) rfl (λds h=>?_) (by kernel_rfl) (tb:=4) Tryz.underlying4 hval hW (Da hk) ok;match ds,h with
 |[_,_,_,_],_=>rfl
end blastWhole
theorem blastWholeUpto_holds:Rows.BlastWholeUptoSaid:=
 OpenClaim.holds_of_cond 3 Tryz.f3 rfl rfl rfl rfl rfl rfl rfl ⟨rfl,rfl,rfl,rfl,rfl⟩ rfl rfl rfl rfl rfl (by kernel_rfl) Tryz.func3 (by kernel_rfl)
  (of_decide_eq_true (by kernel_rfl)) (by unfold Func.isWrapper;first|(rw[if_pos (by decide+kernel)];kernel_rfl)|(rw[if_neg (by decide+kernel)];exact⟨rfl,rfl⟩))
  (λos started H enc _ F=>blastWhole.lifted os started H enc F)
end Go.Proofs.YtbbihmmobfmadaaGreat
