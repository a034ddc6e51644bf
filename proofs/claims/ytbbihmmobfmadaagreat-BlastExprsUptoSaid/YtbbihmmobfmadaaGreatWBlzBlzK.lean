/- blast: the document's answer: operations of one word, other widths, numbers. -/
import Derived.Test.YtbbihmmobfmadaaGreatWBlzBlzH
import Derived.Test.YtbbihmmobfmadaaGreatWBlzBlaV
set_option linter.unusedSimpArgs false
set_option linter.unusedVariables false
namespace Go.Proofs.YtbbihmmobfmadaaGreat
open Abs Fil Fil.Bl A
theorem Dn{α:Type}:∀(p:Pg α) (b:Bu),Wf b.g->Wf (p.run b).2.g
 | .ret a,b,h=>h
 | .op o x y z k,b,h=>Dn (k _) _ (eK h o x y z).1
theorem zG_wf:Wf zG:=⟨by unfold zG I64;simp,by simp[zG],by simp[zG],by simp[zG],by simp[zG],by simp[zG],by simp[zG]⟩
theorem not_len(x:List Int):(bk x).length=x.length:=by simp[bk]
end Go.Proofs.YtbbihmmobfmadaaGreat
