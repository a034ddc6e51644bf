/- blast: the document's answer: operations of one word, other widths, numbers. -/
import Derived.Test.YtbbihmmobfmadaaGreatVBlzBlzJ
import Derived.Test.YtbbihmmobfmadaaGreatVBlzBlaV
set_option linter.unusedSimpArgs false
set_option linter.unusedVariables false
namespace Go.Proofs.YtbbihmmobfmadaaGreat
open Abs Fil Fil.Bl A
theorem vO{α:Type}:∀(p:Pg α) (b:Bu),Wf b.g->Wf (p.run b).2.g
 | .ret a,b,h=>h
 | .op o x y z k,b,h=>vO (k _) _ (dD h o x y z).1
theorem B2:Wf zG:=⟨by unfold zG I64;simp,by simp[zG],by simp[zG],by simp[zG],by simp[zG],by simp[zG],by simp[zG]⟩
theorem made_wf{g:Aig}{may:Bool}{p:Pg (List Int)}(hs:Wf g):Wf (gC g may p).1:=by
 unfold gC;split
 ·exact B2
 split
 ·exact B2
 ·unfold bK;split
  ·exact B2
  ·exact vO p ⟨g,0⟩ hs
theorem B3{g:Aig}{may:Bool}{p:Pg (List Int)}{n:Nat}(h:(p.run ⟨g,0⟩).1.length<=n):(gC g may p).2.1.length<=n:=by
 unfold gC;split
 ·exact Nat.zero_le _
 split
 ·exact Nat.zero_le _
 ·unfold bK;split
  ·exact Nat.zero_le _
  ·exact h
theorem not_len(x:List Int):(aN x).length=x.length:=by simp[aN]
theorem y0(g:Aig)(h:Wf g)(τ:aB):C_ 13 [aJ g,aJ g] τ (.bool true) τ:=by
 have z:=Bz g g τ h.flops h.ands h.outs;rwa [show decide (g=g)=true by simp] at z
theorem y4(l:List Int)(h:l.length<=1000000000)(τ:aB):C_ 14 [aw l .no,aw l .no] τ (.bool true) τ:=by
 have z:=BC l l τ h;rwa [show decide (l=l)=true by simp] at z
end Go.Proofs.YtbbihmmobfmadaaGreat
