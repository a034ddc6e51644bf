/- blast: few gates; the law that nothing is made again. -/
import Derived.Test.YtbbihmmobfmadaaGreatVAigVal
import Derived.Test.YtbbihmmobfmadaaGreatVBlzBlaF
import Derived.Test.YtbbihmmobfmadaaGreatVBlzBlaU
import Derived.Test.YtbbihmmobfmadaaGreatVAbsU
set_option linter.unusedSimpArgs false
set_option linter.unusedVariables false
set_option maxHeartbeats 4000000
set_option maxRecDepth 50000
namespace Fil
open Abs Go
theorem FM:IntKind.i64.min= -9223372036854775808:=by decide
theorem FN:IntKind.i64.max=9223372036854775807:=by decide
theorem I64_of{n:Int}(h:IntKind.i64.min<=n/\n<=IntKind.i64.max):I64 n:=by rw[FM,FN] at h;exact h
structure Wide(g:Aig):Prop where
 ins:I64 g.ins
 nexts:∀f∈g.flops,I64 f.next
 gates:∀x∈g.ands,I64 x.1/\I64 x.2
 lits:∀a∈g.outs,I64 a
def Ku(g:Aig):Prop:=g.ins<=200/\g.flops.length<=200/\g.ands.length<=1000/\g.outs.length<=200
theorem IU{g:Aig}(h:Wide g)(hf:Ku g):Wf g:=
 ⟨h.ins,by have:=hf.2.1;omega,by have:=hf.2.2.1;omega,by have:=hf.2.2.2;omega,h.nexts,h.gates,h.lits⟩
end Fil
namespace Go.Proofs.YtbbihmmobfmadaaGreat
open Abs Fil Fil.Bl A
def tB(g:Aig):Bool:=decide (g.ins<=40)&&decide (g.flops.length<=20)&&decide (g.ands.length<=80)&&decide (g.outs.length<=60)
theorem IV(g:Aig)(ls:List (List Int))(t:Tok)(σ:aB)(hl:ls.length<=1000):
  C_ 8 [aJ g, .slice (ls.map λl=>aw l .no) t] σ (.bool ((ls.all λl=>decide (l.length<=8))&&tB g)) σ:=by
 refine gO [2] Tryz.func8 (by kernel_rfl) (by conv=>lhs;reduce;dsimp only[iA]) rfl ?_;repeat' simp -implicitDefEqProofs -dsimp only[go_sem,seval, *]
 refine ar (λi:Nat=>[(5,some (.int .i64 i)),(1,some (.slice (ls.map λl=>aw l .no) t)),(2,some (.cptr (gg g)))]) (λ_=>σ) (λi=>i<=ls.length/\(ls.take i).all (λl=>decide (l.length<=8))=true) (λi=>ls.length-i) 0 ?_ ?_
 ·(repeat' (first|simp -implicitDefEqProofs -dsimp only[go_sem,seval,List.take_zero,List.all_nil, *]|omega))
 rintro i ⟨hi,hall⟩;by_cases hlt:i<ls.length
 ·have hgx:(ls.map λl=>aw l .no)[i]?=some (aw ls[i] .no):=by simp[hlt]
  have htk:ls.take (i+1)=ls.take i++[ls[i]]:=by rw[List.take_add_one];simp[hlt]
  have hmem:ls[i]∈ls:=List.getElem_mem _;generalize hx:ls[i]=x at hgx htk hmem;clear hx;by_cases h8:(8:Int)<(x.length:Int)
  ·have hf:(ls.all λl=>decide (l.length<=8))=false:=by
    rw[List.all_eq_false];exact⟨x,hmem,by simp;omega⟩
   rw[hf,Bool.false_and];clear hf htk hall hmem;repeat' (first|simp -implicitDefEqProofs -dsimp only[go_sem,seval,gt_iff_lt,List.length_map, *]|refine fin_eq ?_)
  ·have hall2:(ls.take (i+1)).all (λl=>decide (l.length<=8))=true:=by
    rw[htk,List.all_append,hall];simp;omega
   clear htk hall hmem;repeat' (first|simp -implicitDefEqProofs -dsimp only[go_sem,seval,gt_iff_lt,List.length_map, *]|simp(disch:=omega) only[ah,aj,ao,aA,au,ag,az,aq]|refine lnx (i+1) ?_|refine And.intro ?_ ?_|omega)
 ·have:i=ls.length:=by omega
  subst this;rw[List.take_length] at hall;rw[hall,Bool.true_and];have hM:tB g=(decide (g.ins<=40)&&decide (g.flops.length<=20)&&decide (g.ands.length<=80)&&decide (g.outs.length<=60)):=rfl;generalize hMM:tB g=M at hM|-;clear hMM hall;by_cases h1:g.ins<=40
  case neg=>
   have e:M=false:=by rw[hM];simp[h1]
   subst e;clear hM;repeat' (first|simp -implicitDefEqProofs -dsimp only[go_sem,seval,List.length_map, *]|refine fin_eq ?_)
  by_cases h2:(g.flops.length:Int)<=20
  case neg=>
   have e:M=false:=by rw[hM,show decide (g.flops.length<=20)=false by rw[decide_eq_false_iff_not];omega];simp
   subst e;clear hM;repeat' (first|simp -implicitDefEqProofs -dsimp only[go_sem,seval,List.length_map, *]|refine fin_eq ?_)
  by_cases h3:(g.ands.length:Int)<=80
  case neg=>
   have e:M=false:=by rw[hM,show decide (g.ands.length<=80)=false by rw[decide_eq_false_iff_not];omega];simp
   subst e;clear hM;repeat' (first|simp -implicitDefEqProofs -dsimp only[go_sem,seval,List.length_map, *]|refine fin_eq ?_)
  have e:M=decide ((g.outs.length:Int)<=60):=by
   rw[hM,show decide (g.ins<=40)=true by simpa using h1,show decide (g.flops.length<=20)=true by rw[decide_eq_true_iff];omega,show decide (g.ands.length<=80)=true by rw[decide_eq_true_iff];omega];simp only[Bool.true_and];rw[Bool.eq_iff_iff,decide_eq_true_iff,decide_eq_true_iff];omega
  subst e;clear hM;repeat' (first|simp -implicitDefEqProofs -dsimp only[go_sem,seval,List.length_map, *]|refine fin_eq ?_)
theorem IW{g:Aig}(h:tB g=true):Ku g:=by
 unfold tB at h;simp only[Bool.and_eq_true,decide_eq_true_eq] at h;exact⟨by omega,by omega,by omega,by omega⟩
end Go.Proofs.YtbbihmmobfmadaaGreat
