/- blast: few gates; the law that nothing is made again. -/
import Derived.Test.YtbbihmmobfmadaaGreatWAigVal
import Derived.Test.YtbbihmmobfmadaaGreatWBlzBlaF
import Derived.Test.YtbbihmmobfmadaaGreatWBlzBlaU
import Derived.Test.YtbbihmmobfmadaaGreatWAbsU
set_option linter.unusedSimpArgs false
set_option linter.unusedVariables false
set_option maxHeartbeats 4000000
set_option maxRecDepth 50000
namespace Fil
open Abs Go
theorem Ht:IntKind.i64.min= -9223372036854775808:=by decide
theorem Hu:IntKind.i64.max=9223372036854775807:=by decide
theorem I64_of{n:Int}(h:IntKind.i64.min<=n/\n<=IntKind.i64.max):I64 n:=by rw[Ht,Hu] at h;exact h
structure Wide(g:Aig):Prop where
 ins:I64 g.ins
 nexts:∀f∈g.flops,I64 f.next
 gates:∀x∈g.ands,I64 x.1/\I64 x.2
 lits:∀a∈g.outs,I64 a
def MY(g:Aig):Prop:=g.ins<=200/\g.flops.length<=200/\g.ands.length<=1000/\g.outs.length<=200
theorem KQ{g:Aig}(h:Wide g)(hf:MY g):Wf g:=
 ⟨h.ins,by have:=hf.2.1;omega,by have:=hf.2.2.1;omega,by have:=hf.2.2.2;omega,h.nexts,h.gates,h.lits⟩
end Fil
namespace Fil.Bl
open Abs
theorem rK:∀(l:List (Int×Int)) (x:Bool) (v:List Bool),(Aig.vals (x::v) l).getD 0 false=x
 |[],x,v=>rfl
 |y::l,x,v=>by
  simp only[Aig.vals,List.cons_append];exact rK l x _
theorem yA(K:Aig)(inp st:List Bool):K.value 0 inp st=false/\K.value 1 inp st=true:=by
 unfold Aig.value Aig.val;have h:=rK K.ands false (inp++st);constructor
 ·show((Aig.vals (false::(inp++st)) K.ands).getD 0 false != decide ((0:Int)%2=1))=false
  rw[h];decide
 ·show((Aig.vals (false::(inp++st)) K.ands).getD 0 false != decide ((1:Int)%2=1))=true
  rw[h];decide
theorem Hv{K:Aig}(hK:Ok K)(inp st:List Bool):Lits (λa=>K.lit a=true) (λa=>K.value a inp st):=by
 have hlo:=hK.fine.lo;have hcb:0<=K.count:=by unfold Aig.count;omega
 have h0:∀{a:Int},K.lit a=true->0<=a:=fun{a} h=>by
  unfold Aig.lit Aig.litN at h;simp only[Bool.and_eq_true,decide_eq_true_eq] at h;exact h.1
 refine⟨?_,?_,(yA K inp st).1,(yA K inp st).2,λa h=>cg h,λa h=>wM (h0 h)⟩
 ·simp only[Aig.lit,Aig.litN,Bool.and_eq_true,decide_eq_true_eq];omega
 ·simp only[Aig.lit,Aig.litN,Bool.and_eq_true,decide_eq_true_eq];omega
theorem Dm{g h:Aig}(hx:Fil.Ext g h){a:List Int}(hw:df g a=true):df h a=true:=by
 unfold df at hw|-;simp only[Bool.and_eq_true,decide_eq_true_eq,List.all_eq_true] at hw|-;refine⟨hw.1,λx hxm=>?_⟩;have:=hw.2 x hxm
 obtain⟨l,hl⟩:=hx.ands;unfold Aig.lit Aig.litN Aig.count at this|-;rw[hx.ins,hx.flops,hl];simp only[Bool.and_eq_true,decide_eq_true_eq,List.length_append] at this|-;omega
theorem Hw{g:Aig}{may:Bool}{p:Pg (List Int)}(h:(jB g may p).2.2=0):g.check=0/\may=true/\(p.run ⟨g,0⟩).2.e=0/\jB g may p=((p.run ⟨g,0⟩).2.g,(p.run ⟨g,0⟩).1,0):=by
 unfold jB at h|-;by_cases h0:g.check=0
 ·rw[if_neg (by omega)] at h|-;cases may with
  |false=>simp at h
  |true=>
   rw[if_neg (by simp)] at h|-;unfold cw at h|-;by_cases he:(p.run ⟨g,0⟩).2.e=0
   ·rw[if_neg (by omega)];exact⟨h0,rfl,he,rfl⟩
   ·rw[if_pos he] at h;exact absurd h he
 ·rw[if_pos h0] at h;exact absurd h h0
end Fil.Bl
namespace Go.Proofs.YtbbihmmobfmadaaGreat
open Abs Fil Fil.Bl A
def sZ(g:Aig):Bool:=decide (g.ins<=40)&&decide (g.flops.length<=20)&&decide (g.ands.length<=80)&&decide (g.outs.length<=60)
theorem KR(g:Aig)(ls:List (List Int))(t:Tok)(σ:aA)(hl:ls.length<=1000):
  C_ 8 [aQ g, .slice (ls.map λl=>aD l .no) t] σ (.bool ((ls.all λl=>decide (l.length<=8))&&sZ g)) σ:=by
 refine gO [2] Tryz.func8 (by kernel_rfl) (by conv=>lhs;reduce;dsimp only[iA]) rfl ?_;repeat' simp -implicitDefEqProofs -dsimp only[go_sem,seval, *]
 refine loop_rule (λi:Nat=>[(5,some (.int .i64 i)),(1,some (.slice (ls.map λl=>aD l .no) t)),(2,some (.cptr (gC g)))]) (λ_=>σ) (λi=>i<=ls.length/\(ls.take i).all (λl=>decide (l.length<=8))=true) (λi=>ls.length-i) 0 ?_ ?_
 ·(repeat' (first|simp -implicitDefEqProofs -dsimp only[go_sem,seval,List.take_zero,List.all_nil, *]|omega))
 rintro i ⟨hi,hall⟩;by_cases hlt:i<ls.length
 ·have hgx:(ls.map λl=>aD l .no)[i]?=some (aD ls[i] .no):=by simp[hlt]
  have htk:ls.take (i+1)=ls.take i++[ls[i]]:=by rw[List.take_add_one];simp[hlt]
  have hmem:ls[i]∈ls:=List.getElem_mem _;generalize hx:ls[i]=x at hgx htk hmem;clear hx;by_cases h8:(8:Int)<(x.length:Int)
  ·have hf:(ls.all λl=>decide (l.length<=8))=false:=by
    rw[List.all_eq_false];exact⟨x,hmem,by simp;omega⟩
   rw[hf,Bool.false_and];clear hf htk hall hmem;repeat' (first|simp -implicitDefEqProofs -dsimp only[go_sem,seval,gt_iff_lt,List.length_map, *]|refine fin_eq ?_)
  ·have hall2:(ls.take (i+1)).all (λl=>decide (l.length<=8))=true:=by
    rw[htk,List.all_append,hall];simp;omega
   clear htk hall hmem;repeat' (first|simp -implicitDefEqProofs -dsimp only[go_sem,seval,gt_iff_lt,List.length_map, *]|simp(disch:=omega) only[ah,aj,ao,aw,ar,ag,au,aq]|refine lnx (i+1) ?_|refine And.intro ?_ ?_|omega)
 ·have:i=ls.length:=by omega
  subst this;rw[List.take_length] at hall;rw[hall,Bool.true_and];have hM:sZ g=(decide (g.ins<=40)&&decide (g.flops.length<=20)&&decide (g.ands.length<=80)&&decide (g.outs.length<=60)):=rfl;generalize hMM:sZ g=M at hM|-;clear hMM hall;by_cases h1:g.ins<=40
  case neg=>
   have e:M=false:=by rw[hM];simp[h1]
   subst e;clear hM;repeat' (first|simp -implicitDefEqProofs -dsimp only[go_sem,seval,List.length_map, *]|refine fin_eq ?_)
  by_cases h2:(g.flops.length:Int)<=20
  case neg=>
   have e:M=false:=by rw[hM,show decide (g.flops.length<=20)=false by rw[decide_eq_false_iff_not];omega];simp
   subst e;clear hM;repeat' (first|simp -implicitDefEqProofs -dsimp only[go_sem,seval,List.length_map, *]|refine fin_eq ?_)
  by_cases h3:(g.ands.length:Int)<=80
  case neg=>
   have e:M=false:=by rw[hM,show decide (g.ands.length<=80)=false by rw[decide_eq_false_iff_not];omega];simp
   subst e;clear hM;repeat' (first|simp -implicitDefEqProofs -dsimp only[go_sem,seval,List.length_map, *]|refine fin_eq ?_)
  have e:M=decide ((g.outs.length:Int)<=60):=by
   rw[hM,show decide (g.ins<=40)=true by simpa using h1,show decide (g.flops.length<=20)=true by rw[decide_eq_true_iff];omega,show decide (g.ands.length<=80)=true by rw[decide_eq_true_iff];omega];simp only[Bool.true_and];rw[Bool.eq_iff_iff,decide_eq_true_iff,decide_eq_true_iff];omega
  subst e;clear hM;repeat' (first|simp -implicitDefEqProofs -dsimp only[go_sem,seval,List.length_map, *]|refine fin_eq ?_)
theorem KS{g:Aig}(h:sZ g=true):MY g:=by
 unfold sZ at h;simp only[Bool.and_eq_true,decide_eq_true_eq] at h;exact⟨by omega,by omega,by omega,by omega⟩
end Go.Proofs.YtbbihmmobfmadaaGreat
