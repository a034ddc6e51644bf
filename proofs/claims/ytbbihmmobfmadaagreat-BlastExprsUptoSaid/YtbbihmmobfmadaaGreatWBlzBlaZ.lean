/- blast: contracts: the law's extends. -/
import Derived.Test.YtbbihmmobfmadaaGreatWAigVal
import Derived.Test.YtbbihmmobfmadaaGreatWBlzBlaU
import Derived.Test.YtbbihmmobfmadaaGreatWBlzBlaV
set_option linter.unusedSimpArgs false
set_option linter.unusedVariables false
set_option maxHeartbeats 4000000
set_option maxRecDepth 50000
namespace Go.Proofs.YtbbihmmobfmadaaGreat
open Abs Fil Fil.Bl A
theorem r6(n:List Bool)(a:List Int)(t:Tok)(σ:aA)(hn:n.length<=1000000)(ha:a.length<=64)(hv:∀l∈a,0<=l/\(l/2).toNat<n.length/\l<=9223372036854775807):
  C_ 17 [.slice (n.map cP) .no,aD a t] σ (eB a.length (aT (a.map (Aig.val n)))) σ:=by
 refine gO [] Tryz.func17 (by kernel_rfl) (by conv=>lhs;reduce;dsimp only[iA]) rfl ?_;repeat' (first|simp -implicitDefEqProofs -dsimp only[go_sem,seval,List.length_map, *]|(with_reducible refine Zt λoF hoF hnF hnF'=>?_;try simp only[aa,ne_eq,not_and] at hoF))
 rename_i o1 ho1 hn1 hn1'
 obtain⟨o2,ho2'⟩:∃x,x=oF:=⟨_,rfl⟩;subst ho2';refine loop_rule (λi:Nat=>[(6,some (.int .i64 i)),(1,some (aD a t)),(0,some (.slice (n.map cP) .no)),(5,some (.ptr o2 0)),(4,some (.ptr o1 0))]) (λi=>aH (aH σ o1 (.cells [.int .i64 0, .int .u64 0])) o2 (.cells [.int .i64 a.length, .int .u64 (aT ((a.take i).map (Aig.val n)))])) (λi=>i<=a.length) (λi=>a.length-i) 0 ?_ ?_
 ·have h0:aT ((a.take 0).map (Aig.val n))=0:=rfl;(repeat' (first|simp -implicitDefEqProofs -dsimp only[go_sem,seval,h0,Int.natCast_zero, *]|with_reducible refine And.intro ?_ ?_|omega|rfl))
 intro i hi;by_cases hlt:i<a.length
 ·obtain⟨l,hl⟩:∃l,a[i]=l:=⟨_,rfl⟩;have hmem:l∈a:=hl▸List.getElem_mem _;obtain⟨h0,h1,h2⟩:=hv l hmem;have hgx:(a.map λx=>AV.int .i64 x)[i]?=some (.int .i64 l):=by simp[hlt,hl]
  have hge:l≥0:=h0;have htd:l.tdiv 2=l/2:=aj l h0;have hlt2:l/2<(n.length:Int):=by omega
  have hwr:IntKind.i64.wrap (l/2)=l/2:=ah _ (by omega) (by omega);have z1:=λτ=>ref_Value n l τ h0 h1 (by omega);have hi64:(i:Int)<64:=by omega
  have hni:¬(i:Int)<0:=by omega
  have hil:(i:Int)<(a.length:Int):=by omega
  have hmn:Nat.min i 64=i:=Nat.min_eq_left (by omega);have htk:a.take (i+1)=a.take i++[l]:=by rw[List.take_add_one];simp[hlt,hl]
  have hsn:aT ((a.take (i+1)).map (Aig.val n))=aT ((a.take i).map (Aig.val n))+2^i*(Aig.val n l).toNat:=by
   rw[htk,List.map_append,List.map_cons,List.map_nil,Bl.toN_snoc];simp[show min i a.length=i by omega]
  have hT:=dG ((a.take i).map (Aig.val n));rw[List.length_map,List.length_take,Nat.min_eq_left hi] at hT;generalize hTe:aT ((a.take i).map (Aig.val n))=T at hsn hT|-;have hp64:2^i<=2^63:=Nat.pow_le_pow_right (by omega) (by omega);have e63:(2:Nat)^63=9223372036854775808:=by decide
  have hor:=MA T (2^i) (by omega) (by omega)
  have hsum:T|||2^i=T+2^i:=by
   have:=Nat.two_pow_add_eq_or_of_lt hT 1
   rw[Nat.mul_one] at this;rw[Nat.or_comm,<-this,Nat.add_comm]
  rw[hsum] at hor;have hsh:=GZ 1 i;rw[Nat.one_mul,Nat.mod_eq_of_lt (by omega)] at hsh;have hp2:(2:Int)^i=((2^i:Nat):Int):=by simp
  cases hV:Aig.val n l with
  |false=>
   rw[hV] at z1 hsn;simp only[Bool.toNat_false,Nat.mul_zero,Nat.add_zero] at hsn;clear hV hv hmem hl htk hor hsum hsh hp2 e63 hp64;repeat' (first|simp -implicitDefEqProofs -dsimp only[go_sem,seval,List.length_map, *]|simp(disch:=omega) only[ah,aj,ao,aw,ar,ag,au,aq]|refine kc1 (z1 _) ?_|with_reducible refine lnx (i+1) ?_|with_reducible refine And.intro ?_ ?_|omega)
  |true=>
   rw[hV] at z1 hsn;simp only[Bool.toNat_true,Nat.mul_one] at hsn;generalize hP:2^i=P at hsn hor hsh hp2
   have hsh':IntKind.u64.wrap (1*(P:Int))=(P:Int):=by
    rw[hp2] at hsh;exact hsh
   clear hV hv hmem hl htk hsum e63;repeat' (first|simp -implicitDefEqProofs -dsimp only[go_sem,seval,List.length_map, *]|simp(disch:=omega) only[ah,aj,ao,aw,ar,ag,au,aq]|refine kc1 (z1 _) ?_|(with_reducible refine lnx (i+1) ?_;repeat' (first|simp -implicitDefEqProofs -dsimp only[go_sem,seval,hsh', *]|with_reducible refine And.intro ?_ ?_))|omega)
 ·have:i=a.length:=by omega
  subst this;rw[List.take_length];repeat' (first|simp -implicitDefEqProofs -dsimp only[go_sem,seval,List.length_map, *]|refine fin_eq ?_)
end Go.Proofs.YtbbihmmobfmadaaGreat
namespace Go.Proofs.YtbbihmmobfmadaaGreat
open Abs Fil Fil.Bl A
theorem EE(g:Aig)(a:List Int)(t:Tok)(σ:aA)(hf:Fine g)(hw:df g a=true):
  C_ 47 [aQ g,aD a t] σ (.bool true) σ:=by
 have hcb:=hf.cnt;have hlo:=hf.lo;have hc0:0<=g.count:=by unfold Aig.count;omega
 have z1:=λτ=>mr g τ hf.toSmall;unfold df at hw;simp only[Bool.and_eq_true,decide_eq_true_eq,List.all_eq_true] at hw;obtain⟨⟨h1,h2⟩,h3⟩:=hw;have e1:¬(a.length:Int)<1:=by omega
 have e2:¬(64:Int)<(a.length:Int):=by omega
 have z2:=λx τ=>lm (1+g.count) x τ (by omega) (by omega);refine gO [2] Tryz.func47 (by kernel_rfl) (by conv=>lhs;reduce;dsimp only[iA]) rfl ?_;repeat' simp(maxDischargeDepth:=9) -implicitDefEqProofs -dsimp only[go_sem,seval,gt_iff_lt,List.length_map, *]
 refine loop_rule (λi:Nat=>[(5,some (.int .i64 i)),(1,some (aD a t)),(2,some (.cptr (gC g)))]) (λ_=>σ) (λi=>i<=a.length) (λi=>a.length-i) 0 ?_ ?_
 ·(repeat' (first|simp(maxDischargeDepth:=9) -implicitDefEqProofs -dsimp only[go_sem,seval, *]|omega))
 intro i hi;by_cases hlt:i<a.length
 ·obtain⟨l,hl⟩:∃l,a[i]=l:=⟨_,rfl⟩;have hgx:(a.map λx=>AV.int .i64 x)[i]?=some (.int .i64 l):=by simp[hlt,hl]
  have h4:Aig.litN (1+g.count) l=true:=h3 l (hl▸List.getElem_mem _);have z3:=λτ=>z2 l τ;rw[h4] at z3;clear h3 h4 hl z2 hf h1 h2;repeat' (first|simp(maxDischargeDepth:=9) -implicitDefEqProofs -dsimp only[go_sem,seval,List.length_map, *]|simp(disch:=omega) only[ah,aj,ao,aw,ar,ag,au,aq]|with_reducible refine id_one0 (λtS hS=>z1 _) trivial ?_|with_reducible refine id_one0 (λtS hS=>z3 _) trivial ?_|with_reducible refine lnx (i+1) ?_|with_reducible refine And.intro ?_ ?_|omega)
 ·have:i=a.length:=by omega
  subst this;clear h3 z2 hf h1 h2;repeat' (first|simp(maxDischargeDepth:=9) -implicitDefEqProofs -dsimp only[go_sem,seval,List.length_map, *]|refine fin_eq ?_)
theorem vz(g h:Aig)(a:List Int)(t:Tok)(σ:aA)(hx:Fil.Ext g h)(ho:Ok h)(hl:h.ands.length<=20000)(hw:df h a=true):
  C_ 16 [aQ g,aQ h,aD a t] σ (.bool true) σ:=by
 have z1:=λτ=>ref_Check h τ ho.wf;rw[ho.chk] at z1;have z2:=λτ=>EE h a t τ ho.fine hw;have hwf:=ho.wf;obtain⟨i1,i2,i3,m,i4⟩:=hx;have z3:=λτ=>CR g g τ (by have:=hwf.flops;rw[i2] at this;exact this) (by have:=hwf.ands;rw[i4] at this;simp at this;omega) (by have:=hwf.outs;rw[i3] at this;exact this);rw[show decide (g=g)=true by simp] at z3;obtain⟨hi,hfl,ha,hou⟩:=h;simp only at i1 i2 i3 i4 hl;subst i1 i2 i3 i4;obtain⟨H,hH⟩:∃H,g.ands++m=H:=⟨_,rfl⟩;have hlen:g.ands.length<=H.length:=by rw[<-hH];simp
 have htk:List.take g.ands.length (H.map encGate)=g.ands.map encGate:=by rw[<-hH,<-List.map_take];simp
 rw[hH] at hl z1 z2;have hle:(g.ands.length:Int)<=(H.length:Int):=by omega
 have hnl:¬(H.length:Int)<(g.ands.length:Int):=by omega
 have hn2:¬(20000:Int)<(H.length:Int):=by omega
 clear ho hw hwf;rw[hH];clear hH;refine gO [3,4] Tryz.func16 (by kernel_rfl) (by conv=>lhs;reduce;dsimp only[iA]) rfl ?_;repeat' (first|simp(maxDischargeDepth:=9) -implicitDefEqProofs -dsimp only[go_sem,seval,gt_iff_lt,List.length_map, *]|(with_reducible refine Zt λoF hoF hnF hnF'=>?_;try simp only[aa,ne_eq,not_and] at hoF)|with_reducible refine kc1 (z1 _) ?_|with_reducible refine kc1 (z2 _) ?_|with_reducible refine kc1 (z3 _) ?_|refine fin_eq ?_)
end Go.Proofs.YtbbihmmobfmadaaGreat
