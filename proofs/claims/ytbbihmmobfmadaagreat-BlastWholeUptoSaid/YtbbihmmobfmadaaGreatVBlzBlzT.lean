/- blast: the document's answer: an expression's word. -/
import Derived.Test.YtbbihmmobfmadaaGreatVBlzBlzP
import Derived.Test.YtbbihmmobfmadaaGreatVBlzSizAh
set_option linter.unusedSimpArgs false
set_option linter.unusedVariables false
set_option maxHeartbeats 8000000
set_option maxRecDepth 50000
namespace Go.Proofs.YtbbihmmobfmadaaGreat
open Abs Fil Fil.Bl A
def sF(g:Aig)(s:List Sz.Sg)(v:List (List Int))(i:Nat):Bool:=eO g (v.getD i [])&&decide (((v.getD i []).length:Int)=(s.getD i Sz.zS).w)
def fM(g:Aig)(s:List Sz.Sg)(v:List (List Int)):Bool:=decide (v.length=s.length)&&(List.range v.length).all (sF g s v)
noncomputable def fp(d:Sz.Flat)(g:Aig)(v:List (List Int))(e:Sz.E):Bool:=decide (Sz.checkD d=0)&&decide (Sz.checkE d e=0)&&fM g d.sigs v
noncomputable def gB(d:Sz.Flat)(g:Aig)(v:List (List Int))(e:Sz.E):Aig×List Int×Int:=gC g (fp d g v e) (aM v e)
theorem pJ{g:Aig}{s:List Sz.Sg}{v:List (List Int)}(hf:Fine g)(h:fM g s v=true):Wv s v/\Lv v:=by
 unfold fM at h;simp only[Bool.and_eq_true,decide_eq_true_eq,List.all_eq_true,List.mem_range] at h;obtain⟨h1,h2⟩:=h
 have h3:∀a∈v,eO g a=true:=λa ha=>by
  obtain⟨i,hi,rfl⟩:=List.getElem_of_mem ha;have:=h2 i hi
  unfold sF at this;rw[Bool.and_eq_true,List.getD_eq_getElem?_getD,List.getElem?_eq_getElem hi] at this;exact this.1
 refine⟨⟨h1,λi hi=>?_,λa ha=>(wS hf (h3 a ha)).1⟩,λa ha=>(wS hf (h3 a ha)).2⟩;have:=h2 i (by omega)
 unfold sF at this;rw[Bool.and_eq_true,decide_eq_true_eq] at this;rw[this.2,List.getD_eq_getElem?_getD,List.getElem?_eq_getElem hi];rfl
theorem CW{g:Aig}{s:List Sz.Sg}{v:List (List Int)}{i:Nat}(h1:i<v.length)(h2:i<s.length):sF g s v i=(eO g v[i]&&decide ((v[i].length:Int)=s[i].w)):=by
 unfold sF;rw[List.getD_eq_getElem?_getD,List.getElem?_eq_getElem h1,List.getD_eq_getElem?_getD,List.getElem?_eq_getElem h2];rfl
theorem CX(od oe ov og:Nat)(d:Sz.Flat)(e:Sz.E)(v:List (List Int))(tv:Tok)(g:Aig)(σ:aB)(hf:Fine g)(hd:S.Sm d)(hw:Sz.WfD d)(he:Sz.nodes e<=16777216)(hwe:Sz.WfE e)(hv:v.length<=1000000)(hvl:∀a∈v,a.length<=1000000)
  (h1:σ od=some (.cells (Sz.dL d)))(h2:σ oe=some (.cells (Sz.eL e)))(h3:σ ov=some (.cells [fU v tv]))(h4:σ og=some (.cells (gg g))):
  C_ 33 [.ptr od 0, .ptr oe 0, .ptr ov 0, .ptr og 0] σ (.bool (fp d g v e)) σ:=by
 have z1:=λτ=>S.sz_Check d τ hd hw;have z2:=λτ=>S.sz_CheckE d e τ (by have:=hd.1;omega) he hwe;have hM:fp d g v e=(decide (Sz.checkD d=0)&&decide (Sz.checkE d e=0)&&fM g d.sigs v):=rfl;generalize hMM:fp d g v e=M at hM|-;obtain⟨C,hC⟩:∃C,Sz.checkD d=C:=⟨_,rfl⟩;obtain⟨D,hD⟩:∃C,Sz.checkE d e=C:=⟨_,rfl⟩;rw[hC] at z1 hM;rw[hD] at z2 hM;have hds:=hd.1;clear hMM hC hD hd hw he hwe;by_cases q1:C=0
 case neg=>
  have e1:M=false:=by rw[hM,decide_eq_false q1];rfl
  have b1:(C != 0)=true:=by simpa using q1
  subst e1;clear hM q1;refine gO [] Tryz.func33 (by kernel_rfl) (by conv=>lhs;reduce;dsimp only[iA]) rfl ?_;repeat' (first|simp(maxDischargeDepth:=9) -implicitDefEqProofs -dsimp only[go_sem,seval, *]|with_reducible refine kc1 (z1 _) ?_|refine fin_eq ?_)
 by_cases q2:D=0
 case neg=>
  have e1:M=false:=by rw[hM,decide_eq_false q2];simp
  have b2:(D != 0)=true:=by simpa using q2
  subst e1 q1;clear hM q2;refine gO [] Tryz.func33 (by kernel_rfl) (by conv=>lhs;reduce;dsimp only[iA]) rfl ?_;repeat' (first|simp(maxDischargeDepth:=9) -implicitDefEqProofs -dsimp only[go_sem,seval, *]|with_reducible refine kc1 (z1 _) ?_|with_reducible refine kc1 (z2 _) ?_|refine fin_eq ?_)
 subst q1 q2;simp only[decide_true,Bool.true_and] at hM;by_cases q3:v.length=d.sigs.length
 case neg=>
  have e1:M=false:=by rw[hM,fM,decide_eq_false q3];rfl
  have b3:((v.length:Int) != (d.sigs.length:Int))=true:=by rw[bne_iff_ne];omega
  subst e1;clear hM q3;refine gO [] Tryz.func33 (by kernel_rfl) (by conv=>lhs;reduce;dsimp only[iA]) rfl ?_;repeat' (first|simp(maxDischargeDepth:=9) -implicitDefEqProofs -dsimp only[go_sem,seval,List.length_map, *]|with_reducible refine kc1 (z1 _) ?_|with_reducible refine kc1 (z2 _) ?_|refine fin_eq ?_)
 have b3:((v.length:Int) != (d.sigs.length:Int))=false:=by rw[bne_eq_false_iff_eq];omega
 replace hM:M=(List.range v.length).all (sF g d.sigs v):=by rw[hM,fM,decide_eq_true q3];rfl
 replace q3:=PLift.up q3;refine gO [] Tryz.func33 (by kernel_rfl) (by conv=>lhs;reduce;dsimp only[iA]) rfl ?_;repeat' (first|simp(maxDischargeDepth:=9) -implicitDefEqProofs -dsimp only[go_sem,seval,List.length_map, *]|with_reducible refine kc1 (z1 _) ?_|with_reducible refine kc1 (z2 _) ?_)
 refine ar (λi:Nat=>[(26,some (.int .i64 i)),(25,some (.int .i64 v.length)),(24,some (fU v tv)),(3,some (.ptr og 0)),(0,some (.ptr od 0))]) (λ_=>σ) (λi=>i<=v.length/\(List.range i).all (sF g d.sigs v)=true) (λi=>v.length-i) 0 ?_ ?_
 ·clear hM;(repeat' (first|simp(maxDischargeDepth:=9) -implicitDefEqProofs -dsimp only[go_sem,seval,List.range_zero,List.all_nil,fU, *]|omega))
 rintro i ⟨hi,hall⟩;by_cases hlt:i<v.length
 ·have hls:i<d.sigs.length:=by have:=q3.down;omega
  have hgx:(v.map λl=>aw l .no)[i]?=some (aw v[i] .no):=by simp[hlt]
  have hgs:(d.sigs.map Sz.encS)[i]?=some (Sz.encS d.sigs[i]):=by simp[hls]
  have z3:=λτ=>kV g v[i] .no τ hf (hvl _ (List.getElem_mem hlt));have hat:=CW (g:=g) hlt hls
  have hrg:(List.range (i+1)).all (sF g d.sigs v)=((List.range i).all (sF g d.sigs v)&&sF g d.sigs v i):=by
   rw[List.range_succ,List.all_append];simp
  obtain⟨a,ha⟩:∃a,v[i]=a:=⟨_,rfl⟩;obtain⟨s,hs⟩:∃a,d.sigs[i]=a:=⟨_,rfl⟩;rw[ha] at hgx z3 hat;rw[hs] at hgs hat;generalize hW:eO g a=W at z3 hat;rw[hall,Bool.true_and] at hrg;have hlt':(i:Int)<(v.length:Int):=by omega
  have hls':(i:Int)<(d.sigs.length:Int):=by omega
  have hmi:i∈List.range v.length:=List.mem_range.2 hlt;by_cases hbad:sF g d.sigs v i=true
  case neg=>
   have e1:M=false:=by
    rw[hM,List.all_eq_false];exact⟨i,hmi,hbad⟩
   have hbad':sF g d.sigs v i=false:=by simpa using hbad
   rw[hat] at hbad';subst e1;cases W with
   |false=>
    clear hM hbad hbad' hat hrg hall hmi hf hvl ha hs hW;repeat' (first|simp(maxDischargeDepth:=9) -implicitDefEqProofs -dsimp only[go_sem,seval,List.length_map, *]|with_reducible refine kc1 (z3 _) ?_|refine fin_eq ?_)
   |true=>
    have b4:((a.length:Int) != s.w)=true:=by
     rw[bne_iff_ne];simpa using hbad'
    clear hM hbad hbad' hat hrg hall hmi hf hvl ha hs hW;repeat' (first|simp(maxDischargeDepth:=9) -implicitDefEqProofs -dsimp only[go_sem,seval,List.length_map, *]|with_reducible refine kc1 (z3 _) ?_|refine fin_eq ?_)
  rw[hbad,List.range_succ] at hrg;rw[hat,Bool.and_eq_true,decide_eq_true_eq] at hbad;obtain⟨rfl,hb2⟩:=hbad;have b4:((a.length:Int) != s.w)=false:=by rw[bne_eq_false_iff_eq];exact hb2
  clear hM hb2 hat hall hmi hf hvl ha hs hW;repeat' (first|simp(maxDischargeDepth:=9) -implicitDefEqProofs -dsimp only[go_sem,seval,List.length_map, *]|simp(disch:=omega) only[ah,aj,ao,aA,au,ag,az,aq]|with_reducible refine kc1 (z3 _) ?_|with_reducible refine lnx (i+1) ?_|with_reducible refine And.intro ?_ ?_|omega)
 ·have:i=v.length:=by omega
  subst this;have e1:M=true:=by rw[hM];exact hall
  subst e1;clear hM hall hf hvl;repeat' (first|simp(maxDischargeDepth:=9) -implicitDefEqProofs -dsimp only[go_sem,seval, *]|refine fin_eq ?_)
theorem CY(bo ov oe:Nat)(b:Bu)(v:List (List Int))(tv:Tok)(e:Sz.E)(σ:aB)(h:σ bo=some (bg b))(hs:Wf b.g)(hx:tU v tv e)(h2:σ oe=some (.cells (Sz.eL e)))(h3:σ ov=some (.cells [fU v tv])):
  C_ 38 [.ptr bo 0, .ptr ov 0, .ptr oe 0] σ (aw ((aM v e).run b).1 .no) (aF σ bo (bg ((aM v e).run b).2)):=by
 have z1:=λτ h=>hx bo b τ h hs;obtain⟨⟨R,b3⟩,hR⟩:∃Z,(aM v e).run b=Z:=⟨_,rfl⟩;rw[hR] at z1|-;simp only at z1|-;clear hR hx hs;refine gO [] Tryz.func38 (by kernel_rfl) (by conv=>lhs;reduce;dsimp only[iA]) rfl ?_;repeat' (first|simp(maxDischargeDepth:=9) -implicitDefEqProofs -dsimp only[go_sem,seval, *]|with_reducible refine kc1 (z1 _ ?_) ?_|refine fin_eq ?_)
theorem Gr(d:Sz.Flat)(g:Aig)(v:List (List Int))(tv:Tok)(e:Sz.E)(σ:aB)(hs:Wf g)(hd:S.Sm d)(hw:Sz.WfD d)(he:Sz.nodes e<=1000000)(hwe:Sz.WfE e)(hv:v.length<=1000000)(hvl:∀a∈v,a.length<=1000000):
  C_ 11 [Sz.encD d,aJ g,fU v tv,Sz.encE e] σ (.tup [aJ (gB d g v e).1,aw (gB d g v e).2.1 .no, .int .i64 (gB d g v e).2.2]) σ:=by
 have key:∀τ od oe ov og,τ od=some (.cells (Sz.dL d))->τ oe=some (.cells (Sz.eL e))->τ ov=some (.cells [fU v tv])->τ og=some (.cells (gg g))->
   C_ 37 [aJ g, .fn 33 [] [.ptr od 0, .ptr oe 0, .ptr ov 0, .ptr og 0], .fn 38 [] [.ptr ov 0, .ptr oe 0]] τ (.tup [aJ (gB d g v e).1,aw (gB d g v e).2.1 .no, .int .i64 (gB d g v e).2.2]) τ:=λτ od oe ov og h1 h2 h3 h4=>
  nu g _ _ _ _ (fp d g v e) (aM v e) τ hs
   (λh0 o z ho=>CX od oe ov og d e v tv g _ (cU hs h0) hd hw (by omega) hwe hv hvl (dO ho h1) (dO ho h2) (dO ho h3) (dO ho h4))
   (λh0 hm o z bo ho hb hne=>by
    have hb':aF τ o z bo=none:=by simp[aF,hne,hb]
    unfold fp at hm;simp only[Bool.and_eq_true,decide_eq_true_eq] at hm;obtain⟨w1,w2⟩:=pJ (cU hs h0) hm.2;refine(CY bo ov oe ⟨g,0⟩ v tv e _ (by simp[aF]) hs (FY w1 w2 hv tv e (Sz.checkE_fit hm.1.2) hwe he) (dO hb' (dO ho h2)) (dO hb' (dO ho h3))).mono λr σ' ⟨q1,q2⟩=>⟨q1,?_⟩;rw[q2,mW])
 generalize hZ:gB d g v e=Z at key|-;obtain⟨z1,z2,z3⟩:=Z;simp only at key|-;clear hZ hs hd hw he hwe hv hvl;refine gO [] Tryz.func11 (by kernel_rfl) (by conv=>lhs;reduce;dsimp only[iA]) rfl ?_;repeat' (first|simp(maxDischargeDepth:=9) -implicitDefEqProofs -dsimp only[go_sem,seval, *]|(with_reducible refine Zt λoF hoF hnF hnF'=>?_;try simp only[aa,ne_eq,not_and] at hoF)|with_reducible refine kc1 (key _ _ _ _ _ ?_ ?_ ?_ ?_) ?_|(refine fin_eq ?_;repeat' simp(maxDischargeDepth:=9) -implicitDefEqProofs -dsimp only[go_sem,seval,aw, *]))
end Go.Proofs.YtbbihmmobfmadaaGreat
namespace Go.Proofs.YtbbihmmobfmadaaGreat
open Abs Fil Fil.Bl A
theorem zO(d:Sz.Flat)(v:List (List Int))(tv:Tok)(g:Aig)(σ:aB)(hf:Fine g)(hds:d.sigs.length<=16777216)(hv:v.length<=1000000)(hvl:∀a∈v,a.length<=1000000):
  C_ 43 [Sz.encD d,aJ g,fU v tv] σ (.bool (fM g d.sigs v)) σ:=by
 obtain⟨M,hM⟩:∃M,fM g d.sigs v=M:=⟨_,rfl⟩;rw[hM];replace hM:=hM.symm;by_cases q3:v.length=d.sigs.length
 case neg=>
  have e1:M=false:=by rw[hM,fM,decide_eq_false q3];rfl
  have b3:((v.length:Int) != (d.sigs.length:Int))=true:=by rw[bne_iff_ne];omega
  subst e1;clear hM q3;refine gO [3,4] Tryz.func43 (by kernel_rfl) (by conv=>lhs;reduce;dsimp only[iA]) rfl ?_;repeat' (first|simp -implicitDefEqProofs -dsimp only[go_sem,seval,List.length_map, *]|refine fin_eq ?_)
 have b3:((v.length:Int) != (d.sigs.length:Int))=false:=by rw[bne_eq_false_iff_eq];omega
 replace hM:M=(List.range v.length).all (sF g d.sigs v):=by rw[hM,fM,decide_eq_true q3];rfl
 replace q3:=PLift.up q3;refine gO [3,4] Tryz.func43 (by kernel_rfl) (by conv=>lhs;reduce;dsimp only[iA]) rfl ?_;repeat' simp -implicitDefEqProofs -dsimp only[go_sem,seval,List.length_map, *]
 refine ar (λi:Nat=>[(7,some (.int .i64 i)),(2,some (fU v tv)),(4,some (.cptr (gg g))),(3,some (.cptr (Sz.dL d)))]) (λ_=>σ) (λi=>i<=v.length/\(List.range i).all (sF g d.sigs v)=true) (λi=>v.length-i) 0 ?_ ?_
 ·clear hM;(repeat' (first|simp -implicitDefEqProofs -dsimp only[go_sem,seval,List.range_zero,List.all_nil,fU, *]|omega))
 rintro i ⟨hi,hall⟩;by_cases hlt:i<v.length
 ·have hls:i<d.sigs.length:=by have:=q3.down;omega
  have hgx:(v.map λl=>aw l .no)[i]?=some (aw v[i] .no):=by simp[hlt]
  have hgs:(d.sigs.map Sz.encS)[i]?=some (Sz.encS d.sigs[i]):=by simp[hls]
  have z3:=λτ=>yY g v[i] .no τ hf (hvl _ (List.getElem_mem hlt));have hat:=CW (g:=g) hlt hls
  have hrg:(List.range (i+1)).all (sF g d.sigs v)=((List.range i).all (sF g d.sigs v)&&sF g d.sigs v i):=by
   rw[List.range_succ,List.all_append];simp
  obtain⟨a,ha⟩:∃a,v[i]=a:=⟨_,rfl⟩;obtain⟨s,hs⟩:∃a,d.sigs[i]=a:=⟨_,rfl⟩;rw[ha] at hgx z3 hat;rw[hs] at hgs hat;generalize hW:eO g a=W at z3 hat;rw[hall,Bool.true_and] at hrg;have hlt':(i:Int)<(v.length:Int):=by omega
  have hls':(i:Int)<(d.sigs.length:Int):=by omega
  have hmi:i∈List.range v.length:=List.mem_range.2 hlt;by_cases hbad:sF g d.sigs v i=true
  case neg=>
   have e1:M=false:=by
    rw[hM,List.all_eq_false];exact⟨i,hmi,hbad⟩
   have hbad':sF g d.sigs v i=false:=by simpa using hbad
   rw[hat] at hbad';subst e1;cases W with
   |false=>
    clear hM hbad hbad' hat hrg hall hmi hf hvl ha hs hW;repeat' (first|simp -implicitDefEqProofs -dsimp only[go_sem,seval,List.length_map, *]|with_reducible refine id_one0 (λtS hS=>z3 _) trivial ?_|refine fin_eq ?_)
   |true=>
    have b4:((a.length:Int) != s.w)=true:=by
     rw[bne_iff_ne];simpa using hbad'
    clear hM hbad hbad' hat hrg hall hmi hf hvl ha hs hW;repeat' (first|simp -implicitDefEqProofs -dsimp only[go_sem,seval,List.length_map, *]|with_reducible refine id_one0 (λtS hS=>z3 _) trivial ?_|refine fin_eq ?_)
  rw[hbad,List.range_succ] at hrg;rw[hat,Bool.and_eq_true,decide_eq_true_eq] at hbad;obtain⟨rfl,hb2⟩:=hbad;have b4:((a.length:Int) != s.w)=false:=by rw[bne_eq_false_iff_eq];exact hb2
  clear hM hb2 hat hall hmi hf hvl ha hs hW;repeat' (first|simp -implicitDefEqProofs -dsimp only[go_sem,seval,List.length_map, *]|simp(disch:=omega) only[ah,aj,ao,aA,au,ag,az,aq]|with_reducible refine id_one0 (λtS hS=>z3 _) trivial ?_|with_reducible refine lnx (i+1) ?_|with_reducible refine And.intro ?_ ?_|omega)
 ·have:i=v.length:=by omega
  subst this;have e1:M=true:=by rw[hM];exact hall
  subst e1;clear hM hall hf hvl;repeat' (first|simp -implicitDefEqProofs -dsimp only[go_sem,seval,List.length_map, *]|refine fin_eq ?_)
theorem CZ(d:Sz.Flat)(g:Aig)(v:List (List Int))(tv:Tok)(e:Sz.E)(σ:aB)(hs:Wf g)(hd:S.Sm d)(hw:Sz.WfD d)(he:Sz.nodes e<=1000000)(hwe:Sz.WfE e)(hv:v.length<=1000000)(hvl:∀a∈v,a.length<=1000000):
  C_ 12 [Sz.encD d,aJ g,fU v tv,Sz.encE e] σ (.tup [aJ (gB d g v e).1,aw (gB d g v e).2.1 .no, .int .i64 (gB d g v e).2.2]) σ:=by
 have z1:=λτ=>lW g τ hs;unfold gB;by_cases h0:g.check=0
 case neg=>
  rw[oW h0];have h0':(g.check != 0)=true:=by simpa using h0
  generalize hc:g.check=c at z1 h0'|-;clear h0 hs hc;refine gO [4,5,7] Tryz.func12 (by kernel_rfl) (by conv=>lhs;reduce;dsimp only[iA]) rfl ?_;repeat' (first|simp -implicitDefEqProofs -dsimp only[go_sem,seval, *]|simp(disch:=omega) only[ah,aj,ao,aA,au,ag,az,aq]|(with_reducible refine Zt λoF hoF hnF hnF'=>?_;try simp only[aa,ne_eq,not_and] at hoF)|with_reducible refine kc1 (z1 _) ?_|(refine fin_eq ?_;repeat' simp -implicitDefEqProofs -dsimp only[go_sem,seval,zG,aw,List.map_nil, *]))
 have hf:=cU hs h0;have z2:=λτ=>S.rf_Check d τ hd hw;have z5:=λτ=>S.rf_CheckE d e τ (by have:=hd.1;omega) (by omega) hwe;have z6:=λτ=>zO d v tv g τ hf hd.1 hv hvl;have hM:fp d g v e=(decide (Sz.checkD d=0)&&decide (Sz.checkE d e=0)&&fM g d.sigs v):=rfl;have hfit:=Sz.checkE_fit (d:=d) (a:=e);have hwv:=λh=>pJ (g:=g) (s:=d.sigs) (v:=v) hf h;rw[h0] at z1;generalize hMM:fp d g v e=M at hM|-;obtain⟨C,hC⟩:∃C,Sz.checkD d=C:=⟨_,rfl⟩;obtain⟨D,hD⟩:∃C,Sz.checkE d e=C:=⟨_,rfl⟩;obtain⟨W,hW⟩:∃C,fM g d.sigs v=C:=⟨_,rfl⟩;rw[hC] at z2 hM;rw[hD] at z5 hM hfit;rw[hW] at z6 hM hwv;clear hMM hC hD hW hd hw;by_cases hok:C=0/\D=0/\W=true
 case neg=>
  have e1:M=false:=by
   cases M with
   |false=>rfl
   |true=>
    have hM:=hM.symm;simp only[Bool.and_eq_true,decide_eq_true_eq] at hM;exact absurd ⟨hM.1.1,hM.1.2,hM.2⟩ hok
  subst e1;rw[wT h0]
  have hc:(C != 0)=true\/((C != 0)=false/\(D != 0)=true)\/((C != 0)=false/\(D != 0)=false/\W=false):=by
   by_cases a1:C=0
   ·by_cases a2:D=0
    ·right;right
     refine⟨by simpa using a1,by simpa using a2,?_⟩;cases W with
     |false=>rfl
     |true=>exact absurd ⟨a1,a2,rfl⟩ hok
    ·right;left;exact⟨by simpa using a1,by simpa using a2⟩
   ·left;simpa using a1
  clear hM hok hfit hwv hf h0 hs;refine gO [4,5,7] Tryz.func12 (by kernel_rfl) (by conv=>lhs;reduce;dsimp only[iA]) rfl ?_;rcases hc with c1|⟨c1,c2⟩|⟨c1,c2,rfl⟩
  all_goals
   repeat' (first|simp -implicitDefEqProofs -dsimp only[go_sem,seval, *]|simp(disch:=omega) only[ah,aj,ao,aA,au,ag,az,aq]|(with_reducible refine Zt λoF hoF hnF hnF'=>?_;try simp only[aa,ne_eq,not_and] at hoF)|with_reducible refine kc1 (z1 _) ?_|with_reducible refine kc1 (z2 _) ?_|with_reducible refine kc1 (z5 _) ?_|with_reducible refine kc1 (z6 _) ?_|(refine fin_eq ?_;repeat' simp -implicitDefEqProofs -dsimp only[go_sem,seval,zG,aw,List.map_nil, *]))
 obtain⟨rfl,rfl,rfl⟩:=hok;have e1:M=true:=by rw[hM];rfl
 subst e1;rw[BV h0];obtain⟨w1,w2⟩:=hwv rfl;have z3:=λbo τ h=>Cm w1 w2 hv tv e (hfit rfl) hwe he bo ⟨g,0⟩ τ h hs;obtain⟨⟨l,g',e'⟩,hZ⟩:∃Z,(aM v e).run ⟨g,0⟩=Z:=⟨_,rfl⟩;rw[hZ] at z3|-;have z4:=λτ=>BU g' e' l .no τ;obtain⟨⟨t1,t2,t3⟩,hT⟩:∃T,bK (l,(⟨g',e'⟩:Bu))=T:=⟨_,rfl⟩;rw[hT] at z4|-;simp only at z3 z4|-;clear hM hfit hwv hf h0 hs hZ hT w1 w2;refine gO [4,5,7] Tryz.func12 (by kernel_rfl) (by conv=>lhs;reduce;dsimp only[iA]) rfl ?_;repeat' (first|simp -implicitDefEqProofs -dsimp only[go_sem,seval, *]|(with_reducible refine Zt λoF hoF hnF hnF'=>?_;try simp only[aa,ne_eq,not_and] at hoF)|with_reducible refine kc1 (z1 _) ?_|with_reducible refine kc1 (z2 _) ?_|with_reducible refine kc1 (z5 _) ?_|with_reducible refine kc1 (z6 _) ?_|with_reducible refine kc1 (z3 _ _ ?_) ?_|with_reducible refine kc1 (z4 _) ?_|(refine fin_eq ?_;repeat' simp -implicitDefEqProofs -dsimp only[go_sem,seval,aw, *]))
end Go.Proofs.YtbbihmmobfmadaaGreat
namespace Go.Proofs.YtbbihmmobfmadaaGreat
open Abs Fil Fil.Bl A
def xx(e:Sz.E):Int:=(e.l.attach.map λx=>xx x.1).foldl max e.w
termination_by e
decreasing_by exact Sz.E.lt x.2
theorem Jo(e:Sz.E):xx e=(e.l.map xx).foldl max e.w:=by rw[xx];rw[Sz.att e.l xx]
theorem zP{f:Sz.E->Int}{l:List Sz.E}{w:Int}{i:Nat}(h:i<l.length):((l.take (i+1)).map f).foldl max w=max (((l.take i).map f).foldl max w) (f l[i]):=by
 rw[List.take_add_one,List.getElem?_eq_getElem h,List.map_append,List.foldl_append];rfl
theorem C0(e:Sz.E):∀σ:aB,Sz.nodes e<=16777216->C_ 32 [Sz.encE e] σ (.int .i64 (xx e)) σ:=by
 refine Sz.E.ind (P:=λe=>∀σ:aB,Sz.nodes e<=16777216->C_ 32 [Sz.encE e] σ (.int .i64 (xx e)) σ) (λe ih σ he=>?_) e;have h1:=Sz.encEs_eq e;have hl:=Sz.len_nodes e;have hE:=fun(x:Sz.E) (hx:x∈e.l) τ=>ih x hx τ (by have:=Sz.part_nodes hx;omega);have hW:=Jo e;generalize hWW:xx e=W at hW|-;clear ih hWW;refine gO [1] Tryz.func32 (by kernel_rfl) (by conv=>lhs;reduce;dsimp only[iA]) rfl ?_;repeat' simp -implicitDefEqProofs -dsimp only[go_sem,seval, *]
 refine ar (λi:Nat=>[(4,some (.int .i64 i)),(1,some (.cptr (Sz.eL e))),(3,some (.int .i64 (((e.l.take i).map xx).foldl max e.w)))]) (λ_=>σ) (λi=>i<=e.l.length) (λi=>e.l.length-i) 0 ?_ ?_
 ·clear hE hW;(repeat' (first|simp -implicitDefEqProofs -dsimp only[go_sem,seval,List.take_zero,List.map_nil,List.foldl_nil, *]|omega))
 intro i hi;by_cases hlt:i<e.l.length
 ·have hgx:(e.l.map Sz.encE)[i]?=some (Sz.encE e.l[i]):=by simp[hlt]
  have hs:=zP (f:=xx) (w:=e.w) hlt;have z1:=λτ=>hE e.l[i] (List.getElem_mem hlt) τ;generalize hx:e.l[i]=x at hgx z1 hs;generalize hA:((e.l.take i).map xx).foldl max e.w=A at hs|-;have hlt':(i:Int)<(e.l.length:Int):=by omega
  clear hE hW hA hx;repeat' (first|simp -implicitDefEqProofs -dsimp only[go_sem,seval,List.length_map, *]|simp(disch:=omega) only[ah,aj,ao,aA,au,ag,az,aq]|with_reducible refine kc1 (z1 _) ?_|with_reducible refine lnx (i+1) ?_|with_reducible refine And.intro ?_ ?_|omega)
 ·have:i=e.l.length:=by omega
  subst this;rw[List.take_length,<-hW];clear hE hW;repeat' (first|simp -implicitDefEqProofs -dsimp only[go_sem,seval,List.length_map, *]|refine fin_eq ?_)
def JV(s:List Sz.Sg):Int:=((s.take 20).map λs=>s.w).foldl max 0
noncomputable def uo(d:Sz.Flat)(e:Sz.E):Bool:=S.smallD d&&decide ((d.sigs.length:Int)<=12)&&decide (JV d.sigs<=8)&&decide ((Sz.nodes e:Int)<=30)&&decide (xx e<=8)
theorem C2(d:Sz.Flat)(e:Sz.E)(σ:aB)(hd:S.Sm d)(he:Sz.nodes e<=16777216):
  C_ 9 [Sz.encD d,Sz.encE e] σ (.bool (uo d e)) σ:=by
 have z1:=λτ=>S.rf_Small d τ hd;have z2:=λτ=>S.rf_Nodes e τ he;have z3:=λτ=>C0 e τ he;have hB:uo d e=(S.smallD d&&decide ((d.sigs.length:Int)<=12)&&decide (JV d.sigs<=8)&&decide ((Sz.nodes e:Int)<=30)&&decide (xx e<=8)):=rfl;generalize hBB:uo d e=B at hB|-;obtain⟨X,hX⟩:∃X,S.smallD d=X:=⟨_,rfl⟩;obtain⟨N,hN⟩:∃X,Sz.nodes e=X:=⟨_,rfl⟩;obtain⟨W,hW⟩:∃X,xx e=X:=⟨_,rfl⟩;rw[hX] at z1 hB;rw[hN] at z2 hB;rw[hW] at z3 hB;have hds:=hd.1;obtain⟨V,hV⟩:∃V:Nat->Int,V=λi=>((d.sigs.take i).map λs=>s.w).foldl max 0:=⟨_,rfl⟩;have hV0:V 0=0:=by rw[hV];rfl
 have hVs:∀i,(h:i<d.sigs.length)->V (i+1)=max (V i) (d.sigs[i]).w:=λi h=>by
  rw[hV];simp only
  rw[List.take_add_one,List.getElem?_eq_getElem h,List.map_append,List.foldl_append];rfl
 have hVe:∀i,(i=d.sigs.length/\i<=20\/i=20)->V i=JV d.sigs:=λi h=>by
  rw[hV];unfold JV;simp only
  rcases h with ⟨h,h2⟩|h
  ·rw[h,List.take_length,List.take_of_length_le (by omega)]
  ·rw[h]
 clear hBB hX hN hW hd he hV;refine gO [2,3] Tryz.func9 (by kernel_rfl) (by conv=>lhs;reduce;dsimp only[iA]) rfl ?_;repeat' simp -implicitDefEqProofs -dsimp only[go_sem,seval, *]
 refine ar (λi:Nat=>[(6,some (.int .i64 i)),(2,some (.cptr (Sz.dL d))),(5,some (.int .i64 (V i))),(3,some (.cptr (Sz.eL e)))]) (λ_=>σ) (λi=>i<=d.sigs.length/\i<=20) (λi=>d.sigs.length-i) 0 ?_ ?_
 ·clear hB hVs hVe;(repeat' (first|simp -implicitDefEqProofs -dsimp only[go_sem,seval, *]|omega))
 rintro i ⟨hi,h20⟩;by_cases hlt:i<d.sigs.length/\i<20
 ·have hgx:(d.sigs.map Sz.encS)[i]?=some (Sz.encS (d.sigs[i]'hlt.1)):=by simp[hlt.1]
  have hs:=hVs i hlt.1;generalize hs2:d.sigs[i]'hlt.1=s at hgx hs;have hl1:(i:Int)<(d.sigs.length:Int):=by omega
  have hl2:(i:Int)<20:=by omega
  have hl3:i<d.sigs.length:=hlt.1;have hl4:i<20:=hlt.2;clear hB hVs hVe hs2 hlt z1 z2 z3;repeat' (first|simp -implicitDefEqProofs -dsimp only[go_sem,seval,List.length_map, *]|simp(disch:=omega) only[ah,aj,ao,aA,au,ag,az,aq]|with_reducible refine lnx (i+1) ?_|with_reducible refine And.intro ?_ ?_|omega)
 ·rw[hVe i (by omega)];have hl1:((i:Int)<(d.sigs.length:Int)/\¬(i:Int)<20)\/¬(i:Int)<(d.sigs.length:Int):=by omega
  clear hVs hVe hlt;cases X with
  |false=>
   simp only[Bool.false_and] at hB;subst hB;rcases hl1 with ⟨l1,l2⟩|l1
   all_goals
    repeat' (first|simp -implicitDefEqProofs -dsimp only[go_sem,seval,List.length_map, *]|with_reducible refine kc1 (z1 _) ?_|refine fin_eq ?_)
  |true=>
   generalize hU:JV d.sigs=U at hB|-;simp only[Bool.true_and] at hB
   have hc:(¬(d.sigs.length:Int)<=12/\B=false)\/((d.sigs.length:Int)<=12/\¬U<=8/\B=false)\/(((d.sigs.length:Int)<=12/\U<=8)/\¬(N:Int)<=30/\B=false)\/(((d.sigs.length:Int)<=12/\U<=8)/\(N:Int)<=30/\B=decide (W<=8)):=by
    by_cases a1:(d.sigs.length:Int)<=12
    ·by_cases a2:U<=8
     ·by_cases a3:(N:Int)<=30
      ·right;right;right;exact⟨⟨a1,a2⟩,a3,by rw[hB,decide_eq_true a1,decide_eq_true a2,decide_eq_true a3];rfl⟩
      ·right;right;left;exact⟨⟨a1,a2⟩,a3,by rw[hB,decide_eq_false a3];simp⟩
     ·right;left;exact⟨a1,a2,by rw[hB,decide_eq_false a2];simp⟩
    ·left;exact⟨a1,by rw[hB,decide_eq_false a1];rfl⟩
   clear hB hU;rcases hl1 with ⟨l1,l2⟩|l1
   all_goals
    rcases hc with ⟨c1,rfl⟩|⟨c1,c2,rfl⟩|⟨⟨c1,c2⟩,c3,rfl⟩|⟨⟨c1,c2⟩,c3,rfl⟩
    all_goals
     repeat' (first|simp -implicitDefEqProofs -dsimp only[go_sem,seval,List.length_map, *]|with_reducible refine kc1 (z1 _) ?_|with_reducible refine kc1 (z2 _) ?_|with_reducible refine kc1 (z3 _) ?_|refine fin_eq ?_)
def uq(v:List (List Int)):Bool:=(v.take 20).all (λa=>decide ((a.length:Int)<=8))&&decide ((v.length:Int)<=12)
theorem C3(v:List (List Int))(tv:Tok)(σ:aB)(hv:v.length<=1000000000000):
  C_ 10 [fU v tv] σ (.bool (uq v)) σ:=by
 obtain⟨B,hB⟩:∃B,uq v=B:=⟨_,rfl⟩;rw[hB];replace hB:=hB.symm;unfold uq at hB;refine gO [] Tryz.func10 (by kernel_rfl) (by conv=>lhs;reduce;dsimp only[iA]) rfl ?_;repeat' simp -implicitDefEqProofs -dsimp only[go_sem,seval, *]
 refine ar (λi:Nat=>[(3,some (.int .i64 i)),(0,some (fU v tv))]) (λ_=>σ) (λi=>i<=v.length/\i<=20/\(v.take i).all (λa=>decide ((a.length:Int)<=8))=true) (λi=>v.length-i) 0 ?_ ?_
 ·clear hB;(repeat' (first|simp -implicitDefEqProofs -dsimp only[go_sem,seval,List.take_zero,List.all_nil, *]|omega))
 rintro i ⟨hi,h20,hall⟩;by_cases hlt:i<v.length/\i<20
 ·have hl3:i<v.length:=hlt.1;have hgx:(v.map λl=>aw l .no)[i]?=some (aw v[i] .no):=by simp[hl3]
  have htk:v.take (i+1)=v.take i++[v[i]]:=by rw[List.take_add_one];simp[hl3]
  have hmem:v[i]∈v.take 20:=List.mem_take_iff_getElem.2 ⟨i,by omega,rfl⟩;generalize ha:v[i]=a at hgx htk hmem;have hl1:(i:Int)<(v.length:Int):=by omega
  have hl2:(i:Int)<20:=by omega
  have hl4:i<20:=hlt.2;by_cases h8:(8:Int)<(a.length:Int)
  ·have e1:B=false:=by
    rw[hB,Bool.and_eq_false_iff];left
    rw[List.all_eq_false];exact⟨a,hmem,by simp;omega⟩
   subst e1;clear hB htk hmem hall ha hlt;repeat' (first|simp -implicitDefEqProofs -dsimp only[go_sem,seval,gt_iff_lt,List.length_map, *]|refine fin_eq ?_)
  ·have hall2:(v.take (i+1)).all (λa=>decide ((a.length:Int)<=8))=true:=by
    rw[htk,List.all_append,hall];simp;omega
   clear hB htk hmem hall ha hlt;repeat' (first|simp -implicitDefEqProofs -dsimp only[go_sem,seval,gt_iff_lt,List.length_map, *]|simp(disch:=omega) only[ah,aj,ao,aA,au,ag,az,aq]|with_reducible refine lnx (i+1) ?_|with_reducible refine And.intro ?_ ?_|omega)
 ·have e1:v.take i=v.take 20:=by
   by_cases h:i=20
   ·rw[h]
   ·rw[List.take_of_length_le (by omega),List.take_of_length_le (by omega)]
  rw[e1] at hall;rw[hall,Bool.true_and] at hB;subst hB;have hl1:((i:Int)<(v.length:Int)/\¬(i:Int)<20)\/¬(i:Int)<(v.length:Int):=by omega
  clear hall e1 hlt;rcases hl1 with ⟨l1,l2⟩|l1
  all_goals
   repeat' (first|simp -implicitDefEqProofs -dsimp only[go_sem,seval,List.length_map, *]|refine fin_eq ?_)
end Go.Proofs.YtbbihmmobfmadaaGreat
namespace Go.Proofs.YtbbihmmobfmadaaGreat
open Abs Fil Fil.Bl A
theorem C4{d:Sz.Flat}{g:Aig}{v:List (List Int)}{e:Sz.E}(hs:Wf g):Wf (gB d g v e).1/\(gB d g v e).2.1.length<=64:=by
 refine⟨made_wf hs,?_⟩;unfold gB;by_cases h0:g.check=0
 case neg=>rw[oW h0];exact Nat.zero_le _
 cases hm:fp d g v e with
 |false=>rw[wT h0];exact Nat.zero_le _
 |true=>
  refine B3 ?_;unfold fp at hm;simp only[Bool.and_eq_true,decide_eq_true_eq] at hm;obtain⟨w1,w2⟩:=pJ (cU hs h0) hm.2;have hf:=Sz.checkE_fit hm.1.2;have h1:=(se w1 w2 hf ⟨g,0⟩ hs).1;have h2:=hf.wid;omega
theorem C5(d:Sz.Flat)(g:Aig)(v:List (List Int))(e:Sz.E)(σ:aB)(hd:S.Sm d)(hw:Sz.WfD d)(he:Sz.nodes e<=16777216)(hwe:Sz.WfE e)(hs:tB g=true->Wf g)(hv:v.length<=1000000000000):
  C_ 3 [Sz.encD d,aJ g,fU v .no,Sz.encE e] σ (.bool true) σ:=by
 have z1:∀τ,C_ 8 [aJ g, .slice [] .nil] τ (.bool (tB g)) τ:=λτ=>IV g [] .nil τ (by simp);have z2:=λτ=>C2 d e τ hd he;have z3:=λτ=>C3 v .no τ hv;cases hg:tB g with
 |false=>
  rw[hg] at z1;clear hg hs hd hw he hwe hv z2 z3;refine gO [4,5,7] Tryz.func3 (by kernel_rfl) (by conv=>lhs;reduce;dsimp only[iA]) rfl ?_;repeat' (first|simp -implicitDefEqProofs -dsimp only[go_sem,seval, *]|with_reducible refine kc1 (kX _) ?_|with_reducible refine kc1 (z1 _) ?_|refine fin_eq ?_)
 |true=>
 rw[hg] at z1;have hs:=hs hg;cases hE:uo d e with
 |false=>
  rw[hE] at z2;clear hg hs hd hw he hwe hv hE z3;refine gO [4,5,7] Tryz.func3 (by kernel_rfl) (by conv=>lhs;reduce;dsimp only[iA]) rfl ?_;repeat' (first|simp -implicitDefEqProofs -dsimp only[go_sem,seval, *]|with_reducible refine kc1 (kX _) ?_|with_reducible refine kc1 (z1 _) ?_|with_reducible refine kc1 (z2 _) ?_|refine fin_eq ?_)
 |true=>
 rw[hE] at z2;cases hV:uq v with
 |false=>
  rw[hV] at z3;clear hg hs hd hw he hwe hv hE hV;refine gO [4,5,7] Tryz.func3 (by kernel_rfl) (by conv=>lhs;reduce;dsimp only[iA]) rfl ?_;repeat' (first|simp -implicitDefEqProofs -dsimp only[go_sem,seval, *]|with_reducible refine kc1 (kX _) ?_|with_reducible refine kc1 (z1 _) ?_|with_reducible refine kc1 (z2 _) ?_|with_reducible refine kc1 (z3 _) ?_|refine fin_eq ?_)
 |true=>
 rw[hV] at z3;unfold uo at hE;simp only[Bool.and_eq_true,decide_eq_true_eq] at hE;unfold uq at hV;simp only[Bool.and_eq_true,decide_eq_true_eq,List.all_eq_true] at hV
 have hvl:∀a∈v,a.length<=1000000:=λa ha=>by
  have:=hV.1 a (by rw[List.take_of_length_le (by omega)];exact ha)
  omega
 have z4:=λτ=>Gr d g v .no e τ hs hd hw (by omega) hwe (by omega) hvl;have z5:=λτ=>CZ d g v .no e τ hs hd hw (by omega) hwe (by omega) hvl;obtain⟨w1,w2⟩:=C4 (d:=d) (v:=v) (e:=e) hs;obtain⟨⟨x,l,f⟩,hX⟩:∃Z,gB d g v e=Z:=⟨_,rfl⟩;rw[hX] at z4 z5 w1 w2;simp only at z4 z5 w1 w2;have s1:=λτ=>y0 x w1 τ;have s3:=λτ=>y4 l (by omega) τ;have b1:(f==f)=true:=by simp
 clear hg hs hd hw he hwe hv hE hV hvl hX w1 w2;refine gO [4,5,7] Tryz.func3 (by kernel_rfl) (by conv=>lhs;reduce;dsimp only[iA]) rfl ?_;repeat' (first|simp -implicitDefEqProofs -dsimp only[go_sem,seval, *]|(with_reducible refine Zt λoF hoF hnF hnF'=>?_;try simp only[aa,ne_eq,not_and] at hoF)|with_reducible refine kc1 (kX _) ?_|with_reducible refine kc1 (z1 _) ?_|with_reducible refine kc1 (z2 _) ?_|with_reducible refine kc1 (z3 _) ?_|with_reducible refine kc1 (z4 _) ?_|with_reducible refine kc1 (z5 _) ?_|with_reducible refine kc1 (s1 _) ?_|with_reducible refine kc1 (s3 _) ?_|refine fin_eq ?_)
end Go.Proofs.YtbbihmmobfmadaaGreat
