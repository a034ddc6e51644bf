/- blast: contracts: what is short, of expressions and of words. -/
import Derived.Test.YtbbihmmobfmadaaGreatWBlzBlzO
import Derived.Test.YtbbihmmobfmadaaGreatWBlzSizAh
set_option linter.unusedSimpArgs false
set_option linter.unusedVariables false
set_option maxHeartbeats 4000000
set_option maxRecDepth 50000
namespace Go.Proofs.YtbbihmmobfmadaaGreat
open Abs Fil Fil.Bl A
def Bb(g:Aig)(s:List Sz.Sg)(v:List (List Int))(i:Nat):Bool:=df g (v.getD i [])&&decide (((v.getD i []).length:Int)=(s.getD i Sz.zS).w)
def kS(g:Aig)(s:List Sz.Sg)(v:List (List Int)):Bool:=decide (v.length=s.length)&&(List.range v.length).all (Bb g s v)
noncomputable def jf(d:Sz.Flat)(g:Aig)(v:List (List Int))(e:Sz.E):Bool:=decide (Sz.checkD d=0)&&decide (Sz.checkE d e=0)&&kS g d.sigs v
noncomputable def eP(d:Sz.Flat)(g:Aig)(v:List (List Int))(e:Sz.E):Aig×List Int×Int:=jB g (jf d g v e) (aM v e)
theorem vl{g:Aig}{s:List Sz.Sg}{v:List (List Int)}(hf:Fine g)(h:kS g s v=true):Wv s v/\Lv v:=by
 unfold kS at h;simp only[Bool.and_eq_true,decide_eq_true_eq,List.all_eq_true,List.mem_range] at h;obtain⟨h1,h2⟩:=h
 have h3:∀a∈v,df g a=true:=λa ha=>by
  obtain⟨i,hi,rfl⟩:=List.getElem_of_mem ha;have:=h2 i hi
  unfold Bb at this;rw[Bool.and_eq_true,List.getD_eq_getElem?_getD,List.getElem?_eq_getElem hi] at this;exact this.1
 refine⟨⟨h1,λi hi=>?_,λa ha=>(yx hf (h3 a ha)).1⟩,λa ha=>(yx hf (h3 a ha)).2⟩;have:=h2 i (by omega)
 unfold Bb at this;rw[Bool.and_eq_true,decide_eq_true_eq] at this;rw[this.2,List.getD_eq_getElem?_getD,List.getElem?_eq_getElem hi];rfl
theorem Lz{g:Aig}{s:List Sz.Sg}{v:List (List Int)}{i:Nat}(h1:i<v.length)(h2:i<s.length):Bb g s v i=(df g v[i]&&decide ((v[i].length:Int)=s[i].w)):=by
 unfold Bb;rw[List.getD_eq_getElem?_getD,List.getElem?_eq_getElem h1,List.getD_eq_getElem?_getD,List.getElem?_eq_getElem h2];rfl
theorem Es(od oe ov og:Nat)(d:Sz.Flat)(e:Sz.E)(v:List (List Int))(tv:Tok)(g:Aig)(σ:aA)(hf:Fine g)(hd:S.Sm d)(hw:Sz.WfD d)(he:Sz.nodes e<=16777216)(hwe:Sz.WfE e)(hv:v.length<=1000000)(hvl:∀a∈v,a.length<=1000000)
  (h1:σ od=some (.cells (Sz.dL d)))(h2:σ oe=some (.cells (Sz.eL e)))(h3:σ ov=some (.cells [kQ v tv]))(h4:σ og=some (.cells (gC g))):
  C_ 33 [.ptr od 0, .ptr oe 0, .ptr ov 0, .ptr og 0] σ (.bool (jf d g v e)) σ:=by
 have z1:=λτ=>S.sz_Check d τ hd hw;have z2:=λτ=>S.sz_CheckE d e τ (by have:=hd.1;omega) he hwe;have hM:jf d g v e=(decide (Sz.checkD d=0)&&decide (Sz.checkE d e=0)&&kS g d.sigs v):=rfl;generalize hMM:jf d g v e=M at hM|-;obtain⟨C,hC⟩:∃C,Sz.checkD d=C:=⟨_,rfl⟩;obtain⟨D,hD⟩:∃C,Sz.checkE d e=C:=⟨_,rfl⟩;rw[hC] at z1 hM;rw[hD] at z2 hM;have hds:=hd.1;clear hMM hC hD hd hw he hwe;by_cases q1:C=0
 case neg=>
  have e1:M=false:=by rw[hM,decide_eq_false q1];rfl
  have b1:(C != 0)=true:=by simpa using q1
  subst e1;clear hM q1;refine gO [] Tryz.func33 (by kernel_rfl) (by conv=>lhs;reduce;dsimp only[iA]) rfl ?_;repeat' (first|simp(maxDischargeDepth:=9) -implicitDefEqProofs -dsimp only[go_sem,seval, *]|with_reducible refine kc1 (z1 _) ?_|refine fin_eq ?_)
 by_cases q2:D=0
 case neg=>
  have e1:M=false:=by rw[hM,decide_eq_false q2];simp
  have b2:(D != 0)=true:=by simpa using q2
  subst e1 q1;clear hM q2;refine gO [] Tryz.func33 (by kernel_rfl) (by conv=>lhs;reduce;dsimp only[iA]) rfl ?_;repeat' (first|simp(maxDischargeDepth:=9) -implicitDefEqProofs -dsimp only[go_sem,seval, *]|with_reducible refine kc1 (z1 _) ?_|with_reducible refine kc1 (z2 _) ?_|refine fin_eq ?_)
 subst q1 q2;simp only[decide_true,Bool.true_and] at hM;by_cases q3:v.length=d.sigs.length
 case neg=>
  have e1:M=false:=by rw[hM,kS,decide_eq_false q3];rfl
  have b3:((v.length:Int) != (d.sigs.length:Int))=true:=by rw[bne_iff_ne];omega
  subst e1;clear hM q3;refine gO [] Tryz.func33 (by kernel_rfl) (by conv=>lhs;reduce;dsimp only[iA]) rfl ?_;repeat' (first|simp(maxDischargeDepth:=9) -implicitDefEqProofs -dsimp only[go_sem,seval,List.length_map, *]|with_reducible refine kc1 (z1 _) ?_|with_reducible refine kc1 (z2 _) ?_|refine fin_eq ?_)
 have b3:((v.length:Int) != (d.sigs.length:Int))=false:=by rw[bne_eq_false_iff_eq];omega
 replace hM:M=(List.range v.length).all (Bb g d.sigs v):=by rw[hM,kS,decide_eq_true q3];rfl
 replace q3:=PLift.up q3;refine gO [] Tryz.func33 (by kernel_rfl) (by conv=>lhs;reduce;dsimp only[iA]) rfl ?_;repeat' (first|simp(maxDischargeDepth:=9) -implicitDefEqProofs -dsimp only[go_sem,seval,List.length_map, *]|with_reducible refine kc1 (z1 _) ?_|with_reducible refine kc1 (z2 _) ?_)
 refine loop_rule (λi:Nat=>[(26,some (.int .i64 i)),(25,some (.int .i64 v.length)),(24,some (kQ v tv)),(3,some (.ptr og 0)),(0,some (.ptr od 0))]) (λ_=>σ) (λi=>i<=v.length/\(List.range i).all (Bb g d.sigs v)=true) (λi=>v.length-i) 0 ?_ ?_
 ·clear hM;(repeat' (first|simp(maxDischargeDepth:=9) -implicitDefEqProofs -dsimp only[go_sem,seval,List.range_zero,List.all_nil,kQ, *]|omega))
 rintro i ⟨hi,hall⟩;by_cases hlt:i<v.length
 ·have hls:i<d.sigs.length:=by have:=q3.down;omega
  have hgx:(v.map λl=>aD l .no)[i]?=some (aD v[i] .no):=by simp[hlt]
  have hgs:(d.sigs.map Sz.encS)[i]?=some (Sz.encS d.sigs[i]):=by simp[hls]
  have z3:=λτ=>lB g v[i] .no τ hf (hvl _ (List.getElem_mem hlt));have hat:=Lz (g:=g) hlt hls
  have hrg:(List.range (i+1)).all (Bb g d.sigs v)=((List.range i).all (Bb g d.sigs v)&&Bb g d.sigs v i):=by
   rw[List.range_succ,List.all_append];simp
  obtain⟨a,ha⟩:∃a,v[i]=a:=⟨_,rfl⟩;obtain⟨s,hs⟩:∃a,d.sigs[i]=a:=⟨_,rfl⟩;rw[ha] at hgx z3 hat;rw[hs] at hgs hat;generalize hW:df g a=W at z3 hat;rw[hall,Bool.true_and] at hrg;have hlt':(i:Int)<(v.length:Int):=by omega
  have hls':(i:Int)<(d.sigs.length:Int):=by omega
  have hmi:i∈List.range v.length:=List.mem_range.2 hlt;by_cases hbad:Bb g d.sigs v i=true
  case neg=>
   have e1:M=false:=by
    rw[hM,List.all_eq_false];exact⟨i,hmi,hbad⟩
   have hbad':Bb g d.sigs v i=false:=by simpa using hbad
   rw[hat] at hbad';subst e1;cases W with
   |false=>
    clear hM hbad hbad' hat hrg hall hmi hf hvl ha hs hW;repeat' (first|simp(maxDischargeDepth:=9) -implicitDefEqProofs -dsimp only[go_sem,seval,List.length_map, *]|with_reducible refine kc1 (z3 _) ?_|refine fin_eq ?_)
   |true=>
    have b4:((a.length:Int) != s.w)=true:=by
     rw[bne_iff_ne];simpa using hbad'
    clear hM hbad hbad' hat hrg hall hmi hf hvl ha hs hW;repeat' (first|simp(maxDischargeDepth:=9) -implicitDefEqProofs -dsimp only[go_sem,seval,List.length_map, *]|with_reducible refine kc1 (z3 _) ?_|refine fin_eq ?_)
  rw[hbad,List.range_succ] at hrg;rw[hat,Bool.and_eq_true,decide_eq_true_eq] at hbad;obtain⟨rfl,hb2⟩:=hbad;have b4:((a.length:Int) != s.w)=false:=by rw[bne_eq_false_iff_eq];exact hb2
  clear hM hb2 hat hall hmi hf hvl ha hs hW;repeat' (first|simp(maxDischargeDepth:=9) -implicitDefEqProofs -dsimp only[go_sem,seval,List.length_map, *]|simp(disch:=omega) only[ah,aj,ao,aw,ar,ag,au,aq]|with_reducible refine kc1 (z3 _) ?_|with_reducible refine lnx (i+1) ?_|with_reducible refine And.intro ?_ ?_|omega)
 ·have:i=v.length:=by omega
  subst this;have e1:M=true:=by rw[hM];exact hall
  subst e1;clear hM hall hf hvl;repeat' (first|simp(maxDischargeDepth:=9) -implicitDefEqProofs -dsimp only[go_sem,seval, *]|refine fin_eq ?_)
theorem Et(bo ov oe:Nat)(b:Bu)(v:List (List Int))(tv:Tok)(e:Sz.E)(σ:aA)(h:σ bo=some (co b))(hs:Wf b.g)(hx:uP v tv e)(h2:σ oe=some (.cells (Sz.eL e)))(h3:σ ov=some (.cells [kQ v tv])):
  C_ 38 [.ptr bo 0, .ptr ov 0, .ptr oe 0] σ (aD ((aM v e).run b).1 .no) (aH σ bo (co ((aM v e).run b).2)):=by
 have z1:=λτ h=>hx bo b τ h hs;obtain⟨⟨R,b3⟩,hR⟩:∃Z,(aM v e).run b=Z:=⟨_,rfl⟩;rw[hR] at z1|-;simp only at z1|-;clear hR hx hs;refine gO [] Tryz.func38 (by kernel_rfl) (by conv=>lhs;reduce;dsimp only[iA]) rfl ?_;repeat' (first|simp(maxDischargeDepth:=9) -implicitDefEqProofs -dsimp only[go_sem,seval, *]|with_reducible refine kc1 (z1 _ ?_) ?_|refine fin_eq ?_)
theorem Ia(d:Sz.Flat)(g:Aig)(v:List (List Int))(tv:Tok)(e:Sz.E)(σ:aA)(hs:Wf g)(hd:S.Sm d)(hw:Sz.WfD d)(he:Sz.nodes e<=1000000)(hwe:Sz.WfE e)(hv:v.length<=1000000)(hvl:∀a∈v,a.length<=1000000):
  C_ 11 [Sz.encD d,aQ g,kQ v tv,Sz.encE e] σ (.tup [aQ (eP d g v e).1,aD (eP d g v e).2.1 .no, .int .i64 (eP d g v e).2.2]) σ:=by
 have key:∀τ od oe ov og,τ od=some (.cells (Sz.dL d))->τ oe=some (.cells (Sz.eL e))->τ ov=some (.cells [kQ v tv])->τ og=some (.cells (gC g))->
   C_ 37 [aQ g, .fn 33 [] [.ptr od 0, .ptr oe 0, .ptr ov 0, .ptr og 0], .fn 38 [] [.ptr ov 0, .ptr oe 0]] τ (.tup [aQ (eP d g v e).1,aD (eP d g v e).2.1 .no, .int .i64 (eP d g v e).2.2]) τ:=λτ od oe ov og h1 h2 h3 h4=>
  nW g _ _ _ _ (jf d g v e) (aM v e) τ hs
   (λh0 o z ho=>Es od oe ov og d e v tv g _ (dn hs h0) hd hw (by omega) hwe hv hvl (dT ho h1) (dT ho h2) (dT ho h3) (dT ho h4))
   (λh0 hm o z bo ho hb hne=>by
    have hb':aH τ o z bo=none:=by simp[aH,hne,hb]
    unfold jf at hm;simp only[Bool.and_eq_true,decide_eq_true_eq] at hm;obtain⟨w1,w2⟩:=vl (dn hs h0) hm.2;refine(Et bo ov oe ⟨g,0⟩ v tv e _ (by simp[aH]) hs (HI w1 w2 hv tv e (Sz.checkE_fit hm.1.2) hwe he) (dT hb' (dT ho h2)) (dT hb' (dT ho h3))).mono λr σ' ⟨q1,q2⟩=>⟨q1,?_⟩;rw[q2,nF])
 generalize hZ:eP d g v e=Z at key|-;obtain⟨z1,z2,z3⟩:=Z;simp only at key|-;clear hZ hs hd hw he hwe hv hvl;refine gO [] Tryz.func11 (by kernel_rfl) (by conv=>lhs;reduce;dsimp only[iA]) rfl ?_;repeat' (first|simp(maxDischargeDepth:=9) -implicitDefEqProofs -dsimp only[go_sem,seval, *]|(with_reducible refine Zt λoF hoF hnF hnF'=>?_;try simp only[aa,ne_eq,not_and] at hoF)|with_reducible refine kc1 (key _ _ _ _ _ ?_ ?_ ?_ ?_) ?_|(refine fin_eq ?_;repeat' simp(maxDischargeDepth:=9) -implicitDefEqProofs -dsimp only[go_sem,seval,aD, *]))
end Go.Proofs.YtbbihmmobfmadaaGreat
namespace Go.Proofs.YtbbihmmobfmadaaGreat
open Abs Fil Fil.Bl A
def vm(e:Sz.E):Int:=(e.l.attach.map λx=>vm x.1).foldl max e.w
termination_by e
decreasing_by exact Sz.E.lt x.2
theorem Eu(e:Sz.E):vm e=(e.l.map vm).foldl max e.w:=by rw[vm];rw[Sz.att e.l vm]
theorem Bc{f:Sz.E->Int}{l:List Sz.E}{w:Int}{i:Nat}(h:i<l.length):((l.take (i+1)).map f).foldl max w=max (((l.take i).map f).foldl max w) (f l[i]):=by
 rw[List.take_add_one,List.getElem?_eq_getElem h,List.map_append,List.foldl_append];rfl
theorem yX:∀(l:List Int) (w:Int),w<=l.foldl max w/\∀a∈l,a<=l.foldl max w
 |[],w=>⟨Int.le_refl _,by simp⟩
 |a::l,w=>by
  obtain⟨h1,h2⟩:=yX l (max w a);simp only[List.foldl_cons];refine⟨by omega,λb hb=>?_⟩;rcases List.mem_cons.1 hb with rfl|hb
  ·omega
  ·exact h2 b hb
theorem Ev(e:Sz.E):∀σ:aA,Sz.nodes e<=16777216->C_ 32 [Sz.encE e] σ (.int .i64 (vm e)) σ:=by
 refine Sz.E.ind (P:=λe=>∀σ:aA,Sz.nodes e<=16777216->C_ 32 [Sz.encE e] σ (.int .i64 (vm e)) σ) (λe ih σ he=>?_) e;have h1:=Sz.encEs_eq e;have hl:=Sz.len_nodes e;have hE:=fun(x:Sz.E) (hx:x∈e.l) τ=>ih x hx τ (by have:=Sz.part_nodes hx;omega);have hW:=Eu e;generalize hWW:vm e=W at hW|-;clear ih hWW;refine gO [1] Tryz.func32 (by kernel_rfl) (by conv=>lhs;reduce;dsimp only[iA]) rfl ?_;repeat' simp -implicitDefEqProofs -dsimp only[go_sem,seval, *]
 refine loop_rule (λi:Nat=>[(4,some (.int .i64 i)),(1,some (.cptr (Sz.eL e))),(3,some (.int .i64 (((e.l.take i).map vm).foldl max e.w)))]) (λ_=>σ) (λi=>i<=e.l.length) (λi=>e.l.length-i) 0 ?_ ?_
 ·clear hE hW;(repeat' (first|simp -implicitDefEqProofs -dsimp only[go_sem,seval,List.take_zero,List.map_nil,List.foldl_nil, *]|omega))
 intro i hi;by_cases hlt:i<e.l.length
 ·have hgx:(e.l.map Sz.encE)[i]?=some (Sz.encE e.l[i]):=by simp[hlt]
  have hs:=Bc (f:=vm) (w:=e.w) hlt;have z1:=λτ=>hE e.l[i] (List.getElem_mem hlt) τ;generalize hx:e.l[i]=x at hgx z1 hs;generalize hA:((e.l.take i).map vm).foldl max e.w=A at hs|-;have hlt':(i:Int)<(e.l.length:Int):=by omega
  clear hE hW hA hx;repeat' (first|simp -implicitDefEqProofs -dsimp only[go_sem,seval,List.length_map, *]|simp(disch:=omega) only[ah,aj,ao,aw,ar,ag,au,aq]|with_reducible refine kc1 (z1 _) ?_|with_reducible refine lnx (i+1) ?_|with_reducible refine And.intro ?_ ?_|omega)
 ·have:i=e.l.length:=by omega
  subst this;rw[List.take_length,<-hW];clear hE hW;repeat' (first|simp -implicitDefEqProofs -dsimp only[go_sem,seval,List.length_map, *]|refine fin_eq ?_)
def Mo(s:List Sz.Sg):Int:=((s.take 20).map λs=>s.w).foldl max 0
noncomputable def vp(d:Sz.Flat)(e:Sz.E):Bool:=S.smallD d&&decide ((d.sigs.length:Int)<=12)&&decide (Mo d.sigs<=8)&&decide ((Sz.nodes e:Int)<=30)&&decide (vm e<=8)
theorem Ew(d:Sz.Flat)(e:Sz.E)(σ:aA)(hd:S.Sm d)(he:Sz.nodes e<=16777216):
  C_ 9 [Sz.encD d,Sz.encE e] σ (.bool (vp d e)) σ:=by
 have z1:=λτ=>S.rf_Small d τ hd;have z2:=λτ=>S.rf_Nodes e τ he;have z3:=λτ=>Ev e τ he;have hB:vp d e=(S.smallD d&&decide ((d.sigs.length:Int)<=12)&&decide (Mo d.sigs<=8)&&decide ((Sz.nodes e:Int)<=30)&&decide (vm e<=8)):=rfl;generalize hBB:vp d e=B at hB|-;obtain⟨X,hX⟩:∃X,S.smallD d=X:=⟨_,rfl⟩;obtain⟨N,hN⟩:∃X,Sz.nodes e=X:=⟨_,rfl⟩;obtain⟨W,hW⟩:∃X,vm e=X:=⟨_,rfl⟩;rw[hX] at z1 hB;rw[hN] at z2 hB;rw[hW] at z3 hB;have hds:=hd.1;obtain⟨V,hV⟩:∃V:Nat->Int,V=λi=>((d.sigs.take i).map λs=>s.w).foldl max 0:=⟨_,rfl⟩;have hV0:V 0=0:=by rw[hV];rfl
 have hVs:∀i,(h:i<d.sigs.length)->V (i+1)=max (V i) (d.sigs[i]).w:=λi h=>by
  rw[hV];simp only
  rw[List.take_add_one,List.getElem?_eq_getElem h,List.map_append,List.foldl_append];rfl
 have hVe:∀i,(i=d.sigs.length/\i<=20\/i=20)->V i=Mo d.sigs:=λi h=>by
  rw[hV];unfold Mo;simp only
  rcases h with ⟨h,h2⟩|h
  ·rw[h,List.take_length,List.take_of_length_le (by omega)]
  ·rw[h]
 clear hBB hX hN hW hd he hV;refine gO [2,3] Tryz.func9 (by kernel_rfl) (by conv=>lhs;reduce;dsimp only[iA]) rfl ?_;repeat' simp -implicitDefEqProofs -dsimp only[go_sem,seval, *]
 refine loop_rule (λi:Nat=>[(6,some (.int .i64 i)),(2,some (.cptr (Sz.dL d))),(5,some (.int .i64 (V i))),(3,some (.cptr (Sz.eL e)))]) (λ_=>σ) (λi=>i<=d.sigs.length/\i<=20) (λi=>d.sigs.length-i) 0 ?_ ?_
 ·clear hB hVs hVe;(repeat' (first|simp -implicitDefEqProofs -dsimp only[go_sem,seval, *]|omega))
 rintro i ⟨hi,h20⟩;by_cases hlt:i<d.sigs.length/\i<20
 ·have hgx:(d.sigs.map Sz.encS)[i]?=some (Sz.encS (d.sigs[i]'hlt.1)):=by simp[hlt.1]
  have hs:=hVs i hlt.1;generalize hs2:d.sigs[i]'hlt.1=s at hgx hs;have hl1:(i:Int)<(d.sigs.length:Int):=by omega
  have hl2:(i:Int)<20:=by omega
  have hl3:i<d.sigs.length:=hlt.1;have hl4:i<20:=hlt.2;clear hB hVs hVe hs2 hlt z1 z2 z3;repeat' (first|simp -implicitDefEqProofs -dsimp only[go_sem,seval,List.length_map, *]|simp(disch:=omega) only[ah,aj,ao,aw,ar,ag,au,aq]|with_reducible refine lnx (i+1) ?_|with_reducible refine And.intro ?_ ?_|omega)
 ·rw[hVe i (by omega)];have hl1:((i:Int)<(d.sigs.length:Int)/\¬(i:Int)<20)\/¬(i:Int)<(d.sigs.length:Int):=by omega
  clear hVs hVe hlt;cases X with
  |false=>
   simp only[Bool.false_and] at hB;subst hB;rcases hl1 with ⟨l1,l2⟩|l1
   all_goals
    repeat' (first|simp -implicitDefEqProofs -dsimp only[go_sem,seval,List.length_map, *]|with_reducible refine kc1 (z1 _) ?_|refine fin_eq ?_)
  |true=>
   generalize hU:Mo d.sigs=U at hB|-;simp only[Bool.true_and] at hB
   have hc:(¬(d.sigs.length:Int)<=12/\B=false)\/((d.sigs.length:Int)<=12/\¬U<=8/\B=false)\/(((d.sigs.length:Int)<=12/\U<=8)/\¬(N:Int)<=30/\B=false)\/(((d.sigs.length:Int)<=12/\U<=8)/\(N:Int)<=30/\B=decide (W<=8)):=by
    by_cases a1:(d.sigs.length:Int)<=12
    ·by_cases a2:U<=8
     ·by_cases a3:(N:Int)<=30
      ·right;right;right;exact⟨⟨a1,a2⟩,a3,by rw[hB,decide_eq_true a1,decide_eq_true a2,decide_eq_true a3];rfl⟩
      ·right;right;left;exact⟨⟨a1,a2⟩,a3,by rw[hB,decide_eq_false a3];simp⟩
     ·right;left;exact⟨a1,a2,by rw[hB,decide_eq_false a2];simp⟩
    ·left;exact⟨a1,by rw[hB,decide_eq_false a1];rfl⟩
   clear hB hU;rcases hl1 with ⟨l1,l2⟩|l1
   all_goals
    rcases hc with ⟨c1,rfl⟩|⟨c1,c2,rfl⟩|⟨⟨c1,c2⟩,c3,rfl⟩|⟨⟨c1,c2⟩,c3,rfl⟩
    all_goals
     repeat' (first|simp -implicitDefEqProofs -dsimp only[go_sem,seval,List.length_map, *]|with_reducible refine kc1 (z1 _) ?_|with_reducible refine kc1 (z2 _) ?_|with_reducible refine kc1 (z3 _) ?_|refine fin_eq ?_)
def vq(v:List (List Int)):Bool:=(v.take 20).all (λa=>decide ((a.length:Int)<=8))&&decide ((v.length:Int)<=12)
theorem Ex(v:List (List Int))(tv:Tok)(σ:aA)(hv:v.length<=1000000000000):
  C_ 10 [kQ v tv] σ (.bool (vq v)) σ:=by
 obtain⟨B,hB⟩:∃B,vq v=B:=⟨_,rfl⟩;rw[hB];replace hB:=hB.symm;unfold vq at hB;refine gO [] Tryz.func10 (by kernel_rfl) (by conv=>lhs;reduce;dsimp only[iA]) rfl ?_;repeat' simp -implicitDefEqProofs -dsimp only[go_sem,seval, *]
 refine loop_rule (λi:Nat=>[(3,some (.int .i64 i)),(0,some (kQ v tv))]) (λ_=>σ) (λi=>i<=v.length/\i<=20/\(v.take i).all (λa=>decide ((a.length:Int)<=8))=true) (λi=>v.length-i) 0 ?_ ?_
 ·clear hB;(repeat' (first|simp -implicitDefEqProofs -dsimp only[go_sem,seval,List.take_zero,List.all_nil, *]|omega))
 rintro i ⟨hi,h20,hall⟩;by_cases hlt:i<v.length/\i<20
 ·have hl3:i<v.length:=hlt.1;have hgx:(v.map λl=>aD l .no)[i]?=some (aD v[i] .no):=by simp[hl3]
  have htk:v.take (i+1)=v.take i++[v[i]]:=by rw[List.take_add_one];simp[hl3]
  have hmem:v[i]∈v.take 20:=List.mem_take_iff_getElem.2 ⟨i,by omega,rfl⟩;generalize ha:v[i]=a at hgx htk hmem;have hl1:(i:Int)<(v.length:Int):=by omega
  have hl2:(i:Int)<20:=by omega
  have hl4:i<20:=hlt.2;by_cases h8:(8:Int)<(a.length:Int)
  ·have e1:B=false:=by
    rw[hB,Bool.and_eq_false_iff];left
    rw[List.all_eq_false];exact⟨a,hmem,by simp;omega⟩
   subst e1;clear hB htk hmem hall ha hlt;repeat' (first|simp -implicitDefEqProofs -dsimp only[go_sem,seval,gt_iff_lt,List.length_map, *]|refine fin_eq ?_)
  ·have hall2:(v.take (i+1)).all (λa=>decide ((a.length:Int)<=8))=true:=by
    rw[htk,List.all_append,hall];simp;omega
   clear hB htk hmem hall ha hlt;repeat' (first|simp -implicitDefEqProofs -dsimp only[go_sem,seval,gt_iff_lt,List.length_map, *]|simp(disch:=omega) only[ah,aj,ao,aw,ar,ag,au,aq]|with_reducible refine lnx (i+1) ?_|with_reducible refine And.intro ?_ ?_|omega)
 ·have e1:v.take i=v.take 20:=by
   by_cases h:i=20
   ·rw[h]
   ·rw[List.take_of_length_le (by omega),List.take_of_length_le (by omega)]
  rw[e1] at hall;rw[hall,Bool.true_and] at hB;subst hB;have hl1:((i:Int)<(v.length:Int)/\¬(i:Int)<20)\/¬(i:Int)<(v.length:Int):=by omega
  clear hall e1 hlt;rcases hl1 with ⟨l1,l2⟩|l1
  all_goals
   repeat' (first|simp -implicitDefEqProofs -dsimp only[go_sem,seval,List.length_map, *]|refine fin_eq ?_)
end Go.Proofs.YtbbihmmobfmadaaGreat
