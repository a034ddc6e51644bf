/- blast: contracts: the document's value of an expression. -/
import Derived.Test.YtbbihmmobfmadaaGreatWBlzBlzO
import Derived.Test.YtbbihmmobfmadaaGreatWBlWorth
set_option linter.unusedSimpArgs false
set_option linter.unusedVariables false
set_option maxHeartbeats 8000000
set_option maxRecDepth 50000
namespace Go.Proofs.YtbbihmmobfmadaaGreat
open Abs Fil Fil.Bl A
theorem uQ(w:Int)(a hi lo:Nat)(σ:aA)(hw:1<=w/\w<=64)(ha:a<2^w.toNat)(h1:lo<=hi)(h2:(hi:Int)<w):
  C_ 88 [eB w a, .int .i64 hi, .int .i64 lo] σ (.tup [eB ((hi:Int)-lo+1) (a/2^lo%2^(hi-lo+1)), .int .i64 0]) σ:=by
 have z1:=λτ=>dq w a τ;rw[iI.2 ⟨hw,ha⟩,if_pos rfl] at z1;have z2:=λτ=>iZ ((hi:Int)-lo+1) τ
 have hm:maskN ((hi:Int)-lo+1)=2^(hi-lo+1)-1:=by
  rw[gE (by omega)];have:((hi:Int)-lo+1).toNat=hi-lo+1:=by omega
  rw[this]
 have hml:=iH ((hi:Int)-lo+1)
 have hal:a<18446744073709551616:=by
  have:=ly (w:=w) (by omega)
  omega
 have hfd:=uo a lo;have hdl:a/2^lo<=a:=Nat.div_le_self _ _;have hor:=sL (a/2^lo) (maskN ((hi:Int)-lo+1)) (by omega) hml;have he:a/2^lo&&& maskN ((hi:Int)-lo+1)=a/2^lo%2^(hi-lo+1):=by rw[hm,Nat.and_two_pow_sub_one_eq_mod]
 rw[he] at hor;have hnn:¬(lo:Int)<0:=by omega
 have hmn:Nat.min lo 64=lo:=Nat.min_eq_left (by omega);have g1:¬(lo:Int)>hi:=by omega
 have g2:¬(hi:Int)≥w:=by omega
 generalize hM:maskN ((hi:Int)-lo+1)=M at z2 hor;generalize hH:a/2^lo=H at hfd hor;generalize hG:H%2^(hi-lo+1)=G at hor;clear hm hml hdl he hM hH hG ha hal;refine gO [3] Tryz.func88 (by kernel_rfl) (by conv=>lhs;reduce;dsimp only[iA]) rfl ?_;repeat' (first|simp(maxDischargeDepth:=9) -implicitDefEqProofs -dsimp only[go_sem,seval, *]|simp(disch:=omega) only[ah,aj,ao,aw,ar,ag,au,aq]|(with_reducible refine Zt λoF hoF hnF hnF'=>?_;try simp only[aa,ne_eq,not_and] at hoF)|with_reducible refine kc1 (z1 _) ?_|with_reducible refine id_one0 (λtS hS=>z2 _) trivial ?_|refine fin_eq ?_)
def DO(l:List (Int×Nat)):Prop:=∀x∈l,(1<=x.1/\x.1<=64)/\x.2<2^x.1.toNat
theorem lR{l:List (Int×Nat)}{i:Nat}(h:i<l.length):((l.take (i+1)).map Prod.fst).sum=((l.take i).map Prod.fst).sum+l[i].1:=by
 rw[List.take_add_one,List.getElem?_eq_getElem h,List.map_append,List.sum_append];show _+(l[i].1+0)=_
 omega
theorem uR{l:List (Int×Nat)}{i:Nat}(h:i<l.length):pS (l.take (i+1))=pS (l.take i)*2^l[i].1.toNat+l[i].2:=by
 rw[pS,List.take_add_one,List.getElem?_eq_getElem h,List.foldl_append];rfl
theorem DP{l:List (Int×Nat)}(hl:DO l):∀i,i<=l.length->pS (l.take i)<2^((l.take i).map Prod.fst).sum.toNat/\(i:Int)<=((l.take i).map Prod.fst).sum
 |0,_=>by simp[pS]
 |i+1,h=>by
  obtain⟨h1,h2⟩:=DP hl i (by omega);obtain⟨h3,h4⟩:=hl l[i] (List.getElem_mem _);rw[uR (by omega),lR (by omega)];refine⟨?_,by omega⟩;have e:(((l.take i).map Prod.fst).sum+l[i].1).toNat=((l.take i).map Prod.fst).sum.toNat+l[i].1.toNat:=by omega
  rw[e,Nat.pow_add];have h5:(pS (l.take i)+1)*2^l[i].1.toNat<=2^((l.take i).map Prod.fst).sum.toNat*2^l[i].1.toNat:=Nat.mul_le_mul_right _ h1;rw[Nat.add_mul,Nat.one_mul] at h5;omega
theorem Lk(l:List (Int×Nat))(t:Tok)(σ:aA)(h0:0<l.length)(hl:DO l)(h64:(l.map Prod.fst).sum<=64):
  C_ 92 [.slice (l.map λx=>eB x.1 x.2) t] σ (.tup [eB (l.map Prod.fst).sum (pS l), .int .i64 0]) σ:=by
 have hct:=DP hl
 have hle:∀i,i<=l.length->((l.take i).map Prod.fst).sum<=64:=λi hi=>by
  have e:=List.take_append_drop i l;have e2:=congrArg (λl=>(l.map Prod.fst).sum) e;simp only[List.map_append,List.sum_append] at e2
  have:0<=((l.drop i).map Prod.fst).sum:=Sz.sum_nonneg λb hb=>by
   obtain⟨x,hx,rfl⟩:=List.mem_map.1 hb;have:=(hl x (List.mem_of_mem_drop hx)).1
   omega
  omega
 have hst:=λi (h:i<l.length)=>lR h;have hcs:=λi (h:i<l.length)=>uR h
 have hln:l.length<=64:=by
  have:=(hct l.length (Nat.le_refl _)).2
  rw[List.take_length] at this;omega
 obtain⟨S,hS⟩:∃S:Nat->Int,S=λi=>((l.take i).map Prod.fst).sum:=⟨_,rfl⟩;obtain⟨K,hK⟩:∃K:Nat->Nat,K=λi=>pS (l.take i):=⟨_,rfl⟩;have S0:S 0=0:=by rw[hS];rfl
 have K0:K 0=0:=by rw[hK];rfl
 have Ss:∀i,(h:i<l.length)->S (i+1)=S i+l[i].1:=λi h=>by rw[hS];exact hst i h
 have Ks:∀i,(h:i<l.length)->K (i+1)=K i*2^l[i].1.toNat+l[i].2:=λi h=>by rw[hK];exact hcs i h
 have Kl:∀i,i<=l.length->K i<2^(S i).toNat/\(i:Int)<=S i/\S i<=64:=λi h=>by
  rw[hK,hS];exact⟨(hct i h).1,(hct i h).2,hle i h⟩
 have Se:(l.map Prod.fst).sum=S l.length:=by rw[hS];simp only;rw[List.take_length]
 have Ke:pS l=K l.length:=by rw[hK];simp only;rw[List.take_length]
 rw[Se,Ke];clear hct hle hst hcs hS hK Se Ke h64;refine gO [] Tryz.func92 (by kernel_rfl) (by conv=>lhs;reduce;dsimp only[iA]) rfl ?_;repeat' (first|simp(maxDischargeDepth:=9) -implicitDefEqProofs -dsimp only[go_sem,seval, *]|(with_reducible refine Zt λoF hoF hnF hnF'=>?_;try simp only[aa,ne_eq,not_and] at hoF))
 refine loop_rule (λi:Nat=>[(5,some (.int .i64 i)),(0,some (.slice (l.map λx=>eB x.1 x.2) t)),(2,some (.ptr oF 0)),(4,some (.int .i64 (S i)))]) (λi=>aH σ oF (.cells [.int .i64 0, .int .u64 0])) (λi=>i<=l.length) (λi=>l.length-i) 0 ?_ ?_
 ·clear Ss Ks Kl;(repeat' (first|simp(maxDischargeDepth:=9) -implicitDefEqProofs -dsimp only[go_sem,seval,S0, *]|omega))
 intro i hi;by_cases hlt:i<l.length
 ·have hgx:(l.map λx=>eB x.1 x.2)[i]?=some (eB l[i].1 l[i].2):=by simp[hlt]
  have hs:=Ss i hlt;have hk1:=Kl i hi;have hk2:=Kl (i+1) hlt;obtain⟨hb1,hb2⟩:=hl l[i] (List.getElem_mem _);have z1:=λτ=>dq l[i].1 l[i].2 τ;rw[iI.2 ⟨hb1,hb2⟩,if_pos rfl] at z1;obtain⟨x,hx⟩:∃x,l[i]=x:=⟨_,rfl⟩;obtain⟨w,v⟩:=x;rw[hx] at hgx z1 hs hb1;simp only at z1 hs hb1;have hlt':(i:Int)<(l.length:Int):=by omega
  clear Ss Ks Kl hl hx hb2;repeat' (first|simp(maxDischargeDepth:=9) -implicitDefEqProofs -dsimp only[go_sem,seval,List.length_map, *]|simp(disch:=omega) only[ah,aj,ao,aw,ar,ag,au,aq]|with_reducible refine kc1 (z1 _) ?_|with_reducible refine lnx (i+1) ?_|with_reducible refine And.intro ?_ ?_|omega)
 have hie:i=l.length:=by omega
 subst hie;have hk1:=Kl l.length (Nat.le_refl _);have ge:¬S l.length>64:=by omega
 have be:(S l.length==0)=false:=by rw[beq_eq_false_iff_ne];omega
 repeat' simp(maxDischargeDepth:=9) -implicitDefEqProofs -dsimp only[go_sem,seval,List.length_map, *]
 refine loop_rule (λi:Nat=>[(7,some (.int .i64 i)),(0,some (.slice (l.map λx=>eB x.1 x.2) t)),(6,some (.int .u64 (K i))),(4,some (.int .i64 (S l.length))),(2,some (.ptr oF 0))]) (λi=>aH σ oF (.cells [.int .i64 0, .int .u64 0])) (λi=>i<=l.length) (λi=>l.length-i) 0 ?_ ?_
 ·clear Ss Ks Kl;(repeat' (first|simp(maxDischargeDepth:=9) -implicitDefEqProofs -dsimp only[go_sem,seval,K0, *]|omega))
 intro i hi;by_cases hlt:i<l.length
 ·have hgx:(l.map λx=>eB x.1 x.2)[i]?=some (eB l[i].1 l[i].2):=by simp[hlt]
  have hs:=Ss i hlt;have hks:=Ks i hlt;have hk3:=Kl i hi;have hk2:=Kl (i+1) hlt;obtain⟨hb1,hb2⟩:=hl l[i] (List.getElem_mem _);have hp1:=ly (w:=S (i+1)) (by omega);obtain⟨x,hx⟩:∃x,l[i]=x:=⟨_,rfl⟩;obtain⟨w,v⟩:=x;rw[hx] at hgx hs hb1 hks hb2;simp only at hs hb1 hks hb2;obtain⟨n,rfl⟩:∃n:Nat,w=n:=⟨w.toNat,by omega⟩;rw[Int.toNat_natCast] at hks hb2;have z1:=λτ=>Ir (K i) n τ (by omega);have hfit:K i*2^n+v<18446744073709551616:=by omega
  have hu:(if 63<n then 0 else K i*2^n%18446744073709551616)=K i*2^n:=by
   split
   ·have e0:(S i).toNat=0:=by omega
    have h3:=hk3.1;rw[e0,Nat.pow_zero] at h3;have:K i=0:=by omega
    rw[this,Nat.zero_mul]
   ·exact Nat.mod_eq_of_lt (by omega)
  rw[hu] at z1;have hor:=MA (K i*2^n) v (by omega) (by omega)
  have ho:K i*2^n|||v=K i*2^n+v:=by
   have:=Nat.two_pow_add_eq_or_of_lt hb2 (K i)
   rw[Nat.mul_comm (K i),<-this]
  rw[ho,<-hks] at hor;have hwn:IntKind.u64.wrap (n:Int)=(n:Int):=lx _ (by omega) (by omega);generalize hX:K i*2^n=X at z1 hor;have hlt':(i:Int)<(l.length:Int):=by omega
  clear Ss Ks Kl hl hx hb2 hks hk3 hk2 hfit hu ho hX hb1 hs hp1 hk1 ge be;repeat' (first|simp(maxDischargeDepth:=9) -implicitDefEqProofs -dsimp only[go_sem,seval,List.length_map, *]|simp(disch:=omega) only[ah,aj,ao,aw,ar,ag,au,aq]|with_reducible refine id_one0 (λtS hS=>z1 _) trivial ?_|with_reducible refine lnx (i+1) ?_|with_reducible refine And.intro ?_ ?_|omega)
 ·have:i=l.length:=by omega
  subst this;clear Ss Ks Kl;repeat' (first|simp(maxDischargeDepth:=9) -implicitDefEqProofs -dsimp only[go_sem,seval,List.length_map, *]|refine fin_eq ?_)
end Go.Proofs.YtbbihmmobfmadaaGreat
namespace Go.Proofs.YtbbihmmobfmadaaGreat
open Abs Fil Fil.Bl A
abbrev DQ(u:List Nat)(t:Tok):AV:= .slice (u.map λx:Nat=>AV.int .u64 x) t
abbrev encP(u:List Nat)(x:Sz.E):AV:=eB x.w (worth u x)
theorem Do(u:List Nat)(l:List Sz.E):iy 2 (l.map (encP u))=True:=dJ _ _ _ λ_=>rfl
structure Uv(g:List Sz.Sg)(u:List Nat):Prop where
 len:u.length=g.length
 wid:∀s∈g,1<=s.w/\s.w<=64
 lt:∀i,(h:i<g.length)->u.getD i 0<2^g[i].w.toNat
abbrev DR(d:Sz.Flat)(u:List Nat)(t:Tok)(e:Sz.E):Prop:=∀σ:aA,
 C_ 49 [Sz.encD d,DQ u t,Sz.encE e] σ (eB e.w (worth u e)) σ
theorem xt{d:Sz.Flat}{u:List Nat}(hds:d.sigs.length<=1000000)(hu:Uv d.sigs u)(t:Tok){e:Sz.E}(hf:Sz.Fit d.sigs e)(hw:0<=e.v/\e.v<18446744073709551616)(hel:e.l.length<=1000000)(hb:∀x∈e.l,worth u x<2^x.w.toNat)(ih:∀x∈e.l,DR d u t x):DR d u t e:=by
 intro σ
 have sg:∀k:Int,0<=k->k<d.sigs.length->∃s:Sz.Sg,(d.sigs.map Sz.encS)[k.toNat]?=some (Sz.encS s)/\(u.map λx:Nat=>AV.int .u64 x)[k.toNat]?=some (.int .u64 (u.getD k.toNat 0:Nat))/\(1<=s.w/\s.w<=64)/\u.getD k.toNat 0<2^s.w.toNat/\(d.sigs.getD k.toNat Sz.zS)=s:=λk h0 h1=>by
  have hk:k.toNat<d.sigs.length:=by omega
  have hk2:k.toNat<u.length:=by have:=hu.len;omega
  refine⟨d.sigs[k.toNat],by simp[hk],?_,hu.wid _ (List.getElem_mem hk),hu.lt _ hk,?_⟩
  ·rw[List.getElem?_map,List.getElem?_eq_getElem hk2,List.getD_eq_getElem?_getD,List.getElem?_eq_getElem hk2];rfl
  ·rw[List.getD_eq_getElem?_getD,List.getElem?_eq_getElem hk];rfl
 by_cases q1:e.op=1
 ·have e1:((worth u e:Nat):Int)=e.v:=by rw[dV,if_pos q1];omega
  rw[eB,e1];clear sg ih hb hf e1;refine gO [3,5,3046] Tryz.func49 (by kernel_rfl) (by conv=>lhs;reduce;dsimp only[iA]) rfl ?_;repeat' (first|simp(maxDischargeDepth:=9) -implicitDefEqProofs -dsimp only[go_sem,seval, *]|(with_reducible refine Zt λoF hoF hnF hnF'=>?_;try simp only[aa,ne_eq,not_and] at hoF)|refine fin_eq ?_)
 by_cases q2:e.op=2
 ·cases hf<;>first|(exfalso;omega)|skip
  rename_i h1 h2 h3 h4 h5
  obtain⟨p1,p2,p3,p4,p5⟩:=Sz.place_iff.1 h3;obtain⟨s,s1,s2,s3,s4,s5⟩:=sg e.sig p1 p2;rw[s5] at p5;have z1:=λτ=>uQ s.w (u.getD e.sig.toNat 0) e.hi.toNat e.lo.toNat τ s3 s4 (by omega) (by omega);have eh:((e.hi.toNat:Nat):Int)=e.hi:=by omega
  have el:((e.lo.toNat:Nat):Int)=e.lo:=by omega
  rw[eh,el,<-h4] at z1
  have e1:worth u e=u.getD e.sig.toNat 0/2^e.lo.toNat%2^(e.hi.toNat-e.lo.toNat+1):=by
   rw[dV,if_neg q1,if_pos q2];have:(e.hi-e.lo+1).toNat=e.hi.toNat-e.lo.toNat+1:=by omega
   rw[this]
  rw[<-e1] at z1;have hul:e.sig<(u.length:Int):=by have:=hu.len;omega
  generalize hX:worth u e=X at z1|-;generalize hY:u.getD e.sig.toNat 0=Y at s2 z1;clear sg ih hb hu h1 h2 h3 h5 s3 s4 s5 p3 p4 p5 eh el e1 hX hY h4 hw;refine gO [3,5,3046] Tryz.func49 (by kernel_rfl) (by conv=>lhs;reduce;dsimp only[iA]) rfl ?_;repeat' (first|simp(maxDischargeDepth:=9) -implicitDefEqProofs -dsimp only[go_sem,seval,List.length_map, *]|(with_reducible refine Zt λoF hoF hnF hnF'=>?_;try simp only[aa,ne_eq,not_and] at hoF)|with_reducible refine id_one0 (λtS hS=>z1 _) trivial ?_|refine fin_eq ?_)
 have b1:(e.op==1)=false:=by simp[q1]
 have b2:(e.op==2)=false:=by simp[q2]
 have hpos:=yJ hf q1 q2;have h1:=Sz.encEs_eq e;have hW:=dV u e;rw[if_neg q1,if_neg q2] at hW;refine gO [3,5,3046] Tryz.func49 (by kernel_rfl) (by conv=>lhs;reduce;dsimp only[iA]) rfl ?_;repeat' (first|simp(maxDischargeDepth:=9) -implicitDefEqProofs -dsimp only[go_sem,seval, *]|(with_reducible refine Zt λoF hoF hnF hnF'=>?_;try simp only[aa,ne_eq,not_and] at hoF))
 rename_i o1 ho1 hn1 hn1'
 obtain⟨o2,ho2⟩:∃x,x=oF:=⟨_,rfl⟩;subst ho2
 refine loop_rule (λi:Nat=>[(10,some (.int .i64 i)),(5,some (.cptr (Sz.eL e))),(9,some (.slice ((e.l.take i).map (encP u)) (.own o2))),(3,some (.cptr (Sz.dL d))),(1,some (DQ u t)),(6,some (.ptr o1 0))])
  (λi=>aH (aH σ o1 (.cells [.int .i64 0, .int .u64 0])) o2 (.grow 2 i)) (λi=>i<=e.l.length) (λi=>e.l.length-i) 0 ?_ ?_
 ·clear ih hb sg;(repeat' (first|simp(maxDischargeDepth:=9) -implicitDefEqProofs -dsimp only[go_sem,seval,List.take_zero,List.map_nil, *]|omega))
 intro i hi;by_cases hlt:i<e.l.length
 ·have hgx:(e.l.map Sz.encE)[i]?=some (Sz.encE e.l[i]):=by simp[hlt]
  have z1:=λτ=>ih e.l[i] (List.getElem_mem hlt) τ
  have htk:(e.l.take (i+1)).map (encP u)=(e.l.take i).map (encP u)++[encP u e.l[i]]:=by
   rw[List.take_add_one,List.getElem?_eq_getElem hlt,List.map_append];rfl
  have hlk:(e.l.take i).length=i:=by rw[List.length_take];omega
  have hsz:=Do u (e.l.take i);have hbd:(i+1)*16<=35184372088832:=by omega
  obtain⟨L,hL⟩:∃L,(e.l.take i).map (encP u)=L:=⟨_,rfl⟩;have hLl:L.length=i:=by rw[<-hL,List.length_map,hlk]
  rw[hL] at htk hsz;rw[hL];generalize hx:e.l[i]=x at hgx z1 htk;have hlt':(i:Int)<(e.l.length:Int):=by omega
  clear ih hb sg hf hx hL hlk hW;repeat' (first|simp(maxDischargeDepth:=9) -implicitDefEqProofs -dsimp only[go_sem,seval,List.length_map,List.length_append, *]|simp(disch:=omega) only[ah,aj,ao,aw,ar,ag,au,aq]|with_reducible refine id_one0 (λtS hS=>z1 _) trivial ?_|with_reducible refine lnx (i+1) ?_|with_reducible refine And.intro ?_ ?_|omega)
 ·have hie:i=e.l.length:=by omega
  have hlt':¬(i:Int)<(e.l.length:Int):=by omega
  subst hie;rw[List.take_length];clear ih hlt hlt';cases hf with
  |num h=>exact absurd h q1
  |sig h=>exact absurd h q2
  |@idx _ a h3 hl' k0 ks hw' ha=>
   have ba:=hb a (by rw[hl'];simp);have wa:=ha.wid;have hm:e.l.map (encP u)=[encP u a]:=by rw[hl'];rfl
   have hW2:worth u e=u.getD e.sig.toNat 0/2^worth u a%2:=by rw[hW,g9,if_pos h3,hl'];rfl
   obtain⟨s,s1,s2,s3,s4,s5⟩:=sg e.sig k0 ks;rw[hm,hW2,hw'];obtain⟨A,hA⟩:∃A,worth u a=A:=⟨_,rfl⟩;rw[encP,hA];rw[hA] at ba;have hA64:=ly (w:=a.w) (by omega);have hwn:IntKind.u64.wrap s.w=s.w:=lx _ (by omega) (by omega);have hul:e.sig<(u.length:Int):=by have:=hu.len;omega
   by_cases hlt:(A:Int)<s.w
   ·have z1:=λτ=>uQ s.w (u.getD e.sig.toNat 0) A A τ s3 s4 (Nat.le_refl _) hlt;have e1:(A:Int)-A+1=1:=by omega
    have e2:A-A+1=1:=by omega
    rw[e1,e2,Nat.pow_one] at z1;have hwA:IntKind.i64.wrap (A:Int)=(A:Int):=ah _ (by omega) (by omega);generalize hZ:u.getD e.sig.toNat 0/2^A%2=Z at z1;generalize hY:u.getD e.sig.toNat 0=Y at s2 z1;clear sg hb hu hW hl' ha ba wa hm hW2 s3 s4 s5 hA hA64 e1 e2 hZ hY hw';repeat' (first|simp(maxDischargeDepth:=9) -implicitDefEqProofs -dsimp only[go_sem,seval,List.length_map,List.map_cons,List.map_nil, *]|(with_reducible (first|apply Za|apply Zb|apply Zc|apply Zd|apply Ze|apply Zf|apply Zg|apply Zh|apply Zi|apply Zj|apply Zk|apply Zl|apply Zm|apply Zn|apply Zo|apply Zp|apply Zq|apply Zr|apply Zs)<;>intro hq)|with_reducible refine Zu ?_ ?_|(with_reducible refine Zt λoF hoF hnF hnF'=>?_;try simp only[aa,ne_eq,not_and] at hoF)|with_reducible refine id_one0 (λtS hS=>z1 _) trivial ?_|refine fin_eq ?_|omega)
   ·have e0:u.getD e.sig.toNat 0/2^A%2=0:=by
     have h2:2^s.w.toNat<=2^A:=Nat.pow_le_pow_right (by omega) (by omega);rw[Nat.div_eq_of_lt (by omega)]
    rw[e0];clear sg hb hu hW hl' ha ba wa hm hW2 s3 s4 s5 hA hA64 hw' e0;repeat' (first|simp(maxDischargeDepth:=9) -implicitDefEqProofs -dsimp only[go_sem,seval,List.length_map,List.map_cons,List.map_nil, *]|(with_reducible (first|apply Za|apply Zb|apply Zc|apply Zd|apply Ze|apply Zf|apply Zg|apply Zh|apply Zi|apply Zj|apply Zk|apply Zl|apply Zm|apply Zn|apply Zo|apply Zp|apply Zq|apply Zr|apply Zs)<;>intro hq)|with_reducible refine Zu ?_ ?_|(with_reducible refine Zt λoF hoF hnF hnF'=>?_;try simp only[aa,ne_eq,not_and] at hoF)|refine fin_eq ?_|omega)
  |@un _ a h4 hl' hn hw' h6 ha=>
   have ba:=hb a (by rw[hl'];simp);have wa:=ha.wid;have hm:e.l.map (encP u)=[encP u a]:=by rw[hl'];rfl
   obtain⟨w,hwa⟩:∃w:Nat,a.w=w:=⟨a.w.toNat,by omega⟩;rw[hwa] at wa ba h6
   have hW2:worth u e=(wV e.n w (worth u a)).2:=by
    rw[hW,g9,if_neg (by omega),if_pos h4,hl'];simp only[List.map_cons,List.map_nil,List.getD_cons_zero,hwa,Int.toNat_natCast]
   have hw2:e.w=((wV e.n w (worth u a)).1:Nat):=by
    rw[hw',hwa];unfold wV;repeat' split
    all_goals first|rfl|omega
   rw[hm,hW2,hw2];obtain⟨A,hA⟩:∃A,worth u a=A:=⟨_,rfl⟩;rw[encP,hA,hwa];rw[hA] at ba;rw[Int.toNat_natCast] at ba;have z1:=λτ=>Me e.n w A τ (by omega) ba hn (by omega);obtain⟨⟨P,Q⟩,hU⟩:∃U,wV e.n w A=U:=⟨_,rfl⟩;rw[hU] at z1;rw[hU];have b3':(e.op==3)=false:=by rw[h4];rfl
   have b4:(e.op==4)=true:=by rw[h4];rfl
   clear sg hb hu hW hl' ha ba wa hm hW2 hwa hw2 hw' hA hU h6 hn;repeat' (first|simp(maxDischargeDepth:=9) -implicitDefEqProofs -dsimp only[go_sem,seval,List.length_map,List.map_cons,List.map_nil, *]|simp(disch:=omega) only[ah,aj,ao,aw,ar,ag,au,aq]|(with_reducible (first|apply Za|apply Zb|apply Zc|apply Zd|apply Ze|apply Zf|apply Zg|apply Zh|apply Zi|apply Zj|apply Zk|apply Zl|apply Zm|apply Zn|apply Zo|apply Zp|apply Zq|apply Zr|apply Zs)<;>intro hq)|with_reducible refine Zu ?_ ?_|(with_reducible refine Zt λoF hoF hnF hnF'=>?_;try simp only[aa,ne_eq,not_and] at hoF)|with_reducible refine id_one0 (λtS hS=>z1 _) trivial ?_|refine fin_eq ?_|omega)
  |@bin _ a c h5 hl' hn hw' hab h25 ha hc=>
   have ba:=hb a (by rw[hl'];simp);have bc:=hb c (by rw[hl'];simp);have wa:=ha.wid;have wc:=hc.wid;have hm:e.l.map (encP u)=[encP u a,encP u c]:=by rw[hl'];rfl
   obtain⟨w,hwa⟩:∃w:Nat,a.w=w:=⟨a.w.toNat,by omega⟩;obtain⟨v,hwc⟩:∃w:Nat,c.w=w:=⟨c.w.toNat,by omega⟩;rw[hwa] at wa ba hab h25;rw[hwc] at wc bc hab
   have hW2:worth u e=(qC e.n w (worth u a) (worth u c)).2:=by
    rw[hW,g9,if_neg (by omega),if_neg (by omega),if_pos h5,hl'];simp only[List.map_cons,List.map_nil,List.getD_cons_zero,List.getD_cons_succ,hwa,Int.toNat_natCast]
   have hw2:e.w=((qC e.n w (worth u a) (worth u c)).1:Nat):=by
    rw[hw',hwa,DN hn];split<;>rfl
   rw[hm,hW2,hw2];obtain⟨A,hA⟩:∃A,worth u a=A:=⟨_,rfl⟩;obtain⟨C,hC⟩:∃A,worth u c=A:=⟨_,rfl⟩;rw[encP,encP,hA,hwa,hC,hwc];rw[hA,Int.toNat_natCast] at ba;rw[hC,Int.toNat_natCast] at bc;have z1:=λτ=>Kg e.n w A v C τ (by omega) ba (by omega) bc (by omega);have hR:uq e.n w A C=(qC e.n w A C,0):=by unfold uq;rw[if_pos (by omega)]
   rw[hR] at z1;obtain⟨⟨P,Q⟩,hU⟩:∃U,qC e.n w A C=U:=⟨_,rfl⟩;rw[hU] at z1;rw[hU];have b3':(e.op==3)=false:=by rw[h5];rfl
   have b4:(e.op==4)=false:=by rw[h5];rfl
   have b5:(e.op==5)=true:=by rw[h5];rfl
   clear sg hb hu hW hl' ha ba wa hc bc wc hm hW2 hwa hw2 hw' hA hU hab h25 hn hwc hC hR;repeat' (first|simp(maxDischargeDepth:=9) -implicitDefEqProofs -dsimp only[go_sem,seval,List.length_map,List.map_cons,List.map_nil, *]|simp(disch:=omega) only[ah,aj,ao,aw,ar,ag,au,aq]|(with_reducible (first|apply Za|apply Zb|apply Zc|apply Zd|apply Ze|apply Zf|apply Zg|apply Zh|apply Zi|apply Zj|apply Zk|apply Zl|apply Zm|apply Zn|apply Zo|apply Zp|apply Zq|apply Zr|apply Zs)<;>intro hq)|with_reducible refine Zu ?_ ?_|(with_reducible refine Zt λoF hoF hnF hnF'=>?_;try simp only[aa,ne_eq,not_and] at hoF)|with_reducible refine id_one0 (λtS hS=>z1 _) trivial ?_|refine fin_eq ?_|omega)
  |@cond _ a c f h6 hl' hc' hw' hbc ha hc hd=>
   have ba:=hb a (by rw[hl'];simp);have bc:=hb c (by rw[hl'];simp);have bf:=hb f (by rw[hl'];simp);have wc:=hc.wid;have hm:e.l.map (encP u)=[encP u a,encP u c,encP u f]:=by rw[hl'];rfl
   obtain⟨w,hwc⟩:∃w:Nat,c.w=w:=⟨c.w.toNat,by omega⟩
   have hW2:worth u e=if worth u a=1 then worth u c else worth u f:=by
    rw[hW,g9,if_neg (by omega),if_neg (by omega),if_neg (by omega),if_pos h6,hl'];rfl
   rw[hm,hW2,hw',encP,encP,encP,hbc,hc',hwc];rw[hc'] at ba;rw[hbc,hwc,Int.toNat_natCast] at bf;rw[hwc,Int.toNat_natCast] at bc;rw[hwc] at wc;have ba1:worth u a<=1:=by have e2:(2:Nat)^(1:Int).toNat=2:=rfl;omega
   obtain⟨A,hA⟩:∃A,worth u a=A:=⟨_,rfl⟩;obtain⟨C,hC⟩:∃A,worth u c=A:=⟨_,rfl⟩;obtain⟨F,hF⟩:∃A,worth u f=A:=⟨_,rfl⟩;rw[hA] at ba1;rw[hC] at bc;rw[hF] at bf;rw[hA,hC,hF];have z1:=λτ=>G3 A w C F τ ba1 (by omega) bc bf;generalize hZ:(if A=1 then C else F)=Z at z1;have b3':(e.op==3)=false:=by rw[h6];rfl
   have b4:(e.op==4)=false:=by rw[h6];rfl
   have b5:(e.op==5)=false:=by rw[h6];rfl
   have b6:(e.op==6)=true:=by rw[h6];rfl
   clear sg hb hu hW hl' ha ba hc bc wc hd bf hm hW2 hw' hwc hbc hc' hA hC hF hZ ba1;repeat' (first|simp(maxDischargeDepth:=9) -implicitDefEqProofs -dsimp only[go_sem,seval,List.length_map,List.map_cons,List.map_nil, *]|(with_reducible (first|apply Za|apply Zb|apply Zc|apply Zd|apply Ze|apply Zf|apply Zg|apply Zh|apply Zi|apply Zj|apply Zk|apply Zl|apply Zm|apply Zn|apply Zo|apply Zp|apply Zq|apply Zr|apply Zs)<;>intro hq)|with_reducible refine Zu ?_ ?_|(with_reducible refine Zt λoF hoF hnF hnF'=>?_;try simp only[aa,ne_eq,not_and] at hoF)|with_reducible refine id_one0 (λtS hS=>z1 _) trivial ?_|refine fin_eq ?_|omega)
  |@ext _ a h8 hl' hn hw' hx ha=>
   have ba:=hb a (by rw[hl'];simp);have wa:=ha.wid;have hm:e.l.map (encP u)=[encP u a]:=by rw[hl'];rfl
   obtain⟨v,hwa⟩:∃w:Nat,a.w=w:=⟨a.w.toNat,by omega⟩;obtain⟨w,hwe⟩:∃w:Nat,e.w=w:=⟨e.w.toNat,by omega⟩
   have hW2:worth u e=At e.n w v (worth u a):=by
    rw[hW,g9,if_neg (by omega),if_neg (by omega),if_neg (by omega),if_neg (by omega),if_pos h8,hl'];simp only[List.map_cons,List.map_nil,List.getD_cons_zero,hwa,hwe,Int.toNat_natCast];rfl
   rw[hwe] at hw' hx;rw[hwa] at hx wa ba;rw[Int.toNat_natCast] at ba;rw[hm,hW2,encP,hwa];generalize hA:worth u a=A at ba;have z1:=λτ=>Kh e.n w v A τ (by omega) (by omega) ba (by omega);rw[<-hwe] at z1;generalize hZ:At e.n w v A=Z at z1;have b3':(e.op==3)=false:=by rw[h8];rfl
   have b4:(e.op==4)=false:=by rw[h8];rfl
   have b5:(e.op==5)=false:=by rw[h8];rfl
   have b6:(e.op==6)=false:=by rw[h8];rfl
   have b7:(e.op==7)=false:=by rw[h8];rfl
   have b8:(e.op==8)=true:=by rw[h8];rfl
   clear sg hb hu hW hl' ha ba wa hm hW2 hw' hwa hwe hA hZ hx hn;repeat' (first|simp(maxDischargeDepth:=9) -implicitDefEqProofs -dsimp only[go_sem,seval,List.length_map,List.map_cons,List.map_nil, *]|(with_reducible (first|apply Za|apply Zb|apply Zc|apply Zd|apply Ze|apply Zf|apply Zg|apply Zh|apply Zi|apply Zj|apply Zk|apply Zl|apply Zm|apply Zn|apply Zo|apply Zp|apply Zq|apply Zr|apply Zs)<;>intro hq)|with_reducible refine Zu ?_ ?_|(with_reducible refine Zt λoF hoF hnF hnF'=>?_;try simp only[aa,ne_eq,not_and] at hoF)|with_reducible refine id_one0 (λtS hS=>z1 _) trivial ?_|refine fin_eq ?_|omega)
  |@cat _ h7 hl' hw' h64 ha=>
   have hbl:DO (e.l.map λx=>(x.w,worth u x)):=λy hy=>by
    obtain⟨x,hx,rfl⟩:=List.mem_map.1 hy;exact⟨(ha x hx).wid,hb x hx⟩
   have hs:((e.l.map λx=>(x.w,worth u x)).map Prod.fst).sum=e.w:=by rw[hw',List.map_map];rfl
   have z1:=λt τ=>Lk (e.l.map λx=>(x.w,worth u x)) t τ (by rw[List.length_map];omega) hbl (by rw[hs];exact h64);rw[hs,List.map_map] at z1
   have hW2:worth u e=pS (e.l.map λx=>(x.w,worth u x)):=by
    rw[hW,g9,if_neg (by omega),if_neg (by omega),if_neg (by omega),if_neg (by omega),if_neg (by omega)]
   rw[<-hW2] at z1;have hf:((λx:Int×Nat=>eB x.1 x.2)∘λx:Sz.E=>(x.w,worth u x))=encP u:=rfl;rw[hf] at z1;generalize hL:e.l.map (encP u)=L at z1;generalize hZ:worth u e=Z at z1;have b3':(e.op==3)=false:=by rw[h7];rfl
   have b4:(e.op==4)=false:=by rw[h7];rfl
   have b5:(e.op==5)=false:=by rw[h7];rfl
   have b6:(e.op==6)=false:=by rw[h7];rfl
   have b7:(e.op==7)=true:=by rw[h7];rfl
   clear sg hb hu hW hl' ha hbl hs hW2 hw' hf hL hZ h64;repeat' (first|simp(maxDischargeDepth:=9) -implicitDefEqProofs -dsimp only[go_sem,seval,List.length_map, *]|(with_reducible (first|apply Za|apply Zb|apply Zc|apply Zd|apply Ze|apply Zf|apply Zg|apply Zh|apply Zi|apply Zj|apply Zk|apply Zl|apply Zm|apply Zn|apply Zo|apply Zp|apply Zq|apply Zr|apply Zs)<;>intro hq)|with_reducible refine Zu ?_ ?_|(with_reducible refine Zt λoF hoF hnF hnF'=>?_;try simp only[aa,ne_eq,not_and] at hoF)|with_reducible refine kc1 (z1 _ _) ?_|refine fin_eq ?_|omega)
end Go.Proofs.YtbbihmmobfmadaaGreat
