/- blast: AN EXPRESSION'S WORD IS THE EXPRESSION. -/
import Derived.Test.YtbbihmmobfmadaaGreatWBlzBlzW
import Derived.Test.YtbbihmmobfmadaaGreatWBlzBlzU
import Derived.Test.YtbbihmmobfmadaaGreatWBlzBlaZ
set_option linter.unusedSimpArgs false
set_option linter.unusedVariables false
set_option maxHeartbeats 8000000
set_option maxRecDepth 50000
namespace Go.Proofs.YtbbihmmobfmadaaGreat
open Abs Fil Fil.Bl A
theorem EF{g:List Sz.Sg}{u:List Nat}(h:Uv g u)(h8:∀s∈g,s.w<=8){D:Sz.E->Prop}(hD:∀e,D e->(e.op=1->0<=e.v)/\e.w<=8/\∀x∈e.l,D x){e:Sz.E}(hf:Sz.Fit g e)(hd:D e):worth u e<2^e.w.toNat:=by
 obtain⟨v,hv⟩:∃v,v=(List.range g.length).map λi=>gl (g.getD i Sz.zS).w (u.getD i 0:Nat):=⟨_,rfl⟩
 have hat:∀i,(hi:i<g.length)->∃n:Nat,g[i].w=n/\v.getD i []=gl n (u.getD i 0:Nat)/\(1<=n/\n<=8)/\u.getD i 0<2^n:=λi hi=>by
  have hw:=h.wid _ (List.getElem_mem hi);have hw8:=h8 _ (List.getElem_mem hi);have hl:=h.lt i hi;obtain⟨n,hn⟩:∃n:Nat,g[i].w=n:=⟨g[i].w.toNat,by omega⟩;rw[hn] at hl hw hw8;refine⟨n,hn,?_,by omega,by simpa using hl⟩;rw[hv,List.getD_eq_getElem?_getD,List.getElem?_map,List.getElem?_range hi];show gl (g.getD i Sz.zS).w _=_
  rw[List.getD_eq_getElem?_getD,List.getElem?_eq_getElem hi,Option.getD_some,hn]
 have hvl:v.length=g.length:=by rw[hv];simp
 have hmem:∀a∈v,∃i,i<g.length/\a=v.getD i []:=λa ha=>by
  obtain⟨i,hi,rfl⟩:=List.getElem_of_mem ha;exact⟨i,by omega,by rw[List.getD_eq_getElem?_getD,List.getElem?_eq_getElem hi];rfl⟩
 have hWv:Wv g v:=⟨hvl,λi hi=>by
  obtain⟨n,h1,h2,h3,h4⟩:=hat i hi;rw[h2,lQ,h1],λa ha=>by
  obtain⟨i,hi,rfl⟩:=hmem a ha;obtain⟨n,h1,h2,h3,h4⟩:=hat i hi;rw[h2,lQ];omega⟩
 have hz:Ok zG:=⟨zG_wf,by decide⟩
 obtain⟨_,n,h1,h2,h3,h4⟩:=rC (aM v e) ⟨zG,0⟩ _ rfl hz (yN DI (u:=u) hWv (λa ha=>by
  obtain⟨i,hi,rfl⟩:=hmem a ha;obtain⟨n,h1,h2,h3,h4⟩:=hat i hi;rw[h2];exact DJ n _) (λa ha=>by
  obtain⟨i,hi,rfl⟩:=hmem a ha;obtain⟨n,h1,h2,h3,h4⟩:=hat i hi;rw[h2,lQ];exact h3.2) (by
  refine List.ext_getElem (by rw[List.length_map,hvl,h.len]) λi i1 i2=>?_;have hi:i<g.length:=by rw[<-h.len];exact i1
  obtain⟨n,h1,h2,h3,h4⟩:=hat i hi;rw[List.getElem_map];have e1:v.getD i []=v[i]'(by omega):=by rw[List.getD_eq_getElem?_getD,List.getElem?_eq_getElem (by omega)];rfl
  have e2:u.getD i 0=u[i]:=by rw[List.getD_eq_getElem?_getD,List.getElem?_eq_getElem i1];rfl
  rw[<-e1,h2,yK h4,e2]) hD hf hd)
 have h5:=dG (((aM v e).run ⟨zG,0⟩).1.map λa=>decide (a=1));rw[h4,List.length_map] at h5;have e3:e.w.toNat=((aM v e).run ⟨zG,0⟩).1.length:=by omega
 rw[e3];exact h5
theorem Bh{d:Sz.Flat}{u:List Nat}(hds:d.sigs.length<=1000000)(hu:Uv d.sigs u)(h8:∀s∈d.sigs,s.w<=8)(t:Tok){D:Sz.E->Prop}(hD:∀e,D e->(0<=e.v/\e.v<18446744073709551616)/\e.w<=8/\e.l.length<=1000000/\∀x∈e.l,D x){e:Sz.E}(hf:Sz.Fit d.sigs e):D e->DR d u t e:=by
 refine Sz.E.ind (P:=λe=>Sz.Fit d.sigs e->D e->DR d u t e) (λe ih hf hd=>?_) e hf;obtain⟨d1,d2,d3,d4⟩:=hD e hd;exact xt hds hu t hf d1 d3 (λx hx=>EF hu h8 (λe he=>⟨λ_=>(hD e he).1.1,(hD e he).2.1,(hD e he).2.2.2⟩) (lO hf x hx) (d4 x hx)) λx hx=>ih x hx (lO hf x hx) (d4 x hx)
theorem xI{d:Sz.Flat}{u:List Nat}(t:Tok)(σ:aA)(hd:S.Sm d)(hw:Sz.WfD d)(hc:Sz.checkD d=0)(hu:Uv d.sigs u):C_ 48 [Sz.encD d,DQ u t] σ (.int .i64 0) σ:=by
 have z1:=λτ=>S.rf_Check d τ hd hw;rw[hc] at z1;have hds:=hd.1;have hul:(u.length:Int)=d.sigs.length:=by have:=hu.len;omega
 have bl:((u.length:Int) != (d.sigs.length:Int))=false:=by rw[hul];simp
 have hat:∀i,(h:i<u.length)->∃s:Sz.Sg,(d.sigs.map Sz.encS)[i]?=some (Sz.encS s)/\(u.map λx:Nat=>AV.int .u64 x)[i]?=some (.int .u64 (u[i]:Nat))/\¬(maskN s.w:Int)<(u[i]:Nat):=λi h=>by
  have hk:i<d.sigs.length:=by omega
  refine⟨d.sigs[i],by simp[hk],by simp[h],?_⟩;have h1:=hu.lt i hk;have h2:=gE (hu.wid _ (List.getElem_mem hk));rw[List.getD_eq_getElem?_getD,List.getElem?_eq_getElem h,Option.getD_some] at h1;have:=Nat.two_pow_pos d.sigs[i].w.toNat
  omega
 clear hc hu hd hw;refine gO [2] Tryz.func48 (by kernel_rfl) (by conv=>lhs;reduce;dsimp only[iA]) rfl ?_;repeat' (first|simp(maxDischargeDepth:=9) -implicitDefEqProofs -dsimp only[go_sem,seval,List.length_map, *]|with_reducible refine kc1 (z1 _) ?_)
 refine loop_rule (λi:Nat=>[(5,some (.int .i64 i)),(1,some (DQ u t)),(2,some (.cptr (Sz.dL d)))]) (λ_=>σ) (λi=>i<=u.length) (λi=>u.length-i) 0 ?_ ?_
 ·clear hat;(repeat' (first|simp(maxDischargeDepth:=9) -implicitDefEqProofs -dsimp only[go_sem,seval, *]|omega))
 intro i hi;by_cases hlt:i<u.length
 ·obtain⟨s,s1,s2,s3⟩:=hat i hlt;have z2:=λτ=>iZ s.w τ;generalize hM:maskN s.w=M at z2 s3;generalize hx:u[i]=x at s2 s3;have hlt':(i:Int)<(u.length:Int):=by omega
  clear hat hx hM z1 bl;repeat' (first|simp(maxDischargeDepth:=9) -implicitDefEqProofs -dsimp only[go_sem,seval,List.length_map,gt_iff_lt, *]|simp(disch:=omega) only[ah,aj,ao,aw,ar,ag,au,aq]|(with_reducible (first|apply Za|apply Zb|apply Zc|apply Zd|apply Ze|apply Zf|apply Zg|apply Zh|apply Zi|apply Zj|apply Zk|apply Zl|apply Zm|apply Zn|apply Zo|apply Zp|apply Zq|apply Zr|apply Zs)<;>intro hq)|with_reducible refine id_one0 (λtS hS=>z2 _) trivial ?_|with_reducible refine lnx (i+1) ?_|with_reducible refine And.intro ?_ ?_|omega)
 ·have:i=u.length:=by omega
  subst this;clear hat;repeat' (first|simp(maxDischargeDepth:=9) -implicitDefEqProofs -dsimp only[go_sem,seval,List.length_map, *]|(with_reducible (first|apply Za|apply Zb|apply Zc|apply Zd|apply Ze|apply Zf|apply Zg|apply Zh|apply Zi|apply Zj|apply Zk|apply Zl|apply Zm|apply Zn|apply Zo|apply Zp|apply Zq|apply Zr|apply Zs)<;>intro hq)|with_reducible refine Zu ?_ ?_|refine fin_eq ?_|omega)
theorem EG{d:Sz.Flat}{u:List Nat}{e:Sz.E}(t:Tok)(σ:aA)(hd:S.Sm d)(hw:Sz.WfD d)(hc:Sz.checkD d=0)(he:Sz.checkE d e=0)(hn:Sz.nodes e<=16777216)(hwe:Sz.WfE e)(hu:Uv d.sigs u)(hv:DR d u t e):
  C_ 18 [Sz.encD d,DQ u t,Sz.encE e] σ (.tup [.int .u64 (worth u e), .int .i64 0]) σ:=by
 have z1:=λτ=>xI t τ hd hw hc hu;have z2:=λτ=>S.rf_CheckE d e τ (by have:=hd.1;omega) hn hwe;rw[he] at z2;have z3:=λτ=>hv τ;have h1:=Sz.encEs_eq e;generalize hZ:worth u e=Z at z3;clear hd hw hc he hn hwe hu hv hZ;refine gO [3,5] Tryz.func18 (by kernel_rfl) (by conv=>lhs;reduce;dsimp only[iA]) rfl ?_;repeat' (first|simp(maxDischargeDepth:=9) -implicitDefEqProofs -dsimp only[go_sem,seval, *]|with_reducible refine kc1 (z1 _) ?_|with_reducible refine kc1 (ACalls.flA (z2 _) ?_) ?_|with_reducible refine kc1 (ACalls.flA (z3 _) ?_) ?_|refine fin_eq ?_)
def DE(x:Sz.E):Prop:=vm x<=8/\Sz.WfE x/\Sz.nodes x<=1000000
theorem vA(e:Sz.E)(h:DE e):(0<=e.v/\e.v<18446744073709551616)/\e.w<=8/\e.l.length<=1000000/\∀x∈e.l,DE x:=by
 obtain⟨h1,h2,h3⟩:=h;rw[Eu] at h1;obtain⟨k1,k2⟩:=yX (e.l.map vm) e.w;obtain⟨w1,w2⟩:=(Sz.WfE_iff e).1 h2;have hl:=Sz.len_nodes e;refine⟨⟨w1.2.2.1.1,by have:=w1.2.2.1.2;omega⟩,by omega,by omega,λx hx=>⟨?_,w2 x hx,by have:=Sz.part_nodes hx;omega⟩⟩;have:=k2 (vm x) (List.mem_map.2 ⟨x,hx,rfl⟩)
 omega
theorem Bi{d:Sz.Flat}{g:Aig}{v:List (List Int)}{e:Sz.E}(inp st:List Bool)(hs:Wf g)(h:(eP d g v e).2.2=0)(hv:∀a∈v,a.length<=8)(hn:Sz.nodes e<=30)(hD:DE e)(ha:g.ands.length<=80)(hi:(inp.length:Int)=g.ins)(ht:st.length=g.flops.length):
  Ok (eP d g v e).1/\Fil.Ext g (eP d g v e).1/\(eP d g v e).1.ands.length<=20000/\df (eP d g v e).1 (eP d g v e).2.1=true/\(∀a∈v,df (eP d g v e).1 a=true)/\(Sz.checkD d=0/\Sz.checkE d e=0)/\(Wv d.sigs v/\Sz.Fit d.sigs e)/\
   ((eP d g v e).2.1.length:Int)=e.w/\aT ((eP d g v e).2.1.map λz=>(eP d g v e).1.value z inp st)=worth (v.map λa=>aT (a.map λz=>(eP d g v e).1.value z inp st)) e:=by
 obtain⟨h0,hm,he,hr⟩:=Hw h;have hr:eP d g v e=(((aM v e).run ⟨g,0⟩).2.g,((aM v e).run ⟨g,0⟩).1,0):=hr;rw[hr];obtain⟨k1,k2⟩:=wO (aM v e) ⟨g,0⟩ hs ⟨hs,h0⟩ he;unfold jf at hm;simp only[Bool.and_eq_true,decide_eq_true_eq] at hm;obtain⟨⟨m1,m2⟩,m3⟩:=hm;obtain⟨w1,w2⟩:=vl (dn hs h0) m3;have hf:=Sz.checkE_fit m2
 have hwd:∀a∈v,df g a=true:=λa ha=>by
  unfold kS at m3;simp only[Bool.and_eq_true,decide_eq_true_eq,List.all_eq_true,List.mem_range] at m3;obtain⟨i,hi,rfl⟩:=List.getElem_of_mem ha;have q:=m3.2 i hi;unfold Bb at q;simp only[Bool.and_eq_true] at q;rw[List.getD_eq_getElem?_getD,List.getElem?_eq_getElem hi] at q;exact q.1
 have hWs:∀a∈v,Ws (λz=>((aM v e).run ⟨g,0⟩).2.g.lit z=true) a:=λa ha x hx=>by
  have q:=hwd a ha;unfold df at q;simp only[Bool.and_eq_true,List.all_eq_true] at q;exact k2.lit (q.2 x hx)
 obtain⟨n,hq,hle⟩:=x9 (inp:=inp) (st:=st) (aM v e) ⟨g,0⟩ _ hs hi ht he (.refl _)
  (yN (Hv k1 inp st) w1 hWs hv rfl (λe h=>⟨λ_=>(vA e h).1.1,(vA e h).2.1,(vA e h).2.2.2⟩) hf hD)
 obtain⟨q1,q2,q3,q4⟩:=hq;have hle:((aM v e).run ⟨g,0⟩).2.g.ands.length<=g.ands.length+3*n:=hle;have hw:=hf.wid;have hw8:=(vA e hD).2.1;refine⟨k1,k2,by show((aM v e).run ⟨g,0⟩).2.g.ands.length<=_;omega,?_,λa ha=>Dm k2 (hwd a ha),⟨m1,m2⟩,⟨w1,hf⟩,q3,q4⟩;unfold df;simp only[Bool.and_eq_true,decide_eq_true_eq,List.all_eq_true];exact⟨⟨by omega,by omega⟩,q2⟩
theorem Mx{g:List Sz.Sg}{v:List (List Int)}(V:Int->Bool)(h:Wv g v)(h8:∀a∈v,a.length<=8):Uv g (v.map λa=>aT (a.map V))/\∀s∈g,s.w<=8:=by
 have hat:∀i,(hi:i<g.length)->∃a∈v,v.getD i []=a/\(a.length:Int)=g[i].w:=λi hi=>by
  have hl:=h.len;have hw:=h.wid i hi;refine⟨v[i]'(by omega),List.getElem_mem _,by rw[List.getD_eq_getElem?_getD,List.getElem?_eq_getElem (by omega)];rfl,?_⟩;rw[List.getD_eq_getElem?_getD,List.getElem?_eq_getElem (by omega)] at hw;exact hw
 refine⟨⟨by rw[List.length_map,h.len],λs hs=>?_,λi hi=>?_⟩,λs hs=>?_⟩
 ·obtain⟨i,hi,rfl⟩:=List.getElem_of_mem hs;obtain⟨a,a1,a2,a3⟩:=hat i hi;have:=h.one a a1
  omega
 ·obtain⟨a,a1,a2,a3⟩:=hat i hi;have hl:=h.len;have q:=dG (a.map V);rw[List.length_map] at q;rw[List.getD_eq_getElem?_getD,List.getElem?_map,List.getElem?_eq_getElem (show i<v.length by omega)];have e1:v[i]'(by omega)=a:=by rw[<-a2,List.getD_eq_getElem?_getD,List.getElem?_eq_getElem (by omega)];rfl
  rw[e1];have e2:g[i].w.toNat=a.length:=by omega
  rw[e2];exact q
 ·obtain⟨i,hi,rfl⟩:=List.getElem_of_mem hs;obtain⟨a,a1,a2,a3⟩:=hat i hi;have:=h8 a a1
  omega
theorem qp{g:Aig}{a:List Int}{inp st:List Bool}(ho:Ok g)(hw:df g a=true)(hi:(inp.length:Int)=g.ins)(ht:st.length=g.flops.length):a.length<=64/\1<=a.length/\∀l∈a,0<=l/\(l/2).toNat<(Aig.vals (false::(inp++st)) g.ands).length/\l<=9223372036854775807:=by
 unfold df at hw;simp only[Bool.and_eq_true,decide_eq_true_eq,List.all_eq_true] at hw;refine⟨hw.1.2,hw.1.1,λl hl=>?_⟩;have h:=hw.2 l hl;have hcb:=ho.fine.cnt;unfold Aig.lit Aig.litN at h;simp only[Bool.and_eq_true,decide_eq_true_eq] at h;rw[fS];unfold Aig.count at h hcb;simp only[List.length_cons,List.length_append];omega
theorem EH(d:Sz.Flat)(g:Aig)(v:List (List Int))(e:Sz.E)(inp st:List Bool)(σ:aA)(hd:S.Sm d)(hw:Sz.WfD d)(he:Sz.nodes e<=16777216)(hwe:Sz.WfE e)(hs:sZ g=true->Wf g)(hv:v.length<=1000000000000):
  C_ 4 [Sz.encD d,aQ g,kQ v .no,Sz.encE e, .slice (inp.map cP) .no, .slice (st.map cP) .no] σ (.bool true) σ:=by
 have z1:∀τ,C_ 8 [aQ g, .slice [] .nil] τ (.bool (sZ g)) τ:=λτ=>KR g [] .nil τ (by simp);have z2:=λτ=>Ew d e τ hd he;have z3:=λτ=>Ex v .no τ hv;cases hg:sZ g with
 |false=>
  rw[hg] at z1;clear hg hs hd hw he hwe hv z2 z3;refine cI mixed Tryz.func4 b4 n4 rfl q4 (by simp) ?_;unfold c4 r4;repeat' (first|simp(maxDischargeDepth:=9) -implicitDefEqProofs -dsimp only[go_sem,seval, *]|with_reducible refine kc1 (gG _) ?_|with_reducible refine kc1 (z1 _) ?_|refine fin_eq ?_)
 |true=>
 rw[hg] at z1;have hs:=hs hg;cases hE:vp d e with
 |false=>
  rw[hE] at z2;clear hg hs hd hw he hwe hv hE z3;refine cI mixed Tryz.func4 b4 n4 rfl q4 (by simp) ?_;unfold c4 r4;repeat' (first|simp(maxDischargeDepth:=9) -implicitDefEqProofs -dsimp only[go_sem,seval, *]|with_reducible refine kc1 (gG _) ?_|with_reducible refine kc1 (z1 _) ?_|with_reducible refine kc1 (z2 _) ?_|refine fin_eq ?_)
 |true=>
 rw[hE] at z2;cases hV:vq v with
 |false=>
  rw[hV] at z3;clear hg hs hd hw he hwe hv hE hV;refine cI mixed Tryz.func4 b4 n4 rfl q4 (by simp) ?_;unfold c4 r4;repeat' (first|simp(maxDischargeDepth:=9) -implicitDefEqProofs -dsimp only[go_sem,seval, *]|with_reducible refine kc1 (gG _) ?_|with_reducible refine kc1 (z1 _) ?_|with_reducible refine kc1 (z2 _) ?_|with_reducible refine kc1 (z3 _) ?_|refine fin_eq ?_)
 |true=>
 rw[hV] at z3;unfold vp at hE;simp only[Bool.and_eq_true,decide_eq_true_eq] at hE;unfold vq at hV;simp only[Bool.and_eq_true,decide_eq_true_eq,List.all_eq_true] at hV
 have hvl:∀a∈v,a.length<=8:=λa ha=>by
  have:=hV.1 a (by rw[List.take_of_length_le (by omega)];exact ha)
  omega
 unfold sZ at hg;simp only[Bool.and_eq_true,decide_eq_true_eq] at hg;obtain⟨⟨⟨g1,g2⟩,g3⟩,g4⟩:=hg;by_cases hi:(inp.length:Int)=g.ins
 case neg=>
  have hib:((inp.length:Int) != g.ins)=true:=by simpa using hi
  clear hs hd hw he hwe hv hE hV hvl g1 g2 g3 g4 hi;refine cI mixed Tryz.func4 b4 n4 rfl q4 (by simp) ?_;unfold c4 r4;repeat' (first|simp(maxDischargeDepth:=9) -implicitDefEqProofs -dsimp only[go_sem,seval,List.length_map, *]|with_reducible refine kc1 (gG _) ?_|with_reducible refine kc1 (z1 _) ?_|with_reducible refine kc1 (z2 _) ?_|with_reducible refine kc1 (z3 _) ?_|refine fin_eq ?_)
 by_cases ht:st.length=g.flops.length
 case neg=>
  have hib:((inp.length:Int) != g.ins)=false:=by simpa using hi
  have htb:((st.length:Int) != (g.flops.length:Int))=true:=by rw[bne_iff_ne];omega
  clear hs hd hw he hwe hv hE hV hvl g1 g2 g3 g4 hi ht;refine cI mixed Tryz.func4 b4 n4 rfl q4 (by simp) ?_;unfold c4 r4;repeat' (first|simp(maxDischargeDepth:=9) -implicitDefEqProofs -dsimp only[go_sem,seval,List.length_map, *]|with_reducible refine kc1 (gG _) ?_|with_reducible refine kc1 (z1 _) ?_|with_reducible refine kc1 (z2 _) ?_|with_reducible refine kc1 (z3 _) ?_|refine fin_eq ?_)
 have hib:((inp.length:Int) != g.ins)=false:=by simpa using hi
 have htb:((st.length:Int) != (g.flops.length:Int))=false:=by rw[bne_eq_false_iff_eq];omega
 have z4:=λτ=>Ia d g v .no e τ hs hd hw (by omega) hwe (by omega) λa ha=>Nat.le_trans (hvl a ha) (by decide);have hl:=Bi (d:=d) (g:=g) (v:=v) (e:=e) inp st hs;obtain⟨⟨h,l,f⟩,hX⟩:∃Z,eP d g v e=Z:=⟨_,rfl⟩;rw[hX] at z4 hl;simp only at z4 hl;by_cases hf0:f=0
 case neg=>
  have hf':(f != 0)=true:=by simpa using hf0
  clear hs hd hw he hwe hv hE hV hvl g1 g2 g3 g4 hi ht hl hX hf0;refine cI mixed Tryz.func4 b4 n4 rfl q4 (by simp) ?_;unfold c4 r4;repeat' (first|simp(maxDischargeDepth:=9) -implicitDefEqProofs -dsimp only[go_sem,seval,List.length_map, *]|(with_reducible refine Zt λoF hoF hnF hnF'=>?_;try simp only[aa,ne_eq,not_and] at hoF)|with_reducible refine kc1 (gG _) ?_|with_reducible refine kc1 (z1 _) ?_|with_reducible refine kc1 (z2 _) ?_|with_reducible refine kc1 (z3 _) ?_|with_reducible refine kc1 (z4 _) ?_|refine fin_eq ?_)
 subst hf0;have hDE:DE e:=⟨by omega,hwe,by omega⟩;obtain⟨k1,k2,k3,k4,k5,⟨k6,k7⟩,⟨k8,k9⟩,k10,k11⟩:=hl rfl hvl (by omega) hDE (by omega) hi ht;have hih:(inp.length:Int)=h.ins:=by rw[k2.ins];exact hi
 have hth:st.length=h.flops.length:=by rw[k2.flops];exact ht
 have z5:=λτ=>Ap h inp st τ k1.wf
 have hN:h.Nodes inp st=(Aig.vals (false::(inp++st)) h.ands,0):=by
  unfold Aig.Nodes;rw[if_neg (by have:=k1.chk;omega),if_neg (by omega)]
 rw[hN] at z5;simp only at z5;have z6:=λτ=>vz g h l .no τ k2 k1 k3 k4;have wv:=λa ha=>qp (inp:=inp) (st:=st) k1 (k5 a ha) hih hth;obtain⟨wl1,wl2,wl3⟩:=qp (inp:=inp) (st:=st) k1 k4 hih hth
 have hnl:(Aig.vals (false::(inp++st)) h.ands).length<=1000000:=by
  rw[fS];simp only[List.length_cons,List.length_append];omega
 unfold Aig.value at k11;obtain⟨hU,hU8⟩:=Mx (λz=>Aig.val (Aig.vals (false::(inp++st)) h.ands) z) k8 hvl;generalize hNe:Aig.vals (false::(inp++st)) h.ands=N at z5 wv wl3 hnl k11 hU;have z7:=λa ha τ=>r6 N a .no τ hnl (wv a ha).1 (wv a ha).2.2;have z8:=λτ=>r6 N l .no τ hnl wl1 wl3;have hev:(λz=>Aig.val N z)=Aig.val N:=rfl;rw[hev] at k11 hU;generalize hu:(v.map λa=>aT (a.map (Aig.val N)))=u at k11 hU;have hds:d.sigs.length<=1000000:=by omega
 have hval:=λt=>Bh hds hU hU8 t vA k9 hDE;have z9:=λt τ=>EG t τ hd hw k6 k7 (by omega) hwe hU (hval t);rw[<-k11] at z9;have hwl:((l.length:Int)==e.w)=true:=by rw[k10];simp
 generalize hL1:aT (l.map (Aig.val N))=L1 at z8 z9;have hv12:v.length<=12:=by omega
 clear hs hd hw he hwe hv hE hV hvl g1 g2 g3 g4 hi ht hl hX hDE k1 k2 k3 k4 k5 k6 k7 k8 k9 k10 k11 hih hth hN wv wl1 wl2 wl3 hnl hU hU8 hNe hev hds hval hL1;refine cI mixed Tryz.func4 b4 n4 rfl q4 (by simp) ?_;unfold c4 r4;repeat' (first|simp(maxDischargeDepth:=9) -implicitDefEqProofs -dsimp only[go_sem,seval,List.length_map, *]|(with_reducible refine Zt λoF hoF hnF hnF'=>?_;try simp only[aa,ne_eq,not_and] at hoF)|with_reducible refine kc1 (gG _) ?_|with_reducible refine kc1 (z1 _) ?_|with_reducible refine kc1 (z2 _) ?_|with_reducible refine kc1 (z3 _) ?_|with_reducible refine kc1 (z4 _) ?_|with_reducible refine kc1 (z5 _) ?_|with_reducible refine kc1 (z6 _) ?_)
 rename_i o1 ho1 hn1 hn1'
 obtain⟨o2,ho2⟩:∃x,x=oF:=⟨_,rfl⟩;subst ho2;clear z1 z2 z3 z4 z5 z6 hib htb hs;have hul:u.length=v.length:=by rw[<-hu,List.length_map]
 have hat:∀i,(hi:i<v.length)->u[i]?=some (aT ((v[i]).map (Aig.val N))):=λi hi=>by
  rw[<-hu,List.getElem?_map,List.getElem?_eq_getElem hi];rfl
 clear hu
 refine loop_rule (λi:Nat=>[(20,some (.int .i64 i)),(2,some (kQ v .no)),(19,some (.slice ((u.take i).map λx:Nat=>AV.int .u64 x) (.own o2))),(17,some (.slice (N.map cP) .no)),(6,some (.cptr (Sz.dL d))),(9,some (.cptr (Sz.eL e))),(13,some (.bool true)),(15,some (aD l .no))])
  (λi=>aH (aH σ o1 (.cells (gC h))) o2 (.grow 1 i)) (λi=>i<=v.length) (λi=>v.length-i) 0 ?_ ?_
 ·clear z7 z8 z9 hat hul;(repeat' (first|simp(maxDischargeDepth:=9) -implicitDefEqProofs -dsimp only[go_sem,seval,List.take_zero,List.map_nil, *]|omega))
 intro i hi;by_cases hlt:i<v.length
 ·have hgx:(v.map λl=>aD l .no)[i]?=some (aD v[i] .no):=by simp[hlt]
  have q1:=λτ=>z7 v[i] (List.getElem_mem hlt) τ
  have htk:(u.take (i+1)).map (λx:Nat=>AV.int .u64 x)=(u.take i).map (λx:Nat=>AV.int .u64 x)++[.int .u64 (aT ((v[i]).map (Aig.val N)):Nat)]:=by
   rw[List.take_add_one,hat i hlt,List.map_append];rfl
  have hlk:(u.take i).length=i:=by rw[List.length_take];omega
  have hsz:iy 1 ((u.take i).map λx:Nat=>AV.int .u64 x)=True:=dJ _ _ _ λ_=>rfl;have hbd:(i+1)*8<=35184372088832:=by omega
  obtain⟨L,hL⟩:∃L,(u.take i).map (λx:Nat=>AV.int .u64 x)=L:=⟨_,rfl⟩;have hLl:L.length=i:=by rw[<-hL,List.length_map,hlk]
  rw[hL] at htk hsz;rw[hL];generalize hx:v[i]=x at hgx q1 htk;generalize hX:aT (x.map (Aig.val N))=X at q1 htk;have hlt':(i:Int)<(v.length:Int):=by omega
  clear z7 z8 z9 hat hul hL hlk hX hx hwl;repeat' (first|simp(maxDischargeDepth:=9) -implicitDefEqProofs -dsimp only[go_sem,seval,List.length_map,List.length_append, *]|simp(disch:=omega) only[ah,aj,ao,aw,ar,ag,au,aq]|with_reducible refine kc1 (q1 _) ?_|with_reducible refine lnx (i+1) ?_|with_reducible refine And.intro ?_ ?_|omega)
 ·have hie:i=v.length:=by omega
  subst hie;rw[<-hul,List.take_length];clear hat z7 hlt;repeat' (first|simp(maxDischargeDepth:=9) -implicitDefEqProofs -dsimp only[go_sem,seval,List.length_map, *]|simp(disch:=omega) only[ah,aj,ao,aw,ar,ag,au,aq]|(with_reducible (first|apply Za|apply Zb|apply Zc|apply Zd|apply Ze|apply Zf|apply Zg|apply Zh|apply Zi|apply Zj|apply Zk|apply Zl|apply Zm|apply Zn|apply Zo|apply Zp|apply Zq|apply Zr|apply Zs)<;>intro hq)|with_reducible refine Zv ?_ ?_|with_reducible refine Zu ?_ ?_|with_reducible refine kc1 (z9 _ _) ?_|with_reducible refine kc1 (ACalls.flA (z8 _) ?_) ?_|with_reducible refine id_one0 (λtS hS=>z8 _) trivial ?_|refine fin_eq ?_|with_reducible refine And.intro ?_ ?_|omega)
end Go.Proofs.YtbbihmmobfmadaaGreat
