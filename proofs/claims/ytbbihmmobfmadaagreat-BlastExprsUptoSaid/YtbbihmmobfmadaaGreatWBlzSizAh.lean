/- sized: contracts: the program's designs, sized. -/
import Derived.Test.YtbbihmmobfmadaaGreatWSzMain
import Derived.Test.YtbbihmmobfmadaaGreatWSzOnce
set_option linter.unusedSimpArgs false
set_option linter.unusedVariables false
set_option maxHeartbeats 8000000
set_option maxRecDepth 50000
namespace Fil.Sz
open Abs
def gn(g:List Sg)(clk:Bool)(t:T):T×Int:=
 if (gI g clk t 0 0).2≠0 then (zT,(gI g clk t 0 0).2)
 else (.mk t.op t.sig t.hi t.lo (gI g clk t 0 0).1 (lY [] (fM g clk t.l (eQ t 0 (gI g clk t 0 0).1) 0)).1,(fM g clk t.l (eQ t 0 (gI g clk t 0 0).1) 0).2)
theorem vd(g:List Sg)(clk:Bool)(t:T):(gn g clk t).2=(gJ g clk t 0 0).2:=by
 unfold gn;rw[io];split
 ·rename_i h
  simp only
  rw[lsT_err _ _ _ _ _ h]
 ·rename_i h
  have h:(gI g clk t 0 0).2=0:=by omega
  simp only[h]
theorem H1{g:List Sg}{clk:Bool}{t:T}(h:(gn g clk t).2=0):gn g clk t=gJ g clk t 0 0:=by
 have h2:=vd g clk t;rw[h] at h2
 have h3:(gI g clk t 0 0).2=0:=Classical.byContradiction λq=>by
  unfold gn at h;rw[if_pos q] at h;exact q h
 rw[io] at h2|-;simp only at h2;unfold gn at h|-;rw[if_neg (by omega)] at h|-;simp only at h;rw[h3] at h2|-;unfold lY;rw[if_pos h]
theorem tB{g:List Sg}{clk:Bool}{t:T}{x:E}{W lab:Int}(he:t.e=[x])(hW:dz t lab=W)(hr:c8 g clk t 0=0):gI g clk t lab 0=([(size x W).1],(size x W).2):=by
 unfold gI;rw[he,hW,hr];simp[bq,bL]
theorem Ek{g:List Sg}{clk:Bool}{t:T}{lab:Int}(he:t.e=[])(ho:¬t.op=1):gI g clk t lab 0=([],0):=by
 unfold gI;rw[he];simp[bq,c8,ho]
theorem El{g:List Sg}{clk:Bool}{t:T}{lab:Int}(hr:c8 g clk t 0≠0):(gI g clk t lab 0).2=c8 g clk t 0:=by
 unfold gI;exact gT _ (n9 _ _) _ hr
theorem Em{g:List Sg}{clk:Bool}{t:T}{f:Int}(h:(gI g clk t 0 0).2=f)(hf:f≠0):gn g clk t=(zT,f):=by
 unfold gn;rw[h,if_pos hf]
theorem H2{g:List Sg}{clk:Bool}{t:T}{es:List E}(h:gI g clk t 0 0=(es,0)):gn g clk t=(.mk t.op t.sig t.hi t.lo es (lY [] (fM g clk t.l (eQ t 0 es) 0)).1,(fM g clk t.l (eQ t 0 es) 0).2):=by
 unfold gn;rw[h];simp
theorem En{g:List Sg}{clk:Bool}{l:List T}{lab:Int}{P:Nat->List T×Int}(hP:∀i,P i=bq ((l.map λx=>gJ g clk x lab).take i) 0):
  P 0=([],0)/\(∀i,i<=l.length->(P i).1.length=i)/\P l.length=fM g clk l lab 0/\
  (∀i,(h:i<l.length)->(P i).2=0->(gJ g clk l[i] lab 0).2=0->P (i+1)=((P i).1++[(gJ g clk l[i] lab 0).1],0))/\
  (∀i,(h:i<l.length)->(P i).2=0->(gJ g clk l[i] lab 0).2≠0->(fM g clk l lab 0).2=(gJ g clk l[i] lab 0).2):=by
 have step:∀i,(h:i<l.length)->(P i).2=0->P (i+1)=((P i).1++[(gJ g clk l[i] lab 0).1],(gJ g clk l[i] lab 0).2):=λi h h0=>by
  have h1:=hP (i+1);rw[fC (by simpa using h),List.getElem_map,<-hP i] at h1;rw[h1,h0]
 refine⟨by rw[hP];rfl,λi hi=>?_,?_,λi h h0 h1=>by rw[step i h h0,h1],λi h h0 h1=>?_⟩
 ·rw[hP,gH,List.length_take,List.length_map];omega
 ·rw[hP];unfold fM;congr 1;exact List.take_of_length_le (by simp)
 ·have h2:=step i h h0;rw[hP] at h2;have h3:=nZ (l:=l.map λx=>gJ g clk x lab) (l7 g clk lab l) (i:=i+1) (e:=0) (by rw[h2];exact h1);unfold fM;rw[h3,h2]
theorem oh{α:Type}{z:α}{r:α×Int}(h:r.2=0):lY z r=r:=by unfold lY;rw[if_pos h]
theorem vf{α:Type}{z:α}{r:α×Int}{f:Int}(h:r.2=f)(hf:f≠0):lY z r=(z,f):=by unfold lY;rw[h,if_neg hf]
theorem Ls{l:List E}{w:Int}{P:Nat->List E×Int}(hP:∀i,P i=bq ((l.map λx=>bL x w).take i) 0):
  P 0=([],0)/\(∀i,i<=l.length->(P i).1.length=i)/\P l.length=bq (l.map λx=>bL x w) 0/\
  (∀i,(h:i<l.length)->(P i).2=0->(size l[i] w).2=0->P (i+1)=((P i).1++[(size l[i] w).1],0))/\
  (∀i,(h:i<l.length)->(P i).2=0->(size l[i] w).2≠0->(bq (l.map λx=>bL x w) 0).2=(size l[i] w).2):=by
 have step:∀i,(h:i<l.length)->(P i).2=0->P (i+1)=((P i).1++[(size l[i] w).1],(size l[i] w).2):=λi h h0=>by
  have h1:=hP (i+1);rw[fC (by simpa using h),List.getElem_map,<-hP i] at h1;rw[h1,h0,kR]
 refine⟨by rw[hP];rfl,λi hi=>?_,?_,λi h h0 h1=>by rw[step i h h0,h1],λi h h0 h1=>?_⟩
 ·rw[hP,gH,List.length_take,List.length_map];omega
 ·rw[hP];congr 1;exact List.take_of_length_le (by simp)
 ·have h2:=step i h h0;rw[hP] at h2;have h3:=nZ (l:=l.map λx=>bL x w) (n9 w l) (i:=i+1) (e:=0) (by rw[h2];exact h1);rw[h3,h2]
theorem H3{g:List Sg}{clk:Bool}{t:T}{w:Int}(ha:fX g t=true):
  ((bq (t.e.map λx=>bL x w) 0).2≠0->(gJ g clk t w 0).2=(bq (t.e.map λx=>bL x w) 0).2)/\
  ((bq (t.e.map λx=>bL x w) 0).2=0->(gJ g clk t w 0).2=(fM g clk t.l 0 0).2/\
   gJ g clk t w 0=(.mk 4 0 0 0 (bq (t.e.map λx=>bL x w) 0).1 (fM g clk t.l 0 0).1,(fM g clk t.l 0 0).2)):=by
 rw[gZ] at ha;simp only[Bool.and_eq_true,decide_eq_true_eq,List.all_eq_true] at ha;obtain⟨⟨⟨o1,o2,o3,o4⟩,_⟩,h2⟩:=ha
 have he:gI g clk t w 0=bq (t.e.map λx=>bL x w) 0:=by
  unfold gI dz c8;rw[if_neg (by omega),if_neg (by omega),if_neg (by omega),if_neg (by omega)]
 have hl:∀es,eQ t w es=w:=λes=>by unfold eQ;rw[if_neg (by omega)]
 have hls:∀e,fM g clk t.l w e=fM g clk t.l 0 e:=λe=>by
  unfold fM;congr 1
  exact List.map_congr_left λx hx=>funext λe=>H0 g clk x (h2 x hx) _ _ e
 rw[io,he,hl,hls,o1,o2,o3,o4];refine⟨λh=>lsT_err _ _ _ _ _ h,λh=>?_⟩;rw[h];exact⟨rfl,rfl⟩
theorem qn{α:Type}{z:α}{r:α×Int}:(lY z r).2=r.2:=by unfold lY;split<;>rfl
theorem H4{g:List Sg}{clk:Bool}{t:T}{es:List E}{m:List T}{h L:Int}(h1:gI g clk t 0 0=(es,0))(h2:eQ t 0 es=L)(h3:lY [] (fM g clk t.l L 0)=(m,h)):gn g clk t=(.mk t.op t.sig t.hi t.lo es m,h):=by
 rw[H2 h1,h2];have:=congrArg Prod.snd h3
 rw[qn] at this;rw[this,h3]
theorem Lt{g:List Sg}{t:T}(h:fX g t=true):t.op=4/\t.sig=0/\t.hi=0/\t.lo=0:=by
 rw[gZ] at h;simp only[Bool.and_eq_true,decide_eq_true_eq] at h;exact h.1.1
theorem H5{g:List Sg}{t:T}(h:fX g t=true){x:E}(hx:x∈t.e):shp g x=true:=by
 rw[gZ] at h;simp only[Bool.and_eq_true,List.all_eq_true] at h;exact(h.1.2 x hx).2
theorem Eo{g:List Sg}{t:T}(h:fX g t=true){x:T}(hx:x∈t.l):bi g x=true:=by
 rw[gZ] at h;simp only[Bool.and_eq_true,List.all_eq_true] at h;exact h.2 x hx
theorem A9{g:List Sg}{t:T}(h:bi g t=true):(t.op≠3->∀x∈t.l,bi g x=true)/\(t.op=3->∀x∈t.l,fX g x=true):=by
 rw[i9] at h;split at h
 ·rename_i o
  simp only[Bool.and_eq_true,decide_eq_true_eq] at h;exact⟨λ_ x hx=>by have:=List.length_pos_of_mem hx;omega,λq=>by omega⟩
 simp only[Bool.and_eq_true] at h;obtain⟨_,h⟩:=h;split at h
 ·rename_i o
  simp only[Bool.and_eq_true,List.all_eq_true] at h;exact⟨λ_=>h.2,λq=>by omega⟩
 split at h
 ·rename_i o
  simp only[Bool.and_eq_true,d7,List.all_eq_true] at h;exact⟨λq=>(q o).elim,λ_=>h.2.2⟩
 rename_i o
 split at h
 ·simp only[Bool.and_eq_true,List.all_eq_true] at h;exact⟨λ_=>h.2,λq=>(o q).elim⟩
 ·simp at h
theorem Lu{d:Flat}{P:Nat->List Pr×Int}(hP:∀i,P i=bq ((d.procs.map (Dr d.sigs)).take i) 0):
  P 0=([],0)/\(∀i,i<=d.procs.length->(P i).1.length=i)/\P d.procs.length=fg d/\
  (∀i,(h:i<d.procs.length)->(P i).2=0->(fM d.sigs d.procs[i].clk d.procs[i].l 0 0).2=0->P (i+1)=((P i).1++[⟨d.procs[i].clk,(fM d.sigs d.procs[i].clk d.procs[i].l 0 0).1⟩],0))/\
  (∀i,(h:i<d.procs.length)->(P i).2=0->(fM d.sigs d.procs[i].clk d.procs[i].l 0 0).2≠0->(fg d).2=(fM d.sigs d.procs[i].clk d.procs[i].l 0 0).2):=by
 have step:∀i,(h:i<d.procs.length)->(P i).2=0->P (i+1)=((P i).1++[⟨d.procs[i].clk,(fM d.sigs d.procs[i].clk d.procs[i].l 0 0).1⟩],(fM d.sigs d.procs[i].clk d.procs[i].l 0 0).2):=λi h h0=>by
  have h1:=hP (i+1);rw[fC (by simpa using h),List.getElem_map,<-hP i] at h1;rw[h1,h0];rfl
 refine⟨by rw[hP];rfl,λi hi=>?_,?_,λi h h0 h1=>by rw[step i h h0,h1],λi h h0 h1=>?_⟩
 ·rw[hP,gH,List.length_take,List.length_map];omega
 ·rw[hP];unfold fg;congr 1;exact List.take_of_length_le (by simp)
 ·have h2:=step i h h0;rw[hP] at h2;have h3:=nZ (l:=d.procs.map (Dr d.sigs)) (tA d.sigs d.procs) (i:=i+1) (e:=0) (by rw[h2];exact h1);unfold fg;rw[h3,h2]
theorem Lx{d:Flat}(hp:(fg d).2=0){Q:Nat->List Ck×Int}(hQ:∀i,Q i=bq ((d.chks.map yC).take i) 0):
  Q 0=([],0)/\(∀i,i<=d.chks.length->(Q i).1.length=i)/\Q d.chks.length=fh d/\
  (∀i,(h:i<d.chks.length)->(Q i).2=0->(size d.chks[i].e (-1)).2=0->Q (i+1)=((Q i).1++[⟨d.chks[i].name,(size d.chks[i].e (-1)).1⟩],0))/\
  (∀i,(h:i<d.chks.length)->(Q i).2=0->(size d.chks[i].e (-1)).2≠0->(fh d).2=(size d.chks[i].e (-1)).2):=by
 have step:∀i,(h:i<d.chks.length)->(Q i).2=0->Q (i+1)=((Q i).1++[⟨d.chks[i].name,(size d.chks[i].e (-1)).1⟩],(size d.chks[i].e (-1)).2):=λi h h0=>by
  have h1:=hQ (i+1);rw[fC (by simpa using h),List.getElem_map,<-hQ i] at h1;rw[h1,h0];simp only[yC,kR]
 refine⟨by rw[hQ];rfl,λi hi=>?_,?_,λi h h0 h1=>by rw[step i h h0,h1],λi h h0 h1=>?_⟩
 ·rw[hQ,gH,List.length_take,List.length_map];omega
 ·rw[hQ];unfold fh;rw[hp];congr 1;exact List.take_of_length_le (by simp)
 ·have h2:=step i h h0;rw[hQ] at h2;have h3:=nZ (l:=d.chks.map yC) (l8 d.chks) (i:=i+1) (e:=0) (by rw[h2];exact h1);unfold fh;rw[hp,h3,h2]
theorem H6{d:Flat}(h:(fg d).2≠0):(fh d).2=(fg d).2:=gT _ (l8 _) _ h
theorem vg{d:Flat}(h1:eN d=true)(h2:bH d=true)(h3:ip d=true):bE d=if (fh d).2≠0 then (zD,(fh d).2) else (⟨d.sigs,(fg d).1,(fh d).1⟩,0):=by
 unfold bE;rw[h1,h2,h3];simp
end Fil.Sz
namespace Go.Proofs.YtbbihmmobfmadaaGreat.S
open Abs Fil Fil.Sz
theorem iN:encT zT= .agg [.int .i64 0, .int .i64 0, .int .i64 0, .int .i64 0, .slice [] .no, .slice [] .no]:=je _ _ _ _ _ _
theorem tC(σ:aA)(l:List AV){a b:List AV}(h:xQ σ a b):xQ σ (l++a) (l++b):=by
 refine⟨by rw[List.length_append,List.length_append,h.1],λi h0 h1=>?_⟩;rw[List.getElem_append,List.getElem_append];split
 ·exact .refl _
 ·exact h.2 _ _ _
def cj(g:List Sg)(clk:Bool)(l:List T)(w:Int):List T×Int:=lY [] (fM g clk l w 0)
theorem l9(g:List Sg)(clk:Bool)(l:List T)(hl:l.length<=16777216)
  (ih:∀x∈l,∀τ,C_ 204 [.slice (g.map encS) .no,encT x, .bool clk] τ (.tup [encT (gn g clk x).1, .int .i64 (gn g clk x).2]) τ)(σ:aA):
  C_ 150 [.slice (g.map encS) .no, .slice (l.map encT) .no, .bool clk] σ (.tup [.slice ((cj g clk l 0).1.map encT) .no, .int .i64 (cj g clk l 0).2]) σ:=by
 obtain⟨P,hP⟩:∃P:Nat->List T×Int,∀i,P i=bq ((l.map λx=>gJ g clk x 0).take i) 0:=⟨_,λ_=>rfl⟩;obtain⟨p0,pl,pe,ps,pb⟩:=En hP;have ho:=fun(x:T)=>vd g clk x;have hk:=fun(x:T) (h:(gn g clk x).2=0)=>H1 h;clear hP;have hv0:=oh (z:=([]:List T)) (r:=fM g clk l 0 0);have hvb:=λf=>vf (z:=([]:List T)) (r:=fM g clk l 0 0) (f:=f);unfold cj;generalize hRV:lY ([]:List T) (fM g clk l 0 0)=RV at hv0 hvb|-;rw[<-pe] at hv0;clear hRV pe;refine ACalls.virt (by kernel_rfl) 6 (λoV1 hoV1 hnV1 hnV1'=>?_);(try simp only[aa,ne_eq,not_and] at hoV1);refine gO [] Tryz.func150 (by kernel_rfl) (by conv=>lhs;reduce;dsimp only[iA]) rfl ?_;repeat' simp(maxDischargeDepth:=9) -implicitDefEqProofs -dsimp only[go_sem,seval, *]
 refine loop_rule (λi:Nat=>[(9,some (.int .i64 i)),(1,some (.slice (l.map encT) .no)),(0,some (.slice (g.map encS) .no)),(2,some (.bool clk)),(8,some (.slice ((P i).1.map encT) (.own oV1)))])
  (λi=>aH σ oV1 (.grow 6 i)) (λi=>i<=l.length/\(P i).2=0) (λi=>l.length-i) 0 ?_ ?_
 ·clear ih ps pb pl hv0 hvb ho hk;(repeat' (first|simp(maxDischargeDepth:=9) -implicitDefEqProofs -dsimp only[go_sem,seval,List.map_nil, *]|omega))
 ·rintro i ⟨hi,hok⟩;by_cases hlt:i<l.length
  ·have hx:=bA l[i];have hc:=ih l[i] (List.getElem_mem hlt);have h1:=ho l[i];have h2:=hk l[i];have h3:=ps i hlt hok;have h4:=pb i hlt hok;have h5:=pl i hi;clear ih ps pb pl ho hk p0 hv0;rw[<-h1] at h3 h4;have h3':(gn g clk l[i]).2=0->P (i+1)=((P i).1++[(gn g clk l[i]).1],0):=λh=>by rw[h2 h];exact h3 h
   obtain⟨⟨y,f⟩,hyf⟩:∃R,gn g clk l[i]=R:=⟨_,rfl⟩;rw[hyf] at hc h3' h4;simp only at h3' h4;generalize hX:(P i).1=X at h3' h5|-;clear h1 h2 h3 hyf hX hok;by_cases hf:f=0
   ·subst hf;have h6:=h3' rfl;clear h3' h4 hvb hx;repeat' (first|simp(maxDischargeDepth:=9) -implicitDefEqProofs -dsimp only[go_sem,seval, *]|simp(disch:=omega) only[ah,aj,ao,aw,ar,ag,au,aq]|with_reducible refine Zv ?_ ?_|with_reducible refine Zu ?_ ?_|(with_reducible refine Zt λoF hoF hnF hnF'=>?_;try simp only[aa,ne_eq,not_and] at hoF)|refine kc1 (hc _) ?_|(with_reducible refine lnx (i+1) ?_;repeat' (first|simp(maxDischargeDepth:=9) -implicitDefEqProofs -dsimp only[go_sem,seval,List.map_append,List.map_cons,List.map_nil, *]|with_reducible refine And.intro ?_ ?_))|omega)
   ·have hfb:(f != 0)=true:=by simpa using hf
    have h6:=hvb f (h4 hf) hf;rw[h6];clear h3' h4 hvb h6 hf hx;repeat' (first|simp(maxDischargeDepth:=9) -implicitDefEqProofs -dsimp only[go_sem,seval, *]|simp(disch:=omega) only[ah,aj,ao,aw,ar,ag,au,aq]|with_reducible refine Zu ?_ ?_|(with_reducible refine Zt λoF hoF hnF hnF'=>?_;try simp only[aa,ne_eq,not_and] at hoF)|refine kc1 (hc _) ?_|(refine fin_eq ?_;repeat' simp(maxDischargeDepth:=9) -implicitDefEqProofs -dsimp only[go_sem,seval,List.map_nil, *]))
  ·have ei:i=l.length:=by omega
   subst ei;rw[hv0 hok];obtain⟨X,hX⟩:∃X,(P l.length).1=X:=⟨_,rfl⟩;rw[hX,hok];clear ih ps pb pl ho hk p0 hv0 hvb hX hok;repeat' (first|simp(maxDischargeDepth:=9) -implicitDefEqProofs -dsimp only[go_sem,seval, *]|refine fin_eq ?_)
theorem qI(g:List Sg)(hg:dg g)(clk:Bool)(l:List T)(hn:(l.map nodesT).sum<=16777216)(hw:∀t∈l,kp t)(ha:∀t∈l,fX g t=true)(w:Int)(hw0:0<=w)
  (ih:∀x∈l,∀τ,C_ 150 [.slice (g.map encS) .no, .slice (x.l.map encT) .no, .bool clk] τ (.tup [.slice ((cj g clk x.l 0).1.map encT) .no, .int .i64 (cj g clk x.l 0).2]) τ)(σ:aA):
  C_ 237 [.slice (g.map encS) .no, .slice (l.map encT) .no, .bool clk, .int .i64 w] σ (.tup [.slice ((cj g clk l w).1.map encT) .no, .int .i64 (cj g clk l w).2]) σ:=by
 have l1:=cq bG l;obtain⟨P,hP⟩:∃P:Nat->List T×Int,∀i,P i=bq ((l.map λx=>gJ g clk x w).take i) 0:=⟨_,λ_=>rfl⟩;obtain⟨p0,pl,pe,ps,pb⟩:=En hP;have harm:=fun(x:T) (hx:x∈l)=>H3 (g:=g) (clk:=clk) (w:=w) (ha x hx);have hop:=fun(x:T) (hx:x∈l)=>Lt (ha x hx);have conE:=fun(x:T) (hx:x∈l) (y:E) (hy:y∈x.e) τ=>lW g hg y w τ (H5 (ha x hx) hy) (by have:=bu (f:=nodesT) hx;have:=bC hy;omega) (((dK x).1 (hw x hx)).2.1 y hy) hw0;have lE:=fun(x:T) (hx:x∈l)=>(show x.e.length<=16777216 by have:=bu (f:=nodesT) hx;have:=bS x;omega);clear hP hw ha;have hv0:=oh (z:=([]:List T)) (r:=fM g clk l w 0);have hvb:=λf=>vf (z:=([]:List T)) (r:=fM g clk l w 0) (f:=f);have hrr:cj g clk l w=lY ([]:List T) (fM g clk l w 0):=rfl;rw[hrr];generalize hRV:lY ([]:List T) (fM g clk l w 0)=RV at hv0 hvb|-;rw[<-pe] at hv0;clear hRV hrr pe;refine ACalls.virt (by kernel_rfl) 6 (λoV1 hoV1 hnV1 hnV1'=>?_);(try simp only[aa,ne_eq,not_and] at hoV1);refine gO [16013] Tryz.func237 (by kernel_rfl) (by conv=>lhs;reduce;dsimp only[iA]) rfl ?_;repeat' simp(maxDischargeDepth:=9) -implicitDefEqProofs -dsimp only[go_sem,seval, *]
 refine loop_rule (λi:Nat=>[(11,some (.int .i64 i)),(1,some (.slice (l.map encT) .no)),(3,some (.int .i64 w)),(0,some (.slice (g.map encS) .no)),(2,some (.bool clk)),(10,some (.slice ((P i).1.map encT) (.own oV1)))])
  (λi=>aH σ oV1 (.grow 6 i)) (λi=>i<=l.length/\(P i).2=0) (λi=>l.length-i) 0 ?_ ?_
 ·clear ih ps pb pl hv0 hvb harm hop conE lE;(repeat' (first|simp(maxDischargeDepth:=9) -implicitDefEqProofs -dsimp only[go_sem,seval,List.map_nil, *]|omega))
 ·rintro i ⟨hi,hok⟩;by_cases hlt:i<l.length
  ·have hx:=bA l[i];have hm:=List.getElem_mem hlt;have hc:=ih l[i] hm;obtain⟨a1,a2⟩:=harm l[i] hm;obtain⟨o1,o2,o3,o4⟩:=hop l[i] hm;have cE:=conE l[i] hm;have le:=lE l[i] hm;have h3:=ps i hlt hok;have h4:=pb i hlt hok;have h5:=pl i hi;obtain⟨Q,hQ⟩:∃Q:Nat->List E×Int,∀k,Q k=bq ((l[i].e.map λx=>bL x w).take k) 0:=⟨_,λ_=>rfl⟩;obtain⟨q0,ql,qe,qs,qb⟩:=Ls hQ;have hs2:(cj g clk l[i].l 0).2=(fM g clk l[i].l 0 0).2:=qn
   have hs1:(cj g clk l[i].l 0).2=0->(cj g clk l[i].l 0).1=(fM g clk l[i].l 0 0).1:=λh=>by
    unfold cj at h|-;rw[qn] at h;rw[oh h]
   obtain⟨⟨M,h⟩,hMh⟩:∃R,cj g clk l[i].l 0=R:=⟨_,rfl⟩;rw[hMh] at hc hs1 hs2;simp only at hs1 hs2;rw[<-qe] at a1 a2
   have bad1:∀f,f≠0->(bq (l[i].e.map λx=>bL x w) 0).2=f->RV=([],f):=λf hf e=>by
    rw[<-qe] at e;have e2:=a1 (by rw[e];exact hf);exact hvb f (by rw[h4 (by rw[e2,e];exact hf),e2,e]) hf
   have bad2:(Q l[i].e.length).2=0->h≠0->RV=([],h):=λe hh=>by
    have e2:=(a2 e).1;rw[<-hs2] at e2;exact hvb h (by rw[h4 (by rw[e2];exact hh),e2]) hh
   have good:(Q l[i].e.length).2=0->h=0->P (i+1)=((P i).1++[.mk 4 0 0 0 (Q l[i].e.length).1 M],0):=λe hh=>by
    obtain⟨e1,e2⟩:=a2 e;rw[<-hs2] at e1 e2;rw[h3 (by rw[e1];exact hh),e2,hs1 hh]
   clear ih ps pb pl harm hop conE lE p0 hv0 hvb a1 a2 h3 h4 hs1 hs2 hMh hQ;generalize hX:(P i).1=X at good h5|-;clear hX hok;repeat' (first|simp(maxDischargeDepth:=9) -implicitDefEqProofs -dsimp only[go_sem,seval, *]|with_reducible refine Zu ?_ ?_|(with_reducible refine Zt λoF hoF hnF hnF'=>?_;try simp only[aa,ne_eq,not_and] at hoF))
   rename_i oX nx1 nx2 hoX
   obtain⟨oL,eL⟩:∃x,x=oF:=⟨oF,rfl⟩;subst eL;obtain⟨a1,a2⟩:=hoX;obtain⟨a3,a4,a5⟩:=hoF;have b1:¬oV1=oX:=λe=>a1 e.symm;have b3:¬oX=oL:=λe=>a3 e.symm;have b4:¬oV1=oL:=λe=>a4 e.symm;clear nx1 nx2 hnF hnF' hnV1 hnV1'
   refine loop_rule (λk:Nat=>[(14,some (.int .i64 k)),(12,some (.ptr oX 0)),(3,some (.int .i64 w)),(13,some (.slice ((Q k).1.map encE) (.own oL))),(0,some (.slice (g.map encS) .no)),(2,some (.bool clk)),(10,some (.slice (X.map encT) (.own oV1))),(11,some (.int .i64 i)),(1,some (.slice (l.map encT) .no))])
    (λk=>aH (aH (aH σ oV1 (.grow 6 i)) oX (.cells [.int .i64 4, .int .i64 0, .int .i64 0, .int .i64 0, .slice (l[i].e.map encE) .no, .slice (l[i].l.map encT) .no])) oL (.grow 8 k))
    (λk=>k<=l[i].e.length/\(Q k).2=0) (λk=>l[i].e.length-k) 0 ?_ ?_
   ·clear cE ql qs qb hc bad1 bad2 good;(repeat' (first|simp(maxDischargeDepth:=9) -implicitDefEqProofs -dsimp only[go_sem,seval,List.map_nil, *]|omega))
   ·rintro k ⟨hk,hqk⟩;by_cases hkt:k<l[i].e.length
    ·have hce:=cE l[i].e[k] (List.getElem_mem hkt);have g1:=qs k hkt hqk;have g2:=qb k hkt hqk;have g3:=ql k hk;have hxe:=encEs_eq l[i].e[k];obtain⟨⟨y,f⟩,hY⟩:∃Y,size l[i].e[k] w=Y:=⟨_,rfl⟩;rw[hY] at hce g1 g2;simp only at g1 g2;generalize hZ:(Q k).1=Z at g1 g3|-;clear cE qs qb ql q0 hc bad2 good hY hZ hqk qe hm o1 o2 o3 o4;by_cases hf:f=0
     ·subst hf;have g4:=g1 rfl;clear g1 g2 bad1 hxe hx;repeat' (first|simp(maxDischargeDepth:=9) -implicitDefEqProofs -dsimp only[go_sem,seval, *]|simp(disch:=omega) only[ah,aj,ao,aw,ar,ag,au,aq]|with_reducible refine Zv ?_ ?_|with_reducible refine Zu ?_ ?_|(with_reducible refine Zt λoF hoF hnF hnF'=>?_;try simp only[aa,ne_eq,not_and] at hoF)|refine kc1 (hce _) ?_|(with_reducible refine lnx (k+1) ?_;repeat' (first|simp(maxDischargeDepth:=9) -implicitDefEqProofs -dsimp only[go_sem,seval,List.map_append,List.map_cons,List.map_nil, *]|with_reducible refine And.intro ?_ ?_))|omega)
     ·have g5:=bad1 f hf (g2 hf);have hfb:(f != 0)=true:=by simpa using hf
      rw[g5];clear g1 g2 bad1 g5 hf hxe hx;repeat' (first|simp(maxDischargeDepth:=9) -implicitDefEqProofs -dsimp only[go_sem,seval, *]|simp(disch:=omega) only[ah,aj,ao,aw,ar,ag,au,aq]|with_reducible refine Zu ?_ ?_|(with_reducible refine Zt λoF hoF hnF hnF'=>?_;try simp only[aa,ne_eq,not_and] at hoF)|refine kc1 (hce _) ?_|(refine fin_eq ?_;repeat' simp(maxDischargeDepth:=9) -implicitDefEqProofs -dsimp only[go_sem,seval,List.map_nil, *]))
    ·have ek:k=l[i].e.length:=by omega
     subst ek;have g3:=ql _ (Nat.le_refl _);generalize hZ:(Q l[i].e.length).1=Z at good g3|-;clear cE qs qb ql q0 qe bad1 hm o1 o2 o3 o4 hZ;by_cases hh:h=0
     ·subst hh;have g4:=good hqk rfl
      have g5:(P (i+1)).1.map encT=X.map encT++[.agg [.int .i64 4, .int .i64 0, .int .i64 0, .int .i64 0, .slice (Z.map encE) .no, .slice (M.map encT) .no]]:=by
       rw[g4,List.map_append,List.map_cons,List.map_nil,je]
      have g6:(P (i+1)).2=0:=by rw[g4]
      clear good bad2 hqk g4;repeat' (first|simp(maxDischargeDepth:=9) -implicitDefEqProofs -dsimp only[go_sem,seval, *]|simp(disch:=omega) only[ah,aj,ao,aw,ar,ag,au,aq]|with_reducible refine Zv ?_ ?_|refine kc1 (hc _) ?_|with_reducible refine lnx (i+1) ?_|with_reducible refine And.intro ?_ ?_|omega)
      rw[mh];refine tC _ _ ?_;(repeat' simp(maxDischargeDepth:=9) -implicitDefEqProofs -dsimp only[go_sem,seval, *])
     ·have g5:=bad2 hqk hh;have hfb:(h != 0)=true:=by simpa using hh
      rw[g5];clear good bad2 hqk g5 hh;repeat' (first|simp(maxDischargeDepth:=9) -implicitDefEqProofs -dsimp only[go_sem,seval, *]|simp(disch:=omega) only[ah,aj,ao,aw,ar,ag,au,aq]|refine kc1 (hc _) ?_|(refine fin_eq ?_;repeat' simp(maxDischargeDepth:=9) -implicitDefEqProofs -dsimp only[go_sem,seval,List.map_nil, *]))
  ·have ei:i=l.length:=by omega
   subst ei;rw[hv0 hok];obtain⟨X,hX⟩:∃X,(P l.length).1=X:=⟨_,rfl⟩;rw[hX,hok];clear ih ps pb pl p0 hv0 hvb hX hok harm hop conE lE;repeat' (first|simp(maxDischargeDepth:=9) -implicitDefEqProofs -dsimp only[go_sem,seval, *]|refine fin_eq ?_)
theorem vh(g:List Sg)(hg:dg g)(hgl:g.length<=1000000000000)(clk:Bool)(t:T)(hn:nodesT t<=16777216)(hw:kp t)(hs:bi g t=true)
  (hsm:t.op≠3->∀τ,C_ 150 [.slice (g.map encS) .no, .slice (t.l.map encT) .no, .bool clk] τ (.tup [.slice ((cj g clk t.l 0).1.map encT) .no, .int .i64 (cj g clk t.l 0).2]) τ)
  (hcs:t.op=3->∀w τ,0<=w->C_ 237 [.slice (g.map encS) .no, .slice (t.l.map encT) .no, .bool clk, .int .i64 w] τ (.tup [.slice ((cj g clk t.l w).1.map encT) .no, .int .i64 (cj g clk t.l w).2]) τ)(σ:aA):
  C_ 204 [.slice (g.map encS) .no,encT t, .bool clk] σ (.tup [encT (gn g clk t).1, .int .i64 (gn g clk t).2]) σ:=by
 have h1:=bA t;have w8:=(dK t).1 hw;have con:=fun(x:E) (hx:x∈t.e) (hsx:shp g x=true) (W:Int) (h0:0<=W) τ=>lW g hg x W τ hsx (by have:=bC hx;omega) (w8.2.1 x hx) h0;have conB:=fun(x:E) (hx:x∈t.e) (hsx:shp g x=true) τ=>pw g hg x τ hsx (by have:=bC hx;omega) (w8.2.1 x hx);have hsw:=fun(x:E) (hsx:shp g x=true)=>Eh hg hsx (w:=0) (by omega);obtain⟨R,hR⟩:∃R,gn g clk t=R:=⟨_,rfl⟩;have hbad:∀f,(gI g clk t 0 0).2=f->f≠0->R=(zT,f):=λf h hf=>by rw[<-hR];exact Em h hf
 have hat:∀es m h L,gI g clk t 0 0=(es,0)->eQ t 0 es=L->cj g clk t.l L=(m,h)->R=(.mk t.op t.sig t.hi t.lo es m,h):=λes m h L k1 k2 k3=>by rw[<-hR];exact H4 k1 k2 k3
 have hl3:t.op≠3->∀es,eQ t 0 es=0:=λh es=>by unfold eQ;rw[if_neg h]
 rw[hR];rw[i9] at hs;clear hw hR w8;by_cases o1:t.op=1
 ·rw[if_pos o1] at hs;simp only[Bool.and_eq_true,List.all_eq_true,decide_eq_true_eq] at hs;obtain⟨⟨hs1,hs2,hs3⟩,hpl⟩:=hs;have e0:0<t.e.length:=by omega
  have he:t.e=[t.e[0]]:=by
   obtain⟨x,hx⟩:=len1 hs2;simp[hx]
  have hsx:=hs1 _ (List.getElem_mem e0);have hpb:=dU hg hpl;obtain⟨p1,p2,p3,p4,p5⟩:=place_iff.1 hpl;have p6:t.sig.toNat<g.length:=by omega
  have hgs:g.getD t.sig.toNat zS=g[t.sig.toNat]:=by rw[List.getD_eq_getElem?_getD,List.getElem?_eq_getElem p6];rfl
  have hk:kindOf g t=(g[t.sig.toNat]).kind:=by unfold Fil.Sz.kindOf;rw[hgs]
  have c1:=con _ (List.getElem_mem e0) hsx (t.hi-t.lo+1) (by omega);have c2:=hsm (by omega);have hr:∀V,c8 g clk t 0=V->V≠0->R=(zT,V):=λV h hV=>hbad V (by rw[El (by rw[h];exact hV),h]) hV;have hok:c8 g clk t 0=0->gI g clk t 0 0=([(size t.e[0] (t.hi-t.lo+1)).1],(size t.e[0] (t.hi-t.lo+1)).2):=λh=>tB he (by unfold dz;rw[if_pos o1]) h;have hl0:=hl3 (by omega)
  have hrv:c8 g clk t 0=if (g[t.sig.toNat]).kind=1\/clk≠decide ((g[t.sig.toNat]).kind=4) then 85 else 0:=by
   unfold c8;rw[hk];simp[o1]
  obtain⟨⟨m,h⟩,hM⟩:∃M,cj g clk t.l 0=M:=⟨_,rfl⟩;rw[hM] at c2;have hat1:∀es,gI g clk t 0 0=(es,0)->R=(.mk t.op t.sig t.hi t.lo es m,h):=λes k=>hat es m h 0 k (hl0 es) hM;obtain⟨⟨y,f⟩,hY⟩:∃Y,size t.e[0] (t.hi-t.lo+1)=Y:=⟨_,rfl⟩;rw[hY] at c1 hok;simp only at hok;have hb1:c8 g clk t 0=0->f≠0->R=(zT,f):=λk1 k2=>hbad f (by rw[hok k1]) k2;have hg1:c8 g clk t 0=0->f=0->R=(.mk t.op t.sig t.hi t.lo [y] m,h):=λk1 k2=>hat1 [y] (by rw[hok k1,k2]);clear con conB hsw hbad hat hl3 hsm hcs hs1 he hsx hgs hk hl0 hM hat1 hY hok;generalize hK:(g[t.sig.toNat]).kind=K at hrv;obtain⟨c4,hc4⟩:∃c,(K==4)=c:=⟨_,rfl⟩;obtain⟨k1,hk1⟩:∃c,(K==1)=c:=⟨_,rfl⟩;have hd4:decide (K=4)=c4:=hc4;have hd1:K=1↔k1=true:=by rw[<-hk1];simp
  rw[hd4] at hrv;have hrv1:k1=true\/clk≠c4->c8 g clk t 0=85:=λq=>by rw[hrv,if_pos (by rw[hd1];exact q)]
  have hrv2:¬(k1=true\/clk≠c4)->c8 g clk t 0=0:=λq=>by rw[hrv,if_neg (by rw[hd1];exact q)]
  clear hd4 hd1 hrv;have bft:((false:Bool)==true)=false:=rfl;have btf:((true:Bool)==false)=false:=rfl;generalize hV:c8 g clk t 0=V at hrv1 hrv2 hr hb1 hg1;replace hr:=hr V rfl;clear hV;refine gO [4] Tryz.func204 (by kernel_rfl) (by conv=>lhs;reduce;dsimp only[iA]) rfl ?_;by_cases hcc:clk=c4
  case neg=>
   have hrv:=hrv1 (.inr hcc);have hR:=hr (by omega);subst hrv;rw[hR,iN];clear hr hb1 hg1 hR c1 c2 hrv1 hrv2;cases clk<;>cases c4
   ·exact(hcc rfl).elim
   ·clear hcc;repeat' (first|simp(maxDischargeDepth:=9) -implicitDefEqProofs -dsimp only[go_sem,seval, *]|simp(disch:=omega) only[ah,aj,ao,aw,ar,ag,au,aq]|with_reducible refine Zu ?_ ?_|(with_reducible refine Zt λoF hoF hnF hnF'=>?_;try simp only[aa,ne_eq,not_and] at hoF)|refine fin_eq ?_)
   ·clear hcc;repeat' (first|simp(maxDischargeDepth:=9) -implicitDefEqProofs -dsimp only[go_sem,seval, *]|simp(disch:=omega) only[ah,aj,ao,aw,ar,ag,au,aq]|with_reducible refine Zu ?_ ?_|(with_reducible refine Zt λoF hoF hnF hnF'=>?_;try simp only[aa,ne_eq,not_and] at hoF)|refine fin_eq ?_)
   ·exact(hcc rfl).elim
  subst hcc;have hcl:(clk != clk)=false:=by simp
  cases k1
  case true=>
   have hrv:=hrv1 (.inl rfl);have hR:=hr (by omega);subst hrv;rw[hR,iN];clear hr hb1 hg1 hR c1 c2 hrv1 hrv2;repeat' (first|simp(maxDischargeDepth:=9) -implicitDefEqProofs -dsimp only[go_sem,seval, *]|simp(disch:=omega) only[ah,aj,ao,aw,ar,ag,au,aq]|with_reducible refine Zu ?_ ?_|(with_reducible refine Zt λoF hoF hnF hnF'=>?_;try simp only[aa,ne_eq,not_and] at hoF)|refine fin_eq ?_)
  have hrv:=hrv2 (by simp);subst hrv;clear hr hrv1 hrv2;by_cases hf:f=0
  ·have hR:=hg1 rfl hf;rw[hR,je];subst hf;clear hb1 hg1 hR;repeat' (first|simp(maxDischargeDepth:=9) -implicitDefEqProofs -dsimp only[go_sem,seval, *]|simp(disch:=omega) only[ah,aj,ao,aw,ar,ag,au,aq]|with_reducible refine Zu ?_ ?_|(with_reducible refine Zt λoF hoF hnF hnF'=>?_;try simp only[aa,ne_eq,not_and] at hoF)|refine kc1 (c2 _) ?_|with_reducible refine id_one0 (λtS hS=>c1 _) trivial ?_|(refine fin_eq ?_;repeat' simp(maxDischargeDepth:=9) -implicitDefEqProofs -dsimp only[go_sem,seval,List.map_cons,List.map_nil, *]))
  ·have hR:=hb1 rfl hf;rw[hR,iN];have hfb:(f != 0)=true:=by simpa using hf
   clear hb1 hg1 hR c2 hf;repeat' (first|simp(maxDischargeDepth:=9) -implicitDefEqProofs -dsimp only[go_sem,seval, *]|simp(disch:=omega) only[ah,aj,ao,aw,ar,ag,au,aq]|with_reducible refine Zu ?_ ?_|(with_reducible refine Zt λoF hoF hnF hnF'=>?_;try simp only[aa,ne_eq,not_and] at hoF)|with_reducible refine id_one0 (λtS hS=>c1 _) trivial ?_|refine fin_eq ?_)
 rw[if_neg o1] at hs;have ob1:(t.op==1)=false:=by simp[o1]
 have hr0:c8 g clk t 0=0:=by unfold c8;rw[if_neg (λq=>o1 q.1)]
 simp only[Bool.and_eq_true,List.all_eq_true,decide_eq_true_eq] at hs;obtain⟨⟨⟨z1,z2,z3⟩,hs1⟩,hs⟩:=hs;by_cases o2:t.op=2
 ·rw[if_pos o2] at hs;simp only[Bool.and_eq_true,decide_eq_true_eq] at hs;have e0:0<t.e.length:=by omega
  have he:t.e=[t.e[0]]:=by
   obtain⟨x,hx⟩:=len1 hs.1.1.1;simp[hx]
  have hsx:=hs1 _ (List.getElem_mem e0);have c1:=conB _ (List.getElem_mem e0) hsx;have c2:=hsm (by omega);have hok:=tB (g:=g) (clk:=clk) (lab:=0) he (show dz t 0= -1 by unfold dz;rw[if_neg (by omega),if_pos o2]) hr0;have hl0:=hl3 (by omega);obtain⟨⟨m,h⟩,hM⟩:∃M,cj g clk t.l 0=M:=⟨_,rfl⟩;rw[hM] at c2;obtain⟨⟨y,f⟩,hY⟩:∃Y,size t.e[0] (-1)=Y:=⟨_,rfl⟩;rw[hY] at c1 hok;simp only at hok;have hb1:f≠0->R=(zT,f):=λk2=>hbad f (by rw[hok]) k2;have hg1:f=0->R=(.mk t.op t.sig t.hi t.lo [y] m,h):=λk2=>hat [y] m h 0 (by rw[hok,k2]) (hl0 _) hM;clear con conB hsw hbad hat hl3 hsm hcs hs1 he hsx hl0 hM hY hok hr0 hs;refine gO [4] Tryz.func204 (by kernel_rfl) (by conv=>lhs;reduce;dsimp only[iA]) rfl ?_;by_cases hf:f=0
  ·have hR:=hg1 hf;rw[hR,je];subst hf;clear hb1 hg1 hR;repeat' (first|simp(maxDischargeDepth:=9) -implicitDefEqProofs -dsimp only[go_sem,seval, *]|simp(disch:=omega) only[ah,aj,ao,aw,ar,ag,au,aq]|with_reducible refine Zu ?_ ?_|(with_reducible refine Zt λoF hoF hnF hnF'=>?_;try simp only[aa,ne_eq,not_and] at hoF)|refine kc1 (c1 _) ?_|refine kc1 (c2 _) ?_|(refine fin_eq ?_;repeat' simp(maxDischargeDepth:=9) -implicitDefEqProofs -dsimp only[go_sem,seval,List.map_cons,List.map_nil, *]))
  ·have hR:=hb1 hf;rw[hR,iN];have hfb:(f != 0)=true:=by simpa using hf
   clear hb1 hg1 hR c2 hf;repeat' (first|simp(maxDischargeDepth:=9) -implicitDefEqProofs -dsimp only[go_sem,seval, *]|simp(disch:=omega) only[ah,aj,ao,aw,ar,ag,au,aq]|with_reducible refine Zu ?_ ?_|(with_reducible refine Zt λoF hoF hnF hnF'=>?_;try simp only[aa,ne_eq,not_and] at hoF)|refine kc1 (c1 _) ?_|refine fin_eq ?_)
 rw[if_neg o2] at hs;have ob2:(t.op==2)=false:=by simp[o2]
 by_cases o3:t.op=3
 ·rw[if_pos o3] at hs;simp only[Bool.and_eq_true,decide_eq_true_eq] at hs;have e0:0<t.e.length:=by omega
  have he:t.e=[t.e[0]]:=by
   obtain⟨x,hx⟩:=len1 hs.1;simp[hx]
  have hsx:=hs1 _ (List.getElem_mem e0);have c1:=con _ (List.getElem_mem e0) hsx 0 (by omega);have hw0:=hsw _ hsx;have hok:=tB (g:=g) (clk:=clk) (lab:=0) he (show dz t 0=0 by unfold dz;rw[if_neg (by omega),if_neg (by omega),if_pos o3]) hr0;have hl0:∀y:E,eQ t 0 [y]=y.w:=λy=>by unfold eQ;rw[if_pos o3];rfl
  obtain⟨⟨y,f⟩,hY⟩:∃Y,size t.e[0] 0=Y:=⟨_,rfl⟩;rw[hY] at c1 hok hw0;simp only at hok hw0;have c2:=λτ=>hcs o3 y.w τ hw0;have hye:=encEs_eq y;obtain⟨⟨m,h⟩,hM⟩:∃M,cj g clk t.l y.w=M:=⟨_,rfl⟩;rw[hM] at c2;have hb1:f≠0->R=(zT,f):=λk2=>hbad f (by rw[hok]) k2;have hg1:f=0->R=(.mk t.op t.sig t.hi t.lo [y] m,h):=λk2=>hat [y] m h y.w (by rw[hok,k2]) (hl0 _) hM;clear con conB hsw hbad hat hl3 hsm hcs hs1 he hsx hl0 hM hY hok hr0 hs hw0;refine gO [4] Tryz.func204 (by kernel_rfl) (by conv=>lhs;reduce;dsimp only[iA]) rfl ?_;by_cases hf:f=0
  ·have hR:=hg1 hf;rw[hR,je];subst hf;clear hb1 hg1 hR hye;repeat' (first|simp(maxDischargeDepth:=9) -implicitDefEqProofs -dsimp only[go_sem,seval, *]|simp(disch:=omega) only[ah,aj,ao,aw,ar,ag,au,aq]|with_reducible refine Zu ?_ ?_|(with_reducible refine Zt λoF hoF hnF hnF'=>?_;try simp only[aa,ne_eq,not_and] at hoF)|refine kc1 (c1 _) ?_|refine kc1 (c2 _) ?_|(refine fin_eq ?_;repeat' simp(maxDischargeDepth:=9) -implicitDefEqProofs -dsimp only[go_sem,seval,List.map_cons,List.map_nil, *]))
  ·have hR:=hb1 hf;rw[hR,iN];have hfb:(f != 0)=true:=by simpa using hf
   clear hb1 hg1 hR c2 hf hye;repeat' (first|simp(maxDischargeDepth:=9) -implicitDefEqProofs -dsimp only[go_sem,seval, *]|simp(disch:=omega) only[ah,aj,ao,aw,ar,ag,au,aq]|with_reducible refine Zu ?_ ?_|(with_reducible refine Zt λoF hoF hnF hnF'=>?_;try simp only[aa,ne_eq,not_and] at hoF)|refine kc1 (c1 _) ?_|refine fin_eq ?_)
 rw[if_neg o3] at hs;have ob3:(t.op==3)=false:=by simp[o3]
 split at hs
 case isFalse=>simp at hs
 rename_i o5
 simp only[Bool.and_eq_true,decide_eq_true_eq] at hs;have he:t.e=[]:=List.length_eq_zero_iff.1 hs.1;have c2:=hsm o3;have hl0:=hl3 o3;obtain⟨⟨m,h⟩,hM⟩:∃M,cj g clk t.l 0=M:=⟨_,rfl⟩;rw[hM] at c2;have hR:=hat [] m h 0 (Ek he o1) (hl0 _) hM;rw[hR,je];clear con conB hsw hbad hat hl3 hsm hcs hs1 hl0 hM hr0 hs hR o1 o2 o3;refine gO [4] Tryz.func204 (by kernel_rfl) (by conv=>lhs;reduce;dsimp only[iA]) rfl ?_;repeat' (first|simp(maxDischargeDepth:=9) -implicitDefEqProofs -dsimp only[go_sem,seval, *]|simp(disch:=omega) only[ah,aj,ao,aw,ar,ag,au,aq]|(with_reducible refine Zt λoF hoF hnF hnF'=>?_;try simp only[aa,ne_eq,not_and] at hoF)|refine kc1 (c2 _) ?_|(refine fin_eq ?_;repeat' simp(maxDischargeDepth:=9) -implicitDefEqProofs -dsimp only[go_sem,seval,List.map_nil, *]))
theorem Ly(g:List Sg)(hg:dg g)(hgl:g.length<=1000000000000)(clk:Bool)(t:T):nodesT t<=16777216->kp t->
  (bi g t=true->∀τ,C_ 204 [.slice (g.map encS) .no,encT t, .bool clk] τ (.tup [encT (gn g clk t).1, .int .i64 (gn g clk t).2]) τ)/\
  ((∀x∈t.l,bi g x=true)->∀τ,C_ 150 [.slice (g.map encS) .no, .slice (t.l.map encT) .no, .bool clk] τ (.tup [.slice ((cj g clk t.l 0).1.map encT) .no, .int .i64 (cj g clk t.l 0).2]) τ):=by
 refine T.ind (P:=λt=>nodesT t<=16777216->kp t->
  (bi g t=true->∀τ,C_ 204 [.slice (g.map encS) .no,encT t, .bool clk] τ (.tup [encT (gn g clk t).1, .int .i64 (gn g clk t).2]) τ)/\
  ((∀x∈t.l,bi g x=true)->∀τ,C_ 150 [.slice (g.map encS) .no, .slice (t.l.map encT) .no, .bool clk] τ (.tup [.slice ((cj g clk t.l 0).1.map encT) .no, .int .i64 (cj g clk t.l 0).2]) τ)) (λt ih hn hw=>?_) t
 have h:=fun(x:T) (hx:x∈t.l)=>ih x hx (by have:=ci hx;omega) (((dK t).1 hw).2.2 x hx)
 have hsome:(∀x∈t.l,bi g x=true)->∀τ,C_ 150 [.slice (g.map encS) .no, .slice (t.l.map encT) .no, .bool clk] τ (.tup [.slice ((cj g clk t.l 0).1.map encT) .no, .int .i64 (cj g clk t.l 0).2]) τ:=λhs τ=>
  l9 g clk t.l (by have:=dr t;omega) (λx hx=>(h x hx).1 (hs x hx)) τ
 refine⟨λhs τ=>?_,hsome⟩;have hkids:=A9 hs;refine vh g hg hgl clk t hn hw hs (λh3=>hsome (hkids.1 h3)) (λh3 w τ hw0=>?_) τ;have ha:=hkids.2 h3;exact qI g hg clk t.l (by have:=fz t;omega) ((dK t).1 hw).2.2 ha w hw0 (λx hx=>(h x hx).2 λy hy=>Eo (ha x hx) hy) τ
theorem H7(g:List Sg)(hg:dg g)(hgl:g.length<=1000000000000)(clk:Bool)(l:List T)(hn:(l.map nodesT).sum<=16777216)(hw:∀t∈l,kp t)(hs:l.all (bi g)=true)(σ:aA):
  C_ 150 [.slice (g.map encS) .no, .slice (l.map encT) .no, .bool clk] σ (.tup [.slice ((cj g clk l 0).1.map encT) .no, .int .i64 (cj g clk l 0).2]) σ:=
 l9 g clk l (by have:=cq bG l;omega) (λx hx=>(Ly g hg hgl clk x (by have:=bu (f:=nodesT) hx;omega) (hw x hx)).1 (List.all_eq_true.1 hs x hx)) σ
end Go.Proofs.YtbbihmmobfmadaaGreat.S
namespace Go.Proofs.YtbbihmmobfmadaaGreat.S
open Abs Fil Fil.Sz
theorem yV{d:Flat}(h:eN d=false):bE d=(zD,2):=by unfold bE;rw[if_pos h]
theorem yW{d:Flat}(h:eN d=true)(h2:bH d=false):bE d=(zD,1):=by unfold bE;rw[if_neg (by simp[h]),if_pos h2]
theorem vi{d:Flat}(h:eN d=true)(h2:bH d=true)(h3:ip d=false):bE d=(zD,92):=by unfold bE;rw[if_neg (by simp[h]),if_neg (by simp[h2]),if_pos h3]
theorem d6:encD zD= .agg [.slice [] .no, .slice [] .no, .slice [] .no]:=rfl
theorem H8(d:Flat)(σ:aA)(hd:Sm d)(hw:WfD d):C_ 82 [encD d] σ (.tup [encD (bE d).1, .int .i64 (bE d).2]) σ:=by
 have l1:=hd.1;have l2:=hd.2.1;have l3:=hd.2.2.1;have c1:=λτ=>D1 d τ hd;have c2:=λτ=>A7 d τ hd hw;have c3:=fun(h:dg d.sigs) τ=>Ee d.sigs (by omega) hw.sigs h τ;have k2:=yV (d:=d);have k1:=yW (d:=d);have k9:=vi (d:=d);have kg:=vg (d:=d);have hso:bH d=true->dg d.sigs:=λh=>fy (dk.1 h).1;have conP:=fun(h:bH d=true) (p:Pr) (hp:p∈d.procs) τ=>H7 d.sigs (hso h) (by omega) p.clk p.l (by have h:=hO hd hp;unfold aZ at h;omega) (hw.procs p hp) (List.all_eq_true.1 (dk.1 h).2.1 p hp) τ;have conC:=fun(h:bH d=true) (x:Ck) (hx:x∈d.chks) τ=>pw d.sigs (hso h) x.e τ (List.all_eq_true.1 (dk.1 h).2.2 x hx) (jL hd hx) (hw.chks x hx);have hfl:ip d=d.sigs.all λs=>holds s.w s.init:=rfl;rw[<-hfl] at c3;clear hfl hw hd;generalize hR:bE d=R at k2 k1 k9 kg|-;clear hR;obtain⟨P,hP⟩:∃P:Nat->List Pr×Int,∀i,P i=bq ((d.procs.map (Dr d.sigs)).take i) 0:=⟨_,λ_=>rfl⟩;obtain⟨p0,pl,pe,ps,pb⟩:=Lu hP;obtain⟨Q,hQ⟩:∃Q:Nat->List Ck×Int,∀i,Q i=bq ((d.chks.map yC).take i) 0:=⟨_,λ_=>rfl⟩;have hQA:=λh=>Lx (d:=d) h hQ;have hce:=H6 (d:=d);clear hP hQ;obtain⟨A,hA⟩:∃A,eN d=A:=⟨_,rfl⟩;obtain⟨B,hB⟩:∃A,bH d=A:=⟨_,rfl⟩;obtain⟨C,hC⟩:∃A,ip d=A:=⟨_,rfl⟩;rw[hA] at c1 k2 k1 k9 kg;rw[hB] at c2 k1 k9 kg hso conP conC;rw[hC] at c3 k9 kg;clear hA hB hC;refine ACalls.virt (by kernel_rfl) 2 (λoV1 hoV1 hnV1 hnV1'=>?_);(try simp only[aa,ne_eq,not_and] at hoV1);refine ACalls.virt (by kernel_rfl) 9 (λoV2 hoV2 hnV2 hnV2'=>?_);(try simp only[aa,ne_eq,not_and] at hoV2);refine gO [1] Tryz.func82 (by kernel_rfl) (by conv=>lhs;reduce;dsimp only[iA]) rfl ?_;cases A
 ·rw[k2 rfl,d6];clear k2 k1 k9 kg hso conP conC hQA hce pl ps pb pe p0 c2 c3;repeat' (first|simp(maxDischargeDepth:=9) -implicitDefEqProofs -dsimp only[go_sem,seval, *]|simp(disch:=omega) only[ah,aj,ao,aw,ar,ag,au,aq]|(with_reducible refine Zt λoF hoF hnF hnF'=>?_;try simp only[aa,ne_eq,not_and] at hoF)|with_reducible refine kc1 (c1 _) ?_|refine fin_eq ?_)
 cases B
 ·rw[k1 rfl rfl,d6];clear k2 k1 k9 kg hso conP conC hQA hce pl ps pb pe p0 c3;repeat' (first|simp(maxDischargeDepth:=9) -implicitDefEqProofs -dsimp only[go_sem,seval, *]|simp(disch:=omega) only[ah,aj,ao,aw,ar,ag,au,aq]|(with_reducible refine Zt λoF hoF hnF hnF'=>?_;try simp only[aa,ne_eq,not_and] at hoF)|with_reducible refine kc1 (c1 _) ?_|with_reducible refine kc1 (c2 _) ?_|refine fin_eq ?_)
 have c3':=c3 (hso rfl);cases C
 ·rw[k9 rfl rfl rfl,d6];clear k2 k1 k9 kg hso conP conC hQA hce pl ps pb pe p0 c3;repeat' (first|simp(maxDischargeDepth:=9) -implicitDefEqProofs -dsimp only[go_sem,seval, *]|simp(disch:=omega) only[ah,aj,ao,aw,ar,ag,au,aq]|(with_reducible refine Zt λoF hoF hnF hnF'=>?_;try simp only[aa,ne_eq,not_and] at hoF)|with_reducible refine kc1 (c1 _) ?_|with_reducible refine kc1 (c2 _) ?_|with_reducible refine kc1 (c3' _) ?_|refine fin_eq ?_)
 have kg:=kg rfl rfl rfl;replace conP:=conP rfl;replace conC:=conC rfl;clear k2 k1 k9 hso c3
 have bad:∀f,f≠0->(fg d).2=f->R=(zD,f):=λf hf h=>by
  have h2:(fh d).2=f:=by rw[hce (by omega),h]
  rw[kg,h2,if_pos hf]
 have bad2:∀f,f≠0->(fh d).2=f->R=(zD,f):=λf hf h=>by rw[kg,h,if_pos hf]
 have good:∀ps cs,(fg d).1=ps->fh d=(cs,0)->R=(⟨d.sigs,ps,cs⟩,0):=λps cs h1 h2=>by rw[kg,h2,h1];simp
 clear kg hce;repeat' (first|simp(maxDischargeDepth:=9) -implicitDefEqProofs -dsimp only[go_sem,seval, *]|(with_reducible refine Zt λoF hoF hnF hnF'=>?_;try simp only[aa,ne_eq,not_and] at hoF)|with_reducible refine kc1 (c1 _) ?_|with_reducible refine kc1 (c2 _) ?_|with_reducible refine kc1 (c3' _) ?_)
 rename_i oA nx1 nx2 hoA oB nx3 nx4 hoB
 obtain⟨oC,eC⟩:∃x,x=oF:=⟨oF,rfl⟩;subst eC;obtain⟨a1,a2,a3⟩:=hoA;obtain⟨a4,a5,a6,a7⟩:=hoB;obtain⟨a8,a9,a10,a11,a12⟩:=hoF;obtain⟨a13,a14⟩:=hoV2;have b1:¬oV2=oA:=λe=>a1 e.symm;have b2:¬oV1=oA:=λe=>a2 e.symm;have b3:¬oA=oB:=λe=>a4 e.symm;have b4:¬oV2=oB:=λe=>a5 e.symm;have b5:¬oV1=oB:=λe=>a6 e.symm;have b6:¬oB=oC:=λe=>a8 e.symm;have b7:¬oA=oC:=λe=>a9 e.symm;have b8:¬oV2=oC:=λe=>a10 e.symm;have b9:¬oV1=oC:=λe=>a11 e.symm;have b10:¬oV1=oV2:=λe=>a13 e.symm;clear nx1 nx2 nx3 nx4 hnF hnF' hnV1 hnV1' hnV2 hnV2' c1 c2 c3'
 refine loop_rule (λi:Nat=>[(6,some (.int .i64 i)),(1,some (.cptr (dL d))),(4,some (.ptr oB 0)),(2,some (.ptr oA 0)),(5,some (.ptr oC 0))])
  (λi=>aH (aH (aH (aH (aH σ oV1 (.grow 2 i)) oV2 (.virt 9)) oA (.cells [.slice [] .nil, .slice [] .nil, .slice [] .nil])) oB (.cells [.slice [] .nil, .slice [] .nil, .slice [] .nil])) oC (.cells [.slice (d.sigs.map encS) .no, .slice ((P i).1.map encP) (.own oV1), .slice [] .nil]))
  (λi=>i<=d.procs.length/\(P i).2=0) (λi=>d.procs.length-i) 0 ?_ ?_
 ·clear conP conC hQA pl ps pb pe bad bad2 good;(repeat' (first|simp(maxDischargeDepth:=9) -implicitDefEqProofs -dsimp only[go_sem,seval,List.map_nil, *]|omega))
 ·rintro i ⟨hi,hok⟩;by_cases hlt:i<d.procs.length
  ·have hc:=conP d.procs[i] (List.getElem_mem hlt);have h3:=ps i hlt hok;have h4:=pb i hlt hok;have h5:=pl i hi;have hs2:(cj d.sigs d.procs[i].clk d.procs[i].l 0).2=(fM d.sigs d.procs[i].clk d.procs[i].l 0 0).2:=qn
   have hs1:(cj d.sigs d.procs[i].clk d.procs[i].l 0).2=0->(cj d.sigs d.procs[i].clk d.procs[i].l 0).1=(fM d.sigs d.procs[i].clk d.procs[i].l 0 0).1:=λh=>by
    unfold cj at h|-;rw[qn] at h;rw[oh h]
   obtain⟨⟨m,h⟩,hM⟩:∃M,cj d.sigs d.procs[i].clk d.procs[i].l 0=M:=⟨_,rfl⟩;rw[hM] at hc hs1 hs2;simp only at hs1 hs2;rw[<-hs2] at h3 h4;generalize hX:(P i).1=X at h3 h5|-;clear conP conC hQA pl ps pb pe bad2 good hM hX hok p0 hs2;by_cases hh:h=0
   ·have g4:=h3 hh;rw[<-hs1 hh] at g4
    have g5:(P (i+1)).1.map encP=X.map encP++[.agg [.bool d.procs[i].clk, .slice (m.map encT) .no]]:=by
     rw[g4,List.map_append,List.map_cons,List.map_nil]
    have g6:(P (i+1)).2=0:=by rw[g4]
    subst hh;clear h3 h4 hs1 bad g4;repeat' (first|simp(maxDischargeDepth:=9) -implicitDefEqProofs -dsimp only[go_sem,seval, *]|simp(disch:=omega) only[ah,aj,ao,aw,ar,ag,au,aq]|with_reducible refine Zv ?_ ?_|with_reducible refine Zu ?_ ?_|with_reducible refine id_one0 (λtS hS=>hc _) trivial ?_|with_reducible refine lnx (i+1) ?_|with_reducible refine And.intro ?_ ?_|omega)
   ·have g5:=bad h hh (h4 hh);have hfb:(h != 0)=true:=by simpa using hh
    rw[g5,d6];clear h3 h4 hs1 bad g5 hh;repeat' (first|simp(maxDischargeDepth:=9) -implicitDefEqProofs -dsimp only[go_sem,seval, *]|simp(disch:=omega) only[ah,aj,ao,aw,ar,ag,au,aq]|with_reducible refine Zu ?_ ?_|with_reducible refine id_one0 (λtS hS=>hc _) trivial ?_|refine fin_eq ?_)
  ·have ei:i=d.procs.length:=by omega
   subst ei;rw[pe] at hok;obtain⟨q0,ql,qe,qs,qb⟩:=hQA hok;have hX:=pl _ (Nat.le_refl _);rw[pe] at hX|-;have good1:=λcs h=>good (fg d).1 cs rfl h;generalize hXX:(fg d).1=X at hX good1|-;clear conP hQA pl ps pb pe bad hXX hok p0 good;repeat' simp(maxDischargeDepth:=9) -implicitDefEqProofs -dsimp only[go_sem,seval, *]
   refine loop_rule (λk:Nat=>[(9,some (.int .i64 k)),(1,some (.cptr (dL d))),(4,some (.ptr oB 0)),(2,some (.ptr oA 0)),(5,some (.ptr oC 0))])
    (λk=>aH (aH (aH (aH (aH σ oV1 (.grow 2 d.procs.length)) oV2 (.grow 9 k)) oA (.cells [.slice [] .nil, .slice [] .nil, .slice [] .nil])) oB (.cells [.slice [] .nil, .slice [] .nil, .slice [] .nil])) oC (.cells [.slice (d.sigs.map encS) .no, .slice (X.map encP) (.own oV1), .slice ((Q k).1.map encC) (.own oV2)]))
    (λk=>k<=d.chks.length/\(Q k).2=0) (λk=>d.chks.length-k) 0 ?_ ?_
   ·clear conC ql qs qb qe bad2 good1;(repeat' (first|simp(maxDischargeDepth:=9) -implicitDefEqProofs -dsimp only[go_sem,seval,List.map_nil, *]|omega))
   ·rintro k ⟨hk,hqk⟩;by_cases hkt:k<d.chks.length
    ·have hc:=conC d.chks[k] (List.getElem_mem hkt);have h3:=qs k hkt hqk;have h4:=qb k hkt hqk;have h5:=ql k hk;obtain⟨⟨y,f⟩,hY⟩:∃Y,size d.chks[k].e (-1)=Y:=⟨_,rfl⟩;rw[hY] at hc h3 h4;simp only at h3 h4;generalize hZ:(Q k).1=Z at h3 h5|-;clear conC ql qs qb qe q0 good1 hY hZ hqk;by_cases hf:f=0
     ·have g4:=h3 hf
      have g5:(Q (k+1)).1.map encC=Z.map encC++[encC ⟨d.chks[k].name,y⟩]:=by
       rw[g4,List.map_append,List.map_cons,List.map_nil]
      have g6:(Q (k+1)).2=0:=by rw[g4]
      subst hf;clear h3 h4 bad2 g4;repeat' (first|simp(maxDischargeDepth:=9) -implicitDefEqProofs -dsimp only[go_sem,seval, *]|simp(disch:=omega) only[ah,aj,ao,aw,ar,ag,au,aq]|with_reducible refine Zv ?_ ?_|with_reducible refine Zu ?_ ?_|(with_reducible refine Zt λoF hoF hnF hnF'=>?_;try simp only[aa,ne_eq,not_and] at hoF)|with_reducible refine kc1 (hc _) ?_|with_reducible refine lnx (k+1) ?_|with_reducible refine And.intro ?_ ?_|omega)
     ·have g5:=bad2 f hf (h4 hf);have hfb:(f != 0)=true:=by simpa using hf
      rw[g5,d6];clear h3 h4 bad2 g5 hf;repeat' (first|simp(maxDischargeDepth:=9) -implicitDefEqProofs -dsimp only[go_sem,seval, *]|simp(disch:=omega) only[ah,aj,ao,aw,ar,ag,au,aq]|with_reducible refine Zu ?_ ?_|(with_reducible refine Zt λoF hoF hnF hnF'=>?_;try simp only[aa,ne_eq,not_and] at hoF)|with_reducible refine kc1 (hc _) ?_|refine fin_eq ?_)
    ·have ek:k=d.chks.length:=by omega
     subst ek;have g4:=good1 (Q d.chks.length).1 (by rw[<-qe];exact Prod.ext rfl hqk);rw[g4];have hZ:=ql _ (Nat.le_refl _);generalize hZZ:(Q d.chks.length).1=Z at hZ|-;clear conC ql qs qb qe q0 good1 hZZ hqk bad2 g4;repeat' (first|simp(maxDischargeDepth:=9) -implicitDefEqProofs -dsimp only[go_sem,seval, *]|simp(disch:=omega) only[ah,aj,ao,aw,ar,ag,au,aq]|refine fin_eq ?_)
theorem vj{d:Flat}(hd:Sm d):Sm (bE d).1:=by
 by_cases h:(bE d).2=0
 ·have k:=Ej h;exact⟨by rw[k.sigs];exact hd.1,by rw[k.procs];exact hd.2.1,by rw[k.chks];exact hd.2.2.1,by rw[k.nodes];exact hd.2.2.2⟩
 ·rw[A8 h];exact⟨by simp[zD],by simp[zD],by simp[zD],by simp[zD,nodesD]⟩
theorem ma{d:Flat}:checkD d=if (bE d).2≠0 then (bE d).2 else if same (bE d).1 d=false then 90 else 0:=by
 by_cases h:(bE d).2=0
 ·have h2:=vc h;rw[if_neg (by omega),<-h2];by_cases h3:checkD d=0
  ·rw[h3];simp
  ·unfold checkD at h3|-;split
   ·rename_i q;rw[if_pos q] at h3;simp
   ·rename_i q;rw[if_neg q] at h3;exact(h3 h).elim
 ·rw[if_pos h,xF h]
theorem rf_Check(d:Flat)(σ:aA)(hd:Sm d)(hw:WfD d):C_ 41 [encD d] σ (.int .i64 (checkD d)) σ:=by
 have c1:=λτ=>H8 d τ hd hw;have hm:=vj hd;have c2:=λτ=>HL (bE d).1 d τ hm hd;have hc:=ma (d:=d);obtain⟨⟨x,f⟩,hR⟩:∃R,bE d=R:=⟨_,rfl⟩;rw[hR] at c1 c2 hc;simp only at hc;generalize hC:checkD d=C at hc|-;generalize hs:same x d=s at c2 hc;clear hR hC hs hm hd hw;refine gO [1] Tryz.func41 (by kernel_rfl) (by conv=>lhs;reduce;dsimp only[iA]) rfl ?_;by_cases hf:f=0
 ·rw[if_neg (by omega)] at hc;subst hf;cases s
  ·rw[if_pos rfl] at hc;subst hc;repeat' (first|simp(maxDischargeDepth:=9) -implicitDefEqProofs -dsimp only[go_sem,seval, *]|simp(disch:=omega) only[ah,aj,ao,aw,ar,ag,au,aq]|(with_reducible refine Zt λoF hoF hnF hnF'=>?_;try simp only[aa,ne_eq,not_and] at hoF)|with_reducible refine kc1 (c1 _) ?_|with_reducible refine kc1 (c2 _) ?_|refine fin_eq ?_)
  ·rw[if_neg (by simp)] at hc;subst hc;repeat' (first|simp(maxDischargeDepth:=9) -implicitDefEqProofs -dsimp only[go_sem,seval, *]|simp(disch:=omega) only[ah,aj,ao,aw,ar,ag,au,aq]|(with_reducible refine Zt λoF hoF hnF hnF'=>?_;try simp only[aa,ne_eq,not_and] at hoF)|with_reducible refine kc1 (c1 _) ?_|with_reducible refine kc1 (c2 _) ?_|refine fin_eq ?_)
 ·rw[if_pos hf] at hc;have hfb:(f != 0)=true:=by simpa using hf
  subst hc;clear hf c2;repeat' (first|simp(maxDischargeDepth:=9) -implicitDefEqProofs -dsimp only[go_sem,seval, *]|simp(disch:=omega) only[ah,aj,ao,aw,ar,ag,au,aq]|(with_reducible refine Zt λoF hoF hnF hnF'=>?_;try simp only[aa,ne_eq,not_and] at hoF)|with_reducible refine kc1 (c1 _) ?_|refine fin_eq ?_)
end Go.Proofs.YtbbihmmobfmadaaGreat.S
namespace Go.Proofs.YtbbihmmobfmadaaGreat.S
open Abs Fil Fil.Sz
theorem Ba(p:Sg->Bool)(l:List Sg)(hl:l.length<=1000000000000)(σ:aA){F:Nat}{caps:List AV}(hF:∀x∈l,ACalls Tryz.prog F (encS x::caps) σ (λr σ'=>r= .ret (.bool (p x))/\σ'=σ)):
  C_ 191 [.slice (l.map encS) .no, .fn F [] caps] σ (.int .i64 (de p l)) σ:=
 cA (sz:=4) (g:=true) mixed Tryz.func191 (by kernel_rfl) (by kernel_rfl) rfl (by kernel_rfl) (λ_=>rfl) (λ_=>rfl) p l hl hF
theorem tD(p:Sg->Bool)(l:List Sg)(hl:l.length<=1000000000000)(σ:aA){F:Nat}{caps:List AV}(hF:∀x∈l,ACalls Tryz.prog F (encS x::caps) σ (λr σ'=>r= .ret (.bool (p x))/\σ'=σ)):
  C_ 125 [.slice (l.map encS) .no, .fn F [] caps] σ (.bool (l.any p)) σ:=
 bQ mixed Tryz.func125 (by kernel_rfl) (by kernel_rfl) rfl (by kernel_rfl) p l (Ba p l hl σ hF)
theorem Ep(l:List Sg)(σ:aA)(h:l.length<=1000000):
  C_ 128 [.slice (l.map encS) .no] σ (.slice (l.map encS) .no) σ:=by
 refine gO [] Tryz.func128 (by kernel_rfl) (by conv=>lhs;reduce;dsimp only[iA]) rfl ?_;cases l with
 |nil=>
  repeat' simp -implicitDefEqProofs -dsimp only[go_sem,seval,List.map_nil, *]
  refine⟨?_,?_⟩
  ·refine fin_eq ?_;(repeat' simp -implicitDefEqProofs -dsimp only[go_sem,seval,List.map_nil, *])
  ·refine fin_eq ?_;(repeat' simp -implicitDefEqProofs -dsimp only[go_sem,seval,List.map_nil, *])
 |cons x l=>
  have h':l.length<=999999:=by simp only[List.length_cons] at h;omega
  repeat' (first|simp -implicitDefEqProofs -dsimp only[go_sem,seval,List.map_cons, *]|simp(disch:=omega) only[ah,aj,ao,aw,ar,ag,au,aq]|with_reducible refine Zv ?_ ?_|(with_reducible refine Zt λoF hoF hnF hnF'=>?_;try simp only[aa,ne_eq,not_and] at hoF)|omega)
  all_goals first|(exfalso;simp at hq;done)|skip
  refine fin_eq ?_;(repeat' simp -implicitDefEqProofs -dsimp only[go_sem,seval,List.map_cons,List.nil_append, *])
theorem Er(s:Sg)(σ:aA)(h:1<=s.w/\s.w<=64)(hw:MD s):C_ 126 [encS s] σ (.bool (!holds s.w s.init)) σ:=by
 have hc:=λτ=>lU s.w s.init τ (by omega) hw.2.2;clear hw;refine gO [1] Tryz.func126 (by kernel_rfl) (by conv=>lhs;reduce;dsimp only[iA]) rfl ?_;repeat' (first|simp -implicitDefEqProofs -dsimp only[go_sem,seval, *]|with_reducible refine kc1 (hc _) ?_|refine fin_eq ?_)
def M1(e:E):Bool:=decide (nodes e<=1000)&&decide (deep e<=100)
end Go.Proofs.YtbbihmmobfmadaaGreat.S
namespace Go.Proofs.YtbbihmmobfmadaaGreat.S
open Abs Fil Fil.Sz
theorem xG{β γ:Type}{l:List γ}{f:γ->Int->β×Int}{e:Int}{P:Nat->List β×Int}(hP:∀i,P i=bq ((l.map f).take i) e):
  P 0=([],e)/\(∀i,i<=l.length->(P i).1.length=i)/\P l.length=bq (l.map f) e/\
  (∀i,(h:i<l.length)->P (i+1)=((P i).1++[(f l[i] (P i).2).1],(f l[i] (P i).2).2)):=by
 refine⟨by rw[hP];rfl,λi hi=>?_,?_,λi h=>?_⟩
 ·rw[hP,gH,List.length_take,List.length_map];omega
 ·rw[hP];congr 1;exact List.take_of_length_le (by simp)
 ·rw[hP,hP,fC (by simpa using h),List.getElem_map]
theorem Zw(σ:aA)(o o':Nat)(x:AObj):(aH σ o x o'=none)=(¬o'=o/\¬o=o'/\σ o'=none):=by
 simp only[aH];by_cases h:o'=o
 ·simp[h]
 ·have h2:¬o=o':=λe=>h e.symm;simp[h,h2]
theorem H9(d:Flat)(σ:aA)(hd:Sm d)(hw:WfD d):C_ 69 [encD d] σ (.tup [encD (bE d).1, .int .i64 (bE d).2]) σ:=by
 have l1:=hd.1;have l2:=hd.2.1;have l3:=hd.2.2.1;have c1:=λτ=>HM d τ hd;have c2:=λτ=>A6 d τ hd hw;have c3:=fun(h:dg d.sigs) τ=>tD (λs=> !holds s.w s.init) d.sigs (by omega) τ (F:=126) (caps:=[]) λx hx=>Er x τ (h x hx) (hw.sigs x hx);have c4:=fun(h:d.sigs.length<=1000000) τ=>Ep d.sigs τ h
 have hlen:eN d=true->d.sigs.length<=1000000:=λh=>by
  unfold eN at h;simp only[decide_eq_true_eq] at h;omega
 have k2:=yV (d:=d);have k1:=yW (d:=d);have k9:=vi (d:=d);have kg:=vg (d:=d);have hso:bH d=true->dg d.sigs:=λh=>fy (dk.1 h).1
 have conP:=fun(h:bH d=true) (p:Pr) (hp:p∈d.procs) (t:T) (ht:t∈p.l) (o:Nat) (e0:Int) (τ:aA) (hτ:τ o=some (iu d.sigs e0))=>
  tz d.sigs (hso h) (by omega) p.clk o t 0 e0 τ hτ (yT _ _ (.inl (List.all_eq_true.1 (List.all_eq_true.1 (dk.1 h).2.1 p hp) t ht))) (by have h:=hO hd hp;unfold aZ at h;have:=bu (f:=nodesT) ht;omega) (hw.procs p hp t ht) (by omega)
 have conL:=fun(p:Pr) (hp:p∈d.procs)=>(show p.l.length<=16777216 by have h:=hO hd hp;unfold aZ at h;have:=cq bG p.l;omega)
 have conC:=fun(h:bH d=true) (x:Ck) (hx:x∈d.chks) (o:Nat) (e0:Int) (τ:aA) (hτ:τ o=some (iu d.sigs e0))=>
  yR o d.sigs (hso h) e0 x.e (-1) τ hτ (List.all_eq_true.1 (dk.1 h).2.2 x hx) (jL hd hx) (hw.chks x hx) (by omega)
 have hfl:(d.sigs.any λs=> !holds s.w s.init)= !ip d:=by
  have:ip d=d.sigs.all λs=>holds s.w s.init:=rfl
  rw[this,ig,Bool.not_not]
 rw[hfl] at c3;clear hfl hw hd;generalize hR:bE d=R at k2 k1 k9 kg|-;clear hR;obtain⟨P,hP⟩:∃P:Nat->List Pr×Int,∀i,P i=bq ((d.procs.map (Dr d.sigs)).take i) 0:=⟨_,λ_=>rfl⟩;obtain⟨p0,pl,pe,ps⟩:=xG hP;have hpe:bq (d.procs.map (Dr d.sigs)) 0=fg d:=rfl;rw[hpe] at pe;obtain⟨Q,hQ⟩:∃Q:Nat->List Ck×Int,∀i,Q i=bq ((d.chks.map yC).take i) (fg d).2:=⟨_,λ_=>rfl⟩;obtain⟨q0,ql,qe,qs⟩:=xG hQ;have hqe:bq (d.chks.map yC) (fg d).2=fh d:=rfl;rw[hqe] at qe;clear hP hQ hpe hqe;obtain⟨A,hA⟩:∃A,eN d=A:=⟨_,rfl⟩;obtain⟨B,hB⟩:∃A,bH d=A:=⟨_,rfl⟩;obtain⟨C,hC⟩:∃A,ip d=A:=⟨_,rfl⟩;rw[hA] at c1 k2 k1 k9 kg hlen;rw[hB] at c2 k1 k9 kg hso conP conC;rw[hC] at c3 k9 kg;clear hA hB hC;refine ACalls.virt (by kernel_rfl) 2 (λoV1 hoV1 hnV1 hnV1'=>?_);(try simp only[aa,ne_eq,not_and] at hoV1);refine ACalls.virt (by kernel_rfl) 9 (λoV2 hoV2 hnV2 hnV2'=>?_);(try simp only[aa,ne_eq,not_and] at hoV2);refine gO [1] Tryz.func69 (by kernel_rfl) (by conv=>lhs;reduce;dsimp only[iA,iB]) rfl ?_;cases A
 ·rw[k2 rfl,d6];clear k2 k1 k9 kg hso conP conL conC pl ps pe p0 ql qs qe q0 c2 c3 c4 hlen;repeat' (first|simp -implicitDefEqProofs -dsimp only[go_sem,seval, *]|simp(disch:=omega) only[ah,aj,ao,aw,ar,ag,au,aq]|(with_reducible refine Zt λoF hoF hnF hnF'=>?_;clear hnF hnF';try simp only[Zw,ne_eq] at hoF)|with_reducible refine kc1 (c1 _) ?_|refine fin_eq ?_)
 cases B
 ·rw[k1 rfl rfl,d6];clear k2 k1 k9 kg hso conP conL conC pl ps pe p0 ql qs qe q0 c3 c4 hlen;repeat' (first|simp -implicitDefEqProofs -dsimp only[go_sem,seval, *]|simp(disch:=omega) only[ah,aj,ao,aw,ar,ag,au,aq]|(with_reducible refine Zt λoF hoF hnF hnF'=>?_;clear hnF hnF';try simp only[Zw,ne_eq] at hoF)|with_reducible refine kc1 (c1 _) ?_|with_reducible refine kc1 (c2 _) ?_|refine fin_eq ?_)
 have c3':=c3 (hso rfl);cases C
 ·rw[k9 rfl rfl rfl,d6];clear k2 k1 k9 kg hso conP conL conC pl ps pe p0 ql qs qe q0 c3 c4 hlen;repeat' (first|simp -implicitDefEqProofs -dsimp only[go_sem,seval, *]|simp(disch:=omega) only[ah,aj,ao,aw,ar,ag,au,aq]|(with_reducible refine Zt λoF hoF hnF hnF'=>?_;clear hnF hnF';try simp only[Zw,ne_eq] at hoF)|with_reducible refine kc1 (c1 _) ?_|with_reducible refine kc1 (c2 _) ?_|with_reducible refine kc1 (c3' _) ?_|refine fin_eq ?_)
 have kg:=kg rfl rfl rfl;replace conP:=conP rfl;replace conC:=conC rfl;replace c4:=c4 (hlen rfl);clear k2 k1 k9 hso c3 hlen;repeat' (first|simp -implicitDefEqProofs -dsimp only[go_sem,seval, *]|(with_reducible refine Zt λoF hoF hnF hnF'=>?_;clear hnF hnF';try simp only[Zw,ne_eq] at hoF)|with_reducible refine kc1 (c1 _) ?_|with_reducible refine kc1 (c2 _) ?_|with_reducible refine kc1 (c3' _) ?_|with_reducible refine kc1 (c4 _) ?_)
 rename_i oA hoA oB hoB
 obtain⟨oC,eC⟩:∃x,x=oF:=⟨oF,rfl⟩;subst eC;have hoC:=hoF;obtain⟨a13,a14⟩:=hoV2;have b10:¬oV1=oV2:=λe=>a13 e.symm;clear hoF hnV1 hnV1' hnV2 hnV2' c1 c2 c3' c4
 refine loop_rule (λi:Nat=>[(39,some (.int .i64 i)),(38,some (.int .i64 d.procs.length)),(37,some (.slice (d.procs.map encP) .no)),(4,some (.ptr oB 0)),(5,some (.ptr oC 0)),(1,some (.cptr (dL d))),(2,some (.ptr oA 0))])
  (λi=>aH (aH (aH (aH (aH σ oV1 (.grow 2 i)) oV2 (.virt 9)) oA (.cells [.slice [] .nil, .slice [] .nil, .slice [] .nil])) oC (.cells [.slice (d.sigs.map encS) .no, .slice ((P i).1.map encP) (.own oV1), .slice [] .nil])) oB (iu d.sigs (P i).2))
  (λi=>i<=d.procs.length) (λi=>d.procs.length-i) 0 ?_ ?_
 ·clear conP conL conC pl ps pe ql qs qe q0 kg;(repeat' (first|simp -implicitDefEqProofs -dsimp only[go_sem,seval,List.map_nil, *]|omega))
 ·intro i hi;by_cases hlt:i<d.procs.length
  ·have hc:=conP d.procs[i] (List.getElem_mem hlt);have hll:=conL d.procs[i] (List.getElem_mem hlt);have h3:=ps i hlt;have h5:=pl i hi;clear conP conL conC pl ps pe p0 ql qs qe q0 kg;obtain⟨⟨X,e0⟩,hX⟩:∃X,P i=X:=⟨_,rfl⟩;rw[hX] at h3 h5|-;simp only at h3 h5;clear hX;repeat' (first|simp -implicitDefEqProofs -dsimp only[go_sem,seval, *]|simp(disch:=omega) only[ah,aj,ao,aw,ar,ag,au,aq]|with_reducible refine Zu ?_ ?_|(with_reducible refine Zt λoF hoF hnF hnF'=>?_;clear hnF hnF';try simp only[Zw,ne_eq] at hoF))
   rename_i oP hoP
   obtain⟨oX,eX⟩:∃x,x=oF:=⟨oF,rfl⟩;subst eX;have hoX:=hoF;clear hoF;obtain⟨U,hU⟩:∃U:Nat->List T×Int,∀k,U k=bq ((d.procs[i].l.map λx=>gJ d.sigs d.procs[i].clk x 0).take k) e0:=⟨_,λ_=>rfl⟩;obtain⟨u0,ul,ue,us⟩:=xG hU;have hpr:P (i+1)=(X++[⟨d.procs[i].clk,(U d.procs[i].l.length).1⟩],(U d.procs[i].l.length).2):=by rw[h3,ue];rfl
   clear h3 ue hU
   refine loop_rule (X:=Option (Nat×Nat)) (λx=>match x with|none=>[(49,some (.int .i64 0)),(48,some (.int .i64 d.procs[i].l.length)),(47,some (.slice (d.procs[i].l.map encT) .no)),(8,some (.ptr oX 0)),(4,some (.ptr oB 0)),(7,some (.ptr oP 0)),(5,some (.ptr oC 0)),(39,some (.int .i64 i)),(1,some (.cptr (dL d))),(2,some (.ptr oA 0)),(38,some (.int .i64 d.procs.length)),(37,some (.slice (d.procs.map encP) .no))]|some (k,_)=>[(49,some (.int .i64 k)),(48,some (.int .i64 d.procs[i].l.length)),(47,some (.slice (d.procs[i].l.map encT) .no)),(8,some (.ptr oX 0)),(4,some (.ptr oB 0)),(7,some (.ptr oP 0)),(5,some (.ptr oC 0)),(39,some (.int .i64 i)),(1,some (.cptr (dL d))),(2,some (.ptr oA 0)),(38,some (.int .i64 d.procs.length)),(37,some (.slice (d.procs.map encP) .no))])
    (λx=>match x with
     |none=>aH (aH (aH (aH (aH (aH (aH σ oV1 (.grow 2 i)) oV2 (.virt 9)) oA (.cells [.slice [] .nil, .slice [] .nil, .slice [] .nil])) oC (.cells [.slice (d.sigs.map encS) .no, .slice (X.map encP) (.own oV1), .slice [] .nil])) oP (.cells [.bool d.procs[i].clk, .slice (d.procs[i].l.map encT) .no])) oX (.cells [.bool d.procs[i].clk, .slice [] .nil])) oB (iu d.sigs e0)
     |some (k,o)=>aH (aH (aH (aH (aH (aH (aH (aH σ oV1 (.grow 2 i)) oV2 (.virt 9)) oA (.cells [.slice [] .nil, .slice [] .nil, .slice [] .nil])) oC (.cells [.slice (d.sigs.map encS) .no, .slice (X.map encP) (.own oV1), .slice [] .nil])) oP (.cells [.bool d.procs[i].clk, .slice (d.procs[i].l.map encT) .no])) oX (.cells [.bool d.procs[i].clk, .slice ((U k).1.map encT) (.own o)])) o (.grow 6 k)) oB (iu d.sigs (U k).2))
    (λx=>match x with
     |none=>True
     |some (k,o)=>(1<=k/\k<=d.procs[i].l.length)/\(¬o=oB/\¬oB=o)/\(¬o=oX/\¬oX=o)/\(¬o=oP/\¬oP=o)/\(¬o=oC/\¬oC=o)/\(¬o=oA/\¬oA=o)/\(¬o=oV2/\¬oV2=o)/\(¬o=oV1/\¬oV1=o)/\σ o=none)
    (λx=>match x with|none=>d.procs[i].l.length+1|some (k,_)=>d.procs[i].l.length-k) none ?_ ?_
   ·clear hc hpr us ul u0;(repeat' simp -implicitDefEqProofs -dsimp only[go_sem,seval, *])
   ·rintro(_|⟨k,o⟩) hiv
    ·dsimp only at hiv|-
     by_cases hpos:0<d.procs[i].l.length
     ·have hposI:(0:Int)<(d.procs[i].l.length:Nat):=by omega
      have hx:=bA d.procs[i].l[0];have hcs:=hc d.procs[i].l[0] (List.getElem_mem hpos) oB e0;have g1:=us 0 hpos;rw[u0] at g1;obtain⟨⟨y,f⟩,hY⟩:∃Y,gJ d.sigs d.procs[i].clk d.procs[i].l[0] 0 e0=Y:=⟨_,rfl⟩;simp only at g1;rw[hY] at g1 hcs;simp only[List.nil_append,Nat.zero_add] at g1;clear hc hpr us ul u0 hY hiv;repeat' (first|simp -implicitDefEqProofs -dsimp only[go_sem,seval, *]|simp(disch:=omega) only[ah,aj,ao,aw,ar,ag,au,aq]|with_reducible refine Zu ?_ ?_|(with_reducible refine Zt λoF hoF hnF hnF'=>?_;clear hnF hnF';try simp only[Zw,ne_eq] at hoF)|with_reducible refine id_one1 (λtS hS=>ACalls.flA (hcs _ ?_) ?_) ?_ ?_|with_reducible refine Sub.get (by assumption) ?_|(with_reducible refine lnx (some (1,oF)) ?_;repeat' (first|simp -implicitDefEqProofs -dsimp only[go_sem,seval,List.map_cons,List.map_nil, *]|with_reducible refine And.intro ?_ ?_))|omega)
     ·have hz:d.procs[i].l.length=0:=by omega
      rw[hz,u0] at hpr
      have g5:(P (i+1)).1.map encP=X.map encP++[.agg [.bool d.procs[i].clk, .slice [] .no]]:=by
       rw[hpr,List.map_append,List.map_cons,List.map_nil];rfl
      have g6:(P (i+1)).2=e0:=by rw[hpr]
      clear hc hpr us ul u0 hiv;repeat' (first|simp -implicitDefEqProofs -dsimp only[go_sem,seval, *]|simp(disch:=omega) only[ah,aj,ao,aw,ar,ag,au,aq]|with_reducible refine Zv ?_ ?_|with_reducible refine lnx (i+1) ?_|with_reducible refine And.intro ?_ ?_|omega)
      rw[mh];refine tC _ _ ?_;(repeat' simp -implicitDefEqProofs -dsimp only[go_sem,seval, *])
    ·dsimp only at hiv|-
     obtain⟨⟨hk1,hk2⟩,hof⟩:=hiv;by_cases hkt:k<d.procs[i].l.length
     ·have hx:=bA d.procs[i].l[k];have hcs:=hc d.procs[i].l[k] (List.getElem_mem hkt) oB (U k).2;have g1:=us k hkt;have g2:=ul k (by omega);obtain⟨⟨Z,e1⟩,hZ⟩:∃Z,U k=Z:=⟨_,rfl⟩;rw[hZ] at g1 g2 hcs|-;simp only at g1 g2;obtain⟨⟨y,f⟩,hY⟩:∃Y,gJ d.sigs d.procs[i].clk d.procs[i].l[k] 0 e1=Y:=⟨_,rfl⟩;simp only at hcs;rw[hY] at g1 hcs;simp only at g1;clear hc hpr us ul u0 hY hZ;repeat' (first|simp -implicitDefEqProofs -dsimp only[go_sem,seval, *]|simp(disch:=omega) only[ah,aj,ao,aw,ar,ag,au,aq]|with_reducible refine Zv ?_ ?_|with_reducible refine Zu ?_ ?_|(with_reducible refine Zt λoF hoF hnF hnF'=>?_;clear hnF hnF';try simp only[Zw,ne_eq] at hoF)|with_reducible refine id_one1 (λtS hS=>ACalls.flA (hcs _ ?_) ?_) ?_ ?_|with_reducible refine Sub.get (by assumption) ?_|(with_reducible refine lnx (some (k+1,o)) ?_;repeat' (first|simp -implicitDefEqProofs -dsimp only[go_sem,seval,List.map_append,List.map_cons,List.map_nil, *]|with_reducible refine And.intro ?_ ?_))|omega)
     ·have ek:k=d.procs[i].l.length:=by omega
      subst ek;have g2:=ul _ hk2;obtain⟨⟨Z,e1⟩,hZ⟩:∃Z,U d.procs[i].l.length=Z:=⟨_,rfl⟩;rw[hZ] at hpr g2|-;simp only at hpr g2
      have g5:(P (i+1)).1.map encP=X.map encP++[.agg [.bool d.procs[i].clk, .slice (Z.map encT) .no]]:=by
       rw[hpr,List.map_append,List.map_cons,List.map_nil]
      have g6:(P (i+1)).2=e1:=by rw[hpr]
      clear hc hpr us ul u0 hZ;repeat' (first|simp -implicitDefEqProofs -dsimp only[go_sem,seval, *]|simp(disch:=omega) only[ah,aj,ao,aw,ar,ag,au,aq]|with_reducible refine Zv ?_ ?_|with_reducible refine lnx (i+1) ?_|with_reducible refine And.intro ?_ ?_|omega)
      rw[mh];refine tC _ _ ?_;(repeat' simp -implicitDefEqProofs -dsimp only[go_sem,seval, *])
  ·have ei:i=d.procs.length:=by omega
   subst ei;have hX:=pl _ (Nat.le_refl _);rw[pe] at hX|-;clear conP conL pl ps pe p0;have good:∀cs f,fh d=(cs,f)->R=if f≠0 then (zD,f) else (⟨d.sigs,(fg d).1,cs⟩,0):=λcs f h=>by rw[kg,h]
   obtain⟨⟨X,e0⟩,hXX⟩:∃X,fg d=X:=⟨_,rfl⟩;rw[hXX] at hX good q0|-;simp only at hX good q0;clear hXX kg;repeat' simp -implicitDefEqProofs -dsimp only[go_sem,seval, *]
   refine loop_rule (λk:Nat=>[(74,some (.int .i64 k)),(73,some (.int .i64 d.chks.length)),(72,some (.slice (d.chks.map encC) .no)),(5,some (.ptr oC 0)),(4,some (.ptr oB 0)),(2,some (.ptr oA 0))])
    (λk=>aH (aH (aH (aH (aH σ oV1 (.grow 2 d.procs.length)) oV2 (.grow 9 k)) oA (.cells [.slice [] .nil, .slice [] .nil, .slice [] .nil])) oC (.cells [.slice (d.sigs.map encS) .no, .slice (X.map encP) (.own oV1), .slice ((Q k).1.map encC) (.own oV2)])) oB (iu d.sigs (Q k).2))
    (λk=>k<=d.chks.length) (λk=>d.chks.length-k) 0 ?_ ?_
   ·clear conC ql qs qe good;(repeat' (first|simp -implicitDefEqProofs -dsimp only[go_sem,seval,List.map_nil, *]|omega))
   ·intro k hk;by_cases hkt:k<d.chks.length
    ·have hc:=conC d.chks[k] (List.getElem_mem hkt) oB;have h3:=qs k hkt;have h5:=ql k hk;obtain⟨⟨Z,e1⟩,hZ⟩:∃Z,Q k=Z:=⟨_,rfl⟩;rw[hZ] at h3 h5|-;simp only at h3 h5;replace hc:=hc e1;have hck:yC d.chks[k] e1=(⟨d.chks[k].name,(bL d.chks[k].e (-1) e1).1⟩,(bL d.chks[k].e (-1) e1).2):=rfl;obtain⟨⟨y,f⟩,hY⟩:∃Y,bL d.chks[k].e (-1) e1=Y:=⟨_,rfl⟩;rw[hY] at hc hck;rw[hck] at h3
     have g5:(Q (k+1)).1.map encC=Z.map encC++[encC ⟨d.chks[k].name,y⟩]:=by
      rw[h3,List.map_append,List.map_cons,List.map_nil]
     have g6:(Q (k+1)).2=f:=by rw[h3]
     clear conC ql qs qe q0 good hY hZ hck h3;repeat' (first|simp -implicitDefEqProofs -dsimp only[go_sem,seval, *]|simp(disch:=omega) only[ah,aj,ao,aw,ar,ag,au,aq]|with_reducible refine Zv ?_ ?_|with_reducible refine Zu ?_ ?_|(with_reducible refine Zt λoF hoF hnF hnF'=>?_;clear hnF hnF';try simp only[Zw,ne_eq] at hoF)|with_reducible refine id_one1 (λtS hS=>hc _ ?_) ?_ ?_|with_reducible refine Sub.get (by assumption) ?_|with_reducible refine lnx (k+1) ?_|with_reducible refine And.intro ?_ ?_|omega)
    ·have ek:k=d.chks.length:=by omega
     subst ek;have hZ:=ql _ (Nat.le_refl _);rw[qe] at hZ|-;have g4:=good (fh d).1 (fh d).2 rfl;obtain⟨⟨Z,f⟩,hZZ⟩:∃Z,fh d=Z:=⟨_,rfl⟩;rw[hZZ] at hZ g4|-;simp only at hZ g4;clear conC ql qs qe q0 good hZZ;by_cases hf:f=0
     ·rw[if_neg (by omega)] at g4;subst hf;rw[g4];clear g4;repeat' (first|simp -implicitDefEqProofs -dsimp only[go_sem,seval, *]|simp(disch:=omega) only[ah,aj,ao,aw,ar,ag,au,aq]|refine fin_eq ?_)
     ·have hfb:(f != 0)=true:=by simpa using hf
      rw[if_pos hf] at g4;rw[g4,d6];clear g4 hf;repeat' (first|simp -implicitDefEqProofs -dsimp only[go_sem,seval, *]|simp(disch:=omega) only[ah,aj,ao,aw,ar,ag,au,aq]|refine fin_eq ?_)
theorem sz_Check(d:Flat)(σ:aA)(hd:Sm d)(hw:WfD d):C_ 34 [encD d] σ (.int .i64 (checkD d)) σ:=by
 have c1:=λτ=>H9 d τ hd hw;have hm:=vj hd;have c2:=λτ=>HK (bE d).1 d τ hm hd;have hc:=ma (d:=d);obtain⟨⟨x,f⟩,hR⟩:∃R,bE d=R:=⟨_,rfl⟩;rw[hR] at c1 c2 hc;simp only at hc;generalize hC:checkD d=C at hc|-;generalize hs:same x d=s at c2 hc;clear hR hC hs hm hd hw;refine gO [1] Tryz.func34 (by kernel_rfl) (by conv=>lhs;reduce;dsimp only[iA]) rfl ?_;by_cases hf:f=0
 ·rw[if_neg (by omega)] at hc;subst hf;cases s
  ·rw[if_pos rfl] at hc;subst hc;repeat' (first|simp -implicitDefEqProofs -dsimp only[go_sem,seval, *]|simp(disch:=omega) only[ah,aj,ao,aw,ar,ag,au,aq]|(with_reducible refine Zt λoF hoF hnF hnF'=>?_;clear hnF hnF';try simp only[Zw,ne_eq] at hoF)|with_reducible refine kc1 (c1 _) ?_|with_reducible refine kc1 (c2 _) ?_|refine fin_eq ?_)
  ·rw[if_neg (by simp)] at hc;subst hc;repeat' (first|simp -implicitDefEqProofs -dsimp only[go_sem,seval, *]|simp(disch:=omega) only[ah,aj,ao,aw,ar,ag,au,aq]|(with_reducible refine Zt λoF hoF hnF hnF'=>?_;clear hnF hnF';try simp only[Zw,ne_eq] at hoF)|with_reducible refine kc1 (c1 _) ?_|with_reducible refine kc1 (c2 _) ?_|refine fin_eq ?_)
 ·rw[if_pos hf] at hc;have hfb:(f==0)=false:=by simpa using hf
  subst hc;clear hf c2;repeat' (first|simp -implicitDefEqProofs -dsimp only[go_sem,seval, *]|simp(disch:=omega) only[ah,aj,ao,aw,ar,ag,au,aq]|(with_reducible refine Zt λoF hoF hnF hnF'=>?_;clear hnF hnF';try simp only[Zw,ne_eq] at hoF)|with_reducible refine kc1 (c1 _) ?_|refine fin_eq ?_)
end Go.Proofs.YtbbihmmobfmadaaGreat.S
