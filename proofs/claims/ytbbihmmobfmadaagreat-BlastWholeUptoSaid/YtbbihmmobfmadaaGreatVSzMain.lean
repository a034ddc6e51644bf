/- Plain laws of layer 9: what is sized is sized once. -/
import Derived.Test.YtbbihmmobfmadaaGreatVSzLaw
import Derived.Test.YtbbihmmobfmadaaGreatVAbsEq
set_option linter.unusedSimpArgs false
set_option linter.unusedVariables false
namespace Fil.Sz
open Abs
open Classical in
noncomputable def same{α:Type}(a b:α):Bool:=decide (a=b)
theorem d7{α:Type}{a b:α}:same a b=true↔a=b:=by simp[same]
theorem fc{α:Type}{a b:α}:same a b=false↔¬a=b:=by simp[same]
theorem o7(b:ByteArray):∀(k i:Nat) (r:List UInt8),b.size-i=k->i<=b.size->ByteArray.toList.loop b i r=r.reverse++b.data.toList.drop i
 |0,i,r,hk,hi=>by
  have:i=b.size:=by omega
  subst this;rw[ByteArray.toList.loop,if_neg (Nat.lt_irrefl _)];have:b.data.toList.drop b.size=[]:=List.drop_eq_nil_of_le (by rw[Array.length_toList];exact Nat.le_refl _)
  rw[this,List.append_nil]
 |k+1,i,r,hk,hi=>by
  have hlt:i<b.size:=by omega
  rw[ByteArray.toList.loop,if_pos hlt,o7 b k (i+1) _ (by omega) (by omega)];have hl:i<b.data.toList.length:=by rw[Array.length_toList];exact hlt
  rw[List.drop_eq_getElem_cons hl,List.reverse_cons,List.append_assoc];congr 1
  rw[List.singleton_append];congr 1
  have h3:i<b.data.size:=hlt;show b.data[i]! =b.data.toList[i]
  rw[getElem!_pos b.data i h3,Array.getElem_toList]
theorem o9(b:ByteArray):b.toList=b.data.toList:=by
 unfold ByteArray.toList;rw[o7 b b.size 0 [] (by omega) (by omega)];rfl
theorem la{a b:ByteArray}:a.toList=b.toList↔a=b:=by
 constructor
 ·intro h;rw[o9,o9] at h;cases a;cases b
  simp only[ByteArray.mk.injEq];exact Array.toList_inj.1 h
 ·rintro rfl;rfl
def jm:ByteArray:=⟨#[]⟩
def md(s:Sg):Prop:=¬s.name=jm/\1<=s.w/\s.w<=64/\1<=s.kind/\s.kind<=4/\(s.kind=4\/s.init=0)
def za(l:List Sg)(i:Nat):Prop:=∀j,(h:j<l.length)->j<i->md l[j]/\∀k,(hk:k<j)->¬(l[k]'(by omega)).name=l[j].name
open Classical in
noncomputable def ct(l:List Sg):Bool:=decide (za l l.length)
theorem iJ{l:List Sg}:ct l=true↔za l l.length:=by simp[ct]
theorem fe{l:List Sg}(h:ct l=true):df l:=λs hs=>by
 obtain⟨i,hi,rfl⟩:=List.getElem_of_mem hs;have:=(iJ.1 h i hi hi).1
 exact⟨this.2.1,this.2.2.1⟩
theorem pc{l:List Sg}{i:Nat}(hi:i<l.length)(h:¬(md l[i]/\∀k,(hk:k<i)->¬(l[k]'(by omega)).name=l[i].name)):ct l=false:=by
 cases hs:ct l with
 |false=>rfl
 |true=>exact(h (iJ.1 hs i hi hi)).elim
theorem qL{l:List Sg}{i:Nat}(hi:i<l.length)(h:za l i)(h2:md l[i]/\∀k,(hk:k<i)->¬(l[k]'(by omega)).name=l[i].name):za l (i+1):=λj hj hji=>by
 rcases Nat.lt_or_ge j i with q|q
 ·exact h j hj q
 ·obtain rfl:j=i:=by omega
  exact h2
def bP(x:E)(w:Int)(e0:Int):E×Int:=if e0≠0 then (zE,e0) else size x w
def bi{β:Type}:List (Int->β×Int)->Int->List β×Int
 |[],e=>([],e)
 |f::fs,e=>((f e).1::(bi fs (f e).2).1,(bi fs (f e).2).2)
theorem gk{β:Type}:∀(l:List (Int->β×Int)) (e:Int),(bi l e).1.length=l.length
 |[],_=>rfl
 |f::fs,e=>by simp only[bi,List.length_cons,gk fs]
theorem qM{β:Type}(f:Int->β×Int):∀(l:List (Int->β×Int)) (e:Int),bi (l++[f]) e=((bi l e).1++[(f (bi l e).2).1],(f (bi l e).2).2)
 |[],e=>rfl
 |g::l,e=>by simp only[List.cons_append,bi,qM f l]
theorem tG{β:Type}:∀(l m:List (Int->β×Int)) (e:Int),bi (l++m) e=((bi l e).1++(bi m (bi l e).2).1,(bi m (bi l e).2).2)
 |[],m,e=>rfl
 |g::l,m,e=>by simp only[List.cons_append,bi,tG l m]
def kindOf(g:List Sg)(t:T):Int:=(g.getD t.sig.toNat zS).kind
def c9(g:List Sg)(clk:Bool)(t:T)(e0:Int):Int:=if t.op=1/\e0=0/\(kindOf g t=1\/clk≠decide (kindOf g t=4)) then 85 else e0
def dt(t:T)(labels:Int):Int:=if t.op=1 then t.hi-t.lo+1 else if t.op=2 then -1 else if t.op=3 then 0 else labels
def gl(g:List Sg)(clk:Bool)(t:T)(labels e0:Int):List E×Int:=bi (t.e.map λx=>bP x (dt t labels)) (c9 g clk t e0)
def eD(t:T)(labels:Int)(es:List E):Int:=if t.op=3 then dG es else labels
def gm(g:List Sg)(clk:Bool)(t:T):Int->Int->T×Int:=
 let r:=t.l.attach.map λx=>gm g clk x.1
 λlabels e0=>
  let es:=gl g clk t labels e0
  let ls:=bi (r.map λf=>f (eD t labels es.1)) es.2
  (.mk t.op t.sig t.hi t.lo es.1 ls.1,ls.2)
termination_by t
decreasing_by exact T.lt x.2
def fm(g:List Sg)(clk:Bool)(l:List T)(lab e0:Int):List T×Int:=bi (l.map λx=>gm g clk x lab) e0
theorem gS(g:List Sg)(clk:Bool)(t:T)(labels e0:Int):gm g clk t labels e0=
  (.mk t.op t.sig t.hi t.lo (gl g clk t labels e0).1 (fm g clk t.l (eD t labels (gl g clk t labels e0).1) (gl g clk t labels e0).2).1,
   (fm g clk t.l (eD t labels (gl g clk t labels e0).1) (gl g clk t labels e0).2).2):=by
 rw[gm,att t.l (gm g clk)];simp only[List.map_map,fm];rfl
def fK(c:Int)(s:Sg):Nat:=(min s.w c).toNat
def gn(c:Int)(l:List Sg):Nat:=(l.map (fK c)).sum
def aW(p:Pr):Nat:=(p.l.map nodesT).sum
def dh(p:Pr):Nat:=cZ (p.l.map deepT)
def nodesD(d:Flat):Nat:=(d.procs.map aW).sum+(d.chks.map λc=>nodes c.e).sum
def deepD(d:Flat):Nat:=max (cZ (d.procs.map dh)) (cZ (d.chks.map λc=>deep c.e))
def er(d:Flat):Bool:=decide (d.sigs.length<=512/\d.procs.length<=1024/\gn 4097 d.sigs<=4096/\nodesD d<=65536/\deepD d<=64)
noncomputable def bJ(d:Flat):Bool:=ct d.sigs&&d.procs.all (λp=>p.l.all (aY d.sigs))&&d.chks.all (λc=>shp d.sigs c.e)
def gT(d:Flat):Bool:=d.sigs.all λs=>holds s.w s.init
def B6(g:List Sg)(p:Pr)(e0:Int):Pr×Int:=(⟨p.clk,(fm g p.clk p.l 0 e0).1⟩,(fm g p.clk p.l 0 e0).2)
def wY(c:Ck)(e0:Int):Ck×Int:=(⟨c.name,(bP c.e (-1) e0).1⟩,(bP c.e (-1) e0).2)
def eP(d:Flat):List Pr×Int:=bi (d.procs.map (B6 d.sigs)) 0
def eQ(d:Flat):List Ck×Int:=bi (d.chks.map wY) (eP d).2
def zD:Flat:=⟨[],[],[]⟩
noncomputable def bG(d:Flat):Flat×Int:=
 if er d=false then (zD,2) else if bJ d=false then (zD,1) else if gT d=false then (zD,92)
 else if (eQ d).2≠0 then (zD,(eQ d).2) else (⟨d.sigs,(eP d).1,(eQ d).1⟩,0)
noncomputable def cY(d:Flat)(e:E)(want:Int):E×Int:=
 if ct d.sigs=false\/want<0\/64<want\/shp d.sigs e=false then (zE,1) else if 65536<nodes e\/64<deep e then (zE,2) else size e want
open Classical in
noncomputable def checkE(d:Flat)(e:E):Int:=if (cY d e e.w).2=0/\(e.w=0\/¬(cY d e e.w).1=e) then 90 else (cY d e e.w).2
open Classical in
noncomputable def checkD(d:Flat):Int:=if (bG d).2=0/\¬(bG d).1=d then 90 else (bG d).2
structure WfD(d:Flat):Prop where
 sigs:∀s∈d.sigs,J4 s
 procs:∀p∈d.procs,∀t∈p.l,jW t
 chks:∀c∈d.chks,WfE c.e
theorem cP{α:Type}:∀(l m:List α),zX same l m=same l m
 |[],[]=>by simp[zX,same]
 |[],b::m=>by simp[zX,same]
 |a::l,[]=>by simp[zX,same]
 |a::l,b::m=>by
  have ih:=cP l m;simp only[zX,same,List.length_cons,List.zip_cons_cons,List.all_cons] at ih|-;rw[Bool.eq_iff_iff] at ih|-;simp only[Bool.and_eq_true,decide_eq_true_eq,List.cons.injEq,Nat.add_right_cancel_iff] at ih|-;rw[<-ih];exact⟨fun⟨h1,h2,h3⟩=>⟨h2,h1,h3⟩,fun⟨h1,h2,h3⟩=>⟨h2,h1,h3⟩⟩
theorem IY(a b:E):same a b=(decide (a.op=b.op)&&decide (a.w=b.w)&&decide (a.v=b.v)&&decide (a.sig=b.sig)&&decide (a.hi=b.hi)&&decide (a.lo=b.lo)&&decide (a.n=b.n)&&same a.l b.l):=by
 rw[Bool.eq_iff_iff];simp only[Bool.and_eq_true,decide_eq_true_eq,d7,E.eq_iff,and_assoc]
theorem IZ(a b:T):same a b=(decide (a.op=b.op)&&decide (a.sig=b.sig)&&decide (a.hi=b.hi)&&decide (a.lo=b.lo)&&same a.e b.e&&same a.l b.l):=by
 rw[Bool.eq_iff_iff];simp only[Bool.and_eq_true,decide_eq_true_eq,d7,T.eq_iff,and_assoc]
theorem B7(a b:Pr):same a b=(decide (a.clk=b.clk)&&same a.l b.l):=by
 rw[Bool.eq_iff_iff];simp only[Bool.and_eq_true,decide_eq_true_eq,d7];cases a;cases b;simp
theorem B8(a b:Ck):same a b=(decide (a.name=b.name)&&same a.e b.e):=by
 rw[Bool.eq_iff_iff];simp only[Bool.and_eq_true,decide_eq_true_eq,d7];cases a;cases b;simp
theorem I0(a b:Sg):same a b=(decide (a.name=b.name)&&decide (a.w=b.w)&&decide (a.kind=b.kind)&&decide (a.init=b.init)):=by
 rw[Bool.eq_iff_iff];simp only[Bool.and_eq_true,decide_eq_true_eq,d7];cases a;cases b;simp[and_assoc]
theorem B9(a b:Flat):same a b=(same a.sigs b.sigs&&same a.procs b.procs&&same a.chks b.chks):=by
 rw[Bool.eq_iff_iff];simp only[Bool.and_eq_true,d7];cases a;cases b;simp[and_assoc]
theorem cr{α:Type}{f:α->Nat}(h:∀x,1<=f x):∀l:List α,l.length<=(l.map f).sum
 |[]=>Nat.le_refl _
 |a::l=>by have:=h a;have:=cr h l;simp only[List.map_cons,List.sum_cons,List.length_cons];omega
theorem bk{α:Type}{f:α->Nat}{l:List α}{x:α}(h:x∈l):f x<=(l.map f).sum:=by
 induction l with
 |nil=>cases h
 |cons a l ih=>
  simp only[List.map_cons,List.sum_cons];rcases List.mem_cons.1 h with rfl|h
  ·omega
  ·have:=ih h;omega
theorem ii(e:E):1<=nodes e:=by rw[bN];omega
theorem bI(t:T):1<=nodesT t:=by rw[bT];omega
theorem len_nodes(e:E):e.l.length<=nodes e:=by have:=cr ii e.l;rw[bN];omega
theorem bU(t:T):t.e.length<=nodesT t:=by have:=cr ii t.e;rw[bT];omega
theorem dm(t:T):t.l.length<=nodesT t:=by have:=cr bI t.l;rw[bT];omega
theorem bE{t:T}{x:E}(h:x∈t.e):nodes x<nodesT t:=by rw[bT];have:=bk (f:=nodes) h;omega
theorem ck{t x:T}(h:x∈t.l):nodesT x<nodesT t:=by rw[bT t];have:=bk (f:=nodesT) h;omega
end Fil.Sz
namespace Fil.Sz
open Abs
def sumTo{α:Type}(f:α->Nat)(l:List α)(i:Nat):Nat:=((l.take i).map f).sum
def maxTo{α:Type}(f:α->Nat)(l:List α)(i:Nat):Nat:=cZ ((l.take i).map f)
theorem tH(l m:List Nat):cZ (l++m)=max (cZ l) (cZ m):=by
 unfold cZ;induction l with
 |nil=>simp
 |cons a l ih=>simp only[List.cons_append,List.foldr_cons,ih];omega
section
variable {α : Type} {f : α -> Nat} {l : List α} {i : Nat}
theorem bV:sumTo f l 0=0:=by simp[sumTo]
theorem cG:maxTo f l 0=0:=by simp[maxTo,cZ]
theorem bW(h:i<l.length):sumTo f l (i+1)=sumTo f l i+f l[i]:=by
 unfold sumTo;rw[List.take_add_one,List.getElem?_eq_getElem h,List.map_append,List.sum_append,Option.toList_some,List.map_cons,List.map_nil,List.sum_cons,List.sum_nil,Nat.add_zero]
theorem cH(h:i<l.length):maxTo f l (i+1)=max (maxTo f l i) (f l[i]):=by
 unfold maxTo;rw[List.take_add_one,List.getElem?_eq_getElem h,List.map_append,tH];simp[cZ]
theorem cB:sumTo f l l.length=(l.map f).sum:=by simp[sumTo]
theorem de:maxTo f l l.length=cZ (l.map f):=by simp[maxTo]
theorem bt:sumTo f l i<=(l.map f).sum:=by
 unfold sumTo;conv=>rhs;rw[<-List.take_append_drop i l]
 rw[List.map_append,List.sum_append];omega
theorem FO{l:List Nat}{n:Nat}(h:∀a∈l,a<=n):cZ l<=n:=by
 unfold cZ;induction l with
 |nil=>simp
 |cons a l ih=>
  have:=h a (by simp);have:=ih λb hb=>h b (by simp[hb])
  simp only[List.foldr_cons];omega
theorem FP{l:List Nat}{a:Nat}(h:a∈l):a<=cZ l:=by
 unfold cZ;induction l with
 |nil=>cases h
 |cons b l ih=>
  simp only[List.foldr_cons];rcases List.mem_cons.1 h with rfl|h
  ·omega
  ·have:=ih h;omega
theorem du:maxTo f l i<=cZ (l.map f):=by
 unfold maxTo;refine FO λa ha=>?_;obtain⟨x,hx,rfl⟩:=List.mem_map.1 ha;exact FP (List.mem_map_of_mem (List.mem_of_mem_take hx))
end
theorem go(l:List Nat):cZ l<=l.sum:=by
 unfold cZ;induction l with
 |nil=>simp
 |cons a l ih=>simp only[List.foldr_cons,List.sum_cons];omega
theorem gp{α:Type}{f g:α->Nat}{l:List α}(h:∀x∈l,f x<=g x):(l.map f).sum<=(l.map g).sum:=by
 induction l with
 |nil=>simp
 |cons a l ih=>
  have:=h a (by simp);have:=ih λb hb=>h b (by simp[hb])
  simp only[List.map_cons,List.sum_cons];omega
theorem nw(e:E):deep e<=nodes e:=by
 refine E.ind (P:=λe=>deep e<=nodes e) (λe ih=>?_) e;rw[kY,bN];have:=go (e.l.map deep)
 have:=gp (f:=deep) (g:=nodes) ih
 omega
theorem lf(t:T):deepT t<=nodesT t:=by
 refine T.ind (P:=λt=>deepT t<=nodesT t) (λt ih=>?_) t;rw[jk,bT];have:=go (t.e.map deep)
 have:=gp (f:=deep) (g:=nodes) (l:=t.e) λx _=>nw x
 have:=go (t.l.map deepT)
 have:=gp (f:=deepT) (g:=nodesT) ih
 omega
theorem Ca(p:Pr):dh p<=aW p:=by
 unfold dh aW;have:=go (p.l.map deepT)
 have:=gp (f:=deepT) (g:=nodesT) (l:=p.l) λx _=>lf x
 omega
theorem tI(d:Flat):deepD d<=nodesD d:=by
 unfold deepD nodesD;have:=go (d.procs.map dh)
 have:=gp (f:=dh) (g:=aW) (l:=d.procs) λx _=>Ca x
 have:=go (d.chks.map λc=>deep c.e)
 have:=gp (f:=λc:Ck=>deep c.e) (g:=λc=>nodes c.e) (l:=d.chks) λx _=>nw x.e
 omega
theorem Cb(l:List Sg):gn 5000 l<=4096↔gn 4097 l<=4096:=by
 by_cases h:∀s∈l,s.w<=4096
 ·have:l.map (fK 5000)=l.map (fK 4097):=List.map_congr_left λs hs=>by
   have:=h s hs;unfold fK;omega
  unfold gn;rw[this]
 ·have⟨s,hs,hw⟩:∃s∈l,¬s.w<=4096:=by
   simp only[Classical.not_forall] at h;obtain⟨s,hs,hw⟩:=h;exact⟨s,hs,hw⟩
  have h1:=bk (f:=fK 5000) hs;have h2:=bk (f:=fK 4097) hs;unfold gn;unfold fK at h1 h2|-;omega
theorem pd(c:Nat)(l:List Sg):gn c l<=c*l.length:=by
 unfold gn;induction l with
 |nil=>simp
 |cons a l ih=>
  have:fK c a<=c:=by unfold fK;omega
  simp only[List.map_cons,List.sum_cons,List.length_cons];rw[Nat.mul_succ];omega
end Fil.Sz
namespace Fil.Sz
open Abs
abbrev pX(L:List ByteArray):List (AV×AV):=L.map λs=>(.str s, .bool true)
theorem jK(a b:ByteArray):(a.toList==b.toList)=decide (a=b):=by
 rw[Bool.eq_iff_iff];simp[la]
theorem wZ{s:ByteArray}:∀{L:List ByteArray},s∈L->kn (.one 2) (.str s) (pX L)=some (some (.bool true))
 |a::L,h=>by
  simp only[pX,List.map_cons,kn,fN,qd,jK];by_cases c:s=a
  ·simp[c]
  ·have:=wZ (L:=L) ((List.mem_cons.1 h).resolve_left c)
   simpa [c] using this
theorem pf{s:ByteArray}:∀{L:List ByteArray},s∉L->kn (.one 2) (.str s) (pX L)=some none
 |[],_=>rfl
 |a::L,h=>by
  simp only[pX,List.map_cons,kn,fN,qd,jK];have c:¬s=a:=λe=>h (by simp[e]);have:=pf (s:=s) (L:=L) (λhm=>h (List.mem_cons_of_mem _ hm))
  simpa [c] using this
theorem w9{s:ByteArray}:∀{L:List ByteArray},s∉L->sG (.one 2) (.str s) (.bool true) (pX L)=some (pX (L++[s]))
 |[],_=>rfl
 |a::L,h=>by
  simp only[pX,List.map_cons,List.cons_append,sG,fN,qd,jK];have c:¬s=a:=λe=>h (by simp[e]);have:=w9 (s:=s) (L:=L) (λhm=>h (List.mem_cons_of_mem _ hm))
  simp only[pX,List.map_append,List.map_cons,List.map_nil] at this|-;simp[c,this]
theorem FQ(s:ByteArray):jQ (.one 2) (.str s)=true:=by simp[jQ,fN,qd]
def gL(l:List Sg)(i:Nat):List ByteArray:=jm::(l.take i).map (·.name)
theorem vQ{l:List Sg}{i:Nat}(h:i<l.length):gL l (i+1)=gL l i++[l[i].name]:=by
 simp only[gL,List.take_add_one,List.getElem?_eq_getElem h,Option.toList_some,List.map_append,List.map_cons,List.map_nil,List.cons_append]
theorem zb{l:List Sg}{i:Nat}(h:i<l.length):l[i].name∉gL l i↔¬l[i].name=jm/\∀k,(hk:k<i)->¬(l[k]'(by omega)).name=l[i].name:=by
 unfold gL;rw[List.mem_cons,not_or];refine and_congr_right λ_=>?_;constructor
 ·intro hn k hk e;exact hn (List.mem_map.2 ⟨l[k],List.mem_take_iff_getElem.2 ⟨k,by omega,rfl⟩,e⟩)
 ·intro hn hm;obtain⟨x,hx,e⟩:=List.mem_map.1 hm;obtain⟨k,hk,rfl⟩:=List.mem_take_iff_getElem.1 hx;exact hn k (by omega) e
def Kn(l:List Sg)(i:Nat)(h:i<l.length):Prop:=md l[i]/\∀k,(hk:k<i)->¬(l[k]'(by omega)).name=l[i].name
end Fil.Sz
namespace Fil.Sz
open Abs
theorem xb{α:Type}{f:α->Int}:∀{l:List α} {i:Nat} (h:i<l.length),(∀j,(hj:j<i)->f (l[j]'(by omega))=0)->f l[i]≠0->cF (l.map f)=f l[i]
 |[],_,h,_,_=>by simp at h
 |a::l,0,_,_,hn=>by simp only[List.getElem_cons_zero] at hn|-;simp[cF,hn]
 |a::l,i+1,h,hz,hn=>by
  have h0:=hz 0 (by omega);simp only[List.getElem_cons_zero] at h0;simp only[List.map_cons,cF,h0,if_true,List.getElem_cons_succ];exact xb (l:=l) (i:=i) (by simpa using h) (λj hj=>by have:=hz (j+1) (by omega);simpa using this) (by simpa using hn)
theorem zc{α:Type}{f:α->Int}{l:List α}(h:∀j,(hj:j<l.length)->f l[j]=0):cF (l.map f)=0:=
 y5 λa ha=>by
  obtain⟨x,hx,rfl⟩:=List.mem_map.1 ha;obtain⟨j,hj,rfl⟩:=List.getElem_of_mem hx;exact h j hj
def mV{α:Type}(f:α->Int)(l:List α)(i:Nat):Int:=((l.take i).map f).sum
theorem qN{α:Type}{f:α->Int}{l:List α}:mV f l 0=0:=by simp[mV]
theorem qO{α:Type}{f:α->Int}{l:List α}{i:Nat}(h:i<l.length):mV f l (i+1)=mV f l i+f l[i]:=by
 unfold mV;rw[List.take_add_one,List.getElem?_eq_getElem h,List.map_append,List.sum_append,Option.toList_some,List.map_cons,List.map_nil,List.sum_cons,List.sum_nil,Int.add_zero]
theorem tJ{α:Type}{f:α->Int}{l:List α}:mV f l l.length=(l.map f).sum:=by simp[mV]
theorem mL{l:List E}{f:E->Int}(h0:∀x∈l,0<=f x)(h:∀x∈l,f x<=64*nodes x)(i:Nat):0<=mV f l i/\mV f l i<=64*((l.map nodes).sum:Nat):=by
 unfold mV;refine⟨sum_nonneg λa ha=>?_,?_⟩
 ·obtain⟨x,hx,rfl⟩:=List.mem_map.1 ha;exact h0 x (List.mem_of_mem_take hx)
 ·have h1:=B4 (l:=l.take i) (f:=f) λx hx=>h x (List.mem_of_mem_take hx);have h2:sumTo nodes l i<=(l.map nodes).sum:=bt;unfold sumTo at h2;omega
theorem qP{l:List E}{f:E->Int}{x:E}(hx:x∈l)(h:f x=0):ki (l.map f)=0:=by
 unfold ki;rw[if_pos (List.mem_map.2 ⟨x,hx,h⟩)]
theorem tK{l:List E}{f:E->Int}(h:∀j,(hj:j<l.length)->¬f l[j]=0):ki (l.map f)=(l.map f).sum:=by
 unfold ki;rw[if_neg];intro hm;obtain⟨x,hx,e⟩:=List.mem_map.1 hm;obtain⟨j,hj,rfl⟩:=List.getElem_of_mem hx;exact h j hj e
theorem jL{α:Type}{f:α->Int}{l:List α}(h:0<l.length):(l.map f).headD 0=f l[0]:=by
 cases l with
 |nil=>simp at h
 |cons a l=>rfl
theorem Cc{α:Type}{f:α->Int}{l:List α}(h:l.length=2):cF (l.map f)=if f l[0]=0 then f l[1] else f l[0]:=by
 obtain⟨a,b,rfl⟩:=len2 h;simp only[List.map_cons,List.map_nil,cF,List.getElem_cons_zero,List.getElem_cons_succ];split
 ·split<;>simp_all
 ·rfl
end Fil.Sz
namespace Fil.Sz
open Abs
theorem lg:∀(es:List E) (ws:List Int),es.length=ws.length->(aQ (es.map size) ws).2=0->
  ∃h:(aQ (es.map size) ws).1.length=es.length,∀i,(h1:i<es.length)->(h2:i<ws.length)->size es[i] ws[i]=((aQ (es.map size) ws).1[i]'(by omega),0)
 |[],[],_,_=>⟨rfl,λi h=>by simp at h⟩
 |a::es,w::ws,hl,h=>by
  simp only[List.map_cons,aQ] at h|-;by_cases h1:(size a w).2≠0
  ·rw[if_pos h1] at h;exact(h1 h).elim
  ·rw[if_neg h1] at h;by_cases h2:(aQ (es.map size) ws).2≠0
   ·rw[if_pos h2] at h;exact(h2 h).elim
   ·obtain⟨k1,k2⟩:=lg es ws (by simpa using hl) (by simpa using h2);simp only[h1,h2,if_false];refine⟨by simp[k1],λi q1 q2=>?_⟩;match i,q1,q2 with
    |0,_,_=>
     have:(size a w).2=0:=by simpa using h1
     simp only[List.getElem_cons_zero];rw[<-this]
    |i+1,q1,q2=>simpa using k2 i (by simpa using q1) (by simpa using q2)
theorem r9:∀(es:List E) (ws:List Int) (xs:List E),es.length=ws.length->xs.length=es.length->
  (∀i,(h1:i<es.length)->(h2:i<ws.length)->(h3:i<xs.length)->size es[i] ws[i]=(xs[i],0))->aQ (es.map size) ws=(xs,0)
 |[],[],[],_,_,_=>rfl
 |a::es,w::ws,x::xs,hl,hx,h=>by
  have h0:=h 0 (by simp) (by simp) (by simp);simp only[List.getElem_cons_zero] at h0
  have ih:=r9 es ws xs (by simpa using hl) (by simpa using hx) λi h1 h2 h3=>by
   have:=h (i+1) (by simpa using h1) (by simpa using h2) (by simpa using h3)
   simpa using this
  simp only[List.map_cons,aQ,h0,ih];simp
theorem lh{e:E}{w:Int}(ho:0<=own e)(hw: -1<=w):1<=wide e w:=by
 unfold wide bK;by_cases h1:w= -1
 ·simp[h1]
 ·by_cases h2:w=0
  ·subst h2;simp;split<;>omega
  ·simp[h1,h2];omega
theorem eM(e:E):wide e (-1)=1:=by simp[wide,bK]
theorem bQ{e:E}{w:Int}(h1:w≠0)(h2:w≠ -1):wide e w=w:=by simp[wide,bK,h1,h2]
theorem ik(e:E):wide e 0=bK (own e) 32:=by simp[wide,bK]
theorem sa{e:E}{w:Int}(h:e.op=6):cX e w=some [-1,w,w]:=by simp[cX,h]
theorem sb{e:E}{w:Int}(h:e.op=7):cX e w=if own e=0\/own e≠w\/64<own e then none else some (List.replicate e.l.length 0):=by simp[cX,h]
theorem kj{e:E}{w:Int}(h:e.op=1\/e.op=2\/e.op=3\/e.op=8):cX e w=if own e≠w then none else some (List.replicate e.l.length 0):=by
 have h1:¬e.op=6:=by omega
 have h2:¬e.op=7:=by omega
 have h3:¬(e.op=4\/e.op=5):=by omega
 simp[cX,h1,h2,h3]
theorem gq{e:E}{w:Int}(h:e.op=4\/e.op=5):cX e w=
  if e.n=6\/e.n=25\/e.n=26 then if w≠1 then none else some (List.replicate e.l.length (-1))
  else if e.n=3\/e.n=4\/e.n=5 then if w≠1 then none else some (List.replicate e.l.length 0)
  else if 19<=e.n/\e.n<=24 then if w≠1 then none else some (List.replicate e.l.length (bK (cF (e.l.map own)) 32))
  else if e.n=17\/e.n=18 then some [w,0]
  else some (List.replicate e.l.length w):=by
 have h1:¬e.op=6:=by omega
 have h2:¬e.op=7:=by omega
 simp[cX,h1,h2,h]
inductive Wt(e:E)(w:Int):List Int->Prop
 |leaf (ho:e.op=1\/e.op=2\/e.op=3\/e.op=8) (h:own e=w):Wt e w (List.replicate e.l.length 0)
 |cat (ho:e.op=7) (h1:own e≠0) (h2:own e=w) (h3:own e<=64):Wt e w (List.replicate e.l.length 0)
 |cond (ho:e.op=6):Wt e w [-1,w,w]
 |bits (ho:e.op=4\/e.op=5) (hn:e.n=6\/e.n=25\/e.n=26) (h:w=1):Wt e w (List.replicate e.l.length (-1))
 |all (ho:e.op=4\/e.op=5) (hn:e.n=3\/e.n=4\/e.n=5) (h:w=1):Wt e w (List.replicate e.l.length 0)
 |cmp (ho:e.op=4\/e.op=5) (hn:19<=e.n) (hn2:e.n<=24) (h:w=1):Wt e w (List.replicate e.l.length (bK (cF (e.l.map own)) 32))
 |sh (ho:e.op=4\/e.op=5) (hn:e.n=17\/e.n=18):Wt e w [w,0]
 |ari (ho:e.op=4\/e.op=5) (hn:¬(e.n=6\/e.n=25\/e.n=26)) (hn2:¬(e.n=3\/e.n=4\/e.n=5)) (hn3:¬(19<=e.n/\e.n<=24)) (hn4:¬(e.n=17\/e.n=18)):Wt e w (List.replicate e.l.length w)
theorem li{g:List Sg}{e:E}(hs:shp g e=true){w:Int}{ws:List Int}(h:cX e w=some ws):Wt e w ws:=by
 have hop:(e.op=1\/e.op=2\/e.op=3\/e.op=8)\/e.op=7\/e.op=6\/(e.op=4\/e.op=5):=by
  cases d4 hs<;>omega
 rcases hop with ho|ho|ho|ho
 ·rw[kj ho] at h;split at h
  ·simp at h
  ·simp only[Option.some.injEq] at h;subst h;exact .leaf ho (by omega)
 ·rw[sb ho] at h;split at h
  ·simp at h
  ·simp only[Option.some.injEq] at h;subst h;exact .cat ho (by omega) (by omega) (by omega)
 ·rw[sa ho] at h;simp only[Option.some.injEq] at h;subst h;exact .cond ho
 ·rw[gq ho] at h;split at h
  ·split at h
   ·simp at h
   ·simp only[Option.some.injEq] at h;subst h;exact .bits ho (by assumption) (by omega)
  split at h
  ·split at h
   ·simp at h
   ·simp only[Option.some.injEq] at h;subst h;exact .all ho (by assumption) (by omega)
  split at h
  ·split at h
   ·simp at h
   ·simp only[Option.some.injEq] at h;subst h;exact .cmp ho (by omega) (by omega) (by omega)
  split at h
  ·simp only[Option.some.injEq] at h;subst h;exact .sh ho (by assumption)
  ·simp only[Option.some.injEq] at h;subst h;exact .ari ho (by assumption) (by assumption) (by assumption) (by assumption)
theorem Cd{e:E}{w:Int}{ws:List Int}(h:Wt e w ws):cX e w=some ws:=by
 cases h with
 |leaf ho h=>rw[kj ho,if_neg (by omega)]
 |cat ho h1 h2 h3=>rw[sb ho,if_neg (by omega)]
 |cond ho=>exact sa ho
 |bits ho hn h=>rw[gq ho,if_pos hn,if_neg (by omega)]
 |all ho hn h=>rw[gq ho,if_neg (by omega),if_pos hn,if_neg (by omega)]
 |cmp ho hn hn2 h=>rw[gq ho,if_neg (by omega),if_neg (by omega),if_pos ⟨hn,hn2⟩,if_neg (by omega)]
 |sh ho hn=>rw[gq ho,if_neg (by omega),if_neg (by omega),if_neg (by omega),if_pos hn]
 |ari ho hn hn2 hn3 hn4=>rw[gq ho,if_neg hn,if_neg hn2,if_neg hn3,if_neg hn4]
theorem me{g:List Sg}{e:E}(hs:shp g e=true){w:Int}{ws:List Int}(h:Wt e w ws):ws.length=e.l.length:=by
 cases h with
 |cond ho=>
  cases d4 hs<;>first|omega|skip
  rename_i h5;rw[h5];rfl
 |sh ho hn=>
  cases d4 hs<;>first|omega|skip
  rename_i h5 _ _;rw[h5];rfl
 |_=>simp
theorem nz{e x:E}{w:Int}(h:size e w=(x,0)):¬(w= -1/\1<own e)/\
    ((e.op=1/\e.w=0/\holds (wide e w) e.v=true/\x= .mk 1 (wide e w) e.v 0 0 0 0 [])\/
     (¬(e.op=1/\e.w=0)/\∃ws,cX e (wide e w)=some ws/\(aQ (e.l.map size) ws).2=0/\
       ¬(e.op=8/\(e.n=33/\dG (aQ (e.l.map size) ws).1<wide e w\/e.n≠33/\wide e w<dG (aQ (e.l.map size) ws).1))/\x=e.set (wide e w) (aQ (e.l.map size) ws).1)):=by
  rw[fj] at h;split at h
  · simp at h
  rename_i h1
  refine⟨h1,?_⟩;split at h
  · rename_i h2
    split at h
    · simp only[Prod.mk.injEq,and_true] at h
      exact .inl ⟨h2.1,h2.2,by assumption,h.symm⟩
    · simp at h
  · rename_i h2
    refine .inr ⟨h2,?_⟩;split at h
    · simp at h
    · rename_i ws hws
      unfold iS at h;split at h
      · rename_i h3
        simp only[Prod.mk.injEq] at h;exact(h3 h.2).elim
      · rename_i h3
        split at h
        · simp at h
        · rename_i h4
          simp only[Prod.mk.injEq,and_true] at h;exact⟨ws,hws,by simpa using h3,h4,h.symm⟩
theorem FR{e:E}{w:Int}{ws:List Int}{xs:List E}(h1:¬(w= -1/\1<own e))(h2:¬(e.op=1/\e.w=0))(h3:cX e (wide e w)=some ws)(h4:aQ (e.l.map size) ws=(xs,0))
  (h5:¬(e.op=8/\(e.n=33/\dG xs<wide e w\/e.n≠33/\wide e w<dG xs))):size e w=(e.set (wide e w) xs,0):=by
 rw[fj,if_neg h1,if_neg h2,h3];simp only[h4,iS];rw[if_neg (by simp),if_neg h5]
end Fil.Sz
namespace Fil.Sz
open Abs
def di(l:List E)(ws:List Int)(i:Nat):List E:=((l.zip ws).take i).map λq=>(size q.1 q.2).1
theorem mf{l:List E}{ws:List Int}(hl:ws.length=l.length){i:Nat}(hi:i<=l.length):(di l ws i).length=i:=by
 simp[di,hl];omega
theorem pg{l:List E}{ws:List Int}{i:Nat}(h1:i<l.length)(h2:i<ws.length):di l ws (i+1)=di l ws i++[(size l[i] ws[i]).1]:=by
 unfold di;have h:i<(l.zip ws).length:=by simp;omega
 rw[List.take_add_one,List.getElem?_eq_getElem h];simp
theorem zf{l:List E}{ws:List Int}{n i:Nat}(h1:i<l.length)(h2:i<ws.length)(h3:i<(di l ws n).length):(di l ws n)[i]=(size l[i] ws[i]).1:=by
 simp[di]
theorem tM{l:List E}{ws:List Int}(hl:ws.length=l.length)(h:∀j,(h1:j<l.length)->(h2:j<ws.length)->(size l[j] ws[j]).2=0):aQ (l.map size) ws=(di l ws l.length,0):=by
 refine r9 l ws _ hl.symm (mf hl (Nat.le_refl _)) λi h1 h2 h3=>?_;rw[zf h1 h2 h3];have:=h i h1 h2
 rw[<-this]
theorem ph:∀{l:List E} {ws:List Int} {i:Nat} (h1:i<l.length) (h2:i<ws.length),(∀j,(h3:j<i)->(size (l[j]'(by omega)) (ws[j]'(by omega))).2=0)->(size l[i] ws[i]).2≠0->aQ (l.map size) ws=([],(size l[i] ws[i]).2)
 |[],_,_,h1,_,_,_=>by simp at h1
 |a::l,[],_,_,h2,_,_=>by simp at h2
 |a::l,w::ws,0,_,_,_,hn=>by
  simp only[List.getElem_cons_zero] at hn;simp only[List.map_cons,aQ,List.getElem_cons_zero];rw[if_pos hn]
 |a::l,w::ws,i+1,h1,h2,hz,hn=>by
  have h0:=hz 0 (by omega);simp only[List.getElem_cons_zero] at h0;simp only[List.getElem_cons_succ] at hn;have ih:=ph (l:=l) (ws:=ws) (i:=i) (by simpa using h1) (by simpa using h2) (λj hj=>by have:=hz (j+1) (by omega);simpa using this) hn;simp only[List.map_cons,aQ,List.getElem_cons_succ,ih];rw[if_neg (by simp[h0]),if_pos hn]
theorem pi{e:E}(h:1<own e):size e (-1)=(zE,91):=by rw[fj,if_pos ⟨rfl,h⟩]
theorem tN{e:E}{w:Int}(h:¬(w= -1/\1<own e))(ho:e.op=1)(hw:e.w=0):size e w=if holds (wide e w) e.v then (.mk 1 (wide e w) e.v 0 0 0 0 [],0) else (zE,92):=by
 rw[fj,if_neg h,if_pos ⟨ho,hw⟩]
theorem qQ{e:E}{w:Int}(h:¬(w= -1/\1<own e))(ho:¬(e.op=1/\e.w=0))(hw:cX e (wide e w)=none):size e w=(zE,90):=by
 rw[fj,if_neg h,if_neg ho,hw]
theorem mg{e:E}{w:Int}{ws:List Int}(h:¬(w= -1/\1<own e))(ho:¬(e.op=1/\e.w=0))(hw:cX e (wide e w)=some ws):size e w=iS e w (aQ (e.l.map size) ws):=by
 rw[fj,if_neg h,if_neg ho,hw]
theorem xe{g:List Sg}(hg:df g){e:E}(hs:shp g e=true){w:Int}(hw:1<=w){ws:List Int}(h:Wt e w ws):∀v∈ws,-1<=v:=by
 have hf:0<=cF (e.l.map own):=fz λa ha=>by
  obtain⟨x,hx,rfl⟩:=List.mem_map.1 ha;exact bL hg x (aV hs hx)
 intro v hv;cases h with
 |cond ho=>simp at hv;omega
 |sh ho hn=>simp at hv;omega
 |cmp ho hn hn2 h=>
  have:=(List.mem_replicate.1 hv).2
  subst this;unfold bK;split<;>omega
 |_=>have:=(List.mem_replicate.1 hv).2;omega
end Fil.Sz
namespace Fil.Sz
open Abs
structure Ok(g:List Sg)(e:E)(w:Int)(x:E):Prop where
 set:x=e.set (wide e w) x.l
 len:x.l.length=e.l.length
 own:own x=wide e w
 pos:1<=wide e w
 few:0<Sz.own e->wide e w<=64
 shp:w<=64->wide e w<=64/\shp g x=true
 nodes:nodes x=nodes e
 deep:deep x=deep e
 again:∀w',¬(w'= -1/\1<Sz.own x)->wide x w'=wide e w->size x w'=(x,0)
theorem Ok.wd{g:List Sg}{e:E}{w:Int}{x:E}(h:Ok g e w x):x.w=wide e w:=by rw[h.set];rfl
theorem Ok.op{g:List Sg}{e:E}{w:Int}{x:E}(h:Ok g e w x):x.op=e.op:=by rw[h.set];rfl
theorem Ok.n{g:List Sg}{e:E}{w:Int}{x:E}(h:Ok g e w x):x.n=e.n:=by rw[h.set];rfl
theorem Ok.wide_eq{g:List Sg}{e:E}{w:Int}{x:E}(h:Ok g e w x):wide x w=wide e w:=by
 by_cases h1:w= -1
 ·subst h1;rw[eM,eM]
 ·by_cases h2:w=0
  ·subst h2;have h3:=h.own;have h4:=h.pos;rw[ik x,bK,if_neg (by omega),h3]
  ·rw[bQ h2 h1,bQ h2 h1]
theorem Ok.same{g:List Sg}{e:E}{w:Int}{x:E}(h:Ok g e w x):size x w=(x,0):=by
 refine h.again w (fun⟨h1,h2⟩=>?_) h.wide_eq;subst h1;rw[h.own,eM] at h2;omega
theorem jn(e:E)(w:Int)(l:List E):(e.set w l).l=l:=rfl
theorem mh(e:E)(w:Int)(l:List E):(e.set w l).op=e.op:=rfl
theorem qR(e:E)(w:Int)(l:List E):(e.set w l).w=w:=rfl
theorem mM(e:E)(w:Int)(l:List E):(e.set w l).n=e.n:=rfl
theorem pj(e:E)(w:Int)(l:List E):(e.set w l).hi=e.hi:=rfl
theorem pm(e:E)(w:Int)(l:List E):(e.set w l).lo=e.lo:=rfl
theorem tO(e:E)(w:Int)(l:List E):(e.set w l).v=e.v:=rfl
theorem lj(e:E)(w:Int)(l:List E):(e.set w l).sig=e.sig:=rfl
theorem FS(e:E)(w v:Int)(l m:List E):(e.set w l).set v m=e.set v m:=rfl
theorem Ce{g:List Sg}{e:E}(h:iH g e=true){w:Int}{l:List E}(hl:l.length=e.l.length)(hw:1<=w/\w<=64)(h1:e.op=1->holds w e.v=true):iH g (e.set w l)=true:=by
 unfold iH at h|-;simp only[mh,qR,mM,pj,pm,tO,lj,jn,hl];split at h
 ·rename_i ho
  simp only[Bool.and_eq_true,decide_eq_true_eq] at h;rw[if_pos ho];simp only[Bool.and_eq_true,decide_eq_true_eq,Bool.or_eq_true];exact⟨⟨h.1.1,h.1.2.1,h.1.2.2.1,h.1.2.2.2.1,h.1.2.2.2.2.1,by omega,by omega⟩, .inr (h1 ho)⟩
 rename_i q1
 rw[if_neg q1];split at h
 ·rename_i ho;rw[if_pos ho];exact h
 rename_i q2
 rw[if_neg q2];split at h
 ·rename_i ho;rw[if_pos ho];exact h
 rename_i q3
 rw[if_neg q3];split at h
 ·rename_i ho;rw[if_pos ho];exact h
 rename_i q4
 rw[if_neg q4];split at h
 ·rename_i ho;rw[if_pos ho];exact h
 rename_i q5
 rw[if_neg q5];split at h
 ·rename_i ho;rw[if_pos ho];exact h
 rename_i q6
 rw[if_neg q6];split at h
 ·rename_i ho;rw[if_pos ho];exact h
 rename_i q7
 rw[if_neg q7];split at h
 ·rename_i ho
  rw[if_pos ho];simp only[decide_eq_true_eq] at h|-;exact⟨h.1,h.2.1,h.2.2.1,h.2.2.2.1,h.2.2.2.2.1,h.2.2.2.2.2.1,h.2.2.2.2.2.2.1,hw.1,hw.2⟩
 ·simp at h
theorem jM{α β γ:Type}{f:α->γ}{h:β->γ}:∀{l:List α} {m:List β},l.length=m.length->(∀i,(h1:i<l.length)->(h2:i<m.length)->f l[i]=h m[i])->l.map f=m.map h
 |[],[],_,_=>rfl
 |a::l,b::m,hl,hh=>by
  have h0:=hh 0 (by simp) (by simp);simp only[List.getElem_cons_zero] at h0
  rw[List.map_cons,List.map_cons,h0,jM (l:=l) (m:=m) (by simpa using hl) λi h1 h2=>by
   have:=hh (i+1) (by simpa using h1) (by simpa using h2)
   simpa using this]
theorem FT{l:List Int}(h:ki l≠0):∀a∈l,a≠0:=λa ha e=>h (by unfold ki;rw[if_pos (e▸ha)])
def I1(g:List Sg)(e:E)(ws:List Int)(xs:List E):Prop:=∀i,(h1:i<e.l.length)->(h2:i<ws.length)->(h3:i<xs.length)->Ok g e.l[i] ws[i] xs[i]
theorem dn{α:Type}{n i:Nat}{a:α}(h:i<(List.replicate n a).length):(List.replicate n a)[i]=a:=by simp
theorem zg{g:List Sg}(hg:df g){e:E}(hs:shp g e=true){W:Int}(hW:1<=W){ws:List Int}{xs:List E}(hw:Wt e W ws)(hl:xs.length=e.l.length)(hp:I1 g e ws xs)(he:e.op=1->own e=W):own (e.set W xs)=W:=by
 have hwl:=me hs hw;have hon:∀x∈e.l,0<=own x:=λx hx=>bL hg x (aV hs hx);cases d4 hs with
 |num ho=>rw[pW (by exact ho)];rfl
 |ext ho=>rw[vP (by exact ho)];rfl
 |sig ho=>
  rw[tE (by exact ho)];cases hw<;>first|omega|skip
  rename_i h1 h2
  rw[tE ho] at h2;exact h2
 |idx ho=>
  rw[tF (by exact ho)];cases hw<;>first|omega|skip
  rename_i h1 h2
  rw[tF ho] at h2;exact h2
 |cat ho=>
  rw[r8 (by exact ho),jn];cases hw<;>first|omega|skip
  rename_i h1 h2 h3 h4
  rw[r8 ho] at h2 h3
  have:xs.map own=e.l.map own:=jM hl λi q1 q2=>by
   have ok:=hp i q2 (by simpa using q2) q1;have h5:=ok.own;rw[dn,ik,bK,if_neg (FT h2 _ (List.mem_map_of_mem (List.getElem_mem q2)))] at h5;exact h5
  rw[this];exact h3
 |cond ho _ _ _ _ _ a b c h6=>
  rw[y7 (by exact ho),jn];cases hw<;>first|omega|skip
  obtain⟨x,y,z,rfl⟩:=len3 (show xs.length=3 by rw[hl,h6];rfl);have ok:=hp 1 (by rw[h6];simp) (by simp) (by simp);have h5:=ok.own;simp only[List.getElem_cons_succ,List.getElem_cons_zero] at h5;rw[bQ (by omega) (by omega)] at h5;simp[cF,h5];omega
 |un ho _ _ _ _ a h6 h7 h8=>
  rw[y8 (by exact ho),mM,jn];obtain⟨x,rfl⟩:=len1 (show xs.length=1 by rw[hl,h6];rfl);by_cases hn:e.n<=2
  ·rw[if_pos hn];cases hw<;>first|omega|skip
   have ok:=hp 0 (by rw[h6];simp) (by simp[h6]) (by simp);have h5:=ok.own;rw[dn,bQ (by omega) (by omega)] at h5;simpa using h5
  ·rw[if_neg hn];cases hw<;>omega
 |bin ho _ _ _ _ a b h6 h7 h8=>
  rw[y9 (by exact ho),mM,jn];obtain⟨x,y,rfl⟩:=len2 (show xs.length=2 by rw[hl,h6];rfl);by_cases hn:e.n<=16
  ·rw[if_pos hn];cases hw<;>first|omega|skip
   have ok:=hp 0 (by rw[h6];simp) (by simp[h6]) (by simp);have h5:=ok.own;rw[dn,bQ (by omega) (by omega)] at h5;simp only[List.getElem_cons_zero] at h5;simp[cF,h5];omega
  ·rw[if_neg hn];by_cases hn2:e.n<=18
   ·rw[if_pos hn2];cases hw<;>first|omega|skip
    have ok:=hp 0 (by rw[h6];simp) (by simp) (by simp);have h5:=ok.own;simp only[List.getElem_cons_zero] at h5;rw[bQ (by omega) (by omega)] at h5;simpa using h5
   ·rw[if_neg hn2];cases hw<;>omega
theorem zh{g:List Sg}(hg:df g){e:E}(hs:shp g e=true){W:Int}(hW:1<=W){ws:List Int}{xs:List E}(hw:Wt e W ws)(hl:xs.length=e.l.length)(hp:I1 g e ws xs)(h0:0<own e):W<=64:=by
 have hwl:=me hs hw;have hon:∀x∈e.l,0<=own x:=λx hx=>bL hg x (aV hs hx);cases d4 hs with
 |num ho _ _ _ _ _ _ h7=>
  cases hw<;>first|omega|skip
  rename_i h1 h2
  rw[pW ho] at h2;omega
 |ext ho _ _ _ _ _ _ _ _ _ h9=>
  cases hw<;>first|omega|skip
  rename_i h1 h2
  rw[vP ho] at h2;omega
 |sig ho _ _ _ h6=>
  cases hw<;>first|omega|skip
  rename_i h1 h2
  have:=dP hg h6
  rw[tE ho] at h2;omega
 |idx ho=>
  cases hw<;>first|omega|skip
  rename_i h1 h2
  rw[tF ho] at h2;omega
 |cat ho=>
  cases hw<;>first|omega|skip
 |cond ho _ _ _ _ _ a b c h6=>
  rw[y7 ho] at h0;cases hw<;>first|omega|skip
  have ok1:=hp 1 (by rw[h6];simp) (by simp) (by rw[hl,h6];simp);have ok2:=hp 2 (by rw[h6];simp) (by simp) (by rw[hl,h6];simp);have f1:=ok1.few;have f2:=ok2.few;simp only[List.getElem_cons_succ,List.getElem_cons_zero] at f1 f2;rw[bQ (by omega) (by omega)] at f1 f2;have g1:=hon b (by rw[h6];simp);have g2:=hon c (by rw[h6];simp);simp only[h6,List.getElem_cons_succ,List.getElem_cons_zero] at f1 f2;simp only[h6,List.map_cons,List.map_nil,List.drop_succ_cons,List.drop_zero,cF] at h0;by_cases q:own b=0
  ·rw[if_pos q] at h0;by_cases q2:own c=0
   ·rw[if_pos q2] at h0;omega
   ·exact f2 (by omega)
  ·exact f1 (by omega)
 |un ho _ _ _ _ a h6 h7 h8=>
  rw[y8 ho] at h0;by_cases hn:e.n<=2
  ·rw[if_pos hn] at h0;cases hw<;>first|omega|skip
   have ok:=hp 0 (by rw[h6];simp) (by simp[h6]) (by rw[hl,h6];simp);have f1:=ok.few;rw[dn,bQ (by omega) (by omega)] at f1;simp only[h6,List.getElem_cons_zero] at f1;simp only[h6,List.map_cons,List.headD_cons] at h0;exact f1 h0
  ·cases hw<;>omega
 |bin ho _ _ _ _ a b h6 h7 h8=>
  rw[y9 ho] at h0;by_cases hn:e.n<=16
  ·rw[if_pos hn] at h0;cases hw<;>first|omega|skip
   have ok1:=hp 0 (by rw[h6];simp) (by simp[h6]) (by rw[hl,h6];simp);have ok2:=hp 1 (by rw[h6];simp) (by simp[h6]) (by rw[hl,h6];simp);have f1:=ok1.few;have f2:=ok2.few;rw[dn,bQ (by omega) (by omega)] at f1 f2;have g1:=hon a (by rw[h6];simp);have g2:=hon b (by rw[h6];simp);simp only[h6,List.getElem_cons_succ,List.getElem_cons_zero] at f1 f2;simp only[h6,List.map_cons,List.map_nil,cF] at h0;by_cases q:own a=0
   ·rw[if_pos q] at h0;by_cases q2:own b=0
    ·rw[if_pos q2] at h0;omega
    ·exact f2 (by omega)
   ·exact f1 (by omega)
  ·rw[if_neg hn] at h0;by_cases hn2:e.n<=18
   ·rw[if_pos hn2] at h0;cases hw<;>first|omega|skip
    have ok:=hp 0 (by rw[h6];simp) (by simp) (by rw[hl,h6];simp);have f1:=ok.few;simp only[List.getElem_cons_zero] at f1;rw[bQ (by omega) (by omega)] at f1;simp only[h6,List.getElem_cons_zero] at f1;simp only[h6,List.map_cons,List.headD_cons] at h0;exact f1 h0
   ·cases hw<;>omega
theorem Cf{g:List Sg}{e:E}(hs:shp g e=true)(ho:e.op=4\/e.op=5)(hn:19<=e.n):∃a b,e.l=[a,b]:=by
 cases d4 hs<;>first|omega|exact⟨_,_,by assumption⟩
theorem Cg{g:List Sg}(hg:df g){e:E}(hs:shp g e=true){W:Int}(hW:1<=W)(hW2:W<=64){ws:List Int}{xs:List E}(hw:Wt e W ws)(hl:xs.length=e.l.length)(hp:I1 g e ws xs):∀v∈ws,v<=64:=by
 intro v hv;cases hw with
 |cond ho=>simp at hv;omega
 |sh ho hn=>simp at hv;omega
 |cmp ho hn hn2 h=>
  have hv:=(List.mem_replicate.1 hv).2;obtain⟨a,b,h6⟩:=Cf hs ho hn;by_cases hf:cF (e.l.map own)=0
  ·rw[hf] at hv;simp[bK] at hv;omega
  ·rw[bK,if_neg hf] at hv;have ok1:=hp 0 (by rw[h6];simp) (by simp[h6]) (by rw[hl,h6];simp);have ok2:=hp 1 (by rw[h6];simp) (by simp[h6]) (by rw[hl,h6];simp);have f1:=ok1.few;have f2:=ok2.few;have g1:=bL hg a (aV hs (by rw[h6];simp));have g2:=bL hg b (aV hs (by rw[h6];simp));rw[dn,bK,if_neg hf,<-hv] at f1 f2;simp only[h6,List.getElem_cons_succ,List.getElem_cons_zero] at f1 f2;simp only[h6,List.map_cons,List.map_nil,cF] at hf hv;by_cases q:own a=0
   ·rw[if_pos q] at hf hv;by_cases q2:own b=0
    ·rw[if_pos q2] at hf;omega
    ·rw[if_neg q2] at hv;rw[bQ (by omega) (by omega)] at f2;exact f2 (by omega)
   ·rw[if_neg q] at hv;rw[bQ (by omega) (by omega)] at f1;exact f1 (by omega)
 |_=>have:=(List.mem_replicate.1 hv).2;omega
theorem I2{g:List Sg}(hg:df g){e:E}(hs:shp g e=true){W:Int}(hW:1<=W){ws:List Int}{xs:List E}(hw:Wt e W ws)(hl:xs.length=e.l.length)(hp:I1 g e ws xs)(hown:own (e.set W xs)=W):Wt (e.set W xs) W ws:=by
 cases hw with
 |leaf ho h=>
  rw[<-hl];exact .leaf (e:=e.set W xs) ho hown
 |cat ho h1 h2 h3=>
  rw[<-hl];exact .cat (e:=e.set W xs) ho (by omega) hown (by omega)
 |cond ho=>exact .cond (e:=e.set W xs) ho
 |bits ho hn h=>rw[<-hl];exact .bits (e:=e.set W xs) ho hn h
 |all ho hn h=>rw[<-hl];exact .all (e:=e.set W xs) ho hn h
 |cmp ho hn hn2 h=>
  have hk:bK (cF (xs.map own)) 32=bK (cF (e.l.map own)) 32:=by
   obtain⟨a,b,h6⟩:=Cf hs ho hn
   have hf0:0<=cF (e.l.map own):=fz λa ha=>by
    obtain⟨x,hx,rfl⟩:=List.mem_map.1 ha;exact bL hg x (aV hs hx)
   obtain⟨K,hK⟩:∃K,bK (cF (e.l.map own)) 32=K:=⟨_,rfl⟩;have hK1:1<=K:=by rw[<-hK];unfold bK;split<;>omega
   rw[hK] at hp|-;obtain⟨x,y,rfl⟩:=len2 (show xs.length=2 by rw[hl,h6];rfl);have ok:=hp 0 (by rw[h6];simp) (by simp[h6]) (by simp);have h5:=ok.own;rw[dn,bQ (by omega) (by omega)] at h5;simp only[List.getElem_cons_zero] at h5;have hf:cF ([x,y].map own)=K:=by simp[cF,h5];omega
   rw[hf,bK,if_neg (by omega)]
  have:=Wt.cmp (e:=e.set W xs) (w:=W) ho hn hn2 h
  rw[jn,hl,hk] at this;exact this
 |sh ho hn=>exact .sh (e:=e.set W xs) ho hn
 |ari ho hn hn2 hn3 hn4=>
  have:=Wt.ari (e:=e.set W xs) (w:=W) ho hn hn2 hn3 hn4
  rw[jn,hl] at this;exact this
theorem fY{g:List Sg}(hg:df g)(e:E):∀(w:Int) (x:E),shp g e=true-> -1<=w->size e w=(x,0)->Ok g e w x:=by
 refine E.ind (P:=λe=>∀(w:Int) (x:E),shp g e=true-> -1<=w->size e w=(x,0)->Ok g e w x) (λe ih w x hs h0 h=>?_) e;obtain⟨hbit,hc⟩:=nz h;have hon:=bL hg e hs;have hpos:=lh hon h0;generalize hW:wide e w=W at hpos hc
 have key:∀(ws:List Int) (xs:List E),x=e.set W xs->xs.length=e.l.length->I1 g e ws xs->own x=W->(0<own e->W<=64)->(∀v∈ws,W<=64->v<=64)->ws.length=e.l.length->
   (e.op=1->holds W e.v=true)->Wt x W ws->¬(e.op=8/\(e.n=33/\dG xs<W\/e.n≠33/\W<dG xs))->Ok g e w x:=λws xs hx hl hp hown hfew hws hwl hh hwt hbad=>by
  have hxl:x.l=xs:=by rw[hx];rfl
  refine⟨by rw[hxl,hW];exact hx,by rw[hxl];exact hl,by rw[hW];exact hown,by rw[hW];exact hpos,λh=>by rw[hW];exact hfew h,λh64=>?_,?_,?_,λw' h1 h2=>?_⟩
  ·have hW64:W<=64:=by
    by_cases q:w= -1
    ·rw[<-hW,q,eM];omega
    ·by_cases q2:w=0
     ·by_cases q3:own e=0
      ·rw[<-hW,q2,ik,q3];simp[bK]
      ·exact hfew (by omega)
     ·rw[<-hW,bQ q2 q];exact h64
   rw[hW];refine⟨hW64,?_⟩;rw[ma,Bool.and_eq_true];refine⟨by rw[hx];exact Ce (by rw[ma,Bool.and_eq_true] at hs;exact hs.1) hl ⟨hpos,hW64⟩ hh,?_⟩;rw[List.all_eq_true];intro y hy;rw[hxl] at hy;obtain⟨i,hi,rfl⟩:=List.getElem_of_mem hy;have ok:=hp i (by omega) (by omega) hi;exact(ok.shp (hws _ (List.getElem_mem (by omega)) hW64)).2
  ·rw[bN x,bN e,hxl];rw[jM hl λi q1 q2=>(hp i q2 (by omega) q1).nodes]
  ·rw[kY x,kY e,hxl];rw[jM hl λi q1 q2=>(hp i q2 (by omega) q1).deep]
  ·rw[hW] at h2
   have hr:aQ (x.l.map size) ws=(xs,0):=by
    rw[hxl];exact r9 xs ws xs (by omega) rfl λi q1 q2 q3=>(hp i (by omega) q2 q1).same
   have:=FR (e:=x) (w:=w') h1 (by rw[hx,qR];omega) (by rw[h2];exact Cd hwt) hr (by rw[h2,hx,mh,mM];exact hbad)
   rw[this,h2,hx,FS]
 rcases hc with ⟨ho,hw0,hh,hx⟩|⟨hnum,ws,hws,hr,hbad,hx⟩
 ·cases d4 hs<;>first|omega|skip
  rename_i q1 q2 q3 q4 q5 q6 q7 q8 q9
  have hx':x=e.set W []:=by rw[hx];unfold E.set;rw[ho,q2,q3,q4,q5]
  have hown:own x=W:=by rw[hx',pW (by exact ho)];rfl
  have ho1:own e=e.w:=pW ho
  have hwt:Wt x W []:=by
   have:=Wt.leaf (e:=x) (w:=W) (.inl (by rw[hx'];exact ho)) hown
   rw[hx',jn] at this;rw[hx'];exact this
  exact key [] [] hx' (by rw[q6]) (λi h=>by rw[q6] at h;simp at h) hown (λh=>by omega) (λv hv=>by simp at hv) (by simp[q6]) (λ_=>hh) hwt (λh=>by omega)
 ·have hwt:=li hs hws;have hwl:=me hs hwt;obtain⟨hl,hget⟩:=lg e.l ws hwl.symm hr;have hge:=xe hg hs hpos hwt;obtain⟨X,hX⟩:∃X,(aQ (e.l.map size) ws).1=X:=⟨_,rfl⟩
  have hp:I1 g e ws X:=λi h1 h2 h3=>by
   refine ih _ (List.getElem_mem h1) _ _ (aV hs (List.getElem_mem h1)) (hge _ (List.getElem_mem h2)) ?_;rw[hget i h1 h2];simp only[hX]
  rw[hX] at hbad hx hl
  have h1w:e.op=1->own e=W:=λho=>by
   cases hwt<;>omega
  have hown:=zg hg hs hpos hwt hl hp h1w
  have hh:e.op=1->holds W e.v=true:=λho=>by
   cases d4 hs<;>first|omega|skip
   rename_i q1 q2 q3 q4 q5 q6 q7 q8 q9
   have:=h1w ho
   rw[pW ho] at this;rcases q9 with q|q
   ·exact(hnum ⟨ho,q⟩).elim
   ·rw[<-this];exact q
  exact key ws X hx hl hp (by rw[hx];exact hown) (zh hg hs hpos hwt hl hp) (λv hv h64=>Cg hg hs hpos h64 hwt hl hp v hv) hwl hh (by rw[hx];exact I2 hg hs hpos hwt hl hp hown) hbad
end Fil.Sz
