/- Plain laws of layer 9: what is sized is sized once. -/
import Derived.Test.YtbbihmmobfmadaaGreatWSzLaw
import Derived.Test.YtbbihmmobfmadaaGreatWAbsEq
set_option linter.unusedSimpArgs false
set_option linter.unusedVariables false
namespace Fil.Sz
open Abs
open Classical in
noncomputable def same{α:Type}(a b:α):Bool:=decide (a=b)
theorem ee{α:Type}{a b:α}:same a b=true↔a=b:=by simp[same]
theorem fx{α:Type}{a b:α}:same a b=false↔¬a=b:=by simp[same]
theorem pF(b:ByteArray):∀(k i:Nat) (r:List UInt8),b.size-i=k->i<=b.size->ByteArray.toList.loop b i r=r.reverse++b.data.toList.drop i
 |0,i,r,hk,hi=>by
  have:i=b.size:=by omega
  subst this;rw[ByteArray.toList.loop,if_neg (Nat.lt_irrefl _)];have:b.data.toList.drop b.size=[]:=List.drop_eq_nil_of_le (by rw[Array.length_toList];exact Nat.le_refl _)
  rw[this,List.append_nil]
 |k+1,i,r,hk,hi=>by
  have hlt:i<b.size:=by omega
  rw[ByteArray.toList.loop,if_pos hlt,pF b k (i+1) _ (by omega) (by omega)];have hl:i<b.data.toList.length:=by rw[Array.length_toList];exact hlt
  rw[List.drop_eq_getElem_cons hl,List.reverse_cons,List.append_assoc];congr 1
  rw[List.singleton_append];congr 1
  have h3:i<b.data.size:=hlt;show b.data[i]! =b.data.toList[i]
  rw[getElem!_pos b.data i h3,Array.getElem_toList]
theorem pG(b:ByteArray):b.toList=b.data.toList:=by
 unfold ByteArray.toList;rw[pF b b.size 0 [] (by omega) (by omega)];rfl
theorem lH{a b:ByteArray}:a.toList=b.toList↔a=b:=by
 constructor
 ·intro h;rw[pG,pG] at h;cases a;cases b
  simp only[ByteArray.mk.injEq];exact Array.toList_inj.1 h
 ·rintro rfl;rfl
def jI:ByteArray:=⟨#[]⟩
def mH(s:Sg):Prop:=¬s.name=jI/\1<=s.w/\s.w<=64/\1<=s.kind/\s.kind<=4/\(s.kind=4\/s.init=0)
def AF(l:List Sg)(i:Nat):Prop:=∀j,(h:j<l.length)->j<i->mH l[j]/\∀k,(hk:k<j)->¬(l[k]'(by omega)).name=l[j].name
open Classical in
noncomputable def cr(l:List Sg):Bool:=decide (AF l l.length)
theorem ja{l:List Sg}:cr l=true↔AF l l.length:=by simp[cr]
theorem fy{l:List Sg}(h:cr l=true):dg l:=λs hs=>by
 obtain⟨i,hi,rfl⟩:=List.getElem_of_mem hs;have:=(ja.1 h i hi hi).1
 exact⟨this.2.1,this.2.2.1⟩
theorem pH{l:List Sg}{i:Nat}(hi:i<l.length)(h:¬(mH l[i]/\∀k,(hk:k<i)->¬(l[k]'(by omega)).name=l[i].name)):cr l=false:=by
 cases hs:cr l with
 |false=>rfl
 |true=>exact(h (ja.1 hs i hi hi)).elim
theorem rL{l:List Sg}{i:Nat}(hi:i<l.length)(h:AF l i)(h2:mH l[i]/\∀k,(hk:k<i)->¬(l[k]'(by omega)).name=l[i].name):AF l (i+1):=λj hj hji=>by
 rcases Nat.lt_or_ge j i with q|q
 ·exact h j hj q
 ·obtain rfl:j=i:=by omega
  exact h2
def bL(x:E)(w:Int)(e0:Int):E×Int:=if e0≠0 then (zE,e0) else size x w
def bq{β:Type}:List (Int->β×Int)->Int->List β×Int
 |[],e=>([],e)
 |f::fs,e=>((f e).1::(bq fs (f e).2).1,(bq fs (f e).2).2)
theorem gH{β:Type}:∀(l:List (Int->β×Int)) (e:Int),(bq l e).1.length=l.length
 |[],_=>rfl
 |f::fs,e=>by simp only[bq,List.length_cons,gH fs]
theorem rM{β:Type}(f:Int->β×Int):∀(l:List (Int->β×Int)) (e:Int),bq (l++[f]) e=((bq l e).1++[(f (bq l e).2).1],(f (bq l e).2).2)
 |[],e=>rfl
 |g::l,e=>by simp only[List.cons_append,bq,rM f l]
theorem uE{β:Type}:∀(l m:List (Int->β×Int)) (e:Int),bq (l++m) e=((bq l e).1++(bq m (bq l e).2).1,(bq m (bq l e).2).2)
 |[],m,e=>rfl
 |g::l,m,e=>by simp only[List.cons_append,bq,uE l m]
def kindOf(g:List Sg)(t:T):Int:=(g.getD t.sig.toNat zS).kind
def c8(g:List Sg)(clk:Bool)(t:T)(e0:Int):Int:=if t.op=1/\e0=0/\(kindOf g t=1\/clk≠decide (kindOf g t=4)) then 85 else e0
def dz(t:T)(labels:Int):Int:=if t.op=1 then t.hi-t.lo+1 else if t.op=2 then -1 else if t.op=3 then 0 else labels
def gI(g:List Sg)(clk:Bool)(t:T)(labels e0:Int):List E×Int:=bq (t.e.map λx=>bL x (dz t labels)) (c8 g clk t e0)
def eQ(t:T)(labels:Int)(es:List E):Int:=if t.op=3 then dM es else labels
def gJ(g:List Sg)(clk:Bool)(t:T):Int->Int->T×Int:=
 let r:=t.l.attach.map λx=>gJ g clk x.1
 λlabels e0=>
  let es:=gI g clk t labels e0
  let ls:=bq (r.map λf=>f (eQ t labels es.1)) es.2
  (.mk t.op t.sig t.hi t.lo es.1 ls.1,ls.2)
termination_by t
decreasing_by exact T.lt x.2
def fM(g:List Sg)(clk:Bool)(l:List T)(lab e0:Int):List T×Int:=bq (l.map λx=>gJ g clk x lab) e0
theorem io(g:List Sg)(clk:Bool)(t:T)(labels e0:Int):gJ g clk t labels e0=
  (.mk t.op t.sig t.hi t.lo (gI g clk t labels e0).1 (fM g clk t.l (eQ t labels (gI g clk t labels e0).1) (gI g clk t labels e0).2).1,
   (fM g clk t.l (eQ t labels (gI g clk t labels e0).1) (gI g clk t labels e0).2).2):=by
 rw[gJ,att t.l (gJ g clk)];simp only[List.map_map,fM];rfl
def f9(c:Int)(s:Sg):Nat:=(min s.w c).toNat
def gK(c:Int)(l:List Sg):Nat:=(l.map (f9 c)).sum
def aZ(p:Pr):Nat:=(p.l.map nodesT).sum
def di(p:Pr):Nat:=cZ (p.l.map deepT)
def nodesD(d:Flat):Nat:=(d.procs.map aZ).sum+(d.chks.map λc=>nodes c.e).sum
def deepD(d:Flat):Nat:=max (cZ (d.procs.map di)) (cZ (d.chks.map λc=>deep c.e))
def eN(d:Flat):Bool:=decide (d.sigs.length<=512/\d.procs.length<=1024/\gK 4097 d.sigs<=4096/\nodesD d<=65536/\deepD d<=64)
noncomputable def bH(d:Flat):Bool:=cr d.sigs&&d.procs.all (λp=>p.l.all (bi d.sigs))&&d.chks.all (λc=>shp d.sigs c.e)
def ip(d:Flat):Bool:=d.sigs.all λs=>holds s.w s.init
def Dr(g:List Sg)(p:Pr)(e0:Int):Pr×Int:=(⟨p.clk,(fM g p.clk p.l 0 e0).1⟩,(fM g p.clk p.l 0 e0).2)
def yC(c:Ck)(e0:Int):Ck×Int:=(⟨c.name,(bL c.e (-1) e0).1⟩,(bL c.e (-1) e0).2)
def fg(d:Flat):List Pr×Int:=bq (d.procs.map (Dr d.sigs)) 0
def fh(d:Flat):List Ck×Int:=bq (d.chks.map yC) (fg d).2
def zD:Flat:=⟨[],[],[]⟩
noncomputable def bE(d:Flat):Flat×Int:=
 if eN d=false then (zD,2) else if bH d=false then (zD,1) else if ip d=false then (zD,92)
 else if (fh d).2≠0 then (zD,(fh d).2) else (⟨d.sigs,(fg d).1,(fh d).1⟩,0)
noncomputable def cY(d:Flat)(e:E)(want:Int):E×Int:=
 if cr d.sigs=false\/want<0\/64<want\/shp d.sigs e=false then (zE,1) else if 65536<nodes e\/64<deep e then (zE,2) else size e want
open Classical in
noncomputable def checkE(d:Flat)(e:E):Int:=if (cY d e e.w).2=0/\(e.w=0\/¬(cY d e e.w).1=e) then 90 else (cY d e e.w).2
open Classical in
noncomputable def checkD(d:Flat):Int:=if (bE d).2=0/\¬(bE d).1=d then 90 else (bE d).2
structure WfD(d:Flat):Prop where
 sigs:∀s∈d.sigs,MD s
 procs:∀p∈d.procs,∀t∈p.l,kp t
 chks:∀c∈d.chks,WfE c.e
theorem cQ{α:Type}:∀(l m:List α),Bk same l m=same l m
 |[],[]=>by simp[Bk,same]
 |[],b::m=>by simp[Bk,same]
 |a::l,[]=>by simp[Bk,same]
 |a::l,b::m=>by
  have ih:=cQ l m;simp only[Bk,same,List.length_cons,List.zip_cons_cons,List.all_cons] at ih|-;rw[Bool.eq_iff_iff] at ih|-;simp only[Bool.and_eq_true,decide_eq_true_eq,List.cons.injEq,Nat.add_right_cancel_iff] at ih|-;rw[<-ih];exact⟨fun⟨h1,h2,h3⟩=>⟨h2,h1,h3⟩,fun⟨h1,h2,h3⟩=>⟨h2,h1,h3⟩⟩
theorem KU(a b:E):same a b=(decide (a.op=b.op)&&decide (a.w=b.w)&&decide (a.v=b.v)&&decide (a.sig=b.sig)&&decide (a.hi=b.hi)&&decide (a.lo=b.lo)&&decide (a.n=b.n)&&same a.l b.l):=by
 rw[Bool.eq_iff_iff];simp only[Bool.and_eq_true,decide_eq_true_eq,ee,E.eq_iff,and_assoc]
theorem KV(a b:T):same a b=(decide (a.op=b.op)&&decide (a.sig=b.sig)&&decide (a.hi=b.hi)&&decide (a.lo=b.lo)&&same a.e b.e&&same a.l b.l):=by
 rw[Bool.eq_iff_iff];simp only[Bool.and_eq_true,decide_eq_true_eq,ee,T.eq_iff,and_assoc]
theorem Ds(a b:Pr):same a b=(decide (a.clk=b.clk)&&same a.l b.l):=by
 rw[Bool.eq_iff_iff];simp only[Bool.and_eq_true,decide_eq_true_eq,ee];cases a;cases b;simp
theorem Dt(a b:Ck):same a b=(decide (a.name=b.name)&&same a.e b.e):=by
 rw[Bool.eq_iff_iff];simp only[Bool.and_eq_true,decide_eq_true_eq,ee];cases a;cases b;simp
theorem KW(a b:Sg):same a b=(decide (a.name=b.name)&&decide (a.w=b.w)&&decide (a.kind=b.kind)&&decide (a.init=b.init)):=by
 rw[Bool.eq_iff_iff];simp only[Bool.and_eq_true,decide_eq_true_eq,ee];cases a;cases b;simp[and_assoc]
theorem Du(a b:Flat):same a b=(same a.sigs b.sigs&&same a.procs b.procs&&same a.chks b.chks):=by
 rw[Bool.eq_iff_iff];simp only[Bool.and_eq_true,ee];cases a;cases b;simp[and_assoc]
theorem cq{α:Type}{f:α->Nat}(h:∀x,1<=f x):∀l:List α,l.length<=(l.map f).sum
 |[]=>Nat.le_refl _
 |a::l=>by have:=h a;have:=cq h l;simp only[List.map_cons,List.sum_cons,List.length_cons];omega
theorem bu{α:Type}{f:α->Nat}{l:List α}{x:α}(h:x∈l):f x<=(l.map f).sum:=by
 induction l with
 |nil=>cases h
 |cons a l ih=>
  simp only[List.map_cons,List.sum_cons];rcases List.mem_cons.1 h with rfl|h
  ·omega
  ·have:=ih h;omega
theorem nodes_pos(e:E):1<=nodes e:=by rw[bK];omega
theorem bG(t:T):1<=nodesT t:=by rw[bR];omega
theorem len_nodes(e:E):e.l.length<=nodes e:=by have:=cq nodes_pos e.l;rw[bK];omega
theorem bS(t:T):t.e.length<=nodesT t:=by have:=cq nodes_pos t.e;rw[bR];omega
theorem dr(t:T):t.l.length<=nodesT t:=by have:=cq bG t.l;rw[bR];omega
theorem bC{t:T}{x:E}(h:x∈t.e):nodes x<nodesT t:=by rw[bR];have:=bu (f:=nodes) h;omega
theorem ci{t x:T}(h:x∈t.l):nodesT x<nodesT t:=by rw[bR t];have:=bu (f:=nodesT) h;omega
end Fil.Sz
namespace Fil.Sz
open Abs
def sumTo{α:Type}(f:α->Nat)(l:List α)(i:Nat):Nat:=((l.take i).map f).sum
def maxTo{α:Type}(f:α->Nat)(l:List α)(i:Nat):Nat:=cZ ((l.take i).map f)
theorem uF(l m:List Nat):cZ (l++m)=max (cZ l) (cZ m):=by
 unfold cZ;induction l with
 |nil=>simp
 |cons a l ih=>simp only[List.cons_append,List.foldr_cons,ih];omega
section
variable {α : Type} {f : α -> Nat} {l : List α} {i : Nat}
theorem bT:sumTo f l 0=0:=by simp[sumTo]
theorem cG:maxTo f l 0=0:=by simp[maxTo,cZ]
theorem bU(h:i<l.length):sumTo f l (i+1)=sumTo f l i+f l[i]:=by
 unfold sumTo;rw[List.take_add_one,List.getElem?_eq_getElem h,List.map_append,List.sum_append,Option.toList_some,List.map_cons,List.map_nil,List.sum_cons,List.sum_nil,Nat.add_zero]
theorem cH(h:i<l.length):maxTo f l (i+1)=max (maxTo f l i) (f l[i]):=by
 unfold maxTo;rw[List.take_add_one,List.getElem?_eq_getElem h,List.map_append,uF];simp[cZ]
theorem cC:sumTo f l l.length=(l.map f).sum:=by simp[sumTo]
theorem c9:maxTo f l l.length=cZ (l.map f):=by simp[maxTo]
theorem bz:sumTo f l i<=(l.map f).sum:=by
 unfold sumTo;conv=>rhs;rw[<-List.take_append_drop i l]
 rw[List.map_append,List.sum_append];omega
theorem Hx{l:List Nat}{n:Nat}(h:∀a∈l,a<=n):cZ l<=n:=by
 unfold cZ;induction l with
 |nil=>simp
 |cons a l ih=>
  have:=h a (by simp);have:=ih λb hb=>h b (by simp[hb])
  simp only[List.foldr_cons];omega
theorem Hy{l:List Nat}{a:Nat}(h:a∈l):a<=cZ l:=by
 unfold cZ;induction l with
 |nil=>cases h
 |cons b l ih=>
  simp only[List.foldr_cons];rcases List.mem_cons.1 h with rfl|h
  ·omega
  ·have:=ih h;omega
theorem dA:maxTo f l i<=cZ (l.map f):=by
 unfold maxTo;refine Hx λa ha=>?_;obtain⟨x,hx,rfl⟩:=List.mem_map.1 ha;exact Hy (List.mem_map_of_mem (List.mem_of_mem_take hx))
end
theorem gL(l:List Nat):cZ l<=l.sum:=by
 unfold cZ;induction l with
 |nil=>simp
 |cons a l ih=>simp only[List.foldr_cons,List.sum_cons];omega
theorem gM{α:Type}{f g:α->Nat}{l:List α}(h:∀x∈l,f x<=g x):(l.map f).sum<=(l.map g).sum:=by
 induction l with
 |nil=>simp
 |cons a l ih=>
  have:=h a (by simp);have:=ih λb hb=>h b (by simp[hb])
  simp only[List.map_cons,List.sum_cons];omega
theorem nX(e:E):deep e<=nodes e:=by
 refine E.ind (P:=λe=>deep e<=nodes e) (λe ih=>?_) e;rw[lF,bK];have:=gL (e.l.map deep)
 have:=gM (f:=deep) (g:=nodes) ih
 omega
theorem lI(t:T):deepT t<=nodesT t:=by
 refine T.ind (P:=λt=>deepT t<=nodesT t) (λt ih=>?_) t;rw[jG,bR];have:=gL (t.e.map deep)
 have:=gM (f:=deep) (g:=nodes) (l:=t.e) λx _=>nX x
 have:=gL (t.l.map deepT)
 have:=gM (f:=deepT) (g:=nodesT) ih
 omega
theorem Dv(p:Pr):di p<=aZ p:=by
 unfold di aZ;have:=gL (p.l.map deepT)
 have:=gM (f:=deepT) (g:=nodesT) (l:=p.l) λx _=>lI x
 omega
theorem uG(d:Flat):deepD d<=nodesD d:=by
 unfold deepD nodesD;have:=gL (d.procs.map di)
 have:=gM (f:=di) (g:=aZ) (l:=d.procs) λx _=>Dv x
 have:=gL (d.chks.map λc=>deep c.e)
 have:=gM (f:=λc:Ck=>deep c.e) (g:=λc=>nodes c.e) (l:=d.chks) λx _=>nX x.e
 omega
theorem Dw(l:List Sg):gK 5000 l<=4096↔gK 4097 l<=4096:=by
 by_cases h:∀s∈l,s.w<=4096
 ·have:l.map (f9 5000)=l.map (f9 4097):=List.map_congr_left λs hs=>by
   have:=h s hs;unfold f9;omega
  unfold gK;rw[this]
 ·have⟨s,hs,hw⟩:∃s∈l,¬s.w<=4096:=by
   simp only[Classical.not_forall] at h;obtain⟨s,hs,hw⟩:=h;exact⟨s,hs,hw⟩
  have h1:=bu (f:=f9 5000) hs;have h2:=bu (f:=f9 4097) hs;unfold gK;unfold f9 at h1 h2|-;omega
theorem pJ(c:Nat)(l:List Sg):gK c l<=c*l.length:=by
 unfold gK;induction l with
 |nil=>simp
 |cons a l ih=>
  have:f9 c a<=c:=by unfold f9;omega
  simp only[List.map_cons,List.sum_cons,List.length_cons];rw[Nat.mul_succ];omega
end Fil.Sz
namespace Fil.Sz
open Abs
abbrev qE(L:List ByteArray):List (AV×AV):=L.map λs=>(.str s, .bool true)
theorem j9(a b:ByteArray):(a.toList==b.toList)=decide (a=b):=by
 rw[Bool.eq_iff_iff];simp[lH]
theorem yD{s:ByteArray}:∀{L:List ByteArray},s∈L->kU (.one 2) (.str s) (qE L)=some (some (.bool true))
 |a::L,h=>by
  simp only[qE,List.map_cons,kU,gg,qK,j9];by_cases c:s=a
  ·simp[c]
  ·have:=yD (L:=L) ((List.mem_cons.1 h).resolve_left c)
   simpa [c] using this
theorem pK{s:ByteArray}:∀{L:List ByteArray},s∉L->kU (.one 2) (.str s) (qE L)=some none
 |[],_=>rfl
 |a::L,h=>by
  simp only[qE,List.map_cons,kU,gg,qK,j9];have c:¬s=a:=λe=>h (by simp[e]);have:=pK (s:=s) (L:=L) (λhm=>h (List.mem_cons_of_mem _ hm))
  simpa [c] using this
theorem yE{s:ByteArray}:∀{L:List ByteArray},s∉L->tE (.one 2) (.str s) (.bool true) (qE L)=some (qE (L++[s]))
 |[],_=>rfl
 |a::L,h=>by
  simp only[qE,List.map_cons,List.cons_append,tE,gg,qK,j9];have c:¬s=a:=λe=>h (by simp[e]);have:=yE (s:=s) (L:=L) (λhm=>h (List.mem_cons_of_mem _ hm))
  simp only[qE,List.map_append,List.map_cons,List.map_nil] at this|-;simp[c,this]
theorem Hz(s:ByteArray):kh (.one 2) (.str s)=true:=by simp[kh,gg,qK]
def g8(l:List Sg)(i:Nat):List ByteArray:=jI::(l.take i).map (·.name)
theorem xp{l:List Sg}{i:Nat}(h:i<l.length):g8 l (i+1)=g8 l i++[l[i].name]:=by
 simp only[g8,List.take_add_one,List.getElem?_eq_getElem h,Option.toList_some,List.map_append,List.map_cons,List.map_nil,List.cons_append]
theorem AG{l:List Sg}{i:Nat}(h:i<l.length):l[i].name∉g8 l i↔¬l[i].name=jI/\∀k,(hk:k<i)->¬(l[k]'(by omega)).name=l[i].name:=by
 unfold g8;rw[List.mem_cons,not_or];refine and_congr_right λ_=>?_;constructor
 ·intro hn k hk e;exact hn (List.mem_map.2 ⟨l[k],List.mem_take_iff_getElem.2 ⟨k,by omega,rfl⟩,e⟩)
 ·intro hn hm;obtain⟨x,hx,e⟩:=List.mem_map.1 hm;obtain⟨k,hk,rfl⟩:=List.mem_take_iff_getElem.1 hx;exact hn k (by omega) e
def MW(l:List Sg)(i:Nat)(h:i<l.length):Prop:=mH l[i]/\∀k,(hk:k<i)->¬(l[k]'(by omega)).name=l[i].name
end Fil.Sz
namespace Fil.Sz
open Abs
theorem yF{α:Type}{f:α->Int}:∀{l:List α} {i:Nat} (h:i<l.length),(∀j,(hj:j<i)->f (l[j]'(by omega))=0)->f l[i]≠0->cF (l.map f)=f l[i]
 |[],_,h,_,_=>by simp at h
 |a::l,0,_,_,hn=>by simp only[List.getElem_cons_zero] at hn|-;simp[cF,hn]
 |a::l,i+1,h,hz,hn=>by
  have h0:=hz 0 (by omega);simp only[List.getElem_cons_zero] at h0;simp only[List.map_cons,cF,h0,if_true,List.getElem_cons_succ];exact yF (l:=l) (i:=i) (by simpa using h) (λj hj=>by have:=hz (j+1) (by omega);simpa using this) (by simpa using hn)
theorem AH{α:Type}{f:α->Int}{l:List α}(h:∀j,(hj:j<l.length)->f l[j]=0):cF (l.map f)=0:=
 AA λa ha=>by
  obtain⟨x,hx,rfl⟩:=List.mem_map.1 ha;obtain⟨j,hj,rfl⟩:=List.getElem_of_mem hx;exact h j hj
def nE{α:Type}(f:α->Int)(l:List α)(i:Nat):Int:=((l.take i).map f).sum
theorem rN{α:Type}{f:α->Int}{l:List α}:nE f l 0=0:=by simp[nE]
theorem rO{α:Type}{f:α->Int}{l:List α}{i:Nat}(h:i<l.length):nE f l (i+1)=nE f l i+f l[i]:=by
 unfold nE;rw[List.take_add_one,List.getElem?_eq_getElem h,List.map_append,List.sum_append,Option.toList_some,List.map_cons,List.map_nil,List.sum_cons,List.sum_nil,Int.add_zero]
theorem uH{α:Type}{f:α->Int}{l:List α}:nE f l l.length=(l.map f).sum:=by simp[nE]
theorem nq{l:List E}{f:E->Int}(h0:∀x∈l,0<=f x)(h:∀x∈l,f x<=64*nodes x)(i:Nat):0<=nE f l i/\nE f l i<=64*((l.map nodes).sum:Nat):=by
 unfold nE;refine⟨sum_nonneg λa ha=>?_,?_⟩
 ·obtain⟨x,hx,rfl⟩:=List.mem_map.1 ha;exact h0 x (List.mem_of_mem_take hx)
 ·have h1:=Dp (l:=l.take i) (f:=f) λx hx=>h x (List.mem_of_mem_take hx);have h2:sumTo nodes l i<=(l.map nodes).sum:=bz;unfold sumTo at h2;omega
theorem rP{l:List E}{f:E->Int}{x:E}(hx:x∈l)(h:f x=0):kN (l.map f)=0:=by
 unfold kN;rw[if_pos (List.mem_map.2 ⟨x,hx,h⟩)]
theorem uI{l:List E}{f:E->Int}(h:∀j,(hj:j<l.length)->¬f l[j]=0):kN (l.map f)=(l.map f).sum:=by
 unfold kN;rw[if_neg];intro hm;obtain⟨x,hx,e⟩:=List.mem_map.1 hm;obtain⟨j,hj,rfl⟩:=List.getElem_of_mem hx;exact h j hj e
theorem ka{α:Type}{f:α->Int}{l:List α}(h:0<l.length):(l.map f).headD 0=f l[0]:=by
 cases l with
 |nil=>simp at h
 |cons a l=>rfl
theorem Dx{α:Type}{f:α->Int}{l:List α}(h:l.length=2):cF (l.map f)=if f l[0]=0 then f l[1] else f l[0]:=by
 obtain⟨a,b,rfl⟩:=len2 h;simp only[List.map_cons,List.map_nil,cF,List.getElem_cons_zero,List.getElem_cons_succ];split
 ·split<;>simp_all
 ·rfl
end Fil.Sz
namespace Fil.Sz
open Abs
theorem lJ:∀(es:List E) (ws:List Int),es.length=ws.length->(aO (es.map size) ws).2=0->
  ∃h:(aO (es.map size) ws).1.length=es.length,∀i,(h1:i<es.length)->(h2:i<ws.length)->size es[i] ws[i]=((aO (es.map size) ws).1[i]'(by omega),0)
 |[],[],_,_=>⟨rfl,λi h=>by simp at h⟩
 |a::es,w::ws,hl,h=>by
  simp only[List.map_cons,aO] at h|-;by_cases h1:(size a w).2≠0
  ·rw[if_pos h1] at h;exact(h1 h).elim
  ·rw[if_neg h1] at h;by_cases h2:(aO (es.map size) ws).2≠0
   ·rw[if_pos h2] at h;exact(h2 h).elim
   ·obtain⟨k1,k2⟩:=lJ es ws (by simpa using hl) (by simpa using h2);simp only[h1,h2,if_false];refine⟨by simp[k1],λi q1 q2=>?_⟩;match i,q1,q2 with
    |0,_,_=>
     have:(size a w).2=0:=by simpa using h1
     simp only[List.getElem_cons_zero];rw[<-this]
    |i+1,q1,q2=>simpa using k2 i (by simpa using q1) (by simpa using q2)
theorem s7:∀(es:List E) (ws:List Int) (xs:List E),es.length=ws.length->xs.length=es.length->
  (∀i,(h1:i<es.length)->(h2:i<ws.length)->(h3:i<xs.length)->size es[i] ws[i]=(xs[i],0))->aO (es.map size) ws=(xs,0)
 |[],[],[],_,_,_=>rfl
 |a::es,w::ws,x::xs,hl,hx,h=>by
  have h0:=h 0 (by simp) (by simp) (by simp);simp only[List.getElem_cons_zero] at h0
  have ih:=s7 es ws xs (by simpa using hl) (by simpa using hx) λi h1 h2 h3=>by
   have:=h (i+1) (by simpa using h1) (by simpa using h2) (by simpa using h3)
   simpa using this
  simp only[List.map_cons,aO,h0,ih];simp
theorem lK{e:E}{w:Int}(ho:0<=own e)(hw: -1<=w):1<=wide e w:=by
 unfold wide cw;by_cases h1:w= -1
 ·simp[h1]
 ·by_cases h2:w=0
  ·subst h2;simp;split<;>omega
  ·simp[h1,h2];omega
theorem fc(e:E):wide e (-1)=1:=by simp[wide,cw]
theorem bM{e:E}{w:Int}(h1:w≠0)(h2:w≠ -1):wide e w=w:=by simp[wide,cw,h1,h2]
theorem iK(e:E):wide e 0=cw (own e) 32:=by simp[wide,cw]
theorem s8{e:E}{w:Int}(h:e.op=6):cX e w=some [-1,w,w]:=by simp[cX,h]
theorem s9{e:E}{w:Int}(h:e.op=7):cX e w=if own e=0\/own e≠w\/64<own e then none else some (List.replicate e.l.length 0):=by simp[cX,h]
theorem kP{e:E}{w:Int}(h:e.op=1\/e.op=2\/e.op=3\/e.op=8):cX e w=if own e≠w then none else some (List.replicate e.l.length 0):=by
 have h1:¬e.op=6:=by omega
 have h2:¬e.op=7:=by omega
 have h3:¬(e.op=4\/e.op=5):=by omega
 simp[cX,h1,h2,h3]
theorem gN{e:E}{w:Int}(h:e.op=4\/e.op=5):cX e w=
  if e.n=6\/e.n=25\/e.n=26 then if w≠1 then none else some (List.replicate e.l.length (-1))
  else if e.n=3\/e.n=4\/e.n=5 then if w≠1 then none else some (List.replicate e.l.length 0)
  else if 19<=e.n/\e.n<=24 then if w≠1 then none else some (List.replicate e.l.length (cw (cF (e.l.map own)) 32))
  else if e.n=17\/e.n=18 then some [w,0]
  else some (List.replicate e.l.length w):=by
 have h1:¬e.op=6:=by omega
 have h2:¬e.op=7:=by omega
 simp[cX,h1,h2,h]
inductive Wt(e:E)(w:Int):List Int->Prop
 |leaf (ho:e.op=1\/e.op=2\/e.op=3\/e.op=8) (h:own e=w):Wt e w (List.replicate e.l.length 0)
 |cat (ho:e.op=7) (h1:own e≠0) (h2:own e=w) (h3:own e<=64):Wt e w (List.replicate e.l.length 0)
 |cond (ho:e.op=6):Wt e w [-1,w,w]
 |bits (ho:e.op=4\/e.op=5) (hn:e.n=6\/e.n=25\/e.n=26) (h:w=1):Wt e w (List.replicate e.l.length (-1))
 |all (ho:e.op=4\/e.op=5) (hn:e.n=3\/e.n=4\/e.n=5) (h:w=1):Wt e w (List.replicate e.l.length 0)
 |cmp (ho:e.op=4\/e.op=5) (hn:19<=e.n) (hn2:e.n<=24) (h:w=1):Wt e w (List.replicate e.l.length (cw (cF (e.l.map own)) 32))
 |sh (ho:e.op=4\/e.op=5) (hn:e.n=17\/e.n=18):Wt e w [w,0]
 |ari (ho:e.op=4\/e.op=5) (hn:¬(e.n=6\/e.n=25\/e.n=26)) (hn2:¬(e.n=3\/e.n=4\/e.n=5)) (hn3:¬(19<=e.n/\e.n<=24)) (hn4:¬(e.n=17\/e.n=18)):Wt e w (List.replicate e.l.length w)
theorem lL{g:List Sg}{e:E}(hs:shp g e=true){w:Int}{ws:List Int}(h:cX e w=some ws):Wt e w ws:=by
 have hop:(e.op=1\/e.op=2\/e.op=3\/e.op=8)\/e.op=7\/e.op=6\/(e.op=4\/e.op=5):=by
  cases d8 hs<;>omega
 rcases hop with ho|ho|ho|ho
 ·rw[kP ho] at h;split at h
  ·simp at h
  ·simp only[Option.some.injEq] at h;subst h;exact .leaf ho (by omega)
 ·rw[s9 ho] at h;split at h
  ·simp at h
  ·simp only[Option.some.injEq] at h;subst h;exact .cat ho (by omega) (by omega) (by omega)
 ·rw[s8 ho] at h;simp only[Option.some.injEq] at h;subst h;exact .cond ho
 ·rw[gN ho] at h;split at h
  ·split at h
   ·simp at h
   ·simp only[Option.some.injEq] at h;subst h;exact .bits ho (by assumption) (by omega)
  split at h
  ·split at h
   ·simp at h
   ·simp only[Option.some.injEq] at h;subst h;exact .all ho (by assumption) (by omega)
  split at h
  ·split at h
   ·simp at h
   ·simp only[Option.some.injEq] at h;subst h;exact .cmp ho (by omega) (by omega) (by omega)
  split at h
  ·simp only[Option.some.injEq] at h;subst h;exact .sh ho (by assumption)
  ·simp only[Option.some.injEq] at h;subst h;exact .ari ho (by assumption) (by assumption) (by assumption) (by assumption)
theorem Dy{e:E}{w:Int}{ws:List Int}(h:Wt e w ws):cX e w=some ws:=by
 cases h with
 |leaf ho h=>rw[kP ho,if_neg (by omega)]
 |cat ho h1 h2 h3=>rw[s9 ho,if_neg (by omega)]
 |cond ho=>exact s8 ho
 |bits ho hn h=>rw[gN ho,if_pos hn,if_neg (by omega)]
 |all ho hn h=>rw[gN ho,if_neg (by omega),if_pos hn,if_neg (by omega)]
 |cmp ho hn hn2 h=>rw[gN ho,if_neg (by omega),if_neg (by omega),if_pos ⟨hn,hn2⟩,if_neg (by omega)]
 |sh ho hn=>rw[gN ho,if_neg (by omega),if_neg (by omega),if_neg (by omega),if_pos hn]
 |ari ho hn hn2 hn3 hn4=>rw[gN ho,if_neg hn,if_neg hn2,if_neg hn3,if_neg hn4]
theorem mI{g:List Sg}{e:E}(hs:shp g e=true){w:Int}{ws:List Int}(h:Wt e w ws):ws.length=e.l.length:=by
 cases h with
 |cond ho=>
  cases d8 hs<;>first|omega|skip
  rename_i h5;rw[h5];rfl
 |sh ho hn=>
  cases d8 hs<;>first|omega|skip
  rename_i h5 _ _;rw[h5];rfl
 |_=>simp
theorem nY{e x:E}{w:Int}(h:size e w=(x,0)):¬(w= -1/\1<own e)/\
    ((e.op=1/\e.w=0/\holds (wide e w) e.v=true/\x= .mk 1 (wide e w) e.v 0 0 0 0 [])\/
     (¬(e.op=1/\e.w=0)/\∃ws,cX e (wide e w)=some ws/\(aO (e.l.map size) ws).2=0/\
       ¬(e.op=8/\(e.n=33/\dM (aO (e.l.map size) ws).1<wide e w\/e.n≠33/\wide e w<dM (aO (e.l.map size) ws).1))/\x=e.set (wide e w) (aO (e.l.map size) ws).1)):=by
  rw[fK] at h;split at h
  · simp at h
  rename_i h1
  refine⟨h1,?_⟩;split at h
  · rename_i h2
    split at h
    · simp only[Prod.mk.injEq,and_true] at h
      exact .inl ⟨h2.1,h2.2,by assumption,h.symm⟩
    · simp at h
  · rename_i h2
    refine .inr ⟨h2,?_⟩;split at h
    · simp at h
    · rename_i ws hws
      unfold jl at h;split at h
      · rename_i h3
        simp only[Prod.mk.injEq] at h;exact(h3 h.2).elim
      · rename_i h3
        split at h
        · simp at h
        · rename_i h4
          simp only[Prod.mk.injEq,and_true] at h;exact⟨ws,hws,by simpa using h3,h4,h.symm⟩
theorem HA{e:E}{w:Int}{ws:List Int}{xs:List E}(h1:¬(w= -1/\1<own e))(h2:¬(e.op=1/\e.w=0))(h3:cX e (wide e w)=some ws)(h4:aO (e.l.map size) ws=(xs,0))
  (h5:¬(e.op=8/\(e.n=33/\dM xs<wide e w\/e.n≠33/\wide e w<dM xs))):size e w=(e.set (wide e w) xs,0):=by
 rw[fK,if_neg h1,if_neg h2,h3];simp only[h4,jl];rw[if_neg (by simp),if_neg h5]
end Fil.Sz
namespace Fil.Sz
open Abs
def dj(l:List E)(ws:List Int)(i:Nat):List E:=((l.zip ws).take i).map λq=>(size q.1 q.2).1
theorem mJ{l:List E}{ws:List Int}(hl:ws.length=l.length){i:Nat}(hi:i<=l.length):(dj l ws i).length=i:=by
 simp[dj,hl];omega
theorem pL{l:List E}{ws:List Int}{i:Nat}(h1:i<l.length)(h2:i<ws.length):dj l ws (i+1)=dj l ws i++[(size l[i] ws[i]).1]:=by
 unfold dj;have h:i<(l.zip ws).length:=by simp;omega
 rw[List.take_add_one,List.getElem?_eq_getElem h];simp
theorem AI{l:List E}{ws:List Int}{n i:Nat}(h1:i<l.length)(h2:i<ws.length)(h3:i<(dj l ws n).length):(dj l ws n)[i]=(size l[i] ws[i]).1:=by
 simp[dj]
theorem uJ{l:List E}{ws:List Int}(hl:ws.length=l.length)(h:∀j,(h1:j<l.length)->(h2:j<ws.length)->(size l[j] ws[j]).2=0):aO (l.map size) ws=(dj l ws l.length,0):=by
 refine s7 l ws _ hl.symm (mJ hl (Nat.le_refl _)) λi h1 h2 h3=>?_;rw[AI h1 h2 h3];have:=h i h1 h2
 rw[<-this]
theorem pM:∀{l:List E} {ws:List Int} {i:Nat} (h1:i<l.length) (h2:i<ws.length),(∀j,(h3:j<i)->(size (l[j]'(by omega)) (ws[j]'(by omega))).2=0)->(size l[i] ws[i]).2≠0->aO (l.map size) ws=([],(size l[i] ws[i]).2)
 |[],_,_,h1,_,_,_=>by simp at h1
 |a::l,[],_,_,h2,_,_=>by simp at h2
 |a::l,w::ws,0,_,_,_,hn=>by
  simp only[List.getElem_cons_zero] at hn;simp only[List.map_cons,aO,List.getElem_cons_zero];rw[if_pos hn]
 |a::l,w::ws,i+1,h1,h2,hz,hn=>by
  have h0:=hz 0 (by omega);simp only[List.getElem_cons_zero] at h0;simp only[List.getElem_cons_succ] at hn;have ih:=pM (l:=l) (ws:=ws) (i:=i) (by simpa using h1) (by simpa using h2) (λj hj=>by have:=hz (j+1) (by omega);simpa using this) hn;simp only[List.map_cons,aO,List.getElem_cons_succ,ih];rw[if_neg (by simp[h0]),if_pos hn]
theorem pN{e:E}(h:1<own e):size e (-1)=(zE,91):=by rw[fK,if_pos ⟨rfl,h⟩]
theorem uK{e:E}{w:Int}(h:¬(w= -1/\1<own e))(ho:e.op=1)(hw:e.w=0):size e w=if holds (wide e w) e.v then (.mk 1 (wide e w) e.v 0 0 0 0 [],0) else (zE,92):=by
 rw[fK,if_neg h,if_pos ⟨ho,hw⟩]
theorem rQ{e:E}{w:Int}(h:¬(w= -1/\1<own e))(ho:¬(e.op=1/\e.w=0))(hw:cX e (wide e w)=none):size e w=(zE,90):=by
 rw[fK,if_neg h,if_neg ho,hw]
theorem mK{e:E}{w:Int}{ws:List Int}(h:¬(w= -1/\1<own e))(ho:¬(e.op=1/\e.w=0))(hw:cX e (wide e w)=some ws):size e w=jl e w (aO (e.l.map size) ws):=by
 rw[fK,if_neg h,if_neg ho,hw]
theorem yG{g:List Sg}(hg:dg g){e:E}(hs:shp g e=true){w:Int}(hw:1<=w){ws:List Int}(h:Wt e w ws):∀v∈ws,-1<=v:=by
 have hf:0<=cF (e.l.map own):=fY λa ha=>by
  obtain⟨x,hx,rfl⟩:=List.mem_map.1 ha;exact bI hg x (aY hs hx)
 intro v hv;cases h with
 |cond ho=>simp at hv;omega
 |sh ho hn=>simp at hv;omega
 |cmp ho hn hn2 h=>
  have:=(List.mem_replicate.1 hv).2
  subst this;unfold cw;split<;>omega
 |_=>have:=(List.mem_replicate.1 hv).2;omega
end Fil.Sz
namespace Fil.Sz
open Abs
structure Ok(g:List Sg)(e:E)(w:Int)(x:E):Prop where
 set:x=e.set (wide e w) x.l
 len:x.l.length=e.l.length
 own:own x=wide e w
 pos:1<=wide e w
 few:0<Sz.own e->wide e w<=64
 shp:w<=64->wide e w<=64/\shp g x=true
 nodes:nodes x=nodes e
 deep:deep x=deep e
 again:∀w',¬(w'= -1/\1<Sz.own x)->wide x w'=wide e w->size x w'=(x,0)
theorem Ok.wd{g:List Sg}{e:E}{w:Int}{x:E}(h:Ok g e w x):x.w=wide e w:=by rw[h.set];rfl
theorem Ok.op{g:List Sg}{e:E}{w:Int}{x:E}(h:Ok g e w x):x.op=e.op:=by rw[h.set];rfl
theorem Ok.n{g:List Sg}{e:E}{w:Int}{x:E}(h:Ok g e w x):x.n=e.n:=by rw[h.set];rfl
theorem Ok.wide_eq{g:List Sg}{e:E}{w:Int}{x:E}(h:Ok g e w x):wide x w=wide e w:=by
 by_cases h1:w= -1
 ·subst h1;rw[fc,fc]
 ·by_cases h2:w=0
  ·subst h2;have h3:=h.own;have h4:=h.pos;rw[iK x,cw,if_neg (by omega),h3]
  ·rw[bM h2 h1,bM h2 h1]
theorem Ok.same{g:List Sg}{e:E}{w:Int}{x:E}(h:Ok g e w x):size x w=(x,0):=by
 refine h.again w (fun⟨h1,h2⟩=>?_) h.wide_eq;subst h1;rw[h.own,fc] at h2;omega
theorem jJ(e:E)(w:Int)(l:List E):(e.set w l).l=l:=rfl
theorem mL(e:E)(w:Int)(l:List E):(e.set w l).op=e.op:=rfl
theorem rR(e:E)(w:Int)(l:List E):(e.set w l).w=w:=rfl
theorem nr(e:E)(w:Int)(l:List E):(e.set w l).n=e.n:=rfl
theorem pP(e:E)(w:Int)(l:List E):(e.set w l).hi=e.hi:=rfl
theorem pQ(e:E)(w:Int)(l:List E):(e.set w l).lo=e.lo:=rfl
theorem uL(e:E)(w:Int)(l:List E):(e.set w l).v=e.v:=rfl
theorem lM(e:E)(w:Int)(l:List E):(e.set w l).sig=e.sig:=rfl
theorem HB(e:E)(w v:Int)(l m:List E):(e.set w l).set v m=e.set v m:=rfl
theorem Dz{g:List Sg}{e:E}(h:i8 g e=true){w:Int}{l:List E}(hl:l.length=e.l.length)(hw:1<=w/\w<=64)(h1:e.op=1->holds w e.v=true):i8 g (e.set w l)=true:=by
 unfold i8 at h|-;simp only[mL,rR,nr,pP,pQ,uL,lM,jJ,hl];split at h
 ·rename_i ho
  simp only[Bool.and_eq_true,decide_eq_true_eq] at h;rw[if_pos ho];simp only[Bool.and_eq_true,decide_eq_true_eq,Bool.or_eq_true];exact⟨⟨h.1.1,h.1.2.1,h.1.2.2.1,h.1.2.2.2.1,h.1.2.2.2.2.1,by omega,by omega⟩, .inr (h1 ho)⟩
 rename_i q1
 rw[if_neg q1];split at h
 ·rename_i ho;rw[if_pos ho];exact h
 rename_i q2
 rw[if_neg q2];split at h
 ·rename_i ho;rw[if_pos ho];exact h
 rename_i q3
 rw[if_neg q3];split at h
 ·rename_i ho;rw[if_pos ho];exact h
 rename_i q4
 rw[if_neg q4];split at h
 ·rename_i ho;rw[if_pos ho];exact h
 rename_i q5
 rw[if_neg q5];split at h
 ·rename_i ho;rw[if_pos ho];exact h
 rename_i q6
 rw[if_neg q6];split at h
 ·rename_i ho;rw[if_pos ho];exact h
 rename_i q7
 rw[if_neg q7];split at h
 ·rename_i ho
  rw[if_pos ho];simp only[decide_eq_true_eq] at h|-;exact⟨h.1,h.2.1,h.2.2.1,h.2.2.2.1,h.2.2.2.2.1,h.2.2.2.2.2.1,h.2.2.2.2.2.2.1,hw.1,hw.2⟩
 ·simp at h
theorem kb{α β γ:Type}{f:α->γ}{h:β->γ}:∀{l:List α} {m:List β},l.length=m.length->(∀i,(h1:i<l.length)->(h2:i<m.length)->f l[i]=h m[i])->l.map f=m.map h
 |[],[],_,_=>rfl
 |a::l,b::m,hl,hh=>by
  have h0:=hh 0 (by simp) (by simp);simp only[List.getElem_cons_zero] at h0
  rw[List.map_cons,List.map_cons,h0,kb (l:=l) (m:=m) (by simpa using hl) λi h1 h2=>by
   have:=hh (i+1) (by simpa using h1) (by simpa using h2)
   simpa using this]
theorem HC{l:List Int}(h:kN l≠0):∀a∈l,a≠0:=λa ha e=>h (by unfold kN;rw[if_pos (e▸ha)])
def KX(g:List Sg)(e:E)(ws:List Int)(xs:List E):Prop:=∀i,(h1:i<e.l.length)->(h2:i<ws.length)->(h3:i<xs.length)->Ok g e.l[i] ws[i] xs[i]
theorem dt{α:Type}{n i:Nat}{a:α}(h:i<(List.replicate n a).length):(List.replicate n a)[i]=a:=by simp
theorem AJ{g:List Sg}(hg:dg g){e:E}(hs:shp g e=true){W:Int}(hW:1<=W){ws:List Int}{xs:List E}(hw:Wt e W ws)(hl:xs.length=e.l.length)(hp:KX g e ws xs)(he:e.op=1->own e=W):own (e.set W xs)=W:=by
 have hwl:=mI hs hw;have hon:∀x∈e.l,0<=own x:=λx hx=>bI hg x (aY hs hx);cases d8 hs with
 |num ho=>rw[qD (by exact ho)];rfl
 |ext ho=>rw[xo (by exact ho)];rfl
 |sig ho=>
  rw[uC (by exact ho)];cases hw<;>first|omega|skip
  rename_i h1 h2
  rw[uC ho] at h2;exact h2
 |idx ho=>
  rw[uD (by exact ho)];cases hw<;>first|omega|skip
  rename_i h1 h2
  rw[uD ho] at h2;exact h2
 |cat ho=>
  rw[s6 (by exact ho),jJ];cases hw<;>first|omega|skip
  rename_i h1 h2 h3 h4
  rw[s6 ho] at h2 h3
  have:xs.map own=e.l.map own:=kb hl λi q1 q2=>by
   have ok:=hp i q2 (by simpa using q2) q1;have h5:=ok.own;rw[dt,iK,cw,if_neg (HC h2 _ (List.mem_map_of_mem (List.getElem_mem q2)))] at h5;exact h5
  rw[this];exact h3
 |cond ho _ _ _ _ _ a b c h6=>
  rw[AC (by exact ho),jJ];cases hw<;>first|omega|skip
  obtain⟨x,y,z,rfl⟩:=len3 (show xs.length=3 by rw[hl,h6];rfl);have ok:=hp 1 (by rw[h6];simp) (by simp) (by simp);have h5:=ok.own;simp only[List.getElem_cons_succ,List.getElem_cons_zero] at h5;rw[bM (by omega) (by omega)] at h5;simp[cF,h5];omega
 |un ho _ _ _ _ a h6 h7 h8=>
  rw[AD (by exact ho),nr,jJ];obtain⟨x,rfl⟩:=len1 (show xs.length=1 by rw[hl,h6];rfl);by_cases hn:e.n<=2
  ·rw[if_pos hn];cases hw<;>first|omega|skip
   have ok:=hp 0 (by rw[h6];simp) (by simp[h6]) (by simp);have h5:=ok.own;rw[dt,bM (by omega) (by omega)] at h5;simpa using h5
  ·rw[if_neg hn];cases hw<;>omega
 |bin ho _ _ _ _ a b h6 h7 h8=>
  rw[AE (by exact ho),nr,jJ];obtain⟨x,y,rfl⟩:=len2 (show xs.length=2 by rw[hl,h6];rfl);by_cases hn:e.n<=16
  ·rw[if_pos hn];cases hw<;>first|omega|skip
   have ok:=hp 0 (by rw[h6];simp) (by simp[h6]) (by simp);have h5:=ok.own;rw[dt,bM (by omega) (by omega)] at h5;simp only[List.getElem_cons_zero] at h5;simp[cF,h5];omega
  ·rw[if_neg hn];by_cases hn2:e.n<=18
   ·rw[if_pos hn2];cases hw<;>first|omega|skip
    have ok:=hp 0 (by rw[h6];simp) (by simp) (by simp);have h5:=ok.own;simp only[List.getElem_cons_zero] at h5;rw[bM (by omega) (by omega)] at h5;simpa using h5
   ·rw[if_neg hn2];cases hw<;>omega
theorem AK{g:List Sg}(hg:dg g){e:E}(hs:shp g e=true){W:Int}(hW:1<=W){ws:List Int}{xs:List E}(hw:Wt e W ws)(hl:xs.length=e.l.length)(hp:KX g e ws xs)(h0:0<own e):W<=64:=by
 have hwl:=mI hs hw;have hon:∀x∈e.l,0<=own x:=λx hx=>bI hg x (aY hs hx);cases d8 hs with
 |num ho _ _ _ _ _ _ h7=>
  cases hw<;>first|omega|skip
  rename_i h1 h2
  rw[qD ho] at h2;omega
 |ext ho _ _ _ _ _ _ _ _ _ h9=>
  cases hw<;>first|omega|skip
  rename_i h1 h2
  rw[xo ho] at h2;omega
 |sig ho _ _ _ h6=>
  cases hw<;>first|omega|skip
  rename_i h1 h2
  have:=dU hg h6
  rw[uC ho] at h2;omega
 |idx ho=>
  cases hw<;>first|omega|skip
  rename_i h1 h2
  rw[uD ho] at h2;omega
 |cat ho=>
  cases hw<;>first|omega|skip
 |cond ho _ _ _ _ _ a b c h6=>
  rw[AC ho] at h0;cases hw<;>first|omega|skip
  have ok1:=hp 1 (by rw[h6];simp) (by simp) (by rw[hl,h6];simp);have ok2:=hp 2 (by rw[h6];simp) (by simp) (by rw[hl,h6];simp);have f1:=ok1.few;have f2:=ok2.few;simp only[List.getElem_cons_succ,List.getElem_cons_zero] at f1 f2;rw[bM (by omega) (by omega)] at f1 f2;have g1:=hon b (by rw[h6];simp);have g2:=hon c (by rw[h6];simp);simp only[h6,List.getElem_cons_succ,List.getElem_cons_zero] at f1 f2;simp only[h6,List.map_cons,List.map_nil,List.drop_succ_cons,List.drop_zero,cF] at h0;by_cases q:own b=0
  ·rw[if_pos q] at h0;by_cases q2:own c=0
   ·rw[if_pos q2] at h0;omega
   ·exact f2 (by omega)
  ·exact f1 (by omega)
 |un ho _ _ _ _ a h6 h7 h8=>
  rw[AD ho] at h0;by_cases hn:e.n<=2
  ·rw[if_pos hn] at h0;cases hw<;>first|omega|skip
   have ok:=hp 0 (by rw[h6];simp) (by simp[h6]) (by rw[hl,h6];simp);have f1:=ok.few;rw[dt,bM (by omega) (by omega)] at f1;simp only[h6,List.getElem_cons_zero] at f1;simp only[h6,List.map_cons,List.headD_cons] at h0;exact f1 h0
  ·cases hw<;>omega
 |bin ho _ _ _ _ a b h6 h7 h8=>
  rw[AE ho] at h0;by_cases hn:e.n<=16
  ·rw[if_pos hn] at h0;cases hw<;>first|omega|skip
   have ok1:=hp 0 (by rw[h6];simp) (by simp[h6]) (by rw[hl,h6];simp);have ok2:=hp 1 (by rw[h6];simp) (by simp[h6]) (by rw[hl,h6];simp);have f1:=ok1.few;have f2:=ok2.few;rw[dt,bM (by omega) (by omega)] at f1 f2;have g1:=hon a (by rw[h6];simp);have g2:=hon b (by rw[h6];simp);simp only[h6,List.getElem_cons_succ,List.getElem_cons_zero] at f1 f2;simp only[h6,List.map_cons,List.map_nil,cF] at h0;by_cases q:own a=0
   ·rw[if_pos q] at h0;by_cases q2:own b=0
    ·rw[if_pos q2] at h0;omega
    ·exact f2 (by omega)
   ·exact f1 (by omega)
  ·rw[if_neg hn] at h0;by_cases hn2:e.n<=18
   ·rw[if_pos hn2] at h0;cases hw<;>first|omega|skip
    have ok:=hp 0 (by rw[h6];simp) (by simp) (by rw[hl,h6];simp);have f1:=ok.few;simp only[List.getElem_cons_zero] at f1;rw[bM (by omega) (by omega)] at f1;simp only[h6,List.getElem_cons_zero] at f1;simp only[h6,List.map_cons,List.headD_cons] at h0;exact f1 h0
   ·cases hw<;>omega
theorem DA{g:List Sg}{e:E}(hs:shp g e=true)(ho:e.op=4\/e.op=5)(hn:19<=e.n):∃a b,e.l=[a,b]:=by
 cases d8 hs<;>first|omega|exact⟨_,_,by assumption⟩
theorem DB{g:List Sg}(hg:dg g){e:E}(hs:shp g e=true){W:Int}(hW:1<=W)(hW2:W<=64){ws:List Int}{xs:List E}(hw:Wt e W ws)(hl:xs.length=e.l.length)(hp:KX g e ws xs):∀v∈ws,v<=64:=by
 intro v hv;cases hw with
 |cond ho=>simp at hv;omega
 |sh ho hn=>simp at hv;omega
 |cmp ho hn hn2 h=>
  have hv:=(List.mem_replicate.1 hv).2;obtain⟨a,b,h6⟩:=DA hs ho hn;by_cases hf:cF (e.l.map own)=0
  ·rw[hf] at hv;simp[cw] at hv;omega
  ·rw[cw,if_neg hf] at hv;have ok1:=hp 0 (by rw[h6];simp) (by simp[h6]) (by rw[hl,h6];simp);have ok2:=hp 1 (by rw[h6];simp) (by simp[h6]) (by rw[hl,h6];simp);have f1:=ok1.few;have f2:=ok2.few;have g1:=bI hg a (aY hs (by rw[h6];simp));have g2:=bI hg b (aY hs (by rw[h6];simp));rw[dt,cw,if_neg hf,<-hv] at f1 f2;simp only[h6,List.getElem_cons_succ,List.getElem_cons_zero] at f1 f2;simp only[h6,List.map_cons,List.map_nil,cF] at hf hv;by_cases q:own a=0
   ·rw[if_pos q] at hf hv;by_cases q2:own b=0
    ·rw[if_pos q2] at hf;omega
    ·rw[if_neg q2] at hv;rw[bM (by omega) (by omega)] at f2;exact f2 (by omega)
   ·rw[if_neg q] at hv;rw[bM (by omega) (by omega)] at f1;exact f1 (by omega)
 |_=>have:=(List.mem_replicate.1 hv).2;omega
theorem KY{g:List Sg}(hg:dg g){e:E}(hs:shp g e=true){W:Int}(hW:1<=W){ws:List Int}{xs:List E}(hw:Wt e W ws)(hl:xs.length=e.l.length)(hp:KX g e ws xs)(hown:own (e.set W xs)=W):Wt (e.set W xs) W ws:=by
 cases hw with
 |leaf ho h=>
  rw[<-hl];exact .leaf (e:=e.set W xs) ho hown
 |cat ho h1 h2 h3=>
  rw[<-hl];exact .cat (e:=e.set W xs) ho (by omega) hown (by omega)
 |cond ho=>exact .cond (e:=e.set W xs) ho
 |bits ho hn h=>rw[<-hl];exact .bits (e:=e.set W xs) ho hn h
 |all ho hn h=>rw[<-hl];exact .all (e:=e.set W xs) ho hn h
 |cmp ho hn hn2 h=>
  have hk:cw (cF (xs.map own)) 32=cw (cF (e.l.map own)) 32:=by
   obtain⟨a,b,h6⟩:=DA hs ho hn
   have hf0:0<=cF (e.l.map own):=fY λa ha=>by
    obtain⟨x,hx,rfl⟩:=List.mem_map.1 ha;exact bI hg x (aY hs hx)
   obtain⟨K,hK⟩:∃K,cw (cF (e.l.map own)) 32=K:=⟨_,rfl⟩;have hK1:1<=K:=by rw[<-hK];unfold cw;split<;>omega
   rw[hK] at hp|-;obtain⟨x,y,rfl⟩:=len2 (show xs.length=2 by rw[hl,h6];rfl);have ok:=hp 0 (by rw[h6];simp) (by simp[h6]) (by simp);have h5:=ok.own;rw[dt,bM (by omega) (by omega)] at h5;simp only[List.getElem_cons_zero] at h5;have hf:cF ([x,y].map own)=K:=by simp[cF,h5];omega
   rw[hf,cw,if_neg (by omega)]
  have:=Wt.cmp (e:=e.set W xs) (w:=W) ho hn hn2 h
  rw[jJ,hl,hk] at this;exact this
 |sh ho hn=>exact .sh (e:=e.set W xs) ho hn
 |ari ho hn hn2 hn3 hn4=>
  have:=Wt.ari (e:=e.set W xs) (w:=W) ho hn hn2 hn3 hn4
  rw[jJ,hl] at this;exact this
theorem gr{g:List Sg}(hg:dg g)(e:E):∀(w:Int) (x:E),shp g e=true-> -1<=w->size e w=(x,0)->Ok g e w x:=by
 refine E.ind (P:=λe=>∀(w:Int) (x:E),shp g e=true-> -1<=w->size e w=(x,0)->Ok g e w x) (λe ih w x hs h0 h=>?_) e;obtain⟨hbit,hc⟩:=nY h;have hon:=bI hg e hs;have hpos:=lK hon h0;generalize hW:wide e w=W at hpos hc
 have key:∀(ws:List Int) (xs:List E),x=e.set W xs->xs.length=e.l.length->KX g e ws xs->own x=W->(0<own e->W<=64)->(∀v∈ws,W<=64->v<=64)->ws.length=e.l.length->
   (e.op=1->holds W e.v=true)->Wt x W ws->¬(e.op=8/\(e.n=33/\dM xs<W\/e.n≠33/\W<dM xs))->Ok g e w x:=λws xs hx hl hp hown hfew hws hwl hh hwt hbad=>by
  have hxl:x.l=xs:=by rw[hx];rfl
  refine⟨by rw[hxl,hW];exact hx,by rw[hxl];exact hl,by rw[hW];exact hown,by rw[hW];exact hpos,λh=>by rw[hW];exact hfew h,λh64=>?_,?_,?_,λw' h1 h2=>?_⟩
  ·have hW64:W<=64:=by
    by_cases q:w= -1
    ·rw[<-hW,q,fc];omega
    ·by_cases q2:w=0
     ·by_cases q3:own e=0
      ·rw[<-hW,q2,iK,q3];simp[cw]
      ·exact hfew (by omega)
     ·rw[<-hW,bM q2 q];exact h64
   rw[hW];refine⟨hW64,?_⟩;rw[mE,Bool.and_eq_true];refine⟨by rw[hx];exact Dz (by rw[mE,Bool.and_eq_true] at hs;exact hs.1) hl ⟨hpos,hW64⟩ hh,?_⟩;rw[List.all_eq_true];intro y hy;rw[hxl] at hy;obtain⟨i,hi,rfl⟩:=List.getElem_of_mem hy;have ok:=hp i (by omega) (by omega) hi;exact(ok.shp (hws _ (List.getElem_mem (by omega)) hW64)).2
  ·rw[bK x,bK e,hxl];rw[kb hl λi q1 q2=>(hp i q2 (by omega) q1).nodes]
  ·rw[lF x,lF e,hxl];rw[kb hl λi q1 q2=>(hp i q2 (by omega) q1).deep]
  ·rw[hW] at h2
   have hr:aO (x.l.map size) ws=(xs,0):=by
    rw[hxl];exact s7 xs ws xs (by omega) rfl λi q1 q2 q3=>(hp i (by omega) q2 q1).same
   have:=HA (e:=x) (w:=w') h1 (by rw[hx,rR];omega) (by rw[h2];exact Dy hwt) hr (by rw[h2,hx,mL,nr];exact hbad)
   rw[this,h2,hx,HB]
 rcases hc with ⟨ho,hw0,hh,hx⟩|⟨hnum,ws,hws,hr,hbad,hx⟩
 ·cases d8 hs<;>first|omega|skip
  rename_i q1 q2 q3 q4 q5 q6 q7 q8 q9
  have hx':x=e.set W []:=by rw[hx];unfold E.set;rw[ho,q2,q3,q4,q5]
  have hown:own x=W:=by rw[hx',qD (by exact ho)];rfl
  have ho1:own e=e.w:=qD ho
  have hwt:Wt x W []:=by
   have:=Wt.leaf (e:=x) (w:=W) (.inl (by rw[hx'];exact ho)) hown
   rw[hx',jJ] at this;rw[hx'];exact this
  exact key [] [] hx' (by rw[q6]) (λi h=>by rw[q6] at h;simp at h) hown (λh=>by omega) (λv hv=>by simp at hv) (by simp[q6]) (λ_=>hh) hwt (λh=>by omega)
 ·have hwt:=lL hs hws;have hwl:=mI hs hwt;obtain⟨hl,hget⟩:=lJ e.l ws hwl.symm hr;have hge:=yG hg hs hpos hwt;obtain⟨X,hX⟩:∃X,(aO (e.l.map size) ws).1=X:=⟨_,rfl⟩
  have hp:KX g e ws X:=λi h1 h2 h3=>by
   refine ih _ (List.getElem_mem h1) _ _ (aY hs (List.getElem_mem h1)) (hge _ (List.getElem_mem h2)) ?_;rw[hget i h1 h2];simp only[hX]
  rw[hX] at hbad hx hl
  have h1w:e.op=1->own e=W:=λho=>by
   cases hwt<;>omega
  have hown:=AJ hg hs hpos hwt hl hp h1w
  have hh:e.op=1->holds W e.v=true:=λho=>by
   cases d8 hs<;>first|omega|skip
   rename_i q1 q2 q3 q4 q5 q6 q7 q8 q9
   have:=h1w ho
   rw[qD ho] at this;rcases q9 with q|q
   ·exact(hnum ⟨ho,q⟩).elim
   ·rw[<-this];exact q
  exact key ws X hx hl hp (by rw[hx];exact hown) (AK hg hs hpos hwt hl hp) (λv hv h64=>DB hg hs hpos h64 hwt hl hp v hv) hwl hh (by rw[hx];exact KY hg hs hpos hwt hl hp hown) hbad
end Fil.Sz
