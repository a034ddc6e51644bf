/- The abstraction layer, part Z: a statement's arguments of recursive types, with their bulk. Over any program. -/
import Derived.Test.YtbbihmmobfmadaaGreatWAbsU
set_option linter.unusedSimpArgs false
set_option linter.unusedVariables false
namespace Abs
open Go
mutual
def kT:AV->Nat
 | .str s=>s.size+1
 | .slice l _=>bW l+1
 | .agg l=>bW l+1
 |_=>1
def bW:List AV->Nat
 |[]=>0
 |a::l=>kT a+bW l
end
theorem jQ:∀(l m:List AV),bW (l++m)=bW l+bW m
 |[],m=>by simp[bW]
 |a::l,m=>by simp only[List.cons_append,bW,jQ l m];omega
theorem yY{b:Nat->Nat}:∀(l:List AV) (k:Nat),(∀i,(h:i<l.length)->kT l[i]<=b (k+i))->bW l<=((List.range' k l.length).map b).sum
 |[],_,_=>by simp[bW]
 |a::l,k,h=>by
  have h0:=h 0 (by simp)
  have ih:=yY (b:=b) l (k+1) λi hi=>by
   have:=h (i+1) (by simpa using hi)
   simp only[List.getElem_cons_succ] at this;rw[show k+1+i=k+(i+1) by omega];exact this
  simp only[List.getElem_cons_zero,Nat.add_zero] at h0;simp only[bW,List.length_cons,List.range'_succ,List.map_cons,List.sum_cons];omega
structure Bulk(H:Type) where
 B:DataW H->Nat
 BA:List (DataW H)->Nat
 lit:∀l,1<=B (.lit l)
 str:∀s,s.length+1<=B (.lit (.string s))
 nil:1<=B .nil
 slice:∀l r,BA l+1<=B (.slice l r)
 agg:∀l,BA l+1<=B (.agg l)
 bnil:BA []=0
 bcons:∀d l,BA (d::l)=B d+BA l
def Iy{H:Type}(b:Bulk H):Option (DataW H×List MemPlace)->Nat
 |some y=>b.B y.1
 |none=>0
theorem ke{H:Type}(b:Bulk H){α:Type}{f:α->Option (DataW H×List MemPlace)}:∀{l:List α} {ys},l.mapM f=some ys->b.BA (ys.map (·.1))=(l.map λa=>Iy b (f a)).sum
 |[],ys,h=>by simp at h;subst h;simpa using b.bnil
 |x::l,ys,h=>by
  simp only[List.mapM_cons,Option.bind_eq_bind,Option.bind_eq_some_iff,Option.pure_def,Option.some.injEq] at h;obtain⟨y,h1,zs,h2,rfl⟩:=h;simp only[List.map_cons,b.bcons,List.sum_cons,ke b h2,h1,Iy]
def Bd(P:Program)(t:TypeId):Nat:=if isAgg P t then 1 else 0
def qo(P:Program)(S:List TypeId)(t:TypeId):Bool:=
 match P.underlying t with
 |some .bool=>P.cellsOf t==1
 |some (.int _)=>P.cellsOf t==1
 |some .string=>P.cellsOf t==1
 |some (.slice e)=>P.cellsOf t==1&&S.contains e&&decide (0<P.cellsOf e)
 |some (.struct fs)=>fs.toList.all (λf=>S.contains f.type)&&CE P fs.toList 0 (P.cellsOf t)
 |some (.array n e)=>S.contains e&&n*P.cellsOf e==P.cellsOf t
 |_=>false
def iO(P:Program)(S:List TypeId):Bool:=S.all (qo P S)
theorem jg{P:Program}{S:List TypeId}{t:TypeId}(h:iO P S=true)(ht:t∈S):qo P S t=true:=List.all_eq_true.1 h t ht
theorem nt{P:Program}{S:List TypeId}{t:TypeId}(h:qo P S t=true)(ha:isAgg P t=false):P.cellsOf t=1:=by
 unfold qo at h;unfold isAgg at ha;split at h<;>simp_all
def kf(P:Program)(W:World)(g:Nat)(t:TypeId)(n:Nat)(cs:List Value):Prop:=
 ∃as_,RelL (kH W) as_ cs/\bm P g t as_/\as_.all bY=true/\as_.length=P.cellsOf t/\bW as_+Bd P t<=n
theorem jR{P:Program}{W:World}{g n:Nat}{cs:List Value}(hn:cs.length=n){b:Field->Nat}:∀(fs:List Field) (off:Nat),CE P fs off n=true->off<=n->
  (∀f∈fs,kf P W g f.type (b f) ((cs.drop f.offset).take (P.cellsOf f.type)))->∃as_,RelL (kH W) as_ (cs.drop off)/\mp (bm P g) (fs.map (·.type)) as_/\as_.all bY=true/\bW as_<=(fs.map b).sum
 |[],off,hl,ho,_=>by
  simp[CE] at hl;subst hl
  refine⟨[],?_,rfl,rfl,by simp[bW]⟩;rw[List.drop_eq_nil_of_le (by omega)];exact .nil
 |f::fs,off,hl,ho,h=>by
  simp only[CE,Bool.and_eq_true,beq_iff_eq] at hl;obtain⟨rfl,hl⟩:=hl;obtain⟨as_,h1,h2,h3,h4,h5⟩:=h f (by simp)
  have hle:f.offset+P.cellsOf f.type<=n:=by
   have:=h1.1
   rw[h4] at this;simp at this
   omega
  obtain⟨bs,k1,k2,k3,k4⟩:=jR hn fs _ hl hle λf' hf'=>h f' (by simp[hf']);refine⟨as_++bs,?_,⟨as_,bs,rfl,h2,k2⟩,by simp[List.all_append,h3,k3],by rw[jQ,List.map_cons,List.sum_cons];omega⟩
  have e:cs.drop f.offset=(cs.drop f.offset).take (P.cellsOf f.type)++cs.drop (f.offset+P.cellsOf f.type):=by
   rw[<-List.drop_drop,List.take_append_drop]
  rw[e];exact h1.append k1
theorem kw{P:Program}{W:World}{g:Nat}{e:TypeId}{cs:List Value}{b:Nat->Nat}:∀(m k:Nat),cs.length=(k+m)*P.cellsOf e->
  (∀i,k<=i->i<k+m->kf P W g e (b i) ((cs.drop (i*P.cellsOf e)).take (P.cellsOf e)))->∃as_,RelL (kH W) as_ (cs.drop (k*P.cellsOf e))/\mp (bm P g) (List.replicate m e) as_/\as_.all bY=true/\bW as_<=((List.range' k m).map b).sum
 |0,k,hl,_=>by
  refine⟨[],?_,rfl,rfl,by simp[bW]⟩;rw[List.drop_eq_nil_of_le (by simp at hl;omega)];exact .nil
 |m+1,k,hl,h=>by
  obtain⟨as_,h1,h2,h3,h4,h5⟩:=h k (by omega) (by omega);obtain⟨bs,k1,k2,k3,k4⟩:=kw (P:=P) (W:=W) (g:=g) (e:=e) (cs:=cs) (b:=b) m (k+1) (by rw[hl];congr 1;omega) λi h1 h2=>h i (by omega) (by omega);refine⟨as_++bs,?_,by rw[List.replicate_succ];exact⟨as_,bs,rfl,h2,k2⟩,by simp[List.all_append,h3,k3],by rw[jQ,List.range'_succ,List.map_cons,List.sum_cons];omega⟩
  have e':cs.drop (k*P.cellsOf e)=(cs.drop (k*P.cellsOf e)).take (P.cellsOf e)++cs.drop ((k+1)*P.cellsOf e):=by
   rw[Nat.succ_mul,<-List.drop_drop,List.take_append_drop]
  rw[e'];exact h1.append k1
theorem qJ{P:Program}{W:World}{g:Nat}{b:Nat->Nat}{t e:TypeId}{a:Addr}{len cap:Nat}(ht:P.underlying t=some (.slice e))(h1:P.cellsOf t=1)(hpe:isAgg P e=false->P.cellsOf e=1)(hpos:0<P.cellsOf e)(hlc:len<=cap)(hcm:cap<=maxLen)
  (hel:∀i,i<len->∃es,W.cells? 0 (a.add (i*P.cellsOf e)) (P.cellsOf e)=some es/\kf P W g e (b i) es):kf P W (g+1) t (((List.range len).map b).sum+1) [.slice (some a) len cap]:=by
 have hag:Bd P t=0:=by simp[Bd,isAgg,ht]
 rcases Nat.eq_zero_or_pos len with hz|hz
 ·subst hz;refine⟨[.slice [] .no], .cons (.sl0 (some a) cap .no (.inl rfl)) .nil,?_,rfl,by rw[h1];rfl,by simp[bW,kT,hag]⟩;simp only[bm,ht];exact⟨[],rfl,by simp,by simp⟩
 let p:Nat->AV->Prop:=λi x=>∃es as_,W.cells? 0 (a.add (i*P.cellsOf e)) (P.cellsOf e)=some es/\RelL (kH W) as_ es/\bm P g e as_/\as_.all bY=true/\eE (isAgg P e) as_=some x/\az x=as_/\as_.length=P.cellsOf e/\kT x<=b i
 have hp:∀i,i<len->∃x,p i x:=by
  intro i hi;obtain⟨es,q1,as_,q2,q3,q4,q5,q6⟩:=hel i hi
  have hmk:∃x,eE (isAgg P e) as_=some x:=by
   unfold eE;split
   ·exact⟨_,rfl⟩
   ·match as_,q5 with
    |[],q5=>simp at q5;omega
    |v::r,_=>exact⟨v,rfl⟩
  obtain⟨x,hx⟩:=hmk;refine⟨x,es,as_,q1,q2,q3,q4,hx,Ai hx q4 (λhg=>by rw[q5];exact hpe hg),q5,?_⟩;unfold eE at hx;unfold Bd at q6;split at hx
  ·rename_i hg
   rw[if_pos hg] at q6;simp at hx;subst hx;simp only[kT];exact q6
  ·rename_i hg
   have hl:=q5.trans (hpe (by simpa using hg));match as_,hl with
   |[v],_=>simp at hx;subst hx;simp only[bW] at q6;omega
 obtain⟨l,hl,hg⟩:=pj len hp
 have hsz:∀x∈l,(az x).length=P.cellsOf e:=by
  intro x hx;obtain⟨i,hi⟩:=List.getElem?_of_mem hx;obtain⟨es,as_,_,_,_,_,_,q,q',_⟩:=hg i x hi;rw[q,q']
 have ha:a.spot=none:=by
  obtain⟨es,q1,_⟩:=hel 0 hz;unfold World.cells? at q1;rw[if_pos (Nat.zero_le _)] at q1;obtain⟨v,hv⟩:=jw q1 0 (by simpa using hpos);have:=(rh hv).1
  simp[Addr.add] at this
  exact this
 have hcell:∀i,(hi:i<(flat l).length)->∃v,W.cell? ⟨a.block,a.off+i,none⟩=some v/\Rel (kH W) (flat l)[i] v/\v.oneCell'=true:=by
  intro i hi;have hfl:=aV hsz
  have hq:i/P.cellsOf e<l.length:=by
   rw[Nat.div_lt_iff_lt_mul hpos];rw[<-hfl];exact hi
  have hr:i%P.cellsOf e<P.cellsOf e:=Nat.mod_lt _ hpos;have hx:l[i/P.cellsOf e]?=some l[i/P.cellsOf e]:=List.getElem?_eq_getElem hq;obtain⟨es,as_,q1,q2,_,q4,_,q6,q7,_⟩:=hg _ _ hx;have hat:=xL hsz hx;unfold World.cells? at q1;rw[if_pos (Nat.zero_le _)] at q1;obtain⟨m1,m2⟩:=t8 q1;have hes:es.length=P.cellsOf e:=by simpa using m1
  have hv:=m2 (i%P.cellsOf e) (i%P.cellsOf e) (es[i%P.cellsOf e]'(by omega)) (by simp[hr]) (List.getElem?_eq_getElem (by omega));rw[ua ha,ua (a:=⟨a.block,_,none⟩) rfl] at hv;simp only[Nat.add_assoc] at hv;have hdm:i/P.cellsOf e*P.cellsOf e+i%P.cellsOf e=i:=Nat.div_add_mod' i _;rw[hdm] at hv;refine⟨_,hv,?_,?_⟩
  ·have hrel:=q2.2 (i%P.cellsOf e) (by omega) (by omega)
   have:(flat l)[i]?=some (as_[i%P.cellsOf e]'(by omega)):=by
    have h5:=congrArg (λz=>z[i%P.cellsOf e]?) hat;simp only[q6] at h5;rw[List.getElem?_take_of_lt hr,List.getElem?_drop,hdm] at h5;rw[h5];exact List.getElem?_eq_getElem (by omega)
   rw[List.getElem?_eq_getElem hi] at this;rw[Option.some.inj this];exact hrel
  ·exact q2.ones q4 _ _
 let vv:Nat->Value:=λi=>(W.cell? ⟨a.block,a.off+i,none⟩).getD undef
 refine⟨[.slice l .no], .cons ?_ .nil,?_,rfl,by rw[h1];rfl,?_⟩
 ·have e1:a=⟨a.block,a.off,none⟩:=by cases a;simp at ha;subst ha;rfl
  rw[e1,<-hl];refine .slice l .no a.block a.off cap (P.cellsOf e) vv hsz (λi hi=>?_) (λi hi=>?_) trivial (by omega)
  ·obtain⟨v,k1,_,k3⟩:=hcell i hi;simp only[vv,k1,Option.getD_some];exact Ah k1 k3
  ·obtain⟨v,k1,k2,_⟩:=hcell i hi;simp only[vv,k1,Option.getD_some];exact k2
 ·simp only[bm,ht];refine⟨l,rfl,by omega,λx hx=>?_⟩;obtain⟨i,hi⟩:=List.getElem?_of_mem hx;obtain⟨es,as_,_,_,q3,_,q5,_⟩:=hg i x hi;exact⟨as_,q5,q3⟩
 ·have hs:=yY (b:=b) l 0 λi hi=>by
   obtain⟨_,_,_,_,_,_,_,_,_,q⟩:=hg i l[i] (List.getElem?_eq_getElem hi);rw[Nat.zero_add];exact q
  rw[hl,<-List.range_eq_range'] at hs;simp only[bW,kT,hag];omega
theorem nu{H:Type}(b:Bulk H){enc:TypeId×Value->H}{P:Program}{W:World}{sp:Nat->Bool}{held:Bool}{S:List TypeId}(hS:iO P S=true):∀(fuel:Nat) (t:TypeId) (cs:List Value) (d:DataW H) (ps:List MemPlace),
  DataW.trod enc P W 0 sp held fuel t cs=some (d,ps)->t∈S->kf P W fuel t (b.B d) cs
 |0,_,_,_,_,h,_=>by simp[DataW.trod] at h
 |fuel+1,t,cs,d,ps,h,hp=>by
  have ih:=nu b (enc:=enc) (P:=P) (W:=W) (sp:=sp) (held:=held) hS fuel;simp only[DataW.trod] at h;replace hp:=jg hS hp;simp only[qo] at hp;split at h
  case h_1 v hu=>
   rw[hu] at hp;simp only[Option.some.injEq,Prod.mk.injEq] at h;refine⟨[.bool v], .cons (.bool v) .nil,?_,rfl,by simpa using (beq_iff_eq.1 hp).symm,?_⟩
   ·simp only[bm,hu];exact⟨v,rfl⟩
   ·rw[<-h.1];have:=b.lit (.bool v);simp[bW,kT,Bd,isAgg,hu];omega
  case h_2 k k' n hu=>
   rw[hu] at hp;split at h<;>simp at h
   rename_i hc
   obtain⟨rfl,hwf⟩:=hc;refine⟨[.int k' n], .cons (.int k' n) .nil,?_,rfl,by simpa using (beq_iff_eq.1 hp).symm,?_⟩
   ·simp only[bm,hu];simp[Lit.wf] at hwf
    exact⟨n,rfl,hwf.1,hwf.2⟩
   ·rw[<-h.1];have:=b.lit (.int k' n);simp[bW,kT,Bd,isAgg,hu];omega
  case h_4 s hu=>
   rw[hu] at hp;split at h<;>simp at h
   rename_i hc
   refine⟨[.str s], .cons (.str s) .nil,?_,rfl,by simpa using (beq_iff_eq.1 hp).symm,?_⟩
   ·simp only[bm,hu];exact⟨s,rfl,hc⟩
   ·rw[<-h.1];have:=b.str s.data.toList;simp[bW,kT,Bd,isAgg,hu] at this|-;exact this
  all_goals first
   |(rename_i hu;rw[hu] at hp;simp at hp;done)
   |(rename_i hu _;rw[hu] at hp;simp at hp;done)
   |(simp at h;done)
   |skip
  case h_7 e hu=>
   rw[hu] at hp;simp only[Bool.and_eq_true,beq_iff_eq,List.contains_iff_mem] at hp;simp only[Option.some.injEq,Prod.mk.injEq] at h;refine⟨[.slice [] .no], .cons (.sl0 none 0 .no (.inl rfl)) .nil,?_,rfl,by rw[hp.1.1];rfl,?_⟩
   ·simp only[bm,hu];exact⟨[],rfl,by simp,by simp⟩
   ·rw[<-h.1];have:=b.nil;simp[bW,kT,Bd,isAgg,hu];omega
  case h_8 e a len cap hu=>
   rw[hu] at hp;simp only[Bool.and_eq_true,beq_iff_eq,decide_eq_true_eq,List.contains_iff_mem] at hp;obtain⟨⟨h1,h2⟩,h3⟩:=hp;split at h
   ·rename_i hc
    obtain⟨c1,c2,c3⟩:=hc;simp only[Option.bind_eq_some_iff] at h;obtain⟨elems,he,h⟩:=h;simp only[Option.map_eq_some_iff] at h;obtain⟨rest,_,h⟩:=h;simp only[Prod.mk.injEq] at h;have hbm:=ke b he
    have hop:kf P W (fuel+1) t (((List.range len).map λi=>Iy b ((W.cells? 0 (a.add (i*P.cellsOf e)) (P.cellsOf e)).bind (DataW.trod enc P W 0 sp held fuel e))).sum+1) [.slice (some a) len cap]:=by
     refine qJ hu h1 (nt (jg hS h2)) h3 c2 c3 λi hi=>?_;obtain⟨y,hy⟩:=jw he i (by simpa using hi);have hy':=hy;simp only[Option.bind_eq_some_iff] at hy;obtain⟨es,q1,q2⟩:=hy;refine⟨es,q1,?_⟩;simp only[hy',Iy];exact ih e es _ _ q2 h2
    obtain⟨as_,z1,z2,z3,z4,z5⟩:=hop;refine⟨as_,z1,z2,z3,z4,?_⟩;rw[<-h.1];have:=b.slice (elems.map (·.1)) (rest.map (·.1))
    omega
   ·simp at h
  case h_9 fs hu=>
   rw[hu] at hp;simp only[Bool.and_eq_true,List.all_eq_true,List.contains_iff_mem] at hp;obtain⟨h1,h2⟩:=hp;split at h
   ·rename_i hlen
    simp only[Option.map_eq_some_iff] at h;obtain⟨xs,hx,h⟩:=h;simp only[Prod.mk.injEq] at h;have hbm:=ke b hx
    rename_i cc _ _
    obtain⟨as_,k1,k2,k3,k4⟩:=jR (P:=P) (W:=W) (g:=fuel) hlen (b:=λf=>Iy b (DataW.trod enc P W 0 sp held fuel f.type ((cc.drop f.offset).take (P.cellsOf f.type)))) fs.toList 0 h2 (Nat.zero_le _) λf hf=>by
     obtain⟨y,hy⟩:=jw hx f hf;simp only[hy,Iy];exact ih _ _ _ _ hy (h1 f hf)
    rw[List.drop_zero] at k1;refine⟨as_,k1,?_,k3,by rw[k1.1,hlen],?_⟩
    ·simp only[bm,hu];exact k2
    ·rw[<-h.1];have:=b.agg (xs.map (·.1))
     have:Bd P t<=1:=by unfold Bd;split<;>omega
     omega
   ·simp at h
  case h_10 n e hu=>
   rw[hu] at hp;simp only[Bool.and_eq_true,beq_iff_eq,List.contains_iff_mem] at hp;obtain⟨h1,h2⟩:=hp;split at h
   ·rename_i hlen
    simp only[Option.map_eq_some_iff] at h;obtain⟨xs,hx,h⟩:=h;simp only[Prod.mk.injEq] at h;have hbm:=ke b hx
    rename_i cc _ _
    obtain⟨as_,k1,k2,k3,k4⟩:=kw (P:=P) (W:=W) (g:=fuel) (e:=e) (b:=λi=>Iy b (DataW.trod enc P W 0 sp held fuel e ((cc.drop (i*P.cellsOf e)).take (P.cellsOf e)))) n 0 (by rw[hlen,<-h2];simp) λi _ hi=>by
     obtain⟨y,hy⟩:=jw hx i (by simpa using hi);simp only[hy,Iy];exact ih _ _ _ _ hy h1
    rw[Nat.zero_mul,List.drop_zero] at k1;rw[<-List.range_eq_range'] at k4;refine⟨as_,k1,?_,k3,by rw[k1.1,hlen],?_⟩
    ·simp only[bm,hu];exact k2
    ·rw[<-h.1];have:=b.agg (xs.map (·.1))
     have:Bd P t<=1:=by unfold Bd;split<;>omega
     omega
   ·simp at h
theorem xH{H:Type}(b:Bulk H){enc:TypeId×Value->H}{P:Program}{W:World}{sp:Nat->Bool}{held:Bool}{r:Reach}{base:Nat}{S:List TypeId}(hS:iO P S=true){t:TypeId}{v:Value}{d:DataW H}{ps:List MemPlace}
  (hv:Value.okWide P W r base t v)(hd:DataW.Trod enc P W 0 sp held t v d ps)(hp:t∈S):∃g es a,eE (isAgg P t) es=some a/\bm P g t es/\Rel (kH W) a v/\kT a<=b.B d:=by
 obtain⟨fuel,hd⟩:=hd;obtain⟨as_,h1,h2,h3,h4,h5⟩:=nu b hS fuel t _ d ps hd hp;by_cases ha:isAgg P t=true
 ·have:∃cs,v= .agg cs:=by
   unfold isAgg at ha;unfold Value.okWide at hv;split at ha
   ·rename_i hu;rw[hu] at hv;obtain⟨cs,e,_⟩:=hv;exact⟨cs,e⟩
   ·rename_i hu;rw[hu] at hv;obtain⟨cs,e,_⟩:=hv;exact⟨cs,e⟩
   ·simp at ha
  obtain⟨cs,rfl⟩:=this;exact⟨fuel,as_, .agg as_,by simp[eE,ha],h2, .aggL (by simpa [Value.cells] using h1),by simp only[Bd,ha,if_true] at h5;simp only[kT];exact h5⟩
 ·have ha':isAgg P t=false:=by simpa using ha
  have hone:=nt (jg hS hp) ha';rw[hone] at h4;match as_,h4 with
  |[a],_=>
   obtain⟨u,rest,e,k1,k2⟩:=h1.cons_inv
   have hu:v=u:=by
    have hl:=h1.1
    have hne:∀cs,v≠ .agg cs:=by
     rintro cs rfl
     have hrest:rest=[]:=by
      have:=k2.1;simpa using this.symm
     unfold Value.okWide at hv;unfold isAgg at ha';split at hv
     ·rename_i hu;rw[hu] at ha';simp at ha'
     ·rename_i hu;rw[hu] at ha';simp at ha'
     ·unfold Cell.okWide Cell.ok at hv;repeat' split at hv
      all_goals first|exact hv.elim|simp_all
    cases v<;>first|exact absurd rfl (hne _)|(simp[Value.cells] at e;exact e.1)
   subst hu;exact⟨fuel,[a],a,by simp[eE,ha'],h2,k1,by simp only[bW] at h5;omega⟩
def mb(P:Program):List TypeId->List AV->Prop
 |[],[]=>True
 |t::ts,a::as_=>(∃g es,eE (isAgg P t) es=some a/\bm P g t es)/\mb P ts as_
 |_,_=>False
theorem nw{H:Type}(b:Bulk H){enc:TypeId×Value->H}{P:Program}{W:World}{sp:Nat->Bool}{held:Bool}{r:Reach}{base:Nat}{S:List TypeId}(hS:iO P S=true):∀{ts:List TypeId} {vs:List Value} {ds:List (DataW H)} {ps:List MemPlace},
  (∀(j:Nat) t v,ts[j]?=some t->vs[j]?=some v->Value.okWide P W r base t v)->DataW.TrodAll enc P W 0 sp held ts vs ds ps->(∀t∈ts,t∈S)->∃as_,mb P ts as_/\RelL (kH W) as_ vs/\bW as_<=b.BA ds
 |[],[],[],_,_,_,_=>⟨[],trivial, .nil,by simp[bW]⟩
 |t::ts,v::vs,d::ds,_,hv,⟨p,q,h1,h2,_⟩,hp=>by
  obtain⟨g,es,a,k1,k2,k3,k4⟩:=xH b hS (hv 0 t v rfl rfl) h1 (hp t (by simp));obtain⟨as_,m1,m2,m3⟩:=nw b hS (λj t v h h'=>hv (j+1) t v (by simpa using h) (by simpa using h')) h2 (λt ht=>hp t (by simp[ht]));exact⟨a::as_,⟨⟨g,es,k1,k2⟩,m1⟩, .cons k3 m2,by rw[b.bcons];simp only[bW];omega⟩
 |[],_::_,_,_,_,h,_=>h.elim
 |[],[],_::_,_,_,h,_=>h.elim
 |_::_,[],_,_,_,h,_=>h.elim
 |_::_,_::_,[],_,_,h,_=>h.elim
theorem vu{H:Type}(b:Bulk H){N:Nat}{enc:TypeId×Value->H}{P:Program}{k:FuncId}{f:Func}{s:ChangeSpec}{S:List TypeId}{tb:TypeId}{W:World}{base:Nat}{args:Array Value}{ds gs:List (DataW H)}{before:List MemPlace}{r:Reach}
  (hl:laidOutB P=true)(hS:iO P S=true)(hts:f.params.toList.all (λt=>P.readableRec t&&decide (t<P.types.size)&&S.contains t)=true)(hvars:s.vars=[])
  (hfn:∀ds:List (DataW H),ds.length=f.params.size->s.fn H ds={results:=[.lit (.bool true)],args:=ds})(hrt:f.resultTypes=#[tb])(htb:P.underlying tb=some .bool)
  (hval:∀(j:Nat) t v,f.params[j]?=some t->args[j]?=some v->Value.okWide P W r base t v)
  (hW:DataW.Whole enc P f.params.toList s.vars false W args.toList ds gs before)
  (hN:b.BA (ds++gs)<=N)
  (hc:∀as_,mb P f.params.toList as_->bW as_<=N->ACalls P k as_ (λ_=>none) (λr _=>r= .ret (.bool true))):
  Calls P k args W λe W'=>∃v,e= .returned v/\s.post enc P f false true false false W args v W':=by
 have hW':=hW;obtain⟨p,q,hA,hV,rfl,hfz,hnd⟩:=hW;rw[hvars] at hV;obtain⟨rfl,rfl⟩:=Go.ChangeShapes.trodVars_none hV
 have hlen:∀{ts:List TypeId} {vs:List Value} {ds:List (DataW H)} {ps:List MemPlace},DataW.TrodAll enc P W 0 (λ_=>true) true ts vs ds ps->ds.length=ts.length:=by
  intro ts;induction ts with
  |nil=>intro vs ds ps h;cases vs<;>cases ds<;>first|exact h.elim|rfl
  |cons t ts ih=>
   intro vs ds ps h;cases vs<;>cases ds<;>first|exact h.elim|skip
   obtain⟨_,_,_,h2,_⟩:=h;simp[ih h2]
 have hd:=hlen hA
 have hall:∀t∈f.params.toList,(P.readableRec t=true/\t<P.types.size)/\t∈S:=by
  intro t ht;have:=List.all_eq_true.1 hts t ht
  simpa using this
 obtain⟨as_,ha,hrel,hsz⟩:=nw b hS (λj t v h h'=>hval j t v (by simpa using h) (by simpa using h')) hA (λt ht=>(hall t ht).2);refine(wG hrel (hc as_ ha (by rw[List.append_nil] at hN;omega))).mono λe W' ⟨he,hg,hold⟩=>?_;subst he
 have hs:s.fn H (ds++[])={results:=[.lit (.bool true)],args:=ds}:=by
  rw[List.append_nil];exact hfn ds (by simpa using hd)
 refine⟨_,rfl,Go.ChangeShapes.post_of_same (pa:=p) (pv:=[]) hW' ?_ ?_ ?_ rfl (hg.frame _) hg.2.1 (Go.RowKit.ok_one hrt rfl (Go.RowKit.okWide_bool_mk htb _))⟩
 ·intro b sp hd;rw[hs,hrt];exact trodAll_cons_mk (Go.RowKit.shut_bool htb _) Go.ChangeShapes.trodAll_mk0
 ·intro sp hsp;rw[hs];have hlt:∀x∈p,x.block<W.heap.size:=λx hx=>hW'.lt x (by simpa using hx);exact kj hl (λt ht=>(hall t ht).1) hA (λx hx=>wF hg hold (hlt x hx)) (λx hx=>hsp x (by simpa using hx))
 ·intro sp _;rw[hs,hvars];rfl
end Abs
