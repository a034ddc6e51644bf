/- The abstraction layer, part Rf: a function with one range over a function that tells ints. Over any program. -/
import Derived.RangeFuncLeaves
import Derived.RangeFuncSeq
import Derived.RangeFuncRecord
import Derived.Test.YtbbihmmobfmadaaGreatWAbsKx
set_option linter.unusedSimpArgs false
set_option linter.unusedVariables false
namespace Abs
open Go
theorem gm(w:World)(x:Obj):Pushed w (w.alloc x) x:=⟨rfl,rfl,rfl,rfl⟩
theorem Sat.pinNew{K:Gh}{σ:aA}{w:World}(h:Sat K σ w){x:Obj}(hx:Obj.loose x){o:Nat}(ho:K.own o=none){S:Nat->Prop}(hS:¬S o):
  ∃K',K.leS S K'/\Sat K' (aH σ o (.pin x)) (w.alloc x)/\K'.own o=some (.pin w.heap.size):=by
 obtain⟨h1,h2⟩:=h.pushName (gm w x) hx (λ_=>none) (λi v e=>by simp at e) ho (.pin w.heap.size) rfl (.pin x) ⟨h.size,(gm w x).new,λi=>by simp[Gh.claimed]⟩;refine⟨_,⟨h1,λo' hs hn=>?_⟩,h2,by simp[Gh.named]⟩;have:o'≠o:=λe=>hS (e▸hs)
 simp only[Gh.named,Gh.claimed,if_neg this];exact hn
theorem Sat.pinPut{K:Gh}{σ:aA}{w:World}(h:Sat K σ w){x x':Obj}(hx':Obj.loose x'){o r:Nat}(hs:σ o=some (.pin x))(ho:K.own o=some (.pin r)):
  Sat K (aH σ o (.pin x')) (w.putObj r x'):=by
 obtain⟨e,k1,k2⟩:=h.live o _ hs;rw[ho] at k1;cases k1
 simp only[ObjSat] at k2;obtain⟨q1,q2,q3⟩:=k2;have hlt:r<w.heap.size:=(Array.getElem?_eq_some_iff.1 q2).1;refine h.write (Gh.le.refl K) hs ho rfl (λ_ _=>rfl) ho rfl rfl rfl rfl (by simp[World.putObj]) (λb hb=>World.putObj_heap_other hb) (λi=>?_) (λi v e=>?_) (λ_ _ _=>rfl) ⟨q1,World.putObj_heap_same hlt,q3⟩
 ·exact cy (World.putObj_heap_same hlt) hx'
 ·have:=q3 i
  rw[show(Own.pin r).blk=r from rfl] at e;rw[this] at e;simp at e
theorem sM{P:Program}{o:Oper}{a:Act}{next next':Act->World->Prop}{Q:Exit->Act->World->Prop}{r:Result Next}(l n:Nat)(hn:∀a w,next a w->next' a w)
  (h:o.upon P a next Q r):o.uponIn (Fence.wide.inRound l) n P a next' Q r:=by
 unfold Oper.upon at h;unfold Oper.uponIn;split at h
 ·exact hn _ _ h
 ·exact hn _ _ h
 ·exact hn _ _ h
 ·refine⟨λhd=>by simp[Fence.wide] at hd,?_⟩
  exact CallsIn.mono (callsIn_wide.2 h) λe w' q=>by
   cases e
   ·exact hn _ _ q
   ·exact q
   ·exact q
 ·refine⟨λhd=>by simp[Fence.wide] at hd,?_⟩;intro c cs _;obtain⟨v,w',r,s⟩:=h c cs;exact⟨v,w',hn _ _ r,stepsIn_wide.2 s⟩
 ·exact h
 ·exact h.elim
theorem wpOps_round{P:Program}{ops:Array Oper}{Q:Exit->Act->World->Prop}(l n:Nat)(hd:∀(i:Nat) (o:Oper),ops[i]?=some o->∀c,o.op≠ .defer c)(hl:¬LetsOut Q):
  ∀(is:List Nat) (a:Act) (w:World),wpOps P ops Q is a w->wpOpsIn (Fence.wide.inRound l) n P ops Q is a w
 |[],a,w,h=>h
 |i::is,a,w,h=>by
  simp only[wpOps] at h;simp only[wpOpsIn];cases ho:ops[i]? with
  |none=>
   rw[ho] at h;exact wpOps_round l n hd hl is a w h
  |some o=>
   rw[ho] at h;simp only at h|-;split
   ·rename_i hw
    rw[if_pos hw] at h;rcases h with h|h
    ·refine⟨λ_ _=>trivial,?_⟩;rw[Oper.semAt_eq _ _ _ (hd i o ho)];exact sM l n (λa w=>wpOps_round l n hd hl is a w) h
    ·exact absurd h.2 hl
   ·rename_i hw
    rw[if_neg hw] at h;exact⟨λ_ _=>trivial,wpOps_round l n hd hl is _ _ h⟩
theorem Au{P:Program}{n:Nat}{t:Nat}{p:Tmp}{assign body:Code}{Q:Exit->Act->World->Prop}{a:Act}{w:World}{gf:Nat}{lb:Array Value}
  (hg:a.eval (.tmp t)= .func (.func gf) #[] lb)(hc:ct P gf=true){xs:List Int}(I:Nat->Obj->World->Prop)
  (h0:∀r,I 0 (.loop r) ((w.alloc (.deferred (some []))).alloc (.loop r)))
  (hrec:∀k o W,I k o W->W.heap[w.heap.size+1]?=some o)
  (hput:∀k r r' W,I k (.loop r) W->I k (.loop r') (W.putObj (w.heap.size+1) (.loop r')))
  (hit:∀(J:Nat->World->Prop) W,(∃r,W=(w.alloc (.deferred (some []))).alloc (.loop r))->(∀k W,J k W->∃o,I k o W)->(∀k x W1,xs[k]?=some x->J k W1->YieldAt Fence.wide (n-1-1) P (w.heap.size+1) #[.int .i64 x] W1 λe W'=>e= .returned (.bool true)/\J (k+1) W')->
   J 0 W->CallsIn Fence.wide (n-1) P gf (#[.func (.yield (w.heap.size+1)) #[] #[]]++lb) W λe W'=>(∃v,e= .returned v)/\J xs.length W')
  (a₁:Int->Act)
  (hassign:∀x W (K:Act->World->Prop),K (a₁ x) W->assign.wpIn (Fence.wide.inRound (w.heap.size+1)) (n-1-1) P (Exit.then K (λ_ _ _=>False)) {tmps:=(#[p].zip #[Value.int .i64 x]).foldl (λt (p,v)=>t.setIfInBounds p v) a.tmps,defers:=[]} W)
  (hbody:∀k x r W,xs[k]?=some x->I k (.loop r) W->body.wpIn (Fence.wide.inRound (w.heap.size+1)) (n-1-1) P (λe _ W'=>e= .normal/\I (k+1) (.loop r) W') (a₁ x) W)
  (hdone:∀r W,I xs.length (.loop r) W->Q .normal {a with defers:={target:= .collected w.heap.size,args:=#[]}::a.defers} W):
  (Code.rangeFunc (.tmp t) #[p] assign body).wpIn Fence.wide n P Q a w:=by
 refine wpIn_rangeFunc ?_;intro fn hfn;obtain⟨rec,hrc⟩:∃rec:LoopState->Option Code->Loop,rec=λst pe=>{state:=st,pending:=pe,fn,tmps:=a.tmps,params:=#[p],assign,body,defers:=w.heap.size}:=⟨_,rfl⟩;obtain⟨W1,hW1⟩:∃W1,(w.alloc (.deferred (some []))).alloc (.loop (rec .ready none))=W1:=⟨_,rfl⟩
 refine⟨w.heap.size+1,[{target:= .collected w.heap.size,args:=#[]}],W1,{target:= .fn (.func gf) lb,args:=#[.func (.yield (w.heap.size+1)) #[] #[]]},W1,gf,
  #[.func (.yield (w.heap.size + 1)) #[] #[]] ++ lb, W1, ?_, ?_, λ_ _ => trivial, ?_, λhd => by simp [Fence.wide] at hd, ?_⟩
 ·rw[<-hW1,hrc];exact run_enterLoop_outer _ _ _ _ _
 ·simp only[resolve,hg];simp[go_sem]
 ·simp only[invoke];exact iV hc _ _
 ·refine CallsIn.mono (hit (λk W=>I k (.loop (rec .ready none)) W) W1 ⟨_,hW1.symm⟩ (λk W h=>⟨_,h⟩) ?_ (by rw[<-hW1];exact h0 _)) ?_
  ·rintro k x W hx hi;have hl:=hrec _ _ _ hi;have hy:=run_yield (P:=P) (args:=#[Value.int .i64 x]) hl (by rw[hrc];rfl);rw[hrc] at hy;refine⟨fn,_,assign,body,hy,roundIn_of_wpIn hfn ?_⟩;refine hassign x W _ ?_;refine⟨_,run_beginRound hl (by rw[hrc]),?_⟩;have hi2:=hput k _ {rec .ready none with state:= .busy} W hi;refine wpIn_mono (hbody k x _ _ hx hi2) ?_;rintro e a3 W3 ⟨rfl,hi3⟩;have hl3:=hrec _ _ _ hi3;refine⟨_,_,run_endRound (P:=P) none hl3,rfl,?_⟩;have:=hput (k+1) _ (rec .ready none) W3 hi3
   have e:({rec .ready none with state:= .busy}:Loop)={rec .ready none with state:= .busy}:=rfl;rw[hrc] at this|-;exact this
  ·rintro e W2 ⟨⟨v,rfl⟩,hi⟩;have hl:=hrec _ _ _ hi;refine⟨none,_,?_,hdone _ _ (hput _ _ {rec .ready none with state:= .exhausted} _ hi)⟩;have:=run_endLoop (P:=P) hl (by rw[hrc];simp)
   rw[hrc] at this|-;exact this
def yf(P:Program)(N:Nat):Code->Option (List AInst×List AInst×Nat×Nat×Nat×List AInst×List AInst)
 | .seq (.region _ oa false) (.seq (.seq (.region _ ob false) (.block _ (.rangeFunc (.tmp t) ps (.region _ oc false) (.block _ (.region _ od false))))) (.seq (.region _ oe false) .ret))=>
  match oc.toList,ps.toList with
  |[c],[p]=>
   match c.op,c.dst with
   | .assign (.tmp p'),some q=>
    if p'=p/\c.guard=none/\p<N/\q<N then
     match bZ P N oa oa.toList,bZ P N ob ob.toList,bZ P N od od.toList,bZ P N oe oe.toList with
     |some ia,some ib,some id,some ie=>some (ia,ib,t,p,q,id,ie)
     |_,_,_,_=>none
    else none
   |_,_=>none
  |_,_=>none
 |_=>none
theorem wY{P N c ia ib t p q id ie}(h:yf P N c=some (ia,ib,t,p,q,id,ie)):∃i1 oa i2 ob i3 ps i4 oc i5 i6 od i7 oe x,c= .seq (.region i1 oa false) (.seq (.seq (.region i2 ob false) (.block i3 (.rangeFunc (.tmp t) ps (.region i4 oc false) (.block i5 (.region i6 od false))))) (.seq (.region i7 oe false) .ret))/\
  oc.toList=[x]/\ps.toList=[p]/\x.op= .assign (.tmp p)/\x.dst=some q/\x.guard=none/\p<N/\q<N/\bZ P N oa oa.toList=some ia/\bZ P N ob ob.toList=some ib/\bZ P N od od.toList=some id/\bZ P N oe oe.toList=some ie:=by
 unfold yf at h;split at h<;>try (simp at h;done)
 rename_i i1 oa i2 ob i3 t' ps i4 oc i5 i6 od i7 oe
 split at h<;>try (simp at h;done)
 rename_i x p1 e1 e2
 split at h<;>try (simp at h;done)
 rename_i p2 q1 e3 e4
 split at h<;>try (simp at h;done)
 rename_i hc
 split at h<;>try (simp at h;done)
 rename_i a b d e h1 h2 h3 h4
 simp only[Option.some.injEq,Prod.mk.injEq] at h;obtain⟨rfl,rfl,rfl,rfl,rfl,rfl,rfl⟩:=h;obtain⟨rfl,g1,g2,g3⟩:=hc;exact⟨i1,oa,i2,ob,i3,ps,i4,oc,i5,i6,od,i7,oe,x,rfl,e1,e2,e3,e4,g1,g2,g3,h1,h2,h3,h4⟩
def ko(k:bg->aA->Prop):AExit->bg->aA->Prop
 | .normal,env,σ=>k env σ
 |_,_,_=>False
def nh(P:Program)(g:FuncId)(caps:List AV)(σ:aA)(xs:List Int):Prop:=
 ct P g=true/\∀K w (vals:Array Value),RelL K caps vals.toList->Sat K σ w->∀(l:Nat) (J:Nat->World->Prop) (W:World),
  (∀b,b<w.heap.size->W.heap[b]?=w.heap[b]?)->(∀k W,J k W->∀b o v,K.claim b o=some v->W.cell? ⟨b,o,none⟩=some v)->
  (∀k x W1,xs[k]?=some x->J k W1->YieldAt Fence.wide 7 P l #[.int .i64 x] W1 λe W'=>e= .returned (.bool true)/\J (k+1) W')->
  J 0 W->CallsIn Fence.wide 8 P g (#[.func (.yield l) #[] #[]]++vals) W λe W'=>(∃v,e= .returned v)/\J xs.length W'
def Av(τ τ':aA):Prop:=∀o y,τ o=some (.pin y)->τ' o=some (.pin y)
def yg(P:Program)(rs:List ARV)(R:ARes->aA->Prop)(t p q:Nat)(id ie:List AInst)(env:bg)(σ:aA)(_:Tg R:= .mk):Prop:=
 bh (lk env t) λv=>match v with
  | .fn g first caps=>first=[]/\∃(xs:List Int) (S:Nat->aA),nh P g caps σ xs/\Sub (S 0) σ/\(∀k o,σ o=none->S k o=none)/\
   (∀k x τ,xs[k]?=some x->Sub (S k) τ->dX P (ko λ_ τ'=>Sub (S (k+1)) τ'/\Av τ τ') id ((q,some (.int .i64 x))::(p,some (.int .i64 x))::env) τ)/\
   (∀τ,Sub (S xs.length) τ->dX P (ko λenv τ'=>(Sub (S xs.length) τ'/\Av τ τ')/\li env (S xs.length) (λl=>fin R (one l) (S xs.length)) rs) ie env τ)
  |_=>False
theorem j8{P:Program}{N:Nat}{S:Nat->Prop}(hS:Bnd S){ops:Array Oper}{is:List AInst}(ht:bZ P N ops ops.toList=some (is.map AInst.bare)){Q:AExit->bg->aA->Prop}{env:bg}{σ:aA}{K:Gh}{a:Act}{w:World}
  (h:dX P Q is env σ)(hf:Fr K N env a)(hs:Sat K σ w):wpOps P ops (LiftQ N S K Q) (List.range ops.size) a w:=by
 have:=o7 (Q:=Q) (ops:=ops) hS (K0:=K) is 0 ops.toList (by simp) ht env σ K a w (Gh.leS.refl K) h hf hs
 rw[List.range_eq_range'];simpa using this
theorem ut{P:Program}{N:Nat}{ops:Array Oper}:∀{l:List Oper} {is:List AInst},bZ P N ops l=some is->∀o∈l,∀c,o.op≠ .defer c
 |[],is,_,o,ho,c=>by simp at ho
 |x::l,is,h,o,ho,c=>by
  simp only[bZ] at h;split at h<;>try (simp at h;done)
  rename_i i is' h1 h2
  rcases List.mem_cons.1 ho with rfl|ho
  ·intro hd;have:=(ju h1).1
   rw[hd] at this;simp[bO] at this
  ·exact ut h2 o ho c
theorem G5{N:Nat}{S:Nat->Prop}{K:Gh}{Q:AExit->bg->aA->Prop}:¬LetsOut (LiftQ N S K Q):=by
 rintro⟨a,w,ae,K',env,σ,h1,h2,_⟩;cases ae<;>exact h2.elim
theorem sN{N S K k e a w}(h:LiftQ N S K (ko k) e a w):e= .normal/\∃K' env σ,K.leS S K'/\Fr K' N env a/\Sat K' σ w/\k env σ:=by
 obtain⟨ae,K',env,σ,h1,h2,h3,h4,h5⟩:=h;cases ae<;>first|exact h5.elim|skip
 cases e<;>first|exact h2.elim|skip
 exact⟨rfl,K',env,σ,h1,h3,h4,h5⟩
theorem pin_own{K K':Gh}(h:K.le K'){o r:Nat}(ho:K.own o=some (.pin r)):K'.own o=some (.pin r):=by
 obtain⟨x,h1,h2⟩:=h.own o _ ho;simp only[Own.le] at h2;rw[h1,<-h2]
theorem nP{σ τ:aA}{o:Nat}{x:AObj}(h:Sub σ τ)(ho:σ o=none):Sub σ (aH τ o x):=λi y e=>by
 have:i≠o:=λe'=>by subst e';simp[ho] at e
 simp only[aH,if_neg this];exact h i y e
theorem px{P:Program}{f:FuncId}{fn:Func}{N:Nat}{rs:List ARV}{ia ib id ie:List AInst}{t p q:Nat}{args:List AV}{σ:aA}{R:ARes->aA->Prop}
  (hfn:P.funcs[f]?=some fn)(hb:fn.body.bind (yf P N)=some (ia.map AInst.bare,ib.map AInst.bare,t,p,q,id.map AInst.bare,ie.map AInst.bare))(hname:(fn.name=="runtime.NumGoroutine")=false)(hN:fn.ntmps=N)
  (hr:cJ P fn.results.toList=some rs)(hargs:args.length<=N)
  (h:dX P (ko λenv σ=>dX P (ko λenv σ=>yg P rs R t p q id ie env σ) ib env σ) ia (eW 0 args) σ):
  ACalls P f args σ R:=by
 cases hc:fn.body with
 |none=>simp[hc] at hb
 |some c=>
 rw[hc] at hb;obtain⟨i1,oa,i2,ob,i3,ps,i4,oc,i5,i6,od,i7,oe,x,rfl,ec,ep,x1,x2,x3,hp,hq,ta,tb,td,te⟩:=wY (by simpa using hb);obtain rfl:=eH ec
 obtain rfl:=eH ep
 refine⟨by simp[ct,hfn,hc,hname],λS K w vals hS hrel hs=>callsIn_wide.1 (callsIn_of_wp_marks (F:=Fence.wide) (n:=9) hfn hc trivial ?_ rfl)⟩;have hf:Fr {K with ds:=[]} N (eW 0 args) {tmps:=vals++Array.replicate (fn.ntmps-vals.size) undef,defers:=[]}:=m9 hN hargs (hrel.ds []) rfl;refine wpIn_seq (wpIn_mono (wpIn_wide.2 (wp_region (j8 hS ta h hf (hs.ds [])))) λe a1 w1 hq1=>?_);obtain⟨rfl,K1,env1,σ1,k1,k2,k3,k4⟩:=sN hq1;show Code.wpIn _ _ _ _ _ a1 w1
 refine wpIn_seq (wpIn_seq (wpIn_mono (wpIn_wide.2 (wp_region (j8 hS tb k4 k2 k3))) λe a2 w2 hq2=>?_));obtain⟨rfl,K2,env2,σ2,m1,m2,m3,m4⟩:=sN hq2;show Code.wpIn _ _ _ _ _ a2 w2
 obtain⟨fv,l1,m5⟩:=aG m4;cases fv<;>first|exact m5.elim|skip
 rename_i g first caps
 obtain⟨rfl,xs,Z,⟨hcal,hai⟩,z0,zd,zs,ze⟩:=m5;obtain⟨v,l2,l3⟩:=m2.rel t _ l1;obtain⟨fs,cs,rfl,l4,l5⟩:=vF l3;obtain rfl:fs=#[]:=by have:=l4.1;simp at this;exact Array.eq_empty_of_size_eq_zero (by simpa using this.symm)
 have hev:a2.eval (.tmp t)= .func (.func g) #[] cs:=by simp[Act.eval,Array.getD_eq_getD_getElem?,l2]
 have hK02:=k1.trans m1;have hds2:K2.ds=[]:=hK02.le.ds;obtain⟨nd,d1,d2,d3⟩:=lf m3 hS;obtain⟨K3,n1,n2,n3⟩:=m3.pinNew (x:= .deferred (some [])) trivial d1 d2;obtain⟨nl,e1,e2,e3⟩:=lf n2 hS;have hne:nl≠nd:=λh=>by rw[h,n3] at e1;simp at e1
 have e4:σ2 nl=none:=by simpa [aH,hne] using e3
 refine wpIn_block (Au (w:=w2) (xs:=xs) hev hcal (λk o W=>∃K' τ,K2.leS S K'/\Sat K' τ W/\Sub (Z k) τ/\τ nd=some (.pin (.deferred (some [])))/\K'.own nd=some (.pin w2.heap.size)/\τ nl=some (.pin o)/\K'.own nl=some (.pin (w2.heap.size+1)))
  (λr=>?_) ?_ ?_ ?_ (λy=>({tmps:=(#[p].zip #[Value.int .i64 y]).foldl (λt (p,v)=>t.setIfInBounds p v) a2.tmps,defers:=[]}:Act).put (some q) (.int .i64 y)) ?_ ?_ ?_)
 ·obtain⟨K4,o1,o2,o3⟩:=n2.pinNew (x:= .loop r) trivial e1 e2;refine⟨K4,_,n1.trans o1,o2,?_,?_,pin_own o1.le n3,by simp[aH],by rw[o3,World.size_alloc]⟩
  ·exact nP (nP z0 (zd 0 nd d3)) (zd 0 nl e4)
  ·simp[aH,Ne.symm hne]
 ·rintro k o W ⟨K',τ,q1,q2,q3,q4,q5,q6,q7⟩;obtain⟨e,r1,r2⟩:=q2.live nl _ q6;rw[q7] at r1;cases r1;exact r2.2.1
 ·rintro k r r' W ⟨K',τ,q1,q2,q3,q4,q5,q6,q7⟩;refine⟨K',_,q1,q2.pinPut (x':= .loop r') trivial q6 q7,nP q3 (zd k nl e4),?_,q5,by simp[aH],q7⟩;simp only[aH,if_neg (Ne.symm hne)];exact q4
 ·rintro J W ⟨r,rfl⟩ hJ hy h0;refine hai K2 w2 cs l5 m3 _ J _ (λb hb=>?_) (λk W hk b o v hcl=>?_) hy h0
  ·rw[(gm _ _).old b (by rw[World.size_alloc];omega),(gm _ _).old b hb]
  ·obtain⟨o',K',τ,q1,q2,_⟩:=hJ k W hk;exact q2.claim b o v (q1.le.claim b o v hcl)
 ·intro y W Kq hKq;refine wpIn_region ?_;have hsz:(#[x]:Array Oper).size=1:=rfl;rw[hsz,show List.range 1=[0] from rfl];simp only[wpOpsIn,List.getElem?_toArray,List.getElem?_cons_zero,Region.wanted,x3,if_true];refine⟨λ_ _=>trivial,?_⟩;rw[Oper.semAt_eq _ _ _ (by rw[x1];intro c;simp)];have hpa:p<a2.tmps.size:=by rw[m2.size];exact hp
  have hv:({tmps:=(#[p].zip #[Value.int .i64 y]).foldl (λt (p,v)=>t.setIfInBounds p v) a2.tmps,defers:=[]}:Act).eval (.tmp p)= .int .i64 y:=by
   simp[Act.eval,Array.getD_eq_getD_getElem?,hpa]
  simp only[execOp,x1,hv,Sem.run_pure,Oper.uponIn_value,x2];exact hKq
 ·rintro k y r W hy ⟨K',τ,q1,q2,q3,q4,q5,q6,q7⟩
  have hf2:Fr K' N ((q,some (.int .i64 y))::(p,some (.int .i64 y))::env2) (({tmps:=(#[p].zip #[Value.int .i64 y]).foldl (λt (p,v)=>t.setIfInBounds p v) a2.tmps,defers:=[]}:Act).put (some q) (.int .i64 y)):=by
   have h1:=((m2.mono q1.le).put hp (.int .i64 y)).put hq (.int .i64 y);have:a2.defers=[]:=m2.defers.trans hds2
   simpa [Act.put,this] using h1
  have hw:=wpOps_round (w2.heap.size+1) (9-1-1) (λi o ho c=>ut td o (by
   rw[<-Array.getElem?_toList] at ho;exact List.mem_of_getElem? ho) c) G5 _ _ _ (j8 hS td (zs k y τ hy q3) hf2 q2)
  refine wpIn_block (wpIn_mono (wpIn_region hw) λe a w hq=>?_);obtain⟨rfl,K6,env6,σ6,u1,u2,u3,u4,u5⟩:=sN hq;exact⟨rfl,K6,σ6,q1.trans u1,u3,u4,u5 _ _ q4,pin_own u1.le q5,u5 _ _ q6,pin_own u1.le q7⟩
 ·rintro r W ⟨K',τ,q1,q2,q3,q4,q5,q6,q7⟩;let dd:Deferred:={target:= .collected w2.heap.size,args:=#[]}
  have had:a2.defers=[]:=m2.defers.trans hds2
  have hf3:Fr {K' with ds:=[dd]} N env2 {a2 with defers:=dd::a2.defers}:=⟨m2.size,by show dd::a2.defers=[dd];rw[had],λi av e=>by
   obtain⟨v,e1,r⟩:=m2.rel i av e;exact⟨v,e1,(r.mono q1.le).ds _⟩⟩
  show Code.wpIn _ _ _ _ _ ({a2 with defers:=dd::a2.defers}:Act) W
  refine wpIn_seq (wpIn_mono (wpIn_wide.2 (wp_region (j8 hS te (ze τ q3) hf3 (q2.ds [dd])))) λe a5 w5 hq5=>?_);obtain⟨rfl,K5,env5,σ5,v1,v2,v3,⟨v4,v5⟩,v6⟩:=sN hq5;show Code.wpIn _ _ _ _ _ a5 w5
  refine wpIn_ret ?_;have hds5:K5.ds=[dd]:=v1.le.ds;have hown5:K5.own nd=some (.pin w2.heap.size):=pin_own v1.le (K:={K' with ds:=[dd]}) q5;have hpin5:=v5 _ _ q4
  have hheap:w5.heap[w2.heap.size]?=some (.deferred (some [])):=by
   obtain⟨e,r1,r2⟩:=v3.live nd _ hpin5;rw[hown5] at r1;cases r1;exact r2.2.1
  show LeavesInM Fence.wide 9 P fn a5.tmps _ a5.defers .returning w5
  rw[v2.defers,hds5];refine⟨by simp, .inl ⟨_,_,rfl,run_takeDeferred hheap,?_⟩⟩;have hs6:=(v3.pinPut (x':= .deferred none) trivial hpin5 hown5).sub (nP v4 (zd _ nd d3));obtain⟨l,v,w1',w2',v0,σ0,w3',w4'⟩:=kG v2 hs6 hr v6;obtain⟨K6,y1,y2,y3⟩:=w2'.view w3' hS hs6
  have hle:K.leS S {K6 with ds:=K.ds}:=by
   have h1:=(k1.trans m1).trans q1;have h2:=v1.trans y1
   exact⟨⟨h2.le.base.trans h1.le.base,λb o v e=>h2.le.claim b o v (h1.le.claim b o v e),λo x e=>by
    obtain⟨x',e',l'⟩:=h1.le.own o x e;obtain⟨x'',e'',l''⟩:=h2.le.own o x' e';exact⟨x'',e'',Own.le_trans l' l''⟩,rfl⟩,λo hs hn=>h2.free o hs (h1.free o hs hn)⟩
  exact⟨v,w1',_, .ret _,σ0,hle,y3.ds _,EndRel.ds (e:= .returned v) (r:= .ret _) _ y2,w4'⟩
end Abs
