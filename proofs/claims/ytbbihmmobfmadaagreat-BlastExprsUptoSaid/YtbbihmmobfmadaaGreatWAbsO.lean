/- The abstraction layer, part O: a region whose order is drawn comes to the same end in every order. Over any program. -/
import Derived.Orders
import Derived.Test.YtbbihmmobfmadaaGreatWAbsI
set_option linter.unusedSimpArgs false
set_option linter.unusedVariables false
namespace Abs
open Go
theorem Fr.putA{K:Gh}{N env a}(h:Fr K N env a){d:Option Nat}(hd:∀x,d=some x->x<N){av v}(hr:Rel K av v):Fr K N (putA d av env) (a.put d v):=by
 cases d with
 |none=>exact h
 |some d=>exact h.put (hd d rfl) hr
theorem Fr.skipA{K:Gh}{N env a}(h:Fr K N env a){d:Option Nat}(hd:∀x,d=some x->x<N):Fr K N (skipA d env) (a.put d undef):=by
 cases d with
 |none=>exact h
 |some d=>exact h.put (hd d rfl) (.tup [] #[] rfl (λi h=>by simp at h))
theorem ju{P N ops o}{i:AInst}(h:oZ P N ops o=some i):bO P o.op=some i.op/\o.dst=i.dst/\(∀x,o.dst=some x->x<N)/\(ld i.op=true->o.dst=none)/\
  ((o.guard=none/\i.guard=none)\/∃j b s,o.guard=some (j,b)/\i.guard=some (s,b)/\(ops[j]?).bind (·.dst)=some s):=by
 unfold oZ at h;split at h
 ·simp at h
 ·rename_i a ha
  split at h
  ·rename_i hc
   have hc1:∀x,o.dst=some x->x<N:=λx hx=>by rw[hx] at hc;simp[BQ] at hc;exact hc.1
   have hc2:ld a=true->o.dst=none:=λhs=>by
    cases hd:o.dst with
    |none=>rfl
    |some d=>rw[hd] at hc;simp[BQ,hs] at hc
   split at h
   ·simp at h;subst h
    rename_i hg
    exact⟨ha,rfl,hc1,hc2, .inl ⟨hg,rfl⟩⟩
   ·rename_i j b hg
    split at h<;>simp at h
    subst h
    rename_i s hs
    exact⟨ha,rfl,hc1,hc2, .inr ⟨j,b,s,hg,rfl,hs⟩⟩
  ·simp at h
theorem iV{P:Program}{f:FuncId}(h:ct P f=true)(args:Array Value)(w:World):(callFunc f args).run P w= .ok (.enter f args) w:=by
 unfold ct at h;split at h
 ·rename_i fn hf
  simp at h
  obtain⟨h1,h2⟩:=h;have h3:fn.body.isNone=false:=by cases hb:fn.body<;>simp_all
  simp only[callFunc,Sem.run_bind,run_program,Result.andThen_ok,hf];rw[if_neg (by simp[h2]),if_neg (by simp[h3])];rfl
 ·simp at h
theorem BT{P:Program}{o:Oper}{a:Act}{f:Operand}{args:Array Operand}{types:Array TypeId}(ho:o.op= .call {callee:= .value f,args:=args,argTypes:=types}){g:Nat}{fs cs:Array Value}
  (hf:a.eval f= .func (.func g) fs cs)(hc:ct P g=true)(w:World):(execOp a.eval o).run P w= .ok (.enter g (fs++args.map a.eval++cs)) w:=by
 simp only[execOp,ho,resolve,hf,Deferred.ofValue,Sem.run_bind,Sem.run_pure,Result.andThen_ok,invoke];exact iV hc _ w
theorem zm{P:Program}{o:Oper}{a:Act}{r:Operand}{name:String}{args:Array Operand}{types:Array TypeId}(ho:o.op= .call {callee:= .invoke r name,args:=args,argTypes:=types}){t g:Nat}{v:Value}
  (hr:a.eval r= .iface t v)(ht:(t,g)∈kV P name)(hc:ct P g=true)(w:World):(execOp a.eval o).run P w= .ok (.enter g (#[v]++args.map a.eval)) w:=by
 have hm:=BO ht (P.types.size+Made.depth-1) v w;have h0:0<Made.depth:=by decide
 have e:P.types.size+Made.depth-1+1=P.types.size+Made.depth:=by omega
 rw[e] at hm;have hx:(#[Value.iface t v]++args.map a.eval)[0]?=some (.iface t v):=by rw[Array.getElem?_append_left (by simp)];rfl
 have hy:(#[Value.iface t v]++args.map a.eval).extract 1 (#[Value.iface t v]++args.map a.eval).size=args.map a.eval:=by
  apply Array.ext'
  simp
  rw[List.take_of_length_le (by simp)]
 simp only[execOp,ho,resolve,hr,Sem.run_bind,Sem.run_pure,Result.andThen_ok,invoke,hx,hy,callMethod,run_program,hm];exact iV hc _ w
theorem BU{K:Gh}{N:Nat}{env:bg}{a:Act}(hf:Fr K N env a){r:Nat}{tbl:List (Nat×Nat)}{g:Nat}{first caps:List AV}(h:aval env (.m r tbl)=some (.fn g first caps)):
  ∃t v av,a.eval (.tmp r)= .iface t v/\Rel K av v/\(t,g)∈tbl/\first=[av]/\caps=[]:=by
 simp only[aval,xJ] at h;split at h
 ·rename_i t av he
  simp only[Option.map_eq_some_iff] at h;obtain⟨f,h1,h2⟩:=h;simp only[AV.fn.injEq] at h2;obtain⟨rfl,rfl,rfl⟩:=h2;obtain⟨u,e,rr⟩:=hf.rel r _ he;cases rr with
  |iface _ _ v hv=>exact⟨t,v,av,by simp[Act.eval,Array.getD_eq_getD_getElem?,e],hv,tO h1,rfl,rfl⟩
 ·simp at h
theorem xU{P:Program}{N:Nat}{Q:AExit->bg->aA->Prop}{o:Oper}{i:AInst}{env:bg}{S:Nat->Prop}{K0 K:Gh}{a:Act}{w:World}(k:bg->aA->Prop)(next:Act->World->Prop)
  (hK:K0.leS S K)(hop:bO P o.op=some i.bare.op)(hdst:o.dst=i.dst)(hdN:∀x,o.dst=some x->x<N)
  (hnext:∀K1 env1 σ1 a1 w1,K0.leS S K1->k env1 σ1->Fr K1 N env1 a1->Sat K1 σ1 w1->next a1 w1)
  {f:AOpnd}{args:List AOpnd}(hi:i.op= .call f args){g:FuncId}{first caps vs:List AV}(f1:aval env f=some (.fn g first caps))(f2:cK env args=some vs)(hcal:ct P g=true)
  (hc:∀vals:Array Value,RelL K (first++vs++caps) vals.toList->Calls P g vals w λe w'=>∃K' r σ',K.leS S K'/\Sat K' σ' w'/\EndRel K' e r/\zj (λv σ'=>k (putA i.dst v env) σ') (λv σ'=>Q (.panic v) env σ') r σ')
  (hf:Fr K N env a):o.wp P a w next (LiftQ N S K0 Q):=by
 have hop':bO P o.op=some (.call f args):=by rw[hop];simp[AInst.bare,hi,AOp.bare]
 generalize ho:o.op=op at hop';cases op
 case call c=>
  obtain⟨callee,cargs,types⟩:=c;simp only[bO,ii] at hop';split at hop'
  ·split at hop'<;>simp at hop'
   rename_i fo _ fa l t1 t2
   obtain⟨rfl,rfl⟩:=hop';have rf:=trOpnd_rel t1 f1 hf;have ra:=cM hf t2 f2;obtain⟨fs,cs,ef,r1,r2⟩:=vF rf;unfold Oper.wp;rw[BT ho ef hcal w,Oper.upon_enter]
   have hargs:RelL K (first++vs++caps) (fs++cargs.map a.eval++cs).toList:=by
    simp only[Array.toList_append,Array.toList_map];exact(r1.append ra).append r2
   refine(hc _ hargs).mono ?_;rintro e w' ⟨K',r,σ',h1,h2,h3,h4⟩;cases e<;>cases r<;>first|exact h3.elim|skip
   ·exact hnext K' _ σ' _ w' (hK.trans h1) h4 (by rw[<-hdst];exact(hf.mono h1.le).putA hdN h3) h2
   ·obtain⟨v,rfl,hv⟩:=h3;exact⟨.panic _,K',env,σ',hK.trans h1,⟨v,rfl,hv⟩,hf.mono h1.le,h2,h4⟩
  ·rename_i b hb
   exfalso
   unfold ck at hop';repeat' split at hop'
   all_goals first
    |(simp at hop';done)
    |(simp only[Option.map_eq_some_iff] at hop';obtain⟨_,_,e⟩:=hop';simp at e)
  ·rename_i r name
   simp only[Option.map_eq_some_iff] at hop';obtain⟨l,t2,h2⟩:=hop';simp only[AOp.call.injEq] at h2;obtain⟨rfl,rfl⟩:=h2;obtain⟨t,v,av,ev,rv,hmem,rfl,rfl⟩:=BU hf f1;have ra:=cM hf t2 f2;unfold Oper.wp;rw[zm ho ev hmem hcal w,Oper.upon_enter]
   have hargs:RelL K ([av]++vs++[]) (#[v]++cargs.map a.eval).toList:=by
    simp only[Array.toList_append,Array.toList_map,List.append_nil];exact(RelL.cons rv .nil).append ra
   refine(hc _ hargs).mono ?_;rintro e w' ⟨K',r,σ',h1,h2,h3,h4⟩;cases e<;>cases r<;>first|exact h3.elim|skip
   ·exact hnext K' _ σ' _ w' (hK.trans h1) h4 (by rw[<-hdst];exact(hf.mono h1.le).putA hdN h3) h2
   ·obtain⟨v,rfl,hv⟩:=h3;exact⟨.panic _,K',env,σ',hK.trans h1,⟨v,rfl,hv⟩,hf.mono h1.le,h2,h4⟩
  ·simp at hop'
 case makeFunc fn first caps=>
  exfalso
  cases fn<;>simp only[bO] at hop'<;>try (simp at hop';done)
  split at hop'<;>simp at hop'
 case makeMap t r=>exfalso;cases r<;>simp[bO] at hop'
 all_goals
  exfalso
  simp only[bO] at hop';repeat' split at hop'
  all_goals first
   |(simp at hop';done)
   |(simp only[Option.map_eq_some_iff] at hop';obtain⟨_,_,e⟩:=hop';simp at e)
theorem zb_{P:Program}{N:Nat}{Q:AExit->bg->aA->Prop}{o:Oper}{i:AInst}{env:bg}{σ:aA}{S:Nat->Prop}(hS:Bnd S){K0 K:Gh}{a:Act}{w:World}(k:bg->aA->Prop)(next:Act->World->Prop)
  (hK:K0.leS S K)(hop:bO P o.op=some i.bare.op)(hdst:o.dst=i.dst)(hdN:∀x,o.dst=some x->x<N)(hst:ld i.bare.op=true->o.dst=none)
  (hnext:∀K1 env1 σ1 a1 w1,K0.leS S K1->k env1 σ1->Fr K1 N env1 a1->Sat K1 σ1 w1->next a1 w1)
  (hrun:si P Q (λv σ'=>k (putA i.dst v env) σ') env σ i.op)
  (hf:Fr K N env a)(hs:Sat K σ w):o.wp P a w next (LiftQ N S K0 Q):=by
 have gen:∀op,i.op=op->EK env σ (λv σ'=>k (putA i.dst v env) σ') op->o.wp P a w next (LiftQ N S K0 Q):=by
  intro op hop' h;obtain⟨nm,n1,n2,n3⟩:=lf hs hS;obtain⟨K',av,ef,v,w',h1,h2,h3,h4,h5⟩:=qY (N:=N) hop (a':=op) (by rw[<-hop'];rfl) hst (IQ n3 h) S K a w hf hs n1 n2;unfold Oper.wp;rcases h1 with h1|⟨h1,hd⟩
  ·rw[h1];show next (a.put o.dst v) w'
   exact hnext K' _ _ _ w' (hK.trans h2) h5 (by rw[<-hdst];exact(hf.mono h2.le).putA hdN h3) h4
  ·rw[h1];show next (a.put o.dst undef) w'
   refine hnext K' _ _ _ w' (hK.trans h2) h5 ?_ h4;rw[<-hdst,hd];exact hf.mono h2.le
 cases hi:i.op
 case call f args=>
  rw[hi] at hrun;obtain⟨fv,f1,hr1⟩:=aG hrun;obtain⟨vs,f2,hr2⟩:=dW hr1;clear hrun hr1;cases fv<;>first|exact hr2.elim|skip
  rename_i g first caps
  exact xU k next hK hop hdst hdN hnext hi f1 f2 hr2.1 (λvals hargs=>hr2.2 S K w vals hS hargs hs) hf
 case panic x=>
  rw[hi] at hrun;obtain⟨v,f1,hr1⟩:=aG hrun;clear hrun;cases v<;>first|exact hr1.elim|skip
  rename_i t av
  have hop':bO P o.op=some (.panic x):=by rw[hop];simp[AInst.bare,hi,AOp.bare]
  generalize ho:o.op=op at hop';cases op
  case panic y=>
   simp only[bO,Option.map_eq_some_iff] at hop';obtain⟨z,t1,t2⟩:=hop';simp at t2;subst t2
   have rv:=trOpnd_rel t1 f1 hf;generalize hy:a.eval y=yv at rv;cases rv with
   |iface _ _ u hu=>
    unfold Oper.wp;have:(execOp a.eval o).run P w= .halt (.panic (.iface t u)) w:=by simp[execOp,ho,hy,Instr.panic]
    rw[this,Oper.upon_panic];exact⟨.panic (.iface t av),K,env,σ,hK,⟨_,rfl, .iface t av u hu⟩,hf,hs,hr1⟩
  case call c=>
   exfalso
   obtain⟨callee,cargs,types⟩:=c;simp only[bO,ii] at hop';split at hop'
   ·split at hop'<;>simp at hop'
   ·unfold ck at hop';repeat' split at hop'
    all_goals first
     |(simp at hop';done)
     |(simp only[Option.map_eq_some_iff] at hop';obtain⟨_,_,e⟩:=hop';simp at e)
   ·simp only[Option.map_eq_some_iff] at hop';obtain⟨_,_,e⟩:=hop';simp at e
   ·simp at hop'
  case makeFunc fn first caps=>
   exfalso
   cases fn<;>simp only[bO] at hop'<;>try (simp at hop';done)
   split at hop'<;>simp at hop'
  case makeMap t r=>exfalso;cases r<;>simp[bO] at hop'
  all_goals
   exfalso
   simp only[bO] at hop';repeat' split at hop'
   all_goals first
    |(simp at hop';done)
    |(simp only[Option.map_eq_some_iff] at hop';obtain⟨_,_,e⟩:=hop';simp at e)
 all_goals
  rw[hi] at hrun;exact gen _ hi hrun
theorem iW{K:Gh}{N env a}(hf:Fr K N env a){ops:Array Oper}{o:Oper}{j:Nat}{b p:Bool}{s:Nat}(hg:o.guard=some (j,b))(hd:(ops[j]?).bind (·.dst)=some s)(hp:lk env s=some (.bool p)):
  Region.wanted o (yielded ops a.tmps)=(p==b):=by
 obtain⟨v,h1,h2⟩:=hf.rel s _ hp;have:=cN h2
 subst this;simp[Region.wanted,hg,yielded,hd,h1]
theorem mT{K:Gh}{N env a}(hf:Fr K N env a){ops:Array Oper}{o:Oper}{j:Nat}{b:Bool}{s:Nat}{vs:List AV}(hg:o.guard=some (j,b))(hd:(ops[j]?).bind (·.dst)=some s)(hp:lk env s=some (.tup vs)):
  Region.wanted o (yielded ops a.tmps)=false:=by
 obtain⟨v,h1,h2⟩:=hf.rel s _ hp;cases h2 with
 |tup _ us _ _=>simp[Region.wanted,hg,yielded,hd,h1]
theorem o7{P:Program}{N:Nat}{Q:AExit->bg->aA->Prop}{ops:Array Oper}{S:Nat->Prop}(hS:Bnd S){K0:Gh}:∀(is:List AInst) (k:Nat) (os:List Oper),ops.toList.drop k=os->bZ P N ops os=some (is.map AInst.bare)->
  ∀env σ K a w,K0.leS S K->dX P Q is env σ->Fr K N env a->Sat K σ w->wpOps P ops (LiftQ N S K0 Q) (List.range' k os.length) a w
 |[],k,os,hos,ht,env,σ,K,a,w,hK,hx,hf,hs=>by
  cases os with
  |cons o os=>simp only[bZ] at ht;split at ht<;>simp at ht
  |nil=>
   simp only[List.length_nil,List.range'_zero,wpOps];exact⟨.normal,K,env,σ,hK,trivial,hf,hs,hx⟩
 |i::is,k,os,hos,ht,env,σ,K,a,w,hK,hx,hf,hs=>by
  cases os with
  |nil=>simp[bZ] at ht
  |cons o os=>
   simp only[bZ] at ht;split at ht<;>simp at ht
   rename_i i' l h1 h2
   obtain⟨rfl,rfl⟩:=ht;obtain⟨t1,t2,t3,t4,t5⟩:=ju h1
   have hget:ops[k]?=some o:=by
    have:=congrArg (·[0]?) hos
    simpa using this
   have hdrop:ops.toList.drop (k+1)=os:=by
    rw[<-List.drop_drop,hos];rfl
   have ih:=λenv σ K a w hK hx hf hs=>o7 (Q:=Q) hS (K0:=K0) is (k+1) os hdrop h2 env σ K a w hK hx hf hs;rw[List.length_cons,List.range'_succ];simp only[wpOps,hget];obtain⟨d,op,g⟩:=i
   have key:=zb_ (P:=P) (N:=N) (Q:=Q) (o:=o) (i:=⟨d,op,g⟩) (env:=env) (σ:=σ) hS (K0:=K0) (K:=K) (a:=a) (w:=w) (λenv σ=>dX P Q is env σ)
    (wpOps P ops (LiftQ N S K0 Q) (List.range' (k+1) os.length)) hK t1 t2 t3 t4 (λK1 env1 σ1 a1 w1 q1 q2 q3 q4=>ih env1 σ1 K1 a1 w1 q1 q2 q3 q4)
   simp only[dX] at hx;rcases t5 with ⟨g1,g2⟩|⟨j,b,s,g1,g2,g3⟩
   ·have hgn:g=none:=by simpa [AInst.bare] using g2
    subst hgn;simp only[Region.wanted,g1,if_true];left
    exact key hx hf hs
   ·have hgs:g=some (s,b):=by simpa [AInst.bare] using g2
    subst hgs;obtain⟨gv,e1,hx⟩:=aG hx
    have skips:dX P Q is (Abs.skipA d env) σ->wpOps P ops (LiftQ N S K0 Q) (List.range' (k+1) os.length) (a.put o.dst undef) w:=λhx=>by
     refine ih _ σ K _ w hK hx ?_ hs;have e2:o.dst=d:=t2;rw[e2];exact hf.skipA (λx hx=>t3 x (by rw[e2];exact hx))
    cases gv<;>first|exact hx.elim|skip
    case tup vs=>
     rw[mT hf g1 g3 e1];simp only[Bool.false_eq_true,if_false];exact skips hx
    rename_i p
    rw[iW hf g1 g3 e1];by_cases hpb:p=b
    ·simp only[hpb,beq_self_eq_true,if_true];left
     exact key (hx.1 hpb) hf hs
    ·have:(p==b)=false:=by simpa using hpb
     simp only[this,Bool.false_eq_true,if_false];exact skips (hx.2 hpb)
end Abs
namespace Abs
open Go
theorem aF{env env':bg}{x:AOpnd}(h:∀s∈bj x,lk env' s=lk env s):aval env' x=aval env x:=by
 cases x with
 |t n=>exact h n (by simp[bj])
 |c v=>rfl
 |m n tbl=>simp only[aval];rw[h n (by simp[bj])]
theorem dh{env env':bg}:∀{l:List AOpnd},(∀s∈l.flatMap bj,lk env' s=lk env s)->cK env' l=cK env l
 |[],_=>rfl
 |x::l,h=>by
  simp only[cK]
  rw[aF (x:=x) (λs hs=>h s (by simp[hs])),dh (l:=l) (λs hs=>h s (by
   simp only[List.flatMap_cons,List.mem_append];exact .inr hs))]
theorem mU{env env':bg}:∀{ps:List (Nat×Nat×AOpnd)} {cs:List AV},(∀s∈ps.flatMap (λp=>bj p.2.2),lk env' s=lk env s)->gV env' cs ps=gV env cs ps
 |[],cs,_=>rfl
 |(off,n,x)::ps,cs,h=>by
  simp only[gV];rw[aF (x:=x) (λs hs=>h s (by simp[hs]))];cases aval env x with
  |none=>rfl
  |some a=>
   simp only[];split
   ·exact mU (λs hs=>h s (by simp only[List.flatMap_cons,List.mem_append];exact .inr hs))
   ·rfl
theorem fp{env env':bg}{x:Option AOpnd}{d hi:Nat}{R R':Nat->Prop}(h:∀s∈x.toList.flatMap bj,lk env' s=lk env s)(hR:∀n,R n=R' n):qq env' x d hi R=qq env x d hi R':=by
 have:R=R':=funext hR
 subst this;cases x with
 |none=>rfl
 |some x=>
  simp only[qq];rw[aF (x:=x) (λs hs=>h s (by simpa using hs))]
def o9(env:bg)(x:AOpnd):Option Nat:=
 match aval env x with
 |some (.map o)=>some o
 |_=>none
def cS(nm:Nat)(env:bg):XOp->Option Nat
 | .mkmap=>some nm
 | .look _ _ _ x _=>o9 env x
 | .mset _ m _ _=>o9 env m
 | .isnil _ _=>none
 | .bsliceG _ _=>some nm
 | .vmake _ _ _ _ _ _=>some nm
 | .vapp _ _ s _=>match aval env s with
  |some (.vec o _)=>some o
  |some (.pre o _ _)=>some o
  |some (.slice _ _)=>some nm
  |_=>none
 | .vfrz _ x=>match aval env x with
  |some (.vec o _)=>some o
  |some (.pre o _ _)=>some o
  |_=>none
 | .retok _ _=>some nm
def du(nm:Nat)(env:bg):AOp->Option Nat
 | .ext x=>cS nm env x
 | .load _ _ x=>match aval env x with
  |some (.ptr o _)=>some o
  |some (.eptr o _ _)=>some o
  |_=>none
 | .store _ p _=>match aval env p with
  |some (.ptr o _)=>some o
  |some (.eptr o _ _)=>some o
  |_=>none
 | .append _ _ s _=>match aval env s with
  |some (.slice _ (.own o))=>some o
  |some (.slice _ _)=>some nm
  |_=>none
 | .alloc _=>some nm
 | .box _=>some nm
 | .mkslice _ _ _ _ _ _=>some nm
 | .appz _ _ _ _=>some nm
 |_=>none
theorem zn{nm:Nat}{env env':bg}{σ σ':aA}{R:AV->Option (Nat×AObj)->Prop}{op:XOp}(hd:op.draws=true)(hu:∀s∈jh op,lk env' s=lk env s)(ht:∀o,cS nm env op=some o->σ' o=σ o)
  (h:vD (λk=>k nm) env σ R op):vD (λk=>k nm) env' σ' R op:=by
 cases op with
 |mkmap=>exact h
 |look kk z c x i=>
  have h0:=aF (env:=env) (env':=env') (x:=x) (λs hs=>hu s (by simp[jh,hs]));have h1:=aF (env:=env) (env':=env') (x:=i) (λs hs=>hu s (by simp[jh,hs]));simp only[vD] at h|-;rw[h0,h1];cases hp:aval env x with
  |none=>rw[hp] at h;exact h
  |some v=>
   rw[hp] at h;cases v<;>first|exact h|skip
   rename_i o
   have:=ht o (by simp[cS,o9,hp])
   simp only[bh] at h|-;rw[this];exact h
 |mset kk m k v=>
  have h0:=aF (env:=env) (env':=env') (x:=m) (λs hs=>hu s (by simp[jh,hs]));have h1:=aF (env:=env) (env':=env') (x:=k) (λs hs=>hu s (by simp[jh,hs]));have h2:=aF (env:=env) (env':=env') (x:=v) (λs hs=>hu s (by simp[jh,hs]));simp only[vD] at h|-;rw[h0,h1,h2];cases hp:aval env m with
  |none=>rw[hp] at h;exact h
  |some v=>
   rw[hp] at h;cases v<;>first|exact h|skip
   rename_i o
   have:=ht o (by simp[cS,o9,hp])
   simp only[bh] at h|-;rw[this];exact h
 |isnil ne x=>
  have h0:=aF (env:=env) (env':=env') (x:=x) (λs hs=>hu s (by simp[jh,hs]));simp only[vD] at h|-;rw[h0];exact h
 |bsliceG sz ps=>simp only[vD] at h|-;rw[dh (l:=ps) hu];exact h
 |vmake sz by_ z g a b=>
  simp only[vD] at h|-;rw[aF (x:=a) (λs hs=>hu s (by simp[jh,hs])),aF (x:=b) (λs hs=>hu s (by simp[jh,hs]))];exact h
 |vapp sz by_ s x=>
  have h0:=aF (env:=env) (env':=env') (x:=s) (λt hs=>hu t (by simp[jh,hs]));have h1:=aF (env:=env) (env':=env') (x:=x) (λt hs=>hu t (by simp[jh,hs]));simp only[vD] at h|-;rw[h0,h1];obtain⟨sv,e1,k1⟩:=aG h;obtain⟨xv,e2,k2⟩:=aG k1;rw[e1,e2];simp only[bh];clear h k1 hu h0 h1 e2;revert k2
  intro h;split at h
  ·rename_i o len m t
   have:=ht o (by simp[cS,e1])
   simp only[this];exact h
  ·rename_i o len n m t
   have:=ht o (by simp[cS,e1])
   simp only[this];exact h
  ·exact h
  ·exact h.elim
 |vfrz g x=>
  have h0:=aF (env:=env) (env':=env') (x:=x) hu;simp only[vD] at h|-;rw[h0];cases hp:aval env x with
  |none=>rw[hp] at h;exact h
  |some v=>
   rw[hp] at h;cases v<;>first|exact h|skip
   case vec o len=>
    have:=ht o (by simp[cS,hp])
    simp only[bh] at h|-;rw[this];exact h
   case pre o len n=>
    have:=ht o (by simp[cS,hp])
    simp only[bh] at h|-;rw[this];exact h
 |retok sz x=>simp only[vD] at h|-;rw[aF (x:=x) hu];exact h
theorem jv{nm:Nat}{env env':bg}{σ σ':aA}{R:AV->Option (Nat×AObj)->Prop}{op:AOp}(hd:∀x,op= .ext x->x.draws=true)(hu:∀s∈bp op,lk env' s=lk env s)(ht:∀o,du nm env op=some o->σ' o=σ o)
    (h:aJ nm env σ R op):aJ nm env' σ' R op:=by
  cases op with
  |alloc z=>exact h
  |call f l=>exact h
  |panic x=>exact h
  |ext x=>exact zn (nm:=nm) (hd x rfl) hu ht h
  |mov x=>simp only[aJ,bt] at h|-;rw[aF (x:=x) hu];exact h
  |box x=>simp only[aJ,bt] at h|-;rw[aF (x:=x) hu];exact h
  |boxI x=>simp only[aJ,bt] at h|-;rw[aF (x:=x) hu];exact h
  |nilchk x=>simp only[aJ,bt] at h|-;rw[aF (x:=x) hu];exact h
  |un op x=>simp only[aJ,bt] at h|-;rw[aF (x:=x) hu];exact h
  |conv k x=>simp only[aJ,bt] at h|-;rw[aF (x:=x) hu];exact h
  |fldA k x=>simp only[aJ,bt] at h|-;rw[aF (x:=x) hu];exact h
  |fldV g a b x=>simp only[aJ,bt] at h|-;rw[aF (x:=x) hu];exact h
  |extract x k=>simp only[aJ,bt] at h|-;rw[aF (x:=x) hu];exact h
  |len x=>simp only[aJ,bt] at h|-;rw[aF (x:=x) hu];exact h
  |cap x=>simp only[aJ,bt] at h|-;rw[aF (x:=x) hu];exact h
  |mkiface t x=>simp only[aJ,bt] at h|-;rw[aF (x:=x) hu];exact h
  |bslice sz ps=>simp only[aJ,bt] at h|-;rw[dh (l:=ps) hu];exact h
  |min ps=>simp only[aJ,bt] at h|-;rw[dh (l:=ps) hu];exact h
  |max ps=>simp only[aJ,bt] at h|-;rw[dh (l:=ps) hu];exact h
  |build z ps=>simp only[aJ,bt] at h|-;rw[mU (ps:=ps) hu];exact h
  | pick c a b =>
    simp only[aJ,bt] at h|-;rw[aF (x:=c) (λs hs=>hu s (by simp[bp,hs])),aF (x:=a) (λs hs=>hu s (by simp[bp,hs])),aF (x:=b) (λs hs=>hu s (by simp[bp,hs]))];exact h
  | bin op t a b =>
    simp only[aJ,bt] at h|-;rw[aF (x:=a) (λs hs=>hu s (by simp[bp,hs])),aF (x:=b) (λs hs=>hu s (by simp[bp,hs]))];exact h
  | eqs n ks a b =>
    simp only[aJ,bt] at h|-;rw[aF (x:=a) (λs hs=>hu s (by simp[bp,hs])),aF (x:=b) (λs hs=>hu s (by simp[bp,hs]))];exact h
  | idxS sz a b =>
    simp only[aJ,bt] at h|-;rw[aF (x:=a) (λs hs=>hu s (by simp[bp,hs])),aF (x:=b) (λs hs=>hu s (by simp[bp,hs]))];exact h
  | idxR sz l a b =>
    simp only[aJ,bt] at h|-;rw[aF (x:=a) (λs hs=>hu s (by simp[bp,hs])),aF (x:=b) (λs hs=>hu s (by simp[bp,hs]))];exact h
  | mkslice sz by_ z g a b =>
    simp only[aJ,bt] at h|-;rw[aF (x:=a) (λs hs=>hu s (by simp[bp,hs])),aF (x:=b) (λs hs=>hu s (by simp[bp,hs]))];exact h
  | mkfn f a b =>
    simp only[aJ,bt] at h|-;rw[dh (l:=a) (λs hs=>hu s (by simp only[bp,List.mem_append];exact .inl hs)),dh (l:=b) (λs hs=>hu s (by simp only[bp,List.mem_append];exact .inr hs))];exact h
  | slc sz x a b c =>
    simp only[aJ,bt] at h|-;have h0:=aF (env:=env) (env':=env') (x:=x) (λs hs=>hu s (by simp only[bp,List.mem_append];exact .inl hs));have ha:∀s∈a.toList.flatMap bj,lk env' s=lk env s:=λs hs=>hu s (by simp only[bp,List.mem_append,List.flatMap_append];exact .inr (.inl (.inl hs)));have hb:∀s∈b.toList.flatMap bj,lk env' s=lk env s:=λs hs=>hu s (by simp only[bp,List.mem_append,List.flatMap_append];exact .inr (.inl (.inr hs)));have hc:∀s∈c.toList.flatMap bj,lk env' s=lk env s:=λs hs=>hu s (by simp only[bp,List.mem_append,List.flatMap_append];exact .inr (.inr hs));rw[h0];cases hx:aval env x with
    |none=>rw[hx] at h;exact h
    | some v =>
      rw[hx] at h;cases v<;>first|exact h|skip
      case vec o len=>exact⟨h.1,Eq.mpr (fp hb λn=>rfl) h.2⟩
      case pre o len n=>exact⟨h.1,Eq.mpr (fp hb λn=>rfl) h.2⟩
      rename_i l t
      refine⟨h.1,?_⟩;have h2:=h.2;refine Eq.mpr (fp hb λn=>fp ha λm=>?_) h2;cases c with
      |none=>rfl
      | some c =>
        simp only[];rw[aF (x:=c) (λs hs=>hc s (by simpa using hs))]
  | appz sz by_ a b =>
    simp only[aJ,bt] at h|-;rw[aF (x:=a) (λs hs=>hu s (by simp[bp,hs])),aF (x:=b) (λs hs=>hu s (by simp[bp,hs]))];exact h
  | slcN sz x a b c =>
    simp only[aJ,bt] at h|-;have h0:=aF (env:=env) (env':=env') (x:=x) (λs hs=>hu s (by simp only[bp,List.mem_append];exact .inl hs));have ha:∀s∈a.toList.flatMap bj,lk env' s=lk env s:=λs hs=>hu s (by simp only[bp,List.mem_append,List.flatMap_append];exact .inr (.inl (.inl hs)));have hb:∀s∈b.toList.flatMap bj,lk env' s=lk env s:=λs hs=>hu s (by simp only[bp,List.mem_append,List.flatMap_append];exact .inr (.inl (.inr hs)));rw[h0];cases hx:aval env x with
    |none=>rw[hx] at h;exact h
    | some v =>
      rw[hx] at h;simp only[bh] at h|-;split at h
      · exact⟨h.1,Eq.mpr (fp hb λn=>fp ha λm=>rfl) h.2⟩
      · exact h.elim
  | slcR sz x a b c =>
    simp only[aJ,bt] at h|-;have h0:=aF (env:=env) (env':=env') (x:=x) (λs hs=>hu s (by simp only[bp,List.mem_append];exact .inl hs));have hb:∀s∈b.toList.flatMap bj,lk env' s=lk env s:=λs hs=>hu s (by simp only[bp,List.mem_append,List.flatMap_append];exact .inr (.inl (.inr hs)));rw[h0];cases hx:aval env x with
    |none=>rw[hx] at h;exact h
    | some v =>
      rw[hx] at h;simp only[bh] at h|-;split at h
      · exact⟨h.1,Eq.mpr (fp hb λn=>rfl) h.2⟩
      · exact h.elim
  | load g n x =>
    have h0:=aF (env:=env) (env':=env') (x:=x) hu;simp only[aJ,bt] at h|-;rw[h0];cases hx:aval env x with
    |none=>rw[hx] at h;exact h
    | some v =>
      rw[hx] at h;cases v<;>first|exact h|skip
      all_goals
        first
          | (rename_i o _
             have:=ht o (by simp[du,hx])
             simp only[bh] at h|-;rw[this];exact h)
          | (rename_i o _ _
             have:=ht o (by simp[du,hx])
             simp only[bh] at h|-;rw[this];exact h)
  | store n p x =>
    have h0:=aF (env:=env) (env':=env') (x:=p) (λs hs=>hu s (by simp[bp,hs]));have h1:=aF (env:=env) (env':=env') (x:=x) (λs hs=>hu s (by simp[bp,hs]));simp only[aJ,bt] at h|-;rw[h0,h1];cases hp:aval env p with
    |none=>rw[hp] at h;exact h
    | some v =>
      rw[hp] at h;cases v<;>first|exact h|skip
      all_goals
        first
          | (rename_i o _
             have:=ht o (by simp[du,hp])
             simp only[bh] at h|-;rw[this];exact h)
          | (rename_i o _ _
             have:=ht o (by simp[du,hp])
             simp only[bh] at h|-;rw[this];exact h)
  | append sz by_ s x =>
    have h0:=aF (env:=env) (env':=env') (x:=s) (λs hs=>hu s (by simp[bp,hs]));have h1:=aF (env:=env) (env':=env') (x:=x) (λs hs=>hu s (by simp[bp,hs]));simp only[aJ,bt] at h|-;rw[h0,h1];cases hp:aval env s with
    |none=>rw[hp] at h;exact h
    | some v =>
      rw[hp] at h;cases v<;>first|exact h|skip
      rename_i l t
      generalize aval env x=bx at h|-;cases bx with
      |none=>exact h
      | some v =>
        cases v<;>first|exact h|skip
        cases t with
        | own o =>
          have:=ht o (by simp[du,hp])
          simp only[bh] at h|-;rw[this];exact h
        |no=>exact h
        |nil=>exact h
        |full=>exact h
def mV(nm:Nat)(σ:aA)(t:Option Nat)(w:Bool)(e:Option (Nat×AObj)):Prop:=
 (e=none/\(w=true->t=none\/t=some nm))\/w=true/\∃o x,e=some (o,x)/\t=some o/\(o=nm\/σ o≠none)
def mi(E:Option (Nat×AObj)->Prop)(T:(AV->Option (Nat×AObj)->Prop)->Prop):Prop:=∀R,T R->∃v e,R v e/\E e/\T (λa e'=>a=v/\e'=e)
section
variable {E : Option (Nat × AObj) -> Prop}
theorem det_R(v:AV)(e:Option (Nat×AObj))(h:E e):mi E (λR=>R v e):=λ_ hR=>⟨v,e,hR,h,rfl,rfl⟩
theorem det_F:mi E (λ_=>False):=λ_ h=>h.elim
theorem jX{x:Option AV}{f:AV->(AV->Option (Nat×AObj)->Prop)->Prop}(h:∀a,x=some a->mi E (f a)):mi E (λR=>bh x (λa=>f a R)):=λR hR=>by
 obtain⟨a,h1,h2⟩:=aG hR;obtain⟨v,e,q1,q2,q3⟩:=h a h1 R h2;exact⟨v,e,q1,q2,by rw[h1];exact q3⟩
theorem BV{x:Option (List AV)}{f:List AV->(AV->Option (Nat×AObj)->Prop)->Prop}(h:∀a,x=some a->mi E (f a)):mi E (λR=>gj x (λa=>f a R)):=λR hR=>by
 obtain⟨a,h1,h2⟩:=dW hR;obtain⟨v,e,q1,q2,q3⟩:=h a h1 R h2;exact⟨v,e,q1,q2,by rw[h1];exact q3⟩
theorem det_wth'{x:Option AV}{f:AV->(AV->Option (Nat×AObj)->Prop)->Prop}(h:∀a,mi E (f a)):mi E (λR=>bh x (λa=>f a R)):=jX λa _=>h a
theorem go{x:Option (List AV)}{f:List AV->(AV->Option (Nat×AObj)->Prop)->Prop}(h:∀a,mi E (f a)):mi E (λR=>gj x (λa=>f a R)):=BV λa _=>h a
theorem det_req{p:Prop}{f:(AV->Option (Nat×AObj)->Prop)->Prop}(h:p->mi E f):mi E (λR=>cV p (f R)):=λR hR=>by
 obtain⟨v,e,q1,q2,q3⟩:=h hR.1 R hR.2;exact⟨v,e,q1,q2,hR.1,q3⟩
theorem qZ{m:List AV}{f g:(AV->Option (Nat×AObj)->Prop)->Prop}(hf:mi E f)(hg:mi E g):mi E (λR=>gh m (f R) (g R)):=λR hR=>by
 by_cases hm:m=[]
 ·obtain⟨v,e,q1,q2,q3⟩:=hf R (hR.1 hm);exact⟨v,e,q1,q2,λ_=>q3,λh=>absurd hm h⟩
 ·obtain⟨v,e,q1,q2,q3⟩:=hg R (hR.2 hm);exact⟨v,e,q1,q2,λh=>absurd h hm,λ_=>q3⟩
theorem iX{env:bg}{x:Option AOpnd}{d hi:Nat}{f:Nat->(AV->Option (Nat×AObj)->Prop)->Prop}(h:∀n,mi E (f n)):mi E (λR=>qq env x d hi (λn=>f n R)):=by
 cases x with
 |none=>exact h d
 |some o=>
  refine jX (λa _=>?_);cases a<;>first|exact det_F|skip
  exact det_req (λ_=>h _)
end
theorem xV{E:Option (Nat×AObj)->Prop}{α:Type}{x:Option α}{f:α->(AV->Option (Nat×AObj)->Prop)->Prop}(h:∀a,mi E (f a)):mi E (λR=>Bj x (λa=>f a R)):=λR hR=>by
 obtain⟨a,h1,h2⟩:=jp hR;obtain⟨v,e,q1,q2,q3⟩:=h a R h2;exact⟨v,e,q1,q2,by rw[h1];exact q3⟩
theorem Fe(nm:Nat)(env:bg)(σ:aA)(op:XOp)(hd:op.draws=true):mi (mV nm σ (cS nm env op) (iw (.ext op))) (λR=>vD (λk=>k nm) env σ R op):=by
 have n0:∀{t},mV nm σ t false none:=fun{t}=> .inl ⟨rfl,λh=>by simp at h⟩;cases op with
 |mkmap=>exact det_R _ _ (.inr ⟨rfl,nm,_,rfl,rfl, .inl rfl⟩)
 |look kk z c x i=>
  refine det_wth' λm=>det_wth' λk=>?_;cases m<;>first|exact det_F|skip
  ·rename_i o
   intro R hR;simp only[] at hR|-;cases hso:σ o with
   |none=>simp only[hso] at hR
   |some y=>
    simp only[hso] at hR|-;cases y<;>first|exact hR.elim|skip
    exact det_req (λ_=>xV λv=>det_R _ none n0) R hR
  ·exact det_req λ_=>det_R _ none n0
 |mset kk m k v=>
  refine jX λm' hm=>det_wth' λk=>det_wth' λv=>?_;cases m'<;>first|exact det_F|skip
  rename_i o
  have ht:cS nm env (.mset kk m ‹_› ‹_›)=some o:=by simp[cS,o9,hm]
  intro R hR;simp only[] at hR|-;cases hso:σ o with
  |none=>simp only[hso] at hR
  |some y=>
   simp only[hso] at hR|-;cases y<;>first|exact hR.elim|skip
   exact det_req (λ_=>xV λv=>det_R _ _ (.inr ⟨rfl,o,_,rfl,by simp[cS,o9,hm], .inr (by rw[hso];simp)⟩)) R hR
 |isnil ne x=>simp[XOp.draws] at hd
 |bsliceG sz ps=>exact go λl=>det_req λ_=>det_R _ _ (.inr ⟨rfl,nm,_,rfl,rfl, .inl rfl⟩)
 |vmake sz by_ z g n c=>
  refine det_wth' λa=>det_wth' λb=>det_wth' λe=>?_;intro R hR;split at hR
  ·exact⟨_,_,hR.2, .inr ⟨rfl,nm,_,rfl,rfl, .inl rfl⟩,hR.1,rfl,rfl⟩
  ·exact hR.elim
 |vapp sz by_ s x=>
  refine jX λa ha=>det_wth' λb=>?_;intro R hR;split at hR
  ·rename_i o len m t
   cases hso:σ o with
   |none=>simp only[hso] at hR
   |some y=>
    simp only[hso] at hR|-;cases y<;>first|exact hR.elim|skip
    exact det_req (λ_=>det_R _ _ (.inr ⟨rfl,o,_,rfl,by simp[cS,ha], .inr (by rw[hso];simp)⟩)) R hR
  ·rename_i o len n m t
   cases hso:σ o with
   |none=>simp only[hso] at hR
   |some y=>
    simp only[hso] at hR|-;cases y<;>first|exact hR.elim|skip
    obtain⟨q1,q2⟩:=hR;by_cases hc:len+m.length<=n
    ·rw[if_pos hc] at q2;refine⟨_,_,q2, .inr ⟨rfl,o,_,rfl,by simp[cS,ha], .inr (by rw[hso];simp)⟩,q1,?_⟩;rw[if_pos hc];exact⟨rfl,rfl⟩
    ·rw[if_neg hc] at q2;refine⟨_,_,q2, .inr ⟨rfl,o,_,rfl,by simp[cS,ha], .inr (by rw[hso];simp)⟩,q1,?_⟩;rw[if_neg hc];exact⟨rfl,rfl⟩
  ·rename_i l t m t2
   obtain⟨q1,q2⟩:=hR;cases t with
   |no=>exact q2.elim
   |own o=>exact q2.elim
   |nil=>
    by_cases hm:m=[]
    ·exact⟨_,_,q2.1 hm, .inl ⟨rfl,λ_=> .inr (by simp[cS,ha])⟩,q1,λ_=>⟨rfl,rfl⟩,λh=>absurd hm h⟩
    ·exact⟨_,_,q2.2 hm, .inr ⟨rfl,nm,_,rfl,by simp[cS,ha], .inl rfl⟩,q1,λh=>absurd h hm,λ_=>⟨rfl,rfl⟩⟩
   |full=>
    by_cases hm:m=[]
    ·exact⟨_,_,q2.1 hm, .inl ⟨rfl,λ_=> .inr (by simp[cS,ha])⟩,q1,λ_=>⟨rfl,rfl⟩,λh=>absurd hm h⟩
    ·exact⟨_,_,q2.2 hm, .inr ⟨rfl,nm,_,rfl,by simp[cS,ha], .inl rfl⟩,q1,λh=>absurd h hm,λ_=>⟨rfl,rfl⟩⟩
  ·exact hR.elim
 |vfrz g x=>simp[XOp.draws] at hd
 |retok sz x=>
  refine det_wth' λa=>?_;intro R hR;split at hR
  ·exact det_req (λ_=>det_R _ _ (.inr ⟨rfl,nm,_,rfl,rfl, .inl rfl⟩)) R hR
  ·exact det_R _ _ (.inr ⟨rfl,nm,_,rfl,rfl, .inl rfl⟩) R hR
  ·exact hR.elim
theorem zo(nm:Nat)(env:bg)(σ:aA)(op:AOp)(hd:∀x,op= .ext x->x.draws=true):mi (mV nm σ (du nm env op) (iw op)) (λR=>aJ nm env σ R op):=by
 have n0:∀{t},mV nm σ t false none:=fun{t}=> .inl ⟨rfl,λh=>by simp at h⟩;cases op with
 |mov x=>exact det_wth' λa=>det_R a none n0
 |pick c a b=>
  refine det_wth' λp=>?_;cases p<;>first|exact det_F|skip
  rename_i q
  cases q
  ·exact det_wth' λa=>det_R a none n0
  ·exact det_wth' λa=>det_R a none n0
 |alloc z=>exact det_R _ _ (.inr ⟨rfl,nm,_,rfl,rfl, .inl rfl⟩)
 |box x=>exact det_wth' λa=>det_R _ _ (.inr ⟨rfl,nm,_,rfl,rfl, .inl rfl⟩)
 |boxI x=>exact det_wth' λa=>det_req λ_=>det_R _ none n0
 |build z ps=>
  show mi _ (λR=>match gV env z ps with|some cs=>R (.agg cs) none|none=>False)
  cases gV env z ps with
  |none=>exact det_F
  |some cs=>exact det_R _ none n0
 |bslice sz ps=>exact go λl=>det_req λ_=>det_R _ none n0
 |load g n x=>
  refine det_wth' λp=>?_;cases p<;>first|exact det_F|skip
  case ptr o off=>
   show mi _ (λR=>match σ o with|some (.cells cs)=>cV (off+n<=cs.length) (bh (eE g ((cs.drop off).take n)) λa=>R a none)|_=>False)
   cases σ o with
   |none=>exact det_F
   |some y=>
    cases y<;>first|exact det_F|exact det_req λ_=>det_wth' λa=>det_R a none n0
  case eptr o m off=>
   show mi _ (λR=>match σ o with|some (.vec _ m' cs)=>cV (m=m'/\off+n<=cs.length) (bh (eE g ((cs.drop off).take n)) λa=>R a none)|_=>False)
   cases σ o with
   |none=>exact det_F
   |some y=>
    cases y<;>first|exact det_F|exact det_req λ_=>det_wth' λa=>det_R a none n0
  case cptr cs=>exact det_req λ_=>det_wth' λa=>det_R a none n0
 |store n p x=>
  refine jX λp' hp=>det_wth' λa=>?_;cases p'<;>first|exact det_F|skip
  case ptr o off=>
   have ht:du nm env (.store n p x)=some o:=by simp[du,hp]
   cases hso:σ o with
   |none=>
    intro R hR;simp only[hso] at hR
   |some y=>
    intro R hR;simp only[hso] at hR|-;cases y<;>first|exact hR.elim|skip
    exact⟨_,_,hR.2, .inr ⟨rfl,o,_,rfl,ht, .inr (by rw[hso];simp)⟩,hR.1,rfl,rfl⟩
  case eptr o m off=>
   have ht:du nm env (.store n p x)=some o:=by simp[du,hp]
   cases hso:σ o with
   |none=>
    intro R hR;simp only[hso] at hR
   |some y=>
    intro R hR;simp only[hso] at hR|-;cases y<;>first|exact hR.elim|skip
    exact⟨_,_,hR.2, .inr ⟨rfl,o,_,rfl,ht, .inr (by rw[hso];simp)⟩,hR.1,rfl,rfl⟩
 |nilchk x=>
  refine det_wth' λp=>?_;cases p<;>first|exact det_F|exact det_R _ none n0
 |bin op tb x y=>exact det_wth' λa=>det_wth' λb=>det_wth' λr=>det_R r none n0
 |eqs neg ks x y=>
  refine det_wth' λa=>det_wth' λb=>?_;cases a<;>cases b<;>first|exact det_F|skip
  rename_i l m
  show mi _ (λR=>match bw ks l m with|some r=>R (.bool (if neg then !r else r)) none|none=>False)
  cases bw ks l m with
  |none=>exact det_F
  |some r=>exact det_R _ none n0
 |un op x=>
  refine det_wth' λa=>?_;cases op<;>cases a<;>first|exact det_F|exact det_R _ none n0|(rename_i k n;cases k<;>first|exact det_F|exact det_R _ none n0)
 |conv k x=>
  refine det_wth' λa=>?_;cases a<;>first|exact det_F|exact det_R _ none n0
 |mkfn f a b=>exact go λl=>go λm=>det_R _ none n0
 |fldA k x=>
  refine det_wth' λa=>?_;cases a<;>first|exact det_F|exact det_R _ none n0
 |fldV g o n x=>
  refine det_wth' λa=>?_;cases a<;>first|exact det_F|exact det_req λ_=>det_wth' λa=>det_R a none n0
 |idxS sz x i=>
  refine det_wth' λa=>det_wth' λb=>?_;cases a<;>cases b<;>first|exact det_F|exact det_req λ_=>det_wth' λe=>det_req λ_=>det_R _ none n0|exact det_req λ_=>det_R _ none n0
 |idxR sz l x i=>
  refine det_wth' λa=>det_wth' λb=>?_;cases a<;>cases b<;>first|exact det_F|exact det_req λ_=>det_R _ none n0
 |slc sz x lo hi mx=>
  refine det_wth' λa=>?_;cases a<;>first|exact det_F|skip
  case vec o len=>exact det_req λ_=>iX λh=>det_R _ none n0
  case pre o len n=>exact det_req λ_=>iX λh=>det_R _ none n0
  refine det_req λ_=>iX λh=>iX λl=>?_;cases mx with
  |none=>exact det_R _ none n0
  |some m=>
   refine det_req λ_=>det_wth' λv=>?_;cases v<;>first|exact det_F|exact det_req λ_=>det_R _ none n0
 |extract x i=>
  refine det_wth' λa=>?_;cases a<;>first|exact det_F|exact det_wth' λa=>det_R a none n0
 |call f l=>exact det_F
 |len x=>
  refine det_wth' λa=>?_;cases a<;>first|exact det_F|exact det_R _ none n0
 |cap x=>
  refine det_wth' λa=>?_;cases a<;>first|exact det_F|skip
  rename_i l t
  cases t<;>first|exact det_F|exact det_R _ none n0
 |append sz by_ s x=>
  refine jX λa ha=>det_wth' λb=>?_;cases a<;>cases b<;>first|exact det_F|skip
  rename_i l t m t2
  refine det_req λ_=>?_;cases t with
  |no=>exact det_F
  |nil=>exact qZ (det_R _ none (.inl ⟨rfl,λ_=> .inr (by simp[du,ha])⟩)) (det_R _ _ (.inr ⟨rfl,nm,_,rfl,by simp[du,ha], .inl rfl⟩))
  |full=>exact qZ (det_R _ none (.inl ⟨rfl,λ_=> .inr (by simp[du,ha])⟩)) (det_R _ _ (.inr ⟨rfl,nm,_,rfl,by simp[du,ha], .inl rfl⟩))
  |own o=>exact det_req λho=>det_R _ _ (.inr ⟨rfl,o,_,rfl,by simp[du,ha], .inr (by rw[ho];simp)⟩)
 |min xs=>
  refine go λl=>?_;show mi _ (λR=>match vB l with|some r=>R (.int .i64 r) none|none=>False)
  cases vB l with
  |none=>exact det_F
  |some r=>exact det_R _ none n0
 |max xs=>
  refine go λl=>?_;show mi _ (λR=>match vC l with|some r=>R (.int .i64 r) none|none=>False)
  cases vC l with
  |none=>exact det_F
  |some r=>exact det_R _ none n0
 |mkslice sz by_ z g n c=>
  refine det_wth' λa=>det_wth' λb=>det_wth' λe=>?_;intro R hR;split at hR
  ·exact⟨_,_,hR.2, .inr ⟨rfl,nm,_,rfl,rfl, .inl rfl⟩,hR.1,rfl,rfl⟩
  ·exact hR.elim
 |mkiface t x=>exact det_wth' λa=>det_R _ none n0
 |appz sz by_ s x=>
  refine det_wth' λa=>det_wth' λb=>?_;intro R hR;split at hR
  ·exact⟨_,_,hR.2, .inr ⟨rfl,nm,_,rfl,rfl, .inl rfl⟩,hR.1,rfl,rfl⟩
  ·exact hR.elim
 |slcN sz x lo hi mx=>
  refine det_wth' λa=>?_;intro R hR;split at hR
  ·have:=iX (E:=mV nm σ (du nm env (.slcN sz x lo hi mx)) (iw (.slcN sz x lo hi mx))) (env:=env) (x:=hi) (d:=0) (hi:=0) (f:=λ_ R=>qq env lo 0 0 λ_=>R (.slice [] .nil) none) (λh=>iX λl=>det_R _ none n0) R hR.2
   obtain⟨v,e,h1,h2,h3⟩:=this;exact⟨v,e,h1,h2,hR.1,h3⟩
  ·exact hR.elim
 |slcR sz x lo hi mx=>
  refine det_wth' λa=>?_;intro R hR;split at hR
  ·rename_i o len
   have:=iX (E:=mV nm σ (du nm env (.slcR sz x lo hi mx)) (iw (.slcR sz x lo hi mx))) (env:=env) (x:=hi) (d:=len) (hi:=len) (f:=λh R=>cV (h=0) (R (.slice [] (.own o)) none)) (λh=>det_req λ_=>det_R _ none n0) R hR.2
   obtain⟨v,e,h1,h2,h3⟩:=this;exact⟨v,e,h1,h2,hR.1,h3⟩
  ·exact hR.elim
 |ext x=>exact Fe nm env σ x (hd x rfl)
 |panic x=>exact det_F
end Abs
namespace Abs
open Go
section
variable {β : Type}
def wr(f:Nat->Option β)(e:Nat->Option (Option β)):Nat->Option β:=λs=>(e s).getD (f s)
def aO(D:Nat->Bool):List (Nat->Option (Option β))->Nat->(Nat->Option β)->Nat->Option β
 |[],_,f=>f
 |e::es,n,f=>aO D es (n+1) (if D n then wr f e else f)
theorem cU{D D':Nat->Bool}{s:Nat}:∀(L:List (Nat->Option (Option β))) (n:Nat) (f f':Nat->Option β),f s=f' s->
  (∀j e v,L[j]?=some e->e s=some v->D (n+j)=D' (n+j))->aO D L n f s=aO D' L n f' s
 |[],_,f,f',h,_=>h
 |e::es,n,f,f',h,hd=>by
  simp only[aO];refine cU es (n+1) _ _ ?_ λj e' v hj he'=>?_
  ·cases he:e s with
   |none=>split<;>split<;>simp[wr,he,h]
   |some v=>
    have:=hd 0 e v (by simp) he
    simp only[Nat.add_zero] at this;rw[this];split<;>simp[wr,he,h]
  ·have:=hd (j+1) e' v (by simpa using hj) he'
   rwa [show n+1+j=n+(j+1) by omega]
theorem kC(L:List (Nat->Option (Option β))):∀(n:Nat) (f:Nat->Option β),aO (λ_=>false) L n f=f:=by
 induction L with
 |nil=>intro n f;rfl
 |cons e es ih=>intro n f;simp only[aO,Bool.false_eq_true,if_false];exact ih (n+1) f
theorem jY{D:Nat->Bool}{s:Nat}(L:List (Nat->Option (Option β)))(n:Nat)(f:Nat->Option β)
  (h:∀j e v,L[j]?=some e->e s=some v->D (n+j)=false):aO D L n f s=f s:=by
 have h1:=cU (D:=D) (D':=λ_=>false) L n f f rfl (λj e v hj he=>h j e v hj he);rw[h1,kC]
theorem sm(L:List (Nat->Option (Option β)))(n m:Nat)(h:m<=n)(f:Nat->Option β):aO (λi=>decide (i<m)) L n f=f:=by
 funext s
 exact jY L n f λj e v _ _=>by simp;omega
theorem pd{D:Nat->Bool}{s:Nat}{v:Option β}:∀(L:List (Nat->Option (Option β))) (n i:Nat) (f:Nat->Option β) (e:Nat->Option (Option β)),L[i]?=some e->e s=some v->D (n+i)=true->
  (∀j e' u,i<j->L[j]?=some e'->e' s=some u->D (n+j)=false)->aO D L n f s=v
 |[],n,i,f,e,h,_,_,_=>by simp at h
 |e::es,n,0,f,e0,h,hv,hd,hl=>by
  simp at h;subst h
  simp only[aO];simp only[Nat.add_zero] at hd
  rw[jY es (n+1) _ λj e' u hj he'=>by
   have:=hl (j+1) e' u (by omega) (by simpa using hj) he'
   rwa [show n+1+j=n+(j+1) by omega]]
  simp[hd,wr,hv]
 |e::es,n,i+1,f,e0,h,hv,hd,hl=>by
  simp only[aO];refine pd es (n+1) i _ e0 (by simpa using h) hv (by rwa [show n+1+i=n+(i+1) by omega]) λj e' u hij hj he'=>?_;have:=hl (j+1) e' u (by omega) (by simpa using hj) he'
  rwa [show n+1+j=n+(j+1) by omega]
def mj(D:Nat->Bool)(i:Nat):Nat->Bool:=λj=>D j||decide (j=i)
theorem tU{D:Nat->Bool}{L:List (Nat->Option (Option β))}{i:Nat}{f:Nat->Option β}{e:Nat->Option (Option β)}(he:L[i]?=some e)(hD:D i=false)
  (hl:∀j s e' u v,i<j->D j=true->e s=some v->L[j]?=some e'->e' s=some u->False):aO (mj D i) L 0 f=wr (aO D L 0 f) e:=by
 funext s
 cases hs:e s with
 |none=>
  simp only[wr,hs,Option.getD_none];refine cU L 0 f f rfl λj e' v hj hv=>?_;simp only[Nat.zero_add,mj];by_cases hji:j=i
  ·subst hji;rw[he] at hj;cases hj
   rw[hs] at hv;simp at hv
  ·simp[hji]
 |some v=>
  simp only[wr,hs,Option.getD_some];refine pd L 0 i f e he hs (by simp[mj]) λj e' u hij hj hu=>?_;simp only[Nat.zero_add,mj];have:j≠i:=by omega
  cases hDj:D j
  ·simp[this]
  ·exact(hl j s e' u v hij hDj hs hj hu).elim
theorem Ff{p:Nat->Prop}{n:Nat}(hb:∀j,p j->j<n)(h:∃j,p j):∃j,p j/\∀j',j<j'->¬p j':=by
 induction n with
 |zero=>obtain⟨j,hj⟩:=h;have:=hb j hj;omega
 |succ n ih=>
  by_cases hn:p n
  ·exact⟨n,hn,λj' hlt hp=>by have:=hb j' hp;omega⟩
  ·exact ih (λj hj=>by
    have:=hb j hj
    have hne:j≠n:=λe=>hn (e▸hj);omega)
theorem runL_or{D:Nat->Bool}{L:List (Nat->Option (Option β))}{s i:Nat}{f:Nat->Option β}(h:∀j e v,L[j]?=some e->e s=some v->j<i->D j=true):
  aO D L 0 f s=aO (λj=>decide (j<i)) L 0 f s\/∃j e v,L[j]?=some e/\e s=some v/\D j=true/\i<=j/\aO D L 0 f s=v:=by
 by_cases hx:∃j,(∃e v,L[j]?=some e/\e s=some v)/\D j=true/\i<=j
 ·right
  obtain⟨j,⟨⟨e,v,h1,h2⟩,h3,h4⟩,hlast⟩:=Ff (n:=L.length) (λj hj=>by
   obtain⟨⟨e,v,h1,_⟩,_⟩:=hj;exact(List.getElem?_eq_some_iff.1 h1).1) hx
  refine⟨j,e,v,h1,h2,h3,h4,pd L 0 j f e h1 h2 (by simpa using h3) λj' e' u hlt hj' hu=>?_⟩;simp only[Nat.zero_add];cases hD:D j' with
  |false=>rfl
  |true=>exact(hlast j' hlt ⟨⟨e',u,hj',hu⟩,hD,by omega⟩).elim
 ·left
  refine cU L 0 f f rfl λj e v hj hv=>?_;simp only[Nat.zero_add];by_cases hji:j<i
  ·rw[h j e v hj hv hji];simp[hji]
  ·cases hD:D j with
   |false=>simp[hji]
   |true=>exact(hx ⟨j,⟨e,v,hj,hv⟩,hD,by omega⟩).elim
end
structure Out where
 act:Bool
 val:AV
 eff:List (Nat×AObj)
def Out.env(o:Out)(i:AInst)(env:bg):bg:=if o.act then putA i.dst o.val env else skipA i.dst env
def dv:List (Nat×AObj)->Nat->Option AObj
 |[],_=>none
 |(o,x)::r,s=>match dv r s with
  |some y=>some y
  |none=>if s=o then some x else none
theorem ml:∀(us:List (Nat×AObj)) (σ:aA) (s:Nat),fm σ us s=(dv us s).or (σ s)
 |[],σ,s=>rfl
 |(o,x)::r,σ,s=>by
  simp only[fm,dv,ml r];cases dv r s with
  |some y=>rfl
  |none=>
   simp only[Option.none_or,aH];split<;>simp_all
theorem dY:∀{us:List (Nat×AObj)} {s:Nat} {x:AObj},dv us s=some x->(s,x)∈us
 |[],s,x,h=>by simp[dv] at h
 |(o,y)::r,s,x,h=>by
  simp only[dv] at h;split at h
  ·rename_i z hz
   have hm:=dY (us:=r) (s:=s) hz;simp at h;subst h
   exact List.mem_cons_of_mem _ hm
  ·split at h
   ·rename_i hs;simp at h;subst h;subst hs;exact List.mem_cons_self
   ·simp at h
def fq(i:AInst)(o:Out):Nat->Option (Option AV):=λs=>if i.dst=some s then some (some (if o.act then o.val else .tup [])) else none
def aX(o:Out):Nat->Option (Option AObj):=λs=>(dv o.eff s).map some
theorem vS(i:AInst)(o:Out)(env:bg):lk (o.env i env)=wr (lk env) (fq i o):=by
 obtain⟨d,op,g⟩:=i;obtain⟨act,val,eff⟩:=o;funext s
 cases act<;>cases d<;>simp only[Out.env,putA,skipA,fq,wr,lk,if_true,if_false,Bool.false_eq_true,reduceCtorEq,Option.getD_none,Option.some.injEq]
 all_goals (split<;>split<;>simp_all)
theorem sn(σ:aA)(o:Out):fm σ o.eff=wr σ (aX o):=by
 funext s
 rw[ml];simp only[aX,wr];cases dv o.eff s<;>rfl
theorem kD(σ:aA)(e:Option (Nat×AObj)):fN σ e=fm σ e.toList:=by
 cases e with
 |none=>rfl
 |some p=>rfl
theorem mm{σ:aA}:∀{us:List (Nat×AObj)},oW σ us->∀p∈us,σ p.1≠none
 |[],_,p,hp=>by simp at hp
 |(a,x)::r,h,p,hp=>by
  rcases List.mem_cons.1 hp with rfl|hp
  ·exact h.1
  ·exact mm h.2 p hp
theorem re{o:Nat}:∀{us:List (Nat×AObj)},oV o us->∀p∈us,p.1≠o
 |[],_,p,hp=>by simp at hp
 |(a,x)::r,h,p,hp=>by
  rcases List.mem_cons.1 hp with rfl|hp
  ·exact h.1
  ·exact re h.2 p hp
theorem gB{o:Nat}{rd:Option (Nat×Nat×List AV)}:∀{us:List (Nat×AObj)},iT o rd us->∀x,(o,x)∈us->∃off n vs cs,rd=some (off,n,vs)/\x= .cells cs/\off+n<=cs.length/\(cs.drop off).take n=vs
 |[],_,x,hx=>by simp at hx
 |(a,y)::r,h,x,hx=>by
  rcases List.mem_cons.1 hx with he|hx
  ·cases he
   rcases h.1 with h1|h1
   ·exact absurd rfl h1
   ·split at h1
    ·exact⟨_,_,_,_,rfl,rfl,h1.1,h1.2⟩
    ·exact h1.elim
  ·exact gB h.2 x hx
def eV:AOp->Bool
 | .ext x=>x.draws
 |_=>true
def Il(P:Program)(nm:Nat)(env:bg)(σ σb:aA)(v:AV)(e:List (Nat×AObj)):AOp->Prop
 | .call f args=>∃g first caps vs,aval env f=some (.fn g first caps)/\cK env args=some vs/\((Ij P g (first++vs++caps) σb v e/\oW σ e)\/∃x,e=[(nm,x)]/\Ik P g (first++vs++caps) σb nm v x)
 |op=>eV op=true/\∃e0,e=e0.toList/\aJ nm env σ (λa e'=>a=v/\e'=e0) op/\mV nm σ (du nm env op) (iw op) e0
def mn(P:Program)(nm:Nat)(env:bg)(σ σb:aA)(i:AInst)(o:Out):Prop:=
 (o.act=true/\(i.guard=none\/∃s b,i.guard=some (s,b)/\lk env s=some (.bool b))/\Il P nm env σ σb o.val o.eff i.op)\/
 (o.act=false/\o.eff=[]/\∃s b,i.guard=some (s,b)/\((∃p,lk env s=some (.bool p)/\p≠b)\/∃vs,lk env s=some (.tup vs)))
def pf(env:bg)(σ:aA)(i:AInst)(o:Out):Option TI:=
 match i.op with
 | .call _ _=>some (.call o.eff)
 |op=>match o.eff with
  |(k,_)::_=>some (.mem k none)
  |[]=>ky env σ op
def ji(n:Nat)(env:bg)(σ:aA)(i:AInst)(o:Out)(tl:List (Nat×TI)):List (Nat×TI):=
 match i.op with
 | .call _ _=>(n, .call o.eff)::tl
 |op=>zk n env σ op tl o.eff.head?
theorem zp{n:Nat}{env:bg}{σ:aA}{i:AInst}{o:Out}{tl}{m:Nat}(h:m≠n):cm m (ji n env σ i o tl)=cm m tl:=by
 unfold ji;split
 ·simp[cm,h]
 ·unfold zk;split
  ·simp[cm,h]
  ·split<;>simp[cm,h]
theorem pg{n:Nat}{env:bg}{σ:aA}{i:AInst}{o:Out}{tl}{k:TI}(h:pf env σ i o=some k):cm n (ji n env σ i o tl)=some k:=by
 unfold pf at h;unfold ji;split at h
 ·simp at h;subst h;simp[cm]
 ·unfold zk;split at h
  ·rename_i he;rw[he];simp at h;subst h;simp[cm]
  ·rename_i he;rw[he];simp[h,cm]
theorem mW{P:Program}{pairs:List (Nat×Nat)}{k:bg->aA->Prop}{nm:Nat->Nat}(hnm:∀i j,nm i=nm j->i=j):∀(is:List AInst) (n:Nat) (tl:List (Nat×TI)) (env:bg) (σ:aA),
  (∀m,n<=m->σ (nm m)=none)->dO P pairs k is n tl env σ->∃(os:List Out) (tf:List (Nat×TI)) (envF:bg),os.length=is.length/\
   (∀(j:Nat) i o,is[j]?=some i->os[j]?=some o->∃env',lk env'=aO (λm=>decide (m<n+j)) (List.zipWith fq is os) n (lk env)/\
    mn P (nm (n+j)) env' (aO (λm=>decide (m<n+j)) (os.map aX) n σ) (eG (n+j) (aO (λm=>decide (m<n+j)) (os.map aX) n σ) pairs) i o/\
    (o.act=true->∀t,pf env' (aO (λm=>decide (m<n+j)) (os.map aX) n σ) i o=some t->cm (n+j) tf=some t))/\
   (∀m,m<n->cm m tf=cm m tl)/\iU tf pairs/\
   lk envF=aO (λ_=>true) (List.zipWith fq is os) n (lk env)/\k envF (aO (λ_=>true) (os.map aX) n σ)
 |[],n,tl,env,σ,_,h=>⟨[],tl,env,rfl,by simp,λ_ _=>rfl,h.1,rfl,h.2⟩
 |i::is,n,tl,env,σ,hfr,h=>by
  have step:∃o,mn P (nm n) env σ (eG n σ pairs) i o/\dO P pairs k is (n+1) (if o.act then ji n env σ i o tl else tl) (o.env i env) (fm σ o.eff)/\
    (∀m,n+1<=m->fm σ o.eff (nm m)=none):=by
   obtain⟨d,op,g⟩:=i
   have skip:(∃s b,g=some (s,b)/\((∃p,lk env s=some (.bool p)/\p≠b)\/∃vs,lk env s=some (.tup vs)))->dO P pairs k is (n+1) tl (skipA d env) σ->∃o,mn P (nm n) env σ (eG n σ pairs) ⟨d,op,g⟩ o/\dO P pairs k is (n+1) (if o.act then ji n env σ ⟨d,op,g⟩ o tl else tl) (o.env ⟨d,op,g⟩ env) (fm σ o.eff)/\
     (∀m,n+1<=m->fm σ o.eff (nm m)=none):=λhg h=>⟨⟨false, .nilp,[]⟩, .inr ⟨rfl,rfl,hg⟩,by simpa [Out.env,fm] using h,λm hm=>hfr m (by omega)⟩
   have run:(g=none\/∃s b,g=some (s,b)/\lk env s=some (.bool b))->lc P (λv e=>dO P pairs k is (n+1) (zk n env σ op tl e) (putA d v env) (fN σ e)) (λv us=>dO P pairs k is (n+1) ((n, .call us)::tl) (putA d v env) (fm σ us)) env σ (eG n σ pairs) op->
     ∃o,mn P (nm n) env σ (eG n σ pairs) ⟨d,op,g⟩ o/\dO P pairs k is (n+1) (if o.act then ji n env σ ⟨d,op,g⟩ o tl else tl) (o.env ⟨d,op,g⟩ env) (fm σ o.eff)/\
     (∀m,n+1<=m->fm σ o.eff (nm m)=none):=by
    intro hg h
    have gen:bt (λk=>fresh σ k) env σ (λv e=>dO P pairs k is (n+1) (zk n env σ op tl e) (putA d v env) (fN σ e)) op->(∀f l,op≠ .call f l)->eV op=true->∃o,mn P (nm n) env σ (eG n σ pairs) ⟨d,op,g⟩ o/\dO P pairs k is (n+1) (if o.act then ji n env σ ⟨d,op,g⟩ o tl else tl) (o.env ⟨d,op,g⟩ env) (fm σ o.eff)/\
      (∀m,n+1<=m->fm σ o.eff (nm m)=none):=by
     intro h hne hdr;have h':aJ (nm n) env σ (λv e=>dO P pairs k is (n+1) (zk n env σ op tl e) (putA d v env) (fN σ e)) op:=o0 (λk hk=>hk (nm n) (hfr n (Nat.le_refl n))) h;obtain⟨v,e,h1,h2,h3⟩:=zo (nm n) env σ op (λx e=>by subst e;exact hdr) _ h'
     have etn:ji n env σ ⟨d,op,g⟩ ⟨true,v,e.toList⟩ tl=zk n env σ op tl e:=by
      unfold ji;split
      ·rename_i f l hop;exact absurd hop (hne _ _)
      ·cases e<;>rfl
     refine⟨⟨true,v,e.toList⟩, .inl ⟨rfl,hg,?_⟩,by simp only[if_true,etn];rw[kD] at h1;simpa [Out.env] using h1,λm hm=>?_⟩
     ·cases op<;>first|exact⟨hdr,e,rfl,h3,h2⟩|exact absurd rfl (hne _ _)
     ·rw[<-kD];rcases h2 with ⟨rfl,_⟩|⟨_,o,x,rfl,_,ho⟩
      ·exact hfr m (by omega)
      ·have hmo:nm m≠o:=by
        rcases ho with rfl|ho
        ·intro e;have:=hnm _ _ e;omega
        ·intro e;rw[<-e] at ho;exact ho (hfr m (by omega))
       simp only[fN,aH,hmo,if_false];exact hfr m (by omega)
    cases op
    case call f args=>
     obtain⟨fv,f1,h1⟩:=aG h;obtain⟨vs,f2,h2⟩:=dW h1;cases fv<;>first|exact h2.elim|skip
     rename_i g' first caps
     rcases h2 with ⟨v,us,h3,h4,h5⟩|⟨v,x,hN⟩
     ·refine⟨⟨true,v,us⟩, .inl ⟨rfl,hg,g',first,caps,vs,f1,f2, .inl ⟨h3,h4⟩⟩,by simpa [Out.env,ji] using h5,λm hm=>?_⟩;rw[ml];cases hl:dv us (nm m) with
      |none=>simpa using hfr m (by omega)
      |some x=>exact absurd (hfr m (by omega)) (mm h4 _ (dY hl))
     ·obtain⟨h3,h5⟩:=hN (nm n) (hfr n (Nat.le_refl n));refine⟨⟨true,v (nm n),[(nm n,x)]⟩, .inl ⟨rfl,hg,g',first,caps,vs,f1,f2, .inr ⟨x,rfl,h3⟩⟩,by simpa [Out.env,ji] using h5,λm hm=>?_⟩;have hmn:nm m≠nm n:=λe=>by have:=hnm _ _ e;omega
      simp only[fm,aH,hmn,if_false];exact hfr m (by omega)
    case ext x=>
     simp only[lc] at h;split at h
     ·rename_i hd
      exact gen h (by intro f l e;simp at e) hd
     ·exact h.elim
    all_goals exact gen h (by intro f l e;simp at e) rfl
   simp only[dO] at h;cases g with
   |none=>exact run (.inl rfl) h
   |some p=>
    obtain⟨s,b⟩:=p;obtain⟨gv,e1,h⟩:=aG h;cases gv<;>first|exact h.elim|skip
    case tup vs=>exact skip ⟨s,b,rfl, .inr ⟨vs,e1⟩⟩ h
    rename_i p
    by_cases hpb:p=b
    ·exact run (.inr ⟨s,b,rfl,hpb▸e1⟩) (h.1 hpb)
    ·exact skip ⟨s,b,rfl, .inl ⟨p,e1,hpb⟩⟩ (h.2 hpb)
  obtain⟨o,h1,h2,h3⟩:=step;obtain⟨os,tf,envF,q1,q2,q3,q4,q5,q6⟩:=mW hnm is (n+1) _ _ _ h3 h2;refine⟨o::os,tf,envF,by simp[q1],?_,?_,q4,?_,?_⟩
  ·intro j i' o' hi ho;cases j with
   |zero=>
    simp at hi ho;subst hi;subst ho
    refine⟨env,?_,?_,λha t ht=>?_⟩
    ·rw[sm _ _ _ (by omega)]
    ·rw[sm _ _ _ (by omega)];exact h1
    ·rw[sm _ _ _ (by omega)] at ht;rw[Nat.add_zero,q3 n (by omega),ha];exact pg ht
   |succ j=>
    obtain⟨env',r1,r2,r3⟩:=q2 j i' o' (by simpa using hi) (by simpa using ho);have en:n+1+j=n+(j+1):=by omega
    rw[en] at r1 r2 r3;have hlt:decide (n<n+(j+1))=true:=by simp
    refine⟨env',?_,?_,?_⟩
    ·rw[r1,vS];simp only[List.zipWith_cons_cons,aO,hlt,if_true]
    ·simp only[List.map_cons,aO,hlt,if_true];rw[<-sn];exact r2
    ·simp only[List.map_cons,aO,hlt,if_true];rw[<-sn];exact r3
  ·intro m hm;rw[q3 m (by omega)];split
   ·exact zp (by omega)
   ·rfl
  ·rw[q5,vS];simp only[List.zipWith_cons_cons,aO,if_true]
  ·simp only[List.map_cons,aO,if_true];rw[<-sn];exact q6
theorem tV{acc:List Nat}{o:Oper}{j:Nat}(h:(vQ acc o).testBit j=true):∃e∈o.after,Region.binds .any e=true/\(e.on=j\/(acc.getD e.on 0).testBit j=true):=by
 have key:∀(l:List Edge) (s:Nat),(l.foldl (λs e=>if Region.binds .any e then s|||2^e.on|||acc.getD e.on 0 else s) s).testBit j=true->
   s.testBit j=true\/∃e∈l,Region.binds .any e=true/\(e.on=j\/(acc.getD e.on 0).testBit j=true):=by
  intro l;induction l with
  |nil=>intro s h;exact .inl h
  |cons e l ih=>
   intro s h;simp only[List.foldl_cons] at h;rcases ih _ h with h|⟨e',h1,h2⟩
   ·split at h
    ·rename_i hb
     rw[Nat.testBit_or,Nat.testBit_or] at h;simp only[Bool.or_eq_true] at h;rcases h with (h|h)|h
     ·exact .inl h
     ·rw[Nat.testBit_two_pow] at h;exact .inr ⟨e,by simp,hb, .inl (by simpa using h)⟩
     ·exact .inr ⟨e,by simp,hb, .inr h⟩
    ·exact .inl h
   ·exact .inr ⟨e',by simp[h1],h2⟩
 rcases key _ _ h with h|⟨e,h1,h2⟩
 ·simp at h
 ·exact⟨e,by simpa using h1,h2⟩
theorem ph{D:Nat->Bool}{R:Nat->Prop}(hDR:∀i,D i=true->R i):∀(ops:List Oper) (acc:List Nat),(∀i j,R i->(acc.getD i 0).testBit j=true->D j=true)->
  (∀m o,ops[m]?=some o->R (acc.length+m)->∀e∈o.after,Region.binds .any e=true->D e.on=true)->∀i j,R i->((fQ acc ops).getD i 0).testBit j=true->D j=true
 |[],acc,h,_,i,j,hi,hb=>h i j hi hb
 |o::r,acc,h,ho,i,j,hi,hb=>by
  simp only[fQ] at hb;refine ph hDR r (acc++[vQ acc o]) ?_ ?_ i j hi hb
  ·intro i j hi hb;rcases Nat.lt_trichotomy i acc.length with hl|hl|hl
   ·rw[List.getD_eq_getElem?_getD,List.getElem?_append_left hl,<-List.getD_eq_getElem?_getD] at hb;exact h i j hi hb
   ·subst hl;simp at hb
    obtain⟨e,h1,h2,h3⟩:=tV hb;have hD:=ho 0 o (by simp) hi e h1 h2;rcases h3 with rfl|h3
    ·exact hD
    ·exact h _ j (hDR _ hD) h3
   ·rw[List.getD_eq_getElem?_getD,List.getElem?_eq_none (by simp;omega)] at hb;simp at hb
  ·intro m o' hm hi;refine ho (m+1) o' (by simpa using hm) ?_;simpa [Nat.add_assoc,Nat.add_comm 1 m] using hi
theorem so{α:Type}{l:List α}{p:α×Nat->Bool}(h:l.zipIdx.all p=true){i:Nat}{x:α}(hx:l[i]?=some x):p (x,i)=true:=
 List.all_eq_true.1 h (x,i) (List.mem_zipIdx_iff_getElem?.2 (by simpa using hx))
structure DrawFacts(ops:List Oper)(is:List AInst)(cl:List Nat):Prop where
 back:∀(i:Nat) (o:Oper),ops[i]?=some o->∀e∈o.after,Region.binds .any e=true->e.on<i
 dst:∀(i j:Nat) (x y:AInst) (d:Nat),is[i]?=some x->is[j]?=some y->i≠j->x.dst=some d->y.dst≠some d
 use:∀(i j:Nat) (x y:AInst) (d:Nat),is[i]?=some x->is[j]?=some y->i≠j->y.dst=some d->d∈jt x->cz cl i j=true
 call:∀(i j:Nat) (x y:AInst),is[i]?=some x->is[j]?=some y->i≠j->bD x.op=true->iw y.op=true->d9 y.op=true\/cz cl i j=true
theorem sq{ops is cl}(h:sj ops is cl=true):DrawFacts ops is cl:=by
 unfold sj at h;rw[Bool.and_eq_true] at h;obtain⟨h1,h2⟩:=h
 have two:∀(i j:Nat) (x y:AInst),is[i]?=some x->is[j]?=some y->i≠j->((match x.dst with|some d=>y.dst != some d|none=>true)&&
   (match y.dst with|some d=> !(jt x).contains d||cz cl i j|none=>true)&&(!(bD x.op&&iw y.op)||d9 y.op||cz cl i j))=true:=by
  intro i j x y hi hj hne;have:=so (so h2 hi) hj
  exact(Bool.or_eq_true _ _▸this).resolve_left (by simp[hne])
 refine⟨λi o hi e he hb=>?_,λi j x y d hi hj hne hx=>?_,λi j x y d hi hj hne hy hd=>?_,λi j x y hi hj hne hc hw=>?_⟩
 ·have:=so h1 hi
  have h3:=List.all_eq_true.1 this e (by simpa using he);simpa [hb] using h3
 ·have:=two i j x y hi hj hne
  simp only[hx,Bool.and_eq_true] at this;simpa using this.1.1
 ·have:=two i j x y hi hj hne
  simp only[hy,Bool.and_eq_true] at this;have h3:=this.1.2;simpa [hd] using h3
 ·have:=two i j x y hi hj hne
  simp only[Bool.and_eq_true] at this;have h3:=this.2;simp only[hc,hw,Bool.and_self,Bool.not_true,Bool.false_or,Bool.or_eq_true,Bool.and_eq_true,decide_eq_true_eq] at h3;exact h3
theorem dD{is:List AInst}{cl:List Nat}{i j:Nat}{x y:AInst}(hi:is[i]?=some x)(hj:is[j]?=some y)(hlt:i<j)(hx:dI x.op=true)(hy:dI y.op=true)
  (hw:(iw x.op||iw y.op||bD x.op||bD y.op)=true)(hn:(bD x.op&&d9 y.op)=false)(ho:cz cl i j=false):(i,j)∈eU is cl:=by
 refine List.mem_append_left _ ?_;unfold qW;rw[List.mem_flatMap];refine⟨(x,i),List.mem_zipIdx_iff_getElem?.2 (by simpa using hi),?_⟩;rw[List.mem_filterMap];exact⟨(y,j),List.mem_zipIdx_iff_getElem?.2 (by simpa using hj),by simp only[hlt,hx,hy,hw,hn,ho,and_self,if_true]⟩
theorem qy{is:List AInst}{cl:List Nat}{i j:Nat}{x y:AInst}(hi:is[i]?=some x)(hj:is[j]?=some y)(hlt:j<i)(hx:bD x.op=true)(hw:iw y.op=true)(hn:d9 y.op=true)(ho:cz cl i j=false):(i,i)∈eU is cl:=by
 refine List.mem_append_right _ ?_;unfold qX;rw[List.mem_filterMap];refine⟨(x,i),List.mem_zipIdx_iff_getElem?.2 (by simpa using hi),?_⟩
 have h:(is.zipIdx.any fun(y,j)=>decide (j<i)&&iw y.op&&d9 y.op&& !cz cl i j)=true:=by
  rw[List.any_eq_true];exact⟨(y,j),List.mem_zipIdx_iff_getElem?.2 (by simpa using hj),by simp[hlt,hw,hn,ho]⟩
 simp only[hx,h,and_self,if_true]
theorem baseS_cases(n:Nat)(σ:aA):∀ps:List (Nat×Nat),(eG n σ ps=σ/\(n,n)∉ps)\/eG n σ ps=λ_=>none
 |[]=> .inl ⟨rfl,by simp⟩
 |(a,b)::r=>by
  unfold eG;split
  ·rename_i h
   split
   ·exact .inr rfl
   ·rename_i h'
    rcases baseS_cases n σ r with ⟨h1,h2⟩|h1
    ·refine .inl ⟨h1,?_⟩;intro hm;rcases List.mem_cons.1 hm with e|e
     ·simp at e;exact h' e.2.symm
     ·exact h2 e
    ·exact .inr h1
  ·rename_i h
   rcases baseS_cases n σ r with ⟨h1,h2⟩|h1
   ·refine .inl ⟨h1,?_⟩;intro hm;rcases List.mem_cons.1 hm with e|e
    ·simp at e;exact h e.1.symm
    ·exact h2 e
   ·exact .inr h1
theorem dP{tl:List (Nat×TI)}:∀{pairs:List (Nat×Nat)} {i j:Nat} {a b:TI},iU tl pairs->(i,j)∈pairs->cm i tl=some a->cm j tl=some b->kz a b
 |[],_,_,_,_,_,h,_,_=>by simp at h
 |(i',j')::r,i,j,a,b,h,hm,h1,h2=>by
  rcases List.mem_cons.1 hm with e|hm
  ·cases e
   have:=h.1
   rw[h1,h2] at this;exact this
  ·exact dP h.2 hm h1 h2
theorem lh{a:AOp}(h:iw a=true)(hd:eV a=true):iw a.bare=true:=by
 cases a with
 |ext x=>cases x<;>first|rfl|(simp[eV,XOp.draws] at hd;done)|exact h
 |_=>first|exact h|(simp[iw] at h;done)
theorem fu{a:AOp}(h:dI a=true)(hd:eV a=true):dI a.bare=true:=by
 cases a with
 |ext x=>cases x<;>first|rfl|(simp[eV,XOp.draws] at hd;done)|(simp[dI,iw] at h;done)
 |_=>first|exact h|(simp[dI,iw] at h;done)
theorem dQ(a:AOp):bD a.bare=bD a:=by
 cases a with
 |ext x=>cases x<;>rfl
 |_=>rfl
theorem mX{a:AOp}{nm:Nat}{env:bg}(h:d9 a.bare=true)(hd:eV a=true)(hw:iw a=true):du nm env a=some nm:=by
 cases a with
 |ext x=>cases x<;>first|rfl|(simp[eV,XOp.draws] at hd;done)|(simp[AOp.bare,d9] at h;done)
 |_=>first|rfl|(simp[AOp.bare,d9] at h;done)|(simp[iw] at hw;done)
theorem vT{a:AOp}(h:d9 a.bare=true)(hm:dI a=true)(hw:iw a=false):False:=by
 cases a with
 |ext x=>cases x<;>first|(simp[AOp.bare,d9] at h;done)|(simp[iw] at hw;done)|(simp[dI,iw] at hm;done)
 |_=>first|(simp[AOp.bare,d9] at h;done)|(simp[iw] at hw;done)|(simp[dI,iw] at hm;done)
theorem tW(a:AOp):bp a.bare=bp a:=by
 cases a with
 |ext x=>cases x<;>rfl
 |_=>rfl
theorem vU(i:AInst):jt i.bare=jt i:=by simp[jt,AInst.bare,tW]
theorem nK{a:AOp}(h:iw a=true):dI a=true:=by
 cases a with
 |ext x=>cases x<;>first|rfl|(simp[iw] at h;done)
 |_=>first|rfl|(simp[iw] at h;done)
theorem mY{P N ops}:∀{os:List Oper} {l:List AInst},bZ P N ops os=some l->os.length=l.length/\∀(j:Nat) o i,os[j]?=some o->l[j]?=some i->oZ P N ops o=some i
 |[],l,h=>by simp[bZ] at h;subst h;simp
 |o::os,l,h=>by
  simp only[bZ] at h;split at h<;>simp at h
  rename_i a r h1 h2
  subst h;obtain⟨q1,q2⟩:=mY h2;refine⟨by simp[q1],λj o' i' h3 h4=>?_⟩;cases j with
  |zero=>simp at h3 h4;subst h3;subst h4;exact h1
  |succ j=>exact q2 j o' i' (by simpa using h3) (by simpa using h4)
theorem vV{cl:List Nat}{D:Nat->Bool}{R:Nat->Prop}(hDR:∀i,D i=true->R i)(hcl:∀i j,R i->(cl.getD i 0).testBit j=true->D j=true){i j:Nat}(hR:R i)(hD:D i=false)
  (ho:cz cl i j=true):D j=decide (j<i):=by
 unfold cz at ho;split at ho
 ·rename_i hlt
  rw[hcl i j hR ho];simp[hlt]
 ·rename_i hlt
  cases hDj:D j
  ·simp[hlt]
  ·have:=hcl j i (hDR j hDj) ho
   rw[this] at hD;simp at hD
theorem iY{cl:List Nat}{i j:Nat}(h:i≠j):cz cl i j=cz cl j i:=by
 unfold cz;rcases Nat.lt_trichotomy i j with h'|h'|h'
 ·rw[if_neg (by omega),if_pos h']
 ·exact absurd h' h
 ·rw[if_pos h',if_neg (by omega)]
structure Plan(P:Program)(N:Nat)(ops:Array Oper)(is:List AInst)(os:List Out)(nm:Nat->Nat)(env:bg)(σ:aA)(tf:List (Nat×TI)):Prop where
  len:os.length=is.length
  lenO:ops.size=is.length
  get:∀(j:Nat) o i,ops[j]?=some o->is[j]?=some i->oZ P N ops o=some i.bare
  step:∀(j:Nat) i o,is[j]?=some i->os[j]?=some o->∃env',lk env'=aO (λm=>decide (m<j)) (List.zipWith fq is os) 0 (lk env)/\
        mn P (nm j) env' (aO (λm=>decide (m<j)) (os.map aX) 0 σ) (eG j (aO (λm=>decide (m<j)) (os.map aX) 0 σ) (eU (is.map AInst.bare) (fQ [] ops.toList))) i o/\(o.act=true->∀t,pf env' (aO (λm=>decide (m<j)) (os.map aX) 0 σ) i o=some t->cm j tf=some t)
  facts:DrawFacts ops.toList (is.map AInst.bare) (fQ [] ops.toList)
  apart:iU tf (eU (is.map AInst.bare) (fQ [] ops.toList))
  fresh:∀m,σ (nm m)=none
  inj:∀i j,nm i=nm j->i=j
theorem kF{is:List AInst}{os:List Out}{j s:Nat}{e v}(h:(List.zipWith fq is os)[j]?=some e)(he:e s=some v):∃y o,is[j]?=some y/\os[j]?=some o/\y.dst=some s:=by
 rw[List.getElem?_zipWith] at h;split at h<;>simp at h
 rename_i y o h1 h2
 refine⟨y,o,h1,h2,?_⟩;subst h;simp only[fq] at he;split at he
 ·assumption
 ·simp at he
theorem dm{os:List Out}{j s:Nat}{e v}(h:(os.map aX)[j]?=some e)(he:e s=some v):∃o x,os[j]?=some o/\dv o.eff s=some x/\v=some x:=by
 rw[List.getElem?_map,Option.map_eq_some_iff] at h;obtain⟨o,h1,rfl⟩:=h;simp only[aX,Option.map_eq_some_iff] at he;obtain⟨x,h3,h4⟩:=he;exact⟨o,x,h1,h3,h4.symm⟩
section
variable {P : Program} {N : Nat} {ops : Array Oper} {is : List AInst} {os : List Out} {nm : Nat -> Nat} {env : bg} {σ : aA} {tf : List (Nat × TI)}
theorem Plan.eff(hp:Plan P N ops is os nm env σ tf){j:Nat}{i:AInst}{o:Out}{k x}(hi:is[j]?=some i)(ho:os[j]?=some o)(he:dv o.eff k=some x):
  (bD i.op=true/\cm j tf=some (.call o.eff)/\(k=nm j\/aO (λm=>decide (m<j)) (os.map aX) 0 σ k≠none))\/
  (bD i.op=false/\iw i.op=true/\eV i.op=true/\cm j tf=some (.mem k none)/\(k=nm j\/aO (λm=>decide (m<j)) (os.map aX) 0 σ k≠none)/\(d9 i.op.bare=true->k=nm j)):=by
 obtain⟨env',h1,h2,h3⟩:=hp.step j i o hi ho;rcases h2 with ⟨ha,_,hr⟩|⟨_,hn,_⟩
 ·cases hop:i.op
  case call f args=>
   rw[hop] at hr;obtain⟨g,first,caps,vs,_,_,h7⟩:=hr;refine .inl ⟨rfl,h3 ha _ (by simp[pf,hop]),?_⟩;rcases h7 with ⟨_,h7⟩|⟨y,h7,_⟩
   ·exact .inr (mm h7 _ (dY he))
   ·rw[h7] at he;have:=dY he
    simp only[List.mem_singleton,Prod.mk.injEq] at this;exact .inl this.1
  all_goals
   rw[hop] at hr;right
   obtain⟨hd,e0,q1,q2,q3⟩:=hr;rw[q1] at he;rcases q3 with ⟨rfl,_⟩|⟨hw,o',x',rfl,ht,hk⟩
   ·simp[dv] at he
   ·simp only[Option.toList_some,dv] at he;split at he
    ·rename_i hko
     subst hko;refine⟨rfl,hw,hd,h3 ha _ (by simp[pf,hop,q1]),hk,λhnew=>?_⟩;have:=mX (nm:=nm j) (env:=env') hnew hd hw
     rw[this] at ht;exact(Option.some.inj ht).symm
    ·simp at he
 ·rw[hn] at he;simp[dv] at he
theorem Plan.isGet(hp:Plan P N ops is os nm env σ tf){j:Nat}{o:Out}(h:os[j]?=some o):∃i,is[j]?=some i:=by
 have:j<is.length:=by rw[<-hp.len];exact(List.getElem?_eq_some_iff.1 h).1
 exact⟨_,List.getElem?_eq_getElem this⟩
theorem Plan.own_eff(hp:Plan P N ops is os nm env σ tf){i:Nat}:∀(j:Nat) {o:Out} {x},os[j]?=some o->dv o.eff (nm i)=some x->i<=j/\∃oi y,os[i]?=some oi/\dv oi.eff (nm i)=some y:=by
 intro j;induction j using Nat.strongRecOn with
 |_ j ih=>
  intro o x ho he;obtain⟨ij,hij⟩:=hp.isGet ho
  have later:aO (λm=>decide (m<j)) (os.map aX) 0 σ (nm i)≠none->i<=j/\∃oi y,os[i]?=some oi/\dv oi.eff (nm i)=some y:=by
   intro hk;refine Classical.byContradiction λhno=>hk ?_;rw[jY _ _ _ λj' e v hj' hev=>?_]
   ·exact hp.fresh i
   ·simp only[Nat.zero_add,decide_eq_false_iff_not];intro hjj;obtain⟨o',x',h1,h2,_⟩:=dm hj' hev;have:=ih j' hjj h1 h2
    exact hno ⟨by omega,this.2⟩
  rcases hp.eff hij ho he with ⟨_,_,hk⟩|⟨_,_,_,_,hk,_⟩
  all_goals
   rcases hk with hk|hk
   ·obtain rfl:=hp.inj _ _ hk
    exact⟨Nat.le_refl _,o,x,ho,he⟩
   ·exact later hk
theorem Plan.not_yet(hp:Plan P N ops is os nm env σ tf){i j:Nat}(h:j<=i):aO (λm=>decide (m<j)) (os.map aX) 0 σ (nm i)=none:=by
 rw[jY _ _ _ λj' e v hj' hev=>?_]
 ·exact hp.fresh i
 ·simp only[Nat.zero_add,decide_eq_false_iff_not];intro hjj;obtain⟨o',x',h1,h2,_⟩:=dm hj' hev;have:=(hp.own_eff j' h1 h2).1
  omega
structure Inv(K0:Gh)(S:Nat->Prop)(N:Nat)(ops:Array Oper)(is:List AInst)(os:List Out)(nm:Nat->Nat)(env:bg)(σ:aA)(D:Nat->Bool)(K:Gh)(a:Act)(w:World):Prop where
 le:K0.leS S K
 fr:∃env',lk env'=aO D (List.zipWith fq is os) 0 (lk env)/\Fr K N env' a
 sat:Sat K (aO D (os.map aX) 0 σ) w
 free:∀j,j<is.length->D j=false->K.own (nm j)=none
 closed:∀j,D j=true->∀o,ops[j]?=some o->∀e∈o.after,Region.binds .any e=true->D e.on=true
theorem BW{P:Program}{o:Oper}{a:Act}{w:World}{next:Act->World->Prop}{Q Q':Exit->Act->World->Prop}(hq:∀e a w,Q e a w->Q' e a w)(h:o.wp P a w next Q):o.wp P a w next Q':=by
 unfold Oper.wp at*;generalize (execOp a.eval o).run P w=r at*;cases r with
 |ok n w'=>
  cases n<;>simp only[Oper.upon] at h|- <;>
   first
    |exact h
    | exact Calls.mono h (λe w'' he => by
      cases e with
      |returned v=>exact he
      |panicked c=>exact hq _ _ _ he
      |outgrown=>obtain⟨a,w,h⟩:=he;exact⟨a,w,hq _ _ _ h⟩)
 |halt x w'=>cases x<;>simp only[Oper.upon] at h|- <;>exact hq _ _ _ h
theorem zq(hp:Plan P N ops is os nm env σ tf){K0:Gh}{S:Nat->Prop}(hS:Bnd S)(hSn:∀j,¬S (nm j)){D:Nat->Bool}{K:Gh}{a:Act}{w:World}(hinv:Inv K0 S N ops is os nm env σ D K a w)
  {i:Nat}(hi:i<is.length)(hD:D i=false)(hR:∀o,ops[i]?=some o->∀e∈o.after,Region.binds .any e=true->D e.on=true){Q:Exit->Act->World->Prop}{next:Act->World->Prop}
  (hnext:∀K' a' w',Inv K0 S N ops is os nm env σ (mj D i) K' a' w'->next a' w'):wpOp P ops Q i next a w:=by
 have hio:i<ops.size:=by rw[hp.lenO];exact hi
 have his:i<os.length:=by rw[hp.len];exact hi
 obtain⟨oo,hoo⟩:∃o,ops[i]?=some o:=⟨_,Array.getElem?_eq_getElem hio⟩;obtain⟨x,hx⟩:∃o,is[i]?=some o:=⟨_,List.getElem?_eq_getElem hi⟩;obtain⟨o,ho⟩:∃o,os[i]?=some o:=⟨_,List.getElem?_eq_getElem his⟩;have htr:=hp.get i oo x hoo hx;obtain⟨t1,t2,t3,t4,t5⟩:=ju htr;obtain⟨env1,hl1,hst,htl⟩:=hp.step i x o hx ho;obtain⟨envD,hlD,hf⟩:=hinv.fr;let R:Nat->Prop:=λj=>∀o,ops[j]?=some o->∀e∈o.after,Region.binds .any e=true->D e.on=true
 have hDR:∀j,D j=true->R j:=hinv.closed
 have hcl:∀j k,R j->((fQ [] ops.toList).getD j 0).testBit k=true->D k=true:=ph hDR ops.toList [] (by simp) (λm o hm hr=>by
  refine hr o ?_;simpa using hm)
 have hord:∀{j},cz (fQ [] ops.toList) i j=true->D j=decide (j<i):=fun{j} h=>vV hDR hcl hR hD h;have hbare:∀{j:Nat} {y},is[j]?=some y->(is.map AInst.bare)[j]?=some y.bare:=λh=>by simp[h]
 have huse:∀s∈jt x,lk envD s=lk env1 s:=λs hs=>by
  rw[hlD,hl1];refine cU _ 0 _ _ rfl λj e v hj hev=>?_;obtain⟨y,_,h1,_,h3⟩:=kF hj hev;simp only[Nat.zero_add];by_cases hji:j=i
  ·subst hji;simp[hD]
  ·exact hord (hp.facts.use i j _ _ s (hbare hx) (hbare h1) (Ne.symm hji) h3 (by rw[vU];exact hs))
 have hopen:∀{j:Nat} {oj:Out} {k:Nat} {xk:AObj} {rd},os[j]?=some oj->dv oj.eff k=some xk->j≠i->bD x.op=false->dI x.op=true->eV x.op=true->cm i tf=some (.mem k rd)->(d9 x.op.bare=true->k=nm i)->
   D j=decide (j<i)\/(i<j/\iT k rd oj.eff):=by
  intro j oj k xk rd h2 h3 hji hc hm hd hl hnw;obtain⟨y,h1⟩:=hp.isGet h2;cases hoc:cz (fQ [] ops.toList) i j
  case true=>exact .inl (hord hoc)
  have hcb:bD x.op.bare=false:=by rw[dQ];exact hc
  rcases hp.eff h1 h2 h3 with ⟨yc,ylk,ynn⟩|⟨yc,yw,yd,ylk,yk,_⟩
  ·have hym:dI y.op.bare=true:=by
    have:bD y.op.bare=true:=by rw[dQ];exact yc
    revert this;cases y.op.bare<;>simp[bD,dI,iw]
   rcases Nat.lt_or_ge i j with hlt|hge
   ·have:=dP hp.apart (dD (hbare hx) (hbare h1) hlt (fu hm hd) hym (by simp[AInst.bare,dQ,yc]) (by simp[AInst.bare,hcb]) hoc) hl ylk
    exact .inr ⟨hlt,this⟩
   ·exfalso
    cases hnew:d9 x.op.bare
    case true=>
     have hk:=hnw hnew;subst hk;rcases ynn with e|ynn
     ·exact hji (hp.inj _ _ e).symm
     ·exact ynn (hp.not_yet (by omega))
    have:=dP hp.apart (dD (hbare h1) (hbare hx) (by omega) hym (fu hm hd) (by simp[AInst.bare,dQ,yc]) (by simp[AInst.bare,hnew]) (by rw[iY hji];exact hoc)) ylk hl
    exact re this _ (dY h3) rfl
  ·exfalso
   have hycb:bD y.op.bare=false:=by rw[dQ];exact yc
   rcases Nat.lt_or_ge i j with hlt|hge
   ·exact dP hp.apart (dD (hbare hx) (hbare h1) hlt (fu hm hd) (fu (nK yw) yd) (by simp[AInst.bare,lh yw yd]) (by simp[AInst.bare,hcb]) hoc) hl ylk rfl
   ·exact dP hp.apart (dD (hbare h1) (hbare hx) (by omega) (fu (nK yw) yd) (fu hm hd) (by simp[AInst.bare,lh yw yd]) (by simp[AInst.bare,hycb]) (by rw[iY hji];exact hoc)) ylk hl rfl
 have hopenC:∀{j:Nat} {oj:Out} {k:Nat} {xk:AObj},os[j]?=some oj->dv oj.eff k=some xk->j≠i->bD x.op=true->cm i tf=some (.call o.eff)->D j=decide (j<i)\/(i<j/\k=nm j)\/(i,i)∈eU (is.map AInst.bare) (fQ [] ops.toList):=by
  intro j oj k xk h2 h3 hji hc hl;obtain⟨y,h1⟩:=hp.isGet h2;cases hoc:cz (fQ [] ops.toList) i j
  case true=>exact .inl (hord hoc)
  have hcb:bD x.op.bare=true:=by rw[dQ];exact hc
  have hxm:dI x.op.bare=true:=by revert hcb;cases x.op.bare<;>simp[bD,dI,iw]
  rcases hp.eff h1 h2 h3 with ⟨yc,ylk,ynn⟩|⟨yc,yw,yd,ylk,yk,ynew⟩
  ·exfalso
   have hycb:bD y.op.bare=true:=by rw[dQ];exact yc
   have hym:dI y.op.bare=true:=by revert hycb;cases y.op.bare<;>simp[bD,dI,iw]
   have nn:∀{a:AOp},bD a=true->d9 a=false:=fun{a} h=>by cases a<;>simp[bD] at h<;>rfl
   have e2:oj.eff=[]:=by
    rcases Nat.lt_or_ge i j with hlt|hge
    ·exact(dP hp.apart (dD (hbare hx) (hbare h1) hlt hxm hym (by simp[AInst.bare,hcb]) (by simp[AInst.bare,nn hycb]) hoc) hl ylk).2
    ·exact(dP hp.apart (dD (hbare h1) (hbare hx) (by omega) hym hxm (by simp[AInst.bare,hcb]) (by simp[AInst.bare,nn hcb]) (by rw[iY hji];exact hoc)) ylk hl).1
   rw[e2] at h3;simp[dv] at h3
  ·rcases hp.facts.call i j _ _ (hbare hx) (hbare h1) (Ne.symm hji) (by simp only[AInst.bare];exact hcb) (by simp only[AInst.bare];exact lh yw yd) with hn|h
   ·rcases Nat.lt_or_ge i j with hlt|hge
    ·exact .inr (.inl ⟨hlt,ynew hn⟩)
    ·exact .inr (.inr (qy (hbare hx) (hbare h1) (by omega) (by simp only[AInst.bare];exact hcb) (by simp only[AInst.bare];exact lh yw yd) hn hoc))
   ·rw[hoc] at h;simp at h
 have done:∀K' a' w',K.leS (λm=>S m\/∃j,j<is.length/\j≠i/\m=nm j) K'->Fr K' N (o.env x envD) a'->Sat K' (fm (aO D (os.map aX) 0 σ) o.eff) w'->next a' w':=by
  intro K' a' w' hle hf' hs';refine hnext K' _ w' ⟨hinv.le.trans (hle.weak λm hm=> .inl hm),⟨_,?_,hf'⟩,?_,?_,?_⟩
  ·rw[vS,hlD];refine(tU (e:=fq x o) ?_ hD ?_).symm
   ·simp[List.getElem?_zipWith,hx,ho]
   ·intro j s e' u v hij hDj he hj hu;obtain⟨y,_,h1,_,h3⟩:=kF hj hu
    have hxd:x.dst=some s:=by
     simp only[fq] at he;split at he
     ·assumption
     ·simp at he
    exact hp.facts.dst i j _ _ s (hbare hx) (hbare h1) (by omega) hxd h3
  ·rw[sn] at hs';rw[tU (e:=aX o) (by simp[ho]) hD]
   ·exact hs'
   ·intro j s e' u v hij hDj he hj hu;obtain⟨oj,xj,h1,h2,_⟩:=dm hj hu
    obtain⟨x',he'⟩:∃x',dv o.eff s=some x':=by
     simp only[aX,Option.map_eq_some_iff] at he;obtain⟨x',h,_⟩:=he;exact⟨x',h⟩
    have hne:¬D j=decide (j<i):=by rw[hDj];simp;omega
    rcases hp.eff hx ho he' with ⟨xc,xlk,xnn⟩|⟨xc,xw,xd,xlk,xk,xnew⟩
    ·rcases hopenC h1 h2 (by omega) xc xlk with h|⟨_,rfl⟩|h
     ·exact hne h
     ·rcases xnn with e|xnn
      ·have:=hp.inj _ _ e;omega
      ·exact xnn (hp.not_yet (by omega))
     ·have e0:o.eff=[]:=(dP hp.apart h xlk xlk).1;rw[e0] at he';simp[dv] at he'
    ·rcases hopen h1 h2 (by omega) xc (nK xw) xd xlk xnew with h|⟨_,h⟩
     ·exact hne h
     ·obtain⟨_,_,_,_,h4,_⟩:=gB h _ (dY h2);simp at h4
  ·intro j hj hDj;simp only[mj,Bool.or_eq_false_iff,decide_eq_false_iff_not] at hDj;exact hle.free _ (.inr ⟨j,hj,hDj.2,rfl⟩) (hinv.free j hj hDj.1)
  ·intro j hj o' ho' e he hb;simp only[mj,Bool.or_eq_true,decide_eq_true_eq] at hj|-;rcases hj with hj|rfl
   ·exact .inl (hinv.closed j hj o' ho' e he hb)
   ·exact .inl (hR o' ho' e he hb)
 have hS':Bnd (λm=>S m\/∃j,j<is.length/\j≠i/\m=nm j):=by
  obtain⟨n,hn⟩:=hS
  have:∀l,∃n',∀j,j<l->nm j<n':=by
   intro l;induction l with
   |zero=>exact⟨0,by simp⟩
   |succ l ih=>
    obtain⟨n',h⟩:=ih;refine⟨max n' (nm l+1),λj hj=>?_⟩;rcases Nat.lt_or_ge j l with h'|h'
    ·have:=h j h';omega
    ·have:j=l:=by omega
     subst this;omega
  obtain⟨n',hn'⟩:=this is.length;refine⟨max n n',λm hm=>?_⟩;rintro(h|⟨j,h1,_,rfl⟩)
  ·exact hn m (by omega) h
  ·have:=hn' j h1;omega
 unfold wpOp;simp only[hoo];rcases hst with ⟨ha,hg,hrun⟩|⟨ha,hne,s,b,hg,hgd⟩
 ·have hwant:Region.wanted oo (yielded ops a.tmps)=true:=by
   rcases t5 with ⟨g1,g2⟩|⟨j,b,s,g1,g2,g3⟩
   ·simp[Region.wanted,g1]
   ·rcases hg with hg|⟨s',b',hg,hl⟩
    ·have:x.bare.guard=none:=hg
     rw[this] at g2;simp at g2
    ·have:x.bare.guard=some (s',b'):=hg
     rw[this] at g2;simp at g2;obtain⟨rfl,rfl⟩:=g2;rw[iW hf g1 g3 (p:=b')]
     ·simp
     ·rw[huse s' (by simp[jt,hg])];exact hl
  rw[if_pos hwant];left
  have huo:∀s∈bp x.op,lk envD s=lk env1 s:=λs hs=>huse s (by simp[jt,hs])
  have fin:∀K' v w',K.leS (λm=>S m\/∃j,j<is.length/\j≠i/\m=nm j) K'->Rel K' o.val v->Sat K' (fm (aO D (os.map aX) 0 σ) o.eff) w'->next (a.put oo.dst v) w':=by
   intro K' v w' h1 h2 h3;refine done K' _ w' h1 ?_ h3;have e2:oo.dst=x.dst:=t2;simp only[Out.env,ha,if_true];rw[e2];exact(hf.mono h1.le).putA (λy hy=>t3 y (by rw[e2];exact hy)) h2
  cases hcall:bD x.op
  case true=>
   obtain⟨f,args,hop⟩:∃f args,x.op= .call f args:=by
    revert hcall;cases x.op<;>simp[bD]
   rw[hop] at hrun;obtain⟨g,first,caps,vs,f1,f2,hc⟩:=hrun;have hlk:cm i tf=some (.call o.eff):=htl ha _ (by simp[pf,hop])
   have hsub:Sub (eG i (aO (λm=>decide (m<i)) (os.map aX) 0 σ) (eU (is.map AInst.bare) (fQ [] ops.toList))) (aO D (os.map aX) 0 σ):=by
    rcases baseS_cases i (aO (λm=>decide (m<i)) (os.map aX) 0 σ) (eU (is.map AInst.bare) (fQ [] ops.toList)) with ⟨eb,hnot⟩|eb
    case inr=>rw[eb];intro s y hs;simp at hs
    rw[eb];intro s y hs;rw[<-hs];refine cU _ 0 _ _ rfl λj e v hj hev=>?_;simp only[Nat.zero_add];obtain⟨oj,xj,h1,h2,_⟩:=dm hj hev;by_cases hji:j=i
    ·subst hji;simp[hD]
    ·rcases hopenC h1 h2 hji hcall hlk with h|⟨hlt,rfl⟩|h
     ·exact h
     ·rw[hp.not_yet (by omega)] at hs;simp at hs
     ·exact absurd h hnot
   have q1:aval envD f=some (.fn g first caps):=by
    rw[<-f1];exact aF λs hs=>huo s (by rw[hop];simp[bp,hs])
   have q2:cK envD args=some vs:=by
    rw[<-f2];exact dh λs hs=>huo s (by rw[hop];simp only[bp,List.mem_append];exact .inr hs)
   have hnS:¬(λm=>S m\/∃j,j<is.length/\j≠i/\m=nm j) (nm i):=by
    rintro(h|⟨j,_,hji,e⟩)
    ·exact hSn i h
    ·exact hji (hp.inj _ _ e).symm
   have hcw:ct P g=true/\∀vals:Array Value,RelL K (first++vs++caps) vals.toList->Calls P g vals w λe w'=>∃K' r σ',K.leS (λm=>S m\/∃j,j<is.length/\j≠i/\m=nm j) K'/\Sat K' σ' w'/\EndRel K' e r/\
     zj (λv σ'=>putA x.dst v envD=o.env x envD/\σ'=fm (aO D (os.map aX) 0 σ) o.eff) (λ_ _=>False) r σ':=by
    rcases hc with ⟨hc,_⟩|⟨y,hy,hc⟩
    ·refine⟨(hc _ hsub).1,λvals hargs=>((hc _ hsub).2 _ K w vals hS' hargs hinv.sat).mono λe w' he=>?_⟩;obtain⟨K',r,σ',b1,b2,b3,rfl,rfl⟩:=he;exact⟨K',_,_,b1,b2,b3,by simp[Out.env,ha],rfl⟩
    ·have hfr:=hinv.free i hi hD;have hN:=hc _ hsub (hinv.sat.fresh hfr);refine⟨hN.1,λvals hargs=>(hN.2 _ K w vals hS' hnS hfr hargs hinv.sat).mono λe w' he=>?_⟩;obtain⟨K',r,σ',b1,b2,b3,rfl,rfl⟩:=he;exact⟨K',_,_,b1,b2,b3,by simp[Out.env,ha],by rw[hy];rfl⟩
   refine BW (Q:=LiftQ N (λm=>S m\/∃j,j<is.length/\j≠i/\m=nm j) K (λ_ _ _=>False)) (λe a w h=>by obtain⟨_,_,_,_,_,_,_,_,h⟩:=h;exact h.elim) ?_
   refine xU (P:=P) (N:=N) (Q:=λ_ _ _=>False) (o:=oo) (i:=x) (env:=envD) (K0:=K) (K:=K) (a:=a) (w:=w) (λenv1 σ1=>env1=o.env x envD/\σ1=fm (aO D (os.map aX) 0 σ) o.eff) next
    (Gh.leS.refl K) t1 t2 t3 (λK1 env1 σ1 a1 w1 q1 q2 q3 q4=>?_) hop q1 q2 hcw.1 hcw.2 hf
   obtain⟨rfl,rfl⟩:=q2;exact done K1 a1 w1 q1 q3 q4
  case false=>
   obtain⟨hdr,e0,heff0,hex,heff⟩:eV x.op=true/\∃e0,o.eff=e0.toList/\aJ (nm i) env1 (aO (λm=>decide (m<i)) (os.map aX) 0 σ) (λa e'=>a=o.val/\e'=e0) x.op/\mV (nm i) (aO (λm=>decide (m<i)) (os.map aX) 0 σ) (du (nm i) env1 x.op) (iw x.op) e0:=by
    revert hrun hcall
    cases x.op<;>simp only[bD,Il]<;>first|exact λh _=>h|(intro h;simp)
   have hagree:∀(t:Nat) rd,cm i tf=some (.mem t rd)->(d9 x.op.bare=true->t=nm i)->dI x.op=true->(∀j oj,os[j]?=some oj->(∃y,dv oj.eff t=some y)->i<j->D j=true->iT t rd oj.eff->False)->
     aO D (os.map aX) 0 σ t=aO (λm=>decide (m<i)) (os.map aX) 0 σ t:=by
    intro t rd hl hnw hm hno;refine cU _ 0 _ _ rfl λj e v hj hev=>?_;simp only[Nat.zero_add];obtain⟨oj,xj,h1,h2,_⟩:=dm hj hev;by_cases hji:j=i
    ·subst hji;simp[hD]
    rcases hopen h1 h2 hji hcall hm hdr hl hnw with h|⟨hlt,h⟩
    ·exact h
    ·cases hDj:D j with
     |false=>simp;omega
     |true=>exact(hno j oj h1 ⟨xj,h2⟩ hlt hDj h).elim
   have hex':aJ (nm i) envD (aO D (os.map aX) 0 σ) (λa e'=>a=o.val/\e'=e0) x.op:=by
    rcases heff with ⟨hn,hnw⟩|⟨hw,o',x',he,hto,_⟩
    ·cases hw:iw x.op
     ·-- it writes nothing
      by_cases hld:∃g n y ob off cs,x.op= .load g n y/\aval env1 y=some (.ptr ob off)/\aO (λm=>decide (m<i)) (os.map aX) 0 σ ob=some (.cells cs)
      ·obtain⟨g,n,y,ob,off,cs,hop,hy,hcs⟩:=hld;have hlk:cm i tf=some (.mem ob (some (off,n,(cs.drop off).take n))):=htl ha _ (by simp[pf,hop,heff0,hn,ky,hy,hcs])
       have hcells:∃cs',aO D (os.map aX) 0 σ ob=some (.cells cs')/\off+n<=cs'.length/\(cs'.drop off).take n=(cs.drop off).take n:=by
        have h0:off+n<=cs.length:=by
         rw[hop] at hex;simp only[aJ,bt,hy,bh,hcs] at hex;exact hex.1
        rcases runL_or (D:=D) (L:=os.map aX) (s:=ob) (i:=i) (f:=σ) (λj e v hj hev hji=>by
          obtain⟨oj,xj,h1,h2,_⟩:=dm hj hev;rcases hopen h1 h2 (by omega) hcall (by rw[hop];rfl) hdr hlk (by rw[hop];simp[AOp.bare,d9]) with h|⟨h,_⟩
          ·rw[h];simp[hji]
          ·omega) with h|⟨j,e,v,hj,hev,hDj,hij,h⟩
        ·exact⟨cs,by rw[h];exact hcs,h0,rfl⟩
        ·obtain⟨oj,xj,h1,h2,rfl⟩:=dm hj hev;have hji:j≠i:=λe=>by subst e;rw[hD] at hDj;simp at hDj
         rcases hopen h1 h2 hji hcall (by rw[hop];rfl) hdr hlk (by rw[hop];simp[AOp.bare,d9]) with h'|⟨_,h'⟩
         ·rw[hDj] at h';simp at h';omega
         ·obtain⟨off',n',vs',cs',q1,rfl,q3,q4⟩:=gB h' _ (dY h2);simp only[Option.some.injEq,Prod.mk.injEq] at q1;obtain⟨rfl,rfl,rfl⟩:=q1;exact⟨cs',h,q3,q4⟩
       obtain⟨cs',k1,k2,k3⟩:=hcells;have hyD:aval envD y=some (.ptr ob off):=by rw[<-hy];exact aF λs hs=>huo s (by rw[hop];exact hs)
       rw[hop] at hex|-;simp only[aJ,bt,hy,bh,hcs] at hex;simp only[aJ,bt,hyD,bh,k1];refine⟨k2,?_⟩;rw[k3];exact hex.2
      ·refine jv (env':=envD) (λz e=>by rw[e] at hdr;exact hdr) (σ':=aO D (os.map aX) 0 σ) huo (λt ht=>?_) hex
       have hm:dI x.op=true:=by
        revert ht hw;cases x.op with
        |ext z=>cases z<;>simp[du,cS,dI,iw]
        |_=>simp[du,dI,iw]
       have htn:pf env1 (aO (λm=>decide (m<i)) (os.map aX) 0 σ) x o=some (.mem t none):=by
        have hcall':=hcall;revert ht hm hw hld hcall'
        unfold pf;rw[heff0,hn];cases x.op with
        |load g n y=>
         intro _ hld ht _ _;simp only[du] at ht;simp only[Option.toList_none,ky];split at ht
         ·rename_i ob off hy
          simp at ht;subst ht
          rw[hy];simp only[];split
          ·rename_i cs hcs
           exact(hld ⟨g,n,y,ob,off,cs,rfl,hy,hcs⟩).elim
          ·rfl
         ·rename_i ob off' off hy
          simp at ht;subst ht
          rw[hy]
         ·simp at ht
        |ext z=>
         intro hw _ ht _ _;cases z<;>simp only[du,cS,o9] at ht<;>first|(simp[iw] at hw;done)|skip
         ·split at ht
          ·rename_i ob hy
           simp at ht;subst ht
           simp[ky,hy]
          ·simp at ht
         all_goals simp at ht
        |call f l=>intro _ _ _ _ h;simp[bD] at h
        |_=>intro hw _ ht hm;first|(simp[dI,iw] at hm;done)|(simp[iw] at hw;done)
       refine hagree t none (htl ha _ htn) (λhnew=>(vT hnew hm hw).elim) hm λj oj h1 h2 _ _ h4=>?_
       ·obtain⟨y,hy⟩:=h2;obtain⟨_,_,_,_,q,_⟩:=gB h4 _ (dY hy);simp at q
     ·-- it might write,and does not
      refine jv (env':=envD) (λz e=>by rw[e] at hdr;exact hdr) (σ':=aO D (os.map aX) 0 σ) huo (λt ht=>?_) hex;rcases hnw hw with h|h
      ·rw[h] at ht;simp at ht
      ·rw[h] at ht;simp at ht;subst ht;refine cU _ 0 _ _ rfl λj e v hj hev=>?_;obtain⟨oj,xj,h1,h2,_⟩:=dm hj hev;obtain⟨_,oi,y,k1,k2⟩:=hp.own_eff (i:=i) j h1 h2;rw[ho] at k1;cases k1;rw[heff0,hn] at k2;simp[dv] at k2
    ·refine jv (env':=envD) (λz e=>by rw[e] at hdr;exact hdr) (σ':=aO D (os.map aX) 0 σ) huo (λt ht=>?_) hex;rw[hto] at ht;simp at ht;subst ht
     have hlk:cm i tf=some (.mem o' none):=by
      refine htl ha _ ?_;unfold pf;rw[heff0,he];revert hcall
      cases x.op<;>simp[bD]
     refine hagree o' none hlk (λhnew=>?_) (nK hw) λj oj h1 h2 _ _ h4=>?_
     ·have:=mX (nm:=nm i) (env:=env1) hnew hdr hw
      rw[this] at hto;exact(Option.some.inj hto).symm
     ·obtain⟨y,hy⟩:=h2;obtain⟨_,_,_,_,q,_⟩:=gB h4 _ (dY hy);simp at q
   obtain⟨K',av,ef,v,w',h1,h2,h3,h4,h5,h6⟩:=qY (N:=N) (o:=oo) t1 (a':=x.op) rfl t4 hex' (λm=>S m\/∃j,j<is.length/\j≠i/\m=nm j) K a w hf hinv.sat (hinv.free i hi hD) (by
    rintro(h|⟨j,_,hji,e⟩)
    ·exact hSn i h
    ·exact hji (hp.inj _ _ e).symm)
   subst h5 h6;rw[kD,<-heff0] at h4;unfold Oper.wp;rcases h1 with h1|⟨h1,hd⟩
   ·rw[h1];exact fin K' v w' h2 h3 h4
   ·rw[h1];show next (a.put oo.dst undef) w'
    rw[hd];have:=fin K' v w' h2 h3 h4
    rw[hd] at this;exact this
 ·have hwant:Region.wanted oo (yielded ops a.tmps)=false:=by
   rcases t5 with ⟨g1,g2⟩|⟨j,b',s',g1,g2,g3⟩
   ·have:x.bare.guard=some (s,b):=hg
    rw[this] at g2;simp at g2
   ·have:x.bare.guard=some (s,b):=hg
    rw[this] at g2;simp at g2;obtain⟨rfl,rfl⟩:=g2;rcases hgd with ⟨p,hp',hpb⟩|⟨vs,hp'⟩
    ·rw[iW hf g1 g3 (p:=p)]
     ·simpa using hpb
     ·rw[huse s (by simp[jt,hg])];exact hp'
    ·exact mT hf g1 g3 (vs:=vs) (by rw[huse s (by simp[jt,hg])];exact hp')
  rw[hwant];simp only[Bool.false_eq_true,if_false];refine done K _ w (Gh.leS.refl K) ?_ (by rw[hne];exact hinv.sat);have e2:oo.dst=x.dst:=t2;simp only[Out.env,ha,Bool.false_eq_true,if_false];rw[e2];exact hf.skipA (λy hy=>t3 y (by rw[e2];exact hy))
theorem vW{l:List Nat}{p q:Nat->Bool}{i:Nat}(hl:l.Nodup)(hi:i∈l)(hp:p i=true)(hq:q i=false)(he:∀j,j≠i->q j=p j):l.countP q+1=l.countP p:=by
 induction l with
 |nil=>simp at hi
 |cons x l ih=>
  rw[List.nodup_cons] at hl;rcases List.mem_cons.1 hi with rfl|hi
  ·have:l.countP q=l.countP p:=List.countP_congr λj hj=>by
    rw[he j (λe=>hl.1 (e▸hj))]
   simp[List.countP_cons,hp,hq,this]
  ·have hx:x≠i:=λe=>hl.1 (e▸hi);have:=ih hl.2 hi
   simp only[List.countP_cons,he x hx];omega
theorem BX(hp:Plan P N ops is os nm env σ tf){K0:Gh}{S:Nat->Prop}(hS:Bnd S)(hSn:∀j,¬S (nm j)){Q:AExit->bg->aA->Prop}{envF:bg}
  (hlF:lk envF=aO (λ_=>true) (List.zipWith fq is os) 0 (lk env))(hQ:Q .normal envF (aO (λ_=>true) (os.map aX) 0 σ)):∀(fuel:Nat) (listed:Array Bool) (K:Gh) (a:Act) (w:World),
  listed.size=ops.size->Inv K0 S N ops is os nm env σ (λj=>listed.getD j false) K a w->(List.range ops.size).countP (λj=> !listed.getD j false)<=fuel->
  wpAny P .any ops (LiftQ N S K0 Q) fuel listed a w:=by
 have fin:∀(listed:Array Bool) (K:Gh) (a:Act) (w:World),Inv K0 S N ops is os nm env σ (λj=>listed.getD j false) K a w->(∀j,j<ops.size->listed.getD j false=true)->LiftQ N S K0 Q .normal a w:=by
  intro listed K a w hinv hall;obtain⟨env',h1,h2⟩:=hinv.fr
  have e1:aO (λj=>listed.getD j false) (List.zipWith fq is os) 0 (lk env)=aO (λ_=>true) (List.zipWith fq is os) 0 (lk env):=by
   funext s
   refine cU _ 0 _ _ rfl λj e v hj hev=>?_;obtain⟨y,_,h3,_⟩:=kF hj hev;simp only[Nat.zero_add];exact hall j (by rw[hp.lenO];exact(List.getElem?_eq_some_iff.1 h3).1)
  have e2:aO (λj=>listed.getD j false) (os.map aX) 0 σ=aO (λ_=>true) (os.map aX) 0 σ:=by
   funext s
   refine cU _ 0 _ _ rfl λj e v hj hev=>?_;obtain⟨y,_,h3,_⟩:=dm hj hev;simp only[Nat.zero_add];exact hall j (by rw[hp.lenO,<-hp.len];exact(List.getElem?_eq_some_iff.1 h3).1)
  refine⟨.normal,K,envF,_,hinv.le,trivial,h2.weak ?_,e2▸hinv.sat,hQ⟩;intro i v hv;rw[h1,e1,<-hlF];exact hv
 have empty:∀(listed:Array Bool),listed.size=ops.size->Region.ready .any ops listed=[]->∀j,j<ops.size->listed.getD j false=true:=by
  intro listed hsz hr j;induction j using Nat.strongRecOn with
  |_ j ih=>
   intro hj;cases hd:listed.getD j false
   case true=>rfl
   exfalso
   have:j∈Region.ready .any ops listed:=by
    rw[mem_ready];refine⟨?_,_,Array.getElem?_eq_getElem hj,λe he hb=>?_⟩
    ·have hj':j<listed.size:=by omega
     simp[hj'] at hd|-;exact hd
    ·have:=hp.facts.back j _ (by rw[Array.getElem?_toList];exact Array.getElem?_eq_getElem hj) e he hb
     exact ih e.on this (by omega)
   rw[hr] at this;simp at this
 intro fuel;induction fuel with
 |zero=>
  intro listed K a w hsz hinv hc
  have hall:∀j,j<ops.size->listed.getD j false=true:=by
   intro j hj;have:=List.countP_eq_zero.1 (Nat.le_zero.1 hc) j (List.mem_range.2 hj)
   simpa using this
  refine⟨?_,fin listed K a w hinv hall⟩;rw[List.eq_nil_iff_forall_not_mem];intro j hj;rw[mem_ready] at hj;obtain⟨h0,o,ho,_⟩:=hj;have hlt:j<ops.size:=(Array.getElem?_eq_some_iff.1 ho).1;have:=hall j hlt
  have hj':j<listed.size:=by omega
  simp[hj'] at h0 this
  rw[h0] at this;simp at this
 |succ fuel ih=>
  intro listed K a w hsz hinv hc;refine⟨λhr=>fin listed K a w hinv (empty listed hsz hr),λi hi=>?_⟩;rw[mem_ready] at hi;obtain⟨h0,o,ho,hb⟩:=hi;have hlt:i<ops.size:=(Array.getElem?_eq_some_iff.1 ho).1;have hil:i<listed.size:=by omega
  have hD:listed.getD i false=false:=by simp[hil] at h0|-;exact h0
  have hset:∀j,(listed.setIfInBounds i true).getD j false=mj (λj=>listed.getD j false) i j:=by
   intro j;by_cases hji:j=i
   ·subst hji;simp[mj,hil]
   ·rw[getD_set_ne false (Ne.symm hji)];simp[mj,hji]
  refine zq hp hS hSn hinv (by rw[<-hp.lenO];exact hlt) hD (λo' ho' e he hbe=>?_) λK' a' w' hinv'=>?_
  ·rw[ho] at ho';cases ho';exact hb e he hbe
  ·refine ih _ K' a' w' (by simp[hsz]) ?_ ?_
   ·have:(λj=>(listed.setIfInBounds i true).getD j false)=mj (λj=>listed.getD j false) i:=funext hset
    rw[this];exact hinv'
   ·have:=vW (p:=λj=> !listed.getD j false) (q:=λj=> !(listed.setIfInBounds i true).getD j false) (i:=i) List.nodup_range (List.mem_range.2 hlt) (by simp only[hD];rfl) (by simp only[hset];simp[mj]) (λj hj=>by simp only[hset];simp[mj,hj])
    omega
end
theorem Sat.drawn{K σ w n}(h:Sat K σ w):Sat K σ {w with drawn:=n}:=
 {os:=h.os,tape:=h.tape,output:=h.output,size:=h.size,old:=h.old,free:=h.free,claim:=h.claim,one:=h.one,live:=λo x hx=>h.live o x hx,apart:=h.apart,room:=h.room}
theorem Fg{P:Program}{N:Nat}{id:Nat}{ops:Array Oper}{is:List AInst}{env:bg}{σ:aA}{Q:AExit->bg->aA->Prop}(hm:P.follows .mixedOrders=true)
  (htr:bZ P N ops ops.toList=some (is.map AInst.bare))(hok:sj ops.toList (is.map AInst.bare) (fQ [] ops.toList)=true)
  (h:dO P (eU (is.map AInst.bare) (fQ [] ops.toList)) (λenv σ=>Q .normal env σ) is 0 [] env σ):AWP P N (.region id ops true) Q env σ:=by
 intro S K a w hS hf hs;obtain⟨n,hn⟩:=hs.room;obtain⟨m,hm'⟩:=hS;have hfr:∀j,K.own (max n m+j)=none:=λj=>hn _ (by omega);have hσ:∀j,σ (max n m+j)=none:=λj=>hs.fresh (hfr j);obtain⟨os,tf,envF,q1,q2,q3,q4,q5,q6⟩:=mW (nm:=λj=>max n m+j) (λi j h=>by omega) is 0 [] env σ (λj _=>hσ j) h;obtain⟨t1,t2⟩:=mY htr
 have hp:Plan P N ops is os (λj=>max n m+j) env σ tf:=by
  refine⟨q1,by simpa using t1,λj o i ho hi=>t2 j o i.bare (by simpa using ho) (by simp[hi]),λj i o hi ho=>?_,sq hok,q4,hσ,λi j h=>by omega⟩;have:=q2 j i o hi ho
  simpa only[Nat.zero_add] using this
 refine wp_region_any hm ?_;refine BX hp ⟨m,hm'⟩ (λj=>hm' _ (by omega)) q5 q6 _ _ K a _ (by simp) ?_ ?_
 ·have e:(λj=>(Array.replicate ops.size false).getD j false)=λ_=>false:=by
   funext j
   simp only[Array.getD_eq_getD_getElem?,Array.getElem?_replicate];split<;>rfl
  rw[e];refine⟨Gh.leS.refl K,⟨env,?_,hf⟩,?_,λj _ _=>hfr j,λj hj=>by simp at hj⟩
  ·exact(kC _ _ _).symm
  ·have:aO (λ_=>false) (os.map aX) 0 σ=σ:=kC _ _ _
   rw[this];exact hs.drawn
 ·exact Nat.le_trans List.countP_le_length (by simp)
end Abs
