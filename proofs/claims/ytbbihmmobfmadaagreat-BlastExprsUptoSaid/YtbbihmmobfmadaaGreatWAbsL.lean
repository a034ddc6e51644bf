/- The abstraction layer, part L: from a statement's arguments to abstract values, and back from an abstract contract to the statement. Over any program. -/
import Derived.Attr
import GoSem.ClaimChange
import Derived.OpenShut
import Derived.ChangeSame
import Derived.WideKeyArgs
import Derived.Below
import Derived.ProofKit
import Derived.RowKit
import Derived.Test.YtbbihmmobfmadaaGreatWAbsO
set_option linter.unusedSimpArgs false
set_option linter.unusedVariables false
namespace Abs
open Go
theorem BY{P:Program}{Q:Exit->Act->World->Prop}{c:Code}{a:Act}{w:World}(I:Nat->Act->World->Prop)(n0:Nat)(h₀:I n0 a w)
  (round:∀n a w,I n a w->c.wp P (Exit.then (λa' w'=>∃m,m<n/\I m a' w') Q) a w):(Code.loop c).wp P Q a w:=by
 intro b k cs
 have key:∀n a w,I n a w->∃e a' w',Q e a' w'/\Arrives P (lone (b.at a (.code c:: .inLoop c::k)) cs w) b k cs e a' w':=by
  intro n;induction n using Nat.strongRecOn with
  |_ n ih=>
   intro a w hI;obtain⟨e,a₁,w₁,hq,harr⟩:=round n a w hI b (.inLoop c::k) cs;cases e with
   |normal=>
    obtain⟨m,hlt,hI₁⟩:=hq;obtain⟨e₂,a₂,w₂,hq₂,harr₂⟩:=ih m hlt a₁ w₁ hI₁;exact⟨e₂,a₂,w₂,hq₂, .of_steps (Steps.trans harr (.one step_inLoop)) harr₂⟩
   |exit id=>exact⟨_,a₁,w₁,hq, .pass (x:= .inLoop c) rfl (λ_ _=> .inl (by simp)) harr⟩
   |goto l=>exact⟨_,a₁,w₁,hq, .pass (x:= .inLoop c) rfl (λ_ _=> .inl (by simp)) harr⟩
   |ret=>exact⟨_,a₁,w₁,hq, .pass (x:= .inLoop c) rfl (λ_ _=> .inl (by simp)) harr⟩
   |panic ch=>exact⟨_,a₁,w₁,hq, .pass (x:= .inLoop c) rfl (λ_ _=> .inl (by simp)) harr⟩
   |outgrown=>exact⟨_,a₁,w₁,hq, .pass (x:= .inLoop c) rfl (λ_ _=> .inl (by simp)) harr⟩
 obtain⟨e,a',w',hq,harr⟩:=key n0 a w h₀;exact⟨e,a',w',hq, .of_steps (.one step_loop) harr⟩
theorem rg{N S K Q k e a w}(h:LiftQ N S K (js k Q) e a w):Exit.then (λa w=>∃K' env σ,K.leS S K'/\Fr K' N env a/\Sat K' σ w/\k env σ) (LiftQ N S K Q) e a w:=by
 obtain⟨ae,K',env,σ,h1,h2,h3,h4,h5⟩:=h;cases e<;>cases ae<;>first|exact h2.elim|skip
 ·exact⟨K',env,σ,h1,h3,h4,h5⟩
 ·exact⟨_,K',env,σ,h1,h2,h3,h4,h5⟩
 ·exact⟨_,K',env,σ,h1,h2,h3,h4,h5⟩
 ·exact⟨_,K',env,σ,h1,h2,h3,h4,h5⟩
theorem vX{N S K Q id e a w}(h:LiftQ N S K (gA id Q) e a w):Exit.inBlock id (LiftQ N S K Q) e a w:=by
 obtain⟨ae,K',env,σ,h1,h2,h3,h4,h5⟩:=h;cases e<;>cases ae<;>first|exact h2.elim|skip
 ·exact⟨_,K',env,σ,h1,h2,h3,h4,h5⟩
 ·rename_i i j
  have:i=j:=h2
  subst this;simp only[Exit.inBlock,gA] at h5|-;by_cases hi:i=id
  ·simp only[hi,if_true] at h5|-;exact⟨.normal,K',env,σ,h1,trivial,h3,h4,h5⟩
  ·simp only[hi,if_false] at h5|-;exact⟨.exit i,K',env,σ,h1,rfl,h3,h4,h5⟩
 ·exact⟨_,K',env,σ,h1,h2,h3,h4,h5⟩
 ·exact⟨_,K',env,σ,h1,h2,h3,h4,h5⟩
theorem xW{P N a b Q env σ}{x y:Code}(h:AWP P N x (js (λenv σ=>AWP P N y Q env σ) Q) env σ)(ha:a=x)(hb:b=y):AWP P N (.seq a b) Q env σ:=by
 subst ha;subst hb;intro S K a w hS hf hs;refine wp_seq (wp_mono (h S K a w hS hf hs) λe a w hq=>?_);have:=rg hq
 cases e<;>first|exact this|skip
 obtain⟨K',env',σ',h1,h2,h3,h4⟩:=this;exact wp_mono (h4 S K' _ _ hS h2 h3) λe a w hq=>hq.mono h1
theorem LiftQ.up{N S K Q Q' e a w}(h:LiftQ N S K Q e a w)(hq:∀e env σ,Q e env σ->Q' e env σ):LiftQ N S K Q' e a w:=
 let ⟨ae,K',env,σ,h1,h2,h3,h4,h5⟩:=h;⟨ae,K',env,σ,h1,h2,h3,h4,hq _ _ _ h5⟩
theorem AWP.up{P N c Q Q' env σ}(h:AWP P N c Q env σ)(hq:∀e env σ,Q e env σ->Q' e env σ):AWP P N c Q' env σ:=
 λS K a w hS hf hs=>wp_mono (h S K a w hS hf hs) λ_ _ _ h=>h.up hq
theorem BZ{P:Program}{N:Nat}(hm:P.follows .mixedOrders=true):∀(c:Code) (ac:ACode) (Q:AExit->bg->aA->Prop) (env:bg) (σ:aA),tr P N c=some ac.bare->ex P ac Q env σ->AWP P N c Q env σ:=by
 intro c;induction c with
 |skip=>
  intro ac Q env σ ht h;simp only[tr] at ht;cases ac<;>simp[ACode.bare] at ht
  intro S K a w hS hf hs;exact wp_skip ⟨.normal,K,env,σ,Gh.leS.refl K,trivial,hf,hs,h⟩
 |region id ops draw=>
  intro ac Q env σ ht h;simp only[tr] at ht;split at ht
  case h_2=>simp at ht
  rename_i l hl
  cases draw with
  |true=>
   simp at ht
   obtain⟨hok,ht⟩:=ht;cases ac<;>simp[ACode.bare] at ht
   rename_i is ps
   obtain⟨rfl,rfl⟩:=ht;exact Fg hm hl hok h
  |false=>
   simp only[Bool.false_eq_true,if_false,Option.some.injEq] at ht;cases ac<;>simp[ACode.bare] at ht
   rename_i is
   intro S K a w hS hf hs;refine wp_region ?_;rw[List.range_eq_range',<-Array.length_toList];exact o7 hS (K0:=K) is 0 ops.toList (by simp) (by rw[hl,ht]) env σ K a w (Gh.leS.refl K) h hf hs
 |seq x y ihx ihy=>
  intro ac Q env σ ht h;simp only[tr] at ht;split at ht<;>simp at ht
  rename_i a b h1 h2
  cases ac<;>simp[ACode.bare] at ht
  case seq a' b'=>
   obtain⟨rfl,rfl⟩:=ht;refine xW (AWP.up (ihx a' _ env σ h1 h) λe env σ hq=>?_) rfl rfl;cases e<;>first|exact hq|skip
   exact ihy b' Q env σ h2 hq
  case cut a' b'=>
   obtain⟨rfl,rfl⟩:=ht;obtain⟨I,h3,h4⟩:=h;refine xW (AWP.up (ihx a' _ env σ h1 h3) λe env σ hq=>?_) rfl rfl;cases e<;>first|exact hq|skip
   obtain⟨env0,σ0,q1,q2⟩:=hq;intro S K a w hS hf hs;obtain⟨K',k1,k2,k3⟩:=hf.view q2 hS hs;exact wp_mono (ihy b' Q env0 σ0 h2 (h4 env0 σ0 q1) S K' a w hS k2 k3) λe a w hq=>hq.mono k1
 |cond c x y ihx ihy=>
  intro ac Q env σ ht h;simp only[tr] at ht;split at ht<;>simp at ht
  rename_i cc a b h0 h1 h2
  cases ac<;>simp[ACode.bare] at ht
  rename_i c' a' b'
  obtain⟨rfl,rfl,rfl⟩:=ht;obtain⟨cv,e1,h⟩:=aG h;cases cv<;>first|exact h.elim|skip
  rename_i p
  intro S K a w hS hf hs;have hc:=cN (trOpnd_rel h0 e1 hf);refine wp_cond hc ?_;cases p with
  |true=>exact ihx a' Q env σ h1 (h.1 rfl) S K a w hS hf hs
  |false=>exact ihy b' Q env σ h2 (h.2 rfl) S K a w hS hf hs
 |block id x ih=>
  intro ac Q env σ ht h;simp only[tr,Option.map_eq_some_iff] at ht;obtain⟨a,h1,ht⟩:=ht;cases ac<;>simp[ACode.bare] at ht
  rename_i id' a'
  obtain⟨rfl,rfl⟩:=ht;intro S K a w hS hf hs;exact wp_block (wp_mono (ih a' _ env σ h1 h S K a w hS hf hs) λe a w hq=>vX hq)
 |loop x ih=>
  intro ac Q env σ ht h;simp only[tr,Option.map_eq_some_iff] at ht;obtain⟨a,h1,ht⟩:=ht;cases ac<;>simp[ACode.bare] at ht
  rename_i a'
  subst ht;obtain⟨I,⟨n0,env0,σ0,hI,hvw⟩,hround⟩:=h;intro S K a w hS hf hs;obtain⟨K0,k1,k2,k3⟩:=hf.view hvw hS hs;refine BY (λn a w=>∃K' env σ,K.leS S K'/\Fr K' N env a/\Sat K' σ w/\I n env σ) n0 ⟨K0,env0,σ0,k1,k2,k3,hI⟩ ?_;rintro n a w ⟨K',env,σ,hK,hf,hs,hI⟩;have hr:=hround n env σ hI;refine wp_mono (ih a' _ env σ h1 hr S K' a w hS hf hs) λe a w hq=>?_;have:=rg (k:=oU I n) (Q:=Q) hq
  cases e with
  |normal=>
   obtain⟨K1,env1,σ1,q1,q2,q3,m,env2,σ2,q4,q5,q6⟩:=this;obtain⟨K2,k1,k2,k3⟩:=q2.view q6 hS q3;exact⟨m,q4,K2,env2,σ2,(hK.trans q1).trans k1,k2,k3,q5⟩
  |exit id=>exact LiftQ.mono hK this
  |goto l=>exact LiftQ.mono hK this
  |ret=>exact LiftQ.mono hK this
  |panic ch=>exact LiftQ.mono hK this
  |outgrown=>exact LiftQ.mono hK this
 |exit id=>
  intro ac Q env σ ht h;simp only[tr] at ht;cases ac<;>simp[ACode.bare] at ht
  subst ht;intro S K a w hS hf hs;exact wp_exit ⟨.exit id,K,env,σ,Gh.leS.refl K,rfl,hf,hs,h⟩
 |ret=>
  intro ac Q env σ ht h;simp only[tr] at ht;cases ac<;>simp[ACode.bare] at ht
  intro S K a w hS hf hs;exact wp_ret ⟨.ret,K,env,σ,Gh.leS.refl K,trivial,hf,hs,h⟩
 |rangeFunc f ps a b _ _=>intro ac Q env σ ht h;simp[tr] at ht
 |scope b _=>intro ac Q env σ ht h;simp[tr] at ht
 |label l=>intro ac Q env σ ht h;simp[tr] at ht
 |goto l=>intro ac Q env σ ht h;simp[tr] at ht
 |refuse s=>intro ac Q env σ ht h;simp[tr] at ht
inductive ARV where
 |tmp(t:Nat)
 |cell(t:Nat)(g:Bool)(n:Nat)
def cJ(P:Program):List ResultVar->Option (List ARV)
 |[]=>some []
 | .tmp t::r=>match cJ P r with
  |some l=>some (.tmp t::l)
  |none=>none
 | .cell t ty::r=>match et P ty,cJ P r with
  |some (g,n),some l=>some (.cell t g n::l)
  |_,_=>none
def IS(env:bg)(σ:aA)(R:AV->Prop):ARV->Prop
 | .tmp t=>bh (lk env t) R
 | .cell t g n=>EK env σ (λv _=>R v) (.load g n (.t t))
def li(env:bg)(σ:aA)(R:List AV->Prop):List ARV->Prop
 |[]=>R []
 |r::rs=>IS env σ (λv=>li env σ (λl=>R (v::l)) rs) r
def one:List AV->AV
 |[v]=>v
 |l=> .tup l
def fin(R:ARes->aA->Prop)(v:AV)(σ:aA)(_:Tg R:= .mk):Prop:=∃v0 σ0,Vr v0 σ0 v σ/\R (.ret v0) σ0
def LK(R:ARes->aA->Prop)(v:AV)(σ:aA)(_:Tg R:= .mk):Prop:=∃v0 σ0,Vr v0 σ0 v σ/\R (.panic v0) σ0
def pi(rs:List ARV)(R:ARes->aA->Prop):AExit->bg->aA->Prop
 | .normal,env,σ=>li env σ (λl=>fin R (one l) σ) rs
 | .ret,env,σ=>li env σ (λl=>fin R (one l) σ) rs
 | .panic v,_,σ=>LK R v σ
 | .exit _,_,_=>False
def eW:Nat->List AV->bg
 |_,[]=>[]
 |i,v::r=>(i,some v)::eW (i+1) r
theorem mZ:∀(l:List AV) (k i:Nat) (v:AV),lk (eW k l) i=some v->k<=i/\l[i-k]?=some v
 |[],k,i,v,h=>by simp[eW,lk] at h
 |x::l,k,i,v,h=>by
  simp only[eW,lk] at h;by_cases hi:i=k
  ·subst hi;simp at h;subst h;simp
  ·simp only[hi,if_false] at h;obtain⟨h1,h2⟩:=mZ l (k+1) i v h;refine⟨by omega,?_⟩;have:i-k=(i-(k+1))+1:=by omega
   rw[this];simpa using h2
def sr(tmps:Array Value):ResultVar->Sem Value
 | .tmp t=>pure (tmps.getD t undef)
 | .cell x t=>do loadVar t (<-asAddr (tmps.getD x undef))
theorem vY(fn:Func)(tmps:Array Value):results fn tmps=(fn.results.mapM (sr tmps)>>=λvs=>pure (if h:vs.size=1 then vs[0] else .tuple vs)):=by
 unfold results;refine congrArg (fun(m:Sem (Array Value))=>m>>=fun(vs:Array Value)=>(pure (if h:vs.size=1 then vs[0] else .tuple vs):Sem Value)) ?_;refine congrArg (λg=>Array.mapM g fn.results) ?_;funext r;cases r<;>rfl
theorem ss{P:Program}{K:Gh}{N env σ a w}(hf:Fr K N env a)(hs:Sat K σ w):∀(rvs:List ResultVar) (rs:List ARV) (R:List AV->Prop),cJ P rvs=some rs->li env σ R rs->
  ∃l vs,(rvs.mapM (sr a.tmps)).run P w= .ok vs w/\RelL K l vs/\R l
 |[],rs,R,ht,h=>by
  simp[cJ] at ht;subst ht
  exact⟨[],[],rfl, .nil,h⟩
 |rv::rvs,rs,R,ht,h=>by
  cases rv with
  |tmp t=>
   simp only[cJ] at ht;split at ht<;>simp at ht
   rename_i l hl
   subst ht;obtain⟨v,e1,h⟩:=aG h;obtain⟨u,e2,hu⟩:=hf.rel t v e1;obtain⟨l',vs,q1,q2,q3⟩:=ss hf hs rvs l _ hl h;refine⟨v::l',u::vs,?_, .cons hu q2,q3⟩;rw[List.mapM_cons];simp only[sr,Sem.run_bind,Sem.run_pure,Result.andThen_ok,q1];simp[Array.getD_eq_getD_getElem?,e2]
  |cell x t=>
   simp only[cJ] at ht;split at ht<;>simp at ht
   rename_i g n l hr hl
   subst ht;obtain⟨av,v,b,off,h1,h2,h3,h4⟩:=qM (P:=P) (N:=N) (nm:=0) (R:=λv _=>li env σ (λl=>R (v::l)) l) hr (x:= .tmp x) (ax:= .t x) rfl h hf hs;obtain⟨l',vs,q1,q2,q3⟩:=ss hf hs rvs l _ hl h4;refine⟨av::l',v::vs,?_, .cons h3 q2,q3⟩;have e2:a.tmps.getD x undef= .pointer (some ⟨b,off,none⟩):=h1;have e3:(loadVar t ⟨b,off,none⟩).run P w= .ok v w:=by simpa [Instr.loadAt,Instr.sureAddr] using h2
   rw[List.mapM_cons];simp only[sr,e2,asAddr,Sem.run_bind,Sem.run_pure,Result.andThen_ok,e3,q1]
theorem kG{P:Program}{K:Gh}{N env σ a w fn rs}{R:List AV->Prop}(hf:Fr K N env a)(hs:Sat K σ w)(ht:cJ P fn.results.toList=some rs)(h:li env σ R rs):
  ∃l v,(results fn a.tmps).run P w= .ok v w/\Rel K (one l) v/\R l:=by
 obtain⟨l,vs,h1,h2,h3⟩:=ss hf hs fn.results.toList rs R ht h
 have hrun:(results fn a.tmps).run P w= .ok (if h:vs.toArray.size=1 then vs.toArray[0] else .tuple vs.toArray) w:=by
  rw[vY,Array.mapM_eq_mapM_toList];simp only[Sem.run_bind,Sem.run_map,h1,Result.andThen_ok,Sem.run_pure]
 refine⟨l,_,hrun,?_,h3⟩;by_cases hv:vs.toArray.size=1
 ·rw[dif_pos hv];have hl:l.length=1:=by rw[h2.1];simpa using hv
  match l,hl with
  |[v],_=>
   obtain⟨u,r,rfl,k1,k2⟩:=h2.cons_inv;simpa [one] using k1
 ·rw[dif_neg hv];have hl:l.length≠1:=by rw[h2.1];simpa using hv
  have:one l= .tup l:=by
   match l,hl with
   |[],_=>rfl
   |_::_::_,_=>rfl
  rw[this];exact .tupL (by simpa using h2)
theorem EndRel.ds{K:Gh}{e r}(d:List Deferred)(h:EndRel K e r):EndRel {K with ds:=d} e r:=by
 cases e<;>cases r<;>first|exact h.elim|skip
 ·exact Rel.ds d h
 ·obtain⟨v,rfl,k⟩:=h;exact⟨v,rfl,k.ds d⟩
theorem m9{K:Gh}{N:Nat}{fn:Func}{args:List AV}{vals:Array Value}(hN:fn.ntmps=N)(hargs:args.length<=N)(hrel:RelL K args vals.toList)(hd:K.ds=[]):
  Fr K N (eW 0 args) {tmps:=vals++Array.replicate (fn.ntmps-vals.size) undef,defers:=[]}:=by
 have hlen:args.length=vals.size:=by simpa using hrel.1
 refine⟨by simp;omega,hd.symm,λi av e=>?_⟩;obtain⟨_,h2⟩:=mZ args 0 i av e;simp only[Nat.sub_zero] at h2
 have hi:i<args.length:=by
  rcases Nat.lt_or_ge i args.length with h'|h'
  ·exact h'
  ·simp[List.getElem?_eq_none h'] at h2
 obtain⟨v,h3,h4⟩:=hrel.get i hi;refine⟨v,?_,?_⟩
 ·rw[Array.getElem?_append_left (by omega)];simpa using h3
 ·have:args[i]=av:=by rw[List.getElem?_eq_getElem hi] at h2;exact Option.some.inj h2
  rw[<-this];exact h4
theorem qz{P:Program}(hm:P.follows .mixedOrders=true){f:FuncId}{fn:Func}{c:Code}{N:Nat}{rs:List ARV}{ac:ACode}{args:List AV}{σ:aA}{R:ARes->aA->Prop}
  (hfn:P.funcs[f]?=some fn)(hb:fn.body=some c)(hname:(fn.name=="runtime.NumGoroutine")=false)(hN:fn.ntmps=N)(hargs:args.length<=N)
  (ht:tr P N c=some ac.bare)(hr:cJ P fn.results.toList=some rs)(h:ex P ac (pi rs R) (eW 0 args) σ):ACalls P f args σ R:=by
 refine⟨by simp[ct,hfn,hb,hname],λS K w vals hS hrel hs=>calls_of_wp hfn hb ?_⟩;have hf:Fr {K with ds:=[]} N (eW 0 args) {tmps:=vals++Array.replicate (fn.ntmps-vals.size) undef,defers:=[]}:=m9 hN hargs (hrel.ds []) rfl;refine wp_mono (BZ hm c ac _ _ σ ht h S _ _ w hS hf (hs.ds [])) ?_;rintro e a w' ⟨ae,K',env,σ',h1,h2,h3,h4,h5⟩;have hds:K'.ds=[]:=h1.le.ds;cases e<;>cases ae<;>first|exact h2.elim|exact h5.elim|skip
 ·obtain⟨l,v,q1,q2,v0,σ0,q3,q4⟩:=kG h3 h4 hr h5;obtain⟨K2,k1,k2,k3⟩:=q2.view q3 hS h4;exact⟨h3.defers.trans hds,v,q1,_, .ret _,σ0,(h1.trans k1).ds,k3.ds _,EndRel.ds (e:= .returned v) (r:= .ret _) _ k2,q4⟩
 ·obtain⟨l,v,q1,q2,v0,σ0,q3,q4⟩:=kG h3 h4 hr h5;obtain⟨K2,k1,k2,k3⟩:=q2.view q3 hS h4;exact⟨h3.defers.trans hds,v,q1,_, .ret _,σ0,(h1.trans k1).ds,k3.ds _,EndRel.ds (e:= .returned v) (r:= .ret _) _ k2,q4⟩
 ·obtain⟨v,rfl,hv⟩:=h2;obtain⟨v0,σ0,q3,q4⟩:=h5;obtain⟨K2,k1,k2,k3⟩:=hv.view q3 hS h4;exact⟨h3.defers.trans hds,_, .panic _,σ0,(h1.trans k1).ds,k3.ds _,EndRel.ds (e:= .panicked _) (r:= .panic _) _ ⟨v,rfl,k2⟩,q4⟩
theorem B0{P:Program}(hm:P.follows .mixedOrders=true){f:FuncId}{fn:Func}{N:Nat}{rs:List ARV}{ac:ACode}{args:List AV}{σ:aA}{R:ARes->aA->Prop}
  (hfn:P.funcs[f]?=some fn)(hb:fn.body.bind (tr P N)=some ac.bare)(hname:(fn.name=="runtime.NumGoroutine")=false)(hN:fn.ntmps=N)
  (hr:cJ P fn.results.toList=some rs)(hargs:args.length<=N)(h:ex P ac (pi rs R) (eW 0 args) σ):ACalls P f args σ R:=by
 cases hc:fn.body with
 |none=>simp[hc] at hb
 |some c=>exact qz hm hfn hc hname hN hargs (by simpa [hc] using hb) hr h
end Abs
namespace Abs
open Go
def XO(env:bg)(σ:aA)(R:AV->Option (Nat×AObj)->Prop)(op:AOp)(_:Tg (env,σ,R,op):= .mk):Prop:=bt (λk=>fresh σ k) env σ R op
def IR(P:Program)(Q:AExit->bg->aA->Prop)(k:AV->aA->Prop)(env:bg)(σ:aA)(op:AOp)(_:Tg (Q,k,env,σ,op):= .mk):Prop:=si P Q k env σ op
def ID(P:Program)(k:AV->Option (Nat×AObj)->Prop)(kc:AV->List (Nat×AObj)->Prop)(env:bg)(σ σb:aA)(op:AOp)(_:Tg (k,kc,env,σ,σb,op):= .mk):Prop:=lc P k kc env σ σb op
def XI(P:Program)(Q:AExit->bg->aA->Prop)(is:List AInst)(env:bg)(σ:aA)(_:Tg (Q,is,env,σ):= .mk):Prop:=dX P Q is env σ
def XD(P:Program)(ps:List (Nat×Nat))(k:bg->aA->Prop)(is:List AInst)(n:Nat)(tl:List (Nat×TI))(env:bg)(σ:aA)(_:Tg (k,is,tl,env,σ):= .mk):Prop:=dO P ps k is n tl env σ
def TC(n:Nat)(env:bg)(σ:aA)(op:AOp)(tl:List (Nat×TI))(e:Option (Nat×AObj))(_:Tg (env,σ,op,tl):= .mk):List (Nat×TI):=zk n env σ op tl e
def XC(P:Program)(c:ACode)(Q:AExit->bg->aA->Prop)(env:bg)(σ:aA)(_:Tg (c,Q,env,σ):= .mk):Prop:=ex P c Q env σ
def XR(env:bg)(σ:aA)(R:List AV->Prop)(rs:List ARV)(_:Tg (env,σ,R,rs):= .mk):Prop:=li env σ R rs
section
variable (P : Program) (Q : AExit -> bg -> aA -> Prop) (env : bg) (σ σb : aA) (R : AV -> Option (Nat × AObj) -> Prop) (k : AV -> aA -> Prop) (kd : AV -> Option (Nat × AObj) -> Prop) (kc : AV -> List (Nat × AObj) -> Prop) (k0 : bg -> aA -> Prop) (is : List AInst)
theorem IT:XI P Q [] env σ=Q .normal env σ:=rfl
theorem Fh(d op):XI P Q (⟨d,op,none⟩::is) env σ=IR P Q (λv σ'=>XI P Q is (putA d v env) σ') env σ op:=rfl
theorem B1(d op s b):XI P Q (⟨d,op,some (s,b)⟩::is) env σ=bh (lk env s) λv=>match v with
  | .bool p=>gd p b (IR P Q (λv σ'=>XI P Q is (putA d v env) σ') env σ op) (XI P Q is (skipA d env) σ)
  | .tup _=>XI P Q is (skipA d env) σ
  |_=>False:=rfl
theorem IU(ps n tl):XD P ps k0 [] n tl env σ=cV (iU tl ps) (k0 env σ):=rfl
theorem Fi(ps n tl d op):XD P ps k0 (⟨d,op,none⟩::is) n tl env σ=ID P (λv e=>XD P ps k0 is (n+1) (TC n env σ op tl e) (putA d v env) (fN σ e)) (λv us=>XD P ps k0 is (n+1) ((n, .call us)::tl) (putA d v env) (fm σ us)) env σ (eG n σ ps) op:=rfl
theorem B2(ps n tl d op s b):XD P ps k0 (⟨d,op,some (s,b)⟩::is) n tl env σ=bh (lk env s) λv=>match v with
  | .bool p=>gd p b (ID P (λv e=>XD P ps k0 is (n+1) (TC n env σ op tl e) (putA d v env) (fN σ e)) (λv us=>XD P ps k0 is (n+1) ((n, .call us)::tl) (putA d v env) (fm σ us)) env σ (eG n σ ps) op) (XD P ps k0 is (n+1) tl (skipA d env) σ)
  | .tup _=>XD P ps k0 is (n+1) tl (skipA d env) σ
  |_=>False:=rfl
theorem B3(n):eG n σ []=σ:=rfl
theorem zr(n a b r):eG n σ ((a,b)::r)=if a=n then (if b=n then λ_=>none else eG n σ r) else eG n σ r:=rfl
theorem Fj:XC P .skip Q env σ=Q .normal env σ:=rfl
theorem IV:XC P (.reg is) Q env σ=XI P Q is env σ:=rfl
theorem IW(ps):XC P (.drw is ps) Q env σ=XD P ps (λenv σ=>Q .normal env σ) is 0 [] env σ:=rfl
theorem IX(a b):XC P (.seq a b) Q env σ=XC P a (js (λenv σ=>XC P b Q env σ) Q) env σ:=rfl
theorem IY(a b):XC P (.cut a b) Q env σ=LJ (λQ env σ=>XC P a Q env σ) (λQ env σ=>XC P b Q env σ) Q env σ:=rfl
theorem Fk(c a b):XC P (.cond c a b) Q env σ=bh (aval env c) λv=>match v with
  | .bool p=>br p (XC P a Q env σ) (XC P b Q env σ)
  |_=>False:=rfl
theorem B4(id a):XC P (.block id a) Q env σ=XC P a (gA id Q) env σ:=rfl
theorem Fl(a):XC P (.loop a) Q env σ=BP (λQ env σ=>XC P a Q env σ) Q env σ:=rfl
theorem Fm(id):XC P (.exit id) Q env σ=Q (.exit id) env σ:=rfl
theorem IZ:XC P .ret Q env σ=Q .ret env σ:=rfl
theorem I0(K):js K Q .normal env σ=K env σ:=rfl
theorem I1(K):js K Q .ret env σ=Q .ret env σ:=rfl
theorem I2(K id):js K Q (.exit id) env σ=Q (.exit id) env σ:=rfl
theorem I3(K v):js K Q (.panic v) env σ=Q (.panic v) env σ:=rfl
theorem zc_(i):gA i Q .normal env σ=Q .normal env σ:=rfl
theorem Fo(i):gA i Q .ret env σ=Q .ret env σ:=rfl
theorem Fp(i v):gA i Q (.panic v) env σ=Q (.panic v) env σ:=rfl
theorem Fq(i):gA i Q (.exit i) env σ=Q .normal env σ:=by simp[gA]
theorem Fs(i j)(h:j≠i):gA i Q (.exit j) env σ=Q (.exit j) env σ:=by simp[gA,h]
theorem I4(rs R):pi rs R .normal env σ=XR env σ (λl=>fin R (one l) σ) rs:=rfl
theorem I5(rs R):pi rs R .ret env σ=XR env σ (λl=>fin R (one l) σ) rs:=rfl
theorem I6(rs R v):pi rs R (.panic v) env σ=LK R v σ:=rfl
theorem I7(R):XR env σ R []=R []:=rfl
theorem I8(R t rs):XR env σ R (.tmp t::rs)=bh (lk env t) (λv=>XR env σ (λl=>R (v::l)) rs):=rfl
theorem Ft(R t g n rs):XR env σ R (.cell t g n::rs)=XO env σ (λv _=>XR env σ (λl=>R (v::l)) rs) (.load g n (.t t)):=rfl
theorem I9(p v):zj k p (.ret v) σ=k v σ:=rfl
theorem Ja(p v):zj k p (.panic v) σ=p v σ:=rfl
theorem Fu(f args):IR P Q k env σ (.call f args)=bh (aval env f) λfv=>gj (cK env args) λvs=>match fv with
  | .fn f first caps=>ACalls P f (first++vs++caps) σ (zj k (λv σ'=>Q (.panic v) env σ'))
  |_=>False:=rfl
theorem B5(x):IR P Q k env σ (.panic x)=bh (aval env x) λv=>match v with
  | .iface t a=>Q (.panic (.iface t a)) env σ
  |_=>False:=rfl
theorem Fv(f args):ID P kd kc env σ σb (.call f args)=bh (aval env f) λfv=>gj (cK env args) λvs=>match fv with
  | .fn f first caps=>oY P f (first++vs++caps) σ σb kc
  |_=>False:=rfl
theorem Jb(x):IR P Q k env σ (.mov x)=bh (aval env x) λa=>k a σ:=rfl
theorem Fw(c a b):IR P Q k env σ (.pick c a b)=XO env σ (λv e=>k v (fN σ e)) (.pick c a b):=rfl
theorem B6(z):IR P Q k env σ (.alloc z)=XO env σ (λv e=>k v (fN σ e)) (.alloc z):=rfl
theorem Jc(z):IR P Q k env σ (.box z)=XO env σ (λv e=>k v (fN σ e)) (.box z):=rfl
theorem Fx(z):IR P Q k env σ (.boxI z)=XO env σ (λv e=>k v (fN σ e)) (.boxI z):=rfl
theorem B7(z p):IR P Q k env σ (.build z p)=XO env σ (λv e=>k v (fN σ e)) (.build z p):=rfl
theorem zt(z p):IR P Q k env σ (.bslice z p)=XO env σ (λv e=>k v (fN σ e)) (.bslice z p):=rfl
theorem Fy(g n x):IR P Q k env σ (.load g n x)=XO env σ (λv e=>k v (fN σ e)) (.load g n x):=rfl
theorem B8(n p x):IR P Q k env σ (.store n p x)=XO env σ (λv e=>k v (fN σ e)) (.store n p x):=rfl
theorem zu(x):IR P Q k env σ (.nilchk x)=XO env σ (λv e=>k v (fN σ e)) (.nilchk x):=rfl
theorem Jd(op t x y):IR P Q k env σ (.bin op t x y)=XO env σ (λv e=>k v (fN σ e)) (.bin op t x y):=rfl
theorem Je(n ks x y):IR P Q k env σ (.eqs n ks x y)=XO env σ (λv e=>k v (fN σ e)) (.eqs n ks x y):=rfl
theorem LL(op x):IR P Q k env σ (.un op x)=XO env σ (λv e=>k v (fN σ e)) (.un op x):=rfl
theorem Fz(kk x):IR P Q k env σ (.conv kk x)=XO env σ (λv e=>k v (fN σ e)) (.conv kk x):=rfl
theorem FA(f a b):IR P Q k env σ (.mkfn f a b)=XO env σ (λv e=>k v (fN σ e)) (.mkfn f a b):=rfl
theorem FB(o x):IR P Q k env σ (.fldA o x)=XO env σ (λv e=>k v (fN σ e)) (.fldA o x):=rfl
theorem FC(g o n x):IR P Q k env σ (.fldV g o n x)=XO env σ (λv e=>k v (fN σ e)) (.fldV g o n x):=rfl
theorem FD(s x i):IR P Q k env σ (.idxS s x i)=XO env σ (λv e=>k v (fN σ e)) (.idxS s x i):=rfl
theorem FE(s l x i):IR P Q k env σ (.idxR s l x i)=XO env σ (λv e=>k v (fN σ e)) (.idxR s l x i):=rfl
theorem Jf(s x a b c):IR P Q k env σ (.slc s x a b c)=XO env σ (λv e=>k v (fN σ e)) (.slc s x a b c):=rfl
theorem vZ(x i):IR P Q k env σ (.extract x i)=XO env σ (λv e=>k v (fN σ e)) (.extract x i):=rfl
theorem Jg(x):IR P Q k env σ (.len x)=XO env σ (λv e=>k v (fN σ e)) (.len x):=rfl
theorem Jh(x):IR P Q k env σ (.cap x)=XO env σ (λv e=>k v (fN σ e)) (.cap x):=rfl
theorem zw(s b x y):IR P Q k env σ (.append s b x y)=XO env σ (λv e=>k v (fN σ e)) (.append s b x y):=rfl
theorem FF(s b x y):IR P Q k env σ (.appz s b x y)=XO env σ (λv e=>k v (fN σ e)) (.appz s b x y):=rfl
theorem FG(s x a b c):IR P Q k env σ (.slcN s x a b c)=XO env σ (λv e=>k v (fN σ e)) (.slcN s x a b c):=rfl
theorem FH(s x a b c):IR P Q k env σ (.slcR s x a b c)=XO env σ (λv e=>k v (fN σ e)) (.slcR s x a b c):=rfl
theorem Ji(l):IR P Q k env σ (.min l)=XO env σ (λv e=>k v (fN σ e)) (.min l):=rfl
theorem Jj(l):IR P Q k env σ (.max l)=XO env σ (λv e=>k v (fN σ e)) (.max l):=rfl
theorem v7(s b z g l c):IR P Q k env σ (.mkslice s b z g l c)=XO env σ (λv e=>k v (fN σ e)) (.mkslice s b z g l c):=rfl
theorem v8(t x):IR P Q k env σ (.mkiface t x)=XO env σ (λv e=>k v (fN σ e)) (.mkiface t x):=rfl
theorem Jk(x):ID P kd kc env σ σb (.mov x)=bh (aval env x) λa=>kd a none:=rfl
theorem Jl(nn tl)(x):TC nn env σ (.mov x) tl none=tl:=rfl
theorem FI(c a b):ID P kd kc env σ σb (.pick c a b)=XO env σ kd (.pick c a b):=rfl
theorem FJ(nn tl)(c a b):TC nn env σ (.pick c a b) tl none=tl:=rfl
theorem B9(z):ID P kd kc env σ σb (.alloc z)=XO env σ kd (.alloc z):=rfl
theorem Ca(nn tl)(z):TC nn env σ (.alloc z) tl none=tl:=rfl
theorem Jm(z):ID P kd kc env σ σb (.box z)=XO env σ kd (.box z):=rfl
theorem Jn(nn tl)(z):TC nn env σ (.box z) tl none=tl:=rfl
theorem FK(z):ID P kd kc env σ σb (.boxI z)=XO env σ kd (.boxI z):=rfl
theorem FM(nn tl)(z):TC nn env σ (.boxI z) tl none=tl:=rfl
theorem Cb(z p):ID P kd kc env σ σb (.build z p)=XO env σ kd (.build z p):=rfl
theorem Cc(nn tl)(z p):TC nn env σ (.build z p) tl none=tl:=rfl
theorem zx(z p):ID P kd kc env σ σb (.bslice z p)=XO env σ kd (.bslice z p):=rfl
theorem zy(nn tl)(z p):TC nn env σ (.bslice z p) tl none=tl:=rfl
theorem FN(g n x):ID P kd kc env σ σb (.load g n x)=XO env σ kd (.load g n x):=rfl
theorem FO(nn tl)(g n x):TC nn env σ (.load g n x) tl none=match aval env x with
  |some (.ptr o off)=>(match σ o with
   |some (.cells cs)=>(nn, .mem o (some (off,n,(cs.drop off).take n)))::tl
   |_=>(nn, .mem o none)::tl)
  |some (.eptr o _ _)=>(nn, .mem o none)::tl
  |_=>tl:=by
 show zk nn env σ (.load g n x) tl none=_
 simp only[zk,ky];cases aval env x with
 |none=>rfl
 |some a=>
  cases a<;>first|rfl|skip
  rename_i o off
  cases h:σ o with
  |none=>simp only[h]
  |some y=>cases y<;>simp only[h]
theorem Cd(n p x):ID P kd kc env σ σb (.store n p x)=XO env σ kd (.store n p x):=rfl
theorem Ce(nn tl)(n p x):TC nn env σ (.store n p x) tl none=tl:=rfl
theorem zz(x):ID P kd kc env σ σb (.nilchk x)=XO env σ kd (.nilchk x):=rfl
theorem zA(nn tl)(x):TC nn env σ (.nilchk x) tl none=tl:=rfl
theorem Jo(op t x y):ID P kd kc env σ σb (.bin op t x y)=XO env σ kd (.bin op t x y):=rfl
theorem Jp(nn tl)(op t x y):TC nn env σ (.bin op t x y) tl none=tl:=rfl
theorem Jq(n ks x y):ID P kd kc env σ σb (.eqs n ks x y)=XO env σ kd (.eqs n ks x y):=rfl
theorem Jr(nn tl)(n ks x y):TC nn env σ (.eqs n ks x y) tl none=tl:=rfl
theorem LM(op x):ID P kd kc env σ σb (.un op x)=XO env σ kd (.un op x):=rfl
theorem LN(nn tl)(op x):TC nn env σ (.un op x) tl none=tl:=rfl
theorem FP(kk x):ID P kd kc env σ σb (.conv kk x)=XO env σ kd (.conv kk x):=rfl
theorem FQ(nn tl)(kk x):TC nn env σ (.conv kk x) tl none=tl:=rfl
theorem FR(f a b):ID P kd kc env σ σb (.mkfn f a b)=XO env σ kd (.mkfn f a b):=rfl
theorem FS(nn tl)(f a b):TC nn env σ (.mkfn f a b) tl none=tl:=rfl
theorem FT(o x):ID P kd kc env σ σb (.fldA o x)=XO env σ kd (.fldA o x):=rfl
theorem FU(nn tl)(o x):TC nn env σ (.fldA o x) tl none=tl:=rfl
theorem FV(g o n x):ID P kd kc env σ σb (.fldV g o n x)=XO env σ kd (.fldV g o n x):=rfl
theorem FW(nn tl)(g o n x):TC nn env σ (.fldV g o n x) tl none=tl:=rfl
theorem FX(s x i):ID P kd kc env σ σb (.idxS s x i)=XO env σ kd (.idxS s x i):=rfl
theorem FY(nn tl)(s x i):TC nn env σ (.idxS s x i) tl none=tl:=rfl
theorem FZ(s l x i):ID P kd kc env σ σb (.idxR s l x i)=XO env σ kd (.idxR s l x i):=rfl
theorem F0(nn tl)(s l x i):TC nn env σ (.idxR s l x i) tl none=tl:=rfl
theorem Js(s x a b c):ID P kd kc env σ σb (.slc s x a b c)=XO env σ kd (.slc s x a b c):=rfl
theorem Jt(nn tl)(s x a b c):TC nn env σ (.slc s x a b c) tl none=tl:=rfl
theorem wb(x i):ID P kd kc env σ σb (.extract x i)=XO env σ kd (.extract x i):=rfl
theorem we(nn tl)(x i):TC nn env σ (.extract x i) tl none=tl:=rfl
theorem Ju(x):ID P kd kc env σ σb (.len x)=XO env σ kd (.len x):=rfl
theorem Jv(nn tl)(x):TC nn env σ (.len x) tl none=tl:=rfl
theorem Jw(x):ID P kd kc env σ σb (.cap x)=XO env σ kd (.cap x):=rfl
theorem Jx(nn tl)(x):TC nn env σ (.cap x) tl none=tl:=rfl
theorem zB(s b x y):ID P kd kc env σ σb (.append s b x y)=XO env σ kd (.append s b x y):=rfl
theorem zC(nn tl)(s b x y):TC nn env σ (.append s b x y) tl none=tl:=rfl
theorem F1(s b x y):ID P kd kc env σ σb (.appz s b x y)=XO env σ kd (.appz s b x y):=rfl
theorem F2(nn tl)(s b x y):TC nn env σ (.appz s b x y) tl none=tl:=rfl
theorem F3(s x a b c):ID P kd kc env σ σb (.slcN s x a b c)=XO env σ kd (.slcN s x a b c):=rfl
theorem F4(nn tl)(s x a b c):TC nn env σ (.slcN s x a b c) tl none=tl:=rfl
theorem F5(s x a b c):ID P kd kc env σ σb (.slcR s x a b c)=XO env σ kd (.slcR s x a b c):=rfl
theorem F6(nn tl)(s x a b c):TC nn env σ (.slcR s x a b c) tl none=tl:=rfl
theorem Jy(l):ID P kd kc env σ σb (.min l)=XO env σ kd (.min l):=rfl
theorem Jz(nn tl)(l):TC nn env σ (.min l) tl none=tl:=rfl
theorem JA(l):ID P kd kc env σ σb (.max l)=XO env σ kd (.max l):=rfl
theorem JB(nn tl)(l):TC nn env σ (.max l) tl none=tl:=rfl
theorem wg(s b z g l c):ID P kd kc env σ σb (.mkslice s b z g l c)=XO env σ kd (.mkslice s b z g l c):=rfl
theorem wh(nn tl)(s b z g l c):TC nn env σ (.mkslice s b z g l c) tl none=tl:=rfl
theorem wi(t x):ID P kd kc env σ σb (.mkiface t x)=XO env σ kd (.mkiface t x):=rfl
theorem wj(nn tl)(t x):TC nn env σ (.mkiface t x) tl none=tl:=rfl
theorem F7(nn op tl o x):TC nn env σ op tl (some (o,x))=(nn, .mem o none)::tl:=rfl
theorem Cf:IR P Q k env σ (.ext .mkmap)=XO env σ (λv e=>k v (fN σ e)) (.ext .mkmap):=rfl
theorem Cg:ID P kd kc env σ σb (.ext .mkmap)=XO env σ kd (.ext .mkmap):=rfl
theorem Ch(nn tl):TC nn env σ (.ext .mkmap) tl none=tl:=rfl
theorem Ci:XO env σ R (.ext .mkmap)=fresh σ λo=>R (.map o) (some (o,(.map true []))):=rfl
theorem F8(kk z c x i):IR P Q k env σ (.ext (.look kk z c x i))=XO env σ (λv e=>k v (fN σ e)) (.ext (.look kk z c x i)):=rfl
theorem F9(kk z c x i):ID P kd kc env σ σb (.ext (.look kk z c x i))=XO env σ kd (.ext (.look kk z c x i)):=rfl
theorem Ga(nn tl kk z c x i):TC nn env σ (.ext (.look kk z c x i)) tl none=match aval env x with
  |some (.map o)=>(nn, .mem o none)::tl
  |_=>tl:=by
 show zk nn env σ (.ext (.look kk z c x i)) tl none=_
 simp only[zk,ky];cases aval env x with
 |none=>rfl
 |some a=>cases a<;>rfl
theorem Gb(kk z c x i):XO env σ R (.ext (.look kk z c x i))=bh (aval env x) λm=>bh (aval env i) λk=>match m with
  | .map o=>match σ o with
   |some (.map _ l)=>cV (kh kk k=true) (Bj (kU kk k l) λv=>R (if c then .tup [v.getD z, .bool v.isSome] else v.getD z) none)
   |_=>False
  | .nilmap=>cV (kh kk k=true) (R (if c then .tup [z, .bool false] else z) none)
  |_=>False:=rfl
theorem Gc(kk m a v):IR P Q k env σ (.ext (.mset kk m a v))=XO env σ (λv e=>k v (fN σ e)) (.ext (.mset kk m a v)):=rfl
theorem id_mset(kk m a v):ID P kd kc env σ σb (.ext (.mset kk m a v))=XO env σ kd (.ext (.mset kk m a v)):=rfl
theorem tc_mset(nn tl kk m a v):TC nn env σ (.ext (.mset kk m a v)) tl none=tl:=rfl
theorem xo_mset(kk m k v):XO env σ R (.ext (.mset kk m k v))=bh (aval env m) λm=>bh (aval env k) λk=>bh (aval env v) λv=>match m with
  | .map o=>match σ o with
   |some (.map d l)=>cV (kh kk k=true) (Bj (tE kk k v l) λl=>R (.tup []) (some (o,(.map d l))))
   |_=>False
  |_=>False:=rfl
theorem Cj(b x):IR P Q k env σ (.ext (.isnil b x))=XO env σ (λv e=>k v (fN σ e)) (.ext (.isnil b x)):=rfl
theorem Cl(b x):XO env σ R (.ext (.isnil b x))=bh (aval env x) λa=>match a with
  | .slice l _=>gh l (R (.bool true) none/\R (.bool false) none) (R (.bool b) none)
  |_=>False:=rfl
theorem ir_bsliceG(sz ps):IR P Q k env σ (.ext (.bsliceG sz ps))=XO env σ (λv e=>k v (fN σ e)) (.ext (.bsliceG sz ps)):=rfl
theorem xo_bsliceG(sz ps):XO env σ R (.ext (.bsliceG sz ps))=gj (cK env ps) λl=>cV ((l.all λx=>(az x).length==sz&&(az x).all bY)=true) (fresh σ λo=>R (.slice l (.own o)) (some (o,(.grow sz l.length)))):=rfl
theorem ir_vmake(sz b z g l c):IR P Q k env σ (.ext (.vmake sz b z g l c))=XO env σ (λv e=>k v (fN σ e)) (.ext (.vmake sz b z g l c)):=rfl
theorem id_vmake(sz b z g l c):ID P kd kc env σ σb (.ext (.vmake sz b z g l c))=XO env σ kd (.ext (.vmake sz b z g l c)):=rfl
theorem tc_vmake(nn tl sz b z g l c):TC nn env σ (.ext (.vmake sz b z g l c)) tl none=tl:=rfl
theorem xo_vmake(sz bytes z g n c):XO env σ R (.ext (.vmake sz bytes z g n c))=bh (aval env n) λn=>bh (aval env c) λc=>bh (eE g z) λe=>match n,c with
  | .int .i64 n, .int .i64 c=>cV (az e=z/\z.all bY=true/\0<=n/\n<=c/\c*bytes<=35184372088832) (fresh σ λo=>R (.vec o n.toNat) (some (o,(.vec sz n.toNat (List.replicate n.toNat z).flatten))))
  |_,_=>False:=rfl
theorem ir_vapp(sz b s x):IR P Q k env σ (.ext (.vapp sz b s x))=XO env σ (λv e=>k v (fN σ e)) (.ext (.vapp sz b s x)):=rfl
theorem id_vapp(sz b s x):ID P kd kc env σ σb (.ext (.vapp sz b s x))=XO env σ kd (.ext (.vapp sz b s x)):=rfl
theorem tc_vapp(nn tl sz b s x):TC nn env σ (.ext (.vapp sz b s x)) tl none=tl:=rfl
theorem xo_vapp(sz bytes s x):XO env σ R (.ext (.vapp sz bytes s x))=bh (aval env s) λs=>bh (aval env x) λx=>match s,x with
  | .vec o len, .slice m _=>match σ o with
   |some (.vec sz' n cs)=>cV (sz'=sz/\len=n/\iy sz m/\(n+m.length)*bytes<=35184372088832) (R (.vec o (n+m.length)) (some (o,(.vec sz (n+m.length) (cs++flat m)))))
   |_=>False
  | .pre o len n, .slice m _=>match σ o with
   | some (.vec sz' n' cs) => cV (sz' = sz /\ n = n' /\ len <= n /\ iy sz m /\ (n + m.length) * bytes <= 35184372088832)
     (ME (len+m.length<=n) (R (.pre o (len+m.length) n) (some (o,(.vec sz n (putAt cs (len*sz) (flat m)))))) (R (.vec o (len+m.length)) (some (o,(.vec sz (len+m.length) (cs.take (len*sz)++flat m))))))
   |_=>False
  | .slice l t, .slice m _=>cV (iy sz l/\iy sz m/\(l.length+m.length)*bytes<=35184372088832) (match t with
   | .nil=>gh m (R (.slice l .nil) none) (fresh σ λo=>R (.vec o (l.length+m.length)) (some (o,(.vec sz (l.length+m.length) (flat l++flat m)))))
   | .full=>gh m (R (.slice l .full) none) (fresh σ λo=>R (.vec o (l.length+m.length)) (some (o,(.vec sz (l.length+m.length) (flat l++flat m)))))
   |_=>False)
  |_,_=>False:=rfl
theorem ir_vfrz(g x):IR P Q k env σ (.ext (.vfrz g x))=XO env σ (λv e=>k v (fN σ e)) (.ext (.vfrz g x)):=rfl
theorem xo_vfrz(g x):XO env σ R (.ext (.vfrz g x))=bh (aval env x) λx=>match x with
  | .vec o len=>match σ o with
   |some (.vec sz n cs)=>cV (len=n/\(g=false->sz=1)) (Bj (fk g sz n cs) λl=>R (.slice l (.own o)) (some (o,(.grow sz n))))
   |_=>False
  | .pre o len n=>match σ o with
   |some (.vec sz n' cs)=>cV (n=n'/\len<=n/\(g=false->sz=1)) (Bj (fk g sz n cs) λl=>R (.slice (l.take len) (.own o)) (some (o,(.grow sz n))))
   |_=>False
  |_=>False:=rfl
theorem ir_retok(sz x):IR P Q k env σ (.ext (.retok sz x))=XO env σ (λv e=>k v (fN σ e)) (.ext (.retok sz x)):=rfl
theorem xo_retok(sz x):XO env σ R (.ext (.retok sz x))=bh (aval env x) λx=>match x with
  | .slice l .full=>cV (iy sz l/\0<l.length) (fresh σ λo=>R (.slice l (.own o)) (some (o,(.grow sz l.length))))
  | .slice [] .nil=>fresh σ λo=>R (.slice [] (.own o)) (some (o,(.grow sz 0)))
  |_=>False:=rfl
theorem Cm(t:Nat):r7 t []=none:=rfl
theorem zF(t a f:Nat)(r):r7 t ((a,f)::r)=if t=a then some f else r7 t r:=rfl
theorem zH(t a:Nat)(k)(r):IE t ((a,k)::r)=if t=a then some k else IE t r:=rfl
theorem JC(tbl)(t:Nat)(v:AV):xJ tbl (some (.iface t v))=(r7 t tbl).map λf=> .fn f [v] []:=rfl
theorem LO(k:Nat)(a b:AV):LF (some k) a b=qK k a b:=rfl
theorem LP:LF none (.agg []) (.agg [])=some true:=rfl
theorem Gd(c a b):XO env σ R (.pick c a b)=bh (aval env c) λp=>match p with
  | .bool p=>if p then bh (aval env a) λa=>R a none else bh (aval env b) λa=>R a none
  |_=>False:=rfl
theorem Cn(z):XO env σ R (.alloc z)=fresh σ λo=>R (.ptr o 0) (some (o,(.cells z))):=rfl
theorem JD(x):XO env σ R (.box x)=bh (aval env x) λa=>fresh σ λo=>R (.ptr o 0) (some (o,(.cells (az a)))):=rfl
theorem Ge(x):XO env σ R (.boxI x)=bh (aval env x) λa=>cV ((az a).all bY=true) (R (.cptr (az a)) none):=rfl
theorem Co(z ps):XO env σ R (.build z ps)=gj (gV env z ps) λcs=>R (.agg cs) none:=by
 show bt _ env σ R (.build z ps)=_
 unfold bt gj;rfl
theorem zI(sz ps):XO env σ R (.bslice sz ps)=gj (cK env ps) λl=>cV ((l.all λx=>(az x).length==sz&&(az x).all bY)=true) (R (.slice l .full) none):=rfl
theorem Gf(g n x):XO env σ R (.load g n x)=bh (aval env x) λp=>match p with
  | .ptr o off=>match σ o with
   |some (.cells cs)=>cV (off+n<=cs.length) (bh (eE g ((cs.drop off).take n)) λa=>R a none)
   |_=>False
  | .eptr o m off=>match σ o with
   |some (.vec _ m' cs)=>cV (m=m'/\off+n<=cs.length) (bh (eE g ((cs.drop off).take n)) λa=>R a none)
   |_=>False
  | .cptr cs=>cV (n<=cs.length) (bh (eE g (cs.take n)) λa=>R a none)
  |_=>False:=rfl
theorem Cp(n p x):XO env σ R (.store n p x)=bh (aval env p) λp=>bh (aval env x) λa=>match p with
  | .ptr o off=>match σ o with
   |some (.cells cs)=>cV ((az a).length=n/\off+n<=cs.length/\(az a).all bY=true) (R (.tup []) (some (o,(.cells (putAt cs off (az a))))))
   |_=>False
  | .eptr o m off=>match σ o with
   |some (.vec sz m' cs)=>cV (m=m'/\(az a).length=n/\off+n<=cs.length/\(az a).all bY=true) (R (.tup []) (some (o,(.vec sz m' (putAt cs off (az a))))))
   |_=>False
  |_=>False:=rfl
theorem zJ(x):XO env σ R (.nilchk x)=bh (aval env x) λp=>match p with
  | .ptr o off=>R (.ptr o off) none
  | .eptr o m off=>R (.eptr o m off) none
  | .cptr cs=>R (.cptr cs) none
  | .fn f a b=>R (.fn f a b) none
  |_=>False:=rfl
theorem JE(op tb x y):XO env σ R (.bin op tb x y)=bh (aval env x) λa=>bh (aval env y) λb=>bh (EJ op tb a b) λr=>R r none:=rfl
theorem JF(neg ks x y):XO env σ R (.eqs neg ks x y)=bh (aval env x) λa=>bh (aval env y) λb=>match a,b with
  | .agg l, .agg m=>match bw ks l m with
   |some r=>R (.bool (if neg then !r else r)) none
   |none=>False
  |_,_=>False:=rfl
theorem JG(x):XO env σ R (.un .not x)=bh (aval env x) λa=>match a with
  | .bool b=>R (.bool !b) none
  |_=>False:=by
 show(bh (aval env x) _)=_
 cases aval env x with
 |none=>rfl
 |some a=>cases a<;>rfl
theorem JH(x):XO env σ R (.un .xor x)=bh (aval env x) λa=>match a with
  | .int .u64 n=>R (.int .u64 (IntKind.u64.wrap (BitVec.ofInt IntKind.u64.bits 18446744073709551615 ^^^ BitVec.ofInt IntKind.u64.bits n).toNat)) none
  |_=>False:=by
 show(bh (aval env x) _)=_
 cases aval env x with
 |none=>rfl
 |some a=>cases a<;>first|rfl|(rename_i k n;cases k<;>rfl)
theorem JI(x):XO env σ R (.un .neg x)=bh (aval env x) λa=>match a with
  | .int k n=>R (.int k (k.wrap (0-n))) none
  |_=>False:=by
 show(bh (aval env x) _)=_
 cases aval env x with
 |none=>rfl
 |some a=>cases a<;>rfl
theorem Gg(kk x):XO env σ R (.conv kk x)=bh (aval env x) λa=>match a with
  | .int _ n=>R (.int kk (kk.wrap n)) none
  |_=>False:=rfl
theorem Gi(f first caps):XO env σ R (.mkfn f first caps)=gj (cK env first) λl=>gj (cK env caps) λm=>R (.fn f l m) none:=rfl
theorem Gj(off x):XO env σ R (.fldA off x)=bh (aval env x) λp=>match p with
  | .ptr o o1=>R (.ptr o (o1+off)) none
  | .eptr o m o1=>R (.eptr o m (o1+off)) none
  | .cptr cs=>R (.cptr (cs.drop off)) none
  |_=>False:=rfl
theorem Gk(g off n x):XO env σ R (.fldV g off n x)=bh (aval env x) λa=>match a with
  | .agg cs=>cV (off+n<=cs.length) (bh (eE g ((cs.drop off).take n)) λa=>R a none)
  |_=>False:=rfl
theorem Gl(sz x i):XO env σ R (.idxS sz x i)=bh (aval env x) λs=>bh (aval env i) λi=>match s,i with
  | .slice l _, .int _ i=>cV (0<=i) (bh l[i.toNat]? λe=>cV ((az e).length=sz) (R (.cptr (az e)) none))
  | .vec o len, .int _ i=>cV (0<=i/\i<len) (R (.eptr o len (i.toNat*sz)) none)
  | .pre o len n, .int _ i=>cV (0<=i/\i<len) (R (.eptr o n (i.toNat*sz)) none)
  |_,_=>False:=rfl
theorem Gm(sz len x i):XO env σ R (.idxR sz len x i)=bh (aval env x) λs=>bh (aval env i) λi=>match s,i with
  | .ptr o off, .int _ i=>cV (0<=i/\i<len) (R (.ptr o (off+i.toNat*sz)) none)
  | .eptr o m off, .int _ i=>cV (0<=i/\i<len) (R (.eptr o m (off+i.toNat*sz)) none)
  | .cptr cs, .int _ i=>cV (0<=i/\i<len) (R (.cptr (cs.drop (i.toNat*sz))) none)
  |_,_=>False:=rfl
theorem JJ(sz x lo hi mx):XO env σ R (.slc sz x lo hi mx)=bh (aval env x) λs=>match s with
  | .slice l _=>cV (iy sz l) (qq env hi l.length l.length λh=>qq env lo 0 h λlo=>match mx with
   |none=>R (.slice ((l.take h).drop lo) .no) none
   |some m=>cV (hi.isSome=true) (bh (aval env m) λm=>match m with
    | .int _ m=>cV (m=h) (R (.slice ((l.take h).drop lo) .full) none)
    |_=>False))
  | .vec o len=>cV (lo.isSome=false/\mx.isSome=false) (qq env hi len len λh=>R (.pre o h len) none)
  | .pre o len n=>cV (lo.isSome=false/\mx.isSome=false) (qq env hi len len λh=>R (.pre o h n) none)
  |_=>False:=rfl
theorem wk(x i):XO env σ R (.extract x i)=bh (aval env x) λa=>match a with
  | .tup vs=>bh vs[i]? λa=>R a none
  |_=>False:=rfl
theorem JK(x):XO env σ R (.len x)=bh (aval env x) λa=>match a with
  | .slice l _=>R (.int .i64 l.length) none
  | .vec _ n=>R (.int .i64 n) none
  | .pre _ len _=>R (.int .i64 len) none
  |_=>False:=rfl
theorem JL(x):XO env σ R (.cap x)=bh (aval env x) λa=>match a with
  | .slice l .full=>R (.int .i64 l.length) none
  | .slice _ .nil=>R (.int .i64 0) none
  |_=>False:=rfl
theorem zK(sz bytes s x):XO env σ R (.append sz bytes s x)=bh (aval env s) λs=>bh (aval env x) λx=>match s,x with
  | .slice l t, .slice m _=>cV (iy sz l/\iy sz m/\(l.length+m.length)*bytes<=35184372088832) (match t with
   | .no=>False
   | .nil=>gh m (R (.slice l .nil) none) (fresh σ λo=>R (.slice (l++m) (.own o)) (some (o,(.grow sz (l++m).length))))
   | .full=>gh m (R (.slice l .full) none) (fresh σ λo=>R (.slice (l++m) (.own o)) (some (o,(.grow sz (l++m).length))))
   | .own o=>cV (σ o=some (.grow sz l.length)) (R (.slice (l++m) (.own o)) (some (o,(.grow sz (l++m).length)))))
  |_,_=>False:=rfl
theorem Gn(sz bytes s x):XO env σ R (.appz sz bytes s x)=bh (aval env s) λs=>bh (aval env x) λx=>match s,x with
  | .slice l .nil, .int .i64 n=>cV (l=[]/\0<n/\n*bytes<=35184372088832) (fresh σ λo=>R (.raw o n.toNat) (some (o,(.grow sz 0))))
  |_,_=>False:=rfl
theorem Gp(sz x lo hi mx):XO env σ R (.slcN sz x lo hi mx)=bh (aval env x) λs=>match s with
  | .slice l .nil=>cV (l=[]/\mx.isSome=false) (qq env hi 0 0 λ_=>qq env lo 0 0 λ_=>R (.slice [] .nil) none)
  |_=>False:=rfl
theorem Gq(sz x lo hi mx):XO env σ R (.slcR sz x lo hi mx)=bh (aval env x) λs=>match s with
  | .raw o len=>cV (lo.isSome=false/\hi.isSome=true/\mx.isSome=false) (qq env hi len len λh=>cV (h=0) (R (.slice [] (.own o)) none))
  |_=>False:=rfl
theorem JM(xs):XO env σ R (.min xs)=gj (cK env xs) λl=>match vB l with
  |some r=>R (.int .i64 r) none
  |none=>False:=rfl
theorem JN(xs):XO env σ R (.max xs)=gj (cK env xs) λl=>match vC l with
  |some r=>R (.int .i64 r) none
  |none=>False:=rfl
theorem wl(sz bytes z g n c):XO env σ R (.mkslice sz bytes z g n c)=bh (aval env n) λn=>bh (aval env c) λc=>bh (eE g z) λe=>match n,c with
  | .int .i64 n, .int .i64 c=>cV (az e=z/\z.all bY=true/\0<=n/\n<=c/\c*bytes<=35184372088832) (fresh σ λo=>R (.slice (List.replicate n.toNat e) (.own o)) (some (o,(.grow sz n.toNat))))
  |_,_=>False:=rfl
theorem wm(t x):XO env σ R (.mkiface t x)=bh (aval env x) λa=>R (.iface t a) none:=rfl
theorem Cq(cs):gV env cs []=some cs:=rfl
theorem zL(cs off n x r):gV env cs ((off,n,x)::r)=match aval env x with
  |some a=>if (az a).length=n/\off+n<=cs.length then gV env (putAt cs off (az a)) r else none
  |none=>none:=rfl
end
theorem xX(a:AV)(R:AV->Prop):bh (some a) R=R a:=rfl
theorem JO(R:AV->Prop):bh none R=False:=rfl
theorem Cr(a:List AV)(R:List AV->Prop):gj (some a) R=R a:=rfl
theorem Cs(k:Prop):cV True k=k:=by simp[cV]
theorem LQ(r s:Prop):gd true true r s=r:=by simp[gd]
theorem LR(r s:Prop):gd false false r s=r:=by simp[gd]
theorem LS(r s:Prop):gd true false r s=s:=by simp[gd]
theorem LU(r s:Prop):gd false true r s=s:=by simp[gd]
theorem MG(r s:Prop):br true r s=r:=by simp[br]
theorem MH(r s:Prop):br false r s=s:=by simp[br]
theorem zM(r s:Prop):gh [] r s=r:=by simp[gh]
theorem wn(a:AV)(l:List AV)(r s:Prop):gh (a::l) r s=s:=by simp[gh]
theorem LV(σ:aA):fN σ none=σ:=rfl
theorem LW(σ:aA)(o:Nat)(x:AObj):fN σ (some (o,x))=aH σ o x:=rfl
theorem zO(tl:List (Nat×TI)):iU tl []=True:=rfl
theorem wo(tl:List (Nat×TI))(i j:Nat)(r:List (Nat×Nat)):iU tl ((i,j)::r)=((match cm i tl,cm j tl with
  |some a,some b=>kz a b
  |_,_=>True)/\iU tl r):=rfl
theorem zP(i:Nat):cm i []=none:=rfl
theorem zQ(i:Nat)(o:TI)(r:List (Nat×TI)):cm i ((i,o)::r)=some o:=by simp[cm]
theorem wq(i j:Nat)(o:TI)(r:List (Nat×TI))(h:i≠j):cm i ((j,o)::r)=cm i r:=by simp[cm,h]
theorem JP(a b:Nat)(x y):kz (.mem a x) (.mem b y)=¬a=b:=rfl
theorem JQ(a:Nat)(x us):kz (.mem a x) (.call us)=iT a x us:=rfl
theorem JR(b:Nat)(us y):kz (.call us) (.mem b y)=oV b us:=rfl
theorem JS(us vs):kz (.call us) (.call vs)=(us=[]/\vs=[]):=rfl
theorem wu(o rd):iT o rd []=True:=rfl
theorem tX(o rd a x r):iT o rd ((a,x)::r)=((¬a=o\/match rd,x with
  |some (off,n,vs), .cells cs=>off+n<=cs.length/\(cs.drop off).take n=vs
  |_,_=>False)/\iT o rd r):=rfl
theorem zR(o):oV o []=True:=rfl
theorem ww(o a x r):oV o ((a,x)::r)=(¬a=o/\oV o r):=rfl
theorem zU(σ:aA):oW σ []=True:=rfl
theorem wx(σ:aA)(a x r):oW σ ((a,x)::r)=(σ a≠none/\oW σ r):=rfl
theorem Ct(σ:aA):fm σ []=σ:=rfl
theorem zV(σ:aA)(a x r):fm σ ((a,x)::r)=fm (aH σ a x) r:=rfl
theorem tY{α:Type}(a:α)(R:α->Prop):Bj (some a) R=R a:=rfl
theorem tZ{α:Type}(R:α->Prop):Bj none R=False:=rfl
theorem aa(σ:aA)(o o':Nat)(x:AObj):(aH σ o x o'=none)=(o'≠o/\σ o'=none):=by
 by_cases h:o'=o<;>simp[aH,h]
theorem JT(i:Nat)(v:Option AV)(e:bg):lk ((i,v)::e) i=v:=by simp[lk]
theorem Gr(i j:Nat)(v:Option AV)(e:bg)(h:i≠j):lk ((j,v)::e) i=lk e i:=by simp[lk,h]
theorem JU(env:bg)(n:Nat):aval env (.t n)=lk env n:=rfl
theorem JV(env:bg)(v:AV):aval env (.c v)=some v:=rfl
theorem JW(env:bg)(n:Nat)(tbl):aval env (.m n tbl)=xJ tbl (lk env n):=rfl
theorem zW(env:bg):cK env []=some []:=rfl
theorem wy(env:bg)(x:AOpnd)(xs:List AOpnd):cK env (x::xs)=match aval env x,cK env xs with
  |some a,some l=>some (a::l)
  |_,_=>none:=rfl
theorem JX(d:Nat)(v:AV)(env:bg):putA (some d) v env=(d,some v)::env:=rfl
theorem JY(v:AV)(env:bg):putA none v env=env:=rfl
theorem Gs(d:Nat)(env:bg):skipA (some d) env=(d,some (.tup []))::env:=rfl
theorem Gt(env:bg):skipA none env=env:=rfl
theorem Zr{p:Bool}{r s:Prop}(h1:p=true->r)(h2:p=false->s):br p r s:=⟨h1,h2⟩
theorem Gu(n:Nat):iy n []=True:=by simp[iy]
theorem Cu(n:Nat)(a:AV)(l:List AV):iy n (a::l)=((az a).length=n/\iy n l):=by simp[iy]
theorem wz(n:Nat)(l m:List AV):iy n (l++m)=(iy n l/\iy n m):=by
 simp only[iy,List.mem_append,eq_iff_iff];exact⟨λh=>⟨λx hx=>h x (.inl hx),λx hx=>h x (.inr hx)⟩,λh x hx=>hx.elim (h.1 x) (h.2 x)⟩
theorem dJ{α:Type}(n:Nat)(f:α->AV)(l:List α)(h:∀a,(az (f a)).length=n):iy n (l.map f)=True:=by
 simp[iy,h]
section
variable {X : Type} (mk : X -> bg) (sg : X -> aA) (inv : X -> Prop) (ms : X -> Nat)
def xY(n:Nat)(env:bg)(σ:aA):Prop:=∃x,n=ms x/\env=mk x/\σ=sg x/\inv x
theorem loop_rule{body:(AExit->bg->aA->Prop)->bg->aA->Prop}{Q:AExit->bg->aA->Prop}{env:bg}{σ:aA}(x0:X)
  (h0:WkF σ (mk x0) env/\nA [] (sg x0) σ/\inv x0)(hr:∀x,inv x->body (js (oU (xY mk sg inv ms) (ms x)) Q) (mk x) (sg x)):BP body Q env σ:=by
 refine⟨xY mk sg inv ms,⟨ms x0,mk x0,sg x0,⟨x0,rfl,rfl,rfl,h0.2.2⟩,Ii h0.1 h0.2.1⟩,?_⟩;rintro n env σ ⟨x,rfl,rfl,rfl,hi⟩;exact hr x hi
theorem bP{n:Nat}{env:bg}{σ:aA}(x:X)(h:WkF σ (mk x) env/\nA [] (sg x) σ/\inv x/\ms x<n):oU (xY mk sg inv ms) n env σ:=
 ⟨ms x,mk x,sg x,h.2.2.2,⟨x,rfl,rfl,rfl,h.2.2.1⟩,Ii h.1 h.2.1⟩
end
theorem fw{R:ARes->aA->Prop}{v σ}(h:R (.ret v) σ):fin R v σ:=⟨v,σ,Vr.refl v σ,h⟩
theorem LX{R:ARes->aA->Prop}{v σ}(v0:AV)(σ0:aA)(h:R (.ret v0) σ0)(hv:FL σ v0 v)(hs:nA [] σ0 σ):fin R v σ:=⟨v0,σ0,vr_of hv hs,h⟩
theorem fin_eq{v0 v σ0 σ}(h:FL σ v0 v/\nA [] σ0 σ):fin (λr s=>r= .ret v0/\s=σ0) v σ:=⟨v0,σ0,vr_of h.1 h.2,rfl,rfl⟩
theorem ACalls.fl{P:Program}{f:FuncId}{args0 args:List AV}{σ0 σ:aA}{R:ARes->aA->Prop}(h:ACalls P f args0 σ0 R)(ha:xQ σ args0 args)(hs:nA [] σ0 σ):ACalls P f args σ R:=by
 refine⟨h.1,λS K w vals hS hr hsat=>?_⟩;obtain⟨K1,k1,k2,k3⟩:=view_fl hs S K w hS hsat;refine(h.2 S K1 w vals hS ?_ k2).mono λe w' ⟨K',r,σ',q1,q2⟩=>⟨K',r,σ',k1.trans q1,q2⟩;obtain⟨K2,m1,m2,m3⟩:=view_fl hs S K w hS hsat;exact⟨ha.1.trans hr.1,λi h1 h2=>k3 _ _ _ (ha.2 i h1 (by rw[<-ha.1];exact h1)) (hr.2 i (by rw[<-ha.1];exact h1) h2)⟩
theorem ACalls.flA{P:Program}{f:FuncId}{args0 args:List AV}{σ:aA}{R:ARes->aA->Prop}(h:ACalls P f args0 σ R)(ha:xQ σ args0 args):ACalls P f args σ R:=
 h.fl ha (λo _ x e=>⟨x,e, .refl _ x⟩)
theorem Im{P:Program}{f:FuncId}{fn:Func}{N:Nat}{ac:ACode}(hfn:P.funcs[f]?=some fn)(hb:fn.body.bind (tr P N)=some ac)(hname:(fn.name=="runtime.NumGoroutine")=false):ct P f=true:=by
 cases hc:fn.body with
 |none=>simp[hc] at hb
 |some c=>simp[ct,hfn,hc,hname]
theorem ACalls.virt{P:Program}{f:FuncId}{args:List AV}{σ:aA}{R:ARes->aA->Prop}(hc:ct P f=true)(sz:Nat)
  (h:∀o,σ o=none->(∀o',¬σ o'=none->¬o'=o)->(∀o',¬σ o'=none->¬o=o')->ACalls P f args (aH σ o (.virt sz)) R):ACalls P f args σ R:=by
 have h':∀o,σ o=none->ACalls P f args (aH σ o (.virt sz)) R:=λo ho=>h o ho (λo' h' e=>h' (e▸ho)) (λo' h' e=>h' (e▸ho));refine⟨hc,λS K w vals hS hr hs=>?_⟩;obtain⟨nm,n1,n2,n3⟩:=lf hs hS;obtain⟨k1,k2⟩:=hs.name n1 (.virt sz) (.virt sz) (by simp[ObjSat]) (λo' x' e' q1 q2 q3 q4=>by simp[Own.real] at q4);refine((h' nm n3).2 S _ w vals hS (hr.mono k1) k2).mono λe w' ⟨K',r,σ',q1,q2⟩=>⟨K',r,σ',?_,q2⟩;refine Gh.leS.trans ⟨k1,λo hs hn=>?_⟩ q1;have:o≠nm:=λe=>n2 (e▸hs)
 simp[Gh.named,this,hn]
theorem ACalls.view{P:Program}{f:FuncId}{args:List AV}{σ:aA}{R R':ARes->aA->Prop}(h:ACalls P f args σ R)(hR:∀r s,R r s->∃v v0 s0,r= .ret v/\Vr v0 s0 v s/\R' (.ret v0) s0):ACalls P f args σ R':=by
 refine⟨h.1,λS K w vals hS hr hsat=>(h.2 S K w vals hS hr hsat).mono ?_⟩;rintro e w' ⟨K',r,σ',q1,q2,q3,q4⟩;obtain⟨v,v0,s0,rfl,hv,hr'⟩:=hR r σ' q4;cases e<;>first|exact q3.elim|skip
 obtain⟨K2,k1,k2,k3⟩:=Rel.view hv hS q3 q2;exact⟨K2, .ret v0,s0,q1.trans k1,k3,k2,hr'⟩
theorem ACalls.flo{P:Program}{f:FuncId}{args:List AV}{σ:aA}{R:ARes->aA->Prop}{o:Nat}{x0:AObj}(h:∃x,σ o=some x/\Ih σ x0 x)(c:ACalls P f args (aH σ o x0) R):ACalls P f args σ R:=by
 refine c.fl (.refl _ _) ?_;show la σ [] (aH σ o x0) σ
 rw[BB];refine⟨.inr h,?_⟩;rw[qV];trivial
theorem ACalls.one1{P:Program}{f:FuncId}{args:List AV}{σ σ':aA}{v:AV}{R:ARes->aA->Prop}(h:ACalls P f args σ (λr s=>r= .ret v/\s=σ'))(_:True)(hR:R (.ret v) σ'):ACalls P f args σ R:=
 h.mono λr s ⟨e1,e2⟩=>by subst e1 e2;exact hR
theorem ACalls.one{P:Program}{f:FuncId}{args:List AV}{σ σ':aA}{v:AV}{R:ARes->aA->Prop}(h:ACalls P f args σ (λr s=>r= .ret v/\s=σ'))(hR:R (.ret v) σ'):ACalls P f args σ R:=
 h.mono λr s ⟨e1,e2⟩=>by subst e1 e2;exact hR
theorem zX(l:List AV):az (.agg l)=l:=rfl
theorem Gv(l:List AV):bY (.agg l)=false:=rfl
theorem LY(l:List AV):eE true l=some (.agg l):=rfl
theorem LZ(l:List AV):eE false l=l.head?:=rfl
theorem jZ(k:IntKind)(n:Int):az (.int k n)=[(.int k n)]:=rfl
theorem Gw(k:IntKind)(n:Int):bY (.int k n)=true:=rfl
theorem cells_bool(b:Bool):az (.bool b)=[(.bool b)]:=rfl
theorem Cv(b:Bool):bY (.bool b)=true:=rfl
theorem j0(s:ByteArray):az (.str s)=[(.str s)]:=rfl
theorem Gx(s:ByteArray):bY (.str s)=true:=rfl
theorem wA:az .nilp=[.nilp]:=rfl
theorem Cw:bY .nilp=true:=rfl
theorem zY(o f:Nat):az (.ptr o f)=[(.ptr o f)]:=rfl
theorem Gy(o f:Nat):bY (.ptr o f)=true:=rfl
theorem wB(o n f:Nat):az (.eptr o n f)=[(.eptr o n f)]:=rfl
theorem Cx(o n f:Nat):bY (.eptr o n f)=true:=rfl
theorem wC(l:List AV):az (.cptr l)=[(.cptr l)]:=rfl
theorem Cy(l:List AV):bY (.cptr l)=true:=rfl
theorem cells_slice(l:List AV)(t:Tok):az (.slice l t)=[(.slice l t)]:=rfl
theorem zZ(l:List AV)(t:Tok):bY (.slice l t)=true:=rfl
theorem Aa(o n:Nat):az (.vec o n)=[(.vec o n)]:=rfl
theorem Gz(o n:Nat):bY (.vec o n)=true:=rfl
theorem Ab(o l n:Nat):az (.pre o l n)=[(.pre o l n)]:=rfl
theorem GA(o l n:Nat):bY (.pre o l n)=true:=rfl
theorem Ac(o n:Nat):az (.raw o n)=[(.raw o n)]:=rfl
theorem GB(o n:Nat):bY (.raw o n)=true:=rfl
theorem Ad(l:List AV):az (.tup l)=[(.tup l)]:=rfl
theorem GC(l:List AV):bY (.tup l)=false:=rfl
theorem Ae(o:Nat):az (.map o)=[(.map o)]:=rfl
theorem GD(o:Nat):bY (.map o)=true:=rfl
theorem su:az .nilmap=[.nilmap]:=rfl
theorem wD:bY .nilmap=true:=rfl
theorem Cz(f:Nat)(a b:List AV):az (.fn f a b)=[(.fn f a b)]:=rfl
theorem JZ(f:Nat)(a b:List AV):bY (.fn f a b)=true:=rfl
theorem t6:az .nilfn=[.nilfn]:=rfl
theorem Af:bY .nilfn=true:=rfl
theorem t7(t:Nat)(v:AV):az (.iface t v)=[(.iface t v)]:=rfl
theorem Ag(t:Nat)(v:AV):bY (.iface t v)=true:=rfl
theorem wE:az .nili=[.nili]:=rfl
theorem CA:bY .nili=true:=rfl
attribute [go_sem] zX Gv LY LZ jZ Gw cells_bool Cv j0 Gx wA Cw zY Gy wB Cx wC Cy cells_slice zZ Aa Gz Ac GB Ad GC Ae GD su wD Cz JZ t6 Af t7 Ag wE CA
attribute [go_sem ↓] Gn Gp Gq FF FG FH F1 F2 F3 F4 F5 F6
attribute [go_sem] E5 BE LH BD BI BF zh IM IN BG BH zi E7 E8 BJ E9 qV IP E6
attribute [go_sem] md BC BB IL List.mem_cons List.not_mem_nil or_false false_or or_true true_or BK Option.isSome_none Option.isSome_some
attribute [go_sem] B3 zr
attribute [go_sem ↓] IY IW IU Fi B2 Fv Jk Jl FI FJ B9 Ca Jm Jn FK FM Cb Cc zx zy FN FO Cd Ce zz zA Jo Jp Jq Jr LM LN FP FQ FR FS FT FU FV FW FX FY FZ F0 Js Jt wb we Ju Jv Jw Jx zB zC Jy Jz JA JB wg wh wi wj F7 LV LW Fj IV IX Fk B4 Fl Fm IZ IT Fh B1 I0 I1 I2 I3 zc_ Fo Fp Fq Fs I4 I5 I6 I7 I8 Ft I9 Ja Fu B5 Jb Fw B6 Jc Fx B7 zt Fy B8 zu Jd Je LL Fz FA FB FC FD FE Jf vZ Jg Jh zw Ji Jj v7 v8 Gd Cn JD Ge Co zI Gf Cp zJ JE JF JG JI JH Gg Gi Gj Gk Gl Gm JJ wk JK JL zK JM JN wl wm Cq zL xX JT Gr JU JV zW wy JX JY Gs Gt
attribute [go_sem] zO wo zP zQ wq xX JO Cr Cs LQ LR LS LU MG MH zM wn Gu Cu wz eS nF eW EJ putAt vB vC qK bw qq one ne_eq not_false_eq_true
attribute [go_sem] List.nil_append List.append_nil List.cons_append List.length_cons List.length_nil List.take_zero List.drop_zero List.take_succ_cons List.drop_succ_cons List.head?_cons List.take_nil List.drop_nil List.all_cons List.all_nil Bool.and_true Bool.true_and and_true true_and
theorem sw{α:Type}(f:α->AV)(l:List α):List.take l.length (l.map f)=l.map f:=List.take_of_length_le (by simp)
theorem MI(a:AV)(l:List AV):(a::l)[0]?=some a:=rfl
theorem MJ(a b:AV)(l:List AV):(a::b::l)[1]?=some b:=rfl
theorem MK(a b c:AV)(l:List AV):(a::b::c::l)[2]?=some c:=rfl
theorem ML(a b c d:AV)(l:List AV):(a::b::c::d::l)[3]?=some d:=rfl
theorem MM(a b c d e:AV)(l:List AV):(a::b::c::d::e::l)[4]?=some e:=rfl
theorem MN(a b c d e f:AV)(l:List AV):(a::b::c::d::e::f::l)[5]?=some f:=rfl
theorem MO(a b c d e f g:AV)(l:List AV):(a::b::c::d::e::f::g::l)[6]?=some g:=rfl
theorem MP(a b c d e f g h:AV)(l:List AV):(a::b::c::d::e::f::g::h::l)[7]?=some h:=rfl
theorem MQ(a b c d e f g h i:AV)(l:List AV):(a::b::c::d::e::f::g::h::i::l)[8]?=some i:=rfl
attribute [go_sem] MI MJ MK ML MM MN MO MP MQ
theorem GF(a b:Int):(a==b)=decide (a=b):=by rw[Bool.eq_iff_iff];simp
theorem CB{α β:Type}(p:α×β):(p.1,p.2)=p:=rfl
theorem min2(a b:Int):(if b<a then b else a)=min a b:=by omega
theorem max2(a b:Int):(if b>a then b else a)=max a b:=by omega
theorem Zp{p:Bool}{r s:Prop}(h1:p=true->r)(h2:p=false->s):gd p true r s:=⟨h1,λh=>h2 (by simpa using h)⟩
theorem Zq{p:Bool}{r s:Prop}(h1:p=false->r)(h2:p=true->s):gd p false r s:=⟨h1,λh=>h2 (by simpa using h)⟩
theorem Za{q:Prop}[Decidable q]{r s:Prop}(h1:q->r)(h2:¬q->s):gd (decide q) true r s:=Zp (λh=>h1 (of_decide_eq_true h)) (λh=>h2 (of_decide_eq_false h))
theorem Zb{q:Prop}[Decidable q]{r s:Prop}(h1:¬q->r)(h2:q->s):gd (decide q) false r s:=Zq (λh=>h1 (of_decide_eq_false h)) (λh=>h2 (of_decide_eq_true h))
theorem Zc{q:Prop}[Decidable q]{r s:Prop}(h1:q->r)(h2:¬q->s):br (decide q) r s:=Zr (λh=>h1 (of_decide_eq_true h)) (λh=>h2 (of_decide_eq_false h))
theorem Zd{a:Int}{n:Nat}{r s:Prop}(h1:(a=OfNat.ofNat n)/\(a==OfNat.ofNat n)=true->r)(h2:(a≠OfNat.ofNat n)/\(a==OfNat.ofNat n)=false->s):gd (a==OfNat.ofNat n) true r s:=Zp (λh=>h1 ⟨by simpa using h,h⟩) (λh=>h2 ⟨by simpa using h,h⟩)
theorem Zj{a b:Int}{r s:Prop}(h1:(a<=b/\b<=a)/\(a==b)=true->r)(h2:(a≠b)/\(a==b)=false->s):gd (a==b) true r s:=Zp (λh=>h1 ⟨by have:=h;simp at this;omega,h⟩) (λh=>h2 ⟨by have:=h;simp at this;omega,h⟩)
theorem Ze{a:Int}{n:Nat}{r s:Prop}(h1:(a≠OfNat.ofNat n)/\(a==OfNat.ofNat n)=false->r)(h2:(a=OfNat.ofNat n)/\(a==OfNat.ofNat n)=true->s):gd (a==OfNat.ofNat n) false r s:=Zq (λh=>h1 ⟨by simpa using h,h⟩) (λh=>h2 ⟨by simpa using h,h⟩)
theorem Zk{a b:Int}{r s:Prop}(h1:(a≠b)/\(a==b)=false->r)(h2:(a<=b/\b<=a)/\(a==b)=true->s):gd (a==b) false r s:=Zq (λh=>h1 ⟨by have:=h;simp at this;omega,h⟩) (λh=>h2 ⟨by have:=h;simp at this;omega,h⟩)
theorem Zf{a:Int}{n:Nat}{r s:Prop}(h1:(a=OfNat.ofNat n)/\(a==OfNat.ofNat n)=true->r)(h2:(a≠OfNat.ofNat n)/\(a==OfNat.ofNat n)=false->s):br (a==OfNat.ofNat n) r s:=Zr (λh=>h1 ⟨by simpa using h,h⟩) (λh=>h2 ⟨by simpa using h,h⟩)
theorem Zl{a b:Int}{r s:Prop}(h1:(a<=b/\b<=a)/\(a==b)=true->r)(h2:(a≠b)/\(a==b)=false->s):br (a==b) r s:=Zr (λh=>h1 ⟨by have:=h;simp at this;omega,h⟩) (λh=>h2 ⟨by have:=h;simp at this;omega,h⟩)
theorem Zg{a:Int}{n:Nat}{r s:Prop}(h1:(a≠OfNat.ofNat n)/\(a != OfNat.ofNat n)=true->r)(h2:(a=OfNat.ofNat n)/\(a != OfNat.ofNat n)=false->s):gd (a != OfNat.ofNat n) true r s:=Zp (λh=>h1 ⟨by simpa using h,h⟩) (λh=>h2 ⟨by simpa using h,h⟩)
theorem Zm{a b:Int}{r s:Prop}(h1:(a≠b)/\(a != b)=true->r)(h2:(a<=b/\b<=a)/\(a != b)=false->s):gd (a != b) true r s:=Zp (λh=>h1 ⟨by have:=h;simp at this;omega,h⟩) (λh=>h2 ⟨by have:=h;simp at this;omega,h⟩)
theorem Zh{a:Int}{n:Nat}{r s:Prop}(h1:(a=OfNat.ofNat n)/\(a != OfNat.ofNat n)=false->r)(h2:(a≠OfNat.ofNat n)/\(a != OfNat.ofNat n)=true->s):gd (a != OfNat.ofNat n) false r s:=Zq (λh=>h1 ⟨by simpa using h,h⟩) (λh=>h2 ⟨by simpa using h,h⟩)
theorem Zn{a b:Int}{r s:Prop}(h1:(a<=b/\b<=a)/\(a != b)=false->r)(h2:(a≠b)/\(a != b)=true->s):gd (a != b) false r s:=Zq (λh=>h1 ⟨by have:=h;simp at this;omega,h⟩) (λh=>h2 ⟨by have:=h;simp at this;omega,h⟩)
theorem Zi{a:Int}{n:Nat}{r s:Prop}(h1:(a≠OfNat.ofNat n)/\(a != OfNat.ofNat n)=true->r)(h2:(a=OfNat.ofNat n)/\(a != OfNat.ofNat n)=false->s):br (a != OfNat.ofNat n) r s:=Zr (λh=>h1 ⟨by simpa using h,h⟩) (λh=>h2 ⟨by simpa using h,h⟩)
theorem Zo{a b:Int}{r s:Prop}(h1:(a≠b)/\(a != b)=true->r)(h2:(a<=b/\b<=a)/\(a != b)=false->s):br (a != b) r s:=Zr (λh=>h1 ⟨by have:=h;simp at this;omega,h⟩) (λh=>h2 ⟨by have:=h;simp at this;omega,h⟩)
theorem J0(p:Bool)(r s:Prop):br (!p) r s=br p s r:=by cases p<;>simp[br]
theorem CC(p:Bool)(r s:Prop):gd (!p) true r s=gd p false r s:=by cases p<;>simp[gd]
theorem CD(p:Bool)(r s:Prop):gd (!p) false r s=gd p true r s:=by cases p<;>simp[gd]
attribute [go_sem] J0 CC CD
theorem Zt{σ:aA}{k:Nat->Prop}(h:∀o,σ o=none->(∀o',¬σ o'=none->¬o'=o)->(∀o',¬σ o'=none->¬o=o')->k o):fresh σ k:=λo ho=>h o ho (λo' h' e=>h' (e▸ho)) (λo' h' e=>h' (e▸ho))
theorem Zv{p k:Prop}(h:p)(h':k):cV p k:=⟨h,h'⟩
theorem Zu{α:Type}{f:α->AV}{l:List α}{i:Nat}{R:AV->Prop}(h:i<l.length)(h':R (f l[i])):bh (l.map f)[i]? R:=by
 rw[List.getElem?_map,List.getElem?_eq_getElem h];exact h'
theorem Zs{m:List AV}{a b:Prop}(h1:m=[]->a)(h2:m≠[]->b):gh m a b:=⟨h1,h2⟩
theorem ah(n:Int)(h1: -9223372036854775808<=n)(h2:n<=9223372036854775807):IntKind.i64.wrap n=n:=by
 simp[IntKind.wrap,IntKind.signed,IntKind.bits];omega
attribute [go_sem] decide_true decide_false List.length_map Int.toNat_natCast Int.natCast_nonneg Bool.not_true Bool.not_false beq_self_eq_true bne_self_eq_false Int.ofNat_lt Int.ofNat_le Int.natCast_zero Int.sub_zero Int.cast_ofNat_Int sw min2 max2 not_true_eq_false false_and and_false Bool.false_and Bool.and_false CB List.length_append Int.natCast_add List.map_append List.map_cons List.map_nil List.take_zero List.flatten_nil List.flatten_cons
theorem cI{P:Program}(hm:P.follows .mixedOrders=true){f:FuncId}{fn:Func}{N:Nat}{rs:List ARV}{ac:ACode}{args:List AV}{σ:aA}{R:ARes->aA->Prop}
  (hfn:P.funcs[f]?=some fn)(hb:fn.body.bind (tr P N)=some ac.bare)(hname:(fn.name=="runtime.NumGoroutine")=false)(hN:fn.ntmps=N)
  (hr:cJ P fn.results.toList=some rs)(hargs:args.length<=N)(h:XC P ac (pi rs R) (eW 0 args) σ):ACalls P f args σ R:=
 B0 hm hfn hb hname hN hr hargs h
attribute [go_sem] JP JQ JR JS wu tX zR ww zU wx Ct zV tY tZ
attribute [go_sem ↓] Cj Cl Cf Cg Ch Ci F8 F9 Ga Gb Gc id_mset tc_mset xo_mset ir_bsliceG xo_bsliceG ir_vmake id_vmake tc_vmake xo_vmake ir_vapp id_vapp tc_vapp xo_vapp ir_vfrz xo_vfrz ir_retok xo_retok
attribute [go_sem ↓] JW
attribute [go_sem] Cm zF zH JC LO LP Ab GA LC LD Option.map_some
end Abs
namespace Abs
open Go
def isAgg(P:Program)(t:TypeId):Bool:=
 match P.underlying t with
 |some (.struct _)=>true
 |some (.array _ _)=>true
 |_=>false
def CE(P:Program):List Field->Nat->Nat->Bool
 |[],off,n=>off==n
 |f::fs,off,n=>f.offset==off&&CE P fs (off+P.cellsOf f.type) n
def mp(C:TypeId->List AV->Prop):List TypeId->List AV->Prop
 |[],cs=>cs=[]
 |t::ts,cs=>∃p q,cs=p++q/\C t p/\mp C ts q
def bm(P:Program):Nat->TypeId->List AV->Prop
 |0,_,_=>False
 |g+1,t,cs=>
  match P.underlying t with
  |some .bool=>∃b,cs=[.bool b]
  |some (.int k)=>∃n,cs=[.int k n]/\k.min<=n/\n<=k.max
  |some .string=>∃s:ByteArray,cs=[.str s]/\s.size<=maxLen
  |some (.slice e)=>∃l,cs=[.slice l .no]/\l.length<=maxLen/\∀x∈l,∃es,eE (isAgg P e) es=some x/\bm P g e es
  |some (.struct fs)=>mp (bm P g) (fs.toList.map (·.type)) cs
  |some (.array n e)=>mp (bm P g) (List.replicate n e) cs
  |_=>False
def lj(W:World)(b o:Nat):Option Value:=if b<W.heap.size then (W.cell? ⟨b,o,none⟩).filter (·.oneCell') else none
def kH(W:World):Gh:={base:=W,claim:=lj W,own:=λ_=>none,ds:=[]}
theorem CF(W:World):Sat (kH W) (λ_=>none) W where
 os:=rfl
 tape:=rfl
 output:=rfl
 size:=Nat.le_refl _
 old:=λ_ _=>rfl
 free:=λb o h=>by
  have:W.heap[b]?=none:=by simp[kH] at h|-;omega
  simp[World.frozen?,this]
 claim:=λb o v h=>by
  simp only[kH,lj] at h;split at h
  ·simp at h;exact h.1
  ·simp at h
 one:=λb o v h=>by
  simp only[kH,lj] at h;split at h
  ·simp at h;exact h.2
  ·simp at h
 live:=λo x h=>by simp at h
 apart:=λo o' x x' e e' h=>by simp at h
 room:=⟨0,λ_ _=>rfl⟩
theorem sat_grown{K:Gh}{σ:aA}{W w:World}(hK:K.base=W)(h:Sat K σ w):Go.RowKit.Grown W w:=by
 subst hK;refine⟨⟨h.os,h.output,λi hi=>?_⟩,λa=>?_,h.size⟩
 ·rw[h.old i hi];generalize K.base.heap[i]?=x;cases x with
  |none=>rfl
  |some x=>
   cases x with
   |cells c t fr=>exact⟨rfl,rfl,rfl,λ_ _=>rfl⟩
   |map es clock=>exact .inr ⟨rfl,rfl⟩
   |_=>rfl
 ·rcases Nat.lt_or_ge a.block K.base.heap.size with hb|hb
  ·simp only[World.frozen?,h.old _ hb]
  ·have h1:=h.free a.block a.off hb;have h2:K.base.heap[a.block]?=none:=by simp;omega
   have e1:w.frozen? a=w.frozen? ⟨a.block,a.off,none⟩:=rfl;rw[e1,h1];simp[World.frozen?,h2]
theorem jw{α β:Type}{g:α->Option β}:∀{l:List α} {ys:List β},l.mapM g=some ys->∀a∈l,∃b,g a=some b
 |[],_,_,a,ha=>by simp at ha
 |x::l,ys,h,a,ha=>by
  simp only[List.mapM_cons,Option.bind_eq_bind,Option.bind_eq_some_iff,Option.pure_def,Option.some.injEq] at h;obtain⟨y,h1,zs,h2,_⟩:=h;rcases List.mem_cons.1 ha with rfl|ha
  ·exact⟨y,h1⟩
  ·exact jw h2 a ha
theorem t8{α β:Type}{g:α->Option β}:∀{l:List α} {ys:List β},l.mapM g=some ys->ys.length=l.length/\∀(i:Nat) a y,l[i]?=some a->ys[i]?=some y->g a=some y
 |[],ys,h=>by simp at h;subst h;simp
 |x::l,ys,h=>by
  simp only[List.mapM_cons,Option.bind_eq_bind,Option.bind_eq_some_iff,Option.pure_def,Option.some.injEq] at h;obtain⟨y,h1,zs,h2,rfl⟩:=h;obtain⟨q1,q2⟩:=t8 h2;refine⟨by simp[q1],λi a y' ha hy=>?_⟩;cases i with
  |zero=>simp at ha hy;subst ha;subst hy;exact h1
  |succ i=>exact q2 i a y' (by simpa using ha) (by simpa using hy)
theorem pj{α:Type}{p:Nat->α->Prop}:∀n,(∀i,i<n->∃x,p i x)->∃l:List α,l.length=n/\∀(i:Nat) x,l[i]?=some x->p i x
 |0,_=>⟨[],rfl,by simp⟩
 |n+1,h=>by
  obtain⟨l,h1,h2⟩:=pj n λi hi=>h i (by omega);obtain⟨x,hx⟩:=h n (by omega);refine⟨l++[x],by simp[h1],λi y hy=>?_⟩;rcases Nat.lt_or_ge i l.length with hi|hi
  ·rw[List.getElem?_append_left hi] at hy;exact h2 i y hy
  ·rw[List.getElem?_append_right hi] at hy
   have:i-l.length=0:=by
    rcases Nat.eq_zero_or_pos (i-l.length) with h0|h0
    ·exact h0
    ·rw[List.getElem?_eq_none (by simp;omega)] at hy;simp at hy
   rw[this] at hy;simp at hy;subst hy;have:i=n:=by omega
   subst this;exact hx
theorem rh{W:World}{a:Addr}{v:Value}(h:W.cell? a=some v):a.spot=none/\a.block<W.heap.size:=by
 unfold World.cell? at h;split at h
 ·rename_i c el fr hc
  refine⟨?_,?_⟩
  ·cases hs:a.spot with
   |none=>rfl
   |some s=>simp[hs] at h
  ·rcases Nat.lt_or_ge a.block W.heap.size with h'|h'
   ·exact h'
   ·simp[Array.getElem?_eq_none h'] at hc
 ·simp at h
theorem ua{a:Addr}(h:a.spot=none)(n:Nat):a.add n=⟨a.block,a.off+n,none⟩:=by
 unfold Addr.add;split
 ·rename_i hn;subst hn;cases a;simp at h;subst h;rfl
 ·rfl
theorem Ah{W:World}{b o:Nat}{v:Value}(h:W.cell? ⟨b,o,none⟩=some v)(h1:v.oneCell'=true):(kH W).claim b o=some v:=by
 have:=(rh h).2
 simp only[kH,lj];rw[if_pos this,h];simp[h1]
theorem Ai{g:Bool}{es:List AV}{x:AV}(h:eE g es=some x)(h1:es.all bY=true)(hg:g=false->es.length=1):az x=es:=by
 unfold eE at h;cases g with
 |true=>simp at h;subst h;rfl
 |false=>
  have:=hg rfl
  match es,this with
  |[v],_=>
   simp at h;subst h
   simp at h1
   cases v<;>simp[bY] at h1<;>rfl
theorem kj{H:Type}{enc:TypeId×Value->H}{P:Program}(hl:laidOutB P=true){W W':World}{sp':Nat->Bool}:∀{ts:List TypeId} {vs:List Value} {ds:List (DataW H)} {ps:List MemPlace},
  (∀t∈ts,P.readableRec t=true/\t<P.types.size)->DataW.TrodAll enc P W 0 (λ_=>true) true ts vs ds ps->(∀p∈ps,W.sameAt W' p)->(∀p∈ps,sp' p.block=true)->DataW.TrodAll enc P W' 0 sp' true ts vs ds ps
 |[],[],[],_,_,h,_,_=>h
 |t::ts,v::vs,d::ds,_,ht,⟨p,q,h1,h2,hpq⟩,h3,h4=>by
  subst hpq
  exact⟨p,q,WideElems.Trod_stays hl (ht t (by simp)).1 (ht t (by simp)).2 h1 (λx hx=>h3 x (by simp[hx])) (λx hx=>h4 x (by simp[hx])),
   kj hl (λt h=>ht t (by simp[h])) h2 (λx hx=>h3 x (by simp[hx])) (λx hx=>h4 x (by simp[hx])),rfl⟩
 |[],_::_,_,_,_,h,_,_=>h.elim
 |[],[],_::_,_,_,h,_,_=>h.elim
 |_::_,[],_,_,_,h,_,_=>h.elim
 |_::_,_::_,[],_,_,h,_,_=>h.elim
theorem wF{W W':World}(h:Go.RowKit.Grown W W')(hsz:∀b,b<W.heap.size->W'.heap[b]?=W.heap[b]?){p:MemPlace}(hp:p.block<W.heap.size):W.sameAt W' p:=by
 cases p with
 |cell b o=>exact World.cell?_of_block (w:=W) (hsz b hp)
 |map b=>exact hsz b hp
theorem wG{P:Program}{k:FuncId}{as_:List AV}{args:Array Value}{W:World}(hr:RelL (kH W) as_ args.toList)(hc:ACalls P k as_ (λ_=>none) (λr _=>r= .ret (.bool true))):
  Calls P k args W λe W'=>e= .returned (.bool true)/\Go.RowKit.Grown W W'/\∀b,b<W.heap.size->W'.heap[b]?=W.heap[b]?:=
 (hc.2 (λ_=>False) (kH W) W args ⟨0,λ_ _ h=>h⟩ hr (CF W)).mono λe w' ⟨K',r,σ',h1,h2,h3,h4⟩=>by
  subst h4;have hb:K'.base=W:=h1.le.base;refine⟨?_,sat_grown hb h2,λb hlt=>?_⟩
  ·cases e with
   |returned v=>
    have:v= .bool true:=cN h3
    rw[this]
   |panicked c=>exact h3.elim
   |outgrown=>exact h3.elim
  ·have:=h2.old b (by rw[hb];exact hlt)
   rw[hb] at this;exact this
end Abs
