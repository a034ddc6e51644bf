/- The abstraction layer, part L: from a statement's arguments to abstract values, and back from an abstract contract to the statement. Over any program. -/
import Derived.Attr
import GoSem.ClaimChange
import Derived.OpenShut
import Derived.ChangeSame
import Derived.WideKeyArgs
import Derived.Below
import Derived.ProofKit
import Derived.RowKit
import Derived.Test.YtbbihmmobfmadaaGreatVAbsO
set_option linter.unusedSimpArgs false
set_option linter.unusedVariables false
namespace Abs
open Go
theorem AC{P:Program}{Q:Exit->Act->World->Prop}{c:Code}{a:Act}{w:World}(I:Nat->Act->World->Prop)(n0:Nat)(h₀:I n0 a w)
  (round:∀n a w,I n a w->c.wp P (Exit.then (λa' w'=>∃m,m<n/\I m a' w') Q) a w):(Code.loop c).wp P Q a w:=by
 intro b k cs
 have key:∀n a w,I n a w->∃e a' w',Q e a' w'/\Arrives P (lone (b.at a (.code c:: .inLoop c::k)) cs w) b k cs e a' w':=by
  intro n;induction n using Nat.strongRecOn with
  |_ n ih=>
   intro a w hI;obtain⟨e,a₁,w₁,hq,harr⟩:=round n a w hI b (.inLoop c::k) cs;cases e with
   |normal=>
    obtain⟨m,hlt,hI₁⟩:=hq;obtain⟨e₂,a₂,w₂,hq₂,harr₂⟩:=ih m hlt a₁ w₁ hI₁;exact⟨e₂,a₂,w₂,hq₂, .of_steps (Steps.trans harr (.one step_inLoop)) harr₂⟩
   |exit id=>exact⟨_,a₁,w₁,hq, .pass (x:= .inLoop c) rfl (λ_ _=> .inl (by simp)) harr⟩
   |goto l=>exact⟨_,a₁,w₁,hq, .pass (x:= .inLoop c) rfl (λ_ _=> .inl (by simp)) harr⟩
   |ret=>exact⟨_,a₁,w₁,hq, .pass (x:= .inLoop c) rfl (λ_ _=> .inl (by simp)) harr⟩
   |panic ch=>exact⟨_,a₁,w₁,hq, .pass (x:= .inLoop c) rfl (λ_ _=> .inl (by simp)) harr⟩
   |outgrown=>exact⟨_,a₁,w₁,hq, .pass (x:= .inLoop c) rfl (λ_ _=> .inl (by simp)) harr⟩
 obtain⟨e,a',w',hq,harr⟩:=key n0 a w h₀;exact⟨e,a',w',hq, .of_steps (.one step_loop) harr⟩
theorem qw{N S K Q k e a w}(h:LiftQ N S K (i8 k Q) e a w):Exit.then (λa w=>∃K' env σ,K.leS S K'/\Fr K' N env a/\Sat K' σ w/\k env σ) (LiftQ N S K Q) e a w:=by
 obtain⟨ae,K',env,σ,h1,h2,h3,h4,h5⟩:=h;cases e<;>cases ae<;>first|exact h2.elim|skip
 ·exact⟨K',env,σ,h1,h3,h4,h5⟩
 ·exact⟨_,K',env,σ,h1,h2,h3,h4,h5⟩
 ·exact⟨_,K',env,σ,h1,h2,h3,h4,h5⟩
 ·exact⟨_,K',env,σ,h1,h2,h3,h4,h5⟩
theorem uQ{N S K Q id e a w}(h:LiftQ N S K (f9 id Q) e a w):Exit.inBlock id (LiftQ N S K Q) e a w:=by
 obtain⟨ae,K',env,σ,h1,h2,h3,h4,h5⟩:=h;cases e<;>cases ae<;>first|exact h2.elim|skip
 ·exact⟨_,K',env,σ,h1,h2,h3,h4,h5⟩
 ·rename_i i j
  have:i=j:=h2
  subst this;simp only[Exit.inBlock,f9] at h5|-;by_cases hi:i=id
  ·simp only[hi,if_true] at h5|-;exact⟨.normal,K',env,σ,h1,trivial,h3,h4,h5⟩
  ·simp only[hi,if_false] at h5|-;exact⟨.exit i,K',env,σ,h1,rfl,h3,h4,h5⟩
 ·exact⟨_,K',env,σ,h1,h2,h3,h4,h5⟩
 ·exact⟨_,K',env,σ,h1,h2,h3,h4,h5⟩
theorem wy{P N a b Q env σ}{x y:Code}(h:AWP P N x (i8 (λenv σ=>AWP P N y Q env σ) Q) env σ)(ha:a=x)(hb:b=y):AWP P N (.seq a b) Q env σ:=by
 subst ha;subst hb;intro S K a w hS hf hs;refine wp_seq (wp_mono (h S K a w hS hf hs) λe a w hq=>?_);have:=qw hq
 cases e<;>first|exact this|skip
 obtain⟨K',env',σ',h1,h2,h3,h4⟩:=this;exact wp_mono (h4 S K' _ _ hS h2 h3) λe a w hq=>hq.mono h1
theorem LiftQ.up{N S K Q Q' e a w}(h:LiftQ N S K Q e a w)(hq:∀e env σ,Q e env σ->Q' e env σ):LiftQ N S K Q' e a w:=
 let ⟨ae,K',env,σ,h1,h2,h3,h4,h5⟩:=h;⟨ae,K',env,σ,h1,h2,h3,h4,hq _ _ _ h5⟩
theorem AWP.up{P N c Q Q' env σ}(h:AWP P N c Q env σ)(hq:∀e env σ,Q e env σ->Q' e env σ):AWP P N c Q' env σ:=
 λS K a w hS hf hs=>wp_mono (h S K a w hS hf hs) λ_ _ _ h=>h.up hq
theorem AD{P:Program}{N:Nat}(hm:P.follows .mixedOrders=true):∀(c:Code) (ac:ACode) (Q:AExit->aX->aB->Prop) (env:aX) (σ:aB),tr P N c=some ac.bare->ex P ac Q env σ->AWP P N c Q env σ:=by
 intro c;induction c with
 |skip=>
  intro ac Q env σ ht h;simp only[tr] at ht;cases ac<;>simp[ACode.bare] at ht
  intro S K a w hS hf hs;exact wp_skip ⟨.normal,K,env,σ,Gh.leS.refl K,trivial,hf,hs,h⟩
 |region id ops draw=>
  intro ac Q env σ ht h;simp only[tr] at ht;split at ht
  case h_2=>simp at ht
  rename_i l hl
  cases draw with
  |true=>
   simp at ht
   obtain⟨hok,ht⟩:=ht;cases ac<;>simp[ACode.bare] at ht
   rename_i is ps
   obtain⟨rfl,rfl⟩:=ht;exact DJ hm hl hok h
  |false=>
   simp only[Bool.false_eq_true,if_false,Option.some.injEq] at ht;cases ac<;>simp[ACode.bare] at ht
   rename_i is
   intro S K a w hS hf hs;refine wp_region ?_;rw[List.range_eq_range',<-Array.length_toList];exact nZ hS (K0:=K) is 0 ops.toList (by simp) (by rw[hl,ht]) env σ K a w (Gh.leS.refl K) h hf hs
 |seq x y ihx ihy=>
  intro ac Q env σ ht h;simp only[tr] at ht;split at ht<;>simp at ht
  rename_i a b h1 h2
  cases ac<;>simp[ACode.bare] at ht
  case seq a' b'=>
   obtain⟨rfl,rfl⟩:=ht;refine wy (AWP.up (ihx a' _ env σ h1 h) λe env σ hq=>?_) rfl rfl;cases e<;>first|exact hq|skip
   exact ihy b' Q env σ h2 hq
  case cut a' b'=>
   obtain⟨rfl,rfl⟩:=ht;obtain⟨I,h3,h4⟩:=h;refine wy (AWP.up (ihx a' _ env σ h1 h3) λe env σ hq=>?_) rfl rfl;cases e<;>first|exact hq|skip
   obtain⟨env0,σ0,q1,q2⟩:=hq;intro S K a w hS hf hs;obtain⟨K',k1,k2,k3⟩:=hf.view q2 hS hs;exact wp_mono (ihy b' Q env0 σ0 h2 (h4 env0 σ0 q1) S K' a w hS k2 k3) λe a w hq=>hq.mono k1
 |cond c x y ihx ihy=>
  intro ac Q env σ ht h;simp only[tr] at ht;split at ht<;>simp at ht
  rename_i cc a b h0 h1 h2
  cases ac<;>simp[ACode.bare] at ht
  rename_i c' a' b'
  obtain⟨rfl,rfl,rfl⟩:=ht;obtain⟨cv,e1,h⟩:=aI h;cases cv<;>first|exact h.elim|skip
  rename_i p
  intro S K a w hS hf hs;have hc:=cL (trOpnd_rel h0 e1 hf);refine wp_cond hc ?_;cases p with
  |true=>exact ihx a' Q env σ h1 (h.1 rfl) S K a w hS hf hs
  |false=>exact ihy b' Q env σ h2 (h.2 rfl) S K a w hS hf hs
 |block id x ih=>
  intro ac Q env σ ht h;simp only[tr,Option.map_eq_some_iff] at ht;obtain⟨a,h1,ht⟩:=ht;cases ac<;>simp[ACode.bare] at ht
  rename_i id' a'
  obtain⟨rfl,rfl⟩:=ht;intro S K a w hS hf hs;exact wp_block (wp_mono (ih a' _ env σ h1 h S K a w hS hf hs) λe a w hq=>uQ hq)
 |loop x ih=>
  intro ac Q env σ ht h;simp only[tr,Option.map_eq_some_iff] at ht;obtain⟨a,h1,ht⟩:=ht;cases ac<;>simp[ACode.bare] at ht
  rename_i a'
  subst ht;obtain⟨I,⟨n0,env0,σ0,hI,hvw⟩,hround⟩:=h;intro S K a w hS hf hs;obtain⟨K0,k1,k2,k3⟩:=hf.view hvw hS hs;refine AC (λn a w=>∃K' env σ,K.leS S K'/\Fr K' N env a/\Sat K' σ w/\I n env σ) n0 ⟨K0,env0,σ0,k1,k2,k3,hI⟩ ?_;rintro n a w ⟨K',env,σ,hK,hf,hs,hI⟩;have hr:=hround n env σ hI;refine wp_mono (ih a' _ env σ h1 hr S K' a w hS hf hs) λe a w hq=>?_;have:=qw (k:=nT I n) (Q:=Q) hq
  cases e with
  |normal=>
   obtain⟨K1,env1,σ1,q1,q2,q3,m,env2,σ2,q4,q5,q6⟩:=this;obtain⟨K2,k1,k2,k3⟩:=q2.view q6 hS q3;exact⟨m,q4,K2,env2,σ2,(hK.trans q1).trans k1,k2,k3,q5⟩
  |exit id=>exact LiftQ.mono hK this
  |goto l=>exact LiftQ.mono hK this
  |ret=>exact LiftQ.mono hK this
  |panic ch=>exact LiftQ.mono hK this
  |outgrown=>exact LiftQ.mono hK this
 |exit id=>
  intro ac Q env σ ht h;simp only[tr] at ht;cases ac<;>simp[ACode.bare] at ht
  subst ht;intro S K a w hS hf hs;exact wp_exit ⟨.exit id,K,env,σ,Gh.leS.refl K,rfl,hf,hs,h⟩
 |ret=>
  intro ac Q env σ ht h;simp only[tr] at ht;cases ac<;>simp[ACode.bare] at ht
  intro S K a w hS hf hs;exact wp_ret ⟨.ret,K,env,σ,Gh.leS.refl K,trivial,hf,hs,h⟩
 |rangeFunc f ps a b _ _=>intro ac Q env σ ht h;simp[tr] at ht
 |scope b _=>intro ac Q env σ ht h;simp[tr] at ht
 |label l=>intro ac Q env σ ht h;simp[tr] at ht
 |goto l=>intro ac Q env σ ht h;simp[tr] at ht
 |refuse s=>intro ac Q env σ ht h;simp[tr] at ht
inductive ARV where
 |tmp(t:Nat)
 |cell(t:Nat)(g:Bool)(n:Nat)
def cN(P:Program):List ResultVar->Option (List ARV)
 |[]=>some []
 | .tmp t::r=>match cN P r with
  |some l=>some (.tmp t::l)
  |none=>none
 | .cell t ty::r=>match fJ P ty,cN P r with
  |some (g,n),some l=>some (.cell t g n::l)
  |_,_=>none
def Hb(env:aX)(σ:aB)(R:AV->Prop):ARV->Prop
 | .tmp t=>bf (lk env t) R
 | .cell t g n=>Dd env σ (λv _=>R v) (.load g n (.t t))
def kG(env:aX)(σ:aB)(R:List AV->Prop):List ARV->Prop
 |[]=>R []
 |r::rs=>Hb env σ (λv=>kG env σ (λl=>R (v::l)) rs) r
def one:List AV->AV
 |[v]=>v
 |l=> .tup l
def fin(R:ARes->aB->Prop)(v:AV)(σ:aB)(_:Tg R:= .mk):Prop:=∃v0 σ0,Vr v0 σ0 v σ/\R (.ret v0) σ0
def Jw(R:ARes->aB->Prop)(v:AV)(σ:aB)(_:Tg R:= .mk):Prop:=∃v0 σ0,Vr v0 σ0 v σ/\R (.panic v0) σ0
def oq(rs:List ARV)(R:ARes->aB->Prop):AExit->aX->aB->Prop
 | .normal,env,σ=>kG env σ (λl=>fin R (one l) σ) rs
 | .ret,env,σ=>kG env σ (λl=>fin R (one l) σ) rs
 | .panic v,_,σ=>Jw R v σ
 | .exit _,_,_=>False
def eH:Nat->List AV->aX
 |_,[]=>[]
 |i,v::r=>(i,some v)::eH (i+1) r
theorem mA:∀(l:List AV) (k i:Nat) (v:AV),lk (eH k l) i=some v->k<=i/\l[i-k]?=some v
 |[],k,i,v,h=>by simp[eH,lk] at h
 |x::l,k,i,v,h=>by
  simp only[eH,lk] at h;by_cases hi:i=k
  ·subst hi;simp at h;subst h;simp
  ·simp only[hi,if_false] at h;obtain⟨h1,h2⟩:=mA l (k+1) i v h;refine⟨by omega,?_⟩;have:i-k=(i-(k+1))+1:=by omega
   rw[this];simpa using h2
def rE(tmps:Array Value):ResultVar->Sem Value
 | .tmp t=>pure (tmps.getD t undef)
 | .cell x t=>do loadVar t (<-asAddr (tmps.getD x undef))
theorem uR(fn:Func)(tmps:Array Value):results fn tmps=(fn.results.mapM (rE tmps)>>=λvs=>pure (if h:vs.size=1 then vs[0] else .tuple vs)):=by
 unfold results;refine congrArg (fun(m:Sem (Array Value))=>m>>=fun(vs:Array Value)=>(pure (if h:vs.size=1 then vs[0] else .tuple vs):Sem Value)) ?_;refine congrArg (λg=>Array.mapM g fn.results) ?_;funext r;cases r<;>rfl
theorem rF{P:Program}{K:Gh}{N env σ a w}(hf:Fr K N env a)(hs:Sat K σ w):∀(rvs:List ResultVar) (rs:List ARV) (R:List AV->Prop),cN P rvs=some rs->kG env σ R rs->
  ∃l vs,(rvs.mapM (rE a.tmps)).run P w= .ok vs w/\RelL K l vs/\R l
 |[],rs,R,ht,h=>by
  simp[cN] at ht;subst ht
  exact⟨[],[],rfl, .nil,h⟩
 |rv::rvs,rs,R,ht,h=>by
  cases rv with
  |tmp t=>
   simp only[cN] at ht;split at ht<;>simp at ht
   rename_i l hl
   subst ht;obtain⟨v,e1,h⟩:=aI h;obtain⟨u,e2,hu⟩:=hf.rel t v e1;obtain⟨l',vs,q1,q2,q3⟩:=rF hf hs rvs l _ hl h;refine⟨v::l',u::vs,?_, .cons hu q2,q3⟩;rw[List.mapM_cons];simp only[rE,Sem.run_bind,Sem.run_pure,Result.andThen_ok,q1];simp[Array.getD_eq_getD_getElem?,e2]
  |cell x t=>
   simp only[cN] at ht;split at ht<;>simp at ht
   rename_i g n l hr hl
   subst ht;obtain⟨av,v,b,off,h1,h2,h3,h4⟩:=qg (P:=P) (N:=N) (nm:=0) (R:=λv _=>kG env σ (λl=>R (v::l)) l) hr (x:= .tmp x) (ax:= .t x) rfl h hf hs;obtain⟨l',vs,q1,q2,q3⟩:=rF hf hs rvs l _ hl h4;refine⟨av::l',v::vs,?_, .cons h3 q2,q3⟩;have e2:a.tmps.getD x undef= .pointer (some ⟨b,off,none⟩):=h1;have e3:(loadVar t ⟨b,off,none⟩).run P w= .ok v w:=by simpa [Instr.loadAt,Instr.sureAddr] using h2
   rw[List.mapM_cons];simp only[rE,e2,asAddr,Sem.run_bind,Sem.run_pure,Result.andThen_ok,e3,q1]
theorem ka{P:Program}{K:Gh}{N env σ a w fn rs}{R:List AV->Prop}(hf:Fr K N env a)(hs:Sat K σ w)(ht:cN P fn.results.toList=some rs)(h:kG env σ R rs):
  ∃l v,(results fn a.tmps).run P w= .ok v w/\Rel K (one l) v/\R l:=by
 obtain⟨l,vs,h1,h2,h3⟩:=rF hf hs fn.results.toList rs R ht h
 have hrun:(results fn a.tmps).run P w= .ok (if h:vs.toArray.size=1 then vs.toArray[0] else .tuple vs.toArray) w:=by
  rw[uR,Array.mapM_eq_mapM_toList];simp only[Sem.run_bind,Sem.run_map,h1,Result.andThen_ok,Sem.run_pure]
 refine⟨l,_,hrun,?_,h3⟩;by_cases hv:vs.toArray.size=1
 ·rw[dif_pos hv];have hl:l.length=1:=by rw[h2.1];simpa using hv
  match l,hl with
  |[v],_=>
   obtain⟨u,r,rfl,k1,k2⟩:=h2.cons_inv;simpa [one] using k1
 ·rw[dif_neg hv];have hl:l.length≠1:=by rw[h2.1];simpa using hv
  have:one l= .tup l:=by
   match l,hl with
   |[],_=>rfl
   |_::_::_,_=>rfl
  rw[this];exact .tupL (by simpa using h2)
theorem EndRel.ds{K:Gh}{e r}(d:List Deferred)(h:EndRel K e r):EndRel {K with ds:=d} e r:=by
 cases e<;>cases r<;>first|exact h.elim|skip
 ·exact Rel.ds d h
 ·obtain⟨v,rfl,k⟩:=h;exact⟨v,rfl,k.ds d⟩
theorem mB{K:Gh}{N:Nat}{fn:Func}{args:List AV}{vals:Array Value}(hN:fn.ntmps=N)(hargs:args.length<=N)(hrel:RelL K args vals.toList)(hd:K.ds=[]):
  Fr K N (eH 0 args) {tmps:=vals++Array.replicate (fn.ntmps-vals.size) undef,defers:=[]}:=by
 have hlen:args.length=vals.size:=by simpa using hrel.1
 refine⟨by simp;omega,hd.symm,λi av e=>?_⟩;obtain⟨_,h2⟩:=mA args 0 i av e;simp only[Nat.sub_zero] at h2
 have hi:i<args.length:=by
  rcases Nat.lt_or_ge i args.length with h'|h'
  ·exact h'
  ·simp[List.getElem?_eq_none h'] at h2
 obtain⟨v,h3,h4⟩:=hrel.get i hi;refine⟨v,?_,?_⟩
 ·rw[Array.getElem?_append_left (by omega)];simpa using h3
 ·have:args[i]=av:=by rw[List.getElem?_eq_getElem hi] at h2;exact Option.some.inj h2
  rw[<-this];exact h4
theorem pU{P:Program}(hm:P.follows .mixedOrders=true){f:FuncId}{fn:Func}{c:Code}{N:Nat}{rs:List ARV}{ac:ACode}{args:List AV}{σ:aB}{R:ARes->aB->Prop}
  (hfn:P.funcs[f]?=some fn)(hb:fn.body=some c)(hname:(fn.name=="runtime.NumGoroutine")=false)(hN:fn.ntmps=N)(hargs:args.length<=N)
  (ht:tr P N c=some ac.bare)(hr:cN P fn.results.toList=some rs)(h:ex P ac (oq rs R) (eH 0 args) σ):ACalls P f args σ R:=by
 refine⟨by simp[cu,hfn,hb,hname],λS K w vals hS hrel hs=>calls_of_wp hfn hb ?_⟩;have hf:Fr {K with ds:=[]} N (eH 0 args) {tmps:=vals++Array.replicate (fn.ntmps-vals.size) undef,defers:=[]}:=mB hN hargs (hrel.ds []) rfl;refine wp_mono (AD hm c ac _ _ σ ht h S _ _ w hS hf (hs.ds [])) ?_;rintro e a w' ⟨ae,K',env,σ',h1,h2,h3,h4,h5⟩;have hds:K'.ds=[]:=h1.le.ds;cases e<;>cases ae<;>first|exact h2.elim|exact h5.elim|skip
 ·obtain⟨l,v,q1,q2,v0,σ0,q3,q4⟩:=ka h3 h4 hr h5;obtain⟨K2,k1,k2,k3⟩:=q2.view q3 hS h4;exact⟨h3.defers.trans hds,v,q1,_, .ret _,σ0,(h1.trans k1).ds,k3.ds _,EndRel.ds (e:= .returned v) (r:= .ret _) _ k2,q4⟩
 ·obtain⟨l,v,q1,q2,v0,σ0,q3,q4⟩:=ka h3 h4 hr h5;obtain⟨K2,k1,k2,k3⟩:=q2.view q3 hS h4;exact⟨h3.defers.trans hds,v,q1,_, .ret _,σ0,(h1.trans k1).ds,k3.ds _,EndRel.ds (e:= .returned v) (r:= .ret _) _ k2,q4⟩
 ·obtain⟨v,rfl,hv⟩:=h2;obtain⟨v0,σ0,q3,q4⟩:=h5;obtain⟨K2,k1,k2,k3⟩:=hv.view q3 hS h4;exact⟨h3.defers.trans hds,_, .panic _,σ0,(h1.trans k1).ds,k3.ds _,EndRel.ds (e:= .panicked _) (r:= .panic _) _ ⟨v,rfl,k2⟩,q4⟩
theorem AE{P:Program}(hm:P.follows .mixedOrders=true){f:FuncId}{fn:Func}{N:Nat}{rs:List ARV}{ac:ACode}{args:List AV}{σ:aB}{R:ARes->aB->Prop}
  (hfn:P.funcs[f]?=some fn)(hb:fn.body.bind (tr P N)=some ac.bare)(hname:(fn.name=="runtime.NumGoroutine")=false)(hN:fn.ntmps=N)
  (hr:cN P fn.results.toList=some rs)(hargs:args.length<=N)(h:ex P ac (oq rs R) (eH 0 args) σ):ACalls P f args σ R:=by
 cases hc:fn.body with
 |none=>simp[hc] at hb
 |some c=>exact pU hm hfn hc hname hN hargs (by simpa [hc] using hb) hr h
end Abs
namespace Abs
open Go
def XO(env:aX)(σ:aB)(R:AV->Option (Nat×AObj)->Prop)(op:AOp)(_:Tg (env,σ,R,op):= .mk):Prop:=bm (λk=>fresh σ k) env σ R op
def IR(P:Program)(Q:AExit->aX->aB->Prop)(k:AV->aB->Prop)(env:aX)(σ:aB)(op:AOp)(_:Tg (Q,k,env,σ,op):= .mk):Prop:=ru P Q k env σ op
def ID(P:Program)(k:AV->Option (Nat×AObj)->Prop)(kc:AV->List (Nat×AObj)->Prop)(env:aX)(σ σb:aB)(op:AOp)(_:Tg (k,kc,env,σ,σb,op):= .mk):Prop:=ky P k kc env σ σb op
def XI(P:Program)(Q:AExit->aX->aB->Prop)(is:List AInst)(env:aX)(σ:aB)(_:Tg (Q,is,env,σ):= .mk):Prop:=dS P Q is env σ
def XD(P:Program)(ps:List (Nat×Nat))(k:aX->aB->Prop)(is:List AInst)(n:Nat)(tl:List (Nat×TI))(env:aX)(σ:aB)(_:Tg (k,is,tl,env,σ):= .mk):Prop:=dI P ps k is n tl env σ
def TC(n:Nat)(env:aX)(σ:aB)(op:AOp)(tl:List (Nat×TI))(e:Option (Nat×AObj))(_:Tg (env,σ,op,tl):= .mk):List (Nat×TI):=xP n env σ op tl e
def XC(P:Program)(c:ACode)(Q:AExit->aX->aB->Prop)(env:aX)(σ:aB)(_:Tg (c,Q,env,σ):= .mk):Prop:=ex P c Q env σ
def XR(env:aX)(σ:aB)(R:List AV->Prop)(rs:List ARV)(_:Tg (env,σ,R,rs):= .mk):Prop:=kG env σ R rs
section
variable (P : Program) (Q : AExit -> aX -> aB -> Prop) (env : aX) (σ σb : aB) (R : AV -> Option (Nat × AObj) -> Prop) (k : AV -> aB -> Prop) (kd : AV -> Option (Nat × AObj) -> Prop) (kc : AV -> List (Nat × AObj) -> Prop) (k0 : aX -> aB -> Prop) (is : List AInst)
theorem Hc:XI P Q [] env σ=Q .normal env σ:=rfl
theorem DK(d op):XI P Q (⟨d,op,none⟩::is) env σ=IR P Q (λv σ'=>XI P Q is (putA d v env) σ') env σ op:=rfl
theorem AF(d op s b):XI P Q (⟨d,op,some (s,b)⟩::is) env σ=bf (lk env s) λv=>match v with
  | .bool p=>gd p b (IR P Q (λv σ'=>XI P Q is (putA d v env) σ') env σ op) (XI P Q is (skipA d env) σ)
  | .tup _=>XI P Q is (skipA d env) σ
  |_=>False:=rfl
theorem Hd(ps n tl):XD P ps k0 [] n tl env σ=c6 (iy tl ps) (k0 env σ):=rfl
theorem DL(ps n tl d op):XD P ps k0 (⟨d,op,none⟩::is) n tl env σ=ID P (λv e=>XD P ps k0 is (n+1) (TC n env σ op tl e) (putA d v env) (fI σ e)) (λv us=>XD P ps k0 is (n+1) ((n, .call us)::tl) (putA d v env) (eV σ us)) env σ (eg n σ ps) op:=rfl
theorem AG(ps n tl d op s b):XD P ps k0 (⟨d,op,some (s,b)⟩::is) n tl env σ=bf (lk env s) λv=>match v with
  | .bool p=>gd p b (ID P (λv e=>XD P ps k0 is (n+1) (TC n env σ op tl e) (putA d v env) (fI σ e)) (λv us=>XD P ps k0 is (n+1) ((n, .call us)::tl) (putA d v env) (eV σ us)) env σ (eg n σ ps) op) (XD P ps k0 is (n+1) tl (skipA d env) σ)
  | .tup _=>XD P ps k0 is (n+1) tl (skipA d env) σ
  |_=>False:=rfl
theorem AH(n):eg n σ []=σ:=rfl
theorem xW(n a b r):eg n σ ((a,b)::r)=if a=n then (if b=n then λ_=>none else eg n σ r) else eg n σ r:=rfl
theorem DM:XC P .skip Q env σ=Q .normal env σ:=rfl
theorem He:XC P (.reg is) Q env σ=XI P Q is env σ:=rfl
theorem Hf(ps):XC P (.drw is ps) Q env σ=XD P ps (λenv σ=>Q .normal env σ) is 0 [] env σ:=rfl
theorem Hg(a b):XC P (.seq a b) Q env σ=XC P a (i8 (λenv σ=>XC P b Q env σ) Q) env σ:=rfl
theorem Hh(a b):XC P (.cut a b) Q env σ=Jv (λQ env σ=>XC P a Q env σ) (λQ env σ=>XC P b Q env σ) Q env σ:=rfl
theorem DN(c a b):XC P (.cond c a b) Q env σ=bf (aval env c) λv=>match v with
  | .bool p=>br p (XC P a Q env σ) (XC P b Q env σ)
  |_=>False:=rfl
theorem AI(id a):XC P (.block id a) Q env σ=XC P a (f9 id Q) env σ:=rfl
theorem DO(a):XC P (.loop a) Q env σ=At (λQ env σ=>XC P a Q env σ) Q env σ:=rfl
theorem DP(id):XC P (.exit id) Q env σ=Q (.exit id) env σ:=rfl
theorem Hi:XC P .ret Q env σ=Q .ret env σ:=rfl
theorem Hj(K):i8 K Q .normal env σ=K env σ:=rfl
theorem Hk(K):i8 K Q .ret env σ=Q .ret env σ:=rfl
theorem Hl(K id):i8 K Q (.exit id) env σ=Q (.exit id) env σ:=rfl
theorem Hm(K v):i8 K Q (.panic v) env σ=Q (.panic v) env σ:=rfl
theorem DQ(i):f9 i Q .normal env σ=Q .normal env σ:=rfl
theorem DR(i):f9 i Q .ret env σ=Q .ret env σ:=rfl
theorem DS(i v):f9 i Q (.panic v) env σ=Q (.panic v) env σ:=rfl
theorem DT(i):f9 i Q (.exit i) env σ=Q .normal env σ:=by simp[f9]
theorem DU(i j)(h:j≠i):f9 i Q (.exit j) env σ=Q (.exit j) env σ:=by simp[f9,h]
theorem Hn(rs R):oq rs R .normal env σ=XR env σ (λl=>fin R (one l) σ) rs:=rfl
theorem Ho(rs R):oq rs R .ret env σ=XR env σ (λl=>fin R (one l) σ) rs:=rfl
theorem Hp(rs R v):oq rs R (.panic v) env σ=Jw R v σ:=rfl
theorem Hq(R):XR env σ R []=R []:=rfl
theorem Hr(R t rs):XR env σ R (.tmp t::rs)=bf (lk env t) (λv=>XR env σ (λl=>R (v::l)) rs):=rfl
theorem DV(R t g n rs):XR env σ R (.cell t g n::rs)=XO env σ (λv _=>XR env σ (λl=>R (v::l)) rs) (.load g n (.t t)):=rfl
theorem Hs(p v):xO k p (.ret v) σ=k v σ:=rfl
theorem Ht(p v):xO k p (.panic v) σ=p v σ:=rfl
theorem DW(f args):IR P Q k env σ (.call f args)=bf (aval env f) λfv=>fP (cI env args) λvs=>match fv with
  | .fn f first caps=>ACalls P f (first++vs++caps) σ (xO k (λv σ'=>Q (.panic v) env σ'))
  |_=>False:=rfl
theorem AJ(x):IR P Q k env σ (.panic x)=bf (aval env x) λv=>match v with
  | .iface t a=>Q (.panic (.iface t a)) env σ
  |_=>False:=rfl
theorem DX(f args):ID P kd kc env σ σb (.call f args)=bf (aval env f) λfv=>fP (cI env args) λvs=>match fv with
  | .fn f first caps=>nW P f (first++vs++caps) σ σb kc
  |_=>False:=rfl
theorem Hu(x):IR P Q k env σ (.mov x)=bf (aval env x) λa=>k a σ:=rfl
theorem DY(c a b):IR P Q k env σ (.pick c a b)=XO env σ (λv e=>k v (fI σ e)) (.pick c a b):=rfl
theorem AK(z):IR P Q k env σ (.alloc z)=XO env σ (λv e=>k v (fI σ e)) (.alloc z):=rfl
theorem Hv(z):IR P Q k env σ (.box z)=XO env σ (λv e=>k v (fI σ e)) (.box z):=rfl
theorem DZ(z):IR P Q k env σ (.boxI z)=XO env σ (λv e=>k v (fI σ e)) (.boxI z):=rfl
theorem AL(z p):IR P Q k env σ (.build z p)=XO env σ (λv e=>k v (fI σ e)) (.build z p):=rfl
theorem xX(z p):IR P Q k env σ (.bslice z p)=XO env σ (λv e=>k v (fI σ e)) (.bslice z p):=rfl
theorem D0(g n x):IR P Q k env σ (.load g n x)=XO env σ (λv e=>k v (fI σ e)) (.load g n x):=rfl
theorem AM(n p x):IR P Q k env σ (.store n p x)=XO env σ (λv e=>k v (fI σ e)) (.store n p x):=rfl
theorem xY(x):IR P Q k env σ (.nilchk x)=XO env σ (λv e=>k v (fI σ e)) (.nilchk x):=rfl
theorem Hw(op t x y):IR P Q k env σ (.bin op t x y)=XO env σ (λv e=>k v (fI σ e)) (.bin op t x y):=rfl
theorem Hx(n ks x y):IR P Q k env σ (.eqs n ks x y)=XO env σ (λv e=>k v (fI σ e)) (.eqs n ks x y):=rfl
theorem Jx(op x):IR P Q k env σ (.un op x)=XO env σ (λv e=>k v (fI σ e)) (.un op x):=rfl
theorem D1(kk x):IR P Q k env σ (.conv kk x)=XO env σ (λv e=>k v (fI σ e)) (.conv kk x):=rfl
theorem D2(f a b):IR P Q k env σ (.mkfn f a b)=XO env σ (λv e=>k v (fI σ e)) (.mkfn f a b):=rfl
theorem D3(o x):IR P Q k env σ (.fldA o x)=XO env σ (λv e=>k v (fI σ e)) (.fldA o x):=rfl
theorem D4(s x i):IR P Q k env σ (.idxS s x i)=XO env σ (λv e=>k v (fI σ e)) (.idxS s x i):=rfl
theorem D5(s l x i):IR P Q k env σ (.idxR s l x i)=XO env σ (λv e=>k v (fI σ e)) (.idxR s l x i):=rfl
theorem Hy(s x a b c):IR P Q k env σ (.slc s x a b c)=XO env σ (λv e=>k v (fI σ e)) (.slc s x a b c):=rfl
theorem uS(x i):IR P Q k env σ (.extract x i)=XO env σ (λv e=>k v (fI σ e)) (.extract x i):=rfl
theorem Hz(x):IR P Q k env σ (.len x)=XO env σ (λv e=>k v (fI σ e)) (.len x):=rfl
theorem HA(x):IR P Q k env σ (.cap x)=XO env σ (λv e=>k v (fI σ e)) (.cap x):=rfl
theorem xZ(s b x y):IR P Q k env σ (.append s b x y)=XO env σ (λv e=>k v (fI σ e)) (.append s b x y):=rfl
theorem D6(s b x y):IR P Q k env σ (.appz s b x y)=XO env σ (λv e=>k v (fI σ e)) (.appz s b x y):=rfl
theorem D7(s x a b c):IR P Q k env σ (.slcN s x a b c)=XO env σ (λv e=>k v (fI σ e)) (.slcN s x a b c):=rfl
theorem D8(s x a b c):IR P Q k env σ (.slcR s x a b c)=XO env σ (λv e=>k v (fI σ e)) (.slcR s x a b c):=rfl
theorem HB(l):IR P Q k env σ (.min l)=XO env σ (λv e=>k v (fI σ e)) (.min l):=rfl
theorem HC(l):IR P Q k env σ (.max l)=XO env σ (λv e=>k v (fI σ e)) (.max l):=rfl
theorem uT(s b z g l c):IR P Q k env σ (.mkslice s b z g l c)=XO env σ (λv e=>k v (fI σ e)) (.mkslice s b z g l c):=rfl
theorem uU(t x):IR P Q k env σ (.mkiface t x)=XO env σ (λv e=>k v (fI σ e)) (.mkiface t x):=rfl
theorem HD(x):ID P kd kc env σ σb (.mov x)=bf (aval env x) λa=>kd a none:=rfl
theorem HE(nn tl)(x):TC nn env σ (.mov x) tl none=tl:=rfl
theorem D9(c a b):ID P kd kc env σ σb (.pick c a b)=XO env σ kd (.pick c a b):=rfl
theorem Ea(nn tl)(c a b):TC nn env σ (.pick c a b) tl none=tl:=rfl
theorem AN(z):ID P kd kc env σ σb (.alloc z)=XO env σ kd (.alloc z):=rfl
theorem AO(nn tl)(z):TC nn env σ (.alloc z) tl none=tl:=rfl
theorem HF(z):ID P kd kc env σ σb (.box z)=XO env σ kd (.box z):=rfl
theorem HG(nn tl)(z):TC nn env σ (.box z) tl none=tl:=rfl
theorem Eb(z):ID P kd kc env σ σb (.boxI z)=XO env σ kd (.boxI z):=rfl
theorem Ec(nn tl)(z):TC nn env σ (.boxI z) tl none=tl:=rfl
theorem AP(z p):ID P kd kc env σ σb (.build z p)=XO env σ kd (.build z p):=rfl
theorem AQ(nn tl)(z p):TC nn env σ (.build z p) tl none=tl:=rfl
theorem x5(z p):ID P kd kc env σ σb (.bslice z p)=XO env σ kd (.bslice z p):=rfl
theorem x6(nn tl)(z p):TC nn env σ (.bslice z p) tl none=tl:=rfl
theorem Ed(g n x):ID P kd kc env σ σb (.load g n x)=XO env σ kd (.load g n x):=rfl
theorem Ee(nn tl)(g n x):TC nn env σ (.load g n x) tl none=match aval env x with
  |some (.ptr o off)=>(match σ o with
   |some (.cells cs)=>(nn, .mem o (some (off,n,(cs.drop off).take n)))::tl
   |_=>(nn, .mem o none)::tl)
  |some (.eptr o _ _)=>(nn, .mem o none)::tl
  |_=>tl:=by
 show xP nn env σ (.load g n x) tl none=_
 simp only[xP,j5];cases aval env x with
 |none=>rfl
 |some a=>
  cases a<;>first|rfl|skip
  rename_i o off
  cases h:σ o with
  |none=>simp only[h]
  |some y=>cases y<;>simp only[h]
theorem AR(n p x):ID P kd kc env σ σb (.store n p x)=XO env σ kd (.store n p x):=rfl
theorem AS(nn tl)(n p x):TC nn env σ (.store n p x) tl none=tl:=rfl
theorem x7(x):ID P kd kc env σ σb (.nilchk x)=XO env σ kd (.nilchk x):=rfl
theorem x8(nn tl)(x):TC nn env σ (.nilchk x) tl none=tl:=rfl
theorem HH(op t x y):ID P kd kc env σ σb (.bin op t x y)=XO env σ kd (.bin op t x y):=rfl
theorem HI(nn tl)(op t x y):TC nn env σ (.bin op t x y) tl none=tl:=rfl
theorem HJ(n ks x y):ID P kd kc env σ σb (.eqs n ks x y)=XO env σ kd (.eqs n ks x y):=rfl
theorem HK(nn tl)(n ks x y):TC nn env σ (.eqs n ks x y) tl none=tl:=rfl
theorem Jy(op x):ID P kd kc env σ σb (.un op x)=XO env σ kd (.un op x):=rfl
theorem Jz(nn tl)(op x):TC nn env σ (.un op x) tl none=tl:=rfl
theorem Ef(kk x):ID P kd kc env σ σb (.conv kk x)=XO env σ kd (.conv kk x):=rfl
theorem Eg(nn tl)(kk x):TC nn env σ (.conv kk x) tl none=tl:=rfl
theorem Eh(f a b):ID P kd kc env σ σb (.mkfn f a b)=XO env σ kd (.mkfn f a b):=rfl
theorem Ei(nn tl)(f a b):TC nn env σ (.mkfn f a b) tl none=tl:=rfl
theorem Ej(o x):ID P kd kc env σ σb (.fldA o x)=XO env σ kd (.fldA o x):=rfl
theorem Ek(nn tl)(o x):TC nn env σ (.fldA o x) tl none=tl:=rfl
theorem El(s x i):ID P kd kc env σ σb (.idxS s x i)=XO env σ kd (.idxS s x i):=rfl
theorem Em(nn tl)(s x i):TC nn env σ (.idxS s x i) tl none=tl:=rfl
theorem En(s l x i):ID P kd kc env σ σb (.idxR s l x i)=XO env σ kd (.idxR s l x i):=rfl
theorem Eo(nn tl)(s l x i):TC nn env σ (.idxR s l x i) tl none=tl:=rfl
theorem HL(s x a b c):ID P kd kc env σ σb (.slc s x a b c)=XO env σ kd (.slc s x a b c):=rfl
theorem HM(nn tl)(s x a b c):TC nn env σ (.slc s x a b c) tl none=tl:=rfl
theorem uV(x i):ID P kd kc env σ σb (.extract x i)=XO env σ kd (.extract x i):=rfl
theorem uW(nn tl)(x i):TC nn env σ (.extract x i) tl none=tl:=rfl
theorem HN(x):ID P kd kc env σ σb (.len x)=XO env σ kd (.len x):=rfl
theorem HO(nn tl)(x):TC nn env σ (.len x) tl none=tl:=rfl
theorem HP(x):ID P kd kc env σ σb (.cap x)=XO env σ kd (.cap x):=rfl
theorem HQ(nn tl)(x):TC nn env σ (.cap x) tl none=tl:=rfl
theorem x9(s b x y):ID P kd kc env σ σb (.append s b x y)=XO env σ kd (.append s b x y):=rfl
theorem ya(nn tl)(s b x y):TC nn env σ (.append s b x y) tl none=tl:=rfl
theorem Ep(s b x y):ID P kd kc env σ σb (.appz s b x y)=XO env σ kd (.appz s b x y):=rfl
theorem Er(nn tl)(s b x y):TC nn env σ (.appz s b x y) tl none=tl:=rfl
theorem Es(s x a b c):ID P kd kc env σ σb (.slcN s x a b c)=XO env σ kd (.slcN s x a b c):=rfl
theorem Et(nn tl)(s x a b c):TC nn env σ (.slcN s x a b c) tl none=tl:=rfl
theorem Eu(s x a b c):ID P kd kc env σ σb (.slcR s x a b c)=XO env σ kd (.slcR s x a b c):=rfl
theorem Ev(nn tl)(s x a b c):TC nn env σ (.slcR s x a b c) tl none=tl:=rfl
theorem HR(l):ID P kd kc env σ σb (.min l)=XO env σ kd (.min l):=rfl
theorem HS(nn tl)(l):TC nn env σ (.min l) tl none=tl:=rfl
theorem HT(l):ID P kd kc env σ σb (.max l)=XO env σ kd (.max l):=rfl
theorem HU(nn tl)(l):TC nn env σ (.max l) tl none=tl:=rfl
theorem uX(s b z g l c):ID P kd kc env σ σb (.mkslice s b z g l c)=XO env σ kd (.mkslice s b z g l c):=rfl
theorem uY(nn tl)(s b z g l c):TC nn env σ (.mkslice s b z g l c) tl none=tl:=rfl
theorem uZ(t x):ID P kd kc env σ σb (.mkiface t x)=XO env σ kd (.mkiface t x):=rfl
theorem u6(nn tl)(t x):TC nn env σ (.mkiface t x) tl none=tl:=rfl
theorem Ew(nn op tl o x):TC nn env σ op tl (some (o,x))=(nn, .mem o none)::tl:=rfl
theorem AT:IR P Q k env σ (.ext .mkmap)=XO env σ (λv e=>k v (fI σ e)) (.ext .mkmap):=rfl
theorem AU:ID P kd kc env σ σb (.ext .mkmap)=XO env σ kd (.ext .mkmap):=rfl
theorem AW(nn tl):TC nn env σ (.ext .mkmap) tl none=tl:=rfl
theorem AX:XO env σ R (.ext .mkmap)=fresh σ λo=>R (.map o) (some (o,(.map true []))):=rfl
theorem Ex(kk z c x i):IR P Q k env σ (.ext (.look kk z c x i))=XO env σ (λv e=>k v (fI σ e)) (.ext (.look kk z c x i)):=rfl
theorem Ey(kk z c x i):ID P kd kc env σ σb (.ext (.look kk z c x i))=XO env σ kd (.ext (.look kk z c x i)):=rfl
theorem Ez(nn tl kk z c x i):TC nn env σ (.ext (.look kk z c x i)) tl none=match aval env x with
  |some (.map o)=>(nn, .mem o none)::tl
  |_=>tl:=by
 show xP nn env σ (.ext (.look kk z c x i)) tl none=_
 simp only[xP,j5];cases aval env x with
 |none=>rfl
 |some a=>cases a<;>rfl
theorem EA(kk z c x i):XO env σ R (.ext (.look kk z c x i))=bf (aval env x) λm=>bf (aval env i) λk=>match m with
  | .map o=>match σ o with
   |some (.map _ l)=>c6 (jQ kk k=true) (zW (kn kk k l) λv=>R (if c then .tup [v.getD z, .bool v.isSome] else v.getD z) none)
   |_=>False
  | .nilmap=>c6 (jQ kk k=true) (R (if c then .tup [z, .bool false] else z) none)
  |_=>False:=rfl
theorem EB(kk m a v):IR P Q k env σ (.ext (.mset kk m a v))=XO env σ (λv e=>k v (fI σ e)) (.ext (.mset kk m a v)):=rfl
theorem id_mset(kk m a v):ID P kd kc env σ σb (.ext (.mset kk m a v))=XO env σ kd (.ext (.mset kk m a v)):=rfl
theorem tc_mset(nn tl kk m a v):TC nn env σ (.ext (.mset kk m a v)) tl none=tl:=rfl
theorem xo_mset(kk m k v):XO env σ R (.ext (.mset kk m k v))=bf (aval env m) λm=>bf (aval env k) λk=>bf (aval env v) λv=>match m with
  | .map o=>match σ o with
   |some (.map d l)=>c6 (jQ kk k=true) (zW (sG kk k v l) λl=>R (.tup []) (some (o,(.map d l))))
   |_=>False
  |_=>False:=rfl
theorem AY(b x):IR P Q k env σ (.ext (.isnil b x))=XO env σ (λv e=>k v (fI σ e)) (.ext (.isnil b x)):=rfl
theorem AZ(b x):XO env σ R (.ext (.isnil b x))=bf (aval env x) λa=>match a with
  | .slice l _=>fO l (R (.bool true) none/\R (.bool false) none) (R (.bool b) none)
  |_=>False:=rfl
theorem ir_bsliceG(sz ps):IR P Q k env σ (.ext (.bsliceG sz ps))=XO env σ (λv e=>k v (fI σ e)) (.ext (.bsliceG sz ps)):=rfl
theorem xo_bsliceG(sz ps):XO env σ R (.ext (.bsliceG sz ps))=fP (cI env ps) λl=>c6 ((l.all λx=>(aD x).length==sz&&(aD x).all bZ)=true) (fresh σ λo=>R (.slice l (.own o)) (some (o,(.grow sz l.length)))):=rfl
theorem ir_vmake(sz b z g l c):IR P Q k env σ (.ext (.vmake sz b z g l c))=XO env σ (λv e=>k v (fI σ e)) (.ext (.vmake sz b z g l c)):=rfl
theorem id_vmake(sz b z g l c):ID P kd kc env σ σb (.ext (.vmake sz b z g l c))=XO env σ kd (.ext (.vmake sz b z g l c)):=rfl
theorem tc_vmake(nn tl sz b z g l c):TC nn env σ (.ext (.vmake sz b z g l c)) tl none=tl:=rfl
theorem xo_vmake(sz bytes z g n c):XO env σ R (.ext (.vmake sz bytes z g n c))=bf (aval env n) λn=>bf (aval env c) λc=>bf (eT g z) λe=>match n,c with
  | .int .i64 n, .int .i64 c=>c6 (aD e=z/\z.all bZ=true/\0<=n/\n<=c/\c*bytes<=35184372088832) (fresh σ λo=>R (.vec o n.toNat) (some (o,(.vec sz n.toNat (List.replicate n.toNat z).flatten))))
  |_,_=>False:=rfl
theorem ir_vapp(sz b s x):IR P Q k env σ (.ext (.vapp sz b s x))=XO env σ (λv e=>k v (fI σ e)) (.ext (.vapp sz b s x)):=rfl
theorem id_vapp(sz b s x):ID P kd kc env σ σb (.ext (.vapp sz b s x))=XO env σ kd (.ext (.vapp sz b s x)):=rfl
theorem tc_vapp(nn tl sz b s x):TC nn env σ (.ext (.vapp sz b s x)) tl none=tl:=rfl
theorem xo_vapp(sz bytes s x):XO env σ R (.ext (.vapp sz bytes s x))=bf (aval env s) λs=>bf (aval env x) λx=>match s,x with
  | .vec o len, .slice m _=>match σ o with
   |some (.vec sz' n cs)=>c6 (sz'=sz/\len=n/\iq sz m/\(n+m.length)*bytes<=35184372088832) (R (.vec o (n+m.length)) (some (o,(.vec sz (n+m.length) (cs++flat m)))))
   |_=>False
  | .pre o len n, .slice m _=>match σ o with
   | some (.vec sz' n' cs) => c6 (sz' = sz /\ n = n' /\ len <= n /\ iq sz m /\ (n + m.length) * bytes <= 35184372088832)
     (J5 (len+m.length<=n) (R (.pre o (len+m.length) n) (some (o,(.vec sz n (putAt cs (len*sz) (flat m)))))) (R (.vec o (len+m.length)) (some (o,(.vec sz (len+m.length) (cs.take (len*sz)++flat m))))))
   |_=>False
  | .slice l t, .slice m _=>c6 (iq sz l/\iq sz m/\(l.length+m.length)*bytes<=35184372088832) (match t with
   | .nil=>fO m (R (.slice l .nil) none) (fresh σ λo=>R (.vec o (l.length+m.length)) (some (o,(.vec sz (l.length+m.length) (flat l++flat m)))))
   | .full=>fO m (R (.slice l .full) none) (fresh σ λo=>R (.vec o (l.length+m.length)) (some (o,(.vec sz (l.length+m.length) (flat l++flat m)))))
   |_=>False)
  |_,_=>False:=rfl
theorem ir_vfrz(g x):IR P Q k env σ (.ext (.vfrz g x))=XO env σ (λv e=>k v (fI σ e)) (.ext (.vfrz g x)):=rfl
theorem xo_vfrz(g x):XO env σ R (.ext (.vfrz g x))=bf (aval env x) λx=>match x with
  | .vec o len=>match σ o with
   |some (.vec sz n cs)=>c6 (len=n/\(g=false->sz=1)) (zW (eU g sz n cs) λl=>R (.slice l (.own o)) (some (o,(.grow sz n))))
   |_=>False
  | .pre o len n=>match σ o with
   |some (.vec sz n' cs)=>c6 (n=n'/\len<=n/\(g=false->sz=1)) (zW (eU g sz n cs) λl=>R (.slice (l.take len) (.own o)) (some (o,(.grow sz n))))
   |_=>False
  |_=>False:=rfl
theorem ir_retok(sz x):IR P Q k env σ (.ext (.retok sz x))=XO env σ (λv e=>k v (fI σ e)) (.ext (.retok sz x)):=rfl
theorem xo_retok(sz x):XO env σ R (.ext (.retok sz x))=bf (aval env x) λx=>match x with
  | .slice l .full=>c6 (iq sz l/\0<l.length) (fresh σ λo=>R (.slice l (.own o)) (some (o,(.grow sz l.length))))
  | .slice [] .nil=>fresh σ λo=>R (.slice [] (.own o)) (some (o,(.grow sz 0)))
  |_=>False:=rfl
theorem A0(t:Nat):qZ t []=none:=rfl
theorem yb(t a f:Nat)(r):qZ t ((a,f)::r)=if t=a then some f else qZ t r:=rfl
theorem ye(t a:Nat)(k)(r):GZ t ((a,k)::r)=if t=a then some k else GZ t r:=rfl
theorem HV(tbl)(t:Nat)(v:AV):wg tbl (some (.iface t v))=(qZ t tbl).map λf=> .fn f [v] []:=rfl
theorem JA(k:Nat)(a b:AV):Jr (some k) a b=qd k a b:=rfl
theorem JB:Jr none (.agg []) (.agg [])=some true:=rfl
theorem EC(c a b):XO env σ R (.pick c a b)=bf (aval env c) λp=>match p with
  | .bool p=>if p then bf (aval env a) λa=>R a none else bf (aval env b) λa=>R a none
  |_=>False:=rfl
theorem A1(z):XO env σ R (.alloc z)=fresh σ λo=>R (.ptr o 0) (some (o,(.cells z))):=rfl
theorem HW(x):XO env σ R (.box x)=bf (aval env x) λa=>fresh σ λo=>R (.ptr o 0) (some (o,(.cells (aD a)))):=rfl
theorem ED(x):XO env σ R (.boxI x)=bf (aval env x) λa=>c6 ((aD a).all bZ=true) (R (.cptr (aD a)) none):=rfl
theorem A2(z ps):XO env σ R (.build z ps)=fP (gD env z ps) λcs=>R (.agg cs) none:=by
 show bm _ env σ R (.build z ps)=_
 unfold bm fP;rfl
theorem yf(sz ps):XO env σ R (.bslice sz ps)=fP (cI env ps) λl=>c6 ((l.all λx=>(aD x).length==sz&&(aD x).all bZ)=true) (R (.slice l .full) none):=rfl
theorem EE(g n x):XO env σ R (.load g n x)=bf (aval env x) λp=>match p with
  | .ptr o off=>match σ o with
   |some (.cells cs)=>c6 (off+n<=cs.length) (bf (eT g ((cs.drop off).take n)) λa=>R a none)
   |_=>False
  | .eptr o m off=>match σ o with
   |some (.vec _ m' cs)=>c6 (m=m'/\off+n<=cs.length) (bf (eT g ((cs.drop off).take n)) λa=>R a none)
   |_=>False
  | .cptr cs=>c6 (n<=cs.length) (bf (eT g (cs.take n)) λa=>R a none)
  |_=>False:=rfl
theorem A3(n p x):XO env σ R (.store n p x)=bf (aval env p) λp=>bf (aval env x) λa=>match p with
  | .ptr o off=>match σ o with
   |some (.cells cs)=>c6 ((aD a).length=n/\off+n<=cs.length/\(aD a).all bZ=true) (R (.tup []) (some (o,(.cells (putAt cs off (aD a))))))
   |_=>False
  | .eptr o m off=>match σ o with
   |some (.vec sz m' cs)=>c6 (m=m'/\(aD a).length=n/\off+n<=cs.length/\(aD a).all bZ=true) (R (.tup []) (some (o,(.vec sz m' (putAt cs off (aD a))))))
   |_=>False
  |_=>False:=rfl
theorem yg(x):XO env σ R (.nilchk x)=bf (aval env x) λp=>match p with
  | .ptr o off=>R (.ptr o off) none
  | .eptr o m off=>R (.eptr o m off) none
  | .cptr cs=>R (.cptr cs) none
  | .fn f a b=>R (.fn f a b) none
  |_=>False:=rfl
theorem HX(op tb x y):XO env σ R (.bin op tb x y)=bf (aval env x) λa=>bf (aval env y) λb=>bf (Dc op tb a b) λr=>R r none:=rfl
theorem HY(neg ks x y):XO env σ R (.eqs neg ks x y)=bf (aval env x) λa=>bf (aval env y) λb=>match a,b with
  | .agg l, .agg m=>match bq ks l m with
   |some r=>R (.bool (if neg then !r else r)) none
   |none=>False
  |_,_=>False:=rfl
theorem HZ(x):XO env σ R (.un .not x)=bf (aval env x) λa=>match a with
  | .bool b=>R (.bool !b) none
  |_=>False:=by
 show(bf (aval env x) _)=_
 cases aval env x with
 |none=>rfl
 |some a=>cases a<;>rfl
theorem H0(x):XO env σ R (.un .xor x)=bf (aval env x) λa=>match a with
  | .int .u64 n=>R (.int .u64 (IntKind.u64.wrap (BitVec.ofInt IntKind.u64.bits 18446744073709551615 ^^^ BitVec.ofInt IntKind.u64.bits n).toNat)) none
  |_=>False:=by
 show(bf (aval env x) _)=_
 cases aval env x with
 |none=>rfl
 |some a=>cases a<;>first|rfl|(rename_i k n;cases k<;>rfl)
theorem H1(x):XO env σ R (.un .neg x)=bf (aval env x) λa=>match a with
  | .int k n=>R (.int k (k.wrap (0-n))) none
  |_=>False:=by
 show(bf (aval env x) _)=_
 cases aval env x with
 |none=>rfl
 |some a=>cases a<;>rfl
theorem EF(kk x):XO env σ R (.conv kk x)=bf (aval env x) λa=>match a with
  | .int _ n=>R (.int kk (kk.wrap n)) none
  |_=>False:=rfl
theorem EG(f first caps):XO env σ R (.mkfn f first caps)=fP (cI env first) λl=>fP (cI env caps) λm=>R (.fn f l m) none:=rfl
theorem EH(off x):XO env σ R (.fldA off x)=bf (aval env x) λp=>match p with
  | .ptr o o1=>R (.ptr o (o1+off)) none
  | .eptr o m o1=>R (.eptr o m (o1+off)) none
  | .cptr cs=>R (.cptr (cs.drop off)) none
  |_=>False:=rfl
theorem EI(sz x i):XO env σ R (.idxS sz x i)=bf (aval env x) λs=>bf (aval env i) λi=>match s,i with
  | .slice l _, .int _ i=>c6 (0<=i) (bf l[i.toNat]? λe=>c6 ((aD e).length=sz) (R (.cptr (aD e)) none))
  | .vec o len, .int _ i=>c6 (0<=i/\i<len) (R (.eptr o len (i.toNat*sz)) none)
  | .pre o len n, .int _ i=>c6 (0<=i/\i<len) (R (.eptr o n (i.toNat*sz)) none)
  |_,_=>False:=rfl
theorem EJ(sz len x i):XO env σ R (.idxR sz len x i)=bf (aval env x) λs=>bf (aval env i) λi=>match s,i with
  | .ptr o off, .int _ i=>c6 (0<=i/\i<len) (R (.ptr o (off+i.toNat*sz)) none)
  | .eptr o m off, .int _ i=>c6 (0<=i/\i<len) (R (.eptr o m (off+i.toNat*sz)) none)
  | .cptr cs, .int _ i=>c6 (0<=i/\i<len) (R (.cptr (cs.drop (i.toNat*sz))) none)
  |_,_=>False:=rfl
theorem H2(sz x lo hi mx):XO env σ R (.slc sz x lo hi mx)=bf (aval env x) λs=>match s with
  | .slice l _=>c6 (iq sz l) (pL env hi l.length l.length λh=>pL env lo 0 h λlo=>match mx with
   |none=>R (.slice ((l.take h).drop lo) .no) none
   |some m=>c6 (hi.isSome=true) (bf (aval env m) λm=>match m with
    | .int _ m=>c6 (m=h) (R (.slice ((l.take h).drop lo) .full) none)
    |_=>False))
  | .vec o len=>c6 (lo.isSome=false/\mx.isSome=false) (pL env hi len len λh=>R (.pre o h len) none)
  | .pre o len n=>c6 (lo.isSome=false/\mx.isSome=false) (pL env hi len len λh=>R (.pre o h n) none)
  |_=>False:=rfl
theorem u7(x i):XO env σ R (.extract x i)=bf (aval env x) λa=>match a with
  | .tup vs=>bf vs[i]? λa=>R a none
  |_=>False:=rfl
theorem H3(x):XO env σ R (.len x)=bf (aval env x) λa=>match a with
  | .slice l _=>R (.int .i64 l.length) none
  | .vec _ n=>R (.int .i64 n) none
  | .pre _ len _=>R (.int .i64 len) none
  |_=>False:=rfl
theorem H4(x):XO env σ R (.cap x)=bf (aval env x) λa=>match a with
  | .slice l .full=>R (.int .i64 l.length) none
  | .slice _ .nil=>R (.int .i64 0) none
  |_=>False:=rfl
theorem yh(sz bytes s x):XO env σ R (.append sz bytes s x)=bf (aval env s) λs=>bf (aval env x) λx=>match s,x with
  | .slice l t, .slice m _=>c6 (iq sz l/\iq sz m/\(l.length+m.length)*bytes<=35184372088832) (match t with
   | .no=>False
   | .nil=>fO m (R (.slice l .nil) none) (fresh σ λo=>R (.slice (l++m) (.own o)) (some (o,(.grow sz (l++m).length))))
   | .full=>fO m (R (.slice l .full) none) (fresh σ λo=>R (.slice (l++m) (.own o)) (some (o,(.grow sz (l++m).length))))
   | .own o=>c6 (σ o=some (.grow sz l.length)) (R (.slice (l++m) (.own o)) (some (o,(.grow sz (l++m).length)))))
  |_,_=>False:=rfl
theorem EK(sz bytes s x):XO env σ R (.appz sz bytes s x)=bf (aval env s) λs=>bf (aval env x) λx=>match s,x with
  | .slice l .nil, .int .i64 n=>c6 (l=[]/\0<n/\n*bytes<=35184372088832) (fresh σ λo=>R (.raw o n.toNat) (some (o,(.grow sz 0))))
  |_,_=>False:=rfl
theorem EL(sz x lo hi mx):XO env σ R (.slcN sz x lo hi mx)=bf (aval env x) λs=>match s with
  | .slice l .nil=>c6 (l=[]/\mx.isSome=false) (pL env hi 0 0 λ_=>pL env lo 0 0 λ_=>R (.slice [] .nil) none)
  |_=>False:=rfl
theorem EM(sz x lo hi mx):XO env σ R (.slcR sz x lo hi mx)=bf (aval env x) λs=>match s with
  | .raw o len=>c6 (lo.isSome=false/\hi.isSome=true/\mx.isSome=false) (pL env hi len len λh=>c6 (h=0) (R (.slice [] (.own o)) none))
  |_=>False:=rfl
theorem H5(xs):XO env σ R (.min xs)=fP (cI env xs) λl=>match uu l with
  |some r=>R (.int .i64 r) none
  |none=>False:=rfl
theorem H6(xs):XO env σ R (.max xs)=fP (cI env xs) λl=>match uv l with
  |some r=>R (.int .i64 r) none
  |none=>False:=rfl
theorem u8(sz bytes z g n c):XO env σ R (.mkslice sz bytes z g n c)=bf (aval env n) λn=>bf (aval env c) λc=>bf (eT g z) λe=>match n,c with
  | .int .i64 n, .int .i64 c=>c6 (aD e=z/\z.all bZ=true/\0<=n/\n<=c/\c*bytes<=35184372088832) (fresh σ λo=>R (.slice (List.replicate n.toNat e) (.own o)) (some (o,(.grow sz n.toNat))))
  |_,_=>False:=rfl
theorem u9(t x):XO env σ R (.mkiface t x)=bf (aval env x) λa=>R (.iface t a) none:=rfl
theorem A4(cs):gD env cs []=some cs:=rfl
theorem yi(cs off n x r):gD env cs ((off,n,x)::r)=match aval env x with
  |some a=>if (aD a).length=n/\off+n<=cs.length then gD env (putAt cs off (aD a)) r else none
  |none=>none:=rfl
end
theorem wz(a:AV)(R:AV->Prop):bf (some a) R=R a:=rfl
theorem H7(R:AV->Prop):bf none R=False:=rfl
theorem A5(a:List AV)(R:List AV->Prop):fP (some a) R=R a:=rfl
theorem A6(k:Prop):c6 True k=k:=by simp[c6]
theorem JC(r s:Prop):gd true true r s=r:=by simp[gd]
theorem JD(r s:Prop):gd false false r s=r:=by simp[gd]
theorem JE(r s:Prop):gd true false r s=s:=by simp[gd]
theorem JF(r s:Prop):gd false true r s=s:=by simp[gd]
theorem J7(r s:Prop):br true r s=r:=by simp[br]
theorem J8(r s:Prop):br false r s=s:=by simp[br]
theorem yj(r s:Prop):fO [] r s=r:=by simp[fO]
theorem vc(a:AV)(l:List AV)(r s:Prop):fO (a::l) r s=s:=by simp[fO]
theorem JG(σ:aB):fI σ none=σ:=rfl
theorem JH(σ:aB)(o:Nat)(x:AObj):fI σ (some (o,x))=aF σ o x:=rfl
theorem ym(tl:List (Nat×TI)):iy tl []=True:=rfl
theorem vd(tl:List (Nat×TI))(i j:Nat)(r:List (Nat×Nat)):iy tl ((i,j)::r)=((match cq i tl,cq j tl with
  |some a,some b=>j6 a b
  |_,_=>True)/\iy tl r):=rfl
theorem yn(i:Nat):cq i []=none:=rfl
theorem yo(i:Nat)(o:TI)(r:List (Nat×TI)):cq i ((i,o)::r)=some o:=by simp[cq]
theorem ve(i j:Nat)(o:TI)(r:List (Nat×TI))(h:i≠j):cq i ((j,o)::r)=cq i r:=by simp[cq,h]
theorem H8(a b:Nat)(x y):j6 (.mem a x) (.mem b y)=¬a=b:=rfl
theorem H9(a:Nat)(x us):j6 (.mem a x) (.call us)=ix a x us:=rfl
theorem Ia(b:Nat)(us y):j6 (.call us) (.mem b y)=nU b us:=rfl
theorem Ib(us vs):j6 (.call us) (.call vs)=(us=[]/\vs=[]):=rfl
theorem vf(o rd):ix o rd []=True:=rfl
theorem sX(o rd a x r):ix o rd ((a,x)::r)=((¬a=o\/match rd,x with
  |some (off,n,vs), .cells cs=>off+n<=cs.length/\(cs.drop off).take n=vs
  |_,_=>False)/\ix o rd r):=rfl
theorem yp(o):nU o []=True:=rfl
theorem vg(o a x r):nU o ((a,x)::r)=(¬a=o/\nU o r):=rfl
theorem yq(σ:aB):nV σ []=True:=rfl
theorem vh(σ:aB)(a x r):nV σ ((a,x)::r)=(σ a≠none/\nV σ r):=rfl
theorem A7(σ:aB):eV σ []=σ:=rfl
theorem yu(σ:aB)(a x r):eV σ ((a,x)::r)=eV (aF σ a x) r:=rfl
theorem sY{α:Type}(a:α)(R:α->Prop):zW (some a) R=R a:=rfl
theorem sZ{α:Type}(R:α->Prop):zW none R=False:=rfl
theorem aa(σ:aB)(o o':Nat)(x:AObj):(aF σ o x o'=none)=(o'≠o/\σ o'=none):=by
 by_cases h:o'=o<;>simp[aF,h]
theorem Ic(i:Nat)(v:Option AV)(e:aX):lk ((i,v)::e) i=v:=by simp[lk]
theorem EN(i j:Nat)(v:Option AV)(e:aX)(h:i≠j):lk ((j,v)::e) i=lk e i:=by simp[lk,h]
theorem Id(env:aX)(n:Nat):aval env (.t n)=lk env n:=rfl
theorem Ie(env:aX)(v:AV):aval env (.c v)=some v:=rfl
theorem If(env:aX)(n:Nat)(tbl):aval env (.m n tbl)=wg tbl (lk env n):=rfl
theorem yx(env:aX):cI env []=some []:=rfl
theorem vi(env:aX)(x:AOpnd)(xs:List AOpnd):cI env (x::xs)=match aval env x,cI env xs with
  |some a,some l=>some (a::l)
  |_,_=>none:=rfl
theorem Ig(d:Nat)(v:AV)(env:aX):putA (some d) v env=(d,some v)::env:=rfl
theorem Ih(v:AV)(env:aX):putA none v env=env:=rfl
theorem EO(d:Nat)(env:aX):skipA (some d) env=(d,some (.tup []))::env:=rfl
theorem EP(env:aX):skipA none env=env:=rfl
theorem Zr{p:Bool}{r s:Prop}(h1:p=true->r)(h2:p=false->s):br p r s:=⟨h1,h2⟩
theorem EQ(n:Nat):iq n []=True:=by simp[iq]
theorem A8(n:Nat)(a:AV)(l:List AV):iq n (a::l)=((aD a).length=n/\iq n l):=by simp[iq]
theorem vj(n:Nat)(l m:List AV):iq n (l++m)=(iq n l/\iq n m):=by
 simp only[iq,List.mem_append,eq_iff_iff];exact⟨λh=>⟨λx hx=>h x (.inl hx),λx hx=>h x (.inr hx)⟩,λh x hx=>hx.elim (h.1 x) (h.2 x)⟩
theorem dU{α:Type}(n:Nat)(f:α->AV)(l:List α)(h:∀a,(aD (f a)).length=n):iq n (l.map f)=True:=by
 simp[iq,h]
section
variable {X : Type} (mk : X -> aX) (sg : X -> aB) (inv : X -> Prop) (ms : X -> Nat)
def wA(n:Nat)(env:aX)(σ:aB):Prop:=∃x,n=ms x/\env=mk x/\σ=sg x/\inv x
theorem ar{body:(AExit->aX->aB->Prop)->aX->aB->Prop}{Q:AExit->aX->aB->Prop}{env:aX}{σ:aB}(x0:X)
  (h0:WkF σ (mk x0) env/\mS [] (sg x0) σ/\inv x0)(hr:∀x,inv x->body (i8 (nT (wA mk sg inv ms) (ms x)) Q) (mk x) (sg x)):At body Q env σ:=by
 refine⟨wA mk sg inv ms,⟨ms x0,mk x0,sg x0,⟨x0,rfl,rfl,rfl,h0.2.2⟩,Gy h0.1 h0.2.1⟩,?_⟩;rintro n env σ ⟨x,rfl,rfl,rfl,hi⟩;exact hr x hi
theorem cA{n:Nat}{env:aX}{σ:aB}(x:X)(h:WkF σ (mk x) env/\mS [] (sg x) σ/\inv x/\ms x<n):nT (wA mk sg inv ms) n env σ:=
 ⟨ms x,mk x,sg x,h.2.2.2,⟨x,rfl,rfl,rfl,h.2.2.1⟩,Gy h.1 h.2.1⟩
end
theorem fb{R:ARes->aB->Prop}{v σ}(h:R (.ret v) σ):fin R v σ:=⟨v,σ,Vr.refl v σ,h⟩
theorem JI{R:ARes->aB->Prop}{v σ}(v0:AV)(σ0:aB)(h:R (.ret v0) σ0)(hv:FL σ v0 v)(hs:mS [] σ0 σ):fin R v σ:=⟨v0,σ0,vr_of hv hs,h⟩
theorem fin_eq{v0 v σ0 σ}(h:FL σ v0 v/\mS [] σ0 σ):fin (λr s=>r= .ret v0/\s=σ0) v σ:=⟨v0,σ0,vr_of h.1 h.2,rfl,rfl⟩
theorem ACalls.fl{P:Program}{f:FuncId}{args0 args:List AV}{σ0 σ:aB}{R:ARes->aB->Prop}(h:ACalls P f args0 σ0 R)(ha:wn σ args0 args)(hs:mS [] σ0 σ):ACalls P f args σ R:=by
 refine⟨h.1,λS K w vals hS hr hsat=>?_⟩;obtain⟨K1,k1,k2,k3⟩:=view_fl hs S K w hS hsat;refine(h.2 S K1 w vals hS ?_ k2).mono λe w' ⟨K',r,σ',q1,q2⟩=>⟨K',r,σ',k1.trans q1,q2⟩;obtain⟨K2,m1,m2,m3⟩:=view_fl hs S K w hS hsat;exact⟨ha.1.trans hr.1,λi h1 h2=>k3 _ _ _ (ha.2 i h1 (by rw[<-ha.1];exact h1)) (hr.2 i (by rw[<-ha.1];exact h1) h2)⟩
theorem ACalls.flA{P:Program}{f:FuncId}{args0 args:List AV}{σ:aB}{R:ARes->aB->Prop}(h:ACalls P f args0 σ R)(ha:wn σ args0 args):ACalls P f args σ R:=
 h.fl ha (λo _ x e=>⟨x,e, .refl _ x⟩)
theorem GC{P:Program}{f:FuncId}{fn:Func}{N:Nat}{ac:ACode}(hfn:P.funcs[f]?=some fn)(hb:fn.body.bind (tr P N)=some ac)(hname:(fn.name=="runtime.NumGoroutine")=false):cu P f=true:=by
 cases hc:fn.body with
 |none=>simp[hc] at hb
 |some c=>simp[cu,hfn,hc,hname]
theorem ACalls.virt{P:Program}{f:FuncId}{args:List AV}{σ:aB}{R:ARes->aB->Prop}(hc:cu P f=true)(sz:Nat)
  (h:∀o,σ o=none->(∀o',¬σ o'=none->¬o'=o)->(∀o',¬σ o'=none->¬o=o')->ACalls P f args (aF σ o (.virt sz)) R):ACalls P f args σ R:=by
 have h':∀o,σ o=none->ACalls P f args (aF σ o (.virt sz)) R:=λo ho=>h o ho (λo' h' e=>h' (e▸ho)) (λo' h' e=>h' (e▸ho));refine⟨hc,λS K w vals hS hr hs=>?_⟩;obtain⟨nm,n1,n2,n3⟩:=kC hs hS;obtain⟨k1,k2⟩:=hs.name n1 (.virt sz) (.virt sz) (by simp[ObjSat]) (λo' x' e' q1 q2 q3 q4=>by simp[Own.real] at q4);refine((h' nm n3).2 S _ w vals hS (hr.mono k1) k2).mono λe w' ⟨K',r,σ',q1,q2⟩=>⟨K',r,σ',?_,q2⟩;refine Gh.leS.trans ⟨k1,λo hs hn=>?_⟩ q1;have:o≠nm:=λe=>n2 (e▸hs)
 simp[Gh.named,this,hn]
theorem ACalls.view{P:Program}{f:FuncId}{args:List AV}{σ:aB}{R R':ARes->aB->Prop}(h:ACalls P f args σ R)(hR:∀r s,R r s->∃v v0 s0,r= .ret v/\Vr v0 s0 v s/\R' (.ret v0) s0):ACalls P f args σ R':=by
 refine⟨h.1,λS K w vals hS hr hsat=>(h.2 S K w vals hS hr hsat).mono ?_⟩;rintro e w' ⟨K',r,σ',q1,q2,q3,q4⟩;obtain⟨v,v0,s0,rfl,hv,hr'⟩:=hR r σ' q4;cases e<;>first|exact q3.elim|skip
 obtain⟨K2,k1,k2,k3⟩:=Rel.view hv hS q3 q2;exact⟨K2, .ret v0,s0,q1.trans k1,k3,k2,hr'⟩
theorem ACalls.flo{P:Program}{f:FuncId}{args:List AV}{σ:aB}{R:ARes->aB->Prop}{o:Nat}{x0:AObj}(h:∃x,σ o=some x/\Gx σ x0 x)(c:ACalls P f args (aF σ o x0) R):ACalls P f args σ R:=by
 refine c.fl (.refl _ _) ?_;show kx σ [] (aF σ o x0) σ
 rw[Af];refine⟨.inr h,?_⟩;rw[qq];trivial
theorem ACalls.one1{P:Program}{f:FuncId}{args:List AV}{σ σ':aB}{v:AV}{R:ARes->aB->Prop}(h:ACalls P f args σ (λr s=>r= .ret v/\s=σ'))(_:True)(hR:R (.ret v) σ'):ACalls P f args σ R:=
 h.mono λr s ⟨e1,e2⟩=>by subst e1 e2;exact hR
theorem ACalls.one{P:Program}{f:FuncId}{args:List AV}{σ σ':aB}{v:AV}{R:ARes->aB->Prop}(h:ACalls P f args σ (λr s=>r= .ret v/\s=σ'))(hR:R (.ret v) σ'):ACalls P f args σ R:=
 h.mono λr s ⟨e1,e2⟩=>by subst e1 e2;exact hR
theorem yy(l:List AV):aD (.agg l)=l:=rfl
theorem ER(l:List AV):bZ (.agg l)=false:=rfl
theorem JJ(l:List AV):eT true l=some (.agg l):=rfl
theorem JK(l:List AV):eT false l=l.head?:=rfl
theorem jE(k:IntKind)(n:Int):aD (.int k n)=[(.int k n)]:=rfl
theorem ES(k:IntKind)(n:Int):bZ (.int k n)=true:=rfl
theorem cells_bool(b:Bool):aD (.bool b)=[(.bool b)]:=rfl
theorem A9(b:Bool):bZ (.bool b)=true:=rfl
theorem jF(s:ByteArray):aD (.str s)=[(.str s)]:=rfl
theorem ET(s:ByteArray):bZ (.str s)=true:=rfl
theorem vk:aD .nilp=[.nilp]:=rfl
theorem Ba:bZ .nilp=true:=rfl
theorem yz(o f:Nat):aD (.ptr o f)=[(.ptr o f)]:=rfl
theorem EU(o f:Nat):bZ (.ptr o f)=true:=rfl
theorem vl(o n f:Nat):aD (.eptr o n f)=[(.eptr o n f)]:=rfl
theorem Bb(o n f:Nat):bZ (.eptr o n f)=true:=rfl
theorem vm(l:List AV):aD (.cptr l)=[(.cptr l)]:=rfl
theorem Bc(l:List AV):bZ (.cptr l)=true:=rfl
theorem cells_slice(l:List AV)(t:Tok):aD (.slice l t)=[(.slice l t)]:=rfl
theorem yA(l:List AV)(t:Tok):bZ (.slice l t)=true:=rfl
theorem yB(o n:Nat):aD (.vec o n)=[(.vec o n)]:=rfl
theorem EV(o n:Nat):bZ (.vec o n)=true:=rfl
theorem yC(o l n:Nat):aD (.pre o l n)=[(.pre o l n)]:=rfl
theorem EW(o l n:Nat):bZ (.pre o l n)=true:=rfl
theorem yD(o n:Nat):aD (.raw o n)=[(.raw o n)]:=rfl
theorem EX(o n:Nat):bZ (.raw o n)=true:=rfl
theorem yE(l:List AV):aD (.tup l)=[(.tup l)]:=rfl
theorem EY(l:List AV):bZ (.tup l)=false:=rfl
theorem yF(o:Nat):aD (.map o)=[(.map o)]:=rfl
theorem EZ(o:Nat):bZ (.map o)=true:=rfl
theorem rG:aD .nilmap=[.nilmap]:=rfl
theorem vp:bZ .nilmap=true:=rfl
theorem Bd(f:Nat)(a b:List AV):aD (.fn f a b)=[(.fn f a b)]:=rfl
theorem Ii(f:Nat)(a b:List AV):bZ (.fn f a b)=true:=rfl
theorem s5:aD .nilfn=[.nilfn]:=rfl
theorem yG:bZ .nilfn=true:=rfl
theorem s6(t:Nat)(v:AV):aD (.iface t v)=[(.iface t v)]:=rfl
theorem yH(t:Nat)(v:AV):bZ (.iface t v)=true:=rfl
theorem vq:aD .nili=[.nili]:=rfl
theorem Be:bZ .nili=true:=rfl
attribute [go_sem] yy ER JJ JK jE ES cells_bool A9 jF ET vk Ba yz EU vl Bb vm Bc cells_slice yA yB EV yD EX yE EY yF EZ rG vp Bd Ii s5 yG s6 yH vq Be
attribute [go_sem ↓] EK EL EM D6 D7 D8 Ep Er Es Et Eu Ev
attribute [go_sem] Dy Ai Jt Ah Am Aj xM G7 G8 Ak Al xN DA DB An DC qq G9 Dz
attribute [go_sem] lJ Ag Af G6 List.mem_cons List.not_mem_nil or_false false_or or_true true_or Ao Option.isSome_none Option.isSome_some
attribute [go_sem] AH xW
attribute [go_sem ↓] Hh Hf Hd DL AG DX HD HE D9 Ea AN AO HF HG Eb Ec AP AQ x5 x6 Ed Ee AR AS x7 x8 HH HI HJ HK Jy Jz Ef Eg Eh Ei Ej Ek El Em En Eo HL HM uV uW HN HO HP HQ x9 ya HR HS HT HU uX uY uZ u6 Ew JG JH DM He Hg DN AI DO DP Hi Hc DK AF Hj Hk Hl Hm DQ DR DS DT DU Hn Ho Hp Hq Hr DV Hs Ht DW AJ Hu DY AK Hv DZ AL xX D0 AM xY Hw Hx Jx D1 D2 D3 D4 D5 Hy uS Hz HA xZ HB HC uT uU EC A1 HW ED A2 yf EE A3 yg HX HY HZ H1 H0 EF EG EH EI EJ H2 u7 H3 H4 yh H5 H6 u8 u9 A4 yi wz Ic EN Id Ie yx vi Ig Ih EO EP
attribute [go_sem] ym vd yn yo ve wz H7 A5 A6 JC JD JE JF J7 J8 yj vc EQ A8 vj cg mW eH Dc putAt uu uv qd bq pL one ne_eq not_false_eq_true
attribute [go_sem] List.nil_append List.append_nil List.cons_append List.length_cons List.length_nil List.take_zero List.drop_zero List.take_succ_cons List.drop_succ_cons List.head?_cons List.take_nil List.drop_nil List.all_cons List.all_nil Bool.and_true Bool.true_and and_true true_and
theorem rH{α:Type}(f:α->AV)(l:List α):List.take l.length (l.map f)=l.map f:=List.take_of_length_le (by simp)
theorem J9(a:AV)(l:List AV):(a::l)[0]?=some a:=rfl
theorem Ka(a b:AV)(l:List AV):(a::b::l)[1]?=some b:=rfl
theorem Kb(a b c:AV)(l:List AV):(a::b::c::l)[2]?=some c:=rfl
theorem Kc(a b c d:AV)(l:List AV):(a::b::c::d::l)[3]?=some d:=rfl
theorem Kd(a b c d e:AV)(l:List AV):(a::b::c::d::e::l)[4]?=some e:=rfl
theorem Ke(a b c d e f:AV)(l:List AV):(a::b::c::d::e::f::l)[5]?=some f:=rfl
theorem Kf(a b c d e f g:AV)(l:List AV):(a::b::c::d::e::f::g::l)[6]?=some g:=rfl
theorem Kg(a b c d e f g h:AV)(l:List AV):(a::b::c::d::e::f::g::h::l)[7]?=some h:=rfl
theorem Kh(a b c d e f g h i:AV)(l:List AV):(a::b::c::d::e::f::g::h::i::l)[8]?=some i:=rfl
attribute [go_sem] J9 Ka Kb Kc Kd Ke Kf Kg Kh
theorem Bf{α β:Type}(p:α×β):(p.1,p.2)=p:=rfl
theorem min2(a b:Int):(if b<a then b else a)=min a b:=by omega
theorem max2(a b:Int):(if b>a then b else a)=max a b:=by omega
theorem Zp{p:Bool}{r s:Prop}(h1:p=true->r)(h2:p=false->s):gd p true r s:=⟨h1,λh=>h2 (by simpa using h)⟩
theorem Zq{p:Bool}{r s:Prop}(h1:p=false->r)(h2:p=true->s):gd p false r s:=⟨h1,λh=>h2 (by simpa using h)⟩
theorem Za{q:Prop}[Decidable q]{r s:Prop}(h1:q->r)(h2:¬q->s):gd (decide q) true r s:=Zp (λh=>h1 (of_decide_eq_true h)) (λh=>h2 (of_decide_eq_false h))
theorem Zb{q:Prop}[Decidable q]{r s:Prop}(h1:¬q->r)(h2:q->s):gd (decide q) false r s:=Zq (λh=>h1 (of_decide_eq_false h)) (λh=>h2 (of_decide_eq_true h))
theorem Zc{q:Prop}[Decidable q]{r s:Prop}(h1:q->r)(h2:¬q->s):br (decide q) r s:=Zr (λh=>h1 (of_decide_eq_true h)) (λh=>h2 (of_decide_eq_false h))
theorem Zd{a:Int}{n:Nat}{r s:Prop}(h1:(a=OfNat.ofNat n)/\(a==OfNat.ofNat n)=true->r)(h2:(a≠OfNat.ofNat n)/\(a==OfNat.ofNat n)=false->s):gd (a==OfNat.ofNat n) true r s:=Zp (λh=>h1 ⟨by simpa using h,h⟩) (λh=>h2 ⟨by simpa using h,h⟩)
theorem Zj{a b:Int}{r s:Prop}(h1:(a<=b/\b<=a)/\(a==b)=true->r)(h2:(a≠b)/\(a==b)=false->s):gd (a==b) true r s:=Zp (λh=>h1 ⟨by have:=h;simp at this;omega,h⟩) (λh=>h2 ⟨by have:=h;simp at this;omega,h⟩)
theorem Ze{a:Int}{n:Nat}{r s:Prop}(h1:(a≠OfNat.ofNat n)/\(a==OfNat.ofNat n)=false->r)(h2:(a=OfNat.ofNat n)/\(a==OfNat.ofNat n)=true->s):gd (a==OfNat.ofNat n) false r s:=Zq (λh=>h1 ⟨by simpa using h,h⟩) (λh=>h2 ⟨by simpa using h,h⟩)
theorem Zk{a b:Int}{r s:Prop}(h1:(a≠b)/\(a==b)=false->r)(h2:(a<=b/\b<=a)/\(a==b)=true->s):gd (a==b) false r s:=Zq (λh=>h1 ⟨by have:=h;simp at this;omega,h⟩) (λh=>h2 ⟨by have:=h;simp at this;omega,h⟩)
theorem Zf{a:Int}{n:Nat}{r s:Prop}(h1:(a=OfNat.ofNat n)/\(a==OfNat.ofNat n)=true->r)(h2:(a≠OfNat.ofNat n)/\(a==OfNat.ofNat n)=false->s):br (a==OfNat.ofNat n) r s:=Zr (λh=>h1 ⟨by simpa using h,h⟩) (λh=>h2 ⟨by simpa using h,h⟩)
theorem Zl{a b:Int}{r s:Prop}(h1:(a<=b/\b<=a)/\(a==b)=true->r)(h2:(a≠b)/\(a==b)=false->s):br (a==b) r s:=Zr (λh=>h1 ⟨by have:=h;simp at this;omega,h⟩) (λh=>h2 ⟨by have:=h;simp at this;omega,h⟩)
theorem Zg{a:Int}{n:Nat}{r s:Prop}(h1:(a≠OfNat.ofNat n)/\(a != OfNat.ofNat n)=true->r)(h2:(a=OfNat.ofNat n)/\(a != OfNat.ofNat n)=false->s):gd (a != OfNat.ofNat n) true r s:=Zp (λh=>h1 ⟨by simpa using h,h⟩) (λh=>h2 ⟨by simpa using h,h⟩)
theorem Zm{a b:Int}{r s:Prop}(h1:(a≠b)/\(a != b)=true->r)(h2:(a<=b/\b<=a)/\(a != b)=false->s):gd (a != b) true r s:=Zp (λh=>h1 ⟨by have:=h;simp at this;omega,h⟩) (λh=>h2 ⟨by have:=h;simp at this;omega,h⟩)
theorem Zh{a:Int}{n:Nat}{r s:Prop}(h1:(a=OfNat.ofNat n)/\(a != OfNat.ofNat n)=false->r)(h2:(a≠OfNat.ofNat n)/\(a != OfNat.ofNat n)=true->s):gd (a != OfNat.ofNat n) false r s:=Zq (λh=>h1 ⟨by simpa using h,h⟩) (λh=>h2 ⟨by simpa using h,h⟩)
theorem Zn{a b:Int}{r s:Prop}(h1:(a<=b/\b<=a)/\(a != b)=false->r)(h2:(a≠b)/\(a != b)=true->s):gd (a != b) false r s:=Zq (λh=>h1 ⟨by have:=h;simp at this;omega,h⟩) (λh=>h2 ⟨by have:=h;simp at this;omega,h⟩)
theorem Zi{a:Int}{n:Nat}{r s:Prop}(h1:(a≠OfNat.ofNat n)/\(a != OfNat.ofNat n)=true->r)(h2:(a=OfNat.ofNat n)/\(a != OfNat.ofNat n)=false->s):br (a != OfNat.ofNat n) r s:=Zr (λh=>h1 ⟨by simpa using h,h⟩) (λh=>h2 ⟨by simpa using h,h⟩)
theorem Zo{a b:Int}{r s:Prop}(h1:(a≠b)/\(a != b)=true->r)(h2:(a<=b/\b<=a)/\(a != b)=false->s):br (a != b) r s:=Zr (λh=>h1 ⟨by have:=h;simp at this;omega,h⟩) (λh=>h2 ⟨by have:=h;simp at this;omega,h⟩)
theorem Ij(p:Bool)(r s:Prop):br (!p) r s=br p s r:=by cases p<;>simp[br]
theorem Bg(p:Bool)(r s:Prop):gd (!p) true r s=gd p false r s:=by cases p<;>simp[gd]
theorem Bh(p:Bool)(r s:Prop):gd (!p) false r s=gd p true r s:=by cases p<;>simp[gd]
attribute [go_sem] Ij Bg Bh
theorem Zt{σ:aB}{k:Nat->Prop}(h:∀o,σ o=none->(∀o',¬σ o'=none->¬o'=o)->(∀o',¬σ o'=none->¬o=o')->k o):fresh σ k:=λo ho=>h o ho (λo' h' e=>h' (e▸ho)) (λo' h' e=>h' (e▸ho))
theorem Zv{p k:Prop}(h:p)(h':k):c6 p k:=⟨h,h'⟩
theorem Zu{α:Type}{f:α->AV}{l:List α}{i:Nat}{R:AV->Prop}(h:i<l.length)(h':R (f l[i])):bf (l.map f)[i]? R:=by
 rw[List.getElem?_map,List.getElem?_eq_getElem h];exact h'
theorem Zs{m:List AV}{a b:Prop}(h1:m=[]->a)(h2:m≠[]->b):fO m a b:=⟨h1,h2⟩
theorem ah(n:Int)(h1: -9223372036854775808<=n)(h2:n<=9223372036854775807):IntKind.i64.wrap n=n:=by
 simp[IntKind.wrap,IntKind.signed,IntKind.bits];omega
attribute [go_sem] decide_true decide_false List.length_map Int.toNat_natCast Int.natCast_nonneg Bool.not_true Bool.not_false beq_self_eq_true bne_self_eq_false Int.ofNat_lt Int.ofNat_le Int.natCast_zero Int.sub_zero Int.cast_ofNat_Int rH min2 max2 not_true_eq_false false_and and_false Bool.false_and Bool.and_false Bf List.length_append Int.natCast_add List.map_append List.map_cons List.map_nil List.take_zero List.flatten_nil List.flatten_cons
theorem eI{P:Program}(hm:P.follows .mixedOrders=true){f:FuncId}{fn:Func}{N:Nat}{rs:List ARV}{ac:ACode}{args:List AV}{σ:aB}{R:ARes->aB->Prop}
  (hfn:P.funcs[f]?=some fn)(hb:fn.body.bind (tr P N)=some ac.bare)(hname:(fn.name=="runtime.NumGoroutine")=false)(hN:fn.ntmps=N)
  (hr:cN P fn.results.toList=some rs)(hargs:args.length<=N)(h:XC P ac (oq rs R) (eH 0 args) σ):ACalls P f args σ R:=
 AE hm hfn hb hname hN hr hargs h
attribute [go_sem] H8 H9 Ia Ib vf sX yp vg yq vh A7 yu sY sZ
attribute [go_sem ↓] AY AZ AT AU AW AX Ex Ey Ez EA EB id_mset tc_mset xo_mset ir_bsliceG xo_bsliceG ir_vmake id_vmake tc_vmake xo_vmake ir_vapp id_vapp tc_vapp xo_vapp ir_vfrz xo_vfrz ir_retok xo_retok
attribute [go_sem ↓] If
attribute [go_sem] A0 yb ye HV JA JB yC EW Jp Jq Option.map_some
end Abs
namespace Abs
open Go
def isAgg(P:Program)(t:TypeId):Bool:=
 match P.underlying t with
 |some (.struct _)=>true
 |some (.array _ _)=>true
 |_=>false
def Bi(P:Program):List Field->Nat->Nat->Bool
 |[],off,n=>off==n
 |f::fs,off,n=>f.offset==off&&Bi P fs (off+P.cellsOf f.type) n
def lU(C:TypeId->List AV->Prop):List TypeId->List AV->Prop
 |[],cs=>cs=[]
 |t::ts,cs=>∃p q,cs=p++q/\C t p/\lU C ts q
def bp(P:Program):Nat->TypeId->List AV->Prop
 |0,_,_=>False
 |g+1,t,cs=>
  match P.underlying t with
  |some .bool=>∃b,cs=[.bool b]
  |some (.int k)=>∃n,cs=[.int k n]/\k.min<=n/\n<=k.max
  |some .string=>∃s:ByteArray,cs=[.str s]/\s.size<=maxLen
  |some (.slice e)=>∃l,cs=[.slice l .no]/\l.length<=maxLen/\∀x∈l,∃es,eT (isAgg P e) es=some x/\bp P g e es
  |some (.struct fs)=>lU (bp P g) (fs.toList.map (·.type)) cs
  |some (.array n e)=>lU (bp P g) (List.replicate n e) cs
  |_=>False
def kH(W:World)(b o:Nat):Option Value:=if b<W.heap.size then (W.cell? ⟨b,o,none⟩).filter (·.oneCell') else none
def kb(W:World):Gh:={base:=W,claim:=kH W,own:=λ_=>none,ds:=[]}
theorem Bj(W:World):Sat (kb W) (λ_=>none) W where
 os:=rfl
 tape:=rfl
 output:=rfl
 size:=Nat.le_refl _
 old:=λ_ _=>rfl
 free:=λb o h=>by
  have:W.heap[b]?=none:=by simp[kb] at h|-;omega
  simp[World.frozen?,this]
 claim:=λb o v h=>by
  simp only[kb,kH] at h;split at h
  ·simp at h;exact h.1
  ·simp at h
 one:=λb o v h=>by
  simp only[kb,kH] at h;split at h
  ·simp at h;exact h.2
  ·simp at h
 live:=λo x h=>by simp at h
 apart:=λo o' x x' e e' h=>by simp at h
 room:=⟨0,λ_ _=>rfl⟩
theorem sat_grown{K:Gh}{σ:aB}{W w:World}(hK:K.base=W)(h:Sat K σ w):Go.RowKit.Grown W w:=by
 subst hK;refine⟨⟨h.os,h.output,λi hi=>?_⟩,λa=>?_,h.size⟩
 ·rw[h.old i hi];generalize K.base.heap[i]?=x;cases x with
  |none=>rfl
  |some x=>
   cases x with
   |cells c t fr=>exact⟨rfl,rfl,rfl,λ_ _=>rfl⟩
   |map es clock=>exact .inr ⟨rfl,rfl⟩
   |_=>rfl
 ·rcases Nat.lt_or_ge a.block K.base.heap.size with hb|hb
  ·simp only[World.frozen?,h.old _ hb]
  ·have h1:=h.free a.block a.off hb;have h2:K.base.heap[a.block]?=none:=by simp;omega
   have e1:w.frozen? a=w.frozen? ⟨a.block,a.off,none⟩:=rfl;rw[e1,h1];simp[World.frozen?,h2]
theorem jc{α β:Type}{g:α->Option β}:∀{l:List α} {ys:List β},l.mapM g=some ys->∀a∈l,∃b,g a=some b
 |[],_,_,a,ha=>by simp at ha
 |x::l,ys,h,a,ha=>by
  simp only[List.mapM_cons,Option.bind_eq_bind,Option.bind_eq_some_iff,Option.pure_def,Option.some.injEq] at h;obtain⟨y,h1,zs,h2,_⟩:=h;rcases List.mem_cons.1 ha with rfl|ha
  ·exact⟨y,h1⟩
  ·exact jc h2 a ha
theorem s7{α β:Type}{g:α->Option β}:∀{l:List α} {ys:List β},l.mapM g=some ys->ys.length=l.length/\∀(i:Nat) a y,l[i]?=some a->ys[i]?=some y->g a=some y
 |[],ys,h=>by simp at h;subst h;simp
 |x::l,ys,h=>by
  simp only[List.mapM_cons,Option.bind_eq_bind,Option.bind_eq_some_iff,Option.pure_def,Option.some.injEq] at h;obtain⟨y,h1,zs,h2,rfl⟩:=h;obtain⟨q1,q2⟩:=s7 h2;refine⟨by simp[q1],λi a y' ha hy=>?_⟩;cases i with
  |zero=>simp at ha hy;subst ha;subst hy;exact h1
  |succ i=>exact q2 i a y' (by simpa using ha) (by simpa using hy)
theorem oD{α:Type}{p:Nat->α->Prop}:∀n,(∀i,i<n->∃x,p i x)->∃l:List α,l.length=n/\∀(i:Nat) x,l[i]?=some x->p i x
 |0,_=>⟨[],rfl,by simp⟩
 |n+1,h=>by
  obtain⟨l,h1,h2⟩:=oD n λi hi=>h i (by omega);obtain⟨x,hx⟩:=h n (by omega);refine⟨l++[x],by simp[h1],λi y hy=>?_⟩;rcases Nat.lt_or_ge i l.length with hi|hi
  ·rw[List.getElem?_append_left hi] at hy;exact h2 i y hy
  ·rw[List.getElem?_append_right hi] at hy
   have:i-l.length=0:=by
    rcases Nat.eq_zero_or_pos (i-l.length) with h0|h0
    ·exact h0
    ·rw[List.getElem?_eq_none (by simp;omega)] at hy;simp at hy
   rw[this] at hy;simp at hy;subst hy;have:i=n:=by omega
   subst this;exact hx
theorem qx{W:World}{a:Addr}{v:Value}(h:W.cell? a=some v):a.spot=none/\a.block<W.heap.size:=by
 unfold World.cell? at h;split at h
 ·rename_i c el fr hc
  refine⟨?_,?_⟩
  ·cases hs:a.spot with
   |none=>rfl
   |some s=>simp[hs] at h
  ·rcases Nat.lt_or_ge a.block W.heap.size with h'|h'
   ·exact h'
   ·simp[Array.getElem?_eq_none h'] at hc
 ·simp at h
theorem s8{a:Addr}(h:a.spot=none)(n:Nat):a.add n=⟨a.block,a.off+n,none⟩:=by
 unfold Addr.add;split
 ·rename_i hn;subst hn;cases a;simp at h;subst h;rfl
 ·rfl
theorem yI{W:World}{b o:Nat}{v:Value}(h:W.cell? ⟨b,o,none⟩=some v)(h1:v.oneCell'=true):(kb W).claim b o=some v:=by
 have:=(qx h).2
 simp only[kb,kH];rw[if_pos this,h];simp[h1]
theorem yJ{g:Bool}{es:List AV}{x:AV}(h:eT g es=some x)(h1:es.all bZ=true)(hg:g=false->es.length=1):aD x=es:=by
 unfold eT at h;cases g with
 |true=>simp at h;subst h;rfl
 |false=>
  have:=hg rfl
  match es,this with
  |[v],_=>
   simp at h;subst h
   simp at h1
   cases v<;>simp[bZ] at h1<;>rfl
theorem jS{H:Type}{enc:TypeId×Value->H}{P:Program}(hl:laidOutB P=true){W W':World}{sp':Nat->Bool}:∀{ts:List TypeId} {vs:List Value} {ds:List (DataW H)} {ps:List MemPlace},
  (∀t∈ts,P.readableRec t=true/\t<P.types.size)->DataW.TrodAll enc P W 0 (λ_=>true) true ts vs ds ps->(∀p∈ps,W.sameAt W' p)->(∀p∈ps,sp' p.block=true)->DataW.TrodAll enc P W' 0 sp' true ts vs ds ps
 |[],[],[],_,_,h,_,_=>h
 |t::ts,v::vs,d::ds,_,ht,⟨p,q,h1,h2,hpq⟩,h3,h4=>by
  subst hpq
  exact⟨p,q,WideElems.Trod_stays hl (ht t (by simp)).1 (ht t (by simp)).2 h1 (λx hx=>h3 x (by simp[hx])) (λx hx=>h4 x (by simp[hx])),
   jS hl (λt h=>ht t (by simp[h])) h2 (λx hx=>h3 x (by simp[hx])) (λx hx=>h4 x (by simp[hx])),rfl⟩
 |[],_::_,_,_,_,h,_,_=>h.elim
 |[],[],_::_,_,_,h,_,_=>h.elim
 |_::_,[],_,_,_,h,_,_=>h.elim
 |_::_,_::_,[],_,_,h,_,_=>h.elim
theorem vr{W W':World}(h:Go.RowKit.Grown W W')(hsz:∀b,b<W.heap.size->W'.heap[b]?=W.heap[b]?){p:MemPlace}(hp:p.block<W.heap.size):W.sameAt W' p:=by
 cases p with
 |cell b o=>exact World.cell?_of_block (w:=W) (hsz b hp)
 |map b=>exact hsz b hp
theorem vu{P:Program}{k:FuncId}{as_:List AV}{args:Array Value}{W:World}(hr:RelL (kb W) as_ args.toList)(hc:ACalls P k as_ (λ_=>none) (λr _=>r= .ret (.bool true))):
  Calls P k args W λe W'=>e= .returned (.bool true)/\Go.RowKit.Grown W W'/\∀b,b<W.heap.size->W'.heap[b]?=W.heap[b]?:=
 (hc.2 (λ_=>False) (kb W) W args ⟨0,λ_ _ h=>h⟩ hr (Bj W)).mono λe w' ⟨K',r,σ',h1,h2,h3,h4⟩=>by
  subst h4;have hb:K'.base=W:=h1.le.base;refine⟨?_,sat_grown hb h2,λb hlt=>?_⟩
  ·cases e with
   |returned v=>
    have:v= .bool true:=cL h3
    rw[this]
   |panicked c=>exact h3.elim
   |outgrown=>exact h3.elim
  ·have:=h2.old b (by rw[hb];exact hlt)
   rw[hb] at this;exact this
end Abs
