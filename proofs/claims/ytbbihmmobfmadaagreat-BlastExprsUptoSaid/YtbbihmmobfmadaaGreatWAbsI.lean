/- The abstraction layer, part I: abstract code's predicate transformer is sound: regions in the text's order, branches, loops, calls. Over any program. -/
import Derived.Maps.RangeRun
import Derived.Test.YtbbihmmobfmadaaGreatWAbsF
import Derived.Test.YtbbihmmobfmadaaGreatWAbsQ
set_option linter.unusedSimpArgs false
set_option linter.unusedVariables false
namespace Abs
open Go
inductive Lift(B:AV->AV->Prop):AV->AV->Prop
 |refl (a):Lift B a a
 |base (a b) (h:B a b):Lift B a b
 |slice (l0 l:List AV) (t0 t:Tok) (ht:t0= .no\/t0=t) (hl:l0.length=l.length) (h:∀i,(h0:i<l0.length)->(h1:i<l.length)->Lift B l0[i] l[i]):Lift B (.slice l0 t0) (.slice l t)
 |agg (l0 l:List AV) (hl:l0.length=l.length) (h:∀i,(h0:i<l0.length)->(h1:i<l.length)->Lift B l0[i] l[i]):Lift B (.agg l0) (.agg l)
 |tup (l0 l:List AV) (hl:l0.length=l.length) (h:∀i,(h0:i<l0.length)->(h1:i<l.length)->Lift B l0[i] l[i]):Lift B (.tup l0) (.tup l)
def LiftL(B:AV->AV->Prop)(l0 l:List AV):Prop:=l0.length=l.length/\∀i,(h0:i<l0.length)->(h1:i<l.length)->Lift B l0[i] l[i]
def oO(B:AV->AV->Prop):Prop:=∀a b,B a b->bY a=true/\bY b=true
theorem mg{a:AV}(h:bY a=true):az a=[a]:=by cases a<;>simp[bY] at h<;>rfl
theorem LiftL.refl(B)(l:List AV):LiftL B l l:=⟨rfl,λ_ _ _=> .refl _⟩
theorem LiftL.nil(B):LiftL B [] []:=LiftL.refl B []
theorem LiftL.cons{B a b l m}(h:Lift B a b)(hs:LiftL B l m):LiftL B (a::l) (b::m):=
 ⟨by simp[hs.1],λi h1 h2=>by
  cases i with
  |zero=>exact h
  |succ i=>exact hs.2 i (by simpa using h1) (by simpa using h2)⟩
theorem LiftL.append{B l0 l m0 m}(h:LiftL B l0 l)(h':LiftL B m0 m):LiftL B (l0++m0) (l++m):=
 ⟨by simp[h.1,h'.1],λi h1 h2=>by
  rw[List.getElem_append,List.getElem_append];by_cases hi:i<l0.length
  ·have:i<l.length:=h.1▸hi
   simp only[hi,this,dite_true];exact h.2 i hi this
  ·have:¬i<l.length:=h.1▸hi
   simp only[hi,this,dite_false];have e:i-l0.length=i-l.length:=by rw[h.1]
   have h3:i-l0.length<m0.length:=by simp at h1;omega
   have:=h'.2 (i-l0.length) h3 (by rw[<-h'.1];exact h3)
   simp only[e] at this|-;exact this⟩
theorem LiftL.cons_inv{B a l m}(h:LiftL B (a::l) m):∃b r,m=b::r/\Lift B a b/\LiftL B l r:=by
 cases m with
 |nil=>simp[LiftL] at h
 |cons b r=>
  refine⟨b,r,rfl,h.2 0 (by simp) (by simp),by simpa using h.1,λi h1 h2=>?_⟩;exact h.2 (i+1) (by simpa using h1) (by simpa using h2)
theorem Lift.cells{B a b}(hB:oO B)(h:Lift B a b):LiftL B (az a) (az b):=by
 cases h with
 |refl=>exact .refl B _
 |base _ _ h=>rw[mg (hB _ _ h).1,mg (hB _ _ h).2];exact .cons (.base _ _ h) (.nil B)
 |slice l0 l t0 t ht hl h=>exact .cons (.slice l0 l t0 t ht hl h) (.nil B)
 |agg l0 l hl h=>exact⟨hl,h⟩
 |tup l0 l hl h=>exact .cons (.tup l0 l hl h) (.nil B)
theorem LiftL.flat{B}(hB:oO B):∀{l0 l:List AV},LiftL B l0 l->LiftL B (flat l0) (flat l)
 |[],l,h=>by
  cases l with
  |nil=>exact .nil B
  |cons a l=>simp[LiftL] at h
 |a::l0,m,h=>by
  obtain⟨b,l,rfl,h1,h2⟩:=h.cons_inv;have:=(h1.cells hB).append (LiftL.flat hB h2)
  simpa [Abs.flat] using this
theorem qu{K:Gh}:∀{b:AV} {vs:List Value},RelL K (az b) vs->∃v,Rel K b v/\v.cells.toList=vs:=by
 intro b vs h;cases b with
 |agg cs=>exact⟨.agg vs.toArray, .aggL (by simpa [az] using h),by simp[Value.cells]⟩
 |_=>
  obtain⟨v,r,rfl,h1,h2⟩:=h.cons_inv;obtain rfl:r=[]:=by have:=h2.1;simpa using this.symm
  exact⟨v,h1,by cases h1<;>rfl⟩
theorem Rel.lift{B:AV->AV->Prop}(hB:oO B){K K':Gh}(hK:K.le K')(hr:∀a b v,B a b->Rel K b v->Rel K' a v){a0 a:AV}(h:Lift B a0 a):∀{v:Value},Rel K a v->Rel K' a0 v:=by
 induction h with
 |refl a=>intro v h;exact h.mono hK
 |base a b hb=>intro v h;exact hr a b v hb h
 |agg l0 l hl h ih=>
  intro v hv;cases hv with
  |agg _ vs hs hr'=>exact .agg l0 vs (by omega) λi h1 h2=>ih i h1 (by omega) (hr' i (by omega) h2)
 |tup l0 l hl h ih=>
  intro v hv;cases hv with
  |tup _ vs hs hr'=>exact .tup l0 vs (by omega) λi h1 h2=>ih i h1 (by omega) (hr' i (by omega) h2)
 |slice l0 l t0 t ht hl h ih=>
  intro v hv
  have tk:∀{b off cap sz},TokOk K t l.length b off cap sz->TokOk K' t0 l0.length b off cap sz:=by
   intro b off cap sz hk;rw[hl];rcases ht with rfl|rfl
   ·trivial
   ·exact hk.mono hK
  cases hv with
  |sl0 a cap _ ht'=>
   obtain rfl:l0=[]:=by simpa using hl
   refine .sl0 a cap t0 ?_;rcases ht with rfl|rfl
   ·exact .inl rfl
   ·rcases ht' with h|h|h|⟨h1,h2,o,h3,h4⟩
    ·exact .inl h
    ·exact .inr (.inl h)
    ·exact .inr (.inr (.inl h))
    ·exact .inr (.inr (.inr ⟨h1,h2,o,h3,h4.mono hK⟩))
  |slice _ _ b off cap sz u hsz hc hr' htk hcap=>
   have hL:LiftL B l0 l:=⟨hl,h⟩;have hF:=hL.flat hB
   have hl':∀x∈l0,(az x).length=sz:=by
    intro x hx;obtain⟨i,hi,rfl⟩:=List.getElem_of_mem hx;have:=((h i hi (by omega)).cells hB).1
    rw[this];exact hsz _ (List.getElem_mem _)
   have key:∀i,(hi:i<(Abs.flat l0).length)->Rel K' (Abs.flat l0)[i] (u i):=by
    have gen:∀(p0 p:List AV) (k:Nat),p0.length=p.length->(∀j,(h0:j<p0.length)->(h1:j<p.length)->Lift B p0[j] p[j]/\∀v,Rel K p[j] v->Rel K' p0[j] v)->
      (∀i,(hi:i<(Abs.flat p).length)->Rel K (Abs.flat p)[i] (u (k+i)))->∀i,(hi:i<(Abs.flat p0).length)->Rel K' (Abs.flat p0)[i] (u (k+i)):=by
     intro p0;induction p0 with
     |nil=>intro p k _ _ _ i hi;simp[Abs.flat] at hi
     |cons x p0 ihp=>
      intro p k hlen hj hrel i hi;cases p with
      |nil=>simp at hlen
      |cons y p=>
       obtain⟨hxy,hv0⟩:=hj 0 (by simp) (by simp);simp only[List.getElem_cons_zero] at hxy hv0;have hc0:=hxy.cells hB;have e1:Abs.flat (x::p0)=az x++Abs.flat p0:=by simp[Abs.flat]
       have e2:Abs.flat (y::p)=az y++Abs.flat p:=by simp[Abs.flat]
       have hcy:RelL K (az y) ((List.range (az y).length).map λj=>u (k+j)):=by
        refine⟨by simp,λj h1 h2=>?_⟩;have:=hrel j (by rw[e2,List.length_append];omega)
        simp only[e2,List.getElem_append_left h1] at this;simpa using this
       obtain⟨v,hv,hvs⟩:=qu hcy;have hx:=(hv0 v hv).cells;rw[hvs] at hx;by_cases hi0:i<(az x).length
       ·have:=hx.2 i hi0 (by have:=hc0.1;simp;omega)
        simp only[e1,List.getElem_append_left hi0];simpa using this
       ·have hi1:i-(az x).length<(Abs.flat p0).length:=by rw[e1,List.length_append] at hi;omega
        have:=ihp p (k+(az y).length) (by simpa using hlen) (λj h0 h1=>by
          have:=hj (j+1) (by simpa using h0) (by simpa using h1)
          simpa using this) (λj hj'=>by
          have:=hrel ((az y).length+j) (by rw[e2,List.length_append];omega)
          simp only[e2,List.getElem_append_right (Nat.le_add_right _ _),Nat.add_sub_cancel_left] at this;rw[Nat.add_assoc];exact this) (i-(az x).length) hi1
        simp only[e1,List.getElem_append_right (Nat.le_of_not_lt hi0)];have e3:k+(az y).length+(i-(az x).length)=k+i:=by rw[<-hc0.1];omega
        rw[e3] at this;exact this
    have:=gen l0 l 0 hl (λj h0 h1=>⟨h j h0 h1,λv hv=>ih j h0 h1 hv⟩) (λi hi=>by simpa using hr' i hi)
    intro i hi;simpa using this i hi
   have:=Rel.slice (K:=K') l0 t0 b off cap sz u hl' (λi hi=>hK.claim _ _ _ (hc i (by rw[<-hF.1];exact hi))) key (tk htk) (by omega)
   rw[hl] at this;exact this
def LiftO(B:AV->AV->Prop):AObj->AObj->Prop
 | .cells l0, .cells l=>LiftL B l0 l
 | .vec s0 n0 l0, .vec s n l=>s0=s/\n0=n/\LiftL B l0 l
 | .grow s0 n0, .grow s n=>s0=s/\n0=n
 | .map d0 m0, .map d m=>(d0=true->d=true)/\m0=m
 | .grow s0 n0, .virt s=>s0=s/\n0=0
 | .virt s0, .virt s=>s0=s
 | .iter a0 b0 c0, .iter a b c=>a0=a/\b0=b/\c0=c
 | .pin x0, .pin x=>x0=x
 |_,_=>False
theorem LiftO.refl(B)(x:AObj):LiftO B x x:=by
 cases x with
 |cells l=>exact LiftL.refl B l
 |vec s n l=>exact⟨rfl,rfl,LiftL.refl B l⟩
 |grow s n=>exact⟨rfl,rfl⟩
 |map d m=>exact⟨id,rfl⟩
 |virt s=>exact rfl
 |iter a b c=>exact⟨rfl,rfl,rfl⟩
 |pin x=>exact rfl
def View(f:AV->AV->Prop)(σ0 σ:aA):Prop:=∀S K w,Bnd S->Sat K σ w->∃K',K.leS S K'/\Sat K' σ0 w/\∀a0 a v,f a0 a->Rel K a v->Rel K' a0 v
def Vw(env0:bg)(σ0:aA)(env:bg)(σ:aA):Prop:=∃f,View f σ0 σ/\∀i v0,lk env0 i=some v0->∃v,lk env i=some v/\f v0 v
def Vr(v0:AV)(σ0:aA)(v:AV)(σ:aA):Prop:=∃f,View f σ0 σ/\f v0 v
theorem Fr.view{K N env env0 a σ σ0 w}{S:Nat->Prop}(hv:Vw env0 σ0 env σ)(hS:Bnd S)(hf:Fr K N env a)(hs:Sat K σ w):∃K',K.leS S K'/\Fr K' N env0 a/\Sat K' σ0 w:=by
 obtain⟨f,hv,he⟩:=hv;obtain⟨K',h1,h2,h3⟩:=hv S K w hS hs;refine⟨K',h1,⟨hf.size,hf.defers.trans h1.le.ds.symm,λi v0 e0=>?_⟩,h2⟩;obtain⟨v,e,hfv⟩:=he i v0 e0;obtain⟨u,e1,r⟩:=hf.rel i v e;exact⟨u,e1,h3 _ _ _ hfv r⟩
theorem Rel.view{K v v0 u σ σ0 w}{S:Nat->Prop}(hv:Vr v0 σ0 v σ)(hS:Bnd S)(hr:Rel K v u)(hs:Sat K σ w):∃K',K.leS S K'/\Rel K' v0 u/\Sat K' σ0 w:=by
 obtain⟨f,hv,he⟩:=hv;obtain⟨K',h1,h2,h3⟩:=hv S K w hS hs;exact⟨K',h1,h3 _ _ _ he hr,h2⟩
def E4(σ:aA)(a b:AV):Prop:=∃o sz,a= .slice [] (.own o)/\b= .slice [] .nil/\σ o=some (.virt sz)
theorem oQ(σ:aA):oO (E4 σ):=λa b ⟨o,sz,h1,h2,_⟩=>by subst h1 h2;exact⟨rfl,rfl⟩
abbrev FL(σ:aA):AV->AV->Prop:=Lift (E4 σ)
abbrev xQ(σ:aA):List AV->List AV->Prop:=LiftL (E4 σ)
abbrev Ih(σ:aA):AObj->AObj->Prop:=LiftO (E4 σ)
def la(ρ:aA)(ex:List Nat)(σ0 σ:aA):Prop:=∀o,o∉ex->∀x,σ0 o=some x->∃y,σ o=some y/\Ih ρ x y
abbrev nA(ex:List Nat)(σ0 σ:aA):Prop:=la σ ex σ0 σ
def se(K:Gh)(σ:aA):Prop:=∀o sz,σ o=some (.virt sz)->NilOwn K o
theorem Sat.nils{K σ w}(h:Sat K σ w):se K σ:=λo sz e=>by
 obtain⟨x,h1,h2⟩:=h.live o _ e;cases x<;>simp only[ObjSat] at h2
 exact⟨_, .inl h1⟩
theorem Rel.fl{K σ a0 a v}(hn:se K σ)(h:FL σ a0 a)(hr:Rel K a v):Rel K a0 v:=Rel.lift (oQ σ) (Gh.le.refl K) (λa b v ⟨o,sz,h1,h2,h3⟩ hr=>by
 subst h1 h2;cases hr with
 |sl0 a cap t ht=>
  simp at ht
  obtain⟨rfl,rfl⟩:=ht;exact .sl0 none 0 (.own o) (.inr (.inr (.inr ⟨rfl,rfl,o,rfl,hn o sz h3⟩)))
 |slice _ _ _ _ _ _ _ _ _ _ htk=>exact htk.elim) h hr
theorem RelL.fl{K σ l0 l vs}(hn:se K σ)(h:xQ σ l0 l)(hr:RelL K l vs):RelL K l0 vs:=
 ⟨h.1.trans hr.1,λi h1 h2=>(hr.2 i (by rw[<-h.1];exact h1) h2).fl hn (h.2 i h1 (by rw[<-h.1];exact h1))⟩
theorem ObjSat.fl{K σ w e x y}(hn:se K σ)(h:ObjSat K w e y)(hf:Ih σ x y):ObjSat K w e x:=by
 cases x<;>cases y<;>simp only[LiftO] at hf
 ·cases e<;>simp only[ObjSat] at h|-
  obtain⟨h1,⟨c,el,h2,h3⟩,h4⟩:=h;exact⟨h1,⟨c,el,h2,h3.fl hn hf⟩,h4⟩
 ·obtain⟨rfl,rfl,hf⟩:=hf;cases e<;>simp only[ObjSat] at h|-
  obtain⟨h1,h2,h00,h01,h02,⟨c,el,h3,h4,h6⟩,h7⟩:=h;have hl:=hf.1;exact⟨h1,h2,by omega,h01,h02,⟨c,el,h3,h4,λi q1 q2=>⟨(h6 i (by omega) q2).1.fl hn (hf.2 i q1 (by omega)),(h6 i (by omega) q2).2⟩⟩,h7⟩
 ·obtain⟨rfl,rfl⟩:=hf;exact h
 ·obtain⟨rfl,rfl⟩:=hf;cases e<;>simp only[ObjSat] at h|-
  exact⟨h,trivial⟩
 ·obtain⟨hd,rfl⟩:=hf;cases e<;>simp only[ObjSat] at h|-
  obtain⟨h1,es,clock,h2,h3,h4,h5,h6,h7⟩:=h;exact⟨h1,es,clock,h2,h3,h4,h5,h6,λhd'=>h7 (hd hd')⟩
 ·subst hf;exact h
 ·obtain⟨rfl,rfl,rfl⟩:=hf;exact h
 ·subst hf;exact h
theorem view_fl{σ0 σ:aA}(h:nA [] σ0 σ):View (FL σ) σ0 σ:=λS K w _ hs=>
  ⟨K,Gh.leS.refl K,{hs with
    live:=λo x e=>by
      obtain⟨y,e1,hf⟩:=h o (by simp) x e;obtain⟨e2,h2,h3⟩:=hs.live o y e1;exact⟨e2,h2,h3.fl hs.nils hf⟩
    apart:=λo o' x x' e e' h1 h2 hne q1 q2=>by
      obtain⟨y,e1,_⟩:=h o (by simp) x h1;obtain⟨y',e1',_⟩:=h o' (by simp) x' h2;exact hs.apart o o' y y' e e' e1 e1' hne q1 q2},λ_ _ _ hf hr=>hr.fl hs.nils hf⟩
theorem View.comp{f g:AV->AV->Prop}{σ0 σ1 σ2:aA}(h1:View f σ0 σ1)(h2:View g σ1 σ2):View (λa c=>∃b,f a b/\g b c) σ0 σ2:=λS K w hS hs=>by
 obtain⟨K1,a1,a2,a3⟩:=h2 S K w hS hs;obtain⟨K2,b1,b2,b3⟩:=h1 S K1 w hS a2;exact⟨K2,a1.trans b1,b2,λa c v ⟨b,q1,q2⟩ hr=>b3 a b v q1 (a3 b c v q2 hr)⟩
theorem Vw.comp{env0 env1 env2 σ0 σ1 σ2}(h1:Vw env0 σ0 env1 σ1)(h2:Vw env1 σ1 env2 σ2):Vw env0 σ0 env2 σ2:=by
 obtain⟨f,h1,e1⟩:=h1;obtain⟨g,h2,e2⟩:=h2;refine⟨_,h1.comp h2,λi v0 hi=>?_⟩;obtain⟨v1,q1,q2⟩:=e1 i v0 hi;obtain⟨v2,q3,q4⟩:=e2 i v1 q1;exact⟨v2,q3,v1,q2,q4⟩
theorem Vr.comp{v0 v1 v2 σ0 σ1 σ2}(h1:Vr v0 σ0 v1 σ1)(h2:Vr v1 σ1 v2 σ2):Vr v0 σ0 v2 σ2:=by
 obtain⟨f,h1,e1⟩:=h1;obtain⟨g,h2,e2⟩:=h2;exact⟨_,h1.comp h2,v1,e1,e2⟩
def WkF(σ:aA):bg->bg->Prop
 |[],_=>True
 |(i,some v0)::e,env=>(∃v,lk env i=some v/\FL σ v0 v)/\WkF σ e env
 |(i,none)::e,env=>WkF σ e env
theorem WkF.get{σ:aA}:∀{e env:bg},WkF σ e env->∀i v0,lk e i=some v0->∃v,lk env i=some v/\FL σ v0 v
 |[],_,_,i,v0,hv=>by simp[lk] at hv
 |(j,u)::e,env,h,i,v0,hv=>by
  simp only[lk] at hv;by_cases hi:i=j
  ·subst hi;simp at hv;subst hv;exact h.1
  ·simp only[hi,if_false] at hv;cases u with
   |none=>exact WkF.get (e:=e) h i v0 hv
   |some u=>exact WkF.get (e:=e) h.2 i v0 hv
theorem Ii{env0 env:bg}{σ0 σ:aA}(h:WkF σ env0 env)(hs:nA [] σ0 σ):Vw env0 σ0 env σ:=⟨FL σ,view_fl hs,h.get⟩
theorem vr_of{v0 v:AV}{σ0 σ:aA}(h:FL σ v0 v)(hs:nA [] σ0 σ):Vr v0 σ0 v σ:=⟨FL σ,view_fl hs,h⟩
theorem Vw.refl(env:bg)(σ:aA):Vw env σ env σ:=⟨FL σ,view_fl λo _ x e=>⟨x,e, .refl _ x⟩,λi v e=>⟨v,e, .refl v⟩⟩
theorem Vr.refl(v:AV)(σ:aA):Vr v σ v σ:=⟨FL σ,view_fl λo _ x e=>⟨x,e, .refl _ x⟩, .refl v⟩
theorem FL.states{σ σ':aA}(h:∀o sz,σ o=some (.virt sz)->σ' o=some (.virt sz)){a b:AV}(hf:FL σ a b):FL σ' a b:=by
 induction hf with
 |refl a=>exact .refl a
 |base a b hb=>obtain⟨o,sz,h1,h2,h3⟩:=hb;exact .base _ _ ⟨o,sz,h1,h2,h o sz h3⟩
 |slice l0 l t0 t ht hl _ ih=>exact .slice l0 l t0 t ht hl ih
 |agg l0 l hl _ ih=>exact .agg l0 l hl ih
 |tup l0 l hl _ ih=>exact .tup l0 l hl ih
section
variable (ρ : aA)
theorem qV(ex:List Nat)(σ:aA):la ρ ex σ σ=True:=by
 simp only[eq_iff_iff,iff_true];exact λo _ x e=>⟨x,e, .refl _ x⟩
theorem BB(ex:List Nat)(σ0 σ:aA)(o:Nat)(x:AObj):la ρ ex (aH σ0 o x) σ=((o∈ex\/∃y,σ o=some y/\Ih ρ x y)/\la ρ (o::ex) σ0 σ):=by
 simp only[eq_iff_iff];constructor
 ·intro h;refine⟨?_,λo' hn x' e=>h o' (by simp_all) x' (by simp at hn;simp[aH,hn,e])⟩;by_cases ho:o∈ex
  ·exact .inl ho
  ·exact .inr (h o ho x (by simp[aH]))
 ·rintro⟨h1,h2⟩ o' hn x' e;by_cases ho:o'=o
  ·subst ho;simp[aH] at e;subst e
   exact h1.resolve_left hn
  ·exact h2 o' (by simp[ho,hn]) x' (by simpa [aH,ho] using e)
theorem IL(ex:List Nat)(σ0 σ:aA)(o:Nat)(x:AObj)(h:o∈ex):la ρ ex σ0 (aH σ o x)=la ρ ex σ0 σ:=by
 have key:∀o',o'∉ex->o'≠o:=λo' hn e=>hn (e▸h);simp only[eq_iff_iff];constructor
 ·intro hs o' hn x' e;obtain⟨y,e1,hf⟩:=hs o' hn x' e;exact⟨y,by simpa [aH,key o' hn] using e1,hf⟩
 ·intro hs o' hn x' e;obtain⟨y,e1,hf⟩:=hs o' hn x' e;exact⟨y,by simpa [aH,key o' hn] using e1,hf⟩
theorem BC(ex:List Nat)(σ0 σ:aA)(o:Nat)(x:AObj)(h:σ0 o=none):la ρ ex σ0 (aH σ o x)=la ρ ex σ0 σ:=by
 have key:∀o' x',σ0 o'=some x'->o'≠o:=λo' x' e e'=>by subst e';simp[h] at e
 simp only[eq_iff_iff];constructor
 ·intro hs o' hn x' e;obtain⟨y,e1,hf⟩:=hs o' hn x' e;exact⟨y,by simpa [aH,key o' x' e] using e1,hf⟩
 ·intro hs o' hn x' e;obtain⟨y,e1,hf⟩:=hs o' hn x' e;exact⟨y,by simpa [aH,key o' x' e] using e1,hf⟩
end
def vO:Option AObj->Bool
 |some (.virt _)=>true
 |_=>false
theorem BD(sz:Nat):vO (some (.virt sz))=true:=rfl
section
variable (σ : aA)
theorem E5(a:AV):FL σ a a=True:=by simp only[eq_iff_iff,iff_true];exact .refl a
theorem BE(a:List AV):xQ σ a a=True:=by simp only[eq_iff_iff,iff_true];exact .refl _ a
theorem LH(o:Nat)(h:vO (σ o)=true):FL σ (.slice [] (.own o)) (.slice [] .nil)=True:=by
 simp only[eq_iff_iff,iff_true];unfold vO at h;split at h
 ·rename_i sz hs;exact .base _ _ ⟨o,sz,rfl,rfl,hs⟩
 ·simp at h
theorem BF(l:List AV)(t:Tok):FL σ (.slice l .no) (.slice l t)=True:=by simp only[eq_iff_iff,iff_true];exact .slice l l _ t (.inl rfl) rfl λi _ _=> .refl _
theorem zh(l0 l:List AV)(t:Tok):FL σ (.slice l0 .no) (.slice l t)=xQ σ l0 l:=by
 simp only[eq_iff_iff];constructor
 ·intro h;cases h with
  |refl=>exact .refl _ _
  |base _ _ h=>obtain⟨o,sz,h1,_⟩:=h;simp at h1
  |slice _ _ _ _ _ hl h=>exact⟨hl,h⟩
 ·exact λh=> .slice _ _ _ _ (.inl rfl) h.1 h.2
theorem mh(l0 l:List AV)(t:Tok):FL σ (.slice l0 t) (.slice l t)=xQ σ l0 l:=by
 simp only[eq_iff_iff];constructor
 ·intro h;cases h with
  |refl=>exact .refl _ _
  |base _ _ h=>obtain⟨o,sz,h1,h2,_⟩:=h;simp at h1 h2;obtain⟨_,h1⟩:=h1;obtain⟨_,h2⟩:=h2;rw[h1] at h2;simp at h2
  |slice _ _ _ _ _ hl h=>exact⟨hl,h⟩
 ·exact λh=> .slice _ _ _ _ (.inr rfl) h.1 h.2
theorem IM(l0 l:List AV):FL σ (.agg l0) (.agg l)=xQ σ l0 l:=by
 simp only[eq_iff_iff];constructor
 ·intro h;cases h with
  |refl=>exact .refl _ _
  |base _ _ h=>obtain⟨o,sz,h1,_⟩:=h;simp at h1
  |agg _ _ hl h=>exact⟨hl,h⟩
 ·exact λh=> .agg _ _ h.1 h.2
theorem IN(l0 l:List AV):FL σ (.tup l0) (.tup l)=xQ σ l0 l:=by
 simp only[eq_iff_iff];constructor
 ·intro h;cases h with
  |refl=>exact .refl _ _
  |base _ _ h=>obtain⟨o,sz,h1,_⟩:=h;simp at h1
  |tup _ _ hl h=>exact⟨hl,h⟩
 ·exact λh=> .tup _ _ h.1 h.2
theorem BG(a b:AV)(l m:List AV):xQ σ (a::l) (b::m)=(FL σ a b/\xQ σ l m):=by
 simp only[eq_iff_iff];constructor
 ·intro h;obtain⟨b',r,e,h1,h2⟩:=h.cons_inv;simp at e
  obtain⟨rfl,rfl⟩:=e;exact⟨h1,h2⟩
 ·exact λh=> .cons h.1 h.2
theorem IP(k:IntKind)(a b:Int):FL σ (.int k a) (.int k b)=(a=b):=by
 simp only[eq_iff_iff];constructor
 ·intro h;cases h with
  |refl=>rfl
  |base _ _ h=>obtain⟨o,sz,h1,_⟩:=h;simp at h1
 ·rintro rfl;exact .refl _
theorem E6(a b:Bool):FL σ (.bool a) (.bool b)=(a=b):=by
 simp only[eq_iff_iff];constructor
 ·intro h;cases h with
  |refl=>rfl
  |base _ _ h=>obtain⟨o,sz,h1,_⟩:=h;simp at h1
 ·rintro rfl;exact .refl _
theorem zi(l0 l:List AV):Ih σ (.cells l0) (.cells l)=xQ σ l0 l:=rfl
theorem E7(s n:Nat)(l0 l:List AV):Ih σ (.vec s n l0) (.vec s n l)=xQ σ l0 l:=by simp[LiftO]
theorem BH(x:AObj):Ih σ x x=True:=by simp only[eq_iff_iff,iff_true];exact .refl _ x
theorem BI(s:Nat):Ih σ (.grow s 0) (.virt s)=True:=by simp[LiftO]
theorem E8(env:bg):WkF σ [] env=True:=rfl
theorem BJ(i v0)(e env:bg):WkF σ ((i,some v0)::e) env=((∃v,lk env i=some v/\FL σ v0 v)/\WkF σ e env):=rfl
end
theorem E9(v:AV)(p:AV->Prop):(∃u,some v=some u/\p u)=p v:=by simp
theorem BK(v:AObj)(p:AObj->Prop):(∃u,some v=some u/\p u)=p v:=by simp
end Abs
namespace Abs
open Go
theorem jq{w:World}{need old:Nat}{e:TypeId}(h:need<=9223372036854775807):grownCap w need old e<=9223372036854775807:=by
 have h2:0<2^63-need:=by omega
 have:=Nat.mod_lt (w.tape w.drawn (Question.appendCap need old e)) h2
 simp only[grownCap,Question.cut];omega
theorem VecOk.new{K:Gh}{o b cap sz n:Nat}(h:K.own o=some (.vec b cap sz n)):VecOk K o n b cap:=⟨b,cap,sz,n, .inl h,Nat.le_refl n,λ_=>⟨rfl,rfl⟩⟩
def RelC(K:Gh)(cs:List AV)(cells:Array Value):Prop:=cs.length<=cells.size/\∀i,(h:i<cs.length)->(h':i<cells.size)->Rel K cs[i] cells[i]/\cells[i].oneCell'=true
theorem RelC.mono{K K':Gh}(hK:K.le K'){cs:List AV}{cells:Array Value}(h:RelC K cs cells):RelC K' cs cells:=⟨h.1,λi h1 h2=>⟨(h.2 i h1 h2).1.mono hK,(h.2 i h1 h2).2⟩⟩
theorem nJ{K:Gh}{cs:List AV}{vs Z:List Value}(hr:RelL K cs vs)(h1:∀u∈vs,u.oneCell'=true):RelC K cs (vs++Z).toArray:=by
 have hl:=hr.1;refine⟨by simp;omega,λi h h'=>?_⟩;have hi:i<vs.length:=by omega
 have e:(vs++Z).toArray[i]=vs[i]:=by simp[List.getElem_append_left,hi]
 rw[e];exact⟨hr.2 i h hi,h1 _ (List.getElem_mem hi)⟩
theorem oS{K:Gh}{cs:List AV}{us vs:List Value}{Z:Array Value}(hr:RelL K cs (us++vs))(h1:∀u∈us++vs,u.oneCell'=true):RelC K cs (us.toArray++vs.toArray++Z):=by
 have e:(us++vs++Z.toList).toArray=us.toArray++vs.toArray++Z:=Array.ext' (by simp);rw[<-e];exact nJ hr h1
section
variable {σ : aA}
theorem Sat.vecNew{K:Gh}{w}(hs:Sat K σ w)(cells:Array Value)(el:TypeId){cs:List AV}{sz cap n:Nat}(hcap:cells.size=cap*sz)(hn:n<=cap/\(sz=1->cap<=9223372036854775807))(hlen:cs.length=n*sz)(hr:RelC K cs cells)
  {o:Nat}(ho:K.own o=none){S:Nat->Prop}(hS:¬S o):∃K',K.leS S K'/\Rel K' (.vec o n) (.slice (some ⟨w.heap.size,0,none⟩) n cap)/\Sat K' (aH σ o (.vec sz n cs)) (w.drew.alloc (.cells cells el)):=by
 have hs':Sat K σ w.drew:=hs.same rfl rfl rfl rfl;have hp:Pushed w.drew (w.drew.alloc (.cells cells el)) (.cells cells el):=⟨rfl,rfl,rfl,rfl⟩;have hle0:=(hs'.push hp rfl (λ_=>none) (λi v e=>by simp at e)).1
 obtain⟨h1,h2⟩:=hs'.pushName hp rfl (λ_=>none) (λi v e=>by simp at e) ho (.vec w.drew.heap.size cap sz n) rfl (.vec sz n cs)
  ⟨rfl,rfl,hlen,hn,by show K.base.heap.size<=_;exact hs'.size,⟨cells,el,hp.new,hcap,λi q1 q2=>⟨(hr.2 i q1 q2).1.mono hle0,(hr.2 i q1 q2).2⟩⟩,λi=>by simp[Gh.claimed]⟩
 refine⟨_,⟨h1,λo' hs' hn=>?_⟩, .vec o n _ cap (VecOk.new (sz:=sz) (by simp[Gh.named])) hn.1,h2⟩;have:o'≠o:=λe=>hS (e▸hs')
 simp[Gh.named,Gh.claimed,this,hn]
theorem Sat.vecOld{K:Gh}{w}(hs:Sat K σ w)(cells:Array Value)(el:TypeId){cs cs0:List AV}{sz cap n n0 b0 cap0:Nat}(hcap:cells.size=cap*sz)(hn:n<=cap/\(sz=1->cap<=9223372036854775807))(hlen:cs.length=n*sz)(hr:RelC K cs cells)
  {o:Nat}(ho:σ o=some (.vec sz n0 cs0))(hown:K.own o=some (.vec b0 cap0 sz n0))(hlt:n0<n)(S:Nat->Prop):
  ∃K',K.leS S K'/\Rel K' (.vec o n) (.slice (some ⟨w.heap.size,0,none⟩) n cap)/\Sat K' (aH σ o (.vec sz n cs)) (w.drew.alloc (.cells cells el)):=by
 have hs':Sat K σ w.drew:=hs.same rfl rfl rfl rfl;have hp:Pushed w.drew (w.drew.alloc (.cells cells el)) (.cells cells el):=⟨rfl,rfl,rfl,rfl⟩;obtain⟨hle0,h5⟩:=hs'.push hp rfl (λ_=>none) (λi v e=>by simp at e);let K1:=K.claimed w.drew.heap.size λ_=>none
 have e1:K1.own=K.own:=rfl;let K2:Gh:={K1 with own:=λi=>if i=o then some (.vec w.drew.heap.size cap sz n) else K1.own i}
 have hle2:K1.le K2:=Gh.le_renamed (e:= .vec b0 cap0 sz n0) (e':= .vec w.drew.heap.size cap sz n) rfl (λ_ _ _ e=>e) hown (by simp[K2]) ⟨rfl,by omega,λe=>by omega⟩ (λo' h=>by simp[K2,h])
 have hs2:Sat K2 (aH σ o (.vec sz n cs)) (w.drew.alloc (.cells cells el)):=by
  refine h5.move (e:= .vec b0 cap0 sz n0) (e':= .vec w.drew.heap.size cap sz n) hle2 rfl ho hown (λo' h=>by simp[K2,K1,h]) (by simp[K2])
   ⟨rfl,rfl,hlen,hn,by show K.base.heap.size<=_;exact hs'.size,⟨cells,el,hp.new,hcap,λi q1 q2=>⟨(hr.2 i q1 q2).1.mono (hle0.trans hle2),(hr.2 i q1 q2).2⟩⟩,λi=>by simp[K2,K1,Gh.claimed]⟩ (λo' y e'' r1 r2 hr _=>?_)
  obtain⟨e3,r3,r4⟩:=hs'.live o' y r1
  have:e3=e'':=by
   have r2':K.own o'=some e'':=r2;simp_all
  subst this;exact Nat.ne_of_lt (r4.blk_lt hr)
 refine⟨K2,⟨hle0.trans hle2,λo' _ hn=>?_⟩, .vec o n _ cap (VecOk.new (sz:=sz) (by simp[K2])) hn.1,hs2⟩;have:o'≠o:=λe=>by subst e;rw[hown] at hn;simp at hn
 simp only[K2,this,if_false];exact hn
end
section ops
variable {P : Program} {o : Oper} {N : Nat} {env : bg} {σ : aA} {nm : Nat} {R : AV -> Option (Nat × AObj) -> Prop}
theorem BL{t l c e i g n z al ac}(ho:o.op= .makeSlice t l c)(ht:P.underlying t=some (.slice e))(hi:P.info? e=some i)(hr:et P e=some (g,n))(hz:cx P e=some z)(hzn:z.length=n)(hn0:0<n)(hby0:0<i.bytes)
  (hl:aE l=some al)(hc:aE c=some ac)(h:aJ nm env σ R (.ext (.vmake n i.bytes z g al ac))):OpOk P o N env σ nm R:=by
 intro S K a w hf hs hnm hS;obtain⟨lv,h1,h2⟩:=aG h;obtain⟨cv,h3,h4⟩:=aG h2;obtain⟨ev,h5,h7⟩:=aG h4;have rl:=trOpnd_rel hl h1 hf;have rc:=trOpnd_rel hc h3 hf;split at h7
 case h_2=>exact h7.elim
 rename_i ln cn
 obtain⟨⟨h6,p4,p1,p2,p3⟩,p5⟩:=h7;have el:=aN rl;have ec:=aN rc;obtain⟨i',zv,hi',hzv,hzs⟩:=kY (K:=K) hz hzn;obtain rfl:i'=i:=by simp_all
 obtain⟨_,hszn,_⟩:=fO hr;have hisz:i'.size=n:=by simp[dl,hi] at hszn;exact hszn
 have hzr:RelL K z zv.cells.toList:=by
  unfold cx at hz;simp[hi,hzv] at hz
  exact ofFlats_rel hz
 obtain⟨N1,hN⟩:∃q:Nat,ln=(q:Int):=⟨ln.toNat,by omega⟩;obtain⟨C1,hC⟩:∃q:Nat,cn=(q:Int):=⟨cn.toNat,by omega⟩;subst hN;subst hC
 have hCb:C1*i'.bytes<=35184372088832:=by
  have:((C1*i'.bytes:Nat):Int)<=35184372088832:=by rw[Int.natCast_mul];exact p3
  omega
 have hC1:C1<=35184372088832:=by have:=Nat.mul_le_mul_left C1 hby0;simp at this;omega
 have hrun:=run_make (P:=P) w t e i' zv ht hi hzv .i64 .i64 (N1:Int) (C1:Int) p1 p2 (by rw[Int.mul_comm];omega) (by omega);simp only[Int.toNat_natCast] at hrun p5;have hmade:(madeCells zv.cells (C1*i'.size)).size=C1*n:=by rw[size_madeCells,hisz]
 have hNC:N1<=C1:=by omega
 have hfl:(List.replicate N1 z).flatten.length=N1*n:=by simp[hzn]
 have hle:=Nat.mul_le_mul_right n hNC
 obtain⟨K',k2,k3,k4⟩:=hs.vecNew (madeCells zv.cells (C1*i'.size)) e (cs:=(List.replicate N1 z).flatten) (sz:=n) (cap:=C1) (n:=N1) hmade ⟨hNC,λ_=>by omega⟩ hfl
  ⟨by omega,λi hi1 hi2=>by
   have hz0:0<z.length:=by omega
   have hm:=Nat.mod_lt i hz0;have e1:zv.cells.size=z.length:=by omega
   have e2:(madeCells zv.cells (C1*i'.size))[i]=zv.cells[i%z.length]:=by
    simp only[madeCells,Array.getElem_map,Array.getElem_range,e1];rw[getElem!_pos zv.cells (i%z.length) (by omega)]
   have e3:(List.replicate N1 z).flatten[i]=z[i%z.length]:=by
    have:=dE z hz0 N1 i (by rw[hzn,<-hfl];exact hi1)
    rw[List.getElem?_eq_getElem hi1,List.getElem?_eq_getElem hm] at this;exact Option.some.inj this
   rw[e2,e3];have q1:=hzr.2 (i%z.length) hm (by simp;omega);have q2:=hzr.ones p4 (i%z.length) (by simp;omega);exact⟨by simpa using q1,by simpa using q2⟩⟩ hnm hS
 refine⟨K',_,some (nm,_),_,_, .inl ?_,k2,k3,k4.same (w':=w.alloc (.cells (madeCells zv.cells (C1*i'.size)) e)) rfl rfl rfl rfl,p5⟩;simp only[execOp,ho,Sem.run_bind,el,ec,hrun,Result.andThen_ok,Sem.run_pure]
theorem vP{t len ps e sz axs}(ho:o.op= .buildSlice t len ps)(hu:P.underlying t=some (.slice e))(hsz:dl P e=some sz)(hlen:len=ps.size)(hmax:len*sz<=65536){z}(hz:cx P e=some z)
  (hps:gW 0 ps.toList=some axs)(h:aJ nm env σ R (.ext (.bsliceG sz axs))):OpOk P o N env σ nm R:=by
 intro S K a w hf hs hnm hS;obtain⟨l,h1,h0,h2⟩:=dW h;obtain⟨k1,k2⟩:=iR hps;have hr:=cM hf k1 h1;rw[List.map_map] at hr
 have hall:∀x∈l,(az x).length=sz:=λx hx=>by
  have:=List.all_eq_true.1 h0 x hx
  simp at this;exact this.1
 have hone:(flat l).all bY=true:=by
  rw[List.all_eq_true];intro y hy;rw[flat,List.mem_flatMap] at hy;obtain⟨x,hx,hy⟩:=hy;have:=List.all_eq_true.1 h0 x hx
  simp at this;exact this.2 y hy
 have hl:l.length=ps.size:=by simpa using hr.1
 obtain⟨zv,z1,z2,_⟩:=dN (K:=K) hz w
 have hcs:∀p∈ps.toList,(a.eval p.2).cells.size=sz:=λp hp=>by
  obtain⟨i,hi,rfl⟩:=List.getElem_of_mem hp;have hi':i<l.length:=by rw[hl];simpa using hi
  have:=(hr.2 i hi' (by simpa using hi)).cells.1
  simp at this
  have h3:=hall _ (List.getElem_mem hi');simp;omega
 have fin:∀zs:Array Value,∃cells',Instr.fill (λi=>some (i*sz,sz)) ((Array.range (len*sz)).map (zs[·%zs.size]!)) (ps.map fun(i,x)=>(i,a.eval x)).toList=some cells'/\cells'.toList=ps.toList.flatMap λp=>(a.eval p.2).cells.toList:=by
  intro zs;obtain⟨cells',e1,e2⟩:=oE a sz ps.toList 0 [] ((Array.range (len*sz)).map (zs[·%zs.size]!)) k2 hcs (by simp) (by simp) (by simp[hlen]);refine⟨cells',?_,by simpa using e2⟩;have e3:(ps.map fun(i,x)=>(i,a.eval x)).toList=ps.toList.map fun(i,x)=>(i,a.eval x):=by simp
  rw[e3];exact e1
 have hrun:∃cells':Array Value,(execOp a.eval o).run P w= .ok (.value (.slice (some ⟨w.heap.size,0,none⟩) len len)) {w with heap:=w.heap.push (.cells cells' e)}/\cells'.toList=ps.toList.flatMap λp=>(a.eval p.2).cells.toList:=by
  by_cases h0:len*sz=0
  ·obtain⟨cells',e1,e2⟩:=fin #[];refine⟨cells',?_,e2⟩;simp only[execOp,ho,Instr.buildSlice,Sem.run_bind,aB hu,Result.andThen_ok,aR hsz];rw[if_neg (by omega),if_pos h0];simp only[Sem.run_bind,Sem.run_pure,Result.andThen_ok];rw[e1];simp[Go.newRow]
  ·obtain⟨cells',e1,e2⟩:=fin zv.cells;refine⟨cells',?_,e2⟩;simp only[execOp,ho,Instr.buildSlice,Sem.run_bind,aB hu,Result.andThen_ok,aR hsz];rw[if_neg (by omega),if_neg h0];simp only[Sem.run_bind,Sem.run_pure,Result.andThen_ok,z1];rw[e1];simp[Go.newRow]
 obtain⟨cells',hrun,e2⟩:=hrun
 have hfr:RelL K (flat l) cells'.toList:=by
  have:=oG hr
  rw[e2];rw[List.flatMap_map] at this;exact this
 have hcl:(flat l).length=cells'.size:=by simpa using hfr.1
 have hfl:=aV hall
 obtain⟨K',q2,q3,q4⟩:=hs.grownNew cells' e (l:=l) (sz:=sz) (cap:=l.length) (by omega) (Nat.le_refl _) hall (λi i1 i2=>by
  have:=hfr.2 i i1 (by simpa using i2)
  simpa using this) (λi i1 i2=>by
  have:=hfr.ones hone i (by simpa using i2)
  simpa using this) hnm hS
 refine⟨K',_,some (nm,_),_,_, .inl hrun,q2,?_,q4.same (w':={w with heap:=w.heap.push (.cells cells' e)}) rfl rfl rfl rfl,h2⟩;rw[hlen,<-hl];exact q3
theorem jr{K:Gh}{g:Bool}{sz:Nat}:∀{n:Nat} {cs:List AV} {l:List AV},fk g sz n cs=some l->cs.length=n*sz->(g=false->sz=1)->(∀x∈cs,bY x=true)->l.length=n/\flat l=cs/\∀x∈l,(az x).length=sz
 |0,cs,l,h,hl,_,_=>by
  simp[fk] at h;subst h
  simp at hl;subst hl
  exact⟨rfl,rfl,by simp⟩
 |n+1,cs,l,h,hl,hg,h1=>by
  simp only[fk] at h;split at h<;>simp at h
  rename_i a l' ha hl'
  subst h;have hsz:(cs.take sz).length=sz:=by simp[hl,Nat.succ_mul]
  have hc:az a=cs.take sz:=by
   cases g with
   |true=>simp[eE] at ha;subst ha;rfl
   |false=>
    obtain rfl:=hg rfl
    cases cs with
    |nil=>simp[eE] at ha
    |cons x cs=>
     simp[eE] at ha
     subst ha;simp only[List.take_succ_cons,List.take_zero];exact mg (h1 x (by simp))
  obtain⟨q1,q2,q3⟩:=jr (K:=K) hl' (by simp[hl,Nat.succ_mul]) hg (λx hx=>h1 x (List.mem_of_mem_drop hx));refine⟨by simp[q1],?_,?_⟩
  ·rw[c7,q2,hc,List.take_append_drop]
  ·intro x hx;rcases List.mem_cons.1 hx with rfl|hx
   ·rw[hc];exact hsz
   ·exact q3 x hx
theorem xR{K:Gh}{a:AV}{v:Value}(h:Rel K a v)(h1:v.oneCell'=true):bY a=true:=by
 cases h<;>first|rfl|(simp[Value.oneCell'] at h1)
theorem Sat.freeze{K:Gh}{w}(hs:Sat K σ w){ob b cap sz n:Nat}{cs l:List AV}(hl:σ ob=some (.vec sz n cs))(hown:K.own ob=some (.vec b cap sz n))(hfl:flat l=cs)(hll:l.length=n)(hall:∀x∈l,(az x).length=sz)(S:Nat->Prop):
  ∃K',K.leS S K'/\Rel K' (.slice l (.own ob)) (.slice (some ⟨b,0,none⟩) n cap)/\Sat K' (aH σ ob (.grow sz n)) w:=by
 obtain⟨e0,h1,h2⟩:=hs.live ob _ hl;rw[hown] at h1;cases h1;simp only[ObjSat] at h2;obtain⟨_,_,h3,h4,h5,⟨c,el,h6,h7,h8⟩,h9⟩:=h2;have hle:=Nat.mul_le_mul_right sz h4.1;let cl:Nat->Option Value:=λi=>if i<n*sz then c[i]? else none
 let K2:Gh:={base:=K.base,ds:=K.ds,claim:=λb' i=>if b'=b then cl i else K.claim b' i,own:=λi=>if i=ob then some (.buf b cap sz n) else K.own i}
 have hle2:K.le K2:=Gh.le_renamed (o:=ob) (e:= .vec b cap sz n) (e':= .buf b cap sz n) rfl (λb' i v hv=>by
   show(if b'=b then cl i else K.claim b' i)=some v
   split
   ·rename_i hb;subst hb;rw[h9 i] at hv;simp at hv
   ·exact hv) hown (by simp[K2]) ⟨rfl,Nat.le_refl n,λ_=>⟨rfl,rfl⟩⟩ (λo' h=>by simp[K2,h])
 have hcell:∀i v,cl i=some v->w.cell? ⟨b,i,none⟩=some v/\v.oneCell'=true:=λi v hv=>by
  simp only[cl] at hv;split at hv
  ·rename_i hi
   have hic:i<c.size:=by omega
   refine⟨by simp[World.cell?,h6];exact hv,?_⟩;rw[Array.getElem?_eq_getElem hic] at hv;simp only[Option.some.injEq] at hv;rw[<-hv];exact(h8 i (by omega) hic).2
  ·simp at hv
 refine⟨K2,⟨hle2,λo' _ hn=>?_⟩,?_,?_⟩
 ·have:o'≠ob:=λe=>by subst e;rw[hown] at hn;simp at hn
  simp[K2,this,hn]
 ·rw[<-hll];refine iS (K':=K2) (cells:=c) (by omega) hall (λi hi=>?_) (λi i1 i2=>?_) (by rw[hfl];omega) (by simp[K2,hll])
  ·show(if b=b then cl i else K.claim b i)=_
   rw[if_pos rfl];have:i<n*sz:=by rw[hfl] at hi;omega
   simp[cl,this]
  ·have:=(h8 i (by rw[hfl] at i1;exact i1) i2).1.mono hle2
   simpa [hfl] using this
 ·refine hs.write (e:= .vec b cap sz n) (e':= .buf b cap sz n) hle2 hl hown rfl (λo' h=>by simp[K2,h]) (by simp[K2]) rfl rfl rfl rfl rfl (λ_ _=>rfl) (λi=>cy h6 rfl) (λi v hv=>?_) (λb' i hb'=>?_)
   ⟨rfl,rfl,h4.1,h5,⟨c,el,h6,h7⟩,λi hi=>?_⟩
  ·have hv':(if b=b then cl i else K.claim b i)=some v:=hv;rw[if_pos rfl] at hv';exact hcell i v hv'
  ·have hb2:¬b'=b:=hb';show(if b'=b then cl i else K.claim b' i)=_
   rw[if_neg hb2]
  ·show(if b=b then cl i else K.claim b i)=none
   rw[if_pos rfl];simp only[cl];rw[if_neg (by omega)]
theorem sf{K:Gh}{w:World}(hs:Sat K σ w){ob n sz:Nat}{cs:List AV}{v:Value}(hl:σ ob=some (.vec sz n cs))(hr:Rel K (.vec ob n) v):
  ∃b cap,v= .slice (some ⟨b,0,none⟩) n cap/\K.own ob=some (.vec b cap sz n)/\(n<=cap/\(sz=1->cap<=9223372036854775807))/\cs.length=n*sz/\K.base.heap.size<=b/\(∃c el,w.heap[b]?=some (.cells c el (0,0))/\c.size=cap*sz/\RelC K cs c)/\∀i,K.claim b i=none:=by
 obtain⟨b,cap,he,hv,hle⟩:=nH hr;obtain⟨e0,h1,h2⟩:=hs.live ob _ hl;cases e0<;>simp only[ObjSat] at h2
 obtain⟨rfl,rfl,h3,h4,h5,⟨c,el,h6,h7,h8⟩,h9⟩:=h2;obtain⟨b',cap',sz',n',hv|hv,v2,v3⟩:=hv
 ·rw[h1] at hv;simp only[Option.some.injEq,Own.vec.injEq] at hv;obtain⟨rfl,rfl,rfl,rfl⟩:=hv;obtain⟨rfl,rfl⟩:=v3 rfl;exact⟨_,_,he,h1,h4,h3,h5,⟨c,el,h6,h7,by rw[h3,h7];exact Nat.mul_le_mul_right _ h4.1,h8⟩,h9⟩
 ·rw[h1] at hv;simp at hv
theorem Rel.takeOwn{K:Gh}{l:List AV}{ob b n cap len:Nat}(h:Rel K (.slice l (.own ob)) (.slice (some ⟨b,0,none⟩) n cap))(hl:len<=n):Rel K (.slice (l.take len) (.own ob)) (.slice (some ⟨b,0,none⟩) len cap):=by
 cases h with
 |sl0 a cap t ht=>simp at ht
 |slice l t b off cap sz v hsz hc hr ht hcap=>
  have hll:(l.take len).length=len:=by rw[List.length_take];omega
  have hfl:(flat (l.take len)).length<=(flat l).length/\∀i,(h:i<(flat (l.take len)).length)->(h':i<(flat l).length)->(flat (l.take len))[i]=(flat l)[i]:=by
   have e:flat l=flat (l.take len)++flat (l.drop len):=by rw[<-fP,List.take_append_drop]
   refine⟨by rw[e];simp,λi h h'=>?_⟩;simp only[e];rw[List.getElem_append_left h]
  have:=Rel.slice (K:=K) (l.take len) (.own ob) b 0 cap sz v (λx hx=>hsz x (List.mem_of_mem_take hx)) (λi hi=>hc i (by omega)) (λi hi=>by rw[hfl.2 i hi (by omega)];exact hr i (by omega)) (by
   rcases ht with ⟨b',cap',n',h1,h2,h3⟩|⟨n',h1,h2,h3⟩
   ·exact .inl ⟨b',cap',n',h1,by omega,λe=>h3 (by omega)⟩
   ·exact .inr ⟨n',h1,by omega,λe=>by have:=h3 (by omega);omega⟩) (by omega)
  rw[hll] at this;exact this
theorem BM{K:Gh}{w:World}(hs:Sat K σ w){ob len n sz:Nat}{cs:List AV}{v:Value}(hl:σ ob=some (.vec sz n cs))(hr:Rel K (.pre ob len n) v):
  ∃b cap,v= .slice (some ⟨b,0,none⟩) len cap/\len<=n/\K.own ob=some (.vec b cap sz n)/\(n<=cap/\(sz=1->cap<=9223372036854775807))/\cs.length=n*sz/\K.base.heap.size<=b/\(∃c el,w.heap[b]?=some (.cells c el (0,0))/\c.size=cap*sz/\RelC K cs c)/\∀i,K.claim b i=none:=by
 obtain⟨b,cap,he,hv,hle,hnc⟩:=nI hr;obtain⟨b',cap',he',k⟩:=sf hs hl (.vec ob n b cap hv hnc);simp only[Value.slice.injEq,Option.some.injEq,Addr.mk.injEq,and_true,true_and] at he';obtain⟨rfl,rfl⟩:=he';exact⟨b,cap,he,hle,k⟩
theorem Fa{x ax g}(ho:o.op= .move x\/o.op= .assign x)(hx:aE x=some ax)(h:aJ nm env σ R (.ext (.vfrz g ax))):OpOk P o N env σ nm R:=by
  intro S K a w hf hs hnm hS;obtain⟨av,h1,h2⟩:=aG h;have rx:=trOpnd_rel hx h1 hf;cases av<;>simp only[] at h2<;>first|exact h2.elim|skip
  case pre ob len n=>
   split at h2
   · rename_i sz n' cs hl
     obtain⟨⟨rfl,hln,hg⟩,h3⟩:=h2;obtain⟨l,h4,h5⟩:=jp h3;obtain⟨b,cap,he,_,hown,hle,hlen,_,⟨c,el,hc1,hc2,hc3⟩,_⟩:=BM hs hl rx
     have hone:∀y∈cs,bY y=true:=λy hy=>by
       obtain⟨i,hi,rfl⟩:=List.getElem_of_mem hy;have:=(hc3.2 i hi (by have:=hc3.1;omega))
       exact xR this.1 this.2
     obtain⟨q1,q2,q3⟩:=jr (K:=K) h4 hlen hg hone;obtain⟨K',k1,k2,k3⟩:=hs.freeze hl hown q2 q1 q3 S;refine⟨K', .slice (l.take len) (.own ob),some (ob,_),a.eval x,w, .inl ?_,k1,?_,k3,h5⟩
     · rcases ho with ho|ho<;>simp[execOp,ho]
     · rw[he];exact Rel.takeOwn k2 hln
   · exact h2.elim
  rename_i ob len
  split at h2
  · rename_i sz n cs hl
    obtain⟨⟨rfl,hg⟩,h3⟩:=h2;obtain⟨l,h4,h5⟩:=jp h3;obtain⟨b,cap,he,hown,hle,hlen,_,⟨c,el,hc1,hc2,hc3⟩,_⟩:=sf hs hl rx
    have hone:∀y∈cs,bY y=true:=λy hy=>by
      obtain⟨i,hi,rfl⟩:=List.getElem_of_mem hy;have:=(hc3.2 i hi (by have:=hc3.1;omega))
      exact xR this.1 this.2
    obtain⟨q1,q2,q3⟩:=jr (K:=K) h4 hlen hg hone;obtain⟨K',k1,k2,k3⟩:=hs.freeze hl hown q2 q1 q3 S;refine⟨K', .slice l (.own ob),some (ob,_),a.eval x,w, .inl ?_,k1,by rw[he];exact k2,k3,h5⟩;rcases ho with ho|ho<;>simp[execOp,ho]
  · exact h2.elim
theorem BN{x ax sz}(ho:o.op= .move x\/o.op= .assign x)(hx:aE x=some ax)(h:aJ nm env σ R (.ext (.retok sz ax))):OpOk P o N env σ nm R:=by
 intro S K a w hf hs hnm hS;obtain⟨av,h1,h2⟩:=aG h;have rx:=trOpnd_rel hx h1 hf;have exe:(execOp a.eval o).run P w= .ok (.value (a.eval x)) w:=by rcases ho with ho|ho<;>simp[execOp,ho]
 have hσ:∀o',σ o'≠none->o'≠nm:=λo' h e=>h (by rw[e];exact hs.fresh hnm);split at h2
 ·rename_i l
  obtain⟨⟨h3,h4⟩,h5⟩:=h2;obtain⟨k1,k2⟩:=hs.name hnm (.full sz l.length) (.grow sz l.length) ⟨rfl,rfl⟩ (λo' x' e' _ _ _ h=>by simp[Own.real] at h);refine⟨_,_,some (nm,_),_,_, .inl exe,⟨k1,λo' hs' hn=>?_⟩,?_,k2,h5⟩
  ·have:o'≠nm:=λe=>hS (e▸hs')
   simp[Gh.named,this,hn]
  ·rcases rel_slice rx with ⟨a',cap',he,rfl,_⟩|⟨b,off,cap,sz',u,he,q1,q2,q3,q4,q5⟩
   ·simp at h4
   ·have hsz:sz'=sz:=by
     obtain⟨y,hy⟩:=List.exists_mem_of_length_pos h4;rw[<-q1 y hy,<-h3 y hy]
    subst hsz;rw[he];refine Rel.slice l _ b off cap sz' u q1 q2 (λi h=>(q3 i h).mono k1) ?_ q5;exact .inr ⟨l.length,by simp[Gh.named],Nat.le_refl _,λ_=>q4⟩
 ·obtain⟨k1,k2⟩:=hs.name hnm (.virt sz) (.grow sz 0) ⟨rfl,rfl⟩ (λo' x' e' _ _ _ h=>by simp[Own.real] at h);refine⟨_,_,some (nm,_),_,_, .inl exe,⟨k1,λo' hs' hn=>?_⟩,?_,k2,h2⟩
  ·have:o'≠nm:=λe=>hS (e▸hs')
   simp[Gh.named,this,hn]
  ·rcases rel_slice rx with ⟨a',cap',he,_,ht⟩|⟨b,off,cap,sz',u,he,q1,q2,q3,q4,q5⟩
   ·simp at ht
    obtain⟨rfl,rfl⟩:=ht;rw[he];exact .sl0 none 0 _ (.inr (.inr (.inr ⟨rfl,rfl,nm,rfl,sz, .inl (by simp[Gh.named])⟩)))
   ·exact q4.elim
 ·exact h2.elim
theorem Fb{t u s x e i z as_ ax}(ho:o.op= .call {callee:= .builtin .append,args:=#[s,x],argTypes:=#[t,u]})(ht:P.underlying t=some (.slice e))(htu:t=u)(hi:P.info? e=some i)
  (hz:cx P e=some z)(hby0:0<i.bytes)(hby:i.bytes<=4096)(hzl:z.length=i.size)(hs1:aE s=some as_)(hx1:aE x=some ax)(h:aJ nm env σ R (.ext (.vapp i.size i.bytes as_ ax))):OpOk P o N env σ nm R:=by
 subst htu;intro S K a w hf hs hnm hS;obtain⟨sv,h1,h2⟩:=aG h;obtain⟨xv,h3,h4⟩:=aG h2;have rs:=trOpnd_rel hs1 h1 hf;have rx:=trOpnd_rel hx1 h3 hf;obtain⟨i',zv,hi',hzv,hzs⟩:=kY (K:=K) hz hzl;obtain rfl:i'=i:=by simp_all
 have zsz:∀k,(Builtin.zeroCells zv.cells k).size=k*i'.size:=λk=>by rw[size_zeroCells,hzs]
 have exe:∀{v:Value} {w':World},(Builtin.append_ #[t,t] o.type #[a.eval s,a.eval x]).run P w= .ok v w'->(execOp a.eval o).run P w= .ok (.value v) w':=by
  intro v w' he;simp only[execOp,ho,resolve,invoke,Go.builtin,Sem.run_bind,Sem.run_pure,Result.andThen_ok];have e2:#[s,x].map a.eval=#[a.eval s,a.eval x]:=by simp
  simp only[e2,he,Result.andThen_ok]
 split at h4
 ·-- a row that may be written
  rename_i ob len m tk
  split at h4
  ·rename_i sz' n cs hl
   obtain⟨⟨rfl,rfl,hm,hb⟩,h5⟩:=h4;obtain⟨b0,cap,he,hown,hle,hlen,hbase,⟨c,el,hc1,hc2,hc3⟩,hcl⟩:=sf hs hl rs;obtain⟨xa,xc,hxe,hxs⟩:=jW hs rx hm;have hml:=aV hm;have hlsz:=Nat.mul_le_mul_right i'.size hle.1;by_cases hm0:m=[]
   ·subst hm0
    have e1:aH σ ob (.vec i'.size (len+([]:List AV).length) (cs++flat []))=σ:=by
     funext j;simp only[aH];split
     ·rename_i hj;rw[hj,hl];simp[tF]
     ·rfl
    refine⟨K, .vec ob (len+([]:List AV).length),some (ob, .vec i'.size (len+([]:List AV).length) (cs++flat [])),a.eval s,w, .inl (exe ?_),Gh.leS.refl K,rs,?_,h5⟩
    ·rw[hxe,he];exact gY t o.type ht hi _ len cap hle.1 xa xc w
    ·show Sat K (aH σ ob _) w
     rw[e1];exact hs
   have hmpos:0<m.length:=List.length_pos_iff.2 hm0;rcases hxs with hxs|⟨b,off,rfl,news,m1,m2,m3,m4⟩
   ·omega
   have hbm:(len+m.length)*i'.bytes<=140737488355328:=by omega
   have h63:((len+m.length:Nat):Int)<=9223372036854775807:=by
    have:=Nat.mul_le_mul_left (len+m.length) hby0;simp at this;omega
   have hcl0:=hc3.1;let olds:List Value:=c.toList.take (len*i'.size)
   have o1:olds.length=len*i'.size:=by simp[olds];omega
   have o2:RelL K cs olds:=⟨by omega,λi i1 i2=>by
    have:=(hc3.2 i i1 (by omega)).1
    simpa [olds] using this⟩
   have o3:∀v∈olds,v.oneCell'=true:=λv hv=>by
    obtain⟨i,hi,rfl⟩:=List.getElem_of_mem hv;have:=(hc3.2 i (by omega) (by omega)).2
    simpa [olds] using this
   have o4:∀j v,olds[j]?=some v->w.cell? ((⟨b0,0,none⟩:Addr).add j)=some v:=λj v hj=>by
    rw[ce,Nat.zero_add];simp only[olds,List.getElem?_take] at hj;split at hj
    ·simp only[World.cell?,hc1];simpa using hj
    ·simp at hj
   have rn:RelL K (cs++flat m) (olds++news):=o2.append m2
   have rone:∀u∈olds++news,u.oneCell'=true:=λu hu=>by
    rcases List.mem_append.1 hu with h|h
    ·exact o3 u h
    ·exact m3 u h
   have hlen2:(cs++flat m).length=(len+m.length)*i'.size:=by rw[List.length_append,hlen,hml,Nat.add_mul]
   by_cases hroom:len+m.length<=cap
   ·have hfit:len*i'.size+news.length<=c.size:=by
     rw[hc2,m1,<-Nat.add_mul];exact Nat.mul_le_mul_right _ hroom
    let cells':Array Value:=((olds++news)++c.toList.drop (len*i'.size+news.length)).toArray
    have hf:=run_firstCells_some (P:=P) w i'.size m.length ⟨b,off,none⟩ m.length xc news m1 m4;have hst:=run_storeCells_at P b0 (len*i'.size) el news 0 c w hc1 (by simpa using hfit) m3;simp only[Nat.add_zero] at hst
    have hst':(storeCells ⟨b0,len*i'.size,none⟩ news).run P w= .ok () (w.setRow b0 cells'):=by
     rw[hst]
    have hrun:(Builtin.append_ #[t,t] o.type #[.slice (some ⟨b0,0,none⟩) len cap, .slice (some ⟨b,off,none⟩) m.length xc]).run P w=
      .ok (.slice (some ⟨b0,0,none⟩) (len+m.length) cap) (w.setRow b0 cells'):=by
     simp[Builtin.append_,aB ht,Go.sizeOf,typeInfo,hi,Builtin.lenOf,hroom,hf,ce,hst']
    let K2:Gh:={K with own:=λi=>if i=ob then some (.vec b0 cap i'.size (len+m.length)) else K.own i}
    have hcs:cells'.size=c.size:=by simp[cells',o1];omega
    have hle2:K.le K2:=Gh.le_renamed (o:=ob) (e:= .vec b0 cap i'.size len) (e':= .vec b0 cap i'.size (len+m.length)) rfl (λ_ _ _ h=>h) hown (by simp[K2]) ⟨rfl,by simp,λ_=>⟨rfl,rfl⟩⟩ (λo' h=>by simp[K2,h]);have hheap:=setRow_heap w b0 c cells' el (0,0) hc1;have hrc:RelC K2 (cs++flat m) cells':=(nJ rn rone).mono hle2;refine⟨K2,_,some (ob,_),_,_, .inl (exe (by rw[he,hxe];exact hrun)),⟨hle2,λo' _ hn=>?_⟩, .vec ob _ b0 cap (VecOk.new (sz:=i'.size) (by simp[K2])) hroom,?_,h5⟩
    ·have:o'≠ob:=λe=>by subst e;rw[hown] at hn;simp at hn
     simp[K2,this,hn]
    ·refine hs.write (e:= .vec b0 cap i'.size len) (e':= .vec b0 cap i'.size (len+m.length)) hle2 hl hown rfl (λo' h=>by simp[K2,h]) (by simp[K2]) rfl rfl rfl rfl (by simp) (λb' hb'=>setRow_other w _ b' cells' hb')
      (λi=>cy hheap rfl) (λi v hv=>?_) (λb' i hb'=>rfl) ⟨rfl,rfl,hlen2,⟨hroom,hle.2⟩,hbase,⟨cells',el,hheap,by rw[hcs,hc2],hrc.2⟩,hcl⟩
     have hv':K.claim b0 i=some v:=hv;rw[hcl i] at hv';simp at hv'
   ·have hge:=cO w (len+m.length) cap e;have hrun:=run_append_grow (P:=P) w t o.type e i' zv ht hi hzv ⟨b0,0,none⟩ len cap olds o1 o4 ⟨b,off,none⟩ m.length xc news m1 m4 (by omega) h63 (growslice_fits (by omega) hbm)
    obtain⟨K',k2,k3,k4⟩:=hs.vecOld (olds.toArray++news.toArray++Builtin.zeroCells zv.cells (grownCap w (len+m.length) cap e-(len+m.length))) e (cs:=cs++flat m) (sz:=i'.size) (cap:=grownCap w (len+m.length) cap e) (n:=len+m.length)
     (by simp only[Array.size_append,zsz,List.size_toArray,m1,o1];simp[<-Nat.add_mul];congr 1;omega) ⟨hge,λ_=>jq (by omega)⟩ hlen2 (oS rn rone) hl hown (by omega) S
    refine⟨K',_,some (ob,_),_,_, .inl (exe (by rw[he,hxe];exact hrun)),k2,k3,k4,h5⟩
  ·exact h4.elim
 ·-- a shorter handle of a row
  rename_i ob len n m tk
  split at h4
  ·rename_i sz' n' cs hl
   obtain⟨⟨rfl,rfl,hln,hm,hb⟩,h5⟩:=h4;obtain⟨b0,cap,he,_,hown,hle,hlen,hbase,⟨c,el,hc1,hc2,hc3⟩,hcl⟩:=BM hs hl rs;obtain⟨xa,xc,hxe,hxs⟩:=jW hs rx hm;have hml:=aV hm;have hlsz:=Nat.mul_le_mul_right i'.size hle.1;have hllz:=Nat.mul_le_mul_right i'.size hln;have hcl0:=hc3.1;by_cases hm0:m=[]
   ·subst hm0;rw[if_pos (by simpa using hln)] at h5
    have e1:aH σ ob (.vec i'.size n (putAt cs (len*i'.size) (flat [])))=σ:=by
     funext j;simp only[aH];split
     ·rename_i hj;rw[hj,hl];simp[tF,putAt]
     ·rfl
    refine⟨K, .pre ob (len+([]:List AV).length) n,some (ob, .vec i'.size n (putAt cs (len*i'.size) (flat []))),a.eval s,w, .inl (exe ?_),Gh.leS.refl K,rs,?_,h5⟩
    ·rw[hxe,he];exact gY t o.type ht hi _ len cap (by omega) xa xc w
    ·show Sat K (aH σ ob _) w
     rw[e1];exact hs
   have hmpos:0<m.length:=List.length_pos_iff.2 hm0;rcases hxs with hxs|⟨b,off,rfl,news,m1,m2,m3,m4⟩
   ·omega
   have hmono:(len+m.length)*i'.bytes<=(n+m.length)*i'.bytes:=Nat.mul_le_mul_right _ (by omega);have hbm:(len+m.length)*i'.bytes<=140737488355328:=by omega
   have h63:((len+m.length:Nat):Int)<=9223372036854775807:=by
    have:=Nat.mul_le_mul_left (len+m.length) hby0;simp at this;omega
   let olds:List Value:=c.toList.take (len*i'.size)
   have o1:olds.length=len*i'.size:=by simp[olds];omega
   have o2:RelL K (cs.take (len*i'.size)) olds:=⟨by rw[List.length_take];omega,λi i1 i2=>by
    rw[List.length_take] at i1;have:=(hc3.2 i (by omega) (by omega)).1
    simpa [olds] using this⟩
   have o3:∀v∈olds,v.oneCell'=true:=λv hv=>by
    obtain⟨i,hi,rfl⟩:=List.getElem_of_mem hv;have:=(hc3.2 i (by omega) (by omega)).2
    simpa [olds] using this
   have o4:∀j v,olds[j]?=some v->w.cell? ((⟨b0,0,none⟩:Addr).add j)=some v:=λj v hj=>by
    rw[ce,Nat.zero_add];simp only[olds,List.getElem?_take] at hj;split at hj
    ·simp only[World.cell?,hc1];simpa using hj
    ·simp at hj
   have rn:RelL K (cs.take (len*i'.size)++flat m) (olds++news):=o2.append m2
   have rone:∀u∈olds++news,u.oneCell'=true:=λu hu=>by
    rcases List.mem_append.1 hu with h|h
    ·exact o3 u h
    ·exact m3 u h
   have hlen2:(cs.take (len*i'.size)++flat m).length=(len+m.length)*i'.size:=by rw[List.length_append,List.length_take,hml,Nat.add_mul];omega
   by_cases hroom:len+m.length<=cap
   ·have hfit:len*i'.size+news.length<=c.size:=by
     rw[hc2,m1,<-Nat.add_mul];exact Nat.mul_le_mul_right _ hroom
    let cells':Array Value:=((olds++news)++c.toList.drop (len*i'.size+news.length)).toArray
    have hf:=run_firstCells_some (P:=P) w i'.size m.length ⟨b,off,none⟩ m.length xc news m1 m4;have hst:=run_storeCells_at P b0 (len*i'.size) el news 0 c w hc1 (by simpa using hfit) m3;simp only[Nat.add_zero] at hst
    have hst':(storeCells ⟨b0,len*i'.size,none⟩ news).run P w= .ok () (w.setRow b0 cells'):=by
     rw[hst]
    have hrun:(Builtin.append_ #[t,t] o.type #[.slice (some ⟨b0,0,none⟩) len cap, .slice (some ⟨b,off,none⟩) m.length xc]).run P w=
      .ok (.slice (some ⟨b0,0,none⟩) (len+m.length) cap) (w.setRow b0 cells'):=by
     simp[Builtin.append_,aB ht,Go.sizeOf,typeInfo,hi,Builtin.lenOf,hroom,hf,ce,hst']
    have hcs:cells'.size=c.size:=by simp[cells',o1];omega
    have hheap:=setRow_heap w b0 c cells' el (0,0) hc1;by_cases hin:len+m.length<=n
    ·rw[if_pos hin] at h5;have hmn:len*i'.size+news.length<=n*i'.size:=by rw[m1,<-Nat.add_mul];exact Nat.mul_le_mul_right _ hin
     have oN:RelL K cs (c.toList.take (n*i'.size)):=⟨by rw[List.length_take];simp;omega,λi i1 i2=>by
      have:=(hc3.2 i i1 (by omega)).1
      simpa using this⟩
     have rp:=oN.putAt m2 (len*i'.size)
     have hN1:∀v∈(c.toList.take (n*i'.size)).take (len*i'.size)++news++(c.toList.take (n*i'.size)).drop (len*i'.size+news.length),v.oneCell'=true:=λv hv=>by
      have hcv:∀u∈c.toList.take (n*i'.size),u.oneCell'=true:=λu hu=>by
       obtain⟨i,hi,rfl⟩:=List.getElem_of_mem hu;rw[List.length_take] at hi;have:=(hc3.2 i (by omega) (by simp at hi;omega)).2
       simpa using this
      rcases List.mem_append.1 hv with h|h
      ·rcases List.mem_append.1 h with h|h
       ·exact hcv v (List.mem_of_mem_take h)
       ·exact m3 v h
      ·exact hcv v (List.mem_of_mem_drop h)
     have hcells:cells'=((c.toList.take (n*i'.size)).take (len*i'.size)++news++(c.toList.take (n*i'.size)).drop (len*i'.size+news.length)++c.toList.drop (n*i'.size)).toArray:=by
      have e1:(c.toList.take (n*i'.size)).take (len*i'.size)=olds:=by rw[List.take_take,Nat.min_eq_left hllz]
      have e2:(c.toList.take (n*i'.size)).drop (len*i'.size+news.length)++c.toList.drop (n*i'.size)=c.toList.drop (len*i'.size+news.length):=by
       rw[<-List.drop_append_of_le_length (by rw[List.length_take];simp;omega),List.take_append_drop]
      simp only[cells',e1,List.append_assoc,e2]
     have hrc:RelC K (putAt cs (len*i'.size) (flat m)) cells':=by rw[hcells];exact nJ rp hN1
     have hplen:(putAt cs (len*i'.size) (flat m)).length=n*i'.size:=by
      simp only[putAt,List.length_append,List.length_take,List.length_drop,hml];rw[m1] at hmn;omega
     refine⟨K,_,some (ob,_),_,_, .inl (exe (by rw[he,hxe];exact hrun)),Gh.leS.refl K, .pre ob (len+m.length) n b0 cap ⟨b0,cap,i'.size,n, .inl hown,Nat.le_refl n,λ_=>⟨rfl,rfl⟩⟩ hin hle.1,?_,h5⟩
     refine hs.write (e:= .vec b0 cap i'.size n) (e':= .vec b0 cap i'.size n) (Gh.le.refl K) hl hown rfl (λo' h=>rfl) hown rfl rfl rfl rfl (by simp) (λb' hb'=>setRow_other w _ b' cells' hb')
      (λi=>cy hheap rfl) (λi v hv=>?_) (λb' i hb'=>rfl) ⟨rfl,rfl,hplen,hle,hbase,⟨cells',el,hheap,by rw[hcs,hc2],hrc.2⟩,hcl⟩
     have hv':K.claim b0 i=some v:=hv;rw[hcl i] at hv';simp at hv'
    ·rw[if_neg hin] at h5;let K2:Gh:={K with own:=λi=>if i=ob then some (.vec b0 cap i'.size (len+m.length)) else K.own i}
     have hle2:K.le K2:=Gh.le_renamed (o:=ob) (e:= .vec b0 cap i'.size n) (e':= .vec b0 cap i'.size (len+m.length)) rfl (λ_ _ _ h=>h) hown (by simp[K2]) ⟨rfl,by omega,λ_=>⟨rfl,rfl⟩⟩ (λo' h=>by simp[K2,h]);have hrc:RelC K2 (cs.take (len*i'.size)++flat m) cells':=(nJ rn rone).mono hle2;refine⟨K2,_,some (ob,_),_,_, .inl (exe (by rw[he,hxe];exact hrun)),⟨hle2,λo' _ hn=>?_⟩, .vec ob _ b0 cap (VecOk.new (sz:=i'.size) (by simp[K2])) hroom,?_,h5⟩
     ·have:o'≠ob:=λe=>by subst e;rw[hown] at hn;simp at hn
      simp[K2,this,hn]
     ·refine hs.write (e:= .vec b0 cap i'.size n) (e':= .vec b0 cap i'.size (len+m.length)) hle2 hl hown rfl (λo' h=>by simp[K2,h]) (by simp[K2]) rfl rfl rfl rfl (by simp) (λb' hb'=>setRow_other w _ b' cells' hb')
       (λi=>cy hheap rfl) (λi v hv=>?_) (λb' i hb'=>rfl) ⟨rfl,rfl,hlen2,⟨hroom,hle.2⟩,hbase,⟨cells',el,hheap,by rw[hcs,hc2],hrc.2⟩,hcl⟩
      have hv':K.claim b0 i=some v:=hv;rw[hcl i] at hv';simp at hv'
   ·have hin:¬len+m.length<=n:=by omega
    rw[if_neg hin] at h5;have hge:=cO w (len+m.length) cap e;have hrun:=run_append_grow (P:=P) w t o.type e i' zv ht hi hzv ⟨b0,0,none⟩ len cap olds o1 o4 ⟨b,off,none⟩ m.length xc news m1 m4 (by omega) h63 (growslice_fits (by omega) hbm)
    obtain⟨K',k2,k3,k4⟩:=hs.vecOld (olds.toArray++news.toArray++Builtin.zeroCells zv.cells (grownCap w (len+m.length) cap e-(len+m.length))) e (cs:=cs.take (len*i'.size)++flat m) (sz:=i'.size) (cap:=grownCap w (len+m.length) cap e) (n:=len+m.length)
     (by simp only[Array.size_append,zsz,List.size_toArray,m1,o1];simp[<-Nat.add_mul];congr 1;omega) ⟨hge,λ_=>jq (by omega)⟩ hlen2 (oS rn rone) hl hown (by omega) S
    refine⟨K',_,some (ob,_),_,_, .inl (exe (by rw[he,hxe];exact hrun)),k2,k3,k4,h5⟩
  ·exact h4.elim
 ·-- a slice that has no room
  rename_i l tk m tk2
  obtain⟨⟨hl0,hm,hb⟩,h5⟩:=h4;obtain⟨xa,xc,hxe,hxs⟩:=jW hs rx hm;have hml:=aV hm;have hll:=aV hl0
  have scap:∃a0 cap,a.eval s= .slice a0 l.length cap/\l.length<=cap:=by
   rcases rel_slice rs with ⟨a',cap',he,rfl,_⟩|⟨b,off,cap',sz',u,he,_,_,_,_,q5⟩
   ·exact⟨a',cap',he,Nat.zero_le _⟩
   ·exact⟨_,cap',he,q5⟩
  obtain⟨a0,cap0,hse,hcap0⟩:=scap
  have zero:m=[]->(execOp a.eval o).run P w= .ok (.value (a.eval s)) w:=by
   intro hm0;refine exe ?_;rw[hxe,hm0,hse];exact gY t o.type ht hi a0 l.length cap0 hcap0 xa xc w
  have main:(tk= .nil\/tk= .full)->m≠[]->∃K' v w',(execOp a.eval o).run P w= .ok (.value v) w'/\K.leS S K'/\Rel K' (.vec nm (l.length+m.length)) v/\Sat K' (aH σ nm (.vec i'.size (l.length+m.length) (flat l++flat m))) w':=by
   intro htk hm0;have hmpos:0<m.length:=List.length_pos_iff.2 hm0;rcases hxs with hxs|⟨b,off,rfl,news,m1,m2,m3,m4⟩
   ·omega
   have hbm:(l.length+m.length)*i'.bytes<=140737488355328:=by omega
   have h63:((l.length+m.length:Nat):Int)<=9223372036854775807:=by
    have:=Nat.mul_le_mul_left (l.length+m.length) hby0;simp at this;omega
   obtain⟨os,olds,o1,o2,o3,o4⟩:∃os:Option Addr,∃olds:List Value,a.eval s= .slice os l.length l.length/\RelL K (flat l) olds/\(∀u∈olds,u.oneCell'=true)/\
     (os=none->l=[])/\∀ba,os=some ba->∀j u,olds[j]?=some u->w.cell? (ba.add j)=some u:=by
    rcases rel_slice rs with ⟨a',cap',he,rfl,ht'⟩|⟨b',off',cap',sz',u,he,q1,q2,q3,ht',q5⟩
    ·rcases htk with rfl|rfl
     ·simp at ht';obtain⟨rfl,rfl⟩:=ht'
      exact⟨none,[],he, .nil,by simp,λ_=>rfl,λba _ j u hj=>by simp at hj⟩
     ·simp at ht';subst ht'
      exact⟨a',[],he, .nil,by simp,λ_=>rfl,λba _ j u hj=>by simp at hj⟩
    ·rcases htk with rfl|rfl
     ·exact ht'.elim
     have:cap'=l.length:=ht'
     subst this;refine⟨_,(List.range (flat l).length).map u,he,⟨by simp,λi h1 h2=>by simpa using q3 i h1⟩,λv hv=>?_,λh=>by simp at h,λba hba j v hj=>?_⟩
     ·simp only[List.mem_map,List.mem_range] at hv;obtain⟨i,hi,rfl⟩:=hv;exact hs.one _ _ _ (q2 i hi)
     ·simp at hba;subst hba
      have hj':j<(flat l).length:=by
       rcases Nat.lt_or_ge j (flat l).length with h'|h'
       ·exact h'
       ·rw[List.getElem?_eq_none (by simpa using h')] at hj;simp at hj
      rw[List.getElem?_eq_getElem (by simpa using hj')] at hj;simp at hj;subst hj
      rw[ce];exact hs.claim _ _ _ (q2 j hj')
   have hge:=cO w (l.length+m.length) l.length e;have rn:RelL K (flat l++flat m) (olds++news):=o2.append m2
   have rone:∀u∈olds++news,u.oneCell'=true:=λu hu=>by
    rcases List.mem_append.1 hu with h|h
    ·exact o3 u h
    ·exact m3 u h
   have ho2:olds.length=l.length*i'.size:=by rw[<-o2.1,hll]
   obtain⟨K',k2,k3,k4⟩:=hs.vecNew (olds.toArray++news.toArray++Builtin.zeroCells zv.cells (grownCap w (l.length+m.length) l.length e-(l.length+m.length))) e (cs:=flat l++flat m) (sz:=i'.size) (cap:=grownCap w (l.length+m.length) l.length e) (n:=l.length+m.length)
    (by simp only[Array.size_append,zsz,List.size_toArray,m1,ho2];simp[<-Nat.add_mul];congr 1;omega) ⟨hge,λ_=>jq (by omega)⟩ (by rw[List.length_append,hll,hml,Nat.add_mul]) (oS rn rone) hnm hS
   refine⟨K',_,_,exe ?_,k2,k3,k4⟩;rw[o1,hxe];cases os with
   |none=>
    have:l=[]:=o4.1 rfl
    subst this;have:olds=[]:=by have:=o2.1;simp[flat] at this;exact List.eq_nil_of_length_eq_zero this.symm
    subst this;have hrun:=run_append_nil (P:=P) w t o.type e i' zv ht hi hzv ⟨b,off,none⟩ m.length xc news m1 m4 hmpos (by simpa using h63) (by simp at hbm;omega);simpa using hrun
   |some ba=>
    have hrun:=run_append_grow (P:=P) w t o.type e i' zv ht hi hzv ba l.length l.length olds ho2 (o4.2 ba rfl) ⟨b,off,none⟩ m.length xc news m1 m4 (by omega) h63 (growslice_fits (by omega) hbm);simpa using hrun
  cases tk with
  |no=>exact h5.elim
  |own t=>exact h5.elim
  |nil=>
   by_cases hm0:m=[]
   ·exact⟨K,_,none,_,_, .inl (zero hm0),Gh.leS.refl K,rs,hs,h5.1 hm0⟩
   ·obtain⟨K',v,w',q1,q2,q3,q4⟩:=main (.inl rfl) hm0;exact⟨K',_,some (nm,_),v,w', .inl q1,q2,q3,q4,h5.2 hm0⟩
  |full=>
   by_cases hm0:m=[]
   ·exact⟨K,_,none,_,_, .inl (zero hm0),Gh.leS.refl K,rs,hs,h5.1 hm0⟩
   ·obtain⟨K',v,w',q1,q2,q3,q4⟩:=main (.inr rfl) hm0;exact⟨K',_,some (nm,_),v,w', .inl q1,q2,q3,q4,h5.2 hm0⟩
 ·exact h4.elim
theorem tO{t f:Nat}:∀{l:List (Nat×Nat)},r7 t l=some f->(t,f)∈l
 |[],h=>by simp[r7] at h
 |(a,k)::r,h=>by
  simp only[r7] at h;split at h
  ·rename_i e;subst e
   simp at h;subst h;simp
  ·exact List.mem_cons_of_mem _ (tO h)
theorem tP{P:Program}{name:String}{t f:Nat}(h:(t,f)∈kV P name):∃i m,P.info? t=some i/\i.methods.find? (·.name==name)=some m/\m.path.isEmpty=true/\m.func=some (f,false)/\vE P t=true:=by
 unfold kV at h;simp only[List.mem_filterMap,List.mem_range] at h;obtain⟨v,_,h⟩:=h;split at h
 ·rename_i i hi
  split at h
  ·rename_i m hm
   split at h
   ·rename_i hp
    split at h
    ·rename_i g hg
     split at h
     ·rename_i hr
      simp at h;obtain⟨rfl,rfl⟩:=h
      exact⟨i,m,hi,hm,hp,hg,hr⟩
     ·simp at h
    ·simp at h
   ·simp at h
  ·simp at h
 ·simp at h
theorem BO{P:Program}{name:String}{t f:Nat}(h:(t,f)∈kV P name)(k:Nat)(v:Value)(w:World):(Go.method (k+1) t v name).run P w= .ok (f,v) w:=by
 obtain⟨i,m,h1,h2,h3,h4,h5⟩:=tP h;have h3':m.path=#[]:=by simpa using h3
 have hr:∀nm:Option String,(receiverAt t (.val v) false nm).run P w= .ok v w:=λnm=>by
  unfold vE at h5;split at h5<;>first|(simp at h5;done)|skip
  all_goals
   rename_i hu
   simp[receiverAt,aB hu,Place.get]
 simp[Go.method,typeInfo,h1,h2,h3',h4,follow,hr]
end ops
end Abs
namespace Abs
open Go
def putA(d:Option Nat)(v:AV)(env:bg):bg:=
 match d with
 |some d=>(d,some v)::env
 |none=>env
def skipA(d:Option Nat)(env:bg):bg:=
 match d with
 |some d=>(d,some (.tup []))::env
 |none=>env
def EndRel(K:Gh):Ending->ARes->Prop
 | .returned v, .ret a=>Rel K a v
 | .panicked ch, .panic a=>∃v,ch=[{v,recovered:=false}]/\Rel K a v
 |_,_=>False
def ct(P:Program)(f:FuncId):Bool:=
 match P.funcs[f]? with
 |some fn=>fn.body.isSome&& !(fn.name=="runtime.NumGoroutine")
 |none=>false
def ACalls(P:Program)(f:FuncId)(args:List AV)(σ:aA)(R:ARes->aA->Prop)(_:Tg R:= .mk):Prop:=
 ct P f=true/\∀(S:Nat->Prop) K w (vals:Array Value),Bnd S->RelL K args vals.toList->Sat K σ w->Calls P f vals w λe w'=>∃K' r σ',K.leS S K'/\Sat K' σ' w'/\EndRel K' e r/\R r σ'
theorem ACalls.mono{P f args σ R R'}(h:ACalls P f args σ R)(hR:∀r σ',R r σ'->R' r σ'):ACalls P f args σ R':=
 ⟨h.1,λS K w vals h0 h1 h2=>(h.2 S K w vals h0 h1 h2).mono λ_ _ ⟨K',r,σ',a,b,c,d⟩=>⟨K',r,σ',a,b,c,hR _ _ d⟩⟩
def zj(k:AV->aA->Prop)(p:AV->aA->Prop):ARes->aA->Prop
 | .ret v,σ=>k v σ
 | .panic v,σ=>p v σ
def si(P:Program)(Q:AExit->bg->aA->Prop)(k:AV->aA->Prop)(env:bg)(σ:aA):AOp->Prop
 | .call f args=>bh (aval env f) λfv=>gj (cK env args) λvs=>match fv with
  | .fn f first caps=>ACalls P f (first++vs++caps) σ (zj k (λv σ'=>Q (.panic v) env σ'))
  |_=>False
 | .panic x=>bh (aval env x) λv=>match v with
  | .iface t a=>Q (.panic (.iface t a)) env σ
  |_=>False
 |op=>EK env σ k op
def gd(p b:Bool)(run skip:Prop)(_:Tg run:= .mk)(_:Tg skip:= .mk):Prop:=(p=b->run)/\(p≠b->skip)
def xS(env:bg)(run skip:Prop):Option (Nat×Bool)->Prop
 |none=>run
 |some (s,b)=>bh (lk env s) λv=>match v with
  | .bool p=>gd p b run skip
  | .tup _=>skip
  |_=>False
def br(p:Bool)(a b:Prop)(_:Tg a:= .mk)(_:Tg b:= .mk):Prop:=(p=true->a)/\(p=false->b)
def oU(I:Nat->bg->aA->Prop)(n:Nat)(env:bg)(σ:aA):Prop:=∃m env0 σ0,m<n/\I m env0 σ0/\Vw env0 σ0 env σ
def LI(I:bg->aA->Prop)(env:bg)(σ:aA):Prop:=∃env0 σ0,I env0 σ0/\Vw env0 σ0 env σ
def js(k:bg->aA->Prop)(Q:AExit->bg->aA->Prop):AExit->bg->aA->Prop
 | .normal,env,σ=>k env σ
 |e,env,σ=>Q e env σ
def BP(body:(AExit->bg->aA->Prop)->bg->aA->Prop)(Q:AExit->bg->aA->Prop)(env:bg)(σ:aA)(_:Tg body:= .mk)(_:Tg Q:= .mk):Prop:=
 ∃I:Nat->bg->aA->Prop,(∃n env0 σ0,I n env0 σ0/\Vw env0 σ0 env σ)/\
  ∀n env σ,I n env σ->body (js (oU I n) Q) env σ
def dX(P:Program)(Q:AExit->bg->aA->Prop):List AInst->bg->aA->Prop
 |[],env,σ=>Q .normal env σ
 |⟨d,op,g⟩::is,env,σ=>xS env (si P Q (λv σ'=>dX P Q is (putA d v env) σ') env σ op) (dX P Q is (skipA d env) σ) g
def MF(env' env:bg):Prop:=∀i v,lk env' i=some v->lk env i=some v
theorem Fr.weak{K N env env' a}(h:Fr K N env a)(hw:MF env' env):Fr K N env' a:=⟨h.size,h.defers,λi v e=>h.rel i v (hw i v e)⟩
def gA(id:Nat)(Q:AExit->bg->aA->Prop):AExit->bg->aA->Prop
 | .exit j,env,σ=>if j=id then Q .normal env σ else Q (.exit j) env σ
 |e,env,σ=>Q e env σ
def fm(σ:aA):List (Nat×AObj)->aA
 |[]=>σ
 |(o,x)::r=>fm (aH σ o x) r
inductive TI where
 |mem(o:Nat)(rd:Option (Nat×Nat×List AV))
 |call(us:List (Nat×AObj))
def ky(env:bg)(σ:aA):AOp->Option TI
 | .load _ n x=>match aval env x with
  |some (.ptr o off)=>match σ o with
   |some (.cells cs)=>some (.mem o (some (off,n,(cs.drop off).take n)))
   |_=>some (.mem o none)
  |some (.eptr o _ _)=>some (.mem o none)
  |_=>none
 | .ext (.look _ _ _ x _)=>match aval env x with
  |some (.map o)=>some (.mem o none)
  |_=>none
 |_=>none
def zk(n:Nat)(env:bg)(σ:aA)(op:AOp)(tl:List (Nat×TI)):Option (Nat×AObj)->List (Nat×TI)
 |some (o,_)=>(n, .mem o none)::tl
 |none=>match ky env σ op with
  |some t=>(n,t)::tl
  |none=>tl
def cm(i:Nat):List (Nat×TI)->Option TI
 |[]=>none
 |(j,o)::r=>if i=j then some o else cm i r
def iT(o:Nat)(rd:Option (Nat×Nat×List AV)):List (Nat×AObj)->Prop
 |[]=>True
 |(a,x)::r=>(a≠o\/match rd,x with
  |some (off,n,vs), .cells cs=>off+n<=cs.length/\(cs.drop off).take n=vs
  |_,_=>False)/\iT o rd r
def oV(o:Nat):List (Nat×AObj)->Prop
 |[]=>True
 |(a,_)::r=>a≠o/\oV o r
def kz:TI->TI->Prop
 | .mem a _, .mem b _=>a≠b
 | .mem a rd, .call us=>iT a rd us
 | .call us, .mem b _=>oV b us
 | .call us, .call vs=>us=[]/\vs=[]
def iU(tl:List (Nat×TI)):List (Nat×Nat)->Prop
 |[]=>True
 |(i,j)::r=>(match cm i tl,cm j tl with
  |some a,some b=>kz a b
  |_,_=>True)/\iU tl r
def XOp.draws:XOp->Bool
 | .bsliceG _ _=>false
 | .isnil _ _=>false
 | .vfrz _ _=>false
 | .retok _ _=>false
 |_=>true
def Ij(P:Program)(f:FuncId)(args:List AV)(σ:aA)(v:AV)(us:List (Nat×AObj)):Prop:=
 ∀τ,Sub σ τ->ACalls P f args τ (λr σ'=>r= .ret v/\σ'=fm τ us)
def xT(P:Program)(f:FuncId)(args:List AV)(σ:aA)(nm:Nat)(R:ARes->aA->Prop):Prop:=
 ct P f=true/\∀(S:Nat->Prop) K w (vals:Array Value),Bnd S->¬S nm->K.own nm=none->RelL K args vals.toList->Sat K σ w->Calls P f vals w λe w'=>∃K' r σ',K.leS S K'/\Sat K' σ' w'/\EndRel K' e r/\R r σ'
def Ik(P:Program)(f:FuncId)(args:List AV)(σ:aA)(nm:Nat)(v:AV)(x:AObj):Prop:=
 ∀τ,Sub σ τ->τ nm=none->xT P f args τ nm (λr σ'=>r= .ret v/\σ'=aH τ nm x)
def oW(σ:aA):List (Nat×AObj)->Prop
 |[]=>True
 |(a,_)::r=>σ a≠none/\oW σ r
def oY(P:Program)(f:FuncId)(args:List AV)(σ σb:aA)(kc:AV->List (Nat×AObj)->Prop)(_:Tg kc:= .mk):Prop:=
 (∃v us,Ij P f args σb v us/\oW σ us/\kc v us)\/∃(v:Nat->AV) (x:AObj),∀o,σ o=none->Ik P f args σb o (v o) x/\kc (v o) [(o,x)]
def lc(P:Program)(k:AV->Option (Nat×AObj)->Prop)(kc:AV->List (Nat×AObj)->Prop)(env:bg)(σ σb:aA):AOp->Prop
 | .call f args=>bh (aval env f) λfv=>gj (cK env args) λvs=>match fv with
  | .fn f first caps=>oY P f (first++vs++caps) σ σb kc
  |_=>False
 | .ext x=>if x.draws then vD (λk=>fresh σ k) env σ k x else False
 |op=>bt (λk=>fresh σ k) env σ k op
def eG(n:Nat)(σ:aA):List (Nat×Nat)->aA
 |[]=>σ
 |(a,b)::r=>if a=n then (if b=n then λ_=>none else eG n σ r) else eG n σ r
def dO(P:Program)(pairs:List (Nat×Nat))(k:bg->aA->Prop):List AInst->Nat->List (Nat×TI)->bg->aA->Prop
 |[],_,tl,env,σ=>cV (iU tl pairs) (k env σ)
 | ⟨d, op, g⟩ :: is, n, tl, env, σ => xS env (lc P (λv e => dO P pairs k is (n + 1) (zk n env σ op tl e) (putA d v env) (fN σ e))
   (λv us=>dO P pairs k is (n+1) ((n, .call us)::tl) (putA d v env) (fm σ us)) env σ (eG n σ pairs) op)
   (dO P pairs k is (n+1) tl (skipA d env) σ) g
def LJ(a b:(AExit->bg->aA->Prop)->bg->aA->Prop)(Q:AExit->bg->aA->Prop)(env:bg)(σ:aA)(_:Tg a:= .mk)(_:Tg b:= .mk)(_:Tg Q:= .mk):Prop:=
 ∃I:bg->aA->Prop,a (js (LI I) Q) env σ/\∀env σ,I env σ->b Q env σ
def ex(P:Program):ACode->(AExit->bg->aA->Prop)->bg->aA->Prop
 | .skip,Q,env,σ=>Q .normal env σ
 | .reg is,Q,env,σ=>dX P Q is env σ
 | .drw is ps,Q,env,σ=>dO P ps (λenv σ=>Q .normal env σ) is 0 [] env σ
 | .seq a b,Q,env,σ=>ex P a (js (ex P b Q) Q) env σ
 | .cut a b,Q,env,σ=>LJ (λQ env σ=>ex P a Q env σ) (λQ env σ=>ex P b Q env σ) Q env σ
 | .cond c a b,Q,env,σ=>bh (aval env c) λv=>match v with
  | .bool p=>br p (ex P a Q env σ) (ex P b Q env σ)
  |_=>False
 | .block id a,Q,env,σ=>ex P a (gA id Q) env σ
 | .loop a,Q,env,σ=>BP (λQ env σ=>ex P a Q env σ) Q env σ
 | .exit id,Q,env,σ=>Q (.exit id) env σ
 | .ret,Q,env,σ=>Q .ret env σ
def ld:AOp->Bool
 | .store _ _ _=>true
 | .ext (.mset _ _ _ _)=>true
 |_=>false
def BQ(N:Nat)(a:AOp):Option Nat->Bool
 |some d=>decide (d<N)&& !ld a
 |none=>true
def oZ(P:Program)(N:Nat)(ops:Array Oper)(o:Oper):Option AInst:=
 match bO P o.op with
 |none=>none
 |some a=>
  if BQ N a o.dst=true then
   match o.guard with
   |none=>some ⟨o.dst,a,none⟩
   |some (j,b)=>match (ops[j]?).bind (·.dst) with
    |some s=>some ⟨o.dst,a,some (s,b)⟩
    |none=>none
  else none
def bZ(P:Program)(N:Nat)(ops:Array Oper):List Oper->Option (List AInst)
 |[]=>some []
 |o::r=>match oZ P N ops o,bZ P N ops r with
  |some a,some l=>some (a::l)
  |_,_=>none
def vQ(acc:List Nat)(o:Oper):Nat:=
 o.after.toList.foldl (λs e=>if Region.binds .any e then s|||2^e.on|||acc.getD e.on 0 else s) 0
def fQ:List Nat->List Oper->List Nat
 |acc,[]=>acc
 |acc,o::r=>fQ (acc++[vQ acc o]) r
def iw:AOp->Bool
 | .store _ _ _=>true
 | .append _ _ _ _=>true
 | .appz _ _ _ _=>true
 | .alloc _=>true
 | .box _=>true
 | .mkslice _ _ _ _ _ _=>true
 | .ext .mkmap=>true
 | .ext (.mset _ _ _ _)=>true
 | .ext (.bsliceG _ _)=>true
 | .ext (.vmake _ _ _ _ _ _)=>true
 | .ext (.vapp _ _ _ _)=>true
 | .ext (.vfrz _ _)=>true
 | .ext (.retok _ _)=>true
 |_=>false
def d9:AOp->Bool
 | .appz _ _ _ _=>true
 | .alloc _=>true
 | .box _=>true
 | .mkslice _ _ _ _ _ _=>true
 | .ext .mkmap=>true
 | .ext (.vmake _ _ _ _ _ _)=>true
 |_=>false
def dI:AOp->Bool
 | .load _ _ _=>true
 | .call _ _=>true
 | .ext (.look _ _ _ _ _)=>true
 |op=>iw op
def bD:AOp->Bool
 | .call _ _=>true
 |_=>false
def bj:AOpnd->List Nat
 | .t n=>[n]
 | .c _=>[]
 | .m n _=>[n]
def jh:XOp->List Nat
 | .mkmap=>[]
 | .look _ _ _ x i=>bj x++bj i
 | .mset _ m k v=>bj m++bj k++bj v
 | .isnil _ x=>bj x
 | .bsliceG _ ps=>ps.flatMap bj
 | .vmake _ _ _ _ l c=>bj l++bj c
 | .vapp _ _ s x=>bj s++bj x
 | .vfrz _ x=>bj x
 | .retok _ x=>bj x
def bp:AOp->List Nat
 | .ext x=>jh x
 | .mov x| .box x| .boxI x| .nilchk x| .un _ x| .conv _ x| .fldA _ x| .fldV _ _ _ x| .extract x _| .len x| .cap x| .mkiface _ x| .panic x| .load _ _ x=>bj x
 | .pick c a b=>bj c++bj a++bj b
 | .alloc _=>[]
 | .build _ ps=>ps.flatMap λp=>bj p.2.2
 | .bslice _ ps| .min ps| .max ps=>ps.flatMap bj
 | .store _ a x| .bin _ _ a x| .eqs _ _ a x| .idxS _ a x| .idxR _ _ a x| .append _ _ a x| .appz _ _ a x| .mkslice _ _ _ _ a x=>bj a++bj x
 | .mkfn _ a b=>a.flatMap bj++b.flatMap bj
 | .slc _ x a b c| .slcN _ x a b c| .slcR _ x a b c=>bj x++(a.toList++b.toList++c.toList).flatMap bj
 | .call f l=>bj f++l.flatMap bj
def jt(i:AInst):List Nat:=bp i.op++(match i.guard with|some (s,_)=>[s]|none=>[])
def cz(cl:List Nat)(i j:Nat):Bool:=if j<i then (cl.getD i 0).testBit j else (cl.getD j 0).testBit i
def sj(ops:List Oper)(is:List AInst)(cl:List Nat):Bool:=
 (ops.zipIdx.all fun(o,i)=>o.after.toList.all λe=> !Region.binds .any e||decide (e.on<i))&&
 is.zipIdx.all fun(x,i)=>is.zipIdx.all fun(y,j)=>
  i==j||((match x.dst with|some d=>y.dst != some d|none=>true)&&
   (match y.dst with|some d=> !(jt x).contains d||cz cl i j|none=>true)&&
   (!(bD x.op&&iw y.op)||d9 y.op||cz cl i j))
def qW(is:List AInst)(cl:List Nat):List (Nat×Nat):=
 is.zipIdx.flatMap fun(x,i)=>is.zipIdx.filterMap fun(y,j)=>
  if i<j/\dI x.op=true/\dI y.op=true/\(iw x.op||iw y.op||bD x.op||bD y.op)=true/\(bD x.op&&d9 y.op)=false/\cz cl i j=false then some (i,j) else none
def qX(is:List AInst)(cl:List Nat):List (Nat×Nat):=
 is.zipIdx.filterMap fun(x,i)=>if bD x.op=true/\(is.zipIdx.any fun(y,j)=>decide (j<i)&&iw y.op&&d9 y.op&& !cz cl i j)=true then some (i,i) else none
def eU(is:List AInst)(cl:List Nat):List (Nat×Nat):=qW is cl++qX is cl
def tr(P:Program)(N:Nat):Code->Option ACode
 | .skip=>some .skip
 | .region _ ops draw=>match bZ P N ops ops.toList with
  |some l=>if draw then (if sj ops.toList l (fQ [] ops.toList)=true then some (.drw l (eU l (fQ [] ops.toList))) else none) else some (.reg l)
  |none=>none
 | .seq a b=>match tr P N a,tr P N b with
  |some a,some b=>some (.seq a b)
  |_,_=>none
 | .cond c a b=>match aE c,tr P N a,tr P N b with
  |some c,some a,some b=>some (.cond c a b)
  |_,_,_=>none
 | .block id a=>(tr P N a).map (.block id)
 | .loop a=>(tr P N a).map .loop
 | .exit id=>some (.exit id)
 | .ret=>some .ret
 |_=>none
def Fc(K:Gh):Exit->AExit->Prop
 | .normal, .normal=>True
 | .exit i, .exit j=>i=j
 | .ret, .ret=>True
 | .panic ch, .panic a=>∃v,ch=[{v,recovered:=false}]/\Rel K a v
 |_,_=>False
def LiftQ(N:Nat)(S:Nat->Prop)(K:Gh)(Q:AExit->bg->aA->Prop):Exit->Act->World->Prop:=
 λe a w=>∃ae K' env σ,K.leS S K'/\Fc K' e ae/\Fr K' N env a/\Sat K' σ w/\Q ae env σ
theorem LiftQ.mono{N S K K1 Q e a w}(hK:K.leS S K1)(h:LiftQ N S K1 Q e a w):LiftQ N S K Q e a w:=
 let ⟨ae,K',env,σ,h1,h2⟩:=h;⟨ae,K',env,σ,hK.trans h1,h2⟩
def AWP(P:Program)(N:Nat)(c:Code)(Q:AExit->bg->aA->Prop)(env:bg)(σ:aA):Prop:=
 ∀S K a w,Bnd S->Fr K N env a->Sat K σ w->c.wp P (LiftQ N S K Q) a w
theorem iD{x:Option AV}{R R':AV->Prop}(h:bh x R)(hR:∀a,R a->R' a):bh x R':=by
 cases x with
 |none=>exact h
 |some a=>exact hR a h
theorem zl{x:Option (List AV)}{R R':List AV->Prop}(h:gj x R)(hR:∀a,R a->R' a):gj x R':=by
 cases x with
 |none=>exact h
 |some a=>exact hR a h
theorem BR{F F':(Nat->Prop)->Prop}(hF:∀k,F k->F' k){env:bg}{σ:aA}{R:AV->Option (Nat×AObj)->Prop}{x:XOp}(h:vD F env σ R x):vD F' env σ R x:=by
 cases x with
 |mkmap=>exact hF _ h
 |bsliceG sz ps=>exact zl h λl h=>⟨h.1,hF _ h.2⟩
 |vmake sz bytes z g n c=>
  refine iD h λn h=>iD h λc h=>iD h λe h=>?_;split at h
  ·exact⟨h.1,hF _ h.2⟩
  ·exact h.elim
 |vapp sz bytes s x=>
  refine iD h λs h=>iD h λx h=>?_;split at h
  ·exact h
  ·exact h
  ·rename_i l t m t2 _
   refine⟨h.1,?_⟩;have h2:=h.2;cases t with
   |nil=>exact⟨h2.1,λhm=>hF _ (h2.2 hm)⟩
   |full=>exact⟨h2.1,λhm=>hF _ (h2.2 hm)⟩
   |no=>exact h2
   |own t=>exact h2
  ·exact h.elim
 |retok sz x=>
  refine iD h λx h=>?_;cases x<;>first|exact h|skip
  rename_i l t
  cases l with
  |nil=>cases t<;>first|exact h|exact hF _ h|exact⟨h.1,hF _ h.2⟩
  |cons a l=>cases t<;>first|exact h|exact⟨h.1,hF _ h.2⟩
 |_=>exact h
theorem o0{F F':(Nat->Prop)->Prop}(hF:∀k,F k->F' k){env:bg}{σ:aA}{R:AV->Option (Nat×AObj)->Prop}{op:AOp}(h:bt F env σ R op):bt F' env σ R op:=by
 cases op with
 |alloc z=>exact hF _ h
 |box x=>
  simp only[bt] at h|-;cases hx:aval env x with
  |none=>rw[hx] at h;exact h
  |some a=>rw[hx] at h;exact hF _ h
 |append sz bytes s x=>
  simp only[bt] at h|-;cases hs:aval env s with
  |none=>rw[hs] at h;exact h
  |some a=>
   rw[hs] at h;cases hx:aval env x with
   |none=>rw[hx] at h;exact h
   |some b=>
    rw[hx] at h;cases a<;>cases b<;>first|exact h|skip
    rename_i l t m t2
    obtain⟨h1,h2⟩:=h;refine⟨h1,?_⟩;cases t with
    |nil=>exact⟨h2.1,λhm=>hF _ (h2.2 hm)⟩
    |full=>exact⟨h2.1,λhm=>hF _ (h2.2 hm)⟩
    |no=>exact h2
    |own t=>exact h2
 |appz sz bytes s x=>
  simp only[bt] at h|-;cases hs:aval env s with
  |none=>rw[hs] at h;exact h
  |some a=>
   rw[hs] at h;cases hx:aval env x with
   |none=>rw[hx] at h;exact h
   |some b=>
    rw[hx] at h;simp only[bh] at h|-;split at h
    ·exact⟨h.1,hF _ h.2⟩
    ·exact h.elim
 |ext x=>
  simp only[bt] at h|-;exact BR hF h
 |mkslice sz bytes z g n c=>
  simp only[bt] at h|-;cases hn:aval env n with
  |none=>rw[hn] at h;exact h
  |some a=>
   rw[hn] at h;cases hc:aval env c with
   |none=>rw[hc] at h;exact h
   |some b=>
    rw[hc] at h;cases hz:eE g z with
    |none=>rw[hz] at h;exact h
    |some e=>
     rw[hz] at h;simp only[bh] at h|-;split at h
     ·exact⟨h.1,hF _ h.2⟩
     ·exact h.elim
 |_=>exact h
theorem IQ{env:bg}{σ:aA}{R:AV->aA->Prop}{op:AOp}{nm:Nat}(hn:σ nm=none)(h:EK env σ R op):aJ nm env σ (λv e=>R v (fN σ e)) op:=
 o0 (λk hk=>hk nm hn) h
theorem lf{K:Gh}{σ w}(hs:Sat K σ w){S:Nat->Prop}(hS:Bnd S):∃nm,K.own nm=none/\¬S nm/\σ nm=none:=by
 obtain⟨n,hn⟩:=hs.room;obtain⟨m,hm⟩:=hS;exact⟨max n m,hn _ (by omega),hm _ (by omega),hs.fresh (hn _ (by omega))⟩
theorem eH{α:Type}{a:Array α}{x:α}(h:a.toList=[x]):a=#[x]:=by
 cases a;simp at h;subst h;rfl
theorem iE{α:Type}{a:Array α}{x y:α}(h:a.toList=[x,y]):a=#[x,y]:=by
 cases a;simp at h;subst h;rfl
theorem bare_cases{a a':AOp}(h:a'.bare=a):a'=a\/(∃x,a'= .boxI x/\a= .box x)\/(∃s x l h m,a'= .slcN s x l h m/\a= .slc s x l h m)\/(∃s x l h m,a'= .slcR s x l h m/\a= .slc s x l h m)\/
  (∃x,a'= .ext x/\x.draws=false/\((∃s ps,x= .bsliceG s ps/\a= .bslice s ps)\/(∃g y,x= .vfrz g y/\a= .mov y)\/(∃s y,x= .retok s y/\a= .mov y)))\/
  (∃s b z g l c,a'= .ext (.vmake s b z g l c)/\a= .mkslice s b z g l c)\/(∃s b x y,a'= .ext (.vapp s b x y)/\a= .append s b x y):=by
 cases a' with
 |boxI x=>exact .inr (.inl ⟨_,rfl,h.symm⟩)
 |slcN s x l hh m=>exact .inr (.inr (.inl ⟨_,_,_,_,_,rfl,h.symm⟩))
 |slcR s x l hh m=>exact .inr (.inr (.inr (.inl ⟨_,_,_,_,_,rfl,h.symm⟩)))
 |ext x=>
  cases x with
  |bsliceG s ps=>exact .inr (.inr (.inr (.inr (.inl ⟨_,rfl,rfl, .inl ⟨_,_,rfl,h.symm⟩⟩))))
  |vfrz g y=>exact .inr (.inr (.inr (.inr (.inl ⟨_,rfl,rfl, .inr (.inl ⟨_,_,rfl,h.symm⟩)⟩))))
  |retok s y=>exact .inr (.inr (.inr (.inr (.inl ⟨_,rfl,rfl, .inr (.inr ⟨_,_,rfl,h.symm⟩)⟩))))
  |vmake s b z g l c=>exact .inr (.inr (.inr (.inr (.inr (.inl ⟨_,_,_,_,_,_,rfl,h.symm⟩)))))
  |vapp s b x y=>exact .inr (.inr (.inr (.inr (.inr (.inr ⟨_,_,_,_,rfl,h.symm⟩)))))
  |_=>exact .inl h
 |_=>exact .inl h
theorem vR{P:Program}{o:Oper}{N:Nat}{env:bg}{σ:aA}{nm:Nat}{R:AV->Option (Nat×AObj)->Prop}{b:Builtin}{args:Array Operand}{types:Array TypeId}{a:AOp}(ho:o.op= .call {callee:= .builtin b,args:=args,argTypes:=types})
  (ht:ck P b args.toList types.toList=some a)(h:aJ nm env σ R a):OpOk P o N env σ nm R:=by
 unfold ck at ht;split at ht
 ·split at ht
  ·rename_i x t e1 e2
   obtain rfl:=eH e1
   obtain rfl:=eH e2
   split at ht<;>simp at ht<;>subst ht
   ·rename_i hu _;exact EX ho hu h
   ·rename_i hu hx;exact IH ho hu hx h
  ·simp at ht
 ·split at ht
  ·rename_i x t e1 e2
   obtain rfl:=eH e1
   obtain rfl:=eH e2
   split at ht<;>simp at ht<;>subst ht
   rename_i hu hx;exact II ho hu hx h
  ·simp at ht
 ·split at ht
  ·rename_i s x t u e1 e2
   obtain rfl:=iE e1
   obtain rfl:=iE e2
   split at ht<;>try (simp at ht;done)
   rename_i hu hs hx
   split at ht<;>try (simp at ht;done)
   rename_i hi hz
   split at ht
   ·rename_i hc
    obtain⟨c1,c2,c3,c4,c5⟩:=hc;simp at ht;subst ht
    exact zb ho hu c5 hi hz c2 c3 c4 hs hx h
   ·split at ht<;>simp at ht
    rename_i hc
    obtain⟨c1,c2,c3,c4,c5⟩:=hc;subst ht;exact EY ho hu c5 hi hz c1 c2 c4 hs hx h
  ·simp at ht
 ·simp only[Option.map_eq_some_iff] at ht;obtain⟨l,h1,rfl⟩:=ht;exact IJ ho h1 h
 ·simp only[Option.map_eq_some_iff] at ht;obtain⟨l,h1,rfl⟩:=ht;exact IK ho h1 h
 ·simp at ht
theorem qv{P:Program}{b args types x}(h:ck P b args types=some (.box x)):False:=by
 unfold ck at h;repeat' split at h
 all_goals first
  |(simp at h;done)
  |(simp only[Option.map_eq_some_iff] at h;obtain⟨_,_,e⟩:=h;simp at e)
theorem BS{P:Program}{op:Op}{x:AOpnd}(h:bO P op=some (.box x)):∃e y,op= .box e y/\aE y=some x:=by
 cases op
 case box e y=>
  simp only[bO,Option.map_eq_some_iff] at h;obtain⟨z,h1,h2⟩:=h;simp at h2;subst h2
  exact⟨e,y,rfl,h1⟩
 case call c=>
  simp only[bO,ii] at h;split at h
  ·split at h<;>simp at h
  ·exact(qv h).elim
  ·simp only[Option.map_eq_some_iff] at h;obtain⟨_,_,e⟩:=h;simp at e
  ·simp at h
 case makeFunc fn first caps=>
  cases fn<;>simp only[bO] at h<;>try (simp at h;done)
  split at h<;>simp at h
 case makeMap t r=>cases r<;>simp[bO] at h
 all_goals
  simp only[bO] at h;repeat' split at h
  all_goals first
   |(simp at h;done)
   |(simp only[Option.map_eq_some_iff] at h;obtain⟨_,_,e⟩:=h;simp at e)
theorem qw{P:Program}{b args types s x l h m}(hh:ck P b args types=some (.slc s x l h m)):False:=by
 unfold ck at hh;repeat' split at hh
 all_goals first
  |(simp at hh;done)
  |(simp only[Option.map_eq_some_iff] at hh;obtain⟨_,_,e⟩:=hh;simp at e)
theorem tQ{P:Program}{op:Op}{s x l h m}(hh:bO P op=some (.slc s x l h m)):∃t y lo hi mx e,op= .slice t y lo hi mx/\P.underlying t=some (.slice e)/\dl P e=some s/\aE y=some x/\cD lo=some l/\cD hi=some h/\cD mx=some m:=by
 cases op
 case slice t y lo hi mx=>
  simp only[bO] at hh;split at hh
  ·rename_i hu
   split at hh<;>simp at hh
   obtain⟨rfl,rfl,rfl,rfl,rfl⟩:=hh;exact⟨_,_,_,_,_,_,rfl,by assumption,by assumption,by assumption,by assumption,by assumption,by assumption⟩
  ·simp at hh
 case call c=>
  simp only[bO,ii] at hh;split at hh
  ·split at hh<;>simp at hh
  ·exact(qw hh).elim
  ·simp only[Option.map_eq_some_iff] at hh;obtain⟨_,_,e⟩:=hh;simp at e
  ·simp at hh
 case makeFunc fn first caps=>
  cases fn<;>simp only[bO] at hh<;>try (simp at hh;done)
  split at hh<;>simp at hh
 case makeMap t r=>cases r<;>simp[bO] at hh
 all_goals
  simp only[bO] at hh;repeat' split at hh
  all_goals first
   |(simp at hh;done)
   |(simp only[Option.map_eq_some_iff] at hh;obtain⟨_,_,e⟩:=hh;simp at e)
theorem qx{P:Program}{b args types x}(hh:ck P b args types=some (.mov x)):∃n,x= .c (.int .i64 n):=by
 unfold ck at hh;repeat' split at hh
 all_goals first
  |(simp at hh;done)
  |(simp only[Option.map_eq_some_iff] at hh;obtain⟨_,_,e⟩:=hh;simp at e;done)
  |skip
 simp at hh
 subst hh;exact⟨_,rfl⟩
theorem tR{P:Program}{op:Op}{sz ps}(hh:bO P op=some (.bslice sz ps)):∃t len qs e,op= .buildSlice t len qs/\P.underlying t=some (.slice e)/\dl P e=some sz/\len=qs.size/\len*sz<=65536/\(cx P e).isSome=true/\gW 0 qs.toList=some ps:=by
 cases op
 case buildSlice t len qs=>
  simp only[bO] at hh;split at hh
  ·rename_i hu
   split at hh
   ·rename_i hsz
    split at hh
    ·rename_i hc
     obtain⟨c1,c2,c3⟩:=hc;simp only[Option.map_eq_some_iff] at hh;obtain⟨_,h1,h2⟩:=hh;simp at h2
     obtain⟨rfl,rfl⟩:=h2;exact⟨_,_,_,_,rfl,hu,hsz,c1,c2,c3,h1⟩
    ·simp at hh
   ·simp at hh
  ·simp at hh
 case call c=>
  simp only[bO,ii] at hh;split at hh
  ·split at hh<;>simp at hh
  ·exfalso
   unfold ck at hh;repeat' split at hh
   all_goals first
    |(simp at hh;done)
    |(simp only[Option.map_eq_some_iff] at hh;obtain⟨_,_,e⟩:=hh;simp at e)
  ·simp only[Option.map_eq_some_iff] at hh;obtain⟨_,_,e⟩:=hh;simp at e
  ·simp at hh
 case makeFunc fn first caps=>
  cases fn<;>simp only[bO] at hh<;>try (simp at hh;done)
  split at hh<;>simp at hh
 case makeMap t r=>cases r<;>simp[bO] at hh
 all_goals
  simp only[bO] at hh;repeat' split at hh
  all_goals first
   |(simp at hh;done)
   |(simp only[Option.map_eq_some_iff] at hh;obtain⟨_,_,e⟩:=hh;simp at e)
theorem sk{P:Program}{op:Op}{n b z g al ac}(hh:bO P op=some (.mkslice n b z g al ac)):∃t l c e i,op= .makeSlice t l c/\P.underlying t=some (.slice e)/\P.info? e=some i/\b=i.bytes/\et P e=some (g,n)/\cx P e=some z/\aE l=some al/\aE c=some ac/\z.length=n/\0<n/\0<i.bytes:=by
 cases op
 case makeSlice t l c=>
  simp only[bO] at hh;split at hh
  ·rename_i hu
   split at hh
   ·rename_i hi hr hz hl hc
    split at hh<;>simp at hh
    rename_i hcnd
    obtain⟨c1,c2,c3⟩:=hcnd;obtain⟨rfl,rfl,rfl,rfl,rfl,rfl⟩:=hh;exact⟨_,_,_,_,_,rfl,hu,hi,rfl,hr,hz,hl,hc,c1,c2,c3⟩
   ·simp at hh
  ·simp at hh
 case call c=>
  simp only[bO,ii] at hh;split at hh
  ·split at hh<;>simp at hh
  ·exfalso
   unfold ck at hh;repeat' split at hh
   all_goals first
    |(simp at hh;done)
    |(simp only[Option.map_eq_some_iff] at hh;obtain⟨_,_,e⟩:=hh;simp at e)
  ·simp only[Option.map_eq_some_iff] at hh;obtain⟨_,_,e⟩:=hh;simp at e
  ·simp at hh
 case makeFunc fn first caps=>
  cases fn<;>simp only[bO] at hh<;>try (simp at hh;done)
  split at hh<;>simp at hh
 case makeMap t r=>cases r<;>simp[bO] at hh
 all_goals
  simp only[bO] at hh;repeat' split at hh
  all_goals first
   |(simp at hh;done)
   |(simp only[Option.map_eq_some_iff] at hh;obtain⟨_,_,e⟩:=hh;simp at e)
theorem tT{P:Program}{op:Op}{n b as_ ax}(hh:bO P op=some (.append n b as_ ax)):∃s x t u e i z,op= .call {callee:= .builtin .append,args:=#[s,x],argTypes:=#[t,u]}/\P.underlying t=some (.slice e)/\t=u/\P.info? e=some i/\n=i.size/\b=i.bytes/\
  cx P e=some z/\0<i.bytes/\i.bytes<=4096/\z.length=i.size/\aE s=some as_/\aE x=some ax:=by
 cases op
 case call c=>
  obtain⟨callee,args,types⟩:=c;simp only[bO,ii] at hh;split at hh
  ·split at hh<;>simp at hh
  ·rename_i b' hb
   unfold ck at hh;split at hh
   case h_3=>
    split at hh
    ·rename_i s x t u e1 e2
     obtain rfl:=iE e1
     obtain rfl:=iE e2
     split at hh<;>try (simp at hh;done)
     rename_i hu hs hx
     split at hh<;>try (simp at hh;done)
     rename_i hi hz
     split at hh
     ·rename_i hc
      obtain⟨c1,c2,c3,c4,c5⟩:=hc;simp at hh
      obtain⟨rfl,rfl,rfl,rfl⟩:=hh;exact⟨_,_,_,_,_,_,_,rfl,hu,c5,hi,rfl,rfl,hz,c2,c3,c4,hs,hx⟩
     ·split at hh<;>simp at hh
    ·simp at hh
   all_goals
    exfalso
    repeat' split at hh
    all_goals first
     |(simp at hh;done)
     |(simp only[Option.map_eq_some_iff] at hh;obtain⟨_,_,e⟩:=hh;simp at e)
  ·simp only[Option.map_eq_some_iff] at hh;obtain⟨_,_,e⟩:=hh;simp at e
  ·simp at hh
 case makeFunc fn first caps=>
  cases fn<;>simp only[bO] at hh<;>try (simp at hh;done)
  split at hh<;>simp at hh
 case makeMap t r=>cases r<;>simp[bO] at hh
 all_goals
  simp only[bO] at hh;repeat' split at hh
  all_goals first
   |(simp at hh;done)
   |(simp only[Option.map_eq_some_iff] at hh;obtain⟨_,_,e⟩:=hh;simp at e)
theorem trOp_mov{P:Program}{op:Op}{x:AOpnd}(hh:bO P op=some (.mov x)):(∃y,(op= .move y\/op= .assign y)/\aE y=some x)\/∃n,x= .c (.int .i64 n):=by
 cases op
 case move y=>
  simp only[bO,Option.map_eq_some_iff] at hh;obtain⟨_,h1,h2⟩:=hh;simp at h2;subst h2
  exact .inl ⟨y, .inl rfl,h1⟩
 case assign y=>
  simp only[bO,Option.map_eq_some_iff] at hh;obtain⟨_,h1,h2⟩:=hh;simp at h2;subst h2
  exact .inl ⟨y, .inr rfl,h1⟩
 case call c=>
  simp only[bO,ii] at hh;split at hh
  ·split at hh<;>simp at hh
  ·exact .inr (qx hh)
  ·simp only[Option.map_eq_some_iff] at hh;obtain⟨_,_,e⟩:=hh;simp at e
  ·simp at hh
 case makeFunc fn first caps=>
  cases fn<;>simp only[bO] at hh<;>try (simp at hh;done)
  split at hh<;>simp at hh
 case makeMap t r=>cases r<;>simp[bO] at hh
 all_goals
  simp only[bO] at hh;repeat' split at hh
  all_goals first
   |(simp at hh;done)
   |(simp only[Option.map_eq_some_iff] at hh;obtain⟨_,_,e⟩:=hh;simp at e)
theorem lg{P:Program}{o:Oper}{N:Nat}{env:bg}{σ:aA}{nm:Nat}{R:AV->Option (Nat×AObj)->Prop}(h:False):OpOk P o N env σ nm R:=h.elim
theorem qY{P:Program}{o:Oper}{N:Nat}{env:bg}{σ:aA}{nm:Nat}{R:AV->Option (Nat×AObj)->Prop}{a a':AOp}(ht:bO P o.op=some a)(hb:a'.bare=a)(hd:ld a=true->o.dst=none)
  (h:aJ nm env σ R a'):OpOk P o N env σ nm R:=by
 generalize ho:o.op=op at ht;rcases bare_cases hb with rfl|⟨x,rfl,rfl⟩|⟨s,x,l,hh,m,rfl,rfl⟩|⟨s,x,l,hh,m,rfl,rfl⟩|⟨x,rfl,_,⟨s,ps,hxx,rfl⟩|⟨g,y,rfl,rfl⟩|⟨s,y,rfl,rfl⟩⟩|⟨s,b,z,g,l,c,rfl,rfl⟩|⟨s,b,x,y,rfl,rfl⟩
 case inr.inr.inr.inr.inl.inl=>
  obtain⟨t,len,qs,e,rfl,h1,h2,h3,h4,h5,h6⟩:=tR ht;obtain⟨z,hz⟩:=Option.isSome_iff_exists.1 h5;obtain rfl:=hxx
  exact vP ho h1 h2 h3 h4 hz h6 h
 case inr.inr.inr.inr.inl.inr.inl=>
  rcases trOp_mov ht with ⟨x,h1,h2⟩|⟨n,rfl⟩
  ·exact Fa (by rcases h1 with rfl|rfl;exact .inl ho;exact .inr ho) h2 h
  ·exact lg h
 case inr.inr.inr.inr.inl.inr.inr=>
  rcases trOp_mov ht with ⟨x,h1,h2⟩|⟨n,rfl⟩
  ·exact BN (by rcases h1 with rfl|rfl;exact .inl ho;exact .inr ho) h2 h
  ·exact lg h
 case inr.inr.inr.inr.inr.inl=>
  obtain⟨t,l',c',e,i,rfl,h1,h2,rfl,h3,h4,h5,h6,h7,h8,h9⟩:=sk ht;exact BL ho h1 h2 h3 h4 h7 h8 h9 h5 h6 h
 case inr.inr.inr.inr.inr.inr=>
  obtain⟨s',x',t,u,e,i,z,rfl,h1,h2,h3,rfl,rfl,h4,h5,h6,h7,h8,h9⟩:=tT ht;exact Fb ho h1 h2 h3 h4 h5 h6 h7 h8 h9 h
 case inr.inl=>
  obtain⟨e,y,rfl,h1⟩:=BS ht;exact EQ ho h1 h
 case inr.inr.inl=>
  obtain⟨t,y,lo,hi,mx,e,rfl,h1,h2,h3,h4,h5,h6⟩:=tQ ht;exact EZ ho h1 h2 h3 h4 h5 h6 h
 case inr.inr.inr=>
  obtain⟨t,y,lo,hi,mx,e,rfl,h1,h2,h3,h4,h5,h6⟩:=tQ ht;exact E0 ho h1 h2 h3 h4 h5 h6 h
 cases op<;>simp only[bO] at ht<;>try (simp at ht;done)
 case move x=>
  simp only[Option.map_eq_some_iff] at ht;obtain⟨_,h1,rfl⟩:=ht;exact Bo (.inl ho) h1 h
 case assign x=>
  simp only[Option.map_eq_some_iff] at ht;obtain⟨_,h1,rfl⟩:=ht;exact Bo (.inr ho) h1 h
 case pick c x y=>
  split at ht<;>simp at ht
  subst ht;exact EO ho (by assumption) (by assumption) (by assumption) h
 case alloc e=>
  simp only[Option.map_eq_some_iff] at ht;obtain⟨_,h1,rfl⟩:=ht;exact Bq ho h1 h
 case box e x=>
  simp only[Option.map_eq_some_iff] at ht;obtain⟨_,h1,rfl⟩:=ht;exact IF ho h1 h
 case build t ps=>
  split at ht
  ·split at ht
   ·rename_i hu hz hall
    simp only[Option.map_eq_some_iff] at ht;obtain⟨_,h1,rfl⟩:=ht;exact y8 ho hu hz hall h1 h
   ·simp at ht
  ·rename_i hu hz
   split at ht
   ·rename_i hsz
    simp only[Option.map_eq_some_iff] at ht;obtain⟨_,h1,rfl⟩:=ht;exact y9 ho hu hz hsz h1 h
   ·simp at ht
  ·simp at ht
 case buildSlice t len ps=>
  split at ht
  ·rename_i hu
   split at ht
   ·rename_i hsz
    split at ht
    ·rename_i hc
     obtain⟨c1,c2,c3⟩:=hc;obtain⟨z,hz⟩:=Option.isSome_iff_exists.1 c3;simp only[Option.map_eq_some_iff] at ht;obtain⟨_,h1,rfl⟩:=ht;exact za ho hu hsz c1 c2 hz h1 h
    ·simp at ht
   ·simp at ht
  ·simp at ht
 case load t x=>
  split at ht<;>simp at ht
  subst ht;exact EP ho (by assumption) (by assumption) h
 case store t p x=>
  split at ht<;>simp at ht
  subst ht;exact Bp ho (hd rfl) (by assumption) (by assumption) (by assumption) h
 case nilCheck x=>
  simp only[Option.map_eq_some_iff] at ht;obtain⟨_,h1,rfl⟩:=ht;exact y6 ho h1 h
 case binOp op t x y yt=>
  split at ht
  ·rename_i hx hy
   have bool:∀{tb:Bool},tb=kx P t->tb=true->kx P t=true:=λe h=>e▸h;split at ht
   ·split at ht
    ·simp at ht;subst ht
     exact vI ho (bool rfl) hx hy h
    ·split at ht
     ·rename_i hn
      simp at ht;subst ht
      rw[Bool.and_eq_true] at hn;exact tN ho (.inl ⟨rfl,rfl⟩) hn.1 hn.2 hx hy h
     ·simp only[Option.map_eq_some_iff] at ht;obtain⟨_,h1,rfl⟩:=ht;exact By ho (.inl ⟨rfl,rfl⟩) h1 hx hy h
   ·split at ht
    ·simp at ht;subst ht
     exact vI ho (bool rfl) hx hy h
    ·split at ht
     ·rename_i hn
      simp at ht;subst ht
      rw[Bool.and_eq_true] at hn;exact tN ho (.inr ⟨rfl,rfl⟩) hn.1 hn.2 hx hy h
     ·simp only[Option.map_eq_some_iff] at ht;obtain⟨_,h1,rfl⟩:=ht;exact By ho (.inr ⟨rfl,rfl⟩) h1 hx hy h
   ·simp at ht;subst ht
    exact vI ho (by simp) hx hy h
  ·simp at ht
 case unOp op t x=>
  simp only[Option.map_eq_some_iff] at ht;obtain⟨_,h1,rfl⟩:=ht;exact LG ho h1 h
 case convert s d x=>
  split at ht<;>simp at ht
  subst ht;exact ER ho (by assumption) (by assumption) (by assumption) h
 case makeInterface t x=>
  split at ht
  ·simp at ht
  ·rename_i d hu hn
   simp only[Option.map_eq_some_iff] at ht;obtain⟨_,h1,rfl⟩:=ht;exact vK ho hn (λms e=>hu ms e) h1 h
  ·simp at ht
 case makeFunc fn first caps=>
  cases fn<;>simp only[] at ht<;>try (simp at ht;done)
  split at ht<;>simp at ht
  subst ht;exact ES ho (by assumption) (by assumption) h
 case makeSlice t l c=>
  split at ht
  ·rename_i hu
   split at ht
   ·rename_i hi hr hz hl hc
    split at ht<;>simp at ht
    rename_i hcnd
    obtain⟨c1,c2,c3⟩:=hcnd;subst ht;exact vL ho hu hi hr hz c1 c2 c3 hl hc h
   ·simp at ht
  ·simp at ht
 case slice t x lo hi mx=>
  split at ht
  ·rename_i hu
   split at ht<;>simp at ht
   subst ht;exact IG ho hu (by assumption) (by assumption) (by assumption) (by assumption) (by assumption) h
  ·simp at ht
 case fieldAddr s x f=>
  split at ht
  ·rename_i hu hx
   split at ht
   ·rename_i hf
    split at ht
    ·rename_i n hn
     split at ht<;>simp at ht
     rename_i hn0
     subst ht;exact ET ho hu hf hn hn0 hx h
    ·simp at ht
   ·simp at ht
  ·simp at ht
 case field s x f=>
  split at ht
  ·rename_i hu hx
   split at ht
   ·rename_i hf
    simp only[Option.map_eq_some_iff] at ht;obtain⟨⟨g,n⟩,h1,rfl⟩:=ht;exact EU ho hu hf h1 hx h
   ·simp at ht
  ·simp at ht
 case indexAddr t x i=>
  split at ht
  ·rename_i hu hx hi
   simp only[Option.map_eq_some_iff] at ht;obtain⟨_,h1,rfl⟩:=ht;exact EV ho hu h1 hx hi h
  ·rename_i hu hx hi
   simp only[Option.map_eq_some_iff] at ht;obtain⟨_,h1,rfl⟩:=ht;exact EW ho hu h1 hx hi h
  ·simp at ht
 case extract x i=>
  simp only[Option.map_eq_some_iff] at ht;obtain⟨_,h1,rfl⟩:=ht;exact vJ ho h1 h
 case call c=>
  obtain⟨callee,args,types⟩:=c;simp only[ii] at ht;split at ht
  ·split at ht<;>simp at ht
   subst ht;exact lg h
  ·exact vR ho ht h
  ·simp only[Option.map_eq_some_iff] at ht;obtain⟨_,h1,rfl⟩:=ht;exact lg h
  ·simp at ht
 case panic x=>
  simp only[Option.map_eq_some_iff] at ht;obtain⟨_,h1,rfl⟩:=ht;exact lg h
 case makeMap t r=>
  cases r<;>simp only[bO] at ht<;>simp at ht
  subst ht;exact Bz ho h
 case lookup t x i c=>
  split at ht
  ·rename_i hu hx hi
   split at ht<;>simp at ht
   subst ht;exact E1 ho hu (by assumption) (by assumption) hx hi h
  ·simp at ht
 case mapUpdate t m k v=>
  split at ht
  ·rename_i hu hm hk hv
   simp only[Option.map_eq_some_iff] at ht;obtain⟨kk,h1,rfl⟩:=ht;exact xP (.inl ho) (hd rfl) hu h1 hm hk hv h
  ·simp at ht
 case insert t m k v=>
  split at ht
  ·rename_i hu hm hk hv
   simp only[Option.map_eq_some_iff] at ht;obtain⟨kk,h1,rfl⟩:=ht;exact xP (.inr ho) (hd rfl) hu h1 hm hk hv h
  ·simp at ht
end Abs
