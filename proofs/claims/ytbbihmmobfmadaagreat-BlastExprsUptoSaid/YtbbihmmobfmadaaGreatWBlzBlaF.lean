/- blast: contracts: a builder's gates. -/
import Derived.Test.YtbbihmmobfmadaaGreatWAigVal
set_option linter.unusedSimpArgs false
set_option linter.unusedVariables false
set_option maxHeartbeats 8000000
set_option maxRecDepth 50000
namespace Fil.Bl
open Abs
inductive Op where
 |and|or|xor|mux
def Op.ev:Op->Bool->Bool->Bool->Bool
 | .and,a,b,_=>a&&b
 | .or,a,b,_=>a||b
 | .xor,a,b,_=>a != b
 | .mux,a,b,c=>if a then b else c
def Op.ap:Op->Aig->Int->Int->Int->Aig×Int×Int
 | .and,g,x,y,_=>g.And x y
 | .or,g,x,y,_=>g.Or x y
 | .xor,g,x,y,_=>g.Xor x y
 | .mux,g,x,y,z=>g.Mux x y z
inductive Pg(α:Type) where
 |ret(a:α)
 |op(o:Op)(x y z:Int)(k:Int->Pg α)
def Pg.bind{α β:Type}:Pg α->(α->Pg β)->Pg β
 | .ret a,f=>f a
 | .op o x y z k,f=> .op o x y z λr=>(k r).bind f
structure Bu where
 g:Aig
 e:Int
def Bu.op(b:Bu)(o:Op)(x y z:Int):Int×Bu:=
 if b.e≠0 then (0,b) else if (o.ap b.g x y z).2.2≠0 then (0,⟨b.g,(o.ap b.g x y z).2.2⟩) else ((o.ap b.g x y z).2.1,⟨(o.ap b.g x y z).1,0⟩)
def Pg.run{α:Type}:Pg α->Bu->α×Bu
 | .ret a,b=>(a,b)
 | .op o x y z k,b=>(k (b.op o x y z).1).run (b.op o x y z).2
theorem run_bind{α β:Type}(f:α->Pg β):∀(p:Pg α) (b:Bu),(p.bind f).run b=(f (p.run b).1).run (p.run b).2
 | .ret a,b=>rfl
 | .op o x y z k,b=>by simp only[Pg.bind,Pg.run];exact run_bind f _ _
theorem GR{α:Type}(a:α)(b:Bu):(Pg.ret a).run b=(a,b):=rfl
def iter{α:Type}(f:Nat->α->Pg α)(a:α):Nat->Pg α
 |0=> .ret a
 |n+1=>(iter f a n).bind (f n)
theorem fV{α:Type}(f:Nat->α->Pg α)(a:α)(n:Nat)(b:Bu):(iter f a (n+1)).run b=(f n ((iter f a n).run b).1).run ((iter f a n).run b).2:=run_bind _ _ _
def gt(l:List Int)(i:Nat):Int:=l.getD i 0
def nC(x y:Int):Pg Int:= .op .and x y 0 .ret
def GS(x y:Int):Pg Int:= .op .or x y 0 .ret
def gU(x y:Int):Pg Int:= .op .xor x y 0 .ret
def GU(c x y:Int):Pg Int:= .op .mux c x y .ret
def bk(x:List Int):List Int:=x.map turn
def eA(f:Int->Int->Pg Int)(x y:List Int):Nat->Pg (List Int):=iter (λi out=>(f (gt x i) (gt y i)).bind λr=> .ret (out++[r])) []
def kn(f:Int->Int->Pg Int)(a:Int)(l:List Int):Nat->Pg Int:=iter (λi a=>f a (gt l i)) a
def gi(p q c:Int):Pg (Int×Int):=
 (gU p q).bind λe=>(gU e c).bind λs=>(nC p q).bind λboth=>(nC e c).bind λon=>(GS both on).bind λc=> .ret (s,c)
def Aq(x y:List Int)(c:Int):Nat->Pg (List Int×Int):=iter (λi r=>(gi (gt x i) (gt y i) r.2).bind λs=> .ret (r.1++[s.1],s.2)) ([],c)
def dp(x y:List Int)(c:Int):Pg (List Int×Int):=Aq x y c x.length
def wK(x:List Int)(bit:Int)(i:Nat):Nat->Pg (List Int):=iter (λj row=>(nC (gt x j) bit).bind λr=> .ret (row++[r])) (List.replicate i 0)
def wL(x y:List Int):Nat->Pg (List Int):=iter (λi out=>(wK x (gt y i) i (x.length-i)).bind λrow=>(dp out row 0).bind λr=> .ret r.1) (List.replicate x.length 0)
def qA(x:List Int)(k:Int):Int:=if 0<=k/\k<x.length then gt x k.toNat else 0
def kJ(up:Bool)(i j:Nat):Int:=if up then j-2^(min i 8) else j+2^(min i 8)
def za_(x:List Int)(bit:Int)(up:Bool)(i:Nat):Nat->Pg (List Int):=iter (λj out=>(GU bit (qA x (kJ up i j)) (gt x j)).bind λr=> .ret (out++[r])) []
def kK(x y:List Int)(up:Bool):Nat->Pg (List Int):=iter (λi x=>za_ x (gt y i) up i x.length) x
def il(l:List Int):Pg Int:=kn nC 1 l l.length
def bX(x y:List Int):Pg Int:=(dp x (bk y) 1).bind λr=> .ret (turn r.2)
def ru(x y:List Int):Pg Int:=(eA gU x y x.length).bind λl=>il (bk l)
def qB(op:Int)(a:List Int):Pg (List Int):=
 if op=1 then .ret (bk a)
 else if op=2 then (dp (bk a) (List.replicate a.length 0) 1).bind λr=> .ret r.1
 else if op=3 then (il a).bind λr=> .ret [r]
 else if op=4 then (il (bk a)).bind λr=> .ret [turn r]
 else if op=5 then (kn gU 0 a a.length).bind λr=> .ret [r]
 else .ret [turn (gt a 0)]
def dw(op:Int)(x y:List Int):Pg (List Int):=
 if op=11\/op=25 then eA nC x y x.length
 else if op=12\/op=26 then eA GS x y x.length
 else if op=13 then eA gU x y x.length
 else if op=14 then (dp x y 0).bind λr=> .ret r.1
 else if op=15 then (dp x (bk y) 1).bind λr=> .ret r.1
 else if op=16 then wL x y y.length
 else if op=17 then kK x y true y.length
 else if op=18 then kK x y false y.length
 else if op=19 then (ru x y).bind λr=> .ret [r]
 else if op=20 then (ru x y).bind λr=> .ret [turn r]
 else if op=21 then (bX x y).bind λr=> .ret [r]
 else if op=23 then (bX y x).bind λr=> .ret [r]
 else if op=22 then (bX y x).bind λr=> .ret [turn r]
 else (bX x y).bind λr=> .ret [turn r]
def jj(c:Int)(x y:List Int):Pg (List Int):=eA (λp q=>GU c p q) x y x.length
def ff(op w:Int)(a:List Int):List Int:=
 if op=33 then a.take w.toNat else a++List.replicate (w.toNat-a.length) (if op=32 then gt a (a.length-1) else 0)
def gl(w v:Int):List Int:=(List.range w.toNat).map λi=>v/2^i%2
def df(g:Aig)(a:List Int):Bool:=decide (0<a.length)&&decide (a.length<=64)&&a.all g.lit
def zG:Aig:=⟨0,[],[],[]⟩
def cw(r:List Int×Bu):Aig×List Int×Int:=if r.2.e≠0 then (zG,[],r.2.e) else (r.2.g,r.1,0)
def jB(g:Aig)(may:Bool)(p:Pg (List Int)):Aig×List Int×Int:=
 if g.check≠0 then (zG,[],g.check) else if may=false then (zG,[],1) else cw (p.run ⟨g,0⟩)
def ry(g:Aig)(op:Int)(a:List Int):Bool:=df g a&&decide (1<=op/\op<=6/\(op≠6\/a.length=1))
def kL(g:Aig)(op:Int)(a b:List Int):Bool:=df g a&&df g b&&decide (11<=op/\op<=26/\(op=17\/op=18\/(a.length=b.length/\(op<25\/a.length=1))))
def GV(g:Aig)(c:Int)(a b:List Int):Bool:=df g a&&df g b&&df g [c]&&decide (a.length=b.length)
def mu(g:Aig)(op w:Int)(a:List Int):Bool:=df g a&&decide (1<=w/\w<=64/\31<=op/\op<=33/\(w=a.length\/(w<a.length↔op=33)))
def Un(g:Aig)(op:Int)(a:List Int):=jB g (ry g op a) (qB op a)
def GW(g:Aig)(op:Int)(a b:List Int):=jB g (kL g op a b) (dw op a b)
def M0(g:Aig)(c:Int)(a b:List Int):=jB g (GV g c a b) (jj c a b)
def Ext(g:Aig)(op w:Int)(a:List Int):=jB g (mu g op w a) (.ret (ff op w a))
end Fil.Bl
namespace Fil.Bl
open Abs
structure Ok(g:Aig):Prop where
 wf:Wf g
 chk:g.check=0
theorem Ok.fine{g:Aig}(h:Ok g):Fine g:=dn h.wf h.chk
def Op.lits:Op->Int->Int->Int->List Int
 | .mux,x,y,z=>[x,y,z]
 |_,x,y,_=>[x,y]
theorem CW{g:Aig}(hs:Wf g)(o:Op)(x y z:Int):Res g 3 (o.lits x y z) (o.ap g x y z):=by
 have up:∀{l:List Int} {r:Aig×Int×Int},Res g 1 l r->Res g 3 l r:=λh=>by
  rcases h with ⟨h1,h2,h3,h4,h5,h6,h7⟩|h
  ·exact .inl ⟨h1,h2,h3,h4,h5,h6,by omega⟩
  ·exact .inr h
 cases o with
 |and=>exact up (GL hs x y)
 |or=>exact up (J2 hs x y)
 |xor=>exact x6 hs x y
 |mux=>exact x7 hs x y z
theorem qY{g:Aig}(hs:Wf g){o:Op}{x y z:Int}(h:(o.ap g x y z).2.2=0):Ok g/\Ok (o.ap g x y z).1/\Fil.Ext g (o.ap g x y z).1/\(o.ap g x y z).1.lit (o.ap g x y z).2.1=true/\(o.ap g x y z).1.ands.length<=g.ands.length+3/\∀a∈o.lits x y z,g.lit a=true:=by
 obtain⟨h1,h2,h3,h4,h5,h6,h7⟩:=(CW hs o x y z).check hs h;exact⟨⟨hs,h7⟩,⟨h2.toWf,h1⟩,h3,h4,h5,h6⟩
theorem J4{g:Aig}(hs:Wf g){inp st:List Bool}(l1:(inp.length:Int)=g.ins)(l2:st.length=g.flops.length){o:Op}{x y z:Int}(h:(o.ap g x y z).2.2=0):
  (o.ap g x y z).1.value (o.ap g x y z).2.1 inp st=o.ev (g.value x inp st) (g.value y inp st) (g.value z inp st):=by
 cases o with
 |and=>exact GO hs l1 l2 h
 |or=>exact J3 hs l1 l2 h
 |xor=>exact GP hs l1 l2 h
 |mux=>exact GQ hs l1 l2 h
theorem rz{g h:Aig}(hf:Fine g){inp st:List Bool}(l1:(inp.length:Int)=g.ins)(l2:st.length=g.flops.length)(hx:Fil.Ext g h){a:Int}(ha:g.lit a=true):h.value a inp st=g.value a inp st:=by
 have hb:(((inp++st).length+1:Nat):Int)=g.first:=by rw[List.length_append];unfold Aig.first;omega
 exact nL hf hb hx ha
theorem wM{g:Aig}{inp st:List Bool}{a:Int}(h:0<=a):g.value (turn a) inp st= !g.value a inp st:=fU h
theorem J5{g:Aig}(hs:Wf g)(o:Op)(x y z:Int):Wf (o.ap g x y z).1/\I64 (o.ap g x y z).2.1:=(CW hs o x y z).wf
theorem eK{b:Bu}(hs:Wf b.g)(o:Op)(x y z:Int):Wf (b.op o x y z).2.g/\I64 (b.op o x y z).1:=by
 unfold Bu.op;split
 ·exact⟨hs,by unfold I64;omega⟩
 split
 ·exact⟨hs,by unfold I64;omega⟩
 ·exact J5 hs o x y z
theorem wN{b:Bu}(o:Op)(x y z:Int)(h:(b.op o x y z).2.e=0):b.e=0/\(o.ap b.g x y z).2.2=0/\b.op o x y z=((o.ap b.g x y z).2.1,⟨(o.ap b.g x y z).1,0⟩):=by
 unfold Bu.op at h|-;split at h
 ·rename_i q;exact(q h).elim
 rename_i q
 split at h
 ·rename_i q2;exact(q2 h).elim
 rename_i q2
 rw[if_neg q,if_neg q2];exact⟨by omega,by omega,rfl⟩
theorem sK{α:Type}:∀(p:Pg α) (b:Bu),(p.run b).2.e=0->b.e=0
 | .ret a,b,h=>h
 | .op o x y z k,b,h=>(wN o x y z (sK _ _ h)).1
theorem wO{α:Type}:∀(p:Pg α) (b:Bu),Wf b.g->Ok b.g->(p.run b).2.e=0->Ok (p.run b).2.g/\Fil.Ext b.g (p.run b).2.g
 | .ret a,b,_,ho,h=>⟨ho, .refl _⟩
 | .op o x y z k,b,hs,ho,h=>by
  simp only[Pg.run] at h|-;obtain⟨h0,h1,h2⟩:=wN o x y z (sK _ _ h);obtain⟨k1,k2,k3,_⟩:=qY hs h1;rw[h2] at h|-;obtain⟨m1,m2⟩:=wO _ _ k2.wf k2 h;exact⟨m1,k3.trans m2⟩
def jk(W:Int->Prop)(V:Int->Bool){α:Type}:Pg α->(Nat->α->Prop)->Prop
 | .ret a,Q=>Q 0 a
 | .op o x y z k,Q=>(W x/\W y/\W z)/\∀r,W r->V r=o.ev (V x) (V y) (V z)->jk W V (k r) λn a=>Q (n+1) a
theorem aI{W:Int->Prop}{V:Int->Bool}{α:Type}:∀{p:Pg α} {Q Q':Nat->α->Prop},jk W V p Q->(∀n a,Q n a->Q' n a)->jk W V p Q'
 | .ret a,Q,Q',h,k=>k 0 a h
 | .op o x y z f,Q,Q',h,k=>⟨h.1,λr h1 h2=>aI (h.2 r h1 h2) λn a=>k (n+1) a⟩
theorem aS{W:Int->Prop}{V:Int->Bool}{α β:Type}{f:α->Pg β}:∀{p:Pg α} {Q:Nat->β->Prop},jk W V p (λn a=>jk W V (f a) λm b=>Q (n+m) b)->jk W V (p.bind f) Q
 | .ret a,Q,h=>by
  have h:jk W V (f a) (λm b=>Q (0+m) b):=h;exact aI h λn a q=>by rw[Nat.zero_add] at q;exact q
 | .op o x y z k, Q, h => ⟨h.1, λr h1 h2 => aS (aI (h.2 r h1 h2) λn a q => aI q λm b q => by
   have e:n+1+m=n+m+1:=by omega
   rw[e] at q;exact q)⟩
theorem x9{α:Type}{inp st:List Bool}{K:Aig}:∀(p:Pg α) (b:Bu) (Q:Nat->α->Prop),Wf b.g->(inp.length:Int)=b.g.ins->st.length=b.g.flops.length->(p.run b).2.e=0->Fil.Ext (p.run b).2.g K->
  jk (λa=>K.lit a=true) (λa=>K.value a inp st) p Q->∃n,Q n (p.run b).1/\(p.run b).2.g.ands.length<=b.g.ands.length+3*n
 | .ret a,b,Q,_,_,_,_,_,hq=>⟨0,hq,by simp[Pg.run]⟩
 | .op o x y z k,b,Q,hs,l1,l2,h,hx,hq=>by
  simp only[Pg.run] at h hx|-;obtain⟨h0,h1,h2⟩:=wN o x y z (sK _ _ h);obtain⟨k1,k2,k3,k4,k5,k6⟩:=qY hs h1;rw[h2] at h hx|-;obtain⟨m1,m2⟩:=wO _ _ k2.wf k2 h;have hv:=J4 hs l1 l2 h1;have e1:=k3.ins;have e2:=k3.flops;have hr:K.lit (o.ap b.g x y z).2.1=true:=(m2.trans hx).lit k4;have vx:∀a,b.g.lit a=true->K.value a inp st=b.g.value a inp st:=λa ha=>rz k1.fine l1 l2 (k3.trans (m2.trans hx)) ha;have vr:K.value (o.ap b.g x y z).2.1 inp st=(o.ap b.g x y z).1.value (o.ap b.g x y z).2.1 inp st:=rz k2.fine (by rw[e1];exact l1) (by rw[e2];exact l2) (m2.trans hx) k4
  have hev:K.value (o.ap b.g x y z).2.1 inp st=o.ev (K.value x inp st) (K.value y inp st) (K.value z inp st):=by
   rw[vr,hv];cases o with
   |mux=>rw[vx x (k6 x (by simp[Op.lits])),vx y (k6 y (by simp[Op.lits])),vx z (k6 z (by simp[Op.lits]))]
   |and=>simp only[Op.ev];rw[vx x (k6 x (by simp[Op.lits])),vx y (k6 y (by simp[Op.lits]))]
   |or=>simp only[Op.ev];rw[vx x (k6 x (by simp[Op.lits])),vx y (k6 y (by simp[Op.lits]))]
   |xor=>simp only[Op.ev];rw[vx x (k6 x (by simp[Op.lits])),vx y (k6 y (by simp[Op.lits]))]
  obtain⟨n,q1,q2⟩:=x9 (K:=K) (k (o.ap b.g x y z).2.1) ⟨(o.ap b.g x y z).1,0⟩ (λn a=>Q (n+1) a) k2.wf (by rw[e1];exact l1) (by rw[e2];exact l2) h hx (hq.2 _ hr hev);refine⟨n+1,q1,?_⟩;simp only at q2|-;omega
theorem L8{g:Aig}(h:Ok g){a:Int}(ha:a=0\/a=1):g.lit a=true:=by
 have:=h.fine.cnt
 have hc:0<=g.count:=by have:=h.fine.lo;unfold Aig.count;omega
 rw[Aig.lit,aU];omega
theorem Io{g:Aig}(h:Ok g){l:List Int}(hl:∀a∈l,a=0\/a=1):g.checkL g.check l=0:=bB.2 ⟨h.chk,λa ha=>L8 h (hl a ha)⟩
theorem rA:turn 0=1:=by decide
theorem rB:turn 1=0:=by decide
theorem mw{g:Aig}{x y:Int}(hx:x=0\/x=1)(hy:y=0\/y=1):g.andW 0 x y=(g,0,if x=1/\y=1 then 1 else 0):=by
 have m1:min (0:Int) 1=0:=by decide
 have m2:max (0:Int) 1=1:=by decide
 have m3:min (1:Int) 0=0:=by decide
 have m4:max (1:Int) 0=1:=by decide
 have m5:min (1:Int) 1=1:=by decide
 have m6:max (1:Int) 1=1:=by decide
 have m7:min (0:Int) 0=0:=by decide
 rcases hx with rfl|rfl<;>rcases hy with rfl|rfl<;>simp[Aig.andW,Aig.andO,rA,rB,m1,m2,m3,m4,m5,m6,m7]
theorem CX{g:Aig}{x y:Int}(hx:x=0\/x=1)(hy:y=0\/y=1):g.orW 0 x y=(g,0,if x=1\/y=1 then 1 else 0):=by
 unfold Aig.orW;have tx:turn x=0\/turn x=1:=by rcases hx with rfl|rfl<;>simp[rA,rB]
 have ty:turn y=0\/turn y=1:=by rcases hy with rfl|rfl<;>simp[rA,rB]
 rw[mw tx ty];rcases hx with rfl|rfl<;>rcases hy with rfl|rfl<;>simp[rA,rB]
def b2(b:Bool):Int:=if b then 1 else 0
theorem L9(b:Bool):b2 b=0\/b2 b=1:=by cases b<;>simp[b2]
theorem J6(b:Bool):decide (b2 b=1)=b:=by cases b<;>rfl
theorem CY{g:Aig}(h:Ok g){o:Op}{x y z:Int}(hx:x=0\/x=1)(hy:y=0\/y=1)(hz:z=0\/z=1):o.ap g x y z=(g,b2 (o.ev (decide (x=1)) (decide (y=1)) (decide (z=1))),0):=by
 have c2:g.checkL g.check [x,y]=0:=Io h (by simp[hx,hy]);have c3:g.checkL g.check [x,y,z]=0:=Io h (by simp[hx,hy,hz]);have tx:turn x=0\/turn x=1:=by rcases hx with rfl|rfl<;>simp[rA,rB]
 have ty:turn y=0\/turn y=1:=by rcases hy with rfl|rfl<;>simp[rA,rB]
 cases o with
 |and=>
  show g.And x y=_
  unfold Aig.And;rw[c2,mw hx hy,er rfl];rcases hx with rfl|rfl<;>rcases hy with rfl|rfl<;>rfl
 |or=>
  show g.Or x y=_
  unfold Aig.Or;rw[c2,CX hx hy,er rfl];rcases hx with rfl|rfl<;>rcases hy with rfl|rfl<;>rfl
 |xor=>
  show g.Xor x y=_
  unfold Aig.Xor Aig.pairs;rw[c2,mw hx ty];simp only
  rw[mw tx hy];simp only
  rw[CX (by split<;>simp) (by split<;>simp),er rfl]
  rcases hx with rfl|rfl<;>rcases hy with rfl|rfl<;>rfl
 |mux=>
  show g.Mux x y z=_
  unfold Aig.Mux Aig.pairs;rw[c3,mw hx hy];simp only
  rw[mw tx hz];simp only
  rw[CX (by split<;>simp) (by split<;>simp),er rfl]
  rcases hx with rfl|rfl<;>rcases hy with rfl|rfl<;>rcases hz with rfl|rfl<;>rfl
theorem rC{α:Type}:∀(p:Pg α) (b:Bu) (Q:Nat->α->Prop),b.e=0->Ok b.g->jk (λa=>a=0\/a=1) (λa=>decide (a=1)) p Q->(p.run b).2=b/\∃n,Q n (p.run b).1
 | .ret a,b,Q,_,_,h=>⟨rfl,0,h⟩
 | .op o x y z k,b,Q,he,ho,h=>by
  obtain⟨⟨hx,hy,hz⟩,hk⟩:=h
  have hop:b.op o x y z=(b2 (o.ev (decide (x=1)) (decide (y=1)) (decide (z=1))),b):=by
   unfold Bu.op;rw[if_neg (by omega),CY ho hx hy hz];simp only[ne_eq,not_true_eq_false,↓reduceIte];cases b;simp only at he;subst he;rfl
  simp only[Pg.run];rw[hop];obtain⟨h1,n,h2⟩:=rC (k _) b (λn a=>Q (n+1) a) he ho (hk _ (L9 _) (J6 _));exact⟨h1,n+1,h2⟩
end Fil.Bl
namespace Fil.Bl
open Abs
def aT:List Bool->Nat
 |[]=>0
 |b::l=>b.toNat+2*aT l
theorem dG:∀l,aT l<2^l.length
 |[]=>by simp[aT]
 |b::l=>by
  have:=dG l
  have hb:b.toNat<=1:=Bool.toNat_le b;simp only[aT,List.length_cons,Nat.pow_succ];omega
theorem toN_snoc(b:Bool):∀l,aT (l++[b])=aT l+2^l.length*b.toNat
 |[]=>by simp[aT]
 |a::l=>by
  simp only[List.cons_append,aT,toN_snoc b l,List.length_cons,Nat.pow_succ];have:2^l.length*2*b.toNat=2*(2^l.length*b.toNat):=by rw[Nat.mul_comm (2^l.length) 2,Nat.mul_assoc]
  omega
theorem j4:∀(l:List Bool) (i:Nat),(aT l).testBit i=l.getD i false
 |[],i=>by simp[aT]
 |b::l,0=>by
  rw[Nat.testBit_zero];cases b<;>simp[aT]
 |b::l,i+1=>by
  have hb:b.toNat<=1:=Bool.toNat_le b;rw[Nat.testBit_succ];have:aT (b::l)/2=aT l:=by simp only[aT];omega
  rw[this,j4 l i];rfl
theorem lq:∀n,aT (List.replicate n false)=0
 |0=>rfl
 |n+1=>by simp[List.replicate_succ,aT,lq n]
theorem wP{l:List Bool}{n:Nat}(h:∀i,n.testBit i=l.getD i false):aT l=n:=Nat.eq_of_testBit_eq λi=>by rw[j4,h]
theorem lr:∀(l m:List Bool),aT (l++m)=aT l+2^l.length*aT m
 |[],m=>by simp[aT]
 |a::l,m=>by
  simp only[List.cons_append,aT,lr l m,List.length_cons,Nat.pow_succ];have:2^l.length*2*aT m=2*(2^l.length*aT m):=by rw[Nat.mul_comm (2^l.length) 2,Nat.mul_assoc]
  omega
theorem po(l:List Bool)(i:Nat):aT (l.take i)=aT l%2^i:=by
 refine wP λj=>?_;rw[Nat.testBit_mod_two_pow,j4];by_cases h:j<i
 ·simp[List.getD_eq_getElem?_getD,List.getElem?_take,h]
 ·simp[List.getD_eq_getElem?_getD,List.getElem?_take,h]
theorem j5:∀l:List Bool,aT (l.map (!·))+aT l+1=2^l.length
 |[]=>rfl
 |b::l=>by
  have:=j5 l
  simp only[List.map_cons,aT,List.length_cons,Nat.pow_succ];cases b<;>simp only[Bool.not_true,Bool.not_false,Bool.toNat_true,Bool.toNat_false]<;>omega
theorem um{l:List Bool}:aT l=0↔∀b∈l,b=false:=by
 induction l with
 |nil=>simp[aT]
 |cons a l ih=>
  simp only[aT,List.mem_cons,forall_eq_or_imp,<-ih];cases a<;>simp only[Bool.toNat_true,Bool.toNat_false,reduceCtorEq,true_and,false_and,iff_false]<;>omega
structure Lits(W:Int->Prop)(V:Int->Bool):Prop where
 w0:W 0
 w1:W 1
 v0:V 0=false
 v1:V 1=true
 wt:∀a,W a->W (turn a)
 vt:∀a,W a->V (turn a)= !V a
def Ws(W:Int->Prop)(l:List Int):Prop:=∀a∈l,W a
theorem lu{l:List Int}{i:Nat}(h:i<l.length):gt l i=l[i]:=by simp[gt,List.getD_eq_getElem?_getD,h]
theorem gD{l:List Int}{i:Nat}(h:l.length<=i):gt l i=0:=by simp[gt,List.getD_eq_getElem?_getD,h]
theorem pp{l:List Int}{r:Int}{j:Nat}(h:j<l.length):gt (l++[r]) j=gt l j:=by
 rw[lu (by simp;omega),lu h,List.getElem_append_left h]
theorem pq(l:List Int)(r:Int):gt (l++[r]) l.length=r:=by
 rw[lu (by simp)];simp
theorem gp{l:List Int}{i:Nat}(h:i<l.length):l.take (i+1)=l.take i++[gt l i]:=by
 rw[lu h,List.take_add_one,List.getElem?_eq_getElem h];rfl
section
variable {W : Int -> Prop} {V : Int -> Bool} (L : Lits W V)
include L
theorem my{l:List Int}(h:Ws W l)(i:Nat):W (gt l i):=by
 rcases Nat.lt_or_ge i l.length with q|q
 ·rw[lu q];exact h _ (List.getElem_mem q)
 ·rw[gD q];exact L.w0
theorem Ma(l:List Int)(i:Nat):(l.map V).getD i false=V (gt l i):=by
 rcases Nat.lt_or_ge i l.length with q|q
 ·rw[lu q];simp[List.getD_eq_getElem?_getD,q]
 ·rw[gD q,L.v0];simp[List.getD_eq_getElem?_getD,q]
theorem fj(l:List Int)(i:Nat):(aT (l.map V)).testBit i=V (gt l i):=by rw[j4,Ma L]
omit L in
theorem nM{l:List Int}{r:Int}(h:Ws W l)(hr:W r):Ws W (l++[r]):=λa ha=>by
 rcases List.mem_append.1 ha with h'|h'
 ·exact h a h'
 ·rw[List.mem_singleton] at h';subst h';exact hr
theorem ws_not{l:List Int}(h:Ws W l):Ws W (bk l):=λa ha=>by
 obtain⟨x,hx,rfl⟩:=List.mem_map.1 ha;exact L.wt x (h x hx)
theorem iG{l:List Int}(h:Ws W l):(bk l).map V=(l.map V).map (!·):=by
 unfold bk;rw[List.map_map,List.map_map];exact List.map_congr_left λx hx=>L.vt x (h x hx)
theorem wQ(n:Nat):Ws W (List.replicate n 0):=λa ha=>by rw[(List.mem_replicate.1 ha).2];exact L.w0
theorem pr(n:Nat):(List.replicate n (0:Int)).map V=List.replicate n false:=by rw[List.map_replicate,L.v0]
theorem wR{x y:Int}(hx:W x)(hy:W y):jk W V (nC x y) (λn r=>n=1/\W r/\V r=(V x&&V y)):=⟨⟨hx,hy,L.w0⟩,λ_ h1 h2=>⟨rfl,h1,h2⟩⟩
theorem Mb{x y:Int}(hx:W x)(hy:W y):jk W V (GS x y) (λn r=>n=1/\W r/\V r=(V x||V y)):=⟨⟨hx,hy,L.w0⟩,λ_ h1 h2=>⟨rfl,h1,h2⟩⟩
theorem wS{x y:Int}(hx:W x)(hy:W y):jk W V (gU x y) (λn r=>n=1/\W r/\V r=(V x != V y)):=⟨⟨hx,hy,L.w0⟩,λ_ h1 h2=>⟨rfl,h1,h2⟩⟩
omit L in
theorem CZ{c x y:Int}(hc:W c)(hx:W x)(hy:W y):jk W V (GU c x y) (λn r=>n=1/\W r/\V r=if V c then V x else V y):=⟨⟨hc,hx,hy⟩,λ_ h1 h2=>⟨rfl,h1,h2⟩⟩
omit L in
theorem eY{α:Type}{f:Nat->α->Pg α}{a:α}(I:Nat->Nat->α->Prop)(h0:I 0 0 a):∀N,(∀i n x,i<N->I i n x->jk W V (f i x) (λm y=>I (i+1) (n+m) y))->jk W V (iter f a N) (I N)
 |0,_=>h0
 |N+1,h=>aS (aI (eY I h0 N λi n x hi=>h i n x (by omega)) λn x hx=>h N n x (by omega) hx)
theorem wT{f:Int->Int->Pg Int}{fb:Bool->Bool->Bool}(hf:∀p q,W p->W q->jk W V (f p q) (λn r=>n=1/\W r/\V r=fb (V p) (V q))){x y:List Int}(hx:Ws W x)(hy:Ws W y)(N:Nat):
  jk W V (eA f x y N) (λn out=>n=N/\Ws W out/\out.length=N/\∀j,j<N->V (gt out j)=fb (V (gt x j)) (V (gt y j))):=by
 refine eY (λi n (out:List Int)=>n=i/\Ws W out/\out.length=i/\∀j,j<i->V (gt out j)=fb (V (gt x j)) (V (gt y j))) ⟨rfl,λa ha=>by simp at ha,rfl,λj hj=>by omega⟩ N λi n out hi ⟨h1,h2,h3,h4⟩=>?_;refine aS (aI (hf _ _ (my L hx i) (my L hy i)) ?_);rintro m r ⟨rfl,hr,hv⟩;refine⟨by omega,nM h2 hr,by rw[List.length_append,h3];rfl,λj hj=>?_⟩;rcases Nat.lt_or_ge j i with q|q
 ·rw[pp (by omega)];exact h4 j q
 ·have e:j=out.length:=by omega
  subst e;rw[pq,hv,h3]
theorem ya{f:Int->Int->Pg Int}{fb:Bool->Bool->Bool}(hf:∀p q,W p->W q->jk W V (f p q) (λn r=>n=1/\W r/\V r=fb (V p) (V q))){a:Int}{l:List Int}(ha:W a)(hl:Ws W l):
  ∀N,N<=l.length->jk W V (kn f a l N) (λn r=>n=N/\W r/\V r=((l.take N).map V).foldl fb (V a)):=λN hN=>by
 refine eY (λi n (r:Int)=>n=i/\W r/\V r=((l.take i).map V).foldl fb (V a)) ⟨rfl,ha,by simp⟩ N λi n r hi ⟨h1,h2,h3⟩=>?_;refine aI (hf _ _ h2 (my L hl i)) ?_;rintro m r' ⟨rfl,hr,hv⟩;refine⟨by omega,hr,?_⟩;rw[gp (by omega),List.map_append,List.foldl_append,hv,h3];rfl
theorem GX{p q c:Int}(hp:W p)(hq:W q)(hc:W c):jk W V (gi p q c) (λn r=>n=5/\W r.1/\W r.2/\(V r.1).toNat+2*(V r.2).toNat=(V p).toNat+(V q).toNat+(V c).toNat):=by
 refine⟨⟨hp,hq,L.w0⟩,λe he ve=>⟨⟨he,hc,L.w0⟩,λs hs vs=>⟨⟨hp,hq,L.w0⟩,λb hb vb=>⟨⟨he,hc,L.w0⟩,λo ho vo=>⟨⟨hb,ho,L.w0⟩,λk hk vk=>⟨rfl,hs,hk,?_⟩⟩⟩⟩⟩⟩;simp only[Op.ev] at ve vs vb vo vk;rw[vs,vk,vb,vo,ve];cases V p<;>cases V q<;>cases V c<;>rfl
theorem J7{x y:List Int}{c:Int}(hx:Ws W x)(hy:Ws W y)(hc:W c)(N:Nat)(h1:N<=x.length)(h2:N<=y.length):
  jk W V (Aq x y c N) (λn r=>n=5*N/\Ws W r.1/\W r.2/\r.1.length=N/\aT (r.1.map V)+2^N*(V r.2).toNat=aT ((x.take N).map V)+aT ((y.take N).map V)+(V c).toNat):=by
 refine eY (λi n (r:List Int×Int)=>n=5*i/\Ws W r.1/\W r.2/\r.1.length=i/\aT (r.1.map V)+2^i*(V r.2).toNat=aT ((x.take i).map V)+aT ((y.take i).map V)+(V c).toNat)
  ⟨rfl,λa ha=>by simp at ha,hc,rfl,by simp[aT]⟩ N λi n r hi ⟨k1,k2,k3,k4,k5⟩=>?_
 refine aS (aI (GX L (my L hx i) (my L hy i) k3) ?_);rintro m s ⟨rfl,m1,m2,m3⟩;refine⟨by omega,nM k2 m1,m2,by rw[List.length_append,k4];rfl,?_⟩;simp only
 rw[gp (by omega),gp (l:=y) (by omega),List.map_append,List.map_append,List.map_append];simp only[List.map_cons,List.map_nil];rw[toN_snoc,toN_snoc,toN_snoc,List.length_map,k4,List.length_map,List.length_map,List.length_take,List.length_take,Nat.min_eq_left (by omega),Nat.min_eq_left (by omega),Nat.pow_succ,Nat.mul_assoc];have h3:=congrArg (2^i*·) m3;simp only[Nat.mul_add] at h3;omega
theorem lw{x y:List Int}{c:Int}(hx:Ws W x)(hy:Ws W y)(hc:W c)(hl:y.length=x.length):
  jk W V (dp x y c) (λn r=>n=5*x.length/\Ws W r.1/\W r.2/\r.1.length=x.length/\aT (r.1.map V)+2^x.length*(V r.2).toNat=aT (x.map V)+aT (y.map V)+(V c).toNat):=by
 refine aI (J7 L hx hy hc x.length (Nat.le_refl _) (by omega)) ?_;rintro n r ⟨k1,k2,k3,k4,k5⟩;rw[List.take_of_length_le (by omega),List.take_of_length_le (by omega)] at k5;exact⟨k1,k2,k3,k4,k5⟩
theorem J8{x:List Int}{bit:Int}(hx:Ws W x)(hb:W bit)(i N:Nat)(hN:N<=x.length):
  jk W V (wK x bit i N) (λn row=>n=N/\Ws W row/\row.length=i+N/\aT (row.map V)=2^i*(aT ((x.take N).map V)*(V bit).toNat)):=by
 refine eY (λj n (row:List Int)=>n=j/\Ws W row/\row.length=i+j/\aT (row.map V)=2^i*(aT ((x.take j).map V)*(V bit).toNat))
  ⟨rfl,wQ L i,by simp,by rw[pr L,lq];simp[aT]⟩ N λj n row hj ⟨k1,k2,k3,k4⟩=>?_
 refine aS (aI (wR L (my L hx j) hb) ?_);rintro m r ⟨rfl,m1,m2⟩;refine⟨by omega,nM k2 m1,by rw[List.length_append,k3];simp only[List.length_cons,List.length_nil];omega,?_⟩;rw[gp (by omega),List.map_append,List.map_append];simp only[List.map_cons,List.map_nil];rw[toN_snoc,toN_snoc,List.length_map,List.length_map,k3,List.length_take,Nat.min_eq_left (by omega),k4,m2,Nat.pow_add];cases V bit<;>cases V (gt x j)<;>simp[Nat.mul_add]
theorem J9{x y:List Int}(hx:Ws W x)(hy:Ws W y):∀N,N<=y.length->N<=x.length->
  jk W V (wL x y N) (λn out=>n<=6*x.length*N/\Ws W out/\out.length=x.length/\aT (out.map V)=aT (x.map V)*aT ((y.take N).map V)%2^x.length):=λN h1 h2=>by
 refine eY (λi n (out:List Int)=>n<=6*x.length*i/\Ws W out/\out.length=x.length/\aT (out.map V)=aT (x.map V)*aT ((y.take i).map V)%2^x.length)
  ⟨by simp,wQ L _,by simp,by rw[pr L,lq];simp[aT]⟩ N λi n out hi ⟨k1,k2,k3,k4⟩=>?_
 refine aS (aI (J8 L hx (my L hy i) i (x.length-i) (by omega)) ?_);rintro m row ⟨rfl,m1,m2,m3⟩;refine aS (aI (lw L k2 m1 L.w0 (by omega)) ?_);rintro m' r ⟨rfl,q1,q2,q3,q4⟩;refine⟨?_,q1,by omega,?_⟩
 ·have e:6*x.length*(i+1)=6*x.length*i+6*x.length:=by rw[Nat.mul_add,Nat.mul_one]
  omega
 ·have hlt:=dG (r.1.map V);rw[List.length_map,q3,k3] at hlt;rw[k3,L.v0] at q4
  have e1:aT (r.1.map V)=(aT (out.map V)+aT (row.map V))%2^x.length:=by
   have:aT (out.map V)+aT (row.map V)=aT (r.1.map V)+2^x.length*(V r.2).toNat:=by simp only[Bool.toNat_false] at q4;omega
   rw[this,Nat.add_mul_mod_self_left,Nat.mod_eq_of_lt hlt]
  have e2:aT (row.map V)%2^x.length=2^i*(aT (x.map V)*(V (gt y i)).toNat)%2^x.length:=by
   have hp:2^x.length=2^i*2^(x.length-i):=by rw[<-Nat.pow_add];congr 1;omega
   rw[m3,List.map_take,po];cases V (gt y i)
   ·simp
   ·simp only[Bool.toNat_true,Nat.mul_one];rw[hp,Nat.mul_mod_mul_left,Nat.mul_mod_mul_left,Nat.mod_mod]
  rw[e1,k4,Nat.add_mod,Nat.mod_mod,e2,<-Nat.add_mod,gp (by omega),List.map_append];simp only[List.map_cons,List.map_nil];rw[toN_snoc,List.length_map,List.length_take,Nat.min_eq_left (by omega),Nat.mul_add];congr 2
  rw[<-Nat.mul_assoc,<-Nat.mul_assoc,Nat.mul_comm (aT (x.map V)) (2^i)]
theorem Mc{x:List Int}(hx:Ws W x)(k:Int):W (qA x k):=by
 unfold qA;split
 ·exact my L hx _
 ·exact L.w0
theorem Ar{x:List Int}{bit:Int}(hx:Ws W x)(hb:W bit)(up:Bool)(i:Nat)(N:Nat):
  jk W V (za_ x bit up i N) (λn out=>n=N/\Ws W out/\out.length=N/\∀j,j<N->V (gt out j)=if V bit then V (qA x (kJ up i j)) else V (gt x j)):=by
 refine eY (λj n (out:List Int)=>n=j/\Ws W out/\out.length=j/\∀k,k<j->V (gt out k)=if V bit then V (qA x (kJ up i k)) else V (gt x k)) ⟨rfl,λa ha=>by simp at ha,rfl,λj hj=>by omega⟩ N λj n out hj ⟨h1,h2,h3,h4⟩=>?_;refine aS (aI (CZ hb (Mc L hx _) (my L hx j)) ?_);rintro m r ⟨rfl,hr,hv⟩;refine⟨by omega,nM h2 hr,by rw[List.length_append,h3];rfl,λk hk=>?_⟩;rcases Nat.lt_or_ge k j with q|q
 ·rw[pp (by omega)];exact h4 k q
 ·have e:k=out.length:=by omega
  subst e;rw[pq,hv,h3]
theorem Ka{x:List Int}{i j:Nat}:V (qA x (kJ true i j))=(decide (2^(min i 8)<=j)&&(aT (x.map V)).testBit (j-2^(min i 8)))\/x.length<=j:=by
 rcases Nat.lt_or_ge j x.length with q|q
 ·refine .inl ?_;obtain⟨f,hf⟩:∃f,2^(min i 8)=f:=⟨_,rfl⟩;have hf':(2:Int)^(min i 8)=(f:Int):=by rw[<-hf];simp
  unfold qA kJ;simp only[↓reduceIte];rw[hf,hf',fj L];by_cases h:f<=j
  ·have e:((j:Int)-f).toNat=j-f:=by omega
   rw[if_pos (by omega),e];simp[h]
  ·rw[if_neg (by omega),L.v0];simp[h]
 ·exact .inr q
theorem C0{x:List Int}{i j:Nat}:V (qA x (kJ false i j))=(aT (x.map V)).testBit (j+2^(min i 8)):=by
 obtain⟨f,hf⟩:∃f,2^(min i 8)=f:=⟨_,rfl⟩;have hf':(2:Int)^(min i 8)=(f:Int):=by rw[<-hf];simp
 unfold qA kJ;simp only[Bool.false_eq_true,↓reduceIte];rw[hf,hf',fj L];by_cases h:j+f<x.length
 ·have e:((j:Int)+f).toNat=j+f:=by omega
  rw[if_pos (by omega),e]
 ·rw[if_neg (by omega),L.v0,gD (by omega),L.v0]
theorem wU{x out:List Int}{bit:Int}{up:Bool}{i:Nat}(hl:out.length=x.length)(hx64:x.length<=64)(h:∀j,j<x.length->V (gt out j)=if V bit then V (qA x (kJ up i j)) else V (gt x j)):
  aT (out.map V)=if V bit then (if up then aT (x.map V)*2^(2^i)%2^x.length else aT (x.map V)/2^(2^i)) else aT (x.map V):=by
 have hxlt:=dG (x.map V);rw[List.length_map] at hxlt
 have hmin:2^(min i 8)=2^i\/(x.length<=2^(min i 8)/\x.length<=2^i):=by
  rcases Nat.lt_or_ge i 8 with q|q
  ·exact .inl (by rw[Nat.min_eq_left (by omega)])
  ·refine .inr ⟨?_,?_⟩
   ·rw[Nat.min_eq_right (by omega)];omega
   ·have:=Nat.pow_le_pow_right (n:=2) (by omega) q;omega
 refine wP λj=>?_;rw[Ma L];rcases Nat.lt_or_ge j x.length with q|q
 ·rw[h j q];cases hb:V bit
  ·simp only[Bool.false_eq_true,↓reduceIte];rw[fj L]
  ·simp only[↓reduceIte];cases up
   ·simp only[Bool.false_eq_true,↓reduceIte];rw[C0 L,Nat.testBit_div_two_pow];rcases hmin with e|⟨e1,e2⟩
    ·rw[e]
    ·rw[fj L,fj L,gD (by omega),gD (by omega)]
   ·simp only[↓reduceIte];have:=(Ka L (x:=x) (i:=i) (j:=j)).resolve_right (by omega)
    rw[this,Nat.testBit_mod_two_pow,Nat.testBit_mul_two_pow];rcases hmin with e|⟨e1,e2⟩
    ·rw[e];simp[q]
    ·have n1:¬2^(min i 8)<=j:=by omega
     have n2:¬2^i<=j:=by omega
     simp[n1,n2]
 ·rw[gD (by omega),L.v0];have hlt:∀n,n<2^x.length->n.testBit j=false:=λn hn=>Nat.testBit_lt_two_pow (Nat.lt_of_lt_of_le hn (Nat.pow_le_pow_right (by omega) q));refine hlt _ ?_;split
  ·split
   ·exact Nat.mod_lt _ (Nat.two_pow_pos _)
   ·exact Nat.lt_of_le_of_lt (Nat.div_le_self _ _) hxlt
  ·exact hxlt
theorem pt{x y:List Int}(hx:Ws W x)(hy:Ws W y)(up:Bool)(hx64:x.length<=64)(N:Nat)(hN:N<=y.length):
  jk W V (kK x y up N) (λn out=>n=x.length*N/\Ws W out/\out.length=x.length/\
   aT (out.map V)=if up then aT (x.map V)*2^aT ((y.take N).map V)%2^x.length else aT (x.map V)/2^aT ((y.take N).map V)):=by
 have hxlt:=dG (x.map V);rw[List.length_map] at hxlt
 refine eY (λi n (out:List Int)=>n=x.length*i/\Ws W out/\out.length=x.length/\
   aT (out.map V)=if up then aT (x.map V)*2^aT ((y.take i).map V)%2^x.length else aT (x.map V)/2^aT ((y.take i).map V))
  ⟨by simp,hx,rfl,by cases up<;>simp[aT,Nat.mod_eq_of_lt hxlt]⟩ N λi n out hi ⟨k1,k2,k3,k4⟩=>?_
 refine aI (Ar L k2 (my L hy i) up i out.length) ?_;rintro m out' ⟨rfl,m1,m2,m3⟩;refine⟨by rw[k1,k3,Nat.mul_add,Nat.mul_one],m1,by omega,?_⟩;rw[wU L m2 (by omega) m3,gp (by omega),List.map_append];simp only[List.map_cons,List.map_nil];rw[toN_snoc,List.length_map,List.length_take,Nat.min_eq_left (by omega),k3,k4,Nat.pow_add];cases V (gt y i)
 ·simp
 ·simp only[↓reduceIte,Bool.toNat_true,Nat.mul_one];cases up
  ·simp only[Bool.false_eq_true,↓reduceIte];rw[Nat.div_div_eq_div_mul]
  ·simp only[↓reduceIte];rw[Nat.mod_mul_mod,Nat.mul_assoc]
end
end Fil.Bl
namespace Fil.Bl
open Abs
def n1(p:Prop)[Decidable p]:Nat:=if p then 1 else 0
def Kb(a:Nat):Bool:=(List.range 64).foldl (λb i=>b != a.testBit i) false
def wV(op:Int)(w a:Nat):Nat×Nat:=
 if op=1 then (w,2^w-1-a)
 else if op=2 then (w,(2^w-a)%2^w)
 else if op=3 then (1,n1 (a=2^w-1))
 else if op=4 then (1,n1 (a≠0))
 else if op=5 then (1,(Kb a).toNat)
 else (1,n1 (a=0))
def qC(op:Int)(w a b:Nat):Nat×Nat:=
 if op=11 then (w,a&&& b)
 else if op=12 then (w,a|||b)
 else if op=13 then (w,a ^^^ b)
 else if op=14 then (w,(a+b)%2^w)
 else if op=15 then (w,(a+(2^w-b))%2^w)
 else if op=16 then (w,a*b%2^w)
 else if op=17 then (w,a*2^b%2^w)
 else if op=18 then (w,a/2^b)
 else if op=19 then (1,n1 (a=b))
 else if op=20 then (1,n1 (a≠b))
 else if op=21 then (1,n1 (a<b))
 else if op=22 then (1,n1 (a<=b))
 else if op=23 then (1,n1 (b<a))
 else if op=24 then (1,n1 (b<=a))
 else if op=25 then (1,n1 (a=1/\b=1))
 else (1,n1 (a=1\/b=1))
theorem rD:∀(l:List Bool) (b:Bool),l.foldl (·&&·) b=(b&&l.all id)
 |[],b=>by simp
 |a::l,b=>by simp only[List.foldl_cons,rD l,List.all_cons,id,Bool.and_assoc]
theorem pu:∀(k:Nat) (l:List Bool) (b:Bool),l.length<=k->(List.range k).foldl (λb i=>b != l.getD i false) b=l.foldl (· != ·) b
 |0,l,b,h=>by
  have:l=[]:=List.length_eq_zero_iff.1 (by omega)
  subst this;rfl
 |k+1,[],b,_=>by
  have:=pu k [] b (by simp)
  rw[List.range_succ,List.foldl_append,this];simp
 |k+1,a::l,b,h=>by
  have:=pu k l (b != a) (by simpa using h)
  rw[List.range_succ_eq_map,List.foldl_cons,List.foldl_map,List.foldl_cons];simp only[List.getD_cons_zero,List.getD_cons_succ];exact this
theorem C2{l:List Bool}(h:l.length<=64):l.foldl (· != ·) false=Kb (aT l):=by
 unfold Kb;rw[<-pu 64 l false h];congr 1
 funext b i
 rw[j4]
theorem jC{l:List Bool}:l.all id=decide (aT l=2^l.length-1):=by
 have h:=j5 l;rw[Bool.eq_iff_iff,decide_eq_true_eq,List.all_eq_true];have hz:=um (l:=l.map (!·));constructor
 ·intro k
  have:aT (l.map (!·))=0:=hz.2 λb hb=>by
   obtain⟨a,ha,rfl⟩:=List.mem_map.1 hb;have:=k a ha
   simp only[id] at this;simp[this]
  omega
 ·intro k a ha;have h2:=hz.1 (by have:=Nat.two_pow_pos l.length;omega) (!a) (List.mem_map_of_mem ha);simpa using h2
theorem C3(b:Bool):aT [b]=b.toNat:=by simp[aT]
theorem dH(p:Prop)[Decidable p]:(decide p).toNat=n1 p:=by unfold n1;by_cases h:p<;>simp[h]
section
variable {W : Int -> Prop} {V : Int -> Bool} (L : Lits W V)
include L
theorem wX{l:List Int}(hl:Ws W l):jk W V (il l) (λn r=>n=l.length/\W r/\V r=decide (aT (l.map V)=2^l.length-1)):=by
 refine aI (ya L (fb:=(·&&·)) (λp q hp hq=>wR L hp hq) L.w1 hl l.length (Nat.le_refl _)) ?_;rintro n r ⟨h1,h2,h3⟩;refine⟨h1,h2,?_⟩;rw[h3,List.take_of_length_le (Nat.le_refl _),rD,L.v1,Bool.true_and,jC,List.length_map]
theorem nN{x y:List Int}(hx:Ws W x)(hy:Ws W y)(hl:y.length=x.length):jk W V (bX x y) (λn r=>n=5*x.length/\W r/\V r=decide (aT (x.map V)<aT (y.map V))):=by
 refine aS (aI (lw L hx (ws_not L hy) L.w1 (by unfold bk;rw[List.length_map,hl])) ?_);rintro n r ⟨h1,h2,h3,h4,h5⟩;refine⟨by omega,L.wt _ h3,?_⟩;rw[L.vt _ h3];rw[iG L hy,L.v1] at h5;have hn:=j5 (y.map V);rw[List.length_map,hl] at hn;have hlt:=dG (r.1.map V);rw[List.length_map,h4] at hlt;have hx':=dG (x.map V);rw[List.length_map] at hx';simp only[Bool.toNat_true] at h5;cases hc:V r.2
 ·rw[hc] at h5;simp only[Bool.toNat_false,Nat.mul_zero] at h5;rw[decide_eq_true (by omega)];rfl
 ·rw[hc] at h5;simp only[Bool.toNat_true,Nat.mul_one] at h5;rw[decide_eq_false (by omega)];rfl
theorem Ip{x y:List Int}(hx:Ws W x)(hy:Ws W y)(hl:y.length=x.length):jk W V (ru x y) (λn r=>n=2*x.length/\W r/\V r=decide (aT (x.map V)=aT (y.map V))):=by
 refine aS (aI (wT L (fb:=(· != ·)) (λp q hp hq=>wS L hp hq) hx hy x.length) ?_);rintro n l ⟨h1,h2,h3,h4⟩;refine aI (wX L (ws_not L h2)) ?_;rintro m r ⟨k1,k2,k3⟩;have e:(bk l).length=l.length:=by unfold bk;rw[List.length_map]
 rw[e] at k1 k3;refine⟨by omega,k2,?_⟩;rw[k3,iG L h2];have hn:=j5 (l.map V);rw[List.length_map] at hn;have hz:=um (l:=l.map V)
 have key:aT (l.map V)=0↔aT (x.map V)=aT (y.map V):=by
  rw[hz];constructor
  ·intro k;refine Nat.eq_of_testBit_eq λj=>?_;rw[fj L,fj L];rcases Nat.lt_or_ge j x.length with q|q
   ·have h5:=h4 j q;have h6:=k (V (gt l j)) (by rw[lu (by omega)];exact List.mem_map_of_mem (List.getElem_mem _));rw[h6] at h5;exact(show ∀a b:Bool,false=(a != b)->a=b by decide) _ _ h5
   ·rw[gD (by omega),gD (by omega)]
  ·intro k b hb;obtain⟨a,ha,rfl⟩:=List.mem_map.1 hb;obtain⟨j,hj,rfl⟩:=List.getElem_of_mem ha;have h5:=h4 j (by omega);rw[lu hj] at h5;have e1:=fj L x j;have e2:=fj L y j;rw[k,e2] at e1;rw[h5,e1];simp
 rw[Bool.eq_iff_iff,decide_eq_true_eq,decide_eq_true_eq,<-key];have:=Nat.two_pow_pos l.length
 omega
theorem Md{op:Int}{a:List Int}(ha:Ws W a)(h:1<=op/\op<=6)(hl:0<a.length)(hl2:a.length<=64)(h6:op=6->a.length=1):
  jk W V (qB op a) (λn out=>n<=5*a.length/\Ws W out/\(out.length,aT (out.map V))=wV op a.length (aT (a.map V))):=by
 have hlt:=dG (a.map V);rw[List.length_map] at hlt;have one:∀{r:Int},W r->Ws W [r]:=λhr x hx=>by rw[List.mem_singleton] at hx;subst hx;exact hr
 have hn:=j5 (a.map V);rw[List.length_map] at hn;unfold qB wV;by_cases o1:op=1
 ·rw[if_pos o1,if_pos o1];refine⟨by omega,ws_not L ha,?_⟩;rw[iG L ha];refine Prod.ext (by unfold bk;rw[List.length_map]) ?_;simp only;omega
 rw[if_neg o1,if_neg o1];by_cases o2:op=2
 ·rw[if_pos o2,if_pos o2];have hnl:(bk a).length=a.length:=by unfold bk;rw[List.length_map]
  refine aS (aI (lw L (ws_not L ha) (wQ L a.length) L.w1 (by rw[List.length_replicate,hnl])) ?_);rintro n r ⟨k1,k2,k3,k4,k5⟩;rw[hnl] at k1 k4 k5;rw[iG L ha,pr L,lq,L.v1] at k5;refine⟨by omega,k2,Prod.ext k4 ?_⟩;have hrl:=dG (r.1.map V);rw[List.length_map,k4] at hrl;simp only[Bool.toNat_true] at k5;show aT (r.1.map V)=(2^a.length-aT (a.map V))%2^a.length
  have e:2^a.length-aT (a.map V)=aT (r.1.map V)+2^a.length*(V r.2).toNat:=by omega
  rw[e,Nat.add_mul_mod_self_left,Nat.mod_eq_of_lt hrl]
 rw[if_neg o2,if_neg o2];by_cases o3:op=3
 ·rw[if_pos o3,if_pos o3];refine aS (aI (wX L ha) ?_);rintro n r ⟨k1,k2,k3⟩;refine⟨by omega,one k2,Prod.ext rfl ?_⟩;simp only[List.map_cons,List.map_nil];rw[C3,k3,dH]
 rw[if_neg o3,if_neg o3];by_cases o4:op=4
 ·rw[if_pos o4,if_pos o4];refine aS (aI (wX L (ws_not L ha)) ?_);rintro n r ⟨k1,k2,k3⟩;have hnl:(bk a).length=a.length:=by unfold bk;rw[List.length_map]
  refine⟨by omega,one (L.wt _ k2),Prod.ext rfl ?_⟩;simp only[List.map_cons,List.map_nil];rw[C3,L.vt _ k2,k3,iG L ha,hnl,<-dH,<-decide_not];congr 1
  rw[decide_eq_decide];omega
 rw[if_neg o4,if_neg o4];by_cases o5:op=5
 ·rw[if_pos o5,if_pos o5];refine aS (aI (ya L (fb:=(· != ·)) (λp q hp hq=>wS L hp hq) L.w0 ha a.length (Nat.le_refl _)) ?_);rintro n r ⟨k1,k2,k3⟩;refine⟨by omega,one k2,Prod.ext rfl ?_⟩;simp only[List.map_cons,List.map_nil];rw[C3,k3,List.take_of_length_le (Nat.le_refl _),L.v0,C2 (by rw[List.length_map];exact hl2)]
 rw[if_neg o5,if_neg o5];have h1:a.length=1:=h6 (by omega);have hw:=my L ha 0;refine⟨by omega,one (L.wt _ hw),Prod.ext rfl ?_⟩;simp only[List.map_cons,List.map_nil];have hb:=fj L a 0;rw[h1] at hlt;rw[C3,L.vt _ hw,<-hb,<-dH];have:aT (a.map V)=0\/aT (a.map V)=1:=by omega
 rcases this with e|e<;>rw[e]<;>rfl
theorem Kc{op:Int}{x y:List Int}(hx:Ws W x)(hy:Ws W y)(h:11<=op/\op<=26)(hx64:x.length<=64)(hl:op=17\/op=18\/(x.length=y.length/\(op<25\/x.length=1))):
  jk W V (dw op x y) (λn out=>n<=6*x.length*y.length+5*x.length/\Ws W out/\(out.length,aT (out.map V))=qC op x.length (aT (x.map V)) (aT (y.map V))):=by
 have hlt:=dG (x.map V);have hlt2:=dG (y.map V);rw[List.length_map] at hlt hlt2;have one:∀{r:Int},W r->Ws W [r]:=λhr x hx=>by rw[List.mem_singleton] at hx;subst hx;exact hr
 have zip:=fun{f:Int->Int->Pg Int} {fb:Bool->Bool->Bool} (hf:∀p q,W p->W q->jk W V (f p q) (λn r=>n=1/\W r/\V r=fb (V p) (V q)))=>wT L hf hx hy x.length
 have bits:∀{out:List Int} {fb:Bool->Bool->Bool} {N:Nat},out.length=x.length->(∀j,j<x.length->V (gt out j)=fb (V (gt x j)) (V (gt y j)))->fb false false=false->(∀j,N.testBit j=fb ((aT (x.map V)).testBit j) ((aT (y.map V)).testBit j))->x.length=y.length->aT (out.map V)=N:=fun{out fb N} h1 h2 h3 h4 h5=>by
  refine Nat.eq_of_testBit_eq λj=>?_;rw[fj L,h4,fj L,fj L];rcases Nat.lt_or_ge j x.length with q|q
  ·exact h2 j q
  ·rw[gD (by omega),gD (by omega),gD (by omega),L.v0,h3]
 have cnt:∀n:Nat,n<=5*x.length->n<=6*x.length*y.length+5*x.length:=λn hn=>by omega
 unfold dw;by_cases oz1:op=11\/op=25
 ·rw[if_pos oz1];have hlen:x.length=y.length:=by omega
  refine aI (zip (fb:=(·&&·)) λp q hp hq=>wR L hp hq) ?_;rintro n out ⟨k1,k2,k3,k4⟩;have hb:=bits (fb:=(·&&·)) (N:=aT (x.map V)&&& aT (y.map V)) k3 k4 rfl (λj=>Nat.testBit_and _ _ _) hlen;refine⟨cnt _ (by omega),k2,?_⟩;rw[hb,k3];rcases oz1 with rfl|rfl
  ·rfl
  ·have h1:x.length=1:=by omega
   have h2:y.length=1:=by omega
   rw[h1] at hlt;rw[h2] at hlt2;rw[h1];have ea:aT (x.map V)=0\/aT (x.map V)=1:=by omega
   have eb:aT (y.map V)=0\/aT (y.map V)=1:=by omega
   rcases ea with ea|ea<;>rcases eb with eb|eb<;>rw[ea,eb]<;>rfl
 rw[if_neg oz1];by_cases oz2:op=12\/op=26
 ·rw[if_pos oz2];have hlen:x.length=y.length:=by omega
  refine aI (zip (fb:=(·||·)) λp q hp hq=>Mb L hp hq) ?_
  rintro n out ⟨k1,k2,k3,k4⟩;have hb:=bits (fb:=(·||·)) (N:=aT (x.map V)|||aT (y.map V)) k3 k4 rfl (λj=>Nat.testBit_or _ _ _) hlen
  refine⟨cnt _ (by omega),k2,?_⟩;rw[hb,k3];rcases oz2 with rfl|rfl
  ·rfl
  ·have h1:x.length=1:=by omega
   have h2:y.length=1:=by omega
   rw[h1] at hlt;rw[h2] at hlt2;rw[h1];have ea:aT (x.map V)=0\/aT (x.map V)=1:=by omega
   have eb:aT (y.map V)=0\/aT (y.map V)=1:=by omega
   rcases ea with ea|ea<;>rcases eb with eb|eb<;>rw[ea,eb]<;>rfl
 rw[if_neg oz2];by_cases o13:op=13
 ·subst o13;rw[if_pos rfl];have hlen:x.length=y.length:=by omega
  refine aI (zip (fb:=(· != ·)) λp q hp hq=>wS L hp hq) ?_;rintro n out ⟨k1,k2,k3,k4⟩;have hb:=bits (fb:=(· != ·)) (N:=aT (x.map V) ^^^ aT (y.map V)) k3 k4 rfl (λj=>by rw[Nat.testBit_xor]) hlen;exact⟨cnt _ (by omega),k2,by rw[hb,k3];rfl⟩
 rw[if_neg o13];by_cases o14:op=14
 ·subst o14;rw[if_pos rfl];refine aS (aI (lw L hx hy L.w0 (by omega)) ?_);rintro n r ⟨k1,k2,k3,k4,k5⟩;rw[L.v0] at k5;refine⟨cnt _ (by omega),k2,?_⟩;have hrl:=dG (r.1.map V);rw[List.length_map,k4] at hrl;simp only[Bool.toNat_false,Nat.add_zero] at k5;have e:aT (r.1.map V)=(aT (x.map V)+aT (y.map V))%2^x.length:=by rw[<-k5,Nat.add_mul_mod_self_left,Nat.mod_eq_of_lt hrl]
  rw[k4,e];rfl
 rw[if_neg o14];by_cases o15:op=15
 ·subst o15;rw[if_pos rfl];refine aS (aI (lw L hx (ws_not L hy) L.w1 (by unfold bk;rw[List.length_map];omega)) ?_);rintro n r ⟨k1,k2,k3,k4,k5⟩;rw[iG L hy,L.v1] at k5;have hn:=j5 (y.map V);rw[List.length_map,show y.length=x.length by omega] at hn;refine⟨cnt _ (by omega),k2,?_⟩;have hrl:=dG (r.1.map V);rw[List.length_map,k4] at hrl;simp only[Bool.toNat_true] at k5;have e0:aT (x.map V)+(2^x.length-aT (y.map V))=aT (r.1.map V)+2^x.length*(V r.2).toNat:=by omega
  have e:aT (r.1.map V)=(aT (x.map V)+(2^x.length-aT (y.map V)))%2^x.length:=by rw[e0,Nat.add_mul_mod_self_left,Nat.mod_eq_of_lt hrl]
  rw[k4,e];rfl
 rw[if_neg o15];by_cases o16:op=16
 ·subst o16;rw[if_pos rfl];refine aI (J9 L hx hy y.length (Nat.le_refl _) (by omega)) ?_;rintro n out ⟨k1,k2,k3,k4⟩;rw[List.take_of_length_le (Nat.le_refl _)] at k4;exact⟨by omega,k2,by rw[k3,k4];rfl⟩
 rw[if_neg o16]
 have cnt2:x.length*y.length<=6*x.length*y.length+5*x.length:=by
  have:6*x.length*y.length=6*(x.length*y.length):=Nat.mul_assoc _ _ _
  omega
 by_cases o17:op=17
 ·subst o17;rw[if_pos rfl];refine aI (pt L hx hy true hx64 y.length (Nat.le_refl _)) ?_;rintro n out ⟨k1,k2,k3,k4⟩;rw[List.take_of_length_le (Nat.le_refl _)] at k4;exact⟨by omega,k2,by rw[k3,k4];rfl⟩
 rw[if_neg o17];by_cases o18:op=18
 ·subst o18;rw[if_pos rfl];refine aI (pt L hx hy false hx64 y.length (Nat.le_refl _)) ?_;rintro n out ⟨k1,k2,k3,k4⟩;rw[List.take_of_length_le (Nat.le_refl _)] at k4;exact⟨by omega,k2,by rw[k3,k4];rfl⟩
 rw[if_neg o18];have hlen:x.length=y.length:=by omega
 have res:∀{r:Int} {b:Bool} {N:Nat},V r=b->b.toNat=N->([r].length,aT ([r].map V))=(1,N):=fun{r b N} h1 h2=>by
  simp only[List.map_cons,List.map_nil,List.length_cons,List.length_nil];rw[C3,h1,h2]
 by_cases o19:op=19
 ·subst o19;rw[if_pos rfl];refine aS (aI (Ip L hx hy (by omega)) ?_);rintro n r ⟨k1,k2,k3⟩;exact⟨cnt _ (by omega),one k2,res k3 (dH _)⟩
 rw[if_neg o19];by_cases o20:op=20
 ·subst o20;rw[if_pos rfl];refine aS (aI (Ip L hx hy (by omega)) ?_);rintro n r ⟨k1,k2,k3⟩;exact⟨cnt _ (by omega),one (L.wt _ k2),res (by rw[L.vt _ k2,k3,<-decide_not]) (dH _)⟩
 rw[if_neg o20];by_cases o21:op=21
 ·subst o21;rw[if_pos rfl];refine aS (aI (nN L hx hy (by omega)) ?_);rintro n r ⟨k1,k2,k3⟩;exact⟨cnt _ (by omega),one k2,res k3 (dH _)⟩
 rw[if_neg o21];by_cases o23:op=23
 ·subst o23;rw[if_pos rfl];refine aS (aI (nN L hy hx (by omega)) ?_);rintro n r ⟨k1,k2,k3⟩;exact⟨cnt _ (by omega),one k2,res k3 (dH _)⟩
 rw[if_neg o23];by_cases o22:op=22
 ·subst o22;rw[if_pos rfl];refine aS (aI (nN L hy hx (by omega)) ?_);rintro n r ⟨k1,k2,k3⟩;refine⟨cnt _ (by omega),one (L.wt _ k2),res (b:=decide (aT (x.map V)<=aT (y.map V))) ?_ (dH _)⟩;rw[L.vt _ k2,k3,<-decide_not,decide_eq_decide];omega
 rw[if_neg o22];have o24:op=24:=by omega
 subst o24;refine aS (aI (nN L hx hy (by omega)) ?_);rintro n r ⟨k1,k2,k3⟩;refine⟨cnt _ (by omega),one (L.wt _ k2),res (b:=decide (aT (y.map V)<=aT (x.map V))) ?_ (dH _)⟩;rw[L.vt _ k2,k3,<-decide_not,decide_eq_decide];omega
theorem GY{c:Int}{x y:List Int}(hc:W c)(hx:Ws W x)(hy:Ws W y)(hl:x.length=y.length):
  jk W V (jj c x y) (λn out=>n<=x.length/\Ws W out/\out.length=x.length/\aT (out.map V)=if V c then aT (x.map V) else aT (y.map V)):=by
 refine aI (wT L (fb:=λa b=>if V c then a else b) (λp q hp hq=>CZ hc hp hq) hx hy x.length) ?_;rintro n out ⟨k1,k2,k3,k4⟩;refine⟨by omega,k2,k3,?_⟩;refine Nat.eq_of_testBit_eq λj=>?_;rw[fj L];rcases Nat.lt_or_ge j x.length with q|q
 ·rw[k4 j q];split<;>rw[fj L]
 ·rw[gD (by omega),L.v0];split
  ·rw[fj L,gD (by omega),L.v0]
  ·rw[fj L,gD (by omega),L.v0]
end
end Fil.Bl
namespace Fil.Bl
open Abs Go
theorem lx(n:Int)(h:0<=n)(h2:n<18446744073709551616):IntKind.u64.wrap n=n:=by
 simp[IntKind.wrap,IntKind.signed,IntKind.bits];omega
theorem gq(n:Int):IntKind.u64.wrap n=n%18446744073709551616:=by
 simp[IntKind.wrap,IntKind.signed,IntKind.bits]
theorem LA(a:Nat):(BitVec.ofInt 64 (a:Int)).toNat=a%18446744073709551616:=by
 rw[BitVec.toNat_ofInt];omega
theorem sL(a b:Nat)(ha:a<18446744073709551616)(hb:b<18446744073709551616):IntKind.u64.wrap ((BitVec.ofInt IntKind.u64.bits (a:Int)&&& BitVec.ofInt IntKind.u64.bits (b:Int)).toNat:Nat)=((a&&& b:Nat):Int):=by
 have e:(BitVec.ofInt 64 (a:Int)&&& BitVec.ofInt 64 (b:Int)).toNat=a&&& b:=by
  rw[BitVec.toNat_and,LA,LA,Nat.mod_eq_of_lt ha,Nat.mod_eq_of_lt hb]
 show IntKind.u64.wrap ((BitVec.ofInt 64 (a:Int)&&& BitVec.ofInt 64 (b:Int)).toNat:Nat)=_
 rw[e];have:=Nat.and_le_left (n:=a) (m:=b)
 exact lx _ (by omega) (by omega)
theorem MA(a b:Nat)(ha:a<18446744073709551616)(hb:b<18446744073709551616):IntKind.u64.wrap ((BitVec.ofInt IntKind.u64.bits (a:Int)|||BitVec.ofInt IntKind.u64.bits (b:Int)).toNat:Nat)=((a|||b:Nat):Int):=by
 have e:(BitVec.ofInt 64 (a:Int)|||BitVec.ofInt 64 (b:Int)).toNat=a|||b:=by
  rw[BitVec.toNat_or,LA,LA,Nat.mod_eq_of_lt ha,Nat.mod_eq_of_lt hb]
 show IntKind.u64.wrap ((BitVec.ofInt 64 (a:Int)|||BitVec.ofInt 64 (b:Int)).toNat:Nat)=_
 rw[e];have:a|||b<2^64:=Nat.or_lt_two_pow (by omega) (by omega)
 exact lx _ (by omega) (by omega)
theorem MS(a b:Nat)(ha:a<18446744073709551616)(hb:b<18446744073709551616):IntKind.u64.wrap ((BitVec.ofInt IntKind.u64.bits (a:Int) ^^^ BitVec.ofInt IntKind.u64.bits (b:Int)).toNat:Nat)=((a ^^^ b:Nat):Int):=by
 have e:(BitVec.ofInt 64 (a:Int) ^^^ BitVec.ofInt 64 (b:Int)).toNat=a ^^^ b:=by
  rw[BitVec.toNat_xor,LA,LA,Nat.mod_eq_of_lt ha,Nat.mod_eq_of_lt hb]
 show IntKind.u64.wrap ((BitVec.ofInt 64 (a:Int) ^^^ BitVec.ofInt 64 (b:Int)).toNat:Nat)=_
 rw[e];have:a ^^^ b<2^64:=Nat.xor_lt_two_pow (by omega) (by omega)
 exact lx _ (by omega) (by omega)
theorem Iq(a:Nat)(ha:a<18446744073709551616):IntKind.u64.wrap ((BitVec.ofInt IntKind.u64.bits (a:Int)&&& BitVec.ofInt IntKind.u64.bits 1).toNat:Nat)=((a%2:Nat):Int):=by
 have:=sL a 1 ha (by omega)
 rw[Nat.and_one_is_mod] at this;exact this
theorem uo(a k:Nat):((a:Int).fdiv (2^k))=((a/2^k:Nat):Int):=by
 have e:(2:Int)^k=((2^k:Nat):Int):=by simp
 rw[e,Int.fdiv_eq_ediv_of_nonneg _ (Int.natCast_nonneg _),Int.natCast_ediv]
theorem GZ(a k:Nat):IntKind.u64.wrap ((a:Int)*2^k)=((a*2^k%18446744073709551616:Nat):Int):=by
 have e:(2:Int)^k=((2^k:Nat):Int):=by simp
 rw[gq,e];simp
def maskN(w:Int):Nat:=if w<1 then 0 else if 63<w then 18446744073709551615 else 2^w.toNat-1
theorem gE{w:Int}(h:1<=w/\w<=64):maskN w=2^w.toNat-1:=by
 unfold maskN;rw[if_neg (by omega)];split
 ·have:w=64:=by omega
  subst this;rfl
 ·rfl
theorem iH(w:Int):maskN w<18446744073709551616:=by
 unfold maskN;split
 ·omega
 split
 ·omega
 ·have:2^w.toNat<=2^63:=Nat.pow_le_pow_right (by omega) (by omega)
  have e:(2:Nat)^63=9223372036854775808:=by decide
  omega
theorem ly{w:Int}(h:1<=w/\w<=64):2^w.toNat<=18446744073709551616:=by
 have:2^w.toNat<=2^64:=Nat.pow_le_pow_right (by omega) (by omega)
 have e:(2:Nat)^64=18446744073709551616:=by decide
 omega
def eZ(w:Int)(v:Nat):Bool:=decide (1<=w/\w<=64/\v<=maskN w)
theorem iI{w:Int}{v:Nat}:eZ w v=true↔(1<=w/\w<=64)/\v<2^w.toNat:=by
 unfold eZ;rw[decide_eq_true_eq];constructor
 ·rintro⟨h1,h2,h3⟩;rw[gE ⟨h1,h2⟩] at h3;have:=Nat.two_pow_pos w.toNat
  exact⟨⟨h1,h2⟩,by omega⟩
 ·rintro⟨h1,h2⟩;refine⟨h1.1,h1.2,?_⟩;rw[gE h1];omega
end Fil.Bl
namespace Go.Proofs.YtbbihmmobfmadaaGreat
open Abs Fil Fil.Bl
abbrev eB(w:Int)(v:Nat):AV:= .agg [.int .i64 w, .int .u64 v]
theorem iZ(w:Int)(σ:aA):C_ 87 [.int .i64 w] σ (.int .u64 (maskN w)) σ:=by
 have hv:(w<1/\maskN w=0)\/(¬w<1/\63<w/\maskN w=18446744073709551615)\/(¬w<1/\¬63<w/\maskN w=2^w.toNat-1):=by
  unfold maskN;by_cases h1:w<1
  ·exact .inl ⟨h1,by rw[if_pos h1]⟩
  ·by_cases h2:63<w
   ·exact .inr (.inl ⟨h1,h2,by rw[if_neg h1,if_pos h2]⟩)
   ·exact .inr (.inr ⟨h1,h2,by rw[if_neg h1,if_neg h2]⟩)
 refine gO [] Tryz.func87 (by kernel_rfl) (by conv=>lhs;reduce;dsimp only[iA]) rfl ?_;rcases hv with ⟨h1,h2⟩|⟨h1,h2,h3⟩|⟨h1,h2,h3⟩
 ·rw[h2];clear h2;repeat' (first|simp -implicitDefEqProofs -dsimp only[go_sem,seval, *]|(refine fin_eq ?_;repeat' simp -implicitDefEqProofs -dsimp only[go_sem,seval,Int.natCast_zero, *]))
 ·rw[h3];clear h3;repeat' (first|simp -implicitDefEqProofs -dsimp only[go_sem,seval,gt_iff_lt, *]|refine fin_eq ?_)
 ·have h0:¬w<0:=by omega
  have hm:Nat.min w.toNat 64=w.toNat:=Nat.min_eq_left (by omega);have hlt:2^w.toNat<=2^63:=Nat.pow_le_pow_right (by omega) (by omega);have e63:(2:Nat)^63=9223372036854775808:=by decide
  have hs:IntKind.u64.wrap (1*2^w.toNat)=((2^w.toNat:Nat):Int):=by
   have:=GZ 1 w.toNat
   rw[Nat.one_mul,Nat.mod_eq_of_lt (by omega)] at this;exact this
  have hp:=Nat.two_pow_pos w.toNat
  have hsb:IntKind.u64.wrap (((2^w.toNat:Nat):Int)-1)=((2^w.toNat-1:Nat):Int):=by
   rw[lx _ (by omega) (by omega)];omega
  rw[h3];generalize hM:2^w.toNat-1=M at hsb|-;generalize hN:2^w.toNat=N at hs hsb;clear h3 hlt e63 hp hM hN;repeat' (first|simp -implicitDefEqProofs -dsimp only[go_sem,seval,gt_iff_lt, *]|refine fin_eq ?_)
theorem dq(w:Int)(v:Nat)(σ:aA):C_ 59 [eB w v] σ (.int .i64 (if eZ w v then 0 else 1)) σ:=by
 have c1:=λτ=>iZ w τ;have hv:eZ w v=decide (1<=w/\w<=64/\v<=maskN w):=rfl;generalize hB:eZ w v=B at hv|-;generalize hM:maskN w=M at c1 hv;clear hB hM;refine gO [1] Tryz.func59 (by kernel_rfl) (by conv=>lhs;reduce;dsimp only[iA]) rfl ?_;by_cases h1:w<1
 ·have hb:B=false:=by rw[hv];exact decide_eq_false (by omega)
  subst hb;clear hv;repeat' (first|simp -implicitDefEqProofs -dsimp only[go_sem,seval, *]|refine fin_eq ?_)
 by_cases h2:64<w
 ·have hb:B=false:=by rw[hv];exact decide_eq_false (by omega)
  subst hb;clear hv;repeat' (first|simp -implicitDefEqProofs -dsimp only[go_sem,seval,gt_iff_lt, *]|refine fin_eq ?_)
 by_cases h3:(M:Int)<v
 ·have hb:B=false:=by rw[hv];exact decide_eq_false (by omega)
  subst hb;clear hv;repeat' (first|simp -implicitDefEqProofs -dsimp only[go_sem,seval,gt_iff_lt, *]|refine id_one0 (λtS hS=>c1 _) trivial ?_|refine fin_eq ?_)
 ·have hb:B=true:=by rw[hv];exact decide_eq_true (by omega)
  subst hb;clear hv;repeat' (first|simp -implicitDefEqProofs -dsimp only[go_sem,seval,gt_iff_lt, *]|refine id_one0 (λtS hS=>c1 _) trivial ?_|refine fin_eq ?_)
theorem pw(b:Bool)(σ:aA):C_ 156 [.bool b] σ (eB 1 b.toNat) σ:=by
 refine gO [] Tryz.func156 (by kernel_rfl) (by conv=>lhs;reduce;dsimp only[iA]) rfl ?_;cases b
 all_goals
  repeat' (first|simp -implicitDefEqProofs -dsimp only[go_sem,seval,Bool.toNat_true,Bool.toNat_false, *]|(refine Zt λoF hoF hnF hnF'=>?_;try simp only[aa,ne_eq,not_and] at hoF)|(refine fin_eq ?_;repeat' simp -implicitDefEqProofs -dsimp only[go_sem,seval,Int.natCast_zero,Int.natCast_one, *]))
theorem Ir(v n:Nat)(σ:aA)(hn:n<18446744073709551616):C_ 158 [.int .u64 v, .int .u64 n] σ (.int .u64 ((if 63<n then 0 else v*2^n%18446744073709551616:Nat))) σ:=by
 refine gO [] Tryz.func158 (by kernel_rfl) (by conv=>lhs;reduce;dsimp only[iA]) rfl ?_;by_cases h:63<n
 ·rw[if_pos h];have h2:(63:Int)<(n:Nat):=by omega
  repeat' (first|simp -implicitDefEqProofs -dsimp only[go_sem,seval,gt_iff_lt, *]|(refine fin_eq ?_;repeat' simp -implicitDefEqProofs -dsimp only[go_sem,seval,Int.natCast_zero, *]))
 ·rw[if_neg h];have h2:¬(63:Int)<(n:Nat):=by omega
  have h3:¬(n:Int)<0:=by omega
  have hm:Nat.min n 64=n:=Nat.min_eq_left (by omega);have hs:=GZ v n;generalize hR:v*2^n%18446744073709551616=R at hs|-;repeat' (first|simp -implicitDefEqProofs -dsimp only[go_sem,seval,gt_iff_lt, *]|refine fin_eq ?_)
theorem G0(v n:Nat)(σ:aA)(hn:n<18446744073709551616):C_ 159 [.int .u64 v, .int .u64 n] σ (.int .u64 ((if 63<n then 0 else v/2^n:Nat))) σ:=by
 refine gO [] Tryz.func159 (by kernel_rfl) (by conv=>lhs;reduce;dsimp only[iA]) rfl ?_;by_cases h:63<n
 ·rw[if_pos h];have h2:(63:Int)<(n:Nat):=by omega
  repeat' (first|simp -implicitDefEqProofs -dsimp only[go_sem,seval,gt_iff_lt, *]|(refine fin_eq ?_;repeat' simp -implicitDefEqProofs -dsimp only[go_sem,seval,Int.natCast_zero, *]))
 ·rw[if_neg h];have h2:¬(63:Int)<(n:Nat):=by omega
  have h3:¬(n:Int)<0:=by omega
  have hm:Nat.min n 64=n:=Nat.min_eq_left (by omega);have hs:=uo v n;generalize hR:v/2^n=R at hs|-;repeat' (first|simp -implicitDefEqProofs -dsimp only[go_sem,seval,gt_iff_lt, *]|refine fin_eq ?_)
theorem Kd(v:Nat)(hv:v<18446744073709551616)(σ:aA):C_ 157 [.int .u64 v] σ (.bool (Kb v)) σ:=by
 obtain⟨P,hP⟩:∃P:Nat->Bool,∀i,P i=(List.range i).foldl (λb i=>b != v.testBit i) false:=⟨_,λ_=>rfl⟩;have p0:P 0=false:=by rw[hP];rfl
 have ps:∀i,P (i+1)=(P i != v.testBit i):=λi=>by rw[hP,hP,List.range_succ,List.foldl_append];rfl
 have pe:Kb v=P 64:=by rw[hP];rfl
 rw[pe];clear hP pe;refine gO [] Tryz.func157 (by kernel_rfl) (by conv=>lhs;reduce;dsimp only[iA]) rfl ?_;repeat' simp -implicitDefEqProofs -dsimp only[go_sem,seval, *]
 refine loop_rule (λi:Nat=>[(4,some (.int .i64 i)),(0,some (.int .u64 v)),(3,some (.bool (P i)))]) (λ_=>σ) (λi=>i<=64) (λi=>64-i) 0 ?_ ?_
 ·clear ps;(repeat' simp -implicitDefEqProofs -dsimp only[go_sem,seval, *])
 ·intro i hi;by_cases hlt:i<64
  ·have h1:=ps i;have hli:(i:Int)<64:=by omega
   have h3:¬(i:Int)<0:=by omega
   have hm:Nat.min i 64=i:=Nat.min_eq_left (by omega);have hd:=uo v i;have ha:=Iq (v/2^i) (Nat.lt_of_le_of_lt (Nat.div_le_self _ _) hv)
   have hb:(((v/2^i%2:Nat):Int)==1)=v.testBit i:=by
    rw[Nat.testBit_eq_decide_div_mod_eq,Bool.eq_iff_iff,beq_iff_eq,decide_eq_true_eq];omega
   generalize hb2:v.testBit i=b at h1 hb;clear ps hb2;cases b
   ·have h4:P (i+1)=P i:=by rw[h1];cases P i<;>rfl
    clear h1;repeat' (first|simp -implicitDefEqProofs -dsimp only[go_sem,seval, *]|simp(disch:=omega) only[ah,aj,ao,aw,ar,ag,au,aq]|refine lnx (i+1) ?_|refine And.intro ?_ ?_|omega)
   ·have h4:P (i+1)= !P i:=by rw[h1];cases P i<;>rfl
    clear h1;repeat' (first|simp -implicitDefEqProofs -dsimp only[go_sem,seval, *]|simp(disch:=omega) only[ah,aj,ao,aw,ar,ag,au,aq]|refine lnx (i+1) ?_|refine And.intro ?_ ?_|omega)
  ·have ei:i=64:=by omega
   subst ei;clear ps;repeat' (first|simp -implicitDefEqProofs -dsimp only[go_sem,seval, *]|refine fin_eq ?_)
end Go.Proofs.YtbbihmmobfmadaaGreat
namespace Go.Proofs.YtbbihmmobfmadaaGreat
open Abs Fil Fil.Bl
theorem j6{w a:Nat}(hw:1<=w/\w<=64)(ha:a<2^w):eZ w a=true:=iI.2 ⟨by omega,by simpa using ha⟩
theorem As{w a:Nat}(hw:1<=w/\w<=64)(ha:a<2^w):a<18446744073709551616:=by
 have:=ly (w:=w) (by omega)
 simp only[Int.toNat_natCast] at this;omega
theorem nO{w:Nat}(hw:1<=w/\w<=64):maskN w=2^w-1:=by rw[gE (by omega)];simp
theorem C4{w a:Nat}(hw:1<=w/\w<=64)(ha:a<2^w):IntKind.u64.wrap (0-(a:Int))=(((18446744073709551616-a)%18446744073709551616:Nat):Int):=by
 have:=As hw ha
 rw[gq];omega
theorem mz{w:Nat}(hw:w<=64):∃k,18446744073709551616=2^w*k:=⟨2^(64-w),by
 rw[<-Nat.pow_add,show w+(64-w)=64 by omega]⟩
theorem yb{w:Nat}(hw:w<=64)(n:Nat):n%18446744073709551616%2^w=n%2^w:=by
 obtain⟨k,hk⟩:=mz hw;exact Nat.mod_mod_of_dvd n ⟨k,hk⟩
theorem G1{w a:Nat}(hw:1<=w/\w<=64)(ha:a<2^w):(18446744073709551616-a)%18446744073709551616%2^w=(2^w-a)%2^w:=by
 rw[yb hw.2];obtain⟨k,hk⟩:=mz hw.2
 have hk1:1<=k:=by
  rcases Nat.eq_zero_or_pos k with h|h
  ·subst h;omega
  ·exact h
 obtain⟨j,rfl⟩:∃j,k=j+1:=⟨k-1,by omega⟩;have e:18446744073709551616-a=2^w-a+2^w*j:=by rw[hk,Nat.mul_add];omega
 rw[e,Nat.add_mul_mod_self_left]
theorem G2(p:Nat×Nat):eB p.1 p.2= .agg [.int .i64 p.1, .int .u64 p.2]:=rfl
theorem Me(op:Int)(w a:Nat)(σ:aA)(hw:1<=w/\w<=64)(ha:a<2^w)(ho:1<=op/\op<=6)(h6:op=6->w=1):
  C_ 89 [.int .i64 op,eB w a] σ (.tup [eB (wV op w a).1 (wV op w a).2, .int .i64 0]) σ:=by
 have c1:=λτ=>dq w a τ;rw[j6 hw ha,if_pos rfl] at c1;have c2:=λτ=>iZ w τ;have c3:=λb τ=>pw b τ;have c4:=λτ=>Kd a (As hw ha) τ;have hm:=nO hw;have hml:=iH w;have hal:=As hw ha;generalize hM:maskN w=M at c2 hm hml
 have hu:wV op w a=if op=1 then (w,M-a) else if op=2 then (w,(2^w-a)%2^w) else if op=3 then (1,n1 (a=M)) else if op=4 then (1,n1 (a≠0)) else if op=5 then (1,(Kb a).toNat) else (1,n1 (a=0)):=by
  unfold wV;rw[hm]
 have hneg:=C4 hw ha;have hand:=sL ((18446744073709551616-a)%18446744073709551616) M (Nat.mod_lt _ (by omega)) hml
 have hmod:(18446744073709551616-a)%18446744073709551616&&& M=(2^w-a)%2^w:=by
  rw[hm,Nat.and_two_pow_sub_one_eq_mod,G1 hw ha]
 rw[hmod] at hand
 have hsub:IntKind.u64.wrap ((M:Int)-(a:Int))=((M-a:Nat):Int):=by
  have:=Nat.two_pow_pos w
  rw[lx _ (by omega) (by omega)];omega
 generalize hU:wV op w a=U at hu|-;rw[G2];clear hU hM hmod;generalize hN:(2^w-a)%2^w=N at hu hand;generalize hG:(18446744073709551616-a)%18446744073709551616=G at hneg hand;generalize hD:M-a=D at hu hsub;clear hN hG hD hm;refine gO [3] Tryz.func89 (by kernel_rfl) (by conv=>lhs;reduce;dsimp only[iA]) rfl ?_;by_cases o1:op=1
 ·rw[if_pos o1] at hu;subst hu o1;clear c3 c4 hneg hand;repeat' (first|simp -implicitDefEqProofs -dsimp only[go_sem,seval, *]|simp(disch:=omega) only[ah,aj,ao,aw,ar,ag,au,aq]|(with_reducible refine Zt λoF hoF hnF hnF'=>?_;try simp only[aa,ne_eq,not_and] at hoF)|refine kc1 (c1 _) ?_|refine kc1 (c2 _) ?_|refine fin_eq ?_)
 rw[if_neg o1] at hu;have b1:(op==1)=false:=by simp[o1]
 by_cases o2:op=2
 ·rw[if_pos o2] at hu;subst hu o2;clear c3 c4 hsub;repeat' (first|simp -implicitDefEqProofs -dsimp only[go_sem,seval, *]|simp(disch:=omega) only[ah,aj,ao,aw,ar,ag,au,aq]|(with_reducible refine Zt λoF hoF hnF hnF'=>?_;try simp only[aa,ne_eq,not_and] at hoF)|refine kc1 (c1 _) ?_|refine kc1 (c2 _) ?_|refine fin_eq ?_)
 rw[if_neg o2] at hu;have b2:(op==2)=false:=by simp[o2]
 by_cases o3:op=3
 ·rw[if_pos o3] at hu;have c5:=λτ=>c3 ((a:Int)==(M:Int)) τ;have e:((a:Int)==(M:Int)).toNat=n1 (a=M):=by rw[<-dH];congr 1;rw[Bool.eq_iff_iff,beq_iff_eq,decide_eq_true_eq];omega
  rw[e] at c5;subst hu o3;clear c3 c4 hsub hneg hand e;repeat' (first|simp -implicitDefEqProofs -dsimp only[go_sem,seval, *]|simp(disch:=omega) only[ah,aj,ao,aw,ar,ag,au,aq]|(with_reducible refine Zt λoF hoF hnF hnF'=>?_;try simp only[aa,ne_eq,not_and] at hoF)|refine kc1 (c1 _) ?_|refine kc1 (c2 _) ?_|refine kc1 (c5 _) ?_|(refine fin_eq ?_;repeat' simp -implicitDefEqProofs -dsimp only[go_sem,seval,Int.natCast_one, *]))
 rw[if_neg o3] at hu;have b3:(op==3)=false:=by simp[o3]
 by_cases o4:op=4
 ·rw[if_pos o4] at hu;have c5:=λτ=>c3 ((a:Int) != 0) τ;have e:((a:Int) != 0).toNat=n1 (a≠0):=by rw[<-dH];congr 1;rw[Bool.eq_iff_iff,bne_iff_ne,decide_eq_true_eq];omega
  rw[e] at c5;subst hu o4;clear c3 c4 hsub hneg hand e;repeat' (first|simp -implicitDefEqProofs -dsimp only[go_sem,seval, *]|simp(disch:=omega) only[ah,aj,ao,aw,ar,ag,au,aq]|(with_reducible refine Zt λoF hoF hnF hnF'=>?_;try simp only[aa,ne_eq,not_and] at hoF)|refine kc1 (c1 _) ?_|refine kc1 (c2 _) ?_|refine kc1 (c5 _) ?_|(refine fin_eq ?_;repeat' simp -implicitDefEqProofs -dsimp only[go_sem,seval,Int.natCast_one, *]))
 rw[if_neg o4] at hu;have b4:(op==4)=false:=by simp[o4]
 by_cases o5:op=5
 ·rw[if_pos o5] at hu;have c5:=λτ=>c3 (Kb a) τ;subst hu o5;clear c3 hsub hneg hand;repeat' (first|simp -implicitDefEqProofs -dsimp only[go_sem,seval, *]|simp(disch:=omega) only[ah,aj,ao,aw,ar,ag,au,aq]|(with_reducible refine Zt λoF hoF hnF hnF'=>?_;try simp only[aa,ne_eq,not_and] at hoF)|refine kc1 (c1 _) ?_|refine kc1 (c2 _) ?_|refine kc1 (c4 _) ?_|refine kc1 (c5 _) ?_|(refine fin_eq ?_;repeat' simp -implicitDefEqProofs -dsimp only[go_sem,seval,Int.natCast_one, *]))
 rw[if_neg o5] at hu;have b5:(op==5)=false:=by simp[o5]
 have o6:op=6:=by omega
 have hw1:=h6 o6;have c5:=λτ=>c3 ((a:Int)==0) τ;have e:((a:Int)==0).toNat=n1 (a=0):=by rw[<-dH];congr 1;rw[Bool.eq_iff_iff,beq_iff_eq,decide_eq_true_eq];omega
 rw[e] at c5;subst hu o6 hw1;clear c3 c4 hsub hneg hand e;repeat' (first|simp -implicitDefEqProofs -dsimp only[go_sem,seval,Int.natCast_one, *]|simp(disch:=omega) only[ah,aj,ao,aw,ar,ag,au,aq]|(with_reducible refine Zt λoF hoF hnF hnF'=>?_;try simp only[aa,ne_eq,not_and] at hoF)|refine kc1 (c1 _) ?_|refine kc1 (c2 _) ?_|refine kc1 (c5 _) ?_|refine fin_eq ?_)
end Go.Proofs.YtbbihmmobfmadaaGreat
namespace Go.Proofs.YtbbihmmobfmadaaGreat
open Abs Fil Fil.Bl
def uq(op:Int)(w a b:Nat):(Nat×Nat)×Int:=if 11<=op/\op<=26/\(op<25\/w=1) then (qC op w a b,0) else ((0,0),1)
theorem j7{M w n:Nat}(hM:M=2^w-1)(hw:w<=64):n%18446744073709551616&&& M=n%2^w:=by
 rw[hM,Nat.and_two_pow_sub_one_eq_mod,yb hw]
theorem C5{a b w:Nat}(hw:w<=64)(hb:b<2^w):(a+(18446744073709551616-b))%2^w=(a+(2^w-b))%2^w:=by
 obtain⟨k,hk⟩:=mz hw
 have hk1:1<=k:=by
  rcases Nat.eq_zero_or_pos k with h|h
  ·subst h;omega
  ·exact h
 obtain⟨j,rfl⟩:∃j,k=j+1:=⟨k-1,by omega⟩;have e:a+(18446744073709551616-b)=a+(2^w-b)+2^w*j:=by rw[hk,Nat.mul_add];omega
 rw[e,Nat.add_mul_mod_self_left]
theorem Kf{a b w:Nat}(hw:w<=64)(h:63<b):a*2^b%2^w=0:=by
 have:b=w+(b-w):=by omega
 rw[this,Nat.pow_add,Nat.mul_comm,Nat.mul_assoc,Nat.mul_mod_right]
theorem C6{a b:Nat}(ha:a<18446744073709551616)(h:63<b):a/2^b=0:=by
 refine Nat.div_eq_of_lt (Nat.lt_of_lt_of_le ha ?_);have:2^64<=2^b:=Nat.pow_le_pow_right (by omega) (by omega)
 have e:(2:Nat)^64=18446744073709551616:=by decide
 omega
theorem Kg(op:Int)(w a v b:Nat)(σ:aA)(hw:1<=w/\w<=64)(ha:a<2^w)(hv:1<=v/\v<=64)(hb:b<2^v)(hwv:op=17\/op=18\/w=v):
  C_ 90 [.int .i64 op,eB w a,eB v b] σ (.tup [eB (uq op w a b).1.1 (uq op w a b).1.2, .int .i64 (uq op w a b).2]) σ:=by
 have z1:=λτ=>dq w a τ;rw[j6 hw ha,if_pos rfl] at z1;have z1b:=λτ=>dq v b τ;rw[j6 hv hb,if_pos rfl] at z1b;have z2:=λτ=>iZ w τ;have hm:=nO hw;have hml:=iH w;have hal:=As hw ha;have hbl:=As hv hb;have z3:=λb τ=>pw b τ;have z6:=λτ=>Ir a b τ hbl;have z7:=λτ=>G0 a b τ hbl;generalize hM:maskN w=M at z2 hm hml;obtain⟨R,hR⟩:∃R,uq op w a b=R:=⟨_,rfl⟩;rw[hR];have good:11<=op/\op<=26/\(op<25\/w=1)->R=(qC op w a b,0):=λh=>by rw[<-hR];unfold uq;rw[if_pos h]
 have bad:¬(11<=op/\op<=26/\(op<25\/w=1))->R=((0,0),1):=λh=>by rw[<-hR];unfold uq;rw[if_neg h]
 clear hM hR;refine gO [4,5] Tryz.func90 (by kernel_rfl) (by conv=>lhs;reduce;dsimp only[iA]) rfl ?_;by_cases o17:op=17
 ·have hR:R=((w,a*2^b%2^w),0):=by rw[good (by omega),o17];rfl
  have hu:((if 63<b then 0 else a*2^b%18446744073709551616:Nat))&&& M=a*2^b%2^w:=by
   split
   ·rename_i h;rw[Kf hw.2 h];simp
   ·exact j7 hm hw.2
  have hul:(if 63<b then 0 else a*2^b%18446744073709551616:Nat)<18446744073709551616:=by
   split
   ·omega
   ·exact Nat.mod_lt _ (by omega)
  generalize hU:(if 63<b then 0 else a*2^b%18446744073709551616:Nat)=U at z6 hu hul;have hand:=sL U M hul hml;rw[hu] at hand;subst hR o17;generalize hN:a*2^b%2^w=N at hand|-;clear z3 z7 good bad hU hu hN hm;repeat' (first|simp -implicitDefEqProofs -dsimp only[go_sem,seval, *]|simp(disch:=omega) only[ah,aj,ao,aw,ar,ag,au,aq]|(with_reducible refine Zt λoF hoF hnF hnF'=>?_;try simp only[aa,ne_eq,not_and] at hoF)|refine kc1 (z1 _) ?_|refine kc1 (z1b _) ?_|refine kc1 (z2 _) ?_|with_reducible refine id_one0 (λtS hS=>z6 _) trivial ?_|refine fin_eq ?_)
 have b17:(op==17)=false:=by simp[o17]
 by_cases o18:op=18
 ·have hR:R=((w,a/2^b),0):=by rw[good (by omega),o18];rfl
  have hu:((if 63<b then 0 else a/2^b:Nat))=a/2^b:=by
   split
   ·rename_i h;rw[C6 hal h]
   ·rfl
  rw[hu] at z7;subst hR o18;generalize hN:a/2^b=N at z7|-;clear z3 z6 good bad hu hN;repeat' (first|simp -implicitDefEqProofs -dsimp only[go_sem,seval, *]|simp(disch:=omega) only[ah,aj,ao,aw,ar,ag,au,aq]|(with_reducible refine Zt λoF hoF hnF hnF'=>?_;try simp only[aa,ne_eq,not_and] at hoF)|refine kc1 (z1 _) ?_|refine kc1 (z1b _) ?_|refine kc1 (z2 _) ?_|with_reducible refine id_one0 (λtS hS=>z7 _) trivial ?_|refine fin_eq ?_)
 have b18:(op==18)=false:=by simp[o18]
 have hwe:w=v:=by omega
 subst hwe;clear z6 z7;have bne:((w:Int) != (w:Int))=false:=by simp
 by_cases o11:op=11
 ·have hR:R=((w,a&&& b),0):=by rw[good (by omega),o11];rfl
  have hand:=sL a b hal hbl;subst hR o11;generalize hN:a&&& b=N at hand|-;clear z3 good bad hN hm;repeat' (first|simp -implicitDefEqProofs -dsimp only[go_sem,seval, *]|simp(disch:=omega) only[ah,aj,ao,aw,ar,ag,au,aq]|(with_reducible refine Zt λoF hoF hnF hnF'=>?_;try simp only[aa,ne_eq,not_and] at hoF)|refine kc1 (z1 _) ?_|refine kc1 (z1b _) ?_|refine kc1 (z2 _) ?_|refine fin_eq ?_)
 have b11:(op==11)=false:=by simp[o11]
 by_cases o12:op=12
 ·have hR:R=((w,a|||b),0):=by rw[good (by omega),o12];rfl
  have hand:=MA a b hal hbl;subst hR o12;generalize hN:a|||b=N at hand|-
  clear z3 good bad hN hm;repeat' (first|simp -implicitDefEqProofs -dsimp only[go_sem,seval, *]|simp(disch:=omega) only[ah,aj,ao,aw,ar,ag,au,aq]|(with_reducible refine Zt λoF hoF hnF hnF'=>?_;try simp only[aa,ne_eq,not_and] at hoF)|refine kc1 (z1 _) ?_|refine kc1 (z1b _) ?_|refine kc1 (z2 _) ?_|refine fin_eq ?_)
 have b12:(op==12)=false:=by simp[o12]
 by_cases o13:op=13
 ·have hR:R=((w,a ^^^ b),0):=by rw[good (by omega),o13];rfl
  have hand:=MS a b hal hbl;subst hR o13;generalize hN:a ^^^ b=N at hand|-;clear z3 good bad hN hm;repeat' (first|simp -implicitDefEqProofs -dsimp only[go_sem,seval, *]|simp(disch:=omega) only[ah,aj,ao,aw,ar,ag,au,aq]|(with_reducible refine Zt λoF hoF hnF hnF'=>?_;try simp only[aa,ne_eq,not_and] at hoF)|refine kc1 (z1 _) ?_|refine kc1 (z1b _) ?_|refine kc1 (z2 _) ?_|refine fin_eq ?_)
 have b13:(op==13)=false:=by simp[o13]
 by_cases o14:op=14
 ·have hR:R=((w,(a+b)%2^w),0):=by rw[good (by omega),o14];rfl
  have hs:IntKind.u64.wrap ((a:Int)+(b:Int))=(((a+b)%18446744073709551616:Nat):Int):=by
   rw[gq];omega
  have hand:=sL ((a+b)%18446744073709551616) M (Nat.mod_lt _ (by omega)) hml;rw[j7 hm hw.2] at hand;subst hR o14;generalize hN:(a+b)%2^w=N at hand|-;generalize hG:(a+b)%18446744073709551616=G at hs hand;clear z3 good bad hN hG hm;repeat' (first|simp -implicitDefEqProofs -dsimp only[go_sem,seval, *]|simp(disch:=omega) only[ah,aj,ao,aw,ar,ag,au,aq]|(with_reducible refine Zt λoF hoF hnF hnF'=>?_;try simp only[aa,ne_eq,not_and] at hoF)|refine kc1 (z1 _) ?_|refine kc1 (z1b _) ?_|refine kc1 (z2 _) ?_|refine fin_eq ?_)
 have b14:(op==14)=false:=by simp[o14]
 by_cases o15:op=15
 ·have hR:R=((w,(a+(2^w-b))%2^w),0):=by rw[good (by omega),o15];rfl
  have hs:IntKind.u64.wrap ((a:Int)-(b:Int))=(((a+(18446744073709551616-b))%18446744073709551616:Nat):Int):=by
   rw[gq];omega
  have hand:=sL ((a+(18446744073709551616-b))%18446744073709551616) M (Nat.mod_lt _ (by omega)) hml;rw[j7 hm hw.2,C5 hw.2 hb] at hand;subst hR o15;generalize hN:(a+(2^w-b))%2^w=N at hand|-;generalize hG:(a+(18446744073709551616-b))%18446744073709551616=G at hs hand;clear z3 good bad hN hG hm;repeat' (first|simp -implicitDefEqProofs -dsimp only[go_sem,seval, *]|simp(disch:=omega) only[ah,aj,ao,aw,ar,ag,au,aq]|(with_reducible refine Zt λoF hoF hnF hnF'=>?_;try simp only[aa,ne_eq,not_and] at hoF)|refine kc1 (z1 _) ?_|refine kc1 (z1b _) ?_|refine kc1 (z2 _) ?_|refine fin_eq ?_)
 have b15:(op==15)=false:=by simp[o15]
 by_cases o16:op=16
 ·have hR:R=((w,a*b%2^w),0):=by rw[good (by omega),o16];rfl
  have hs:IntKind.u64.wrap ((a:Int)*(b:Int))=(((a*b)%18446744073709551616:Nat):Int):=by
   rw[gq];simp
  have hand:=sL ((a*b)%18446744073709551616) M (Nat.mod_lt _ (by omega)) hml;rw[j7 hm hw.2] at hand;subst hR o16;generalize hN:a*b%2^w=N at hand|-;generalize hG:(a*b)%18446744073709551616=G at hs hand;clear z3 good bad hN hG hm;repeat' (first|simp -implicitDefEqProofs -dsimp only[go_sem,seval, *]|simp(disch:=omega) only[ah,aj,ao,aw,ar,ag,au,aq]|(with_reducible refine Zt λoF hoF hnF hnF'=>?_;try simp only[aa,ne_eq,not_and] at hoF)|refine kc1 (z1 _) ?_|refine kc1 (z1b _) ?_|refine kc1 (z2 _) ?_|refine fin_eq ?_)
 have b16:(op==16)=false:=by simp[o16]
 by_cases o19:op=19
 ·have hR:R=((1,n1 (a=b)),0):=by rw[good (by omega),o19];rfl
  have z5:=λτ=>z3 ((a:Int)==(b:Int)) τ;have e:((a:Int)==(b:Int)).toNat=n1 (a=b):=by rw[<-dH];congr 1;rw[Bool.eq_iff_iff,beq_iff_eq,decide_eq_true_eq];omega
  rw[e] at z5;subst hR o19;generalize hN:n1 (a=b)=N at z5|-;clear z3 good bad e hN;repeat' (first|simp -implicitDefEqProofs -dsimp only[go_sem,seval,gt_iff_lt,ge_iff_le, *]|simp(disch:=omega) only[ah,aj,ao,aw,ar,ag,au,aq]|(with_reducible refine Zt λoF hoF hnF hnF'=>?_;try simp only[aa,ne_eq,not_and] at hoF)|refine kc1 (z1 _) ?_|refine kc1 (z1b _) ?_|refine kc1 (z2 _) ?_|refine kc1 (z5 _) ?_|(refine fin_eq ?_;repeat' simp -implicitDefEqProofs -dsimp only[go_sem,seval,Int.natCast_one, *]))
 have b19:(op==19)=false:=by simp[o19]
 by_cases o20:op=20
 ·have hR:R=((1,n1 (a≠b)),0):=by rw[good (by omega),o20];rfl
  have z5:=λτ=>z3 ((a:Int) != (b:Int)) τ;have e:((a:Int) != (b:Int)).toNat=n1 (a≠b):=by rw[<-dH];congr 1;rw[Bool.eq_iff_iff,bne_iff_ne,decide_eq_true_eq];omega
  rw[e] at z5;subst hR o20;generalize hN:n1 (a≠b)=N at z5|-;clear z3 good bad e hN;repeat' (first|simp -implicitDefEqProofs -dsimp only[go_sem,seval,gt_iff_lt,ge_iff_le, *]|simp(disch:=omega) only[ah,aj,ao,aw,ar,ag,au,aq]|(with_reducible refine Zt λoF hoF hnF hnF'=>?_;try simp only[aa,ne_eq,not_and] at hoF)|refine kc1 (z1 _) ?_|refine kc1 (z1b _) ?_|refine kc1 (z2 _) ?_|refine kc1 (z5 _) ?_|(refine fin_eq ?_;repeat' simp -implicitDefEqProofs -dsimp only[go_sem,seval,Int.natCast_one, *]))
 have b20:(op==20)=false:=by simp[o20]
 by_cases o21:op=21
 ·have hR:R=((1,n1 (a<b)),0):=by rw[good (by omega),o21];rfl
  have z5:=λτ=>z3 (decide ((a:Int)<(b:Int))) τ;have e:(decide ((a:Int)<(b:Int))).toNat=n1 (a<b):=by rw[<-dH];congr 1;rw[Bool.eq_iff_iff,decide_eq_true_eq,decide_eq_true_eq];omega
  rw[e] at z5;subst hR o21;generalize hN:n1 (a<b)=N at z5|-;clear z3 good bad e hN;repeat' (first|simp -implicitDefEqProofs -dsimp only[go_sem,seval,gt_iff_lt,ge_iff_le, *]|simp(disch:=omega) only[ah,aj,ao,aw,ar,ag,au,aq]|(with_reducible refine Zt λoF hoF hnF hnF'=>?_;try simp only[aa,ne_eq,not_and] at hoF)|refine kc1 (z1 _) ?_|refine kc1 (z1b _) ?_|refine kc1 (z2 _) ?_|refine kc1 (ACalls.flA (z5 _) ?_) ?_|(refine fin_eq ?_;repeat' simp -implicitDefEqProofs -dsimp only[go_sem,seval,Int.natCast_one, *]))
 have b21:(op==21)=false:=by simp[o21]
 by_cases o22:op=22
 ·have hR:R=((1,n1 (a<=b)),0):=by rw[good (by omega),o22];rfl
  have z5:=λτ=>z3 (decide ((a:Int)<=(b:Int))) τ;have e:(decide ((a:Int)<=(b:Int))).toNat=n1 (a<=b):=by rw[<-dH];congr 1;rw[Bool.eq_iff_iff,decide_eq_true_eq,decide_eq_true_eq];omega
  rw[e] at z5;subst hR o22;generalize hN:n1 (a<=b)=N at z5|-;clear z3 good bad e hN;repeat' (first|simp -implicitDefEqProofs -dsimp only[go_sem,seval,gt_iff_lt,ge_iff_le, *]|simp(disch:=omega) only[ah,aj,ao,aw,ar,ag,au,aq]|(with_reducible refine Zt λoF hoF hnF hnF'=>?_;try simp only[aa,ne_eq,not_and] at hoF)|refine kc1 (z1 _) ?_|refine kc1 (z1b _) ?_|refine kc1 (z2 _) ?_|refine kc1 (ACalls.flA (z5 _) ?_) ?_|(refine fin_eq ?_;repeat' simp -implicitDefEqProofs -dsimp only[go_sem,seval,Int.natCast_one, *]))
 have b22:(op==22)=false:=by simp[o22]
 by_cases o23:op=23
 ·have hR:R=((1,n1 (b<a)),0):=by rw[good (by omega),o23];rfl
  have z5:=λτ=>z3 (decide ((b:Int)<(a:Int))) τ;have e:(decide ((b:Int)<(a:Int))).toNat=n1 (b<a):=by rw[<-dH];congr 1;rw[Bool.eq_iff_iff,decide_eq_true_eq,decide_eq_true_eq];omega
  rw[e] at z5;subst hR o23;generalize hN:n1 (b<a)=N at z5|-;clear z3 good bad e hN;repeat' (first|simp -implicitDefEqProofs -dsimp only[go_sem,seval,gt_iff_lt,ge_iff_le, *]|simp(disch:=omega) only[ah,aj,ao,aw,ar,ag,au,aq]|(with_reducible refine Zt λoF hoF hnF hnF'=>?_;try simp only[aa,ne_eq,not_and] at hoF)|refine kc1 (z1 _) ?_|refine kc1 (z1b _) ?_|refine kc1 (z2 _) ?_|refine kc1 (ACalls.flA (z5 _) ?_) ?_|(refine fin_eq ?_;repeat' simp -implicitDefEqProofs -dsimp only[go_sem,seval,Int.natCast_one, *]))
 have b23:(op==23)=false:=by simp[o23]
 by_cases o24:op=24
 ·have hR:R=((1,n1 (b<=a)),0):=by rw[good (by omega),o24];rfl
  have z5:=λτ=>z3 (decide ((b:Int)<=(a:Int))) τ;have e:(decide ((b:Int)<=(a:Int))).toNat=n1 (b<=a):=by rw[<-dH];congr 1;rw[Bool.eq_iff_iff,decide_eq_true_eq,decide_eq_true_eq];omega
  rw[e] at z5;subst hR o24;generalize hN:n1 (b<=a)=N at z5|-;clear z3 good bad e hN;repeat' (first|simp -implicitDefEqProofs -dsimp only[go_sem,seval,gt_iff_lt,ge_iff_le, *]|simp(disch:=omega) only[ah,aj,ao,aw,ar,ag,au,aq]|(with_reducible refine Zt λoF hoF hnF hnF'=>?_;try simp only[aa,ne_eq,not_and] at hoF)|refine kc1 (z1 _) ?_|refine kc1 (z1b _) ?_|refine kc1 (z2 _) ?_|refine kc1 (ACalls.flA (z5 _) ?_) ?_|(refine fin_eq ?_;repeat' simp -implicitDefEqProofs -dsimp only[go_sem,seval,Int.natCast_one, *]))
 have b24:(op==24)=false:=by simp[o24]
 by_cases hw1:w=1
 case neg=>
  have hR:=bad (by omega);have hwb:((w:Int) != 1)=true:=by rw[bne_iff_ne];omega
  subst hR;clear z3 good bad;repeat' (first|simp -implicitDefEqProofs -dsimp only[go_sem,seval, *]|simp(disch:=omega) only[ah,aj,ao,aw,ar,ag,au,aq]|(with_reducible refine Zt λoF hoF hnF hnF'=>?_;try simp only[aa,ne_eq,not_and] at hoF)|refine kc1 (z1 _) ?_|refine kc1 (z1b _) ?_|refine kc1 (z2 _) ?_|(refine fin_eq ?_;repeat' simp -implicitDefEqProofs -dsimp only[go_sem,seval,Int.natCast_zero, *]))
 have hwi:((w:Int) != 1)=false:=by rw[hw1];rfl
 by_cases o25:op=25
 ·have hR:R=((1,n1 (a=1/\b=1)),0):=by rw[good (by omega),o25];rfl
  have z5:=λτ=>z3 (((a:Int)==1)&&((b:Int)==1)) τ;subst hR o25;clear good bad;by_cases q1:a=1
  ·by_cases q2:b=1
   ·have e:n1 (a=1/\b=1)=1:=by unfold n1;rw[if_pos (by omega)]
    rw[e];have qa:((a:Int)==1)=true:=by rw[beq_iff_eq];omega
    have qb:((b:Int)==1)=true:=by rw[beq_iff_eq];omega
    clear e q1 q2 z5 hw1;have z5:=λτ=>z3 true τ;simp only[Bool.toNat_true] at z5;clear z3;repeat' (first|simp -implicitDefEqProofs -dsimp only[go_sem,seval,Int.natCast_one,Int.natCast_zero, *]|simp(disch:=omega) only[ah,aj,ao,aw,ar,ag,au,aq]|(with_reducible refine Zt λoF hoF hnF hnF'=>?_;try simp only[aa,ne_eq,not_and] at hoF)|refine kc1 (z1 _) ?_|refine kc1 (z1b _) ?_|refine kc1 (z2 _) ?_|refine kc1 (z5 _) ?_|refine fin_eq ?_)
   ·have e:n1 (a=1/\b=1)=0:=by unfold n1;rw[if_neg (by omega)]
    rw[e];have qa:((a:Int)==1)=true:=by rw[beq_iff_eq];omega
    have qb:((b:Int)==1)=false:=by rw[beq_eq_false_iff_ne];omega
    clear e q1 q2 z5 hw1;have z5:=λτ=>z3 false τ;simp only[Bool.toNat_false] at z5;clear z3;repeat' (first|simp -implicitDefEqProofs -dsimp only[go_sem,seval,Int.natCast_one,Int.natCast_zero, *]|simp(disch:=omega) only[ah,aj,ao,aw,ar,ag,au,aq]|(with_reducible refine Zt λoF hoF hnF hnF'=>?_;try simp only[aa,ne_eq,not_and] at hoF)|refine kc1 (z1 _) ?_|refine kc1 (z1b _) ?_|refine kc1 (z2 _) ?_|refine kc1 (z5 _) ?_|refine fin_eq ?_)
  ·by_cases q2:b=1
   ·have e:n1 (a=1/\b=1)=0:=by unfold n1;rw[if_neg (by omega)]
    rw[e];have qa:((a:Int)==1)=false:=by rw[beq_eq_false_iff_ne];omega
    have qb:((b:Int)==1)=true:=by rw[beq_iff_eq];omega
    clear e q1 q2 z5 hw1;have z5:=λτ=>z3 false τ;simp only[Bool.toNat_false] at z5;clear z3;repeat' (first|simp -implicitDefEqProofs -dsimp only[go_sem,seval,Int.natCast_one,Int.natCast_zero, *]|simp(disch:=omega) only[ah,aj,ao,aw,ar,ag,au,aq]|(with_reducible refine Zt λoF hoF hnF hnF'=>?_;try simp only[aa,ne_eq,not_and] at hoF)|refine kc1 (z1 _) ?_|refine kc1 (z1b _) ?_|refine kc1 (z2 _) ?_|refine kc1 (z5 _) ?_|refine fin_eq ?_)
   ·have e:n1 (a=1/\b=1)=0:=by unfold n1;rw[if_neg (by omega)]
    rw[e];have qa:((a:Int)==1)=false:=by rw[beq_eq_false_iff_ne];omega
    have qb:((b:Int)==1)=false:=by rw[beq_eq_false_iff_ne];omega
    clear e q1 q2 z5 hw1;have z5:=λτ=>z3 false τ;simp only[Bool.toNat_false] at z5;clear z3;repeat' (first|simp -implicitDefEqProofs -dsimp only[go_sem,seval,Int.natCast_one,Int.natCast_zero, *]|simp(disch:=omega) only[ah,aj,ao,aw,ar,ag,au,aq]|(with_reducible refine Zt λoF hoF hnF hnF'=>?_;try simp only[aa,ne_eq,not_and] at hoF)|refine kc1 (z1 _) ?_|refine kc1 (z1b _) ?_|refine kc1 (z2 _) ?_|refine kc1 (z5 _) ?_|refine fin_eq ?_)
 have b25:(op==25)=false:=by simp[o25]
 by_cases o26:op=26
 ·have hR:R=((1,n1 (a=1\/b=1)),0):=by rw[good (by omega),o26];rfl
  have z5:=λτ=>z3 (((a:Int)==1)||((b:Int)==1)) τ
  subst hR o26;clear good bad;by_cases q1:a=1
  ·by_cases q2:b=1
   ·have e:n1 (a=1\/b=1)=1:=by unfold n1;rw[if_pos (by omega)]
    rw[e];have qa:((a:Int)==1)=true:=by rw[beq_iff_eq];omega
    have qb:((b:Int)==1)=true:=by rw[beq_iff_eq];omega
    clear e q1 q2 z5 hw1;have z5:=λτ=>z3 true τ;simp only[Bool.toNat_true] at z5;clear z3;repeat' (first|simp -implicitDefEqProofs -dsimp only[go_sem,seval,Int.natCast_one,Int.natCast_zero, *]|simp(disch:=omega) only[ah,aj,ao,aw,ar,ag,au,aq]|(with_reducible refine Zt λoF hoF hnF hnF'=>?_;try simp only[aa,ne_eq,not_and] at hoF)|refine kc1 (z1 _) ?_|refine kc1 (z1b _) ?_|refine kc1 (z2 _) ?_|refine kc1 (z5 _) ?_|refine fin_eq ?_)
   ·have e:n1 (a=1\/b=1)=1:=by unfold n1;rw[if_pos (by omega)]
    rw[e];have qa:((a:Int)==1)=true:=by rw[beq_iff_eq];omega
    have qb:((b:Int)==1)=false:=by rw[beq_eq_false_iff_ne];omega
    clear e q1 q2 z5 hw1;have z5:=λτ=>z3 true τ;simp only[Bool.toNat_true] at z5;clear z3;repeat' (first|simp -implicitDefEqProofs -dsimp only[go_sem,seval,Int.natCast_one,Int.natCast_zero, *]|simp(disch:=omega) only[ah,aj,ao,aw,ar,ag,au,aq]|(with_reducible refine Zt λoF hoF hnF hnF'=>?_;try simp only[aa,ne_eq,not_and] at hoF)|refine kc1 (z1 _) ?_|refine kc1 (z1b _) ?_|refine kc1 (z2 _) ?_|refine kc1 (z5 _) ?_|refine fin_eq ?_)
  ·by_cases q2:b=1
   ·have e:n1 (a=1\/b=1)=1:=by unfold n1;rw[if_pos (by omega)]
    rw[e];have qa:((a:Int)==1)=false:=by rw[beq_eq_false_iff_ne];omega
    have qb:((b:Int)==1)=true:=by rw[beq_iff_eq];omega
    clear e q1 q2 z5 hw1;have z5:=λτ=>z3 true τ;simp only[Bool.toNat_true] at z5;clear z3;repeat' (first|simp -implicitDefEqProofs -dsimp only[go_sem,seval,Int.natCast_one,Int.natCast_zero, *]|simp(disch:=omega) only[ah,aj,ao,aw,ar,ag,au,aq]|(with_reducible refine Zt λoF hoF hnF hnF'=>?_;try simp only[aa,ne_eq,not_and] at hoF)|refine kc1 (z1 _) ?_|refine kc1 (z1b _) ?_|refine kc1 (z2 _) ?_|refine kc1 (z5 _) ?_|refine fin_eq ?_)
   ·have e:n1 (a=1\/b=1)=0:=by unfold n1;rw[if_neg (by omega)]
    rw[e];have qa:((a:Int)==1)=false:=by rw[beq_eq_false_iff_ne];omega
    have qb:((b:Int)==1)=false:=by rw[beq_eq_false_iff_ne];omega
    clear e q1 q2 z5 hw1;have z5:=λτ=>z3 false τ;simp only[Bool.toNat_false] at z5;clear z3;repeat' (first|simp -implicitDefEqProofs -dsimp only[go_sem,seval,Int.natCast_one,Int.natCast_zero, *]|simp(disch:=omega) only[ah,aj,ao,aw,ar,ag,au,aq]|(with_reducible refine Zt λoF hoF hnF hnF'=>?_;try simp only[aa,ne_eq,not_and] at hoF)|refine kc1 (z1 _) ?_|refine kc1 (z1b _) ?_|refine kc1 (z2 _) ?_|refine kc1 (z5 _) ?_|refine fin_eq ?_)
 have b26:(op==26)=false:=by simp[o26]
 have hR:=bad (by omega);subst hR;clear z3 good bad hw1;repeat' (first|simp -implicitDefEqProofs -dsimp only[go_sem,seval,Int.natCast_one, *]|simp(disch:=omega) only[ah,aj,ao,aw,ar,ag,au,aq]|(with_reducible refine Zt λoF hoF hnF hnF'=>?_;try simp only[aa,ne_eq,not_and] at hoF)|refine kc1 (z1 _) ?_|refine kc1 (z1b _) ?_|refine kc1 (z2 _) ?_|(refine fin_eq ?_;repeat' simp -implicitDefEqProofs -dsimp only[go_sem,seval,Int.natCast_zero, *]))
end Go.Proofs.YtbbihmmobfmadaaGreat
namespace Go.Proofs.YtbbihmmobfmadaaGreat
open Abs Fil Fil.Bl
def At(op:Int)(w v a:Nat):Nat:=if op=31 then a else if op=32 then (if a/2^(v-1)=1 then a|||((2^w-1)-(2^v-1)) else a) else a%2^w
theorem Kh(op:Int)(w v a:Nat)(σ:aA)(hw:1<=w/\w<=64)(hv:1<=v/\v<=64)(ha:a<2^v)(ho:(31<=op/\op<=32/\v<=w)\/(op=33/\w<=v)):
  C_ 93 [.int .i64 op, .int .i64 w,eB v a] σ (.tup [eB w (At op w v a), .int .i64 0]) σ:=by
 have z1:=λτ=>dq v a τ;rw[j6 hv ha,if_pos rfl] at z1;have z2:=λτ=>iZ w τ;have z3:=λτ=>iZ v τ;have hm:=nO hw;have hm2:=nO hv;have hml:=iH w;have hml2:=iH v;have hal:=As hv ha;have hpw:=Nat.two_pow_pos w;have hpv:=Nat.two_pow_pos v;have hle:v<=w->2^v<=2^w:=λh=>Nat.pow_le_pow_right (by omega) h
 have hu:At op w v a=if op=31 then a else if op=32 then (if a/2^(v-1)=1 then a|||(maskN w-maskN v) else a) else a&&& maskN w:=by
  unfold At;rw[hm,hm2,Nat.and_two_pow_sub_one_eq_mod]
 generalize hM:maskN w=M at z2 hm hml hu;generalize hMv:maskN v=Mv at z3 hm2 hml2 hu;generalize hU:At op w v a=U at hu|-;clear hM hMv hU;have w1:¬(w:Int)<1:=by omega
 have w2:¬(64:Int)<(w:Int):=by omega
 refine gO [5] Tryz.func93 (by kernel_rfl) (by conv=>lhs;reduce;dsimp only[iA]) rfl ?_;by_cases o31:op=31
 ·rw[if_pos o31] at hu;subst hu o31;have hge:(v:Int)<=(w:Int):=by omega
  clear z2 z3 hm hm2 hle;repeat' (first|simp -implicitDefEqProofs -dsimp only[go_sem,seval,gt_iff_lt,ge_iff_le, *]|(with_reducible refine Zt λoF hoF hnF hnF'=>?_;try simp only[aa,ne_eq,not_and] at hoF)|refine kc1 (z1 _) ?_|refine fin_eq ?_)
 rw[if_neg o31] at hu;have b31:(op==31)=false:=by simp[o31]
 by_cases o32:op=32
 ·rw[if_pos o32] at hu;have hge:(v:Int)<=(w:Int):=by omega
  have hs0:IntKind.i64.wrap ((v:Int)-1)=((v-1:Nat):Int):=by rw[ah _ (by omega) (by omega)];omega
  have hnn:¬((v-1:Nat):Int)<0:=by omega
  have hmn:Nat.min (v-1) 64=v-1:=Nat.min_eq_left (by omega);have hfd:=uo a (v-1);have hle2:=hle (by omega);have hsub:IntKind.u64.wrap ((M:Int)-(Mv:Int))=((M-Mv:Nat):Int):=by rw[lx _ (by omega) (by omega)];omega
  have hor:=MA a (M-Mv) hal (by omega);have hge2:(v:Int)-1=((v-1:Nat):Int):=by omega
  by_cases hq:a/2^(v-1)=1
  ·rw[if_pos hq] at hu;have hqb:(((a/2^(v-1):Nat):Int)==1)=true:=by rw[hq];rfl
   subst hu o32;generalize hN:a|||(M-Mv)=N at hor|-
   generalize hG:M-Mv=G at hor hsub;generalize hH:a/2^(v-1)=H at hfd hqb;generalize hk:v-1=k at hs0 hnn hmn hfd hge2;clear hm hm2 hle hN hG hH hq hk hle2;repeat' (first|simp -implicitDefEqProofs -dsimp only[go_sem,seval,gt_iff_lt,ge_iff_le, *]|simp(disch:=omega) only[ah,aj,ao,aw,ar,ag,au,aq]|(with_reducible refine Zt λoF hoF hnF hnF'=>?_;try simp only[aa,ne_eq,not_and] at hoF)|refine kc1 (z1 _) ?_|with_reducible refine id_one0 (λtS hS=>z2 _) trivial ?_|with_reducible refine id_one0 (λtS hS=>z3 _) trivial ?_|refine fin_eq ?_)
  ·rw[if_neg hq] at hu;have hqb:(((a/2^(v-1):Nat):Int)==1)=false:=by rw[beq_eq_false_iff_ne];omega
   rw[hu];subst o32;clear hu;generalize hH:a/2^(v-1)=H at hfd hqb;generalize hk:v-1=k at hs0 hnn hmn hfd hge2;clear hm hm2 hle hH hq hk hle2 hor hsub z2 z3;repeat' (first|simp -implicitDefEqProofs -dsimp only[go_sem,seval,gt_iff_lt,ge_iff_le, *]|simp(disch:=omega) only[ah,aj,ao,aw,ar,ag,au,aq]|(with_reducible refine Zt λoF hoF hnF hnF'=>?_;try simp only[aa,ne_eq,not_and] at hoF)|refine kc1 (z1 _) ?_|refine fin_eq ?_)
 rw[if_neg o32] at hu;have b32:(op==32)=false:=by simp[o32]
 have o33:op=33:=by omega
 have hge:(w:Int)<=(v:Int):=by omega
 have hand:=sL a M hal hml;subst hu o33;generalize hN:a&&& M=N at hand|-;clear hm hm2 hle hN z3;repeat' (first|simp -implicitDefEqProofs -dsimp only[go_sem,seval,gt_iff_lt,ge_iff_le, *]|(with_reducible refine Zt λoF hoF hnF hnF'=>?_;try simp only[aa,ne_eq,not_and] at hoF)|refine kc1 (z1 _) ?_|with_reducible refine id_one0 (λtS hS=>z2 _) trivial ?_|refine fin_eq ?_)
theorem G3(c:Nat)(w a b:Nat)(σ:aA)(hc:c<=1)(hw:1<=w/\w<=64)(ha:a<2^w)(hb:b<2^w):
  C_ 91 [eB 1 c,eB w a,eB w b] σ (.tup [eB w (if c=1 then a else b), .int .i64 0]) σ:=by
 have z1:=λτ=>dq 1 c τ;have hc1:eZ 1 c=true:=iI.2 ⟨by omega,by simp;omega⟩;rw[hc1,if_pos rfl] at z1;have z2:=λτ=>dq w a τ;rw[j6 hw ha,if_pos rfl] at z2;have z3:=λτ=>dq w b τ;rw[j6 hw hb,if_pos rfl] at z3;have bne:((w:Int) != (w:Int))=false:=by simp
 clear hc1;refine gO [3,4,5] Tryz.func91 (by kernel_rfl) (by conv=>lhs;reduce;dsimp only[iA]) rfl ?_;by_cases h:c=1
 ·have hcb:((c:Int)==1)=true:=by rw[h];rfl
  rw[if_pos h];clear h;repeat' (first|simp -implicitDefEqProofs -dsimp only[go_sem,seval, *]|(with_reducible refine Zt λoF hoF hnF hnF'=>?_;try simp only[aa,ne_eq,not_and] at hoF)|refine kc1 (z1 _) ?_|refine kc1 (z2 _) ?_|refine kc1 (z3 _) ?_|refine fin_eq ?_)
 ·have hcb:((c:Int)==1)=false:=by rw[beq_eq_false_iff_ne];omega
  rw[if_neg h];clear h;repeat' (first|simp -implicitDefEqProofs -dsimp only[go_sem,seval, *]|(with_reducible refine Zt λoF hoF hnF hnF'=>?_;try simp only[aa,ne_eq,not_and] at hoF)|refine kc1 (z1 _) ?_|refine kc1 (z2 _) ?_|refine kc1 (z3 _) ?_|refine fin_eq ?_)
theorem ur{w:Int}{v:Nat}(hw:1<=w/\w<=64)(hv:v<18446744073709551616):
  (IntKind.u64.wrap ((BitVec.ofInt IntKind.u64.bits (v:Int)&&& ~~~ BitVec.ofInt IntKind.u64.bits (maskN w:Int)).toNat:Nat)==0)=decide (v<=maskN w):=by
 have hm:=gE hw;have hml:=iH w;have hp:=Nat.two_pow_pos w.toNat
 have e:(BitVec.ofInt 64 (v:Int)&&& ~~~ BitVec.ofInt 64 (maskN w:Int)).toNat=v-v%2^w.toNat:=by
  have e1:BitVec.ofInt 64 (v:Int)=BitVec.ofNat 64 v:=by simp
  have e2:BitVec.ofInt 64 (maskN w:Int)=BitVec.ofNat 64 (maskN w):=by simp
  rw[e1,e2];apply Nat.eq_of_testBit_eq
  intro i;rw[BitVec.testBit_toNat,BitVec.getLsbD_and,BitVec.getLsbD_not,BitVec.getLsbD_ofNat,BitVec.getLsbD_ofNat,hm,Nat.testBit_two_pow_sub_one]
  have hd:v-v%2^w.toNat=v/2^w.toNat*2^w.toNat:=by
   have:=Nat.div_add_mod v (2^w.toNat)
   rw[Nat.mul_comm] at this;omega
  rw[hd,Nat.testBit_mul_two_pow,Nat.testBit_div_two_pow];by_cases h1:i<64
  ·by_cases h2:w.toNat<=i
   ·have h3:¬i<w.toNat:=by omega
    simp[h1,h2,h3,Nat.sub_add_cancel h2]
   ·have h3:i<w.toNat:=by omega
    simp[h1,h2,h3]
  ·have hvb:v.testBit i=false:=Nat.testBit_lt_two_pow (Nat.lt_of_lt_of_le hv (by
    have:2^64<=2^i:=Nat.pow_le_pow_right (by omega) (by omega)
    have e:(2:Nat)^64=18446744073709551616:=by decide
    omega))
   by_cases h2:w.toNat<=i
   ·simp[h1,h2,Nat.sub_add_cancel h2,hvb]
   ·simp[h1,h2]
 show(IntKind.u64.wrap ((BitVec.ofInt 64 (v:Int)&&& ~~~ BitVec.ofInt 64 (maskN w:Int)).toNat:Nat)==0)=_
 have hle:=Nat.mod_le v (2^w.toNat);rw[e,lx _ (by omega) (by omega),Bool.eq_iff_iff,beq_iff_eq,decide_eq_true_eq,hm];have hmod:=Nat.mod_lt v hp;constructor
 ·intro h;omega
 ·intro h;have:v%2^w.toNat=v:=Nat.mod_eq_of_lt (by omega)
  omega
theorem G4(w:Int)(σ:aA):C_ 172 [.int .i64 w] σ (.int .u64 (maskN w)) σ:=by
 refine gO [] Tryz.func172 (by kernel_rfl) (by conv=>lhs;reduce;dsimp only[iA]) rfl ?_;by_cases h1:w<=0
 ·have e:maskN w=0:=by unfold maskN;rw[if_pos (by omega)]
  rw[e];clear e;repeat' (first|simp -implicitDefEqProofs -dsimp only[go_sem,seval, *]|(refine fin_eq ?_;repeat' simp -implicitDefEqProofs -dsimp only[go_sem,seval,Int.natCast_zero, *]))
 by_cases h2:w<64
 case neg=>
  have e:maskN w=18446744073709551615:=by unfold maskN;rw[if_neg (by omega),if_pos (by omega)]
  rw[e];clear e;repeat' (first|simp -implicitDefEqProofs -dsimp only[go_sem,seval, *]|refine fin_eq ?_)
 have h0:¬w<0:=by omega
 have hm:Nat.min w.toNat 64=w.toNat:=Nat.min_eq_left (by omega);have hlt:2^w.toNat<=2^63:=Nat.pow_le_pow_right (by omega) (by omega);have e63:(2:Nat)^63=9223372036854775808:=by decide
 have hp:=Nat.two_pow_pos w.toNat
 have hs:IntKind.u64.wrap (18446744073709551615*2^w.toNat)=((18446744073709551616-2^w.toNat:Nat):Int):=by
  have:=GZ 18446744073709551615 w.toNat
  have e:18446744073709551615*2^w.toNat=(18446744073709551616-2^w.toNat)+18446744073709551616*(2^w.toNat-1):=by
   generalize hN:2^w.toNat=N at hp hlt|-;omega
  rw[e,Nat.add_mul_mod_self_left,Nat.mod_eq_of_lt (by omega)] at this;exact this
 have e:maskN w=2^w.toNat-1:=gE (by omega);rw[e];generalize hN:2^w.toNat=N at hs hp hlt|-;clear e hN;repeat' (first|simp -implicitDefEqProofs -dsimp only[go_sem,seval, *]|refine fin_eq ?_)
 all_goals
  have ex:(BitVec.ofInt IntKind.u64.bits 18446744073709551615 ^^^ BitVec.ofInt IntKind.u64.bits ((18446744073709551616-N:Nat):Int)).toNat=N-1:=by
   show(BitVec.ofInt 64 18446744073709551615 ^^^ BitVec.ofInt 64 ((18446744073709551616-N:Nat):Int)).toNat=N-1
   have e1:BitVec.ofInt 64 18446744073709551615=BitVec.allOnes 64:=by decide
   rw[e1,BitVec.allOnes_xor,BitVec.ofInt_natCast,BitVec.toNat_not,BitVec.toNat_ofNat,Nat.mod_eq_of_lt (by omega)];omega
  rw[ex,gq];omega
theorem Ki(w:Int)(v:Nat)(hv:v<18446744073709551616)(σ:aA):C_ 108 [eB w v] σ (.bool (eZ w v)) σ:=by
 have c1:=λτ=>G4 w τ;have hb:eZ w v=decide (1<=w/\w<=64/\v<=maskN w):=rfl;have hn:=λh=>ur (w:=w) (v:=v) h hv;generalize hB:eZ w v=B at hb|-;generalize hM:maskN w=M at c1 hb hn;clear hB hM;refine gO [1] Tryz.func108 (by kernel_rfl) (by conv=>lhs;reduce;dsimp only[iA]) rfl ?_;by_cases h1:0<w
 case neg=>
  have hB:B=false:=by rw[hb];exact decide_eq_false (by omega)
  subst hB;clear hb hn;repeat' (first|simp -implicitDefEqProofs -dsimp only[go_sem,seval, *]|refine fin_eq ?_)
 by_cases h2:w<=64
 case neg=>
  have hB:B=false:=by rw[hb];exact decide_eq_false (by omega)
  subst hB;clear hb hn;repeat' (first|simp -implicitDefEqProofs -dsimp only[go_sem,seval, *]|refine fin_eq ?_)
 have hn:=hn (by omega);have hB:decide (v<=M)=B:=by rw[hb];congr 1;simp only[eq_iff_iff];omega
 rw[hB] at hn;clear hb hB;repeat' (first|simp -implicitDefEqProofs -dsimp only[go_sem,seval, *]|with_reducible refine id_one0 (λtS hS=>c1 _) trivial ?_|refine fin_eq ?_)
theorem C7(w:Int)(v:Nat)(hv:v<18446744073709551616)(σ:aA):C_ 58 [eB w v] σ (.int .i64 (if eZ w v then 0 else 1)) σ:=by
 have c1:=λτ=>Ki w v hv τ;generalize hB:eZ w v=B at c1|-;clear hB;refine gO [1] Tryz.func58 (by kernel_rfl) (by conv=>lhs;reduce;dsimp only[iA]) rfl ?_;cases B
 all_goals
  repeat' (first|simp -implicitDefEqProofs -dsimp only[go_sem,seval, *]|refine kc1 (c1 _) ?_|refine fin_eq ?_)
end Go.Proofs.YtbbihmmobfmadaaGreat
namespace Go.Proofs.YtbbihmmobfmadaaGreat
open Abs Fil Fil.Bl
abbrev co(b:Bu):AObj:=fi b.g b.e
theorem ye(o:Nat)(b:Bu)(g':Aig)(l e':Int)(F:Nat)(caps:List AV)(σ:aA)(h:σ o=some (co b))
  (hF:b.e=0->ACalls Tryz.prog F caps σ (λr σ'=>r= .ret (.tup [aQ g', .int .i64 l, .int .i64 e'])/\σ'=σ)):
  C_ 163 [.ptr o 0, .fn F [] caps] σ (.int .i64 (if b.e≠0 then 0 else if e'≠0 then 0 else l)) (aH σ o (co (if b.e≠0 then b else if e'≠0 then ⟨b.g,e'⟩ else ⟨g',0⟩))):=by
 have hu:aH σ o (co b)=σ:=by
  funext k
  by_cases hk:k=o
  ·subst hk;simp[aH,h]
  ·simp[aH,hk]
 obtain⟨L,hL⟩:∃L,(if b.e≠0 then (0:Int) else if e'≠0 then 0 else l)=L:=⟨_,rfl⟩;obtain⟨B,hB⟩:∃B,(if b.e≠0 then b else if e'≠0 then ⟨b.g,e'⟩ else ⟨g',0⟩:Bu)=B:=⟨_,rfl⟩;rw[hL,hB];by_cases hb:b.e=0
 ·simp only[hb,ne_eq,not_true_eq_false,if_false] at hL hB;have hF:=hF hb;by_cases he:e'=0
  ·simp only[he,not_true_eq_false,if_false] at hL hB;subst he hL hB;clear hu;refine gO [] Tryz.func163 (by kernel_rfl) (by conv=>lhs;reduce;dsimp only[iA]) rfl ?_;repeat' (first|simp -implicitDefEqProofs -dsimp only[go_sem,seval, *]|(with_reducible refine Zt λoF hoF hnF hnF'=>?_;try simp only[aa,ne_eq,not_and] at hoF)|refine kc1 (hF) ?_|refine fin_eq ?_)
  ·simp only[he,not_false_eq_true,if_true] at hL hB;subst hL hB;have heb:(e' != 0)=true:=by simpa using he
   clear hu he;refine gO [] Tryz.func163 (by kernel_rfl) (by conv=>lhs;reduce;dsimp only[iA]) rfl ?_;repeat' (first|simp -implicitDefEqProofs -dsimp only[go_sem,seval, *]|(with_reducible refine Zt λoF hoF hnF hnF'=>?_;try simp only[aa,ne_eq,not_and] at hoF)|refine kc1 (hF) ?_|refine fin_eq ?_)
 ·simp only[hb,ne_eq,not_false_eq_true,if_true] at hL hB;subst hL hB;rw[hu];have hbb:(b.e != 0)=true:=by simpa using hb
  clear hF hu hb;refine gO [] Tryz.func163 (by kernel_rfl) (by conv=>lhs;reduce;dsimp only[iA]) rfl ?_;repeat' (first|simp -implicitDefEqProofs -dsimp only[go_sem,seval, *]|refine fin_eq ?_)
end Go.Proofs.YtbbihmmobfmadaaGreat
