/- Plain laws of layer 9 (widths): what is sized is sized once. -/
import Derived.Test.YtbbihmmobfmadaaGreatWAigVal
set_option linter.unusedSimpArgs false
set_option linter.unusedVariables false
namespace Fil.Sz
open Abs
theorem att{α β:Type}(l:List α)(f:α->β):(l.attach.map λx=>f x.1)=l.map f:=List.attach_map_val
inductive E where
 |mk(op w v sig hi lo n:Int)(l:List E)
namespace E
def op:E->Int| .mk a _ _ _ _ _ _ _=>a
def w:E->Int| .mk _ a _ _ _ _ _ _=>a
def v:E->Int| .mk _ _ a _ _ _ _ _=>a
def sig:E->Int| .mk _ _ _ a _ _ _ _=>a
def hi:E->Int| .mk _ _ _ _ a _ _ _=>a
def lo:E->Int| .mk _ _ _ _ _ a _ _=>a
def n:E->Int| .mk _ _ _ _ _ _ a _=>a
def l:E->List E| .mk _ _ _ _ _ _ _ a=>a
section
variable (a b c d e f g : Int) (m : List E)
theorem mk_op:(E.mk a b c d e f g m).op=a:=rfl
theorem MT:(E.mk a b c d e f g m).w=b:=rfl
theorem MU:(E.mk a b c d e f g m).v=c:=rfl
theorem mk_sig:(E.mk a b c d e f g m).sig=d:=rfl
theorem mk_hi:(E.mk a b c d e f g m).hi=e:=rfl
theorem mk_lo:(E.mk a b c d e f g m).lo=f:=rfl
theorem MV:(E.mk a b c d e f g m).n=g:=rfl
theorem mk_l:(E.mk a b c d e f g m).l=m:=rfl
end
attribute [go_sem] mk_op MT MU mk_sig mk_hi mk_lo MV mk_l
theorem lt{e x:E}(h:x∈e.l):sizeOf x<sizeOf e:=by
 cases e;have:=List.sizeOf_lt_of_mem h;simp only[E.l] at*;simp;omega
theorem ind{P:E->Prop}(h:∀e,(∀x∈e.l,P x)->P e)(e:E):P e:=h e λx hx=>E.ind h x
termination_by e
decreasing_by exact E.lt hx
theorem ext{e x:E}(h1:e.op=x.op)(h2:e.w=x.w)(h3:e.v=x.v)(h4:e.sig=x.sig)(h5:e.hi=x.hi)(h6:e.lo=x.lo)(h7:e.n=x.n)(h8:e.l=x.l):e=x:=by
 cases e;cases x;simp only[op,w,v,sig,hi,lo,n,l] at*;subst_vars;rfl
theorem eq_iff{e x:E}:e=x↔e.op=x.op/\e.w=x.w/\e.v=x.v/\e.sig=x.sig/\e.hi=x.hi/\e.lo=x.lo/\e.n=x.n/\e.l=x.l:=
 ⟨λh=>by subst h;simp,fun⟨h1,h2,h3,h4,h5,h6,h7,h8⟩=>ext h1 h2 h3 h4 h5 h6 h7 h8⟩
end E
def zE:E:= .mk 0 0 0 0 0 0 0 []
def jF(e:E):List AV:=e.l.attach.map λx=> .agg [.int .i64 x.1.op, .int .i64 x.1.w, .int .u64 x.1.v, .int .i64 x.1.sig, .int .i64 x.1.hi, .int .i64 x.1.lo, .int .i64 x.1.n, .slice (jF x.1) .no]
termination_by e
decreasing_by exact E.lt x.2
abbrev eL(e:E):List AV:=[.int .i64 e.op, .int .i64 e.w, .int .u64 e.v, .int .i64 e.sig, .int .i64 e.hi, .int .i64 e.lo, .int .i64 e.n, .slice (jF e) .no]
abbrev encE(e:E):AV:= .agg (eL e)
theorem encEs_eq(e:E):jF e=e.l.map encE:=by rw[jF];exact att _ encE
theorem Mj(l:List E):iy 8 (l.map encE)=True:=dJ _ _ _ λ_=>rfl
attribute [go_sem] Mj
inductive T where
 |mk(op sig hi lo:Int)(e:List E)(l:List T)
namespace T
def op:T->Int| .mk a _ _ _ _ _=>a
def sig:T->Int| .mk _ a _ _ _ _=>a
def hi:T->Int| .mk _ _ a _ _ _=>a
def lo:T->Int| .mk _ _ _ a _ _=>a
def e:T->List E| .mk _ _ _ _ a _=>a
def l:T->List T| .mk _ _ _ _ _ a=>a
section
variable (a b c d : Int) (m : List E) (k : List T)
theorem mk_op:(T.mk a b c d m k).op=a:=rfl
theorem mk_sig:(T.mk a b c d m k).sig=b:=rfl
theorem mk_hi:(T.mk a b c d m k).hi=c:=rfl
theorem mk_lo:(T.mk a b c d m k).lo=d:=rfl
theorem mk_e:(T.mk a b c d m k).e=m:=rfl
theorem mk_l:(T.mk a b c d m k).l=k:=rfl
end
attribute [go_sem] mk_op mk_sig mk_hi mk_lo mk_e mk_l
theorem lt{t x:T}(h:x∈t.l):sizeOf x<sizeOf t:=by
 cases t;have:=List.sizeOf_lt_of_mem h;simp only[T.l] at*;simp;omega
theorem ind{P:T->Prop}(h:∀t,(∀x∈t.l,P x)->P t)(t:T):P t:=h t λx hx=>T.ind h x
termination_by t
decreasing_by exact T.lt hx
theorem eq_iff{t x:T}:t=x↔t.op=x.op/\t.sig=x.sig/\t.hi=x.hi/\t.lo=x.lo/\t.e=x.e/\t.l=x.l:=by
 constructor
 ·rintro rfl;simp
 ·cases t;cases x;simp only[op,sig,hi,lo,e,l];rintro⟨rfl,rfl,rfl,rfl,rfl,rfl⟩;rfl
end T
def zT:T:= .mk 0 0 0 0 [] []
def uA(t:T):List AV:=t.l.attach.map λx=> .agg [.int .i64 x.1.op, .int .i64 x.1.sig, .int .i64 x.1.hi, .int .i64 x.1.lo, .slice (x.1.e.map encE) .no, .slice (uA x.1) .no]
termination_by t
decreasing_by exact T.lt x.2
abbrev tL(t:T):List AV:=[.int .i64 t.op, .int .i64 t.sig, .int .i64 t.hi, .int .i64 t.lo, .slice (t.e.map encE) .no, .slice (uA t) .no]
abbrev encT(t:T):AV:= .agg (tL t)
theorem bA(t:T):uA t=t.l.map encT:=by rw[uA];exact att _ encT
theorem Mk(l:List T):iy 6 (l.map encT)=True:=dJ _ _ _ λ_=>rfl
structure Sg where
 name:ByteArray
 w:Int
 kind:Int
 init:Int
def zS:Sg:=⟨⟨#[]⟩,0,0,0⟩
abbrev encS(s:Sg):AV:= .agg [.str s.name, .int .i64 s.w, .int .i64 s.kind, .int .u64 s.init]
theorem Ml(l:List Sg):iy 4 (l.map encS)=True:=dJ _ _ _ λ_=>rfl
structure Pr where
 clk:Bool
 l:List T
abbrev encP(p:Pr):AV:= .agg [.bool p.clk, .slice (p.l.map encT) .no]
theorem Do(l:List Pr):iy 2 (l.map encP)=True:=dJ _ _ _ λ_=>rfl
structure Ck where
 name:ByteArray
 e:E
abbrev encC(c:Ck):AV:= .agg (.str c.name::eL c.e)
theorem Mm(l:List Ck):iy 9 (l.map encC)=True:=dJ _ _ _ λ_=>rfl
structure Flat where
 sigs:List Sg
 procs:List Pr
 chks:List Ck
abbrev dL(d:Flat):List AV:=[.slice (d.sigs.map encS) .no, .slice (d.procs.map encP) .no, .slice (d.chks.map encC) .no]
abbrev encD(d:Flat):AV:= .agg (dL d)
attribute [go_sem] Mk Ml Do Mm
def EI(a:Int):Prop:=0<=a/\a<=18446744073709551615
def WfE(e:E):Prop:=(I64 e.op/\I64 e.w/\EI e.v/\I64 e.sig/\I64 e.hi/\I64 e.lo/\I64 e.n)/\∀x,(h:x∈e.l)->WfE x
termination_by e
decreasing_by exact E.lt h
def kp(t:T):Prop:=(I64 t.op/\I64 t.sig/\I64 t.hi/\I64 t.lo)/\(∀x∈t.e,WfE x)/\∀x,(h:x∈t.l)->kp x
termination_by t
decreasing_by exact T.lt h
theorem WfE_iff(e:E):WfE e↔(I64 e.op/\I64 e.w/\EI e.v/\I64 e.sig/\I64 e.hi/\I64 e.lo/\I64 e.n)/\∀x∈e.l,WfE x:=by rw[WfE]
theorem dK(t:T):kp t↔(I64 t.op/\I64 t.sig/\I64 t.hi/\I64 t.lo)/\(∀x∈t.e,WfE x)/\∀x∈t.l,kp x:=by rw[kp]
def MD(s:Sg):Prop:=I64 s.w/\I64 s.kind/\EI s.init
def cZ(l:List Nat):Nat:=l.foldr max 0
def nodes(e:E):Nat:=1+(e.l.attach.map λx=>nodes x.1).sum
termination_by e
decreasing_by exact E.lt x.2
def deep(e:E):Nat:=1+cZ (e.l.attach.map λx=>deep x.1)
termination_by e
decreasing_by exact E.lt x.2
def nodesT(t:T):Nat:=1+(t.e.map nodes).sum+(t.l.attach.map λx=>nodesT x.1).sum
termination_by t
decreasing_by exact T.lt x.2
def deepT(t:T):Nat:=1+max (cZ (t.e.map deep)) (cZ (t.l.attach.map λx=>deepT x.1))
termination_by t
decreasing_by exact T.lt x.2
theorem bK(e:E):nodes e=1+(e.l.map nodes).sum:=by rw[nodes];rw[att e.l nodes]
theorem lF(e:E):deep e=1+cZ (e.l.map deep):=by rw[deep];rw[att e.l deep]
theorem bR(t:T):nodesT t=1+(t.e.map nodes).sum+(t.l.map nodesT).sum:=by rw[nodesT];rw[att t.l nodesT]
theorem jG(t:T):deepT t=1+max (cZ (t.e.map deep)) (cZ (t.l.map deepT)):=by rw[deepT];rw[att t.l deepT]
def holds(w v:Int):Bool:=decide (v<2^w.toNat)
def place(g:List Sg)(sig hi lo:Int):Bool:=decide (0<=sig)&&decide (sig<g.length)&&decide (0<=lo)&&decide (lo<=hi)&&decide (hi<(g.getD sig.toNat zS).w)
def i8(g:List Sg)(e:E):Bool:=
 if e.op=1 then decide (e.sig=0/\e.hi=0/\e.lo=0/\e.n=0/\e.l.length=0/\0<=e.w/\e.w<=64)&&(decide (e.w=0)||holds e.w e.v)
 else if e.op=2 then decide (e.v=0/\e.n=0/\e.l.length=0)&&place g e.sig e.hi e.lo
 else if e.op=3 then decide (e.v=0/\e.hi=0/\e.lo=0/\e.n=0/\e.l.length=1/\0<=e.sig/\e.sig<g.length)
 else if e.op=4 then decide (e.v=0/\e.sig=0/\e.hi=0/\e.lo=0/\e.l.length=1/\1<=e.n/\e.n<=6)
 else if e.op=5 then decide (e.v=0/\e.sig=0/\e.hi=0/\e.lo=0/\e.l.length=2/\11<=e.n/\e.n<=26)
 else if e.op=6 then decide (e.v=0/\e.sig=0/\e.hi=0/\e.lo=0/\e.n=0/\e.l.length=3)
 else if e.op=7 then decide (e.v=0/\e.sig=0/\e.hi=0/\e.lo=0/\e.n=0/\0<e.l.length)
 else if e.op=8 then decide (e.v=0/\e.sig=0/\e.hi=0/\e.lo=0/\e.l.length=1/\31<=e.n/\e.n<=33/\1<=e.w/\e.w<=64)
 else false
def shp(g:List Sg)(e:E):Bool:=i8 g e&&(e.l.attach.map λx=>shp g x.1).all id
termination_by e
decreasing_by exact E.lt x.2
theorem mE(g:List Sg)(e:E):shp g e=(i8 g e&&e.l.all (shp g)):=by
 rw[shp];congr 1;rw[att e.l (shp g),List.all_map];rfl
def mG(l:List T):Prop:=0<l.length/\∀i,(h:i<l.length)->((l[i].e.length=0)↔i+1=l.length)
instance(l:List T):Decidable (mG l):=by unfold mG;infer_instance
def KT(g:List Sg)(t:T):Bool×Bool:=
  let r:=t.l.attach.map λx=>KT g x.1
  (if t.op=1 then t.e.all (shp g)&&decide (t.e.length=1/\t.l.length=0)&&place g t.sig t.hi t.lo
   else decide (t.sig=0/\t.hi=0/\t.lo=0)&&t.e.all (shp g)&&
    (if t.op=2 then decide (t.e.length=1/\t.l.length=2)&&t.l.all (λx=>decide (x.op=5))&&r.all (·.1)
     else if t.op=3 then decide (t.e.length=1)&&decide (mG t.l)&&r.all (·.2)
     else if t.op=5 then decide (t.e.length=0)&&r.all (·.1)
     else false),
   decide (t.op=4/\t.sig=0/\t.hi=0/\t.lo=0)&&t.e.all (λe=>decide (e.op=1)&&shp g e)&&r.all (·.1))
termination_by t
decreasing_by exact T.lt x.2
def bi(g:List Sg)(t:T):Bool:=(KT g t).1
def fX(g:List Sg)(t:T):Bool:=(KT g t).2
def d7(g:List Sg)(l:List T):Bool:=decide (mG l)&&l.all (fX g)
theorem i9(g:List Sg)(t:T):bi g t=(if t.op=1 then t.e.all (shp g)&&decide (t.e.length=1/\t.l.length=0)&&place g t.sig t.hi t.lo
   else decide (t.sig=0/\t.hi=0/\t.lo=0)&&t.e.all (shp g)&&
    (if t.op=2 then decide (t.e.length=1/\t.l.length=2)&&t.l.all (λx=>decide (x.op=5))&&t.l.all (bi g)
     else if t.op=3 then decide (t.e.length=1)&&d7 g t.l
     else if t.op=5 then decide (t.e.length=0)&&t.l.all (bi g)
     else false)):=by
  unfold bi;rw[KT,att t.l (KT g)];simp only[List.all_map,d7,Bool.decide_and,Bool.and_assoc];rfl
theorem gZ(g:List Sg)(t:T):fX g t=(decide (t.op=4/\t.sig=0/\t.hi=0/\t.lo=0)&&t.e.all (λe=>decide (e.op=1)&&shp g e)&&t.l.all (bi g)):=by
 unfold fX;rw[KT,att t.l (KT g)];simp only[List.all_map];rfl
def cF:List Int->Int
 |[]=>0
 |a::l=>if a=0 then cF l else a
def kN(l:List Int):Int:=if 0∈l then 0 else l.sum
def own(e:E):Int:=
 let o:=e.l.attach.map λx=>own x.1
 if e.op=1\/e.op=8 then e.w
 else if e.op=2 then e.hi-e.lo+1
 else if e.op=7 then kN o
 else if e.op=6 then cF (o.drop 1)
 else if e.op=4/\e.n<=2 then o.headD 0
 else if e.op=5/\e.n<=16 then cF o
 else if e.op=5/\e.n<=18 then o.headD 0
 else 1
termination_by e
decreasing_by exact E.lt x.2
theorem jH(e:E):own e=(if e.op=1\/e.op=8 then e.w
 else if e.op=2 then e.hi-e.lo+1
 else if e.op=7 then kN (e.l.map own)
 else if e.op=6 then cF ((e.l.map own).drop 1)
 else if e.op=4/\e.n<=2 then (e.l.map own).headD 0
 else if e.op=5/\e.n<=16 then cF (e.l.map own)
 else if e.op=5/\e.n<=18 then (e.l.map own).headD 0
 else 1):=by rw[own];rw[att e.l own]
def cw(w other:Int):Int:=if w=0 then other else w
def cX(e:E)(w:Int):Option (List Int):=
 let all (k:Int):=some (List.replicate e.l.length k)
 if e.op=6 then some [-1,w,w]
 else if e.op=7 then if own e=0\/own e≠w\/64<own e then none else all 0
 else if e.op=4\/e.op=5 then
  if e.n=6\/e.n=25\/e.n=26 then if w≠1 then none else all (-1)
  else if e.n=3\/e.n=4\/e.n=5 then if w≠1 then none else all 0
  else if 19<=e.n/\e.n<=24 then if w≠1 then none else all (cw (cF (e.l.map own)) 32)
  else if e.n=17\/e.n=18 then some [w,0]
  else all w
 else if own e≠w then none else all 0
def aO:List (Int->E×Int)->List Int->List E×Int
 |f::fs,w::ws=>if (f w).2≠0 then ([],(f w).2) else if (aO fs ws).2≠0 then ([],(aO fs ws).2) else ((f w).1::(aO fs ws).1,0)
 |_,_=>([],0)
def E.set(e:E)(w:Int)(l:List E):E:= .mk e.op w e.v e.sig e.hi e.lo e.n l
def wide(e:E)(w:Int):Int:=cw (if w= -1 then 1 else w) (cw (own e) 32)
def dM(l:List E):Int:=(l.headD zE).w
def size(e:E):Int->E×Int:=
 let r:=e.l.attach.map λx=>size x.1
 λw=>
  if w= -1/\1<own e then (zE,91)
  else if e.op=1/\e.w=0 then if holds (wide e w) e.v then (.mk 1 (wide e w) e.v 0 0 0 0 [],0) else (zE,92)
  else match cX e (wide e w) with
   |none=>(zE,90)
   |some ws=>
    if (aO r ws).2≠0 then (zE,(aO r ws).2)
    else if e.op=8/\(e.n=33/\dM (aO r ws).1<wide e w\/e.n≠33/\wide e w<dM (aO r ws).1) then (zE,90)
    else (e.set (wide e w) (aO r ws).1,0)
termination_by e
decreasing_by exact E.lt x.2
def jl(e:E)(w:Int)(r:List E×Int):E×Int:=
 if r.2≠0 then (zE,r.2)
 else if e.op=8/\(e.n=33/\dM r.1<wide e w\/e.n≠33/\wide e w<dM r.1) then (zE,90)
 else (e.set (wide e w) r.1,0)
theorem fK(e:E)(w:Int):size e w=(if w= -1/\1<own e then (zE,91)
  else if e.op=1/\e.w=0 then if holds (wide e w) e.v then (.mk 1 (wide e w) e.v 0 0 0 0 [],0) else (zE,92)
  else match cX e (wide e w) with
   |none=>(zE,90)
   |some ws=>jl e w (aO (e.l.map size) ws)):=by
 conv=>lhs;rw[size]
 rw[att e.l size];rfl
end Fil.Sz
namespace Fil.Sz
open Abs
theorem AA{l:List Int}(h:∀a∈l,a=0):cF l=0:=by
 induction l with
 |nil=>rfl
 |cons a l ih=>
  have ha:a=0:=h a (by simp);unfold cF;rw[if_pos ha];exact ih λb hb=>h b (by simp[hb])
theorem fst0_cases(l:List Int):cF l=0\/cF l∈l:=by
 induction l with
 |nil=>exact .inl rfl
 |cons a l ih=>
  unfold cF;split
  ·rcases ih with h|h
   ·exact .inl h
   ·exact .inr (by simp[h])
  ·exact .inr (by simp)
theorem fY{l:List Int}(h:∀a∈l,0<=a):0<=cF l:=by
 rcases fst0_cases l with e|e
 ·omega
 ·exact h _ e
theorem sum_nonneg{l:List Int}(h:∀a∈l,0<=a):0<=l.sum:=by
 induction l with
 |nil=>simp
 |cons a l ih=>
  have:=h a (by simp)
  have:=ih λb hb=>h b (by simp[hb])
  rw[List.sum_cons];omega
theorem uB{l:List Int}(h:∀a∈l,0<=a):0<=kN l:=by
 unfold kN;split
 ·omega
 ·exact sum_nonneg h
theorem Dp{l:List E}{f:E->Int}(h:∀x∈l,f x<=64*nodes x):(l.map f).sum<=64*((l.map nodes).sum:Nat):=by
 induction l with
 |nil=>simp
 |cons a l ih=>
  have:=h a (by simp)
  have:=ih λb hb=>h b (by simp[hb])
  simp only[List.map_cons,List.sum_cons];omega
theorem AB{l:List E}{x:E}(h:x∈l):nodes x<=(l.map nodes).sum:=by
 induction l with
 |nil=>cases h
 |cons a l ih=>
  simp only[List.map_cons,List.sum_cons];rcases List.mem_cons.1 h with rfl|h
  ·omega
  ·have:=ih h;omega
theorem part_nodes{e x:E}(h:x∈e.l):nodes x<nodes e:=by
 rw[bK e];have:=AB h;omega
def dg(g:List Sg):Prop:=∀s∈g,1<=s.w/\s.w<=64
theorem place_iff{g:List Sg}{sig hi lo:Int}:place g sig hi lo=true↔0<=sig/\sig<g.length/\0<=lo/\lo<=hi/\hi<(g.getD sig.toNat zS).w:=by
 simp only[place,Bool.and_eq_true,decide_eq_true_eq,and_assoc]
theorem dU{g:List Sg}(hg:dg g){sig hi lo:Int}(h:place g sig hi lo=true):0<=lo/\lo<=hi/\hi<=63:=by
 obtain⟨h1,h2,h3,h4,h5⟩:=place_iff.1 h;have hl:sig.toNat<g.length:=by omega
 have:=hg _ (List.getElem_mem hl)
 rw[List.getD_eq_getElem?_getD,List.getElem?_eq_getElem hl] at h5;simp only[Option.getD_some] at h5;omega
inductive Nd(g:List Sg)(e:E):Prop
 |num (h:e.op=1) (h1:e.sig=0) (h2:e.hi=0) (h3:e.lo=0) (h4:e.n=0) (h5:e.l=[]) (h6:0<=e.w) (h7:e.w<=64) (h8:e.w=0\/holds e.w e.v=true)
 |sig (h:e.op=2) (h1:e.v=0) (h4:e.n=0) (h5:e.l=[]) (h6:place g e.sig e.hi e.lo=true)
 |idx (h:e.op=3) (h1:e.v=0) (h2:e.hi=0) (h3:e.lo=0) (h4:e.n=0) (a:E) (h5:e.l=[a]) (h6:0<=e.sig) (h7:e.sig<g.length)
 |un (h:e.op=4) (h0:e.v=0) (h1:e.sig=0) (h2:e.hi=0) (h3:e.lo=0) (a:E) (h5:e.l=[a]) (h6:1<=e.n) (h7:e.n<=6)
 |bin (h:e.op=5) (h0:e.v=0) (h1:e.sig=0) (h2:e.hi=0) (h3:e.lo=0) (a b:E) (h5:e.l=[a,b]) (h6:11<=e.n) (h7:e.n<=26)
 |cond (h:e.op=6) (h0:e.v=0) (h1:e.sig=0) (h2:e.hi=0) (h3:e.lo=0) (h4:e.n=0) (a b c:E) (h5:e.l=[a,b,c])
 |cat (h:e.op=7) (h0:e.v=0) (h1:e.sig=0) (h2:e.hi=0) (h3:e.lo=0) (h4:e.n=0) (h5:0<e.l.length)
 |ext (h:e.op=8) (h0:e.v=0) (h1:e.sig=0) (h2:e.hi=0) (h3:e.lo=0) (a:E) (h5:e.l=[a]) (h6:31<=e.n) (h7:e.n<=33) (h8:1<=e.w) (h9:e.w<=64)
theorem len1{α:Type}{l:List α}(h:l.length=1):∃a,l=[a]:=by
 match l,h with
 |[a],_=>exact⟨a,rfl⟩
theorem len2{α:Type}{l:List α}(h:l.length=2):∃a b,l=[a,b]:=by
 match l,h with
 |[a,b],_=>exact⟨a,b,rfl⟩
theorem len3{α:Type}{l:List α}(h:l.length=3):∃a b c,l=[a,b,c]:=by
 match l,h with
 |[a,b,c],_=>exact⟨a,b,c,rfl⟩
theorem yB{g:List Sg}{e:E}(h:i8 g e=true):Nd g e:=by
 unfold i8 at h;split at h
 ·simp only[Bool.and_eq_true,Bool.or_eq_true,decide_eq_true_eq] at h;obtain⟨⟨h1,h2,h3,h4,h5,h6,h7⟩,h8⟩:=h;exact .num (by assumption) h1 h2 h3 h4 (List.eq_nil_of_length_eq_zero h5) h6 h7 h8
 split at h
 ·simp only[Bool.and_eq_true,decide_eq_true_eq] at h;obtain⟨⟨h1,h2,h3⟩,h4⟩:=h;exact .sig (by assumption) h1 h2 (List.eq_nil_of_length_eq_zero h3) h4
 split at h
 ·simp only[decide_eq_true_eq] at h;obtain⟨h1,h2,h3,h4,h5,h6,h7⟩:=h;obtain⟨a,ha⟩:=len1 h5;exact .idx (by assumption) h1 h2 h3 h4 a ha h6 h7
 split at h
 ·simp only[decide_eq_true_eq] at h;obtain⟨h1,h2,h3,h4,h5,h6,h7⟩:=h;obtain⟨a,ha⟩:=len1 h5;exact .un (by assumption) h1 h2 h3 h4 a ha h6 h7
 split at h
 ·simp only[decide_eq_true_eq] at h;obtain⟨h1,h2,h3,h4,h5,h6,h7⟩:=h;obtain⟨a,b,ha⟩:=len2 h5;exact .bin (by assumption) h1 h2 h3 h4 a b ha h6 h7
 split at h
 ·simp only[decide_eq_true_eq] at h;obtain⟨h1,h2,h3,h4,h5,h6⟩:=h;obtain⟨a,b,c,ha⟩:=len3 h6;exact .cond (by assumption) h1 h2 h3 h4 h5 a b c ha
 split at h
 ·simp only[decide_eq_true_eq] at h;obtain⟨h1,h2,h3,h4,h5,h6⟩:=h;exact .cat (by assumption) h1 h2 h3 h4 h5 h6
 split at h
 ·simp only[decide_eq_true_eq] at h;obtain⟨h1,h2,h3,h4,h5,h6,h7,h8,h9⟩:=h;obtain⟨a,ha⟩:=len1 h5;exact .ext (by assumption) h1 h2 h3 h4 a ha h6 h7 h8 h9
 ·simp at h
theorem d8{g:List Sg}{e:E}(h:shp g e=true):Nd g e:=by
 rw[mE,Bool.and_eq_true] at h;exact yB h.1
theorem aY{g:List Sg}{e x:E}(h:shp g e=true)(hx:x∈e.l):shp g x=true:=by
 rw[mE,Bool.and_eq_true,List.all_eq_true] at h;exact h.2 x hx
theorem qD{e:E}(h:e.op=1):own e=e.w:=by rw[jH,if_pos (.inl h)]
theorem xo{e:E}(h:e.op=8):own e=e.w:=by rw[jH,if_pos (.inr h)]
theorem uC{e:E}(h:e.op=2):own e=e.hi-e.lo+1:=by rw[jH,if_neg (by omega),if_pos h]
theorem s6{e:E}(h:e.op=7):own e=kN (e.l.map own):=by rw[jH,if_neg (by omega),if_neg (by omega),if_pos h]
theorem AC{e:E}(h:e.op=6):own e=cF ((e.l.map own).drop 1):=by rw[jH,if_neg (by omega),if_neg (by omega),if_neg (by omega),if_pos h]
theorem AD{e:E}(h:e.op=4):own e=if e.n<=2 then (e.l.map own).headD 0 else 1:=by
 rw[jH,if_neg (by omega),if_neg (by omega),if_neg (by omega),if_neg (by omega)];by_cases h1:e.n<=2
 ·rw[if_pos ⟨h,h1⟩,if_pos h1]
 ·rw[if_neg (by omega),if_neg (by omega),if_neg (by omega),if_neg h1]
theorem AE{e:E}(h:e.op=5):own e=if e.n<=16 then cF (e.l.map own) else if e.n<=18 then (e.l.map own).headD 0 else 1:=by
 rw[jH,if_neg (by omega),if_neg (by omega),if_neg (by omega),if_neg (by omega),if_neg (by omega)];by_cases h1:e.n<=16
 ·rw[if_pos ⟨h,h1⟩,if_pos h1]
 ·rw[if_neg (by omega),if_neg h1];by_cases h2:e.n<=18
  ·rw[if_pos ⟨h,h2⟩,if_pos h2]
  ·rw[if_neg (by omega),if_neg h2]
theorem uD{e:E}(h:e.op=3):own e=1:=by
 rw[jH,if_neg (by omega),if_neg (by omega),if_neg (by omega),if_neg (by omega),if_neg (by omega),if_neg (by omega),if_neg (by omega)]
theorem bI{g:List Sg}(hg:dg g)(e:E):shp g e=true->0<=own e:=by
 refine E.ind (P:=λe=>shp g e=true->0<=own e) (λe ih h=>?_) e
 have ih':∀a∈e.l.map own,0<=a:=λa ha=>by
  obtain⟨x,hx,rfl⟩:=List.mem_map.1 ha;exact ih x hx (aY h hx)
 have ihd:∀a∈(e.l.map own).drop 1,0<=a:=λa ha=>ih' a (List.mem_of_mem_drop ha)
 have hhd:0<=(e.l.map own).headD 0:=by
  cases hl:e.l.map own with
  |nil=>simp
  |cons a l=>rw[hl] at ih';exact ih' a (by simp)
 cases d8 h with
 |num h1 _ _ _ _ _ h6 _ _=>rw[qD h1];exact h6
 |sig h1 _ _ _ h6=>
  have:=dU hg h6
  rw[uC h1];omega
 |idx h1=>rw[uD h1];omega
 |un h1=>rw[AD h1];split<;>first|exact hhd|omega
 |bin h1=>
  rw[AE h1];split
  ·exact fY ih'
  ·split<;>first|exact hhd|omega
 |cond h1=>rw[AC h1];exact fY ihd
 |cat h1=>rw[s6 h1];exact uB ih'
 |ext h1=>rw[xo h1];omega
theorem Dq{g:List Sg}(hg:dg g)(e:E):shp g e=true->own e<=64*nodes e:=by
 refine E.ind (P:=λe=>shp g e=true->own e<=64*nodes e) (λe ih h=>?_) e;have hn:=bK e
 have ih':∀x∈e.l,own x<=64*nodes e:=λx hx=>by
  have:=ih x hx (aY h hx);have:=part_nodes hx;omega
 have ihm:∀a∈e.l.map own,a<=64*nodes e:=λa ha=>by
  obtain⟨x,hx,rfl⟩:=List.mem_map.1 ha;exact ih' x hx
 have hf:∀m:List Int,(∀a∈m,a∈e.l.map own)->cF m<=64*nodes e:=λm hm=>by
  rcases fst0_cases m with q|q
  ·omega
  ·exact ihm _ (hm _ q)
 have hhd:(e.l.map own).headD 0<=64*nodes e:=by
  cases hl:e.l.map own with
  |nil=>simp only[List.headD_nil];omega
  |cons a l=>rw[hl] at ihm;exact ihm a (by simp)
 cases d8 h with
 |num h1 _ _ _ _ _ h6 h7 _=>rw[qD h1];omega
 |sig h1 _ _ _ h6=>
  have:=dU hg h6
  rw[uC h1];omega
 |idx h1=>rw[uD h1];omega
 |un h1=>rw[AD h1];split<;>first|exact hhd|omega
 |bin h1=>
  rw[AE h1];split
  ·exact hf _ λa ha=>ha
  ·split<;>first|exact hhd|omega
 |cond h1=>rw[AC h1];exact hf _ λa ha=>List.mem_of_mem_drop ha
 |cat h1=>
  rw[s6 h1];unfold kN;split
  ·omega
  ·have:=Dp (l:=e.l) (f:=own) λx hx=>ih x hx (aY h hx)
   omega
 |ext h1 _ _ _ _ _ _ _ _ _ h9=>rw[xo h1];omega
end Fil.Sz
