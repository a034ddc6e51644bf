/- What gates mean. -/
import Derived.Test.YtbbihmmobfmadaaGreatVAbsKx
import Derived.Test.YtbbihmmobfmadaaGreatVBlzC2
set_option linter.unusedSimpArgs false
set_option linter.unusedVariables false
set_option maxHeartbeats 4000000
set_option maxRecDepth 50000
namespace Fil
open Abs
structure Flop where
 next:Int
 init:Bool
 deriving DecidableEq,Repr
structure Aig where
 ins:Int
 flops:List Flop
 ands:List (Int×Int)
 outs:List Int
 deriving DecidableEq,Repr
abbrev encFlop(f:Flop):AV:= .agg [.int .i64 f.next, .bool f.init]
abbrev encGate(g:Int×Int):AV:= .agg [.int .i64 g.1, .int .i64 g.2]
abbrev encInt(a:Int):AV:= .int .i64 a
abbrev rM(a:Bool):AV:= .bool a
abbrev gg(g:Aig):List AV:=[.int .i64 g.ins, .slice (g.flops.map encFlop) .no, .slice (g.ands.map encGate) .no, .slice (g.outs.map encInt) .no]
abbrev aJ(g:Aig):AV:= .agg (gg g)
abbrev eS(g:Aig)(e:Int):AObj:= .cells [.int .i64 g.ins, .slice (g.flops.map encFlop) .no, .slice (g.ands.map encGate) .no, .slice (g.outs.map encInt) .no, .int .i64 e]
def I64(a:Int):Prop:= -9223372036854775808<=a/\a<=9223372036854775807
structure Wf(g:Aig):Prop where
 ins:I64 g.ins
 flops:g.flops.length<=1000000
 ands:g.ands.length<=1000000
 outs:g.outs.length<=1000000
 nexts:∀f∈g.flops,I64 f.next
 gates:∀x∈g.ands,I64 x.1/\I64 x.2
 lits:∀a∈g.outs,I64 a
structure Small(g:Aig):Prop extends Wf g where
 lo:0<=g.ins
 hi:g.ins<=1000000
namespace Aig
def count(g:Aig):Int:=g.ins+g.flops.length+g.ands.length
def first(g:Aig):Int:=1+g.ins+g.flops.length
def litN(n a:Int):Bool:=decide (0<=a)&&decide (a<2*n)
def lit(g:Aig)(a:Int):Bool:=litN (1+g.count) a
def gatesOk:Int->List (Int×Int)->Bool
 |_,[]=>true
 |n,x::l=>litN n x.1&&litN n x.2&&gatesOk (n+1) l
def good(g:Aig):Bool:=gatesOk g.first g.ands&& !(g.flops.any λf=> !g.lit f.next)&& !(g.outs.any λa=> !g.lit a)
def check(g:Aig):Int:=
 if g.ins<0 then 1
 else if 65536<g.ins\/65536<g.count\/65536<(g.outs.length:Int) then 2
 else if g.good then 0 else 1
def checkL(g:Aig):Int->List Int->Int
 |e,[]=>e
 |e,a::l=>g.checkL (if e=0/\g.lit a=false then 1 else e) l
def find(g:Aig)(a b:Int):Int:=fw (λx:Int×Int=>decide (min x.1 x.2=a)&&decide (max x.1 x.2=b)) g.ands
def andO(g:Aig)(p q:Int):Option (Aig×Int):=
 let a:=min p q
 let b:=max p q
 if a=0\/a=turn b then some (g,0)
 else if a=1\/a=b then some (g,b)
 else if 0<=g.find a b then some (g,2*(g.first+g.find a b))
 else if g.count=65536 then none
 else some ({g with ands:=g.ands++[(a,b)]},2*(g.count+1))
def andW(g:Aig)(e p q:Int):Aig×Int×Int:=
 if e≠0 then (g,e,0) else match g.andO p q with
  |none=>(g,2,0)
  |some (g',x)=>(g',0,x)
def orW(g:Aig)(e p q:Int):Aig×Int×Int:=
 let r:=g.andW e (turn p) (turn q)
 (r.1,r.2.1,turn r.2.2)
def endW(r:Aig×Int×Int):Aig×Int×Int:=if r.2.1≠0 then (⟨0,[],[],[]⟩,0,r.2.1) else (r.1,r.2.2,0)
end Aig
theorem bj{n a:Int}:Aig.litN n a=true↔0<=a/\a<2*n:=by simp[Aig.litN]
theorem gG:∀{l:List (Int×Int)} {n:Int},Aig.gatesOk n l=true↔∀i,(h:i<l.length)->(0<=l[i].1/\l[i].1<2*(n+i))/\(0<=l[i].2/\l[i].2<2*(n+i))
 |[],n=>by simp[Aig.gatesOk]
 |x::l,n=>by
  simp only[Aig.gatesOk,Bool.and_eq_true,bj,gG (l:=l) (n:=n+1)];constructor
  ·rintro⟨h1,h2⟩ i hi;cases i with
   |zero=>simpa using h1
   |succ i=>
    have:=h2 i (by simpa using hi)
    simp only[List.getElem_cons_succ];omega
  ·intro h;have h0:=h 0 (by simp);refine⟨by simpa using h0,λi hi=>?_⟩;have:=h (i+1) (by simpa using hi)
   simp only[List.getElem_cons_succ] at this;omega
theorem gQ{l:List (Int×Int)}{n:Int}{i:Nat}(h:i<l.length)(hb:¬((0<=l[i].1/\l[i].1<2*(n+i))/\(0<=l[i].2/\l[i].2<2*(n+i)))):Aig.gatesOk n l=false:=by
 cases hh:Aig.gatesOk n l with
 |false=>rfl
 |true=>exact(hb (gG.1 hh i h)).elim
theorem jU(g:Aig):∀(l m:List Int) (e:Int),g.checkL e (l++m)=g.checkL (g.checkL e l) m
 |[],m,e=>rfl
 |a::l,m,e=>by simp only[List.cons_append,Aig.checkL];exact jU g l m _
theorem s9(g:Aig)(l:List Int)(a e:Int):g.checkL e (l++[a])=if g.checkL e l=0/\g.lit a=false then 1 else g.checkL e l:=by
 rw[jU];rfl
theorem jG(g:Aig):∀(l:List Int) (e:Int),e≠0->g.checkL e l=e
 |[],e,_=>rfl
 |a::l,e,h=>by simp only[Aig.checkL,h,false_and,if_false];exact jG g l e h
theorem bD{g:Aig}:∀{l:List Int} {e:Int},g.checkL e l=0↔e=0/\∀a∈l,g.lit a=true
 |[],e=>by simp[Aig.checkL]
 |a::l,e=>by
  simp only[Aig.checkL,bD (l:=l),List.mem_cons,forall_eq_or_imp];by_cases he:e=0
  ·cases h:g.lit a<;>simp[he,h]
  ·simp[he]
theorem mC{g:Aig}(hs:Wf g)(h:g.check=0):Small g:=by
 unfold Aig.check at h;split at h
 ·simp at h
 ·split at h
  ·simp at h
  ·exact⟨hs,by omega,by omega⟩
theorem rN{g:Aig}{l:List Int}(hs:Wf g)(h:g.checkL g.check l=0):Small g:=mC hs (bD.1 h).1
section
variable {g : Aig} {a b : Int}
theorem GE(h:min a b=0\/min a b=turn (max a b)):g.andW 0 a b=(g,0,0):=by simp[Aig.andW,Aig.andO,h]
theorem GF(h:¬(min a b=0\/min a b=turn (max a b)))(h2:min a b=1\/min a b=max a b):g.andW 0 a b=(g,0,max a b):=by
 simp only[Aig.andW,Aig.andO,h,h2,if_true,if_false];rfl
theorem GG(h:¬(min a b=0\/min a b=turn (max a b)))(h2:¬(min a b=1\/min a b=max a b))(h3:0<=g.find (min a b) (max a b)):g.andW 0 a b=(g,0,2*(g.first+g.find (min a b) (max a b))):=by
 simp only[Aig.andW,Aig.andO,h,h2,h3,if_true,if_false];rfl
theorem GH(h:¬(min a b=0\/min a b=turn (max a b)))(h2:¬(min a b=1\/min a b=max a b))(h3:¬0<=g.find (min a b) (max a b))(h4:g.count=65536):g.andW 0 a b=(g,2,0):=by
 simp only[Aig.andW,Aig.andO,h,h2,h3,h4,if_true,if_false];rfl
theorem GI(h:¬(min a b=0\/min a b=turn (max a b)))(h2:¬(min a b=1\/min a b=max a b))(h3:¬0<=g.find (min a b) (max a b))(h4:¬g.count=65536):
  g.andW 0 a b=({g with ands:=g.ands++[(min a b,max a b)]},0,2*(g.count+1)):=by
 simp only[Aig.andW,Aig.andO,h,h2,h3,h4,if_false];rfl
theorem ke(x:Int×Int):({g with ands:=g.ands++[x]}:Aig).count=g.count+1:=by simp[Aig.count];omega
end
theorem Bt(l:List (Int×Int)):iq 2 (l.map encGate)=True:=dU _ _ _ λ_=>rfl
theorem Bv(l:List Flop):iq 2 (l.map encFlop)=True:=dU _ _ _ λ_=>rfl
theorem E0(l:List Int):iq 1 (l.map encInt)=True:=dU _ _ _ λ_=>rfl
theorem Bw(l:List Bool):iq 1 (l.map rM)=True:=dU _ _ _ λ_=>rfl
attribute [go_sem] Bt Bv E0 Bw
structure Ext(g g':Aig):Prop where
 ins:g'.ins=g.ins
 flops:g'.flops=g.flops
 outs:g'.outs=g.outs
 ands:∃l,g'.ands=g.ands++l
theorem Ext.refl(g:Aig):Ext g g:=⟨rfl,rfl,rfl,[],by simp⟩
theorem Ext.trans{g g' g'':Aig}(h:Ext g g')(h':Ext g' g''):Ext g g'':=by
 obtain⟨a1,a2,a3,l,a4⟩:=h;obtain⟨b1,b2,b3,m,b4⟩:=h';exact⟨b1.trans a1,b2.trans a2,b3.trans a3,l++m,by rw[b4,a4,List.append_assoc]⟩
theorem Ext.count{g g':Aig}(h:Ext g g'):g.count<=g'.count:=by
 obtain⟨a1,a2,a3,l,a4⟩:=h;simp only[Aig.count,a1,a2,a4,List.length_append];omega
theorem Ext.first{g g':Aig}(h:Ext g g'):g'.first=g.first:=by simp only[Aig.first,h.ins,h.flops]
theorem Ext.lit{g g':Aig}(h:Ext g g'){a:Int}(ha:g.lit a=true):g'.lit a=true:=by
 have:=h.count
 simp only[Aig.lit,bj] at ha|-;omega
structure Fine(g:Aig):Prop extends Small g where
 cnt:g.count<=65536
 gok:Aig.gatesOk g.first g.ands=true
theorem je{n:Int}:∀{l m:List (Int×Int)},Aig.gatesOk n (l++m)=(Aig.gatesOk n l&&Aig.gatesOk (n+l.length) m)
 |[],m=>by simp[Aig.gatesOk]
 |x::l,m=>by
  simp only[List.cons_append,Aig.gatesOk,je (l:=l),List.length_cons,Bool.and_assoc];congr 4;simp only[Int.natCast_add];omega
theorem mD(g:Aig):1+g.count=g.first+g.ands.length:=by simp only[Aig.count,Aig.first];omega
theorem turn_lit{n a:Int}(h:Aig.litN n a=true):Aig.litN n (turn a)=true:=by
 simp only[bj,turn] at h|-;omega
theorem qy{g g':Aig}{p q x:Int}(hf:Fine g)(hp:g.lit p=true)(hq:g.lit q=true)(h:g.andO p q=some (g',x)):Fine g'/\Ext g g'/\g'.lit x=true:=by
  have hp':=bj.1 hp;have hq':=bj.1 hq;have hlo:=hf.lo;have hc:0<=g.count:=by unfold Aig.count;omega
  unfold Aig.andO at h;simp only at h;split at h
  · simp at h;obtain⟨rfl,rfl⟩:=h
    exact⟨hf, .refl g,by simp only[Aig.lit,bj];omega⟩
  · rename_i h1
    split at h
    · simp at h;obtain⟨rfl,rfl⟩:=h
      exact⟨hf, .refl g,by simp only[Aig.lit,bj];omega⟩
    · split at h
      · simp at h;obtain⟨rfl,rfl⟩:=h
        have:=jd (λx:Int×Int=>decide (min x.1 x.2=min p q)&&decide (max x.1 x.2=max p q)) g.ands
        have e:g.find (min p q) (max p q)=fw (λx:Int×Int=>decide (min x.1 x.2=min p q)&&decide (max x.1 x.2=max p q)) g.ands:=rfl;have cf:=mD g;refine⟨hf, .refl g,?_⟩;have hff:1<=g.first:=by unfold Aig.first;omega
        simp only[Aig.lit,bj];omega
      · split at h
        · simp at h
        · rename_i hcn
          simp at h;obtain⟨rfl,rfl⟩:=h
          have hcc:=hf.cnt;have hlen:(g.ands.length:Int)<=65536:=by simp only[Aig.count] at hcc;omega
          have cp:=ke (g:=g) (min p q,max p q);have cf:=mD g
          have hsm:Small {g with ands:=g.ands++[(min p q,max p q)]}:={hf.toSmall with
            ands:=by simp;omega
            gates:=λy hy=>by
              rcases List.mem_append.1 hy with h|h
              · exact hf.gates y h
              · simp at h;subst h;exact⟨⟨by simp;omega,by simp;omega⟩,⟨by simp;omega,by simp;omega⟩⟩}
          refine⟨{hsm with cnt:=by omega,gok:=?_},⟨rfl,rfl,rfl,_,rfl⟩,by simp only[Aig.lit,bj];omega⟩;show Aig.gatesOk g.first (g.ands++[(min p q,max p q)])=true
          rw[je,hf.gok];simp only[Aig.gatesOk,Bool.and_true,Bool.true_and,Bool.and_eq_true,bj];omega
theorem eJ{g:Aig}{e p q:Int}(h:(g.andW e p q).2.1=0):e=0:=by
 unfold Aig.andW at h;split at h
 ·exact h
 ·rename_i h';simpa using h'
theorem fX{g:Aig}{e p q:Int}(h:e≠0):g.andW e p q=(g,e,0):=by simp[Aig.andW,h]
theorem fR{g:Aig}{e p q:Int}(hf:e=0->Fine g/\g.lit p=true/\g.lit q=true):
  ((g.andW e p q).2.1=0->Fine (g.andW e p q).1/\(g.andW e p q).1.lit (g.andW e p q).2.2=true)/\Ext g (g.andW e p q).1/\0<=(g.andW e p q).2.2/\(g.andW e p q).2.2<=1000000:=by
 by_cases he:e=0
 ·subst he;obtain⟨h1,h2,h3⟩:=hf rfl;cases ho:g.andO p q with
  |none=>
   have:g.andW 0 p q=(g,2,0):=by simp[Aig.andW,ho]
   rw[this];exact⟨λh=>by simp at h, .refl g,by simp,by simp⟩
  |some r=>
   obtain⟨g',x⟩:=r;have:g.andW 0 p q=(g',0,x):=by simp[Aig.andW,ho]
   rw[this];obtain⟨k1,k2,k3⟩:=qy h1 h2 h3 ho;have:=bj.1 k3
   have:=k1.cnt
   exact⟨λ_=>⟨k1,k3⟩,k2,by simp;omega,by simp;omega⟩
 ·rw[fX he];exact⟨λh=>(he h).elim, .refl g,by simp,by simp⟩
theorem iF{g:Aig}{e p q:Int}(hf:e=0->Fine g/\g.lit p=true/\g.lit q=true):I64 (g.andW e p q).2.2:=by
 obtain⟨_,_,h1,h2⟩:=fR hf;exact⟨by omega,by omega⟩
theorem cU{g:Aig}(hs:Wf g)(h:g.check=0):Fine g:=by
 have hsm:=mC hs h;unfold Aig.check at h;split at h
 ·simp at h
 ·split at h
  ·simp at h
  ·split at h
   ·rename_i hg
    simp only[Aig.good,Bool.and_eq_true] at hg;exact{hsm with cnt:=by omega,gok:=hg.1.1}
   ·simp at h
theorem bO{g:Aig}{l:List Int}(hs:Wf g)(h:g.checkL g.check l=0):Fine g/\∀a∈l,g.lit a=true:=⟨cU hs (bD.1 h).1,(bD.1 h).2⟩
namespace Aig
def And(g:Aig)(a b:Int):Aig×Int×Int:=endW (g.andW (g.checkL g.check [a,b]) a b)
def Or(g:Aig)(a b:Int):Aig×Int×Int:=endW (g.orW (g.checkL g.check [a,b]) a b)
def pairs(g:Aig)(e a b c d:Int):Aig×Int×Int:=
 let r:=g.andW e a b
 let s:=r.1.andW r.2.1 c d
 s.1.orW s.2.1 r.2.2 s.2.2
def Xor(g:Aig)(a b:Int):Aig×Int×Int:=endW (g.pairs (g.checkL g.check [a,b]) a (turn b) (turn a) b)
def Mux(g:Aig)(c a b:Int):Aig×Int×Int:=endW (g.pairs (g.checkL g.check [c,a,b]) c a (turn c) b)
def New(ins:Int)(init:List Bool):Aig×Int:=
 if ins<0 then (⟨0,[],[],[]⟩,1) else if 65536<ins+init.length then (⟨0,[],[],[]⟩,2) else (⟨ins,init.map λb=>⟨0,b⟩,[],[]⟩,0)
def val(v:List Bool)(a:Int):Bool:=(v.getD (a/2).toNat false) != decide (a%2=1)
def vals:List Bool->List (Int×Int)->List Bool
 |v,[]=>v
 |v,x::l=>vals (v++[val v x.1&&val v x.2]) l
def Kr(g:Aig)(inp st:List Bool):List Bool×Int:=
 if g.check≠0 then ([],g.check) else if (inp.length:Int)≠g.ins\/st.length≠g.flops.length then ([],1) else (vals (false::(inp++st)) g.ands,0)
end Aig
theorem yL{α:Type}{l:List α}{i:Nat}(h:i<l.length):l.take (i+1)=l.take i++[l[i]]:=by
 rw[List.take_add_one,List.getElem?_eq_getElem h];rfl
theorem oG{g:Aig}:∀{l:List Int} {a:Int},a∈l->g.lit a=false->g.checkL 0 l=1
 |b::l,a,ha,hb=>by
  simp only[Aig.checkL];rcases List.mem_cons.1 ha with rfl|h
  ·simp only[hb,and_self,if_true];exact jG g l 1 (by decide)
  ·cases hh:g.lit b with
   |false=>simp only[and_self,if_true];exact jG g l 1 (by decide)
   |true=>simp only[Bool.true_eq_false,and_false,if_false];exact oG h hb
theorem E1{g:Aig}{a b:Int}(h:a<=b):g.find a b=fw (λx:Int×Int=>(decide (x.1=a)&&decide (x.2=b))||(decide (x.1=b)&&decide (x.2=a))) g.ands:=by
 unfold Aig.find;congr 1
 funext x
 rw[Bool.eq_iff_iff];simp only[Bool.and_eq_true,Bool.or_eq_true,decide_eq_true_eq];omega
theorem E2{g:Aig}{a b:Int}(h:(g.andW 0 (turn a) (turn b)).2.1=0):Aig.endW (g.orW 0 a b)=((g.andW 0 (turn a) (turn b)).1,turn (g.andW 0 (turn a) (turn b)).2.2,0):=by
 simp only[Aig.endW,Aig.orW,h];rfl
theorem Bx{g:Aig}{a b:Int}(h:(g.andW 0 (turn a) (turn b)).2.1≠0):Aig.endW (g.orW 0 a b)=(⟨0,[],[],[]⟩,0,(g.andW 0 (turn a) (turn b)).2.1):=by
 simp only[Aig.endW,Aig.orW,h,ne_eq,not_false_eq_true,if_true]
theorem iG{r:Aig×Int×Int}(h:r.2.1=0):Aig.endW r=(r.1,r.2.2,0):=by simp[Aig.endW,h]
theorem dr{r:Aig×Int×Int}(h:r.2.1≠0):Aig.endW r=(⟨0,[],[],[]⟩,0,r.2.1):=by simp[Aig.endW,h]
end Fil
namespace Go.Proofs.YtbbihmmobfmadaaGreat.A
open Abs Fil
theorem aig_count(o:Nat)(g:Aig)(e:Int)(σ:aB)(h:σ o=some (eS g e))(hs:Small g):
  C_ 233 [.ptr o 0] σ (.int .i64 g.count) σ:=by
 refine gO [] Tryz.func233 (by kernel_rfl) (by conv=>lhs;reduce;dsimp only[iA]) rfl ?_;obtain⟨⟨h0,h1,h2,h3,h4,h5,h6⟩,h7,h8⟩:=hs;repeat' (first|simp(maxDischargeDepth:=9) -implicitDefEqProofs -dsimp only[go_sem,seval, *]|simp(disch:=omega) only[ah,aj,ao,aA,au,ag,az,aq])
 exact fb ⟨rfl,rfl⟩
theorem aig_first(o:Nat)(g:Aig)(e:Int)(σ:aB)(h:σ o=some (eS g e))(hs:Small g):
  C_ 235 [.ptr o 0] σ (.int .i64 g.first) σ:=by
 refine gO [] Tryz.func235 (by kernel_rfl) (by conv=>lhs;reduce;dsimp only[iA]) rfl ?_;obtain⟨⟨h0,h1,h2,h3,h4,h5,h6⟩,h7,h8⟩:=hs;repeat' (first|simp(maxDischargeDepth:=9) -implicitDefEqProofs -dsimp only[go_sem,seval, *]|simp(disch:=omega) only[ah,aj,ao,aA,au,ag,az,aq])
 exact fb ⟨rfl,rfl⟩
theorem rO(o:Nat)(g:Aig)(e a:Int)(σ:aB)(h:σ o=some (eS g e))(hs:Small g)(ha:I64 a):
  C_ 201 [.ptr o 0, .int .i64 a] σ (.bool (g.lit a)) σ:=by
 refine gO [] Tryz.func201 (by kernel_rfl) (by conv=>lhs;reduce;dsimp only[iA]) rfl ?_;obtain⟨ha1,ha2⟩:=ha;repeat' (first|simp(maxDischargeDepth:=9) -implicitDefEqProofs -dsimp only[go_sem,seval, *]|simp(disch:=omega) only[ah,aj,ao,aA,au,ag,az,aq]|(with_reducible (first|apply Za|apply Zb|apply Zc|apply Zd|apply Ze|apply Zf|apply Zg|apply Zh|apply Zi|apply Zj|apply Zk|apply Zl|apply Zm|apply Zn|apply Zo|apply Zp|apply Zq|apply Zr|apply Zs)<;>intro hq)|with_reducible refine kc1 (aig_count o g e σ h hs) ?_)
 ·refine fin_eq ?_;simp(maxDischargeDepth:=9) -implicitDefEqProofs -dsimp only[go_sem,seval]
  rw[Bool.eq_iff_iff];simp only[Aig.lit,bj,decide_eq_true_eq];omega
 ·refine fin_eq ?_;simp(maxDischargeDepth:=9) -implicitDefEqProofs -dsimp only[go_sem,seval]
  have:¬(0<=a):=by omega
  simp[Aig.lit,Aig.litN,this]
theorem vz(b o:Nat)(f:Flop)(g:Aig)(e:Int)(σ:aB)(hb:σ b=some (.cells [.ptr o 0]))(h:σ o=some (eS g e))(hs:Small g)(hf:I64 f.next):
  C_ 231 [encFlop f, .ptr b 0] σ (.bool (!g.lit f.next)) σ:=by
 refine gO [2] Tryz.func231 (by kernel_rfl) (by conv=>lhs;reduce;dsimp only[iA]) rfl ?_;repeat' (first|simp(maxDischargeDepth:=9) -implicitDefEqProofs -dsimp only[go_sem,seval, *]|with_reducible refine kc1 (rO o g e f.next σ h hs hf) ?_)
 exact fb ⟨rfl,rfl⟩
theorem vA(b o:Nat)(a:Int)(g:Aig)(e:Int)(σ:aB)(hb:σ b=some (.cells [.ptr o 0]))(h:σ o=some (eS g e))(hs:Small g)(hf:I64 a):
  C_ 232 [.int .i64 a, .ptr b 0] σ (.bool (!g.lit a)) σ:=by
 refine gO [] Tryz.func232 (by kernel_rfl) (by conv=>lhs;reduce;dsimp only[iA]) rfl ?_;repeat' (first|simp(maxDischargeDepth:=9) -implicitDefEqProofs -dsimp only[go_sem,seval, *]|with_reducible refine kc1 (rO o g e a σ h hs hf) ?_)
 exact fb ⟨rfl,rfl⟩
theorem rP(p:Flop->Bool)(l:List Flop)(hl:l.length<=1000000000000)(σ:aB){F:Nat}{caps:List AV}(hF:∀x∈l,ACalls Tryz.prog F (encFlop x::caps) σ (λr σ'=>r= .ret (.bool (p x))/\σ'=σ)):
  C_ 246 [.slice (l.map encFlop) .no, .fn F [] caps] σ (.int .i64 (fw p l)) σ:=
 cz (sz:=2) (g:=true) mixed Tryz.func246 (by kernel_rfl) (by kernel_rfl) rfl (by kernel_rfl) (λ_=>rfl) (λ_=>rfl) p l hl hF
theorem tg(p:Int->Bool)(l:List Int)(hl:l.length<=1000000000000)(σ:aB){F:Nat}{caps:List AV}(hF:∀x∈l,ACalls Tryz.prog F (encInt x::caps) σ (λr σ'=>r= .ret (.bool (p x))/\σ'=σ)):
  C_ 144 [.slice (l.map encInt) .no, .fn F [] caps] σ (.int .i64 (fw p l)) σ:=
 cz (sz:=1) (g:=false) mixed Tryz.func144 (by kernel_rfl) (by kernel_rfl) rfl (by kernel_rfl) (λ_=>rfl) (λ_=>rfl) p l hl hF
theorem sl_indexGate(p:Int×Int->Bool)(l:List (Int×Int))(hl:l.length<=1000000000000)(σ:aB){F:Nat}{caps:List AV}(hF:∀x∈l,ACalls Tryz.prog F (encGate x::caps) σ (λr σ'=>r= .ret (.bool (p x))/\σ'=σ)):
  C_ 240 [.slice (l.map encGate) .no, .fn F [] caps] σ (.int .i64 (fw p l)) σ:=
 cz (sz:=2) (g:=true) mixed Tryz.func240 (by kernel_rfl) (by kernel_rfl) rfl (by kernel_rfl) (λ_=>rfl) (λ_=>rfl) p l hl hF
theorem mT(p:Flop->Bool)(l:List Flop)(hl:l.length<=1000000000000)(σ:aB){F:Nat}{caps:List AV}(hF:∀x∈l,ACalls Tryz.prog F (encFlop x::caps) σ (λr σ'=>r= .ret (.bool (p x))/\σ'=σ)):
  C_ 234 [.slice (l.map encFlop) .no, .fn F [] caps] σ (.bool (l.any p)) σ:=
 bS mixed Tryz.func234 (by kernel_rfl) (by kernel_rfl) rfl (by kernel_rfl) p l (rP p l hl σ hF)
theorem jf(p:Int->Bool)(l:List Int)(hl:l.length<=1000000000000)(σ:aB){F:Nat}{caps:List AV}(hF:∀x∈l,ACalls Tryz.prog F (encInt x::caps) σ (λr σ'=>r= .ret (.bool (p x))/\σ'=σ)):
  C_ 73 [.slice (l.map encInt) .no, .fn F [] caps] σ (.bool (l.any p)) σ:=
 bS mixed Tryz.func73 (by kernel_rfl) (by kernel_rfl) rfl (by kernel_rfl) p l (tg p l hl σ hF)
theorem th(l:List (Int×Int))(σ:aB):
  C_ 242 [.slice (l.map encGate) .no] σ (.slice (l.map encGate) .full) σ:=
 Bq (sz:=2) mixed Tryz.func242 (by kernel_rfl) (by kernel_rfl) rfl (by kernel_rfl) (λ_=>rfl) l
theorem yM(o:Nat)(g:Aig)(e:Int)(σ:aB)(h:σ o=some (eS g e))(hs:Wf g):
  C_ 200 [.ptr o 0] σ (.int .i64 g.check) σ:=by
 refine gO [] Tryz.func200 (by kernel_rfl) (by conv=>lhs;reduce;dsimp only[iA]) rfl ?_;by_cases hlo:g.ins<0
 ·repeat' (first|simp(maxDischargeDepth:=9) -implicitDefEqProofs -dsimp only[go_sem,seval, *]|(with_reducible refine Zt λoF hoF hnF hnF'=>?_;try simp only[aa,ne_eq,not_and] at hoF))
  refine fin_eq ?_;have:g.check=1:=by simp[Aig.check,hlo]
  (repeat' simp(maxDischargeDepth:=9) -implicitDefEqProofs -dsimp only[go_sem,seval,this, *])
 by_cases hhi:65536<g.ins
 ·repeat' (first|simp(maxDischargeDepth:=9) -implicitDefEqProofs -dsimp only[go_sem,seval,gt_iff_lt, *]|(with_reducible refine Zt λoF hoF hnF hnF'=>?_;try simp only[aa,ne_eq,not_and] at hoF))
  refine fin_eq ?_;have:g.check=2:=by simp[Aig.check,hlo,hhi]
  (repeat' simp(maxDischargeDepth:=9) -implicitDefEqProofs -dsimp only[go_sem,seval,this, *])
 have hsm:Small g:=⟨hs,by omega,by omega⟩;have hfl:=hs.flops;have hol:=hs.outs;repeat' (first|simp(maxDischargeDepth:=9) -implicitDefEqProofs -dsimp only[go_sem,seval,gt_iff_lt, *]|(with_reducible (first|apply Za|apply Zb|apply Zc|apply Zd|apply Ze|apply Zf|apply Zg|apply Zh|apply Zi|apply Zj|apply Zk|apply Zl|apply Zm|apply Zn|apply Zo|apply Zp|apply Zq|apply Zr|apply Zs)<;>intro hq)|(with_reducible refine Zt λoF hoF hnF hnF'=>?_;try simp only[aa,ne_eq,not_and] at hoF)|with_reducible refine kc1 (aig_count o g e _ ?_ hsm) ?_|with_reducible refine kc1 (mT (λf=> !g.lit f.next) g.flops ?_ _ (λf hf=>vz _ o f g e _ ?_ ?_ hsm (hs.nexts f hf))) ?_|with_reducible refine kc1 (jf (λa=> !g.lit a) g.outs ?_ _ (λa ha=>vA _ o a g e _ ?_ ?_ hsm (hs.lits a ha))) ?_|omega)
 ·refine fin_eq ?_;have:g.check=2:=by simp[Aig.check,hlo,hhi,hq]
  (repeat' simp(maxDischargeDepth:=9) -implicitDefEqProofs -dsimp only[go_sem,seval,this, *])
 ·refine fin_eq ?_;have:g.check=2:=by simp[Aig.check,hlo,hhi,hq]
  (repeat' simp(maxDischargeDepth:=9) -implicitDefEqProofs -dsimp only[go_sem,seval,this, *])
 ·refine fin_eq ?_;have:g.check=1:=by simp[Aig.check,Aig.good,hlo,hhi, *]
  (repeat' simp(maxDischargeDepth:=9) -implicitDefEqProofs -dsimp only[go_sem,seval,this, *])
 ·refine fin_eq ?_;have:g.check=1:=by simp[Aig.check,Aig.good,hlo,hhi, *]
  (repeat' simp(maxDischargeDepth:=9) -implicitDefEqProofs -dsimp only[go_sem,seval,this, *])
 ·refine ar (λi:Nat=>[(1,some (.ptr oF 0)),(52,some (.slice (g.ands.map encGate) .no)),(53,some (.int .i64 g.ands.length)),(54,some (.int .i64 i))]) (λ_=>aF σ oF (.cells [.ptr o 0])) (λi=>i<=g.ands.length/\∀j,(hj:j<g.ands.length)->j<i->(0<=g.ands[j].1/\g.ands[j].1<2*(g.first+j))/\(0<=g.ands[j].2/\g.ands[j].2<2*(g.first+j))) (λi=>g.ands.length-i) 0 ?_ ?_
  ·(repeat' (first|simp(maxDischargeDepth:=9) -implicitDefEqProofs -dsimp only[go_sem,seval, *]|with_reducible refine And.intro ?_ ?_|omega))
  ·rintro i ⟨hi,hb⟩;have hA:=hs.ands;have hF:=hs.flops
   have hfd:1<=g.first/\g.first<=3000000:=by
    have:=hsm.lo;have:=hsm.hi
    unfold Aig.first;omega
   by_cases hlt:i<g.ands.length
   ·have hgate:=hs.gates _ (List.getElem_mem hlt);obtain⟨⟨g1,g2⟩,g3,g4⟩:=hgate;repeat' (first|simp(maxDischargeDepth:=9) -implicitDefEqProofs -dsimp only[go_sem,seval,ge_iff_le, *]|simp(disch:=omega) only[ah,aj,ao,aA,au,ag,az,aq]|(with_reducible (first|apply Za|apply Zb|apply Zc|apply Zd|apply Ze|apply Zf|apply Zg|apply Zh|apply Zi|apply Zj|apply Zk|apply Zl|apply Zm|apply Zn|apply Zo|apply Zp|apply Zq|apply Zr|apply Zs)<;>intro hq)|with_reducible refine Zu ?_ ?_|(with_reducible refine Zt λoF hoF hnF hnF'=>?_;try simp only[aa,ne_eq,not_and] at hoF)|with_reducible refine id_one0 (λtS hS=>aig_first o g e _ ?_ hsm) trivial ?_|with_reducible refine Sub.get (by assumption) ?_)
    ·have:g.check=1:=by
      have:=gQ (n:=g.first) hlt (by omega)
      simp[Aig.check,Aig.good,hlo,hhi, *]
     refine fin_eq ?_;(repeat' simp(maxDischargeDepth:=9) -implicitDefEqProofs -dsimp only[go_sem,seval,this, *])
    ·refine lnx (i+1) ?_;(repeat' (first|simp(maxDischargeDepth:=9) -implicitDefEqProofs -dsimp only[go_sem,seval, *]|with_reducible refine And.intro ?_ ?_|omega))
     intro j hj h;rcases Nat.lt_or_ge j i with h'|h'
     ·exact hb j hj h'
     ·obtain rfl:j=i:=by omega
      omega
    ·have:g.check=1:=by
      have:=gQ (n:=g.first) hlt (by omega)
      simp[Aig.check,Aig.good,hlo,hhi, *]
     refine fin_eq ?_;(repeat' simp(maxDischargeDepth:=9) -implicitDefEqProofs -dsimp only[go_sem,seval,this, *])
   ·repeat' simp(maxDischargeDepth:=9) -implicitDefEqProofs -dsimp only[go_sem,seval, *]
    refine fin_eq ?_
    have:g.check=0:=by
     have:Aig.gatesOk g.first g.ands=true:=gG.2 λj hj=>hb j hj (by omega)
     simp[Aig.check,Aig.good,hlo,hhi, *]
    (repeat' simp(maxDischargeDepth:=9) -implicitDefEqProofs -dsimp only[go_sem,seval,this, *])
end Go.Proofs.YtbbihmmobfmadaaGreat.A
namespace Go.Proofs.YtbbihmmobfmadaaGreat.A
open Abs Fil
theorem aig_begin(g:Aig)(l:List Int)(σ:aB)(hs:Wf g)(hl:l.length<=1000000)(hi:∀a∈l,I64 a):
  ACalls Tryz.prog 145 [aJ g, .slice (l.map encInt) .no] σ (rL σ (λo=> .ptr o 0) (eS g (g.checkL g.check l))):=by
 refine gO [2] Tryz.func145 (by kernel_rfl) (by conv=>lhs;reduce;dsimp only[iA]) rfl ?_;repeat' (first|simp(maxDischargeDepth:=9) -implicitDefEqProofs -dsimp only[go_sem,seval, *]|((with_reducible refine Zt (λoF hoF hnF hnF'=>?_));(try simp only[aa,ne_eq,not_and] at hoF))|((with_reducible apply ACalls.one1);(focus ((with_reducible refine yM _ g 0 _ ?_ hs)<;>(first|(simp(maxDischargeDepth:=9) -implicitDefEqProofs -dsimp only[go_sem,seval, *];done)|omega)));(focus (first|trivial|exact rfl|(simp(maxDischargeDepth:=9) -implicitDefEqProofs -dsimp only[go_sem,seval];done)))))
 refine ar (λi:Nat=>[(5,some (.ptr oF 0)),(16,some (.slice (l.map encInt) .no)),(17,some (.int .i64 l.length)),(18,some (.int .i64 i))]) (λi=>aF σ oF (eS g (g.checkL g.check (l.take i)))) (λi=>i<=l.length) (λi=>l.length-i) 0 ?_ ?_
 ·(repeat' simp(maxDischargeDepth:=9) -implicitDefEqProofs -dsimp only[go_sem,seval,Aig.checkL, *])<;>(first|omega|skip)
 ·intro i hi';by_cases hlt:i<l.length
  ·have hi2:=hi _ (List.getElem_mem hlt)
   have step:g.checkL g.check (l.take (i+1))=if g.checkL g.check (l.take i)=0/\g.lit l[i]=false then 1 else g.checkL g.check (l.take i):=by
    rw[List.take_add_one,List.getElem?_eq_getElem hlt];exact s9 g _ _ _
   by_cases he:g.checkL g.check (l.take i)=0
   ·have hsm:Small g:=rN hs he;repeat' (first|simp(maxDischargeDepth:=9) -implicitDefEqProofs -dsimp only[go_sem,seval, *]|simp(disch:=omega) only[ah,aj,ao,aA,au,ag,az,aq]|(with_reducible (first|apply Za|apply Zb|apply Zc|apply Zd|apply Ze|apply Zf|apply Zg|apply Zh|apply Zi|apply Zj|apply Zk|apply Zl|apply Zm|apply Zn|apply Zo|apply Zp|apply Zq|apply Zr|apply Zs)<;>intro hq)|((with_reducible refine Zu ?_ ?_);focus omega)|((with_reducible apply ACalls.one1);(focus ((with_reducible refine rO _ g 0 l[i] _ ?_ hsm hi2)<;>(first|(simp(maxDischargeDepth:=9) -implicitDefEqProofs -dsimp only[go_sem,seval, *];done)|omega)));(focus (first|trivial|exact rfl|(simp(maxDischargeDepth:=9) -implicitDefEqProofs -dsimp only[go_sem,seval];done)))))
    ·have st:g.checkL g.check (l.take (i+1))=0:=by rw[step];simp[*]
     refine cA _ _ _ _ (i+1) ?_;(repeat' simp(maxDischargeDepth:=9) -implicitDefEqProofs -dsimp only[go_sem,seval, *])<;>(repeat' refine And.intro ?_ ?_)<;>(first|omega|skip)
    ·have st:g.checkL g.check (l.take (i+1))=1:=by rw[step];simp[*]
     refine cA _ _ _ _ (i+1) ?_;(repeat' simp(maxDischargeDepth:=9) -implicitDefEqProofs -dsimp only[go_sem,seval, *])<;>(repeat' refine And.intro ?_ ?_)<;>(first|omega|skip)
   ·have st:g.checkL g.check (l.take (i+1))=g.checkL g.check (l.take i):=by rw[step];simp[*]
    have hb:(g.checkL g.check (l.take i)==0)=false:=by simpa using he
    repeat' (first|simp(maxDischargeDepth:=9) -implicitDefEqProofs -dsimp only[go_sem,seval, *]|simp(disch:=omega) only[ah,aj,ao,aA,au,ag,az,aq]|((with_reducible refine Zu ?_ ?_);focus omega))
    refine cA _ _ _ _ (i+1) ?_;(repeat' simp(maxDischargeDepth:=9) -implicitDefEqProofs -dsimp only[go_sem,seval, *])<;>(repeat' refine And.intro ?_ ?_)<;>(first|omega|skip)
  ·repeat' simp(maxDischargeDepth:=9) -implicitDefEqProofs -dsimp only[go_sem,seval, *]
   refine nf oF hoF ?_;have e0:l.take i=l:=List.take_of_length_le (by omega);(repeat' simp(maxDischargeDepth:=9) -implicitDefEqProofs -dsimp only[go_sem,seval,e0, *])
theorem By(pa pb:Nat)(x:Int×Int)(a b:Int)(σ:aB)(ha:σ pa=some (.cells [.int .i64 a]))(hb:σ pb=some (.cells [.int .i64 b])):
  C_ 241 [encGate x, .ptr pa 0, .ptr pb 0] σ (.bool (decide (min x.1 x.2=a)&&decide (max x.1 x.2=b))) σ:=by
 refine gO [3] Tryz.func241 (by kernel_rfl) (by conv=>lhs;reduce;dsimp only[iA]) rfl ?_;repeat' (first|simp(maxDischargeDepth:=9) -implicitDefEqProofs -dsimp only[go_sem,seval, *]|(with_reducible (first|apply Za|apply Zb|apply Zc|apply Zd|apply Ze|apply Zf|apply Zg|apply Zh|apply Zi|apply Zj|apply Zk|apply Zl|apply Zm|apply Zn|apply Zo|apply Zp|apply Zq|apply Zr|apply Zs)<;>intro hq))
 ·have e:min x.1 x.2=a:=by omega
  exact fb ⟨by simp[e,Bool.beq_eq_decide_eq],rfl⟩
 ·exact fb ⟨by simp[hq],rfl⟩
theorem aig_and(o:Nat)(g:Aig)(e a b:Int)(σ:aB)(h:σ o=some (eS g e))(hok:e=0->Fine g/\g.lit a=true/\g.lit b=true):
    C_ 214 [.ptr o 0, .int .i64 a, .int .i64 b] σ (.int .i64 (g.andW e a b).2.2) (aF σ o (eS (g.andW e a b).1 (g.andW e a b).2.1)):=by
  refine gO [] Tryz.func214 (by kernel_rfl) (by conv=>lhs;reduce;dsimp only[iA]) rfl ?_;by_cases he:e=0
  · subst he
    obtain⟨hfine,ha,hb⟩:=hok rfl;have hs:=hfine.toSmall;have hcn:=hfine.cnt;have ha':=bj.1 ha;have hb':=bj.1 hb
    have hcnt:0<=g.count/\g.count<=3000000:=by
      have:=hs.lo;have:=hs.hi;have:=hs.flops;have:=hs.ands
      unfold Aig.count;omega
    have hfst:0<=g.first/\g.first<=3000000:=by
      have:=hs.lo;have:=hs.hi;have:=hs.flops
      unfold Aig.first;omega
    have hfb:=jd (λx:Int×Int=>decide (min x.1 x.2=min a b)&&decide (max x.1 x.2=max a b)) g.ands;have hal:=hs.ands
    have hpush:∀x:Int×Int,I64 x.1/\I64 x.2->g.ands.length<1000000->Small {g with ands:=g.ands++[x]}:=λx hx hl=>{hs with
      ands:=by simp;omega
      gates:=λy hy=>by
        rcases List.mem_append.1 hy with h|h
        · exact hs.gates y h
        · simp at h;subst h;exact hx}
    repeat' (first|simp(maxDischargeDepth:=9) -implicitDefEqProofs -dsimp only[go_sem,seval,ge_iff_le, *]|simp(disch:=omega) only[ah,aj,ao,aA,au,ag,az,aq]|(with_reducible (first|apply Za|apply Zb|apply Zc|apply Zd|apply Ze|apply Zf|apply Zg|apply Zh|apply Zi|apply Zj|apply Zk|apply Zl|apply Zm|apply Zn|apply Zo|apply Zp|apply Zq|apply Zr|apply Zs)<;>intro hq)|((with_reducible refine Zv ?_ ?_);focus (first|omega|exact rfl))|((with_reducible refine Zt (λoF hoF hnF hnF'=>?_));(try simp only[aa,ne_eq,not_and] at hoF))|((with_reducible apply ACalls.one1);(focus ((first|with_reducible refine aig_count o g 0 _ ?_ hs|with_reducible refine aig_first o g 0 _ ?_ hs|with_reducible refine sl_indexGate (λx:Int×Int=>decide (min x.1 x.2=min a b)&&decide (max x.1 x.2=max a b)) g.ands ?_ _ (λx _=>By _ _ x (min a b) (max a b) _ ?_ ?_))<;>(first|(simp(maxDischargeDepth:=9) -implicitDefEqProofs -dsimp only[go_sem,seval, *];done)|omega)));(focus (first|trivial|exact rfl|(simp(maxDischargeDepth:=9) -implicitDefEqProofs -dsimp only[go_sem,seval];done))))|((with_reducible apply id_one0);(focus (intro tS hS;((with_reducible refine th g.ands _)<;>(first|(simp(maxDischargeDepth:=9) -implicitDefEqProofs -dsimp only[go_sem,seval, *];done)|omega|((refine Sub.get hS ?_);simp(maxDischargeDepth:=9) -implicitDefEqProofs -dsimp only[go_sem,seval, *];done)))));(focus (first|trivial|(simp(maxDischargeDepth:=9) -implicitDefEqProofs -dsimp only[go_sem,seval, *];done)))))
    all_goals try refine fin_eq ?_
    all_goals first|(rw[GE (by omega)];(repeat' simp(maxDischargeDepth:=9) -implicitDefEqProofs -dsimp only[go_sem,seval, *]))|(rw[GF (by omega) (by omega)];(repeat' simp(maxDischargeDepth:=9) -implicitDefEqProofs -dsimp only[go_sem,seval, *]))|(rw[GG (by omega) (by omega) hq];(repeat' simp(maxDischargeDepth:=9) -implicitDefEqProofs -dsimp only[go_sem,seval, *])<;>(first|rfl|skip))|(rw[GH (by omega) (by omega) ‹_› (by omega)];(repeat' simp(maxDischargeDepth:=9) -implicitDefEqProofs -dsimp only[go_sem,seval, *]))|skip
    have hlt:g.ands.length<1000000:=by
      have:=hs.lo
      simp only[Aig.count] at hcn;omega
    have hs':=hpush (min a b,max a b) ⟨⟨by omega,by omega⟩,⟨by omega,by omega⟩⟩ hlt;refine ACalls.one (ACalls.flo (o:=o) (x0:=eS {g with ands:=g.ands++[(min a b,max a b)]} 0) ?_ (aig_count o {g with ands:=g.ands++[(min a b,max a b)]} 0 _ (cg _ _ _) hs')) ?_
    · (repeat' simp(maxDischargeDepth:=9) -implicitDefEqProofs -dsimp only[go_sem,seval, *])
    have hc':=ke (g:=g) (min a b,max a b);repeat' (first|simp(maxDischargeDepth:=9) -implicitDefEqProofs -dsimp only[go_sem,seval, *]|simp(disch:=omega) only[ah,aj,ao,aA,au,ag,az,aq])
    refine fin_eq ?_;rw[GI (by omega) (by omega) ‹_› (by omega)];(repeat' simp(maxDischargeDepth:=9) -implicitDefEqProofs -dsimp only[go_sem,seval, *])
  · have hb:(e != 0)=true:=by simpa using he
    repeat' (first|simp(maxDischargeDepth:=9) -implicitDefEqProofs -dsimp only[go_sem,seval, *]|((with_reducible refine Zt (λoF hoF hnF hnF'=>?_));(try simp only[aa,ne_eq,not_and] at hoF)))
    refine fin_eq ?_;(repeat' simp(maxDischargeDepth:=9) -implicitDefEqProofs -dsimp only[go_sem,seval,Aig.andW, *])
theorem aig_or(o:Nat)(g:Aig)(e a b:Int)(σ:aB)(h:σ o=some (eS g e))(ha:I64 a)(hb:I64 b)(hok:e=0->Fine g/\g.lit a=true/\g.lit b=true):
  C_ 215 [.ptr o 0, .int .i64 a, .int .i64 b] σ (.int .i64 (g.orW e a b).2.2) (aF σ o (eS (g.orW e a b).1 (g.orW e a b).2.1)):=by
 refine gO [] Tryz.func215 (by kernel_rfl) (by conv=>lhs;reduce;dsimp only[iA]) rfl ?_;have hok':e=0->Fine g/\g.lit (turn a)=true/\g.lit (turn b)=true:=λhe=>⟨(hok he).1,turn_lit (hok he).2.1,turn_lit (hok he).2.2⟩;obtain⟨h1,h2⟩:=iF hok';obtain⟨ha1,ha2⟩:=ha;obtain⟨hb1,hb2⟩:=hb;repeat' (first|simp(maxDischargeDepth:=9) -implicitDefEqProofs -dsimp only[go_sem,seval, *]|simp(disch:=omega) only[ah,aj,ao,aA,au,ag,az,aq]|((with_reducible apply ACalls.one1);(focus ((with_reducible refine aig_and o g e (turn a) (turn b) _ ?_ hok')<;>(first|(simp(maxDischargeDepth:=9) -implicitDefEqProofs -dsimp only[go_sem,seval, *];done)|omega)));(focus (first|trivial|exact rfl|(simp(maxDischargeDepth:=9) -implicitDefEqProofs -dsimp only[go_sem,seval];done)))))
 exact fb ⟨rfl,rfl⟩
theorem aig_end(o:Nat)(g:Aig)(e a:Int)(σ:aB)(h:σ o=some (eS g e)):
  C_ 213 [.ptr o 0, .int .i64 a] σ (.tup [aJ (Aig.endW (g,e,a)).1, .int .i64 (Aig.endW (g,e,a)).2.1, .int .i64 (Aig.endW (g,e,a)).2.2]) σ:=by
 refine gO [] Tryz.func213 (by kernel_rfl) (by conv=>lhs;reduce;dsimp only[iA]) rfl ?_;repeat' (first|simp(maxDischargeDepth:=9) -implicitDefEqProofs -dsimp only[go_sem,seval, *]|(with_reducible (first|apply Za|apply Zb|apply Zc|apply Zd|apply Ze|apply Zf|apply Zg|apply Zh|apply Zi|apply Zj|apply Zk|apply Zl|apply Zm|apply Zn|apply Zo|apply Zp|apply Zq|apply Zr|apply Zs)<;>intro hq)|((with_reducible refine Zt (λoF hoF hnF hnF'=>?_));(try simp only[aa,ne_eq,not_and] at hoF)))
 ·refine fin_eq ?_;(repeat' simp(maxDischargeDepth:=9) -implicitDefEqProofs -dsimp only[go_sem,seval,Aig.endW, *])
 ·refine fin_eq ?_;(repeat' simp(maxDischargeDepth:=9) -implicitDefEqProofs -dsimp only[go_sem,seval,Aig.endW, *])
end Go.Proofs.YtbbihmmobfmadaaGreat.A
namespace Go.Proofs.YtbbihmmobfmadaaGreat.A
open Abs Fil
theorem E3(g:Aig)(a b:Int)(σ:aB)(hs:Wf g)(ha:I64 a)(hb:I64 b):
  C_ 165 [aJ g, .int .i64 a, .int .i64 b] σ (.tup [aJ (g.And a b).1, .int .i64 (g.And a b).2.1, .int .i64 (g.And a b).2.2]) σ:=by
 refine gO [3] Tryz.func165 (by kernel_rfl) (by conv=>lhs;reduce;dsimp only[iA]) rfl ?_
 have hok:g.checkL g.check [a,b]=0->Fine g/\g.lit a=true/\g.lit b=true:=λh=>by
  obtain⟨h1,h2⟩:=bO hs h;exact⟨h1,h2 a (by simp),h2 b (by simp)⟩
 have hl:∀x∈[a,b],I64 x:=by simp[ha,hb]
 repeat' (first|simp(maxDischargeDepth:=9) -implicitDefEqProofs -dsimp only[go_sem,seval, *]|((with_reducible refine Zt (λoF hoF hnF hnF'=>?_));(try simp only[aa,ne_eq,not_and] at hoF))|((with_reducible apply ACalls.one1);(focus (first|((first|with_reducible refine aig_and _ g (g.checkL g.check [a,b]) a b _ ?_ hok|with_reducible refine aig_end _ (g.andW (g.checkL g.check [a,b]) a b).1 (g.andW (g.checkL g.check [a,b]) a b).2.1 _ _ ?_)<;>(first|(simp(maxDischargeDepth:=9) -implicitDefEqProofs -dsimp only[go_sem,seval, *];done)|omega))|(with_reducible refine ACalls.flA (aig_and _ g (g.checkL g.check [a,b]) a b _ ?_ hok) ?_<;>(first|(simp(maxDischargeDepth:=9) -implicitDefEqProofs -dsimp only[go_sem,seval, *];done)|omega))|(with_reducible refine ACalls.flA (aig_end _ (g.andW (g.checkL g.check [a,b]) a b).1 (g.andW (g.checkL g.check [a,b]) a b).2.1 _ _ ?_) ?_<;>(first|(simp(maxDischargeDepth:=9) -implicitDefEqProofs -dsimp only[go_sem,seval, *];done)|omega))));(focus (first|trivial|exact rfl|(simp(maxDischargeDepth:=9) -implicitDefEqProofs -dsimp only[go_sem,seval];done))))|((with_reducible apply ACalls.newO);(focus (first|((first|with_reducible refine aig_begin g [a,b] _ hs ?_ hl)<;>(first|(simp(maxDischargeDepth:=9) -implicitDefEqProofs -dsimp only[go_sem,seval, *];done)|omega))|(with_reducible refine ACalls.flA (aig_begin g [a,b] _ hs ?_ hl) ?_<;>(first|(simp(maxDischargeDepth:=9) -implicitDefEqProofs -dsimp only[go_sem,seval, *];done)|omega))));(intro oF hoF hnF hnF');(try simp only[aa,ne_eq,not_and] at hoF)))
 refine fin_eq ?_;(repeat' simp(maxDischargeDepth:=9) -implicitDefEqProofs -dsimp only[go_sem,seval,Aig.And, *])
theorem Ik(g:Aig)(a b:Int)(σ:aB)(hs:Wf g)(ha:I64 a)(hb:I64 b):
  C_ 174 [aJ g, .int .i64 a, .int .i64 b] σ (.tup [aJ (g.Or a b).1, .int .i64 (g.Or a b).2.1, .int .i64 (g.Or a b).2.2]) σ:=by
 refine gO [3] Tryz.func174 (by kernel_rfl) (by conv=>lhs;reduce;dsimp only[iA]) rfl ?_
 have hok:g.checkL g.check [a,b]=0->Fine g/\g.lit a=true/\g.lit b=true:=λh=>by
  obtain⟨h1,h2⟩:=bO hs h;exact⟨h1,h2 a (by simp),h2 b (by simp)⟩
 have hl:∀x∈[a,b],I64 x:=by simp[ha,hb]
 repeat' (first|simp(maxDischargeDepth:=9) -implicitDefEqProofs -dsimp only[go_sem,seval, *]|((with_reducible refine Zt (λoF hoF hnF hnF'=>?_));(try simp only[aa,ne_eq,not_and] at hoF))|((with_reducible apply ACalls.one1);(focus (first|((first|with_reducible refine aig_or _ g (g.checkL g.check [a,b]) a b _ ?_ ha hb hok|with_reducible refine aig_end _ (g.orW (g.checkL g.check [a,b]) a b).1 (g.orW (g.checkL g.check [a,b]) a b).2.1 _ _ ?_)<;>(first|(simp(maxDischargeDepth:=9) -implicitDefEqProofs -dsimp only[go_sem,seval, *];done)|omega))|(with_reducible refine ACalls.flA (aig_or _ g (g.checkL g.check [a,b]) a b _ ?_ ha hb hok) ?_<;>(first|(simp(maxDischargeDepth:=9) -implicitDefEqProofs -dsimp only[go_sem,seval, *];done)|omega))|(with_reducible refine ACalls.flA (aig_end _ (g.orW (g.checkL g.check [a,b]) a b).1 (g.orW (g.checkL g.check [a,b]) a b).2.1 _ _ ?_) ?_<;>(first|(simp(maxDischargeDepth:=9) -implicitDefEqProofs -dsimp only[go_sem,seval, *];done)|omega))));(focus (first|trivial|exact rfl|(simp(maxDischargeDepth:=9) -implicitDefEqProofs -dsimp only[go_sem,seval];done))))|((with_reducible apply ACalls.newO);(focus (first|((first|with_reducible refine aig_begin g [a,b] _ hs ?_ hl)<;>(first|(simp(maxDischargeDepth:=9) -implicitDefEqProofs -dsimp only[go_sem,seval, *];done)|omega))|(with_reducible refine ACalls.flA (aig_begin g [a,b] _ hs ?_ hl) ?_<;>(first|(simp(maxDischargeDepth:=9) -implicitDefEqProofs -dsimp only[go_sem,seval, *];done)|omega))));(intro oF hoF hnF hnF');(try simp only[aa,ne_eq,not_and] at hoF)))
 refine fin_eq ?_;(repeat' simp(maxDischargeDepth:=9) -implicitDefEqProofs -dsimp only[go_sem,seval,Aig.Or, *])
theorem yN(g:Aig)(σ:aB)(hs:Wf g):C_ 75 [aJ g] σ (.int .i64 g.check) σ:=by
 refine gO [1] Tryz.func75 (by kernel_rfl) (by conv=>lhs;reduce;dsimp only[iA]) rfl ?_;repeat' (first|simp(maxDischargeDepth:=9) -implicitDefEqProofs -dsimp only[go_sem,seval, *]|((with_reducible apply ACalls.newO);(focus (first|((first|with_reducible refine aig_begin g [] _ hs ?_ (by simp))<;>(first|(simp(maxDischargeDepth:=9) -implicitDefEqProofs -dsimp only[go_sem,seval, *];done)|omega))|(with_reducible refine ACalls.flA (aig_begin g [] _ hs ?_ (by simp)) ?_<;>(first|(simp(maxDischargeDepth:=9) -implicitDefEqProofs -dsimp only[go_sem,seval, *];done)|omega))));(intro oF hoF hnF hnF');(try simp only[aa,ne_eq,not_and] at hoF)))
 refine fin_eq ?_;(repeat' simp(maxDischargeDepth:=9) -implicitDefEqProofs -dsimp only[go_sem,seval,Aig.checkL, *])
theorem ti{g:Aig}{e a b c d:Int}(hs:Wf g)(h:e=0->Fine g/\g.lit a=true/\g.lit b=true/\g.lit c=true/\g.lit d=true):
  ∃r s,g.andW e a b=r/\r.1.andW r.2.1 c d=s/\g.pairs e a b c d=s.1.orW s.2.1 r.2.2 s.2.2/\I64 r.2.2/\I64 s.2.2/\(e=0->Fine g/\g.lit a=true/\g.lit b=true)/\
   (r.2.1=0->Fine r.1/\r.1.lit c=true/\r.1.lit d=true)/\(s.2.1=0->Fine s.1/\s.1.lit r.2.2=true/\s.1.lit s.2.2=true):=by
 have hok:e=0->Fine g/\g.lit a=true/\g.lit b=true:=λhe=>⟨(h he).1,(h he).2.1,(h he).2.2.1⟩;obtain⟨k1,k2,_⟩:=fR hok
 have hok2:(g.andW e a b).2.1=0->Fine (g.andW e a b).1/\(g.andW e a b).1.lit c=true/\(g.andW e a b).1.lit d=true:=λhr=>by
  obtain⟨h1,h2,h3,h4,h5⟩:=h (eJ hr);exact⟨(k1 hr).1,k2.lit h4,k2.lit h5⟩
 obtain⟨m1,m2,_⟩:=fR hok2;exact⟨_,_,rfl,rfl,rfl,iF hok,iF hok2,hok,hok2,λhs=>⟨(m1 hs).1,m2.lit (k1 (eJ hs)).2,(m1 hs).2⟩⟩
theorem E4(g:Aig)(a b:Int)(σ:aB)(hs:Wf g)(ha:I64 a)(hb:I64 b):
  C_ 168 [aJ g, .int .i64 a, .int .i64 b] σ (.tup [aJ (g.Xor a b).1, .int .i64 (g.Xor a b).2.1, .int .i64 (g.Xor a b).2.2]) σ:=by
 refine gO [3] Tryz.func168 (by kernel_rfl) (by conv=>lhs;reduce;dsimp only[iA]) rfl ?_;have hl:∀x∈[a,b],I64 x:=by simp[ha,hb]
 obtain⟨e,he⟩:∃e,g.checkL g.check [a,b]=e:=⟨_,rfl⟩
 obtain⟨r,s,hr,hss,hp,r1,s1,o1,o2,o3⟩:=ti (e:=e) (a:=a) (b:=turn b) (c:=turn a) (d:=b) hs (λh=>by
  obtain⟨h1,h2⟩:=bO hs (he.trans h);exact⟨h1,h2 a (by simp),turn_lit (h2 b (by simp)),turn_lit (h2 a (by simp)),h2 b (by simp)⟩)
 obtain⟨ha1,ha2⟩:=ha;obtain⟨hb1,hb2⟩:=hb;repeat' (first|simp(maxDischargeDepth:=9) -implicitDefEqProofs -dsimp only[go_sem,seval, *]|simp(disch:=omega) only[ah,aj,ao,aA,au,ag,az,aq]|((with_reducible refine Zt (λoF hoF hnF hnF'=>?_));(try simp only[aa,ne_eq,not_and] at hoF))|((with_reducible apply ACalls.one1);(focus (first|((first|with_reducible refine aig_and _ g e a (turn b) _ ?_ o1|with_reducible refine aig_and _ r.1 r.2.1 (turn a) b _ ?_ o2|with_reducible refine aig_or _ s.1 s.2.1 r.2.2 s.2.2 _ ?_ r1 s1 o3|with_reducible refine aig_end _ (s.1.orW s.2.1 r.2.2 s.2.2).1 (s.1.orW s.2.1 r.2.2 s.2.2).2.1 _ _ ?_)<;>(first|(simp(maxDischargeDepth:=9) -implicitDefEqProofs -dsimp only[go_sem,seval, *];done)|omega))|(with_reducible refine ACalls.flA (aig_and _ g e a (turn b) _ ?_ o1) ?_<;>(first|(simp(maxDischargeDepth:=9) -implicitDefEqProofs -dsimp only[go_sem,seval, *];done)|omega))|(with_reducible refine ACalls.flA (aig_and _ r.1 r.2.1 (turn a) b _ ?_ o2) ?_<;>(first|(simp(maxDischargeDepth:=9) -implicitDefEqProofs -dsimp only[go_sem,seval, *];done)|omega))|(with_reducible refine ACalls.flA (aig_or _ s.1 s.2.1 r.2.2 s.2.2 _ ?_ r1 s1 o3) ?_<;>(first|(simp(maxDischargeDepth:=9) -implicitDefEqProofs -dsimp only[go_sem,seval, *];done)|omega))|(with_reducible refine ACalls.flA (aig_end _ (s.1.orW s.2.1 r.2.2 s.2.2).1 (s.1.orW s.2.1 r.2.2 s.2.2).2.1 _ _ ?_) ?_<;>(first|(simp(maxDischargeDepth:=9) -implicitDefEqProofs -dsimp only[go_sem,seval, *];done)|omega))));(focus (first|trivial|exact rfl|(simp(maxDischargeDepth:=9) -implicitDefEqProofs -dsimp only[go_sem,seval];done))))|((with_reducible apply ACalls.newO);(focus (first|((first|with_reducible refine aig_begin g [a,b] _ hs ?_ hl)<;>(first|(simp(maxDischargeDepth:=9) -implicitDefEqProofs -dsimp only[go_sem,seval, *];done)|omega))|(with_reducible refine ACalls.flA (aig_begin g [a,b] _ hs ?_ hl) ?_<;>(first|(simp(maxDischargeDepth:=9) -implicitDefEqProofs -dsimp only[go_sem,seval, *];done)|omega))));(intro oF hoF hnF hnF');(try simp only[aa,ne_eq,not_and] at hoF)))
 refine fin_eq ?_;(repeat' simp(maxDischargeDepth:=9) -implicitDefEqProofs -dsimp only[go_sem,seval,Aig.Xor, *])
theorem E5(g:Aig)(c a b:Int)(σ:aB)(hs:Wf g)(hc:I64 c)(ha:I64 a)(hb:I64 b):
  C_ 180 [aJ g, .int .i64 c, .int .i64 a, .int .i64 b] σ (.tup [aJ (g.Mux c a b).1, .int .i64 (g.Mux c a b).2.1, .int .i64 (g.Mux c a b).2.2]) σ:=by
 refine gO [4] Tryz.func180 (by kernel_rfl) (by conv=>lhs;reduce;dsimp only[iA]) rfl ?_;have hl:∀x∈[c,a,b],I64 x:=by simp[ha,hb,hc]
 obtain⟨e,he⟩:∃e,g.checkL g.check [c,a,b]=e:=⟨_,rfl⟩
 obtain⟨r,s,hr,hss,hp,r1,s1,o1,o2,o3⟩:=ti (e:=e) (a:=c) (b:=a) (c:=turn c) (d:=b) hs (λh=>by
  obtain⟨h1,h2⟩:=bO hs (he.trans h);exact⟨h1,h2 c (by simp),h2 a (by simp),turn_lit (h2 c (by simp)),h2 b (by simp)⟩)
 obtain⟨hc1,hc2⟩:=hc;repeat' (first|simp(maxDischargeDepth:=9) -implicitDefEqProofs -dsimp only[go_sem,seval, *]|simp(disch:=omega) only[ah,aj,ao,aA,au,ag,az,aq]|((with_reducible refine Zt (λoF hoF hnF hnF'=>?_));(try simp only[aa,ne_eq,not_and] at hoF))|((with_reducible apply ACalls.one1);(focus (first|((first|with_reducible refine aig_and _ g e c a _ ?_ o1|with_reducible refine aig_and _ r.1 r.2.1 (turn c) b _ ?_ o2|with_reducible refine aig_or _ s.1 s.2.1 r.2.2 s.2.2 _ ?_ r1 s1 o3|with_reducible refine aig_end _ (s.1.orW s.2.1 r.2.2 s.2.2).1 (s.1.orW s.2.1 r.2.2 s.2.2).2.1 _ _ ?_)<;>(first|(simp(maxDischargeDepth:=9) -implicitDefEqProofs -dsimp only[go_sem,seval, *];done)|omega))|(with_reducible refine ACalls.flA (aig_and _ g e c a _ ?_ o1) ?_<;>(first|(simp(maxDischargeDepth:=9) -implicitDefEqProofs -dsimp only[go_sem,seval, *];done)|omega))|(with_reducible refine ACalls.flA (aig_and _ r.1 r.2.1 (turn c) b _ ?_ o2) ?_<;>(first|(simp(maxDischargeDepth:=9) -implicitDefEqProofs -dsimp only[go_sem,seval, *];done)|omega))|(with_reducible refine ACalls.flA (aig_or _ s.1 s.2.1 r.2.2 s.2.2 _ ?_ r1 s1 o3) ?_<;>(first|(simp(maxDischargeDepth:=9) -implicitDefEqProofs -dsimp only[go_sem,seval, *];done)|omega))|(with_reducible refine ACalls.flA (aig_end _ (s.1.orW s.2.1 r.2.2 s.2.2).1 (s.1.orW s.2.1 r.2.2 s.2.2).2.1 _ _ ?_) ?_<;>(first|(simp(maxDischargeDepth:=9) -implicitDefEqProofs -dsimp only[go_sem,seval, *];done)|omega))));(focus (first|trivial|exact rfl|(simp(maxDischargeDepth:=9) -implicitDefEqProofs -dsimp only[go_sem,seval];done))))|((with_reducible apply ACalls.newO);(focus (first|((first|with_reducible refine aig_begin g [c,a,b] _ hs ?_ hl)<;>(first|(simp(maxDischargeDepth:=9) -implicitDefEqProofs -dsimp only[go_sem,seval, *];done)|omega))|(with_reducible refine ACalls.flA (aig_begin g [c,a,b] _ hs ?_ hl) ?_<;>(first|(simp(maxDischargeDepth:=9) -implicitDefEqProofs -dsimp only[go_sem,seval, *];done)|omega))));(intro oF hoF hnF hnF');(try simp only[aa,ne_eq,not_and] at hoF)))
 refine fin_eq ?_;(repeat' simp(maxDischargeDepth:=9) -implicitDefEqProofs -dsimp only[go_sem,seval,Aig.Mux, *])
theorem E6(ins:Int)(init:List Bool)(σ:aB)(hi:I64 ins)(hl:init.length<=1000000):
  C_ 29 [.int .i64 ins, .slice (init.map rM) .no] σ (.tup [aJ (Aig.New ins init).1, .int .i64 (Aig.New ins init).2]) σ:=by
 refine ACalls.virt (by kernel_rfl) 2 (λoV1 hoV1 hnV1 hnV1'=>?_);(try simp only[aa,ne_eq,not_and] at hoV1);refine gO [] Tryz.func29 (by kernel_rfl) (by conv=>lhs;reduce;dsimp only[iA]) rfl ?_;obtain⟨hi1,hi2⟩:=hi;by_cases h0:ins<0
 ·have hv:Aig.New ins init=(⟨0,[],[],[]⟩,1):=by simp[Aig.New, *]
  repeat' (first|simp(maxDischargeDepth:=9) -implicitDefEqProofs -dsimp only[go_sem,seval, *]|((with_reducible refine Zt (λoF hoF hnF hnF'=>?_));(try simp only[aa,ne_eq,not_and] at hoF)))
  refine fin_eq ?_;(repeat' simp(maxDischargeDepth:=9) -implicitDefEqProofs -dsimp only[go_sem,seval, *])
 by_cases h1:65536-(init.length:Int)<ins
 ·have hv:Aig.New ins init=(⟨0,[],[],[]⟩,2):=by simp only[Aig.New,h0,if_false];rw[if_pos (by omega)]
  repeat' (first|simp(maxDischargeDepth:=9) -implicitDefEqProofs -dsimp only[go_sem,seval,gt_iff_lt, *]|simp(disch:=omega) only[ah,aj,ao,aA,au,ag,az,aq]|((with_reducible refine Zt (λoF hoF hnF hnF'=>?_));(try simp only[aa,ne_eq,not_and] at hoF)))
  refine fin_eq ?_;(repeat' simp(maxDischargeDepth:=9) -implicitDefEqProofs -dsimp only[go_sem,seval, *])
 have hv:Aig.New ins init=(⟨ins,init.map λb=>⟨0,b⟩,[],[]⟩,0):=by simp only[Aig.New,h0,if_false];rw[if_neg (by omega)]
 repeat' (first|simp(maxDischargeDepth:=9) -implicitDefEqProofs -dsimp only[go_sem,seval,gt_iff_lt, *]|simp(disch:=omega) only[ah,aj,ao,aA,au,ag,az,aq]|((with_reducible refine Zt (λoF hoF hnF hnF'=>?_));(try simp only[aa,ne_eq,not_and] at hoF)))
 rename_i o4 ho4 hn4 hn4'
 refine ar (λi:Nat=>[(4,some (.ptr o4 0)),(6,some (.ptr oF 0)),(22,some (.slice (init.map rM) .no)),(23,some (.int .i64 init.length)),(24,some (.int .i64 i))])
  (λi=>aF (aF (aF σ oV1 (.grow 2 i)) o4 (.cells [.int .i64 0, .slice [] .nil, .slice [] .nil, .slice [] .nil])) oF (.cells [.int .i64 ins, .slice ((init.take i).map λb=>encFlop ⟨0,b⟩) (.own oV1), .slice [] .nil, .slice [] .nil])) (λi=>i<=init.length) (λi=>init.length-i) 0 ?_ ?_
 ·(repeat' simp(maxDischargeDepth:=9) -implicitDefEqProofs -dsimp only[go_sem,seval, *])<;>(first|omega|skip)
 ·intro i hi';by_cases hlt:i<init.length
  ·have hs:=yL hlt;have hlen:(init.take i).length=i:=by simp;omega
   have hz:∀l:List Bool,iq 2 (l.map λb=>encFlop ⟨0,b⟩)=True:=λl=>dU _ _ _ λ_=>rfl;repeat' (first|simp(maxDischargeDepth:=9) -implicitDefEqProofs -dsimp only[go_sem,seval,hz, *]|simp(disch:=omega) only[ah,aj,ao,aA,au,ag,az,aq]|((with_reducible refine Zv ?_ ?_);focus (first|omega|exact rfl))|((with_reducible refine Zu ?_ ?_);focus omega))
   refine cA _ _ _ _ (i+1) ?_;(repeat' simp(maxDischargeDepth:=9) -implicitDefEqProofs -dsimp only[go_sem,seval, *])<;>(repeat' refine And.intro ?_ ?_)<;>(first|omega|skip)
  ·repeat' simp(maxDischargeDepth:=9) -implicitDefEqProofs -dsimp only[go_sem,seval, *]
   refine fin_eq ?_;have e0:init.take i=init:=List.take_of_length_le (by omega);have e1:(init.map λb=>(⟨0,b⟩:Flop)).map encFlop=init.map λb=>encFlop ⟨0,b⟩:=by rw[List.map_map];rfl
   (repeat' simp(maxDischargeDepth:=9) -implicitDefEqProofs -dsimp only[go_sem,seval,e0,e1, *])
end Go.Proofs.YtbbihmmobfmadaaGreat.A
namespace Go.Proofs.YtbbihmmobfmadaaGreat.A
open Abs Fil
theorem jH(n a:Int)(σ:aB)(h1: -1000000000<=n)(h2:n<=1000000000):C_ 80 [.int .i64 n, .int .i64 a] σ (.bool (Aig.litN n a)) σ:=by
 refine gO [] Tryz.func80 (by kernel_rfl) (by conv=>lhs;reduce;dsimp only[iA]) rfl ?_;repeat' (first|simp -implicitDefEqProofs -dsimp only[go_sem,seval,ge_iff_le, *]|simp(disch:=omega) only[ah,aj,ao,aA,au,ag,az,aq]|(with_reducible (first|apply Za|apply Zb|apply Zc|apply Zd|apply Ze|apply Zf|apply Zg|apply Zh|apply Zi|apply Zj|apply Zk|apply Zl|apply Zm|apply Zn|apply Zo|apply Zp|apply Zq|apply Zr|apply Zs)<;>intro hq))
 ·refine fin_eq ?_;(repeat' simp -implicitDefEqProofs -dsimp only[go_sem,seval,Aig.litN, *])
 ·refine fin_eq ?_;(repeat' simp -implicitDefEqProofs -dsimp only[go_sem,seval,Aig.litN, *])
theorem hH(g:Aig)(σ:aB)(hs:Small g):C_ 81 [aJ g] σ (.int .i64 (1+g.count)) σ:=by
 refine gO [1] Tryz.func81 (by kernel_rfl) (by conv=>lhs;reduce;dsimp only[iA]) rfl ?_;obtain⟨⟨h0,h1,h2,h3,h4,h5,h6⟩,h7,h8⟩:=hs;repeat' (first|simp -implicitDefEqProofs -dsimp only[go_sem,seval, *]|simp(disch:=omega) only[ah,aj,ao,aA,au,ag,az,aq])
 exact fb ⟨by simp only[Aig.count,Int.add_assoc],rfl⟩
theorem lW(g:Aig)(σ:aB)(hs:Wf g):C_ 40 [aJ g] σ (.int .i64 g.check) σ:=by
 refine gO [1] Tryz.func40 (by kernel_rfl) (by conv=>lhs;reduce;dsimp only[iA]) rfl ?_;have hfl:=hs.flops;have hal:=hs.ands;have hol:=hs.outs;by_cases hlo:g.ins<0
 ·have hv:g.check=1:=by simp[Aig.check,hlo]
  repeat' (first|simp -implicitDefEqProofs -dsimp only[go_sem,seval, *]|refine fin_eq ?_)
 by_cases hhi:65536<g.ins
 ·have hv:g.check=2:=by simp[Aig.check,hlo,hhi]
  repeat' (first|simp -implicitDefEqProofs -dsimp only[go_sem,seval,gt_iff_lt, *]|refine fin_eq ?_)
 have hsm:Small g:=⟨hs,by omega,by omega⟩;by_cases hb:65536<g.count\/65536<(g.outs.length:Int)
 ·have hv:g.check=2:=by simp[Aig.check,hlo,hhi,hb]
  have hb':65536<g.ins+g.flops.length+g.ands.length\/65536<(g.outs.length:Int):=hb;repeat' (first|simp -implicitDefEqProofs -dsimp only[go_sem,seval,gt_iff_lt, *]|simp(disch:=omega) only[ah,aj,ao,aA,au,ag,az,aq]|(with_reducible (first|apply Za|apply Zb|apply Zc|apply Zd|apply Ze|apply Zf|apply Zg|apply Zh|apply Zi|apply Zj|apply Zk|apply Zl|apply Zm|apply Zn|apply Zo|apply Zp|apply Zq|apply Zr|apply Zs)<;>intro hq)|omega)
  all_goals first|(exfalso;omega)|(refine fin_eq ?_;(repeat' simp -implicitDefEqProofs -dsimp only[go_sem,seval, *]))
 have hv:g.check=if g.good then 0 else 1:=by simp[Aig.check,hlo,hhi,hb]
 have hcnt:g.ins+g.flops.length+g.ands.length<=65536/\(g.outs.length:Int)<=65536:=by
  unfold Aig.count at hb;omega
 have hc1:0<=g.count/\g.count<=65536:=by unfold Aig.count;omega
 have bad1:∀i,(h:i<g.ands.length)->¬(Aig.litN (1+g.ins+g.flops.length+i) g.ands[i].1=true/\Aig.litN (1+g.ins+g.flops.length+i) g.ands[i].2=true)->g.good=false:=λi h hn=>by
  have:Aig.gatesOk g.first g.ands=false:=gQ h (fun⟨k1,k2⟩=>hn ⟨bj.2 (by unfold Aig.first at k1;omega),bj.2 (by unfold Aig.first at k2;omega)⟩)
  simp[Aig.good,this]
 have bad2:∀i,(h:i<g.flops.length)->Aig.litN (1+g.count) g.flops[i].next=false->g.good=false:=λi h hn=>by
  have:(g.flops.any λf=> !g.lit f.next)=true:=by simp only[List.any_eq_true];exact⟨_,List.getElem_mem h,by simp[Aig.lit,hn]⟩
  simp[Aig.good,this]
 have bad3:∀i,(h:i<g.outs.length)->Aig.litN (1+g.count) g.outs[i]=false->g.good=false:=λi h hn=>by
  have:(g.outs.any λa=> !g.lit a)=true:=by simp only[List.any_eq_true];exact⟨_,List.getElem_mem h,by simp[Aig.lit,hn]⟩
  simp[Aig.good,this]
 have hb2:¬65536<(g.outs.length:Int):=by omega
 have hb3:¬65536<g.ins+g.flops.length+g.ands.length:=by omega
 repeat' (first|simp -implicitDefEqProofs -dsimp only[go_sem,seval,gt_iff_lt, *]|simp(disch:=omega) only[ah,aj,ao,aA,au,ag,az,aq])
 refine ar (λi:Nat=>[(4,some (.int .i64 i)),(1,some (.cptr (gg g))),(3,some (.int .i64 (1+g.ins+g.flops.length)))]) (λ_=>σ)
  (λi=>i<=g.ands.length/\∀j,(hj:j<g.ands.length)->j<i->Aig.litN (1+g.ins+g.flops.length+j) g.ands[j].1=true/\Aig.litN (1+g.ins+g.flops.length+j) g.ands[j].2=true) (λi=>g.ands.length-i) 0 ?_ ?_
 ·(repeat' (first|simp -implicitDefEqProofs -dsimp only[go_sem,seval, *]|with_reducible refine And.intro ?_ ?_|omega))
 ·rintro i ⟨hi,hok1⟩;by_cases hlt:i<g.ands.length
  ·have hgb:=bad1 i hlt;clear bad1 bad2 bad3;repeat' (first|simp -implicitDefEqProofs -dsimp only[go_sem,seval, *]|simp(disch:=omega) only[ah,aj,ao,aA,au,ag,az,aq]|(with_reducible (first|apply Za|apply Zb|apply Zc|apply Zd|apply Ze|apply Zf|apply Zg|apply Zh|apply Zi|apply Zj|apply Zk|apply Zl|apply Zm|apply Zn|apply Zo|apply Zp|apply Zq|apply Zr|apply Zs)<;>intro hq)|with_reducible refine Zu ?_ ?_|refine kc1 (jH (1+g.ins+g.flops.length+i) g.ands[i].1 _ ?_ ?_) ?_|refine kc1 (jH (1+g.ins+g.flops.length+i) g.ands[i].2 _ ?_ ?_) ?_|omega)
   all_goals first|(have hx:g.good=false:=hgb (by simp[*]);refine fin_eq ?_;(repeat' simp -implicitDefEqProofs -dsimp only[go_sem,seval,Bool.false_eq_true, *]);done)|skip
   refine lnx (i+1) ?_;(repeat' (first|simp -implicitDefEqProofs -dsimp only[go_sem,seval, *]|with_reducible refine And.intro ?_ ?_|omega))
   intro j hj h;rcases Nat.lt_or_ge j i with h'|h'
   ·exact hok1 j hj h'
   ·obtain rfl:j=i:=by omega
    exact⟨by assumption,by assumption⟩
  ·repeat' simp -implicitDefEqProofs -dsimp only[go_sem,seval, *]
   refine ar (λi:Nat=>[(5,some (.int .i64 i)),(1,some (.cptr (gg g)))]) (λ_=>σ) (λi=>i<=g.flops.length/\∀j,(hj:j<g.flops.length)->j<i->Aig.litN (1+g.count) g.flops[j].next=true) (λi=>g.flops.length-i) 0 ?_ ?_
   ·(repeat' (first|simp -implicitDefEqProofs -dsimp only[go_sem,seval, *]|with_reducible refine And.intro ?_ ?_|omega))
   ·rintro k ⟨hk,hok2⟩;by_cases hlt2:k<g.flops.length
    ·have hgb:=bad2 k hlt2;clear bad1 bad2 bad3;repeat' (first|simp -implicitDefEqProofs -dsimp only[go_sem,seval, *]|simp(disch:=omega) only[ah,aj,ao,aA,au,ag,az,aq]|(with_reducible (first|apply Za|apply Zb|apply Zc|apply Zd|apply Ze|apply Zf|apply Zg|apply Zh|apply Zi|apply Zj|apply Zk|apply Zl|apply Zm|apply Zn|apply Zo|apply Zp|apply Zq|apply Zr|apply Zs)<;>intro hq)|with_reducible refine Zu ?_ ?_|with_reducible refine id_one0 (λtS hS=>hH g _ hsm) trivial ?_|with_reducible refine id_one0 (λtS hS=>jH (1+g.count) g.flops[k].next _ ?_ ?_) trivial ?_|omega)
     ·refine lnx (k+1) ?_;(repeat' (first|simp -implicitDefEqProofs -dsimp only[go_sem,seval, *]|with_reducible refine And.intro ?_ ?_|omega))
      intro j hj h;rcases Nat.lt_or_ge j k with h'|h'
      ·exact hok2 j hj h'
      ·obtain rfl:j=k:=by omega
       assumption
     ·have hx:=hgb hq;refine fin_eq ?_;(repeat' simp -implicitDefEqProofs -dsimp only[go_sem,seval,Bool.false_eq_true, *])
    ·repeat' simp -implicitDefEqProofs -dsimp only[go_sem,seval, *]
     refine ar (λi:Nat=>[(6,some (.int .i64 i)),(1,some (.cptr (gg g)))]) (λ_=>σ) (λi=>i<=g.outs.length/\∀j,(hj:j<g.outs.length)->j<i->Aig.litN (1+g.count) g.outs[j]=true) (λi=>g.outs.length-i) 0 ?_ ?_
     ·(repeat' (first|simp -implicitDefEqProofs -dsimp only[go_sem,seval, *]|with_reducible refine And.intro ?_ ?_|omega))
     ·rintro m ⟨hm,hok3⟩;by_cases hlt3:m<g.outs.length
      ·have hgb:=bad3 m hlt3;clear bad1 bad2 bad3;repeat' (first|simp -implicitDefEqProofs -dsimp only[go_sem,seval, *]|simp(disch:=omega) only[ah,aj,ao,aA,au,ag,az,aq]|(with_reducible (first|apply Za|apply Zb|apply Zc|apply Zd|apply Ze|apply Zf|apply Zg|apply Zh|apply Zi|apply Zj|apply Zk|apply Zl|apply Zm|apply Zn|apply Zo|apply Zp|apply Zq|apply Zr|apply Zs)<;>intro hq)|with_reducible refine Zu ?_ ?_|with_reducible refine id_one0 (λtS hS=>hH g _ hsm) trivial ?_|with_reducible refine id_one0 (λtS hS=>jH (1+g.count) g.outs[m] _ ?_ ?_) trivial ?_|omega)
       ·refine lnx (m+1) ?_;(repeat' (first|simp -implicitDefEqProofs -dsimp only[go_sem,seval, *]|with_reducible refine And.intro ?_ ?_|omega))
        intro j hj h;rcases Nat.lt_or_ge j m with h'|h'
        ·exact hok3 j hj h'
        ·obtain rfl:j=m:=by omega
         assumption
       ·have hx:=hgb hq;refine fin_eq ?_;(repeat' simp -implicitDefEqProofs -dsimp only[go_sem,seval,Bool.false_eq_true, *])
      ·have hgood:g.good=true:=by
        have q1:Aig.gatesOk g.first g.ands=true:=gG.2 λj hj=>by
         obtain⟨k1,k2⟩:=hok1 j hj (by omega);have k1:=bj.1 k1;have k2:=bj.1 k2;unfold Aig.first
         omega
        have q2:(g.flops.any λf=> !g.lit f.next)=false:=by
         simp only[List.any_eq_false,Bool.not_eq_true,Bool.not_eq_false'];intro f hf;obtain⟨j,hj,rfl⟩:=List.getElem_of_mem hf;exact hok2 j hj (by omega)
        have q3:(g.outs.any λa=> !g.lit a)=false:=by
         simp only[List.any_eq_false,Bool.not_eq_true,Bool.not_eq_false'];intro f hf;obtain⟨j,hj,rfl⟩:=List.getElem_of_mem hf;exact hok3 j hj (by omega)
        simp[Aig.good,q1,q2,q3]
       clear bad1 bad2 bad3;repeat' (first|simp -implicitDefEqProofs -dsimp only[go_sem,seval, *]|refine fin_eq ?_)
theorem gH(g:Aig)(l:List Int)(σ:aB)(hs:Wf g)(hl:l.length<=1000000):
  C_ 216 [aJ g, .slice (l.map encInt) .no] σ (.int .i64 (g.checkL g.check l)) σ:=by
 refine gO [2] Tryz.func216 (by kernel_rfl) (by conv=>lhs;reduce;dsimp only[iA]) rfl ?_;by_cases h0:g.check=0
 ·have hf:=cU hs h0;have hsm:=hf.toSmall;have hc:=hf.cnt;have hc1:0<=g.count:=by have:=hf.lo;unfold Aig.count;omega
  have ez:((0:Int) != 0)=false:=by decide
  repeat' (first|simp -implicitDefEqProofs -dsimp only[go_sem,seval, *]|refine kc1 (lW g _ hs) ?_)
  refine ar (λi:Nat=>[(6,some (.int .i64 i)),(1,some (.slice (l.map encInt) .no)),(2,some (.cptr (gg g)))]) (λ_=>σ) (λi=>i<=l.length/\∀j,(hj:j<l.length)->j<i->g.lit l[j]=true) (λi=>l.length-i) 0 ?_ ?_
  ·(repeat' (first|simp -implicitDefEqProofs -dsimp only[go_sem,seval, *]|with_reducible refine And.intro ?_ ?_|omega))
  ·rintro i ⟨hi,hok⟩;by_cases hlt:i<l.length
   ·repeat' (first|simp -implicitDefEqProofs -dsimp only[go_sem,seval, *]|simp(disch:=omega) only[ah,aj,ao,aA,au,ag,az,aq]|(with_reducible (first|apply Za|apply Zb|apply Zc|apply Zd|apply Ze|apply Zf|apply Zg|apply Zh|apply Zi|apply Zj|apply Zk|apply Zl|apply Zm|apply Zn|apply Zo|apply Zp|apply Zq|apply Zr|apply Zs)<;>intro hq)|with_reducible refine Zu ?_ ?_|with_reducible refine id_one0 (λtS hS=>hH g _ hsm) trivial ?_|with_reducible refine id_one0 (λtS hS=>jH (1+g.count) l[i] _ ?_ ?_) trivial ?_|omega)
    ·refine lnx (i+1) ?_;(repeat' (first|simp -implicitDefEqProofs -dsimp only[go_sem,seval, *]|with_reducible refine And.intro ?_ ?_|omega))
     intro j hj h;rcases Nat.lt_or_ge j i with h'|h'
     ·exact hok j hj h'
     ·obtain rfl:j=i:=by omega
      exact hq
    ·have hv:g.checkL 0 l=1:=oG (List.getElem_mem hlt) hq;refine fin_eq ?_;(repeat' simp -implicitDefEqProofs -dsimp only[go_sem,seval, *])
   ·have hv:g.checkL 0 l=0:=bD.2 ⟨rfl,λa ha=>by
     obtain⟨j,hj,rfl⟩:=List.getElem_of_mem ha;exact hok j hj (by omega)⟩
    repeat' (first|simp -implicitDefEqProofs -dsimp only[go_sem,seval, *]|refine fin_eq ?_)
 ·have hb:(g.check != 0)=true:=by simpa using h0
  have hv:=jG g l g.check h0;repeat' (first|simp -implicitDefEqProofs -dsimp only[go_sem,seval, *]|refine kc1 (lW g _ hs) ?_|refine fin_eq ?_)
end Go.Proofs.YtbbihmmobfmadaaGreat.A
namespace Go.Proofs.YtbbihmmobfmadaaGreat.A
open Abs Fil
theorem oH(g:Aig)(a b:Int)(σ:aB)(hs:g.ands.length<=1000000)(h:a<=b):
  C_ 243 [aJ g, .int .i64 a, .int .i64 b] σ (.int .i64 (g.find a b)) σ:=by
 refine gO [3] Tryz.func243 (by kernel_rfl) (by conv=>lhs;reduce;dsimp only[iA,iB]) rfl ?_;rw[E1 h];repeat' simp -implicitDefEqProofs -dsimp only[go_sem,seval, *]
 refine ar (λi:Nat=>[(7,some (.int .i64 i)),(3,some (.cptr (gg g))),(1,some (.int .i64 a)),(2,some (.int .i64 b))]) (λ_=>σ)
  (λi=>i<=g.ands.length/\∀j,(hj:j<g.ands.length)->j<i->((decide (g.ands[j].1=a)&&decide (g.ands[j].2=b))||(decide (g.ands[j].1=b)&&decide (g.ands[j].2=a)))=false) (λi=>g.ands.length-i) 0 ?_ ?_
 ·(repeat' (first|simp -implicitDefEqProofs -dsimp only[go_sem,seval, *]|refine And.intro ?_ ?_|omega))
 ·rintro i ⟨hi,hb⟩;by_cases hlt:i<g.ands.length
  ·obtain⟨x,hx⟩:∃x,g.ands[i]=x:=⟨_,rfl⟩;by_cases hp:((decide (x.1=a)&&decide (x.2=b))||(decide (x.1=b)&&decide (x.2=a)))=true
   ·have hv:=idxF_some (p:=λx:Int×Int=>(decide (x.1=a)&&decide (x.2=b))||(decide (x.1=b)&&decide (x.2=a))) hlt (λj hj=>hb j (by omega) hj) (by rw[hx];exact hp)
    rw[hv];clear hv;simp only[Bool.or_eq_true,Bool.and_eq_true,decide_eq_true_eq] at hp;repeat' (first|simp -implicitDefEqProofs -dsimp only[go_sem,seval, *]|simp(disch:=omega) only[ah,aj,ao,aA,au,ag,az,aq]|(with_reducible (first|apply Za|apply Zb|apply Zc|apply Zd|apply Ze|apply Zf|apply Zg|apply Zh|apply Zi|apply Zj|apply Zk|apply Zl|apply Zm|apply Zn|apply Zo|apply Zp|apply Zq|apply Zr|apply Zs)<;>intro hq)|refine Zu ?_ ?_|(refine Zt λoF hoF hnF hnF'=>?_;try simp only[aa,ne_eq,not_and] at hoF)|omega)
    all_goals first|(exfalso;omega)|(refine fin_eq ?_;(repeat' simp -implicitDefEqProofs -dsimp only[go_sem,seval, *]);done)
   ·have hp':=hp;simp only[Bool.or_eq_true,Bool.and_eq_true,decide_eq_true_eq] at hp;repeat' (first|simp -implicitDefEqProofs -dsimp only[go_sem,seval, *]|simp(disch:=omega) only[ah,aj,ao,aA,au,ag,az,aq]|(with_reducible (first|apply Za|apply Zb|apply Zc|apply Zd|apply Ze|apply Zf|apply Zg|apply Zh|apply Zi|apply Zj|apply Zk|apply Zl|apply Zm|apply Zn|apply Zo|apply Zp|apply Zq|apply Zr|apply Zs)<;>intro hq)|refine Zu ?_ ?_|(refine Zt λoF hoF hnF hnF'=>?_;try simp only[aa,ne_eq,not_and] at hoF)|omega)
    all_goals first|(exfalso;omega)|skip
    all_goals
     refine lnx (i+1) ?_;(repeat' (first|simp -implicitDefEqProofs -dsimp only[go_sem,seval, *]|refine And.intro ?_ ?_|omega))
     intro j hj h;rcases Nat.lt_or_ge j i with h'|h'
     ·exact hb j hj h'
     ·obtain rfl:j=i:=by omega
      rw[hx];simpa using hp'
  ·rw[idxF_none (λa' ha'=>by
    obtain⟨j,hj,rfl⟩:=List.getElem_of_mem ha';exact hb j hj (by omega))]
   repeat' (first|simp -implicitDefEqProofs -dsimp only[go_sem,seval, *]|refine fin_eq ?_)
end Go.Proofs.YtbbihmmobfmadaaGreat.A
namespace Go.Proofs.YtbbihmmobfmadaaGreat.A
open Abs Fil
theorem Bz(g h:Aig)(σ:aB)(l1:g.flops.length<=1000000)(l2:g.ands.length<=1000000)(l3:g.outs.length<=1000000):
  C_ 13 [aJ g,aJ h] σ (.bool (decide (g=h))) σ:=by
 refine eI mixed Tryz.func13 b13 n13 rfl q13 (by simp) ?_;unfold c13 r13;have ne1:g.ins≠h.ins->decide (g=h)=false:=λhn=>by simp;intro e;exact hn (by rw[e])
 have ne2:g.flops≠h.flops->decide (g=h)=false:=λhn=>by simp;intro e;exact hn (by rw[e])
 have ne3:g.ands≠h.ands->decide (g=h)=false:=λhn=>by simp;intro e;exact hn (by rw[e])
 have ne4:g.outs≠h.outs->decide (g=h)=false:=λhn=>by simp;intro e;exact hn (by rw[e])
 by_cases hi:g.ins=h.ins
 ·by_cases h1:g.flops.length=h.flops.length
  ·by_cases h2:g.ands.length=h.ands.length
   ·by_cases h3:g.outs.length=h.outs.length
    ·have b0:(h.ins != h.ins)=false:=by simp
     repeat' simp -implicitDefEqProofs -dsimp only[go_sem,seval, *]
     have h1':=And.intro (Nat.le_of_eq h1) (Nat.le_of_eq h1.symm);have h2':=And.intro (Nat.le_of_eq h2) (Nat.le_of_eq h2.symm);have h3':=And.intro (Nat.le_of_eq h3) (Nat.le_of_eq h3.symm);clear h1 h2 h3;refine ar (λi:Nat=>[(5,some (.int .i64 i)),(2,some (.cptr (gg g))),(3,some (.cptr (gg h)))]) (λ_=>σ) (λi=>i<=g.flops.length/\∀j,(hj:j<g.flops.length)->j<i->g.flops[j]=h.flops[j]) (λi=>g.flops.length-i) 0 ?_ ?_
     ·(repeat' (first|simp -implicitDefEqProofs -dsimp only[go_sem,seval, *]|refine And.intro ?_ ?_|omega))
     ·rintro i ⟨hi',hok1⟩;by_cases hlt:i<g.flops.length
      ·have hlt':i<h.flops.length:=by omega
       obtain⟨x,hx⟩:∃x,g.flops[i]=x:=⟨_,rfl⟩;obtain⟨y,hy⟩:∃y,h.flops[i]=y:=⟨_,rfl⟩;by_cases he:x=y
       ·clear ne1 ne2 ne3 ne4;subst he;repeat' (first|simp -implicitDefEqProofs -dsimp only[go_sem,seval, *]|simp(disch:=omega) only[ah,aj,ao,aA,au,ag,az,aq]|refine Zu ?_ ?_|refine lnx (i+1) ?_|refine And.intro ?_ ?_|omega)
        intro j hj hji;rcases Nat.lt_or_ge j i with h'|h'
        ·exact hok1 j hj h'
        ·obtain rfl:j=i:=by omega
         rw[hx,hy]
       ·have hv:=ne2 (λe=>he (by rw[<-hx,<-hy];simp only[e]))
        have hb:((x.next==y.next)&&(x.init==y.init))=false:=by
         cases x;cases y;simp at he|-;exact he
        clear ne1 ne2 ne3 ne4;repeat' (first|simp -implicitDefEqProofs -dsimp only[go_sem,seval, *]|refine Zu ?_ ?_|refine fin_eq ?_)
      ·repeat' simp -implicitDefEqProofs -dsimp only[go_sem,seval, *]
       refine ar (λi:Nat=>[(6,some (.int .i64 i)),(2,some (.cptr (gg g))),(3,some (.cptr (gg h)))]) (λ_=>σ) (λi=>i<=g.ands.length/\∀j,(hj:j<g.ands.length)->j<i->g.ands[j]=h.ands[j]) (λi=>g.ands.length-i) 0 ?_ ?_
       ·(repeat' (first|simp -implicitDefEqProofs -dsimp only[go_sem,seval, *]|refine And.intro ?_ ?_|omega))
       ·rintro k ⟨hk',hok2⟩;by_cases hlt2:k<g.ands.length
        ·have hlt':k<h.ands.length:=by omega
         obtain⟨x,hx⟩:∃x,g.ands[k]=x:=⟨_,rfl⟩;obtain⟨y,hy⟩:∃y,h.ands[k]=y:=⟨_,rfl⟩;by_cases he:x=y
         ·clear ne1 ne2 ne3 ne4;subst he;repeat' (first|simp -implicitDefEqProofs -dsimp only[go_sem,seval, *]|simp(disch:=omega) only[ah,aj,ao,aA,au,ag,az,aq]|refine Zu ?_ ?_|refine lnx (k+1) ?_|refine And.intro ?_ ?_|omega)
          intro j hj hji;rcases Nat.lt_or_ge j k with h'|h'
          ·exact hok2 j hj h'
          ·obtain rfl:j=k:=by omega
           rw[hx,hy]
         ·have hv:=ne3 (λe=>he (by rw[<-hx,<-hy];simp only[e]))
          have hb:((x.1==y.1)&&(x.2==y.2))=false:=by
           cases x;cases y;simp at he|-;exact he
          clear ne1 ne2 ne3 ne4;repeat' (first|simp -implicitDefEqProofs -dsimp only[go_sem,seval, *]|refine Zu ?_ ?_|refine fin_eq ?_)
        ·repeat' simp -implicitDefEqProofs -dsimp only[go_sem,seval, *]
         refine ar (λi:Nat=>[(7,some (.int .i64 i)),(2,some (.cptr (gg g))),(3,some (.cptr (gg h)))]) (λ_=>σ) (λi=>i<=g.outs.length/\∀j,(hj:j<g.outs.length)->j<i->g.outs[j]=h.outs[j]) (λi=>g.outs.length-i) 0 ?_ ?_
         ·(repeat' (first|simp -implicitDefEqProofs -dsimp only[go_sem,seval, *]|refine And.intro ?_ ?_|omega))
         ·rintro m ⟨hm',hok3⟩;by_cases hlt3:m<g.outs.length
          ·have hlt':m<h.outs.length:=by omega
           obtain⟨x,hx⟩:∃x,g.outs[m]=x:=⟨_,rfl⟩;obtain⟨y,hy⟩:∃y,h.outs[m]=y:=⟨_,rfl⟩;by_cases he:x=y
           ·clear ne1 ne2 ne3 ne4;subst he;repeat' (first|simp -implicitDefEqProofs -dsimp only[go_sem,seval, *]|simp(disch:=omega) only[ah,aj,ao,aA,au,ag,az,aq]|refine Zu ?_ ?_|refine lnx (m+1) ?_|refine And.intro ?_ ?_|omega)
            intro j hj hji;rcases Nat.lt_or_ge j m with h'|h'
            ·exact hok3 j hj h'
            ·obtain rfl:j=m:=by omega
             rw[hx,hy]
           ·have hv:=ne4 (λe=>he (by rw[<-hx,<-hy];simp only[e]));have hb:(x != y)=true:=by simpa using he
            clear ne1 ne2 ne3 ne4;repeat' (first|simp -implicitDefEqProofs -dsimp only[go_sem,seval, *]|refine Zu ?_ ?_|refine fin_eq ?_)
          ·have hv:decide (g=h)=true:=by
            have q1:g.flops=h.flops:=List.ext_getElem (by omega) λj hj _=>hok1 j hj (by omega);have q2:g.ands=h.ands:=List.ext_getElem (by omega) λj hj _=>hok2 j hj (by omega);have q3:g.outs=h.outs:=List.ext_getElem (by omega) λj hj _=>hok3 j hj (by omega);cases g;cases h;simp_all
           clear ne1 ne2 ne3 ne4;repeat' (first|simp -implicitDefEqProofs -dsimp only[go_sem,seval, *]|refine fin_eq ?_)
    ·have hv:=ne4 (λe=>h3 (by rw[e]));clear ne1 ne2 ne3 ne4;repeat' (first|simp -implicitDefEqProofs -dsimp only[go_sem,seval, *]|(with_reducible (first|apply Za|apply Zb|apply Zc|apply Zd|apply Ze|apply Zf|apply Zg|apply Zh|apply Zi|apply Zj|apply Zk|apply Zl|apply Zm|apply Zn|apply Zo|apply Zp|apply Zq|apply Zr|apply Zs)<;>intro hq)|omega)
     all_goals first|(exfalso;omega)|(refine fin_eq ?_;(repeat' simp -implicitDefEqProofs -dsimp only[go_sem,seval, *]))
   ·have hv:=ne3 (λe=>h2 (by rw[e]));clear ne1 ne2 ne3 ne4;repeat' (first|simp -implicitDefEqProofs -dsimp only[go_sem,seval, *]|(with_reducible (first|apply Za|apply Zb|apply Zc|apply Zd|apply Ze|apply Zf|apply Zg|apply Zh|apply Zi|apply Zj|apply Zk|apply Zl|apply Zm|apply Zn|apply Zo|apply Zp|apply Zq|apply Zr|apply Zs)<;>intro hq)|omega)
    all_goals first|(exfalso;omega)|(refine fin_eq ?_;(repeat' simp -implicitDefEqProofs -dsimp only[go_sem,seval, *]))
  ·have hv:=ne2 (λe=>h1 (by rw[e]));clear ne1 ne2 ne3 ne4;repeat' (first|simp -implicitDefEqProofs -dsimp only[go_sem,seval, *]|(with_reducible (first|apply Za|apply Zb|apply Zc|apply Zd|apply Ze|apply Zf|apply Zg|apply Zh|apply Zi|apply Zj|apply Zk|apply Zl|apply Zm|apply Zn|apply Zo|apply Zp|apply Zq|apply Zr|apply Zs)<;>intro hq)|omega)
   all_goals first|(exfalso;omega)|(refine fin_eq ?_;(repeat' simp -implicitDefEqProofs -dsimp only[go_sem,seval, *]))
 ·have hv:=ne1 hi;clear ne1 ne2 ne3 ne4;repeat' (first|simp -implicitDefEqProofs -dsimp only[go_sem,seval, *]|(with_reducible (first|apply Za|apply Zb|apply Zc|apply Zd|apply Ze|apply Zf|apply Zg|apply Zh|apply Zi|apply Zj|apply Zk|apply Zl|apply Zm|apply Zn|apply Zo|apply Zp|apply Zq|apply Zr|apply Zs)<;>intro hq)|omega)
  all_goals first|(exfalso;omega)|(refine fin_eq ?_;(repeat' simp -implicitDefEqProofs -dsimp only[go_sem,seval, *]))
end Go.Proofs.YtbbihmmobfmadaaGreat.A
namespace Go.Proofs.YtbbihmmobfmadaaGreat.A
open Abs Fil
theorem gI(g:Aig)(p q:Int)(σ:aB)(hf:Fine g)(hp:g.lit p=true)(hq:g.lit q=true):
  C_ 220 [aJ g, .int .i64 p, .int .i64 q] σ (.tup [aJ (Aig.endW (g.andW 0 p q)).1, .int .i64 (Aig.endW (g.andW 0 p q)).2.1, .int .i64 (Aig.endW (g.andW 0 p q)).2.2]) σ:=by
 refine gO [3] Tryz.func220 (by kernel_rfl) (by conv=>lhs;reduce;dsimp only[iA]) rfl ?_;have hs:=hf.toSmall;have hcn:=hf.cnt;have hlo:=hf.lo;have hhi:=hf.hi;have hfl:=hs.flops;have hal:=hs.ands;have hp':=bj.1 hp;have hq':=bj.1 hq;have hcd:g.ins+g.flops.length+g.ands.length<=65536:=hcn;have hc0:0<=g.count:=by unfold Aig.count;omega
 have hfb:=jd (λx:Int×Int=>decide (min x.1 x.2=min p q)&&decide (max x.1 x.2=max p q)) g.ands;have hfe:g.find (min p q) (max p q)=fw (λx:Int×Int=>decide (min x.1 x.2=min p q)&&decide (max x.1 x.2=max p q)) g.ands:=rfl;rw[<-hfe] at hfb;by_cases c1:min p q=0\/min p q=turn (max p q)
 ·rw[GE c1];clear hfe hcd;repeat' (first|simp(maxDischargeDepth:=9) -implicitDefEqProofs -dsimp only[go_sem,seval, *]|simp(disch:=omega) only[ah,aj,ao,aA,au,ag,az,aq]|(with_reducible (first|apply Za|apply Zb|apply Zc|apply Zd|apply Ze|apply Zf|apply Zg|apply Zh|apply Zi|apply Zj|apply Zk|apply Zl|apply Zm|apply Zn|apply Zo|apply Zp|apply Zq|apply Zr|apply Zs)<;>intro hq)|(with_reducible refine Zt λoF hoF hnF hnF'=>?_;try simp only[aa,ne_eq,not_and] at hoF)|omega)
  all_goals first|(exfalso;omega)|(refine fin_eq ?_;(repeat' simp(maxDischargeDepth:=9) -implicitDefEqProofs -dsimp only[go_sem,seval,Aig.endW, *]);done)
 by_cases c2:min p q=1\/min p q=max p q
 ·rw[GF c1 c2];clear hfe hcd;repeat' (first|simp(maxDischargeDepth:=9) -implicitDefEqProofs -dsimp only[go_sem,seval, *]|simp(disch:=omega) only[ah,aj,ao,aA,au,ag,az,aq]|(with_reducible (first|apply Za|apply Zb|apply Zc|apply Zd|apply Ze|apply Zf|apply Zg|apply Zh|apply Zi|apply Zj|apply Zk|apply Zl|apply Zm|apply Zn|apply Zo|apply Zp|apply Zq|apply Zr|apply Zs)<;>intro hq)|(with_reducible refine Zt λoF hoF hnF hnF'=>?_;try simp only[aa,ne_eq,not_and] at hoF)|omega)
  all_goals first|(exfalso;omega)|(refine fin_eq ?_;(repeat' simp(maxDischargeDepth:=9) -implicitDefEqProofs -dsimp only[go_sem,seval,Aig.endW, *]);done)
 by_cases c3:0<=g.find (min p q) (max p q)
 ·rw[GG c1 c2 c3];clear hfe hcd;repeat' (first|simp(maxDischargeDepth:=9) -implicitDefEqProofs -dsimp only[go_sem,seval,ge_iff_le, *]|simp(disch:=omega) only[ah,aj,ao,aA,au,ag,az,aq]|(with_reducible (first|apply Za|apply Zb|apply Zc|apply Zd|apply Ze|apply Zf|apply Zg|apply Zh|apply Zi|apply Zj|apply Zk|apply Zl|apply Zm|apply Zn|apply Zo|apply Zp|apply Zq|apply Zr|apply Zs)<;>intro hq)|(with_reducible refine Zt λoF hoF hnF hnF'=>?_;try simp only[aa,ne_eq,not_and] at hoF)|with_reducible refine kc1 (oH g (min p q) (max p q) _ hal ?_) ?_|omega)
  all_goals first|(exfalso;omega)|skip
  refine fin_eq ?_;(repeat' simp(maxDischargeDepth:=9) -implicitDefEqProofs -dsimp only[go_sem,seval,Aig.endW,Aig.first, *])
 by_cases c4:g.count=65536
 ·rw[GH c1 c2 c3 c4];have c4':g.ins+g.flops.length+g.ands.length=65536:=c4;clear hfe hcd;repeat' (first|simp(maxDischargeDepth:=9) -implicitDefEqProofs -dsimp only[go_sem,seval,ge_iff_le, *]|simp(disch:=omega) only[ah,aj,ao,aA,au,ag,az,aq]|(with_reducible (first|apply Za|apply Zb|apply Zc|apply Zd|apply Ze|apply Zf|apply Zg|apply Zh|apply Zi|apply Zj|apply Zk|apply Zl|apply Zm|apply Zn|apply Zo|apply Zp|apply Zq|apply Zr|apply Zs)<;>intro hq)|(with_reducible refine Zt λoF hoF hnF hnF'=>?_;try simp only[aa,ne_eq,not_and] at hoF)|with_reducible refine kc1 (oH g (min p q) (max p q) _ hal ?_) ?_|omega)
  all_goals first|(exfalso;omega)|(refine fin_eq ?_;(repeat' simp(maxDischargeDepth:=9) -implicitDefEqProofs -dsimp only[go_sem,seval,Aig.endW, *]);done)
 ·rw[GI c1 c2 c3 c4];have c4':g.ins+g.flops.length+g.ands.length<65536:=by unfold Aig.count at c4;omega
  have hsm:=(qy hf hp hq (g':={g with ands:=g.ands++[(min p q,max p q)]}) (x:=2*(g.count+1)) (by simp only[Aig.andO,c1,c2,c3,c4,if_false])).1.toSmall;have hcp:=ke (g:=g) (min p q,max p q);clear hfe hcd;repeat' (first|simp(maxDischargeDepth:=9) -implicitDefEqProofs -dsimp only[go_sem,seval,ge_iff_le, *]|simp(disch:=omega) only[ah,aj,ao,aA,au,ag,az,aq]|(with_reducible (first|apply Za|apply Zb|apply Zc|apply Zd|apply Ze|apply Zf|apply Zg|apply Zh|apply Zi|apply Zj|apply Zk|apply Zl|apply Zm|apply Zn|apply Zo|apply Zp|apply Zq|apply Zr|apply Zs)<;>intro hq)|with_reducible refine Zv ?_ ?_|(with_reducible refine Zt λoF hoF hnF hnF'=>?_;try simp only[aa,ne_eq,not_and] at hoF)|with_reducible refine kc1 (oH g (min p q) (max p q) _ hal ?_) ?_|with_reducible refine id_one0 (λtS hS=>ACalls.flA (hH {g with ands:=g.ands++[(min p q,max p q)]} _ hsm) ?_) trivial ?_|omega)
  all_goals first|(exfalso;omega)|skip
  all_goals
   refine fin_eq ?_;(repeat' (first|simp(maxDischargeDepth:=9) -implicitDefEqProofs -dsimp only[go_sem,seval,Aig.endW, *]|omega))
theorem BB(g:Aig)(a b:Int)(σ:aB)(hf:Fine g)(ha:g.lit a=true)(hb:g.lit b=true):
  C_ 221 [aJ g, .int .i64 a, .int .i64 b] σ (.tup [aJ (Aig.endW (g.orW 0 a b)).1, .int .i64 (Aig.endW (g.orW 0 a b)).2.1, .int .i64 (Aig.endW (g.orW 0 a b)).2.2]) σ:=by
 refine gO [3] Tryz.func221 (by kernel_rfl) (by conv=>lhs;reduce;dsimp only[iA]) rfl ?_;have hcn:=hf.cnt;have ha':=bj.1 ha;have hb':=bj.1 hb;have hr:=iF (g:=g) (e:=0) (p:=turn a) (q:=turn b) (λ_=>⟨hf,turn_lit ha,turn_lit hb⟩);obtain⟨hr1,hr2⟩:=hr;have ta:g.lit (turn a)=true:=turn_lit ha;have tb:g.lit (turn b)=true:=turn_lit hb;by_cases he:(g.andW 0 (turn a) (turn b)).2.1=0
 ·have e1:=iG he;have e2:=E2 (g:=g) (a:=a) (b:=b) he;repeat' (first|simp(maxDischargeDepth:=9) -implicitDefEqProofs -dsimp only[go_sem,seval, *]|simp(disch:=omega) only[ah,aj,ao,aA,au,ag,az,aq]|(with_reducible refine Zt λoF hoF hnF hnF'=>?_;try simp only[aa,ne_eq,not_and] at hoF)|with_reducible refine kc1 (gI g (turn a) (turn b) _ hf ta tb) ?_|refine fin_eq ?_)
 ·have e1:=dr he;have e2:=Bx (g:=g) (a:=a) (b:=b) he;have hb:((g.andW 0 (turn a) (turn b)).2.1 != 0)=true:=by simpa using he
  repeat' (first|simp(maxDischargeDepth:=9) -implicitDefEqProofs -dsimp only[go_sem,seval, *]|simp(disch:=omega) only[ah,aj,ao,aA,au,ag,az,aq]|(with_reducible refine Zt λoF hoF hnF hnF'=>?_;try simp only[aa,ne_eq,not_and] at hoF)|with_reducible refine kc1 (gI g (turn a) (turn b) _ hf ta tb) ?_|refine fin_eq ?_)
theorem qz(g:Aig)(a b c d:Int)(σ:aB)(hf:Fine g)(ha:g.lit a=true)(hb:g.lit b=true)(hc:g.lit c=true)(hd:g.lit d=true):
  C_ 217 [aJ g, .int .i64 a, .int .i64 b, .int .i64 c, .int .i64 d] σ (.tup [aJ (Aig.endW (g.pairs 0 a b c d)).1, .int .i64 (Aig.endW (g.pairs 0 a b c d)).2.1, .int .i64 (Aig.endW (g.pairs 0 a b c d)).2.2]) σ:=by
 refine gO [5] Tryz.func217 (by kernel_rfl) (by conv=>lhs;reduce;dsimp only[iA]) rfl ?_;obtain⟨k1,k2,_⟩:=fR (g:=g) (e:=0) (p:=a) (q:=b) (λ_=>⟨hf,ha,hb⟩);generalize hr:g.andW 0 a b=r at k1 k2;by_cases he:r.2.1=0
 ·have e1:=iG he;have hfr:=(k1 he).1;have lc:=k2.lit hc;have ld:=k2.lit hd;obtain⟨m1,m2,_⟩:=fR (g:=r.1) (e:=0) (p:=c) (q:=d) (λ_=>⟨hfr,lc,ld⟩);generalize hs:r.1.andW 0 c d=s at m1 m2;have hp:g.pairs 0 a b c d=s.1.orW s.2.1 r.2.2 s.2.2:=by simp only[Aig.pairs,hr,he,hs]
  by_cases he2:s.2.1=0
  ·have e2:=iG he2;have hfs:=(m1 he2).1;have l1:=m2.lit (k1 he).2;have l2:=(m1 he2).2;have ez:((0:Int) != 0)=false:=by decide
   repeat' (first|simp(maxDischargeDepth:=9) -implicitDefEqProofs -dsimp only[go_sem,seval, *]|(with_reducible refine Zt λoF hoF hnF hnF'=>?_;try simp only[aa,ne_eq,not_and] at hoF)|with_reducible refine kc1 (gI g a b _ hf ha hb) ?_|with_reducible refine kc1 (gI r.1 c d _ hfr lc ld) ?_|with_reducible refine kc1 (BB s.1 r.2.2 s.2.2 _ hfs l1 l2) ?_|refine fin_eq ?_)
  ·have e2:=dr he2
   have hp2:Aig.endW (s.1.orW s.2.1 r.2.2 s.2.2)=(⟨0,[],[],[]⟩,0,s.2.1):=by
    have h':s.1.orW s.2.1 r.2.2 s.2.2=(s.1,s.2.1,turn 0):=by simp only[Aig.orW,fX he2]
    rw[h'];exact dr he2
   have hb2:(s.2.1 != 0)=true:=by simpa using he2
   have ez:((0:Int) != 0)=false:=by decide
   repeat' (first|simp(maxDischargeDepth:=9) -implicitDefEqProofs -dsimp only[go_sem,seval, *]|(with_reducible refine Zt λoF hoF hnF hnF'=>?_;try simp only[aa,ne_eq,not_and] at hoF)|with_reducible refine kc1 (gI g a b _ hf ha hb) ?_|with_reducible refine kc1 (gI r.1 c d _ hfr lc ld) ?_|refine fin_eq ?_)
 ·have e1:=dr he
  have hp:Aig.endW (g.pairs 0 a b c d)=(⟨0,[],[],[]⟩,0,r.2.1):=by
   have:g.pairs 0 a b c d=(r.1,r.2.1,turn 0):=by
    simp only[Aig.pairs,hr,fX he,Aig.orW]
   rw[this];exact dr he
  have hb2:(r.2.1 != 0)=true:=by simpa using he
  repeat' (first|simp(maxDischargeDepth:=9) -implicitDefEqProofs -dsimp only[go_sem,seval, *]|(with_reducible refine Zt λoF hoF hnF hnF'=>?_;try simp only[aa,ne_eq,not_and] at hoF)|with_reducible refine kc1 (gI g a b _ hf ha hb) ?_|refine fin_eq ?_)
theorem E7(g:Aig)(a b:Int)(σ:aB)(hs:Wf g):
  C_ 177 [aJ g, .int .i64 a, .int .i64 b] σ (.tup [aJ (g.And a b).1, .int .i64 (g.And a b).2.1, .int .i64 (g.And a b).2.2]) σ:=by
 refine gO [3] Tryz.func177 (by kernel_rfl) (by conv=>lhs;reduce;dsimp only[iA]) rfl ?_;obtain⟨e,he⟩:∃e,g.checkL g.check [a,b]=e:=⟨_,rfl⟩;have hd:g.And a b=Aig.endW (g.andW e a b):=by rw[<-he];rfl
 by_cases h0:e=0
 ·subst h0;obtain⟨hf,hl⟩:=bO hs he;have ha:=hl a (by simp);have hb:=hl b (by simp);have ez:((0:Int) != 0)=false:=by decide
  clear hl;repeat' (first|simp(maxDischargeDepth:=9) -implicitDefEqProofs -dsimp only[go_sem,seval, *]|(with_reducible refine Zt λoF hoF hnF hnF'=>?_;try simp only[aa,ne_eq,not_and] at hoF)|with_reducible refine kc1 (gI g a b _ hf ha hb) ?_|with_reducible refine kc1 (ACalls.flA (gH g [a,b] _ hs ?_) ?_) ?_|refine fin_eq ?_)
 ·have hv:Aig.endW (g.andW e a b)=(⟨0,[],[],[]⟩,0,e):=by rw[fX h0];exact dr h0
  have hb2:(e != 0)=true:=by simpa using h0
  repeat' (first|simp(maxDischargeDepth:=9) -implicitDefEqProofs -dsimp only[go_sem,seval, *]|(with_reducible refine Zt λoF hoF hnF hnF'=>?_;try simp only[aa,ne_eq,not_and] at hoF)|with_reducible refine kc1 (ACalls.flA (gH g [a,b] _ hs ?_) ?_) ?_|refine fin_eq ?_)
theorem Il(g:Aig)(a b:Int)(σ:aB)(hs:Wf g):
  C_ 178 [aJ g, .int .i64 a, .int .i64 b] σ (.tup [aJ (g.Or a b).1, .int .i64 (g.Or a b).2.1, .int .i64 (g.Or a b).2.2]) σ:=by
 refine gO [3] Tryz.func178 (by kernel_rfl) (by conv=>lhs;reduce;dsimp only[iA]) rfl ?_;obtain⟨e,he⟩:∃e,g.checkL g.check [a,b]=e:=⟨_,rfl⟩;have hd:g.Or a b=Aig.endW (g.orW e a b):=by rw[<-he];rfl
 by_cases h0:e=0
 ·subst h0;obtain⟨hf,hl⟩:=bO hs he;have ha:=hl a (by simp);have hb:=hl b (by simp);have ez:((0:Int) != 0)=false:=by decide
  clear hl;repeat' (first|simp(maxDischargeDepth:=9) -implicitDefEqProofs -dsimp only[go_sem,seval, *]|(with_reducible refine Zt λoF hoF hnF hnF'=>?_;try simp only[aa,ne_eq,not_and] at hoF)|with_reducible refine kc1 (BB g a b _ hf ha hb) ?_|with_reducible refine kc1 (ACalls.flA (gH g [a,b] _ hs ?_) ?_) ?_|refine fin_eq ?_)
 ·have hv:Aig.endW (g.orW e a b)=(⟨0,[],[],[]⟩,0,e):=by
   have h':g.orW e a b=(g,e,turn 0):=by simp only[Aig.orW,fX h0]
   rw[h'];exact dr h0
  have hb2:(e != 0)=true:=by simpa using h0
  repeat' (first|simp(maxDischargeDepth:=9) -implicitDefEqProofs -dsimp only[go_sem,seval, *]|(with_reducible refine Zt λoF hoF hnF hnF'=>?_;try simp only[aa,ne_eq,not_and] at hoF)|with_reducible refine kc1 (ACalls.flA (gH g [a,b] _ hs ?_) ?_) ?_|refine fin_eq ?_)
theorem qA{g:Aig}{e a b c d:Int}(h:e≠0):Aig.endW (g.pairs e a b c d)=(⟨0,[],[],[]⟩,0,e):=by
 have:g.pairs e a b c d=(g,e,turn 0):=by simp only[Aig.pairs,fX h,Aig.orW]
 rw[this];exact dr h
theorem E8(g:Aig)(a b:Int)(σ:aB)(hs:Wf g)(ia:I64 a)(ib:I64 b):
  C_ 169 [aJ g, .int .i64 a, .int .i64 b] σ (.tup [aJ (g.Xor a b).1, .int .i64 (g.Xor a b).2.1, .int .i64 (g.Xor a b).2.2]) σ:=by
 refine gO [3] Tryz.func169 (by kernel_rfl) (by conv=>lhs;reduce;dsimp only[iA]) rfl ?_;obtain⟨ia1,ia2⟩:=ia;obtain⟨ib1,ib2⟩:=ib;obtain⟨e,he⟩:∃e,g.checkL g.check [a,b]=e:=⟨_,rfl⟩;have hd:g.Xor a b=Aig.endW (g.pairs e a (turn b) (turn a) b):=by rw[<-he];rfl
 by_cases h0:e=0
 ·subst h0;obtain⟨hf,hl⟩:=bO hs he;have ha:=hl a (by simp);have hb:=hl b (by simp);have ta:g.lit (turn a)=true:=turn_lit ha;have tb:g.lit (turn b)=true:=turn_lit hb;have ez:((0:Int) != 0)=false:=by decide
  clear hl;repeat' (first|simp(maxDischargeDepth:=9) -implicitDefEqProofs -dsimp only[go_sem,seval, *]|simp(disch:=omega) only[ah,aj,ao,aA,au,ag,az,aq]|(with_reducible refine Zt λoF hoF hnF hnF'=>?_;try simp only[aa,ne_eq,not_and] at hoF)|with_reducible refine kc1 (qz g a (turn b) (turn a) b _ hf ha tb ta hb) ?_|with_reducible refine kc1 (ACalls.flA (gH g [a,b] _ hs ?_) ?_) ?_|refine fin_eq ?_)
 ·have hv:=qA (g:=g) (a:=a) (b:=turn b) (c:=turn a) (d:=b) h0;have hb2:(e != 0)=true:=by simpa using h0
  repeat' (first|simp(maxDischargeDepth:=9) -implicitDefEqProofs -dsimp only[go_sem,seval, *]|(with_reducible refine Zt λoF hoF hnF hnF'=>?_;try simp only[aa,ne_eq,not_and] at hoF)|with_reducible refine kc1 (ACalls.flA (gH g [a,b] _ hs ?_) ?_) ?_|refine fin_eq ?_)
theorem E9(g:Aig)(c a b:Int)(σ:aB)(hs:Wf g)(ic:I64 c):
  C_ 181 [aJ g, .int .i64 c, .int .i64 a, .int .i64 b] σ (.tup [aJ (g.Mux c a b).1, .int .i64 (g.Mux c a b).2.1, .int .i64 (g.Mux c a b).2.2]) σ:=by
 refine gO [4] Tryz.func181 (by kernel_rfl) (by conv=>lhs;reduce;dsimp only[iA]) rfl ?_;obtain⟨ic1,ic2⟩:=ic;obtain⟨e,he⟩:∃e,g.checkL g.check [c,a,b]=e:=⟨_,rfl⟩;have hd:g.Mux c a b=Aig.endW (g.pairs e c a (turn c) b):=by rw[<-he];rfl
 by_cases h0:e=0
 ·subst h0;obtain⟨hf,hl⟩:=bO hs he;have ha:=hl a (by simp);have hb:=hl b (by simp);have hc:=hl c (by simp);have tc:g.lit (turn c)=true:=turn_lit hc;have ez:((0:Int) != 0)=false:=by decide
  clear hl;repeat' (first|simp(maxDischargeDepth:=9) -implicitDefEqProofs -dsimp only[go_sem,seval, *]|simp(disch:=omega) only[ah,aj,ao,aA,au,ag,az,aq]|(with_reducible refine Zt λoF hoF hnF hnF'=>?_;try simp only[aa,ne_eq,not_and] at hoF)|with_reducible refine kc1 (qz g c a (turn c) b _ hf hc ha tc hb) ?_|with_reducible refine kc1 (ACalls.flA (gH g [c,a,b] _ hs ?_) ?_) ?_|refine fin_eq ?_)
 ·have hv:=qA (g:=g) (a:=c) (b:=a) (c:=turn c) (d:=b) h0;have hb2:(e != 0)=true:=by simpa using h0
  repeat' (first|simp(maxDischargeDepth:=9) -implicitDefEqProofs -dsimp only[go_sem,seval, *]|(with_reducible refine Zt λoF hoF hnF hnF'=>?_;try simp only[aa,ne_eq,not_and] at hoF)|with_reducible refine kc1 (ACalls.flA (gH g [c,a,b] _ hs ?_) ?_) ?_|refine fin_eq ?_)
end Go.Proofs.YtbbihmmobfmadaaGreat.A
namespace Go.Proofs.YtbbihmmobfmadaaGreat.A
open Abs Fil
theorem BC(a b:List Int)(σ:aB)(ha:a.length<=1000000000):
  C_ 14 [.slice (a.map encInt) .no, .slice (b.map encInt) .no] σ (.bool (decide (a=b))) σ:=by
 refine gO [] Tryz.func14 (by kernel_rfl) (by conv=>lhs;reduce;dsimp only[iA]) rfl ?_;by_cases hl:a.length=b.length
 ·repeat' simp -implicitDefEqProofs -dsimp only[go_sem,seval, *]
  have hl':=And.intro (Nat.le_of_eq hl) (Nat.le_of_eq hl.symm);clear hl;refine ar (λi:Nat=>[(0,some (.slice (a.map encInt) .no)),(1,some (.slice (b.map encInt) .no)),(5,some (.int .i64 i))]) (λ_=>σ) (λi=>i<=a.length/\∀j,(hj:j<a.length)->j<i->a[j]=b[j]) (λi=>a.length-i) 0 ?_ ?_
  ·(repeat' (first|simp -implicitDefEqProofs -dsimp only[go_sem,seval, *]|refine And.intro ?_ ?_|omega))
  ·rintro i ⟨hi,hok⟩;by_cases hlt:i<a.length
   ·have hlt':i<b.length:=by omega
    obtain⟨x,hx⟩:∃x,a[i]=x:=⟨_,rfl⟩;obtain⟨y,hy⟩:∃y,b[i]=y:=⟨_,rfl⟩;by_cases he:x=y
    ·subst he;repeat' (first|simp -implicitDefEqProofs -dsimp only[go_sem,seval, *]|simp(disch:=omega) only[ah,aj,ao,aA,au,ag,az,aq]|refine Zu ?_ ?_|refine lnx (i+1) ?_|refine And.intro ?_ ?_|omega)
     intro j hj hji;rcases Nat.lt_or_ge j i with h'|h'
     ·exact hok j hj h'
     ·obtain rfl:j=i:=by omega
      rw[hx,hy]
    ·have hv:decide (a=b)=false:=by simp;intro e;exact he (by rw[<-hx,<-hy];simp only[e])
     have hb:(x != y)=true:=by simpa using he
     repeat' (first|simp -implicitDefEqProofs -dsimp only[go_sem,seval, *]|refine Zu ?_ ?_|refine fin_eq ?_)
   ·have hv:decide (a=b)=true:=by simp;exact List.ext_getElem (by omega) λj hj _=>hok j hj (by omega)
    repeat' (first|simp -implicitDefEqProofs -dsimp only[go_sem,seval, *]|refine fin_eq ?_)
 ·have hb:((a.length:Int) != b.length)=true:=by simp;omega
  have hv:decide (a=b)=false:=by simp;intro e;exact hl (by rw[e])
  repeat' (first|simp -implicitDefEqProofs -dsimp only[go_sem,seval, *]|refine fin_eq ?_)
end Go.Proofs.YtbbihmmobfmadaaGreat.A
namespace Fil
open Abs
def Res(g:Aig)(n:Nat)(l:List Int)(r:Aig×Int×Int):Prop:=
 (r.2.2=0/\g.check=0/\(∀a∈l,g.lit a=true)/\Fine r.1/\Ext g r.1/\r.1.lit r.2.1=true/\r.1.ands.length<=g.ands.length+n)\/(r.2.2≠0/\r.1=⟨0,[],[],[]⟩/\r.2.1=0)
theorem BD{g g':Aig}{p q x:Int}(h:g.andO p q=some (g',x)):g'.ands.length<=g.ands.length+1:=by
 unfold Aig.andO at h;simp only at h;split at h
 ·simp at h;obtain⟨rfl,_⟩:=h;omega
 ·split at h
  ·simp at h;obtain⟨rfl,_⟩:=h;omega
  ·split at h
   ·simp at h;obtain⟨rfl,_⟩:=h;omega
   ·split at h
    ·simp at h
    ·simp at h;obtain⟨rfl,_⟩:=h;simp
theorem jg(g:Aig)(e p q:Int):(g.andW e p q).1.ands.length<=g.ands.length+1:=by
 unfold Aig.andW;split
 ·simp
 ·cases h:g.andO p q with
  |none=>simp
  |some r=>exact BD h
theorem BE{g:Aig}{e p q:Int}(hf:e=0->Fine g/\g.lit p=true/\g.lit q=true):
  ((g.orW e p q).2.1=0->Fine (g.orW e p q).1/\(g.orW e p q).1.lit (g.orW e p q).2.2=true)/\Ext g (g.orW e p q).1:=by
 obtain⟨h1,h2,_⟩:=fR (g:=g) (e:=e) (p:=turn p) (q:=turn q) λh=>⟨(hf h).1,turn_lit (hf h).2.1,turn_lit (hf h).2.2⟩;exact⟨λh=>⟨(h1 h).1,turn_lit (h1 h).2⟩,h2⟩
theorem qB{g:Aig}{e a b c d:Int}(hf:e=0->Fine g/\g.lit a=true/\g.lit b=true/\g.lit c=true/\g.lit d=true):
  ((g.pairs e a b c d).2.1=0->e=0/\Fine (g.pairs e a b c d).1/\(g.pairs e a b c d).1.lit (g.pairs e a b c d).2.2=true)/\Ext g (g.pairs e a b c d).1/\(g.pairs e a b c d).1.ands.length<=g.ands.length+3:=by
 obtain⟨h1,h2,_⟩:=fR (g:=g) (e:=e) (p:=a) (q:=b) λh=>⟨(hf h).1,(hf h).2.1,(hf h).2.2.1⟩
 obtain⟨k1,k2,_⟩:=fR (g:=(g.andW e a b).1) (e:=(g.andW e a b).2.1) (p:=c) (q:=d) λh=>by
  obtain⟨_,_,_,hc,hd⟩:=hf (eJ h);exact⟨(h1 h).1,h2.lit hc,h2.lit hd⟩
 obtain⟨m1,m2⟩:=BE (g:=((g.andW e a b).1.andW (g.andW e a b).2.1 c d).1) (e:=((g.andW e a b).1.andW (g.andW e a b).2.1 c d).2.1) (p:=(g.andW e a b).2.2) (q:=((g.andW e a b).1.andW (g.andW e a b).2.1 c d).2.2) λh=>
  ⟨(k1 h).1,k2.lit (h1 (eJ h)).2,(k1 h).2⟩
 have l1:=jg g e a b;have l2:=jg (g.andW e a b).1 (g.andW e a b).2.1 c d;have l3:=jg ((g.andW e a b).1.andW (g.andW e a b).2.1 c d).1 ((g.andW e a b).1.andW (g.andW e a b).2.1 c d).2.1 (turn (g.andW e a b).2.2) (turn ((g.andW e a b).1.andW (g.andW e a b).2.1 c d).2.2)
 exact⟨λh=>⟨eJ (eJ (eJ h)),m1 h⟩,(h2.trans k2).trans m2,by
  show((_:Aig).andW _ _ _).1.ands.length<=_
  omega⟩
theorem Fa{g:Aig}(hs:Wf g)(a b:Int):Res g 1 [a,b] (g.And a b):=by
 unfold Aig.And
 have hk:g.checkL g.check [a,b]=0->Fine g/\g.lit a=true/\g.lit b=true:=λh=>by
  obtain⟨h1,h2⟩:=bO hs h;exact⟨h1,h2 _ (by simp),h2 _ (by simp)⟩
 have ok:=fR hk;by_cases h:(g.andW (g.checkL g.check [a,b]) a b).2.1=0
 ·left
  rw[iG h];have h0:=eJ h;obtain⟨k1,k2⟩:=hk h0;exact⟨rfl,(bD.1 h0).1,(bD.1 h0).2,(ok.1 h).1,ok.2.1,(ok.1 h).2,jg _ _ _ _⟩
 ·right
  rw[dr h];exact⟨h,rfl,rfl⟩
theorem Im{g:Aig}(hs:Wf g)(a b:Int):Res g 1 [a,b] (g.Or a b):=by
 unfold Aig.Or
 have hk:g.checkL g.check [a,b]=0->Fine g/\g.lit a=true/\g.lit b=true:=λh=>by
  obtain⟨h1,h2⟩:=bO hs h;exact⟨h1,h2 _ (by simp),h2 _ (by simp)⟩
 have ok:=BE hk;by_cases h:(g.orW (g.checkL g.check [a,b]) a b).2.1=0
 ·left
  rw[iG h];have h0:g.checkL g.check [a,b]=0:=eJ h;exact⟨rfl,(bD.1 h0).1,(bD.1 h0).2,(ok.1 h).1,ok.2,(ok.1 h).2,jg _ _ _ _⟩
 ·right
  rw[dr h];exact⟨h,rfl,rfl⟩
theorem Fb{g:Aig}(hs:Wf g)(a b:Int):Res g 3 [a,b] (g.Xor a b):=by
 unfold Aig.Xor
 have ok:=qB (g:=g) (e:=g.checkL g.check [a,b]) (a:=a) (b:=turn b) (c:=turn a) (d:=b) λh=>by
  obtain⟨h1,h2⟩:=bO hs h;exact⟨h1,h2 _ (by simp),turn_lit (h2 _ (by simp)),turn_lit (h2 _ (by simp)),h2 _ (by simp)⟩
 by_cases h:(g.pairs (g.checkL g.check [a,b]) a (turn b) (turn a) b).2.1=0
 ·left
  rw[iG h];obtain⟨h0,k1,k2⟩:=ok.1 h;exact⟨rfl,(bD.1 h0).1,(bD.1 h0).2,k1,ok.2.1,k2,ok.2.2⟩
 ·right
  rw[dr h];exact⟨h,rfl,rfl⟩
theorem Fc{g:Aig}(hs:Wf g)(c a b:Int):Res g 3 [c,a,b] (g.Mux c a b):=by
 unfold Aig.Mux
 have ok:=qB (g:=g) (e:=g.checkL g.check [c,a,b]) (a:=c) (b:=a) (c:=turn c) (d:=b) λh=>by
  obtain⟨h1,h2⟩:=bO hs h;exact⟨h1,h2 _ (by simp),h2 _ (by simp),turn_lit (h2 _ (by simp)),h2 _ (by simp)⟩
 by_cases h:(g.pairs (g.checkL g.check [c,a,b]) c a (turn c) b).2.1=0
 ·left
  rw[iG h];obtain⟨h0,k1,k2⟩:=ok.1 h;exact⟨rfl,(bD.1 h0).1,(bD.1 h0).2,k1,ok.2.1,k2,ok.2.2⟩
 ·right
  rw[dr h];exact⟨h,rfl,rfl⟩
theorem Fd:Wf ⟨0,[],[],[]⟩:=⟨by simp[I64],by simp,by simp,by simp,by simp,by simp,by simp⟩
theorem Res.wf{g:Aig}{n:Nat}{l:List Int}{r:Aig×Int×Int}(h:Res g n l r):Wf r.1/\I64 r.2.1:=by
 rcases h with ⟨_,_,_,h,_,hl,_⟩|⟨_,h,h'⟩
 ·have:=bj.1 hl
  have:=h.cnt
  exact⟨h.toWf,by omega,by omega⟩
 ·rw[h,h'];exact⟨Fd,by simp[I64]⟩
end Fil
namespace Fil
open Abs
theorem ext_check{g h:Aig}(hs:Wf g)(hc:g.check=0)(hx:Ext g h)(hf:Fine h):h.check=0:=by
 have hcn:=hf.cnt;have hlo:=hf.lo;unfold Aig.check at hc|-;split at hc
 ·simp at hc
 ·split at hc
  ·simp at hc
  ·split at hc
   ·rename_i h1 h2 h3
    rw[if_neg (by omega),if_neg (by rw[hx.ins,hx.outs];omega),if_pos];simp only[Aig.good,Bool.and_eq_true,Bool.not_eq_true',List.any_eq_false,Bool.not_eq_true,Bool.not_eq_false'] at h3|-;refine⟨⟨hf.gok,λf hm=>?_⟩,λa hm=>?_⟩
    ·rw[hx.flops] at hm;exact λhn=>by have:=hx.lit (by simpa using h3.1.2 f hm:g.lit f.next=true);rw[hn] at this;simp at this
    ·rw[hx.outs] at hm;exact λhn=>by have:=hx.lit (by simpa using h3.2 a hm:g.lit a=true);rw[hn] at this;simp at this
   ·simp at hc
theorem Res.check{g:Aig}(hs:Wf g){n:Nat}{l:List Int}{r:Aig×Int×Int}(h:Res g n l r)(h0:r.2.2=0):r.1.check=0/\Fine r.1/\Ext g r.1/\r.1.lit r.2.1=true/\r.1.ands.length<=g.ands.length+n/\(∀a∈l,g.lit a=true)/\g.check=0:=by
 rcases h with ⟨_,hc,hl,hf,hx,hl',hn⟩|⟨h,_⟩
 ·exact⟨ext_check hs hc hx hf,hf,hx,hl',hn,hl,hc⟩
 ·exact(h h0).elim
theorem Res.checkL{g:Aig}(hs:Wf g){n:Nat}{l m:List Int}{r:Aig×Int×Int}(h:Res g n l r)(h0:r.2.2=0)(hm:∀a∈m,a∈l):r.1.checkL r.1.check m=0:=by
 obtain⟨h1,_,hx,_,_,hl,_⟩:=h.check hs h0;exact bD.2 ⟨h1,λa ha=>hx.lit (hl a (hm a ha))⟩
end Fil
namespace Fil
open Abs
section
variable {s : List Bool}
end
def Aig.value(g:Aig)(a:Int)(inp st:List Bool):Bool:=Aig.val (Aig.vals (false::(inp++st)) g.ands) a
section
variable {g : Aig} {a b c : Int} {inp st : List Bool} (hs : Wf g) (l1 : (inp.length : Int) = g.ins) (l2 : st.length = g.flops.length)
include hs l1 l2
end
end Fil
