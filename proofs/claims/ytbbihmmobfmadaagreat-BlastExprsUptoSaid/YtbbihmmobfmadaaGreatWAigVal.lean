/- What gates mean. -/
import Derived.Test.YtbbihmmobfmadaaGreatWAbsKx
import Derived.Test.YtbbihmmobfmadaaGreatWBlzC2
set_option linter.unusedSimpArgs false
set_option linter.unusedVariables false
set_option maxHeartbeats 4000000
set_option maxRecDepth 50000
namespace Fil
open Abs
structure Flop where
 next:Int
 init:Bool
 deriving DecidableEq,Repr
structure Aig where
 ins:Int
 flops:List Flop
 ands:List (Int×Int)
 outs:List Int
 deriving DecidableEq,Repr
abbrev encFlop(f:Flop):AV:= .agg [.int .i64 f.next, .bool f.init]
abbrev encGate(g:Int×Int):AV:= .agg [.int .i64 g.1, .int .i64 g.2]
abbrev encInt(a:Int):AV:= .int .i64 a
abbrev cP(a:Bool):AV:= .bool a
abbrev gC(g:Aig):List AV:=[.int .i64 g.ins, .slice (g.flops.map encFlop) .no, .slice (g.ands.map encGate) .no, .slice (g.outs.map encInt) .no]
abbrev aQ(g:Aig):AV:= .agg (gC g)
abbrev fi(g:Aig)(e:Int):AObj:= .cells [.int .i64 g.ins, .slice (g.flops.map encFlop) .no, .slice (g.ands.map encGate) .no, .slice (g.outs.map encInt) .no, .int .i64 e]
def I64(a:Int):Prop:= -9223372036854775808<=a/\a<=9223372036854775807
structure Wf(g:Aig):Prop where
 ins:I64 g.ins
 flops:g.flops.length<=1000000
 ands:g.ands.length<=1000000
 outs:g.outs.length<=1000000
 nexts:∀f∈g.flops,I64 f.next
 gates:∀x∈g.ands,I64 x.1/\I64 x.2
 lits:∀a∈g.outs,I64 a
structure Small(g:Aig):Prop extends Wf g where
 lo:0<=g.ins
 hi:g.ins<=1000000
namespace Aig
def count(g:Aig):Int:=g.ins+g.flops.length+g.ands.length
def first(g:Aig):Int:=1+g.ins+g.flops.length
def litN(n a:Int):Bool:=decide (0<=a)&&decide (a<2*n)
def lit(g:Aig)(a:Int):Bool:=litN (1+g.count) a
def gatesOk:Int->List (Int×Int)->Bool
 |_,[]=>true
 |n,x::l=>litN n x.1&&litN n x.2&&gatesOk (n+1) l
def good(g:Aig):Bool:=gatesOk g.first g.ands&& !(g.flops.any λf=> !g.lit f.next)&& !(g.outs.any λa=> !g.lit a)
def check(g:Aig):Int:=
 if g.ins<0 then 1
 else if 65536<g.ins\/65536<g.count\/65536<(g.outs.length:Int) then 2
 else if g.good then 0 else 1
def checkL(g:Aig):Int->List Int->Int
 |e,[]=>e
 |e,a::l=>g.checkL (if e=0/\g.lit a=false then 1 else e) l
def find(g:Aig)(a b:Int):Int:=de (λx:Int×Int=>decide (min x.1 x.2=a)&&decide (max x.1 x.2=b)) g.ands
def andO(g:Aig)(p q:Int):Option (Aig×Int):=
 let a:=min p q
 let b:=max p q
 if a=0\/a=turn b then some (g,0)
 else if a=1\/a=b then some (g,b)
 else if 0<=g.find a b then some (g,2*(g.first+g.find a b))
 else if g.count=65536 then none
 else some ({g with ands:=g.ands++[(a,b)]},2*(g.count+1))
def andW(g:Aig)(e p q:Int):Aig×Int×Int:=
 if e≠0 then (g,e,0) else match g.andO p q with
  |none=>(g,2,0)
  |some (g',x)=>(g',0,x)
def orW(g:Aig)(e p q:Int):Aig×Int×Int:=
 let r:=g.andW e (turn p) (turn q)
 (r.1,r.2.1,turn r.2.2)
def endW(r:Aig×Int×Int):Aig×Int×Int:=if r.2.1≠0 then (⟨0,[],[],[]⟩,0,r.2.1) else (r.1,r.2.2,0)
end Aig
theorem aU{n a:Int}:Aig.litN n a=true↔0<=a/\a<2*n:=by simp[Aig.litN]
theorem eI:∀{l:List (Int×Int)} {n:Int},Aig.gatesOk n l=true↔∀i,(h:i<l.length)->(0<=l[i].1/\l[i].1<2*(n+i))/\(0<=l[i].2/\l[i].2<2*(n+i))
 |[],n=>by simp[Aig.gatesOk]
 |x::l,n=>by
  simp only[Aig.gatesOk,Bool.and_eq_true,aU,eI (l:=l) (n:=n+1)];constructor
  ·rintro⟨h1,h2⟩ i hi;cases i with
   |zero=>simpa using h1
   |succ i=>
    have:=h2 i (by simpa using hi)
    simp only[List.getElem_cons_succ];omega
  ·intro h;have h0:=h 0 (by simp);refine⟨by simpa using h0,λi hi=>?_⟩;have:=h (i+1) (by simpa using hi)
   simp only[List.getElem_cons_succ] at this;omega
theorem ik{l:List (Int×Int)}{n:Int}{i:Nat}(h:i<l.length)(hb:¬((0<=l[i].1/\l[i].1<2*(n+i))/\(0<=l[i].2/\l[i].2<2*(n+i)))):Aig.gatesOk n l=false:=by
 cases hh:Aig.gatesOk n l with
 |false=>rfl
 |true=>exact(hb (eI.1 hh i h)).elim
theorem km(g:Aig):∀(l m:List Int) (e:Int),g.checkL e (l++m)=g.checkL (g.checkL e l) m
 |[],m,e=>rfl
 |a::l,m,e=>by simp only[List.cons_append,Aig.checkL];exact km g l m _
theorem uc(g:Aig)(l:List Int)(a e:Int):g.checkL e (l++[a])=if g.checkL e l=0/\g.lit a=false then 1 else g.checkL e l:=by
 rw[km];rfl
theorem bB{g:Aig}:∀{l:List Int} {e:Int},g.checkL e l=0↔e=0/\∀a∈l,g.lit a=true
 |[],e=>by simp[Aig.checkL]
 |a::l,e=>by
  simp only[Aig.checkL,bB (l:=l),List.mem_cons,forall_eq_or_imp];by_cases he:e=0
  ·cases h:g.lit a<;>simp[he,h]
  ·simp[he]
theorem nf{g:Aig}(hs:Wf g)(h:g.check=0):Small g:=by
 unfold Aig.check at h;split at h
 ·simp at h
 ·split at h
  ·simp at h
  ·exact⟨hs,by omega,by omega⟩
theorem sG{g:Aig}{l:List Int}(hs:Wf g)(h:g.checkL g.check l=0):Small g:=nf hs (bB.1 h).1
section
variable {g : Aig} {a b : Int}
theorem L2(h:min a b=0\/min a b=turn (max a b)):g.andW 0 a b=(g,0,0):=by simp[Aig.andW,Aig.andO,h]
theorem L3(h:¬(min a b=0\/min a b=turn (max a b)))(h2:min a b=1\/min a b=max a b):g.andW 0 a b=(g,0,max a b):=by
 simp only[Aig.andW,Aig.andO,h,h2,if_true,if_false];rfl
theorem L4(h:¬(min a b=0\/min a b=turn (max a b)))(h2:¬(min a b=1\/min a b=max a b))(h3:0<=g.find (min a b) (max a b)):g.andW 0 a b=(g,0,2*(g.first+g.find (min a b) (max a b))):=by
 simp only[Aig.andW,Aig.andO,h,h2,h3,if_true,if_false];rfl
theorem L5(h:¬(min a b=0\/min a b=turn (max a b)))(h2:¬(min a b=1\/min a b=max a b))(h3:¬0<=g.find (min a b) (max a b))(h4:g.count=65536):g.andW 0 a b=(g,2,0):=by
 simp only[Aig.andW,Aig.andO,h,h2,h3,h4,if_true,if_false];rfl
theorem L6(h:¬(min a b=0\/min a b=turn (max a b)))(h2:¬(min a b=1\/min a b=max a b))(h3:¬0<=g.find (min a b) (max a b))(h4:¬g.count=65536):
  g.andW 0 a b=({g with ands:=g.ands++[(min a b,max a b)]},0,2*(g.count+1)):=by
 simp only[Aig.andW,Aig.andO,h,h2,h3,h4,if_false];rfl
theorem pn(x:Int×Int):({g with ands:=g.ands++[x]}:Aig).count=g.count+1:=by simp[Aig.count];omega
end
theorem CN(l:List (Int×Int)):iy 2 (l.map encGate)=True:=dJ _ _ _ λ_=>rfl
theorem CO(l:List Flop):iy 2 (l.map encFlop)=True:=dJ _ _ _ λ_=>rfl
theorem GG(l:List Int):iy 1 (l.map encInt)=True:=dJ _ _ _ λ_=>rfl
theorem CP(l:List Bool):iy 1 (l.map cP)=True:=dJ _ _ _ λ_=>rfl
attribute [go_sem] CN CO GG CP
structure Ext(g g':Aig):Prop where
 ins:g'.ins=g.ins
 flops:g'.flops=g.flops
 outs:g'.outs=g.outs
 ands:∃l,g'.ands=g.ands++l
theorem Ext.refl(g:Aig):Ext g g:=⟨rfl,rfl,rfl,[],by simp⟩
theorem Ext.trans{g g' g'':Aig}(h:Ext g g')(h':Ext g' g''):Ext g g'':=by
 obtain⟨a1,a2,a3,l,a4⟩:=h;obtain⟨b1,b2,b3,m,b4⟩:=h';exact⟨b1.trans a1,b2.trans a2,b3.trans a3,l++m,by rw[b4,a4,List.append_assoc]⟩
theorem Ext.count{g g':Aig}(h:Ext g g'):g.count<=g'.count:=by
 obtain⟨a1,a2,a3,l,a4⟩:=h;simp only[Aig.count,a1,a2,a4,List.length_append];omega
theorem Ext.first{g g':Aig}(h:Ext g g'):g'.first=g.first:=by simp only[Aig.first,h.ins,h.flops]
theorem Ext.lit{g g':Aig}(h:Ext g g'){a:Int}(ha:g.lit a=true):g'.lit a=true:=by
 have:=h.count
 simp only[Aig.lit,aU] at ha|-;omega
structure Fine(g:Aig):Prop extends Small g where
 cnt:g.count<=65536
 gok:Aig.gatesOk g.first g.ands=true
theorem jx{n:Int}:∀{l m:List (Int×Int)},Aig.gatesOk n (l++m)=(Aig.gatesOk n l&&Aig.gatesOk (n+l.length) m)
 |[],m=>by simp[Aig.gatesOk]
 |x::l,m=>by
  simp only[List.cons_append,Aig.gatesOk,jx (l:=l),List.length_cons,Bool.and_assoc];congr 4;simp only[Int.natCast_add];omega
theorem jy(g:Aig):1+g.count=g.first+g.ands.length:=by simp only[Aig.count,Aig.first];omega
theorem cg{n a:Int}(h:Aig.litN n a=true):Aig.litN n (turn a)=true:=by
 simp only[aU,turn] at h|-;omega
theorem Ak{g g':Aig}{p q x:Int}(hf:Fine g)(hp:g.lit p=true)(hq:g.lit q=true)(h:g.andO p q=some (g',x)):Fine g'/\Ext g g'/\g'.lit x=true:=by
  have hp':=aU.1 hp;have hq':=aU.1 hq;have hlo:=hf.lo;have hc:0<=g.count:=by unfold Aig.count;omega
  unfold Aig.andO at h;simp only at h;split at h
  · simp at h;obtain⟨rfl,rfl⟩:=h
    exact⟨hf, .refl g,by simp only[Aig.lit,aU];omega⟩
  · rename_i h1
    split at h
    · simp at h;obtain⟨rfl,rfl⟩:=h
      exact⟨hf, .refl g,by simp only[Aig.lit,aU];omega⟩
    · split at h
      · simp at h;obtain⟨rfl,rfl⟩:=h
        have:=nc (λx:Int×Int=>decide (min x.1 x.2=min p q)&&decide (max x.1 x.2=max p q)) g.ands
        have e:g.find (min p q) (max p q)=de (λx:Int×Int=>decide (min x.1 x.2=min p q)&&decide (max x.1 x.2=max p q)) g.ands:=rfl;have cf:=jy g;refine⟨hf, .refl g,?_⟩;have hff:1<=g.first:=by unfold Aig.first;omega
        simp only[Aig.lit,aU];omega
      · split at h
        · simp at h
        · rename_i hcn
          simp at h;obtain⟨rfl,rfl⟩:=h
          have hcc:=hf.cnt;have hlen:(g.ands.length:Int)<=65536:=by simp only[Aig.count] at hcc;omega
          have cp:=pn (g:=g) (min p q,max p q);have cf:=jy g
          have hsm:Small {g with ands:=g.ands++[(min p q,max p q)]}:={hf.toSmall with
            ands:=by simp;omega
            gates:=λy hy=>by
              rcases List.mem_append.1 hy with h|h
              · exact hf.gates y h
              · simp at h;subst h;exact⟨⟨by simp;omega,by simp;omega⟩,⟨by simp;omega,by simp;omega⟩⟩}
          refine⟨{hsm with cnt:=by omega,gok:=?_},⟨rfl,rfl,rfl,_,rfl⟩,by simp only[Aig.lit,aU];omega⟩;show Aig.gatesOk g.first (g.ands++[(min p q,max p q)])=true
          rw[jx,hf.gok];simp only[Aig.gatesOk,Bool.and_true,Bool.true_and,Bool.and_eq_true,aU];omega
theorem cu{g:Aig}{e p q:Int}(h:(g.andW e p q).2.1=0):e=0:=by
 unfold Aig.andW at h;split at h
 ·exact h
 ·rename_i h';simpa using h'
theorem Al{g:Aig}{e p q:Int}(h:e≠0):g.andW e p q=(g,e,0):=by simp[Aig.andW,h]
theorem fJ{g:Aig}{e p q:Int}(hf:e=0->Fine g/\g.lit p=true/\g.lit q=true):
  ((g.andW e p q).2.1=0->Fine (g.andW e p q).1/\(g.andW e p q).1.lit (g.andW e p q).2.2=true)/\Ext g (g.andW e p q).1/\0<=(g.andW e p q).2.2/\(g.andW e p q).2.2<=1000000:=by
 by_cases he:e=0
 ·subst he;obtain⟨h1,h2,h3⟩:=hf rfl;cases ho:g.andO p q with
  |none=>
   have:g.andW 0 p q=(g,2,0):=by simp[Aig.andW,ho]
   rw[this];exact⟨λh=>by simp at h, .refl g,by simp,by simp⟩
  |some r=>
   obtain⟨g',x⟩:=r;have:g.andW 0 p q=(g',0,x):=by simp[Aig.andW,ho]
   rw[this];obtain⟨k1,k2,k3⟩:=Ak h1 h2 h3 ho;have:=aU.1 k3
   have:=k1.cnt
   exact⟨λ_=>⟨k1,k3⟩,k2,by simp;omega,by simp;omega⟩
 ·rw[Al he];exact⟨λh=>(he h).elim, .refl g,by simp,by simp⟩
theorem kI{g:Aig}{e p q:Int}(hf:e=0->Fine g/\g.lit p=true/\g.lit q=true):I64 (g.andW e p q).2.2:=by
 obtain⟨_,_,h1,h2⟩:=fJ hf;exact⟨by omega,by omega⟩
theorem dn{g:Aig}(hs:Wf g)(h:g.check=0):Fine g:=by
 have hsm:=nf hs h;unfold Aig.check at h;split at h
 ·simp at h
 ·split at h
  ·simp at h
  ·split at h
   ·rename_i hg
    simp only[Aig.good,Bool.and_eq_true] at hg;exact{hsm with cnt:=by omega,gok:=hg.1.1}
   ·simp at h
theorem aK{g:Aig}{l:List Int}(hs:Wf g)(h:g.checkL g.check l=0):Fine g/\∀a∈l,g.lit a=true:=⟨dn hs (bB.1 h).1,(bB.1 h).2⟩
namespace Aig
def And(g:Aig)(a b:Int):Aig×Int×Int:=endW (g.andW (g.checkL g.check [a,b]) a b)
def Or(g:Aig)(a b:Int):Aig×Int×Int:=endW (g.orW (g.checkL g.check [a,b]) a b)
def pairs(g:Aig)(e a b c d:Int):Aig×Int×Int:=
 let r:=g.andW e a b
 let s:=r.1.andW r.2.1 c d
 s.1.orW s.2.1 r.2.2 s.2.2
def Xor(g:Aig)(a b:Int):Aig×Int×Int:=endW (g.pairs (g.checkL g.check [a,b]) a (turn b) (turn a) b)
def Mux(g:Aig)(c a b:Int):Aig×Int×Int:=endW (g.pairs (g.checkL g.check [c,a,b]) c a (turn c) b)
def New(ins:Int)(init:List Bool):Aig×Int:=
 if ins<0 then (⟨0,[],[],[]⟩,1) else if 65536<ins+init.length then (⟨0,[],[],[]⟩,2) else (⟨ins,init.map λb=>⟨0,b⟩,[],[]⟩,0)
def val(v:List Bool)(a:Int):Bool:=(v.getD (a/2).toNat false) != decide (a%2=1)
def vals:List Bool->List (Int×Int)->List Bool
 |v,[]=>v
 |v,x::l=>vals (v++[val v x.1&&val v x.2]) l
def Nodes(g:Aig)(inp st:List Bool):List Bool×Int:=
 if g.check≠0 then ([],g.check) else if (inp.length:Int)≠g.ins\/st.length≠g.flops.length then ([],1) else (vals (false::(inp++st)) g.ands,0)
def MZ(g:Aig)(inp st:List Bool):List Bool×List Bool×Int:=
 if (g.Nodes inp st).2≠0 then ([],[],(g.Nodes inp st).2) else (g.outs.map (val (g.Nodes inp st).1),g.flops.map (λf=>val (g.Nodes inp st).1 f.next),0)
end Aig
theorem fR:∀(l m:List (Int×Int)) (v:List Bool),Aig.vals v (l++m)=Aig.vals (Aig.vals v l) m
 |[],m,v=>rfl
 |x::l,m,v=>by simp only[List.cons_append,Aig.vals];exact fR l m _
theorem rj(l:List (Int×Int))(x:Int×Int)(v:List Bool):Aig.vals v (l++[x])=Aig.vals v l++[Aig.val (Aig.vals v l) x.1&&Aig.val (Aig.vals v l) x.2]:=by
 rw[fR];rfl
theorem fS:∀(l:List (Int×Int)) (v:List Bool),(Aig.vals v l).length=v.length+l.length
 |[],v=>rfl
 |x::l,v=>by simp only[Aig.vals,fS l,List.length_append,List.length_cons,List.length_nil];omega
theorem ro{l:List (Int×Int)}{v:List Bool}{i:Nat}(h:i<l.length):
  Aig.vals v (l.take (i+1))=Aig.vals v (l.take i)++[Aig.val (Aig.vals v (l.take i)) l[i].1&&Aig.val (Aig.vals v (l.take i)) l[i].2]:=by
 rw[List.take_add_one,List.getElem?_eq_getElem h];exact rj _ _ _
theorem ud{l:List (Int×Int)}{v:List Bool}{i:Nat}(h:i<=l.length):(Aig.vals v (l.take i)).length=v.length+i:=by
 rw[fS,List.length_take];omega
theorem Am{α:Type}{l:List α}{i:Nat}(h:i<l.length):l.take (i+1)=l.take i++[l[i]]:=by
 rw[List.take_add_one,List.getElem?_eq_getElem h];rfl
theorem er{r:Aig×Int×Int}(h:r.2.1=0):Aig.endW r=(r.1,r.2.2,0):=by simp[Aig.endW,h]
theorem fT{r:Aig×Int×Int}(h:r.2.1≠0):Aig.endW r=(⟨0,[],[],[]⟩,0,r.2.1):=by simp[Aig.endW,h]
end Fil
namespace Go.Proofs.YtbbihmmobfmadaaGreat.A
open Abs Fil
theorem aig_count(o:Nat)(g:Aig)(e:Int)(σ:aA)(h:σ o=some (fi g e))(hs:Small g):
  C_ 233 [.ptr o 0] σ (.int .i64 g.count) σ:=by
 refine gO [] Tryz.func233 (by kernel_rfl) (by conv=>lhs;reduce;dsimp only[iA]) rfl ?_;obtain⟨⟨h0,h1,h2,h3,h4,h5,h6⟩,h7,h8⟩:=hs;repeat' (first|simp(maxDischargeDepth:=9) -implicitDefEqProofs -dsimp only[go_sem,seval, *]|simp(disch:=omega) only[ah,aj,ao,aw,ar,ag,au,aq])
 exact fw ⟨rfl,rfl⟩
theorem aig_first(o:Nat)(g:Aig)(e:Int)(σ:aA)(h:σ o=some (fi g e))(hs:Small g):
  C_ 235 [.ptr o 0] σ (.int .i64 g.first) σ:=by
 refine gO [] Tryz.func235 (by kernel_rfl) (by conv=>lhs;reduce;dsimp only[iA]) rfl ?_;obtain⟨⟨h0,h1,h2,h3,h4,h5,h6⟩,h7,h8⟩:=hs;repeat' (first|simp(maxDischargeDepth:=9) -implicitDefEqProofs -dsimp only[go_sem,seval, *]|simp(disch:=omega) only[ah,aj,ao,aw,ar,ag,au,aq])
 exact fw ⟨rfl,rfl⟩
theorem sH(o:Nat)(g:Aig)(e a:Int)(σ:aA)(h:σ o=some (fi g e))(hs:Small g)(ha:I64 a):
  C_ 201 [.ptr o 0, .int .i64 a] σ (.bool (g.lit a)) σ:=by
 refine gO [] Tryz.func201 (by kernel_rfl) (by conv=>lhs;reduce;dsimp only[iA]) rfl ?_;obtain⟨ha1,ha2⟩:=ha;repeat' (first|simp(maxDischargeDepth:=9) -implicitDefEqProofs -dsimp only[go_sem,seval, *]|simp(disch:=omega) only[ah,aj,ao,aw,ar,ag,au,aq]|(with_reducible (first|apply Za|apply Zb|apply Zc|apply Zd|apply Ze|apply Zf|apply Zg|apply Zh|apply Zi|apply Zj|apply Zk|apply Zl|apply Zm|apply Zn|apply Zo|apply Zp|apply Zq|apply Zr|apply Zs)<;>intro hq)|with_reducible refine kc1 (aig_count o g e σ h hs) ?_)
 ·refine fin_eq ?_;simp(maxDischargeDepth:=9) -implicitDefEqProofs -dsimp only[go_sem,seval]
  rw[Bool.eq_iff_iff];simp only[Aig.lit,aU,decide_eq_true_eq];omega
 ·refine fin_eq ?_;simp(maxDischargeDepth:=9) -implicitDefEqProofs -dsimp only[go_sem,seval]
  have:¬(0<=a):=by omega
  simp[Aig.lit,Aig.litN,this]
theorem wI(b o:Nat)(f:Flop)(g:Aig)(e:Int)(σ:aA)(hb:σ b=some (.cells [.ptr o 0]))(h:σ o=some (fi g e))(hs:Small g)(hf:I64 f.next):
  C_ 231 [encFlop f, .ptr b 0] σ (.bool (!g.lit f.next)) σ:=by
 refine gO [2] Tryz.func231 (by kernel_rfl) (by conv=>lhs;reduce;dsimp only[iA]) rfl ?_;repeat' (first|simp(maxDischargeDepth:=9) -implicitDefEqProofs -dsimp only[go_sem,seval, *]|with_reducible refine kc1 (sH o g e f.next σ h hs hf) ?_)
 exact fw ⟨rfl,rfl⟩
theorem wJ(b o:Nat)(a:Int)(g:Aig)(e:Int)(σ:aA)(hb:σ b=some (.cells [.ptr o 0]))(h:σ o=some (fi g e))(hs:Small g)(hf:I64 a):
  C_ 232 [.int .i64 a, .ptr b 0] σ (.bool (!g.lit a)) σ:=by
 refine gO [] Tryz.func232 (by kernel_rfl) (by conv=>lhs;reduce;dsimp only[iA]) rfl ?_;repeat' (first|simp(maxDischargeDepth:=9) -implicitDefEqProofs -dsimp only[go_sem,seval, *]|with_reducible refine kc1 (sH o g e a σ h hs hf) ?_)
 exact fw ⟨rfl,rfl⟩
theorem sI(p:Flop->Bool)(l:List Flop)(hl:l.length<=1000000000000)(σ:aA){F:Nat}{caps:List AV}(hF:∀x∈l,ACalls Tryz.prog F (encFlop x::caps) σ (λr σ'=>r= .ret (.bool (p x))/\σ'=σ)):
  C_ 246 [.slice (l.map encFlop) .no, .fn F [] caps] σ (.int .i64 (de p l)) σ:=
 cA (sz:=2) (g:=true) mixed Tryz.func246 (by kernel_rfl) (by kernel_rfl) rfl (by kernel_rfl) (λ_=>rfl) (λ_=>rfl) p l hl hF
theorem uf(p:Int->Bool)(l:List Int)(hl:l.length<=1000000000000)(σ:aA){F:Nat}{caps:List AV}(hF:∀x∈l,ACalls Tryz.prog F (encInt x::caps) σ (λr σ'=>r= .ret (.bool (p x))/\σ'=σ)):
  C_ 144 [.slice (l.map encInt) .no, .fn F [] caps] σ (.int .i64 (de p l)) σ:=
 cA (sz:=1) (g:=false) mixed Tryz.func144 (by kernel_rfl) (by kernel_rfl) rfl (by kernel_rfl) (λ_=>rfl) (λ_=>rfl) p l hl hF
theorem sl_indexGate(p:Int×Int->Bool)(l:List (Int×Int))(hl:l.length<=1000000000000)(σ:aA){F:Nat}{caps:List AV}(hF:∀x∈l,ACalls Tryz.prog F (encGate x::caps) σ (λr σ'=>r= .ret (.bool (p x))/\σ'=σ)):
  C_ 240 [.slice (l.map encGate) .no, .fn F [] caps] σ (.int .i64 (de p l)) σ:=
 cA (sz:=2) (g:=true) mixed Tryz.func240 (by kernel_rfl) (by kernel_rfl) rfl (by kernel_rfl) (λ_=>rfl) (λ_=>rfl) p l hl hF
theorem nB(p:Flop->Bool)(l:List Flop)(hl:l.length<=1000000000000)(σ:aA){F:Nat}{caps:List AV}(hF:∀x∈l,ACalls Tryz.prog F (encFlop x::caps) σ (λr σ'=>r= .ret (.bool (p x))/\σ'=σ)):
  C_ 234 [.slice (l.map encFlop) .no, .fn F [] caps] σ (.bool (l.any p)) σ:=
 bQ mixed Tryz.func234 (by kernel_rfl) (by kernel_rfl) rfl (by kernel_rfl) p l (sI p l hl σ hF)
theorem jz(p:Int->Bool)(l:List Int)(hl:l.length<=1000000000000)(σ:aA){F:Nat}{caps:List AV}(hF:∀x∈l,ACalls Tryz.prog F (encInt x::caps) σ (λr σ'=>r= .ret (.bool (p x))/\σ'=σ)):
  C_ 73 [.slice (l.map encInt) .no, .fn F [] caps] σ (.bool (l.any p)) σ:=
 bQ mixed Tryz.func73 (by kernel_rfl) (by kernel_rfl) rfl (by kernel_rfl) p l (uf p l hl σ hF)
theorem ug(l:List (Int×Int))(σ:aA):
  C_ 242 [.slice (l.map encGate) .no] σ (.slice (l.map encGate) .full) σ:=
 CL (sz:=2) mixed Tryz.func242 (by kernel_rfl) (by kernel_rfl) rfl (by kernel_rfl) (λ_=>rfl) l
theorem An(o:Nat)(g:Aig)(e:Int)(σ:aA)(h:σ o=some (fi g e))(hs:Wf g):
  C_ 200 [.ptr o 0] σ (.int .i64 g.check) σ:=by
 refine gO [] Tryz.func200 (by kernel_rfl) (by conv=>lhs;reduce;dsimp only[iA]) rfl ?_;by_cases hlo:g.ins<0
 ·repeat' (first|simp(maxDischargeDepth:=9) -implicitDefEqProofs -dsimp only[go_sem,seval, *]|(with_reducible refine Zt λoF hoF hnF hnF'=>?_;try simp only[aa,ne_eq,not_and] at hoF))
  refine fin_eq ?_;have:g.check=1:=by simp[Aig.check,hlo]
  (repeat' simp(maxDischargeDepth:=9) -implicitDefEqProofs -dsimp only[go_sem,seval,this, *])
 by_cases hhi:65536<g.ins
 ·repeat' (first|simp(maxDischargeDepth:=9) -implicitDefEqProofs -dsimp only[go_sem,seval,gt_iff_lt, *]|(with_reducible refine Zt λoF hoF hnF hnF'=>?_;try simp only[aa,ne_eq,not_and] at hoF))
  refine fin_eq ?_;have:g.check=2:=by simp[Aig.check,hlo,hhi]
  (repeat' simp(maxDischargeDepth:=9) -implicitDefEqProofs -dsimp only[go_sem,seval,this, *])
 have hsm:Small g:=⟨hs,by omega,by omega⟩;have hfl:=hs.flops;have hol:=hs.outs;repeat' (first|simp(maxDischargeDepth:=9) -implicitDefEqProofs -dsimp only[go_sem,seval,gt_iff_lt, *]|(with_reducible (first|apply Za|apply Zb|apply Zc|apply Zd|apply Ze|apply Zf|apply Zg|apply Zh|apply Zi|apply Zj|apply Zk|apply Zl|apply Zm|apply Zn|apply Zo|apply Zp|apply Zq|apply Zr|apply Zs)<;>intro hq)|(with_reducible refine Zt λoF hoF hnF hnF'=>?_;try simp only[aa,ne_eq,not_and] at hoF)|with_reducible refine kc1 (aig_count o g e _ ?_ hsm) ?_|with_reducible refine kc1 (nB (λf=> !g.lit f.next) g.flops ?_ _ (λf hf=>wI _ o f g e _ ?_ ?_ hsm (hs.nexts f hf))) ?_|with_reducible refine kc1 (jz (λa=> !g.lit a) g.outs ?_ _ (λa ha=>wJ _ o a g e _ ?_ ?_ hsm (hs.lits a ha))) ?_|omega)
 ·refine fin_eq ?_;have:g.check=2:=by simp[Aig.check,hlo,hhi,hq]
  (repeat' simp(maxDischargeDepth:=9) -implicitDefEqProofs -dsimp only[go_sem,seval,this, *])
 ·refine fin_eq ?_;have:g.check=2:=by simp[Aig.check,hlo,hhi,hq]
  (repeat' simp(maxDischargeDepth:=9) -implicitDefEqProofs -dsimp only[go_sem,seval,this, *])
 ·refine fin_eq ?_;have:g.check=1:=by simp[Aig.check,Aig.good,hlo,hhi, *]
  (repeat' simp(maxDischargeDepth:=9) -implicitDefEqProofs -dsimp only[go_sem,seval,this, *])
 ·refine fin_eq ?_;have:g.check=1:=by simp[Aig.check,Aig.good,hlo,hhi, *]
  (repeat' simp(maxDischargeDepth:=9) -implicitDefEqProofs -dsimp only[go_sem,seval,this, *])
 ·refine loop_rule (λi:Nat=>[(1,some (.ptr oF 0)),(52,some (.slice (g.ands.map encGate) .no)),(53,some (.int .i64 g.ands.length)),(54,some (.int .i64 i))]) (λ_=>aH σ oF (.cells [.ptr o 0])) (λi=>i<=g.ands.length/\∀j,(hj:j<g.ands.length)->j<i->(0<=g.ands[j].1/\g.ands[j].1<2*(g.first+j))/\(0<=g.ands[j].2/\g.ands[j].2<2*(g.first+j))) (λi=>g.ands.length-i) 0 ?_ ?_
  ·(repeat' (first|simp(maxDischargeDepth:=9) -implicitDefEqProofs -dsimp only[go_sem,seval, *]|with_reducible refine And.intro ?_ ?_|omega))
  ·rintro i ⟨hi,hb⟩;have hA:=hs.ands;have hF:=hs.flops
   have hfd:1<=g.first/\g.first<=3000000:=by
    have:=hsm.lo;have:=hsm.hi
    unfold Aig.first;omega
   by_cases hlt:i<g.ands.length
   ·have hgate:=hs.gates _ (List.getElem_mem hlt);obtain⟨⟨g1,g2⟩,g3,g4⟩:=hgate;repeat' (first|simp(maxDischargeDepth:=9) -implicitDefEqProofs -dsimp only[go_sem,seval,ge_iff_le, *]|simp(disch:=omega) only[ah,aj,ao,aw,ar,ag,au,aq]|(with_reducible (first|apply Za|apply Zb|apply Zc|apply Zd|apply Ze|apply Zf|apply Zg|apply Zh|apply Zi|apply Zj|apply Zk|apply Zl|apply Zm|apply Zn|apply Zo|apply Zp|apply Zq|apply Zr|apply Zs)<;>intro hq)|with_reducible refine Zu ?_ ?_|(with_reducible refine Zt λoF hoF hnF hnF'=>?_;try simp only[aa,ne_eq,not_and] at hoF)|with_reducible refine id_one0 (λtS hS=>aig_first o g e _ ?_ hsm) trivial ?_|with_reducible refine Sub.get (by assumption) ?_)
    ·have:g.check=1:=by
      have:=ik (n:=g.first) hlt (by omega)
      simp[Aig.check,Aig.good,hlo,hhi, *]
     refine fin_eq ?_;(repeat' simp(maxDischargeDepth:=9) -implicitDefEqProofs -dsimp only[go_sem,seval,this, *])
    ·refine lnx (i+1) ?_;(repeat' (first|simp(maxDischargeDepth:=9) -implicitDefEqProofs -dsimp only[go_sem,seval, *]|with_reducible refine And.intro ?_ ?_|omega))
     intro j hj h;rcases Nat.lt_or_ge j i with h'|h'
     ·exact hb j hj h'
     ·obtain rfl:j=i:=by omega
      omega
    ·have:g.check=1:=by
      have:=ik (n:=g.first) hlt (by omega)
      simp[Aig.check,Aig.good,hlo,hhi, *]
     refine fin_eq ?_;(repeat' simp(maxDischargeDepth:=9) -implicitDefEqProofs -dsimp only[go_sem,seval,this, *])
   ·repeat' simp(maxDischargeDepth:=9) -implicitDefEqProofs -dsimp only[go_sem,seval, *]
    refine fin_eq ?_
    have:g.check=0:=by
     have:Aig.gatesOk g.first g.ands=true:=eI.2 λj hj=>hb j hj (by omega)
     simp[Aig.check,Aig.good,hlo,hhi, *]
    (repeat' simp(maxDischargeDepth:=9) -implicitDefEqProofs -dsimp only[go_sem,seval,this, *])
end Go.Proofs.YtbbihmmobfmadaaGreat.A
namespace Go.Proofs.YtbbihmmobfmadaaGreat.A
open Abs Fil
theorem aig_begin(g:Aig)(l:List Int)(σ:aA)(hs:Wf g)(hl:l.length<=1000000)(hi:∀a∈l,I64 a):
  ACalls Tryz.prog 145 [aQ g, .slice (l.map encInt) .no] σ (ub σ (λo=> .ptr o 0) (fi g (g.checkL g.check l))):=by
 refine gO [2] Tryz.func145 (by kernel_rfl) (by conv=>lhs;reduce;dsimp only[iA]) rfl ?_;repeat' (first|simp(maxDischargeDepth:=9) -implicitDefEqProofs -dsimp only[go_sem,seval, *]|((with_reducible refine Zt (λoF hoF hnF hnF'=>?_));(try simp only[aa,ne_eq,not_and] at hoF))|((with_reducible apply ACalls.one1);(focus ((with_reducible refine An _ g 0 _ ?_ hs)<;>(first|(simp(maxDischargeDepth:=9) -implicitDefEqProofs -dsimp only[go_sem,seval, *];done)|omega)));(focus (first|trivial|exact rfl|(simp(maxDischargeDepth:=9) -implicitDefEqProofs -dsimp only[go_sem,seval];done)))))
 refine loop_rule (λi:Nat=>[(5,some (.ptr oF 0)),(16,some (.slice (l.map encInt) .no)),(17,some (.int .i64 l.length)),(18,some (.int .i64 i))]) (λi=>aH σ oF (fi g (g.checkL g.check (l.take i)))) (λi=>i<=l.length) (λi=>l.length-i) 0 ?_ ?_
 ·(repeat' simp(maxDischargeDepth:=9) -implicitDefEqProofs -dsimp only[go_sem,seval,Aig.checkL, *])<;>(first|omega|skip)
 ·intro i hi';by_cases hlt:i<l.length
  ·have hi2:=hi _ (List.getElem_mem hlt)
   have step:g.checkL g.check (l.take (i+1))=if g.checkL g.check (l.take i)=0/\g.lit l[i]=false then 1 else g.checkL g.check (l.take i):=by
    rw[List.take_add_one,List.getElem?_eq_getElem hlt];exact uc g _ _ _
   by_cases he:g.checkL g.check (l.take i)=0
   ·have hsm:Small g:=sG hs he;repeat' (first|simp(maxDischargeDepth:=9) -implicitDefEqProofs -dsimp only[go_sem,seval, *]|simp(disch:=omega) only[ah,aj,ao,aw,ar,ag,au,aq]|(with_reducible (first|apply Za|apply Zb|apply Zc|apply Zd|apply Ze|apply Zf|apply Zg|apply Zh|apply Zi|apply Zj|apply Zk|apply Zl|apply Zm|apply Zn|apply Zo|apply Zp|apply Zq|apply Zr|apply Zs)<;>intro hq)|((with_reducible refine Zu ?_ ?_);focus omega)|((with_reducible apply ACalls.one1);(focus ((with_reducible refine sH _ g 0 l[i] _ ?_ hsm hi2)<;>(first|(simp(maxDischargeDepth:=9) -implicitDefEqProofs -dsimp only[go_sem,seval, *];done)|omega)));(focus (first|trivial|exact rfl|(simp(maxDischargeDepth:=9) -implicitDefEqProofs -dsimp only[go_sem,seval];done)))))
    ·have st:g.checkL g.check (l.take (i+1))=0:=by rw[step];simp[*]
     refine bP _ _ _ _ (i+1) ?_;(repeat' simp(maxDischargeDepth:=9) -implicitDefEqProofs -dsimp only[go_sem,seval, *])<;>(repeat' refine And.intro ?_ ?_)<;>(first|omega|skip)
    ·have st:g.checkL g.check (l.take (i+1))=1:=by rw[step];simp[*]
     refine bP _ _ _ _ (i+1) ?_;(repeat' simp(maxDischargeDepth:=9) -implicitDefEqProofs -dsimp only[go_sem,seval, *])<;>(repeat' refine And.intro ?_ ?_)<;>(first|omega|skip)
   ·have st:g.checkL g.check (l.take (i+1))=g.checkL g.check (l.take i):=by rw[step];simp[*]
    have hb:(g.checkL g.check (l.take i)==0)=false:=by simpa using he
    repeat' (first|simp(maxDischargeDepth:=9) -implicitDefEqProofs -dsimp only[go_sem,seval, *]|simp(disch:=omega) only[ah,aj,ao,aw,ar,ag,au,aq]|((with_reducible refine Zu ?_ ?_);focus omega))
    refine bP _ _ _ _ (i+1) ?_;(repeat' simp(maxDischargeDepth:=9) -implicitDefEqProofs -dsimp only[go_sem,seval, *])<;>(repeat' refine And.intro ?_ ?_)<;>(first|omega|skip)
  ·repeat' simp(maxDischargeDepth:=9) -implicitDefEqProofs -dsimp only[go_sem,seval, *]
   refine sF oF hoF ?_;have e0:l.take i=l:=List.take_of_length_le (by omega);(repeat' simp(maxDischargeDepth:=9) -implicitDefEqProofs -dsimp only[go_sem,seval,e0, *])
theorem CQ(pa pb:Nat)(x:Int×Int)(a b:Int)(σ:aA)(ha:σ pa=some (.cells [.int .i64 a]))(hb:σ pb=some (.cells [.int .i64 b])):
  C_ 241 [encGate x, .ptr pa 0, .ptr pb 0] σ (.bool (decide (min x.1 x.2=a)&&decide (max x.1 x.2=b))) σ:=by
 refine gO [3] Tryz.func241 (by kernel_rfl) (by conv=>lhs;reduce;dsimp only[iA]) rfl ?_;repeat' (first|simp(maxDischargeDepth:=9) -implicitDefEqProofs -dsimp only[go_sem,seval, *]|(with_reducible (first|apply Za|apply Zb|apply Zc|apply Zd|apply Ze|apply Zf|apply Zg|apply Zh|apply Zi|apply Zj|apply Zk|apply Zl|apply Zm|apply Zn|apply Zo|apply Zp|apply Zq|apply Zr|apply Zs)<;>intro hq))
 ·have e:min x.1 x.2=a:=by omega
  exact fw ⟨by simp[e,Bool.beq_eq_decide_eq],rfl⟩
 ·exact fw ⟨by simp[hq],rfl⟩
theorem aig_and(o:Nat)(g:Aig)(e a b:Int)(σ:aA)(h:σ o=some (fi g e))(hok:e=0->Fine g/\g.lit a=true/\g.lit b=true):
    C_ 214 [.ptr o 0, .int .i64 a, .int .i64 b] σ (.int .i64 (g.andW e a b).2.2) (aH σ o (fi (g.andW e a b).1 (g.andW e a b).2.1)):=by
  refine gO [] Tryz.func214 (by kernel_rfl) (by conv=>lhs;reduce;dsimp only[iA]) rfl ?_;by_cases he:e=0
  · subst he
    obtain⟨hfine,ha,hb⟩:=hok rfl;have hs:=hfine.toSmall;have hcn:=hfine.cnt;have ha':=aU.1 ha;have hb':=aU.1 hb
    have hcnt:0<=g.count/\g.count<=3000000:=by
      have:=hs.lo;have:=hs.hi;have:=hs.flops;have:=hs.ands
      unfold Aig.count;omega
    have hfst:0<=g.first/\g.first<=3000000:=by
      have:=hs.lo;have:=hs.hi;have:=hs.flops
      unfold Aig.first;omega
    have hfb:=nc (λx:Int×Int=>decide (min x.1 x.2=min a b)&&decide (max x.1 x.2=max a b)) g.ands;have hal:=hs.ands
    have hpush:∀x:Int×Int,I64 x.1/\I64 x.2->g.ands.length<1000000->Small {g with ands:=g.ands++[x]}:=λx hx hl=>{hs with
      ands:=by simp;omega
      gates:=λy hy=>by
        rcases List.mem_append.1 hy with h|h
        · exact hs.gates y h
        · simp at h;subst h;exact hx}
    repeat' (first|simp(maxDischargeDepth:=9) -implicitDefEqProofs -dsimp only[go_sem,seval,ge_iff_le, *]|simp(disch:=omega) only[ah,aj,ao,aw,ar,ag,au,aq]|(with_reducible (first|apply Za|apply Zb|apply Zc|apply Zd|apply Ze|apply Zf|apply Zg|apply Zh|apply Zi|apply Zj|apply Zk|apply Zl|apply Zm|apply Zn|apply Zo|apply Zp|apply Zq|apply Zr|apply Zs)<;>intro hq)|((with_reducible refine Zv ?_ ?_);focus (first|omega|exact rfl))|((with_reducible refine Zt (λoF hoF hnF hnF'=>?_));(try simp only[aa,ne_eq,not_and] at hoF))|((with_reducible apply ACalls.one1);(focus ((first|with_reducible refine aig_count o g 0 _ ?_ hs|with_reducible refine aig_first o g 0 _ ?_ hs|with_reducible refine sl_indexGate (λx:Int×Int=>decide (min x.1 x.2=min a b)&&decide (max x.1 x.2=max a b)) g.ands ?_ _ (λx _=>CQ _ _ x (min a b) (max a b) _ ?_ ?_))<;>(first|(simp(maxDischargeDepth:=9) -implicitDefEqProofs -dsimp only[go_sem,seval, *];done)|omega)));(focus (first|trivial|exact rfl|(simp(maxDischargeDepth:=9) -implicitDefEqProofs -dsimp only[go_sem,seval];done))))|((with_reducible apply id_one0);(focus (intro tS hS;((with_reducible refine ug g.ands _)<;>(first|(simp(maxDischargeDepth:=9) -implicitDefEqProofs -dsimp only[go_sem,seval, *];done)|omega|((refine Sub.get hS ?_);simp(maxDischargeDepth:=9) -implicitDefEqProofs -dsimp only[go_sem,seval, *];done)))));(focus (first|trivial|(simp(maxDischargeDepth:=9) -implicitDefEqProofs -dsimp only[go_sem,seval, *];done)))))
    all_goals try refine fin_eq ?_
    all_goals first|(rw[L2 (by omega)];(repeat' simp(maxDischargeDepth:=9) -implicitDefEqProofs -dsimp only[go_sem,seval, *]))|(rw[L3 (by omega) (by omega)];(repeat' simp(maxDischargeDepth:=9) -implicitDefEqProofs -dsimp only[go_sem,seval, *]))|(rw[L4 (by omega) (by omega) hq];(repeat' simp(maxDischargeDepth:=9) -implicitDefEqProofs -dsimp only[go_sem,seval, *])<;>(first|rfl|skip))|(rw[L5 (by omega) (by omega) ‹_› (by omega)];(repeat' simp(maxDischargeDepth:=9) -implicitDefEqProofs -dsimp only[go_sem,seval, *]))|skip
    have hlt:g.ands.length<1000000:=by
      have:=hs.lo
      simp only[Aig.count] at hcn;omega
    have hs':=hpush (min a b,max a b) ⟨⟨by omega,by omega⟩,⟨by omega,by omega⟩⟩ hlt;refine ACalls.one (ACalls.flo (o:=o) (x0:=fi {g with ands:=g.ands++[(min a b,max a b)]} 0) ?_ (aig_count o {g with ands:=g.ands++[(min a b,max a b)]} 0 _ (eS _ _ _) hs')) ?_
    · (repeat' simp(maxDischargeDepth:=9) -implicitDefEqProofs -dsimp only[go_sem,seval, *])
    have hc':=pn (g:=g) (min a b,max a b);repeat' (first|simp(maxDischargeDepth:=9) -implicitDefEqProofs -dsimp only[go_sem,seval, *]|simp(disch:=omega) only[ah,aj,ao,aw,ar,ag,au,aq])
    refine fin_eq ?_;rw[L6 (by omega) (by omega) ‹_› (by omega)];(repeat' simp(maxDischargeDepth:=9) -implicitDefEqProofs -dsimp only[go_sem,seval, *])
  · have hb:(e != 0)=true:=by simpa using he
    repeat' (first|simp(maxDischargeDepth:=9) -implicitDefEqProofs -dsimp only[go_sem,seval, *]|((with_reducible refine Zt (λoF hoF hnF hnF'=>?_));(try simp only[aa,ne_eq,not_and] at hoF)))
    refine fin_eq ?_;(repeat' simp(maxDischargeDepth:=9) -implicitDefEqProofs -dsimp only[go_sem,seval,Aig.andW, *])
theorem aig_or(o:Nat)(g:Aig)(e a b:Int)(σ:aA)(h:σ o=some (fi g e))(ha:I64 a)(hb:I64 b)(hok:e=0->Fine g/\g.lit a=true/\g.lit b=true):
  C_ 215 [.ptr o 0, .int .i64 a, .int .i64 b] σ (.int .i64 (g.orW e a b).2.2) (aH σ o (fi (g.orW e a b).1 (g.orW e a b).2.1)):=by
 refine gO [] Tryz.func215 (by kernel_rfl) (by conv=>lhs;reduce;dsimp only[iA]) rfl ?_;have hok':e=0->Fine g/\g.lit (turn a)=true/\g.lit (turn b)=true:=λhe=>⟨(hok he).1,cg (hok he).2.1,cg (hok he).2.2⟩;obtain⟨h1,h2⟩:=kI hok';obtain⟨ha1,ha2⟩:=ha;obtain⟨hb1,hb2⟩:=hb;repeat' (first|simp(maxDischargeDepth:=9) -implicitDefEqProofs -dsimp only[go_sem,seval, *]|simp(disch:=omega) only[ah,aj,ao,aw,ar,ag,au,aq]|((with_reducible apply ACalls.one1);(focus ((with_reducible refine aig_and o g e (turn a) (turn b) _ ?_ hok')<;>(first|(simp(maxDischargeDepth:=9) -implicitDefEqProofs -dsimp only[go_sem,seval, *];done)|omega)));(focus (first|trivial|exact rfl|(simp(maxDischargeDepth:=9) -implicitDefEqProofs -dsimp only[go_sem,seval];done)))))
 exact fw ⟨rfl,rfl⟩
theorem aig_end(o:Nat)(g:Aig)(e a:Int)(σ:aA)(h:σ o=some (fi g e)):
  C_ 213 [.ptr o 0, .int .i64 a] σ (.tup [aQ (Aig.endW (g,e,a)).1, .int .i64 (Aig.endW (g,e,a)).2.1, .int .i64 (Aig.endW (g,e,a)).2.2]) σ:=by
 refine gO [] Tryz.func213 (by kernel_rfl) (by conv=>lhs;reduce;dsimp only[iA]) rfl ?_;repeat' (first|simp(maxDischargeDepth:=9) -implicitDefEqProofs -dsimp only[go_sem,seval, *]|(with_reducible (first|apply Za|apply Zb|apply Zc|apply Zd|apply Ze|apply Zf|apply Zg|apply Zh|apply Zi|apply Zj|apply Zk|apply Zl|apply Zm|apply Zn|apply Zo|apply Zp|apply Zq|apply Zr|apply Zs)<;>intro hq)|((with_reducible refine Zt (λoF hoF hnF hnF'=>?_));(try simp only[aa,ne_eq,not_and] at hoF)))
 ·refine fin_eq ?_;(repeat' simp(maxDischargeDepth:=9) -implicitDefEqProofs -dsimp only[go_sem,seval,Aig.endW, *])
 ·refine fin_eq ?_;(repeat' simp(maxDischargeDepth:=9) -implicitDefEqProofs -dsimp only[go_sem,seval,Aig.endW, *])
end Go.Proofs.YtbbihmmobfmadaaGreat.A
namespace Go.Proofs.YtbbihmmobfmadaaGreat.A
open Abs Fil
theorem GH(g:Aig)(a b:Int)(σ:aA)(hs:Wf g)(ha:I64 a)(hb:I64 b):
  C_ 165 [aQ g, .int .i64 a, .int .i64 b] σ (.tup [aQ (g.And a b).1, .int .i64 (g.And a b).2.1, .int .i64 (g.And a b).2.2]) σ:=by
 refine gO [3] Tryz.func165 (by kernel_rfl) (by conv=>lhs;reduce;dsimp only[iA]) rfl ?_
 have hok:g.checkL g.check [a,b]=0->Fine g/\g.lit a=true/\g.lit b=true:=λh=>by
  obtain⟨h1,h2⟩:=aK hs h;exact⟨h1,h2 a (by simp),h2 b (by simp)⟩
 have hl:∀x∈[a,b],I64 x:=by simp[ha,hb]
 repeat' (first|simp(maxDischargeDepth:=9) -implicitDefEqProofs -dsimp only[go_sem,seval, *]|((with_reducible refine Zt (λoF hoF hnF hnF'=>?_));(try simp only[aa,ne_eq,not_and] at hoF))|((with_reducible apply ACalls.one1);(focus (first|((first|with_reducible refine aig_and _ g (g.checkL g.check [a,b]) a b _ ?_ hok|with_reducible refine aig_end _ (g.andW (g.checkL g.check [a,b]) a b).1 (g.andW (g.checkL g.check [a,b]) a b).2.1 _ _ ?_)<;>(first|(simp(maxDischargeDepth:=9) -implicitDefEqProofs -dsimp only[go_sem,seval, *];done)|omega))|(with_reducible refine ACalls.flA (aig_and _ g (g.checkL g.check [a,b]) a b _ ?_ hok) ?_<;>(first|(simp(maxDischargeDepth:=9) -implicitDefEqProofs -dsimp only[go_sem,seval, *];done)|omega))|(with_reducible refine ACalls.flA (aig_end _ (g.andW (g.checkL g.check [a,b]) a b).1 (g.andW (g.checkL g.check [a,b]) a b).2.1 _ _ ?_) ?_<;>(first|(simp(maxDischargeDepth:=9) -implicitDefEqProofs -dsimp only[go_sem,seval, *];done)|omega))));(focus (first|trivial|exact rfl|(simp(maxDischargeDepth:=9) -implicitDefEqProofs -dsimp only[go_sem,seval];done))))|((with_reducible apply ACalls.newO);(focus (first|((first|with_reducible refine aig_begin g [a,b] _ hs ?_ hl)<;>(first|(simp(maxDischargeDepth:=9) -implicitDefEqProofs -dsimp only[go_sem,seval, *];done)|omega))|(with_reducible refine ACalls.flA (aig_begin g [a,b] _ hs ?_ hl) ?_<;>(first|(simp(maxDischargeDepth:=9) -implicitDefEqProofs -dsimp only[go_sem,seval, *];done)|omega))));(intro oF hoF hnF hnF');(try simp only[aa,ne_eq,not_and] at hoF)))
 refine fin_eq ?_;(repeat' simp(maxDischargeDepth:=9) -implicitDefEqProofs -dsimp only[go_sem,seval,Aig.And, *])
theorem J1(g:Aig)(a b:Int)(σ:aA)(hs:Wf g)(ha:I64 a)(hb:I64 b):
  C_ 174 [aQ g, .int .i64 a, .int .i64 b] σ (.tup [aQ (g.Or a b).1, .int .i64 (g.Or a b).2.1, .int .i64 (g.Or a b).2.2]) σ:=by
 refine gO [3] Tryz.func174 (by kernel_rfl) (by conv=>lhs;reduce;dsimp only[iA]) rfl ?_
 have hok:g.checkL g.check [a,b]=0->Fine g/\g.lit a=true/\g.lit b=true:=λh=>by
  obtain⟨h1,h2⟩:=aK hs h;exact⟨h1,h2 a (by simp),h2 b (by simp)⟩
 have hl:∀x∈[a,b],I64 x:=by simp[ha,hb]
 repeat' (first|simp(maxDischargeDepth:=9) -implicitDefEqProofs -dsimp only[go_sem,seval, *]|((with_reducible refine Zt (λoF hoF hnF hnF'=>?_));(try simp only[aa,ne_eq,not_and] at hoF))|((with_reducible apply ACalls.one1);(focus (first|((first|with_reducible refine aig_or _ g (g.checkL g.check [a,b]) a b _ ?_ ha hb hok|with_reducible refine aig_end _ (g.orW (g.checkL g.check [a,b]) a b).1 (g.orW (g.checkL g.check [a,b]) a b).2.1 _ _ ?_)<;>(first|(simp(maxDischargeDepth:=9) -implicitDefEqProofs -dsimp only[go_sem,seval, *];done)|omega))|(with_reducible refine ACalls.flA (aig_or _ g (g.checkL g.check [a,b]) a b _ ?_ ha hb hok) ?_<;>(first|(simp(maxDischargeDepth:=9) -implicitDefEqProofs -dsimp only[go_sem,seval, *];done)|omega))|(with_reducible refine ACalls.flA (aig_end _ (g.orW (g.checkL g.check [a,b]) a b).1 (g.orW (g.checkL g.check [a,b]) a b).2.1 _ _ ?_) ?_<;>(first|(simp(maxDischargeDepth:=9) -implicitDefEqProofs -dsimp only[go_sem,seval, *];done)|omega))));(focus (first|trivial|exact rfl|(simp(maxDischargeDepth:=9) -implicitDefEqProofs -dsimp only[go_sem,seval];done))))|((with_reducible apply ACalls.newO);(focus (first|((first|with_reducible refine aig_begin g [a,b] _ hs ?_ hl)<;>(first|(simp(maxDischargeDepth:=9) -implicitDefEqProofs -dsimp only[go_sem,seval, *];done)|omega))|(with_reducible refine ACalls.flA (aig_begin g [a,b] _ hs ?_ hl) ?_<;>(first|(simp(maxDischargeDepth:=9) -implicitDefEqProofs -dsimp only[go_sem,seval, *];done)|omega))));(intro oF hoF hnF hnF');(try simp only[aa,ne_eq,not_and] at hoF)))
 refine fin_eq ?_;(repeat' simp(maxDischargeDepth:=9) -implicitDefEqProofs -dsimp only[go_sem,seval,Aig.Or, *])
theorem Ao(g:Aig)(σ:aA)(hs:Wf g):C_ 75 [aQ g] σ (.int .i64 g.check) σ:=by
 refine gO [1] Tryz.func75 (by kernel_rfl) (by conv=>lhs;reduce;dsimp only[iA]) rfl ?_;repeat' (first|simp(maxDischargeDepth:=9) -implicitDefEqProofs -dsimp only[go_sem,seval, *]|((with_reducible apply ACalls.newO);(focus (first|((first|with_reducible refine aig_begin g [] _ hs ?_ (by simp))<;>(first|(simp(maxDischargeDepth:=9) -implicitDefEqProofs -dsimp only[go_sem,seval, *];done)|omega))|(with_reducible refine ACalls.flA (aig_begin g [] _ hs ?_ (by simp)) ?_<;>(first|(simp(maxDischargeDepth:=9) -implicitDefEqProofs -dsimp only[go_sem,seval, *];done)|omega))));(intro oF hoF hnF hnF');(try simp only[aa,ne_eq,not_and] at hoF)))
 refine fin_eq ?_;(repeat' simp(maxDischargeDepth:=9) -implicitDefEqProofs -dsimp only[go_sem,seval,Aig.checkL, *])
theorem uh{g:Aig}{e a b c d:Int}(hs:Wf g)(h:e=0->Fine g/\g.lit a=true/\g.lit b=true/\g.lit c=true/\g.lit d=true):
  ∃r s,g.andW e a b=r/\r.1.andW r.2.1 c d=s/\g.pairs e a b c d=s.1.orW s.2.1 r.2.2 s.2.2/\I64 r.2.2/\I64 s.2.2/\(e=0->Fine g/\g.lit a=true/\g.lit b=true)/\
   (r.2.1=0->Fine r.1/\r.1.lit c=true/\r.1.lit d=true)/\(s.2.1=0->Fine s.1/\s.1.lit r.2.2=true/\s.1.lit s.2.2=true):=by
 have hok:e=0->Fine g/\g.lit a=true/\g.lit b=true:=λhe=>⟨(h he).1,(h he).2.1,(h he).2.2.1⟩;obtain⟨k1,k2,_⟩:=fJ hok
 have hok2:(g.andW e a b).2.1=0->Fine (g.andW e a b).1/\(g.andW e a b).1.lit c=true/\(g.andW e a b).1.lit d=true:=λhr=>by
  obtain⟨h1,h2,h3,h4,h5⟩:=h (cu hr);exact⟨(k1 hr).1,k2.lit h4,k2.lit h5⟩
 obtain⟨m1,m2,_⟩:=fJ hok2;exact⟨_,_,rfl,rfl,rfl,kI hok,kI hok2,hok,hok2,λhs=>⟨(m1 hs).1,m2.lit (k1 (cu hs)).2,(m1 hs).2⟩⟩
theorem GI(g:Aig)(a b:Int)(σ:aA)(hs:Wf g)(ha:I64 a)(hb:I64 b):
  C_ 168 [aQ g, .int .i64 a, .int .i64 b] σ (.tup [aQ (g.Xor a b).1, .int .i64 (g.Xor a b).2.1, .int .i64 (g.Xor a b).2.2]) σ:=by
 refine gO [3] Tryz.func168 (by kernel_rfl) (by conv=>lhs;reduce;dsimp only[iA]) rfl ?_;have hl:∀x∈[a,b],I64 x:=by simp[ha,hb]
 obtain⟨e,he⟩:∃e,g.checkL g.check [a,b]=e:=⟨_,rfl⟩
 obtain⟨r,s,hr,hss,hp,r1,s1,o1,o2,o3⟩:=uh (e:=e) (a:=a) (b:=turn b) (c:=turn a) (d:=b) hs (λh=>by
  obtain⟨h1,h2⟩:=aK hs (he.trans h);exact⟨h1,h2 a (by simp),cg (h2 b (by simp)),cg (h2 a (by simp)),h2 b (by simp)⟩)
 obtain⟨ha1,ha2⟩:=ha;obtain⟨hb1,hb2⟩:=hb;repeat' (first|simp(maxDischargeDepth:=9) -implicitDefEqProofs -dsimp only[go_sem,seval, *]|simp(disch:=omega) only[ah,aj,ao,aw,ar,ag,au,aq]|((with_reducible refine Zt (λoF hoF hnF hnF'=>?_));(try simp only[aa,ne_eq,not_and] at hoF))|((with_reducible apply ACalls.one1);(focus (first|((first|with_reducible refine aig_and _ g e a (turn b) _ ?_ o1|with_reducible refine aig_and _ r.1 r.2.1 (turn a) b _ ?_ o2|with_reducible refine aig_or _ s.1 s.2.1 r.2.2 s.2.2 _ ?_ r1 s1 o3|with_reducible refine aig_end _ (s.1.orW s.2.1 r.2.2 s.2.2).1 (s.1.orW s.2.1 r.2.2 s.2.2).2.1 _ _ ?_)<;>(first|(simp(maxDischargeDepth:=9) -implicitDefEqProofs -dsimp only[go_sem,seval, *];done)|omega))|(with_reducible refine ACalls.flA (aig_and _ g e a (turn b) _ ?_ o1) ?_<;>(first|(simp(maxDischargeDepth:=9) -implicitDefEqProofs -dsimp only[go_sem,seval, *];done)|omega))|(with_reducible refine ACalls.flA (aig_and _ r.1 r.2.1 (turn a) b _ ?_ o2) ?_<;>(first|(simp(maxDischargeDepth:=9) -implicitDefEqProofs -dsimp only[go_sem,seval, *];done)|omega))|(with_reducible refine ACalls.flA (aig_or _ s.1 s.2.1 r.2.2 s.2.2 _ ?_ r1 s1 o3) ?_<;>(first|(simp(maxDischargeDepth:=9) -implicitDefEqProofs -dsimp only[go_sem,seval, *];done)|omega))|(with_reducible refine ACalls.flA (aig_end _ (s.1.orW s.2.1 r.2.2 s.2.2).1 (s.1.orW s.2.1 r.2.2 s.2.2).2.1 _ _ ?_) ?_<;>(first|(simp(maxDischargeDepth:=9) -implicitDefEqProofs -dsimp only[go_sem,seval, *];done)|omega))));(focus (first|trivial|exact rfl|(simp(maxDischargeDepth:=9) -implicitDefEqProofs -dsimp only[go_sem,seval];done))))|((with_reducible apply ACalls.newO);(focus (first|((first|with_reducible refine aig_begin g [a,b] _ hs ?_ hl)<;>(first|(simp(maxDischargeDepth:=9) -implicitDefEqProofs -dsimp only[go_sem,seval, *];done)|omega))|(with_reducible refine ACalls.flA (aig_begin g [a,b] _ hs ?_ hl) ?_<;>(first|(simp(maxDischargeDepth:=9) -implicitDefEqProofs -dsimp only[go_sem,seval, *];done)|omega))));(intro oF hoF hnF hnF');(try simp only[aa,ne_eq,not_and] at hoF)))
 refine fin_eq ?_;(repeat' simp(maxDischargeDepth:=9) -implicitDefEqProofs -dsimp only[go_sem,seval,Aig.Xor, *])
theorem GJ(g:Aig)(c a b:Int)(σ:aA)(hs:Wf g)(hc:I64 c)(ha:I64 a)(hb:I64 b):
  C_ 180 [aQ g, .int .i64 c, .int .i64 a, .int .i64 b] σ (.tup [aQ (g.Mux c a b).1, .int .i64 (g.Mux c a b).2.1, .int .i64 (g.Mux c a b).2.2]) σ:=by
 refine gO [4] Tryz.func180 (by kernel_rfl) (by conv=>lhs;reduce;dsimp only[iA]) rfl ?_;have hl:∀x∈[c,a,b],I64 x:=by simp[ha,hb,hc]
 obtain⟨e,he⟩:∃e,g.checkL g.check [c,a,b]=e:=⟨_,rfl⟩
 obtain⟨r,s,hr,hss,hp,r1,s1,o1,o2,o3⟩:=uh (e:=e) (a:=c) (b:=a) (c:=turn c) (d:=b) hs (λh=>by
  obtain⟨h1,h2⟩:=aK hs (he.trans h);exact⟨h1,h2 c (by simp),h2 a (by simp),cg (h2 c (by simp)),h2 b (by simp)⟩)
 obtain⟨hc1,hc2⟩:=hc;repeat' (first|simp(maxDischargeDepth:=9) -implicitDefEqProofs -dsimp only[go_sem,seval, *]|simp(disch:=omega) only[ah,aj,ao,aw,ar,ag,au,aq]|((with_reducible refine Zt (λoF hoF hnF hnF'=>?_));(try simp only[aa,ne_eq,not_and] at hoF))|((with_reducible apply ACalls.one1);(focus (first|((first|with_reducible refine aig_and _ g e c a _ ?_ o1|with_reducible refine aig_and _ r.1 r.2.1 (turn c) b _ ?_ o2|with_reducible refine aig_or _ s.1 s.2.1 r.2.2 s.2.2 _ ?_ r1 s1 o3|with_reducible refine aig_end _ (s.1.orW s.2.1 r.2.2 s.2.2).1 (s.1.orW s.2.1 r.2.2 s.2.2).2.1 _ _ ?_)<;>(first|(simp(maxDischargeDepth:=9) -implicitDefEqProofs -dsimp only[go_sem,seval, *];done)|omega))|(with_reducible refine ACalls.flA (aig_and _ g e c a _ ?_ o1) ?_<;>(first|(simp(maxDischargeDepth:=9) -implicitDefEqProofs -dsimp only[go_sem,seval, *];done)|omega))|(with_reducible refine ACalls.flA (aig_and _ r.1 r.2.1 (turn c) b _ ?_ o2) ?_<;>(first|(simp(maxDischargeDepth:=9) -implicitDefEqProofs -dsimp only[go_sem,seval, *];done)|omega))|(with_reducible refine ACalls.flA (aig_or _ s.1 s.2.1 r.2.2 s.2.2 _ ?_ r1 s1 o3) ?_<;>(first|(simp(maxDischargeDepth:=9) -implicitDefEqProofs -dsimp only[go_sem,seval, *];done)|omega))|(with_reducible refine ACalls.flA (aig_end _ (s.1.orW s.2.1 r.2.2 s.2.2).1 (s.1.orW s.2.1 r.2.2 s.2.2).2.1 _ _ ?_) ?_<;>(first|(simp(maxDischargeDepth:=9) -implicitDefEqProofs -dsimp only[go_sem,seval, *];done)|omega))));(focus (first|trivial|exact rfl|(simp(maxDischargeDepth:=9) -implicitDefEqProofs -dsimp only[go_sem,seval];done))))|((with_reducible apply ACalls.newO);(focus (first|((first|with_reducible refine aig_begin g [c,a,b] _ hs ?_ hl)<;>(first|(simp(maxDischargeDepth:=9) -implicitDefEqProofs -dsimp only[go_sem,seval, *];done)|omega))|(with_reducible refine ACalls.flA (aig_begin g [c,a,b] _ hs ?_ hl) ?_<;>(first|(simp(maxDischargeDepth:=9) -implicitDefEqProofs -dsimp only[go_sem,seval, *];done)|omega))));(intro oF hoF hnF hnF');(try simp only[aa,ne_eq,not_and] at hoF)))
 refine fin_eq ?_;(repeat' simp(maxDischargeDepth:=9) -implicitDefEqProofs -dsimp only[go_sem,seval,Aig.Mux, *])
theorem GK(ins:Int)(init:List Bool)(σ:aA)(hi:I64 ins)(hl:init.length<=1000000):
  C_ 29 [.int .i64 ins, .slice (init.map cP) .no] σ (.tup [aQ (Aig.New ins init).1, .int .i64 (Aig.New ins init).2]) σ:=by
 refine ACalls.virt (by kernel_rfl) 2 (λoV1 hoV1 hnV1 hnV1'=>?_);(try simp only[aa,ne_eq,not_and] at hoV1);refine gO [] Tryz.func29 (by kernel_rfl) (by conv=>lhs;reduce;dsimp only[iA]) rfl ?_;obtain⟨hi1,hi2⟩:=hi;by_cases h0:ins<0
 ·have hv:Aig.New ins init=(⟨0,[],[],[]⟩,1):=by simp[Aig.New, *]
  repeat' (first|simp(maxDischargeDepth:=9) -implicitDefEqProofs -dsimp only[go_sem,seval, *]|((with_reducible refine Zt (λoF hoF hnF hnF'=>?_));(try simp only[aa,ne_eq,not_and] at hoF)))
  refine fin_eq ?_;(repeat' simp(maxDischargeDepth:=9) -implicitDefEqProofs -dsimp only[go_sem,seval, *])
 by_cases h1:65536-(init.length:Int)<ins
 ·have hv:Aig.New ins init=(⟨0,[],[],[]⟩,2):=by simp only[Aig.New,h0,if_false];rw[if_pos (by omega)]
  repeat' (first|simp(maxDischargeDepth:=9) -implicitDefEqProofs -dsimp only[go_sem,seval,gt_iff_lt, *]|simp(disch:=omega) only[ah,aj,ao,aw,ar,ag,au,aq]|((with_reducible refine Zt (λoF hoF hnF hnF'=>?_));(try simp only[aa,ne_eq,not_and] at hoF)))
  refine fin_eq ?_;(repeat' simp(maxDischargeDepth:=9) -implicitDefEqProofs -dsimp only[go_sem,seval, *])
 have hv:Aig.New ins init=(⟨ins,init.map λb=>⟨0,b⟩,[],[]⟩,0):=by simp only[Aig.New,h0,if_false];rw[if_neg (by omega)]
 repeat' (first|simp(maxDischargeDepth:=9) -implicitDefEqProofs -dsimp only[go_sem,seval,gt_iff_lt, *]|simp(disch:=omega) only[ah,aj,ao,aw,ar,ag,au,aq]|((with_reducible refine Zt (λoF hoF hnF hnF'=>?_));(try simp only[aa,ne_eq,not_and] at hoF)))
 rename_i o4 ho4 hn4 hn4'
 refine loop_rule (λi:Nat=>[(4,some (.ptr o4 0)),(6,some (.ptr oF 0)),(22,some (.slice (init.map cP) .no)),(23,some (.int .i64 init.length)),(24,some (.int .i64 i))])
  (λi=>aH (aH (aH σ oV1 (.grow 2 i)) o4 (.cells [.int .i64 0, .slice [] .nil, .slice [] .nil, .slice [] .nil])) oF (.cells [.int .i64 ins, .slice ((init.take i).map λb=>encFlop ⟨0,b⟩) (.own oV1), .slice [] .nil, .slice [] .nil])) (λi=>i<=init.length) (λi=>init.length-i) 0 ?_ ?_
 ·(repeat' simp(maxDischargeDepth:=9) -implicitDefEqProofs -dsimp only[go_sem,seval, *])<;>(first|omega|skip)
 ·intro i hi';by_cases hlt:i<init.length
  ·have hs:=Am hlt;have hlen:(init.take i).length=i:=by simp;omega
   have hz:∀l:List Bool,iy 2 (l.map λb=>encFlop ⟨0,b⟩)=True:=λl=>dJ _ _ _ λ_=>rfl;repeat' (first|simp(maxDischargeDepth:=9) -implicitDefEqProofs -dsimp only[go_sem,seval,hz, *]|simp(disch:=omega) only[ah,aj,ao,aw,ar,ag,au,aq]|((with_reducible refine Zv ?_ ?_);focus (first|omega|exact rfl))|((with_reducible refine Zu ?_ ?_);focus omega))
   refine bP _ _ _ _ (i+1) ?_;(repeat' simp(maxDischargeDepth:=9) -implicitDefEqProofs -dsimp only[go_sem,seval, *])<;>(repeat' refine And.intro ?_ ?_)<;>(first|omega|skip)
  ·repeat' simp(maxDischargeDepth:=9) -implicitDefEqProofs -dsimp only[go_sem,seval, *]
   refine fin_eq ?_;have e0:init.take i=init:=List.take_of_length_le (by omega);have e1:(init.map λb=>(⟨0,b⟩:Flop)).map encFlop=init.map λb=>encFlop ⟨0,b⟩:=by rw[List.map_map];rfl
   (repeat' simp(maxDischargeDepth:=9) -implicitDefEqProofs -dsimp only[go_sem,seval,e0,e1, *])
end Go.Proofs.YtbbihmmobfmadaaGreat.A
namespace Go.Proofs.YtbbihmmobfmadaaGreat.A
open Abs Fil
theorem lm(n a:Int)(σ:aA)(h1: -1000000000<=n)(h2:n<=1000000000):C_ 80 [.int .i64 n, .int .i64 a] σ (.bool (Aig.litN n a)) σ:=by
 refine gO [] Tryz.func80 (by kernel_rfl) (by conv=>lhs;reduce;dsimp only[iA]) rfl ?_;repeat' (first|simp -implicitDefEqProofs -dsimp only[go_sem,seval,ge_iff_le, *]|simp(disch:=omega) only[ah,aj,ao,aw,ar,ag,au,aq]|(with_reducible (first|apply Za|apply Zb|apply Zc|apply Zd|apply Ze|apply Zf|apply Zg|apply Zh|apply Zi|apply Zj|apply Zk|apply Zl|apply Zm|apply Zn|apply Zo|apply Zp|apply Zq|apply Zr|apply Zs)<;>intro hq))
 ·refine fin_eq ?_;(repeat' simp -implicitDefEqProofs -dsimp only[go_sem,seval,Aig.litN, *])
 ·refine fin_eq ?_;(repeat' simp -implicitDefEqProofs -dsimp only[go_sem,seval,Aig.litN, *])
theorem mr(g:Aig)(σ:aA)(hs:Small g):C_ 81 [aQ g] σ (.int .i64 (1+g.count)) σ:=by
 refine gO [1] Tryz.func81 (by kernel_rfl) (by conv=>lhs;reduce;dsimp only[iA]) rfl ?_;obtain⟨⟨h0,h1,h2,h3,h4,h5,h6⟩,h7,h8⟩:=hs;repeat' (first|simp -implicitDefEqProofs -dsimp only[go_sem,seval, *]|simp(disch:=omega) only[ah,aj,ao,aw,ar,ag,au,aq])
 exact fw ⟨by simp only[Aig.count,Int.add_assoc],rfl⟩
theorem ref_Check(g:Aig)(σ:aA)(hs:Wf g):C_ 40 [aQ g] σ (.int .i64 g.check) σ:=by
 refine gO [1] Tryz.func40 (by kernel_rfl) (by conv=>lhs;reduce;dsimp only[iA]) rfl ?_;have hfl:=hs.flops;have hal:=hs.ands;have hol:=hs.outs;by_cases hlo:g.ins<0
 ·have hv:g.check=1:=by simp[Aig.check,hlo]
  repeat' (first|simp -implicitDefEqProofs -dsimp only[go_sem,seval, *]|refine fin_eq ?_)
 by_cases hhi:65536<g.ins
 ·have hv:g.check=2:=by simp[Aig.check,hlo,hhi]
  repeat' (first|simp -implicitDefEqProofs -dsimp only[go_sem,seval,gt_iff_lt, *]|refine fin_eq ?_)
 have hsm:Small g:=⟨hs,by omega,by omega⟩;by_cases hb:65536<g.count\/65536<(g.outs.length:Int)
 ·have hv:g.check=2:=by simp[Aig.check,hlo,hhi,hb]
  have hb':65536<g.ins+g.flops.length+g.ands.length\/65536<(g.outs.length:Int):=hb;repeat' (first|simp -implicitDefEqProofs -dsimp only[go_sem,seval,gt_iff_lt, *]|simp(disch:=omega) only[ah,aj,ao,aw,ar,ag,au,aq]|(with_reducible (first|apply Za|apply Zb|apply Zc|apply Zd|apply Ze|apply Zf|apply Zg|apply Zh|apply Zi|apply Zj|apply Zk|apply Zl|apply Zm|apply Zn|apply Zo|apply Zp|apply Zq|apply Zr|apply Zs)<;>intro hq)|omega)
  all_goals first|(exfalso;omega)|(refine fin_eq ?_;(repeat' simp -implicitDefEqProofs -dsimp only[go_sem,seval, *]))
 have hv:g.check=if g.good then 0 else 1:=by simp[Aig.check,hlo,hhi,hb]
 have hcnt:g.ins+g.flops.length+g.ands.length<=65536/\(g.outs.length:Int)<=65536:=by
  unfold Aig.count at hb;omega
 have hc1:0<=g.count/\g.count<=65536:=by unfold Aig.count;omega
 have bad1:∀i,(h:i<g.ands.length)->¬(Aig.litN (1+g.ins+g.flops.length+i) g.ands[i].1=true/\Aig.litN (1+g.ins+g.flops.length+i) g.ands[i].2=true)->g.good=false:=λi h hn=>by
  have:Aig.gatesOk g.first g.ands=false:=ik h (fun⟨k1,k2⟩=>hn ⟨aU.2 (by unfold Aig.first at k1;omega),aU.2 (by unfold Aig.first at k2;omega)⟩)
  simp[Aig.good,this]
 have bad2:∀i,(h:i<g.flops.length)->Aig.litN (1+g.count) g.flops[i].next=false->g.good=false:=λi h hn=>by
  have:(g.flops.any λf=> !g.lit f.next)=true:=by simp only[List.any_eq_true];exact⟨_,List.getElem_mem h,by simp[Aig.lit,hn]⟩
  simp[Aig.good,this]
 have bad3:∀i,(h:i<g.outs.length)->Aig.litN (1+g.count) g.outs[i]=false->g.good=false:=λi h hn=>by
  have:(g.outs.any λa=> !g.lit a)=true:=by simp only[List.any_eq_true];exact⟨_,List.getElem_mem h,by simp[Aig.lit,hn]⟩
  simp[Aig.good,this]
 have hb2:¬65536<(g.outs.length:Int):=by omega
 have hb3:¬65536<g.ins+g.flops.length+g.ands.length:=by omega
 repeat' (first|simp -implicitDefEqProofs -dsimp only[go_sem,seval,gt_iff_lt, *]|simp(disch:=omega) only[ah,aj,ao,aw,ar,ag,au,aq])
 refine loop_rule (λi:Nat=>[(4,some (.int .i64 i)),(1,some (.cptr (gC g))),(3,some (.int .i64 (1+g.ins+g.flops.length)))]) (λ_=>σ)
  (λi=>i<=g.ands.length/\∀j,(hj:j<g.ands.length)->j<i->Aig.litN (1+g.ins+g.flops.length+j) g.ands[j].1=true/\Aig.litN (1+g.ins+g.flops.length+j) g.ands[j].2=true) (λi=>g.ands.length-i) 0 ?_ ?_
 ·(repeat' (first|simp -implicitDefEqProofs -dsimp only[go_sem,seval, *]|with_reducible refine And.intro ?_ ?_|omega))
 ·rintro i ⟨hi,hok1⟩;by_cases hlt:i<g.ands.length
  ·have hgb:=bad1 i hlt;clear bad1 bad2 bad3;repeat' (first|simp -implicitDefEqProofs -dsimp only[go_sem,seval, *]|simp(disch:=omega) only[ah,aj,ao,aw,ar,ag,au,aq]|(with_reducible (first|apply Za|apply Zb|apply Zc|apply Zd|apply Ze|apply Zf|apply Zg|apply Zh|apply Zi|apply Zj|apply Zk|apply Zl|apply Zm|apply Zn|apply Zo|apply Zp|apply Zq|apply Zr|apply Zs)<;>intro hq)|with_reducible refine Zu ?_ ?_|refine kc1 (lm (1+g.ins+g.flops.length+i) g.ands[i].1 _ ?_ ?_) ?_|refine kc1 (lm (1+g.ins+g.flops.length+i) g.ands[i].2 _ ?_ ?_) ?_|omega)
   all_goals first|(have hx:g.good=false:=hgb (by simp[*]);refine fin_eq ?_;(repeat' simp -implicitDefEqProofs -dsimp only[go_sem,seval,Bool.false_eq_true, *]);done)|skip
   refine lnx (i+1) ?_;(repeat' (first|simp -implicitDefEqProofs -dsimp only[go_sem,seval, *]|with_reducible refine And.intro ?_ ?_|omega))
   intro j hj h;rcases Nat.lt_or_ge j i with h'|h'
   ·exact hok1 j hj h'
   ·obtain rfl:j=i:=by omega
    exact⟨by assumption,by assumption⟩
  ·repeat' simp -implicitDefEqProofs -dsimp only[go_sem,seval, *]
   refine loop_rule (λi:Nat=>[(5,some (.int .i64 i)),(1,some (.cptr (gC g)))]) (λ_=>σ) (λi=>i<=g.flops.length/\∀j,(hj:j<g.flops.length)->j<i->Aig.litN (1+g.count) g.flops[j].next=true) (λi=>g.flops.length-i) 0 ?_ ?_
   ·(repeat' (first|simp -implicitDefEqProofs -dsimp only[go_sem,seval, *]|with_reducible refine And.intro ?_ ?_|omega))
   ·rintro k ⟨hk,hok2⟩;by_cases hlt2:k<g.flops.length
    ·have hgb:=bad2 k hlt2;clear bad1 bad2 bad3;repeat' (first|simp -implicitDefEqProofs -dsimp only[go_sem,seval, *]|simp(disch:=omega) only[ah,aj,ao,aw,ar,ag,au,aq]|(with_reducible (first|apply Za|apply Zb|apply Zc|apply Zd|apply Ze|apply Zf|apply Zg|apply Zh|apply Zi|apply Zj|apply Zk|apply Zl|apply Zm|apply Zn|apply Zo|apply Zp|apply Zq|apply Zr|apply Zs)<;>intro hq)|with_reducible refine Zu ?_ ?_|with_reducible refine id_one0 (λtS hS=>mr g _ hsm) trivial ?_|with_reducible refine id_one0 (λtS hS=>lm (1+g.count) g.flops[k].next _ ?_ ?_) trivial ?_|omega)
     ·refine lnx (k+1) ?_;(repeat' (first|simp -implicitDefEqProofs -dsimp only[go_sem,seval, *]|with_reducible refine And.intro ?_ ?_|omega))
      intro j hj h;rcases Nat.lt_or_ge j k with h'|h'
      ·exact hok2 j hj h'
      ·obtain rfl:j=k:=by omega
       assumption
     ·have hx:=hgb hq;refine fin_eq ?_;(repeat' simp -implicitDefEqProofs -dsimp only[go_sem,seval,Bool.false_eq_true, *])
    ·repeat' simp -implicitDefEqProofs -dsimp only[go_sem,seval, *]
     refine loop_rule (λi:Nat=>[(6,some (.int .i64 i)),(1,some (.cptr (gC g)))]) (λ_=>σ) (λi=>i<=g.outs.length/\∀j,(hj:j<g.outs.length)->j<i->Aig.litN (1+g.count) g.outs[j]=true) (λi=>g.outs.length-i) 0 ?_ ?_
     ·(repeat' (first|simp -implicitDefEqProofs -dsimp only[go_sem,seval, *]|with_reducible refine And.intro ?_ ?_|omega))
     ·rintro m ⟨hm,hok3⟩;by_cases hlt3:m<g.outs.length
      ·have hgb:=bad3 m hlt3;clear bad1 bad2 bad3;repeat' (first|simp -implicitDefEqProofs -dsimp only[go_sem,seval, *]|simp(disch:=omega) only[ah,aj,ao,aw,ar,ag,au,aq]|(with_reducible (first|apply Za|apply Zb|apply Zc|apply Zd|apply Ze|apply Zf|apply Zg|apply Zh|apply Zi|apply Zj|apply Zk|apply Zl|apply Zm|apply Zn|apply Zo|apply Zp|apply Zq|apply Zr|apply Zs)<;>intro hq)|with_reducible refine Zu ?_ ?_|with_reducible refine id_one0 (λtS hS=>mr g _ hsm) trivial ?_|with_reducible refine id_one0 (λtS hS=>lm (1+g.count) g.outs[m] _ ?_ ?_) trivial ?_|omega)
       ·refine lnx (m+1) ?_;(repeat' (first|simp -implicitDefEqProofs -dsimp only[go_sem,seval, *]|with_reducible refine And.intro ?_ ?_|omega))
        intro j hj h;rcases Nat.lt_or_ge j m with h'|h'
        ·exact hok3 j hj h'
        ·obtain rfl:j=m:=by omega
         assumption
       ·have hx:=hgb hq;refine fin_eq ?_;(repeat' simp -implicitDefEqProofs -dsimp only[go_sem,seval,Bool.false_eq_true, *])
      ·have hgood:g.good=true:=by
        have q1:Aig.gatesOk g.first g.ands=true:=eI.2 λj hj=>by
         obtain⟨k1,k2⟩:=hok1 j hj (by omega);have k1:=aU.1 k1;have k2:=aU.1 k2;unfold Aig.first
         omega
        have q2:(g.flops.any λf=> !g.lit f.next)=false:=by
         simp only[List.any_eq_false,Bool.not_eq_true,Bool.not_eq_false'];intro f hf;obtain⟨j,hj,rfl⟩:=List.getElem_of_mem hf;exact hok2 j hj (by omega)
        have q3:(g.outs.any λa=> !g.lit a)=false:=by
         simp only[List.any_eq_false,Bool.not_eq_true,Bool.not_eq_false'];intro f hf;obtain⟨j,hj,rfl⟩:=List.getElem_of_mem hf;exact hok3 j hj (by omega)
        simp[Aig.good,q1,q2,q3]
       clear bad1 bad2 bad3;repeat' (first|simp -implicitDefEqProofs -dsimp only[go_sem,seval, *]|refine fin_eq ?_)
end Go.Proofs.YtbbihmmobfmadaaGreat.A
namespace Go.Proofs.YtbbihmmobfmadaaGreat.A
open Abs Fil
theorem ref_Value(v:List Bool)(a:Int)(σ:aA)(h0:0<=a)(h1:(a/2).toNat<v.length)(h2:v.length<=1000000000):
  C_ 46 [.slice (v.map cP) .no, .int .i64 a] σ (.bool (Aig.val v a)) σ:=by
 refine gO [] Tryz.func46 (by kernel_rfl) (by conv=>lhs;reduce;dsimp only[iA]) rfl ?_;repeat' (first|simp -implicitDefEqProofs -dsimp only[go_sem,seval, *]|simp(disch:=omega) only[ah,aj,ao,aw,ar,ag,au,aq]|refine Zv ?_ ?_|refine Zu ?_ ?_|omega)
 refine fin_eq ?_;have:Aig.val v a=(v[(a/2).toNat] != decide (a%2=1)):=by simp[Aig.val,List.getD,h1]
 rw[this];(repeat' simp -implicitDefEqProofs -dsimp only[go_sem,seval,bne,GF, *])
theorem CR(g h:Aig)(σ:aA)(l1:g.flops.length<=1000000)(l2:g.ands.length<=1000000)(l3:g.outs.length<=1000000):
  C_ 13 [aQ g,aQ h] σ (.bool (decide (g=h))) σ:=by
 refine cI mixed Tryz.func13 b13 n13 rfl q13 (by simp) ?_;unfold c13 r13;have ne1:g.ins≠h.ins->decide (g=h)=false:=λhn=>by simp;intro e;exact hn (by rw[e])
 have ne2:g.flops≠h.flops->decide (g=h)=false:=λhn=>by simp;intro e;exact hn (by rw[e])
 have ne3:g.ands≠h.ands->decide (g=h)=false:=λhn=>by simp;intro e;exact hn (by rw[e])
 have ne4:g.outs≠h.outs->decide (g=h)=false:=λhn=>by simp;intro e;exact hn (by rw[e])
 by_cases hi:g.ins=h.ins
 ·by_cases h1:g.flops.length=h.flops.length
  ·by_cases h2:g.ands.length=h.ands.length
   ·by_cases h3:g.outs.length=h.outs.length
    ·have b0:(h.ins != h.ins)=false:=by simp
     repeat' simp -implicitDefEqProofs -dsimp only[go_sem,seval, *]
     have h1':=And.intro (Nat.le_of_eq h1) (Nat.le_of_eq h1.symm);have h2':=And.intro (Nat.le_of_eq h2) (Nat.le_of_eq h2.symm);have h3':=And.intro (Nat.le_of_eq h3) (Nat.le_of_eq h3.symm);clear h1 h2 h3;refine loop_rule (λi:Nat=>[(5,some (.int .i64 i)),(2,some (.cptr (gC g))),(3,some (.cptr (gC h)))]) (λ_=>σ) (λi=>i<=g.flops.length/\∀j,(hj:j<g.flops.length)->j<i->g.flops[j]=h.flops[j]) (λi=>g.flops.length-i) 0 ?_ ?_
     ·(repeat' (first|simp -implicitDefEqProofs -dsimp only[go_sem,seval, *]|refine And.intro ?_ ?_|omega))
     ·rintro i ⟨hi',hok1⟩;by_cases hlt:i<g.flops.length
      ·have hlt':i<h.flops.length:=by omega
       obtain⟨x,hx⟩:∃x,g.flops[i]=x:=⟨_,rfl⟩;obtain⟨y,hy⟩:∃y,h.flops[i]=y:=⟨_,rfl⟩;by_cases he:x=y
       ·clear ne1 ne2 ne3 ne4;subst he;repeat' (first|simp -implicitDefEqProofs -dsimp only[go_sem,seval, *]|simp(disch:=omega) only[ah,aj,ao,aw,ar,ag,au,aq]|refine Zu ?_ ?_|refine lnx (i+1) ?_|refine And.intro ?_ ?_|omega)
        intro j hj hji;rcases Nat.lt_or_ge j i with h'|h'
        ·exact hok1 j hj h'
        ·obtain rfl:j=i:=by omega
         rw[hx,hy]
       ·have hv:=ne2 (λe=>he (by rw[<-hx,<-hy];simp only[e]))
        have hb:((x.next==y.next)&&(x.init==y.init))=false:=by
         cases x;cases y;simp at he|-;exact he
        clear ne1 ne2 ne3 ne4;repeat' (first|simp -implicitDefEqProofs -dsimp only[go_sem,seval, *]|refine Zu ?_ ?_|refine fin_eq ?_)
      ·repeat' simp -implicitDefEqProofs -dsimp only[go_sem,seval, *]
       refine loop_rule (λi:Nat=>[(6,some (.int .i64 i)),(2,some (.cptr (gC g))),(3,some (.cptr (gC h)))]) (λ_=>σ) (λi=>i<=g.ands.length/\∀j,(hj:j<g.ands.length)->j<i->g.ands[j]=h.ands[j]) (λi=>g.ands.length-i) 0 ?_ ?_
       ·(repeat' (first|simp -implicitDefEqProofs -dsimp only[go_sem,seval, *]|refine And.intro ?_ ?_|omega))
       ·rintro k ⟨hk',hok2⟩;by_cases hlt2:k<g.ands.length
        ·have hlt':k<h.ands.length:=by omega
         obtain⟨x,hx⟩:∃x,g.ands[k]=x:=⟨_,rfl⟩;obtain⟨y,hy⟩:∃y,h.ands[k]=y:=⟨_,rfl⟩;by_cases he:x=y
         ·clear ne1 ne2 ne3 ne4;subst he;repeat' (first|simp -implicitDefEqProofs -dsimp only[go_sem,seval, *]|simp(disch:=omega) only[ah,aj,ao,aw,ar,ag,au,aq]|refine Zu ?_ ?_|refine lnx (k+1) ?_|refine And.intro ?_ ?_|omega)
          intro j hj hji;rcases Nat.lt_or_ge j k with h'|h'
          ·exact hok2 j hj h'
          ·obtain rfl:j=k:=by omega
           rw[hx,hy]
         ·have hv:=ne3 (λe=>he (by rw[<-hx,<-hy];simp only[e]))
          have hb:((x.1==y.1)&&(x.2==y.2))=false:=by
           cases x;cases y;simp at he|-;exact he
          clear ne1 ne2 ne3 ne4;repeat' (first|simp -implicitDefEqProofs -dsimp only[go_sem,seval, *]|refine Zu ?_ ?_|refine fin_eq ?_)
        ·repeat' simp -implicitDefEqProofs -dsimp only[go_sem,seval, *]
         refine loop_rule (λi:Nat=>[(7,some (.int .i64 i)),(2,some (.cptr (gC g))),(3,some (.cptr (gC h)))]) (λ_=>σ) (λi=>i<=g.outs.length/\∀j,(hj:j<g.outs.length)->j<i->g.outs[j]=h.outs[j]) (λi=>g.outs.length-i) 0 ?_ ?_
         ·(repeat' (first|simp -implicitDefEqProofs -dsimp only[go_sem,seval, *]|refine And.intro ?_ ?_|omega))
         ·rintro m ⟨hm',hok3⟩;by_cases hlt3:m<g.outs.length
          ·have hlt':m<h.outs.length:=by omega
           obtain⟨x,hx⟩:∃x,g.outs[m]=x:=⟨_,rfl⟩;obtain⟨y,hy⟩:∃y,h.outs[m]=y:=⟨_,rfl⟩;by_cases he:x=y
           ·clear ne1 ne2 ne3 ne4;subst he;repeat' (first|simp -implicitDefEqProofs -dsimp only[go_sem,seval, *]|simp(disch:=omega) only[ah,aj,ao,aw,ar,ag,au,aq]|refine Zu ?_ ?_|refine lnx (m+1) ?_|refine And.intro ?_ ?_|omega)
            intro j hj hji;rcases Nat.lt_or_ge j m with h'|h'
            ·exact hok3 j hj h'
            ·obtain rfl:j=m:=by omega
             rw[hx,hy]
           ·have hv:=ne4 (λe=>he (by rw[<-hx,<-hy];simp only[e]));have hb:(x != y)=true:=by simpa using he
            clear ne1 ne2 ne3 ne4;repeat' (first|simp -implicitDefEqProofs -dsimp only[go_sem,seval, *]|refine Zu ?_ ?_|refine fin_eq ?_)
          ·have hv:decide (g=h)=true:=by
            have q1:g.flops=h.flops:=List.ext_getElem (by omega) λj hj _=>hok1 j hj (by omega);have q2:g.ands=h.ands:=List.ext_getElem (by omega) λj hj _=>hok2 j hj (by omega);have q3:g.outs=h.outs:=List.ext_getElem (by omega) λj hj _=>hok3 j hj (by omega);cases g;cases h;simp_all
           clear ne1 ne2 ne3 ne4;repeat' (first|simp -implicitDefEqProofs -dsimp only[go_sem,seval, *]|refine fin_eq ?_)
    ·have hv:=ne4 (λe=>h3 (by rw[e]));clear ne1 ne2 ne3 ne4;repeat' (first|simp -implicitDefEqProofs -dsimp only[go_sem,seval, *]|(with_reducible (first|apply Za|apply Zb|apply Zc|apply Zd|apply Ze|apply Zf|apply Zg|apply Zh|apply Zi|apply Zj|apply Zk|apply Zl|apply Zm|apply Zn|apply Zo|apply Zp|apply Zq|apply Zr|apply Zs)<;>intro hq)|omega)
     all_goals first|(exfalso;omega)|(refine fin_eq ?_;(repeat' simp -implicitDefEqProofs -dsimp only[go_sem,seval, *]))
   ·have hv:=ne3 (λe=>h2 (by rw[e]));clear ne1 ne2 ne3 ne4;repeat' (first|simp -implicitDefEqProofs -dsimp only[go_sem,seval, *]|(with_reducible (first|apply Za|apply Zb|apply Zc|apply Zd|apply Ze|apply Zf|apply Zg|apply Zh|apply Zi|apply Zj|apply Zk|apply Zl|apply Zm|apply Zn|apply Zo|apply Zp|apply Zq|apply Zr|apply Zs)<;>intro hq)|omega)
    all_goals first|(exfalso;omega)|(refine fin_eq ?_;(repeat' simp -implicitDefEqProofs -dsimp only[go_sem,seval, *]))
  ·have hv:=ne2 (λe=>h1 (by rw[e]));clear ne1 ne2 ne3 ne4;repeat' (first|simp -implicitDefEqProofs -dsimp only[go_sem,seval, *]|(with_reducible (first|apply Za|apply Zb|apply Zc|apply Zd|apply Ze|apply Zf|apply Zg|apply Zh|apply Zi|apply Zj|apply Zk|apply Zl|apply Zm|apply Zn|apply Zo|apply Zp|apply Zq|apply Zr|apply Zs)<;>intro hq)|omega)
   all_goals first|(exfalso;omega)|(refine fin_eq ?_;(repeat' simp -implicitDefEqProofs -dsimp only[go_sem,seval, *]))
 ·have hv:=ne1 hi;clear ne1 ne2 ne3 ne4;repeat' (first|simp -implicitDefEqProofs -dsimp only[go_sem,seval, *]|(with_reducible (first|apply Za|apply Zb|apply Zc|apply Zd|apply Ze|apply Zf|apply Zg|apply Zh|apply Zi|apply Zj|apply Zk|apply Zl|apply Zm|apply Zn|apply Zo|apply Zp|apply Zq|apply Zr|apply Zs)<;>intro hq)|omega)
  all_goals first|(exfalso;omega)|(refine fin_eq ?_;(repeat' simp -implicitDefEqProofs -dsimp only[go_sem,seval, *]))
end Go.Proofs.YtbbihmmobfmadaaGreat.A
namespace Go.Proofs.YtbbihmmobfmadaaGreat.A
open Abs Fil
theorem Ap(g:Aig)(inp st:List Bool)(σ:aA)(hs:Wf g):
  C_ 15 [aQ g, .slice (inp.map cP) .no, .slice (st.map cP) .no] σ (.tup [.slice ((g.Nodes inp st).1.map cP) .no, .int .i64 (g.Nodes inp st).2]) σ:=by
 refine gO [3] Tryz.func15 (by kernel_rfl) (by conv=>lhs;reduce;dsimp only[iA]) rfl ?_;by_cases hc:g.check=0
 ·by_cases hin:(inp.length:Int)=g.ins
  ·by_cases hst:st.length=g.flops.length
   ·have hf:=dn hs hc;have hsm:=hf.toSmall;have hcn:=hf.cnt;have hlo:=hf.lo;have hgk:=eI.1 hf.gok;have hv:g.Nodes inp st=(Aig.vals (false::(inp++st)) g.ands,0):=by simp[Aig.Nodes,hc,hin,hst]
    have hb:g.first=1+inp.length+st.length/\g.first+g.ands.length=1+g.count:=by unfold Aig.first Aig.count;omega
    have ez:((0:Int) != 0)=false:=by decide
    have hin':(inp.length:Int)<=g.ins/\g.ins<=inp.length:=by omega
    have hst':st.length<=g.flops.length/\g.flops.length<=st.length:=by omega
    have hal:=hs.ands;have hfl:=hs.flops;have e1:((inp.length:Int) != g.ins)=false:=by simp;omega
    have e2:((st.length:Int) != (g.flops.length:Int))=false:=by simp;omega
    have hlen:(false::(inp++st)).length=1+inp.length+st.length:=by simp;omega
    clear hin hst
    have key:∀i,(hi:i<g.ands.length)->∀v,Aig.vals (false::(inp++st)) (g.ands.take i)=v->v.length=1+inp.length+st.length+i/\0<=g.ands[i].1/\(g.ands[i].1/2).toNat<v.length/\0<=g.ands[i].2/\(g.ands[i].2/2).toNat<v.length/\v.length<=1000000/\
      Aig.vals (false::(inp++st)) (g.ands.take (i+1))=v++[Aig.val v g.ands[i].1&&Aig.val v g.ands[i].2]:=by
     intro i hi v hv;have ln:=ud (v:=false::(inp++st)) (l:=g.ands) (i:=i) (by omega);rw[hv,hlen] at ln;have:=hgk i hi
     have s:=ro (v:=false::(inp++st)) hi;rw[hv] at s;refine⟨ln,?_,?_,?_,?_,?_,s⟩<;>omega
    clear hgk hf hsm;obtain⟨w0,hw0⟩:∃w,Aig.vals (false::(inp++st))=w:=⟨_,rfl⟩;have w00:w0 []=false::(inp++st):=by rw[<-hw0];rfl
    rw[hw0] at hv key;repeat' (first|simp -implicitDefEqProofs -dsimp only[go_sem,seval, *]|simp(disch:=omega) only[ah,aj,ao,aw,ar,ag,au,aq]|(with_reducible (first|apply Za|apply Zb|apply Zc|apply Zd|apply Ze|apply Zf|apply Zg|apply Zh|apply Zi|apply Zj|apply Zk|apply Zl|apply Zm|apply Zn|apply Zo|apply Zp|apply Zq|apply Zr|apply Zs)<;>intro hq)|((with_reducible refine Zv ?_ ?_);focus (first|omega|exact rfl))|((with_reducible refine Zt (λoF hoF hnF hnF'=>?_));(try simp only[aa,ne_eq,not_and] at hoF))|((with_reducible apply ACalls.one1);(focus (first|((first|with_reducible refine ref_Check g _ hs)<;>(first|(simp -implicitDefEqProofs -dsimp only[go_sem,seval, *];done)|omega))|(with_reducible refine ACalls.flA (ref_Check g _ hs) ?_<;>(first|(simp -implicitDefEqProofs -dsimp only[go_sem,seval, *];done)|omega))));(focus (first|trivial|exact rfl|(simp -implicitDefEqProofs -dsimp only[go_sem,seval];done)))))
    all_goals (first|(have hq0:inp=[]:=List.map_eq_nil_iff.1 (by assumption);subst hq0)|skip)
    all_goals (first|(have hq0:st=[]:=List.map_eq_nil_iff.1 (by assumption);subst hq0)|skip)
    all_goals
     first
     |refine loop_rule (λx:Nat×Option Nat=>[(10,some (.int .i64 x.1)),(3,some (.cptr (gC g))),(9,some (.slice ((w0 (g.ands.take x.1)).map cP) (My x.2)))]) (λx=>Mz σ 1 (w0 (g.ands.take x.1)).length x.2) (λx=>x.1<=g.ands.length/\∀o,x.2=some o->σ o=none) (λx=>g.ands.length-x.1) (0,some oF) ?_ ?_
     |refine loop_rule (λx:Nat×Option Nat=>[(10,some (.int .i64 x.1)),(3,some (.cptr (gC g))),(9,some (.slice ((w0 (g.ands.take x.1)).map cP) (My x.2)))]) (λx=>Mz σ 1 (w0 (g.ands.take x.1)).length x.2) (λx=>x.1<=g.ands.length/\∀o,x.2=some o->σ o=none) (λx=>g.ands.length-x.1) (0,none) ?_ ?_
     ·(repeat' simp -implicitDefEqProofs -dsimp only[go_sem,seval,w00, *])<;>(repeat' refine And.intro ?_ ?_)<;>(first|omega|skip)
      all_goals (intro o ho;simp at ho;try (subst ho;assumption))
     ·rintro⟨i,ot⟩ ⟨hi,ho⟩;simp only at hi ho;by_cases hlt:i<g.ands.length
      ·obtain⟨v,hv'⟩:∃v,w0 (g.ands.take i)=v:=⟨_,rfl⟩;obtain⟨k1,k2,k3,k4,k5,k6,k7⟩:=key i hlt v hv';clear key;cases ot with
       |none=>
        clear ho;repeat' (first|simp -implicitDefEqProofs -dsimp only[go_sem,seval, *]|simp(disch:=omega) only[ah,aj,ao,aw,ar,ag,au,aq]|(with_reducible (first|apply Za|apply Zb|apply Zc|apply Zd|apply Ze|apply Zf|apply Zg|apply Zh|apply Zi|apply Zj|apply Zk|apply Zl|apply Zm|apply Zn|apply Zo|apply Zp|apply Zq|apply Zr|apply Zs)<;>intro hq)|((with_reducible refine Zv ?_ ?_);focus (first|omega|exact rfl))|((with_reducible refine Zu ?_ ?_);focus omega)|((with_reducible refine Zt (λoF hoF hnF hnF'=>?_));(try simp only[aa,ne_eq,not_and] at hoF))|((with_reducible apply ACalls.one1);(focus (first|((first|with_reducible refine ref_Value v g.ands[i].1 _ ?_ ?_ ?_|with_reducible refine ref_Value v g.ands[i].2 _ ?_ ?_ ?_)<;>(first|(simp -implicitDefEqProofs -dsimp only[go_sem,seval, *];done)|omega))|(with_reducible refine ACalls.flA (ref_Value v g.ands[i].1 _ ?_ ?_ ?_) ?_<;>(first|(simp -implicitDefEqProofs -dsimp only[go_sem,seval, *];done)|omega))|(with_reducible refine ACalls.flA (ref_Value v g.ands[i].2 _ ?_ ?_ ?_) ?_<;>(first|(simp -implicitDefEqProofs -dsimp only[go_sem,seval, *];done)|omega))));(focus (first|trivial|exact rfl|(simp -implicitDefEqProofs -dsimp only[go_sem,seval];done)))))
        all_goals
         refine bP _ _ _ _ ((i+1,some oF)) ?_;(repeat' simp -implicitDefEqProofs -dsimp only[go_sem,seval, *])<;>(repeat' refine And.intro ?_ ?_)<;>(first|omega|skip)
         all_goals (intro o ho';simp at ho';try (subst ho';assumption))
       |some o1=>
        have ho1:=ho o1 rfl;clear ho;repeat' (first|simp -implicitDefEqProofs -dsimp only[go_sem,seval, *]|simp(disch:=omega) only[ah,aj,ao,aw,ar,ag,au,aq]|(with_reducible (first|apply Za|apply Zb|apply Zc|apply Zd|apply Ze|apply Zf|apply Zg|apply Zh|apply Zi|apply Zj|apply Zk|apply Zl|apply Zm|apply Zn|apply Zo|apply Zp|apply Zq|apply Zr|apply Zs)<;>intro hq)|((with_reducible refine Zv ?_ ?_);focus (first|omega|exact rfl))|((with_reducible refine Zu ?_ ?_);focus omega)|((with_reducible apply ACalls.one1);(focus (first|((first|with_reducible refine ref_Value v g.ands[i].1 _ ?_ ?_ ?_|with_reducible refine ref_Value v g.ands[i].2 _ ?_ ?_ ?_)<;>(first|(simp -implicitDefEqProofs -dsimp only[go_sem,seval, *];done)|omega))|(with_reducible refine ACalls.flA (ref_Value v g.ands[i].1 _ ?_ ?_ ?_) ?_<;>(first|(simp -implicitDefEqProofs -dsimp only[go_sem,seval, *];done)|omega))|(with_reducible refine ACalls.flA (ref_Value v g.ands[i].2 _ ?_ ?_ ?_) ?_<;>(first|(simp -implicitDefEqProofs -dsimp only[go_sem,seval, *];done)|omega))));(focus (first|trivial|exact rfl|(simp -implicitDefEqProofs -dsimp only[go_sem,seval];done)))))
        all_goals
         refine bP _ _ _ _ ((i+1,some o1)) ?_;(repeat' simp -implicitDefEqProofs -dsimp only[go_sem,seval, *])<;>(repeat' refine And.intro ?_ ?_)<;>(first|omega|skip)
         all_goals (intro o ho';simp at ho';try (subst ho';assumption))
      ·have e0:g.ands.take i=g.ands:=List.take_of_length_le (by omega);clear key;cases ot with
       |none=>
        repeat' simp -implicitDefEqProofs -dsimp only[go_sem,seval, *]
        refine fin_eq ?_;(repeat' simp -implicitDefEqProofs -dsimp only[go_sem,seval,e0, *])
       |some o1=>
        have ho1:=ho o1 rfl;clear ho;repeat' simp -implicitDefEqProofs -dsimp only[go_sem,seval, *]
        refine fin_eq ?_;(repeat' simp -implicitDefEqProofs -dsimp only[go_sem,seval,e0, *])
   ·have hv:g.Nodes inp st=([],1):=by simp[Aig.Nodes, *]
    have hb:((st.length:Int) != g.flops.length)=true:=by simp;omega
    repeat' (first|simp -implicitDefEqProofs -dsimp only[go_sem,seval, *]|((with_reducible apply ACalls.one1);(focus (first|((first|with_reducible refine ref_Check g _ hs)<;>(first|(simp -implicitDefEqProofs -dsimp only[go_sem,seval, *];done)|omega))|(with_reducible refine ACalls.flA (ref_Check g _ hs) ?_<;>(first|(simp -implicitDefEqProofs -dsimp only[go_sem,seval, *];done)|omega))));(focus (first|trivial|exact rfl|(simp -implicitDefEqProofs -dsimp only[go_sem,seval];done)))))
    refine fin_eq ?_;(repeat' simp -implicitDefEqProofs -dsimp only[go_sem,seval, *])
  ·have hv:g.Nodes inp st=([],1):=by simp[Aig.Nodes, *]
   have hb:((inp.length:Int) != g.ins)=true:=by simpa using hin
   repeat' (first|simp -implicitDefEqProofs -dsimp only[go_sem,seval, *]|((with_reducible apply ACalls.one1);(focus (first|((first|with_reducible refine ref_Check g _ hs)<;>(first|(simp -implicitDefEqProofs -dsimp only[go_sem,seval, *];done)|omega))|(with_reducible refine ACalls.flA (ref_Check g _ hs) ?_<;>(first|(simp -implicitDefEqProofs -dsimp only[go_sem,seval, *];done)|omega))));(focus (first|trivial|exact rfl|(simp -implicitDefEqProofs -dsimp only[go_sem,seval];done)))))
   refine fin_eq ?_;(repeat' simp -implicitDefEqProofs -dsimp only[go_sem,seval, *])
 ·have hv:g.Nodes inp st=([],g.check):=by simp[Aig.Nodes, *]
  have hb:(g.check != 0)=true:=by simpa using hc
  repeat' (first|simp -implicitDefEqProofs -dsimp only[go_sem,seval, *]|((with_reducible apply ACalls.one1);(focus (first|((first|with_reducible refine ref_Check g _ hs)<;>(first|(simp -implicitDefEqProofs -dsimp only[go_sem,seval, *];done)|omega))|(with_reducible refine ACalls.flA (ref_Check g _ hs) ?_<;>(first|(simp -implicitDefEqProofs -dsimp only[go_sem,seval, *];done)|omega))));(focus (first|trivial|exact rfl|(simp -implicitDefEqProofs -dsimp only[go_sem,seval];done)))))
  refine fin_eq ?_;(repeat' simp -implicitDefEqProofs -dsimp only[go_sem,seval, *])
end Go.Proofs.YtbbihmmobfmadaaGreat.A
namespace Fil
open Abs
def Res(g:Aig)(n:Nat)(l:List Int)(r:Aig×Int×Int):Prop:=
 (r.2.2=0/\g.check=0/\(∀a∈l,g.lit a=true)/\Fine r.1/\Ext g r.1/\r.1.lit r.2.1=true/\r.1.ands.length<=g.ands.length+n)\/(r.2.2≠0/\r.1=⟨0,[],[],[]⟩/\r.2.1=0)
theorem CS{g g':Aig}{p q x:Int}(h:g.andO p q=some (g',x)):g'.ands.length<=g.ands.length+1:=by
 unfold Aig.andO at h;simp only at h;split at h
 ·simp at h;obtain⟨rfl,_⟩:=h;omega
 ·split at h
  ·simp at h;obtain⟨rfl,_⟩:=h;omega
  ·split at h
   ·simp at h;obtain⟨rfl,_⟩:=h;omega
   ·split at h
    ·simp at h
    ·simp at h;obtain⟨rfl,_⟩:=h;simp
theorem jA(g:Aig)(e p q:Int):(g.andW e p q).1.ands.length<=g.ands.length+1:=by
 unfold Aig.andW;split
 ·simp
 ·cases h:g.andO p q with
  |none=>simp
  |some r=>exact CS h
theorem CT{g:Aig}{e p q:Int}(hf:e=0->Fine g/\g.lit p=true/\g.lit q=true):
  ((g.orW e p q).2.1=0->Fine (g.orW e p q).1/\(g.orW e p q).1.lit (g.orW e p q).2.2=true)/\Ext g (g.orW e p q).1:=by
 obtain⟨h1,h2,_⟩:=fJ (g:=g) (e:=e) (p:=turn p) (q:=turn q) λh=>⟨(hf h).1,cg (hf h).2.1,cg (hf h).2.2⟩;exact⟨λh=>⟨(h1 h).1,cg (h1 h).2⟩,h2⟩
theorem rq{g:Aig}{e a b c d:Int}(hf:e=0->Fine g/\g.lit a=true/\g.lit b=true/\g.lit c=true/\g.lit d=true):
  ((g.pairs e a b c d).2.1=0->e=0/\Fine (g.pairs e a b c d).1/\(g.pairs e a b c d).1.lit (g.pairs e a b c d).2.2=true)/\Ext g (g.pairs e a b c d).1/\(g.pairs e a b c d).1.ands.length<=g.ands.length+3:=by
 obtain⟨h1,h2,_⟩:=fJ (g:=g) (e:=e) (p:=a) (q:=b) λh=>⟨(hf h).1,(hf h).2.1,(hf h).2.2.1⟩
 obtain⟨k1,k2,_⟩:=fJ (g:=(g.andW e a b).1) (e:=(g.andW e a b).2.1) (p:=c) (q:=d) λh=>by
  obtain⟨_,_,_,hc,hd⟩:=hf (cu h);exact⟨(h1 h).1,h2.lit hc,h2.lit hd⟩
 obtain⟨m1,m2⟩:=CT (g:=((g.andW e a b).1.andW (g.andW e a b).2.1 c d).1) (e:=((g.andW e a b).1.andW (g.andW e a b).2.1 c d).2.1) (p:=(g.andW e a b).2.2) (q:=((g.andW e a b).1.andW (g.andW e a b).2.1 c d).2.2) λh=>
  ⟨(k1 h).1,k2.lit (h1 (cu h)).2,(k1 h).2⟩
 have l1:=jA g e a b;have l2:=jA (g.andW e a b).1 (g.andW e a b).2.1 c d;have l3:=jA ((g.andW e a b).1.andW (g.andW e a b).2.1 c d).1 ((g.andW e a b).1.andW (g.andW e a b).2.1 c d).2.1 (turn (g.andW e a b).2.2) (turn ((g.andW e a b).1.andW (g.andW e a b).2.1 c d).2.2)
 exact⟨λh=>⟨cu (cu (cu h)),m1 h⟩,(h2.trans k2).trans m2,by
  show((_:Aig).andW _ _ _).1.ands.length<=_
  omega⟩
theorem GL{g:Aig}(hs:Wf g)(a b:Int):Res g 1 [a,b] (g.And a b):=by
 unfold Aig.And
 have hk:g.checkL g.check [a,b]=0->Fine g/\g.lit a=true/\g.lit b=true:=λh=>by
  obtain⟨h1,h2⟩:=aK hs h;exact⟨h1,h2 _ (by simp),h2 _ (by simp)⟩
 have ok:=fJ hk;by_cases h:(g.andW (g.checkL g.check [a,b]) a b).2.1=0
 ·left
  rw[er h];have h0:=cu h;obtain⟨k1,k2⟩:=hk h0;exact⟨rfl,(bB.1 h0).1,(bB.1 h0).2,(ok.1 h).1,ok.2.1,(ok.1 h).2,jA _ _ _ _⟩
 ·right
  rw[fT h];exact⟨h,rfl,rfl⟩
theorem J2{g:Aig}(hs:Wf g)(a b:Int):Res g 1 [a,b] (g.Or a b):=by
 unfold Aig.Or
 have hk:g.checkL g.check [a,b]=0->Fine g/\g.lit a=true/\g.lit b=true:=λh=>by
  obtain⟨h1,h2⟩:=aK hs h;exact⟨h1,h2 _ (by simp),h2 _ (by simp)⟩
 have ok:=CT hk;by_cases h:(g.orW (g.checkL g.check [a,b]) a b).2.1=0
 ·left
  rw[er h];have h0:g.checkL g.check [a,b]=0:=cu h;exact⟨rfl,(bB.1 h0).1,(bB.1 h0).2,(ok.1 h).1,ok.2,(ok.1 h).2,jA _ _ _ _⟩
 ·right
  rw[fT h];exact⟨h,rfl,rfl⟩
theorem x6{g:Aig}(hs:Wf g)(a b:Int):Res g 3 [a,b] (g.Xor a b):=by
 unfold Aig.Xor
 have ok:=rq (g:=g) (e:=g.checkL g.check [a,b]) (a:=a) (b:=turn b) (c:=turn a) (d:=b) λh=>by
  obtain⟨h1,h2⟩:=aK hs h;exact⟨h1,h2 _ (by simp),cg (h2 _ (by simp)),cg (h2 _ (by simp)),h2 _ (by simp)⟩
 by_cases h:(g.pairs (g.checkL g.check [a,b]) a (turn b) (turn a) b).2.1=0
 ·left
  rw[er h];obtain⟨h0,k1,k2⟩:=ok.1 h;exact⟨rfl,(bB.1 h0).1,(bB.1 h0).2,k1,ok.2.1,k2,ok.2.2⟩
 ·right
  rw[fT h];exact⟨h,rfl,rfl⟩
theorem x7{g:Aig}(hs:Wf g)(c a b:Int):Res g 3 [c,a,b] (g.Mux c a b):=by
 unfold Aig.Mux
 have ok:=rq (g:=g) (e:=g.checkL g.check [c,a,b]) (a:=c) (b:=a) (c:=turn c) (d:=b) λh=>by
  obtain⟨h1,h2⟩:=aK hs h;exact⟨h1,h2 _ (by simp),h2 _ (by simp),cg (h2 _ (by simp)),h2 _ (by simp)⟩
 by_cases h:(g.pairs (g.checkL g.check [c,a,b]) c a (turn c) b).2.1=0
 ·left
  rw[er h];obtain⟨h0,k1,k2⟩:=ok.1 h;exact⟨rfl,(bB.1 h0).1,(bB.1 h0).2,k1,ok.2.1,k2,ok.2.2⟩
 ·right
  rw[fT h];exact⟨h,rfl,rfl⟩
theorem GM:Wf ⟨0,[],[],[]⟩:=⟨by simp[I64],by simp,by simp,by simp,by simp,by simp,by simp⟩
theorem Res.wf{g:Aig}{n:Nat}{l:List Int}{r:Aig×Int×Int}(h:Res g n l r):Wf r.1/\I64 r.2.1:=by
 rcases h with ⟨_,_,_,h,_,hl,_⟩|⟨_,h,h'⟩
 ·have:=aU.1 hl
  have:=h.cnt
  exact⟨h.toWf,by omega,by omega⟩
 ·rw[h,h'];exact⟨GM,by simp[I64]⟩
end Fil
namespace Fil
open Abs
theorem ext_check{g h:Aig}(hs:Wf g)(hc:g.check=0)(hx:Ext g h)(hf:Fine h):h.check=0:=by
 have hcn:=hf.cnt;have hlo:=hf.lo;unfold Aig.check at hc|-;split at hc
 ·simp at hc
 ·split at hc
  ·simp at hc
  ·split at hc
   ·rename_i h1 h2 h3
    rw[if_neg (by omega),if_neg (by rw[hx.ins,hx.outs];omega),if_pos];simp only[Aig.good,Bool.and_eq_true,Bool.not_eq_true',List.any_eq_false,Bool.not_eq_true,Bool.not_eq_false'] at h3|-;refine⟨⟨hf.gok,λf hm=>?_⟩,λa hm=>?_⟩
    ·rw[hx.flops] at hm;exact λhn=>by have:=hx.lit (by simpa using h3.1.2 f hm:g.lit f.next=true);rw[hn] at this;simp at this
    ·rw[hx.outs] at hm;exact λhn=>by have:=hx.lit (by simpa using h3.2 a hm:g.lit a=true);rw[hn] at this;simp at this
   ·simp at hc
theorem Res.check{g:Aig}(hs:Wf g){n:Nat}{l:List Int}{r:Aig×Int×Int}(h:Res g n l r)(h0:r.2.2=0):r.1.check=0/\Fine r.1/\Ext g r.1/\r.1.lit r.2.1=true/\r.1.ands.length<=g.ands.length+n/\(∀a∈l,g.lit a=true)/\g.check=0:=by
 rcases h with ⟨_,hc,hl,hf,hx,hl',hn⟩|⟨h,_⟩
 ·exact⟨ext_check hs hc hx hf,hf,hx,hl',hn,hl,hc⟩
 ·exact(h h0).elim
theorem Res.checkL{g:Aig}(hs:Wf g){n:Nat}{l m:List Int}{r:Aig×Int×Int}(h:Res g n l r)(h0:r.2.2=0)(hm:∀a∈m,a∈l):r.1.checkL r.1.check m=0:=by
 obtain⟨h1,_,hx,_,_,hl,_⟩:=h.check hs h0;exact bB.2 ⟨h1,λa ha=>hx.lit (hl a (hm a ha))⟩
end Fil
namespace Fil
open Abs
theorem eJ:∀(l:List (Int×Int)) (v:List Bool),∃m,Aig.vals v l=v++m
 |[],v=>⟨[],by simp[Aig.vals]⟩
 |x::l,v=>by
  obtain⟨m,hm⟩:=eJ l (v++[Aig.val v x.1&&Aig.val v x.2]);exact⟨_::m,by rw[Aig.vals,hm,List.append_assoc];rfl⟩
theorem sJ{v m:List Bool}{a:Int}(h:(a/2).toNat<v.length):Aig.val (v++m) a=Aig.val v a:=by
 unfold Aig.val;rw[List.getD_eq_getElem?_getD,List.getD_eq_getElem?_getD,List.getElem?_append_left h]
theorem fU{v:List Bool}{a:Int}(h:0<=a):Aig.val v (turn a)= !Aig.val v a:=by
 unfold Aig.val;have e:(turn a/2).toNat=(a/2).toNat:=by unfold turn;omega
 rw[e];by_cases h1:a%2=1
 ·have h2:¬turn a%2=1:=by unfold turn;omega
  cases v.getD (a/2).toNat false<;>simp[h1,h2]
 ·have h2:turn a%2=1:=by unfold turn;omega
  cases v.getD (a/2).toNat false<;>simp[h1,h2]
section
variable {s : List Bool}
theorem ui{g:Aig}(hf:Fine g)(hb:((s.length+1:Nat):Int)=g.first):((Aig.vals (false::s) g.ands).length:Int)=1+g.count:=by
 rw[fS,jy,List.length_cons];omega
theorem L7{g h:Aig}(hx:Ext g h):∃m,Aig.vals (false::s) h.ands=Aig.vals (false::s) g.ands++m:=by
 obtain⟨_,_,_,l,e⟩:=hx;rw[e,fR];exact eJ _ _
theorem nL{g h:Aig}(hf:Fine g)(hb:((s.length+1:Nat):Int)=g.first)(hx:Ext g h){a:Int}(ha:g.lit a=true):Aig.val (Aig.vals (false::s) h.ands) a=Aig.val (Aig.vals (false::s) g.ands) a:=by
 obtain⟨m,e⟩:=L7 (s:=s) hx;rw[e,sJ];have:=ui hf hb
 have:=aU.1 ha
 omega
theorem uj{g:Aig}:Aig.val (Aig.vals (false::s) g.ands) 0=false:=by
 obtain⟨m,e⟩:=eJ g.ands (false::s);rw[e];rfl
theorem GN{g:Aig}:Aig.val (Aig.vals (false::s) g.ands) 1=true:=by
 obtain⟨m,e⟩:=eJ g.ands (false::s);rw[e];rfl
theorem uk{α:Type}(p:α->Bool):∀(l:List α),0<=de p l->∃h:(de p l).toNat<l.length,p l[(de p l).toNat]=true
 |[],h=>by simp[de] at h
 |a::l,h=>by
  by_cases hp:p a=true
  ·have e:de p (a::l)=0:=by simp[de,hp]
   simp[e,hp]
  ·by_cases h':de p l<0
   ·have e:de p (a::l)= -1:=by simp[de,hp,h']
    omega
   ·have e:de p (a::l)=de p l+1:=by simp[de,hp,h']
    obtain⟨k,hk⟩:=uk p l (by omega);have e2:(de p (a::l)).toNat=(de p l).toNat+1:=by omega
    have k2:(de p (a::l)).toNat<(a::l).length:=by rw[e2,List.length_cons];omega
    refine⟨k2,?_⟩;simp only[e2,List.getElem_cons_succ];exact hk
theorem CU{g:Aig}(hf:Fine g)(hb:((s.length+1:Nat):Int)=g.first){i:Nat}(hi:i<g.ands.length):
  Aig.val (Aig.vals (false::s) g.ands) (2*(g.first+i))=(Aig.val (Aig.vals (false::s) g.ands) g.ands[i].1&&Aig.val (Aig.vals (false::s) g.ands) g.ands[i].2):=by
 have hg:=eI.1 hf.gok i hi;have st:=ro (v:=false::s) hi;have ln:=ud (v:=false::s) (l:=g.ands) (i:=i) (by omega);have sp:g.ands=g.ands.take (i+1)++g.ands.drop (i+1):=(List.take_append_drop _ _).symm;have sp':g.ands=g.ands.take i++g.ands.drop i:=(List.take_append_drop _ _).symm;obtain⟨m,e⟩:=eJ (g.ands.drop (i+1)) (Aig.vals (false::s) (g.ands.take (i+1)));obtain⟨m',e'⟩:=eJ (g.ands.drop i) (Aig.vals (false::s) (g.ands.take i));rw[<-fR,<-sp,st] at e;rw[<-fR,<-sp'] at e';rw[List.length_cons] at ln;have a1:(g.ands[i].1/2).toNat<(Aig.vals (false::s) (g.ands.take i)).length:=by omega
 have a2:(g.ands[i].2/2).toNat<(Aig.vals (false::s) (g.ands.take i)).length:=by omega
 have q1:Aig.val (Aig.vals (false::s) g.ands) g.ands[i].1=Aig.val (Aig.vals (false::s) (g.ands.take i)) g.ands[i].1:=by rw[e',sJ a1]
 have q2:Aig.val (Aig.vals (false::s) g.ands) g.ands[i].2=Aig.val (Aig.vals (false::s) (g.ands.take i)) g.ands[i].2:=by rw[e',sJ a2]
 rw[q1,q2,e];have ix:(2*(g.first+i)/2).toNat=(Aig.vals (false::s) (g.ands.take i)).length:=by omega
 have od:¬(2*(g.first+(i:Int)))%2=1:=by omega
 unfold Aig.val;rw[ix,List.getD_eq_getElem?_getD,List.append_assoc,List.getElem?_append_right (Nat.le_refl _)];simp[od]
theorem ng{v:List Bool}{p q:Int}:(Aig.val v (min p q)&&Aig.val v (max p q))=(Aig.val v p&&Aig.val v q):=by
 rcases Int.le_total p q with h|h
 ·rw[Int.min_eq_left h,Int.max_eq_right h]
 ·rw[Int.min_eq_right h,Int.max_eq_left h,Bool.and_comm]
theorem CV{g h:Aig}{p q x:Int}(hf:Fine g)(hb:((s.length+1:Nat):Int)=g.first)(hp:g.lit p=true)(hq:g.lit q=true)(ho:g.andO p q=some (h,x)):
  Aig.val (Aig.vals (false::s) h.ands) x=(Aig.val (Aig.vals (false::s) g.ands) p&&Aig.val (Aig.vals (false::s) g.ands) q):=by
 have hp':=aU.1 hp;have hq':=aU.1 hq;rw[<-ng];unfold Aig.andO at ho;simp only at ho;split at ho
 ·rename_i c
  simp at ho;obtain⟨rfl,rfl⟩:=ho
  rw[uj];rcases c with c|c
  ·rw[c,uj];rfl
  ·rw[c,fU (by omega)];cases Aig.val (Aig.vals (false::s) g.ands) (max p q)<;>rfl
 ·split at ho
  ·rename_i c
   simp at ho;obtain⟨rfl,rfl⟩:=ho
   rcases c with c|c
   ·rw[c,GN,Bool.true_and]
   ·rw[c,Bool.and_self]
  ·split at ho
   ·rename_i c
    simp at ho;obtain⟨rfl,rfl⟩:=ho
    obtain⟨k,hk⟩:=uk _ _ c;have e:=CU (s:=s) hf hb k;have e2:(((g.find (min p q) (max p q)).toNat:Nat):Int)=g.find (min p q) (max p q):=by omega
    have e4:(((de (λx:Int×Int=>decide (min x.1 x.2=min p q)&&decide (max x.1 x.2=max p q)) g.ands).toNat:Nat):Int)=g.find (min p q) (max p q):=e2;rw[e4] at e;rw[e,<-ng];simp only[Bool.and_eq_true,decide_eq_true_eq] at hk;rw[hk.1,hk.2]
   ·split at ho
    ·simp at ho
    ·simp at ho;obtain⟨rfl,rfl⟩:=ho
     have ln:=ui (s:=s) hf hb;have ix:(2*(g.count+1)/2).toNat=(Aig.vals (false::s) g.ands).length:=by omega
     have od:¬(2*(g.count+1))%2=1:=by omega
     simp only[rj];generalize hv:(Aig.val (Aig.vals (false::s) g.ands) (min p q)&&Aig.val (Aig.vals (false::s) g.ands) (max p q))=w;unfold Aig.val;rw[ix,List.getD_eq_getElem?_getD,List.getElem?_append_right (Nat.le_refl _)];simp[od]
theorem lp{g:Aig}{e p q:Int}(hf:e=0->Fine g/\g.lit p=true/\g.lit q=true)(hb:((s.length+1:Nat):Int)=g.first)(h:(g.andW e p q).2.1=0):
  Aig.val (Aig.vals (false::s) (g.andW e p q).1.ands) (g.andW e p q).2.2=(Aig.val (Aig.vals (false::s) g.ands) p&&Aig.val (Aig.vals (false::s) g.ands) q):=by
 have he:=cu h;obtain⟨h1,h2,h3⟩:=hf he;subst he;unfold Aig.andW at h|-;simp only[ne_eq,not_true_eq_false,if_false] at h|-;cases ho:g.andO p q with
 |none=>rw[ho] at h;simp at h
 |some r=>exact CV h1 hb h2 h3 ho
theorem x8{g:Aig}{e p q:Int}(hf:e=0->Fine g/\g.lit p=true/\g.lit q=true)(hb:((s.length+1:Nat):Int)=g.first)(h:(g.orW e p q).2.1=0):
  Aig.val (Aig.vals (false::s) (g.orW e p q).1.ands) (g.orW e p q).2.2=(Aig.val (Aig.vals (false::s) g.ands) p||Aig.val (Aig.vals (false::s) g.ands) q):=by
 have he:e=0:=cu h;have hf':e=0->Fine g/\g.lit (turn p)=true/\g.lit (turn q)=true:=λhe=>⟨(hf he).1,cg (hf he).2.1,cg (hf he).2.2⟩;have k:=lp (s:=s) hf' hb h;have ok:=(fJ hf').2.2.1;show Aig.val _ (turn _)=_
 rw[fU ok];obtain⟨_,h2,h3⟩:=hf he;have k':Aig.val (Aig.vals (false::s) (g.orW e p q).1.ands) (g.andW e (turn p) (turn q)).2.2=_:=k;rw[k',fU (aU.1 h2).1,fU (aU.1 h3).1];cases Aig.val (Aig.vals (false::s) g.ands) p<;>cases Aig.val (Aig.vals (false::s) g.ands) q<;>rfl
theorem rt{g:Aig}{e a b c d:Int}(hf:e=0->Fine g/\g.lit a=true/\g.lit b=true/\g.lit c=true/\g.lit d=true)(hb:((s.length+1:Nat):Int)=g.first)(h:(g.pairs e a b c d).2.1=0):
  Aig.val (Aig.vals (false::s) (g.pairs e a b c d).1.ands) (g.pairs e a b c d).2.2=((Aig.val (Aig.vals (false::s) g.ands) a&&Aig.val (Aig.vals (false::s) g.ands) b)||(Aig.val (Aig.vals (false::s) g.ands) c&&Aig.val (Aig.vals (false::s) g.ands) d)):=by
 have f1:e=0->Fine g/\g.lit a=true/\g.lit b=true:=λh=>⟨(hf h).1,(hf h).2.1,(hf h).2.2.1⟩;obtain⟨h1,h2,_⟩:=fJ f1
 have f2:(g.andW e a b).2.1=0->Fine (g.andW e a b).1/\(g.andW e a b).1.lit c=true/\(g.andW e a b).1.lit d=true:=λh=>by
  obtain⟨_,_,_,hc,hd⟩:=hf (cu h);exact⟨(h1 h).1,h2.lit hc,h2.lit hd⟩
 obtain⟨k1,k2,_⟩:=fJ f2
 have f3:((g.andW e a b).1.andW (g.andW e a b).2.1 c d).2.1=0->Fine ((g.andW e a b).1.andW (g.andW e a b).2.1 c d).1/\((g.andW e a b).1.andW (g.andW e a b).2.1 c d).1.lit (g.andW e a b).2.2=true/\((g.andW e a b).1.andW (g.andW e a b).2.1 c d).1.lit ((g.andW e a b).1.andW (g.andW e a b).2.1 c d).2.2=true:=λh=>
  ⟨(k1 h).1,k2.lit (h1 (cu h)).2,(k1 h).2⟩
 have e2:((g.andW e a b).1.andW (g.andW e a b).2.1 c d).2.1=0:=cu h;have e1:(g.andW e a b).2.1=0:=cu e2;have v1:=lp (s:=s) f1 hb e1;have v2:=lp (s:=s) f2 (by rw[h2.first];exact hb) e2;have v3:=x8 (s:=s) f3 (by rw[k2.first,h2.first];exact hb) h;obtain⟨hg,_,_,hc,hd⟩:=hf (cu e1);have x1:=nL (s:=s) (h1 e1).1 (by rw[h2.first];exact hb) k2 (h1 e1).2;have x2:=nL (s:=s) hg hb h2 hc;have x3:=nL (s:=s) hg hb h2 hd;rw[x1,v1,v2,x2,x3] at v3;exact v3
end
theorem nodes_eq{g:Aig}(hc:g.check=0){inp st:List Bool}(h1:(inp.length:Int)=g.ins)(h2:st.length=g.flops.length):g.Nodes inp st=(Aig.vals (false::(inp++st)) g.ands,0):=by
 unfold Aig.Nodes;rw[if_neg (by simp[hc]),if_neg (by simp[h1,h2])]
def Aig.value(g:Aig)(a:Int)(inp st:List Bool):Bool:=Aig.val (Aig.vals (false::(inp++st)) g.ands) a
section
variable {g : Aig} {a b c : Int} {inp st : List Bool} (hs : Wf g) (l1 : (inp.length : Int) = g.ins) (l2 : st.length = g.flops.length)
include hs l1 l2
theorem GO(h:(g.And a b).2.2=0):(g.And a b).1.value (g.And a b).2.1 inp st=(g.value a inp st&&g.value b inp st):=by
 have hb:(((inp++st).length+1:Nat):Int)=g.first:=by rw[List.length_append];unfold Aig.first;omega
 unfold Aig.And at h|-;by_cases h':(g.andW (g.checkL g.check [a,b]) a b).2.1=0
 ·rw[er h'];exact lp (λh=>⟨(aK hs h).1,(aK hs h).2 _ (by simp),(aK hs h).2 _ (by simp)⟩) hb h'
 ·rw[fT h'] at h;exact(h' h).elim
theorem J3(h:(g.Or a b).2.2=0):(g.Or a b).1.value (g.Or a b).2.1 inp st=(g.value a inp st||g.value b inp st):=by
 have hb:(((inp++st).length+1:Nat):Int)=g.first:=by rw[List.length_append];unfold Aig.first;omega
 unfold Aig.Or at h|-;by_cases h':(g.orW (g.checkL g.check [a,b]) a b).2.1=0
 ·rw[er h'];exact x8 (λh=>⟨(aK hs h).1,(aK hs h).2 _ (by simp),(aK hs h).2 _ (by simp)⟩) hb h'
 ·rw[fT h'] at h;exact(h' h).elim
theorem GP(h:(g.Xor a b).2.2=0):(g.Xor a b).1.value (g.Xor a b).2.1 inp st=(g.value a inp st != g.value b inp st):=by
 have hb:(((inp++st).length+1:Nat):Int)=g.first:=by rw[List.length_append];unfold Aig.first;omega
 have hl:=(x6 hs a b).check hs h;have pa:=(aU.1 (hl.2.2.2.2.2.1 a (by simp))).1;have pb:=(aU.1 (hl.2.2.2.2.2.1 b (by simp))).1;unfold Aig.Xor at h|-;by_cases h':(g.pairs (g.checkL g.check [a,b]) a (turn b) (turn a) b).2.1=0
 ·rw[er h'];have:=rt (s:=inp++st) (λh=>⟨(aK hs h).1,(aK hs h).2 _ (by simp),cg ((aK hs h).2 _ (by simp)),cg ((aK hs h).2 _ (by simp)),(aK hs h).2 _ (by simp)⟩) hb h'
  rw[fU pa,fU pb] at this;refine this.trans ?_;unfold Aig.value;cases Aig.val (Aig.vals (false::(inp++st)) g.ands) a<;>cases Aig.val (Aig.vals (false::(inp++st)) g.ands) b<;>rfl
 ·rw[fT h'] at h;exact(h' h).elim
theorem GQ(h:(g.Mux c a b).2.2=0):(g.Mux c a b).1.value (g.Mux c a b).2.1 inp st=if g.value c inp st then g.value a inp st else g.value b inp st:=by
 have hb:(((inp++st).length+1:Nat):Int)=g.first:=by rw[List.length_append];unfold Aig.first;omega
 have hl:=(x7 hs c a b).check hs h;have pc:=(aU.1 (hl.2.2.2.2.2.1 c (by simp))).1;unfold Aig.Mux at h|-;by_cases h':(g.pairs (g.checkL g.check [c,a,b]) c a (turn c) b).2.1=0
 ·rw[er h'];have:=rt (s:=inp++st) (λh=>⟨(aK hs h).1,(aK hs h).2 _ (by simp),(aK hs h).2 _ (by simp),cg ((aK hs h).2 _ (by simp)),(aK hs h).2 _ (by simp)⟩) hb h'
  rw[fU pc] at this;refine this.trans ?_;unfold Aig.value;cases Aig.val (Aig.vals (false::(inp++st)) g.ands) c<;>simp
 ·rw[fT h'] at h;exact(h' h).elim
end
end Fil
