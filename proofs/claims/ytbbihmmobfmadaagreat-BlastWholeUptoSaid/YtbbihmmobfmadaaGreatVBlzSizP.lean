/- sized: contracts: the document's expressions of designs. -/
import Derived.Test.YtbbihmmobfmadaaGreatVSzMain
import Derived.Test.YtbbihmmobfmadaaGreatVBlzSizJ
import Derived.Test.YtbbihmmobfmadaaGreatVAbsX
set_option linter.unusedSimpArgs false
set_option linter.unusedVariables false
set_option maxHeartbeats 4000000
set_option maxRecDepth 50000
namespace Go.Proofs.YtbbihmmobfmadaaGreat.S
open Abs Fil Fil.Sz
theorem F4(l:List Int)(i:Nat)(v:Int)(h:i<l.length):List.take (i*1) (l.map encInt)++[AV.int .i64 v]++List.drop (i*1+1) (l.map encInt)=(l.set i v).map encInt:=by
 have h1:(l.set i v).map encInt=(l.map encInt).set i (encInt v):=by rw[List.map_set]
 rw[h1,List.set_eq_take_append_cons_drop];simp[h]
theorem tZ(l:List Int)(v:Int)(h:0<l.length):AV.int .i64 v::List.drop 1 (l.map encInt)=(l.set 0 v).map encInt:=by
 cases l with
 |nil=>simp at h
 |cons a l=>rfl
theorem F5(n:Nat):(List.replicate n [AV.int .i64 0]).flatten=(List.replicate n (0:Int)).map encInt:=by
 induction n with
 |zero=>rfl
 |succ n ih=>simp only[List.replicate_succ,List.flatten_cons,ih,List.map_cons];rfl
theorem hO(l:List Int):flat (l.map encInt)=l.map encInt:=by
 induction l with
 |nil=>rfl
 |cons a l ih=>rw[List.map_cons,c8,ih];rfl
theorem F6(l:List Int):∀x∈l.map encInt,(aD x).length=1:=λx hx=>by
 obtain⟨a,_,rfl⟩:=List.mem_map.1 hx;rfl
def js(w:Int)(c:List Int)(i:Nat):List Int:=List.replicate i w++c.drop i
theorem zw(w:Int)(c:List Int){i:Nat}(h:i<=c.length):(js w c i).length=c.length:=by simp[js];omega
theorem vX(w:Int)(c:List Int){i:Nat}(h:i<c.length):(js w c i).set i w=js w c (i+1):=by
 unfold js;rw[List.drop_eq_getElem_cons h,List.replicate_succ',List.set_append_right _ _ (by simp),List.length_replicate,Nat.sub_self,List.set_cons_zero];simp
theorem zx(w:Int)(c:List Int):js w c c.length=List.replicate c.length w:=by simp[js]
theorem Jf(w:Int)(b o n:Nat)(c:List Int)(σ:aB)(hb:σ b=some (.cells [.vec o n]))(ho:σ o=some (.vec 1 n (c.map encInt)))(hc:c.length=n)(hn:n<=1000000000000)(h1:¬b=o)(h2:¬o=b):
  C_ 230 [.int .i64 w, .ptr b 0] σ (.tup []) (aF σ o (.vec 1 n ((List.replicate n w).map encInt))):=by
 refine gO [] Tryz.func230 (by kernel_rfl) (by conv=>lhs;reduce;dsimp only[iA]) rfl ?_;repeat' simp -implicitDefEqProofs -dsimp only[go_sem,seval, *]
 refine ar (λi:Nat=>[(6,some (.int .i64 i)),(5,some (.int .i64 n)),(1,some (.ptr b 0)),(0,some (.int .i64 w))]) (λi=>aF σ o (.vec 1 n ((js w c i).map encInt))) (λi=>i<=n) (λi=>n-i) 0 ?_ ?_
 ·have e0:js w c 0=c:=rfl;(repeat' (first|simp -implicitDefEqProofs -dsimp only[go_sem,seval, *]|omega))
 ·intro i hi;have hl:=zw w c (i:=i) (by omega);by_cases hlt:i<n
  ·have hp:=F4 (js w c i) i w (by omega);rw[vX w c (by omega)] at hp;have hlt':(i:Int)<n:=by omega
   generalize hd:js w c i=d at hp hl|-;clear hd;repeat' (first|simp -implicitDefEqProofs -dsimp only[go_sem,seval, *]|simp(disch:=omega) only[ah,aj,ao,aA,au,ag,az,aq]|with_reducible refine Zv ?_ ?_|with_reducible refine lnx (i+1) ?_|with_reducible refine And.intro ?_ ?_|omega)
  ·have ei:i=n:=by omega
   subst ei;have hlt':¬(i:Int)<i:=by omega
   have hs:=zx w c;rw[hc] at hs;rw[hs];repeat' (first|simp -implicitDefEqProofs -dsimp only[go_sem,seval, *]|refine fin_eq ?_)
theorem et{v:AV}{σ τ:aB}{o n:Nat}{l:List Int}(h:σ o=some (.vec 1 n (l.map encInt)))(hl:l.length=n)(hv:v= .tup [.vec o n, .int .i64 0])(hs:mS [] τ (aF σ o (.grow 1 n))):
  fin (λr s=>r= .ret (.tup [.slice (l.map encInt) .no, .int .i64 0])/\s=τ) v σ:=by
 subst hv;refine F3 o (sz:=1) (n:=n) (cs:=l.map encInt) (l:=l.map encInt) (v0:= .tup [.slice (l.map encInt) .no, .int .i64 0]) (v1:= .tup [.slice (l.map encInt) .no, .int .i64 0]) (τ:=τ) h (hO l) (by simpa using hl) (F6 l) ?_ (by simp -implicitDefEqProofs -dsimp only[go_sem,seval]) hs ⟨rfl,rfl⟩;refine .tup _ _ rfl ?_;intro a a0 a1;match a,a0 with
 |0,_=>exact .base _ _ ⟨rfl, .inr rfl⟩
 |1,_=>exact .refl _
def t6:Option (List Int)->AV
 |none=> .tup [.slice [] .no, .int .i64 90]
 |some ws=> .tup [.slice (ws.map encInt) .no, .int .i64 0]
theorem zy(g:List Sg)(hg:df g)(e:E)(w:Int)(σ:aB)(hs:shp g e=true)(he:nodes e<=16777216):C_ 199 [encE e, .int .i64 w] σ (t6 (cX e w)) σ:=by
 have h1:=encEs_eq e;have l1:=len_nodes e;have hown:=λτ=>vV g hg e τ hs he;have hns:=bN e;have hfst:=λτ=>CD g hg e.l (λx hx=>aV hs hx) (by omega) τ;have htold:=λτ=>sj (cF (e.l.map own)) 32 τ;have hnd:=d4 hs;clear hs hns;obtain⟨n,hn⟩:∃n,e.l.length=n:=⟨_,rfl⟩;have hrep:=F5 n;have hset:=λv b o τ h2 h3 h4 h5=>Jf v b o n (List.replicate n 0) τ h2 h3 (by simp) (by omega) h4 h5;have vn:t6 none= .tup [.slice [] .no, .int .i64 90]:=rfl;have vs:∀ws,t6 (some ws)= .tup [.slice (ws.map encInt) .no, .int .i64 0]:=λ_=>rfl;refine gO [2,4012] Tryz.func199 (by kernel_rfl) (by conv=>lhs;reduce;dsimp only[iA,iB]) rfl ?_;by_cases hA:e.op=1\/e.op=2\/e.op=3\/e.op=8
 ·have h6:(e.op==6)=false:=by simp;omega
  have h7:(e.op==7)=false:=by simp;omega
  have h4:(e.op==4)=false:=by simp;omega
  have h5:(e.op==5)=false:=by simp;omega
  rw[kj hA,hn];clear hnd hfst htold hset hA;by_cases hw:own e=w
  ·have hb:(own e != w)=false:=by simp[hw]
   rw[if_neg (by omega),vs];rw[hw] at hown;clear hw hb;repeat' (first|simp -implicitDefEqProofs -dsimp only[go_sem,seval, *]|with_reducible refine Zv ?_ ?_|(with_reducible refine Zt λoF hoF hnF hnF'=>?_;try simp only[aa,ne_eq,not_and] at hoF)|refine kc1 (ACalls.flA (hown _) ?_) ?_|omega)
   refine et (l:=List.replicate n 0) ?_ ?_ rfl ?_
   ·simp -implicitDefEqProofs -dsimp only[go_sem,seval, *]
   ·simp
   ·(repeat' simp -implicitDefEqProofs -dsimp only[go_sem,seval, *])
  ·have hb:(own e != w)=true:=by simp[hw]
   rw[if_pos hw,vn];clear hw;repeat' (first|simp -implicitDefEqProofs -dsimp only[go_sem,seval, *]|with_reducible refine Zv ?_ ?_|(with_reducible refine Zt λoF hoF hnF hnF'=>?_;try simp only[aa,ne_eq,not_and] at hoF)|refine kc1 (ACalls.flA (hown _) ?_) ?_|refine fin_eq ?_|with_reducible refine And.intro ?_ ?_|omega)
 by_cases h7:e.op=7
 ·rw[sb h7,hn];clear hnd hfst htold hset hA;by_cases hz:own e=0
  ·rw[if_pos (.inl hz),vn];rw[hz] at hown;clear hz;repeat' (first|simp -implicitDefEqProofs -dsimp only[go_sem,seval, *]|with_reducible refine Zv ?_ ?_|(with_reducible refine Zt λoF hoF hnF hnF'=>?_;try simp only[aa,ne_eq,not_and] at hoF)|refine kc1 (ACalls.flA (hown _) ?_) ?_|refine fin_eq ?_|with_reducible refine And.intro ?_ ?_|omega)
  by_cases hw:own e=w
  ·have hz2:(w==0)=false:=by simp;omega
   rw[hw] at hown hz|-;by_cases h64:64<w
   ·rw[if_pos (.inr (.inr h64)),vn];repeat' (first|simp -implicitDefEqProofs -dsimp only[go_sem,seval,gt_iff_lt, *]|with_reducible refine Zv ?_ ?_|(with_reducible refine Zt λoF hoF hnF hnF'=>?_;try simp only[aa,ne_eq,not_and] at hoF)|refine kc1 (ACalls.flA (hown _) ?_) ?_|refine fin_eq ?_|with_reducible refine And.intro ?_ ?_|omega)
   ·rw[if_neg (by omega),vs];repeat' (first|simp -implicitDefEqProofs -dsimp only[go_sem,seval,gt_iff_lt, *]|with_reducible refine Zv ?_ ?_|(with_reducible refine Zt λoF hoF hnF hnF'=>?_;try simp only[aa,ne_eq,not_and] at hoF)|refine kc1 (ACalls.flA (hown _) ?_) ?_|omega)
    refine et (l:=List.replicate n 0) ?_ ?_ rfl ?_
    ·simp -implicitDefEqProofs -dsimp only[go_sem,seval, *]
    ·simp
    ·(repeat' simp -implicitDefEqProofs -dsimp only[go_sem,seval, *])
  ·have hz2:(own e==0)=false:=by simp[hz]
   have hw2:(own e != w)=true:=by simp[hw]
   rw[if_pos (.inr (.inl hw)),vn];clear hw hz;repeat' (first|simp -implicitDefEqProofs -dsimp only[go_sem,seval, *]|with_reducible refine Zv ?_ ?_|(with_reducible refine Zt λoF hoF hnF hnF'=>?_;try simp only[aa,ne_eq,not_and] at hoF)|refine kc1 (ACalls.flA (hown _) ?_) ?_|refine fin_eq ?_|with_reducible refine And.intro ?_ ?_|omega)
 by_cases h6:e.op=6
 ·have h3:n=3:=by
   cases hnd<;>first|omega|skip
   rename_i hl;rw[hl] at hn;simpa using hn.symm
  rw[sa h6,vs];have hq:(List.replicate n w).set 0 (-1)=[-1,w,w]:=by subst h3;rfl
  have hp:=tZ (List.replicate n w) (-1) (by simp;omega);rw[<-hq];have hn0:(0:Int)<n:=by omega
  have hn1:1<=n:=by omega
  clear hnd hfst htold hown hA hq h3;repeat' (first|simp -implicitDefEqProofs -dsimp only[go_sem,seval, *]|with_reducible refine Zv ?_ ?_|(with_reducible refine Zt λoF hoF hnF hnF'=>?_;try simp only[aa,ne_eq,not_and] at hoF)|omega)
  rename_i ox hox nx1 nx2
  obtain⟨ob,eob⟩:∃x,x=oF:=⟨oF,rfl⟩;subst eob;obtain⟨q1,q2⟩:=hoF;have q3:¬ox=ob:=λe=>q1 e.symm;clear nx1 nx2 hnF hnF';repeat' (first|simp -implicitDefEqProofs -dsimp only[go_sem,seval,List.length_replicate, *]|refine kc1 (hset w ob ox _ ?_ ?_ q1 q3) ?_)
  refine et (l:=(List.replicate n w).set 0 (-1)) ?_ ?_ rfl ?_
  ·simp -implicitDefEqProofs -dsimp only[go_sem,seval, *]
  ·simp
  ·(repeat' simp -implicitDefEqProofs -dsimp only[go_sem,seval, *])
 have hop:e.op=4\/e.op=5:=by cases hnd<;>omega
 have hln:e.op=5->n=2:=λh=>by
  cases hnd<;>first|omega|skip
  rename_i hl _ _;rw[hl] at hn;simpa using hn.symm
 have hun:e.op=4->e.n<=6:=λh=>by cases hnd<;>omega
 rw[gq hop,hn];clear hnd hown hA;by_cases c1:e.n=6\/e.n=25\/e.n=26
 ·rw[if_pos c1];clear hfst htold hln hun;by_cases hw:w=1
  ·rw[if_neg (by omega),vs];have hw2:(w != 1)=false:=by simp[hw]
   clear hw;rcases hop with ho|ho<;>rcases c1 with c|c|c
   all_goals
    repeat' (first|simp -implicitDefEqProofs -dsimp only[go_sem,seval, *]|with_reducible refine Zv ?_ ?_|(with_reducible refine Zt λoF hoF hnF hnF'=>?_;try simp only[aa,ne_eq,not_and] at hoF)|omega)
    rename_i ox hox nx1 nx2
    obtain⟨ob,eob⟩:∃x,x=oF:=⟨oF,rfl⟩;subst eob;obtain⟨q1,q2⟩:=hoF;have q3:¬ox=ob:=λe=>q1 e.symm;clear nx1 nx2 hnF hnF';repeat' (first|simp -implicitDefEqProofs -dsimp only[go_sem,seval, *]|refine kc1 (hset (-1) ob ox _ ?_ ?_ q1 q3) ?_)
    refine et (l:=List.replicate n (-1)) ?_ ?_ rfl ?_
    ·simp -implicitDefEqProofs -dsimp only[go_sem,seval, *]
    ·simp
    ·(repeat' simp -implicitDefEqProofs -dsimp only[go_sem,seval, *])
  ·rw[if_pos hw,vn];have hw2:(w != 1)=true:=by simp[hw]
   clear hw;rcases hop with ho|ho<;>rcases c1 with c|c|c
   all_goals
    repeat' (first|simp -implicitDefEqProofs -dsimp only[go_sem,seval, *]|with_reducible refine Zv ?_ ?_|(with_reducible refine Zt λoF hoF hnF hnF'=>?_;try simp only[aa,ne_eq,not_and] at hoF)|omega)
    rename_i ox hox nx1 nx2
    obtain⟨ob,eob⟩:∃x,x=oF:=⟨oF,rfl⟩;subst eob;obtain⟨q1,q2⟩:=hoF;have q3:¬ox=ob:=λe=>q1 e.symm;clear nx1 nx2 hnF hnF';repeat' (first|simp -implicitDefEqProofs -dsimp only[go_sem,seval, *]|refine kc1 (hset (-1) ob ox _ ?_ ?_ q1 q3) ?_|refine fin_eq ?_)
 by_cases c2:e.n=3\/e.n=4\/e.n=5
 ·rw[if_neg c1,if_pos c2];clear hfst htold hset hln hun c1;by_cases hw:w=1
  ·rw[if_neg (by omega),vs];have hw2:(w != 1)=false:=by simp[hw]
   clear hw;rcases hop with ho|ho<;>rcases c2 with c|c|c
   all_goals
    repeat' (first|simp -implicitDefEqProofs -dsimp only[go_sem,seval, *]|with_reducible refine Zv ?_ ?_|(with_reducible refine Zt λoF hoF hnF hnF'=>?_;try simp only[aa,ne_eq,not_and] at hoF)|omega)
    refine et (l:=List.replicate n 0) ?_ ?_ rfl ?_
    ·simp -implicitDefEqProofs -dsimp only[go_sem,seval, *]
    ·simp
    ·(repeat' simp -implicitDefEqProofs -dsimp only[go_sem,seval, *])
  ·rw[if_pos hw,vn];have hw2:(w != 1)=true:=by simp[hw]
   clear hw;rcases hop with ho|ho<;>rcases c2 with c|c|c
   all_goals
    repeat' (first|simp -implicitDefEqProofs -dsimp only[go_sem,seval, *]|with_reducible refine Zv ?_ ?_|(with_reducible refine Zt λoF hoF hnF hnF'=>?_;try simp only[aa,ne_eq,not_and] at hoF)|refine fin_eq ?_|with_reducible refine And.intro ?_ ?_|omega)
 by_cases c3:19<=e.n/\e.n<=24
 ·rw[if_neg c1,if_neg c2,if_pos c3]
  have ho:e.op=5:=by
   rcases hop with h|h
   ·have:=hun h;omega
   ·exact h
  have c4:e.n=19\/e.n=20\/e.n=21\/e.n=22\/e.n=23\/e.n=24:=by omega
  generalize hF:cF (e.l.map own)=F at hfst htold|-;generalize hK:bK F 32=K at htold|-;clear hop hln hun c1 c2 c3 hF hK;by_cases hw:w=1
  ·rw[if_neg (by omega),vs];have hw2:(w != 1)=false:=by simp[hw]
   clear hw;rcases c4 with c|c|c|c|c|c
   all_goals
    repeat' (first|simp -implicitDefEqProofs -dsimp only[go_sem,seval, *]|with_reducible refine Zv ?_ ?_|(with_reducible refine Zt λoF hoF hnF hnF'=>?_;try simp only[aa,ne_eq,not_and] at hoF)|refine kc1 (hfst _) ?_|refine kc1 (htold _) ?_|omega)
    rename_i ox hox nx1 nx2
    obtain⟨ob,eob⟩:∃x,x=oF:=⟨oF,rfl⟩;subst eob;obtain⟨q1,q2⟩:=hoF;have q3:¬ox=ob:=λe=>q1 e.symm;clear nx1 nx2 hnF hnF';repeat' (first|simp -implicitDefEqProofs -dsimp only[go_sem,seval, *]|refine kc1 (hset K ob ox _ ?_ ?_ q1 q3) ?_)
    refine et (l:=List.replicate n K) ?_ ?_ rfl ?_
    ·simp -implicitDefEqProofs -dsimp only[go_sem,seval, *]
    ·simp
    ·(repeat' simp -implicitDefEqProofs -dsimp only[go_sem,seval, *])
  ·rw[if_pos hw,vn];have hw2:(w != 1)=true:=by simp[hw]
   clear hw;rcases c4 with c|c|c|c|c|c
   all_goals
    repeat' (first|simp -implicitDefEqProofs -dsimp only[go_sem,seval, *]|with_reducible refine Zv ?_ ?_|(with_reducible refine Zt λoF hoF hnF hnF'=>?_;try simp only[aa,ne_eq,not_and] at hoF)|refine fin_eq ?_|with_reducible refine And.intro ?_ ?_|omega)
 by_cases c4:e.n=17\/e.n=18
 ·rw[if_neg c1,if_neg c2,if_neg c3,if_pos c4,vs]
  have ho:e.op=5:=by
   rcases hop with h|h
   ·have:=hun h;omega
   ·exact h
  have hn2:=hln ho;have hq:(List.replicate n (0:Int)).set 0 w=[w,0]:=by subst hn2;rfl
  have hp:=tZ (List.replicate n 0) w (by simp;omega);have hn0:(0:Int)<n:=by omega
  have hn1:1<=n:=by omega
  rw[<-hq];clear hop hln hun c1 c2 c3 hq hn2 hfst htold hset;rcases c4 with c|c
  all_goals
   repeat' (first|simp -implicitDefEqProofs -dsimp only[go_sem,seval,List.length_replicate, *]|with_reducible refine Zv ?_ ?_|(with_reducible refine Zt λoF hoF hnF hnF'=>?_;try simp only[aa,ne_eq,not_and] at hoF)|omega)
   refine et (l:=(List.replicate n 0).set 0 w) ?_ ?_ rfl ?_
   ·simp -implicitDefEqProofs -dsimp only[go_sem,seval, *]
   ·simp
   ·(repeat' simp -implicitDefEqProofs -dsimp only[go_sem,seval, *])
 ·rw[if_neg c1,if_neg c2,if_neg c3,if_neg c4,vs];have e1:(e.n==6)=false:=by simp;omega
  have e2:(e.n==25)=false:=by simp;omega
  have e3:(e.n==26)=false:=by simp;omega
  have e4:(e.n==3)=false:=by simp;omega
  have e5:(e.n==4)=false:=by simp;omega
  have e6:(e.n==5)=false:=by simp;omega
  have e7:(e.n==19)=false:=by simp;omega
  have e8:(e.n==20)=false:=by simp;omega
  have e9:(e.n==21)=false:=by simp;omega
  have e10:(e.n==22)=false:=by simp;omega
  have e11:(e.n==23)=false:=by simp;omega
  have e12:(e.n==24)=false:=by simp;omega
  have e13:(e.n==17)=false:=by simp;omega
  have e14:(e.n==18)=false:=by simp;omega
  clear hln hun c1 c2 c3 c4 hfst htold;rcases hop with ho|ho
  all_goals
   repeat' (first|simp -implicitDefEqProofs -dsimp only[go_sem,seval, *]|with_reducible refine Zv ?_ ?_|(with_reducible refine Zt λoF hoF hnF hnF'=>?_;try simp only[aa,ne_eq,not_and] at hoF)|omega)
   rename_i ox hox nx1 nx2
   obtain⟨ob,eob⟩:∃x,x=oF:=⟨oF,rfl⟩;subst eob;obtain⟨q1,q2⟩:=hoF;have q3:¬ox=ob:=λe=>q1 e.symm;clear nx1 nx2 hnF hnF';repeat' (first|simp -implicitDefEqProofs -dsimp only[go_sem,seval, *]|refine kc1 (hset w ob ox _ ?_ ?_ q1 q3) ?_)
   refine et (l:=List.replicate n w) ?_ ?_ rfl ?_
   ·simp -implicitDefEqProofs -dsimp only[go_sem,seval, *]
   ·simp
   ·(repeat' simp -implicitDefEqProofs -dsimp only[go_sem,seval, *])
end Go.Proofs.YtbbihmmobfmadaaGreat.S
namespace Go.Proofs.YtbbihmmobfmadaaGreat.S
open Abs Fil Fil.Sz
abbrev zN:List AV:=[.int .i64 0, .int .i64 0, .int .u64 0, .int .i64 0, .int .i64 0, .int .i64 0, .int .i64 0, .slice [] .nil]
def pB(X:List E)(k:Nat):List AV:=flat (X.map encE)++(List.replicate k zN).flatten
theorem CE(X:List E)(x:E)(k:Nat):List.take (X.length*8) (pB X (k+1))++eL x++List.drop (X.length*8+8) (pB X (k+1))=pB (X++[x]) k:=by
 have hl:(flat (X.map encE)).length=X.length*8:=iL encE 8 (λ_=>rfl) X;unfold pB;rw[List.replicate_succ,List.flatten_cons];have e1:List.take (X.length*8) (flat (X.map encE)++(zN++(List.replicate k zN).flatten))=flat (X.map encE):=by rw[<-hl];simp
 have e2:List.drop (X.length*8+8) (flat (X.map encE)++(zN++(List.replicate k zN).flatten))=(List.replicate k zN).flatten:=by
  rw[<-hl,<-List.drop_drop,List.drop_left];rfl
 rw[e1,e2,List.map_append,fq];simp only[List.append_assoc];rfl
theorem zz(n:Nat):pB [] n=(List.replicate n zN).flatten:=rfl
theorem CF(X:List E):pB X 0=flat (X.map encE):=by simp[pB]
theorem CG(X:List E)(k:Nat):(pB X k).length=(X.length+k)*8:=by
 have hl:(flat (X.map encE)).length=X.length*8:=iL encE 8 (λ_=>rfl) X
 have h2:∀k,((List.replicate k zN).flatten).length=k*8:=λk=>by
  induction k with
  |zero=>rfl
  |succ k ih=>rw[List.replicate_succ,List.flatten_cons,List.length_append,ih,Nat.succ_mul];simp;omega
 unfold pB;rw[List.length_append,hl,h2];omega
theorem t7:∀(X:List E),eU true 8 X.length (flat (X.map encE))=some (X.map encE)
 |[]=>rfl
 |x::X=>by
  have ih:=t7 X;simp only[List.length_cons,List.map_cons,c8,eU];have e1:List.take 8 (aD (encE x)++flat (X.map encE))=eL x:=rfl;have e2:List.drop 8 (aD (encE x)++flat (X.map encE))=flat (X.map encE):=rfl;rw[e1,e2,ih];rfl
theorem aL:encE zE= .agg [.int .i64 0, .int .i64 0, .int .u64 0, .int .i64 0, .int .i64 0, .int .i64 0, .int .i64 0, .slice [] .no]:=by
 have e:jj zE=[]:=by rw[encEs_eq];rfl
 simp only[encE,eL,e];rfl
theorem t8(w v:Int):encE (.mk 1 w v 0 0 0 0 [])= .agg [.int .i64 1, .int .i64 w, .int .u64 v, .int .i64 0, .int .i64 0, .int .i64 0, .int .i64 0, .slice [] .no]:=by
 have e:jj (.mk 1 w v 0 0 0 0 [])=[]:=by rw[encEs_eq];rfl
 simp only[encE,eL,e];rfl
theorem cQ(e:E)(w:Int)(X:List E):encE (e.set w X)= .agg [.int .i64 e.op, .int .i64 w, .int .u64 e.v, .int .i64 e.sig, .int .i64 e.hi, .int .i64 e.lo, .int .i64 e.n, .slice (X.map encE) .no]:=by
 have h:jj (e.set w X)=X.map encE:=by rw[encEs_eq];rfl
 simp only[encE,eL,h];rfl
theorem xm(g:List Sg)(hg:df g)(e:E):∀(w:Int) (σ:aB),shp g e=true->nodes e<=16777216->WfE e-> -1<=w->C_ 142 [encE e, .int .i64 w] σ (.tup [encE (size e w).1, .int .i64 (size e w).2]) σ:=by
 refine E.ind (P:=λe=>∀(w:Int) (σ:aB),shp g e=true->nodes e<=16777216->WfE e-> -1<=w->C_ 142 [encE e, .int .i64 w] σ (.tup [encE (size e w).1, .int .i64 (size e w).2]) σ) (λe ih w σ hs he hw h0=>?_) e;have h1:=encEs_eq e;have l1:=len_nodes e;have hown:=λτ=>vV g hg e τ hs he;have hwp:=lh (bL hg e hs) h0;have ht1:=λτ=>sj (own e) 32 τ;have ht2:=λw τ=>sj w (bK (own e) 32) τ;have hwd:wide e w=bK (if w= -1 then 1 else w) (bK (own e) 32):=rfl;have hwant:=λτ=>zy g hg e (wide e w) τ hs he;have hv64:=((WfE_iff e).1 hw).1.2.2.1;have hh:=λτ h=>lw (wide e w) e.v τ h hv64;have hsub:=fun(x:E) (hx:x∈e.l) w τ h=>ih x hx w τ (aV hs hx) (by have:=part_nodes hx;omega) (((WfE_iff e).1 hw).2 x hx) h;clear ih hw;refine gO [4055,7113] Tryz.func142 (by kernel_rfl) (by conv=>lhs;reduce;dsimp only[iA,iB]) rfl ?_;by_cases hbit:w= -1/\1<own e
 ·obtain⟨rfl,hb⟩:=hbit;rw[pi hb,aL];clear hsub hh hwant ht1 ht2;repeat' (first|simp(maxDischargeDepth:=9) -implicitDefEqProofs -dsimp only[go_sem,seval,gt_iff_lt, *]|simp(disch:=omega) only[ah,aj,ao,aA,au,ag,az,aq]|(with_reducible refine Zt λoF hoF hnF hnF'=>?_;try simp only[aa,ne_eq,not_and] at hoF)|with_reducible refine kc1 (ACalls.flA (hown _) ?_) ?_|refine fin_eq ?_)
 have hhead:∃w',w'=(if w= -1 then 1 else w):=⟨_,rfl⟩;obtain⟨w',hw'⟩:=hhead;rw[<-hw'] at hwd;obtain⟨W,hW⟩:∃W,wide e w=W:=⟨_,rfl⟩;obtain⟨o,ho⟩:∃o,own e=o:=⟨_,rfl⟩;obtain⟨t1,ht1'⟩:∃t,bK o 32=t:=⟨_,rfl⟩;rw[ho,ht1',hW] at hwd;rw[ho] at hown;rw[ho,ht1'] at ht1 ht2;have hw2:bK w' t1=W:=hwd.symm
 have hcase:(w= -1/\w'=1/\¬1<o)\/((w== -1)=false/\w'=w):=by
  by_cases hm1:w= -1
  ·exact .inl ⟨hm1,by rw[hw',if_pos hm1],λh=>hbit ⟨hm1,by rw[ho];exact h⟩⟩
  ·exact .inr ⟨by simp[hm1],by rw[hw',if_neg hm1]⟩
 rw[hW] at hh hwant hwp;clear hw' hwd ht1';by_cases hnum:e.op=1/\e.w=0
 ·rw[tN hbit hnum.1 hnum.2,hW];obtain⟨n1,n2⟩:=hnum;generalize hb:holds W e.v=b at hh|-;clear hsub hwant hb hbit hW ho;cases b
  ·rw[if_neg (by simp),aL];rcases hcase with ⟨rfl,rfl,h3⟩|⟨h3,rfl⟩
   all_goals
    repeat' (first|simp(maxDischargeDepth:=9) -implicitDefEqProofs -dsimp only[go_sem,seval,gt_iff_lt, *]|simp(disch:=omega) only[ah,aj,ao,aA,au,ag,az,aq]|(with_reducible refine Zt λoF hoF hnF hnF'=>?_;try simp only[aa,ne_eq,not_and] at hoF)|with_reducible refine kc1 (ht1 _) ?_|with_reducible refine kc1 (ht2 _ _) ?_|with_reducible refine kc1 (hh _ ?_) ?_|with_reducible refine kc1 (ACalls.flA (hown _) ?_) ?_|refine fin_eq ?_|omega)
  ·rw[if_pos rfl,t8];rcases hcase with ⟨rfl,rfl,h3⟩|⟨h3,rfl⟩
   all_goals
    repeat' (first|simp(maxDischargeDepth:=9) -implicitDefEqProofs -dsimp only[go_sem,seval,gt_iff_lt, *]|simp(disch:=omega) only[ah,aj,ao,aA,au,ag,az,aq]|(with_reducible refine Zt λoF hoF hnF hnF'=>?_;try simp only[aa,ne_eq,not_and] at hoF)|with_reducible refine kc1 (ht1 _) ?_|with_reducible refine kc1 (ht2 _ _) ?_|with_reducible refine kc1 (hh _ ?_) ?_|with_reducible refine kc1 (ACalls.flA (hown _) ?_) ?_|refine fin_eq ?_|omega)
 ·have hp:((e.op==1)=true/\(e.w==0)=false)\/(e.op==1)=false:=by
   by_cases h:e.op=1
   ·exact .inl ⟨by simp[h],by simp;omega⟩
   ·exact .inr (by simp[h])
  cases hws:cX e W with
  |none=>
   rw[qQ hbit hnum (by rw[hW];exact hws),aL];rw[hws] at hwant;have vn:t6 none= .tup [.slice [] .no, .int .i64 90]:=rfl;rw[vn] at hwant;clear hsub hh hbit hW ho hws vn hnum;rcases hp with ⟨p1,p2⟩|p1<;>rcases hcase with ⟨rfl,rfl,h3⟩|⟨h3,rfl⟩
   all_goals
    repeat' (first|simp(maxDischargeDepth:=9) -implicitDefEqProofs -dsimp only[go_sem,seval,gt_iff_lt, *]|simp(disch:=omega) only[ah,aj,ao,aA,au,ag,az,aq]|(with_reducible refine Zt λoF hoF hnF hnF'=>?_;try simp only[aa,ne_eq,not_and] at hoF)|with_reducible refine kc1 (ht1 _) ?_|with_reducible refine kc1 (ht2 _ _) ?_|with_reducible refine kc1 (ACalls.flA (hown _) ?_) ?_|with_reducible refine kc1 (ACalls.flA (hwant _) ?_) ?_|refine fin_eq ?_)
  |some ws=>
   have hsz:=mg hbit hnum (by rw[hW];exact hws);have hwt:=li hs hws;have hwl:=me hs hwt;have hge:=xe hg hs hwp hwt;rw[hws] at hwant;have vs:t6 (some ws)= .tup [.slice (ws.map encInt) .no, .int .i64 0]:=rfl;rw[vs] at hwant
   have hext1:e.op=8->e.l.length=1:=λh=>by
    cases d4 hs<;>first|omega|skip
    rename_i hl _ _ _ _;rw[hl];rfl
   have kE:∀i,(h1:i<e.l.length)->(h2:i<ws.length)->(∀j,(h3:j<e.l.length)->(h4:j<ws.length)->j<i->(size e.l[j] ws[j]).2=0)->(size e.l[i] ws[i]).2≠0->size e w=(zE,(size e.l[i] ws[i]).2):=λi h1 h2 h3 h4=>by
    rw[hsz,ph h1 h2 (λj hj=>h3 j (by omega) (by omega) hj) h4,iS,if_pos h4]
   have kA:=λh=>tM (l:=e.l) (ws:=ws) hwl h
   have kO:(∀j,(h3:j<e.l.length)->(h4:j<ws.length)->(size e.l[j] ws[j]).2=0)->¬(e.op=8/\(e.n=33/\dG (di e.l ws e.l.length)<W\/e.n≠33/\W<dG (di e.l ws e.l.length)))->size e w=(e.set W (di e.l ws e.l.length),0):=λh h2=>by
    rw[hsz,kA h,iS,if_neg (by simp),hW,if_neg h2]
   have kB:(∀j,(h3:j<e.l.length)->(h4:j<ws.length)->(size e.l[j] ws[j]).2=0)->(e.op=8/\(e.n=33/\dG (di e.l ws e.l.length)<W\/e.n≠33/\W<dG (di e.l ws e.l.length)))->size e w=(zE,90):=λh h2=>by
    rw[hsz,kA h,iS,if_neg (by simp),hW,if_pos h2]
   have kr:=λi hi=>mf (l:=e.l) (ws:=ws) hwl (i:=i) hi;have ks:=λi h1 h2=>pg (l:=e.l) (ws:=ws) (i:=i) h1 h2;generalize hR:size e w=R at kE kO kB|-;have hn1:e.l.length<=16777216:=by omega
   have hrz:=zz e.l.length;clear hh hbit hws vs hnum hwt he hs ho hR hsz kA hW;rcases hp with ⟨p1,p2⟩|p1<;>rcases hcase with ⟨rfl,rfl,h3⟩|⟨h3,rfl⟩
   all_goals
    repeat' (first|simp(maxDischargeDepth:=9) -implicitDefEqProofs -dsimp only[go_sem,seval, *]|(with_reducible refine Zt λoF hoF hnF hnF'=>?_;try simp only[aa,ne_eq,not_and] at hoF))
    rename_i o2 ho2 nx1 nx2
    obtain⟨o4,e4⟩:∃x,x=oF:=⟨oF,rfl⟩;subst e4;obtain⟨a1,ho4⟩:=hoF;have a2:¬o2=o4:=λe=>a1 e.symm;clear nx1 nx2 hnF hnF';repeat' (first|simp(maxDischargeDepth:=9) -implicitDefEqProofs -dsimp only[go_sem,seval,gt_iff_lt, *]|with_reducible refine Zv ?_ ?_|(with_reducible refine Zt λoF hoF hnF hnF'=>?_;try simp only[aa,ne_eq,not_and] at hoF)|with_reducible refine kc1 (ht1 _) ?_|with_reducible refine kc1 (ht2 _ _) ?_|with_reducible refine kc1 (ACalls.flA (hown _) ?_) ?_|with_reducible refine kc1 (ACalls.flA (hwant _) ?_) ?_|omega)
    obtain⟨o8,e8⟩:∃x,x=oF:=⟨oF,rfl⟩;subst e8;obtain⟨a3,a4,ho8⟩:=hoF;have a5:¬o4=o8:=λe=>a3 e.symm;have a6:¬o2=o8:=λe=>a4 e.symm;clear hnF hnF' hown ht1 ht2 hwant h3 hw2
    refine ar (λi:Nat=>[(59,some (.int .i64 i)),(58,some (.int .i64 e.l.length)),(57,some (.slice (e.l.map encE) .no)),(6,some (.slice (ws.map encInt) .no)),(4,some (.ptr o4 0)),(8,some (.vec o8 e.l.length)),(2,some (.ptr o2 0)),(1,some (.int .i64 W))])
     (λi=>aF (aF (aF σ o2 (.cells [.int .i64 e.op, .int .i64 e.w, .int .u64 e.v, .int .i64 e.sig, .int .i64 e.hi, .int .i64 e.lo, .int .i64 e.n, .slice (e.l.map encE) .no])) o4 (.cells zN)) o8 (.vec 8 e.l.length (pB (di e.l ws i) (e.l.length-i))))
     (λi=>i<=e.l.length/\∀j,(h3:j<e.l.length)->(h4:j<ws.length)->j<i->(size e.l[j] ws[j]).2=0) (λi=>e.l.length-i) 0 ?_ ?_
    ·have e0:di e.l ws 0=[]:=by simp[di]
     clear kE kO kB kr ks hge hext1 hsub;(repeat' (first|simp(maxDischargeDepth:=9) -implicitDefEqProofs -dsimp only[go_sem,seval,Nat.sub_zero, *]|with_reducible refine And.intro ?_ ?_|omega))
    ·rintro i ⟨hi,hok⟩;by_cases hlt:i<e.l.length
     ·have hlt2:i<ws.length:=by omega
      have hc:=λτ=>hsub e.l[i] (List.getElem_mem hlt) ws[i] τ (hge _ (List.getElem_mem hlt2));have kEi:=kE i hlt hlt2 hok;have ksi:=ks i hlt hlt2;have kri:=kr i (by omega)
      have hstep:(size e.l[i] ws[i]).2=0->∀j,(h3:j<e.l.length)->(h4:j<ws.length)->j<i+1->(size e.l[j] ws[j]).2=0:=λh j h3 h4 h5=>by
       rcases Nat.lt_or_ge j i with q|q
       ·exact hok j h3 h4 q
       ·obtain rfl:j=i:=by omega
        exact h
      obtain⟨⟨x,f⟩,hxf⟩:∃r,size e.l[i] ws[i]=r:=⟨_,rfl⟩;rw[hxf] at hc kEi ksi hstep;simp only at hc kEi ksi hstep;clear kE kO kB kr ks hge hext1 hsub hok hxf;obtain⟨k,hk⟩:∃k,e.l.length-i=k+1:=⟨e.l.length-i-1,by omega⟩;have hk2:e.l.length-(i+1)=k:=by omega
      have hput:=CE (di e.l ws i) x k;rw[kri,<-ksi] at hput;generalize hX:di e.l ws i=X at kri ksi hput|-;rw[hk];by_cases hf:f=0
      ·subst hf;have hn:=hstep rfl;have hrl:i*8+8<=(pB X (k+1)).length:=by rw[CG];omega
       clear kEi hstep hX;repeat' (first|simp(maxDischargeDepth:=9) -implicitDefEqProofs -dsimp only[go_sem,seval, *]|simp(disch:=omega) only[ah,aj,ao,aA,au,ag,az,aq]|with_reducible refine Zu ?_ ?_|(with_reducible refine Zt λoF hoF hnF hnF'=>?_;try simp only[aa,ne_eq,not_and] at hoF)|with_reducible refine id_one0 (λtS hS=>hc _) trivial ?_|with_reducible refine lnx (i+1) ?_|with_reducible refine And.intro ?_ ?_|omega)
       exact λj h3 h4 h5=>hn j h3 (by omega) h5
      ·have hfb:(f != 0)=true:=by simpa using hf
       have hv:=kEi hf;clear kEi hstep hX hf;rw[hv,aL];repeat' (first|simp(maxDischargeDepth:=9) -implicitDefEqProofs -dsimp only[go_sem,seval, *]|simp(disch:=omega) only[ah,aj,ao,aA,au,ag,az,aq]|with_reducible refine Zu ?_ ?_|(with_reducible refine Zt λoF hoF hnF hnF'=>?_;try simp only[aa,ne_eq,not_and] at hoF)|with_reducible refine id_one0 (λtS hS=>hc _) trivial ?_|refine fin_eq ?_)
     ·have ei:i=e.l.length:=by omega
      subst ei;have hall:=λj h3 h4=>hok j h3 h4 h3;have kO':=kO hall;have kB':=kB hall;have hXl:=kr e.l.length (Nat.le_refl _);generalize hX:di e.l ws e.l.length=X at kO' kB' hXl|-;rw[Nat.sub_self,CF];have hun:=t7 X;rw[hXl] at hun;clear kE kO kB kr ks hge hsub hok hall hX hrz;by_cases h8:e.op=8
      ·have hl1:=hext1 h8;rw[hl1] at hXl;obtain⟨x,rfl⟩:=len1 hXl;have hfx:flat ([x].map encE)=eL x:=rfl;have hpx:dG [x]=x.w:=rfl;have hmx:[x].map encE=[encE x]:=rfl;rw[hfx,hmx,hl1] at hun;rw[hfx];rw[hpx] at kO' kB';clear hext1 hfx hpx hXl;by_cases hbad:e.n=33/\x.w<W\/e.n≠33/\W<x.w
       ·rw[kB' ⟨h8,hbad⟩,aL];clear kO' kB';repeat' (first|simp(maxDischargeDepth:=9) -implicitDefEqProofs -dsimp only[go_sem,seval,gt_iff_lt, *]|simp(disch:=omega) only[ah,aj,ao,aA,au,ag,az,aq]|(with_reducible (first|apply Za|apply Zb|apply Zc|apply Zd|apply Ze|apply Zf|apply Zg|apply Zh|apply Zi|apply Zj|apply Zk|apply Zl|apply Zm|apply Zn|apply Zo|apply Zp|apply Zq|apply Zr|apply Zs)<;>intro hq)|with_reducible refine Zv ?_ ?_|omega)
        all_goals first|(exfalso;omega)|skip
        all_goals
         refine fin_eq ?_;(repeat' simp(maxDischargeDepth:=9) -implicitDefEqProofs -dsimp only[go_sem,seval, *])
       ·rw[kO' λh=>hbad h.2,cQ,hmx];clear kO' kB';repeat' (first|simp(maxDischargeDepth:=9) -implicitDefEqProofs -dsimp only[go_sem,seval,gt_iff_lt,imp_self, *]|simp(disch:=omega) only[ah,aj,ao,aA,au,ag,az,aq]|(with_reducible (first|apply Za|apply Zb|apply Zc|apply Zd|apply Ze|apply Zf|apply Zg|apply Zh|apply Zi|apply Zj|apply Zk|apply Zl|apply Zm|apply Zn|apply Zo|apply Zp|apply Zq|apply Zr|apply Zs)<;>intro hq)|omega)
        all_goals first|(exfalso;omega)|skip
        all_goals
         refine fin_eq ?_;(repeat' simp(maxDischargeDepth:=9) -implicitDefEqProofs -dsimp only[go_sem,seval, *])
      ·have hb8:(e.op==8)=false:=by simp[h8]
       rw[kO' λh=>h8 h.1,cQ];clear kO' kB' hext1;repeat' (first|simp(maxDischargeDepth:=9) -implicitDefEqProofs -dsimp only[go_sem,seval,imp_self, *]|simp(disch:=omega) only[ah,aj,ao,aA,au,ag,az,aq]|refine fin_eq ?_)
end Go.Proofs.YtbbihmmobfmadaaGreat.S
namespace Go.Proofs.YtbbihmmobfmadaaGreat.S
open Abs Fil Fil.Sz
theorem qW{d:Flat}{e:E}{w:Int}(h:ct d.sigs=false\/w<0\/64<w\/shp d.sigs e=false):cY d e w=(zE,1):=by unfold cY;rw[if_pos h]
theorem pC{d:Flat}{e:E}{w:Int}(h:¬(ct d.sigs=false\/w<0\/64<w\/shp d.sigs e=false))(h2:65536<nodes e\/64<deep e):cY d e w=(zE,2):=by unfold cY;rw[if_neg h,if_pos h2]
theorem ua{d:Flat}{e:E}{w:Int}(h:¬(ct d.sigs=false\/w<0\/64<w\/shp d.sigs e=false))(h2:¬(65536<nodes e\/64<deep e)):cY d e w=size e w:=by unfold cY;rw[if_neg h,if_neg h2]
theorem F7(d:Flat)(e:E)(w:Int)(σ:aB)(hd:d.sigs.length<=1000000000000)(he:nodes e<=16777216)(hw:WfE e):C_ 71 [encD d,encE e, .int .i64 w] σ (.tup [encE (cY d e w).1, .int .i64 (cY d e w).2]) σ:=by
 have h1:=encEs_eq e;have c1:=λτ=>pw d.sigs τ hd;have c2:=λτ=>lx d.sigs hd e τ he hw;have c3:=λτ=>mj e τ he;have c4:=λτ=>tX (nodes e) (deep e) τ;have c5:=fun(h:df d.sigs) (h2:shp d.sigs e=true) τ h0=>xm d.sigs h e w τ h2 he hw h0;have hso:=fe (l:=d.sigs);have k1:=qW (d:=d) (e:=e) (w:=w);have k2:=pC (d:=d) (e:=e) (w:=w);have k3:=ua (d:=d) (e:=e) (w:=w);generalize hR:cY d e w=R at k1 k2 k3|-;clear hR;refine gO [3,4] Tryz.func71 (by kernel_rfl) (by conv=>lhs;reduce;dsimp only[iA]) rfl ?_;obtain⟨a,ha⟩:∃a,ct d.sigs=a:=⟨_,rfl⟩;obtain⟨b,hb⟩:∃a,shp d.sigs e=a:=⟨_,rfl⟩;rw[ha] at c1 k1 k2 k3 hso;rw[hb] at c2 k1 k2 k3 c5;clear ha hb;cases a
 ·rw[k1 (.inl rfl),aL];clear k1 k2 k3 c5;repeat' (first|simp -implicitDefEqProofs -dsimp only[go_sem,seval, *]|simp(disch:=omega) only[ah,aj,ao,aA,au,ag,az,aq]|(with_reducible refine Zt λoF hoF hnF hnF'=>?_;try simp only[aa,ne_eq,not_and] at hoF)|with_reducible refine kc1 (c1 _) ?_|refine fin_eq ?_)
 by_cases w0:w<0
 ·rw[k1 (.inr (.inl w0)),aL];clear k1 k2 k3 c5;repeat' (first|simp -implicitDefEqProofs -dsimp only[go_sem,seval, *]|simp(disch:=omega) only[ah,aj,ao,aA,au,ag,az,aq]|(with_reducible refine Zt λoF hoF hnF hnF'=>?_;try simp only[aa,ne_eq,not_and] at hoF)|with_reducible refine kc1 (c1 _) ?_|refine fin_eq ?_)
 by_cases w1:64<w
 ·rw[k1 (.inr (.inr (.inl w1))),aL];clear k1 k2 k3 c5;repeat' (first|simp -implicitDefEqProofs -dsimp only[go_sem,seval,gt_iff_lt, *]|simp(disch:=omega) only[ah,aj,ao,aA,au,ag,az,aq]|(with_reducible refine Zt λoF hoF hnF hnF'=>?_;try simp only[aa,ne_eq,not_and] at hoF)|with_reducible refine kc1 (c1 _) ?_|refine fin_eq ?_)
 cases b
 ·rw[k1 (.inr (.inr (.inr rfl))),aL];clear k1 k2 k3 c5;repeat' (first|simp -implicitDefEqProofs -dsimp only[go_sem,seval,gt_iff_lt, *]|simp(disch:=omega) only[ah,aj,ao,aA,au,ag,az,aq]|(with_reducible refine Zt λoF hoF hnF hnF'=>?_;try simp only[aa,ne_eq,not_and] at hoF)|with_reducible refine kc1 (c1 _) ?_|with_reducible refine kc1 (ACalls.flA (c2 _) ?_) ?_|refine fin_eq ?_)
 have hbad:¬(true=false\/w<0\/64<w\/true=false):=by simp;omega
 by_cases hm:65536<nodes e\/64<deep e
 ·rw[k2 hbad hm,aL]
  have hf:(decide ((nodes e:Int)<=65536)&&decide ((deep e:Int)<=64))=false:=by
   rw[Bool.and_eq_false_iff,decide_eq_false_iff_not,decide_eq_false_iff_not];omega
  rw[hf] at c4;clear k1 k2 k3 c5 hf hbad;repeat' (first|simp -implicitDefEqProofs -dsimp only[go_sem,seval,gt_iff_lt, *]|simp(disch:=omega) only[ah,aj,ao,aA,au,ag,az,aq]|(with_reducible refine Zt λoF hoF hnF hnF'=>?_;try simp only[aa,ne_eq,not_and] at hoF)|with_reducible refine kc1 (c1 _) ?_|with_reducible refine kc1 (c4 _) ?_|with_reducible refine kc1 (ACalls.flA (c2 _) ?_) ?_|with_reducible refine kc1 (ACalls.flA (c3 _) ?_) ?_|refine fin_eq ?_)
 ·rw[k3 hbad hm]
  have hf:(decide ((nodes e:Int)<=65536)&&decide ((deep e:Int)<=64))=true:=by
   rw[Bool.and_eq_true,decide_eq_true_eq,decide_eq_true_eq];omega
  rw[hf] at c4;replace c5:=λτ=>c5 (hso rfl) rfl τ (by omega);obtain⟨⟨x,f⟩,hxf⟩:∃R,size e w=R:=⟨_,rfl⟩;rw[hxf] at c5|-;clear k1 k2 k3 hf hbad hxf;repeat' (first|simp -implicitDefEqProofs -dsimp only[go_sem,seval,gt_iff_lt, *]|simp(disch:=omega) only[ah,aj,ao,aA,au,ag,az,aq]|(with_reducible refine Zt λoF hoF hnF hnF'=>?_;try simp only[aa,ne_eq,not_and] at hoF)|with_reducible refine kc1 (c1 _) ?_|with_reducible refine kc1 (c4 _) ?_|with_reducible refine kc1 (ACalls.flA (c2 _) ?_) ?_|with_reducible refine kc1 (ACalls.flA (c3 _) ?_) ?_|with_reducible refine kc1 (ACalls.flA (c5 _) ?_) ?_|refine fin_eq ?_)
theorem mN(d:Flat)(e:E)(w:Int):nodes (cY d e w).1<=nodes e:=by
 have hz:nodes zE<=nodes e:=by
  have h1:=ii e;have:nodes zE=1:=by rw[bN];rfl
  omega
 unfold cY;split
 ·exact hz
 rename_i h
 split
 ·exact hz
 rename_i h2
 have hs:shp d.sigs e=true:=by
  cases q:shp d.sigs e with
  |true=>rfl
  |false=>exact(h (.inr (.inr (.inr q)))).elim
 have hg:ct d.sigs=true:=by
  cases q:ct d.sigs with
  |true=>rfl
  |false=>exact(h (.inl q)).elim
 by_cases hf:(size e w).2=0
 ·have:=fY (fe hg) e w (size e w).1 hs (by omega) (by rw[<-hf])
  rw[this.nodes];exact Nat.le_refl _
 ·have:(size e w).1=zE:=by
   rw[fj] at hf|-;split
   ·rfl
   rename_i q1
   rw[if_neg q1] at hf;split
   ·rename_i q2
    rw[if_pos q2] at hf;split
    ·rename_i q3;rw[if_pos q3] at hf;simp at hf
    ·rfl
   ·rename_i q2
    rw[if_neg q2] at hf;split
    ·rfl
    ·rename_i ws hws
     rw[hws] at hf;simp only[iS] at hf|-;split
     ·rfl
     rename_i q3
     rw[if_neg q3] at hf;split
     ·rfl
     ·rename_i q4;rw[if_neg q4] at hf;simp at hf
  rw[this];exact hz
open Classical in
theorem sz_CheckE(d:Flat)(e:E)(σ:aB)(hd:d.sigs.length<=1000000000000)(he:nodes e<=16777216)(hw:WfE e):C_ 35 [encD d,encE e] σ (.int .i64 (checkE d e)) σ:=by
 have h1:=encEs_eq e;have c1:=λτ=>F7 d e e.w τ hd he hw;have hn:=mN d e e.w;have hc:checkE d e=if (cY d e e.w).2=0/\(e.w=0\/¬(cY d e e.w).1=e) then 90 else (cY d e e.w).2:=rfl
 obtain⟨⟨x,f⟩,hR⟩:∃R,cY d e e.w=R:=⟨_,rfl⟩;rw[hR] at c1 hn hc;simp only at c1 hn hc;have c2:=λτ=>lr x e τ (by omega) he;refine gO [2,3] Tryz.func35 (by kernel_rfl) (by conv=>lhs;reduce;dsimp only[iA]) rfl ?_;generalize hC:checkE d e=C at hc|-;generalize hs:same x e=s at c2;clear hR hC hw he hn;by_cases hf:f=0
 ·by_cases he:e.w=0
  ·rw[if_pos ⟨hf, .inl he⟩] at hc;clear hs;repeat' (first|simp -implicitDefEqProofs -dsimp only[go_sem,seval, *]|(with_reducible refine Zt λoF hoF hnF hnF'=>?_;try simp only[aa,ne_eq,not_and] at hoF)|with_reducible refine kc1 (ACalls.flA (c1 _) ?_) ?_|refine fin_eq ?_)
  ·have hb:(e.w==0)=false:=by simpa using he
   cases s
   ·rw[if_pos ⟨hf, .inr (fc.1 hs)⟩] at hc;clear hs he;repeat' (first|simp -implicitDefEqProofs -dsimp only[go_sem,seval, *]|(with_reducible refine Zt λoF hoF hnF hnF'=>?_;try simp only[aa,ne_eq,not_and] at hoF)|with_reducible refine kc1 (ACalls.flA (c1 _) ?_) ?_|with_reducible refine kc1 (ACalls.flA (c2 _) ?_) ?_|refine fin_eq ?_)
   ·rw[if_neg (λh=>by rcases h.2 with q|q;exact he q;exact q (d7.1 hs))] at hc
    clear hs he;repeat' (first|simp -implicitDefEqProofs -dsimp only[go_sem,seval, *]|(with_reducible refine Zt λoF hoF hnF hnF'=>?_;try simp only[aa,ne_eq,not_and] at hoF)|with_reducible refine kc1 (ACalls.flA (c1 _) ?_) ?_|with_reducible refine kc1 (ACalls.flA (c2 _) ?_) ?_|refine fin_eq ?_)
 ·have hb:(f==0)=false:=by simpa using hf
  rw[if_neg (λh=>hf h.1)] at hc;clear hs hf;repeat' (first|simp -implicitDefEqProofs -dsimp only[go_sem,seval, *]|(with_reducible refine Zt λoF hoF hnF hnF'=>?_;try simp only[aa,ne_eq,not_and] at hoF)|with_reducible refine kc1 (ACalls.flA (c1 _) ?_) ?_|refine fin_eq ?_)
end Go.Proofs.YtbbihmmobfmadaaGreat.S
namespace Go.Proofs.YtbbihmmobfmadaaGreat.S
open Abs Fil Fil.Sz
def bM(x:E)(ws:List Int):E×Int:=if (aQ (x.l.map size) ws).2≠0 then (zE,(aQ (x.l.map size) ws).2) else (x.set x.w (aQ (x.l.map size) ws).1,0)
theorem ub{e:E}(h:¬1<own e):size e (-1)=size e 1:=by
 rw[fj e (-1),fj e 1];have h1:wide e (-1)=1:=eM e;have h2:wide e 1=1:=bQ (by omega) (by omega);unfold iS;rw[h1,h2,if_neg (λq:(-1:Int)= -1/\1<own e=>h q.2),if_neg (λq:(1:Int)= -1/\1<own e=>by omega)]
theorem pZ(x:E)(ws:List Int)(σ:aB)(hn:x.l.length<=16777216)(hwl:ws.length=x.l.length)(hge:∀v∈ws,-1<=v)
  (hown:∀p∈x.l,∀τ,C_ 205 [encE p] τ (.int .i64 (own p)) τ)
  (ih:∀p∈x.l,∀w τ,0<=w->C_ 155 [encE p, .int .i64 w] τ (.tup [encE (size p w).1, .int .i64 (size p w).2]) τ):
  C_ 209 [encE x, .slice (ws.map encInt) .no] σ (.tup [encE (bM x ws).1, .int .i64 (bM x ws).2]) σ:=by
 have h1:=encEs_eq x
 have kE:∀i,(h1:i<x.l.length)->(h2:i<ws.length)->(∀j,(h3:j<x.l.length)->(h4:j<ws.length)->j<i->(size x.l[j] ws[j]).2=0)->(size x.l[i] ws[i]).2≠0->bM x ws=(zE,(size x.l[i] ws[i]).2):=λi h1 h2 h3 h4=>by
  unfold bM;rw[ph h1 h2 (λj hj=>h3 j (by omega) (by omega) hj) h4,if_pos h4]
 have kO:(∀j,(h3:j<x.l.length)->(h4:j<ws.length)->(size x.l[j] ws[j]).2=0)->bM x ws=(x.set x.w (di x.l ws x.l.length),0):=λh=>by
  unfold bM;rw[tM hwl h,if_neg (by simp)]
 have kr:=λi hi=>mf (l:=x.l) (ws:=ws) hwl (i:=i) hi;have ks:=λi h1 h2=>pg (l:=x.l) (ws:=ws) (i:=i) h1 h2;generalize hR:bM x ws=R at kE kO|-;clear hR;refine ACalls.virt (by kernel_rfl) 8 (λoV1 hoV1 hnV1 hnV1'=>?_);(try simp only[aa,ne_eq,not_and] at hoV1);refine gO [] Tryz.func209 (by kernel_rfl) (by conv=>lhs;reduce;dsimp only[iA]) rfl ?_;repeat' (first|simp(maxDischargeDepth:=9) -implicitDefEqProofs -dsimp only[go_sem,seval, *]|(with_reducible refine Zt λoF hoF hnF hnF'=>?_;try simp only[aa,ne_eq,not_and] at hoF))
 rename_i o2 nx1 nx2 ho2
 obtain⟨o4,e4⟩:∃x,x=oF:=⟨oF,rfl⟩;subst e4;obtain⟨a0,ho2⟩:=ho2;obtain⟨a1,a2,ho4⟩:=hoF;have b0:¬oV1=o2:=λe=>a0 e.symm;have b1:¬o2=o4:=λe=>a1 e.symm;have b2:¬oV1=o4:=λe=>a2 e.symm;clear nx1 nx2 hnF hnF' hnV1 hnV1'
 refine ar (λi:Nat=>[(7,some (.int .i64 i)),(2,some (.ptr o2 0)),(1,some (.slice (ws.map encInt) .no)),(4,some (.ptr o4 0)),(6,some (.slice ((di x.l ws i).map encE) (.own oV1)))])
  (λi=>aF (aF (aF σ oV1 (.grow 8 i)) o2 (.cells [.int .i64 x.op, .int .i64 x.w, .int .u64 x.v, .int .i64 x.sig, .int .i64 x.hi, .int .i64 x.lo, .int .i64 x.n, .slice (x.l.map encE) .no])) o4 (.cells zN))
  (λi=>i<=x.l.length/\∀j,(h3:j<x.l.length)->(h4:j<ws.length)->j<i->(size x.l[j] ws[j]).2=0) (λi=>x.l.length-i) 0 ?_ ?_
 ·have e0:di x.l ws 0=[]:=by simp[di]
  clear kE kO kr ks hge hown ih;(repeat' (first|simp(maxDischargeDepth:=9) -implicitDefEqProofs -dsimp only[go_sem,seval,List.map_nil, *]|with_reducible refine And.intro ?_ ?_|omega))
 ·rintro i ⟨hi,hok⟩;by_cases hlt:i<x.l.length
  ·have hlt2:i<ws.length:=by omega
   have hgi:=hge _ (List.getElem_mem hlt2);have hc:=λw τ h=>ih x.l[i] (List.getElem_mem hlt) w τ h;have ho:=λτ=>hown x.l[i] (List.getElem_mem hlt) τ;have kEi:=kE i hlt hlt2 hok;have ksi:=ks i hlt hlt2;have kri:=kr i (by omega)
   have hstep:(size x.l[i] ws[i]).2=0->∀j,(h3:j<x.l.length)->(h4:j<ws.length)->j<i+1->(size x.l[j] ws[j]).2=0:=λh j h3 h4 h5=>by
    rcases Nat.lt_or_ge j i with q|q
    ·exact hok j h3 h4 q
    ·obtain rfl:j=i:=by omega
     exact h
   clear kE kO kr ks hge hown ih hok;generalize hX:di x.l ws i=X at ksi kri|-;clear hX;by_cases hb:ws[i]= -1/\1<own x.l[i]
   ·obtain⟨hb1,hb2⟩:=hb;rw[hb1,pi hb2] at kEi;rw[kEi (by simp),aL];clear kEi ksi hstep hc;repeat' (first|simp(maxDischargeDepth:=9) -implicitDefEqProofs -dsimp only[go_sem,seval,gt_iff_lt, *]|simp(disch:=omega) only[ah,aj,ao,aA,au,ag,az,aq]|with_reducible refine Zu ?_ ?_|(with_reducible refine Zt λoF hoF hnF hnF'=>?_;try simp only[aa,ne_eq,not_and] at hoF)|with_reducible refine kc1 (ho _) ?_|refine fin_eq ?_)
   ·have hcase:(ws[i]= -1/\¬1<own x.l[i]/\size x.l[i] ws[i]=size x.l[i] 1)\/(¬ws[i]<0):=by
     by_cases q:ws[i]= -1
     ·exact .inl ⟨q,λh=>hb ⟨q,h⟩,by rw[q];exact ub λh=>hb ⟨q,h⟩⟩
     ·exact .inr (by omega)
    obtain⟨⟨y,f⟩,hyf⟩:∃r,size x.l[i] ws[i]=r:=⟨_,rfl⟩;rw[hyf] at kEi ksi hstep hcase;simp only at kEi ksi hstep
    have hc2:∀τ,C_ 155 [encE x.l[i], .int .i64 (if ws[i]= -1 then 1 else ws[i])] τ (.tup [encE y, .int .i64 f]) τ:=λτ=>by
     rcases hcase with ⟨q1,q2,q3⟩|q
     ·rw[if_pos q1];have:=hc 1 τ (by omega)
      rw[<-q3] at this;exact this
     ·rw[if_neg (by omega)];have:=hc ws[i] τ (by omega)
      rw[hyf] at this;exact this
    clear hc hb hyf;by_cases hf:f=0
    ·subst hf;have hn:=hstep rfl;clear kEi hstep;rcases hcase with ⟨q1,q2,q3⟩|q
     ·rw[if_pos q1] at hc2;clear q3;repeat' (first|simp(maxDischargeDepth:=9) -implicitDefEqProofs -dsimp only[go_sem,seval,gt_iff_lt, *]|simp(disch:=omega) only[ah,aj,ao,aA,au,ag,az,aq]|with_reducible refine Zv ?_ ?_|with_reducible refine Zu ?_ ?_|(with_reducible refine Zt λoF hoF hnF hnF'=>?_;try simp only[aa,ne_eq,not_and] at hoF)|with_reducible refine kc1 (ho _) ?_|with_reducible refine kc1 (hc2 _) ?_|(with_reducible refine lnx (i+1) ?_;repeat' (first|simp(maxDischargeDepth:=9) -implicitDefEqProofs -dsimp only[go_sem,seval,List.map_append,List.map_cons,List.map_nil, *]|with_reducible refine And.intro ?_ ?_))|omega)
      exact λj h3 h4 h5=>hn j h3 (by omega) h5
     ·rw[if_neg (by omega)] at hc2;repeat' (first|simp(maxDischargeDepth:=9) -implicitDefEqProofs -dsimp only[go_sem,seval,gt_iff_lt, *]|simp(disch:=omega) only[ah,aj,ao,aA,au,ag,az,aq]|with_reducible refine Zv ?_ ?_|with_reducible refine Zu ?_ ?_|(with_reducible refine Zt λoF hoF hnF hnF'=>?_;try simp only[aa,ne_eq,not_and] at hoF)|with_reducible refine kc1 (hc2 _) ?_|(with_reducible refine lnx (i+1) ?_;repeat' (first|simp(maxDischargeDepth:=9) -implicitDefEqProofs -dsimp only[go_sem,seval,List.map_append,List.map_cons,List.map_nil, *]|with_reducible refine And.intro ?_ ?_))|omega)
      exact λj h3 h4 h5=>hn j h3 (by omega) h5
    ·have hfb:(f != 0)=true:=by simpa using hf
     rw[kEi hf,aL];clear kEi hstep hf ksi;rcases hcase with ⟨q1,q2,q3⟩|q
     ·rw[if_pos q1] at hc2;clear q3;repeat' (first|simp(maxDischargeDepth:=9) -implicitDefEqProofs -dsimp only[go_sem,seval,gt_iff_lt, *]|simp(disch:=omega) only[ah,aj,ao,aA,au,ag,az,aq]|with_reducible refine Zu ?_ ?_|(with_reducible refine Zt λoF hoF hnF hnF'=>?_;try simp only[aa,ne_eq,not_and] at hoF)|with_reducible refine kc1 (ho _) ?_|with_reducible refine kc1 (hc2 _) ?_|refine fin_eq ?_)
     ·rw[if_neg (by omega)] at hc2;repeat' (first|simp(maxDischargeDepth:=9) -implicitDefEqProofs -dsimp only[go_sem,seval,gt_iff_lt, *]|simp(disch:=omega) only[ah,aj,ao,aA,au,ag,az,aq]|with_reducible refine Zu ?_ ?_|(with_reducible refine Zt λoF hoF hnF hnF'=>?_;try simp only[aa,ne_eq,not_and] at hoF)|with_reducible refine kc1 (hc2 _) ?_|refine fin_eq ?_)
  ·have ei:i=x.l.length:=by omega
   subst ei;rw[kO λj h3 h4=>hok j h3 h4 h3,cQ];obtain⟨X,hX⟩:∃X,di x.l ws x.l.length=X:=⟨_,rfl⟩;rw[hX];clear kE kO kr ks hge hown ih hok hX;repeat' (first|simp(maxDischargeDepth:=9) -implicitDefEqProofs -dsimp only[go_sem,seval, *]|simp(disch:=omega) only[ah,aj,ao,aA,au,ag,az,aq]|refine fin_eq ?_)
theorem p8(x:E)(w:Int)(σ:aB)(ho:x.op=4)(hn1:1<=x.n)(hn2:x.n<=6)(hl:x.l.length=1)
  (hu:∀ws τ,ws.length=x.l.length->(∀v∈ws,-1<=v)->C_ 209 [encE x, .slice (ws.map encInt) .no] τ (.tup [encE (bM x ws).1, .int .i64 (bM x ws).2]) τ)(hw: -1<=w):
  C_ 210 [encE x, .int .i64 w] σ (match cX x w with|none=> .tup [encE zE, .int .i64 90]|some ws=> .tup [encE (bM x ws).1, .int .i64 (bM x ws).2]) σ:=by
 have h1:=encEs_eq x;have u1:=λτ=>hu [w] τ (by rw[hl];rfl) (by simpa using hw);have u2:=λτ=>hu [-1] τ (by rw[hl];rfl) (by simp);have u3:=λτ=>hu [0] τ (by rw[hl];rfl) (by simp);simp only[List.map_cons,List.map_nil] at u1 u2 u3;rw[gq (.inl ho),hl];clear hu;refine gO [2] Tryz.func210 (by kernel_rfl) (by conv=>lhs;reduce;dsimp only[iA,iB]) rfl ?_;by_cases c1:x.n<=2
 ·rw[if_neg (by omega),if_neg (by omega),if_neg (by omega),if_neg (by omega)];simp only[List.replicate_one];clear u2 u3;repeat' (first|simp(maxDischargeDepth:=9) -implicitDefEqProofs -dsimp only[go_sem,seval, *]|(with_reducible refine Zt λoF hoF hnF hnF'=>?_;try simp only[aa,ne_eq,not_and] at hoF)|with_reducible refine kc1 (ACalls.flA (u1 _) ?_) ?_|refine fin_eq ?_)
 by_cases hw1:w=1
 ·have hb:(w != 1)=false:=by simp[hw1]
  by_cases c2:x.n=6
  ·rw[if_pos (.inl c2),if_neg (by omega)];simp only[List.replicate_one];clear u1 u3 hw1;repeat' (first|simp(maxDischargeDepth:=9) -implicitDefEqProofs -dsimp only[go_sem,seval, *]|(with_reducible refine Zt λoF hoF hnF hnF'=>?_;try simp only[aa,ne_eq,not_and] at hoF)|with_reducible refine kc1 (ACalls.flA (u2 _) ?_) ?_|refine fin_eq ?_)
  ·have hb2:(x.n==6)=false:=by simpa using c2
   rw[if_neg (by omega),if_pos (by omega),if_neg (by omega)];simp only[List.replicate_one];clear u1 u2 hw1 c2;repeat' (first|simp(maxDischargeDepth:=9) -implicitDefEqProofs -dsimp only[go_sem,seval, *]|(with_reducible refine Zt λoF hoF hnF hnF'=>?_;try simp only[aa,ne_eq,not_and] at hoF)|with_reducible refine kc1 (ACalls.flA (u3 _) ?_) ?_|refine fin_eq ?_)
 ·have hb:(w != 1)=true:=by simp[hw1]
  have hres:(if x.n=6\/x.n=25\/x.n=26 then if w≠1 then none else some (List.replicate 1 (-1)) else if x.n=3\/x.n=4\/x.n=5 then if w≠1 then none else some (List.replicate 1 0)
   else if 19<=x.n/\x.n<=24 then if w≠1 then none else some (List.replicate 1 (bK (cF (x.l.map own)) 32)) else if x.n=17\/x.n=18 then some [w,0] else some (List.replicate 1 w))=none:=by
   by_cases c2:x.n=6
   ·rw[if_pos (.inl c2),if_pos hw1]
   ·rw[if_neg (by omega),if_pos (by omega),if_pos hw1]
  rw[hres];dsimp only
  rw[aL];clear u1 u2 u3 hres;repeat' (first|simp(maxDischargeDepth:=9) -implicitDefEqProofs -dsimp only[go_sem,seval, *]|(with_reducible refine Zt λoF hoF hnF hnF'=>?_;try simp only[aa,ne_eq,not_and] at hoF)|refine fin_eq ?_)
theorem pD(x:E)(w:Int)(σ:aB)(ho:x.op=5)(hn1:11<=x.n)(hn2:x.n<=26)(hl:x.l.length=2)
  (hu:∀ws τ,ws.length=x.l.length->(∀v∈ws,-1<=v)->C_ 209 [encE x, .slice (ws.map encInt) .no] τ (.tup [encE (bM x ws).1, .int .i64 (bM x ws).2]) τ)(hw: -1<=w)
  (he:∀a∈x.l,∀b∈x.l,∀τ,C_ 238 [encE a,encE b] τ (.int .i64 (eN a b)) τ)(hon:∀a∈x.l,0<=own a):
  C_ 211 [encE x, .int .i64 w] σ (match cX x w with|none=> .tup [encE zE, .int .i64 90]|some ws=> .tup [encE (bM x ws).1, .int .i64 (bM x ws).2]) σ:=by
 have h1:=encEs_eq x;have l0:0<x.l.length:=by omega
 have l1:1<x.l.length:=by omega
 have hei:=λτ=>he x.l[0] (List.getElem_mem l0) x.l[1] (List.getElem_mem l1) τ;have hf2:cF (x.l.map own)=eN x.l[0] x.l[1]:=pz hl
 have hf0:0<=eN x.l[0] x.l[1]:=by
  have:=hon _ (List.getElem_mem l0)
  have:=hon _ (List.getElem_mem l1)
  unfold eN;split<;>omega
 generalize hF:eN x.l[0] x.l[1]=F at hei hf2 hf0;have u1:=λτ=>hu [w,w] τ (by rw[hl];rfl) (by simpa using hw);have u2:=λτ=>hu [-1,-1] τ (by rw[hl];rfl) (by simp);have u3:=λτ=>hu [w,0] τ (by rw[hl];rfl) (by simpa using hw)
 have u4:=λτ=>hu [bK F 32,bK F 32] τ (by rw[hl];rfl) (by
  have:1<=bK F 32:=by unfold bK;split<;>omega
  simp;omega)
 simp only[List.map_cons,List.map_nil] at u1 u2 u3 u4;rw[gq (.inr ho),hl,hf2];have l2:(0:Int)<x.l.length:=by omega
 have l3:(1:Int)<x.l.length:=by omega
 have hrep:∀k:Int,List.replicate 2 k=[k,k]:=λ_=>rfl;clear hu he hon hF hf2;refine gO [2] Tryz.func211 (by kernel_rfl) (by conv=>lhs;reduce;dsimp only[iA,iB]) rfl ?_;by_cases c1:x.n<=16
 ·rw[if_neg (by omega),if_neg (by omega),if_neg (by omega),if_neg (by omega)];simp only[hrep];clear u2 u3 u4 hei;repeat' (first|simp(maxDischargeDepth:=9) -implicitDefEqProofs -dsimp only[go_sem,seval, *]|(with_reducible refine Zt λoF hoF hnF hnF'=>?_;try simp only[aa,ne_eq,not_and] at hoF)|with_reducible refine kc1 (ACalls.flA (u1 _) ?_) ?_|refine fin_eq ?_)
 by_cases c2:x.n<=18
 ·rw[if_neg (by omega),if_neg (by omega),if_neg (by omega),if_pos (by omega)];simp only
  clear u1 u2 u4 hei;repeat' (first|simp(maxDischargeDepth:=9) -implicitDefEqProofs -dsimp only[go_sem,seval, *]|(with_reducible refine Zt λoF hoF hnF hnF'=>?_;try simp only[aa,ne_eq,not_and] at hoF)|with_reducible refine kc1 (ACalls.flA (u3 _) ?_) ?_|refine fin_eq ?_)
 by_cases hw1:w=1
 ·have hb:(w != 1)=false:=by simp[hw1]
  by_cases c3:25<=x.n
  ·rw[if_pos (by omega),if_neg (by omega)];simp only[hrep];clear u1 u3 u4 hei hw1;repeat' (first|simp(maxDischargeDepth:=9) -implicitDefEqProofs -dsimp only[go_sem,seval,ge_iff_le, *]|(with_reducible refine Zt λoF hoF hnF hnF'=>?_;try simp only[aa,ne_eq,not_and] at hoF)|with_reducible refine kc1 (ACalls.flA (u2 _) ?_) ?_|refine fin_eq ?_)
  ·rw[if_neg (by omega),if_neg (by omega),if_pos (by omega),if_neg (by omega)];simp only[hrep];have hk:bK F 32=if F=0 then 32 else F:=rfl
   generalize hK:bK F 32=K at hk u4|-;clear u1 u2 u3 hw1 hK hrep;by_cases hz:F=0
   ·rw[if_pos hz] at hk;repeat' (first|simp(maxDischargeDepth:=9) -implicitDefEqProofs -dsimp only[go_sem,seval,ge_iff_le, *]|with_reducible refine Zu ?_ ?_|(with_reducible refine Zt λoF hoF hnF hnF'=>?_;try simp only[aa,ne_eq,not_and] at hoF)|with_reducible refine kc1 (ACalls.flA (u4 _) ?_) ?_|with_reducible refine id_one0 (λtS hS=>hei _) trivial ?_|refine fin_eq ?_)
   ·have hzb:(F==0)=false:=by simpa using hz
    rw[if_neg hz] at hk;clear hz;subst hk;repeat' (first|simp(maxDischargeDepth:=9) -implicitDefEqProofs -dsimp only[go_sem,seval,ge_iff_le, *]|with_reducible refine Zu ?_ ?_|(with_reducible refine Zt λoF hoF hnF hnF'=>?_;try simp only[aa,ne_eq,not_and] at hoF)|with_reducible refine kc1 (ACalls.flA (u4 _) ?_) ?_|with_reducible refine id_one0 (λtS hS=>hei _) trivial ?_|refine fin_eq ?_)
 ·have hb:(w != 1)=true:=by simp[hw1]
  have hres:(if x.n=6\/x.n=25\/x.n=26 then if w≠1 then none else some (List.replicate 2 (-1)) else if x.n=3\/x.n=4\/x.n=5 then if w≠1 then none else some (List.replicate 2 0)
   else if 19<=x.n/\x.n<=24 then if w≠1 then none else some (List.replicate 2 (bK F 32)) else if x.n=17\/x.n=18 then some [w,0] else some (List.replicate 2 w))=none:=by
   by_cases c3:25<=x.n
   ·rw[if_pos (by omega),if_pos hw1]
   ·rw[if_neg (by omega),if_neg (by omega),if_pos (by omega),if_pos hw1]
  rw[hres];dsimp only
  rw[aL];clear u1 u2 u3 u4 hres hei;repeat' (first|simp(maxDischargeDepth:=9) -implicitDefEqProofs -dsimp only[go_sem,seval, *]|(with_reducible refine Zt λoF hoF hnF hnF'=>?_;try simp only[aa,ne_eq,not_and] at hoF)|refine fin_eq ?_)
end Go.Proofs.YtbbihmmobfmadaaGreat.S
namespace Go.Proofs.YtbbihmmobfmadaaGreat.S
open Abs Fil Fil.Sz
theorem sk(x:E)(ws:List Int)(σ:aB)(hn:x.l=[]):
  C_ 209 [encE x, .slice (ws.map encInt) .no] σ (.tup [encE (bM x ws).1, .int .i64 (bM x ws).2]) σ:=by
 have h1:=encEs_eq x
 have hv:bM x ws=(x.set x.w [],0):=by
  unfold bM;rw[hn];have:aQ (List.map size []) ws=([],0):=by cases ws<;>rfl
  rw[this,if_neg (by simp)]
 rw[hv,cQ];refine ACalls.virt (by kernel_rfl) 8 (λoV1 hoV1 hnV1 hnV1'=>?_);(try simp only[aa,ne_eq,not_and] at hoV1);refine gO [] Tryz.func209 (by kernel_rfl) (by conv=>lhs;reduce;dsimp only[iA]) rfl ?_;repeat' (first|simp(maxDischargeDepth:=9) -implicitDefEqProofs -dsimp only[go_sem,seval,List.map_nil,List.length_nil, *]|simp(disch:=omega) only[ah,aj,ao,aA,au,ag,az,aq]|(with_reducible refine Zt λoF hoF hnF hnF'=>?_;try simp only[aa,ne_eq,not_and] at hoF))
 rename_i o2 nx1 nx2 ho2
 obtain⟨o4,e4⟩:∃x,x=oF:=⟨oF,rfl⟩;subst e4;obtain⟨a0,ho2⟩:=ho2;obtain⟨a1,a2,ho4⟩:=hoF;have b0:¬oV1=o2:=λe=>a0 e.symm;have b1:¬o2=o4:=λe=>a1 e.symm;have b2:¬oV1=o4:=λe=>a2 e.symm;clear nx1 nx2 hnF hnF' hnV1 hnV1'
 refine ar (λi:Nat=>[(7,some (.int .i64 i)),(2,some (.ptr o2 0)),(1,some (.slice (ws.map encInt) .no)),(4,some (.ptr o4 0)),(6,some (.slice [] (.own oV1)))])
  (λi=>aF (aF (aF σ oV1 (.grow 8 0)) o2 (.cells [.int .i64 x.op, .int .i64 x.w, .int .u64 x.v, .int .i64 x.sig, .int .i64 x.hi, .int .i64 x.lo, .int .i64 x.n, .slice [] .no])) o4 (.cells zN))
  (λi=>i=0) (λi=>0) 0 ?_ ?_
 ·(repeat' simp(maxDischargeDepth:=9) -implicitDefEqProofs -dsimp only[go_sem,seval, *])
 ·rintro i rfl;have hz:¬(((0:Nat):Int)<(([]:List E).length:Nat)):=by simp
  repeat' (first|simp(maxDischargeDepth:=9) -implicitDefEqProofs -dsimp only[go_sem,seval,List.map_nil,List.length_nil,Int.lt_irrefl,Int.natCast_zero, *]|refine fin_eq ?_)
theorem qX{e:E}{W w:Int}(ho:e.op=4\/e.op=5):cX (e.set W e.l) w=cX e w:=by
 rw[gq (e:=e.set W e.l) (by exact ho),gq ho];rfl
theorem fZ(e:E)(W:Int)(ws:List Int):bM (e.set W e.l) ws=if (aQ (e.l.map size) ws).2≠0 then (zE,(aQ (e.l.map size) ws).2) else (e.set W (aQ (e.l.map size) ws).1,0):=rfl
theorem vY{e:E}{w:Int}(hb:¬(w= -1/\1<own e))(hn:¬(e.op=1/\e.w=0))(h8:¬e.op=8){ws:List Int}(hw:cX e (wide e w)=some ws):size e w=bM (e.set (wide e w) e.l) ws:=by
 rw[mg hb hn hw,fZ,iS];split
 ·rfl
 ·rw[if_neg (λh=>h8 h.1)]
theorem vZ{e:E}{W:Int}{ws:List Int}(h:(bM (e.set W e.l) ws).2=0):bM (e.set W e.l) ws=(e.set W (aQ (e.l.map size) ws).1,0)/\(aQ (e.l.map size) ws).2=0:=by
 rw[fZ] at h|-;split at h
 ·rename_i q;simp only at h;exact(q h).elim
 ·rename_i q;rw[if_neg q];exact⟨rfl,by simpa using q⟩
theorem zA(w v:Int)(σ:aB)(h0:0<=w)(hv:Db v):C_ 203 [.int .i64 w, .int .u64 v] σ (.bool (holds w v)) σ:=by
 by_cases h1:w<=9223372036854775807
 ·exact pt w v σ h0 h1 hv
 ·refine gO [] Tryz.func203 (by kernel_rfl) (by conv=>lhs;reduce;dsimp only[iA]) rfl ?_;have hw:64<=w:=by omega
  have hh:holds w v=true:=by
   unfold holds;rw[decide_eq_true_eq];have e:(2:Int)^w.toNat=((2^w.toNat:Nat):Int):=by simp
   have:=Nat.pow_le_pow_right (n:=2) (by omega) (show 64<=w.toNat by omega)
   have:=hv.2
   rw[e];omega
  repeat' (first|simp(maxDischargeDepth:=9) -implicitDefEqProofs -dsimp only[go_sem,seval,ge_iff_le, *]|refine fin_eq ?_)
theorem ly(g:List Sg)(hg:df g)(e:E):∀(w:Int) (σ:aB),shp g e=true->nodes e<=16777216->WfE e->0<=w->C_ 155 [encE e, .int .i64 w] σ (.tup [encE (size e w).1, .int .i64 (size e w).2]) σ:=by
 refine E.ind (P:=λe=>∀(w:Int) (σ:aB),shp g e=true->nodes e<=16777216->WfE e->0<=w->C_ 155 [encE e, .int .i64 w] σ (.tup [encE (size e w).1, .int .i64 (size e w).2]) σ) (λe ih w σ hs he hw h0=>?_) e;have h1:=encEs_eq e;have l1:=len_nodes e;have hown:=λτ=>pA g hg e τ hs he;have hon:=bL hg e hs;have hwp:=lh hon (show -1<=w by omega)
 have hwd:((w==0)=false/\wide e w=w)\/(w=0/\(own e==0)=false/\own e=wide e w)\/(w=0/\own e=0/\wide e w=32):=by
  by_cases q:w=0
  ·subst q;rw[ik,bK];by_cases q2:own e=0
   ·exact .inr (.inr ⟨rfl,q2,by rw[if_pos q2]⟩)
   ·exact .inr (.inl ⟨rfl,by simp[q2],by rw[if_neg q2]⟩)
  ·exact .inl ⟨by simp[q],bQ q (by omega)⟩
 have hbit:¬(w= -1/\1<own e):=by omega
 have hv64:=((WfE_iff e).1 hw).1.2.2.1;have hh:=λτ h=>zA (wide e w) e.v τ h hv64
 have hU:=fun(h:e.l.length<=16777216) ws τ (h2:ws.length=e.l.length) (h3:∀v∈ws,-1<=v)=>pZ (e.set (wide e w) e.l) ws τ h h2 h3
  (λp hp τ=>pA g hg p τ (aV hs hp) (by have:=part_nodes (e:=e) hp;omega))
  (λp hp v τ h=>ih p hp v τ (aV hs hp) (by have:=part_nodes (e:=e) hp;omega) (((WfE_iff e).1 hw).2 p hp) h)
 replace hU:=hU (by omega);have hN:=λws τ h=>sk (e.set (wide e w) e.l) ws τ h;have hei:=fun(a:E) (ha:a∈e.l) (b:E) (hb:b∈e.l) τ=>zu g hg a b (aV hs ha) (aV hs hb) (by have:=part_nodes ha;omega) (by have:=part_nodes hb;omega) τ;have honp:=fun(a:E) (ha:a∈e.l)=>bL hg a (aV hs ha);obtain⟨W,hW⟩:∃W,wide e w=W:=⟨_,rfl⟩;have hss:=fun(ws:List Int) (q1:¬(e.op=1/\e.w=0)) (q2:¬e.op=8) (q3:cX e W=some ws)=>vY hbit q1 q2 (by rw[hW];exact q3);have hsn:=fun(q1:¬(e.op=1/\e.w=0)) (q3:cX e W=none)=>qQ hbit q1 (by rw[hW];exact q3);have hs8:=fun(ws:List Int) (q1:¬(e.op=1/\e.w=0)) (q3:cX e W=some ws)=>mg hbit q1 (by rw[hW];exact q3);have hs1:=fun(q1:e.op=1) (q2:e.w=0)=>tN hbit q1 q2;rw[hW] at hwd hwp hh hU hN;simp only[hW] at hss hs1;have hwb:(W==0)=false:=by simp;omega
 have hnd:=d4 hs;clear ih hw hs hbit;cases hnd with
 |sig ho h2 h3 h4 h5=>
  have hn1:¬(e.op=1/\e.w=0):=by omega
  have hn8:¬e.op=8:=by omega
  have hwt:=kj (e:=e) (w:=W) (by omega);replace hN:=λws τ=>hN ws τ h4;simp only[cQ] at hN;generalize hR:size e w=R at hsn hss|-;have hN0:=λτ=>hN [0] τ
  have hss0:own e=W->R=bM (e.set W e.l) [0]:=λh=>by
   have:=hss [] hn1 hn8 (by rw[hwt,if_neg (by omega),h4];rfl)
   rw[this,fZ,fZ,h4];rfl
  have hsn0:own e≠W->R=(zE,90):=λh=>hsn hn1 (by rw[hwt,if_pos h]);generalize hU':bM (e.set W e.l) [0]=U at hN0 hss0;clear hU hei honp hss hsn hs8 hs1 hR hwt hN hU' hn1 hn8;simp only[List.map_cons,List.map_nil] at hN0;refine gO [2] Tryz.func155 (by kernel_rfl) (by conv=>lhs;reduce;dsimp only[iA,iB]) rfl ?_;by_cases hq:own e=W
  ·have hqb:(own e != W)=false:=by simp[hq]
   rw[hss0 hq];clear hss0 hsn0;rw[hq] at hown hwd hqb;clear hq;rcases hwd with ⟨w1,w2⟩|⟨rfl,w2,w3⟩|⟨rfl,w2,w3⟩
   ·subst w2;repeat' (first|simp(maxDischargeDepth:=9) -implicitDefEqProofs -dsimp only[go_sem,seval, *]|(with_reducible refine Zt λoF hoF hnF hnF'=>?_;try simp only[aa,ne_eq,not_and] at hoF)|with_reducible refine kc1 (ACalls.flA (hown _) ?_) ?_|with_reducible refine kc1 (ACalls.flA (hN0 _) ?_) ?_|refine fin_eq ?_)
   ·repeat' (first|simp(maxDischargeDepth:=9) -implicitDefEqProofs -dsimp only[go_sem,seval, *]|(with_reducible refine Zt λoF hoF hnF hnF'=>?_;try simp only[aa,ne_eq,not_and] at hoF)|with_reducible refine kc1 (ACalls.flA (hown _) ?_) ?_|with_reducible refine kc1 (ACalls.flA (hN0 _) ?_) ?_|refine fin_eq ?_)
   ·exfalso;omega
  ·have hqb:(own e != W)=true:=by simp[hq]
   rw[hsn0 hq,aL];clear hss0 hsn0 hN0;generalize ho':own e=o at hown hwd hqb hq;clear ho';rcases hwd with ⟨w1,w2⟩|⟨rfl,w2,w3⟩|⟨rfl,w2,w3⟩
   ·subst w2;repeat' (first|simp(maxDischargeDepth:=9) -implicitDefEqProofs -dsimp only[go_sem,seval, *]|simp(disch:=omega) only[ah,aj,ao,aA,au,ag,az,aq]|(with_reducible refine Zt λoF hoF hnF hnF'=>?_;try simp only[aa,ne_eq,not_and] at hoF)|with_reducible refine kc1 (ACalls.flA (hown _) ?_) ?_|refine fin_eq ?_)
   ·exact(hq w3).elim
   ·subst w2 w3;clear hq;repeat' (first|simp(maxDischargeDepth:=9) -implicitDefEqProofs -dsimp only[go_sem,seval, *]|simp(disch:=omega) only[ah,aj,ao,aA,au,ag,az,aq]|(with_reducible refine Zt λoF hoF hnF hnF'=>?_;try simp only[aa,ne_eq,not_and] at hoF)|with_reducible refine kc1 (ACalls.flA (hown _) ?_) ?_|refine fin_eq ?_)
 |idx ho h2 h3 h4 h5 a h6 h7 h8=>
  have hn1:¬(e.op=1/\e.w=0):=by omega
  have hn8:¬e.op=8:=by omega
  have hle:e.l.length=1:=by rw[h6];rfl
  have hwt:=kj (e:=e) (w:=W) (by omega);rw[hle] at hwt;simp only[cQ] at hU;generalize hR:size e w=R at hsn hss|-;have hN0:=λτ=>hU [0] τ (by rw[hle];rfl) (by simp);have hss0:own e=W->R=bM (e.set W e.l) [0]:=λh=>hss [0] hn1 hn8 (by rw[hwt,if_neg (by omega)];rfl);have hsn0:own e≠W->R=(zE,90):=λh=>hsn hn1 (by rw[hwt,if_pos h]);generalize hU':bM (e.set W e.l) [0]=U at hN0 hss0;generalize ho':own e=o at hown hwd hss0 hsn0;clear hU hei honp hss hsn hs8 hs1 hR hwt hN hU' hn1 hn8 h6 ho';simp only[List.map_cons,List.map_nil] at hN0;refine gO [2] Tryz.func155 (by kernel_rfl) (by conv=>lhs;reduce;dsimp only[iA,iB]) rfl ?_;by_cases hq:o=W
  ·have hqb:(o != W)=false:=by simp[hq]
   rw[hss0 hq];clear hss0 hsn0 hqb;subst hq;rcases hwd with ⟨w1,w2⟩|⟨rfl,w2,w3⟩|⟨rfl,w2,w3⟩
   ·subst w2;repeat' (first|simp(maxDischargeDepth:=9) -implicitDefEqProofs -dsimp only[go_sem,seval, *]|(with_reducible refine Zt λoF hoF hnF hnF'=>?_;try simp only[aa,ne_eq,not_and] at hoF)|with_reducible refine kc1 (ACalls.flA (hown _) ?_) ?_|with_reducible refine kc1 (ACalls.flA (hN0 _) ?_) ?_|refine fin_eq ?_)
   ·repeat' (first|simp(maxDischargeDepth:=9) -implicitDefEqProofs -dsimp only[go_sem,seval, *]|(with_reducible refine Zt λoF hoF hnF hnF'=>?_;try simp only[aa,ne_eq,not_and] at hoF)|with_reducible refine kc1 (ACalls.flA (hown _) ?_) ?_|with_reducible refine kc1 (ACalls.flA (hN0 _) ?_) ?_|refine fin_eq ?_)
   ·exfalso;omega
  ·have hqb:(o != W)=true:=by simp[hq]
   rw[hsn0 hq,aL];clear hss0 hsn0 hN0;rcases hwd with ⟨w1,w2⟩|⟨rfl,w2,w3⟩|⟨rfl,w2,w3⟩
   ·subst w2;clear hq;repeat' (first|simp(maxDischargeDepth:=9) -implicitDefEqProofs -dsimp only[go_sem,seval, *]|simp(disch:=omega) only[ah,aj,ao,aA,au,ag,az,aq]|(with_reducible refine Zt λoF hoF hnF hnF'=>?_;try simp only[aa,ne_eq,not_and] at hoF)|with_reducible refine kc1 (ACalls.flA (hown _) ?_) ?_|refine fin_eq ?_)
   ·exact(hq w3).elim
   ·subst w2 w3;clear hq;repeat' (first|simp(maxDischargeDepth:=9) -implicitDefEqProofs -dsimp only[go_sem,seval, *]|simp(disch:=omega) only[ah,aj,ao,aA,au,ag,az,aq]|(with_reducible refine Zt λoF hoF hnF hnF'=>?_;try simp only[aa,ne_eq,not_and] at hoF)|with_reducible refine kc1 (ACalls.flA (hown _) ?_) ?_|refine fin_eq ?_)
 |un ho h2 h3 h4 h5 a h6 h7 h8=>
  have hn1:¬(e.op=1/\e.w=0):=by omega
  have hn8:¬e.op=8:=by omega
  have hst:∀τ,C_ 210 [encE (e.set W e.l), .int .i64 W] τ (.tup [encE (size e w).1, .int .i64 (size e w).2]) τ:=λτ=>by
   have h:=p8 (e.set W e.l) W τ ho h7 h8 (by rw[jn,h6];rfl) (λws τ h h2=>hU ws τ h h2) (by omega);rw[qX (by omega)] at h;cases hx:cX e W with
   |none=>rw[hx] at h;rw[hsn hn1 hx];exact h
   |some ws=>rw[hx] at h;rw[hss ws hn1 hn8 hx];exact h
  simp only[cQ] at hst;generalize hR:size e w=R at hst|-;generalize ho':own e=o at hown hwd;clear hU hei honp hss hsn hs8 hs1 hR hN hn1 hn8 ho';refine gO [2] Tryz.func155 (by kernel_rfl) (by conv=>lhs;reduce;dsimp only[iA,iB]) rfl ?_;rcases hwd with ⟨w1,w2⟩|⟨rfl,w2,w3⟩|⟨rfl,w2,w3⟩
  ·subst w2;repeat' (first|simp(maxDischargeDepth:=9) -implicitDefEqProofs -dsimp only[go_sem,seval, *]|(with_reducible refine Zt λoF hoF hnF hnF'=>?_;try simp only[aa,ne_eq,not_and] at hoF)|with_reducible refine kc1 (ACalls.flA (hst _) ?_) ?_|refine fin_eq ?_)
  ·repeat' (first|simp(maxDischargeDepth:=9) -implicitDefEqProofs -dsimp only[go_sem,seval, *]|(with_reducible refine Zt λoF hoF hnF hnF'=>?_;try simp only[aa,ne_eq,not_and] at hoF)|with_reducible refine kc1 (ACalls.flA (hown _) ?_) ?_|with_reducible refine kc1 (ACalls.flA (hst _) ?_) ?_|refine fin_eq ?_)
  ·repeat' (first|simp(maxDischargeDepth:=9) -implicitDefEqProofs -dsimp only[go_sem,seval, *]|(with_reducible refine Zt λoF hoF hnF hnF'=>?_;try simp only[aa,ne_eq,not_and] at hoF)|with_reducible refine kc1 (ACalls.flA (hown _) ?_) ?_|with_reducible refine kc1 (ACalls.flA (hst _) ?_) ?_|refine fin_eq ?_)
 |bin ho h2 h3 h4 h5 a b h6 h7 h8=>
  have hn1:¬(e.op=1/\e.w=0):=by omega
  have hn8:¬e.op=8:=by omega
  have hst:∀τ,C_ 211 [encE (e.set W e.l), .int .i64 W] τ (.tup [encE (size e w).1, .int .i64 (size e w).2]) τ:=λτ=>by
   have h:=pD (e.set W e.l) W τ ho h7 h8 (by rw[jn,h6];rfl) (λws τ h h2=>hU ws τ h h2) (by omega) hei honp;rw[qX (by omega)] at h;cases hx:cX e W with
   |none=>rw[hx] at h;rw[hsn hn1 hx];exact h
   |some ws=>rw[hx] at h;rw[hss ws hn1 hn8 hx];exact h
  simp only[cQ] at hst;generalize hR:size e w=R at hst|-;generalize ho':own e=o at hown hwd;clear hU hei honp hss hsn hs8 hs1 hR hN hn1 hn8 ho';refine gO [2] Tryz.func155 (by kernel_rfl) (by conv=>lhs;reduce;dsimp only[iA,iB]) rfl ?_;rcases hwd with ⟨w1,w2⟩|⟨rfl,w2,w3⟩|⟨rfl,w2,w3⟩
  ·subst w2;repeat' (first|simp(maxDischargeDepth:=9) -implicitDefEqProofs -dsimp only[go_sem,seval, *]|(with_reducible refine Zt λoF hoF hnF hnF'=>?_;try simp only[aa,ne_eq,not_and] at hoF)|with_reducible refine kc1 (ACalls.flA (hst _) ?_) ?_|refine fin_eq ?_)
  ·repeat' (first|simp(maxDischargeDepth:=9) -implicitDefEqProofs -dsimp only[go_sem,seval, *]|(with_reducible refine Zt λoF hoF hnF hnF'=>?_;try simp only[aa,ne_eq,not_and] at hoF)|with_reducible refine kc1 (ACalls.flA (hown _) ?_) ?_|with_reducible refine kc1 (ACalls.flA (hst _) ?_) ?_|refine fin_eq ?_)
  ·repeat' (first|simp(maxDischargeDepth:=9) -implicitDefEqProofs -dsimp only[go_sem,seval, *]|(with_reducible refine Zt λoF hoF hnF hnF'=>?_;try simp only[aa,ne_eq,not_and] at hoF)|with_reducible refine kc1 (ACalls.flA (hown _) ?_) ?_|with_reducible refine kc1 (ACalls.flA (hst _) ?_) ?_|refine fin_eq ?_)
 |cond ho h2 h3 h4 h5 h7 a b c h6=>
  have hn1:¬(e.op=1/\e.w=0):=by omega
  have hn8:¬e.op=8:=by omega
  have hst:=λτ=>hU [-1,W,W] τ (by rw[h6];rfl) (by simp;omega);rw[<-hss [-1,W,W] hn1 hn8 (sa ho)] at hst;simp only[cQ,List.map_cons,List.map_nil] at hst;generalize hR:size e w=R at hst|-;generalize ho':own e=o at hown hwd;clear hU hei honp hss hsn hs8 hs1 hR hN hn1 hn8 ho' h6;refine gO [2] Tryz.func155 (by kernel_rfl) (by conv=>lhs;reduce;dsimp only[iA,iB]) rfl ?_;rcases hwd with ⟨w1,w2⟩|⟨rfl,w2,w3⟩|⟨rfl,w2,w3⟩
  ·subst w2;repeat' (first|simp(maxDischargeDepth:=9) -implicitDefEqProofs -dsimp only[go_sem,seval, *]|(with_reducible refine Zt λoF hoF hnF hnF'=>?_;try simp only[aa,ne_eq,not_and] at hoF)|with_reducible refine kc1 (ACalls.flA (hst _) ?_) ?_|refine fin_eq ?_)
  ·repeat' (first|simp(maxDischargeDepth:=9) -implicitDefEqProofs -dsimp only[go_sem,seval, *]|(with_reducible refine Zt λoF hoF hnF hnF'=>?_;try simp only[aa,ne_eq,not_and] at hoF)|with_reducible refine kc1 (ACalls.flA (hown _) ?_) ?_|with_reducible refine kc1 (ACalls.flA (hst _) ?_) ?_|refine fin_eq ?_)
  ·repeat' (first|simp(maxDischargeDepth:=9) -implicitDefEqProofs -dsimp only[go_sem,seval, *]|(with_reducible refine Zt λoF hoF hnF hnF'=>?_;try simp only[aa,ne_eq,not_and] at hoF)|with_reducible refine kc1 (ACalls.flA (hown _) ?_) ?_|with_reducible refine kc1 (ACalls.flA (hst _) ?_) ?_|refine fin_eq ?_)
 |num ho h2 h3 h4 h5 h6 h7 h8 h9=>
  have ho1:own e=e.w:=pW ho;rw[ho1] at hown hwd;have hn8:¬e.op=8:=by omega
  have hwt:=kj (e:=e) (w:=W) (.inl ho);rw[ho1] at hwt;clear hU hei honp hs8 hN;by_cases hz:e.w=0
  ·rw[hs1 ho hz];generalize hb:holds W e.v=b at hh|-
   have hwd':((w==0)=false/\W=w)\/(w=0/\W=32):=by
    rcases hwd with q|⟨_,q,_⟩|⟨q,_,q2⟩
    ·exact .inl q
    ·rw[hz] at q;simp at q
    ·exact .inr ⟨q,q2⟩
   rw[hz] at hown;clear hss hsn hs1 hb hwd h9 ho1 hwt;refine gO [2] Tryz.func155 (by kernel_rfl) (by conv=>lhs;reduce;dsimp only[iA,iB]) rfl ?_;cases b
   ·rw[if_neg (by simp),aL];rcases hwd' with ⟨w1,w2⟩|⟨w1,w2⟩
    ·subst w2;repeat' (first|simp(maxDischargeDepth:=9) -implicitDefEqProofs -dsimp only[go_sem,seval, *]|simp(disch:=omega) only[ah,aj,ao,aA,au,ag,az,aq]|(with_reducible refine Zt λoF hoF hnF hnF'=>?_;try simp only[aa,ne_eq,not_and] at hoF)|with_reducible refine kc1 (hh _ ?_) ?_|(refine fin_eq ?_;repeat' simp(maxDischargeDepth:=9) -implicitDefEqProofs -dsimp only[go_sem,seval,List.map_nil, *]))
    ·subst w1 w2;repeat' (first|simp(maxDischargeDepth:=9) -implicitDefEqProofs -dsimp only[go_sem,seval, *]|simp(disch:=omega) only[ah,aj,ao,aA,au,ag,az,aq]|(with_reducible refine Zt λoF hoF hnF hnF'=>?_;try simp only[aa,ne_eq,not_and] at hoF)|with_reducible refine kc1 (hh _ ?_) ?_|with_reducible refine kc1 (ACalls.flA (hown _) ?_) ?_|(refine fin_eq ?_;repeat' simp(maxDischargeDepth:=9) -implicitDefEqProofs -dsimp only[go_sem,seval,List.map_nil, *]))
   ·rw[if_pos rfl,t8];rcases hwd' with ⟨w1,w2⟩|⟨w1,w2⟩
    ·subst w2;repeat' (first|simp(maxDischargeDepth:=9) -implicitDefEqProofs -dsimp only[go_sem,seval, *]|simp(disch:=omega) only[ah,aj,ao,aA,au,ag,az,aq]|(with_reducible refine Zt λoF hoF hnF hnF'=>?_;try simp only[aa,ne_eq,not_and] at hoF)|with_reducible refine kc1 (hh _ ?_) ?_|(refine fin_eq ?_;repeat' simp(maxDischargeDepth:=9) -implicitDefEqProofs -dsimp only[go_sem,seval,List.map_nil, *]))
    ·subst w1 w2;repeat' (first|simp(maxDischargeDepth:=9) -implicitDefEqProofs -dsimp only[go_sem,seval, *]|simp(disch:=omega) only[ah,aj,ao,aA,au,ag,az,aq]|(with_reducible refine Zt λoF hoF hnF hnF'=>?_;try simp only[aa,ne_eq,not_and] at hoF)|with_reducible refine kc1 (hh _ ?_) ?_|with_reducible refine kc1 (ACalls.flA (hown _) ?_) ?_|(refine fin_eq ?_;repeat' simp(maxDischargeDepth:=9) -implicitDefEqProofs -dsimp only[go_sem,seval,List.map_nil, *]))
  ·have hn1:¬(e.op=1/\e.w=0):=λh=>hz h.2;have hzb:(e.w != 0)=true:=by simpa using hz
   have hzb2:(e.w==0)=false:=by simpa using hz
   have hwd':((w==0)=false/\W=w)\/(w=0/\e.w=W):=by
    rcases hwd with q|⟨q,_,q2⟩|⟨_,q,_⟩
    ·exact .inl q
    ·exact .inr ⟨q,q2⟩
    ·exact(hz q).elim
   by_cases hq:e.w=W
   ·have hv:=hss [] hn1 hn8 (by rw[hwt,if_neg (by omega),h6];rfl);rw[fZ,h6] at hv;have hv2:size e w=(e.set W [],0):=by rw[hv];rfl
    rw[hv2,cQ];have hqb:(e.w != W)=false:=by simp[hq]
    rw[hq] at hown hzb hzb2 hqb hwd';clear hss hsn hs1 hwd h9 ho1 hwt hv hv2 hz h7 h8 hn1;refine gO [2] Tryz.func155 (by kernel_rfl) (by conv=>lhs;reduce;dsimp only[iA,iB]) rfl ?_;rcases hwd' with ⟨w1,w2⟩|⟨w1,w2⟩
    ·subst w2;repeat' (first|simp(maxDischargeDepth:=9) -implicitDefEqProofs -dsimp only[go_sem,seval, *]|simp(disch:=omega) only[ah,aj,ao,aA,au,ag,az,aq]|(with_reducible refine Zt λoF hoF hnF hnF'=>?_;try simp only[aa,ne_eq,not_and] at hoF)|(refine fin_eq ?_;repeat' simp(maxDischargeDepth:=9) -implicitDefEqProofs -dsimp only[go_sem,seval,List.map_nil, *]))
    ·subst w1;repeat' (first|simp(maxDischargeDepth:=9) -implicitDefEqProofs -dsimp only[go_sem,seval, *]|simp(disch:=omega) only[ah,aj,ao,aA,au,ag,az,aq]|(with_reducible refine Zt λoF hoF hnF hnF'=>?_;try simp only[aa,ne_eq,not_and] at hoF)|with_reducible refine kc1 (ACalls.flA (hown _) ?_) ?_|(refine fin_eq ?_;repeat' simp(maxDischargeDepth:=9) -implicitDefEqProofs -dsimp only[go_sem,seval,List.map_nil, *]))
   ·rw[hsn hn1 (by rw[hwt,if_pos hq]),aL];have hqb:(e.w != W)=true:=by simp[hq]
    clear hss hsn hs1 hwd h9 ho1 hwt hz h7 h8 hn1;refine gO [2] Tryz.func155 (by kernel_rfl) (by conv=>lhs;reduce;dsimp only[iA,iB]) rfl ?_;rcases hwd' with ⟨w1,w2⟩|⟨w1,w2⟩
    ·subst w2;clear hq;repeat' (first|simp(maxDischargeDepth:=9) -implicitDefEqProofs -dsimp only[go_sem,seval, *]|simp(disch:=omega) only[ah,aj,ao,aA,au,ag,az,aq]|(with_reducible refine Zt λoF hoF hnF hnF'=>?_;try simp only[aa,ne_eq,not_and] at hoF)|(refine fin_eq ?_;repeat' simp(maxDischargeDepth:=9) -implicitDefEqProofs -dsimp only[go_sem,seval,List.map_nil, *]))
    ·exact(hq w2).elim
 |cat ho h2 h3 h4 h5 h7 h6=>
  have hn1:¬(e.op=1/\e.w=0):=by omega
  have hn8:¬e.op=8:=by omega
  have hwt:=sb (e:=e) (w:=W) ho;generalize ho':own e=o at hown hwd hwt;clear hs8 hs1 hN hei honp;by_cases hbad:o=0\/o≠W\/64<o
  ·rw[hsn hn1 (by rw[hwt,if_pos hbad]),aL];clear hss hsn hU hwt hn1 hn8 ho'
   have hc:(o==0)=true\/((o==0)=false/\(o != W)=true)\/((o==0)=false/\(o != W)=false/\64<o):=by
    by_cases q:o=0
    ·exact .inl (by simp[q])
    ·by_cases q2:o=W
     ·exact .inr (.inr ⟨by simp[q],by simp[q2],by omega⟩)
     ·exact .inr (.inl ⟨by simp[q],by simp[q2]⟩)
   clear hbad;refine gO [2] Tryz.func155 (by kernel_rfl) (by conv=>lhs;reduce;dsimp only[iA,iB]) rfl ?_;rcases hwd with ⟨w1,w2⟩|⟨rfl,w2,w3⟩|⟨rfl,w2,w3⟩
   ·subst w2;rcases hc with c|⟨c,c2⟩|⟨c,c2,c3⟩
    all_goals
     repeat' (first|simp(maxDischargeDepth:=9) -implicitDefEqProofs -dsimp only[go_sem,seval,gt_iff_lt, *]|simp(disch:=omega) only[ah,aj,ao,aA,au,ag,az,aq]|(with_reducible refine Zt λoF hoF hnF hnF'=>?_;try simp only[aa,ne_eq,not_and] at hoF)|with_reducible refine kc1 (ACalls.flA (hown _) ?_) ?_|refine fin_eq ?_)
   ·rcases hc with c|⟨c,c2⟩|⟨c,c2,c3⟩
    ·rw[w2] at c;simp at c
    ·rw[w3] at c2;simp at c2
    ·subst w3;repeat' (first|simp(maxDischargeDepth:=9) -implicitDefEqProofs -dsimp only[go_sem,seval,gt_iff_lt, *]|simp(disch:=omega) only[ah,aj,ao,aA,au,ag,az,aq]|(with_reducible refine Zt λoF hoF hnF hnF'=>?_;try simp only[aa,ne_eq,not_and] at hoF)|with_reducible refine kc1 (ACalls.flA (hown _) ?_) ?_|refine fin_eq ?_)
   ·subst w2;repeat' (first|simp(maxDischargeDepth:=9) -implicitDefEqProofs -dsimp only[go_sem,seval,gt_iff_lt, *]|simp(disch:=omega) only[ah,aj,ao,aA,au,ag,az,aq]|(with_reducible refine Zt λoF hoF hnF hnF'=>?_;try simp only[aa,ne_eq,not_and] at hoF)|with_reducible refine kc1 (ACalls.flA (hown _) ?_) ?_|refine fin_eq ?_)
  ·have q1:o≠0:=λh=>hbad (.inl h);have q2:o=W:=by omega
   have q3:¬64<o:=by omega
   have hU0:=λτ=>hU (List.replicate e.l.length 0) τ (by simp) (λv hv=>by have:=(List.mem_replicate.1 hv).2;omega);rw[<-hss _ hn1 hn8 (by rw[hwt,if_neg hbad])] at hU0;simp only[cQ] at hU0;generalize hR:size e w=R at hU0|-;have hrep:∀n:Nat,List.replicate n (AV.int .i64 0)=(List.replicate n (0:Int)).map encInt:=λn=>by simp
   subst q2;clear hss hsn hU hwt hn1 hn8 ho' hbad hR;refine gO [2] Tryz.func155 (by kernel_rfl) (by conv=>lhs;reduce;dsimp only[iA,iB]) rfl ?_;rcases hwd with ⟨w1,w2⟩|⟨rfl,w2,w3⟩|⟨rfl,w2,w3⟩
   ·subst w2;repeat' (first|simp(maxDischargeDepth:=9) -implicitDefEqProofs -dsimp only[go_sem,seval,gt_iff_lt, *]|with_reducible refine Zv ?_ ?_|(with_reducible refine Zt λoF hoF hnF hnF'=>?_;try simp only[aa,ne_eq,not_and] at hoF)|with_reducible refine kc1 (ACalls.flA (hown _) ?_) ?_|with_reducible refine id_one0 (λtS hS=>ACalls.flA (hU0 _) ?_) trivial ?_|refine fin_eq ?_|with_reducible refine And.intro ?_ ?_|omega)
   ·repeat' (first|simp(maxDischargeDepth:=9) -implicitDefEqProofs -dsimp only[go_sem,seval,gt_iff_lt, *]|with_reducible refine Zv ?_ ?_|(with_reducible refine Zt λoF hoF hnF hnF'=>?_;try simp only[aa,ne_eq,not_and] at hoF)|with_reducible refine kc1 (ACalls.flA (hown _) ?_) ?_|with_reducible refine id_one0 (λtS hS=>ACalls.flA (hU0 _) ?_) trivial ?_|refine fin_eq ?_|with_reducible refine And.intro ?_ ?_|omega)
   ·exact(q1 w2).elim
 |ext ho h2 h3 h4 h5 a h6 h7 h8 h9 h10=>
  have ho1:own e=e.w:=vP ho;rw[ho1] at hown hwd;have hn1:¬(e.op=1/\e.w=0):=by omega
  have hle:e.l.length=1:=by rw[h6];rfl
  have hwt:=kj (e:=e) (w:=W) (by omega);rw[ho1,hle] at hwt
  have hwd':((w==0)=false/\W=w)\/(w=0/\(e.w==0)=false/\e.w=W):=by
   rcases hwd with q|⟨q,q1,q2⟩|⟨_,q,_⟩
   ·exact .inl q
   ·exact .inr ⟨q,q1,q2⟩
   ·omega
  clear hei honp hs1 hN hss hwd;by_cases hq:e.w=W
  ·have hqb:(e.w != W)=false:=by simp[hq]
   have hv:=hs8 [0] hn1 (by rw[hwt,if_neg (by omega)];rfl);have hU0:=λτ=>hU [0] τ (by rw[hle];rfl) (by simp);have hus:=fZ e W [0];have hup:=vZ (e:=e) (W:=W) (ws:=[0])
   have hlen:(bM (e.set W e.l) [0]).2=0->∃x,(aQ (e.l.map size) [0]).1=[x]:=λh=>by
    obtain⟨k1,_⟩:=lg e.l [0] (by rw[hle];rfl) (hup h).2;exact len1 (by rw[k1,hle])
   rw[iS] at hv;simp only[cQ] at hU0;simp only[hW] at hv;clear hU hs8 hsn hwt hn1;generalize hU':bM (e.set W e.l) [0]=U at hU0 hus hup hlen;generalize hR:aQ (e.l.map size) [0]=R at hv hus hup hlen;clear hU' hR;by_cases hf:U.2=0
   ·obtain⟨k1,k2⟩:=hup hf;obtain⟨x,hx⟩:=hlen hf;rw[k1] at hU0;rw[if_neg (by omega)] at hv;rw[hx] at hv hU0;have hp0:dG [x]=x.w:=rfl;have hx8:jj (e.set W [x])=[encE x]:=by rw[encEs_eq];rfl
    rw[hp0] at hv;simp only[cQ,List.map_cons,List.map_nil] at hU0;clear hus hup hlen k1 k2 hx hp0 hf;rw[hq] at hown hqb hwd';by_cases hbad:e.n=33/\x.w<W\/e.n≠33/\W<x.w
    ·rw[if_pos ⟨ho,hbad⟩] at hv;rw[hv,aL];clear hv hW;refine gO [2] Tryz.func155 (by kernel_rfl) (by conv=>lhs;reduce;dsimp only[iA,iB]) rfl ?_;rcases hwd' with ⟨w1,w2⟩|⟨rfl,w2,w3⟩
     ·subst w2;repeat' (first|simp(maxDischargeDepth:=9) -implicitDefEqProofs -dsimp only[go_sem,seval,gt_iff_lt,List.getElem?_cons_zero,mh,qR,tO,lj,pj,pm,mM, *]|simp(disch:=omega) only[ah,aj,ao,aA,au,ag,az,aq]|(with_reducible (first|apply Za|apply Zb|apply Zc|apply Zd|apply Ze|apply Zf|apply Zg|apply Zh|apply Zi|apply Zj|apply Zk|apply Zl|apply Zm|apply Zn|apply Zo|apply Zp|apply Zq|apply Zr|apply Zs)<;>intro hq)|(with_reducible refine Zt λoF hoF hnF hnF'=>?_;try simp only[aa,ne_eq,not_and] at hoF)|with_reducible refine kc1 (ACalls.flA (hU0 _) ?_) ?_|omega)
      all_goals first|(exfalso;omega)|skip
      all_goals
       refine fin_eq ?_;(repeat' simp(maxDischargeDepth:=9) -implicitDefEqProofs -dsimp only[go_sem,seval, *])
     ·repeat' (first|simp(maxDischargeDepth:=9) -implicitDefEqProofs -dsimp only[go_sem,seval,gt_iff_lt,List.getElem?_cons_zero,mh,qR,tO,lj,pj,pm,mM, *]|simp(disch:=omega) only[ah,aj,ao,aA,au,ag,az,aq]|(with_reducible (first|apply Za|apply Zb|apply Zc|apply Zd|apply Ze|apply Zf|apply Zg|apply Zh|apply Zi|apply Zj|apply Zk|apply Zl|apply Zm|apply Zn|apply Zo|apply Zp|apply Zq|apply Zr|apply Zs)<;>intro hq)|(with_reducible refine Zt λoF hoF hnF hnF'=>?_;try simp only[aa,ne_eq,not_and] at hoF)|with_reducible refine kc1 (ACalls.flA (hown _) ?_) ?_|with_reducible refine kc1 (ACalls.flA (hU0 _) ?_) ?_|omega)
      all_goals first|(exfalso;omega)|skip
      all_goals
       refine fin_eq ?_;(repeat' simp(maxDischargeDepth:=9) -implicitDefEqProofs -dsimp only[go_sem,seval, *])
    ·rw[if_neg (λh=>hbad h.2)] at hv;rw[hv,cQ];clear hv hW;refine gO [2] Tryz.func155 (by kernel_rfl) (by conv=>lhs;reduce;dsimp only[iA,iB]) rfl ?_;rcases hwd' with ⟨w1,w2⟩|⟨rfl,w2,w3⟩
     ·subst w2;repeat' (first|simp(maxDischargeDepth:=9) -implicitDefEqProofs -dsimp only[go_sem,seval,gt_iff_lt,List.getElem?_cons_zero,mh,qR,tO,lj,pj,pm,mM, *]|simp(disch:=omega) only[ah,aj,ao,aA,au,ag,az,aq]|(with_reducible (first|apply Za|apply Zb|apply Zc|apply Zd|apply Ze|apply Zf|apply Zg|apply Zh|apply Zi|apply Zj|apply Zk|apply Zl|apply Zm|apply Zn|apply Zo|apply Zp|apply Zq|apply Zr|apply Zs)<;>intro hq)|(with_reducible refine Zt λoF hoF hnF hnF'=>?_;try simp only[aa,ne_eq,not_and] at hoF)|with_reducible refine kc1 (ACalls.flA (hU0 _) ?_) ?_|omega)
      all_goals first|(exfalso;omega)|skip
      all_goals
       refine fin_eq ?_;(repeat' simp(maxDischargeDepth:=9) -implicitDefEqProofs -dsimp only[go_sem,seval,List.map_cons,List.map_nil, *])
     ·repeat' (first|simp(maxDischargeDepth:=9) -implicitDefEqProofs -dsimp only[go_sem,seval,gt_iff_lt,List.getElem?_cons_zero,mh,qR,tO,lj,pj,pm,mM, *]|simp(disch:=omega) only[ah,aj,ao,aA,au,ag,az,aq]|(with_reducible (first|apply Za|apply Zb|apply Zc|apply Zd|apply Ze|apply Zf|apply Zg|apply Zh|apply Zi|apply Zj|apply Zk|apply Zl|apply Zm|apply Zn|apply Zo|apply Zp|apply Zq|apply Zr|apply Zs)<;>intro hq)|(with_reducible refine Zt λoF hoF hnF hnF'=>?_;try simp only[aa,ne_eq,not_and] at hoF)|with_reducible refine kc1 (ACalls.flA (hown _) ?_) ?_|with_reducible refine kc1 (ACalls.flA (hU0 _) ?_) ?_|omega)
      all_goals first|(exfalso;omega)|skip
      all_goals
       refine fin_eq ?_;(repeat' simp(maxDischargeDepth:=9) -implicitDefEqProofs -dsimp only[go_sem,seval,List.map_cons,List.map_nil, *])
   ·have hf2:R.2≠0:=λh=>hf (by rw[hus,if_neg (by omega)]);rw[if_pos hf2] at hv hus;have hfb:(R.2 != 0)=true:=by simpa using hf2
    rw[hv,aL];rw[hus] at hU0;simp only[aL] at hU0;rw[hq] at hown hqb hwd';clear hus hup hlen hf hf2 hv hW;generalize hf:R.2=f at hU0 hfb|-;clear hf;refine gO [2] Tryz.func155 (by kernel_rfl) (by conv=>lhs;reduce;dsimp only[iA,iB]) rfl ?_;rcases hwd' with ⟨w1,w2⟩|⟨rfl,w2,w3⟩
    ·subst w2;repeat' (first|simp(maxDischargeDepth:=9) -implicitDefEqProofs -dsimp only[go_sem,seval,gt_iff_lt, *]|(with_reducible refine Zt λoF hoF hnF hnF'=>?_;try simp only[aa,ne_eq,not_and] at hoF)|with_reducible refine kc1 (ACalls.flA (hU0 _) ?_) ?_|refine fin_eq ?_)
    ·repeat' (first|simp(maxDischargeDepth:=9) -implicitDefEqProofs -dsimp only[go_sem,seval,gt_iff_lt, *]|(with_reducible refine Zt λoF hoF hnF hnF'=>?_;try simp only[aa,ne_eq,not_and] at hoF)|with_reducible refine kc1 (ACalls.flA (hown _) ?_) ?_|with_reducible refine kc1 (ACalls.flA (hU0 _) ?_) ?_|refine fin_eq ?_)
  ·have hqb:(e.w != W)=true:=by simp[hq]
   rw[hsn hn1 (by rw[hwt,if_pos hq]),aL];clear hU hs8 hsn hwt hn1 hW;refine gO [2] Tryz.func155 (by kernel_rfl) (by conv=>lhs;reduce;dsimp only[iA,iB]) rfl ?_;rcases hwd' with ⟨w1,w2⟩|⟨w1,w2,w3⟩
   ·subst w2;clear hq;repeat' (first|simp(maxDischargeDepth:=9) -implicitDefEqProofs -dsimp only[go_sem,seval, *]|simp(disch:=omega) only[ah,aj,ao,aA,au,ag,az,aq]|(with_reducible refine Zt λoF hoF hnF hnF'=>?_;try simp only[aa,ne_eq,not_and] at hoF)|refine fin_eq ?_)
   ·exact(hq w3).elim
end Go.Proofs.YtbbihmmobfmadaaGreat.S
namespace Go.Proofs.YtbbihmmobfmadaaGreat.S
open Abs Fil Fil.Sz
theorem vC(g:List Sg)(hg:df g)(e:E)(σ:aB)(hs:shp g e=true)(he:nodes e<=16777216)(hw:WfE e):C_ 151 [encE e] σ (.tup [encE (size e (-1)).1, .int .i64 (size e (-1)).2]) σ:=by
 have h1:=encEs_eq e;have c1:=λτ=>pA g hg e τ hs he;have c2:=λτ=>ly g hg e 1 τ hs he hw (by omega);refine gO [1] Tryz.func151 (by kernel_rfl) (by conv=>lhs;reduce;dsimp only[iA]) rfl ?_;by_cases hb:1<own e
 ·rw[pi hb,aL];clear c2;repeat' (first|simp -implicitDefEqProofs -dsimp only[go_sem,seval,gt_iff_lt, *]|simp(disch:=omega) only[ah,aj,ao,aA,au,ag,az,aq]|(with_reducible refine Zt λoF hoF hnF hnF'=>?_;try simp only[aa,ne_eq,not_and] at hoF)|with_reducible refine kc1 (ACalls.flA (c1 _) ?_) ?_|refine fin_eq ?_)
 ·rw[ub hb];obtain⟨⟨x,f⟩,hxf⟩:∃R,size e 1=R:=⟨_,rfl⟩;rw[hxf] at c2|-;clear hxf;repeat' (first|simp -implicitDefEqProofs -dsimp only[go_sem,seval,gt_iff_lt, *]|simp(disch:=omega) only[ah,aj,ao,aA,au,ag,az,aq]|(with_reducible refine Zt λoF hoF hnF hnF'=>?_;try simp only[aa,ne_eq,not_and] at hoF)|with_reducible refine kc1 (ACalls.flA (c1 _) ?_) ?_|with_reducible refine kc1 (ACalls.flA (c2 _) ?_) ?_|refine fin_eq ?_)
theorem F8(d:Flat)(e:E)(w:Int)(σ:aB)(hd:d.sigs.length<=1000000000000)(he:nodes e<=16777216)(hw:WfE e):C_ 84 [encD d,encE e, .int .i64 w] σ (.tup [encE (cY d e w).1, .int .i64 (cY d e w).2]) σ:=by
 have h1:=encEs_eq e;have c1:=λτ=>px d.sigs τ hd;have c2:=λτ=>py d.sigs hd e τ he hw;have c3:=λτ=>rf_Nodes e τ he;have c4:=λτ=>si e τ he;have c5:=fun(h:df d.sigs) (h2:shp d.sigs e=true) τ h0=>ly d.sigs h e w τ h2 he hw h0;have hso:=fe (l:=d.sigs);have k1:=qW (d:=d) (e:=e) (w:=w);have k2:=pC (d:=d) (e:=e) (w:=w);have k3:=ua (d:=d) (e:=e) (w:=w);generalize hR:cY d e w=R at k1 k2 k3|-;clear hR;refine gO [3,4] Tryz.func84 (by kernel_rfl) (by conv=>lhs;reduce;dsimp only[iA]) rfl ?_;obtain⟨a,ha⟩:∃a,ct d.sigs=a:=⟨_,rfl⟩;obtain⟨b,hb⟩:∃a,shp d.sigs e=a:=⟨_,rfl⟩;rw[ha] at c1 k1 k2 k3 hso;rw[hb] at c2 k1 k2 k3 c5;clear ha hb;cases a
 ·rw[k1 (.inl rfl),aL];clear k1 k2 k3 c5;repeat' (first|simp -implicitDefEqProofs -dsimp only[go_sem,seval, *]|simp(disch:=omega) only[ah,aj,ao,aA,au,ag,az,aq]|(with_reducible refine Zt λoF hoF hnF hnF'=>?_;try simp only[aa,ne_eq,not_and] at hoF)|with_reducible refine kc1 (c1 _) ?_|refine fin_eq ?_)
 by_cases w0:w<0
 ·rw[k1 (.inr (.inl w0)),aL];clear k1 k2 k3 c5;repeat' (first|simp -implicitDefEqProofs -dsimp only[go_sem,seval, *]|simp(disch:=omega) only[ah,aj,ao,aA,au,ag,az,aq]|(with_reducible refine Zt λoF hoF hnF hnF'=>?_;try simp only[aa,ne_eq,not_and] at hoF)|with_reducible refine kc1 (c1 _) ?_|refine fin_eq ?_)
 by_cases w1:64<w
 ·rw[k1 (.inr (.inr (.inl w1))),aL];clear k1 k2 k3 c5;repeat' (first|simp -implicitDefEqProofs -dsimp only[go_sem,seval,gt_iff_lt, *]|simp(disch:=omega) only[ah,aj,ao,aA,au,ag,az,aq]|(with_reducible refine Zt λoF hoF hnF hnF'=>?_;try simp only[aa,ne_eq,not_and] at hoF)|with_reducible refine kc1 (c1 _) ?_|refine fin_eq ?_)
 cases b
 ·rw[k1 (.inr (.inr (.inr rfl))),aL];clear k1 k2 k3 c5;repeat' (first|simp -implicitDefEqProofs -dsimp only[go_sem,seval,gt_iff_lt, *]|simp(disch:=omega) only[ah,aj,ao,aA,au,ag,az,aq]|(with_reducible refine Zt λoF hoF hnF hnF'=>?_;try simp only[aa,ne_eq,not_and] at hoF)|with_reducible refine kc1 (c1 _) ?_|with_reducible refine kc1 (ACalls.flA (c2 _) ?_) ?_|refine fin_eq ?_)
 have hbad:¬(true=false\/w<0\/64<w\/true=false):=by simp;omega
 by_cases hm:65536<nodes e
 ·rw[k2 hbad (.inl hm),aL];have hm2:(65536:Int)<(nodes e:Nat):=by omega
  clear k1 k2 k3 c5 hbad;repeat' (first|simp -implicitDefEqProofs -dsimp only[go_sem,seval,gt_iff_lt, *]|simp(disch:=omega) only[ah,aj,ao,aA,au,ag,az,aq]|(with_reducible refine Zt λoF hoF hnF hnF'=>?_;try simp only[aa,ne_eq,not_and] at hoF)|with_reducible refine kc1 (c1 _) ?_|with_reducible refine kc1 (ACalls.flA (c2 _) ?_) ?_|with_reducible refine kc1 (ACalls.flA (c3 _) ?_) ?_|refine fin_eq ?_)
 have hm2:¬(65536:Int)<(nodes e:Nat):=by omega
 by_cases hm3:64<deep e
 ·rw[k2 hbad (.inr hm3),aL];have hm4:(64:Int)<(deep e:Nat):=by omega
  clear k1 k2 k3 c5 hbad;repeat' (first|simp -implicitDefEqProofs -dsimp only[go_sem,seval,gt_iff_lt, *]|simp(disch:=omega) only[ah,aj,ao,aA,au,ag,az,aq]|(with_reducible refine Zt λoF hoF hnF hnF'=>?_;try simp only[aa,ne_eq,not_and] at hoF)|with_reducible refine kc1 (c1 _) ?_|with_reducible refine kc1 (ACalls.flA (c2 _) ?_) ?_|with_reducible refine kc1 (ACalls.flA (c3 _) ?_) ?_|with_reducible refine kc1 (ACalls.flA (c4 _) ?_) ?_|refine fin_eq ?_)
 ·rw[k3 hbad (by omega)];have hm4:¬(64:Int)<(deep e:Nat):=by omega
  replace c5:=λτ=>c5 (hso rfl) rfl τ (by omega);obtain⟨⟨x,f⟩,hxf⟩:∃R,size e w=R:=⟨_,rfl⟩;rw[hxf] at c5|-;clear k1 k2 k3 hbad hxf;repeat' (first|simp -implicitDefEqProofs -dsimp only[go_sem,seval,gt_iff_lt, *]|simp(disch:=omega) only[ah,aj,ao,aA,au,ag,az,aq]|(with_reducible refine Zt λoF hoF hnF hnF'=>?_;try simp only[aa,ne_eq,not_and] at hoF)|with_reducible refine kc1 (c1 _) ?_|with_reducible refine kc1 (ACalls.flA (c2 _) ?_) ?_|with_reducible refine kc1 (ACalls.flA (c3 _) ?_) ?_|with_reducible refine kc1 (ACalls.flA (c4 _) ?_) ?_|with_reducible refine kc1 (ACalls.flA (c5 _) ?_) ?_|refine fin_eq ?_)
open Classical in
theorem rf_CheckE(d:Flat)(e:E)(σ:aB)(hd:d.sigs.length<=1000000000000)(he:nodes e<=16777216)(hw:WfE e):C_ 42 [encD d,encE e] σ (.int .i64 (checkE d e)) σ:=by
 have h1:=encEs_eq e;have c1:=λτ=>F8 d e e.w τ hd he hw;have hn:=mN d e e.w;have hc:checkE d e=if (cY d e e.w).2=0/\(e.w=0\/¬(cY d e e.w).1=e) then 90 else (cY d e e.w).2:=rfl
 obtain⟨⟨x,f⟩,hR⟩:∃R,cY d e e.w=R:=⟨_,rfl⟩;rw[hR] at c1 hn hc;simp only at c1 hn hc;have c2:=λτ=>po x e τ (by omega) he;refine gO [2,3] Tryz.func42 (by kernel_rfl) (by conv=>lhs;reduce;dsimp only[iA]) rfl ?_;generalize hC:checkE d e=C at hc|-;generalize hs:same x e=s at c2;clear hR hC hw he hn;by_cases hf:f=0
 ·by_cases he:e.w=0
  ·rw[if_pos ⟨hf, .inl he⟩] at hc;clear hs;repeat' (first|simp -implicitDefEqProofs -dsimp only[go_sem,seval, *]|(with_reducible refine Zt λoF hoF hnF hnF'=>?_;try simp only[aa,ne_eq,not_and] at hoF)|with_reducible refine kc1 (ACalls.flA (c1 _) ?_) ?_|refine fin_eq ?_)
  ·have hb:(e.w==0)=false:=by simpa using he
   cases s
   ·rw[if_pos ⟨hf, .inr (fc.1 hs)⟩] at hc;clear hs he;repeat' (first|simp -implicitDefEqProofs -dsimp only[go_sem,seval, *]|(with_reducible refine Zt λoF hoF hnF hnF'=>?_;try simp only[aa,ne_eq,not_and] at hoF)|with_reducible refine kc1 (ACalls.flA (c1 _) ?_) ?_|with_reducible refine kc1 (ACalls.flA (c2 _) ?_) ?_|refine fin_eq ?_)
   ·rw[if_neg (λh=>by rcases h.2 with q|q;exact he q;exact q (d7.1 hs))] at hc
    clear hs he;repeat' (first|simp -implicitDefEqProofs -dsimp only[go_sem,seval, *]|(with_reducible refine Zt λoF hoF hnF hnF'=>?_;try simp only[aa,ne_eq,not_and] at hoF)|with_reducible refine kc1 (ACalls.flA (c1 _) ?_) ?_|with_reducible refine kc1 (ACalls.flA (c2 _) ?_) ?_|refine fin_eq ?_)
 ·have hb:(f != 0)=true:=by simpa using hf
  rw[if_neg (λh=>hf h.1)] at hc;clear hs hf;repeat' (first|simp -implicitDefEqProofs -dsimp only[go_sem,seval, *]|(with_reducible refine Zt λoF hoF hnF hnF'=>?_;try simp only[aa,ne_eq,not_and] at hoF)|with_reducible refine kc1 (ACalls.flA (c1 _) ?_) ?_|refine fin_eq ?_)
end Go.Proofs.YtbbihmmobfmadaaGreat.S
