/- sized: contracts: the document's expressions of designs. -/
import Derived.Test.YtbbihmmobfmadaaGreatWSzMain
import Derived.Test.YtbbihmmobfmadaaGreatWBlzSizJ
import Derived.Test.YtbbihmmobfmadaaGreatWAbsX
set_option linter.unusedSimpArgs false
set_option linter.unusedVariables false
set_option maxHeartbeats 4000000
set_option maxRecDepth 50000
namespace Go.Proofs.YtbbihmmobfmadaaGreat.S
open Abs Fil Fil.Sz
theorem HP(l:List Int)(i:Nat)(v:Int)(h:i<l.length):List.take (i*1) (l.map encInt)++[AV.int .i64 v]++List.drop (i*1+1) (l.map encInt)=(l.set i v).map encInt:=by
 have h1:(l.set i v).map encInt=(l.map encInt).set i (encInt v):=by rw[List.map_set]
 rw[h1,List.set_eq_take_append_cons_drop];simp[h]
theorem uW(l:List Int)(v:Int)(h:0<l.length):AV.int .i64 v::List.drop 1 (l.map encInt)=(l.set 0 v).map encInt:=by
 cases l with
 |nil=>simp at h
 |cons a l=>rfl
theorem HQ(n:Nat):(List.replicate n [AV.int .i64 0]).flatten=(List.replicate n (0:Int)).map encInt:=by
 induction n with
 |zero=>rfl
 |succ n ih=>simp only[List.replicate_succ,List.flatten_cons,ih,List.map_cons];rfl
theorem iJ(l:List Int):flat (l.map encInt)=l.map encInt:=by
 induction l with
 |nil=>rfl
 |cons a l ih=>rw[List.map_cons,c7,ih];rfl
theorem HR(l:List Int):∀x∈l.map encInt,(az x).length=1:=λx hx=>by
 obtain⟨a,_,rfl⟩:=List.mem_map.1 hx;rfl
def jO(w:Int)(c:List Int)(i:Nat):List Int:=List.replicate i w++c.drop i
theorem AX(w:Int)(c:List Int){i:Nat}(h:i<=c.length):(jO w c i).length=c.length:=by simp[jO];omega
theorem xB(w:Int)(c:List Int){i:Nat}(h:i<c.length):(jO w c i).set i w=jO w c (i+1):=by
 unfold jO;rw[List.drop_eq_getElem_cons h,List.replicate_succ',List.set_append_right _ _ (by simp),List.length_replicate,Nat.sub_self,List.set_cons_zero];simp
theorem AY(w:Int)(c:List Int):jO w c c.length=List.replicate c.length w:=by simp[jO]
theorem Lo(w:Int)(b o n:Nat)(c:List Int)(σ:aA)(hb:σ b=some (.cells [.vec o n]))(ho:σ o=some (.vec 1 n (c.map encInt)))(hc:c.length=n)(hn:n<=1000000000000)(h1:¬b=o)(h2:¬o=b):
  C_ 230 [.int .i64 w, .ptr b 0] σ (.tup []) (aH σ o (.vec 1 n ((List.replicate n w).map encInt))):=by
 refine gO [] Tryz.func230 (by kernel_rfl) (by conv=>lhs;reduce;dsimp only[iA]) rfl ?_;repeat' simp -implicitDefEqProofs -dsimp only[go_sem,seval, *]
 refine loop_rule (λi:Nat=>[(6,some (.int .i64 i)),(5,some (.int .i64 n)),(1,some (.ptr b 0)),(0,some (.int .i64 w))]) (λi=>aH σ o (.vec 1 n ((jO w c i).map encInt))) (λi=>i<=n) (λi=>n-i) 0 ?_ ?_
 ·have e0:jO w c 0=c:=rfl;(repeat' (first|simp -implicitDefEqProofs -dsimp only[go_sem,seval, *]|omega))
 ·intro i hi;have hl:=AX w c (i:=i) (by omega);by_cases hlt:i<n
  ·have hp:=HP (jO w c i) i w (by omega);rw[xB w c (by omega)] at hp;have hlt':(i:Int)<n:=by omega
   generalize hd:jO w c i=d at hp hl|-;clear hd;repeat' (first|simp -implicitDefEqProofs -dsimp only[go_sem,seval, *]|simp(disch:=omega) only[ah,aj,ao,aw,ar,ag,au,aq]|with_reducible refine Zv ?_ ?_|with_reducible refine lnx (i+1) ?_|with_reducible refine And.intro ?_ ?_|omega)
  ·have ei:i=n:=by omega
   subst ei;have hlt':¬(i:Int)<i:=by omega
   have hs:=AY w c;rw[hc] at hs;rw[hs];repeat' (first|simp -implicitDefEqProofs -dsimp only[go_sem,seval, *]|refine fin_eq ?_)
theorem eO{v:AV}{σ τ:aA}{o n:Nat}{l:List Int}(h:σ o=some (.vec 1 n (l.map encInt)))(hl:l.length=n)(hv:v= .tup [.vec o n, .int .i64 0])(hs:nA [] τ (aH σ o (.grow 1 n))):
  fin (λr s=>r= .ret (.tup [.slice (l.map encInt) .no, .int .i64 0])/\s=τ) v σ:=by
 subst hv;refine HO o (sz:=1) (n:=n) (cs:=l.map encInt) (l:=l.map encInt) (v0:= .tup [.slice (l.map encInt) .no, .int .i64 0]) (v1:= .tup [.slice (l.map encInt) .no, .int .i64 0]) (τ:=τ) h (iJ l) (by simpa using hl) (HR l) ?_ (by simp -implicitDefEqProofs -dsimp only[go_sem,seval]) hs ⟨rfl,rfl⟩;refine .tup _ _ rfl ?_;intro a a0 a1;match a,a0 with
 |0,_=>exact .base _ _ ⟨rfl, .inr rfl⟩
 |1,_=>exact .refl _
def uX:Option (List Int)->AV
 |none=> .tup [.slice [] .no, .int .i64 90]
 |some ws=> .tup [.slice (ws.map encInt) .no, .int .i64 0]
theorem AZ(g:List Sg)(hg:dg g)(e:E)(w:Int)(σ:aA)(hs:shp g e=true)(he:nodes e<=16777216):C_ 199 [encE e, .int .i64 w] σ (uX (cX e w)) σ:=by
 have h1:=encEs_eq e;have l1:=len_nodes e;have hown:=λτ=>xz g hg e τ hs he;have hns:=bK e;have hfst:=λτ=>D8 g hg e.l (λx hx=>aY hs hx) (by omega) τ;have htold:=λτ=>tj (cF (e.l.map own)) 32 τ;have hnd:=d8 hs;clear hs hns;obtain⟨n,hn⟩:∃n,e.l.length=n:=⟨_,rfl⟩;have hrep:=HQ n;have hset:=λv b o τ h2 h3 h4 h5=>Lo v b o n (List.replicate n 0) τ h2 h3 (by simp) (by omega) h4 h5;have vn:uX none= .tup [.slice [] .no, .int .i64 90]:=rfl;have vs:∀ws,uX (some ws)= .tup [.slice (ws.map encInt) .no, .int .i64 0]:=λ_=>rfl;refine gO [2,4012] Tryz.func199 (by kernel_rfl) (by conv=>lhs;reduce;dsimp only[iA,iB]) rfl ?_;by_cases hA:e.op=1\/e.op=2\/e.op=3\/e.op=8
 ·have h6:(e.op==6)=false:=by simp;omega
  have h7:(e.op==7)=false:=by simp;omega
  have h4:(e.op==4)=false:=by simp;omega
  have h5:(e.op==5)=false:=by simp;omega
  rw[kP hA,hn];clear hnd hfst htold hset hA;by_cases hw:own e=w
  ·have hb:(own e != w)=false:=by simp[hw]
   rw[if_neg (by omega),vs];rw[hw] at hown;clear hw hb;repeat' (first|simp -implicitDefEqProofs -dsimp only[go_sem,seval, *]|with_reducible refine Zv ?_ ?_|(with_reducible refine Zt λoF hoF hnF hnF'=>?_;try simp only[aa,ne_eq,not_and] at hoF)|refine kc1 (ACalls.flA (hown _) ?_) ?_|omega)
   refine eO (l:=List.replicate n 0) ?_ ?_ rfl ?_
   ·simp -implicitDefEqProofs -dsimp only[go_sem,seval, *]
   ·simp
   ·(repeat' simp -implicitDefEqProofs -dsimp only[go_sem,seval, *])
  ·have hb:(own e != w)=true:=by simp[hw]
   rw[if_pos hw,vn];clear hw;repeat' (first|simp -implicitDefEqProofs -dsimp only[go_sem,seval, *]|with_reducible refine Zv ?_ ?_|(with_reducible refine Zt λoF hoF hnF hnF'=>?_;try simp only[aa,ne_eq,not_and] at hoF)|refine kc1 (ACalls.flA (hown _) ?_) ?_|refine fin_eq ?_|with_reducible refine And.intro ?_ ?_|omega)
 by_cases h7:e.op=7
 ·rw[s9 h7,hn];clear hnd hfst htold hset hA;by_cases hz:own e=0
  ·rw[if_pos (.inl hz),vn];rw[hz] at hown;clear hz;repeat' (first|simp -implicitDefEqProofs -dsimp only[go_sem,seval, *]|with_reducible refine Zv ?_ ?_|(with_reducible refine Zt λoF hoF hnF hnF'=>?_;try simp only[aa,ne_eq,not_and] at hoF)|refine kc1 (ACalls.flA (hown _) ?_) ?_|refine fin_eq ?_|with_reducible refine And.intro ?_ ?_|omega)
  by_cases hw:own e=w
  ·have hz2:(w==0)=false:=by simp;omega
   rw[hw] at hown hz|-;by_cases h64:64<w
   ·rw[if_pos (.inr (.inr h64)),vn];repeat' (first|simp -implicitDefEqProofs -dsimp only[go_sem,seval,gt_iff_lt, *]|with_reducible refine Zv ?_ ?_|(with_reducible refine Zt λoF hoF hnF hnF'=>?_;try simp only[aa,ne_eq,not_and] at hoF)|refine kc1 (ACalls.flA (hown _) ?_) ?_|refine fin_eq ?_|with_reducible refine And.intro ?_ ?_|omega)
   ·rw[if_neg (by omega),vs];repeat' (first|simp -implicitDefEqProofs -dsimp only[go_sem,seval,gt_iff_lt, *]|with_reducible refine Zv ?_ ?_|(with_reducible refine Zt λoF hoF hnF hnF'=>?_;try simp only[aa,ne_eq,not_and] at hoF)|refine kc1 (ACalls.flA (hown _) ?_) ?_|omega)
    refine eO (l:=List.replicate n 0) ?_ ?_ rfl ?_
    ·simp -implicitDefEqProofs -dsimp only[go_sem,seval, *]
    ·simp
    ·(repeat' simp -implicitDefEqProofs -dsimp only[go_sem,seval, *])
  ·have hz2:(own e==0)=false:=by simp[hz]
   have hw2:(own e != w)=true:=by simp[hw]
   rw[if_pos (.inr (.inl hw)),vn];clear hw hz;repeat' (first|simp -implicitDefEqProofs -dsimp only[go_sem,seval, *]|with_reducible refine Zv ?_ ?_|(with_reducible refine Zt λoF hoF hnF hnF'=>?_;try simp only[aa,ne_eq,not_and] at hoF)|refine kc1 (ACalls.flA (hown _) ?_) ?_|refine fin_eq ?_|with_reducible refine And.intro ?_ ?_|omega)
 by_cases h6:e.op=6
 ·have h3:n=3:=by
   cases hnd<;>first|omega|skip
   rename_i hl;rw[hl] at hn;simpa using hn.symm
  rw[s8 h6,vs];have hq:(List.replicate n w).set 0 (-1)=[-1,w,w]:=by subst h3;rfl
  have hp:=uW (List.replicate n w) (-1) (by simp;omega);rw[<-hq];have hn0:(0:Int)<n:=by omega
  have hn1:1<=n:=by omega
  clear hnd hfst htold hown hA hq h3;repeat' (first|simp -implicitDefEqProofs -dsimp only[go_sem,seval, *]|with_reducible refine Zv ?_ ?_|(with_reducible refine Zt λoF hoF hnF hnF'=>?_;try simp only[aa,ne_eq,not_and] at hoF)|omega)
  rename_i ox hox nx1 nx2
  obtain⟨ob,eob⟩:∃x,x=oF:=⟨oF,rfl⟩;subst eob;obtain⟨q1,q2⟩:=hoF;have q3:¬ox=ob:=λe=>q1 e.symm;clear nx1 nx2 hnF hnF';repeat' (first|simp -implicitDefEqProofs -dsimp only[go_sem,seval,List.length_replicate, *]|refine kc1 (hset w ob ox _ ?_ ?_ q1 q3) ?_)
  refine eO (l:=(List.replicate n w).set 0 (-1)) ?_ ?_ rfl ?_
  ·simp -implicitDefEqProofs -dsimp only[go_sem,seval, *]
  ·simp
  ·(repeat' simp -implicitDefEqProofs -dsimp only[go_sem,seval, *])
 have hop:e.op=4\/e.op=5:=by cases hnd<;>omega
 have hln:e.op=5->n=2:=λh=>by
  cases hnd<;>first|omega|skip
  rename_i hl _ _;rw[hl] at hn;simpa using hn.symm
 have hun:e.op=4->e.n<=6:=λh=>by cases hnd<;>omega
 rw[gN hop,hn];clear hnd hown hA;by_cases c1:e.n=6\/e.n=25\/e.n=26
 ·rw[if_pos c1];clear hfst htold hln hun;by_cases hw:w=1
  ·rw[if_neg (by omega),vs];have hw2:(w != 1)=false:=by simp[hw]
   clear hw;rcases hop with ho|ho<;>rcases c1 with c|c|c
   all_goals
    repeat' (first|simp -implicitDefEqProofs -dsimp only[go_sem,seval, *]|with_reducible refine Zv ?_ ?_|(with_reducible refine Zt λoF hoF hnF hnF'=>?_;try simp only[aa,ne_eq,not_and] at hoF)|omega)
    rename_i ox hox nx1 nx2
    obtain⟨ob,eob⟩:∃x,x=oF:=⟨oF,rfl⟩;subst eob;obtain⟨q1,q2⟩:=hoF;have q3:¬ox=ob:=λe=>q1 e.symm;clear nx1 nx2 hnF hnF';repeat' (first|simp -implicitDefEqProofs -dsimp only[go_sem,seval, *]|refine kc1 (hset (-1) ob ox _ ?_ ?_ q1 q3) ?_)
    refine eO (l:=List.replicate n (-1)) ?_ ?_ rfl ?_
    ·simp -implicitDefEqProofs -dsimp only[go_sem,seval, *]
    ·simp
    ·(repeat' simp -implicitDefEqProofs -dsimp only[go_sem,seval, *])
  ·rw[if_pos hw,vn];have hw2:(w != 1)=true:=by simp[hw]
   clear hw;rcases hop with ho|ho<;>rcases c1 with c|c|c
   all_goals
    repeat' (first|simp -implicitDefEqProofs -dsimp only[go_sem,seval, *]|with_reducible refine Zv ?_ ?_|(with_reducible refine Zt λoF hoF hnF hnF'=>?_;try simp only[aa,ne_eq,not_and] at hoF)|omega)
    rename_i ox hox nx1 nx2
    obtain⟨ob,eob⟩:∃x,x=oF:=⟨oF,rfl⟩;subst eob;obtain⟨q1,q2⟩:=hoF;have q3:¬ox=ob:=λe=>q1 e.symm;clear nx1 nx2 hnF hnF';repeat' (first|simp -implicitDefEqProofs -dsimp only[go_sem,seval, *]|refine kc1 (hset (-1) ob ox _ ?_ ?_ q1 q3) ?_|refine fin_eq ?_)
 by_cases c2:e.n=3\/e.n=4\/e.n=5
 ·rw[if_neg c1,if_pos c2];clear hfst htold hset hln hun c1;by_cases hw:w=1
  ·rw[if_neg (by omega),vs];have hw2:(w != 1)=false:=by simp[hw]
   clear hw;rcases hop with ho|ho<;>rcases c2 with c|c|c
   all_goals
    repeat' (first|simp -implicitDefEqProofs -dsimp only[go_sem,seval, *]|with_reducible refine Zv ?_ ?_|(with_reducible refine Zt λoF hoF hnF hnF'=>?_;try simp only[aa,ne_eq,not_and] at hoF)|omega)
    refine eO (l:=List.replicate n 0) ?_ ?_ rfl ?_
    ·simp -implicitDefEqProofs -dsimp only[go_sem,seval, *]
    ·simp
    ·(repeat' simp -implicitDefEqProofs -dsimp only[go_sem,seval, *])
  ·rw[if_pos hw,vn];have hw2:(w != 1)=true:=by simp[hw]
   clear hw;rcases hop with ho|ho<;>rcases c2 with c|c|c
   all_goals
    repeat' (first|simp -implicitDefEqProofs -dsimp only[go_sem,seval, *]|with_reducible refine Zv ?_ ?_|(with_reducible refine Zt λoF hoF hnF hnF'=>?_;try simp only[aa,ne_eq,not_and] at hoF)|refine fin_eq ?_|with_reducible refine And.intro ?_ ?_|omega)
 by_cases c3:19<=e.n/\e.n<=24
 ·rw[if_neg c1,if_neg c2,if_pos c3]
  have ho:e.op=5:=by
   rcases hop with h|h
   ·have:=hun h;omega
   ·exact h
  have c4:e.n=19\/e.n=20\/e.n=21\/e.n=22\/e.n=23\/e.n=24:=by omega
  generalize hF:cF (e.l.map own)=F at hfst htold|-;generalize hK:cw F 32=K at htold|-;clear hop hln hun c1 c2 c3 hF hK;by_cases hw:w=1
  ·rw[if_neg (by omega),vs];have hw2:(w != 1)=false:=by simp[hw]
   clear hw;rcases c4 with c|c|c|c|c|c
   all_goals
    repeat' (first|simp -implicitDefEqProofs -dsimp only[go_sem,seval, *]|with_reducible refine Zv ?_ ?_|(with_reducible refine Zt λoF hoF hnF hnF'=>?_;try simp only[aa,ne_eq,not_and] at hoF)|refine kc1 (hfst _) ?_|refine kc1 (htold _) ?_|omega)
    rename_i ox hox nx1 nx2
    obtain⟨ob,eob⟩:∃x,x=oF:=⟨oF,rfl⟩;subst eob;obtain⟨q1,q2⟩:=hoF;have q3:¬ox=ob:=λe=>q1 e.symm;clear nx1 nx2 hnF hnF';repeat' (first|simp -implicitDefEqProofs -dsimp only[go_sem,seval, *]|refine kc1 (hset K ob ox _ ?_ ?_ q1 q3) ?_)
    refine eO (l:=List.replicate n K) ?_ ?_ rfl ?_
    ·simp -implicitDefEqProofs -dsimp only[go_sem,seval, *]
    ·simp
    ·(repeat' simp -implicitDefEqProofs -dsimp only[go_sem,seval, *])
  ·rw[if_pos hw,vn];have hw2:(w != 1)=true:=by simp[hw]
   clear hw;rcases c4 with c|c|c|c|c|c
   all_goals
    repeat' (first|simp -implicitDefEqProofs -dsimp only[go_sem,seval, *]|with_reducible refine Zv ?_ ?_|(with_reducible refine Zt λoF hoF hnF hnF'=>?_;try simp only[aa,ne_eq,not_and] at hoF)|refine fin_eq ?_|with_reducible refine And.intro ?_ ?_|omega)
 by_cases c4:e.n=17\/e.n=18
 ·rw[if_neg c1,if_neg c2,if_neg c3,if_pos c4,vs]
  have ho:e.op=5:=by
   rcases hop with h|h
   ·have:=hun h;omega
   ·exact h
  have hn2:=hln ho;have hq:(List.replicate n (0:Int)).set 0 w=[w,0]:=by subst hn2;rfl
  have hp:=uW (List.replicate n 0) w (by simp;omega);have hn0:(0:Int)<n:=by omega
  have hn1:1<=n:=by omega
  rw[<-hq];clear hop hln hun c1 c2 c3 hq hn2 hfst htold hset;rcases c4 with c|c
  all_goals
   repeat' (first|simp -implicitDefEqProofs -dsimp only[go_sem,seval,List.length_replicate, *]|with_reducible refine Zv ?_ ?_|(with_reducible refine Zt λoF hoF hnF hnF'=>?_;try simp only[aa,ne_eq,not_and] at hoF)|omega)
   refine eO (l:=(List.replicate n 0).set 0 w) ?_ ?_ rfl ?_
   ·simp -implicitDefEqProofs -dsimp only[go_sem,seval, *]
   ·simp
   ·(repeat' simp -implicitDefEqProofs -dsimp only[go_sem,seval, *])
 ·rw[if_neg c1,if_neg c2,if_neg c3,if_neg c4,vs];have e1:(e.n==6)=false:=by simp;omega
  have e2:(e.n==25)=false:=by simp;omega
  have e3:(e.n==26)=false:=by simp;omega
  have e4:(e.n==3)=false:=by simp;omega
  have e5:(e.n==4)=false:=by simp;omega
  have e6:(e.n==5)=false:=by simp;omega
  have e7:(e.n==19)=false:=by simp;omega
  have e8:(e.n==20)=false:=by simp;omega
  have e9:(e.n==21)=false:=by simp;omega
  have e10:(e.n==22)=false:=by simp;omega
  have e11:(e.n==23)=false:=by simp;omega
  have e12:(e.n==24)=false:=by simp;omega
  have e13:(e.n==17)=false:=by simp;omega
  have e14:(e.n==18)=false:=by simp;omega
  clear hln hun c1 c2 c3 c4 hfst htold;rcases hop with ho|ho
  all_goals
   repeat' (first|simp -implicitDefEqProofs -dsimp only[go_sem,seval, *]|with_reducible refine Zv ?_ ?_|(with_reducible refine Zt λoF hoF hnF hnF'=>?_;try simp only[aa,ne_eq,not_and] at hoF)|omega)
   rename_i ox hox nx1 nx2
   obtain⟨ob,eob⟩:∃x,x=oF:=⟨oF,rfl⟩;subst eob;obtain⟨q1,q2⟩:=hoF;have q3:¬ox=ob:=λe=>q1 e.symm;clear nx1 nx2 hnF hnF';repeat' (first|simp -implicitDefEqProofs -dsimp only[go_sem,seval, *]|refine kc1 (hset w ob ox _ ?_ ?_ q1 q3) ?_)
   refine eO (l:=List.replicate n w) ?_ ?_ rfl ?_
   ·simp -implicitDefEqProofs -dsimp only[go_sem,seval, *]
   ·simp
   ·(repeat' simp -implicitDefEqProofs -dsimp only[go_sem,seval, *])
end Go.Proofs.YtbbihmmobfmadaaGreat.S
namespace Go.Proofs.YtbbihmmobfmadaaGreat.S
open Abs Fil Fil.Sz
abbrev zN:List AV:=[.int .i64 0, .int .i64 0, .int .u64 0, .int .i64 0, .int .i64 0, .int .i64 0, .int .i64 0, .slice [] .nil]
def qg(X:List E)(k:Nat):List AV:=flat (X.map encE)++(List.replicate k zN).flatten
theorem D9(X:List E)(x:E)(k:Nat):List.take (X.length*8) (qg X (k+1))++eL x++List.drop (X.length*8+8) (qg X (k+1))=qg (X++[x]) k:=by
 have hl:(flat (X.map encE)).length=X.length*8:=jc encE 8 (λ_=>rfl) X;unfold qg;rw[List.replicate_succ,List.flatten_cons];have e1:List.take (X.length*8) (flat (X.map encE)++(zN++(List.replicate k zN).flatten))=flat (X.map encE):=by rw[<-hl];simp
 have e2:List.drop (X.length*8+8) (flat (X.map encE)++(zN++(List.replicate k zN).flatten))=(List.replicate k zN).flatten:=by
  rw[<-hl,<-List.drop_drop,List.drop_left];rfl
 rw[e1,e2,List.map_append,fP];simp only[List.append_assoc];rfl
theorem A0(n:Nat):qg [] n=(List.replicate n zN).flatten:=rfl
theorem Ea(X:List E):qg X 0=flat (X.map encE):=by simp[qg]
theorem Eb(X:List E)(k:Nat):(qg X k).length=(X.length+k)*8:=by
 have hl:(flat (X.map encE)).length=X.length*8:=jc encE 8 (λ_=>rfl) X
 have h2:∀k,((List.replicate k zN).flatten).length=k*8:=λk=>by
  induction k with
  |zero=>rfl
  |succ k ih=>rw[List.replicate_succ,List.flatten_cons,List.length_append,ih,Nat.succ_mul];simp;omega
 unfold qg;rw[List.length_append,hl,h2];omega
theorem uY:∀(X:List E),fk true 8 X.length (flat (X.map encE))=some (X.map encE)
 |[]=>rfl
 |x::X=>by
  have ih:=uY X;simp only[List.length_cons,List.map_cons,c7,fk];have e1:List.take 8 (az (encE x)++flat (X.map encE))=eL x:=rfl;have e2:List.drop 8 (az (encE x)++flat (X.map encE))=flat (X.map encE):=rfl;rw[e1,e2,ih];rfl
theorem aL:encE zE= .agg [.int .i64 0, .int .i64 0, .int .u64 0, .int .i64 0, .int .i64 0, .int .i64 0, .int .i64 0, .slice [] .no]:=by
 have e:jF zE=[]:=by rw[encEs_eq];rfl
 simp only[encE,eL,e];rfl
theorem uZ(w v:Int):encE (.mk 1 w v 0 0 0 0 [])= .agg [.int .i64 1, .int .i64 w, .int .u64 v, .int .i64 0, .int .i64 0, .int .i64 0, .int .i64 0, .slice [] .no]:=by
 have e:jF (.mk 1 w v 0 0 0 0 [])=[]:=by rw[encEs_eq];rfl
 simp only[encE,eL,e];rfl
theorem cR(e:E)(w:Int)(X:List E):encE (e.set w X)= .agg [.int .i64 e.op, .int .i64 w, .int .u64 e.v, .int .i64 e.sig, .int .i64 e.hi, .int .i64 e.lo, .int .i64 e.n, .slice (X.map encE) .no]:=by
 have h:jF (e.set w X)=X.map encE:=by rw[encEs_eq];rfl
 simp only[encE,eL,h];rfl
theorem yQ(g:List Sg)(hg:dg g)(e:E):∀(w:Int) (σ:aA),shp g e=true->nodes e<=16777216->WfE e-> -1<=w->C_ 142 [encE e, .int .i64 w] σ (.tup [encE (size e w).1, .int .i64 (size e w).2]) σ:=by
 refine E.ind (P:=λe=>∀(w:Int) (σ:aA),shp g e=true->nodes e<=16777216->WfE e-> -1<=w->C_ 142 [encE e, .int .i64 w] σ (.tup [encE (size e w).1, .int .i64 (size e w).2]) σ) (λe ih w σ hs he hw h0=>?_) e;have h1:=encEs_eq e;have l1:=len_nodes e;have hown:=λτ=>xz g hg e τ hs he;have hwp:=lK (bI hg e hs) h0;have ht1:=λτ=>tj (own e) 32 τ;have ht2:=λw τ=>tj w (cw (own e) 32) τ;have hwd:wide e w=cw (if w= -1 then 1 else w) (cw (own e) 32):=rfl;have hwant:=λτ=>AZ g hg e (wide e w) τ hs he;have hv64:=((WfE_iff e).1 hw).1.2.2.1;have hh:=λτ h=>lU (wide e w) e.v τ h hv64;have hsub:=fun(x:E) (hx:x∈e.l) w τ h=>ih x hx w τ (aY hs hx) (by have:=part_nodes hx;omega) (((WfE_iff e).1 hw).2 x hx) h;clear ih hw;refine gO [4055,7113] Tryz.func142 (by kernel_rfl) (by conv=>lhs;reduce;dsimp only[iA,iB]) rfl ?_;by_cases hbit:w= -1/\1<own e
 ·obtain⟨rfl,hb⟩:=hbit;rw[pN hb,aL];clear hsub hh hwant ht1 ht2;repeat' (first|simp(maxDischargeDepth:=9) -implicitDefEqProofs -dsimp only[go_sem,seval,gt_iff_lt, *]|simp(disch:=omega) only[ah,aj,ao,aw,ar,ag,au,aq]|(with_reducible refine Zt λoF hoF hnF hnF'=>?_;try simp only[aa,ne_eq,not_and] at hoF)|with_reducible refine kc1 (ACalls.flA (hown _) ?_) ?_|refine fin_eq ?_)
 have hhead:∃w',w'=(if w= -1 then 1 else w):=⟨_,rfl⟩;obtain⟨w',hw'⟩:=hhead;rw[<-hw'] at hwd;obtain⟨W,hW⟩:∃W,wide e w=W:=⟨_,rfl⟩;obtain⟨o,ho⟩:∃o,own e=o:=⟨_,rfl⟩;obtain⟨t1,ht1'⟩:∃t,cw o 32=t:=⟨_,rfl⟩;rw[ho,ht1',hW] at hwd;rw[ho] at hown;rw[ho,ht1'] at ht1 ht2;have hw2:cw w' t1=W:=hwd.symm
 have hcase:(w= -1/\w'=1/\¬1<o)\/((w== -1)=false/\w'=w):=by
  by_cases hm1:w= -1
  ·exact .inl ⟨hm1,by rw[hw',if_pos hm1],λh=>hbit ⟨hm1,by rw[ho];exact h⟩⟩
  ·exact .inr ⟨by simp[hm1],by rw[hw',if_neg hm1]⟩
 rw[hW] at hh hwant hwp;clear hw' hwd ht1';by_cases hnum:e.op=1/\e.w=0
 ·rw[uK hbit hnum.1 hnum.2,hW];obtain⟨n1,n2⟩:=hnum;generalize hb:holds W e.v=b at hh|-;clear hsub hwant hb hbit hW ho;cases b
  ·rw[if_neg (by simp),aL];rcases hcase with ⟨rfl,rfl,h3⟩|⟨h3,rfl⟩
   all_goals
    repeat' (first|simp(maxDischargeDepth:=9) -implicitDefEqProofs -dsimp only[go_sem,seval,gt_iff_lt, *]|simp(disch:=omega) only[ah,aj,ao,aw,ar,ag,au,aq]|(with_reducible refine Zt λoF hoF hnF hnF'=>?_;try simp only[aa,ne_eq,not_and] at hoF)|with_reducible refine kc1 (ht1 _) ?_|with_reducible refine kc1 (ht2 _ _) ?_|with_reducible refine kc1 (hh _ ?_) ?_|with_reducible refine kc1 (ACalls.flA (hown _) ?_) ?_|refine fin_eq ?_|omega)
  ·rw[if_pos rfl,uZ];rcases hcase with ⟨rfl,rfl,h3⟩|⟨h3,rfl⟩
   all_goals
    repeat' (first|simp(maxDischargeDepth:=9) -implicitDefEqProofs -dsimp only[go_sem,seval,gt_iff_lt, *]|simp(disch:=omega) only[ah,aj,ao,aw,ar,ag,au,aq]|(with_reducible refine Zt λoF hoF hnF hnF'=>?_;try simp only[aa,ne_eq,not_and] at hoF)|with_reducible refine kc1 (ht1 _) ?_|with_reducible refine kc1 (ht2 _ _) ?_|with_reducible refine kc1 (hh _ ?_) ?_|with_reducible refine kc1 (ACalls.flA (hown _) ?_) ?_|refine fin_eq ?_|omega)
 ·have hp:((e.op==1)=true/\(e.w==0)=false)\/(e.op==1)=false:=by
   by_cases h:e.op=1
   ·exact .inl ⟨by simp[h],by simp;omega⟩
   ·exact .inr (by simp[h])
  cases hws:cX e W with
  |none=>
   rw[rQ hbit hnum (by rw[hW];exact hws),aL];rw[hws] at hwant;have vn:uX none= .tup [.slice [] .no, .int .i64 90]:=rfl;rw[vn] at hwant;clear hsub hh hbit hW ho hws vn hnum;rcases hp with ⟨p1,p2⟩|p1<;>rcases hcase with ⟨rfl,rfl,h3⟩|⟨h3,rfl⟩
   all_goals
    repeat' (first|simp(maxDischargeDepth:=9) -implicitDefEqProofs -dsimp only[go_sem,seval,gt_iff_lt, *]|simp(disch:=omega) only[ah,aj,ao,aw,ar,ag,au,aq]|(with_reducible refine Zt λoF hoF hnF hnF'=>?_;try simp only[aa,ne_eq,not_and] at hoF)|with_reducible refine kc1 (ht1 _) ?_|with_reducible refine kc1 (ht2 _ _) ?_|with_reducible refine kc1 (ACalls.flA (hown _) ?_) ?_|with_reducible refine kc1 (ACalls.flA (hwant _) ?_) ?_|refine fin_eq ?_)
  |some ws=>
   have hsz:=mK hbit hnum (by rw[hW];exact hws);have hwt:=lL hs hws;have hwl:=mI hs hwt;have hge:=yG hg hs hwp hwt;rw[hws] at hwant;have vs:uX (some ws)= .tup [.slice (ws.map encInt) .no, .int .i64 0]:=rfl;rw[vs] at hwant
   have hext1:e.op=8->e.l.length=1:=λh=>by
    cases d8 hs<;>first|omega|skip
    rename_i hl _ _ _ _;rw[hl];rfl
   have kE:∀i,(h1:i<e.l.length)->(h2:i<ws.length)->(∀j,(h3:j<e.l.length)->(h4:j<ws.length)->j<i->(size e.l[j] ws[j]).2=0)->(size e.l[i] ws[i]).2≠0->size e w=(zE,(size e.l[i] ws[i]).2):=λi h1 h2 h3 h4=>by
    rw[hsz,pM h1 h2 (λj hj=>h3 j (by omega) (by omega) hj) h4,jl,if_pos h4]
   have kA:=λh=>uJ (l:=e.l) (ws:=ws) hwl h
   have kO:(∀j,(h3:j<e.l.length)->(h4:j<ws.length)->(size e.l[j] ws[j]).2=0)->¬(e.op=8/\(e.n=33/\dM (dj e.l ws e.l.length)<W\/e.n≠33/\W<dM (dj e.l ws e.l.length)))->size e w=(e.set W (dj e.l ws e.l.length),0):=λh h2=>by
    rw[hsz,kA h,jl,if_neg (by simp),hW,if_neg h2]
   have kB:(∀j,(h3:j<e.l.length)->(h4:j<ws.length)->(size e.l[j] ws[j]).2=0)->(e.op=8/\(e.n=33/\dM (dj e.l ws e.l.length)<W\/e.n≠33/\W<dM (dj e.l ws e.l.length)))->size e w=(zE,90):=λh h2=>by
    rw[hsz,kA h,jl,if_neg (by simp),hW,if_pos h2]
   have kr:=λi hi=>mJ (l:=e.l) (ws:=ws) hwl (i:=i) hi;have ks:=λi h1 h2=>pL (l:=e.l) (ws:=ws) (i:=i) h1 h2;generalize hR:size e w=R at kE kO kB|-;have hn1:e.l.length<=16777216:=by omega
   have hrz:=A0 e.l.length;clear hh hbit hws vs hnum hwt he hs ho hR hsz kA hW;rcases hp with ⟨p1,p2⟩|p1<;>rcases hcase with ⟨rfl,rfl,h3⟩|⟨h3,rfl⟩
   all_goals
    repeat' (first|simp(maxDischargeDepth:=9) -implicitDefEqProofs -dsimp only[go_sem,seval, *]|(with_reducible refine Zt λoF hoF hnF hnF'=>?_;try simp only[aa,ne_eq,not_and] at hoF))
    rename_i o2 ho2 nx1 nx2
    obtain⟨o4,e4⟩:∃x,x=oF:=⟨oF,rfl⟩;subst e4;obtain⟨a1,ho4⟩:=hoF;have a2:¬o2=o4:=λe=>a1 e.symm;clear nx1 nx2 hnF hnF';repeat' (first|simp(maxDischargeDepth:=9) -implicitDefEqProofs -dsimp only[go_sem,seval,gt_iff_lt, *]|with_reducible refine Zv ?_ ?_|(with_reducible refine Zt λoF hoF hnF hnF'=>?_;try simp only[aa,ne_eq,not_and] at hoF)|with_reducible refine kc1 (ht1 _) ?_|with_reducible refine kc1 (ht2 _ _) ?_|with_reducible refine kc1 (ACalls.flA (hown _) ?_) ?_|with_reducible refine kc1 (ACalls.flA (hwant _) ?_) ?_|omega)
    obtain⟨o8,e8⟩:∃x,x=oF:=⟨oF,rfl⟩;subst e8;obtain⟨a3,a4,ho8⟩:=hoF;have a5:¬o4=o8:=λe=>a3 e.symm;have a6:¬o2=o8:=λe=>a4 e.symm;clear hnF hnF' hown ht1 ht2 hwant h3 hw2
    refine loop_rule (λi:Nat=>[(59,some (.int .i64 i)),(58,some (.int .i64 e.l.length)),(57,some (.slice (e.l.map encE) .no)),(6,some (.slice (ws.map encInt) .no)),(4,some (.ptr o4 0)),(8,some (.vec o8 e.l.length)),(2,some (.ptr o2 0)),(1,some (.int .i64 W))])
     (λi=>aH (aH (aH σ o2 (.cells [.int .i64 e.op, .int .i64 e.w, .int .u64 e.v, .int .i64 e.sig, .int .i64 e.hi, .int .i64 e.lo, .int .i64 e.n, .slice (e.l.map encE) .no])) o4 (.cells zN)) o8 (.vec 8 e.l.length (qg (dj e.l ws i) (e.l.length-i))))
     (λi=>i<=e.l.length/\∀j,(h3:j<e.l.length)->(h4:j<ws.length)->j<i->(size e.l[j] ws[j]).2=0) (λi=>e.l.length-i) 0 ?_ ?_
    ·have e0:dj e.l ws 0=[]:=by simp[dj]
     clear kE kO kB kr ks hge hext1 hsub;(repeat' (first|simp(maxDischargeDepth:=9) -implicitDefEqProofs -dsimp only[go_sem,seval,Nat.sub_zero, *]|with_reducible refine And.intro ?_ ?_|omega))
    ·rintro i ⟨hi,hok⟩;by_cases hlt:i<e.l.length
     ·have hlt2:i<ws.length:=by omega
      have hc:=λτ=>hsub e.l[i] (List.getElem_mem hlt) ws[i] τ (hge _ (List.getElem_mem hlt2));have kEi:=kE i hlt hlt2 hok;have ksi:=ks i hlt hlt2;have kri:=kr i (by omega)
      have hstep:(size e.l[i] ws[i]).2=0->∀j,(h3:j<e.l.length)->(h4:j<ws.length)->j<i+1->(size e.l[j] ws[j]).2=0:=λh j h3 h4 h5=>by
       rcases Nat.lt_or_ge j i with q|q
       ·exact hok j h3 h4 q
       ·obtain rfl:j=i:=by omega
        exact h
      obtain⟨⟨x,f⟩,hxf⟩:∃r,size e.l[i] ws[i]=r:=⟨_,rfl⟩;rw[hxf] at hc kEi ksi hstep;simp only at hc kEi ksi hstep;clear kE kO kB kr ks hge hext1 hsub hok hxf;obtain⟨k,hk⟩:∃k,e.l.length-i=k+1:=⟨e.l.length-i-1,by omega⟩;have hk2:e.l.length-(i+1)=k:=by omega
      have hput:=D9 (dj e.l ws i) x k;rw[kri,<-ksi] at hput;generalize hX:dj e.l ws i=X at kri ksi hput|-;rw[hk];by_cases hf:f=0
      ·subst hf;have hn:=hstep rfl;have hrl:i*8+8<=(qg X (k+1)).length:=by rw[Eb];omega
       clear kEi hstep hX;repeat' (first|simp(maxDischargeDepth:=9) -implicitDefEqProofs -dsimp only[go_sem,seval, *]|simp(disch:=omega) only[ah,aj,ao,aw,ar,ag,au,aq]|with_reducible refine Zu ?_ ?_|(with_reducible refine Zt λoF hoF hnF hnF'=>?_;try simp only[aa,ne_eq,not_and] at hoF)|with_reducible refine id_one0 (λtS hS=>hc _) trivial ?_|with_reducible refine lnx (i+1) ?_|with_reducible refine And.intro ?_ ?_|omega)
       exact λj h3 h4 h5=>hn j h3 (by omega) h5
      ·have hfb:(f != 0)=true:=by simpa using hf
       have hv:=kEi hf;clear kEi hstep hX hf;rw[hv,aL];repeat' (first|simp(maxDischargeDepth:=9) -implicitDefEqProofs -dsimp only[go_sem,seval, *]|simp(disch:=omega) only[ah,aj,ao,aw,ar,ag,au,aq]|with_reducible refine Zu ?_ ?_|(with_reducible refine Zt λoF hoF hnF hnF'=>?_;try simp only[aa,ne_eq,not_and] at hoF)|with_reducible refine id_one0 (λtS hS=>hc _) trivial ?_|refine fin_eq ?_)
     ·have ei:i=e.l.length:=by omega
      subst ei;have hall:=λj h3 h4=>hok j h3 h4 h3;have kO':=kO hall;have kB':=kB hall;have hXl:=kr e.l.length (Nat.le_refl _);generalize hX:dj e.l ws e.l.length=X at kO' kB' hXl|-;rw[Nat.sub_self,Ea];have hun:=uY X;rw[hXl] at hun;clear kE kO kB kr ks hge hsub hok hall hX hrz;by_cases h8:e.op=8
      ·have hl1:=hext1 h8;rw[hl1] at hXl;obtain⟨x,rfl⟩:=len1 hXl;have hfx:flat ([x].map encE)=eL x:=rfl;have hpx:dM [x]=x.w:=rfl;have hmx:[x].map encE=[encE x]:=rfl;rw[hfx,hmx,hl1] at hun;rw[hfx];rw[hpx] at kO' kB';clear hext1 hfx hpx hXl;by_cases hbad:e.n=33/\x.w<W\/e.n≠33/\W<x.w
       ·rw[kB' ⟨h8,hbad⟩,aL];clear kO' kB';repeat' (first|simp(maxDischargeDepth:=9) -implicitDefEqProofs -dsimp only[go_sem,seval,gt_iff_lt, *]|simp(disch:=omega) only[ah,aj,ao,aw,ar,ag,au,aq]|(with_reducible (first|apply Za|apply Zb|apply Zc|apply Zd|apply Ze|apply Zf|apply Zg|apply Zh|apply Zi|apply Zj|apply Zk|apply Zl|apply Zm|apply Zn|apply Zo|apply Zp|apply Zq|apply Zr|apply Zs)<;>intro hq)|with_reducible refine Zv ?_ ?_|omega)
        all_goals first|(exfalso;omega)|skip
        all_goals
         refine fin_eq ?_;(repeat' simp(maxDischargeDepth:=9) -implicitDefEqProofs -dsimp only[go_sem,seval, *])
       ·rw[kO' λh=>hbad h.2,cR,hmx];clear kO' kB';repeat' (first|simp(maxDischargeDepth:=9) -implicitDefEqProofs -dsimp only[go_sem,seval,gt_iff_lt,imp_self, *]|simp(disch:=omega) only[ah,aj,ao,aw,ar,ag,au,aq]|(with_reducible (first|apply Za|apply Zb|apply Zc|apply Zd|apply Ze|apply Zf|apply Zg|apply Zh|apply Zi|apply Zj|apply Zk|apply Zl|apply Zm|apply Zn|apply Zo|apply Zp|apply Zq|apply Zr|apply Zs)<;>intro hq)|omega)
        all_goals first|(exfalso;omega)|skip
        all_goals
         refine fin_eq ?_;(repeat' simp(maxDischargeDepth:=9) -implicitDefEqProofs -dsimp only[go_sem,seval, *])
      ·have hb8:(e.op==8)=false:=by simp[h8]
       rw[kO' λh=>h8 h.1,cR];clear kO' kB' hext1;repeat' (first|simp(maxDischargeDepth:=9) -implicitDefEqProofs -dsimp only[go_sem,seval,imp_self, *]|simp(disch:=omega) only[ah,aj,ao,aw,ar,ag,au,aq]|refine fin_eq ?_)
end Go.Proofs.YtbbihmmobfmadaaGreat.S
namespace Go.Proofs.YtbbihmmobfmadaaGreat.S
open Abs Fil Fil.Sz
theorem rX{d:Flat}{e:E}{w:Int}(h:cr d.sigs=false\/w<0\/64<w\/shp d.sigs e=false):cY d e w=(zE,1):=by unfold cY;rw[if_pos h]
theorem qh{d:Flat}{e:E}{w:Int}(h:¬(cr d.sigs=false\/w<0\/64<w\/shp d.sigs e=false))(h2:65536<nodes e\/64<deep e):cY d e w=(zE,2):=by unfold cY;rw[if_neg h,if_pos h2]
theorem u6{d:Flat}{e:E}{w:Int}(h:¬(cr d.sigs=false\/w<0\/64<w\/shp d.sigs e=false))(h2:¬(65536<nodes e\/64<deep e)):cY d e w=size e w:=by unfold cY;rw[if_neg h,if_neg h2]
theorem HS(d:Flat)(e:E)(w:Int)(σ:aA)(hd:d.sigs.length<=1000000000000)(he:nodes e<=16777216)(hw:WfE e):C_ 71 [encD d,encE e, .int .i64 w] σ (.tup [encE (cY d e w).1, .int .i64 (cY d e w).2]) σ:=by
 have h1:=encEs_eq e;have c1:=λτ=>p8 d.sigs τ hd;have c2:=λτ=>lV d.sigs hd e τ he hw;have c3:=λτ=>mN e τ he;have c4:=λτ=>uU (nodes e) (deep e) τ;have c5:=fun(h:dg d.sigs) (h2:shp d.sigs e=true) τ h0=>yQ d.sigs h e w τ h2 he hw h0;have hso:=fy (l:=d.sigs);have k1:=rX (d:=d) (e:=e) (w:=w);have k2:=qh (d:=d) (e:=e) (w:=w);have k3:=u6 (d:=d) (e:=e) (w:=w);generalize hR:cY d e w=R at k1 k2 k3|-;clear hR;refine gO [3,4] Tryz.func71 (by kernel_rfl) (by conv=>lhs;reduce;dsimp only[iA]) rfl ?_;obtain⟨a,ha⟩:∃a,cr d.sigs=a:=⟨_,rfl⟩;obtain⟨b,hb⟩:∃a,shp d.sigs e=a:=⟨_,rfl⟩;rw[ha] at c1 k1 k2 k3 hso;rw[hb] at c2 k1 k2 k3 c5;clear ha hb;cases a
 ·rw[k1 (.inl rfl),aL];clear k1 k2 k3 c5;repeat' (first|simp -implicitDefEqProofs -dsimp only[go_sem,seval, *]|simp(disch:=omega) only[ah,aj,ao,aw,ar,ag,au,aq]|(with_reducible refine Zt λoF hoF hnF hnF'=>?_;try simp only[aa,ne_eq,not_and] at hoF)|with_reducible refine kc1 (c1 _) ?_|refine fin_eq ?_)
 by_cases w0:w<0
 ·rw[k1 (.inr (.inl w0)),aL];clear k1 k2 k3 c5;repeat' (first|simp -implicitDefEqProofs -dsimp only[go_sem,seval, *]|simp(disch:=omega) only[ah,aj,ao,aw,ar,ag,au,aq]|(with_reducible refine Zt λoF hoF hnF hnF'=>?_;try simp only[aa,ne_eq,not_and] at hoF)|with_reducible refine kc1 (c1 _) ?_|refine fin_eq ?_)
 by_cases w1:64<w
 ·rw[k1 (.inr (.inr (.inl w1))),aL];clear k1 k2 k3 c5;repeat' (first|simp -implicitDefEqProofs -dsimp only[go_sem,seval,gt_iff_lt, *]|simp(disch:=omega) only[ah,aj,ao,aw,ar,ag,au,aq]|(with_reducible refine Zt λoF hoF hnF hnF'=>?_;try simp only[aa,ne_eq,not_and] at hoF)|with_reducible refine kc1 (c1 _) ?_|refine fin_eq ?_)
 cases b
 ·rw[k1 (.inr (.inr (.inr rfl))),aL];clear k1 k2 k3 c5;repeat' (first|simp -implicitDefEqProofs -dsimp only[go_sem,seval,gt_iff_lt, *]|simp(disch:=omega) only[ah,aj,ao,aw,ar,ag,au,aq]|(with_reducible refine Zt λoF hoF hnF hnF'=>?_;try simp only[aa,ne_eq,not_and] at hoF)|with_reducible refine kc1 (c1 _) ?_|with_reducible refine kc1 (ACalls.flA (c2 _) ?_) ?_|refine fin_eq ?_)
 have hbad:¬(true=false\/w<0\/64<w\/true=false):=by simp;omega
 by_cases hm:65536<nodes e\/64<deep e
 ·rw[k2 hbad hm,aL]
  have hf:(decide ((nodes e:Int)<=65536)&&decide ((deep e:Int)<=64))=false:=by
   rw[Bool.and_eq_false_iff,decide_eq_false_iff_not,decide_eq_false_iff_not];omega
  rw[hf] at c4;clear k1 k2 k3 c5 hf hbad;repeat' (first|simp -implicitDefEqProofs -dsimp only[go_sem,seval,gt_iff_lt, *]|simp(disch:=omega) only[ah,aj,ao,aw,ar,ag,au,aq]|(with_reducible refine Zt λoF hoF hnF hnF'=>?_;try simp only[aa,ne_eq,not_and] at hoF)|with_reducible refine kc1 (c1 _) ?_|with_reducible refine kc1 (c4 _) ?_|with_reducible refine kc1 (ACalls.flA (c2 _) ?_) ?_|with_reducible refine kc1 (ACalls.flA (c3 _) ?_) ?_|refine fin_eq ?_)
 ·rw[k3 hbad hm]
  have hf:(decide ((nodes e:Int)<=65536)&&decide ((deep e:Int)<=64))=true:=by
   rw[Bool.and_eq_true,decide_eq_true_eq,decide_eq_true_eq];omega
  rw[hf] at c4;replace c5:=λτ=>c5 (hso rfl) rfl τ (by omega);obtain⟨⟨x,f⟩,hxf⟩:∃R,size e w=R:=⟨_,rfl⟩;rw[hxf] at c5|-;clear k1 k2 k3 hf hbad hxf;repeat' (first|simp -implicitDefEqProofs -dsimp only[go_sem,seval,gt_iff_lt, *]|simp(disch:=omega) only[ah,aj,ao,aw,ar,ag,au,aq]|(with_reducible refine Zt λoF hoF hnF hnF'=>?_;try simp only[aa,ne_eq,not_and] at hoF)|with_reducible refine kc1 (c1 _) ?_|with_reducible refine kc1 (c4 _) ?_|with_reducible refine kc1 (ACalls.flA (c2 _) ?_) ?_|with_reducible refine kc1 (ACalls.flA (c3 _) ?_) ?_|with_reducible refine kc1 (ACalls.flA (c5 _) ?_) ?_|refine fin_eq ?_)
theorem ns(d:Flat)(e:E)(w:Int):nodes (cY d e w).1<=nodes e:=by
 have hz:nodes zE<=nodes e:=by
  have h1:=nodes_pos e;have:nodes zE=1:=by rw[bK];rfl
  omega
 unfold cY;split
 ·exact hz
 rename_i h
 split
 ·exact hz
 rename_i h2
 have hs:shp d.sigs e=true:=by
  cases q:shp d.sigs e with
  |true=>rfl
  |false=>exact(h (.inr (.inr (.inr q)))).elim
 have hg:cr d.sigs=true:=by
  cases q:cr d.sigs with
  |true=>rfl
  |false=>exact(h (.inl q)).elim
 by_cases hf:(size e w).2=0
 ·have:=gr (fy hg) e w (size e w).1 hs (by omega) (by rw[<-hf])
  rw[this.nodes];exact Nat.le_refl _
 ·have:(size e w).1=zE:=by
   rw[fK] at hf|-;split
   ·rfl
   rename_i q1
   rw[if_neg q1] at hf;split
   ·rename_i q2
    rw[if_pos q2] at hf;split
    ·rename_i q3;rw[if_pos q3] at hf;simp at hf
    ·rfl
   ·rename_i q2
    rw[if_neg q2] at hf;split
    ·rfl
    ·rename_i ws hws
     rw[hws] at hf;simp only[jl] at hf|-;split
     ·rfl
     rename_i q3
     rw[if_neg q3] at hf;split
     ·rfl
     ·rename_i q4;rw[if_neg q4] at hf;simp at hf
  rw[this];exact hz
open Classical in
theorem sz_CheckE(d:Flat)(e:E)(σ:aA)(hd:d.sigs.length<=1000000000000)(he:nodes e<=16777216)(hw:WfE e):C_ 35 [encD d,encE e] σ (.int .i64 (checkE d e)) σ:=by
 have h1:=encEs_eq e;have c1:=λτ=>HS d e e.w τ hd he hw;have hn:=ns d e e.w;have hc:checkE d e=if (cY d e e.w).2=0/\(e.w=0\/¬(cY d e e.w).1=e) then 90 else (cY d e e.w).2:=rfl
 obtain⟨⟨x,f⟩,hR⟩:∃R,cY d e e.w=R:=⟨_,rfl⟩;rw[hR] at c1 hn hc;simp only at c1 hn hc;have c2:=λτ=>lS x e τ (by omega) he;refine gO [2,3] Tryz.func35 (by kernel_rfl) (by conv=>lhs;reduce;dsimp only[iA]) rfl ?_;generalize hC:checkE d e=C at hc|-;generalize hs:same x e=s at c2;clear hR hC hw he hn;by_cases hf:f=0
 ·by_cases he:e.w=0
  ·rw[if_pos ⟨hf, .inl he⟩] at hc;clear hs;repeat' (first|simp -implicitDefEqProofs -dsimp only[go_sem,seval, *]|(with_reducible refine Zt λoF hoF hnF hnF'=>?_;try simp only[aa,ne_eq,not_and] at hoF)|with_reducible refine kc1 (ACalls.flA (c1 _) ?_) ?_|refine fin_eq ?_)
  ·have hb:(e.w==0)=false:=by simpa using he
   cases s
   ·rw[if_pos ⟨hf, .inr (fx.1 hs)⟩] at hc;clear hs he;repeat' (first|simp -implicitDefEqProofs -dsimp only[go_sem,seval, *]|(with_reducible refine Zt λoF hoF hnF hnF'=>?_;try simp only[aa,ne_eq,not_and] at hoF)|with_reducible refine kc1 (ACalls.flA (c1 _) ?_) ?_|with_reducible refine kc1 (ACalls.flA (c2 _) ?_) ?_|refine fin_eq ?_)
   ·rw[if_neg (λh=>by rcases h.2 with q|q;exact he q;exact q (ee.1 hs))] at hc
    clear hs he;repeat' (first|simp -implicitDefEqProofs -dsimp only[go_sem,seval, *]|(with_reducible refine Zt λoF hoF hnF hnF'=>?_;try simp only[aa,ne_eq,not_and] at hoF)|with_reducible refine kc1 (ACalls.flA (c1 _) ?_) ?_|with_reducible refine kc1 (ACalls.flA (c2 _) ?_) ?_|refine fin_eq ?_)
 ·have hb:(f==0)=false:=by simpa using hf
  rw[if_neg (λh=>hf h.1)] at hc;clear hs hf;repeat' (first|simp -implicitDefEqProofs -dsimp only[go_sem,seval, *]|(with_reducible refine Zt λoF hoF hnF hnF'=>?_;try simp only[aa,ne_eq,not_and] at hoF)|with_reducible refine kc1 (ACalls.flA (c1 _) ?_) ?_|refine fin_eq ?_)
end Go.Proofs.YtbbihmmobfmadaaGreat.S
namespace Go.Proofs.YtbbihmmobfmadaaGreat.S
open Abs Fil Fil.Sz
def bJ(x:E)(ws:List Int):E×Int:=if (aO (x.l.map size) ws).2≠0 then (zE,(aO (x.l.map size) ws).2) else (x.set x.w (aO (x.l.map size) ws).1,0)
theorem u7{e:E}(h:¬1<own e):size e (-1)=size e 1:=by
 rw[fK e (-1),fK e 1];have h1:wide e (-1)=1:=fc e;have h2:wide e 1=1:=bM (by omega) (by omega);unfold jl;rw[h1,h2,if_neg (λq:(-1:Int)= -1/\1<own e=>h q.2),if_neg (λq:(1:Int)= -1/\1<own e=>by omega)]
theorem qF(x:E)(ws:List Int)(σ:aA)(hn:x.l.length<=16777216)(hwl:ws.length=x.l.length)(hge:∀v∈ws,-1<=v)
  (hown:∀p∈x.l,∀τ,C_ 205 [encE p] τ (.int .i64 (own p)) τ)
  (ih:∀p∈x.l,∀w τ,0<=w->C_ 155 [encE p, .int .i64 w] τ (.tup [encE (size p w).1, .int .i64 (size p w).2]) τ):
  C_ 209 [encE x, .slice (ws.map encInt) .no] σ (.tup [encE (bJ x ws).1, .int .i64 (bJ x ws).2]) σ:=by
 have h1:=encEs_eq x
 have kE:∀i,(h1:i<x.l.length)->(h2:i<ws.length)->(∀j,(h3:j<x.l.length)->(h4:j<ws.length)->j<i->(size x.l[j] ws[j]).2=0)->(size x.l[i] ws[i]).2≠0->bJ x ws=(zE,(size x.l[i] ws[i]).2):=λi h1 h2 h3 h4=>by
  unfold bJ;rw[pM h1 h2 (λj hj=>h3 j (by omega) (by omega) hj) h4,if_pos h4]
 have kO:(∀j,(h3:j<x.l.length)->(h4:j<ws.length)->(size x.l[j] ws[j]).2=0)->bJ x ws=(x.set x.w (dj x.l ws x.l.length),0):=λh=>by
  unfold bJ;rw[uJ hwl h,if_neg (by simp)]
 have kr:=λi hi=>mJ (l:=x.l) (ws:=ws) hwl (i:=i) hi;have ks:=λi h1 h2=>pL (l:=x.l) (ws:=ws) (i:=i) h1 h2;generalize hR:bJ x ws=R at kE kO|-;clear hR;refine ACalls.virt (by kernel_rfl) 8 (λoV1 hoV1 hnV1 hnV1'=>?_);(try simp only[aa,ne_eq,not_and] at hoV1);refine gO [] Tryz.func209 (by kernel_rfl) (by conv=>lhs;reduce;dsimp only[iA]) rfl ?_;repeat' (first|simp(maxDischargeDepth:=9) -implicitDefEqProofs -dsimp only[go_sem,seval, *]|(with_reducible refine Zt λoF hoF hnF hnF'=>?_;try simp only[aa,ne_eq,not_and] at hoF))
 rename_i o2 nx1 nx2 ho2
 obtain⟨o4,e4⟩:∃x,x=oF:=⟨oF,rfl⟩;subst e4;obtain⟨a0,ho2⟩:=ho2;obtain⟨a1,a2,ho4⟩:=hoF;have b0:¬oV1=o2:=λe=>a0 e.symm;have b1:¬o2=o4:=λe=>a1 e.symm;have b2:¬oV1=o4:=λe=>a2 e.symm;clear nx1 nx2 hnF hnF' hnV1 hnV1'
 refine loop_rule (λi:Nat=>[(7,some (.int .i64 i)),(2,some (.ptr o2 0)),(1,some (.slice (ws.map encInt) .no)),(4,some (.ptr o4 0)),(6,some (.slice ((dj x.l ws i).map encE) (.own oV1)))])
  (λi=>aH (aH (aH σ oV1 (.grow 8 i)) o2 (.cells [.int .i64 x.op, .int .i64 x.w, .int .u64 x.v, .int .i64 x.sig, .int .i64 x.hi, .int .i64 x.lo, .int .i64 x.n, .slice (x.l.map encE) .no])) o4 (.cells zN))
  (λi=>i<=x.l.length/\∀j,(h3:j<x.l.length)->(h4:j<ws.length)->j<i->(size x.l[j] ws[j]).2=0) (λi=>x.l.length-i) 0 ?_ ?_
 ·have e0:dj x.l ws 0=[]:=by simp[dj]
  clear kE kO kr ks hge hown ih;(repeat' (first|simp(maxDischargeDepth:=9) -implicitDefEqProofs -dsimp only[go_sem,seval,List.map_nil, *]|with_reducible refine And.intro ?_ ?_|omega))
 ·rintro i ⟨hi,hok⟩;by_cases hlt:i<x.l.length
  ·have hlt2:i<ws.length:=by omega
   have hgi:=hge _ (List.getElem_mem hlt2);have hc:=λw τ h=>ih x.l[i] (List.getElem_mem hlt) w τ h;have ho:=λτ=>hown x.l[i] (List.getElem_mem hlt) τ;have kEi:=kE i hlt hlt2 hok;have ksi:=ks i hlt hlt2;have kri:=kr i (by omega)
   have hstep:(size x.l[i] ws[i]).2=0->∀j,(h3:j<x.l.length)->(h4:j<ws.length)->j<i+1->(size x.l[j] ws[j]).2=0:=λh j h3 h4 h5=>by
    rcases Nat.lt_or_ge j i with q|q
    ·exact hok j h3 h4 q
    ·obtain rfl:j=i:=by omega
     exact h
   clear kE kO kr ks hge hown ih hok;generalize hX:dj x.l ws i=X at ksi kri|-;clear hX;by_cases hb:ws[i]= -1/\1<own x.l[i]
   ·obtain⟨hb1,hb2⟩:=hb;rw[hb1,pN hb2] at kEi;rw[kEi (by simp),aL];clear kEi ksi hstep hc;repeat' (first|simp(maxDischargeDepth:=9) -implicitDefEqProofs -dsimp only[go_sem,seval,gt_iff_lt, *]|simp(disch:=omega) only[ah,aj,ao,aw,ar,ag,au,aq]|with_reducible refine Zu ?_ ?_|(with_reducible refine Zt λoF hoF hnF hnF'=>?_;try simp only[aa,ne_eq,not_and] at hoF)|with_reducible refine kc1 (ho _) ?_|refine fin_eq ?_)
   ·have hcase:(ws[i]= -1/\¬1<own x.l[i]/\size x.l[i] ws[i]=size x.l[i] 1)\/(¬ws[i]<0):=by
     by_cases q:ws[i]= -1
     ·exact .inl ⟨q,λh=>hb ⟨q,h⟩,by rw[q];exact u7 λh=>hb ⟨q,h⟩⟩
     ·exact .inr (by omega)
    obtain⟨⟨y,f⟩,hyf⟩:∃r,size x.l[i] ws[i]=r:=⟨_,rfl⟩;rw[hyf] at kEi ksi hstep hcase;simp only at kEi ksi hstep
    have hc2:∀τ,C_ 155 [encE x.l[i], .int .i64 (if ws[i]= -1 then 1 else ws[i])] τ (.tup [encE y, .int .i64 f]) τ:=λτ=>by
     rcases hcase with ⟨q1,q2,q3⟩|q
     ·rw[if_pos q1];have:=hc 1 τ (by omega)
      rw[<-q3] at this;exact this
     ·rw[if_neg (by omega)];have:=hc ws[i] τ (by omega)
      rw[hyf] at this;exact this
    clear hc hb hyf;by_cases hf:f=0
    ·subst hf;have hn:=hstep rfl;clear kEi hstep;rcases hcase with ⟨q1,q2,q3⟩|q
     ·rw[if_pos q1] at hc2;clear q3;repeat' (first|simp(maxDischargeDepth:=9) -implicitDefEqProofs -dsimp only[go_sem,seval,gt_iff_lt, *]|simp(disch:=omega) only[ah,aj,ao,aw,ar,ag,au,aq]|with_reducible refine Zv ?_ ?_|with_reducible refine Zu ?_ ?_|(with_reducible refine Zt λoF hoF hnF hnF'=>?_;try simp only[aa,ne_eq,not_and] at hoF)|with_reducible refine kc1 (ho _) ?_|with_reducible refine kc1 (hc2 _) ?_|(with_reducible refine lnx (i+1) ?_;repeat' (first|simp(maxDischargeDepth:=9) -implicitDefEqProofs -dsimp only[go_sem,seval,List.map_append,List.map_cons,List.map_nil, *]|with_reducible refine And.intro ?_ ?_))|omega)
      exact λj h3 h4 h5=>hn j h3 (by omega) h5
     ·rw[if_neg (by omega)] at hc2;repeat' (first|simp(maxDischargeDepth:=9) -implicitDefEqProofs -dsimp only[go_sem,seval,gt_iff_lt, *]|simp(disch:=omega) only[ah,aj,ao,aw,ar,ag,au,aq]|with_reducible refine Zv ?_ ?_|with_reducible refine Zu ?_ ?_|(with_reducible refine Zt λoF hoF hnF hnF'=>?_;try simp only[aa,ne_eq,not_and] at hoF)|with_reducible refine kc1 (hc2 _) ?_|(with_reducible refine lnx (i+1) ?_;repeat' (first|simp(maxDischargeDepth:=9) -implicitDefEqProofs -dsimp only[go_sem,seval,List.map_append,List.map_cons,List.map_nil, *]|with_reducible refine And.intro ?_ ?_))|omega)
      exact λj h3 h4 h5=>hn j h3 (by omega) h5
    ·have hfb:(f != 0)=true:=by simpa using hf
     rw[kEi hf,aL];clear kEi hstep hf ksi;rcases hcase with ⟨q1,q2,q3⟩|q
     ·rw[if_pos q1] at hc2;clear q3;repeat' (first|simp(maxDischargeDepth:=9) -implicitDefEqProofs -dsimp only[go_sem,seval,gt_iff_lt, *]|simp(disch:=omega) only[ah,aj,ao,aw,ar,ag,au,aq]|with_reducible refine Zu ?_ ?_|(with_reducible refine Zt λoF hoF hnF hnF'=>?_;try simp only[aa,ne_eq,not_and] at hoF)|with_reducible refine kc1 (ho _) ?_|with_reducible refine kc1 (hc2 _) ?_|refine fin_eq ?_)
     ·rw[if_neg (by omega)] at hc2;repeat' (first|simp(maxDischargeDepth:=9) -implicitDefEqProofs -dsimp only[go_sem,seval,gt_iff_lt, *]|simp(disch:=omega) only[ah,aj,ao,aw,ar,ag,au,aq]|with_reducible refine Zu ?_ ?_|(with_reducible refine Zt λoF hoF hnF hnF'=>?_;try simp only[aa,ne_eq,not_and] at hoF)|with_reducible refine kc1 (hc2 _) ?_|refine fin_eq ?_)
  ·have ei:i=x.l.length:=by omega
   subst ei;rw[kO λj h3 h4=>hok j h3 h4 h3,cR];obtain⟨X,hX⟩:∃X,dj x.l ws x.l.length=X:=⟨_,rfl⟩;rw[hX];clear kE kO kr ks hge hown ih hok hX;repeat' (first|simp(maxDischargeDepth:=9) -implicitDefEqProofs -dsimp only[go_sem,seval, *]|simp(disch:=omega) only[ah,aj,ao,aw,ar,ag,au,aq]|refine fin_eq ?_)
theorem qG(x:E)(w:Int)(σ:aA)(ho:x.op=4)(hn1:1<=x.n)(hn2:x.n<=6)(hl:x.l.length=1)
  (hu:∀ws τ,ws.length=x.l.length->(∀v∈ws,-1<=v)->C_ 209 [encE x, .slice (ws.map encInt) .no] τ (.tup [encE (bJ x ws).1, .int .i64 (bJ x ws).2]) τ)(hw: -1<=w):
  C_ 210 [encE x, .int .i64 w] σ (match cX x w with|none=> .tup [encE zE, .int .i64 90]|some ws=> .tup [encE (bJ x ws).1, .int .i64 (bJ x ws).2]) σ:=by
 have h1:=encEs_eq x;have u1:=λτ=>hu [w] τ (by rw[hl];rfl) (by simpa using hw);have u2:=λτ=>hu [-1] τ (by rw[hl];rfl) (by simp);have u3:=λτ=>hu [0] τ (by rw[hl];rfl) (by simp);simp only[List.map_cons,List.map_nil] at u1 u2 u3;rw[gN (.inl ho),hl];clear hu;refine gO [2] Tryz.func210 (by kernel_rfl) (by conv=>lhs;reduce;dsimp only[iA,iB]) rfl ?_;by_cases c1:x.n<=2
 ·rw[if_neg (by omega),if_neg (by omega),if_neg (by omega),if_neg (by omega)];simp only[List.replicate_one];clear u2 u3;repeat' (first|simp(maxDischargeDepth:=9) -implicitDefEqProofs -dsimp only[go_sem,seval, *]|(with_reducible refine Zt λoF hoF hnF hnF'=>?_;try simp only[aa,ne_eq,not_and] at hoF)|with_reducible refine kc1 (ACalls.flA (u1 _) ?_) ?_|refine fin_eq ?_)
 by_cases hw1:w=1
 ·have hb:(w != 1)=false:=by simp[hw1]
  by_cases c2:x.n=6
  ·rw[if_pos (.inl c2),if_neg (by omega)];simp only[List.replicate_one];clear u1 u3 hw1;repeat' (first|simp(maxDischargeDepth:=9) -implicitDefEqProofs -dsimp only[go_sem,seval, *]|(with_reducible refine Zt λoF hoF hnF hnF'=>?_;try simp only[aa,ne_eq,not_and] at hoF)|with_reducible refine kc1 (ACalls.flA (u2 _) ?_) ?_|refine fin_eq ?_)
  ·have hb2:(x.n==6)=false:=by simpa using c2
   rw[if_neg (by omega),if_pos (by omega),if_neg (by omega)];simp only[List.replicate_one];clear u1 u2 hw1 c2;repeat' (first|simp(maxDischargeDepth:=9) -implicitDefEqProofs -dsimp only[go_sem,seval, *]|(with_reducible refine Zt λoF hoF hnF hnF'=>?_;try simp only[aa,ne_eq,not_and] at hoF)|with_reducible refine kc1 (ACalls.flA (u3 _) ?_) ?_|refine fin_eq ?_)
 ·have hb:(w != 1)=true:=by simp[hw1]
  have hres:(if x.n=6\/x.n=25\/x.n=26 then if w≠1 then none else some (List.replicate 1 (-1)) else if x.n=3\/x.n=4\/x.n=5 then if w≠1 then none else some (List.replicate 1 0)
   else if 19<=x.n/\x.n<=24 then if w≠1 then none else some (List.replicate 1 (cw (cF (x.l.map own)) 32)) else if x.n=17\/x.n=18 then some [w,0] else some (List.replicate 1 w))=none:=by
   by_cases c2:x.n=6
   ·rw[if_pos (.inl c2),if_pos hw1]
   ·rw[if_neg (by omega),if_pos (by omega),if_pos hw1]
  rw[hres];dsimp only
  rw[aL];clear u1 u2 u3 hres;repeat' (first|simp(maxDischargeDepth:=9) -implicitDefEqProofs -dsimp only[go_sem,seval, *]|(with_reducible refine Zt λoF hoF hnF hnF'=>?_;try simp only[aa,ne_eq,not_and] at hoF)|refine fin_eq ?_)
theorem qi(x:E)(w:Int)(σ:aA)(ho:x.op=5)(hn1:11<=x.n)(hn2:x.n<=26)(hl:x.l.length=2)
  (hu:∀ws τ,ws.length=x.l.length->(∀v∈ws,-1<=v)->C_ 209 [encE x, .slice (ws.map encInt) .no] τ (.tup [encE (bJ x ws).1, .int .i64 (bJ x ws).2]) τ)(hw: -1<=w)
  (he:∀a∈x.l,∀b∈x.l,∀τ,C_ 238 [encE a,encE b] τ (.int .i64 (fe a b)) τ)(hon:∀a∈x.l,0<=own a):
  C_ 211 [encE x, .int .i64 w] σ (match cX x w with|none=> .tup [encE zE, .int .i64 90]|some ws=> .tup [encE (bJ x ws).1, .int .i64 (bJ x ws).2]) σ:=by
 have h1:=encEs_eq x;have l0:0<x.l.length:=by omega
 have l1:1<x.l.length:=by omega
 have hei:=λτ=>he x.l[0] (List.getElem_mem l0) x.l[1] (List.getElem_mem l1) τ;have hf2:cF (x.l.map own)=fe x.l[0] x.l[1]:=qd hl
 have hf0:0<=fe x.l[0] x.l[1]:=by
  have:=hon _ (List.getElem_mem l0)
  have:=hon _ (List.getElem_mem l1)
  unfold fe;split<;>omega
 generalize hF:fe x.l[0] x.l[1]=F at hei hf2 hf0;have u1:=λτ=>hu [w,w] τ (by rw[hl];rfl) (by simpa using hw);have u2:=λτ=>hu [-1,-1] τ (by rw[hl];rfl) (by simp);have u3:=λτ=>hu [w,0] τ (by rw[hl];rfl) (by simpa using hw)
 have u4:=λτ=>hu [cw F 32,cw F 32] τ (by rw[hl];rfl) (by
  have:1<=cw F 32:=by unfold cw;split<;>omega
  simp;omega)
 simp only[List.map_cons,List.map_nil] at u1 u2 u3 u4;rw[gN (.inr ho),hl,hf2];have l2:(0:Int)<x.l.length:=by omega
 have l3:(1:Int)<x.l.length:=by omega
 have hrep:∀k:Int,List.replicate 2 k=[k,k]:=λ_=>rfl;clear hu he hon hF hf2;refine gO [2] Tryz.func211 (by kernel_rfl) (by conv=>lhs;reduce;dsimp only[iA,iB]) rfl ?_;by_cases c1:x.n<=16
 ·rw[if_neg (by omega),if_neg (by omega),if_neg (by omega),if_neg (by omega)];simp only[hrep];clear u2 u3 u4 hei;repeat' (first|simp(maxDischargeDepth:=9) -implicitDefEqProofs -dsimp only[go_sem,seval, *]|(with_reducible refine Zt λoF hoF hnF hnF'=>?_;try simp only[aa,ne_eq,not_and] at hoF)|with_reducible refine kc1 (ACalls.flA (u1 _) ?_) ?_|refine fin_eq ?_)
 by_cases c2:x.n<=18
 ·rw[if_neg (by omega),if_neg (by omega),if_neg (by omega),if_pos (by omega)];simp only
  clear u1 u2 u4 hei;repeat' (first|simp(maxDischargeDepth:=9) -implicitDefEqProofs -dsimp only[go_sem,seval, *]|(with_reducible refine Zt λoF hoF hnF hnF'=>?_;try simp only[aa,ne_eq,not_and] at hoF)|with_reducible refine kc1 (ACalls.flA (u3 _) ?_) ?_|refine fin_eq ?_)
 by_cases hw1:w=1
 ·have hb:(w != 1)=false:=by simp[hw1]
  by_cases c3:25<=x.n
  ·rw[if_pos (by omega),if_neg (by omega)];simp only[hrep];clear u1 u3 u4 hei hw1;repeat' (first|simp(maxDischargeDepth:=9) -implicitDefEqProofs -dsimp only[go_sem,seval,ge_iff_le, *]|(with_reducible refine Zt λoF hoF hnF hnF'=>?_;try simp only[aa,ne_eq,not_and] at hoF)|with_reducible refine kc1 (ACalls.flA (u2 _) ?_) ?_|refine fin_eq ?_)
  ·rw[if_neg (by omega),if_neg (by omega),if_pos (by omega),if_neg (by omega)];simp only[hrep];have hk:cw F 32=if F=0 then 32 else F:=rfl
   generalize hK:cw F 32=K at hk u4|-;clear u1 u2 u3 hw1 hK hrep;by_cases hz:F=0
   ·rw[if_pos hz] at hk;repeat' (first|simp(maxDischargeDepth:=9) -implicitDefEqProofs -dsimp only[go_sem,seval,ge_iff_le, *]|with_reducible refine Zu ?_ ?_|(with_reducible refine Zt λoF hoF hnF hnF'=>?_;try simp only[aa,ne_eq,not_and] at hoF)|with_reducible refine kc1 (ACalls.flA (u4 _) ?_) ?_|with_reducible refine id_one0 (λtS hS=>hei _) trivial ?_|refine fin_eq ?_)
   ·have hzb:(F==0)=false:=by simpa using hz
    rw[if_neg hz] at hk;clear hz;subst hk;repeat' (first|simp(maxDischargeDepth:=9) -implicitDefEqProofs -dsimp only[go_sem,seval,ge_iff_le, *]|with_reducible refine Zu ?_ ?_|(with_reducible refine Zt λoF hoF hnF hnF'=>?_;try simp only[aa,ne_eq,not_and] at hoF)|with_reducible refine kc1 (ACalls.flA (u4 _) ?_) ?_|with_reducible refine id_one0 (λtS hS=>hei _) trivial ?_|refine fin_eq ?_)
 ·have hb:(w != 1)=true:=by simp[hw1]
  have hres:(if x.n=6\/x.n=25\/x.n=26 then if w≠1 then none else some (List.replicate 2 (-1)) else if x.n=3\/x.n=4\/x.n=5 then if w≠1 then none else some (List.replicate 2 0)
   else if 19<=x.n/\x.n<=24 then if w≠1 then none else some (List.replicate 2 (cw F 32)) else if x.n=17\/x.n=18 then some [w,0] else some (List.replicate 2 w))=none:=by
   by_cases c3:25<=x.n
   ·rw[if_pos (by omega),if_pos hw1]
   ·rw[if_neg (by omega),if_neg (by omega),if_pos (by omega),if_pos hw1]
  rw[hres];dsimp only
  rw[aL];clear u1 u2 u3 u4 hres hei;repeat' (first|simp(maxDischargeDepth:=9) -implicitDefEqProofs -dsimp only[go_sem,seval, *]|(with_reducible refine Zt λoF hoF hnF hnF'=>?_;try simp only[aa,ne_eq,not_and] at hoF)|refine fin_eq ?_)
end Go.Proofs.YtbbihmmobfmadaaGreat.S
namespace Go.Proofs.YtbbihmmobfmadaaGreat.S
open Abs Fil Fil.Sz
theorem tm(x:E)(ws:List Int)(σ:aA)(hn:x.l=[]):
  C_ 209 [encE x, .slice (ws.map encInt) .no] σ (.tup [encE (bJ x ws).1, .int .i64 (bJ x ws).2]) σ:=by
 have h1:=encEs_eq x
 have hv:bJ x ws=(x.set x.w [],0):=by
  unfold bJ;rw[hn];have:aO (List.map size []) ws=([],0):=by cases ws<;>rfl
  rw[this,if_neg (by simp)]
 rw[hv,cR];refine ACalls.virt (by kernel_rfl) 8 (λoV1 hoV1 hnV1 hnV1'=>?_);(try simp only[aa,ne_eq,not_and] at hoV1);refine gO [] Tryz.func209 (by kernel_rfl) (by conv=>lhs;reduce;dsimp only[iA]) rfl ?_;repeat' (first|simp(maxDischargeDepth:=9) -implicitDefEqProofs -dsimp only[go_sem,seval,List.map_nil,List.length_nil, *]|simp(disch:=omega) only[ah,aj,ao,aw,ar,ag,au,aq]|(with_reducible refine Zt λoF hoF hnF hnF'=>?_;try simp only[aa,ne_eq,not_and] at hoF))
 rename_i o2 nx1 nx2 ho2
 obtain⟨o4,e4⟩:∃x,x=oF:=⟨oF,rfl⟩;subst e4;obtain⟨a0,ho2⟩:=ho2;obtain⟨a1,a2,ho4⟩:=hoF;have b0:¬oV1=o2:=λe=>a0 e.symm;have b1:¬o2=o4:=λe=>a1 e.symm;have b2:¬oV1=o4:=λe=>a2 e.symm;clear nx1 nx2 hnF hnF' hnV1 hnV1'
 refine loop_rule (λi:Nat=>[(7,some (.int .i64 i)),(2,some (.ptr o2 0)),(1,some (.slice (ws.map encInt) .no)),(4,some (.ptr o4 0)),(6,some (.slice [] (.own oV1)))])
  (λi=>aH (aH (aH σ oV1 (.grow 8 0)) o2 (.cells [.int .i64 x.op, .int .i64 x.w, .int .u64 x.v, .int .i64 x.sig, .int .i64 x.hi, .int .i64 x.lo, .int .i64 x.n, .slice [] .no])) o4 (.cells zN))
  (λi=>i=0) (λi=>0) 0 ?_ ?_
 ·(repeat' simp(maxDischargeDepth:=9) -implicitDefEqProofs -dsimp only[go_sem,seval, *])
 ·rintro i rfl;have hz:¬(((0:Nat):Int)<(([]:List E).length:Nat)):=by simp
  repeat' (first|simp(maxDischargeDepth:=9) -implicitDefEqProofs -dsimp only[go_sem,seval,List.map_nil,List.length_nil,Int.lt_irrefl,Int.natCast_zero, *]|refine fin_eq ?_)
theorem rY{e:E}{W w:Int}(ho:e.op=4\/e.op=5):cX (e.set W e.l) w=cX e w:=by
 rw[gN (e:=e.set W e.l) (by exact ho),gN ho];rfl
theorem gu(e:E)(W:Int)(ws:List Int):bJ (e.set W e.l) ws=if (aO (e.l.map size) ws).2≠0 then (zE,(aO (e.l.map size) ws).2) else (e.set W (aO (e.l.map size) ws).1,0):=rfl
theorem xC{e:E}{w:Int}(hb:¬(w= -1/\1<own e))(hn:¬(e.op=1/\e.w=0))(h8:¬e.op=8){ws:List Int}(hw:cX e (wide e w)=some ws):size e w=bJ (e.set (wide e w) e.l) ws:=by
 rw[mK hb hn hw,gu,jl];split
 ·rfl
 ·rw[if_neg (λh=>h8 h.1)]
theorem xD{e:E}{W:Int}{ws:List Int}(h:(bJ (e.set W e.l) ws).2=0):bJ (e.set W e.l) ws=(e.set W (aO (e.l.map size) ws).1,0)/\(aO (e.l.map size) ws).2=0:=by
 rw[gu] at h|-;split at h
 ·rename_i q;simp only at h;exact(q h).elim
 ·rename_i q;rw[if_neg q];exact⟨rfl,by simpa using q⟩
theorem A1(w v:Int)(σ:aA)(h0:0<=w)(hv:EI v):C_ 203 [.int .i64 w, .int .u64 v] σ (.bool (holds w v)) σ:=by
 by_cases h1:w<=9223372036854775807
 ·exact pY w v σ h0 h1 hv
 ·refine gO [] Tryz.func203 (by kernel_rfl) (by conv=>lhs;reduce;dsimp only[iA]) rfl ?_;have hw:64<=w:=by omega
  have hh:holds w v=true:=by
   unfold holds;rw[decide_eq_true_eq];have e:(2:Int)^w.toNat=((2^w.toNat:Nat):Int):=by simp
   have:=Nat.pow_le_pow_right (n:=2) (by omega) (show 64<=w.toNat by omega)
   have:=hv.2
   rw[e];omega
  repeat' (first|simp(maxDischargeDepth:=9) -implicitDefEqProofs -dsimp only[go_sem,seval,ge_iff_le, *]|refine fin_eq ?_)
theorem lW(g:List Sg)(hg:dg g)(e:E):∀(w:Int) (σ:aA),shp g e=true->nodes e<=16777216->WfE e->0<=w->C_ 155 [encE e, .int .i64 w] σ (.tup [encE (size e w).1, .int .i64 (size e w).2]) σ:=by
 refine E.ind (P:=λe=>∀(w:Int) (σ:aA),shp g e=true->nodes e<=16777216->WfE e->0<=w->C_ 155 [encE e, .int .i64 w] σ (.tup [encE (size e w).1, .int .i64 (size e w).2]) σ) (λe ih w σ hs he hw h0=>?_) e;have h1:=encEs_eq e;have l1:=len_nodes e;have hown:=λτ=>qf g hg e τ hs he;have hon:=bI hg e hs;have hwp:=lK hon (show -1<=w by omega)
 have hwd:((w==0)=false/\wide e w=w)\/(w=0/\(own e==0)=false/\own e=wide e w)\/(w=0/\own e=0/\wide e w=32):=by
  by_cases q:w=0
  ·subst q;rw[iK,cw];by_cases q2:own e=0
   ·exact .inr (.inr ⟨rfl,q2,by rw[if_pos q2]⟩)
   ·exact .inr (.inl ⟨rfl,by simp[q2],by rw[if_neg q2]⟩)
  ·exact .inl ⟨by simp[q],bM q (by omega)⟩
 have hbit:¬(w= -1/\1<own e):=by omega
 have hv64:=((WfE_iff e).1 hw).1.2.2.1;have hh:=λτ h=>A1 (wide e w) e.v τ h hv64
 have hU:=fun(h:e.l.length<=16777216) ws τ (h2:ws.length=e.l.length) (h3:∀v∈ws,-1<=v)=>qF (e.set (wide e w) e.l) ws τ h h2 h3
  (λp hp τ=>qf g hg p τ (aY hs hp) (by have:=part_nodes (e:=e) hp;omega))
  (λp hp v τ h=>ih p hp v τ (aY hs hp) (by have:=part_nodes (e:=e) hp;omega) (((WfE_iff e).1 hw).2 p hp) h)
 replace hU:=hU (by omega);have hN:=λws τ h=>tm (e.set (wide e w) e.l) ws τ h;have hei:=fun(a:E) (ha:a∈e.l) (b:E) (hb:b∈e.l) τ=>AW g hg a b (aY hs ha) (aY hs hb) (by have:=part_nodes ha;omega) (by have:=part_nodes hb;omega) τ;have honp:=fun(a:E) (ha:a∈e.l)=>bI hg a (aY hs ha);obtain⟨W,hW⟩:∃W,wide e w=W:=⟨_,rfl⟩;have hss:=fun(ws:List Int) (q1:¬(e.op=1/\e.w=0)) (q2:¬e.op=8) (q3:cX e W=some ws)=>xC hbit q1 q2 (by rw[hW];exact q3);have hsn:=fun(q1:¬(e.op=1/\e.w=0)) (q3:cX e W=none)=>rQ hbit q1 (by rw[hW];exact q3);have hs8:=fun(ws:List Int) (q1:¬(e.op=1/\e.w=0)) (q3:cX e W=some ws)=>mK hbit q1 (by rw[hW];exact q3);have hs1:=fun(q1:e.op=1) (q2:e.w=0)=>uK hbit q1 q2;rw[hW] at hwd hwp hh hU hN;simp only[hW] at hss hs1;have hwb:(W==0)=false:=by simp;omega
 have hnd:=d8 hs;clear ih hw hs hbit;cases hnd with
 |sig ho h2 h3 h4 h5=>
  have hn1:¬(e.op=1/\e.w=0):=by omega
  have hn8:¬e.op=8:=by omega
  have hwt:=kP (e:=e) (w:=W) (by omega);replace hN:=λws τ=>hN ws τ h4;simp only[cR] at hN;generalize hR:size e w=R at hsn hss|-;have hN0:=λτ=>hN [0] τ
  have hss0:own e=W->R=bJ (e.set W e.l) [0]:=λh=>by
   have:=hss [] hn1 hn8 (by rw[hwt,if_neg (by omega),h4];rfl)
   rw[this,gu,gu,h4];rfl
  have hsn0:own e≠W->R=(zE,90):=λh=>hsn hn1 (by rw[hwt,if_pos h]);generalize hU':bJ (e.set W e.l) [0]=U at hN0 hss0;clear hU hei honp hss hsn hs8 hs1 hR hwt hN hU' hn1 hn8;simp only[List.map_cons,List.map_nil] at hN0;refine gO [2] Tryz.func155 (by kernel_rfl) (by conv=>lhs;reduce;dsimp only[iA,iB]) rfl ?_;by_cases hq:own e=W
  ·have hqb:(own e != W)=false:=by simp[hq]
   rw[hss0 hq];clear hss0 hsn0;rw[hq] at hown hwd hqb;clear hq;rcases hwd with ⟨w1,w2⟩|⟨rfl,w2,w3⟩|⟨rfl,w2,w3⟩
   ·subst w2;repeat' (first|simp(maxDischargeDepth:=9) -implicitDefEqProofs -dsimp only[go_sem,seval, *]|(with_reducible refine Zt λoF hoF hnF hnF'=>?_;try simp only[aa,ne_eq,not_and] at hoF)|with_reducible refine kc1 (ACalls.flA (hown _) ?_) ?_|with_reducible refine kc1 (ACalls.flA (hN0 _) ?_) ?_|refine fin_eq ?_)
   ·repeat' (first|simp(maxDischargeDepth:=9) -implicitDefEqProofs -dsimp only[go_sem,seval, *]|(with_reducible refine Zt λoF hoF hnF hnF'=>?_;try simp only[aa,ne_eq,not_and] at hoF)|with_reducible refine kc1 (ACalls.flA (hown _) ?_) ?_|with_reducible refine kc1 (ACalls.flA (hN0 _) ?_) ?_|refine fin_eq ?_)
   ·exfalso;omega
  ·have hqb:(own e != W)=true:=by simp[hq]
   rw[hsn0 hq,aL];clear hss0 hsn0 hN0;generalize ho':own e=o at hown hwd hqb hq;clear ho';rcases hwd with ⟨w1,w2⟩|⟨rfl,w2,w3⟩|⟨rfl,w2,w3⟩
   ·subst w2;repeat' (first|simp(maxDischargeDepth:=9) -implicitDefEqProofs -dsimp only[go_sem,seval, *]|simp(disch:=omega) only[ah,aj,ao,aw,ar,ag,au,aq]|(with_reducible refine Zt λoF hoF hnF hnF'=>?_;try simp only[aa,ne_eq,not_and] at hoF)|with_reducible refine kc1 (ACalls.flA (hown _) ?_) ?_|refine fin_eq ?_)
   ·exact(hq w3).elim
   ·subst w2 w3;clear hq;repeat' (first|simp(maxDischargeDepth:=9) -implicitDefEqProofs -dsimp only[go_sem,seval, *]|simp(disch:=omega) only[ah,aj,ao,aw,ar,ag,au,aq]|(with_reducible refine Zt λoF hoF hnF hnF'=>?_;try simp only[aa,ne_eq,not_and] at hoF)|with_reducible refine kc1 (ACalls.flA (hown _) ?_) ?_|refine fin_eq ?_)
 |idx ho h2 h3 h4 h5 a h6 h7 h8=>
  have hn1:¬(e.op=1/\e.w=0):=by omega
  have hn8:¬e.op=8:=by omega
  have hle:e.l.length=1:=by rw[h6];rfl
  have hwt:=kP (e:=e) (w:=W) (by omega);rw[hle] at hwt;simp only[cR] at hU;generalize hR:size e w=R at hsn hss|-;have hN0:=λτ=>hU [0] τ (by rw[hle];rfl) (by simp);have hss0:own e=W->R=bJ (e.set W e.l) [0]:=λh=>hss [0] hn1 hn8 (by rw[hwt,if_neg (by omega)];rfl);have hsn0:own e≠W->R=(zE,90):=λh=>hsn hn1 (by rw[hwt,if_pos h]);generalize hU':bJ (e.set W e.l) [0]=U at hN0 hss0;generalize ho':own e=o at hown hwd hss0 hsn0;clear hU hei honp hss hsn hs8 hs1 hR hwt hN hU' hn1 hn8 h6 ho';simp only[List.map_cons,List.map_nil] at hN0;refine gO [2] Tryz.func155 (by kernel_rfl) (by conv=>lhs;reduce;dsimp only[iA,iB]) rfl ?_;by_cases hq:o=W
  ·have hqb:(o != W)=false:=by simp[hq]
   rw[hss0 hq];clear hss0 hsn0 hqb;subst hq;rcases hwd with ⟨w1,w2⟩|⟨rfl,w2,w3⟩|⟨rfl,w2,w3⟩
   ·subst w2;repeat' (first|simp(maxDischargeDepth:=9) -implicitDefEqProofs -dsimp only[go_sem,seval, *]|(with_reducible refine Zt λoF hoF hnF hnF'=>?_;try simp only[aa,ne_eq,not_and] at hoF)|with_reducible refine kc1 (ACalls.flA (hown _) ?_) ?_|with_reducible refine kc1 (ACalls.flA (hN0 _) ?_) ?_|refine fin_eq ?_)
   ·repeat' (first|simp(maxDischargeDepth:=9) -implicitDefEqProofs -dsimp only[go_sem,seval, *]|(with_reducible refine Zt λoF hoF hnF hnF'=>?_;try simp only[aa,ne_eq,not_and] at hoF)|with_reducible refine kc1 (ACalls.flA (hown _) ?_) ?_|with_reducible refine kc1 (ACalls.flA (hN0 _) ?_) ?_|refine fin_eq ?_)
   ·exfalso;omega
  ·have hqb:(o != W)=true:=by simp[hq]
   rw[hsn0 hq,aL];clear hss0 hsn0 hN0;rcases hwd with ⟨w1,w2⟩|⟨rfl,w2,w3⟩|⟨rfl,w2,w3⟩
   ·subst w2;clear hq;repeat' (first|simp(maxDischargeDepth:=9) -implicitDefEqProofs -dsimp only[go_sem,seval, *]|simp(disch:=omega) only[ah,aj,ao,aw,ar,ag,au,aq]|(with_reducible refine Zt λoF hoF hnF hnF'=>?_;try simp only[aa,ne_eq,not_and] at hoF)|with_reducible refine kc1 (ACalls.flA (hown _) ?_) ?_|refine fin_eq ?_)
   ·exact(hq w3).elim
   ·subst w2 w3;clear hq;repeat' (first|simp(maxDischargeDepth:=9) -implicitDefEqProofs -dsimp only[go_sem,seval, *]|simp(disch:=omega) only[ah,aj,ao,aw,ar,ag,au,aq]|(with_reducible refine Zt λoF hoF hnF hnF'=>?_;try simp only[aa,ne_eq,not_and] at hoF)|with_reducible refine kc1 (ACalls.flA (hown _) ?_) ?_|refine fin_eq ?_)
 |un ho h2 h3 h4 h5 a h6 h7 h8=>
  have hn1:¬(e.op=1/\e.w=0):=by omega
  have hn8:¬e.op=8:=by omega
  have hst:∀τ,C_ 210 [encE (e.set W e.l), .int .i64 W] τ (.tup [encE (size e w).1, .int .i64 (size e w).2]) τ:=λτ=>by
   have h:=qG (e.set W e.l) W τ ho h7 h8 (by rw[jJ,h6];rfl) (λws τ h h2=>hU ws τ h h2) (by omega);rw[rY (by omega)] at h;cases hx:cX e W with
   |none=>rw[hx] at h;rw[hsn hn1 hx];exact h
   |some ws=>rw[hx] at h;rw[hss ws hn1 hn8 hx];exact h
  simp only[cR] at hst;generalize hR:size e w=R at hst|-;generalize ho':own e=o at hown hwd;clear hU hei honp hss hsn hs8 hs1 hR hN hn1 hn8 ho';refine gO [2] Tryz.func155 (by kernel_rfl) (by conv=>lhs;reduce;dsimp only[iA,iB]) rfl ?_;rcases hwd with ⟨w1,w2⟩|⟨rfl,w2,w3⟩|⟨rfl,w2,w3⟩
  ·subst w2;repeat' (first|simp(maxDischargeDepth:=9) -implicitDefEqProofs -dsimp only[go_sem,seval, *]|(with_reducible refine Zt λoF hoF hnF hnF'=>?_;try simp only[aa,ne_eq,not_and] at hoF)|with_reducible refine kc1 (ACalls.flA (hst _) ?_) ?_|refine fin_eq ?_)
  ·repeat' (first|simp(maxDischargeDepth:=9) -implicitDefEqProofs -dsimp only[go_sem,seval, *]|(with_reducible refine Zt λoF hoF hnF hnF'=>?_;try simp only[aa,ne_eq,not_and] at hoF)|with_reducible refine kc1 (ACalls.flA (hown _) ?_) ?_|with_reducible refine kc1 (ACalls.flA (hst _) ?_) ?_|refine fin_eq ?_)
  ·repeat' (first|simp(maxDischargeDepth:=9) -implicitDefEqProofs -dsimp only[go_sem,seval, *]|(with_reducible refine Zt λoF hoF hnF hnF'=>?_;try simp only[aa,ne_eq,not_and] at hoF)|with_reducible refine kc1 (ACalls.flA (hown _) ?_) ?_|with_reducible refine kc1 (ACalls.flA (hst _) ?_) ?_|refine fin_eq ?_)
 |bin ho h2 h3 h4 h5 a b h6 h7 h8=>
  have hn1:¬(e.op=1/\e.w=0):=by omega
  have hn8:¬e.op=8:=by omega
  have hst:∀τ,C_ 211 [encE (e.set W e.l), .int .i64 W] τ (.tup [encE (size e w).1, .int .i64 (size e w).2]) τ:=λτ=>by
   have h:=qi (e.set W e.l) W τ ho h7 h8 (by rw[jJ,h6];rfl) (λws τ h h2=>hU ws τ h h2) (by omega) hei honp;rw[rY (by omega)] at h;cases hx:cX e W with
   |none=>rw[hx] at h;rw[hsn hn1 hx];exact h
   |some ws=>rw[hx] at h;rw[hss ws hn1 hn8 hx];exact h
  simp only[cR] at hst;generalize hR:size e w=R at hst|-;generalize ho':own e=o at hown hwd;clear hU hei honp hss hsn hs8 hs1 hR hN hn1 hn8 ho';refine gO [2] Tryz.func155 (by kernel_rfl) (by conv=>lhs;reduce;dsimp only[iA,iB]) rfl ?_;rcases hwd with ⟨w1,w2⟩|⟨rfl,w2,w3⟩|⟨rfl,w2,w3⟩
  ·subst w2;repeat' (first|simp(maxDischargeDepth:=9) -implicitDefEqProofs -dsimp only[go_sem,seval, *]|(with_reducible refine Zt λoF hoF hnF hnF'=>?_;try simp only[aa,ne_eq,not_and] at hoF)|with_reducible refine kc1 (ACalls.flA (hst _) ?_) ?_|refine fin_eq ?_)
  ·repeat' (first|simp(maxDischargeDepth:=9) -implicitDefEqProofs -dsimp only[go_sem,seval, *]|(with_reducible refine Zt λoF hoF hnF hnF'=>?_;try simp only[aa,ne_eq,not_and] at hoF)|with_reducible refine kc1 (ACalls.flA (hown _) ?_) ?_|with_reducible refine kc1 (ACalls.flA (hst _) ?_) ?_|refine fin_eq ?_)
  ·repeat' (first|simp(maxDischargeDepth:=9) -implicitDefEqProofs -dsimp only[go_sem,seval, *]|(with_reducible refine Zt λoF hoF hnF hnF'=>?_;try simp only[aa,ne_eq,not_and] at hoF)|with_reducible refine kc1 (ACalls.flA (hown _) ?_) ?_|with_reducible refine kc1 (ACalls.flA (hst _) ?_) ?_|refine fin_eq ?_)
 |cond ho h2 h3 h4 h5 h7 a b c h6=>
  have hn1:¬(e.op=1/\e.w=0):=by omega
  have hn8:¬e.op=8:=by omega
  have hst:=λτ=>hU [-1,W,W] τ (by rw[h6];rfl) (by simp;omega);rw[<-hss [-1,W,W] hn1 hn8 (s8 ho)] at hst;simp only[cR,List.map_cons,List.map_nil] at hst;generalize hR:size e w=R at hst|-;generalize ho':own e=o at hown hwd;clear hU hei honp hss hsn hs8 hs1 hR hN hn1 hn8 ho' h6;refine gO [2] Tryz.func155 (by kernel_rfl) (by conv=>lhs;reduce;dsimp only[iA,iB]) rfl ?_;rcases hwd with ⟨w1,w2⟩|⟨rfl,w2,w3⟩|⟨rfl,w2,w3⟩
  ·subst w2;repeat' (first|simp(maxDischargeDepth:=9) -implicitDefEqProofs -dsimp only[go_sem,seval, *]|(with_reducible refine Zt λoF hoF hnF hnF'=>?_;try simp only[aa,ne_eq,not_and] at hoF)|with_reducible refine kc1 (ACalls.flA (hst _) ?_) ?_|refine fin_eq ?_)
  ·repeat' (first|simp(maxDischargeDepth:=9) -implicitDefEqProofs -dsimp only[go_sem,seval, *]|(with_reducible refine Zt λoF hoF hnF hnF'=>?_;try simp only[aa,ne_eq,not_and] at hoF)|with_reducible refine kc1 (ACalls.flA (hown _) ?_) ?_|with_reducible refine kc1 (ACalls.flA (hst _) ?_) ?_|refine fin_eq ?_)
  ·repeat' (first|simp(maxDischargeDepth:=9) -implicitDefEqProofs -dsimp only[go_sem,seval, *]|(with_reducible refine Zt λoF hoF hnF hnF'=>?_;try simp only[aa,ne_eq,not_and] at hoF)|with_reducible refine kc1 (ACalls.flA (hown _) ?_) ?_|with_reducible refine kc1 (ACalls.flA (hst _) ?_) ?_|refine fin_eq ?_)
 |num ho h2 h3 h4 h5 h6 h7 h8 h9=>
  have ho1:own e=e.w:=qD ho;rw[ho1] at hown hwd;have hn8:¬e.op=8:=by omega
  have hwt:=kP (e:=e) (w:=W) (.inl ho);rw[ho1] at hwt;clear hU hei honp hs8 hN;by_cases hz:e.w=0
  ·rw[hs1 ho hz];generalize hb:holds W e.v=b at hh|-
   have hwd':((w==0)=false/\W=w)\/(w=0/\W=32):=by
    rcases hwd with q|⟨_,q,_⟩|⟨q,_,q2⟩
    ·exact .inl q
    ·rw[hz] at q;simp at q
    ·exact .inr ⟨q,q2⟩
   rw[hz] at hown;clear hss hsn hs1 hb hwd h9 ho1 hwt;refine gO [2] Tryz.func155 (by kernel_rfl) (by conv=>lhs;reduce;dsimp only[iA,iB]) rfl ?_;cases b
   ·rw[if_neg (by simp),aL];rcases hwd' with ⟨w1,w2⟩|⟨w1,w2⟩
    ·subst w2;repeat' (first|simp(maxDischargeDepth:=9) -implicitDefEqProofs -dsimp only[go_sem,seval, *]|simp(disch:=omega) only[ah,aj,ao,aw,ar,ag,au,aq]|(with_reducible refine Zt λoF hoF hnF hnF'=>?_;try simp only[aa,ne_eq,not_and] at hoF)|with_reducible refine kc1 (hh _ ?_) ?_|(refine fin_eq ?_;repeat' simp(maxDischargeDepth:=9) -implicitDefEqProofs -dsimp only[go_sem,seval,List.map_nil, *]))
    ·subst w1 w2;repeat' (first|simp(maxDischargeDepth:=9) -implicitDefEqProofs -dsimp only[go_sem,seval, *]|simp(disch:=omega) only[ah,aj,ao,aw,ar,ag,au,aq]|(with_reducible refine Zt λoF hoF hnF hnF'=>?_;try simp only[aa,ne_eq,not_and] at hoF)|with_reducible refine kc1 (hh _ ?_) ?_|with_reducible refine kc1 (ACalls.flA (hown _) ?_) ?_|(refine fin_eq ?_;repeat' simp(maxDischargeDepth:=9) -implicitDefEqProofs -dsimp only[go_sem,seval,List.map_nil, *]))
   ·rw[if_pos rfl,uZ];rcases hwd' with ⟨w1,w2⟩|⟨w1,w2⟩
    ·subst w2;repeat' (first|simp(maxDischargeDepth:=9) -implicitDefEqProofs -dsimp only[go_sem,seval, *]|simp(disch:=omega) only[ah,aj,ao,aw,ar,ag,au,aq]|(with_reducible refine Zt λoF hoF hnF hnF'=>?_;try simp only[aa,ne_eq,not_and] at hoF)|with_reducible refine kc1 (hh _ ?_) ?_|(refine fin_eq ?_;repeat' simp(maxDischargeDepth:=9) -implicitDefEqProofs -dsimp only[go_sem,seval,List.map_nil, *]))
    ·subst w1 w2;repeat' (first|simp(maxDischargeDepth:=9) -implicitDefEqProofs -dsimp only[go_sem,seval, *]|simp(disch:=omega) only[ah,aj,ao,aw,ar,ag,au,aq]|(with_reducible refine Zt λoF hoF hnF hnF'=>?_;try simp only[aa,ne_eq,not_and] at hoF)|with_reducible refine kc1 (hh _ ?_) ?_|with_reducible refine kc1 (ACalls.flA (hown _) ?_) ?_|(refine fin_eq ?_;repeat' simp(maxDischargeDepth:=9) -implicitDefEqProofs -dsimp only[go_sem,seval,List.map_nil, *]))
  ·have hn1:¬(e.op=1/\e.w=0):=λh=>hz h.2;have hzb:(e.w != 0)=true:=by simpa using hz
   have hzb2:(e.w==0)=false:=by simpa using hz
   have hwd':((w==0)=false/\W=w)\/(w=0/\e.w=W):=by
    rcases hwd with q|⟨q,_,q2⟩|⟨_,q,_⟩
    ·exact .inl q
    ·exact .inr ⟨q,q2⟩
    ·exact(hz q).elim
   by_cases hq:e.w=W
   ·have hv:=hss [] hn1 hn8 (by rw[hwt,if_neg (by omega),h6];rfl);rw[gu,h6] at hv;have hv2:size e w=(e.set W [],0):=by rw[hv];rfl
    rw[hv2,cR];have hqb:(e.w != W)=false:=by simp[hq]
    rw[hq] at hown hzb hzb2 hqb hwd';clear hss hsn hs1 hwd h9 ho1 hwt hv hv2 hz h7 h8 hn1;refine gO [2] Tryz.func155 (by kernel_rfl) (by conv=>lhs;reduce;dsimp only[iA,iB]) rfl ?_;rcases hwd' with ⟨w1,w2⟩|⟨w1,w2⟩
    ·subst w2;repeat' (first|simp(maxDischargeDepth:=9) -implicitDefEqProofs -dsimp only[go_sem,seval, *]|simp(disch:=omega) only[ah,aj,ao,aw,ar,ag,au,aq]|(with_reducible refine Zt λoF hoF hnF hnF'=>?_;try simp only[aa,ne_eq,not_and] at hoF)|(refine fin_eq ?_;repeat' simp(maxDischargeDepth:=9) -implicitDefEqProofs -dsimp only[go_sem,seval,List.map_nil, *]))
    ·subst w1;repeat' (first|simp(maxDischargeDepth:=9) -implicitDefEqProofs -dsimp only[go_sem,seval, *]|simp(disch:=omega) only[ah,aj,ao,aw,ar,ag,au,aq]|(with_reducible refine Zt λoF hoF hnF hnF'=>?_;try simp only[aa,ne_eq,not_and] at hoF)|with_reducible refine kc1 (ACalls.flA (hown _) ?_) ?_|(refine fin_eq ?_;repeat' simp(maxDischargeDepth:=9) -implicitDefEqProofs -dsimp only[go_sem,seval,List.map_nil, *]))
   ·rw[hsn hn1 (by rw[hwt,if_pos hq]),aL];have hqb:(e.w != W)=true:=by simp[hq]
    clear hss hsn hs1 hwd h9 ho1 hwt hz h7 h8 hn1;refine gO [2] Tryz.func155 (by kernel_rfl) (by conv=>lhs;reduce;dsimp only[iA,iB]) rfl ?_;rcases hwd' with ⟨w1,w2⟩|⟨w1,w2⟩
    ·subst w2;clear hq;repeat' (first|simp(maxDischargeDepth:=9) -implicitDefEqProofs -dsimp only[go_sem,seval, *]|simp(disch:=omega) only[ah,aj,ao,aw,ar,ag,au,aq]|(with_reducible refine Zt λoF hoF hnF hnF'=>?_;try simp only[aa,ne_eq,not_and] at hoF)|(refine fin_eq ?_;repeat' simp(maxDischargeDepth:=9) -implicitDefEqProofs -dsimp only[go_sem,seval,List.map_nil, *]))
    ·exact(hq w2).elim
 |cat ho h2 h3 h4 h5 h7 h6=>
  have hn1:¬(e.op=1/\e.w=0):=by omega
  have hn8:¬e.op=8:=by omega
  have hwt:=s9 (e:=e) (w:=W) ho;generalize ho':own e=o at hown hwd hwt;clear hs8 hs1 hN hei honp;by_cases hbad:o=0\/o≠W\/64<o
  ·rw[hsn hn1 (by rw[hwt,if_pos hbad]),aL];clear hss hsn hU hwt hn1 hn8 ho'
   have hc:(o==0)=true\/((o==0)=false/\(o != W)=true)\/((o==0)=false/\(o != W)=false/\64<o):=by
    by_cases q:o=0
    ·exact .inl (by simp[q])
    ·by_cases q2:o=W
     ·exact .inr (.inr ⟨by simp[q],by simp[q2],by omega⟩)
     ·exact .inr (.inl ⟨by simp[q],by simp[q2]⟩)
   clear hbad;refine gO [2] Tryz.func155 (by kernel_rfl) (by conv=>lhs;reduce;dsimp only[iA,iB]) rfl ?_;rcases hwd with ⟨w1,w2⟩|⟨rfl,w2,w3⟩|⟨rfl,w2,w3⟩
   ·subst w2;rcases hc with c|⟨c,c2⟩|⟨c,c2,c3⟩
    all_goals
     repeat' (first|simp(maxDischargeDepth:=9) -implicitDefEqProofs -dsimp only[go_sem,seval,gt_iff_lt, *]|simp(disch:=omega) only[ah,aj,ao,aw,ar,ag,au,aq]|(with_reducible refine Zt λoF hoF hnF hnF'=>?_;try simp only[aa,ne_eq,not_and] at hoF)|with_reducible refine kc1 (ACalls.flA (hown _) ?_) ?_|refine fin_eq ?_)
   ·rcases hc with c|⟨c,c2⟩|⟨c,c2,c3⟩
    ·rw[w2] at c;simp at c
    ·rw[w3] at c2;simp at c2
    ·subst w3;repeat' (first|simp(maxDischargeDepth:=9) -implicitDefEqProofs -dsimp only[go_sem,seval,gt_iff_lt, *]|simp(disch:=omega) only[ah,aj,ao,aw,ar,ag,au,aq]|(with_reducible refine Zt λoF hoF hnF hnF'=>?_;try simp only[aa,ne_eq,not_and] at hoF)|with_reducible refine kc1 (ACalls.flA (hown _) ?_) ?_|refine fin_eq ?_)
   ·subst w2;repeat' (first|simp(maxDischargeDepth:=9) -implicitDefEqProofs -dsimp only[go_sem,seval,gt_iff_lt, *]|simp(disch:=omega) only[ah,aj,ao,aw,ar,ag,au,aq]|(with_reducible refine Zt λoF hoF hnF hnF'=>?_;try simp only[aa,ne_eq,not_and] at hoF)|with_reducible refine kc1 (ACalls.flA (hown _) ?_) ?_|refine fin_eq ?_)
  ·have q1:o≠0:=λh=>hbad (.inl h);have q2:o=W:=by omega
   have q3:¬64<o:=by omega
   have hU0:=λτ=>hU (List.replicate e.l.length 0) τ (by simp) (λv hv=>by have:=(List.mem_replicate.1 hv).2;omega);rw[<-hss _ hn1 hn8 (by rw[hwt,if_neg hbad])] at hU0;simp only[cR] at hU0;generalize hR:size e w=R at hU0|-;have hrep:∀n:Nat,List.replicate n (AV.int .i64 0)=(List.replicate n (0:Int)).map encInt:=λn=>by simp
   subst q2;clear hss hsn hU hwt hn1 hn8 ho' hbad hR;refine gO [2] Tryz.func155 (by kernel_rfl) (by conv=>lhs;reduce;dsimp only[iA,iB]) rfl ?_;rcases hwd with ⟨w1,w2⟩|⟨rfl,w2,w3⟩|⟨rfl,w2,w3⟩
   ·subst w2;repeat' (first|simp(maxDischargeDepth:=9) -implicitDefEqProofs -dsimp only[go_sem,seval,gt_iff_lt, *]|with_reducible refine Zv ?_ ?_|(with_reducible refine Zt λoF hoF hnF hnF'=>?_;try simp only[aa,ne_eq,not_and] at hoF)|with_reducible refine kc1 (ACalls.flA (hown _) ?_) ?_|with_reducible refine id_one0 (λtS hS=>ACalls.flA (hU0 _) ?_) trivial ?_|refine fin_eq ?_|with_reducible refine And.intro ?_ ?_|omega)
   ·repeat' (first|simp(maxDischargeDepth:=9) -implicitDefEqProofs -dsimp only[go_sem,seval,gt_iff_lt, *]|with_reducible refine Zv ?_ ?_|(with_reducible refine Zt λoF hoF hnF hnF'=>?_;try simp only[aa,ne_eq,not_and] at hoF)|with_reducible refine kc1 (ACalls.flA (hown _) ?_) ?_|with_reducible refine id_one0 (λtS hS=>ACalls.flA (hU0 _) ?_) trivial ?_|refine fin_eq ?_|with_reducible refine And.intro ?_ ?_|omega)
   ·exact(q1 w2).elim
 |ext ho h2 h3 h4 h5 a h6 h7 h8 h9 h10=>
  have ho1:own e=e.w:=xo ho;rw[ho1] at hown hwd;have hn1:¬(e.op=1/\e.w=0):=by omega
  have hle:e.l.length=1:=by rw[h6];rfl
  have hwt:=kP (e:=e) (w:=W) (by omega);rw[ho1,hle] at hwt
  have hwd':((w==0)=false/\W=w)\/(w=0/\(e.w==0)=false/\e.w=W):=by
   rcases hwd with q|⟨q,q1,q2⟩|⟨_,q,_⟩
   ·exact .inl q
   ·exact .inr ⟨q,q1,q2⟩
   ·omega
  clear hei honp hs1 hN hss hwd;by_cases hq:e.w=W
  ·have hqb:(e.w != W)=false:=by simp[hq]
   have hv:=hs8 [0] hn1 (by rw[hwt,if_neg (by omega)];rfl);have hU0:=λτ=>hU [0] τ (by rw[hle];rfl) (by simp);have hus:=gu e W [0];have hup:=xD (e:=e) (W:=W) (ws:=[0])
   have hlen:(bJ (e.set W e.l) [0]).2=0->∃x,(aO (e.l.map size) [0]).1=[x]:=λh=>by
    obtain⟨k1,_⟩:=lJ e.l [0] (by rw[hle];rfl) (hup h).2;exact len1 (by rw[k1,hle])
   rw[jl] at hv;simp only[cR] at hU0;simp only[hW] at hv;clear hU hs8 hsn hwt hn1;generalize hU':bJ (e.set W e.l) [0]=U at hU0 hus hup hlen;generalize hR:aO (e.l.map size) [0]=R at hv hus hup hlen;clear hU' hR;by_cases hf:U.2=0
   ·obtain⟨k1,k2⟩:=hup hf;obtain⟨x,hx⟩:=hlen hf;rw[k1] at hU0;rw[if_neg (by omega)] at hv;rw[hx] at hv hU0;have hp0:dM [x]=x.w:=rfl;have hx8:jF (e.set W [x])=[encE x]:=by rw[encEs_eq];rfl
    rw[hp0] at hv;simp only[cR,List.map_cons,List.map_nil] at hU0;clear hus hup hlen k1 k2 hx hp0 hf;rw[hq] at hown hqb hwd';by_cases hbad:e.n=33/\x.w<W\/e.n≠33/\W<x.w
    ·rw[if_pos ⟨ho,hbad⟩] at hv;rw[hv,aL];clear hv hW;refine gO [2] Tryz.func155 (by kernel_rfl) (by conv=>lhs;reduce;dsimp only[iA,iB]) rfl ?_;rcases hwd' with ⟨w1,w2⟩|⟨rfl,w2,w3⟩
     ·subst w2;repeat' (first|simp(maxDischargeDepth:=9) -implicitDefEqProofs -dsimp only[go_sem,seval,gt_iff_lt,List.getElem?_cons_zero,mL,rR,uL,lM,pP,pQ,nr, *]|simp(disch:=omega) only[ah,aj,ao,aw,ar,ag,au,aq]|(with_reducible (first|apply Za|apply Zb|apply Zc|apply Zd|apply Ze|apply Zf|apply Zg|apply Zh|apply Zi|apply Zj|apply Zk|apply Zl|apply Zm|apply Zn|apply Zo|apply Zp|apply Zq|apply Zr|apply Zs)<;>intro hq)|(with_reducible refine Zt λoF hoF hnF hnF'=>?_;try simp only[aa,ne_eq,not_and] at hoF)|with_reducible refine kc1 (ACalls.flA (hU0 _) ?_) ?_|omega)
      all_goals first|(exfalso;omega)|skip
      all_goals
       refine fin_eq ?_;(repeat' simp(maxDischargeDepth:=9) -implicitDefEqProofs -dsimp only[go_sem,seval, *])
     ·repeat' (first|simp(maxDischargeDepth:=9) -implicitDefEqProofs -dsimp only[go_sem,seval,gt_iff_lt,List.getElem?_cons_zero,mL,rR,uL,lM,pP,pQ,nr, *]|simp(disch:=omega) only[ah,aj,ao,aw,ar,ag,au,aq]|(with_reducible (first|apply Za|apply Zb|apply Zc|apply Zd|apply Ze|apply Zf|apply Zg|apply Zh|apply Zi|apply Zj|apply Zk|apply Zl|apply Zm|apply Zn|apply Zo|apply Zp|apply Zq|apply Zr|apply Zs)<;>intro hq)|(with_reducible refine Zt λoF hoF hnF hnF'=>?_;try simp only[aa,ne_eq,not_and] at hoF)|with_reducible refine kc1 (ACalls.flA (hown _) ?_) ?_|with_reducible refine kc1 (ACalls.flA (hU0 _) ?_) ?_|omega)
      all_goals first|(exfalso;omega)|skip
      all_goals
       refine fin_eq ?_;(repeat' simp(maxDischargeDepth:=9) -implicitDefEqProofs -dsimp only[go_sem,seval, *])
    ·rw[if_neg (λh=>hbad h.2)] at hv;rw[hv,cR];clear hv hW;refine gO [2] Tryz.func155 (by kernel_rfl) (by conv=>lhs;reduce;dsimp only[iA,iB]) rfl ?_;rcases hwd' with ⟨w1,w2⟩|⟨rfl,w2,w3⟩
     ·subst w2;repeat' (first|simp(maxDischargeDepth:=9) -implicitDefEqProofs -dsimp only[go_sem,seval,gt_iff_lt,List.getElem?_cons_zero,mL,rR,uL,lM,pP,pQ,nr, *]|simp(disch:=omega) only[ah,aj,ao,aw,ar,ag,au,aq]|(with_reducible (first|apply Za|apply Zb|apply Zc|apply Zd|apply Ze|apply Zf|apply Zg|apply Zh|apply Zi|apply Zj|apply Zk|apply Zl|apply Zm|apply Zn|apply Zo|apply Zp|apply Zq|apply Zr|apply Zs)<;>intro hq)|(with_reducible refine Zt λoF hoF hnF hnF'=>?_;try simp only[aa,ne_eq,not_and] at hoF)|with_reducible refine kc1 (ACalls.flA (hU0 _) ?_) ?_|omega)
      all_goals first|(exfalso;omega)|skip
      all_goals
       refine fin_eq ?_;(repeat' simp(maxDischargeDepth:=9) -implicitDefEqProofs -dsimp only[go_sem,seval,List.map_cons,List.map_nil, *])
     ·repeat' (first|simp(maxDischargeDepth:=9) -implicitDefEqProofs -dsimp only[go_sem,seval,gt_iff_lt,List.getElem?_cons_zero,mL,rR,uL,lM,pP,pQ,nr, *]|simp(disch:=omega) only[ah,aj,ao,aw,ar,ag,au,aq]|(with_reducible (first|apply Za|apply Zb|apply Zc|apply Zd|apply Ze|apply Zf|apply Zg|apply Zh|apply Zi|apply Zj|apply Zk|apply Zl|apply Zm|apply Zn|apply Zo|apply Zp|apply Zq|apply Zr|apply Zs)<;>intro hq)|(with_reducible refine Zt λoF hoF hnF hnF'=>?_;try simp only[aa,ne_eq,not_and] at hoF)|with_reducible refine kc1 (ACalls.flA (hown _) ?_) ?_|with_reducible refine kc1 (ACalls.flA (hU0 _) ?_) ?_|omega)
      all_goals first|(exfalso;omega)|skip
      all_goals
       refine fin_eq ?_;(repeat' simp(maxDischargeDepth:=9) -implicitDefEqProofs -dsimp only[go_sem,seval,List.map_cons,List.map_nil, *])
   ·have hf2:R.2≠0:=λh=>hf (by rw[hus,if_neg (by omega)]);rw[if_pos hf2] at hv hus;have hfb:(R.2 != 0)=true:=by simpa using hf2
    rw[hv,aL];rw[hus] at hU0;simp only[aL] at hU0;rw[hq] at hown hqb hwd';clear hus hup hlen hf hf2 hv hW;generalize hf:R.2=f at hU0 hfb|-;clear hf;refine gO [2] Tryz.func155 (by kernel_rfl) (by conv=>lhs;reduce;dsimp only[iA,iB]) rfl ?_;rcases hwd' with ⟨w1,w2⟩|⟨rfl,w2,w3⟩
    ·subst w2;repeat' (first|simp(maxDischargeDepth:=9) -implicitDefEqProofs -dsimp only[go_sem,seval,gt_iff_lt, *]|(with_reducible refine Zt λoF hoF hnF hnF'=>?_;try simp only[aa,ne_eq,not_and] at hoF)|with_reducible refine kc1 (ACalls.flA (hU0 _) ?_) ?_|refine fin_eq ?_)
    ·repeat' (first|simp(maxDischargeDepth:=9) -implicitDefEqProofs -dsimp only[go_sem,seval,gt_iff_lt, *]|(with_reducible refine Zt λoF hoF hnF hnF'=>?_;try simp only[aa,ne_eq,not_and] at hoF)|with_reducible refine kc1 (ACalls.flA (hown _) ?_) ?_|with_reducible refine kc1 (ACalls.flA (hU0 _) ?_) ?_|refine fin_eq ?_)
  ·have hqb:(e.w != W)=true:=by simp[hq]
   rw[hsn hn1 (by rw[hwt,if_pos hq]),aL];clear hU hs8 hsn hwt hn1 hW;refine gO [2] Tryz.func155 (by kernel_rfl) (by conv=>lhs;reduce;dsimp only[iA,iB]) rfl ?_;rcases hwd' with ⟨w1,w2⟩|⟨w1,w2,w3⟩
   ·subst w2;clear hq;repeat' (first|simp(maxDischargeDepth:=9) -implicitDefEqProofs -dsimp only[go_sem,seval, *]|simp(disch:=omega) only[ah,aj,ao,aw,ar,ag,au,aq]|(with_reducible refine Zt λoF hoF hnF hnF'=>?_;try simp only[aa,ne_eq,not_and] at hoF)|refine fin_eq ?_)
   ·exact(hq w3).elim
end Go.Proofs.YtbbihmmobfmadaaGreat.S
namespace Go.Proofs.YtbbihmmobfmadaaGreat.S
open Abs Fil Fil.Sz
theorem pw(g:List Sg)(hg:dg g)(e:E)(σ:aA)(hs:shp g e=true)(he:nodes e<=16777216)(hw:WfE e):C_ 151 [encE e] σ (.tup [encE (size e (-1)).1, .int .i64 (size e (-1)).2]) σ:=by
 have h1:=encEs_eq e;have c1:=λτ=>qf g hg e τ hs he;have c2:=λτ=>lW g hg e 1 τ hs he hw (by omega);refine gO [1] Tryz.func151 (by kernel_rfl) (by conv=>lhs;reduce;dsimp only[iA]) rfl ?_;by_cases hb:1<own e
 ·rw[pN hb,aL];clear c2;repeat' (first|simp -implicitDefEqProofs -dsimp only[go_sem,seval,gt_iff_lt, *]|simp(disch:=omega) only[ah,aj,ao,aw,ar,ag,au,aq]|(with_reducible refine Zt λoF hoF hnF hnF'=>?_;try simp only[aa,ne_eq,not_and] at hoF)|with_reducible refine kc1 (ACalls.flA (c1 _) ?_) ?_|refine fin_eq ?_)
 ·rw[u7 hb];obtain⟨⟨x,f⟩,hxf⟩:∃R,size e 1=R:=⟨_,rfl⟩;rw[hxf] at c2|-;clear hxf;repeat' (first|simp -implicitDefEqProofs -dsimp only[go_sem,seval,gt_iff_lt, *]|simp(disch:=omega) only[ah,aj,ao,aw,ar,ag,au,aq]|(with_reducible refine Zt λoF hoF hnF hnF'=>?_;try simp only[aa,ne_eq,not_and] at hoF)|with_reducible refine kc1 (ACalls.flA (c1 _) ?_) ?_|with_reducible refine kc1 (ACalls.flA (c2 _) ?_) ?_|refine fin_eq ?_)
theorem HT(d:Flat)(e:E)(w:Int)(σ:aA)(hd:d.sigs.length<=1000000000000)(he:nodes e<=16777216)(hw:WfE e):C_ 84 [encD d,encE e, .int .i64 w] σ (.tup [encE (cY d e w).1, .int .i64 (cY d e w).2]) σ:=by
 have h1:=encEs_eq e;have c1:=λτ=>p9 d.sigs τ hd;have c2:=λτ=>qc d.sigs hd e τ he hw;have c3:=λτ=>rf_Nodes e τ he;have c4:=λτ=>ti e τ he;have c5:=fun(h:dg d.sigs) (h2:shp d.sigs e=true) τ h0=>lW d.sigs h e w τ h2 he hw h0;have hso:=fy (l:=d.sigs);have k1:=rX (d:=d) (e:=e) (w:=w);have k2:=qh (d:=d) (e:=e) (w:=w);have k3:=u6 (d:=d) (e:=e) (w:=w);generalize hR:cY d e w=R at k1 k2 k3|-;clear hR;refine gO [3,4] Tryz.func84 (by kernel_rfl) (by conv=>lhs;reduce;dsimp only[iA]) rfl ?_;obtain⟨a,ha⟩:∃a,cr d.sigs=a:=⟨_,rfl⟩;obtain⟨b,hb⟩:∃a,shp d.sigs e=a:=⟨_,rfl⟩;rw[ha] at c1 k1 k2 k3 hso;rw[hb] at c2 k1 k2 k3 c5;clear ha hb;cases a
 ·rw[k1 (.inl rfl),aL];clear k1 k2 k3 c5;repeat' (first|simp -implicitDefEqProofs -dsimp only[go_sem,seval, *]|simp(disch:=omega) only[ah,aj,ao,aw,ar,ag,au,aq]|(with_reducible refine Zt λoF hoF hnF hnF'=>?_;try simp only[aa,ne_eq,not_and] at hoF)|with_reducible refine kc1 (c1 _) ?_|refine fin_eq ?_)
 by_cases w0:w<0
 ·rw[k1 (.inr (.inl w0)),aL];clear k1 k2 k3 c5;repeat' (first|simp -implicitDefEqProofs -dsimp only[go_sem,seval, *]|simp(disch:=omega) only[ah,aj,ao,aw,ar,ag,au,aq]|(with_reducible refine Zt λoF hoF hnF hnF'=>?_;try simp only[aa,ne_eq,not_and] at hoF)|with_reducible refine kc1 (c1 _) ?_|refine fin_eq ?_)
 by_cases w1:64<w
 ·rw[k1 (.inr (.inr (.inl w1))),aL];clear k1 k2 k3 c5;repeat' (first|simp -implicitDefEqProofs -dsimp only[go_sem,seval,gt_iff_lt, *]|simp(disch:=omega) only[ah,aj,ao,aw,ar,ag,au,aq]|(with_reducible refine Zt λoF hoF hnF hnF'=>?_;try simp only[aa,ne_eq,not_and] at hoF)|with_reducible refine kc1 (c1 _) ?_|refine fin_eq ?_)
 cases b
 ·rw[k1 (.inr (.inr (.inr rfl))),aL];clear k1 k2 k3 c5;repeat' (first|simp -implicitDefEqProofs -dsimp only[go_sem,seval,gt_iff_lt, *]|simp(disch:=omega) only[ah,aj,ao,aw,ar,ag,au,aq]|(with_reducible refine Zt λoF hoF hnF hnF'=>?_;try simp only[aa,ne_eq,not_and] at hoF)|with_reducible refine kc1 (c1 _) ?_|with_reducible refine kc1 (ACalls.flA (c2 _) ?_) ?_|refine fin_eq ?_)
 have hbad:¬(true=false\/w<0\/64<w\/true=false):=by simp;omega
 by_cases hm:65536<nodes e
 ·rw[k2 hbad (.inl hm),aL];have hm2:(65536:Int)<(nodes e:Nat):=by omega
  clear k1 k2 k3 c5 hbad;repeat' (first|simp -implicitDefEqProofs -dsimp only[go_sem,seval,gt_iff_lt, *]|simp(disch:=omega) only[ah,aj,ao,aw,ar,ag,au,aq]|(with_reducible refine Zt λoF hoF hnF hnF'=>?_;try simp only[aa,ne_eq,not_and] at hoF)|with_reducible refine kc1 (c1 _) ?_|with_reducible refine kc1 (ACalls.flA (c2 _) ?_) ?_|with_reducible refine kc1 (ACalls.flA (c3 _) ?_) ?_|refine fin_eq ?_)
 have hm2:¬(65536:Int)<(nodes e:Nat):=by omega
 by_cases hm3:64<deep e
 ·rw[k2 hbad (.inr hm3),aL];have hm4:(64:Int)<(deep e:Nat):=by omega
  clear k1 k2 k3 c5 hbad;repeat' (first|simp -implicitDefEqProofs -dsimp only[go_sem,seval,gt_iff_lt, *]|simp(disch:=omega) only[ah,aj,ao,aw,ar,ag,au,aq]|(with_reducible refine Zt λoF hoF hnF hnF'=>?_;try simp only[aa,ne_eq,not_and] at hoF)|with_reducible refine kc1 (c1 _) ?_|with_reducible refine kc1 (ACalls.flA (c2 _) ?_) ?_|with_reducible refine kc1 (ACalls.flA (c3 _) ?_) ?_|with_reducible refine kc1 (ACalls.flA (c4 _) ?_) ?_|refine fin_eq ?_)
 ·rw[k3 hbad (by omega)];have hm4:¬(64:Int)<(deep e:Nat):=by omega
  replace c5:=λτ=>c5 (hso rfl) rfl τ (by omega);obtain⟨⟨x,f⟩,hxf⟩:∃R,size e w=R:=⟨_,rfl⟩;rw[hxf] at c5|-;clear k1 k2 k3 hbad hxf;repeat' (first|simp -implicitDefEqProofs -dsimp only[go_sem,seval,gt_iff_lt, *]|simp(disch:=omega) only[ah,aj,ao,aw,ar,ag,au,aq]|(with_reducible refine Zt λoF hoF hnF hnF'=>?_;try simp only[aa,ne_eq,not_and] at hoF)|with_reducible refine kc1 (c1 _) ?_|with_reducible refine kc1 (ACalls.flA (c2 _) ?_) ?_|with_reducible refine kc1 (ACalls.flA (c3 _) ?_) ?_|with_reducible refine kc1 (ACalls.flA (c4 _) ?_) ?_|with_reducible refine kc1 (ACalls.flA (c5 _) ?_) ?_|refine fin_eq ?_)
open Classical in
theorem rf_CheckE(d:Flat)(e:E)(σ:aA)(hd:d.sigs.length<=1000000000000)(he:nodes e<=16777216)(hw:WfE e):C_ 42 [encD d,encE e] σ (.int .i64 (checkE d e)) σ:=by
 have h1:=encEs_eq e;have c1:=λτ=>HT d e e.w τ hd he hw;have hn:=ns d e e.w;have hc:checkE d e=if (cY d e e.w).2=0/\(e.w=0\/¬(cY d e e.w).1=e) then 90 else (cY d e e.w).2:=rfl
 obtain⟨⟨x,f⟩,hR⟩:∃R,cY d e e.w=R:=⟨_,rfl⟩;rw[hR] at c1 hn hc;simp only at c1 hn hc;have c2:=λτ=>pU x e τ (by omega) he;refine gO [2,3] Tryz.func42 (by kernel_rfl) (by conv=>lhs;reduce;dsimp only[iA]) rfl ?_;generalize hC:checkE d e=C at hc|-;generalize hs:same x e=s at c2;clear hR hC hw he hn;by_cases hf:f=0
 ·by_cases he:e.w=0
  ·rw[if_pos ⟨hf, .inl he⟩] at hc;clear hs;repeat' (first|simp -implicitDefEqProofs -dsimp only[go_sem,seval, *]|(with_reducible refine Zt λoF hoF hnF hnF'=>?_;try simp only[aa,ne_eq,not_and] at hoF)|with_reducible refine kc1 (ACalls.flA (c1 _) ?_) ?_|refine fin_eq ?_)
  ·have hb:(e.w==0)=false:=by simpa using he
   cases s
   ·rw[if_pos ⟨hf, .inr (fx.1 hs)⟩] at hc;clear hs he;repeat' (first|simp -implicitDefEqProofs -dsimp only[go_sem,seval, *]|(with_reducible refine Zt λoF hoF hnF hnF'=>?_;try simp only[aa,ne_eq,not_and] at hoF)|with_reducible refine kc1 (ACalls.flA (c1 _) ?_) ?_|with_reducible refine kc1 (ACalls.flA (c2 _) ?_) ?_|refine fin_eq ?_)
   ·rw[if_neg (λh=>by rcases h.2 with q|q;exact he q;exact q (ee.1 hs))] at hc
    clear hs he;repeat' (first|simp -implicitDefEqProofs -dsimp only[go_sem,seval, *]|(with_reducible refine Zt λoF hoF hnF hnF'=>?_;try simp only[aa,ne_eq,not_and] at hoF)|with_reducible refine kc1 (ACalls.flA (c1 _) ?_) ?_|with_reducible refine kc1 (ACalls.flA (c2 _) ?_) ?_|refine fin_eq ?_)
 ·have hb:(f != 0)=true:=by simpa using hf
  rw[if_neg (λh=>hf h.1)] at hc;clear hs hf;repeat' (first|simp -implicitDefEqProofs -dsimp only[go_sem,seval, *]|(with_reducible refine Zt λoF hoF hnF hnF'=>?_;try simp only[aa,ne_eq,not_and] at hoF)|with_reducible refine kc1 (ACalls.flA (c1 _) ?_) ?_|refine fin_eq ?_)
end Go.Proofs.YtbbihmmobfmadaaGreat.S
