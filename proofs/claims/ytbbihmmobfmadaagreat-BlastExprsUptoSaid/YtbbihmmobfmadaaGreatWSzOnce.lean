/- Plain laws of layer 9: designs that are sized are sized once; less of them is sized, too. -/
import Derived.Test.YtbbihmmobfmadaaGreatWSzMain
import Derived.Test.YtbbihmmobfmadaaGreatWBlzSizP
set_option linter.unusedSimpArgs false
set_option linter.unusedVariables false
set_option maxHeartbeats 8000000
set_option maxRecDepth 50000
namespace Go.Proofs.YtbbihmmobfmadaaGreat.S
open Abs Fil Fil.Sz
theorem A2(p:T->Bool)(l:List T)(hl:l.length<=1000000000000)(σ:aA){F:Nat}{caps:List AV}(hF:∀x∈l,ACalls Tryz.prog F (encT x::caps) σ (λr σ'=>r= .ret (.bool (p x))/\σ'=σ)):
  C_ 225 [.slice (l.map encT) .no, .fn F [] caps] σ (.int .i64 (de p l)) σ:=
 cA (sz:=6) (g:=true) mixed Tryz.func225 (by kernel_rfl) (by kernel_rfl) rfl (by kernel_rfl) (λ_=>rfl) (λ_=>rfl) p l hl hF
theorem jd(p:T->Bool)(l:List T)(hl:l.length<=1000000000000)(σ:aA){F:Nat}{caps:List AV}(hF:∀x∈l,ACalls Tryz.prog F (encT x::caps) σ (λr σ'=>r= .ret (.bool (p x))/\σ'=σ)):
  C_ 187 [.slice (l.map encT) .no, .fn F [] caps] σ (.bool (l.any p)) σ:=
 bQ mixed Tryz.func187 (by kernel_rfl) (by kernel_rfl) rfl (by kernel_rfl) p l (A2 p l hl σ hF)
theorem A3(p:Pr->Bool)(l:List Pr)(hl:l.length<=1000000000000)(σ:aA){F:Nat}{caps:List AV}(hF:∀x∈l,ACalls Tryz.prog F (encP x::caps) σ (λr σ'=>r= .ret (.bool (p x))/\σ'=σ)):
  C_ 226 [.slice (l.map encP) .no, .fn F [] caps] σ (.int .i64 (de p l)) σ:=
 cA (sz:=2) (g:=true) mixed Tryz.func226 (by kernel_rfl) (by kernel_rfl) rfl (by kernel_rfl) (λ_=>rfl) (λ_=>rfl) p l hl hF
theorem tn(p:Pr->Bool)(l:List Pr)(hl:l.length<=1000000000000)(σ:aA){F:Nat}{caps:List AV}(hF:∀x∈l,ACalls Tryz.prog F (encP x::caps) σ (λr σ'=>r= .ret (.bool (p x))/\σ'=σ)):
  C_ 189 [.slice (l.map encP) .no, .fn F [] caps] σ (.bool (l.any p)) σ:=
 bQ mixed Tryz.func189 (by kernel_rfl) (by kernel_rfl) rfl (by kernel_rfl) p l (A3 p l hl σ hF)
theorem A4(p:Ck->Bool)(l:List Ck)(hl:l.length<=1000000000000)(σ:aA){F:Nat}{caps:List AV}(hF:∀x∈l,ACalls Tryz.prog F (encC x::caps) σ (λr σ'=>r= .ret (.bool (p x))/\σ'=σ)):
  C_ 227 [.slice (l.map encC) .no, .fn F [] caps] σ (.int .i64 (de p l)) σ:=
 cA (sz:=9) (g:=true) mixed Tryz.func227 (by kernel_rfl) (by kernel_rfl) rfl (by kernel_rfl) (λ_=>rfl) (λ_=>rfl) p l hl hF
theorem to(p:Ck->Bool)(l:List Ck)(hl:l.length<=1000000000000)(σ:aA){F:Nat}{caps:List AV}(hF:∀x∈l,ACalls Tryz.prog F (encC x::caps) σ (λr σ'=>r= .ret (.bool (p x))/\σ'=σ)):
  C_ 190 [.slice (l.map encC) .no, .fn F [] caps] σ (.bool (l.any p)) σ:=
 bQ mixed Tryz.func190 (by kernel_rfl) (by kernel_rfl) rfl (by kernel_rfl) p l (A4 p l hl σ hF)
theorem ig{α:Type}(l:List α)(p:α->Bool):l.all p= !l.any λx=> !p x:=by
 rw[Bool.eq_iff_iff];simp[List.any_eq_true,List.all_eq_true]
theorem Ec(g:List Sg)(t:T):fX g t=(decide (t.op=4/\t.sig=0/\t.hi=0/\t.lo=0)&&(!(t.e.any λx=> !(decide (x.op=1)&&shp g x))&& !(t.l.any λs=> !bi g s))):=by
 rw[gZ,ig t.e,ig t.l,Bool.and_assoc]
theorem tp(g:List Sg)(hg:g.length<=1000000000000)(l:List T)(hn:(l.map nodesT).sum<=16777216)(hw:∀t∈l,kp t)
  (ih:∀a∈l,∀s∈a.l,∀τ,C_ 185 [.slice (g.map encS) .no,encT s] τ (.bool (bi g s)) τ)(σ:aA):
  C_ 224 [.slice (g.map encS) .no, .slice (l.map encT) .no] σ (.bool (d7 g l)) σ:=by
 have l1:=cq bG l
 have clo1:∀a∈l,∀(b:Nat) (τ:aA),τ b=some (.cells [.slice (g.map encS) .no])->∀x∈a.e,ACalls Tryz.prog 244 (encE x::[.ptr b 0]) τ (λr σ'=>r= .ret (.bool (!(decide (x.op=1)&&shp g x)))/\σ'=τ):=λa ha b τ hb x hx=>by
  have hc:=λτ=>lV g hg x τ (by have:=bu (f:=nodesT) ha;have:=bC hx;omega) (((dK a).1 (hw a ha)).2.1 x hx);refine gO [2] Tryz.func244 (by kernel_rfl) (by conv=>lhs;reduce;dsimp only[iA]) rfl ?_;by_cases ho:x.op=1
  ·have hob:(x.op != 1)=false:=by simp[ho]
   have hd:decide (x.op=1)=true:=by simp[ho]
   rw[hd,Bool.true_and];clear ho hd;repeat' (first|simp -implicitDefEqProofs -dsimp only[go_sem,seval, *]|with_reducible refine kc1 (hc _) ?_|refine fin_eq ?_)
  ·have hob:(x.op != 1)=true:=by simp[ho]
   have hd:decide (x.op=1)=false:=by simp[ho]
   rw[hd,Bool.false_and];clear ho hd;repeat' (first|simp -implicitDefEqProofs -dsimp only[go_sem,seval, *]|refine fin_eq ?_)
 have clo2:∀a∈l,∀(b:Nat) (τ:aA),τ b=some (.cells [.slice (g.map encS) .no])->∀x∈a.l,ACalls Tryz.prog 245 (encT x::[.ptr b 0]) τ (λr σ'=>r= .ret (.bool (!bi g x))/\σ'=τ):=λa ha b τ hb x hx=>by
  have hc:=λτ=>ih a ha x hx τ;refine gO [2] Tryz.func245 (by kernel_rfl) (by conv=>lhs;reduce;dsimp only[iA]) rfl ?_;repeat' (first|simp -implicitDefEqProofs -dsimp only[go_sem,seval, *]|with_reducible refine kc1 (hc _) ?_|refine fin_eq ?_)
 have con1:=fun(a:T) (ha:a∈l) (b:Nat) (τ:aA) (hb:τ b=some (.cells [.slice (g.map encS) .no]))=>jb (λx=> !(decide (x.op=1)&&shp g x)) a.e (by have:=bu (f:=nodesT) ha;have:=bS a;omega) τ (clo1 a ha b τ hb);have con2:=fun(a:T) (ha:a∈l) (b:Nat) (τ:aA) (hb:τ b=some (.cells [.slice (g.map encS) .no]))=>jd (λx=> !bi g x) a.l (by have:=bu (f:=nodesT) ha;have:=dr a;omega) τ (clo2 a ha b τ hb);clear clo1 clo2 ih hw;refine gO [] Tryz.func224 (by kernel_rfl) (by conv=>lhs;reduce;dsimp only[iA]) rfl ?_;repeat' (first|simp -implicitDefEqProofs -dsimp only[go_sem,seval, *]|simp(disch:=omega) only[ah,aj,ao,aw,ar,ag,au,aq]|(with_reducible refine Zt λoF hoF hnF hnF'=>?_;try simp only[aa,ne_eq,not_and] at hoF))
 obtain⟨o,eo⟩:∃x,x=oF:=⟨oF,rfl⟩;subst eo;have ho:σ o=none:=hoF;clear hoF hnF hnF'
 refine loop_rule (λi:Nat=>[(11,some (.int .i64 i)),(10,some (.int .i64 l.length)),(9,some (.slice (l.map encT) .no)),(2,some (.ptr o 0)),(1,some (.slice (l.map encT) .no))])
  (λ_=>aH σ o (.cells [.slice (g.map encS) .no])) (λi=>i<=l.length/\∀j,(h:j<l.length)->j<i->fX g l[j]=true/\(l[j].e.length=0↔j+1=l.length)) (λi=>l.length-i) 0 ?_ ?_
 ·clear con1 con2;(repeat' (first|simp -implicitDefEqProofs -dsimp only[go_sem,seval, *]|with_reducible refine And.intro ?_ ?_|omega))
 ·rintro i ⟨hi,hok⟩;by_cases hlt:i<l.length
  ·have hx:=bA l[i]
   have hbad:¬(fX g l[i]=true/\(l[i].e.length=0↔i+1=l.length))->d7 g l=false:=λh=>by
    cases hh:d7 g l with
    |false=>rfl
    |true=>
     unfold d7 at hh;rw[Bool.and_eq_true,decide_eq_true_eq,List.all_eq_true] at hh;exact(h ⟨hh.2 _ (List.getElem_mem hlt),hh.1.2 i hlt⟩).elim
   have hstep:(fX g l[i]=true/\(l[i].e.length=0↔i+1=l.length))->∀j,(h:j<l.length)->j<i+1->fX g l[j]=true/\(l[j].e.length=0↔j+1=l.length):=λhp j h1 h=>by
    rcases Nat.lt_or_ge j i with h'|h'
    ·exact hok j h1 h'
    ·obtain rfl:j=i:=by omega
     exact hp
   have c1:=con1 l[i] (List.getElem_mem hlt);have c2:=con2 l[i] (List.getElem_mem hlt);have ha:=Ec g l[i];clear con1 con2 hok;obtain⟨A,hA⟩:∃A,(l[i].e.any λx=> !(decide (x.op=1)&&shp g x))=A:=⟨_,rfl⟩;obtain⟨B,hB⟩:∃A,(l[i].l.any λs=> !bi g s)=A:=⟨_,rfl⟩;rw[hA] at c1 ha;rw[hB] at c2 ha;clear hA hB;obtain⟨p1,hp1⟩:∃p,((l[i].e.length:Int)==0)=p:=⟨_,rfl⟩;obtain⟨p2,hp2⟩:∃p,((i:Int)+1==l.length)=p:=⟨_,rfl⟩
   have hpos:(l[i].e.length=0↔i+1=l.length)↔p1=p2:=by
    rw[<-hp1,<-hp2,Bool.eq_iff_iff];simp;omega
   rw[hpos] at hbad hstep;clear hpos;have bft:((false:Bool)==true)=false:=rfl;have btf:((true:Bool)==false)=false:=rfl;by_cases hf:l[i].op=4/\l[i].sig=0/\l[i].hi=0/\l[i].lo=0
   ·rw[show decide (l[i].op=4/\l[i].sig=0/\l[i].hi=0/\l[i].lo=0)=true from decide_eq_true hf,Bool.true_and] at ha;obtain⟨f1,f2,f3,f4⟩:=hf;by_cases hpp:p1=p2
    ·subst hpp;have hpp:(p1==p1)=true:=by simp
     cases A
     ·cases B
      ·have hn:=hstep ⟨by rw[ha];rfl,rfl⟩;clear hbad hstep ha;repeat' (first|simp -implicitDefEqProofs -dsimp only[go_sem,seval, *]|simp(disch:=omega) only[ah,aj,ao,aw,ar,ag,au,aq]|with_reducible refine Zu ?_ ?_|(with_reducible refine Zt λoF hoF hnF hnF'=>?_;try simp only[aa,ne_eq,not_and] at hoF)|with_reducible refine kc1 (c1 _ _ ?_) ?_|with_reducible refine kc1 (c2 _ _ ?_) ?_|with_reducible refine lnx (i+1) ?_|with_reducible refine And.intro ?_ ?_|omega)
      ·rw[hbad (λh=>by rw[ha] at h;simp at h)];clear hbad hstep ha;repeat' (first|simp -implicitDefEqProofs -dsimp only[go_sem,seval, *]|simp(disch:=omega) only[ah,aj,ao,aw,ar,ag,au,aq]|with_reducible refine Zu ?_ ?_|(with_reducible refine Zt λoF hoF hnF hnF'=>?_;try simp only[aa,ne_eq,not_and] at hoF)|with_reducible refine kc1 (c1 _ _ ?_) ?_|with_reducible refine kc1 (c2 _ _ ?_) ?_|refine fin_eq ?_)
     ·rw[hbad (λh=>by rw[ha] at h;simp at h)];clear hbad hstep ha;repeat' (first|simp -implicitDefEqProofs -dsimp only[go_sem,seval, *]|simp(disch:=omega) only[ah,aj,ao,aw,ar,ag,au,aq]|with_reducible refine Zu ?_ ?_|(with_reducible refine Zt λoF hoF hnF hnF'=>?_;try simp only[aa,ne_eq,not_and] at hoF)|with_reducible refine kc1 (c1 _ _ ?_) ?_|refine fin_eq ?_)
    ·rw[hbad (λh=>hpp h.2)];have hpb:(p1==p2)=false:=by simpa using hpp
     clear hbad hstep hpp;repeat' (first|simp -implicitDefEqProofs -dsimp only[go_sem,seval, *]|simp(disch:=omega) only[ah,aj,ao,aw,ar,ag,au,aq]|with_reducible refine Zu ?_ ?_|(with_reducible refine Zt λoF hoF hnF hnF'=>?_;try simp only[aa,ne_eq,not_and] at hoF)|refine fin_eq ?_)
   ·rw[show decide (l[i].op=4/\l[i].sig=0/\l[i].hi=0/\l[i].lo=0)=false from decide_eq_false hf,Bool.false_and] at ha;rw[hbad (λh=>by rw[ha] at h;simp at h)];clear hbad hstep ha;repeat' (first|simp -implicitDefEqProofs -dsimp only[go_sem,seval, *]|simp(disch:=omega) only[ah,aj,ao,aw,ar,ag,au,aq]|(with_reducible (first|apply Za|apply Zb|apply Zc|apply Zd|apply Ze|apply Zf|apply Zg|apply Zh|apply Zi|apply Zj|apply Zk|apply Zl|apply Zm|apply Zn|apply Zo|apply Zp|apply Zq|apply Zr|apply Zs)<;>intro hq)|with_reducible refine Zu ?_ ?_|(with_reducible refine Zt λoF hoF hnF hnF'=>?_;try simp only[aa,ne_eq,not_and] at hoF)|with_reducible refine kc1 (c1 _ _ ?_) ?_|with_reducible refine kc1 (c2 _ _ ?_) ?_|omega)
    all_goals first|(exfalso;apply hf;clear c1 c2;omega)|skip
    all_goals
     refine fin_eq ?_;(repeat' simp -implicitDefEqProofs -dsimp only[go_sem,seval, *])
  ·have ei:i=l.length:=by omega
   subst ei
   have hv:d7 g l=decide (0<(l.length:Int)):=by
    by_cases h0:0<l.length
    ·rw[decide_eq_true (by omega)];unfold d7;rw[Bool.and_eq_true,decide_eq_true_eq,List.all_eq_true];refine⟨⟨h0,λj hj=>(hok j hj hj).2⟩,λx hx=>?_⟩;obtain⟨j,hj,rfl⟩:=List.getElem_of_mem hx;exact(hok j hj hj).1
    ·rw[decide_eq_false (by omega)];unfold d7;rw[Bool.and_eq_false_iff];exact .inl (decide_eq_false λh=>h0 h.1)
   clear con1 con2 hok;repeat' (first|simp -implicitDefEqProofs -dsimp only[go_sem,seval,gt_iff_lt, *]|refine fin_eq ?_)
theorem qj(g:List Sg)(hg:g.length<=1000000000000)(t:T)(hn:nodesT t<=16777216)(hw:kp t)
  (ih:∀s∈t.l,∀τ,C_ 185 [.slice (g.map encS) .no,encT s] τ (.bool (bi g s)) τ)
  (ih2:∀a∈t.l,∀s∈a.l,∀τ,C_ 185 [.slice (g.map encS) .no,encT s] τ (.bool (bi g s)) τ)(σ:aA):
  C_ 185 [.slice (g.map encS) .no,encT t] σ (.bool (bi g t)) σ:=by
 have h1:=bA t;have l1:=bS t;have l2:=dr t;have l3:=fz t;have w8:=(dK t).1 hw
 have clo1:∀(b:Nat) (τ:aA),τ b=some (.cells [.slice (g.map encS) .no])->∀x∈t.e,ACalls Tryz.prog 222 (encE x::[.ptr b 0]) τ (λr σ'=>r= .ret (.bool (!shp g x))/\σ'=τ):=λb τ hb x hx=>by
  have hc:=λτ=>lV g hg x τ (by have:=bC hx;omega) (w8.2.1 x hx);refine gO [2] Tryz.func222 (by kernel_rfl) (by conv=>lhs;reduce;dsimp only[iA]) rfl ?_;repeat' (first|simp -implicitDefEqProofs -dsimp only[go_sem,seval, *]|with_reducible refine kc1 (hc _) ?_|refine fin_eq ?_)
 have clo2:∀(b:Nat) (τ:aA),τ b=some (.cells [.slice (g.map encS) .no])->∀x∈t.l,ACalls Tryz.prog 223 (encT x::[.ptr b 0]) τ (λr σ'=>r= .ret (.bool (!bi g x))/\σ'=τ):=λb τ hb x hx=>by
  have hc:=λτ=>ih x hx τ;refine gO [2] Tryz.func223 (by kernel_rfl) (by conv=>lhs;reduce;dsimp only[iA]) rfl ?_;repeat' (first|simp -implicitDefEqProofs -dsimp only[go_sem,seval, *]|with_reducible refine kc1 (hc _) ?_|refine fin_eq ?_)
 have c1:=fun(b:Nat) (τ:aA) (hb:τ b=some (.cells [.slice (g.map encS) .no]))=>jb (λx=> !shp g x) t.e (by omega) τ (clo1 b τ hb);have c2:=fun(b:Nat) (τ:aA) (hb:τ b=some (.cells [.slice (g.map encS) .no]))=>jd (λx=> !bi g x) t.l (by omega) τ (clo2 b τ hb);have c3:=λτ=>tp g hg t.l (by omega) w8.2.2 ih2 τ;have c4:=λτ=>pZ g t.sig t.hi t.lo τ hg;have hs:=i9 g t;rw[ig t.e,ig t.l (bi g)] at hs;obtain⟨A,hA⟩:∃A,(t.e.any λx=> !shp g x)=A:=⟨_,rfl⟩;obtain⟨B,hB⟩:∃A,(t.l.any λs=> !bi g s)=A:=⟨_,rfl⟩;obtain⟨C,hC⟩:∃A,d7 g t.l=A:=⟨_,rfl⟩;obtain⟨D,hD⟩:∃A,place g t.sig t.hi t.lo=A:=⟨_,rfl⟩;rw[hA] at c1 hs;rw[hB] at c2 hs;rw[hC] at c3 hs;rw[hD] at c4 hs;clear clo1 clo2 ih ih2 w8 hw hA hB hC hD;refine gO [3] Tryz.func185 (by kernel_rfl) (by conv=>lhs;reduce;dsimp only[iA]) rfl ?_;cases A
 case true=>
  have hv:bi g t=false:=by rw[hs];simp
  clear hs c2 c3 c4;repeat' (first|simp -implicitDefEqProofs -dsimp only[go_sem,seval, *]|(with_reducible refine Zt λoF hoF hnF hnF'=>?_;try simp only[aa,ne_eq,not_and] at hoF)|with_reducible refine kc1 (c1 _ _ ?_) ?_|refine fin_eq ?_)
 by_cases o1:t.op=1
 ·rw[if_pos o1] at hs;by_cases hb:t.e.length=1/\t.l.length=0
  ·rw[decide_eq_true hb] at hs;simp only[Bool.not_false,Bool.true_and] at hs;obtain⟨b1,b2⟩:=hb;clear c2 c3;repeat' (first|simp -implicitDefEqProofs -dsimp only[go_sem,seval, *]|(with_reducible refine Zt λoF hoF hnF hnF'=>?_;try simp only[aa,ne_eq,not_and] at hoF)|with_reducible refine kc1 (c1 _ _ ?_) ?_|with_reducible refine kc1 (c4 _) ?_|refine fin_eq ?_)
  ·rw[decide_eq_false hb] at hs;simp only[Bool.not_false,Bool.true_and,Bool.false_and] at hs;clear c2 c3;repeat' (first|simp -implicitDefEqProofs -dsimp only[go_sem,seval, *]|(with_reducible (first|apply Za|apply Zb|apply Zc|apply Zd|apply Ze|apply Zf|apply Zg|apply Zh|apply Zi|apply Zj|apply Zk|apply Zl|apply Zm|apply Zn|apply Zo|apply Zp|apply Zq|apply Zr|apply Zs)<;>intro hq)|(with_reducible refine Zt λoF hoF hnF hnF'=>?_;try simp only[aa,ne_eq,not_and] at hoF)|with_reducible refine kc1 (c1 _ _ ?_) ?_|with_reducible refine kc1 (c4 _) ?_|omega)
   all_goals first|(exfalso;apply hb;clear c1 c4;omega)|skip
   all_goals
    refine fin_eq ?_;(repeat' simp -implicitDefEqProofs -dsimp only[go_sem,seval, *])
 rw[if_neg o1] at hs;have ob1:(t.op != 1)=true:=by simp[o1]
 by_cases hz:t.sig=0/\t.hi=0/\t.lo=0
 case neg=>
  have hv:bi g t=false:=by rw[hs,decide_eq_false hz];simp
  clear hs c2 c3 c4;repeat' (first|simp -implicitDefEqProofs -dsimp only[go_sem,seval, *]|(with_reducible (first|apply Za|apply Zb|apply Zc|apply Zd|apply Ze|apply Zf|apply Zg|apply Zh|apply Zi|apply Zj|apply Zk|apply Zl|apply Zm|apply Zn|apply Zo|apply Zp|apply Zq|apply Zr|apply Zs)<;>intro hq)|with_reducible refine Zu ?_ ?_|(with_reducible refine Zt λoF hoF hnF hnF'=>?_;try simp only[aa,ne_eq,not_and] at hoF)|with_reducible refine kc1 (c1 _ _ ?_) ?_|omega)
  all_goals first|(exfalso;apply hz;clear c1;omega)|skip
  all_goals
   refine fin_eq ?_;(repeat' simp -implicitDefEqProofs -dsimp only[go_sem,seval, *])
 rw[decide_eq_true hz] at hs;simp only[Bool.not_false,Bool.true_and] at hs;obtain⟨z1,z2,z3⟩:=hz;by_cases o2:t.op=2
 ·rw[if_pos o2] at hs;clear c3 c4;by_cases hb:t.e.length=1/\t.l.length=2
  ·obtain⟨b1,b2⟩:=hb;have b3:(0:Int)<t.l.length:=by omega
   have b4:(1:Int)<t.l.length:=by omega
   have b5:0<t.l.length:=by omega
   have b6:1<t.l.length:=by omega
   have hall:(t.l.all λx=>decide (x.op=5))=(decide (t.l[0].op=5)&&decide (t.l[1].op=5)):=by
    obtain⟨x,y,hxy⟩:=len2 b2;simp[hxy]
   rw[decide_eq_true ⟨b1,b2⟩,Bool.true_and,hall] at hs;clear hall;obtain⟨u,hu⟩:∃u,(t.l[0].op != 5)=u:=⟨_,rfl⟩;obtain⟨v,hv⟩:∃u,(t.l[1].op != 5)=u:=⟨_,rfl⟩;have hu2:decide (t.l[0].op=5)= !u:=by rw[<-hu,bne,Bool.not_not];rfl
   have hv2:decide (t.l[1].op=5)= !v:=by rw[<-hv,bne,Bool.not_not];rfl
   rw[hu2,hv2] at hs;clear hu2 hv2;cases u<;>cases v<;>simp only[Bool.not_false,Bool.not_true,Bool.true_and,Bool.false_and,Bool.and_false] at hs
   all_goals
    repeat' (first|simp -implicitDefEqProofs -dsimp only[go_sem,seval, *]|with_reducible refine Zu ?_ ?_|(with_reducible refine Zt λoF hoF hnF hnF'=>?_;try simp only[aa,ne_eq,not_and] at hoF)|with_reducible refine kc1 (c1 _ _ ?_) ?_|with_reducible refine kc1 (c2 _ _ ?_) ?_|refine fin_eq ?_)
  ·rw[decide_eq_false hb] at hs;simp only[Bool.false_and] at hs;repeat' (first|simp -implicitDefEqProofs -dsimp only[go_sem,seval, *]|(with_reducible (first|apply Za|apply Zb|apply Zc|apply Zd|apply Ze|apply Zf|apply Zg|apply Zh|apply Zi|apply Zj|apply Zk|apply Zl|apply Zm|apply Zn|apply Zo|apply Zp|apply Zq|apply Zr|apply Zs)<;>intro hq)|with_reducible refine Zu ?_ ?_|(with_reducible refine Zt λoF hoF hnF hnF'=>?_;try simp only[aa,ne_eq,not_and] at hoF)|with_reducible refine kc1 (c1 _ _ ?_) ?_|with_reducible refine kc1 (c2 _ _ ?_) ?_|omega)
   all_goals first|(exfalso;apply hb;clear c1 c2;omega)|skip
   all_goals
    refine fin_eq ?_;(repeat' simp -implicitDefEqProofs -dsimp only[go_sem,seval, *])
 rw[if_neg o2] at hs;by_cases o3:t.op=3
 ·rw[if_pos o3] at hs;by_cases hb:t.e.length=1
  ·rw[decide_eq_true hb,Bool.true_and] at hs;clear c2 c4;repeat' (first|simp -implicitDefEqProofs -dsimp only[go_sem,seval, *]|(with_reducible refine Zt λoF hoF hnF hnF'=>?_;try simp only[aa,ne_eq,not_and] at hoF)|with_reducible refine kc1 (c1 _ _ ?_) ?_|with_reducible refine kc1 (c3 _) ?_|refine fin_eq ?_)
  ·rw[decide_eq_false hb,Bool.false_and] at hs;have hb2:((t.e.length:Int)==1)=false:=by simp;omega
   clear c2 c4 hb;repeat' (first|simp -implicitDefEqProofs -dsimp only[go_sem,seval, *]|(with_reducible refine Zt λoF hoF hnF hnF'=>?_;try simp only[aa,ne_eq,not_and] at hoF)|with_reducible refine kc1 (c1 _ _ ?_) ?_|refine fin_eq ?_)
 rw[if_neg o3] at hs;by_cases o5:t.op=5
 ·rw[if_pos o5] at hs;clear c3 c4;by_cases hb:t.e.length=0
  ·rw[decide_eq_true hb,Bool.true_and] at hs;repeat' (first|simp -implicitDefEqProofs -dsimp only[go_sem,seval,gt_iff_lt, *]|(with_reducible refine Zt λoF hoF hnF hnF'=>?_;try simp only[aa,ne_eq,not_and] at hoF)|with_reducible refine kc1 (c1 _ _ ?_) ?_|with_reducible refine kc1 (c2 _ _ ?_) ?_)
   all_goals first|(exfalso;clear c1 c2;omega)|skip
   all_goals
    refine fin_eq ?_;(repeat' simp -implicitDefEqProofs -dsimp only[go_sem,seval, *])
  ·rw[decide_eq_false hb,Bool.false_and] at hs;repeat' (first|simp -implicitDefEqProofs -dsimp only[go_sem,seval,gt_iff_lt, *]|(with_reducible (first|apply Za|apply Zb|apply Zc|apply Zd|apply Ze|apply Zf|apply Zg|apply Zh|apply Zi|apply Zj|apply Zk|apply Zl|apply Zm|apply Zn|apply Zo|apply Zp|apply Zq|apply Zr|apply Zs)<;>intro hq)|(with_reducible refine Zt λoF hoF hnF hnF'=>?_;try simp only[aa,ne_eq,not_and] at hoF)|with_reducible refine kc1 (c1 _ _ ?_) ?_|with_reducible refine kc1 (c2 _ _ ?_) ?_|omega)
   all_goals first|(exfalso;clear c1 c2;omega)|skip
   all_goals
    refine fin_eq ?_;(repeat' simp -implicitDefEqProofs -dsimp only[go_sem,seval, *])
 rw[if_neg o5] at hs;have ob2:(t.op==2)=false:=by simp[o2]
 have ob3:(t.op==3)=false:=by simp[o3]
 have ob5:(t.op==5)=false:=by simp[o5]
 have ob6:(t.op==1)=false:=by simp[o1]
 clear o1 o2 o3 o5 c2 c3 c4;repeat' (first|simp -implicitDefEqProofs -dsimp only[go_sem,seval, *]|(with_reducible refine Zt λoF hoF hnF hnF'=>?_;try simp only[aa,ne_eq,not_and] at hoF)|with_reducible refine kc1 (c1 _ _ ?_) ?_|refine fin_eq ?_)
theorem A5(g:List Sg)(hg:g.length<=1000000000000)(t:T)(σ:aA)(hn:nodesT t<=16777216)(hw:kp t):
  C_ 185 [.slice (g.map encS) .no,encT t] σ (.bool (bi g t)) σ:=by
 have key:nodesT t<=16777216->kp t->(∀τ,C_ 185 [.slice (g.map encS) .no,encT t] τ (.bool (bi g t)) τ)/\
   ∀s∈t.l,∀τ,C_ 185 [.slice (g.map encS) .no,encT s] τ (.bool (bi g s)) τ:=by
  refine T.ind (P:=λt=>nodesT t<=16777216->kp t->(∀τ,C_ 185 [.slice (g.map encS) .no,encT t] τ (.bool (bi g t)) τ)/\
   ∀s∈t.l,∀τ,C_ 185 [.slice (g.map encS) .no,encT s] τ (.bool (bi g s)) τ) (λt ih hn hw=>?_) t
  have h:=fun(x:T) (hx:x∈t.l)=>ih x hx (by have:=ci hx;omega) (((dK t).1 hw).2.2 x hx);exact⟨λτ=>qj g hg t hn hw (λs hs τ=>(h s hs).1 τ) (λa ha s hs τ=>(h a ha).2 s hs τ) τ,λs hs τ=>(h s hs).1 τ⟩
 exact(key hn hw).1 σ
theorem A6(d:Flat)(σ:aA)(hd:Sm d)(hw:WfD d):C_ 124 [encD d] σ (.bool (bH d)) σ:=by
 have l1:=hd.1;have l2:=hd.2.1;have l3:=hd.2.2.1;have c1:=λτ=>p8 d.sigs τ (by omega)
 have clo1:∀(b:Nat) (τ:aA),τ b=some (.cells (dL d))->∀p∈d.procs,∀x∈p.l,ACalls Tryz.prog 184 (encT x::[.ptr b 0]) τ (λr σ'=>r= .ret (.bool (!bi d.sigs x))/\σ'=τ):=λb τ hb p hp x hx=>by
  have hc:=λτ=>A5 d.sigs (by omega) x τ (by have h:=hO hd hp;unfold aZ at h;have:=bu (f:=nodesT) hx;omega) (hw.procs p hp x hx);refine gO [2] Tryz.func184 (by kernel_rfl) (by conv=>lhs;reduce;dsimp only[iA]) rfl ?_;repeat' (first|simp -implicitDefEqProofs -dsimp only[go_sem,seval, *]|with_reducible refine kc1 (hc _) ?_|refine fin_eq ?_)
 have clo2:∀(b c:Nat) (τ:aA),τ b=some (.cells (dL d))->τ c=some (.cells [.fn 184 [] [.ptr b 0]])->∀p∈d.procs,ACalls Tryz.prog 186 (encP p::[.ptr c 0]) τ (λr σ'=>r= .ret (.bool (p.l.any λx=> !bi d.sigs x))/\σ'=τ):=λb c τ hb hcc p hp=>by
  have hc:=λτ (hb:τ b=some (.cells (dL d)))=>jd (λx=> !bi d.sigs x) p.l (by have h:=hO hd hp;unfold aZ at h;have:=cq bG p.l;omega) τ (clo1 b τ hb p hp);refine gO [2] Tryz.func186 (by kernel_rfl) (by conv=>lhs;reduce;dsimp only[iA]) rfl ?_;repeat' (first|simp -implicitDefEqProofs -dsimp only[go_sem,seval, *]|with_reducible refine kc1 (hc _ ?_) ?_|refine fin_eq ?_)
 have clo3:∀(b:Nat) (τ:aA),τ b=some (.cells (dL d))->∀x∈d.chks,ACalls Tryz.prog 188 (encC x::[.ptr b 0]) τ (λr σ'=>r= .ret (.bool (!shp d.sigs x.e))/\σ'=τ):=λb τ hb x hx=>by
  have hc:=λτ=>lV d.sigs (by omega) x.e τ (jL hd hx) (hw.chks x hx);refine gO [2] Tryz.func188 (by kernel_rfl) (by conv=>lhs;reduce;dsimp only[iA]) rfl ?_;repeat' (first|simp -implicitDefEqProofs -dsimp only[go_sem,seval, *]|with_reducible refine kc1 (hc _) ?_|refine fin_eq ?_)
 have c2:=fun(b c:Nat) (τ:aA) (hb:τ b=some (.cells (dL d))) (hc:τ c=some (.cells [.fn 184 [] [.ptr b 0]]))=>tn (λp=>p.l.any λx=> !bi d.sigs x) d.procs (by omega) τ (clo2 b c τ hb hc);have c3:=fun(b:Nat) (τ:aA) (hb:τ b=some (.cells (dL d)))=>to (λx=> !shp d.sigs x.e) d.chks (by omega) τ (clo3 b τ hb)
 have hs:bH d=(cr d.sigs&& !(d.procs.any λp=>p.l.any λx=> !bi d.sigs x)&& !(d.chks.any λx=> !shp d.sigs x.e)):=by
  unfold bH;rw[ig d.procs,ig d.chks];congr 3
  congr 1
  funext p
  rw[ig p.l,Bool.not_not]
 obtain⟨A,hA⟩:∃A,cr d.sigs=A:=⟨_,rfl⟩;obtain⟨B,hB⟩:∃A,(d.procs.any λp=>p.l.any λx=> !bi d.sigs x)=A:=⟨_,rfl⟩;obtain⟨C,hC⟩:∃A,(d.chks.any λx=> !shp d.sigs x.e)=A:=⟨_,rfl⟩;rw[hA] at c1 hs;rw[hB] at c2 hs;rw[hC] at c3 hs;clear clo1 clo2 clo3 hA hB hC hw hd;refine gO [] Tryz.func124 (by kernel_rfl) (by conv=>lhs;reduce;dsimp only[iA]) rfl ?_;cases A<;>cases B<;>simp only[Bool.not_false,Bool.not_true,Bool.true_and,Bool.false_and,Bool.and_false] at hs
 all_goals
  repeat' (first|simp -implicitDefEqProofs -dsimp only[go_sem,seval, *]|(with_reducible refine Zt λoF hoF hnF hnF'=>?_;try simp only[aa,ne_eq,not_and] at hoF))
  rename_i o1 ho1 nx1 nx2
  obtain⟨o3,e3⟩:∃x,x=oF:=⟨oF,rfl⟩;subst e3;obtain⟨q1,q2⟩:=hoF;have q3:¬o1=o3:=λe=>q1 e.symm;clear nx1 nx2 hnF hnF';repeat' (first|simp -implicitDefEqProofs -dsimp only[go_sem,seval, *]|with_reducible refine kc1 (c1 _) ?_|with_reducible refine kc1 (c2 o1 o3 _ ?_ ?_) ?_|with_reducible refine kc1 (c3 o1 _ ?_) ?_|refine fin_eq ?_)
end Go.Proofs.YtbbihmmobfmadaaGreat.S
namespace Go.Proofs.YtbbihmmobfmadaaGreat.S
open Abs Fil Fil.Sz
theorem gS(g:List Sg)(l:List T)(hl:l.length<=1000000000000)(ih:∀x∈l,∀τ,C_ 236 [.slice (g.map encS) .no,encT x] τ (.bool (bi g x)) τ)(σ:aA):
  C_ 202 [.slice (g.map encS) .no, .slice (l.map encT) .no] σ (.bool (l.all (bi g))) σ:=by
 refine gO [] Tryz.func202 (by kernel_rfl) (by conv=>lhs;reduce;dsimp only[iA]) rfl ?_;repeat' simp -implicitDefEqProofs -dsimp only[go_sem,seval, *]
 refine loop_rule (λi:Nat=>[(5,some (.int .i64 i)),(1,some (.slice (l.map encT) .no)),(0,some (.slice (g.map encS) .no))]) (λ_=>σ) (λi=>i<=l.length/\∀j,(h:j<l.length)->j<i->bi g l[j]=true) (λi=>l.length-i) 0 ?_ ?_
 ·clear ih;(repeat' (first|simp -implicitDefEqProofs -dsimp only[go_sem,seval, *]|with_reducible refine And.intro ?_ ?_|omega))
 ·rintro i ⟨hi,hok⟩;by_cases hlt:i<l.length
  ·have hx:=bA l[i];have hc:=λτ=>ih l[i] (List.getElem_mem hlt) τ;generalize hb:bi g l[i]=b at hc;cases b with
   |false=>
    have hv:l.all (bi g)=false:=by rw[List.all_eq_false];exact⟨_,List.getElem_mem hlt,by rw[hb];simp⟩
    clear ih hok hb hx;repeat' (first|simp -implicitDefEqProofs -dsimp only[go_sem,seval, *]|with_reducible refine Zu ?_ ?_|refine kc1 (hc _) ?_|refine fin_eq ?_)
   |true=>
    have hn:∀j,(h:j<l.length)->j<i+1->bi g l[j]=true:=λj h h1=>by
     rcases Nat.lt_or_ge j i with q|q
     ·exact hok j h q
     ·obtain rfl:j=i:=by omega
      exact hb
    clear ih hok hb hx;repeat' (first|simp -implicitDefEqProofs -dsimp only[go_sem,seval, *]|simp(disch:=omega) only[ah,aj,ao,aw,ar,ag,au,aq]|with_reducible refine Zu ?_ ?_|refine kc1 (hc _) ?_|with_reducible refine lnx (i+1) ?_|with_reducible refine And.intro ?_ ?_|omega)
  ·have hv:l.all (bi g)=true:=by
    rw[List.all_eq_true];intro x hx;obtain⟨j,hj,rfl⟩:=List.getElem_of_mem hx;exact hok j hj (by omega)
   clear ih hok;repeat' (first|simp -implicitDefEqProofs -dsimp only[go_sem,seval, *]|refine fin_eq ?_)
theorem Ed(g:List Sg)(t:T):fX g t=(decide (t.op=4/\t.sig=0/\t.hi=0/\t.lo=0)&&(t.e.all (shp g)&&(t.l.all (bi g)&&t.e.all λx=>decide (x.op=1)))):=by
 rw[gZ,Bool.eq_iff_iff];simp only[Bool.and_eq_true,List.all_eq_true,decide_eq_true_eq];constructor
 ·rintro⟨⟨h1,h2⟩,h3⟩;exact⟨h1,λx hx=>(h2 x hx).2,h3,λx hx=>(h2 x hx).1⟩
 ·rintro⟨h1,h2,h3,h4⟩;exact⟨⟨h1,λx hx=>⟨h4 x hx,h2 x hx⟩⟩,h3⟩
theorem tq(g:List Sg)(hg:g.length<=1000000000000)(l:List T)(hn:(l.map nodesT).sum<=16777216)(hw:∀t∈l,kp t)
  (ih:∀a∈l,∀τ,C_ 202 [.slice (g.map encS) .no, .slice (a.l.map encT) .no] τ (.bool (a.l.all (bi g))) τ)(σ:aA):
  C_ 247 [.slice (g.map encS) .no, .slice (l.map encT) .no] σ (.bool (d7 g l)) σ:=by
 have l1:=cq bG l;have con1:=fun(a:T) (ha:a∈l) (τ:aA)=>rW g hg a.e (by have:=bu (f:=nodesT) ha;have:=bR a;omega) (((dK a).1 (hw a ha)).2.1) τ;clear hw;refine gO [] Tryz.func247 (by kernel_rfl) (by conv=>lhs;reduce;dsimp only[iA]) rfl ?_;repeat' (first|simp -implicitDefEqProofs -dsimp only[go_sem,seval, *]|simp(disch:=omega) only[ah,aj,ao,aw,ar,ag,au,aq])
 refine loop_rule (λi:Nat=>[(5,some (.int .i64 i)),(1,some (.slice (l.map encT) .no)),(0,some (.slice (g.map encS) .no))])
  (λ_=>σ) (λi=>i<=l.length/\∀j,(h:j<l.length)->j<i->fX g l[j]=true/\(l[j].e.length=0↔j+1=l.length)) (λi=>l.length-i) 0 ?_ ?_
 ·clear con1 ih;(repeat' (first|simp -implicitDefEqProofs -dsimp only[go_sem,seval, *]|with_reducible refine And.intro ?_ ?_|omega))
 ·rintro i ⟨hi,hok⟩;by_cases hlt:i<l.length
  ·have hx:=bA l[i]
   have hbad:¬(fX g l[i]=true/\(l[i].e.length=0↔i+1=l.length))->d7 g l=false:=λh=>by
    cases hh:d7 g l with
    |false=>rfl
    |true=>
     unfold d7 at hh;rw[Bool.and_eq_true,decide_eq_true_eq,List.all_eq_true] at hh;exact(h ⟨hh.2 _ (List.getElem_mem hlt),hh.1.2 i hlt⟩).elim
   have hstep:(fX g l[i]=true/\(l[i].e.length=0↔i+1=l.length))->∀j,(h:j<l.length)->j<i+1->fX g l[j]=true/\(l[j].e.length=0↔j+1=l.length):=λhp j h1 h=>by
    rcases Nat.lt_or_ge j i with h'|h'
    ·exact hok j h1 h'
    ·obtain rfl:j=i:=by omega
     exact hp
   have le1:=bS l[i];have le2:=bu (f:=nodesT) (List.getElem_mem hlt);have c1:=con1 l[i] (List.getElem_mem hlt);have c2:=ih l[i] (List.getElem_mem hlt);have ha:=Ed g l[i];clear con1 ih hok;obtain⟨A,hA⟩:∃A,l[i].e.all (shp g)=A:=⟨_,rfl⟩;obtain⟨B,hB⟩:∃A,l[i].l.all (bi g)=A:=⟨_,rfl⟩;rw[hA] at c1 ha;rw[hB] at c2 ha;clear hA hB;obtain⟨p1,hp1⟩:∃p,((l[i].e.length:Int)==0)=p:=⟨_,rfl⟩;obtain⟨p2,hp2⟩:∃p,((i:Int)==l.length-1)=p:=⟨_,rfl⟩
   have hpos:(l[i].e.length=0↔i+1=l.length)↔p1=p2:=by
    rw[<-hp1,<-hp2,Bool.eq_iff_iff];simp;omega
   rw[hpos] at hbad hstep;clear hpos;have bft:((false:Bool)==true)=false:=rfl;have btf:((true:Bool)==false)=false:=rfl;by_cases hf:l[i].op=4/\l[i].sig=0/\l[i].hi=0/\l[i].lo=0
   ·rw[show decide (l[i].op=4/\l[i].sig=0/\l[i].hi=0/\l[i].lo=0)=true from decide_eq_true hf,Bool.true_and] at ha;obtain⟨f1,f2,f3,f4⟩:=hf;by_cases hpp:p1=p2
    ·subst hpp;have hpp:(p1 != p1)=false:=by simp
     cases A
     ·rw[hbad (λh=>by rw[ha] at h;simp at h)];clear hbad hstep ha;repeat' (first|simp -implicitDefEqProofs -dsimp only[go_sem,seval, *]|simp(disch:=omega) only[ah,aj,ao,aw,ar,ag,au,aq]|with_reducible refine Zu ?_ ?_|(with_reducible refine Zt λoF hoF hnF hnF'=>?_;try simp only[aa,ne_eq,not_and] at hoF)|refine kc1 (c1 _) ?_|refine fin_eq ?_)
     cases B
     ·rw[hbad (λh=>by rw[ha] at h;simp at h)];clear hbad hstep ha;repeat' (first|simp -implicitDefEqProofs -dsimp only[go_sem,seval, *]|simp(disch:=omega) only[ah,aj,ao,aw,ar,ag,au,aq]|with_reducible refine Zu ?_ ?_|(with_reducible refine Zt λoF hoF hnF hnF'=>?_;try simp only[aa,ne_eq,not_and] at hoF)|refine kc1 (c1 _) ?_|refine kc1 (c2 _) ?_|refine fin_eq ?_)
     simp only[Bool.true_and] at ha
     have hyes:(∀j,(h:j<l[i].e.length)->l[i].e[j].op=1)->∀j,(h:j<l.length)->j<i+1->fX g l[j]=true/\(l[j].e.length=0↔j+1=l.length):=λh=>hstep ⟨by
      rw[ha,List.all_eq_true];intro x hx;obtain⟨j,hj,rfl⟩:=List.getElem_of_mem hx;exact decide_eq_true (h j hj),rfl⟩
     have hno:∀j,(h:j<l[i].e.length)->¬l[i].e[j].op=1->d7 g l=false:=λj h hj=>hbad λq=>by
      have q1:=q.1;rw[ha,List.all_eq_true] at q1;have:=q1 _ (List.getElem_mem h)
      rw[decide_eq_true_eq] at this;exact hj this
     clear hbad hstep ha;repeat' (first|simp -implicitDefEqProofs -dsimp only[go_sem,seval, *]|simp(disch:=omega) only[ah,aj,ao,aw,ar,ag,au,aq]|with_reducible refine Zu ?_ ?_|(with_reducible refine Zt λoF hoF hnF hnF'=>?_;try simp only[aa,ne_eq,not_and] at hoF)|refine kc1 (c1 _) ?_|refine kc1 (c2 _) ?_)
     obtain⟨o,eo⟩:∃x,x=oF:=⟨oF,rfl⟩;subst eo;have ho:σ o=none:=hoF;clear hoF hnF hnF' c1 c2 hp1 hp2 hpp
     refine loop_rule (λk:Nat=>[(7,some (.int .i64 k)),(6,some (.ptr o 0)),(5,some (.int .i64 i)),(1,some (.slice (l.map encT) .no)),(0,some (.slice (g.map encS) .no))])
      (λ_=>aH σ o (.cells [.int .i64 4, .int .i64 0, .int .i64 0, .int .i64 0, .slice (l[i].e.map encE) .no, .slice (l[i].l.map encT) .no]))
      (λk=>k<=l[i].e.length/\∀j,(h:j<l[i].e.length)->j<k->l[i].e[j].op=1) (λk=>l[i].e.length-k) 0 ?_ ?_
     ·clear hyes hno;(repeat' (first|simp -implicitDefEqProofs -dsimp only[go_sem,seval, *]|with_reducible refine And.intro ?_ ?_|omega))
     ·rintro k ⟨hk,hokk⟩;by_cases hkt:k<l[i].e.length
      ·have hno1:=hno k hkt;by_cases hop:l[i].e[k].op=1
       ·have hn1:∀j,(h:j<l[i].e.length)->j<k+1->l[i].e[j].op=1:=λj h h1=>by
         rcases Nat.lt_or_ge j k with q|q
         ·exact hokk j h q
         ·obtain rfl:j=k:=by omega
          exact hop
        have hob:(l[i].e[k].op != 1)=false:=by simp[hop]
        clear hno1 hno hyes hokk hop;repeat' (first|simp -implicitDefEqProofs -dsimp only[go_sem,seval, *]|simp(disch:=omega) only[ah,aj,ao,aw,ar,ag,au,aq]|with_reducible refine Zu ?_ ?_|with_reducible refine lnx (k+1) ?_|with_reducible refine And.intro ?_ ?_|omega)
       ·have hno1:=hno1 hop;have hob:(l[i].e[k].op != 1)=true:=by simp[hop]
        clear hno hyes hokk hop;repeat' (first|simp -implicitDefEqProofs -dsimp only[go_sem,seval, *]|with_reducible refine Zu ?_ ?_|refine fin_eq ?_)
      ·have hn1:=hyes λj h=>hokk j h (by omega);clear hno hyes hokk;repeat' (first|simp -implicitDefEqProofs -dsimp only[go_sem,seval, *]|simp(disch:=omega) only[ah,aj,ao,aw,ar,ag,au,aq]|with_reducible refine lnx (i+1) ?_|with_reducible refine And.intro ?_ ?_|omega)
    ·rw[hbad (λh=>hpp h.2)];clear hbad hstep;cases p1<;>cases p2
     ·exact(hpp rfl).elim
     ·clear hpp;repeat' (first|simp -implicitDefEqProofs -dsimp only[go_sem,seval, *]|simp(disch:=omega) only[ah,aj,ao,aw,ar,ag,au,aq]|with_reducible refine Zu ?_ ?_|(with_reducible refine Zt λoF hoF hnF hnF'=>?_;try simp only[aa,ne_eq,not_and] at hoF)|refine fin_eq ?_)
     ·clear hpp;repeat' (first|simp -implicitDefEqProofs -dsimp only[go_sem,seval, *]|simp(disch:=omega) only[ah,aj,ao,aw,ar,ag,au,aq]|with_reducible refine Zu ?_ ?_|(with_reducible refine Zt λoF hoF hnF hnF'=>?_;try simp only[aa,ne_eq,not_and] at hoF)|refine fin_eq ?_)
     ·exact(hpp rfl).elim
   ·rw[show decide (l[i].op=4/\l[i].sig=0/\l[i].hi=0/\l[i].lo=0)=false from decide_eq_false hf,Bool.false_and] at ha;rw[hbad (λh=>by rw[ha] at h;simp at h)];clear hbad hstep ha;repeat' (first|simp -implicitDefEqProofs -dsimp only[go_sem,seval, *]|simp(disch:=omega) only[ah,aj,ao,aw,ar,ag,au,aq]|(with_reducible (first|apply Za|apply Zb|apply Zc|apply Zd|apply Ze|apply Zf|apply Zg|apply Zh|apply Zi|apply Zj|apply Zk|apply Zl|apply Zm|apply Zn|apply Zo|apply Zp|apply Zq|apply Zr|apply Zs)<;>intro hq)|with_reducible refine Zu ?_ ?_|(with_reducible refine Zt λoF hoF hnF hnF'=>?_;try simp only[aa,ne_eq,not_and] at hoF)|refine kc1 (c1 _) ?_|refine kc1 (c2 _) ?_|omega)
    all_goals first|(exfalso;apply hf;clear c1 c2;omega)|skip
    all_goals
     refine fin_eq ?_;(repeat' simp -implicitDefEqProofs -dsimp only[go_sem,seval, *])
  ·have ei:i=l.length:=by omega
   subst ei
   have hv:d7 g l=decide (1<=(l.length:Int)):=by
    by_cases h0:0<l.length
    ·rw[decide_eq_true (by omega)];unfold d7;rw[Bool.and_eq_true,decide_eq_true_eq,List.all_eq_true];refine⟨⟨h0,λj hj=>(hok j hj hj).2⟩,λx hx=>?_⟩;obtain⟨j,hj,rfl⟩:=List.getElem_of_mem hx;exact(hok j hj hj).1
    ·rw[decide_eq_false (by omega)];unfold d7;rw[Bool.and_eq_false_iff];exact .inl (decide_eq_false λh=>h0 h.1)
   clear con1 ih hok;repeat' (first|simp -implicitDefEqProofs -dsimp only[go_sem,seval,ge_iff_le, *]|refine fin_eq ?_)
theorem lX(g:List Sg)(hg:g.length<=1000000000000)(t:T)(hn:nodesT t<=16777216)(hw:kp t)
  (ih:∀τ,C_ 202 [.slice (g.map encS) .no, .slice (t.l.map encT) .no] τ (.bool (t.l.all (bi g))) τ)
  (ih2:∀a∈t.l,∀τ,C_ 202 [.slice (g.map encS) .no, .slice (a.l.map encT) .no] τ (.bool (a.l.all (bi g))) τ)(σ:aA):
  C_ 236 [.slice (g.map encS) .no,encT t] σ (.bool (bi g t)) σ:=by
 have h1:=bA t;have l1:=bS t;have l2:=dr t;have l3:=fz t;have w8:=(dK t).1 hw;have c1:=λτ=>rW g hg t.e (by have:=bR t;omega) w8.2.1 τ;have c2:=ih;have c3:=λτ=>tq g hg t.l (by omega) w8.2.2 ih2 τ;have c4:=λτ=>uV g t.sig t.hi t.lo τ hg;have hs:=i9 g t;obtain⟨A,hA⟩:∃A,t.e.all (shp g)=A:=⟨_,rfl⟩;obtain⟨B,hB⟩:∃A,t.l.all (bi g)=A:=⟨_,rfl⟩;obtain⟨C,hC⟩:∃A,d7 g t.l=A:=⟨_,rfl⟩;obtain⟨D,hD⟩:∃A,place g t.sig t.hi t.lo=A:=⟨_,rfl⟩;rw[hA] at c1 hs;rw[hB] at c2 hs;rw[hC] at c3 hs;rw[hD] at c4 hs;clear ih ih2 w8 hw hA hB hC hD;refine gO [3] Tryz.func236 (by kernel_rfl) (by conv=>lhs;reduce;dsimp only[iA]) rfl ?_;by_cases o1:t.op=1
 ·rw[if_pos o1] at hs;cases A
  case false=>
   simp only[Bool.false_and] at hs;clear c2 c3 c4;repeat' (first|simp -implicitDefEqProofs -dsimp only[go_sem,seval, *]|simp(disch:=omega) only[ah,aj,ao,aw,ar,ag,au,aq]|refine kc1 (c1 _) ?_|refine fin_eq ?_)
  have hdx:decide (t.e.length=1/\t.l.length=0)=(((t.e.length:Int)==1)&&((t.l.length:Int)==0)):=by
   rw[Bool.eq_iff_iff];simp;omega
  rw[hdx] at hs;obtain⟨x,hx⟩:∃x,((t.e.length:Int)==1)=x:=⟨_,rfl⟩;obtain⟨y,hy⟩:∃x,((t.l.length:Int)==0)=x:=⟨_,rfl⟩;rw[hx,hy] at hs;clear c2 c3 hdx;cases D<;>cases x<;>cases y<;>simp only[Bool.true_and,Bool.false_and,Bool.and_false,Bool.and_true] at hs
  all_goals
   repeat' (first|simp -implicitDefEqProofs -dsimp only[go_sem,seval, *]|simp(disch:=omega) only[ah,aj,ao,aw,ar,ag,au,aq]|refine kc1 (c1 _) ?_|refine kc1 (c4 _) ?_|refine fin_eq ?_)
 rw[if_neg o1] at hs;have ob1:(t.op != 1)=true:=by simp[o1]
 by_cases hz:t.sig=0/\t.hi=0/\t.lo=0
 case neg=>
  have hv:bi g t=false:=by rw[hs,decide_eq_false hz];simp
  clear hs c2 c3 c4;repeat' (first|simp -implicitDefEqProofs -dsimp only[go_sem,seval, *]|simp(disch:=omega) only[ah,aj,ao,aw,ar,ag,au,aq]|(with_reducible (first|apply Za|apply Zb|apply Zc|apply Zd|apply Ze|apply Zf|apply Zg|apply Zh|apply Zi|apply Zj|apply Zk|apply Zl|apply Zm|apply Zn|apply Zo|apply Zp|apply Zq|apply Zr|apply Zs)<;>intro hq)|with_reducible refine Zu ?_ ?_|refine kc1 (c1 _) ?_|omega)
  all_goals first|(exfalso;apply hz;clear c1;omega)|skip
  all_goals
   refine fin_eq ?_;(repeat' simp -implicitDefEqProofs -dsimp only[go_sem,seval, *])
 rw[decide_eq_true hz] at hs;simp only[Bool.true_and] at hs;obtain⟨z1,z2,z3⟩:=hz;cases A
 case false=>
  simp only[Bool.false_and] at hs;clear c2 c3 c4;repeat' (first|simp -implicitDefEqProofs -dsimp only[go_sem,seval, *]|simp(disch:=omega) only[ah,aj,ao,aw,ar,ag,au,aq]|refine kc1 (c1 _) ?_|refine fin_eq ?_)
 simp only[Bool.true_and] at hs;by_cases o2:t.op=2
 ·rw[if_pos o2] at hs;clear c3 c4;by_cases hb:t.e.length=1/\t.l.length=2
  ·obtain⟨b1,b2⟩:=hb;have b3:(0:Int)<t.l.length:=by omega
   have b4:(1:Int)<t.l.length:=by omega
   have b5:0<t.l.length:=by omega
   have b6:1<t.l.length:=by omega
   have hall:(t.l.all λx=>decide (x.op=5))=(decide (t.l[0].op=5)&&decide (t.l[1].op=5)):=by
    obtain⟨x,y,hxy⟩:=len2 b2;simp[hxy]
   rw[decide_eq_true ⟨b1,b2⟩,Bool.true_and,hall] at hs;clear hall;obtain⟨u,hu⟩:∃u,(t.l[0].op==5)=u:=⟨_,rfl⟩;obtain⟨v,hv⟩:∃u,(t.l[1].op==5)=u:=⟨_,rfl⟩;have hu2:decide (t.l[0].op=5)=u:=by rw[<-hu];rfl
   have hv2:decide (t.l[1].op=5)=v:=by rw[<-hv];rfl
   rw[hu2,hv2] at hs;clear hu2 hv2;cases u<;>cases v<;>simp only[Bool.true_and,Bool.false_and,Bool.and_false] at hs
   all_goals
    repeat' (first|simp -implicitDefEqProofs -dsimp only[go_sem,seval, *]|simp(disch:=omega) only[ah,aj,ao,aw,ar,ag,au,aq]|with_reducible refine Zu ?_ ?_|refine kc1 (c1 _) ?_|refine kc1 (c2 _) ?_|refine fin_eq ?_)
  ·rw[decide_eq_false hb] at hs;simp only[Bool.false_and] at hs;repeat' (first|simp -implicitDefEqProofs -dsimp only[go_sem,seval, *]|simp(disch:=omega) only[ah,aj,ao,aw,ar,ag,au,aq]|(with_reducible (first|apply Za|apply Zb|apply Zc|apply Zd|apply Ze|apply Zf|apply Zg|apply Zh|apply Zi|apply Zj|apply Zk|apply Zl|apply Zm|apply Zn|apply Zo|apply Zp|apply Zq|apply Zr|apply Zs)<;>intro hq)|with_reducible refine Zu ?_ ?_|refine kc1 (c1 _) ?_|refine kc1 (c2 _) ?_|omega)
   all_goals first|(exfalso;apply hb;clear c1 c2;omega)|skip
   all_goals
    refine fin_eq ?_;(repeat' simp -implicitDefEqProofs -dsimp only[go_sem,seval, *])
 rw[if_neg o2] at hs;by_cases o3:t.op=3
 ·rw[if_pos o3] at hs;by_cases hb:t.e.length=1
  ·rw[decide_eq_true hb,Bool.true_and] at hs;clear c2 c4;repeat' (first|simp -implicitDefEqProofs -dsimp only[go_sem,seval, *]|simp(disch:=omega) only[ah,aj,ao,aw,ar,ag,au,aq]|refine kc1 (c1 _) ?_|refine kc1 (c3 _) ?_|refine fin_eq ?_)
  ·rw[decide_eq_false hb,Bool.false_and] at hs;have hb2:((t.e.length:Int)==1)=false:=by simp;omega
   clear c2 c4 hb;repeat' (first|simp -implicitDefEqProofs -dsimp only[go_sem,seval, *]|simp(disch:=omega) only[ah,aj,ao,aw,ar,ag,au,aq]|refine kc1 (c1 _) ?_|refine fin_eq ?_)
 rw[if_neg o3] at hs;by_cases o5:t.op=5
 ·rw[if_pos o5] at hs;clear c3 c4;by_cases hb:t.e.length=0
  ·rw[decide_eq_true hb,Bool.true_and] at hs;repeat' (first|simp -implicitDefEqProofs -dsimp only[go_sem,seval,gt_iff_lt, *]|simp(disch:=omega) only[ah,aj,ao,aw,ar,ag,au,aq]|refine kc1 (c1 _) ?_|refine kc1 (c2 _) ?_|refine fin_eq ?_)
  ·rw[decide_eq_false hb,Bool.false_and] at hs
   have hb2:((t.e.length:Int)==0)=false:=by
    rw[beq_eq_false_iff_ne];omega
   clear hb;repeat' (first|simp -implicitDefEqProofs -dsimp only[go_sem,seval,gt_iff_lt, *]|simp(disch:=omega) only[ah,aj,ao,aw,ar,ag,au,aq]|refine kc1 (c1 _) ?_|refine fin_eq ?_)
 rw[if_neg o5] at hs;have ob2:(t.op==2)=false:=by simp[o2]
 have ob3:(t.op==3)=false:=by simp[o3]
 have ob5:(t.op==5)=false:=by simp[o5]
 have ob6:(t.op==1)=false:=by simp[o1]
 clear o1 o2 o3 o5 c2 c3 c4;repeat' (first|simp -implicitDefEqProofs -dsimp only[go_sem,seval, *]|simp(disch:=omega) only[ah,aj,ao,aw,ar,ag,au,aq]|refine kc1 (c1 _) ?_|refine fin_eq ?_)
theorem tu(g:List Sg)(hg:g.length<=1000000000000)(t:T)(hn:nodesT t<=16777216)(hw:kp t):
  (∀τ,C_ 236 [.slice (g.map encS) .no,encT t] τ (.bool (bi g t)) τ)/\
   ∀τ,C_ 202 [.slice (g.map encS) .no, .slice (t.l.map encT) .no] τ (.bool (t.l.all (bi g))) τ:=by
 refine T.ind (P:=λt=>nodesT t<=16777216->kp t->(∀τ,C_ 236 [.slice (g.map encS) .no,encT t] τ (.bool (bi g t)) τ)/\
   ∀τ,C_ 202 [.slice (g.map encS) .no, .slice (t.l.map encT) .no] τ (.bool (t.l.all (bi g))) τ) (λt ih hn hw=>?_) t hn hw
 have h:=fun(x:T) (hx:x∈t.l)=>ih x hx (by have:=ci hx;omega) (((dK t).1 hw).2.2 x hx);have h2:=λτ=>gS g t.l (by have:=dr t;omega) (λx hx=>(h x hx).1) τ;exact⟨λτ=>lX g hg t hn hw h2 (λa ha=>(h a ha).2) τ,h2⟩
theorem qH(g:List Sg)(hg:g.length<=1000000000000)(l:List T)(hn:(l.map nodesT).sum<=16777216)(hw:∀t∈l,kp t)(σ:aA):
  C_ 202 [.slice (g.map encS) .no, .slice (l.map encT) .no] σ (.bool (l.all (bi g))) σ:=
 gS g l (by have:=cq bG l;omega) (λx hx=>(tu g hg x (by have:=bu (f:=nodesT) hx;omega) (hw x hx)).1) σ
end Go.Proofs.YtbbihmmobfmadaaGreat.S
namespace Go.Proofs.YtbbihmmobfmadaaGreat.S
open Abs Fil Fil.Sz
theorem mO{α:Type}{p:α->Bool}{l:List α}{i:Nat}(h:i<l.length)(hp:p l[i]=false):l.all p=false:=by
 rw[List.all_eq_false];exact⟨_,List.getElem_mem h,by rw[hp];simp⟩
theorem jC{α:Type}{p:α->Bool}{l:List α}(h:∀j,(hj:j<l.length)->p l[j]=true):l.all p=true:=by
 rw[List.all_eq_true];intro x hx;obtain⟨j,hj,rfl⟩:=List.getElem_of_mem hx;exact h j hj
theorem qk{α:Type}{p:α->Bool}{l:List α}{i:Nat}(h:i<l.length)(hok:∀j,(hj:j<l.length)->j<i->p l[j]=true)(hp:p l[i]=true):∀j,(hj:j<l.length)->j<i+1->p l[j]=true:=λj hj h1=>by
 rcases Nat.lt_or_ge j i with q|q
 ·exact hok j hj q
 ·obtain rfl:j=i:=by omega
  exact hp
theorem Ee(l:List Sg)(hl:l.length<=1000000000000)(hw:∀s∈l,MD s)(hg:dg l)(σ:aA):C_ 149 [.slice (l.map encS) .no] σ (.bool (l.all λs=>holds s.w s.init)) σ:=by
 have con:=fun(s:Sg) (hs:s∈l) τ=>pY s.w s.init τ (by have:=hg s hs;omega) (by have:=hg s hs;omega) (hw s hs).2.2;clear hw hg;refine gO [] Tryz.func149 (by kernel_rfl) (by conv=>lhs;reduce;dsimp only[iA]) rfl ?_;repeat' simp -implicitDefEqProofs -dsimp only[go_sem,seval, *]
 refine loop_rule (λi:Nat=>[(3,some (.int .i64 i)),(0,some (.slice (l.map encS) .no))]) (λ_=>σ) (λi=>i<=l.length/\∀j,(h:j<l.length)->j<i->(λs=>holds s.w s.init) l[j]=true) (λi=>l.length-i) 0 ?_ ?_
 ·clear con;(repeat' (first|simp -implicitDefEqProofs -dsimp only[go_sem,seval, *]|with_reducible refine And.intro ?_ ?_|omega))
 ·rintro i ⟨hi,hok⟩;by_cases hlt:i<l.length
  ·have hc:=con l[i] (List.getElem_mem hlt);have hn:=qk (p:=λs:Sg=>holds s.w s.init) hlt hok;have hf:=mO (p:=λs:Sg=>holds s.w s.init) hlt;generalize hb:holds l[i].w l[i].init=b at hc;cases b with
   |false=>
    have hv:=hf hb;clear con hok hn hf hb;repeat' (first|simp -implicitDefEqProofs -dsimp only[go_sem,seval, *]|simp(disch:=omega) only[ah,aj,ao,aw,ar,ag,au,aq]|with_reducible refine Zu ?_ ?_|with_reducible refine id_one0 (λtS hS=>hc _) trivial ?_|refine fin_eq ?_)
   |true=>
    have hn:=hn hb;clear con hok hf hb;repeat' (first|simp -implicitDefEqProofs -dsimp only[go_sem,seval, *]|simp(disch:=omega) only[ah,aj,ao,aw,ar,ag,au,aq]|with_reducible refine Zu ?_ ?_|with_reducible refine id_one0 (λtS hS=>hc _) trivial ?_|with_reducible refine lnx (i+1) ?_|with_reducible refine And.intro ?_ ?_|omega)
  ·have hv:=jC (p:=λs:Sg=>holds s.w s.init) λj hj=>hok j hj (by omega);clear con hok;repeat' (first|simp -implicitDefEqProofs -dsimp only[go_sem,seval, *]|refine fin_eq ?_)
theorem A7(d:Flat)(σ:aA)(hd:Sm d)(hw:WfD d):C_ 148 [encD d] σ (.bool (bH d)) σ:=by
 have l1:=hd.1;have l2:=hd.2.1;have l3:=hd.2.2.1;have c1:=λτ=>p9 d.sigs τ (by omega);have con2:=fun(p:Pr) (hp:p∈d.procs) τ=>qH d.sigs (by omega) p.l (by have h:=hO hd hp;unfold aZ at h;omega) (hw.procs p hp) τ;have con3:=fun(x:Ck) (hx:x∈d.chks) τ=>qc d.sigs (by omega) x.e τ (jL hd hx) (hw.chks x hx)
 have hs:bH d=(d.procs.all (λp=>p.l.all (bi d.sigs))&&(d.chks.all (λx=>shp d.sigs x.e)&&cr d.sigs)):=by
  unfold bH;rw[Bool.and_assoc,Bool.and_comm,Bool.and_assoc]
 generalize hA:cr d.sigs=A at c1 hs;generalize hR:bH d=R at hs|-;clear hA hw hd hR;refine gO [1] Tryz.func148 (by kernel_rfl) (by conv=>lhs;reduce;dsimp only[iA]) rfl ?_;repeat' simp -implicitDefEqProofs -dsimp only[go_sem,seval, *]
 refine loop_rule (λi:Nat=>[(3,some (.int .i64 i)),(1,some (.cptr (dL d)))]) (λ_=>σ) (λi=>i<=d.procs.length/\∀j,(h:j<d.procs.length)->j<i->(λp:Pr=>p.l.all (bi d.sigs)) d.procs[j]=true) (λi=>d.procs.length-i) 0 ?_ ?_
 ·clear c1 con2 con3 hs;(repeat' (first|simp -implicitDefEqProofs -dsimp only[go_sem,seval, *]|with_reducible refine And.intro ?_ ?_|omega))
 ·rintro i ⟨hi,hok⟩;by_cases hlt:i<d.procs.length
  ·have hc:=con2 d.procs[i] (List.getElem_mem hlt);have hn:=qk (p:=λp:Pr=>p.l.all (bi d.sigs)) hlt hok;have hf:=mO (p:=λp:Pr=>p.l.all (bi d.sigs)) hlt;generalize hb:d.procs[i].l.all (bi d.sigs)=b at hc;cases b with
   |false=>
    have hv:=hf hb;rw[hv,Bool.false_and] at hs;clear c1 con2 con3 hok hn hf hb hv;repeat' (first|simp -implicitDefEqProofs -dsimp only[go_sem,seval, *]|simp(disch:=omega) only[ah,aj,ao,aw,ar,ag,au,aq]|with_reducible refine Zu ?_ ?_|with_reducible refine id_one0 (λtS hS=>hc _) trivial ?_|refine fin_eq ?_)
   |true=>
    have hn:=hn hb;clear c1 con2 con3 hok hf hb hs;repeat' (first|simp -implicitDefEqProofs -dsimp only[go_sem,seval, *]|simp(disch:=omega) only[ah,aj,ao,aw,ar,ag,au,aq]|with_reducible refine Zu ?_ ?_|with_reducible refine id_one0 (λtS hS=>hc _) trivial ?_|with_reducible refine lnx (i+1) ?_|with_reducible refine And.intro ?_ ?_|omega)
  ·have hv:=jC (p:=λp:Pr=>p.l.all (bi d.sigs)) λj hj=>hok j hj (by omega);rw[hv,Bool.true_and] at hs;clear con2 hok hv;repeat' simp -implicitDefEqProofs -dsimp only[go_sem,seval, *]
   refine loop_rule (λk:Nat=>[(4,some (.int .i64 k)),(1,some (.cptr (dL d)))]) (λ_=>σ) (λk=>k<=d.chks.length/\∀j,(h:j<d.chks.length)->j<k->(λx:Ck=>shp d.sigs x.e) d.chks[j]=true) (λk=>d.chks.length-k) 0 ?_ ?_
   ·clear c1 con3 hs;(repeat' (first|simp -implicitDefEqProofs -dsimp only[go_sem,seval, *]|with_reducible refine And.intro ?_ ?_|omega))
   ·rintro k ⟨hk,hok⟩;by_cases hkt:k<d.chks.length
    ·have hx:=encEs_eq d.chks[k].e;have hc:=con3 d.chks[k] (List.getElem_mem hkt);have hn:=qk (p:=λx:Ck=>shp d.sigs x.e) hkt hok;have hf:=mO (p:=λx:Ck=>shp d.sigs x.e) hkt;generalize hb:shp d.sigs d.chks[k].e=b at hc;cases b with
     |false=>
      have hv:=hf hb;rw[hv,Bool.false_and] at hs;clear c1 con3 hok hn hf hb hv hx;repeat' (first|simp -implicitDefEqProofs -dsimp only[go_sem,seval, *]|simp(disch:=omega) only[ah,aj,ao,aw,ar,ag,au,aq]|with_reducible refine Zu ?_ ?_|with_reducible refine id_one0 (λtS hS=>hc _) trivial ?_|refine fin_eq ?_)
     |true=>
      have hn:=hn hb;clear c1 con3 hok hf hb hs hx;repeat' (first|simp -implicitDefEqProofs -dsimp only[go_sem,seval, *]|simp(disch:=omega) only[ah,aj,ao,aw,ar,ag,au,aq]|with_reducible refine Zu ?_ ?_|with_reducible refine id_one0 (λtS hS=>hc _) trivial ?_|with_reducible refine lnx (k+1) ?_|with_reducible refine And.intro ?_ ?_|omega)
    ·have hv:=jC (p:=λx:Ck=>shp d.sigs x.e) λj hj=>hok j hj (by omega);rw[hv,Bool.true_and] at hs;clear con3 hok hv;repeat' (first|simp -implicitDefEqProofs -dsimp only[go_sem,seval, *]|refine kc1 (c1 _) ?_|refine fin_eq ?_)
end Go.Proofs.YtbbihmmobfmadaaGreat.S
namespace Go.Proofs.YtbbihmmobfmadaaGreat.S
open Abs Fil Fil.Sz
abbrev iu(g:List Sg)(e:Int):AObj:= .cells [.slice (g.map encS) .no, .int .i64 e]
theorem yR(o:Nat)(g:List Sg)(hg:dg g)(e0:Int)(x:E)(w:Int)(σ:aA)(h:σ o=some (iu g e0))(hs:shp g x=true)(hn:nodes x<=16777216)(hw:WfE x)(hw0: -1<=w):
  C_ 130 [.ptr o 0,encE x, .int .i64 w] σ (encE (bL x w e0).1) (aH σ o (iu g (bL x w e0).2)):=by
 have c1:=λτ=>yQ g hg x w τ hs hn hw hw0;have hv:bL x w e0=if e0≠0 then (zE,e0) else size x w:=rfl
 have hu:aH σ o (iu g e0)=σ:=by
  funext k
  by_cases hk:k=o
  ·subst hk;simp[aH,h]
  ·simp[aH,hk]
 refine gO [4] Tryz.func130 (by kernel_rfl) (by conv=>lhs;reduce;dsimp only[iA]) rfl ?_;by_cases he:e0=0
 ·rw[if_neg (by omega)] at hv;obtain⟨⟨y,f⟩,hR⟩:∃R,size x w=R:=⟨_,rfl⟩;rw[hR] at c1 hv;rw[hv];clear hv hR hs hn hw hw0 hu;subst he;repeat' (first|simp(maxDischargeDepth:=9) -implicitDefEqProofs -dsimp only[go_sem,seval, *]|simp(disch:=omega) only[ah,aj,ao,aw,ar,ag,au,aq]|(with_reducible refine Zt λoF hoF hnF hnF'=>?_;try simp only[aa,ne_eq,not_and] at hoF)|refine kc1 (c1 _) ?_|refine fin_eq ?_)
 ·rw[if_pos he] at hv;rw[hv,aL,hu];have hb:(e0 != 0)=true:=by simp[he]
  clear hv hs hn hw hw0 hu c1 he;repeat' (first|simp(maxDischargeDepth:=9) -implicitDefEqProofs -dsimp only[go_sem,seval, *]|(with_reducible refine Zt λoF hoF hnF hnF'=>?_;try simp only[aa,ne_eq,not_and] at hoF)|refine fin_eq ?_)
end Go.Proofs.YtbbihmmobfmadaaGreat.S
namespace Fil.Sz
open Abs
theorem Ef{e:E}{w:Int}(h:(size e w).2≠0):(size e w).1=zE:=by
 rw[fK] at h|-;split
 ·rfl
 rename_i q1
 rw[if_neg q1] at h;split
 ·rename_i q2
  rw[if_pos q2] at h;split
  ·rename_i q3;rw[if_pos q3] at h;simp at h
  ·rfl
 ·rename_i q2
  rw[if_neg q2] at h;split
  ·rfl
  ·rename_i ws hws
   rw[hws] at h;simp only[jl] at h|-;split
   ·rfl
   rename_i q3
   rw[if_neg q3] at h;split
   ·rfl
   ·rename_i q4;rw[if_neg q4] at h;simp at h
end Fil.Sz
namespace Fil.Sz
open Abs
theorem yS{g:List Sg}(hg:dg g)(e:E):∀(w:Int) (x:E),shp g e=true-> -1<=w->w<=64->WfE e->size e w=(x,0)->WfE x:=by
 refine E.ind (P:=λe=>∀(w:Int) (x:E),shp g e=true-> -1<=w->w<=64->WfE e->size e w=(x,0)->WfE x) (λe ih w x hs h0 h64 hwf h=>?_) e;have ok:=gr hg e w x hs h0 h;obtain⟨h2,h3⟩:=ok.shp h64;have hpos:=ok.pos;obtain⟨⟨f1,f2,f3,f4,f5,f6,f7⟩,fl⟩:=(WfE_iff e).1 hwf;obtain⟨hbit,hc⟩:=nY h;generalize hW:wide e w=W at hpos hc h2;have wW:I64 W:=⟨by omega,by omega⟩;have z0:I64 0:=⟨by omega,by omega⟩;rcases hc with ⟨ho,hw0,hh,hx⟩|⟨hnum,ws,hws,hr,hbad,hx⟩
 ·rw[hx,WfE_iff];exact⟨⟨⟨by show(-9223372036854775808:Int)<=1;omega,by show(1:Int)<=_;omega⟩,wW,f3,z0,z0,z0,z0⟩,λy hy=>by cases hy⟩
 ·have hwt:=lL hs hws;have hwl:=mI hs hwt;obtain⟨hl,hget⟩:=lJ e.l ws hwl.symm hr;have hge:=yG hg hs hpos hwt;obtain⟨X,hX⟩:∃X,(aO (e.l.map size) ws).1=X:=⟨_,rfl⟩
  have hp:KX g e ws X:=λi h1 h2 h3=>by
   refine gr hg _ _ _ (aY hs (List.getElem_mem h1)) (hge _ (List.getElem_mem h2)) ?_;rw[hget i h1 h2];simp only[hX]
  rw[hX] at hbad hx hl;have hfew:=λv hv=>DB hg hs hpos h2 hwt hl hp v hv;rw[hx,WfE_iff];refine⟨⟨f1,wW,f3,f4,f5,f6,f7⟩,λy hy=>?_⟩;rw[jJ] at hy;obtain⟨i,hi,rfl⟩:=List.getElem_of_mem hy;refine ih _ (List.getElem_mem (by omega:i<e.l.length)) (ws[i]'(by omega)) _ (aY hs (List.getElem_mem _)) (hge _ (List.getElem_mem _)) (hfew _ (List.getElem_mem _)) (fl _ (List.getElem_mem _)) ?_;rw[hget i (by omega) (by omega)];simp only[hX]
end Fil.Sz
namespace Fil.Sz
open Abs
theorem gT{β:Type}:∀(l:List (Int->β×Int)),(∀f∈l,∀e,e≠0->(f e).2=e)->∀e,e≠0->(bq l e).2=e
 |[],_,_,_=>rfl
 |f::l,h,e,he=>by
  simp only[bq];have h1:=h f (by simp) e he;rw[h1];exact gT l (λf' hf=>h f' (by simp[hf])) e he
theorem mP(x:E)(w e:Int)(he:e≠0):(bL x w e).2=e:=by simp[bL,he]
theorem HU(g:List Sg)(clk:Bool)(t:T)(lab e:Int)(he:e≠0):(gI g clk t lab e).2=e:=by
 unfold gI;have hr:c8 g clk t e=e:=by simp[c8,he]
 rw[hr];refine gT _ (λf hf e' he'=>?_) e he;obtain⟨x,_,rfl⟩:=List.mem_map.1 hf;exact mP _ _ _ he'
theorem tw(g:List Sg)(clk:Bool)(t:T):∀(lab e:Int),e≠0->(gJ g clk t lab e).2=e:=by
 refine T.ind (P:=λt=>∀(lab e:Int),e≠0->(gJ g clk t lab e).2=e) (λt ih lab e he=>?_) t;rw[io];have h1:=HU g clk t lab e he;simp only
 rw[h1];unfold fM;refine gT _ (λf hf e' he'=>?_) e he;obtain⟨x,hx,rfl⟩:=List.mem_map.1 hf;exact ih x hx _ e' he'
theorem lsT_err(g:List Sg)(clk:Bool)(l:List T)(lab e:Int)(he:e≠0):(fM g clk l lab e).2=e:=by
 unfold fM;refine gT _ (λf hf e' he'=>?_) e he;obtain⟨x,hx,rfl⟩:=List.mem_map.1 hf;exact tw g clk x _ e' he'
def lY{α:Type}(z:α)(r:α×Int):α×Int:=if r.2=0 then r else (z,r.2)
theorem fC{β:Type}{l:List (Int->β×Int)}{i:Nat}(h:i<l.length)(e:Int):bq (l.take (i+1)) e=((bq (l.take i) e).1++[(l[i] (bq (l.take i) e).2).1],(l[i] (bq (l.take i) e).2).2):=by
 rw[List.take_add_one,List.getElem?_eq_getElem h,Option.toList_some,rM]
theorem nZ{β:Type}{l:List (Int->β×Int)}(hl:∀f∈l,∀e,e≠0->(f e).2=e){i:Nat}{e:Int}(h:(bq (l.take i) e).2≠0):(bq l e).2=(bq (l.take i) e).2:=by
 conv=>lhs;rw[<-List.take_append_drop i l]
 rw[uE];exact gT _ (λf hf=>hl f (List.mem_of_mem_drop hf)) _ h
end Fil.Sz
namespace Fil.Sz
open Abs
def Eg(g:List Sg)(t:T):Prop:=((∀x∈t.e,shp g x=true)/\(t.op=1->place g t.sig t.hi t.lo=true)/\(t.op=3->0<t.e.length))/\∀x,(h:x∈t.l)->Eg g x
termination_by t
decreasing_by exact T.lt h
theorem n8(g:List Sg)(t:T):Eg g t↔((∀x∈t.e,shp g x=true)/\(t.op=1->place g t.sig t.hi t.lo=true)/\(t.op=3->0<t.e.length))/\∀x∈t.l,Eg g x:=by rw[Eg]
theorem yT(g:List Sg)(t:T):(bi g t=true\/fX g t=true)->Eg g t:=by
 refine T.ind (P:=λt=>(bi g t=true\/fX g t=true)->Eg g t) (λt ih h=>?_) t;rw[n8];rcases h with h|h
 ·rw[i9] at h;split at h
  ·rename_i ho
   simp only[Bool.and_eq_true,List.all_eq_true,decide_eq_true_eq] at h;obtain⟨⟨h1,h2,h3⟩,h4⟩:=h;refine⟨⟨h1,λ_=>h4,λ_=>by omega⟩,λx hx=>?_⟩;have:=List.length_pos_of_mem hx;omega
  rename_i ho
  simp only[Bool.and_eq_true,List.all_eq_true] at h;obtain⟨⟨_,h1⟩,h⟩:=h;split at h
  ·simp only[Bool.and_eq_true,List.all_eq_true,decide_eq_true_eq] at h;exact⟨⟨h1,λq=>(ho q).elim,λ_=>by omega⟩,λx hx=>ih x hx (.inl (h.2 x hx))⟩
  split at h
  ·simp only[Bool.and_eq_true,decide_eq_true_eq,d7,List.all_eq_true] at h;exact⟨⟨h1,λq=>(ho q).elim,λ_=>by omega⟩,λx hx=>ih x hx (.inr (h.2.2 x hx))⟩
  rename_i q3
  split at h
  ·simp only[Bool.and_eq_true,decide_eq_true_eq,List.all_eq_true] at h;exact⟨⟨h1,λq=>(ho q).elim,λq=>(q3 q).elim⟩,λx hx=>ih x hx (.inl (h.2 x hx))⟩
  ·simp at h
 ·rw[gZ] at h;simp only[Bool.and_eq_true,List.all_eq_true,decide_eq_true_eq] at h;exact⟨⟨λx hx=>(h.1.2 x hx).2,λq=>by omega,λq=>by omega⟩,λx hx=>ih x hx (.inl (h.2 x hx))⟩
theorem HV:zE.w=0:=rfl
theorem Eh{g:List Sg}(hg:dg g){e:E}{w:Int}(hs:shp g e=true)(h0: -1<=w):0<=(size e w).1.w:=by
 by_cases hf:(size e w).2=0
 ·have ok:=gr hg e w (size e w).1 hs h0 (by rw[<-hf]);rw[ok.wd];have:=ok.pos;omega
 ·rw[Ef hf,HV];omega
theorem HW{g:List Sg}(hg:dg g){e:E}{w e0:Int}(hs:shp g e=true)(h0: -1<=w):0<=(bL e w e0).1.w:=by
 unfold bL;split
 ·rw[HV];omega
 ·exact Eh hg hs h0
theorem u8{β:Type}{p:β->Prop}:∀(l:List (Int->β×Int)),(∀f∈l,∀e,p (f e).1)->∀e,∀x∈(bq l e).1,p x
 |[],_,_,x,hx=>by simp[bq] at hx
 |f::l,h,e,x,hx=>by
  simp only[bq,List.mem_cons] at hx;rcases hx with rfl|hx
  ·exact h f (by simp) e
  ·exact u8 l (λf' hf=>h f' (by simp[hf])) _ x hx
theorem qm{g:List Sg}{t:T}{lab:Int}(h:t.op=1->place g t.sig t.hi t.lo=true)(hl: -1<=lab): -1<=dz t lab:=by
 unfold dz;split
 ·rename_i ho
  have:=place_iff.1 (h ho);omega
 split
 ·omega
 split
 ·omega
 ·exact hl
theorem HX{g:List Sg}(hg:dg g){clk:Bool}{t:T}{lab e0:Int}(hsh:∀x∈t.e,shp g x=true)(h:t.op=1->place g t.sig t.hi t.lo=true)(hl: -1<=lab): -1<=eQ t lab (gI g clk t lab e0).1:=by
 unfold eQ;split
 ·unfold dM
  have hm:=u8 (p:=λx:E=>0<=x.w) (t.e.map λx=>bL x (dz t lab)) (λf hf e=>by
   obtain⟨x,hx,rfl⟩:=List.mem_map.1 hf;exact HW hg (hsh x hx) (qm h hl)) (c8 g clk t e0)
  unfold gI;cases hq:(bq (t.e.map λx=>bL x (dz t lab)) (c8 g clk t e0)).1 with
  |nil=>simp[HV]
  |cons a l=>
   rw[hq] at hm;have:=hm a (by simp)
   simp only[List.headD_cons];omega
 ·exact hl
end Fil.Sz
namespace Go.Proofs.YtbbihmmobfmadaaGreat.S
open Abs Fil Fil.Sz
theorem yU{β:Type}{l:List (Int->β×Int)}{i:Nat}(h:i<=l.length)(e:Int):(bq (l.take i) e).1.length=i:=by
 rw[gH,List.length_take];omega
theorem je(a b c d:Int)(X:List E)(Y:List T):encT (T.mk a b c d X Y)= .agg [.int .i64 a, .int .i64 b, .int .i64 c, .int .i64 d, .slice (X.map encE) .no, .slice (Y.map encT) .no]:=by
 unfold encT tL;rw[bA];rfl
theorem xE{K:Int}{clk c1 c4:Bool}{e0 R:Int}(h4:(K==4)=c4)(h1:(K==1)=c1)(h:(e0=0/\(K=1\/clk≠decide (K=4))/\R=85)\/((e0=0/\¬K=1/\clk=decide (K=4))/\R=e0)\/(¬e0=0/\R=e0)):
  ((e0==0)=true/\c1=true/\R=85)\/((e0==0)=true/\c1=false/\(clk==c4)=false/\R=85)\/((e0==0)=true/\c1=false/\(clk==c4)=true/\R=e0)\/((e0==0)=false/\R=e0):=by
 have e4:decide (K=4)=c4:=h4;have e1:K=1↔c1=true:=by rw[<-h1];simp
 rw[e4,e1] at h;clear e4 e1 h4 h1;rcases h with ⟨q1,q2,q3⟩|⟨⟨q1,q2,q3⟩,q4⟩|⟨q1,q2⟩
 ·cases c1<;>cases clk<;>cases c4<;>simp_all
 ·cases c1<;>cases clk<;>cases c4<;>simp_all
 ·simp[q1,q2]
theorem HY{l:List E}(h:0<l.length):dM l=(l[0]).w:=by
 cases l with
 |nil=>simp at h
 |cons a l=>simp[dM]
theorem lZ(g:List Sg)(hg:dg g)(hgl:g.length<=1000000000000)(clk:Bool)(t:T)(o:Nat)(lab e0:Int)(σ:aA)(h:σ o=some (iu g e0))(hs:Eg g t)(hn:nodesT t<=16777216)(hw:kp t)(hlab: -1<=lab)
  (ih:∀x∈t.l,∀(lab e0:Int) (σ:aA),σ o=some (iu g e0)-> -1<=lab->C_ 129 [.ptr o 0,encT x, .bool clk, .int .i64 lab] σ (encT (gJ g clk x lab e0).1) (aH σ o (iu g (gJ g clk x lab e0).2))):
  C_ 129 [.ptr o 0,encT t, .bool clk, .int .i64 lab] σ (encT (gJ g clk t lab e0).1) (aH σ o (iu g (gJ g clk t lab e0).2)):=by
 have h1:=bA t;have l1:=bS t;have l2:=dr t;obtain⟨⟨s1,s2,s3⟩,_⟩:=(n8 g t).1 hs;have w8:=(dK t).1 hw;have hwg:=qm (lab:=lab) s2 hlab;have hlg:=HX (clk:=clk) (e0:=e0) hg s1 s2 hlab;have hst:=io g clk t lab e0;obtain⟨W,hW⟩:∃W,dz t lab=W:=⟨_,rfl⟩;obtain⟨R,hR⟩:∃R,c8 g clk t e0=R:=⟨_,rfl⟩;have hes:gI g clk t lab e0=bq (t.e.map λx=>bL x W) R:=by unfold gI;rw[hW,hR]
 rw[hes] at hst hlg;have cE:=fun(x:E) (hx:x∈t.e) (e1:Int) (τ:aA) (hτ:τ o=some (iu g e1))=>yR o g hg e1 x W τ hτ (s1 x hx) (by have:=bC hx;omega) (w8.2.1 x hx) (by omega)
 have hsort:(t.op=1/\W=t.hi-t.lo+1/\(e0=0/\(kindOf g t=1\/clk≠decide (kindOf g t=4))/\R=85\/(e0=0/\¬kindOf g t=1/\clk=decide (kindOf g t=4))/\R=e0\/¬e0=0/\R=e0))\/
   (t.op=2/\W= -1/\R=e0)\/(t.op=3/\W=0/\R=e0)\/(¬t.op=1/\¬t.op=2/\¬t.op=3/\W=lab/\R=e0):=by
  rw[<-hW,<-hR];unfold dz c8;by_cases o1:t.op=1
  ·refine .inl ⟨o1,by rw[if_pos o1],?_⟩;by_cases e1:e0=0
   ·by_cases k1:kindOf g t=1\/clk≠decide (kindOf g t=4)
    ·exact .inl ⟨e1,k1,by rw[if_pos ⟨o1,e1,k1⟩]⟩
    ·refine .inr (.inl ⟨⟨e1,λq=>k1 (.inl q),Classical.byContradiction λq=>k1 (.inr q)⟩,by rw[if_neg (λq=>k1 q.2.2)]⟩)
   ·exact .inr (.inr ⟨e1,by rw[if_neg (λq=>e1 q.2.1)]⟩)
  ·have q1:(if t.op=1/\e0=0/\(kindOf g t=1\/clk≠decide (kindOf g t=4)) then (85:Int) else e0)=e0:=by rw[if_neg (λq=>o1 q.1)]
   rw[q1];by_cases o2:t.op=2
   ·exact .inr (.inl ⟨o2,by rw[if_neg o1,if_pos o2],rfl⟩)
   ·by_cases o3:t.op=3
    ·exact .inr (.inr (.inl ⟨o3,by rw[if_neg o1,if_neg o2,if_pos o3],rfl⟩))
    ·exact .inr (.inr (.inr ⟨o1,o2,o3,by rw[if_neg o1,if_neg o2,if_neg o3],rfl⟩))
 have hlt:eQ t lab (bq (t.e.map λx=>bL x W) R).1=if t.op=3 then dM (bq (t.e.map λx=>bL x W) R).1 else lab:=rfl
 clear hs hw hW hR hes w8 hlab;obtain⟨P,hP⟩:∃P:Nat->List E×Int,∀i,P i=bq ((t.e.map λx=>bL x W).take i) R:=⟨_,λ_=>rfl⟩;have hP0:P 0=([],R):=by rw[hP];rfl
 have hPs:∀i,(hi:i<t.e.length)->P (i+1)=((P i).1++[(bL t.e[i] W (P i).2).1],(bL t.e[i] W (P i).2).2):=λi hi=>by
  rw[hP,hP,fC (by simpa using hi),List.getElem_map]
 have hPl:∀i,i<=t.e.length->(P i).1.length=i:=λi hi=>by rw[hP,yU (by simpa using hi)]
 have hPe:P t.e.length=bq (t.e.map λx=>bL x W) R:=by
  rw[hP];congr 1;exact List.take_of_length_le (by simp)
 rw[<-hPe] at hst hlg hlt;clear hP hPe;generalize hL:eQ t lab (P t.e.length).1=L at hst hlg hlt;obtain⟨Q,hQ⟩:∃Q:Nat->List T×Int,∀i,Q i=bq ((t.l.map λx=>gJ g clk x L).take i) (P t.e.length).2:=⟨_,λ_=>rfl⟩;have hQ0:Q 0=([],(P t.e.length).2):=by rw[hQ];rfl
 have hQs:∀i,(hi:i<t.l.length)->Q (i+1)=((Q i).1++[(gJ g clk t.l[i] L (Q i).2).1],(gJ g clk t.l[i] L (Q i).2).2):=λi hi=>by
  rw[hQ,hQ,fC (by simpa using hi),List.getElem_map]
 have hQl:∀i,i<=t.l.length->(Q i).1.length=i:=λi hi=>by rw[hQ,yU (by simpa using hi)]
 have hQe:Q t.l.length=fM g clk t.l L (P t.e.length).2:=by
  rw[hQ];unfold fM;congr 1;exact List.take_of_length_le (by simp)
 rw[<-hQe] at hst;clear hQ hQe hL;have cT:=fun(x:T) (hx:x∈t.l) (e1:Int) (τ:aA) (hτ:τ o=some (iu g e1))=>ih x hx L e1 τ hτ hlg;clear ih hlg hwg;generalize hS:gJ g clk t lab e0=S at hst|-;subst hst;clear hS;rw[je];refine ACalls.virt (by kernel_rfl) 8 (λoV1 hoV1 hnV1 hnV1'=>?_);(try simp only[aa,ne_eq,not_and] at hoV1);refine ACalls.virt (by kernel_rfl) 6 (λoV2 hoV2 hnV2 hnV2'=>?_);(try simp only[aa,ne_eq,not_and] at hoV2);refine gO [] Tryz.func129 (by kernel_rfl) (by conv=>lhs;reduce;dsimp only[iA,iB]) rfl ?_;have n1:¬oV1=o:=λe=>by rw[e,h] at hoV1;cases hoV1
 have n2:¬oV2=o:=λe=>by
  have:=hoV2
  simp_all
 have hlo:t.op=3->(h:0<(P t.e.length).1.length)->L=((P t.e.length).1[0]).w:=λo3 hh=>by
  rw[hlt,if_pos o3];exact HY hh
 have hln:¬t.op=3->L=lab:=λo3=>by rw[hlt,if_neg o3]
 have hPL:=hPl t.e.length (Nat.le_refl _);clear hlt;rcases hsort with ⟨o1,hWv,hr⟩|⟨o2,hWv,hRv⟩|⟨o3,hWv,hRv⟩|⟨o1,o2,o3,hWv,hRv⟩
 case' inl=>
  obtain⟨p1,p2,p3,p4,p5⟩:=place_iff.1 (s2 o1);have p6:t.sig.toNat<g.length:=by omega
  have hgs:g.getD t.sig.toNat zS=g[t.sig.toNat]:=by rw[List.getD_eq_getElem?_getD,List.getElem?_eq_getElem p6];rfl
  have p7:=hg _ (List.getElem_mem p6);have hk:kindOf g t=(g[t.sig.toNat]).kind:=by unfold Fil.Sz.kindOf;rw[hgs]
  rw[hgs] at p5;rw[hk] at hr;clear hk hgs;generalize hK:(g[t.sig.toNat]).kind=K at hr;replace hln:=hln (by omega);subst hln;obtain⟨LB,hLB⟩:∃x,x=L:=⟨_,rfl⟩;have hob:(t.op==3)=false:=by simp[o1]
  obtain⟨c4,hc4⟩:∃c,(K==4)=c:=⟨_,rfl⟩;obtain⟨c1,hc1⟩:∃c,(K==1)=c:=⟨_,rfl⟩;have hcase:=xE (clk:=clk) hc4 hc1 hr;clear hr hlo;rcases hcase with ⟨q1,q2,q5⟩|⟨q1,q2,q3,q5⟩|⟨q1,q2,q3,q5⟩|⟨q1,q5⟩
 case' inr.inl=>
  replace hln:=hln (by omega);subst hln;obtain⟨LB,hLB⟩:∃x,x=L:=⟨_,rfl⟩;have hob:(t.op==3)=false:=by simp[o2]
  clear hlo
 case' inr.inr.inl=>
  have hle:=s3 o3;have hlx:0<(P t.e.length).1.length:=by omega
  replace hlo:=hlo o3 hlx;obtain⟨LB,hLB⟩:∃x,x=lab:=⟨_,rfl⟩;clear hln
 case' inr.inr.inr=>
  replace hln:=hln o3;subst hln;obtain⟨LB,hLB⟩:∃x,x=L:=⟨_,rfl⟩;have ob1:(t.op==1)=false:=by simp[o1]
  have ob2:(t.op==2)=false:=by simp[o2]
  have ob3:(t.op==3)=false:=by simp[o3]
  clear hlo o1 o2 o3
 all_goals
  repeat' (first|simp(maxDischargeDepth:=9) -implicitDefEqProofs -dsimp only[go_sem,seval, *]|simp(disch:=omega) only[ah,aj,ao,aw,ar,ag,au,aq]|with_reducible refine Zu ?_ ?_|(with_reducible refine Zt λoF hoF hnF hnF'=>?_;try simp only[aa,ne_eq,not_and] at hoF))
  rename_i oT nx1 nx2 hoT
  obtain⟨oR,eR⟩:∃x,x=oF:=⟨oF,rfl⟩;subst eR;obtain⟨a1,a2,a3⟩:=hoT;obtain⟨a4,a5,a6,a7⟩:=hoF;obtain⟨a8,a9⟩:=hoV2;have n3:¬oT=o:=λe=>by rw[e,h] at a3;cases a3
  have n4:¬oR=o:=λe=>by rw[e,h] at a7;cases a7
  have m1:¬o=oV1:=λe=>n1 e.symm;have m2:¬o=oV2:=λe=>n2 e.symm;have m3:¬o=oT:=λe=>n3 e.symm;have m4:¬o=oR:=λe=>n4 e.symm;have b1:¬oV2=oT:=λe=>a1 e.symm;have b2:¬oV1=oT:=λe=>a2 e.symm;have b4:¬oT=oR:=λe=>a4 e.symm;have b5:¬oV2=oR:=λe=>a5 e.symm;have b6:¬oV1=oR:=λe=>a6 e.symm;have b8:¬oV1=oV2:=λe=>a8 e.symm;clear nx1 nx2 hnF hnF' hnV1 hnV1' hnV2 hnV2'
  refine loop_rule (λi:Nat=>[(62,some (.int .i64 i)),(61,some (.int .i64 t.e.length)),(60,some (.slice (t.e.map encE) .no)),(11,some (.slice ((P i).1.map encE) (.own oV1))),(0,some (.ptr o 0)),(9,some (.int .i64 W)),(5,some (.ptr oT 0)),(2,some (.bool clk)),(8,some (.ptr oR 0)),(3,some (.int .i64 LB))])
   (λi=>aH (aH (aH (aH (aH σ oV1 (.grow 8 i)) oV2 (.virt 6)) oT (.cells [.int .i64 t.op, .int .i64 t.sig, .int .i64 t.hi, .int .i64 t.lo, .slice (t.e.map encE) .no, .slice (t.l.map encT) .no])) oR (.cells [.int .i64 0, .int .i64 0, .int .i64 0, .int .i64 0, .slice [] .nil, .slice [] .nil])) o (iu g (P i).2))
   (λi=>i<=t.e.length) (λi=>t.e.length-i) 0 ?_ ?_
  ·(try clear hlo);clear cE cT hPs hQs hPl hQl hQ0
   (repeat' (first|simp(maxDischargeDepth:=9) -implicitDefEqProofs -dsimp only[go_sem,seval,List.map_nil, *]|omega))
  ·intro i hi;by_cases hlt:i<t.e.length
   ·have hc:=cE t.e[i] (List.getElem_mem hlt);have hps:=hPs i hlt;have hpl:=hPl i (by omega);(try clear hlo);clear hWv hLB cE cT hPs hQs hPl hQl hQ0 hP0 hPL
    obtain⟨⟨X,e1⟩,hX⟩:∃X,P i=X:=⟨_,rfl⟩;rw[hX] at hps hpl|-;clear hX;simp only at hps hpl;replace hc:=hc e1;repeat' (first|simp(maxDischargeDepth:=9) -implicitDefEqProofs -dsimp only[go_sem,seval, *]|simp(disch:=omega) only[ah,aj,ao,aw,ar,ag,au,aq]|with_reducible refine Zv ?_ ?_|with_reducible refine Zu ?_ ?_|(with_reducible refine Zt λoF hoF hnF hnF'=>?_;try simp only[aa,ne_eq,not_and] at hoF)|refine kc1 (hc _ ?_) ?_|with_reducible refine lnx (i+1) ?_|with_reducible refine And.intro ?_ ?_|omega)
   ·have ei:i=t.e.length:=by omega
    subst ei;clear cE hPs hP0 hPl;repeat' (first|simp(maxDischargeDepth:=9) -implicitDefEqProofs -dsimp only[go_sem,seval, *]|with_reducible refine Zu ?_ ?_)
    refine loop_rule (λk:Nat=>[(84,some (.int .i64 k)),(83,some (.int .i64 t.l.length)),(82,some (.slice (t.l.map encT) .no)),(14,some (.slice ((Q k).1.map encT) (.own oV2))),(0,some (.ptr o 0)),(2,some (.bool clk)),(3,some (.int .i64 L)),(11,some (.slice ((P t.e.length).1.map encE) (.own oV1))),(5,some (.ptr oT 0)),(8,some (.ptr oR 0))])
     (λk=>aH (aH (aH (aH (aH σ oV1 (.grow 8 t.e.length)) oV2 (.grow 6 k)) oT (.cells [.int .i64 t.op, .int .i64 t.sig, .int .i64 t.hi, .int .i64 t.lo, .slice (t.e.map encE) .no, .slice (t.l.map encT) .no])) oR (.cells [.int .i64 0, .int .i64 0, .int .i64 0, .int .i64 0, .slice [] .nil, .slice [] .nil])) o (iu g (Q k).2))
     (λk=>k<=t.l.length) (λk=>t.l.length-k) 0 ?_ ?_
    ·clear cT hQs hQl;(repeat' (first|simp(maxDischargeDepth:=9) -implicitDefEqProofs -dsimp only[go_sem,seval,List.map_nil, *]|omega))
    ·intro k hk;by_cases hkt:k<t.l.length
     ·have hx:=bA t.l[k];have hc:=cT t.l[k] (List.getElem_mem hkt);have hqs:=hQs k hkt;have hql:=hQl k (by omega);clear cT hQs hQl hQ0 hx;obtain⟨⟨X,e1⟩,hX⟩:∃X,Q k=X:=⟨_,rfl⟩;rw[hX] at hqs hql|-;clear hX;simp only at hqs hql;replace hc:=hc e1;repeat' (first|simp(maxDischargeDepth:=9) -implicitDefEqProofs -dsimp only[go_sem,seval, *]|simp(disch:=omega) only[ah,aj,ao,aw,ar,ag,au,aq]|with_reducible refine Zv ?_ ?_|with_reducible refine Zu ?_ ?_|(with_reducible refine Zt λoF hoF hnF hnF'=>?_;try simp only[aa,ne_eq,not_and] at hoF)|refine kc1 (hc _ ?_) ?_|refine kc1 (ACalls.flA (hc _ ?_) ?_) ?_|with_reducible refine lnx (k+1) ?_|with_reducible refine And.intro ?_ ?_|omega)
     ·have ek:k=t.l.length:=by omega
      subst ek;clear cT hQs hQ0;replace hQl:=hQl t.l.length (Nat.le_refl _);repeat' (first|simp(maxDischargeDepth:=9) -implicitDefEqProofs -dsimp only[go_sem,seval, *]|refine fin_eq ?_)
theorem tz(g:List Sg)(hg:dg g)(hgl:g.length<=1000000000000)(clk:Bool)(o:Nat)(t:T):∀(lab e0:Int) (σ:aA),σ o=some (iu g e0)->Eg g t->nodesT t<=16777216->kp t-> -1<=lab->
  C_ 129 [.ptr o 0,encT t, .bool clk, .int .i64 lab] σ (encT (gJ g clk t lab e0).1) (aH σ o (iu g (gJ g clk t lab e0).2)):=by
 refine T.ind (P:=λt=>∀(lab e0:Int) (σ:aA),σ o=some (iu g e0)->Eg g t->nodesT t<=16777216->kp t-> -1<=lab->
  C_ 129 [.ptr o 0,encT t, .bool clk, .int .i64 lab] σ (encT (gJ g clk t lab e0).1) (aH σ o (iu g (gJ g clk t lab e0).2))) (λt ih lab e0 σ h hs hn hw hl=>?_) t
 exact lZ g hg hgl clk t o lab e0 σ h hs hn hw hl λx hx lab e0 σ h hl=>ih x hx lab e0 σ h (((n8 g t).1 hs).2 x hx) (by have:=ci hx;omega) (((dK t).1 hw).2.2 x hx) hl
end Go.Proofs.YtbbihmmobfmadaaGreat.S
namespace Fil.Sz
open Abs
def gc{α β:Type}(R:α->β->Prop):List α->List β->Prop
 |[],[]=>True
 |a::l,b::m=>R a b/\gc R l m
 |[],_::_=>False
 |_::_,[]=>False
theorem jP{α β:Type}{R:α->β->Prop}:∀{l:List α} {m:List β},gc R l m->m.length=l.length
 |[],[],_=>rfl
 |a::l,b::m,h=>by rw[List.length_cons,List.length_cons,jP h.2]
 |[],_::_,h=>h.elim
 |_::_,[],h=>h.elim
theorem f8{α β:Type}{R S:α->β->Prop}:∀{l:List α} {m:List β},gc R l m->(∀a∈l,∀b,R a b->S a b)->gc S l m
 |[],[],_,_=>trivial
 |a::l,b::m,h,k=>⟨k a (by simp) b h.1,f8 h.2 λa' ha=>k a' (by simp[ha])⟩
 |[],_::_,h,_=>h.elim
 |_::_,[],h,_=>h.elim
theorem dB{α β γ:Type}{R:α->β->Prop}{f:α->γ}{k:β->γ}(h:∀a b,R a b->k b=f a):∀{l:List α} {m:List β},gc R l m->m.map k=l.map f
 |[],[],_=>rfl
 |a::l,b::m,q=>by rw[List.map_cons,List.map_cons,h a b q.1,dB h q.2]
 |[],_::_,q=>q.elim
 |_::_,[],q=>q.elim
theorem all2_right{α β:Type}{R:α->β->Prop}{S:β->β->Prop}(h:∀a b,R a b->S b b):∀{l:List α} {m:List β},gc R l m->gc S m m
 |[],[],_=>trivial
 |a::l,b::m,q=>⟨h a b q.1,all2_right h q.2⟩
 |[],_::_,q=>q.elim
 |_::_,[],q=>q.elim
theorem all2_all{α β:Type}{R:α->β->Prop}{p:α->Bool}{q:β->Bool}(h:∀a b,R a b->p a=true->q b=true):∀{l:List α} {m:List β},gc R l m->l.all p=true->m.all q=true
 |[],[],_,_=>rfl
 |a::l,b::m,k,hp=>by
  rw[List.all_cons,Bool.and_eq_true] at hp|-;exact⟨h a b k.1 hp.1,all2_all h k.2 hp.2⟩
 |[],_::_,q,_=>q.elim
 |_::_,[],q,_=>q.elim
theorem d5{α β γ:Type}{R:α->β->Prop}{f:γ->α}:∀{l:List γ} {m:List β},gc R (l.map f) m↔gc (λa b=>R (f a) b) l m
 |[],[]=>Iff.rfl
 |a::l,b::m=>by
  show R (f a) b/\gc R (l.map f) m↔R (f a) b/\gc (λa b=>R (f a) b) l m
  rw[d5]
 |[],_::_=>Iff.rfl
 |_::_,[]=>Iff.rfl
theorem iM{α β:Type}{R:α->β->Prop}:∀{l:List α} {m:List β},gc R l m->∀b∈m,∃a∈l,R a b
 |[],[],_,b,hb=>by cases hb
 |a::l,c::m,h,b,hb=>by
  rcases List.mem_cons.1 hb with rfl|hb
  ·exact⟨a,by simp,h.1⟩
  ·obtain⟨a',h1,h2⟩:=iM h.2 b hb;exact⟨a',by simp[h1],h2⟩
 |[],_::_,h,_,_=>h.elim
 |_::_,[],h,_,_=>h.elim
def rZ{β:Type}(f:Int->β×Int):Prop:=∀e,e≠0->(f e).2=e
theorem dC{β:Type}:∀{l:List (Int->β×Int)} {xs:List β} {e:Int},(∀f∈l,rZ f)->(bq l e=(xs,0)↔e=0/\gc (λf x=>f 0=(x,0)) l xs)
 |[],xs,e,_=>by
  cases xs with
  |nil=>simp[bq,gc]
  |cons x xs=>simp[bq,gc]
 |f::l,xs,e,h=>by
  have ih:=fun(xs:List β) (e:Int)=>dC (l:=l) (xs:=xs) (e:=e) λf' hf=>h f' (by simp[hf]);have hf:=h f (by simp);cases xs with
  |nil=>simp[bq,gc]
  |cons x xs=>
   simp only[bq,Prod.mk.injEq,List.cons.injEq];constructor
   ·rintro⟨⟨h1,h2⟩,h3⟩;obtain⟨k1,k2⟩:=(ih xs (f e).2).1 (Prod.ext h2 h3);have he:e=0:=Classical.byContradiction λq=>q (by rw[<-hf e q];exact k1);subst he;exact⟨rfl,Prod.ext h1 k1,k2⟩
   ·rintro⟨rfl,h1,h2⟩;have h3:=(ih xs (f 0).2).2 ⟨by rw[h1],h2⟩;rw[h3,h1];simp
theorem HZ{β:Type}{l:List (Int->β×Int)}{e:Int}(h:∀f∈l,rZ f)(h0:(bq l e).2=0):e=0/\gc (λf x=>f 0=(x,0)) l (bq l e).1:=
 (dC h).1 (Prod.ext rfl h0)
theorem n9(w:Int)(l:List E):∀f∈l.map (λx=>bL x w),rZ f:=λf hf e he=>by
 obtain⟨x,_,rfl⟩:=List.mem_map.1 hf;exact mP _ _ _ he
theorem l7(g:List Sg)(clk:Bool)(lab:Int)(l:List T):∀f∈l.map (λx=>gJ g clk x lab),rZ f:=λf hf e he=>by
 obtain⟨x,_,rfl⟩:=List.mem_map.1 hf;exact tw _ _ _ _ _ he
theorem tA(g:List Sg)(l:List Pr):∀f∈l.map (Dr g),rZ f:=λf hf e he=>by
 obtain⟨x,_,rfl⟩:=List.mem_map.1 hf;exact lsT_err _ _ _ _ _ he
theorem l8(l:List Ck):∀f∈l.map yC,rZ f:=λf hf e he=>by
 obtain⟨x,_,rfl⟩:=List.mem_map.1 hf;exact mP _ _ _ he
theorem kR(x:E)(w:Int):bL x w 0=size x w:=by simp[bL]
theorem H0(g:List Sg)(clk:Bool)(t:T):bi g t=true->∀lab lab' e0,gJ g clk t lab e0=gJ g clk t lab' e0:=by
 refine T.ind (P:=λt=>bi g t=true->∀lab lab' e0,gJ g clk t lab e0=gJ g clk t lab' e0) (λt ih h lab lab' e0=>?_) t
 have key:gI g clk t lab e0=gI g clk t lab' e0->(t.op=3\/∀x∈t.l,bi g x=true)->gJ g clk t lab e0=gJ g clk t lab' e0:=λh1 h2=>by
  rw[io,io,h1]
  have:fM g clk t.l (eQ t lab (gI g clk t lab' e0).1) (gI g clk t lab' e0).2=fM g clk t.l (eQ t lab' (gI g clk t lab' e0).1) (gI g clk t lab' e0).2:=by
   rcases h2 with h2|h2
   ·unfold eQ;rw[if_pos h2,if_pos h2]
   ·unfold fM;congr 1
    exact List.map_congr_left λx hx=>funext λe=>ih x hx (h2 x hx) _ _ e
  rw[this]
 have hsame:(t.op=1\/t.op=2\/t.op=3\/t.e=[])->gI g clk t lab e0=gI g clk t lab' e0:=λq=>by
  unfold gI;rcases q with q|q|q|q
  ·unfold dz;rw[if_pos q,if_pos q]
  ·have e:∀k,dz t k= -1:=λk=>by unfold dz;rw[if_neg (by omega),if_pos q]
   rw[e,e]
  ·have e:∀k,dz t k=0:=λk=>by unfold dz;rw[if_neg (by omega),if_neg (by omega),if_pos q]
   rw[e,e]
  ·rw[q];rfl
 rw[i9] at h;split at h
 ·rename_i ho
  simp only[Bool.and_eq_true,decide_eq_true_eq] at h;exact key (hsame (.inl ho)) (.inr λx hx=>by have:=List.length_pos_of_mem hx;omega)
 rename_i ho
 simp only[Bool.and_eq_true] at h;obtain⟨_,h⟩:=h;split at h
 ·rename_i ho2
  simp only[Bool.and_eq_true,List.all_eq_true] at h;exact key (hsame (.inr (.inl ho2))) (.inr h.2)
 split at h
 ·rename_i ho3
  exact key (hsame (.inr (.inr (.inl ho3)))) (.inl ho3)
 split at h
 ·simp only[Bool.and_eq_true,decide_eq_true_eq,List.all_eq_true] at h;exact key (hsame (.inr (.inr (.inr (List.length_eq_zero_iff.1 h.1))))) (.inr h.2)
 ·simp at h
structure OkT(g:List Sg)(clk:Bool)(t:T)(lab:Int)(x:T):Prop where
 op:x.op=t.op
 sig:x.sig=t.sig
 hi:x.hi=t.hi
 lo:x.lo=t.lo
 lenE:x.e.length=t.e.length
 lenL:x.l.length=t.l.length
 nodes:nodesT x=nodesT t
 deep:deepT x=deepT t
 shp:bi g t=true->bi g x=true
 arm:fX g t=true->fX g x=true
 wf:kp t->kp x
 again:gJ g clk x lab 0=(x,0)
theorem armsOk_map{l m:List T}(h:m.map (λt=>t.e.length)=l.map (λt=>t.e.length))(hl:mG l):mG m:=by
 have hlen:m.length=l.length:=by have:=congrArg List.length h;simpa using this
 refine⟨by rw[hlen];exact hl.1,λi hi=>?_⟩;have h2:=hl.2 i (by omega);have h3:(m.map (λt=>t.e.length))[i]'(by simpa using hi)=(l.map (λt=>t.e.length))[i]'(by simp;omega):=by simp only[h]
 simp only[List.getElem_map] at h3;rw[h3,hlen];exact h2
theorem Lp{g:List Sg}(hg:dg g)(clk:Bool)(t:T):∀(lab e0:Int) (x:T),Eg g t-> -1<=lab->lab<=64->gJ g clk t lab e0=(x,0)->e0=0/\c8 g clk t 0=0/\OkT g clk t lab x:=by
 refine T.ind (P:=λt=>∀(lab e0:Int) (x:T),Eg g t-> -1<=lab->lab<=64->gJ g clk t lab e0=(x,0)->e0=0/\c8 g clk t 0=0/\OkT g clk t lab x) (λt ih lab e0 x hs h0 h64 h=>?_) t;obtain⟨⟨s1,s2,s3⟩,s4⟩:=(n8 g t).1 hs;rw[io] at h;have hwg:=qm (lab:=lab) s2 h0
 have hw64:dz t lab<=64:=by
  unfold dz;split
  ·rename_i ho;have:=dU hg (s2 ho);omega
  split
  ·omega
  split
  ·omega
  ·exact h64
 obtain⟨⟨xs,e1⟩,hX⟩:∃X,gI g clk t lab e0=X:=⟨_,rfl⟩;rw[hX] at h;simp only at h;obtain⟨⟨ys,e2⟩,hY⟩:∃Y,fM g clk t.l (eQ t lab xs) e1=Y:=⟨_,rfl⟩;rw[hY] at h;simp only[Prod.mk.injEq] at h;obtain⟨hx,rfl⟩:=h;unfold fM at hY;obtain⟨rfl,hL⟩:=(dC (l7 _ _ _ _)).1 hY;have hX2:=hX;unfold gI at hX;obtain⟨hr,hE⟩:=(dC (n9 _ _)).1 hX
 have he0:e0=0:=Classical.byContradiction λq=>by
  have:=tw g clk t lab e0 q
  rw[io,hX2] at this;simp only at this;unfold fM at this;rw[hY] at this;exact q this.symm
 subst he0;rw[d5] at hE hL
 have hE2:gc (λa b=>shp g a=true/\Ok g a (dz t lab) b) t.e xs:=f8 hE λa ha b hab=>by
  rw[kR] at hab;exact⟨s1 a ha,gr hg a _ b (s1 a ha) hwg hab⟩
 have hlab: -1<=eQ t lab xs/\eQ t lab xs<=64:=by
  unfold eQ;split
  ·rename_i ho
   cases hxs:xs with
   |nil=>simp[dM,HV]
   |cons b l=>
    cases hte:t.e with
    |nil=>have:=s3 ho;rw[hte] at this;simp at this
    |cons a l'=>
     rw[hxs,hte] at hE2;have ok:=hE2.1.2;have h1:=(ok.shp hw64).1;have h2:=ok.pos;have h3:=ok.wd;simp only[dM,List.headD_cons];omega
  ·exact⟨h0,h64⟩
 have hL2:gc (λa b=>OkT g clk a (eQ t lab xs) b) t.l ys:=f8 hL λa ha b hab=>(ih a ha _ _ b (s4 a ha) hlab.1 hlab.2 hab).2.2;subst hx
 have hEs:gc (λa b=>shp g a=true/\shp g b=true/\Sz.nodes b=Sz.nodes a/\Sz.deep b=Sz.deep a/\b.op=a.op/\bL b (dz t lab) 0=(b,0)) t.e xs:=f8 hE2 λa _ b ⟨q,ok⟩=>
  ⟨q,(ok.shp hw64).2,ok.nodes,ok.deep,ok.op,by rw[kR];exact ok.same⟩
 have hEw:gc (λa b=>WfE a->WfE b) t.e xs:=f8 hE λa ha b hab hwa=>by
  rw[kR] at hab;exact yS hg a _ b (s1 a ha) hwg hw64 hwa hab
 have lenE:=jP hE2;have lenL:=jP hL2;have allE:xs.all (Sz.shp g)=true:=all2_all (p:=Sz.shp g) (λa b h _=>h.2.1) hEs (List.all_eq_true.2 s1);have opsL:∀(k:Int),t.l.all (λx=>decide (x.op=k))=true->ys.all (λx=>decide (x.op=k))=true:=λk=>all2_all (λa b h q=>by rw[h.op];exact q) hL2;have allL:t.l.all (bi g)=true->ys.all (bi g)=true:=all2_all (λa b h q=>h.shp q) hL2;have allA:t.l.all (fX g)=true->ys.all (fX g)=true:=all2_all (λa b h q=>h.arm q) hL2;have lens:ys.map (λt=>t.e.length)=t.l.map (λt=>t.e.length):=dB (λa b h=>h.lenE) hL2;refine⟨rfl,hr,rfl,rfl,rfl,rfl,lenE,lenL,?_,?_,λhsh=>?_,λha=>?_,λhwf=>?_,?_⟩
 ·rw[bR,bR t,T.mk_e,T.mk_l,dB (λa b h=>h.2.2.1) hEs,dB (λa b h=>h.nodes) hL2]
 ·rw[jG,jG t,T.mk_e,T.mk_l,dB (λa b h=>h.2.2.2.1) hEs,dB (λa b h=>h.deep) hL2]
 ·rw[i9] at hsh|-;rw[T.mk_op,T.mk_sig,T.mk_hi,T.mk_lo,T.mk_e,T.mk_l,allE];split at hsh
  ·rename_i ho
   rw[if_pos ho];simp only[Bool.and_eq_true,decide_eq_true_eq] at hsh|-;exact⟨⟨trivial,by omega,by omega⟩,hsh.2⟩
  rename_i ho
  rw[if_neg ho];simp only[Bool.and_eq_true] at hsh|-;refine⟨⟨hsh.1.1,trivial⟩,?_⟩;replace hsh:=hsh.2;split at hsh
  ·rename_i ho
   rw[if_pos ho];simp only[Bool.and_eq_true,decide_eq_true_eq] at hsh|-;exact⟨⟨⟨by omega,by omega⟩,opsL 5 hsh.1.2⟩,allL hsh.2⟩
  rename_i ho
  rw[if_neg ho];split at hsh
  ·rename_i ho
   rw[if_pos ho];simp only[Bool.and_eq_true,decide_eq_true_eq,d7] at hsh|-;exact⟨by omega,armsOk_map lens hsh.2.1,allA hsh.2.2⟩
  rename_i ho
  rw[if_neg ho];split at hsh
  ·rename_i ho
   rw[if_pos ho];simp only[Bool.and_eq_true,decide_eq_true_eq] at hsh|-;exact⟨by omega,allL hsh.2⟩
  ·simp at hsh
 ·rw[gZ] at ha|-;simp only[T.mk_op,T.mk_sig,T.mk_hi,T.mk_lo,T.mk_e,T.mk_l,Bool.and_eq_true] at ha|-;refine⟨⟨ha.1.1,?_⟩,allL ha.2⟩;refine all2_all (λa b h q=>?_) hEs ha.1.2;rw[Bool.and_eq_true,decide_eq_true_eq] at q|-;exact⟨by rw[h.2.2.2.2.1];exact q.1,h.2.1⟩
 ·rw[dK] at hwf|-;refine⟨hwf.1,λb hb=>?_,λb hb=>?_⟩
  ·obtain⟨a,h1,h2⟩:=iM hEw b hb;exact h2 (hwf.2.1 a h1)
  ·obtain⟨a,h1,h2⟩:=iM hL2 b hb;exact h2.wf (hwf.2.2 a h1)
 ·have q1:gI g clk (T.mk t.op t.sig t.hi t.lo xs ys) lab 0=(xs,0):=by
   have e1:c8 g clk (T.mk t.op t.sig t.hi t.lo xs ys) 0=c8 g clk t 0:=rfl;have e2:dz (T.mk t.op t.sig t.hi t.lo xs ys) lab=dz t lab:=rfl;unfold gI;rw[e1,e2,T.mk_e];refine(dC (n9 _ _)).2 ⟨hr,d5.2 (all2_right (λa b h=>h.2.2.2.2.2) hEs)⟩
  rw[io,q1];simp only[T.mk_op,T.mk_sig,T.mk_hi,T.mk_lo,T.mk_l];have e3:eQ (T.mk t.op t.sig t.hi t.lo xs ys) lab xs=eQ t lab xs:=rfl
  have q2:fM g clk ys (eQ (T.mk t.op t.sig t.hi t.lo xs ys) lab xs) 0=(ys,0):=by
   rw[e3];exact(dC (l7 _ _ _ _)).2 ⟨rfl,d5.2 (all2_right (λa b h=>h.again) hL2)⟩
  rw[q2]
structure OkP(g:List Sg)(p q:Pr):Prop where
 clk:q.clk=p.clk
 nodes:aZ q=aZ p
 deep:di q=di p
 shp:q.l.all (bi g)=true
 wf:(∀t∈p.l,kp t)->∀t∈q.l,kp t
 again:Dr g q 0=(q,0)
structure OkC(g:List Sg)(c k:Ck):Prop where
 nodes:Sz.nodes k.e=Sz.nodes c.e
 deep:Sz.deep k.e=Sz.deep c.e
 shp:shp g k.e=true
 wf:WfE c.e->WfE k.e
 again:yC k 0=(k,0)
theorem Lq{g:List Sg}(hg:dg g){p q:Pr}(hs:p.l.all (bi g)=true)(h:Dr g p 0=(q,0)):OkP g p q:=by
 unfold Dr at h;simp only[Prod.mk.injEq] at h;obtain⟨rfl,h2⟩:=h;obtain⟨ys,hY⟩:∃Y,(fM g p.clk p.l 0 0).1=Y:=⟨_,rfl⟩;have hL:fM g p.clk p.l 0 0=(ys,0):=Prod.ext hY h2;rw[hY];rw[List.all_eq_true] at hs;have hL2:=hL;unfold fM at hL;obtain⟨_,hA⟩:=(dC (l7 _ _ _ _)).1 hL;rw[d5] at hA;have hA2:gc (λa b=>OkT g p.clk a 0 b) p.l ys:=f8 hA λa ha b hab=>(Lp hg p.clk a 0 0 b (yT g a (.inl (hs a ha))) (by omega) (by omega) hab).2.2;refine⟨rfl,?_,?_,?_,λhwf b hb=>?_,?_⟩
 ·unfold aZ;rw[dB (λa b h=>h.nodes) hA2]
 ·unfold di;rw[dB (λa b h=>h.deep) hA2]
 ·exact all2_all (λa b h q=>h.shp q) hA2 (List.all_eq_true.2 hs)
 ·obtain⟨a,h1,h2⟩:=iM hA2 b hb;exact h2.wf (hwf a h1)
 ·have:fM g p.clk ys 0 0=(ys,0):=(dC (l7 _ _ _ _)).2 ⟨rfl,d5.2 (all2_right (λa b h=>h.again) hA2)⟩
  unfold Dr;simp only[this]
theorem Lr{g:List Sg}(hg:dg g){c k:Ck}(hs:shp g c.e=true)(h:yC c 0=(k,0)):OkC g c k:=by
 unfold yC at h;simp only[Prod.mk.injEq,kR] at h;obtain⟨rfl,h2⟩:=h;have ok:=gr hg c.e (-1) (size c.e (-1)).1 hs (by omega) (Prod.ext rfl h2);refine⟨ok.nodes,ok.deep,(ok.shp (by omega)).2,λhwf=>yS hg c.e (-1) _ hs (by omega) (by omega) hwf (Prod.ext rfl h2),?_⟩;unfold yC;simp only[kR,ok.same]
structure SzOk(d x:Flat):Prop where
 sigs:x.sigs=d.sigs
 procs:x.procs.length=d.procs.length
 chks:x.chks.length=d.chks.length
 nodes:nodesD x=nodesD d
 wf:WfD d->WfD x
 same:bE x=(x,0)
theorem u9{d:Flat}(h:(bE d).2=0):eN d=true/\bH d=true/\ip d=true/\(fg d).2=0/\(fh d).2=0/\bE d=(⟨d.sigs,(fg d).1,(fh d).1⟩,0):=by
 unfold bE at h|-;split at h
 ·simp at h
 rename_i q1
 split at h
 ·simp at h
 rename_i q2
 split at h
 ·simp at h
 rename_i q3
 split at h
 ·rename_i q4;exact(q4 h).elim
 rename_i q4
 have hc:(fh d).2=0:=by omega
 have hp:(fg d).2=0:=by
  have:=(HZ (l8 _) (show(bq (d.chks.map yC) (fg d).2).2=0 from hc)).1
  exact this
 refine⟨by simpa using q1,by simpa using q2,by simpa using q3,hp,hc,?_⟩;rw[if_neg q1,if_neg q2,if_neg q3,if_neg q4]
theorem Ei{d:Flat}{ps:List Pr}{cs:List Ck}(h1:eN d=true)(h2:bH d=true)(h3:ip d=true)(h4:fg d=(ps,0))(h5:fh d=(cs,0)):bE d=(⟨d.sigs,ps,cs⟩,0):=by
 unfold bE;rw[h1,h2,h3,h4,h5];simp
theorem dk{d:Flat}:bH d=true↔cr d.sigs=true/\d.procs.all (λp=>p.l.all (bi d.sigs))=true/\d.chks.all (λc=>shp d.sigs c.e)=true:=by
 unfold bH;simp only[Bool.and_eq_true,and_assoc]
theorem Ej{d:Flat}(h:(bE d).2=0):SzOk d (bE d).1:=by
 obtain⟨f1,f2,f3,f4,f5,f6⟩:=u9 h;rw[f6];obtain⟨s1,s2,s3⟩:=dk.1 f2;have hg:=fy s1;obtain⟨ps,hps⟩:∃ps,(fg d).1=ps:=⟨_,rfl⟩;obtain⟨cs,hcs⟩:∃cs,(fh d).1=cs:=⟨_,rfl⟩;rw[hps,hcs];have hP:fg d=(ps,0):=Prod.ext hps f4;have hC:fh d=(cs,0):=Prod.ext hcs f5;unfold fg at hP;unfold fh at hC;obtain⟨_,aP⟩:=(dC (tA _ _)).1 hP;obtain⟨_,aC⟩:=(dC (l8 _)).1 hC;rw[d5] at aP aC;have oP:gc (λa b=>OkP d.sigs a b) d.procs ps:=f8 aP λa ha b hab=>Lq hg (List.all_eq_true.1 s2 a ha) hab;have oC:gc (λa b=>OkC d.sigs a b) d.chks cs:=f8 aC λa ha b hab=>Lr hg (List.all_eq_true.1 s3 a ha) hab;have lP:=jP oP;have lC:=jP oC
 have hn:nodesD ⟨d.sigs,ps,cs⟩=nodesD d:=by
  unfold nodesD;rw[dB (λa b h=>h.nodes) oP,dB (f:=λc:Ck=>Sz.nodes c.e) (λa b h=>h.nodes) oC]
 have hd:deepD ⟨d.sigs,ps,cs⟩=deepD d:=by
  unfold deepD;rw[dB (λa b h=>h.deep) oP,dB (f:=λc:Ck=>Sz.deep c.e) (λa b h=>h.deep) oC]
 have hfit:eN ⟨d.sigs,ps,cs⟩=true:=by
  unfold eN at f1|-;rw[hn,hd];simp only[decide_eq_true_eq] at f1|-;exact⟨f1.1,by omega,f1.2.2.1,f1.2.2.2.1,f1.2.2.2.2⟩
 have hsh:bH ⟨d.sigs,ps,cs⟩=true:=dk.2 ⟨s1,all2_all (p:=λp:Pr=>p.l.all (bi d.sigs)) (λa b h _=>h.shp) oP s2,all2_all (p:=λc:Ck=>shp d.sigs c.e) (λa b h _=>h.shp) oC s3⟩;have hPs:fg ⟨d.sigs,ps,cs⟩=(ps,0):=(dC (tA _ _)).2 ⟨rfl,d5.2 (all2_right (λa b h=>h.again) oP)⟩
 have hCs:fh ⟨d.sigs,ps,cs⟩=(cs,0):=by
  unfold fh;rw[hPs];exact(dC (l8 _)).2 ⟨rfl,d5.2 (all2_right (λa b h=>h.again) oC)⟩
 refine⟨rfl,lP,lC,hn,λhw=>⟨hw.sigs,λq hq=>?_,λk hk=>?_⟩,Ei hfit hsh f3 hPs hCs⟩
 ·obtain⟨p,h1,h2⟩:=iM oP q hq;exact h2.wf (hw.procs p h1)
 ·obtain⟨c,h1,h2⟩:=iM oC k hk;exact h2.wf (hw.chks c h1)
theorem A8{d:Flat}(h:(bE d).2≠0):(bE d).1=zD:=by
 unfold bE at h|-;split
 ·rfl
 rename_i q1;rw[if_neg q1] at h
 split
 ·rfl
 rename_i q2;rw[if_neg q2] at h
 split
 ·rfl
 rename_i q3;rw[if_neg q3] at h
 split
 ·rfl
 rename_i q4;rw[if_neg q4] at h;simp at h
open Classical in
theorem xF{d:Flat}(h:(bE d).2≠0):checkD d=(bE d).2:=by
 unfold checkD;rw[if_neg λq=>h q.1]
open Classical in
theorem vc{d:Flat}(h:(bE d).2=0):(checkD d==0)=same (bE d).1 d:=by
 unfold checkD;by_cases q:(bE d).1=d
 ·rw[if_neg λk=>k.2 q,h,ee.2 q];rfl
 ·rw[if_pos ⟨h,q⟩,fx.2 q];rfl
theorem lR{α:Type}(f:α->Nat):∀(n:Nat) (l:List α),((l.take n).map f).sum<=(l.map f).sum
 |0,l=>by simp
 |n+1,[]=>by simp
 |n+1,a::l=>by have:=lR f n l;simp only[List.take_succ_cons,List.map_cons,List.sum_cons];omega
end Fil.Sz
