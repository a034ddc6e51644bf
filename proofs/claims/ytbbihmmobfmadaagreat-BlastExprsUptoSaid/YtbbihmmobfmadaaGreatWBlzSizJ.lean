/- sized: contracts: own widths. -/
import Derived.Test.YtbbihmmobfmadaaGreatWSzMain
import Derived.Test.YtbbihmmobfmadaaGreatWBlzSizG
set_option linter.unusedSimpArgs false
set_option linter.unusedVariables false
set_option maxHeartbeats 4000000
set_option maxRecDepth 50000
namespace Go.Proofs.YtbbihmmobfmadaaGreat.S
open Abs Fil Fil.Sz
theorem AT(p:E->Bool)(l:List E)(hl:l.length<=1000000000000)(σ:aA){F:Nat}{caps:List AV}(hF:∀x∈l,ACalls Tryz.prog F (encE x::caps) σ (λr σ'=>r= .ret (.bool (p x))/\σ'=σ)):
  C_ 228 [.slice (l.map encE) .no, .fn F [] caps] σ (.int .i64 (de p l)) σ:=
 cA (sz:=8) (g:=true) mixed Tryz.func228 (by kernel_rfl) (by kernel_rfl) rfl (by kernel_rfl) (λ_=>rfl) (λ_=>rfl) p l hl hF
theorem jb(p:E->Bool)(l:List E)(hl:l.length<=1000000000000)(σ:aA){F:Nat}{caps:List AV}(hF:∀x∈l,ACalls Tryz.prog F (encE x::caps) σ (λr σ'=>r= .ret (.bool (p x))/\σ'=σ)):
  C_ 194 [.slice (l.map encE) .no, .fn F [] caps] σ (.bool (l.any p)) σ:=
 bQ mixed Tryz.func194 (by kernel_rfl) (by kernel_rfl) rfl (by kernel_rfl) p l (AT p l hl σ hF)
theorem c6(v s h l n:Int)(σ:aA):ACalls Tryz.prog 72 [.agg [.int .i64 0, .int .i64 0, .int .u64 v, .int .i64 s, .int .i64 h, .int .i64 l, .int .i64 n, .slice [] .no], .agg [.int .i64 0, .int .i64 0, .int .u64 0, .int .i64 0, .int .i64 0, .int .i64 0, .int .i64 0, .slice [] .no]] σ
  (λr σ'=>r= .ret (.bool (decide (v=0/\s=0/\h=0/\l=0/\n=0)))/\σ'=σ):=by
 have h1:=lS (.mk 0 0 v s h l n []) zE σ (by simp[bK,E.l]) (by simp[bK,zE,E.l]);have e1:jF (.mk 0 0 v s h l n [])=[]:=by rw[encEs_eq];rfl
 have e2:jF zE=[]:=by rw[encEs_eq];rfl
 have e3:same (E.mk 0 0 v s h l n []) zE=decide (v=0/\s=0/\h=0/\l=0/\n=0):=by
  rw[Bool.eq_iff_iff,ee,decide_eq_true_eq];simp only[zE,E.mk.injEq,true_and,and_true]
 rw[e3] at h1;simp only[encE,eL,e1,e2] at h1;exact h1
theorem lV(g:List Sg)(hg:g.length<=1000000000000)(e:E):∀(σ:aA),nodes e<=16777216->WfE e->C_ 139 [.slice (g.map encS) .no,encE e] σ (.bool (shp g e)) σ:=by
 refine E.ind (P:=λe=>∀(σ:aA),nodes e<=16777216->WfE e->C_ 139 [.slice (g.map encS) .no,encE e] σ (.bool (shp g e)) σ) (λe ih σ he hw=>?_) e;have h1:=encEs_eq e;have l1:=len_nodes e;obtain⟨⟨w1,w2,w3,w4,w5,w6,w7⟩,w8⟩:=(WfE_iff e).1 hw;obtain⟨w2a,w2b⟩:=w2;have hs:=mE g e
 have hall:e.l.all (shp g)= !e.l.any λx=> !shp g x:=by
  rw[Bool.eq_iff_iff];simp[List.any_eq_true,List.all_eq_true]
 have hclo:∀(b:Nat) (τ:aA),τ b=some (.cells [.slice (g.map encS) .no])->∀x∈e.l,ACalls Tryz.prog 195 (encE x::[.ptr b 0]) τ (λr σ'=>r= .ret (.bool (!shp g x))/\σ'=τ):=λb τ hb x hx=>by
  have hc:=λτ=>ih x hx τ (by have:=part_nodes hx;omega) (w8 x hx);refine gO [2] Tryz.func195 (by kernel_rfl) (by conv=>lhs;reduce;dsimp only[iA]) rfl ?_;repeat' (first|simp -implicitDefEqProofs -dsimp only[go_sem,seval, *]|refine kc1 (hc _) ?_|refine fin_eq ?_)
 have hcon:=fun(b:Nat) (τ:aA) (hb:τ b=some (.cells [.slice (g.map encS) .no]))=>jb (λx=> !shp g x) e.l (by omega) τ (hclo b τ hb);rw[hall] at hs;generalize hA:(e.l.any λx=> !shp g x)=A at hs hcon;clear ih hclo hA hall hw w8;refine gO [3] Tryz.func139 (by kernel_rfl) (by conv=>lhs;reduce;dsimp only[iA]) rfl ?_;by_cases hn:i8 g e=true
 ·rw[hn,Bool.true_and] at hs;cases yB hn with
  |num ho h2 h3 h4 h5 h6 h7 h8 h9=>
   have hh:=λτ=>lU e.w e.v τ h7 w3;have hle:e.l.length=0:=by rw[h6];rfl
   have hL:=λτ=>c6 0 e.sig e.hi e.lo e.n τ;rw[h2,h3,h4,h5] at hL;clear h6 hn;rcases h9 with h9|h9
   ·repeat' (first|simp -implicitDefEqProofs -dsimp only[go_sem,seval,ge_iff_le, *]|(with_reducible refine Zt λoF hoF hnF hnF'=>?_;try simp only[aa,ne_eq,not_and] at hoF)|refine kc1 (hcon _ _ ?_) ?_|refine kc1 (ACalls.flA (hL _) ?_) ?_|refine fin_eq ?_)
   ·rw[h9] at hh;repeat' (first|simp -implicitDefEqProofs -dsimp only[go_sem,seval,ge_iff_le, *]|(with_reducible (first|apply Za|apply Zb|apply Zc|apply Zd|apply Ze|apply Zf|apply Zg|apply Zh|apply Zi|apply Zj|apply Zk|apply Zl|apply Zm|apply Zn|apply Zo|apply Zp|apply Zq|apply Zr|apply Zs)<;>intro hq)|(with_reducible refine Zt λoF hoF hnF hnF'=>?_;try simp only[aa,ne_eq,not_and] at hoF)|refine kc1 (hh _) ?_|refine kc1 (hcon _ _ ?_) ?_|refine kc1 (ACalls.flA (hL _) ?_) ?_|refine fin_eq ?_)
  |sig ho h2 h5 h6 h7=>
   have hh:=λτ=>pZ g e.sig e.hi e.lo τ hg;rw[h7] at hh;have hle:e.l.length=0:=by rw[h6];rfl
   have hL:=λτ=>c6 e.v 0 0 0 e.n τ;rw[h2,h5] at hL;clear h6 hn;repeat' (first|simp -implicitDefEqProofs -dsimp only[go_sem,seval,ge_iff_le, *]|(with_reducible refine Zt λoF hoF hnF hnF'=>?_;try simp only[aa,ne_eq,not_and] at hoF)|refine kc1 (hh _) ?_|refine kc1 (hcon _ _ ?_) ?_|refine kc1 (ACalls.flA (hL _) ?_) ?_|refine fin_eq ?_)
  |idx ho h2 h3 h4 h5 a h6 h7 h8=>
   have hle:e.l.length=1:=by rw[h6];rfl
   have hL:=λτ=>c6 e.v 0 e.hi e.lo e.n τ;rw[h2,h3,h4,h5] at hL;clear h6 hn;repeat' (first|simp -implicitDefEqProofs -dsimp only[go_sem,seval,ge_iff_le, *]|(with_reducible refine Zt λoF hoF hnF hnF'=>?_;try simp only[aa,ne_eq,not_and] at hoF)|refine kc1 (hcon _ _ ?_) ?_|refine kc1 (ACalls.flA (hL _) ?_) ?_|refine fin_eq ?_)
  |un ho h2 h3 h4 h5 a h6 h7 h8=>
   have hle:e.l.length=1:=by rw[h6];rfl
   have hL:=λτ=>c6 e.v e.sig e.hi e.lo 0 τ;rw[h2,h3,h4,h5] at hL;clear h6 hn;repeat' (first|simp -implicitDefEqProofs -dsimp only[go_sem,seval,ge_iff_le, *]|(with_reducible refine Zt λoF hoF hnF hnF'=>?_;try simp only[aa,ne_eq,not_and] at hoF)|refine kc1 (hcon _ _ ?_) ?_|refine kc1 (ACalls.flA (hL _) ?_) ?_|refine fin_eq ?_)
  |bin ho h2 h3 h4 h5 a b h6 h7 h8=>
   have hle:e.l.length=2:=by rw[h6];rfl
   have hL:=λτ=>c6 e.v e.sig e.hi e.lo 0 τ;rw[h2,h3,h4,h5] at hL;clear h6 hn;repeat' (first|simp -implicitDefEqProofs -dsimp only[go_sem,seval,ge_iff_le, *]|(with_reducible refine Zt λoF hoF hnF hnF'=>?_;try simp only[aa,ne_eq,not_and] at hoF)|refine kc1 (hcon _ _ ?_) ?_|refine kc1 (ACalls.flA (hL _) ?_) ?_|refine fin_eq ?_)
  |cond ho h2 h3 h4 h5 h7 a b c h6=>
   have hle:e.l.length=3:=by rw[h6];rfl
   have hL:=λτ=>c6 e.v e.sig e.hi e.lo e.n τ;rw[h2,h3,h4,h5,h7] at hL;clear h6 hn;repeat' (first|simp -implicitDefEqProofs -dsimp only[go_sem,seval,ge_iff_le, *]|(with_reducible refine Zt λoF hoF hnF hnF'=>?_;try simp only[aa,ne_eq,not_and] at hoF)|refine kc1 (hcon _ _ ?_) ?_|refine kc1 (ACalls.flA (hL _) ?_) ?_|refine fin_eq ?_)
  |cat ho h2 h3 h4 h5 h7 h6=>
   have hL:=λτ=>c6 e.v e.sig e.hi e.lo e.n τ;rw[h2,h3,h4,h5,h7] at hL;have hle:0<(e.l.length:Int):=by omega
   clear hn h6;repeat' (first|simp -implicitDefEqProofs -dsimp only[go_sem,seval,gt_iff_lt, *]|(with_reducible refine Zt λoF hoF hnF hnF'=>?_;try simp only[aa,ne_eq,not_and] at hoF)|refine kc1 (hcon _ _ ?_) ?_|refine kc1 (ACalls.flA (hL _) ?_) ?_|refine fin_eq ?_)
  |ext ho h2 h3 h4 h5 a h6 h7 h8 h9 h10=>
   have hle:e.l.length=1:=by rw[h6];rfl
   have hL:=λτ=>c6 e.v e.sig e.hi e.lo 0 τ;rw[h2,h3,h4,h5] at hL;clear h6 hn;repeat' (first|simp -implicitDefEqProofs -dsimp only[go_sem,seval,ge_iff_le, *]|(with_reducible refine Zt λoF hoF hnF hnF'=>?_;try simp only[aa,ne_eq,not_and] at hoF)|refine kc1 (hcon _ _ ?_) ?_|refine kc1 (ACalls.flA (hL _) ?_) ?_|refine fin_eq ?_)
 ·have hn':i8 g e=false:=by simpa using hn
  rw[hn',Bool.false_and] at hs;clear hn';by_cases ho1:e.op=1
  ·obtain⟨b,hb⟩:∃b,holds e.w e.v=b:=⟨_,rfl⟩;have hh:=λτ h=>lU e.w e.v τ h w3;rw[hb] at hh;have hnf:¬(e.sig=0/\e.hi=0/\e.lo=0/\e.n=0/\e.l.length=0/\0<=e.w/\e.w<=64/\(e.w=0\/b=true)):=λh=>hn (by unfold i8;simp only[ho1];simp[h,hb]);have hL:=λτ=>c6 0 e.sig e.hi e.lo e.n τ;clear hn hb;cases b
   all_goals
    try simp only[Bool.false_eq_true,or_false,or_true,and_true,and_false,not_false_eq_true] at hnf
    repeat' (first|simp -implicitDefEqProofs -dsimp only[go_sem,seval,ge_iff_le,gt_iff_lt, *]|(with_reducible (first|apply Za|apply Zb|apply Zc|apply Zd|apply Ze|apply Zf|apply Zg|apply Zh|apply Zi|apply Zj|apply Zk|apply Zl|apply Zm|apply Zn|apply Zo|apply Zp|apply Zq|apply Zr|apply Zs)<;>intro hq)|(with_reducible refine Zt λoF hoF hnF hnF'=>?_;try simp only[aa,ne_eq,not_and] at hoF)|refine kc1 (hh _ ?_) ?_|refine kc1 (hcon _ _ ?_) ?_|refine kc1 (ACalls.flA (hL _) ?_) ?_|omega)
    all_goals first|(exfalso;apply hnf;clear hL hcon;omega)|skip
    all_goals
     refine fin_eq ?_;(repeat' simp -implicitDefEqProofs -dsimp only[go_sem,seval, *])
  by_cases ho2:e.op=2
  ·obtain⟨b,hb⟩:∃b,place g e.sig e.hi e.lo=b:=⟨_,rfl⟩;have hh:=λτ=>pZ g e.sig e.hi e.lo τ hg;rw[hb] at hh;have hnf:¬(e.v=0/\e.n=0/\e.l.length=0/\b=true):=λh=>hn (by unfold i8;simp only[ho2];simp[h,hb]);have hL:=λτ=>c6 e.v 0 0 0 e.n τ;clear hn hb;cases b
   all_goals
    try simp only[Bool.false_eq_true,or_false,or_true,and_true,and_false,not_false_eq_true] at hnf
    repeat' (first|simp -implicitDefEqProofs -dsimp only[go_sem,seval,ge_iff_le,gt_iff_lt, *]|(with_reducible (first|apply Za|apply Zb|apply Zc|apply Zd|apply Ze|apply Zf|apply Zg|apply Zh|apply Zi|apply Zj|apply Zk|apply Zl|apply Zm|apply Zn|apply Zo|apply Zp|apply Zq|apply Zr|apply Zs)<;>intro hq)|(with_reducible refine Zt λoF hoF hnF hnF'=>?_;try simp only[aa,ne_eq,not_and] at hoF)|refine kc1 (hh _) ?_|refine kc1 (hcon _ _ ?_) ?_|refine kc1 (ACalls.flA (hL _) ?_) ?_|omega)
    all_goals first|(exfalso;apply hnf;clear hL hcon;omega)|skip
    all_goals
     refine fin_eq ?_;(repeat' simp -implicitDefEqProofs -dsimp only[go_sem,seval, *])
  by_cases ho3:e.op=3
  ·have hnf:¬(e.v=0/\e.hi=0/\e.lo=0/\e.n=0/\e.l.length=1/\0<=e.sig/\e.sig<g.length):=λh=>hn (by unfold i8;simp only[ho3];simp[h]);have hL:=λτ=>c6 e.v 0 e.hi e.lo e.n τ;clear hn;repeat' (first|simp -implicitDefEqProofs -dsimp only[go_sem,seval,ge_iff_le,gt_iff_lt, *]|(with_reducible (first|apply Za|apply Zb|apply Zc|apply Zd|apply Ze|apply Zf|apply Zg|apply Zh|apply Zi|apply Zj|apply Zk|apply Zl|apply Zm|apply Zn|apply Zo|apply Zp|apply Zq|apply Zr|apply Zs)<;>intro hq)|(with_reducible refine Zt λoF hoF hnF hnF'=>?_;try simp only[aa,ne_eq,not_and] at hoF)|refine kc1 (hcon _ _ ?_) ?_|refine kc1 (ACalls.flA (hL _) ?_) ?_|omega)
   all_goals first|(exfalso;apply hnf;clear hL hcon;omega)|skip
   all_goals
    refine fin_eq ?_;(repeat' simp -implicitDefEqProofs -dsimp only[go_sem,seval, *])
  by_cases ho4:e.op=4
  ·have hnf:¬(e.v=0/\e.sig=0/\e.hi=0/\e.lo=0/\e.l.length=1/\1<=e.n/\e.n<=6):=λh=>hn (by unfold i8;simp only[ho4];simp[h]);have hL:=λτ=>c6 e.v e.sig e.hi e.lo 0 τ;clear hn;repeat' (first|simp -implicitDefEqProofs -dsimp only[go_sem,seval,ge_iff_le,gt_iff_lt, *]|(with_reducible (first|apply Za|apply Zb|apply Zc|apply Zd|apply Ze|apply Zf|apply Zg|apply Zh|apply Zi|apply Zj|apply Zk|apply Zl|apply Zm|apply Zn|apply Zo|apply Zp|apply Zq|apply Zr|apply Zs)<;>intro hq)|(with_reducible refine Zt λoF hoF hnF hnF'=>?_;try simp only[aa,ne_eq,not_and] at hoF)|refine kc1 (hcon _ _ ?_) ?_|refine kc1 (ACalls.flA (hL _) ?_) ?_|omega)
   all_goals first|(exfalso;apply hnf;clear hL hcon;omega)|skip
   all_goals
    refine fin_eq ?_;(repeat' simp -implicitDefEqProofs -dsimp only[go_sem,seval, *])
  by_cases ho5:e.op=5
  ·have hnf:¬(e.v=0/\e.sig=0/\e.hi=0/\e.lo=0/\e.l.length=2/\11<=e.n/\e.n<=26):=λh=>hn (by unfold i8;simp only[ho5];simp[h]);have hL:=λτ=>c6 e.v e.sig e.hi e.lo 0 τ;clear hn;repeat' (first|simp -implicitDefEqProofs -dsimp only[go_sem,seval,ge_iff_le,gt_iff_lt, *]|(with_reducible (first|apply Za|apply Zb|apply Zc|apply Zd|apply Ze|apply Zf|apply Zg|apply Zh|apply Zi|apply Zj|apply Zk|apply Zl|apply Zm|apply Zn|apply Zo|apply Zp|apply Zq|apply Zr|apply Zs)<;>intro hq)|(with_reducible refine Zt λoF hoF hnF hnF'=>?_;try simp only[aa,ne_eq,not_and] at hoF)|refine kc1 (hcon _ _ ?_) ?_|refine kc1 (ACalls.flA (hL _) ?_) ?_|omega)
   all_goals first|(exfalso;apply hnf;clear hL hcon;omega)|skip
   all_goals
    refine fin_eq ?_;(repeat' simp -implicitDefEqProofs -dsimp only[go_sem,seval, *])
  by_cases ho6:e.op=6
  ·have hnf:¬(e.v=0/\e.sig=0/\e.hi=0/\e.lo=0/\e.n=0/\e.l.length=3):=λh=>hn (by unfold i8;simp only[ho6];simp[h]);have hL:=λτ=>c6 e.v e.sig e.hi e.lo e.n τ;clear hn;repeat' (first|simp -implicitDefEqProofs -dsimp only[go_sem,seval,ge_iff_le,gt_iff_lt, *]|(with_reducible (first|apply Za|apply Zb|apply Zc|apply Zd|apply Ze|apply Zf|apply Zg|apply Zh|apply Zi|apply Zj|apply Zk|apply Zl|apply Zm|apply Zn|apply Zo|apply Zp|apply Zq|apply Zr|apply Zs)<;>intro hq)|(with_reducible refine Zt λoF hoF hnF hnF'=>?_;try simp only[aa,ne_eq,not_and] at hoF)|refine kc1 (hcon _ _ ?_) ?_|refine kc1 (ACalls.flA (hL _) ?_) ?_|omega)
   all_goals first|(exfalso;apply hnf;clear hL hcon;omega)|skip
   all_goals
    refine fin_eq ?_;(repeat' simp -implicitDefEqProofs -dsimp only[go_sem,seval, *])
  by_cases ho7:e.op=7
  ·have hnf:¬(e.v=0/\e.sig=0/\e.hi=0/\e.lo=0/\e.n=0/\0<e.l.length):=λh=>hn (by unfold i8;simp only[ho7];simp[h]);have hL:=λτ=>c6 e.v e.sig e.hi e.lo e.n τ;clear hn;repeat' (first|simp -implicitDefEqProofs -dsimp only[go_sem,seval,ge_iff_le,gt_iff_lt, *]|(with_reducible (first|apply Za|apply Zb|apply Zc|apply Zd|apply Ze|apply Zf|apply Zg|apply Zh|apply Zi|apply Zj|apply Zk|apply Zl|apply Zm|apply Zn|apply Zo|apply Zp|apply Zq|apply Zr|apply Zs)<;>intro hq)|(with_reducible refine Zt λoF hoF hnF hnF'=>?_;try simp only[aa,ne_eq,not_and] at hoF)|refine kc1 (hcon _ _ ?_) ?_|refine kc1 (ACalls.flA (hL _) ?_) ?_|omega)
   all_goals first|(exfalso;apply hnf;clear hL hcon;omega)|skip
   all_goals
    refine fin_eq ?_;(repeat' simp -implicitDefEqProofs -dsimp only[go_sem,seval, *])
  by_cases ho8:e.op=8
  ·have hnf:¬(e.v=0/\e.sig=0/\e.hi=0/\e.lo=0/\e.l.length=1/\31<=e.n/\e.n<=33/\1<=e.w/\e.w<=64):=λh=>hn (by unfold i8;simp only[ho8];simp[h]);have hL:=λτ=>c6 e.v e.sig e.hi e.lo 0 τ;clear hn;repeat' (first|simp -implicitDefEqProofs -dsimp only[go_sem,seval,ge_iff_le,gt_iff_lt, *]|(with_reducible (first|apply Za|apply Zb|apply Zc|apply Zd|apply Ze|apply Zf|apply Zg|apply Zh|apply Zi|apply Zj|apply Zk|apply Zl|apply Zm|apply Zn|apply Zo|apply Zp|apply Zq|apply Zr|apply Zs)<;>intro hq)|(with_reducible refine Zt λoF hoF hnF hnF'=>?_;try simp only[aa,ne_eq,not_and] at hoF)|refine kc1 (hcon _ _ ?_) ?_|refine kc1 (ACalls.flA (hL _) ?_) ?_|omega)
   all_goals first|(exfalso;apply hnf;clear hL hcon;omega)|skip
   all_goals
    refine fin_eq ?_;(repeat' simp -implicitDefEqProofs -dsimp only[go_sem,seval, *])
  clear hn;repeat' (first|simp -implicitDefEqProofs -dsimp only[go_sem,seval, *]|(with_reducible (first|apply Za|apply Zb|apply Zc|apply Zd|apply Ze|apply Zf|apply Zg|apply Zh|apply Zi|apply Zj|apply Zk|apply Zl|apply Zm|apply Zn|apply Zo|apply Zp|apply Zq|apply Zr|apply Zs)<;>intro hq)|(with_reducible refine Zt λoF hoF hnF hnF'=>?_;try simp only[aa,ne_eq,not_and] at hoF)|omega)
  all_goals first|(exfalso;omega)|skip
  all_goals
   refine fin_eq ?_;(repeat' simp -implicitDefEqProofs -dsimp only[go_sem,seval, *])
end Go.Proofs.YtbbihmmobfmadaaGreat.S
namespace Go.Proofs.YtbbihmmobfmadaaGreat.S
open Abs Fil Fil.Sz
def bF(e:E):Bool:=
 if e.op=1\/e.op=2 then decide (e.l.length=0) else if e.op=3\/e.op=4\/e.op=8 then decide (e.l.length=1)
 else if e.op=5 then decide (e.l.length=2) else if e.op=6 then decide (e.l.length=3) else if e.op=7 then decide (1<=e.l.length) else false
theorem D6(e:E)(σ:aA)(he:nodes e<=16777216):C_ 206 [encE e] σ (.bool (bF e)) σ:=by
 have h1:=encEs_eq e;have l1:=len_nodes e;refine gO [1] Tryz.func206 (by kernel_rfl) (by conv=>lhs;reduce;dsimp only[iA]) rfl ?_;repeat' (first|simp -implicitDefEqProofs -dsimp only[go_sem,seval,ge_iff_le, *]|(with_reducible (first|apply Za|apply Zb|apply Zc|apply Zd|apply Ze|apply Zf|apply Zg|apply Zh|apply Zi|apply Zj|apply Zk|apply Zl|apply Zm|apply Zn|apply Zo|apply Zp|apply Zq|apply Zr|apply Zs)<;>intro hq)|refine fin_eq ?_)
 all_goals
  unfold bF;(repeat' split)<;>first|(exfalso;omega)|(rw[Bool.eq_iff_iff];done)|(rw[Bool.eq_iff_iff];simp;done)|(rw[Bool.eq_iff_iff];simp;omega)
def eg(g:List Sg)(e:E):Bool:=
 if e.op=1 then decide (e.sig=0/\e.hi=0/\e.lo=0/\e.n=0/\0<=e.w/\e.w<=64)&&(decide (e.w=0)||holds e.w e.v)
 else if e.op=2 then decide (e.v=0/\e.n=0)&&place g e.sig e.hi e.lo
 else if e.op=3 then decide (e.v=0/\e.hi=0/\e.lo=0/\e.n=0/\0<=e.sig/\e.sig<g.length)
 else if e.op=4 then decide (e.v=0/\e.sig=0/\e.hi=0/\e.lo=0/\1<=e.n/\e.n<=6)
 else if e.op=5 then decide (e.v=0/\e.sig=0/\e.hi=0/\e.lo=0/\11<=e.n/\e.n<=26)
 else if e.op=6 then decide (e.v=0/\e.sig=0/\e.hi=0/\e.lo=0/\e.n=0)
 else if e.op=7 then decide (e.v=0/\e.sig=0/\e.hi=0/\e.lo=0/\e.n=0)
 else if e.op=8 then decide (e.v=0/\e.sig=0/\e.hi=0/\e.lo=0/\31<=e.n/\e.n<=33/\1<=e.w/\e.w<=64)
 else false
theorem xy(g:List Sg)(e:E):i8 g e=(bF e&&eg g e):=by
 unfold i8 bF eg;by_cases h1:e.op=1
 ·simp only[h1];simp;rw[Bool.eq_iff_iff];simp;grind
 by_cases h2:e.op=2
 ·simp only[h2];simp;rw[Bool.eq_iff_iff];simp;grind
 by_cases h3:e.op=3
 ·simp only[h3];simp;rw[Bool.eq_iff_iff];simp;grind
 by_cases h4:e.op=4
 ·simp only[h4];simp;rw[Bool.eq_iff_iff];simp;grind
 by_cases h5:e.op=5
 ·simp only[h5];simp;rw[Bool.eq_iff_iff];simp;grind
 by_cases h6:e.op=6
 ·simp only[h6];simp;rw[Bool.eq_iff_iff];simp;grind
 by_cases h7:e.op=7
 ·simp only[h7];simp;rw[Bool.eq_iff_iff];simp;grind
 by_cases h8:e.op=8
 ·simp only[h8];simp;rw[Bool.eq_iff_iff];simp;grind
 simp[h1,h2,h3,h4,h5,h6,h7,h8]
theorem AU(g:List Sg)(hg:g.length<=1000000000000)(e:E)(σ:aA)(hw:WfE e)(hop:1<=e.op/\e.op<=8):C_ 207 [.slice (g.map encS) .no,encE e] σ (.bool (eg g e)) σ:=by
 obtain⟨⟨w1,w2,w3,w4,w5,w6,w7⟩,w8⟩:=(WfE_iff e).1 hw;obtain⟨w2a,w2b⟩:=w2;obtain⟨x,hx⟩:∃x,eg g e=x:=⟨_,rfl⟩;clear hw w8;refine gO [3] Tryz.func207 (by kernel_rfl) (by conv=>lhs;reduce;dsimp only[iA]) rfl ?_;by_cases ho1:e.op=1
 ·obtain⟨b,hb⟩:∃b,holds e.w e.v=b:=⟨_,rfl⟩;have hh:=λτ h=>pY e.w e.v τ h w2b w3;rw[hb] at hh;have hnf:eg g e=true↔(e.sig=0/\e.hi=0/\e.lo=0/\e.n=0/\0<=e.w/\e.w<=64/\(e.w=0\/b=true)):=by unfold eg;simp only[ho1];simp[hb];try grind
  rw[hx] at hnf;clear hb;cases b
  all_goals
   try simp only[Bool.false_eq_true,or_false,or_true,and_true,and_false,iff_false,Bool.not_eq_true] at hnf
   cases x
   all_goals
    try simp only[Bool.false_eq_true,true_iff,false_iff] at hnf
    repeat' (first|simp -implicitDefEqProofs -dsimp only[go_sem,seval,ge_iff_le, *]|simp(disch:=omega) only[ah,aj,ao,aw,ar,ag,au,aq]|(with_reducible (first|apply Za|apply Zb|apply Zc|apply Zd|apply Ze|apply Zf|apply Zg|apply Zh|apply Zi|apply Zj|apply Zk|apply Zl|apply Zm|apply Zn|apply Zo|apply Zp|apply Zq|apply Zr|apply Zs)<;>intro hq)|with_reducible refine kc1 (hh _ ?_) ?_|omega)
    all_goals first|(exfalso;omega)|(exfalso;cases hnf;done)|skip
    all_goals
     refine fin_eq ?_;(repeat' simp -implicitDefEqProofs -dsimp only[go_sem,seval, *])
    all_goals first|(rw[eq_comm,decide_eq_true_iff];omega)|(rw[eq_comm,decide_eq_false_iff_not];omega)
 by_cases ho2:e.op=2
 ·obtain⟨b,hb⟩:∃b,place g e.sig e.hi e.lo=b:=⟨_,rfl⟩;have hh:=λτ=>uV g e.sig e.hi e.lo τ hg;rw[hb] at hh;have hnf:eg g e=true↔(e.v=0/\e.n=0/\b=true):=by unfold eg;simp only[ho2];simp[hb];try grind
  rw[hx] at hnf;clear hb;cases b
  all_goals
   try simp only[Bool.false_eq_true,or_false,or_true,and_true,and_false,iff_false,Bool.not_eq_true] at hnf
   cases x
   all_goals
    try simp only[Bool.false_eq_true,true_iff,false_iff] at hnf
    repeat' (first|simp -implicitDefEqProofs -dsimp only[go_sem,seval,ge_iff_le, *]|simp(disch:=omega) only[ah,aj,ao,aw,ar,ag,au,aq]|(with_reducible (first|apply Za|apply Zb|apply Zc|apply Zd|apply Ze|apply Zf|apply Zg|apply Zh|apply Zi|apply Zj|apply Zk|apply Zl|apply Zm|apply Zn|apply Zo|apply Zp|apply Zq|apply Zr|apply Zs)<;>intro hq)|with_reducible refine kc1 (hh _) ?_|omega)
    all_goals first|(exfalso;omega)|(exfalso;cases hnf;done)|skip
    all_goals
     refine fin_eq ?_;(repeat' simp -implicitDefEqProofs -dsimp only[go_sem,seval, *])
    all_goals first|(rw[eq_comm,decide_eq_true_iff];omega)|(rw[eq_comm,decide_eq_false_iff_not];omega)
 by_cases ho3:e.op=3
 ·have hnf:eg g e=true↔(e.v=0/\e.hi=0/\e.lo=0/\e.n=0/\0<=e.sig/\e.sig<g.length):=by unfold eg;simp only[ho3];simp;try grind
  rw[hx] at hnf;cases x
  all_goals
   try simp only[Bool.false_eq_true,true_iff,false_iff] at hnf
   repeat' (first|simp -implicitDefEqProofs -dsimp only[go_sem,seval,ge_iff_le, *]|simp(disch:=omega) only[ah,aj,ao,aw,ar,ag,au,aq]|(with_reducible (first|apply Za|apply Zb|apply Zc|apply Zd|apply Ze|apply Zf|apply Zg|apply Zh|apply Zi|apply Zj|apply Zk|apply Zl|apply Zm|apply Zn|apply Zo|apply Zp|apply Zq|apply Zr|apply Zs)<;>intro hq))
   all_goals first|(exfalso;omega)|(exfalso;cases hnf;done)|skip
   all_goals
    refine fin_eq ?_;(repeat' simp -implicitDefEqProofs -dsimp only[go_sem,seval, *])
   all_goals first|(rw[eq_comm,decide_eq_true_iff];omega)|(rw[eq_comm,decide_eq_false_iff_not];omega)
 by_cases ho4:e.op=4
 ·have hnf:eg g e=true↔(e.v=0/\e.sig=0/\e.hi=0/\e.lo=0/\1<=e.n/\e.n<=6):=by unfold eg;simp only[ho4];simp;try grind
  rw[hx] at hnf;cases x
  all_goals
   try simp only[Bool.false_eq_true,true_iff,false_iff] at hnf
   repeat' (first|simp -implicitDefEqProofs -dsimp only[go_sem,seval,ge_iff_le, *]|simp(disch:=omega) only[ah,aj,ao,aw,ar,ag,au,aq]|(with_reducible (first|apply Za|apply Zb|apply Zc|apply Zd|apply Ze|apply Zf|apply Zg|apply Zh|apply Zi|apply Zj|apply Zk|apply Zl|apply Zm|apply Zn|apply Zo|apply Zp|apply Zq|apply Zr|apply Zs)<;>intro hq))
   all_goals first|(exfalso;omega)|(exfalso;cases hnf;done)|skip
   all_goals
    refine fin_eq ?_;(repeat' simp -implicitDefEqProofs -dsimp only[go_sem,seval, *])
   all_goals first|(rw[eq_comm,decide_eq_true_iff];omega)|(rw[eq_comm,decide_eq_false_iff_not];omega)
 by_cases ho5:e.op=5
 ·have hnf:eg g e=true↔(e.v=0/\e.sig=0/\e.hi=0/\e.lo=0/\11<=e.n/\e.n<=26):=by unfold eg;simp only[ho5];simp;try grind
  rw[hx] at hnf;cases x
  all_goals
   try simp only[Bool.false_eq_true,true_iff,false_iff] at hnf
   repeat' (first|simp -implicitDefEqProofs -dsimp only[go_sem,seval,ge_iff_le, *]|simp(disch:=omega) only[ah,aj,ao,aw,ar,ag,au,aq]|(with_reducible (first|apply Za|apply Zb|apply Zc|apply Zd|apply Ze|apply Zf|apply Zg|apply Zh|apply Zi|apply Zj|apply Zk|apply Zl|apply Zm|apply Zn|apply Zo|apply Zp|apply Zq|apply Zr|apply Zs)<;>intro hq))
   all_goals first|(exfalso;omega)|(exfalso;cases hnf;done)|skip
   all_goals
    refine fin_eq ?_;(repeat' simp -implicitDefEqProofs -dsimp only[go_sem,seval, *])
   all_goals first|(rw[eq_comm,decide_eq_true_iff];omega)|(rw[eq_comm,decide_eq_false_iff_not];omega)
 by_cases ho6:e.op=6
 ·have hnf:eg g e=true↔(e.v=0/\e.sig=0/\e.hi=0/\e.lo=0/\e.n=0):=by unfold eg;simp only[ho6];simp;try grind
  rw[hx] at hnf;cases x
  all_goals
   try simp only[Bool.false_eq_true,true_iff,false_iff] at hnf
   repeat' (first|simp -implicitDefEqProofs -dsimp only[go_sem,seval,ge_iff_le, *]|simp(disch:=omega) only[ah,aj,ao,aw,ar,ag,au,aq]|(with_reducible (first|apply Za|apply Zb|apply Zc|apply Zd|apply Ze|apply Zf|apply Zg|apply Zh|apply Zi|apply Zj|apply Zk|apply Zl|apply Zm|apply Zn|apply Zo|apply Zp|apply Zq|apply Zr|apply Zs)<;>intro hq)|omega)
   all_goals first|(exfalso;omega)|(exfalso;cases hnf;done)|skip
   all_goals
    refine fin_eq ?_;(repeat' simp -implicitDefEqProofs -dsimp only[go_sem,seval, *])
   all_goals first|(rw[eq_comm,decide_eq_true_iff];omega)|(rw[eq_comm,decide_eq_false_iff_not];omega)
 by_cases ho7:e.op=7
 ·have hnf:eg g e=true↔(e.v=0/\e.sig=0/\e.hi=0/\e.lo=0/\e.n=0):=by unfold eg;simp only[ho7];simp;try grind
  rw[hx] at hnf;cases x
  all_goals
   try simp only[Bool.false_eq_true,true_iff,false_iff] at hnf
   repeat' (first|simp -implicitDefEqProofs -dsimp only[go_sem,seval,ge_iff_le, *]|simp(disch:=omega) only[ah,aj,ao,aw,ar,ag,au,aq]|(with_reducible (first|apply Za|apply Zb|apply Zc|apply Zd|apply Ze|apply Zf|apply Zg|apply Zh|apply Zi|apply Zj|apply Zk|apply Zl|apply Zm|apply Zn|apply Zo|apply Zp|apply Zq|apply Zr|apply Zs)<;>intro hq)|omega)
   all_goals first|(exfalso;omega)|(exfalso;cases hnf;done)|skip
   all_goals
    refine fin_eq ?_;(repeat' simp -implicitDefEqProofs -dsimp only[go_sem,seval, *])
   all_goals first|(rw[eq_comm,decide_eq_true_iff];omega)|(rw[eq_comm,decide_eq_false_iff_not];omega)
 by_cases ho8:e.op=8
 ·have hnf:eg g e=true↔(e.v=0/\e.sig=0/\e.hi=0/\e.lo=0/\31<=e.n/\e.n<=33/\1<=e.w/\e.w<=64):=by unfold eg;simp only[ho8];simp;try grind
  rw[hx] at hnf;cases x
  all_goals
   try simp only[Bool.false_eq_true,true_iff,false_iff] at hnf
   repeat' (first|simp -implicitDefEqProofs -dsimp only[go_sem,seval,ge_iff_le, *]|simp(disch:=omega) only[ah,aj,ao,aw,ar,ag,au,aq]|(with_reducible (first|apply Za|apply Zb|apply Zc|apply Zd|apply Ze|apply Zf|apply Zg|apply Zh|apply Zi|apply Zj|apply Zk|apply Zl|apply Zm|apply Zn|apply Zo|apply Zp|apply Zq|apply Zr|apply Zs)<;>intro hq))
   all_goals first|(exfalso;omega)|(exfalso;cases hnf;done)|skip
   all_goals
    refine fin_eq ?_;(repeat' simp -implicitDefEqProofs -dsimp only[go_sem,seval, *])
   all_goals first|(rw[eq_comm,decide_eq_true_iff];omega)|(rw[eq_comm,decide_eq_false_iff_not];omega)
 exfalso;omega
theorem D7{e:E}(h:bF e=true):1<=e.op/\e.op<=8:=by
 unfold bF at h;repeat' split at h
 all_goals first|omega|(simp at h)
theorem jN(g:List Sg)(l:List E)(hl:l.length<=1000000000000)(ih:∀x∈l,∀τ,C_ 154 [.slice (g.map encS) .no,encE x] τ (.bool (shp g x)) τ)(σ:aA):
  C_ 208 [.slice (g.map encS) .no, .slice (l.map encE) .no] σ (.bool (l.all (shp g))) σ:=by
 refine gO [] Tryz.func208 (by kernel_rfl) (by conv=>lhs;reduce;dsimp only[iA]) rfl ?_;repeat' simp -implicitDefEqProofs -dsimp only[go_sem,seval, *]
 refine loop_rule (λi:Nat=>[(5,some (.int .i64 i)),(1,some (.slice (l.map encE) .no)),(0,some (.slice (g.map encS) .no))]) (λ_=>σ) (λi=>i<=l.length/\∀j,(h:j<l.length)->j<i->shp g l[j]=true) (λi=>l.length-i) 0 ?_ ?_
 ·clear ih;(repeat' (first|simp -implicitDefEqProofs -dsimp only[go_sem,seval, *]|with_reducible refine And.intro ?_ ?_|omega))
 ·rintro i ⟨hi,hok⟩;by_cases hlt:i<l.length
  ·have hc:=λτ=>ih l[i] (List.getElem_mem hlt) τ;generalize hb:shp g l[i]=b at hc;cases b with
   |false=>
    have hv:l.all (shp g)=false:=by rw[List.all_eq_false];exact⟨_,List.getElem_mem hlt,by rw[hb];simp⟩
    clear ih hok hb;repeat' (first|simp -implicitDefEqProofs -dsimp only[go_sem,seval, *]|with_reducible refine Zu ?_ ?_|with_reducible refine kc1 (hc _) ?_|refine fin_eq ?_)
   |true=>
    have hn:∀j,(h:j<l.length)->j<i+1->shp g l[j]=true:=λj h h1=>by
     rcases Nat.lt_or_ge j i with q|q
     ·exact hok j h q
     ·obtain rfl:j=i:=by omega
      exact hb
    clear ih hok hb;repeat' (first|simp -implicitDefEqProofs -dsimp only[go_sem,seval, *]|simp(disch:=omega) only[ah,aj,ao,aw,ar,ag,au,aq]|with_reducible refine Zu ?_ ?_|with_reducible refine kc1 (hc _) ?_|with_reducible refine lnx (i+1) ?_|with_reducible refine And.intro ?_ ?_|omega)
  ·have hv:l.all (shp g)=true:=by
    rw[List.all_eq_true];intro x hx;obtain⟨j,hj,rfl⟩:=List.getElem_of_mem hx;exact hok j hj (by omega)
   clear ih hok;repeat' (first|simp -implicitDefEqProofs -dsimp only[go_sem,seval, *]|refine fin_eq ?_)
theorem qc(g:List Sg)(hg:g.length<=1000000000000)(e:E):∀(σ:aA),nodes e<=16777216->WfE e->C_ 154 [.slice (g.map encS) .no,encE e] σ (.bool (shp g e)) σ:=by
 refine E.ind (P:=λe=>∀(σ:aA),nodes e<=16777216->WfE e->C_ 154 [.slice (g.map encS) .no,encE e] σ (.bool (shp g e)) σ) (λe ih σ he hw=>?_) e;have h1:=encEs_eq e;have l1:=len_nodes e;have w8:=((WfE_iff e).1 hw).2;have hs:=mE g e;rw[xy] at hs;have c1:=λτ=>D6 e τ he;have c2:=λτ h=>AU g hg e τ hw h;have c3:=λτ=>jN g e.l (by omega) (λx hx τ=>ih x hx τ (by have:=part_nodes hx;omega) (w8 x hx)) τ;have hop:=D7 (e:=e);obtain⟨a,ha⟩:∃a,bF e=a:=⟨_,rfl⟩;obtain⟨b,hb⟩:∃a,eg g e=a:=⟨_,rfl⟩;rw[ha] at c1 hs hop;rw[hb] at c2 hs;clear ih w8 hw ha hb;refine gO [3] Tryz.func154 (by kernel_rfl) (by conv=>lhs;reduce;dsimp only[iA]) rfl ?_;cases a with
 |false=>
  rw[Bool.false_and,Bool.false_and] at hs;repeat' (first|simp -implicitDefEqProofs -dsimp only[go_sem,seval, *]|with_reducible refine kc1 (ACalls.flA (c1 _) ?_) ?_|refine fin_eq ?_)
 |true=>
  have hop:=hop rfl;replace c2:=λτ=>c2 τ hop;rw[Bool.true_and] at hs;cases b
  ·rw[Bool.false_and] at hs;repeat' (first|simp -implicitDefEqProofs -dsimp only[go_sem,seval, *]|with_reducible refine kc1 (ACalls.flA (c1 _) ?_) ?_|with_reducible refine kc1 (ACalls.flA (c2 _) ?_) ?_|refine fin_eq ?_)
  ·rw[Bool.true_and] at hs;repeat' (first|simp -implicitDefEqProofs -dsimp only[go_sem,seval, *]|with_reducible refine kc1 (c3 _) ?_|with_reducible refine kc1 (ACalls.flA (c1 _) ?_) ?_|with_reducible refine kc1 (ACalls.flA (c2 _) ?_) ?_|refine fin_eq ?_)
theorem rW(g:List Sg)(hg:g.length<=1000000000000)(l:List E)(hn:(l.map nodes).sum<=16777216)(hw:∀x∈l,WfE x)(σ:aA):
  C_ 208 [.slice (g.map encS) .no, .slice (l.map encE) .no] σ (.bool (l.all (shp g))) σ:=
 jN g l (by have:=cq nodes_pos l;omega) (λx hx τ=>qc g hg x τ (by have:=bu (f:=nodes) hx;omega) (hw x hx)) σ
end Go.Proofs.YtbbihmmobfmadaaGreat.S
namespace Go.Proofs.YtbbihmmobfmadaaGreat.S
open Abs Fil Fil.Sz
theorem tj(w o:Int)(σ:aA):C_ 198 [.int .i64 w, .int .i64 o] σ (.int .i64 (cw w o)) σ:=by
 refine gO [] Tryz.func198 (by kernel_rfl) (by conv=>lhs;reduce;dsimp only[iA]) rfl ?_;repeat' (first|simp -implicitDefEqProofs -dsimp only[go_sem,seval, *]|(with_reducible (first|apply Za|apply Zb|apply Zc|apply Zd|apply Ze|apply Zf|apply Zg|apply Zh|apply Zi|apply Zj|apply Zk|apply Zl|apply Zm|apply Zn|apply Zo|apply Zp|apply Zq|apply Zr|apply Zs)<;>intro hq))
 all_goals
  have hv:cw w o=if w=0 then o else w:=rfl
  refine fin_eq ?_;(repeat' (first|simp -implicitDefEqProofs -dsimp only[go_sem,seval,if_true,if_false, *]|rfl))
theorem ir(l:List E)(hl:l.length<=1000000000000)(ih:∀x∈l,∀τ,C_ 197 [encE x] τ (.int .i64 (own x)) τ)(σ:aA):
  C_ 229 [.slice (l.map encE) .no] σ (.int .i64 (cF (l.map own))) σ:=by
 refine gO [] Tryz.func229 (by kernel_rfl) (by conv=>lhs;reduce;dsimp only[iA]) rfl ?_;repeat' simp -implicitDefEqProofs -dsimp only[go_sem,seval, *]
 refine loop_rule (λi:Nat=>[(8,some (.int .i64 i)),(7,some (.int .i64 l.length)),(6,some (.slice (l.map encE) .no))]) (λ_=>σ) (λi=>i<=l.length/\∀j,(h:j<l.length)->j<i->own l[j]=0) (λi=>l.length-i) 0 ?_ ?_
 ·clear ih;(repeat' (first|simp -implicitDefEqProofs -dsimp only[go_sem,seval, *]|with_reducible refine And.intro ?_ ?_|omega))
 ·rintro i ⟨hi,hok⟩;by_cases hlt:i<l.length
  ·have hc:=λτ=>ih l[i] (List.getElem_mem hlt) τ;generalize hw:own l[i]=w at hc;by_cases hz:w=0
   ·have hn:∀j,(h:j<l.length)->j<i+1->own l[j]=0:=λj h h1=>by
     rcases Nat.lt_or_ge j i with q|q
     ·exact hok j h q
     ·obtain rfl:j=i:=by omega
      rw[hw,hz]
    subst hz;clear ih hok hw;repeat' (first|simp -implicitDefEqProofs -dsimp only[go_sem,seval, *]|simp(disch:=omega) only[ah,aj,ao,aw,ar,ag,au,aq]|with_reducible refine Zu ?_ ?_|(with_reducible refine Zt λoF hoF hnF hnF'=>?_;try simp only[aa,ne_eq,not_and] at hoF)|refine kc1 (hc _) ?_|with_reducible refine lnx (i+1) ?_|with_reducible refine And.intro ?_ ?_|omega)
   ·have hv:=yF (f:=own) hlt (λj hj=>hok j (by omega) hj) (by rw[hw];exact hz);rw[hw] at hv;have hb:(w != 0)=true:=by simpa using hz
    clear ih hok hw;repeat' (first|simp -implicitDefEqProofs -dsimp only[go_sem,seval, *]|with_reducible refine Zu ?_ ?_|(with_reducible refine Zt λoF hoF hnF hnF'=>?_;try simp only[aa,ne_eq,not_and] at hoF)|refine kc1 (hc _) ?_|refine fin_eq ?_)
  ·have hv:=AH (f:=own) λj hj=>hok j hj (by omega);clear ih hok;repeat' (first|simp -implicitDefEqProofs -dsimp only[go_sem,seval, *]|refine fin_eq ?_)
theorem xz(g:List Sg)(hg:dg g)(e:E):∀(σ:aA),shp g e=true->nodes e<=16777216->C_ 197 [encE e] σ (.int .i64 (own e)) σ:=by
 refine E.ind (P:=λe=>∀(σ:aA),shp g e=true->nodes e<=16777216->C_ 197 [encE e] σ (.int .i64 (own e)) σ) (λe ih σ hs he=>?_) e;have h1:=encEs_eq e;have l1:=len_nodes e;have hE:=fun(x:E) (hx:x∈e.l) τ=>ih x hx τ (aY hs hx) (by have:=part_nodes hx;omega);have hfst:=λτ=>ir e.l (by omega) hE τ;have hfst1:=λτ=>ir (e.l.drop 1) (by rw[List.length_drop];omega) (λx hx τ=>hE x (List.mem_of_mem_drop hx) τ) τ;clear ih;have hnd:=d8 hs;cases hnd with
 |num ho=>
  have hv:=qD ho;clear hE hfst hfst1;refine gO [1] Tryz.func197 (by kernel_rfl) (by conv=>lhs;reduce;dsimp only[iA]) rfl ?_;repeat' (first|simp -implicitDefEqProofs -dsimp only[go_sem,seval, *]|refine fin_eq ?_)
 |ext ho=>
  have hv:=xo ho;clear hE hfst hfst1;refine gO [1] Tryz.func197 (by kernel_rfl) (by conv=>lhs;reduce;dsimp only[iA]) rfl ?_;repeat' (first|simp -implicitDefEqProofs -dsimp only[go_sem,seval, *]|refine fin_eq ?_)
 |sig ho h2 h3 h4 h5=>
  have hv:=uC ho;obtain⟨p1,p2,p3⟩:=dU hg h5;clear hE hfst hfst1;refine gO [1] Tryz.func197 (by kernel_rfl) (by conv=>lhs;reduce;dsimp only[iA]) rfl ?_;repeat' (first|simp -implicitDefEqProofs -dsimp only[go_sem,seval, *]|simp(disch:=omega) only[ah,aj,ao,aw,ar,ag,au,aq]|refine fin_eq ?_)
 |idx ho=>
  have hv:=uD ho;clear hE hfst hfst1;refine gO [1] Tryz.func197 (by kernel_rfl) (by conv=>lhs;reduce;dsimp only[iA]) rfl ?_;repeat' (first|simp -implicitDefEqProofs -dsimp only[go_sem,seval, *]|refine fin_eq ?_)
 |un ho h2 h3 h4 h5 a h6 h7 h8=>
  have hv:=AD ho;have hle:0<e.l.length:=by rw[h6];simp
  have hle2:(0:Int)<e.l.length:=by omega
  rw[ka hle] at hv;have hc:=λτ=>hE e.l[0] (List.getElem_mem hle) τ;clear hE hfst hfst1 h6;refine gO [1] Tryz.func197 (by kernel_rfl) (by conv=>lhs;reduce;dsimp only[iA]) rfl ?_;repeat' (first|simp -implicitDefEqProofs -dsimp only[go_sem,seval, *]|(with_reducible (first|apply Za|apply Zb|apply Zc|apply Zd|apply Ze|apply Zf|apply Zg|apply Zh|apply Zi|apply Zj|apply Zk|apply Zl|apply Zm|apply Zn|apply Zo|apply Zp|apply Zq|apply Zr|apply Zs)<;>intro hq)|with_reducible refine Zu ?_ ?_|refine kc1 (hc _) ?_|(refine fin_eq ?_;repeat' simp -implicitDefEqProofs -dsimp only[go_sem,seval,if_true,if_false, *]))
 |bin ho h2 h3 h4 h5 a b h6 h7 h8=>
  have hv:=AE ho;have hle:0<e.l.length:=by rw[h6];simp
  have hle2:(0:Int)<e.l.length:=by omega
  rw[ka hle] at hv;have hc:=λτ=>hE e.l[0] (List.getElem_mem hle) τ;clear hE hfst1 h6;refine gO [1] Tryz.func197 (by kernel_rfl) (by conv=>lhs;reduce;dsimp only[iA]) rfl ?_;repeat' (first|simp -implicitDefEqProofs -dsimp only[go_sem,seval, *]|(with_reducible (first|apply Za|apply Zb|apply Zc|apply Zd|apply Ze|apply Zf|apply Zg|apply Zh|apply Zi|apply Zj|apply Zk|apply Zl|apply Zm|apply Zn|apply Zo|apply Zp|apply Zq|apply Zr|apply Zs)<;>intro hq)|with_reducible refine Zu ?_ ?_|refine kc1 (hc _) ?_|refine kc1 (hfst _) ?_|(refine fin_eq ?_;repeat' simp -implicitDefEqProofs -dsimp only[go_sem,seval,if_true,if_false, *]))
 |cond ho h2 h3 h4 h5 h7 a b c h6=>
  have hv:=AC ho;rw[<-List.map_drop] at hv;have hle:e.l.length=3:=by rw[h6];rfl
  have hdm:List.drop 1 (List.take 3 (e.l.map encE))=(e.l.drop 1).map encE:=by rw[h6];rfl
  clear hE hfst h6;refine gO [1] Tryz.func197 (by kernel_rfl) (by conv=>lhs;reduce;dsimp only[iA]) rfl ?_;repeat' (first|simp -implicitDefEqProofs -dsimp only[go_sem,seval, *]|refine kc1 (hfst1 _) ?_|refine fin_eq ?_)
 |cat ho h2 h3 h4 h5 h7 h6=>
  have hv:=s6 ho;have hon:=fun(x:E) (hx:x∈e.l)=>bI hg x (aY hs hx);have hol:=fun(x:E) (hx:x∈e.l)=>Dq hg x (aY hs hx);have hsb:=nq hon hol;have hns:=bK e;have hz:=fun(x:E) (hx:x∈e.l) (h:own x=0)=>rP (f:=own) hx h;clear hfst hfst1 hon hol;refine gO [1] Tryz.func197 (by kernel_rfl) (by conv=>lhs;reduce;dsimp only[iA]) rfl ?_;repeat' simp -implicitDefEqProofs -dsimp only[go_sem,seval, *]
  refine loop_rule (λi:Nat=>[(27,some (.int .i64 i)),(26,some (.int .i64 e.l.length)),(25,some (.slice (e.l.map encE) .no)),(3,some (.int .i64 (nE own e.l i)))]) (λ_=>σ) (λi=>i<=e.l.length/\∀j,(h:j<e.l.length)->j<i->¬own e.l[j]=0) (λi=>e.l.length-i) 0 ?_ ?_
  ·clear hE hsb hz;have e0:=rN (f:=own) (l:=e.l);(repeat' (first|simp -implicitDefEqProofs -dsimp only[go_sem,seval, *]|with_reducible refine And.intro ?_ ?_|omega))
  ·rintro i ⟨hi,hok⟩;obtain⟨s1,s2⟩:=hsb i;by_cases hlt:i<e.l.length
   ·have hc:=λτ=>hE e.l[i] (List.getElem_mem hlt) τ;have hss:=rO (f:=own) hlt;obtain⟨t1,t2⟩:=hsb (i+1);by_cases hw:own e.l[i]=0
    ·rw[hz _ (List.getElem_mem hlt) hw] at hv;rw[hw] at hc;clear hE hok hsb hz hw hss;repeat' (first|simp -implicitDefEqProofs -dsimp only[go_sem,seval, *]|with_reducible refine Zu ?_ ?_|(with_reducible refine Zt λoF hoF hnF hnF'=>?_;try simp only[aa,ne_eq,not_and] at hoF)|refine kc1 (hc _) ?_|refine fin_eq ?_)
    ·have hn:∀j,(h:j<e.l.length)->j<i+1->¬own e.l[j]=0:=λj h h1=>by
      rcases Nat.lt_or_ge j i with q|q
      ·exact hok j h q
      ·obtain rfl:j=i:=by omega
       exact hw
     have hwb:(own e.l[i]==0)=false:=by simpa using hw
     clear hE hok hsb hz;repeat' (first|simp -implicitDefEqProofs -dsimp only[go_sem,seval, *]|simp(disch:=omega) only[ah,aj,ao,aw,ar,ag,au,aq]|with_reducible refine Zu ?_ ?_|(with_reducible refine Zt λoF hoF hnF hnF'=>?_;try simp only[aa,ne_eq,not_and] at hoF)|refine kc1 (hc _) ?_|with_reducible refine lnx (i+1) ?_|with_reducible refine And.intro ?_ ?_|omega)
   ·have ei:i=e.l.length:=by omega
    subst ei;rw[uI λj hj=>hok j hj hj] at hv;rw[uH];clear hE hok hsb hz;repeat' (first|simp -implicitDefEqProofs -dsimp only[go_sem,seval, *]|refine fin_eq ?_)
theorem D8(g:List Sg)(hg:dg g)(l:List E)(hs:∀x∈l,shp g x=true)(hn:(l.map nodes).sum<=16777216)(σ:aA):
  C_ 229 [.slice (l.map encE) .no] σ (.int .i64 (cF (l.map own))) σ:=
 ir l (by have:=cq nodes_pos l;omega) (λx hx τ=>xz g hg x τ (hs x hx) (by have:=bu (f:=nodes) hx;omega)) σ
def fe(a b:E):Int:=if own a=0 then own b else own a
theorem gR(a b:E)(σ:aA)(ha:∀τ,C_ 205 [encE a] τ (.int .i64 (own a)) τ)(hb:∀τ,C_ 205 [encE b] τ (.int .i64 (own b)) τ):
  C_ 238 [encE a,encE b] σ (.int .i64 (fe a b)) σ:=by
 have hv:fe a b=if own a=0 then own b else own a:=rfl
 refine gO [2,3] Tryz.func238 (by kernel_rfl) (by conv=>lhs;reduce;dsimp only[iA]) rfl ?_;repeat' (first|simp -implicitDefEqProofs -dsimp only[go_sem,seval, *]|(with_reducible (first|apply Za|apply Zb|apply Zc|apply Zd|apply Ze|apply Zf|apply Zg|apply Zh|apply Zi|apply Zj|apply Zk|apply Zl|apply Zm|apply Zn|apply Zo|apply Zp|apply Zq|apply Zr|apply Zs)<;>intro hq)|refine kc1 (ha _) ?_|refine kc1 (hb _) ?_|(refine fin_eq ?_;repeat' simp -implicitDefEqProofs -dsimp only[go_sem,seval,if_true,if_false, *]))
theorem qd{l:List E}(h:l.length=2):cF (l.map own)=fe l[0] l[1]:=Dx h
theorem qf(g:List Sg)(hg:dg g)(e:E):∀(σ:aA),shp g e=true->nodes e<=16777216->C_ 205 [encE e] σ (.int .i64 (own e)) σ:=by
 refine E.ind (P:=λe=>∀(σ:aA),shp g e=true->nodes e<=16777216->C_ 205 [encE e] σ (.int .i64 (own e)) σ) (λe ih σ hs he=>?_) e;have h1:=encEs_eq e;have l1:=len_nodes e;have hE:=fun(x:E) (hx:x∈e.l) τ=>ih x hx τ (aY hs hx) (by have:=part_nodes hx;omega);clear ih;have hnd:=d8 hs;cases hnd with
 |num ho=>
  have hv:=qD ho;clear hE;refine gO [1] Tryz.func205 (by kernel_rfl) (by conv=>lhs;reduce;dsimp only[iA]) rfl ?_;repeat' (first|simp -implicitDefEqProofs -dsimp only[go_sem,seval, *]|refine fin_eq ?_)
 |ext ho=>
  have hv:=xo ho;clear hE;refine gO [1] Tryz.func205 (by kernel_rfl) (by conv=>lhs;reduce;dsimp only[iA]) rfl ?_;repeat' (first|simp -implicitDefEqProofs -dsimp only[go_sem,seval, *]|refine fin_eq ?_)
 |sig ho h2 h3 h4 h5=>
  have hv:=uC ho;obtain⟨p1,p2,p3⟩:=dU hg h5;clear hE;refine gO [1] Tryz.func205 (by kernel_rfl) (by conv=>lhs;reduce;dsimp only[iA]) rfl ?_;repeat' (first|simp -implicitDefEqProofs -dsimp only[go_sem,seval, *]|simp(disch:=omega) only[ah,aj,ao,aw,ar,ag,au,aq]|refine fin_eq ?_)
 |idx ho=>
  have hv:=uD ho;clear hE;refine gO [1] Tryz.func205 (by kernel_rfl) (by conv=>lhs;reduce;dsimp only[iA]) rfl ?_;repeat' (first|simp -implicitDefEqProofs -dsimp only[go_sem,seval, *]|refine fin_eq ?_)
 |un ho h2 h3 h4 h5 a h6 h7 h8=>
  have hv:=AD ho;have hle:0<e.l.length:=by rw[h6];simp
  have hle2:(0:Int)<e.l.length:=by omega
  rw[ka hle] at hv;have hc:=λτ=>hE e.l[0] (List.getElem_mem hle) τ;clear hE h6;refine gO [1] Tryz.func205 (by kernel_rfl) (by conv=>lhs;reduce;dsimp only[iA]) rfl ?_;repeat' (first|simp -implicitDefEqProofs -dsimp only[go_sem,seval, *]|(with_reducible (first|apply Za|apply Zb|apply Zc|apply Zd|apply Ze|apply Zf|apply Zg|apply Zh|apply Zi|apply Zj|apply Zk|apply Zl|apply Zm|apply Zn|apply Zo|apply Zp|apply Zq|apply Zr|apply Zs)<;>intro hq)|with_reducible refine Zu ?_ ?_|refine kc1 (hc _) ?_|(refine fin_eq ?_;repeat' simp -implicitDefEqProofs -dsimp only[go_sem,seval,if_true,if_false, *]))
 |bin ho h2 h3 h4 h5 a b h6 h7 h8=>
  have hv:=AE ho;have hle:e.l.length=2:=by rw[h6];rfl
  have hle1:0<e.l.length:=by omega
  have hle2:1<e.l.length:=by omega
  have hle3:(0:Int)<e.l.length:=by omega
  have hle4:(1:Int)<e.l.length:=by omega
  rw[ka hle1,qd hle] at hv;have hc:=λτ=>hE e.l[0] (List.getElem_mem hle1) τ;have hei:=λτ=>gR e.l[0] e.l[1] τ (hE _ (List.getElem_mem hle1)) (hE _ (List.getElem_mem hle2));clear hE h6;refine gO [1] Tryz.func205 (by kernel_rfl) (by conv=>lhs;reduce;dsimp only[iA]) rfl ?_;repeat' (first|simp -implicitDefEqProofs -dsimp only[go_sem,seval,ge_iff_le, *]|(with_reducible (first|apply Za|apply Zb|apply Zc|apply Zd|apply Ze|apply Zf|apply Zg|apply Zh|apply Zi|apply Zj|apply Zk|apply Zl|apply Zm|apply Zn|apply Zo|apply Zp|apply Zq|apply Zr|apply Zs)<;>intro hq)|with_reducible refine Zu ?_ ?_|refine kc1 (hc _) ?_|with_reducible refine id_one0 (λtS hS=>hei _) trivial ?_)
  all_goals first|(exfalso;omega)|skip
  all_goals
   have q1:∀p:Prop,[Decidable p]->True:=λ_=>trivial;refine fin_eq ?_;(repeat' (first|simp -implicitDefEqProofs -dsimp only[go_sem,seval,if_true,if_false, *]|omega))
  all_goals
   first|(rw[if_neg (by omega),if_neg (by omega)])|(rw[if_neg (by omega),if_pos (by omega)])|(rw[if_pos (by omega)])
 |cond ho h2 h3 h4 h5 h7 a b c h6=>
  have hv:=AC ho;have hle:e.l.length=3:=by rw[h6];rfl
  have hle1:1<e.l.length:=by omega
  have hle2:2<e.l.length:=by omega
  have hle3:(1:Int)<e.l.length:=by omega
  have hle4:(2:Int)<e.l.length:=by omega
  have hei:=λτ=>gR e.l[1] e.l[2] τ (hE _ (List.getElem_mem hle1)) (hE _ (List.getElem_mem hle2))
  have hvv:own e=fe e.l[1] e.l[2]:=by
   rw[hv];simp only[h6,List.map_cons,List.map_nil,List.drop_succ_cons,List.drop_zero,cF,fe,List.getElem_cons_succ,List.getElem_cons_zero];split
   ·split<;>simp_all
   ·rfl
  clear hE h6 hv;refine gO [1] Tryz.func205 (by kernel_rfl) (by conv=>lhs;reduce;dsimp only[iA]) rfl ?_;repeat' (first|simp -implicitDefEqProofs -dsimp only[go_sem,seval, *]|with_reducible refine Zu ?_ ?_|with_reducible refine id_one0 (λtS hS=>hei _) trivial ?_|refine fin_eq ?_)
 |cat ho h2 h3 h4 h5 h7 h6=>
  have hv:=s6 ho;have hon:=fun(x:E) (hx:x∈e.l)=>bI hg x (aY hs hx);have hol:=fun(x:E) (hx:x∈e.l)=>Dq hg x (aY hs hx);have hsb:=nq hon hol;have hns:=bK e;have hz:=fun(x:E) (hx:x∈e.l) (h:own x=0)=>rP (f:=own) hx h;clear hon hol;refine gO [1] Tryz.func205 (by kernel_rfl) (by conv=>lhs;reduce;dsimp only[iA]) rfl ?_;repeat' simp -implicitDefEqProofs -dsimp only[go_sem,seval, *]
  refine loop_rule (λi:Nat=>[(4,some (.int .i64 i)),(1,some (.cptr (eL e))),(3,some (.int .i64 (nE own e.l i)))]) (λ_=>σ) (λi=>i<=e.l.length/\∀j,(h:j<e.l.length)->j<i->¬own e.l[j]=0) (λi=>e.l.length-i) 0 ?_ ?_
  ·clear hE hsb hz;have e0:=rN (f:=own) (l:=e.l);(repeat' (first|simp -implicitDefEqProofs -dsimp only[go_sem,seval, *]|with_reducible refine And.intro ?_ ?_|omega))
  ·rintro i ⟨hi,hok⟩;obtain⟨s1,s2⟩:=hsb i;by_cases hlt:i<e.l.length
   ·have hc:=λτ=>hE e.l[i] (List.getElem_mem hlt) τ;have hss:=rO (f:=own) hlt;obtain⟨t1,t2⟩:=hsb (i+1);by_cases hw:own e.l[i]=0
    ·rw[hz _ (List.getElem_mem hlt) hw] at hv;rw[hw] at hc;clear hE hok hsb hz hw hss;repeat' (first|simp -implicitDefEqProofs -dsimp only[go_sem,seval, *]|with_reducible refine Zu ?_ ?_|refine kc1 (hc _) ?_|refine fin_eq ?_)
    ·have hn:∀j,(h:j<e.l.length)->j<i+1->¬own e.l[j]=0:=λj h h1=>by
      rcases Nat.lt_or_ge j i with q|q
      ·exact hok j h q
      ·obtain rfl:j=i:=by omega
       exact hw
     have hwb:(own e.l[i]==0)=false:=by simpa using hw
     clear hE hok hsb hz;repeat' (first|simp -implicitDefEqProofs -dsimp only[go_sem,seval, *]|simp(disch:=omega) only[ah,aj,ao,aw,ar,ag,au,aq]|with_reducible refine Zu ?_ ?_|refine kc1 (hc _) ?_|with_reducible refine lnx (i+1) ?_|with_reducible refine And.intro ?_ ?_|omega)
   ·have ei:i=e.l.length:=by omega
    subst ei;rw[uI λj hj=>hok j hj hj] at hv;rw[uH];clear hE hok hsb hz;repeat' (first|simp -implicitDefEqProofs -dsimp only[go_sem,seval, *]|refine fin_eq ?_)
theorem AW(g:List Sg)(hg:dg g)(a b:E)(ha:shp g a=true)(hb:shp g b=true)(na:nodes a<=16777216)(nb:nodes b<=16777216)(σ:aA):
  C_ 238 [encE a,encE b] σ (.int .i64 (fe a b)) σ:=
 gR a b σ (λτ=>qf g hg a τ ha na) (λτ=>qf g hg b τ hb nb)
end Go.Proofs.YtbbihmmobfmadaaGreat.S
