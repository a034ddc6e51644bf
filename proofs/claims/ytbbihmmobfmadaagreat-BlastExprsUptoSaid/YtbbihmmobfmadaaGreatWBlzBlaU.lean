/- blast: the chapter's example. -/
import Derived.Shelf.Bits.Mul64
import Derived.Laws.CopyOwn
import Derived.Test.YtbbihmmobfmadaaGreatWBlzBlaN
set_option linter.unusedSimpArgs false
set_option linter.unusedVariables false
set_option maxHeartbeats 8000000
set_option maxRecDepth 100000
namespace Go.Proofs.YtbbihmmobfmadaaGreat
open Abs Fil Fil.Bl A
structure Two(op:Int)(x y:List Int):Prop where
 x1:1<=x.length
 y1:1<=y.length
 xl:x.length<=1000000
 yl:y.length<=1000000
 hx:∀z∈x,I64 z
 hy:∀z∈y,I64 z
 ho:11<=op/\op<=26
 len:op=17\/op=18\/x.length=y.length
abbrev dS(bo:Nat)(b:Bu)(op:Int)(x y:List Int)(tx ty:Tok)(σ:aA):Prop:=
 C_ 62 [.ptr bo 0, .int .i64 op,aD x tx,aD y ty] σ (aD ((dw op x y).run b).1 .no) (aH σ bo (co ((dw op x y).run b).2))
theorem Kn(bo:Nat)(b:Bu)(x y:List Int)(tx ty:Tok)(σ:aA)(h:σ bo=some (co b))(hs:Wf b.g)(ht:Two 11 x y):dS bo b 11 x y tx ty σ:=by
 have hl:x.length=y.length:=by rcases ht.len with h|h|h<;>first|exact h|exact absurd h (by decide)
 have e:(dw 11 x y).run b=(eA nC x y x.length).run b:=rfl;unfold dS;rw[e];have c1:=λτ h=>yo bo b x y tx ty τ h hs ht.hx ht.hy (by omega) ht.xl;generalize hZ:(eA nC x y x.length).run b=Z at c1|-;clear hs ht hl e hZ;refine gO [] Tryz.func62 (by kernel_rfl) (by conv=>lhs;reduce;dsimp only[iA,iB]) rfl ?_;repeat' (first|simp -implicitDefEqProofs -dsimp only[go_sem,seval, *]|with_reducible refine kc1 (c1 _ ?_) ?_|(refine fin_eq ?_;repeat' simp -implicitDefEqProofs -dsimp only[go_sem,seval,aD, *]))
theorem Ko(bo:Nat)(b:Bu)(x y:List Int)(tx ty:Tok)(σ:aA)(h:σ bo=some (co b))(hs:Wf b.g)(ht:Two 25 x y):dS bo b 25 x y tx ty σ:=by
 have hl:x.length=y.length:=by rcases ht.len with h|h|h<;>first|exact h|exact absurd h (by decide)
 have e:(dw 25 x y).run b=(eA nC x y x.length).run b:=rfl;unfold dS;rw[e];have c1:=λτ h=>yo bo b x y tx ty τ h hs ht.hx ht.hy (by omega) ht.xl;generalize hZ:(eA nC x y x.length).run b=Z at c1|-;clear hs ht hl e hZ;refine gO [] Tryz.func62 (by kernel_rfl) (by conv=>lhs;reduce;dsimp only[iA,iB]) rfl ?_;repeat' (first|simp -implicitDefEqProofs -dsimp only[go_sem,seval, *]|with_reducible refine kc1 (c1 _ ?_) ?_|(refine fin_eq ?_;repeat' simp -implicitDefEqProofs -dsimp only[go_sem,seval,aD, *]))
theorem Kp(bo:Nat)(b:Bu)(x y:List Int)(tx ty:Tok)(σ:aA)(h:σ bo=some (co b))(hs:Wf b.g)(ht:Two 12 x y):dS bo b 12 x y tx ty σ:=by
 have hl:x.length=y.length:=by rcases ht.len with h|h|h<;>first|exact h|exact absurd h (by decide)
 have e:(dw 12 x y).run b=(eA GS x y x.length).run b:=rfl;unfold dS;rw[e];have c1:=λτ h=>Db bo b x y tx ty τ h hs ht.hx ht.hy (by omega) ht.xl;generalize hZ:(eA GS x y x.length).run b=Z at c1|-;clear hs ht hl e hZ;refine gO [] Tryz.func62 (by kernel_rfl) (by conv=>lhs;reduce;dsimp only[iA,iB]) rfl ?_;repeat' (first|simp -implicitDefEqProofs -dsimp only[go_sem,seval, *]|with_reducible refine kc1 (c1 _ ?_) ?_|(refine fin_eq ?_;repeat' simp -implicitDefEqProofs -dsimp only[go_sem,seval,aD, *]))
theorem Kr(bo:Nat)(b:Bu)(x y:List Int)(tx ty:Tok)(σ:aA)(h:σ bo=some (co b))(hs:Wf b.g)(ht:Two 26 x y):dS bo b 26 x y tx ty σ:=by
 have hl:x.length=y.length:=by rcases ht.len with h|h|h<;>first|exact h|exact absurd h (by decide)
 have e:(dw 26 x y).run b=(eA GS x y x.length).run b:=rfl;unfold dS;rw[e];have c1:=λτ h=>Db bo b x y tx ty τ h hs ht.hx ht.hy (by omega) ht.xl;generalize hZ:(eA GS x y x.length).run b=Z at c1|-;clear hs ht hl e hZ;refine gO [] Tryz.func62 (by kernel_rfl) (by conv=>lhs;reduce;dsimp only[iA,iB]) rfl ?_;repeat' (first|simp -implicitDefEqProofs -dsimp only[go_sem,seval, *]|with_reducible refine kc1 (c1 _ ?_) ?_|(refine fin_eq ?_;repeat' simp -implicitDefEqProofs -dsimp only[go_sem,seval,aD, *]))
theorem Kt(bo:Nat)(b:Bu)(x y:List Int)(tx ty:Tok)(σ:aA)(h:σ bo=some (co b))(hs:Wf b.g)(ht:Two 13 x y):dS bo b 13 x y tx ty σ:=by
 have hl:x.length=y.length:=by rcases ht.len with h|h|h<;>first|exact h|exact absurd h (by decide)
 have e:(dw 13 x y).run b=(eA gU x y x.length).run b:=rfl;unfold dS;rw[e];have c1:=λτ h=>yp bo b x y tx ty τ h hs ht.hx ht.hy (by omega) ht.xl;generalize hZ:(eA gU x y x.length).run b=Z at c1|-;clear hs ht hl e hZ;refine gO [] Tryz.func62 (by kernel_rfl) (by conv=>lhs;reduce;dsimp only[iA,iB]) rfl ?_;repeat' (first|simp -implicitDefEqProofs -dsimp only[go_sem,seval, *]|with_reducible refine kc1 (c1 _ ?_) ?_|(refine fin_eq ?_;repeat' simp -implicitDefEqProofs -dsimp only[go_sem,seval,aD, *]))
theorem Ku(bo:Nat)(b:Bu)(x y:List Int)(tx ty:Tok)(σ:aA)(h:σ bo=some (co b))(hs:Wf b.g)(ht:Two 14 x y):dS bo b 14 x y tx ty σ:=by
 have hl:x.length=y.length:=by rcases ht.len with h|h|h<;>first|exact h|exact absurd h (by decide)
 have e:(dw 14 x y).run b=(((dp x y 0).run b).1.1,((dp x y 0).run b).2):=by
  show((dp x y 0).bind λr=> .ret r.1).run b=_
  rw[run_bind];rfl
 unfold dS;rw[e];have c1:=λτ h=>pz bo b x y tx ty 0 τ h hs ht.hx ht.hy ⟨by decide,by decide⟩ (by omega) ht.xl;generalize hZ:(dp x y 0).run b=Z at c1|-;clear hs ht hl e hZ;refine gO [] Tryz.func62 (by kernel_rfl) (by conv=>lhs;reduce;dsimp only[iA,iB]) rfl ?_;repeat' (first|simp -implicitDefEqProofs -dsimp only[go_sem,seval, *]|simp(disch:=omega) only[ah,aj,ao,aw,ar,ag,au,aq]|with_reducible refine kc1 (c1 _ ?_) ?_|(refine fin_eq ?_;repeat' simp -implicitDefEqProofs -dsimp only[go_sem,seval,aD, *]))
theorem Kv(bo:Nat)(b:Bu)(x y:List Int)(tx ty:Tok)(σ:aA)(h:σ bo=some (co b))(hs:Wf b.g)(ht:Two 15 x y):dS bo b 15 x y tx ty σ:=by
 have hl:x.length=y.length:=by rcases ht.len with h|h|h<;>first|exact h|exact absurd h (by decide)
 have e:(dw 15 x y).run b=(((dp x (bk y) 1).run b).1.1,((dp x (bk y) 1).run b).2):=by
  show((dp x (bk y) 1).bind λr=> .ret r.1).run b=_
  rw[run_bind];rfl
 unfold dS;rw[e];have hnl:(bk y).length=y.length:=by simp[bk]
 have c0:=λτ=>sQ y ty τ ht.yl ht.hy;have c1:=λτ h=>pz bo b x (bk y) tx .no 1 τ h hs ht.hx (nR ht.hy) ⟨by decide,by decide⟩ (by omega) ht.xl;generalize hZ:(dp x (bk y) 1).run b=Z at c1|-;clear hs ht hl e hZ hnl;refine gO [] Tryz.func62 (by kernel_rfl) (by conv=>lhs;reduce;dsimp only[iA,iB]) rfl ?_;repeat' (first|simp -implicitDefEqProofs -dsimp only[go_sem,seval, *]|simp(disch:=omega) only[ah,aj,ao,aw,ar,ag,au,aq]|with_reducible refine kc1 (c0 _) ?_|with_reducible refine kc1 (c1 _ ?_) ?_|(refine fin_eq ?_;repeat' simp -implicitDefEqProofs -dsimp only[go_sem,seval,aD, *]))
theorem Kw(bo:Nat)(b:Bu)(x y:List Int)(tx ty:Tok)(σ:aA)(h:σ bo=some (co b))(hs:Wf b.g)(ht:Two 16 x y):dS bo b 16 x y tx ty σ:=by
 have hl:x.length=y.length:=by rcases ht.len with h|h|h<;>first|exact h|exact absurd h (by decide)
 have e:(dw 16 x y).run b=dR x y b y.length:=rfl;unfold dS;rw[e];have c1:=λτ h=>Kk bo b x y tx ty τ h hs ht.hx ht.hy (by omega) ht.x1 ht.xl;generalize hZ:dR x y b y.length=Z at c1|-;clear hs ht hl e hZ;refine gO [] Tryz.func62 (by kernel_rfl) (by conv=>lhs;reduce;dsimp only[iA,iB]) rfl ?_;repeat' (first|simp -implicitDefEqProofs -dsimp only[go_sem,seval, *]|with_reducible refine kc1 (c1 _ ?_) ?_|(refine fin_eq ?_;repeat' simp -implicitDefEqProofs -dsimp only[go_sem,seval,aD, *]))
theorem Kx(bo:Nat)(b:Bu)(x y:List Int)(tx ty:Tok)(σ:aA)(h:σ bo=some (co b))(hs:Wf b.g)(ht:Two 17 x y):dS bo b 17 x y tx ty σ:=by
 have e:(dw 17 x y).run b=gF x y true b y.length:=rfl;unfold dS;rw[e];have c1:=λτ h=>pB bo b x y tx ty true τ h hs ht.hx ht.hy ht.x1 ht.xl ht.yl;simp only[if_true,if_false,Bool.false_eq_true] at c1;generalize hZ:gF x y true b y.length=Z at c1|-;clear hs ht e hZ;refine gO [] Tryz.func62 (by kernel_rfl) (by conv=>lhs;reduce;dsimp only[iA,iB]) rfl ?_;repeat' (first|simp -implicitDefEqProofs -dsimp only[go_sem,seval, *]|with_reducible refine kc1 (c1 _ ?_) ?_|(refine fin_eq ?_;repeat' simp -implicitDefEqProofs -dsimp only[go_sem,seval,aD, *]))
theorem Ky(bo:Nat)(b:Bu)(x y:List Int)(tx ty:Tok)(σ:aA)(h:σ bo=some (co b))(hs:Wf b.g)(ht:Two 18 x y):dS bo b 18 x y tx ty σ:=by
 have e:(dw 18 x y).run b=gF x y false b y.length:=rfl;unfold dS;rw[e];have c1:=λτ h=>pB bo b x y tx ty false τ h hs ht.hx ht.hy ht.x1 ht.xl ht.yl;simp only[if_true,if_false,Bool.false_eq_true] at c1;generalize hZ:gF x y false b y.length=Z at c1|-;clear hs ht e hZ;refine gO [] Tryz.func62 (by kernel_rfl) (by conv=>lhs;reduce;dsimp only[iA,iB]) rfl ?_;repeat' (first|simp -implicitDefEqProofs -dsimp only[go_sem,seval, *]|with_reducible refine kc1 (c1 _ ?_) ?_|(refine fin_eq ?_;repeat' simp -implicitDefEqProofs -dsimp only[go_sem,seval,aD, *]))
theorem yy(x y:List Int)(b:Bu):(ru x y).run b=(il (bk ((eA gU x y x.length).run b).1)).run ((eA gU x y x.length).run b).2:=by unfold ru;rw[run_bind]
theorem Kz{x y:List Int}{b:Bu}(hs:Wf b.g):Wf ((ru x y).run b).2.g/\I64 ((ru x y).run b).1:=by rw[yy];exact yq (jE (jD .xor) hs x.length).1
theorem Dg(bo:Nat)(b:Bu)(x y:List Int)(tx ty:Tok)(σ:aA)(h:σ bo=some (co b))(hs:Wf b.g)(hx:∀z∈x,I64 z)(hy:∀z∈y,I64 z)(hl:x.length=y.length)(hxl:x.length<=1000000):
  C_ 62 [.ptr bo 0, .int .i64 19,aD x tx,aD y ty] σ (aD [((ru x y).run b).1] .no) (aH σ bo (co ((ru x y).run b).2)):=by
 rw[yy];have c1:=λτ h=>yp bo b x y tx ty τ h hs hx hy (by omega) hxl;have hz:=jE (jD .xor) (x:=x) (y:=y) hs x.length;rw[show ed (λp q=>Pg.op Bl.Op.xor p q 0 .ret) x y b x.length=(eA gU x y x.length).run b from rfl] at hz;generalize hZ:(eA gU x y x.length).run b=Z at c1 hz|-;have c2:=λo τ h ho=>rH bo o Z.2 Z.1 .no τ h ho hz.1 hz.2.2 (by rw[hz.2.1];exact hxl);have c3:=λτ=>mC Z.1 .no τ;generalize hY:(il (bk Z.1)).run Z.2=Y at c2|-;clear hs hx hy hl hz hZ hY;refine gO [] Tryz.func62 (by kernel_rfl) (by conv=>lhs;reduce;dsimp only[iA,iB]) rfl ?_;repeat' (first|simp -implicitDefEqProofs -dsimp only[go_sem,seval, *]|with_reducible refine kc1 (c1 _ ?_) ?_|with_reducible refine kc1 (c2 _ _ ?_ ?_) ?_|(with_reducible refine ACalls.newO (c3 _) λoF hoF hnF hnF'=>?_;try simp only[aa,ne_eq,not_and] at hoF)|(refine fin_eq ?_;repeat' simp -implicitDefEqProofs -dsimp only[go_sem,seval,aD,List.map_cons,List.map_nil, *]))
theorem KA(bo:Nat)(b:Bu)(x y:List Int)(tx ty:Tok)(σ:aA)(h:σ bo=some (co b))(hs:Wf b.g)(ht:Two 19 x y):dS bo b 19 x y tx ty σ:=by
 have hl:x.length=y.length:=by rcases ht.len with h|h|h<;>first|exact h|exact absurd h (by decide)
 have e:(dw 19 x y).run b=([((ru x y).run b).1],((ru x y).run b).2):=by
  show((ru x y).bind λr=> .ret [r]).run b=_
  rw[run_bind];rfl
 unfold dS;rw[e];exact Dg bo b x y tx ty σ h hs ht.hx ht.hy hl ht.xl
theorem KB(bo:Nat)(b:Bu)(x y:List Int)(tx ty:Tok)(σ:aA)(h:σ bo=some (co b))(hs:Wf b.g)(ht:Two 20 x y):dS bo b 20 x y tx ty σ:=by
 have hl:x.length=y.length:=by rcases ht.len with h|h|h<;>first|exact h|exact absurd h (by decide)
 have e:(dw 20 x y).run b=([turn ((ru x y).run b).1],((ru x y).run b).2):=by
  show((ru x y).bind λr=> .ret [turn r]).run b=_
  rw[run_bind];rfl
 unfold dS;rw[e];have c1:=λτ h=>Dg bo b x y tx ty τ h hs ht.hx ht.hy hl ht.xl;have hw:=(Kz (x:=x) (y:=y) hs).2;generalize hZ:(ru x y).run b=Z at c1 hw|-;have c2:=λτ=>sQ [Z.1] .no τ (by simp) (by simpa using hw);have e1:bk [Z.1]=[turn Z.1]:=rfl;rw[e1] at c2;clear hs ht hl e hZ hw e1;refine gO [] Tryz.func62 (by kernel_rfl) (by conv=>lhs;reduce;dsimp only[iA,iB]) rfl ?_;repeat' (first|simp -implicitDefEqProofs -dsimp only[go_sem,seval, *]|simp(disch:=omega) only[ah,aj,ao,aw,ar,ag,au,aq]|with_reducible refine kc1 (c1 _ ?_) ?_|with_reducible refine kc1 (c2 _) ?_|(refine fin_eq ?_;repeat' simp -implicitDefEqProofs -dsimp only[go_sem,seval,aD, *]))
theorem nV{x y:List Int}{b:Bu}(hs:Wf b.g):Wf ((bX x y).run b).2.g/\I64 ((bX x y).run b).1:=by
 have e:(bX x y).run b=(turn ((dp x (bk y) 1).run b).1.2,((dp x (bk y) 1).run b).2):=by unfold bX;rw[run_bind];rfl
 rw[e];have h:=sR (x:=x) (y:=bk y) (c:=1) hs ⟨by decide,by decide⟩;exact⟨h.1,i64_turn h.2.1⟩
theorem KC(bo:Nat)(b:Bu)(x y:List Int)(tx ty:Tok)(σ:aA)(h:σ bo=some (co b))(hs:Wf b.g)(ht:Two 21 x y):dS bo b 21 x y tx ty σ:=by
 have hl:x.length=y.length:=by rcases ht.len with h|h|h<;>first|exact h|exact absurd h (by decide)
 have e:(dw 21 x y).run b=([((bX x y).run b).1],((bX x y).run b).2):=by
  show((bX x y).bind λr=> .ret [r]).run b=_
  rw[run_bind];rfl
 unfold dS;rw[e];have c1:=λτ h=>nS bo b x y tx ty τ h hs ht.hx ht.hy (by omega) ht.yl;have hw:=(nV (x:=x) (y:=y) hs).2;generalize hZ:(bX x y).run b=Z at c1 hw|-;have hxx:=rG Z.1 hw;clear hs ht hl e hZ hw;refine gO [] Tryz.func62 (by kernel_rfl) (by conv=>lhs;reduce;dsimp only[iA,iB]) rfl ?_;repeat' (first|simp -implicitDefEqProofs -dsimp only[go_sem,seval, *]|simp(disch:=omega) only[ah,aj,ao,aw,ar,ag,au,aq]|with_reducible refine kc1 (c1 _ ?_) ?_|(refine fin_eq ?_;repeat' simp -implicitDefEqProofs -dsimp only[go_sem,seval,aD,List.map_cons,List.map_nil, *]))
theorem KD(bo:Nat)(b:Bu)(x y:List Int)(tx ty:Tok)(σ:aA)(h:σ bo=some (co b))(hs:Wf b.g)(ht:Two 23 x y):dS bo b 23 x y tx ty σ:=by
 have hl:x.length=y.length:=by rcases ht.len with h|h|h<;>first|exact h|exact absurd h (by decide)
 have e:(dw 23 x y).run b=([((bX y x).run b).1],((bX y x).run b).2):=by
  show((bX y x).bind λr=> .ret [r]).run b=_
  rw[run_bind];rfl
 unfold dS;rw[e];have c1:=λτ h=>nS bo b y x ty tx τ h hs ht.hy ht.hx (by omega) ht.xl;have hw:=(nV (x:=y) (y:=x) hs).2;generalize hZ:(bX y x).run b=Z at c1 hw|-;have hxx:=rG Z.1 hw;clear hs ht hl e hZ hw;refine gO [] Tryz.func62 (by kernel_rfl) (by conv=>lhs;reduce;dsimp only[iA,iB]) rfl ?_;repeat' (first|simp -implicitDefEqProofs -dsimp only[go_sem,seval, *]|simp(disch:=omega) only[ah,aj,ao,aw,ar,ag,au,aq]|with_reducible refine kc1 (c1 _ ?_) ?_|(refine fin_eq ?_;repeat' simp -implicitDefEqProofs -dsimp only[go_sem,seval,aD,List.map_cons,List.map_nil, *]))
theorem KE(bo:Nat)(b:Bu)(x y:List Int)(tx ty:Tok)(σ:aA)(h:σ bo=some (co b))(hs:Wf b.g)(ht:Two 22 x y):dS bo b 22 x y tx ty σ:=by
 have hl:x.length=y.length:=by rcases ht.len with h|h|h<;>first|exact h|exact absurd h (by decide)
 have e:(dw 22 x y).run b=([turn ((bX y x).run b).1],((bX y x).run b).2):=by
  show((bX y x).bind λr=> .ret [turn r]).run b=_
  rw[run_bind];rfl
 unfold dS;rw[e];have c1:=λτ h=>nS bo b y x ty tx τ h hs ht.hy ht.hx (by omega) ht.xl;have hw:=(nV (x:=y) (y:=x) hs).2;generalize hZ:(bX y x).run b=Z at c1 hw|-;have hxx:=rG Z.1 hw;clear hs ht hl e hZ hw;refine gO [] Tryz.func62 (by kernel_rfl) (by conv=>lhs;reduce;dsimp only[iA,iB]) rfl ?_;repeat' (first|simp -implicitDefEqProofs -dsimp only[go_sem,seval, *]|simp(disch:=omega) only[ah,aj,ao,aw,ar,ag,au,aq]|with_reducible refine kc1 (c1 _ ?_) ?_|(refine fin_eq ?_;repeat' simp -implicitDefEqProofs -dsimp only[go_sem,seval,aD,List.map_cons,List.map_nil, *]))
theorem KF(bo:Nat)(b:Bu)(x y:List Int)(tx ty:Tok)(σ:aA)(h:σ bo=some (co b))(hs:Wf b.g)(ht:Two 24 x y):dS bo b 24 x y tx ty σ:=by
 have hl:x.length=y.length:=by rcases ht.len with h|h|h<;>first|exact h|exact absurd h (by decide)
 have e:(dw 24 x y).run b=([turn ((bX x y).run b).1],((bX x y).run b).2):=by
  show((bX x y).bind λr=> .ret [turn r]).run b=_
  rw[run_bind];rfl
 unfold dS;rw[e];have c1:=λτ h=>nS bo b x y tx ty τ h hs ht.hx ht.hy (by omega) ht.yl;have hw:=(nV (x:=x) (y:=y) hs).2;generalize hZ:(bX x y).run b=Z at c1 hw|-;have hxx:=rG Z.1 hw;clear hs ht hl e hZ hw;refine gO [] Tryz.func62 (by kernel_rfl) (by conv=>lhs;reduce;dsimp only[iA,iB]) rfl ?_;repeat' (first|simp -implicitDefEqProofs -dsimp only[go_sem,seval, *]|simp(disch:=omega) only[ah,aj,ao,aw,ar,ag,au,aq]|with_reducible refine kc1 (c1 _ ?_) ?_|(refine fin_eq ?_;repeat' simp -implicitDefEqProofs -dsimp only[go_sem,seval,aD,List.map_cons,List.map_nil, *]))
theorem Dh(bo:Nat)(b:Bu)(op:Int)(x y:List Int)(tx ty:Tok)(σ:aA)(h:σ bo=some (co b))(hs:Wf b.g)(ht:Two op x y):dS bo b op x y tx ty σ:=by
 have hc:op=11\/op=12\/op=13\/op=14\/op=15\/op=16\/op=17\/op=18\/op=19\/op=20\/op=21\/op=22\/op=23\/op=24\/op=25\/op=26:=by
  have:=ht.ho;omega
 rcases hc with rfl|rfl|rfl|rfl|rfl|rfl|rfl|rfl|rfl|rfl|rfl|rfl|rfl|rfl|rfl|rfl
 ·exact Kn bo b x y tx ty σ h hs ht
 ·exact Kp bo b x y tx ty σ h hs ht
 ·exact Kt bo b x y tx ty σ h hs ht
 ·exact Ku bo b x y tx ty σ h hs ht
 ·exact Kv bo b x y tx ty σ h hs ht
 ·exact Kw bo b x y tx ty σ h hs ht
 ·exact Kx bo b x y tx ty σ h hs ht
 ·exact Ky bo b x y tx ty σ h hs ht
 ·exact KA bo b x y tx ty σ h hs ht
 ·exact KB bo b x y tx ty σ h hs ht
 ·exact KC bo b x y tx ty σ h hs ht
 ·exact KE bo b x y tx ty σ h hs ht
 ·exact KD bo b x y tx ty σ h hs ht
 ·exact KF bo b x y tx ty σ h hs ht
 ·exact Ko bo b x y tx ty σ h hs ht
 ·exact Kr bo b x y tx ty σ h hs ht
theorem Di(bo p q:Nat)(b:Bu)(c x y:Int)(σ:aA)(h:σ bo=some (co b))(hs:Wf b.g)(hc:I64 c)(hx:I64 x)(hy:I64 y)(hp:σ p=some (.cells [.ptr bo 0]))(hq:σ q=some (.cells [.int .i64 c])):
  C_ 117 [.int .i64 x, .int .i64 y, .ptr p 0, .ptr q 0] σ (.int .i64 (b.op Bl.Op.mux c x y).1) (aH σ bo (co (b.op Bl.Op.mux c x y).2)):=by
 have c1:=λτ h=>C8 bo b c x y τ h hs hc hx hy;generalize hZ:b.op Bl.Op.mux c x y=Z at c1|-;clear hs hc hx hy hZ;refine gO [] Tryz.func117 (by kernel_rfl) (by conv=>lhs;reduce;dsimp only[iA]) rfl ?_;repeat' (first|simp -implicitDefEqProofs -dsimp only[go_sem,seval, *]|with_reducible refine kc1 (c1 _ ?_) ?_|refine fin_eq ?_)
theorem Hh(bo:Nat)(b:Bu)(c:Int)(x y:List Int)(tx ty:Tok)(σ:aA)(h:σ bo=some (co b))(hs:Wf b.g)(hc:I64 c)(hx:∀z∈x,I64 z)(hy:∀z∈y,I64 z)(hl:x.length<=y.length)(hxl:x.length<=1000000):
  C_ 66 [.ptr bo 0, .int .i64 c,aD x tx,aD y ty] σ (aD ((jj c x y).run b).1 .no) (aH σ bo (co ((jj c x y).run b).2)):=by
 have key:∀p q,σ p=none->σ q=none->¬p=q->C_ 109 [aD x tx,aD y ty, .fn 117 [] [.ptr p 0, .ptr q 0]] (aH (aH σ p (.cells [.ptr bo 0])) q (.cells [.int .i64 c])) (aD ((jj c x y).run b).1 .no) (aH (aH (aH σ p (.cells [.ptr bo 0])) q (.cells [.int .i64 c])) bo (co ((jj c x y).run b).2)):=by
  intro p q hp hq hpq;have n1:¬bo=q:=λe=>by rw[e,hq] at h;simp at h
  have n2:¬bo=p:=λe=>by rw[e,hp] at h;simp at h
  exact nT _ (sW c) _ _ _ bo b x y tx ty _ (by simp[aH,n1,n2,h]) hs hl hxl λb τ k _ h1 h2 h3=>Di bo p q b c _ _ τ h1 h2 hc (eD hx k) (eD hy k) (h3 p _ (Ne.symm n2) (by simp[aH,hpq])) (h3 q _ (Ne.symm n1) (by simp[aH]))
 generalize hZ:(jj c x y).run b=Z at key|-;clear hs hc hx hy hl hxl hZ;refine gO [] Tryz.func66 (by kernel_rfl) (by conv=>lhs;reduce;dsimp only[iA]) rfl ?_;repeat' (first|simp -implicitDefEqProofs -dsimp only[go_sem,seval, *]|(with_reducible refine Zt λoF hoF hnF hnF'=>?_;try simp only[aa,ne_eq,not_and] at hoF)|with_reducible refine kc1 (key _ _ ?_ ?_ ?_) ?_|(refine fin_eq ?_;repeat' simp -implicitDefEqProofs -dsimp only[go_sem,seval,aD, *]))
end Go.Proofs.YtbbihmmobfmadaaGreat
namespace Go.Proofs.YtbbihmmobfmadaaGreat
open Abs Fil Fil.Bl A
theorem Dj(p:Nat)(l n:Int)(σ:aA)(h:σ p=some (.cells [.int .i64 n])):
  C_ 74 [.int .i64 l, .ptr p 0] σ (.bool (decide (l<0)||decide (n<=l))) σ:=by
 refine gO [] Tryz.func74 (by kernel_rfl) (by conv=>lhs;reduce;dsimp only[iA]) rfl ?_;by_cases h1:l<0
 ·repeat' (first|simp -implicitDefEqProofs -dsimp only[go_sem,seval, *]|(refine fin_eq ?_;repeat' simp -implicitDefEqProofs -dsimp only[go_sem,seval,decide_true,Bool.true_or, *]))
 ·repeat' (first|simp -implicitDefEqProofs -dsimp only[go_sem,seval,ge_iff_le, *]|(refine fin_eq ?_;repeat' simp -implicitDefEqProofs -dsimp only[go_sem,seval,decide_false,Bool.false_or, *]))
theorem Hi(g:Aig)(a:List Int):(!a.any λl=>decide (l<0)||decide (2*(1+g.count)<=l))=a.all g.lit:=by
 induction a with
 |nil=>rfl
 |cons x a ih=>
  simp only[List.any_cons,List.all_cons,Bool.not_or,ih];congr 1
  unfold Aig.lit Aig.litN;by_cases h1:x<0<;>by_cases h2:2*(1+g.count)<=x<;>simp[h1,h2,Int.not_lt,Int.not_le]<;>omega
theorem lB(g:Aig)(a:List Int)(t:Tok)(σ:aA)(hf:Fine g)(hl:a.length<=1000000):
  C_ 36 [aQ g,aD a t] σ (.bool (df g a)) σ:=by
 have hw:df g a=(decide (0<a.length)&&decide (a.length<=64)&& !a.any λl=>decide (l<0)||decide (2*(1+g.count)<=l)):=by rw[Hi];rfl
 have c1:∀p τ,τ p=some (.cells [.int .i64 (2*(1+g.count))])->C_ 73 [aD a t, .fn 74 [] [.ptr p 0]] τ (.bool (a.any λl=>decide (l<0)||decide (2*(1+g.count)<=l))) τ:=
  λp τ h=>ACalls.fl (jz (λl=>decide (l<0)||decide (2*(1+g.count)<=l)) a (by omega) τ (F:=74) (caps:=[.ptr p 0]) (λx _=>Dj p x _ τ h)) (.cons (.slice _ _ _ _ (.inl rfl) rfl λ_ _ _=> .refl _) (.refl _ _)) (λo _ x e=>⟨x,e, .refl _ x⟩)
 generalize hB:(a.any λl=>decide (l<0)||decide (2*(1+g.count)<=l))=B at c1 hw
 have hc:g.count=g.ins+g.flops.length+g.ands.length:=rfl;have hcb:=hf.cnt;have hlo:=hf.lo;have hb1:g.ins<=65536:=by omega
 have hb2:g.flops.length<=65536:=by omega
 have hb3:g.ands.length<=65536:=by omega
 have hn:2*(1+g.ins+(g.flops.length:Int)+(g.ands.length:Int))=2*(1+g.count):=by omega
 generalize hW:df g a=W at hw|-;generalize hN:2*(1+g.count)=N at c1 hn;clear hB hW hf hc hcb hN;by_cases h1:0<a.length
 ·have h1':(0:Int)<(a.length:Int):=by omega
  by_cases h2:a.length<=64
  ·have h2':(a.length:Int)<=64:=by omega
   have e:W= !B:=by rw[hw];simp[h1,h2]
   subst e;clear hw h1 h2;refine gO [2] Tryz.func36 (by kernel_rfl) (by conv=>lhs;reduce;dsimp only[iA]) rfl ?_;repeat' (first|simp -implicitDefEqProofs -dsimp only[go_sem,seval,List.length_map,gt_iff_lt, *]|simp(disch:=omega) only[ah,aj,ao,aw,ar,ag,au,aq]|(with_reducible refine Zt λoF hoF hnF hnF'=>?_;try simp only[aa,ne_eq,not_and] at hoF)|refine kc1 (c1 _ _ ?_) ?_|refine fin_eq ?_)
  ·have h2':¬(a.length:Int)<=64:=by omega
   have e:W=false:=by rw[hw];simp[h2]
   subst e;clear hw h1 h2;refine gO [2] Tryz.func36 (by kernel_rfl) (by conv=>lhs;reduce;dsimp only[iA]) rfl ?_;repeat' (first|simp -implicitDefEqProofs -dsimp only[go_sem,seval,List.length_map,gt_iff_lt, *]|simp(disch:=omega) only[ah,aj,ao,aw,ar,ag,au,aq]|(with_reducible refine Zt λoF hoF hnF hnF'=>?_;try simp only[aa,ne_eq,not_and] at hoF)|refine fin_eq ?_)
 ·have h1':¬(0:Int)<(a.length:Int):=by omega
  have e:W=false:=by rw[hw];simp[h1]
  subst e;clear hw h1;refine gO [2] Tryz.func36 (by kernel_rfl) (by conv=>lhs;reduce;dsimp only[iA]) rfl ?_;repeat' (first|simp -implicitDefEqProofs -dsimp only[go_sem,seval,List.length_map,gt_iff_lt, *]|simp(disch:=omega) only[ah,aj,ao,aw,ar,ag,au,aq]|(with_reducible refine Zt λoF hoF hnF hnF'=>?_;try simp only[aa,ne_eq,not_and] at hoF)|refine fin_eq ?_)
end Go.Proofs.YtbbihmmobfmadaaGreat
namespace Go.Proofs.YtbbihmmobfmadaaGreat
open Abs Fil Fil.Bl A
theorem nW(g:Aig)(mF dF:Nat)(mc dc:List AV)(may:Bool)(p:Pg (List Int))(σ:aA)(hs:Wf g)
  (hm:g.check=0->∀o x,σ o=none->ACalls Tryz.prog mF mc (aH σ o x) (λr τ'=>r= .ret (.bool may)/\τ'=aH σ o x))
  (hd:g.check=0->may=true->∀o x bo,σ o=none->σ bo=none->¬bo=o->ACalls Tryz.prog dF (.ptr bo 0::dc) (aH (aH σ o x) bo (co ⟨g,0⟩)) (λr τ'=>r= .ret (aD (p.run ⟨g,0⟩).1 .no)/\τ'=aH (aH σ o x) bo (co (p.run ⟨g,0⟩).2))):
  C_ 37 [aQ g, .fn mF [] mc, .fn dF [] dc] σ (.tup [aQ (jB g may p).1,aD (jB g may p).2.1 .no, .int .i64 (jB g may p).2.2]) σ:=by
 have c1:=λτ=>Ao g τ hs;by_cases h0:g.check=0
 ·have hm:=hm h0;rw[h0] at c1;cases may with
  |false=>
   have e:jB g false p=(zG,[],1):=by unfold jB;rw[if_neg (by omega),if_pos rfl]
   rw[e];clear hd hs h0 e;refine gO [3] Tryz.func37 (by kernel_rfl) (by conv=>lhs;reduce;dsimp only[iA]) rfl ?_;repeat' (first|simp(maxDischargeDepth:=9) -implicitDefEqProofs -dsimp only[go_sem,seval, *]|simp(disch:=omega) only[ah,aj,ao,aw,ar,ag,au,aq]|(with_reducible refine Zt λoF hoF hnF hnF'=>?_;try simp only[aa,ne_eq,not_and] at hoF)|with_reducible refine kc1 (c1 _) ?_|with_reducible refine kc1 (hm _ _ ?_) ?_|(refine fin_eq ?_;repeat' simp(maxDischargeDepth:=9) -implicitDefEqProofs -dsimp only[go_sem,seval,zG,aD,List.map_nil, *]))
  |true=>
   have hd:=hd h0 rfl;have e:jB g true p=cw (p.run ⟨g,0⟩):=by unfold jB;rw[if_neg (by omega),if_neg (by simp)]
   rw[e];generalize hZ:p.run ⟨g,0⟩=Z at hd|-;obtain⟨l,g2,e2⟩:=Z;simp only at hd;by_cases he:e2=0
   ·subst he;rw[show cw (l,⟨g2,0⟩)=(g2,l,0) from rfl];clear hs h0 e hZ;refine gO [3] Tryz.func37 (by kernel_rfl) (by conv=>lhs;reduce;dsimp only[iA]) rfl ?_;repeat' (first|simp(maxDischargeDepth:=9) -implicitDefEqProofs -dsimp only[go_sem,seval, *]|simp(disch:=omega) only[ah,aj,ao,aw,ar,ag,au,aq]|(with_reducible refine Zt λoF hoF hnF hnF'=>?_;try simp only[aa,ne_eq,not_and] at hoF)|with_reducible refine kc1 (c1 _) ?_|with_reducible refine kc1 (hm _ _ ?_) ?_|with_reducible refine kc1 (hd _ _ _ ?_ ?_ ?_) ?_|(refine fin_eq ?_;repeat' simp(maxDischargeDepth:=9) -implicitDefEqProofs -dsimp only[go_sem,seval,aD, *]))
   ·have he':(e2 != 0)=true:=by simpa using he
    rw[show cw (l,⟨g2,e2⟩)=(zG,[],e2) by unfold cw;rw[if_pos he]];clear hs h0 e hZ he;refine gO [3] Tryz.func37 (by kernel_rfl) (by conv=>lhs;reduce;dsimp only[iA]) rfl ?_;repeat' (first|simp(maxDischargeDepth:=9) -implicitDefEqProofs -dsimp only[go_sem,seval, *]|simp(disch:=omega) only[ah,aj,ao,aw,ar,ag,au,aq]|(with_reducible refine Zt λoF hoF hnF hnF'=>?_;try simp only[aa,ne_eq,not_and] at hoF)|with_reducible refine kc1 (c1 _) ?_|with_reducible refine kc1 (hm _ _ ?_) ?_|with_reducible refine kc1 (hd _ _ _ ?_ ?_ ?_) ?_|(refine fin_eq ?_;repeat' simp(maxDischargeDepth:=9) -implicitDefEqProofs -dsimp only[go_sem,seval,zG,aD,List.map_nil, *]))
 ·have e:jB g may p=(zG,[],g.check):=by unfold jB;rw[if_pos h0]
  rw[e];have h0':(g.check != 0)=true:=by simpa using h0
  generalize hc:g.check=c at c1 h0'|-;clear hm hd hs h0 e hc;refine gO [3] Tryz.func37 (by kernel_rfl) (by conv=>lhs;reduce;dsimp only[iA]) rfl ?_;repeat' (first|simp(maxDischargeDepth:=9) -implicitDefEqProofs -dsimp only[go_sem,seval, *]|simp(disch:=omega) only[ah,aj,ao,aw,ar,ag,au,aq]|(with_reducible refine Zt λoF hoF hnF hnF'=>?_;try simp only[aa,ne_eq,not_and] at hoF)|with_reducible refine kc1 (c1 _) ?_|(refine fin_eq ?_;repeat' simp(maxDischargeDepth:=9) -implicitDefEqProofs -dsimp only[go_sem,seval,zG,aD,List.map_nil, *]))
theorem Hj(og oa ob oo:Nat)(g:Aig)(op:Int)(x y:List Int)(tx ty:Tok)(σ:aA)(hf:Fine g)(hx:x.length<=1000000)(hy:y.length<=1000000)
  (h1:σ og=some (.cells (gC g)))(h2:σ oa=some (.cells [aD x tx]))(h3:σ ob=some (.cells [aD y ty]))(h4:σ oo=some (.cells [.int .i64 op])):
  C_ 60 [.ptr og 0, .ptr oa 0, .ptr ob 0, .ptr oo 0] σ (.bool (kL g op x y)) σ:=by
 have c1:=λτ=>lB g x tx τ hf hx;have c2:=λτ=>lB g y ty τ hf hy;have hM:kL g op x y=(df g x&&df g y&&decide (11<=op/\op<=26/\(op=17\/op=18\/(x.length=y.length/\(op<25\/x.length=1))))):=rfl;generalize hMM:kL g op x y=M at hM|-;generalize hX:df g x=X at c1 hM;generalize hY:df g y=Y at c2 hM;clear hMM hX hY hf;cases X with
 |false=>
  simp only[Bool.false_and] at hM;subst hM;refine gO [] Tryz.func60 (by kernel_rfl) (by conv=>lhs;reduce;dsimp only[iA]) rfl ?_;repeat' (first|simp(maxDischargeDepth:=9) -implicitDefEqProofs -dsimp only[go_sem,seval, *]|with_reducible refine kc1 (c1 _) ?_|refine fin_eq ?_)
 |true=>
  cases Y with
  |false=>
   simp only[Bool.false_and,Bool.and_false] at hM;subst hM;refine gO [] Tryz.func60 (by kernel_rfl) (by conv=>lhs;reduce;dsimp only[iA]) rfl ?_;repeat' (first|simp(maxDischargeDepth:=9) -implicitDefEqProofs -dsimp only[go_sem,seval, *]|with_reducible refine kc1 (c1 _) ?_|with_reducible refine kc1 (c2 _) ?_|refine fin_eq ?_)
  |true=>
   simp only[Bool.true_and] at hM;by_cases o1:op<11
   ·have e:M=false:=by rw[hM,decide_eq_false_iff_not];omega
    subst e;clear hM;refine gO [] Tryz.func60 (by kernel_rfl) (by conv=>lhs;reduce;dsimp only[iA]) rfl ?_;repeat' (first|simp(maxDischargeDepth:=9) -implicitDefEqProofs -dsimp only[go_sem,seval,gt_iff_lt, *]|with_reducible refine kc1 (c1 _) ?_|with_reducible refine kc1 (c2 _) ?_|refine fin_eq ?_)
   by_cases o2:26<op
   ·have e:M=false:=by rw[hM,decide_eq_false_iff_not];omega
    subst e;clear hM;refine gO [] Tryz.func60 (by kernel_rfl) (by conv=>lhs;reduce;dsimp only[iA]) rfl ?_;repeat' (first|simp(maxDischargeDepth:=9) -implicitDefEqProofs -dsimp only[go_sem,seval,gt_iff_lt, *]|with_reducible refine kc1 (c1 _) ?_|with_reducible refine kc1 (c2 _) ?_|refine fin_eq ?_)
   by_cases o3:op=17
   ·have e:M=true:=by rw[hM,decide_eq_true_iff];omega
    subst e o3;clear hM;refine gO [] Tryz.func60 (by kernel_rfl) (by conv=>lhs;reduce;dsimp only[iA]) rfl ?_;repeat' (first|simp(maxDischargeDepth:=9) -implicitDefEqProofs -dsimp only[go_sem,seval,gt_iff_lt, *]|with_reducible refine kc1 (c1 _) ?_|with_reducible refine kc1 (c2 _) ?_|refine fin_eq ?_)
   by_cases o4:op=18
   ·have e:M=true:=by rw[hM,decide_eq_true_iff];omega
    subst e o4;clear hM;refine gO [] Tryz.func60 (by kernel_rfl) (by conv=>lhs;reduce;dsimp only[iA]) rfl ?_;repeat' (first|simp(maxDischargeDepth:=9) -implicitDefEqProofs -dsimp only[go_sem,seval,gt_iff_lt, *]|with_reducible refine kc1 (c1 _) ?_|with_reducible refine kc1 (c2 _) ?_|refine fin_eq ?_)
   have b3:(op==17)=false:=by simpa using o3
   have b4:(op==18)=false:=by simpa using o4
   by_cases o5:x.length=y.length
   ·have b5:((x.length:Int)==(y.length:Int))=true:=by rw[beq_iff_eq];omega
    by_cases o6:op<25
    ·have e:M=true:=by rw[hM,decide_eq_true_iff];omega
     subst e;clear hM o3 o4 o5;refine gO [] Tryz.func60 (by kernel_rfl) (by conv=>lhs;reduce;dsimp only[iA]) rfl ?_;repeat' (first|simp(maxDischargeDepth:=9) -implicitDefEqProofs -dsimp only[go_sem,seval,gt_iff_lt,List.length_map, *]|with_reducible refine kc1 (c1 _) ?_|with_reducible refine kc1 (c2 _) ?_|refine fin_eq ?_)
    ·have e:M=((x.length:Int)==1):=by
      rw[hM,Bool.eq_iff_iff,decide_eq_true_iff,beq_iff_eq];omega
     subst e;clear hM o3 o4 o5;refine gO [] Tryz.func60 (by kernel_rfl) (by conv=>lhs;reduce;dsimp only[iA]) rfl ?_;repeat' (first|simp(maxDischargeDepth:=9) -implicitDefEqProofs -dsimp only[go_sem,seval,gt_iff_lt,List.length_map, *]|with_reducible refine kc1 (c1 _) ?_|with_reducible refine kc1 (c2 _) ?_|refine fin_eq ?_)
   ·have b5:((x.length:Int)==(y.length:Int))=false:=by
     rw[beq_eq_false_iff_ne];omega
    have e:M=false:=by rw[hM,decide_eq_false_iff_not];omega
    subst e;clear hM o3 o4 o5;refine gO [] Tryz.func60 (by kernel_rfl) (by conv=>lhs;reduce;dsimp only[iA]) rfl ?_;repeat' (first|simp(maxDischargeDepth:=9) -implicitDefEqProofs -dsimp only[go_sem,seval,gt_iff_lt,List.length_map, *]|with_reducible refine kc1 (c1 _) ?_|with_reducible refine kc1 (c2 _) ?_|refine fin_eq ?_)
theorem Hk(bo oo oa ob:Nat)(b:Bu)(op:Int)(x y:List Int)(tx ty:Tok)(σ:aA)(h:σ bo=some (co b))(hs:Wf b.g)(ht:Two op x y)(h2:σ oa=some (.cells [aD x tx]))(h3:σ ob=some (.cells [aD y ty]))(h4:σ oo=some (.cells [.int .i64 op])):
  C_ 61 [.ptr bo 0, .ptr oo 0, .ptr oa 0, .ptr ob 0] σ (aD ((dw op x y).run b).1 .no) (aH σ bo (co ((dw op x y).run b).2)):=by
 have c1:=λτ h=>Dh bo b op x y tx ty τ h hs ht;unfold dS at c1;generalize hZ:(dw op x y).run b=Z at c1|-;clear hZ hs ht;refine gO [] Tryz.func61 (by kernel_rfl) (by conv=>lhs;reduce;dsimp only[iA]) rfl ?_;repeat' (first|simp(maxDischargeDepth:=9) -implicitDefEqProofs -dsimp only[go_sem,seval, *]|with_reducible refine kc1 (c1 _ ?_) ?_|(refine fin_eq ?_;repeat' simp(maxDischargeDepth:=9) -implicitDefEqProofs -dsimp only[go_sem,seval,aD, *]))
theorem KG{g:Aig}{op:Int}{x y:List Int}(h:kL g op x y=true)(hx:∀z∈x,I64 z)(hy:∀z∈y,I64 z)(hxl:x.length<=1000000)(hyl:y.length<=1000000):Two op x y:=by
 unfold kL df at h;simp only[Bool.and_eq_true,decide_eq_true_eq] at h;exact⟨by omega,by omega,hxl,hyl,hx,hy,by omega,by omega⟩
theorem dT{σ:aA}{o o':Nat}{x y:AObj}(ho:σ o'=none)(h:σ o=some x):aH σ o' y o=some x:=by
 have:¬o=o':=λe=>by rw[e,ho] at h;simp at h
 simp[aH,this,h]
theorem Dk(g:Aig)(op:Int)(x y:List Int)(tx ty:Tok)(σ:aA)(hs:Wf g)(hx:∀z∈x,I64 z)(hy:∀z∈y,I64 z)(hxl:x.length<=1000000)(hyl:y.length<=1000000):
  C_ 25 [aQ g, .int .i64 op,aD x tx,aD y ty] σ (.tup [aQ (GW g op x y).1,aD (GW g op x y).2.1 .no, .int .i64 (GW g op x y).2.2]) σ:=by
 have key:∀τ og oo oa ob,τ og=some (.cells (gC g))->τ oa=some (.cells [aD x tx])->τ ob=some (.cells [aD y ty])->τ oo=some (.cells [.int .i64 op])->
   C_ 37 [aQ g, .fn 60 [] [.ptr og 0, .ptr oa 0, .ptr ob 0, .ptr oo 0], .fn 61 [] [.ptr oo 0, .ptr oa 0, .ptr ob 0]] τ (.tup [aQ (GW g op x y).1,aD (GW g op x y).2.1 .no, .int .i64 (GW g op x y).2.2]) τ:=λτ og oo oa ob h1 h2 h3 h4=>
  nW g _ _ _ _ (kL g op x y) (dw op x y) τ hs
   (λh0 o z ho=>Hj og oa ob oo g op x y tx ty _ (dn hs h0) hxl hyl (dT ho h1) (dT ho h2) (dT ho h3) (dT ho h4))
   (λh0 hm o z bo ho hb hne=>by
    have hb':aH τ o z bo=none:=by simp[aH,hne,hb]
    refine(Hk bo oo oa ob ⟨g,0⟩ op x y tx ty _ (by simp[aH]) hs (KG hm hx hy hxl hyl) (dT hb' (dT ho h2)) (dT hb' (dT ho h3)) (dT hb' (dT ho h4))).mono λr σ' ⟨q1,q2⟩=>⟨q1,?_⟩;rw[q2,nF])
 generalize hZ:GW g op x y=Z at key|-;obtain⟨z1,z2,z3⟩:=Z;simp only at key|-;clear hZ hs hx hy hxl hyl;refine gO [] Tryz.func25 (by kernel_rfl) (by conv=>lhs;reduce;dsimp only[iA]) rfl ?_;repeat' (first|simp(maxDischargeDepth:=9) -implicitDefEqProofs -dsimp only[go_sem,seval, *]|(with_reducible refine Zt λoF hoF hnF hnF'=>?_;try simp only[aa,ne_eq,not_and] at hoF)|with_reducible refine kc1 (key _ _ _ _ _ ?_ ?_ ?_ ?_) ?_|(refine fin_eq ?_;repeat' simp(maxDischargeDepth:=9) -implicitDefEqProofs -dsimp only[go_sem,seval,aD, *]))
end Go.Proofs.YtbbihmmobfmadaaGreat
namespace Go.Proofs.YtbbihmmobfmadaaGreat
open Abs Fil Fil.Bl A
theorem xi(w:Int)(v:Nat)(hv:v<18446744073709551616)(σ:aA):
  C_ 23 [.int .i64 w, .int .u64 v] σ (.tup [aD (if eZ w v then gl w v else []) .no, .int .i64 (if eZ w v then 0 else 1)]) σ:=by
 have c1:=λτ=>C7 w v hv τ;have hb:eZ w v=decide (1<=w/\w<=64/\v<=maskN w):=rfl;generalize hB:eZ w v=B at c1 hb|-;clear hB;cases B with
 |false=>
  rw[show(if (false:Bool)=true then (0:Int) else 1)=1 from rfl] at c1;rw[if_neg (by simp),if_neg (by simp)];refine gO [] Tryz.func23 (by kernel_rfl) (by conv=>lhs;reduce;dsimp only[iA]) rfl ?_;repeat' (first|simp(maxDischargeDepth:=9) -implicitDefEqProofs -dsimp only[go_sem,seval, *]|refine kc1 (c1 _) ?_|(refine fin_eq ?_;repeat' simp(maxDischargeDepth:=9) -implicitDefEqProofs -dsimp only[go_sem,seval,aD,List.map_nil, *]))
 |true=>
  rw[show(if (true:Bool)=true then (0:Int) else 1)=0 from rfl] at c1;rw[if_pos rfl,if_pos rfl];have hb':=of_decide_eq_true hb.symm;obtain⟨n,rfl⟩:∃n:Nat,w=n:=⟨w.toNat,by omega⟩;have hn:n<=64:=by omega
  clear hb;refine ACalls.virt (by kernel_rfl) 1 (λoV1 hoV1 hnV1 hnV1'=>?_);(try simp only[aa,ne_eq,not_and] at hoV1);refine gO [] Tryz.func23 (by kernel_rfl) (by conv=>lhs;reduce;dsimp only[iA]) rfl ?_;repeat' (first|simp(maxDischargeDepth:=9) -implicitDefEqProofs -dsimp only[go_sem,seval, *]|refine kc1 (c1 _) ?_)
  refine loop_rule (λi:Nat=>[(15,some (.int .i64 i)),(14,some (.int .i64 n)),(4,some (aD ((List.range i).map λi=>(v:Int)/2^i%2) (.own oV1))),(1,some (.int .u64 v)),(5,some (.int .i64 0))]) (λi=>aH σ oV1 (.grow 1 i)) (λi=>i<=n) (λi=>n-i) 0 ?_ ?_
  ·(repeat' (first|simp(maxDischargeDepth:=9) -implicitDefEqProofs -dsimp only[go_sem,seval,aD,List.range_zero,List.map_nil, *]|omega))
  intro i hi;by_cases hlt:i<n
  ·have hmn:Nat.min i 64=i:=Nat.min_eq_left (by omega);have hfd:=uo v i;have hdv:v/2^i<=v:=Nat.div_le_self _ _;have hor:=Iq (v/2^i) (by omega)
   have hr:(List.range (i+1)).map (λi=>(v:Int)/2^i%2)=(List.range i).map (λi=>(v:Int)/2^i%2)++[((v/2^i%2:Nat):Int)]:=by
    rw[List.range_succ,List.map_append];simp
   have hlt2:v/2^i%2<2:=Nat.mod_lt _ (by omega);have hm2:(v:Int)/2^i%2=((v/2^i%2:Nat):Int):=by simp
   generalize hD:v/2^i=D at hfd hor hr hlt2 hm2;generalize hM:D%2=M at hor hr hlt2 hm2;have hcv:IntKind.i64.wrap (M:Int)=(M:Int):=ah _ (by omega) (by omega);have hbd:(i+1)*8<=35184372088832:=by omega
   have hni:¬(i:Int)<0:=by omega
   clear hD hM hdv;repeat' (first|simp(maxDischargeDepth:=9) -implicitDefEqProofs -dsimp only[go_sem,seval,List.length_map,List.length_range, *]|simp(disch:=omega) only[ah,aj,ao,aw,ar,ag,au,aq]|(with_reducible refine lnx (i+1) ?_;repeat' (first|simp(maxDischargeDepth:=9) -implicitDefEqProofs -dsimp only[go_sem,seval,aD,List.map_append,List.map_cons,List.map_nil, *]|with_reducible refine And.intro ?_ ?_))|omega)
  ·have:i=n:=by omega
   subst this;repeat' (first|simp(maxDischargeDepth:=9) -implicitDefEqProofs -dsimp only[go_sem,seval, *]|(refine fin_eq ?_;repeat' simp(maxDischargeDepth:=9) -implicitDefEqProofs -dsimp only[go_sem,seval,aD,gl,Int.toNat_natCast, *]))
theorem KH(og oa oo:Nat)(g:Aig)(op:Int)(x:List Int)(tx:Tok)(σ:aA)(hf:Fine g)(hx:x.length<=1000000)
  (h1:σ og=some (.cells (gC g)))(h2:σ oa=some (.cells [aD x tx]))(h4:σ oo=some (.cells [.int .i64 op])):
  C_ 50 [.ptr og 0, .ptr oa 0, .ptr oo 0] σ (.bool (ry g op x)) σ:=by
 have c1:=λτ=>lB g x tx τ hf hx;have hM:ry g op x=(df g x&&decide (1<=op/\op<=6/\(op≠6\/x.length=1))):=rfl;generalize hMM:ry g op x=M at hM|-;generalize hX:df g x=X at c1 hM;clear hMM hX hf;cases X with
 |false=>
  simp only[Bool.false_and] at hM;subst hM;refine gO [] Tryz.func50 (by kernel_rfl) (by conv=>lhs;reduce;dsimp only[iA]) rfl ?_;repeat' (first|simp(maxDischargeDepth:=9) -implicitDefEqProofs -dsimp only[go_sem,seval, *]|refine kc1 (c1 _) ?_|refine fin_eq ?_)
 |true=>
  simp only[Bool.true_and] at hM;by_cases o1:1<=op
  case neg=>
   have e:M=false:=by rw[hM,decide_eq_false_iff_not];omega
   subst e;clear hM;refine gO [] Tryz.func50 (by kernel_rfl) (by conv=>lhs;reduce;dsimp only[iA]) rfl ?_;repeat' (first|simp(maxDischargeDepth:=9) -implicitDefEqProofs -dsimp only[go_sem,seval,gt_iff_lt, *]|refine kc1 (c1 _) ?_|refine fin_eq ?_)
  by_cases o2:op<=6
  case neg=>
   have e:M=false:=by rw[hM,decide_eq_false_iff_not];omega
   subst e;clear hM;refine gO [] Tryz.func50 (by kernel_rfl) (by conv=>lhs;reduce;dsimp only[iA]) rfl ?_;repeat' (first|simp(maxDischargeDepth:=9) -implicitDefEqProofs -dsimp only[go_sem,seval,gt_iff_lt, *]|refine kc1 (c1 _) ?_|refine fin_eq ?_)
  by_cases o3:op=6
  ·have e:M=((x.length:Int)==1):=by rw[hM,Bool.eq_iff_iff,decide_eq_true_iff,beq_iff_eq];omega
   subst e o3;clear hM;refine gO [] Tryz.func50 (by kernel_rfl) (by conv=>lhs;reduce;dsimp only[iA]) rfl ?_;repeat' (first|simp(maxDischargeDepth:=9) -implicitDefEqProofs -dsimp only[go_sem,seval,gt_iff_lt,List.length_map, *]|refine kc1 (c1 _) ?_|refine fin_eq ?_)
  ·have e:M=true:=by rw[hM,decide_eq_true_iff];omega
   have b3:(op != 6)=true:=by simpa using o3
   subst e;clear hM o3;refine gO [] Tryz.func50 (by kernel_rfl) (by conv=>lhs;reduce;dsimp only[iA]) rfl ?_;repeat' (first|simp(maxDischargeDepth:=9) -implicitDefEqProofs -dsimp only[go_sem,seval,gt_iff_lt,List.length_map, *]|refine kc1 (c1 _) ?_|refine fin_eq ?_)
theorem KI(bo oo oa:Nat)(b:Bu)(op:Int)(x:List Int)(tx:Tok)(σ:aA)(h:σ bo=some (co b))(hs:Wf b.g)(hx:∀z∈x,I64 z)(h1:1<=x.length)(hl:x.length<=1000000)(ho:1<=op/\op<=6)(h6:op=6->x.length=1)(h2:σ oa=some (.cells [aD x tx]))(h4:σ oo=some (.cells [.int .i64 op])):
  C_ 51 [.ptr bo 0, .ptr oo 0, .ptr oa 0] σ (aD ((qB op x).run b).1 .no) (aH σ bo (co ((qB op x).run b).2)):=by
 have c1:=λτ h=>It bo b op x tx τ h hs hx h1 hl ho h6;generalize hZ:(qB op x).run b=Z at c1|-;clear hZ hs hx h1 hl ho h6;refine gO [] Tryz.func51 (by kernel_rfl) (by conv=>lhs;reduce;dsimp only[iA]) rfl ?_;repeat' (first|simp(maxDischargeDepth:=9) -implicitDefEqProofs -dsimp only[go_sem,seval, *]|refine kc1 (c1 _ ?_) ?_|(refine fin_eq ?_;repeat' simp(maxDischargeDepth:=9) -implicitDefEqProofs -dsimp only[go_sem,seval,aD, *]))
theorem Iu(g:Aig)(op:Int)(x:List Int)(tx:Tok)(σ:aA)(hs:Wf g)(hx:∀z∈x,I64 z)(hxl:x.length<=1000000):
  C_ 19 [aQ g, .int .i64 op,aD x tx] σ (.tup [aQ (Un g op x).1,aD (Un g op x).2.1 .no, .int .i64 (Un g op x).2.2]) σ:=by
 have key:∀τ og oo oa,τ og=some (.cells (gC g))->τ oa=some (.cells [aD x tx])->τ oo=some (.cells [.int .i64 op])->
   C_ 37 [aQ g, .fn 50 [] [.ptr og 0, .ptr oa 0, .ptr oo 0], .fn 51 [] [.ptr oo 0, .ptr oa 0]] τ (.tup [aQ (Un g op x).1,aD (Un g op x).2.1 .no, .int .i64 (Un g op x).2.2]) τ:=λτ og oo oa h1 h2 h4=>
  nW g _ _ _ _ (ry g op x) (qB op x) τ hs
   (λh0 o z ho=>KH og oa oo g op x tx _ (dn hs h0) hxl (dT ho h1) (dT ho h2) (dT ho h4))
   (λh0 hm o z bo ho hb hne=>by
    have hb':aH τ o z bo=none:=by simp[aH,hne,hb]
    unfold ry df at hm;simp only[Bool.and_eq_true,decide_eq_true_eq] at hm;refine(KI bo oo oa ⟨g,0⟩ op x tx _ (by simp[aH]) hs hx (by omega) hxl (by omega) (by omega) (dT hb' (dT ho h2)) (dT hb' (dT ho h4))).mono λr σ' ⟨q1,q2⟩=>⟨q1,?_⟩;rw[q2,nF])
 generalize hZ:Un g op x=Z at key|-;obtain⟨z1,z2,z3⟩:=Z;simp only at key|-;clear hZ hs hx hxl;refine gO [] Tryz.func19 (by kernel_rfl) (by conv=>lhs;reduce;dsimp only[iA]) rfl ?_;repeat' (first|simp(maxDischargeDepth:=9) -implicitDefEqProofs -dsimp only[go_sem,seval, *]|(with_reducible refine Zt λoF hoF hnF hnF'=>?_;try simp only[aa,ne_eq,not_and] at hoF)|refine kc1 (key _ _ _ _ ?_ ?_ ?_) ?_|(refine fin_eq ?_;repeat' simp(maxDischargeDepth:=9) -implicitDefEqProofs -dsimp only[go_sem,seval,aD, *]))
end Go.Proofs.YtbbihmmobfmadaaGreat
namespace Go.Proofs.YtbbihmmobfmadaaGreat
open Abs Fil Fil.Bl A Go.RowKit Go.Shelf Go.Lib
def sX:Ren where
 f:=λx=>match x with
  |212=>171
  |263=>218
  |264=>219
  |n=>n
 t:=λx=>match x with
  |46=>195
  |51=>227
  |53=>33
  |146=>228
  |148=>230
  |n=>n
 g:=λx=>x
theorem Hl:Tryz.f171=Body.n212 sX:=by kernel_rfl
theorem Hm:Tryz.f218=Body.n263 sX:=by kernel_rfl
theorem Hn:Tryz.f219=Body.n264 sX:=by kernel_rfl
theorem Ho:Lays.n212 Tryz.prog sX:=
  { mixed := by kernel_rfl, f212 := Eq.trans Tryz.func171 (congrArg some Hl), f263 := Eq.trans Tryz.func218 (congrArg some Hm), f264 := Eq.trans Tryz.func219 (congrArg some Hn),
    t46:=Tryz.underlying195,a46:=Tryz.isAgg195,z46:=Tryz.sizeOf195,v46:=Tryz.zeroValue195,
    t51:=Tryz.underlying227,a51:=Tryz.isAgg227,z51:=Tryz.sizeOf227,v51:=Tryz.zeroValue227,
    t53:=Tryz.underlying33,a53:=Tryz.isAgg33,z53:=Tryz.sizeOf33,v53:=Tryz.zeroValue33,
    t146:=Tryz.underlying228,a146:=Tryz.isAgg228,z146:=Tryz.sizeOf228,v146:=Tryz.zeroValue228,
    t148:=Tryz.underlying230,a148:=Tryz.isAgg230,z148:=Tryz.sizeOf230,v148:=Tryz.zeroValue230}
theorem yz(x y:Nat)(hx:x<18446744073709551616)(hy:y<18446744073709551616)(w:World):
  CallsIn Fence.wide 7 Tryz.prog 171 #[.int .u64 x, .int .u64 y] w λe w'=>e= .returned (.tuple #[.int .u64 ((x*y/18446744073709551616:Nat):Int), .int .u64 ((x*y%18446744073709551616:Nat):Int)])/\w'=w:=
 callsIn_wide.2 (Any.bits_Mul Ho x y hx hy w)
theorem uw(c:Nat)(hc:c<=64)(W:World):∃Z:Array Value,Z.size=c/\(Instr.makeSlice 29 (.int .i64 (c:Int)) (.int .i64 (c:Int))).run Tryz.prog W= .ok (.slice (some ⟨W.heap.size,0,none⟩) c c) (W.alloc (.cells Z 3)):=by
 obtain⟨i,h1,h2,h3,h4⟩:∃i,Tryz.prog.info? 3=some i/\i.size=1/\i.bytes=8/\i.zero=some (.int .i64 0):=by
  cases h:Tryz.prog.info? 3 with
  |none=>exact absurd (show(Tryz.prog.info? 3).isSome=true by kernel_rfl) (by rw[h];simp)
  |some i=>
   refine⟨i,rfl,?_,?_,?_⟩
   ·have:(Tryz.prog.info? 3).map (·.size)=some 1:=by kernel_rfl
    rw[h] at this;simpa using this
   ·have:(Tryz.prog.info? 3).map (·.bytes)=some 8:=by kernel_rfl
    rw[h] at this;simpa using this
   ·have:(Tryz.prog.info? 3).bind (·.zero)=some (.int .i64 0):=by kernel_rfl
    rw[h] at this;simpa using this
 have:=run_makeSlice (P:=Tryz.prog) W 29 3 i (.int .i64 0) Tryz.underlying29 h1 h4 .i64 .i64 c c (by omega) (Int.le_refl _) (by rw[h2];simp;omega) (by rw[h3];omega) (by omega)
 simp only[Int.toNat_natCast,h2,Nat.mul_one] at this;exact⟨_,size_madeCells _ _,this⟩
section walks
attribute [local go_sem] Oper.semAt_some
theorem xm(b off cap:Nat)(W:World):
  CallsIn Fence.wide 8 Tryz.prog 107 #[.slice (some ⟨b,off,none⟩) 1 cap, .int .i64 0] W λe W'=>e= .returned (.slice (some ⟨W.heap.size,0,none⟩) 0 0)/\Below W.heap.size W W'/\W'.heap.size=W.heap.size+1/\∃Z t,W'.heap[W.heap.size]?=some (.cells Z t (0,0)):=by
 have hmul:=yz 1 0 (by omega) (by omega) W;have e1:1*0/18446744073709551616=0:=by omega
 have e2:1*0%18446744073709551616=0:=by omega
 rw[e1,e2] at hmul;obtain⟨Z,hZ,hmake⟩:=uw 0 (by omega) W;generalize hW1:W.alloc (.cells Z 3)=W1 at hmake;have hB1:Below W.heap.size W W1:=by rw[<-hW1];exact(Below.refl _ _).alloc (Nat.le_refl _) _
 have hs1:W1.heap.size=W.heap.size+1:=by rw[<-hW1];simp
 have hr1:W1.heap[W.heap.size]?=some (.cells Z 3 (0,0)):=by rw[<-hW1];exact World.alloc_heap_new _ _
 generalize hB:W.heap.size=B at hmake hB1 hs1 hr1|-;have hcp1:=run_copy_none (P:=Tryz.prog) W1 29 29 3 3 (some ⟨B,0,none⟩) (some ⟨b,off,none⟩) 0 0 1 cap Tryz.underlying29 (by kernel_rfl) (by rfl);clear hW1 hZ;simp only[Int.natCast_zero] at hmul hmake;refine callsIn_of_wp Tryz.func107 rfl trivial ?_ rfl;simp only[Tryz.ntmps107,List.size_toArray,List.length_cons,List.length_nil,Nat.reduceAdd,Nat.reduceSub,Array.replicate_succ,Array.replicate_zero,List.push_toArray,List.append_toArray,List.nil_append,List.cons_append];gi_wp2
 refine⟨trivial,CallsIn.mono hmul ?_⟩;rintro e w' ⟨rfl,hww⟩;rw[hww];clear hww w';gi_wp2
 gi_loopw [8] (λi wr=>i= .int .i64 0/\wr=W1) (λ_ _=>0)
 case atStart=>exact⟨rfl,rfl⟩
 case round=>
  obtain⟨rfl,rfl⟩:=hrel;gi_wp2
  go_ret
  exact⟨rfl,hB1,hs1,_,_,hr1⟩
theorem xn(b off cap:Nat)(m:Int)(c:Nat)(hc:1<=c/\c<=64)(W:World)(hcell:W.cell? ⟨b,off,none⟩=some (.int .i64 m)):
  CallsIn Fence.wide 8 Tryz.prog 107 #[.slice (some ⟨b,off,none⟩) 1 cap, .int .i64 c] W λe W'=>e= .returned (.slice (some ⟨W.heap.size,0,none⟩) c c)/\Below W.heap.size W W'/\W'.heap.size=W.heap.size+1/\∃t,W'.heap[W.heap.size]?=some (.cells (Array.replicate c (.int .i64 m)) t (0,0)):=by
 have hmul:=yz 1 c (by omega) (by omega) W;have e1:1*c/18446744073709551616=0:=by omega
 have e2:1*c%18446744073709551616=c:=by omega
 rw[e1,e2] at hmul;obtain⟨Z,hZ,hmake⟩:∃Z:Array Value,Z.size=c/\(Instr.makeSlice 29 (.int .i64 (c:Int)) (.int .i64 (c:Int))).run Tryz.prog W= .ok (.slice (some ⟨W.heap.size,0,none⟩) c c) (W.alloc (.cells Z 3)):=uw c (by omega) W;generalize hW1:W.alloc (.cells Z 3)=W1 at hmake;have hB1:Below W.heap.size W W1:=by rw[<-hW1];exact(Below.refl _ _).alloc (Nat.le_refl _) _
 have hs1:W1.heap.size=W.heap.size+1:=by rw[<-hW1];simp
 have hr1:W1.heap[W.heap.size]?=some (.cells Z 3 (0,0)):=by rw[<-hW1];exact World.alloc_heap_new _ _
 have hblt:b<W.heap.size:=block_lt_of_cell hcell;have hc1:W1.cell? ⟨b,off,none⟩=some (.int .i64 m):=(hB1.cell (p:=⟨b,off,none⟩) hblt).trans hcell;generalize hB:W.heap.size=B at hmake hB1 hs1 hr1 hblt|-
 have hcp1:=run_copy_row (P:=Tryz.prog) W1 29 29 3 3 B 0 c c ⟨b,off,none⟩ 1 cap Z 3 [.int .i64 m] Tryz.underlying29 (by kernel_rfl) hr1 (by show 1=min 1 c;omega) (λj v h=>by
  cases j with
  |zero=>simp at h;subst h;simpa [Addr.add] using hc1
  |succ j=>simp at h) (by simp;omega) (by simp[Value.oneCell'])
 simp only[List.length_singleton] at hcp1;clear hW1;refine callsIn_of_wp Tryz.func107 rfl trivial ?_ rfl;simp only[Tryz.ntmps107,List.size_toArray,List.length_cons,List.length_nil,Nat.reduceAdd,Nat.reduceSub,Array.replicate_succ,Array.replicate_zero,List.push_toArray,List.append_toArray,List.nil_append,List.cons_append];gi_wp2
 refine⟨trivial,CallsIn.mono hmul ?_⟩;rintro e w' ⟨rfl,hww⟩;rw[hww];clear hww w';gi_wp2
 have hmix:Tryz.prog.follows .mixedOrders=true:=mixed
 gi_loopw [8] (λi wr=>∃n:Nat,1<=n/\n<=c/\i= .int .i64 n/\Below B W wr/\wr.heap.size=B+1/\wr.heap[B]?=some (.cells (List.replicate n (Value.int .i64 m)++Z.toList.drop n).toArray 3 (0,0)))
  (λi _=>c-(intOf i).toNat)
 case atStart=>
  refine⟨1,by omega,by omega,rfl,below_setRow hB1 (Nat.le_refl _) _,?_,?_⟩
  ·simp[World.setRow,hs1]
  ·rw[setRow_heap _ _ _ _ _ _ hr1];simp
 case round=>
  obtain⟨n,hn1,hnc,rfl,hBw,hsw,hrw⟩:=hrel;by_cases hlt:n<c
  ·obtain⟨k,hk⟩:∃k,min n (c-n)=k:=⟨_,rfl⟩
   have hcp2:=run_copy_row (P:=Tryz.prog) wr.drew 29 29 3 3 B n (c-n) (c-n) ⟨B,0,none⟩ n c (List.replicate n (Value.int .i64 m)++Z.toList.drop n).toArray 3 (List.replicate k (.int .i64 m)) Tryz.underlying29 (by kernel_rfl) hrw (by rw[List.length_replicate];exact hk.symm) (λj v h=>by
    have hj:j<k:=by
     have:=(List.getElem?_eq_some_iff.1 h).1
     simpa using this
    have hv:v= .int .i64 m:=by
     rw[List.getElem?_replicate,if_pos hj] at h;simpa using h.symm
    subst hv;have hadd:(⟨B,0,none⟩:Addr).add j=⟨B,j,none⟩:=by unfold Addr.add;split<;>simp_all
    rw[hadd];show wr.cell? ⟨B,j,none⟩=_
    simp only[World.cell?,hrw]
    have:(List.replicate n (Value.int .i64 m)++Z.toList.drop n)[j]?=some (.int .i64 m):=by
     rw[List.getElem?_append_left (by simp;omega),List.getElem?_replicate,if_pos (by omega)]
    simpa using this) (by simp[hZ];omega) (λv hv=>by rw[(List.mem_replicate.1 hv).2];rfl)
   simp only[List.length_replicate] at hcp2;gi_wp2
   gi_region
   go_roundw
   case rel=>
    refine⟨_,_,_,_,_,_,_,_,_,_,_,_,_,_,⟨n+k,by omega,by omega,by simp,below_setRow hBw.drew (Nat.le_refl _) _,?_,?_⟩,rfl⟩
    ·rw[setRow_size];exact hsw
    ·rw[setRow_heap wr.drew _ _ _ _ _ hrw]
     have e:List.drop (n+k) (List.replicate n (Value.int .i64 m)++Z.toList.drop n)=Z.toList.drop (n+k):=by
      rw[List.drop_append,List.length_replicate,Nat.add_sub_cancel_left,List.drop_drop,List.drop_eq_nil_of_le (by simp),List.nil_append]
     rw[e]
   case measure=>simp[intOf];omega
  ·obtain rfl:n=c:=by omega
   gi_wp2
   go_ret
   refine⟨rfl,hBw,hsw,3,?_⟩;rw[hrw,List.drop_eq_nil_of_le (by simp[hZ])];simp
end walks
theorem rI{w w':World}{ob:Obj}(h:Below w.heap.size w w')(hs:w'.heap.size=w.heap.size+1)(ho:w'.heap[w.heap.size]?=some ob):Pushed w w' ob:=by
 refine⟨h.os,h.tape,h.output,Array.ext_getElem? λi=>?_⟩;rcases Nat.lt_trichotomy i w.heap.size with hi|hi|hi
 ·rw[h.block i hi,Array.getElem?_push,if_neg (by omega)]
 ·subst hi;rw[ho];simp
 ·rw[Array.getElem?_eq_none (by omega),Array.getElem?_eq_none (by simp;omega)]
theorem Az(m:Int)(t:Tok)(c:Nat)(hc:c<=64)(σ:aA):
  C_ 107 [aD [m] t, .int .i64 c] σ (aD (List.replicate c m) .no) σ:=by
 refine⟨by kernel_rfl,λS K w vals hS hr hs=>?_⟩;obtain⟨v0,r,hv,h1,h2⟩:=hr.cons_inv;obtain⟨v1,r',rfl,h3,h4⟩:=h2.cons_inv;have hr0:r'=[]:=by have:=h4.1;simpa using this.symm
 subst hr0;obtain rfl:=iE hv
 obtain rfl:=aN h3
 rcases rel_slice h1 with ⟨a,cap,rfl,e1,_⟩|⟨b,off,cap,sz,u,rfl,u1,u2,u3,_,_⟩
 ·simp at e1
 have hcl:K.claim b off=some (.int .i64 m):=by
  have h5:=u2 0 (by simp[flat,az]);have h6:=u3 0 (by simp[flat,az]);have h7:Rel K (.int .i64 m) (u 0):=by simpa [flat,az] using h6
  rw[aN h7] at h5;simpa using h5
 by_cases hc0:c=0
 ·subst hc0;refine(callsIn_wide.1 (xm b off cap w)).mono ?_;rintro e w' ⟨rfl,h5,h6,Z,tt,h7⟩;obtain⟨k1,k2⟩:=hs.push (rI h5 h6 h7) rfl (λ_=>none) (λi v e=>by simp at e);exact⟨_, .ret (aD [] .no),σ,Gh.leS_own k1 rfl,k2, .sl0 _ _ _ (.inl rfl),rfl,rfl⟩
 ·refine(callsIn_wide.1 (xn b off cap m c (by omega) w (hs.claim b off _ hcl))).mono ?_;rintro e w' ⟨rfl,h5,h6,tt,h7⟩
  obtain⟨k1,k2⟩:=hs.push (rI h5 h6 h7) rfl (λi=>if i<c then some (.int .i64 m) else none) (λi v e=>by
   split at e<;>simp at e
   rename_i hi
   subst e;exact⟨by simp[World.cell?,h7,hi],rfl⟩)
  have hfl:=iJ (List.replicate c m);refine⟨_, .ret (aD (List.replicate c m) .no),σ,Gh.leS_own k1 rfl,k2,?_,rfl,rfl⟩;have hlen:((List.replicate c m).map λx=>AV.int .i64 x).length=c:=by simp
  show Rel _ (aD (List.replicate c m) .no) _
  have:=Rel.slice (K:=K.claimed w.heap.size λi=>if i<c then some (.int .i64 m) else none) ((List.replicate c m).map λx=>AV.int .i64 x) .no w.heap.size 0 c 1 (λ_=> .int .i64 m) (λx hx=>by
   obtain⟨y,_,rfl⟩:=List.mem_map.1 hx;rfl) (λi hi=>by
   rw[hfl,hlen] at hi;simp[Gh.claimed,hi]) (λi hi=>by
   rw[hfl,hlen] at hi;simp only[hfl,List.getElem_map,List.getElem_replicate];exact .int _ _) trivial (by rw[hlen];exact Nat.le_refl _)
  rw[hlen] at this;exact this
end Go.Proofs.YtbbihmmobfmadaaGreat
namespace Go.Proofs.YtbbihmmobfmadaaGreat
open Abs Fil Fil.Bl A
theorem Dl{P:Program}{f:FuncId}{args:List AV}{σ:aA}{l:List AV}{sz n:Nat}(h:ACalls P f args σ (λr σ'=>(l=[]/\r= .ret (.slice [] .nil)/\σ'=σ)\/ub σ (λo=> .slice l (.own o)) (.grow sz n) r σ')):
  ACalls P f args σ (λr σ'=>r= .ret (.slice l .no)/\σ'=σ):=by
 refine h.view λr s h=>?_;rcases h with ⟨rfl,rfl,rfl⟩|⟨o,ho,rfl,rfl⟩
 ·exact⟨_, .slice [] .no,_,rfl,vr_of (by simp only[go_sem]) (by simp only[go_sem]),rfl,rfl⟩
 ·exact⟨_, .slice l .no,_,rfl,vr_of (by simp only[go_sem]) (by simp only[go_sem,ho,implies_true,ne_eq,not_true_eq_false,reduceCtorEq,not_false_eq_true]),rfl,rfl⟩
theorem ux(n:Int)(σ:aA)(h0:0<n)(hb1:n*8<=35184372088832)(hn2:n<=1000000000000):
  ACalls Tryz.prog 146 [.slice [] .nil, .int .i64 n] σ (λr σ'=>∃o,σ o=none/\r= .ret (.slice [] (.own o))/\σ'=aH σ o (.grow 1 0)):=
 CM (sz:=1) (bytes:=8) mixed Tryz.func146 b146 n146 rfl q146 n h0 (by simpa using hb1) hn2
theorem sY(σ:aA):C_ 146 [.slice [] .nil, .int .i64 0] σ (.slice [] .nil) σ:=
 Aj (sz:=1) (bytes:=8) mixed Tryz.func146 b146 n146 rfl q146
theorem pC(ls:List (List Int))(σ:aA)(hlen:ls.length<=1000000)(htot:ls.flatten.length<=1000000000):
  C_ 79 [.slice (ls.map (mq encInt)) .no] σ (.slice (ls.flatten.map encInt) .no) σ:=by
 refine Dl (sz:=1) (n:=ls.flatten.length) ?_;refine(wH (sz:=1) (bytes:=8) mixed Tryz.func79 b79 n79 rfl q79 (λ_=>rfl) (λσ n h1 h2 h3=>ux n σ h1 (by simpa using h2) h3) sY ls hlen htot (by decide)).mono λr s h=>?_;rcases h with ⟨h1,h2,h3⟩|h
 ·exact .inl ⟨by rw[h1];rfl,h2,h3⟩
 ·exact .inr h
theorem uy(a b:List Int)(σ:aA)(h:a.length+b.length<=1000000000):
  C_ 79 [.slice [aD a .no,aD b .no] .no] σ (aD (a++b) .no) σ:=by
 have:=pC [a,b] σ (by simp) (by simpa using h)
 rw[show[a,b].flatten=a++b by simp] at this;exact this
theorem nk(a b:List Int)(t:Tok)(σ:aA)(h:a.length+b.length<=1000000000):
  C_ 79 [.slice [aD a t,aD b .no] .full] σ (aD (a++b) .no) σ:=
 ACalls.fl (uy a b σ h) (.cons (.slice _ _ _ _ (.inl rfl) rfl λi h0 h1=>by
  match i,h0,h1 with
  |0,_,_=>exact .slice _ _ _ _ (.inl rfl) rfl λ_ _ _=> .refl _
  |1,_,_=>exact .refl _) (.refl _ _)) (λo _ x e=>⟨x,e, .refl _ x⟩)
theorem pD(m:Int)(t:Tok)(c:Nat)(hc:c<=64)(σ:aA):
  C_ 107 [.slice [.int .i64 m] t, .int .i64 c] σ (aD (List.replicate c m) .no) σ:=Az m t c hc σ
theorem rJ(l:List Int)(t:Tok)(σ:aA)(h:l.length<=1000000):
  C_ 76 [aD l t] σ (aD l .no) σ:=by
 refine gO [] Tryz.func76 (by kernel_rfl) (by conv=>lhs;reduce;dsimp only[iA]) rfl ?_;cases l with
 |nil=>
  repeat' simp(maxDischargeDepth:=9) -implicitDefEqProofs -dsimp only[go_sem,seval,List.map_nil, *]
  refine⟨?_,?_⟩
  ·refine fin_eq ?_;(repeat' simp(maxDischargeDepth:=9) -implicitDefEqProofs -dsimp only[go_sem,seval,List.map_nil,aD, *])
  ·refine fin_eq ?_;(repeat' simp(maxDischargeDepth:=9) -implicitDefEqProofs -dsimp only[go_sem,seval,List.map_nil,aD, *])
 |cons x l=>
  have h':l.length<=999999:=by simp only[List.length_cons] at h;omega
  repeat' (first|simp(maxDischargeDepth:=9) -implicitDefEqProofs -dsimp only[go_sem,seval,List.map_cons, *]|simp(disch:=omega) only[ah,aj,ao,aw,ar,ag,au,aq]|with_reducible refine Zv ?_ ?_|(with_reducible refine Zt λoF hoF hnF hnF'=>?_;try simp only[aa,ne_eq,not_and] at hoF)|omega)
  all_goals first|(exfalso;simp at hq;done)|skip
  refine fin_eq ?_;(repeat' simp(maxDischargeDepth:=9) -implicitDefEqProofs -dsimp only[go_sem,seval,List.map_cons,List.nil_append,aD, *])
theorem np(op:Int)(w:Nat)(a:List Int)(t:Tok)(σ:aA)(h1:1<=a.length)(hl:a.length<=64)(hw:1<=w/\w<=64)(ho:(op=31\/op=32)/\a.length<=w\/op=33/\w<=a.length):
  C_ 56 [.int .i64 op, .int .i64 w,aD a t] σ (aD (ff op w a) .no) σ:=by
 rcases ho with ⟨h31|h32,hle⟩|⟨h33,hle⟩
 ·subst h31;have e:ff 31 w a=a++List.replicate (w-a.length) 0:=by unfold ff;rw[if_neg (by decide),if_neg (by decide)];simp
  rw[e];have c1:=λτ=>pD 0 .full (w-a.length) (by omega) τ;have c2:=λτ=>nk a (List.replicate (w-a.length) 0) t τ (by simp;omega);have hsub:(w:Int)-(a.length:Int)=((w-a.length:Nat):Int):=by omega
  clear e;refine gO [] Tryz.func56 (by kernel_rfl) (by conv=>lhs;reduce;dsimp only[iA]) rfl ?_;repeat' (first|simp(maxDischargeDepth:=9) -implicitDefEqProofs -dsimp only[go_sem,seval,List.length_map, *]|simp(disch:=omega) only[ah,aj,ao,aw,ar,ag,au,aq]|with_reducible refine kc1 (c1 _) ?_|with_reducible refine kc1 (c2 _) ?_|(refine fin_eq ?_;repeat' simp(maxDischargeDepth:=9) -implicitDefEqProofs -dsimp only[go_sem,seval,aD, *]))
 ·subst h32;have e:ff 32 w a=a++List.replicate (w-a.length) (gt a (a.length-1)):=by unfold ff;rw[if_neg (by decide),if_pos rfl];simp
  rw[e];obtain⟨m,hm⟩:∃m,gt a (a.length-1)=m:=⟨_,rfl⟩
  have hgx:(a.map λx=>AV.int .i64 x)[a.length-1]?=some (.int .i64 m):=by
   rw[<-hm];simp[gt,List.getD_eq_getElem?_getD,show a.length-1<a.length by omega]
  rw[hm];have c1:=λτ=>pD m .full (w-a.length) (by omega) τ;have c2:=λτ=>nk a (List.replicate (w-a.length) m) t τ (by simp;omega);have hsub:(w:Int)-(a.length:Int)=((w-a.length:Nat):Int):=by omega
  have hsub1:(a.length:Int)-1=((a.length-1:Nat):Int):=by omega
  have hlt:a.length-1<a.length:=by omega
  clear e hm;refine gO [] Tryz.func56 (by kernel_rfl) (by conv=>lhs;reduce;dsimp only[iA]) rfl ?_;repeat' (first|simp(maxDischargeDepth:=9) -implicitDefEqProofs -dsimp only[go_sem,seval,List.length_map, *]|simp(disch:=omega) only[ah,aj,ao,aw,ar,ag,au,aq]|with_reducible refine kc1 (c1 _) ?_|with_reducible refine kc1 (c2 _) ?_|(refine fin_eq ?_;repeat' simp(maxDischargeDepth:=9) -implicitDefEqProofs -dsimp only[go_sem,seval,aD, *]))
 ·subst h33;have e:ff 33 w a=a.take w:=by unfold ff;rw[if_pos rfl];simp
  rw[e]
  have c1:∀τ,C_ 76 [.slice (List.take w (a.map λx=>AV.int .i64 x)) .no] τ (aD (a.take w) .no) τ:=λτ=>by
   have:=rJ (a.take w) .no τ (by simp;omega)
   rw[show aD (a.take w) .no= .slice (List.take w (a.map λx=>AV.int .i64 x)) .no by rw[aD,List.map_take]] at this|-;exact this
  clear e;refine gO [] Tryz.func56 (by kernel_rfl) (by conv=>lhs;reduce;dsimp only[iA]) rfl ?_;repeat' (first|simp(maxDischargeDepth:=9) -implicitDefEqProofs -dsimp only[go_sem,seval,List.length_map, *]|with_reducible refine kc1 (c1 _) ?_|(refine fin_eq ?_;repeat' simp(maxDischargeDepth:=9) -implicitDefEqProofs -dsimp only[go_sem,seval,aD, *]))
theorem Hp(og oa ow oo:Nat)(g:Aig)(op w:Int)(x:List Int)(tx:Tok)(σ:aA)(hf:Fine g)(hx:x.length<=1000000)
  (h1:σ og=some (.cells (gC g)))(h2:σ oa=some (.cells [aD x tx]))(h3:σ ow=some (.cells [.int .i64 w]))(h4:σ oo=some (.cells [.int .i64 op])):
  C_ 54 [.ptr og 0, .ptr oa 0, .ptr ow 0, .ptr oo 0] σ (.bool (mu g op w x)) σ:=by
 have c1:=λτ=>lB g x tx τ hf hx;have hM:mu g op w x=(df g x&&decide (1<=w/\w<=64/\31<=op/\op<=33/\(w=x.length\/(w<x.length↔op=33)))):=rfl;generalize hMM:mu g op w x=M at hM|-;generalize hX:df g x=X at c1 hM;clear hMM hX hf;cases X with
 |false=>
  simp only[Bool.false_and] at hM;subst hM;refine gO [] Tryz.func54 (by kernel_rfl) (by conv=>lhs;reduce;dsimp only[iA]) rfl ?_;repeat' (first|simp(maxDischargeDepth:=9) -implicitDefEqProofs -dsimp only[go_sem,seval, *]|with_reducible refine kc1 (c1 _) ?_|refine fin_eq ?_)
 |true=>
  simp only[Bool.true_and] at hM;by_cases o1:w<1
  ·have e:M=false:=by rw[hM,decide_eq_false_iff_not];omega
   subst e;clear hM;refine gO [] Tryz.func54 (by kernel_rfl) (by conv=>lhs;reduce;dsimp only[iA]) rfl ?_;repeat' (first|simp(maxDischargeDepth:=9) -implicitDefEqProofs -dsimp only[go_sem,seval,gt_iff_lt, *]|with_reducible refine kc1 (c1 _) ?_|refine fin_eq ?_)
  by_cases o2:64<w
  ·have e:M=false:=by rw[hM,decide_eq_false_iff_not];omega
   subst e;clear hM;refine gO [] Tryz.func54 (by kernel_rfl) (by conv=>lhs;reduce;dsimp only[iA]) rfl ?_;repeat' (first|simp(maxDischargeDepth:=9) -implicitDefEqProofs -dsimp only[go_sem,seval,gt_iff_lt, *]|with_reducible refine kc1 (c1 _) ?_|refine fin_eq ?_)
  by_cases o3:op<31
  ·have e:M=false:=by rw[hM,decide_eq_false_iff_not];omega
   subst e;clear hM;refine gO [] Tryz.func54 (by kernel_rfl) (by conv=>lhs;reduce;dsimp only[iA]) rfl ?_;repeat' (first|simp(maxDischargeDepth:=9) -implicitDefEqProofs -dsimp only[go_sem,seval,gt_iff_lt, *]|with_reducible refine kc1 (c1 _) ?_|refine fin_eq ?_)
  by_cases o4:33<op
  ·have e:M=false:=by rw[hM,decide_eq_false_iff_not];omega
   subst e;clear hM;refine gO [] Tryz.func54 (by kernel_rfl) (by conv=>lhs;reduce;dsimp only[iA]) rfl ?_;repeat' (first|simp(maxDischargeDepth:=9) -implicitDefEqProofs -dsimp only[go_sem,seval,gt_iff_lt, *]|with_reducible refine kc1 (c1 _) ?_|refine fin_eq ?_)
  by_cases o5:w=x.length
  ·have e:M=true:=by rw[hM,decide_eq_true_iff];exact⟨by omega,by omega,by omega,by omega, .inl o5⟩
   have b5:(w==(x.length:Int))=true:=by rw[beq_iff_eq];exact o5
   subst e;clear hM o5;refine gO [] Tryz.func54 (by kernel_rfl) (by conv=>lhs;reduce;dsimp only[iA]) rfl ?_;repeat' (first|simp(maxDischargeDepth:=9) -implicitDefEqProofs -dsimp only[go_sem,seval,gt_iff_lt,List.length_map, *]|with_reducible refine kc1 (c1 _) ?_|refine fin_eq ?_)
  ·have b5:(w==(x.length:Int))=false:=by rw[beq_eq_false_iff_ne];exact o5
   have e:M=(decide (w<(x.length:Int))==(op==33)):=by
    rw[hM,Bool.eq_iff_iff,decide_eq_true_iff,beq_iff_eq,Bool.eq_iff_iff,decide_eq_true_iff,beq_iff_eq];constructor
    ·rintro⟨_,_,_,_,h|h⟩
     ·exact absurd h o5
     ·exact h
    ·intro h;exact⟨by omega,by omega,by omega,by omega, .inr h⟩
   subst e;clear hM o5;refine gO [] Tryz.func54 (by kernel_rfl) (by conv=>lhs;reduce;dsimp only[iA]) rfl ?_;repeat' (first|simp(maxDischargeDepth:=9) -implicitDefEqProofs -dsimp only[go_sem,seval,gt_iff_lt,List.length_map, *]|with_reducible refine kc1 (c1 _) ?_|refine fin_eq ?_)
theorem Hq(bo oo ow oa:Nat)(b:Bu)(op:Int)(w:Nat)(x:List Int)(tx:Tok)(σ:aA)(h:σ bo=some (co b))(h1:1<=x.length)(hl:x.length<=64)(hw:1<=w/\w<=64)(ho:(op=31\/op=32)/\x.length<=w\/op=33/\w<=x.length)(h2:σ oa=some (.cells [aD x tx]))(h3:σ ow=some (.cells [.int .i64 w]))(h4:σ oo=some (.cells [.int .i64 op])):
  C_ 55 [.ptr bo 0, .ptr oo 0, .ptr ow 0, .ptr oa 0] σ (aD (ff op w x) .no) σ:=by
 have c1:=λτ=>np op w x tx τ h1 hl hw ho;generalize hZ:ff op w x=Z at c1|-;clear hZ h1 hl hw ho;refine gO [] Tryz.func55 (by kernel_rfl) (by conv=>lhs;reduce;dsimp only[iA]) rfl ?_;repeat' (first|simp(maxDischargeDepth:=9) -implicitDefEqProofs -dsimp only[go_sem,seval, *]|with_reducible refine kc1 (c1 _) ?_|(refine fin_eq ?_;repeat' simp(maxDischargeDepth:=9) -implicitDefEqProofs -dsimp only[go_sem,seval,aD, *]))
theorem KJ(g:Aig)(op w:Int)(x:List Int)(tx:Tok)(σ:aA)(hs:Wf g)(hxl:x.length<=1000000):
  C_ 21 [aQ g, .int .i64 op, .int .i64 w,aD x tx] σ (.tup [aQ (Ext g op w x).1,aD (Ext g op w x).2.1 .no, .int .i64 (Ext g op w x).2.2]) σ:=by
 have key:∀τ og oo ow oa,τ og=some (.cells (gC g))->τ oa=some (.cells [aD x tx])->τ ow=some (.cells [.int .i64 w])->τ oo=some (.cells [.int .i64 op])->
   C_ 37 [aQ g, .fn 54 [] [.ptr og 0, .ptr oa 0, .ptr ow 0, .ptr oo 0], .fn 55 [] [.ptr oo 0, .ptr ow 0, .ptr oa 0]] τ (.tup [aQ (Ext g op w x).1,aD (Ext g op w x).2.1 .no, .int .i64 (Ext g op w x).2.2]) τ:=λτ og oo ow oa h1 h2 h3 h4=>
  nW g _ _ _ _ (mu g op w x) (.ret (ff op w x)) τ hs
   (λh0 o z ho=>Hp og oa ow oo g op w x tx _ (dn hs h0) hxl (dT ho h1) (dT ho h2) (dT ho h3) (dT ho h4))
   (λh0 hm o z bo ho hb hne=>by
    have hb':aH τ o z bo=none:=by simp[aH,hne,hb]
    unfold mu df at hm;simp only[Bool.and_eq_true,decide_eq_true_eq] at hm;obtain⟨⟨⟨m1,m2⟩,m3⟩,m4,m5,m6,m7,m8⟩:=hm;obtain⟨n,rfl⟩:∃n:Nat,w=n:=⟨w.toNat,by omega⟩
    have hn:(op=31\/op=32)/\x.length<=n\/op=33/\n<=x.length:=by
     rcases m8 with m8|m8
     ·omega
     ·by_cases h33:op=33
      ·exact .inr ⟨h33,by have:=m8.2 h33;omega⟩
      ·refine .inl ⟨by omega,?_⟩;have:=λh=>h33 (m8.1 h)
       omega
    refine(Hq bo oo ow oa ⟨g,0⟩ op n x tx _ (by simp[aH]) (by omega) m2 (by omega) hn (dT hb' (dT ho h2)) (dT hb' (dT ho h3)) (dT hb' (dT ho h4))).mono λr σ' ⟨q1,q2⟩=>⟨q1,q2⟩)
 generalize hZ:Ext g op w x=Z at key|-;obtain⟨z1,z2,z3⟩:=Z;simp only at key|-;clear hZ hs hxl;refine gO [] Tryz.func21 (by kernel_rfl) (by conv=>lhs;reduce;dsimp only[iA]) rfl ?_;repeat' (first|simp(maxDischargeDepth:=9) -implicitDefEqProofs -dsimp only[go_sem,seval, *]|(with_reducible refine Zt λoF hoF hnF hnF'=>?_;try simp only[aa,ne_eq,not_and] at hoF)|with_reducible refine kc1 (key _ _ _ _ _ ?_ ?_ ?_ ?_) ?_|(refine fin_eq ?_;repeat' simp(maxDischargeDepth:=9) -implicitDefEqProofs -dsimp only[go_sem,seval,aD, *]))
end Go.Proofs.YtbbihmmobfmadaaGreat
namespace Go.Proofs.YtbbihmmobfmadaaGreat
open Abs Fil Fil.Bl A
theorem lD:Wf ⟨2,[],[],[]⟩:=⟨by simp[I64],by simp,by simp,by simp,by simp,by simp,by simp⟩
theorem MX{x y:Int}(hx:I64 x)(hy:I64 y):∀z∈[x,y],I64 z:=by simp[hx,hy]
theorem MC{x:Int}(hx:I64 x):∀z∈[x],I64 z:=by simp[hx]
abbrev uz:AV:= .agg [.int .i64 2, .slice [] .no, .slice [] .no, .slice [] .no]
abbrev Mh:AV:= .agg [.int .i64 0, .slice [] .no, .slice [] .no, .slice [] .no]
theorem dZ{x:Int}(h: -100<=x/\x<=100):I64 x:=by unfold I64;omega
theorem KL(τ:aA):C_ 29 [.int .i64 2, .slice [] .nil] τ (.tup [uz, .int .i64 0]) τ:=by
 have h:=GK 2 [] τ (dZ (by decide)) (by simp);rw[show Aig.New 2 []=(⟨2,[],[],[]⟩,0) by decide] at h;exact ACalls.fl h (.cons (.refl _) (.cons (.slice _ _ _ _ (.inl rfl) rfl λi h _=>by simp at h) (.nil _))) (λo _ x e=>⟨x,e, .refl _ x⟩)
theorem KM(τ:aA):ACalls Tryz.prog 25 [uz, .int .i64 14, .slice [.int .i64 2] .full, .slice [.int .i64 4] .full] τ
  (λr σ'=>r= .ret (.tup [.agg [.int .i64 2, .slice [] .no, .slice [encGate (2,5),encGate (3,4),encGate (7,9),encGate (2,4)] .no, .slice [] .no], .slice [.int .i64 11] .no, .int .i64 0])/\σ'=τ):=by
 have h:=Dk ⟨2,[],[],[]⟩ 14 [2] [4] .full .full τ lD (MC (dZ (by decide))) (MC (dZ (by decide))) (by simp) (by simp);rw[show GW ⟨2,[],[],[]⟩ 14 [2] [4]=(⟨2,[],[(2,5),(3,4),(7,9),(2,4)],[]⟩,[11],0) by decide] at h;exact h
theorem Hr(τ:aA):ACalls Tryz.prog 25 [uz, .int .i64 14, .slice [.int .i64 2] .full, .slice [.int .i64 4, .int .i64 0] .full] τ
  (λr σ'=>r= .ret (.tup [Mh, .slice [] .no, .int .i64 1])/\σ'=τ):=by
 have h:=Dk ⟨2,[],[],[]⟩ 14 [2] [4,0] .full .full τ lD (MC (dZ (by decide))) (MX (dZ (by decide)) (dZ (by decide))) (by simp) (by simp);rw[show GW ⟨2,[],[],[]⟩ 14 [2] [4,0]=(⟨0,[],[],[]⟩,[],1) by decide] at h;exact h
theorem Mi(τ:aA):ACalls Tryz.prog 19 [uz, .int .i64 1, .slice [.int .i64 2, .int .i64 5] .full] τ
  (λr σ'=>r= .ret (.tup [uz, .slice [.int .i64 3, .int .i64 4] .no, .int .i64 0])/\σ'=τ):=by
 have h:=Iu ⟨2,[],[],[]⟩ 1 [2,5] .full τ lD (MX (dZ (by decide)) (dZ (by decide))) (by simp);rw[show Un ⟨2,[],[],[]⟩ 1 [2,5]=(⟨2,[],[],[]⟩,[3,4],0) by decide] at h;exact h
theorem KN(τ:aA):ACalls Tryz.prog 19 [uz, .int .i64 1, .slice [.int .i64 6] .full] τ
  (λr σ'=>r= .ret (.tup [Mh, .slice [] .no, .int .i64 1])/\σ'=τ):=by
 have h:=Iu ⟨2,[],[],[]⟩ 1 [6] .full τ lD (MC (dZ (by decide))) (by simp);rw[show Un ⟨2,[],[],[]⟩ 1 [6]=(⟨0,[],[],[]⟩,[],1) by decide] at h;exact h
theorem KO(τ:aA):ACalls Tryz.prog 21 [uz, .int .i64 32, .int .i64 3, .slice [.int .i64 2, .int .i64 4] .full] τ
  (λr σ'=>r= .ret (.tup [uz, .slice [.int .i64 2, .int .i64 4, .int .i64 4] .no, .int .i64 0])/\σ'=τ):=by
 have h:=KJ ⟨2,[],[],[]⟩ 32 3 [2,4] .full τ lD (by simp);rw[show Ext ⟨2,[],[],[]⟩ 32 3 [2,4]=(⟨2,[],[],[]⟩,[2,4,4],0) by decide] at h;exact h
theorem KP(τ:aA):ACalls Tryz.prog 23 [.int .i64 4, .int .u64 10] τ
  (λr σ'=>r= .ret (.tup [.slice [.int .i64 0, .int .i64 1, .int .i64 0, .int .i64 1] .no, .int .i64 0])/\σ'=τ):=by
 have h:=xi 4 10 (by decide) τ;rw[show eZ 4 10=true by decide,if_pos rfl,if_pos rfl,show gl 4 ((10:Nat):Int)=[0,1,0,1] by decide] at h;exact h
theorem Hs(τ:aA):ACalls Tryz.prog 23 [.int .i64 2, .int .u64 4] τ
  (λr σ'=>r= .ret (.tup [.slice [] .no, .int .i64 1])/\σ'=τ):=by
 have h:=xi 2 4 (by decide) τ;rw[show eZ 2 4=false by decide,if_neg (by simp),if_neg (by simp)] at h;exact h
theorem gG(σ:aA):C_ 7 [] σ (.bool true) σ:=by
 refine gO [] Tryz.func7 (by kernel_rfl) (by conv=>lhs;reduce;dsimp only[iA]) rfl ?_;repeat' (first|simp(maxDischargeDepth:=9) -implicitDefEqProofs -dsimp only[go_sem,seval, *]|simp(disch:=omega) only[ah,aj,ao,aw,ar,ag,au,aq]|(with_reducible refine Zt λoF hoF hnF hnF'=>?_;try simp only[aa,ne_eq,not_and] at hoF)|refine kc1 (KL _) ?_|refine kc1 (KM _) ?_|refine kc1 (Hr _) ?_|refine kc1 (Mi _) ?_|refine kc1 (KN _) ?_|refine kc1 (KO _) ?_|refine kc1 (KP _) ?_|refine kc1 (Hs _) ?_|refine fin_eq ?_)
end Go.Proofs.YtbbihmmobfmadaaGreat
