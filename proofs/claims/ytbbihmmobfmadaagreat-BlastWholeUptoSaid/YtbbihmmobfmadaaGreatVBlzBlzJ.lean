/- blast: contracts: the document's other widths, and numbers. -/
import Derived.Test.YtbbihmmobfmadaaGreatVAigVal
import Derived.Test.YtbbihmmobfmadaaGreatVBlzBlaN
set_option linter.unusedSimpArgs false
set_option linter.unusedVariables false
set_option maxHeartbeats 8000000
set_option maxRecDepth 50000
namespace Go.Proofs.YtbbihmmobfmadaaGreat
open Abs Fil Fil.Bl A
theorem cg{σ:aB}{o:Nat}{x:AObj}(h:σ o=some x):aF σ o x=σ:=by
 funext k
 by_cases hk:k=o
 ·subst hk;simp[aF,h]
 ·simp[aF,hk]
theorem kQ(o:Nat)(b:Bu)(g':Aig)(l e':Int)(σ:aB)(h:σ o=some (bg b))(hb:b.e=0):
  C_ 170 [.ptr o 0,aJ g', .int .i64 l, .int .i64 e'] σ (.int .i64 (if e'≠0 then 0 else l)) (aF σ o (bg (if e'≠0 then ⟨b.g,e'⟩ else ⟨g',0⟩))):=by
 by_cases he:e'=0
 ·subst he;simp only[ne_eq,not_true_eq_false,if_false];refine gO [5] Tryz.func170 (by kernel_rfl) (by conv=>lhs;reduce;dsimp only[iA]) rfl ?_;repeat' (first|simp -implicitDefEqProofs -dsimp only[go_sem,seval, *]|refine fin_eq ?_)
 ·have heb:(e' != 0)=true:=by simpa using he
  rw[if_pos he,if_pos he];clear he;refine gO [5] Tryz.func170 (by kernel_rfl) (by conv=>lhs;reduce;dsimp only[iA]) rfl ?_;repeat' (first|simp -implicitDefEqProofs -dsimp only[go_sem,seval, *]|refine fin_eq ?_)
theorem rW(o:Bl.Op)(b:Bu)(x y z:Int){g':Aig}{l e':Int}(h:o.ap b.g x y z=(g',l,e'))(hb:b.e=0):
  b.op o x y z=(if e'≠0 then 0 else l,if e'≠0 then ⟨b.g,e'⟩ else ⟨g',0⟩):=by
 rw[tn o b x y z h];simp only[hb,ne_eq,not_true_eq_false,if_false]
theorem rX(o:Bl.Op)(b:Bu)(x y z:Int)(hb:b.e≠0):b.op o x y z=(0,b):=by
 unfold Bu.op;rw[if_pos hb]
theorem kR(o:Nat)(b:Bu)(x y:Int)(σ:aB)(h:σ o=some (bg b))(hs:Wf b.g):
  C_ 115 [.ptr o 0, .int .i64 x, .int .i64 y] σ (.int .i64 (b.op Bl.Op.and x y 0).1) (aF σ o (bg (b.op Bl.Op.and x y 0).2)):=by
 have c1:=λτ=>E7 b.g x y τ hs;obtain⟨⟨g',l,e'⟩,hr⟩:∃r,b.g.And x y=r:=⟨_,rfl⟩;rw[hr] at c1;have h0:=rW Bl.Op.and b x y 0 hr;simp only at c1;clear hr hs;by_cases hb:b.e=0
 ·have c2:=λτ h=>kQ o b g' l e' τ h hb;rw[h0 hb];obtain⟨L,hL⟩:∃L,(if e'≠0 then (0:Int) else l)=L:=⟨_,rfl⟩;obtain⟨B,hB⟩:∃B,(if e'≠0 then ⟨b.g,e'⟩ else ⟨g',0⟩:Bu)=B:=⟨_,rfl⟩;rw[hL,hB] at c2|-;clear hL hB h0;refine gO [] Tryz.func115 (by kernel_rfl) (by conv=>lhs;reduce;dsimp only[iA]) rfl ?_;repeat' (first|simp -implicitDefEqProofs -dsimp only[go_sem,seval, *]|simp(disch:=omega) only[ah,aj,ao,aA,au,ag,az,aq]|(with_reducible refine Zt λoF hoF hnF hnF'=>?_;try simp only[aa,ne_eq,not_and] at hoF)|with_reducible refine kc1 (c1 _) ?_|with_reducible refine kc1 (c2 _ ?_) ?_|refine fin_eq ?_)
 ·rw[rX _ b _ _ _ hb,cg h];have hbb:(b.e != 0)=true:=by simpa using hb
  clear hb c1 h0;refine gO [] Tryz.func115 (by kernel_rfl) (by conv=>lhs;reduce;dsimp only[iA]) rfl ?_;repeat' (first|simp -implicitDefEqProofs -dsimp only[go_sem,seval, *]|simp(disch:=omega) only[ah,aj,ao,aA,au,ag,az,aq]|refine fin_eq ?_)
theorem BQ(o:Nat)(b:Bu)(x y:Int)(σ:aB)(h:σ o=some (bg b))(hs:Wf b.g):
  C_ 116 [.ptr o 0, .int .i64 x, .int .i64 y] σ (.int .i64 (b.op Bl.Op.or x y 0).1) (aF σ o (bg (b.op Bl.Op.or x y 0).2)):=by
 have c1:=λτ=>Il b.g x y τ hs;obtain⟨⟨g',l,e'⟩,hr⟩:∃r,b.g.Or x y=r:=⟨_,rfl⟩;rw[hr] at c1;have h0:=rW Bl.Op.or b x y 0 hr;simp only at c1;clear hr hs;by_cases hb:b.e=0
 ·have c2:=λτ h=>kQ o b g' l e' τ h hb;rw[h0 hb];obtain⟨L,hL⟩:∃L,(if e'≠0 then (0:Int) else l)=L:=⟨_,rfl⟩;obtain⟨B,hB⟩:∃B,(if e'≠0 then ⟨b.g,e'⟩ else ⟨g',0⟩:Bu)=B:=⟨_,rfl⟩;rw[hL,hB] at c2|-;clear hL hB h0;refine gO [] Tryz.func116 (by kernel_rfl) (by conv=>lhs;reduce;dsimp only[iA]) rfl ?_;repeat' (first|simp -implicitDefEqProofs -dsimp only[go_sem,seval, *]|simp(disch:=omega) only[ah,aj,ao,aA,au,ag,az,aq]|(with_reducible refine Zt λoF hoF hnF hnF'=>?_;try simp only[aa,ne_eq,not_and] at hoF)|with_reducible refine kc1 (c1 _) ?_|with_reducible refine kc1 (c2 _ ?_) ?_|refine fin_eq ?_)
 ·rw[rX _ b _ _ _ hb,cg h];have hbb:(b.e != 0)=true:=by simpa using hb
  clear hb c1 h0;refine gO [] Tryz.func116 (by kernel_rfl) (by conv=>lhs;reduce;dsimp only[iA]) rfl ?_;repeat' (first|simp -implicitDefEqProofs -dsimp only[go_sem,seval, *]|simp(disch:=omega) only[ah,aj,ao,aA,au,ag,az,aq]|refine fin_eq ?_)
theorem kS(o:Nat)(b:Bu)(x y:Int)(σ:aB)(h:σ o=some (bg b))(hs:Wf b.g)(hx:I64 x)(hy:I64 y):
  C_ 106 [.ptr o 0, .int .i64 x, .int .i64 y] σ (.int .i64 (b.op Bl.Op.xor x y 0).1) (aF σ o (bg (b.op Bl.Op.xor x y 0).2)):=by
 have c1:=λτ=>E8 b.g x y τ hs hx hy;obtain⟨⟨g',l,e'⟩,hr⟩:∃r,b.g.Xor x y=r:=⟨_,rfl⟩;rw[hr] at c1;have h0:=rW Bl.Op.xor b x y 0 hr;simp only at c1;clear hr hs hx hy;by_cases hb:b.e=0
 ·have c2:=λτ h=>kQ o b g' l e' τ h hb;rw[h0 hb];obtain⟨L,hL⟩:∃L,(if e'≠0 then (0:Int) else l)=L:=⟨_,rfl⟩;obtain⟨B,hB⟩:∃B,(if e'≠0 then ⟨b.g,e'⟩ else ⟨g',0⟩:Bu)=B:=⟨_,rfl⟩;rw[hL,hB] at c2|-;clear hL hB h0;refine gO [] Tryz.func106 (by kernel_rfl) (by conv=>lhs;reduce;dsimp only[iA]) rfl ?_;repeat' (first|simp -implicitDefEqProofs -dsimp only[go_sem,seval, *]|simp(disch:=omega) only[ah,aj,ao,aA,au,ag,az,aq]|(with_reducible refine Zt λoF hoF hnF hnF'=>?_;try simp only[aa,ne_eq,not_and] at hoF)|with_reducible refine kc1 (c1 _) ?_|with_reducible refine kc1 (c2 _ ?_) ?_|refine fin_eq ?_)
 ·rw[rX _ b _ _ _ hb,cg h];have hbb:(b.e != 0)=true:=by simpa using hb
  clear hb c1 h0;refine gO [] Tryz.func106 (by kernel_rfl) (by conv=>lhs;reduce;dsimp only[iA]) rfl ?_;repeat' (first|simp -implicitDefEqProofs -dsimp only[go_sem,seval, *]|simp(disch:=omega) only[ah,aj,ao,aA,au,ag,az,aq]|refine fin_eq ?_)
theorem wP(o:Nat)(b:Bu)(c x y:Int)(σ:aB)(h:σ o=some (bg b))(hs:Wf b.g)(hc:I64 c):
  C_ 119 [.ptr o 0, .int .i64 c, .int .i64 x, .int .i64 y] σ (.int .i64 (b.op Bl.Op.mux c x y).1) (aF σ o (bg (b.op Bl.Op.mux c x y).2)):=by
 have c1:=λτ=>E9 b.g c x y τ hs hc;obtain⟨⟨g',l,e'⟩,hr⟩:∃r,b.g.Mux c x y=r:=⟨_,rfl⟩;rw[hr] at c1;have h0:=rW Bl.Op.mux b c x y hr;simp only at c1;clear hr hs hc;by_cases hb:b.e=0
 ·have c2:=λτ h=>kQ o b g' l e' τ h hb;rw[h0 hb];obtain⟨L,hL⟩:∃L,(if e'≠0 then (0:Int) else l)=L:=⟨_,rfl⟩;obtain⟨B,hB⟩:∃B,(if e'≠0 then ⟨b.g,e'⟩ else ⟨g',0⟩:Bu)=B:=⟨_,rfl⟩;rw[hL,hB] at c2|-;clear hL hB h0;refine gO [] Tryz.func119 (by kernel_rfl) (by conv=>lhs;reduce;dsimp only[iA]) rfl ?_;repeat' (first|simp -implicitDefEqProofs -dsimp only[go_sem,seval, *]|simp(disch:=omega) only[ah,aj,ao,aA,au,ag,az,aq]|(with_reducible refine Zt λoF hoF hnF hnF'=>?_;try simp only[aa,ne_eq,not_and] at hoF)|with_reducible refine kc1 (c1 _) ?_|with_reducible refine kc1 (c2 _ ?_) ?_|refine fin_eq ?_)
 ·rw[rX _ b _ _ _ hb,cg h];have hbb:(b.e != 0)=true:=by simpa using hb
  clear hb c1 h0;refine gO [] Tryz.func119 (by kernel_rfl) (by conv=>lhs;reduce;dsimp only[iA]) rfl ?_;repeat' (first|simp -implicitDefEqProofs -dsimp only[go_sem,seval, *]|simp(disch:=omega) only[ah,aj,ao,aA,au,ag,az,aq]|refine fin_eq ?_)
theorem dM(l:Int)(σ:aB)(h:0<=l/\l<=1000000000):C_ 105 [.int .i64 l] σ (.int .i64 (turn l)) σ:=by
 have hm:Int.tmod l 2=l%2:=Int.tmod_eq_emod_of_nonneg h.1;obtain⟨h1,h2⟩:=h;by_cases hl:l%2=1
 ·have e:turn l=l-1:=by unfold turn;omega
  rw[e];have hb:(l%2==1)=true:=by rw[hl];rfl
  refine gO [] Tryz.func105 (by kernel_rfl) (by conv=>lhs;reduce;dsimp only[iA]) rfl ?_;repeat' (first|simp -implicitDefEqProofs -dsimp only[go_sem,seval,hm, *]|simp(disch:=omega) only[ah,aj,ao,aA,au,ag,az,aq]|refine fin_eq ?_)
 ·have e:turn l=l+1:=by unfold turn;omega
  rw[e];have hb:(l%2==1)=false:=by simpa using hl
  refine gO [] Tryz.func105 (by kernel_rfl) (by conv=>lhs;reduce;dsimp only[iA]) rfl ?_;repeat' (first|simp -implicitDefEqProofs -dsimp only[go_sem,seval,hm, *]|simp(disch:=omega) only[ah,aj,ao,aA,au,ag,az,aq]|refine fin_eq ?_)
end Go.Proofs.YtbbihmmobfmadaaGreat
namespace Go.Proofs.YtbbihmmobfmadaaGreat
open Abs Fil Fil.Bl A
def L0(z:Int):Prop:=0<=z/\z<1000000
def Lw(x:List Int):Prop:=∀z∈x,L0 z
theorem L0.i64{z:Int}(h:L0 z):I64 z:=by unfold L0 at h;unfold I64;omega
theorem Lw.i64{x:List Int}(h:Lw x):∀z∈x,I64 z:=λz hz=>(h z hz).i64
theorem L0.turn{z:Int}(h:L0 z):L0 (turn z):=by unfold L0 Abs.turn at*;omega
theorem Lw.not{x:List Int}(h:Lw x):Lw (aN x):=by
 intro z hz;obtain⟨y,hy,rfl⟩:=List.mem_map.1 hz;exact(h y hy).turn
theorem Lw.gt{x:List Int}(h:Lw x)(k:Nat):L0 (Bl.gt x k):=by
 unfold Bl.gt;rw[List.getD_eq_getElem?_getD];cases hk:x[k]? with
 |none=>exact⟨by decide,by decide⟩
 |some z=>exact h z (List.mem_of_getElem? hk)
theorem BR{g:Aig}(hf:Fine g){a:Int}(h:g.lit a=true):L0 a:=by
 have:=hf.cnt
 rw[Aig.lit,bj] at h;unfold L0;omega
theorem L0.zero:L0 0:=⟨by decide,by decide⟩
theorem bu_L0{b:Bu}(hs:Wf b.g)(o:Bl.Op)(x y z:Int):L0 (b.op o x y z).1:=by
 unfold Bu.op;split
 ·exact L0.zero
 split
 ·exact L0.zero
 ·rename_i h1 h2
  obtain⟨_,k1,_,k2,_⟩:=wv hs (o:=o) (x:=x) (y:=y) (z:=z) (by omega);exact BR k1.fine k2
theorem Lw.append{x y:List Int}(hx:Lw x)(hy:Lw y):Lw (x++y):=λz hz=>(List.mem_append.1 hz).elim (hx z) (hy z)
theorem Lw.one{z:Int}(h:L0 z):Lw [z]:=λy hy=>by rw[List.mem_singleton.1 hy];exact h
theorem Lw.nil:Lw []:=λz h=>by simp at h
theorem Lw.zeros(n:Nat):Lw (List.replicate n 0):=λz h=>by rw[(List.mem_replicate.1 h).2];exact⟨by decide,by decide⟩
theorem rY(x:List Int)(t:Tok)(σ:aB)(hx:Lw x)(hl:x.length<=1000000):C_ 101 [aw x t] σ (aw (aN x) .no) σ:=by
 refine gO [3005] Tryz.func101 (by kernel_rfl) (by conv=>lhs;reduce;dsimp only[iA]) rfl ?_;repeat' (first|simp -implicitDefEqProofs -dsimp only[go_sem,seval, *]|(with_reducible refine Zt λoF hoF hnF hnF'=>?_;try simp only[aa,ne_eq,not_and] at hoF))
 refine ar (λi:Nat=>[(4,some (.int .i64 i)),(0,some (aw x t)),(3,some (aw (aN (x.take i)) (.own oF)))]) (λi=>aF σ oF (.grow 1 i)) (λi=>i<=x.length) (λi=>x.length-i) 0 ?_ ?_
 ·(repeat' (first|simp -implicitDefEqProofs -dsimp only[go_sem,seval,aw,aN,List.take_zero,List.map_nil, *]|omega))
 intro i hi;by_cases hlt:i<x.length
 ·have hgx:(x.map λx=>AV.int .i64 x)[i]?=some (.int .i64 (Bl.gt x i)):=by simp[Bl.gt,List.getD_eq_getElem?_getD,hlt]
  have z1:=λτ=>dM (Bl.gt x i) τ (by have:=hx.gt i;unfold L0 at this;omega)
  have hn:aN (x.take (i+1))=aN (x.take i)++[turn (Bl.gt x i)]:=by
   unfold aN;rw[List.take_add_one,List.map_append];simp[Bl.gt,List.getD_eq_getElem?_getD,hlt]
  have hln:(aN (x.take i)).length=i:=by simp[aN];omega
  have hbd:(i+1)*8<=35184372088832:=by omega
  clear hx;repeat' (first|simp -implicitDefEqProofs -dsimp only[go_sem,seval,List.length_map, *]|simp(disch:=omega) only[ah,aj,ao,aA,au,ag,az,aq]|with_reducible refine kc1 (z1 _) ?_|(with_reducible refine lnx (i+1) ?_;repeat' (first|simp -implicitDefEqProofs -dsimp only[go_sem,seval,aw,List.map_append,List.map_cons,List.map_nil, *]|with_reducible refine And.intro ?_ ?_))|omega)
 ·have:i=x.length:=by omega
  subst this;rw[List.take_length];clear hx;repeat' (first|simp -implicitDefEqProofs -dsimp only[go_sem,seval,List.length_map, *]|(refine fin_eq ?_;repeat' simp -implicitDefEqProofs -dsimp only[go_sem,seval,aw, *]))
theorem l8(n:Nat)(σ:aB)(hn:n<=1000000):ACalls Tryz.prog 103 [.int .i64 n] σ (rL σ (λo=>aw (List.replicate n 0) (.own o)) (.grow 1 n)):=by
 have hb:n*8<=35184372088832:=by omega
 refine gO [] Tryz.func103 (by kernel_rfl) (by conv=>lhs;reduce;dsimp only[iA]) rfl ?_;repeat' (first|simp -implicitDefEqProofs -dsimp only[go_sem,seval, *]|with_reducible refine Zv ?_ ?_|(with_reducible refine Zt λoF hoF hnF hnF'=>?_;try simp only[aa,ne_eq,not_and] at hoF)|omega)
 refine nf oF hoF ?_;(repeat' simp -implicitDefEqProofs -dsimp only[go_sem,seval,aw,List.map_replicate, *])
theorem rZ(bo:Nat)(b:Bu)(x:List Int)(t:Tok)(σ:aB)(h:σ bo=some (bg b))(hs:Wf b.g)(hl:x.length<=1000000):
  C_ 104 [.ptr bo 0,aw x t] σ (.int .i64 ((eB x).run b).1) (aF σ bo (bg ((eB x).run b).2)):=by
 show ACalls Tryz.prog 104 _ σ (λr σ'=>r= .ret (.int .i64 (dB .and 1 x b x.length).1)/\σ'=aF σ bo (bg (dB .and 1 x b x.length).2))
 have hw:=jJ .and x hs (a:=1) ⟨by decide,by decide⟩;have hnx:=ig .and 1 x b;have h0:dB .and 1 x b 0=(1,b):=rfl;generalize hG:dB .and 1 x b=G at hw hnx h0|-;clear hG;refine gO [] Tryz.func104 (by kernel_rfl) (by conv=>lhs;reduce;dsimp only[iA]) rfl ?_;repeat' simp -implicitDefEqProofs -dsimp only[go_sem,seval, *]
 refine ar (λi:Nat=>[(6,some (.int .i64 i)),(1,some (aw x t)),(0,some (.ptr bo 0)),(5,some (.int .i64 (G i).1))]) (λi=>aF σ bo (bg (G i).2)) (λi=>i<=x.length) (λi=>x.length-i) 0 ?_ ?_
 ·(repeat' (first|simp -implicitDefEqProofs -dsimp only[go_sem,seval,h0, *]|omega))
 intro i hi;by_cases hlt:i<x.length
 ·have hgx:(x.map λx=>AV.int .i64 x)[i]?=some (.int .i64 (Bl.gt x i)):=by simp[Bl.gt,List.getD_eq_getElem?_getD,hlt]
  have z1:=λτ h=>kR bo (G i).2 (G i).1 (Bl.gt x i) τ h (hw i).1;have hn:=hnx i;rw[<-hn] at z1;clear hw hnx hs hn;repeat' (first|simp -implicitDefEqProofs -dsimp only[go_sem,seval,List.length_map, *]|simp(disch:=omega) only[ah,aj,ao,aA,au,ag,az,aq]|with_reducible refine kc1 (z1 _ ?_) ?_|with_reducible refine lnx (i+1) ?_|with_reducible refine And.intro ?_ ?_|omega)
 ·have:i=x.length:=by omega
  subst this;clear hw hnx hs;repeat' (first|simp -implicitDefEqProofs -dsimp only[go_sem,seval,List.length_map, *]|refine fin_eq ?_)
theorem Fs{x y c:Int}{b:Bu}(hs:Wf b.g):L0 ((gh x y c).run b).1.1/\L0 ((gh x y c).run b).1.2:=by
 rw[kM x y c b rfl rfl rfl rfl rfl];have w1:=dD hs Bl.Op.xor x y 0;have w2:=dD w1.1 Bl.Op.xor (b.op Bl.Op.xor x y 0).1 c 0;have w3:=dD w2.1 Bl.Op.and x y 0;have w4:=dD w3.1 Bl.Op.and (b.op Bl.Op.xor x y 0).1 c 0;exact⟨bu_L0 w1.1 _ _ _ _,bu_L0 w4.1 _ _ _ _⟩
theorem kh{x y:List Int}{c:Int}{b:Bu}(hs:Wf b.g)(hc:L0 c):∀k,L0 (bH x y c b k).1.2/\Lw (bH x y c b k).1.1
 |0=>⟨hc, .nil⟩
 |k+1=>by
  have h1:=(ji (x:=x) (y:=y) hs hc.i64 k).1;rw[jh];have h5:=Fs (x:=Bl.gt x k) (y:=Bl.gt y k) (c:=(bH x y c b k).1.2) h1;exact⟨h5.2,(kh hs hc k).2.append (.one h5.1)⟩
theorem kT(bo:Nat)(b:Bu)(x y:List Int)(tx ty:Tok)(c:Int)(σ:aB)(h:σ bo=some (bg b))(hs:Wf b.g)(hx:∀z∈x,I64 z)(hy:∀z∈y,I64 z)(hc:I64 c)(hlen:x.length<=y.length)(hxl:x.length<=1000000):
  C_ 102 [.ptr bo 0,aw x tx,aw y ty, .int .i64 c] σ (.tup [aw ((cj x y c).run b).1.1 .no, .int .i64 ((cj x y c).run b).1.2]) (aF σ bo (bg ((cj x y c).run b).2)):=by
 show ACalls Tryz.prog 102 _ σ (λr σ'=>r= .ret (.tup [aw (bH x y c b x.length).1.1 .no, .int .i64 (bH x y c b x.length).1.2])/\σ'=aF σ bo (bg (bH x y c b x.length).2))
 have hw:=ji (x:=x) (y:=y) hs hc;have hnx:=jh x y c b;have h0:bH x y c b 0=(([],c),b):=rfl;generalize hG:bH x y c b=G at hw hnx h0|-;clear hG;refine gO [3015] Tryz.func102 (by kernel_rfl) (by conv=>lhs;reduce;dsimp only[iA]) rfl ?_;repeat' (first|simp -implicitDefEqProofs -dsimp only[go_sem,seval, *]|(with_reducible refine Zt λoF hoF hnF hnF'=>?_;try simp only[aa,ne_eq,not_and] at hoF))
 refine ar (λi:Nat=>[(11,some (.int .i64 i)),(1,some (aw x tx)),(0,some (.ptr bo 0)),(2,some (aw y ty)),(10,some (aw (G i).1.1 (.own oF))),(3,some (.int .i64 (G i).1.2))]) (λi=>aF (aF σ bo (bg (G i).2)) oF (.grow 1 i)) (λi=>i<=x.length) (λi=>x.length-i) 0 ?_ ?_
 ·have nb:¬bo=oF:=λe=>by rw[e,hoF] at h;simp at h
  have nb':=Ne.symm nb;(repeat' (first|simp -implicitDefEqProofs -dsimp only[go_sem,seval,h0,aw,List.map_nil, *]|omega))
 intro i hi;have nb:¬bo=oF:=λe=>by rw[e,hoF] at h;simp at h
 have nb':=Ne.symm nb;by_cases hlt:i<x.length
 ·have hgx:(x.map λx=>AV.int .i64 x)[i]?=some (.int .i64 (Bl.gt x i)):=by simp[Bl.gt,List.getD_eq_getElem?_getD,hlt]
  have hgy:(y.map λx=>AV.int .i64 x)[i]?=some (.int .i64 (Bl.gt y i)):=by simp[Bl.gt,List.getD_eq_getElem?_getD,show i<y.length by omega]
  have hix:=cV hx i;have hiy:=cV hy i;obtain⟨w0,wc,wl,_⟩:=hw i;have hn:=hnx i;obtain⟨⟨⟨out,c⟩,b⟩,hS⟩:∃S,G i=S:=⟨_,rfl⟩;rw[hS] at hn w0 wc wl|-;simp only at hn w0 wc wl|-;obtain⟨X,hX⟩:∃X,Bl.gt x i=X:=⟨_,rfl⟩;obtain⟨Y,hY⟩:∃Y,Bl.gt y i=Y:=⟨_,rfl⟩;rw[hX] at hgx hix hn;rw[hY] at hgy hiy hn;obtain⟨r1,e1⟩:∃r,b.op Bl.Op.xor X Y 0=r:=⟨_,rfl⟩;have w1:=dD w0 Bl.Op.xor X Y 0;have z1:=λτ h=>kS bo b X Y τ h w0 hix hiy;rw[e1] at w1 z1;obtain⟨r2,e2⟩:∃r,r1.2.op Bl.Op.xor r1.1 c 0=r:=⟨_,rfl⟩;have w2:=dD w1.1 Bl.Op.xor r1.1 c 0;have z2:=λτ h=>kS bo r1.2 r1.1 c τ h w1.1 w1.2 wc;rw[e2] at w2 z2;obtain⟨r3,e3⟩:∃r,r2.2.op Bl.Op.and X Y 0=r:=⟨_,rfl⟩;have w3:=dD w2.1 Bl.Op.and X Y 0;have z3:=λτ h=>kR bo r2.2 X Y τ h w2.1;rw[e3] at w3 z3;obtain⟨r4,e4⟩:∃r,r3.2.op Bl.Op.and r1.1 c 0=r:=⟨_,rfl⟩;have w4:=dD w3.1 Bl.Op.and r1.1 c 0;have z4:=λτ h=>kR bo r3.2 r1.1 c τ h w3.1;rw[e4] at w4 z4;obtain⟨r5,e5⟩:∃r,r4.2.op Bl.Op.or r3.1 r4.1 0=r:=⟨_,rfl⟩;have z5:=λτ h=>BQ bo r4.2 r3.1 r4.1 τ h w4.1;rw[e5] at z5;rw[kM X Y c b e1 e2 e3 e4 e5] at hn;obtain⟨a1,b1⟩:=r1;obtain⟨a2,b2⟩:=r2;obtain⟨a3,b3⟩:=r3;obtain⟨a4,b4⟩:=r4;obtain⟨a5,b5⟩:=r5;simp only at z1 z2 z3 z4 z5 hn;have hbd:(i+1)*8<=35184372088832:=by omega
  clear e1 e2 e3 e4 e5 w1 w2 w3 w4 hs hx hy hc hw hnx h0 hix hiy wc w0 hX hY hS;repeat' (first|simp -implicitDefEqProofs -dsimp only[go_sem,seval,List.length_map, *]|simp(disch:=omega) only[ah,aj,ao,aA,au,ag,az,aq]|with_reducible refine kc1 (z2 _ ?_) ?_|with_reducible refine kc1 (z4 _ ?_) ?_|with_reducible refine kc1 (z5 _ ?_) ?_|with_reducible refine id_one1 (λtS hS=>z1 _ ?_) ?_ ?_|with_reducible refine id_one1 (λtS hS=>z3 _ ?_) ?_ ?_|with_reducible refine Sub.get (by assumption) ?_|(with_reducible refine lnx (i+1) ?_;repeat' (first|simp -implicitDefEqProofs -dsimp only[go_sem,seval,aw,List.map_append,List.map_cons,List.map_nil, *]|with_reducible refine And.intro ?_ ?_))|omega)
 ·have:i=x.length:=by omega
  subst this;clear hw hnx hs hx hy;repeat' (first|simp -implicitDefEqProofs -dsimp only[go_sem,seval,List.length_map, *]|(refine fin_eq ?_;repeat' simp -implicitDefEqProofs -dsimp only[go_sem,seval,aw, *]))
end Go.Proofs.YtbbihmmobfmadaaGreat
namespace Go.Proofs.YtbbihmmobfmadaaGreat
open Abs Fil Fil.Bl A
theorem vK{f:Int->Int->Pg Int}(hf:JM f)(hL:∀(b:Bu) p q,Wf b.g->L0 ((f p q).run b).1){x y:List Int}{b:Bu}(hs:Wf b.g):∀k,Lw (bw f x y b k).1
 |0=> .nil
 |k+1=>by
  rw[gi];exact(vK hf hL hs k).append (.one (hL _ _ _ (gj hf hs k).1))
theorem kU(op:Bl.Op){a:Int}(xs:List Int){b:Bu}(hb:Wf b.g)(ha:L0 a):∀k,L0 (dB op a xs b k).1
 |0=>ha
 |k+1=>by rw[ig];exact bu_L0 (jJ op xs hb ha.i64 k).1 _ _ _ _
theorem BS(x y:List Int)(b:Bu):(mU x y).run b=(eB (aN (bw eu x y b x.length).1)).run (bw eu x y b x.length).2:=run_bind _ _ _
theorem GO{x y:List Int}{b:Bu}(hs:Wf b.g):L0 ((mU x y).run b).1:=by
 rw[BS];exact kU .and _ (gj (gR .xor) hs _).1 ⟨by decide,by decide⟩ _
theorem yW(bo:Nat)(b:Bu)(x y:List Int)(tx ty:Tok)(σ:aB)(h:σ bo=some (bg b))(hs:Wf b.g)(hx:∀z∈x,I64 z)(hy:∀z∈y,I64 z)(hlen:x.length<=y.length)(hxl:x.length<=1000000):
  C_ 175 [.ptr bo 0,aw x tx,aw y ty] σ (.int .i64 ((mU x y).run b).1) (aF σ bo (bg ((mU x y).run b).2)):=by
 rw[BS];have hw:=λk=>gj (gR .xor) (x:=x) (y:=y) hs k;have hnx:∀k,bw eu x y b (k+1)=((bw eu x y b k).1++[((bw eu x y b k).2.op Bl.Op.xor (Bl.gt x k) (Bl.gt y k) 0).1],((bw eu x y b k).2.op Bl.Op.xor (Bl.gt x k) (Bl.gt y k) 0).2):=λk=>gi eu x y b k;have h0:bw eu x y b 0=([],b):=rfl;have hw:∀k,Wf (bw eu x y b k).2.g/\(bw eu x y b k).1.length=k:=λk=>⟨(hw k).1,(hw k).2.1⟩;generalize hG:bw eu x y b=G at hw hnx h0|-;clear hG;refine gO [3009] Tryz.func175 (by kernel_rfl) (by conv=>lhs;reduce;dsimp only[iA]) rfl ?_;repeat' (first|simp -implicitDefEqProofs -dsimp only[go_sem,seval, *]|(with_reducible refine Zt λoF hoF hnF hnF'=>?_;try simp only[aa,ne_eq,not_and] at hoF))
 have nb:¬bo=oF:=λe=>by rw[e,hoF] at h;simp at h
 have nb':=Ne.symm nb;refine ar (λi:Nat=>[(8,some (.int .i64 i)),(1,some (aw x tx)),(0,some (.ptr bo 0)),(2,some (aw y ty)),(7,some (aw (aN (G i).1) (.own oF)))]) (λi=>aF (aF σ bo (bg (G i).2)) oF (.grow 1 i)) (λi=>i<=x.length) (λi=>x.length-i) 0 ?_ ?_
 ·(repeat' (first|simp -implicitDefEqProofs -dsimp only[go_sem,seval,h0,aw,aN,List.map_nil, *]|omega))
 intro i hi;by_cases hlt:i<x.length
 ·have hgx:(x.map λx=>AV.int .i64 x)[i]?=some (.int .i64 (Bl.gt x i)):=by simp[Bl.gt,List.getD_eq_getElem?_getD,hlt]
  have hgy:(y.map λx=>AV.int .i64 x)[i]?=some (.int .i64 (Bl.gt y i)):=by simp[Bl.gt,List.getD_eq_getElem?_getD,show i<y.length by omega]
  obtain⟨w1,w2⟩:=hw i;have hn:=hnx i;have z1:=λτ h=>kS bo (G i).2 (Bl.gt x i) (Bl.gt y i) τ h w1 (cV hx i) (cV hy i);have hL:=bu_L0 w1 Bl.Op.xor (Bl.gt x i) (Bl.gt y i) 0;generalize hr:(G i).2.op Bl.Op.xor (Bl.gt x i) (Bl.gt y i) 0=r at z1 hn hL;have z2:=λτ=>dM r.1 τ (by unfold L0 at hL;omega);have hln:(aN (G i).1).length=i:=by simp[aN,w2]
  have hn1:aN (G (i+1)).1=aN (G i).1++[turn r.1]:=by rw[hn];simp[aN]
  have hn2:(G (i+1)).2=r.2:=by rw[hn]
  have hbd:(i+1)*8<=35184372088832:=by omega
  clear hr hn hw hnx hs hx hy hL w1 w2;repeat' (first|simp -implicitDefEqProofs -dsimp only[go_sem,seval,List.length_map, *]|simp(disch:=omega) only[ah,aj,ao,aA,au,ag,az,aq]|with_reducible refine id_one0 (λtS hS=>z2 _) trivial ?_|with_reducible refine id_one1 (λtS hS=>z1 _ ?_) ?_ ?_|with_reducible refine Sub.get (by assumption) ?_|(with_reducible refine lnx (i+1) ?_;repeat' (first|simp -implicitDefEqProofs -dsimp only[go_sem,seval,aw,List.map_append,List.map_cons,List.map_nil, *]|with_reducible refine And.intro ?_ ?_))|omega)
 ·have:i=x.length:=by omega
  subst this;have z1:=λτ h=>rZ bo (G x.length).2 (aN (G x.length).1) (.own oF) τ h (hw x.length).1 (by simp[aN,(hw x.length).2];omega);generalize hr:(eB (aN (G x.length).1)).run (G x.length).2=r at z1|-;clear hr hw hnx hs hx hy;repeat' (first|simp -implicitDefEqProofs -dsimp only[go_sem,seval,List.length_map, *]|with_reducible refine kc1 (z1 _ ?_) ?_|refine fin_eq ?_)
theorem BT(bo:Nat)(b:Bu)(c:Int)(x y:List Int)(tx ty:Tok)(σ:aB)(h:σ bo=some (bg b))(hs:Wf b.g)(hc:I64 c)(hlen:x.length<=y.length)(hxl:x.length<=1000000):
  C_ 67 [.ptr bo 0, .int .i64 c,aw x tx,aw y ty] σ (aw ((gJ c x y).run b).1 .no) (aF σ bo (bg ((gJ c x y).run b).2)):=by
 show ACalls Tryz.prog 67 _ σ (λr σ'=>r= .ret (aw (bw (λp q=>oJ c p q) x y b x.length).1 .no)/\σ'=aF σ bo (bg (bw (λp q=>oJ c p q) x y b x.length).2))
 have hw:=λk=>gj (nq c) (x:=x) (y:=y) hs k;have hnx:∀k,bw (λp q=>oJ c p q) x y b (k+1)=((bw (λp q=>oJ c p q) x y b k).1++[((bw (λp q=>oJ c p q) x y b k).2.op Bl.Op.mux c (Bl.gt x k) (Bl.gt y k)).1],((bw (λp q=>oJ c p q) x y b k).2.op Bl.Op.mux c (Bl.gt x k) (Bl.gt y k)).2):=λk=>gi _ x y b k;have h0:bw (λp q=>oJ c p q) x y b 0=([],b):=rfl;generalize hG:bw (λp q=>oJ c p q) x y b=G at hw hnx h0|-;clear hG;refine gO [3011] Tryz.func67 (by kernel_rfl) (by conv=>lhs;reduce;dsimp only[iA]) rfl ?_;repeat' (first|simp -implicitDefEqProofs -dsimp only[go_sem,seval, *]|(with_reducible refine Zt λoF hoF hnF hnF'=>?_;try simp only[aa,ne_eq,not_and] at hoF))
 have nb:¬bo=oF:=λe=>by rw[e,hoF] at h;simp at h
 have nb':=Ne.symm nb;refine ar (λi:Nat=>[(10,some (.int .i64 i)),(1,some (.int .i64 c)),(2,some (aw x tx)),(0,some (.ptr bo 0)),(3,some (aw y ty)),(9,some (aw (G i).1 (.own oF)))]) (λi=>aF (aF σ bo (bg (G i).2)) oF (.grow 1 i)) (λi=>i<=x.length) (λi=>x.length-i) 0 ?_ ?_
 ·(repeat' (first|simp -implicitDefEqProofs -dsimp only[go_sem,seval,h0,aw,List.map_nil, *]|omega))
 intro i hi;by_cases hlt:i<x.length
 ·have hgx:(x.map λx=>AV.int .i64 x)[i]?=some (.int .i64 (Bl.gt x i)):=by simp[Bl.gt,List.getD_eq_getElem?_getD,hlt]
  have hgy:(y.map λx=>AV.int .i64 x)[i]?=some (.int .i64 (Bl.gt y i)):=by simp[Bl.gt,List.getD_eq_getElem?_getD,show i<y.length by omega]
  obtain⟨w1,w2,_⟩:=hw i;have hn:=hnx i;have z1:=λτ h=>wP bo (G i).2 c (Bl.gt x i) (Bl.gt y i) τ h w1 hc;generalize hr:(G i).2.op Bl.Op.mux c (Bl.gt x i) (Bl.gt y i)=r at z1 hn;have hbd:(i+1)*8<=35184372088832:=by omega
  clear hr hw hnx hs hc w1;repeat' (first|simp -implicitDefEqProofs -dsimp only[go_sem,seval,List.length_map, *]|simp(disch:=omega) only[ah,aj,ao,aA,au,ag,az,aq]|with_reducible refine id_one1 (λtS hS=>z1 _ ?_) ?_ ?_|with_reducible refine Sub.get (by assumption) ?_|(with_reducible refine lnx (i+1) ?_;repeat' (first|simp -implicitDefEqProofs -dsimp only[go_sem,seval,aw,List.map_append,List.map_cons,List.map_nil, *]|with_reducible refine And.intro ?_ ?_))|omega)
 ·have:i=x.length:=by omega
  subst this;clear hw hnx hs;repeat' (first|simp -implicitDefEqProofs -dsimp only[go_sem,seval,List.length_map, *]|(refine fin_eq ?_;repeat' simp -implicitDefEqProofs -dsimp only[go_sem,seval,aw, *]))
theorem to(x y:List Int)(b:Bu):(bu x y).run b=(turn ((cj x (aN y) 1).run b).1.2,((cj x (aN y) 1).run b).2):=by unfold bu;rw[run_bind];rfl
theorem ns{x y:List Int}{b:Bu}(hs:Wf b.g):L0 ((bu x y).run b).1:=by
 rw[to];exact(kh hs ⟨by decide,by decide⟩ x.length).1.turn
theorem tp(bo:Nat)(b:Bu)(x y:List Int)(tx ty:Tok)(σ:aB)(h:σ bo=some (bg b))(hs:Wf b.g)(hx:Lw x)(hy:Lw y)(hlen:x.length<=y.length)(hyl:y.length<=1000000):
  C_ 176 [.ptr bo 0,aw x tx,aw y ty] σ (.int .i64 ((bu x y).run b).1) (aF σ bo (bg ((bu x y).run b).2)):=by
 rw[to];have z1:=λτ=>rY y ty τ hy hyl;have hl2:x.length<=(aN y).length:=by simpa [aN] using hlen
 have z2:=λτ h=>kT bo b x (aN y) tx .no 1 τ h hs hx.i64 hy.not.i64 ⟨by decide,by decide⟩ hl2 (by omega);have hL:L0 ((cj x (aN y) 1).run b).1.2:=(kh hs ⟨by decide,by decide⟩ x.length).1;obtain⟨⟨⟨g1,g2⟩,g3⟩,hG⟩:∃G,(cj x (aN y) 1).run b=G:=⟨_,rfl⟩;rw[hG] at z2 hL|-;simp only at z2 hL|-;have z3:=λτ=>dM g2 τ (by unfold L0 at hL;omega);clear hG hs hx hy hlen hyl hl2 hL;refine gO [] Tryz.func176 (by kernel_rfl) (by conv=>lhs;reduce;dsimp only[iA]) rfl ?_;repeat' (first|simp -implicitDefEqProofs -dsimp only[go_sem,seval, *]|with_reducible refine kc1 (z1 _) ?_|with_reducible refine kc1 (z2 _ ?_) ?_|with_reducible refine kc1 (z3 _) ?_|refine fin_eq ?_)
def pV(op:Int)(x y:List Int):Pg Int:=
 if op=19 then mU x y
 else if op=20 then (mU x y).bind λr=> .ret (turn r)
 else if op=21 then bu x y
 else if op=23 then bu y x
 else if op=22 then (bu y x).bind λr=> .ret (turn r)
 else (bu x y).bind λr=> .ret (turn r)
theorem wQ{op:Int}(x y:List Int)(b:Bu)(h:19<=op/\op<=24):(cD op x y).run b=([((pV op x y).run b).1],((pV op x y).run b).2):=by
 have ho:op=19\/op=20\/op=21\/op=22\/op=23\/op=24:=by omega
 rcases ho with rfl|rfl|rfl|rfl|rfl|rfl<;>simp only[cD,pV,run_bind,Fe,reduceIte,Int.reduceEq,or_self]
theorem tq(bo:Nat)(b:Bu)(op:Int)(x y:List Int)(tx ty:Tok)(σ:aB)(h:σ bo=some (bg b))(hs:Wf b.g)(hx:Lw x)(hy:Lw y)(hlen:x.length=y.length)(hyl:y.length<=1000000)(ho:19<=op/\op<=24):
  C_ 114 [.ptr bo 0, .int .i64 op,aw x tx,aw y ty] σ (.int .i64 ((pV op x y).run b).1) (aF σ bo (bg ((pV op x y).run b).2)):=by
 have z1:=λτ h=>yW bo b x y tx ty τ h hs hx.i64 hy.i64 (by omega) (by omega);have z2:=λτ h=>tp bo b x y tx ty τ h hs hx hy (by omega) (by omega);have z3:=λτ h=>tp bo b y x ty tx τ h hs hy hx (by omega) (by omega);have l1:=GO (x:=x) (y:=y) hs;have l2:=ns (x:=x) (y:=y) hs;have l3:=ns (x:=y) (y:=x) hs
 have hU:(pV op x y).run b=if op=19 then (mU x y).run b else if op=20 then (turn ((mU x y).run b).1,((mU x y).run b).2) else if op=21 then (bu x y).run b else if op=23 then (bu y x).run b
   else if op=22 then (turn ((bu y x).run b).1,((bu y x).run b).2) else (turn ((bu x y).run b).1,((bu x y).run b).2):=by
  unfold pV;repeat' split
  all_goals first|rfl|rw[run_bind];rfl
 generalize hUU:(pV op x y).run b=U at hU|-;obtain⟨⟨A,bA⟩,hA⟩:∃Z,(mU x y).run b=Z:=⟨_,rfl⟩;obtain⟨⟨B,bB⟩,hB⟩:∃Z,(bu x y).run b=Z:=⟨_,rfl⟩;obtain⟨⟨C,bC⟩,hC⟩:∃Z,(bu y x).run b=Z:=⟨_,rfl⟩;rw[hA] at z1 l1 hU;rw[hB] at z2 l2 hU;rw[hC] at z3 l3 hU;simp only at z1 z2 z3 l1 l2 l3 hU;unfold L0 at l1 l2 l3;have t1:=λτ=>dM A τ (by omega);have t2:=λτ=>dM B τ (by omega);have t3:=λτ=>dM C τ (by omega);clear hUU hA hB hC hs hx hy hlen hyl l1 l2 l3;refine gO [] Tryz.func114 (by kernel_rfl) (by conv=>lhs;reduce;dsimp only[iA]) rfl ?_;by_cases o1:op=19
 ·rw[if_pos o1] at hU;subst hU o1;repeat' (first|simp -implicitDefEqProofs -dsimp only[go_sem,seval, *]|simp(disch:=omega) only[ah,aj,ao,aA,au,ag,az,aq]|with_reducible refine kc1 (z1 _ ?_) ?_|refine fin_eq ?_)
 rw[if_neg o1] at hU;have b1:(op==19)=false:=by simp[o1]
 by_cases o2:op=20
 ·rw[if_pos o2] at hU;subst hU o2;repeat' (first|simp -implicitDefEqProofs -dsimp only[go_sem,seval, *]|simp(disch:=omega) only[ah,aj,ao,aA,au,ag,az,aq]|with_reducible refine kc1 (z1 _ ?_) ?_|with_reducible refine kc1 (t1 _) ?_|refine fin_eq ?_)
 rw[if_neg o2] at hU;have b2:(op==20)=false:=by simp[o2]
 by_cases o3:op=21
 ·rw[if_pos o3] at hU;subst hU o3;repeat' (first|simp -implicitDefEqProofs -dsimp only[go_sem,seval, *]|simp(disch:=omega) only[ah,aj,ao,aA,au,ag,az,aq]|with_reducible refine kc1 (z2 _ ?_) ?_|refine fin_eq ?_)
 rw[if_neg o3] at hU;have b3:(op==21)=false:=by simp[o3]
 by_cases o4:op=23
 ·rw[if_pos o4] at hU;subst hU o4;repeat' (first|simp -implicitDefEqProofs -dsimp only[go_sem,seval, *]|simp(disch:=omega) only[ah,aj,ao,aA,au,ag,az,aq]|with_reducible refine kc1 (z3 _ ?_) ?_|refine fin_eq ?_)
 rw[if_neg o4] at hU;have b4:(op==23)=false:=by simp[o4]
 by_cases o5:op=22
 ·rw[if_pos o5] at hU;subst hU o5;repeat' (first|simp -implicitDefEqProofs -dsimp only[go_sem,seval, *]|simp(disch:=omega) only[ah,aj,ao,aA,au,ag,az,aq]|with_reducible refine kc1 (z3 _ ?_) ?_|with_reducible refine kc1 (t3 _) ?_|refine fin_eq ?_)
 rw[if_neg o5] at hU;have b5:(op==22)=false:=by simp[o5]
 subst hU;repeat' (first|simp -implicitDefEqProofs -dsimp only[go_sem,seval, *]|simp(disch:=omega) only[ah,aj,ao,aA,au,ag,az,aq]|with_reducible refine kc1 (z2 _ ?_) ?_|with_reducible refine kc1 (t2 _) ?_|refine fin_eq ?_)
end Go.Proofs.YtbbihmmobfmadaaGreat
namespace Go.Proofs.YtbbihmmobfmadaaGreat
open Abs Fil Fil.Bl A
theorem Ft(bo:Nat)(b:Bu)(x y:List Int)(tx ty:Tok)(σ:aB)(h:σ bo=some (bg b))(hs:Wf b.g)(hx:∀z∈x,I64 z)(hy:∀z∈y,I64 z)(hlen:y.length<=x.length)(hxl:x.length<=1000000):
  C_ 113 [.ptr bo 0,aw x tx,aw y ty] σ (aw (cO x y b y.length).1 .no) (aF σ bo (bg (cO x y b y.length).2)):=by
 have hmw:=λi=>oU (x:=x) (y:=y) hs i;have hmn:=kN x y b;have h0:cO x y b 0=(List.replicate x.length 0,b):=rfl;generalize hG:cO x y b=G at hmw hmn h0|-;clear hG;have z0:=λτ=>l8 x.length τ hxl;refine gO [] Tryz.func113 (by kernel_rfl) (by conv=>lhs;reduce;dsimp only[iA]) rfl ?_;repeat' (first|simp -implicitDefEqProofs -dsimp only[go_sem,seval,List.length_map, *]|(with_reducible refine ACalls.newO (z0 _) λoF hoF hnF hnF'=>?_;try simp only[aa,ne_eq,not_and] at hoF))
 refine ar (λi:Nat=>[(8,some (.int .i64 i)),(2,some (aw y ty)),(1,some (aw x tx)),(0,some (.ptr bo 0)),(7,some (aw (G i).1 .no))]) (λi=>aF σ bo (bg (G i).2)) (λi=>i<=y.length) (λi=>y.length-i) 0 ?_ ?_
 ·have nb:¬bo=oF:=λe=>by rw[e,hoF] at h;simp at h
  have nb':=Ne.symm nb;(repeat' (first|simp -implicitDefEqProofs -dsimp only[go_sem,seval,h0,aw, *]|omega))
 clear hoF hnF hnF' oF;intro i hi;by_cases hlt:i<y.length
 ·have hgy:(y.map λx=>AV.int .i64 x)[i]?=some (.int .i64 (Bl.gt y i)):=by simp[Bl.gt,List.getD_eq_getElem?_getD,hlt]
  have hix:i<=x.length:=by omega
  have hbi:=cV hy i;have hrw:=λj=>oS (x:=x) (bit:=Bl.gt y i) (i:=i) (hmw i).1 j;have hrn:=oQ x (Bl.gt y i) i (G i).2;have hr0:eK x (Bl.gt y i) i (G i).2 0=(List.replicate i 0,(G i).2):=rfl;have hG1:=hmn i;have hGi:=hmw i;generalize hR:eK x (Bl.gt y i) i (G i).2=R at hrw hrn hr0 hG1;generalize hbit:Bl.gt y i=bit at hgy hbi hrn;have z1:=λτ=>l8 i τ (by omega);clear hR hbit z0;repeat' (first|simp -implicitDefEqProofs -dsimp only[go_sem,seval,List.length_map, *]|(with_reducible refine ACalls.newO (z1 _) λoF hoF hnF hnF'=>?_;try simp only[aa,ne_eq,not_and] at hoF))
  have nb:¬bo=oF:=λe=>by rw[e] at hoF;simp[aF] at hoF
  have nb':=Ne.symm nb
  refine ar (λj:Nat=>[(10,some (.int .i64 j)),(9,some (aw (R j).1 (.own oF))),(0,some (.ptr bo 0)),(7,some (aw (G i).1 .no)),(8,some (.int .i64 i)),(2,some (aw y ty)),(1,some (aw x tx))])
   (λj=>aF (aF σ bo (bg (R j).2)) oF (.grow 1 (i+j))) (λj=>j<=x.length-i) (λj=>x.length-i-j) 0 ?_ ?_
  ·(repeat' (first|simp -implicitDefEqProofs -dsimp only[go_sem,seval,hr0,aw,List.map_replicate,Nat.add_zero, *]|omega))
  intro j hj;by_cases hlj:j<x.length-i
  ·have hgx:(x.map λx=>AV.int .i64 x)[j]?=some (.int .i64 (Bl.gt x j)):=by
    simp[Bl.gt,List.getD_eq_getElem?_getD,show j<x.length by omega]
   have z2:=λτ h=>kR bo (R j).2 (Bl.gt x j) bit τ h (hrw j).1;have hn:=hrn j;have hRl:=(hrw j).2.1;generalize hr:(R j).2.op Bl.Op.and (Bl.gt x j) bit 0=r at z2 hn;have hjj:((i:Int)+(j:Int))<(x.length:Int):=by omega
   have hbd:(i+j+1)*8<=35184372088832:=by omega
   clear hr hrw hrn hG1 hGi hmw hmn hs hx hy hbi;repeat' (first|simp -implicitDefEqProofs -dsimp only[go_sem,seval,List.length_map, *]|simp(disch:=omega) only[ah,aj,ao,aA,au,ag,az,aq]|with_reducible refine id_one1 (λtS hS=>z2 _ ?_) ?_ ?_|with_reducible refine Sub.get (by assumption) ?_)
   have hadd:i+(j+1)=i+j+1:=rfl;refine lnx (j+1) ?_;(repeat' (first|simp -implicitDefEqProofs -dsimp only[go_sem,seval,hn,aw,hadd,List.map_append,List.map_cons,List.map_nil, *]|with_reducible refine And.intro ?_ ?_|omega))
  ·have:j=x.length-i:=by omega
   subst this;have hRl:=hrw (x.length-i);have hrl:(G i).1.length<=(R (x.length-i)).1.length:=by rw[hRl.2.1,hGi.2.1];omega
   have z2:=λτ h=>kT bo (R (x.length-i)).2 (G i).1 (R (x.length-i)).1 .no (.own oF) 0 τ h hRl.1 hGi.2.2 hRl.2.2 ⟨by decide,by decide⟩ hrl (by rw[hGi.2.1];exact hxl);generalize hZ:(cj (G i).1 (R (x.length-i)).1 0).run (R (x.length-i)).2=Z at z2 hG1;have hjj:¬((i:Int)+((x.length-i:Nat):Int))<(x.length:Int):=by omega
   have hwr:IntKind.i64.wrap ((i:Int)+((x.length-i:Nat):Int))=(i:Int)+((x.length-i:Nat):Int):=ah _ (by omega) (by omega);clear hZ hrw hrn hmw hmn hs hx hy hbi hrl hRl hGi;repeat' (first|simp -implicitDefEqProofs -dsimp only[go_sem,seval,List.length_map, *]|simp(disch:=omega) only[ah,aj,ao,aA,au,ag,az,aq]|with_reducible refine kc1 (z2 _ ?_) ?_|(with_reducible refine lnx (i+1) ?_;repeat' (first|simp -implicitDefEqProofs -dsimp only[go_sem,seval,aw, *]|with_reducible refine And.intro ?_ ?_))|omega)
 ·have:i=y.length:=by omega
  subst this;clear hmw hmn hs hx hy z0;repeat' (first|simp -implicitDefEqProofs -dsimp only[go_sem,seval,List.length_map, *]|(refine fin_eq ?_;repeat' simp -implicitDefEqProofs -dsimp only[go_sem,seval,aw, *]))
def farN(n i:Nat):Nat:=if i<10 then 2^i else n
def yX(up:Bool)(n i:Nat)(j:Int):Int:=if up then j-(farN n i:Int) else j+(farN n i:Int)
theorem Fu(n i:Nat)(h:n<=64):farN n i<=512:=by
 unfold farN;split
 ·exact(Nat.pow_le_pow_right (by omega) (by omega):2^i<=2^9)
 ·omega
theorem Fv{x:List Int}(hx:x.length<=64)(up:Bool)(i j:Nat)(hj:j<x.length):ng x (kJ up i j)=ng x (yX up x.length i j):=by
 have hc:∀k:Nat,(2:Int)^k=((2^k:Nat):Int):=λk=>by simp
 by_cases h8:i<=8
 ·have e:min i 8=i:=Nat.min_eq_left h8;have e2:farN x.length i=2^i:=if_pos (by omega);unfold kJ yX;rw[e,e2,hc]
 ·have e:min i 8=8:=Nat.min_eq_right (by omega)
  have hz:∀k:Int,(k<0\/(x.length:Int)<=k)->ng x k=0:=λk hk=>by
   unfold ng;rw[if_neg (by omega)]
  have h2:x.length<=farN x.length i:=by
   unfold farN;split
   ·have:i=9:=by omega
    subst this;omega
   ·exact Nat.le_refl _
  rw[hz,hz]
  ·unfold yX;cases up
   ·right;rw[if_neg (by simp)];omega
   ·left;rw[if_pos rfl];omega
  ·unfold kJ;rw[e];cases up
   ·right;rw[if_neg (by simp)];omega
   ·left;rw[if_pos rfl];omega
theorem l9(bo:Nat)(b:Bu)(x y:List Int)(tx ty:Tok)(up:Bool)(σ:aB)(h:σ bo=some (bg b))(hs:Wf b.g)(hx:∀z∈x,I64 z)(hy:∀z∈y,I64 z)(hxl:x.length<=64)(hyl:y.length<=1000000):
  C_ 86 [.ptr bo 0,aw x tx,aw y ty, .bool up] σ (aw (dV x y up b y.length).1 .no) (aF σ bo (bg (dV x y up b y.length).2)):=by
 have hmw:=λi=>wK (y:=y) (up:=up) hs hx i;have hmn:=np x y up b;have h0:dV x y up b 0=(x,b):=rfl;generalize hG:dV x y up b=G at hmw hmn h0|-;clear hG;refine gO [3027] Tryz.func86 (by kernel_rfl) (by conv=>lhs;reduce;dsimp only[iA]) rfl ?_;repeat' simp -implicitDefEqProofs -dsimp only[go_sem,seval,List.length_map, *]
 refine ar (λi:Nat=>[(9,some (.int .i64 i)),(2,some (aw y ty)),(3,some (.bool up)),(0,some (.ptr bo 0)),(1,some (aw (G i).1 .no))]) (λi=>aF σ bo (bg (G i).2)) (λi=>i<=y.length) (λi=>y.length-i) 0 ?_ ?_
 ·(repeat' (first|simp -implicitDefEqProofs -dsimp only[go_sem,seval,h0,aw, *]|omega))
 intro i hi;by_cases hlt:i<y.length
 ·have hgy:(y.map λx=>AV.int .i64 x)[i]?=some (.int .i64 (Bl.gt y i)):=by simp[Bl.gt,List.getD_eq_getElem?_getD,hlt]
  have hbi:=cV hy i;have hG1:=hmn i;have hGi:=hmw i;have hGl:=hGi.2.1;have hfd:=λj hj=>Fv (x:=(G i).1) (by omega) up i j hj;rw[hGl] at hfd;generalize hbit:Bl.gt y i=bit at hgy hbi hG1;have hrw:=λj=>qH (x:=(G i).1) (bit:=bit) (up:=up) (i:=i) hGi.1 j;have hrn:=nk (G i).1 bit up i (G i).2;have hr0:kP (G i).1 bit up i (G i).2 0=([],(G i).2):=rfl;generalize hR:kP (G i).1 bit up i (G i).2=R at hrw hrn hr0 hG1;have hF:=Fu x.length i hxl
  have hcase:(((i:Int)<10/\IntKind.i64.wrap (1*2^i)=(farN x.length i:Int))/\Nat.min i 64=i)\/(¬(i:Int)<10):=by
   by_cases h10:i<10
   ·have e:farN x.length i=2^i:=if_pos h10;refine .inl ⟨⟨by omega,?_⟩,Nat.min_eq_left (by omega)⟩;rw[e] at hF|-;have hc:(2:Int)^i=((2^i:Nat):Int):=by simp
    rw[Int.one_mul,hc,ah _ (by omega) (by omega)]
   ·exact .inr (by omega)
  have hdf:∀j:Nat,yX up x.length i j=if up then (j:Int)-(farN x.length i:Int) else (j:Int)+(farN x.length i:Int):=λj=>rfl
  have hn10:PLift (¬(i:Int)<10->(x.length:Int)=(farN x.length i:Int)):=⟨λh=>by rw[show farN x.length i=x.length from if_neg (by omega)]⟩;generalize hFAR:farN x.length i=FAR at hF hcase hn10;have hdf:∀j:Nat,yX up x.length i j=if up then (j:Int)-(FAR:Int) else (j:Int)+(FAR:Int):=λj=>by rw[hdf,hFAR]
  have hni:¬(i:Int)<0:=by omega
  have hh:∀j,(R j).2.op Bl.Op.mux bit (ng (G i).1 (kJ up i j)) (Bl.gt (G i).1 j)=(R j).2.op Bl.Op.mux bit (ng (G i).1 (kJ up i j)) (Bl.gt (G i).1 j):=λ_=>rfl;clear hR hFAR hbit hh;obtain⟨⟨hl10,hsh⟩,hmn10⟩|hl10:=hcase
  all_goals
   repeat' (first|simp -implicitDefEqProofs -dsimp only[go_sem,seval,List.length_map, *]|(with_reducible refine Zt λoF hoF hnF hnF'=>?_;try simp only[aa,ne_eq,not_and] at hoF))
   have nb:¬bo=oF:=λe=>by rw[e] at hoF;simp[aF] at hoF
   have nb':=Ne.symm nb
   refine ar (λj:Nat=>[(12,some (.int .i64 j)),(1,some (aw (G i).1 .no)),(10,some (.int .i64 FAR)),(3,some (.bool up)),(11,some (aw (R j).1 (.own oF))),(0,some (.ptr bo 0)),(2,some (aw y ty)),(9,some (.int .i64 i))])
    (λj=>aF (aF σ bo (bg (R j).2)) oF (.grow 1 j)) (λj=>j<=x.length) (λj=>x.length-j) 0 ?_ ?_
   ·have hn10:=hn10.down;(repeat' (first|simp -implicitDefEqProofs -dsimp only[go_sem,seval,hr0,aw,List.map_nil, *]|omega))
   clear hn10;intro j hj;by_cases hlj:j<x.length
   ·have hgx:((G i).1.map λx=>AV.int .i64 x)[j]?=some (.int .i64 (Bl.gt (G i).1 j)):=by
     simp[Bl.gt,List.getD_eq_getElem?_getD,hGl,hlj]
    have z1:=λτ h=>wP bo (R j).2 bit (ng (G i).1 (kJ up i j)) (Bl.gt (G i).1 j) τ h (hrw j).1 hbi;have hn:=hrn j;have hRl:=(hrw j).2.1;rw[hfd j hlj] at z1 hn;have hdj:=hdf j;generalize hKK:yX up x.length i j=KK at z1 hn hdj;generalize hr:(R j).2.op Bl.Op.mux bit (ng (G i).1 KK) (Bl.gt (G i).1 j)=r at z1 hn;have hbd:(j+1)*8<=35184372088832:=by omega
    generalize hV:ng (G i).1 KK=V at z1
    have hk:(KK≥0/\KK<(x.length:Int)/\((G i).1.map λx=>AV.int .i64 x)[KK.toNat]?=some (.int .i64 V))\/(KK≥0/\¬KK<(x.length:Int)/\V=0)\/(¬KK≥0/\V=0):=by
     by_cases k0:KK≥0
     ·by_cases k1:KK<(x.length:Int)
      ·refine .inl ⟨k0,k1,?_⟩;rw[<-hV,ng,if_pos ⟨k0,by rw[hGl];exact k1⟩];simp[Bl.gt,List.getD_eq_getElem?_getD,hGl,show KK.toNat<x.length by omega]
      ·exact .inr (.inl ⟨k0,k1,by rw[<-hV,ng,if_neg (by rw[hGl];omega)]⟩)
     ·exact .inr (.inr ⟨k0,by rw[<-hV,ng,if_neg (by omega)]⟩)
    clear hr hrw hrn hG1 hGi hmw hmn hs hx hy hbi hfd hdf hV hKK;cases up
    all_goals
     simp only[if_true,Bool.false_eq_true,if_false] at hdj;have hdj':=hdj.symm;obtain⟨k0,k1,k2⟩|⟨k0,k1,rfl⟩|⟨k0,rfl⟩:=hk
     all_goals
      clear hdj;repeat' (first|simp -implicitDefEqProofs -dsimp only[go_sem,seval,List.length_map, *]|simp(disch:=omega) only[ah,aj,ao,aA,au,ag,az,aq]|with_reducible refine id_one1 (λtS hS=>z1 _ ?_) ?_ ?_|with_reducible refine Sub.get (by assumption) ?_|(with_reducible refine lnx (j+1) ?_;repeat' (first|simp -implicitDefEqProofs -dsimp only[go_sem,seval,aw,List.map_append,List.map_cons,List.map_nil, *]|with_reducible refine And.intro ?_ ?_))|omega)
   ·have:j=x.length:=by omega
    subst this;rw[hGl] at hG1;clear hrw hrn hmw hmn hs hx hy hbi hGi hfd hdf;repeat' (first|simp -implicitDefEqProofs -dsimp only[go_sem,seval,List.length_map, *]|simp(disch:=omega) only[ah,aj,ao,aA,au,ag,az,aq]|(with_reducible refine lnx (i+1) ?_;repeat' (first|simp -implicitDefEqProofs -dsimp only[go_sem,seval,aw, *]|with_reducible refine And.intro ?_ ?_))|omega)
 ·have:i=y.length:=by omega
  subst this;clear hmw hmn hs hx hy;repeat' (first|simp -implicitDefEqProofs -dsimp only[go_sem,seval,List.length_map, *]|(refine fin_eq ?_;repeat' simp -implicitDefEqProofs -dsimp only[go_sem,seval,aw, *]))
end Go.Proofs.YtbbihmmobfmadaaGreat
namespace Go.Proofs.YtbbihmmobfmadaaGreat
open Abs Fil Fil.Bl A
theorem Ir(bo:Nat)(b:Bu)(op:Int)(x:List Int)(t:Tok)(σ:aB)(h:σ bo=some (bg b))(hs:Wf b.g)(hx:Lw x)(h1:1<=x.length)(hl:x.length<=1000000)(ho:1<=op/\op<=6):
  C_ 53 [.ptr bo 0, .int .i64 op,aw x t] σ (aw ((mE op x).run b).1 .no) (aF σ bo (bg ((mE op x).run b).2)):=by
 have hU:(mE op x).run b=if op=1 then (aN x,b) else if op=2 then (((cj (aN x) (List.replicate x.length 0) 1).run b).1.1,((cj (aN x) (List.replicate x.length 0) 1).run b).2)
   else if op=3 then ([((eB x).run b).1],((eB x).run b).2) else if op=4 then ([turn ((eB (aN x)).run b).1],((eB (aN x)).run b).2)
   else if op=5 then ([(dB .xor 0 x b x.length).1],(dB .xor 0 x b x.length).2) else ([turn (Bl.gt x 0)],b):=by
  unfold mE;repeat' split
  all_goals first|rfl|(rw[run_bind];rfl)
 generalize hUU:(mE op x).run b=U at hU|-;clear hUU;have z1:=λτ=>rY x t τ hx hl;by_cases o1:op=1
 ·rw[if_pos o1] at hU;subst hU o1;clear hs hx;rw[cg h];refine gO [] Tryz.func53 (by kernel_rfl) (by conv=>lhs;reduce;dsimp only[iA]) rfl ?_;repeat' (first|simp -implicitDefEqProofs -dsimp only[go_sem,seval, *]|simp(disch:=omega) only[ah,aj,ao,aA,au,ag,az,aq]|with_reducible refine kc1 (z1 _) ?_|refine fin_eq ?_)
 rw[if_neg o1] at hU;have b1:(op==1)=false:=by simp[o1]
 by_cases o2:op=2
 ·rw[if_pos o2] at hU;subst o2;have z2:=λτ=>l8 x.length τ hl;have z3:=λo τ h=>kT bo b (aN x) (List.replicate x.length 0) .no (.own o) 1 τ h hs hx.not.i64 (Lw.zeros _).i64 ⟨by decide,by decide⟩ (by simp[aN]) (by simpa [aN] using hl);obtain⟨⟨⟨A,a2⟩,bA⟩,hA⟩:∃Z,(cj (aN x) (List.replicate x.length 0) 1).run b=Z:=⟨_,rfl⟩;rw[hA] at z3 hU;simp only at z3 hU;subst hU;clear hA hs hx;refine gO [] Tryz.func53 (by kernel_rfl) (by conv=>lhs;reduce;dsimp only[iA]) rfl ?_;repeat' (first|simp -implicitDefEqProofs -dsimp only[go_sem,seval,List.length_map, *]|simp(disch:=omega) only[ah,aj,ao,aA,au,ag,az,aq]|with_reducible refine kc1 (z1 _) ?_|with_reducible refine kc1 (z3 _ _ ?_) ?_|(with_reducible refine ACalls.newO (z2 _) λoF hoF hnF hnF'=>?_;try simp only[aa,ne_eq,not_and] at hoF))
  have nb:¬bo=oF:=λe=>by rw[e,hoF] at h;simp at h
  have nb':=Ne.symm nb;repeat' (first|simp -implicitDefEqProofs -dsimp only[go_sem,seval,List.length_map, *]|refine fin_eq ?_)
 rw[if_neg o2] at hU;have b2:(op==2)=false:=by simp[o2]
 by_cases o3:op=3
 ·rw[if_pos o3] at hU;subst o3;have z2:=λτ h=>rZ bo b x t τ h hs hl;obtain⟨⟨A,bA⟩,hA⟩:∃Z,(eB x).run b=Z:=⟨_,rfl⟩;rw[hA] at z2 hU;simp only at z2 hU;subst hU;clear hA hs hx z1;refine gO [] Tryz.func53 (by kernel_rfl) (by conv=>lhs;reduce;dsimp only[iA]) rfl ?_;repeat' (first|simp -implicitDefEqProofs -dsimp only[go_sem,seval, *]|simp(disch:=omega) only[ah,aj,ao,aA,au,ag,az,aq]|with_reducible refine kc1 (z2 _ ?_) ?_|(refine fin_eq ?_;repeat' simp -implicitDefEqProofs -dsimp only[go_sem,seval,aw,List.map_cons,List.map_nil, *]))
 rw[if_neg o3] at hU;have b3:(op==3)=false:=by simp[o3]
 by_cases o4:op=4
 ·rw[if_pos o4] at hU;subst o4;have z2:=λτ h=>rZ bo b (aN x) .no τ h hs (by simpa [aN] using hl);have hL:L0 ((eB (aN x)).run b).1:=kU .and _ hs ⟨by decide,by decide⟩ _;obtain⟨⟨A,bA⟩,hA⟩:∃Z,(eB (aN x)).run b=Z:=⟨_,rfl⟩;rw[hA] at z2 hU hL;simp only at z2 hU hL;have z3:=λτ=>dM A τ (by unfold L0 at hL;omega);subst hU;clear hA hs hx hL;refine gO [] Tryz.func53 (by kernel_rfl) (by conv=>lhs;reduce;dsimp only[iA]) rfl ?_;repeat' (first|simp -implicitDefEqProofs -dsimp only[go_sem,seval, *]|simp(disch:=omega) only[ah,aj,ao,aA,au,ag,az,aq]|with_reducible refine kc1 (z1 _) ?_|with_reducible refine kc1 (z2 _ ?_) ?_|with_reducible refine kc1 (z3 _) ?_|(refine fin_eq ?_;repeat' simp -implicitDefEqProofs -dsimp only[go_sem,seval,aw,List.map_cons,List.map_nil, *]))
 rw[if_neg o4] at hU;have b4:(op==4)=false:=by simp[o4]
 by_cases o5:op=5
 ·rw[if_pos o5] at hU;subst o5;have hw:=jJ .xor x hs (a:=0) ⟨by decide,by decide⟩;have hnx:=ig .xor 0 x b;have h0:dB .xor 0 x b 0=(0,b):=rfl;generalize hG:dB .xor 0 x b=G at hw hnx h0 hU;subst hU;clear hG z1;refine gO [] Tryz.func53 (by kernel_rfl) (by conv=>lhs;reduce;dsimp only[iA]) rfl ?_;repeat' (first|simp -implicitDefEqProofs -dsimp only[go_sem,seval, *]|simp(disch:=omega) only[ah,aj,ao,aA,au,ag,az,aq])
  refine ar (λi:Nat=>[(10,some (.int .i64 i)),(2,some (aw x t)),(0,some (.ptr bo 0)),(9,some (.int .i64 (G i).1))]) (λi=>aF σ bo (bg (G i).2)) (λi=>i<=x.length) (λi=>x.length-i) 0 ?_ ?_
  ·(repeat' (first|simp -implicitDefEqProofs -dsimp only[go_sem,seval,h0, *]|omega))
  intro i hi;by_cases hlt:i<x.length
  ·have hgx:(x.map λx=>AV.int .i64 x)[i]?=some (.int .i64 (Bl.gt x i)):=by simp[Bl.gt,List.getD_eq_getElem?_getD,hlt]
   have z1:=λτ h=>kS bo (G i).2 (G i).1 (Bl.gt x i) τ h (hw i).1 (hw i).2 (hx.gt i).i64;have hn:=hnx i;rw[<-hn] at z1;clear hw hnx hs hn hx;repeat' (first|simp -implicitDefEqProofs -dsimp only[go_sem,seval,List.length_map, *]|simp(disch:=omega) only[ah,aj,ao,aA,au,ag,az,aq]|with_reducible refine kc1 (z1 _ ?_) ?_|with_reducible refine lnx (i+1) ?_|with_reducible refine And.intro ?_ ?_|omega)
  ·have:i=x.length:=by omega
   subst this;clear hw hnx hs hx;repeat' (first|simp -implicitDefEqProofs -dsimp only[go_sem,seval,List.length_map, *]|(refine fin_eq ?_;repeat' simp -implicitDefEqProofs -dsimp only[go_sem,seval,aw,List.map_cons,List.map_nil, *]))
 rw[if_neg o5] at hU;have b5:(op==5)=false:=by simp[o5]
 have z2:=λτ=>dM (Bl.gt x 0) τ (by have:=hx.gt 0;unfold L0 at this;omega);have hgx:(x.map λx=>AV.int .i64 x)[0]?=some (.int .i64 (Bl.gt x 0)):=by simp[Bl.gt,List.getD_eq_getElem?_getD,show 0<x.length by omega]
 subst hU;have hx0:(0:Int)<(x.length:Int):=by omega
 clear hs hx z1;rw[cg h];refine gO [] Tryz.func53 (by kernel_rfl) (by conv=>lhs;reduce;dsimp only[iA]) rfl ?_;repeat' (first|simp -implicitDefEqProofs -dsimp only[go_sem,seval,List.length_map, *]|simp(disch:=omega) only[ah,aj,ao,aA,au,ag,az,aq]|with_reducible refine kc1 (z2 _) ?_|(refine fin_eq ?_;repeat' simp -implicitDefEqProofs -dsimp only[go_sem,seval,aw,List.map_cons,List.map_nil, *]))
end Go.Proofs.YtbbihmmobfmadaaGreat
namespace Go.Proofs.YtbbihmmobfmadaaGreat
open Abs Fil Fil.Bl A
def jP(op:Int):Bl.Op:=if op=11\/op=25 then .and else if op=12\/op=26 then .or else .xor
theorem wR{op:Int}(x y:List Int)(h:op=11\/op=25\/op=12\/op=26\/op=13):cD op x y=eA (λp q=> .op (jP op) p q 0 .ret) x y x.length:=by
 rcases h with rfl|rfl|rfl|rfl|rfl<;>simp[cD,jP]<;>rfl
theorem Fw(bo:Nat)(b:Bu)(op:Int)(x y:List Int)(tx ty:Tok)(σ:aB)(h:σ bo=some (bg b))(hs:Wf b.g)(hx:Lw x)(hy:Lw y)(hx1:1<=x.length)(hxl:x.length<=64)(hyl:y.length<=64)(ho:11<=op/\op<=26)(hlen:op=17\/op=18\/x.length=y.length):
    C_ 63 [.ptr bo 0, .int .i64 op,aw x tx,aw y ty] σ (aw ((cD op x y).run b).1 .no) (aF σ bo (bg ((cD op x y).run b).2)):=by
  by_cases oz:op=11\/op=25\/op=12\/op=26\/op=13
  · rw[wR x y oz]
    have hle:x.length=y.length:=by omega
    have hw:=λk=>gj (gR (jP op)) (x:=x) (y:=y) hs k;have hnx:∀k,bw (λp q=> .op (jP op) p q 0 .ret) x y b (k+1)=((bw (λp q=> .op (jP op) p q 0 .ret) x y b k).1++[((bw (λp q=> .op (jP op) p q 0 .ret) x y b k).2.op (jP op) (Bl.gt x k) (Bl.gt y k) 0).1],((bw (λp q=> .op (jP op) p q 0 .ret) x y b k).2.op (jP op) (Bl.gt x k) (Bl.gt y k) 0).2):=λk=>gi _ x y b k;have h0:bw (λp q=> .op (jP op) p q 0 .ret) x y b 0=([],b):=rfl;show ACalls Tryz.prog 63 _ σ (λr σ'=>r= .ret (aw (bw (λp q=> .op (jP op) p q 0 .ret) x y b x.length).1 .no)/\σ'=aF σ bo (bg (bw (λp q=> .op (jP op) p q 0 .ret) x y b x.length).2))
    generalize hG:bw (λp q=> .op (jP op) p q 0 .ret) x y b=G at hw hnx h0|-;have hix:=λk=>(hx.gt k).i64;have hiy:=λk=>(hy.gt k).i64;clear hG hs hx hy ho hlen;replace hle:=PLift.up hle;refine gO [3065] Tryz.func63 (by kernel_rfl) (by conv=>lhs;reduce;dsimp only[iA]) rfl ?_;rcases oz with o|o|o|o|o
    all_goals
      repeat' (first|simp -implicitDefEqProofs -dsimp only[go_sem,seval, *]|(with_reducible refine Zt λoF hoF hnF hnF'=>?_;try simp only[aa,ne_eq,not_and] at hoF))
      have nb:¬bo=oF:=λe=>by rw[e,hoF] at h;simp at h
      have nb':=Ne.symm nb;refine ar (λi:Nat=>[(14,some (.int .i64 i)),(1,some (.int .i64 op)),(2,some (aw x tx)),(0,some (.ptr bo 0)),(3,some (aw y ty)),(13,some (aw (G i).1 (.own oF)))]) (λi=>aF (aF σ bo (bg (G i).2)) oF (.grow 1 i)) (λi=>i<=x.length) (λi=>x.length-i) 0 ?_ ?_
      · (repeat' (first|simp -implicitDefEqProofs -dsimp only[go_sem,seval,h0,aw,List.map_nil, *]|omega))
      intro i hi;by_cases hlt:i<x.length
      · have hgx:(x.map λx=>AV.int .i64 x)[i]?=some (.int .i64 (Bl.gt x i)):=by simp[Bl.gt,List.getD_eq_getElem?_getD,hlt]
        have hgy:(y.map λx=>AV.int .i64 x)[i]?=some (.int .i64 (Bl.gt y i)):=by simp[Bl.gt,List.getD_eq_getElem?_getD,show i<y.length by have:=hle.down;omega]
        obtain⟨w1,w2,_⟩:=hw i;have hn:=hnx i;have hix:=hix i;have hiy:=hiy i;have hbd:(i+1)*8<=35184372088832:=by omega
        simp only[o,jP,reduceIte,Int.reduceEq,or_self,or_true,true_or] at hn;obtain⟨X,hX⟩:∃X,Bl.gt x i=X:=⟨_,rfl⟩;obtain⟨Y,hY⟩:∃X,Bl.gt y i=X:=⟨_,rfl⟩;rw[hX] at hgx hix hn;rw[hY] at hgy hiy hn;clear hw hnx hX hY hle;first
        | (have z1 := λτ h => kR bo (G i).2 X Y τ h w1
           generalize hr:(G i).2.op Bl.Op.and X Y 0=r at z1 hn;clear hr w1;(repeat' (first|simp -implicitDefEqProofs -dsimp only[go_sem,seval,List.length_map, *]|simp(disch:=omega) only[ah,aj,ao,aA,au,ag,az,aq]|with_reducible refine id_one1 (λtS hS=>z1 _ ?_) ?_ ?_|with_reducible refine Sub.get (by assumption) ?_|(with_reducible refine lnx (i+1) ?_;repeat' (first|simp -implicitDefEqProofs -dsimp only[go_sem,seval,aw,List.map_append,List.map_cons,List.map_nil, *]|with_reducible refine And.intro ?_ ?_))|omega));done)
        | (have z1 := λτ h => BQ bo (G i).2 X Y τ h w1
           generalize hr:(G i).2.op Bl.Op.or X Y 0=r at z1 hn;clear hr w1;(repeat' (first|simp -implicitDefEqProofs -dsimp only[go_sem,seval,List.length_map, *]|simp(disch:=omega) only[ah,aj,ao,aA,au,ag,az,aq]|with_reducible refine id_one1 (λtS hS=>z1 _ ?_) ?_ ?_|with_reducible refine Sub.get (by assumption) ?_|(with_reducible refine lnx (i+1) ?_;repeat' (first|simp -implicitDefEqProofs -dsimp only[go_sem,seval,aw,List.map_append,List.map_cons,List.map_nil, *]|with_reducible refine And.intro ?_ ?_))|omega));done)
        | (have z1 := λτ h => kS bo (G i).2 X Y τ h w1 hix hiy
           generalize hr:(G i).2.op Bl.Op.xor X Y 0=r at z1 hn;clear hr w1;(repeat' (first|simp -implicitDefEqProofs -dsimp only[go_sem,seval,List.length_map, *]|simp(disch:=omega) only[ah,aj,ao,aA,au,ag,az,aq]|with_reducible refine id_one1 (λtS hS=>z1 _ ?_) ?_ ?_|with_reducible refine Sub.get (by assumption) ?_|(with_reducible refine lnx (i+1) ?_;repeat' (first|simp -implicitDefEqProofs -dsimp only[go_sem,seval,aw,List.map_append,List.map_cons,List.map_nil, *]|with_reducible refine And.intro ?_ ?_))|omega));done)
      · have:i=x.length:=by omega
        subst this;clear hw hnx hle;repeat' (first|simp -implicitDefEqProofs -dsimp only[go_sem,seval,List.length_map, *]|(refine fin_eq ?_;repeat' simp -implicitDefEqProofs -dsimp only[go_sem,seval,aw, *]))
  by_cases oc:19<=op/\op<=24
  · rw[wQ x y b oc]
    have z1:=λτ h=>tq bo b op x y tx ty τ h hs hx hy (by omega) (by omega) oc;obtain⟨⟨A,bA⟩,hA⟩:∃Z,(pV op x y).run b=Z:=⟨_,rfl⟩;rw[hA] at z1|-;simp only at z1|-;have hop:op=19\/op=20\/op=21\/op=22\/op=23\/op=24:=by omega
    clear hA hs hx hy ho hlen oz oc;refine gO [3065] Tryz.func63 (by kernel_rfl) (by conv=>lhs;reduce;dsimp only[iA]) rfl ?_;rcases hop with rfl|rfl|rfl|rfl|rfl|rfl
    all_goals
      repeat' (first|simp -implicitDefEqProofs -dsimp only[go_sem,seval, *]|with_reducible refine kc1 (z1 _ ?_) ?_|(refine fin_eq ?_;repeat' simp -implicitDefEqProofs -dsimp only[go_sem,seval,aw,List.map_cons,List.map_nil, *]))
  have hop:op=14\/op=15\/op=16\/op=17\/op=18:=by omega
  clear oz oc ho;refine gO [3065] Tryz.func63 (by kernel_rfl) (by conv=>lhs;reduce;dsimp only[iA]) rfl ?_;rcases hop with rfl|rfl|rfl|rfl|rfl
  · have z1:=λτ h=>kT bo b x y tx ty 0 τ h hs hx.i64 hy.i64 ⟨by decide,by decide⟩ (by omega) (by omega)
    have e:(cD 14 x y).run b=(((cj x y 0).run b).1.1,((cj x y 0).run b).2):=by
      simp only[cD,reduceIte,Int.reduceEq,or_self];rw[run_bind];rfl
    rw[e];obtain⟨⟨⟨A,a2⟩,bA⟩,hA⟩:∃Z,(cj x y 0).run b=Z:=⟨_,rfl⟩;rw[hA] at z1|-;simp only at z1|-;clear hA hs hx hy hlen e;repeat' (first|simp -implicitDefEqProofs -dsimp only[go_sem,seval, *]|with_reducible refine kc1 (z1 _ ?_) ?_|refine fin_eq ?_)
  · have z0:=λτ=>rY y ty τ hy (by omega)
    have z1:=λτ h=>kT bo b x (aN y) tx .no 1 τ h hs hx.i64 hy.not.i64 ⟨by decide,by decide⟩ (by simp[aN];omega) (by omega)
    have e:(cD 15 x y).run b=(((cj x (aN y) 1).run b).1.1,((cj x (aN y) 1).run b).2):=by
      simp only[cD,reduceIte,Int.reduceEq,or_self];rw[run_bind];rfl
    rw[e];obtain⟨⟨⟨A,a2⟩,bA⟩,hA⟩:∃Z,(cj x (aN y) 1).run b=Z:=⟨_,rfl⟩;rw[hA] at z1|-;simp only at z1|-;clear hA hs hx hy hlen e;repeat' (first|simp -implicitDefEqProofs -dsimp only[go_sem,seval, *]|with_reducible refine kc1 (z0 _) ?_|with_reducible refine kc1 (z1 _ ?_) ?_|refine fin_eq ?_)
  · have z1:=λτ h=>Ft bo b x y tx ty τ h hs hx.i64 hy.i64 (by omega) (by omega)
    have e:(cD 16 x y).run b=cO x y b y.length:=rfl;rw[e];obtain⟨⟨A,bA⟩,hA⟩:∃Z,cO x y b y.length=Z:=⟨_,rfl⟩;rw[hA] at z1|-;simp only at z1|-;clear hA hs hx hy hlen e;repeat' (first|simp -implicitDefEqProofs -dsimp only[go_sem,seval, *]|with_reducible refine kc1 (z1 _ ?_) ?_|refine fin_eq ?_)
  · have z1:=λτ h=>l9 bo b x y tx ty true τ h hs hx.i64 hy.i64 (by omega) (by omega)
    have e:(cD 17 x y).run b=dV x y true b y.length:=rfl;rw[e];obtain⟨⟨A,bA⟩,hA⟩:∃Z,dV x y true b y.length=Z:=⟨_,rfl⟩;rw[hA] at z1|-;simp only at z1|-;clear hA hs hx hy hlen e;repeat' (first|simp -implicitDefEqProofs -dsimp only[go_sem,seval, *]|with_reducible refine kc1 (z1 _ ?_) ?_|refine fin_eq ?_)
  · have z1:=λτ h=>l9 bo b x y tx ty false τ h hs hx.i64 hy.i64 (by omega) (by omega)
    have e:(cD 18 x y).run b=dV x y false b y.length:=rfl;rw[e];obtain⟨⟨A,bA⟩,hA⟩:∃Z,dV x y false b y.length=Z:=⟨_,rfl⟩;rw[hA] at z1|-;simp only at z1|-;clear hA hs hx hy hlen e;repeat' (first|simp -implicitDefEqProofs -dsimp only[go_sem,seval, *]|with_reducible refine kc1 (z1 _ ?_) ?_|refine fin_eq ?_)
end Go.Proofs.YtbbihmmobfmadaaGreat
namespace Go.Proofs.YtbbihmmobfmadaaGreat
open Abs Fil Fil.Bl A
theorem yY(g:Aig)(a:List Int)(t:Tok)(σ:aB)(hf:Fine g)(hl:a.length<=1000000):
  C_ 47 [aJ g,aw a t] σ (.bool (eO g a)) σ:=by
 have hcb:=hf.cnt;have hlo:=hf.lo;have hc0:0<=g.count:=by unfold Aig.count;omega
 have z1:=λτ=>hH g τ hf.toSmall;have z2:=λx τ=>jH (1+g.count) x τ (by omega) (by omega);have hW:eO g a=(decide (0<a.length)&&decide (a.length<=64)&&a.all λz=>Aig.litN (1+g.count) z):=rfl;generalize hWW:eO g a=W at hW|-;clear hWW hf;by_cases h1:(a.length:Int)<1
 ·have e:W=false:=by rw[hW,show decide (0<a.length)=false by rw[decide_eq_false_iff_not];omega];rfl
  subst e;clear hW;refine gO [2] Tryz.func47 (by kernel_rfl) (by conv=>lhs;reduce;dsimp only[iA]) rfl ?_;repeat' (first|simp -implicitDefEqProofs -dsimp only[go_sem,seval,gt_iff_lt,List.length_map, *]|refine fin_eq ?_)
 by_cases h2:(64:Int)<(a.length:Int)
 ·have e:W=false:=by rw[hW,show decide (a.length<=64)=false by rw[decide_eq_false_iff_not];omega];simp
  subst e;clear hW;refine gO [2] Tryz.func47 (by kernel_rfl) (by conv=>lhs;reduce;dsimp only[iA]) rfl ?_;repeat' (first|simp -implicitDefEqProofs -dsimp only[go_sem,seval,gt_iff_lt,List.length_map, *]|refine fin_eq ?_)
 replace hW:W=a.all λz=>Aig.litN (1+g.count) z:=by
  rw[hW,show decide (0<a.length)=true by rw[decide_eq_true_iff];omega,show decide (a.length<=64)=true by rw[decide_eq_true_iff];omega];rfl
 obtain⟨L,hL⟩:∃L:Int->Bool,Aig.litN (1+g.count)=L:=⟨_,rfl⟩;rw[hL] at hW z2;clear hL;refine gO [2] Tryz.func47 (by kernel_rfl) (by conv=>lhs;reduce;dsimp only[iA]) rfl ?_;repeat' simp -implicitDefEqProofs -dsimp only[go_sem,seval,gt_iff_lt,List.length_map, *]
 refine ar (λi:Nat=>[(5,some (.int .i64 i)),(1,some (aw a t)),(2,some (.cptr (gg g)))]) (λ_=>σ) (λi=>i<=a.length/\(a.take i).all L=true) (λi=>a.length-i) 0 ?_ ?_
 ·(repeat' (first|simp -implicitDefEqProofs -dsimp only[go_sem,seval,List.take_zero,List.all_nil, *]|omega))
 rintro i ⟨hi,hall⟩;by_cases hlt:i<a.length
 ·obtain⟨l,hl⟩:∃l,a[i]=l:=⟨_,rfl⟩;have hgx:(a.map λx=>AV.int .i64 x)[i]?=some (.int .i64 l):=by simp[hlt,hl]
  have htk:a.take (i+1)=a.take i++[l]:=by rw[List.take_add_one];simp[hlt,hl]
  have hmem:l∈a:=hl▸List.getElem_mem _;have z3:=λτ=>z2 l τ;cases hLl:L l with
  |false=>
   have e:W=false:=by rw[hW,List.all_eq_false];exact⟨l,hmem,by rw[hLl];simp⟩
   rw[hLl] at z3;subst e;clear hl z2 htk hmem hW hLl hall;repeat' (first|simp -implicitDefEqProofs -dsimp only[go_sem,seval,List.length_map, *]|with_reducible refine id_one0 (λtS hS=>z1 _) trivial ?_|with_reducible refine id_one0 (λtS hS=>z3 _) trivial ?_|refine fin_eq ?_)
  |true=>
   have hall2:(a.take (i+1)).all L=true:=by rw[htk,List.all_append,hall];simp[hLl]
   rw[hLl] at z3;clear hl z2 htk hmem hW hLl hall;repeat' (first|simp -implicitDefEqProofs -dsimp only[go_sem,seval,List.length_map, *]|simp(disch:=omega) only[ah,aj,ao,aA,au,ag,az,aq]|with_reducible refine id_one0 (λtS hS=>z1 _) trivial ?_|with_reducible refine id_one0 (λtS hS=>z3 _) trivial ?_|with_reducible refine lnx (i+1) ?_|with_reducible refine And.intro ?_ ?_|omega)
 ·have:i=a.length:=by omega
  subst this;have e:W=true:=by rw[hW];rw[List.take_length] at hall;exact hall
  subst e;clear hW hall z2;repeat' (first|simp -implicitDefEqProofs -dsimp only[go_sem,seval,List.length_map, *]|refine fin_eq ?_)
theorem BU(g:Aig)(e:Int)(l:List Int)(t:Tok)(σ:aB):
  ACalls Tryz.prog 45 [.agg [.int .i64 g.ins, .slice (g.flops.map encFlop) .no, .slice (g.ands.map encGate) .no, .slice (g.outs.map encInt) .no, .int .i64 e],aw l t] σ
   (λr σ'=>r= .ret (.tup [aJ (bK (l,⟨g,e⟩)).1,aw (bK (l,⟨g,e⟩)).2.1 .no, .int .i64 (bK (l,⟨g,e⟩)).2.2])/\σ'=σ):=by
 by_cases he:e=0
 ·rw[show bK (l,⟨g,e⟩)=(g,l,0) by unfold bK;rw[if_neg (by simpa using he)]];subst he;refine gO [2] Tryz.func45 (by kernel_rfl) (by conv=>lhs;reduce;dsimp only[iA]) rfl ?_;repeat' (first|simp -implicitDefEqProofs -dsimp only[go_sem,seval, *]|simp(disch:=omega) only[ah,aj,ao,aA,au,ag,az,aq]|(with_reducible refine Zt λoF hoF hnF hnF'=>?_;try simp only[aa,ne_eq,not_and] at hoF)|(refine fin_eq ?_;repeat' simp -implicitDefEqProofs -dsimp only[go_sem,seval,aw, *]))
 ·rw[show bK (l,⟨g,e⟩)=(zG,[],e) by unfold bK;rw[if_pos he]];have he':(e != 0)=true:=by simpa using he
  clear he;refine gO [2] Tryz.func45 (by kernel_rfl) (by conv=>lhs;reduce;dsimp only[iA]) rfl ?_;repeat' (first|simp -implicitDefEqProofs -dsimp only[go_sem,seval, *]|simp(disch:=omega) only[ah,aj,ao,aA,au,ag,az,aq]|(with_reducible refine Zt λoF hoF hnF hnF'=>?_;try simp only[aa,ne_eq,not_and] at hoF)|(refine fin_eq ?_;repeat' simp -implicitDefEqProofs -dsimp only[go_sem,seval,zG,aw,List.map_nil, *]))
theorem wS{g:Aig}(hf:Fine g){a:List Int}(h:eO g a=true):(1<=a.length/\a.length<=64)/\Lw a:=by
 unfold eO at h;simp only[Bool.and_eq_true,decide_eq_true_eq,List.all_eq_true] at h;exact⟨by omega,λz hz=>BR hf (h.2 z hz)⟩
theorem oW{g:Aig}{may:Bool}{p:Pg (List Int)}(h:g.check≠0):gC g may p=(zG,[],g.check):=if_pos h
theorem wT{g:Aig}{p:Pg (List Int)}(h:g.check=0):gC g false p=(zG,[],1):=by unfold gC;rw[if_neg (by omega),if_pos rfl]
theorem BV{g:Aig}{p:Pg (List Int)}(h:g.check=0):gC g true p=bK (p.run ⟨g,0⟩):=by unfold gC;rw[if_neg (by omega),if_neg (by simp)]
end Go.Proofs.YtbbihmmobfmadaaGreat
namespace Go.Proofs.YtbbihmmobfmadaaGreat
open Abs Fil Fil.Bl A
theorem Fx(op:Int)(w:Nat)(a:List Int)(t:Tok)(σ:aB)(h1:1<=a.length)(hl:a.length<=64)(hw:1<=w/\w<=64)(ho:(op=31\/op=32)/\a.length<=w\/op=33/\w<=a.length):
  C_ 57 [.int .i64 op, .int .i64 w,aw a t] σ (aw (fS op w a) .no) σ:=by
 rcases ho with ⟨hop,hle⟩|⟨h33,hle⟩
 ·obtain⟨m,hm⟩:∃m,(if op=32 then gt a (a.length-1) else 0)=m:=⟨_,rfl⟩
  have e:fS op w a=a++List.replicate (w-a.length) m:=by
   unfold fS;rw[if_neg (by omega),hm];simp
  rw[e]
  have hgx:op=32->(a.map λx=>AV.int .i64 x)[a.length-1]?=some (.int .i64 m):=λh=>by
   rw[<-hm,if_pos h];simp[gt,List.getD_eq_getElem?_getD,show a.length-1<a.length by omega]
  have hsub1:(a.length:Int)-1=((a.length-1:Nat):Int):=by omega
  have hlt:a.length-1<a.length:=by omega
  have hm0:op=31->m=0:=λh=>by rw[<-hm,if_neg (by omega)]
  clear e hm;rcases hop with rfl|rfl
  ·have hm0:=hm0 rfl;subst hm0;clear hgx;refine gO [3024] Tryz.func57 (by kernel_rfl) (by conv=>lhs;reduce;dsimp only[iA]) rfl ?_;repeat' (first|simp -implicitDefEqProofs -dsimp only[go_sem,seval,List.length_map, *]|simp(disch:=omega) only[ah,aj,ao,aA,au,ag,az,aq]|with_reducible refine Zv ?_ ?_|(with_reducible refine Zt λoF hoF hnF hnF'=>?_;try simp only[aa,ne_eq,not_and] at hoF)|omega)
   refine ar (λk:Nat=>[(8,some (aw (a++List.replicate k 0) (.own oF))),(1,some (.int .i64 w)),(7,some (.int .i64 0))]) (λk=>aF σ oF (.grow 1 (a.length+k))) (λk=>k<=w-a.length) (λk=>w-a.length-k) 0 ?_ ?_
   ·(repeat' (first|simp -implicitDefEqProofs -dsimp only[go_sem,seval,aw,List.replicate_zero,List.append_nil,Nat.add_zero,List.nil_append, *]|omega))
   intro k hk;by_cases hlk:k<w-a.length
   ·have hlk':((a.length:Int)+(k:Int))<(w:Int):=by omega
    have hbd:(a.length+k+1)*8<=35184372088832:=by omega
    repeat' simp -implicitDefEqProofs -dsimp only[go_sem,seval,List.length_map,List.length_append,List.length_replicate,Int.natCast_add, *]
    have hadd:a.length+(k+1)=a.length+k+1:=rfl;refine lnx (k+1) ?_;(repeat' (first|simp -implicitDefEqProofs -dsimp only[go_sem,seval,hadd,aw,List.map_append,List.map_cons,List.map_nil,List.replicate_succ',List.append_assoc, *]|with_reducible refine And.intro ?_ ?_|omega))
   ·have:k=w-a.length:=by omega
    subst this;have hlk':¬((a.length:Int)+((w-a.length:Nat):Int))<(w:Int):=by omega
    repeat' (first|simp -implicitDefEqProofs -dsimp only[go_sem,seval,List.length_map,List.length_append,List.length_replicate,Int.natCast_add, *]|(refine fin_eq ?_;repeat' simp -implicitDefEqProofs -dsimp only[go_sem,seval,aw, *]))
  ·have hgx:=hgx rfl;clear hm0;refine gO [3024] Tryz.func57 (by kernel_rfl) (by conv=>lhs;reduce;dsimp only[iA]) rfl ?_;repeat' (first|simp -implicitDefEqProofs -dsimp only[go_sem,seval,List.length_map, *]|simp(disch:=omega) only[ah,aj,ao,aA,au,ag,az,aq]|with_reducible refine Zv ?_ ?_|(with_reducible refine Zt λoF hoF hnF hnF'=>?_;try simp only[aa,ne_eq,not_and] at hoF)|omega)
   refine ar (λk:Nat=>[(8,some (aw (a++List.replicate k m) (.own oF))),(1,some (.int .i64 w)),(7,some (.int .i64 m))]) (λk=>aF σ oF (.grow 1 (a.length+k))) (λk=>k<=w-a.length) (λk=>w-a.length-k) 0 ?_ ?_
   ·(repeat' (first|simp -implicitDefEqProofs -dsimp only[go_sem,seval,aw,List.replicate_zero,List.append_nil,Nat.add_zero,List.nil_append, *]|omega))
   clear hgx;intro k hk;by_cases hlk:k<w-a.length
   ·have hlk':((a.length:Int)+(k:Int))<(w:Int):=by omega
    have hbd:(a.length+k+1)*8<=35184372088832:=by omega
    repeat' simp -implicitDefEqProofs -dsimp only[go_sem,seval,List.length_map,List.length_append,List.length_replicate,Int.natCast_add, *]
    have hadd:a.length+(k+1)=a.length+k+1:=rfl;refine lnx (k+1) ?_;(repeat' (first|simp -implicitDefEqProofs -dsimp only[go_sem,seval,hadd,aw,List.map_append,List.map_cons,List.map_nil,List.replicate_succ',List.append_assoc, *]|with_reducible refine And.intro ?_ ?_|omega))
   ·have:k=w-a.length:=by omega
    subst this;have hlk':¬((a.length:Int)+((w-a.length:Nat):Int))<(w:Int):=by omega
    repeat' (first|simp -implicitDefEqProofs -dsimp only[go_sem,seval,List.length_map,List.length_append,List.length_replicate,Int.natCast_add, *]|(refine fin_eq ?_;repeat' simp -implicitDefEqProofs -dsimp only[go_sem,seval,aw, *]))
 ·subst h33;have e:fS 33 w a=a.take w:=by unfold fS;rw[if_pos rfl];simp
  rw[e]
  obtain⟨x,l,hxl⟩:∃x l,a.take w=x::l:=by
   cases h:a.take w with
   |nil=>have:=congrArg List.length h;rw[List.length_take,List.length_nil] at this;omega
   |cons x l=>exact⟨x,l,rfl⟩
  have hll:(x::l).length<=64:=by rw[<-hxl,List.length_take];omega
  have htk:List.take w (a.map λx=>AV.int .i64 x)=(AV.int .i64 x)::l.map λx=>AV.int .i64 x:=by rw[<-List.map_take,hxl,List.map_cons]
  rw[hxl];have hll':l.length<=63:=by simpa using hll
  clear e hxl hll;refine gO [3024] Tryz.func57 (by kernel_rfl) (by conv=>lhs;reduce;dsimp only[iA]) rfl ?_;repeat' (first|simp -implicitDefEqProofs -dsimp only[go_sem,seval,List.length_map,List.length_cons, *]|simp(disch:=omega) only[ah,aj,ao,aA,au,ag,az,aq]|with_reducible refine Zv ?_ ?_|(with_reducible refine Zt λoF hoF hnF hnF'=>?_;try simp only[aa,ne_eq,not_and] at hoF)|omega)
  all_goals first|(exfalso;simp at hq;done)|skip
  refine fin_eq ?_;(repeat' simp -implicitDefEqProofs -dsimp only[go_sem,seval,aw,List.map_cons,List.nil_append, *])
theorem Fy(w:Int)(v:Nat)(hv:v<18446744073709551616)(σ:aB):
  C_ 24 [.int .i64 w, .int .u64 v] σ (.tup [aw (if d6 w v then lY w v else []) .no, .int .i64 (if d6 w v then 0 else 1)]) σ:=by
 have z1:=λτ=>vB w v τ;have hb:d6 w v=decide (1<=w/\w<=64/\v<=maskN w):=rfl;generalize hB:d6 w v=B at z1 hb|-;clear hB;cases B with
 |false=>
  rw[show(if (false:Bool)=true then (0:Int) else 1)=1 from rfl] at z1;rw[if_neg (by simp),if_neg (by simp)];refine gO [3013] Tryz.func24 (by kernel_rfl) (by conv=>lhs;reduce;dsimp only[iA]) rfl ?_;repeat' (first|simp -implicitDefEqProofs -dsimp only[go_sem,seval, *]|with_reducible refine kc1 (z1 _) ?_|(refine fin_eq ?_;repeat' simp -implicitDefEqProofs -dsimp only[go_sem,seval,aw,List.map_nil, *]))
 |true=>
  rw[show(if (true:Bool)=true then (0:Int) else 1)=0 from rfl] at z1;rw[if_pos rfl,if_pos rfl];have hb':=of_decide_eq_true hb.symm;obtain⟨n,rfl⟩:∃n:Nat,w=n:=⟨w.toNat,by omega⟩;have hn:n<=64:=by omega
  clear hb;refine gO [3013] Tryz.func24 (by kernel_rfl) (by conv=>lhs;reduce;dsimp only[iA]) rfl ?_;repeat' (first|simp -implicitDefEqProofs -dsimp only[go_sem,seval, *]|(with_reducible refine Zt λoF hoF hnF hnF'=>?_;try simp only[aa,ne_eq,not_and] at hoF)|with_reducible refine kc1 (z1 _) ?_)
  refine ar (λi:Nat=>[(7,some (.int .i64 i)),(0,some (.int .i64 n)),(6,some (aw ((List.range i).map λi=>(v:Int)/2^i%2) (.own oF))),(1,some (.int .u64 v))]) (λi=>aF σ oF (.grow 1 i)) (λi=>i<=n) (λi=>n-i) 0 ?_ ?_
  ·(repeat' (first|simp -implicitDefEqProofs -dsimp only[go_sem,seval,aw,List.range_zero,List.map_nil, *]|omega))
  intro i hi;by_cases hlt:i<n
  ·have hmn:Nat.min i 64=i:=Nat.min_eq_left (by omega);have hfd:=GL v i;have hdv:v/2^i<=v:=Nat.div_le_self _ _;have hor:=GK (v/2^i) (by omega)
   have hr:(List.range (i+1)).map (λi=>(v:Int)/2^i%2)=(List.range i).map (λi=>(v:Int)/2^i%2)++[((v/2^i%2:Nat):Int)]:=by
    rw[List.range_succ,List.map_append];simp
   have hlt2:v/2^i%2<2:=Nat.mod_lt _ (by omega);have hm2:(v:Int)/2^i%2=((v/2^i%2:Nat):Int):=by simp
   generalize hD:v/2^i=D at hfd hor hr hlt2 hm2;generalize hM:D%2=M at hor hr hlt2 hm2;have hcv:IntKind.i64.wrap (M:Int)=(M:Int):=ah _ (by omega) (by omega);have hbd:(i+1)*8<=35184372088832:=by omega
   have hni:¬(i:Int)<0:=by omega
   clear hD hM hdv;repeat' (first|simp -implicitDefEqProofs -dsimp only[go_sem,seval,List.length_map,List.length_range, *]|simp(disch:=omega) only[ah,aj,ao,aA,au,ag,az,aq]|(with_reducible refine lnx (i+1) ?_;repeat' (first|simp -implicitDefEqProofs -dsimp only[go_sem,seval,aw,List.map_append,List.map_cons,List.map_nil, *]|with_reducible refine And.intro ?_ ?_))|omega)
  ·have:i=n:=by omega
   subst this;repeat' (first|simp -implicitDefEqProofs -dsimp only[go_sem,seval, *]|(refine fin_eq ?_;repeat' simp -implicitDefEqProofs -dsimp only[go_sem,seval,aw,lY,Int.toNat_natCast, *]))
end Go.Proofs.YtbbihmmobfmadaaGreat
