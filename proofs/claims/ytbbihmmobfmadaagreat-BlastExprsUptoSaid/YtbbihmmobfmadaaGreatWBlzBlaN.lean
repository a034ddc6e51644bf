/- blast: contracts: operations of one and of two words, choices. -/
import Derived.RangeFuncBox
import Derived.Shelf.Abstract
import Derived.WalkKit
import Derived.OwnWalkIn
import Derived.TacticsInMore
import Derived.LoopNIn
import Derived.LoopIn
import Derived.Test.YtbbihmmobfmadaaGreatWAigVal
import Derived.Test.YtbbihmmobfmadaaGreatWBlzBlaF
import Derived.Test.YtbbihmmobfmadaaGreatWAbsRf
set_option linter.unusedSimpArgs false
set_option linter.unusedVariables false
set_option maxHeartbeats 4000000
set_option maxRecDepth 100000
namespace Go.Proofs.YtbbihmmobfmadaaGreat
open Abs Fil Fil.Bl Go.RowKit Go.Shelf
section walks
attribute [local go_sem] Oper.semAt_some
theorem wZ(l Bs b off len cap:Nat)(zs:Nat->Int)(hreach:len*8<=140737488351232)(J:Nat->World->Prop)
  (hcl:∀k W,J k W->∀j,j<len->W.cell? ⟨b,off+j,none⟩=some (.int .i64 (zs j)))
  (hY:∀k W1,k<len->J k W1->YieldAt Fence.wide 7 Tryz.prog l #[.int .i64 (zs k)] W1 λe W'=>e= .returned (.bool true)/\J (k+1) W')
  (W:World)(hBs:W.cell? ⟨Bs,0,none⟩=some (.slice (some ⟨b,off,none⟩) len cap))(h0:J 0 W):
  CallsIn Fence.wide 8 Tryz.prog 162 #[.func (.yield l) #[] #[], .pointer (some ⟨Bs,0,none⟩)] W λe W'=>(∃v,e= .returned v)/\J len W':=by
 refine callsIn_of_wp Tryz.func162 rfl trivial ?_ rfl;simp only[Tryz.ntmps162,List.size_toArray,List.length_cons,List.length_nil,Nat.reduceAdd,Nat.reduceSub,Array.replicate_succ,Array.replicate_zero,List.push_toArray,List.append_toArray,List.nil_append,List.cons_append];gi_wp2
 gi_loopw [7] (λi wr=>∃k:Nat,k<=len/\i= .int .i64 k/\J k wr)
  (λi _=>len-(intOf i).toNat)
 case atStart=>exact⟨0,Nat.zero_le _,rfl,h0⟩
 case round=>
  obtain⟨k,hk,rfl,hJs⟩:=hrel;by_cases hlt:k<len
  ·obtain⟨fn,tmps,assign,body,hy,hR⟩:=hY _ wr hlt hJs;have hcx':=hcl k wr hJs k hlt;gi_wp2
   refine hR.mono ?_;rintro e W3 ⟨rfl,hJ3⟩;gi_wp2
   go_roundw
   case rel=>exact⟨k+1,by omega,by simp,hJ3⟩
   case measure=>simp[intOf];omega
  ·obtain rfl:k=len:=by omega
   gi_wp2
   go_end0
   exact⟨⟨_,rfl⟩,hJs⟩
theorem w9(l Bs:Nat)(a:Option Addr)(cap:Nat)(J:Nat->World->Prop)(W:World)(hBs:W.cell? ⟨Bs,0,none⟩=some (.slice a 0 cap))(h0:J 0 W):
  CallsIn Fence.wide 8 Tryz.prog 162 #[.func (.yield l) #[] #[], .pointer (some ⟨Bs,0,none⟩)] W λe W'=>(∃v,e= .returned v)/\J 0 W':=by
 refine callsIn_of_wp Tryz.func162 rfl trivial ?_ rfl;simp only[Tryz.ntmps162,List.size_toArray,List.length_cons,List.length_nil,Nat.reduceAdd,Nat.reduceSub,Array.replicate_succ,Array.replicate_zero,List.push_toArray,List.append_toArray,List.nil_append,List.cons_append];gi_wp2
 gi_loopw [7] (λi wr=>i= .int .i64 0/\J 0 wr) (λ_ _=>0)
 case atStart=>exact⟨rfl,h0⟩
 case round=>
  obtain⟨rfl,hJs⟩:=hrel;gi_wp2
  go_end0
  exact⟨⟨_,rfl⟩,hJs⟩
theorem xb(l Bs b off len cap:Nat)(zs:Nat->Int)(hreach:len*8<=140737488351232)(hz:∀j,j<len->I64 (zs j))(J:Nat->World->Prop)
  (hcl:∀k W,J k W->∀j,j<len->W.cell? ⟨b,off+j,none⟩=some (.int .i64 (zs j)))
  (hY:∀k W1,k<len->J k W1->YieldAt Fence.wide 7 Tryz.prog l #[.int .i64 (turn (zs k))] W1 λe W'=>e= .returned (.bool true)/\J (k+1) W')
  (W:World)(hBs:W.cell? ⟨Bs,0,none⟩=some (.slice (some ⟨b,off,none⟩) len cap))(h0:J 0 W):
  CallsIn Fence.wide 8 Tryz.prog 166 #[.func (.yield l) #[] #[], .pointer (some ⟨Bs,0,none⟩)] W λe W'=>(∃v,e= .returned v)/\J len W':=by
 refine callsIn_of_wp Tryz.func166 rfl trivial ?_ rfl;simp only[Tryz.ntmps166,List.size_toArray,List.length_cons,List.length_nil,Nat.reduceAdd,Nat.reduceSub,Array.replicate_succ,Array.replicate_zero,List.push_toArray,List.append_toArray,List.nil_append,List.cons_append];gi_wp2
 gi_loopw [7] (λi wr=>∃k:Nat,k<=len/\i= .int .i64 k/\J k wr)
  (λi _=>len-(intOf i).toNat)
 case atStart=>exact⟨0,Nat.zero_le _,rfl,h0⟩
 case round=>
  obtain⟨k,hk,rfl,hJs⟩:=hrel;by_cases hlt:k<len
  ·obtain⟨fn,tmps,assign,body,hy,hR⟩:=hY _ wr hlt hJs;have hcx':=hcl k wr hJs k hlt;have hbit:turn (zs k)=bits BinOp.xor IntKind.i64 (zs k) 1:=(ar _ (hz k hlt).1 (hz k hlt).2).symm;rw[hbit] at hy;clear hbit;gi_wp2
   refine hR.mono ?_;rintro e W3 ⟨rfl,hJ3⟩;gi_wp2
   go_roundw
   case rel=>exact⟨k+1,by omega,by simp,hJ3⟩
   case measure=>simp[intOf];omega
  ·obtain rfl:k=len:=by omega
   gi_wp2
   go_end0
   exact⟨⟨_,rfl⟩,hJs⟩
theorem xe(l Bs:Nat)(a:Option Addr)(cap:Nat)(J:Nat->World->Prop)(W:World)(hBs:W.cell? ⟨Bs,0,none⟩=some (.slice a 0 cap))(h0:J 0 W):
  CallsIn Fence.wide 8 Tryz.prog 166 #[.func (.yield l) #[] #[], .pointer (some ⟨Bs,0,none⟩)] W λe W'=>(∃v,e= .returned v)/\J 0 W':=by
 refine callsIn_of_wp Tryz.func166 rfl trivial ?_ rfl;simp only[Tryz.ntmps166,List.size_toArray,List.length_cons,List.length_nil,Nat.reduceAdd,Nat.reduceSub,Array.replicate_succ,Array.replicate_zero,List.push_toArray,List.append_toArray,List.nil_append,List.cons_append];gi_wp2
 gi_loopw [7] (λi wr=>i= .int .i64 0/\J 0 wr) (λ_ _=>0)
 case atStart=>exact⟨rfl,h0⟩
 case round=>
  obtain⟨rfl,hJs⟩:=hrel;gi_wp2
  go_end0
  exact⟨⟨_,rfl⟩,hJs⟩
end walks
theorem iJ:∀xs:List Int,flat (xs.map λx=>AV.int .i64 x)=xs.map λx=>AV.int .i64 x
 |[]=>rfl
 |x::xs=>by simp only[List.map_cons,c7,iJ xs];rfl
theorem yh{bo:Nat}{xs:List Int}{t:Tok}{σ:aA}(h:σ bo=some (.cells [.slice (xs.map λx=> .int .i64 x) t])){K:Gh}{w:World}{vals:Array Value}(hr:RelL K [.ptr bo 0] vals.toList)(hs:Sat K σ w):
  ∃Bs,vals=#[.pointer (some ⟨Bs,0,none⟩)]/\Bs<w.heap.size/\∃sv,w.cell? ⟨Bs,0,none⟩=some sv/\((xs=[]/\∃a cap,sv= .slice a 0 cap)\/(∃b off cap,sv= .slice (some ⟨b,off,none⟩) xs.length cap/\∀j,j<xs.length->K.claim b (off+j)=some (.int .i64 (xs.getD j 0)))):=by
 obtain⟨v,r,hv,h1,h2⟩:=hr.cons_inv;have hr0:r=[]:=by have:=h2.1;simpa using this.symm
 subst hr0;obtain rfl:=eH hv
 obtain⟨e,rfl,h3,h4⟩:=jU h1;obtain⟨e',k1,k2⟩:=hs.live bo _ h;rw[h3] at k1;cases k1;cases e<;>simp only[ObjSat] at k2
 rename_i Bs
 obtain⟨k3,⟨c,el,k4,k5⟩,k6⟩:=k2;obtain⟨sv,r,hc,k7,k8⟩:=k5.cons_inv;have hr0:r=[]:=by have:=k8.1;simpa using this.symm
 subst hr0;obtain rfl:=eH hc
 refine⟨Bs,rfl,(Array.getElem?_eq_some_iff.1 k4).1,sv,by simp[World.cell?,k4],?_⟩;rcases rel_slice k7 with ⟨a,cap,rfl,e1,_⟩|⟨b,off,cap,sz,u,rfl,u1,u2,u3,_,_⟩
 ·exact .inl ⟨by simpa using e1,a,cap,rfl⟩
 ·refine .inr ⟨b,off,cap,by simp,λj hj=>?_⟩;have hfl:=iJ xs;have hj':j<(flat (xs.map λx=>AV.int .i64 x)).length:=by rw[hfl];simpa using hj
  rw[u2 j hj'];have:=u3 j hj'
  simp only[hfl,List.getElem_map] at this;rw[aN this];simp[List.getD_eq_getElem?_getD,hj]
theorem ni(bo:Nat)(xs:List Int)(t:Tok)(σ:aA)(hx:xs.length<=1000000)(h:σ bo=some (.cells [.slice (xs.map λx=> .int .i64 x) t])):
  nh Tryz.prog 162 [.ptr bo 0] σ xs:=by
 refine⟨by kernel_rfl,λK w vals hr hs l J W hW hcl hY h0=>?_⟩;obtain⟨Bs,rfl,hB,sv,hsv,hh⟩:=yh h hr hs;have hsv':W.cell? ⟨Bs,0,none⟩=some sv:=by rw[eT (hW Bs hB)];exact hsv
 rcases hh with ⟨rfl,a,cap,rfl⟩|⟨b,off,cap,rfl,hc⟩
 ·exact w9 l Bs a cap J W hsv' h0
 ·exact wZ l Bs b off xs.length cap (λj=>xs.getD j 0) (by omega) J (λk W hk j hj=>hcl k W hk _ _ _ (hc j hj)) (λk W1 hk hJ=>hY k _ W1 (by simp[List.getD_eq_getElem?_getD,hk]) hJ) W hsv' h0
theorem nj(bo:Nat)(xs:List Int)(t:Tok)(σ:aA)(hx:xs.length<=1000000)(hi:∀x∈xs,I64 x)(h:σ bo=some (.cells [.slice (xs.map λx=> .int .i64 x) t])):
  nh Tryz.prog 166 [.ptr bo 0] σ (bk xs):=by
 refine⟨by kernel_rfl,λK w vals hr hs l J W hW hcl hY h0=>?_⟩;obtain⟨Bs,rfl,hB,sv,hsv,hh⟩:=yh h hr hs;have hsv':W.cell? ⟨Bs,0,none⟩=some sv:=by rw[eT (hW Bs hB)];exact hsv
 have hlen:(bk xs).length=xs.length:=by simp[bk]
 rw[hlen];rcases hh with ⟨rfl,a,cap,rfl⟩|⟨b,off,cap,rfl,hc⟩
 ·exact xe l Bs a cap J W hsv' h0
 ·refine xb l Bs b off xs.length cap (λj=>xs.getD j 0) (by omega) (λj hj=>hi _ ?_) J (λk W hk j hj=>hcl k W hk _ _ _ (hc j hj)) (λk W1 hk hJ=>hY k _ W1 ?_ hJ) W hsv' h0
  ·simp[List.getD_eq_getElem?_getD,hj]
  ·simp[bk,List.getD_eq_getElem?_getD,hk]
end Go.Proofs.YtbbihmmobfmadaaGreat
namespace Go.Proofs.YtbbihmmobfmadaaGreat
open Abs Fil Fil.Bl A
theorem yi(o:Bl.Op)(b:Bu)(x y z:Int){g':Aig}{l e':Int}(h:o.ap b.g x y z=(g',l,e')):
  b.op o x y z=(if b.e≠0 then 0 else if e'≠0 then 0 else l,if b.e≠0 then b else if e'≠0 then ⟨b.g,e'⟩ else ⟨g',0⟩):=by
 unfold Bu.op;rw[h];split
 ·rfl
 ·split<;>rfl
theorem G6(o p q s:Nat)(b:Bu)(x y:Int)(σ:aA)(h:σ o=some (co b))(hs:Wf b.g)(hx:I64 x)(hy:I64 y)(hp:σ p=some (.cells [.ptr o 0]))(hq:σ q=some (.cells [.int .i64 x]))(hr:σ s=some (.cells [.int .i64 y])):
  C_ 164 [.ptr p 0, .ptr q 0, .ptr s 0] σ (.tup [aQ (b.g.And x y).1, .int .i64 (b.g.And x y).2.1, .int .i64 (b.g.And x y).2.2]) σ:=by
 have c1:=λτ=>GH b.g x y τ hs hx hy;generalize e1:b.g.And x y=r1 at c1|-;clear e1 hs hx hy;refine gO [] Tryz.func164 (by kernel_rfl) (by conv=>lhs;reduce;dsimp only[iA]) rfl ?_;repeat' (first|simp(maxDischargeDepth:=9) -implicitDefEqProofs -dsimp only[go_sem,seval, *]|(with_reducible refine Zt λoF hoF hnF hnF'=>?_;try simp only[aa,ne_eq,not_and] at hoF)|with_reducible refine id_one0 (λtS hS=>c1 _) trivial ?_|refine fin_eq ?_)
theorem mA(o:Nat)(b:Bu)(x y:Int)(σ:aA)(h:σ o=some (co b))(hs:Wf b.g)(hx:I64 x)(hy:I64 y):
  C_ 98 [.ptr o 0, .int .i64 x, .int .i64 y] σ (.int .i64 (b.op Bl.Op.and x y 0).1) (aH σ o (co (b.op Bl.Op.and x y 0).2)):=by
 have c1:=λp q s τ h1 h2 h3 h4=>G6 o p q s b x y τ h1 hs hx hy h2 h3 h4;obtain⟨⟨g',l,e'⟩,hr⟩:∃r,b.g.And x y=r:=⟨_,rfl⟩;rw[yi Bl.Op.and b x y 0 hr];rw[hr] at c1;clear hr hs hx hy;refine gO [] Tryz.func98 (by kernel_rfl) (by conv=>lhs;reduce;dsimp only[iA]) rfl ?_;repeat' (first|simp(maxDischargeDepth:=9) -implicitDefEqProofs -dsimp only[go_sem,seval, *]|simp(disch:=omega) only[ah,aj,ao,aw,ar,ag,au,aq]|(with_reducible refine Zt λoF hoF hnF hnF'=>?_;try simp only[aa,ne_eq,not_and] at hoF)|refine kc1 (ye o b g' l e' 164 _ _ ?_ (λ_=>c1 _ _ _ _ ?_ ?_ ?_ ?_)) ?_|refine fin_eq ?_)
theorem Kj(o p q s:Nat)(b:Bu)(x y:Int)(σ:aA)(h:σ o=some (co b))(hs:Wf b.g)(hx:I64 x)(hy:I64 y)(hp:σ p=some (.cells [.ptr o 0]))(hq:σ q=some (.cells [.int .i64 x]))(hr:σ s=some (.cells [.int .i64 y])):
  C_ 173 [.ptr p 0, .ptr q 0, .ptr s 0] σ (.tup [aQ (b.g.Or x y).1, .int .i64 (b.g.Or x y).2.1, .int .i64 (b.g.Or x y).2.2]) σ:=by
 have c1:=λτ=>J1 b.g x y τ hs hx hy;generalize e1:b.g.Or x y=r1 at c1|-;clear e1 hs hx hy;refine gO [] Tryz.func173 (by kernel_rfl) (by conv=>lhs;reduce;dsimp only[iA]) rfl ?_;repeat' (first|simp(maxDischargeDepth:=9) -implicitDefEqProofs -dsimp only[go_sem,seval, *]|(with_reducible refine Zt λoF hoF hnF hnF'=>?_;try simp only[aa,ne_eq,not_and] at hoF)|with_reducible refine id_one0 (λtS hS=>c1 _) trivial ?_|refine fin_eq ?_)
theorem Is(o:Nat)(b:Bu)(x y:Int)(σ:aA)(h:σ o=some (co b))(hs:Wf b.g)(hx:I64 x)(hy:I64 y):
  C_ 110 [.ptr o 0, .int .i64 x, .int .i64 y] σ (.int .i64 (b.op Bl.Op.or x y 0).1) (aH σ o (co (b.op Bl.Op.or x y 0).2)):=by
 have c1:=λp q s τ h1 h2 h3 h4=>Kj o p q s b x y τ h1 hs hx hy h2 h3 h4;obtain⟨⟨g',l,e'⟩,hr⟩:∃r,b.g.Or x y=r:=⟨_,rfl⟩;rw[yi Bl.Op.or b x y 0 hr];rw[hr] at c1;clear hr hs hx hy;refine gO [] Tryz.func110 (by kernel_rfl) (by conv=>lhs;reduce;dsimp only[iA]) rfl ?_;repeat' (first|simp(maxDischargeDepth:=9) -implicitDefEqProofs -dsimp only[go_sem,seval, *]|simp(disch:=omega) only[ah,aj,ao,aw,ar,ag,au,aq]|(with_reducible refine Zt λoF hoF hnF hnF'=>?_;try simp only[aa,ne_eq,not_and] at hoF)|refine kc1 (ye o b g' l e' 173 _ _ ?_ (λ_=>c1 _ _ _ _ ?_ ?_ ?_ ?_)) ?_|refine fin_eq ?_)
theorem G7(o p q s:Nat)(b:Bu)(x y:Int)(σ:aA)(h:σ o=some (co b))(hs:Wf b.g)(hx:I64 x)(hy:I64 y)(hp:σ p=some (.cells [.ptr o 0]))(hq:σ q=some (.cells [.int .i64 x]))(hr:σ s=some (.cells [.int .i64 y])):
  C_ 167 [.ptr p 0, .ptr q 0, .ptr s 0] σ (.tup [aQ (b.g.Xor x y).1, .int .i64 (b.g.Xor x y).2.1, .int .i64 (b.g.Xor x y).2.2]) σ:=by
 have c1:=λτ=>GI b.g x y τ hs hx hy;generalize e1:b.g.Xor x y=r1 at c1|-;clear e1 hs hx hy;refine gO [] Tryz.func167 (by kernel_rfl) (by conv=>lhs;reduce;dsimp only[iA]) rfl ?_;repeat' (first|simp(maxDischargeDepth:=9) -implicitDefEqProofs -dsimp only[go_sem,seval, *]|(with_reducible refine Zt λoF hoF hnF hnF'=>?_;try simp only[aa,ne_eq,not_and] at hoF)|with_reducible refine id_one0 (λtS hS=>c1 _) trivial ?_|refine fin_eq ?_)
theorem sO(o:Nat)(b:Bu)(x y:Int)(σ:aA)(h:σ o=some (co b))(hs:Wf b.g)(hx:I64 x)(hy:I64 y):
  C_ 100 [.ptr o 0, .int .i64 x, .int .i64 y] σ (.int .i64 (b.op Bl.Op.xor x y 0).1) (aH σ o (co (b.op Bl.Op.xor x y 0).2)):=by
 have c1:=λp q s τ h1 h2 h3 h4=>G7 o p q s b x y τ h1 hs hx hy h2 h3 h4;obtain⟨⟨g',l,e'⟩,hr⟩:∃r,b.g.Xor x y=r:=⟨_,rfl⟩;rw[yi Bl.Op.xor b x y 0 hr];rw[hr] at c1;clear hr hs hx hy;refine gO [] Tryz.func100 (by kernel_rfl) (by conv=>lhs;reduce;dsimp only[iA]) rfl ?_;repeat' (first|simp(maxDischargeDepth:=9) -implicitDefEqProofs -dsimp only[go_sem,seval, *]|simp(disch:=omega) only[ah,aj,ao,aw,ar,ag,au,aq]|(with_reducible refine Zt λoF hoF hnF hnF'=>?_;try simp only[aa,ne_eq,not_and] at hoF)|refine kc1 (ye o b g' l e' 167 _ _ ?_ (λ_=>c1 _ _ _ _ ?_ ?_ ?_ ?_)) ?_|refine fin_eq ?_)
theorem G8(o p u q s:Nat)(b:Bu)(c x y:Int)(σ:aA)(h:σ o=some (co b))(hs:Wf b.g)(hc:I64 c)(hx:I64 x)(hy:I64 y)(hp:σ p=some (.cells [.ptr o 0]))(hu:σ u=some (.cells [.int .i64 c]))(hq:σ q=some (.cells [.int .i64 x]))(hr:σ s=some (.cells [.int .i64 y])):
  C_ 179 [.ptr p 0, .ptr u 0, .ptr q 0, .ptr s 0] σ (.tup [aQ (b.g.Mux c x y).1, .int .i64 (b.g.Mux c x y).2.1, .int .i64 (b.g.Mux c x y).2.2]) σ:=by
 have c1:=λτ=>GJ b.g c x y τ hs hc hx hy;generalize e1:b.g.Mux c x y=r1 at c1|-;clear e1 hs hc hx hy;refine gO [] Tryz.func179 (by kernel_rfl) (by conv=>lhs;reduce;dsimp only[iA]) rfl ?_;repeat' (first|simp(maxDischargeDepth:=9) -implicitDefEqProofs -dsimp only[go_sem,seval, *]|(with_reducible refine Zt λoF hoF hnF hnF'=>?_;try simp only[aa,ne_eq,not_and] at hoF)|with_reducible refine id_one0 (λtS hS=>c1 _) trivial ?_|refine fin_eq ?_)
theorem C8(o:Nat)(b:Bu)(c x y:Int)(σ:aA)(h:σ o=some (co b))(hs:Wf b.g)(hc:I64 c)(hx:I64 x)(hy:I64 y):
  C_ 118 [.ptr o 0, .int .i64 c, .int .i64 x, .int .i64 y] σ (.int .i64 (b.op Bl.Op.mux c x y).1) (aH σ o (co (b.op Bl.Op.mux c x y).2)):=by
 have c1:=λp u q s τ h1 h2 h3 h4 h5=>G8 o p u q s b c x y τ h1 hs hc hx hy h2 h3 h4 h5;obtain⟨⟨g',l,e'⟩,hr⟩:∃r,b.g.Mux c x y=r:=⟨_,rfl⟩;rw[yi Bl.Op.mux b c x y hr];rw[hr] at c1;clear hr hs hc hx hy;refine gO [] Tryz.func118 (by kernel_rfl) (by conv=>lhs;reduce;dsimp only[iA]) rfl ?_;repeat' (first|simp(maxDischargeDepth:=9) -implicitDefEqProofs -dsimp only[go_sem,seval, *]|simp(disch:=omega) only[ah,aj,ao,aw,ar,ag,au,aq]|(with_reducible refine Zt λoF hoF hnF hnF'=>?_;try simp only[aa,ne_eq,not_and] at hoF)|refine kc1 (ye o b g' l e' 179 _ _ ?_ (λ_=>c1 _ _ _ _ _ ?_ ?_ ?_ ?_ ?_)) ?_|refine fin_eq ?_)
end Go.Proofs.YtbbihmmobfmadaaGreat
namespace Go.Proofs.YtbbihmmobfmadaaGreat
open Abs Fil Fil.Bl A
@[go_sem] theorem MB{k:bg->aA->Prop}{env:bg}{σ:aA}:ko k .normal env σ=k env σ:=rfl
theorem yj{P:Program}{rs:List ARV}{R:ARes->aA->Prop}{t p q:Nat}{id ie:List AInst}{env:bg}{σ:aA}(g:Nat)(caps:List AV)(xs:List Int)(S:Nat->aA)
  (h1:lk env t=some (.fn g [] caps))(h2:nh P g caps σ xs)(h3:Sub (S 0) σ)(h4:∀k o,σ o=none->S k o=none)
  (h5:∀k x τ,xs[k]?=some x->Sub (S k) τ->XI P (ko λ_ τ'=>Sub (S (k+1)) τ'/\Av τ τ') id ((q,some (.int .i64 x))::(p,some (.int .i64 x))::env) τ)
  (h6:∀τ,Sub (S xs.length) τ->XI P (ko λenv τ'=>(Sub (S xs.length) τ'/\Av τ τ')/\li env (S xs.length) (λl=>fin R (one l) (S xs.length)) rs) ie env τ):yg P rs R t p q id ie env σ:=by
 unfold yg;rw[h1];exact⟨rfl,xs,S,h2,h3,h4,h5,h6⟩
theorem rE{f:FuncId}{fn:Func}{N:Nat}{rs:List ARV}{ia ib id ie:List AInst}{t p q:Nat}{args:List AV}{σ:aA}{R:ARes->aA->Prop}
  (hfn:Tryz.prog.funcs[f]?=some fn)(hb:fn.body.bind (yf Tryz.prog N)=some (ia.map AInst.bare,ib.map AInst.bare,t,p,q,id.map AInst.bare,ie.map AInst.bare))(hname:(fn.name=="runtime.NumGoroutine")=false)(hN:fn.ntmps=N)
  (hr:cJ Tryz.prog fn.results.toList=some rs)(hargs:args.length<=N)
  (h:XI Tryz.prog (ko λenv σ=>XI Tryz.prog (ko λenv σ=>yg Tryz.prog rs R t p q id ie env σ) ib env σ) ia (eW 0 args) σ):
  ACalls Tryz.prog f args σ R:=px hfn hb hname hN hr hargs h
def fA:List AInst:=[⟨some 3, .box (.t 0),none⟩,⟨some 5, .box (.t 2),none⟩,⟨some 6, .mov (.c (.int .i64 0)),none⟩]
def fB:List AInst:=[⟨some 8, .mov (.t 1),none⟩]
def fD:List AInst:=[⟨some 10, .load false 1 (.t 5),none⟩,⟨some 11, .load false 1 (.t 3),none⟩,⟨some 12, .mov (.t 7),none⟩,⟨some 13, .call (.t 10) [.t 11, .t 12],none⟩,⟨none, .store 1 (.t 3) (.t 13),none⟩]
def fE:List AInst:=[⟨some 14, .load false 1 (.t 3),none⟩,⟨some 6, .mov (.t 14),none⟩]
def im(op:Bl.Op)(a:Int)(xs:List Int)(b:Bu)(k:Nat):Int×Bu:=(kn (λx y=> .op op x y 0 .ret) a xs k).run b
theorem mB(op:Bl.Op)(a:Int)(xs:List Int)(b:Bu)(k:Nat):im op a xs b (k+1)=(im op a xs b k).2.op op (im op a xs b k).1 (gt xs k) 0:=fV _ _ _ _
theorem nQ(op:Bl.Op){a:Int}(xs:List Int){b:Bu}(hb:Wf b.g)(ha:I64 a):∀k,Wf (im op a xs b k).2.g/\I64 (im op a xs b k).1
 |0=>⟨hb,ha⟩
 |k+1=>by rw[mB];exact eK (nQ op xs hb ha k).1 _ _ _ _
theorem sP(op:Bl.Op)(fF:Nat)(bo:Nat)(b:Bu)(a:Int)(xs:List Int)(g:Nat)(caps:List AV)(σ:aA)(h:σ bo=some (co b))(hs:Wf b.g)(ha:I64 a)(hx:∀x∈xs,I64 x)
  (hit:∀τ,Sub σ τ->nh Tryz.prog g caps τ xs)
  (hop:∀b x y τ,τ bo=some (co b)->Wf b.g->I64 x->I64 y->ACalls Tryz.prog fF [.ptr bo 0, .int .i64 x, .int .i64 y] τ (λr σ'=>r= .ret (.int .i64 (b.op op x y 0).1)/\σ'=aH τ bo (co (b.op op x y 0).2))):
  C_ 96 [.int .i64 a, .fn g [] caps, .fn fF [.ptr bo 0] []] σ (.int .i64 (im op a xs b xs.length).1) (aH σ bo (co (im op a xs b xs.length).2)):=by
 refine rE (rs:=[.tmp 6]) (N:=15) (ia:=fA) (ib:=fB) (id:=fD) (ie:=fE) (t:=8) (p:=9) (q:=7) Tryz.func96 (by kernel_rfl) (by kernel_rfl) (by kernel_rfl) (by kernel_rfl) (by simp) ?_;unfold fA fB fD fE;repeat' (first|simp -implicitDefEqProofs -dsimp only[go_sem,seval, *]|((with_reducible refine Zt (λoF hoF hnF hnF'=>?_));(try simp only[aa,ne_eq,not_and] at hoF)))
 rename_i o1 ho1 hn1 hn1'
 obtain⟨o2,ho2'⟩:∃x,x=oF:=⟨_,rfl⟩;subst ho2';obtain⟨hne,ho2⟩:=hoF;have b1:¬bo=o1:=λe=>by rw[e,ho1] at h;simp at h
 have b2:¬bo=o2:=λe=>by rw[e,ho2] at h;simp at h
 have hwf:=nQ op xs hs ha;have hnx:=mB op a xs b;have h0:im op a xs b 0=(a,b):=rfl;generalize hG:im op a xs b=G at hwf hnx h0|-;clear hG hn1 hn1' hnF hnF';refine yj g caps xs (λk=>aH (aH (aH σ o1 (.cells [.int .i64 (G k).1])) o2 (.cells [.fn fF [.ptr bo 0] []])) bo (co (G k).2)) (by simp -implicitDefEqProofs -dsimp only[go_sem,seval, *];done) (hit _ ?_) ?_ ?_ ?_ ?_
 ·exact(Sub.upd_fresh ho1).trans (Sub.upd_fresh (by simp[aH,hne,ho2]))
 ·intro o x e;by_cases hb:o=bo
  ·subst hb;simp only[aH,if_true,h0] at e;simp only[aH,if_neg b1,if_neg b2];rw[h];exact e
  ·simp only[aH,if_neg hb,h0] at e|-;exact e
 ·intro k o e;have e1:¬o=o2:=λh'=>by subst h';simp[aH] at e
  have e2:¬o=o1:=λh'=>by subst h';simp[aH,e1] at e
  have e3:σ o=none:=by simpa [aH,e1,e2] using e
  have e4:¬o=bo:=λh'=>by rw[h',h] at e3;simp at e3
  simp[aH,e1,e2,e3,e4]
 ·intro k x τ hk hτ;have q1:=hτ o1 (.cells [.int .i64 (G k).1]) (by simp[aH,hne,Ne.symm b1,Ne.symm hne]);have q2:=hτ o2 (.cells [.fn fF [.ptr bo 0] []]) (by simp[aH,Ne.symm b2]);have q3:=hτ bo (co (G k).2) (by simp[aH]);have hgx:gt xs k=x:=by simp[gt,List.getD_eq_getElem?_getD,hk]
  have hxk:=hx x (List.mem_of_getElem? hk);have c1:=hop (G k).2 (G k).1 x τ q3 (hwf k).1 (hwf k).2 hxk;have hnk:=hnx k;rw[hgx] at hnk;rw[<-hnk] at c1
  have hS:∀τ',τ'=aH (aH τ bo (co (G (k+1)).2)) o1 (.cells [.int .i64 (G (k+1)).1])->Sub (aH (aH (aH σ o1 (.cells [.int .i64 (G (k+1)).1])) o2 (.cells [.fn fF [.ptr bo 0] []])) bo (co (G (k+1)).2)) τ'/\Av τ τ':=by
   rintro τ' rfl;constructor
   ·intro o y e;by_cases e1:o=bo
    ·subst e1;simpa [aH,b1] using e
    by_cases e2:o=o1
    ·subst e2;simpa [aH,e1,Ne.symm hne] using e
    simp only[aH,if_neg e1,if_neg e2];refine hτ o y ?_;simpa [aH,e1,e2] using e
   ·intro o y e;have e1:¬o=bo:=λh'=>by rw[h',q3] at e;simp[co,fi] at e
    have e2:¬o=o1:=λh'=>by rw[h',q1] at e;simp at e
    simpa [aH,e1,e2] using e
  have b1':¬o1=bo:=Ne.symm b1;clear hτ hx hwf hnx hnk hgx hk h0 hit hop;repeat' (first|simp -implicitDefEqProofs -dsimp only[go_sem,seval, *]|((with_reducible apply ACalls.one1);(focus ((with_reducible refine c1)<;>(first|(simp -implicitDefEqProofs -dsimp only[go_sem,seval, *];done)|omega)));(focus (first|trivial|exact rfl|(simp -implicitDefEqProofs -dsimp only[go_sem,seval];done)))))
 ·intro τ hτ;have q1:=hτ o1 (.cells [.int .i64 (G xs.length).1]) (by simp[aH,hne,Ne.symm b1,Ne.symm hne]);repeat' simp -implicitDefEqProofs -dsimp only[go_sem,seval, *]
  refine⟨λ_ _ e=>e,?_⟩;skip
  refine fin_eq ?_;(repeat' simp -implicitDefEqProofs -dsimp only[go_sem,seval, *])
def sA:List AInst:=[⟨some 2, .box (.t 0),none⟩,⟨some 4, .mov (.c (.slice [] .nil)),none⟩]
def sB:List AInst:=[⟨some 6, .mov (.t 1),none⟩]
def sD:List AInst:=[⟨some 8, .load false 1 (.t 2),none⟩,⟨some 9, .mov (.t 5),none⟩,⟨some 10, .bslice 1 [.t 9],none⟩,⟨some 11, .append 1 8 (.t 8) (.t 10),none⟩,⟨none, .store 1 (.t 2) (.t 11),none⟩]
def sE:List AInst:=[⟨some 12, .load false 1 (.t 2),none⟩,⟨some 4, .mov (.t 12),none⟩]
theorem xf(vo:Nat)(xs:List Int)(g:Nat)(caps:List AV)(σ:aA)(h:σ vo=some (.grow 1 0))(hx:xs.length<=1000000)
  (hit:∀τ,Sub σ τ->nh Tryz.prog g caps τ xs):
  C_ 212 [.slice [] (.own vo), .fn g [] caps] σ (.slice (xs.map λx=> .int .i64 x) (.own vo)) (aH σ vo (.grow 1 xs.length)):=by
 refine rE (rs:=[.tmp 4]) (N:=13) (ia:=sA) (ib:=sB) (id:=sD) (ie:=sE) (t:=6) (p:=7) (q:=5) Tryz.func212 (by kernel_rfl) (by kernel_rfl) (by kernel_rfl) (by kernel_rfl) (by simp) ?_;unfold sA sB sD sE;repeat' (first|simp -implicitDefEqProofs -dsimp only[go_sem,seval, *]|((with_reducible refine Zt (λoF hoF hnF hnF'=>?_));(try simp only[aa,ne_eq,not_and] at hoF)))
 obtain⟨o1,ho1'⟩:∃x,x=oF:=⟨_,rfl⟩;subst ho1';have b1:¬vo=o1:=λe=>by rw[e,hoF] at h;simp at h
 refine yj g caps xs (λk=>aH (aH σ o1 (.cells [.slice ((xs.take k).map λx=> .int .i64 x) (.own vo)])) vo (.grow 1 (xs.take k).length)) (by simp -implicitDefEqProofs -dsimp only[go_sem,seval, *];done) (hit _ (Sub.upd_fresh hoF)) ?_ ?_ ?_ ?_
 ·intro o x e;by_cases hb:o=vo
  ·subst hb;simp only[aH,if_true,List.take_zero,List.length_nil] at e;simp only[aH,if_neg b1];rw[h];exact e
  ·simpa [aH,hb] using e
 ·intro k o e;have e2:¬o=o1:=λh'=>by subst h';simp[aH] at e
  have e3:σ o=none:=by simpa [aH,e2] using e
  have e4:¬o=vo:=λh'=>by rw[h',h] at e3;simp at e3
  simp[aH,e2,e3,e4]
 ·intro k x τ hk hτ;have q1:=hτ o1 (.cells [.slice ((xs.take k).map λx=> .int .i64 x) (.own vo)]) (by simp[aH,Ne.symm b1]);have q3:=hτ vo (.grow 1 (xs.take k).length) (by simp[aH]);have htk:xs.take (k+1)=xs.take k++[x]:=by rw[List.take_add_one,hk];rfl
  rw[htk];have hle:(xs.take k).length<=1000000:=by simp;omega
  generalize hys:xs.take k=ys at q1 q3 hle|-;rw[hys] at hτ
  have hS:∀τ',τ'=aH (aH τ vo (.grow 1 (ys.length+1))) o1 (.cells [.slice ((ys++[x]).map λx=> .int .i64 x) (.own vo)])->Sub (aH (aH σ o1 (.cells [.slice ((ys++[x]).map λx=> .int .i64 x) (.own vo)])) vo (.grow 1 (ys++[x]).length)) τ'/\Av τ τ':=by
   rintro τ' rfl;constructor
   ·intro o y e;by_cases e1:o=vo
    ·subst e1;simpa [aH,b1] using e
    by_cases e2:o=o1
    ·subst e2;simpa [aH,e1] using e
    simp only[aH,if_neg e1,if_neg e2];refine hτ o y ?_;simpa [aH,e1,e2] using e
   ·intro o y e;have e1:¬o=vo:=λh'=>by rw[h',q3] at e;simp at e
    have e2:¬o=o1:=λh'=>by rw[h',q1] at e;simp at e
    simpa [aH,e1,e2] using e
  have b1':¬o1=vo:=Ne.symm b1;have q3':τ vo=some (.grow 1 (ys.map λx=>AV.int .i64 x).length):=by rw[q3];simp
  have hsz:iy 1 (ys.map λx=>AV.int .i64 x):=by simp[iy,az]
  have hbd:(ys.length+1)*8<=35184372088832:=by omega
  clear hτ hx hit hk htk hys q3;repeat' simp -implicitDefEqProofs -dsimp only[go_sem,seval,List.length_map,List.length_append,List.length_cons,List.length_nil,List.map_append,List.map_cons,List.map_nil,Nat.zero_add, *]
  have hz:=hS _ rfl;simp only[List.map_append,List.map_cons,List.map_nil,List.length_append,List.length_cons,List.length_nil,Nat.zero_add] at hz;first|exact hz|exact hz.1
 ·intro τ hτ;rw[List.take_length] at hτ|-;have q1:=hτ o1 (.cells [.slice (xs.map λx=> .int .i64 x) (.own vo)]) (by simp[aH,Ne.symm b1]);repeat' simp -implicitDefEqProofs -dsimp only[go_sem,seval, *]
  refine⟨λ_ _ e=>e,?_⟩;skip
  refine fin_eq ?_;(repeat' simp -implicitDefEqProofs -dsimp only[go_sem,seval, *])
theorem Aw{P:Program}{f:FuncId}{args:List AV}{σ:aA}{R0 R:ARes->aA->Prop}(h:ACalls P f args σ R0)(hR:∀v s,R0 (.ret v) s->fin R v s)(hp:∀v s,¬R0 (.panic v) s):ACalls P f args σ R:=
 ⟨h.1,λS K w vals h0 h1 h2=>(h.2 S K w vals h0 h1 h2).mono λe w' ⟨K',r,σ',a,b,c,d⟩=>by
  cases r with
  |ret v=>
   obtain⟨v0,σ0,q3,q4⟩:=hR v σ' d;cases e<;>first|exact c.elim|skip
   obtain⟨K2,k1,k2,k3⟩:=Rel.view q3 h0 c b;exact⟨K2, .ret v0,σ0,a.trans k1,k3,k2,q4⟩
  |panic v=>exact(hp v σ' d).elim⟩
theorem Ax(xs:List Int)(g:Nat)(caps:List AV)(σ:aA)(hx:xs.length<=1000000)
  (hit:∀τ,Sub σ τ->nh Tryz.prog g caps τ xs):
  C_ 212 [.slice [] .nil, .fn g [] caps] σ (.slice (xs.map λx=> .int .i64 x) .no) σ:=by
 refine ACalls.virt (by kernel_rfl) 1 (λvo h1 _ _=>?_);have h2:=xf vo xs g caps (aH σ vo (.grow 1 0)) (by simp[aH]) hx (λτ hτ=>hit τ ((Sub.upd_fresh h1).trans hτ));refine ACalls.fl (Aw h2 (λv s hv=>?_) (λv s hv=>by simp at hv)) ?_ ?_
 ·obtain⟨hv,rfl⟩:=hv;simp only[ARes.ret.injEq] at hv;subst hv;refine fin_eq ?_;(repeat' simp -implicitDefEqProofs -dsimp only[go_sem,seval, *])
 ·(repeat' simp -implicitDefEqProofs -dsimp only[go_sem,seval, *])
 ·intro o _ y e;by_cases ho:o=vo
  ·subst ho;refine⟨.virt 1,by simp[aH],?_⟩;simp only[aH,if_true,Option.some.injEq] at e;subst e;exact⟨rfl,rfl⟩
  ·exact⟨y,by simpa [aH,ho] using e, .refl _ y⟩
theorem xg(xs:List Int)(g:Nat)(caps:List AV)(σ:aA)(hx:xs.length<=1000000)
  (hit:∀τ,Sub σ τ->nh Tryz.prog g caps τ xs):
  C_ 160 [.fn g [] caps] σ (.slice (xs.map λx=> .int .i64 x) .no) σ:=by
 refine gO [] Tryz.func160 (by kernel_rfl) (by conv=>lhs;reduce;dsimp only[iA]) rfl ?_;repeat' (first|simp -implicitDefEqProofs -dsimp only[go_sem,seval, *]|((with_reducible apply ACalls.one1);(focus ((with_reducible refine Ax xs g caps _ hx hit)<;>(first|(simp -implicitDefEqProofs -dsimp only[go_sem,seval, *];done)|omega)));(focus (first|trivial|exact rfl|(simp -implicitDefEqProofs -dsimp only[go_sem,seval];done)))))
 refine fin_eq ?_;(repeat' simp -implicitDefEqProofs -dsimp only[go_sem,seval, *])
theorem mC(xs:List Int)(t:Tok)(σ:aA):
  ACalls Tryz.prog 99 [.slice (xs.map λx=> .int .i64 x) t] σ (ub σ (λo=> .fn 166 [] [.ptr o 0]) (.cells [.slice (xs.map λx=> .int .i64 x) t])):=by
 refine gO [] Tryz.func99 (by kernel_rfl) (by conv=>lhs;reduce;dsimp only[iA]) rfl ?_;repeat' (first|simp -implicitDefEqProofs -dsimp only[go_sem,seval, *]|((with_reducible refine Zt (λoF hoF hnF hnF'=>?_));(try simp only[aa,ne_eq,not_and] at hoF)))
 refine sF _ ‹_› ?_;(repeat' simp -implicitDefEqProofs -dsimp only[go_sem,seval, *])
theorem rF(xs:List Int)(t:Tok)(σ:aA):
  ACalls Tryz.prog 97 [.slice (xs.map λx=> .int .i64 x) t] σ (ub σ (λo=> .fn 162 [] [.ptr o 0]) (.cells [.slice (xs.map λx=> .int .i64 x) t])):=by
 refine gO [] Tryz.func97 (by kernel_rfl) (by conv=>lhs;reduce;dsimp only[iA]) rfl ?_;repeat' (first|simp -implicitDefEqProofs -dsimp only[go_sem,seval, *]|((with_reducible refine Zt (λoF hoF hnF hnF'=>?_));(try simp only[aa,ne_eq,not_and] at hoF)))
 refine sF _ ‹_› ?_;(repeat' simp -implicitDefEqProofs -dsimp only[go_sem,seval, *])
theorem Ay(o:Nat)(xs:List Int)(t:Tok)(σ:aA)(h:σ o=some (.cells [.slice (xs.map λx=> .int .i64 x) t]))(hx:xs.length<=1000000)(hi:∀x∈xs,I64 x):
  C_ 160 [.fn 166 [] [.ptr o 0]] σ (.slice ((bk xs).map λx=> .int .i64 x) .no) σ:=
 xg (bk xs) _ _ σ (by simpa [bk] using hx) (λτ hτ=>nj o xs t τ hx hi (hτ _ _ h))
theorem sQ(xs:List Int)(t:Tok)(σ:aA)(hx:xs.length<=1000000)(hi:∀x∈xs,I64 x):
  C_ 94 [.slice (xs.map λx=> .int .i64 x) t] σ (.slice ((bk xs).map λx=> .int .i64 x) .no) σ:=by
 have c1:=λo τ h=>Ay o xs t τ h hx hi;clear hx hi;refine gO [] Tryz.func94 (by kernel_rfl) (by conv=>lhs;reduce;dsimp only[iA]) rfl ?_;repeat' (first|simp -implicitDefEqProofs -dsimp only[go_sem,seval, *]|((with_reducible apply ACalls.one1);(focus ((with_reducible refine c1 _ _ ?_)<;>(first|(simp -implicitDefEqProofs -dsimp only[go_sem,seval, *];done)|omega)));(focus (first|trivial|exact rfl|(simp -implicitDefEqProofs -dsimp only[go_sem,seval];done))))|((with_reducible apply ACalls.newO);(focus ((with_reducible refine mC xs t _)<;>(first|(simp -implicitDefEqProofs -dsimp only[go_sem,seval, *];done)|omega)));(intro oF hoF hnF hnF');(try simp only[aa,ne_eq,not_and] at hoF)))
 refine fin_eq ?_;(repeat' simp -implicitDefEqProofs -dsimp only[go_sem,seval, *])
end Go.Proofs.YtbbihmmobfmadaaGreat
namespace Go.Proofs.YtbbihmmobfmadaaGreat
open Abs Fil Fil.Bl A
abbrev aD(x:List Int)(t:Tok):AV:= .slice (x.map λx=> .int .i64 x) t
theorem C9(x y:List Int)(tx ty:Tok)(fF:Nat)(first caps:List AV)(out:Nat->Int)(S:Nat->aA)(hlen:x.length<=y.length)(hx:x.length<=1000000)
  (hd:∀k o,S 0 o=none->S k o=none)
  (hdo:∀i,i<x.length->∀o z,S 0 o=none->ACalls Tryz.prog fF (first++[.int .i64 (gt x i), .int .i64 (gt y i)]++caps) (aH (S i) o z) (λr τ'=>r= .ret (.int .i64 (out i))/\τ'=aH (S (i+1)) o z)):
  C_ 109 [aD x tx,aD y ty, .fn fF first caps] (S 0) (aD ((List.range x.length).map out) .no) (S x.length):=by
 refine gO [] Tryz.func109 (by kernel_rfl) (by conv=>lhs;reduce;dsimp only[iA]) rfl ?_;repeat' (first|simp -implicitDefEqProofs -dsimp only[go_sem,seval, *]|with_reducible refine Zv ?_ ?_|(with_reducible refine Zt λoF hoF hnF hnF'=>?_;try simp only[aa,ne_eq,not_and] at hoF)|omega)
 refine loop_rule (λi:Nat=>[(15,some (.int .i64 i)),(14,some (.int .i64 x.length)),(13,some (aD x tx)),(7,some (aD ((List.range i).map out) (.own oF))),(2,some (.fn fF first caps)),(1,some (aD y ty))]) (λi=>aH (S i) oF (.grow 1 i)) (λi=>i<=x.length) (λi=>x.length-i) 0 ?_ ?_
 ·(repeat' (first|simp -implicitDefEqProofs -dsimp only[go_sem,seval,aD,List.range_zero,List.map_nil, *]|omega))
 intro i hi;by_cases hlt:i<x.length
 ·have c1:=hdo i hlt oF (.grow 1 i) hoF;have hgx:(x.map λx=>AV.int .i64 x)[i]?=some (.int .i64 (gt x i)):=by simp[gt,List.getD_eq_getElem?_getD,hlt]
  have hgy:(y.map λx=>AV.int .i64 x)[i]?=some (.int .i64 (gt y i)):=by simp[gt,List.getD_eq_getElem?_getD,show i<y.length by omega]
  have hr:(List.range (i+1)).map out=(List.range i).map out++[out i]:=by simp[List.range_succ]
  have hbd:(i+1)*8<=35184372088832:=by omega
  repeat' (first|simp -implicitDefEqProofs -dsimp only[go_sem,seval,List.length_range,List.length_map, *]|simp(disch:=omega) only[ah,aj,ao,aw,ar,ag,au,aq]|refine kc1 (c1) ?_|(with_reducible refine lnx (i+1) ?_;repeat' (first|simp -implicitDefEqProofs -dsimp only[go_sem,seval,aD,List.map_append,List.map_cons,List.map_nil, *]|with_reducible refine And.intro ?_ ?_))|omega)
 ·have:i=x.length:=by omega
  subst this;repeat' (first|simp -implicitDefEqProofs -dsimp only[go_sem,seval, *]|(refine fin_eq ?_;repeat' simp -implicitDefEqProofs -dsimp only[go_sem,seval,aD, *]))
end Go.Proofs.YtbbihmmobfmadaaGreat
namespace Go.Proofs.YtbbihmmobfmadaaGreat
open Abs Fil Fil.Bl A
theorem py(x y c:Int)(b:Bu){r1 r2 r3 r4 r5:Int×Bu}(e1:b.op Bl.Op.xor x y 0=r1)(e2:r1.2.op Bl.Op.xor r1.1 c 0=r2)(e3:r2.2.op Bl.Op.and x y 0=r3)(e4:r3.2.op Bl.Op.and r1.1 c 0=r4)(e5:r4.2.op Bl.Op.or r3.1 r4.1 0=r5):
  (gi x y c).run b=((r2.1,r5.1),r5.2):=by
 subst e1 e2 e3 e4 e5;rfl
theorem G9(bo p q:Nat)(b:Bu)(x y c:Int)(σ:aA)(h:σ bo=some (co b))(hs:Wf b.g)(hx:I64 x)(hy:I64 y)(hc:I64 c)(hp:σ p=some (.cells [.ptr bo 0]))(hq:σ q=some (.cells [.int .i64 c])):
  C_ 161 [.int .i64 x, .int .i64 y, .ptr p 0, .ptr q 0] σ (.int .i64 ((gi x y c).run b).1.1) (aH (aH σ bo (co ((gi x y c).run b).2)) q (.cells [.int .i64 ((gi x y c).run b).1.2])):=by
 obtain⟨r1,e1⟩:∃r,b.op Bl.Op.xor x y 0=r:=⟨_,rfl⟩;have w1:=eK hs Bl.Op.xor x y 0;have c1:=λτ h=>sO bo b x y τ h hs hx hy;rw[e1] at w1 c1;obtain⟨r2,e2⟩:∃r,r1.2.op Bl.Op.xor r1.1 c 0=r:=⟨_,rfl⟩;have w2:=eK w1.1 Bl.Op.xor r1.1 c 0;have c2:=λτ h=>sO bo r1.2 r1.1 c τ h w1.1 w1.2 hc;rw[e2] at w2 c2;obtain⟨r3,e3⟩:∃r,r2.2.op Bl.Op.and x y 0=r:=⟨_,rfl⟩;have w3:=eK w2.1 Bl.Op.and x y 0;have c3:=λτ h=>mA bo r2.2 x y τ h w2.1 hx hy;rw[e3] at w3 c3;obtain⟨r4,e4⟩:∃r,r3.2.op Bl.Op.and r1.1 c 0=r:=⟨_,rfl⟩;have w4:=eK w3.1 Bl.Op.and r1.1 c 0;have c4:=λτ h=>mA bo r3.2 r1.1 c τ h w3.1 w1.2 hc;rw[e4] at w4 c4;obtain⟨r5,e5⟩:∃r,r4.2.op Bl.Op.or r3.1 r4.1 0=r:=⟨_,rfl⟩;have c5:=λτ h=>Is bo r4.2 r3.1 r4.1 τ h w4.1 w3.2 w4.2;rw[e5] at c5;rw[py x y c b e1 e2 e3 e4 e5];obtain⟨a1,b1⟩:=r1;obtain⟨a2,b2⟩:=r2;obtain⟨a3,b3⟩:=r3;obtain⟨a4,b4⟩:=r4;obtain⟨a5,b5⟩:=r5;simp only at c1 c2 c3 c4 c5|-;have n1:¬bo=q:=λe=>by rw[e,hq] at h;simp[co,fi] at h
 have n2:¬bo=p:=λe=>by rw[e,hp] at h;simp[co,fi] at h
 have n3:¬p=q:=λe=>by rw[e,hq] at hp;simp at hp
 have n1':=Ne.symm n1;have n2':=Ne.symm n2;have n3':=Ne.symm n3;clear e1 e2 e3 e4 e5 w1 w2 w3 w4 hs hx hy hc;refine gO [] Tryz.func161 (by kernel_rfl) (by conv=>lhs;reduce;dsimp only[iA]) rfl ?_;repeat' (first|simp(maxDischargeDepth:=9) -implicitDefEqProofs -dsimp only[go_sem,seval, *]|with_reducible refine kc1 (c1 _ ?_) ?_|with_reducible refine kc1 (c2 _ ?_) ?_|with_reducible refine kc1 (c3 _ ?_) ?_|with_reducible refine kc1 (c4 _ ?_) ?_|with_reducible refine kc1 (c5 _ ?_) ?_|refine fin_eq ?_)
def bN(x y:List Int)(c:Int)(b:Bu)(k:Nat):(List Int×Int)×Bu:=(Aq x y c k).run b
theorem lz(x y:List Int)(c:Int)(b:Bu)(k:Nat):bN x y c b (k+1)=(((bN x y c b k).1.1++[((gi (gt x k) (gt y k) (bN x y c b k).1.2).run (bN x y c b k).2).1.1],((gi (gt x k) (gt y k) (bN x y c b k).1.2).run (bN x y c b k).2).1.2),((gi (gt x k) (gt y k) (bN x y c b k).1.2).run (bN x y c b k).2).2):=by
 show(Aq x y c (k+1)).run b=_
 unfold Aq;rw[fV,run_bind];rfl
theorem eD{l:List Int}(h:∀x∈l,I64 x)(k:Nat):I64 (gt l k):=by
 unfold gt;rw[List.getD_eq_getElem?_getD];cases hk:l[k]? with
 |none=>exact⟨by decide,by decide⟩
 |some x=>exact h x (List.mem_of_getElem? hk)
theorem Ha{x y c:Int}{b:Bu}(hs:Wf b.g):Wf ((gi x y c).run b).2.g/\I64 ((gi x y c).run b).1.1/\I64 ((gi x y c).run b).1.2:=by
 rw[py x y c b rfl rfl rfl rfl rfl];have w1:=eK hs Bl.Op.xor x y 0;have w2:=eK w1.1 Bl.Op.xor (b.op Bl.Op.xor x y 0).1 c 0;have w3:=eK w2.1 Bl.Op.and x y 0;have w4:=eK w3.1 Bl.Op.and (b.op Bl.Op.xor x y 0).1 c 0;exact⟨(eK w4.1 _ _ _ _).1,w2.2,(eK w4.1 _ _ _ _).2⟩
theorem kM{x y:List Int}{c:Int}{b:Bu}(hs:Wf b.g)(hc:I64 c):∀k,Wf (bN x y c b k).2.g/\I64 (bN x y c b k).1.2/\(bN x y c b k).1.1.length=k/\∀z∈(bN x y c b k).1.1,I64 z
 |0=>⟨hs,hc,rfl,λz h=>by simp[bN,Aq,iter,Pg.run] at h⟩
 |k+1=>by
  obtain⟨h1,h2,h3,h4⟩:=kM hs hc k;rw[lz];have h5:=Ha (x:=gt x k) (y:=gt y k) (c:=(bN x y c b k).1.2) h1;refine⟨h5.1,h5.2.2,by simp[h3],λz hz=>?_⟩;rcases List.mem_append.1 hz with hz|hz
  ·exact h4 z hz
  ·obtain rfl:z=_:=by simpa using hz
   exact h5.2.1
theorem ym{x y:List Int}{c:Int}{b:Bu}:∀k,(bN x y c b k).1.1=(List.range k).map λi=>((gi (gt x i) (gt y i) (bN x y c b i).1.2).run (bN x y c b i).2).1.1
 |0=>rfl
 |k+1=>by rw[lz,List.range_succ,List.map_append,<-ym k];rfl
theorem pz(bo:Nat)(b:Bu)(x y:List Int)(tx ty:Tok)(c:Int)(σ:aA)(h:σ bo=some (co b))(hs:Wf b.g)(hx:∀z∈x,I64 z)(hy:∀z∈y,I64 z)(hc:I64 c)(hlen:x.length<=y.length)(hxl:x.length<=1000000):
  C_ 95 [.ptr bo 0,aD x tx,aD y ty, .int .i64 c] σ (.tup [aD ((dp x y c).run b).1.1 .no, .int .i64 ((dp x y c).run b).1.2]) (aH σ bo (co ((dp x y c).run b).2)):=by
 show ACalls Tryz.prog 95 _ σ (λr σ'=>r= .ret (.tup [aD (bN x y c b x.length).1.1 .no, .int .i64 (bN x y c b x.length).1.2])/\σ'=aH σ bo (co (bN x y c b x.length).2))
 have key:∀p q,σ p=none->σ q=none->¬p=q->C_ 109 [aD x tx,aD y ty, .fn 161 [] [.ptr p 0, .ptr q 0]] (aH (aH σ p (.cells [.ptr bo 0])) q (.cells [.int .i64 c])) (aD (bN x y c b x.length).1.1 .no) (aH (aH (aH σ p (.cells [.ptr bo 0])) q (.cells [.int .i64 (bN x y c b x.length).1.2])) bo (co (bN x y c b x.length).2)):=by
  intro p q hp hq hpq;have n1:¬bo=q:=λe=>by rw[e,hq] at h;simp at h
  have n2:¬bo=p:=λe=>by rw[e,hp] at h;simp at h
  have hz:=C9 x y tx ty 161 [] [.ptr p 0, .ptr q 0] (λi=>((gi (gt x i) (gt y i) (bN x y c b i).1.2).run (bN x y c b i).2).1.1)
   (λk=>aH (aH (aH σ p (.cells [.ptr bo 0])) q (.cells [.int .i64 (bN x y c b k).1.2])) bo (co (bN x y c b k).2)) hlen hxl ?_ ?_
  ·rw[<-ym] at hz
   have e0:aH (aH (aH σ p (.cells [.ptr bo 0])) q (.cells [.int .i64 (bN x y c b 0).1.2])) bo (co (bN x y c b 0).2)=aH (aH σ p (.cells [.ptr bo 0])) q (.cells [.int .i64 c]):=by
    funext i
    by_cases hi:i=bo
    ·subst hi;simp only[aH,if_true,if_neg n1,if_neg n2,h];rfl
    ·simp only[aH,if_neg hi];rfl
   rw[e0] at hz;exact hz
  ·intro k o ho;have a1:¬o=bo:=λe=>by subst e;simp[aH] at ho
   have a2:¬o=q:=λe=>by subst e;simp[aH,a1] at ho
   have a3:¬o=p:=λe=>by subst e;simp[aH,a1,a2] at ho
   simpa [aH,a1,a2,a3] using ho
  ·intro i hi o z ho;have a1:¬o=bo:=λe=>by subst e;simp[aH] at ho
   have a2:¬o=q:=λe=>by subst e;simp[aH,a1] at ho
   have a3:¬o=p:=λe=>by subst e;simp[aH,a1,a2] at ho
   obtain⟨w1,w2,_,_⟩:=kM (x:=x) (y:=y) hs hc i
   have hh:=G9 bo p q (bN x y c b i).2 (gt x i) (gt y i) (bN x y c b i).1.2 (aH (aH (aH (aH σ p (.cells [.ptr bo 0])) q (.cells [.int .i64 (bN x y c b i).1.2])) bo (co (bN x y c b i).2)) o z)
    (by simp[aH,Ne.symm a1]) w1 (eD hx i) (eD hy i) w2 (by simp[aH,Ne.symm a3,Ne.symm n2,hpq]) (by simp[aH,Ne.symm a2,Ne.symm n1])
   refine hh.mono λr σ' ⟨q1,q2⟩=>⟨q1,?_⟩;rw[q2,lz];funext j
   by_cases j1:j=o
   ·subst j1;simp[aH,a1,a2]
   by_cases j2:j=q
   ·subst j2;simp[aH,j1,Ne.symm n1]
   by_cases j3:j=bo
   ·subst j3;simp[aH,j1,j2]
   simp[aH,j1,j2,j3]
 clear hs hx hy hc hlen hxl;generalize hG:bN x y c b x.length=G at key|-;obtain⟨⟨g1,g2⟩,g3⟩:=G;simp only at key|-;clear hG;refine gO [] Tryz.func95 (by kernel_rfl) (by conv=>lhs;reduce;dsimp only[iA]) rfl ?_;repeat' (first|simp(maxDischargeDepth:=9) -implicitDefEqProofs -dsimp only[go_sem,seval, *]|(with_reducible refine Zt λoF hoF hnF hnF'=>?_;try simp only[aa,ne_eq,not_and] at hoF)|with_reducible refine kc1 (key _ _ ?_ ?_ ?_) ?_|refine fin_eq ?_)
end Go.Proofs.YtbbihmmobfmadaaGreat
namespace Go.Proofs.YtbbihmmobfmadaaGreat
open Abs Fil Fil.Bl A
theorem rG(a:Int)(h:I64 a):IntKind.i64.wrap ((BitVec.ofInt IntKind.i64.bits 1 ^^^ BitVec.ofInt IntKind.i64.bits a).toNat:Nat)=turn a:=by
 rw[BitVec.xor_comm];exact ar a h.1 h.2
theorem i64_turn{a:Int}(h:I64 a):I64 (turn a):=by
 unfold I64 turn at*;omega
theorem nR{x:List Int}(h:∀z∈x,I64 z):∀z∈bk x,I64 z:=by
 intro z hz;obtain⟨y,hy,rfl⟩:=List.mem_map.1 hz;exact i64_turn (h y hy)
theorem sR{x y:List Int}{c:Int}{b:Bu}(hs:Wf b.g)(hc:I64 c):Wf ((dp x y c).run b).2.g/\I64 ((dp x y c).run b).1.2/\((dp x y c).run b).1.1.length=x.length/\∀z∈((dp x y c).run b).1.1,I64 z:=kM hs hc x.length
theorem nS(bo:Nat)(b:Bu)(x y:List Int)(tx ty:Tok)(σ:aA)(h:σ bo=some (co b))(hs:Wf b.g)(hx:∀z∈x,I64 z)(hy:∀z∈y,I64 z)(hlen:x.length<=y.length)(hyl:y.length<=1000000):
  C_ 112 [.ptr bo 0,aD x tx,aD y ty] σ (.int .i64 ((bX x y).run b).1) (aH σ bo (co ((bX x y).run b).2)):=by
 have e:(bX x y).run b=(turn ((dp x (bk y) 1).run b).1.2,((dp x (bk y) 1).run b).2):=by unfold bX;rw[run_bind];rfl
 rw[e];have c1:=λτ=>sQ y ty τ hyl hy;have hl2:x.length<=(bk y).length:=by simpa [bk] using hlen
 have c2:=λτ h=>pz bo b x (bk y) tx .no 1 τ h hs hx (nR hy) ⟨by decide,by decide⟩ hl2 (by omega);have hw:=(sR (x:=x) (y:=bk y) (c:=1) hs ⟨by decide,by decide⟩).2.1;generalize hG:(dp x (bk y) 1).run b=G at c2 hw|-;obtain⟨⟨g1,g2⟩,g3⟩:=G;simp only at c2 hw|-;have hxx:=rG g2 hw;clear e hG hs hx hy hlen hyl hl2 hw;refine gO [] Tryz.func112 (by kernel_rfl) (by conv=>lhs;reduce;dsimp only[iA]) rfl ?_;repeat' (first|simp -implicitDefEqProofs -dsimp only[go_sem,seval, *]|with_reducible refine kc1 (c1 _) ?_|with_reducible refine kc1 (c2 _ ?_) ?_|refine fin_eq ?_)
def fW(x:List Int)(bit:Int)(i:Nat)(b:Bu)(j:Nat):List Int×Bu:=(wK x bit i j).run b
theorem uu(x:List Int)(bit:Int)(i:Nat)(b:Bu)(j:Nat):fW x bit i b (j+1)=((fW x bit i b j).1++[((fW x bit i b j).2.op Bl.Op.and (gt x j) bit 0).1],((fW x bit i b j).2.op Bl.Op.and (gt x j) bit 0).2):=by
 show(wK x bit i (j+1)).run b=_
 unfold wK;rw[fV,run_bind];rfl
theorem sS{x:List Int}{bit:Int}{i:Nat}{b:Bu}(hs:Wf b.g):∀j,Wf (fW x bit i b j).2.g/\(fW x bit i b j).1.length=i+j/\∀z∈(fW x bit i b j).1,I64 z
 |0=>⟨hs,by simp[fW,wK,iter,Pg.run],λz h=>by
  simp only[fW,wK,iter,Pg.run,List.mem_replicate] at h;rw[h.2];exact⟨by decide,by decide⟩⟩
 |j+1=>by
  obtain⟨h1,h2,h3⟩:=sS (x:=x) (bit:=bit) (i:=i) hs j;rw[uu];have h4:=eK h1 Bl.Op.and (gt x j) bit 0;refine⟨h4.1,by simp[h2];omega,λz hz=>?_⟩;rcases List.mem_append.1 hz with hz|hz
  ·exact h3 z hz
  ·obtain rfl:z=_:=by simpa using hz
   exact h4.2
def dR(x y:List Int)(b:Bu)(i:Nat):List Int×Bu:=(wL x y i).run b
theorem pA(x y:List Int)(b:Bu)(i:Nat):dR x y b (i+1)=(((dp (dR x y b i).1 (fW x (gt y i) i (dR x y b i).2 (x.length-i)).1 0).run (fW x (gt y i) i (dR x y b i).2 (x.length-i)).2).1.1,((dp (dR x y b i).1 (fW x (gt y i) i (dR x y b i).2 (x.length-i)).1 0).run (fW x (gt y i) i (dR x y b i).2 (x.length-i)).2).2):=by
 show(wL x y (i+1)).run b=_
 unfold wL;rw[fV,run_bind,run_bind];rfl
theorem sT{x y:List Int}{b:Bu}(hs:Wf b.g):∀i,Wf (dR x y b i).2.g/\(dR x y b i).1.length=x.length/\∀z∈(dR x y b i).1,I64 z
 |0=>⟨hs,by simp[dR,wL,iter,Pg.run],λz h=>by
  simp only[dR,wL,iter,Pg.run,List.mem_replicate] at h;rw[h.2];exact⟨by decide,by decide⟩⟩
 |i+1=>by
  obtain⟨h1,h2,h3⟩:=sT (x:=x) (y:=y) hs i;rw[pA];have h4:=sS (x:=x) (bit:=gt y i) (i:=i) h1 (x.length-i);have h5:=sR (x:=(dR x y b i).1) (y:=(fW x (gt y i) i (dR x y b i).2 (x.length-i)).1) (c:=0) h4.1 ⟨by decide,by decide⟩;exact⟨h5.1,h5.2.2.1.trans h2,h5.2.2.2⟩
theorem Kk(bo:Nat)(b:Bu)(x y:List Int)(tx ty:Tok)(σ:aA)(h:σ bo=some (co b))(hs:Wf b.g)(hx:∀z∈x,I64 z)(hy:∀z∈y,I64 z)(hlen:y.length<=x.length)(hx1:1<=x.length)(hxl:x.length<=1000000):
  C_ 111 [.ptr bo 0,aD x tx,aD y ty] σ (aD (dR x y b y.length).1 .no) (aH σ bo (co (dR x y b y.length).2)):=by
 have hmw:=λi=>sT (x:=x) (y:=y) hs i;have hmn:=pA x y b;have h0:dR x y b 0=(List.replicate x.length 0,b):=rfl;generalize hG:dR x y b=G at hmw hmn h0|-;clear hG;have hbx:x.length*8<=35184372088832:=by omega
 refine gO [] Tryz.func111 (by kernel_rfl) (by conv=>lhs;reduce;dsimp only[iA]) rfl ?_;repeat' (first|simp -implicitDefEqProofs -dsimp only[go_sem,seval,List.length_map, *]|with_reducible refine Zv ?_ ?_|(with_reducible refine Zt λoF hoF hnF hnF'=>?_;try simp only[aa,ne_eq,not_and] at hoF)|omega)
 refine loop_rule (λi:Nat=>[(18,some (.int .i64 i)),(17,some (.int .i64 y.length)),(16,some (aD y ty)),(1,some (aD x tx)),(0,some (.ptr bo 0)),(7,some (aD (G i).1 .no))]) (λi=>aH σ bo (co (G i).2)) (λi=>i<=y.length) (λi=>y.length-i) 0 ?_ ?_
 ·have nb:¬bo=oF:=λe=>by rw[e,hoF] at h;simp at h
  have nb':=Ne.symm nb;(repeat' (first|simp -implicitDefEqProofs -dsimp only[go_sem,seval,h0,aD,List.map_replicate, *]|omega))
 intro i hi;by_cases hlt:i<y.length
 ·have hgy:(y.map λx=>AV.int .i64 x)[i]?=some (.int .i64 (gt y i)):=by simp[gt,List.getD_eq_getElem?_getD,hlt]
  have hix:i<=x.length:=by omega
  have hsub:((x.length:Int)-(i:Int))=((x.length-i:Nat):Int):=by omega
  have hbi:=eD hy i;have hrw:=λj=>sS (x:=x) (bit:=gt y i) (i:=i) (hmw i).1 j;have hrn:=uu x (gt y i) i (G i).2;have hr0:fW x (gt y i) i (G i).2 0=(List.replicate i 0,(G i).2):=rfl;have hG1:=hmn i;have hGi:=hmw i;generalize hR:fW x (gt y i) i (G i).2=R at hrw hrn hr0 hG1;generalize hbit:gt y i=bit at hgy hbi hrn;clear hR hbit;repeat' (first|simp -implicitDefEqProofs -dsimp only[go_sem,seval,List.length_map, *]|simp(disch:=omega) only[ah,aj,ao,aw,ar,ag,au,aq]|with_reducible refine Zv ?_ ?_|(with_reducible refine Zt λoF hoF hnF hnF'=>?_;try simp only[aa,ne_eq,not_and] at hoF)|omega)
  refine loop_rule (λj:Nat=>[(34,some (.int .i64 j)),(33,some (.int .i64 (x.length-i:Nat))),(32,some (aD (x.take (x.length-i)) .no)),(10,some (aD (R j).1 (.own oF))),(0,some (.ptr bo 0)),(9,some (.int .i64 bit)),(7,some (aD (G i).1 .no)),(18,some (.int .i64 i)),(17,some (.int .i64 y.length)),(16,some (aD y ty)),(1,some (aD x tx))])
   (λj=>aH (aH σ bo (co (R j).2)) oF (.grow 1 (i+j))) (λj=>j<=x.length-i) (λj=>x.length-i-j) 0 ?_ ?_
  ·have htk:List.take (x.length-i) (List.map (λx=>AV.int .i64 x) x)=List.map (λx=>AV.int .i64 x) (List.take (x.length-i) x):=List.map_take.symm;have hln:(List.take (x.length-i) x).length=x.length-i:=by simp
   (repeat' (first|simp -implicitDefEqProofs -dsimp only[go_sem,seval,hr0,aD,htk,hln,List.length_map,List.map_replicate,Nat.add_zero, *]|omega))
  intro j hj;have hln:(List.take (x.length-i) x).length=x.length-i:=by simp
  by_cases hlj:j<x.length-i
  ·have hgx:((x.take (x.length-i)).map λx=>AV.int .i64 x)[j]?=some (.int .i64 (gt x j)):=by
    rw[List.getElem?_map,List.getElem?_take_of_lt hlj];simp[gt,List.getD_eq_getElem?_getD,show j<x.length by omega]
   have c1:=λτ h=>mA bo (R j).2 (gt x j) bit τ h (hrw j).1 (eD hx j) hbi;have hn:=hrn j;have hRl:=(hrw j).2.1;generalize hr:(R j).2.op Bl.Op.and (gt x j) bit 0=r at c1 hn;have hjj:((j:Int))<((x.length-i:Nat):Int):=by omega
   have hbd:(i+j+1)*8<=35184372088832:=by omega
   clear hr hrw hrn hG1 hGi hmw hmn hs hx hy hbi;repeat' (first|simp -implicitDefEqProofs -dsimp only[go_sem,seval,List.length_map, *]|simp(disch:=omega) only[ah,aj,ao,aw,ar,ag,au,aq]|with_reducible refine kc1 (c1 _ ?_) ?_)
   have hadd:i+(j+1)=i+j+1:=rfl;refine lnx (j+1) ?_;(repeat' (first|simp -implicitDefEqProofs -dsimp only[go_sem,seval,hn,aD,hadd,List.map_append,List.map_cons,List.map_nil, *]|with_reducible refine And.intro ?_ ?_|omega))
  ·have:j=x.length-i:=by omega
   subst this;have hRl:=hrw (x.length-i);have hrl:(G i).1.length<=(R (x.length-i)).1.length:=by rw[hRl.2.1,hGi.2.1];omega
   have c1:=λτ h=>pz bo (R (x.length-i)).2 (G i).1 (R (x.length-i)).1 .no (.own oF) 0 τ h hRl.1 hGi.2.2 hRl.2.2 ⟨by decide,by decide⟩ hrl (by rw[hGi.2.1];exact hxl);generalize hZ:(dp (G i).1 (R (x.length-i)).1 0).run (R (x.length-i)).2=Z at c1 hG1;clear hZ hrw hrn hmw hmn hs hx hy hbi hrl hRl hGi;repeat' (first|simp -implicitDefEqProofs -dsimp only[go_sem,seval, *]|simp(disch:=omega) only[ah,aj,ao,aw,ar,ag,au,aq]|with_reducible refine kc1 (c1 _ ?_) ?_|(with_reducible refine lnx (i+1) ?_;repeat' (first|simp -implicitDefEqProofs -dsimp only[go_sem,seval,aD, *]|with_reducible refine And.intro ?_ ?_))|omega)
 ·have:i=y.length:=by omega
  subst this;clear hmw hmn hs hx hy;repeat' (first|simp -implicitDefEqProofs -dsimp only[go_sem,seval, *]|refine fin_eq ?_)
end Go.Proofs.YtbbihmmobfmadaaGreat
namespace Go.Proofs.YtbbihmmobfmadaaGreat
open Abs Fil Fil.Bl A
def nD(x:List Int)(bit:Int)(up:Bool)(i:Nat)(b:Bu)(j:Nat):List Int×Bu:=(za_ x bit up i j).run b
theorem sU(x:List Int)(bit:Int)(up:Bool)(i:Nat)(b:Bu)(j:Nat):nD x bit up i b (j+1)=((nD x bit up i b j).1++[((nD x bit up i b j).2.op Bl.Op.mux bit (qA x (kJ up i j)) (gt x j)).1],((nD x bit up i b j).2.op Bl.Op.mux bit (qA x (kJ up i j)) (gt x j)).2):=by
 show(za_ x bit up i (j+1)).run b=_
 unfold za_;rw[fV,run_bind];rfl
theorem uv{x:List Int}{bit:Int}{up:Bool}{i:Nat}{b:Bu}(hs:Wf b.g):∀j,Wf (nD x bit up i b j).2.g/\(nD x bit up i b j).1.length=j/\∀z∈(nD x bit up i b j).1,I64 z
 |0=>⟨hs,rfl,λz h=>by simp[nD,za_,iter,Pg.run] at h⟩
 |j+1=>by
  obtain⟨h1,h2,h3⟩:=uv (x:=x) (bit:=bit) (up:=up) (i:=i) hs j;rw[sU];have h4:=eK h1 Bl.Op.mux bit (qA x (kJ up i j)) (gt x j);refine⟨h4.1,by simp[h2],λz hz=>?_⟩;rcases List.mem_append.1 hz with hz|hz
  ·exact h3 z hz
  ·obtain rfl:z=_:=by simpa using hz
   exact h4.2
def gF(x y:List Int)(up:Bool)(b:Bu)(i:Nat):List Int×Bu:=(kK x y up i).run b
theorem sV(x y:List Int)(up:Bool)(b:Bu)(i:Nat):gF x y up b (i+1)=nD (gF x y up b i).1 (gt y i) up i (gF x y up b i).2 (gF x y up b i).1.length:=by
 show(kK x y up (i+1)).run b=_
 unfold kK;rw[fV];rfl
theorem Da{x y:List Int}{up:Bool}{b:Bu}(hs:Wf b.g)(hx:∀z∈x,I64 z):∀i,Wf (gF x y up b i).2.g/\(gF x y up b i).1.length=x.length/\∀z∈(gF x y up b i).1,I64 z
 |0=>⟨hs,rfl,hx⟩
 |i+1=>by
  obtain⟨h1,h2,h3⟩:=Da (y:=y) (up:=up) hs hx i;rw[sV];have h4:=uv (x:=(gF x y up b i).1) (bit:=gt y i) (up:=up) (i:=i) h1 (gF x y up b i).1.length;exact⟨h4.1,h4.2.1.trans h2,h4.2.2⟩
theorem Hb{x:List Int}(h:∀z∈x,I64 z)(k:Int):I64 (qA x k):=by
 unfold qA;split
 ·exact eD h _
 ·exact⟨by decide,by decide⟩
theorem pB(bo:Nat)(b:Bu)(x y:List Int)(tx ty:Tok)(up:Bool)(σ:aA)(h:σ bo=some (co b))(hs:Wf b.g)(hx:∀z∈x,I64 z)(hy:∀z∈y,I64 z)(hx1:1<=x.length)(hxl:x.length<=1000000)(hyl:y.length<=1000000):
  C_ 77 [.ptr bo 0,aD x tx,aD y ty, .int .i64 (if up then 1 else -1)] σ (aD (gF x y up b y.length).1 .no) (aH σ bo (co (gF x y up b y.length).2)):=by
 have hmw:=λi=>Da (y:=y) (up:=up) hs hx i;have hmn:=sV x y up b;have h0:gF x y up b 0=(x,b):=rfl;generalize hG:gF x y up b=G at hmw hmn h0|-;obtain⟨way,hway⟩:∃w:Int,(if up then 1 else -1)=w:=⟨_,rfl⟩;rw[hway];clear hG;refine gO [9001] Tryz.func77 (by kernel_rfl) (by conv=>lhs;reduce;dsimp only[iA]) rfl ?_;repeat' simp -implicitDefEqProofs -dsimp only[go_sem,seval,List.length_map, *]
 refine loop_rule (λi:Nat=>[(19,some (.int .i64 i)),(18,some (.int .i64 y.length)),(17,some (aD y ty)),(3,some (.int .i64 way)),(0,some (.ptr bo 0)),(1,some (aD (G i).1 .no))]) (λi=>aH σ bo (co (G i).2)) (λi=>i<=y.length) (λi=>y.length-i) 0 ?_ ?_
 ·(repeat' (first|simp -implicitDefEqProofs -dsimp only[go_sem,seval,h0,aD, *]|omega))
 intro i hi;by_cases hlt:i<y.length
 ·have hgy:(y.map λx=>AV.int .i64 x)[i]?=some (.int .i64 (gt y i)):=by simp[gt,List.getD_eq_getElem?_getD,hlt]
  have hbi:=eD hy i;have hG1:=hmn i;have hGi:=hmw i;generalize hbit:gt y i=bit at hgy hbi hG1;clear hbit;have hmin:¬min (i:Int) 8<0:=by omega
  obtain⟨FAR,hFAR⟩:∃F:Int,way*2^(min i 8)=F:=⟨_,rfl⟩;have hpw:2^(min i 8)<=2^8:=Nat.pow_le_pow_right (by omega) (by omega);have hpp:=Nat.two_pow_pos (min i 8);have hcast:((2:Int)^(min i 8))=((2^(min i 8):Nat):Int):=by simp
  have hFb: -256<=FAR/\FAR<=256:=by
   rw[<-hFAR,hcast,<-hway];cases up<;>simp only[if_true,if_false,Bool.false_eq_true]<;>omega
  have hfar:∀j:Nat,kJ up i j=(j:Int)-FAR:=λj=>by
   rw[<-hFAR,<-hway];unfold kJ;cases up<;>simp only[if_true,if_false,Bool.false_eq_true]<;>omega
  have hsh:IntKind.i64.wrap (way*2^((min (i:Int) 8).toNat.min 64))=FAR:=by
   have e:(min (i:Int) 8).toNat.min 64=min i 8:=by
    show min (min (i:Int) 8).toNat 64=min i 8
    omega
   rw[e,hFAR,ah _ (by omega) (by omega)]
  have hrw:=λj=>uv (x:=(G i).1) (bit:=bit) (up:=up) (i:=i) hGi.1 j;have hrn:=sU (G i).1 bit up i (G i).2;have hr0:nD (G i).1 bit up i (G i).2 0=([],(G i).2):=rfl;generalize hR:nD (G i).1 bit up i (G i).2=R at hrw hrn hr0 hG1;clear hR hFAR hpw hpp hcast hway;repeat' (first|simp -implicitDefEqProofs -dsimp only[go_sem,seval,List.length_map, *]|(with_reducible refine Zt λoF hoF hnF hnF'=>?_;try simp only[aa,ne_eq,not_and] at hoF))
  refine loop_rule (λj:Nat=>[(31,some (.int .i64 j)),(30,some (.int .i64 x.length)),(29,some (aD (G i).1 .no)),(11,some (.int .i64 FAR)),(12,some (aD (G i).1 .no)),(1,some (aD (R j).1 (.own oF))),(0,some (.ptr bo 0)),(10,some (.int .i64 bit)),(19,some (.int .i64 i)),(18,some (.int .i64 y.length)),(17,some (aD y ty)),(3,some (.int .i64 way))])
   (λj=>aH (aH σ bo (co (R j).2)) oF (.grow 1 j)) (λj=>j<=x.length) (λj=>x.length-j) 0 ?_ ?_
  ·(repeat' (first|simp -implicitDefEqProofs -dsimp only[go_sem,seval,hr0,aD,List.map_nil, *]|omega))
  intro j hj;have hGl:=hGi.2.1;by_cases hlj:j<x.length
  ·have hgx:((G i).1.map λx=>AV.int .i64 x)[j]?=some (.int .i64 (gt (G i).1 j)):=by
    simp[gt,List.getD_eq_getElem?_getD,hGl,hlj]
   have c1:=λτ h=>C8 bo (R j).2 bit (qA (G i).1 (kJ up i j)) (gt (G i).1 j) τ h (hrw j).1 hbi (Hb hGi.2.2 _) (eD hGi.2.2 j);have hn:=hrn j;have hRl:=(hrw j).2.1;generalize hr:(R j).2.op Bl.Op.mux bit (qA (G i).1 (kJ up i j)) (gt (G i).1 j)=r at c1 hn;have hbd:(j+1)*8<=35184372088832:=by omega
   have hw:IntKind.i64.wrap ((j:Int)-FAR)=(j:Int)-FAR:=ah _ (by omega) (by omega);have hff:=hfar j;rw[hff] at c1;clear hr hrw hrn hG1 hGi hmw hmn hs hx hy hbi hfar hsh hmin hff;by_cases hk:0<=(j:Int)-FAR/\(j:Int)-FAR<x.length
   ·obtain⟨kk,hkk⟩:∃kk:Nat,(j:Int)-FAR=kk:=⟨((j:Int)-FAR).toNat,by omega⟩
    have hfa:qA (G i).1 ((j:Int)-FAR)=gt (G i).1 kk:=by
     unfold qA;rw[if_pos (by rw[hGl];exact hk),hkk];rfl
    have hkl:kk<x.length:=by omega
    have hgk:((G i).1.map λx=>AV.int .i64 x)[kk]?=some (.int .i64 (gt (G i).1 kk)):=by
     simp[gt,List.getD_eq_getElem?_getD,hGl,hkl]
    rw[hfa] at c1;rw[hkk] at hw;clear hk hfa hFb;have hk0:(kk:Int)≥0:=by omega
    have hk1:(kk:Int)<(x.length:Int):=by omega
    repeat' (first|simp -implicitDefEqProofs -dsimp only[go_sem,seval,List.length_map, *]|simp(disch:=omega) only[ah,aj,ao,aw,ar,ag,au,aq]|refine kc1 (c1 _ ?_) ?_|(with_reducible refine lnx (j+1) ?_;repeat' (first|simp -implicitDefEqProofs -dsimp only[go_sem,seval,aD,List.map_append,List.map_cons,List.map_nil, *]|with_reducible refine And.intro ?_ ?_))|omega)
   ·have hfa:qA (G i).1 ((j:Int)-FAR)=0:=by
     unfold qA;rw[if_neg (by rw[hGl];exact hk)]
    rw[hfa] at c1;obtain⟨KK,hKK⟩:∃K:Int,(j:Int)-FAR=K:=⟨_,rfl⟩;rw[hKK] at hw hk;clear hfa hFb;by_cases hk0:KK≥0
    ·have hk1:¬KK<(x.length:Int):=by omega
     clear hk;repeat' (first|simp -implicitDefEqProofs -dsimp only[go_sem,seval,List.length_map, *]|simp(disch:=omega) only[ah,aj,ao,aw,ar,ag,au,aq]|refine kc1 (c1 _ ?_) ?_|(with_reducible refine lnx (j+1) ?_;repeat' (first|simp -implicitDefEqProofs -dsimp only[go_sem,seval,aD,List.map_append,List.map_cons,List.map_nil, *]|with_reducible refine And.intro ?_ ?_))|omega)
    ·clear hk;repeat' (first|simp -implicitDefEqProofs -dsimp only[go_sem,seval,List.length_map, *]|simp(disch:=omega) only[ah,aj,ao,aw,ar,ag,au,aq]|refine kc1 (c1 _ ?_) ?_|(with_reducible refine lnx (j+1) ?_;repeat' (first|simp -implicitDefEqProofs -dsimp only[go_sem,seval,aD,List.map_append,List.map_cons,List.map_nil, *]|with_reducible refine And.intro ?_ ?_))|omega)
  ·have:j=x.length:=by omega
   subst this;rw[hGl] at hG1;clear hrw hrn hmw hmn hs hx hy hbi hGi hGl hfar hsh hmin;repeat' (first|simp -implicitDefEqProofs -dsimp only[go_sem,seval, *]|simp(disch:=omega) only[ah,aj,ao,aw,ar,ag,au,aq]|(with_reducible refine lnx (i+1) ?_;repeat' (first|simp -implicitDefEqProofs -dsimp only[go_sem,seval,aD, *]|with_reducible refine And.intro ?_ ?_))|omega)
 ·have:i=y.length:=by omega
  subst this;clear hmw hmn hs hx hy;repeat' (first|simp -implicitDefEqProofs -dsimp only[go_sem,seval, *]|refine fin_eq ?_)
end Go.Proofs.YtbbihmmobfmadaaGreat
namespace Go.Proofs.YtbbihmmobfmadaaGreat
open Abs Fil Fil.Bl A
def ed(f:Int->Int->Pg Int)(x y:List Int)(b:Bu)(k:Nat):List Int×Bu:=(eA f x y k).run b
theorem lA(f:Int->Int->Pg Int)(x y:List Int)(b:Bu)(k:Nat):ed f x y b (k+1)=((ed f x y b k).1++[((f (gt x k) (gt y k)).run (ed f x y b k).2).1],((f (gt x k) (gt y k)).run (ed f x y b k).2).2):=by
 show(eA f x y (k+1)).run b=_
 unfold eA;rw[fV,run_bind];rfl
def Mf(f:Int->Int->Pg Int):Prop:=∀(b:Bu) p q,Wf b.g->Wf ((f p q).run b).2.g/\I64 ((f p q).run b).1
theorem jD(op:Bl.Op):Mf (λp q=> .op op p q 0 .ret):=λ_ p q h=>eK h op p q 0
theorem sW(c:Int):Mf (λp q=>GU c p q):=λ_ p q h=>eK h .mux c p q
theorem jE{f:Int->Int->Pg Int}(hf:Mf f){x y:List Int}{b:Bu}(hs:Wf b.g):∀k,Wf (ed f x y b k).2.g/\(ed f x y b k).1.length=k/\∀z∈(ed f x y b k).1,I64 z
 |0=>⟨hs,rfl,λz h=>by simp[ed,eA,iter,Pg.run] at h⟩
 |k+1=>by
  obtain⟨h1,h2,h3⟩:=jE hf (x:=x) (y:=y) hs k;rw[lA];have h4:=hf _ (gt x k) (gt y k) h1;refine⟨h4.1,by simp[h2],λz hz=>?_⟩;rcases List.mem_append.1 hz with hz|hz
  ·exact h3 z hz
  ·obtain rfl:z=_:=by simpa using hz
   exact h4.2
theorem yn{f:Int->Int->Pg Int}{x y:List Int}{b:Bu}:∀k,(ed f x y b k).1=(List.range k).map λi=>((f (gt x i) (gt y i)).run (ed f x y b i).2).1
 |0=>rfl
 |k+1=>by rw[lA,List.range_succ,List.map_append,<-yn k];rfl
theorem nT(f:Int->Int->Pg Int)(hf:Mf f)(fF:Nat)(first caps:List AV)(bo:Nat)(b:Bu)(x y:List Int)(tx ty:Tok)(σ:aA)(h:σ bo=some (co b))(hs:Wf b.g)(hlen:x.length<=y.length)(hxl:x.length<=1000000)
  (hop:∀b τ k,k<x.length->τ bo=some (co b)->Wf b.g->(∀o z,¬o=bo->σ o=some z->τ o=some z)->ACalls Tryz.prog fF (first++[.int .i64 (gt x k), .int .i64 (gt y k)]++caps) τ (λr τ'=>r= .ret (.int .i64 ((f (gt x k) (gt y k)).run b).1)/\τ'=aH τ bo (co ((f (gt x k) (gt y k)).run b).2))):
  C_ 109 [aD x tx,aD y ty, .fn fF first caps] σ (aD (ed f x y b x.length).1 .no) (aH σ bo (co (ed f x y b x.length).2)):=by
 have hz:=C9 x y tx ty fF first caps (λi=>((f (gt x i) (gt y i)).run (ed f x y b i).2).1) (λk=>aH σ bo (co (ed f x y b k).2)) hlen hxl ?_ ?_
 ·rw[<-yn] at hz
  have e0:aH σ bo (co (ed f x y b 0).2)=σ:=by
   funext i
   by_cases hi:i=bo
   ·subst hi;simp only[aH,if_true,h];rfl
   ·simp only[aH,if_neg hi]
  rw[e0] at hz;exact hz
 ·intro k o ho;have a1:¬o=bo:=λe=>by subst e;simp[aH] at ho
  simpa [aH,a1] using ho
 ·intro i hi o z ho;have a1:¬o=bo:=λe=>by subst e;simp[aH] at ho
  have ho':σ o=none:=by simpa [aH,a1] using ho
  refine(hop (ed f x y b i).2 (aH (aH σ bo (co (ed f x y b i).2)) o z) i hi (by simp[aH,Ne.symm a1]) (jE hf hs i).1 (λo' z' h1 h2=>?_)).mono λr σ' ⟨q1,q2⟩=>⟨q1,?_⟩
  ·have:¬o'=o:=λe=>by rw[e,ho'] at h2;simp at h2
   simp[aH,this,h1,h2]
  ·rw[q2,lA];funext j
   by_cases j1:j=o
   ·subst j1;simp[aH,a1]
   by_cases j3:j=bo
   ·subst j3;simp[aH,j1]
   simp[aH,j1,j3]
theorem yo(bo:Nat)(b:Bu)(x y:List Int)(tx ty:Tok)(σ:aA)(h:σ bo=some (co b))(hs:Wf b.g)(hx:∀z∈x,I64 z)(hy:∀z∈y,I64 z)(hlen:x.length<=y.length)(hxl:x.length<=1000000):
  C_ 109 [aD x tx,aD y ty, .fn 98 [.ptr bo 0] []] σ (aD ((eA nC x y x.length).run b).1 .no) (aH σ bo (co ((eA nC x y x.length).run b).2)):=
 nT _ (jD .and) _ _ _ bo b x y tx ty σ h hs hlen hxl λb τ k _ h1 h2 _=>mA bo b _ _ τ h1 h2 (eD hx k) (eD hy k)
theorem Db(bo:Nat)(b:Bu)(x y:List Int)(tx ty:Tok)(σ:aA)(h:σ bo=some (co b))(hs:Wf b.g)(hx:∀z∈x,I64 z)(hy:∀z∈y,I64 z)(hlen:x.length<=y.length)(hxl:x.length<=1000000):
  C_ 109 [aD x tx,aD y ty, .fn 110 [.ptr bo 0] []] σ (aD ((eA GS x y x.length).run b).1 .no) (aH σ bo (co ((eA GS x y x.length).run b).2)):=
 nT _ (jD .or) _ _ _ bo b x y tx ty σ h hs hlen hxl λb τ k _ h1 h2 _=>Is bo b _ _ τ h1 h2 (eD hx k) (eD hy k)
theorem yp(bo:Nat)(b:Bu)(x y:List Int)(tx ty:Tok)(σ:aA)(h:σ bo=some (co b))(hs:Wf b.g)(hx:∀z∈x,I64 z)(hy:∀z∈y,I64 z)(hlen:x.length<=y.length)(hxl:x.length<=1000000):
  C_ 109 [aD x tx,aD y ty, .fn 100 [.ptr bo 0] []] σ (aD ((eA gU x y x.length).run b).1 .no) (aH σ bo (co ((eA gU x y x.length).run b).2)):=
 nT _ (jD .xor) _ _ _ bo b x y tx ty σ h hs hlen hxl λb τ k _ h1 h2 _=>sO bo b _ _ τ h1 h2 (eD hx k) (eD hy k)
theorem Dc(bo o:Nat)(b:Bu)(xs:List Int)(t:Tok)(σ:aA)(h:σ bo=some (co b))(ho:σ o=some (.cells [aD xs t]))(hs:Wf b.g)(hx:∀z∈xs,I64 z)(hl:xs.length<=1000000):
  C_ 96 [.int .i64 1, .fn 162 [] [.ptr o 0], .fn 98 [.ptr bo 0] []] σ (.int .i64 ((il xs).run b).1) (aH σ bo (co ((il xs).run b).2)):=
 sP .and _ bo b 1 xs _ _ σ h hs ⟨by decide,by decide⟩ hx (λτ hτ=>ni o xs t τ hl (hτ _ _ ho)) λb x y τ h hs hx hy=>mA bo b x y τ h hs hx hy
theorem rH(bo o:Nat)(b:Bu)(xs:List Int)(t:Tok)(σ:aA)(h:σ bo=some (co b))(ho:σ o=some (.cells [aD xs t]))(hs:Wf b.g)(hx:∀z∈xs,I64 z)(hl:xs.length<=1000000):
  C_ 96 [.int .i64 1, .fn 166 [] [.ptr o 0], .fn 98 [.ptr bo 0] []] σ (.int .i64 ((il (bk xs)).run b).1) (aH σ bo (co ((il (bk xs)).run b).2)):=
 sP .and _ bo b 1 (bk xs) _ _ σ h hs ⟨by decide,by decide⟩ (nR hx) (λτ hτ=>nj o xs t τ hl hx (hτ _ _ ho)) λb x y τ h hs hx hy=>mA bo b x y τ h hs hx hy
theorem Dd(bo o:Nat)(b:Bu)(xs:List Int)(t:Tok)(σ:aA)(h:σ bo=some (co b))(ho:σ o=some (.cells [aD xs t]))(hs:Wf b.g)(hx:∀z∈xs,I64 z)(hl:xs.length<=1000000):
  C_ 96 [.int .i64 0, .fn 162 [] [.ptr o 0], .fn 100 [.ptr bo 0] []] σ (.int .i64 ((kn gU 0 xs xs.length).run b).1) (aH σ bo (co ((kn gU 0 xs xs.length).run b).2)):=
 sP .xor _ bo b 0 xs _ _ σ h hs ⟨by decide,by decide⟩ hx (λτ hτ=>ni o xs t τ hl (hτ _ _ ho)) λb x y τ h hs hx hy=>sO bo b x y τ h hs hx hy
theorem yq{xs:List Int}{b:Bu}(hs:Wf b.g):Wf ((il xs).run b).2.g/\I64 ((il xs).run b).1:=nQ .and (a:=1) xs hs ⟨by decide,by decide⟩ xs.length
theorem It(bo:Nat)(b:Bu)(op:Int)(a:List Int)(t:Tok)(σ:aA)(h:σ bo=some (co b))(hs:Wf b.g)(ha:∀z∈a,I64 z)(h1:1<=a.length)(hl:a.length<=1000000)(ho:1<=op/\op<=6)(h6:op=6->a.length=1):
  C_ 52 [.ptr bo 0, .int .i64 op,aD a t] σ (aD ((qB op a).run b).1 .no) (aH σ bo (co ((qB op a).run b).2)):=by
 have hu:aH σ bo (co b)=σ:=by
  funext i
  by_cases hi:i=bo
  ·subst hi;simp[aH,h]
  ·simp[aH,hi]
 have c1:=λt τ=>sQ a t τ hl ha;have hc:op=1\/op=2\/op=3\/op=4\/op=5\/op=6:=by omega
 rcases hc with rfl|rfl|rfl|rfl|rfl|rfl
 ·have e:(qB 1 a).run b=(bk a,b):=rfl;rw[e];simp only[hu];clear hu hs ha h1 hl ho h6 e;refine gO [] Tryz.func52 (by kernel_rfl) (by conv=>lhs;reduce;dsimp only[iA]) rfl ?_;repeat' (first|simp -implicitDefEqProofs -dsimp only[go_sem,seval, *]|with_reducible refine kc1 (c1 _ _) ?_|(refine fin_eq ?_;repeat' simp -implicitDefEqProofs -dsimp only[go_sem,seval,aD, *]))
 ·have e:(qB 2 a).run b=(((dp (bk a) (List.replicate a.length 0) 1).run b).1.1,((dp (bk a) (List.replicate a.length 0) 1).run b).2):=by
   show((dp (bk a) (List.replicate a.length 0) 1).bind λr=> .ret r.1).run b=_
   rw[run_bind];rfl
  rw[e];have hnl:(bk a).length=a.length:=by simp[bk]
  have c2:=λty τ h=>pz bo b (bk a) (List.replicate a.length 0) .no ty 1 τ h hs (nR ha) (λz hz=>by rw[(List.mem_replicate.1 hz).2];exact⟨by decide,by decide⟩) ⟨by decide,by decide⟩ (by simp[hnl]) (by omega);simp only[aD,List.map_replicate] at c2;generalize hZ:(dp (bk a) (List.replicate a.length 0) 1).run b=Z at c2|-;have hb:a.length*8<=35184372088832:=by omega
  clear hu hs ha h1 ho h6 e hZ hnl;refine gO [] Tryz.func52 (by kernel_rfl) (by conv=>lhs;reduce;dsimp only[iA]) rfl ?_;repeat' (first|simp -implicitDefEqProofs -dsimp only[go_sem,seval,List.length_map, *]|simp(disch:=omega) only[ah,aj,ao,aw,ar,ag,au,aq]|with_reducible refine Zv ?_ ?_|(with_reducible refine Zt λoF hoF hnF hnF'=>?_;try simp only[aa,ne_eq,not_and] at hoF)|with_reducible refine id_one0 (λtS hS=>c1 _ _) trivial ?_|with_reducible refine id_one1 (λtS hS=>c2 _ _ ?_) ?_ ?_|with_reducible refine Sub.get (by assumption) ?_|(refine fin_eq ?_;repeat' simp -implicitDefEqProofs -dsimp only[go_sem,seval,aD, *])|with_reducible refine And.intro ?_ ?_|omega)
 ·have e:(qB 3 a).run b=([((il a).run b).1],((il a).run b).2):=by
   show((il a).bind λr=> .ret [r]).run b=_
   rw[run_bind];rfl
  rw[e];have c2:=λo τ h ho=>Dc bo o b a t τ h ho hs ha hl;generalize hZ:(il a).run b=Z at c2|-;clear hu hs ha h1 hl ho h6 e hZ c1;refine gO [] Tryz.func52 (by kernel_rfl) (by conv=>lhs;reduce;dsimp only[iA]) rfl ?_;repeat' (first|simp -implicitDefEqProofs -dsimp only[go_sem,seval, *]|simp(disch:=omega) only[ah,aj,ao,aw,ar,ag,au,aq]|with_reducible refine kc1 (c2 _ _ ?_ ?_) ?_|(with_reducible refine ACalls.newO (rF a t _) λoF hoF hnF hnF'=>?_;try simp only[aa,ne_eq,not_and] at hoF)|(refine fin_eq ?_;repeat' simp -implicitDefEqProofs -dsimp only[go_sem,seval,aD,List.map_cons,List.map_nil, *]))
 ·have e:(qB 4 a).run b=([turn ((il (bk a)).run b).1],((il (bk a)).run b).2):=by
   show((il (bk a)).bind λr=> .ret [turn r]).run b=_
   rw[run_bind];rfl
  rw[e];have c2:=λo τ h ho=>rH bo o b a t τ h ho hs ha hl;have hw:=(yq (xs:=bk a) hs).2;generalize hZ:(il (bk a)).run b=Z at c2 hw|-;have hxx:=rG Z.1 hw;clear hu hs ha h1 hl ho h6 e hZ c1 hw;refine gO [] Tryz.func52 (by kernel_rfl) (by conv=>lhs;reduce;dsimp only[iA]) rfl ?_;repeat' (first|simp -implicitDefEqProofs -dsimp only[go_sem,seval, *]|simp(disch:=omega) only[ah,aj,ao,aw,ar,ag,au,aq]|with_reducible refine kc1 (c2 _ _ ?_ ?_) ?_|(with_reducible refine ACalls.newO (mC a t _) λoF hoF hnF hnF'=>?_;try simp only[aa,ne_eq,not_and] at hoF)|(refine fin_eq ?_;repeat' simp -implicitDefEqProofs -dsimp only[go_sem,seval,aD,List.map_cons,List.map_nil, *]))
 ·have e:(qB 5 a).run b=([((kn gU 0 a a.length).run b).1],((kn gU 0 a a.length).run b).2):=by
   show((kn gU 0 a a.length).bind λr=> .ret [r]).run b=_
   rw[run_bind];rfl
  rw[e];have c2:=λo τ h ho=>Dd bo o b a t τ h ho hs ha hl;generalize hZ:(kn gU 0 a a.length).run b=Z at c2|-;clear hu hs ha h1 hl ho h6 e hZ c1;refine gO [] Tryz.func52 (by kernel_rfl) (by conv=>lhs;reduce;dsimp only[iA]) rfl ?_;repeat' (first|simp -implicitDefEqProofs -dsimp only[go_sem,seval, *]|simp(disch:=omega) only[ah,aj,ao,aw,ar,ag,au,aq]|with_reducible refine kc1 (c2 _ _ ?_ ?_) ?_|(with_reducible refine ACalls.newO (rF a t _) λoF hoF hnF hnF'=>?_;try simp only[aa,ne_eq,not_and] at hoF)|(refine fin_eq ?_;repeat' simp -implicitDefEqProofs -dsimp only[go_sem,seval,aD,List.map_cons,List.map_nil, *]))
 ·have e:(qB 6 a).run b=([turn (gt a 0)],b):=rfl;rw[e];simp only[hu];obtain⟨z,rfl⟩:=List.length_eq_one_iff.1 (h6 rfl);have c1:=c1 .no;clear hu hs ha h1 hl ho h6 e;refine gO [] Tryz.func52 (by kernel_rfl) (by conv=>lhs;reduce;dsimp only[iA]) rfl ?_;repeat' (first|simp -implicitDefEqProofs -dsimp only[go_sem,seval,List.map_cons,List.map_nil, *]|with_reducible refine kc1 (ACalls.flA (c1 _) ?_) ?_|(refine fin_eq ?_;repeat' simp -implicitDefEqProofs -dsimp only[go_sem,seval,aD,bk,gt,List.getD_cons_zero, *]))
end Go.Proofs.YtbbihmmobfmadaaGreat
