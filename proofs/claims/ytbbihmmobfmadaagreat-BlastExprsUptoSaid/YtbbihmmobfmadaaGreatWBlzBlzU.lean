/- blast: a statement's arguments, and what the bound gives. -/
import Derived.Test.YtbbihmmobfmadaaGreatRows
import Derived.Test.YtbbihmmobfmadaaGreatWBlzBlzS
import Derived.Test.YtbbihmmobfmadaaGreatWSzArg
set_option linter.unusedSimpArgs false
set_option linter.unusedVariables false
namespace Go.Proofs.YtbbihmmobfmadaaGreat
open Abs Fil Fil.Bl A
def tys:Sz.Tys Tryz.prog where
 i:=3
 u:=33
 b:=4
 s:=9
 e:=36
 es:=34
 t:=160
 ts:=147
 sg:=68
 sgs:=22
 p:=149
 ps:=23
 k:=151
 ks:=24
 hi:=Tryz.underlying3
 hu:=Tryz.underlying33
 hb:=Tryz.underlying4
 hs:=Tryz.underlying9
 he:=⟨_,Tryz.underlying36,rfl⟩
 hes:=Tryz.underlying34
 ht:=⟨_,Tryz.underlying160,rfl⟩
 hts:=Tryz.underlying147
 hsg:=⟨_,Tryz.underlying68,rfl⟩
 hsgs:=Tryz.underlying22
 hp:=⟨_,Tryz.underlying149,rfl⟩
 hps:=Tryz.underlying23
 hk:=⟨_,Tryz.underlying151,rfl⟩
 hks:=Tryz.underlying24
def vw:List TypeId:=[3,4,9,33,22,23,24,26,27,28,29,31,32,34,36,47,68,86,87,147,149,151,160]
theorem EA:iO Tryz.prog vw=true:=by kernel_rfl
theorem Iz:Sz.Str Tryz.prog 26 [22,23,24]:=⟨_,Tryz.underlying26,rfl⟩
theorem IA:Sz.Str Tryz.prog 31 [3,27,28,29]:=⟨_,Tryz.underlying31,rfl⟩
theorem IB:Sz.Str Tryz.prog 86 [3,4]:=⟨_,Tryz.underlying86,rfl⟩
def EB(H:Type):Bulk H where
 B:=Rows.uptoBulk
 BA:=Rows.uptoBulkAll
 lit:=λl=>by cases l<;>simp[Rows.uptoBulk]
 str:=λs=>by simp[Rows.uptoBulk]
 nil:=by simp[Rows.uptoBulk]
 slice:=λl r=>by simp only[Rows.uptoBulk];omega
 agg:=λl=>by simp only[Rows.uptoBulk];omega
 bnil:=by simp[Rows.uptoBulkAll]
 bcons:=λd l=>by simp[Rows.uptoBulkAll]
theorem EC{H:Type}{l:List (DataW H)}(h:Rows.uptoSmall H l=true):(EB H).BA l<=1048576:=by
 simpa [Rows.uptoSmall,EB] using h
theorem iQ{α:Type}{f:α->AV}{p:α->Prop}{P:Program}{g:Nat}{t e:TypeId}{cs:List AV}(hu:P.underlying t=some (.slice e))(hx:∀g x es,eE (Abs.isAgg P e) es=some x->bm P g e es->∃y,x=f y/\p y)(h:bm P g t cs):
  ∃l:List α,cs=[.slice (l.map f) .no]/\∀y∈l,p y:=by
 obtain⟨g',_,l,rfl,_,hl⟩:=Sz.cells_slice hu h
 obtain⟨m,rfl,hm⟩:=Sz.map_of (f:=f) (p:=p) (l:=l) λx hx'=>by
  obtain⟨es,h1,h2⟩:=hl x hx';exact hx _ _ _ h1 h2
 exact⟨m,rfl,hm⟩
theorem IC{g:Nat}{x:AV}{es:List AV}(h1:eE (Abs.isAgg Tryz.prog 3) es=some x)(h2:bm Tryz.prog g 3 es):∃n,x=encInt n/\I64 n:=by
 obtain⟨n,rfl,hn⟩:=Sz.cells_i tys h2;have:Abs.isAgg Tryz.prog 3=false:=by simp only[Abs.isAgg,Tryz.underlying3]
 rw[this] at h1;simp[eE] at h1
 exact⟨n,h1.symm,hn⟩
theorem Mp{g:Nat}{x:AV}{es:List AV}(h1:eE (Abs.isAgg Tryz.prog 4) es=some x)(h2:bm Tryz.prog g 4 es):∃b,x=cP b/\True:=by
 obtain⟨n,rfl⟩:=Sz.cells_bool Tryz.underlying4 h2;have:Abs.isAgg Tryz.prog 4=false:=by simp only[Abs.isAgg,Tryz.underlying4]
 rw[this] at h1;simp[eE] at h1
 exact⟨n,h1.symm,trivial⟩
theorem Mq{g:Nat}{x:AV}{es:List AV}(h1:eE (Abs.isAgg Tryz.prog 29) es=some x)(h2:bm Tryz.prog g 29 es):∃l:List Int,x=aD l .no/\∀z∈l,I64 z:=by
 obtain⟨l,rfl,hl⟩:=iQ (f:=encInt) (p:=I64) Tryz.underlying29 (λg x es=>IC) h2;have:Abs.isAgg Tryz.prog 29=false:=by simp only[Abs.isAgg,Tryz.underlying29]
 rw[this] at h1;simp[eE] at h1
 exact⟨l,h1.symm,hl⟩
theorem Mr{g:Nat}{x:AV}{es:List AV}(h1:eE (Abs.isAgg Tryz.prog 86) es=some x)(h2:bm Tryz.prog g 86 es):∃f:Flop,x=encFlop f/\I64 f.next:=by
 rw[Sz.str_agg IB] at h1;obtain rfl:=Sz.mkv_agg h1
 obtain⟨g',_,a,r,rfl,h3,b,r',rfl,h4,rfl⟩:=Sz.cells_struct IB h2;obtain⟨n,rfl,hn⟩:=Sz.cells_i tys h3;obtain⟨m,rfl⟩:=Sz.cells_bool Tryz.underlying4 h4;exact⟨⟨n,m⟩,rfl,hn⟩
theorem Ms{g:Nat}{x:AV}{es:List AV}(h1:eE (Abs.isAgg Tryz.prog 87) es=some x)(h2:bm Tryz.prog g 87 es):∃y:Int×Int,x=encGate y/\I64 y.1/\I64 y.2:=by
 rw[show Abs.isAgg Tryz.prog 87=true by simp only[Abs.isAgg,Tryz.underlying87]] at h1;obtain rfl:=Sz.mkv_agg h1
 cases g with
 |zero=>exact h2.elim
 |succ g=>
  simp only[bm,Tryz.underlying87] at h2;obtain⟨a,r,rfl,h3,b,r',rfl,h4,rfl⟩:=h2;obtain⟨n,rfl,hn⟩:=Sz.cells_i tys h3;obtain⟨m,rfl,hm⟩:=Sz.cells_i tys h4;exact⟨(n,m),rfl,hn,hm⟩
theorem If{g:Nat}{x:AV}{es:List AV}(h1:eE (Abs.isAgg Tryz.prog 31) es=some x)(h2:bm Tryz.prog g 31 es):∃y:Aig,x=aQ y/\Wide y:=by
 rw[Sz.str_agg IA] at h1;obtain rfl:=Sz.mkv_agg h1
 obtain⟨g',_,a,r,rfl,h3,b,r',rfl,h4,c,r2,rfl,h5,d,r3,rfl,h6,rfl⟩:=Sz.cells_struct IA h2;obtain⟨n,rfl,hn⟩:=Sz.cells_i tys h3;obtain⟨fl,rfl,k1⟩:=iQ (f:=encFlop) (p:=λx:Flop=>I64 x.next) Tryz.underlying27 (λg x es=>Mr) h4;obtain⟨an,rfl,k2⟩:=iQ (f:=encGate) (p:=λx:Int×Int=>I64 x.1/\I64 x.2) Tryz.underlying28 (λg x es=>Ms) h5;obtain⟨ou,rfl,k3⟩:=iQ (f:=encInt) (p:=I64) Tryz.underlying29 (λg x es=>IC) h6;exact⟨⟨n,fl,an,ou⟩,rfl,hn,k1,k2,k3⟩
theorem Mt{g:Nat}{x:AV}{es:List AV}(h1:eE (Abs.isAgg Tryz.prog 32) es=some x)(h2:bm Tryz.prog g 32 es):∃v:List (List Int),x=kQ v .no:=by
 obtain⟨l,rfl,hl⟩:=iQ (f:=λl=>aD l .no) (p:=λl=>∀z∈l,I64 z) Tryz.underlying32 (λg x es=>Mq) h2;have:Abs.isAgg Tryz.prog 32=false:=by simp only[Abs.isAgg,Tryz.underlying32]
 rw[this] at h1;simp[eE] at h1
 exact⟨l,h1.symm⟩
theorem ED{g:Nat}{x:AV}{es:List AV}(h1:eE (Abs.isAgg Tryz.prog 47) es=some x)(h2:bm Tryz.prog g 47 es):∃v:List Bool,x= .slice (v.map cP) .no:=by
 obtain⟨l,rfl,hl⟩:=iQ (f:=cP) (p:=λ_=>True) Tryz.underlying47 (λg x es=>Mp) h2;have:Abs.isAgg Tryz.prog 47=false:=by simp only[Abs.isAgg,Tryz.underlying47]
 rw[this] at h1;simp[eE] at h1
 exact⟨l,h1.symm⟩
theorem Mu{g:Nat}{a:AV}{es:List AV}(h1:eE (Abs.isAgg Tryz.prog 26) es=some a)(h2:bm Tryz.prog g 26 es):∃d,a=Sz.encD d/\Sz.WfD d:=by
 rw[Sz.str_agg Iz] at h1;obtain rfl:=Sz.mkv_agg h1
 obtain⟨d,rfl,hd⟩:=Sz.cells_D tys Iz h2;exact⟨d,rfl,hd⟩
theorem Mw{g:Nat}{a:AV}{es:List AV}(h1:eE (Abs.isAgg Tryz.prog 36) es=some a)(h2:bm Tryz.prog g 36 es):∃e,a=Sz.encE e/\Sz.WfE e:=by
 rw[show Abs.isAgg Tryz.prog 36=true from Sz.str_agg tys.he] at h1;obtain rfl:=Sz.mkv_agg h1
 obtain⟨d,rfl,hd⟩:=Sz.cells_E tys g tys.he h2;exact⟨d,rfl,hd⟩
theorem fH{P:Program}{t:TypeId}{ts:List TypeId}{xs:List AV}(h:mb P (t::ts) xs):∃a ys g es,xs=a::ys/\eE (Abs.isAgg P t) es=some a/\bm P g t es/\mb P ts ys:=by
 cases xs with
 |nil=>exact h.elim
 |cons a ys=>obtain⟨⟨g,es,h1,h2⟩,h3⟩:=h;exact⟨a,ys,g,es,rfl,h1,h2,h3⟩
theorem Bf{P:Program}{xs:List AV}(h:mb P [] xs):xs=[]:=by
 cases xs with
 |nil=>rfl
 |cons a ys=>exact h.elim
theorem Bg{ts:List TypeId}{xs:List AV}(h:mb Tryz.prog (26::31::32::36::ts) xs)(hs:bW xs<=1048576):
  ∃d g v e ys,xs=Sz.encD d::aQ g::kQ v .no::Sz.encE e::ys/\mb Tryz.prog ts ys/\(Sz.WfD d/\S.Sm d)/\Wide g/\v.length<=1048576/\Sz.WfE e/\Sz.nodes e<=1048576:=by
 obtain⟨a,_,_,_,rfl,h1,h2,ha⟩:=fH h;obtain⟨b,_,_,_,rfl,h3,h4,hb⟩:=fH ha;obtain⟨c,_,_,_,rfl,h5,h6,hc⟩:=fH hb;obtain⟨i,ys,_,_,rfl,h7,h8,hk⟩:=fH hc;obtain⟨d,rfl,hd⟩:=Mu h1 h2;obtain⟨g,rfl,hg⟩:=If h3 h4;obtain⟨v,rfl⟩:=Mt h5 h6;obtain⟨e,rfl,he⟩:=Mw h7 h8;simp only[bW] at hs;have hv:=Sz.len_szAs (λl=>aD l .no) v;have hn:=Sz.nodes_sz e;refine⟨d,g,v,e,ys,rfl,hk,⟨hd,Sz.sm_sz ?_⟩,hg,?_,he,?_⟩
 ·have:kT (Sz.encD d)=bW (Sz.dL d)+1:=by simp only[kT]
  omega
 ·have:kT (kQ v .no)=bW (v.map λl=>aD l .no)+1:=by simp only[kT]
  omega
 ·have:kT (Sz.encE e)=bW (Sz.eL e)+1:=by simp only[kT]
  omega
end Go.Proofs.YtbbihmmobfmadaaGreat
