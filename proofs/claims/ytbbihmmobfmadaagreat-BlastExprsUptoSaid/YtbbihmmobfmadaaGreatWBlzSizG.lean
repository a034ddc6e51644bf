/- sized: contracts: signals. -/
import Derived.Shelf.Strconv.Itoa0
import Derived.Test.YtbbihmmobfmadaaGreatWBlzC2
import Derived.Test.YtbbihmmobfmadaaGreatWSzMain
set_option linter.unusedSimpArgs false
set_option linter.unusedVariables false
set_option maxHeartbeats 4000000
set_option maxRecDepth 50000
namespace Go.Proofs.YtbbihmmobfmadaaGreat.S
open Abs Fil Fil.Sz
theorem DS(l m:List E)(hl:l.length<=1000000000000)(hm:m.length<=1000000000000)(σ:aA){F:Nat}(hF:∀x∈l,∀y∈m,∀τ,ACalls Tryz.prog F [encE x,encE y] τ (λr σ'=>r= .ret (.bool (same x y))/\σ'=τ)):
  C_ 143 [.slice (l.map encE) .no, .slice (m.map encE) .no, .fn F [] []] σ (.bool (same l m)) σ:=by
 rw[<-cQ];exact fL (sz:=8) mixed Tryz.func143 b143 n143 rfl q143 (λ_=>rfl) (λ_=>rfl) rfl (λ_=>rfl) same l m hl hm (first:=[]) (caps:=[]) hF
theorem DT(l m:List T)(hl:l.length<=1000000000000)(hm:m.length<=1000000000000)(σ:aA){F:Nat}(hF:∀x∈l,∀y∈m,∀τ,ACalls Tryz.prog F [encT x,encT y] τ (λr σ'=>r= .ret (.bool (same x y))/\σ'=τ)):
  C_ 132 [.slice (l.map encT) .no, .slice (m.map encT) .no, .fn F [] []] σ (.bool (same l m)) σ:=by
 rw[<-cQ];exact fL (sz:=6) mixed Tryz.func132 b132 n132 rfl q132 (λ_=>rfl) (λ_=>rfl) rfl (λ_=>rfl) same l m hl hm (first:=[]) (caps:=[]) hF
theorem Ll(l m:List Pr)(hl:l.length<=1000000000000)(hm:m.length<=1000000000000)(σ:aA){F:Nat}(hF:∀x∈l,∀y∈m,∀τ,ACalls Tryz.prog F [encP x,encP y] τ (λr σ'=>r= .ret (.bool (same x y))/\σ'=τ)):
  C_ 136 [.slice (l.map encP) .no, .slice (m.map encP) .no, .fn F [] []] σ (.bool (same l m)) σ:=by
 rw[<-cQ];exact fL (sz:=2) mixed Tryz.func136 b136 n136 rfl q136 (λ_=>rfl) (λ_=>rfl) rfl (λ_=>rfl) same l m hl hm (first:=[]) (caps:=[]) hF
theorem Lm(l m:List Ck)(hl:l.length<=1000000000000)(hm:m.length<=1000000000000)(σ:aA){F:Nat}(hF:∀x∈l,∀y∈m,∀τ,ACalls Tryz.prog F [encC x,encC y] τ (λr σ'=>r= .ret (.bool (same x y))/\σ'=τ)):
  C_ 137 [.slice (l.map encC) .no, .slice (m.map encC) .no, .fn F [] []] σ (.bool (same l m)) σ:=by
 rw[<-cQ];exact fL (sz:=9) mixed Tryz.func137 b137 n137 rfl q137 (λ_=>rfl) (λ_=>rfl) rfl (λ_=>rfl) same l m hl hm (first:=[]) (caps:=[]) hF
def xu(a b:E):Prop:=b.op=a.op/\b.w=a.w/\b.v=a.v/\b.sig=a.sig/\b.hi=a.hi/\b.lo=a.lo/\b.n=a.n
theorem pT{a b:E}(h:xu a b):same a b=same a.l b.l:=by
 obtain⟨h1,h2,h3,h4,h5,h6,h7⟩:=h;rw[KU];simp[h1,h2,h3,h4,h5,h6,h7]
theorem yO{a b:E}(h:¬xu a b):same a b=false:=by
 rw[fx];rintro rfl;exact h ⟨rfl,rfl,rfl,rfl,rfl,rfl,rfl⟩
theorem lS(a:E):∀(b:E) (σ:aA),nodes a<=16777216->nodes b<=16777216->C_ 72 [encE a,encE b] σ (.bool (same a b)) σ:=by
 refine E.ind (P:=λa=>∀(b:E) (σ:aA),nodes a<=16777216->nodes b<=16777216->C_ 72 [encE a,encE b] σ (.bool (same a b)) σ) (λa ih b σ ha hb=>?_) a;have h1:=encEs_eq a;have h2:=encEs_eq b;have l1:=len_nodes a;have l2:=len_nodes b;have hE:=λτ=>DS a.l b.l (by omega) (by omega) τ (F:=72) (λx hx y hy τ=>ih x hx y τ (by have:=part_nodes hx;omega) (by have:=part_nodes hy;omega));clear ih;refine gO [2,3] Tryz.func72 (by kernel_rfl) (by conv=>lhs;reduce;dsimp only[iA]) rfl ?_;by_cases h:xu a b
 ·have hs:=pT h;obtain⟨e1,e2,e3,e4,e5,e6,e7⟩:=h;repeat' (first|simp -implicitDefEqProofs -dsimp only[go_sem,seval,beq_self_eq_true, *]|refine kc1 (hE _) ?_|refine fin_eq ?_)
 ·have hs:=yO h;unfold xu at h;repeat' (first|simp -implicitDefEqProofs -dsimp only[go_sem,seval, *]|simp(disch:=omega) only[ah,aj,ao,aw,ar,ag,au,aq]|(with_reducible (first|apply Za|apply Zb|apply Zc|apply Zd|apply Ze|apply Zf|apply Zg|apply Zh|apply Zi|apply Zj|apply Zk|apply Zl|apply Zm|apply Zn|apply Zo|apply Zp|apply Zq|apply Zr|apply Zs)<;>intro hq)|refine kc1 (hE _) ?_|omega)
  all_goals first|(exfalso;apply h;omega)|skip
  all_goals
   refine fin_eq ?_;(repeat' simp -implicitDefEqProofs -dsimp only[go_sem,seval, *])
theorem pU(a:E):∀(b:E) (σ:aA),nodes a<=16777216->nodes b<=16777216->C_ 85 [encE a,encE b] σ (.bool (same a b)) σ:=by
 refine E.ind (P:=λa=>∀(b:E) (σ:aA),nodes a<=16777216->nodes b<=16777216->C_ 85 [encE a,encE b] σ (.bool (same a b)) σ) (λa ih b σ ha hb=>?_) a;have h1:=encEs_eq a;have h2:=encEs_eq b;have l1:=len_nodes a;have l2:=len_nodes b;have hE:=fun(x:E) (hx:x∈a.l) (y:E) (hy:y∈b.l) τ=>ih x hx y τ (by have:=part_nodes hx;omega) (by have:=part_nodes hy;omega);clear ih;refine gO [2,3] Tryz.func85 (by kernel_rfl) (by conv=>lhs;reduce;dsimp only[iA]) rfl ?_;by_cases h:xu a b/\b.l.length=a.l.length
 ·obtain⟨h,hlen⟩:=h;have hs:=pT h;rw[<-cQ] at hs;have hlb:((a.l.length:Int) != (b.l.length:Int))=false:=by simp[hlen]
  have hyes:=fZ (p:=same) hlen.symm;obtain⟨e1,e2,e3,e4,e5,e6,e7⟩:=h;repeat' simp -implicitDefEqProofs -dsimp only[go_sem,seval,bne_self_eq_false, *]
  refine loop_rule (λi:Nat=>[(5,some (.int .i64 i)),(2,some (.cptr (eL a))),(3,some (.cptr (eL b)))]) (λ_=>σ)
   (λi=>i<=a.l.length/\∀j,(h1:j<a.l.length)->(h2:j<b.l.length)->j<i->same a.l[j] b.l[j]=true) (λi=>a.l.length-i) 0 ?_ ?_
  ·clear hyes hE;(repeat' (first|simp -implicitDefEqProofs -dsimp only[go_sem,seval, *]|with_reducible refine And.intro ?_ ?_|omega))
  ·rintro i ⟨hi,hok⟩;by_cases hlt:i<a.l.length
   ·have hlt2:i<b.l.length:=by omega
    have hc:=λτ=>hE a.l[i] (List.getElem_mem hlt) b.l[i] (List.getElem_mem hlt2) τ;have hf:=eM (p:=same) hlt hlt2
    have hstep:same a.l[i] b.l[i]=true->∀j,(h1:j<a.l.length)->(h2:j<b.l.length)->j<i+1->same a.l[j] b.l[j]=true:=λhp j h1 h2 h=>by
     rcases Nat.lt_or_ge j i with h'|h'
     ·exact hok j h1 h2 h'
     ·obtain rfl:j=i:=by omega
      exact hp
    clear hE hok hyes;repeat' (first|simp -implicitDefEqProofs -dsimp only[go_sem,seval, *]|simp(disch:=omega) only[ah,aj,ao,aw,ar,ag,au,aq]|(with_reducible (first|apply Za|apply Zb|apply Zc|apply Zd|apply Ze|apply Zf|apply Zg|apply Zh|apply Zi|apply Zj|apply Zk|apply Zl|apply Zm|apply Zn|apply Zo|apply Zp|apply Zq|apply Zr|apply Zs)<;>intro hq)|with_reducible refine Zu ?_ ?_|with_reducible refine id_one0 (λtS hS=>hc _) trivial ?_)
    ·have hn:=hstep hq;refine lnx (i+1) ?_;(repeat' (first|simp -implicitDefEqProofs -dsimp only[go_sem,seval, *]|with_reducible refine And.intro ?_ ?_|omega))
     exact λj h1 h2 h=>hn j h1 (by omega) h
    ·have he:=hf hq;refine fin_eq ?_;(repeat' simp -implicitDefEqProofs -dsimp only[go_sem,seval, *])
   ·have he:=hyes λj h1 h2=>hok j h1 h2 (by omega);repeat' (first|simp -implicitDefEqProofs -dsimp only[go_sem,seval, *]|refine fin_eq ?_)
 ·have hs:same a b=false:=by
   by_cases hf:xu a b
   ·rw[pT hf,<-cQ];exact lG λhl=>h ⟨hf,hl.symm⟩
   ·exact yO hf
  unfold xu at h;repeat' (first|simp -implicitDefEqProofs -dsimp only[go_sem,seval, *]|simp(disch:=omega) only[ah,aj,ao,aw,ar,ag,au,aq]|(with_reducible (first|apply Za|apply Zb|apply Zc|apply Zd|apply Ze|apply Zf|apply Zg|apply Zh|apply Zi|apply Zj|apply Zk|apply Zl|apply Zm|apply Zn|apply Zo|apply Zp|apply Zq|apply Zr|apply Zs)<;>intro hq)|omega)
  all_goals first|(refine fin_eq ?_;(repeat' simp -implicitDefEqProofs -dsimp only[go_sem,seval, *]);done)|skip
  all_goals
   exfalso;apply h;simp only[bne_eq_false_iff_eq] at*;omega
end Go.Proofs.YtbbihmmobfmadaaGreat.S
namespace Go.Proofs.YtbbihmmobfmadaaGreat.S
open Abs Fil Fil.Sz
def xx(a b:T):Prop:=b.op=a.op/\b.sig=a.sig/\b.hi=a.hi/\b.lo=a.lo
theorem pV{a b:T}(h:xx a b):same a b=(same a.e b.e&&same a.l b.l):=by
 obtain⟨h1,h2,h3,h4⟩:=h;rw[KV];simp[h1,h2,h3,h4]
theorem yP{a b:T}(h:¬xx a b):same a b=false:=by
 rw[fx];rintro rfl;exact h ⟨rfl,rfl,rfl,rfl⟩
theorem DU(a:T):∀(b:T) (σ:aA),nodesT a<=16777216->nodesT b<=16777216->C_ 133 [encT a,encT b] σ (.bool (same a b)) σ:=by
 refine T.ind (P:=λa=>∀(b:T) (σ:aA),nodesT a<=16777216->nodesT b<=16777216->C_ 133 [encT a,encT b] σ (.bool (same a b)) σ) (λa ih b σ ha hb=>?_) a;have h1:=bA a;have h2:=bA b;have l1:=bS a;have l2:=bS b;have l3:=dr a;have l4:=dr b;have hE:=λτ=>DS a.e b.e (by omega) (by omega) τ (F:=72) (λx hx y hy τ=>lS x y τ (by have:=bC hx;omega) (by have:=bC hy;omega));have hT:=λτ=>DT a.l b.l (by omega) (by omega) τ (F:=133) (λx hx y hy τ=>ih x hx y τ (by have:=ci hx;omega) (by have:=ci hy;omega));clear ih;refine gO [2,3] Tryz.func133 (by kernel_rfl) (by conv=>lhs;reduce;dsimp only[iA]) rfl ?_;by_cases h:xx a b
 ·have hs:=pV h;obtain⟨e1,e2,e3,e4⟩:=h;obtain⟨p,hp⟩:∃p,same a.e b.e=p:=⟨_,rfl⟩;obtain⟨q,hq⟩:∃p,same a.l b.l=p:=⟨_,rfl⟩;rw[hp] at hs hE;rw[hq] at hs hT;cases p
  all_goals
   repeat' (first|simp -implicitDefEqProofs -dsimp only[go_sem,seval,beq_self_eq_true, *]|refine kc1 (hE _) ?_|refine kc1 (hT _) ?_|(refine fin_eq ?_;repeat' simp -implicitDefEqProofs -dsimp only[go_sem,seval,Bool.true_and,Bool.false_and, *]))
 ·have hs:=yP h;unfold xx at h;repeat' (first|simp -implicitDefEqProofs -dsimp only[go_sem,seval, *]|simp(disch:=omega) only[ah,aj,ao,aw,ar,ag,au,aq]|(with_reducible (first|apply Za|apply Zb|apply Zc|apply Zd|apply Ze|apply Zf|apply Zg|apply Zh|apply Zi|apply Zj|apply Zk|apply Zl|apply Zm|apply Zn|apply Zo|apply Zp|apply Zq|apply Zr|apply Zs)<;>intro hq)|refine kc1 (hE _) ?_|refine kc1 (hT _) ?_|omega)
  all_goals first|(exfalso;apply h;omega)|skip
  all_goals
   refine fin_eq ?_;(repeat' simp -implicitDefEqProofs -dsimp only[go_sem,seval, *])
theorem DV(p q:Pr)(σ:aA)(hp:aZ p<=16777216)(hq:aZ q<=16777216):C_ 131 [encP p,encP q] σ (.bool (same p q)) σ:=by
 have l1:=cq bG p.l;have l2:=cq bG q.l;unfold aZ at hp hq;have hT:=λτ=>DT p.l q.l (by omega) (by omega) τ (F:=133) (λx hx y hy τ=>DU x y τ (by have:=bu (f:=nodesT) hx;omega) (by have:=bu (f:=nodesT) hy;omega));have hs:=Ds p q;refine gO [2,3] Tryz.func131 (by kernel_rfl) (by conv=>lhs;reduce;dsimp only[iA]) rfl ?_
 have hb:(p.clk==q.clk)=decide (p.clk=q.clk):=by
  rw[Bool.eq_iff_iff];simp
 generalize hc:decide (p.clk=q.clk)=c at hs hb;cases c<;>simp only[Bool.true_and,Bool.false_and] at hs
 all_goals
  repeat' (first|simp -implicitDefEqProofs -dsimp only[go_sem,seval, *]|refine kc1 (hT _) ?_|refine fin_eq ?_)
theorem DW(p q:Ck)(σ:aA)(hp:nodes p.e<=16777216)(hq:nodes q.e<=16777216):C_ 134 [encC p,encC q] σ (.bool (same p q)) σ:=by
 have hE:=λτ=>lS p.e q.e τ hp hq;have hs:=Dt p q
 have hb:(p.name.toList==q.name.toList)=decide (p.name=q.name):=by
  rw[Bool.eq_iff_iff];simp[lH]
 refine gO [2,3] Tryz.func134 (by kernel_rfl) (by conv=>lhs;reduce;dsimp only[iA]) rfl ?_;generalize hc:decide (p.name=q.name)=c at hs hb;cases c<;>simp only[Bool.true_and,Bool.false_and] at hs
 all_goals
  repeat' (first|simp -implicitDefEqProofs -dsimp only[go_sem,seval, *]|refine kc1 (hE _) ?_|refine fin_eq ?_)
theorem DX(s t:Sg):(s.name.toList==t.name.toList&&(s.w==t.w&&(s.kind==t.kind&&s.init==t.init)))=same s t:=by
 rw[KW];have:(s.name.toList==t.name.toList)=decide (s.name=t.name):=by rw[Bool.eq_iff_iff];simp[lH]
 rw[this];simp only[Bool.and_assoc];rfl
theorem AP(l m:List Sg)(σ:aA)(hl:l.length<=1000000000000)(hm:m.length<=1000000000000):C_ 135 [.slice (l.map encS) .no, .slice (m.map encS) .no] σ (.bool (same l m)) σ:=by
 rw[<-cQ];refine cI mixed Tryz.func135 b135 n135 rfl q135 (by simp) ?_;unfold c135 r135;by_cases hlen:m.length=l.length
 ·have hb:((l.length:Int) != (m.length:Int))=false:=by simp[hlen]
  have hyes:=fZ (p:=same) hlen.symm;repeat' simp -implicitDefEqProofs -dsimp only[go_sem,seval, *]
  refine loop_rule (λi:Nat=>[(13,some (.int .i64 i)),(12,some (.int .i64 l.length)),(0,some (.slice (l.map encS) .no)),(1,some (.slice (m.map encS) .no))]) (λ_=>σ)
   (λi=>i<=l.length/\∀j,(h1:j<l.length)->(h2:j<m.length)->j<i->same l[j] m[j]=true) (λi=>l.length-i) 0 ?_ ?_
  ·clear hyes;(repeat' (first|simp -implicitDefEqProofs -dsimp only[go_sem,seval, *]|with_reducible refine And.intro ?_ ?_|omega))
  ·rintro i ⟨hi,hok⟩;by_cases hlt:i<l.length
   ·have hlt2:i<m.length:=by omega
    have he:=DX l[i] m[i];have hf:=eM (p:=same) hlt hlt2
    have hstep:same l[i] m[i]=true->∀j,(h1:j<l.length)->(h2:j<m.length)->j<i+1->same l[j] m[j]=true:=λhp j h1 h2 h=>by
     rcases Nat.lt_or_ge j i with h'|h'
     ·exact hok j h1 h2 h'
     ·obtain rfl:j=i:=by omega
      exact hp
    clear hok hyes;repeat' (first|simp -implicitDefEqProofs -dsimp only[go_sem,seval, *]|simp(disch:=omega) only[ah,aj,ao,aw,ar,ag,au,aq]|(with_reducible (first|apply Za|apply Zb|apply Zc|apply Zd|apply Ze|apply Zf|apply Zg|apply Zh|apply Zi|apply Zj|apply Zk|apply Zl|apply Zm|apply Zn|apply Zo|apply Zp|apply Zq|apply Zr|apply Zs)<;>intro hq)|with_reducible refine Zu ?_ ?_)
    ·have hn:=hstep hq;refine lnx (i+1) ?_;(repeat' (first|simp -implicitDefEqProofs -dsimp only[go_sem,seval, *]|with_reducible refine And.intro ?_ ?_|omega))
     exact λj h1 h2 h=>hn j h1 (by omega) h
    ·have he:=hf hq;refine fin_eq ?_;(repeat' simp -implicitDefEqProofs -dsimp only[go_sem,seval, *])
   ·have he:=hyes λj h1 h2=>hok j h1 h2 (by omega);repeat' (first|simp -implicitDefEqProofs -dsimp only[go_sem,seval, *]|refine fin_eq ?_)
 ·have hb:((l.length:Int) != (m.length:Int))=true:=by simp only[bne_iff_ne,ne_eq];omega
  have he:=lG (p:=same) (λh:l.length=m.length=>hlen h.symm);repeat' (first|simp -implicitDefEqProofs -dsimp only[go_sem,seval, *]|refine fin_eq ?_)
def Sm(d:Flat):Prop:=d.sigs.length<=16777216/\d.procs.length<=16777216/\d.chks.length<=16777216/\nodesD d<=16777216
theorem hO{d:Flat}(h:Sm d){p:Pr}(hp:p∈d.procs):aZ p<=16777216:=by
 obtain⟨_,_,_,h⟩:=h;unfold nodesD at h;have:=bu (f:=aZ) hp;omega
theorem jL{d:Flat}(h:Sm d){c:Ck}(hc:c∈d.chks):nodes c.e<=16777216:=by
 obtain⟨_,_,_,h⟩:=h;unfold nodesD at h;have:=bu (f:=λc:Ck=>nodes c.e) hc;omega
theorem HK(a b:Flat)(σ:aA)(ha:Sm a)(hb:Sm b):C_ 70 [encD a,encD b] σ (.bool (same a b)) σ:=by
 have c1:=λτ=>AP a.sigs b.sigs τ (by have:=ha.1;omega) (by have:=hb.1;omega);have c2:=λτ=>Ll a.procs b.procs (by have:=ha.2.1;omega) (by have:=hb.2.1;omega) τ (F:=131) (λx hx y hy τ=>DV x y τ (hO ha hx) (hO hb hy));have c3:=λτ=>Lm a.chks b.chks (by have:=ha.2.2.1;omega) (by have:=hb.2.2.1;omega) τ (F:=134) (λx hx y hy τ=>DW x y τ (jL ha hx) (jL hb hy));have hs:=Du a b;obtain⟨p,hp⟩:∃p,same a.sigs b.sigs=p:=⟨_,rfl⟩;obtain⟨q,hq⟩:∃p,same a.procs b.procs=p:=⟨_,rfl⟩;rw[hp] at hs c1;rw[hq] at hs c2;clear ha hb hp hq;refine gO [2,3] Tryz.func70 (by kernel_rfl) (by conv=>lhs;reduce;dsimp only[iA]) rfl ?_;cases p<;>cases q<;>simp only[Bool.true_and,Bool.false_and] at hs
 all_goals
  repeat' (first|simp -implicitDefEqProofs -dsimp only[go_sem,seval, *]|refine kc1 (c1 _) ?_|refine kc1 (c2 _) ?_|refine kc1 (c3 _) ?_|refine fin_eq ?_)
def Ix(a b:T):Prop:=xx a b/\b.e.length=a.e.length
theorem lT{α β:Type}{l:List α}{m:List β}(h:m.length=l.length):((l.length:Int) != (m.length:Int))=false:=by simp[h]
theorem DY{α β:Type}{l:List α}{m:List β}(h:¬m.length=l.length):((l.length:Int) != (m.length:Int))=true:=by simp only[bne_iff_ne,ne_eq];omega
theorem uS{α β:Type}{l:List α}{m:List β}{p:α->β->Prop}{i:Nat}(hi:i<l.length)(hm:m.length=l.length)
  (hok:∀j,(h1:j<l.length)->(h2:j<m.length)->j<i->p l[j] m[j])(hp:p l[i] (m[i]'(by omega))):∀j,(h1:j<l.length)->(h2:j<m.length)->j<i+1->p l[j] m[j]:=λj h1 h2 h=>by
 rcases Nat.lt_or_ge j i with h'|h'
 ·exact hok j h1 h2 h'
 ·obtain rfl:j=i:=by omega
  exact hp
theorem kq(l:List T)(hl:(l.map nodesT).sum<=16777216)(ih:∀t∈l,∀(m:List T) (τ:aA),(m.map nodesT).sum<=16777216->C_ 152 [.slice (t.l.map encT) .no, .slice (m.map encT) .no] τ (.bool (same t.l m)) τ)
  (m:List T)(hm:(m.map nodesT).sum<=16777216)(σ:aA):C_ 152 [.slice (l.map encT) .no, .slice (m.map encT) .no] σ (.bool (same l m)) σ:=by
 have l1:=cq bG l;have l2:=cq bG m;rw[<-cQ];refine gO [] Tryz.func152 (by kernel_rfl) (by conv=>lhs;reduce;dsimp only[iA]) rfl ?_;by_cases hlen:m.length=l.length
 ·have hb:=lT hlen;have hyes:=fZ (p:=same) hlen.symm;repeat' (first|simp -implicitDefEqProofs -dsimp only[go_sem,seval, *]|simp(disch:=omega) only[ah,aj,ao,aw,ar,ag,au,aq])
  refine loop_rule (λi:Nat=>[(5,some (.int .i64 i)),(0,some (.slice (l.map encT) .no)),(1,some (.slice (m.map encT) .no))]) (λ_=>σ)
   (λi=>i<=l.length/\∀j,(h1:j<l.length)->(h2:j<m.length)->j<i->same l[j] m[j]=true) (λi=>l.length-i) 0 ?_ ?_
  ·clear hyes ih;(repeat' (first|simp -implicitDefEqProofs -dsimp only[go_sem,seval, *]|with_reducible refine And.intro ?_ ?_|omega))
  ·rintro i ⟨hi,hok⟩;by_cases hlt:i<l.length
   ·have hlt2:i<m.length:=by omega
    have hx:=bA l[i];have hy:=bA m[i];have nx:=bu (f:=nodesT) (List.getElem_mem hlt);have ny:=bu (f:=nodesT) (List.getElem_mem hlt2);have x1:=bS l[i];have y1:=bS m[i];have hc:=λτ=>ih l[i] (List.getElem_mem hlt) m[i].l τ (by have:=bR m[i];omega);have hE:=fun(a:E) (ha:a∈l[i].e) (b:E) (hb:b∈m[i].e) τ=>pU a b τ (by have:=bC ha;omega) (by have:=bC hb;omega);have hf:=eM (p:=same) hlt hlt2;have hstep:=λh=>uS (p:=λa b=>same a b=true) hlt hlen hok h;clear hok hyes ih;by_cases hF:Ix l[i] m[i]
    ·obtain⟨hF,hle⟩:=hF;have hs:=pV hF;rw[<-cQ l[i].e] at hs;have hb2:=lT hle;obtain⟨e1,e2,e3,e4⟩:=hF;generalize hq:same l[i].l m[i].l=q at hs hc;cases q with
     |false=>
      rw[Bool.and_false] at hs;have he:=hf hs;repeat' (first|simp -implicitDefEqProofs -dsimp only[go_sem,seval,bne_self_eq_false, *]|with_reducible refine Zu ?_ ?_|(with_reducible refine Zt λoF hoF hnF hnF'=>?_;try simp only[aa,ne_eq,not_and] at hoF)|refine kc1 (hc _) ?_|refine fin_eq ?_)
     |true=>
      rw[Bool.and_true] at hs;have eyes:=fZ (p:=same) hle.symm;repeat' (first|simp -implicitDefEqProofs -dsimp only[go_sem,seval,bne_self_eq_false, *]|with_reducible refine Zu ?_ ?_|(with_reducible refine Zt λoF hoF hnF hnF'=>?_;try simp only[aa,ne_eq,not_and] at hoF)|refine kc1 (hc _) ?_)
      rename_i ox hox nx1 nx2
      obtain⟨oy,eoy⟩:∃x,x=oF:=⟨oF,rfl⟩;subst eoy;obtain⟨n1,hoy⟩:=hoF;have n2:¬ox=oy:=λe=>n1 e.symm;clear nx1 nx2 hnF hnF' hc
      refine loop_rule (λk:Nat=>[(8,some (.int .i64 k)),(6,some (.ptr ox 0)),(7,some (.ptr oy 0)),(5,some (.int .i64 i)),(0,some (.slice (l.map encT) .no)),(1,some (.slice (m.map encT) .no))])
       (λ_=>aH (aH σ ox (.cells [.int .i64 l[i].op, .int .i64 l[i].sig, .int .i64 l[i].hi, .int .i64 l[i].lo, .slice (l[i].e.map encE) .no, .slice (l[i].l.map encT) .no])) oy (.cells [.int .i64 m[i].op, .int .i64 m[i].sig, .int .i64 m[i].hi, .int .i64 m[i].lo, .slice (m[i].e.map encE) .no, .slice (m[i].l.map encT) .no]))
       (λk=>k<=l[i].e.length/\∀j,(h1:j<l[i].e.length)->(h2:j<m[i].e.length)->j<k->same l[i].e[j] m[i].e[j]=true) (λk=>l[i].e.length-k) 0 ?_ ?_
      ·clear hE eyes hstep hf;(repeat' (first|simp -implicitDefEqProofs -dsimp only[go_sem,seval, *]|with_reducible refine And.intro ?_ ?_|omega))
      ·rintro k ⟨hk,hokk⟩;by_cases hkt:k<l[i].e.length
       ·have hkt2:k<m[i].e.length:=by omega
        have hc:=λτ=>hE l[i].e[k] (List.getElem_mem hkt) m[i].e[k] (List.getElem_mem hkt2) τ;have hf2:=eM (p:=same) hkt hkt2;have hstep2:=λh=>uS (p:=λa b=>same a b=true) hkt hle hokk h;clear hE hokk eyes hstep;repeat' (first|simp -implicitDefEqProofs -dsimp only[go_sem,seval, *]|simp(disch:=omega) only[ah,aj,ao,aw,ar,ag,au,aq]|(with_reducible (first|apply Za|apply Zb|apply Zc|apply Zd|apply Ze|apply Zf|apply Zg|apply Zh|apply Zi|apply Zj|apply Zk|apply Zl|apply Zm|apply Zn|apply Zo|apply Zp|apply Zq|apply Zr|apply Zs)<;>intro hq)|with_reducible refine Zu ?_ ?_|with_reducible refine id_one0 (λtS hS=>hc _) trivial ?_)
        ·have hn:=hstep2 hq;refine lnx (k+1) ?_;(repeat' (first|simp -implicitDefEqProofs -dsimp only[go_sem,seval, *]|with_reducible refine And.intro ?_ ?_|omega))
         exact λj h1 h2 h=>hn j h1 (by omega) h
        ·have he:=hf (by rw[hs];exact hf2 hq);refine fin_eq ?_;(repeat' simp -implicitDefEqProofs -dsimp only[go_sem,seval, *])
       ·have hn:=hstep (by rw[hs];exact eyes λj h1 h2=>hokk j h1 h2 (by omega));clear hE hokk eyes hstep hf;repeat' (first|simp -implicitDefEqProofs -dsimp only[go_sem,seval, *]|simp(disch:=omega) only[ah,aj,ao,aw,ar,ag,au,aq]|with_reducible refine lnx (i+1) ?_|with_reducible refine And.intro ?_ ?_|omega)
        exact λj h1 h2 h=>hn j h1 (by omega) h
    ·have hs:same l[i] m[i]=false:=by
      by_cases hF2:xx l[i] m[i]
      ·rw[pV hF2,<-cQ,lG (λhl=>hF ⟨hF2,hl.symm⟩),Bool.false_and]
      ·exact yP hF2
     have he:=hf hs;unfold Ix xx at hF;repeat' (first|simp -implicitDefEqProofs -dsimp only[go_sem,seval, *]|(with_reducible (first|apply Za|apply Zb|apply Zc|apply Zd|apply Ze|apply Zf|apply Zg|apply Zh|apply Zi|apply Zj|apply Zk|apply Zl|apply Zm|apply Zn|apply Zo|apply Zp|apply Zq|apply Zr|apply Zs)<;>intro hq)|with_reducible refine Zu ?_ ?_|(with_reducible refine Zt λoF hoF hnF hnF'=>?_;try simp only[aa,ne_eq,not_and] at hoF)|refine kc1 (hc _) ?_|omega)
     all_goals first|(exfalso;apply hF;clear hc hE;omega)|skip
     all_goals
      refine fin_eq ?_;(repeat' simp -implicitDefEqProofs -dsimp only[go_sem,seval, *])
   ·have he:=hyes λj h1 h2=>hok j h1 h2 (by omega);repeat' (first|simp -implicitDefEqProofs -dsimp only[go_sem,seval, *]|refine fin_eq ?_)
 ·have hb:=DY hlen;have he:=lG (p:=same) (λh:l.length=m.length=>hlen h.symm);repeat' (first|simp -implicitDefEqProofs -dsimp only[go_sem,seval, *]|refine fin_eq ?_)
theorem fz(t:T):(t.l.map nodesT).sum<nodesT t:=by rw[bR t];omega
theorem DZ(l m:List T)(σ:aA)(hl:(l.map nodesT).sum<=16777216)(hm:(m.map nodesT).sum<=16777216):
  C_ 152 [.slice (l.map encT) .no, .slice (m.map encT) .no] σ (.bool (same l m)) σ:=by
 have key:∀t:T,nodesT t<=16777216->∀(m:List T) (τ:aA),(m.map nodesT).sum<=16777216->C_ 152 [.slice (t.l.map encT) .no, .slice (m.map encT) .no] τ (.bool (same t.l m)) τ:=λt=>by
  refine T.ind (P:=λt=>nodesT t<=16777216->∀(m:List T) (τ:aA),(m.map nodesT).sum<=16777216->C_ 152 [.slice (t.l.map encT) .no, .slice (m.map encT) .no] τ (.bool (same t.l m)) τ) (λt ih ht m τ hm=>?_) t;exact kq t.l (by have:=fz t;omega) (λx hx=>ih x hx (by have:=ci hx;omega)) m hm τ
 exact kq l hl (λt ht=>key t (by have:=bu (f:=nodesT) ht;omega)) m hm σ
theorem HL(a b:Flat)(σ:aA)(ha:Sm a)(hb:Sm b):C_ 83 [encD a,encD b] σ (.bool (same a b)) σ:=by
 have c2:=fun(x:Pr) (hx:x∈a.procs) (y:Pr) (hy:y∈b.procs) τ=>DZ x.l y.l τ (by have:=hO ha hx;exact this) (by have:=hO hb hy;exact this);have c3:=fun(x:Ck) (hx:x∈a.chks) (y:Ck) (hy:y∈b.chks) τ=>pU x.e y.e τ (jL ha hx) (jL hb hy);have hs:=Du a b;obtain⟨a1,a2,a3,_⟩:=ha;obtain⟨b1,b2,b3,_⟩:=hb;rw[<-cQ a.sigs,<-cQ a.procs,<-cQ a.chks] at hs;refine cI mixed Tryz.func83 b83 n83 rfl q83 (by simp) ?_;unfold c83 r83;by_cases hlen:b.sigs.length=a.sigs.length/\b.procs.length=a.procs.length/\b.chks.length=a.chks.length
 ·obtain⟨h1,h2,h3⟩:=hlen;have q1:=lT h1;have q2:=lT h2;have q3:=lT h3;repeat' simp -implicitDefEqProofs -dsimp only[go_sem,seval, *]
  refine loop_rule (λi:Nat=>[(5,some (.int .i64 i)),(2,some (.cptr (dL a))),(3,some (.cptr (dL b)))]) (λ_=>σ)
   (λi=>i<=a.sigs.length/\∀j,(h1:j<a.sigs.length)->(h2:j<b.sigs.length)->j<i->same a.sigs[j] b.sigs[j]=true) (λi=>a.sigs.length-i) 0 ?_ ?_
  ·clear c2 c3;(repeat' (first|simp -implicitDefEqProofs -dsimp only[go_sem,seval, *]|with_reducible refine And.intro ?_ ?_|omega))
  ·rintro i ⟨hi,hok⟩;by_cases hlt:i<a.sigs.length
   ·have hlt2:i<b.sigs.length:=by omega
    have he:=DX a.sigs[i] b.sigs[i];have hf:=eM (p:=same) hlt hlt2;have hstep:=λh=>uS (p:=λa b=>same a b=true) hlt h1 hok h;clear hok c2 c3;repeat' (first|simp -implicitDefEqProofs -dsimp only[go_sem,seval, *]|simp(disch:=omega) only[ah,aj,ao,aw,ar,ag,au,aq]|(with_reducible (first|apply Za|apply Zb|apply Zc|apply Zd|apply Ze|apply Zf|apply Zg|apply Zh|apply Zi|apply Zj|apply Zk|apply Zl|apply Zm|apply Zn|apply Zo|apply Zp|apply Zq|apply Zr|apply Zs)<;>intro hq)|with_reducible refine Zu ?_ ?_)
    ·have hn:=hstep hq;refine lnx (i+1) ?_;(repeat' (first|simp -implicitDefEqProofs -dsimp only[go_sem,seval, *]|with_reducible refine And.intro ?_ ?_|omega))
     exact λj h1 h2 h=>hn j h1 (by omega) h
    ·rw[hf hq,Bool.false_and,Bool.false_and] at hs;refine fin_eq ?_;(repeat' simp -implicitDefEqProofs -dsimp only[go_sem,seval, *])
   ·have e1:=fZ (p:=same) h1.symm λj h1 h2=>hok j h1 h2 (by omega);rw[e1,Bool.true_and] at hs;clear hok;repeat' simp -implicitDefEqProofs -dsimp only[go_sem,seval, *]
    refine loop_rule (λi:Nat=>[(6,some (.int .i64 i)),(2,some (.cptr (dL a))),(3,some (.cptr (dL b)))]) (λ_=>σ)
     (λi=>i<=a.procs.length/\∀j,(h1:j<a.procs.length)->(h2:j<b.procs.length)->j<i->same a.procs[j] b.procs[j]=true) (λi=>a.procs.length-i) 0 ?_ ?_
    ·clear c2 c3;(repeat' (first|simp -implicitDefEqProofs -dsimp only[go_sem,seval, *]|with_reducible refine And.intro ?_ ?_|omega))
    ·rintro k ⟨hk,hok⟩;by_cases hkt:k<a.procs.length
     ·have hkt2:k<b.procs.length:=by omega
      have hc:=λτ=>c2 a.procs[k] (List.getElem_mem hkt) b.procs[k] (List.getElem_mem hkt2) τ;have hp:=Ds a.procs[k] b.procs[k];have hbn:(a.procs[k].clk==b.procs[k].clk)=decide (a.procs[k].clk=b.procs[k].clk):=by rw[Bool.eq_iff_iff];simp
      have hf:=eM (p:=same) hkt hkt2;have hstep:=λh=>uS (p:=λa b=>same a b=true) hkt h2 hok h;generalize hcc:decide (a.procs[k].clk=b.procs[k].clk)=c at hbn hp;clear hok c2 c3 hcc;cases c
      ·rw[Bool.false_and] at hp;rw[hf hp,Bool.false_and] at hs;clear hstep;repeat' (first|simp -implicitDefEqProofs -dsimp only[go_sem,seval, *]|with_reducible refine Zu ?_ ?_|refine fin_eq ?_)
      ·rw[Bool.true_and] at hp;rw[hp] at hstep hf;repeat' (first|simp -implicitDefEqProofs -dsimp only[go_sem,seval, *]|simp(disch:=omega) only[ah,aj,ao,aw,ar,ag,au,aq]|(with_reducible (first|apply Za|apply Zb|apply Zc|apply Zd|apply Ze|apply Zf|apply Zg|apply Zh|apply Zi|apply Zj|apply Zk|apply Zl|apply Zm|apply Zn|apply Zo|apply Zp|apply Zq|apply Zr|apply Zs)<;>intro hq)|with_reducible refine Zu ?_ ?_|with_reducible refine id_one0 (λtS hS=>hc _) trivial ?_)
       ·have hn:=hstep (by assumption);refine lnx (k+1) ?_;(repeat' (first|simp -implicitDefEqProofs -dsimp only[go_sem,seval, *]|with_reducible refine And.intro ?_ ?_|omega))
        exact λj h1 h2 h=>hn j h1 (by omega) h
       ·rw[hf (by assumption),Bool.false_and] at hs;refine fin_eq ?_;(repeat' simp -implicitDefEqProofs -dsimp only[go_sem,seval, *])
     ·have e2:=fZ (p:=same) h2.symm λj h1 h2=>hok j h1 h2 (by omega);rw[e2,Bool.true_and] at hs;clear hok;repeat' simp -implicitDefEqProofs -dsimp only[go_sem,seval, *]
      refine loop_rule (λi:Nat=>[(7,some (.int .i64 i)),(2,some (.cptr (dL a))),(3,some (.cptr (dL b)))]) (λ_=>σ)
       (λi=>i<=a.chks.length/\∀j,(h1:j<a.chks.length)->(h2:j<b.chks.length)->j<i->same a.chks[j] b.chks[j]=true) (λi=>a.chks.length-i) 0 ?_ ?_
      ·clear c2 c3;(repeat' (first|simp -implicitDefEqProofs -dsimp only[go_sem,seval, *]|with_reducible refine And.intro ?_ ?_|omega))
      ·rintro m ⟨hm,hok⟩;by_cases hmt:m<a.chks.length
       ·have hmt2:m<b.chks.length:=by omega
        have hc:=λτ=>c3 a.chks[m] (List.getElem_mem hmt) b.chks[m] (List.getElem_mem hmt2) τ;have hp:=Dt a.chks[m] b.chks[m];have hbn:(a.chks[m].name.toList==b.chks[m].name.toList)=decide (a.chks[m].name=b.chks[m].name):=by rw[Bool.eq_iff_iff];simp[lH]
        have hf:=eM (p:=same) hmt hmt2;have hstep:=λh=>uS (p:=λa b=>same a b=true) hmt h3 hok h;generalize hcc:decide (a.chks[m].name=b.chks[m].name)=c at hbn hp;clear hok c2 c3 hcc;cases c
        ·rw[Bool.false_and] at hp;rw[hf hp] at hs;clear hstep;repeat' (first|simp -implicitDefEqProofs -dsimp only[go_sem,seval, *]|with_reducible refine Zu ?_ ?_|refine fin_eq ?_)
        ·rw[Bool.true_and] at hp;rw[hp] at hstep hf;repeat' (first|simp -implicitDefEqProofs -dsimp only[go_sem,seval, *]|simp(disch:=omega) only[ah,aj,ao,aw,ar,ag,au,aq]|(with_reducible (first|apply Za|apply Zb|apply Zc|apply Zd|apply Ze|apply Zf|apply Zg|apply Zh|apply Zi|apply Zj|apply Zk|apply Zl|apply Zm|apply Zn|apply Zo|apply Zp|apply Zq|apply Zr|apply Zs)<;>intro hq)|with_reducible refine Zu ?_ ?_|with_reducible refine id_one0 (λtS hS=>hc _) trivial ?_)
         ·have hn:=hstep (by assumption);refine lnx (m+1) ?_;(repeat' (first|simp -implicitDefEqProofs -dsimp only[go_sem,seval, *]|with_reducible refine And.intro ?_ ?_|omega))
          exact λj h1 h2 h=>hn j h1 (by omega) h
         ·rw[hf (by assumption)] at hs;refine fin_eq ?_;(repeat' simp -implicitDefEqProofs -dsimp only[go_sem,seval, *])
       ·have e3:=fZ (p:=same) h3.symm λj h1 h2=>hok j h1 h2 (by omega);rw[e3] at hs;clear hok c2 c3;repeat' (first|simp -implicitDefEqProofs -dsimp only[go_sem,seval, *]|refine fin_eq ?_)
 ·have hs':same a b=false:=by
   rw[fx];rintro rfl;exact hlen ⟨rfl,rfl,rfl⟩
  clear hs c2 c3;repeat' (first|simp -implicitDefEqProofs -dsimp only[go_sem,seval, *]|(with_reducible (first|apply Za|apply Zb|apply Zc|apply Zd|apply Ze|apply Zf|apply Zg|apply Zh|apply Zi|apply Zj|apply Zk|apply Zl|apply Zm|apply Zn|apply Zo|apply Zp|apply Zq|apply Zr|apply Zs)<;>intro hq)|omega)
  all_goals first|(exfalso;apply hlen;omega)|skip
  all_goals
   refine fin_eq ?_;(repeat' simp -implicitDefEqProofs -dsimp only[go_sem,seval, *])
end Go.Proofs.YtbbihmmobfmadaaGreat.S
namespace Go.Proofs.YtbbihmmobfmadaaGreat.S
open Abs Fil Fil.Sz
theorem rf_Nodes(e:E):∀(σ:aA),nodes e<=16777216->C_ 31 [encE e] σ (.int .i64 (nodes e)) σ:=by
 refine E.ind (P:=λe=>∀(σ:aA),nodes e<=16777216->C_ 31 [encE e] σ (.int .i64 (nodes e)) σ) (λe ih σ he=>?_) e;have h1:=encEs_eq e;have l1:=len_nodes e;have hn:=bK e;have hE:=fun(x:E) (hx:x∈e.l) τ=>ih x hx τ (by have:=part_nodes hx;omega);clear ih;refine gO [1] Tryz.func31 (by kernel_rfl) (by conv=>lhs;reduce;dsimp only[iA]) rfl ?_;repeat' simp -implicitDefEqProofs -dsimp only[go_sem,seval, *]
 refine loop_rule (λi:Nat=>[(4,some (.int .i64 i)),(1,some (.cptr (eL e))),(3,some (.int .i64 ((1+sumTo nodes e.l i:Nat):Int)))]) (λ_=>σ) (λi=>i<=e.l.length) (λi=>e.l.length-i) 0 ?_ ?_
 ·clear hE;have e0:=bT (f:=nodes) (l:=e.l);(repeat' (first|simp -implicitDefEqProofs -dsimp only[go_sem,seval, *]|omega))
 ·intro i hi;have hle:=bz (f:=nodes) (l:=e.l) (i:=i);by_cases hlt:i<e.l.length
  ·have hs:=bU (f:=nodes) hlt;have hc:=λτ=>hE e.l[i] (List.getElem_mem hlt) τ;have hm:=part_nodes (List.getElem_mem hlt);clear hE;repeat' (first|simp -implicitDefEqProofs -dsimp only[go_sem,seval, *]|simp(disch:=omega) only[ah,aj,ao,aw,ar,ag,au,aq]|with_reducible refine Zu ?_ ?_|with_reducible refine kc1 (hc _) ?_|with_reducible refine lnx (i+1) ?_|with_reducible refine And.intro ?_ ?_|omega)
  ·have ei:i=e.l.length:=by omega
   subst ei;rw[cC,<-hn];clear hE;repeat' (first|simp -implicitDefEqProofs -dsimp only[go_sem,seval, *]|refine fin_eq ?_)
theorem ti(e:E):∀(σ:aA),nodes e<=16777216->C_ 122 [encE e] σ (.int .i64 (deep e)) σ:=by
 refine E.ind (P:=λe=>∀(σ:aA),nodes e<=16777216->C_ 122 [encE e] σ (.int .i64 (deep e)) σ) (λe ih σ he=>?_) e;have h1:=encEs_eq e;have l1:=len_nodes e;have hn:=lF e;have hd:=nX e;have hE:=fun(x:E) (hx:x∈e.l) τ=>ih x hx τ (by have:=part_nodes hx;omega);clear ih;refine gO [1] Tryz.func122 (by kernel_rfl) (by conv=>lhs;reduce;dsimp only[iA]) rfl ?_;repeat' simp -implicitDefEqProofs -dsimp only[go_sem,seval, *]
 refine loop_rule (λi:Nat=>[(4,some (.int .i64 i)),(1,some (.cptr (eL e))),(3,some (.int .i64 (maxTo deep e.l i:Nat)))]) (λ_=>σ) (λi=>i<=e.l.length) (λi=>e.l.length-i) 0 ?_ ?_
 ·clear hE;have e0:=cG (f:=deep) (l:=e.l);(repeat' (first|simp -implicitDefEqProofs -dsimp only[go_sem,seval, *]|omega))
 ·intro i hi;have hle:=dA (f:=deep) (l:=e.l) (i:=i);by_cases hlt:i<e.l.length
  ·have hs:=cH (f:=deep) hlt;have hc:=λτ=>hE e.l[i] (List.getElem_mem hlt) τ;clear hE;repeat' (first|simp -implicitDefEqProofs -dsimp only[go_sem,seval, *]|simp(disch:=omega) only[ah,aj,ao,aw,ar,ag,au,aq]|with_reducible refine Zu ?_ ?_|with_reducible refine kc1 (hc _) ?_|with_reducible refine lnx (i+1) ?_|with_reducible refine And.intro ?_ ?_|omega)
  ·have ei:i=e.l.length:=by omega
   subst ei;rw[c9] at hle|-;clear hE;repeat' (first|simp -implicitDefEqProofs -dsimp only[go_sem,seval, *]|simp(disch:=omega) only[ah,aj,ao,aw,ar,ag,au,aq]|refine fin_eq ?_|omega)
theorem jM(l:List T)(hl:(l.map nodesT).sum<=16777216)(ih:∀t∈l,∀τ,C_ 120 [.slice (t.l.map encT) .no] τ (.int .i64 ((t.l.map nodesT).sum:Nat)) τ)(σ:aA):
  C_ 120 [.slice (l.map encT) .no] σ (.int .i64 ((l.map nodesT).sum:Nat)) σ:=by
 have l1:=cq bG l;have e0:=bT (f:=nodesT) (l:=l);refine gO [] Tryz.func120 (by kernel_rfl) (by conv=>lhs;reduce;dsimp only[iA]) rfl ?_;repeat' simp -implicitDefEqProofs -dsimp only[go_sem,seval, *]
 refine loop_rule (λi:Nat=>[(4,some (.int .i64 i)),(0,some (.slice (l.map encT) .no)),(3,some (.int .i64 (sumTo nodesT l i:Nat)))]) (λ_=>σ) (λi=>i<=l.length) (λi=>l.length-i) 0 ?_ ?_
 ·clear ih;(repeat' (first|simp -implicitDefEqProofs -dsimp only[go_sem,seval, *]|omega))
 ·intro i hi;have hle:=bz (f:=nodesT) (l:=l) (i:=i);by_cases hlt:i<l.length
  ·have hx:=bA l[i];have hs:=bU (f:=nodesT) hlt;have hc:=λτ=>ih l[i] (List.getElem_mem hlt) τ;have hm:=bu (f:=nodesT) (List.getElem_mem hlt);have hn:=bR l[i];have hE:=fun(x:E) (hx:x∈l[i].e) τ=>rf_Nodes x τ (by have:=bC hx;omega);have f0:=bT (f:=nodes) (l:=l[i].e);have hb:=bz (f:=nodesT) (l:=l) (i:=i+1);clear ih;repeat' (first|simp -implicitDefEqProofs -dsimp only[go_sem,seval, *]|simp(disch:=omega) only[ah,aj,ao,aw,ar,ag,au,aq]|with_reducible refine Zu ?_ ?_|with_reducible refine kc1 (hc _) ?_)
   refine loop_rule (λk:Nat=>[(5,some (.int .i64 k)),(0,some (.slice (l.map encT) .no)),(4,some (.int .i64 i)),(3,some (.int .i64 ((sumTo nodesT l i+1+(l[i].l.map nodesT).sum+sumTo nodes l[i].e k:Nat):Int)))]) (λ_=>σ) (λk=>k<=l[i].e.length) (λk=>l[i].e.length-k) 0 ?_ ?_
   ·clear hc hE;(repeat' (first|simp -implicitDefEqProofs -dsimp only[go_sem,seval, *]|with_reducible refine And.intro ?_ ?_|omega))
   ·intro k hk;have gle:=bz (f:=nodes) (l:=l[i].e) (i:=k);have hel:=bS l[i];by_cases hkt:k<l[i].e.length
    ·have gs:=bU (f:=nodes) hkt;have gb:=bz (f:=nodes) (l:=l[i].e) (i:=k+1);have ge:=λτ=>hE l[i].e[k] (List.getElem_mem hkt) τ;clear hc hE;repeat' (first|simp -implicitDefEqProofs -dsimp only[go_sem,seval, *]|simp(disch:=omega) only[ah,aj,ao,aw,ar,ag,au,aq]|with_reducible refine Zu ?_ ?_|with_reducible refine kc1 (ge _) ?_|with_reducible refine lnx (k+1) ?_|with_reducible refine And.intro ?_ ?_|omega)
    ·have ek:k=l[i].e.length:=by omega
     subst ek;have ga:=cC (f:=nodes) (l:=l[i].e);clear hc hE;repeat' (first|simp -implicitDefEqProofs -dsimp only[go_sem,seval, *]|simp(disch:=omega) only[ah,aj,ao,aw,ar,ag,au,aq]|with_reducible refine Zu ?_ ?_|with_reducible refine lnx (i+1) ?_|with_reducible refine And.intro ?_ ?_|omega)
  ·have ei:i=l.length:=by omega
   subst ei;rw[cC] at hle|-;clear ih;repeat' (first|simp -implicitDefEqProofs -dsimp only[go_sem,seval, *]|refine fin_eq ?_)
theorem AQ(l:List T)(σ:aA)(hl:(l.map nodesT).sum<=16777216):C_ 120 [.slice (l.map encT) .no] σ (.int .i64 ((l.map nodesT).sum:Nat)) σ:=by
 have key:∀t:T,nodesT t<=16777216->∀τ,C_ 120 [.slice (t.l.map encT) .no] τ (.int .i64 ((t.l.map nodesT).sum:Nat)) τ:=λt=>by
  refine T.ind (P:=λt=>nodesT t<=16777216->∀τ,C_ 120 [.slice (t.l.map encT) .no] τ (.int .i64 ((t.l.map nodesT).sum:Nat)) τ) (λt ih ht τ=>?_) t;exact jM t.l (by have:=fz t;omega) (λx hx=>ih x hx (by have:=ci hx;omega)) τ
 exact jM l hl (λt ht=>key t (by have:=bu (f:=nodesT) ht;omega)) σ
theorem ku(l:List T)(hl:(l.map nodesT).sum<=16777216)(ih:∀t∈l,∀τ,C_ 121 [.slice (t.l.map encT) .no] τ (.int .i64 (cZ (t.l.map deepT):Nat)) τ)(σ:aA):
  C_ 121 [.slice (l.map encT) .no] σ (.int .i64 (cZ (l.map deepT):Nat)) σ:=by
 have l1:=cq bG l;have e0:=cG (f:=deepT) (l:=l)
 have hall:cZ (l.map deepT)<=16777216:=by
  have:=gL (l.map deepT)
  have:=gM (f:=deepT) (g:=nodesT) (l:=l) λx _=>lI x
  omega
 refine gO [] Tryz.func121 (by kernel_rfl) (by conv=>lhs;reduce;dsimp only[iA]) rfl ?_;repeat' simp -implicitDefEqProofs -dsimp only[go_sem,seval, *]
 refine loop_rule (λi:Nat=>[(4,some (.int .i64 i)),(0,some (.slice (l.map encT) .no)),(3,some (.int .i64 (maxTo deepT l i:Nat)))]) (λ_=>σ) (λi=>i<=l.length) (λi=>l.length-i) 0 ?_ ?_
 ·clear ih;(repeat' (first|simp -implicitDefEqProofs -dsimp only[go_sem,seval, *]|omega))
 ·intro i hi;have hle:=dA (f:=deepT) (l:=l) (i:=i);by_cases hlt:i<l.length
  ·have hx:=bA l[i];have hs:=cH (f:=deepT) hlt;have hc:=λτ=>ih l[i] (List.getElem_mem hlt) τ;have hm:=bu (f:=nodesT) (List.getElem_mem hlt);have hd:=lI l[i];have hn:=jG l[i];have hE:=fun(x:E) (hx:x∈l[i].e) τ=>ti x τ (by have:=bC hx;omega);have f0:=cG (f:=deep) (l:=l[i].e);clear ih;repeat' (first|simp -implicitDefEqProofs -dsimp only[go_sem,seval, *]|simp(disch:=omega) only[ah,aj,ao,aw,ar,ag,au,aq]|with_reducible refine Zu ?_ ?_|with_reducible refine kc1 (hc _) ?_)
   refine loop_rule (λk:Nat=>[(5,some (.int .i64 k)),(0,some (.slice (l.map encT) .no)),(4,some (.int .i64 i)),(3,some (.int .i64 ((max (maxTo deepT l i) (1+max (cZ (l[i].l.map deepT)) (maxTo deep l[i].e k)):Nat):Int)))]) (λ_=>σ) (λk=>k<=l[i].e.length) (λk=>l[i].e.length-k) 0 ?_ ?_
   ·clear hc hE;(repeat' (first|simp -implicitDefEqProofs -dsimp only[go_sem,seval, *]|with_reducible refine And.intro ?_ ?_|omega))
   ·intro k hk;have gle:=dA (f:=deep) (l:=l[i].e) (i:=k);have hel:=bS l[i];by_cases hkt:k<l[i].e.length
    ·have gs:=cH (f:=deep) hkt;have gb:=dA (f:=deep) (l:=l[i].e) (i:=k+1);have ge:=λτ=>hE l[i].e[k] (List.getElem_mem hkt) τ;clear hc hE;repeat' (first|simp -implicitDefEqProofs -dsimp only[go_sem,seval, *]|simp(disch:=omega) only[ah,aj,ao,aw,ar,ag,au,aq]|with_reducible refine Zu ?_ ?_|with_reducible refine kc1 (ge _) ?_|with_reducible refine lnx (k+1) ?_|with_reducible refine And.intro ?_ ?_|omega)
    ·have ek:k=l[i].e.length:=by omega
     subst ek;have ga:=c9 (f:=deep) (l:=l[i].e);clear hc hE;repeat' (first|simp -implicitDefEqProofs -dsimp only[go_sem,seval, *]|simp(disch:=omega) only[ah,aj,ao,aw,ar,ag,au,aq]|with_reducible refine Zu ?_ ?_|with_reducible refine lnx (i+1) ?_|with_reducible refine And.intro ?_ ?_|omega)
  ·have ei:i=l.length:=by omega
   subst ei;rw[c9] at hle|-;clear ih;repeat' (first|simp -implicitDefEqProofs -dsimp only[go_sem,seval, *]|refine fin_eq ?_)
theorem D0(l:List T)(σ:aA)(hl:(l.map nodesT).sum<=16777216):C_ 121 [.slice (l.map encT) .no] σ (.int .i64 (cZ (l.map deepT):Nat)) σ:=by
 have key:∀t:T,nodesT t<=16777216->∀τ,C_ 121 [.slice (t.l.map encT) .no] τ (.int .i64 (cZ (t.l.map deepT):Nat)) τ:=λt=>by
  refine T.ind (P:=λt=>nodesT t<=16777216->∀τ,C_ 121 [.slice (t.l.map encT) .no] τ (.int .i64 (cZ (t.l.map deepT):Nat)) τ) (λt ih ht τ=>?_) t;exact ku t.l (by have:=fz t;omega) (λx hx=>ih x hx (by have:=ci hx;omega)) τ
 exact ku l hl (λt ht=>key t (by have:=bu (f:=nodesT) ht;omega)) σ
theorem pW(d:Flat)(σ:aA)(hd:Sm d):C_ 68 [encD d] σ (.tup [.int .i64 (nodesD d), .int .i64 (deepD d)]) σ:=by
 have p1:=fun(p:Pr) (hp:p∈d.procs) τ=>AQ p.l τ (hO hd hp);have p2:=fun(p:Pr) (hp:p∈d.procs) τ=>D0 p.l τ (hO hd hp);have p3:=fun(c:Ck) (hc:c∈d.chks) τ=>rf_Nodes c.e τ (jL hd hc);have p4:=fun(c:Ck) (hc:c∈d.chks) τ=>ti c.e τ (jL hd hc);have l1:=hd.2.1;have l2:=hd.2.2.1;have hN:nodesD d=(d.procs.map aZ).sum+(d.chks.map λc=>nodes c.e).sum:=rfl;have hD:deepD d=max (cZ (d.procs.map di)) (cZ (d.chks.map λc=>deep c.e)):=rfl;have hNb:=hd.2.2.2;have hDb:=uG d;have e0:=bT (f:=aZ) (l:=d.procs);have e1:=cG (f:=di) (l:=d.procs);have e2:=bT (f:=λc:Ck=>nodes c.e) (l:=d.chks);have e3:=cG (f:=λc:Ck=>deep c.e) (l:=d.chks);clear hd;refine gO [1] Tryz.func68 (by kernel_rfl) (by conv=>lhs;reduce;dsimp only[iA]) rfl ?_;repeat' simp -implicitDefEqProofs -dsimp only[go_sem,seval, *]
 refine loop_rule (λi:Nat=>[(6,some (.int .i64 i)),(1,some (.cptr (dL d))),(4,some (.int .i64 (sumTo aZ d.procs i:Nat))),(5,some (.int .i64 (maxTo di d.procs i:Nat)))]) (λ_=>σ) (λi=>i<=d.procs.length) (λi=>d.procs.length-i) 0 ?_ ?_
 ·clear p1 p2 p3 p4;(repeat' (first|simp -implicitDefEqProofs -dsimp only[go_sem,seval, *]|omega))
 ·intro i hi;have hle:=bz (f:=aZ) (l:=d.procs) (i:=i);have hle2:=dA (f:=di) (l:=d.procs) (i:=i);by_cases hlt:i<d.procs.length
  ·have hs:=bU (f:=aZ) hlt;have hs2:=cH (f:=di) hlt;have hb:=bz (f:=aZ) (l:=d.procs) (i:=i+1);have c1:=λτ=>p1 d.procs[i] (List.getElem_mem hlt) τ;have c2:=λτ=>p2 d.procs[i] (List.getElem_mem hlt) τ;have u1:(d.procs[i].l.map nodesT).sum=aZ d.procs[i]:=rfl;have u2:cZ (d.procs[i].l.map deepT)=di d.procs[i]:=rfl;rw[u1] at c1;rw[u2] at c2;clear p1 p2 p3 p4;repeat' (first|simp -implicitDefEqProofs -dsimp only[go_sem,seval, *]|simp(disch:=omega) only[ah,aj,ao,aw,ar,ag,au,aq]|with_reducible refine Zu ?_ ?_|with_reducible refine kc1 (c1 _) ?_|with_reducible refine kc1 (c2 _) ?_|with_reducible refine lnx (i+1) ?_|with_reducible refine And.intro ?_ ?_|omega)
  ·have ei:i=d.procs.length:=by omega
   subst ei;have a1:=cC (f:=aZ) (l:=d.procs);have a2:=c9 (f:=di) (l:=d.procs);rw[a1,a2];clear p1 p2 a1 a2;repeat' simp -implicitDefEqProofs -dsimp only[go_sem,seval, *]
   refine loop_rule (λi:Nat=>[(7,some (.int .i64 i)),(1,some (.cptr (dL d))),(4,some (.int .i64 (((d.procs.map aZ).sum+sumTo (λc:Ck=>nodes c.e) d.chks i:Nat):Int))),(5,some (.int .i64 ((max (cZ (d.procs.map di)) (maxTo (λc:Ck=>deep c.e) d.chks i):Nat):Int)))]) (λ_=>σ) (λi=>i<=d.chks.length) (λi=>d.chks.length-i) 0 ?_ ?_
   ·clear p3 p4;(repeat' (first|simp -implicitDefEqProofs -dsimp only[go_sem,seval, *]|with_reducible refine And.intro ?_ ?_|omega))
   ·intro k hk;have gle:=bz (f:=λc:Ck=>nodes c.e) (l:=d.chks) (i:=k);have gle2:=dA (f:=λc:Ck=>deep c.e) (l:=d.chks) (i:=k);by_cases hkt:k<d.chks.length
    ·have gs:=bU (f:=λc:Ck=>nodes c.e) hkt;have gs2:=cH (f:=λc:Ck=>deep c.e) hkt;have gb:=bz (f:=λc:Ck=>nodes c.e) (l:=d.chks) (i:=k+1);have c1:=λτ=>p3 d.chks[k] (List.getElem_mem hkt) τ;have c2:=λτ=>p4 d.chks[k] (List.getElem_mem hkt) τ;clear p3 p4;repeat' (first|simp -implicitDefEqProofs -dsimp only[go_sem,seval, *]|simp(disch:=omega) only[ah,aj,ao,aw,ar,ag,au,aq]|with_reducible refine Zu ?_ ?_|with_reducible refine kc1 (c1 _) ?_|with_reducible refine kc1 (c2 _) ?_|with_reducible refine lnx (k+1) ?_|with_reducible refine And.intro ?_ ?_|omega)
    ·have ek:k=d.chks.length:=by omega
     subst ek;have b1:=cC (f:=λc:Ck=>nodes c.e) (l:=d.chks);have b2:=c9 (f:=λc:Ck=>deep c.e) (l:=d.chks);rw[b1,b2];clear p3 p4 b1 b2;repeat' (first|simp -implicitDefEqProofs -dsimp only[go_sem,seval, *]|refine fin_eq ?_)
def smallD(d:Flat):Bool:=decide (nodesD d<=2000/\deepD d<=100/\d.sigs.length<=100/\d.procs.length<=200/\d.chks.length<=100)
theorem rf_Small(d:Flat)(σ:aA)(hd:Sm d):C_ 30 [encD d] σ (.bool (smallD d)) σ:=by
 have hc:=λτ=>pW d τ hd;refine gO [1] Tryz.func30 (by kernel_rfl) (by conv=>lhs;reduce;dsimp only[iA]) rfl ?_;obtain⟨x,hx⟩:∃x,smallD d=x:=⟨_,rfl⟩;unfold smallD at hx;cases x with
 |true=>
  simp only[decide_eq_true_eq] at hx;obtain⟨h1,h2,h3,h4,h5⟩:=hx;have hv:smallD d=true:=by simp only[smallD,decide_eq_true_eq];exact⟨h1,h2,h3,h4,h5⟩
  have i1:(nodesD d:Int)<=2000:=by omega
  have i2:(deepD d:Int)<=100:=by omega
  have i3:(d.sigs.length:Int)<=100:=by omega
  have i4:(d.procs.length:Int)<=200:=by omega
  have i5:(d.chks.length:Int)<=100:=by omega
  repeat' (first|simp -implicitDefEqProofs -dsimp only[go_sem,seval,decide_true, *]|with_reducible refine kc1 (hc _) ?_|refine fin_eq ?_)
 |false=>
  simp only[decide_eq_false_iff_not] at hx;have hv:smallD d=false:=by simp only[smallD,decide_eq_false_iff_not];exact hx
  repeat' (first|simp -implicitDefEqProofs -dsimp only[go_sem,seval, *]|(with_reducible (first|apply Za|apply Zb|apply Zc|apply Zd|apply Ze|apply Zf|apply Zg|apply Zh|apply Zi|apply Zj|apply Zk|apply Zl|apply Zm|apply Zn|apply Zo|apply Zp|apply Zq|apply Zr|apply Zs)<;>intro hq)|with_reducible refine kc1 (hc _) ?_)
  all_goals first|(exfalso;omega)|skip
  all_goals
   refine fin_eq ?_;(repeat' simp -implicitDefEqProofs -dsimp only[go_sem,seval, *])
  all_goals
   rw[eq_comm,decide_eq_false_iff_not];omega
end Go.Proofs.YtbbihmmobfmadaaGreat.S
namespace Go.Proofs.YtbbihmmobfmadaaGreat.S
open Abs Fil Fil.Sz
abbrev mM(n k:Int):AObj:= .cells [.int .i64 n, .int .i64 k]
abbrev uT(n k:Int):AV:= .agg [.int .i64 n, .int .i64 k]
theorem pX(o:Nat)(n k m j:Int)(σ:aA)(h:σ o=some (mM n k))(h1:0<=n/\n<=16777216)(h2:0<=m/\m<=16777216):
  C_ 182 [.ptr o 0,uT m j] σ (.tup []) (aH σ o (mM (n+m) (max k j))):=by
 refine gO [3] Tryz.func182 (by kernel_rfl) (by conv=>lhs;reduce;dsimp only[iA]) rfl ?_;obtain⟨a1,a2⟩:=h1;obtain⟨a3,a4⟩:=h2;repeat' (first|simp -implicitDefEqProofs -dsimp only[go_sem,seval, *]|simp(disch:=omega) only[ah,aj,ao,aw,ar,ag,au,aq]|refine fin_eq ?_)
theorem rT(n k:Int)(σ:aA)(h1:0<=n/\n<=16777216)(h2:0<=k/\k<=16777216):C_ 196 [uT n k] σ (uT (n+1) (k+1)) σ:=by
 refine gO [1] Tryz.func196 (by kernel_rfl) (by conv=>lhs;reduce;dsimp only[iA]) rfl ?_;obtain⟨a1,a2⟩:=h1;obtain⟨a3,a4⟩:=h2;repeat' (first|simp -implicitDefEqProofs -dsimp only[go_sem,seval, *]|simp(disch:=omega) only[ah,aj,ao,aw,ar,ag,au,aq]|(with_reducible refine Zt λoF hoF hnF hnF'=>?_;try simp only[aa,ne_eq,not_and] at hoF)|refine fin_eq ?_)
theorem uU(n k:Int)(σ:aA):C_ 141 [uT n k] σ (.bool (decide (n<=65536)&&decide (k<=64))) σ:=by
 refine gO [1] Tryz.func141 (by kernel_rfl) (by conv=>lhs;reduce;dsimp only[iA]) rfl ?_;repeat' (first|simp -implicitDefEqProofs -dsimp only[go_sem,seval, *]|(with_reducible (first|apply Za|apply Zb|apply Zc|apply Zd|apply Ze|apply Zf|apply Zg|apply Zh|apply Zi|apply Zj|apply Zk|apply Zl|apply Zm|apply Zn|apply Zo|apply Zp|apply Zq|apply Zr|apply Zs)<;>intro hq)|(refine fin_eq ?_;repeat' simp -implicitDefEqProofs -dsimp only[go_sem,seval,decide_true,decide_false,Bool.true_and,Bool.false_and, *]))
theorem mN(e:E):∀(σ:aA),nodes e<=16777216->C_ 140 [encE e] σ (uT (nodes e) (deep e)) σ:=by
 refine E.ind (P:=λe=>∀(σ:aA),nodes e<=16777216->C_ 140 [encE e] σ (uT (nodes e) (deep e)) σ) (λe ih σ he=>?_) e;have h1:=encEs_eq e;have l1:=len_nodes e;have hn:=bK e;have hd:=lF e;have hdl:=nX e;have hE:=fun(x:E) (hx:x∈e.l) τ=>ih x hx τ (by have:=part_nodes hx;omega);clear ih;refine gO [1] Tryz.func140 (by kernel_rfl) (by conv=>lhs;reduce;dsimp only[iA]) rfl ?_;repeat' (first|simp -implicitDefEqProofs -dsimp only[go_sem,seval, *]|(with_reducible refine Zt λoF hoF hnF hnF'=>?_;try simp only[aa,ne_eq,not_and] at hoF))
 rename_i o2 ho2 n2 n2'
 obtain⟨o3,e3⟩:∃x,x=oF:=⟨oF,rfl⟩;subst e3;obtain⟨a1,ho3⟩:=hoF;have a2:¬o2=o3:=λe=>a1 e.symm;clear n2 n2' hnF hnF'
 refine loop_rule (λi:Nat=>[(9,some (.int .i64 i)),(8,some (.int .i64 e.l.length)),(7,some (.slice (e.l.map encE) .no)),(3,some (.ptr o3 0)),(2,some (.ptr o2 0))])
  (λi=>aH (aH σ o2 (mM 0 0)) o3 (mM (sumTo nodes e.l i:Nat) (maxTo deep e.l i:Nat))) (λi=>i<=e.l.length) (λi=>e.l.length-i) 0 ?_ ?_
 ·clear hE;have e0:=bT (f:=nodes) (l:=e.l);have e1:=cG (f:=deep) (l:=e.l);(repeat' (first|simp -implicitDefEqProofs -dsimp only[go_sem,seval, *]|omega))
 ·intro i hi;have hle:=bz (f:=nodes) (l:=e.l) (i:=i);have hle2:=dA (f:=deep) (l:=e.l) (i:=i);by_cases hlt:i<e.l.length
  ·have hs:=bU (f:=nodes) hlt;have hs2:=cH (f:=deep) hlt;have hc:=λτ=>hE e.l[i] (List.getElem_mem hlt) τ;have hm:=part_nodes (List.getElem_mem hlt);have hcm:((maxTo deep e.l (i+1):Nat):Int)=max (maxTo deep e.l i:Nat) (deep e.l[i]:Nat):=by have:=hs2;omega
   have hcs:((sumTo nodes e.l (i+1):Nat):Int)=(sumTo nodes e.l i:Nat)+(nodes e.l[i]:Nat):=by have:=hs;omega
   have hadd:=λτ h=>pX o3 (sumTo nodes e.l i:Nat) (maxTo deep e.l i:Nat) (nodes e.l[i]:Nat) (deep e.l[i]:Nat) τ h (by omega) (by omega);clear hE hs hs2;repeat' (first|simp -implicitDefEqProofs -dsimp only[go_sem,seval, *]|simp(disch:=omega) only[ah,aj,ao,aw,ar,ag,au,aq]|with_reducible refine Zu ?_ ?_|(with_reducible refine Zt λoF hoF hnF hnF'=>?_;try simp only[aa,ne_eq,not_and] at hoF)|with_reducible refine kc1 (hc _) ?_|with_reducible refine kc1 (hadd _ ?_) ?_|with_reducible refine lnx (i+1) ?_|with_reducible refine And.intro ?_ ?_|omega)
  ·have ei:i=e.l.length:=by omega
   subst ei;rw[cC] at hle|-;rw[c9] at hle2|-;obtain⟨N,hN⟩:∃N,(e.l.map nodes).sum=N:=⟨_,rfl⟩;obtain⟨D,hD⟩:∃N,cZ (e.l.map deep)=N:=⟨_,rfl⟩;rw[hN] at hn|-;rw[hD] at hd|-;have hw:=λτ=>rT N D τ (by omega) (by omega);clear hE hN hD;repeat' (first|simp -implicitDefEqProofs -dsimp only[go_sem,seval, *]|with_reducible refine kc1 (hw _) ?_|refine fin_eq ?_|with_reducible refine And.intro ?_ ?_|omega)
theorem AR(t:T):∀(σ:aA),nodesT t<=16777216->C_ 183 [encT t] σ (uT (nodesT t) (deepT t)) σ:=by
 refine T.ind (P:=λt=>∀(σ:aA),nodesT t<=16777216->C_ 183 [encT t] σ (uT (nodesT t) (deepT t)) σ) (λt ih σ he=>?_) t;have h1:=bA t;have l1:=bS t;have l2:=dr t;have hn:=bR t;have hd:=jG t;have hdl:=lI t;have hE:=fun(x:E) (hx:x∈t.e) τ=>mN x τ (by have:=bC hx;omega);have hT:=fun(x:T) (hx:x∈t.l) τ=>ih x hx τ (by have:=ci hx;omega);clear ih;refine gO [1] Tryz.func183 (by kernel_rfl) (by conv=>lhs;reduce;dsimp only[iA]) rfl ?_;repeat' (first|simp -implicitDefEqProofs -dsimp only[go_sem,seval, *]|(with_reducible refine Zt λoF hoF hnF hnF'=>?_;try simp only[aa,ne_eq,not_and] at hoF))
 rename_i o2 ho2 n2 n2'
 obtain⟨o3,e3⟩:∃x,x=oF:=⟨oF,rfl⟩;subst e3;obtain⟨a1,ho3⟩:=hoF;have a2:¬o2=o3:=λe=>a1 e.symm;clear n2 n2' hnF hnF'
 refine loop_rule (λi:Nat=>[(11,some (.int .i64 i)),(10,some (.int .i64 t.e.length)),(9,some (.slice (t.e.map encE) .no)),(3,some (.ptr o3 0)),(1,some (.cptr (tL t))),(2,some (.ptr o2 0))])
  (λi=>aH (aH σ o2 (mM 0 0)) o3 (mM (sumTo nodes t.e i:Nat) (maxTo deep t.e i:Nat))) (λi=>i<=t.e.length) (λi=>t.e.length-i) 0 ?_ ?_
 ·clear hE hT;have e0:=bT (f:=nodes) (l:=t.e);have e1:=cG (f:=deep) (l:=t.e);(repeat' (first|simp -implicitDefEqProofs -dsimp only[go_sem,seval, *]|omega))
 ·intro i hi;have hle:=bz (f:=nodes) (l:=t.e) (i:=i);have hle2:=dA (f:=deep) (l:=t.e) (i:=i);by_cases hlt:i<t.e.length
  ·have hs:=bU (f:=nodes) hlt;have hs2:=cH (f:=deep) hlt;have hc:=λτ=>hE t.e[i] (List.getElem_mem hlt) τ;have hm:=bC (List.getElem_mem hlt);have hcm:((maxTo deep t.e (i+1):Nat):Int)=max (maxTo deep t.e i:Nat) (deep t.e[i]:Nat):=by have:=hs2;omega
   have hcs:((sumTo nodes t.e (i+1):Nat):Int)=(sumTo nodes t.e i:Nat)+(nodes t.e[i]:Nat):=by have:=hs;omega
   have hadd:=λτ h=>pX o3 (sumTo nodes t.e i:Nat) (maxTo deep t.e i:Nat) (nodes t.e[i]:Nat) (deep t.e[i]:Nat) τ h (by omega) (by omega);clear hE hT hs hs2;repeat' (first|simp -implicitDefEqProofs -dsimp only[go_sem,seval, *]|simp(disch:=omega) only[ah,aj,ao,aw,ar,ag,au,aq]|with_reducible refine Zu ?_ ?_|(with_reducible refine Zt λoF hoF hnF hnF'=>?_;try simp only[aa,ne_eq,not_and] at hoF)|with_reducible refine kc1 (hc _) ?_|with_reducible refine kc1 (hadd _ ?_) ?_|with_reducible refine lnx (i+1) ?_|with_reducible refine And.intro ?_ ?_|omega)
  ·have ei:i=t.e.length:=by omega
   subst ei;rw[cC] at hle|-;rw[c9] at hle2|-;obtain⟨N,hN⟩:∃N,(t.e.map nodes).sum=N:=⟨_,rfl⟩;obtain⟨D,hD⟩:∃N,cZ (t.e.map deep)=N:=⟨_,rfl⟩;rw[hN] at hn|-;rw[hD] at hd|-;clear hE hN hD;repeat' simp -implicitDefEqProofs -dsimp only[go_sem,seval, *]
   refine loop_rule (λi:Nat=>[(22,some (.int .i64 i)),(21,some (.int .i64 t.l.length)),(20,some (.slice (t.l.map encT) .no)),(3,some (.ptr o3 0)),(2,some (.ptr o2 0))])
    (λi=>aH (aH σ o2 (mM 0 0)) o3 (mM ((N:Int)+(sumTo nodesT t.l i:Nat)) ((max D (maxTo deepT t.l i):Nat):Int))) (λi=>i<=t.l.length) (λi=>t.l.length-i) 0 ?_ ?_
   ·clear hT;have e0:=bT (f:=nodesT) (l:=t.l);have e1:=cG (f:=deepT) (l:=t.l);(repeat' (first|simp -implicitDefEqProofs -dsimp only[go_sem,seval, *]|with_reducible refine And.intro ?_ ?_|omega))
   ·intro i hi;have gle:=bz (f:=nodesT) (l:=t.l) (i:=i);have gle2:=dA (f:=deepT) (l:=t.l) (i:=i);by_cases hlt:i<t.l.length
    ·have hs:=bU (f:=nodesT) hlt;have hs2:=cH (f:=deepT) hlt;have hc:=λτ=>hT t.l[i] (List.getElem_mem hlt) τ;have hm:=ci (List.getElem_mem hlt);have hcm:((max D (maxTo deepT t.l (i+1)):Nat):Int)=max ((max D (maxTo deepT t.l i):Nat):Int) (deepT t.l[i]:Nat):=by have:=hs2;omega
     have hcs:((N:Int)+(sumTo nodesT t.l (i+1):Nat))=((N:Int)+(sumTo nodesT t.l i:Nat))+(nodesT t.l[i]:Nat):=by have:=hs;omega
     have hadd:=λτ h=>pX o3 ((N:Int)+(sumTo nodesT t.l i:Nat)) ((max D (maxTo deepT t.l i):Nat):Int) (nodesT t.l[i]:Nat) (deepT t.l[i]:Nat) τ h (by omega) (by omega);obtain⟨A,hA⟩:∃x,((N:Int)+(sumTo nodesT t.l i:Nat))=x:=⟨_,rfl⟩;obtain⟨B,hB⟩:∃x,((max D (maxTo deepT t.l i):Nat):Int)=x:=⟨_,rfl⟩;rw[hA] at hcs hadd|-;rw[hB] at hcm hadd|-;clear hT hs hs2 hA hB;repeat' (first|simp -implicitDefEqProofs -dsimp only[go_sem,seval, *]|simp(disch:=omega) only[ah,aj,ao,aw,ar,ag,au,aq]|with_reducible refine Zu ?_ ?_|(with_reducible refine Zt λoF hoF hnF hnF'=>?_;try simp only[aa,ne_eq,not_and] at hoF)|with_reducible refine kc1 (hc _) ?_|with_reducible refine kc1 (hadd _ ?_) ?_)
     refine bP _ _ _ _ (i+1) ?_;rw[hcs,hcm];(repeat' (first|simp -implicitDefEqProofs -dsimp only[go_sem,seval, *]|with_reducible refine And.intro ?_ ?_|omega))
    ·have ei:i=t.l.length:=by omega
     subst ei;rw[cC] at gle|-;rw[c9] at gle2|-;obtain⟨M,hM⟩:∃x,N+(t.l.map nodesT).sum=x:=⟨_,rfl⟩;obtain⟨F,hF⟩:∃x,max D (cZ (t.l.map deepT))=x:=⟨_,rfl⟩;have hw:=λτ=>rT M F τ (by omega) (by omega);have q1:nodesT t=M+1:=by omega
     have q2:deepT t=F+1:=by omega
     have hM':(N:Int)+((t.l.map nodesT).sum:Nat)=(M:Nat):=by omega
     rw[hM',hF];clear hT hn hd;repeat' (first|simp -implicitDefEqProofs -dsimp only[go_sem,seval, *]|with_reducible refine kc1 (hw _) ?_|refine fin_eq ?_)
theorem D1(d:Flat)(σ:aA)(hd:Sm d):C_ 147 [encD d] σ (.bool (eN d)) σ:=by
 have hc:=λτ=>pW d τ hd;have hb:gK 5000 d.sigs<=5000*d.sigs.length:=pJ 5000 d.sigs;have hl:=hd.1;have hiff:=Dw d.sigs
 have hfd:eN d=decide (d.sigs.length<=512/\d.procs.length<=1024/\gK 5000 d.sigs<=4096/\nodesD d<=65536/\deepD d<=64):=by
  unfold eN;simp only[hiff]
 have e0:=bT (f:=f9 5000) (l:=d.sigs);have hw:∀s∈d.sigs,I64 s.w->True:=λ_ _ _=>trivial;clear hd hiff hw;refine gO [1] Tryz.func147 (by kernel_rfl) (by conv=>lhs;reduce;dsimp only[iA]) rfl ?_;repeat' simp -implicitDefEqProofs -dsimp only[go_sem,seval, *]
 refine loop_rule (λi:Nat=>[(4,some (.int .i64 i)),(1,some (.cptr (dL d))),(3,some (.int .i64 (sumTo (f9 5000) d.sigs i:Nat)))]) (λ_=>σ) (λi=>i<=d.sigs.length) (λi=>d.sigs.length-i) 0 ?_ ?_
 ·clear hc;(repeat' (first|simp -implicitDefEqProofs -dsimp only[go_sem,seval, *]|omega))
 ·intro i hi;have hle:=bz (f:=f9 5000) (l:=d.sigs) (i:=i);have hbd:gK 5000 d.sigs=(d.sigs.map (f9 5000)).sum:=rfl;by_cases hlt:i<d.sigs.length
  ·have hs:=bU (f:=f9 5000) hlt;have hle2:=bz (f:=f9 5000) (l:=d.sigs) (i:=i+1);have hbn:min (max d.sigs[i].w 0) 5000=(f9 5000 d.sigs[i]:Nat):=by unfold f9;omega
   clear hc;repeat' (first|simp -implicitDefEqProofs -dsimp only[go_sem,seval, *]|simp(disch:=omega) only[ah,aj,ao,aw,ar,ag,au,aq]|with_reducible refine Zu ?_ ?_|with_reducible refine lnx (i+1) ?_|with_reducible refine And.intro ?_ ?_|omega)
  ·have ei:i=d.sigs.length:=by omega
   subst ei;rw[cC,<-hbd];generalize hB:gK 5000 d.sigs=B at hfd|-;clear hle hbd hB hb e0;generalize hx:eN d=x at hfd|-;cases x with
   |true=>
    replace hfd:=of_decide_eq_true hfd.symm;obtain⟨h1,h2,h3,h4,h5⟩:=hfd;have i1:(nodesD d:Int)<=65536:=by omega
    have i2:(deepD d:Int)<=64:=by omega
    have i3:(d.sigs.length:Int)<=512:=by omega
    have i4:(d.procs.length:Int)<=1024:=by omega
    have i5:(B:Int)<=4096:=by omega
    repeat' (first|simp -implicitDefEqProofs -dsimp only[go_sem,seval,decide_true, *]|with_reducible refine kc1 (hc _) ?_|refine fin_eq ?_)
   |false=>
    replace hfd:=of_decide_eq_false hfd.symm;repeat' (first|simp -implicitDefEqProofs -dsimp only[go_sem,seval, *]|(with_reducible (first|apply Za|apply Zb|apply Zc|apply Zd|apply Ze|apply Zf|apply Zg|apply Zh|apply Zi|apply Zj|apply Zk|apply Zl|apply Zm|apply Zn|apply Zo|apply Zp|apply Zq|apply Zr|apply Zs)<;>intro hq)|with_reducible refine kc1 (hc _) ?_)
    all_goals first|(exfalso;omega)|skip
    all_goals
     refine fin_eq ?_;(repeat' simp -implicitDefEqProofs -dsimp only[go_sem,seval, *])
    all_goals
     rw[eq_comm,decide_eq_false_iff_not];omega
theorem HM(d:Flat)(σ:aA)(hd:Sm d):C_ 123 [encD d] σ (.bool (eN d)) σ:=by
 have p1:=fun(p:Pr) (hp:p∈d.procs) (t:T) (ht:t∈p.l) τ=>AR t τ (by have:=hO hd hp;have:=bu (f:=nodesT) ht;unfold aZ at*;omega);have p3:=fun(c:Ck) (hc:c∈d.chks) τ=>mN c.e τ (jL hd hc);have l1:=hd.2.1;have l2:=hd.2.2.1;have hN:nodesD d=(d.procs.map aZ).sum+(d.chks.map λc=>nodes c.e).sum:=rfl;have hD:deepD d=max (cZ (d.procs.map di)) (cZ (d.chks.map λc=>deep c.e)):=rfl;have hNb:=hd.2.2.2;have hDb:=uG d;have hpl:=fun(p:Pr) (hp:p∈d.procs)=>hO hd hp;have e0:=bT (f:=aZ) (l:=d.procs);have e1:=cG (f:=di) (l:=d.procs);have e2:=bT (f:=λc:Ck=>nodes c.e) (l:=d.chks);have e3:=cG (f:=λc:Ck=>deep c.e) (l:=d.chks);have hb:gK 4097 d.sigs<=4097*d.sigs.length:=pJ 4097 d.sigs;have hl:=hd.1;have hfd:eN d=decide (d.sigs.length<=512/\d.procs.length<=1024/\gK 4097 d.sigs<=4096/\nodesD d<=65536/\deepD d<=64):=rfl;have b0:=bT (f:=f9 4097) (l:=d.sigs);clear hd;refine gO [1] Tryz.func123 (by kernel_rfl) (by conv=>lhs;reduce;dsimp only[iA]) rfl ?_;repeat' simp -implicitDefEqProofs -dsimp only[go_sem,seval, *]
 refine loop_rule (λi:Nat=>[(16,some (.int .i64 i)),(15,some (.int .i64 d.sigs.length)),(14,some (.slice (d.sigs.map encS) .no)),(1,some (.cptr (dL d))),(3,some (.int .i64 (sumTo (f9 4097) d.sigs i:Nat)))]) (λ_=>σ) (λi=>i<=d.sigs.length) (λi=>d.sigs.length-i) 0 ?_ ?_
 ·clear p1 p3 hpl;(repeat' (first|simp -implicitDefEqProofs -dsimp only[go_sem,seval, *]|omega))
 ·intro i hi;have hle:=bz (f:=f9 4097) (l:=d.sigs) (i:=i);have hbd:gK 4097 d.sigs=(d.sigs.map (f9 4097)).sum:=rfl;by_cases hlt:i<d.sigs.length
  ·have hs:=bU (f:=f9 4097) hlt;have hle2:=bz (f:=f9 4097) (l:=d.sigs) (i:=i+1);have hbn:max 0 (min d.sigs[i].w 4097)=(f9 4097 d.sigs[i]:Nat):=by unfold f9;omega
   clear p1 p3 hpl;repeat' (first|simp -implicitDefEqProofs -dsimp only[go_sem,seval, *]|simp(disch:=omega) only[ah,aj,ao,aw,ar,ag,au,aq]|with_reducible refine Zu ?_ ?_|(with_reducible refine Zt λoF hoF hnF hnF'=>?_;try simp only[aa,ne_eq,not_and] at hoF)|with_reducible refine lnx (i+1) ?_|with_reducible refine And.intro ?_ ?_|omega)
  ·have ei:i=d.sigs.length:=by omega
   subst ei;rw[cC,<-hbd];generalize hB:gK 4097 d.sigs=B at hfd|-;clear hle hbd hB hb b0;repeat' (first|simp -implicitDefEqProofs -dsimp only[go_sem,seval, *]|(with_reducible refine Zt λoF hoF hnF hnF'=>?_;try simp only[aa,ne_eq,not_and] at hoF))
   clear hlt hi;obtain⟨o6,e6⟩:∃x,x=oF:=⟨oF,rfl⟩;subst e6;have ho6:σ o6=none:=hoF;clear hoF hnF hnF'
   refine loop_rule (λi:Nat=>[(30,some (.int .i64 i)),(29,some (.int .i64 d.procs.length)),(28,some (.slice (d.procs.map encP) .no)),(6,some (.ptr o6 0)),(1,some (.cptr (dL d))),(3,some (.int .i64 B))])
    (λi=>aH σ o6 (mM (sumTo aZ d.procs i:Nat) (maxTo di d.procs i:Nat))) (λi=>i<=d.procs.length) (λi=>d.procs.length-i) 0 ?_ ?_
   ·clear p1 p3 hpl;(repeat' (first|simp -implicitDefEqProofs -dsimp only[go_sem,seval, *]|omega))
   ·intro i hi;have hle:=bz (f:=aZ) (l:=d.procs) (i:=i);have hle2:=dA (f:=di) (l:=d.procs) (i:=i);by_cases hlt:i<d.procs.length
    ·have hs:=bU (f:=aZ) hlt;have hs2:=cH (f:=di) hlt;have hb:=bz (f:=aZ) (l:=d.procs) (i:=i+1);have hpn:=hpl d.procs[i] (List.getElem_mem hlt);have hlen:=cq bG d.procs[i].l;have c1:=fun(t:T) (ht:t∈d.procs[i].l) τ=>p1 d.procs[i] (List.getElem_mem hlt) t ht τ;have u1:(d.procs[i].l.map nodesT).sum=aZ d.procs[i]:=rfl;have u2:cZ (d.procs[i].l.map deepT)=di d.procs[i]:=rfl;have g0:=bT (f:=nodesT) (l:=d.procs[i].l);have g1:=cG (f:=deepT) (l:=d.procs[i].l);obtain⟨A,hA⟩:∃x,sumTo aZ d.procs i=x:=⟨_,rfl⟩;obtain⟨C,hC⟩:∃x,maxTo di d.procs i=x:=⟨_,rfl⟩;rw[hA] at hs hle|-;rw[hC] at hs2 hle2|-;clear p1 p3 hpl hA hC;repeat' (first|simp -implicitDefEqProofs -dsimp only[go_sem,seval, *]|with_reducible refine Zu ?_ ?_|(with_reducible refine Zt λoF hoF hnF hnF'=>?_;try simp only[aa,ne_eq,not_and] at hoF))
     obtain⟨o8,e8⟩:∃x,x=oF:=⟨oF,rfl⟩;subst e8;obtain⟨q1,ho8⟩:=hoF;have q2:¬o6=o8:=λe=>q1 e.symm;clear hnF hnF'
     refine loop_rule (λk:Nat=>[(37,some (.int .i64 k)),(36,some (.int .i64 d.procs[i].l.length)),(35,some (.slice (d.procs[i].l.map encT) .no)),(6,some (.ptr o6 0)),(30,some (.int .i64 i)),(1,some (.cptr (dL d))),(3,some (.int .i64 B)),(29,some (.int .i64 d.procs.length)),(28,some (.slice (d.procs.map encP) .no))])
      (λk=>aH σ o6 (mM ((A:Int)+(sumTo nodesT d.procs[i].l k:Nat)) ((max C (maxTo deepT d.procs[i].l k):Nat):Int))) (λk=>k<=d.procs[i].l.length) (λk=>d.procs[i].l.length-k) 0 ?_ ?_
     ·clear c1;(repeat' (first|simp -implicitDefEqProofs -dsimp only[go_sem,seval, *]|with_reducible refine And.intro ?_ ?_|omega))
     ·intro k hk;have gle:=bz (f:=nodesT) (l:=d.procs[i].l) (i:=k);have gle2:=dA (f:=deepT) (l:=d.procs[i].l) (i:=k);by_cases hkt:k<d.procs[i].l.length
      ·have gs:=bU (f:=nodesT) hkt;have gs2:=cH (f:=deepT) hkt;have gb:=bz (f:=nodesT) (l:=d.procs[i].l) (i:=k+1);have hc:=λτ=>c1 d.procs[i].l[k] (List.getElem_mem hkt) τ;have hcm:((max C (maxTo deepT d.procs[i].l (k+1)):Nat):Int)=max ((max C (maxTo deepT d.procs[i].l k):Nat):Int) (deepT d.procs[i].l[k]:Nat):=by have:=gs2;omega
       have hcs:((A:Int)+(sumTo nodesT d.procs[i].l (k+1):Nat))=((A:Int)+(sumTo nodesT d.procs[i].l k:Nat))+(nodesT d.procs[i].l[k]:Nat):=by have:=gs;omega
       have hadd:=fun(τ:aA) (h:τ o6=some (mM ((A:Int)+(sumTo nodesT d.procs[i].l k:Nat)) ((max C (maxTo deepT d.procs[i].l k):Nat):Int)))=>pX o6 ((A:Int)+(sumTo nodesT d.procs[i].l k:Nat)) ((max C (maxTo deepT d.procs[i].l k):Nat):Int) (nodesT d.procs[i].l[k]:Nat) (deepT d.procs[i].l[k]:Nat) τ h (by omega) (by omega);obtain⟨X,hX⟩:∃x,((A:Int)+(sumTo nodesT d.procs[i].l k:Nat))=x:=⟨_,rfl⟩;obtain⟨Y,hY⟩:∃x,((max C (maxTo deepT d.procs[i].l k):Nat):Int)=x:=⟨_,rfl⟩;rw[hX] at hcs hadd|-;rw[hY] at hcm hadd|-;clear c1 gs gs2 hX hY gle gle2 gb hs hs2;repeat' (first|simp -implicitDefEqProofs -dsimp only[go_sem,seval, *]|simp(disch:=omega) only[ah,aj,ao,aw,ar,ag,au,aq]|with_reducible refine Zu ?_ ?_|(with_reducible refine Zt λoF hoF hnF hnF'=>?_;try simp only[aa,ne_eq,not_and] at hoF)|with_reducible refine kc1 (hc _) ?_|with_reducible refine kc1 (hadd _ ?_) ?_)
       refine bP _ _ _ _ (k+1) ?_;rw[hcs,hcm];(repeat' (first|simp -implicitDefEqProofs -dsimp only[go_sem,seval, *]|with_reducible refine And.intro ?_ ?_|omega))
      ·have ek:k=d.procs[i].l.length:=by omega
       subst ek;rw[cC,c9,u1,u2];have v1:(A:Int)+(aZ d.procs[i]:Nat)=(sumTo aZ d.procs (i+1):Nat):=by omega
       have v2:max C (di d.procs[i])=maxTo di d.procs (i+1):=by omega
       rw[v1,v2];clear c1 hs hs2 v1 v2;repeat' (first|simp -implicitDefEqProofs -dsimp only[go_sem,seval, *]|simp(disch:=omega) only[ah,aj,ao,aw,ar,ag,au,aq]|with_reducible refine lnx (i+1) ?_|with_reducible refine And.intro ?_ ?_|omega)
    ·have ei:i=d.procs.length:=by omega
     subst ei;rw[cC,c9];clear p1;repeat' simp -implicitDefEqProofs -dsimp only[go_sem,seval, *]
     obtain⟨A,hA⟩:∃x,(d.procs.map aZ).sum=x:=⟨_,rfl⟩;obtain⟨C,hC⟩:∃x,cZ (d.procs.map di)=x:=⟨_,rfl⟩;rw[hA] at hN|-;rw[hC] at hD|-;clear hA hC hlt hi hle hle2 hpl
     refine loop_rule (λk:Nat=>[(49,some (.int .i64 k)),(48,some (.int .i64 d.chks.length)),(47,some (.slice (d.chks.map encC) .no)),(6,some (.ptr o6 0)),(1,some (.cptr (dL d))),(3,some (.int .i64 B))])
      (λk=>aH σ o6 (mM ((A:Int)+(sumTo (λc:Ck=>nodes c.e) d.chks k:Nat)) ((max C (maxTo (λc:Ck=>deep c.e) d.chks k):Nat):Int))) (λk=>k<=d.chks.length) (λk=>d.chks.length-k) 0 ?_ ?_
     ·clear p3;(repeat' (first|simp -implicitDefEqProofs -dsimp only[go_sem,seval, *]|with_reducible refine And.intro ?_ ?_|omega))
     ·intro k hk;have gle:=bz (f:=λc:Ck=>nodes c.e) (l:=d.chks) (i:=k);have gle2:=dA (f:=λc:Ck=>deep c.e) (l:=d.chks) (i:=k);by_cases hkt:k<d.chks.length
      ·have gs:=bU (f:=λc:Ck=>nodes c.e) hkt;have gs2:=cH (f:=λc:Ck=>deep c.e) hkt;have gb:=bz (f:=λc:Ck=>nodes c.e) (l:=d.chks) (i:=k+1);have hc:=λτ=>p3 d.chks[k] (List.getElem_mem hkt) τ;have hcm:((max C (maxTo (λc:Ck=>deep c.e) d.chks (k+1)):Nat):Int)=max ((max C (maxTo (λc:Ck=>deep c.e) d.chks k):Nat):Int) (deep d.chks[k].e:Nat):=by have:=gs2;omega
       have hcs:((A:Int)+(sumTo (λc:Ck=>nodes c.e) d.chks (k+1):Nat))=((A:Int)+(sumTo (λc:Ck=>nodes c.e) d.chks k:Nat))+(nodes d.chks[k].e:Nat):=by have:=gs;omega
       have hadd:=fun(τ:aA) (h:τ o6=some (mM ((A:Int)+(sumTo (λc:Ck=>nodes c.e) d.chks k:Nat)) ((max C (maxTo (λc:Ck=>deep c.e) d.chks k):Nat):Int)))=>pX o6 ((A:Int)+(sumTo (λc:Ck=>nodes c.e) d.chks k:Nat)) ((max C (maxTo (λc:Ck=>deep c.e) d.chks k):Nat):Int) (nodes d.chks[k].e:Nat) (deep d.chks[k].e:Nat) τ h (by omega) (by omega);obtain⟨X,hX⟩:∃x,((A:Int)+(sumTo (λc:Ck=>nodes c.e) d.chks k:Nat))=x:=⟨_,rfl⟩;obtain⟨Y,hY⟩:∃x,((max C (maxTo (λc:Ck=>deep c.e) d.chks k):Nat):Int)=x:=⟨_,rfl⟩;rw[hX] at hcs hadd|-;rw[hY] at hcm hadd|-;clear p3 gs gs2 hX hY gle gle2 gb;repeat' (first|simp -implicitDefEqProofs -dsimp only[go_sem,seval, *]|simp(disch:=omega) only[ah,aj,ao,aw,ar,ag,au,aq]|with_reducible refine Zu ?_ ?_|(with_reducible refine Zt λoF hoF hnF hnF'=>?_;try simp only[aa,ne_eq,not_and] at hoF)|with_reducible refine kc1 (hc _) ?_|with_reducible refine kc1 (hadd _ ?_) ?_)
       refine bP _ _ _ _ (k+1) ?_;rw[hcs,hcm];(repeat' (first|simp -implicitDefEqProofs -dsimp only[go_sem,seval, *]|with_reducible refine And.intro ?_ ?_|omega))
      ·have ek:k=d.chks.length:=by omega
       subst ek;rw[cC,c9];have v1:(A:Int)+((d.chks.map λc:Ck=>nodes c.e).sum:Nat)=(nodesD d:Nat):=by omega
       rw[v1,<-hD];have hcf:=λτ=>uU (nodesD d:Nat) (deepD d:Nat) τ;clear p3 v1 gle gle2 e0 e1 e2 e3 hN hD;generalize hx:eN d=x at hfd|-;cases x with
       |true=>
        replace hfd:=of_decide_eq_true hfd.symm;obtain⟨h1,h2,h3,h4,h5⟩:=hfd;have i1:(nodesD d:Int)<=65536:=by omega
        have i2:(deepD d:Int)<=64:=by omega
        have i3:(d.sigs.length:Int)<=512:=by omega
        have i4:(d.procs.length:Int)<=1024:=by omega
        have i5:(B:Int)<=4096:=by omega
        repeat' (first|simp -implicitDefEqProofs -dsimp only[go_sem,seval,decide_true, *]|with_reducible refine kc1 (hcf _) ?_|refine fin_eq ?_)
       |false=>
        replace hfd:=of_decide_eq_false hfd.symm;repeat' (first|simp -implicitDefEqProofs -dsimp only[go_sem,seval, *]|(with_reducible (first|apply Za|apply Zb|apply Zc|apply Zd|apply Ze|apply Zf|apply Zg|apply Zh|apply Zi|apply Zj|apply Zk|apply Zl|apply Zm|apply Zn|apply Zo|apply Zp|apply Zq|apply Zr|apply Zs)<;>intro hq)|with_reducible refine kc1 (hcf _) ?_)
        all_goals first|(exfalso;omega)|skip
        all_goals
         refine fin_eq ?_;(repeat' simp -implicitDefEqProofs -dsimp only[go_sem,seval, *])
        all_goals
         rw[eq_comm,Bool.and_eq_false_iff,decide_eq_false_iff_not,decide_eq_false_iff_not];omega
end Go.Proofs.YtbbihmmobfmadaaGreat.S
namespace Go.Proofs.YtbbihmmobfmadaaGreat.S
open Abs Fil Fil.Sz
open Go.Shelf Go.Lib
def D2:Ren where
 f:=λx=>match x with
  |129=>192
  |n=>n
 t:=λx=>match x with
  |53=>33
  |46=>195
  |n=>n
 g:=λx=>x
theorem HN:Tryz.f192=Body.n129 D2:=by kernel_rfl
theorem lays129:Lays.n129 Tryz.prog D2:=
  { mixed := by kernel_rfl, f129 := Eq.trans Tryz.func192 (congrArg some HN),
    t3:=Tryz.underlying3,a3:=Tryz.isAgg3,z3:=Tryz.sizeOf3,v3:=Tryz.zeroValue3,
    t4:=Tryz.underlying4,a4:=Tryz.isAgg4,z4:=Tryz.sizeOf4,v4:=Tryz.zeroValue4,
    t5:=Tryz.underlying5,a5:=Tryz.isAgg5,z5:=Tryz.sizeOf5,v5:=Tryz.zeroValue5,
    t9:=Tryz.underlying9,a9:=Tryz.isAgg9,z9:=Tryz.sizeOf9,v9:=Tryz.zeroValue9,
    t46:=Tryz.underlying195,a46:=Tryz.isAgg195,z46:=Tryz.sizeOf195,v46:=Tryz.zeroValue195,
    t53:=Tryz.underlying33,a53:=Tryz.isAgg33,z53:=Tryz.sizeOf33,v53:=Tryz.zeroValue33}
theorem rU:∀(f x k:Nat),x<2^f->bitLenAux f x<=k->x<2^k
 |0,x,k,hx,_=>by have:0<2^k:=Nat.two_pow_pos k;omega
 |f+1,x,k,hx,h=>by
  unfold bitLenAux at h;split at h
  ·have:0<2^k:=Nat.two_pow_pos k;omega
  ·match k,h with
   |k+1,h=>
    have:=rU f (x/2) k (by rw[Nat.pow_succ] at hx;omega) (by omega)
    rw[Nat.pow_succ];omega
   |0,h=>omega
theorem AS(w v:Int)(h0:0<=w)(hv:EI v):decide ((bitLen v.toNat:Int)<=w)=holds w v:=by
 unfold holds;have e:(2:Int)^w.toNat=((2^w.toNat:Nat):Int):=by simp
 rw[e];obtain⟨k,rfl⟩:∃k:Nat,w=k:=⟨w.toNat,by omega⟩;obtain⟨x,rfl⟩:∃k:Nat,v=k:=⟨v.toNat,by have:=hv.1;omega⟩;have hx:x<2^64:=by have:=hv.2;omega
 simp only[Int.toNat_natCast,Int.ofNat_lt,Int.ofNat_le];rw[decide_eq_decide];constructor
 ·intro h;exact rU 64 x k hx h
 ·intro h;by_cases hk:k<=64
  ·exact bitLen_le x k hk h
  ·have:=bitLen_le x 64 (Nat.le_refl _) hx
   omega
theorem D3(v:Int)(σ:aA)(hv:EI v):C_ 192 [.int .u64 v] σ (.int .i64 (bitLen v.toNat)) σ:=by
 refine⟨?_,λS K w vals hS hr hs=>?_⟩
 ·simp only[ct,lays129.f129];rw[Tryz.func192];rfl
 ·obtain⟨vs⟩:=vals;obtain⟨hl,hrel⟩:=hr;simp only[List.length_cons,List.length_nil] at hl;match vs,hl with
  |[v0],_=>
   have r0:=hrel 0 (by simp) (by simp);simp only[List.getElem_cons_zero] at r0;have e0:=aN r0;subst e0;refine(Any.bits_Len64 lays129 v w hv.1 hv.2).mono ?_;rintro e w' ⟨rfl,rfl⟩;exact⟨K, .ret (.int .i64 (bitLen v.toNat)),σ,Gh.leS.refl K,hs, .int _ _,rfl,rfl⟩
theorem lU(w v:Int)(σ:aA)(h0:0<=w)(hv:EI v):C_ 127 [.int .i64 w, .int .u64 v] σ (.bool (holds w v)) σ:=by
 have hc:=λτ=>D3 v τ hv;rw[<-AS w v h0 hv];refine gO [] Tryz.func127 (by kernel_rfl) (by conv=>lhs;reduce;dsimp only[iA]) rfl ?_;repeat' (first|simp -implicitDefEqProofs -dsimp only[go_sem,seval, *]|refine kc1 (hc _) ?_|refine fin_eq ?_)
theorem D4(v:Int)(k:Nat)(h:0<=v):v.fdiv (2^k)=0↔v<2^k:=by
 have hp:(0:Int)<2^k:=Int.pow_pos (by omega);rw[Int.fdiv_eq_ediv_of_nonneg _ (by omega)];constructor
 ·intro e;rcases Int.lt_or_le v (2^k) with q|q
  ·exact q
  ·have:=Int.ediv_pos_of_pos_of_dvd (a:=2^k) (b:=2^k) hp (by omega) (Int.dvd_refl _)
   have h3:2^k/2^k<=v/2^k:=Int.ediv_le_ediv hp q;omega
 ·intro e;exact Int.ediv_eq_zero_of_lt h e
theorem pY(w v:Int)(σ:aA)(h0:0<=w)(h1:w<=9223372036854775807)(hv:EI v):C_ 203 [.int .i64 w, .int .u64 v] σ (.bool (holds w v)) σ:=by
 refine gO [] Tryz.func203 (by kernel_rfl) (by conv=>lhs;reduce;dsimp only[iA]) rfl ?_;by_cases hw:64<=w
 ·have hh:holds w v=true:=by
   unfold holds;rw[decide_eq_true_eq];have e:(2:Int)^w.toNat=((2^w.toNat:Nat):Int):=by simp
   have:=Nat.pow_le_pow_right (n:=2) (by omega) (show 64<=w.toNat by omega)
   have:=hv.2
   rw[e];omega
  repeat' (first|simp -implicitDefEqProofs -dsimp only[go_sem,seval,ge_iff_le, *]|refine fin_eq ?_)
 ·have e1:w.toNat.min 64=w.toNat:=Nat.min_eq_left (by omega);have hf:=D4 v w.toNat hv.1
  have hh:(v.fdiv (2^w.toNat)==0)=holds w v:=by
   unfold holds;rw[Bool.eq_iff_iff,beq_iff_eq,decide_eq_true_eq];exact hf
  have hwr:IntKind.u64.wrap w=w:=by simp[Go.IntKind.wrap,Go.IntKind.signed,Go.IntKind.bits];omega
  have hn:¬w<0:=by omega
  clear hf;repeat' (first|simp -implicitDefEqProofs -dsimp only[go_sem,seval,ge_iff_le, *]|refine fin_eq ?_)
theorem rV{g:List Sg}{sig hi lo:Int}(h:sig.toNat<g.length):place g sig hi lo=(decide (0<=sig)&&decide (sig<g.length)&&decide (0<=lo)&&decide (lo<=hi)&&decide (hi<(g[sig.toNat]).w)):=by
 unfold place;simp[List.getD_eq_getElem?_getD,h]
theorem pZ(g:List Sg)(sig hi lo:Int)(σ:aA)(hg:g.length<=1000000000000):C_ 193 [.slice (g.map encS) .no, .int .i64 sig, .int .i64 hi, .int .i64 lo] σ (.bool (place g sig hi lo)) σ:=by
 refine gO [] Tryz.func193 (by kernel_rfl) (by conv=>lhs;reduce;dsimp only[iA]) rfl ?_;by_cases h:0<=sig/\sig<g.length
 ·obtain⟨h1,h2⟩:=h;have hl:sig.toNat<g.length:=by omega
  have hp:=rV (sig:=sig) (hi:=hi) (lo:=lo) hl;simp only[h1,h2,decide_true,Bool.true_and] at hp;repeat' (first|simp -implicitDefEqProofs -dsimp only[go_sem,seval,ge_iff_le, *]|(with_reducible (first|apply Za|apply Zb|apply Zc|apply Zd|apply Ze|apply Zf|apply Zg|apply Zh|apply Zi|apply Zj|apply Zk|apply Zl|apply Zm|apply Zn|apply Zo|apply Zp|apply Zq|apply Zr|apply Zs)<;>intro hq)|with_reducible refine Zu ?_ ?_|(refine fin_eq ?_;repeat' simp -implicitDefEqProofs -dsimp only[go_sem,seval,decide_true,decide_false,Bool.true_and,Bool.false_and, *]))
 ·have hp:place g sig hi lo=false:=by
   cases hh:place g sig hi lo with
   |false=>rfl
   |true=>have:=place_iff.1 hh;exact(h ⟨this.1,this.2.1⟩).elim
  repeat' (first|simp -implicitDefEqProofs -dsimp only[go_sem,seval,ge_iff_le, *]|(with_reducible (first|apply Za|apply Zb|apply Zc|apply Zd|apply Ze|apply Zf|apply Zg|apply Zh|apply Zi|apply Zj|apply Zk|apply Zl|apply Zm|apply Zn|apply Zo|apply Zp|apply Zq|apply Zr|apply Zs)<;>intro hq)|with_reducible refine Zu ?_ ?_|omega)
  all_goals first|(exfalso;omega)|skip
  all_goals
   refine fin_eq ?_;(repeat' simp -implicitDefEqProofs -dsimp only[go_sem,seval, *])
theorem uV(g:List Sg)(sig hi lo:Int)(σ:aA)(hg:g.length<=1000000000000):C_ 239 [.slice (g.map encS) .no, .int .i64 sig, .int .i64 hi, .int .i64 lo] σ (.bool (place g sig hi lo)) σ:=by
 refine gO [] Tryz.func239 (by kernel_rfl) (by conv=>lhs;reduce;dsimp only[iA]) rfl ?_;by_cases h:0<=sig/\sig<g.length
 ·obtain⟨h1,h2⟩:=h;have hl:sig.toNat<g.length:=by omega
  have hp:=rV (sig:=sig) (hi:=hi) (lo:=lo) hl;simp only[h1,h2,decide_true,Bool.true_and] at hp;repeat' (first|simp -implicitDefEqProofs -dsimp only[go_sem,seval,ge_iff_le, *]|(with_reducible (first|apply Za|apply Zb|apply Zc|apply Zd|apply Ze|apply Zf|apply Zg|apply Zh|apply Zi|apply Zj|apply Zk|apply Zl|apply Zm|apply Zn|apply Zo|apply Zp|apply Zq|apply Zr|apply Zs)<;>intro hq)|with_reducible refine Zu ?_ ?_|(refine fin_eq ?_;repeat' simp -implicitDefEqProofs -dsimp only[go_sem,seval,decide_true,decide_false,Bool.true_and,Bool.false_and, *]))
 ·have hp:place g sig hi lo=false:=by
   cases hh:place g sig hi lo with
   |false=>rfl
   |true=>have:=place_iff.1 hh;exact(h ⟨this.1,this.2.1⟩).elim
  repeat' (first|simp -implicitDefEqProofs -dsimp only[go_sem,seval,ge_iff_le, *]|(with_reducible (first|apply Za|apply Zb|apply Zc|apply Zd|apply Ze|apply Zf|apply Zg|apply Zh|apply Zi|apply Zj|apply Zk|apply Zl|apply Zm|apply Zn|apply Zo|apply Zp|apply Zq|apply Zr|apply Zs)<;>intro hq)|with_reducible refine Zu ?_ ?_|omega)
  all_goals first|(exfalso;omega)|skip
  all_goals
   refine fin_eq ?_;(repeat' simp -implicitDefEqProofs -dsimp only[go_sem,seval, *])
end Go.Proofs.YtbbihmmobfmadaaGreat.S
namespace Go.Proofs.YtbbihmmobfmadaaGreat.S
open Abs Fil Fil.Sz
theorem D5(s:Sg):(s.name.toList==(⟨#[]⟩:ByteArray).toList)=decide (s.name=jI):=j9 _ _
theorem p8(l:List Sg)(σ:aA)(hl:l.length<=1000000000000):C_ 138 [.slice (l.map encS) .no] σ (.bool (cr l)) σ:=by
 refine gO [] Tryz.func138 (by kernel_rfl) (by conv=>lhs;reduce;dsimp only[iA]) rfl ?_;have k0:tE (.one 2) (.str ⟨#[]⟩) (.bool true) []=some (qE (g8 l 0)):=rfl;have kk:=Hz;repeat' (first|simp -implicitDefEqProofs -dsimp only[go_sem,seval, *]|simp(disch:=omega) only[ah,aj,ao,aw,ar,ag,au,aq]|(refine Zt λoF hoF hnF hnF'=>?_;try simp only[aa,ne_eq,not_and] at hoF))
 obtain⟨o,eo⟩:∃x,x=oF:=⟨oF,rfl⟩;subst eo;have ho:σ o=none:=hoF;clear hoF hnF hnF' k0
 refine loop_rule (λi:Nat=>[(10,some (.int .i64 i)),(9,some (.int .i64 l.length)),(8,some (.slice (l.map encS) .no)),(3,some (.map o))])
  (λi=>aH σ o (.map true (qE (g8 l i)))) (λi=>i<=l.length/\AF l i) (λi=>l.length-i) 0 ?_ ?_
 ·(repeat' (first|simp -implicitDefEqProofs -dsimp only[go_sem,seval, *]|refine And.intro ?_ ?_|omega))
  intro j _ h;omega
 ·rintro i ⟨hi,hok⟩;by_cases hlt:i<l.length
  ·have hns:=xp hlt;have hout:=AG hlt;by_cases hg:MW l i hlt
   ·have hstep:=rL hlt hok hg;obtain⟨⟨g1,g2,g3,g4,g5,g6⟩,g7⟩:=hg;have hm:=hout.2 ⟨g1,g7⟩;have hlk:=pK hm;have hst:=yE hm;rw[<-hns] at hst;clear g7 hm hout hns g1 hok;by_cases hk:l[i].kind=4
    ·have hk2:(l[i].kind != 4)=false:=by simp[hk]
     repeat' (first|simp -implicitDefEqProofs -dsimp only[go_sem,seval,gt_iff_lt,Option.getD_none, *]|simp(disch:=omega) only[ah,aj,ao,aw,ar,ag,au,aq]|(with_reducible (first|apply Za|apply Zb|apply Zc|apply Zd|apply Ze|apply Zf|apply Zg|apply Zh|apply Zi|apply Zj|apply Zk|apply Zl|apply Zm|apply Zn|apply Zo|apply Zp|apply Zq|apply Zr|apply Zs)<;>intro hq)|refine Zu ?_ ?_|(refine Zt λoF hoF hnF hnF'=>?_;try simp only[aa,ne_eq,not_and] at hoF)|omega)
     all_goals first|(exfalso;omega)|skip
     refine lnx (i+1) ?_;(repeat' (first|simp -implicitDefEqProofs -dsimp only[go_sem,seval, *]|refine And.intro ?_ ?_|omega))
    ·have hk2:(l[i].kind != 4)=true:=by simp[hk]
     have hin:(l[i].init != 0)=false:=by
      rcases g6 with h|h
      ·exact(hk h).elim
      ·simp[h]
     repeat' (first|simp -implicitDefEqProofs -dsimp only[go_sem,seval,gt_iff_lt,Option.getD_none, *]|simp(disch:=omega) only[ah,aj,ao,aw,ar,ag,au,aq]|(with_reducible (first|apply Za|apply Zb|apply Zc|apply Zd|apply Ze|apply Zf|apply Zg|apply Zh|apply Zi|apply Zj|apply Zk|apply Zl|apply Zm|apply Zn|apply Zo|apply Zp|apply Zq|apply Zr|apply Zs)<;>intro hq)|refine Zu ?_ ?_|(refine Zt λoF hoF hnF hnF'=>?_;try simp only[aa,ne_eq,not_and] at hoF)|omega)
     all_goals first|(exfalso;omega)|skip
     refine lnx (i+1) ?_;(repeat' (first|simp -implicitDefEqProofs -dsimp only[go_sem,seval, *]|refine And.intro ?_ ?_|omega))
   ·have hb:=pH hlt hg;clear hok hns;by_cases hm:l[i].name∈g8 l i
    ·have hlk:=yD hm;repeat' (first|simp -implicitDefEqProofs -dsimp only[go_sem,seval,gt_iff_lt,Option.getD_some, *]|refine Zu ?_ ?_|(refine Zt λoF hoF hnF hnF'=>?_;try simp only[aa,ne_eq,not_and] at hoF)|refine fin_eq ?_)
    ·have hlk:=pK hm;have hm2:=hout.1 hm;have hg2:¬(1<=l[i].w/\l[i].w<=64/\1<=l[i].kind/\l[i].kind<=4/\(l[i].kind=4\/l[i].init=0)):=fun⟨a1,a2,a3,a4,a5⟩=>hg ⟨⟨hm2.1,a1,a2,a3,a4,a5⟩,hm2.2⟩;clear hg hm hm2 hout;repeat' (first|simp -implicitDefEqProofs -dsimp only[go_sem,seval,gt_iff_lt,Option.getD_none, *]|(with_reducible (first|apply Za|apply Zb|apply Zc|apply Zd|apply Ze|apply Zf|apply Zg|apply Zh|apply Zi|apply Zj|apply Zk|apply Zl|apply Zm|apply Zn|apply Zo|apply Zp|apply Zq|apply Zr|apply Zs)<;>intro hq)|refine Zu ?_ ?_|(refine Zt λoF hoF hnF hnF'=>?_;try simp only[aa,ne_eq,not_and] at hoF)|omega)
     all_goals first|(exfalso;apply hg2;omega)|skip
     all_goals
      refine fin_eq ?_;(repeat' simp -implicitDefEqProofs -dsimp only[go_sem,seval, *])
  ·have ei:i=l.length:=by omega
   subst ei;have hs:cr l=true:=ja.2 hok;clear hok;repeat' (first|simp -implicitDefEqProofs -dsimp only[go_sem,seval, *]|refine fin_eq ?_)
theorem p9(l:List Sg)(σ:aA)(hl:l.length<=1000000000000):C_ 153 [.slice (l.map encS) .no] σ (.bool (cr l)) σ:=by
 refine gO [] Tryz.func153 (by kernel_rfl) (by conv=>lhs;reduce;dsimp only[iA]) rfl ?_;repeat' (first|simp -implicitDefEqProofs -dsimp only[go_sem,seval, *]|simp(disch:=omega) only[ah,aj,ao,aw,ar,ag,au,aq])
 refine loop_rule (λi:Nat=>[(3,some (.int .i64 i)),(0,some (.slice (l.map encS) .no))])
  (λi=>σ) (λi=>i<=l.length/\AF l i) (λi=>l.length-i) 0 ?_ ?_
 ·(repeat' (first|simp -implicitDefEqProofs -dsimp only[go_sem,seval, *]|refine And.intro ?_ ?_|omega))
  intro j _ h;omega
 ·rintro i ⟨hi,hok⟩;by_cases hlt:i<l.length
  ·have hnm:=D5 l[i];by_cases hg:mH l[i]
   ·have hstep:=λh=>rL hlt hok ⟨hg,h⟩;have hbad:=fun(k:Nat) (hk:k<i) (h:(l[k]'(by omega)).name=l[i].name)=>pH hlt (λhh:mH l[i]/\∀k,(hk:k<i)->¬(l[k]'(by omega)).name=l[i].name=>hh.2 k hk h);obtain⟨g1,g2,g3,g4,g5,g6⟩:=hg;have hnm2:decide (l[i].name=jI)=false:=by simp[g1]
    rw[hnm2] at hnm;clear g1 hok hnm2
    obtain⟨b,hk2,hin⟩:∃b,(l[i].kind != 4)=b/\(b=true->(l[i].init != 0)=false):=⟨_,rfl,λh=>by
     rcases g6 with q|q
     ·rw[q] at h;simp at h
     ·simp[q]⟩
    clear g6;cases b
    ·clear hin;repeat' (first|simp -implicitDefEqProofs -dsimp only[go_sem,seval,gt_iff_lt, *]|(with_reducible (first|apply Za|apply Zb|apply Zc|apply Zd|apply Ze|apply Zf|apply Zg|apply Zh|apply Zi|apply Zj|apply Zk|apply Zl|apply Zm|apply Zn|apply Zo|apply Zp|apply Zq|apply Zr|apply Zs)<;>intro hq)|refine Zu ?_ ?_|(refine Zt λoF hoF hnF hnF'=>?_;try simp only[aa,ne_eq,not_and] at hoF)|omega)
     all_goals first|(exfalso;omega)|skip
     obtain⟨o,eo⟩:∃x,x=oF:=⟨oF,rfl⟩;subst eo;have ho:σ o=none:=hoF;clear hoF hnF hnF'
     refine loop_rule (λk:Nat=>[(5,some (.int .i64 k)),(3,some (.int .i64 i)),(0,some (.slice (l.map encS) .no)),(4,some (.ptr o 0))])
      (λ_=>aH σ o (.cells [.str l[i].name, .int .i64 l[i].w, .int .i64 l[i].kind, .int .u64 l[i].init])) (λk=>k<=i/\∀j,(h:j<k)->(hi:k<=i)->¬(l[j]'(by omega)).name=l[i].name) (λk=>i-k) 0 ?_ ?_
     ·clear hstep hbad;(repeat' (first|simp -implicitDefEqProofs -dsimp only[go_sem,seval, *]|refine And.intro ?_ ?_|omega))
     ·rintro k ⟨hk,hokk⟩;by_cases hkt:k<i
      ·have hkl:k<l.length:=by omega
       have hki:(k:Int)<i:=by omega
       have hsb:=j9 l[k].name l[i].name;by_cases he:l[k].name=l[i].name
       ·have hv:=hbad k hkt he;have hd:decide (l[k].name=l[i].name)=true:=by simp[he]
        rw[hd] at hsb;clear hstep hbad hokk he hd;repeat' (first|simp -implicitDefEqProofs -dsimp only[go_sem,seval, *]|refine Zu ?_ ?_|refine fin_eq ?_)
       ·have hd:decide (l[k].name=l[i].name)=false:=by simp[he]
        rw[hd] at hsb;clear hstep hbad hd
        have hn:∀j,(h:j<k+1)->¬(l[j]'(by omega)).name=l[i].name:=λj h=>by
         rcases Nat.lt_or_ge j k with q|q
         ·exact hokk j q (by omega)
         ·obtain rfl:j=k:=by omega
          exact he
        clear hokk he;repeat' (first|simp -implicitDefEqProofs -dsimp only[go_sem,seval, *]|simp(disch:=omega) only[ah,aj,ao,aw,ar,ag,au,aq]|refine Zu ?_ ?_|refine lnx (k+1) ?_|refine And.intro ?_ ?_|omega)
        exact λj h _=>hn j h
      ·have ek:k=i:=by omega
       subst ek;have hki:¬(k:Int)<k:=by omega
       have hn:=hstep λj h=>hokk j h (Nat.le_refl _);clear hstep hbad hokk;repeat' (first|simp -implicitDefEqProofs -dsimp only[go_sem,seval, *]|simp(disch:=omega) only[ah,aj,ao,aw,ar,ag,au,aq]|refine lnx (k+1) ?_|refine And.intro ?_ ?_|omega)
    ·replace hin:=hin rfl;repeat' (first|simp -implicitDefEqProofs -dsimp only[go_sem,seval,gt_iff_lt, *]|(with_reducible (first|apply Za|apply Zb|apply Zc|apply Zd|apply Ze|apply Zf|apply Zg|apply Zh|apply Zi|apply Zj|apply Zk|apply Zl|apply Zm|apply Zn|apply Zo|apply Zp|apply Zq|apply Zr|apply Zs)<;>intro hq)|refine Zu ?_ ?_|(refine Zt λoF hoF hnF hnF'=>?_;try simp only[aa,ne_eq,not_and] at hoF)|omega)
     all_goals first|(exfalso;omega)|skip
     obtain⟨o,eo⟩:∃x,x=oF:=⟨oF,rfl⟩;subst eo;have ho:σ o=none:=hoF;clear hoF hnF hnF' hin
     refine loop_rule (λk:Nat=>[(5,some (.int .i64 k)),(3,some (.int .i64 i)),(0,some (.slice (l.map encS) .no)),(4,some (.ptr o 0))])
      (λ_=>aH σ o (.cells [.str l[i].name, .int .i64 l[i].w, .int .i64 l[i].kind, .int .u64 l[i].init])) (λk=>k<=i/\∀j,(h:j<k)->(hi:k<=i)->¬(l[j]'(by omega)).name=l[i].name) (λk=>i-k) 0 ?_ ?_
     ·clear hstep hbad;(repeat' (first|simp -implicitDefEqProofs -dsimp only[go_sem,seval, *]|refine And.intro ?_ ?_|omega))
     ·rintro k ⟨hk,hokk⟩;by_cases hkt:k<i
      ·have hkl:k<l.length:=by omega
       have hki:(k:Int)<i:=by omega
       have hsb:=j9 l[k].name l[i].name;by_cases he:l[k].name=l[i].name
       ·have hv:=hbad k hkt he;have hd:decide (l[k].name=l[i].name)=true:=by simp[he]
        rw[hd] at hsb;clear hstep hbad hokk he hd;repeat' (first|simp -implicitDefEqProofs -dsimp only[go_sem,seval, *]|refine Zu ?_ ?_|refine fin_eq ?_)
       ·have hd:decide (l[k].name=l[i].name)=false:=by simp[he]
        rw[hd] at hsb;clear hstep hbad hd
        have hn:∀j,(h:j<k+1)->¬(l[j]'(by omega)).name=l[i].name:=λj h=>by
         rcases Nat.lt_or_ge j k with q|q
         ·exact hokk j q (by omega)
         ·obtain rfl:j=k:=by omega
          exact he
        clear hokk he;repeat' (first|simp -implicitDefEqProofs -dsimp only[go_sem,seval, *]|simp(disch:=omega) only[ah,aj,ao,aw,ar,ag,au,aq]|refine Zu ?_ ?_|refine lnx (k+1) ?_|refine And.intro ?_ ?_|omega)
        exact λj h _=>hn j h
      ·have ek:k=i:=by omega
       subst ek;have hki:¬(k:Int)<k:=by omega
       have hn:=hstep λj h=>hokk j h (Nat.le_refl _);clear hstep hbad hokk;repeat' (first|simp -implicitDefEqProofs -dsimp only[go_sem,seval, *]|simp(disch:=omega) only[ah,aj,ao,aw,ar,ag,au,aq]|refine lnx (k+1) ?_|refine And.intro ?_ ?_|omega)
   ·have hb:=pH hlt (λhh=>hg hh.1);clear hok;by_cases hm:l[i].name=jI
    ·have hnm2:decide (l[i].name=jI)=true:=by simp[hm]
     rw[hnm2] at hnm;clear hm hnm2;repeat' (first|simp -implicitDefEqProofs -dsimp only[go_sem,seval,gt_iff_lt, *]|refine Zu ?_ ?_|(refine Zt λoF hoF hnF hnF'=>?_;try simp only[aa,ne_eq,not_and] at hoF)|refine fin_eq ?_)
    ·have hnm2:decide (l[i].name=jI)=false:=by simp[hm]
     rw[hnm2] at hnm;have hg2:¬(1<=l[i].w/\l[i].w<=64/\1<=l[i].kind/\l[i].kind<=4/\(l[i].kind=4\/l[i].init=0)):=fun⟨a1,a2,a3,a4,a5⟩=>hg ⟨hm,a1,a2,a3,a4,a5⟩;clear hg hm hnm2;repeat' (first|simp -implicitDefEqProofs -dsimp only[go_sem,seval,gt_iff_lt, *]|(with_reducible (first|apply Za|apply Zb|apply Zc|apply Zd|apply Ze|apply Zf|apply Zg|apply Zh|apply Zi|apply Zj|apply Zk|apply Zl|apply Zm|apply Zn|apply Zo|apply Zp|apply Zq|apply Zr|apply Zs)<;>intro hq)|refine Zu ?_ ?_|(refine Zt λoF hoF hnF hnF'=>?_;try simp only[aa,ne_eq,not_and] at hoF)|omega)
     all_goals first|(exfalso;apply hg2;omega)|skip
     all_goals
      refine fin_eq ?_;(repeat' simp -implicitDefEqProofs -dsimp only[go_sem,seval, *])
  ·have ei:i=l.length:=by omega
   subst ei;have hs:cr l=true:=ja.2 hok;clear hok;repeat' (first|simp -implicitDefEqProofs -dsimp only[go_sem,seval, *]|refine fin_eq ?_)
end Go.Proofs.YtbbihmmobfmadaaGreat.S
