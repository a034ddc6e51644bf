/- Short names for the steps of a walk. -/
import Derived.Defers
import Derived.Recover
import Derived.Test.YtbbihmmobfmadaaGreatWAbsL
set_option linter.unusedSimpArgs false
set_option linter.unusedVariables false
namespace Abs
open Go
theorem Sub.get{σ τ:aA}(h:Sub σ τ){o:Nat}{x:AObj}(e:σ o=some x):τ o=some x:=h o x e
theorem id_one0{P:Program}{f:FuncId}{args:List AV}{σ σb:aA}{v:AV}{k:AV->List (Nat×AObj)->Prop}{tk:Tg k}(h:∀τ,Sub σb τ->ACalls P f args τ (λr s=>r= .ret v/\s=τ))(_:True)(hk:k v []):
  oY P f args σ σb k tk:= .inl ⟨v,[],h,trivial,hk⟩
theorem id_one1{P:Program}{f:FuncId}{args:List AV}{σ σb:aA}{v:AV}{o:Nat}{x:AObj}{k:AV->List (Nat×AObj)->Prop}{tk:Tg k}(h:∀τ,Sub σb τ->ACalls P f args τ (λr s=>r= .ret v/\s=aH τ o x))(h1:σ o≠none)(hk:k v [(o,x)]):
  oY P f args σ σb k tk:= .inl ⟨v,[(o,x)],h,⟨h1,trivial⟩,hk⟩
theorem sx{P:Program}{f:FuncId}{args:List AV}{σ σb:aA}{v:AV}{o o2:Nat}{x x2:AObj}{k:AV->List (Nat×AObj)->Prop}{tk:Tg k}(h:∀τ,Sub σb τ->ACalls P f args τ (λr s=>r= .ret v/\s=aH (aH τ o x) o2 x2))(h1:σ o≠none/\σ o2≠none)
  (hk:k v [(o,x),(o2,x2)]):oY P f args σ σb k tk:= .inl ⟨v,[(o,x),(o2,x2)],h,⟨h1.1,h1.2,trivial⟩,hk⟩
theorem sy{P:Program}{f:FuncId}{args:List AV}{σ σb:aA}{v:AV}{o o2 o3:Nat}{x x2 x3:AObj}{k:AV->List (Nat×AObj)->Prop}{tk:Tg k}(h:∀τ,Sub σb τ->ACalls P f args τ (λr s=>r= .ret v/\s=aH (aH (aH τ o x) o2 x2) o3 x3))
  (h1:σ o≠none/\σ o2≠none/\σ o3≠none)(hk:k v [(o,x),(o2,x2),(o3,x3)]):oY P f args σ σb k tk:= .inl ⟨v,[(o,x),(o2,x2),(o3,x3)],h,⟨h1.1,h1.2.1,h1.2.2,trivial⟩,hk⟩
theorem sC{P:Program}{f:FuncId}{args:List AV}{σ σb:aA}{v:AV}{o o2 o3 o4:Nat}{x x2 x3 x4:AObj}{k:AV->List (Nat×AObj)->Prop}{tk:Tg k}(h:∀τ,Sub σb τ->ACalls P f args τ (λr s=>r= .ret v/\s=aH (aH (aH (aH τ o x) o2 x2) o3 x3) o4 x4))
  (h1:σ o≠none/\σ o2≠none/\σ o3≠none/\σ o4≠none)(hk:k v [(o,x),(o2,x2),(o3,x3),(o4,x4)]):oY P f args σ σb k tk:= .inl ⟨v,[(o,x),(o2,x2),(o3,x3),(o4,x4)],h,⟨h1.1,h1.2.1,h1.2.2.1,h1.2.2.2,trivial⟩,hk⟩
def ub(σ:aA)(v:Nat->AV)(x:AObj):ARes->aA->Prop:=λr s=>∃o,σ o=none/\r= .ret (v o)/\s=aH σ o x
theorem ACalls.newO{P:Program}{f:FuncId}{args:List AV}{σ:aA}{v:Nat->AV}{x:AObj}{R:ARes->aA->Prop}(h:ACalls P f args σ (ub σ v x))
  (hR:∀o,σ o=none->(∀o',¬σ o'=none->¬o'=o)->(∀o',¬σ o'=none->¬o=o')->R (.ret (v o)) (aH σ o x)):ACalls P f args σ R:=
 h.mono λr s ⟨o,ho,e1,e2⟩=>by
  subst e1 e2;exact hR o ho (λo' h' e=>h' (e▸ho)) (λo' h' e=>h' (e▸ho))
def Ren(v:Nat->AV):Prop:=∀(K K':Gh) o o' x,K.le K'->K'.own o'=K.own o->Rel K (v o) x->Rel K' (v o') x
theorem Bnd.or{S:Nat->Prop}(h:Bnd S)(nm:Nat):Bnd (λm=>S m\/m=nm):=by
 obtain⟨n,hn⟩:=h;refine⟨max n (nm+1),λm hm=>?_⟩;rintro(h|rfl)
 ·exact hn m (by omega) h
 ·omega
theorem ACalls.named{P:Program}{f:FuncId}{args:List AV}{σ:aA}{v:Nat->AV}{x:AObj}(h:ACalls P f args σ (ub σ v x))(hr:Ren v)(nm:Nat):xT P f args σ nm (λr s=>r= .ret (v nm)/\s=aH σ nm x):=
 ⟨h.1,λS K w vals hS hSn hn hrel hsat=>by
  refine(h.2 (λm=>S m\/m=nm) K w vals (hS.or nm) hrel hsat).mono λe w' he=>?_;obtain⟨K',r,σ',a,b,c,o,ho,rfl,rfl⟩:=he;by_cases hon:o=nm
  ·subst hon;exact⟨K',_,_,a.weak λm hm=> .inl hm,b,c,rfl,rfl⟩
  ·have hfree:K'.own nm=none:=a.free nm (.inr rfl) hn;obtain⟨eo,he1,he2⟩:=b.live o x (eS _ _ _);have hown:∀q,q≠nm->(K'.named nm eo).own q=K'.own q:=λq hq=>by simp[Gh.named,hq]
   have hnew:(K'.named nm eo).own nm=some eo:=by simp[Gh.named]
   have hle:K'.le (K'.named nm eo):=⟨rfl,λ_ _ _ h=>h,λq y hq=>⟨y,by rw[hown q (λe=>by rw[e,hfree] at hq;simp at hq)];exact hq,Own.le_refl y⟩,rfl⟩;have hσo:∀q y,σ q=some y->q≠o:=λq y hq e=>by rw[e,ho] at hq;simp at hq
   have hst:∀q y,aH σ nm x q=some y->(q=nm/\y=x)\/(q≠nm/\aH σ o x q=some y/\q≠o):=λq y hq=>by
    by_cases hqn:q=nm
    ·subst hqn;rw[eS] at hq;exact .inl ⟨rfl,(Option.some.inj hq).symm⟩
    ·rw[md _ _ _ _ hqn] at hq;exact .inr ⟨hqn,by rw[md _ _ _ _ (hσo q y hq)];exact hq,hσo q y hq⟩
   refine⟨K'.named nm eo, .ret (v nm),aH σ nm x,⟨a.le.trans hle,λq hq hqn=>?_⟩,?_,?_,rfl,rfl⟩
   ·rw[hown q (λe=>hSn (e▸hq))];exact a.free q (.inl hq) hqn
   ·refine{os:=b.os,tape:=b.tape,output:=b.output,size:=b.size,old:=b.old,free:=b.free,claim:=b.claim,one:=b.one,live:=λq y hq=>?_,apart:=λq q' y y' e1 e2 h1 h2 hne k1 k2 r1 r2=>?_,room:=?_}
    ·rcases hst q y hq with ⟨rfl,rfl⟩|⟨h1,h2,_⟩
     ·exact⟨eo,hnew,he2.keep hle (λ_=>rfl) (λ_ _=>rfl)⟩
     ·obtain⟨e',k1,k2⟩:=b.live q y h2;exact⟨e',by rw[hown q h1];exact k1,k2.keep hle (λ_=>rfl) (λ_ _=>rfl)⟩
    ·rcases hst q y h1 with ⟨rfl,rfl⟩|⟨p1,p2,p3⟩<;>rcases hst q' y' h2 with ⟨rfl,rfl⟩|⟨p4,p5,p6⟩
     ·exact absurd rfl hne
     ·rw[hnew] at k1;rw[hown q' p4] at k2;cases k1
      exact b.apart o q' _ _ _ _ (eS _ _ _) p5 (Ne.symm p6) he1 k2 r1 r2
     ·rw[hnew] at k2;rw[hown q p1] at k1;cases k2
      exact b.apart q o _ _ _ _ p2 (eS _ _ _) p3 k1 he1 r1 r2
     ·rw[hown q p1] at k1;rw[hown q' p4] at k2;exact b.apart q q' _ _ _ _ p2 p5 hne k1 k2 r1 r2
    ·obtain⟨n,hn'⟩:=b.room;exact⟨max n (nm+1),λq hq=>by rw[hown q (by omega)];exact hn' q (by omega)⟩
   ·cases e<;>first|exact c.elim|exact hr K' _ o nm _ hle (hnew.trans he1.symm) c⟩
theorem sF{σ σ':aA}{v:Nat->AV}{x:AObj}{w:AV}(o:Nat)(ho:σ o=none)(h:FL σ' (v o) w/\nA [] (aH σ o x) σ'):fin (ub σ v x) w σ':=LX (v o) (aH σ o x) ⟨o,ho,rfl,rfl⟩ h.1 h.2
def turn(a:Int):Int:=a+1-2*(a%2)
theorem aj(a:Int)(h:0<=a):a.tdiv 2=a/2:=Int.tdiv_eq_ediv_of_nonneg h
theorem ao(a:Int)(h:0<=a):a.tmod 2=a%2:=Int.tmod_eq_emod_of_nonneg h
theorem au(a:Int):a.fdiv (2^Nat.min (Int.toNat 1) IntKind.i64.bits)=a/2:=by
 have:(2:Int)^Nat.min (Int.toNat 1) IntKind.i64.bits=2:=by decide
 rw[this,Int.fdiv_eq_ediv_of_nonneg _ (by omega)]
theorem aq(a:Int):a.fdiv (2^Nat.min 1 64)=a/2:=au a
theorem iF(a:Int):(BitVec.ofInt 64 a).toNat=(a%18446744073709551616).toNat:=by
 rw[BitVec.toNat_ofInt];rfl
theorem aw(a:Int):IntKind.i64.wrap ((BitVec.ofInt IntKind.i64.bits a&&& BitVec.ofInt IntKind.i64.bits 1).toNat:Nat)=a%2:=by
 have e:(BitVec.ofInt 64 a&&& BitVec.ofInt 64 1).toNat=(a%18446744073709551616).toNat%2:=by
  rw[BitVec.toNat_and,iF,iF];have:((1:Int)%18446744073709551616).toNat=1:=by decide
  rw[this,Nat.and_one_is_mod]
 show IntKind.i64.wrap ((BitVec.ofInt 64 a&&& BitVec.ofInt 64 1).toNat:Nat)=a%2
 rw[e,ah _ (by omega) (by omega)];omega
theorem ar(a:Int)(h1: -9223372036854775808<=a)(h2:a<=9223372036854775807):
  IntKind.i64.wrap ((BitVec.ofInt IntKind.i64.bits a ^^^ BitVec.ofInt IntKind.i64.bits 1).toNat:Nat)=turn a:=by
 have key:∀n:Nat,n ^^^ 1=if n%2=0 then n+1 else n-1:=by
  intro n;rcases Nat.mod_two_eq_zero_or_one n with h|h
  ·rw[if_pos h];obtain⟨k,rfl⟩:∃k,n=2*k:=⟨n/2,by omega⟩;have e1:2*k/2=k:=by omega
   have e2:(2*k+1)/2=k:=by omega
   apply Nat.eq_of_testBit_eq
   intro i;cases i with
   |zero=>simp[Nat.testBit_xor,Nat.testBit_zero]
   |succ i=>rw[Nat.testBit_xor];simp only[Nat.testBit_succ,e1,e2,Nat.reduceDiv,Nat.zero_testBit,Bool.xor_false]
  ·rw[if_neg (by omega)];obtain⟨k,rfl⟩:∃k,n=2*k+1:=⟨n/2,by omega⟩;have e1:(2*k+1-1)/2=k:=by omega
   have e2:(2*k+1)/2=k:=by omega
   apply Nat.eq_of_testBit_eq
   intro i;cases i with
   |zero=>simp[Nat.testBit_xor,Nat.testBit_zero]
   |succ i=>rw[Nat.testBit_xor];simp only[Nat.testBit_succ,e1,e2,Nat.reduceDiv,Nat.zero_testBit,Bool.xor_false]
 have e:(BitVec.ofInt 64 a ^^^ BitVec.ofInt 64 1).toNat=(a%18446744073709551616).toNat ^^^ 1:=by
  rw[BitVec.toNat_xor,iF,iF];rfl
 show IntKind.i64.wrap ((BitVec.ofInt 64 a ^^^ BitVec.ofInt 64 1).toNat:Nat)=turn a
 rw[e,key];simp only[turn,IntKind.wrap,IntKind.signed,IntKind.bits];split<;>simp<;>omega
theorem ag(a b:Int)(h1: -9223372036854775808<=a)(h2:a<=9223372036854775807)(h3: -9223372036854775808<=b)(h4:b<=9223372036854775807):
  (IntKind.i64.wrap ((BitVec.ofInt IntKind.i64.bits a ^^^ BitVec.ofInt IntKind.i64.bits b).toNat:Nat)==1)=decide (a=turn b):=by
 have hb:=ar b h3 h4;have hlt:(BitVec.ofInt 64 a ^^^ BitVec.ofInt 64 b).toNat<2^64:=(BitVec.ofInt 64 a ^^^ BitVec.ofInt 64 b).isLt
 have e0:(IntKind.i64.wrap ((BitVec.ofInt 64 a ^^^ BitVec.ofInt 64 b).toNat:Nat)=1)↔(BitVec.ofInt 64 a ^^^ BitVec.ofInt 64 b).toNat=1:=by
  generalize (BitVec.ofInt 64 a ^^^ BitVec.ofInt 64 b).toNat=n at hlt;simp only[IntKind.wrap,IntKind.signed,IntKind.bits];simp
  omega
 have e1:(BitVec.ofInt 64 a ^^^ BitVec.ofInt 64 b).toNat=1↔BitVec.ofInt 64 a=BitVec.ofInt 64 b ^^^ BitVec.ofInt 64 1:=by
  constructor
  ·intro h;have h':BitVec.ofInt 64 a ^^^ BitVec.ofInt 64 b=BitVec.ofInt 64 1:=BitVec.eq_of_toNat_eq (by rw[h];rfl);rw[<-h',BitVec.xor_comm (BitVec.ofInt 64 a),<-BitVec.xor_assoc,BitVec.xor_self,BitVec.zero_xor]
  ·intro h;rw[h,BitVec.xor_comm (BitVec.ofInt 64 b),BitVec.xor_assoc,BitVec.xor_self,BitVec.xor_zero];rfl
 have e2:BitVec.ofInt 64 a=BitVec.ofInt 64 b ^^^ BitVec.ofInt 64 1↔a=turn b:=by
  have hb':IntKind.i64.wrap ((BitVec.ofInt 64 b ^^^ BitVec.ofInt 64 1).toNat:Nat)=turn b:=hb
  have ha':IntKind.i64.wrap ((BitVec.ofInt 64 a).toNat:Nat)=a:=by
   rw[iF];simp only[IntKind.wrap,IntKind.signed,IntKind.bits];simp
   omega
  constructor
  ·intro h;rw[<-ha',h,hb']
  ·intro h;apply BitVec.eq_of_toNat_eq
   have h5:IntKind.i64.wrap ((BitVec.ofInt 64 a).toNat:Nat)=IntKind.i64.wrap ((BitVec.ofInt 64 b ^^^ BitVec.ofInt 64 1).toNat:Nat):=by rw[ha',hb',h]
   have l1:=(BitVec.ofInt 64 a).isLt;have l2:=(BitVec.ofInt 64 b ^^^ BitVec.ofInt 64 1).isLt;generalize (BitVec.ofInt 64 a).toNat=n at*;generalize (BitVec.ofInt 64 b ^^^ BitVec.ofInt 64 1).toNat=m at*;simp only[IntKind.wrap,IntKind.signed,IntKind.bits] at h5;simp at h5
   omega
 rw[Bool.eq_iff_iff];simp only[beq_iff_eq,decide_eq_true_eq];exact(e0.trans e1).trans e2
def My:Option Nat->Tok
 |none=> .full
 |some o=> .own o
def Mz(σ:aA)(sz n:Nat):Option Nat->aA
 |none=>σ
 |some o=>aH σ o (.grow sz n)
theorem CG:My none= .full:=rfl
theorem CH(o:Nat):My (some o)= .own o:=rfl
theorem CI(σ:aA)(sz n:Nat):Mz σ sz n none=σ:=rfl
theorem CJ(σ:aA)(sz n o:Nat):Mz σ sz n (some o)=aH σ o (.grow sz n):=rfl
attribute [go_sem] CG CH CI CJ
def pm(sz:Nat)(g:Bool):ACode:=
 .seq (.reg [⟨some 4, .mov (.c (.int .i64 0)),none⟩])
 (.seq (.seq (.reg [⟨some 6, .mov (.t 0),none⟩,
   ⟨some 7, .len (.t 6),none⟩,
   ⟨some 8, .mov (.c (.int .i64 0)),none⟩])
 (.block 0 (.loop (.seq (.reg [⟨some 9, .bin .lss false (.t 8) (.t 7),none⟩])
  (.seq (.cond (.t 9)
   (.skip)
   (.exit 0))
  (.seq (.block 1 (.seq (.reg [⟨some 10, .mov (.t 8),none⟩,
    ⟨some 5, .mov (.t 10),none⟩])
  (.seq (.reg [⟨some 11, .mov (.t 1),none⟩,
    ⟨some 12, .mov (.t 0),none⟩,
    ⟨some 13, .mov (.t 5),none⟩,
    ⟨some 14, .idxS sz (.t 12) (.t 13),none⟩,
    ⟨some 15, .load g sz (.t 14),none⟩,
    ⟨some 16, .call (.t 11) [(.t 15)],none⟩])
  (.cond (.t 16)
   (.seq (.reg [⟨some 17, .mov (.t 5),none⟩,
     ⟨some 4, .mov (.t 17),none⟩])
   (.ret))
   (.skip)))))
  (.reg [⟨some 18, .bin .add false (.t 8) (.c (.int .i64 1)),none⟩,
    ⟨some 8, .mov (.t 18),none⟩])))))))
 (.seq (.reg [⟨some 4, .mov (.c (.int .i64 (-1))),none⟩])
 (.ret)))
def kl(F:Nat):ACode:=
 .seq (.reg [⟨some 4, .mov (.c (.bool false)),none⟩])
 (.seq (.reg [⟨some 5, .mov (.t 0),none⟩,
   ⟨some 6, .mov (.t 1),none⟩,
   ⟨some 7, .call (.c (.fn F [] [])) [(.t 5),(.t 6)],none⟩,
   ⟨some 8, .bin .geq false (.t 7) (.c (.int .i64 0)),none⟩,
   ⟨some 4, .mov (.t 8),none⟩])
 (.ret))
def In(sz:Nat):ACode:=
 .seq (.reg [⟨some 2, .mov (.c (.slice [] .nil)),none⟩])
 (.seq (.reg [⟨some 3, .mov (.t 0),none⟩,
   ⟨some 4, .mov (.t 0),none⟩,
   ⟨some 5, .len (.t 4),none⟩,
   ⟨some 6, .mov (.t 0),none⟩,
   ⟨some 7, .len (.t 6),none⟩,
   ⟨some 8, .slc sz (.t 3) none (some (.t 5)) (some (.t 7)),none⟩,
   ⟨some 2, .mov (.t 8),none⟩])
 (.ret))
def xZ(ty sz bytes:Nat):ACode:=
 .seq (.reg [⟨some 4, .mov (.c (.slice [] .nil)),none⟩])
 (.seq (.seq (.reg [⟨some 5, .mov (.t 1),none⟩,
   ⟨some 6, .bin .lss false (.t 5) (.c (.int .i64 0)),none⟩])
 (.cond (.t 6)
  (.reg [⟨some 7, .mkiface ty (.c (.str ⟨#[99,97,110,110,111,116,32,98,101,32,110,101,103,97,116,105,118,101]⟩)),none⟩,
    ⟨none, .panic (.t 7),none⟩])
  (.skip)))
 (.seq (.seq (.reg [⟨some 8, .mov (.t 1),none⟩,
   ⟨some 9, .mov (.t 0),none⟩,
   ⟨some 10, .cap (.t 9),none⟩,
   ⟨some 11, .mov (.t 0),none⟩,
   ⟨some 12, .len (.t 11),none⟩,
   ⟨some 13, .bin .sub false (.t 10) (.t 12),none⟩,
   ⟨some 14, .bin .sub false (.t 8) (.t 13),none⟩,
   ⟨some 1, .mov (.t 14),none⟩])
 (.seq (.reg [⟨some 15, .mov (.t 1),none⟩,
   ⟨some 16, .bin .gtr false (.t 15) (.c (.int .i64 0)),none⟩])
 (.cond (.t 16)
  (.reg [⟨some 17, .mov (.t 0),none⟩,
    ⟨some 18, .mov (.t 0),none⟩,
    ⟨some 19, .cap (.t 18),none⟩,
    ⟨some 20, .slcN sz (.t 17) none (some (.t 19)) none,none⟩,
    ⟨some 21, .mov (.t 1),none⟩,
    ⟨some 22, .appz sz bytes (.t 20) (.t 21),none⟩,
    ⟨some 23, .mov (.t 0),none⟩,
    ⟨some 24, .len (.t 23),none⟩,
    ⟨some 25, .slcR sz (.t 22) none (some (.t 24)) none,none⟩,
    ⟨some 0, .mov (.t 25),none⟩])
  (.skip))))
 (.seq (.reg [⟨some 26, .mov (.t 0),none⟩,
   ⟨some 4, .mov (.t 26),none⟩])
 (.ret))))
def x5(ty F sz bytes:Nat):ACode:=
 .seq (.reg [⟨some 2, .mov (.c (.slice [] .nil)),none⟩])
 (.seq (.reg [⟨some 3, .mov (.c (.int .i64 0)),none⟩])
 (.seq (.seq (.reg [⟨some 9, .mov (.t 0),none⟩,
   ⟨some 10, .len (.t 9),none⟩,
   ⟨some 11, .mov (.c (.int .i64 0)),none⟩])
 (.block 0 (.loop (.seq (.reg [⟨some 12, .bin .lss false (.t 11) (.t 10),none⟩])
  (.seq (.cond (.t 12)
   (.skip)
   (.exit 0))
  (.seq (.block 1 (.seq (.reg [⟨some 13, .idxS 1 (.t 9) (.t 11),none⟩,
    ⟨some 14, .load false 1 (.t 13),none⟩,
    ⟨some 5, .mov (.t 14),none⟩])
  (.seq (.reg [⟨some 15, .mov (.t 3),none⟩,
    ⟨some 16, .mov (.t 5),none⟩,
    ⟨some 17, .len (.t 16),none⟩,
    ⟨some 18, .bin .add false (.t 15) (.t 17),none⟩,
    ⟨some 3, .mov (.t 18),none⟩])
  (.seq (.reg [⟨some 19, .mov (.t 3),none⟩,
    ⟨some 20, .bin .lss false (.t 19) (.c (.int .i64 0)),none⟩])
  (.cond (.t 20)
   (.reg [⟨some 21, .mkiface ty (.c (.str ⟨#[108,101,110,32,111,117,116,32,111,102,32,114,97,110,103,101]⟩)),none⟩,
     ⟨none, .panic (.t 21),none⟩])
   (.skip))))))
  (.reg [⟨some 22, .bin .add false (.t 11) (.c (.int .i64 1)),none⟩,
    ⟨some 11, .mov (.t 22),none⟩])))))))
 (.seq (.reg [⟨some 23, .mov (.t 3),none⟩,
   ⟨some 24, .call (.c (.fn F [] [])) [(.c (.slice [] .nil)),(.t 23)],none⟩,
   ⟨some 6, .mov (.t 24),none⟩])
 (.seq (.seq (.reg [⟨some 25, .mov (.t 0),none⟩,
   ⟨some 26, .len (.t 25),none⟩,
   ⟨some 27, .mov (.c (.int .i64 0)),none⟩])
 (.block 2 (.loop (.seq (.reg [⟨some 28, .bin .lss false (.t 27) (.t 26),none⟩])
  (.seq (.cond (.t 28)
   (.skip)
   (.exit 2))
  (.seq (.block 3 (.seq (.reg [⟨some 29, .idxS 1 (.t 25) (.t 27),none⟩,
    ⟨some 30, .load false 1 (.t 29),none⟩,
    ⟨some 8, .mov (.t 30),none⟩])
  (.reg [⟨some 31, .mov (.t 6),none⟩,
    ⟨some 32, .mov (.t 8),none⟩,
    ⟨some 33, .append sz bytes (.t 31) (.t 32),none⟩,
    ⟨some 6, .mov (.t 33),none⟩])))
  (.reg [⟨some 34, .bin .add false (.t 27) (.c (.int .i64 1)),none⟩,
    ⟨some 27, .mov (.t 34),none⟩])))))))
 (.seq (.reg [⟨some 35, .mov (.t 6),none⟩,
   ⟨some 2, .mov (.t 35),none⟩])
 (.ret))))))
def de{α:Type}(p:α->Bool):List α->Int
 |[]=> -1
 |a::l=>if p a then 0 else (if de p l<0 then -1 else de p l+1)
theorem idxF_none{α:Type}{p:α->Bool}:∀{l:List α},(∀a∈l,p a=false)->de p l= -1
 |[],_=>rfl
 |a::l,h=>by
  simp only[de];rw[if_neg (by simp[h a (by simp)]),idxF_none (l:=l) (λb hb=>h b (by simp[hb]))];rfl
theorem idxF_some{α:Type}{p:α->Bool}:∀{l:List α} {i:Nat} (h:i<l.length),(∀j,(hj:j<i)->p (l[j]'(by omega))=false)->p l[i]=true->de p l=i
 |a::l,0,h,_,h2=>by simp only[List.getElem_cons_zero] at h2;simp[de,h2]
 |a::l,i+1,h,h1,h2=>by
  have h0:=h1 0 (by omega);simp only[List.getElem_cons_zero] at h0;have:=idxF_some (p:=p) (l:=l) (i:=i) (by simpa using h) (λj hj=>by have:=h1 (j+1) (by omega);simpa using this) (by simpa using h2)
  simp only[de];rw[if_neg (by simp[h0]),this,if_neg (by omega)];omega
theorem idxF_cases{α:Type}(p:α->Bool)(l:List α):(de p l= -1/\∀a∈l,p a=false)\/∃i,∃h:i<l.length,de p l=i/\p l[i]=true/\∀j,(hj:j<i)->p (l[j]'(by omega))=false:=by
 by_cases h:∃i,∃h:i<l.length,p l[i]=true
 ·have:∃i,∃h:i<l.length,p l[i]=true/\∀j,(hj:j<i)->p (l[j]'(by omega))=false:=by
   obtain⟨i,hi,hp⟩:=h;induction i using Nat.strongRecOn with
   |_ i ih=>
    by_cases h':∃j,∃hj:j<i,p (l[j]'(by omega))=true
    ·obtain⟨j,hj,hp'⟩:=h';exact ih j hj (by omega) hp'
    ·exact⟨i,hi,hp,λj hj=>by
      cases hh:p (l[j]'(by omega)) with
      |false=>rfl
      |true=>exact(h' ⟨j,hj,hh⟩).elim⟩
  obtain⟨i,hi,hp,hb⟩:=this;exact .inr ⟨i,hi,idxF_some hi hb hp,hp,hb⟩
 ·left
  have:∀a∈l,p a=false:=λa ha=>by
   obtain⟨i,hi,rfl⟩:=List.getElem_of_mem ha;cases hh:p l[i] with
   |false=>rfl
   |true=>exact(h ⟨i,hi,hh⟩).elim
  exact⟨idxF_none this,this⟩
theorem CK{α:Type}(p:α->Bool)(l:List α):decide (0<=de p l)=l.any p:=by
 rcases idxF_cases p l with ⟨h1,h2⟩|⟨i,hi,h1,h2,h3⟩
 ·rw[h1];have:l.any p=false:=by simpa using h2
  rw[this];decide
 ·rw[h1];have:l.any p=true:=by simp only[List.any_eq_true];exact⟨_,List.getElem_mem hi,h2⟩
  rw[this];simp
theorem nc{α:Type}(p:α->Bool)(l:List α): -1<=de p l/\de p l<l.length:=by
 rcases idxF_cases p l with ⟨h1,h2⟩|⟨i,hi,h1,h2,h3⟩<;>omega
section lib
variable {P : Program} {f : FuncId} {fn : Func} {σ : aA} {α : Type} {enc : α -> AV} {sz : Nat} {g : Bool}
theorem cA(hm:P.follows .mixedOrders=true)(hfn:P.funcs[f]?=some fn)(hb:fn.body.bind (tr P 19)=some (pm sz g).bare)(hn:(fn.name=="runtime.NumGoroutine")=false)(hN:fn.ntmps=19)
  (hr:cJ P fn.results.toList=some [.tmp 4])(hmk:∀x,eE g (az (enc x))=some (enc x))(hsz:∀x,(az (enc x)).length=sz)(p:α->Bool)(l:List α)(hl:l.length<=1000000000000)
  {F:Nat}{first caps:List AV}(hF:∀x∈l,ACalls P F (first++[enc x]++caps) σ (λr σ'=>r= .ret (.bool (p x))/\σ'=σ)):
  ACalls P f [.slice (l.map enc) .no, .fn F first caps] σ (λr σ'=>r= .ret (.int .i64 (de p l))/\σ'=σ):=by
 refine cI hm hfn hb hn hN hr (by simp) ?_;unfold pm;simp(maxDischargeDepth:=9) -implicitDefEqProofs -dsimp only[go_sem,seval,List.length_map]
 refine loop_rule (λi:Nat=>[(0,some (.slice (l.map enc) .no)),(1,some (.fn F first caps)),(8,some (.int .i64 i)),(7,some (.int .i64 l.length))]) (λ_=>σ) (λi=>i<=l.length/\∀j,(hj:j<l.length)->j<i->p l[j]=false) (λi=>l.length-i) 0 ?_ ?_
 ·simp(maxDischargeDepth:=9) -implicitDefEqProofs -dsimp only[go_sem,seval]
  exact⟨Nat.zero_le _,λj hj h=>by omega⟩
 ·rintro i ⟨hi,hb⟩;have tk:∀x,List.take sz (az (enc x))=az (enc x):=λx=>List.take_of_length_le (by rw[hsz];exact Nat.le_refl _);repeat' (first|simp(maxDischargeDepth:=9) -implicitDefEqProofs -dsimp only[go_sem,seval, *]|simp(disch:=omega) only[ah,aj,ao,aw,ar,ag,au,aq]|(with_reducible (first|apply Za|apply Zb|apply Zc|apply Zd|apply Ze|apply Zf|apply Zg|apply Zh|apply Zi|apply Zj|apply Zk|apply Zl|apply Zm|apply Zn|apply Zo|apply Zp|apply Zq|apply Zr|apply Zs)<;>intro hq)|((with_reducible refine Zv ?_ ?_);focus (first|omega|exact rfl))|((with_reducible refine Zu ?_ ?_);focus omega)|((with_reducible refine Zt (λoF hoF hnF hnF'=>?_));(try simp only[aa,ne_eq,not_and] at hoF))|((with_reducible apply ACalls.one1);(focus ((first|with_reducible refine hF _ (List.getElem_mem (by omega))|with_reducible refine ACalls.flA (hF _ (List.getElem_mem (by omega))) ?_)<;>(first|(simp(maxDischargeDepth:=9) -implicitDefEqProofs -dsimp only[go_sem,seval, *];done)|omega)));(focus (first|trivial|with_reducible exact rfl|(simp(maxDischargeDepth:=9) -implicitDefEqProofs -dsimp only[go_sem,seval];done))))|((with_reducible apply id_one0);(focus (intro tS hS;((first|with_reducible refine hF _ (List.getElem_mem (by omega))|with_reducible refine ACalls.flA (hF _ (List.getElem_mem (by omega))) ?_)<;>(first|(simp(maxDischargeDepth:=9) -implicitDefEqProofs -dsimp only[go_sem,seval, *];done)|omega|((with_reducible refine Sub.get hS ?_);simp(maxDischargeDepth:=9) -implicitDefEqProofs -dsimp only[go_sem,seval, *];done)))));(focus (first|trivial|(simp(maxDischargeDepth:=9) -implicitDefEqProofs -dsimp only[go_sem,seval, *];done))))|((with_reducible apply id_one1);(focus (intro tS hS;((first|with_reducible refine hF _ (List.getElem_mem (by omega))|with_reducible refine ACalls.flA (hF _ (List.getElem_mem (by omega))) ?_)<;>(first|(simp(maxDischargeDepth:=9) -implicitDefEqProofs -dsimp only[go_sem,seval, *];done)|omega|((with_reducible refine Sub.get hS ?_);simp(maxDischargeDepth:=9) -implicitDefEqProofs -dsimp only[go_sem,seval, *];done)))));(focus (first|trivial|(simp(maxDischargeDepth:=9) -implicitDefEqProofs -dsimp only[go_sem,seval, *];done))))|((with_reducible apply sx);(focus (intro tS hS;((first|with_reducible refine hF _ (List.getElem_mem (by omega))|with_reducible refine ACalls.flA (hF _ (List.getElem_mem (by omega))) ?_)<;>(first|(simp(maxDischargeDepth:=9) -implicitDefEqProofs -dsimp only[go_sem,seval, *];done)|omega|((with_reducible refine Sub.get hS ?_);simp(maxDischargeDepth:=9) -implicitDefEqProofs -dsimp only[go_sem,seval, *];done)))));(focus (first|trivial|(simp(maxDischargeDepth:=9) -implicitDefEqProofs -dsimp only[go_sem,seval, *];done))))|((with_reducible apply sy);(focus (intro tS hS;((first|with_reducible refine hF _ (List.getElem_mem (by omega))|with_reducible refine ACalls.flA (hF _ (List.getElem_mem (by omega))) ?_)<;>(first|(simp(maxDischargeDepth:=9) -implicitDefEqProofs -dsimp only[go_sem,seval, *];done)|omega|((with_reducible refine Sub.get hS ?_);simp(maxDischargeDepth:=9) -implicitDefEqProofs -dsimp only[go_sem,seval, *];done)))));(focus (first|trivial|(simp(maxDischargeDepth:=9) -implicitDefEqProofs -dsimp only[go_sem,seval, *];done))))|((with_reducible apply sC);(focus (intro tS hS;((first|with_reducible refine hF _ (List.getElem_mem (by omega))|with_reducible refine ACalls.flA (hF _ (List.getElem_mem (by omega))) ?_)<;>(first|(simp(maxDischargeDepth:=9) -implicitDefEqProofs -dsimp only[go_sem,seval, *];done)|omega|((with_reducible refine Sub.get hS ?_);simp(maxDischargeDepth:=9) -implicitDefEqProofs -dsimp only[go_sem,seval, *];done)))));(focus (first|trivial|(simp(maxDischargeDepth:=9) -implicitDefEqProofs -dsimp only[go_sem,seval, *];done))))|fail)
  ·refine fin_eq ?_;rw[idxF_some (by omega) (λj hj=>hb j (by omega) hj) hq];simp(maxDischargeDepth:=9) -implicitDefEqProofs -dsimp only[go_sem,seval]
  ·refine bP _ _ _ _ (i+1) ?_;(repeat' (first|simp(maxDischargeDepth:=9) -implicitDefEqProofs -dsimp only[go_sem,seval, *]|simp(disch:=omega) only[ah,aj,ao,aw,ar,ag,au,aq]))<;>(repeat' refine And.intro ?_ ?_)<;>(first|omega|rfl|assumption|skip)
   intro j hj h;rcases Nat.lt_or_ge j i with h'|h'
   ·exact hb j hj h'
   ·obtain rfl:j=i:=by omega
    exact hq
  ·refine fin_eq ?_;rw[idxF_none]
   ·simp(maxDischargeDepth:=9) -implicitDefEqProofs -dsimp only[go_sem,seval]
   ·intro a ha;obtain⟨j,hj,rfl⟩:=List.getElem_of_mem ha;exact hb j hj (by omega)
theorem bQ(hm:P.follows .mixedOrders=true){F':Nat}(hfn:P.funcs[f]?=some fn)(hb:fn.body.bind (tr P 9)=some (kl F').bare)(hn:(fn.name=="runtime.NumGoroutine")=false)(hN:fn.ntmps=9)
  (hr:cJ P fn.results.toList=some [.tmp 4])(p:α->Bool)(l:List α){F:Nat}{first caps:List AV}
  (h:ACalls P F' [.slice (l.map enc) .no, .fn F first caps] σ (λr σ'=>r= .ret (.int .i64 (de p l))/\σ'=σ)):
  ACalls P f [.slice (l.map enc) .no, .fn F first caps] σ (λr σ'=>r= .ret (.bool (l.any p))/\σ'=σ):=by
 refine cI hm hfn hb hn hN hr (by simp) ?_;unfold kl;repeat' (first|simp(maxDischargeDepth:=9) -implicitDefEqProofs -dsimp only[go_sem,seval, *]|simp(disch:=omega) only[ah,aj,ao,aw,ar,ag,au,aq]|(with_reducible (first|apply Za|apply Zb|apply Zc|apply Zd|apply Ze|apply Zf|apply Zg|apply Zh|apply Zi|apply Zj|apply Zk|apply Zl|apply Zm|apply Zn|apply Zo|apply Zp|apply Zq|apply Zr|apply Zs)<;>intro hq)|((with_reducible refine Zv ?_ ?_);focus (first|omega|exact rfl))|((with_reducible refine Zu ?_ ?_);focus omega)|((with_reducible refine Zt (λoF hoF hnF hnF'=>?_));(try simp only[aa,ne_eq,not_and] at hoF))|((with_reducible apply ACalls.one1);(focus ((first|with_reducible refine h|with_reducible refine ACalls.flA (h) ?_)<;>(first|(simp(maxDischargeDepth:=9) -implicitDefEqProofs -dsimp only[go_sem,seval, *];done)|omega)));(focus (first|trivial|with_reducible exact rfl|(simp(maxDischargeDepth:=9) -implicitDefEqProofs -dsimp only[go_sem,seval];done))))|((with_reducible apply id_one0);(focus (intro tS hS;((first|with_reducible refine h|with_reducible refine ACalls.flA (h) ?_)<;>(first|(simp(maxDischargeDepth:=9) -implicitDefEqProofs -dsimp only[go_sem,seval, *];done)|omega|((with_reducible refine Sub.get hS ?_);simp(maxDischargeDepth:=9) -implicitDefEqProofs -dsimp only[go_sem,seval, *];done)))));(focus (first|trivial|(simp(maxDischargeDepth:=9) -implicitDefEqProofs -dsimp only[go_sem,seval, *];done))))|((with_reducible apply id_one1);(focus (intro tS hS;((first|with_reducible refine h|with_reducible refine ACalls.flA (h) ?_)<;>(first|(simp(maxDischargeDepth:=9) -implicitDefEqProofs -dsimp only[go_sem,seval, *];done)|omega|((with_reducible refine Sub.get hS ?_);simp(maxDischargeDepth:=9) -implicitDefEqProofs -dsimp only[go_sem,seval, *];done)))));(focus (first|trivial|(simp(maxDischargeDepth:=9) -implicitDefEqProofs -dsimp only[go_sem,seval, *];done))))|((with_reducible apply sx);(focus (intro tS hS;((first|with_reducible refine h|with_reducible refine ACalls.flA (h) ?_)<;>(first|(simp(maxDischargeDepth:=9) -implicitDefEqProofs -dsimp only[go_sem,seval, *];done)|omega|((with_reducible refine Sub.get hS ?_);simp(maxDischargeDepth:=9) -implicitDefEqProofs -dsimp only[go_sem,seval, *];done)))));(focus (first|trivial|(simp(maxDischargeDepth:=9) -implicitDefEqProofs -dsimp only[go_sem,seval, *];done))))|((with_reducible apply sy);(focus (intro tS hS;((first|with_reducible refine h|with_reducible refine ACalls.flA (h) ?_)<;>(first|(simp(maxDischargeDepth:=9) -implicitDefEqProofs -dsimp only[go_sem,seval, *];done)|omega|((with_reducible refine Sub.get hS ?_);simp(maxDischargeDepth:=9) -implicitDefEqProofs -dsimp only[go_sem,seval, *];done)))));(focus (first|trivial|(simp(maxDischargeDepth:=9) -implicitDefEqProofs -dsimp only[go_sem,seval, *];done))))|((with_reducible apply sC);(focus (intro tS hS;((first|with_reducible refine h|with_reducible refine ACalls.flA (h) ?_)<;>(first|(simp(maxDischargeDepth:=9) -implicitDefEqProofs -dsimp only[go_sem,seval, *];done)|omega|((with_reducible refine Sub.get hS ?_);simp(maxDischargeDepth:=9) -implicitDefEqProofs -dsimp only[go_sem,seval, *];done)))));(focus (first|trivial|(simp(maxDischargeDepth:=9) -implicitDefEqProofs -dsimp only[go_sem,seval, *];done))))|fail)
 refine fin_eq ?_;rw[<-CK];simp(maxDischargeDepth:=9) -implicitDefEqProofs -dsimp only[go_sem,seval]
theorem CL(hm:P.follows .mixedOrders=true)(hfn:P.funcs[f]?=some fn)(hb:fn.body.bind (tr P 9)=some (In sz).bare)(hn:(fn.name=="runtime.NumGoroutine")=false)(hN:fn.ntmps=9)
  (hr:cJ P fn.results.toList=some [.tmp 2])(hsz:∀x,(az (enc x)).length=sz)(l:List α):
  ACalls P f [.slice (l.map enc) .no] σ (λr σ'=>r= .ret (.slice (l.map enc) .full)/\σ'=σ):=by
 refine cI hm hfn hb hn hN hr (by simp) ?_;unfold In;repeat' (first|simp(maxDischargeDepth:=9) -implicitDefEqProofs -dsimp only[go_sem,seval,dJ sz enc l hsz, *]|simp(disch:=omega) only[ah,aj,ao,aw,ar,ag,au,aq]|(with_reducible (first|apply Za|apply Zb|apply Zc|apply Zd|apply Ze|apply Zf|apply Zg|apply Zh|apply Zi|apply Zj|apply Zk|apply Zl|apply Zm|apply Zn|apply Zo|apply Zp|apply Zq|apply Zr|apply Zs)<;>intro hq)|((with_reducible refine Zv ?_ ?_);focus (first|omega|exact rfl))|((with_reducible refine Zu ?_ ?_);focus omega)|((with_reducible refine Zt (λoF hoF hnF hnF'=>?_));(try simp only[aa,ne_eq,not_and] at hoF))|fail)
 exact fw ⟨rfl,rfl⟩
theorem CM(hm:P.follows .mixedOrders=true){ty bytes:Nat}(hfn:P.funcs[f]?=some fn)(hb:fn.body.bind (tr P 27)=some (xZ ty sz bytes).bare)(hn:(fn.name=="runtime.NumGoroutine")=false)(hN:fn.ntmps=27)
  (hr:cJ P fn.results.toList=some [.tmp 4])(n:Int)(h0:0<n)(hb1:n*bytes<=35184372088832)(hn2:n<=1000000000000):
  ACalls P f [.slice [] .nil, .int .i64 n] σ (λr σ'=>∃o,σ o=none/\r= .ret (.slice [] (.own o))/\σ'=aH σ o (.grow sz 0)):=by
 refine cI hm hfn hb hn hN hr (by simp) ?_;unfold xZ;repeat' (first|simp(maxDischargeDepth:=9) -implicitDefEqProofs -dsimp only[go_sem,seval, *]|simp(disch:=omega) only[ah,aj,ao,aw,ar,ag,au,aq]|(with_reducible (first|apply Za|apply Zb|apply Zc|apply Zd|apply Ze|apply Zf|apply Zg|apply Zh|apply Zi|apply Zj|apply Zk|apply Zl|apply Zm|apply Zn|apply Zo|apply Zp|apply Zq|apply Zr|apply Zs)<;>intro hq)|((with_reducible refine Zv ?_ ?_);focus (first|omega|exact rfl))|((with_reducible refine Zu ?_ ?_);focus omega)|((with_reducible refine Zt (λoF hoF hnF hnF'=>?_));(try simp only[aa,ne_eq,not_and] at hoF))|fail)
 ·omega
 ·exact fw ⟨_,hoF,rfl,rfl⟩
theorem Aj(hm:P.follows .mixedOrders=true){ty bytes:Nat}(hfn:P.funcs[f]?=some fn)(hb:fn.body.bind (tr P 27)=some (xZ ty sz bytes).bare)(hn:(fn.name=="runtime.NumGoroutine")=false)(hN:fn.ntmps=27)
  (hr:cJ P fn.results.toList=some [.tmp 4]):
  ACalls P f [.slice [] .nil, .int .i64 0] σ (λr σ'=>r= .ret (.slice [] .nil)/\σ'=σ):=by
 refine cI hm hfn hb hn hN hr (by simp) ?_;unfold xZ;repeat' (first|simp(maxDischargeDepth:=9) -implicitDefEqProofs -dsimp only[go_sem,seval,Int.reduceGT, *]|simp(disch:=omega) only[ah,aj,ao,aw,ar,ag,au,aq]|(with_reducible (first|apply Za|apply Zb|apply Zc|apply Zd|apply Ze|apply Zf|apply Zg|apply Zh|apply Zi|apply Zj|apply Zk|apply Zl|apply Zm|apply Zn|apply Zo|apply Zp|apply Zq|apply Zr|apply Zs)<;>intro hq)|((with_reducible refine Zv ?_ ?_);focus (first|omega|exact rfl))|((with_reducible refine Zu ?_ ?_);focus omega)|((with_reducible refine Zt (λoF hoF hnF hnF'=>?_));(try simp only[aa,ne_eq,not_and] at hoF))|fail)
 exact fw ⟨rfl,rfl⟩
abbrev mq(enc:α->AV)(l:List α):AV:= .slice (l.map enc) .no
theorem wH(hm:P.follows .mixedOrders=true){ty bytes F:Nat}(hfn:P.funcs[f]?=some fn)(hb:fn.body.bind (tr P 36)=some (x5 ty F sz bytes).bare)(hn:(fn.name=="runtime.NumGoroutine")=false)(hN:fn.ntmps=36)
  (hr:cJ P fn.results.toList=some [.tmp 2])(hsz:∀x,(az (enc x)).length=sz)
  (hg:∀σ:aA,∀n:Int,0<n->n*bytes<=35184372088832->n<=1000000000000->ACalls P F [.slice [] .nil, .int .i64 n] σ (λr σ'=>∃o,σ o=none/\r= .ret (.slice [] (.own o))/\σ'=aH σ o (.grow sz 0)))
  (hg0:∀σ,ACalls P F [.slice [] .nil, .int .i64 0] σ (λr σ'=>r= .ret (.slice [] .nil)/\σ'=σ))
  (ls:List (List α))(hlen:ls.length<=1000000)(htot:ls.flatten.length<=1000000000)(hby:bytes<=4096):
  ACalls P f [.slice (ls.map (mq enc)) .no] σ (λr σ'=>(ls.flatten=[]/\r= .ret (.slice [] .nil)/\σ'=σ)\/
   ub σ (λo=> .slice (ls.flatten.map enc) (.own o)) (.grow sz ls.flatten.length) r σ'):=by
 refine cI hm hfn hb hn hN hr (by simp) ?_;unfold x5
 have tot:∀i,(ls.take i).flatten.length<=ls.flatten.length:=λi=>by
  have:=congrArg List.length (congrArg List.flatten (List.take_append_drop i ls))
  rw[List.flatten_append,List.length_append] at this;omega
 have step:∀i (h:i<ls.length),(ls.take (i+1)).flatten=(ls.take i).flatten++ls[i]:=λi h=>by
  rw[List.take_add_one,List.getElem?_eq_getElem h,List.flatten_append];simp only[Option.toList_some,List.flatten_cons,List.flatten_nil,List.append_nil]
 have stepL:∀i (h:i<ls.length),(ls.take (i+1)).flatten.length=(ls.take i).flatten.length+ls[i].length:=λi h=>by
  rw[step i h,List.length_append]
 repeat' (first|simp(maxDischargeDepth:=9) -implicitDefEqProofs -dsimp only[go_sem,seval, *]|simp(disch:=omega) only[ah,aj,ao,aw,ar,ag,au,aq]|(with_reducible (first|apply Za|apply Zb|apply Zc|apply Zd|apply Ze|apply Zf|apply Zg|apply Zh|apply Zi|apply Zj|apply Zk|apply Zl|apply Zm|apply Zn|apply Zo|apply Zp|apply Zq|apply Zr|apply Zs)<;>intro hq)|((with_reducible refine Zv ?_ ?_);focus (first|omega|exact rfl))|((with_reducible refine Zu ?_ ?_);focus omega)|((with_reducible refine Zt (λoF hoF hnF hnF'=>?_));(try simp only[aa,ne_eq,not_and] at hoF))|fail)
 refine loop_rule (λi:Nat=>[(0,some (.slice (ls.map (mq enc)) .no)),(9,some (.slice (ls.map (mq enc)) .no)),(11,some (.int .i64 i)),(10,some (.int .i64 ls.length)),(3,some (.int .i64 (ls.take i).flatten.length))]) (λ_=>σ) (λi=>i<=ls.length) (λi=>ls.length-i) 0 ?_ ?_
 ·repeat' (first|simp(maxDischargeDepth:=9) -implicitDefEqProofs -dsimp only[go_sem,seval,List.take_zero,List.flatten_nil, *]|simp(disch:=omega) only[ah,aj,ao,aw,ar,ag,au,aq]|(with_reducible (first|apply Za|apply Zb|apply Zc|apply Zd|apply Ze|apply Zf|apply Zg|apply Zh|apply Zi|apply Zj|apply Zk|apply Zl|apply Zm|apply Zn|apply Zo|apply Zp|apply Zq|apply Zr|apply Zs)<;>intro hq)|((with_reducible refine Zv ?_ ?_);focus (first|omega|exact rfl))|((with_reducible refine Zu ?_ ?_);focus omega)|((with_reducible refine Zt (λoF hoF hnF hnF'=>?_));(try simp only[aa,ne_eq,not_and] at hoF))|fail)
  exact Nat.zero_le _
 ·intro i hi;have:=tot i
  by_cases hlt:i<ls.length
  ·have:=tot (i+1)
   have e:=stepL i hlt;repeat' (first|simp(maxDischargeDepth:=9) -implicitDefEqProofs -dsimp only[go_sem,seval, *]|simp(disch:=omega) only[ah,aj,ao,aw,ar,ag,au,aq]|(with_reducible (first|apply Za|apply Zb|apply Zc|apply Zd|apply Ze|apply Zf|apply Zg|apply Zh|apply Zi|apply Zj|apply Zk|apply Zl|apply Zm|apply Zn|apply Zo|apply Zp|apply Zq|apply Zr|apply Zs)<;>intro hq)|((with_reducible refine Zv ?_ ?_);focus (first|omega|exact rfl))|((with_reducible refine Zu ?_ ?_);focus omega)|((with_reducible refine Zt (λoF hoF hnF hnF'=>?_));(try simp only[aa,ne_eq,not_and] at hoF))|fail)
   ·omega
   ·refine bP _ _ _ _ (i+1) ?_;(repeat' (first|simp(maxDischargeDepth:=9) -implicitDefEqProofs -dsimp only[go_sem,seval, *]|simp(disch:=omega) only[ah,aj,ao,aw,ar,ag,au,aq]))<;>(repeat' refine And.intro ?_ ?_)<;>(first|omega|rfl|assumption|skip)
  ·repeat' (first|simp(maxDischargeDepth:=9) -implicitDefEqProofs -dsimp only[go_sem,seval, *]|simp(disch:=omega) only[ah,aj,ao,aw,ar,ag,au,aq]|(with_reducible (first|apply Za|apply Zb|apply Zc|apply Zd|apply Ze|apply Zf|apply Zg|apply Zh|apply Zi|apply Zj|apply Zk|apply Zl|apply Zm|apply Zn|apply Zo|apply Zp|apply Zq|apply Zr|apply Zs)<;>intro hq)|((with_reducible refine Zv ?_ ?_);focus (first|omega|exact rfl))|((with_reducible refine Zu ?_ ?_);focus omega)|((with_reducible refine Zt (λoF hoF hnF hnF'=>?_));(try simp only[aa,ne_eq,not_and] at hoF))|fail)
   have e0:ls.take i=ls:=List.take_of_length_le (by omega);rw[e0];by_cases hz:ls.flatten.length=0
   ·have hnil:ls.flatten=[]:=List.length_eq_zero_iff.1 hz
    have hnili:∀i (h:i<ls.length),ls[i]=[]:=λi h=>by
     have:=stepL i h
     have h2:=tot (i+1);exact List.length_eq_zero_iff.1 (by omega)
    rw[hz];repeat' (first|simp(maxDischargeDepth:=9) -implicitDefEqProofs -dsimp only[go_sem,seval, *]|simp(disch:=omega) only[ah,aj,ao,aw,ar,ag,au,aq]|(with_reducible (first|apply Za|apply Zb|apply Zc|apply Zd|apply Ze|apply Zf|apply Zg|apply Zh|apply Zi|apply Zj|apply Zk|apply Zl|apply Zm|apply Zn|apply Zo|apply Zp|apply Zq|apply Zr|apply Zs)<;>intro hq)|((with_reducible refine Zv ?_ ?_);focus (first|omega|exact rfl))|((with_reducible refine Zu ?_ ?_);focus omega)|((with_reducible refine Zt (λoF hoF hnF hnF'=>?_));(try simp only[aa,ne_eq,not_and] at hoF))|((with_reducible apply ACalls.one1);(focus ((first|with_reducible refine hg0 σ|with_reducible refine ACalls.flA (hg0 σ) ?_)<;>(first|(simp(maxDischargeDepth:=9) -implicitDefEqProofs -dsimp only[go_sem,seval, *];done)|omega)));(focus (first|trivial|with_reducible exact rfl|(simp(maxDischargeDepth:=9) -implicitDefEqProofs -dsimp only[go_sem,seval];done))))|((with_reducible apply id_one0);(focus (intro tS hS;((first|with_reducible refine hg0 σ|with_reducible refine ACalls.flA (hg0 σ) ?_)<;>(first|(simp(maxDischargeDepth:=9) -implicitDefEqProofs -dsimp only[go_sem,seval, *];done)|omega|((with_reducible refine Sub.get hS ?_);simp(maxDischargeDepth:=9) -implicitDefEqProofs -dsimp only[go_sem,seval, *];done)))));(focus (first|trivial|(simp(maxDischargeDepth:=9) -implicitDefEqProofs -dsimp only[go_sem,seval, *];done))))|((with_reducible apply id_one1);(focus (intro tS hS;((first|with_reducible refine hg0 σ|with_reducible refine ACalls.flA (hg0 σ) ?_)<;>(first|(simp(maxDischargeDepth:=9) -implicitDefEqProofs -dsimp only[go_sem,seval, *];done)|omega|((with_reducible refine Sub.get hS ?_);simp(maxDischargeDepth:=9) -implicitDefEqProofs -dsimp only[go_sem,seval, *];done)))));(focus (first|trivial|(simp(maxDischargeDepth:=9) -implicitDefEqProofs -dsimp only[go_sem,seval, *];done))))|((with_reducible apply sx);(focus (intro tS hS;((first|with_reducible refine hg0 σ|with_reducible refine ACalls.flA (hg0 σ) ?_)<;>(first|(simp(maxDischargeDepth:=9) -implicitDefEqProofs -dsimp only[go_sem,seval, *];done)|omega|((with_reducible refine Sub.get hS ?_);simp(maxDischargeDepth:=9) -implicitDefEqProofs -dsimp only[go_sem,seval, *];done)))));(focus (first|trivial|(simp(maxDischargeDepth:=9) -implicitDefEqProofs -dsimp only[go_sem,seval, *];done))))|((with_reducible apply sy);(focus (intro tS hS;((first|with_reducible refine hg0 σ|with_reducible refine ACalls.flA (hg0 σ) ?_)<;>(first|(simp(maxDischargeDepth:=9) -implicitDefEqProofs -dsimp only[go_sem,seval, *];done)|omega|((with_reducible refine Sub.get hS ?_);simp(maxDischargeDepth:=9) -implicitDefEqProofs -dsimp only[go_sem,seval, *];done)))));(focus (first|trivial|(simp(maxDischargeDepth:=9) -implicitDefEqProofs -dsimp only[go_sem,seval, *];done))))|((with_reducible apply sC);(focus (intro tS hS;((first|with_reducible refine hg0 σ|with_reducible refine ACalls.flA (hg0 σ) ?_)<;>(first|(simp(maxDischargeDepth:=9) -implicitDefEqProofs -dsimp only[go_sem,seval, *];done)|omega|((with_reducible refine Sub.get hS ?_);simp(maxDischargeDepth:=9) -implicitDefEqProofs -dsimp only[go_sem,seval, *];done)))));(focus (first|trivial|(simp(maxDischargeDepth:=9) -implicitDefEqProofs -dsimp only[go_sem,seval, *];done))))|fail)
    refine loop_rule (λi:Nat=>[(25,some (.slice (ls.map (mq enc)) .no)),(27,some (.int .i64 i)),(26,some (.int .i64 ls.length)),(6,some (.slice [] .nil))]) (λ_=>σ) (λi=>i<=ls.length) (λi=>ls.length-i) 0 ?_ ?_
    ·repeat' (first|simp(maxDischargeDepth:=9) -implicitDefEqProofs -dsimp only[go_sem,seval, *]|simp(disch:=omega) only[ah,aj,ao,aw,ar,ag,au,aq]|(with_reducible (first|apply Za|apply Zb|apply Zc|apply Zd|apply Ze|apply Zf|apply Zg|apply Zh|apply Zi|apply Zj|apply Zk|apply Zl|apply Zm|apply Zn|apply Zo|apply Zp|apply Zq|apply Zr|apply Zs)<;>intro hq)|((with_reducible refine Zv ?_ ?_);focus (first|omega|exact rfl))|((with_reducible refine Zu ?_ ?_);focus omega)|((with_reducible refine Zt (λoF hoF hnF hnF'=>?_));(try simp only[aa,ne_eq,not_and] at hoF))|fail)
     exact Nat.zero_le _
    ·intro i hi;repeat' (first|simp(maxDischargeDepth:=9) -implicitDefEqProofs -dsimp only[go_sem,seval, *]|simp(disch:=omega) only[ah,aj,ao,aw,ar,ag,au,aq]|(with_reducible (first|apply Za|apply Zb|apply Zc|apply Zd|apply Ze|apply Zf|apply Zg|apply Zh|apply Zi|apply Zj|apply Zk|apply Zl|apply Zm|apply Zn|apply Zo|apply Zp|apply Zq|apply Zr|apply Zs)<;>intro hq)|((with_reducible refine Zv ?_ ?_);focus (first|omega|exact rfl))|((with_reducible refine Zu ?_ ?_);focus omega)|((with_reducible refine Zt (λoF hoF hnF hnF'=>?_));(try simp only[aa,ne_eq,not_and] at hoF))|fail)
     ·have e:=hnili i (by omega);repeat' (first|simp(maxDischargeDepth:=9) -implicitDefEqProofs -dsimp only[go_sem,seval,List.map_nil, *]|simp(disch:=omega) only[ah,aj,ao,aw,ar,ag,au,aq]|(with_reducible (first|apply Za|apply Zb|apply Zc|apply Zd|apply Ze|apply Zf|apply Zg|apply Zh|apply Zi|apply Zj|apply Zk|apply Zl|apply Zm|apply Zn|apply Zo|apply Zp|apply Zq|apply Zr|apply Zs)<;>intro hq)|((with_reducible refine Zv ?_ ?_);focus (first|omega|exact rfl))|((with_reducible refine Zu ?_ ?_);focus omega)|((with_reducible refine Zt (λoF hoF hnF hnF'=>?_));(try simp only[aa,ne_eq,not_and] at hoF))|fail)
      refine bP _ _ _ _ (i+1) ?_;(repeat' (first|simp(maxDischargeDepth:=9) -implicitDefEqProofs -dsimp only[go_sem,seval, *]|simp(disch:=omega) only[ah,aj,ao,aw,ar,ag,au,aq]))<;>(repeat' refine And.intro ?_ ?_)<;>(first|omega|rfl|assumption|skip)
     ·exact fw (.inl ⟨hnil,rfl,rfl⟩)
   ·refine(hg σ _ (by omega) (by
     have:=Nat.mul_le_mul htot hby
     have e:((ls.flatten.length*bytes:Nat):Int)<=35184372088832:=by omega
     rwa [Int.natCast_mul] at e) (by omega)).mono ?_
    rintro r σ' ⟨o,ho,rfl,rfl⟩;repeat' (first|simp(maxDischargeDepth:=9) -implicitDefEqProofs -dsimp only[go_sem,seval, *]|simp(disch:=omega) only[ah,aj,ao,aw,ar,ag,au,aq]|(with_reducible (first|apply Za|apply Zb|apply Zc|apply Zd|apply Ze|apply Zf|apply Zg|apply Zh|apply Zi|apply Zj|apply Zk|apply Zl|apply Zm|apply Zn|apply Zo|apply Zp|apply Zq|apply Zr|apply Zs)<;>intro hq)|((with_reducible refine Zv ?_ ?_);focus (first|omega|exact rfl))|((with_reducible refine Zu ?_ ?_);focus omega)|((with_reducible refine Zt (λoF hoF hnF hnF'=>?_));(try simp only[aa,ne_eq,not_and] at hoF))|fail)
    refine loop_rule (λi:Nat=>[(25,some (.slice (ls.map (mq enc)) .no)),(27,some (.int .i64 i)),(26,some (.int .i64 ls.length)),(6,some (.slice ((ls.take i).flatten.map enc) (.own o)))]) (λi=>aH σ o (.grow sz (ls.take i).flatten.length)) (λi=>i<=ls.length) (λi=>ls.length-i) 0 ?_ ?_
    ·repeat' (first|simp(maxDischargeDepth:=9) -implicitDefEqProofs -dsimp only[go_sem,seval,List.take_zero,List.flatten_nil,List.map_nil, *]|simp(disch:=omega) only[ah,aj,ao,aw,ar,ag,au,aq]|(with_reducible (first|apply Za|apply Zb|apply Zc|apply Zd|apply Ze|apply Zf|apply Zg|apply Zh|apply Zi|apply Zj|apply Zk|apply Zl|apply Zm|apply Zn|apply Zo|apply Zp|apply Zq|apply Zr|apply Zs)<;>intro hq)|((with_reducible refine Zv ?_ ?_);focus (first|omega|exact rfl))|((with_reducible refine Zu ?_ ?_);focus omega)|((with_reducible refine Zt (λoF hoF hnF hnF'=>?_));(try simp only[aa,ne_eq,not_and] at hoF))|fail)
     exact Nat.zero_le _
    ·intro i hi;by_cases hlt:i<ls.length
     ·have e:=step i hlt;have e2:=stepL i hlt;have h1:=tot (i+1)
      have hb1:((ls.take i).flatten.length+ls[i].length)*bytes<=35184372088832:=by
       have:=Nat.mul_le_mul (show(ls.take i).flatten.length+ls[i].length<=1000000000 by omega) hby
       omega
      repeat' (first|simp(maxDischargeDepth:=9) -implicitDefEqProofs -dsimp only[go_sem,seval,dJ sz enc _ hsz, *]|simp(disch:=omega) only[ah,aj,ao,aw,ar,ag,au,aq]|(with_reducible (first|apply Za|apply Zb|apply Zc|apply Zd|apply Ze|apply Zf|apply Zg|apply Zh|apply Zi|apply Zj|apply Zk|apply Zl|apply Zm|apply Zn|apply Zo|apply Zp|apply Zq|apply Zr|apply Zs)<;>intro hq)|((with_reducible refine Zv ?_ ?_);focus (first|omega|exact rfl))|((with_reducible refine Zu ?_ ?_);focus omega)|((with_reducible refine Zt (λoF hoF hnF hnF'=>?_));(try simp only[aa,ne_eq,not_and] at hoF))|fail)
      refine bP _ _ _ _ (i+1) ?_;(repeat' (first|simp(maxDischargeDepth:=9) -implicitDefEqProofs -dsimp only[go_sem,seval, *]|simp(disch:=omega) only[ah,aj,ao,aw,ar,ag,au,aq]))<;>(repeat' refine And.intro ?_ ?_)<;>(first|omega|rfl|assumption|skip)
     ·repeat' (first|simp(maxDischargeDepth:=9) -implicitDefEqProofs -dsimp only[go_sem,seval, *]|simp(disch:=omega) only[ah,aj,ao,aw,ar,ag,au,aq]|(with_reducible (first|apply Za|apply Zb|apply Zc|apply Zd|apply Ze|apply Zf|apply Zg|apply Zh|apply Zi|apply Zj|apply Zk|apply Zl|apply Zm|apply Zn|apply Zo|apply Zp|apply Zq|apply Zr|apply Zs)<;>intro hq)|((with_reducible refine Zv ?_ ?_);focus (first|omega|exact rfl))|((with_reducible refine Zu ?_ ?_);focus omega)|((with_reducible refine Zt (λoF hoF hnF hnF'=>?_));(try simp only[aa,ne_eq,not_and] at hoF))|fail)
      have e0:ls.take i=ls:=List.take_of_length_le (by omega);rw[e0];exact fw (.inr ⟨o,ho,rfl,rfl⟩)
end lib
end Abs
namespace Abs
open Go
end Abs
namespace Abs
open Go
theorem kc1{P:Program}{f:FuncId}{args:List AV}{σ σ':aA}{v:AV}{R:ARes->aA->Prop}(h:ACalls P f args σ (λr s=>r= .ret v/\s=σ'))(hR:R (.ret v) σ'):ACalls P f args σ R:=h.one hR
theorem lnx{X:Type}{mk:X->bg}{sg:X->aA}{inv:X->Prop}{ms:X->Nat}{n:Nat}{env:bg}{σ:aA}(x:X)(h:WkF σ (mk x) env/\nA [] (sg x) σ/\inv x/\ms x<n):oU (xY mk sg inv ms) n env σ:=
 bP mk sg inv ms x h
end Abs
