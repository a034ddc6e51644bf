/- blast: contracts: a builder's gates. -/
import Derived.Test.YtbbihmmobfmadaaGreatVAigVal
set_option linter.unusedSimpArgs false
set_option linter.unusedVariables false
set_option maxHeartbeats 4000000
set_option maxRecDepth 50000
namespace Fil.Bl
open Abs
inductive Op where
 |and|or|xor|mux
def Op.ev:Op->Bool->Bool->Bool->Bool
 | .and,a,b,_=>a&&b
 | .or,a,b,_=>a||b
 | .xor,a,b,_=>a != b
 | .mux,a,b,c=>if a then b else c
def Op.ap:Op->Aig->Int->Int->Int->Aig×Int×Int
 | .and,g,x,y,_=>g.And x y
 | .or,g,x,y,_=>g.Or x y
 | .xor,g,x,y,_=>g.Xor x y
 | .mux,g,x,y,z=>g.Mux x y z
inductive Pg(α:Type) where
 |ret(a:α)
 |op(o:Op)(x y z:Int)(k:Int->Pg α)
def Pg.bind{α β:Type}:Pg α->(α->Pg β)->Pg β
 | .ret a,f=>f a
 | .op o x y z k,f=> .op o x y z λr=>(k r).bind f
structure Bu where
 g:Aig
 e:Int
def Bu.op(b:Bu)(o:Op)(x y z:Int):Int×Bu:=
 if b.e≠0 then (0,b) else if (o.ap b.g x y z).2.2≠0 then (0,⟨b.g,(o.ap b.g x y z).2.2⟩) else ((o.ap b.g x y z).2.1,⟨(o.ap b.g x y z).1,0⟩)
def Pg.run{α:Type}:Pg α->Bu->α×Bu
 | .ret a,b=>(a,b)
 | .op o x y z k,b=>(k (b.op o x y z).1).run (b.op o x y z).2
theorem run_bind{α β:Type}(f:α->Pg β):∀(p:Pg α) (b:Bu),(p.bind f).run b=(f (p.run b).1).run (p.run b).2
 | .ret a,b=>rfl
 | .op o x y z k,b=>by simp only[Pg.bind,Pg.run];exact run_bind f _ _
theorem Fe{α:Type}(a:α)(b:Bu):(Pg.ret a).run b=(a,b):=rfl
def iter{α:Type}(f:Nat->α->Pg α)(a:α):Nat->Pg α
 |0=> .ret a
 |n+1=>(iter f a n).bind (f n)
theorem fx{α:Type}(f:Nat->α->Pg α)(a:α)(n:Nat)(b:Bu):(iter f a (n+1)).run b=(f n ((iter f a n).run b).1).run ((iter f a n).run b).2:=run_bind _ _ _
def gt(l:List Int)(i:Nat):Int:=l.getD i 0
def oI(x y:Int):Pg Int:= .op .and x y 0 .ret
def GJ(x y:Int):Pg Int:= .op .or x y 0 .ret
def eu(x y:Int):Pg Int:= .op .xor x y 0 .ret
def oJ(c x y:Int):Pg Int:= .op .mux c x y .ret
def aN(x:List Int):List Int:=x.map turn
def eA(f:Int->Int->Pg Int)(x y:List Int):Nat->Pg (List Int):=iter (λi out=>(f (gt x i) (gt y i)).bind λr=> .ret (out++[r])) []
def kI(f:Int->Int->Pg Int)(a:Int)(l:List Int):Nat->Pg Int:=iter (λi a=>f a (gt l i)) a
def gh(p q c:Int):Pg (Int×Int):=
 (eu p q).bind λe=>(eu e c).bind λs=>(oI p q).bind λboth=>(oI e c).bind λon=>(GJ both on).bind λc=> .ret (s,c)
def BF(x y:List Int)(c:Int):Nat->Pg (List Int×Int):=iter (λi r=>(gh (gt x i) (gt y i) r.2).bind λs=> .ret (r.1++[s.1],s.2)) ([],c)
def cj(x y:List Int)(c:Int):Pg (List Int×Int):=BF x y c x.length
def yO(x:List Int)(bit:Int)(i:Nat):Nat->Pg (List Int):=iter (λj row=>(oI (gt x j) bit).bind λr=> .ret (row++[r])) (List.replicate i 0)
def yP(x y:List Int):Nat->Pg (List Int):=iter (λi out=>(yO x (gt y i) i (x.length-i)).bind λrow=>(cj out row 0).bind λr=> .ret r.1) (List.replicate x.length 0)
def ng(x:List Int)(k:Int):Int:=if 0<=k/\k<x.length then gt x k.toNat else 0
def kJ(up:Bool)(i j:Nat):Int:=if up then j-2^(min i 8) else j+2^(min i 8)
def oK(x:List Int)(bit:Int)(up:Bool)(i:Nat):Nat->Pg (List Int):=iter (λj out=>(oJ bit (ng x (kJ up i j)) (gt x j)).bind λr=> .ret (out++[r])) []
def lX(x y:List Int)(up:Bool):Nat->Pg (List Int):=iter (λi x=>oK x (gt y i) up i x.length) x
def eB(l:List Int):Pg Int:=kI oI 1 l l.length
def bu(x y:List Int):Pg Int:=(cj x (aN y) 1).bind λr=> .ret (turn r.2)
def mU(x y:List Int):Pg Int:=(eA eu x y x.length).bind λl=>eB (aN l)
def mE(op:Int)(a:List Int):Pg (List Int):=
 if op=1 then .ret (aN a)
 else if op=2 then (cj (aN a) (List.replicate a.length 0) 1).bind λr=> .ret r.1
 else if op=3 then (eB a).bind λr=> .ret [r]
 else if op=4 then (eB (aN a)).bind λr=> .ret [turn r]
 else if op=5 then (kI eu 0 a a.length).bind λr=> .ret [r]
 else .ret [turn (gt a 0)]
def cD(op:Int)(x y:List Int):Pg (List Int):=
 if op=11\/op=25 then eA oI x y x.length
 else if op=12\/op=26 then eA GJ x y x.length
 else if op=13 then eA eu x y x.length
 else if op=14 then (cj x y 0).bind λr=> .ret r.1
 else if op=15 then (cj x (aN y) 1).bind λr=> .ret r.1
 else if op=16 then yP x y y.length
 else if op=17 then lX x y true y.length
 else if op=18 then lX x y false y.length
 else if op=19 then (mU x y).bind λr=> .ret [r]
 else if op=20 then (mU x y).bind λr=> .ret [turn r]
 else if op=21 then (bu x y).bind λr=> .ret [r]
 else if op=23 then (bu y x).bind λr=> .ret [r]
 else if op=22 then (bu y x).bind λr=> .ret [turn r]
 else (bu x y).bind λr=> .ret [turn r]
def gJ(c:Int)(x y:List Int):Pg (List Int):=eA (λp q=>oJ c p q) x y x.length
def fS(op w:Int)(a:List Int):List Int:=
 if op=33 then a.take w.toNat else a++List.replicate (w.toNat-a.length) (if op=32 then gt a (a.length-1) else 0)
def lY(w v:Int):List Int:=(List.range w.toNat).map λi=>v/2^i%2
def eO(g:Aig)(a:List Int):Bool:=decide (0<a.length)&&decide (a.length<=64)&&a.all g.lit
def zG:Aig:=⟨0,[],[],[]⟩
def bK(r:List Int×Bu):Aig×List Int×Int:=if r.2.e≠0 then (zG,[],r.2.e) else (r.2.g,r.1,0)
def gC(g:Aig)(may:Bool)(p:Pg (List Int)):Aig×List Int×Int:=
 if g.check≠0 then (zG,[],g.check) else if may=false then (zG,[],1) else bK (p.run ⟨g,0⟩)
def qC(g:Aig)(op:Int)(a:List Int):Bool:=eO g a&&decide (1<=op/\op<=6/\(op≠6\/a.length=1))
def kf(g:Aig)(op:Int)(a b:List Int):Bool:=eO g a&&eO g b&&decide (11<=op/\op<=26/\(op=17\/op=18\/(a.length=b.length/\(op<25\/a.length=1))))
def lZ(g:Aig)(op w:Int)(a:List Int):Bool:=eO g a&&decide (1<=w/\w<=64/\31<=op/\op<=33/\(w=a.length\/(w<a.length↔op=33)))
def Un(g:Aig)(op:Int)(a:List Int):=gC g (qC g op a) (mE op a)
def Ff(g:Aig)(op:Int)(a b:List Int):=gC g (kf g op a b) (cD op a b)
def Ext(g:Aig)(op w:Int)(a:List Int):=gC g (lZ g op w a) (.ret (fS op w a))
end Fil.Bl
namespace Fil.Bl
open Abs
structure Ok(g:Aig):Prop where
 wf:Wf g
 chk:g.check=0
theorem Ok.fine{g:Aig}(h:Ok g):Fine g:=cU h.wf h.chk
def Op.lits:Op->Int->Int->Int->List Int
 | .mux,x,y,z=>[x,y,z]
 |_,x,y,_=>[x,y]
theorem BG{g:Aig}(hs:Wf g)(o:Op)(x y z:Int):Res g 3 (o.lits x y z) (o.ap g x y z):=by
 have up:∀{l:List Int} {r:Aig×Int×Int},Res g 1 l r->Res g 3 l r:=λh=>by
  rcases h with ⟨h1,h2,h3,h4,h5,h6,h7⟩|h
  ·exact .inl ⟨h1,h2,h3,h4,h5,h6,by omega⟩
  ·exact .inr h
 cases o with
 |and=>exact up (Fa hs x y)
 |or=>exact up (Im hs x y)
 |xor=>exact Fb hs x y
 |mux=>exact Fc hs x y z
theorem wv{g:Aig}(hs:Wf g){o:Op}{x y z:Int}(h:(o.ap g x y z).2.2=0):Ok g/\Ok (o.ap g x y z).1/\Fil.Ext g (o.ap g x y z).1/\(o.ap g x y z).1.lit (o.ap g x y z).2.1=true/\(o.ap g x y z).1.ands.length<=g.ands.length+3/\∀a∈o.lits x y z,g.lit a=true:=by
 obtain⟨h1,h2,h3,h4,h5,h6,h7⟩:=(BG hs o x y z).check hs h;exact⟨⟨hs,h7⟩,⟨h2.toWf,h1⟩,h3,h4,h5,h6⟩
theorem In{g:Aig}(hs:Wf g)(o:Op)(x y z:Int):Wf (o.ap g x y z).1/\I64 (o.ap g x y z).2.1:=(BG hs o x y z).wf
theorem dD{b:Bu}(hs:Wf b.g)(o:Op)(x y z:Int):Wf (b.op o x y z).2.g/\I64 (b.op o x y z).1:=by
 unfold Bu.op;split
 ·exact⟨hs,by unfold I64;omega⟩
 split
 ·exact⟨hs,by unfold I64;omega⟩
 ·exact In hs o x y z
def b2(b:Bool):Int:=if b then 1 else 0
end Fil.Bl
namespace Fil.Bl
open Abs
def Fg:List Bool->Nat
 |[]=>0
 |b::l=>b.toNat+2*Fg l
theorem wD:∀l:List Bool,Fg (l.map (!·))+Fg l+1=2^l.length
 |[]=>rfl
 |b::l=>by
  have:=wD l
  simp only[List.map_cons,Fg,List.length_cons,Nat.pow_succ];cases b<;>simp only[Bool.not_true,Bool.not_false,Bool.toNat_true,Bool.toNat_false]<;>omega
theorem BH{l:List Bool}:Fg l=0↔∀b∈l,b=false:=by
 induction l with
 |nil=>simp[Fg]
 |cons a l ih=>
  simp only[Fg,List.mem_cons,forall_eq_or_imp,<-ih];cases a<;>simp only[Bool.toNat_true,Bool.toNat_false,reduceCtorEq,true_and,false_and,iff_false]<;>omega
structure Lits(W:Int->Prop)(V:Int->Bool):Prop where
 w0:W 0
 w1:W 1
 v0:V 0=false
 v1:V 1=true
 wt:∀a,W a->W (turn a)
 vt:∀a,W a->V (turn a)= !V a
section
variable {W : Int -> Prop} {V : Int -> Bool} (L : Lits W V)
include L
end
end Fil.Bl
namespace Fil.Bl
open Abs
def n1(p:Prop)[Decidable p]:Nat:=if p then 1 else 0
theorem kK{l:List Bool}:l.all id=decide (Fg l=2^l.length-1):=by
 have h:=wD l;rw[Bool.eq_iff_iff,decide_eq_true_eq,List.all_eq_true];have hz:=BH (l:=l.map (!·));constructor
 ·intro k
  have:Fg (l.map (!·))=0:=hz.2 λb hb=>by
   obtain⟨a,ha,rfl⟩:=List.mem_map.1 hb;have:=k a ha
   simp only[id] at this;simp[this]
  omega
 ·intro k a ha;have h2:=hz.1 (by have:=Nat.two_pow_pos l.length;omega) (!a) (List.mem_map_of_mem ha);simpa using h2
section
variable {W : Int -> Prop} {V : Int -> Bool} (L : Lits W V)
include L
end
end Fil.Bl
namespace Fil.Bl
open Abs Go
theorem BI(n:Int)(h:0<=n)(h2:n<18446744073709551616):IntKind.u64.wrap n=n:=by
 simp[IntKind.wrap,IntKind.signed,IntKind.bits];omega
theorem qD(n:Int):IntKind.u64.wrap n=n%18446744073709551616:=by
 simp[IntKind.wrap,IntKind.signed,IntKind.bits]
theorem Ks(a:Nat):(BitVec.ofInt 64 (a:Int)).toNat=a%18446744073709551616:=by
 rw[BitVec.toNat_ofInt];omega
theorem Kj(a b:Nat)(ha:a<18446744073709551616)(hb:b<18446744073709551616):IntKind.u64.wrap ((BitVec.ofInt IntKind.u64.bits (a:Int)&&& BitVec.ofInt IntKind.u64.bits (b:Int)).toNat:Nat)=((a&&& b:Nat):Int):=by
 have e:(BitVec.ofInt 64 (a:Int)&&& BitVec.ofInt 64 (b:Int)).toNat=a&&& b:=by
  rw[BitVec.toNat_and,Ks,Ks,Nat.mod_eq_of_lt ha,Nat.mod_eq_of_lt hb]
 show IntKind.u64.wrap ((BitVec.ofInt 64 (a:Int)&&& BitVec.ofInt 64 (b:Int)).toNat:Nat)=_
 rw[e];have:=Nat.and_le_left (n:=a) (m:=b)
 exact BI _ (by omega) (by omega)
theorem GK(a:Nat)(ha:a<18446744073709551616):IntKind.u64.wrap ((BitVec.ofInt IntKind.u64.bits (a:Int)&&& BitVec.ofInt IntKind.u64.bits 1).toNat:Nat)=((a%2:Nat):Int):=by
 have:=Kj a 1 ha (by omega)
 rw[Nat.and_one_is_mod] at this;exact this
theorem GL(a k:Nat):((a:Int).fdiv (2^k))=((a/2^k:Nat):Int):=by
 have e:(2:Int)^k=((2^k:Nat):Int):=by simp
 rw[e,Int.fdiv_eq_ediv_of_nonneg _ (Int.natCast_nonneg _),Int.natCast_ediv]
theorem JL(a k:Nat):IntKind.u64.wrap ((a:Int)*2^k)=((a*2^k%18446744073709551616:Nat):Int):=by
 have e:(2:Int)^k=((2^k:Nat):Int):=by simp
 rw[qD,e];simp
def maskN(w:Int):Nat:=if w<1 then 0 else if 63<w then 18446744073709551615 else 2^w.toNat-1
theorem kL{w:Int}(h:1<=w/\w<=64):maskN w=2^w.toNat-1:=by
 unfold maskN;rw[if_neg (by omega)];split
 ·have:w=64:=by omega
  subst this;rfl
 ·rfl
theorem BJ(w:Int):maskN w<18446744073709551616:=by
 unfold maskN;split
 ·omega
 split
 ·omega
 ·have:2^w.toNat<=2^63:=Nat.pow_le_pow_right (by omega) (by omega)
  have e:(2:Nat)^63=9223372036854775808:=by decide
  omega
def d6(w:Int)(v:Nat):Bool:=decide (1<=w/\w<=64/\v<=maskN w)
theorem yQ{w:Int}{v:Nat}:d6 w v=true↔(1<=w/\w<=64)/\v<2^w.toNat:=by
 unfold d6;rw[decide_eq_true_eq];constructor
 ·rintro⟨h1,h2,h3⟩;rw[kL ⟨h1,h2⟩] at h3;have:=Nat.two_pow_pos w.toNat
  exact⟨⟨h1,h2⟩,by omega⟩
 ·rintro⟨h1,h2⟩;refine⟨h1.1,h1.2,?_⟩;rw[kL h1];omega
end Fil.Bl
namespace Go.Proofs.YtbbihmmobfmadaaGreat
open Abs Fil Fil.Bl
abbrev Fh(w:Int)(v:Nat):AV:= .agg [.int .i64 w, .int .u64 v]
theorem Fi(w:Int)(σ:aB):C_ 87 [.int .i64 w] σ (.int .u64 (maskN w)) σ:=by
 have hv:(w<1/\maskN w=0)\/(¬w<1/\63<w/\maskN w=18446744073709551615)\/(¬w<1/\¬63<w/\maskN w=2^w.toNat-1):=by
  unfold maskN;by_cases h1:w<1
  ·exact .inl ⟨h1,by rw[if_pos h1]⟩
  ·by_cases h2:63<w
   ·exact .inr (.inl ⟨h1,h2,by rw[if_neg h1,if_pos h2]⟩)
   ·exact .inr (.inr ⟨h1,h2,by rw[if_neg h1,if_neg h2]⟩)
 refine gO [] Tryz.func87 (by kernel_rfl) (by conv=>lhs;reduce;dsimp only[iA]) rfl ?_;rcases hv with ⟨h1,h2⟩|⟨h1,h2,h3⟩|⟨h1,h2,h3⟩
 ·rw[h2];clear h2;repeat' (first|simp -implicitDefEqProofs -dsimp only[go_sem,seval, *]|(refine fin_eq ?_;repeat' simp -implicitDefEqProofs -dsimp only[go_sem,seval,Int.natCast_zero, *]))
 ·rw[h3];clear h3;repeat' (first|simp -implicitDefEqProofs -dsimp only[go_sem,seval,gt_iff_lt, *]|refine fin_eq ?_)
 ·have h0:¬w<0:=by omega
  have hm:Nat.min w.toNat 64=w.toNat:=Nat.min_eq_left (by omega);have hlt:2^w.toNat<=2^63:=Nat.pow_le_pow_right (by omega) (by omega);have e63:(2:Nat)^63=9223372036854775808:=by decide
  have hs:IntKind.u64.wrap (1*2^w.toNat)=((2^w.toNat:Nat):Int):=by
   have:=JL 1 w.toNat
   rw[Nat.one_mul,Nat.mod_eq_of_lt (by omega)] at this;exact this
  have hp:=Nat.two_pow_pos w.toNat
  have hsb:IntKind.u64.wrap (((2^w.toNat:Nat):Int)-1)=((2^w.toNat-1:Nat):Int):=by
   rw[BI _ (by omega) (by omega)];omega
  rw[h3];generalize hM:2^w.toNat-1=M at hsb|-;generalize hN:2^w.toNat=N at hs hsb;clear h3 hlt e63 hp hM hN;repeat' (first|simp -implicitDefEqProofs -dsimp only[go_sem,seval,gt_iff_lt, *]|refine fin_eq ?_)
theorem vB(w:Int)(v:Nat)(σ:aB):C_ 59 [Fh w v] σ (.int .i64 (if d6 w v then 0 else 1)) σ:=by
 have c1:=λτ=>Fi w τ;have hv:d6 w v=decide (1<=w/\w<=64/\v<=maskN w):=rfl;generalize hB:d6 w v=B at hv|-;generalize hM:maskN w=M at c1 hv;clear hB hM;refine gO [1] Tryz.func59 (by kernel_rfl) (by conv=>lhs;reduce;dsimp only[iA]) rfl ?_;by_cases h1:w<1
 ·have hb:B=false:=by rw[hv];exact decide_eq_false (by omega)
  subst hb;clear hv;repeat' (first|simp -implicitDefEqProofs -dsimp only[go_sem,seval, *]|refine fin_eq ?_)
 by_cases h2:64<w
 ·have hb:B=false:=by rw[hv];exact decide_eq_false (by omega)
  subst hb;clear hv;repeat' (first|simp -implicitDefEqProofs -dsimp only[go_sem,seval,gt_iff_lt, *]|refine fin_eq ?_)
 by_cases h3:(M:Int)<v
 ·have hb:B=false:=by rw[hv];exact decide_eq_false (by omega)
  subst hb;clear hv;repeat' (first|simp -implicitDefEqProofs -dsimp only[go_sem,seval,gt_iff_lt, *]|refine id_one0 (λtS hS=>c1 _) trivial ?_|refine fin_eq ?_)
 ·have hb:B=true:=by rw[hv];exact decide_eq_true (by omega)
  subst hb;clear hv;repeat' (first|simp -implicitDefEqProofs -dsimp only[go_sem,seval,gt_iff_lt, *]|refine id_one0 (λtS hS=>c1 _) trivial ?_|refine fin_eq ?_)
theorem vC(b:Bool)(σ:aB):C_ 156 [.bool b] σ (Fh 1 b.toNat) σ:=by
 refine gO [] Tryz.func156 (by kernel_rfl) (by conv=>lhs;reduce;dsimp only[iA]) rfl ?_;cases b
 all_goals
  repeat' (first|simp -implicitDefEqProofs -dsimp only[go_sem,seval,Bool.toNat_true,Bool.toNat_false, *]|(refine Zt λoF hoF hnF hnF'=>?_;try simp only[aa,ne_eq,not_and] at hoF)|(refine fin_eq ?_;repeat' simp -implicitDefEqProofs -dsimp only[go_sem,seval,Int.natCast_zero,Int.natCast_one, *]))
end Go.Proofs.YtbbihmmobfmadaaGreat
namespace Go.Proofs.YtbbihmmobfmadaaGreat
open Abs Fil Fil.Bl
theorem tj{w:Int}{v:Nat}(hw:1<=w/\w<=64)(hv:v<18446744073709551616):
  (IntKind.u64.wrap ((BitVec.ofInt IntKind.u64.bits (v:Int)&&& ~~~ BitVec.ofInt IntKind.u64.bits (maskN w:Int)).toNat:Nat)==0)=decide (v<=maskN w):=by
 have hm:=kL hw;have hml:=BJ w;have hp:=Nat.two_pow_pos w.toNat
 have e:(BitVec.ofInt 64 (v:Int)&&& ~~~ BitVec.ofInt 64 (maskN w:Int)).toNat=v-v%2^w.toNat:=by
  have e1:BitVec.ofInt 64 (v:Int)=BitVec.ofNat 64 v:=by simp
  have e2:BitVec.ofInt 64 (maskN w:Int)=BitVec.ofNat 64 (maskN w):=by simp
  rw[e1,e2];apply Nat.eq_of_testBit_eq
  intro i;rw[BitVec.testBit_toNat,BitVec.getLsbD_and,BitVec.getLsbD_not,BitVec.getLsbD_ofNat,BitVec.getLsbD_ofNat,hm,Nat.testBit_two_pow_sub_one]
  have hd:v-v%2^w.toNat=v/2^w.toNat*2^w.toNat:=by
   have:=Nat.div_add_mod v (2^w.toNat)
   rw[Nat.mul_comm] at this;omega
  rw[hd,Nat.testBit_mul_two_pow,Nat.testBit_div_two_pow];by_cases h1:i<64
  ·by_cases h2:w.toNat<=i
   ·have h3:¬i<w.toNat:=by omega
    simp[h1,h2,h3,Nat.sub_add_cancel h2]
   ·have h3:i<w.toNat:=by omega
    simp[h1,h2,h3]
  ·have hvb:v.testBit i=false:=Nat.testBit_lt_two_pow (Nat.lt_of_lt_of_le hv (by
    have:2^64<=2^i:=Nat.pow_le_pow_right (by omega) (by omega)
    have e:(2:Nat)^64=18446744073709551616:=by decide
    omega))
   by_cases h2:w.toNat<=i
   ·simp[h1,h2,Nat.sub_add_cancel h2,hvb]
   ·simp[h1,h2]
 show(IntKind.u64.wrap ((BitVec.ofInt 64 (v:Int)&&& ~~~ BitVec.ofInt 64 (maskN w:Int)).toNat:Nat)==0)=_
 have hle:=Nat.mod_le v (2^w.toNat);rw[e,BI _ (by omega) (by omega),Bool.eq_iff_iff,beq_iff_eq,decide_eq_true_eq,hm];have hmod:=Nat.mod_lt v hp;constructor
 ·intro h;omega
 ·intro h;have:v%2^w.toNat=v:=Nat.mod_eq_of_lt (by omega)
  omega
theorem Fj(w:Int)(σ:aB):C_ 172 [.int .i64 w] σ (.int .u64 (maskN w)) σ:=by
 refine gO [] Tryz.func172 (by kernel_rfl) (by conv=>lhs;reduce;dsimp only[iA]) rfl ?_;by_cases h1:w<=0
 ·have e:maskN w=0:=by unfold maskN;rw[if_pos (by omega)]
  rw[e];clear e;repeat' (first|simp -implicitDefEqProofs -dsimp only[go_sem,seval, *]|(refine fin_eq ?_;repeat' simp -implicitDefEqProofs -dsimp only[go_sem,seval,Int.natCast_zero, *]))
 by_cases h2:w<64
 case neg=>
  have e:maskN w=18446744073709551615:=by unfold maskN;rw[if_neg (by omega),if_pos (by omega)]
  rw[e];clear e;repeat' (first|simp -implicitDefEqProofs -dsimp only[go_sem,seval, *]|refine fin_eq ?_)
 have h0:¬w<0:=by omega
 have hm:Nat.min w.toNat 64=w.toNat:=Nat.min_eq_left (by omega);have hlt:2^w.toNat<=2^63:=Nat.pow_le_pow_right (by omega) (by omega);have e63:(2:Nat)^63=9223372036854775808:=by decide
 have hp:=Nat.two_pow_pos w.toNat
 have hs:IntKind.u64.wrap (18446744073709551615*2^w.toNat)=((18446744073709551616-2^w.toNat:Nat):Int):=by
  have:=JL 18446744073709551615 w.toNat
  have e:18446744073709551615*2^w.toNat=(18446744073709551616-2^w.toNat)+18446744073709551616*(2^w.toNat-1):=by
   generalize hN:2^w.toNat=N at hp hlt|-;omega
  rw[e,Nat.add_mul_mod_self_left,Nat.mod_eq_of_lt (by omega)] at this;exact this
 have e:maskN w=2^w.toNat-1:=kL (by omega);rw[e];generalize hN:2^w.toNat=N at hs hp hlt|-;clear e hN;repeat' (first|simp -implicitDefEqProofs -dsimp only[go_sem,seval, *]|refine fin_eq ?_)
 all_goals
  have ex:(BitVec.ofInt IntKind.u64.bits 18446744073709551615 ^^^ BitVec.ofInt IntKind.u64.bits ((18446744073709551616-N:Nat):Int)).toNat=N-1:=by
   show(BitVec.ofInt 64 18446744073709551615 ^^^ BitVec.ofInt 64 ((18446744073709551616-N:Nat):Int)).toNat=N-1
   have e1:BitVec.ofInt 64 18446744073709551615=BitVec.allOnes 64:=by decide
   rw[e1,BitVec.allOnes_xor,BitVec.ofInt_natCast,BitVec.toNat_not,BitVec.toNat_ofNat,Nat.mod_eq_of_lt (by omega)];omega
  rw[ex,qD];omega
theorem Io(w:Int)(v:Nat)(hv:v<18446744073709551616)(σ:aB):C_ 108 [Fh w v] σ (.bool (d6 w v)) σ:=by
 have c1:=λτ=>Fj w τ;have hb:d6 w v=decide (1<=w/\w<=64/\v<=maskN w):=rfl;have hn:=λh=>tj (w:=w) (v:=v) h hv;generalize hB:d6 w v=B at hb|-;generalize hM:maskN w=M at c1 hb hn;clear hB hM;refine gO [1] Tryz.func108 (by kernel_rfl) (by conv=>lhs;reduce;dsimp only[iA]) rfl ?_;by_cases h1:0<w
 case neg=>
  have hB:B=false:=by rw[hb];exact decide_eq_false (by omega)
  subst hB;clear hb hn;repeat' (first|simp -implicitDefEqProofs -dsimp only[go_sem,seval, *]|refine fin_eq ?_)
 by_cases h2:w<=64
 case neg=>
  have hB:B=false:=by rw[hb];exact decide_eq_false (by omega)
  subst hB;clear hb hn;repeat' (first|simp -implicitDefEqProofs -dsimp only[go_sem,seval, *]|refine fin_eq ?_)
 have hn:=hn (by omega);have hB:decide (v<=M)=B:=by rw[hb];congr 1;simp only[eq_iff_iff];omega
 rw[hB] at hn;clear hb hB;repeat' (first|simp -implicitDefEqProofs -dsimp only[go_sem,seval, *]|with_reducible refine id_one0 (λtS hS=>c1 _) trivial ?_|refine fin_eq ?_)
theorem BK(w:Int)(v:Nat)(hv:v<18446744073709551616)(σ:aB):C_ 58 [Fh w v] σ (.int .i64 (if d6 w v then 0 else 1)) σ:=by
 have c1:=λτ=>Io w v hv τ;generalize hB:d6 w v=B at c1|-;clear hB;refine gO [1] Tryz.func58 (by kernel_rfl) (by conv=>lhs;reduce;dsimp only[iA]) rfl ?_;cases B
 all_goals
  repeat' (first|simp -implicitDefEqProofs -dsimp only[go_sem,seval, *]|refine kc1 (c1 _) ?_|refine fin_eq ?_)
end Go.Proofs.YtbbihmmobfmadaaGreat
namespace Go.Proofs.YtbbihmmobfmadaaGreat
open Abs Fil Fil.Bl
abbrev bg(b:Bu):AObj:=eS b.g b.e
theorem wE(o:Nat)(b:Bu)(g':Aig)(l e':Int)(F:Nat)(caps:List AV)(σ:aB)(h:σ o=some (bg b))
  (hF:b.e=0->ACalls Tryz.prog F caps σ (λr σ'=>r= .ret (.tup [aJ g', .int .i64 l, .int .i64 e'])/\σ'=σ)):
  C_ 163 [.ptr o 0, .fn F [] caps] σ (.int .i64 (if b.e≠0 then 0 else if e'≠0 then 0 else l)) (aF σ o (bg (if b.e≠0 then b else if e'≠0 then ⟨b.g,e'⟩ else ⟨g',0⟩))):=by
 have hu:aF σ o (bg b)=σ:=by
  funext k
  by_cases hk:k=o
  ·subst hk;simp[aF,h]
  ·simp[aF,hk]
 obtain⟨L,hL⟩:∃L,(if b.e≠0 then (0:Int) else if e'≠0 then 0 else l)=L:=⟨_,rfl⟩;obtain⟨B,hB⟩:∃B,(if b.e≠0 then b else if e'≠0 then ⟨b.g,e'⟩ else ⟨g',0⟩:Bu)=B:=⟨_,rfl⟩;rw[hL,hB];by_cases hb:b.e=0
 ·simp only[hb,ne_eq,not_true_eq_false,if_false] at hL hB;have hF:=hF hb;by_cases he:e'=0
  ·simp only[he,not_true_eq_false,if_false] at hL hB;subst he hL hB;clear hu;refine gO [] Tryz.func163 (by kernel_rfl) (by conv=>lhs;reduce;dsimp only[iA]) rfl ?_;repeat' (first|simp -implicitDefEqProofs -dsimp only[go_sem,seval, *]|(with_reducible refine Zt λoF hoF hnF hnF'=>?_;try simp only[aa,ne_eq,not_and] at hoF)|refine kc1 (hF) ?_|refine fin_eq ?_)
  ·simp only[he,not_false_eq_true,if_true] at hL hB;subst hL hB;have heb:(e' != 0)=true:=by simpa using he
   clear hu he;refine gO [] Tryz.func163 (by kernel_rfl) (by conv=>lhs;reduce;dsimp only[iA]) rfl ?_;repeat' (first|simp -implicitDefEqProofs -dsimp only[go_sem,seval, *]|(with_reducible refine Zt λoF hoF hnF hnF'=>?_;try simp only[aa,ne_eq,not_and] at hoF)|refine kc1 (hF) ?_|refine fin_eq ?_)
 ·simp only[hb,ne_eq,not_false_eq_true,if_true] at hL hB;subst hL hB;rw[hu];have hbb:(b.e != 0)=true:=by simpa using hb
  clear hF hu hb;refine gO [] Tryz.func163 (by kernel_rfl) (by conv=>lhs;reduce;dsimp only[iA]) rfl ?_;repeat' (first|simp -implicitDefEqProofs -dsimp only[go_sem,seval, *]|refine fin_eq ?_)
end Go.Proofs.YtbbihmmobfmadaaGreat
