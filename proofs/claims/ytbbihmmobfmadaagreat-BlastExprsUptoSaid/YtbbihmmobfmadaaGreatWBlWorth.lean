/- Plain laws of layer 19: an expression's word means the expression. -/
import Derived.Test.YtbbihmmobfmadaaGreatWBlzBlaF
import Derived.Test.YtbbihmmobfmadaaGreatWBlzBlaV
import Derived.Test.YtbbihmmobfmadaaGreatWBlExpr
set_option linter.unusedSimpArgs false
set_option linter.unusedVariables false
namespace Fil.Bl
open Abs
theorem DI:Lits (λa=>a=0\/a=1) (λa=>decide (a=1)):=by
 refine⟨.inl rfl, .inr rfl,by decide,by decide,λa h=>?_,λa h=>?_⟩
 ·rcases h with rfl|rfl
  ·exact .inr (by decide)
  ·exact .inl (by decide)
 ·rcases h with rfl|rfl<;>decide
theorem lQ(n v:Nat):(gl n v).length=n:=by simp[gl]
theorem DJ(n v:Nat):Ws (λa=>a=0\/a=1) (gl n v):=by
 intro a ha;obtain⟨i,_,rfl⟩:=List.mem_map.1 ha;have:(v:Int)/2^i%2=((v/2^i%2:Nat):Int):=by simp
 rw[this];rcases Nat.mod_two_eq_zero_or_one (v/2^i) with h|h<;>rw[h]<;>simp
theorem Lf{n v i:Nat}(h:i<n):gt (gl n v) i=((v/2^i%2:Nat):Int):=by
 simp[gt,gl,List.getD_eq_getElem?_getD,h]
theorem yK{n v:Nat}(h:v<2^n):aT ((gl n v).map λa=>decide (a=1))=v:=by
 refine Nat.eq_of_testBit_eq λj=>?_;rw[fj DI];by_cases hj:j<n
 ·rw[Lf hj,Nat.testBit_eq_decide_div_mod_eq];rw[decide_eq_decide];omega
 ·rw[gD (by rw[lQ];omega)];rw[Nat.testBit_lt_two_pow (Nat.lt_of_lt_of_le h (Nat.pow_le_pow_right (by omega) (by omega)))];decide
end Fil.Bl
namespace Fil.Bl
open Abs
theorem th(b:Bool):∀k,aT (List.replicate k b)=if b then 2^k-1 else 0
 |0=>by cases b<;>simp[aT]
 |k+1=>by
  rw[List.replicate_succ,aT,th b k];cases b with
  |false=>simp
  |true=>
   have:=Nat.two_pow_pos k
   simp only[Bool.toNat_true,if_true,Nat.pow_succ];omega
theorem Lg(l:List Bool)(n:Nat)(h:n<=l.length):aT (l.take n)=aT l%2^n:=by
 have e:=List.take_append_drop n l;have h1:=lr (l.take n) (l.drop n);rw[e,List.length_take,Nat.min_eq_left h] at h1;have h2:=dG (l.take n);rw[List.length_take,Nat.min_eq_left h] at h2;rw[h1,Nat.add_mul_mod_self_left,Nat.mod_eq_of_lt h2]
def DK(op:Int)(w v a:Nat):Nat:=if op=31 then a else if op=32 then (if a/2^(v-1)=1 then a|||((2^w-1)-(2^v-1)) else a) else a%2^w
theorem HJ(V:Int->Bool)(v0:V 0=false){op:Int}{w:Nat}{a:List Int}(h1:1<=a.length)(ho:(op=31\/op=32)/\a.length<=w\/op=33/\w<=a.length):
  (ff op w a).length=w/\aT ((ff op w a).map V)=DK op w a.length (aT (a.map V)):=by
 rcases ho with ⟨h31|h32,hle⟩|⟨h33,hle⟩
 ·subst h31;have e:ff 31 w a=a++List.replicate (w-a.length) 0:=by unfold ff;rw[if_neg (by decide),if_neg (by decide)];simp
  rw[e];refine⟨by simp;omega,?_⟩;rw[List.map_append,lr,List.map_replicate,v0,th];simp[DK]
 ·subst h32;have e:ff 32 w a=a++List.replicate (w-a.length) (gt a (a.length-1)):=by unfold ff;rw[if_neg (by decide),if_pos rfl];simp
  rw[e];refine⟨by simp;omega,?_⟩;rw[List.map_append,lr,List.map_replicate,th,List.length_map]
  have htop:aT (a.map V)/2^(a.length-1)=(V (gt a (a.length-1))).toNat:=by
   have hne:a≠[]:=by intro h;rw[h] at h1;simp at h1
   have hl:a=a.dropLast++[a.getLast hne]:=(List.dropLast_concat_getLast hne).symm;have hg:gt a (a.length-1)=a.getLast hne:=by rw[lu (by omega),List.getLast_eq_getElem]
   rw[hg]
   have hs:aT (a.map V)=aT (a.dropLast.map V)+2^(a.length-1)*(V (a.getLast hne)).toNat:=by
    conv=>lhs;rw[hl]
    rw[List.map_append,List.map_cons,List.map_nil,toN_snoc,List.length_map,List.length_dropLast]
   have hlt:=dG (a.dropLast.map V);rw[List.length_map,List.length_dropLast] at hlt;rw[hs,Nat.add_mul_div_left _ _ (Nat.two_pow_pos _),Nat.div_eq_of_lt hlt,Nat.zero_add]
  have hlt:=dG (a.map V);rw[List.length_map] at hlt;have e3:DK 32 w a.length (aT (a.map V))=(if aT (a.map V)/2^(a.length-1)=1 then aT (a.map V)|||((2^w-1)-(2^a.length-1)) else aT (a.map V)):=rfl
  rw[e3,htop];cases hb:V (gt a (a.length-1)) with
  |false=>simp
  |true=>
   simp only[Bool.toNat_true,if_true];have hp:2^w=2^a.length*2^(w-a.length):=by rw[<-Nat.pow_add];congr 1;omega
   have hor:=Nat.two_pow_add_eq_or_of_lt hlt (2^(w-a.length)-1);have h2:=Nat.two_pow_pos a.length;have h3:=Nat.two_pow_pos (w-a.length)
   have e2:2^w-1-(2^a.length-1)=2^a.length*(2^(w-a.length)-1):=by
    rw[Nat.mul_sub,<-hp,Nat.mul_one];omega
   rw[e2,Nat.or_comm,<-hor,Nat.add_comm]
 ·subst h33;have e:ff 33 w a=a.take w:=by unfold ff;rw[if_pos rfl];simp
  rw[e];refine⟨by simp;omega,?_⟩;rw[List.map_take,Lg _ _ (by simp;omega)];simp[DK]
end Fil.Bl
namespace Fil.Bl
open Abs
def pS(l:List (Int×Nat)):Nat:=l.foldl (λa x=>a*2^x.1.toNat+x.2) 0
def g9(u:List Nat)(e:Sz.E)(l:List (Int×Nat)):Nat:=
 if e.op=3 then u.getD e.sig.toNat 0/2^(l.getD 0 (0,0)).2%2
 else if e.op=4 then (wV e.n (l.getD 0 (0,0)).1.toNat (l.getD 0 (0,0)).2).2
 else if e.op=5 then (qC e.n (l.getD 0 (0,0)).1.toNat (l.getD 0 (0,0)).2 (l.getD 1 (0,0)).2).2
 else if e.op=6 then (if (l.getD 0 (0,0)).2=1 then (l.getD 1 (0,0)).2 else (l.getD 2 (0,0)).2)
 else if e.op=8 then DK e.n e.w.toNat (l.getD 0 (0,0)).1.toNat (l.getD 0 (0,0)).2
 else pS l
def worth(u:List Nat)(e:Sz.E):Nat:=
 let ps:=e.l.attach.map λx=>(x.1.w,worth u x.1)
 if e.op=1 then e.v.toNat
 else if e.op=2 then u.getD e.sig.toNat 0/2^e.lo.toNat%2^(e.hi-e.lo+1).toNat
 else g9 u e ps
termination_by e
decreasing_by exact Sz.E.lt x.2
theorem dV(u:List Nat)(e:Sz.E):worth u e=(if e.op=1 then e.v.toNat
 else if e.op=2 then u.getD e.sig.toNat 0/2^e.lo.toNat%2^(e.hi-e.lo+1).toNat
 else g9 u e (e.l.map λx=>(x.w,worth u x))):=by rw[worth];rw[Sz.att e.l λx=>(x.w,worth u x)]
def rS(W:Int->Prop)(V:Int->Bool)(u:List Nat)(e:Sz.E)(out:List Int):Prop:=Ws W out/\(out.length:Int)=e.w/\aT (out.map V)=worth u e
theorem yL(V:Int->Bool)(W:Int->Prop)(u:List Nat):∀(es:List Sz.E) (l:List (List Int)),l.length=es.length->(∀i,(h:i<es.length)->rS W V u es[i] (l.getD i []))->
  Ws W l.reverse.flatten/\(l.reverse.flatten.length:Int)=(es.map Sz.E.w).sum/\∀a,aT (l.reverse.flatten.map V)+a*2^l.reverse.flatten.length=(es.map λx=>(x.w,worth u x)).foldl (λa x=>a*2^x.1.toNat+x.2) a
 |[],[],_,_=>⟨λa ha=>by simp at ha,by simp,λa=>by simp[aT]⟩
 |e::es,x::l,hl,h=>by
  have h0:rS W V u e x:=h 0 (by simp)
  obtain⟨a1,a2,a3⟩:=yL V W u es l (by simpa using hl) λi hi=>by
   have:=h (i+1) (by simpa using hi)
   simpa using this
  obtain⟨b1,b2,b3⟩:=h0;have e1:(x::l).reverse.flatten=l.reverse.flatten++x:=by simp
  rw[e1];refine⟨λz hz=>?_,?_,λa=>?_⟩
  ·rcases List.mem_append.1 hz with q|q
   ·exact a1 z q
   ·exact b1 z q
  ·simp only[List.map_cons,List.sum_cons,List.length_append,Int.natCast_add];omega
  ·simp only[List.map_cons,List.foldl_cons];rw[<-a3,List.map_append,lr,b3,List.length_map,List.length_append,Nat.pow_add];have:e.w.toNat=x.length:=by omega
   rw[this,Nat.add_mul];have c1:a*(2^l.reverse.flatten.length*2^x.length)=a*2^x.length*2^l.reverse.flatten.length:=by rw[Nat.mul_comm (2^l.reverse.flatten.length),Nat.mul_assoc]
   rw[c1,Nat.mul_comm (2^l.reverse.flatten.length)];omega
 |[],_::_,hl,_=>by simp at hl
 |_::_,[],hl,_=>by simp at hl
section
variable {W : Int -> Prop} {V : Int -> Bool} (L : Lits W V)
include L
omit L in
theorem Lh{ps:List (Pg (List Int))}{c:Nat->Nat}{R:Nat->List Int->Prop}(h:∀i,i<ps.length->jk W V (ps.getD i (.ret [])) λn out=>n<=c i/\R i out):
  ∀k,k<=ps.length->jk W V (uM ps k) λn l=>l.length=k/\n<=((List.range k).map c).sum/\∀i,i<k->R i (l.getD i []):=by
 intro k hk;refine eY (λk n (l:List (List Int))=>l.length=k/\n<=((List.range k).map c).sum/\∀i,i<k->R i (l.getD i [])) ⟨rfl,by simp,λi hi=>by omega⟩ k λi n l hi ⟨h1,h2,h3⟩=>?_;refine aS (aI (h i (by omega)) ?_);rintro m r ⟨hm,hr⟩;refine⟨by simp[h1],?_,λj hj=>?_⟩
 ·rw[List.range_succ,List.map_append,List.sum_append];simp only[List.map_cons,List.map_nil,List.sum_cons,List.sum_nil];omega
 ·by_cases hji:j<i
  ·rw[List.getD_eq_getElem?_getD,List.getElem?_append_left (by omega),<-List.getD_eq_getElem?_getD];exact h3 j hji
  ·have:j=i:=by omega
   subst this;rw[List.getD_eq_getElem?_getD,List.getElem?_append_right (by omega),h1,Nat.sub_self];exact hr
omit L in
theorem DL(es:List Sz.E):((List.range es.length).map λi=>212*(Sz.nodes (es.getD i ⟨0,0,0,0,0,0,0,[]⟩)-1)).sum+212*es.length<=212*(es.map Sz.nodes).sum:=by
 induction es with
 |nil=>simp
 |cons e es ih=>
  have hp:=Sz.nodes_pos e;rw[List.length_cons,List.range_succ_eq_map,List.map_cons,List.map_map,List.map_cons,List.sum_cons,List.sum_cons]
  have e1:((λi=>212*(Sz.nodes ((e::es).getD i ⟨0,0,0,0,0,0,0,[]⟩)-1))∘Nat.succ)=λi=>212*(Sz.nodes (es.getD i ⟨0,0,0,0,0,0,0,[]⟩)-1):=by
   funext i;simp
  rw[e1];have e2:(e::es).getD 0 ⟨0,0,0,0,0,0,0,[]⟩=e:=rfl;rw[e2];omega
omit L in
theorem iL{v:List (List Int)}{u:List Nat}{e:Sz.E}(ih:∀x∈e.l,jk W V (aM v x) λn out=>n<=212*(Sz.nodes x-1)/\rS W V u x out):
  jk W V (uM (e.l.map (aM v)) e.l.length) λn l=>l.length=e.l.length/\n+212*e.l.length+212<=212*Sz.nodes e/\∀i,(h:i<e.l.length)->rS W V u e.l[i] (l.getD i []):=by
 refine aI (Lh (c:=λi=>212*(Sz.nodes (e.l.getD i ⟨0,0,0,0,0,0,0,[]⟩)-1)) (R:=λi out=>∀h:i<e.l.length,rS W V u e.l[i] out) (λi hi=>?_) e.l.length (by simp)) ?_
 ·have hi':i<e.l.length:=by simpa using hi
  rw[List.getD_eq_getElem?_getD,List.getElem?_map,List.getElem?_eq_getElem hi'];refine aI (ih _ (List.getElem_mem hi')) λn out h=>⟨?_,λ_=>h.2⟩;rw[List.getD_eq_getElem?_getD,List.getElem?_eq_getElem hi'];exact h.1
 ·rintro n l ⟨h1,h2,h3⟩;refine⟨h1,?_,λi h=>h3 i h h⟩;have:=DL e.l
  rw[Sz.bK];omega
omit L in
theorem yM{l:List Int}(h:Ws W l)(n:Nat):Ws W (l.take n):=λa ha=>h a (List.mem_of_mem_take ha)
theorem Li{w v:Int}(hw:1<=w/\w<=64)(h0:0<=v)(hv:Sz.holds w v=true):Ws W (gl w v)/\((gl w v).length:Int)=w/\aT ((gl w v).map V)=v.toNat:=by
 obtain⟨n,rfl⟩:∃n:Nat,w=n:=⟨w.toNat,by omega⟩;obtain⟨k,rfl⟩:∃n:Nat,v=n:=⟨v.toNat,by omega⟩
 have hk:k<2^n:=by
  unfold Sz.holds at hv;rw[decide_eq_true_eq,Int.toNat_natCast] at hv;have e:((2:Int)^n)=((2^n:Nat):Int):=by simp
  rw[e] at hv;exact Int.ofNat_lt.1 hv
 have hb:=DJ n k;refine⟨λa ha=>?_,by rw[lQ],?_⟩
 ·rcases hb a ha with h|h
  ·rw[h];exact L.w0
  ·rw[h];exact L.w1
 ·have e:(gl n k).map V=(gl n k).map λa=>decide (a=1):=List.map_congr_left λa ha=>by
   rcases hb a ha with h|h
   ·rw[h,L.v0];rfl
   ·rw[h,L.v1];rfl
  rw[e,yK hk,Int.toNat_natCast]
omit L in
theorem DM(l:List Bool)(i:Nat):aT (l.drop i)=aT l/2^i:=by
 refine wP λj=>?_;rw[Nat.testBit_div_two_pow,j4,List.getD_eq_getElem?_getD,List.getD_eq_getElem?_getD,List.getElem?_drop,Nat.add_comm]
omit L in
theorem Lj{a:List Int}{lo hi:Int}(ha:Ws W a)(h0:0<=lo)(h1:lo<=hi)(h2:hi<a.length):Ws W (cut a lo hi)/\((cut a lo hi).length:Int)=hi-lo+1/\aT ((cut a lo hi).map V)=aT (a.map V)/2^lo.toNat%2^(hi-lo+1).toNat:=by
 unfold cut;refine⟨λz hz=>ha z (List.mem_of_mem_take (List.mem_of_mem_drop hz)),by rw[List.length_drop,List.length_take];omega,?_⟩;rw[List.map_drop,List.map_take,DM,po];refine Nat.eq_of_testBit_eq λj=>?_;rw[Nat.testBit_div_two_pow,Nat.testBit_mod_two_pow,Nat.testBit_mod_two_pow,Nat.testBit_div_two_pow];have:(lo.toNat+j<(hi+1).toNat)↔(j<(hi-lo+1).toNat):=by omega
 simp only[Nat.add_comm j lo.toNat,this]
omit L in
theorem DN{op:Int}(h:11<=op/\op<=26)(w a b:Nat):(qC op w a b).1=if op<=18 then w else 1:=by
 obtain⟨h1,h2⟩:=h;have:op=11\/op=12\/op=13\/op=14\/op=15\/op=16\/op=17\/op=18\/op=19\/op=20\/op=21\/op=22\/op=23\/op=24\/op=25\/op=26:=by omega
 clear h1 h2;rcases this with rfl|rfl|rfl|rfl|rfl|rfl|rfl|rfl|rfl|rfl|rfl|rfl|rfl|rfl|rfl|rfl<;>rfl
theorem yN{g:List Sz.Sg}{v:List (List Int)}{u:List Nat}(hv:Wv g v)(hW:∀a∈v,Ws W a)(h8:∀a∈v,a.length<=8)(hu:u=v.map λa=>aT (a.map V)){D:Sz.E->Prop}(hD:∀e,D e->(e.op=1->0<=e.v)/\e.w<=8/\∀x∈e.l,D x){e:Sz.E}(h:Sz.Fit g e):D e->
  jk W V (aM v e) λn out=>n<=212*(Sz.nodes e-1)/\rS W V u e out:=by
 have hwd:∀k:Int,0<=k->k<g.length->Ws W (wd v k)/\aT ((wd v k).map V)=u.getD k.toNat 0/\1<=(wd v k).length/\(wd v k).length<=8:=λk h0 h1=>by
  have hl:=hv.len;have hk:k.toNat<v.length:=by omega
  have hm:v[k.toNat]∈v:=List.getElem_mem hk;have e1:wd v k=v[k.toNat]:=by rw[wd,List.getD_eq_getElem?_getD,List.getElem?_eq_getElem hk];rfl
  rw[e1,hu,List.getD_eq_getElem?_getD,List.getElem?_map,List.getElem?_eq_getElem hk];exact⟨hW _ hm,rfl,(hv.one _ hm).1,h8 _ hm⟩
 have one:∀{r:Int},W r->Ws W [r]:=λhr x hx=>by rw[List.mem_singleton] at hx;subst hx;exact hr
 induction h with
 |@num e h hl hw hx=>
  intro hd;rw[gP,if_pos h];obtain⟨h1,h2,h3⟩:=Li L hw ((hD e hd).1 h) hx;exact⟨Nat.zero_le _,h1,h2,by rw[h3,dV,if_pos h]⟩
 |@sig e h hl hp hw h64=>
  intro hd;rw[gP,if_neg (by omega),if_pos h];obtain⟨p1,p2,p3,p4,p5⟩:=Sz.place_iff.1 hp;obtain⟨k1,k2,k3,k4⟩:=hwd e.sig p1 p2;have hl2:=hv.at p1 p2;obtain⟨h1,h2,h3⟩:=Lj (V:=V) k1 p3 p4 (by omega);exact⟨Nat.zero_le _,h1,by omega,by rw[h3,k2,dV,if_neg (by omega),if_pos h]⟩
 |@idx e a h hl h0 hs hw ha ih=>
  intro hd;obtain⟨d0,d1,d2⟩:=hD e hd;rw[hl] at d2;have iha:=ih (d2 a (by simp));have ha8:=(hD a (d2 a (by simp))).2.1;rw[bV (by omega) (by omega)];refine aS (aI (iL (u:=u) λx hx=>by rw[hl,List.mem_singleton] at hx;subst hx;exact iha) ?_);rintro n l ⟨l1,l2,l3⟩;rw[hl] at l1 l2;have l4:=l3 0 (by rw[hl];simp);simp only[hl,List.getElem_cons_zero] at l4;obtain⟨m1,m2,m3⟩:=l4;unfold bF;rw[if_pos h];obtain⟨k1,k2,k3,k4⟩:=hwd e.sig h0 hs;refine aS (aI (pt L k1 m1 false (by omega) _ (Nat.le_refl _)) ?_);rintro m out ⟨o1,o2,o3,o4⟩;rw[if_neg (by decide)] at o4;have hle:(wd v e.sig).length*(l.getD 0 []).length<=8*8:=Nat.mul_le_mul (by omega) (by omega);simp only[List.length_singleton] at l2;refine⟨by omega,yM o2 1,by rw[List.length_take];omega,?_⟩;rw[List.map_take,po,o4,dV,if_neg (by omega),if_neg (by omega),g9,if_pos h,hl,k2,List.take_of_length_le (Nat.le_refl _),m3];rfl
 |@un e a h hl hn hw h6 ha ih=>
  intro hd;obtain⟨d0,d1,d2⟩:=hD e hd;rw[hl] at d2;have iha:=ih (d2 a (by simp));have ha8:=(hD a (d2 a (by simp))).2.1;have hap:=ha.wid;rw[bV (by omega) (by omega)];refine aS (aI (iL (u:=u) λx hx=>by rw[hl,List.mem_singleton] at hx;subst hx;exact iha) ?_);rintro n l ⟨l1,l2,l3⟩;rw[hl] at l1 l2;have l4:=l3 0 (by rw[hl];simp);simp only[hl,List.getElem_cons_zero] at l4;obtain⟨m1,m2,m3⟩:=l4;unfold bF;rw[if_neg (by omega),if_pos h];refine aI (Md L m1 hn (by omega) (by omega) (by omega)) ?_;rintro m out ⟨o1,o2,o3⟩;simp only[List.length_singleton] at l2
  have e1:worth u e=(wV e.n (l.getD 0 []).length (aT ((l.getD 0 []).map V))).2:=by
   rw[dV,if_neg (by omega),if_neg (by omega),g9,if_neg (by omega),if_pos h,hl,m3];have:a.w.toNat=(l.getD 0 []).length:=by omega
   simp only[List.map_cons,List.map_nil,List.getD_cons_zero,this]
  have e2:(wV e.n (l.getD 0 []).length (aT ((l.getD 0 []).map V))).1=if e.n<=2 then (l.getD 0 []).length else 1:=by
   unfold wV;repeat' split
   all_goals first|rfl|omega
  refine⟨by omega,o2,?_,?_⟩
  ·rw[hw,show out.length=_ from(congrArg Prod.fst o3).trans e2];split<;>omega
  ·rw[e1];exact congrArg Prod.snd o3
 |@bin e a b h hl hn hw hab h25 ha hb iha ihb=>
  intro hd;obtain⟨d0,d1,d2⟩:=hD e hd;rw[hl] at d2;have iha:=iha (d2 a (by simp));have ihb:=ihb (d2 b (by simp));have ha8:=(hD a (d2 a (by simp))).2.1;have hb8:=(hD b (d2 b (by simp))).2.1;have hap:=ha.wid;have hbp:=hb.wid;rw[bV (by omega) (by omega)]
  refine aS (aI (iL (u:=u) λx hx=>by
   rw[hl] at hx;rcases List.mem_cons.1 hx with q|q
   ·subst q;exact iha
   ·rw[List.mem_singleton] at q;subst q;exact ihb) ?_)
  rintro n l ⟨l1,l2,l3⟩;rw[hl] at l1 l2;have l4:=l3 0 (by rw[hl];simp);have l5:=l3 1 (by rw[hl];simp);simp only[hl,List.getElem_cons_zero,List.getElem_cons_succ] at l4 l5;obtain⟨m1,m2,m3⟩:=l4;obtain⟨n1,n2,n3⟩:=l5;unfold bF;rw[if_neg (by omega),if_neg (by omega),if_pos h];refine aI (Kc L m1 n1 hn (by omega) (by omega)) ?_;rintro m out ⟨o1,o2,o3⟩;simp only[List.length_cons,List.length_nil] at l2;have hle:(l.getD 0 []).length*(l.getD 1 []).length<=8*8:=Nat.mul_le_mul (by omega) (by omega);rw[Nat.mul_assoc] at o1
  have e1:worth u e=(qC e.n (l.getD 0 []).length (aT ((l.getD 0 []).map V)) (aT ((l.getD 1 []).map V))).2:=by
   rw[dV,if_neg (by omega),if_neg (by omega),g9,if_neg (by omega),if_neg (by omega),if_pos h,hl,m3,n3];have:a.w.toNat=(l.getD 0 []).length:=by omega
   simp only[List.map_cons,List.map_nil,List.getD_cons_zero,List.getD_cons_succ,this]
  have e2:=DN hn (l.getD 0 []).length (aT ((l.getD 0 []).map V)) (aT ((l.getD 1 []).map V));refine⟨by omega,o2,?_,?_⟩
  ·rw[hw,show out.length=_ from(congrArg Prod.fst o3).trans e2];split<;>omega
  ·rw[e1];exact congrArg Prod.snd o3
 |@cond e a b c h hl hc hw hbc ha hb hcf iha ihb ihc=>
  intro hd;obtain⟨d0,d1,d2⟩:=hD e hd;rw[hl] at d2;have iha:=iha (d2 a (by simp));have ihb:=ihb (d2 b (by simp));have ihc:=ihc (d2 c (by simp));have hb8:=(hD b (d2 b (by simp))).2.1;have hbp:=hb.wid;rw[bV (by omega) (by omega)]
  refine aS (aI (iL (u:=u) λx hx=>by
   rw[hl] at hx;rcases List.mem_cons.1 hx with q|q
   ·subst q;exact iha
   rcases List.mem_cons.1 q with q|q
   ·subst q;exact ihb
   ·rw[List.mem_singleton] at q;subst q;exact ihc) ?_)
  rintro n l ⟨l1,l2,l3⟩;rw[hl] at l1 l2;have l4:=l3 0 (by rw[hl];simp);have l5:=l3 1 (by rw[hl];simp);have l6:=l3 2 (by rw[hl];simp);simp only[hl,List.getElem_cons_zero,List.getElem_cons_succ] at l4 l5 l6;obtain⟨m1,m2,m3⟩:=l4;obtain⟨n1,n2,n3⟩:=l5;obtain⟨p1,p2,p3⟩:=l6;unfold bF;rw[if_neg (by omega),if_neg (by omega),if_neg (by omega),if_pos h];refine aI (GY L (my L m1 0) n1 p1 (by omega)) ?_;rintro m out ⟨o1,o2,o3,o4⟩;simp only[List.length_cons,List.length_nil] at l2;refine⟨by omega,o2,by omega,?_⟩
  have hbit:worth u a=(V (gt (l.getD 0 []) 0)).toNat:=by
   rw[<-m3];obtain⟨z,hz⟩:=List.length_eq_one_iff.1 (show(l.getD 0 []).length=1 by omega);rw[hz];simp[aT,gt]
  rw[dV,if_neg (by omega),if_neg (by omega),g9,if_neg (by omega),if_neg (by omega),if_neg (by omega),if_pos h,hl,o4,n3,p3];simp only[List.map_cons,List.map_nil,List.getD_cons_zero,List.getD_cons_succ,hbit];cases V (gt (l.getD 0 []) 0)<;>rfl
 |@cat e h hl hw h64 ha ih=>
  intro hd;obtain⟨d0,d1,d2⟩:=hD e hd;rw[bV (by omega) (by omega)];refine aS (aI (iL (u:=u) λx hx=>ih x hx (d2 x hx)) ?_);rintro n l ⟨l1,l2,l3⟩;unfold bF;rw[if_neg (by omega),if_neg (by omega),if_neg (by omega),if_neg (by omega),if_neg (by omega)];obtain⟨k1,k2,k3⟩:=yL V W u e.l l l1 l3;have k4:=k3 0;rw[Nat.zero_mul,Nat.add_zero] at k4;refine⟨by omega,k1,by omega,?_⟩;rw[k4,dV,if_neg (by omega),if_neg (by omega),g9,if_neg (by omega),if_neg (by omega),if_neg (by omega),if_neg (by omega),if_neg (by omega)];rfl
 |@ext e a h hl hn hw hx ha ih=>
  intro hd;obtain⟨d0,d1,d2⟩:=hD e hd;rw[hl] at d2;have iha:=ih (d2 a (by simp));have hap:=ha.wid;rw[bV (by omega) (by omega)];refine aS (aI (iL (u:=u) λx hx=>by rw[hl,List.mem_singleton] at hx;subst hx;exact iha) ?_);rintro n l ⟨l1,l2,l3⟩;rw[hl] at l1 l2;have l4:=l3 0 (by rw[hl];simp);simp only[hl,List.getElem_cons_zero] at l4;obtain⟨m1,m2,m3⟩:=l4;unfold bF;rw[if_neg (by omega),if_neg (by omega),if_neg (by omega),if_neg (by omega),if_pos h];simp only[List.length_singleton] at l2;have hwn:e.w=(e.w.toNat:Int):=by omega
  obtain⟨x1,x2⟩:=HJ V L.v0 (op:=e.n) (w:=e.w.toNat) (a:=l.getD 0 []) (by omega) (by omega);have hE:ff e.n e.w (l.getD 0 [])=ff e.n (e.w.toNat:Int) (l.getD 0 []):=by rw[<-hwn]
  refine⟨by omega,?_,by rw[hE];omega,?_⟩
  ·unfold ff;split
   ·exact yM m1 _
   ·intro z hz;rcases List.mem_append.1 hz with q|q
    ·exact m1 z q
    ·rw[(List.mem_replicate.1 q).2];split
     ·exact my L m1 _
     ·exact L.w0
  ·rw[hE,x2,dV,if_neg (by omega),if_neg (by omega),g9,if_neg (by omega),if_neg (by omega),if_neg (by omega),if_neg (by omega),if_pos h,hl,m3];have:a.w.toNat=(l.getD 0 []).length:=by omega
   simp only[List.map_cons,List.map_nil,List.getD_cons_zero,this]
end
end Fil.Bl
