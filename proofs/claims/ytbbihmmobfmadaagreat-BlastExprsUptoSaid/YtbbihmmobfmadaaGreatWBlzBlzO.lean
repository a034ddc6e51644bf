/- blast: contracts: the program's word of an expression. -/
import Derived.Test.YtbbihmmobfmadaaGreatWBlzBlaU
import Derived.Test.YtbbihmmobfmadaaGreatWBlzBlzK
import Derived.Test.YtbbihmmobfmadaaGreatWSzMain
import Derived.Test.YtbbihmmobfmadaaGreatWBlExpr
set_option linter.unusedSimpArgs false
set_option linter.unusedVariables false
set_option maxHeartbeats 8000000
set_option maxRecDepth 50000
namespace Go.Proofs.YtbbihmmobfmadaaGreat
open Abs Fil Fil.Bl A
theorem Mn{op:Int}{x:List Int}{b:Bu}(hs:Wf b.g)(hx:Lw x)(ho:1<=op):((qB op x).run b).1.length=(if op<=2 then x.length else 1)/\Lw ((qB op x).run b).1:=by
 unfold qB;by_cases o1:op=1
 ·subst o1;exact⟨not_len x,hx.not⟩
 rw[if_neg o1];by_cases o2:op=2
 ·subst o2;rw[if_pos rfl,run_bind];have h:=kM (x:=bk x) (y:=List.replicate x.length 0) (c:=1) hs ⟨by decide,by decide⟩ (bk x).length;exact⟨h.2.2.1.trans (not_len x),(mD hs ⟨by decide,by decide⟩ (bk x).length).2⟩
 rw[if_neg o2,if_neg (show ¬op<=2 by omega)];by_cases o3:op=3
 ·rw[if_pos o3,run_bind];exact⟨rfl, .one (nU .and x hs ⟨by decide,by decide⟩ _)⟩
 rw[if_neg o3];by_cases o4:op=4
 ·rw[if_pos o4,run_bind];exact⟨rfl, .one (L0.turn (nU .and (bk x) hs ⟨by decide,by decide⟩ _))⟩
 rw[if_neg o4];by_cases o5:op=5
 ·rw[if_pos o5,run_bind];exact⟨rfl, .one (nU .xor x hs ⟨by decide,by decide⟩ _)⟩
 rw[if_neg o5];exact⟨rfl, .one (hx.gt 0).turn⟩
theorem K7{x y:List Int}{b:Bu}(hs:Wf b.g):∀i,Lw (dR x y b i).1
 |0=>Lw.zeros _
 |i+1=>by
  have h1:=(sT (x:=x) (y:=y) hs i).1;rw[pA];have h4:=sS (x:=x) (bit:=Bl.gt y i) (i:=i) h1 (x.length-i);exact(mD (x:=(dR x y b i).1) (y:=(fW x (Bl.gt y i) i (dR x y b i).2 (x.length-i)).1) (c:=0) h4.1 ⟨by decide,by decide⟩ _).2
theorem Iv{x:List Int}{bit:Int}{up:Bool}{i:Nat}{b:Bu}(hs:Wf b.g):∀j,Lw (nD x bit up i b j).1
 |0=> .nil
 |j+1=>by
  rw[sU];exact(Iv hs j).append (.one (bu_L0 (uv hs j).1 _ _ _ _))
theorem yH{x y:List Int}{up:Bool}{b:Bu}(hs:Wf b.g)(hx:Lw x):∀i,(gF x y up b i).1.length=x.length/\Lw (gF x y up b i).1
 |0=>⟨rfl,hx⟩
 |i+1=>by
  have h1:=(Da (y:=y) (up:=up) hs hx.i64 i);rw[sV];exact⟨(uv h1.1 _).2.1.trans h1.2.1,Iv h1.1 _⟩
theorem K8{op:Int}{x y:List Int}{b:Bu}(hs:Wf b.g)(hx:Lw x)(ho:11<=op/\op<=26)(h25:25<=op->x.length=1):((dw op x y).run b).1.length=(if op<=18 then x.length else 1)/\Lw ((dw op x y).run b).1:=by
 by_cases oz:op=11\/op=25\/op=12\/op=26\/op=13
 ·rw[Hg x y oz];have h:=jE (jD (Hf op)) (x:=x) (y:=y) hs x.length;refine⟨?_,xh (jD (Hf op)) (λb p q h=>bu_L0 h _ _ _ _) hs x.length⟩;refine h.2.1.trans ?_;split
  ·rfl
  ·exact h25 (by omega)
 by_cases oc:19<=op/\op<=24
 ·rw[He x y b oc,if_neg (by omega)];refine⟨rfl, .one ?_⟩;have l1:=Mg (x:=x) (y:=y) hs;have l2:=yu (x:=x) (y:=y) hs;have l3:=yu (x:=y) (y:=x) hs;unfold Hd;repeat' split
  all_goals first|assumption|(rw[run_bind];exact L0.turn (by assumption))
 rw[if_pos (by omega)];have hop:op=14\/op=15\/op=16\/op=17\/op=18:=by omega
 rcases hop with rfl|rfl|rfl|rfl|rfl
 ·have e:(dw 14 x y).run b=(((dp x y 0).run b).1.1,((dp x y 0).run b).2):=by
   simp only[dw,reduceIte,Int.reduceEq,or_self];rw[run_bind];rfl
  rw[e];exact⟨(kM hs ⟨by decide,by decide⟩ x.length).2.2.1,(mD hs ⟨by decide,by decide⟩ x.length).2⟩
 ·have e:(dw 15 x y).run b=(((dp x (bk y) 1).run b).1.1,((dp x (bk y) 1).run b).2):=by
   simp only[dw,reduceIte,Int.reduceEq,or_self];rw[run_bind];rfl
  rw[e];exact⟨(kM hs ⟨by decide,by decide⟩ x.length).2.2.1,(mD hs ⟨by decide,by decide⟩ x.length).2⟩
 ·exact⟨(sT (y:=y) hs y.length).2.1,K7 hs y.length⟩
 ·exact yH hs hx y.length
 ·exact yH hs hx y.length
theorem HE{c:Int}{x y:List Int}{b:Bu}(hs:Wf b.g):((jj c x y).run b).1.length=x.length/\Lw ((jj c x y).run b).1:=
 ⟨(jE (sW c) (x:=x) (y:=y) hs x.length).2.1,xh (sW c) (λb p q h=>bu_L0 h _ _ _ _) hs x.length⟩
theorem K9{op w:Int}{x:List Int}(hx:Lw x)(hw:1<=w)(h:op=33/\w<=x.length\/op≠33/\x.length<=w):((ff op w x).length:Int)=w/\Lw (ff op w x):=by
 unfold ff;rcases h with ⟨h1,h2⟩|⟨h1,h2⟩
 ·rw[if_pos h1,List.length_take];exact⟨by omega,λz hz=>hx z (List.mem_of_mem_take hz)⟩
 ·rw[if_neg h1,List.length_append,List.length_replicate];refine⟨by omega,hx.append λz hz=>?_⟩;rw[(List.mem_replicate.1 hz).2];split
  ·exact hx.gt _
  ·exact L0.zero
theorem La(w v:Int):(gl w v).length=w.toNat/\Lw (gl w v):=by
 unfold gl;refine⟨by simp,λz hz=>?_⟩;obtain⟨i,_,rfl⟩:=List.mem_map.1 hz;have h1:=Int.emod_nonneg (v/2^i) (show(2:Int)≠0 by decide);have h2:=Int.emod_lt_of_pos (v/2^i) (show(0:Int)<2 by decide);exact⟨h1,by omega⟩
theorem Lb{a:List Int}(ha:Lw a){lo hi:Int}(h0:0<=lo)(h1:lo<=hi)(h2:hi<a.length):((cut a lo hi).length:Int)=hi-lo+1/\Lw (cut a lo hi):=by
 unfold cut;rw[List.length_drop,List.length_take];exact⟨by omega,λz hz=>ha z (List.mem_of_mem_take (List.mem_of_mem_drop hz))⟩
def cB(ps:List (Pg (List Int)))(b:Bu)(k:Nat):List (List Int)×Bu:=(uM ps k).run b
theorem pR(ps:List (Pg (List Int)))(b:Bu)(k:Nat):cB ps b (k+1)=((cB ps b k).1++[((ps.getD k (.ret [])).run (cB ps b k).2).1],((ps.getD k (.ret [])).run (cB ps b k).2).2):=by
 show(uM ps (k+1)).run b=_
 unfold uM;rw[fV,run_bind];rfl
theorem iq{ps:List (Pg (List Int))}{b:Bu}(hs:Wf b.g):∀k,Wf (cB ps b k).2.g/\(cB ps b k).1.length=k
 |0=>⟨hs,rfl⟩
 |k+1=>by
  rw[pR];exact⟨Dn _ _ (iq hs k).1,by simp[(iq (ps:=ps) hs k).2]⟩
theorem DC{ps:List (Pg (List Int))}{b:Bu}(hs:Wf b.g){Q:Nat->List Int->Prop}(h:∀i,i<ps.length->∀b,Wf b.g->Q i ((ps.getD i (.ret [])).run b).1):∀k,k<=ps.length->∀i,i<k->Q i ((cB ps b k).1.getD i [])
 |0,_,i,hi=>by omega
 |k+1,hk,i,hi=>by
  have hl:=(iq (ps:=ps) hs k).2;rw[pR];by_cases hik:i<k
  ·rw[List.getD_eq_getElem?_getD,List.getElem?_append_left (by omega),<-List.getD_eq_getElem?_getD];exact DC hs h k (by omega) i hik
  ·have:i=k:=by omega
   subst this;rw[List.getD_eq_getElem?_getD,List.getElem?_append_right (by omega),hl,Nat.sub_self];exact h i (by omega) _ (iq hs i).1
def Lv(v:List (List Int)):Prop:=∀a∈v,Lw a
theorem Lv.wd{v:List (List Int)}(h:Lv v)(k:Int):Lw (wd v k):=by
 unfold Bl.wd;rw[List.getD_eq_getElem?_getD];cases hk:v[k.toNat]? with
 |none=>exact .nil
 |some a=>exact h a (List.mem_of_getElem? hk)
def Wd(w:Int)(l:List Int):Prop:=(l.length:Int)=w/\Lw l
theorem tc:∀{l:List (List Int)} {ws:List Int},l.length=ws.length->(∀i,i<ws.length->((l.getD i []).length:Int)=ws.getD i 0)->((l.flatten.length:Nat):Int)=ws.sum
 |[],[],_,_=>rfl
 |a::l,w::ws,hl,h=>by
  have h0:=h 0 (by simp)
  have ih:=tc (l:=l) (ws:=ws) (by simpa using hl) λi hi=>by
   have:=h (i+1) (by simpa using hi)
   simpa using this
  simp only[List.getD_cons_zero] at h0;rw[List.flatten_cons,List.length_append,List.sum_cons];omega
theorem yI(l:List (List Int)):l.reverse.flatten.length=l.flatten.length:=by
 induction l with
 |nil=>rfl
 |cons a l ih=>rw[List.reverse_cons,List.flatten_append,List.length_append,ih];simp;omega
theorem gQ{g:List Sz.Sg}{v:List (List Int)}{e:Sz.E}{b:Bu}(hs:Wf b.g)(ih:∀x∈e.l,∀b,Wf b.g->Wd x.w ((aM v x).run b).1):
  ∀i,(h:i<e.l.length)->Wd (e.l[i]).w ((cB (e.l.map (aM v)) b e.l.length).1.getD i []):=by
 intro i hi;have:=DC (ps:=e.l.map (aM v)) hs (Q:=λi l=>∀h:i<e.l.length,Wd (e.l[i]).w l) (λi h b hb q=>?_) e.l.length (by simp) i hi
 ·exact this hi
 ·have e2:(e.l.map (aM v)).getD i (.ret [])=aM v e.l[i]:=by
   rw[List.getD_eq_getElem?_getD,List.getElem?_map,List.getElem?_eq_getElem q];rfl
  rw[e2];exact ih _ (List.getElem_mem q) b hb
theorem jK{v:List (List Int)}{e:Sz.E}{b:Bu}{a:Sz.E}{i:Nat}(h:∀i,(h:i<e.l.length)->Wd (e.l[i]).w ((cB (e.l.map (aM v)) b e.l.length).1.getD i []))(ha:e.l[i]?=some a):
  Wd a.w ((cB (e.l.map (aM v)) b e.l.length).1.getD i []):=by
 obtain⟨hi,rfl⟩:=List.getElem?_eq_some_iff.1 ha;exact h i hi
theorem HF{g:List Sz.Sg}{v:List (List Int)}(hv:Wv g v)(hl:Lv v){e:Sz.E}(hf:Sz.Fit g e):∀b,Wf b.g->Wd e.w ((aM v e).run b).1:=by
 induction hf with
 |@num e h hl' hw hv'=>
  intro b hb;rw[gP,if_pos h];have:=La e.w e.v
  exact⟨by show((gl e.w e.v).length:Int)=e.w;omega,this.2⟩
 |@sig e h hl' hp hw h64=>
  intro b hb;rw[gP,if_neg (by omega),if_pos h];obtain⟨p1,p2,p3,p4,p5⟩:=Sz.place_iff.1 hp;have h1:=hv.at p1 p2;have:=Lb (hl.wd e.sig) p3 p4 (by omega)
  exact⟨by show((cut (Bl.wd v e.sig) e.lo e.hi).length:Int)=e.w;omega,this.2⟩
 |@idx e a h hl' h0 hs hw ha ia=>
  intro b hb;rw[bV (by omega) (by omega),run_bind];have hp:=jK (a:=a) (i:=0) (gQ (g:=g) (b:=b) hb λx hx=>by rw[hl'] at hx;rw[List.mem_singleton.1 hx];exact ia) (by rw[hl'];rfl);have hw2:=(iq (ps:=e.l.map (aM v)) hb e.l.length).1;show Wd e.w ((bF v e (cB (e.l.map (aM v)) b e.l.length).1).run (cB (e.l.map (aM v)) b e.l.length).2).1
  obtain⟨⟨l,b2⟩,hS⟩:∃S,cB (e.l.map (aM v)) b e.l.length=S:=⟨_,rfl⟩;rw[hS] at hp hw2|-;simp only at hp hw2|-;unfold bF;rw[if_pos h,run_bind];have h1:=yH (y:=l.getD 0 []) (up:=false) hw2 (hl.wd e.sig) (l.getD 0 []).length;have h2:=hv.at h0 hs;show Wd e.w ((gF (Bl.wd v e.sig) (l.getD 0 []) false b2 (l.getD 0 []).length).1.take 1)
  refine⟨?_,λz hz=>h1.2 z (List.mem_of_mem_take hz)⟩;rw[List.length_take,h1.1];have:=hv.few h0 hs
  omega
 |@un e a h hl' hn hw h6 ha ia=>
  intro b hb;rw[bV (by omega) (by omega),run_bind];have hp:=jK (a:=a) (i:=0) (gQ (g:=g) (b:=b) hb λx hx=>by rw[hl'] at hx;rw[List.mem_singleton.1 hx];exact ia) (by rw[hl'];rfl);have hw2:=(iq (ps:=e.l.map (aM v)) hb e.l.length).1;show Wd e.w ((bF v e (cB (e.l.map (aM v)) b e.l.length).1).run (cB (e.l.map (aM v)) b e.l.length).2).1
  obtain⟨⟨l,b2⟩,hS⟩:∃S,cB (e.l.map (aM v)) b e.l.length=S:=⟨_,rfl⟩;rw[hS] at hp hw2|-;simp only at hp hw2|-;unfold bF;rw[if_neg (by omega),if_pos h];have:=Mn hw2 hp.2 hn.1
  refine⟨?_,this.2⟩;rw[this.1,hw];by_cases q:e.n<=2
  ·rw[if_pos q,if_pos q];exact hp.1
  ·rw[if_neg q,if_neg q];rfl
 |@bin e a c h hl' hn hw hab h25 ha hc ia ic=>
  intro b hb;rw[bV (by omega) (by omega),run_bind]
  have hpp:=gQ (g:=g) (b:=b) hb (v:=v) (e:=e) λx hx=>by
   rw[hl'] at hx;rcases List.mem_cons.1 hx with rfl|hx
   ·exact ia
   ·rw[List.mem_singleton.1 hx];exact ic
  have hp:=jK (a:=a) (i:=0) hpp (by rw[hl'];rfl);have hw2:=(iq (ps:=e.l.map (aM v)) hb e.l.length).1;show Wd e.w ((bF v e (cB (e.l.map (aM v)) b e.l.length).1).run (cB (e.l.map (aM v)) b e.l.length).2).1
  clear hpp;obtain⟨⟨l,b2⟩,hS⟩:∃S,cB (e.l.map (aM v)) b e.l.length=S:=⟨_,rfl⟩;rw[hS] at hp hw2|-;simp only at hp hw2|-;unfold bF;rw[if_neg (by omega),if_neg (by omega),if_pos h];have hq:=hp.1;have:=K8 (y:=l.getD 1 []) hw2 hp.2 hn (λq=>by have:=h25 q;omega)
  refine⟨?_,this.2⟩;rw[this.1,hw];by_cases q:e.n<=18
  ·rw[if_pos q,if_pos q];exact hp.1
  ·rw[if_neg q,if_neg q];rfl
 |@cond e a c d h hl' hc hw hbc ha hb' hd ia ic id=>
  intro b hb;rw[bV (by omega) (by omega),run_bind]
  have hpp:=gQ (g:=g) (b:=b) hb (v:=v) (e:=e) λx hx=>by
   rw[hl'] at hx;rcases List.mem_cons.1 hx with rfl|hx
   ·exact ia
   rcases List.mem_cons.1 hx with rfl|hx
   ·exact ic
   ·rw[List.mem_singleton.1 hx];exact id
  have hp:=jK (a:=c) (i:=1) hpp (by rw[hl'];rfl);have hw2:=(iq (ps:=e.l.map (aM v)) hb e.l.length).1;show Wd e.w ((bF v e (cB (e.l.map (aM v)) b e.l.length).1).run (cB (e.l.map (aM v)) b e.l.length).2).1
  clear hpp;obtain⟨⟨l,b2⟩,hS⟩:∃S,cB (e.l.map (aM v)) b e.l.length=S:=⟨_,rfl⟩;rw[hS] at hp hw2|-;simp only at hp hw2|-;unfold bF;rw[if_neg (by omega),if_neg (by omega),if_neg (by omega),if_pos h];have:=HE (c:=Bl.gt (l.getD 0 []) 0) (x:=l.getD 1 []) (y:=l.getD 2 []) hw2
  exact⟨by rw[this.1,hp.1,hw],this.2⟩
 |@cat e h h0 hw h64 ha ia=>
  intro b hb;rw[bV (by omega) (by omega),run_bind];have hpp:=gQ (g:=g) (b:=b) hb (v:=v) (e:=e) ia;have hw2:=(iq (ps:=e.l.map (aM v)) hb e.l.length).2;show Wd e.w ((bF v e (cB (e.l.map (aM v)) b e.l.length).1).run (cB (e.l.map (aM v)) b e.l.length).2).1
  obtain⟨⟨l,b2⟩,hS⟩:∃S,cB (e.l.map (aM v)) b e.l.length=S:=⟨_,rfl⟩;rw[hS] at hpp hw2|-;simp only at hpp hw2|-;unfold bF;rw[if_neg (by omega),if_neg (by omega),if_neg (by omega),if_neg (by omega),if_neg (by omega)];show Wd e.w l.reverse.flatten
  refine⟨?_,λz hz=>?_⟩
  ·rw[yI,hw]
   exact tc (by rw[hw2,List.length_map]) λi hi=>by
    have hi:i<e.l.length:=by simpa using hi
    rw[(hpp i hi).1,List.getD_eq_getElem?_getD,List.getElem?_map,List.getElem?_eq_getElem hi];rfl
  ·obtain⟨a,ha',hz⟩:=List.mem_flatten.1 hz;obtain⟨i,hi,rfl⟩:=List.getElem_of_mem (List.mem_reverse.1 ha');have:=(hpp i (by omega)).2
   rw[List.getD_eq_getElem?_getD,List.getElem?_eq_getElem hi] at this;exact this z hz
 |@ext e a h hl' hn hw hx ha ia=>
  intro b hb;rw[bV (by omega) (by omega),run_bind];have hp:=jK (a:=a) (i:=0) (gQ (g:=g) (b:=b) hb λx hx=>by rw[hl'] at hx;rw[List.mem_singleton.1 hx];exact ia) (by rw[hl'];rfl);show Wd e.w ((bF v e (cB (e.l.map (aM v)) b e.l.length).1).run (cB (e.l.map (aM v)) b e.l.length).2).1
  obtain⟨⟨l,b2⟩,hS⟩:∃S,cB (e.l.map (aM v)) b e.l.length=S:=⟨_,rfl⟩;rw[hS] at hp|-;simp only at hp|-;unfold bF;rw[if_neg (by omega),if_neg (by omega),if_neg (by omega),if_neg (by omega),if_pos h];exact K9 hp.2 hw.1 (by have:=hp.1;omega)
end Go.Proofs.YtbbihmmobfmadaaGreat
namespace Go.Proofs.YtbbihmmobfmadaaGreat
open Abs Fil Fil.Bl A
def qr(c:Nat->List Int)(n i k:Nat):List Int:=if k<i\/n<=k+i then c (n-1-k) else c k
theorem HG(f:Nat->AV){n i:Nat}(x:AV)(h:i<n):List.take (i*1) ((List.range n).map f)++[x]++List.drop (i*1+1) ((List.range n).map f)=(List.range n).map λk=>if k=i then x else f k:=by
 rw[Nat.mul_one];refine List.ext_getElem (by simp;omega) λk k1 k2=>?_;have hk:k<n:=by simpa using k2
 rw[List.getElem_map,List.getElem_range];by_cases q:k<i
 ·rw[List.getElem_append_left (by simp;omega),List.getElem_append_left (by simp;omega),List.getElem_take,List.getElem_map,List.getElem_range,if_neg (by omega)]
 ·by_cases q2:k=i
  ·subst q2;rw[List.getElem_append_left (by simp;omega),List.getElem_append_right (by simp;omega),if_pos rfl];simp
  ·rw[List.getElem_append_right (by simp;omega),if_neg q2,List.getElem_drop,List.getElem_map,List.getElem_range];congr 1
   simp;omega
theorem HH(f:Nat->AV){n i:Nat}(h:i<n):List.take 1 (List.drop (i*1) ((List.range n).map f))=[f i]:=by
 rw[Nat.mul_one,List.drop_eq_getElem_cons (by simpa using h),List.getElem_map,List.getElem_range];rfl
def cW(c:Nat->List Int)(n:Nat):List AV:=(List.range n).map λk=>aD (c k) .no
theorem DD(c:Nat->List Int){n i:Nat}(x:List Int)(h:i<n):List.take (i*1) (cW c n)++[aD x .no]++List.drop (i*1+1) (cW c n)=cW (λk=>if k=i then x else c k) n:=by
 unfold cW;rw[HG (λk=>aD (c k) .no) (aD x .no) h];refine List.map_congr_left λk _=>?_;show(if k=i then aD x .no else aD (c k) .no)=aD (if k=i then x else c k) .no
 split<;>rfl
theorem DF(c:Nat->List Int){n i:Nat}(h:i<n):List.take 1 (List.drop (i*1) (cW c n))=[aD (c i) .no]:=HH _ h
theorem Lc(c:Nat->List Int)(n:Nat):(cW c n).length=n:=by simp[cW]
theorem lN{c d:Nat->List Int}{n:Nat}(h:∀k,k<n->c k=d k):cW c n=cW d n:=List.map_congr_left λk hk=>by rw[h k (List.mem_range.1 hk)]
theorem xq(o n:Nat)(c:Nat->List Int)(σ:aA)(h:σ o=some (.vec 1 n (cW c n)))(hn:n<=1048576):
  C_ 78 [.vec o n] σ (.tup []) (aH σ o (.vec 1 n (cW (λk=>c (n-1-k)) n))):=by
 refine gO [] Tryz.func78 (by kernel_rfl) (by conv=>lhs;reduce;dsimp only[iA]) rfl ?_;repeat' (first|simp -implicitDefEqProofs -dsimp only[go_sem,seval, *]|simp(disch:=omega) only[ah,aj,ao,aw,ar,ag,au,aq])
 refine loop_rule (λi:Nat=>[(2,some (.int .i64 i)),(3,some (.int .i64 ((n:Int)-1-i))),(0,some (.vec o n))]) (λi=>aH σ o (.vec 1 n (cW (qr c n i) n))) (λi=>2*i<=n+1) (λi=>n+1-2*i) 0 ?_ ?_
 ·have e0:cW (qr c n 0) n=cW c n:=lN λk hk=>if_neg (by omega);(repeat' simp -implicitDefEqProofs -dsimp only[go_sem,seval,e0, *])
 intro i hi;by_cases hlt:2*i+1<n
 ·have hj:(n:Int)-1-i=((n-1-i:Nat):Int):=by omega
  have hj2:((n-1-i:Nat):Int)-1=(n:Int)-1-((i:Int)+1):=by omega
  rw[hj];have hlt':(i:Int)<((n-1-i:Nat):Int):=by omega
  have p2:=DD (λk=>if k=i then qr c n i (n-1-i) else qr c n i k) (qr c n i i) (show n-1-i<n by omega);rw[<-DD (qr c n i) (qr c n i (n-1-i)) (show i<n by omega)] at p2
  have e1:cW (λk=>if k=n-1-i then qr c n i i else (λk=>if k=i then qr c n i (n-1-i) else qr c n i k) k) n=cW (qr c n (i+1)) n:=by
   refine lN λk hk=>?_;by_cases a1:k=n-1-i
   ·subst a1;rw[if_pos rfl];unfold qr;rw[if_neg (by omega),if_pos (by omega)];congr 1;omega
   rw[if_neg a1];by_cases a2:k=i
   ·subst a2;simp only[if_true];unfold qr;rw[if_neg (by omega),if_pos (by omega)]
   simp only[if_neg a2];unfold qr;by_cases a3:k<i\/n<=k+i
   ·rw[if_pos a3,if_pos (by omega)]
   ·rw[if_neg a3,if_neg (by omega)]
  rw[e1] at p2;have g1:=DF (qr c n i) (show i<n by omega);have g2:=DF (qr c n i) (show n-1-i<n by omega);have l1:=Lc (qr c n i) n;generalize hC:cW (qr c n i) n=C at p2 g1 g2 l1|-;obtain⟨X,hX⟩:∃C,qr c n i i=C:=⟨_,rfl⟩;obtain⟨Y,hY⟩:∃C,qr c n i (n-1-i)=C:=⟨_,rfl⟩;rw[hX] at p2 g1;rw[hY] at p2 g2;have l2:(List.take (i*1) C++[aD Y .no]++List.drop (i*1+1) C).length=n:=by simp[l1];omega
  clear e1 hC hX hY;repeat' (first|simp -implicitDefEqProofs -dsimp only[go_sem,seval,List.length_map, *]|simp(disch:=omega) only[ah,aj,ao,aw,ar,ag,au,aq]|refine Zv ?_ ?_|refine lnx (i+1) ?_|refine And.intro ?_ ?_|omega)
 ·have e1:cW (qr c n i) n=cW (λk=>c (n-1-k)) n:=by
   refine lN λk hk=>?_;unfold qr;by_cases a:k<i\/n<=k+i
   ·rw[if_pos a]
   ·rw[if_neg a];congr 1;omega
  rw[e1];have hlt':¬(i:Int)<(n:Int)-1-i:=by omega
  clear e1;repeat' (first|simp -implicitDefEqProofs -dsimp only[go_sem,seval, *]|refine fin_eq ?_)
theorem Iw(l:List (List Int)):cW (λk=>l.getD k []) l.length=l.map λx=>aD x .no:=by
 unfold cW;refine List.ext_getElem (by simp) λk k1 k2=>?_;have hk:k<l.length:=by simpa using k2
 rw[List.getElem_map,List.getElem_range,List.getElem_map];show aD (l.getD k []) .no=_
 rw[List.getD_eq_getElem?_getD,List.getElem?_eq_getElem hk];rfl
theorem uN(o:Nat)(l:List (List Int))(n:Nat)(σ:aA)(h:σ o=some (.vec 1 n (l.map λx=>aD x .no)))(hl:l.length=n)(hn:n<=1048576):
  C_ 78 [.vec o n] σ (.tup []) (aH σ o (.vec 1 n (l.reverse.map λx=>aD x .no))):=by
 subst hl;rw[<-Iw] at h;have z:=xq o l.length (λk=>l.getD k []) σ h hn
 have e:cW (λk=>l.getD (l.length-1-k) []) l.length=l.reverse.map λx=>aD x .no:=by
  have e1:=Iw l.reverse;rw[List.length_reverse] at e1;rw[<-e1];refine lN λk hk=>?_;rw[List.getD_eq_getElem?_getD,List.getD_eq_getElem?_getD,List.getElem?_reverse hk]
 rw[e] at z;exact z
end Go.Proofs.YtbbihmmobfmadaaGreat
namespace Go.Proofs.YtbbihmmobfmadaaGreat
open Abs Fil Fil.Bl A
def Ld(i:Nat):Option Nat->AV
 |none=> .slice [] .nil
 |some o=> .vec o i
def Le(σ:aA)(i:Nat)(cs:List AV):Option Nat->aA
 |none=>σ
 |some o=>aH σ o (.vec 1 i cs)
theorem AL(i:Nat):Ld i none= .slice [] .nil:=rfl
theorem AM(i o:Nat):Ld i (some o)= .vec o i:=rfl
theorem AN(σ:aA)(i:Nat)(cs:List AV):Le σ i cs none=σ:=rfl
theorem AO(σ:aA)(i:Nat)(cs:List AV)(o:Nat):Le σ i cs (some o)=aH σ o (.vec 1 i cs):=rfl
attribute [go_sem] AL AM AN AO
theorem DG{w v:Int}(hw:1<=w/\w<=64)(h:Sz.holds w v=true)(h0:0<=v):eZ w v.toNat=true:=by
 refine iI.2 ⟨hw,?_⟩;have h:=of_decide_eq_true h;have e:(2:Int)^w.toNat=((2^w.toNat:Nat):Int):=by simp
 rw[e] at h;omega
theorem lO{g:List Sz.Sg}{e:Sz.E}(h:Sz.Fit g e):∀x∈e.l,Sz.Fit g x:=by
 intro x hx;cases h with
 |num h hl=>rw[hl] at hx;simp at hx
 |sig h hl=>rw[hl] at hx;simp at hx
 |idx h hl _ _ _ ha=>rw[hl] at hx;rw[List.mem_singleton.1 hx];exact ha
 |un h hl _ _ _ ha=>rw[hl] at hx;rw[List.mem_singleton.1 hx];exact ha
 |bin h hl _ _ _ _ ha hb=>
  rw[hl] at hx;rcases List.mem_cons.1 hx with rfl|hx
  ·exact ha
  ·rw[List.mem_singleton.1 hx];exact hb
 |cond h hl _ _ _ ha hb hc=>
  rw[hl] at hx;rcases List.mem_cons.1 hx with rfl|hx
  ·exact ha
  rcases List.mem_cons.1 hx with rfl|hx
  ·exact hb
  ·rw[List.mem_singleton.1 hx];exact hc
 |cat h hl _ _ ha=>exact ha x hx
 |ext h hl _ _ _ ha=>rw[hl] at hx;rw[List.mem_singleton.1 hx];exact ha
theorem yJ{g:List Sz.Sg}{e:Sz.E}(h:Sz.Fit g e)(o1:e.op≠1)(o2:e.op≠2):1<=e.l.length:=by
 cases h with
 |num h=>exact absurd h o1
 |sig h=>exact absurd h o2
 |cat _ hl=>exact hl
 |idx _ hl=>rw[hl];simp
 |un _ hl=>rw[hl];simp
 |bin _ hl=>rw[hl];simp
 |cond _ hl=>rw[hl];simp
 |ext _ hl=>rw[hl];simp
theorem uO:∀cs:List AV,fk false 1 cs.length cs=some cs
 |[]=>rfl
 |a::r=>by
  have ih:=uO r;simp only[List.length_cons,fk,List.take_succ_cons,List.take_zero,List.drop_succ_cons,List.drop_zero,eE,List.head?_cons,ih];rfl
theorem DH(l:List (List Int)){n:Nat}(h:l.length=n):fk false 1 n (l.map λx=>aD x .no)=some (l.map λx=>aD x .no):=by
 have:=uO (l.map λx=>aD x .no)
 rwa [List.length_map,h] at this
abbrev kQ(v:List (List Int))(t:Tok):AV:= .slice (v.map λl=>aD l .no) t
abbrev uP(v:List (List Int))(tv:Tok)(e:Sz.E):Prop:=∀(bo:Nat) (b:Bu) (σ:aA),σ bo=some (co b)->Wf b.g->
 C_ 39 [.ptr bo 0,kQ v tv,Sz.encE e] σ (aD ((aM v e).run b).1 .no) (aH σ bo (co ((aM v e).run b).2))
theorem tg{g:List Sz.Sg}{v:List (List Int)}(hv:Wv g v)(hl:Lv v)(hvl:v.length<=1000000)(tv:Tok){e:Sz.E}(hf:Sz.Fit g e)(hw:0<=e.v/\e.v<18446744073709551616)(hel:e.l.length<=1000000)(ih:∀x∈e.l,uP v tv x):uP v tv e:=by
 intro bo b σ h hs;by_cases o1:e.op=1
 ·cases hf<;>first|(exfalso;omega)|skip
  rename_i h1 h2 h3 h4
  have z1:=λτ=>xi e.w e.v.toNat (by omega) τ;rw[DG h3 h4 hw.1,if_pos rfl,if_pos rfl] at z1;have e0:((e.v.toNat:Nat):Int)=e.v:=by omega
  rw[e0] at z1;have e1:(aM v e).run b=(gl e.w e.v,b):=by rw[gP,if_pos o1];rfl
  rw[e1,eS h];clear hv hl hs hw ih h1 h2 h3 h4 e0 e1;refine gO [5,5052,6117] Tryz.func39 (by kernel_rfl) (by conv=>lhs;reduce;dsimp only[iA,iB]) rfl ?_;repeat' (first|simp(maxDischargeDepth:=9) -implicitDefEqProofs -dsimp only[go_sem,seval, *]|simp(disch:=omega) only[ah,aj,ao,aw,ar,ag,au,aq]|with_reducible refine kc1 (z1 _) ?_|refine fin_eq ?_)
 by_cases o2:e.op=2
 ·cases hf<;>first|(exfalso;omega)|skip
  rename_i h1 h2 h3 h4 h5
  obtain⟨p1,p2,p3,p4,p5⟩:=Sz.place_iff.1 h3;have h1:=hv.at p1 p2;have h6:=hv.few p1 p2;obtain⟨V,hV⟩:∃V,wd v e.sig=V:=⟨_,rfl⟩
  have hgv:(v.map λl=>aD l .no)[e.sig.toNat]?=some (aD V .no):=by
   have hk:e.sig.toNat<v.length:=by have:=hv.len;omega
   rw[List.getElem?_map,List.getElem?_eq_getElem hk,<-hV,wd,List.getD_eq_getElem?_getD,List.getElem?_eq_getElem hk];rfl
  have e1:(aM v e).run b=(cut V e.lo e.hi,b):=by rw[gP,if_neg o1,if_pos o2,hV];rfl
  rw[hV] at h1 h6
  have hlen:(cut V e.lo e.hi).length<=64:=by
   unfold cut;rw[List.length_drop,List.length_take];omega
  have z1:=λt τ=>rJ (cut V e.lo e.hi) t τ (by omega)
  have hcut:List.drop e.lo.toNat (List.take (e.hi+1).toNat (V.map λx=>AV.int .i64 x))=(cut V e.lo e.hi).map λx=>AV.int .i64 x:=by
   unfold cut;rw[List.map_drop,List.map_take]
  rw[e1,eS h];have q1:e.sig<(v.length:Int):=by have:=hv.len;omega
  have q2:e.hi+1<=(V.length:Int):=by omega
  have q3:e.lo<=e.hi+1:=by omega
  have q4:e.hi<=63:=h5;have q5:0<=e.hi+1:=by omega
  clear hv hl hs hw ih h2 h3 h4 h5 hV e1 p2 p4 p5 h1 h6;refine gO [5,5052,6117] Tryz.func39 (by kernel_rfl) (by conv=>lhs;reduce;dsimp only[iA,iB]) rfl ?_;repeat' (first|simp(maxDischargeDepth:=9) -implicitDefEqProofs -dsimp only[go_sem,seval,List.length_map, *]|simp(disch:=omega) only[ah,aj,ao,aw,ar,ag,au,aq]|with_reducible refine Zv ?_ ?_|with_reducible refine id_one0 (λtS hS=>z1 _ _) trivial ?_|refine fin_eq ?_|omega)
 have b1:(e.op==1)=false:=by simp[o1]
 have b2:(e.op==2)=false:=by simp[o2]
 have hpos:=yJ hf o1 o2;have hWd:=λx hx=>HF hv hl (lO hf x hx);have hpp:=gQ (g:=g) (b:=b) hs hWd;have hsw:=iq (ps:=e.l.map (aM v)) hs;have hsn:=pR (e.l.map (aM v)) b;have h0:cB (e.l.map (aM v)) b 0=([],b):=rfl
 have hend:(aM v e).run b=(bF v e (cB (e.l.map (aM v)) b e.l.length).1).run (cB (e.l.map (aM v)) b e.l.length).2:=by
  rw[bV o1 o2,run_bind];rfl
 rw[hend];generalize hG:cB (e.l.map (aM v)) b=G at hpp hsw hsn h0|-
 have hge:∀i,(h:i<e.l.length)->(e.l.map (aM v)).getD i (.ret [])=aM v e.l[i]:=λi h=>by
  rw[List.getD_eq_getElem?_getD,List.getElem?_map,List.getElem?_eq_getElem h];rfl
 have h1:=Sz.encEs_eq e;clear hend hG hw hWd;refine gO [5,5052,6117] Tryz.func39 (by kernel_rfl) (by conv=>lhs;reduce;dsimp only[iA,iB]) rfl ?_;repeat' simp(maxDischargeDepth:=9) -implicitDefEqProofs -dsimp only[go_sem,seval, *]
 refine loop_rule (λx:Nat×Option Nat=>[(42,some (.int .i64 x.1)),(41,some (.int .i64 e.l.length)),(40,some (.slice (e.l.map Sz.encE) .no)),(9,some (Ld x.1 x.2)),(0,some (.ptr bo 0)),(1,some (kQ v tv)),(5,some (.cptr (Sz.eL e)))])
  (λx=>Le (aH σ bo (co (G x.1).2)) x.1 ((G x.1).1.map λl=>aD l .no) x.2) (λx=>x.1<=e.l.length/\(x.2=none->x.1=0)/\∀o,x.2=some o->σ o=none) (λx=>e.l.length-x.1) (0,none) ?_ ?_
 ·clear ih hpp hsw hsn hge;(repeat' (first|simp(maxDischargeDepth:=9) -implicitDefEqProofs -dsimp only[go_sem,seval,h0, *]|with_reducible refine And.intro ?_ ?_|omega))
  all_goals first|(intro _;trivial)|(intro o ho;simp at ho)
 rintro⟨i,ot⟩ ⟨hi,hno,hso⟩;simp only at hi hno hso;by_cases hlt:i<e.l.length
 ·have hgx:(e.l.map Sz.encE)[i]?=some (Sz.encE e.l[i]):=by simp[hlt]
  have z1:=λτ h=>ih e.l[i] (List.getElem_mem hlt) bo (G i).2 τ h (hsw i).1;have hn:=hsn i;rw[hge i hlt] at hn;have hgl:=(hsw i).2;generalize hr:(aM v e.l[i]).run (G i).2=r at z1 hn;have hbd:(i+1)*24<=35184372088832:=by omega
  generalize hx:e.l[i]=x at hgx z1;have hn1:(G (i+1)).1=(G i).1++[r.1]:=by rw[hn]
  have hn2:(G (i+1)).2=r.2:=by rw[hn]
  have hf0:flat []=[]:=rfl;have hf2:flat [aD r.1 .no]=[aD r.1 .no]:=rfl;clear hr hn hpp hsw hsn ih hge hx hl hv hf hs;cases ot with
  |none=>
   have hi0:=hno rfl;subst hi0;have hlt':(0:Int)<(e.l.length:Int):=by omega
   clear hno hso;repeat' (first|simp(maxDischargeDepth:=9) -implicitDefEqProofs -dsimp only[go_sem,seval,h0, *]|simp(disch:=omega) only[ah,aj,ao,aw,ar,ag,au,aq]|(with_reducible refine Zt λoF hoF hnF hnF'=>?_;try simp only[aa,ne_eq,not_and] at hoF)|with_reducible refine kc1 (z1 _ ?_) ?_|(with_reducible refine lnx ((1,some oF)) ?_;repeat' (first|simp(maxDischargeDepth:=9) -implicitDefEqProofs -dsimp only[go_sem,seval,List.map_append,List.map_cons,List.map_nil, *]|with_reducible refine And.intro ?_ ?_))|omega)
   all_goals first|exact id|(intro o' ho';cases ho';first|assumption|exact hoF.2.2.2)
  |some o=>
   have ho:=hso o rfl;have nb:¬bo=o:=λe=>by rw[e,ho] at h;simp at h
   have nb':=Ne.symm nb;clear hno hso;repeat' (first|simp(maxDischargeDepth:=9) -implicitDefEqProofs -dsimp only[go_sem,seval, *]|simp(disch:=omega) only[ah,aj,ao,aw,ar,ag,au,aq]|(with_reducible refine Zt λoF hoF hnF hnF'=>?_;try simp only[aa,ne_eq,not_and] at hoF)|with_reducible refine kc1 (z1 _ ?_) ?_|(with_reducible refine lnx ((i+1,some o)) ?_;repeat' (first|simp(maxDischargeDepth:=9) -implicitDefEqProofs -dsimp only[go_sem,seval,List.map_append,List.map_cons,List.map_nil, *]|with_reducible refine And.intro ?_ ?_))|omega)
   all_goals first|exact id|(intro o' ho';cases ho';first|assumption|exact hoF.2.2.2)
 ·have hie:i=e.l.length:=by omega
  obtain⟨o,rfl⟩:∃o,ot=some o:=by
   cases ot with
   |none=>have:=hno rfl;omega
   |some o=>exact⟨o,rfl⟩
  have ho:=hso o rfl;have nb:¬bo=o:=λe=>by rw[e,ho] at h;simp at h
  have nb':=Ne.symm nb;have hlt':¬(i:Int)<(e.l.length:Int):=by omega
  subst hie;have hw2:=hsw e.l.length;dsimp only
  obtain⟨⟨L,b2⟩,hS⟩:∃S,G e.l.length=S:=⟨_,rfl⟩;rw[hS] at hpp hw2|-;simp only at hpp hw2;clear hS hsn hsw hge ih hno hso h0 hlt hvl
  have at1:∀{a:Sz.E} {k:Nat},e.l[k]?=some a->Wd a.w (L.getD k []):=fun{a} {k} ha=>by
   obtain⟨hk,rfl⟩:=List.getElem?_eq_some_iff.1 ha;exact hpp k hk
  clear hpp;cases hf with
  |num h=>exact absurd h o1
  |sig h=>exact absurd h o2
  |@idx _ a h3 hl' k0 ks hw' ha=>
   have p1:=at1 (a:=a) (k:=0) (by rw[hl'];rfl);have wa:=ha.wid;obtain⟨x,rfl⟩:=Sz.len1 (show L.length=1 by rw[hw2.2,hl'];rfl);simp only[List.getD_cons_zero] at p1
   have e2:(bF v e [x]).run b2=((gF (wd v e.sig) x false b2 x.length).1.take 1,(gF (wd v e.sig) x false b2 x.length).2):=by
    unfold bF;rw[if_pos h3,run_bind];rfl
   have hk:=hv.few k0 ks;have z1:=λτ h=>pB bo b2 (wd v e.sig) x .no .no false τ h hw2.1 (hl.wd e.sig).i64 p1.2.i64 hk.1 (by omega) (by have:=p1.1;omega);have hz:=(yH (y:=x) (up:=false) hw2.1 (hl.wd e.sig) x.length).1
   have hgv:(v.map λl=>aD l .no)[e.sig.toNat]?=some (aD (wd v e.sig) .no):=by
    have hk:e.sig.toNat<v.length:=by have:=hv.len;omega
    rw[List.getElem?_map,List.getElem?_eq_getElem hk,wd,List.getD_eq_getElem?_getD,List.getElem?_eq_getElem hk];rfl
   rw[e2];obtain⟨⟨R,b3⟩,hR⟩:∃Z,gF (wd v e.sig) x false b2 x.length=Z:=⟨_,rfl⟩;rw[hR] at z1 hz|-;simp only at z1 hz|-;rw[if_neg (by simp)] at z1;have q1:e.sig<(v.length:Int):=by have:=hv.len;omega
   have q2:(1:Int)<=(R.length:Int):=by omega
   clear hR e2 hv hl hw2 at1 ha wa p1 hk hz ks;repeat' (first|simp(maxDischargeDepth:=9) -implicitDefEqProofs -dsimp only[go_sem,seval,List.length_map,List.map_cons,List.map_nil, *]|with_reducible refine id_one1 (λtS hS=>z1 _ ?_) ?_ ?_|with_reducible refine Sub.get (by assumption) ?_|(refine fin_eq ?_;repeat' simp(maxDischargeDepth:=9) -implicitDefEqProofs -dsimp only[go_sem,seval,aD,List.map_take, *]))
  |@un _ a h4 hl' hn hw' h6 ha=>
   have p1:=at1 (a:=a) (k:=0) (by rw[hl'];rfl);have wa:=ha.wid;obtain⟨x,rfl⟩:=Sz.len1 (show L.length=1 by rw[hw2.2,hl'];rfl);simp only[List.getD_cons_zero] at p1
   have e2:bF v e [x]=qB e.n x:=by
    unfold bF;rw[if_neg (by omega),if_pos h4];rfl
   have p2:=p1.1;have z1:=λτ h=>It bo b2 e.n x .no τ h hw2.1 p1.2.i64 (by omega) (by omega) hn (λq=>by have:=h6 q;omega);rw[e2];obtain⟨⟨R,b3⟩,hR⟩:∃Z,(qB e.n x).run b2=Z:=⟨_,rfl⟩;rw[hR] at z1|-;simp only at z1|-;have b3':(e.op==3)=false:=by rw[h4];rfl
   have b4:(e.op==4)=true:=by rw[h4];rfl
   clear hR e2 hv hl hw2 at1 ha wa p1 p2 h6;repeat' (first|simp(maxDischargeDepth:=9) -implicitDefEqProofs -dsimp only[go_sem,seval,List.length_map,List.map_cons,List.map_nil, *]|with_reducible refine id_one1 (λtS hS=>z1 _ ?_) ?_ ?_|with_reducible refine Sub.get (by assumption) ?_|refine fin_eq ?_)
  |@bin _ a c h5 hl' hn hw' hab h25 ha hc=>
   have p1:=at1 (a:=a) (k:=0) (by rw[hl'];rfl);have p2:=at1 (a:=c) (k:=1) (by rw[hl'];rfl);have wa:=ha.wid;have wc:=hc.wid;obtain⟨x,y,rfl⟩:=Sz.len2 (show L.length=2 by rw[hw2.2,hl'];rfl);simp only[List.getD_cons_zero,List.getD_cons_succ] at p1 p2
   have e2:bF v e [x,y]=dw e.n x y:=by
    unfold bF;rw[if_neg (by omega),if_neg (by omega),if_pos h5];rfl
   have p3:=p1.1;have p4:=p2.1;have z1:=λτ h=>Dh bo b2 e.n x y .no .no τ h hw2.1 ⟨by omega,by omega,by omega,by omega,p1.2.i64,p2.2.i64,hn,by omega⟩;unfold dS at z1;rw[e2];obtain⟨⟨R,b3⟩,hR⟩:∃Z,(dw e.n x y).run b2=Z:=⟨_,rfl⟩;rw[hR] at z1|-;simp only at z1|-;have b3':(e.op==3)=false:=by rw[h5];rfl
   have b4:(e.op==4)=false:=by rw[h5];rfl
   have b5:(e.op==5)=true:=by rw[h5];rfl
   clear hR e2 hv hl hw2 at1 ha wa hc wc p1 p2 p3 p4 hab h25 hw' hn;repeat' (first|simp(maxDischargeDepth:=9) -implicitDefEqProofs -dsimp only[go_sem,seval,List.length_map,List.map_cons,List.map_nil, *]|with_reducible refine id_one1 (λtS hS=>z1 _ ?_) ?_ ?_|with_reducible refine Sub.get (by assumption) ?_|refine fin_eq ?_)
  |@cond _ a c d h6 hl' hc' hw' hbc ha hc hd=>
   have p1:=at1 (a:=a) (k:=0) (by rw[hl'];rfl);have p2:=at1 (a:=c) (k:=1) (by rw[hl'];rfl);have p3:=at1 (a:=d) (k:=2) (by rw[hl'];rfl);have wc:=hc.wid;obtain⟨x,y,z,rfl⟩:=Sz.len3 (show L.length=3 by rw[hw2.2,hl'];rfl);simp only[List.getD_cons_zero,List.getD_cons_succ] at p1 p2 p3;have q1:=p1.1;have q2:=p2.1;have q3:=p3.1;obtain⟨k,rfl⟩:=Sz.len1 (show x.length=1 by omega)
   have e2:bF v e [[k],y,z]=jj k y z:=by
    unfold bF;rw[if_neg (by omega),if_neg (by omega),if_neg (by omega),if_pos h6];rfl
   have z1:=λτ h=>Hh bo b2 k y z .no .no τ h hw2.1 (p1.2.i64 k (by simp)) p2.2.i64 p3.2.i64 (by omega) (by omega);rw[e2];obtain⟨⟨R,b3⟩,hR⟩:∃Z,(jj k y z).run b2=Z:=⟨_,rfl⟩;rw[hR] at z1|-;simp only at z1|-;have b3':(e.op==3)=false:=by rw[h6];rfl
   have b4:(e.op==4)=false:=by rw[h6];rfl
   have b5:(e.op==5)=false:=by rw[h6];rfl
   have b6:(e.op==6)=true:=by rw[h6];rfl
   clear hR e2 hv hl hw2 at1 ha hc hd wc p1 p2 p3 q1 q2 q3 hc' hbc hw';repeat' (first|simp(maxDischargeDepth:=9) -implicitDefEqProofs -dsimp only[go_sem,seval,List.length_map,List.map_cons,List.map_nil, *]|with_reducible refine id_one1 (λtS hS=>z1 _ ?_) ?_ ?_|with_reducible refine Sub.get (by assumption) ?_|refine fin_eq ?_)
  |@ext _ a h8 hl' hn hw' hx ha=>
   have p1:=at1 (a:=a) (k:=0) (by rw[hl'];rfl);have wa:=ha.wid;obtain⟨x,rfl⟩:=Sz.len1 (show L.length=1 by rw[hw2.2,hl'];rfl);simp only[List.getD_cons_zero] at p1
   have e2:(bF v e [x]).run b2=(ff e.n e.w x,b2):=by
    unfold bF;rw[if_neg (by omega),if_neg (by omega),if_neg (by omega),if_neg (by omega),if_pos h8];rfl
   have p2:=p1.1;have z1:=λτ=>np e.n e.w.toNat x .no τ (by omega) (by omega) (by omega) (by omega);have ew:((e.w.toNat:Nat):Int)=e.w:=by omega
   rw[ew] at z1;rw[e2];generalize hR:ff e.n e.w x=R at z1|-;simp only
   have b3':(e.op==3)=false:=by rw[h8];rfl
   have b4:(e.op==4)=false:=by rw[h8];rfl
   have b5:(e.op==5)=false:=by rw[h8];rfl
   have b6:(e.op==6)=false:=by rw[h8];rfl
   have b8:(e.op==8)=true:=by rw[h8];rfl
   clear hR e2 hv hl hw2 at1 ha wa p1 p2 hx hw' hn ew;repeat' (first|simp(maxDischargeDepth:=9) -implicitDefEqProofs -dsimp only[go_sem,seval,List.length_map,List.map_cons,List.map_nil, *]|with_reducible refine id_one0 (λtS hS=>z1 _) trivial ?_|refine fin_eq ?_)
  |@cat _ h7 hl' hw' h64 ha=>
   have e2:(bF v e L).run b2=(L.reverse.flatten,b2):=by
    unfold bF;rw[if_neg (by omega),if_neg (by omega),if_neg (by omega),if_neg (by omega),if_neg (by omega)];rfl
   have ht:(L.flatten.length:Int)=e.w:=by
    rw[hw']
    exact tc (by rw[hw2.2,List.length_map]) λi hi=>by
     have hi:i<e.l.length:=by simpa using hi
     rw[(at1 (List.getElem?_eq_getElem hi)).1,List.getD_eq_getElem?_getD,List.getElem?_map,List.getElem?_eq_getElem hi];rfl
   have z1:=λτ h=>uN o L e.l.length τ h hw2.2 (by omega);have z2:=λτ=>pC L.reverse τ (by rw[List.length_reverse,hw2.2];omega) (by rw[yI];omega);have hrl:L.reverse.length=e.l.length:=by rw[List.length_reverse];exact hw2.2
   rw[e2];generalize hR:L.reverse=R at z1 z2 hrl|-;simp only
   have hu:=DH R hrl;have b3':(e.op==3)=false:=by rw[h7];rfl
   have b4:(e.op==4)=false:=by rw[h7];rfl
   have b5:(e.op==5)=false:=by rw[h7];rfl
   have b6:(e.op==6)=false:=by rw[h7];rfl
   have b8:(e.op==8)=false:=by rw[h7];rfl
   clear hR e2 hv hl hw2 at1 ha ht hw';repeat' (first|simp(maxDischargeDepth:=9) -implicitDefEqProofs -dsimp only[go_sem,seval,List.length_map,implies_true, *]|with_reducible refine kc1 (z1 _ ?_) ?_|with_reducible refine kc1 (ACalls.flA (z2 _) ?_) ?_|refine fin_eq ?_)
theorem HI{g:List Sz.Sg}{v:List (List Int)}(hv:Wv g v)(hl:Lv v)(hvl:v.length<=1000000)(tv:Tok)(e:Sz.E):Sz.Fit g e->Sz.WfE e->Sz.nodes e<=1000000->uP v tv e:=by
 refine Sz.E.ind (P:=λe=>Sz.Fit g e->Sz.WfE e->Sz.nodes e<=1000000->uP v tv e) (λe ih hf hw hn=>?_) e;rw[Sz.WfE_iff] at hw;refine tg hv hl hvl tv hf ⟨hw.1.2.2.1.1,by have:=hw.1.2.2.1.2;omega⟩ (by have:=Sz.len_nodes e;omega) λx hx=>ih x hx (lO hf x hx) (hw.2 x hx) (by have:=Sz.part_nodes hx;omega)
end Go.Proofs.YtbbihmmobfmadaaGreat
