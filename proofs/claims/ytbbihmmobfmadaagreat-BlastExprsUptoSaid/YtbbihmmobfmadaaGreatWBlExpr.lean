/- The model of layer 19: an expression's word. -/
import Derived.Test.YtbbihmmobfmadaaGreatWBlzBlaF
import Derived.Test.YtbbihmmobfmadaaGreatWSzMain
set_option linter.unusedSimpArgs false
set_option linter.unusedVariables false
namespace Fil.Sz
open Abs
inductive Fit(g:List Sg):E->Prop
 |num {e:E} (h:e.op=1) (hl:e.l=[]) (hw:1<=e.w/\e.w<=64) (hv:holds e.w e.v=true):Fit g e
 |sig {e:E} (h:e.op=2) (hl:e.l=[]) (hp:place g e.sig e.hi e.lo=true) (hw:e.w=e.hi-e.lo+1) (h64:e.hi<=63):Fit g e
 |idx {e a:E} (h:e.op=3) (hl:e.l=[a]) (h0:0<=e.sig) (hs:e.sig<g.length) (hw:e.w=1) (ha:Fit g a):Fit g e
 |un {e a:E} (h:e.op=4) (hl:e.l=[a]) (hn:1<=e.n/\e.n<=6) (hw:e.w=if e.n<=2 then a.w else 1) (h6:e.n=6->a.w=1) (ha:Fit g a):Fit g e
 |bin {e a b:E} (h:e.op=5) (hl:e.l=[a,b]) (hn:11<=e.n/\e.n<=26) (hw:e.w=if e.n<=18 then a.w else 1) (hab:e.n=17\/e.n=18\/a.w=b.w) (h25:25<=e.n->a.w=1) (ha:Fit g a) (hb:Fit g b):Fit g e
 |cond {e a b c:E} (h:e.op=6) (hl:e.l=[a,b,c]) (hc:a.w=1) (hw:e.w=b.w) (hbc:c.w=b.w) (ha:Fit g a) (hb:Fit g b) (hcf:Fit g c):Fit g e
 |cat {e:E} (h:e.op=7) (hl:0<e.l.length) (hw:e.w=(e.l.map E.w).sum) (h64:e.w<=64) (ha:∀x∈e.l,Fit g x):Fit g e
 |ext {e a:E} (h:e.op=8) (hl:e.l=[a]) (hn:31<=e.n/\e.n<=33) (hw:1<=e.w/\e.w<=64) (hx:e.n=33/\e.w<=a.w\/e.n≠33/\a.w<=e.w) (ha:Fit g a):Fit g e
theorem HD{l:List E}(h:0<l.length)(hp:∀x∈l,1<=x.w):1<=(l.map E.w).sum:=by
 match l,h with
 |a::l,_=>
  have h1:=hp a (by simp)
  have h2:0<=(l.map E.w).sum:=sum_nonneg λb hb=>by
   obtain⟨x,hx,rfl⟩:=List.mem_map.1 hb;have:=hp x (by simp[hx]);omega
  simp only[List.map_cons,List.sum_cons];omega
theorem Fit.wid{g:List Sg}{e:E}(h:Fit g e):1<=e.w/\e.w<=64:=by
 induction h with
 |num h hl hw hv=>exact hw
 |sig h hl hp hw h64=>have:=(place_iff.1 hp);omega
 |idx h hl h0 hs hw ha ih=>omega
 |un h hl hn hw h6 ha ih=>rw[hw];split<;>omega
 |bin h hl hn hw hab h25 ha hb ia ib=>rw[hw];split<;>omega
 |cond h hl hc hw hbc ha hb hcf ia ib ic=>omega
 |cat h hl hw h64 ha ih=>exact⟨by rw[hw];exact HD hl λx hx=>(ih x hx).1,h64⟩
 |ext h hl hn hw hx ha ih=>exact hw
theorem KZ{g:List Sg}(hg:dg g)(e:E):∀w,shp g e=true-> -1<=w->size e w=(e,0)->Fit g e:=by
 refine E.ind (P:=λe=>∀w,shp g e=true-> -1<=w->size e w=(e,0)->Fit g e) (λe ih w hs hw h=>?_) e;have hon:=bI hg e hs;have hpos:=lK hon hw;obtain⟨hbit,hc⟩:=nY h;rcases hc with ⟨ho,hw0,hh,hx⟩|⟨hnum,ws,hws,hr,hbad,hx⟩
 ·have:=congrArg E.w hx
  rw[hw0] at this;have e2:(E.mk 1 (wide e w) e.v 0 0 0 0 []).w=wide e w:=rfl;omega
 have hwt:=lL hs hws;have hwl:=mI hs hwt;obtain⟨hl,hget⟩:=lJ e.l ws hwl.symm hr;have hge:=yG hg hs hpos hwt;have hW:e.w=wide e w:=congrArg E.w hx;have hL:e.l=(aO (e.l.map size) ws).1:=congrArg E.l hx;rw[<-hW] at hwt hbad hpos;rw[<-hL] at hbad
 have hpt:∀i,(h1:i<e.l.length)->(h2:i<ws.length)->size e.l[i] ws[i]=(e.l[i],0):=λi h1 h2=>by
  rw[hget i h1 h2];congr 1
  simp only[<-hL]
 have hpw:∀i,(h1:i<e.l.length)->(h2:i<ws.length)->(e.l[i]).w=wide e.l[i] ws[i]:=λi h1 h2=>by
  obtain⟨_,hc⟩:=nY (hpt i h1 h2);rcases hc with ⟨_,_,_,hx⟩|⟨_,_,_,_,_,hx⟩
  ·exact congrArg E.w hx
  ·exact congrArg E.w hx
 have hft:∀i,(h1:i<e.l.length)->(h2:i<ws.length)->Fit g e.l[i]:=λi h1 h2=>
  ih _ (List.getElem_mem h1) _ (aY hs (List.getElem_mem h1)) (hge _ (List.getElem_mem h2)) (hpt i h1 h2)
 clear ih hget hr hx hL hws;cases d8 hs with
 |num ho h1 h2 h3 h4 h5 h6 h7 h8=>
  rcases h8 with h8|h8
  ·omega
  ·exact .num ho h5 ⟨hpos,h7⟩ h8
 |sig ho h1 h4 h5 h6=>
  cases hwt<;>first|omega|skip
  rename_i q1 q2
  rw[uC ho] at q2;exact .sig ho h5 h6 q2.symm (dU hg h6).2.2
 |idx ho h1 h2 h3 h4 a h5 h6 h7=>
  cases hwt<;>first|omega|skip
  rename_i q1 q2
  rw[uD ho] at q2;have f:=hft 0 (by rw[h5];simp) (by simp[h5]);simp only[h5,List.getElem_cons_zero] at f;exact .idx ho h5 h6 h7 q2.symm f
 |un ho h0 h1 h2 h3 a h5 h6 h7=>
  have f:=hft 0 (by rw[h5];simp) (by rw[hwl,h5];simp);have p:=hpw 0 (by rw[h5];simp) (by rw[hwl,h5];simp);simp only[h5,List.getElem_cons_zero] at f p;refine .un ho h5 ⟨h6,h7⟩ ?_ (λh=>?_) f
  ·split
   ·cases hwt<;>first|omega|skip
    rw[dt,bM (by omega) (by omega)] at p;exact p.symm
   ·cases hwt<;>omega
  ·cases hwt<;>first|omega|skip
   rw[dt,fc] at p;exact p
 |bin ho h0 h1 h2 h3 a b h5 h6 h7=>
  have f:=hft 0 (by rw[h5];simp) (by rw[hwl,h5];simp);have p:=hpw 0 (by rw[h5];simp) (by rw[hwl,h5];simp);have f2:=hft 1 (by rw[h5];simp) (by rw[hwl,h5];simp);have p2:=hpw 1 (by rw[h5];simp) (by rw[hwl,h5];simp);simp only[h5,List.getElem_cons_zero,List.getElem_cons_succ] at f p f2 p2
  have hfo:0<=cF (e.l.map own):=fY λa ha=>by
   obtain⟨x,hx,rfl⟩:=List.mem_map.1 ha;exact bI hg x (aY hs hx)
  have htl:cw (cF (e.l.map own)) 32≠0/\cw (cF (e.l.map own)) 32≠ -1:=by
   unfold cw;split<;>omega
  refine .bin ho h5 ⟨h6,h7⟩ ?_ ?_ (λh=>?_) f f2
  ·split
   ·cases hwt<;>first|omega|skip
    ·simp only[List.getElem_cons_zero] at p;rw[bM (by omega) (by omega)] at p;exact p.symm
    ·rw[dt,bM (by omega) (by omega)] at p;exact p.symm
   ·cases hwt<;>omega
  ·by_cases q:e.n=17\/e.n=18
   ·omega
   ·right;right
    cases hwt<;>first|omega|skip
    ·rw[dt,fc] at p p2;omega
    ·rw[dt,bM htl.1 htl.2] at p p2;omega
    ·rw[dt,bM (by omega) (by omega)] at p p2;omega
  ·cases hwt<;>first|omega|skip
   rw[dt,fc] at p;exact p
 |cond ho h0 h1 h2 h3 h4 a b c h5=>
  have f:=hft 0 (by rw[h5];simp) (by rw[hwl,h5];simp);have p:=hpw 0 (by rw[h5];simp) (by rw[hwl,h5];simp);have f2:=hft 1 (by rw[h5];simp) (by rw[hwl,h5];simp);have p2:=hpw 1 (by rw[h5];simp) (by rw[hwl,h5];simp);have f3:=hft 2 (by rw[h5];simp) (by rw[hwl,h5];simp);have p3:=hpw 2 (by rw[h5];simp) (by rw[hwl,h5];simp);simp only[h5,List.getElem_cons_zero,List.getElem_cons_succ] at f p f2 p2 f3 p3;cases hwt<;>first|omega|skip
  simp only[List.getElem_cons_zero,List.getElem_cons_succ] at p p2 p3;rw[fc] at p;rw[bM (by omega) (by omega)] at p2 p3;exact .cond ho h5 p p2.symm (by rw[p2,p3]) f f2 f3
 |cat ho h0 h1 h2 h3 h4 h5=>
  cases hwt<;>first|omega|skip
  rename_i q1 q2 q3 q4
  have hm:e.l.map E.w=e.l.map own:=by
   refine List.ext_getElem (by simp) λi i1 i2=>?_;rw[List.getElem_map,List.getElem_map];have hi:i<e.l.length:=by simpa using i1
   have p:=hpw i hi (by simpa using hi);rw[dt,iK,cw] at p;rw[s6 ho] at q2
   have:own e.l[i]≠0:=λhz=>q2 (by
    unfold kN;rw[if_pos (List.mem_map.2 ⟨_,List.getElem_mem hi,hz⟩)])
   rw[if_neg this] at p;exact p
  refine .cat ho h5 ?_ (by omega) λx hx=>?_
  ·rw[hm,<-q3,s6 ho];unfold kN;rw[s6 ho] at q2;rw[if_neg (λhz=>q2 (by unfold kN;rw[if_pos hz]))]
  ·obtain⟨i,hi,rfl⟩:=List.getElem_of_mem hx;exact hft i hi (by simpa using hi)
 |ext ho h0 h1 h2 h3 a h5 h6 h7 h8 h9=>
  have f:=hft 0 (by rw[h5];simp) (by rw[hwl,h5];simp);simp only[h5,List.getElem_cons_zero] at f;refine .ext ho h5 ⟨h6,h7⟩ ⟨h8,h9⟩ ?_ f;have hp0:dM e.l=a.w:=by rw[h5];rfl
  rw[hp0] at hbad;by_cases h33:e.n=33
  ·left;refine⟨h33,?_⟩
   have:¬(a.w<e.w):=λq=>hbad ⟨ho, .inl ⟨h33,q⟩⟩
   omega
  ·right;refine⟨h33,?_⟩
   have:¬(e.w<a.w):=λq=>hbad ⟨ho, .inr ⟨h33,q⟩⟩
   omega
theorem checkE_fit{d:Flat}{a:E}(h:checkE d a=0):Fit d.sigs a:=by
 unfold checkE at h;split at h
 ·simp at h
 rename_i hc
 have hw0:a.w≠0:=λq=>hc ⟨h, .inl q⟩;have hx:(cY d a a.w).1=a:=Classical.byContradiction λq=>hc ⟨h, .inr q⟩;obtain⟨⟨x,f⟩,hR⟩:∃R,cY d a a.w=R:=⟨_,rfl⟩;rw[hR] at h hx;simp only at h hx;subst h hx;unfold cY at hR;split at hR
 ·simp at hR
 rename_i q1
 split at hR
 ·simp at hR
 have s1:cr d.sigs=true:=by
  cases q:cr d.sigs with
  |true=>rfl
  |false=>exact(q1 (.inl q)).elim
 have s2:Sz.shp d.sigs x=true:=by
  cases q:Sz.shp d.sigs x with
  |true=>rfl
  |false=>exact(q1 (.inr (.inr (.inr q)))).elim
 exact KZ (fy s1) x x.w s2 (by omega) hR
end Fil.Sz
namespace Fil.Bl
open Abs
def uM(ps:List (Pg (List Int))):Nat->Pg (List (List Int)):=iter (λi l=>(ps.getD i (.ret [])).bind λr=> .ret (l++[r])) []
def wd(v:List (List Int))(k:Int):List Int:=v.getD k.toNat []
def cut(a:List Int)(lo hi:Int):List Int:=(a.take (hi+1).toNat).drop lo.toNat
def bF(v:List (List Int))(e:Sz.E)(l:List (List Int)):Pg (List Int):=
 if e.op=3 then (kK (wd v e.sig) (l.getD 0 []) false (l.getD 0 []).length).bind λr=> .ret (r.take 1)
 else if e.op=4 then qB e.n (l.getD 0 [])
 else if e.op=5 then dw e.n (l.getD 0 []) (l.getD 1 [])
 else if e.op=6 then jj (gt (l.getD 0 []) 0) (l.getD 1 []) (l.getD 2 [])
 else if e.op=8 then .ret (ff e.n e.w (l.getD 0 []))
 else .ret l.reverse.flatten
def aM(v:List (List Int))(e:Sz.E):Pg (List Int):=
 let ps:=e.l.attach.map λx=>aM v x.1
 if e.op=1 then .ret (gl e.w e.v)
 else if e.op=2 then .ret (cut (wd v e.sig) e.lo e.hi)
 else (uM ps e.l.length).bind (bF v e)
termination_by e
decreasing_by exact Sz.E.lt x.2
theorem gP(v:List (List Int))(e:Sz.E):aM v e=(if e.op=1 then .ret (gl e.w e.v)
 else if e.op=2 then .ret (cut (wd v e.sig) e.lo e.hi)
 else (uM (e.l.map (aM v)) e.l.length).bind (bF v e)):=by rw[aM];rw[Sz.att e.l (aM v)]
theorem bV{v:List (List Int)}{e:Sz.E}(h1:e.op≠1)(h2:e.op≠2):aM v e=(uM (e.l.map (aM v)) e.l.length).bind (bF v e):=by
 rw[gP,if_neg h1,if_neg h2]
structure Wv(g:List Sz.Sg)(v:List (List Int)):Prop where
 len:v.length=g.length
 wid:∀i,(h:i<g.length)->((v.getD i []).length:Int)=g[i].w
 one:∀a∈v,1<=a.length/\a.length<=64
theorem Wv.at{g:List Sz.Sg}{v:List (List Int)}(h:Wv g v){k:Int}(h0:0<=k)(h1:k<g.length):((wd v k).length:Int)=(g.getD k.toNat Sz.zS).w:=by
 have hk:k.toNat<g.length:=by omega
 rw[wd,h.wid _ hk,List.getD_eq_getElem?_getD,List.getElem?_eq_getElem hk];rfl
theorem Wv.few{g:List Sz.Sg}{v:List (List Int)}(h:Wv g v){k:Int}(h0:0<=k)(h1:k<g.length):1<=(wd v k).length/\(wd v k).length<=64:=by
 have hl:=h.len;have hk:k.toNat<v.length:=by omega
 rw[wd,List.getD_eq_getElem?_getD,List.getElem?_eq_getElem hk];exact h.one _ (List.getElem_mem hk)
end Fil.Bl
