/- Expressions, statements and designs as_ a statement's arguments. -/
import Derived.Test.YtbbihmmobfmadaaGreatWBlzBlaV
import Derived.Test.YtbbihmmobfmadaaGreatWSzMain
import Derived.Test.YtbbihmmobfmadaaGreatWAbsZ
set_option linter.unusedSimpArgs false
set_option linter.unusedVariables false
namespace Fil.Sz
open Abs Go
theorem jZ{P:Program}{g:Nat}{t:TypeId}{k:IntKind}{cs:List AV}(hu:P.underlying t=some (.int k))(h:bm P g t cs):∃n,cs=[.int k n]/\k.min<=n/\n<=k.max:=by
 cases g with
 |zero=>exact h.elim
 |succ g=>simp only[bm,hu] at h;exact h
theorem cells_bool{P:Program}{g:Nat}{t:TypeId}{cs:List AV}(hu:P.underlying t=some .bool)(h:bm P g t cs):∃b,cs=[.bool b]:=by
 cases g with
 |zero=>exact h.elim
 |succ g=>simp only[bm,hu] at h;exact h
theorem j0{P:Program}{g:Nat}{t:TypeId}{cs:List AV}(hu:P.underlying t=some .string)(h:bm P g t cs):∃s:ByteArray,cs=[.str s]/\s.size<=maxLen:=by
 cases g with
 |zero=>exact h.elim
 |succ g=>simp only[bm,hu] at h;exact h
theorem cells_slice{P:Program}{g:Nat}{t e:TypeId}{cs:List AV}(hu:P.underlying t=some (.slice e))(h:bm P g t cs):
  ∃g',g'<g/\∃l,cs=[.slice l .no]/\l.length<=maxLen/\∀x∈l,∃es,eE (isAgg P e) es=some x/\bm P g' e es:=by
 cases g with
 |zero=>exact h.elim
 |succ g=>simp only[bm,hu] at h;exact⟨g,Nat.lt_succ_self _,h⟩
def Str(P:Program)(t:TypeId)(l:List TypeId):Prop:=∃fs,P.underlying t=some (.struct fs)/\fs.toList.map (·.type)=l
theorem cells_struct{P:Program}{g:Nat}{t:TypeId}{l:List TypeId}{cs:List AV}(hu:Str P t l)(h:bm P g t cs):∃g',g'<g/\mp (bm P g') l cs:=by
 obtain⟨fs,hu,rfl⟩:=hu;cases g with
 |zero=>exact h.elim
 |succ g=>simp only[bm,hu] at h;exact⟨g,Nat.lt_succ_self _,h⟩
theorem str_agg{P:Program}{t:TypeId}{l:List TypeId}(h:Str P t l):isAgg P t=true:=by
 obtain⟨fs,hu,_⟩:=h;simp only[Abs.isAgg,hu]
theorem mkv_agg{es:List AV}{x:AV}(h:eE true es=some x):x= .agg es:=by
 simp[eE] at h;exact h.symm
theorem map_of{α:Type}{f:α->AV}{p:α->Prop}:∀{l:List AV},(∀x∈l,∃y,x=f y/\p y)->∃m:List α,l=m.map f/\∀y∈m,p y
 |[],_=>⟨[],rfl,by simp⟩
 |x::l,h=>by
  obtain⟨y,rfl,hy⟩:=h x (by simp);obtain⟨m,rfl,hm⟩:=map_of (l:=l) λz hz=>h z (by simp[hz])
  exact⟨y::m,rfl,by
   intro z hz;rcases List.mem_cons.1 hz with rfl|hz
   ·exact hy
   ·exact hm z hz⟩
theorem Ib:IntKind.u64.min=0:=by decide
theorem Ic:IntKind.u64.max=18446744073709551615:=by decide
theorem U64_of{n:Int}(h:IntKind.u64.min<=n/\n<=IntKind.u64.max):EI n:=by rw[Ib,Ic] at h;exact h
structure Tys(P:Program) where
 (i u b s e es t ts sg sgs p ps k ks:TypeId)
 hi:P.underlying i=some (.int .i64)
 hu:P.underlying u=some (.int .u64)
 hb:P.underlying b=some .bool
 hs:P.underlying s=some .string
 he:Str P e [i,i,u,i,i,i,i,es]
 hes:P.underlying es=some (.slice e)
 ht:Str P t [i,i,i,i,es,ts]
 hts:P.underlying ts=some (.slice t)
 hsg:Str P sg [s,i,i,u]
 hsgs:P.underlying sgs=some (.slice sg)
 hp:Str P p [b,ts]
 hps:P.underlying ps=some (.slice p)
 hk:Str P k [s,e]
 hks:P.underlying ks=some (.slice k)
variable {P : Program} (Y : Tys P)
include Y
theorem cells_i{g:Nat}{cs:List AV}(h:bm P g Y.i cs):∃n,cs=[.int .i64 n]/\I64 n:=by
 obtain⟨n,e,hn⟩:=jZ Y.hi h;exact⟨n,e,I64_of hn⟩
theorem yZ{g:Nat}{cs:List AV}(h:bm P g Y.u cs):∃n,cs=[.int .u64 n]/\EI n:=by
 obtain⟨n,e,hn⟩:=jZ Y.hu h;exact⟨n,e,U64_of hn⟩
theorem cells_E:∀(g:Nat) {t:TypeId} {cs:List AV},Str P t [Y.i,Y.i,Y.u,Y.i,Y.i,Y.i,Y.i,Y.es]->bm P g t cs->∃e,cs=eL e/\WfE e:=by
 intro g;induction g using Nat.strongRecOn with
 |ind g ih=>
  intro t cs hst h;obtain⟨g1,hg1,h⟩:=cells_struct hst h;obtain⟨_,_,rfl,a1,_,_,rfl,a2,_,_,rfl,a3,_,_,rfl,a4,_,_,rfl,a5,_,_,rfl,a6,_,_,rfl,a7,_,_,rfl,a8,rfl⟩:=h;obtain⟨n1,rfl,b1⟩:=cells_i Y a1;obtain⟨n2,rfl,b2⟩:=cells_i Y a2;obtain⟨n3,rfl,b3⟩:=yZ Y a3;obtain⟨n4,rfl,b4⟩:=cells_i Y a4;obtain⟨n5,rfl,b5⟩:=cells_i Y a5;obtain⟨n6,rfl,b6⟩:=cells_i Y a6;obtain⟨n7,rfl,b7⟩:=cells_i Y a7;obtain⟨g2,hg2,l,rfl,_,hl⟩:=cells_slice Y.hes a8
  obtain⟨m,rfl,hm⟩:=map_of (f:=encE) (p:=WfE) (l:=l) λx hx=>by
   obtain⟨es,h1,h2⟩:=hl x hx;rw[str_agg Y.he] at h1;obtain rfl:=mkv_agg h1
   obtain⟨e,rfl,he⟩:=ih g2 (by omega) Y.he h2;exact⟨e,rfl,he⟩
  refine⟨.mk n1 n2 n3 n4 n5 n6 n7 m,?_,(WfE_iff _).2 ⟨⟨b1,b2,b3,b4,b5,b6,b7⟩,hm⟩⟩;simp only[eL,encEs_eq,E.op,E.w,E.v,E.sig,E.hi,E.lo,E.n,E.l];rfl
theorem Ey{g:Nat}{cs:List AV}(h:bm P g Y.es cs):∃m:List E,cs=[.slice (m.map encE) .no]/\∀x∈m,WfE x:=by
 obtain⟨g2,hg2,l,rfl,_,hl⟩:=cells_slice Y.hes h
 obtain⟨m,rfl,hm⟩:=map_of (f:=encE) (p:=WfE) (l:=l) λx hx=>by
  obtain⟨es,h1,h2⟩:=hl x hx;rw[str_agg Y.he] at h1;obtain rfl:=mkv_agg h1
  obtain⟨e,rfl,he⟩:=cells_E Y g2 Y.he h2;exact⟨e,rfl,he⟩
 exact⟨m,rfl,hm⟩
theorem Ie:∀(g:Nat) {cs:List AV},bm P g Y.t cs->∃t,cs=tL t/\kp t:=by
 intro g;induction g using Nat.strongRecOn with
 |ind g ih=>
  intro cs h;obtain⟨g1,hg1,h⟩:=cells_struct Y.ht h;obtain⟨_,_,rfl,a1,_,_,rfl,a2,_,_,rfl,a3,_,_,rfl,a4,_,_,rfl,a5,_,_,rfl,a8,rfl⟩:=h;obtain⟨n1,rfl,b1⟩:=cells_i Y a1;obtain⟨n2,rfl,b2⟩:=cells_i Y a2;obtain⟨n3,rfl,b3⟩:=cells_i Y a3;obtain⟨n4,rfl,b4⟩:=cells_i Y a4;obtain⟨m5,rfl,b5⟩:=Ey Y a5;obtain⟨g2,hg2,l,rfl,_,hl⟩:=cells_slice Y.hts a8
  obtain⟨m,rfl,hm⟩:=map_of (f:=encT) (p:=kp) (l:=l) λx hx=>by
   obtain⟨es,h1,h2⟩:=hl x hx;rw[str_agg Y.ht] at h1;obtain rfl:=mkv_agg h1
   obtain⟨e,rfl,he⟩:=ih g2 (by omega) h2;exact⟨e,rfl,he⟩
  refine⟨.mk n1 n2 n3 n4 m5 m,?_,(dK _).2 ⟨⟨b1,b2,b3,b4⟩,b5,hm⟩⟩;simp only[tL,bA,T.op,T.sig,T.hi,T.lo,T.e,T.l];rfl
theorem Ez{g:Nat}{cs:List AV}(h:bm P g Y.ts cs):∃m:List T,cs=[.slice (m.map encT) .no]/\∀x∈m,kp x:=by
 obtain⟨g2,hg2,l,rfl,_,hl⟩:=cells_slice Y.hts h
 obtain⟨m,rfl,hm⟩:=map_of (f:=encT) (p:=kp) (l:=l) λx hx=>by
  obtain⟨es,h1,h2⟩:=hl x hx;rw[str_agg Y.ht] at h1;obtain rfl:=mkv_agg h1
  obtain⟨e,rfl,he⟩:=Ie Y g2 h2;exact⟨e,rfl,he⟩
 exact⟨m,rfl,hm⟩
theorem cells_D{g:Nat}{t:TypeId}{cs:List AV}(ht:Str P t [Y.sgs,Y.ps,Y.ks])(h:bm P g t cs):∃d,cs=dL d/\WfD d:=by
 obtain⟨g1,hg1,h⟩:=cells_struct ht h;obtain⟨_,_,rfl,a1,_,_,rfl,a2,_,_,rfl,a3,rfl⟩:=h;obtain⟨g2,hg2,l,rfl,_,hl⟩:=cells_slice Y.hsgs a1
 obtain⟨m1,rfl,hm1⟩:=map_of (f:=encS) (p:=MD) (l:=l) λx hx=>by
  obtain⟨es,h1,h2⟩:=hl x hx;rw[str_agg Y.hsg] at h1;obtain rfl:=mkv_agg h1
  obtain⟨g3,_,h2⟩:=cells_struct Y.hsg h2;obtain⟨_,_,rfl,c1,_,_,rfl,c2,_,_,rfl,c3,_,_,rfl,c4,rfl⟩:=h2;obtain⟨s,rfl,_⟩:=j0 Y.hs c1;obtain⟨n2,rfl,b2⟩:=cells_i Y c2;obtain⟨n3,rfl,b3⟩:=cells_i Y c3;obtain⟨n4,rfl,b4⟩:=yZ Y c4;exact⟨⟨s,n2,n3,n4⟩,rfl,b2,b3,b4⟩
 obtain⟨g2,hg2,l,rfl,_,hl⟩:=cells_slice Y.hps a2
 obtain⟨m2,rfl,hm2⟩:=map_of (f:=encP) (p:=λp=>∀t∈p.l,kp t) (l:=l) λx hx=>by
  obtain⟨es,h1,h2⟩:=hl x hx;rw[str_agg Y.hp] at h1;obtain rfl:=mkv_agg h1
  obtain⟨g3,_,h2⟩:=cells_struct Y.hp h2;obtain⟨_,_,rfl,c1,_,_,rfl,c2,rfl⟩:=h2;obtain⟨b,rfl⟩:=cells_bool Y.hb c1;obtain⟨m,rfl,hm⟩:=Ez Y c2;exact⟨⟨b,m⟩,rfl,hm⟩
 obtain⟨g2,hg2,l,rfl,_,hl⟩:=cells_slice Y.hks a3
 obtain⟨m3,rfl,hm3⟩:=map_of (f:=encC) (p:=λc=>WfE c.e) (l:=l) λx hx=>by
  obtain⟨es,h1,h2⟩:=hl x hx;rw[str_agg Y.hk] at h1;obtain rfl:=mkv_agg h1
  obtain⟨g3,_,h2⟩:=cells_struct Y.hk h2;obtain⟨_,_,rfl,c1,_,_,rfl,c2,rfl⟩:=h2;obtain⟨s,rfl,_⟩:=j0 Y.hs c1;obtain⟨e,rfl,he⟩:=cells_E Y g3 Y.he c2;exact⟨⟨s,e⟩,by simp[encC],he⟩
 exact⟨⟨m1,m2,m3⟩,rfl,hm1,hm2,hm3⟩
omit Y
theorem iP{α:Type}(f:α->AV)(l:List α):bW (l.map f)=(l.map λx=>kT (f x)).sum:=by
 induction l with
 |nil=>simp[bW]
 |cons a l ih=>simp[bW,ih]
theorem fG{α:Type}{f h:α->Nat}{l:List α}(q:∀x∈l,f x<=h x):(l.map f).sum<=(l.map h).sum:=by
 induction l with
 |nil=>simp
 |cons a l ih=>
  have h1:=q a (by simp);have h2:=ih λx hx=>q x (by simp[hx]);simp only[List.map_cons,List.sum_cons];omega
theorem nodes_sz(e:E):nodes e<=bW (eL e):=by
 refine E.ind (P:=λe=>nodes e<=bW (eL e)) (λe ih=>?_) e
 have h1:(e.l.map nodes).sum<=bW (jF e):=by
  rw[encEs_eq,iP];refine fG λx hx=>?_;have:=ih x hx
  simp only[encE,kT];omega
 rw[bK];simp only[eL,bW,kT] at h1|-;omega
theorem Be(t:T):nodesT t<=bW (tL t):=by
 refine T.ind (P:=λt=>nodesT t<=bW (tL t)) (λt ih=>?_) t
 have h1:(t.l.map nodesT).sum<=bW (uA t):=by
  rw[bA,iP];refine fG λx hx=>?_;have:=ih x hx
  simp only[encT,kT];omega
 have h2:(t.e.map nodes).sum<=bW (t.e.map encE):=by
  rw[iP];refine fG λx hx=>?_;have:=nodes_sz x
  simp only[encE,kT];omega
 rw[bR];simp only[tL,bW,kT] at h1 h2|-;omega
theorem len_szAs{α:Type}(f:α->AV)(l:List α):l.length<=bW (l.map f):=by
 induction l with
 |nil=>simp
 |cons a l ih=>
  have:1<=kT (f a):=by cases f a<;>simp[kT]
  simp only[List.map_cons,bW,List.length_cons];omega
theorem sm_sz{d:Flat}(h:bW (dL d)<=16777216):d.sigs.length<=16777216/\d.procs.length<=16777216/\d.chks.length<=16777216/\nodesD d<=16777216:=by
 simp only[dL,bW,kT] at h;have h1:=len_szAs encS d.sigs;have h2:=len_szAs encP d.procs;have h3:=len_szAs encC d.chks
 have h4:(d.procs.map aZ).sum<=bW (d.procs.map encP):=by
  rw[iP];refine fG λp hp=>?_
  have:(p.l.map nodesT).sum<=bW (p.l.map encT):=by
   rw[iP];refine fG λx hx=>?_;have:=Be x
   simp only[encT,kT];omega
  unfold aZ;simp only[encP,kT,bW];omega
 have h5:(d.chks.map λc=>nodes c.e).sum<=bW (d.chks.map encC):=by
  rw[iP];refine fG λc hc=>?_;have:=nodes_sz c.e
  simp only[encC,kT,bW] at this|-;omega
 refine⟨by omega,by omega,by omega,?_⟩;unfold nodesD;omega
end Fil.Sz
