/- The abstraction layer, part Q: the further operations are what is said of them: maps, type assertions. Over any program. -/
import Derived.Laws.StructEq
import Derived.ChangeKeysEq
import Derived.Laws.Strings
import Derived.MapKept
import Derived.WideKeyRuns
import Derived.Test.YtbbihmmobfmadaaGreatWAbsF
set_option linter.unusedSimpArgs false
set_option linter.unusedVariables false
namespace Abs
open Go
section ops
variable {P : Program} {o : Oper} {N : Nat} {env : bg} {σ : aA} {nm : Nat} {R : AV -> Option (Nat × AObj) -> Prop}
theorem aW(k:IntKind)(n:Int)(y:Nat)(code:BoundsCode)(w:World)(h0:0<=n)(h1:n<=y):(Instr.sliceBound (.int k n) y code).run P w= .ok n.toNat w:=by
 simp[Instr.sliceBound,asIntOf,h0,h1]
theorem jV{K:Gh}{a:Act}{x:Option Operand}{ax:Option AOpnd}{d hi:Nat}{Q:Nat->Prop}(hf:Fr K N env a)(hx:cD x=some ax)(h:qq env ax d hi Q):
  ∃r:Nat,Q r/\((x.isNone/\r=d)\/∃k n,x.map a.eval=some (.int k n)/\0<=n/\n<=hi/\r=n.toNat):=by
 cases x with
 |none=>
  simp[cD] at hx;subst hx
  exact⟨d,h, .inl ⟨rfl,rfl⟩⟩
 |some x=>
  simp only[cD,Option.map_eq_some_iff] at hx;obtain⟨b,hb,rfl⟩:=hx;obtain⟨av,h1,h2⟩:=aG (x:=aval env b) h;have hr:=trOpnd_rel hb h1 hf;cases av<;>simp at h2
  obtain⟨⟨p1,p2⟩,p3⟩:=h2;exact⟨_,p3, .inr ⟨_,_,by rw[Option.map_some,aN hr],p1,p2,rfl⟩⟩
theorem qO{K:Gh}{l t v}(hr:Rel K (.slice l t) v){sz:Nat}(hsz:∀x∈l,(az x).length=sz){lo h m:Nat}(h1:lo<=h)(h2:h<=l.length)(h3:h<=m)(full:Bool)(hfull:full=true->m=h):
  ∀a len cap,v= .slice a len cap->len=l.length/\(m<=cap->Rel K (.slice ((l.take h).drop lo) (if full then .full else .no)) (.slice (if m=lo then a else a.map (·.add (lo*sz))) (h-lo) (m-lo))):=by
 intro a len cap hv;rcases rel_slice hr with ⟨a',cap',he,rfl,_⟩|⟨b,off,cap',sz',u,he,q1,q2,q3,q4,q5⟩
 ·rw[he] at hv;cases hv;refine⟨rfl,λ_=>?_⟩;simp at h2
  have e1:h=0:=h2;have e2:lo=0:=by omega
  subst e1;subst e2;simp only[List.take_nil,List.drop_nil,Nat.sub_zero];refine .sl0 _ _ _ ?_;cases full with
  |true=>right;left;exact⟨rfl,by simpa using hfull rfl⟩
  |false=>left;rfl
 ·rw[he] at hv;cases hv;refine⟨rfl,λhm=>?_⟩;have hlen:((l.take h).drop lo).length=h-lo:=by simp;omega
  by_cases hml:m=lo
  ·have:h=lo:=by omega
   subst this;have e:(l.take h).drop h=[]:=by apply List.eq_nil_of_length_eq_zero;rw[hlen];omega
   rw[e,if_pos hml,Nat.sub_self];refine .sl0 _ _ _ ?_;cases full with
   |true=>right;left;exact⟨rfl,by omega⟩
   |false=>left;rfl
  ·rw[if_neg hml];show Rel K _ (.slice (some ((⟨b,off,none⟩:Addr).add (lo*sz))) (h-lo) (m-lo))
   rw[ce,<-hlen];have hmem:∀x∈(l.take h).drop lo,x∈l:=λx hx=>List.mem_of_mem_take (List.mem_of_mem_drop hx);have hall:∀x∈l.take h,(az x).length=sz:=λx hx=>hsz x (List.mem_of_mem_take hx);have hflat:flat ((l.take h).drop lo)=((flat l).take (h*sz)).drop (lo*sz):=by rw[qN hall,y7 hsz]
   refine .slice _ _ b (off+lo*sz) (m-lo) sz (λi=>u (lo*sz+i)) (λx hx=>hsz x (hmem x hx)) (λi hi=>?_) (λi hi=>?_) ?_ (by rw[hlen];omega)
   ·rw[hflat] at hi;rw[Nat.add_assoc];exact q2 _ (by simp at hi;omega)
   ·have hi':=hi;rw[hflat] at hi';have hi2:lo*sz+i<(flat l).length:=by simp at hi';omega
    have:=q3 (lo*sz+i) hi2
    have e2:(flat ((l.take h).drop lo))[i]=(flat l)[lo*sz+i]:=by
     apply Option.some.inj
     rw[<-List.getElem?_eq_getElem,<-List.getElem?_eq_getElem,hflat,List.getElem?_drop,List.getElem?_take,if_pos (by simp at hi';omega)]
    rw[e2];exact this
   ·cases full with
    |true=>have:=hfull rfl;show m-lo=_;rw[hlen];omega
    |false=>trivial
theorem tG{K:Gh}{a:Act}{t x lo hi mx e sz alo ahi amx}(hf:Fr K N env a)(ho:o.op= .slice t x lo hi mx)(hu:P.underlying t=some (.slice e))(hsz:dl P e=some sz)
  (hlo:cD lo=some alo)(hhi:cD hi=some ahi)(hmx:cD mx=some amx){b len cap:Nat}(he:a.eval x= .slice (some ⟨b,0,none⟩) len cap)(hl:len<=cap)(hm:alo.isSome=false/\amx.isSome=false)
  {Rn:Nat->Prop}(h:qq env ahi len len Rn)(w:World):∃hh,hh<=len/\Rn hh/\(execOp a.eval o).run P w= .ok (.value (.slice (some ⟨b,0,none⟩) hh cap)) w:=by
 obtain⟨hh,h4,c1⟩:=jV hf hhi h;have hln:lo=none:=by cases lo<;>cases alo<;>simp[cD] at hlo hm|-
 have hmn:mx=none:=by cases mx<;>cases amx<;>simp[cD] at hmx hm|-
 subst hln hmn;have hhl:hh<=len:=by rcases c1 with ⟨_,rfl⟩|⟨k,n,_,n0,n1,rfl⟩<;>omega
 have c1':(hi=none/\hh=len)\/∃y k n,hi=some y/\a.eval y= .int k n/\0<=n/\n<=(len:Nat)/\hh=n.toNat:=by
  rcases c1 with ⟨hn,e⟩|⟨k,n,hn,n0,n1,e⟩
  ·left;cases hi<;>simp at hn;exact⟨rfl,e⟩
  ·right;cases hi<;>simp at hn;exact⟨_,k,n,rfl,hn,n0,n1,e⟩
 have hsb:∀w:World,(Instr.sliceBounds true len cap none (hi.map a.eval) none).run P w= .ok (0,hh,cap) w:=by
  intro w;rcases c1' with ⟨rfl,rfl⟩|⟨y,k,n,rfl,ey,n0,n1,rfl⟩
  ·simp[Instr.sliceBounds]
  ·simp[Instr.sliceBounds,ey,aW k n cap _ _ n0 (by omega)]
 refine⟨hh,hhl,h4,?_⟩;simp only[execOp,ho,Sem.run_bind];rw[he];simp[Instr.sliceAt,Instr.slice,aB hu,hsb,aR hsz,Addr.add]
theorem IG{t x lo hi mx e sz ax alo ahi amx}(ho:o.op= .slice t x lo hi mx)(hu:P.underlying t=some (.slice e))(hsz:dl P e=some sz)(hx:aE x=some ax)
  (hlo:cD lo=some alo)(hhi:cD hi=some ahi)(hmx:cD mx=some amx)(h:aJ nm env σ R (.slc sz ax alo ahi amx)):OpOk P o N env σ nm R:=by
 refine .still λK a w hf hs=>?_;obtain⟨av,h1,h2⟩:=aG h;have hr:=trOpnd_rel hx h1 hf;cases av<;>simp only[] at h2<;>first|exact h2.elim|skip
 case vec ob len=>
  obtain⟨b,cap,he,h3,h4⟩:=nH hr;obtain⟨hh,k1,k2,k3⟩:=tG hf ho hu hsz hlo hhi hmx he h4 h2.1 h2.2 w;exact⟨_,_,k3, .pre ob hh len b cap h3 k1 h4,k2⟩
 case pre ob len n=>
  obtain⟨b,cap,he,h3,h4,h5⟩:=nI hr;obtain⟨hh,k1,k2,k3⟩:=tG hf ho hu hsz hlo hhi hmx he (by omega) h2.1 h2.2 w;exact⟨_,_,k3, .pre ob hh n b cap h3 (by omega) h5,k2⟩
 rename_i l tk
 obtain⟨p1,h3⟩:=h2;obtain⟨hh,h4,c1⟩:=jV hf hhi h3;obtain⟨ll,h5,c2⟩:=jV hf hlo h4
 obtain⟨a0,cap,he,hcap⟩:∃a0 cap,a.eval x= .slice a0 l.length cap/\l.length<=cap:=by
  rcases rel_slice hr with ⟨a',cap',he,rfl,_⟩|⟨b,off,cap',sz',u,he,q1,q2,q3,q4,q5⟩
  ·exact⟨a',cap',he,Nat.zero_le _⟩
  ·exact⟨_,cap',he,q5⟩
 have hhl:hh<=l.length:=by rcases c1 with ⟨_,rfl⟩|⟨k,n,_,n0,n1,rfl⟩<;>omega
 have hlh:ll<=hh:=by rcases c2 with ⟨_,rfl⟩|⟨k,n,_,n0,n1,rfl⟩<;>omega
 have c1':(hi=none/\hh=l.length)\/∃y k n,hi=some y/\a.eval y= .int k n/\0<=n/\n<=(l.length:Nat)/\hh=n.toNat:=by
  rcases c1 with ⟨hn,e⟩|⟨k,n,hn,n0,n1,e⟩
  ·left;cases hi<;>simp at hn;exact⟨rfl,e⟩
  ·right;cases hi<;>simp at hn;exact⟨_,k,n,rfl,hn,n0,n1,e⟩
 have c2':(lo=none/\ll=0)\/∃y k n,lo=some y/\a.eval y= .int k n/\0<=n/\n<=(hh:Nat)/\ll=n.toNat:=by
  rcases c2 with ⟨hn,e⟩|⟨k,n,hn,n0,n1,e⟩
  ·left;cases lo<;>simp at hn;exact⟨rfl,e⟩
  ·right;cases lo<;>simp at hn;exact⟨_,k,n,rfl,hn,n0,n1,e⟩
 cases amx with
 |none=>
  have hmn:mx=none:=by cases mx<;>simp[cD] at hmx;rfl
  subst hmn;have hp:=qO hr p1 (lo:=ll) (h:=hh) (m:=cap) hlh hhl (by omega) false (by simp) a0 _ cap he;refine⟨_,_,?_,hp.2 (Nat.le_refl _),h5⟩
  have hsb:∀w:World,(Instr.sliceBounds true l.length cap (lo.map a.eval) (hi.map a.eval) none).run P w= .ok (ll,hh,cap) w:=by
   intro w;rcases c1' with ⟨rfl,rfl⟩|⟨y,k,n,rfl,ey,n0,n1,rfl⟩<;>rcases c2' with ⟨rfl,rfl⟩|⟨y',k',n',rfl,ey',n0',n1',rfl⟩
   ·simp[Instr.sliceBounds]
   ·simp[Instr.sliceBounds,ey',aW k' n' _ _ _ n0' n1']
   ·simp[Instr.sliceBounds,ey,aW k n cap _ _ n0 (by omega)]
   ·simp[Instr.sliceBounds,ey,ey',aW k n cap _ _ n0 (by omega),aW k' n' _ _ _ n0' n1']
  simp only[execOp,ho,Sem.run_bind];rw[he];simp[Instr.sliceAt,Instr.slice,aB hu,hsb,aR hsz]
 |some am=>
  obtain⟨k1,h6⟩:=h5;obtain⟨mv,h7,h8⟩:=aG h6;cases mx with
  |none=>simp[cD] at hmx
  |some mo=>
   simp only[cD,Option.map_some,Option.map_eq_some_iff] at hmx;obtain⟨am',hma,hmb⟩:=hmx;obtain rfl:am'=am:=by simpa using hmb
   have hrm:=trOpnd_rel hma h7 hf;cases mv<;>simp at h8
   rename_i k m
   obtain⟨m1,m2⟩:=h8;have em:=aN hrm;have hp:=qO hr p1 (lo:=ll) (h:=hh) (m:=hh) hlh hhl (Nat.le_refl _) true (λ_=>rfl) a0 _ cap he;refine⟨_,_,?_,hp.2 (by omega),m2⟩
   have hbm:∀w:World,(Instr.sliceBound (a.eval mo) cap .slice3Acap).run P w= .ok hh w:=by
    intro w;rw[em,aW k m cap _ w (by omega) (by omega)];congr 1;omega
   have hsb:∀w:World,(Instr.sliceBounds true l.length cap (lo.map a.eval) (hi.map a.eval) (some (a.eval mo))).run P w= .ok (ll,hh,hh) w:=by
    intro w;have e1:=hbm w;rcases c1' with ⟨rfl,_⟩|⟨y,k,n,rfl,ey,n0,n1,e0⟩
    ·simp[cD] at hhi;subst hhi;simp at k1
    ·have e3:(Instr.sliceBound (.int k n) hh .slice3B).run P w= .ok hh w:=by
      rw[aW k n hh _ w n0 (by omega)];rw[<-e0]
     rcases c2' with ⟨rfl,rfl⟩|⟨y',k',n',rfl,ey',n0',n1',rfl⟩
     ·simp[Instr.sliceBounds,e1,ey,e3]
     ·simp[Instr.sliceBounds,e1,ey,e3,ey',aW k' n' _ _ _ n0' n1']
   simp only[execOp,ho,Sem.run_bind];rw[he];simp[Instr.sliceAt,Instr.slice,aB hu,hsb,aR hsz]
theorem IH{t x e ax}(ho:o.op= .call {callee:= .builtin .len,args:=#[x],argTypes:=#[t]})(hu:P.underlying t=some (.slice e))(hx:aE x=some ax)
  (h:aJ nm env σ R (.len ax)):OpOk P o N env σ nm R:=by
 refine .still λK a w hf hs=>?_;obtain⟨av,h1,h2⟩:=aG h;have hr:=trOpnd_rel hx h1 hf;cases av<;>simp at h2
 case slice l tk=>
  obtain⟨a0,cap,he⟩:∃a0 cap,a.eval x= .slice a0 l.length cap:=by
   rcases rel_slice hr with ⟨a',cap',he,rfl,_⟩|⟨b,off,cap',sz',u,he,_⟩
   ·exact⟨a',cap',he⟩
   ·exact⟨_,cap',he⟩
  exact⟨_,_,by simp[execOp,ho,resolve,invoke,Go.builtin,Builtin.len_,he,aB hu,goInt]<;>rfl, .int _ _,h2⟩
 case vec ob n=>
  obtain⟨b,cap,he,_⟩:=nH hr;exact⟨_,_,by simp[execOp,ho,resolve,invoke,Go.builtin,Builtin.len_,he,aB hu,goInt]<;>rfl, .int _ _,h2⟩
 case pre ob len n=>
  obtain⟨b,cap,he,_⟩:=nI hr;exact⟨_,_,by simp[execOp,ho,resolve,invoke,Go.builtin,Builtin.len_,he,aB hu,goInt]<;>rfl, .int _ _,h2⟩
theorem EX{t x n e}(ho:o.op= .call {callee:= .builtin .len,args:=#[x],argTypes:=#[t]})(hu:P.underlying t=some (.array n e))
  (h:aJ nm env σ R (.mov (.c (.int .i64 n)))):OpOk P o N env σ nm R:=by
 refine .still λK a w hf hs=>?_;exact⟨_,_,by simp[execOp,ho,resolve,invoke,Go.builtin,Builtin.len_,aB hu,goInt]<;>rfl, .int _ _,h⟩
theorem II{t x e ax}(ho:o.op= .call {callee:= .builtin .cap,args:=#[x],argTypes:=#[t]})(hu:P.underlying t=some (.slice e))(hx:aE x=some ax)
  (h:aJ nm env σ R (.cap ax)):OpOk P o N env σ nm R:=by
 refine .still λK a w hf hs=>?_;obtain⟨av,h1,h2⟩:=aG h;have hr:=trOpnd_rel hx h1 hf;cases av<;>first|exact h2.elim|skip
 rename_i l tk
 cases tk with
 |no=>exact h2.elim
 |own t=>exact h2.elim
 |nil=>
  obtain⟨a0,he⟩:∃a0,a.eval x= .slice a0 l.length 0:=by
   rcases rel_slice hr with ⟨a',cap',he,rfl,ht⟩|⟨b,off,cap',sz',u,he,_,_,_,ht,_⟩
   ·simp at ht;obtain⟨rfl,rfl⟩:=ht;exact⟨_,he⟩
   ·exact ht.elim
  exact⟨_,_,by simp[execOp,ho,resolve,invoke,Go.builtin,Builtin.cap_,he,aB hu,goInt]<;>rfl, .int _ _,h2⟩
 |full=>
  obtain⟨a0,he⟩:∃a0,a.eval x= .slice a0 l.length l.length:=by
   rcases rel_slice hr with ⟨a',cap',he,rfl,ht⟩|⟨b,off,cap',sz',u,he,_,_,_,ht,_⟩
   ·simp at ht;subst ht;exact⟨_,he⟩
   ·simp[TokOk] at ht;subst ht;exact⟨_,he⟩
  exact⟨_,_,by simp[execOp,ho,resolve,invoke,Go.builtin,Builtin.cap_,he,aB hu,goInt]<;>rfl, .int _ _,h2⟩
theorem Bw{K:Gh}{avs:List AV}{vs:List Value}{r:Int}(hr:RelL K avs vs)(h:vB avs=some r)(w:World):(Builtin.min_ #[] 0 vs.toArray).run P w= .ok (.int .i64 r) w:=by
 unfold vB at h;split at h<;>simp at h
 ·subst h;obtain⟨v,q,rfl,h1,h2⟩:=hr.cons_inv;obtain rfl:q=[]:=by simpa using h2.1.symm
  simp[Builtin.min_,aN h1]
 ·subst h;obtain⟨v,q,rfl,h1,h2⟩:=hr.cons_inv;obtain⟨v2,q2,rfl,h3,h4⟩:=h2.cons_inv;obtain rfl:q2=[]:=by simpa using h4.1.symm
  simp[Builtin.min_,aN h1,aN h3,Builtin.min2]
 ·subst h;obtain⟨v,q,rfl,h1,h2⟩:=hr.cons_inv;obtain⟨v2,q2,rfl,h3,h4⟩:=h2.cons_inv;obtain⟨v3,q3,rfl,h5,h6⟩:=h4.cons_inv;obtain rfl:q3=[]:=by simpa using h6.1.symm
  simp[Builtin.min_,aN h1,aN h3,aN h5,Builtin.min2]
theorem Bx{K:Gh}{avs:List AV}{vs:List Value}{r:Int}(hr:RelL K avs vs)(h:vC avs=some r)(w:World):(Builtin.max_ #[] 0 vs.toArray).run P w= .ok (.int .i64 r) w:=by
 unfold vC at h;split at h<;>simp at h
 ·subst h;obtain⟨v,q,rfl,h1,h2⟩:=hr.cons_inv;obtain rfl:q=[]:=by simpa using h2.1.symm
  simp[Builtin.max_,aN h1]
 ·subst h;obtain⟨v,q,rfl,h1,h2⟩:=hr.cons_inv;obtain⟨v2,q2,rfl,h3,h4⟩:=h2.cons_inv;obtain rfl:q2=[]:=by simpa using h4.1.symm
  simp[Builtin.max_,aN h1,aN h3,Builtin.max2]
 ·subst h;obtain⟨v,q,rfl,h1,h2⟩:=hr.cons_inv;obtain⟨v2,q2,rfl,h3,h4⟩:=h2.cons_inv;obtain⟨v3,q3,rfl,h5,h6⟩:=h4.cons_inv;obtain rfl:q3=[]:=by simpa using h6.1.symm
  simp[Builtin.max_,aN h1,aN h3,aN h5,Builtin.max2]
theorem IJ{args:Array Operand}{ats:Array TypeId}{axs}(ho:o.op= .call {callee:= .builtin .min,args:=args,argTypes:=ats})(hx:cL args.toList=some axs)(h:aJ nm env σ R (.min axs)):OpOk P o N env σ nm R:=by
 refine .still λK a w hf hs=>?_;obtain⟨l,h1,h2⟩:=dW h;have hr:=cM hf hx h1;split at h2
 ·rename_i r hm
  have hrun:=Bw (P:=P) hr hm w;refine⟨_,_,?_, .int _ _,h2⟩;have e:Builtin.min_ ats o.type (args.map a.eval)=Builtin.min_ #[] 0 (args.toList.map a.eval).toArray:=by simp[Builtin.min_]
  simp only[execOp,ho,resolve,invoke,Go.builtin,e,Sem.run_bind,Sem.run_pure,Result.andThen_ok,hrun]
 ·exact h2.elim
theorem IK{args:Array Operand}{ats:Array TypeId}{axs}(ho:o.op= .call {callee:= .builtin .max,args:=args,argTypes:=ats})(hx:cL args.toList=some axs)(h:aJ nm env σ R (.max axs)):OpOk P o N env σ nm R:=by
 refine .still λK a w hf hs=>?_;obtain⟨l,h1,h2⟩:=dW h;have hr:=cM hf hx h1;split at h2
 ·rename_i r hm
  have hrun:=Bx (P:=P) hr hm w;refine⟨_,_,?_, .int _ _,h2⟩;have e:Builtin.max_ ats o.type (args.map a.eval)=Builtin.max_ #[] 0 (args.toList.map a.eval).toArray:=by simp[Builtin.max_]
  simp only[execOp,ho,resolve,invoke,Go.builtin,e,Sem.run_bind,Sem.run_pure,Result.andThen_ok,hrun]
 ·exact h2.elim
theorem tH:∀(xs:List Value) (k off:Nat) (cs:Array Value),off+k+xs.length<=cs.size->
  ((xs.zipIdx k).foldl (λcs (c,j)=>cs.setIfInBounds (off+j) c) cs).toList=cs.toList.take (off+k)++xs++cs.toList.drop (off+k+xs.length)
 |[],k,off,cs,_=>by simp
 |x::xs,k,off,cs,h=>by
  simp only[List.zipIdx_cons,List.foldl_cons];rw[tH xs (k+1) off _ (by simp at h|-;omega)];have hk:off+k<cs.toList.length:=by simp at h|-;omega
  rw[Array.toList_setIfInBounds];have e:=list_seg_step cs.toList (off+k) x xs (by simp at h|-;omega);simpa [Nat.add_assoc] using e
theorem qP(v:Value)(off:Nat)(cs:Array Value)(h:off+v.cells.size<=cs.size):
  (v.cells.zipIdx.foldl (λcs (c,j)=>cs.setIfInBounds (off+j) c) cs).toList=cs.toList.take off++v.cells.toList++cs.toList.drop (off+v.cells.toList.length):=by
 rw[<-Array.foldl_toList,Array.toList_zipIdx];exact tH v.cells.toList 0 off cs (by simpa using h)
theorem oD{K:Gh}{a:Act}(hf:Fr K N env a)(place:Nat->Option (Nat×Nat)):∀(parts:List (Nat×Operand)) (aps:List (Nat×Nat×AOpnd)) (cs cs':List AV) (cells:Array Value),
  parts.length=aps.length->(∀(k i:Nat) (x:Operand) (off n:Nat) (ax:AOpnd),parts[k]?=some (i,x)->aps[k]?=some (off,n,ax)->place i=some (off,n)/\aE x=some ax)->
  RelL K cs cells.toList->gV env cs aps=some cs'->∃cells',Instr.fill place cells (parts.map fun(i,x)=>(i,a.eval x))=some cells'/\RelL K cs' cells'.toList
 |[],aps,cs,cs',cells,hl,_,hr,h=>by
  have:aps=[]:=by cases aps<;>simp at hl;rfl
  subst this;simp[gV] at h;subst h
  exact⟨cells,rfl,hr⟩
 |(i,x)::parts,aps,cs,cs',cells,hl,hp,hr,h=>by
  cases aps with
  |nil=>simp at hl
  |cons p aps=>
   obtain⟨off,n,ax⟩:=p;obtain⟨h1,h2⟩:=hp 0 i x off n ax rfl rfl;simp only[gV] at h;split at h
   ·rename_i av hav
    split at h
    ·rename_i hc
     obtain⟨hc1,hc2⟩:=hc;have rv:=(trOpnd_rel h2 hav hf).cells;have hsz:(a.eval x).cells.size=n:=by have:=rv.1;simp at this;omega
     have hcs:cs.length=cells.size:=by simpa using hr.1
     have hput:=qP (a.eval x) off cells (by omega)
     have hr':RelL K (putAt cs off (az av)) ((a.eval x).cells.zipIdx.foldl (λcs (c,j)=>cs.setIfInBounds (off+j) c) cells).toList:=by
      rw[hput];exact hr.putAt rv off
     obtain⟨cells',e1,e2⟩:=oD hf place parts aps _ cs' _ (by simpa using hl) (λk i x off n ax hk1 hk2=>hp (k+1) i x off n ax (by simpa using hk1) (by simpa using hk2)) hr' h;refine⟨cells',?_,e2⟩;simp only[List.map_cons,Instr.fill,h1];rw[if_neg (by simp[hsz];omega)];exact e1
    ·simp at h
   ·simp at h
theorem ki{fs:Array Field}:∀{ps:List (Nat×Operand)} {aps},iz P fs ps=some aps->ps.length=aps.length/\∀(k i:Nat) (x:Operand) (off n:Nat) (ax:AOpnd),ps[k]?=some (i,x)->aps[k]?=some (off,n,ax)->
  ∃f,fs[i]?=some f/\f.offset=off/\dl P f.type=some n/\aE x=some ax
 |[],aps,h=>by simp[iz] at h;subst h;simp
 |(i,x)::r,aps,h=>by
  simp only[iz] at h;split at h<;>try (simp at h;done)
  rename_i f a l h1 h2 h3
  split at h<;>simp at h
  rename_i n hn
  subst h;obtain⟨k1,k2⟩:=ki h3;refine⟨by simp[k1],λk i' x' off n' ax e1 e2=>?_⟩;cases k with
  |zero=>simp at e1 e2;obtain⟨rfl,rfl⟩:=e1;obtain⟨rfl,rfl,rfl⟩:=e2;exact⟨f,h1,rfl,hn,h2⟩
  |succ k=>exact k2 k i' x' off n' ax (by simpa using e1) (by simpa using e2)
theorem kX{sz:Nat}:∀{ps:List (Nat×Operand)} {aps},jT sz ps=some aps->ps.length=aps.length/\∀(k i:Nat) (x:Operand) (off n:Nat) (ax:AOpnd),ps[k]?=some (i,x)->aps[k]?=some (off,n,ax)->
  off=i*sz/\n=sz/\aE x=some ax
 |[],aps,h=>by simp[jT] at h;subst h;simp
 |(i,x)::r,aps,h=>by
  simp only[jT] at h;split at h<;>simp at h
  rename_i a l h2 h3
  subst h;obtain⟨k1,k2⟩:=kX h3;refine⟨by simp[k1],λk i' x' off n' ax e1 e2=>?_⟩;cases k with
  |zero=>simp at e1 e2;obtain⟨rfl,rfl⟩:=e1;obtain⟨rfl,rfl,rfl⟩:=e2;exact⟨rfl,rfl,h2⟩
  |succ k=>exact k2 k i' x' off n' ax (by simpa using e1) (by simpa using e2)
theorem tI{w:World}{fs:Array Field}(h:fs.toList.all (λf=>(dl P f.type).isSome)=true):
  (fs.mapM λf=>do pure (f.offset,<-Go.sizeOf f.type):Sem (Array (Nat×Nat))).run P w= .ok (fs.map λf=>(f.offset,(dl P f.type).getD 0)) w:=by
 rw[Array.mapM_eq_mapM_toList]
 have key:∀l:List Field,l.all (λf=>(dl P f.type).isSome)=true->(l.mapM λf=>do pure (f.offset,<-Go.sizeOf f.type):Sem (List (Nat×Nat))).run P w= .ok (l.map λf=>(f.offset,(dl P f.type).getD 0)) w:=by
  intro l;induction l with
  |nil=>intro _;rfl
  |cons f l ih=>
   intro hl;simp only[List.all_cons,Bool.and_eq_true] at hl;obtain⟨n,hn⟩:=Option.isSome_iff_exists.1 hl.1;have:=ih hl.2
   simp only[List.mapM_cons,Sem.run_bind,aR hn,Result.andThen_ok,Sem.run_pure,this,List.map_cons,hn,Option.getD_some]
 simp only[Sem.run_map];rw[key _ h];simp
 exact Array.ext' (by simp)
theorem y8{t ps fs z aps}(ho:o.op= .build t ps)(hu:P.underlying t=some (.struct fs))(hz:cx P t=some z)(hall:fs.toList.all (λf=>(dl P f.type).isSome)=true)
  (hps:iz P fs ps.toList=some aps)(h:aJ nm env σ R (.build z aps)):OpOk P o N env σ nm R:=by
 refine .still λK a w hf hs=>?_;simp only[aJ,bt] at h;split at h
 ·rename_i cs hcs
  obtain⟨v,h1,h2,_⟩:=dN (K:=K) hz w;obtain⟨k1,k2⟩:=ki hps
  obtain⟨cells',e1,e2⟩:=oD hf (λi=>((fs.map λf=>(f.offset,(dl P f.type).getD 0)))[i]?) ps.toList aps z cs v.cells k1 (λk i x off n ax q1 q2=>by
   obtain⟨f,f1,f2,f3,f4⟩:=k2 k i x off n ax q1 q2;exact⟨by simp[f1,f2,f3],f4⟩) h2 hcs
  refine⟨.agg cs, .agg cells',?_, .aggL e2,h⟩;have e3:(ps.map fun(i,x)=>(i,a.eval x)).toList=ps.toList.map fun(i,x)=>(i,a.eval x):=by simp
  simp only[execOp,ho,Instr.build,Sem.run_bind,h1,Result.andThen_ok,aB hu,tI hall,e3,e1];rfl
 ·exact h.elim
theorem y9{t ps n e sz z aps}(ho:o.op= .build t ps)(hu:P.underlying t=some (.array n e))(hz:cx P t=some z)(hsz:dl P e=some sz)
  (hps:jT sz ps.toList=some aps)(h:aJ nm env σ R (.build z aps)):OpOk P o N env σ nm R:=by
 refine .still λK a w hf hs=>?_;simp only[aJ,bt] at h;split at h
 ·rename_i cs hcs
  obtain⟨v,h1,h2,_⟩:=dN (K:=K) hz w;obtain⟨k1,k2⟩:=kX hps
  obtain⟨cells',e1,e2⟩:=oD hf (λi=>some (i*sz,sz)) ps.toList aps z cs v.cells k1 (λk i x off n ax q1 q2=>by
   obtain⟨f1,f2,f3⟩:=k2 k i x off n ax q1 q2;exact⟨by simp[f1,f2],f3⟩) h2 hcs
  refine⟨.agg cs, .agg cells',?_, .aggL e2,h⟩;have e3:(ps.map fun(i,x)=>(i,a.eval x)).toList=ps.toList.map fun(i,x)=>(i,a.eval x):=by simp
  simp only[execOp,ho,Instr.build,Sem.run_bind,h1,Result.andThen_ok,aB hu,aR hsz,e3,e1];rfl
 ·exact h.elim
end ops
end Abs
namespace Abs
open Go
section ops
variable {P : Program} {o : Oper} {N : Nat} {env : bg} {σ : aA} {nm : Nat} {R : AV -> Option (Nat × AObj) -> Prop}
theorem oE(a:Act)(sz:Nat):∀(parts:List (Nat×Operand)) (k:Nat) (pre:List Value) (cells:Array Value),(∀j p,parts[j]?=some p->p.1=k+j)->
  (∀p∈parts,(a.eval p.2).cells.size=sz)->pre.length=k*sz->cells.toList.take (k*sz)=pre->cells.size=k*sz+parts.length*sz->
  ∃cells',Instr.fill (λi=>some (i*sz,sz)) cells (parts.map fun(i,x)=>(i,a.eval x))=some cells'/\cells'.toList=pre++parts.flatMap λp=>(a.eval p.2).cells.toList
 |[],k,pre,cells,_,_,hpre,htake,hs=>by
  refine⟨cells,rfl,?_⟩;rw[List.take_of_length_le (by simp at hs|-;omega)] at htake;simp[htake]
 |(i,x)::parts,k,pre,cells,hidx,hsz,hpre,htake,hs=>by
  have hi:i=k:=by simpa using hidx 0 (i,x) rfl
  subst hi;have hx:(a.eval x).cells.size=sz:=hsz (i,x) (by simp);have hsum:cells.size=i*sz+(parts.length*sz+sz):=by rw[hs];simp[Nat.succ_mul]
  have hput:=qP (a.eval x) (i*sz) cells (by omega);have hlen:=congrArg List.length hput;simp[hx] at hlen
  obtain⟨cells',e1,e2⟩:=oE a sz parts (i+1) (pre++(a.eval x).cells.toList) _ (λj p hj=>by have:=hidx (j+1) p (by simpa using hj);omega)
   (λp hp=>hsz p (by simp[hp])) (by simp[hpre,hx,Nat.succ_mul]) (by
    rw[hput,htake,Nat.succ_mul,List.take_append_of_le_length (by simp[hpre,hx]),List.take_of_length_le (by simp[hpre,hx])]) (by
    rw[<-Array.length_toList,hput];simp[hx,Nat.succ_mul];omega)
  refine⟨cells',?_,?_⟩
  ·simp only[List.map_cons,Instr.fill];rw[if_neg (by simp[hx];omega)];exact e1
  ·rw[e2];simp
theorem iR:∀{ps:List (Nat×Operand)} {k:Nat} {axs},gW k ps=some axs->cL (ps.map (·.2))=some axs/\∀(j:Nat) (p:Nat×Operand),ps[j]?=some p->p.1=k+j
 |[],k,axs,h=>by simp[gW] at h;subst h;simp[cL]
 |(i,x)::r,k,axs,h=>by
  simp only[gW] at h;split at h<;>try (simp at h;done)
  rename_i hik
  subst hik;split at h<;>simp at h
  rename_i a l h1 h2
  subst h;obtain⟨k1,k2⟩:=iR h2;refine⟨by simp[cL,h1,k1],λj p hj=>?_⟩;cases j with
  |zero=>simp at hj;subst hj;rfl
  |succ j=>have:=k2 j p (by simpa using hj);omega
theorem oG{K:Gh}:∀{l:List AV} {vs:List Value},RelL K l vs->RelL K (flat l) (vs.flatMap λv=>v.cells.toList)
 |[],vs,h=>by
  obtain rfl:vs=[]:=by simpa using h.1.symm
  exact .nil
 |x::l,vs,h=>by
  obtain⟨v,r,rfl,h1,h2⟩:=h.cons_inv;rw[c7,List.flatMap_cons];exact h1.cells.append (oG h2)
theorem za{t len ps e sz axs}(ho:o.op= .buildSlice t len ps)(hu:P.underlying t=some (.slice e))(hsz:dl P e=some sz)(hlen:len=ps.size)(hmax:len*sz<=65536){z}(hz:cx P e=some z)
  (hps:gW 0 ps.toList=some axs)(h:aJ nm env σ R (.bslice sz axs)):OpOk P o N env σ nm R:=by
 intro S K a w hf hs _ _;obtain⟨l,h1,h0,h2⟩:=dW h;obtain⟨k1,k2⟩:=iR hps;have hr:=cM hf k1 h1;rw[List.map_map] at hr
 have hall:∀x∈l,(az x).length=sz:=λx hx=>by
  have:=List.all_eq_true.1 h0 x hx
  simp at this;exact this.1
 have hone:(flat l).all bY=true:=by
  rw[List.all_eq_true];intro y hy;rw[flat,List.mem_flatMap] at hy;obtain⟨x,hx,hy⟩:=hy;have:=List.all_eq_true.1 h0 x hx
  simp at this;exact this.2 y hy
 have hl:l.length=ps.size:=by simpa using hr.1
 obtain⟨zv,z1,z2,_⟩:=dN (K:=K) hz w
 have hcs:∀p∈ps.toList,(a.eval p.2).cells.size=sz:=λp hp=>by
  obtain⟨i,hi,rfl⟩:=List.getElem_of_mem hp;have hi':i<l.length:=by rw[hl];simpa using hi
  have:=(hr.2 i hi' (by simpa using hi)).cells.1
  simp at this
  have h3:=hall _ (List.getElem_mem hi');simp;omega
 have fin:∀zs:Array Value,∃cells',Instr.fill (λi=>some (i*sz,sz)) ((Array.range (len*sz)).map (zs[·%zs.size]!)) (ps.map fun(i,x)=>(i,a.eval x)).toList=some cells'/\cells'.toList=ps.toList.flatMap λp=>(a.eval p.2).cells.toList:=by
  intro zs;obtain⟨cells',e1,e2⟩:=oE a sz ps.toList 0 [] ((Array.range (len*sz)).map (zs[·%zs.size]!)) k2 hcs (by simp) (by simp) (by simp[hlen]);refine⟨cells',?_,by simpa using e2⟩;have e3:(ps.map fun(i,x)=>(i,a.eval x)).toList=ps.toList.map fun(i,x)=>(i,a.eval x):=by simp
  rw[e3];exact e1
 have hrun:∃cells':Array Value,(execOp a.eval o).run P w= .ok (.value (.slice (some ⟨w.heap.size,0,none⟩) len len)) {w with heap:=w.heap.push (.cells cells' e)}/\cells'.toList=ps.toList.flatMap λp=>(a.eval p.2).cells.toList:=by
  by_cases h0:len*sz=0
  ·obtain⟨cells',e1,e2⟩:=fin #[];refine⟨cells',?_,e2⟩;simp only[execOp,ho,Instr.buildSlice,Sem.run_bind,aB hu,Result.andThen_ok,aR hsz];rw[if_neg (by omega),if_pos h0];simp only[Sem.run_bind,Sem.run_pure,Result.andThen_ok];rw[e1];simp[Go.newRow]
  ·obtain⟨cells',e1,e2⟩:=fin zv.cells;refine⟨cells',?_,e2⟩;simp only[execOp,ho,Instr.buildSlice,Sem.run_bind,aB hu,Result.andThen_ok,aR hsz];rw[if_neg (by omega),if_neg h0];simp only[Sem.run_bind,Sem.run_pure,Result.andThen_ok,z1];rw[e1];simp[Go.newRow]
 obtain⟨cells',hrun,e2⟩:=hrun
 have hfr:RelL K (flat l) cells'.toList:=by
  have:=oG hr
  rw[e2];rw[List.flatMap_map] at this;exact this
 have hcl:(flat l).length=cells'.size:=by simpa using hfr.1
 obtain⟨K',q1,q2,_,q5,q4⟩:=hs.newRow cells' e cells'.size (Nat.le_refl _) (λi hi=>by
  have:=hfr.ones hone i (by simpa using hi)
  simpa using this)
 refine⟨K',_,none,_,_, .inl hrun,Gh.leS_own q1 q5,?_,q4,h2⟩;rw[hlen,<-hl];refine .slice l .full _ 0 l.length sz (λi=>(cells'[i]?).getD undef) hall (λi hi=>?_) (λi hi=>?_) rfl (Nat.le_refl _)
 ·rw[Nat.zero_add,q2 i (by omega),Array.getElem?_eq_getElem (by omega)];rfl
 ·have:=hfr.2 i hi (by simp;omega)
  rw[Array.getElem?_eq_getElem (by omega)];simpa using this.mono q1
theorem jW{K:Gh}{w}(hs:Sat K σ w){m t v}(hr:Rel K (.slice m t) v){sz}(hsz:∀x∈m,(az x).length=sz):
  ∃a cap,v= .slice a m.length cap/\(m.length=0\/∃b off,a=some ⟨b,off,none⟩/\∃news:List Value,news.length=m.length*sz/\RelL K (flat m) news/\(∀u∈news,u.oneCell'=true)/\
   ∀j u,news[j]?=some u->w.cell? ((⟨b,off,none⟩:Addr).add j)=some u):=by
 rcases rel_slice hr with ⟨a',cap',he,rfl,_⟩|⟨b,off,cap',sz',u,he,q1,q2,q3,q4,q5⟩
 ·exact⟨a',cap',he, .inl rfl⟩
 ·refine⟨_,cap',he,?_⟩;by_cases h0:m.length=0
  ·exact .inl h0
  ·right
   refine⟨b,off,rfl,(List.range (flat m).length).map u,by simp[aV hsz],⟨by simp,λi h1 h2=>by simpa using q3 i h1⟩,λv hv=>?_,λj v hj=>?_⟩
   ·simp only[List.mem_map,List.mem_range] at hv;obtain⟨i,hi,rfl⟩:=hv;exact hs.one _ _ _ (q2 i hi)
   ·simp only[List.getElem?_map,Option.map_eq_some_iff] at hj;obtain⟨i,hi,rfl⟩:=hj
    have hj':j<(flat m).length:=by
     rcases Nat.lt_or_ge j (flat m).length with h'|h'
     ·exact h'
     ·rw[List.getElem?_eq_none (by simpa using h')] at hi;simp at hi
    rw[List.getElem?_eq_getElem (by simpa using hj')] at hi;simp at hi;subst hi
    rw[ce];exact hs.claim _ _ _ (q2 j hj')
theorem Sat.grownRow{K:Gh}{w}(hs:Sat K σ w)(cells:Array Value)(el:TypeId){l:List AV}{sz cap:Nat}(hcap:cells.size=cap*sz)(hn:l.length<=cap)(hall:∀x∈l,(az x).length=sz)
  (hrel:∀i,(h:i<(flat l).length)->(h':i<cells.size)->Rel K (flat l)[i] cells[i])(hone:∀i,i<(flat l).length->(h':i<cells.size)->cells[i].oneCell'=true):
  ∃K',K.le K'/\K'.own=K.own/\(∀i,i<(flat l).length->K'.claim w.heap.size i=cells[i]?)/\(∀i,l.length*sz<=i->K'.claim w.heap.size i=none)/\Sat K' σ (w.drew.alloc (.cells cells el))/\
   K.base.heap.size<=w.heap.size/\(w.drew.alloc (.cells cells el)).heap[w.heap.size]?=some (.cells cells el (0,0))/\K'.base=K.base:=by
 have hfl:=aV hall;have hle:l.length*sz<=cells.size:=by rw[hcap];exact Nat.mul_le_mul_right sz hn
 have hs':Sat K σ w.drew:=hs.same rfl rfl rfl rfl;obtain⟨K',h1,h2,h3,h4,h5⟩:=hs'.newRow cells el (l.length*sz) hle (λi hi=>hone i (by omega) (by omega));exact⟨K',h1,h4,λi hi=>h2 i (by omega),h3,h5,hs.size,heap_alloc_new w.drew _,h1.base⟩
theorem iS{K':Gh}{l:List AV}{sz cap b:Nat}{cells:Array Value}(hn:l.length<=cap)(hall:∀x∈l,(az x).length=sz)
  (hc:∀i,i<(flat l).length->K'.claim b i=cells[i]?)(hrel:∀i,(h:i<(flat l).length)->(h':i<cells.size)->Rel K' (flat l)[i] cells[i])(hsz:(flat l).length<=cells.size)
  {o:Nat}(ho:K'.own o=some (.buf b cap sz l.length)):Rel K' (.slice l (.own o)) (.slice (some ⟨b,0,none⟩) l.length cap):=by
 refine .slice l (.own o) b 0 cap sz (λi=>(cells[i]?).getD undef) hall (λi hi=>?_) (λi hi=>?_) (.inl ⟨b,cap,l.length,ho,Nat.le_refl _,λ_=>⟨rfl,rfl,rfl⟩⟩) hn
 ·rw[Nat.zero_add,hc i hi,Array.getElem?_eq_getElem (by omega)];rfl
 ·have:=hrel i hi (by omega)
  rw[Array.getElem?_eq_getElem (by omega)];exact this
theorem Sat.grownNew{K:Gh}{w}(hs:Sat K σ w)(cells:Array Value)(el:TypeId){l:List AV}{sz cap:Nat}(hcap:cells.size=cap*sz)(hn:l.length<=cap)(hall:∀x∈l,(az x).length=sz)
  (hrel:∀i,(h:i<(flat l).length)->(h':i<cells.size)->Rel K (flat l)[i] cells[i])(hone:∀i,i<(flat l).length->(h':i<cells.size)->cells[i].oneCell'=true)
  {o:Nat}(ho:K.own o=none){S:Nat->Prop}(hS:¬S o):∃K',K.leS S K'/\Rel K' (.slice l (.own o)) (.slice (some ⟨w.heap.size,0,none⟩) l.length cap)/\Sat K' (aH σ o (.grow sz l.length)) (w.drew.alloc (.cells cells el)):=by
 obtain⟨K1,h1,h2,h3,h4,h5,h6,h7,h8⟩:=hs.grownRow cells el hcap hn hall hrel hone;have hfl:=aV hall;have hle:l.length*sz<=cells.size:=by rw[hcap];exact Nat.mul_le_mul_right sz hn
 obtain⟨k1,k2⟩:=h5.name (o:=o) (by rw[h2];exact ho) (.buf w.heap.size cap sz l.length) (.grow sz l.length) ⟨rfl,rfl,hn,by rw[h8];exact h6,⟨cells,el,h7,hcap⟩,h4⟩ (λo' x' e' q1 q2 hr _=>by
  rw[h2] at q2;obtain⟨e'',q3,q4⟩:=hs.live o' x' q1;have:e''=e':=by simp_all
  subst this;exact Nat.ne_of_lt (q4.blk_lt hr))
 refine⟨_,⟨h1.trans k1,λo' hs' hn=>?_⟩,?_,k2⟩
 ·have:o'≠o:=λe=>hS (e▸hs')
  simp[Gh.named,this,h2,hn]
 exact iS (K':=K1.named o (.buf w.heap.size cap sz l.length)) hn hall h3 (λi a b=>(hrel i a b).mono (h1.trans k1)) (by omega) (by simp[Gh.named])
theorem Sat.grownOld{K:Gh}{w}(hs:Sat K σ w)(cells:Array Value)(el:TypeId){l:List AV}{sz cap:Nat}(hcap:cells.size=cap*sz)(hn:l.length<=cap)(hall:∀x∈l,(az x).length=sz)
  (hrel:∀i,(h:i<(flat l).length)->(h':i<cells.size)->Rel K (flat l)[i] cells[i])(hone:∀i,i<(flat l).length->(h':i<cells.size)->cells[i].oneCell'=true)
  {o n0:Nat}(ho:σ o=some (.grow sz n0))(hlt:n0<l.length)(S:Nat->Prop):
  ∃K',K.leS S K'/\Rel K' (.slice l (.own o)) (.slice (some ⟨w.heap.size,0,none⟩) l.length cap)/\Sat K' (aH σ o (.grow sz l.length)) (w.drew.alloc (.cells cells el)):=by
 obtain⟨K1,h1,h2,h3,h4,h5,h6,h7,h8⟩:=hs.grownRow cells el hcap hn hall hrel hone;have hfl:=aV hall;have hle:l.length*sz<=cells.size:=by rw[hcap];exact Nat.mul_le_mul_right sz hn
 obtain⟨e0,q1,q2⟩:=h5.live o _ ho
 have hle0:e0.le (.buf w.heap.size cap sz l.length):=by
  cases e0<;>simp only[ObjSat] at q2
  ·obtain⟨rfl,rfl,q3⟩:=q2;exact⟨rfl,by omega,λe=>by omega⟩
  ·obtain⟨rfl,rfl⟩:=q2;exact⟨rfl,hlt⟩
  ·obtain⟨rfl,rfl⟩:=q2;exact⟨rfl,hlt⟩
 let K2:Gh:={K1 with own:=λi=>if i=o then some (.buf w.heap.size cap sz l.length) else K1.own i}
 have hle2:K1.le K2:=Gh.le_renamed (e':= .buf w.heap.size cap sz l.length) rfl (λ_ _ _ e=>e) q1 (by simp[K2]) hle0 (λo' h=>by simp[K2,h])
 have hs2:Sat K2 (aH σ o (.grow sz l.length)) (w.drew.alloc (.cells cells el)):=by
  refine h5.move (e':= .buf w.heap.size cap sz l.length) hle2 rfl ho q1 (λo' h=>by simp[K2,h]) (by simp[K2]) ⟨rfl,rfl,hn,by show K1.base.heap.size<=_;rw[h8];exact h6,⟨cells,el,h7,hcap⟩,h4⟩ (λo' y e'' r1 r2 hr _=>?_);rw[h2] at r2;obtain⟨e3,r3,r4⟩:=hs.live o' y r1;have:e3=e'':=by simp_all
  subst this;exact Nat.ne_of_lt (r4.blk_lt hr)
 refine⟨K2,⟨h1.trans hle2,λo' _ hn=>?_⟩,iS (K':=K2) hn hall h3 (λi a b=>(hrel i a b).mono (h1.trans hle2)) (by omega) (by simp[K2]),hs2⟩;have:o'≠o:=λe=>by subst e;rw[<-h2,q1] at hn;simp at hn
 simp[K2,this,h2,hn]
theorem gY(t ty:TypeId){e i}(ht:P.underlying t=some (.slice e))(hi:P.info? e=some i)(a0:Option Addr)(sl sc:Nat)(hsc:sl<=sc)(a1:Option Addr)(c1:Nat)(w:World):
  (Builtin.append_ #[t,t] ty #[.slice a0 sl sc, .slice a1 0 c1]).run P w= .ok (.slice a0 sl sc) w:=by
 have hf:(Builtin.firstCells i.size 0 (.slice a1 0 c1)).run P w= .ok #[] w:=by
  cases a1 with
  |none=>rfl
  |some b=>simp only[Builtin.firstCells,Nat.zero_mul];rfl
 cases a0 with
 |none=>simp[Builtin.append_,aB ht,Go.sizeOf,typeInfo,hi,Builtin.lenOf,hsc,hf]
 |some a=>simp[Builtin.append_,aB ht,Go.sizeOf,typeInfo,hi,Builtin.lenOf,hsc,hf,storeCells]
theorem cO(w:World)(need old:Nat)(e:TypeId):need<=grownCap w need old e:=by simp[grownCap,Question.cut]
theorem kY{K:Gh}{e z n}(hz:cx P e=some z)(hzl:z.length=n):∃i zv,P.info? e=some i/\i.zero=some zv/\zv.cells.size=n:=by
 unfold cx at hz;split at hz
 ·rename_i v hv
  cases hi:P.info? e with
  |none=>simp[hi] at hv
  |some i=>
   simp[hi] at hv
   have:=(ofFlats_rel (K:=K) hz).1
   exact⟨i,v,rfl,hv,by simp at this;omega⟩
 ·simp at hz
theorem eF{K:Gh}{l m:List AV}{olds news:List Value}(Z:Array Value)(hl:RelL K (flat l) olds)(hm:RelL K (flat m) news)(h1:∀u∈olds,u.oneCell'=true)(h2:∀u∈news,u.oneCell'=true):
  (∀i,(h:i<(flat (l++m)).length)->(h':i<(olds.toArray++news.toArray++Z).size)->Rel K (flat (l++m))[i] (olds.toArray++news.toArray++Z)[i])/\
  ∀i,i<(flat (l++m)).length->(h':i<(olds.toArray++news.toArray++Z).size)->(olds.toArray++news.toArray++Z)[i].oneCell'=true:=by
 have hr:=hl.append hm
 have e:∀i,i<(flat (l++m)).length->(h':i<(olds.toArray++news.toArray++Z).size)->∃h2:i<(olds++news).length,(olds.toArray++news.toArray++Z)[i]=(olds++news)[i]:=by
  intro i hi h';have hi2:i<(olds++news).length:=by rw[<-hr.1,<-fP];exact hi
  refine⟨hi2,?_⟩;rw[Array.getElem_append_left (by simpa using hi2)];simp
 refine⟨λi hi h'=>?_,λi hi h'=>?_⟩
 ·obtain⟨h2,e2⟩:=e i hi h';rw[e2];have:=hr.2 i (by rw[<-fP];exact hi) h2
  simpa [fP] using this
 ·obtain⟨h3,e2⟩:=e i hi h';rw[e2];have:=List.getElem_mem h3
  rcases List.mem_append.1 this with h|h
  ·exact h1 _ h
  ·exact h2 _ h
theorem zb{t u s x e i z as_ ax}(ho:o.op= .call {callee:= .builtin .append,args:=#[s,x],argTypes:=#[t,u]})(ht:P.underlying t=some (.slice e))(htu:t=u)(hi:P.info? e=some i)
  (hz:cx P e=some z)(hby0:0<i.bytes)(hby:i.bytes<=4096)(hzl:z.length=i.size)(hs1:aE s=some as_)(hx1:aE x=some ax)(h:aJ nm env σ R (.append i.size i.bytes as_ ax)):OpOk P o N env σ nm R:=by
 subst htu;intro S K a w hf hs hnm hS;obtain⟨sv,h1,h2⟩:=aG h;obtain⟨xv,h3,h4⟩:=aG h2;have rs:=trOpnd_rel hs1 h1 hf;have rx:=trOpnd_rel hx1 h3 hf;cases sv<;>first|exact h4.elim|skip
 rename_i l tk
 cases xv<;>first|exact h4.elim|skip
 rename_i m tk2
 obtain⟨⟨hl0,hm,hb⟩,h5⟩:=h4;obtain⟨i',zv,hi',hzv,hzs⟩:=kY (K:=K) hz hzl;obtain rfl:i'=i:=by simp_all
 obtain⟨xa,xc,hxe,hxs⟩:=jW hs rx hm
 have exe:∀{v:Value} {w':World},(Builtin.append_ #[t,t] o.type #[a.eval s,a.eval x]).run P w= .ok v w'->(execOp a.eval o).run P w= .ok (.value v) w':=by
  intro v w' he;simp only[execOp,ho,resolve,invoke,Go.builtin,Sem.run_bind,Sem.run_pure,Result.andThen_ok];have e2:#[s,x].map a.eval=#[a.eval s,a.eval x]:=by simp
  simp only[e2,he,Result.andThen_ok]
 have zero:∀{a0:Option Addr} {sl sc:Nat},a.eval s= .slice a0 sl sc->sl<=sc->m=[]->(execOp a.eval o).run P w= .ok (.value (a.eval s)) w:=by
  intro a0 sl sc he hle hm0;refine exe ?_;rw[hxe,hm0,he];exact gY t o.type ht hi a0 sl sc hle xa xc w
 have scap:∃a0 cap,a.eval s= .slice a0 l.length cap/\l.length<=cap:=by
  rcases rel_slice rs with ⟨a',cap',he,rfl,_⟩|⟨b,off,cap',sz',u,he,_,_,_,_,q5⟩
  ·exact⟨a',cap',he,Nat.zero_le _⟩
  ·exact⟨_,cap',he,q5⟩
 obtain⟨a0,cap0,hse,hcap0⟩:=scap;have hbm:(l.length+m.length)*i'.bytes<=140737488355328:=by omega
 have hall:∀{sz:Nat},sz=i'.size->(∀x∈l,(az x).length=sz)->∀x∈l++m,(az x).length=sz:=by
  intro sz hsz h1 x hx;rcases List.mem_append.1 hx with h|h
  ·exact h1 x h
  ·rw[hsz];exact hm x h
 have zsz:∀k,(Builtin.zeroCells zv.cells k).size=k*i'.size:=λk=>by rw[size_zeroCells,hzs]
 cases tk with
 |no=>exact h5.elim
 |nil=>
  obtain⟨n1,n2⟩:=h5;rcases rel_slice rs with ⟨a',cap',he,rfl,ht'⟩|⟨b,off,cap',sz',u,he,_,_,_,ht',_⟩
  case inr=>exact ht'.elim
  by_cases hm0:m=[]
  ·exact⟨K,_,none,_,_, .inl (zero hse hcap0 hm0),Gh.leS.refl K,rs,hs,n1 hm0⟩
  simp at ht'
  obtain⟨rfl,rfl⟩:=ht';have hml:0<m.length:=List.length_pos_iff.2 hm0;rcases hxs with hxs|⟨b,off,rfl,news,m1,m2,m3,m4⟩
  ·omega
  have hge:=cO w m.length 0 e
  have hrun:=run_append_nil (P:=P) w t o.type e i' zv ht hi hzv ⟨b,off,none⟩ m.length xc news m1 m4 hml (by
   have:=Nat.mul_le_mul_left m.length hby0;simp at hbm;omega) (by simp at hbm;omega)
  obtain⟨g1,g2⟩:=eF (K:=K) (l:=[]) (m:=m) (olds:=[]) (news:=news) (Builtin.zeroCells zv.cells (grownCap w m.length 0 e-m.length)) .nil m2 (by simp) m3;simp only[List.nil_append] at g1 g2
  obtain⟨K',k2,k3,k4⟩:=hs.grownNew (#[]++news.toArray++Builtin.zeroCells zv.cells (grownCap w m.length 0 e-m.length)) e (l:=m) (sz:=i'.size) (cap:=grownCap w m.length 0 e)
   (by simp only[Array.size_append,zsz,List.size_toArray,m1];simp[<-Nat.add_mul];congr 1;omega) hge hm g1 g2 hnm hS
  refine⟨K',_,some (nm,_),_,_, .inl (exe ?_),k2,k3,k4,by simpa using n2 hm0⟩;rw[he,hxe,hrun];simp
 |full=>
  obtain⟨n1,n2⟩:=h5;have p1:=hl0;by_cases hm0:m=[]
  ·exact⟨K,_,none,_,_, .inl (zero hse hcap0 hm0),Gh.leS.refl K,rs,hs,n1 hm0⟩
  have hml:0<m.length:=List.length_pos_iff.2 hm0;rcases hxs with hxs|⟨b,off,rfl,news,m1,m2,m3,m4⟩
  ·omega
  have h63:((l.length+m.length:Nat):Int)<=9223372036854775807:=by
   have:=Nat.mul_le_mul_left (l.length+m.length) hby0;simp at this;omega
  obtain⟨os,olds,o1,o2,o3,o4⟩:∃os:Option Addr,∃olds:List Value,a.eval s= .slice os l.length l.length/\RelL K (flat l) olds/\(∀u∈olds,u.oneCell'=true)/\
    (os=none->l=[])/\∀ba,os=some ba->∀j u,olds[j]?=some u->w.cell? (ba.add j)=some u:=by
   rcases rel_slice rs with ⟨a',cap',he,rfl,ht'⟩|⟨b',off',cap',sz',u,he,q1,q2,q3,ht',q5⟩
   ·simp at ht';subst ht'
    exact⟨a',[],he, .nil,by simp,λ_=>rfl,λba _ j u hj=>by simp at hj⟩
   ·have:cap'=l.length:=ht'
    subst this;refine⟨_,(List.range (flat l).length).map u,he,⟨by simp,λi h1 h2=>by simpa using q3 i h1⟩,λv hv=>?_,λh=>by simp at h,λba hba j v hj=>?_⟩
    ·simp only[List.mem_map,List.mem_range] at hv;obtain⟨i,hi,rfl⟩:=hv;exact hs.one _ _ _ (q2 i hi)
    ·simp at hba;subst hba
     have hj':j<(flat l).length:=by
      rcases Nat.lt_or_ge j (flat l).length with h'|h'
      ·exact h'
      ·rw[List.getElem?_eq_none (by simpa using h')] at hj;simp at hj
     rw[List.getElem?_eq_getElem (by simpa using hj')] at hj;simp at hj;subst hj
     rw[ce];exact hs.claim _ _ _ (q2 j hj')
  have hl':=hall rfl p1;have hfl:=aV p1;have hge:=cO w (l.length+m.length) l.length e;obtain⟨g1,g2⟩:=eF (K:=K) (l:=l) (m:=m) (olds:=olds) (news:=news) (Builtin.zeroCells zv.cells (grownCap w (l.length+m.length) l.length e-(l.length+m.length))) o2 m2 o3 m3
  obtain⟨K',k2,k3,k4⟩:=hs.grownNew _ e (l:=l++m) (sz:=i'.size) (cap:=grownCap w (l.length+m.length) l.length e)
   (by
    have:=o2.1
    simp only[Array.size_append,zsz,List.size_toArray,m1,<-this,hfl];simp[<-Nat.add_mul];congr 1;omega) (by simpa using hge) hl' g1 g2 hnm hS
  refine⟨K',_,some (nm,_),_,_, .inl (exe ?_),k2,k3,k4,n2 hm0⟩;rw[o1,hxe];cases os with
  |none=>
   have:l=[]:=o4.1 rfl
   subst this;have:olds=[]:=by have:=o2.1;simp[flat] at this;exact List.eq_nil_of_length_eq_zero this.symm
   subst this;have hrun:=run_append_nil (P:=P) w t o.type e i' zv ht hi hzv ⟨b,off,none⟩ m.length xc news m1 m4 hml (by simpa using h63) (by simp at hbm;omega);simpa using hrun
  |some ba=>
   have hrun:=run_append_grow (P:=P) w t o.type e i' zv ht hi hzv ba l.length l.length olds (by rw[<-o2.1,hfl]) (o4.2 ba rfl) ⟨b,off,none⟩ m.length xc news m1 m4 (by omega) h63 (growslice_fits (by omega) hbm);simpa using hrun
 |own ob=>
  obtain⟨p2,p3⟩:=h5;have p1:=hl0;obtain⟨e0,q1,q2⟩:=hs.live ob _ p2;cases e0<;>simp only[ObjSat] at q2
  case virt szv=>
   obtain⟨rfl,hl00⟩:=q2;obtain rfl:l=[]:=List.length_eq_zero_iff.1 hl00
   by_cases hm0:m=[]
   ·refine⟨K, .slice [] (.own ob),some (ob, .grow i'.size 0),_,_, .inl (zero hse hcap0 hm0),Gh.leS.refl K,rs,?_,?_⟩
    ·have e1:aH σ ob (.grow i'.size 0)=σ:=by
      funext i
      simp only[aH];split
      ·rename_i hi;subst hi;exact p2.symm
      ·rfl
     show Sat K (aH σ ob (.grow i'.size 0)) w
     rw[e1];exact hs
    ·subst hm0;simpa using p3
   have hml:0<m.length:=List.length_pos_iff.2 hm0
   have hnil:a.eval s= .slice none 0 0:=by
    rcases rel_slice rs with ⟨a',cap',he,_,ht'⟩|⟨b',off',cap',sz',u,he,k1,k2,k3,ht',k5⟩
    ·simp at ht'
     obtain⟨rfl,rfl,_⟩:=ht';exact he
    ·rcases ht' with ⟨b2,cap2,n2,t1,t2,t3⟩|⟨n2,t1,t2,t3⟩<;>(rw[q1] at t1;simp at t1)
   rcases hxs with hxs|⟨b,off,rfl,news,m1,m2,m3,m4⟩
   ·omega
   have hge:=cO w m.length 0 e
   have hrun:=run_append_nil (P:=P) w t o.type e i' zv ht hi hzv ⟨b,off,none⟩ m.length xc news m1 m4 hml (by
    have:=Nat.mul_le_mul_left m.length hby0;simp at hbm;omega) (by simp at hbm;omega)
   obtain⟨g1,g2⟩:=eF (K:=K) (l:=[]) (m:=m) (olds:=[]) (news:=news) (Builtin.zeroCells zv.cells (grownCap w m.length 0 e-m.length)) .nil m2 (by simp) m3;simp only[List.nil_append] at g1 g2
   obtain⟨K',k2,k3,k4⟩:=hs.grownOld (#[]++news.toArray++Builtin.zeroCells zv.cells (grownCap w m.length 0 e-m.length)) e (l:=m) (sz:=i'.size) (cap:=grownCap w m.length 0 e)
    (by simp only[Array.size_append,zsz,List.size_toArray,m1];simp[<-Nat.add_mul];congr 1;omega) hge hm g1 g2 p2 (by simpa using hml) S
   refine⟨K',_,some (ob,_),_,_, .inl (exe ?_),k2,k3,k4,by simpa using p3⟩;rw[hnil,hxe,hrun];simp
  case full szv nv=>
   obtain⟨rfl,rfl⟩:=q2;by_cases hm0:m=[]
   ·refine⟨K, .slice l (.own ob),some (ob, .grow i'.size l.length),_,_, .inl (zero hse hcap0 hm0),Gh.leS.refl K,rs,?_,?_⟩
    ·have e1:aH σ ob (.grow i'.size l.length)=σ:=by
      funext j;simp only[aH];split
      ·rename_i hj;rw[hj,p2]
      ·rfl
     show Sat K (aH σ ob (.grow i'.size l.length)) w
     rw[e1];exact hs
    ·subst hm0;simpa only[List.append_nil] using p3
   have hml:0<m.length:=List.length_pos_iff.2 hm0;rcases hxs with hxs|⟨b,off,rfl,news,m1,m2,m3,m4⟩
   ·omega
   have h63:((l.length+m.length:Nat):Int)<=9223372036854775807:=by
    have:=Nat.mul_le_mul_left (l.length+m.length) hby0;simp at this;omega
   obtain⟨ba,olds,o1,o2,o3,o4⟩:∃ba:Addr,∃olds:List Value,a.eval s= .slice (some ba) l.length l.length/\RelL K (flat l) olds/\(∀u∈olds,u.oneCell'=true)/\
     ∀j u,olds[j]?=some u->w.cell? (ba.add j)=some u:=by
    rcases rel_slice rs with ⟨a',cap',he,rfl,ht'⟩|⟨b',off',cap',sz',u,he,k1,k2,k3,ht',k5⟩
    ·simp at ht'
     obtain⟨_,_,szn,hh|⟨bn,cn,nn,hh,hnn⟩⟩:=ht'<;>(rw[q1] at hh;simp at hh)
    ·rcases ht' with ⟨b2,cap2,n2,t1,t2,t3⟩|⟨n2,t1,t2,t3⟩
     ·rw[q1] at t1;simp at t1
     rw[q1] at t1;simp only[Option.some.injEq,Own.full.injEq] at t1;obtain⟨_,rfl⟩:=t1;have:=t3 rfl
     subst this;refine⟨_,(List.range (flat l).length).map u,he,⟨by simp,λi h1 h2=>by simpa using k3 i h1⟩,λv hv=>?_,λj v hj=>?_⟩
     ·simp only[List.mem_map,List.mem_range] at hv;obtain⟨i,hi,rfl⟩:=hv;exact hs.one _ _ _ (k2 i hi)
     ·have hj':j<(flat l).length:=by
       rcases Nat.lt_or_ge j (flat l).length with h'|h'
       ·exact h'
       ·rw[List.getElem?_eq_none (by simpa using h')] at hj;simp at hj
      rw[List.getElem?_eq_getElem (by simpa using hj')] at hj;simp at hj;subst hj
      rw[ce];exact hs.claim _ _ _ (k2 j hj')
   have hl':=hall rfl p1;have hfl:=aV p1;have hge:=cO w (l.length+m.length) l.length e;obtain⟨g1,g2⟩:=eF (K:=K) (l:=l) (m:=m) (olds:=olds) (news:=news) (Builtin.zeroCells zv.cells (grownCap w (l.length+m.length) l.length e-(l.length+m.length))) o2 m2 o3 m3
   obtain⟨K',k2,k3,k4⟩:=hs.grownOld _ e (l:=l++m) (sz:=i'.size) (cap:=grownCap w (l.length+m.length) l.length e)
    (by
     have:=o2.1
     simp only[Array.size_append,zsz,List.size_toArray,m1,<-this,hfl];simp[<-Nat.add_mul];congr 1;omega) (by simpa using hge) hl' g1 g2 p2 (by simp;omega) S
   refine⟨K',_,some (ob,_),_,_, .inl (exe ?_),k2,k3,k4,p3⟩;rw[o1,hxe];have hrun:=run_append_grow (P:=P) w t o.type e i' zv ht hi hzv ba l.length l.length olds (by rw[<-o2.1,hfl]) o4 ⟨b,off,none⟩ m.length xc news m1 m4 (by omega) h63 (growslice_fits (by omega) hbm);simpa using hrun
  rename_i bb cap sz0 n0
  obtain⟨rfl,rfl,q3,q4,⟨cur,el,q5,q6⟩,q7⟩:=q2
  obtain⟨u,r1,r2,r3,r4⟩:∃u:Nat->Value,a.eval s= .slice (some ⟨bb,0,none⟩) l.length cap/\(∀i,i<(flat l).length->K.claim bb i=some (u i))/\(∀i,(h:i<(flat l).length)->Rel K (flat l)[i] (u i))/\True:=by
   rcases rel_slice rs with ⟨a',cap',he,rfl,ht'⟩|⟨b',off',cap',sz',u,he,k1,k2,k3,ht',k5⟩
   ·simp at ht'
    obtain⟨_,_,szn,hh|⟨bn,cn,nn,hh,hnn⟩⟩:=ht'
    ·rw[q1] at hh;simp at hh
    ·rw[q1] at hh;simp at hh
     omega
   ·rcases ht' with ⟨b2,cap2,n2,t1,t2,t3⟩|⟨n2,t1,t2,t3⟩
    case inr=>rw[q1] at t1;simp at t1
    rw[q1] at t1;simp only[Option.some.injEq,Own.buf.injEq] at t1;obtain⟨rfl,rfl,_,rfl⟩:=t1;obtain⟨rfl,rfl,rfl⟩:=t3 rfl;exact⟨u,he,λi hi=>by have:=k2 i hi;rwa [Nat.zero_add] at this,k3,trivial⟩
  have hfl:=aV p1;by_cases hm0:m=[]
  ·refine⟨K, .slice l (.own ob),some (ob, .grow i'.size l.length),_,_, .inl (zero hse hcap0 hm0),Gh.leS.refl K,rs,?_,?_⟩
   ·have e1:aH σ ob (.grow i'.size l.length)=σ:=by
     funext j;simp only[aH];split
     ·rename_i hj;rw[hj,p2]
     ·rfl
    show Sat K (aH σ ob (.grow i'.size l.length)) w
    rw[e1];exact hs
   ·subst hm0;simpa only[List.append_nil] using p3
  have hml:0<m.length:=List.length_pos_iff.2 hm0;rcases hxs with hxs|⟨b,off,rfl,news,m1,m2,m3,m4⟩
  ·omega
  have h63:((l.length+m.length:Nat):Int)<=9223372036854775807:=by
   have:=Nat.mul_le_mul_left (l.length+m.length) hby0;simp at this;omega
  have hl':=hall rfl p1;have hmf:=aV hm;let olds:List Value:=(List.range (flat l).length).map u
  have o2:RelL K (flat l) olds:=⟨by simp[olds],λi h1 h2=>by simpa [olds] using r3 i h1⟩
  have o3:∀v∈olds,v.oneCell'=true:=λv hv=>by
   simp only[olds,List.mem_map,List.mem_range] at hv;obtain⟨i,hi,rfl⟩:=hv;exact hs.one _ _ _ (r2 i hi)
  have o4:∀j v,olds[j]?=some v->w.cell? ((⟨bb,0,none⟩:Addr).add j)=some v:=λj v hj=>by
   have hj':j<(flat l).length:=by
    rcases Nat.lt_or_ge j (flat l).length with h'|h'
    ·exact h'
    ·rw[List.getElem?_eq_none (by simpa [olds] using h')] at hj;simp at hj
   rw[List.getElem?_eq_getElem (by simpa [olds] using hj')] at hj;simp[olds] at hj;subst hj
   rw[ce,Nat.zero_add];exact hs.claim _ _ _ (r2 j hj')
  have hcur:cur.toList.take (l.length*i'.size)=olds:=by
   apply List.ext_getElem?
   intro i;rw[List.getElem?_take];by_cases hi:i<l.length*i'.size
   ·rw[if_pos hi];have hi':i<(flat l).length:=by omega
    have h1:=hs.claim _ _ _ (r2 i hi');simp only[World.cell?,q5] at h1;simp at h1
    rw[Array.getElem?_toList,h1];simp[olds,hi']
   ·rw[if_neg hi,List.getElem?_eq_none (by simp[olds];omega)]
  have holds:olds.length=l.length*i'.size:=by rw[<-o2.1,hfl]
  by_cases hroom:l.length+m.length<=cap
  ·have hfit:l.length*i'.size+news.length<=cur.size:=by
    rw[q6,m1,<-Nat.add_mul];exact Nat.mul_le_mul_right _ hroom
   let cells':Array Value:=olds.toArray++news.toArray++(cur.toList.drop (l.length*i'.size+news.length)).toArray
   have hf:=run_firstCells_some (P:=P) w i'.size m.length ⟨b,off,none⟩ m.length xc news m1 m4;have hst:=run_storeCells_at P bb (l.length*i'.size) el news 0 cur w q5 (by simpa using hfit) m3;simp only[Nat.add_zero,hcur] at hst
   have hst':(storeCells ⟨bb,l.length*i'.size,none⟩ news).run P w= .ok () (w.setRow bb cells'):=by
    rw[hst];simp[cells']
   have hrun:(Builtin.append_ #[t,t] o.type #[.slice (some ⟨bb,0,none⟩) l.length cap, .slice (some ⟨b,off,none⟩) m.length xc]).run P w=
     .ok (.slice (some ⟨bb,0,none⟩) (l.length+m.length) cap) (w.setRow bb cells'):=by
    simp[Builtin.append_,aB ht,Go.sizeOf,typeInfo,hi,Builtin.lenOf,hroom,hf,ce,hst']
   obtain⟨g1,g2⟩:=eF (K:=K) (l:=l) (m:=m) (olds:=olds) (news:=news) (cur.toList.drop (l.length*i'.size+news.length)).toArray o2 m2 o3 m3;let cl:Nat->Option Value:=λi=>if i<(flat (l++m)).length then cells'[i]? else none
   let K2:Gh:={base:=K.base,ds:=K.ds,claim:=λb' i=>if b'=bb then cl i else K.claim b' i,own:=λi=>if i=ob then some (.buf bb cap i'.size (l++m).length) else K.own i}
   have hflm:(flat (l++m)).length=(l.length+m.length)*i'.size:=by rw[aV hl',List.length_append]
   have hcs:cells'.size=cur.size:=by
    simp[cells',holds];omega
   have hbnd:(flat (l++m)).length<=cells'.size:=by
    rw[hcs,q6,hflm];exact Nat.mul_le_mul_right _ hroom
   have hclaim0:∀i v,K.claim bb i=some v->cl i=some v:=λi v hv=>by
    have hi:i<l.length*i'.size:=by
     rcases Nat.lt_or_ge i (l.length*i'.size) with h'|h'
     ·exact h'
     ·rw[q7 i h'] at hv;simp at hv
    have hi2:i<(flat l).length:=by omega
    have e1:=r2 i hi2;rw[hv] at e1;have hi3:i<(flat (l++m)).length:=by rw[hflm,Nat.add_mul];omega
    simp only[cl,if_pos hi3];simp only[cells'];rw[Array.append_assoc,Array.getElem?_append_left (by simpa [holds] using hi)];simp[olds,hi2]
    exact(Option.some.inj e1).symm
   have hle:K.le K2:=Gh.le_renamed (o:=ob) (e':= .buf bb cap i'.size (l++m).length) rfl (λb' i v hv=>by
     show(if b'=bb then cl i else K.claim b' i)=some v
     split
     ·rename_i hb;subst hb;exact hclaim0 i v hv
     ·exact hv) q1 (by simp[K2]) ⟨rfl,by simp,λ_=>⟨rfl,rfl⟩⟩ (λo' h=>by simp[K2,h])
   have hheap:=setRow_heap w bb cur cells' el (0,0) q5;refine⟨K2,_,some (ob,_),_,_, .inl (exe (by rw[r1,hxe];exact hrun)),⟨hle,λo' _ hn=>?_⟩,?_,?_,p3⟩
   ·have:o'≠ob:=λe=>by subst e;rw[q1] at hn;simp at hn
    simp[K2,this,hn]
   ·rw[<-List.length_append];refine iS (K':=K2) (cells:=cells') (by simpa using hroom) hl' (λi hi=>?_) (λi h1 h2=>(g1 i h1 h2).mono hle) hbnd (by simp[K2]);show(if bb=bb then cl i else K.claim bb i)=_
    rw[if_pos rfl];simp only[cl,if_pos hi]
   ·refine hs.write (e:= .buf bb cap i'.size l.length) (e':= .buf bb cap i'.size (l++m).length) hle p2 q1 rfl (λo' h=>by simp[K2,h]) (by simp[K2]) rfl rfl rfl rfl (by simp) (λb' hb'=>setRow_other w _ b' cells' hb')
     (λi=>cy hheap rfl) (λi v hv=>?_) (λb' i hb'=>by
      have hb2:¬b'=bb:=hb';show(if b'=bb then cl i else K.claim b' i)=_
      rw[if_neg hb2]) ⟨rfl,rfl,by simpa using hroom,q4,⟨cells',el,hheap,by rw[hcs,q6]⟩,λi hi=>?_⟩
    ·have hv':cl i=some v:=by
      have:(if bb=bb then cl i else K.claim bb i)=some v:=hv
      rwa [if_pos rfl] at this
     simp only[cl] at hv';split at hv'
     ·rename_i hi
      refine⟨by
       show(w.setRow bb cells').cell? ⟨bb,i,none⟩=some v
       rw[cell_of_row _ _ _ _ _ _ hheap];exact hv',?_⟩
      have h2:i<cells'.size:=by omega
      have:=g2 i hi h2
      rw[Array.getElem?_eq_getElem h2] at hv';simp only[Option.some.injEq] at hv';rw[<-hv'];exact this
     ·simp at hv'
    ·show(if bb=bb then cl i else K.claim bb i)=none
     rw[if_pos rfl];simp only[cl];rw[if_neg (by rw[aV hl'];omega)]
  ·have hge:=cO w (l.length+m.length) cap e;obtain⟨g1,g2⟩:=eF (K:=K) (l:=l) (m:=m) (olds:=olds) (news:=news) (Builtin.zeroCells zv.cells (grownCap w (l.length+m.length) cap e-(l.length+m.length))) o2 m2 o3 m3
   obtain⟨K',k2,k3,k4⟩:=hs.grownOld _ e (l:=l++m) (sz:=i'.size) (cap:=grownCap w (l.length+m.length) cap e)
    (by
     have:=o2.1
     simp only[Array.size_append,zsz,List.size_toArray,m1,<-this,hfl];simp[<-Nat.add_mul];congr 1;omega) (by simpa using hge) hl' g1 g2 p2 (by simp;omega) S
   refine⟨K',_,some (ob,_),_,_, .inl (exe ?_),k2,k3,k4,p3⟩;rw[r1,hxe];have hrun:=run_append_grow (P:=P) w t o.type e i' zv ht hi hzv ⟨bb,0,none⟩ l.length cap olds (by rw[<-o2.1,hfl]) o4 ⟨b,off,none⟩ m.length xc news m1 m4 (by omega) h63 (growslice_fits (by omega) hbm);simpa using hrun
theorem oH(n:Nat)(e:AV):flat (List.replicate n e)=(List.replicate n (az e)).flatten:=by simp[flat,List.flatMap_def]
theorem dE(z:List AV)(hz:0<z.length):∀(n i:Nat),i<n*z.length->(List.replicate n z).flatten[i]?=z[i%z.length]?
 |0,i,h=>by simp at h
 |n+1,i,h=>by
  rw[List.replicate_succ,List.flatten_cons];by_cases hi:i<z.length
  ·rw[List.getElem?_append_left hi,Nat.mod_eq_of_lt hi]
  ·rw[List.getElem?_append_right (by omega),dE z hz n (i-z.length) (by rw[Nat.succ_mul] at h;omega),<-Nat.mod_eq_sub_mod (by omega)]
theorem vL{t l c e i g n z al ac}(ho:o.op= .makeSlice t l c)(ht:P.underlying t=some (.slice e))(hi:P.info? e=some i)(hr:et P e=some (g,n))(hz:cx P e=some z)(hzn:z.length=n)(hn0:0<n)(hby0:0<i.bytes)
  (hl:aE l=some al)(hc:aE c=some ac)(h:aJ nm env σ R (.mkslice n i.bytes z g al ac)):OpOk P o N env σ nm R:=by
 intro S K a w hf hs hnm hS;obtain⟨lv,h1,h2⟩:=aG h;obtain⟨cv,h3,h4⟩:=aG h2;obtain⟨ev,h5,h7⟩:=aG h4;have rl:=trOpnd_rel hl h1 hf;have rc:=trOpnd_rel hc h3 hf;split at h7
 case h_2=>exact h7.elim
 rename_i ln cn
 obtain⟨⟨h6,p4,p1,p2,p3⟩,p5⟩:=h7;have hevl:(az ev).length=n:=by rw[h6,hzn]
 have el:=aN rl;have ec:=aN rc;obtain⟨i',zv,hi',hzv,hzs⟩:=kY (K:=K) hz hzn;obtain rfl:i'=i:=by simp_all
 obtain⟨_,hszn,_⟩:=fO hr;have hisz:i'.size=n:=by simp[dl,hi] at hszn;exact hszn
 have hzr:RelL K z zv.cells.toList:=by
  unfold cx at hz;simp[hi,hzv] at hz
  exact ofFlats_rel hz
 obtain⟨N1,hN⟩:∃q:Nat,ln=(q:Int):=⟨ln.toNat,by omega⟩;obtain⟨C1,hC⟩:∃q:Nat,cn=(q:Int):=⟨cn.toNat,by omega⟩;subst hN;subst hC
 have hCb:C1*i'.bytes<=35184372088832:=by
  have:((C1*i'.bytes:Nat):Int)<=35184372088832:=by rw[Int.natCast_mul];exact p3
  omega
 have hC1:C1<=35184372088832:=by have:=Nat.mul_le_mul_left C1 hby0;simp at this;omega
 have hrun:=run_make (P:=P) w t e i' zv ht hi hzv .i64 .i64 (N1:Int) (C1:Int) p1 p2 (by rw[Int.mul_comm];omega) (by omega);simp only[Int.toNat_natCast] at hrun p5;have hall:∀x∈List.replicate N1 ev,(az x).length=n:=λx hx=>by rw[(List.mem_replicate.1 hx).2];exact hevl
 have hfl:=aV hall;simp only[List.length_replicate] at hfl;have hmade:(madeCells zv.cells (C1*i'.size)).size=C1*n:=by rw[size_madeCells,hisz]
 have hget:∀i,i<(flat (List.replicate N1 ev)).length->(h':i<(madeCells zv.cells (C1*i'.size)).size)->∃h1:i%z.length<z.length,∃h2:i%z.length<zv.cells.size,
   (flat (List.replicate N1 ev))[i]?=some z[i%z.length]/\(madeCells zv.cells (C1*i'.size))[i]=zv.cells[i%z.length]:=by
  intro i hi1 hi2;have hz0:0<z.length:=by omega
  have hm:=Nat.mod_lt i hz0;refine⟨hm,by omega,?_,?_⟩
  ·rw[oH,h6,dE z hz0 N1 i (by rw[hzn,<-hfl];exact hi1),List.getElem?_eq_getElem hm]
  ·have e1:zv.cells.size=z.length:=by omega
   simp only[madeCells,Array.getElem_map,Array.getElem_range,e1];rw[getElem!_pos zv.cells (i%z.length) (by omega)]
 obtain⟨K',k2,k3,k4⟩:=hs.grownNew (madeCells zv.cells (C1*i'.size)) e (l:=List.replicate N1 ev) (sz:=n) (cap:=C1) hmade (by simp;omega) hall
  (λi hi1 hi2=>by
   obtain⟨a1,a2,a3,a4⟩:=hget i hi1 hi2;rw[a4]
   have e2:(flat (List.replicate N1 ev))[i]=z[i%z.length]:=by
    rw[List.getElem?_eq_getElem hi1] at a3;exact Option.some.inj a3
   rw[e2];have:=hzr.2 (i%z.length) a1 (by simpa using a2)
   simpa using this)
  (λi hi1 hi2=>by
   obtain⟨a1,a2,a3,a4⟩:=hget i hi1 hi2;rw[a4];have:=hzr.ones p4 (i%z.length) (by simpa using a2)
   simpa using this) hnm hS
 simp only[List.length_replicate] at k3 k4;refine⟨K',_,some (nm,_),_,_, .inl ?_,k2,k3,k4.same (w':=w.alloc (.cells (madeCells zv.cells (C1*i'.size)) e)) rfl rfl rfl rfl,p5⟩;simp only[execOp,ho,Sem.run_bind,el,ec,hrun,Result.andThen_ok,Sem.run_pure]
theorem sb{K:Gh}{e k a b va vb r}(hk:kindOf P e=some k)(ha:Rel K a va)(hb:Rel K b vb)(h:qK k a b=some r)(d:Nat)(w:World):(Op.equalIn (d+1) e va vb).run P w= .ok r w:=by
 unfold kindOf at hk;split at hk<;>simp at hk<;>subst hk<;>(cases a<;>cases b<;>simp[qK] at h)
 ·rename_i hu _ _ _ _
  obtain⟨rfl,rfl⟩:=h;rw[aN ha,aN hb];exact run_equalIn_int w d e _ _ _ _ hu
 ·rename_i hu _ _
  subst h;rw[cN ha,cN hb];exact run_equalIn_bool' w d e _ _ hu
 ·rename_i hu _ _
  subst h;rw[gk ha,gk hb];exact run_equalIn_string w d e _ _ hu
theorem iC{e k}(hk:kindOf P e=some k)(w:World)(cs:Array Value)(off:Nat){v:Value}(h:cs[off]?=some v):(part e cs off).run P w= .ok v w:=by
 have h1:qL P e=some false:=by
  unfold kindOf at hk;unfold qL;split at hk<;>simp at hk<;>(rename_i hu;simp[hu])
 simp[part,gz h1,h]
theorem oI{K:Gh}(d:Nat)(xs ys:Array Value)(w:World):∀(fs:List Field) (i:Nat) (ks:List Nat) (l m:List AV) (r:Bool),eu P i fs=some ks->bw ks l m=some r->
  RelL K l (xs.toList.drop i)->RelL K m (ys.toList.drop i)->(Op.eqFields (d+1) xs ys fs).run P w= .ok r w
 |[],i,ks,l,m,r,hk,hr,hl,hm=>by
  simp[eu] at hk;subst hk
  cases l<;>cases m<;>simp[bw] at hr
  subst hr;rfl
 |f::fs,i,ks,l,m,r,hk,hr,hl,hm=>by
  simp only[eu] at hk;split at hk<;>try (simp at hk;done)
  rename_i hc
  obtain⟨hoff,hname⟩:=hc;split at hk<;>simp at hk
  rename_i k ks' hk1 hk2
  subst hk;cases l with
  |nil=>simp[bw] at hr
  |cons a l=>
   cases m with
   |nil=>simp[bw] at hr
   |cons b m=>
    simp only[bw] at hr;split at hr<;>simp at hr
    rename_i p r' hp hr'
    obtain⟨va,xr,ea,ha1,ha2⟩:=hl.cons_inv;obtain⟨vb,yr,eb,hb1,hb2⟩:=hm.cons_inv;have gx:xs[i]?=some va:=by have:=congrArg (·[0]?) ea;simpa using this
    have gy:ys[i]?=some vb:=by have:=congrArg (·[0]?) eb;simpa using this
    have dx:xs.toList.drop (i+1)=xr:=by rw[<-List.drop_drop,ea];rfl
    have dy:ys.toList.drop (i+1)=yr:=by rw[<-List.drop_drop,eb];rfl
    have ih:=oI d xs ys w fs (i+1) ks' l m r' hk2 hr' (by rw[dx];exact ha2) (by rw[dy];exact hb2);have e1:=iC hk1 w xs f.offset (by rw[hoff];exact gx);have e2:=iC hk1 w ys f.offset (by rw[hoff];exact gy);have e3:=sb hk1 ha1 hb1 hp d w;simp only[Op.eqFields,hname,ne_eq,not_false_eq_true,if_true,Sem.run_bind,e1,e2,e3,Result.andThen_ok];subst hr;cases p
    ·simp
    ·simpa using ih
theorem qQ{K:Gh}(d:Nat){e k}(hk:kindOf P e=some k)(xs ys:Array Value)(w:World):∀(n i:Nat) (l m:List AV) (r:Bool),bw (List.replicate n k) l m=some r->
  RelL K l (xs.toList.drop i)->RelL K m (ys.toList.drop i)->(Op.eqItems (d+1) e 1 xs ys (List.range' i n)).run P w= .ok r w
 |0,i,l,m,r,hr,hl,hm=>by
  cases l<;>cases m<;>simp[bw] at hr
  subst hr;rfl
 |n+1,i,l,m,r,hr,hl,hm=>by
  rw[List.replicate_succ] at hr;cases l with
  |nil=>simp[bw] at hr
  |cons a l=>
   cases m with
   |nil=>simp[bw] at hr
   |cons b m=>
    simp only[bw] at hr;split at hr<;>simp at hr
    rename_i p r' hp hr'
    obtain⟨va,xr,ea,ha1,ha2⟩:=hl.cons_inv;obtain⟨vb,yr,eb,hb1,hb2⟩:=hm.cons_inv;have gx:xs[i]?=some va:=by have:=congrArg (·[0]?) ea;simpa using this
    have gy:ys[i]?=some vb:=by have:=congrArg (·[0]?) eb;simpa using this
    have dx:xs.toList.drop (i+1)=xr:=by rw[<-List.drop_drop,ea];rfl
    have dy:ys.toList.drop (i+1)=yr:=by rw[<-List.drop_drop,eb];rfl
    have ih:=qQ d hk xs ys w n (i+1) l m r' hr' (by rw[dx];exact ha2) (by rw[dy];exact hb2);have e1:=iC hk w xs (i*1) (by rw[Nat.mul_one];exact gx);have e2:=iC hk w ys (i*1) (by rw[Nat.mul_one];exact gy);have e3:=sb hk ha1 hb1 hp d w;rw[List.range'_succ];simp only[Op.eqItems,Sem.run_bind,e1,e2,e3,Result.andThen_ok];subst hr;cases p
    ·simp
    ·simpa using ih
theorem mR{K:Gh}{t ks l m vs us r}(hp:fI P t=some ks)(hl:RelL K l vs.toList)(hm:RelL K m us.toList)(h:bw ks l m=some r)(w:World):
  (Op.equalIn 10000 t (.agg vs) (.agg us)).run P w= .ok r w/\P.eqGuardType P.depth t=false:=by
 unfold fI at hp;split at hp
 ·rename_i fs hu
  split at hp
  case isFalse=>simp at hp
  rename_i hc
  have hfo:P.fieldsOf t=fs:=by simp[Program.fieldsOf,hu]
  have:=run_equalIn_struct (P:=P) w 9999 t vs us (by rw[hfo];exact hu) hc.1
  refine⟨?_,hc.2⟩;rw[this,hfo];exact oI 9998 vs us w fs.toList 0 ks l m r hp (by simpa using h) (by simpa using hl) (by simpa using hm)
 ·rename_i n e hu
  split at hp
  case isFalse=>simp at hp
  rename_i hc
  simp at hp
  obtain⟨k,hk,rfl⟩:=hp
  obtain⟨i,hi,hsz⟩:∃i,P.info? e=some i/\i.size=1:=by
   have:=hc.2.1
   unfold dl at this;cases hi:P.info? e with
   |none=>simp[hi] at this
   |some i=>simp[hi] at this;exact⟨i,rfl,this⟩
  have hcells:P.cellsOf e=1:=by
   have h1:=run_sizeOf (P:=P) w hi;have h2:=aR (P:=P) hc.2.1 w;rw[h1] at h2;exact(Result.ok.inj h2).1
  have:=run_equalIn_array (P:=P) w 9999 vs us hu hi
  refine⟨?_,hc.1⟩;rw[this,hcells,List.range_eq_range'];exact qQ 9998 hk vs us w n 0 l m r h (by simpa using hl) (by simpa using hm)
 ·simp at hp
theorem By{op t x y yt ks neg ax ay}(ho:o.op= .binOp op t x y yt)(hop:op= .eql/\neg=false\/op= .neq/\neg=true)(hp:fI P t=some ks)(hx:aE x=some ax)(hy:aE y=some ay)
  (h:aJ nm env σ R (.eqs neg ks ax ay)):OpOk P o N env σ nm R:=by
 refine .still λK a w hf hs=>?_;obtain⟨av,h1,h2⟩:=aG h;obtain⟨bv,h3,h4⟩:=aG h2;have ra:=trOpnd_rel hx h1 hf;have rb:=trOpnd_rel hy h3 hf;split at h4
 case h_2=>exact h4.elim
 rename_i l m
 split at h4
 case h_2=>exact h4.elim
 rename_i r hr
 obtain⟨vs,ea,ha⟩:=gX ra;obtain⟨us,eb,hb⟩:=gX rb;obtain⟨e1,e2⟩:=mR hp ha hb hr w;refine⟨_,_,?_, .bool _,h4⟩;rcases hop with ⟨rfl,rfl⟩|⟨rfl,rfl⟩
 ·simp only[execOp,ho,ea,eb,Sem.run_bind,run_eqGuard_agg w _ t x y vs us e2,Result.andThen_ok,run_eql_struct,e1,Sem.run_pure];rfl
 ·simp only[execOp,ho,ea,eb,Sem.run_bind,run_eqGuard_agg w _ t x y vs us e2,Result.andThen_ok,run_neq_struct,e1,Sem.run_pure];rfl
end ops
end Abs
namespace Abs
open Go
section ops
variable {P : Program} {o : Oper} {N : Nat} {env : bg} {σ : aA} {nm : Nat} {R : AV -> Option (Nat × AObj) -> Prop}
theorem tJ{P:Program}{u:TypeId}(h:nG P u=true):∃k,P.underlying u=some (.int k):=by
 unfold nG at h;split at h
 ·rename_i k hk;exact⟨k,hk⟩
 ·simp at h
theorem nz(w:World)(t u ty e:TypeId)(i:TypeInfo)(z:Value){k:IntKind}(ht:P.underlying t=some (.slice e))(hu:P.underlying u=some (.int k))(hi:P.info? e=some i)(hz:i.zero=some z)
  (n:Int)(h0:0<n)(hs:0<i.size)(hb0:0<i.bytes)(hb:n*i.bytes<=35184372088832):
  (Builtin.append_ #[t,u] ty #[.slice none 0 0, .int .i64 n]).run P w=
   .ok (.slice (some ⟨w.heap.size,0,none⟩) n.toNat (grownCap w n.toNat 0 e))
    (w.drew.alloc (.cells (Builtin.zeroCells z.cells n.toNat++Builtin.zeroCells z.cells (grownCap w n.toNat 0 e-n.toNat)) e)):=by
 have hn1:n*1<=n*(i.bytes:Int):=Int.mul_le_mul_of_nonneg_left (by omega) (by omega)
 have hw:IntKind.i64.wrap n=n:=by
  simp[IntKind.wrap,IntKind.signed,IntKind.bits];omega
 have hn:n.toNat≠0:=by omega
 have hb':(n.toNat:Int)*i.bytes<=35184372088832:=by rw[Int.toNat_of_nonneg (by omega)];exact hb
 have h63':¬(9223372036854775807<(n.toNat:Int)):=by omega
 have h48n:n.toNat*i.bytes<=35184372088832:=by
  have e:((n.toNat*i.bytes:Nat):Int)<=35184372088832:=by rw[Int.natCast_mul];exact hb'
  omega
 have h48':¬(281474976710656<Builtin.nextslicecap n.toNat 0*i.bytes):=by rw[nextslicecap_zero (by omega)];omega
 have h48:¬(281474976710656<n*(i.bytes:Int)):=by omega
 have hlt:¬n<0:=by omega
 have hns:¬(n.toNat*i.size=0):=by
  intro h;rcases Nat.mul_eq_zero.1 h with h|h<;>omega
 have hle:¬n<=0:=by omega
 have hmx:¬(9223372036854775807<max n 0):=by omega
 simp[Builtin.append_,run_underlying ht,run_underlying hu,Go.sizeOf,typeInfo,zeroValue,hi,hz,asInt,asIntOf,hw,hlt,h48,hn,h63',h48',Question.forced,run_firstCells_none,newRow,grownCap,hns,hle,hmx]
theorem EY{t u s x e i z as_ ax}(ho:o.op= .call {callee:= .builtin .append,args:=#[s,x],argTypes:=#[t,u]})(ht:P.underlying t=some (.slice e))(hu:nG P u=true)(hi:P.info? e=some i)
  (hz:cx P e=some z)(hs0:0<i.size)(hby0:0<i.bytes)(hzl:z.length=i.size)(hs1:aE s=some as_)(hx1:aE x=some ax)(h:aJ nm env σ R (.appz i.size i.bytes as_ ax)):OpOk P o N env σ nm R:=by
 intro S K a w hf hs hnm hS;obtain⟨sv,h1,h2⟩:=aG h;obtain⟨xv,h3,h4⟩:=aG h2;have rs:=trOpnd_rel hs1 h1 hf;have rx:=trOpnd_rel hx1 h3 hf;split at h4
 case h_2=>exact h4.elim
 rename_i l n
 obtain⟨⟨rfl,hn0,hnb⟩,h5⟩:=h4;obtain⟨i',zv,hi',hzv,hzs⟩:=kY (K:=K) hz hzl;obtain rfl:i'=i:=by simp_all
 have hsv:a.eval s= .slice none 0 0:=by
  rcases rel_slice rs with ⟨a',cap',he,_,ht'⟩|⟨b,off,cap',sz',u,he,_,_,_,ht',_⟩
  ·simp at ht'
   obtain⟨rfl,rfl⟩:=ht';exact he
  ·exact ht'.elim
 have hxv:=aN rx;obtain⟨k,hu'⟩:=tJ hu;have hrun:=nz (P:=P) w t u o.type e i' zv ht hu' hi hzv n hn0 hs0 hby0 hnb;have zsz:∀k,(Builtin.zeroCells zv.cells k).size=k*i'.size:=λk=>by rw[size_zeroCells,hzs]
 have hge:=cO w n.toNat 0 e
 obtain⟨K',k2,k3,k4⟩:=hs.grownNew (Builtin.zeroCells zv.cells n.toNat++Builtin.zeroCells zv.cells (grownCap w n.toNat 0 e-n.toNat)) e (l:=[]) (sz:=i'.size) (cap:=grownCap w n.toNat 0 e)
   (by simp only[Array.size_append,zsz];rw[<-Nat.add_mul];congr 1;omega) (Nat.zero_le _) (by simp) (by simp[Abs.flat]) (by simp[Abs.flat]) hnm hS
 refine⟨K', .raw nm n.toNat,some (nm, .grow i'.size 0), .slice (some ⟨w.heap.size,0,none⟩) n.toNat (grownCap w n.toNat 0 e),_, .inl ?_,k2,?_,by simpa [fN] using k4,h5⟩
 ·simp only[execOp,ho,resolve,invoke,Go.builtin,Sem.run_bind,Sem.run_pure,Result.andThen_ok];have e2:#[s,x].map a.eval=#[a.eval s,a.eval x]:=by simp
  simp only[e2,hsv,hxv,hrun,Result.andThen_ok]
 ·cases k3 with
  |sl0 a cap t ht=>simp at ht
  |slice _ _ _ _ _ sz u q1 q2 q3 q4 q5=>exact .raw nm _ _ _ sz q4 hge
theorem EZ{t x lo hi mx e sz ax alo ahi amx}(ho:o.op= .slice t x lo hi mx)(hu:P.underlying t=some (.slice e))(hsz:dl P e=some sz)(hx:aE x=some ax)
  (hlo:cD lo=some alo)(hhi:cD hi=some ahi)(hmx:cD mx=some amx)(h:aJ nm env σ R (.slcN sz ax alo ahi amx)):OpOk P o N env σ nm R:=by
 refine .still λK a w hf hs=>?_;obtain⟨av,h1,h2⟩:=aG h;have hr:=trOpnd_rel hx h1 hf;split at h2
 case h_2=>exact h2.elim
 rename_i l
 obtain⟨⟨rfl,hm⟩,h3⟩:=h2;obtain⟨hh,h4,c1⟩:=jV hf hhi h3;obtain⟨ll,h5,c2⟩:=jV hf hlo h4
 have hsv:a.eval x= .slice none 0 0:=by
  rcases rel_slice hr with ⟨a',cap',he,_,ht'⟩|⟨b,off,cap',sz',u,he,_,_,_,ht',_⟩
  ·simp at ht'
   obtain⟨rfl,rfl⟩:=ht';exact he
  ·exact ht'.elim
 have hhl:hh=0:=by rcases c1 with ⟨_,rfl⟩|⟨k,n,_,n0,n1,rfl⟩<;>omega
 have hlh:ll=0:=by rcases c2 with ⟨_,rfl⟩|⟨k,n,_,n0,n1,rfl⟩<;>omega
 have hmn:mx=none:=by cases mx<;>cases amx<;>simp[cD] at hmx hm|-
 subst hmn
 have c1':hi=none\/∃y k n,hi=some y/\a.eval y= .int k n/\0<=n/\n<=(0:Nat):=by
  rcases c1 with ⟨hn,e⟩|⟨k,n,hn,n0,n1,e⟩
  ·left;cases hi<;>simp at hn;rfl
  ·right;cases hi<;>simp at hn;exact⟨_,k,n,rfl,hn,n0,by omega⟩
 have c2':lo=none\/∃y k n,lo=some y/\a.eval y= .int k n/\0<=n/\n<=(0:Nat):=by
  rcases c2 with ⟨hn,e⟩|⟨k,n,hn,n0,n1,e⟩
  ·left;cases lo<;>simp at hn;rfl
  ·right;cases lo<;>simp at hn;exact⟨_,k,n,rfl,hn,n0,by omega⟩
 have hsb:∀w:World,(Instr.sliceBounds true 0 0 (lo.map a.eval) (hi.map a.eval) none).run P w= .ok (0,0,0) w:=by
  intro w;have z:∀n:Int,0<=n->n<=(0:Nat)->n.toNat=0:=λn _ _=>by omega
  rcases c1' with rfl|⟨y,k,n,rfl,ey,n0,n1⟩<;>rcases c2' with rfl|⟨y',k',n',rfl,ey',n0',n1'⟩
  ·simp[Instr.sliceBounds]
  ·simp[Instr.sliceBounds,ey',aW k' n' _ _ _ n0' n1',z n' n0' n1']
  ·simp[Instr.sliceBounds,ey,aW k n _ _ _ n0 n1,z n n0 n1]
  ·simp[Instr.sliceBounds,ey,ey',aW k n _ _ _ n0 n1,z n n0 n1,aW k' n' _ _ _ n0' n1',z n' n0' n1']
 refine⟨.slice [] .nil, .slice none 0 0,?_, .sl0 none 0 .nil (by simp),h5⟩;simp only[execOp,ho,Sem.run_bind];rw[hsv];simp[Instr.sliceAt,Instr.slice,aB hu,hsb,aR hsz]
theorem E0{t x lo hi mx e sz ax alo ahi amx}(ho:o.op= .slice t x lo hi mx)(hu:P.underlying t=some (.slice e))(hsz:dl P e=some sz)(hx:aE x=some ax)
  (hlo:cD lo=some alo)(hhi:cD hi=some ahi)(hmx:cD mx=some amx)(h:aJ nm env σ R (.slcR sz ax alo ahi amx)):OpOk P o N env σ nm R:=by
 refine .still λK a w hf hs=>?_;obtain⟨av,h1,h2⟩:=aG h;have hr:=trOpnd_rel hx h1 hf;split at h2
 case h_2=>exact h2.elim
 rename_i ob len
 obtain⟨⟨hl,hh0,hm⟩,h3⟩:=h2;obtain⟨hh,h4,c1⟩:=jV hf hhi h3;obtain⟨h5,h6⟩:=h4;subst h5;have hln:lo=none:=by cases lo<;>cases alo<;>simp[cD] at hlo hl|-
 have hmn:mx=none:=by cases mx<;>cases amx<;>simp[cD] at hmx hm|-
 subst hln hmn
 obtain⟨b,cap,hev,sz',htk,hcap⟩:∃b cap,a.eval x= .slice (some ⟨b,0,none⟩) len cap/\∃sz',TokOk K (.own ob) 0 b 0 cap sz'/\len<=cap:=by
  generalize a.eval x=v at hr;cases hr with
  |raw _ _ b cap sz' h hl=>exact⟨b,cap,rfl,sz',h,hl⟩
 obtain⟨y,k,n,rfl,ey,n0,n1,n2⟩:∃y k n,hi=some y/\a.eval y= .int k n/\0<=n/\n<=(len:Nat)/\n.toNat=0:=by
  rcases c1 with ⟨hn,e⟩|⟨k,n,hn,n0,n1,e⟩
  ·cases hi with
   |none=>simp[cD] at hhi;subst hhi;simp at hh0
   |some y=>simp at hn
  ·cases hi with
   |none=>simp at hn
   |some y=>simp at hn;exact⟨y,k,n,rfl,hn,n0,n1,e.symm⟩
 have hsb:∀w:World,(Instr.sliceBounds true len cap none (some (a.eval y)) none).run P w= .ok (0,0,cap) w:=by
  intro w;simp[Instr.sliceBounds,ey,aW k n cap _ _ n0 (by omega),n2]
 refine⟨.slice [] (.own ob), .slice (some ⟨b,0,none⟩) 0 cap,?_,?_,h6⟩
 ·simp only[execOp,ho,Sem.run_bind];rw[hev];simp[Instr.sliceAt,Instr.slice,aB hu,hsb,aR hsz,Addr.add]
 ·exact .slice [] (.own ob) b 0 cap sz' (λ_=>undef) (by simp) (by simp[Abs.flat]) (by simp[Abs.flat]) htk (Nat.zero_le _)
end ops
end Abs
namespace Abs
open Go
theorem qR{a b:ByteArray}(h:a.toList=b.toList):a=b:=by
 rw[ByteArray.toList_eq,ByteArray.toList_eq] at h;exact ByteArray.ext (Array.toList_inj.1 h)
theorem xM{K:Gh}{k:Nat}{a b:AV}{va vb:Value}(h:qK k a b=some true)(ha:Rel K a va)(hb:Rel K b vb):va=vb/\∀n,Instr.sameBits n va vb=true:=by
 match k,a,b,h with
 |0, .int k x, .int k' y,h=>
  simp[qK] at h
  obtain⟨rfl,rfl⟩:=h;rw[aN ha,aN hb];exact⟨rfl,λn=>by cases n<;>simp[Instr.sameBits]⟩
 |1, .bool x, .bool y,h=>
  simp[qK] at h
  subst h;rw[cN ha,cN hb];exact⟨rfl,λn=>by cases n<;>simp[Instr.sameBits]⟩
 |2, .str x, .str y,h=>
  simp[qK] at h
  obtain rfl:=qR h
  rw[gk ha,gk hb];exact⟨rfl,λn=>by cases n<;>simp[Instr.sameBits,MapKept.bytes_beq]⟩
theorem mS{K:Gh}:∀{ks:List Nat} {l m:List AV} {vs us:List Value},bw ks l m=some true->RelL K l vs->RelL K m us->vs=us/\∀n,((vs.zip us).all fun(x,y)=>Instr.sameBits n x y)=true
 |[],l,m,vs,us,h,hl,hm=>by
  cases l<;>cases m<;>simp[bw] at h
  obtain rfl:vs=[]:=by simpa using hl.1.symm
  obtain rfl:us=[]:=by simpa using hm.1.symm
  exact⟨rfl,λn=>rfl⟩
 |k::ks,l,m,vs,us,h,hl,hm=>by
  cases l with
  |nil=>simp[bw] at h
  |cons a l=>
   cases m with
   |nil=>simp[bw] at h
   |cons b m=>
    simp only[bw] at h;split at h<;>simp at h
    rename_i p r hp hr
    obtain⟨rfl,rfl⟩:=h;obtain⟨va,xr,rfl,ha1,ha2⟩:=hl.cons_inv;obtain⟨vb,yr,rfl,hb1,hb2⟩:=hm.cons_inv;obtain⟨e1,q1⟩:=xM hp ha1 hb1;obtain⟨e2,q2⟩:=mS hr ha2 hb2;refine⟨by rw[e1,e2],λn=>?_⟩;simp only[List.zip_cons_cons,List.all_cons,q1 n,Bool.true_and];exact q2 n
theorem zc{K:Gh}{kk:KK}{a b:AV}{va vb:Value}(h:gg kk a b=some true)(ha:Rel K a va)(hb:Rel K b vb):va=vb/\Instr.sameBits 10000 va vb=true:=by
 cases kk with
 |one k=>obtain⟨e1,e2⟩:=xM h ha hb;exact⟨e1,e2 _⟩
 |row ks=>
  cases a<;>cases b<;>simp only[gg] at h<;>try (simp at h;done)
  obtain⟨vs,rfl,h1⟩:=gX ha;obtain⟨us,rfl,h2⟩:=gX hb;obtain⟨e1,e2⟩:=mS h h1 h2;have e3:vs=us:=Array.toList_inj.1 e1;subst e3;exact⟨rfl,by simp only[Instr.sameBits,e2 9999,Bool.and_true];simp⟩
section
variable {P : Program}
theorem kkOf_cases{t:TypeId}{kk:KK}(h:ol P t=some kk):(∃n,kk= .one n/\kindOf P t=some n)\/∃ks,kk= .row ks/\fI P t=some ks:=by
 unfold ol at h;split at h
 ·rename_i n hn
  simp at h
  exact .inl ⟨n,h.symm,hn⟩
 ·simp only[Option.map_eq_some_iff] at h;obtain⟨ks,h1,h2⟩:=h;exact .inr ⟨ks,h2.symm,h1⟩
theorem qS{K:Gh}{t:TypeId}{kk:KK}{a b:AV}{va vb:Value}{r:Bool}(hk:ol P t=some kk)(ha:Rel K a va)(hb:Rel K b vb)(h:gg kk a b=some r)(w:World):(Op.equal t va vb).run P w= .ok r w:=by
 rcases kkOf_cases hk with ⟨n,rfl,hn⟩|⟨ks,rfl,hks⟩
 ·exact sb hn ha hb h 9999 w
 ·cases a<;>cases b<;>simp only[gg] at h<;>try (simp at h;done)
  obtain⟨vs,rfl,h1⟩:=gX ha;obtain⟨us,rfl,h2⟩:=gX hb;exact(mR hks h1 h2 h w).1
theorem qT{K:Gh}{t:TypeId}{k:Nat}{a:AV}{v:Value}(hk:kindOf P t=some k)(h:(qK k a a).isSome=true)(hr:Rel K a v)(e:Bool)(n:Nat)(w:World):(Instr.checkKey e (n+1) t v).run P w= .ok () w:=by
 unfold kindOf at hk;split at hk<;>simp at hk<;>subst hk<;>(cases a<;>simp[qK] at h)
 ·rename_i hu _ _
  rw[aN hr];simp[Instr.checkKey,run_underlying hu]
 ·rename_i hu _
  rw[cN hr];simp[Instr.checkKey,run_underlying hu]
 ·rename_i hu _
  rw[gk hr];simp[Instr.checkKey,run_underlying hu]
theorem kZ:∀{ks:List Nat} {l:List AV},(bw ks l l).isSome=true->ks.length=l.length/\∀(i k:Nat) (a:AV),ks[i]?=some k->l[i]?=some a->(qK k a a).isSome=true
 |[],l,h=>by cases l<;>simp[bw] at h|-
 |k::ks,l,h=>by
  cases l with
  |nil=>simp[bw] at h
  |cons a l=>
   simp only[bw] at h;split at h<;>simp at h
   rename_i p r hp hr
   obtain⟨e1,e2⟩:=kZ (ks:=ks) (l:=l) (by rw[hr];rfl);refine⟨by simp[e1],λi k' a' h1 h2=>?_⟩;cases i with
   |zero=>simp at h1 h2;subst h1;subst h2;rw[hp];rfl
   |succ i=>exact e2 i k' a' (by simpa using h1) (by simpa using h2)
theorem zf{K:Gh}{t:TypeId}{ks:List Nat}{l:List AV}{vs:Array Value}(hp:fI P t=some ks)(h:(bw ks l l).isSome=true)(hr:RelL K l vs.toList)(e:Bool)(w:World):
  (Instr.checkKey e 10000 t (.agg vs)).run P w= .ok () w:=by
 obtain⟨hlen,hone⟩:=kZ h;have hlv:l.length=vs.size:=by simpa using hr.1
 have cell:∀(i:Nat) (k:Nat) (ft:TypeId) (n:Nat),ks[i]?=some k->kindOf P ft=some k->∃v,(part ft vs i).run P w= .ok v w/\(Instr.checkKey e (n+1) ft v).run P w= .ok () w:=by
  intro i k ft n hi hk;have hil:i<l.length:=by rw[<-hlen];exact(List.getElem?_eq_some_iff.1 hi).1
  have hiv:i<vs.size:=by omega
  have h1:=hr.2 i hil (by simpa using hiv);refine⟨vs[i],iC hk w vs i (by simp[hiv]),qT hk (hone i k l[i] hi (List.getElem?_eq_getElem hil)) (v:=vs[i]) (by simpa using h1) e n w⟩
 unfold fI at hp;split at hp
 ·rename_i fs hu
  split at hp
  case isFalse=>simp at hp
  rw[Instr.checkKey];simp only[Sem.run_bind,run_underlying hu,Result.andThen_ok];rw[<-Array.forIn_toList]
  have key:∀(L:List Field) (i:Nat) (ks':List Nat),eu P i L=some ks'->(∀j k,ks'[j]?=some k->ks[i+j]?=some k)->
    ∀f∈L,f.name≠"_"/\∃v,(part f.type vs f.offset).run P w= .ok v w/\(Instr.checkKey e 9999 f.type v).run P w= .ok () w:=by
   intro L;induction L with
   |nil=>intro i ks' _ _ f hf;simp at hf
   |cons f0 L ih=>
    intro i ks' hk hs f hf;simp only[eu] at hk;split at hk<;>try (simp at hk;done)
    rename_i hc
    obtain⟨hoff,hname⟩:=hc;split at hk<;>simp at hk
    rename_i k ks2 hk1 hk2
    subst hk;rcases List.mem_cons.1 hf with rfl|hf
    ·refine⟨hname,?_⟩;rw[hoff];exact cell i k f.type 9998 (by simpa using hs 0 k rfl) hk1
    ·exact ih (i+1) ks2 hk2 (λj k hj=>by have:=hs (j+1) k (by simpa using hj);rwa [show i+1+j=i+(j+1) by omega]) f hf
  have each:=key fs.toList 0 ks hp (λj k hj=>by simpa using hj);clear key hp;generalize fs.toList=L at each;induction L with
  |nil=>simp
  |cons f L ih=>
   obtain⟨hn,v,p1,p2⟩:=each f (by simp);simp only[List.forIn_cons,Sem.run_bind,hn,ne_eq,not_false_eq_true,if_true,p1,Result.andThen_ok,p2,Sem.run_pure];exact ih (λy hy=>each y (by simp[hy]))
 ·rename_i n el hu
  split at hp
  case isFalse=>simp at hp
  rename_i hc
  simp at hp
  obtain⟨k,hk,rfl⟩:=hp;rw[Instr.checkKey];simp only[Sem.run_bind,run_underlying hu,Result.andThen_ok];simp only[Std.Legacy.Range.forIn_eq_forIn_range',Std.Legacy.Range.size,Nat.sub_zero,Nat.add_one_sub_one,Nat.div_one]
  have each:∀j∈List.range' 0 n,∃v,(part el vs j).run P w= .ok v w/\(Instr.checkKey e 9999 el v).run P w= .ok () w:=by
   intro j hj;have hjn:j<n:=by simp[List.mem_range'_1] at hj;omega
   exact cell j k el 9998 (by simp[hjn]) hk
  generalize List.range' 0 n=is at each;induction is with
  |nil=>simp
  |cons j is ih=>
   obtain⟨v,p1,p2⟩:=each j (by simp);simp only[List.forIn_cons,Sem.run_bind,aR hc.2.1,Result.andThen_ok,Nat.mul_one,p1,p2,Sem.run_pure];exact ih (λy hy=>each y (by simp[hy]))
 ·simp at hp
theorem mf{K:Gh}{t:TypeId}{kk:KK}{a:AV}{v:Value}(hk:ol P t=some kk)(h:kh kk a=true)(hr:Rel K a v)(e:Bool)(w:World):(Instr.checkKey e 10000 t v).run P w= .ok () w:=by
 unfold kh at h;rcases kkOf_cases hk with ⟨n,rfl,hn⟩|⟨ks,rfl,hks⟩
 ·exact qT hn h hr e 9999 w
 ·cases a<;>simp only[gg] at h<;>try (simp at h;done)
  obtain⟨vs,rfl,h1⟩:=gX hr;exact zf hks h h1 e w
def jo(kk:KK)(k:AV):List (AV×AV)->Option (Option Nat)
 |[]=>some none
 |(a,_)::r=>match gg kk k a with
  |some true=>some (some 0)
  |some false=>(jo kk k r).map λi=>i.map (·+1)
  |none=>none
theorem qU(kk:KK)(k:AV):∀m:List (AV×AV),kU kk k m=(jo kk k m).map λi=>i.bind λi=>m[i]?.map (·.2)
 |[]=>rfl
 |(a,v)::r=>by
  simp only[kU,jo];cases he:gg kk k a with
  |none=>simp
  |some b=>
   cases b with
   |true=>simp
   |false=>
    simp only[qU kk k r];cases jo kk k r with
    |none=>rfl
    |some i=>cases i<;>simp
theorem tK(kk:KK)(k v:AV):∀m:List (AV×AV),tE kk k v m=(jo kk k m).map λi=>match i with|some i=>m.modify i (λ_=>(k,v))|none=>m++[(k,v)]
 |[]=>rfl
 |(a,u)::r=>by
  simp only[tE,jo];cases he:gg kk k a with
  |none=>simp
  |some b=>
   cases b with
   |true=>simp
   |false=>
    simp only[tK kk k v r];cases jo kk k r with
    |none=>rfl
    |some i=>cases i<;>simp
theorem sd(kk:KK)(k:AV):∀{m:List (AV×AV)} {i:Nat},jo kk k m=some (some i)->i<m.length/\∃p,m[i]?=some p/\gg kk k p.1=some true
 |[],i,h=>by simp[jo] at h
 |(a,v)::r,i,h=>by
  simp only[jo] at h;split at h
  ·rename_i he
   simp at h;subst h
   exact⟨by simp,_,rfl,he⟩
  ·simp only[Option.map_eq_some_iff] at h;obtain⟨j,h1,h2⟩:=h;cases j with
   |none=>simp at h2
   |some j=>
    simp at h2;subst h2
    obtain⟨q1,p,q2,q3⟩:=sd kk k h1;exact⟨by simp;omega,p,by simpa using q2,q3⟩
  ·simp at h
def RelM(K:Gh)(m:List (AV×AV))(es:List MapEntry):Prop:=m.length=es.length/\∀i,(h:i<m.length)->(h':i<es.length)->Rel K m[i].1 es[i].key/\Rel K m[i].2 es[i].val
theorem RelM.cons_inv{K:Gh}{p m es}(h:RelM K (p::m) es):∃e r,es=e::r/\(Rel K p.1 e.key/\Rel K p.2 e.val)/\RelM K m r:=by
 cases es with
 |nil=>simp[RelM] at h
 |cons e r=>
  refine⟨e,r,rfl,h.2 0 (by simp) (by simp),by simpa using h.1,λi h1 h2=>?_⟩;exact h.2 (i+1) (by simpa using h1) (by simpa using h2)
def ej(es:List MapEntry)(i0:Nat):Option Nat->Option (Nat×Value):=λi=>i.map λi=>(i0+i,(es[i]?.map (·.val)).getD undef)
theorem oJ{K:Gh}{t:TypeId}{kk:KK}{k:AV}{v:Value}(hk:ol P t=some kk)(hr:Rel K k v)(w:World):∀{m:List (AV×AV)} {es:List MapEntry} {i:Option Nat} (i0:Nat),RelM K m es->jo kk k m=some i->
  (Instr.findAsking t v es i0).run P w= .ok (ej es i0 i) w
 |[],es,i,i0,hm,h=>by
  obtain rfl:es=[]:=by simpa using hm.1.symm
  simp[jo] at h;subst h
  rfl
 |(a,u)::m,es,i,i0,hm,h=>by
  obtain⟨e,r,rfl,⟨h1,h2⟩,h3⟩:=hm.cons_inv;simp only[jo] at h;split at h
  ·rename_i he
   simp at h;subst h
   simp only[Instr.findAsking,Sem.run_bind,qS hk hr h1 he w,Result.andThen_ok,if_true,Sem.run_pure];simp[ej]
  ·rename_i he
   simp only[Option.map_eq_some_iff] at h;obtain⟨j,h4,rfl⟩:=h;have ih:=oJ hk hr w (i0+1) h3 h4;simp only[Instr.findAsking,Sem.run_bind,qS hk hr h1 he w,Result.andThen_ok,Bool.false_eq_true,if_false];rw[ih];cases j with
   |none=>rfl
   |some j=>simp[ej];omega
  ·simp at h
theorem oK{K:Gh}{t:TypeId}{d:TypeDesc}{n:Nat}{a b:AV}{va vb:Value}{r:Bool}(hd:P.underlying t=some d)(hk:kindOf P t=some n)(ha:Rel K a va)(hb:Rel K b vb)(h:qK n a b=some r):Instr.sameNow d va vb=some r:=by
 unfold kindOf at hk;rw[hd] at hk;cases d<;>simp at hk<;>subst hk<;>(cases a<;>cases b<;>simp[qK] at h)
 ·subst h;rw[cN ha,cN hb];simp[Instr.sameNow]
 ·obtain⟨rfl,rfl⟩:=h;rw[aN ha,aN hb];simp[Instr.sameNow]
 ·subst h;rw[gk ha,gk hb];simp only[Instr.sameNow,Option.some.injEq];rw[Bool.eq_iff_iff];simp only[MapKept.bytes_beq,beq_iff_eq];exact⟨λe=>by rw[e],qR⟩
theorem xN{K:Gh}{t:TypeId}{d:TypeDesc}{n:Nat}{k:AV}{v:Value}(hd:P.underlying t=some d)(hk:kindOf P t=some n)(hr:Rel K k v):∀{m:List (AV×AV)} {es:List MapEntry} {i:Option Nat} (i0:Nat),RelM K m es->jo (.one n) k m=some i->
  Instr.findNow d v es i0=some (ej es i0 i)
 |[],es,i,i0,hm,h=>by
  obtain rfl:es=[]:=by simpa using hm.1.symm
  simp[jo] at h;subst h
  rfl
 |(a,u)::m,es,i,i0,hm,h=>by
  obtain⟨e,r,rfl,⟨h1,h2⟩,h3⟩:=hm.cons_inv;simp only[jo] at h;split at h
  ·rename_i he
   simp at h;subst h
   simp only[Instr.findNow,oK hd hk hr h1 he];simp[ej]
  ·rename_i he
   simp only[Option.map_eq_some_iff] at h;obtain⟨j,h4,rfl⟩:=h;have ih:=xN hd hk hr (i0+1) h3 h4;simp only[Instr.findNow,oK hd hk hr h1 he];rw[ih];cases j with
   |none=>rfl
   |some j=>simp[ej];omega
  ·simp at h
theorem oM{K:Gh}{t:TypeId}{kk:KK}{k:AV}{v:Value}(hk:ol P t=some kk)(hr:Rel K k v)(w:World){m:List (AV×AV)}{es:List MapEntry}{i:Option Nat}(hm:RelM K m es)(h:jo kk k m=some i):
  (Instr.findKey t v es).run P w= .ok (ej es 0 i) w:=by
 rcases kkOf_cases hk with ⟨n,rfl,hn⟩|⟨ks,rfl,hks⟩
 ·obtain⟨d,hd⟩:∃d,P.underlying t=some d:=by
   unfold kindOf at hn;cases hu:P.underlying t with
   |none=>rw[hu] at hn;simp at hn
   |some d=>exact⟨d,rfl⟩
  exact MapKept.run_findKey hd (xN hd hn hr 0 hm h)
 ·have hw:(match P.underlying t with|some (.array _ _)|some (.struct _)=>true|_=>false)=true:=by
   unfold fI at hks;split at hks
   ·rename_i hu;rw[hu]
   ·rename_i hu;rw[hu]
   ·simp at hks
  rw[run_findKey_eq w hw v es];exact oJ hk hr w 0 hm h
end
end Abs
namespace Abs
open Go
theorem jp{α:Type}{x:Option α}{R:α->Prop}(h:Bj x R):∃a,x=some a/\R a:=by
 cases x with
 |none=>exact h.elim
 |some a=>exact⟨a,rfl,h⟩
theorem xO{K:Gh}{o:Nat}{v:Value}(h:Rel K (.map o) v):∃r,v= .map (some r)/\K.own o=some (.map r):=by
 cases h with|map _ r h=>exact⟨r,rfl,h⟩
theorem vM{K:Gh}{v:Value}(h:Rel K .nilmap v):v= .map none:=by cases h;rfl
structure MapAt(K:Gh)(w:World)(r:Nat)(d:Bool)(m:List (AV×AV))(es:Array MapEntry)(clock:Nat):Prop where
 base:K.base.heap.size<=r
 heap:w.heap[r]?=some (.map es clock)
 rel:RelM K m es.toList
 lt:∀i,(h:i<es.size)->es[i].born<clock
 inj:∀i j,(h:i<es.size)->(h':j<es.size)->es[i].born=es[j].born->i=j
 dense:d=true->clock=es.size/\∀i,(h:i<es.size)->es[i].born=i
theorem tM{K:Gh}{σ:aA}{w:World}(hs:Sat K σ w){o r:Nat}{d:Bool}{m:List (AV×AV)}(h:σ o=some (.map d m))(ho:K.own o=some (.map r)):∃es clock,MapAt K w r d m es clock:=by
 obtain⟨e,h1,h2⟩:=hs.live o _ h;rw[ho] at h1;cases h1
 simp only[ObjSat] at h2;obtain⟨q1,es,clock,q2,q3,q4,q5,q6,q7⟩:=h2;exact⟨es,clock,q1,q2,⟨by simp[q3],λi h1 h2=>by simpa using q4 i h1 (by simpa using h2)⟩,q5,q6,q7⟩
theorem MapAt.sat{K:Gh}{w:World}{r:Nat}{d:Bool}{m:List (AV×AV)}{es:Array MapEntry}{clock:Nat}(h:MapAt K w r d m es clock):ObjSat K w (.map r) (.map d m):=by
 refine⟨h.base,es,clock,h.heap,?_,λi h1 h2=>?_,h.lt,h.inj,h.dense⟩
 ·have:=h.rel.1;simpa using this.symm
 ·have:=h.rel.2 i h1 (by simpa using h2);simpa using this
theorem Sat.mapSet{K:Gh}{σ:aA}{w:World}(hs:Sat K σ w){o r:Nat}{d d':Bool}{m m':List (AV×AV)}{es es':Array MapEntry}{clock clock':Nat}(h:σ o=some (.map d m))(ho:K.own o=some (.map r))(hm:MapAt K w r d m es clock)
  (hr:RelM K m' es'.toList)(hlt:∀i,(h:i<es'.size)->es'[i].born<clock')(hinj:∀i j,(h:i<es'.size)->(h':j<es'.size)->es'[i].born=es'[j].born->i=j)
  (hd:d'=true->clock'=es'.size/\∀i,(h:i<es'.size)->es'[i].born=i):Sat K (aH σ o (.map d' m')) {w with heap:=w.heap.setIfInBounds r (.map es' clock')}:=by
 have hh:=MapKept.heap_set (w:=w) (r:=r) (o':=Obj.map es' clock') hm.heap;refine hs.write (Gh.le.refl K) h ho rfl (λ_ _=>rfl) ho rfl rfl rfl rfl (by simp) hh.2 (λi=>cy hh.1 trivial) (λi v hv=>?_) (λ_ _ _=>rfl) ?_
 ·have h1:=hs.claim r i v hv;simp[World.cell?,hm.heap] at h1
 ·exact MapAt.sat ⟨hm.base,hh.1,hr,hlt,hinj,hd⟩
section ops
variable {P : Program} {o : Oper} {N : Nat} {env : bg} {σ : aA} {nm : Nat} {R : AV -> Option (Nat × AObj) -> Prop}
theorem vN{K:Gh}{e:TypeId}{z:AV}(h:r9 P e=some z)(w:World):∃v,(zeroValue e).run P w= .ok v w/\Rel K z v:=by
 unfold r9 at h;split at h
 ·rename_i v hv
  refine⟨v,?_,ofValue_rel h⟩;cases hi:P.info? e with
  |none=>simp[hi] at hv
  |some i=>simp[hi] at hv;simp[zeroValue,typeInfo,hi,hv]
 ·simp at h
theorem Bz{t}(ho:o.op= .makeMap t none)(h:aJ nm env σ R (.ext .mkmap)):OpOk P o N env σ nm R:=by
 intro S K a w hf hs hnm hS;have hp:=me w (.map #[] 0);have hle0:=(hs.push hp trivial (λ_=>none) (λi v e=>by simp at e)).1
 obtain⟨h1,h2⟩:=hs.pushName hp trivial (λ_=>none) (λi v e=>by simp at e) hnm (.map w.heap.size) rfl (.map true [])
  (MapAt.sat ⟨by show K.base.heap.size<=_;exact hs.size,hp.new,⟨rfl,λi h=>by simp at h⟩,λi h=>by simp at h,λi j h=>by simp at h,λ_=>⟨rfl,λi h=>by simp at h⟩⟩)
 refine⟨_,_,some (nm,_),_,_, .inl ?_,⟨h1,λo' hs' hn=>?_⟩, .map nm w.heap.size (by simp[Gh.named]),h2,h⟩
 ·simp[execOp,ho,Instr.makeMap]
 ·have:o'≠nm:=λe=>hS (e▸hs')
  simp[Gh.named,Gh.claimed,this,hn]
theorem E1{t kt e x i c kk z ax ai}(ho:o.op= .lookup t x i c)(hu:P.underlying t=some (.map kt e))(hk:ol P kt=some kk)(hz:r9 P e=some z)(hx:aE x=some ax)(hi:aE i=some ai)
  (h:aJ nm env σ R (.ext (.look kk z c ax ai))):OpOk P o N env σ nm R:=by
 refine .still λK a w hf hs=>?_;obtain⟨mv,h1,h2⟩:=aG h;obtain⟨kv,h3,h4⟩:=aG h2;have rm:=trOpnd_rel hx h1 hf;have rk:=trOpnd_rel hi h3 hf;obtain⟨zv,hzr,hzrel⟩:=vN (K:=K) hz w;cases mv<;>simp only[] at h4<;>first|exact h4.elim|skip
 case map ob=>
  obtain⟨r,he,hown⟩:=xO rm;split at h4
  ·rename_i d l hl
   obtain⟨h5,h6⟩:=h4;obtain⟨ov,h7,h8⟩:=jp h6;obtain⟨es,clock,hm⟩:=tM hs hl hown;rw[qU] at h7;simp only[Option.map_eq_some_iff] at h7;obtain⟨oi,h9,h10⟩:=h7;have hfind:=oM hk rk w hm.rel h9;have hcheck:=mf hk h5 rk es.isEmpty w;cases oi with
   |none=>
    simp at h10;subst h10
    simp only[Option.getD_none,Option.isSome_none] at h8;refine⟨_,if c then .tuple #[zv, .bool false] else zv,?_,?_,h8⟩
    ·simp[execOp,ho,he,Instr.lookup,aB hu,MapKept.run_getObj_map hm.heap,hcheck,hfind,ej,hzr]
    ·cases c
     ·exact hzrel
     ·exact .tupL (.cons hzrel (.cons (.bool _) .nil))
   |some j=>
    obtain⟨q1,p,q2,q3⟩:=sd kk kv h9;have hj:j<es.toList.length:=by rw[<-hm.rel.1];exact q1
    obtain⟨r1,r2⟩:=hm.rel.2 j q1 hj;simp only[Option.bind_some,q2,Option.map_some] at h10;subst h10;simp only[Option.getD_some,Option.isSome_some] at h8;have hp:l[j]=p:=by rw[List.getElem?_eq_getElem q1] at q2;exact Option.some.inj q2
    rw[hp] at r2;refine⟨_,if c then .tuple #[es.toList[j].val, .bool true] else es.toList[j].val,?_,?_,h8⟩
    ·simp[execOp,ho,he,Instr.lookup,aB hu,MapKept.run_getObj_map hm.heap,hcheck,hfind,ej]
     have:j<es.size:=by simpa using hj
     simp[this]
    ·cases c
     ·exact r2
     ·exact .tupL (.cons r2 (.cons (.bool _) .nil))
  ·exact h4.elim
 case nilmap=>
  have he:=vM rm;obtain⟨h5,h6⟩:=h4;have hcheck:=mf hk h5 rk true w;have hfind:=oM hk rk w (m:=[]) (es:=[]) (i:=none) ⟨rfl,λi h=>by simp at h⟩ rfl;refine⟨_,if c then .tuple #[zv, .bool false] else zv,?_,?_,h6⟩
  ·simp[execOp,ho,he,Instr.lookup,aB hu,hcheck,hfind,ej,hzr]
  ·cases c
   ·exact hzrel
   ·exact .tupL (.cons hzrel (.cons (.bool _) .nil))
theorem RelM.push{K:Gh}{m:List (AV×AV)}{es:List MapEntry}(h:RelM K m es){k v:AV}{e:MapEntry}(h1:Rel K k e.key)(h2:Rel K v e.val):RelM K (m++[(k,v)]) (es++[e]):=by
 refine⟨by simp[h.1],λi hi hi'=>?_⟩;have hl:=h.1;rcases Nat.lt_or_ge i m.length with h'|h'
 ·have:=h.2 i h' (by omega)
  rw[List.getElem_append_left h',List.getElem_append_left (by omega)];exact this
 ·have:i=m.length:=by simp at hi;omega
  subst this;rw[List.getElem_append_right (by omega),List.getElem_append_right (by omega)];simp[h1,h2,hl]
theorem RelM.modify{K:Gh}{m:List (AV×AV)}{es:List MapEntry}(h:RelM K m es)(j:Nat){f:AV×AV->AV×AV}{g:MapEntry->MapEntry}(hfg:∀p e,Rel K p.1 e.key->Rel K p.2 e.val->Rel K (f p).1 (g e).key/\Rel K (f p).2 (g e).val):RelM K (m.modify j f) (es.modify j g):=by
 refine⟨by simp[h.1],λi hi hi'=>?_⟩;simp only[List.length_modify] at hi hi';have:=h.2 i hi hi'
 rw[List.getElem_modify,List.getElem_modify];split
 ·exact hfg _ _ this.1 this.2
 ·exact this
theorem E2{K:Gh}{w:World}(hs:Sat K σ w){ob r:Nat}{d:Bool}{m:List (AV×AV)}{es:Array MapEntry}{clock:Nat}(hl:σ ob=some (.map d m))(hown:K.own ob=some (.map r))(hm:MapAt K w r d m es clock)
  {k v:AV}{kv vv:Value}(rk:Rel K k kv)(rv:Rel K v vv):
  Sat K (aH σ ob (.map d (m++[(k,v)]))) {w with heap:=w.heap.setIfInBounds r (.map (es.push {key:=kv,val:=vv,born:=clock}) (clock+1))}:=by
 refine hs.mapSet hl hown hm (by rw[Array.toList_push];exact hm.rel.push rk rv) (λi h=>?_) (λi j h h' e=>?_) (λhd=>?_)
 ·rw[Array.getElem_push];split
  ·have:=hm.lt i ‹_›;omega
  ·simp
 ·rw[Array.getElem_push,Array.getElem_push] at e;simp only[Array.size_push] at h h';split at e<;>split at e
  ·exact hm.inj i j _ _ e
  ·have:=hm.lt i ‹_›;simp at e;omega
  ·have:=hm.lt j ‹_›;simp at e;omega
  ·omega
 ·obtain⟨d1,d2⟩:=hm.dense hd;refine⟨by simp[d1],λi h=>?_⟩;rw[Array.getElem_push];split
  ·exact d2 i _
  ·simp only[Array.size_push] at h;simp;omega
theorem E3{K:Gh}{w:World}(hs:Sat K σ w){ob r:Nat}{d:Bool}{m:List (AV×AV)}{es:Array MapEntry}{clock:Nat}(hl:σ ob=some (.map d m))(hown:K.own ob=some (.map r))(hm:MapAt K w r d m es clock)(j:Nat)
  {f:AV×AV->AV×AV}{g:MapEntry->MapEntry}(hfg:∀p e,Rel K p.1 e.key->Rel K p.2 e.val->Rel K (f p).1 (g e).key/\Rel K (f p).2 (g e).val)(hb:∀e,(g e).born=e.born):
  Sat K (aH σ ob (.map d (m.modify j f))) {w with heap:=w.heap.setIfInBounds r (.map (es.modify j g) clock)}:=by
 have eb:∀i,(h:i<(es.modify j g).size)->(es.modify j g)[i].born=(es[i]'(by simpa using h)).born:=λi h=>by
  rw[Array.getElem_modify];split
  ·exact hb _
  ·rfl
 refine hs.mapSet hl hown hm (by rw[Array.toList_modify];exact hm.rel.modify j hfg) (λi h=>?_) (λi i' h h' e=>?_) (λhd=>?_)
 ·rw[eb];exact hm.lt i _
 ·rw[eb,eb] at e;exact hm.inj i i' _ _ e
 ·obtain⟨d1,d2⟩:=hm.dense hd;exact⟨by simp[d1],λi h=>by rw[eb];exact d2 i _⟩
theorem zg{old new:Value}(h:Instr.sameBits 10000 old new=true)(w:World):(Instr.keyThatStays old new).run P w= .ok new w:=by
 simp[Instr.keyThatStays,h]
theorem xP{t kt e m k v kk am ak av}(ho:o.op= .mapUpdate t m k v\/o.op= .insert t m k v)(hd:o.dst=none)(hu:P.underlying t=some (.map kt e))(hk:ol P kt=some kk)(hm:aE m=some am)(hk':aE k=some ak)(hv:aE v=some av)
  (h:aJ nm env σ R (.ext (.mset kk am ak av))):OpOk P o N env σ nm R:=by
 intro S K a w hf hs _ _;obtain⟨mv,h1,h2⟩:=aG h;obtain⟨kv,h3,h4⟩:=aG h2;obtain⟨vv,h5,h6⟩:=aG h4;have rm:=trOpnd_rel hm h1 hf;have rk:=trOpnd_rel hk' h3 hf;have rv:=trOpnd_rel hv h5 hf;cases mv<;>simp only[] at h6<;>first|exact h6.elim|skip
 rename_i ob
 obtain⟨r,he,hown⟩:=xO rm;split at h6
 ·rename_i d l hl
  obtain⟨h7,h8⟩:=h6;obtain⟨l',h9,h10⟩:=jp h8;obtain⟨es,clock,hma⟩:=tM hs hl hown;rw[tK] at h9;simp only[Option.map_eq_some_iff] at h9;obtain⟨oi,h11,h12⟩:=h9;have hfind:=oM hk rk w hma.rel h11;have hcheck:=mf hk h7 rk false w
  have exe:∀{w'},(Instr.mapUpdate t (.map (some r)) (a.eval k) (a.eval v)).run P w= .ok () w'->(execOp a.eval o).run P w= .ok .skip w':=by
   intro w' hr;rcases ho with ho|ho<;>simp[execOp,ho,he,hr]
  cases oi with
  |none=>
   simp at h12;subst h12
   refine⟨K, .tup [],some (ob,_),undef,_, .inr ⟨exe ?_,hd⟩,Gh.leS.refl K, .tupL .nil,E2 hs hl hown hma rk rv,h10⟩;simp[Instr.mapUpdate,aB hu,MapKept.run_getObj_map hma.heap,hcheck,hfind,ej,MapKept.run_setObj_map _ hma.heap]
  |some j=>
   simp at h12;subst h12
   obtain⟨q1,p,q2,q3⟩:=sd kk kv h11;have hj:j<es.toList.length:=by rw[<-hma.rel.1];exact q1
   obtain⟨r1,r2⟩:=hma.rel.2 j q1 hj;have hp:l[j]=p:=by rw[List.getElem?_eq_getElem q1] at q2;exact Option.some.inj q2
   rw[hp] at r1;obtain⟨e1,e2⟩:=zc q3 rk r1;have hje:j<es.size:=by simpa using hj
   have hold:(Option.map (λe:MapEntry=>e.key) es[j]?).getD (a.eval k)=a.eval k:=by
    rw[Array.getElem?_eq_getElem hje];simp;rw[e1];simp
   have hst:Instr.sameBits 10000 (a.eval k) (a.eval k)=true:=by rw[<-e1] at e2;exact e2
   refine⟨K, .tup [],some (ob,_),undef,_, .inr ⟨exe ?_,hd⟩,Gh.leS.refl K, .tupL .nil,
    E3 hs hl hown hma j (f:=λ_=>(kv,vv)) (g:=λe=>{e with key:=a.eval k,val:=a.eval v}) (λp e _ _=>⟨rk,rv⟩) (λe=>rfl),h10⟩
   simp[Instr.mapUpdate,aB hu,MapKept.run_getObj_map hma.heap,hcheck,hfind,ej,hold,zg hst,MapKept.run_setObj_map _ hma.heap]
 ·exact h6.elim
theorem tN{op t x y yt ne ax ay}(ho:o.op= .binOp op t x y yt)(hop:op= .eql/\ne=false\/op= .neq/\ne=true)(hu:EL P t=true)(hn:sa ay=true)(hx:aE x=some ax)(hy:aE y=some ay)
  (h:aJ nm env σ R (.ext (.isnil ne ax))):OpOk P o N env σ nm R:=by
 refine .still λK a w hf hs=>?_;obtain⟨av,h1,h2⟩:=aG h;have ra:=trOpnd_rel hx h1 hf
 obtain⟨e,hut⟩:∃e,P.underlying t=some (.slice e):=by
  unfold EL at hu;split at hu
  ·exact⟨_,by assumption⟩
  ·simp at hu
 have hay:ay= .c (.slice [] .nil):=by
  unfold sa at hn;split at hn
  ·rfl
  ·simp at hn
 subst hay;have rb:Rel K (.slice [] .nil) (a.eval y):=trOpnd_rel hy rfl hf
 have eb:a.eval y= .slice none 0 0:=by
  generalize a.eval y=vy at rb;cases rb with
  |sl0 a0 cap t ht=>
   rcases ht with h|⟨h,_⟩|⟨_,rfl,rfl⟩|⟨_,_,_,h,_⟩
   ·simp at h
   ·simp at h
   ·rfl
   ·simp at h
  |slice l t b off cap sz v hsz hc hr ht hcap=>exact ht.elim
 have key:∀{a0:Option Addr} {n cap:Nat} {v:Bool},a.eval x= .slice a0 n cap->(ne=false->v=a0.isNone)->(ne=true->v= !a0.isNone)->(execOp a.eval o).run P w= .ok (.value (.bool v)) w:=fun{a0 n cap v} ea h1 h2=>by
  have hq':∀d,(Op.equalIn (d+1) t (.slice a0 n cap) (.slice none 0 0)).run P w= .ok a0.isNone w:=λd=>by
   cases a0<;>simp[Op.equalIn,aB hut]
  have hq:(Op.equalIn 10000 t (.slice a0 n cap) (.slice none 0 0)).run P w= .ok a0.isNone w:=hq' 9999
  have hg:∀op,(eqGuard op t x y (.slice a0 n cap) (.slice none 0 0)).run P w= .ok () w:=λop=>by
   unfold eqGuard;split<;>rfl
  rcases hop with ⟨rfl,rfl⟩|⟨rfl,rfl⟩
  ·simp only[execOp,ho,ea,eb,Sem.run_bind,hg,Result.andThen_ok,binOp,Op.equal,Op.maxDepth,hq,Sem.run_pure,h1 rfl]
  ·simp only[execOp,ho,ea,eb,Sem.run_bind,hg,Result.andThen_ok,binOp,Op.equal,Op.maxDepth,hq,Sem.run_pure,h2 rfl]
 cases av<;>first|exact h2.elim|skip
 rename_i l t'
 by_cases hl:l=[]
 ·subst hl;obtain⟨k1,k2⟩:=h2.1 rfl
  obtain⟨a0,n,cap,ea⟩:∃a0 n cap,a.eval x= .slice a0 n cap:=by
   generalize a.eval x=vx at ra;cases ra with
   |sl0 a0 cap t ht=>exact⟨_,_,_,rfl⟩
   |slice l t b off cap sz v hsz hc hr ht hcap=>exact⟨_,_,_,rfl⟩
  obtain⟨v,hv1,hv2⟩:∃v:Bool,(ne=false->v=a0.isNone)/\(ne=true->v= !a0.isNone):=by
   cases ne
   ·exact⟨a0.isNone,λ_=>rfl,λh=>by simp at h⟩
   ·exact⟨!a0.isNone,λh=>by simp at h,λ_=>rfl⟩
  refine⟨_, .bool v,key ea hv1 hv2, .bool _,?_⟩;cases v
  ·exact k2
  ·exact k1
 ·have k:=h2.2 hl
  obtain⟨b,off,cap,ea⟩:∃b off cap,a.eval x= .slice (some ⟨b,off,none⟩) l.length cap:=by
   generalize a.eval x=vx at ra;cases ra with
   |sl0 a0 cap t ht=>exact absurd rfl hl
   |slice l t b off cap sz v hsz hc hr ht hcap=>exact⟨_,_,_,rfl⟩
  exact⟨_, .bool ne,key ea (λh=>by rw[h];rfl) (λh=>by rw[h];rfl), .bool _,k⟩
end ops
end Abs
