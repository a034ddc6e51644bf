/- The abstraction layer, part F: operations on slices, structs and arrays. Over any program. -/
import Derived.Calls
import Derived.RowKit3
import Derived.Laws.World
import Derived.Laws.Sem
import Derived.Laws.Rows
import Derived.Laws.CopyRow
import Derived.Laws.Strings
import Derived.Laws.Append
import Derived.Laws.AppendOwn
import Derived.Laws.MakeOwn
set_option linter.unusedSimpArgs false
set_option linter.unusedVariables false
namespace Abs
open Go
inductive Tok where
 |no|nil|full|own(t:Nat)
inductive AV where
 |int(k:IntKind)(n:Int)
 |bool(b:Bool)
 |str(s:ByteArray)
 |nilp
 |ptr(o off:Nat)
 |eptr(o n off:Nat)
 |cptr(cs:List AV)
 |slice(l:List AV)(t:Tok)
 |vec(o len:Nat)
 |pre(o len n:Nat)
 |raw(o len:Nat)
 |agg(cs:List AV)
 |tup(vs:List AV)
 |map(o:Nat)
 |nilmap
 |fn(f:Nat)(first caps:List AV)
 |nilfn
 |iface(t:Nat)(v:AV)
 |nili
 deriving Inhabited
def az:AV->List AV
 | .agg cs=>cs
 |v=>[v]
def flat(l:List AV):List AV:=l.flatMap az
inductive AObj where
 |cells(cs:List AV)
 |vec(sz n:Nat)(cs:List AV)
 |grow(sz n:Nat)
 |map(d:Bool)(m:List (AV×AV))
 |virt(sz:Nat)
 |iter(m n:Nat)(seen:List Nat)
 |pin(x:Obj)
inductive Own where
 |obj(b:Nat)
 |vec(b cap sz n:Nat)
 |buf(b cap sz n:Nat)
 |map(r:Nat)
 |virt(sz:Nat)
 |full(sz n:Nat)
 |iter(r:Nat)
 |pin(r:Nat)
def Own.real:Own->Bool
 | .virt _=>false
 | .full _ _=>false
 |_=>true
def Own.blk:Own->Nat
 | .obj b=>b| .vec b _ _ _=>b| .buf b _ _ _=>b| .map r=>r| .virt _=>0| .full _ _=>0| .iter r=>r| .pin r=>r
def Own.fixed:Own->Bool
 | .obj _=>true| .vec _ _ _ _=>false| .buf _ _ _ _=>false| .map _=>false| .virt _=>false| .full _ _=>false| .iter _=>true| .pin _=>false
def Own.le:Own->Own->Prop
 | .buf b cap sz n, .buf b' cap' sz' n'=>sz=sz'/\n<=n'/\(n=n'->b=b'/\cap=cap')
 | .vec b cap sz n, .vec b' cap' sz' n'=>sz=sz'/\n<=n'/\(n=n'->b=b'/\cap=cap')
 | .vec b cap sz n, .buf b' cap' sz' n'=>sz=sz'/\n<=n'/\(n=n'->b=b'/\cap=cap')
 | .virt sz, .buf _ _ sz' n'=>sz=sz'/\0<n'
 | .full sz n, .buf _ _ sz' n'=>sz=sz'/\n<n'
 |a,b=>a=b
theorem Own.le_refl(a:Own):a.le a:=by cases a<;>simp[Own.le]
theorem Own.le_trans{a b c:Own}(h:a.le b)(h':b.le c):a.le c:=by
 cases a<;>cases b<;>simp[Own.le] at h<;>cases c<;>simp[Own.le] at h'|- <;>simp_all
 case virt.buf.buf=>omega
 case full.buf.buf=>omega
 all_goals
  obtain⟨_,h2,h3⟩:=h;obtain⟨_,k2,k3⟩:=h';refine⟨by omega,λe=>?_⟩;have:=h3 (by omega);have:=k3 (by omega);simp_all
structure Gh where
 base:World
 claim:Nat->Nat->Option Value
 own:Nat->Option Own
 ds:List Deferred
structure Gh.le(K K':Gh):Prop where
 base:K'.base=K.base
 claim:∀b o v,K.claim b o=some v->K'.claim b o=some v
 own:∀o x,K.own o=some x->∃x',K'.own o=some x'/\x.le x'
 ds:K'.ds=K.ds
theorem Gh.le.refl(K:Gh):K.le K:=⟨rfl,λ_ _ _ h=>h,λ_ x h=>⟨x,h,Own.le_refl x⟩,rfl⟩
theorem Gh.le.trans{K K' K'':Gh}(h:K.le K')(h':K'.le K''):K.le K'':=
 ⟨h'.base.trans h.base,λb o v e=>h'.claim b o v (h.claim b o v e),λo x e=>by
  obtain⟨x',e',l⟩:=h.own o x e;obtain⟨x'',e'',l'⟩:=h'.own o x' e';exact⟨x'',e'',Own.le_trans l l'⟩,h'.ds.trans h.ds⟩
def TokOk(K:Gh)(t:Tok)(len b off cap sz:Nat):Prop:=
 match t with
 | .no=>True
 | .nil=>False
 | .full=>cap=len
 | .own o=>(∃b' cap' n,K.own o=some (.buf b' cap' sz n)/\len<=n/\(len=n->b=b'/\off=0/\cap=cap'))\/∃n,K.own o=some (.full sz n)/\len<=n/\(len=n->cap=len)
theorem TokOk.mono{K K':Gh}(hK:K.le K'){t:Tok}{len b off cap sz:Nat}(h:TokOk K t len b off cap sz):TokOk K' t len b off cap sz:=by
 cases t with
 |no=>trivial
 |nil=>exact h
 |full=>exact h
 |own o=>
  rcases h with ⟨b',cap',n,e,hl,hn⟩|⟨n,e,hl,hn⟩
  ·obtain⟨x',e',l⟩:=hK.own o _ e;cases x'<;>simp[Own.le] at l
   rename_i b'' cap'' sz'' n''
   obtain⟨rfl,l2,l3⟩:=l;refine .inl ⟨b'',cap'',n'',e',by omega,λe=>?_⟩;have:=l3 (by omega);have:=hn (by omega);simp_all
  ·obtain⟨x',e',l⟩:=hK.own o _ e;cases x'<;>simp[Own.le] at l
   ·obtain⟨rfl,l2⟩:=l;exact .inl ⟨_,_,_,e',by omega,λh=>by omega⟩
   ·obtain⟨rfl,rfl⟩:=l;exact .inr ⟨n,e',hl,hn⟩
def VecOk(K:Gh)(o len b cap:Nat):Prop:=∃b' cap' sz n,(K.own o=some (.vec b' cap' sz n)\/K.own o=some (.buf b' cap' sz n))/\len<=n/\(len=n->b=b'/\cap=cap')
theorem VecOk.mono{K K':Gh}(hK:K.le K'){o len b cap:Nat}(h:VecOk K o len b cap):VecOk K' o len b cap:=by
 obtain⟨b',cap',sz,n,e|e,hl,hn⟩:=h
 all_goals
  obtain⟨x',e',l⟩:=hK.own o _ e;cases x'<;>simp[Own.le] at l
  all_goals
   obtain⟨rfl,l2,l3⟩:=l;refine⟨_,_,_,_,by first|exact .inl e'|exact .inr e',by omega,λh=>?_⟩;have:=l3 (by omega);have:=hn (by omega);simp_all
def NilOwn(K:Gh)(o:Nat):Prop:=∃sz,K.own o=some (.virt sz)\/∃b c n,K.own o=some (.buf b c sz n)/\0<n
theorem NilOwn.mono{K K':Gh}(hK:K.le K'){o:Nat}(h:NilOwn K o):NilOwn K' o:=by
 obtain⟨sz,h|⟨b,c,n,h,hn⟩⟩:=h
 ·obtain⟨x',e,l⟩:=hK.own o _ h;cases x'<;>simp[Own.le] at l
  ·obtain⟨rfl,hn⟩:=l;exact⟨_, .inr ⟨_,_,_,e,hn⟩⟩
  ·exact⟨_, .inl e⟩
 ·obtain⟨x',e,l⟩:=hK.own o _ h;cases x'<;>simp[Own.le] at l
  exact⟨_, .inr ⟨_,_,_,e,by omega⟩⟩
inductive Rel(K:Gh):AV->Value->Prop
 |int (k n):Rel K (.int k n) (.int k n)
 |bool (b):Rel K (.bool b) (.bool b)
 |str (s):Rel K (.str s) (.string s)
 |nilp:Rel K .nilp (.pointer none)
 |ptr (o off e) (h:K.own o=some e) (hk:e.fixed=true):Rel K (.ptr o off) (.pointer (some ⟨e.blk,off,none⟩))
 |eptr (o n off b cap) (h:VecOk K o n b cap):Rel K (.eptr o n off) (.pointer (some ⟨b,off,none⟩))
 | cptr (cs : List AV) (b off : Nat) (v : Nat -> Value) (hc : ∀ i, i < cs.length -> K.claim b (off + i) = some (v i))
   (hr:∀i,(h:i<cs.length)->Rel K cs[i] (v i)):Rel K (.cptr cs) (.pointer (some ⟨b,off,none⟩))
 |sl0 (a cap t) (ht:t= .no\/t= .full/\cap=0\/t= .nil/\a=none/\cap=0\/(a=none/\cap=0/\∃o,t= .own o/\NilOwn K o)):Rel K (.slice [] t) (.slice a 0 cap)
 | slice (l : List AV) (t : Tok) (b off cap sz : Nat) (v : Nat -> Value) (hsz : ∀ x ∈ l, (az x).length = sz)
   (hc:∀i,i<(flat l).length->K.claim b (off+i)=some (v i)) (hr:∀i,(h:i<(flat l).length)->Rel K (flat l)[i] (v i))
   (ht:TokOk K t l.length b off cap sz) (hcap:l.length<=cap):Rel K (.slice l t) (.slice (some ⟨b,off,none⟩) l.length cap)
 |vec (o len b cap) (h:VecOk K o len b cap) (hl:len<=cap):Rel K (.vec o len) (.slice (some ⟨b,0,none⟩) len cap)
 |pre (o len n b cap) (h:VecOk K o n b cap) (h1:len<=n) (hl:n<=cap):Rel K (.pre o len n) (.slice (some ⟨b,0,none⟩) len cap)
 |raw (o len b cap sz) (h:TokOk K (.own o) 0 b 0 cap sz) (hl:len<=cap):Rel K (.raw o len) (.slice (some ⟨b,0,none⟩) len cap)
 |agg (cs:List AV) (vs:Array Value) (hs:cs.length=vs.size) (hr:∀i,(h:i<cs.length)->(h':i<vs.size)->Rel K cs[i] vs[i]):Rel K (.agg cs) (.agg vs)
 |tup (cs:List AV) (vs:Array Value) (hs:cs.length=vs.size) (hr:∀i,(h:i<cs.length)->(h':i<vs.size)->Rel K cs[i] vs[i]):Rel K (.tup cs) (.tuple vs)
 |map (o r) (h:K.own o=some (.map r)):Rel K (.map o) (.map (some r))
 |nilmap:Rel K .nilmap (.map none)
 | fn (f) (first caps : List AV) (fs cs : Array Value) (h1 : first.length = fs.size) (h2 : caps.length = cs.size)
   (r1:∀i,(h:i<first.length)->(h':i<fs.size)->Rel K first[i] fs[i]) (r2:∀i,(h:i<caps.length)->(h':i<cs.size)->Rel K caps[i] cs[i]):
   Rel K (.fn f first caps) (.func (.func f) fs cs)
 |nilfn:Rel K .nilfn .nilFunc
 |iface (t a v) (h:Rel K a v):Rel K (.iface t a) (.iface t v)
 |nili:Rel K .nili .nilIface
theorem Rel.mono{K K':Gh}(hK:K.le K'){a:AV}{v:Value}(h:Rel K a v):Rel K' a v:=by
 induction h with
 |int k n=>exact .int k n
 |bool b=>exact .bool b
 |str s=>exact .str s
 |nilp=>exact .nilp
 |ptr o off e h hk=>
  obtain⟨x',e',l⟩:=hK.own o _ h;cases e<;>simp[Own.fixed] at hk<;>(simp only[Own.le] at l;exact .ptr o off _ (l▸e') rfl)
 |cptr cs b off v hc hr ih=>exact .cptr cs b off v (λi h=>hK.claim _ _ _ (hc i h)) ih
 |sl0 a cap t ht=>
  refine .sl0 a cap t ?_;rcases ht with h|h|h|⟨h1,h2,o,h3,h4⟩
  ·exact .inl h
  ·exact .inr (.inl h)
  ·exact .inr (.inr (.inl h))
  ·exact .inr (.inr (.inr ⟨h1,h2,o,h3,h4.mono hK⟩))
 |slice l t b off cap sz v hsz hc hr ht hcap ih=>exact .slice l t b off cap sz v hsz (λi h=>hK.claim _ _ _ (hc i h)) ih (ht.mono hK) hcap
 |eptr o n off b cap h=>exact .eptr o n off b cap (h.mono hK)
 |vec o len b cap h hl=>exact .vec o len b cap (h.mono hK) hl
 |pre o len n b cap h h1 hl=>exact .pre o len n b cap (h.mono hK) h1 hl
 |raw o len b cap sz h hl=>exact .raw o len b cap sz (h.mono hK) hl
 |agg cs vs hs hr ih=>exact .agg cs vs hs ih
 |tup cs vs hs hr ih=>exact .tup cs vs hs ih
 |map o r h=>
  obtain⟨x',e',l⟩:=hK.own o _ h;simp only[Own.le] at l;exact .map o r (l▸e')
 |nilmap=>exact .nilmap
 |fn f first caps fs cs h1 h2 r1 r2 i1 i2=>exact .fn f first caps fs cs h1 h2 i1 i2
 |nilfn=>exact .nilfn
 |iface t a v h ih=>exact .iface t a v ih
 |nili=>exact .nili
def RelL(K:Gh)(cs:List AV)(vs:List Value):Prop:=cs.length=vs.length/\∀i,(h:i<cs.length)->(h':i<vs.length)->Rel K cs[i] vs[i]
theorem RelL.mono{K K':Gh}(hK:K.le K'){cs vs}(h:RelL K cs vs):RelL K' cs vs:=⟨h.1,λi h1 h2=>(h.2 i h1 h2).mono hK⟩
abbrev aA:=Nat->Option AObj
def aH(σ:aA)(o:Nat)(x:AObj):aA:=λi=>if i=o then some x else σ i
theorem eS(σ:aA)(o x):aH σ o x o=some x:=by simp[aH]
theorem md(σ:aA)(o o' x)(h:o'≠o):aH σ o x o'=σ o':=by simp[aH,h]
theorem nF(σ:aA)(o x y):aH (aH σ o x) o y=aH σ o y:=by funext i;simp only[aH];split<;>rfl
def ObjSat(K:Gh)(w:World):Own->AObj->Prop
 | .obj b, .cells cs=>K.base.heap.size<=b/\(∃c el,w.heap[b]?=some (.cells c el (0,0))/\RelL K cs c.toList)/\∀i,K.claim b i=none
 | .vec b cap sz n, .vec sz' n' cs => sz = sz' /\ n = n' /\ cs.length = n * sz /\ (n <= cap /\ (sz = 1 -> cap <= 9223372036854775807)) /\ K.base.heap.size <= b /\ (∃ c el, w.heap[b]? = some (.cells c el (0, 0)) /\ c.size = cap * sz /\
   ∀i,(h:i<cs.length)->(h':i<c.size)->Rel K cs[i] c[i]/\c[i].oneCell'=true)/\∀i,K.claim b i=none
 | .buf b cap sz n, .grow sz' n'=>sz=sz'/\n=n'/\n<=cap/\K.base.heap.size<=b/\(∃c el,w.heap[b]?=some (.cells c el (0,0))/\c.size=cap*sz)/\∀i,n*sz<=i->K.claim b i=none
 | .map r, .map d m => K.base.heap.size <= r /\ ∃ es clock, w.heap[r]? = some (.map es clock) /\ es.size = m.length /\
   (∀i,(h:i<m.length)->(h':i<es.size)->Rel K m[i].1 es[i].key/\Rel K m[i].2 es[i].val)/\(∀i,(h:i<es.size)->es[i].born<clock)/\
   (∀i j,(h:i<es.size)->(h':j<es.size)->es[i].born=es[j].born->i=j)/\(d=true->clock=es.size/\∀i,(h:i<es.size)->es[i].born=i)
 | .iter r, .iter m n seen=>K.base.heap.size<=r/\(∃rm,K.own m=some (.map rm)/\w.heap[r]?=some (.mapIter (some rm) n seen.toArray n))/\∀i,K.claim r i=none
 | .pin r, .pin x=>K.base.heap.size<=r/\w.heap[r]?=some x/\∀i,K.claim r i=none
 | .virt sz, .grow sz' n=>sz=sz'/\n=0
 | .virt sz, .virt sz'=>sz=sz'
 | .full sz n, .grow sz' n'=>sz=sz'/\n=n'
 |_,_=>False
structure Sat(K:Gh)(σ:aA)(w:World):Prop where
 os:w.os=K.base.os
 tape:w.tape=K.base.tape
 output:w.output=K.base.output
 size:K.base.heap.size<=w.heap.size
 old:∀b,b<K.base.heap.size->w.heap[b]?=K.base.heap[b]?
 free:∀b o,K.base.heap.size<=b->w.frozen? ⟨b,o,none⟩=false
 claim:∀b o v,K.claim b o=some v->w.cell? ⟨b,o,none⟩=some v
 one:∀b o v,K.claim b o=some v->v.oneCell'=true
 live:∀o x,σ o=some x->∃e,K.own o=some e/\ObjSat K w e x
 apart:∀o o' x x' e e',σ o=some x->σ o'=some x'->o≠o'->K.own o=some e->K.own o'=some e'->e.real=true->e'.real=true->e.blk≠e'.blk
 room:∃n,∀o,n<=o->K.own o=none
def Sub(σ' σ:aA):Prop:=∀o x,σ' o=some x->σ o=some x
theorem Sub.refl(σ:aA):Sub σ σ:=λ_ _ h=>h
theorem Sub.trans{a b c:aA}(h:Sub a b)(h':Sub b c):Sub a c:=λo x e=>h' o x (h o x e)
theorem Sub.upd_fresh{σ:aA}{o:Nat}{x:AObj}(h:σ o=none):Sub σ (aH σ o x):=λi y e=>by
 have:i≠o:=λe'=>by subst e';simp[h] at e
 simp[aH,this,e]
theorem Sat.sub{K σ σ' w}(h:Sat K σ w)(hs:Sub σ' σ):Sat K σ' w:=
 {h with live:=λo x e=>h.live o x (hs o x e),apart:=λo o' x x' e e' h1 h2=>h.apart o o' x x' e e' (hs _ _ h1) (hs _ _ h2)}
end Abs
namespace Abs
open Go
abbrev bg:=List (Nat×Option AV)
def lk:bg->Nat->Option AV
 |[],_=>none
 |(j,v)::e,i=>if i=j then v else lk e i
inductive AOpnd where
 |t(n:Nat)
 |c(v:AV)
 |m(n:Nat)(tbl:List (Nat×Nat))
def r7(t:Nat):List (Nat×Nat)->Option Nat
 |[]=>none
 |(a,f)::r=>if t=a then some f else r7 t r
def xJ(tbl:List (Nat×Nat)):Option AV->Option AV
 |some (.iface t v)=>(r7 t tbl).map λf=> .fn f [v] []
 |_=>none
def aval(env:bg):AOpnd->Option AV
 | .t n=>lk env n
 | .c v=>some v
 | .m n tbl=>xJ tbl (lk env n)
inductive Tg.{u}{α:Sort u}(a:α):Type
 |mk
def bh(x:Option AV)(R:AV->Prop)(_:Tg R:= .mk):Prop:=
 match x with
 |some a=>R a
 |none=>False
def cK(env:bg):List AOpnd->Option (List AV)
 |[]=>some []
 |x::xs=>match aval env x,cK env xs with
  |some a,some l=>some (a::l)
  |_,_=>none
def gj(x:Option (List AV))(R:List AV->Prop)(_:Tg R:= .mk):Prop:=
 match x with
 |some a=>R a
 |none=>False
def bY:AV->Bool
 | .agg _=>false
 | .tup _=>false
 |_=>true
def putAt(cs:List AV)(off:Nat)(xs:List AV):List AV:=cs.take off++xs++cs.drop (off+xs.length)
def eE(g:Bool)(cs:List AV):Option AV:=
 if g then some (.agg cs) else cs.head?
inductive KK where
 |one(k:Nat)
 |row(ks:List Nat)
inductive XOp where
 |mkmap
 |look(kk:KK)(z:AV)(c:Bool)(x i:AOpnd)
 |mset(kk:KK)(m k v:AOpnd)
 |isnil(ne:Bool)(x:AOpnd)
 |bsliceG(sz:Nat)(ps:List AOpnd)
 |vmake(sz bytes:Nat)(z:List AV)(g:Bool)(l c:AOpnd)
 |vapp(sz bytes:Nat)(s x:AOpnd)
 |vfrz(g:Bool)(x:AOpnd)
 |retok(sz:Nat)(x:AOpnd)
inductive AOp where
 |mov(x:AOpnd)
 |pick(c a b:AOpnd)
 |alloc(z:List AV)
 |box(x:AOpnd)
 |boxI(x:AOpnd)
 |build(z:List AV)(parts:List (Nat×Nat×AOpnd))
 |bslice(sz:Nat)(parts:List AOpnd)
 |load(g:Bool)(n:Nat)(x:AOpnd)
 |store(n:Nat)(a x:AOpnd)
 |nilchk(x:AOpnd)
 |bin(op:BinOp)(tb:Bool)(x y:AOpnd)
 |eqs(neg:Bool)(ks:List Nat)(x y:AOpnd)
 |un(op:UnOp)(x:AOpnd)
 |conv(k:IntKind)(x:AOpnd)
 |mkfn(f:Nat)(first caps:List AOpnd)
 |fldA(off:Nat)(x:AOpnd)
 |fldV(g:Bool)(off n:Nat)(x:AOpnd)
 |idxS(sz:Nat)(x i:AOpnd)
 |idxR(sz len:Nat)(x i:AOpnd)
 |slc(sz:Nat)(x:AOpnd)(lo hi mx:Option AOpnd)
 |extract(x:AOpnd)(i:Nat)
 |call(f:AOpnd)(args:List AOpnd)
 |len(x:AOpnd)
 |cap(x:AOpnd)
 |append(sz bytes:Nat)(s x:AOpnd)
 |appz(sz bytes:Nat)(s x:AOpnd)
 |slcN(sz:Nat)(x:AOpnd)(lo hi mx:Option AOpnd)
 |slcR(sz:Nat)(x:AOpnd)(lo hi mx:Option AOpnd)
 |min(xs:List AOpnd)
 |max(xs:List AOpnd)
 |mkslice(sz bytes:Nat)(z:List AV)(g:Bool)(l c:AOpnd)
 |mkiface(t:Nat)(x:AOpnd)
 |panic(x:AOpnd)
 |ext(x:XOp)
structure AInst where
 dst:Option Nat
 op:AOp
 guard:Option (Nat×Bool)
inductive ACode where
 |skip
 |reg(is:List AInst)
 |drw(is:List AInst)(pairs:List (Nat×Nat))
 |seq(a b:ACode)
 |cut(a b:ACode)
 |cond(c:AOpnd)(thn els:ACode)
 |block(id:Nat)(body:ACode)
 |loop(body:ACode)
 |exit(id:Nat)
 |ret
inductive AExit where
 |normal
 |exit(id:Nat)
 |ret
 |panic(v:AV)
inductive ARes where
 |ret(v:AV)
 |panic(v:AV)
def EJ(op:BinOp)(tb:Bool):AV->AV->Option AV
 | .int k a, .int k' b=>
  match op with
  | .shl=>if b<0 then none else some (.int k (k.wrap (a*2^(Nat.min b.toNat k.bits))))
  | .shr=>if b<0 then none else some (.int k (a.fdiv (2^(Nat.min b.toNat k.bits))))
  | .add=>if k=k' then some (.int k (k.wrap (a+b))) else none
  | .sub=>if k=k' then some (.int k (k.wrap (a-b))) else none
  | .mul=>if k=k' then some (.int k (k.wrap (a*b))) else none
  | .quo=>if k=k' then (if b=0 then none else some (.int k (k.wrap (a.tdiv b)))) else none
  | .rem=>if k=k' then (if b=0 then none else some (.int k (a.tmod b))) else none
  | .and=>if k=k' then some (.int k (k.wrap (BitVec.ofInt k.bits a&&& BitVec.ofInt k.bits b).toNat)) else none
  | .or=>if k=k' then some (.int k (k.wrap (BitVec.ofInt k.bits a|||BitVec.ofInt k.bits b).toNat)) else none
  | .xor=>if k=k' then some (.int k (k.wrap (BitVec.ofInt k.bits a ^^^ BitVec.ofInt k.bits b).toNat)) else none
  | .andNot=>if k=k' then some (.int k (k.wrap (BitVec.ofInt k.bits a&&& ~~~ BitVec.ofInt k.bits b).toNat)) else none
  | .eql=>if k=k' then some (.bool (a==b)) else none
  | .neq=>if k=k' then some (.bool (a != b)) else none
  | .lss=>if k=k' then some (.bool (decide (a<b))) else none
  | .leq=>if k=k' then some (.bool (decide (a<=b))) else none
  | .gtr=>if k=k' then some (.bool (decide (a>b))) else none
  | .geq=>if k=k' then some (.bool (decide (a≥b))) else none
 | .bool a, .bool b=>
  match op with
  | .eql=>if tb then some (.bool (a==b)) else none
  | .neq=>if tb then some (.bool (!(a==b))) else none
  |_=>none
 | .str a, .str b=>
  match op with
  | .eql=>some (.bool (a.toList==b.toList))
  | .neq=>some (.bool (!(a.toList==b.toList)))
  |_=>none
 |_,_=>none
def qK:Nat->AV->AV->Option Bool
 |0, .int k a, .int k' b=>if k=k' then some (a==b) else none
 |1, .bool a, .bool b=>some (a==b)
 |2, .str a, .str b=>some (a.toList==b.toList)
 |_,_,_=>none
def bw:List Nat->List AV->List AV->Option Bool
 |[],[],[]=>some true
 |k::ks,a::l,b::m=>match qK k a b,bw ks l m with
  |some p,some r=>some (p&&r)
  |_,_=>none
 |_,_,_=>none
def gg:KK->AV->AV->Option Bool
 | .one k,a,b=>qK k a b
 | .row ks, .agg l, .agg m=>bw ks l m
 |_,_,_=>none
def kh(kk:KK)(k:AV):Bool:=(gg kk k k).isSome
def kU(kk:KK)(k:AV):List (AV×AV)->Option (Option AV)
 |[]=>some none
 |(a,v)::r=>match gg kk k a with
  |some true=>some (some v)
  |some false=>kU kk k r
  |none=>none
def tE(kk:KK)(k v:AV):List (AV×AV)->Option (List (AV×AV))
 |[]=>some [(k,v)]
 |(a,u)::r=>match gg kk k a with
  |some true=>some ((k,v)::r)
  |some false=>(tE kk k v r).map ((a,u)::·)
  |none=>none
def Bj{α:Type}(x:Option α)(R:α->Prop)(_:Tg R:= .mk):Prop:=
 match x with
 |some a=>R a
 |none=>False
def vB:List AV->Option Int
 |[.int .i64 a]=>some a
 | .int .i64 a:: .int .i64 b::[]=>some (if b<a then b else a)
 | .int .i64 a:: .int .i64 b:: .int .i64 c::[]=>some (if c<(if b<a then b else a) then c else (if b<a then b else a))
 |_=>none
def vC:List AV->Option Int
 |[.int .i64 a]=>some a
 | .int .i64 a:: .int .i64 b::[]=>some (if b>a then b else a)
 | .int .i64 a:: .int .i64 b:: .int .i64 c::[]=>some (if c>(if b>a then b else a) then c else (if b>a then b else a))
 |_=>none
def gV(env:bg)(cs:List AV):List (Nat×Nat×AOpnd)->Option (List AV)
 |[]=>some cs
 |(off,n,x)::r=>
  match aval env x with
  |some a=>if (az a).length=n/\off+n<=cs.length then gV env (putAt cs off (az a)) r else none
  |none=>none
def cV(p:Prop)(k:Prop)(_:Tg k:= .mk):Prop:=p/\k
def fresh(σ:aA)(k:Nat->Prop)(_:Tg k:= .mk):Prop:=∀o,σ o=none->k o
def iy(sz:Nat)(l:List AV):Prop:=∀x∈l,(az x).length=sz
def gh(m:List AV)(a b:Prop)(_:Tg a:= .mk)(_:Tg b:= .mk):Prop:=(m=[]->a)/\(m≠[]->b)
def qq(env:bg)(x:Option AOpnd)(d:Nat)(hi:Nat)(R:Nat->Prop):Prop:=
 match x with
 |none=>R d
 |some o=>bh (aval env o) λa=>match a with
  | .int _ i=>cV (0<=i/\i<=hi) (R i.toNat)
  |_=>False
def fN(σ:aA):Option (Nat×AObj)->aA
 |none=>σ
 |some (o,x)=>aH σ o x
def fk(g:Bool)(sz:Nat):Nat->List AV->Option (List AV)
 |0,_=>some []
 |n+1,cs=>match eE g (cs.take sz),fk g sz n (cs.drop sz) with
  |some a,some l=>some (a::l)
  |_,_=>none
def ME(p:Prop)[Decidable p](a b:Prop)(_:Tg a:= .mk)(_:Tg b:= .mk):Prop:=if p then a else b
theorem LC{p:Prop}[Decidable p]{a b:Prop}{ta:Tg a}{tb:Tg b}(h:p):ME p a b ta tb=a:=if_pos h
theorem LD{p:Prop}[Decidable p]{a b:Prop}{ta:Tg a}{tb:Tg b}(h:¬p):ME p a b ta tb=b:=if_neg h
def IE(t:Nat):List (Nat×Option Nat)->Option (Option Nat)
 |[]=>none
 |(a,k)::r=>if t=a then some k else IE t r
def LF:Option Nat->AV->AV->Option Bool
 |some k,a,b=>qK k a b
 |none, .agg [], .agg []=>some true
 |_,_,_=>none
def vD(F:(Nat->Prop)->Prop)(env:bg)(σ:aA)(R:AV->Option (Nat×AObj)->Prop):XOp->Prop
 | .mkmap=>F λo=>R (.map o) (some (o,(.map true [])))
 | .look kk z c x i=>bh (aval env x) λm=>bh (aval env i) λk=>match m with
  | .map o=>match σ o with
   |some (.map _ l)=>cV (kh kk k=true) (Bj (kU kk k l) λv=>R (if c then .tup [v.getD z, .bool v.isSome] else v.getD z) none)
   |_=>False
  | .nilmap=>cV (kh kk k=true) (R (if c then .tup [z, .bool false] else z) none)
  |_=>False
 | .mset kk m k v=>bh (aval env m) λm=>bh (aval env k) λk=>bh (aval env v) λv=>match m with
  | .map o=>match σ o with
   |some (.map d l)=>cV (kh kk k=true) (Bj (tE kk k v l) λl=>R (.tup []) (some (o,(.map d l))))
   |_=>False
  |_=>False
 | .isnil ne x=>bh (aval env x) λa=>match a with
  | .slice l _=>gh l (R (.bool true) none/\R (.bool false) none) (R (.bool ne) none)
  |_=>False
 | .bsliceG sz ps=>gj (cK env ps) λl=>cV ((l.all λx=>(az x).length==sz&&(az x).all bY)=true) (F λo=>R (.slice l (.own o)) (some (o,(.grow sz l.length))))
 | .vmake sz bytes z g n c=>bh (aval env n) λn=>bh (aval env c) λc=>bh (eE g z) λe=>match n,c with
  | .int .i64 n, .int .i64 c=>cV (az e=z/\z.all bY=true/\0<=n/\n<=c/\c*bytes<=35184372088832) (F λo=>R (.vec o n.toNat) (some (o,(.vec sz n.toNat (List.replicate n.toNat z).flatten))))
  |_,_=>False
 | .vapp sz bytes s x=>bh (aval env s) λs=>bh (aval env x) λx=>match s,x with
  | .vec o len, .slice m _=>match σ o with
   |some (.vec sz' n cs)=>cV (sz'=sz/\len=n/\iy sz m/\(n+m.length)*bytes<=35184372088832) (R (.vec o (n+m.length)) (some (o,(.vec sz (n+m.length) (cs++flat m)))))
   |_=>False
  | .pre o len n, .slice m _=>match σ o with
   | some (.vec sz' n' cs) => cV (sz' = sz /\ n = n' /\ len <= n /\ iy sz m /\ (n + m.length) * bytes <= 35184372088832)
     (if len+m.length<=n then R (.pre o (len+m.length) n) (some (o,(.vec sz n (putAt cs (len*sz) (flat m))))) else R (.vec o (len+m.length)) (some (o,(.vec sz (len+m.length) (cs.take (len*sz)++flat m)))))
   |_=>False
  | .slice l t, .slice m _=>cV (iy sz l/\iy sz m/\(l.length+m.length)*bytes<=35184372088832) (match t with
   | .nil=>gh m (R (.slice l .nil) none) (F λo=>R (.vec o (l.length+m.length)) (some (o,(.vec sz (l.length+m.length) (flat l++flat m)))))
   | .full=>gh m (R (.slice l .full) none) (F λo=>R (.vec o (l.length+m.length)) (some (o,(.vec sz (l.length+m.length) (flat l++flat m)))))
   |_=>False)
  |_,_=>False
 | .vfrz g x=>bh (aval env x) λx=>match x with
  | .vec o len=>match σ o with
   |some (.vec sz n cs)=>cV (len=n/\(g=false->sz=1)) (Bj (fk g sz n cs) λl=>R (.slice l (.own o)) (some (o,(.grow sz n))))
   |_=>False
  | .pre o len n=>match σ o with
   |some (.vec sz n' cs)=>cV (n=n'/\len<=n/\(g=false->sz=1)) (Bj (fk g sz n cs) λl=>R (.slice (l.take len) (.own o)) (some (o,(.grow sz n))))
   |_=>False
  |_=>False
 | .retok sz x=>bh (aval env x) λx=>match x with
  | .slice l .full=>cV (iy sz l/\0<l.length) (F λo=>R (.slice l (.own o)) (some (o,(.grow sz l.length))))
  | .slice [] .nil=>F λo=>R (.slice [] (.own o)) (some (o,(.grow sz 0)))
  |_=>False
def bt(F:(Nat->Prop)->Prop)(env:bg)(σ:aA)(R:AV->Option (Nat×AObj)->Prop):AOp->Prop
 | .mov x=>bh (aval env x) λa=>R a none
 | .pick c a b=>bh (aval env c) λp=>match p with
  | .bool p=>if p then bh (aval env a) λa=>R a none else bh (aval env b) λa=>R a none
  |_=>False
 | .alloc z=>F λo=>R (.ptr o 0) (some (o,(.cells z)))
 | .box x=>bh (aval env x) λa=>F λo=>R (.ptr o 0) (some (o,(.cells (az a))))
 | .boxI x=>bh (aval env x) λa=>cV ((az a).all bY=true) (R (.cptr (az a)) none)
 | .build z ps=>match gV env z ps with
  |some cs=>R (.agg cs) none
  |none=>False
 | .bslice sz ps=>gj (cK env ps) λl=>cV ((l.all λx=>(az x).length==sz&&(az x).all bY)=true) (R (.slice l .full) none)
 | .load g n x=>bh (aval env x) λp=>match p with
  | .ptr o off=>match σ o with
   |some (.cells cs)=>cV (off+n<=cs.length) (bh (eE g ((cs.drop off).take n)) λa=>R a none)
   |_=>False
  | .eptr o m off=>match σ o with
   |some (.vec _ m' cs)=>cV (m=m'/\off+n<=cs.length) (bh (eE g ((cs.drop off).take n)) λa=>R a none)
   |_=>False
  | .cptr cs=>cV (n<=cs.length) (bh (eE g (cs.take n)) λa=>R a none)
  |_=>False
 | .store n p x=>bh (aval env p) λp=>bh (aval env x) λa=>match p with
  | .ptr o off=>match σ o with
   |some (.cells cs)=>cV ((az a).length=n/\off+n<=cs.length/\(az a).all bY=true) (R (.tup []) (some (o,(.cells (putAt cs off (az a))))))
   |_=>False
  | .eptr o m off=>match σ o with
   |some (.vec sz m' cs)=>cV (m=m'/\(az a).length=n/\off+n<=cs.length/\(az a).all bY=true) (R (.tup []) (some (o,(.vec sz m' (putAt cs off (az a))))))
   |_=>False
  |_=>False
 | .nilchk x=>bh (aval env x) λp=>match p with
  | .ptr o off=>R (.ptr o off) none
  | .eptr o m off=>R (.eptr o m off) none
  | .cptr cs=>R (.cptr cs) none
  | .fn f a b=>R (.fn f a b) none
  |_=>False
 | .bin op tb x y=>bh (aval env x) λa=>bh (aval env y) λb=>bh (EJ op tb a b) λr=>R r none
 | .eqs neg ks x y=>bh (aval env x) λa=>bh (aval env y) λb=>match a,b with
  | .agg l, .agg m=>match bw ks l m with
   |some r=>R (.bool (if neg then !r else r)) none
   |none=>False
  |_,_=>False
 | .un op x=>bh (aval env x) λa=>match op,a with
  | .not, .bool b=>R (.bool !b) none
  | .neg, .int k n=>R (.int k (k.wrap (0-n))) none
  | .xor, .int .u64 n=>R (.int .u64 (IntKind.u64.wrap (BitVec.ofInt IntKind.u64.bits 18446744073709551615 ^^^ BitVec.ofInt IntKind.u64.bits n).toNat)) none
  |_,_=>False
 | .conv k x=>bh (aval env x) λa=>match a with
  | .int _ n=>R (.int k (k.wrap n)) none
  |_=>False
 | .mkfn f first caps=>gj (cK env first) λl=>gj (cK env caps) λm=>R (.fn f l m) none
 | .fldA off x=>bh (aval env x) λp=>match p with
  | .ptr o o1=>R (.ptr o (o1+off)) none
  | .eptr o m o1=>R (.eptr o m (o1+off)) none
  | .cptr cs=>R (.cptr (cs.drop off)) none
  |_=>False
 | .fldV g off n x=>bh (aval env x) λa=>match a with
  | .agg cs=>cV (off+n<=cs.length) (bh (eE g ((cs.drop off).take n)) λa=>R a none)
  |_=>False
 | .idxS sz x i=>bh (aval env x) λs=>bh (aval env i) λi=>match s,i with
  | .slice l _, .int _ i=>cV (0<=i) (bh l[i.toNat]? λe=>cV ((az e).length=sz) (R (.cptr (az e)) none))
  | .vec o len, .int _ i=>cV (0<=i/\i<len) (R (.eptr o len (i.toNat*sz)) none)
  | .pre o len n, .int _ i=>cV (0<=i/\i<len) (R (.eptr o n (i.toNat*sz)) none)
  |_,_=>False
 | .idxR sz len x i=>bh (aval env x) λs=>bh (aval env i) λi=>match s,i with
  | .ptr o off, .int _ i=>cV (0<=i/\i<len) (R (.ptr o (off+i.toNat*sz)) none)
  | .eptr o m off, .int _ i=>cV (0<=i/\i<len) (R (.eptr o m (off+i.toNat*sz)) none)
  | .cptr cs, .int _ i=>cV (0<=i/\i<len) (R (.cptr (cs.drop (i.toNat*sz))) none)
  |_,_=>False
 | .slc sz x lo hi mx=>bh (aval env x) λs=>match s with
  | .slice l _=>cV (iy sz l) (qq env hi l.length l.length λh=>qq env lo 0 h λlo=>match mx with
   |none=>R (.slice ((l.take h).drop lo) .no) none
   |some m=>cV (hi.isSome=true) (bh (aval env m) λm=>match m with
    | .int _ m=>cV (m=h) (R (.slice ((l.take h).drop lo) .full) none)
    |_=>False))
  | .vec o len=>cV (lo.isSome=false/\mx.isSome=false) (qq env hi len len λh=>R (.pre o h len) none)
  | .pre o len n=>cV (lo.isSome=false/\mx.isSome=false) (qq env hi len len λh=>R (.pre o h n) none)
  |_=>False
 | .extract x i=>bh (aval env x) λa=>match a with
  | .tup vs=>bh vs[i]? λa=>R a none
  |_=>False
 | .call _ _=>False
 | .len x=>bh (aval env x) λa=>match a with
  | .slice l _=>R (.int .i64 l.length) none
  | .vec _ n=>R (.int .i64 n) none
  | .pre _ len _=>R (.int .i64 len) none
  |_=>False
 | .cap x=>bh (aval env x) λa=>match a with
  | .slice l .full=>R (.int .i64 l.length) none
  | .slice _ .nil=>R (.int .i64 0) none
  |_=>False
 | .append sz bytes s x=>bh (aval env s) λs=>bh (aval env x) λx=>match s,x with
  | .slice l t, .slice m _=>cV (iy sz l/\iy sz m/\(l.length+m.length)*bytes<=35184372088832) (match t with
   | .no=>False
   | .nil=>gh m (R (.slice l .nil) none) (F λo=>R (.slice (l++m) (.own o)) (some (o,(.grow sz (l++m).length))))
   | .full=>gh m (R (.slice l .full) none) (F λo=>R (.slice (l++m) (.own o)) (some (o,(.grow sz (l++m).length))))
   | .own o=>cV (σ o=some (.grow sz l.length)) (R (.slice (l++m) (.own o)) (some (o,(.grow sz (l++m).length)))))
  |_,_=>False
 | .appz sz bytes s x=>bh (aval env s) λs=>bh (aval env x) λx=>match s,x with
  | .slice l .nil, .int .i64 n=>cV (l=[]/\0<n/\n*bytes<=35184372088832) (F λo=>R (.raw o n.toNat) (some (o,(.grow sz 0))))
  |_,_=>False
 | .slcN _ x lo hi mx=>bh (aval env x) λs=>match s with
  | .slice l .nil=>cV (l=[]/\mx.isSome=false) (qq env hi 0 0 λ_=>qq env lo 0 0 λ_=>R (.slice [] .nil) none)
  |_=>False
 | .slcR _ x lo hi mx=>bh (aval env x) λs=>match s with
  | .raw o len=>cV (lo.isSome=false/\hi.isSome=true/\mx.isSome=false) (qq env hi len len λh=>cV (h=0) (R (.slice [] (.own o)) none))
  |_=>False
 | .min xs=>gj (cK env xs) λl=>match vB l with
  |some r=>R (.int .i64 r) none
  |none=>False
 | .max xs=>gj (cK env xs) λl=>match vC l with
  |some r=>R (.int .i64 r) none
  |none=>False
 | .mkslice sz bytes z g n c=>bh (aval env n) λn=>bh (aval env c) λc=>bh (eE g z) λe=>match n,c with
  | .int .i64 n, .int .i64 c=>cV (az e=z/\z.all bY=true/\0<=n/\n<=c/\c*bytes<=35184372088832) (F λo=>R (.slice (List.replicate n.toNat e) (.own o)) (some (o,(.grow sz n.toNat))))
  |_,_=>False
 | .mkiface t x=>bh (aval env x) λa=>R (.iface t a) none
 | .panic _=>False
 | .ext x=>vD F env σ R x
def EK(env:bg)(σ:aA)(R:AV->aA->Prop)(op:AOp):Prop:=bt (λk=>fresh σ k) env σ (λv e=>R v (fN σ e)) op
def aJ(nm:Nat)(env:bg)(σ:aA)(R:AV->Option (Nat×AObj)->Prop)(op:AOp):Prop:=bt (λk=>k nm) env σ R op
def r8:Value->Option AV
 | .int k n=>some (.int k n)
 | .bool b=>some (.bool b)
 | .string s=>some (.str s)
 | .pointer none=>some .nilp
 | .slice none 0 0=>some (.slice [] .nil)
 | .map none=>some .nilmap
 | .nilFunc=>some .nilfn
 | .nilIface=>some .nili
 |_=>none
def jS:List Value->Option (List AV)
 |[]=>some []
 |v::r=>match r8 v,jS r with
  |some a,some l=>some (a::l)
  |_,_=>none
def ofValue:Value->Option AV
 | .agg cs=>(jS cs.toList).map .agg
 |v=>r8 v
def aE:Operand->Option AOpnd
 | .tmp t=>some (.t t)
 | .const v=>(ofValue v).map .c
 | .global _=>none
 | .func f=>some (.c (.fn f [] []))
def cL:List Operand->Option (List AOpnd)
 |[]=>some []
 |x::r=>match aE x,cL r with
  |some a,some l=>some (a::l)
  |_,_=>none
def cD:Option Operand->Option (Option AOpnd)
 |none=>some none
 |some x=>(aE x).map some
def dl(P:Program)(t:TypeId):Option Nat:=(P.info? t).map (·.size)
def qL(P:Program)(t:TypeId):Option Bool:=
 match P.underlying t with
 |some (.struct _)=>some true
 |some (.array _ _)=>some true
 |some _=>some false
 |none=>none
def et(P:Program)(t:TypeId):Option (Bool×Nat):=
 match qL P t,dl P t with
 |some g,some n=>if g||n==1 then some (g,n) else none
 |_,_=>none
def cx(P:Program)(t:TypeId):Option (List AV):=
 match (P.info? t).bind (·.zero) with
 |some z=>jS z.cells.toList
 |none=>none
def iz(P:Program)(fs:Array Field):List (Nat×Operand)->Option (List (Nat×Nat×AOpnd))
 |[]=>some []
 |(i,x)::r=>
  match fs[i]?,aE x,iz P fs r with
  |some f,some a,some l=>match dl P f.type with
   |some n=>some ((f.offset,n,a)::l)
   |none=>none
  |_,_,_=>none
def jT(sz:Nat):List (Nat×Operand)->Option (List (Nat×Nat×AOpnd))
 |[]=>some []
 |(i,x)::r=>
  match aE x,jT sz r with
  |some a,some l=>some ((i*sz,sz,a)::l)
  |_,_=>none
def gW:Nat->List (Nat×Operand)->Option (List AOpnd)
 |_,[]=>some []
 | k, (i, x) :: r => if i = k then
   match aE x,gW (k+1) r with
   |some a,some l=>some (a::l)
   |_,_=>none
  else none
def kx(P:Program)(t:TypeId):Bool:=
 match P.underlying t with
 |some .bool=>true
 |_=>false
def Bm(P:Program)(t:TypeId):Bool:=
 match P.underlying t with
 |some (.int _)=>true
 |some .bool=>true
 |some .string=>true
 |_=>false
def kindOf(P:Program)(t:TypeId):Option Nat:=
 match P.underlying t with
 |some (.int _)=>some 0
 |some .bool=>some 1
 |some .string=>some 2
 |_=>none
def eu(P:Program):Nat->List Field->Option (List Nat)
 |_,[]=>some []
 | i, f :: fs => if f.offset = i /\ f.name ≠ "_" then
   match kindOf P f.type,eu P (i+1) fs with
   |some k,some ks=>some (k::ks)
   |_,_=>none
  else none
def fI(P:Program)(t:TypeId):Option (List Nat):=
 match P.underlying t with
 |some (.struct fs)=>if P.stoodInHeld t=false/\P.eqGuardType P.depth t=false then eu P 0 fs.toList else none
 |some (.array n e)=>if P.eqGuardType P.depth t=false/\dl P e=some 1/\n<=64 then (kindOf P e).map λk=>List.replicate n k else none
 |_=>none
def nG(P:Program)(t:TypeId):Bool:=
 match P.underlying t with
 |some (.int _)=>true
 |_=>false
def ol(P:Program)(k:TypeId):Option KK:=
 match kindOf P k with
 |some n=>some (.one n)
 |none=>(fI P k).map .row
def r9(P:Program)(e:TypeId):Option AV:=
 match (P.info? e).bind (·.zero) with
 |some z=>ofValue z
 |none=>none
def ck(P:Program)(b:Builtin)(args:List Operand)(types:List TypeId):Option AOp:=
 match b with
 | .len=>match args,types with
  |[x],[t]=>match P.underlying t,aE x with
   |some (.array n _),some _=>some (.mov (.c (.int .i64 n)))
   |some (.slice _),some x=>some (.len x)
   |_,_=>none
  |_,_=>none
 | .cap=>match args,types with
  |[x],[t]=>match P.underlying t,aE x with
   |some (.slice _),some x=>some (.cap x)
   |_,_=>none
  |_,_=>none
 | .append=>match args,types with
  |[s,x],[t,u]=>match P.underlying t,aE s,aE x with
   |some (.slice e),some s,some x=>match P.info? e,cx P e with
    |some i,some z=>if 0<i.size/\0<i.bytes/\i.bytes<=4096/\z.length=i.size/\t=u then some (.append i.size i.bytes s x)
     else if 0<i.size/\0<i.bytes/\i.bytes<=4096/\z.length=i.size/\nG P u=true then some (.appz i.size i.bytes s x) else none
    |_,_=>none
   |_,_,_=>none
  |_,_=>none
 | .min=>(cL args).map .min
 | .max=>(cL args).map .max
 |_=>none
def vE(P:Program)(t:TypeId):Bool:=match P.underlying t with
 |some .bool=>true
 |some (.int _)=>true
 |some .string=>true
 |some (.struct _)=>true
 |_=>false
def kV(P:Program)(name:String):List (Nat×Nat):=
 (List.range P.types.size).filterMap λt=>match P.info? t with
  |some i=>match i.methods.find? (·.name==name) with
   |some m=>if m.path.isEmpty then match m.func with
    |some (f,false)=>if vE P t then some (t,f) else none
    |_=>none
    else none
   |none=>none
  |none=>none
def ii(P:Program)(c:Call):Option AOp:=
 match c.callee with
 | .value f=>match aE f,cL c.args.toList with
  |some f,some l=>some (.call f l)
  |_,_=>none
 | .builtin b=>ck P b c.args.toList c.argTypes.toList
 | .invoke (.tmp r) name=>(cL c.args.toList).map (.call (.m r (kV P name)))
 | .invoke _ _=>none
def EL(P:Program)(t:TypeId):Bool:=match P.underlying t with
 |some (.slice _)=>true
 |_=>false
def sa:AOpnd->Bool
 | .c (.slice [] .nil)=>true
 |_=>false
def bO(P:Program):Op->Option AOp
 | .move x=>(aE x).map .mov
 | .assign x=>(aE x).map .mov
 | .pick c a b=>match aE c,aE a,aE b with
  |some c,some a,some b=>some (.pick c a b)
  |_,_,_=>none
 | .alloc e=>(cx P e).map .alloc
 | .box _ x=>(aE x).map .box
 | .build t ps=>match P.underlying t,cx P t with
  |some (.struct fs),some z=>if fs.toList.all (λf=>(dl P f.type).isSome) then (iz P fs ps.toList).map (.build z) else none
  |some (.array _ e),some z=>match dl P e with
   |some sz=>(jT sz ps.toList).map (.build z)
   |none=>none
  |_,_=>none
 | .buildSlice t len ps=>match P.underlying t with
  |some (.slice e)=>match dl P e with
   |some sz=>if len=ps.size/\len*sz<=65536/\(cx P e).isSome then (gW 0 ps.toList).map (.bslice sz) else none
   |none=>none
  |_=>none
 | .load t x=>match et P t,aE x with
  |some (g,n),some x=>some (.load g n x)
  |_,_=>none
 | .store t a x=>match dl P t,aE a,aE x with
  |some n,some a,some x=>some (.store n a x)
  |_,_,_=>none
 | .nilCheck x=>(aE x).map .nilchk
 | .binOp op t x y _=>match aE x,aE y with
  |some x,some y=>
   match op with
   | .eql=>if Bm P t then some (.bin op (kx P t) x y) else if EL P t&&sa y then some (.ext (.isnil false x)) else (fI P t).map λn=> .eqs false n x y
   | .neq=>if Bm P t then some (.bin op (kx P t) x y) else if EL P t&&sa y then some (.ext (.isnil true x)) else (fI P t).map λn=> .eqs true n x y
   |_=>some (.bin op false x y)
  |_,_=>none
 | .unOp op _ x=>(aE x).map (.un op)
 | .convert s d x=>match P.underlying s,P.underlying d,aE x with
  |some (.int _),some (.int k),some x=>some (.conv k x)
  |_,_,_=>none
 | .makeInterface t x=>match P.underlying t with
  |some (.interface _)=>none
  |some _=>(aE x).map (.mkiface t)
  |none=>none
 | .makeFunc (.func f) first caps=>match cL first.toList,cL caps.toList with
  |some a,some b=>some (.mkfn f a b)
  |_,_=>none
 | .makeSlice t l c=>match P.underlying t with
  |some (.slice e)=>match P.info? e,et P e,cx P e,aE l,aE c with
   |some i,some (g,n),some z,some l,some c=>if z.length=n/\0<n/\0<i.bytes then some (.mkslice n i.bytes z g l c) else none
   |_,_,_,_,_=>none
  |_=>none
 | .slice t x lo hi mx=>match P.underlying t with
  |some (.slice e)=>match dl P e,aE x,cD lo,cD hi,cD mx with
   |some sz,some x,some lo,some hi,some mx=>some (.slc sz x lo hi mx)
   |_,_,_,_,_=>none
  |_=>none
 | .fieldAddr s x f=>match P.underlying s,aE x with
  |some (.struct fs),some x=>match fs[f]? with
   |some f=>match dl P f.type with
    |some n=>if n=0 then none else some (.fldA f.offset x)
    |none=>none
   |none=>none
  |_,_=>none
 | .field s x f=>match P.underlying s,aE x with
  |some (.struct fs),some x=>match fs[f]? with
   |some f=>(et P f.type).map fun(g,n)=> .fldV g f.offset n x
   |none=>none
  |_,_=>none
 | .indexAddr t x i=>match P.underlying t,aE x,aE i with
  |some (.slice e),some x,some i=>(dl P e).map λsz=> .idxS sz x i
  |some (.array n e),some x,some i=>(dl P e).map λsz=> .idxR sz n x i
  |_,_,_=>none
 | .extract x i=>(aE x).map (.extract · i)
 | .call c=>ii P c
 | .panic x=>(aE x).map .panic
 | .makeMap _ none=>some (.ext .mkmap)
 | .lookup t x i c=>match P.underlying t,aE x,aE i with
  |some (.map k e),some x,some i=>match ol P k,r9 P e with
   |some kk,some z=>some (.ext (.look kk z c x i))
   |_,_=>none
  |_,_,_=>none
 | .mapUpdate t m k v=>match P.underlying t,aE m,aE k,aE v with
  |some (.map kt _),some m,some k,some v=>(ol P kt).map λkk=> .ext (.mset kk m k v)
  |_,_,_,_=>none
 | .insert t m k v=>match P.underlying t,aE m,aE k,aE v with
  |some (.map kt _),some m,some k,some v=>(ol P kt).map λkk=> .ext (.mset kk m k v)
  |_,_,_,_=>none
 |_=>none
def AOp.bare:AOp->AOp
 | .boxI x=> .box x
 | .slcN s x a b c=> .slc s x a b c
 | .slcR s x a b c=> .slc s x a b c
 | .ext (.bsliceG sz ps)=> .bslice sz ps
 | .ext (.vmake sz b z g l c)=> .mkslice sz b z g l c
 | .ext (.vapp sz b s x)=> .append sz b s x
 | .ext (.vfrz _ x)=> .mov x
 | .ext (.retok _ x)=> .mov x
 |o=>o
def AInst.bare(i:AInst):AInst:={i with op:=i.op.bare}
def ACode.bare:ACode->ACode
 | .skip=> .skip
 | .reg is=> .reg (is.map AInst.bare)
 | .drw is ps=> .drw (is.map AInst.bare) ps
 | .seq a b=> .seq a.bare b.bare
 | .cut a b=> .seq a.bare b.bare
 | .cond c a b=> .cond c a.bare b.bare
 | .block id a=> .block id a.bare
 | .loop a=> .loop a.bare
 | .exit id=> .exit id
 | .ret=> .ret
end Abs
namespace Abs
open Go
structure Fr(K:Gh)(N:Nat)(env:bg)(a:Act):Prop where
 size:a.tmps.size=N
 defers:a.defers=K.ds
 rel:∀i av,lk env i=some av->∃v,a.tmps[i]?=some v/\Rel K av v
theorem Fr.mono{K K':Gh}(hK:K.le K'){N env a}(h:Fr K N env a):Fr K' N env a:=
 ⟨h.size,h.defers.trans hK.ds.symm,λi av e=>let ⟨v,e1,r⟩:=h.rel i av e;⟨v,e1,r.mono hK⟩⟩
theorem Fr.put{K:Gh}{N env a}(h:Fr K N env a){d:Nat}(hd:d<N){av v}(hr:Rel K av v):Fr K N ((d,some av)::env) (a.put (some d) v):=by
 refine⟨by simp[Act.put,h.size],by simp[Act.put,h.defers],λi x e=>?_⟩;simp only[lk] at e;by_cases hi:i=d
 ·subst hi;simp at e;subst e
  exact⟨v,by simp[Act.put,h.size,hd],hr⟩
 ·simp only[hi,if_false] at e;obtain⟨u,e1,r⟩:=h.rel i x e;refine⟨u,?_,r⟩;simp only[Act.put];rw[Array.getElem?_setIfInBounds_ne (by omega)];exact e1
theorem Fr.skip{K:Gh}{N env a}(h:Fr K N env a){d:Nat}{v}:Fr K N ((d,none)::env) (a.put (some d) v):=by
 refine⟨by simp[Act.put,h.size],by simp[Act.put,h.defers],λi x e=>?_⟩;simp only[lk] at e;by_cases hi:i=d
 ·simp[hi] at e
 ·simp only[hi,if_false] at e;obtain⟨u,e1,r⟩:=h.rel i x e;refine⟨u,?_,r⟩;simp only[Act.put];rw[Array.getElem?_setIfInBounds_ne (by omega)];exact e1
theorem RelL.get{K cs vs}(h:RelL K cs vs)(i:Nat)(hi:i<cs.length):∃v,vs[i]?=some v/\Rel K cs[i] v:=
 ⟨vs[i]'(h.1▸hi),by rw[List.getElem?_eq_getElem],h.2 i hi (h.1▸hi)⟩
theorem RelL.nil{K}:RelL K [] []:=⟨rfl,λi h=>by simp at h⟩
theorem RelL.cons{K a v cs vs}(h:Rel K a v)(hs:RelL K cs vs):RelL K (a::cs) (v::vs):=
 ⟨by simp[hs.1],λi h1 h2=>by
  cases i with
  |zero=>exact h
  |succ i=>exact hs.2 i (by simpa using h1) (by simpa using h2)⟩
theorem RelL.cons_inv{K a cs vs}(h:RelL K (a::cs) vs):∃v r,vs=v::r/\Rel K a v/\RelL K cs r:=by
 cases vs with
 |nil=>simp[RelL] at h
 |cons v r=>
  refine⟨v,r,rfl,h.2 0 (by simp) (by simp),by simpa using h.1,λi h1 h2=>?_⟩;exact h.2 (i+1) (by simpa using h1) (by simpa using h2)
theorem RelL.append{K cs vs ds us}(h:RelL K cs vs)(h':RelL K ds us):RelL K (cs++ds) (vs++us):=
 ⟨by simp[h.1,h'.1],λi h1 h2=>by
  rw[List.getElem_append,List.getElem_append];by_cases hi:i<cs.length
  ·have:i<vs.length:=h.1▸hi
   simp only[hi,this,dite_true];exact h.2 i hi this
  ·have:¬i<vs.length:=h.1▸hi
   simp only[hi,this,dite_false];have e:i-cs.length=i-vs.length:=by rw[h.1]
   have h3:i-cs.length<ds.length:=by simp at h1;omega
   have:=h'.2 (i-cs.length) h3 (by rw[<-h'.1];exact h3)
   simp only[e] at this|-;exact this⟩
theorem RelL.take{K cs vs}(h:RelL K cs vs)(n:Nat):RelL K (cs.take n) (vs.take n):=
 ⟨by simp[h.1],λi h1 h2=>by simp only[List.getElem_take];exact h.2 i (by simp at h1;omega) (by simp at h2;omega)⟩
theorem RelL.drop{K cs vs}(h:RelL K cs vs)(n:Nat):RelL K (cs.drop n) (vs.drop n):=
 ⟨by simp[h.1],λi h1 h2=>by simp only[List.getElem_drop];exact h.2 (n+i) (by simp at h1;omega) (by simp at h2;omega)⟩
theorem RelL.putAt{K cs vs xs us}(h:RelL K cs vs)(h':RelL K xs us)(off:Nat):RelL K (putAt cs off xs) (vs.take off++us++vs.drop (off+us.length)):=by
 unfold Abs.putAt;rw[h'.1];exact((h.take off).append h').append (h.drop _)
theorem Rel.cells{K a v}(h:Rel K a v):RelL K (az a) v.cells.toList:=by
 cases h with
 | agg cs vs hs hr => exact ⟨by simpa [az, Value.cells] using hs, λi h1 h2 => by
   have h3:i<vs.size:=by simpa [Value.cells] using h2
   have h4:=hr i h1 h3;show Rel K cs[i] (vs.toList[i]'(by simpa using h3))
   rw[Array.getElem_toList];exact h4⟩
 |int k n=>exact .cons (.int k n) .nil
 |bool b=>exact .cons (.bool b) .nil
 |str s=>exact .cons (.str s) .nil
 |nilp=>exact .cons .nilp .nil
 |ptr o off e h hk=>exact .cons (.ptr o off e h hk) .nil
 |cptr cs b off v hc hr=>exact .cons (.cptr cs b off v hc hr) .nil
 |sl0 a cap t ht=>exact .cons (.sl0 a cap t ht) .nil
 |slice l t b off cap sz v hsz hc hr ht hcap=>exact .cons (.slice l t b off cap sz v hsz hc hr ht hcap) .nil
 |vec o len b cap h hl=>exact .cons (.vec o len b cap h hl) .nil
 |eptr o n off b cap h=>exact .cons (.eptr o n off b cap h) .nil
 |pre o len n b cap h h1 hl=>exact .cons (.pre o len n b cap h h1 hl) .nil
 |raw o len b cap sz h hl=>exact .cons (.raw o len b cap sz h hl) .nil
 |tup cs vs hs hr=>exact .cons (.tup cs vs hs hr) .nil
 |map o r h=>exact .cons (.map o r h) .nil
 |nilmap=>exact .cons .nilmap .nil
 |fn f first caps fs cs h1 h2 r1 r2=>exact .cons (.fn f first caps fs cs h1 h2 r1 r2) .nil
 |nilfn=>exact .cons .nilfn .nil
 |iface t a v h=>exact .cons (.iface t a v h) .nil
 |nili=>exact .cons .nili .nil
theorem Rel.aggL{K cs}{vs:Array Value}(h:RelL K cs vs.toList):Rel K (.agg cs) (.agg vs):=
 .agg cs vs (by simpa using h.1) (λi h1 h2=>by have:=h.2 i h1 (by simpa using h2);rwa [Array.getElem_toList] at this)
theorem Rel.tupL{K cs}{vs:Array Value}(h:RelL K cs vs.toList):Rel K (.tup cs) (.tuple vs):=
 .tup cs vs (by simpa using h.1) (λi h1 h2=>by have:=h.2 i h1 (by simpa using h2);rwa [Array.getElem_toList] at this)
theorem Rel.oneCell{K a v}(h:Rel K a v)(ha:bY a=true):v.oneCell'=true:=by
 cases h<;>first|rfl|(simp[bY] at ha)
theorem om{K v a}(h:r8 v=some a):Rel K a v:=by
 unfold r8 at h;split at h<;>simp at h<;>subst h
 ·exact .int _ _
 ·exact .bool _
 ·exact .str _
 ·exact .nilp
 ·exact .sl0 none 0 .nil (by simp)
 ·exact .nilmap
 ·exact .nilfn
 ·exact .nili
theorem ofFlats_rel{K}:∀{vs:List Value} {cs},jS vs=some cs->RelL K cs vs
 |[],cs,h=>by simp[jS] at h;subst h;exact .nil
 |v::r,cs,h=>by
  simp only[jS] at h;split at h<;>simp at h
  rename_i a l h1 h2
  subst h;exact .cons (om h1) (ofFlats_rel h2)
theorem ofValue_rel{K v a}(h:ofValue v=some a):Rel K a v:=by
 unfold ofValue at h;split at h
 ·simp only[Option.map_eq_some_iff] at h;obtain⟨cs,h1,rfl⟩:=h;exact .aggL (ofFlats_rel h1)
 ·exact om h
theorem trOpnd_rel{K N env a x ax av}(h:aE x=some ax)(hv:aval env ax=some av)(hf:Fr K N env a):Rel K av (a.eval x):=by
 cases x with
 |tmp t=>
  simp[aE] at h;subst h
  obtain⟨v,e,r⟩:=hf.rel t av hv;simpa [Act.eval,Array.getD_eq_getD_getElem?,e] using r
 |const v=>
  simp only[aE,Option.map_eq_some_iff] at h;obtain⟨b,h1,rfl⟩:=h;simp[aval] at hv;subst hv
  exact ofValue_rel h1
 |global g=>simp[aE] at h
 |func f=>
  simp[aE] at h;subst h
  simp[aval] at hv;subst hv
  exact .fn f [] [] #[] #[] rfl rfl (λi h=>by simp at h) (λi h=>by simp at h)
theorem cM{K N env a}(hf:Fr K N env a):∀{xs:List Operand} {axs avs},cL xs=some axs->cK env axs=some avs->RelL K avs (xs.map a.eval)
 |[],axs,avs,h,hv=>by
  simp[cL] at h;subst h
  simp[cK] at hv;subst hv
  exact .nil
 |x::r,axs,avs,h,hv=>by
  simp only[cL] at h;split at h<;>simp at h
  rename_i b l h1 h2
  subst h;simp only[cK] at hv;split at hv<;>simp at hv
  rename_i c m h3 h4
  subst hv;exact .cons (trOpnd_rel h1 h3 hf) (cM hf h2 h4)
structure Gh.leS(S:Nat->Prop)(K K':Gh):Prop where
 le:K.le K'
 free:∀o,S o->K.own o=none->K'.own o=none
theorem Gh.leS.refl{S:Nat->Prop}(K:Gh):K.leS S K:=⟨Gh.le.refl K,λ_ _ h=>h⟩
theorem Gh.leS.trans{S:Nat->Prop}{K K' K'':Gh}(h:K.leS S K')(h':K'.leS S K''):K.leS S K'':=⟨h.le.trans h'.le,λo hs hn=>h'.free o hs (h.free o hs hn)⟩
theorem Gh.leS.weak{S S':Nat->Prop}{K K':Gh}(h:K.leS S K')(hs:∀o,S' o->S o):K.leS S' K':=⟨h.le,λo h1 h2=>h.free o (hs o h1) h2⟩
theorem Gh.leS_own{S:Nat->Prop}{K K':Gh}(h:K.le K')(ho:K'.own=K.own):K.leS S K':=⟨h,λo _ hn=>by rw[ho];exact hn⟩
def Bnd(S:Nat->Prop):Prop:=∃n,∀o,n<=o->¬S o
theorem ObjSat.keep{K K':Gh}{w w':World}{e x}(h:ObjSat K w e x)(hK:K.le K')(hh:e.real=true->w'.heap[e.blk]?=w.heap[e.blk]?)
  (hc:e.real=true->∀i,K'.claim e.blk i=K.claim e.blk i):ObjSat K' w' e x:=by
 cases e<;>cases x<;>simp only[ObjSat,Own.blk,Own.real,forall_const] at h hh hc|-
 case virt.grow=>exact h
 case virt.virt=>exact h
 case full.grow=>exact h
 case obj.cells b cs=>
  obtain⟨h1,⟨c,el,h2,h3⟩,h4⟩:=h;exact⟨by rw[hK.base];exact h1,⟨c,el,by rw[hh];exact h2,h3.mono hK⟩,λi=>by rw[hc];exact h4 i⟩
 case vec.vec b cap sz n sz' n' cs=>
  obtain⟨h0,h00,h01,h02,h1,⟨c,el,h2,h3,h6⟩,h4⟩:=h;exact⟨h0,h00,h01,h02,by rw[hK.base];exact h1,⟨c,el,by rw[hh];exact h2,h3,λi a b=>⟨(h6 i a b).1.mono hK,(h6 i a b).2⟩⟩,λi=>by rw[hc];exact h4 i⟩
 case buf.grow b cap sz n sz' n'=>
  obtain⟨h0,h00,h000,h1,⟨c,el,h2,h3⟩,h4⟩:=h;exact⟨h0,h00,h000,by rw[hK.base];exact h1,⟨c,el,by rw[hh];exact h2,h3⟩,λi a=>by rw[hc];exact h4 i a⟩
 case map.map r d m=>
  obtain⟨h1,es,clock,h2,h3,h4,h5⟩:=h;exact⟨by rw[hK.base];exact h1,es,clock,by rw[hh];exact h2,h3,λi a b=>⟨(h4 i a b).1.mono hK,(h4 i a b).2.mono hK⟩,h5⟩
 case iter.iter r m n seen=>
  obtain⟨h1,⟨rm,h2,h3⟩,h4⟩:=h;obtain⟨x',e',l⟩:=hK.own m _ h2;simp only[Own.le] at l;exact⟨by rw[hK.base];exact h1,⟨rm,l▸e',by rw[hh];exact h3⟩,λi=>by rw[hc];exact h4 i⟩
 case pin.pin r x=>exact⟨by rw[hK.base];exact h.1,by rw[hh];exact h.2.1,λi=>by rw[hc];exact h.2.2 i⟩
theorem ObjSat.blk_lt{K w e x}(h:ObjSat K w e x)(hr:e.real=true):e.blk<w.heap.size:=by
 have key:∀{b:Nat} {o:Obj},w.heap[b]?=some o->b<w.heap.size:=fun{b o} e=>by
  rcases Nat.lt_or_ge b w.heap.size with h|h
  ·exact h
  ·simp[Array.getElem?_eq_none h] at e
 cases e<;>cases x<;>simp only[ObjSat,Own.blk,Own.real,Bool.false_eq_true] at h hr|-
 ·obtain⟨_,⟨c,el,h2,_⟩,_⟩:=h;exact key h2
 ·obtain⟨_,_,_,_,_,⟨c,el,h2,_⟩,_⟩:=h;exact key h2
 ·obtain⟨_,_,_,_,⟨c,el,h2,_⟩,_⟩:=h;exact key h2
 ·obtain⟨_,es,clock,h2,_⟩:=h;exact key h2
 ·obtain⟨_,⟨rm,_,h2⟩,_⟩:=h;exact key h2
 ·exact key h.2.1
theorem ObjSat.base_le{K w e x}(h:ObjSat K w e x)(hr:e.real=true):K.base.heap.size<=e.blk:=by
 cases e<;>cases x<;>simp only[ObjSat,Own.blk,Own.real,Bool.false_eq_true] at h hr|-
 ·exact h.1
 ·exact h.2.2.2.2.1
 ·exact h.2.2.2.1
 ·exact h.1
 ·exact h.1
 ·exact h.1
theorem EM{w:World}{b o:Nat}{v:Value}(h:w.cell? ⟨b,o,none⟩=some v):b<w.heap.size:=block_lt_of_cell h
theorem Sat.claim_lt{K σ w}(h:Sat K σ w){b o v}(e:K.claim b o=some v):b<w.heap.size:=EM (h.claim b o v e)
theorem Sat.fresh{K σ w}(h:Sat K σ w){o:Nat}(ho:K.own o=none):σ o=none:=by
 cases hs:σ o with
 |none=>rfl
 |some x=>obtain⟨e,h1,_⟩:=h.live o x hs;simp[ho] at h1
theorem eT{w w':World}{b o:Nat}(h:w'.heap[b]?=w.heap[b]?):w'.cell? ⟨b,o,none⟩=w.cell? ⟨b,o,none⟩:=by
 simp[World.cell?,h]
theorem gw{w w':World}{b o:Nat}(h:w'.heap[b]?=w.heap[b]?):w'.frozen? ⟨b,o,none⟩=w.frozen? ⟨b,o,none⟩:=by
 simp[World.frozen?,h]
def Gh.claimed(K:Gh)(b:Nat)(cl:Nat->Option Value):Gh:={K with claim:=λb' i=>if b'=b then cl i else K.claim b' i}
def Gh.named(K:Gh)(o:Nat)(e:Own):Gh:={K with own:=λi=>if i=o then some e else K.own i}
theorem Gh.le_claimed{K:Gh}{b cl}(h:∀i v,K.claim b i=some v->cl i=some v):K.le (K.claimed b cl):=
 ⟨rfl,λb' i v e=>by
  simp only[Gh.claimed];split
  ·rename_i hb;subst hb;exact h i v e
  ·exact e,λo x e=>⟨x,e,Own.le_refl x⟩,rfl⟩
theorem Gh.le_named{K:Gh}{o e}(h:K.own o=none):K.le (K.named o e):=
 ⟨rfl,λ_ _ _ e=>e,λo' x e'=>⟨x,by
  simp only[Gh.named];split
  ·rename_i hb;subst hb;simp[h] at e'
  ·exact e',Own.le_refl x⟩,rfl⟩
structure Pushed(w w':World)(ob:Obj):Prop where
 os:w'.os=w.os
 tape:w'.tape=w.tape
 output:w'.output=w.output
 heap:w'.heap=w.heap.push ob
theorem Pushed.old{w w' ob}(h:Pushed w w' ob)(i:Nat)(hi:i<w.heap.size):w'.heap[i]?=w.heap[i]?:=by
 rw[h.heap,Array.getElem?_push,if_neg (by omega)]
theorem Pushed.new{w w' ob}(h:Pushed w w' ob):w'.heap[w.heap.size]?=some ob:=by
 rw[h.heap];simp
def Obj.loose:Obj->Prop
 | .cells _ _ f=>f=(0,0)
 |_=>True
theorem cy{w:World}{b o:Nat}{ob:Obj}(h:w.heap[b]?=some ob)(hl:Obj.loose ob):w.frozen? ⟨b,o,none⟩=false:=by
 cases ob<;>simp[World.frozen?,h]
 simp only[Obj.loose] at hl;subst hl;simp
theorem Sat.push{K σ w w' ob}(h:Sat K σ w)(hp:Pushed w w' ob)(hl:Obj.loose ob)(cl:Nat->Option Value)
  (hcl:∀i v,cl i=some v->w'.cell? ⟨w.heap.size,i,none⟩=some v/\v.oneCell'=true):K.le (K.claimed w.heap.size cl)/\Sat (K.claimed w.heap.size cl) σ w':=by
 have hnone:∀i,K.claim w.heap.size i=none:=λi=>by
  cases e:K.claim w.heap.size i with
  |none=>rfl
  |some v=>exact absurd (h.claim_lt e) (Nat.lt_irrefl _)
 have hle:K.le (K.claimed w.heap.size cl):=Gh.le_claimed (λi v e=>by simp[hnone] at e);have hsz:w'.heap.size=w.heap.size+1:=by rw[hp.heap];simp
 refine⟨hle,⟨hp.os.trans h.os,hp.tape.trans h.tape,hp.output.trans h.output,by show K.base.heap.size<=_;have:=h.size;omega,λb hb=>?_,λb o hb=>?_,λb o v e=>?_,λb o v e=>?_,λo x e=>?_,h.apart,h.room⟩⟩
 ·rw[hp.old b (Nat.lt_of_lt_of_le hb h.size)];exact h.old b hb
 ·rcases Nat.lt_trichotomy b w.heap.size with hlt|heq|hgt
  ·rw[gw (hp.old b hlt)];exact h.free b o hb
  ·subst heq;exact cy hp.new hl
  ·have:w'.heap[b]?=none:=by simp;omega
   simp[World.frozen?,this]
 ·simp only[Gh.claimed] at e;split at e
  ·rename_i hb;subst hb;exact(hcl o v e).1
  ·rw[eT (hp.old b (h.claim_lt e))];exact h.claim b o v e
 ·simp only[Gh.claimed] at e;split at e
  ·exact(hcl o v e).2
  ·exact h.one b o v e
 ·obtain⟨e',h1,h2⟩:=h.live o x e;refine⟨e',h1,h2.keep hle (λhr=>hp.old _ (h2.blk_lt hr)) (λhr i=>?_)⟩;simp only[Gh.claimed];rw[if_neg (Nat.ne_of_lt (h2.blk_lt hr))]
theorem Sat.name{K σ w}(h:Sat K σ w){o:Nat}(ho:K.own o=none)(e:Own)(x:AObj)(hx:ObjSat K w e x)
  (hb:∀o' x' e',σ o'=some x'->K.own o'=some e'->e'.real=true->e.real=true->e'.blk≠e.blk):K.le (K.named o e)/\Sat (K.named o e) (aH σ o x) w:=by
 have hle:K.le (K.named o e):=Gh.le_named ho;refine⟨hle,⟨h.os,h.tape,h.output,h.size,h.old,h.free,h.claim,h.one,λo' x' e'=>?_,?_,?_⟩⟩
 ·simp only[aH] at e';by_cases hi:o'=o
  ·subst hi;simp at e';subst e'
   exact⟨e,by simp[Gh.named],hx.keep hle (λ_=>rfl) (λ_ _=>rfl)⟩
  ·simp only[hi,if_false] at e';obtain⟨e'',h1,h2⟩:=h.live o' x' e';exact⟨e'',by simp[Gh.named,hi,h1],h2.keep hle (λ_=>rfl) (λ_ _=>rfl)⟩
 ·intro o1 o2 x1 x2 e1 e2 h1 h2 hne k1 k2;simp only[aH,Gh.named] at h1 h2 k1 k2;by_cases i1:o1=o
  ·by_cases i2:o2=o
   ·exact absurd (i1.trans i2.symm) hne
   ·simp only[i1,i2,if_true,if_false] at h1 h2 k1 k2;simp at k1;subst k1
    exact λq1 q2=>(hb o2 x2 e2 h2 k2 q2 q1).symm
  ·by_cases i2:o2=o
   ·simp only[i1,i2,if_true,if_false] at h1 h2 k1 k2;simp at k2;subst k2
    exact hb o1 x1 e1 h1 k1
   ·simp only[i1,i2,if_false] at h1 h2 k1 k2;exact h.apart o1 o2 x1 x2 e1 e2 h1 h2 hne k1 k2
 ·obtain⟨n,hn⟩:=h.room;refine⟨max n (o+1),λi hi=>?_⟩;simp only[Gh.named];rw[if_neg (by omega)];exact hn i (by omega)
theorem Sat.pushName{K σ w w' ob}(h:Sat K σ w)(hp:Pushed w w' ob)(hl:Obj.loose ob)(cl:Nat->Option Value)
  (hcl:∀i v,cl i=some v->w'.cell? ⟨w.heap.size,i,none⟩=some v/\v.oneCell'=true){o:Nat}(ho:K.own o=none)(e:Own)(he:e.blk=w.heap.size)(x:AObj)
  (hx:ObjSat (K.claimed w.heap.size cl) w' e x):K.le ((K.claimed w.heap.size cl).named o e)/\Sat ((K.claimed w.heap.size cl).named o e) (aH σ o x) w':=by
 obtain⟨h1,h2⟩:=h.push hp hl cl hcl
 obtain⟨h3,h4⟩:=h2.name (o:=o) ho e x hx (λo' x' e' k1 k2 hr _=>by
  obtain⟨e'',k3,k4⟩:=h.live o' x' k1;have:e''=e':=by have:K.own o'=some e':=k2;simp_all
  subst this;rw[he];exact Nat.ne_of_lt (k4.blk_lt hr))
 exact⟨h1.trans h3,h4⟩
theorem Gh.le_renamed{K K':Gh}{o e e'}(hb:K'.base=K.base)(hc:∀b i v,K.claim b i=some v->K'.claim b i=some v)(he:K.own o=some e)(he':K'.own o=some e')(hee:e.le e')
  (hother:∀o',o'≠o->K'.own o'=K.own o')(hd:K'.ds=K.ds:=by rfl):K.le K':=
 ⟨hb,hc,λo' x e1=>by
  by_cases hi:o'=o
  ·subst hi;have:x=e:=by simp_all
   subst this;exact⟨e',he',hee⟩
  ·exact⟨x,by rw[hother o' hi];exact e1,Own.le_refl x⟩,hd⟩
theorem Rel.ds{K:Gh}{a v}(d:List Deferred)(h:Rel K a v):Rel {K with ds:=d} a v:=by
 induction h with
 |int k n=>exact .int k n
 |bool b=>exact .bool b
 |str s=>exact .str s
 |nilp=>exact .nilp
 |ptr o off e h hk=>exact .ptr o off e h hk
 |cptr cs b off v hc hr ih=>exact .cptr cs b off v hc ih
 |sl0 a cap t ht=>exact .sl0 a cap t ht
 |slice l t b off cap sz v hsz hc hr ht hcap ih=>exact .slice l t b off cap sz v hsz hc ih ht hcap
 |eptr o n off b cap h=>exact .eptr o n off b cap h
 |vec o len b cap h hl=>exact .vec o len b cap h hl
 |pre o len n b cap h h1 hl=>exact .pre o len n b cap h h1 hl
 |raw o len b cap sz h hl=>exact .raw o len b cap sz h hl
 |agg cs vs hs hr ih=>exact .agg cs vs hs ih
 |tup cs vs hs hr ih=>exact .tup cs vs hs ih
 |map o r h=>exact .map o r h
 |nilmap=>exact .nilmap
 |fn f first caps fs cs h1 h2 r1 r2 i1 i2=>exact .fn f first caps fs cs h1 h2 i1 i2
 |nilfn=>exact .nilfn
 |iface t a v h ih=>exact .iface t a v ih
 |nili=>exact .nili
theorem RelL.ds{K:Gh}{cs vs}(d:List Deferred)(h:RelL K cs vs):RelL {K with ds:=d} cs vs:=⟨h.1,λi h1 h2=>(h.2 i h1 h2).ds d⟩
theorem ObjSat.ds{K:Gh}{w e x}(d:List Deferred)(h:ObjSat K w e x):ObjSat {K with ds:=d} w e x:=by
 cases e<;>cases x<;>simp only[ObjSat] at h|-
 case virt.grow=>exact h
 case virt.virt=>exact h
 case full.grow=>exact h
 case obj.cells b cs=>
  obtain⟨h1,⟨c,el,h2,h3⟩,h4⟩:=h;exact⟨h1,⟨c,el,h2,h3.ds d⟩,h4⟩
 case vec.vec b cap sz n sz' n' cs=>
  obtain⟨h0,h00,h01,h02,h1,⟨c,el,h2,h3,h6⟩,h4⟩:=h;exact⟨h0,h00,h01,h02,h1,⟨c,el,h2,h3,λi k1 k2=>⟨(h6 i k1 k2).1.ds d,(h6 i k1 k2).2⟩⟩,h4⟩
 case buf.grow=>exact h
 case iter.iter=>exact h
 case pin.pin=>exact h
 case map.map r d' m=>
  obtain⟨h1,es,clock,h2,h3,h4,h5⟩:=h;exact⟨h1,es,clock,h2,h3,λi k1 k2=>⟨(h4 i k1 k2).1.ds d,(h4 i k1 k2).2.ds d⟩,h5⟩
theorem Sat.ds{K:Gh}{σ w}(d:List Deferred)(h:Sat K σ w):Sat {K with ds:=d} σ w:=
  { os := h.os, tape := h.tape, output := h.output, size := h.size, old := h.old, free := h.free, claim := h.claim, one := h.one, apart := h.apart, room := h.room,
    live:=λo x e=>let ⟨e',k1,k2⟩:=h.live o x e;⟨e',k1,k2.ds d⟩}
theorem Gh.leS.ds{S:Nat->Prop}{K K':Gh}{d:List Deferred}(h:({K with ds:=d}:Gh).leS S K'):K.leS S {K' with ds:=K.ds}:=
 ⟨⟨h.le.base,h.le.claim,h.le.own,rfl⟩,h.free⟩
theorem Sat.write{K K':Gh}{σ w w'}(h:Sat K σ w)(hle:K.le K'){o:Nat}{x x':AObj}{e e':Own}(hx:σ o=some x)(he:K.own o=some e)(hre:e.real=true)
  (hown:∀o',o'≠o->K'.own o'=K.own o')(he':K'.own o=some e')(hblk:e'.blk=e.blk)
  (hos:w'.os=w.os)(htape:w'.tape=w.tape)(hout:w'.output=w.output)(hsz:w'.heap.size=w.heap.size)(hother:∀b,b≠e.blk->w'.heap[b]?=w.heap[b]?)
  (hfree:∀i,w'.frozen? ⟨e.blk,i,none⟩=false)(hclaim:∀i v,K'.claim e.blk i=some v->w'.cell? ⟨e.blk,i,none⟩=some v/\v.oneCell'=true)
  (hcother:∀b i,b≠e.blk->K'.claim b i=K.claim b i)(hx':ObjSat K' w' e' x'):Sat K' (aH σ o x') w':=by
 obtain⟨e0,k1,k2⟩:=h.live o x hx;have:e0=e:=by simp_all
 subst this;have hb:=k2.base_le hre
 have back:∀o1 e1,K'.own o1=some e1->∃e2,K.own o1=some e2/\e2.blk=e1.blk/\(e1.real=true->e2.real=true):=λo1 e1 h1=>by
  by_cases hi:o1=o
  ·subst hi;have:e1=e':=by simp_all
   subst this;exact⟨e0,he,hblk.symm,λ_=>hre⟩
  ·exact⟨e1,by rw[<-hown o1 hi];exact h1,rfl,id⟩
 have alive:∀o1 x1,aH σ o x' o1=some x1->∃y,σ o1=some y:=λo1 x1 h1=>by
  simp only[aH] at h1;by_cases hi:o1=o
  ·exact⟨x,hi▸hx⟩
  ·simp only[hi,if_false] at h1;exact⟨x1,h1⟩
 refine⟨by rw[hle.base];exact hos.trans h.os,by rw[hle.base];exact htape.trans h.tape,by rw[hle.base];exact hout.trans h.output,by rw[hle.base,hsz];exact h.size,λb hb'=>?_,λb i hb'=>?_,λb i v ec=>?_,λb i v ec=>?_,λo' y ey=>?_,?_,?_⟩
 ·rw[hle.base] at hb'|-;rw[hother b (by omega)];exact h.old b hb'
 ·rw[hle.base] at hb';by_cases hbe:b=e0.blk
  ·subst hbe;exact hfree i
  ·rw[gw (hother b hbe)];exact h.free b i hb'
 ·by_cases hbe:b=e0.blk
  ·subst hbe;exact(hclaim i v ec).1
  ·rw[hcother b i hbe] at ec;rw[eT (hother b hbe)];exact h.claim b i v ec
 ·by_cases hbe:b=e0.blk
  ·subst hbe;exact(hclaim i v ec).2
  ·rw[hcother b i hbe] at ec;exact h.one b i v ec
 ·simp only[aH] at ey;by_cases hi:o'=o
  ·subst hi;simp at ey;subst ey
   exact⟨e',he',hx'⟩
  ·simp only[hi,if_false] at ey;obtain⟨e'',h1,h2⟩:=h.live o' y ey;have hne:=h.apart o' o y x e'' e0 ey hx hi h1 he;exact⟨e'',by rw[hown o' hi];exact h1,h2.keep hle (λhr=>hother _ (hne hr hre)) (λhr i=>hcother _ i (hne hr hre))⟩
 ·intro o1 o2 x1 x2 e1 e2 h1 h2 hne k1 k2;obtain⟨y1,l1⟩:=alive o1 x1 h1;obtain⟨y2,l2⟩:=alive o2 x2 h2;obtain⟨f1,m1,n1,p1⟩:=back o1 e1 k1;obtain⟨f2,m2,n2,p2⟩:=back o2 e2 k2;rw[<-n1,<-n2];exact λq1 q2=>h.apart o1 o2 y1 y2 f1 f2 l1 l2 hne m1 m2 (p1 q1) (p2 q2)
 ·obtain⟨n,hn⟩:=h.room;refine⟨max n (o+1),λi hi=>?_⟩;rw[hown i (by omega)];exact hn i (by omega)
theorem Sat.move{K K':Gh}{σ w}(h:Sat K σ w)(hle:K.le K')(hcl:K'.claim=K.claim){o:Nat}{x x':AObj}{e e':Own}(hx:σ o=some x)(he:K.own o=some e)
  (hown:∀o',o'≠o->K'.own o'=K.own o')(he':K'.own o=some e')(hx':ObjSat K' w e' x')
  (hb:∀o' y e'',σ o'=some y->K.own o'=some e''->e''.real=true->e'.real=true->e''.blk≠e'.blk):Sat K' (aH σ o x') w:=by
 refine⟨by rw[hle.base];exact h.os,by rw[hle.base];exact h.tape,by rw[hle.base];exact h.output,by rw[hle.base];exact h.size,by rw[hle.base];exact h.old,by rw[hle.base];exact h.free,
  by rw[hcl];exact h.claim,by rw[hcl];exact h.one,λo' y ey=>?_,?_,?_⟩
 ·simp only[aH] at ey;by_cases hi:o'=o
  ·subst hi;simp at ey;subst ey
   exact⟨e',he',hx'⟩
  ·simp only[hi,if_false] at ey;obtain⟨e'',h1,h2⟩:=h.live o' y ey;exact⟨e'',by rw[hown o' hi];exact h1,h2.keep hle (λ_=>rfl) (λ_ i=>by rw[hcl])⟩
 ·intro o1 o2 x1 x2 e1 e2 h1 h2 hne k1 k2;simp only[aH] at h1 h2;by_cases i1:o1=o
  ·by_cases i2:o2=o
   ·exact absurd (i1.trans i2.symm) hne
   ·simp only[i2,if_false] at h2;have:e1=e':=by subst i1;simp_all
    subst this;exact λq1 q2=>(hb o2 x2 e2 h2 (by rw[<-hown o2 i2];exact k2) q2 q1).symm
  ·by_cases i2:o2=o
   ·simp only[i1,if_false] at h1;have:e2=e':=by subst i2;simp_all
    subst this;exact hb o1 x1 e1 h1 (by rw[<-hown o1 i1];exact k1)
   ·simp only[i1,i2,if_false] at h1 h2;exact h.apart o1 o2 x1 x2 e1 e2 h1 h2 hne (by rw[<-hown o1 i1];exact k1) (by rw[<-hown o2 i2];exact k2)
 ·obtain⟨n,hn⟩:=h.room;refine⟨max n (o+1),λi hi=>?_⟩;rw[hown i (by omega)];exact hn i (by omega)
theorem Sat.same{K σ w w'}(h:Sat K σ w)(hos:w'.os=w.os)(htape:w'.tape=w.tape)(hout:w'.output=w.output)(hh:w'.heap=w.heap):Sat K σ w':=by
 have hc:∀b o,w'.cell? ⟨b,o,none⟩=w.cell? ⟨b,o,none⟩:=λb o=>eT (by rw[hh]);refine⟨hos.trans h.os,htape.trans h.tape,hout.trans h.output,by rw[hh];exact h.size,λb hb=>by rw[hh];exact h.old b hb,λb o hb=>?_,λb o v e=>by rw[hc];exact h.claim b o v e,h.one,λo x e=>?_,h.apart,h.room⟩
 ·rw[gw (w:=w) (w':=w') (by rw[hh])];exact h.free b o hb
 ·obtain⟨e',h1,h2⟩:=h.live o x e;exact⟨e',h1,h2.keep (Gh.le.refl K) (λ_=>by rw[hh]) (λ_ _=>rfl)⟩
end Abs
namespace Abs
open Go
theorem jU{K o off v}(h:Rel K (.ptr o off) v):∃e,v= .pointer (some ⟨e.blk,off,none⟩)/\K.own o=some e/\e.fixed=true:=by
 cases h with|ptr _ _ e h hk=>exact⟨e,rfl,h,hk⟩
theorem jm{K o n off v}(h:Rel K (.eptr o n off) v):∃b cap,v= .pointer (some ⟨b,off,none⟩)/\VecOk K o n b cap:=by
 cases h with|eptr _ _ _ b cap h=>exact⟨b,cap,rfl,h⟩
theorem kW{K cs v}(h:Rel K (.cptr cs) v):∃b off,∃u:Nat->Value,v= .pointer (some ⟨b,off,none⟩)/\(∀i,i<cs.length->K.claim b (off+i)=some (u i))/\(∀i,(h:i<cs.length)->Rel K cs[i] (u i)):=by
 cases h with|cptr _ b off u hc hr=>exact⟨b,off,u,rfl,hc,hr⟩
theorem cN{K b v}(h:Rel K (.bool b) v):v= .bool b:=by cases h;rfl
theorem aN{K k n v}(h:Rel K (.int k n) v):v= .int k n:=by cases h;rfl
theorem gk{K s v}(h:Rel K (.str s) v):v= .string s:=by cases h;rfl
theorem gX{K cs v}(h:Rel K (.agg cs) v):∃vs,v= .agg vs/\RelL K cs vs.toList:=by
 cases h with|agg _ vs hs hr=>exact⟨vs,rfl,by simpa using hs,λi h1 h2=>by rw[Array.getElem_toList];exact hr i h1 (by simpa using h2)⟩
theorem EN{K cs v}(h:Rel K (.tup cs) v):∃vs,v= .tuple vs/\RelL K cs vs.toList:=by
 cases h with|tup _ vs hs hr=>exact⟨vs,rfl,by simpa using hs,λi h1 h2=>by rw[Array.getElem_toList];exact hr i h1 (by simpa using h2)⟩
theorem vF{K f l m v}(h:Rel K (.fn f l m) v):∃fs cs,v= .func (.func f) fs cs/\RelL K l fs.toList/\RelL K m cs.toList:=by
 cases h with|fn _ _ _ fs cs h1 h2 r1 r2=>
  exact⟨fs,cs,rfl,⟨by simpa using h1,λi a b=>by rw[Array.getElem_toList];exact r1 i a (by simpa using b)⟩,⟨by simpa using h2,λi a b=>by rw[Array.getElem_toList];exact r2 i a (by simpa using b)⟩⟩
def OpOk(P:Program)(o:Oper)(N:Nat)(env:bg)(σ:aA)(nm:Nat)(R:AV->Option (Nat×AObj)->Prop):Prop:=
 ∀(S:Nat->Prop) K a w,Fr K N env a->Sat K σ w->K.own nm=none->¬S nm->∃K' av e v w',((execOp a.eval o).run P w= .ok (.value v) w'\/((execOp a.eval o).run P w= .ok .skip w'/\o.dst=none))/\
  K.leS S K'/\Rel K' av v/\Sat K' (fN σ e) w'/\R av e
theorem aG{x:Option AV}{R:AV->Prop}(h:bh x R):∃a,x=some a/\R a:=by
 cases x with
 |none=>exact h.elim
 |some a=>exact⟨a,rfl,h⟩
theorem dW{x:Option (List AV)}{R:List AV->Prop}(h:gj x R):∃a,x=some a/\R a:=by
 cases x with
 |none=>exact h.elim
 |some a=>exact⟨a,rfl,h⟩
theorem aR{P:Program}{t n}(h:dl P t=some n)(w:World):(Go.sizeOf t).run P w= .ok n w:=by
 unfold dl at h;cases hi:P.info? t with
 |none=>simp[hi] at h
 |some i=>simp[hi] at h;subst h;simp[Go.sizeOf,typeInfo,hi]
theorem aB{P:Program}{t d}(h:P.underlying t=some d)(w:World):(underlying t).run P w= .ok d w:=by
 simp[underlying,h]
theorem gz{P:Program}{t g}(h:qL P t=some g)(w:World):(isAgg t).run P w= .ok g w:=by
 unfold qL at h;cases hu:P.underlying t with
 |none=>simp[hu] at h
 |some d=>cases d<;>simp[hu] at h<;>subst h<;>simp[isAgg,aB hu]
theorem dN{P:Program}{K:Gh}{t z}(h:cx P t=some z)(w:World):∃v,(zeroValue t).run P w= .ok v w/\RelL K z v.cells.toList/\(P.info? t).bind (·.zero)=some v:=by
 unfold cx at h;split at h
 ·rename_i v hv
  refine⟨v,?_,ofFlats_rel h,hv⟩;cases hi:P.info? t with
  |none=>simp[hi] at hv
  |some i=>simp[hi] at hv;simp[zeroValue,typeInfo,hi,hv]
 ·simp at h
theorem ce(b off n:Nat):(⟨b,off,none⟩:Addr).add n=⟨b,off+n,none⟩:=by
 unfold Addr.add;split<;>simp_all
theorem fO{P:Program}{t g n}(h:et P t=some (g,n)):qL P t=some g/\dl P t=some n/\(g=false->n=1):=by
 unfold et at h;split at h
 ·rename_i g' n' h1 h2
  split at h<;>simp at h
  obtain⟨rfl,rfl⟩:=h;refine⟨h1,h2,λhg=>?_⟩;subst hg;simp_all
 ·simp at h
theorem xK{K:Gh}{g:Bool}{cs:List AV}{vs:List Value}{a}(hr:RelL K cs vs)(h:eE g cs=some a):
  Rel K a (if g then .agg vs.toArray else vs[0]?.getD undef):=by
 cases g with
 |true=>simp[eE] at h;subst h;exact .aggL (by simpa using hr)
 |false=>
  simp only[eE,Bool.false_eq_true,if_false] at h|-;cases cs with
  |nil=>simp at h
  |cons c r=>
   simp at h;subst h
   obtain⟨v,r',rfl,h1,_⟩:=hr.cons_inv;simpa using h1
theorem Bn{P:Program}{t g n}(hr:et P t=some (g,n))(w:World)(b off:Nat)(f:Nat->Value)(h:∀i,i<n->w.cell? ⟨b,off+i,none⟩=some (f i)):
  (Instr.loadAt t (.pointer (some ⟨b,off,none⟩))).run P w= .ok (if g then .agg ((List.range n).map f).toArray else ((List.range n).map f)[0]?.getD undef) w:=by
 obtain⟨h1,h2,h3⟩:=fO hr;have hl:=run_loadCells (P:=P) w ⟨b,off,none⟩ n f (λj hj=>by rw[ce];exact h j hj);cases g with
 |true=>simp[Instr.loadAt,Instr.sureAddr,loadVar,gz h1,aR h2,hl]
 |false=>
  have hn:=h3 rfl;subst hn;have h0:=h 0 (by omega);simp only[Nat.add_zero] at h0;simp[Instr.loadAt,Instr.sureAddr,loadVar,gz h1,h0]
def ReadsAt(K:Gh)(w:World)(b off:Nat)(cs:List AV):Prop:=∀i,(h:i<cs.length)->∃v,w.cell? ⟨b,off+i,none⟩=some v/\Rel K cs[i] v
theorem vG{P:Program}{K:Gh}{t g n}(hr:et P t=some (g,n)){w:World}{b off:Nat}{cs:List AV}(h:ReadsAt K w b off cs)(hn:cs.length=n){a}(hm:eE g cs=some a):
  ∃v,(Instr.loadAt t (.pointer (some ⟨b,off,none⟩))).run P w= .ok v w/\Rel K a v:=by
 let f:Nat->Value:=λi=>(w.cell? ⟨b,off+i,none⟩).getD undef
 have hf:∀i,i<n->w.cell? ⟨b,off+i,none⟩=some (f i):=λi hi=>by
  obtain⟨v,h1,_⟩:=h i (by omega);show _=some ((w.cell? ⟨b,off+i,none⟩).getD undef)
  rw[h1];rfl
 refine⟨_,Bn hr w b off f hf,xK (vs:=(List.range n).map f) ⟨by simp[hn],λi h1 h2=>?_⟩ hm⟩;obtain⟨v,e,r⟩:=h i h1;have:f i=v:=by show(w.cell? ⟨b,off+i,none⟩).getD undef=v;rw[e];rfl
 simpa [this] using r
theorem ReadsAt.sub{K w b off cs}(h:ReadsAt K w b off cs)(k n:Nat):ReadsAt K w b (off+k) ((cs.drop k).take n):=λi hi=>by
 have hi':k+i<cs.length:=by simp at hi;omega
 obtain⟨v,h1,h2⟩:=h (k+i) hi';refine⟨v,by rw[Nat.add_assoc];exact h1,?_⟩;simpa using h2
theorem vH{K σ w cs b off}{v:Nat->Value}(hs:Sat K σ w)(hc:∀i,i<cs.length->K.claim b (off+i)=some (v i))(hr:∀i,(h:i<cs.length)->Rel K cs[i] (v i)):ReadsAt K w b off cs:=
 λi hi=>⟨v i,hs.claim _ _ _ (hc i hi),hr i hi⟩
theorem y0{K σ w o e cs}(hs:Sat K σ w)(he:K.own o=some e)(h:σ o=some (.cells cs)):ReadsAt K w e.blk 0 cs:=by
 obtain⟨e',h1,h2⟩:=hs.live o _ h;have:e'=e:=by simp_all
 subst this;cases e'<;>simp only[ObjSat] at h2
 obtain⟨_,⟨c,el,h3,h4⟩,_⟩:=h2;intro i hi;obtain⟨v,h5,h6⟩:=h4.get i hi;exact⟨v,by simp[World.cell?,Own.blk,h3];simpa using h5,h6⟩
theorem y4{K σ w o sz n cs b cap}(hs:Sat K σ w)(hv:VecOk K o n b cap)(h:σ o=some (.vec sz n cs)):ReadsAt K w b 0 cs:=by
 obtain⟨e',h1,h2⟩:=hs.live o _ h;cases e'<;>simp only[ObjSat] at h2
 obtain⟨e1,e2,k1,k2,_,⟨c,el,h3,h4,h6⟩,_⟩:=h2;subst e1 e2;obtain⟨b',cap',sz',n',hv|hv,v2,v3⟩:=hv
 ·rw[h1] at hv;simp only[Option.some.injEq,Own.vec.injEq] at hv;obtain⟨rfl,rfl,rfl,rfl⟩:=hv;obtain⟨rfl,rfl⟩:=v3 rfl;intro i hi
  have hi':i<c.size:=by
   rw[h4];exact Nat.lt_of_lt_of_le hi (k1▸Nat.mul_le_mul_right _ k2.1)
  exact⟨c[i],by simp[World.cell?,h3,hi'],(h6 i hi hi').1⟩
 ·rw[h1] at hv;simp at hv
theorem OpOk.still{P o N env σ nm R}(h:∀K a w,Fr K N env a->Sat K σ w->∃av v,(execOp a.eval o).run P w= .ok (.value v) w/\Rel K av v/\R av none):OpOk P o N env σ nm R:=
 λ_ K a w hf hs _ _=>let ⟨av,v,h1,h2,h3⟩:=h K a w hf hs;⟨K,av,none,v,w, .inl h1,Gh.leS.refl K,h2,hs,h3⟩
section ops
variable {P : Program} {o : Oper} {N : Nat} {env : bg} {σ : aA} {nm : Nat} {R : AV -> Option (Nat × AObj) -> Prop}
theorem Bo{x ax}(ho:o.op= .move x\/o.op= .assign x)(hx:aE x=some ax)(h:aJ nm env σ R (.mov ax)):OpOk P o N env σ nm R:=by
 refine .still λK a w hf hs=>?_;obtain⟨av,h1,h2⟩:=aG h;refine⟨av,a.eval x,?_,trOpnd_rel hx h1 hf,h2⟩;rcases ho with ho|ho<;>simp[execOp,ho]
theorem EO{c x y ac ax ay}(ho:o.op= .pick c x y)(hc:aE c=some ac)(hx:aE x=some ax)(hy:aE y=some ay)(h:aJ nm env σ R (.pick ac ax ay)):OpOk P o N env σ nm R:=by
 refine .still λK a w hf hs=>?_;obtain⟨cv,h1,h2⟩:=aG h;cases cv<;>simp at h2
 rename_i p
 have hp:a.eval c= .bool p:=cN (trOpnd_rel hc h1 hf);cases p with
 |true=>
  simp at h2
  obtain⟨av,h3,h4⟩:=aG h2;exact⟨av,a.eval x,by simp[execOp,ho,hp,asBool],trOpnd_rel hx h3 hf,h4⟩
 |false=>
  simp at h2
  obtain⟨av,h3,h4⟩:=aG h2;exact⟨av,a.eval y,by simp[execOp,ho,hp,asBool],trOpnd_rel hy h3 hf,h4⟩
theorem qM{t x ax g n}{K:Gh}{a:Act}{w:World}(hr:et P t=some (g,n))(hx:aE x=some ax)(h:aJ nm env σ R (.load g n ax))(hf:Fr K N env a)(hs:Sat K σ w):
  ∃av v b off,a.eval x= .pointer (some ⟨b,off,none⟩)/\(Instr.loadAt t (.pointer (some ⟨b,off,none⟩))).run P w= .ok v w/\Rel K av v/\R av none:=by
 obtain⟨pv,h1,h2⟩:=aG h;have hp:=trOpnd_rel hx h1 hf
 have fin:∀{b off:Nat} {cs:List AV} {av:AV},a.eval x= .pointer (some ⟨b,off,none⟩)->ReadsAt K w b off cs->cs.length=n->eE g cs=some av->R av none->
   ∃av v b off,a.eval x= .pointer (some ⟨b,off,none⟩)/\(Instr.loadAt t (.pointer (some ⟨b,off,none⟩))).run P w= .ok v w/\Rel K av v/\R av none:=by
  intro b off cs av e hrd hl hm hR;obtain⟨v,h5,h6⟩:=vG hr hrd hl hm;exact⟨av,v,b,off,e,h5,h6,hR⟩
 cases pv<;>simp at h2
 case ptr ob off=>
  obtain⟨e,he,hown,hfix⟩:=jU hp;split at h2
  ·rename_i cs hcs
   obtain⟨h3,h4⟩:=h2;obtain⟨av,h5,h6⟩:=aG h4;have:=(y0 hs hown hcs).sub off n
   rw[Nat.zero_add] at this;exact fin he this (by simp;omega) h5 h6
  ·exact h2.elim
 case eptr ob m off=>
  obtain⟨b,cap,he,hv⟩:=jm hp;split at h2
  ·rename_i sz m' cs hcs
   obtain⟨⟨rfl,h3⟩,h4⟩:=h2;obtain⟨av,h5,h6⟩:=aG h4;have:=(y4 hs hv hcs).sub off n
   rw[Nat.zero_add] at this;exact fin he this (by simp;omega) h5 h6
  ·exact h2.elim
 case cptr cs=>
  obtain⟨b,off,v,he,hc,hrr⟩:=kW hp;obtain⟨h3,h4⟩:=h2;obtain⟨av,h5,h6⟩:=aG h4;have:=(vH hs hc hrr).sub 0 n
  rw[Nat.add_zero] at this;exact fin he (by simpa using this) (by simp;omega) h5 h6
theorem EP{t x ax g n}(ho:o.op= .load t x)(hr:et P t=some (g,n))(hx:aE x=some ax)(h:aJ nm env σ R (.load g n ax)):OpOk P o N env σ nm R:=by
 refine .still λK a w hf hs=>?_;obtain⟨av,v,b,off,h1,h2,h3,h4⟩:=qM hr hx h hf hs;exact⟨av,v,by simp[execOp,ho,h1,h2],h3,h4⟩
theorem mQ{t n}(hn:dl P t=some n)(w:World)(b off:Nat)(v:Value)(c:Array Value)(el:TypeId)(hc:v.cells.size=n)(hh:w.heap[b]?=some (.cells c el (0,0)))
  (hl:off+n<=c.size)(h1:∀u∈v.cells.toList,u.oneCell'=true):
  (Instr.storeAt t (.pointer (some ⟨b,off,none⟩)) v).run P w= .ok () (w.setRow b (c.toList.take off++v.cells.toList++c.toList.drop (off+v.cells.toList.length)).toArray):=by
 have:=run_storeCells_at P b off el v.cells.toList 0 c w hh (by simp;omega) h1
 simp only[Nat.add_zero] at this;simp[Instr.storeAt,Instr.sureAddr,storeVar,aR hn,hc,this]
theorem Sat.setRow{K:Gh}{σ w}(h:Sat K σ w){ob e x x'}{c:Array Value}{el:TypeId}(hx:σ ob=some x)(he:K.own ob=some e)(hre:e.real=true)(c':Array Value)
  (hh:w.heap[e.blk]?=some (.cells c el (0,0)))(hno:∀i,K.claim e.blk i=none)(hx':ObjSat K (w.setRow e.blk c') e x'):Sat K (aH σ ob x') (w.setRow e.blk c'):=by
 refine h.write (Gh.le.refl K) hx he hre (λ_ _=>rfl) he rfl rfl rfl rfl (by simp) (λb hb=>setRow_other w _ b c' hb) (λi=>?_) (λi v e'=>by simp[hno] at e') (λ_ _ _=>rfl) hx';exact cy (setRow_heap w e.blk c c' el (0,0) hh) rfl
theorem y5(A us:List Value)(off m:Nat)(h:off+us.length<=m)(h2:m<=A.length):
  (A.take m).take off++us++(A.take m).drop (off+us.length)=(A.take off++us++A.drop (off+us.length)).take m:=by
 have e1:(A.take off).length=off:=by simp;omega
 rw[List.take_take,Nat.min_eq_left (by omega),List.drop_take,List.take_append,List.take_append,e1,List.take_of_length_le (l:=A.take off) (by simp;omega),
  List.take_of_length_le (l:=us) (by omega),List.length_append,e1]
theorem Bp{t p x ap ax n}(ho:o.op= .store t p x)(hd:o.dst=none)(hn:dl P t=some n)(hp:aE p=some ap)(hx:aE x=some ax)(h:aJ nm env σ R (.store n ap ax)):OpOk P o N env σ nm R:=by
  intro S K a w hf hs _ _;obtain⟨pv,h1,h2⟩:=aG h;obtain⟨xv,h3,h4⟩:=aG h2;have rp:=trOpnd_rel hp h1 hf;have rx:=trOpnd_rel hx h3 hf
  have ones:(∀y∈az xv,bY y=true)->∀u∈(a.eval x).cells.toList,u.oneCell'=true:=by
    intro hall u hu;obtain⟨i,hi,rfl⟩:=List.getElem_of_mem hu;have hl:i<(az xv).length:=by rw[rx.cells.1];exact hi
    exact(rx.cells.2 i hl hi).oneCell (hall _ (List.getElem_mem hl))
  have lens:(az xv).length=(a.eval x).cells.size:=by simpa using rx.cells.1
  cases pv<;>simp at h4
  case ptr ob off=>
   obtain⟨e,he,hown,hfix⟩:=jU rp;split at h4
   · rename_i cs hcs
     obtain⟨⟨k1,k2,k3⟩,k4⟩:=h4;obtain⟨e',l1,l2⟩:=hs.live ob _ hcs;have:e'=e:=by simp_all
     subst this;cases e'<;>simp only[ObjSat] at l2
     rename_i b
     obtain⟨m1,⟨c,el,m2,m3⟩,m4⟩:=l2;have hsz:cs.length=c.size:=by simpa using m3.1
     have hrun:=mQ (P:=P) hn w b off (a.eval x) c el (by omega) m2 (by omega) (ones k3);refine⟨K, .tup [],some _,undef,_, .inr ⟨by simp only[execOp,ho,he,Own.blk,Sem.run_bind,hrun,Result.andThen_ok,Sem.run_pure];rfl,hd⟩,Gh.leS.refl K, .tupL .nil,?_,k4⟩;exact Sat.setRow hs hcs hown rfl _ m2 m4 ⟨m1,⟨_,el,setRow_heap w b c _ el (0,0) m2,by simpa using m3.putAt rx.cells off⟩,m4⟩
   · exact h4.elim
  case eptr ob m off=>
   obtain⟨b0,cap0,he,hv⟩:=jm rp;split at h4
   · rename_i sz m' cs hcs
     obtain⟨⟨rfl,k1,k2,k3⟩,k4⟩:=h4;obtain⟨e',l1,l2⟩:=hs.live ob _ hcs;cases e'<;>simp only[ObjSat] at l2
     rename_i b cap sz' n'
     obtain⟨rfl,rfl,p1,p2,m1,⟨c,el,m2,m5,m6⟩,m4⟩:=l2;obtain⟨b',cap',sz2,n2,hv|hv,v2,v3⟩:=hv
     case inr=>rw[l1] at hv;simp at hv
     rw[l1] at hv;simp only[Option.some.injEq,Own.vec.injEq] at hv;obtain⟨rfl,rfl,rfl,rfl⟩:=hv;obtain⟨rfl,rfl⟩:=v3 rfl;have hle:=Nat.mul_le_mul_right sz' p2.1;have hrun:=mQ (P:=P) hn w b0 off (a.eval x) c el (by omega) m2 (by omega) (ones k3);refine⟨K, .tup [],some _,undef,_, .inr ⟨by simp only[execOp,ho,he,Sem.run_bind,hrun,Result.andThen_ok,Sem.run_pure];rfl,hd⟩,Gh.leS.refl K, .tupL .nil,?_,k4⟩
     have rl:RelL K cs (c.toList.take cs.length):=⟨by simp;omega,λi i1 i2=>by
       have:=(m6 i i1 (by omega)).1
       simpa using this⟩
     have rl2:=rl.putAt rx.cells off;have hxl:(a.eval x).cells.toList.length=n:=by simp;omega
     refine Sat.setRow hs hcs l1 rfl _ m2 m4 ⟨rfl,rfl,?_,p2,m1,⟨_,el,setRow_heap w b0 c _ el (0,0) m2,?_,?_⟩,m4⟩
     · simp[putAt];omega
     · simp;omega
     · intro i i1 i2
       have i1':=i1;rw[rl2.1] at i1';have r3:=rl2.2 i i1 i1';have hpt:=y5 c.toList (a.eval x).cells.toList off cs.length (by omega) (by simp;omega);have hi:i<cs.length:=by simp[putAt] at i1;omega
       have:(List.take off (c.toList.take cs.length)++(a.eval x).cells.toList++List.drop (off+(a.eval x).cells.toList.length) (c.toList.take cs.length))[i]'i1'=
           (c.toList.take off++(a.eval x).cells.toList++c.toList.drop (off+(a.eval x).cells.toList.length))[i]'(by simpa using i2):=by
         apply Option.some.inj
         rw[<-List.getElem?_eq_getElem,<-List.getElem?_eq_getElem,hpt,List.getElem?_take,if_pos hi]
       rw[this] at r3;refine⟨by simpa using r3,?_⟩
       have hmem:∀u,(c.toList.take off++(a.eval x).cells.toList++c.toList.drop (off+(a.eval x).cells.toList.length))[i]?=some u->u.oneCell'=true:=by
         intro u hu;rw[List.getElem?_append] at hu;split at hu
         · rw[List.getElem?_append] at hu
           split at hu
           · rename_i q1 q2
             rw[List.getElem?_take] at hu;split at hu
             · have hic:i<c.size:=by omega
               rw[Array.getElem?_toList,Array.getElem?_eq_getElem hic] at hu;simp only[Option.some.injEq] at hu;rw[<-hu];exact(m6 i hi hic).2
             · simp at hu
           · exact ones k3 u (List.mem_of_getElem? hu)
         · rename_i q1
           rw[List.getElem?_drop] at hu
           have e1:off+(a.eval x).cells.toList.length+(i-(c.toList.take off++(a.eval x).cells.toList).length)=i:=by
             simp at q1|-;omega
           rw[e1] at hu;have hic:i<c.size:=by omega
           rw[Array.getElem?_toList,Array.getElem?_eq_getElem hic] at hu;simp only[Option.some.injEq] at hu;rw[<-hu];exact(m6 i hi hic).2
       refine hmem _ ?_;have i2':i<(c.toList.take off++(a.eval x).cells.toList++c.toList.drop (off+(a.eval x).cells.toList.length)).length:=by simpa using i2
       rw[List.getElem?_eq_getElem i2'];simp
   · exact h4.elim
end ops
end Abs
namespace Abs
open Go
theorem me(w:World)(ob:Obj):Pushed w {w with heap:=w.heap.push ob} ob:=⟨rfl,rfl,rfl,rfl⟩
theorem Sat.newCells{K σ w}(h:Sat K σ w){cs:List AV}{vs:Array Value}(hr:RelL K cs vs.toList)(el:TypeId){o:Nat}(ho:K.own o=none){S:Nat->Prop}(hS:¬S o):
  ∃K',K.leS S K'/\K'.own o=some (.obj w.heap.size)/\Sat K' (aH σ o (.cells cs)) {w with heap:=w.heap.push (.cells vs el)}:=by
 have hp:=me w (.cells vs el);have hle0:=(h.push hp rfl (λ_=>none) (λi v e=>by simp at e)).1
 obtain⟨h1,h2⟩:=h.pushName hp rfl (λ_=>none) (λi v e=>by simp at e) ho (.obj w.heap.size) rfl (.cells cs)
  ⟨by show K.base.heap.size<=_;exact h.size,⟨vs,el,hp.new,hr.mono hle0⟩,λi=>by simp[Gh.claimed]⟩
 refine⟨_,⟨h1,λo' hs hn=>?_⟩,by simp[Gh.named],h2⟩;have:o'≠o:=λe=>hS (e▸hs)
 simp[Gh.named,Gh.claimed,this,hn]
theorem Sat.newRow{K σ w}(h:Sat K σ w)(vs:Array Value)(el:TypeId)(n:Nat)(hn:n<=vs.size)(h1:∀i,(hi:i<n)->(vs[i]'(by omega)).oneCell'=true):
  ∃K',K.le K'/\(∀i,i<n->K'.claim w.heap.size i=vs[i]?)/\(∀i,n<=i->K'.claim w.heap.size i=none)/\K'.own=K.own/\Sat K' σ {w with heap:=w.heap.push (.cells vs el)}:=by
 have hp:=me w (.cells vs el)
 obtain⟨h2,h3⟩:=h.push hp rfl (λi=>if i<n then vs[i]? else none) (λi v e=>by
  by_cases hi:i<n
  ·rw[if_pos hi] at e;refine⟨by simp[World.cell?];exact e,?_⟩;have:=h1 i hi
   rw[Array.getElem?_eq_getElem (by omega)] at e;simp at e;rw[<-e];exact this
  ·rw[if_neg hi] at e;simp at e)
 exact⟨_,h2,λi hi=>by simp[Gh.claimed,hi],λi hi=>by simp[Gh.claimed];omega,rfl,h3⟩
theorem RelL.ones{K cs vs}(h:RelL K cs vs)(h1:cs.all bY=true)(i:Nat)(hi:i<vs.length):vs[i].oneCell'=true:=by
 have hi':i<cs.length:=h.1▸hi;have:=h.2 i hi' hi
 exact this.oneCell (List.all_eq_true.1 h1 _ (List.getElem_mem hi'))
section ops
variable {P : Program} {o : Oper} {N : Nat} {env : bg} {σ : aA} {nm : Nat} {R : AV -> Option (Nat × AObj) -> Prop}
theorem Bq{e z}(ho:o.op= .alloc e)(hz:cx P e=some z)(h:aJ nm env σ R (.alloc z)):OpOk P o N env σ nm R:=by
 intro S K a w hf hs hnm hS;obtain⟨v,h1,h2,_⟩:=dN (K:=K) hz w;obtain⟨K',k2,k3,k4⟩:=hs.newCells h2 e hnm hS;refine⟨K',_,some (nm,_),_,_, .inl ?_,k2, .ptr nm 0 _ k3 rfl,k4,h⟩;simp[execOp,ho,Instr.alloc,h1,newVar,Go.newRow,Own.blk]
theorem IF{e x ax}(ho:o.op= .box e x)(hx:aE x=some ax)(h:aJ nm env σ R (.box ax)):OpOk P o N env σ nm R:=by
 intro S K a w hf hs hnm hS;obtain⟨av,h1,h2⟩:=aG h;obtain⟨K',k2,k3,k4⟩:=hs.newCells (trOpnd_rel hx h1 hf).cells e hnm hS;refine⟨K',_,some (nm,_),_,_, .inl ?_,k2, .ptr nm 0 _ k3 rfl,k4,h2⟩;simp[execOp,ho,Instr.box,newVar,Go.newRow,Own.blk]
theorem EQ{e x ax}(ho:o.op= .box e x)(hx:aE x=some ax)(h:aJ nm env σ R (.boxI ax)):OpOk P o N env σ nm R:=by
 intro S K a w hf hs _ _;obtain⟨av,h1,h0,h2⟩:=aG h;have hr:=(trOpnd_rel hx h1 hf).cells;have hl:(az av).length=(a.eval x).cells.size:=by simpa using hr.1
 obtain⟨K',k1,k2,_,k5,k4⟩:=hs.newRow (a.eval x).cells e (a.eval x).cells.size (Nat.le_refl _) (λi hi=>by
  have:=hr.ones h0 i (by simpa using hi)
  simpa using this)
 refine⟨K', .cptr (az av),none, .pointer (some ⟨w.heap.size,0,none⟩),_, .inl ?_,Gh.leS_own k1 k5,?_,k4,h2⟩
 ·simp[execOp,ho,Instr.box,newVar,Go.newRow]
 ·refine .cptr _ _ _ (λi=>((a.eval x).cells[i]?).getD undef) (λi hi=>?_) (λi hi=>?_)
  ·rw[Nat.zero_add,k2 i (by omega),Array.getElem?_eq_getElem (by omega)];rfl
  ·have:=hr.2 i hi (by simp;omega)
   rw[Array.getElem?_eq_getElem (by omega)];simpa using this.mono k1
theorem y6{x ax}(ho:o.op= .nilCheck x)(hx:aE x=some ax)(h:aJ nm env σ R (.nilchk ax)):OpOk P o N env σ nm R:=by
 refine .still λK a w hf hs=>?_;obtain⟨av,h1,h2⟩:=aG h;have hr:=trOpnd_rel hx h1 hf;cases av<;>simp at h2
 case ptr ob off=>
  obtain⟨e,he,_,_⟩:=jU hr;exact⟨_,_,by simp[execOp,ho,he];rfl,by rw[<-he];exact hr,h2⟩
 case eptr ob m off=>
  obtain⟨b,cap,he,_⟩:=jm hr;exact⟨_,_,by simp[execOp,ho,he];rfl,by rw[<-he];exact hr,h2⟩
 case cptr cs=>
  obtain⟨b,off,u,he,_,_⟩:=kW hr;exact⟨_,_,by simp[execOp,ho,he];rfl,by rw[<-he];exact hr,h2⟩
 case fn f l m=>
  obtain⟨fs,cs,he,_,_⟩:=vF hr;exact⟨_,_,by simp[execOp,ho,he];rfl,by rw[<-he];exact hr,h2⟩
theorem qt(op:BinOp)(t:TypeId)(x y:Operand)(u v:Value)(w:World)(h1:∀cs,u≠ .agg cs)(h2:u≠ .nilIface):(eqGuard op t x y u v).run P w= .ok () w:=by
 unfold eqGuard;cases op<;>first|rfl|(cases u<;>first|(exact absurd rfl h2)|(exact absurd rfl (h1 _))|(cases v<;>rfl))
theorem oq{t:TypeId}(hb:kx P t=true)(p q:Bool)(w:World):(Op.equal t (.bool p) (.bool q)).run P w= .ok (p==q) w:=by
 unfold kx at hb;split at hb
 ·rename_i hu
  have e:Op.maxDepth=9999+1:=rfl;rw[Op.equal,e,Op.equalIn];simp[aB hu]
 ·simp at hb
theorem vI{op t x y yt tb ax ay}(ho:o.op= .binOp op t x y yt)(hp:tb=true->kx P t=true)(hx:aE x=some ax)(hy:aE y=some ay)(h:aJ nm env σ R (.bin op tb ax ay)):OpOk P o N env σ nm R:=by
 refine .still λK a w hf hs=>?_;obtain⟨av,h1,h2⟩:=aG h;obtain⟨bv,h3,h4⟩:=aG h2;obtain⟨rv,h5,h6⟩:=aG h4;have ra:=trOpnd_rel hx h1 hf;have rb:=trOpnd_rel hy h3 hf
 have fin:∀{v:Value},(binOp op t (a.eval x) (a.eval y)).run P w= .ok v w->(∀cs,a.eval x≠ .agg cs)->a.eval x≠ .nilIface->Rel K rv v->∃av v,(execOp a.eval o).run P w= .ok (.value v) w/\Rel K av v/\R av none:=by
  intro v e n1 n2 r;exact⟨rv,v,by simp[execOp,ho,qt op t x y _ _ w n1 n2,e],r,h6⟩
 cases av<;>cases bv<;>simp only[EJ] at h5<;>try (simp at h5;done)
 case int.int k n k' m=>
  have ea:=aN ra;have eb:=aN rb;have hn1:∀cs,a.eval x≠ .agg cs:=by simp[ea]
  have hn2:a.eval x≠ .nilIface:=by simp[ea]
  cases op<;>simp only[] at h5
  case shl=>
   split at h5<;>simp at h5
   subst h5
   rename_i hb
   refine fin ?_ hn1 hn2 (.int _ _);simp[ea,eb,binOp,Op.shift,hb]
  case shr=>
   split at h5<;>simp at h5
   subst h5
   rename_i hb
   refine fin ?_ hn1 hn2 (.int _ _);simp[ea,eb,binOp,Op.shift,hb]
  case quo=>
   split at h5<;>simp at h5
   obtain⟨hz,h5⟩:=h5;subst h5;rename_i hk;subst hk;refine fin ?_ hn1 hn2 (.int _ _);simp[ea,eb,binOp,Op.intDiv,hz]
  case rem=>
   split at h5<;>simp at h5
   obtain⟨hz,h5⟩:=h5;subst h5;rename_i hk;subst hk;refine fin ?_ hn1 hn2 (.int _ _);simp[ea,eb,binOp,Op.intDiv,hz]
  all_goals
   split at h5<;>simp at h5
   subst h5;rename_i hk;subst hk
   first
    |(refine fin ?_ hn1 hn2 (.int _ _);simp[ea,eb,binOp,Op.intArith,Op.intBits,Op.intCmp];done)
    |(refine fin ?_ hn1 hn2 (.bool _);simp[ea,eb,binOp,Op.intArith,Op.intBits,Op.intCmp];done)
 case bool.bool p q=>
  have ea:=cN ra;have eb:=cN rb;have hn1:∀cs,a.eval x≠ .agg cs:=by simp[ea]
  have hn2:a.eval x≠ .nilIface:=by simp[ea]
  cases op<;>simp at h5
  all_goals
   obtain⟨h7,h5⟩:=h5;subst h5;refine fin ?_ hn1 hn2 (.bool _);simp[ea,eb,binOp,oq (hp h7)]
 case str.str p q=>
  have ea:=gk ra;have eb:=gk rb;have hn1:∀cs,a.eval x≠ .agg cs:=by simp[ea]
  have hn2:a.eval x≠ .nilIface:=by simp[ea]
  cases op<;>simp at h5
  all_goals
   subst h5;refine fin ?_ hn1 hn2 (.bool _);simp[ea,eb,binOp,Op.stringOp]
end ops
end Abs
namespace Abs
open Go
theorem tF:flat []=[]:=rfl
theorem c7(x l):flat (x::l)=az x++flat l:=by simp[flat]
theorem fP(l m):flat (l++m)=flat l++flat m:=by simp[flat]
theorem aV{l:List AV}{sz}(h:∀x∈l,(az x).length=sz):(flat l).length=l.length*sz:=by
 induction l with
 |nil=>simp[flat]
 |cons x l ih=>
  rw[c7,List.length_append,h x (by simp),ih (λy hy=>h y (by simp[hy]))];simp[Nat.succ_mul];omega
theorem qN{l:List AV}{sz}(h:∀x∈l,(az x).length=sz)(n:Nat):flat (l.drop n)=(flat l).drop (n*sz):=by
 induction n generalizing l with
 |zero=>simp
 |succ n ih=>
  cases l with
  |nil=>simp[flat]
  |cons x l=>
   rw[List.drop_succ_cons,ih (λy hy=>h y (by simp[hy])),c7,Nat.succ_mul,Nat.add_comm,List.drop_append,List.drop_of_length_le (l:=az x) (by rw[h x (by simp)];omega),h x (by simp)];simp
theorem y7{l:List AV}{sz}(h:∀x∈l,(az x).length=sz)(n:Nat):flat (l.take n)=(flat l).take (n*sz):=by
 induction n generalizing l with
 |zero=>simp[flat]
 |succ n ih=>
  cases l with
  |nil=>simp[flat]
  |cons x l=>
   rw[List.take_succ_cons,c7,ih (λy hy=>h y (by simp[hy])),c7,Nat.succ_mul,Nat.add_comm,List.take_append,List.take_of_length_le (l:=az x) (by rw[h x (by simp)];omega),h x (by simp)];simp
theorem xL{l:List AV}{sz}(h:∀x∈l,(az x).length=sz){i:Nat}{e:AV}(he:l[i]?=some e):((flat l).drop (i*sz)).take sz=az e:=by
 rw[<-qN h]
 have hi:i<l.length:=by
  rcases Nat.lt_or_ge i l.length with h'|h'
  ·exact h'
  ·simp[List.getElem?_eq_none h'] at he
 rw[List.drop_eq_getElem_cons hi,c7];have:l[i]=e:=by rw[List.getElem?_eq_getElem hi] at he;exact Option.some.inj he
 rw[this,List.take_append,List.take_of_length_le (by rw[h e (this▸List.getElem_mem hi)];omega),h e (this▸List.getElem_mem hi)];simp
theorem rel_slice{K l t v}(h:Rel K (.slice l t) v):
  (∃a cap,v= .slice a 0 cap/\l=[]/\(t= .no\/t= .full/\cap=0\/t= .nil/\a=none/\cap=0\/(a=none/\cap=0/\∃o,t= .own o/\NilOwn K o)))\/
  (∃b off cap sz,∃u:Nat->Value,v= .slice (some ⟨b,off,none⟩) l.length cap/\(∀x∈l,(az x).length=sz)/\(∀i,i<(flat l).length->K.claim b (off+i)=some (u i))/\
   (∀i,(h:i<(flat l).length)->Rel K (flat l)[i] (u i))/\TokOk K t l.length b off cap sz/\l.length<=cap):=by
 cases h with
 |sl0 a cap t ht=>exact .inl ⟨a,cap,rfl,rfl,ht⟩
 |slice l t b off cap sz u hsz hc hr ht hcap=>exact .inr ⟨b,off,cap,sz,u,rfl,hsz,hc,hr,ht,hcap⟩
theorem nH{K o len v}(h:Rel K (.vec o len) v):∃b cap,v= .slice (some ⟨b,0,none⟩) len cap/\VecOk K o len b cap/\len<=cap:=by
 cases h with|vec o len b cap h hl=>exact⟨b,cap,rfl,h,hl⟩
theorem nI{K o len n v}(h:Rel K (.pre o len n) v):∃b cap,v= .slice (some ⟨b,0,none⟩) len cap/\VecOk K o n b cap/\len<=n/\n<=cap:=by
 cases h with|pre o len n b cap h h1 hl=>exact⟨b,cap,rfl,h,h1,hl⟩
section ops
variable {P : Program} {o : Oper} {N : Nat} {env : bg} {σ : aA} {nm : Nat} {R : AV -> Option (Nat × AObj) -> Prop}
theorem LG{op t x ax}(ho:o.op= .unOp op t x)(hx:aE x=some ax)(h:aJ nm env σ R (.un op ax)):OpOk P o N env σ nm R:=by
 refine .still λK a w hf hs=>?_;obtain⟨av,h1,h2⟩:=aG h;have hr:=trOpnd_rel hx h1 hf;cases op<;>cases av<;>simp at h2
 case not.bool=>exact⟨_,_,by simp[execOp,ho,cN hr,Op.unary]<;>rfl, .bool _,h2⟩
 case neg.int=>exact⟨_,_,by simp[execOp,ho,aN hr,Op.unary,Op.intArith]<;>rfl, .int _ _,h2⟩
 case xor.int k n=>
  cases k<;>simp only[] at h2<;>first|exact h2.elim|skip
  exact⟨_,_,by simp[execOp,ho,aN hr,Op.unary,Op.intBits]<;>rfl, .int _ _,h2⟩
theorem ER{s d x ax ks k}(ho:o.op= .convert s d x)(hs1:P.underlying s=some (.int ks))(hd:P.underlying d=some (.int k))(hx:aE x=some ax)(h:aJ nm env σ R (.conv k ax)):OpOk P o N env σ nm R:=by
 refine .still λK a w hf hs=>?_;obtain⟨av,h1,h2⟩:=aG h;have hr:=trOpnd_rel hx h1 hf;cases av<;>simp at h2
 have e:=aN hr;exact⟨_,_,by simp[execOp,ho,e,Go.convert,aB hs1,aB hd,Conv.intToInt]<;>rfl, .int _ _,h2⟩
theorem ES{f first caps af ac}(ho:o.op= .makeFunc (.func f) first caps)(h1:cL first.toList=some af)(h2:cL caps.toList=some ac)(h:aJ nm env σ R (.mkfn f af ac)):OpOk P o N env σ nm R:=by
 refine .still λK a w hf hs=>?_;obtain⟨l,e1,h3⟩:=dW h;obtain⟨m,e2,h4⟩:=dW h3;have r1:=cM hf h1 e1;have r2:=cM hf h2 e2;refine⟨.fn f l m, .func (.func f) (first.map a.eval) (caps.map a.eval),by simp[execOp,ho,Instr.makeFunc],?_,h4⟩;refine .fn f l m _ _ (by simpa using r1.1) (by simpa using r2.1) (λi i1 i2=>?_) (λi i1 i2=>?_)
 ·have:=r1.2 i i1 (by simpa using i2);simpa using this
 ·have:=r2.2 i i1 (by simpa using i2);simpa using this
theorem jn{s f}{fs:Array Field}{fd:Field}(hu:P.underlying s=some (.struct fs))(hf:fs[f]?=some fd){n}(hn:dl P fd.type=some n)(hn0:n≠0)(w:World)(b off:Nat):
  (Instr.fieldAt s (.pointer (some ⟨b,off,none⟩)) f).run P w= .ok (.pointer (some ⟨b,off+fd.offset,none⟩)) w:=by
 simp[Instr.fieldAt,aB hu,hf,Instr.sureAddr,fieldPlace,aR hn,hn0,ce]
theorem ET{s x f ax fs fd n}(ho:o.op= .fieldAddr s x f)(hu:P.underlying s=some (.struct fs))(hf':fs[f]?=some fd)(hn:dl P fd.type=some n)(hn0:n≠0)(hx:aE x=some ax)
  (h:aJ nm env σ R (.fldA fd.offset ax)):OpOk P o N env σ nm R:=by
 refine .still λK a w hf hs=>?_;obtain⟨av,h1,h2⟩:=aG h;have hr:=trOpnd_rel hx h1 hf;cases av<;>simp at h2
 case ptr ob off=>
  obtain⟨e,he,h3,h4⟩:=jU hr;exact⟨_,_,by simp[execOp,ho,he,jn hu hf' hn hn0]<;>rfl, .ptr _ _ e h3 h4,h2⟩
 case eptr ob m off=>
  obtain⟨b,cap,he,h3⟩:=jm hr;exact⟨_,_,by simp[execOp,ho,he,jn hu hf' hn hn0]<;>rfl, .eptr _ _ _ b cap h3,h2⟩
 case cptr cs=>
  obtain⟨b,off,u,he,h3,h4⟩:=kW hr;refine⟨_,_,by simp[execOp,ho,he,jn hu hf' hn hn0]<;>rfl,?_,h2⟩
  refine .cptr _ b (off+fd.offset) (λi=>u (fd.offset+i)) (λi hi=>?_) (λi hi=>?_)
  ·rw[Nat.add_assoc];exact h3 _ (by simp at hi;omega)
  ·simpa using h4 (fd.offset+i) (by simp at hi;omega)
theorem Br{t g n}(hr:et P t=some (g,n))(w:World)(cs:Array Value)(off:Nat)(h:off+n<=cs.size):
  (part t cs off).run P w= .ok (if g then .agg (cs.extract off (off+n)) else cs[off]?.getD undef) w:=by
 obtain⟨h1,h2,h3⟩:=fO hr;cases g with
 |true=>simp[part,gz h1,aR h2]
 |false=>
  have:=h3 rfl
  subst this;have ho:off<cs.size:=by omega
  simp[part,gz h1,ho]
theorem Bt{K:Gh}{g:Bool}{cs:List AV}{vs:Array Value}{off n a}(hr:RelL K cs vs.toList)(h:eE g ((cs.drop off).take n)=some a)(hn:g=false->n=1)(hl:off+n<=cs.length):
  Rel K a (if g then .agg (vs.extract off (off+n)) else vs[off]?.getD undef):=by
 have h1:=xK ((hr.drop off).take n) h;cases g with
 |true=>
  have e:(List.take n (List.drop off vs.toList)).toArray=vs.extract off (off+n):=by
   apply Array.ext'
   rw[Array.toList_extract];simp[List.take_drop]
  simp only[if_true] at h1|-;rw[<-e];exact h1
 |false=>
  have:=hn rfl
  subst this;have hs:off<vs.size:=by have:=hr.1;simp at this;omega
  simpa [hs] using h1
theorem EU{s x f ax fs fd g n}(ho:o.op= .field s x f)(hu:P.underlying s=some (.struct fs))(hf':fs[f]?=some fd)(hn:et P fd.type=some (g,n))(hx:aE x=some ax)
  (h:aJ nm env σ R (.fldV g fd.offset n ax)):OpOk P o N env σ nm R:=by
 refine .still λK a w hf hs=>?_;obtain⟨av,h1,h2⟩:=aG h;have hr:=trOpnd_rel hx h1 hf;cases av<;>simp at h2
 rename_i cs
 obtain⟨h3,h4⟩:=h2;obtain⟨rv,h5,h6⟩:=aG h4;obtain⟨vs,he,hv⟩:=gX hr;have hl:cs.length=vs.size:=by simpa using hv.1
 refine⟨rv,_,by simp[execOp,ho,he,Instr.field,aB hu,hf',asAgg,Br hn w vs fd.offset (by omega)]<;>rfl,Bt hv h5 (fO hn).2.2 h3,h6⟩
theorem EV{t x i e ax ai sz}(ho:o.op= .indexAddr t x i)(hu:P.underlying t=some (.slice e))(hsz:dl P e=some sz)(hx:aE x=some ax)(hi:aE i=some ai)
  (h:aJ nm env σ R (.idxS sz ax ai)):OpOk P o N env σ nm R:=by
 refine .still λK a w hf hs=>?_;obtain⟨sv,h1,h2⟩:=aG h;obtain⟨iv,h3,h4⟩:=aG h2;have rs:=trOpnd_rel hx h1 hf;have ri:=trOpnd_rel hi h3 hf;cases sv<;>cases iv<;>simp at h4
 case slice.int l tk k n=>
  obtain⟨p1,h5⟩:=h4;obtain⟨el,p2,p3,p4⟩:=aG h5;have ei:=aN ri
  have hlt:n.toNat<l.length:=by
   rcases Nat.lt_or_ge n.toNat l.length with h'|h'
   ·exact h'
   ·simp[List.getElem?_eq_none h'] at p2
  rcases rel_slice rs with ⟨a0,cap,he,rfl,_⟩|⟨b,off,cap,sz',u,he,q1,q2,q3,q4,q5⟩
  ·simp at hlt
  have hel:el∈l:=List.mem_of_getElem? p2;have hszz:sz'=sz:=by rw[<-q1 el hel,p3]
  subst hszz;have hn:n<(l.length:Int):=by omega
  have hfl:=xL q1 p2;have hlen:=aV q1
  have hbound:n.toNat*sz'+sz'<=(flat l).length:=by
   rw[hlen];have:=Nat.mul_le_mul_right sz' (show n.toNat+1<=l.length by omega);rw[Nat.succ_mul] at this;exact this
  refine⟨_,_,by simp[execOp,ho,he,ei,Instr.indexAt,asIntOf,aB hu,p1,hn,aR hsz,ce]<;>rfl,?_,p4⟩
  refine .cptr _ b (off+n.toNat*sz') (λj=>u (n.toNat*sz'+j)) (λj hj=>?_) (λj hj=>?_)
  ·rw[Nat.add_assoc];exact q2 _ (by omega)
  ·have hj':n.toNat*sz'+j<(flat l).length:=by omega
   have:=q3 (n.toNat*sz'+j) hj'
   have e2:(flat l)[n.toNat*sz'+j]=(az el)[j]:=by
    apply Option.some.inj
    rw[<-List.getElem?_eq_getElem,<-List.getElem?_eq_getElem,<-hfl,List.getElem?_take,if_pos (by omega),List.getElem?_drop]
   rw[<-e2];exact this
 case vec.int ob len k n=>
  obtain⟨⟨p1,p2⟩,p4⟩:=h4;have ei:=aN ri;obtain⟨b,cap,he,q1,q2⟩:=nH rs;refine⟨_,_,by simp[execOp,ho,he,ei,Instr.indexAt,asIntOf,aB hu,p1,p2,aR hsz,ce]<;>rfl,?_,p4⟩
  exact .eptr ob _ _ b cap q1
 case pre.int ob len nn k n=>
  obtain⟨⟨p1,p2⟩,p4⟩:=h4;have ei:=aN ri;obtain⟨b,cap,he,q1,q2⟩:=nI rs;refine⟨_,_,by simp[execOp,ho,he,ei,Instr.indexAt,asIntOf,aB hu,p1,p2,aR hsz,ce]<;>rfl,?_,p4⟩
  exact .eptr ob _ _ b cap q1
theorem EW{t x i e len ax ai sz}(ho:o.op= .indexAddr t x i)(hu:P.underlying t=some (.array len e))(hsz:dl P e=some sz)(hx:aE x=some ax)(hi:aE i=some ai)
  (h:aJ nm env σ R (.idxR sz len ax ai)):OpOk P o N env σ nm R:=by
 refine .still λK a w hf hs=>?_;obtain⟨sv,h1,h2⟩:=aG h;obtain⟨iv,h3,h4⟩:=aG h2;have rs:=trOpnd_rel hx h1 hf;have ri:=trOpnd_rel hi h3 hf
 have run:∀{b off:Nat} {k:IntKind} {n:Int},a.eval x= .pointer (some ⟨b,off,none⟩)->a.eval i= .int k n->0<=n->n<len->
   (execOp a.eval o).run P w= .ok (.value (.pointer (some ⟨b,off+n.toNat*sz,none⟩))) w:=by
  intro b off k n he ei p1 p2;simp[execOp,ho,he,ei,Instr.indexAt,asIntOf,aB hu,p1,p2,aR hsz,ce,Instr.sureAddr]
 cases sv<;>cases iv<;>simp at h4
 case ptr.int ob off k n=>
  obtain⟨⟨p1,p2⟩,p4⟩:=h4;obtain⟨e0,he,q1,q2⟩:=jU rs;exact⟨_,_,run he (aN ri) p1 p2, .ptr ob _ e0 q1 q2,p4⟩
 case eptr.int ob m off k n=>
  obtain⟨⟨p1,p2⟩,p4⟩:=h4;obtain⟨b,cap,he,q1⟩:=jm rs;exact⟨_,_,run he (aN ri) p1 p2, .eptr ob _ _ b cap q1,p4⟩
 case cptr.int cs k n=>
  obtain⟨⟨p1,p2⟩,p4⟩:=h4;obtain⟨b,off,u,he,q1,q2⟩:=kW rs;refine⟨_,_,run he (aN ri) p1 p2,?_,p4⟩;refine .cptr _ b _ (λj=>u (n.toNat*sz+j)) (λj hj=>?_) (λj hj=>?_)
  ·rw[Nat.add_assoc];exact q1 _ (by simp at hj;omega)
  ·simpa using q2 (n.toNat*sz+j) (by simp at hj;omega)
theorem vJ{x ax k}(ho:o.op= .extract x k)(hx:aE x=some ax)(h:aJ nm env σ R (.extract ax k)):OpOk P o N env σ nm R:=by
 refine .still λK a w hf hs=>?_;obtain⟨av,h1,h2⟩:=aG h;have hr:=trOpnd_rel hx h1 hf;cases av<;>simp at h2
 rename_i cs
 obtain⟨rv,h5,h6⟩:=aG h2;obtain⟨vs,he,hv⟩:=EN hr
 have hk:k<cs.length:=by
  rcases Nat.lt_or_ge k cs.length with h'|h'
  ·exact h'
  ·simp[List.getElem?_eq_none h'] at h5
 obtain⟨v,e1,r1⟩:=hv.get k hk;have:cs[k]=rv:=by rw[List.getElem?_eq_getElem hk] at h5;exact Option.some.inj h5
 rw[this] at r1;exact⟨rv,v,by simp at e1;simp[execOp,ho,he,Instr.extract,e1],r1,h6⟩
theorem vK{t x ax d}(ho:o.op= .makeInterface t x)(hu:P.underlying t=some d)(hd:∀ms,d≠ .interface ms)(hx:aE x=some ax)(h:aJ nm env σ R (.mkiface t ax)):OpOk P o N env σ nm R:=by
 refine .still λK a w hf hs=>?_;obtain⟨av,h1,h2⟩:=aG h;refine⟨_,_,?_, .iface t av _ (trOpnd_rel hx h1 hf),h2⟩;cases d<;>first|(exact absurd rfl (hd _))|simp[execOp,ho,Instr.makeInterface,aB hu]
end ops
end Abs
