/- The abstraction layer, part C: how the ghost state follows the world (new blocks, stores). General lemmas over any program. -/
import Derived.Calls
import Derived.RowKit3
import Derived.Laws.World
import Derived.Laws.Sem
import Derived.Laws.Rows
import Derived.Laws.CopyRow
set_option linter.unusedSimpArgs false
set_option linter.unusedVariables false
namespace Abs
open Go
inductive Tok where
  | no | nil | full | own (t : Nat)
inductive AV where
  | int (k : IntKind) (n : Int)
  | bool (b : Bool)
  | str (s : ByteArray)
  | nilp
  | ptr (o off : Nat)
  | eptr (o n off : Nat)
  | cptr (cs : List AV)
  | slice (l : List AV) (t : Tok)
  | vec (o len : Nat)
  | pre (o len n : Nat)
  | raw (o len : Nat)
  | agg (cs : List AV)
  | tup (vs : List AV)
  | map (o : Nat)
  | nilmap
  | fn (f : Nat) (first caps : List AV)
  | nilfn
  | iface (t : Nat) (v : AV)
  | nili
  deriving Inhabited
def cellsA : AV → List AV
  | .agg cs => cs
  | v => [v]
def flat (l : List AV) : List AV := l.flatMap cellsA
inductive AObj where
  | cells (cs : List AV)
  | vec (sz n : Nat) (cs : List AV)
  | grow (sz n : Nat)
  | map (d : Bool) (m : List (AV × AV))
  | virt (sz : Nat)
  | iter (m n : Nat) (seen : List Nat)
  | pin (x : Obj)
inductive Own where
  | obj (b : Nat)
  | vec (b cap sz n : Nat)
  | buf (b cap sz n : Nat)
  | map (r : Nat)
  | virt (sz : Nat)
  | full (sz n : Nat)
  | iter (r : Nat)
  | pin (r : Nat)
def Own.real : Own → Bool
  | .virt _ => false
  | .full _ _ => false
  | _ => true
def Own.blk : Own → Nat
  | .obj b => b | .vec b _ _ _ => b | .buf b _ _ _ => b | .map r => r | .virt _ => 0 | .full _ _ => 0 | .iter r => r | .pin r => r
def Own.fixed : Own → Bool
  | .obj _ => true | .vec _ _ _ _ => false | .buf _ _ _ _ => false | .map _ => false | .virt _ => false | .full _ _ => false | .iter _ => true | .pin _ => false
def Own.le : Own → Own → Prop
  | .buf b cap sz n, .buf b' cap' sz' n' => sz = sz' ∧ n ≤ n' ∧ (n = n' → b = b' ∧ cap = cap')
  | .vec b cap sz n, .vec b' cap' sz' n' => sz = sz' ∧ n ≤ n' ∧ (n = n' → b = b' ∧ cap = cap')
  | .vec b cap sz n, .buf b' cap' sz' n' => sz = sz' ∧ n ≤ n' ∧ (n = n' → b = b' ∧ cap = cap')
  | .virt sz, .buf _ _ sz' n' => sz = sz' ∧ 0 < n'
  | .full sz n, .buf _ _ sz' n' => sz = sz' ∧ n < n'
  | a, b => a = b
theorem Own.le_refl (a : Own) : a.le a := by cases a <;> simp [Own.le]
theorem Own.le_trans {a b c : Own} (h : a.le b) (h' : b.le c) : a.le c := by
  cases a <;> cases b <;> simp [Own.le] at h <;> cases c <;> simp [Own.le] at h' ⊢ <;> simp_all
  case virt.buf.buf => omega
  case full.buf.buf => omega
  all_goals
    obtain ⟨_, h2, h3⟩ := h; obtain ⟨_, k2, k3⟩ := h'
    refine ⟨by omega, fun e => ?_⟩
    have := h3 (by omega); have := k3 (by omega); simp_all
structure Gh where
  base : World
  claim : Nat → Nat → Option Value
  own : Nat → Option Own
  ds : List Deferred
structure Gh.le (K K' : Gh) : Prop where
  base : K'.base = K.base
  claim : ∀ b o v, K.claim b o = some v → K'.claim b o = some v
  own : ∀ o x, K.own o = some x → ∃ x', K'.own o = some x' ∧ x.le x'
  ds : K'.ds = K.ds
theorem Gh.le.refl (K : Gh) : K.le K := ⟨rfl, fun _ _ _ h => h, fun _ x h => ⟨x, h, Own.le_refl x⟩, rfl⟩
theorem Gh.le.trans {K K' K'' : Gh} (h : K.le K') (h' : K'.le K'') : K.le K'' :=
  ⟨h'.base.trans h.base, fun b o v e => h'.claim b o v (h.claim b o v e), fun o x e => by
    obtain ⟨x', e', l⟩ := h.own o x e
    obtain ⟨x'', e'', l'⟩ := h'.own o x' e'
    exact ⟨x'', e'', Own.le_trans l l'⟩, h'.ds.trans h.ds⟩
def TokOk (K : Gh) (t : Tok) (len b off cap sz : Nat) : Prop :=
  match t with
  | .no => True
  | .nil => False
  | .full => cap = len
  | .own o => (∃ b' cap' n, K.own o = some (.buf b' cap' sz n) ∧ len ≤ n ∧ (len = n → b = b' ∧ off = 0 ∧ cap = cap')) ∨ ∃ n, K.own o = some (.full sz n) ∧ len ≤ n ∧ (len = n → cap = len)
theorem TokOk.mono {K K' : Gh} (hK : K.le K') {t : Tok} {len b off cap sz : Nat} (h : TokOk K t len b off cap sz) : TokOk K' t len b off cap sz := by
  cases t with
  | no => trivial
  | nil => exact h
  | full => exact h
  | own o =>
    rcases h with ⟨b', cap', n, e, hl, hn⟩ | ⟨n, e, hl, hn⟩
    · obtain ⟨x', e', l⟩ := hK.own o _ e
      cases x' <;> simp [Own.le] at l
      rename_i b'' cap'' sz'' n''
      obtain ⟨rfl, l2, l3⟩ := l
      refine .inl ⟨b'', cap'', n'', e', by omega, fun e => ?_⟩
      have := l3 (by omega); have := hn (by omega); simp_all
    · obtain ⟨x', e', l⟩ := hK.own o _ e
      cases x' <;> simp [Own.le] at l
      · obtain ⟨rfl, l2⟩ := l
        exact .inl ⟨_, _, _, e', by omega, fun h => by omega⟩
      · obtain ⟨rfl, rfl⟩ := l
        exact .inr ⟨n, e', hl, hn⟩
def VecOk (K : Gh) (o len b cap : Nat) : Prop := ∃ b' cap' sz n, (K.own o = some (.vec b' cap' sz n) ∨ K.own o = some (.buf b' cap' sz n)) ∧ len ≤ n ∧ (len = n → b = b' ∧ cap = cap')
theorem VecOk.mono {K K' : Gh} (hK : K.le K') {o len b cap : Nat} (h : VecOk K o len b cap) : VecOk K' o len b cap := by
  obtain ⟨b', cap', sz, n, e | e, hl, hn⟩ := h
  all_goals
    obtain ⟨x', e', l⟩ := hK.own o _ e
    cases x' <;> simp [Own.le] at l
    all_goals
      obtain ⟨rfl, l2, l3⟩ := l
      refine ⟨_, _, _, _, by first | exact .inl e' | exact .inr e', by omega, fun h => ?_⟩
      have := l3 (by omega); have := hn (by omega); simp_all
def NilOwn (K : Gh) (o : Nat) : Prop := ∃ sz, K.own o = some (.virt sz) ∨ ∃ b c n, K.own o = some (.buf b c sz n) ∧ 0 < n
theorem NilOwn.mono {K K' : Gh} (hK : K.le K') {o : Nat} (h : NilOwn K o) : NilOwn K' o := by
  obtain ⟨sz, h | ⟨b, c, n, h, hn⟩⟩ := h
  · obtain ⟨x', e, l⟩ := hK.own o _ h
    cases x' <;> simp [Own.le] at l
    · obtain ⟨rfl, hn⟩ := l
      exact ⟨_, .inr ⟨_, _, _, e, hn⟩⟩
    · exact ⟨_, .inl e⟩
  · obtain ⟨x', e, l⟩ := hK.own o _ h
    cases x' <;> simp [Own.le] at l
    exact ⟨_, .inr ⟨_, _, _, e, by omega⟩⟩
inductive Rel (K : Gh) : AV → Value → Prop
  | int (k n) : Rel K (.int k n) (.int k n)
  | bool (b) : Rel K (.bool b) (.bool b)
  | str (s) : Rel K (.str s) (.string s)
  | nilp : Rel K .nilp (.pointer none)
  | ptr (o off e) (h : K.own o = some e) (hk : e.fixed = true) : Rel K (.ptr o off) (.pointer (some ⟨e.blk, off, none⟩))
  | eptr (o n off b cap) (h : VecOk K o n b cap) : Rel K (.eptr o n off) (.pointer (some ⟨b, off, none⟩))
  | cptr (cs : List AV) (b off : Nat) (v : Nat → Value) (hc : ∀ i, i < cs.length → K.claim b (off + i) = some (v i))
      (hr : ∀ i, (h : i < cs.length) → Rel K cs[i] (v i)) : Rel K (.cptr cs) (.pointer (some ⟨b, off, none⟩))
  | sl0 (a cap t) (ht : t = .no ∨ t = .full ∧ cap = 0 ∨ t = .nil ∧ a = none ∧ cap = 0 ∨ (a = none ∧ cap = 0 ∧ ∃ o, t = .own o ∧ NilOwn K o)) : Rel K (.slice [] t) (.slice a 0 cap)
  | slice (l : List AV) (t : Tok) (b off cap sz : Nat) (v : Nat → Value) (hsz : ∀ x ∈ l, (cellsA x).length = sz)
      (hc : ∀ i, i < (flat l).length → K.claim b (off + i) = some (v i)) (hr : ∀ i, (h : i < (flat l).length) → Rel K (flat l)[i] (v i))
      (ht : TokOk K t l.length b off cap sz) (hcap : l.length ≤ cap) : Rel K (.slice l t) (.slice (some ⟨b, off, none⟩) l.length cap)
  | vec (o len b cap) (h : VecOk K o len b cap) (hl : len ≤ cap) : Rel K (.vec o len) (.slice (some ⟨b, 0, none⟩) len cap)
  | pre (o len n b cap) (h : VecOk K o n b cap) (h1 : len ≤ n) (hl : n ≤ cap) : Rel K (.pre o len n) (.slice (some ⟨b, 0, none⟩) len cap)
  | raw (o len b cap sz) (h : TokOk K (.own o) 0 b 0 cap sz) (hl : len ≤ cap) : Rel K (.raw o len) (.slice (some ⟨b, 0, none⟩) len cap)
  | agg (cs : List AV) (vs : Array Value) (hs : cs.length = vs.size) (hr : ∀ i, (h : i < cs.length) → (h' : i < vs.size) → Rel K cs[i] vs[i]) : Rel K (.agg cs) (.agg vs)
  | tup (cs : List AV) (vs : Array Value) (hs : cs.length = vs.size) (hr : ∀ i, (h : i < cs.length) → (h' : i < vs.size) → Rel K cs[i] vs[i]) : Rel K (.tup cs) (.tuple vs)
  | map (o r) (h : K.own o = some (.map r)) : Rel K (.map o) (.map (some r))
  | nilmap : Rel K .nilmap (.map none)
  | fn (f) (first caps : List AV) (fs cs : Array Value) (h1 : first.length = fs.size) (h2 : caps.length = cs.size)
      (r1 : ∀ i, (h : i < first.length) → (h' : i < fs.size) → Rel K first[i] fs[i]) (r2 : ∀ i, (h : i < caps.length) → (h' : i < cs.size) → Rel K caps[i] cs[i]) :
      Rel K (.fn f first caps) (.func (.func f) fs cs)
  | nilfn : Rel K .nilfn .nilFunc
  | iface (t a v) (h : Rel K a v) : Rel K (.iface t a) (.iface t v)
  | nili : Rel K .nili .nilIface
theorem Rel.mono {K K' : Gh} (hK : K.le K') {a : AV} {v : Value} (h : Rel K a v) : Rel K' a v := by
  induction h with
  | int k n => exact .int k n
  | bool b => exact .bool b
  | str s => exact .str s
  | nilp => exact .nilp
  | ptr o off e h hk =>
    obtain ⟨x', e', l⟩ := hK.own o _ h
    cases e <;> simp [Own.fixed] at hk <;> (simp only [Own.le] at l; exact .ptr o off _ (l ▸ e') rfl)
  | cptr cs b off v hc hr ih => exact .cptr cs b off v (fun i h => hK.claim _ _ _ (hc i h)) ih
  | sl0 a cap t ht =>
    refine .sl0 a cap t ?_
    rcases ht with h | h | h | ⟨h1, h2, o, h3, h4⟩
    · exact .inl h
    · exact .inr (.inl h)
    · exact .inr (.inr (.inl h))
    · exact .inr (.inr (.inr ⟨h1, h2, o, h3, h4.mono hK⟩))
  | slice l t b off cap sz v hsz hc hr ht hcap ih => exact .slice l t b off cap sz v hsz (fun i h => hK.claim _ _ _ (hc i h)) ih (ht.mono hK) hcap
  | eptr o n off b cap h => exact .eptr o n off b cap (h.mono hK)
  | vec o len b cap h hl => exact .vec o len b cap (h.mono hK) hl
  | pre o len n b cap h h1 hl => exact .pre o len n b cap (h.mono hK) h1 hl
  | raw o len b cap sz h hl => exact .raw o len b cap sz (h.mono hK) hl
  | agg cs vs hs hr ih => exact .agg cs vs hs ih
  | tup cs vs hs hr ih => exact .tup cs vs hs ih
  | map o r h =>
    obtain ⟨x', e', l⟩ := hK.own o _ h
    simp only [Own.le] at l
    exact .map o r (l ▸ e')
  | nilmap => exact .nilmap
  | fn f first caps fs cs h1 h2 r1 r2 i1 i2 => exact .fn f first caps fs cs h1 h2 i1 i2
  | nilfn => exact .nilfn
  | iface t a v h ih => exact .iface t a v ih
  | nili => exact .nili
def RelL (K : Gh) (cs : List AV) (vs : List Value) : Prop := cs.length = vs.length ∧ ∀ i, (h : i < cs.length) → (h' : i < vs.length) → Rel K cs[i] vs[i]
theorem RelL.mono {K K' : Gh} (hK : K.le K') {cs vs} (h : RelL K cs vs) : RelL K' cs vs := ⟨h.1, fun i h1 h2 => (h.2 i h1 h2).mono hK⟩
abbrev Sig := Nat → Option AObj
def upd (σ : Sig) (o : Nat) (x : AObj) : Sig := fun i => if i = o then some x else σ i
theorem upd_same (σ : Sig) (o x) : upd σ o x o = some x := by simp [upd]
theorem upd_other (σ : Sig) (o o' x) (h : o' ≠ o) : upd σ o x o' = σ o' := by simp [upd, h]
theorem upd_upd (σ : Sig) (o x y) : upd (upd σ o x) o y = upd σ o y := by funext i; simp only [upd]; split <;> rfl
def ObjSat (K : Gh) (w : World) : Own → AObj → Prop
  | .obj b, .cells cs => K.base.heap.size ≤ b ∧ (∃ c el, w.heap[b]? = some (.cells c el (0, 0)) ∧ RelL K cs c.toList) ∧ ∀ i, K.claim b i = none
  | .vec b cap sz n, .vec sz' n' cs => sz = sz' ∧ n = n' ∧ cs.length = n * sz ∧ (n ≤ cap ∧ (sz = 1 → cap ≤ 9223372036854775807)) ∧ K.base.heap.size ≤ b ∧ (∃ c el, w.heap[b]? = some (.cells c el (0, 0)) ∧ c.size = cap * sz ∧
      ∀ i, (h : i < cs.length) → (h' : i < c.size) → Rel K cs[i] c[i] ∧ c[i].oneCell' = true) ∧ ∀ i, K.claim b i = none
  | .buf b cap sz n, .grow sz' n' => sz = sz' ∧ n = n' ∧ n ≤ cap ∧ K.base.heap.size ≤ b ∧ (∃ c el, w.heap[b]? = some (.cells c el (0, 0)) ∧ c.size = cap * sz) ∧ ∀ i, n * sz ≤ i → K.claim b i = none
  | .map r, .map d m => K.base.heap.size ≤ r ∧ ∃ es clock, w.heap[r]? = some (.map es clock) ∧ es.size = m.length ∧
      (∀ i, (h : i < m.length) → (h' : i < es.size) → Rel K m[i].1 es[i].key ∧ Rel K m[i].2 es[i].val) ∧ (∀ i, (h : i < es.size) → es[i].born < clock) ∧
      (∀ i j, (h : i < es.size) → (h' : j < es.size) → es[i].born = es[j].born → i = j) ∧ (d = true → clock = es.size ∧ ∀ i, (h : i < es.size) → es[i].born = i)
  | .iter r, .iter m n seen => K.base.heap.size ≤ r ∧ (∃ rm, K.own m = some (.map rm) ∧ w.heap[r]? = some (.mapIter (some rm) n seen.toArray n)) ∧ ∀ i, K.claim r i = none
  | .pin r, .pin x => K.base.heap.size ≤ r ∧ w.heap[r]? = some x ∧ ∀ i, K.claim r i = none
  | .virt sz, .grow sz' n => sz = sz' ∧ n = 0
  | .virt sz, .virt sz' => sz = sz'
  | .full sz n, .grow sz' n' => sz = sz' ∧ n = n'
  | _, _ => False
structure Sat (K : Gh) (σ : Sig) (w : World) : Prop where
  os : w.os = K.base.os
  tape : w.tape = K.base.tape
  output : w.output = K.base.output
  size : K.base.heap.size ≤ w.heap.size
  old : ∀ b, b < K.base.heap.size → w.heap[b]? = K.base.heap[b]?
  free : ∀ b o, K.base.heap.size ≤ b → w.frozen? ⟨b, o, none⟩ = false
  claim : ∀ b o v, K.claim b o = some v → w.cell? ⟨b, o, none⟩ = some v
  one : ∀ b o v, K.claim b o = some v → v.oneCell' = true
  live : ∀ o x, σ o = some x → ∃ e, K.own o = some e ∧ ObjSat K w e x
  apart : ∀ o o' x x' e e', σ o = some x → σ o' = some x' → o ≠ o' → K.own o = some e → K.own o' = some e' → e.real = true → e'.real = true → e.blk ≠ e'.blk
  room : ∃ n, ∀ o, n ≤ o → K.own o = none
def Sub (σ' σ : Sig) : Prop := ∀ o x, σ' o = some x → σ o = some x
theorem Sub.refl (σ : Sig) : Sub σ σ := fun _ _ h => h
theorem Sub.trans {a b c : Sig} (h : Sub a b) (h' : Sub b c) : Sub a c := fun o x e => h' o x (h o x e)
theorem Sub.upd_fresh {σ : Sig} {o : Nat} {x : AObj} (h : σ o = none) : Sub σ (upd σ o x) := fun i y e => by
  have : i ≠ o := fun e' => by subst e'; simp [h] at e
  simp [upd, this, e]
theorem Sat.sub {K σ σ' w} (h : Sat K σ w) (hs : Sub σ' σ) : Sat K σ' w :=
  { h with live := fun o x e => h.live o x (hs o x e), apart := fun o o' x x' e e' h1 h2 => h.apart o o' x x' e e' (hs _ _ h1) (hs _ _ h2) }
end Abs

namespace Abs
open Go
abbrev Env := List (Nat × Option AV)
def lk : Env → Nat → Option AV
  | [], _ => none
  | (j, v) :: e, i => if i = j then v else lk e i
inductive AOpnd where
  | t (n : Nat)
  | c (v : AV)
  | m (n : Nat) (tbl : List (Nat × Nat))
def fGet (t : Nat) : List (Nat × Nat) → Option Nat
  | [] => none
  | (a, f) :: r => if t = a then some f else fGet t r
def methA (tbl : List (Nat × Nat)) : Option AV → Option AV
  | some (.iface t v) => (fGet t tbl).map fun f => .fn f [v] []
  | _ => none
def aval (env : Env) : AOpnd → Option AV
  | .t n => lk env n
  | .c v => some v
  | .m n tbl => methA tbl (lk env n)
inductive Tg.{u} {α : Sort u} (a : α) : Type
  | mk
def wth (x : Option AV) (R : AV → Prop) (_ : Tg R := .mk) : Prop :=
  match x with
  | some a => R a
  | none => False
def avals (env : Env) : List AOpnd → Option (List AV)
  | [] => some []
  | x :: xs => match aval env x, avals env xs with
    | some a, some l => some (a :: l)
    | _, _ => none
def wthL (x : Option (List AV)) (R : List AV → Prop) (_ : Tg R := .mk) : Prop :=
  match x with
  | some a => R a
  | none => False
def oneA : AV → Bool
  | .agg _ => false
  | .tup _ => false
  | _ => true
def putAt (cs : List AV) (off : Nat) (xs : List AV) : List AV := cs.take off ++ xs ++ cs.drop (off + xs.length)
def mkv (g : Bool) (cs : List AV) : Option AV :=
  if g then some (.agg cs) else cs.head?
inductive KK where
  | one (k : Nat)
  | row (ks : List Nat)
inductive XOp where
  | mkmap
  | look (kk : KK) (z : AV) (c : Bool) (x i : AOpnd)
  | mset (kk : KK) (m k v : AOpnd)
  | mdel (kk : KK) (m k : AOpnd)
  | lenM (x : AOpnd)
  | isnil (ne : Bool) (x : AOpnd)
  | ment (kk : KK) (z : AV) (m k : AOpnd)
  | eset (m s v : AOpnd)
  | tas (t : Nat) (z : AV) (c : Bool) (x : AOpnd)
  | bsliceG (sz : Nat) (ps : List AOpnd)
  | vmake (sz bytes : Nat) (z : List AV) (g : Bool) (l c : AOpnd)
  | vapp (sz bytes : Nat) (s x : AOpnd)
  | vfrz (g : Bool) (x : AOpnd)
  | retok (sz : Nat) (x : AOpnd)
  | rng (x : AOpnd)
  | nxt (x : AOpnd)
  | entr (x : AOpnd)
  | eqI (neg : Bool) (tbl : List (Nat × Option Nat)) (x y : AOpnd)
  | bsliceV (sz : Nat) (ps : List AOpnd)
inductive AOp where
  | mov (x : AOpnd)
  | pick (c a b : AOpnd)
  | alloc (z : List AV)
  | box (x : AOpnd)
  | boxI (x : AOpnd)
  | build (z : List AV) (parts : List (Nat × Nat × AOpnd))
  | bslice (sz : Nat) (parts : List AOpnd)
  | load (g : Bool) (n : Nat) (x : AOpnd)
  | store (n : Nat) (a x : AOpnd)
  | nilchk (x : AOpnd)
  | bin (op : BinOp) (tb : Bool) (x y : AOpnd)
  | eqs (neg : Bool) (ks : List Nat) (x y : AOpnd)
  | un (op : UnOp) (x : AOpnd)
  | conv (k : IntKind) (x : AOpnd)
  | mkfn (f : Nat) (first caps : List AOpnd)
  | fldA (off : Nat) (x : AOpnd)
  | fldV (g : Bool) (off n : Nat) (x : AOpnd)
  | idxS (sz : Nat) (x i : AOpnd)
  | idxR (sz len : Nat) (x i : AOpnd)
  | idxV (g : Bool) (sz len : Nat) (x i : AOpnd)
  | slc (sz : Nat) (x : AOpnd) (lo hi mx : Option AOpnd)
  | extract (x : AOpnd) (i : Nat)
  | call (f : AOpnd) (args : List AOpnd)
  | len (x : AOpnd)
  | lenS (x : AOpnd)
  | cap (x : AOpnd)
  | append (sz bytes : Nat) (s x : AOpnd)
  | appz (sz bytes : Nat) (s x : AOpnd)
  | slcN (sz : Nat) (x : AOpnd) (lo hi mx : Option AOpnd)
  | slcR (sz : Nat) (x : AOpnd) (lo hi mx : Option AOpnd)
  | min (xs : List AOpnd)
  | max (xs : List AOpnd)
  | mkslice (sz bytes : Nat) (z : List AV) (g : Bool) (l c : AOpnd)
  | mkiface (t : Nat) (x : AOpnd)
  | panic (x : AOpnd)
  | ext (x : XOp)
structure AInst where
  dst : Option Nat
  op : AOp
  guard : Option (Nat × Bool)
inductive ACode where
  | skip
  | reg (is : List AInst)
  | drw (is : List AInst) (pairs : List (Nat × Nat))
  | seq (a b : ACode)
  | cut (a b : ACode)
  | cond (c : AOpnd) (thn els : ACode)
  | block (id : Nat) (body : ACode)
  | loop (body : ACode)
  | exit (id : Nat)
  | ret
inductive AExit where
  | normal
  | exit (id : Nat)
  | ret
  | panic (v : AV)
inductive ARes where
  | ret (v : AV)
  | panic (v : AV)
def binA (op : BinOp) (tb : Bool) : AV → AV → Option AV
  | .int k a, .int k' b =>
    match op with
    | .shl => if b < 0 then none else some (.int k (k.wrap (a * 2 ^ (Nat.min b.toNat k.bits))))
    | .shr => if b < 0 then none else some (.int k (a.fdiv (2 ^ (Nat.min b.toNat k.bits))))
    | .add => if k = k' then some (.int k (k.wrap (a + b))) else none
    | .sub => if k = k' then some (.int k (k.wrap (a - b))) else none
    | .mul => if k = k' then some (.int k (k.wrap (a * b))) else none
    | .quo => if k = k' then (if b = 0 then none else some (.int k (k.wrap (a.tdiv b)))) else none
    | .rem => if k = k' then (if b = 0 then none else some (.int k (a.tmod b))) else none
    | .and => if k = k' then some (.int k (k.wrap (BitVec.ofInt k.bits a &&& BitVec.ofInt k.bits b).toNat)) else none
    | .or => if k = k' then some (.int k (k.wrap (BitVec.ofInt k.bits a ||| BitVec.ofInt k.bits b).toNat)) else none
    | .xor => if k = k' then some (.int k (k.wrap (BitVec.ofInt k.bits a ^^^ BitVec.ofInt k.bits b).toNat)) else none
    | .andNot => if k = k' then some (.int k (k.wrap (BitVec.ofInt k.bits a &&& ~~~ BitVec.ofInt k.bits b).toNat)) else none
    | .eql => if k = k' then some (.bool (a == b)) else none
    | .neq => if k = k' then some (.bool (a != b)) else none
    | .lss => if k = k' then some (.bool (decide (a < b))) else none
    | .leq => if k = k' then some (.bool (decide (a ≤ b))) else none
    | .gtr => if k = k' then some (.bool (decide (a > b))) else none
    | .geq => if k = k' then some (.bool (decide (a ≥ b))) else none
  | .bool a, .bool b =>
    match op with
    | .eql => if tb then some (.bool (a == b)) else none
    | .neq => if tb then some (.bool (!(a == b))) else none
    | _ => none
  | .str a, .str b =>
    match op with
    | .eql => some (.bool (a.toList == b.toList))
    | .neq => some (.bool (!(a.toList == b.toList)))
    | _ => none
  | _, _ => none
def eq1 : Nat → AV → AV → Option Bool
  | 0, .int k a, .int k' b => if k = k' then some (a == b) else none
  | 1, .bool a, .bool b => some (a == b)
  | 2, .str a, .str b => some (a.toList == b.toList)
  | _, _, _ => none
def eqCells : List Nat → List AV → List AV → Option Bool
  | [], [], [] => some true
  | k :: ks, a :: l, b :: m => match eq1 k a b, eqCells ks l m with
    | some p, some r => some (p && r)
    | _, _ => none
  | _, _, _ => none
def eqKey : KK → AV → AV → Option Bool
  | .one k, a, b => eq1 k a b
  | .row ks, .agg l, .agg m => eqCells ks l m
  | _, _, _ => none
def keyOk (kk : KK) (k : AV) : Bool := (eqKey kk k k).isSome
def lookK (kk : KK) (k : AV) : List (AV × AV) → Option (Option AV)
  | [] => some none
  | (a, v) :: r => match eqKey kk k a with
    | some true => some (some v)
    | some false => lookK kk k r
    | none => none
def setK (kk : KK) (k v : AV) : List (AV × AV) → Option (List (AV × AV))
  | [] => some [(k, v)]
  | (a, u) :: r => match eqKey kk k a with
    | some true => some ((k, v) :: r)
    | some false => (setK kk k v r).map ((a, u) :: ·)
    | none => none
def delK (kk : KK) (k : AV) : List (AV × AV) → Option (List (AV × AV))
  | [] => some []
  | (a, u) :: r => match eqKey kk k a with
    | some true => some r
    | some false => (delK kk k r).map ((a, u) :: ·)
    | none => none
def entK (kk : KK) (k z : AV) : List (AV × AV) → Option (AV × Nat × List (AV × AV))
  | [] => some (z, 0, [(k, z)])
  | (a, u) :: r => match eqKey kk k a with
    | some true => some (u, 0, (k, u) :: r)
    | some false => (entK kk k z r).map fun (v, i, l) => (v, i + 1, (a, u) :: l)
    | none => none
def lkm {α : Type} (x : Option α) (R : α → Prop) (_ : Tg R := .mk) : Prop :=
  match x with
  | some a => R a
  | none => False
def minI : List AV → Option Int
  | [.int .i64 a] => some a
  | .int .i64 a :: .int .i64 b :: [] => some (if b < a then b else a)
  | .int .i64 a :: .int .i64 b :: .int .i64 c :: [] => some (if c < (if b < a then b else a) then c else (if b < a then b else a))
  | _ => none
def maxI : List AV → Option Int
  | [.int .i64 a] => some a
  | .int .i64 a :: .int .i64 b :: [] => some (if b > a then b else a)
  | .int .i64 a :: .int .i64 b :: .int .i64 c :: [] => some (if c > (if b > a then b else a) then c else (if b > a then b else a))
  | _ => none
def fillA (env : Env) (cs : List AV) : List (Nat × Nat × AOpnd) → Option (List AV)
  | [] => some cs
  | (off, n, x) :: r =>
    match aval env x with
    | some a => if (cellsA a).length = n ∧ off + n ≤ cs.length then fillA env (putAt cs off (cellsA a)) r else none
    | none => none
def req (p : Prop) (k : Prop) (_ : Tg k := .mk) : Prop := p ∧ k
def fresh (σ : Sig) (k : Nat → Prop) (_ : Tg k := .mk) : Prop := ∀ o, σ o = none → k o
def szs (sz : Nat) (l : List AV) : Prop := ∀ x ∈ l, (cellsA x).length = sz
def ifnil (m : List AV) (a b : Prop) (_ : Tg a := .mk) (_ : Tg b := .mk) : Prop := (m = [] → a) ∧ (m ≠ [] → b)
def bnd (env : Env) (x : Option AOpnd) (d : Nat) (hi : Nat) (R : Nat → Prop) : Prop :=
  match x with
  | none => R d
  | some o => wth (aval env o) fun a => match a with
    | .int _ i => req (0 ≤ i ∧ i ≤ hi) (R i.toNat)
    | _ => False
def app (σ : Sig) : Option (Nat × AObj) → Sig
  | none => σ
  | some (o, x) => upd σ o x
def unflat (g : Bool) (sz : Nat) : Nat → List AV → Option (List AV)
  | 0, _ => some []
  | n + 1, cs => match mkv g (cs.take sz), unflat g sz n (cs.drop sz) with
    | some a, some l => some (a :: l)
    | _, _ => none
def ifP (p : Prop) [Decidable p] (a b : Prop) (_ : Tg a := .mk) (_ : Tg b := .mk) : Prop := if p then a else b
theorem ifP_t {p : Prop} [Decidable p] {a b : Prop} {ta : Tg a} {tb : Tg b} (h : p) : ifP p a b ta tb = a := if_pos h
theorem ifP_f {p : Prop} [Decidable p] {a b : Prop} {ta : Tg a} {tb : Tg b} (h : ¬ p) : ifP p a b ta tb = b := if_neg h
def nxtQ (l : List (AV × AV)) (seen : List Nat) (over : Prop) (step : Nat → AV → AV → Prop) (_ : Tg over := .mk) (_ : Tg step := .mk) : Prop :=
  ((∀ i, i < l.length → i ∈ seen) → over) ∧ ∀ i, (h : i < l.length) → i ∉ seen → step i l[i].1 l[i].2
def kGet (t : Nat) : List (Nat × Option Nat) → Option (Option Nat)
  | [] => none
  | (a, k) :: r => if t = a then some k else kGet t r
def eqI1 : Option Nat → AV → AV → Option Bool
  | some k, a, b => eq1 k a b
  | none, .agg [], .agg [] => some true
  | _, _, _ => none
def exX (F : (Nat → Prop) → Prop) (env : Env) (σ : Sig) (R : AV → Option (Nat × AObj) → Prop) : XOp → Prop
  | .mkmap => F fun o => R (.map o) (some (o, (.map true [])))
  | .look kk z c x i => wth (aval env x) fun m => wth (aval env i) fun k => match m with
    | .map o => match σ o with
      | some (.map _ l) => req (keyOk kk k = true) (lkm (lookK kk k l) fun v => R (if c then .tup [v.getD z, .bool v.isSome] else v.getD z) none)
      | _ => False
    | .nilmap => req (keyOk kk k = true) (R (if c then .tup [z, .bool false] else z) none)
    | _ => False
  | .mset kk m k v => wth (aval env m) fun m => wth (aval env k) fun k => wth (aval env v) fun v => match m with
    | .map o => match σ o with
      | some (.map d l) => req (keyOk kk k = true) (lkm (setK kk k v l) fun l => R (.tup []) (some (o, (.map d l))))
      | _ => False
    | _ => False
  | .mdel kk m k => wth (aval env m) fun m => wth (aval env k) fun k => match m with
    | .map o => match σ o with
      | some (.map _ l) => req (keyOk kk k = true) (lkm (delK kk k l) fun l => R (.tup []) (some (o, (.map false l))))
      | _ => False
    | _ => False
  | .lenM x => wth (aval env x) fun m => match m with
    | .map o => match σ o with
      | some (.map _ l) => R (.int .i64 l.length) none
      | _ => False
    | .nilmap => R (.int .i64 0) none
    | _ => False
  | .isnil ne x => wth (aval env x) fun a => match a with
    | .slice l _ => ifnil l (R (.bool true) none ∧ R (.bool false) none) (R (.bool ne) none)
    | _ => False
  | .ment kk z m k => wth (aval env m) fun m => wth (aval env k) fun k => match m with
    | .map o => match σ o with
      | some (.map true l) => req (keyOk kk k = true) (lkm (entK kk k z l) fun r => R (.tup [r.1, .int .i64 r.2.1]) (some (o, (.map true r.2.2))))
      | _ => False
    | _ => False
  | .eset m s v => wth (aval env m) fun m => wth (aval env s) fun s => wth (aval env v) fun v => match m, s with
    | .map o, .int .i64 i => match σ o with
      | some (.map true l) => req (0 ≤ i ∧ i < l.length) (R (.tup []) (some (o, (.map true (l.modify i.toNat fun p => (p.1, v))))))
      | _ => False
    | _, _ => False
  | .tas t z c x => wth (aval env x) fun a => match a with
    | .nili => req (c = true) (R (.tup [z, .bool false]) none)
    | .iface t' v => (t' = t → R (if c then .tup [v, .bool true] else v) none) ∧ (t' ≠ t → req (c = true) (R (.tup [z, .bool false]) none))
    | _ => False
  | .bsliceG sz ps => wthL (avals env ps) fun l => req ((l.all fun x => (cellsA x).length == sz && (cellsA x).all oneA) = true) (F fun o => R (.slice l (.own o)) (some (o, (.grow sz l.length))))
  | .vmake sz bytes z g n c => wth (aval env n) fun n => wth (aval env c) fun c => wth (mkv g z) fun e => match n, c with
    | .int .i64 n, .int .i64 c => req (cellsA e = z ∧ z.all oneA = true ∧ 0 ≤ n ∧ n ≤ c ∧ c * bytes ≤ 35184372088832) (F fun o => R (.vec o n.toNat) (some (o, (.vec sz n.toNat (List.replicate n.toNat z).flatten))))
    | _, _ => False
  | .vapp sz bytes s x => wth (aval env s) fun s => wth (aval env x) fun x => match s, x with
    | .vec o len, .slice m _ => match σ o with
      | some (.vec sz' n cs) => req (sz' = sz ∧ len = n ∧ szs sz m ∧ (n + m.length) * bytes ≤ 35184372088832) (R (.vec o (n + m.length)) (some (o, (.vec sz (n + m.length) (cs ++ flat m)))))
      | _ => False
    | .pre o len n, .slice m _ => match σ o with
      | some (.vec sz' n' cs) => req (sz' = sz ∧ n = n' ∧ len ≤ n ∧ szs sz m ∧ (n + m.length) * bytes ≤ 35184372088832)
          (if len + m.length ≤ n then R (.pre o (len + m.length) n) (some (o, (.vec sz n (putAt cs (len * sz) (flat m))))) else R (.vec o (len + m.length)) (some (o, (.vec sz (len + m.length) (cs.take (len * sz) ++ flat m)))))
      | _ => False
    | .slice l t, .slice m _ => req (szs sz l ∧ szs sz m ∧ (l.length + m.length) * bytes ≤ 35184372088832) (match t with
      | .nil => ifnil m (R (.slice l .nil) none) (F fun o => R (.vec o (l.length + m.length)) (some (o, (.vec sz (l.length + m.length) (flat l ++ flat m)))))
      | .full => ifnil m (R (.slice l .full) none) (F fun o => R (.vec o (l.length + m.length)) (some (o, (.vec sz (l.length + m.length) (flat l ++ flat m)))))
      | _ => False)
    | _, _ => False
  | .vfrz g x => wth (aval env x) fun x => match x with
    | .vec o len => match σ o with
      | some (.vec sz n cs) => req (len = n ∧ (g = false → sz = 1)) (lkm (unflat g sz n cs) fun l => R (.slice l (.own o)) (some (o, (.grow sz n))))
      | _ => False
    | .pre o len n => match σ o with
      | some (.vec sz n' cs) => req (n = n' ∧ len ≤ n ∧ (g = false → sz = 1)) (lkm (unflat g sz n cs) fun l => R (.slice (l.take len) (.own o)) (some (o, (.grow sz n))))
      | _ => False
    | _ => False
  | .retok sz x => wth (aval env x) fun x => match x with
    | .slice l .full => req (szs sz l ∧ 0 < l.length) (F fun o => R (.slice l (.own o)) (some (o, (.grow sz l.length))))
    | .slice [] .nil => F fun o => R (.slice [] (.own o)) (some (o, (.grow sz 0)))
    | _ => False
  | .rng x => wth (aval env x) fun m => match m with
    | .map o => match σ o with
      | some (.map true l) => F fun it => R (.ptr it 0) (some (it, (.iter o l.length [])))
      | _ => False
    | _ => False
  | .nxt x => wth (aval env x) fun p => match p with
    | .ptr it off => match σ it with
      | some (.iter m n seen) => match σ m with
        | some (.map true l) => req (off = 0 ∧ n = l.length) (nxtQ l seen (R (.tup [.bool false]) none) fun i k v => R (.tup [.bool true, k, v]) (some (it, (.iter m n (seen ++ [i])))))
        | _ => False
      | _ => False
    | _ => False
  | .entr x => wth (aval env x) fun p => match p with
    | .ptr it off => match σ it with
      | some (.iter m n seen) => match σ m with
        | some (.map true l) => req (off = 0 ∧ n = l.length) (lkm (seen.getLast?.bind (l[·]?)) fun p => R (.tup [p.1, p.2]) none)
        | _ => False
      | _ => False
    | _ => False
  | .eqI neg tbl x y => wth (aval env x) fun a => wth (aval env y) fun b => match a, b with
    | .iface t u, .iface t' v => if t = t' then lkm (kGet t tbl) fun kk => lkm (eqI1 kk u v) fun r => R (.bool (if neg then !r else r)) none else R (.bool neg) none
    | _, _ => False
  | .bsliceV sz ps => wthL (avals env ps) fun l => req ((l.all fun x => (cellsA x).length == sz && (cellsA x).all oneA) = true) (F fun o => R (.vec o l.length) (some (o, (.vec sz l.length (flat l)))))
def exOpG (F : (Nat → Prop) → Prop) (env : Env) (σ : Sig) (R : AV → Option (Nat × AObj) → Prop) : AOp → Prop
  | .mov x => wth (aval env x) fun a => R a none
  | .pick c a b => wth (aval env c) fun p => match p with
    | .bool p => if p then wth (aval env a) fun a => R a none else wth (aval env b) fun a => R a none
    | _ => False
  | .alloc z => F fun o => R (.ptr o 0) (some (o, (.cells z)))
  | .box x => wth (aval env x) fun a => F fun o => R (.ptr o 0) (some (o, (.cells (cellsA a))))
  | .boxI x => wth (aval env x) fun a => req ((cellsA a).all oneA = true) (R (.cptr (cellsA a)) none)
  | .build z ps => match fillA env z ps with
    | some cs => R (.agg cs) none
    | none => False
  | .bslice sz ps => wthL (avals env ps) fun l => req ((l.all fun x => (cellsA x).length == sz && (cellsA x).all oneA) = true) (R (.slice l .full) none)
  | .load g n x => wth (aval env x) fun p => match p with
    | .ptr o off => match σ o with
      | some (.cells cs) => req (off + n ≤ cs.length) (wth (mkv g ((cs.drop off).take n)) fun a => R a none)
      | _ => False
    | .eptr o m off => match σ o with
      | some (.vec _ m' cs) => req (m = m' ∧ off + n ≤ cs.length) (wth (mkv g ((cs.drop off).take n)) fun a => R a none)
      | _ => False
    | .cptr cs => req (n ≤ cs.length) (wth (mkv g (cs.take n)) fun a => R a none)
    | _ => False
  | .store n p x => wth (aval env p) fun p => wth (aval env x) fun a => match p with
    | .ptr o off => match σ o with
      | some (.cells cs) => req ((cellsA a).length = n ∧ off + n ≤ cs.length ∧ (cellsA a).all oneA = true) (R (.tup []) (some (o, (.cells (putAt cs off (cellsA a))))))
      | _ => False
    | .eptr o m off => match σ o with
      | some (.vec sz m' cs) => req (m = m' ∧ (cellsA a).length = n ∧ off + n ≤ cs.length ∧ (cellsA a).all oneA = true) (R (.tup []) (some (o, (.vec sz m' (putAt cs off (cellsA a))))))
      | _ => False
    | _ => False
  | .nilchk x => wth (aval env x) fun p => match p with
    | .ptr o off => R (.ptr o off) none
    | .eptr o m off => R (.eptr o m off) none
    | .cptr cs => R (.cptr cs) none
    | .fn f a b => R (.fn f a b) none
    | _ => False
  | .bin op tb x y => wth (aval env x) fun a => wth (aval env y) fun b => wth (binA op tb a b) fun r => R r none
  | .eqs neg ks x y => wth (aval env x) fun a => wth (aval env y) fun b => match a, b with
    | .agg l, .agg m => match eqCells ks l m with
      | some r => R (.bool (if neg then !r else r)) none
      | none => False
    | _, _ => False
  | .un op x => wth (aval env x) fun a => match op, a with
    | .not, .bool b => R (.bool !b) none
    | .neg, .int k n => R (.int k (k.wrap (0 - n))) none
    | .xor, .int .u64 n => R (.int .u64 (IntKind.u64.wrap (BitVec.ofInt IntKind.u64.bits 18446744073709551615 ^^^ BitVec.ofInt IntKind.u64.bits n).toNat)) none
    | _, _ => False
  | .conv k x => wth (aval env x) fun a => match a with
    | .int _ n => R (.int k (k.wrap n)) none
    | _ => False
  | .mkfn f first caps => wthL (avals env first) fun l => wthL (avals env caps) fun m => R (.fn f l m) none
  | .fldA off x => wth (aval env x) fun p => match p with
    | .ptr o o1 => R (.ptr o (o1 + off)) none
    | .eptr o m o1 => R (.eptr o m (o1 + off)) none
    | .cptr cs => R (.cptr (cs.drop off)) none
    | _ => False
  | .fldV g off n x => wth (aval env x) fun a => match a with
    | .agg cs => req (off + n ≤ cs.length) (wth (mkv g ((cs.drop off).take n)) fun a => R a none)
    | _ => False
  | .idxS sz x i => wth (aval env x) fun s => wth (aval env i) fun i => match s, i with
    | .slice l _, .int _ i => req (0 ≤ i) (wth l[i.toNat]? fun e => req ((cellsA e).length = sz) (R (.cptr (cellsA e)) none))
    | .vec o len, .int _ i => req (0 ≤ i ∧ i < len) (R (.eptr o len (i.toNat * sz)) none)
    | .pre o len n, .int _ i => req (0 ≤ i ∧ i < len) (R (.eptr o n (i.toNat * sz)) none)
    | _, _ => False
  | .idxR sz len x i => wth (aval env x) fun s => wth (aval env i) fun i => match s, i with
    | .ptr o off, .int _ i => req (0 ≤ i ∧ i < len) (R (.ptr o (off + i.toNat * sz)) none)
    | .eptr o m off, .int _ i => req (0 ≤ i ∧ i < len) (R (.eptr o m (off + i.toNat * sz)) none)
    | .cptr cs, .int _ i => req (0 ≤ i ∧ i < len) (R (.cptr (cs.drop (i.toNat * sz))) none)
    | _, _ => False
  | .idxV g sz len x i => wth (aval env x) fun s => wth (aval env i) fun i => match s, i with
    | .agg cs, .int _ i => req (0 ≤ i ∧ i < len ∧ i.toNat * sz + sz ≤ cs.length) (wth (mkv g ((cs.drop (i.toNat * sz)).take sz)) fun a => R a none)
    | _, _ => False
  | .slc sz x lo hi mx => wth (aval env x) fun s => match s with
    | .slice l _ => req (szs sz l) (bnd env hi l.length l.length fun h => bnd env lo 0 h fun lo => match mx with
      | none => R (.slice ((l.take h).drop lo) .no) none
      | some m => req (hi.isSome = true) (wth (aval env m) fun m => match m with
        | .int _ m => req (m = h) (R (.slice ((l.take h).drop lo) .full) none)
        | _ => False))
    | .vec o len => req (lo.isSome = false ∧ mx.isSome = false) (bnd env hi len len fun h => R (.pre o h len) none)
    | .pre o len n => req (lo.isSome = false ∧ mx.isSome = false) (bnd env hi len len fun h => R (.pre o h n) none)
    | _ => False
  | .extract x i => wth (aval env x) fun a => match a with
    | .tup vs => wth vs[i]? fun a => R a none
    | _ => False
  | .call _ _ => False
  | .len x => wth (aval env x) fun a => match a with
    | .slice l _ => R (.int .i64 l.length) none
    | .vec _ n => R (.int .i64 n) none
    | .pre _ len _ => R (.int .i64 len) none
    | _ => False
  | .lenS x => wth (aval env x) fun a => match a with
    | .str s => R (.int .i64 s.size) none
    | _ => False
  | .cap x => wth (aval env x) fun a => match a with
    | .slice l .full => R (.int .i64 l.length) none
    | .slice _ .nil => R (.int .i64 0) none
    | _ => False
  | .append sz bytes s x => wth (aval env s) fun s => wth (aval env x) fun x => match s, x with
    | .slice l t, .slice m _ => req (szs sz l ∧ szs sz m ∧ (l.length + m.length) * bytes ≤ 35184372088832) (match t with
      | .no => False
      | .nil => ifnil m (R (.slice l .nil) none) (F fun o => R (.slice (l ++ m) (.own o)) (some (o, (.grow sz (l ++ m).length))))
      | .full => ifnil m (R (.slice l .full) none) (F fun o => R (.slice (l ++ m) (.own o)) (some (o, (.grow sz (l ++ m).length))))
      | .own o => req (σ o = some (.grow sz l.length)) (R (.slice (l ++ m) (.own o)) (some (o, (.grow sz (l ++ m).length)))))
    | _, _ => False
  | .appz sz bytes s x => wth (aval env s) fun s => wth (aval env x) fun x => match s, x with
    | .slice l .nil, .int .i64 n => req (l = [] ∧ 0 < n ∧ n * bytes ≤ 35184372088832) (F fun o => R (.raw o n.toNat) (some (o, (.grow sz 0))))
    | _, _ => False
  | .slcN _ x lo hi mx => wth (aval env x) fun s => match s with
    | .slice l .nil => req (l = [] ∧ mx.isSome = false) (bnd env hi 0 0 fun _ => bnd env lo 0 0 fun _ => R (.slice [] .nil) none)
    | _ => False
  | .slcR _ x lo hi mx => wth (aval env x) fun s => match s with
    | .raw o len => req (lo.isSome = false ∧ hi.isSome = true ∧ mx.isSome = false) (bnd env hi len len fun h => req (h = 0) (R (.slice [] (.own o)) none))
    | _ => False
  | .min xs => wthL (avals env xs) fun l => match minI l with
    | some r => R (.int .i64 r) none
    | none => False
  | .max xs => wthL (avals env xs) fun l => match maxI l with
    | some r => R (.int .i64 r) none
    | none => False
  | .mkslice sz bytes z g n c => wth (aval env n) fun n => wth (aval env c) fun c => wth (mkv g z) fun e => match n, c with
    | .int .i64 n, .int .i64 c => req (cellsA e = z ∧ z.all oneA = true ∧ 0 ≤ n ∧ n ≤ c ∧ c * bytes ≤ 35184372088832) (F fun o => R (.slice (List.replicate n.toNat e) (.own o)) (some (o, (.grow sz n.toNat))))
    | _, _ => False
  | .mkiface t x => wth (aval env x) fun a => R (.iface t a) none
  | .panic _ => False
  | .ext x => exX F env σ R x
def exOp (env : Env) (σ : Sig) (R : AV → Sig → Prop) (op : AOp) : Prop := exOpG (fun k => fresh σ k) env σ (fun v e => R v (app σ e)) op
def exOpN (nm : Nat) (env : Env) (σ : Sig) (R : AV → Option (Nat × AObj) → Prop) (op : AOp) : Prop := exOpG (fun k => k nm) env σ R op

/-! ### The translation -/
def ofFlat : Value → Option AV
  | .int k n => some (.int k n)
  | .bool b => some (.bool b)
  | .string s => some (.str s)
  | .pointer none => some .nilp
  | .slice none 0 0 => some (.slice [] .nil)
  | .map none => some .nilmap
  | .nilFunc => some .nilfn
  | .nilIface => some .nili
  | _ => none
def ofFlats : List Value → Option (List AV)
  | [] => some []
  | v :: r => match ofFlat v, ofFlats r with
    | some a, some l => some (a :: l)
    | _, _ => none
def ofValue : Value → Option AV
  | .agg cs => (ofFlats cs.toList).map .agg
  | v => ofFlat v
def trOpnd : Operand → Option AOpnd
  | .tmp t => some (.t t)
  | .const v => (ofValue v).map .c
  | .global _ => none
  | .func f => some (.c (.fn f [] []))
def trOpnds : List Operand → Option (List AOpnd)
  | [] => some []
  | x :: r => match trOpnd x, trOpnds r with
    | some a, some l => some (a :: l)
    | _, _ => none
def trOpt : Option Operand → Option (Option AOpnd)
  | none => some none
  | some x => (trOpnd x).map some
def szOf (P : Program) (t : TypeId) : Option Nat := (P.info? t).map (·.size)
def aggOf (P : Program) (t : TypeId) : Option Bool :=
  match P.underlying t with
  | some (.struct _) => some true
  | some (.array _ _) => some true
  | some _ => some false
  | none => none
def readOf (P : Program) (t : TypeId) : Option (Bool × Nat) :=
  match aggOf P t, szOf P t with
  | some g, some n => if g || n == 1 then some (g, n) else none
  | _, _ => none
def zeroOf (P : Program) (t : TypeId) : Option (List AV) :=
  match (P.info? t).bind (·.zero) with
  | some z => ofFlats z.cells.toList
  | none => none
def trFields (P : Program) (fs : Array Field) : List (Nat × Operand) → Option (List (Nat × Nat × AOpnd))
  | [] => some []
  | (i, x) :: r =>
    match fs[i]?, trOpnd x, trFields P fs r with
    | some f, some a, some l => match szOf P f.type with
      | some n => some ((f.offset, n, a) :: l)
      | none => none
    | _, _, _ => none
def trElems (sz : Nat) : List (Nat × Operand) → Option (List (Nat × Nat × AOpnd))
  | [] => some []
  | (i, x) :: r =>
    match trOpnd x, trElems sz r with
    | some a, some l => some ((i * sz, sz, a) :: l)
    | _, _ => none
def trParts : Nat → List (Nat × Operand) → Option (List AOpnd)
  | _, [] => some []
  | k, (i, x) :: r => if i = k then
      match trOpnd x, trParts (k + 1) r with
      | some a, some l => some (a :: l)
      | _, _ => none
    else none
def isBool (P : Program) (t : TypeId) : Bool :=
  match P.underlying t with
  | some .bool => true
  | _ => false
def plain1 (P : Program) (t : TypeId) : Bool :=
  match P.underlying t with
  | some (.int _) => true
  | some .bool => true
  | some .string => true
  | _ => false
def kindOf (P : Program) (t : TypeId) : Option Nat :=
  match P.underlying t with
  | some (.int _) => some 0
  | some .bool => some 1
  | some .string => some 2
  | _ => none
def fieldKinds (P : Program) : Nat → List Field → Option (List Nat)
  | _, [] => some []
  | i, f :: fs => if f.offset = i ∧ f.name ≠ "_" then
      match kindOf P f.type, fieldKinds P (i + 1) fs with
      | some k, some ks => some (k :: ks)
      | _, _ => none
    else none
def plainEq (P : Program) (t : TypeId) : Option (List Nat) :=
  match P.underlying t with
  | some (.struct fs) => if P.stoodInHeld t = false ∧ P.eqGuardType P.depth t = false then fieldKinds P 0 fs.toList else none
  | some (.array n e) => if P.eqGuardType P.depth t = false ∧ szOf P e = some 1 ∧ n ≤ 64 then (kindOf P e).map fun k => List.replicate n k else none
  | _ => none
def isIntTy (P : Program) (t : TypeId) : Bool :=
  match P.underlying t with
  | some (.int _) => true
  | _ => false
def kkOf (P : Program) (k : TypeId) : Option KK :=
  match kindOf P k with
  | some n => some (.one n)
  | none => (plainEq P k).map .row
def zeroAV (P : Program) (e : TypeId) : Option AV :=
  match (P.info? e).bind (·.zero) with
  | some z => ofValue z
  | none => none
def trBuiltin (P : Program) (b : Builtin) (args : List Operand) (types : List TypeId) : Option AOp :=
  match b with
  | .len => match args, types with
    | [x], [t] => match P.underlying t, trOpnd x with
      | some (.array n _), some _ => some (.mov (.c (.int .i64 n)))
      | some (.slice _), some x => some (.len x)
      | some (.map _ _), some x => some (.ext (.lenM x))
      | some .string, some x => some (.lenS x)
      | _, _ => none
    | _, _ => none
  | .cap => match args, types with
    | [x], [t] => match P.underlying t, trOpnd x with
      | some (.slice _), some x => some (.cap x)
      | _, _ => none
    | _, _ => none
  | .append => match args, types with
    | [s, x], [t, u] => match P.underlying t, trOpnd s, trOpnd x with
      | some (.slice e), some s, some x => match P.info? e, zeroOf P e with
        | some i, some z => if 0 < i.size ∧ 0 < i.bytes ∧ i.bytes ≤ 4096 ∧ z.length = i.size ∧ t = u then some (.append i.size i.bytes s x)
          else if 0 < i.size ∧ 0 < i.bytes ∧ i.bytes ≤ 4096 ∧ z.length = i.size ∧ isIntTy P u = true then some (.appz i.size i.bytes s x) else none
        | _, _ => none
      | _, _, _ => none
    | _, _ => none
  | .min => (trOpnds args).map .min
  | .max => (trOpnds args).map .max
  | .delete => match args, types with
    | [m, k], [t, _] => match P.underlying t, trOpnd m, trOpnd k with
      | some (.map kt _), some m, some k => (kkOf P kt).map fun kk => .ext (.mdel kk m k)
      | _, _, _ => none
    | _, _ => none
  | _ => none
def okRecv (P : Program) (t : TypeId) : Bool := match P.underlying t with
  | some .bool => true
  | some (.int _) => true
  | some .string => true
  | some (.struct _) => true
  | _ => false
def methTbl (P : Program) (name : String) : List (Nat × Nat) :=
  (List.range P.types.size).filterMap fun t => match P.info? t with
    | some i => match i.methods.find? (·.name == name) with
      | some m => if m.path.isEmpty then match m.func with
        | some (f, false) => if okRecv P t then some (t, f) else none
        | _ => none
        else none
      | none => none
    | none => none
def cmpTbl (P : Program) (t : TypeId) : List (Nat × Option Nat) :=
  match P.underlying t with
  | some (.interface ms) => (List.range P.types.size).filterMap fun u => match P.info? u with
    | some i => if i.comparable && ms.all (fun m => i.methods.any (·.name == m.1)) then
        match kindOf P u with
        | some k => some (u, some k)
        | none => match P.underlying u with
          | some (.struct fs) => if fs.isEmpty && !P.stoodInHeld u then some (u, none) else none
          | _ => none
      else none
    | none => none
  | _ => []
def isIfaceT (P : Program) (t : TypeId) : Bool := match P.underlying t with
  | some (.interface _) => true
  | _ => false
def trCall (P : Program) (c : Call) : Option AOp :=
  match c.callee with
  | .value f => match trOpnd f, trOpnds c.args.toList with
    | some f, some l => some (.call f l)
    | _, _ => none
  | .builtin b => trBuiltin P b c.args.toList c.argTypes.toList
  | .invoke (.tmp r) name => (trOpnds c.args.toList).map (.call (.m r (methTbl P name)))
  | .invoke _ _ => none
def isSl (P : Program) (t : TypeId) : Bool := match P.underlying t with
  | some (.slice _) => true
  | _ => false
def isNilC : AOpnd → Bool
  | .c (.slice [] .nil) => true
  | _ => false
def trOp (P : Program) : Op → Option AOp
  | .move x => (trOpnd x).map .mov
  | .assign x => (trOpnd x).map .mov
  | .pick c a b => match trOpnd c, trOpnd a, trOpnd b with
    | some c, some a, some b => some (.pick c a b)
    | _, _, _ => none
  | .alloc e => (zeroOf P e).map .alloc
  | .box _ x => (trOpnd x).map .box
  | .build t ps => match P.underlying t, zeroOf P t with
    | some (.struct fs), some z => if fs.toList.all (fun f => (szOf P f.type).isSome) then (trFields P fs ps.toList).map (.build z) else none
    | some (.array _ e), some z => match szOf P e with
      | some sz => (trElems sz ps.toList).map (.build z)
      | none => none
    | _, _ => none
  | .buildSlice t len ps => match P.underlying t with
    | some (.slice e) => match szOf P e with
      | some sz => if len = ps.size ∧ len * sz ≤ 65536 ∧ (zeroOf P e).isSome then (trParts 0 ps.toList).map (.bslice sz) else none
      | none => none
    | _ => none
  | .load t x => match readOf P t, trOpnd x with
    | some (g, n), some x => some (.load g n x)
    | _, _ => none
  | .store t a x => match szOf P t, trOpnd a, trOpnd x with
    | some n, some a, some x => some (.store n a x)
    | _, _, _ => none
  | .nilCheck x => (trOpnd x).map .nilchk
  | .binOp op t x y _ => match trOpnd x, trOpnd y with
    | some x, some y =>
      match op with
      | .eql => if plain1 P t then some (.bin op (isBool P t) x y) else if isSl P t && isNilC y then some (.ext (.isnil false x)) else if isIfaceT P t then some (.ext (.eqI false (cmpTbl P t) x y)) else (plainEq P t).map fun n => .eqs false n x y
      | .neq => if plain1 P t then some (.bin op (isBool P t) x y) else if isSl P t && isNilC y then some (.ext (.isnil true x)) else if isIfaceT P t then some (.ext (.eqI true (cmpTbl P t) x y)) else (plainEq P t).map fun n => .eqs true n x y
      | _ => some (.bin op false x y)
    | _, _ => none
  | .unOp op _ x => (trOpnd x).map (.un op)
  | .convert s d x => match P.underlying s, P.underlying d, trOpnd x with
    | some (.int _), some (.int k), some x => some (.conv k x)
    | _, _, _ => none
  | .makeInterface t x => match P.underlying t with
    | some (.interface _) => none
    | some _ => (trOpnd x).map (.mkiface t)
    | none => none
  | .makeFunc (.func f) first caps => match trOpnds first.toList, trOpnds caps.toList with
    | some a, some b => some (.mkfn f a b)
    | _, _ => none
  | .makeSlice t l c => match P.underlying t with
    | some (.slice e) => match P.info? e, readOf P e, zeroOf P e, trOpnd l, trOpnd c with
      | some i, some (g, n), some z, some l, some c => if z.length = n ∧ 0 < n ∧ 0 < i.bytes then some (.mkslice n i.bytes z g l c) else none
      | _, _, _, _, _ => none
    | _ => none
  | .slice t x lo hi mx => match P.underlying t with
    | some (.slice e) => match szOf P e, trOpnd x, trOpt lo, trOpt hi, trOpt mx with
      | some sz, some x, some lo, some hi, some mx => some (.slc sz x lo hi mx)
      | _, _, _, _, _ => none
    | _ => none
  | .fieldAddr s x f => match P.underlying s, trOpnd x with
    | some (.struct fs), some x => match fs[f]? with
      | some f => match szOf P f.type with
        | some n => if n = 0 then none else some (.fldA f.offset x)
        | none => none
      | none => none
    | _, _ => none
  | .field s x f => match P.underlying s, trOpnd x with
    | some (.struct fs), some x => match fs[f]? with
      | some f => (readOf P f.type).map fun (g, n) => .fldV g f.offset n x
      | none => none
    | _, _ => none
  | .indexAddr t x i => match P.underlying t, trOpnd x, trOpnd i with
    | some (.slice e), some x, some i => (szOf P e).map fun sz => .idxS sz x i
    | some (.array n e), some x, some i => (szOf P e).map fun sz => .idxR sz n x i
    | _, _, _ => none
  | .index t x i => match P.underlying t, trOpnd x, trOpnd i with
    | some (.array n e), some x, some i => (readOf P e).map fun (g, sz) => .idxV g sz n x i
    | _, _, _ => none
  | .extract x i => (trOpnd x).map (.extract · i)
  | .call c => trCall P c
  | .panic x => (trOpnd x).map .panic
  | .makeMap _ none => some (.ext .mkmap)
  | .lookup t x i c => match P.underlying t, trOpnd x, trOpnd i with
    | some (.map k e), some x, some i => match kkOf P k, zeroAV P e with
      | some kk, some z => some (.ext (.look kk z c x i))
      | _, _ => none
    | _, _, _ => none
  | .mapUpdate t m k v => match P.underlying t, trOpnd m, trOpnd k, trOpnd v with
    | some (.map kt _), some m, some k, some v => (kkOf P kt).map fun kk => .ext (.mset kk m k v)
    | _, _, _, _ => none
  | .insert t m k v => match P.underlying t, trOpnd m, trOpnd k, trOpnd v with
    | some (.map kt _), some m, some k, some v => (kkOf P kt).map fun kk => .ext (.mset kk m k v)
    | _, _, _, _ => none
  | .mapEntry t m k => match P.underlying t, trOpnd m, trOpnd k with
    | some (.map kt e), some m, some k => match kkOf P kt, zeroAV P e with
      | some kk, some z => some (.ext (.ment kk z m k))
      | _, _ => none
    | _, _, _ => none
  | .entryStore _ m s v => match trOpnd m, trOpnd s, trOpnd v with
    | some m, some s, some v => some (.ext (.eset m s v))
    | _, _, _ => none
  | .typeAssert x _ t c => match P.underlying t with
    | some (.interface _) => none
    | some _ => match trOpnd x, zeroAV P t with
      | some x, some z => some (.ext (.tas t z c x))
      | _, _ => none
    | none => none
  | .range t x => match P.underlying t, trOpnd x with
    | some (.map _ _), some x => some (.ext (.rng x))
    | _, _ => none
  | .next it b => if b then none else (trOpnd it).map fun x => .ext (.nxt x)
  | .entry it => (trOpnd it).map fun x => .ext (.entr x)
  | _ => none
def AOp.bare : AOp → AOp
  | .boxI x => .box x
  | .slcN s x a b c => .slc s x a b c
  | .slcR s x a b c => .slc s x a b c
  | .ext (.bsliceG sz ps) => .bslice sz ps
  | .ext (.bsliceV sz ps) => .bslice sz ps
  | .ext (.vmake sz b z g l c) => .mkslice sz b z g l c
  | .ext (.vapp sz b s x) => .append sz b s x
  | .ext (.vfrz _ x) => .mov x
  | .ext (.retok _ x) => .mov x
  | o => o
def AInst.bare (i : AInst) : AInst := { i with op := i.op.bare }
def ACode.bare : ACode → ACode
  | .skip => .skip
  | .reg is => .reg (is.map AInst.bare)
  | .drw is ps => .drw (is.map AInst.bare) ps
  | .seq a b => .seq a.bare b.bare
  | .cut a b => .seq a.bare b.bare
  | .cond c a b => .cond c a.bare b.bare
  | .block id a => .block id a.bare
  | .loop a => .loop a.bare
  | .exit id => .exit id
  | .ret => .ret
end Abs

namespace Abs
open Go
structure Fr (K : Gh) (N : Nat) (env : Env) (a : Act) : Prop where
  size : a.tmps.size = N
  defers : a.defers = K.ds
  rel : ∀ i av, lk env i = some av → ∃ v, a.tmps[i]? = some v ∧ Rel K av v
theorem Fr.mono {K K' : Gh} (hK : K.le K') {N env a} (h : Fr K N env a) : Fr K' N env a :=
  ⟨h.size, h.defers.trans hK.ds.symm, fun i av e => let ⟨v, e1, r⟩ := h.rel i av e; ⟨v, e1, r.mono hK⟩⟩
theorem Fr.put {K : Gh} {N env a} (h : Fr K N env a) {d : Nat} (hd : d < N) {av v} (hr : Rel K av v) : Fr K N ((d, some av) :: env) (a.put (some d) v) := by
  refine ⟨by simp [Act.put, h.size], by simp [Act.put, h.defers], fun i x e => ?_⟩
  simp only [lk] at e
  by_cases hi : i = d
  · subst hi
    simp at e; subst e
    exact ⟨v, by simp [Act.put, h.size, hd], hr⟩
  · simp only [hi, if_false] at e
    obtain ⟨u, e1, r⟩ := h.rel i x e
    refine ⟨u, ?_, r⟩
    simp only [Act.put]
    rw [Array.getElem?_setIfInBounds_ne (by omega)]; exact e1
theorem Fr.skip {K : Gh} {N env a} (h : Fr K N env a) {d : Nat} {v} : Fr K N ((d, none) :: env) (a.put (some d) v) := by
  refine ⟨by simp [Act.put, h.size], by simp [Act.put, h.defers], fun i x e => ?_⟩
  simp only [lk] at e
  by_cases hi : i = d
  · simp [hi] at e
  · simp only [hi, if_false] at e
    obtain ⟨u, e1, r⟩ := h.rel i x e
    refine ⟨u, ?_, r⟩
    simp only [Act.put]
    rw [Array.getElem?_setIfInBounds_ne (by omega)]; exact e1
theorem RelL.get {K cs vs} (h : RelL K cs vs) (i : Nat) (hi : i < cs.length) : ∃ v, vs[i]? = some v ∧ Rel K cs[i] v :=
  ⟨vs[i]'(h.1 ▸ hi), by rw [List.getElem?_eq_getElem], h.2 i hi (h.1 ▸ hi)⟩
theorem RelL.nil {K} : RelL K [] [] := ⟨rfl, fun i h => by simp at h⟩
theorem RelL.cons {K a v cs vs} (h : Rel K a v) (hs : RelL K cs vs) : RelL K (a :: cs) (v :: vs) :=
  ⟨by simp [hs.1], fun i h1 h2 => by
    cases i with
    | zero => exact h
    | succ i => exact hs.2 i (by simpa using h1) (by simpa using h2)⟩
theorem RelL.cons_inv {K a cs vs} (h : RelL K (a :: cs) vs) : ∃ v r, vs = v :: r ∧ Rel K a v ∧ RelL K cs r := by
  cases vs with
  | nil => simp [RelL] at h
  | cons v r =>
    refine ⟨v, r, rfl, h.2 0 (by simp) (by simp), by simpa using h.1, fun i h1 h2 => ?_⟩
    exact h.2 (i + 1) (by simpa using h1) (by simpa using h2)
theorem RelL.append {K cs vs ds us} (h : RelL K cs vs) (h' : RelL K ds us) : RelL K (cs ++ ds) (vs ++ us) :=
  ⟨by simp [h.1, h'.1], fun i h1 h2 => by
    rw [List.getElem_append, List.getElem_append]
    by_cases hi : i < cs.length
    · have : i < vs.length := h.1 ▸ hi
      simp only [hi, this, dite_true]; exact h.2 i hi this
    · have : ¬ i < vs.length := h.1 ▸ hi
      simp only [hi, this, dite_false]
      have e : i - cs.length = i - vs.length := by rw [h.1]
      have h3 : i - cs.length < ds.length := by simp at h1; omega
      have := h'.2 (i - cs.length) h3 (by rw [← h'.1]; exact h3)
      simp only [e] at this ⊢
      exact this⟩
theorem RelL.take {K cs vs} (h : RelL K cs vs) (n : Nat) : RelL K (cs.take n) (vs.take n) :=
  ⟨by simp [h.1], fun i h1 h2 => by simp only [List.getElem_take]; exact h.2 i (by simp at h1; omega) (by simp at h2; omega)⟩
theorem RelL.drop {K cs vs} (h : RelL K cs vs) (n : Nat) : RelL K (cs.drop n) (vs.drop n) :=
  ⟨by simp [h.1], fun i h1 h2 => by simp only [List.getElem_drop]; exact h.2 (n + i) (by simp at h1; omega) (by simp at h2; omega)⟩
theorem RelL.putAt {K cs vs xs us} (h : RelL K cs vs) (h' : RelL K xs us) (off : Nat) : RelL K (putAt cs off xs) (vs.take off ++ us ++ vs.drop (off + us.length)) := by
  unfold Abs.putAt; rw [h'.1]; exact ((h.take off).append h').append (h.drop _)
theorem Rel.cells {K a v} (h : Rel K a v) : RelL K (cellsA a) v.cells.toList := by
  cases h with
  | agg cs vs hs hr => exact ⟨by simpa [cellsA, Value.cells] using hs, fun i h1 h2 => by
      have h3 : i < vs.size := by simpa [Value.cells] using h2
      have h4 := hr i h1 h3
      show Rel K cs[i] (vs.toList[i]'(by simpa using h3))
      rw [Array.getElem_toList]; exact h4⟩
  | int k n => exact .cons (.int k n) .nil
  | bool b => exact .cons (.bool b) .nil
  | str s => exact .cons (.str s) .nil
  | nilp => exact .cons .nilp .nil
  | ptr o off e h hk => exact .cons (.ptr o off e h hk) .nil
  | cptr cs b off v hc hr => exact .cons (.cptr cs b off v hc hr) .nil
  | sl0 a cap t ht => exact .cons (.sl0 a cap t ht) .nil
  | slice l t b off cap sz v hsz hc hr ht hcap => exact .cons (.slice l t b off cap sz v hsz hc hr ht hcap) .nil
  | vec o len b cap h hl => exact .cons (.vec o len b cap h hl) .nil
  | eptr o n off b cap h => exact .cons (.eptr o n off b cap h) .nil
  | pre o len n b cap h h1 hl => exact .cons (.pre o len n b cap h h1 hl) .nil
  | raw o len b cap sz h hl => exact .cons (.raw o len b cap sz h hl) .nil
  | tup cs vs hs hr => exact .cons (.tup cs vs hs hr) .nil
  | map o r h => exact .cons (.map o r h) .nil
  | nilmap => exact .cons .nilmap .nil
  | fn f first caps fs cs h1 h2 r1 r2 => exact .cons (.fn f first caps fs cs h1 h2 r1 r2) .nil
  | nilfn => exact .cons .nilfn .nil
  | iface t a v h => exact .cons (.iface t a v h) .nil
  | nili => exact .cons .nili .nil
theorem Rel.aggL {K cs} {vs : Array Value} (h : RelL K cs vs.toList) : Rel K (.agg cs) (.agg vs) :=
  .agg cs vs (by simpa using h.1) (fun i h1 h2 => by have := h.2 i h1 (by simpa using h2); rwa [Array.getElem_toList] at this)
theorem Rel.tupL {K cs} {vs : Array Value} (h : RelL K cs vs.toList) : Rel K (.tup cs) (.tuple vs) :=
  .tup cs vs (by simpa using h.1) (fun i h1 h2 => by have := h.2 i h1 (by simpa using h2); rwa [Array.getElem_toList] at this)
theorem Rel.oneCell {K a v} (h : Rel K a v) (ha : oneA a = true) : v.oneCell' = true := by
  cases h <;> first | rfl | (simp [oneA] at ha)

/-! ### The constants -/
theorem ofFlat_rel {K v a} (h : ofFlat v = some a) : Rel K a v := by
  unfold ofFlat at h
  split at h <;> simp at h <;> subst h
  · exact .int _ _
  · exact .bool _
  · exact .str _
  · exact .nilp
  · exact .sl0 none 0 .nil (by simp)
  · exact .nilmap
  · exact .nilfn
  · exact .nili
theorem ofFlats_rel {K} : ∀ {vs : List Value} {cs}, ofFlats vs = some cs → RelL K cs vs
  | [], cs, h => by simp [ofFlats] at h; subst h; exact .nil
  | v :: r, cs, h => by
    simp only [ofFlats] at h
    split at h <;> simp at h
    rename_i a l h1 h2
    subst h
    exact .cons (ofFlat_rel h1) (ofFlats_rel h2)
theorem ofValue_rel {K v a} (h : ofValue v = some a) : Rel K a v := by
  unfold ofValue at h
  split at h
  · simp only [Option.map_eq_some_iff] at h
    obtain ⟨cs, h1, rfl⟩ := h
    exact .aggL (ofFlats_rel h1)
  · exact ofFlat_rel h
theorem trOpnd_rel {K N env a x ax av} (h : trOpnd x = some ax) (hv : aval env ax = some av) (hf : Fr K N env a) : Rel K av (a.eval x) := by
  cases x with
  | tmp t =>
    simp [trOpnd] at h; subst h
    obtain ⟨v, e, r⟩ := hf.rel t av hv
    simpa [Act.eval, Array.getD_eq_getD_getElem?, e] using r
  | const v =>
    simp only [trOpnd, Option.map_eq_some_iff] at h
    obtain ⟨b, h1, rfl⟩ := h
    simp [aval] at hv; subst hv
    exact ofValue_rel h1
  | global g => simp [trOpnd] at h
  | func f =>
    simp [trOpnd] at h; subst h
    simp [aval] at hv; subst hv
    exact .fn f [] [] #[] #[] rfl rfl (fun i h => by simp at h) (fun i h => by simp at h)
theorem trOpnds_rel {K N env a} (hf : Fr K N env a) : ∀ {xs : List Operand} {axs avs}, trOpnds xs = some axs → avals env axs = some avs → RelL K avs (xs.map a.eval)
  | [], axs, avs, h, hv => by
    simp [trOpnds] at h; subst h
    simp [avals] at hv; subst hv
    exact .nil
  | x :: r, axs, avs, h, hv => by
    simp only [trOpnds] at h
    split at h <;> simp at h
    rename_i b l h1 h2
    subst h
    simp only [avals] at hv
    split at hv <;> simp at hv
    rename_i c m h3 h4
    subst hv
    exact .cons (trOpnd_rel h1 h3 hf) (trOpnds_rel hf h2 h4)

/-! ### The ghost state follows the world -/
structure Gh.leS (S : Nat → Prop) (K K' : Gh) : Prop where
  le : K.le K'
  free : ∀ o, S o → K.own o = none → K'.own o = none
theorem Gh.leS.refl {S : Nat → Prop} (K : Gh) : K.leS S K := ⟨Gh.le.refl K, fun _ _ h => h⟩
theorem Gh.leS.trans {S : Nat → Prop} {K K' K'' : Gh} (h : K.leS S K') (h' : K'.leS S K'') : K.leS S K'' := ⟨h.le.trans h'.le, fun o hs hn => h'.free o hs (h.free o hs hn)⟩
theorem Gh.leS.weak {S S' : Nat → Prop} {K K' : Gh} (h : K.leS S K') (hs : ∀ o, S' o → S o) : K.leS S' K' := ⟨h.le, fun o h1 h2 => h.free o (hs o h1) h2⟩
theorem Gh.leS_own {S : Nat → Prop} {K K' : Gh} (h : K.le K') (ho : K'.own = K.own) : K.leS S K' := ⟨h, fun o _ hn => by rw [ho]; exact hn⟩
def Bnd (S : Nat → Prop) : Prop := ∃ n, ∀ o, n ≤ o → ¬ S o
theorem ObjSat.keep {K K' : Gh} {w w' : World} {e x} (h : ObjSat K w e x) (hK : K.le K') (hh : e.real = true → w'.heap[e.blk]? = w.heap[e.blk]?)
    (hc : e.real = true → ∀ i, K'.claim e.blk i = K.claim e.blk i) : ObjSat K' w' e x := by
  cases e <;> cases x <;> simp only [ObjSat, Own.blk, Own.real, forall_const] at h hh hc ⊢
  case virt.grow => exact h
  case virt.virt => exact h
  case full.grow => exact h
  case obj.cells b cs =>
    obtain ⟨h1, ⟨c, el, h2, h3⟩, h4⟩ := h
    exact ⟨by rw [hK.base]; exact h1, ⟨c, el, by rw [hh]; exact h2, h3.mono hK⟩, fun i => by rw [hc]; exact h4 i⟩
  case vec.vec b cap sz n sz' n' cs =>
    obtain ⟨h0, h00, h01, h02, h1, ⟨c, el, h2, h3, h6⟩, h4⟩ := h
    exact ⟨h0, h00, h01, h02, by rw [hK.base]; exact h1, ⟨c, el, by rw [hh]; exact h2, h3, fun i a b => ⟨(h6 i a b).1.mono hK, (h6 i a b).2⟩⟩, fun i => by rw [hc]; exact h4 i⟩
  case buf.grow b cap sz n sz' n' =>
    obtain ⟨h0, h00, h000, h1, ⟨c, el, h2, h3⟩, h4⟩ := h
    exact ⟨h0, h00, h000, by rw [hK.base]; exact h1, ⟨c, el, by rw [hh]; exact h2, h3⟩, fun i a => by rw [hc]; exact h4 i a⟩
  case map.map r d m =>
    obtain ⟨h1, es, clock, h2, h3, h4, h5⟩ := h
    exact ⟨by rw [hK.base]; exact h1, es, clock, by rw [hh]; exact h2, h3, fun i a b => ⟨(h4 i a b).1.mono hK, (h4 i a b).2.mono hK⟩, h5⟩
  case iter.iter r m n seen =>
    obtain ⟨h1, ⟨rm, h2, h3⟩, h4⟩ := h
    obtain ⟨x', e', l⟩ := hK.own m _ h2
    simp only [Own.le] at l
    exact ⟨by rw [hK.base]; exact h1, ⟨rm, l ▸ e', by rw [hh]; exact h3⟩, fun i => by rw [hc]; exact h4 i⟩
  case pin.pin r x => exact ⟨by rw [hK.base]; exact h.1, by rw [hh]; exact h.2.1, fun i => by rw [hc]; exact h.2.2 i⟩
theorem ObjSat.blk_lt {K w e x} (h : ObjSat K w e x) (hr : e.real = true) : e.blk < w.heap.size := by
  have key : ∀ {b : Nat} {o : Obj}, w.heap[b]? = some o → b < w.heap.size := fun {b o} e => by
    rcases Nat.lt_or_ge b w.heap.size with h | h
    · exact h
    · simp [Array.getElem?_eq_none h] at e
  cases e <;> cases x <;> simp only [ObjSat, Own.blk, Own.real, Bool.false_eq_true] at h hr ⊢
  · obtain ⟨_, ⟨c, el, h2, _⟩, _⟩ := h; exact key h2
  · obtain ⟨_, _, _, _, _, ⟨c, el, h2, _⟩, _⟩ := h; exact key h2
  · obtain ⟨_, _, _, _, ⟨c, el, h2, _⟩, _⟩ := h; exact key h2
  · obtain ⟨_, es, clock, h2, _⟩ := h; exact key h2
  · obtain ⟨_, ⟨rm, _, h2⟩, _⟩ := h; exact key h2
  · exact key h.2.1
theorem ObjSat.base_le {K w e x} (h : ObjSat K w e x) (hr : e.real = true) : K.base.heap.size ≤ e.blk := by
  cases e <;> cases x <;> simp only [ObjSat, Own.blk, Own.real, Bool.false_eq_true] at h hr ⊢
  · exact h.1
  · exact h.2.2.2.2.1
  · exact h.2.2.2.1
  · exact h.1
  · exact h.1
  · exact h.1
theorem cell_lt {w : World} {b o : Nat} {v : Value} (h : w.cell? ⟨b, o, none⟩ = some v) : b < w.heap.size := block_lt_of_cell h
theorem Sat.claim_lt {K σ w} (h : Sat K σ w) {b o v} (e : K.claim b o = some v) : b < w.heap.size := cell_lt (h.claim b o v e)
theorem Sat.fresh {K σ w} (h : Sat K σ w) {o : Nat} (ho : K.own o = none) : σ o = none := by
  cases hs : σ o with
  | none => rfl
  | some x => obtain ⟨e, h1, _⟩ := h.live o x hs; simp [ho] at h1
theorem cell_of_heap {w w' : World} {b o : Nat} (h : w'.heap[b]? = w.heap[b]?) : w'.cell? ⟨b, o, none⟩ = w.cell? ⟨b, o, none⟩ := by
  simp [World.cell?, h]
theorem frozen_of_heap {w w' : World} {b o : Nat} (h : w'.heap[b]? = w.heap[b]?) : w'.frozen? ⟨b, o, none⟩ = w.frozen? ⟨b, o, none⟩ := by
  simp [World.frozen?, h]
def Gh.claimed (K : Gh) (b : Nat) (cl : Nat → Option Value) : Gh := { K with claim := fun b' i => if b' = b then cl i else K.claim b' i }
def Gh.named (K : Gh) (o : Nat) (e : Own) : Gh := { K with own := fun i => if i = o then some e else K.own i }
theorem Gh.le_claimed {K : Gh} {b cl} (h : ∀ i v, K.claim b i = some v → cl i = some v) : K.le (K.claimed b cl) :=
  ⟨rfl, fun b' i v e => by
    simp only [Gh.claimed]
    split
    · rename_i hb; subst hb; exact h i v e
    · exact e, fun o x e => ⟨x, e, Own.le_refl x⟩, rfl⟩
theorem Gh.le_named {K : Gh} {o e} (h : K.own o = none) : K.le (K.named o e) :=
  ⟨rfl, fun _ _ _ e => e, fun o' x e' => ⟨x, by
    simp only [Gh.named]
    split
    · rename_i hb; subst hb; simp [h] at e'
    · exact e', Own.le_refl x⟩, rfl⟩
structure Pushed (w w' : World) (ob : Obj) : Prop where
  os : w'.os = w.os
  tape : w'.tape = w.tape
  output : w'.output = w.output
  heap : w'.heap = w.heap.push ob
theorem Pushed.old {w w' ob} (h : Pushed w w' ob) (i : Nat) (hi : i < w.heap.size) : w'.heap[i]? = w.heap[i]? := by
  rw [h.heap, Array.getElem?_push, if_neg (by omega)]
theorem Pushed.new {w w' ob} (h : Pushed w w' ob) : w'.heap[w.heap.size]? = some ob := by
  rw [h.heap]; simp
def Obj.loose : Obj → Prop
  | .cells _ _ f => f = (0, 0)
  | _ => True
theorem frozen_loose {w : World} {b o : Nat} {ob : Obj} (h : w.heap[b]? = some ob) (hl : Obj.loose ob) : w.frozen? ⟨b, o, none⟩ = false := by
  cases ob <;> simp [World.frozen?, h]
  simp only [Obj.loose] at hl
  subst hl
  simp
theorem Sat.push {K σ w w' ob} (h : Sat K σ w) (hp : Pushed w w' ob) (hl : Obj.loose ob) (cl : Nat → Option Value)
    (hcl : ∀ i v, cl i = some v → w'.cell? ⟨w.heap.size, i, none⟩ = some v ∧ v.oneCell' = true) : K.le (K.claimed w.heap.size cl) ∧ Sat (K.claimed w.heap.size cl) σ w' := by
  have hnone : ∀ i, K.claim w.heap.size i = none := fun i => by
    cases e : K.claim w.heap.size i with
    | none => rfl
    | some v => exact absurd (h.claim_lt e) (Nat.lt_irrefl _)
  have hle : K.le (K.claimed w.heap.size cl) := Gh.le_claimed (fun i v e => by simp [hnone] at e)
  have hsz : w'.heap.size = w.heap.size + 1 := by rw [hp.heap]; simp
  refine ⟨hle, ⟨hp.os.trans h.os, hp.tape.trans h.tape, hp.output.trans h.output, by show K.base.heap.size ≤ _; have := h.size; omega, fun b hb => ?_, fun b o hb => ?_, fun b o v e => ?_, fun b o v e => ?_, fun o x e => ?_, h.apart, h.room⟩⟩
  · rw [hp.old b (Nat.lt_of_lt_of_le hb h.size)]; exact h.old b hb
  · rcases Nat.lt_trichotomy b w.heap.size with hlt | heq | hgt
    · rw [frozen_of_heap (hp.old b hlt)]; exact h.free b o hb
    · subst heq; exact frozen_loose hp.new hl
    · have : w'.heap[b]? = none := by simp; omega
      simp [World.frozen?, this]
  · simp only [Gh.claimed] at e
    split at e
    · rename_i hb; subst hb; exact (hcl o v e).1
    · rw [cell_of_heap (hp.old b (h.claim_lt e))]; exact h.claim b o v e
  · simp only [Gh.claimed] at e
    split at e
    · exact (hcl o v e).2
    · exact h.one b o v e
  · obtain ⟨e', h1, h2⟩ := h.live o x e
    refine ⟨e', h1, h2.keep hle (fun hr => hp.old _ (h2.blk_lt hr)) (fun hr i => ?_)⟩
    simp only [Gh.claimed]
    rw [if_neg (Nat.ne_of_lt (h2.blk_lt hr))]
theorem Sat.name {K σ w} (h : Sat K σ w) {o : Nat} (ho : K.own o = none) (e : Own) (x : AObj) (hx : ObjSat K w e x)
    (hb : ∀ o' x' e', σ o' = some x' → K.own o' = some e' → e'.real = true → e.real = true → e'.blk ≠ e.blk) : K.le (K.named o e) ∧ Sat (K.named o e) (upd σ o x) w := by
  have hle : K.le (K.named o e) := Gh.le_named ho
  refine ⟨hle, ⟨h.os, h.tape, h.output, h.size, h.old, h.free, h.claim, h.one, fun o' x' e' => ?_, ?_, ?_⟩⟩
  · simp only [upd] at e'
    by_cases hi : o' = o
    · subst hi
      simp at e'; subst e'
      exact ⟨e, by simp [Gh.named], hx.keep hle (fun _ => rfl) (fun _ _ => rfl)⟩
    · simp only [hi, if_false] at e'
      obtain ⟨e'', h1, h2⟩ := h.live o' x' e'
      exact ⟨e'', by simp [Gh.named, hi, h1], h2.keep hle (fun _ => rfl) (fun _ _ => rfl)⟩
  · intro o1 o2 x1 x2 e1 e2 h1 h2 hne k1 k2
    simp only [upd, Gh.named] at h1 h2 k1 k2
    by_cases i1 : o1 = o
    · by_cases i2 : o2 = o
      · exact absurd (i1.trans i2.symm) hne
      · simp only [i1, i2, if_true, if_false] at h1 h2 k1 k2
        simp at k1; subst k1
        exact fun q1 q2 => (hb o2 x2 e2 h2 k2 q2 q1).symm
    · by_cases i2 : o2 = o
      · simp only [i1, i2, if_true, if_false] at h1 h2 k1 k2
        simp at k2; subst k2
        exact hb o1 x1 e1 h1 k1
      · simp only [i1, i2, if_false] at h1 h2 k1 k2
        exact h.apart o1 o2 x1 x2 e1 e2 h1 h2 hne k1 k2
  · obtain ⟨n, hn⟩ := h.room
    refine ⟨max n (o + 1), fun i hi => ?_⟩
    simp only [Gh.named]
    rw [if_neg (by omega)]
    exact hn i (by omega)
theorem Sat.pushName {K σ w w' ob} (h : Sat K σ w) (hp : Pushed w w' ob) (hl : Obj.loose ob) (cl : Nat → Option Value)
    (hcl : ∀ i v, cl i = some v → w'.cell? ⟨w.heap.size, i, none⟩ = some v ∧ v.oneCell' = true) {o : Nat} (ho : K.own o = none) (e : Own) (he : e.blk = w.heap.size) (x : AObj)
    (hx : ObjSat (K.claimed w.heap.size cl) w' e x) : K.le ((K.claimed w.heap.size cl).named o e) ∧ Sat ((K.claimed w.heap.size cl).named o e) (upd σ o x) w' := by
  obtain ⟨h1, h2⟩ := h.push hp hl cl hcl
  obtain ⟨h3, h4⟩ := h2.name (o := o) ho e x hx (fun o' x' e' k1 k2 hr _ => by
    obtain ⟨e'', k3, k4⟩ := h.live o' x' k1
    have : e'' = e' := by have : K.own o' = some e' := k2; simp_all
    subst this
    rw [he]; exact Nat.ne_of_lt (k4.blk_lt hr))
  exact ⟨h1.trans h3, h4⟩
theorem Gh.le_renamed {K K' : Gh} {o e e'} (hb : K'.base = K.base) (hc : ∀ b i v, K.claim b i = some v → K'.claim b i = some v) (he : K.own o = some e) (he' : K'.own o = some e') (hee : e.le e')
    (hother : ∀ o', o' ≠ o → K'.own o' = K.own o') (hd : K'.ds = K.ds := by rfl) : K.le K' :=
  ⟨hb, hc, fun o' x e1 => by
    by_cases hi : o' = o
    · subst hi
      have : x = e := by simp_all
      subst this
      exact ⟨e', he', hee⟩
    · exact ⟨x, by rw [hother o' hi]; exact e1, Own.le_refl x⟩, hd⟩

/-! ### Other deferred calls -/
theorem Rel.ds {K : Gh} {a v} (d : List Deferred) (h : Rel K a v) : Rel { K with ds := d } a v := by
  induction h with
  | int k n => exact .int k n
  | bool b => exact .bool b
  | str s => exact .str s
  | nilp => exact .nilp
  | ptr o off e h hk => exact .ptr o off e h hk
  | cptr cs b off v hc hr ih => exact .cptr cs b off v hc ih
  | sl0 a cap t ht => exact .sl0 a cap t ht
  | slice l t b off cap sz v hsz hc hr ht hcap ih => exact .slice l t b off cap sz v hsz hc ih ht hcap
  | eptr o n off b cap h => exact .eptr o n off b cap h
  | vec o len b cap h hl => exact .vec o len b cap h hl
  | pre o len n b cap h h1 hl => exact .pre o len n b cap h h1 hl
  | raw o len b cap sz h hl => exact .raw o len b cap sz h hl
  | agg cs vs hs hr ih => exact .agg cs vs hs ih
  | tup cs vs hs hr ih => exact .tup cs vs hs ih
  | map o r h => exact .map o r h
  | nilmap => exact .nilmap
  | fn f first caps fs cs h1 h2 r1 r2 i1 i2 => exact .fn f first caps fs cs h1 h2 i1 i2
  | nilfn => exact .nilfn
  | iface t a v h ih => exact .iface t a v ih
  | nili => exact .nili
theorem RelL.ds {K : Gh} {cs vs} (d : List Deferred) (h : RelL K cs vs) : RelL { K with ds := d } cs vs := ⟨h.1, fun i h1 h2 => (h.2 i h1 h2).ds d⟩
theorem ObjSat.ds {K : Gh} {w e x} (d : List Deferred) (h : ObjSat K w e x) : ObjSat { K with ds := d } w e x := by
  cases e <;> cases x <;> simp only [ObjSat] at h ⊢
  case virt.grow => exact h
  case virt.virt => exact h
  case full.grow => exact h
  case obj.cells b cs =>
    obtain ⟨h1, ⟨c, el, h2, h3⟩, h4⟩ := h
    exact ⟨h1, ⟨c, el, h2, h3.ds d⟩, h4⟩
  case vec.vec b cap sz n sz' n' cs =>
    obtain ⟨h0, h00, h01, h02, h1, ⟨c, el, h2, h3, h6⟩, h4⟩ := h
    exact ⟨h0, h00, h01, h02, h1, ⟨c, el, h2, h3, fun i k1 k2 => ⟨(h6 i k1 k2).1.ds d, (h6 i k1 k2).2⟩⟩, h4⟩
  case buf.grow => exact h
  case iter.iter => exact h
  case pin.pin => exact h
  case map.map r d' m =>
    obtain ⟨h1, es, clock, h2, h3, h4, h5⟩ := h
    exact ⟨h1, es, clock, h2, h3, fun i k1 k2 => ⟨(h4 i k1 k2).1.ds d, (h4 i k1 k2).2.ds d⟩, h5⟩
theorem Sat.ds {K : Gh} {σ w} (d : List Deferred) (h : Sat K σ w) : Sat { K with ds := d } σ w :=
  { os := h.os, tape := h.tape, output := h.output, size := h.size, old := h.old, free := h.free, claim := h.claim, one := h.one, apart := h.apart, room := h.room,
    live := fun o x e => let ⟨e', k1, k2⟩ := h.live o x e; ⟨e', k1, k2.ds d⟩ }
theorem Gh.leS.ds {S : Nat → Prop} {K K' : Gh} {d : List Deferred} (h : ({ K with ds := d } : Gh).leS S K') : K.leS S { K' with ds := K.ds } :=
  ⟨⟨h.le.base, h.le.claim, h.le.own, rfl⟩, h.free⟩
theorem Sat.write {K K' : Gh} {σ w w'} (h : Sat K σ w) (hle : K.le K') {o : Nat} {x x' : AObj} {e e' : Own} (hx : σ o = some x) (he : K.own o = some e) (hre : e.real = true)
    (hown : ∀ o', o' ≠ o → K'.own o' = K.own o') (he' : K'.own o = some e') (hblk : e'.blk = e.blk)
    (hos : w'.os = w.os) (htape : w'.tape = w.tape) (hout : w'.output = w.output) (hsz : w'.heap.size = w.heap.size) (hother : ∀ b, b ≠ e.blk → w'.heap[b]? = w.heap[b]?)
    (hfree : ∀ i, w'.frozen? ⟨e.blk, i, none⟩ = false) (hclaim : ∀ i v, K'.claim e.blk i = some v → w'.cell? ⟨e.blk, i, none⟩ = some v ∧ v.oneCell' = true)
    (hcother : ∀ b i, b ≠ e.blk → K'.claim b i = K.claim b i) (hx' : ObjSat K' w' e' x') : Sat K' (upd σ o x') w' := by
  obtain ⟨e0, k1, k2⟩ := h.live o x hx
  have : e0 = e := by simp_all
  subst this
  have hb := k2.base_le hre
  have back : ∀ o1 e1, K'.own o1 = some e1 → ∃ e2, K.own o1 = some e2 ∧ e2.blk = e1.blk ∧ (e1.real = true → e2.real = true) := fun o1 e1 h1 => by
    by_cases hi : o1 = o
    · subst hi
      have : e1 = e' := by simp_all
      subst this
      exact ⟨e0, he, hblk.symm, fun _ => hre⟩
    · exact ⟨e1, by rw [← hown o1 hi]; exact h1, rfl, id⟩
  have alive : ∀ o1 x1, upd σ o x' o1 = some x1 → ∃ y, σ o1 = some y := fun o1 x1 h1 => by
    simp only [upd] at h1; by_cases hi : o1 = o
    · exact ⟨x, hi ▸ hx⟩
    · simp only [hi, if_false] at h1; exact ⟨x1, h1⟩
  refine ⟨by rw [hle.base]; exact hos.trans h.os, by rw [hle.base]; exact htape.trans h.tape, by rw [hle.base]; exact hout.trans h.output, by rw [hle.base, hsz]; exact h.size, fun b hb' => ?_, fun b i hb' => ?_, fun b i v ec => ?_, fun b i v ec => ?_, fun o' y ey => ?_, ?_, ?_⟩
  · rw [hle.base] at hb' ⊢
    rw [hother b (by omega)]; exact h.old b hb'
  · rw [hle.base] at hb'
    by_cases hbe : b = e0.blk
    · subst hbe; exact hfree i
    · rw [frozen_of_heap (hother b hbe)]; exact h.free b i hb'
  · by_cases hbe : b = e0.blk
    · subst hbe; exact (hclaim i v ec).1
    · rw [hcother b i hbe] at ec
      rw [cell_of_heap (hother b hbe)]; exact h.claim b i v ec
  · by_cases hbe : b = e0.blk
    · subst hbe; exact (hclaim i v ec).2
    · rw [hcother b i hbe] at ec
      exact h.one b i v ec
  · simp only [upd] at ey
    by_cases hi : o' = o
    · subst hi
      simp at ey; subst ey
      exact ⟨e', he', hx'⟩
    · simp only [hi, if_false] at ey
      obtain ⟨e'', h1, h2⟩ := h.live o' y ey
      have hne := h.apart o' o y x e'' e0 ey hx hi h1 he
      exact ⟨e'', by rw [hown o' hi]; exact h1, h2.keep hle (fun hr => hother _ (hne hr hre)) (fun hr i => hcother _ i (hne hr hre))⟩
  · intro o1 o2 x1 x2 e1 e2 h1 h2 hne k1 k2
    obtain ⟨y1, l1⟩ := alive o1 x1 h1
    obtain ⟨y2, l2⟩ := alive o2 x2 h2
    obtain ⟨f1, m1, n1, p1⟩ := back o1 e1 k1
    obtain ⟨f2, m2, n2, p2⟩ := back o2 e2 k2
    rw [← n1, ← n2]
    exact fun q1 q2 => h.apart o1 o2 y1 y2 f1 f2 l1 l2 hne m1 m2 (p1 q1) (p2 q2)
  · obtain ⟨n, hn⟩ := h.room
    refine ⟨max n (o + 1), fun i hi => ?_⟩
    rw [hown i (by omega)]; exact hn i (by omega)
theorem Sat.move {K K' : Gh} {σ w} (h : Sat K σ w) (hle : K.le K') (hcl : K'.claim = K.claim) {o : Nat} {x x' : AObj} {e e' : Own} (hx : σ o = some x) (he : K.own o = some e)
    (hown : ∀ o', o' ≠ o → K'.own o' = K.own o') (he' : K'.own o = some e') (hx' : ObjSat K' w e' x')
    (hb : ∀ o' y e'', σ o' = some y → K.own o' = some e'' → e''.real = true → e'.real = true → e''.blk ≠ e'.blk) : Sat K' (upd σ o x') w := by
  refine ⟨by rw [hle.base]; exact h.os, by rw [hle.base]; exact h.tape, by rw [hle.base]; exact h.output, by rw [hle.base]; exact h.size, by rw [hle.base]; exact h.old, by rw [hle.base]; exact h.free,
    by rw [hcl]; exact h.claim, by rw [hcl]; exact h.one, fun o' y ey => ?_, ?_, ?_⟩
  · simp only [upd] at ey
    by_cases hi : o' = o
    · subst hi
      simp at ey; subst ey
      exact ⟨e', he', hx'⟩
    · simp only [hi, if_false] at ey
      obtain ⟨e'', h1, h2⟩ := h.live o' y ey
      exact ⟨e'', by rw [hown o' hi]; exact h1, h2.keep hle (fun _ => rfl) (fun _ i => by rw [hcl])⟩
  · intro o1 o2 x1 x2 e1 e2 h1 h2 hne k1 k2
    simp only [upd] at h1 h2
    by_cases i1 : o1 = o
    · by_cases i2 : o2 = o
      · exact absurd (i1.trans i2.symm) hne
      · simp only [i2, if_false] at h2
        have : e1 = e' := by subst i1; simp_all
        subst this
        exact fun q1 q2 => (hb o2 x2 e2 h2 (by rw [← hown o2 i2]; exact k2) q2 q1).symm
    · by_cases i2 : o2 = o
      · simp only [i1, if_false] at h1
        have : e2 = e' := by subst i2; simp_all
        subst this
        exact hb o1 x1 e1 h1 (by rw [← hown o1 i1]; exact k1)
      · simp only [i1, i2, if_false] at h1 h2
        exact h.apart o1 o2 x1 x2 e1 e2 h1 h2 hne (by rw [← hown o1 i1]; exact k1) (by rw [← hown o2 i2]; exact k2)
  · obtain ⟨n, hn⟩ := h.room
    refine ⟨max n (o + 1), fun i hi => ?_⟩
    rw [hown i (by omega)]; exact hn i (by omega)
theorem Sat.same {K σ w w'} (h : Sat K σ w) (hos : w'.os = w.os) (htape : w'.tape = w.tape) (hout : w'.output = w.output) (hh : w'.heap = w.heap) : Sat K σ w' := by
  have hc : ∀ b o, w'.cell? ⟨b, o, none⟩ = w.cell? ⟨b, o, none⟩ := fun b o => cell_of_heap (by rw [hh])
  refine ⟨hos.trans h.os, htape.trans h.tape, hout.trans h.output, by rw [hh]; exact h.size, fun b hb => by rw [hh]; exact h.old b hb, fun b o hb => ?_, fun b o v e => by rw [hc]; exact h.claim b o v e, h.one, fun o x e => ?_, h.apart, h.room⟩
  · rw [frozen_of_heap (w := w) (w' := w') (by rw [hh])]; exact h.free b o hb
  · obtain ⟨e', h1, h2⟩ := h.live o x e
    exact ⟨e', h1, h2.keep (Gh.le.refl K) (fun _ => by rw [hh]) (fun _ _ => rfl)⟩
end Abs

