/- The abstraction layer, part A: abstract values, ghost state, the relation between them and the model's worlds. No condition: definitions and general lemmas over any program. -/
import Derived.Calls
import Derived.RowKit3
import Derived.Laws.World
import Derived.Laws.Sem
set_option linter.unusedSimpArgs false
set_option linter.unusedVariables false
namespace Abs
open Go

inductive Tok where
  | no | nil | full | own (t : Nat)

inductive AV where
  | int (k : IntKind) (n : Int)
  | bool (b : Bool)
  | str (s : ByteArray)
  | nilp
  | ptr (o off : Nat)
  | eptr (o n off : Nat)
  | cptr (cs : List AV)
  | slice (l : List AV) (t : Tok)
  | vec (o len : Nat)
  | pre (o len n : Nat)
  | raw (o len : Nat)
  | agg (cs : List AV)
  | tup (vs : List AV)
  | map (o : Nat)
  | nilmap
  | fn (f : Nat) (first caps : List AV)
  | nilfn
  | iface (t : Nat) (v : AV)
  | nili
  deriving Inhabited

def cellsA : AV → List AV
  | .agg cs => cs
  | v => [v]

def flat (l : List AV) : List AV := l.flatMap cellsA

inductive AObj where
  | cells (cs : List AV)
  | vec (sz n : Nat) (cs : List AV)
  | grow (sz n : Nat)
  | map (d : Bool) (m : List (AV × AV))
  | virt (sz : Nat)
  | iter (m n : Nat) (seen : List Nat)

inductive Own where
  | obj (b : Nat)
  | vec (b cap sz n : Nat)
  | buf (b cap sz n : Nat)
  | map (r : Nat)
  | virt (sz : Nat)
  | full (sz n : Nat)
  | iter (r : Nat)

def Own.real : Own → Bool
  | .virt _ => false
  | .full _ _ => false
  | _ => true

def Own.blk : Own → Nat
  | .obj b => b | .vec b _ _ _ => b | .buf b _ _ _ => b | .map r => r | .virt _ => 0 | .full _ _ => 0 | .iter r => r

def Own.fixed : Own → Bool
  | .obj _ => true | .vec _ _ _ _ => false | .buf _ _ _ _ => false | .map _ => false | .virt _ => false | .full _ _ => false | .iter _ => true

def Own.le : Own → Own → Prop
  | .buf b cap sz n, .buf b' cap' sz' n' => sz = sz' ∧ n ≤ n' ∧ (n = n' → b = b' ∧ cap = cap')
  | .vec b cap sz n, .vec b' cap' sz' n' => sz = sz' ∧ n ≤ n' ∧ (n = n' → b = b' ∧ cap = cap')
  | .vec b cap sz n, .buf b' cap' sz' n' => sz = sz' ∧ n ≤ n' ∧ (n = n' → b = b' ∧ cap = cap')
  | .virt sz, .buf _ _ sz' n' => sz = sz' ∧ 0 < n'
  | .full sz n, .buf _ _ sz' n' => sz = sz' ∧ n < n'
  | a, b => a = b

theorem Own.le_refl (a : Own) : a.le a := by cases a <;> simp [Own.le]
theorem Own.le_trans {a b c : Own} (h : a.le b) (h' : b.le c) : a.le c := by
  cases a <;> cases b <;> simp [Own.le] at h <;> cases c <;> simp [Own.le] at h' ⊢ <;> simp_all
  case virt.buf.buf => omega
  case full.buf.buf => omega
  all_goals
    obtain ⟨_, h2, h3⟩ := h; obtain ⟨_, k2, k3⟩ := h'
    refine ⟨by omega, fun e => ?_⟩
    have := h3 (by omega); have := k3 (by omega); simp_all

structure Gh where
  base : World
  claim : Nat → Nat → Option Value
  own : Nat → Option Own
  ds : List Deferred

structure Gh.le (K K' : Gh) : Prop where
  base : K'.base = K.base
  claim : ∀ b o v, K.claim b o = some v → K'.claim b o = some v
  own : ∀ o x, K.own o = some x → ∃ x', K'.own o = some x' ∧ x.le x'
  ds : K'.ds = K.ds

theorem Gh.le.refl (K : Gh) : K.le K := ⟨rfl, fun _ _ _ h => h, fun _ x h => ⟨x, h, Own.le_refl x⟩, rfl⟩
theorem Gh.le.trans {K K' K'' : Gh} (h : K.le K') (h' : K'.le K'') : K.le K'' :=
  ⟨h'.base.trans h.base, fun b o v e => h'.claim b o v (h.claim b o v e), fun o x e => by
    obtain ⟨x', e', l⟩ := h.own o x e
    obtain ⟨x'', e'', l'⟩ := h'.own o x' e'
    exact ⟨x'', e'', Own.le_trans l l'⟩, h'.ds.trans h.ds⟩

def TokOk (K : Gh) (t : Tok) (len b off cap sz : Nat) : Prop :=
  match t with
  | .no => True
  | .nil => False
  | .full => cap = len
  | .own o => (∃ b' cap' n, K.own o = some (.buf b' cap' sz n) ∧ len ≤ n ∧ (len = n → b = b' ∧ off = 0 ∧ cap = cap')) ∨ ∃ n, K.own o = some (.full sz n) ∧ len ≤ n ∧ (len = n → cap = len)

theorem TokOk.mono {K K' : Gh} (hK : K.le K') {t : Tok} {len b off cap sz : Nat} (h : TokOk K t len b off cap sz) : TokOk K' t len b off cap sz := by
  cases t with
  | no => trivial
  | nil => exact h
  | full => exact h
  | own o =>
    rcases h with ⟨b', cap', n, e, hl, hn⟩ | ⟨n, e, hl, hn⟩
    · obtain ⟨x', e', l⟩ := hK.own o _ e
      cases x' <;> simp [Own.le] at l
      rename_i b'' cap'' sz'' n''
      obtain ⟨rfl, l2, l3⟩ := l
      refine .inl ⟨b'', cap'', n'', e', by omega, fun e => ?_⟩
      have := l3 (by omega); have := hn (by omega); simp_all
    · obtain ⟨x', e', l⟩ := hK.own o _ e
      cases x' <;> simp [Own.le] at l
      · obtain ⟨rfl, l2⟩ := l
        exact .inl ⟨_, _, _, e', by omega, fun h => by omega⟩
      · obtain ⟨rfl, rfl⟩ := l
        exact .inr ⟨n, e', hl, hn⟩

def VecOk (K : Gh) (o len b cap : Nat) : Prop := ∃ b' cap' sz n, (K.own o = some (.vec b' cap' sz n) ∨ K.own o = some (.buf b' cap' sz n)) ∧ len ≤ n ∧ (len = n → b = b' ∧ cap = cap')

theorem VecOk.mono {K K' : Gh} (hK : K.le K') {o len b cap : Nat} (h : VecOk K o len b cap) : VecOk K' o len b cap := by
  obtain ⟨b', cap', sz, n, e | e, hl, hn⟩ := h
  all_goals
    obtain ⟨x', e', l⟩ := hK.own o _ e
    cases x' <;> simp [Own.le] at l
    all_goals
      obtain ⟨rfl, l2, l3⟩ := l
      refine ⟨_, _, _, _, by first | exact .inl e' | exact .inr e', by omega, fun h => ?_⟩
      have := l3 (by omega); have := hn (by omega); simp_all

def NilOwn (K : Gh) (o : Nat) : Prop := ∃ sz, K.own o = some (.virt sz) ∨ ∃ b c n, K.own o = some (.buf b c sz n) ∧ 0 < n

theorem NilOwn.mono {K K' : Gh} (hK : K.le K') {o : Nat} (h : NilOwn K o) : NilOwn K' o := by
  obtain ⟨sz, h | ⟨b, c, n, h, hn⟩⟩ := h
  · obtain ⟨x', e, l⟩ := hK.own o _ h
    cases x' <;> simp [Own.le] at l
    · obtain ⟨rfl, hn⟩ := l
      exact ⟨_, .inr ⟨_, _, _, e, hn⟩⟩
    · exact ⟨_, .inl e⟩
  · obtain ⟨x', e, l⟩ := hK.own o _ h
    cases x' <;> simp [Own.le] at l
    exact ⟨_, .inr ⟨_, _, _, e, by omega⟩⟩

inductive Rel (K : Gh) : AV → Value → Prop
  | int (k n) : Rel K (.int k n) (.int k n)
  | bool (b) : Rel K (.bool b) (.bool b)
  | str (s) : Rel K (.str s) (.string s)
  | nilp : Rel K .nilp (.pointer none)
  | ptr (o off e) (h : K.own o = some e) (hk : e.fixed = true) : Rel K (.ptr o off) (.pointer (some ⟨e.blk, off, none⟩))
  | eptr (o n off b cap) (h : VecOk K o n b cap) : Rel K (.eptr o n off) (.pointer (some ⟨b, off, none⟩))
  | cptr (cs : List AV) (b off : Nat) (v : Nat → Value) (hc : ∀ i, i < cs.length → K.claim b (off + i) = some (v i))
      (hr : ∀ i, (h : i < cs.length) → Rel K cs[i] (v i)) : Rel K (.cptr cs) (.pointer (some ⟨b, off, none⟩))
  | sl0 (a cap t) (ht : t = .no ∨ t = .full ∧ cap = 0 ∨ t = .nil ∧ a = none ∧ cap = 0 ∨ (a = none ∧ cap = 0 ∧ ∃ o, t = .own o ∧ NilOwn K o)) : Rel K (.slice [] t) (.slice a 0 cap)
  | slice (l : List AV) (t : Tok) (b off cap sz : Nat) (v : Nat → Value) (hsz : ∀ x ∈ l, (cellsA x).length = sz)
      (hc : ∀ i, i < (flat l).length → K.claim b (off + i) = some (v i)) (hr : ∀ i, (h : i < (flat l).length) → Rel K (flat l)[i] (v i))
      (ht : TokOk K t l.length b off cap sz) (hcap : l.length ≤ cap) : Rel K (.slice l t) (.slice (some ⟨b, off, none⟩) l.length cap)
  | vec (o len b cap) (h : VecOk K o len b cap) (hl : len ≤ cap) : Rel K (.vec o len) (.slice (some ⟨b, 0, none⟩) len cap)
  | pre (o len n b cap) (h : VecOk K o n b cap) (h1 : len ≤ n) (hl : n ≤ cap) : Rel K (.pre o len n) (.slice (some ⟨b, 0, none⟩) len cap)
  | raw (o len b cap sz) (h : TokOk K (.own o) 0 b 0 cap sz) (hl : len ≤ cap) : Rel K (.raw o len) (.slice (some ⟨b, 0, none⟩) len cap)
  | agg (cs : List AV) (vs : Array Value) (hs : cs.length = vs.size) (hr : ∀ i, (h : i < cs.length) → (h' : i < vs.size) → Rel K cs[i] vs[i]) : Rel K (.agg cs) (.agg vs)
  | tup (cs : List AV) (vs : Array Value) (hs : cs.length = vs.size) (hr : ∀ i, (h : i < cs.length) → (h' : i < vs.size) → Rel K cs[i] vs[i]) : Rel K (.tup cs) (.tuple vs)
  | map (o r) (h : K.own o = some (.map r)) : Rel K (.map o) (.map (some r))
  | nilmap : Rel K .nilmap (.map none)
  | fn (f) (first caps : List AV) (fs cs : Array Value) (h1 : first.length = fs.size) (h2 : caps.length = cs.size)
      (r1 : ∀ i, (h : i < first.length) → (h' : i < fs.size) → Rel K first[i] fs[i]) (r2 : ∀ i, (h : i < caps.length) → (h' : i < cs.size) → Rel K caps[i] cs[i]) :
      Rel K (.fn f first caps) (.func (.func f) fs cs)
  | nilfn : Rel K .nilfn .nilFunc
  | iface (t a v) (h : Rel K a v) : Rel K (.iface t a) (.iface t v)
  | nili : Rel K .nili .nilIface

theorem Rel.mono {K K' : Gh} (hK : K.le K') {a : AV} {v : Value} (h : Rel K a v) : Rel K' a v := by
  induction h with
  | int k n => exact .int k n
  | bool b => exact .bool b
  | str s => exact .str s
  | nilp => exact .nilp
  | ptr o off e h hk =>
    obtain ⟨x', e', l⟩ := hK.own o _ h
    cases e <;> simp [Own.fixed] at hk <;> (simp only [Own.le] at l; exact .ptr o off _ (l ▸ e') rfl)
  | cptr cs b off v hc hr ih => exact .cptr cs b off v (fun i h => hK.claim _ _ _ (hc i h)) ih
  | sl0 a cap t ht =>
    refine .sl0 a cap t ?_
    rcases ht with h | h | h | ⟨h1, h2, o, h3, h4⟩
    · exact .inl h
    · exact .inr (.inl h)
    · exact .inr (.inr (.inl h))
    · exact .inr (.inr (.inr ⟨h1, h2, o, h3, h4.mono hK⟩))
  | slice l t b off cap sz v hsz hc hr ht hcap ih => exact .slice l t b off cap sz v hsz (fun i h => hK.claim _ _ _ (hc i h)) ih (ht.mono hK) hcap
  | eptr o n off b cap h => exact .eptr o n off b cap (h.mono hK)
  | vec o len b cap h hl => exact .vec o len b cap (h.mono hK) hl
  | pre o len n b cap h h1 hl => exact .pre o len n b cap (h.mono hK) h1 hl
  | raw o len b cap sz h hl => exact .raw o len b cap sz (h.mono hK) hl
  | agg cs vs hs hr ih => exact .agg cs vs hs ih
  | tup cs vs hs hr ih => exact .tup cs vs hs ih
  | map o r h =>
    obtain ⟨x', e', l⟩ := hK.own o _ h
    simp only [Own.le] at l
    exact .map o r (l ▸ e')
  | nilmap => exact .nilmap
  | fn f first caps fs cs h1 h2 r1 r2 i1 i2 => exact .fn f first caps fs cs h1 h2 i1 i2
  | nilfn => exact .nilfn
  | iface t a v h ih => exact .iface t a v ih
  | nili => exact .nili

def RelL (K : Gh) (cs : List AV) (vs : List Value) : Prop := cs.length = vs.length ∧ ∀ i, (h : i < cs.length) → (h' : i < vs.length) → Rel K cs[i] vs[i]

theorem RelL.mono {K K' : Gh} (hK : K.le K') {cs vs} (h : RelL K cs vs) : RelL K' cs vs := ⟨h.1, fun i h1 h2 => (h.2 i h1 h2).mono hK⟩

abbrev Sig := Nat → Option AObj

def upd (σ : Sig) (o : Nat) (x : AObj) : Sig := fun i => if i = o then some x else σ i
def del (σ : Sig) (o : Nat) : Sig := fun i => if i = o then none else σ i

theorem upd_same (σ : Sig) (o x) : upd σ o x o = some x := by simp [upd]
theorem upd_other (σ : Sig) (o o' x) (h : o' ≠ o) : upd σ o x o' = σ o' := by simp [upd, h]
theorem upd_upd (σ : Sig) (o x y) : upd (upd σ o x) o y = upd σ o y := by funext i; simp only [upd]; split <;> rfl
theorem del_other (σ : Sig) (o o') (h : o' ≠ o) : del σ o o' = σ o' := by simp [del, h]
theorem del_same (σ : Sig) (o) : del σ o o = none := by simp [del]

def ObjSat (K : Gh) (w : World) : Own → AObj → Prop
  | .obj b, .cells cs => K.base.heap.size ≤ b ∧ (∃ c el, w.heap[b]? = some (.cells c el (0, 0)) ∧ RelL K cs c.toList) ∧ ∀ i, K.claim b i = none
  | .vec b cap sz n, .vec sz' n' cs => sz = sz' ∧ n = n' ∧ cs.length = n * sz ∧ (n ≤ cap ∧ (sz = 1 → cap ≤ 9223372036854775807)) ∧ K.base.heap.size ≤ b ∧ (∃ c el, w.heap[b]? = some (.cells c el (0, 0)) ∧ c.size = cap * sz ∧
      ∀ i, (h : i < cs.length) → (h' : i < c.size) → Rel K cs[i] c[i] ∧ c[i].oneCell' = true) ∧ ∀ i, K.claim b i = none
  | .buf b cap sz n, .grow sz' n' => sz = sz' ∧ n = n' ∧ n ≤ cap ∧ K.base.heap.size ≤ b ∧ (∃ c el, w.heap[b]? = some (.cells c el (0, 0)) ∧ c.size = cap * sz) ∧ ∀ i, n * sz ≤ i → K.claim b i = none
  | .map r, .map d m => K.base.heap.size ≤ r ∧ ∃ es clock, w.heap[r]? = some (.map es clock) ∧ es.size = m.length ∧
      (∀ i, (h : i < m.length) → (h' : i < es.size) → Rel K m[i].1 es[i].key ∧ Rel K m[i].2 es[i].val) ∧ (∀ i, (h : i < es.size) → es[i].born < clock) ∧
      (∀ i j, (h : i < es.size) → (h' : j < es.size) → es[i].born = es[j].born → i = j) ∧ (d = true → clock = es.size ∧ ∀ i, (h : i < es.size) → es[i].born = i)
  | .iter r, .iter m n seen => K.base.heap.size ≤ r ∧ (∃ rm, K.own m = some (.map rm) ∧ w.heap[r]? = some (.mapIter (some rm) n seen.toArray n)) ∧ ∀ i, K.claim r i = none
  | .virt sz, .grow sz' n => sz = sz' ∧ n = 0
  | .virt sz, .virt sz' => sz = sz'
  | .full sz n, .grow sz' n' => sz = sz' ∧ n = n'
  | _, _ => False

structure Sat (K : Gh) (σ : Sig) (w : World) : Prop where
  os : w.os = K.base.os
  tape : w.tape = K.base.tape
  output : w.output = K.base.output
  size : K.base.heap.size ≤ w.heap.size
  old : ∀ b, b < K.base.heap.size → w.heap[b]? = K.base.heap[b]?
  free : ∀ b o, K.base.heap.size ≤ b → w.frozen? ⟨b, o, none⟩ = false
  claim : ∀ b o v, K.claim b o = some v → w.cell? ⟨b, o, none⟩ = some v
  one : ∀ b o v, K.claim b o = some v → v.oneCell' = true
  live : ∀ o x, σ o = some x → ∃ e, K.own o = some e ∧ ObjSat K w e x
  apart : ∀ o o' x x' e e', σ o = some x → σ o' = some x' → o ≠ o' → K.own o = some e → K.own o' = some e' → e.real = true → e'.real = true → e.blk ≠ e'.blk
  room : ∃ n, ∀ o, n ≤ o → K.own o = none

def Sub (σ' σ : Sig) : Prop := ∀ o x, σ' o = some x → σ o = some x

theorem Sub.refl (σ : Sig) : Sub σ σ := fun _ _ h => h
theorem Sub.trans {a b c : Sig} (h : Sub a b) (h' : Sub b c) : Sub a c := fun o x e => h' o x (h o x e)
theorem Sub.upd_fresh {σ : Sig} {o : Nat} {x : AObj} (h : σ o = none) : Sub σ (upd σ o x) := fun i y e => by
  have : i ≠ o := fun e' => by subst e'; simp [h] at e
  simp [upd, this, e]

theorem Sat.sub {K σ σ' w} (h : Sat K σ w) (hs : Sub σ' σ) : Sat K σ' w :=
  { h with live := fun o x e => h.live o x (hs o x e), apart := fun o o' x x' e e' h1 h2 => h.apart o o' x x' e e' (hs _ _ h1) (hs _ _ h2) }

end Abs
