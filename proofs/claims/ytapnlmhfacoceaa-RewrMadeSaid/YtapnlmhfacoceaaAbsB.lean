/- The abstraction layer, part B: abstract code, its predicate transformer, and the translation from the model's code. Definitions. -/
import Derived.Test.YtapnlmhfacoceaaAbsA
set_option linter.unusedSimpArgs false
set_option linter.unusedVariables false
namespace Abs
open Go

abbrev Env := List (Nat × Option AV)

def lk : Env → Nat → Option AV
  | [], _ => none
  | (j, v) :: e, i => if i = j then v else lk e i

inductive AOpnd where
  | t (n : Nat)
  | c (v : AV)
  | m (n : Nat) (tbl : List (Nat × Nat))

def fGet (t : Nat) : List (Nat × Nat) → Option Nat
  | [] => none
  | (a, f) :: r => if t = a then some f else fGet t r

def methA (tbl : List (Nat × Nat)) : Option AV → Option AV
  | some (.iface t v) => (fGet t tbl).map fun f => .fn f [v] []
  | _ => none

def aval (env : Env) : AOpnd → Option AV
  | .t n => lk env n
  | .c v => some v
  | .m n tbl => methA tbl (lk env n)

inductive Tg.{u} {α : Sort u} (a : α) : Type
  | mk

def wth (x : Option AV) (R : AV → Prop) (_ : Tg R := .mk) : Prop :=
  match x with
  | some a => R a
  | none => False

def avals (env : Env) : List AOpnd → Option (List AV)
  | [] => some []
  | x :: xs => match aval env x, avals env xs with
    | some a, some l => some (a :: l)
    | _, _ => none

def wthL (x : Option (List AV)) (R : List AV → Prop) (_ : Tg R := .mk) : Prop :=
  match x with
  | some a => R a
  | none => False

def oneA : AV → Bool
  | .agg _ => false
  | .tup _ => false
  | _ => true

def putAt (cs : List AV) (off : Nat) (xs : List AV) : List AV := cs.take off ++ xs ++ cs.drop (off + xs.length)

def mkv (g : Bool) (cs : List AV) : Option AV :=
  if g then some (.agg cs) else cs.head?

inductive KK where
  | one (k : Nat)
  | row (ks : List Nat)

inductive XOp where
  | mkmap
  | look (kk : KK) (z : AV) (c : Bool) (x i : AOpnd)
  | mset (kk : KK) (m k v : AOpnd)
  | mdel (kk : KK) (m k : AOpnd)
  | lenM (x : AOpnd)
  | isnil (ne : Bool) (x : AOpnd)
  | ment (kk : KK) (z : AV) (m k : AOpnd)
  | eset (m s v : AOpnd)
  | tas (t : Nat) (z : AV) (c : Bool) (x : AOpnd)
  | bsliceG (sz : Nat) (ps : List AOpnd)
  | vmake (sz bytes : Nat) (z : List AV) (g : Bool) (l c : AOpnd)
  | vapp (sz bytes : Nat) (s x : AOpnd)
  | vfrz (g : Bool) (x : AOpnd)
  | retok (sz : Nat) (x : AOpnd)
  | rng (x : AOpnd)
  | nxt (x : AOpnd)
  | entr (x : AOpnd)
  | eqI (neg : Bool) (tbl : List (Nat × Option Nat)) (x y : AOpnd)
  | bsliceV (sz : Nat) (ps : List AOpnd)

inductive AOp where
  | mov (x : AOpnd)
  | pick (c a b : AOpnd)
  | alloc (z : List AV)
  | box (x : AOpnd)
  | boxI (x : AOpnd)
  | build (z : List AV) (parts : List (Nat × Nat × AOpnd))
  | bslice (sz : Nat) (parts : List AOpnd)
  | load (g : Bool) (n : Nat) (x : AOpnd)
  | store (n : Nat) (a x : AOpnd)
  | nilchk (x : AOpnd)
  | bin (op : BinOp) (tb : Bool) (x y : AOpnd)
  | eqs (neg : Bool) (ks : List Nat) (x y : AOpnd)
  | un (op : UnOp) (x : AOpnd)
  | conv (k : IntKind) (x : AOpnd)
  | mkfn (f : Nat) (first caps : List AOpnd)
  | fldA (off : Nat) (x : AOpnd)
  | fldV (g : Bool) (off n : Nat) (x : AOpnd)
  | idxS (sz : Nat) (x i : AOpnd)
  | idxR (sz len : Nat) (x i : AOpnd)
  | idxV (g : Bool) (sz len : Nat) (x i : AOpnd)
  | slc (sz : Nat) (x : AOpnd) (lo hi mx : Option AOpnd)
  | extract (x : AOpnd) (i : Nat)
  | call (f : AOpnd) (args : List AOpnd)
  | len (x : AOpnd)
  | lenS (x : AOpnd)
  | cap (x : AOpnd)
  | append (sz bytes : Nat) (s x : AOpnd)
  | appz (sz bytes : Nat) (s x : AOpnd)
  | slcN (sz : Nat) (x : AOpnd) (lo hi mx : Option AOpnd)
  | slcR (sz : Nat) (x : AOpnd) (lo hi mx : Option AOpnd)
  | min (xs : List AOpnd)
  | max (xs : List AOpnd)
  | mkslice (sz bytes : Nat) (z : List AV) (g : Bool) (l c : AOpnd)
  | mkiface (t : Nat) (x : AOpnd)
  | panic (x : AOpnd)
  | ext (x : XOp)

structure AInst where
  dst : Option Nat
  op : AOp
  guard : Option (Nat × Bool)

inductive ACode where
  | skip
  | reg (is : List AInst)
  | drw (is : List AInst) (pairs : List (Nat × Nat))
  | seq (a b : ACode)
  | cut (a b : ACode)
  | cond (c : AOpnd) (thn els : ACode)
  | block (id : Nat) (body : ACode)
  | loop (body : ACode)
  | exit (id : Nat)
  | ret

inductive AExit where
  | normal
  | exit (id : Nat)
  | ret
  | panic (v : AV)

inductive ARes where
  | ret (v : AV)
  | panic (v : AV)

def binA (op : BinOp) (tb : Bool) : AV → AV → Option AV
  | .int k a, .int k' b =>
    match op with
    | .shl => if b < 0 then none else some (.int k (k.wrap (a * 2 ^ (Nat.min b.toNat k.bits))))
    | .shr => if b < 0 then none else some (.int k (a.fdiv (2 ^ (Nat.min b.toNat k.bits))))
    | .add => if k = k' then some (.int k (k.wrap (a + b))) else none
    | .sub => if k = k' then some (.int k (k.wrap (a - b))) else none
    | .mul => if k = k' then some (.int k (k.wrap (a * b))) else none
    | .quo => if k = k' then (if b = 0 then none else some (.int k (k.wrap (a.tdiv b)))) else none
    | .rem => if k = k' then (if b = 0 then none else some (.int k (a.tmod b))) else none
    | .and => if k = k' then some (.int k (k.wrap (BitVec.ofInt k.bits a &&& BitVec.ofInt k.bits b).toNat)) else none
    | .or => if k = k' then some (.int k (k.wrap (BitVec.ofInt k.bits a ||| BitVec.ofInt k.bits b).toNat)) else none
    | .xor => if k = k' then some (.int k (k.wrap (BitVec.ofInt k.bits a ^^^ BitVec.ofInt k.bits b).toNat)) else none
    | .andNot => if k = k' then some (.int k (k.wrap (BitVec.ofInt k.bits a &&& ~~~ BitVec.ofInt k.bits b).toNat)) else none
    | .eql => if k = k' then some (.bool (a == b)) else none
    | .neq => if k = k' then some (.bool (a != b)) else none
    | .lss => if k = k' then some (.bool (decide (a < b))) else none
    | .leq => if k = k' then some (.bool (decide (a ≤ b))) else none
    | .gtr => if k = k' then some (.bool (decide (a > b))) else none
    | .geq => if k = k' then some (.bool (decide (a ≥ b))) else none
  | .bool a, .bool b =>
    match op with
    | .eql => if tb then some (.bool (a == b)) else none
    | .neq => if tb then some (.bool (!(a == b))) else none
    | _ => none
  | .str a, .str b =>
    match op with
    | .eql => some (.bool (a.toList == b.toList))
    | .neq => some (.bool (!(a.toList == b.toList)))
    | _ => none
  | _, _ => none

def eq1 : Nat → AV → AV → Option Bool
  | 0, .int k a, .int k' b => if k = k' then some (a == b) else none
  | 1, .bool a, .bool b => some (a == b)
  | 2, .str a, .str b => some (a.toList == b.toList)
  | _, _, _ => none

def eqCells : List Nat → List AV → List AV → Option Bool
  | [], [], [] => some true
  | k :: ks, a :: l, b :: m => match eq1 k a b, eqCells ks l m with
    | some p, some r => some (p && r)
    | _, _ => none
  | _, _, _ => none

def eqKey : KK → AV → AV → Option Bool
  | .one k, a, b => eq1 k a b
  | .row ks, .agg l, .agg m => eqCells ks l m
  | _, _, _ => none

def keyOk (kk : KK) (k : AV) : Bool := (eqKey kk k k).isSome

def lookK (kk : KK) (k : AV) : List (AV × AV) → Option (Option AV)
  | [] => some none
  | (a, v) :: r => match eqKey kk k a with
    | some true => some (some v)
    | some false => lookK kk k r
    | none => none

def setK (kk : KK) (k v : AV) : List (AV × AV) → Option (List (AV × AV))
  | [] => some [(k, v)]
  | (a, u) :: r => match eqKey kk k a with
    | some true => some ((k, v) :: r)
    | some false => (setK kk k v r).map ((a, u) :: ·)
    | none => none

def delK (kk : KK) (k : AV) : List (AV × AV) → Option (List (AV × AV))
  | [] => some []
  | (a, u) :: r => match eqKey kk k a with
    | some true => some r
    | some false => (delK kk k r).map ((a, u) :: ·)
    | none => none

def entK (kk : KK) (k z : AV) : List (AV × AV) → Option (AV × Nat × List (AV × AV))
  | [] => some (z, 0, [(k, z)])
  | (a, u) :: r => match eqKey kk k a with
    | some true => some (u, 0, (k, u) :: r)
    | some false => (entK kk k z r).map fun (v, i, l) => (v, i + 1, (a, u) :: l)
    | none => none

def lkm {α : Type} (x : Option α) (R : α → Prop) (_ : Tg R := .mk) : Prop :=
  match x with
  | some a => R a
  | none => False

def minI : List AV → Option Int
  | [.int .i64 a] => some a
  | .int .i64 a :: .int .i64 b :: [] => some (if b < a then b else a)
  | .int .i64 a :: .int .i64 b :: .int .i64 c :: [] => some (if c < (if b < a then b else a) then c else (if b < a then b else a))
  | _ => none

def maxI : List AV → Option Int
  | [.int .i64 a] => some a
  | .int .i64 a :: .int .i64 b :: [] => some (if b > a then b else a)
  | .int .i64 a :: .int .i64 b :: .int .i64 c :: [] => some (if c > (if b > a then b else a) then c else (if b > a then b else a))
  | _ => none

def fillA (env : Env) (cs : List AV) : List (Nat × Nat × AOpnd) → Option (List AV)
  | [] => some cs
  | (off, n, x) :: r =>
    match aval env x with
    | some a => if (cellsA a).length = n ∧ off + n ≤ cs.length then fillA env (putAt cs off (cellsA a)) r else none
    | none => none

def req (p : Prop) (k : Prop) (_ : Tg k := .mk) : Prop := p ∧ k

def fresh (σ : Sig) (k : Nat → Prop) (_ : Tg k := .mk) : Prop := ∀ o, σ o = none → k o

def szs (sz : Nat) (l : List AV) : Prop := ∀ x ∈ l, (cellsA x).length = sz

def ifnil (m : List AV) (a b : Prop) (_ : Tg a := .mk) (_ : Tg b := .mk) : Prop := (m = [] → a) ∧ (m ≠ [] → b)

def bnd (env : Env) (x : Option AOpnd) (d : Nat) (hi : Nat) (R : Nat → Prop) : Prop :=
  match x with
  | none => R d
  | some o => wth (aval env o) fun a => match a with
    | .int _ i => req (0 ≤ i ∧ i ≤ hi) (R i.toNat)
    | _ => False

def app (σ : Sig) : Option (Nat × AObj) → Sig
  | none => σ
  | some (o, x) => upd σ o x

def unflat (g : Bool) (sz : Nat) : Nat → List AV → Option (List AV)
  | 0, _ => some []
  | n + 1, cs => match mkv g (cs.take sz), unflat g sz n (cs.drop sz) with
    | some a, some l => some (a :: l)
    | _, _ => none

def ifP (p : Prop) [Decidable p] (a b : Prop) (_ : Tg a := .mk) (_ : Tg b := .mk) : Prop := if p then a else b
theorem ifP_t {p : Prop} [Decidable p] {a b : Prop} {ta : Tg a} {tb : Tg b} (h : p) : ifP p a b ta tb = a := if_pos h
theorem ifP_f {p : Prop} [Decidable p] {a b : Prop} {ta : Tg a} {tb : Tg b} (h : ¬ p) : ifP p a b ta tb = b := if_neg h

def nxtQ (l : List (AV × AV)) (seen : List Nat) (over : Prop) (step : Nat → AV → AV → Prop) (_ : Tg over := .mk) (_ : Tg step := .mk) : Prop :=
  ((∀ i, i < l.length → i ∈ seen) → over) ∧ ∀ i, (h : i < l.length) → i ∉ seen → step i l[i].1 l[i].2

def kGet (t : Nat) : List (Nat × Option Nat) → Option (Option Nat)
  | [] => none
  | (a, k) :: r => if t = a then some k else kGet t r

def eqI1 : Option Nat → AV → AV → Option Bool
  | some k, a, b => eq1 k a b
  | none, .agg [], .agg [] => some true
  | _, _, _ => none

def exX (F : (Nat → Prop) → Prop) (env : Env) (σ : Sig) (R : AV → Option (Nat × AObj) → Prop) : XOp → Prop
  | .mkmap => F fun o => R (.map o) (some (o, (.map true [])))
  | .look kk z c x i => wth (aval env x) fun m => wth (aval env i) fun k => match m with
    | .map o => match σ o with
      | some (.map _ l) => req (keyOk kk k = true) (lkm (lookK kk k l) fun v => R (if c then .tup [v.getD z, .bool v.isSome] else v.getD z) none)
      | _ => False
    | .nilmap => req (keyOk kk k = true) (R (if c then .tup [z, .bool false] else z) none)
    | _ => False
  | .mset kk m k v => wth (aval env m) fun m => wth (aval env k) fun k => wth (aval env v) fun v => match m with
    | .map o => match σ o with
      | some (.map d l) => req (keyOk kk k = true) (lkm (setK kk k v l) fun l => R (.tup []) (some (o, (.map d l))))
      | _ => False
    | _ => False
  | .mdel kk m k => wth (aval env m) fun m => wth (aval env k) fun k => match m with
    | .map o => match σ o with
      | some (.map _ l) => req (keyOk kk k = true) (lkm (delK kk k l) fun l => R (.tup []) (some (o, (.map false l))))
      | _ => False
    | _ => False
  | .lenM x => wth (aval env x) fun m => match m with
    | .map o => match σ o with
      | some (.map _ l) => R (.int .i64 l.length) none
      | _ => False
    | .nilmap => R (.int .i64 0) none
    | _ => False
  | .isnil ne x => wth (aval env x) fun a => match a with
    | .slice l _ => ifnil l (R (.bool true) none ∧ R (.bool false) none) (R (.bool ne) none)
    | _ => False
  | .ment kk z m k => wth (aval env m) fun m => wth (aval env k) fun k => match m with
    | .map o => match σ o with
      | some (.map true l) => req (keyOk kk k = true) (lkm (entK kk k z l) fun r => R (.tup [r.1, .int .i64 r.2.1]) (some (o, (.map true r.2.2))))
      | _ => False
    | _ => False
  | .eset m s v => wth (aval env m) fun m => wth (aval env s) fun s => wth (aval env v) fun v => match m, s with
    | .map o, .int .i64 i => match σ o with
      | some (.map true l) => req (0 ≤ i ∧ i < l.length) (R (.tup []) (some (o, (.map true (l.modify i.toNat fun p => (p.1, v))))))
      | _ => False
    | _, _ => False
  | .tas t z c x => wth (aval env x) fun a => match a with
    | .nili => req (c = true) (R (.tup [z, .bool false]) none)
    | .iface t' v => (t' = t → R (if c then .tup [v, .bool true] else v) none) ∧ (t' ≠ t → req (c = true) (R (.tup [z, .bool false]) none))
    | _ => False
  | .bsliceG sz ps => wthL (avals env ps) fun l => req ((l.all fun x => (cellsA x).length == sz && (cellsA x).all oneA) = true) (F fun o => R (.slice l (.own o)) (some (o, (.grow sz l.length))))
  | .vmake sz bytes z g n c => wth (aval env n) fun n => wth (aval env c) fun c => wth (mkv g z) fun e => match n, c with
    | .int .i64 n, .int .i64 c => req (cellsA e = z ∧ z.all oneA = true ∧ 0 ≤ n ∧ n ≤ c ∧ c * bytes ≤ 35184372088832) (F fun o => R (.vec o n.toNat) (some (o, (.vec sz n.toNat (List.replicate n.toNat z).flatten))))
    | _, _ => False
  | .vapp sz bytes s x => wth (aval env s) fun s => wth (aval env x) fun x => match s, x with
    | .vec o len, .slice m _ => match σ o with
      | some (.vec sz' n cs) => req (sz' = sz ∧ len = n ∧ szs sz m ∧ (n + m.length) * bytes ≤ 35184372088832) (R (.vec o (n + m.length)) (some (o, (.vec sz (n + m.length) (cs ++ flat m)))))
      | _ => False
    | .pre o len n, .slice m _ => match σ o with
      | some (.vec sz' n' cs) => req (sz' = sz ∧ n = n' ∧ len ≤ n ∧ szs sz m ∧ (n + m.length) * bytes ≤ 35184372088832)
          (if len + m.length ≤ n then R (.pre o (len + m.length) n) (some (o, (.vec sz n (putAt cs (len * sz) (flat m))))) else R (.vec o (len + m.length)) (some (o, (.vec sz (len + m.length) (cs.take (len * sz) ++ flat m)))))
      | _ => False
    | .slice l t, .slice m _ => req (szs sz l ∧ szs sz m ∧ (l.length + m.length) * bytes ≤ 35184372088832) (match t with
      | .nil => ifnil m (R (.slice l .nil) none) (F fun o => R (.vec o (l.length + m.length)) (some (o, (.vec sz (l.length + m.length) (flat l ++ flat m)))))
      | .full => ifnil m (R (.slice l .full) none) (F fun o => R (.vec o (l.length + m.length)) (some (o, (.vec sz (l.length + m.length) (flat l ++ flat m)))))
      | _ => False)
    | _, _ => False
  | .vfrz g x => wth (aval env x) fun x => match x with
    | .vec o len => match σ o with
      | some (.vec sz n cs) => req (len = n ∧ (g = false → sz = 1)) (lkm (unflat g sz n cs) fun l => R (.slice l (.own o)) (some (o, (.grow sz n))))
      | _ => False
    | .pre o len n => match σ o with
      | some (.vec sz n' cs) => req (n = n' ∧ len ≤ n ∧ (g = false → sz = 1)) (lkm (unflat g sz n cs) fun l => R (.slice (l.take len) (.own o)) (some (o, (.grow sz n))))
      | _ => False
    | _ => False
  | .retok sz x => wth (aval env x) fun x => match x with
    | .slice l .full => req (szs sz l ∧ 0 < l.length) (F fun o => R (.slice l (.own o)) (some (o, (.grow sz l.length))))
    | .slice [] .nil => F fun o => R (.slice [] (.own o)) (some (o, (.grow sz 0)))
    | _ => False
  | .rng x => wth (aval env x) fun m => match m with
    | .map o => match σ o with
      | some (.map true l) => F fun it => R (.ptr it 0) (some (it, (.iter o l.length [])))
      | _ => False
    | _ => False
  | .nxt x => wth (aval env x) fun p => match p with
    | .ptr it off => match σ it with
      | some (.iter m n seen) => match σ m with
        | some (.map true l) => req (off = 0 ∧ n = l.length) (nxtQ l seen (R (.tup [.bool false]) none) fun i k v => R (.tup [.bool true, k, v]) (some (it, (.iter m n (seen ++ [i])))))
        | _ => False
      | _ => False
    | _ => False
  | .entr x => wth (aval env x) fun p => match p with
    | .ptr it off => match σ it with
      | some (.iter m n seen) => match σ m with
        | some (.map true l) => req (off = 0 ∧ n = l.length) (lkm (seen.getLast?.bind (l[·]?)) fun p => R (.tup [p.1, p.2]) none)
        | _ => False
      | _ => False
    | _ => False
  | .eqI neg tbl x y => wth (aval env x) fun a => wth (aval env y) fun b => match a, b with
    | .iface t u, .iface t' v => if t = t' then lkm (kGet t tbl) fun kk => lkm (eqI1 kk u v) fun r => R (.bool (if neg then !r else r)) none else R (.bool neg) none
    | _, _ => False
  | .bsliceV sz ps => wthL (avals env ps) fun l => req ((l.all fun x => (cellsA x).length == sz && (cellsA x).all oneA) = true) (F fun o => R (.vec o l.length) (some (o, (.vec sz l.length (flat l)))))

def exOpG (F : (Nat → Prop) → Prop) (env : Env) (σ : Sig) (R : AV → Option (Nat × AObj) → Prop) : AOp → Prop
  | .mov x => wth (aval env x) fun a => R a none
  | .pick c a b => wth (aval env c) fun p => match p with
    | .bool p => if p then wth (aval env a) fun a => R a none else wth (aval env b) fun a => R a none
    | _ => False
  | .alloc z => F fun o => R (.ptr o 0) (some (o, (.cells z)))
  | .box x => wth (aval env x) fun a => F fun o => R (.ptr o 0) (some (o, (.cells (cellsA a))))
  | .boxI x => wth (aval env x) fun a => req ((cellsA a).all oneA = true) (R (.cptr (cellsA a)) none)
  | .build z ps => match fillA env z ps with
    | some cs => R (.agg cs) none
    | none => False
  | .bslice sz ps => wthL (avals env ps) fun l => req ((l.all fun x => (cellsA x).length == sz && (cellsA x).all oneA) = true) (R (.slice l .full) none)
  | .load g n x => wth (aval env x) fun p => match p with
    | .ptr o off => match σ o with
      | some (.cells cs) => req (off + n ≤ cs.length) (wth (mkv g ((cs.drop off).take n)) fun a => R a none)
      | _ => False
    | .eptr o m off => match σ o with
      | some (.vec _ m' cs) => req (m = m' ∧ off + n ≤ cs.length) (wth (mkv g ((cs.drop off).take n)) fun a => R a none)
      | _ => False
    | .cptr cs => req (n ≤ cs.length) (wth (mkv g (cs.take n)) fun a => R a none)
    | _ => False
  | .store n p x => wth (aval env p) fun p => wth (aval env x) fun a => match p with
    | .ptr o off => match σ o with
      | some (.cells cs) => req ((cellsA a).length = n ∧ off + n ≤ cs.length ∧ (cellsA a).all oneA = true) (R (.tup []) (some (o, (.cells (putAt cs off (cellsA a))))))
      | _ => False
    | .eptr o m off => match σ o with
      | some (.vec sz m' cs) => req (m = m' ∧ (cellsA a).length = n ∧ off + n ≤ cs.length ∧ (cellsA a).all oneA = true) (R (.tup []) (some (o, (.vec sz m' (putAt cs off (cellsA a))))))
      | _ => False
    | _ => False
  | .nilchk x => wth (aval env x) fun p => match p with
    | .ptr o off => R (.ptr o off) none
    | .eptr o m off => R (.eptr o m off) none
    | .cptr cs => R (.cptr cs) none
    | .fn f a b => R (.fn f a b) none
    | _ => False
  | .bin op tb x y => wth (aval env x) fun a => wth (aval env y) fun b => wth (binA op tb a b) fun r => R r none
  | .eqs neg ks x y => wth (aval env x) fun a => wth (aval env y) fun b => match a, b with
    | .agg l, .agg m => match eqCells ks l m with
      | some r => R (.bool (if neg then !r else r)) none
      | none => False
    | _, _ => False
  | .un op x => wth (aval env x) fun a => match op, a with
    | .not, .bool b => R (.bool !b) none
    | .neg, .int k n => R (.int k (k.wrap (0 - n))) none
    | _, _ => False
  | .conv k x => wth (aval env x) fun a => match a with
    | .int _ n => R (.int k (k.wrap n)) none
    | _ => False
  | .mkfn f first caps => wthL (avals env first) fun l => wthL (avals env caps) fun m => R (.fn f l m) none
  | .fldA off x => wth (aval env x) fun p => match p with
    | .ptr o o1 => R (.ptr o (o1 + off)) none
    | .eptr o m o1 => R (.eptr o m (o1 + off)) none
    | .cptr cs => R (.cptr (cs.drop off)) none
    | _ => False
  | .fldV g off n x => wth (aval env x) fun a => match a with
    | .agg cs => req (off + n ≤ cs.length) (wth (mkv g ((cs.drop off).take n)) fun a => R a none)
    | _ => False
  | .idxS sz x i => wth (aval env x) fun s => wth (aval env i) fun i => match s, i with
    | .slice l _, .int _ i => req (0 ≤ i) (wth l[i.toNat]? fun e => req ((cellsA e).length = sz) (R (.cptr (cellsA e)) none))
    | .vec o len, .int _ i => req (0 ≤ i ∧ i < len) (R (.eptr o len (i.toNat * sz)) none)
    | .pre o len n, .int _ i => req (0 ≤ i ∧ i < len) (R (.eptr o n (i.toNat * sz)) none)
    | _, _ => False
  | .idxR sz len x i => wth (aval env x) fun s => wth (aval env i) fun i => match s, i with
    | .ptr o off, .int _ i => req (0 ≤ i ∧ i < len) (R (.ptr o (off + i.toNat * sz)) none)
    | .eptr o m off, .int _ i => req (0 ≤ i ∧ i < len) (R (.eptr o m (off + i.toNat * sz)) none)
    | .cptr cs, .int _ i => req (0 ≤ i ∧ i < len) (R (.cptr (cs.drop (i.toNat * sz))) none)
    | _, _ => False
  | .idxV g sz len x i => wth (aval env x) fun s => wth (aval env i) fun i => match s, i with
    | .agg cs, .int _ i => req (0 ≤ i ∧ i < len ∧ i.toNat * sz + sz ≤ cs.length) (wth (mkv g ((cs.drop (i.toNat * sz)).take sz)) fun a => R a none)
    | _, _ => False
  | .slc sz x lo hi mx => wth (aval env x) fun s => match s with
    | .slice l _ => req (szs sz l) (bnd env hi l.length l.length fun h => bnd env lo 0 h fun lo => match mx with
      | none => R (.slice ((l.take h).drop lo) .no) none
      | some m => req (hi.isSome = true) (wth (aval env m) fun m => match m with
        | .int _ m => req (m = h) (R (.slice ((l.take h).drop lo) .full) none)
        | _ => False))
    | .vec o len => req (lo.isSome = false ∧ mx.isSome = false) (bnd env hi len len fun h => R (.pre o h len) none)
    | .pre o len n => req (lo.isSome = false ∧ mx.isSome = false) (bnd env hi len len fun h => R (.pre o h n) none)
    | _ => False
  | .extract x i => wth (aval env x) fun a => match a with
    | .tup vs => wth vs[i]? fun a => R a none
    | _ => False
  | .call _ _ => False
  | .len x => wth (aval env x) fun a => match a with
    | .slice l _ => R (.int .i64 l.length) none
    | .vec _ n => R (.int .i64 n) none
    | .pre _ len _ => R (.int .i64 len) none
    | _ => False
  | .lenS x => wth (aval env x) fun a => match a with
    | .str s => R (.int .i64 s.size) none
    | _ => False
  | .cap x => wth (aval env x) fun a => match a with
    | .slice l .full => R (.int .i64 l.length) none
    | .slice _ .nil => R (.int .i64 0) none
    | _ => False
  | .append sz bytes s x => wth (aval env s) fun s => wth (aval env x) fun x => match s, x with
    | .slice l t, .slice m _ => req (szs sz l ∧ szs sz m ∧ (l.length + m.length) * bytes ≤ 35184372088832) (match t with
      | .no => False
      | .nil => ifnil m (R (.slice l .nil) none) (F fun o => R (.slice (l ++ m) (.own o)) (some (o, (.grow sz (l ++ m).length))))
      | .full => ifnil m (R (.slice l .full) none) (F fun o => R (.slice (l ++ m) (.own o)) (some (o, (.grow sz (l ++ m).length))))
      | .own o => req (σ o = some (.grow sz l.length)) (R (.slice (l ++ m) (.own o)) (some (o, (.grow sz (l ++ m).length)))))
    | _, _ => False
  | .appz sz bytes s x => wth (aval env s) fun s => wth (aval env x) fun x => match s, x with
    | .slice l .nil, .int .i64 n => req (l = [] ∧ 0 < n ∧ n * bytes ≤ 35184372088832) (F fun o => R (.raw o n.toNat) (some (o, (.grow sz 0))))
    | _, _ => False
  | .slcN _ x lo hi mx => wth (aval env x) fun s => match s with
    | .slice l .nil => req (l = [] ∧ mx.isSome = false) (bnd env hi 0 0 fun _ => bnd env lo 0 0 fun _ => R (.slice [] .nil) none)
    | _ => False
  | .slcR _ x lo hi mx => wth (aval env x) fun s => match s with
    | .raw o len => req (lo.isSome = false ∧ hi.isSome = true ∧ mx.isSome = false) (bnd env hi len len fun h => req (h = 0) (R (.slice [] (.own o)) none))
    | _ => False
  | .min xs => wthL (avals env xs) fun l => match minI l with
    | some r => R (.int .i64 r) none
    | none => False
  | .max xs => wthL (avals env xs) fun l => match maxI l with
    | some r => R (.int .i64 r) none
    | none => False
  | .mkslice sz bytes z g n c => wth (aval env n) fun n => wth (aval env c) fun c => wth (mkv g z) fun e => match n, c with
    | .int .i64 n, .int .i64 c => req (cellsA e = z ∧ z.all oneA = true ∧ 0 ≤ n ∧ n ≤ c ∧ c * bytes ≤ 35184372088832) (F fun o => R (.slice (List.replicate n.toNat e) (.own o)) (some (o, (.grow sz n.toNat))))
    | _, _ => False
  | .mkiface t x => wth (aval env x) fun a => R (.iface t a) none
  | .panic _ => False
  | .ext x => exX F env σ R x

def exOp (env : Env) (σ : Sig) (R : AV → Sig → Prop) (op : AOp) : Prop := exOpG (fun k => fresh σ k) env σ (fun v e => R v (app σ e)) op
def exOpN (nm : Nat) (env : Env) (σ : Sig) (R : AV → Option (Nat × AObj) → Prop) (op : AOp) : Prop := exOpG (fun k => k nm) env σ R op

/-! ### The translation -/

def ofFlat : Value → Option AV
  | .int k n => some (.int k n)
  | .bool b => some (.bool b)
  | .string s => some (.str s)
  | .pointer none => some .nilp
  | .slice none 0 0 => some (.slice [] .nil)
  | .map none => some .nilmap
  | .nilFunc => some .nilfn
  | .nilIface => some .nili
  | _ => none

def ofFlats : List Value → Option (List AV)
  | [] => some []
  | v :: r => match ofFlat v, ofFlats r with
    | some a, some l => some (a :: l)
    | _, _ => none

def ofValue : Value → Option AV
  | .agg cs => (ofFlats cs.toList).map .agg
  | v => ofFlat v

def trOpnd : Operand → Option AOpnd
  | .tmp t => some (.t t)
  | .const v => (ofValue v).map .c
  | .global _ => none
  | .func f => some (.c (.fn f [] []))

def trOpnds : List Operand → Option (List AOpnd)
  | [] => some []
  | x :: r => match trOpnd x, trOpnds r with
    | some a, some l => some (a :: l)
    | _, _ => none

def trOpt : Option Operand → Option (Option AOpnd)
  | none => some none
  | some x => (trOpnd x).map some

def szOf (P : Program) (t : TypeId) : Option Nat := (P.info? t).map (·.size)

def aggOf (P : Program) (t : TypeId) : Option Bool :=
  match P.underlying t with
  | some (.struct _) => some true
  | some (.array _ _) => some true
  | some _ => some false
  | none => none

def readOf (P : Program) (t : TypeId) : Option (Bool × Nat) :=
  match aggOf P t, szOf P t with
  | some g, some n => if g || n == 1 then some (g, n) else none
  | _, _ => none

def zeroOf (P : Program) (t : TypeId) : Option (List AV) :=
  match (P.info? t).bind (·.zero) with
  | some z => ofFlats z.cells.toList
  | none => none

def trFields (P : Program) (fs : Array Field) : List (Nat × Operand) → Option (List (Nat × Nat × AOpnd))
  | [] => some []
  | (i, x) :: r =>
    match fs[i]?, trOpnd x, trFields P fs r with
    | some f, some a, some l => match szOf P f.type with
      | some n => some ((f.offset, n, a) :: l)
      | none => none
    | _, _, _ => none

def trElems (sz : Nat) : List (Nat × Operand) → Option (List (Nat × Nat × AOpnd))
  | [] => some []
  | (i, x) :: r =>
    match trOpnd x, trElems sz r with
    | some a, some l => some ((i * sz, sz, a) :: l)
    | _, _ => none

def trParts : Nat → List (Nat × Operand) → Option (List AOpnd)
  | _, [] => some []
  | k, (i, x) :: r => if i = k then
      match trOpnd x, trParts (k + 1) r with
      | some a, some l => some (a :: l)
      | _, _ => none
    else none

def isBool (P : Program) (t : TypeId) : Bool :=
  match P.underlying t with
  | some .bool => true
  | _ => false

def plain1 (P : Program) (t : TypeId) : Bool :=
  match P.underlying t with
  | some (.int _) => true
  | some .bool => true
  | some .string => true
  | _ => false

def kindOf (P : Program) (t : TypeId) : Option Nat :=
  match P.underlying t with
  | some (.int _) => some 0
  | some .bool => some 1
  | some .string => some 2
  | _ => none

def fieldKinds (P : Program) : Nat → List Field → Option (List Nat)
  | _, [] => some []
  | i, f :: fs => if f.offset = i ∧ f.name ≠ "_" then
      match kindOf P f.type, fieldKinds P (i + 1) fs with
      | some k, some ks => some (k :: ks)
      | _, _ => none
    else none

def plainEq (P : Program) (t : TypeId) : Option (List Nat) :=
  match P.underlying t with
  | some (.struct fs) => if P.stoodInHeld t = false ∧ P.eqGuardType P.depth t = false then fieldKinds P 0 fs.toList else none
  | some (.array n e) => if P.eqGuardType P.depth t = false ∧ szOf P e = some 1 ∧ n ≤ 64 then (kindOf P e).map fun k => List.replicate n k else none
  | _ => none

def isIntTy (P : Program) (t : TypeId) : Bool :=
  match P.underlying t with
  | some (.int _) => true
  | _ => false

def kkOf (P : Program) (k : TypeId) : Option KK :=
  match kindOf P k with
  | some n => some (.one n)
  | none => (plainEq P k).map .row

def zeroAV (P : Program) (e : TypeId) : Option AV :=
  match (P.info? e).bind (·.zero) with
  | some z => ofValue z
  | none => none

def trBuiltin (P : Program) (b : Builtin) (args : List Operand) (types : List TypeId) : Option AOp :=
  match b with
  | .len => match args, types with
    | [x], [t] => match P.underlying t, trOpnd x with
      | some (.array n _), some _ => some (.mov (.c (.int .i64 n)))
      | some (.slice _), some x => some (.len x)
      | some (.map _ _), some x => some (.ext (.lenM x))
      | some .string, some x => some (.lenS x)
      | _, _ => none
    | _, _ => none
  | .cap => match args, types with
    | [x], [t] => match P.underlying t, trOpnd x with
      | some (.slice _), some x => some (.cap x)
      | _, _ => none
    | _, _ => none
  | .append => match args, types with
    | [s, x], [t, u] => match P.underlying t, trOpnd s, trOpnd x with
      | some (.slice e), some s, some x => match P.info? e, zeroOf P e with
        | some i, some z => if 0 < i.size ∧ 0 < i.bytes ∧ i.bytes ≤ 4096 ∧ z.length = i.size ∧ t = u then some (.append i.size i.bytes s x)
          else if 0 < i.size ∧ 0 < i.bytes ∧ i.bytes ≤ 4096 ∧ z.length = i.size ∧ isIntTy P u = true then some (.appz i.size i.bytes s x) else none
        | _, _ => none
      | _, _, _ => none
    | _, _ => none
  | .min => (trOpnds args).map .min
  | .max => (trOpnds args).map .max
  | .delete => match args, types with
    | [m, k], [t, _] => match P.underlying t, trOpnd m, trOpnd k with
      | some (.map kt _), some m, some k => (kkOf P kt).map fun kk => .ext (.mdel kk m k)
      | _, _, _ => none
    | _, _ => none
  | _ => none

def okRecv (P : Program) (t : TypeId) : Bool := match P.underlying t with
  | some .bool => true
  | some (.int _) => true
  | some .string => true
  | some (.struct _) => true
  | _ => false

def methTbl (P : Program) (name : String) : List (Nat × Nat) :=
  (List.range P.types.size).filterMap fun t => match P.info? t with
    | some i => match i.methods.find? (·.name == name) with
      | some m => if m.path.isEmpty then match m.func with
        | some (f, false) => if okRecv P t then some (t, f) else none
        | _ => none
        else none
      | none => none
    | none => none

def cmpTbl (P : Program) (t : TypeId) : List (Nat × Option Nat) :=
  match P.underlying t with
  | some (.interface ms) => (List.range P.types.size).filterMap fun u => match P.info? u with
    | some i => if i.comparable && ms.all (fun m => i.methods.any (·.name == m.1)) then
        match kindOf P u with
        | some k => some (u, some k)
        | none => match P.underlying u with
          | some (.struct fs) => if fs.isEmpty && !P.stoodInHeld u then some (u, none) else none
          | _ => none
      else none
    | none => none
  | _ => []

def isIfaceT (P : Program) (t : TypeId) : Bool := match P.underlying t with
  | some (.interface _) => true
  | _ => false

def trCall (P : Program) (c : Call) : Option AOp :=
  match c.callee with
  | .value f => match trOpnd f, trOpnds c.args.toList with
    | some f, some l => some (.call f l)
    | _, _ => none
  | .builtin b => trBuiltin P b c.args.toList c.argTypes.toList
  | .invoke (.tmp r) name => (trOpnds c.args.toList).map (.call (.m r (methTbl P name)))
  | .invoke _ _ => none

def isSl (P : Program) (t : TypeId) : Bool := match P.underlying t with
  | some (.slice _) => true
  | _ => false
def isNilC : AOpnd → Bool
  | .c (.slice [] .nil) => true
  | _ => false
def trOp (P : Program) : Op → Option AOp
  | .move x => (trOpnd x).map .mov
  | .assign x => (trOpnd x).map .mov
  | .pick c a b => match trOpnd c, trOpnd a, trOpnd b with
    | some c, some a, some b => some (.pick c a b)
    | _, _, _ => none
  | .alloc e => (zeroOf P e).map .alloc
  | .box _ x => (trOpnd x).map .box
  | .build t ps => match P.underlying t, zeroOf P t with
    | some (.struct fs), some z => if fs.toList.all (fun f => (szOf P f.type).isSome) then (trFields P fs ps.toList).map (.build z) else none
    | some (.array _ e), some z => match szOf P e with
      | some sz => (trElems sz ps.toList).map (.build z)
      | none => none
    | _, _ => none
  | .buildSlice t len ps => match P.underlying t with
    | some (.slice e) => match szOf P e with
      | some sz => if len = ps.size ∧ len * sz ≤ 65536 ∧ (zeroOf P e).isSome then (trParts 0 ps.toList).map (.bslice sz) else none
      | none => none
    | _ => none
  | .load t x => match readOf P t, trOpnd x with
    | some (g, n), some x => some (.load g n x)
    | _, _ => none
  | .store t a x => match szOf P t, trOpnd a, trOpnd x with
    | some n, some a, some x => some (.store n a x)
    | _, _, _ => none
  | .nilCheck x => (trOpnd x).map .nilchk
  | .binOp op t x y _ => match trOpnd x, trOpnd y with
    | some x, some y =>
      match op with
      | .eql => if plain1 P t then some (.bin op (isBool P t) x y) else if isSl P t && isNilC y then some (.ext (.isnil false x)) else if isIfaceT P t then some (.ext (.eqI false (cmpTbl P t) x y)) else (plainEq P t).map fun n => .eqs false n x y
      | .neq => if plain1 P t then some (.bin op (isBool P t) x y) else if isSl P t && isNilC y then some (.ext (.isnil true x)) else if isIfaceT P t then some (.ext (.eqI true (cmpTbl P t) x y)) else (plainEq P t).map fun n => .eqs true n x y
      | _ => some (.bin op false x y)
    | _, _ => none
  | .unOp op _ x => (trOpnd x).map (.un op)
  | .convert s d x => match P.underlying s, P.underlying d, trOpnd x with
    | some (.int _), some (.int k), some x => some (.conv k x)
    | _, _, _ => none
  | .makeInterface t x => match P.underlying t with
    | some (.interface _) => none
    | some _ => (trOpnd x).map (.mkiface t)
    | none => none
  | .makeFunc (.func f) first caps => match trOpnds first.toList, trOpnds caps.toList with
    | some a, some b => some (.mkfn f a b)
    | _, _ => none
  | .makeSlice t l c => match P.underlying t with
    | some (.slice e) => match P.info? e, readOf P e, zeroOf P e, trOpnd l, trOpnd c with
      | some i, some (g, n), some z, some l, some c => if z.length = n ∧ 0 < n ∧ 0 < i.bytes then some (.mkslice n i.bytes z g l c) else none
      | _, _, _, _, _ => none
    | _ => none
  | .slice t x lo hi mx => match P.underlying t with
    | some (.slice e) => match szOf P e, trOpnd x, trOpt lo, trOpt hi, trOpt mx with
      | some sz, some x, some lo, some hi, some mx => some (.slc sz x lo hi mx)
      | _, _, _, _, _ => none
    | _ => none
  | .fieldAddr s x f => match P.underlying s, trOpnd x with
    | some (.struct fs), some x => match fs[f]? with
      | some f => match szOf P f.type with
        | some n => if n = 0 then none else some (.fldA f.offset x)
        | none => none
      | none => none
    | _, _ => none
  | .field s x f => match P.underlying s, trOpnd x with
    | some (.struct fs), some x => match fs[f]? with
      | some f => (readOf P f.type).map fun (g, n) => .fldV g f.offset n x
      | none => none
    | _, _ => none
  | .indexAddr t x i => match P.underlying t, trOpnd x, trOpnd i with
    | some (.slice e), some x, some i => (szOf P e).map fun sz => .idxS sz x i
    | some (.array n e), some x, some i => (szOf P e).map fun sz => .idxR sz n x i
    | _, _, _ => none
  | .index t x i => match P.underlying t, trOpnd x, trOpnd i with
    | some (.array n e), some x, some i => (readOf P e).map fun (g, sz) => .idxV g sz n x i
    | _, _, _ => none
  | .extract x i => (trOpnd x).map (.extract · i)
  | .call c => trCall P c
  | .panic x => (trOpnd x).map .panic
  | .makeMap _ none => some (.ext .mkmap)
  | .lookup t x i c => match P.underlying t, trOpnd x, trOpnd i with
    | some (.map k e), some x, some i => match kkOf P k, zeroAV P e with
      | some kk, some z => some (.ext (.look kk z c x i))
      | _, _ => none
    | _, _, _ => none
  | .mapUpdate t m k v => match P.underlying t, trOpnd m, trOpnd k, trOpnd v with
    | some (.map kt _), some m, some k, some v => (kkOf P kt).map fun kk => .ext (.mset kk m k v)
    | _, _, _, _ => none
  | .insert t m k v => match P.underlying t, trOpnd m, trOpnd k, trOpnd v with
    | some (.map kt _), some m, some k, some v => (kkOf P kt).map fun kk => .ext (.mset kk m k v)
    | _, _, _, _ => none
  | .mapEntry t m k => match P.underlying t, trOpnd m, trOpnd k with
    | some (.map kt e), some m, some k => match kkOf P kt, zeroAV P e with
      | some kk, some z => some (.ext (.ment kk z m k))
      | _, _ => none
    | _, _, _ => none
  | .entryStore _ m s v => match trOpnd m, trOpnd s, trOpnd v with
    | some m, some s, some v => some (.ext (.eset m s v))
    | _, _, _ => none
  | .typeAssert x _ t c => match P.underlying t with
    | some (.interface _) => none
    | some _ => match trOpnd x, zeroAV P t with
      | some x, some z => some (.ext (.tas t z c x))
      | _, _ => none
    | none => none
  | .range t x => match P.underlying t, trOpnd x with
    | some (.map _ _), some x => some (.ext (.rng x))
    | _, _ => none
  | .next it b => if b then none else (trOpnd it).map fun x => .ext (.nxt x)
  | .entry it => (trOpnd it).map fun x => .ext (.entr x)
  | _ => none

def AOp.bare : AOp → AOp
  | .boxI x => .box x
  | .slcN s x a b c => .slc s x a b c
  | .slcR s x a b c => .slc s x a b c
  | .ext (.bsliceG sz ps) => .bslice sz ps
  | .ext (.bsliceV sz ps) => .bslice sz ps
  | .ext (.vmake sz b z g l c) => .mkslice sz b z g l c
  | .ext (.vapp sz b s x) => .append sz b s x
  | .ext (.vfrz _ x) => .mov x
  | .ext (.retok _ x) => .mov x
  | o => o

def AInst.bare (i : AInst) : AInst := { i with op := i.op.bare }

def ACode.bare : ACode → ACode
  | .skip => .skip
  | .reg is => .reg (is.map AInst.bare)
  | .drw is ps => .drw (is.map AInst.bare) ps
  | .seq a b => .seq a.bare b.bare
  | .cut a b => .seq a.bare b.bare
  | .cond c a b => .cond c a.bare b.bare
  | .block id a => .block id a.bare
  | .loop a => .loop a.bare
  | .exit id => .exit id
  | .ret => .ret

end Abs
