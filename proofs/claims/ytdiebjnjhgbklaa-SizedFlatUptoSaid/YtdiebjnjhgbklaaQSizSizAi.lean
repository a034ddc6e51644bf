/- sized: the law of designs. -/
import Derived.Test.YtdiebjnjhgbklaaRows
import Derived.Test.YtdiebjnjhgbklaaQAigArg
set_option linter.unusedSimpArgs false
set_option linter.unusedVariables false
namespace Fil.Sz
open Abs Go
theorem cells_int {P : Program} {g : Nat} {t : TypeId} {k : IntKind} {cs : List AV} (hu : P.underlying t = some (.int k)) (h : Cells P g t cs) : ∃ n, cs = [.int k n] ∧ k.min ≤ n ∧ n ≤ k.max := by
 cases g with
 | zero => exact h.elim
 | succ g => simp only [Cells, hu] at h; exact h
theorem cells_bool {P : Program} {g : Nat} {t : TypeId} {cs : List AV} (hu : P.underlying t = some .bool) (h : Cells P g t cs) : ∃ b, cs = [.bool b] := by
 cases g with
 | zero => exact h.elim
 | succ g => simp only [Cells, hu] at h; exact h
theorem cells_str {P : Program} {g : Nat} {t : TypeId} {cs : List AV} (hu : P.underlying t = some .string) (h : Cells P g t cs) : ∃ s : ByteArray, cs = [.str s] ∧ s.size ≤ maxLen := by
 cases g with
 | zero => exact h.elim
 | succ g => simp only [Cells, hu] at h; exact h
theorem cells_slice {P : Program} {g : Nat} {t e : TypeId} {cs : List AV} (hu : P.underlying t = some (.slice e)) (h : Cells P g t cs) :
  ∃ g', g' < g ∧ ∃ l, cs = [.slice l .no] ∧ l.length ≤ maxLen ∧ ∀ x ∈ l, ∃ es, mkv (isAgg P e) es = some x ∧ Cells P g' e es := by
 cases g with
 | zero => exact h.elim
 | succ g => simp only [Cells, hu] at h; exact ⟨g, Nat.lt_succ_self _, h⟩
def Str (P : Program) (t : TypeId) (l : List TypeId) : Prop := ∃ fs, P.underlying t = some (.struct fs) ∧ fs.toList.map (·.type) = l
theorem cells_struct {P : Program} {g : Nat} {t : TypeId} {l : List TypeId} {cs : List AV} (hu : Str P t l) (h : Cells P g t cs) : ∃ g', g' < g ∧ CellsL (Cells P g') l cs := by
 obtain ⟨fs, hu, rfl⟩ := hu
 cases g with
 | zero => exact h.elim
 | succ g => simp only [Cells, hu] at h; exact ⟨g, Nat.lt_succ_self _, h⟩
theorem str_agg {P : Program} {t : TypeId} {l : List TypeId} (h : Str P t l) : isAgg P t = true := by
 obtain ⟨fs, hu, _⟩ := h
 simp only [Abs.isAgg, hu]
theorem mkv_agg {es : List AV} {x : AV} (h : mkv true es = some x) : x = .agg es := by
 simp [mkv] at h; exact h.symm
theorem map_of {α : Type} {f : α → AV} {p : α → Prop} : ∀ {l : List AV}, (∀ x ∈ l, ∃ y, x = f y ∧ p y) → ∃ m : List α, l = m.map f ∧ ∀ y ∈ m, p y
 | [], _ => ⟨[], rfl, by simp⟩
 | x :: l, h => by
  obtain ⟨y, rfl, hy⟩ := h x (by simp)
  obtain ⟨m, rfl, hm⟩ := map_of (l := l) fun z hz => h z (by simp [hz])
  exact ⟨y :: m, rfl, by
   intro z hz
   rcases List.mem_cons.1 hz with rfl | hz
   ·exact hy
   ·exact hm z hz⟩
theorem u64_min : IntKind.u64.min = 0 := by decide
theorem u64_max : IntKind.u64.max = 18446744073709551615 := by decide
theorem U64_of {n : Int} (h : IntKind.u64.min ≤ n ∧ n ≤ IntKind.u64.max) : U64 n := by rw [u64_min, u64_max] at h; exact h
structure Tys (P : Program) where
 (i u b s e es t ts sg sgs p ps k ks : TypeId)
 hi : P.underlying i = some (.int .i64)
 hu : P.underlying u = some (.int .u64)
 hb : P.underlying b = some .bool
 hs : P.underlying s = some .string
 he : Str P e [i, i, u, i, i, i, i, es]
 hes : P.underlying es = some (.slice e)
 ht : Str P t [i, i, i, i, es, ts]
 hts : P.underlying ts = some (.slice t)
 hsg : Str P sg [s, i, i, u]
 hsgs : P.underlying sgs = some (.slice sg)
 hp : Str P p [b, ts]
 hps : P.underlying ps = some (.slice p)
 hk : Str P k [s, e]
 hks : P.underlying ks = some (.slice k)
variable {P : Program} (Y : Tys P)
include Y
theorem cells_i {g : Nat} {cs : List AV} (h : Cells P g Y.i cs) : ∃ n, cs = [.int .i64 n] ∧ I64 n := by
 obtain ⟨n, e, hn⟩ := cells_int Y.hi h; exact ⟨n, e, I64_of hn⟩
theorem cells_u {g : Nat} {cs : List AV} (h : Cells P g Y.u cs) : ∃ n, cs = [.int .u64 n] ∧ U64 n := by
 obtain ⟨n, e, hn⟩ := cells_int Y.hu h; exact ⟨n, e, U64_of hn⟩
theorem cells_E : ∀ (g : Nat) {t : TypeId} {cs : List AV}, Str P t [Y.i, Y.i, Y.u, Y.i, Y.i, Y.i, Y.i, Y.es] → Cells P g t cs → ∃ e, cs = eL e ∧ WfE e := by
 intro g
 induction g using Nat.strongRecOn with
 | ind g ih =>
  intro t cs hst h
  obtain ⟨g1, hg1, h⟩ := cells_struct hst h
  obtain ⟨_, _, rfl, a1, _, _, rfl, a2, _, _, rfl, a3, _, _, rfl, a4, _, _, rfl, a5, _, _, rfl, a6, _, _, rfl, a7, _, _, rfl, a8, rfl⟩ := h
  obtain ⟨n1, rfl, b1⟩ := cells_i Y a1
  obtain ⟨n2, rfl, b2⟩ := cells_i Y a2
  obtain ⟨n3, rfl, b3⟩ := cells_u Y a3
  obtain ⟨n4, rfl, b4⟩ := cells_i Y a4
  obtain ⟨n5, rfl, b5⟩ := cells_i Y a5
  obtain ⟨n6, rfl, b6⟩ := cells_i Y a6
  obtain ⟨n7, rfl, b7⟩ := cells_i Y a7
  obtain ⟨g2, hg2, l, rfl, _, hl⟩ := cells_slice Y.hes a8
  obtain ⟨m, rfl, hm⟩ := map_of (f := encE) (p := WfE) (l := l) fun x hx => by
   obtain ⟨es, h1, h2⟩ := hl x hx
   rw [str_agg Y.he] at h1
   obtain rfl := mkv_agg h1
   obtain ⟨e, rfl, he⟩ := ih g2 (by omega) Y.he h2
   exact ⟨e, rfl, he⟩
  refine ⟨.mk n1 n2 n3 n4 n5 n6 n7 m, ?_, (WfE_iff _).2 ⟨⟨b1, b2, b3, b4, b5, b6, b7⟩, hm⟩⟩
  simp only [eL, encEs_eq, E.op, E.w, E.v, E.sig, E.hi, E.lo, E.n, E.l]
  rfl
theorem cells_Es {g : Nat} {cs : List AV} (h : Cells P g Y.es cs) : ∃ m : List E, cs = [.slice (m.map encE) .no] ∧ ∀ x ∈ m, WfE x := by
 obtain ⟨g2, hg2, l, rfl, _, hl⟩ := cells_slice Y.hes h
 obtain ⟨m, rfl, hm⟩ := map_of (f := encE) (p := WfE) (l := l) fun x hx => by
  obtain ⟨es, h1, h2⟩ := hl x hx
  rw [str_agg Y.he] at h1
  obtain rfl := mkv_agg h1
  obtain ⟨e, rfl, he⟩ := cells_E Y g2 Y.he h2
  exact ⟨e, rfl, he⟩
 exact ⟨m, rfl, hm⟩
theorem cells_T : ∀ (g : Nat) {cs : List AV}, Cells P g Y.t cs → ∃ t, cs = tL t ∧ WfT t := by
 intro g
 induction g using Nat.strongRecOn with
 | ind g ih =>
  intro cs h
  obtain ⟨g1, hg1, h⟩ := cells_struct Y.ht h
  obtain ⟨_, _, rfl, a1, _, _, rfl, a2, _, _, rfl, a3, _, _, rfl, a4, _, _, rfl, a5, _, _, rfl, a8, rfl⟩ := h
  obtain ⟨n1, rfl, b1⟩ := cells_i Y a1
  obtain ⟨n2, rfl, b2⟩ := cells_i Y a2
  obtain ⟨n3, rfl, b3⟩ := cells_i Y a3
  obtain ⟨n4, rfl, b4⟩ := cells_i Y a4
  obtain ⟨m5, rfl, b5⟩ := cells_Es Y a5
  obtain ⟨g2, hg2, l, rfl, _, hl⟩ := cells_slice Y.hts a8
  obtain ⟨m, rfl, hm⟩ := map_of (f := encT) (p := WfT) (l := l) fun x hx => by
   obtain ⟨es, h1, h2⟩ := hl x hx
   rw [str_agg Y.ht] at h1
   obtain rfl := mkv_agg h1
   obtain ⟨e, rfl, he⟩ := ih g2 (by omega) h2
   exact ⟨e, rfl, he⟩
  refine ⟨.mk n1 n2 n3 n4 m5 m, ?_, (WfT_iff _).2 ⟨⟨b1, b2, b3, b4⟩, b5, hm⟩⟩
  simp only [tL, encTs_eq, T.op, T.sig, T.hi, T.lo, T.e, T.l]
  rfl
theorem cells_Ts {g : Nat} {cs : List AV} (h : Cells P g Y.ts cs) : ∃ m : List T, cs = [.slice (m.map encT) .no] ∧ ∀ x ∈ m, WfT x := by
 obtain ⟨g2, hg2, l, rfl, _, hl⟩ := cells_slice Y.hts h
 obtain ⟨m, rfl, hm⟩ := map_of (f := encT) (p := WfT) (l := l) fun x hx => by
  obtain ⟨es, h1, h2⟩ := hl x hx
  rw [str_agg Y.ht] at h1
  obtain rfl := mkv_agg h1
  obtain ⟨e, rfl, he⟩ := cells_T Y g2 h2
  exact ⟨e, rfl, he⟩
 exact ⟨m, rfl, hm⟩
theorem cells_D {g : Nat} {t : TypeId} {cs : List AV} (ht : Str P t [Y.sgs, Y.ps, Y.ks]) (h : Cells P g t cs) : ∃ d, cs = dL d ∧ WfD d := by
 obtain ⟨g1, hg1, h⟩ := cells_struct ht h
 obtain ⟨_, _, rfl, a1, _, _, rfl, a2, _, _, rfl, a3, rfl⟩ := h
 obtain ⟨g2, hg2, l, rfl, _, hl⟩ := cells_slice Y.hsgs a1
 obtain ⟨m1, rfl, hm1⟩ := map_of (f := encS) (p := WfS) (l := l) fun x hx => by
  obtain ⟨es, h1, h2⟩ := hl x hx
  rw [str_agg Y.hsg] at h1
  obtain rfl := mkv_agg h1
  obtain ⟨g3, _, h2⟩ := cells_struct Y.hsg h2
  obtain ⟨_, _, rfl, c1, _, _, rfl, c2, _, _, rfl, c3, _, _, rfl, c4, rfl⟩ := h2
  obtain ⟨s, rfl, _⟩ := cells_str Y.hs c1
  obtain ⟨n2, rfl, b2⟩ := cells_i Y c2
  obtain ⟨n3, rfl, b3⟩ := cells_i Y c3
  obtain ⟨n4, rfl, b4⟩ := cells_u Y c4
  exact ⟨⟨s, n2, n3, n4⟩, rfl, b2, b3, b4⟩
 obtain ⟨g2, hg2, l, rfl, _, hl⟩ := cells_slice Y.hps a2
 obtain ⟨m2, rfl, hm2⟩ := map_of (f := encP) (p := fun p => ∀ t ∈ p.l, WfT t) (l := l) fun x hx => by
  obtain ⟨es, h1, h2⟩ := hl x hx
  rw [str_agg Y.hp] at h1
  obtain rfl := mkv_agg h1
  obtain ⟨g3, _, h2⟩ := cells_struct Y.hp h2
  obtain ⟨_, _, rfl, c1, _, _, rfl, c2, rfl⟩ := h2
  obtain ⟨b, rfl⟩ := cells_bool Y.hb c1
  obtain ⟨m, rfl, hm⟩ := cells_Ts Y c2
  exact ⟨⟨b, m⟩, rfl, hm⟩
 obtain ⟨g2, hg2, l, rfl, _, hl⟩ := cells_slice Y.hks a3
 obtain ⟨m3, rfl, hm3⟩ := map_of (f := encC) (p := fun c => WfE c.e) (l := l) fun x hx => by
  obtain ⟨es, h1, h2⟩ := hl x hx
  rw [str_agg Y.hk] at h1
  obtain rfl := mkv_agg h1
  obtain ⟨g3, _, h2⟩ := cells_struct Y.hk h2
  obtain ⟨_, _, rfl, c1, _, _, rfl, c2, rfl⟩ := h2
  obtain ⟨s, rfl, _⟩ := cells_str Y.hs c1
  obtain ⟨e, rfl, he⟩ := cells_E Y g3 Y.he c2
  exact ⟨⟨s, e⟩, by simp [encC], he⟩
 exact ⟨⟨m1, m2, m3⟩, rfl, hm1, hm2, hm3⟩
omit Y

/-! ### How much -/
theorem szAs_map {α : Type} (f : α → AV) (l : List α) : szAs (l.map f) = (l.map fun x => szA (f x)).sum := by
 induction l with
 | nil => simp [szAs]
 | cons a l ih => simp [szAs, ih]
theorem sum_mono_m {α : Type} {f h : α → Nat} {l : List α} (q : ∀ x ∈ l, f x ≤ h x) : (l.map f).sum ≤ (l.map h).sum := by
 induction l with
 | nil => simp
 | cons a l ih =>
  have h1 := q a (by simp)
  have h2 := ih fun x hx => q x (by simp [hx])
  simp only [List.map_cons, List.sum_cons]; omega
theorem nodes_sz (e : E) : nodes e ≤ szAs (eL e) := by
 refine E.ind (P := fun e => nodes e ≤ szAs (eL e)) (fun e ih => ?_) e
 have h1 : (e.l.map nodes).sum ≤ szAs (encEs e) := by
  rw [encEs_eq, szAs_map]
  refine sum_mono_m fun x hx => ?_
  have := ih x hx
  simp only [encE, szA]; omega
 rw [nodes_eq]
 simp only [eL, szAs, szA] at h1 ⊢
 omega
theorem nodesT_sz (t : T) : nodesT t ≤ szAs (tL t) := by
 refine T.ind (P := fun t => nodesT t ≤ szAs (tL t)) (fun t ih => ?_) t
 have h1 : (t.l.map nodesT).sum ≤ szAs (encTs t) := by
  rw [encTs_eq, szAs_map]
  refine sum_mono_m fun x hx => ?_
  have := ih x hx
  simp only [encT, szA]; omega
 have h2 : (t.e.map nodes).sum ≤ szAs (t.e.map encE) := by
  rw [szAs_map]
  refine sum_mono_m fun x hx => ?_
  have := nodes_sz x
  simp only [encE, szA]; omega
 rw [nodesT_eq]
 simp only [tL, szAs, szA] at h1 h2 ⊢
 omega
theorem len_szAs {α : Type} (f : α → AV) (l : List α) : l.length ≤ szAs (l.map f) := by
 induction l with
 | nil => simp
 | cons a l ih =>
  have : 1 ≤ szA (f a) := by cases f a <;> simp [szA]
  simp only [List.map_cons, szAs, List.length_cons]; omega
theorem sm_sz {d : Flat} (h : szAs (dL d) ≤ 16777216) : d.sigs.length ≤ 16777216 ∧ d.procs.length ≤ 16777216 ∧ d.chks.length ≤ 16777216 ∧ nodesD d ≤ 16777216 := by
 simp only [dL, szAs, szA] at h
 have h1 := len_szAs encS d.sigs
 have h2 := len_szAs encP d.procs
 have h3 := len_szAs encC d.chks
 have h4 : (d.procs.map nodesP).sum ≤ szAs (d.procs.map encP) := by
  rw [szAs_map]
  refine sum_mono_m fun p hp => ?_
  have : (p.l.map nodesT).sum ≤ szAs (p.l.map encT) := by
   rw [szAs_map]
   refine sum_mono_m fun x hx => ?_
   have := nodesT_sz x
   simp only [encT, szA]; omega
  unfold nodesP
  simp only [encP, szA, szAs]; omega
 have h5 : (d.chks.map fun c => nodes c.e).sum ≤ szAs (d.chks.map encC) := by
  rw [szAs_map]
  refine sum_mono_m fun c hc => ?_
  have := nodes_sz c.e
  simp only [encC, szA, szAs] at this ⊢; omega
 refine ⟨by omega, by omega, by omega, ?_⟩
 unfold nodesD; omega
end Fil.Sz

namespace Go.Proofs.Ytdiebjnjhgbklaa
open Abs Fil Fil.Sz
def tys : Tys Try.prog where
 i := 3
 u := 27
 b := 4
 s := 9
 e := 30
 es := 28
 t := 58
 ts := 54
 sg := 71
 sgs := 22
 p := 56
 ps := 23
 k := 80
 ks := 24
 hi := Try.underlying3
 hu := Try.underlying27
 hb := Try.underlying4
 hs := Try.underlying9
 he := ⟨_, Try.underlying30, rfl⟩
 hes := Try.underlying28
 ht := ⟨_, Try.underlying58, rfl⟩
 hts := Try.underlying54
 hsg := ⟨_, Try.underlying71, rfl⟩
 hsgs := Try.underlying22
 hp := ⟨_, Try.underlying56, rfl⟩
 hps := Try.underlying23
 hk := ⟨_, Try.underlying80, rfl⟩
 hks := Try.underlying24
def plainTys : List TypeId := [3, 4, 9, 27, 22, 23, 24, 26, 28, 30, 54, 56, 58, 71, 80]
theorem plain_ok : plainAll Try.prog plainTys = true := by kernel_rfl
theorem str_D : Str Try.prog 26 [22, 23, 24] := ⟨_, Try.underlying26, rfl⟩
def bulkU (H : Type) : Bulk H where
 B := Rows.uptoBulk
 BA := Rows.uptoBulkAll
 lit := fun l => by cases l <;> simp [Rows.uptoBulk]
 str := fun s => by simp [Rows.uptoBulk]
 nil := by simp [Rows.uptoBulk]
 slice := fun l r => by simp only [Rows.uptoBulk]; omega
 agg := fun l => by simp only [Rows.uptoBulk]; omega
 bnil := by simp [Rows.uptoBulkAll]
 bcons := fun d l => by simp [Rows.uptoBulkAll]
theorem bulkU_le {H : Type} {l : List (DataW H)} (h : Rows.uptoSmall H l = true) : (bulkU H).BA l ≤ 1048576 := by
 simpa [Rows.uptoSmall, bulkU] using h
theorem arg_D {g : Nat} {es : List AV} {a : AV} (h1 : mkv (Abs.isAgg Try.prog 26) es = some a) (h2 : Cells Try.prog g 26 es) : ∃ d, a = encD d ∧ WfD d := by
 rw [str_agg str_D] at h1
 obtain rfl := mkv_agg h1
 obtain ⟨d, rfl, hd⟩ := cells_D tys str_D h2
 exact ⟨d, rfl, hd⟩
theorem sm_of {d : Flat} (h : szA (encD d) ≤ 1048576) : Sm d := sm_sz (by simp only [szA] at h; omega)
theorem argsR_cons {P : Program} {t : TypeId} {ts : List TypeId} {xs : List AV} (h : ArgsR P (t :: ts) xs) : ∃ a ys g es, xs = a :: ys ∧ mkv (Abs.isAgg P t) es = some a ∧ Cells P g t es ∧ ArgsR P ts ys := by
 cases xs with
 | nil => exact h.elim
 | cons a ys => obtain ⟨⟨g, es, h1, h2⟩, h3⟩ := h; exact ⟨a, ys, g, es, rfl, h1, h2, h3⟩
theorem argsR_nil {P : Program} {xs : List AV} (h : ArgsR P [] xs) : xs = [] := by
 cases xs with
 | nil => rfl
 | cons a ys => exact h.elim
theorem args_D {xs : List AV} (h : ArgsR Try.prog [26] xs) (hs : szAs xs ≤ 1048576) : ∃ d, xs = [encD d] ∧ WfD d ∧ Sm d := by
 obtain ⟨a, _, _, _, rfl, h1, h2, h⟩ := argsR_cons h
 obtain rfl := argsR_nil h
 obtain ⟨d, rfl, hd⟩ := arg_D h1 h2
 exact ⟨d, rfl, hd, sm_of (by simp only [szAs] at hs; omega)⟩
end Go.Proofs.Ytdiebjnjhgbklaa

namespace Go.Proofs.Ytdiebjnjhgbklaa
open Abs Fil Fil.Sz
set_option maxRecDepth 20000 in
set_option maxHeartbeats 2000000 in
theorem lw_SizedFlat (d : Flat) (σ : Sig) (hw : WfD d) (hd : Sm d) : ACalls Try.prog 4 [encD d] σ (fun r σ' => r = .ret (.bool true) ∧ σ' = σ) := by
 have z1 := fun τ => lw_live τ
 have z3 := fun τ => rf_Small d τ hd
 have z4 := fun τ => sz_Size d τ hd hw
 have z5 := fun τ => rf_Size d τ hd hw
 have hm := sm_sized hd
 have z7 := fun τ => sz_Check d τ hd hw
 have z8 := fun τ => rf_Check d τ hd hw
 obtain ⟨⟨x, f⟩, hR⟩ : ∃ R, sizeD d = R := ⟨_, rfl⟩
 rw [hR] at z4 z5 hm
 simp only at hm
 have z6 := fun τ => rf_Same x x τ hm hm
 rw [same_self] at z6
 obtain ⟨C, hC⟩ : ∃ C, checkD d = C := ⟨_, rfl⟩
 rw [hC] at z7 z8
 obtain ⟨q, hq⟩ : ∃ C, smallD d = C := ⟨_, rfl⟩
 rw [hq] at z3
 clear hR hC hq hm hd hw
 refine calls_x mixed Try.func4 b4 n4 rfl q4 (by simp) ?_; unfold c4 r4
 cases q
 ·repeat' (first | simp (maxDischargeDepth := 9) -implicitDefEqProofs -dsimp only [go_sem, seval, *] | ((with_reducible apply ACalls.one1); (focus ((first | with_reducible refine z1 _ | with_reducible refine z3 _) <;> (first | (simp (maxDischargeDepth := 9) -implicitDefEqProofs -dsimp only [go_sem, seval, *]; done) | omega))); (focus (first | trivial | with_reducible exact rfl | (simp (maxDischargeDepth := 9) -implicitDefEqProofs -dsimp only [go_sem, seval]; done)))))
  refine fin_eq ?_
  (repeat' simp (maxDischargeDepth := 9) -implicitDefEqProofs -dsimp only [go_sem, seval, *])
 ·repeat' (first | simp (maxDischargeDepth := 9) -implicitDefEqProofs -dsimp only [go_sem, seval, *] | ((with_reducible refine Zt (fun oF hoF hnF hnF' => ?_)); (try simp only [upd_none, ne_eq, not_and] at hoF)) | ((with_reducible apply ACalls.one1); (focus ((first | with_reducible refine z1 _ | with_reducible refine z3 _ | with_reducible refine z4 _ | with_reducible refine z5 _) <;> (first | (simp (maxDischargeDepth := 9) -implicitDefEqProofs -dsimp only [go_sem, seval, *]; done) | omega))); (focus (first | trivial | with_reducible exact rfl | (simp (maxDischargeDepth := 9) -implicitDefEqProofs -dsimp only [go_sem, seval]; done)))) | ((with_reducible apply id_one0); (focus (intro tS hS; ((first | with_reducible refine z6 _ | with_reducible refine z7 _ | with_reducible refine z8 _) <;> (first | (simp (maxDischargeDepth := 9) -implicitDefEqProofs -dsimp only [go_sem, seval, *]; done) | omega | ((with_reducible refine Sub.get hS ?_); simp (maxDischargeDepth := 9) -implicitDefEqProofs -dsimp only [go_sem, seval, *]; done))))); (focus (first | trivial | (simp (maxDischargeDepth := 9) -implicitDefEqProofs -dsimp only [go_sem, seval, *]; done)))))
  refine fin_eq ?_
  (repeat' simp (maxDischargeDepth := 9) -implicitDefEqProofs -dsimp only [go_sem, seval, *])
end Go.Proofs.Ytdiebjnjhgbklaa

