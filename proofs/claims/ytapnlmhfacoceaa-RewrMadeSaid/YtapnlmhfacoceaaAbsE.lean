/- The abstraction layer, part E: the rest of the operations. Over any program. -/
import Derived.Test.YtapnlmhfacoceaaAbsD
import Derived.Laws.Append
import Derived.Laws.AppendOwn
import Derived.Laws.MakeOwn
set_option linter.unusedSimpArgs false
set_option linter.unusedVariables false
namespace Abs
open Go

theorem Sat.freshName {K σ w} (h : Sat K σ w) : ∃ o, K.own o = none ∧ σ o = none := by
  obtain ⟨n, hn⟩ := h.room
  exact ⟨n, hn n (Nat.le_refl _), h.fresh (hn n (Nat.le_refl _))⟩

theorem pushed_mk (w : World) (ob : Obj) : Pushed w { w with heap := w.heap.push ob } ob := ⟨rfl, rfl, rfl, rfl⟩

theorem Sat.newCells {K σ w} (h : Sat K σ w) {cs : List AV} {vs : Array Value} (hr : RelL K cs vs.toList) (el : TypeId) {o : Nat} (ho : K.own o = none) {S : Nat → Prop} (hS : ¬ S o) :
    ∃ K', K.leS S K' ∧ K'.own o = some (.obj w.heap.size) ∧ Sat K' (upd σ o (.cells cs)) { w with heap := w.heap.push (.cells vs el) } := by
  have hp := pushed_mk w (.cells vs el)
  have hle0 := (h.push hp rfl (fun _ => none) (fun i v e => by simp at e)).1
  obtain ⟨h1, h2⟩ := h.pushName hp rfl (fun _ => none) (fun i v e => by simp at e) ho (.obj w.heap.size) rfl (.cells cs)
    ⟨by show K.base.heap.size ≤ _; exact h.size, ⟨vs, el, hp.new, hr.mono hle0⟩, fun i => by simp [Gh.claimed]⟩
  refine ⟨_, ⟨h1, fun o' hs hn => ?_⟩, by simp [Gh.named], h2⟩
  have : o' ≠ o := fun e => hS (e ▸ hs)
  simp [Gh.named, Gh.claimed, this, hn]

theorem Sat.newRow {K σ w} (h : Sat K σ w) (vs : Array Value) (el : TypeId) (n : Nat) (hn : n ≤ vs.size) (h1 : ∀ i, (hi : i < n) → (vs[i]'(by omega)).oneCell' = true) :
    ∃ K', K.le K' ∧ (∀ i, i < n → K'.claim w.heap.size i = vs[i]?) ∧ (∀ i, n ≤ i → K'.claim w.heap.size i = none) ∧ K'.own = K.own ∧ Sat K' σ { w with heap := w.heap.push (.cells vs el) } := by
  have hp := pushed_mk w (.cells vs el)
  obtain ⟨h2, h3⟩ := h.push hp rfl (fun i => if i < n then vs[i]? else none) (fun i v e => by
    by_cases hi : i < n
    · rw [if_pos hi] at e
      refine ⟨by simp [World.cell?]; exact e, ?_⟩
      have := h1 i hi
      rw [Array.getElem?_eq_getElem (by omega)] at e
      simp at e; rw [← e]; exact this
    · rw [if_neg hi] at e
      simp at e)
  exact ⟨_, h2, fun i hi => by simp [Gh.claimed, hi], fun i hi => by simp [Gh.claimed]; omega, rfl, h3⟩

theorem RelL.ones {K cs vs} (h : RelL K cs vs) (h1 : cs.all oneA = true) (i : Nat) (hi : i < vs.length) : vs[i].oneCell' = true := by
  have hi' : i < cs.length := h.1 ▸ hi
  have := h.2 i hi' hi
  exact this.oneCell (List.all_eq_true.1 h1 _ (List.getElem_mem hi'))

section ops
variable {P : Program} {o : Oper} {N : Nat} {env : Env} {σ : Sig} {nm : Nat} {R : AV → Option (Nat × AObj) → Prop}

theorem ok_alloc {e z} (ho : o.op = .alloc e) (hz : zeroOf P e = some z) (h : exOpN nm env σ R (.alloc z)) : OpOk P o N env σ nm R := by
  intro S K a w hf hs hnm hS
  obtain ⟨v, h1, h2, _⟩ := run_zeroValue' (K := K) hz w
  obtain ⟨K', k2, k3, k4⟩ := hs.newCells h2 e hnm hS
  refine ⟨K', _, some (nm, _), _, _, .inl ?_, k2, .ptr nm 0 _ k3 rfl, k4, h⟩
  simp [execOp, ho, Instr.alloc, h1, newVar, Go.newRow, Own.blk]

theorem ok_box {e x ax} (ho : o.op = .box e x) (hx : trOpnd x = some ax) (h : exOpN nm env σ R (.box ax)) : OpOk P o N env σ nm R := by
  intro S K a w hf hs hnm hS
  obtain ⟨av, h1, h2⟩ := wth_some h
  obtain ⟨K', k2, k3, k4⟩ := hs.newCells (trOpnd_rel hx h1 hf).cells e hnm hS
  refine ⟨K', _, some (nm, _), _, _, .inl ?_, k2, .ptr nm 0 _ k3 rfl, k4, h2⟩
  simp [execOp, ho, Instr.box, newVar, Go.newRow, Own.blk]

theorem ok_boxI {e x ax} (ho : o.op = .box e x) (hx : trOpnd x = some ax) (h : exOpN nm env σ R (.boxI ax)) : OpOk P o N env σ nm R := by
  intro S K a w hf hs _ _
  obtain ⟨av, h1, h0, h2⟩ := wth_some h
  have hr := (trOpnd_rel hx h1 hf).cells
  have hl : (cellsA av).length = (a.eval x).cells.size := by simpa using hr.1
  obtain ⟨K', k1, k2, _, k5, k4⟩ := hs.newRow (a.eval x).cells e (a.eval x).cells.size (Nat.le_refl _) (fun i hi => by
    have := hr.ones h0 i (by simpa using hi)
    simpa using this)
  refine ⟨K', .cptr (cellsA av), none, .pointer (some ⟨w.heap.size, 0, none⟩), _, .inl ?_, Gh.leS_own k1 k5, ?_, k4, h2⟩
  · simp [execOp, ho, Instr.box, newVar, Go.newRow]
  · refine .cptr _ _ _ (fun i => ((a.eval x).cells[i]?).getD undef) (fun i hi => ?_) (fun i hi => ?_)
    · rw [Nat.zero_add, k2 i (by omega), Array.getElem?_eq_getElem (by omega)]; rfl
    · have := hr.2 i hi (by simp; omega)
      rw [Array.getElem?_eq_getElem (by omega)]
      simpa using this.mono k1

theorem ok_nilchk {x ax} (ho : o.op = .nilCheck x) (hx : trOpnd x = some ax) (h : exOpN nm env σ R (.nilchk ax)) : OpOk P o N env σ nm R := by
  refine .still fun K a w hf hs => ?_
  obtain ⟨av, h1, h2⟩ := wth_some h
  have hr := trOpnd_rel hx h1 hf
  cases av <;> simp at h2
  case ptr ob off =>
    obtain ⟨e, he, _, _⟩ := rel_ptr hr
    exact ⟨_, _, by simp [execOp, ho, he]; rfl, by rw [← he]; exact hr, h2⟩
  case eptr ob m off =>
    obtain ⟨b, cap, he, _⟩ := rel_eptr hr
    exact ⟨_, _, by simp [execOp, ho, he]; rfl, by rw [← he]; exact hr, h2⟩
  case cptr cs =>
    obtain ⟨b, off, u, he, _, _⟩ := rel_cptr hr
    exact ⟨_, _, by simp [execOp, ho, he]; rfl, by rw [← he]; exact hr, h2⟩
  case fn f l m =>
    obtain ⟨fs, cs, he, _, _⟩ := rel_fn hr
    exact ⟨_, _, by simp [execOp, ho, he]; rfl, by rw [← he]; exact hr, h2⟩

theorem eqGuard_plain (op : BinOp) (t : TypeId) (x y : Operand) (u v : Value) (w : World) (h1 : ∀ cs, u ≠ .agg cs) (h2 : u ≠ .nilIface) : (eqGuard op t x y u v).run P w = .ok () w := by
  unfold eqGuard
  cases op <;> first | rfl | (cases u <;> first | (exact absurd rfl h2) | (exact absurd rfl (h1 _)) | (cases v <;> rfl))

theorem eqGuard_ord (op : BinOp) (t : TypeId) (x y : Operand) (u v : Value) (w : World) (h : op ≠ .eql) (h' : op ≠ .neq) : (eqGuard op t x y u v).run P w = .ok () w := by
  unfold eqGuard
  cases op <;> first | (exact absurd rfl h) | (exact absurd rfl h') | rfl

theorem run_equal_bool {t : TypeId} (hb : isBool P t = true) (p q : Bool) (w : World) : (Op.equal t (.bool p) (.bool q)).run P w = .ok (p == q) w := by
  unfold isBool at hb
  split at hb
  · rename_i hu
    have e : Op.maxDepth = 9999 + 1 := rfl
    rw [Op.equal, e, Op.equalIn]
    simp [run_underlying' hu]
  · simp at hb

theorem ok_bin {op t x y yt tb ax ay} (ho : o.op = .binOp op t x y yt) (hp : tb = true → isBool P t = true) (hx : trOpnd x = some ax) (hy : trOpnd y = some ay) (h : exOpN nm env σ R (.bin op tb ax ay)) : OpOk P o N env σ nm R := by
  refine .still fun K a w hf hs => ?_
  obtain ⟨av, h1, h2⟩ := wth_some h
  obtain ⟨bv, h3, h4⟩ := wth_some h2
  obtain ⟨rv, h5, h6⟩ := wth_some h4
  have ra := trOpnd_rel hx h1 hf
  have rb := trOpnd_rel hy h3 hf
  have fin : ∀ {v : Value}, (binOp op t (a.eval x) (a.eval y)).run P w = .ok v w → (∀ cs, a.eval x ≠ .agg cs) → a.eval x ≠ .nilIface → Rel K rv v → ∃ av v, (execOp a.eval o).run P w = .ok (.value v) w ∧ Rel K av v ∧ R av none := by
    intro v e n1 n2 r
    exact ⟨rv, v, by simp [execOp, ho, eqGuard_plain op t x y _ _ w n1 n2, e], r, h6⟩
  cases av <;> cases bv <;> simp only [binA] at h5 <;> try (simp at h5; done)
  case int.int k n k' m =>
    have ea := rel_int ra
    have eb := rel_int rb
    have hn1 : ∀ cs, a.eval x ≠ .agg cs := by simp [ea]
    have hn2 : a.eval x ≠ .nilIface := by simp [ea]
    cases op <;> simp only [] at h5
    case shl =>
      split at h5 <;> simp at h5
      subst h5
      rename_i hb
      refine fin ?_ hn1 hn2 (.int _ _)
      simp [ea, eb, binOp, Op.shift, hb]
    case shr =>
      split at h5 <;> simp at h5
      subst h5
      rename_i hb
      refine fin ?_ hn1 hn2 (.int _ _)
      simp [ea, eb, binOp, Op.shift, hb]
    case quo =>
      split at h5 <;> simp at h5
      obtain ⟨hz, h5⟩ := h5
      subst h5; rename_i hk; subst hk
      refine fin ?_ hn1 hn2 (.int _ _)
      simp [ea, eb, binOp, Op.intDiv, hz]
    case rem =>
      split at h5 <;> simp at h5
      obtain ⟨hz, h5⟩ := h5
      subst h5; rename_i hk; subst hk
      refine fin ?_ hn1 hn2 (.int _ _)
      simp [ea, eb, binOp, Op.intDiv, hz]
    all_goals
      split at h5 <;> simp at h5
      subst h5; rename_i hk; subst hk
      first
        | (refine fin ?_ hn1 hn2 (.int _ _); simp [ea, eb, binOp, Op.intArith, Op.intBits, Op.intCmp]; done)
        | (refine fin ?_ hn1 hn2 (.bool _); simp [ea, eb, binOp, Op.intArith, Op.intBits, Op.intCmp]; done)
  case bool.bool p q =>
    have ea := rel_bool ra
    have eb := rel_bool rb
    have hn1 : ∀ cs, a.eval x ≠ .agg cs := by simp [ea]
    have hn2 : a.eval x ≠ .nilIface := by simp [ea]
    cases op <;> simp at h5
    all_goals
      obtain ⟨h7, h5⟩ := h5
      subst h5
      refine fin ?_ hn1 hn2 (.bool _)
      simp [ea, eb, binOp, run_equal_bool (hp h7)]
  case str.str p q =>
    have ea := rel_str ra
    have eb := rel_str rb
    have hn1 : ∀ cs, a.eval x ≠ .agg cs := by simp [ea]
    have hn2 : a.eval x ≠ .nilIface := by simp [ea]
    cases op <;> simp at h5
    all_goals
      subst h5
      refine fin ?_ hn1 hn2 (.bool _)
      simp [ea, eb, binOp, Op.stringOp]

end ops
end Abs
