/- The abstraction layer, part N: appending zeros to a nil slice, and slicing what came out: what slices.Grow does. Over any program. -/
import Derived.Test.YtapnlmhfacoceaaAbsH
set_option linter.unusedSimpArgs false
set_option linter.unusedVariables false
namespace Abs
open Go

section ops
variable {P : Program} {o : Oper} {N : Nat} {env : Env} {σ : Sig} {nm : Nat} {R : AV → Option (Nat × AObj) → Prop}

theorem isInt_under {P : Program} {u : TypeId} (h : isIntTy P u = true) : ∃ k, P.underlying u = some (.int k) := by
  unfold isIntTy at h
  split at h
  · rename_i k hk; exact ⟨k, hk⟩
  · simp at h

theorem run_append_nilz (w : World) (t u ty e : TypeId) (i : TypeInfo) (z : Value) {k : IntKind} (ht : P.underlying t = some (.slice e)) (hu : P.underlying u = some (.int k)) (hi : P.info? e = some i) (hz : i.zero = some z)
    (n : Int) (h0 : 0 < n) (hs : 0 < i.size) (hb0 : 0 < i.bytes) (hb : n * i.bytes ≤ 35184372088832) :
    (Builtin.append_ #[t, u] ty #[.slice none 0 0, .int .i64 n]).run P w =
      .ok (.slice (some ⟨w.heap.size, 0, none⟩) n.toNat (grownCap w n.toNat 0 e))
        (w.drew.alloc (.cells (Builtin.zeroCells z.cells n.toNat ++ Builtin.zeroCells z.cells (grownCap w n.toNat 0 e - n.toNat)) e)) := by
  have hn1 : n * 1 ≤ n * (i.bytes : Int) := Int.mul_le_mul_of_nonneg_left (by omega) (by omega)
  have hw : IntKind.i64.wrap n = n := by
    simp [IntKind.wrap, IntKind.signed, IntKind.bits]; omega
  have hn : n.toNat ≠ 0 := by omega
  have hb' : (n.toNat : Int) * i.bytes ≤ 35184372088832 := by rw [Int.toNat_of_nonneg (by omega)]; exact hb
  have h63' : ¬ (9223372036854775807 < (n.toNat : Int)) := by omega
  have h48n : n.toNat * i.bytes ≤ 35184372088832 := by
    have e : ((n.toNat * i.bytes : Nat) : Int) ≤ 35184372088832 := by rw [Int.natCast_mul]; exact hb'
    omega
  have h48' : ¬ (281474976710656 < Builtin.nextslicecap n.toNat 0 * i.bytes) := by rw [nextslicecap_zero (by omega)]; omega
  have h48 : ¬ (281474976710656 < n * (i.bytes : Int)) := by omega
  have hlt : ¬ n < 0 := by omega
  have hns : ¬ (n.toNat * i.size = 0) := by
    intro h; rcases Nat.mul_eq_zero.1 h with h | h <;> omega
  have hle : ¬ n ≤ 0 := by omega
  have hmx : ¬ (9223372036854775807 < max n 0) := by omega
  simp [Builtin.append_, run_underlying ht, run_underlying hu, Go.sizeOf, typeInfo, zeroValue, hi, hz, asInt, asIntOf, hw, hlt, h48, hn, h63', h48', Question.forced, run_firstCells_none, newRow, grownCap, hns, hle, hmx]

theorem ok_appz {t u s x e i z as ax} (ho : o.op = .call { callee := .builtin .append, args := #[s, x], argTypes := #[t, u] }) (ht : P.underlying t = some (.slice e)) (hu : isIntTy P u = true) (hi : P.info? e = some i)
    (hz : zeroOf P e = some z) (hs0 : 0 < i.size) (hby0 : 0 < i.bytes) (hzl : z.length = i.size) (hs1 : trOpnd s = some as) (hx1 : trOpnd x = some ax) (h : exOpN nm env σ R (.appz i.size i.bytes as ax)) : OpOk P o N env σ nm R := by
  intro S K a w hf hs hnm hS
  obtain ⟨sv, h1, h2⟩ := wth_some h
  obtain ⟨xv, h3, h4⟩ := wth_some h2
  have rs := trOpnd_rel hs1 h1 hf
  have rx := trOpnd_rel hx1 h3 hf
  split at h4
  case h_2 => exact h4.elim
  rename_i l n
  obtain ⟨⟨rfl, hn0, hnb⟩, h5⟩ := h4
  obtain ⟨i', zv, hi', hzv, hzs⟩ := zerosOf (K := K) hz hzl
  obtain rfl : i' = i := by simp_all
  have hsv : a.eval s = .slice none 0 0 := by
    rcases rel_slice rs with ⟨a', cap', he, _, ht'⟩ | ⟨b, off, cap', sz', u, he, _, _, _, ht', _⟩
    · simp at ht'
      obtain ⟨rfl, rfl⟩ := ht'
      exact he
    · exact ht'.elim
  have hxv := rel_int rx
  obtain ⟨k, hu'⟩ := isInt_under hu
  have hrun := run_append_nilz (P := P) w t u o.type e i' zv ht hu' hi hzv n hn0 hs0 hby0 hnb
  have zsz : ∀ k, (Builtin.zeroCells zv.cells k).size = k * i'.size := fun k => by rw [size_zeroCells, hzs]
  have hge := grownCap_ge w n.toNat 0 e
  obtain ⟨K', k2, k3, k4⟩ := hs.grownNew (Builtin.zeroCells zv.cells n.toNat ++ Builtin.zeroCells zv.cells (grownCap w n.toNat 0 e - n.toNat)) e (l := []) (sz := i'.size) (cap := grownCap w n.toNat 0 e)
      (by simp only [Array.size_append, zsz]; rw [← Nat.add_mul]; congr 1; omega) (Nat.zero_le _) (by simp) (by simp [Abs.flat]) (by simp [Abs.flat]) hnm hS
  refine ⟨K', .raw nm n.toNat, some (nm, .grow i'.size 0), .slice (some ⟨w.heap.size, 0, none⟩) n.toNat (grownCap w n.toNat 0 e), _, .inl ?_, k2, ?_, by simpa [app] using k4, h5⟩
  · simp only [execOp, ho, resolve, invoke, Go.builtin, Sem.run_bind, Sem.run_pure, Result.andThen_ok]
    have e2 : #[s, x].map a.eval = #[a.eval s, a.eval x] := by simp
    simp only [e2, hsv, hxv, hrun, Result.andThen_ok]
  · cases k3 with
    | sl0 a cap t ht => simp at ht
    | slice _ _ _ _ _ sz u q1 q2 q3 q4 q5 => exact .raw nm _ _ _ sz q4 hge

theorem ok_slcN {t x lo hi mx e sz ax alo ahi amx} (ho : o.op = .slice t x lo hi mx) (hu : P.underlying t = some (.slice e)) (hsz : szOf P e = some sz) (hx : trOpnd x = some ax)
    (hlo : trOpt lo = some alo) (hhi : trOpt hi = some ahi) (hmx : trOpt mx = some amx) (h : exOpN nm env σ R (.slcN sz ax alo ahi amx)) : OpOk P o N env σ nm R := by
  refine .still fun K a w hf hs => ?_
  obtain ⟨av, h1, h2⟩ := wth_some h
  have hr := trOpnd_rel hx h1 hf
  split at h2
  case h_2 => exact h2.elim
  rename_i l
  obtain ⟨⟨rfl, hm⟩, h3⟩ := h2
  obtain ⟨hh, h4, c1⟩ := bnd_run hf hhi h3
  obtain ⟨ll, h5, c2⟩ := bnd_run hf hlo h4
  have hsv : a.eval x = .slice none 0 0 := by
    rcases rel_slice hr with ⟨a', cap', he, _, ht'⟩ | ⟨b, off, cap', sz', u, he, _, _, _, ht', _⟩
    · simp at ht'
      obtain ⟨rfl, rfl⟩ := ht'
      exact he
    · exact ht'.elim
  have hhl : hh = 0 := by rcases c1 with ⟨_, rfl⟩ | ⟨k, n, _, n0, n1, rfl⟩ <;> omega
  have hlh : ll = 0 := by rcases c2 with ⟨_, rfl⟩ | ⟨k, n, _, n0, n1, rfl⟩ <;> omega
  have hmn : mx = none := by cases mx <;> cases amx <;> simp [trOpt] at hmx hm ⊢
  subst hmn
  have c1' : hi = none ∨ ∃ y k n, hi = some y ∧ a.eval y = .int k n ∧ 0 ≤ n ∧ n ≤ (0 : Nat) := by
    rcases c1 with ⟨hn, e⟩ | ⟨k, n, hn, n0, n1, e⟩
    · left; cases hi <;> simp at hn; rfl
    · right; cases hi <;> simp at hn; exact ⟨_, k, n, rfl, hn, n0, by omega⟩
  have c2' : lo = none ∨ ∃ y k n, lo = some y ∧ a.eval y = .int k n ∧ 0 ≤ n ∧ n ≤ (0 : Nat) := by
    rcases c2 with ⟨hn, e⟩ | ⟨k, n, hn, n0, n1, e⟩
    · left; cases lo <;> simp at hn; rfl
    · right; cases lo <;> simp at hn; exact ⟨_, k, n, rfl, hn, n0, by omega⟩
  have hsb : ∀ w : World, (Instr.sliceBounds true 0 0 (lo.map a.eval) (hi.map a.eval) none).run P w = .ok (0, 0, 0) w := by
    intro w
    have z : ∀ n : Int, 0 ≤ n → n ≤ (0 : Nat) → n.toNat = 0 := fun n _ _ => by omega
    rcases c1' with rfl | ⟨y, k, n, rfl, ey, n0, n1⟩ <;> rcases c2' with rfl | ⟨y', k', n', rfl, ey', n0', n1'⟩
    · simp [Instr.sliceBounds]
    · simp [Instr.sliceBounds, ey', run_sliceBound k' n' _ _ _ n0' n1', z n' n0' n1']
    · simp [Instr.sliceBounds, ey, run_sliceBound k n _ _ _ n0 n1, z n n0 n1]
    · simp [Instr.sliceBounds, ey, ey', run_sliceBound k n _ _ _ n0 n1, z n n0 n1, run_sliceBound k' n' _ _ _ n0' n1', z n' n0' n1']
  refine ⟨.slice [] .nil, .slice none 0 0, ?_, .sl0 none 0 .nil (by simp), h5⟩
  simp only [execOp, ho, Sem.run_bind]
  rw [hsv]
  simp [Instr.sliceAt, Instr.slice, run_underlying' hu, hsb, run_sizeOf' hsz]

theorem ok_slcR {t x lo hi mx e sz ax alo ahi amx} (ho : o.op = .slice t x lo hi mx) (hu : P.underlying t = some (.slice e)) (hsz : szOf P e = some sz) (hx : trOpnd x = some ax)
    (hlo : trOpt lo = some alo) (hhi : trOpt hi = some ahi) (hmx : trOpt mx = some amx) (h : exOpN nm env σ R (.slcR sz ax alo ahi amx)) : OpOk P o N env σ nm R := by
  refine .still fun K a w hf hs => ?_
  obtain ⟨av, h1, h2⟩ := wth_some h
  have hr := trOpnd_rel hx h1 hf
  split at h2
  case h_2 => exact h2.elim
  rename_i ob len
  obtain ⟨⟨hl, hh0, hm⟩, h3⟩ := h2
  obtain ⟨hh, h4, c1⟩ := bnd_run hf hhi h3
  obtain ⟨h5, h6⟩ := h4
  subst h5
  have hln : lo = none := by cases lo <;> cases alo <;> simp [trOpt] at hlo hl ⊢
  have hmn : mx = none := by cases mx <;> cases amx <;> simp [trOpt] at hmx hm ⊢
  subst hln hmn
  obtain ⟨b, cap, hev, sz', htk, hcap⟩ : ∃ b cap, a.eval x = .slice (some ⟨b, 0, none⟩) len cap ∧ ∃ sz', TokOk K (.own ob) 0 b 0 cap sz' ∧ len ≤ cap := by
    generalize a.eval x = v at hr
    cases hr with
    | raw _ _ b cap sz' h hl => exact ⟨b, cap, rfl, sz', h, hl⟩
  obtain ⟨y, k, n, rfl, ey, n0, n1, n2⟩ : ∃ y k n, hi = some y ∧ a.eval y = .int k n ∧ 0 ≤ n ∧ n ≤ (len : Nat) ∧ n.toNat = 0 := by
    rcases c1 with ⟨hn, e⟩ | ⟨k, n, hn, n0, n1, e⟩
    · cases hi with
      | none => simp [trOpt] at hhi; subst hhi; simp at hh0
      | some y => simp at hn
    · cases hi with
      | none => simp at hn
      | some y => simp at hn; exact ⟨y, k, n, rfl, hn, n0, n1, e.symm⟩
  have hsb : ∀ w : World, (Instr.sliceBounds true len cap none (some (a.eval y)) none).run P w = .ok (0, 0, cap) w := by
    intro w
    simp [Instr.sliceBounds, ey, run_sliceBound k n cap _ _ n0 (by omega), n2]
  refine ⟨.slice [] (.own ob), .slice (some ⟨b, 0, none⟩) 0 cap, ?_, ?_, h6⟩
  · simp only [execOp, ho, Sem.run_bind]
    rw [hev]
    simp [Instr.sliceAt, Instr.slice, run_underlying' hu, hsb, run_sizeOf' hsz, Addr.add]
  · exact .slice [] (.own ob) b 0 cap sz' (fun _ => undef) (by simp) (by simp [Abs.flat]) (by simp [Abs.flat]) htk (Nat.zero_le _)
end ops
end Abs
