/- The abstraction layer, part G: slices cut, appended to, made; structs built and compared. Over any program. -/
import Derived.Test.YtapnlmhfacoceaaAbsF
set_option linter.unusedSimpArgs false
set_option linter.unusedVariables false
namespace Abs
open Go

theorem asIntOf_run (P : Program) (k n) (w : World) : (asIntOf (.int k n)).run P w = .ok (k, n) w := rfl

section ops
variable {P : Program} {o : Oper} {N : Nat} {env : Env} {σ : Sig} {nm : Nat} {R : AV → Option (Nat × AObj) → Prop}

theorem run_sliceBound (k : IntKind) (n : Int) (y : Nat) (code : BoundsCode) (w : World) (h0 : 0 ≤ n) (h1 : n ≤ y) : (Instr.sliceBound (.int k n) y code).run P w = .ok n.toNat w := by
  simp [Instr.sliceBound, asIntOf, h0, h1]

theorem bnd_run {K : Gh} {a : Act} {x : Option Operand} {ax : Option AOpnd} {d hi : Nat} {Q : Nat → Prop} (hf : Fr K N env a) (hx : trOpt x = some ax) (h : bnd env ax d hi Q) :
    ∃ r : Nat, Q r ∧ ((x.isNone ∧ r = d) ∨ ∃ k n, x.map a.eval = some (.int k n) ∧ 0 ≤ n ∧ n ≤ hi ∧ r = n.toNat) := by
  cases x with
  | none =>
    simp [trOpt] at hx; subst hx
    exact ⟨d, h, .inl ⟨rfl, rfl⟩⟩
  | some x =>
    simp only [trOpt, Option.map_eq_some_iff] at hx
    obtain ⟨b, hb, rfl⟩ := hx
    obtain ⟨av, h1, h2⟩ := wth_some (x := aval env b) h
    have hr := trOpnd_rel hb h1 hf
    cases av <;> simp at h2
    obtain ⟨⟨p1, p2⟩, p3⟩ := h2
    exact ⟨_, p3, .inr ⟨_, _, by rw [Option.map_some, rel_int hr], p1, p2, rfl⟩⟩

theorem piece_rel {K : Gh} {l t v} (hr : Rel K (.slice l t) v) {sz : Nat} (hsz : ∀ x ∈ l, (cellsA x).length = sz) {lo h m : Nat} (h1 : lo ≤ h) (h2 : h ≤ l.length) (h3 : h ≤ m) (full : Bool) (hfull : full = true → m = h) :
    ∀ a len cap, v = .slice a len cap → len = l.length ∧ (m ≤ cap → Rel K (.slice ((l.take h).drop lo) (if full then .full else .no)) (.slice (if m = lo then a else a.map (·.add (lo * sz))) (h - lo) (m - lo))) := by
  intro a len cap hv
  rcases rel_slice hr with ⟨a', cap', he, rfl, _⟩ | ⟨b, off, cap', sz', u, he, q1, q2, q3, q4, q5⟩
  · rw [he] at hv; cases hv
    refine ⟨rfl, fun _ => ?_⟩
    simp at h2
    have e1 : h = 0 := h2
    have e2 : lo = 0 := by omega
    subst e1; subst e2
    simp only [List.take_nil, List.drop_nil, Nat.sub_zero]
    refine .sl0 _ _ _ ?_
    cases full with
    | true => right; left; exact ⟨rfl, by simpa using hfull rfl⟩
    | false => left; rfl
  · rw [he] at hv; cases hv
    refine ⟨rfl, fun hm => ?_⟩
    have hlen : ((l.take h).drop lo).length = h - lo := by simp; omega
    by_cases hml : m = lo
    · have : h = lo := by omega
      subst this
      have e : (l.take h).drop h = [] := by apply List.eq_nil_of_length_eq_zero; rw [hlen]; omega
      rw [e, if_pos hml, Nat.sub_self]
      refine .sl0 _ _ _ ?_
      cases full with
      | true => right; left; exact ⟨rfl, by omega⟩
      | false => left; rfl
    · rw [if_neg hml]
      show Rel K _ (.slice (some ((⟨b, off, none⟩ : Addr).add (lo * sz))) (h - lo) (m - lo))
      rw [add_none, ← hlen]
      have hmem : ∀ x ∈ (l.take h).drop lo, x ∈ l := fun x hx => List.mem_of_mem_take (List.mem_of_mem_drop hx)
      have hall : ∀ x ∈ l.take h, (cellsA x).length = sz := fun x hx => hsz x (List.mem_of_mem_take hx)
      have hflat : flat ((l.take h).drop lo) = ((flat l).take (h * sz)).drop (lo * sz) := by rw [flat_drop hall, flat_take hsz]
      refine .slice _ _ b (off + lo * sz) (m - lo) sz (fun i => u (lo * sz + i)) (fun x hx => hsz x (hmem x hx)) (fun i hi => ?_) (fun i hi => ?_) ?_ (by rw [hlen]; omega)
      · rw [hflat] at hi
        rw [Nat.add_assoc]; exact q2 _ (by simp at hi; omega)
      · have hi' := hi
        rw [hflat] at hi'
        have hi2 : lo * sz + i < (flat l).length := by simp at hi'; omega
        have := q3 (lo * sz + i) hi2
        have e2 : (flat ((l.take h).drop lo))[i] = (flat l)[lo * sz + i] := by
          apply Option.some.inj
          rw [← List.getElem?_eq_getElem, ← List.getElem?_eq_getElem, hflat, List.getElem?_drop, List.getElem?_take, if_pos (by simp at hi'; omega)]
        rw [e2]; exact this
      · cases full with
        | true => have := hfull rfl; show m - lo = _; rw [hlen]; omega
        | false => trivial

theorem run_slcV {K : Gh} {a : Act} {t x lo hi mx e sz alo ahi amx} (hf : Fr K N env a) (ho : o.op = .slice t x lo hi mx) (hu : P.underlying t = some (.slice e)) (hsz : szOf P e = some sz)
    (hlo : trOpt lo = some alo) (hhi : trOpt hi = some ahi) (hmx : trOpt mx = some amx) {b len cap : Nat} (he : a.eval x = .slice (some ⟨b, 0, none⟩) len cap) (hl : len ≤ cap) (hm : alo.isSome = false ∧ amx.isSome = false)
    {Rn : Nat → Prop} (h : bnd env ahi len len Rn) (w : World) : ∃ hh, hh ≤ len ∧ Rn hh ∧ (execOp a.eval o).run P w = .ok (.value (.slice (some ⟨b, 0, none⟩) hh cap)) w := by
  obtain ⟨hh, h4, c1⟩ := bnd_run hf hhi h
  have hln : lo = none := by cases lo <;> cases alo <;> simp [trOpt] at hlo hm ⊢
  have hmn : mx = none := by cases mx <;> cases amx <;> simp [trOpt] at hmx hm ⊢
  subst hln hmn
  have hhl : hh ≤ len := by rcases c1 with ⟨_, rfl⟩ | ⟨k, n, _, n0, n1, rfl⟩ <;> omega
  have c1' : (hi = none ∧ hh = len) ∨ ∃ y k n, hi = some y ∧ a.eval y = .int k n ∧ 0 ≤ n ∧ n ≤ (len : Nat) ∧ hh = n.toNat := by
    rcases c1 with ⟨hn, e⟩ | ⟨k, n, hn, n0, n1, e⟩
    · left; cases hi <;> simp at hn; exact ⟨rfl, e⟩
    · right; cases hi <;> simp at hn; exact ⟨_, k, n, rfl, hn, n0, n1, e⟩
  have hsb : ∀ w : World, (Instr.sliceBounds true len cap none (hi.map a.eval) none).run P w = .ok (0, hh, cap) w := by
    intro w
    rcases c1' with ⟨rfl, rfl⟩ | ⟨y, k, n, rfl, ey, n0, n1, rfl⟩
    · simp [Instr.sliceBounds]
    · simp [Instr.sliceBounds, ey, run_sliceBound k n cap _ _ n0 (by omega)]
  refine ⟨hh, hhl, h4, ?_⟩
  simp only [execOp, ho, Sem.run_bind]
  rw [he]
  simp [Instr.sliceAt, Instr.slice, run_underlying' hu, hsb, run_sizeOf' hsz, Addr.add]

theorem ok_slc {t x lo hi mx e sz ax alo ahi amx} (ho : o.op = .slice t x lo hi mx) (hu : P.underlying t = some (.slice e)) (hsz : szOf P e = some sz) (hx : trOpnd x = some ax)
    (hlo : trOpt lo = some alo) (hhi : trOpt hi = some ahi) (hmx : trOpt mx = some amx) (h : exOpN nm env σ R (.slc sz ax alo ahi amx)) : OpOk P o N env σ nm R := by
  refine .still fun K a w hf hs => ?_
  obtain ⟨av, h1, h2⟩ := wth_some h
  have hr := trOpnd_rel hx h1 hf
  cases av <;> simp only [] at h2 <;> first | exact h2.elim | skip
  case vec ob len =>
    obtain ⟨b, cap, he, h3, h4⟩ := rel_vec hr
    obtain ⟨hh, k1, k2, k3⟩ := run_slcV hf ho hu hsz hlo hhi hmx he h4 h2.1 h2.2 w
    exact ⟨_, _, k3, .pre ob hh len b cap h3 k1 h4, k2⟩
  case pre ob len n =>
    obtain ⟨b, cap, he, h3, h4, h5⟩ := rel_pre hr
    obtain ⟨hh, k1, k2, k3⟩ := run_slcV hf ho hu hsz hlo hhi hmx he (by omega) h2.1 h2.2 w
    exact ⟨_, _, k3, .pre ob hh n b cap h3 (by omega) h5, k2⟩
  rename_i l tk
  obtain ⟨p1, h3⟩ := h2
  obtain ⟨hh, h4, c1⟩ := bnd_run hf hhi h3
  obtain ⟨ll, h5, c2⟩ := bnd_run hf hlo h4
  obtain ⟨a0, cap, he, hcap⟩ : ∃ a0 cap, a.eval x = .slice a0 l.length cap ∧ l.length ≤ cap := by
    rcases rel_slice hr with ⟨a', cap', he, rfl, _⟩ | ⟨b, off, cap', sz', u, he, q1, q2, q3, q4, q5⟩
    · exact ⟨a', cap', he, Nat.zero_le _⟩
    · exact ⟨_, cap', he, q5⟩
  have hhl : hh ≤ l.length := by rcases c1 with ⟨_, rfl⟩ | ⟨k, n, _, n0, n1, rfl⟩ <;> omega
  have hlh : ll ≤ hh := by rcases c2 with ⟨_, rfl⟩ | ⟨k, n, _, n0, n1, rfl⟩ <;> omega
  have c1' : (hi = none ∧ hh = l.length) ∨ ∃ y k n, hi = some y ∧ a.eval y = .int k n ∧ 0 ≤ n ∧ n ≤ (l.length : Nat) ∧ hh = n.toNat := by
    rcases c1 with ⟨hn, e⟩ | ⟨k, n, hn, n0, n1, e⟩
    · left; cases hi <;> simp at hn; exact ⟨rfl, e⟩
    · right; cases hi <;> simp at hn; exact ⟨_, k, n, rfl, hn, n0, n1, e⟩
  have c2' : (lo = none ∧ ll = 0) ∨ ∃ y k n, lo = some y ∧ a.eval y = .int k n ∧ 0 ≤ n ∧ n ≤ (hh : Nat) ∧ ll = n.toNat := by
    rcases c2 with ⟨hn, e⟩ | ⟨k, n, hn, n0, n1, e⟩
    · left; cases lo <;> simp at hn; exact ⟨rfl, e⟩
    · right; cases lo <;> simp at hn; exact ⟨_, k, n, rfl, hn, n0, n1, e⟩
  cases amx with
  | none =>
    have hmn : mx = none := by cases mx <;> simp [trOpt] at hmx; rfl
    subst hmn
    have hp := piece_rel hr p1 (lo := ll) (h := hh) (m := cap) hlh hhl (by omega) false (by simp) a0 _ cap he
    refine ⟨_, _, ?_, hp.2 (Nat.le_refl _), h5⟩
    have hsb : ∀ w : World, (Instr.sliceBounds true l.length cap (lo.map a.eval) (hi.map a.eval) none).run P w = .ok (ll, hh, cap) w := by
      intro w
      rcases c1' with ⟨rfl, rfl⟩ | ⟨y, k, n, rfl, ey, n0, n1, rfl⟩ <;> rcases c2' with ⟨rfl, rfl⟩ | ⟨y', k', n', rfl, ey', n0', n1', rfl⟩
      · simp [Instr.sliceBounds]
      · simp [Instr.sliceBounds, ey', run_sliceBound k' n' _ _ _ n0' n1']
      · simp [Instr.sliceBounds, ey, run_sliceBound k n cap _ _ n0 (by omega)]
      · simp [Instr.sliceBounds, ey, ey', run_sliceBound k n cap _ _ n0 (by omega), run_sliceBound k' n' _ _ _ n0' n1']
    simp only [execOp, ho, Sem.run_bind]
    rw [he]
    simp [Instr.sliceAt, Instr.slice, run_underlying' hu, hsb, run_sizeOf' hsz]
  | some am =>
    obtain ⟨k1, h6⟩ := h5
    obtain ⟨mv, h7, h8⟩ := wth_some h6
    cases mx with
    | none => simp [trOpt] at hmx
    | some mo =>
      simp only [trOpt, Option.map_some, Option.map_eq_some_iff] at hmx
      obtain ⟨am', hma, hmb⟩ := hmx
      obtain rfl : am' = am := by simpa using hmb
      have hrm := trOpnd_rel hma h7 hf
      cases mv <;> simp at h8
      rename_i k m
      obtain ⟨m1, m2⟩ := h8
      have em := rel_int hrm
      have hp := piece_rel hr p1 (lo := ll) (h := hh) (m := hh) hlh hhl (Nat.le_refl _) true (fun _ => rfl) a0 _ cap he
      refine ⟨_, _, ?_, hp.2 (by omega), m2⟩
      have hbm : ∀ w : World, (Instr.sliceBound (a.eval mo) cap .slice3Acap).run P w = .ok hh w := by
        intro w; rw [em, run_sliceBound k m cap _ w (by omega) (by omega)]
        congr 1; omega
      have hsb : ∀ w : World, (Instr.sliceBounds true l.length cap (lo.map a.eval) (hi.map a.eval) (some (a.eval mo))).run P w = .ok (ll, hh, hh) w := by
        intro w
        have e1 := hbm w
        rcases c1' with ⟨rfl, _⟩ | ⟨y, k, n, rfl, ey, n0, n1, e0⟩
        · simp [trOpt] at hhi; subst hhi; simp at k1
        · have e3 : (Instr.sliceBound (.int k n) hh .slice3B).run P w = .ok hh w := by
            rw [run_sliceBound k n hh _ w n0 (by omega)]; rw [← e0]
          rcases c2' with ⟨rfl, rfl⟩ | ⟨y', k', n', rfl, ey', n0', n1', rfl⟩
          · simp [Instr.sliceBounds, e1, ey, e3]
          · simp [Instr.sliceBounds, e1, ey, e3, ey', run_sliceBound k' n' _ _ _ n0' n1']
      simp only [execOp, ho, Sem.run_bind]
      rw [he]
      simp [Instr.sliceAt, Instr.slice, run_underlying' hu, hsb, run_sizeOf' hsz]

theorem ok_len {t x e ax} (ho : o.op = .call { callee := .builtin .len, args := #[x], argTypes := #[t] }) (hu : P.underlying t = some (.slice e)) (hx : trOpnd x = some ax)
    (h : exOpN nm env σ R (.len ax)) : OpOk P o N env σ nm R := by
  refine .still fun K a w hf hs => ?_
  obtain ⟨av, h1, h2⟩ := wth_some h
  have hr := trOpnd_rel hx h1 hf
  cases av <;> simp at h2
  case slice l tk =>
    obtain ⟨a0, cap, he⟩ : ∃ a0 cap, a.eval x = .slice a0 l.length cap := by
      rcases rel_slice hr with ⟨a', cap', he, rfl, _⟩ | ⟨b, off, cap', sz', u, he, _⟩
      · exact ⟨a', cap', he⟩
      · exact ⟨_, cap', he⟩
    exact ⟨_, _, by simp [execOp, ho, resolve, invoke, Go.builtin, Builtin.len_, he, run_underlying' hu, goInt] <;> rfl, .int _ _, h2⟩
  case vec ob n =>
    obtain ⟨b, cap, he, _⟩ := rel_vec hr
    exact ⟨_, _, by simp [execOp, ho, resolve, invoke, Go.builtin, Builtin.len_, he, run_underlying' hu, goInt] <;> rfl, .int _ _, h2⟩
  case pre ob len n =>
    obtain ⟨b, cap, he, _⟩ := rel_pre hr
    exact ⟨_, _, by simp [execOp, ho, resolve, invoke, Go.builtin, Builtin.len_, he, run_underlying' hu, goInt] <;> rfl, .int _ _, h2⟩

theorem ok_lenS {t x ax} (ho : o.op = .call { callee := .builtin .len, args := #[x], argTypes := #[t] }) (hu : P.underlying t = some .string) (hx : trOpnd x = some ax)
    (h : exOpN nm env σ R (.lenS ax)) : OpOk P o N env σ nm R := by
  refine .still fun K a w hf hs => ?_
  obtain ⟨av, h1, h2⟩ := wth_some h
  have hr := trOpnd_rel hx h1 hf
  cases av <;> simp at h2
  exact ⟨_, _, by simp [execOp, ho, resolve, invoke, Go.builtin, Builtin.len_, rel_str hr, run_underlying' hu, goInt] <;> rfl, .int _ _, h2⟩

theorem ok_lenA {t x n e} (ho : o.op = .call { callee := .builtin .len, args := #[x], argTypes := #[t] }) (hu : P.underlying t = some (.array n e))
    (h : exOpN nm env σ R (.mov (.c (.int .i64 n)))) : OpOk P o N env σ nm R := by
  refine .still fun K a w hf hs => ?_
  exact ⟨_, _, by simp [execOp, ho, resolve, invoke, Go.builtin, Builtin.len_, run_underlying' hu, goInt] <;> rfl, .int _ _, h⟩

theorem ok_cap {t x e ax} (ho : o.op = .call { callee := .builtin .cap, args := #[x], argTypes := #[t] }) (hu : P.underlying t = some (.slice e)) (hx : trOpnd x = some ax)
    (h : exOpN nm env σ R (.cap ax)) : OpOk P o N env σ nm R := by
  refine .still fun K a w hf hs => ?_
  obtain ⟨av, h1, h2⟩ := wth_some h
  have hr := trOpnd_rel hx h1 hf
  cases av <;> first | exact h2.elim | skip
  rename_i l tk
  cases tk with
  | no => exact h2.elim
  | own t => exact h2.elim
  | nil =>
    obtain ⟨a0, he⟩ : ∃ a0, a.eval x = .slice a0 l.length 0 := by
      rcases rel_slice hr with ⟨a', cap', he, rfl, ht⟩ | ⟨b, off, cap', sz', u, he, _, _, _, ht, _⟩
      · simp at ht; obtain ⟨rfl, rfl⟩ := ht; exact ⟨_, he⟩
      · exact ht.elim
    exact ⟨_, _, by simp [execOp, ho, resolve, invoke, Go.builtin, Builtin.cap_, he, run_underlying' hu, goInt] <;> rfl, .int _ _, h2⟩
  | full =>
    obtain ⟨a0, he⟩ : ∃ a0, a.eval x = .slice a0 l.length l.length := by
      rcases rel_slice hr with ⟨a', cap', he, rfl, ht⟩ | ⟨b, off, cap', sz', u, he, _, _, _, ht, _⟩
      · simp at ht; subst ht; exact ⟨_, he⟩
      · simp [TokOk] at ht; subst ht; exact ⟨_, he⟩
    exact ⟨_, _, by simp [execOp, ho, resolve, invoke, Go.builtin, Builtin.cap_, he, run_underlying' hu, goInt] <;> rfl, .int _ _, h2⟩

theorem minI_run {K : Gh} {avs : List AV} {vs : List Value} {r : Int} (hr : RelL K avs vs) (h : minI avs = some r) (w : World) : (Builtin.min_ #[] 0 vs.toArray).run P w = .ok (.int .i64 r) w := by
  unfold minI at h
  split at h <;> simp at h
  · subst h
    obtain ⟨v, q, rfl, h1, h2⟩ := hr.cons_inv
    obtain rfl : q = [] := by simpa using h2.1.symm
    simp [Builtin.min_, rel_int h1]
  · subst h
    obtain ⟨v, q, rfl, h1, h2⟩ := hr.cons_inv
    obtain ⟨v2, q2, rfl, h3, h4⟩ := h2.cons_inv
    obtain rfl : q2 = [] := by simpa using h4.1.symm
    simp [Builtin.min_, rel_int h1, rel_int h3, Builtin.min2]
  · subst h
    obtain ⟨v, q, rfl, h1, h2⟩ := hr.cons_inv
    obtain ⟨v2, q2, rfl, h3, h4⟩ := h2.cons_inv
    obtain ⟨v3, q3, rfl, h5, h6⟩ := h4.cons_inv
    obtain rfl : q3 = [] := by simpa using h6.1.symm
    simp [Builtin.min_, rel_int h1, rel_int h3, rel_int h5, Builtin.min2]

theorem maxI_run {K : Gh} {avs : List AV} {vs : List Value} {r : Int} (hr : RelL K avs vs) (h : maxI avs = some r) (w : World) : (Builtin.max_ #[] 0 vs.toArray).run P w = .ok (.int .i64 r) w := by
  unfold maxI at h
  split at h <;> simp at h
  · subst h
    obtain ⟨v, q, rfl, h1, h2⟩ := hr.cons_inv
    obtain rfl : q = [] := by simpa using h2.1.symm
    simp [Builtin.max_, rel_int h1]
  · subst h
    obtain ⟨v, q, rfl, h1, h2⟩ := hr.cons_inv
    obtain ⟨v2, q2, rfl, h3, h4⟩ := h2.cons_inv
    obtain rfl : q2 = [] := by simpa using h4.1.symm
    simp [Builtin.max_, rel_int h1, rel_int h3, Builtin.max2]
  · subst h
    obtain ⟨v, q, rfl, h1, h2⟩ := hr.cons_inv
    obtain ⟨v2, q2, rfl, h3, h4⟩ := h2.cons_inv
    obtain ⟨v3, q3, rfl, h5, h6⟩ := h4.cons_inv
    obtain rfl : q3 = [] := by simpa using h6.1.symm
    simp [Builtin.max_, rel_int h1, rel_int h3, rel_int h5, Builtin.max2]

theorem ok_min {args : Array Operand} {ats : Array TypeId} {axs} (ho : o.op = .call { callee := .builtin .min, args := args, argTypes := ats }) (hx : trOpnds args.toList = some axs) (h : exOpN nm env σ R (.min axs)) : OpOk P o N env σ nm R := by
  refine .still fun K a w hf hs => ?_
  obtain ⟨l, h1, h2⟩ := wthL_some h
  have hr := trOpnds_rel hf hx h1
  split at h2
  · rename_i r hm
    have hrun := minI_run (P := P) hr hm w
    refine ⟨_, _, ?_, .int _ _, h2⟩
    have e : Builtin.min_ ats o.type (args.map a.eval) = Builtin.min_ #[] 0 (args.toList.map a.eval).toArray := by simp [Builtin.min_]
    simp only [execOp, ho, resolve, invoke, Go.builtin, e, Sem.run_bind, Sem.run_pure, Result.andThen_ok, hrun]
  · exact h2.elim

theorem ok_max {args : Array Operand} {ats : Array TypeId} {axs} (ho : o.op = .call { callee := .builtin .max, args := args, argTypes := ats }) (hx : trOpnds args.toList = some axs) (h : exOpN nm env σ R (.max axs)) : OpOk P o N env σ nm R := by
  refine .still fun K a w hf hs => ?_
  obtain ⟨l, h1, h2⟩ := wthL_some h
  have hr := trOpnds_rel hf hx h1
  split at h2
  · rename_i r hm
    have hrun := maxI_run (P := P) hr hm w
    refine ⟨_, _, ?_, .int _ _, h2⟩
    have e : Builtin.max_ ats o.type (args.map a.eval) = Builtin.max_ #[] 0 (args.toList.map a.eval).toArray := by simp [Builtin.max_]
    simp only [execOp, ho, resolve, invoke, Go.builtin, e, Sem.run_bind, Sem.run_pure, Result.andThen_ok, hrun]
  · exact h2.elim

/-! ### Structs and arrays -/

theorem fold_put : ∀ (xs : List Value) (k off : Nat) (cs : Array Value), off + k + xs.length ≤ cs.size →
    ((xs.zipIdx k).foldl (fun cs (c, j) => cs.setIfInBounds (off + j) c) cs).toList = cs.toList.take (off + k) ++ xs ++ cs.toList.drop (off + k + xs.length)
  | [], k, off, cs, _ => by simp
  | x :: xs, k, off, cs, h => by
    simp only [List.zipIdx_cons, List.foldl_cons]
    rw [fold_put xs (k + 1) off _ (by simp at h ⊢; omega)]
    have hk : off + k < cs.toList.length := by simp at h ⊢; omega
    rw [Array.toList_setIfInBounds]
    have e := list_seg_step cs.toList (off + k) x xs (by simp at h ⊢; omega)
    simpa [Nat.add_assoc] using e

theorem fold_put' (v : Value) (off : Nat) (cs : Array Value) (h : off + v.cells.size ≤ cs.size) :
    (v.cells.zipIdx.foldl (fun cs (c, j) => cs.setIfInBounds (off + j) c) cs).toList = cs.toList.take off ++ v.cells.toList ++ cs.toList.drop (off + v.cells.toList.length) := by
  rw [← Array.foldl_toList, Array.toList_zipIdx]
  exact fold_put v.cells.toList 0 off cs (by simpa using h)

theorem fill_rel {K : Gh} {a : Act} (hf : Fr K N env a) (place : Nat → Option (Nat × Nat)) : ∀ (parts : List (Nat × Operand)) (aps : List (Nat × Nat × AOpnd)) (cs cs' : List AV) (cells : Array Value),
    parts.length = aps.length → (∀ (k i : Nat) (x : Operand) (off n : Nat) (ax : AOpnd), parts[k]? = some (i, x) → aps[k]? = some (off, n, ax) → place i = some (off, n) ∧ trOpnd x = some ax) →
    RelL K cs cells.toList → fillA env cs aps = some cs' → ∃ cells', Instr.fill place cells (parts.map fun (i, x) => (i, a.eval x)) = some cells' ∧ RelL K cs' cells'.toList
  | [], aps, cs, cs', cells, hl, _, hr, h => by
    have : aps = [] := by cases aps <;> simp at hl; rfl
    subst this
    simp [fillA] at h; subst h
    exact ⟨cells, rfl, hr⟩
  | (i, x) :: parts, aps, cs, cs', cells, hl, hp, hr, h => by
    cases aps with
    | nil => simp at hl
    | cons p aps =>
      obtain ⟨off, n, ax⟩ := p
      obtain ⟨h1, h2⟩ := hp 0 i x off n ax rfl rfl
      simp only [fillA] at h
      split at h
      · rename_i av hav
        split at h
        · rename_i hc
          obtain ⟨hc1, hc2⟩ := hc
          have rv := (trOpnd_rel h2 hav hf).cells
          have hsz : (a.eval x).cells.size = n := by have := rv.1; simp at this; omega
          have hcs : cs.length = cells.size := by simpa using hr.1
          have hput := fold_put' (a.eval x) off cells (by omega)
          have hr' : RelL K (putAt cs off (cellsA av)) ((a.eval x).cells.zipIdx.foldl (fun cs (c, j) => cs.setIfInBounds (off + j) c) cells).toList := by
            rw [hput]; exact hr.putAt rv off
          obtain ⟨cells', e1, e2⟩ := fill_rel hf place parts aps _ cs' _ (by simpa using hl) (fun k i x off n ax hk1 hk2 => hp (k + 1) i x off n ax (by simpa using hk1) (by simpa using hk2)) hr' h
          refine ⟨cells', ?_, e2⟩
          simp only [List.map_cons, Instr.fill, h1]
          rw [if_neg (by simp [hsz]; omega)]
          exact e1
        · simp at h
      · simp at h

theorem trFields_spec {fs : Array Field} : ∀ {ps : List (Nat × Operand)} {aps}, trFields P fs ps = some aps → ps.length = aps.length ∧ ∀ (k i : Nat) (x : Operand) (off n : Nat) (ax : AOpnd), ps[k]? = some (i, x) → aps[k]? = some (off, n, ax) →
    ∃ f, fs[i]? = some f ∧ f.offset = off ∧ szOf P f.type = some n ∧ trOpnd x = some ax
  | [], aps, h => by simp [trFields] at h; subst h; simp
  | (i, x) :: r, aps, h => by
    simp only [trFields] at h
    split at h <;> try (simp at h; done)
    rename_i f a l h1 h2 h3
    split at h <;> simp at h
    rename_i n hn
    subst h
    obtain ⟨k1, k2⟩ := trFields_spec h3
    refine ⟨by simp [k1], fun k i' x' off n' ax e1 e2 => ?_⟩
    cases k with
    | zero => simp at e1 e2; obtain ⟨rfl, rfl⟩ := e1; obtain ⟨rfl, rfl, rfl⟩ := e2; exact ⟨f, h1, rfl, hn, h2⟩
    | succ k => exact k2 k i' x' off n' ax (by simpa using e1) (by simpa using e2)

theorem trElems_spec {sz : Nat} : ∀ {ps : List (Nat × Operand)} {aps}, trElems sz ps = some aps → ps.length = aps.length ∧ ∀ (k i : Nat) (x : Operand) (off n : Nat) (ax : AOpnd), ps[k]? = some (i, x) → aps[k]? = some (off, n, ax) →
    off = i * sz ∧ n = sz ∧ trOpnd x = some ax
  | [], aps, h => by simp [trElems] at h; subst h; simp
  | (i, x) :: r, aps, h => by
    simp only [trElems] at h
    split at h <;> simp at h
    rename_i a l h2 h3
    subst h
    obtain ⟨k1, k2⟩ := trElems_spec h3
    refine ⟨by simp [k1], fun k i' x' off n' ax e1 e2 => ?_⟩
    cases k with
    | zero => simp at e1 e2; obtain ⟨rfl, rfl⟩ := e1; obtain ⟨rfl, rfl, rfl⟩ := e2; exact ⟨rfl, rfl, h2⟩
    | succ k => exact k2 k i' x' off n' ax (by simpa using e1) (by simpa using e2)

theorem run_places' {w : World} {fs : Array Field} (h : fs.toList.all (fun f => (szOf P f.type).isSome) = true) :
    (fs.mapM fun f => do pure (f.offset, ← Go.sizeOf f.type) : Sem (Array (Nat × Nat))).run P w = .ok (fs.map fun f => (f.offset, (szOf P f.type).getD 0)) w := by
  rw [Array.mapM_eq_mapM_toList]
  have key : ∀ l : List Field, l.all (fun f => (szOf P f.type).isSome) = true → (l.mapM fun f => do pure (f.offset, ← Go.sizeOf f.type) : Sem (List (Nat × Nat))).run P w = .ok (l.map fun f => (f.offset, (szOf P f.type).getD 0)) w := by
    intro l
    induction l with
    | nil => intro _; rfl
    | cons f l ih =>
      intro hl
      simp only [List.all_cons, Bool.and_eq_true] at hl
      obtain ⟨n, hn⟩ := Option.isSome_iff_exists.1 hl.1
      have := ih hl.2
      simp only [List.mapM_cons, Sem.run_bind, run_sizeOf' hn, Result.andThen_ok, Sem.run_pure, this, List.map_cons, hn, Option.getD_some]
  simp only [Sem.run_map]
  rw [key _ h]
  simp
  exact Array.ext' (by simp)

theorem ok_buildS {t ps fs z aps} (ho : o.op = .build t ps) (hu : P.underlying t = some (.struct fs)) (hz : zeroOf P t = some z) (hall : fs.toList.all (fun f => (szOf P f.type).isSome) = true)
    (hps : trFields P fs ps.toList = some aps) (h : exOpN nm env σ R (.build z aps)) : OpOk P o N env σ nm R := by
  refine .still fun K a w hf hs => ?_
  simp only [exOpN, exOpG] at h
  split at h
  · rename_i cs hcs
    obtain ⟨v, h1, h2, _⟩ := run_zeroValue' (K := K) hz w
    obtain ⟨k1, k2⟩ := trFields_spec hps
    obtain ⟨cells', e1, e2⟩ := fill_rel hf (fun i => ((fs.map fun f => (f.offset, (szOf P f.type).getD 0)))[i]?) ps.toList aps z cs v.cells k1 (fun k i x off n ax q1 q2 => by
      obtain ⟨f, f1, f2, f3, f4⟩ := k2 k i x off n ax q1 q2
      exact ⟨by simp [f1, f2, f3], f4⟩) h2 hcs
    refine ⟨.agg cs, .agg cells', ?_, .aggL e2, h⟩
    have e3 : (ps.map fun (i, x) => (i, a.eval x)).toList = ps.toList.map fun (i, x) => (i, a.eval x) := by simp
    simp only [execOp, ho, Instr.build, Sem.run_bind, h1, Result.andThen_ok, run_underlying' hu, run_places' hall, e3, e1]
    rfl
  · exact h.elim

theorem ok_buildA {t ps n e sz z aps} (ho : o.op = .build t ps) (hu : P.underlying t = some (.array n e)) (hz : zeroOf P t = some z) (hsz : szOf P e = some sz)
    (hps : trElems sz ps.toList = some aps) (h : exOpN nm env σ R (.build z aps)) : OpOk P o N env σ nm R := by
  refine .still fun K a w hf hs => ?_
  simp only [exOpN, exOpG] at h
  split at h
  · rename_i cs hcs
    obtain ⟨v, h1, h2, _⟩ := run_zeroValue' (K := K) hz w
    obtain ⟨k1, k2⟩ := trElems_spec hps
    obtain ⟨cells', e1, e2⟩ := fill_rel hf (fun i => some (i * sz, sz)) ps.toList aps z cs v.cells k1 (fun k i x off n ax q1 q2 => by
      obtain ⟨f1, f2, f3⟩ := k2 k i x off n ax q1 q2
      exact ⟨by simp [f1, f2], f3⟩) h2 hcs
    refine ⟨.agg cs, .agg cells', ?_, .aggL e2, h⟩
    have e3 : (ps.map fun (i, x) => (i, a.eval x)).toList = ps.toList.map fun (i, x) => (i, a.eval x) := by simp
    simp only [execOp, ho, Instr.build, Sem.run_bind, h1, Result.andThen_ok, run_underlying' hu, run_sizeOf' hsz, e3, e1]
    rfl
  · exact h.elim

end ops
end Abs
