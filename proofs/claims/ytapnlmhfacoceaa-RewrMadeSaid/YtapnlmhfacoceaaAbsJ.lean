/- The abstraction layer, part J: soundness of the predicate transformer; the contract of a function from its body. Over any program. -/
import Derived.Test.YtapnlmhfacoceaaAbsI
set_option linter.unusedSimpArgs false
set_option linter.unusedVariables false
namespace Abs
open Go

theorem Fr.putA {K : Gh} {N env a} (h : Fr K N env a) {d : Option Nat} (hd : ∀ x, d = some x → x < N) {av v} (hr : Rel K av v) : Fr K N (putA d av env) (a.put d v) := by
  cases d with
  | none => exact h
  | some d => exact h.put (hd d rfl) hr
theorem Fr.skipA {K : Gh} {N env a} (h : Fr K N env a) {d : Option Nat} (hd : ∀ x, d = some x → x < N) : Fr K N (skipA d env) (a.put d undef) := by
  cases d with
  | none => exact h
  | some d => exact h.put (hd d rfl) (.tup [] #[] rfl (fun i h => by simp at h))

theorem trInst_some {P N ops o} {i : AInst} (h : trInst P N ops o = some i) : trOp P o.op = some i.op ∧ o.dst = i.dst ∧ (∀ x, o.dst = some x → x < N) ∧ (isStore i.op = true → o.dst = none) ∧
    ((o.guard = none ∧ i.guard = none) ∨ ∃ j b s, o.guard = some (j, b) ∧ i.guard = some (s, b) ∧ (ops[j]?).bind (·.dst) = some s) := by
  unfold trInst at h
  split at h
  · simp at h
  · rename_i a ha
    split at h
    · rename_i hc
      have hc1 : ∀ x, o.dst = some x → x < N := fun x hx => by rw [hx] at hc; simp [dstOk] at hc; exact hc.1
      have hc2 : isStore a = true → o.dst = none := fun hs => by
        cases hd : o.dst with
        | none => rfl
        | some d => rw [hd] at hc; simp [dstOk, hs] at hc
      split at h
      · simp at h; subst h
        rename_i hg
        exact ⟨ha, rfl, hc1, hc2, .inl ⟨hg, rfl⟩⟩
      · rename_i j b hg
        split at h <;> simp at h
        subst h
        rename_i s hs
        exact ⟨ha, rfl, hc1, hc2, .inr ⟨j, b, s, hg, rfl, hs⟩⟩
    · simp at h

theorem callFunc_run {P : Program} {f : FuncId} (h : callable P f = true) (args : Array Value) (w : World) : (callFunc f args).run P w = .ok (.enter f args) w := by
  unfold callable at h
  split at h
  · rename_i fn hf
    simp at h
    obtain ⟨h1, h2⟩ := h
    have h3 : fn.body.isNone = false := by cases hb : fn.body <;> simp_all
    simp only [callFunc, Sem.run_bind, run_program, Result.andThen_ok, hf]
    rw [if_neg (by simp [h2]), if_neg (by simp [h3])]
    rfl
  · simp at h

theorem call_run {P : Program} {o : Oper} {a : Act} {f : Operand} {args : Array Operand} {types : Array TypeId} (ho : o.op = .call { callee := .value f, args := args, argTypes := types }) {g : Nat} {fs cs : Array Value}
    (hf : a.eval f = .func (.func g) fs cs) (hc : callable P g = true) (w : World) : (execOp a.eval o).run P w = .ok (.enter g (fs ++ args.map a.eval ++ cs)) w := by
  simp only [execOp, ho, resolve, hf, Deferred.ofValue, Sem.run_bind, Sem.run_pure, Result.andThen_ok, invoke]
  exact callFunc_run hc _ w

theorem call_meth {P : Program} {o : Oper} {a : Act} {r : Operand} {name : String} {args : Array Operand} {types : Array TypeId} (ho : o.op = .call { callee := .invoke r name, args := args, argTypes := types }) {t g : Nat} {v : Value}
    (hr : a.eval r = .iface t v) (ht : (t, g) ∈ methTbl P name) (hc : callable P g = true) (w : World) : (execOp a.eval o).run P w = .ok (.enter g (#[v] ++ args.map a.eval)) w := by
  have hm := meth_run ht (P.types.size + Made.depth - 1) v w
  have h0 : 0 < Made.depth := by decide
  have e : P.types.size + Made.depth - 1 + 1 = P.types.size + Made.depth := by omega
  rw [e] at hm
  have hx : (#[Value.iface t v] ++ args.map a.eval)[0]? = some (.iface t v) := by rw [Array.getElem?_append_left (by simp)]; rfl
  have hy : (#[Value.iface t v] ++ args.map a.eval).extract 1 (#[Value.iface t v] ++ args.map a.eval).size = args.map a.eval := by
    apply Array.ext'
    simp
    rw [List.take_of_length_le (by simp)]
  simp only [execOp, ho, resolve, hr, Sem.run_bind, Sem.run_pure, Result.andThen_ok, invoke, hx, hy, callMethod, run_program, hm]
  exact callFunc_run hc _ w

theorem meth_rel {K : Gh} {N : Nat} {env : Env} {a : Act} (hf : Fr K N env a) {r : Nat} {tbl : List (Nat × Nat)} {g : Nat} {first caps : List AV} (h : aval env (.m r tbl) = some (.fn g first caps)) :
    ∃ t v av, a.eval (.tmp r) = .iface t v ∧ Rel K av v ∧ (t, g) ∈ tbl ∧ first = [av] ∧ caps = [] := by
  simp only [aval, methA] at h
  split at h
  · rename_i t av he
    simp only [Option.map_eq_some_iff] at h
    obtain ⟨f, h1, h2⟩ := h
    simp only [AV.fn.injEq] at h2
    obtain ⟨rfl, rfl, rfl⟩ := h2
    obtain ⟨u, e, rr⟩ := hf.rel r _ he
    cases rr with
    | iface _ _ v hv => exact ⟨t, v, av, by simp [Act.eval, Array.getD_eq_getD_getElem?, e], hv, fGet_mem h1, rfl, rfl⟩
  · simp at h

theorem call_wp {P : Program} {N : Nat} {Q : AExit → Env → Sig → Prop} {o : Oper} {i : AInst} {env : Env} {S : Nat → Prop} {K0 K : Gh} {a : Act} {w : World} (k : Env → Sig → Prop) (next : Act → World → Prop)
    (hK : K0.leS S K) (hop : trOp P o.op = some i.bare.op) (hdst : o.dst = i.dst) (hdN : ∀ x, o.dst = some x → x < N)
    (hnext : ∀ K1 env1 σ1 a1 w1, K0.leS S K1 → k env1 σ1 → Fr K1 N env1 a1 → Sat K1 σ1 w1 → next a1 w1)
    {f : AOpnd} {args : List AOpnd} (hi : i.op = .call f args) {g : FuncId} {first caps vs : List AV} (f1 : aval env f = some (.fn g first caps)) (f2 : avals env args = some vs) (hcal : callable P g = true)
    (hc : ∀ vals : Array Value, RelL K (first ++ vs ++ caps) vals.toList → Calls P g vals w fun e w' => ∃ K' r σ', K.leS S K' ∧ Sat K' σ' w' ∧ EndRel K' e r ∧ retK (fun v σ' => k (putA i.dst v env) σ') (fun v σ' => Q (.panic v) env σ') r σ')
    (hf : Fr K N env a) : o.wp P a w next (LiftQ N S K0 Q) := by
  have hop' : trOp P o.op = some (.call f args) := by rw [hop]; simp [AInst.bare, hi, AOp.bare]
  generalize ho : o.op = op at hop'
  cases op
  case call c =>
    obtain ⟨callee, cargs, types⟩ := c
    simp only [trOp, trCall] at hop'
    split at hop'
    · split at hop' <;> simp at hop'
      rename_i fo _ fa l t1 t2
      obtain ⟨rfl, rfl⟩ := hop'
      have rf := trOpnd_rel t1 f1 hf
      have ra := trOpnds_rel hf t2 f2
      obtain ⟨fs, cs, ef, r1, r2⟩ := rel_fn rf
      unfold Oper.wp
      rw [call_run ho ef hcal w, Oper.upon_enter]
      have hargs : RelL K (first ++ vs ++ caps) (fs ++ cargs.map a.eval ++ cs).toList := by
        simp only [Array.toList_append, Array.toList_map]
        exact (r1.append ra).append r2
      refine (hc _ hargs).mono ?_
      rintro e w' ⟨K', r, σ', h1, h2, h3, h4⟩
      cases e <;> cases r <;> first | exact h3.elim | skip
      · exact hnext K' _ σ' _ w' (hK.trans h1) h4 (by rw [← hdst]; exact (hf.mono h1.le).putA hdN h3) h2
      · obtain ⟨v, rfl, hv⟩ := h3
        exact ⟨.panic _, K', env, σ', hK.trans h1, ⟨v, rfl, hv⟩, hf.mono h1.le, h2, h4⟩
    · rename_i b hb
      exfalso
      unfold trBuiltin at hop'
      repeat' split at hop'
      all_goals first
        | (simp at hop'; done)
        | (simp only [Option.map_eq_some_iff] at hop'; obtain ⟨_, _, e⟩ := hop'; simp at e)
    · rename_i r name
      simp only [Option.map_eq_some_iff] at hop'
      obtain ⟨l, t2, h2⟩ := hop'
      simp only [AOp.call.injEq] at h2
      obtain ⟨rfl, rfl⟩ := h2
      obtain ⟨t, v, av, ev, rv, hmem, rfl, rfl⟩ := meth_rel hf f1
      have ra := trOpnds_rel hf t2 f2
      unfold Oper.wp
      rw [call_meth ho ev hmem hcal w, Oper.upon_enter]
      have hargs : RelL K ([av] ++ vs ++ []) (#[v] ++ cargs.map a.eval).toList := by
        simp only [Array.toList_append, Array.toList_map, List.append_nil]
        exact (RelL.cons rv .nil).append ra
      refine (hc _ hargs).mono ?_
      rintro e w' ⟨K', r, σ', h1, h2, h3, h4⟩
      cases e <;> cases r <;> first | exact h3.elim | skip
      · exact hnext K' _ σ' _ w' (hK.trans h1) h4 (by rw [← hdst]; exact (hf.mono h1.le).putA hdN h3) h2
      · obtain ⟨v, rfl, hv⟩ := h3
        exact ⟨.panic _, K', env, σ', hK.trans h1, ⟨v, rfl, hv⟩, hf.mono h1.le, h2, h4⟩
    · simp at hop'
  case makeFunc fn first caps =>
    exfalso
    cases fn <;> simp only [trOp] at hop' <;> try (simp at hop'; done)
    split at hop' <;> simp at hop'
  case makeMap t r => exfalso; cases r <;> simp [trOp] at hop'
  all_goals
    exfalso
    simp only [trOp] at hop'
    repeat' split at hop'
    all_goals first
      | (simp at hop'; done)
      | (simp only [Option.map_eq_some_iff] at hop'; obtain ⟨_, _, e⟩ := hop'; simp at e)

theorem inst_wp {P : Program} {N : Nat} {Q : AExit → Env → Sig → Prop} {o : Oper} {i : AInst} {env : Env} {σ : Sig} {S : Nat → Prop} (hS : Bnd S) {K0 K : Gh} {a : Act} {w : World} (k : Env → Sig → Prop) (next : Act → World → Prop)
    (hK : K0.leS S K) (hop : trOp P o.op = some i.bare.op) (hdst : o.dst = i.dst) (hdN : ∀ x, o.dst = some x → x < N) (hst : isStore i.bare.op = true → o.dst = none)
    (hnext : ∀ K1 env1 σ1 a1 w1, K0.leS S K1 → k env1 σ1 → Fr K1 N env1 a1 → Sat K1 σ1 w1 → next a1 w1)
    (hrun : instRun P Q (fun v σ' => k (putA i.dst v env) σ') env σ i.op)
    (hf : Fr K N env a) (hs : Sat K σ w) : o.wp P a w next (LiftQ N S K0 Q) := by
  have gen : ∀ op, i.op = op → exOp env σ (fun v σ' => k (putA i.dst v env) σ') op → o.wp P a w next (LiftQ N S K0 Q) := by
    intro op hop' h
    obtain ⟨nm, n1, n2, n3⟩ := freshFor hs hS
    obtain ⟨K', av, ef, v, w', h1, h2, h3, h4, h5⟩ := op_ok (N := N) hop (a' := op) (by rw [← hop']; rfl) hst (exOp_N n3 h) S K a w hf hs n1 n2
    unfold Oper.wp
    rcases h1 with h1 | ⟨h1, hd⟩
    · rw [h1]
      show next (a.put o.dst v) w'
      exact hnext K' _ _ _ w' (hK.trans h2) h5 (by rw [← hdst]; exact (hf.mono h2.le).putA hdN h3) h4
    · rw [h1]
      show next (a.put o.dst undef) w'
      refine hnext K' _ _ _ w' (hK.trans h2) h5 ?_ h4
      rw [← hdst, hd]; exact hf.mono h2.le
  cases hi : i.op
  case call f args =>
    rw [hi] at hrun
    obtain ⟨fv, f1, hr1⟩ := wth_some hrun
    obtain ⟨vs, f2, hr2⟩ := wthL_some hr1
    clear hrun hr1
    cases fv <;> first | exact hr2.elim | skip
    rename_i g first caps
    exact call_wp k next hK hop hdst hdN hnext hi f1 f2 hr2.1 (fun vals hargs => hr2.2 S K w vals hS hargs hs) hf
  case panic x =>
    rw [hi] at hrun
    obtain ⟨v, f1, hr1⟩ := wth_some hrun
    clear hrun
    cases v <;> first | exact hr1.elim | skip
    rename_i t av
    have hop' : trOp P o.op = some (.panic x) := by rw [hop]; simp [AInst.bare, hi, AOp.bare]
    generalize ho : o.op = op at hop'
    cases op
    case panic y =>
      simp only [trOp, Option.map_eq_some_iff] at hop'
      obtain ⟨z, t1, t2⟩ := hop'
      simp at t2; subst t2
      have rv := trOpnd_rel t1 f1 hf
      generalize hy : a.eval y = yv at rv
      cases rv with
      | iface _ _ u hu =>
        unfold Oper.wp
        have : (execOp a.eval o).run P w = .halt (.panic (.iface t u)) w := by simp [execOp, ho, hy, Instr.panic]
        rw [this, Oper.upon_panic]
        exact ⟨.panic (.iface t av), K, env, σ, hK, ⟨_, rfl, .iface t av u hu⟩, hf, hs, hr1⟩
    case call c =>
      exfalso
      obtain ⟨callee, cargs, types⟩ := c
      simp only [trOp, trCall] at hop'
      split at hop'
      · split at hop' <;> simp at hop'
      · unfold trBuiltin at hop'
        repeat' split at hop'
        all_goals first
          | (simp at hop'; done)
          | (simp only [Option.map_eq_some_iff] at hop'; obtain ⟨_, _, e⟩ := hop'; simp at e)
      · simp only [Option.map_eq_some_iff] at hop'; obtain ⟨_, _, e⟩ := hop'; simp at e
      · simp at hop'
    case makeFunc fn first caps =>
      exfalso
      cases fn <;> simp only [trOp] at hop' <;> try (simp at hop'; done)
      split at hop' <;> simp at hop'
    case makeMap t r => exfalso; cases r <;> simp [trOp] at hop'
    all_goals
      exfalso
      simp only [trOp] at hop'
      repeat' split at hop'
      all_goals first
        | (simp at hop'; done)
        | (simp only [Option.map_eq_some_iff] at hop'; obtain ⟨_, _, e⟩ := hop'; simp at e)
  all_goals
    rw [hi] at hrun
    exact gen _ hi hrun

theorem guard_wanted {K : Gh} {N env a} (hf : Fr K N env a) {ops : Array Oper} {o : Oper} {j : Nat} {b p : Bool} {s : Nat} (hg : o.guard = some (j, b)) (hd : (ops[j]?).bind (·.dst) = some s) (hp : lk env s = some (.bool p)) :
    Region.wanted o (yielded ops a.tmps) = (p == b) := by
  obtain ⟨v, h1, h2⟩ := hf.rel s _ hp
  have := rel_bool h2
  subst this
  simp [Region.wanted, hg, yielded, hd, h1]

theorem guard_undef {K : Gh} {N env a} (hf : Fr K N env a) {ops : Array Oper} {o : Oper} {j : Nat} {b : Bool} {s : Nat} {vs : List AV} (hg : o.guard = some (j, b)) (hd : (ops[j]?).bind (·.dst) = some s) (hp : lk env s = some (.tup vs)) :
    Region.wanted o (yielded ops a.tmps) = false := by
  obtain ⟨v, h1, h2⟩ := hf.rel s _ hp
  cases h2 with
  | tup _ us _ _ => simp [Region.wanted, hg, yielded, hd, h1]

theorem insts_ok {P : Program} {N : Nat} {Q : AExit → Env → Sig → Prop} {ops : Array Oper} {S : Nat → Prop} (hS : Bnd S) {K0 : Gh} : ∀ (is : List AInst) (k : Nat) (os : List Oper), ops.toList.drop k = os → trInsts P N ops os = some (is.map AInst.bare) →
    ∀ env σ K a w, K0.leS S K → exInsts P Q is env σ → Fr K N env a → Sat K σ w → wpOps P ops (LiftQ N S K0 Q) (List.range' k os.length) a w
  | [], k, os, hos, ht, env, σ, K, a, w, hK, hx, hf, hs => by
    cases os with
    | cons o os => simp only [trInsts] at ht; split at ht <;> simp at ht
    | nil =>
      simp only [List.length_nil, List.range'_zero, wpOps]
      exact ⟨.normal, K, env, σ, hK, trivial, hf, hs, hx⟩
  | i :: is, k, os, hos, ht, env, σ, K, a, w, hK, hx, hf, hs => by
    cases os with
    | nil => simp [trInsts] at ht
    | cons o os =>
      simp only [trInsts] at ht
      split at ht <;> simp at ht
      rename_i i' l h1 h2
      obtain ⟨rfl, rfl⟩ := ht
      obtain ⟨t1, t2, t3, t4, t5⟩ := trInst_some h1
      have hget : ops[k]? = some o := by
        have := congrArg (·[0]?) hos
        simpa using this
      have hdrop : ops.toList.drop (k + 1) = os := by
        rw [← List.drop_drop, hos]; rfl
      have ih := fun env σ K a w hK hx hf hs => insts_ok (Q := Q) hS (K0 := K0) is (k + 1) os hdrop h2 env σ K a w hK hx hf hs
      rw [List.length_cons, List.range'_succ]
      simp only [wpOps, hget]
      obtain ⟨d, op, g⟩ := i
      have key := inst_wp (P := P) (N := N) (Q := Q) (o := o) (i := ⟨d, op, g⟩) (env := env) (σ := σ) hS (K0 := K0) (K := K) (a := a) (w := w) (fun env σ => exInsts P Q is env σ)
        (wpOps P ops (LiftQ N S K0 Q) (List.range' (k + 1) os.length)) hK t1 t2 t3 t4 (fun K1 env1 σ1 a1 w1 q1 q2 q3 q4 => ih env1 σ1 K1 a1 w1 q1 q2 q3 q4)
      simp only [exInsts] at hx
      rcases t5 with ⟨g1, g2⟩ | ⟨j, b, s, g1, g2, g3⟩
      · have hgn : g = none := by simpa [AInst.bare] using g2
        subst hgn
        simp only [Region.wanted, g1, if_true]
        left
        exact key hx hf hs
      · have hgs : g = some (s, b) := by simpa [AInst.bare] using g2
        subst hgs
        obtain ⟨gv, e1, hx⟩ := wth_some hx
        have skips : exInsts P Q is (Abs.skipA d env) σ → wpOps P ops (LiftQ N S K0 Q) (List.range' (k + 1) os.length) (a.put o.dst undef) w := fun hx => by
          refine ih _ σ K _ w hK hx ?_ hs
          have e2 : o.dst = d := t2
          rw [e2]; exact hf.skipA (fun x hx => t3 x (by rw [e2]; exact hx))
        cases gv <;> first | exact hx.elim | skip
        case tup vs =>
          rw [guard_undef hf g1 g3 e1]
          simp only [Bool.false_eq_true, if_false]
          exact skips hx
        rename_i p
        rw [guard_wanted hf g1 g3 e1]
        by_cases hpb : p = b
        · simp only [hpb, beq_self_eq_true, if_true]
          left
          exact key (hx.1 hpb) hf hs
        · have : (p == b) = false := by simpa using hpb
          simp only [this, Bool.false_eq_true, if_false]
          exact skips (hx.2 hpb)

end Abs
