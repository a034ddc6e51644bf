/- The abstraction layer, part K: whole bodies; the contract of a function from its body. Over any program. -/
import Derived.Orders
import Derived.Test.YtbbihmmobfmadaaGreatOAbsM
set_option linter.unusedSimpArgs false
set_option linter.unusedVariables false
namespace Abs
open Go

/-! ### Logs of writes -/
section
variable {β : Type}
def wr (f : Nat → Option β) (e : Nat → Option (Option β)) : Nat → Option β := fun s => (e s).getD (f s)
def runL (D : Nat → Bool) : List (Nat → Option (Option β)) → Nat → (Nat → Option β) → Nat → Option β
  | [], _, f => f
  | e :: es, n, f => runL D es (n + 1) (if D n then wr f e else f)
theorem runL_agree {D D' : Nat → Bool} {s : Nat} : ∀ (L : List (Nat → Option (Option β))) (n : Nat) (f f' : Nat → Option β), f s = f' s →
    (∀ j e v, L[j]? = some e → e s = some v → D (n + j) = D' (n + j)) → runL D L n f s = runL D' L n f' s
  | [], _, f, f', h, _ => h
  | e :: es, n, f, f', h, hd => by
    simp only [runL]
    refine runL_agree es (n + 1) _ _ ?_ fun j e' v hj he' => ?_
    · cases he : e s with
      | none => split <;> split <;> simp [wr, he, h]
      | some v =>
        have := hd 0 e v (by simp) he
        simp only [Nat.add_zero] at this
        rw [this]
        split <;> simp [wr, he, h]
    · have := hd (j + 1) e' v (by simpa using hj) he'
      rwa [show n + 1 + j = n + (j + 1) by omega]
theorem runL_false (L : List (Nat → Option (Option β))) : ∀ (n : Nat) (f : Nat → Option β), runL (fun _ => false) L n f = f := by
  induction L with
  | nil => intro n f; rfl
  | cons e es ih => intro n f; simp only [runL, Bool.false_eq_true, if_false]; exact ih (n + 1) f
theorem runL_none {D : Nat → Bool} {s : Nat} (L : List (Nat → Option (Option β))) (n : Nat) (f : Nat → Option β)
    (h : ∀ j e v, L[j]? = some e → e s = some v → D (n + j) = false) : runL D L n f s = f s := by
  have h1 := runL_agree (D := D) (D' := fun _ => false) L n f f rfl (fun j e v hj he => h j e v hj he)
  rw [h1, runL_false]
theorem runL_lt (L : List (Nat → Option (Option β))) (n m : Nat) (h : m ≤ n) (f : Nat → Option β) : runL (fun i => decide (i < m)) L n f = f := by
  funext s
  exact runL_none L n f fun j e v _ _ => by simp; omega
theorem runL_key {D : Nat → Bool} {s : Nat} {v : Option β} : ∀ (L : List (Nat → Option (Option β))) (n i : Nat) (f : Nat → Option β) (e : Nat → Option (Option β)), L[i]? = some e → e s = some v → D (n + i) = true →
    (∀ j e' u, i < j → L[j]? = some e' → e' s = some u → D (n + j) = false) → runL D L n f s = v
  | [], n, i, f, e, h, _, _, _ => by simp at h
  | e :: es, n, 0, f, e0, h, hv, hd, hl => by
    simp at h; subst h
    simp only [runL]
    simp only [Nat.add_zero] at hd
    rw [runL_none es (n + 1) _ fun j e' u hj he' => by
      have := hl (j + 1) e' u (by omega) (by simpa using hj) he'
      rwa [show n + 1 + j = n + (j + 1) by omega]]
    simp [hd, wr, hv]
  | e :: es, n, i + 1, f, e0, h, hv, hd, hl => by
    simp only [runL]
    refine runL_key es (n + 1) i _ e0 (by simpa using h) hv (by rwa [show n + 1 + i = n + (i + 1) by omega]) fun j e' u hij hj he' => ?_
    have := hl (j + 1) e' u (by omega) (by simpa using hj) he'
    rwa [show n + 1 + j = n + (j + 1) by omega]
def addD (D : Nat → Bool) (i : Nat) : Nat → Bool := fun j => D j || decide (j = i)
theorem runL_add {D : Nat → Bool} {L : List (Nat → Option (Option β))} {i : Nat} {f : Nat → Option β} {e : Nat → Option (Option β)} (he : L[i]? = some e) (hD : D i = false)
    (hl : ∀ j s e' u v, i < j → D j = true → e s = some v → L[j]? = some e' → e' s = some u → False) : runL (addD D i) L 0 f = wr (runL D L 0 f) e := by
  funext s
  cases hs : e s with
  | none =>
    simp only [wr, hs, Option.getD_none]
    refine runL_agree L 0 f f rfl fun j e' v hj hv => ?_
    simp only [Nat.zero_add, addD]
    by_cases hji : j = i
    · subst hji
      rw [he] at hj
      cases hj
      rw [hs] at hv; simp at hv
    · simp [hji]
  | some v =>
    simp only [wr, hs, Option.getD_some]
    refine runL_key L 0 i f e he hs (by simp [addD]) fun j e' u hij hj hu => ?_
    simp only [Nat.zero_add, addD]
    have : j ≠ i := by omega
    cases hDj : D j
    · simp [this]
    · exact (hl j s e' u v hij hDj hs hj hu).elim
theorem last_of {p : Nat → Prop} {n : Nat} (hb : ∀ j, p j → j < n) (h : ∃ j, p j) : ∃ j, p j ∧ ∀ j', j < j' → ¬ p j' := by
  induction n with
  | zero => obtain ⟨j, hj⟩ := h; have := hb j hj; omega
  | succ n ih =>
    by_cases hn : p n
    · exact ⟨n, hn, fun j' hlt hp => by have := hb j' hp; omega⟩
    · exact ih (fun j hj => by
        have := hb j hj
        have hne : j ≠ n := fun e => hn (e ▸ hj)
        omega)
theorem runL_or {D : Nat → Bool} {L : List (Nat → Option (Option β))} {s i : Nat} {f : Nat → Option β} (h : ∀ j e v, L[j]? = some e → e s = some v → j < i → D j = true) :
    runL D L 0 f s = runL (fun j => decide (j < i)) L 0 f s ∨ ∃ j e v, L[j]? = some e ∧ e s = some v ∧ D j = true ∧ i ≤ j ∧ runL D L 0 f s = v := by
  by_cases hx : ∃ j, (∃ e v, L[j]? = some e ∧ e s = some v) ∧ D j = true ∧ i ≤ j
  · right
    obtain ⟨j, ⟨⟨e, v, h1, h2⟩, h3, h4⟩, hlast⟩ := last_of (n := L.length) (fun j hj => by
      obtain ⟨⟨e, v, h1, _⟩, _⟩ := hj
      exact (List.getElem?_eq_some_iff.1 h1).1) hx
    refine ⟨j, e, v, h1, h2, h3, h4, runL_key L 0 j f e h1 h2 (by simpa using h3) fun j' e' u hlt hj' hu => ?_⟩
    simp only [Nat.zero_add]
    cases hD : D j' with
    | false => rfl
    | true => exact (hlast j' hlt ⟨⟨e', u, hj', hu⟩, hD, by omega⟩).elim
  · left
    refine runL_agree L 0 f f rfl fun j e v hj hv => ?_
    simp only [Nat.zero_add]
    by_cases hji : j < i
    · rw [h j e v hj hv hji]; simp [hji]
    · cases hD : D j with
      | false => simp [hji]
      | true => exact (hx ⟨j, ⟨e, v, hj, hv⟩, hD, by omega⟩).elim
end

/-! ### What the text's order gives -/
structure Out where
  act : Bool
  val : AV
  eff : List (Nat × AObj)
def Out.env (o : Out) (i : AInst) (env : Env) : Env := if o.act then putA i.dst o.val env else skipA i.dst env
def lastU : List (Nat × AObj) → Nat → Option AObj
  | [], _ => none
  | (o, x) :: r, s => match lastU r s with
    | some y => some y
    | none => if s = o then some x else none
theorem apps_last : ∀ (us : List (Nat × AObj)) (σ : Sig) (s : Nat), apps σ us s = (lastU us s).or (σ s)
  | [], σ, s => rfl
  | (o, x) :: r, σ, s => by
    simp only [apps, lastU, apps_last r]
    cases lastU r s with
    | some y => rfl
    | none =>
      simp only [Option.none_or, upd]
      split <;> simp_all
theorem lastU_mem : ∀ {us : List (Nat × AObj)} {s : Nat} {x : AObj}, lastU us s = some x → (s, x) ∈ us
  | [], s, x, h => by simp [lastU] at h
  | (o, y) :: r, s, x, h => by
    simp only [lastU] at h
    split at h
    · rename_i z hz
      have hm := lastU_mem (us := r) (s := s) hz
      simp at h; subst h
      exact List.mem_cons_of_mem _ hm
    · split at h
      · rename_i hs; simp at h; subst h; subst hs; exact List.mem_cons_self
      · simp at h
def eEntry (i : AInst) (o : Out) : Nat → Option (Option AV) := fun s => if i.dst = some s then some (some (if o.act then o.val else .tup [])) else none
def sEntry (o : Out) : Nat → Option (Option AObj) := fun s => (lastU o.eff s).map some
theorem lk_out (i : AInst) (o : Out) (env : Env) : lk (o.env i env) = wr (lk env) (eEntry i o) := by
  obtain ⟨d, op, g⟩ := i
  obtain ⟨act, val, eff⟩ := o
  funext s
  cases act <;> cases d <;> simp only [Out.env, putA, skipA, eEntry, wr, lk, if_true, if_false, Bool.false_eq_true, reduceCtorEq, Option.getD_none, Option.some.injEq]
  all_goals (split <;> split <;> simp_all)
theorem app_wr (σ : Sig) (o : Out) : apps σ o.eff = wr σ (sEntry o) := by
  funext s
  rw [apps_last]
  simp only [sEntry, wr]
  cases lastU o.eff s <;> rfl
theorem app_toList (σ : Sig) (e : Option (Nat × AObj)) : app σ e = apps σ e.toList := by
  cases e with
  | none => rfl
  | some p => rfl
theorem allIn_mem {σ : Sig} : ∀ {us : List (Nat × AObj)}, allIn σ us → ∀ p ∈ us, σ p.1 ≠ none
  | [], _, p, hp => by simp at hp
  | (a, x) :: r, h, p, hp => by
    rcases List.mem_cons.1 hp with rfl | hp
    · exact h.1
    · exact allIn_mem h.2 p hp
theorem notIn_mem {o : Nat} : ∀ {us : List (Nat × AObj)}, notIn o us → ∀ p ∈ us, p.1 ≠ o
  | [], _, p, hp => by simp at hp
  | (a, x) :: r, h, p, hp => by
    rcases List.mem_cons.1 hp with rfl | hp
    · exact h.1
    · exact notIn_mem h.2 p hp
theorem stable_mem {o : Nat} {rd : Option (Nat × Nat × List AV)} : ∀ {us : List (Nat × AObj)}, stable o rd us → ∀ x, (o, x) ∈ us → ∃ off n vs cs, rd = some (off, n, vs) ∧ x = .cells cs ∧ off + n ≤ cs.length ∧ (cs.drop off).take n = vs
  | [], _, x, hx => by simp at hx
  | (a, y) :: r, h, x, hx => by
    rcases List.mem_cons.1 hx with he | hx
    · cases he
      rcases h.1 with h1 | h1
      · exact absurd rfl h1
      · split at h1
        · exact ⟨_, _, _, _, rfl, rfl, h1.1, h1.2⟩
        · exact h1.elim
    · exact stable_mem h.2 x hx
def drawsOp : AOp → Bool
  | .ext x => x.draws
  | _ => true
def RunIs (P : Program) (nm : Nat) (env : Env) (σ σb : Sig) (v : AV) (e : List (Nat × AObj)) : AOp → Prop
  | .call f args => ∃ g first caps vs, aval env f = some (.fn g first caps) ∧ avals env args = some vs ∧ ((DCall P g (first ++ vs ++ caps) σb v e ∧ allIn σ e) ∨ ∃ x, e = [(nm, x)] ∧ NCall P g (first ++ vs ++ caps) σb nm v x)
  | op => drawsOp op = true ∧ ∃ e0, e = e0.toList ∧ exOpN nm env σ (fun a e' => a = v ∧ e' = e0) op ∧ EffOk nm σ (touch nm env op) (isW op) e0
def StepIs (P : Program) (nm : Nat) (env : Env) (σ σb : Sig) (i : AInst) (o : Out) : Prop :=
  (o.act = true ∧ (i.guard = none ∨ ∃ s b, i.guard = some (s, b) ∧ lk env s = some (.bool b)) ∧ RunIs P nm env σ σb o.val o.eff i.op) ∨
  (o.act = false ∧ o.eff = [] ∧ ∃ s b, i.guard = some (s, b) ∧ ((∃ p, lk env s = some (.bool p) ∧ p ≠ b) ∨ ∃ vs, lk env s = some (.tup vs)))
def tOut (env : Env) (σ : Sig) (i : AInst) (o : Out) : Option TI :=
  match i.op with
  | .call _ _ => some (.call o.eff)
  | op => match o.eff with
    | (k, _) :: _ => some (.mem k none)
    | [] => touchL env σ op
def tNext (n : Nat) (env : Env) (σ : Sig) (i : AInst) (o : Out) (tl : List (Nat × TI)) : List (Nat × TI) :=
  match i.op with
  | .call _ _ => (n, .call o.eff) :: tl
  | op => tch n env σ op tl o.eff.head?
theorem look2_tch {n : Nat} {env : Env} {σ : Sig} {i : AInst} {o : Out} {tl} {m : Nat} (h : m ≠ n) : look2 m (tNext n env σ i o tl) = look2 m tl := by
  unfold tNext
  split
  · simp [look2, h]
  · unfold tch
    split
    · simp [look2, h]
    · split <;> simp [look2, h]
theorem look2_tch_same {n : Nat} {env : Env} {σ : Sig} {i : AInst} {o : Out} {tl} {k : TI} (h : tOut env σ i o = some k) : look2 n (tNext n env σ i o tl) = some k := by
  unfold tOut at h
  unfold tNext
  split at h
  · simp at h; subst h; simp [look2]
  · unfold tch
    split at h
    · rename_i he; rw [he]; simp at h; subst h; simp [look2]
    · rename_i he; rw [he]; simp [h, look2]
theorem exDraw_plan {P : Program} {pairs : List (Nat × Nat)} {k : Env → Sig → Prop} {nm : Nat → Nat} (hnm : ∀ i j, nm i = nm j → i = j) : ∀ (is : List AInst) (n : Nat) (tl : List (Nat × TI)) (env : Env) (σ : Sig),
    (∀ m, n ≤ m → σ (nm m) = none) → exDraw P pairs k is n tl env σ → ∃ (os : List Out) (tf : List (Nat × TI)) (envF : Env), os.length = is.length ∧
      (∀ (j : Nat) i o, is[j]? = some i → os[j]? = some o → ∃ env', lk env' = runL (fun m => decide (m < n + j)) (List.zipWith eEntry is os) n (lk env) ∧
        StepIs P (nm (n + j)) env' (runL (fun m => decide (m < n + j)) (os.map sEntry) n σ) (baseS (n + j) (runL (fun m => decide (m < n + j)) (os.map sEntry) n σ) pairs) i o ∧
        (o.act = true → ∀ t, tOut env' (runL (fun m => decide (m < n + j)) (os.map sEntry) n σ) i o = some t → look2 (n + j) tf = some t)) ∧
      (∀ m, m < n → look2 m tf = look2 m tl) ∧ apartP tf pairs ∧
      lk envF = runL (fun _ => true) (List.zipWith eEntry is os) n (lk env) ∧ k envF (runL (fun _ => true) (os.map sEntry) n σ)
  | [], n, tl, env, σ, _, h => ⟨[], tl, env, rfl, by simp, fun _ _ => rfl, h.1, rfl, h.2⟩
  | i :: is, n, tl, env, σ, hfr, h => by
    -- the step and what lies behind it
    have step : ∃ o, StepIs P (nm n) env σ (baseS n σ pairs) i o ∧ exDraw P pairs k is (n + 1) (if o.act then tNext n env σ i o tl else tl) (o.env i env) (apps σ o.eff) ∧
        (∀ m, n + 1 ≤ m → apps σ o.eff (nm m) = none) := by
      obtain ⟨d, op, g⟩ := i
      have skip : (∃ s b, g = some (s, b) ∧ ((∃ p, lk env s = some (.bool p) ∧ p ≠ b) ∨ ∃ vs, lk env s = some (.tup vs))) → exDraw P pairs k is (n + 1) tl (skipA d env) σ → ∃ o, StepIs P (nm n) env σ (baseS n σ pairs) ⟨d, op, g⟩ o ∧ exDraw P pairs k is (n + 1) (if o.act then tNext n env σ ⟨d, op, g⟩ o tl else tl) (o.env ⟨d, op, g⟩ env) (apps σ o.eff) ∧
          (∀ m, n + 1 ≤ m → apps σ o.eff (nm m) = none) := fun hg h => ⟨⟨false, .nilp, []⟩, .inr ⟨rfl, rfl, hg⟩, by simpa [Out.env, apps] using h, fun m hm => hfr m (by omega)⟩
      have run : (g = none ∨ ∃ s b, g = some (s, b) ∧ lk env s = some (.bool b)) → instDraw P (fun v e => exDraw P pairs k is (n + 1) (tch n env σ op tl e) (putA d v env) (app σ e)) (fun v us => exDraw P pairs k is (n + 1) ((n, .call us) :: tl) (putA d v env) (apps σ us)) env σ (baseS n σ pairs) op →
          ∃ o, StepIs P (nm n) env σ (baseS n σ pairs) ⟨d, op, g⟩ o ∧ exDraw P pairs k is (n + 1) (if o.act then tNext n env σ ⟨d, op, g⟩ o tl else tl) (o.env ⟨d, op, g⟩ env) (apps σ o.eff) ∧
          (∀ m, n + 1 ≤ m → apps σ o.eff (nm m) = none) := by
        intro hg h
        have gen : exOpG (fun k => fresh σ k) env σ (fun v e => exDraw P pairs k is (n + 1) (tch n env σ op tl e) (putA d v env) (app σ e)) op → (∀ f l, op ≠ .call f l) → drawsOp op = true → ∃ o, StepIs P (nm n) env σ (baseS n σ pairs) ⟨d, op, g⟩ o ∧ exDraw P pairs k is (n + 1) (if o.act then tNext n env σ ⟨d, op, g⟩ o tl else tl) (o.env ⟨d, op, g⟩ env) (apps σ o.eff) ∧
            (∀ m, n + 1 ≤ m → apps σ o.eff (nm m) = none) := by
          intro h hne hdr
          have h' : exOpN (nm n) env σ (fun v e => exDraw P pairs k is (n + 1) (tch n env σ op tl e) (putA d v env) (app σ e)) op := exOpG_mono (fun k hk => hk (nm n) (hfr n (Nat.le_refl n))) h
          obtain ⟨v, e, h1, h2, h3⟩ := exOpN_det (nm n) env σ op (fun x e => by subst e; exact hdr) _ h'
          have etn : tNext n env σ ⟨d, op, g⟩ ⟨true, v, e.toList⟩ tl = tch n env σ op tl e := by
            unfold tNext
            split
            · rename_i f l hop; exact absurd hop (hne _ _)
            · cases e <;> rfl
          refine ⟨⟨true, v, e.toList⟩, .inl ⟨rfl, hg, ?_⟩, by simp only [if_true, etn]; rw [app_toList] at h1; simpa [Out.env] using h1, fun m hm => ?_⟩
          · cases op <;> first | exact ⟨hdr, e, rfl, h3, h2⟩ | exact absurd rfl (hne _ _)
          · rw [← app_toList]
            rcases h2 with ⟨rfl, _⟩ | ⟨_, o, x, rfl, _, ho⟩
            · exact hfr m (by omega)
            · have hmo : nm m ≠ o := by
                rcases ho with rfl | ho
                · intro e; have := hnm _ _ e; omega
                · intro e; rw [← e] at ho; exact ho (hfr m (by omega))
              simp only [app, upd, hmo, if_false]
              exact hfr m (by omega)
        cases op
        case call f args =>
          obtain ⟨fv, f1, h1⟩ := wth_some h
          obtain ⟨vs, f2, h2⟩ := wthL_some h1
          cases fv <;> first | exact h2.elim | skip
          rename_i g' first caps
          rcases h2 with ⟨v, us, h3, h4, h5⟩ | ⟨v, x, hN⟩
          · refine ⟨⟨true, v, us⟩, .inl ⟨rfl, hg, g', first, caps, vs, f1, f2, .inl ⟨h3, h4⟩⟩, by simpa [Out.env, tNext] using h5, fun m hm => ?_⟩
            rw [apps_last]
            cases hl : lastU us (nm m) with
            | none => simpa using hfr m (by omega)
            | some x => exact absurd (hfr m (by omega)) (allIn_mem h4 _ (lastU_mem hl))
          · obtain ⟨h3, h5⟩ := hN (nm n) (hfr n (Nat.le_refl n))
            refine ⟨⟨true, v (nm n), [(nm n, x)]⟩, .inl ⟨rfl, hg, g', first, caps, vs, f1, f2, .inr ⟨x, rfl, h3⟩⟩, by simpa [Out.env, tNext] using h5, fun m hm => ?_⟩
            have hmn : nm m ≠ nm n := fun e => by have := hnm _ _ e; omega
            simp only [apps, upd, hmn, if_false]
            exact hfr m (by omega)
        case ext x =>
          simp only [instDraw] at h
          split at h
          · rename_i hd
            exact gen h (by intro f l e; simp at e) hd
          · exact h.elim
        all_goals exact gen h (by intro f l e; simp at e) rfl
      simp only [exDraw] at h
      cases g with
      | none => exact run (.inl rfl) h
      | some p =>
        obtain ⟨s, b⟩ := p
        obtain ⟨gv, e1, h⟩ := wth_some h
        cases gv <;> first | exact h.elim | skip
        case tup vs => exact skip ⟨s, b, rfl, .inr ⟨vs, e1⟩⟩ h
        rename_i p
        by_cases hpb : p = b
        · exact run (.inr ⟨s, b, rfl, hpb ▸ e1⟩) (h.1 hpb)
        · exact skip ⟨s, b, rfl, .inl ⟨p, e1, hpb⟩⟩ (h.2 hpb)
    obtain ⟨o, h1, h2, h3⟩ := step
    obtain ⟨os, tf, envF, q1, q2, q3, q4, q5, q6⟩ := exDraw_plan hnm is (n + 1) _ _ _ h3 h2
    refine ⟨o :: os, tf, envF, by simp [q1], ?_, ?_, q4, ?_, ?_⟩
    · intro j i' o' hi ho
      cases j with
      | zero =>
        simp at hi ho; subst hi; subst ho
        refine ⟨env, ?_, ?_, fun ha t ht => ?_⟩
        · rw [runL_lt _ _ _ (by omega)]
        · rw [runL_lt _ _ _ (by omega)]; exact h1
        · rw [runL_lt _ _ _ (by omega)] at ht
          rw [Nat.add_zero, q3 n (by omega), ha]
          exact look2_tch_same ht
      | succ j =>
        obtain ⟨env', r1, r2, r3⟩ := q2 j i' o' (by simpa using hi) (by simpa using ho)
        have en : n + 1 + j = n + (j + 1) := by omega
        rw [en] at r1 r2 r3
        have hlt : decide (n < n + (j + 1)) = true := by simp
        refine ⟨env', ?_, ?_, ?_⟩
        · rw [r1, lk_out]
          simp only [List.zipWith_cons_cons, runL, hlt, if_true]
        · simp only [List.map_cons, runL, hlt, if_true]
          rw [← app_wr]; exact r2
        · simp only [List.map_cons, runL, hlt, if_true]
          rw [← app_wr]; exact r3
    · intro m hm
      rw [q3 m (by omega)]
      split
      · exact look2_tch (by omega)
      · rfl
    · rw [q5, lk_out]; simp only [List.zipWith_cons_cons, runL, if_true]
    · simp only [List.map_cons, runL, if_true]; rw [← app_wr]; exact q6

/-! ### What the checks say -/
theorem maskOf_spec {acc : List Nat} {o : Oper} {j : Nat} (h : (maskOf acc o).testBit j = true) : ∃ e ∈ o.after, Region.binds .any e = true ∧ (e.on = j ∨ (acc.getD e.on 0).testBit j = true) := by
  have key : ∀ (l : List Edge) (s : Nat), (l.foldl (fun s e => if Region.binds .any e then s ||| 2 ^ e.on ||| acc.getD e.on 0 else s) s).testBit j = true →
      s.testBit j = true ∨ ∃ e ∈ l, Region.binds .any e = true ∧ (e.on = j ∨ (acc.getD e.on 0).testBit j = true) := by
    intro l
    induction l with
    | nil => intro s h; exact .inl h
    | cons e l ih =>
      intro s h
      simp only [List.foldl_cons] at h
      rcases ih _ h with h | ⟨e', h1, h2⟩
      · split at h
        · rename_i hb
          rw [Nat.testBit_or, Nat.testBit_or] at h
          simp only [Bool.or_eq_true] at h
          rcases h with (h | h) | h
          · exact .inl h
          · rw [Nat.testBit_two_pow] at h
            exact .inr ⟨e, by simp, hb, .inl (by simpa using h)⟩
          · exact .inr ⟨e, by simp, hb, .inr h⟩
        · exact .inl h
      · exact .inr ⟨e', by simp [h1], h2⟩
  rcases key _ _ h with h | ⟨e, h1, h2⟩
  · simp at h
  · exact ⟨e, by simpa using h1, h2⟩
theorem masks_spec {D : Nat → Bool} {R : Nat → Prop} (hDR : ∀ i, D i = true → R i) : ∀ (ops : List Oper) (acc : List Nat), (∀ i j, R i → (acc.getD i 0).testBit j = true → D j = true) →
    (∀ m o, ops[m]? = some o → R (acc.length + m) → ∀ e ∈ o.after, Region.binds .any e = true → D e.on = true) → ∀ i j, R i → ((masks acc ops).getD i 0).testBit j = true → D j = true
  | [], acc, h, _, i, j, hi, hb => h i j hi hb
  | o :: r, acc, h, ho, i, j, hi, hb => by
    simp only [masks] at hb
    refine masks_spec hDR r (acc ++ [maskOf acc o]) ?_ ?_ i j hi hb
    · intro i j hi hb
      rcases Nat.lt_trichotomy i acc.length with hl | hl | hl
      · rw [List.getD_eq_getElem?_getD, List.getElem?_append_left hl, ← List.getD_eq_getElem?_getD] at hb
        exact h i j hi hb
      · subst hl
        simp at hb
        obtain ⟨e, h1, h2, h3⟩ := maskOf_spec hb
        have hD := ho 0 o (by simp) hi e h1 h2
        rcases h3 with rfl | h3
        · exact hD
        · exact h _ j (hDR _ hD) h3
      · rw [List.getD_eq_getElem?_getD, List.getElem?_eq_none (by simp; omega)] at hb
        simp at hb
    · intro m o' hm hi
      refine ho (m + 1) o' (by simpa using hm) ?_
      simpa [Nat.add_assoc, Nat.add_comm 1 m] using hi
theorem all_idx {α : Type} {l : List α} {p : α × Nat → Bool} (h : l.zipIdx.all p = true) {i : Nat} {x : α} (hx : l[i]? = some x) : p (x, i) = true :=
  List.all_eq_true.1 h (x, i) (List.mem_zipIdx_iff_getElem?.2 (by simpa using hx))
structure DrawFacts (ops : List Oper) (is : List AInst) (cl : List Nat) : Prop where
  back : ∀ (i : Nat) (o : Oper), ops[i]? = some o → ∀ e ∈ o.after, Region.binds .any e = true → e.on < i
  dst : ∀ (i j : Nat) (x y : AInst) (d : Nat), is[i]? = some x → is[j]? = some y → i ≠ j → x.dst = some d → y.dst ≠ some d
  use : ∀ (i j : Nat) (x y : AInst) (d : Nat), is[i]? = some x → is[j]? = some y → i ≠ j → y.dst = some d → d ∈ usesI x → ordered cl i j = true
  call : ∀ (i j : Nat) (x y : AInst), is[i]? = some x → is[j]? = some y → i ≠ j → isCall x.op = true → isW y.op = true → isNew y.op = true ∨ ordered cl i j = true
theorem drawOk_facts {ops is cl} (h : drawOk ops is cl = true) : DrawFacts ops is cl := by
  unfold drawOk at h
  rw [Bool.and_eq_true] at h
  obtain ⟨h1, h2⟩ := h
  have two : ∀ (i j : Nat) (x y : AInst), is[i]? = some x → is[j]? = some y → i ≠ j → ((match x.dst with | some d => y.dst != some d | none => true) &&
      (match y.dst with | some d => !(usesI x).contains d || ordered cl i j | none => true) && (!(isCall x.op && isW y.op) || isNew y.op || ordered cl i j)) = true := by
    intro i j x y hi hj hne
    have := all_idx (all_idx h2 hi) hj
    exact (Bool.or_eq_true _ _ ▸ this).resolve_left (by simp [hne])
  refine ⟨fun i o hi e he hb => ?_, fun i j x y d hi hj hne hx => ?_, fun i j x y d hi hj hne hy hd => ?_, fun i j x y hi hj hne hc hw => ?_⟩
  · have := all_idx h1 hi
    have h3 := List.all_eq_true.1 this e (by simpa using he)
    simpa [hb] using h3
  · have := two i j x y hi hj hne
    simp only [hx, Bool.and_eq_true] at this
    simpa using this.1.1
  · have := two i j x y hi hj hne
    simp only [hy, Bool.and_eq_true] at this
    have h3 := this.1.2
    simpa [hd] using h3
  · have := two i j x y hi hj hne
    simp only [Bool.and_eq_true] at this
    have h3 := this.2
    simp only [hc, hw, Bool.and_self, Bool.not_true, Bool.false_or, Bool.or_eq_true, Bool.and_eq_true, decide_eq_true_eq] at h3
    exact h3
theorem openPairs_mem {is : List AInst} {cl : List Nat} {i j : Nat} {x y : AInst} (hi : is[i]? = some x) (hj : is[j]? = some y) (hlt : i < j) (hx : isMem x.op = true) (hy : isMem y.op = true)
    (hw : (isW x.op || isW y.op || isCall x.op || isCall y.op) = true) (hn : (isCall x.op && isNew y.op) = false) (ho : ordered cl i j = false) : (i, j) ∈ allPairs is cl := by
  refine List.mem_append_left _ ?_
  unfold openPairs
  rw [List.mem_flatMap]
  refine ⟨(x, i), List.mem_zipIdx_iff_getElem?.2 (by simpa using hi), ?_⟩
  rw [List.mem_filterMap]
  exact ⟨(y, j), List.mem_zipIdx_iff_getElem?.2 (by simpa using hj), by simp only [hlt, hx, hy, hw, hn, ho, and_self, if_true]⟩
theorem selfPairs_mem {is : List AInst} {cl : List Nat} {i j : Nat} {x y : AInst} (hi : is[i]? = some x) (hj : is[j]? = some y) (hlt : j < i) (hx : isCall x.op = true) (hw : isW y.op = true) (hn : isNew y.op = true) (ho : ordered cl i j = false) : (i, i) ∈ allPairs is cl := by
  refine List.mem_append_right _ ?_
  unfold selfPairs
  rw [List.mem_filterMap]
  refine ⟨(x, i), List.mem_zipIdx_iff_getElem?.2 (by simpa using hi), ?_⟩
  have h : (is.zipIdx.any fun (y, j) => decide (j < i) && isW y.op && isNew y.op && !ordered cl i j) = true := by
    rw [List.any_eq_true]
    exact ⟨(y, j), List.mem_zipIdx_iff_getElem?.2 (by simpa using hj), by simp [hlt, hw, hn, ho]⟩
  simp only [hx, h, and_self, if_true]
theorem baseS_cases (n : Nat) (σ : Sig) : ∀ ps : List (Nat × Nat), (baseS n σ ps = σ ∧ (n, n) ∉ ps) ∨ baseS n σ ps = fun _ => none
  | [] => .inl ⟨rfl, by simp⟩
  | (a, b) :: r => by
    unfold baseS
    split
    · rename_i h
      split
      · exact .inr rfl
      · rename_i h'
        rcases baseS_cases n σ r with ⟨h1, h2⟩ | h1
        · refine .inl ⟨h1, ?_⟩
          intro hm
          rcases List.mem_cons.1 hm with e | e
          · simp at e; exact h' e.2.symm
          · exact h2 e
        · exact .inr h1
    · rename_i h
      rcases baseS_cases n σ r with ⟨h1, h2⟩ | h1
      · refine .inl ⟨h1, ?_⟩
        intro hm
        rcases List.mem_cons.1 hm with e | e
        · simp at e; exact h e.1.symm
        · exact h2 e
      · exact .inr h1
theorem apartP_mem {tl : List (Nat × TI)} : ∀ {pairs : List (Nat × Nat)} {i j : Nat} {a b : TI}, apartP tl pairs → (i, j) ∈ pairs → look2 i tl = some a → look2 j tl = some b → apartT a b
  | [], _, _, _, _, _, h, _, _ => by simp at h
  | (i', j') :: r, i, j, a, b, h, hm, h1, h2 => by
    rcases List.mem_cons.1 hm with e | hm
    · cases e
      have := h.1
      rw [h1, h2] at this
      exact this
    · exact apartP_mem h.2 hm h1 h2
theorem isW_bare {a : AOp} (h : isW a = true) (hd : drawsOp a = true) : isW a.bare = true := by
  cases a with
  | ext x => cases x <;> first | rfl | (simp [drawsOp, XOp.draws] at hd; done) | exact h
  | _ => first | exact h | (simp [isW] at h; done)
theorem isMem_bare {a : AOp} (h : isMem a = true) (hd : drawsOp a = true) : isMem a.bare = true := by
  cases a with
  | ext x => cases x <;> first | rfl | (simp [drawsOp, XOp.draws] at hd; done) | (simp [isMem, isW] at h; done)
  | _ => first | exact h | (simp [isMem, isW] at h; done)
theorem isCall_bare (a : AOp) : isCall a.bare = isCall a := by
  cases a with
  | ext x => cases x <;> rfl
  | _ => rfl
theorem isNew_touch {a : AOp} {nm : Nat} {env : Env} (h : isNew a.bare = true) (hd : drawsOp a = true) (hw : isW a = true) : touch nm env a = some nm := by
  cases a with
  | ext x => cases x <;> first | rfl | (simp [drawsOp, XOp.draws] at hd; done) | (simp [AOp.bare, isNew] at h; done)
  | _ => first | rfl | (simp [AOp.bare, isNew] at h; done) | (simp [isW] at hw; done)
theorem isNew_read {a : AOp} (h : isNew a.bare = true) (hm : isMem a = true) (hw : isW a = false) : False := by
  cases a with
  | ext x => cases x <;> first | (simp [AOp.bare, isNew] at h; done) | (simp [isW] at hw; done) | (simp [isMem, isW] at hm; done)
  | _ => first | (simp [AOp.bare, isNew] at h; done) | (simp [isW] at hw; done) | (simp [isMem, isW] at hm; done)
theorem usesOp_bare (a : AOp) : usesOp a.bare = usesOp a := by
  cases a with
  | ext x => cases x <;> rfl
  | _ => rfl
theorem usesI_bare (i : AInst) : usesI i.bare = usesI i := by simp [usesI, AInst.bare, usesOp_bare]
theorem isW_mem {a : AOp} (h : isW a = true) : isMem a = true := by
  cases a with
  | ext x => cases x <;> first | rfl | (simp [isW] at h; done)
  | _ => first | rfl | (simp [isW] at h; done)
theorem trInsts_get {P N ops} : ∀ {os : List Oper} {l : List AInst}, trInsts P N ops os = some l → os.length = l.length ∧ ∀ (j : Nat) o i, os[j]? = some o → l[j]? = some i → trInst P N ops o = some i
  | [], l, h => by simp [trInsts] at h; subst h; simp
  | o :: os, l, h => by
    simp only [trInsts] at h
    split at h <;> simp at h
    rename_i a r h1 h2
    subst h
    obtain ⟨q1, q2⟩ := trInsts_get h2
    refine ⟨by simp [q1], fun j o' i' h3 h4 => ?_⟩
    cases j with
    | zero => simp at h3 h4; subst h3; subst h4; exact h1
    | succ j => exact q2 j o' i' (by simpa using h3) (by simpa using h4)
theorem ordered_eq {cl : List Nat} {D : Nat → Bool} {R : Nat → Prop} (hDR : ∀ i, D i = true → R i) (hcl : ∀ i j, R i → (cl.getD i 0).testBit j = true → D j = true) {i j : Nat} (hR : R i) (hD : D i = false)
    (ho : ordered cl i j = true) : D j = decide (j < i) := by
  unfold ordered at ho
  split at ho
  · rename_i hlt
    rw [hcl i j hR ho]; simp [hlt]
  · rename_i hlt
    cases hDj : D j
    · simp [hlt]
    · have := hcl j i (hDR j hDj) ho
      rw [this] at hD; simp at hD
theorem ordered_comm {cl : List Nat} {i j : Nat} (h : i ≠ j) : ordered cl i j = ordered cl j i := by
  unfold ordered
  rcases Nat.lt_trichotomy i j with h' | h' | h'
  · rw [if_neg (by omega), if_pos h']
  · exact absurd h' h
  · rw [if_pos h', if_neg (by omega)]

/-! ### Every order -/
structure Plan (P : Program) (N : Nat) (ops : Array Oper) (is : List AInst) (os : List Out) (nm : Nat → Nat) (env : Env) (σ : Sig) (tf : List (Nat × TI)) : Prop where
  len : os.length = is.length
  lenO : ops.size = is.length
  get : ∀ (j : Nat) o i, ops[j]? = some o → is[j]? = some i → trInst P N ops o = some i.bare
  step : ∀ (j : Nat) i o, is[j]? = some i → os[j]? = some o → ∃ env', lk env' = runL (fun m => decide (m < j)) (List.zipWith eEntry is os) 0 (lk env) ∧
        StepIs P (nm j) env' (runL (fun m => decide (m < j)) (os.map sEntry) 0 σ) (baseS j (runL (fun m => decide (m < j)) (os.map sEntry) 0 σ) (allPairs (is.map AInst.bare) (masks [] ops.toList))) i o ∧ (o.act = true → ∀ t, tOut env' (runL (fun m => decide (m < j)) (os.map sEntry) 0 σ) i o = some t → look2 j tf = some t)
  facts : DrawFacts ops.toList (is.map AInst.bare) (masks [] ops.toList)
  apart : apartP tf (allPairs (is.map AInst.bare) (masks [] ops.toList))
  fresh : ∀ m, σ (nm m) = none
  inj : ∀ i j, nm i = nm j → i = j
theorem eEntry_get {is : List AInst} {os : List Out} {j s : Nat} {e v} (h : (List.zipWith eEntry is os)[j]? = some e) (he : e s = some v) : ∃ y o, is[j]? = some y ∧ os[j]? = some o ∧ y.dst = some s := by
  rw [List.getElem?_zipWith] at h
  split at h <;> simp at h
  rename_i y o h1 h2
  refine ⟨y, o, h1, h2, ?_⟩
  subst h
  simp only [eEntry] at he
  split at he
  · assumption
  · simp at he
theorem sEntry_get {os : List Out} {j s : Nat} {e v} (h : (os.map sEntry)[j]? = some e) (he : e s = some v) : ∃ o x, os[j]? = some o ∧ lastU o.eff s = some x ∧ v = some x := by
  rw [List.getElem?_map, Option.map_eq_some_iff] at h
  obtain ⟨o, h1, rfl⟩ := h
  simp only [sEntry, Option.map_eq_some_iff] at he
  obtain ⟨x, h3, h4⟩ := he
  exact ⟨o, x, h1, h3, h4.symm⟩
section
variable {P : Program} {N : Nat} {ops : Array Oper} {is : List AInst} {os : List Out} {nm : Nat → Nat} {env : Env} {σ : Sig} {tf : List (Nat × TI)}
theorem Plan.eff (hp : Plan P N ops is os nm env σ tf) {j : Nat} {i : AInst} {o : Out} {k x} (hi : is[j]? = some i) (ho : os[j]? = some o) (he : lastU o.eff k = some x) :
    (isCall i.op = true ∧ look2 j tf = some (.call o.eff) ∧ (k = nm j ∨ runL (fun m => decide (m < j)) (os.map sEntry) 0 σ k ≠ none)) ∨
    (isCall i.op = false ∧ isW i.op = true ∧ drawsOp i.op = true ∧ look2 j tf = some (.mem k none) ∧ (k = nm j ∨ runL (fun m => decide (m < j)) (os.map sEntry) 0 σ k ≠ none) ∧ (isNew i.op.bare = true → k = nm j)) := by
  obtain ⟨env', h1, h2, h3⟩ := hp.step j i o hi ho
  rcases h2 with ⟨ha, _, hr⟩ | ⟨_, hn, _⟩
  · cases hop : i.op
    case call f args =>
      rw [hop] at hr
      obtain ⟨g, first, caps, vs, _, _, h7⟩ := hr
      refine .inl ⟨rfl, h3 ha _ (by simp [tOut, hop]), ?_⟩
      rcases h7 with ⟨_, h7⟩ | ⟨y, h7, _⟩
      · exact .inr (allIn_mem h7 _ (lastU_mem he))
      · rw [h7] at he
        have := lastU_mem he
        simp only [List.mem_singleton, Prod.mk.injEq] at this
        exact .inl this.1
    all_goals
      rw [hop] at hr
      right
      obtain ⟨hd, e0, q1, q2, q3⟩ := hr
      rw [q1] at he
      rcases q3 with ⟨rfl, _⟩ | ⟨hw, o', x', rfl, ht, hk⟩
      · simp [lastU] at he
      · simp only [Option.toList_some, lastU] at he
        split at he
        · rename_i hko
          subst hko
          refine ⟨rfl, hw, hd, h3 ha _ (by simp [tOut, hop, q1]), hk, fun hnew => ?_⟩
          have := isNew_touch (nm := nm j) (env := env') hnew hd hw
          rw [this] at ht
          exact (Option.some.inj ht).symm
        · simp at he
  · rw [hn] at he; simp [lastU] at he
theorem Plan.isGet (hp : Plan P N ops is os nm env σ tf) {j : Nat} {o : Out} (h : os[j]? = some o) : ∃ i, is[j]? = some i := by
  have : j < is.length := by rw [← hp.len]; exact (List.getElem?_eq_some_iff.1 h).1
  exact ⟨_, List.getElem?_eq_getElem this⟩
theorem Plan.own_eff (hp : Plan P N ops is os nm env σ tf) {i : Nat} : ∀ (j : Nat) {o : Out} {x}, os[j]? = some o → lastU o.eff (nm i) = some x → i ≤ j ∧ ∃ oi y, os[i]? = some oi ∧ lastU oi.eff (nm i) = some y := by
  intro j
  induction j using Nat.strongRecOn with
  | _ j ih =>
    intro o x ho he
    obtain ⟨ij, hij⟩ := hp.isGet ho
    have later : runL (fun m => decide (m < j)) (os.map sEntry) 0 σ (nm i) ≠ none → i ≤ j ∧ ∃ oi y, os[i]? = some oi ∧ lastU oi.eff (nm i) = some y := by
      intro hk
      refine Classical.byContradiction fun hno => hk ?_
      rw [runL_none _ _ _ fun j' e v hj' hev => ?_]
      · exact hp.fresh i
      · simp only [Nat.zero_add, decide_eq_false_iff_not]
        intro hjj
        obtain ⟨o', x', h1, h2, _⟩ := sEntry_get hj' hev
        have := ih j' hjj h1 h2
        exact hno ⟨by omega, this.2⟩
    rcases hp.eff hij ho he with ⟨_, _, hk⟩ | ⟨_, _, _, _, hk, _⟩
    all_goals
      rcases hk with hk | hk
      · obtain rfl := hp.inj _ _ hk
        exact ⟨Nat.le_refl _, o, x, ho, he⟩
      · exact later hk
theorem Plan.not_yet (hp : Plan P N ops is os nm env σ tf) {i j : Nat} (h : j ≤ i) : runL (fun m => decide (m < j)) (os.map sEntry) 0 σ (nm i) = none := by
  rw [runL_none _ _ _ fun j' e v hj' hev => ?_]
  · exact hp.fresh i
  · simp only [Nat.zero_add, decide_eq_false_iff_not]
    intro hjj
    obtain ⟨o', x', h1, h2, _⟩ := sEntry_get hj' hev
    have := (hp.own_eff j' h1 h2).1
    omega
structure Inv (K0 : Gh) (S : Nat → Prop) (N : Nat) (ops : Array Oper) (is : List AInst) (os : List Out) (nm : Nat → Nat) (env : Env) (σ : Sig) (D : Nat → Bool) (K : Gh) (a : Act) (w : World) : Prop where
  le : K0.leS S K
  fr : ∃ env', lk env' = runL D (List.zipWith eEntry is os) 0 (lk env) ∧ Fr K N env' a
  sat : Sat K (runL D (os.map sEntry) 0 σ) w
  free : ∀ j, j < is.length → D j = false → K.own (nm j) = none
  closed : ∀ j, D j = true → ∀ o, ops[j]? = some o → ∀ e ∈ o.after, Region.binds .any e = true → D e.on = true
theorem wp_exits {P : Program} {o : Oper} {a : Act} {w : World} {next : Act → World → Prop} {Q Q' : Exit → Act → World → Prop} (hq : ∀ e a w, Q e a w → Q' e a w) (h : o.wp P a w next Q) : o.wp P a w next Q' := by
  unfold Oper.wp at *
  generalize (execOp a.eval o).run P w = r at *
  cases r with
  | ok n w' =>
    cases n <;> simp only [Oper.upon] at h ⊢ <;>
      first
        | exact h
        | exact Calls.mono h (fun e w'' he => by
            cases e with
            | returned v => exact he
            | panicked c => exact hq _ _ _ he
            | outgrown => obtain ⟨a, w, h⟩ := he; exact ⟨a, w, hq _ _ _ h⟩)
  | halt x w' => cases x <;> simp only [Oper.upon] at h ⊢ <;> exact hq _ _ _ h
theorem draw_step (hp : Plan P N ops is os nm env σ tf) {K0 : Gh} {S : Nat → Prop} (hS : Bnd S) (hSn : ∀ j, ¬ S (nm j)) {D : Nat → Bool} {K : Gh} {a : Act} {w : World} (hinv : Inv K0 S N ops is os nm env σ D K a w)
    {i : Nat} (hi : i < is.length) (hD : D i = false) (hR : ∀ o, ops[i]? = some o → ∀ e ∈ o.after, Region.binds .any e = true → D e.on = true) {Q : Exit → Act → World → Prop} {next : Act → World → Prop}
    (hnext : ∀ K' a' w', Inv K0 S N ops is os nm env σ (addD D i) K' a' w' → next a' w') : wpOp P ops Q i next a w := by
  have hio : i < ops.size := by rw [hp.lenO]; exact hi
  have his : i < os.length := by rw [hp.len]; exact hi
  obtain ⟨oo, hoo⟩ : ∃ o, ops[i]? = some o := ⟨_, Array.getElem?_eq_getElem hio⟩
  obtain ⟨x, hx⟩ : ∃ o, is[i]? = some o := ⟨_, List.getElem?_eq_getElem hi⟩
  obtain ⟨o, ho⟩ : ∃ o, os[i]? = some o := ⟨_, List.getElem?_eq_getElem his⟩
  have htr := hp.get i oo x hoo hx
  obtain ⟨t1, t2, t3, t4, t5⟩ := trInst_some htr
  obtain ⟨env1, hl1, hst, htl⟩ := hp.step i x o hx ho
  obtain ⟨envD, hlD, hf⟩ := hinv.fr
  -- what the masks say
  let R : Nat → Prop := fun j => ∀ o, ops[j]? = some o → ∀ e ∈ o.after, Region.binds .any e = true → D e.on = true
  have hDR : ∀ j, D j = true → R j := hinv.closed
  have hcl : ∀ j k, R j → ((masks [] ops.toList).getD j 0).testBit k = true → D k = true := masks_spec hDR ops.toList [] (by simp) (fun m o hm hr => by
    refine hr o ?_
    simpa using hm)
  have hord : ∀ {j}, ordered (masks [] ops.toList) i j = true → D j = decide (j < i) := fun {j} h => ordered_eq hDR hcl hR hD h
  have hbare : ∀ {j : Nat} {y}, is[j]? = some y → (is.map AInst.bare)[j]? = some y.bare := fun h => by simp [h]
  have huse : ∀ s ∈ usesI x, lk envD s = lk env1 s := fun s hs => by
    rw [hlD, hl1]
    refine runL_agree _ 0 _ _ rfl fun j e v hj hev => ?_
    obtain ⟨y, _, h1, _, h3⟩ := eEntry_get hj hev
    simp only [Nat.zero_add]
    by_cases hji : j = i
    · subst hji; simp [hD]
    · exact hord (hp.facts.use i j _ _ s (hbare hx) (hbare h1) (Ne.symm hji) h3 (by rw [usesI_bare]; exact hs))
  -- an operation that is no call, and an object that it touches
  have hopen : ∀ {j : Nat} {oj : Out} {k : Nat} {xk : AObj} {rd}, os[j]? = some oj → lastU oj.eff k = some xk → j ≠ i → isCall x.op = false → isMem x.op = true → drawsOp x.op = true → look2 i tf = some (.mem k rd) → (isNew x.op.bare = true → k = nm i) →
      D j = decide (j < i) ∨ (i < j ∧ stable k rd oj.eff) := by
    intro j oj k xk rd h2 h3 hji hc hm hd hl hnw
    obtain ⟨y, h1⟩ := hp.isGet h2
    cases hoc : ordered (masks [] ops.toList) i j
    case true => exact .inl (hord hoc)
    have hcb : isCall x.op.bare = false := by rw [isCall_bare]; exact hc
    rcases hp.eff h1 h2 h3 with ⟨yc, ylk, ynn⟩ | ⟨yc, yw, yd, ylk, yk, _⟩
    · have hym : isMem y.op.bare = true := by
        have : isCall y.op.bare = true := by rw [isCall_bare]; exact yc
        revert this; cases y.op.bare <;> simp [isCall, isMem, isW]
      rcases Nat.lt_or_ge i j with hlt | hge
      · have := apartP_mem hp.apart (openPairs_mem (hbare hx) (hbare h1) hlt (isMem_bare hm hd) hym (by simp [AInst.bare, isCall_bare, yc]) (by simp [AInst.bare, hcb]) hoc) hl ylk
        exact .inr ⟨hlt, this⟩
      · exfalso
        cases hnew : isNew x.op.bare
        case true =>
          have hk := hnw hnew
          subst hk
          rcases ynn with e | ynn
          · exact hji (hp.inj _ _ e).symm
          · exact ynn (hp.not_yet (by omega))
        have := apartP_mem hp.apart (openPairs_mem (hbare h1) (hbare hx) (by omega) hym (isMem_bare hm hd) (by simp [AInst.bare, isCall_bare, yc]) (by simp [AInst.bare, hnew]) (by rw [ordered_comm hji]; exact hoc)) ylk hl
        exact notIn_mem this _ (lastU_mem h3) rfl
    · exfalso
      have hycb : isCall y.op.bare = false := by rw [isCall_bare]; exact yc
      rcases Nat.lt_or_ge i j with hlt | hge
      · exact apartP_mem hp.apart (openPairs_mem (hbare hx) (hbare h1) hlt (isMem_bare hm hd) (isMem_bare (isW_mem yw) yd) (by simp [AInst.bare, isW_bare yw yd]) (by simp [AInst.bare, hcb]) hoc) hl ylk rfl
      · exact apartP_mem hp.apart (openPairs_mem (hbare h1) (hbare hx) (by omega) (isMem_bare (isW_mem yw) yd) (isMem_bare hm hd) (by simp [AInst.bare, isW_bare yw yd]) (by simp [AInst.bare, hycb]) (by rw [ordered_comm hji]; exact hoc)) ylk hl rfl
  -- a call, and another operation that writes
  have hopenC : ∀ {j : Nat} {oj : Out} {k : Nat} {xk : AObj}, os[j]? = some oj → lastU oj.eff k = some xk → j ≠ i → isCall x.op = true → look2 i tf = some (.call o.eff) → D j = decide (j < i) ∨ (i < j ∧ k = nm j) ∨ (i, i) ∈ allPairs (is.map AInst.bare) (masks [] ops.toList) := by
    intro j oj k xk h2 h3 hji hc hl
    obtain ⟨y, h1⟩ := hp.isGet h2
    cases hoc : ordered (masks [] ops.toList) i j
    case true => exact .inl (hord hoc)
    have hcb : isCall x.op.bare = true := by rw [isCall_bare]; exact hc
    have hxm : isMem x.op.bare = true := by revert hcb; cases x.op.bare <;> simp [isCall, isMem, isW]
    rcases hp.eff h1 h2 h3 with ⟨yc, ylk, ynn⟩ | ⟨yc, yw, yd, ylk, yk, ynew⟩
    · exfalso
      have hycb : isCall y.op.bare = true := by rw [isCall_bare]; exact yc
      have hym : isMem y.op.bare = true := by revert hycb; cases y.op.bare <;> simp [isCall, isMem, isW]
      have nn : ∀ {a : AOp}, isCall a = true → isNew a = false := fun {a} h => by cases a <;> simp [isCall] at h <;> rfl
      have e2 : oj.eff = [] := by
        rcases Nat.lt_or_ge i j with hlt | hge
        · exact (apartP_mem hp.apart (openPairs_mem (hbare hx) (hbare h1) hlt hxm hym (by simp [AInst.bare, hcb]) (by simp [AInst.bare, nn hycb]) hoc) hl ylk).2
        · exact (apartP_mem hp.apart (openPairs_mem (hbare h1) (hbare hx) (by omega) hym hxm (by simp [AInst.bare, hcb]) (by simp [AInst.bare, nn hcb]) (by rw [ordered_comm hji]; exact hoc)) ylk hl).1
      rw [e2] at h3; simp [lastU] at h3
    · rcases hp.facts.call i j _ _ (hbare hx) (hbare h1) (Ne.symm hji) (by simp only [AInst.bare]; exact hcb) (by simp only [AInst.bare]; exact isW_bare yw yd) with hn | h
      · rcases Nat.lt_or_ge i j with hlt | hge
        · exact .inr (.inl ⟨hlt, ynew hn⟩)
        · exact .inr (.inr (selfPairs_mem (hbare hx) (hbare h1) (by omega) (by simp only [AInst.bare]; exact hcb) (by simp only [AInst.bare]; exact isW_bare yw yd) hn hoc))
      · rw [hoc] at h; simp at h
  -- how it goes on
  have done : ∀ K' a' w', K.leS (fun m => S m ∨ ∃ j, j < is.length ∧ j ≠ i ∧ m = nm j) K' → Fr K' N (o.env x envD) a' → Sat K' (apps (runL D (os.map sEntry) 0 σ) o.eff) w' → next a' w' := by
    intro K' a' w' hle hf' hs'
    refine hnext K' _ w' ⟨hinv.le.trans (hle.weak fun m hm => .inl hm), ⟨_, ?_, hf'⟩, ?_, ?_, ?_⟩
    · rw [lk_out, hlD]
      refine (runL_add (e := eEntry x o) ?_ hD ?_).symm
      · simp [List.getElem?_zipWith, hx, ho]
      · intro j s e' u v hij hDj he hj hu
        obtain ⟨y, _, h1, _, h3⟩ := eEntry_get hj hu
        have hxd : x.dst = some s := by
          simp only [eEntry] at he
          split at he
          · assumption
          · simp at he
        exact hp.facts.dst i j _ _ s (hbare hx) (hbare h1) (by omega) hxd h3
    · rw [app_wr] at hs'
      rw [runL_add (e := sEntry o) (by simp [ho]) hD]
      · exact hs'
      · intro j s e' u v hij hDj he hj hu
        obtain ⟨oj, xj, h1, h2, _⟩ := sEntry_get hj hu
        obtain ⟨x', he'⟩ : ∃ x', lastU o.eff s = some x' := by
          simp only [sEntry, Option.map_eq_some_iff] at he
          obtain ⟨x', h, _⟩ := he
          exact ⟨x', h⟩
        have hne : ¬ D j = decide (j < i) := by rw [hDj]; simp; omega
        rcases hp.eff hx ho he' with ⟨xc, xlk, xnn⟩ | ⟨xc, xw, xd, xlk, xk, xnew⟩
        · rcases hopenC h1 h2 (by omega) xc xlk with h | ⟨_, rfl⟩ | h
          · exact hne h
          · rcases xnn with e | xnn
            · have := hp.inj _ _ e; omega
            · exact xnn (hp.not_yet (by omega))
          · have e0 : o.eff = [] := (apartP_mem hp.apart h xlk xlk).1
            rw [e0] at he'
            simp [lastU] at he'
        · rcases hopen h1 h2 (by omega) xc (isW_mem xw) xd xlk xnew with h | ⟨_, h⟩
          · exact hne h
          · obtain ⟨_, _, _, _, h4, _⟩ := stable_mem h _ (lastU_mem h2)
            simp at h4
    · intro j hj hDj
      simp only [addD, Bool.or_eq_false_iff, decide_eq_false_iff_not] at hDj
      exact hle.free _ (.inr ⟨j, hj, hDj.2, rfl⟩) (hinv.free j hj hDj.1)
    · intro j hj o' ho' e he hb
      simp only [addD, Bool.or_eq_true, decide_eq_true_eq] at hj ⊢
      rcases hj with hj | rfl
      · exact .inl (hinv.closed j hj o' ho' e he hb)
      · exact .inl (hR o' ho' e he hb)
  have hS' : Bnd (fun m => S m ∨ ∃ j, j < is.length ∧ j ≠ i ∧ m = nm j) := by
    obtain ⟨n, hn⟩ := hS
    have : ∀ l, ∃ n', ∀ j, j < l → nm j < n' := by
      intro l
      induction l with
      | zero => exact ⟨0, by simp⟩
      | succ l ih =>
        obtain ⟨n', h⟩ := ih
        refine ⟨max n' (nm l + 1), fun j hj => ?_⟩
        rcases Nat.lt_or_ge j l with h' | h'
        · have := h j h'; omega
        · have : j = l := by omega
          subst this; omega
    obtain ⟨n', hn'⟩ := this is.length
    refine ⟨max n n', fun m hm => ?_⟩
    rintro (h | ⟨j, h1, _, rfl⟩)
    · exact hn m (by omega) h
    · have := hn' j h1; omega
  unfold wpOp
  simp only [hoo]
  rcases hst with ⟨ha, hg, hrun⟩ | ⟨ha, hne, s, b, hg, hgd⟩
  · have hwant : Region.wanted oo (yielded ops a.tmps) = true := by
      rcases t5 with ⟨g1, g2⟩ | ⟨j, b, s, g1, g2, g3⟩
      · simp [Region.wanted, g1]
      · rcases hg with hg | ⟨s', b', hg, hl⟩
        · have : x.bare.guard = none := hg
          rw [this] at g2; simp at g2
        · have : x.bare.guard = some (s', b') := hg
          rw [this] at g2; simp at g2
          obtain ⟨rfl, rfl⟩ := g2
          rw [guard_wanted hf g1 g3 (p := b')]
          · simp
          · rw [huse s' (by simp [usesI, hg])]; exact hl
    rw [if_pos hwant]
    left
    have huo : ∀ s ∈ usesOp x.op, lk envD s = lk env1 s := fun s hs => huse s (by simp [usesI, hs])
    have fin : ∀ K' v w', K.leS (fun m => S m ∨ ∃ j, j < is.length ∧ j ≠ i ∧ m = nm j) K' → Rel K' o.val v → Sat K' (apps (runL D (os.map sEntry) 0 σ) o.eff) w' → next (a.put oo.dst v) w' := by
      intro K' v w' h1 h2 h3
      refine done K' _ w' h1 ?_ h3
      have e2 : oo.dst = x.dst := t2
      simp only [Out.env, ha, if_true]
      rw [e2]
      exact (hf.mono h1.le).putA (fun y hy => t3 y (by rw [e2]; exact hy)) h2
    cases hcall : isCall x.op
    case true =>
      obtain ⟨f, args, hop⟩ : ∃ f args, x.op = .call f args := by
        revert hcall; cases x.op <;> simp [isCall]
      rw [hop] at hrun
      obtain ⟨g, first, caps, vs, f1, f2, hc⟩ := hrun
      have hlk : look2 i tf = some (.call o.eff) := htl ha _ (by simp [tOut, hop])
      have hsub : Sub (baseS i (runL (fun m => decide (m < i)) (os.map sEntry) 0 σ) (allPairs (is.map AInst.bare) (masks [] ops.toList))) (runL D (os.map sEntry) 0 σ) := by
        rcases baseS_cases i (runL (fun m => decide (m < i)) (os.map sEntry) 0 σ) (allPairs (is.map AInst.bare) (masks [] ops.toList)) with ⟨eb, hnot⟩ | eb
        case inr => rw [eb]; intro s y hs; simp at hs
        rw [eb]
        intro s y hs
        rw [← hs]
        refine runL_agree _ 0 _ _ rfl fun j e v hj hev => ?_
        simp only [Nat.zero_add]
        obtain ⟨oj, xj, h1, h2, _⟩ := sEntry_get hj hev
        by_cases hji : j = i
        · subst hji; simp [hD]
        · rcases hopenC h1 h2 hji hcall hlk with h | ⟨hlt, rfl⟩ | h
          · exact h
          · rw [hp.not_yet (by omega)] at hs; simp at hs
          · exact absurd h hnot
      have q1 : aval envD f = some (.fn g first caps) := by
        rw [← f1]; exact aval_agree fun s hs => huo s (by rw [hop]; simp [usesOp, hs])
      have q2 : avals envD args = some vs := by
        rw [← f2]; exact avals_agree fun s hs => huo s (by rw [hop]; simp only [usesOp, List.mem_append]; exact .inr hs)
      have hnS : ¬ (fun m => S m ∨ ∃ j, j < is.length ∧ j ≠ i ∧ m = nm j) (nm i) := by
        rintro (h | ⟨j, _, hji, e⟩)
        · exact hSn i h
        · exact hji (hp.inj _ _ e).symm
      have hcw : callable P g = true ∧ ∀ vals : Array Value, RelL K (first ++ vs ++ caps) vals.toList → Calls P g vals w fun e w' => ∃ K' r σ', K.leS (fun m => S m ∨ ∃ j, j < is.length ∧ j ≠ i ∧ m = nm j) K' ∧ Sat K' σ' w' ∧ EndRel K' e r ∧
          retK (fun v σ' => putA x.dst v envD = o.env x envD ∧ σ' = apps (runL D (os.map sEntry) 0 σ) o.eff) (fun _ _ => False) r σ' := by
        rcases hc with ⟨hc, _⟩ | ⟨y, hy, hc⟩
        · refine ⟨(hc _ hsub).1, fun vals hargs => ((hc _ hsub).2 _ K w vals hS' hargs hinv.sat).mono fun e w' he => ?_⟩
          obtain ⟨K', r, σ', b1, b2, b3, rfl, rfl⟩ := he
          exact ⟨K', _, _, b1, b2, b3, by simp [Out.env, ha], rfl⟩
        · have hfr := hinv.free i hi hD
          have hN := hc _ hsub (hinv.sat.fresh hfr)
          refine ⟨hN.1, fun vals hargs => (hN.2 _ K w vals hS' hnS hfr hargs hinv.sat).mono fun e w' he => ?_⟩
          obtain ⟨K', r, σ', b1, b2, b3, rfl, rfl⟩ := he
          exact ⟨K', _, _, b1, b2, b3, by simp [Out.env, ha], by rw [hy]; rfl⟩
      refine wp_exits (Q := LiftQ N (fun m => S m ∨ ∃ j, j < is.length ∧ j ≠ i ∧ m = nm j) K (fun _ _ _ => False)) (fun e a w h => by obtain ⟨_, _, _, _, _, _, _, _, h⟩ := h; exact h.elim) ?_
      refine call_wp (P := P) (N := N) (Q := fun _ _ _ => False) (o := oo) (i := x) (env := envD) (K0 := K) (K := K) (a := a) (w := w) (fun env1 σ1 => env1 = o.env x envD ∧ σ1 = apps (runL D (os.map sEntry) 0 σ) o.eff) next
        (Gh.leS.refl K) t1 t2 t3 (fun K1 env1 σ1 a1 w1 q1 q2 q3 q4 => ?_) hop q1 q2 hcw.1 hcw.2 hf
      obtain ⟨rfl, rfl⟩ := q2
      exact done K1 a1 w1 q1 q3 q4
    case false =>
      obtain ⟨hdr, e0, heff0, hex, heff⟩ : drawsOp x.op = true ∧ ∃ e0, o.eff = e0.toList ∧ exOpN (nm i) env1 (runL (fun m => decide (m < i)) (os.map sEntry) 0 σ) (fun a e' => a = o.val ∧ e' = e0) x.op ∧ EffOk (nm i) (runL (fun m => decide (m < i)) (os.map sEntry) 0 σ) (touch (nm i) env1 x.op) (isW x.op) e0 := by
        revert hrun hcall
        cases x.op <;> simp only [isCall, RunIs] <;> first | exact fun h _ => h | (intro h; simp)
      -- the objects that it touches, but for a load of cells that a call leaves as_ they are
      have hagree : ∀ (t : Nat) rd, look2 i tf = some (.mem t rd) → (isNew x.op.bare = true → t = nm i) → isMem x.op = true → (∀ j oj, os[j]? = some oj → (∃ y, lastU oj.eff t = some y) → i < j → D j = true → stable t rd oj.eff → False) →
          runL D (os.map sEntry) 0 σ t = runL (fun m => decide (m < i)) (os.map sEntry) 0 σ t := by
        intro t rd hl hnw hm hno
        refine runL_agree _ 0 _ _ rfl fun j e v hj hev => ?_
        simp only [Nat.zero_add]
        obtain ⟨oj, xj, h1, h2, _⟩ := sEntry_get hj hev
        by_cases hji : j = i
        · subst hji; simp [hD]
        rcases hopen h1 h2 hji hcall hm hdr hl hnw with h | ⟨hlt, h⟩
        · exact h
        · cases hDj : D j with
          | false => simp; omega
          | true => exact (hno j oj h1 ⟨xj, h2⟩ hlt hDj h).elim
      have hex' : exOpN (nm i) envD (runL D (os.map sEntry) 0 σ) (fun a e' => a = o.val ∧ e' = e0) x.op := by
        rcases heff with ⟨hn, hnw⟩ | ⟨hw, o', x', he, hto, _⟩
        · cases hw : isW x.op
          · -- it writes nothing
            by_cases hld : ∃ g n y ob off cs, x.op = .load g n y ∧ aval env1 y = some (.ptr ob off) ∧ runL (fun m => decide (m < i)) (os.map sEntry) 0 σ ob = some (.cells cs)
            · obtain ⟨g, n, y, ob, off, cs, hop, hy, hcs⟩ := hld
              have hlk : look2 i tf = some (.mem ob (some (off, n, (cs.drop off).take n))) := htl ha _ (by simp [tOut, hop, heff0, hn, touchL, hy, hcs])
              have hcells : ∃ cs', runL D (os.map sEntry) 0 σ ob = some (.cells cs') ∧ off + n ≤ cs'.length ∧ (cs'.drop off).take n = (cs.drop off).take n := by
                have h0 : off + n ≤ cs.length := by
                  rw [hop] at hex
                  simp only [exOpN, exOpG, hy, wth, hcs] at hex
                  exact hex.1
                rcases runL_or (D := D) (L := os.map sEntry) (s := ob) (i := i) (f := σ) (fun j e v hj hev hji => by
                    obtain ⟨oj, xj, h1, h2, _⟩ := sEntry_get hj hev
                    rcases hopen h1 h2 (by omega) hcall (by rw [hop]; rfl) hdr hlk (by rw [hop]; simp [AOp.bare, isNew]) with h | ⟨h, _⟩
                    · rw [h]; simp [hji]
                    · omega) with h | ⟨j, e, v, hj, hev, hDj, hij, h⟩
                · exact ⟨cs, by rw [h]; exact hcs, h0, rfl⟩
                · obtain ⟨oj, xj, h1, h2, rfl⟩ := sEntry_get hj hev
                  have hji : j ≠ i := fun e => by subst e; rw [hD] at hDj; simp at hDj
                  rcases hopen h1 h2 hji hcall (by rw [hop]; rfl) hdr hlk (by rw [hop]; simp [AOp.bare, isNew]) with h' | ⟨_, h'⟩
                  · rw [hDj] at h'; simp at h'; omega
                  · obtain ⟨off', n', vs', cs', q1, rfl, q3, q4⟩ := stable_mem h' _ (lastU_mem h2)
                    simp only [Option.some.injEq, Prod.mk.injEq] at q1
                    obtain ⟨rfl, rfl, rfl⟩ := q1
                    exact ⟨cs', h, q3, q4⟩
              obtain ⟨cs', k1, k2, k3⟩ := hcells
              have hyD : aval envD y = some (.ptr ob off) := by rw [← hy]; exact aval_agree fun s hs => huo s (by rw [hop]; exact hs)
              rw [hop] at hex ⊢
              simp only [exOpN, exOpG, hy, wth, hcs] at hex
              simp only [exOpN, exOpG, hyD, wth, k1]
              refine ⟨k2, ?_⟩
              rw [k3]; exact hex.2
            · refine exOpN_local (env' := envD) (fun z e => by rw [e] at hdr; exact hdr) (σ' := runL D (os.map sEntry) 0 σ) huo (fun t ht => ?_) hex
              have hm : isMem x.op = true := by
                revert ht hw; cases x.op with
                | ext z => cases z <;> simp [touch, touchX, isMem, isW]
                | _ => simp [touch, isMem, isW]
              have htn : tOut env1 (runL (fun m => decide (m < i)) (os.map sEntry) 0 σ) x o = some (.mem t none) := by
                have hcall' := hcall
                revert ht hm hw hld hcall'
                unfold tOut
                rw [heff0, hn]
                cases x.op with
                | load g n y =>
                  intro _ hld ht _ _
                  simp only [touch] at ht
                  simp only [Option.toList_none, touchL]
                  split at ht
                  · rename_i ob off hy
                    simp at ht; subst ht
                    rw [hy]
                    simp only []
                    split
                    · rename_i cs hcs
                      exact (hld ⟨g, n, y, ob, off, cs, rfl, hy, hcs⟩).elim
                    · rfl
                  · rename_i ob off' off hy
                    simp at ht; subst ht
                    rw [hy]
                  · simp at ht
                | ext z =>
                  intro hw _ ht _ _
                  cases z <;> simp only [touch, touchX, mapOf] at ht <;> first | (simp [isW] at hw; done) | skip
                  · split at ht
                    · rename_i ob hy
                      simp at ht; subst ht
                      simp [touchL, hy]
                    · simp at ht
                  · split at ht
                    · rename_i ob hy
                      simp at ht; subst ht
                      simp [touchL, hy]
                    · simp at ht
                  all_goals simp at ht
                | call f l => intro _ _ _ _ h; simp [isCall] at h
                | _ => intro hw _ ht hm; first | (simp [isMem, isW] at hm; done) | (simp [isW] at hw; done)
              refine hagree t none (htl ha _ htn) (fun hnew => (isNew_read hnew hm hw).elim) hm fun j oj h1 h2 _ _ h4 => ?_
              · obtain ⟨y, hy⟩ := h2
                obtain ⟨_, _, _, _, q, _⟩ := stable_mem h4 _ (lastU_mem hy)
                simp at q
          · -- it might write, and does not
            refine exOpN_local (env' := envD) (fun z e => by rw [e] at hdr; exact hdr) (σ' := runL D (os.map sEntry) 0 σ) huo (fun t ht => ?_) hex
            rcases hnw hw with h | h
            · rw [h] at ht; simp at ht
            · rw [h] at ht; simp at ht; subst ht
              refine runL_agree _ 0 _ _ rfl fun j e v hj hev => ?_
              obtain ⟨oj, xj, h1, h2, _⟩ := sEntry_get hj hev
              obtain ⟨_, oi, y, k1, k2⟩ := hp.own_eff (i := i) j h1 h2
              rw [ho] at k1; cases k1
              rw [heff0, hn] at k2; simp [lastU] at k2
        · refine exOpN_local (env' := envD) (fun z e => by rw [e] at hdr; exact hdr) (σ' := runL D (os.map sEntry) 0 σ) huo (fun t ht => ?_) hex
          rw [hto] at ht; simp at ht; subst ht
          have hlk : look2 i tf = some (.mem o' none) := by
            refine htl ha _ ?_
            unfold tOut
            rw [heff0, he]
            revert hcall
            cases x.op <;> simp [isCall]
          refine hagree o' none hlk (fun hnew => ?_) (isW_mem hw) fun j oj h1 h2 _ _ h4 => ?_
          · have := isNew_touch (nm := nm i) (env := env1) hnew hdr hw
            rw [this] at hto; exact (Option.some.inj hto).symm
          · obtain ⟨y, hy⟩ := h2
            obtain ⟨_, _, _, _, q, _⟩ := stable_mem h4 _ (lastU_mem hy)
            simp at q
      obtain ⟨K', av, ef, v, w', h1, h2, h3, h4, h5, h6⟩ := op_ok (N := N) (o := oo) t1 (a' := x.op) rfl t4 hex' (fun m => S m ∨ ∃ j, j < is.length ∧ j ≠ i ∧ m = nm j) K a w hf hinv.sat (hinv.free i hi hD) (by
        rintro (h | ⟨j, _, hji, e⟩)
        · exact hSn i h
        · exact hji (hp.inj _ _ e).symm)
      subst h5 h6
      rw [app_toList, ← heff0] at h4
      unfold Oper.wp
      rcases h1 with h1 | ⟨h1, hd⟩
      · rw [h1]
        exact fin K' v w' h2 h3 h4
      · rw [h1]
        show next (a.put oo.dst undef) w'
        rw [hd]
        have := fin K' v w' h2 h3 h4
        rw [hd] at this
        exact this
  · have hwant : Region.wanted oo (yielded ops a.tmps) = false := by
      rcases t5 with ⟨g1, g2⟩ | ⟨j, b', s', g1, g2, g3⟩
      · have : x.bare.guard = some (s, b) := hg
        rw [this] at g2; simp at g2
      · have : x.bare.guard = some (s, b) := hg
        rw [this] at g2; simp at g2
        obtain ⟨rfl, rfl⟩ := g2
        rcases hgd with ⟨p, hp', hpb⟩ | ⟨vs, hp'⟩
        · rw [guard_wanted hf g1 g3 (p := p)]
          · simpa using hpb
          · rw [huse s (by simp [usesI, hg])]; exact hp'
        · exact guard_undef hf g1 g3 (vs := vs) (by rw [huse s (by simp [usesI, hg])]; exact hp')
    rw [hwant]
    simp only [Bool.false_eq_true, if_false]
    refine done K _ w (Gh.leS.refl K) ?_ (by rw [hne]; exact hinv.sat)
    have e2 : oo.dst = x.dst := t2
    simp only [Out.env, ha, Bool.false_eq_true, if_false]
    rw [e2]; exact hf.skipA (fun y hy => t3 y (by rw [e2]; exact hy))
theorem countP_set {l : List Nat} {p q : Nat → Bool} {i : Nat} (hl : l.Nodup) (hi : i ∈ l) (hp : p i = true) (hq : q i = false) (he : ∀ j, j ≠ i → q j = p j) : l.countP q + 1 = l.countP p := by
  induction l with
  | nil => simp at hi
  | cons x l ih =>
    rw [List.nodup_cons] at hl
    rcases List.mem_cons.1 hi with rfl | hi
    · have : l.countP q = l.countP p := List.countP_congr fun j hj => by
        rw [he j (fun e => hl.1 (e ▸ hj))]
      simp [List.countP_cons, hp, hq, this]
    · have hx : x ≠ i := fun e => hl.1 (e ▸ hi)
      have := ih hl.2 hi
      simp only [List.countP_cons, he x hx]
      omega
theorem draw_all (hp : Plan P N ops is os nm env σ tf) {K0 : Gh} {S : Nat → Prop} (hS : Bnd S) (hSn : ∀ j, ¬ S (nm j)) {Q : AExit → Env → Sig → Prop} {envF : Env}
    (hlF : lk envF = runL (fun _ => true) (List.zipWith eEntry is os) 0 (lk env)) (hQ : Q .normal envF (runL (fun _ => true) (os.map sEntry) 0 σ)) : ∀ (fuel : Nat) (listed : Array Bool) (K : Gh) (a : Act) (w : World),
    listed.size = ops.size → Inv K0 S N ops is os nm env σ (fun j => listed.getD j false) K a w → (List.range ops.size).countP (fun j => !listed.getD j false) ≤ fuel →
    wpAny P .any ops (LiftQ N S K0 Q) fuel listed a w := by
  have fin : ∀ (listed : Array Bool) (K : Gh) (a : Act) (w : World), Inv K0 S N ops is os nm env σ (fun j => listed.getD j false) K a w → (∀ j, j < ops.size → listed.getD j false = true) → LiftQ N S K0 Q .normal a w := by
    intro listed K a w hinv hall
    obtain ⟨env', h1, h2⟩ := hinv.fr
    have e1 : runL (fun j => listed.getD j false) (List.zipWith eEntry is os) 0 (lk env) = runL (fun _ => true) (List.zipWith eEntry is os) 0 (lk env) := by
      funext s
      refine runL_agree _ 0 _ _ rfl fun j e v hj hev => ?_
      obtain ⟨y, _, h3, _⟩ := eEntry_get hj hev
      simp only [Nat.zero_add]
      exact hall j (by rw [hp.lenO]; exact (List.getElem?_eq_some_iff.1 h3).1)
    have e2 : runL (fun j => listed.getD j false) (os.map sEntry) 0 σ = runL (fun _ => true) (os.map sEntry) 0 σ := by
      funext s
      refine runL_agree _ 0 _ _ rfl fun j e v hj hev => ?_
      obtain ⟨y, _, h3, _⟩ := sEntry_get hj hev
      simp only [Nat.zero_add]
      exact hall j (by rw [hp.lenO, ← hp.len]; exact (List.getElem?_eq_some_iff.1 h3).1)
    refine ⟨.normal, K, envF, _, hinv.le, trivial, h2.weak ?_, e2 ▸ hinv.sat, hQ⟩
    intro i v hv
    rw [h1, e1, ← hlF]; exact hv
  have empty : ∀ (listed : Array Bool), listed.size = ops.size → Region.ready .any ops listed = [] → ∀ j, j < ops.size → listed.getD j false = true := by
    intro listed hsz hr j
    induction j using Nat.strongRecOn with
    | _ j ih =>
      intro hj
      cases hd : listed.getD j false
      case true => rfl
      exfalso
      have : j ∈ Region.ready .any ops listed := by
        rw [mem_ready]
        refine ⟨?_, _, Array.getElem?_eq_getElem hj, fun e he hb => ?_⟩
        · have hj' : j < listed.size := by omega
          simp [hj'] at hd ⊢; exact hd
        · have := hp.facts.back j _ (by rw [Array.getElem?_toList]; exact Array.getElem?_eq_getElem hj) e he hb
          exact ih e.on this (by omega)
      rw [hr] at this
      simp at this
  intro fuel
  induction fuel with
  | zero =>
    intro listed K a w hsz hinv hc
    have hall : ∀ j, j < ops.size → listed.getD j false = true := by
      intro j hj
      have := List.countP_eq_zero.1 (Nat.le_zero.1 hc) j (List.mem_range.2 hj)
      simpa using this
    refine ⟨?_, fin listed K a w hinv hall⟩
    rw [List.eq_nil_iff_forall_not_mem]
    intro j hj
    rw [mem_ready] at hj
    obtain ⟨h0, o, ho, _⟩ := hj
    have hlt : j < ops.size := (Array.getElem?_eq_some_iff.1 ho).1
    have := hall j hlt
    have hj' : j < listed.size := by omega
    simp [hj'] at h0 this
    rw [h0] at this; simp at this
  | succ fuel ih =>
    intro listed K a w hsz hinv hc
    refine ⟨fun hr => fin listed K a w hinv (empty listed hsz hr), fun i hi => ?_⟩
    rw [mem_ready] at hi
    obtain ⟨h0, o, ho, hb⟩ := hi
    have hlt : i < ops.size := (Array.getElem?_eq_some_iff.1 ho).1
    have hil : i < listed.size := by omega
    have hD : listed.getD i false = false := by simp [hil] at h0 ⊢; exact h0
    have hset : ∀ j, (listed.setIfInBounds i true).getD j false = addD (fun j => listed.getD j false) i j := by
      intro j
      by_cases hji : j = i
      · subst hji; simp [addD, hil]
      · rw [getD_set_ne false (Ne.symm hji)]; simp [addD, hji]
    refine draw_step hp hS hSn hinv (by rw [← hp.lenO]; exact hlt) hD (fun o' ho' e he hbe => ?_) fun K' a' w' hinv' => ?_
    · rw [ho] at ho'; cases ho'; exact hb e he hbe
    · refine ih _ K' a' w' (by simp [hsz]) ?_ ?_
      · have : (fun j => (listed.setIfInBounds i true).getD j false) = addD (fun j => listed.getD j false) i := funext hset
        rw [this]; exact hinv'
      · have := countP_set (p := fun j => !listed.getD j false) (q := fun j => !(listed.setIfInBounds i true).getD j false) (i := i) List.nodup_range (List.mem_range.2 hlt) (by simp only [hD]; rfl) (by simp only [hset]; simp [addD]) (fun j hj => by simp only [hset]; simp [addD, hj])
        omega
end
theorem Sat.drawn {K σ w n} (h : Sat K σ w) : Sat K σ { w with drawn := n } :=
  { os := h.os, tape := h.tape, output := h.output, size := h.size, old := h.old, free := h.free, claim := h.claim, one := h.one, live := fun o x hx => h.live o x hx, apart := h.apart, room := h.room }
theorem draw_ok {P : Program} {N : Nat} {id : Nat} {ops : Array Oper} {is : List AInst} {env : Env} {σ : Sig} {Q : AExit → Env → Sig → Prop} (hm : P.follows .mixedOrders = true)
    (htr : trInsts P N ops ops.toList = some (is.map AInst.bare)) (hok : drawOk ops.toList (is.map AInst.bare) (masks [] ops.toList) = true)
    (h : exDraw P (allPairs (is.map AInst.bare) (masks [] ops.toList)) (fun env σ => Q .normal env σ) is 0 [] env σ) : AWP P N (.region id ops true) Q env σ := by
  intro S K a w hS hf hs
  obtain ⟨n, hn⟩ := hs.room
  obtain ⟨m, hm'⟩ := hS
  have hfr : ∀ j, K.own (max n m + j) = none := fun j => hn _ (by omega)
  have hσ : ∀ j, σ (max n m + j) = none := fun j => hs.fresh (hfr j)
  obtain ⟨os, tf, envF, q1, q2, q3, q4, q5, q6⟩ := exDraw_plan (nm := fun j => max n m + j) (fun i j h => by omega) is 0 [] env σ (fun j _ => hσ j) h
  obtain ⟨t1, t2⟩ := trInsts_get htr
  have hp : Plan P N ops is os (fun j => max n m + j) env σ tf := by
    refine ⟨q1, by simpa using t1, fun j o i ho hi => t2 j o i.bare (by simpa using ho) (by simp [hi]), fun j i o hi ho => ?_, drawOk_facts hok, q4, hσ, fun i j h => by omega⟩
    have := q2 j i o hi ho
    simpa only [Nat.zero_add] using this
  refine wp_region_any hm ?_
  refine draw_all hp ⟨m, hm'⟩ (fun j => hm' _ (by omega)) q5 q6 _ _ K a _ (by simp) ?_ ?_
  · have e : (fun j => (Array.replicate ops.size false).getD j false) = fun _ => false := by
      funext j
      simp only [Array.getD_eq_getD_getElem?, Array.getElem?_replicate]
      split <;> rfl
    rw [e]
    refine ⟨Gh.leS.refl K, ⟨env, ?_, hf⟩, ?_, fun j _ _ => hfr j, fun j hj => by simp at hj⟩
    · exact (runL_false _ _ _).symm
    · have : runL (fun _ => false) (os.map sEntry) 0 σ = σ := runL_false _ _ _
      rw [this]; exact hs.drawn
  · exact Nat.le_trans List.countP_le_length (by simp)
end Abs

namespace Abs
open Go
theorem wp_loopN {P : Program} {Q : Exit → Act → World → Prop} {c : Code} {a : Act} {w : World} (I : Nat → Act → World → Prop) (n0 : Nat) (h₀ : I n0 a w)
    (round : ∀ n a w, I n a w → c.wp P (Exit.then (fun a' w' => ∃ m, m < n ∧ I m a' w') Q) a w) : (Code.loop c).wp P Q a w := by
  intro b k cs
  have key : ∀ n a w, I n a w → ∃ e a' w', Q e a' w' ∧ Arrives P (lone (b.at a (.code c :: .inLoop c :: k)) cs w) b k cs e a' w' := by
    intro n
    induction n using Nat.strongRecOn with
    | _ n ih =>
      intro a w hI
      obtain ⟨e, a₁, w₁, hq, harr⟩ := round n a w hI b (.inLoop c :: k) cs
      cases e with
      | normal =>
        obtain ⟨m, hlt, hI₁⟩ := hq
        obtain ⟨e₂, a₂, w₂, hq₂, harr₂⟩ := ih m hlt a₁ w₁ hI₁
        exact ⟨e₂, a₂, w₂, hq₂, .of_steps (Steps.trans harr (.one step_inLoop)) harr₂⟩
      | exit id => exact ⟨_, a₁, w₁, hq, .pass (x := .inLoop c) rfl (fun _ _ => .inl (by simp)) harr⟩
      | goto l => exact ⟨_, a₁, w₁, hq, .pass (x := .inLoop c) rfl (fun _ _ => .inl (by simp)) harr⟩
      | ret => exact ⟨_, a₁, w₁, hq, .pass (x := .inLoop c) rfl (fun _ _ => .inl (by simp)) harr⟩
      | panic ch => exact ⟨_, a₁, w₁, hq, .pass (x := .inLoop c) rfl (fun _ _ => .inl (by simp)) harr⟩
      | outgrown => exact ⟨_, a₁, w₁, hq, .pass (x := .inLoop c) rfl (fun _ _ => .inl (by simp)) harr⟩
  obtain ⟨e, a', w', hq, harr⟩ := key n0 a w h₀
  exact ⟨e, a', w', hq, .of_steps (.one step_loop) harr⟩
theorem lift_then {N S K Q k e a w} (h : LiftQ N S K (thenQ k Q) e a w) : Exit.then (fun a w => ∃ K' env σ, K.leS S K' ∧ Fr K' N env a ∧ Sat K' σ w ∧ k env σ) (LiftQ N S K Q) e a w := by
  obtain ⟨ae, K', env, σ, h1, h2, h3, h4, h5⟩ := h
  cases e <;> cases ae <;> first | exact h2.elim | skip
  · exact ⟨K', env, σ, h1, h3, h4, h5⟩
  · exact ⟨_, K', env, σ, h1, h2, h3, h4, h5⟩
  · exact ⟨_, K', env, σ, h1, h2, h3, h4, h5⟩
  · exact ⟨_, K', env, σ, h1, h2, h3, h4, h5⟩
theorem lift_block {N S K Q id e a w} (h : LiftQ N S K (blockQ id Q) e a w) : Exit.inBlock id (LiftQ N S K Q) e a w := by
  obtain ⟨ae, K', env, σ, h1, h2, h3, h4, h5⟩ := h
  cases e <;> cases ae <;> first | exact h2.elim | skip
  · exact ⟨_, K', env, σ, h1, h2, h3, h4, h5⟩
  · rename_i i j
    have : i = j := h2
    subst this
    simp only [Exit.inBlock, blockQ] at h5 ⊢
    by_cases hi : i = id
    · simp only [hi, if_true] at h5 ⊢
      exact ⟨.normal, K', env, σ, h1, trivial, h3, h4, h5⟩
    · simp only [hi, if_false] at h5 ⊢
      exact ⟨.exit i, K', env, σ, h1, rfl, h3, h4, h5⟩
  · exact ⟨_, K', env, σ, h1, h2, h3, h4, h5⟩
  · exact ⟨_, K', env, σ, h1, h2, h3, h4, h5⟩
theorem awp_seq {P N a b Q env σ} {x y : Code} (h : AWP P N x (thenQ (fun env σ => AWP P N y Q env σ) Q) env σ) (ha : a = x) (hb : b = y) : AWP P N (.seq a b) Q env σ := by
  subst ha; subst hb
  intro S K a w hS hf hs
  refine wp_seq (wp_mono (h S K a w hS hf hs) fun e a w hq => ?_)
  have := lift_then hq
  cases e <;> first | exact this | skip
  obtain ⟨K', env', σ', h1, h2, h3, h4⟩ := this
  exact wp_mono (h4 S K' _ _ hS h2 h3) fun e a w hq => hq.mono h1
theorem LiftQ.up {N S K Q Q' e a w} (h : LiftQ N S K Q e a w) (hq : ∀ e env σ, Q e env σ → Q' e env σ) : LiftQ N S K Q' e a w :=
  let ⟨ae, K', env, σ, h1, h2, h3, h4, h5⟩ := h; ⟨ae, K', env, σ, h1, h2, h3, h4, hq _ _ _ h5⟩
theorem AWP.up {P N c Q Q' env σ} (h : AWP P N c Q env σ) (hq : ∀ e env σ, Q e env σ → Q' e env σ) : AWP P N c Q' env σ :=
  fun S K a w hS hf hs => wp_mono (h S K a w hS hf hs) fun _ _ _ h => h.up hq
theorem ex_sound {P : Program} {N : Nat} (hm : P.follows .mixedOrders = true) : ∀ (c : Code) (ac : ACode) (Q : AExit → Env → Sig → Prop) (env : Env) (σ : Sig), tr P N c = some ac.bare → ex P ac Q env σ → AWP P N c Q env σ := by
  intro c
  induction c with
  | skip =>
    intro ac Q env σ ht h
    simp only [tr] at ht
    cases ac <;> simp [ACode.bare] at ht
    intro S K a w hS hf hs
    exact wp_skip ⟨.normal, K, env, σ, Gh.leS.refl K, trivial, hf, hs, h⟩
  | region id ops draw =>
    intro ac Q env σ ht h
    simp only [tr] at ht
    split at ht
    case h_2 => simp at ht
    rename_i l hl
    cases draw with
    | true =>
      simp at ht
      obtain ⟨hok, ht⟩ := ht
      cases ac <;> simp [ACode.bare] at ht
      rename_i is ps
      obtain ⟨rfl, rfl⟩ := ht
      exact draw_ok hm hl hok h
    | false =>
      simp only [Bool.false_eq_true, if_false, Option.some.injEq] at ht
      cases ac <;> simp [ACode.bare] at ht
      rename_i is
      intro S K a w hS hf hs
      refine wp_region ?_
      rw [List.range_eq_range', ← Array.length_toList]
      exact insts_ok hS (K0 := K) is 0 ops.toList (by simp) (by rw [hl, ht]) env σ K a w (Gh.leS.refl K) h hf hs
  | seq x y ihx ihy =>
    intro ac Q env σ ht h
    simp only [tr] at ht
    split at ht <;> simp at ht
    rename_i a b h1 h2
    cases ac <;> simp [ACode.bare] at ht
    case seq a' b' =>
      obtain ⟨rfl, rfl⟩ := ht
      refine awp_seq (AWP.up (ihx a' _ env σ h1 h) fun e env σ hq => ?_) rfl rfl
      cases e <;> first | exact hq | skip
      exact ihy b' Q env σ h2 hq
    case cut a' b' =>
      obtain ⟨rfl, rfl⟩ := ht
      obtain ⟨I, h3, h4⟩ := h
      refine awp_seq (AWP.up (ihx a' _ env σ h1 h3) fun e env σ hq => ?_) rfl rfl
      cases e <;> first | exact hq | skip
      obtain ⟨env0, σ0, q1, q2⟩ := hq
      intro S K a w hS hf hs
      obtain ⟨K', k1, k2, k3⟩ := hf.view q2 hS hs
      exact wp_mono (ihy b' Q env0 σ0 h2 (h4 env0 σ0 q1) S K' a w hS k2 k3) fun e a w hq => hq.mono k1
  | cond c x y ihx ihy =>
    intro ac Q env σ ht h
    simp only [tr] at ht
    split at ht <;> simp at ht
    rename_i cc a b h0 h1 h2
    cases ac <;> simp [ACode.bare] at ht
    rename_i c' a' b'
    obtain ⟨rfl, rfl, rfl⟩ := ht
    obtain ⟨cv, e1, h⟩ := wth_some h
    cases cv <;> first | exact h.elim | skip
    rename_i p
    intro S K a w hS hf hs
    have hc := rel_bool (trOpnd_rel h0 e1 hf)
    refine wp_cond hc ?_
    cases p with
    | true => exact ihx a' Q env σ h1 (h.1 rfl) S K a w hS hf hs
    | false => exact ihy b' Q env σ h2 (h.2 rfl) S K a w hS hf hs
  | block id x ih =>
    intro ac Q env σ ht h
    simp only [tr, Option.map_eq_some_iff] at ht
    obtain ⟨a, h1, ht⟩ := ht
    cases ac <;> simp [ACode.bare] at ht
    rename_i id' a'
    obtain ⟨rfl, rfl⟩ := ht
    intro S K a w hS hf hs
    exact wp_block (wp_mono (ih a' _ env σ h1 h S K a w hS hf hs) fun e a w hq => lift_block hq)
  | loop x ih =>
    intro ac Q env σ ht h
    simp only [tr, Option.map_eq_some_iff] at ht
    obtain ⟨a, h1, ht⟩ := ht
    cases ac <;> simp [ACode.bare] at ht
    rename_i a'
    subst ht
    obtain ⟨I, ⟨n0, env0, σ0, hI, hvw⟩, hround⟩ := h
    intro S K a w hS hf hs
    obtain ⟨K0, k1, k2, k3⟩ := hf.view hvw hS hs
    refine wp_loopN (fun n a w => ∃ K' env σ, K.leS S K' ∧ Fr K' N env a ∧ Sat K' σ w ∧ I n env σ) n0 ⟨K0, env0, σ0, k1, k2, k3, hI⟩ ?_
    rintro n a w ⟨K', env, σ, hK, hf, hs, hI⟩
    have hr := hround n env σ hI
    refine wp_mono (ih a' _ env σ h1 hr S K' a w hS hf hs) fun e a w hq => ?_
    have := lift_then (k := roundP I n) (Q := Q) hq
    cases e with
    | normal =>
      obtain ⟨K1, env1, σ1, q1, q2, q3, m, env2, σ2, q4, q5, q6⟩ := this
      obtain ⟨K2, k1, k2, k3⟩ := q2.view q6 hS q3
      exact ⟨m, q4, K2, env2, σ2, (hK.trans q1).trans k1, k2, k3, q5⟩
    | exit id => exact LiftQ.mono hK this
    | goto l => exact LiftQ.mono hK this
    | ret => exact LiftQ.mono hK this
    | panic ch => exact LiftQ.mono hK this
    | outgrown => exact LiftQ.mono hK this
  | exit id =>
    intro ac Q env σ ht h
    simp only [tr] at ht
    cases ac <;> simp [ACode.bare] at ht
    subst ht
    intro S K a w hS hf hs
    exact wp_exit ⟨.exit id, K, env, σ, Gh.leS.refl K, rfl, hf, hs, h⟩
  | ret =>
    intro ac Q env σ ht h
    simp only [tr] at ht
    cases ac <;> simp [ACode.bare] at ht
    intro S K a w hS hf hs
    exact wp_ret ⟨.ret, K, env, σ, Gh.leS.refl K, trivial, hf, hs, h⟩
  | rangeFunc f ps a b _ _ => intro ac Q env σ ht h; simp [tr] at ht
  | scope b _ => intro ac Q env σ ht h; simp [tr] at ht
  | label l => intro ac Q env σ ht h; simp [tr] at ht
  | goto l => intro ac Q env σ ht h; simp [tr] at ht
  | refuse s => intro ac Q env σ ht h; simp [tr] at ht

/-! ### Functions -/
inductive ARV where
  | tmp (t : Nat)
  | cell (t : Nat) (g : Bool) (n : Nat)
def trRes (P : Program) : List ResultVar → Option (List ARV)
  | [] => some []
  | .tmp t :: r => match trRes P r with
    | some l => some (.tmp t :: l)
    | none => none
  | .cell t ty :: r => match readOf P ty, trRes P r with
    | some (g, n), some l => some (.cell t g n :: l)
    | _, _ => none
def exRes1 (env : Env) (σ : Sig) (R : AV → Prop) : ARV → Prop
  | .tmp t => wth (lk env t) R
  | .cell t g n => exOp env σ (fun v _ => R v) (.load g n (.t t))
def exRes (env : Env) (σ : Sig) (R : List AV → Prop) : List ARV → Prop
  | [] => R []
  | r :: rs => exRes1 env σ (fun v => exRes env σ (fun l => R (v :: l)) rs) r
def one : List AV → AV
  | [v] => v
  | l => .tup l
def fin (R : ARes → Sig → Prop) (v : AV) (σ : Sig) (_ : Tg R := .mk) : Prop := ∃ v0 σ0, Vr v0 σ0 v σ ∧ R (.ret v0) σ0
def finP (R : ARes → Sig → Prop) (v : AV) (σ : Sig) (_ : Tg R := .mk) : Prop := ∃ v0 σ0, Vr v0 σ0 v σ ∧ R (.panic v0) σ0
def bodyQ (rs : List ARV) (R : ARes → Sig → Prop) : AExit → Env → Sig → Prop
  | .normal, env, σ => exRes env σ (fun l => fin R (one l) σ) rs
  | .ret, env, σ => exRes env σ (fun l => fin R (one l) σ) rs
  | .panic v, _, σ => finP R v σ
  | .exit _, _, _ => False
def argEnv : Nat → List AV → Env
  | _, [] => []
  | i, v :: r => (i, some v) :: argEnv (i + 1) r
theorem argEnv_look : ∀ (l : List AV) (k i : Nat) (v : AV), lk (argEnv k l) i = some v → k ≤ i ∧ l[i - k]? = some v
  | [], k, i, v, h => by simp [argEnv, lk] at h
  | x :: l, k, i, v, h => by
    simp only [argEnv, lk] at h
    by_cases hi : i = k
    · subst hi; simp at h; subst h; simp
    · simp only [hi, if_false] at h
      obtain ⟨h1, h2⟩ := argEnv_look l (k + 1) i v h
      refine ⟨by omega, ?_⟩
      have : i - k = (i - (k + 1)) + 1 := by omega
      rw [this]; simpa using h2
def resOne (tmps : Array Value) : ResultVar → Sem Value
  | .tmp t => pure (tmps.getD t undef)
  | .cell x t => do loadVar t (← asAddr (tmps.getD x undef))
theorem results_eq (fn : Func) (tmps : Array Value) : results fn tmps = (fn.results.mapM (resOne tmps) >>= fun vs => pure (if h : vs.size = 1 then vs[0] else .tuple vs)) := by
  unfold results
  refine congrArg (fun (m : Sem (Array Value)) => m >>= fun (vs : Array Value) => (pure (if h : vs.size = 1 then vs[0] else .tuple vs) : Sem Value)) ?_
  refine congrArg (fun g => Array.mapM g fn.results) ?_
  funext r; cases r <;> rfl
theorem res_run {P : Program} {K : Gh} {N env σ a w} (hf : Fr K N env a) (hs : Sat K σ w) : ∀ (rvs : List ResultVar) (rs : List ARV) (R : List AV → Prop), trRes P rvs = some rs → exRes env σ R rs →
    ∃ l vs, (rvs.mapM (resOne a.tmps)).run P w = .ok vs w ∧ RelL K l vs ∧ R l
  | [], rs, R, ht, h => by
    simp [trRes] at ht; subst ht
    exact ⟨[], [], rfl, .nil, h⟩
  | rv :: rvs, rs, R, ht, h => by
    cases rv with
    | tmp t =>
      simp only [trRes] at ht
      split at ht <;> simp at ht
      rename_i l hl
      subst ht
      obtain ⟨v, e1, h⟩ := wth_some h
      obtain ⟨u, e2, hu⟩ := hf.rel t v e1
      obtain ⟨l', vs, q1, q2, q3⟩ := res_run hf hs rvs l _ hl h
      refine ⟨v :: l', u :: vs, ?_, .cons hu q2, q3⟩
      rw [List.mapM_cons]
      simp only [resOne, Sem.run_bind, Sem.run_pure, Result.andThen_ok, q1]
      simp [Array.getD_eq_getD_getElem?, e2]
    | cell x t =>
      simp only [trRes] at ht
      split at ht <;> simp at ht
      rename_i g n l hr hl
      subst ht
      obtain ⟨av, v, b, off, h1, h2, h3, h4⟩ := load_core (P := P) (N := N) (nm := 0) (R := fun v _ => exRes env σ (fun l => R (v :: l)) l) hr (x := .tmp x) (ax := .t x) rfl h hf hs
      obtain ⟨l', vs, q1, q2, q3⟩ := res_run hf hs rvs l _ hl h4
      refine ⟨av :: l', v :: vs, ?_, .cons h3 q2, q3⟩
      have e2 : a.tmps.getD x undef = .pointer (some ⟨b, off, none⟩) := h1
      have e3 : (loadVar t ⟨b, off, none⟩).run P w = .ok v w := by simpa [Instr.loadAt, Instr.sureAddr] using h2
      rw [List.mapM_cons]
      simp only [resOne, e2, asAddr, Sem.run_bind, Sem.run_pure, Result.andThen_ok, e3, q1]
theorem results_ok {P : Program} {K : Gh} {N env σ a w fn rs} {R : List AV → Prop} (hf : Fr K N env a) (hs : Sat K σ w) (ht : trRes P fn.results.toList = some rs) (h : exRes env σ R rs) :
    ∃ l v, (results fn a.tmps).run P w = .ok v w ∧ Rel K (one l) v ∧ R l := by
  obtain ⟨l, vs, h1, h2, h3⟩ := res_run hf hs fn.results.toList rs R ht h
  have hrun : (results fn a.tmps).run P w = .ok (if h : vs.toArray.size = 1 then vs.toArray[0] else .tuple vs.toArray) w := by
    rw [results_eq, Array.mapM_eq_mapM_toList]
    simp only [Sem.run_bind, Sem.run_map, h1, Result.andThen_ok, Sem.run_pure]
  refine ⟨l, _, hrun, ?_, h3⟩
  by_cases hv : vs.toArray.size = 1
  · rw [dif_pos hv]
    have hl : l.length = 1 := by rw [h2.1]; simpa using hv
    match l, hl with
    | [v], _ =>
      obtain ⟨u, r, rfl, k1, k2⟩ := h2.cons_inv
      simpa [one] using k1
  · rw [dif_neg hv]
    have hl : l.length ≠ 1 := by rw [h2.1]; simpa using hv
    have : one l = .tup l := by
      match l, hl with
      | [], _ => rfl
      | _ :: _ :: _, _ => rfl
    rw [this]
    exact .tupL (by simpa using h2)
theorem EndRel.ds {K : Gh} {e r} (d : List Deferred) (h : EndRel K e r) : EndRel { K with ds := d } e r := by
  cases e <;> cases r <;> first | exact h.elim | skip
  · exact Rel.ds d h
  · obtain ⟨v, rfl, k⟩ := h
    exact ⟨v, rfl, k.ds d⟩
theorem frame_enter {K : Gh} {N : Nat} {fn : Func} {args : List AV} {vals : Array Value} (hN : fn.ntmps = N) (hargs : args.length ≤ N) (hrel : RelL K args vals.toList) (hd : K.ds = []) :
    Fr K N (argEnv 0 args) { tmps := vals ++ Array.replicate (fn.ntmps - vals.size) undef, defers := [] } := by
  have hlen : args.length = vals.size := by simpa using hrel.1
  refine ⟨by simp; omega, hd.symm, fun i av e => ?_⟩
  obtain ⟨_, h2⟩ := argEnv_look args 0 i av e
  simp only [Nat.sub_zero] at h2
  have hi : i < args.length := by
    rcases Nat.lt_or_ge i args.length with h' | h'
    · exact h'
    · simp [List.getElem?_eq_none h'] at h2
  obtain ⟨v, h3, h4⟩ := hrel.get i hi
  refine ⟨v, ?_, ?_⟩
  · rw [Array.getElem?_append_left (by omega)]; simpa using h3
  · have : args[i] = av := by rw [List.getElem?_eq_getElem hi] at h2; exact Option.some.inj h2
    rw [← this]; exact h4
theorem calls_of_body {P : Program} (hm : P.follows .mixedOrders = true) {f : FuncId} {fn : Func} {c : Code} {N : Nat} {rs : List ARV} {ac : ACode} {args : List AV} {σ : Sig} {R : ARes → Sig → Prop}
    (hfn : P.funcs[f]? = some fn) (hb : fn.body = some c) (hname : (fn.name == "runtime.NumGoroutine") = false) (hN : fn.ntmps = N) (hargs : args.length ≤ N)
    (ht : tr P N c = some ac.bare) (hr : trRes P fn.results.toList = some rs) (h : ex P ac (bodyQ rs R) (argEnv 0 args) σ) : ACalls P f args σ R := by
  refine ⟨by simp [callable, hfn, hb, hname], fun S K w vals hS hrel hs => calls_of_wp hfn hb ?_⟩
  have hf : Fr { K with ds := [] } N (argEnv 0 args) { tmps := vals ++ Array.replicate (fn.ntmps - vals.size) undef, defers := [] } := frame_enter hN hargs (hrel.ds []) rfl
  refine wp_mono (ex_sound hm c ac _ _ σ ht h S _ _ w hS hf (hs.ds [])) ?_
  rintro e a w' ⟨ae, K', env, σ', h1, h2, h3, h4, h5⟩
  have hds : K'.ds = [] := h1.le.ds
  cases e <;> cases ae <;> first | exact h2.elim | exact h5.elim | skip
  · obtain ⟨l, v, q1, q2, v0, σ0, q3, q4⟩ := results_ok h3 h4 hr h5
    obtain ⟨K2, k1, k2, k3⟩ := q2.view q3 hS h4
    exact ⟨h3.defers.trans hds, v, q1, _, .ret _, σ0, (h1.trans k1).ds, k3.ds _, EndRel.ds (e := .returned v) (r := .ret _) _ k2, q4⟩
  · obtain ⟨l, v, q1, q2, v0, σ0, q3, q4⟩ := results_ok h3 h4 hr h5
    obtain ⟨K2, k1, k2, k3⟩ := q2.view q3 hS h4
    exact ⟨h3.defers.trans hds, v, q1, _, .ret _, σ0, (h1.trans k1).ds, k3.ds _, EndRel.ds (e := .returned v) (r := .ret _) _ k2, q4⟩
  · obtain ⟨v, rfl, hv⟩ := h2
    obtain ⟨v0, σ0, q3, q4⟩ := h5
    obtain ⟨K2, k1, k2, k3⟩ := hv.view q3 hS h4
    exact ⟨h3.defers.trans hds, _, .panic _, σ0, (h1.trans k1).ds, k3.ds _, EndRel.ds (e := .panicked _) (r := .panic _) _ ⟨v, rfl, k2⟩, q4⟩
theorem calls_of {P : Program} (hm : P.follows .mixedOrders = true) {f : FuncId} {fn : Func} {N : Nat} {rs : List ARV} {ac : ACode} {args : List AV} {σ : Sig} {R : ARes → Sig → Prop}
    (hfn : P.funcs[f]? = some fn) (hb : fn.body.bind (tr P N) = some ac.bare) (hname : (fn.name == "runtime.NumGoroutine") = false) (hN : fn.ntmps = N)
    (hr : trRes P fn.results.toList = some rs) (hargs : args.length ≤ N) (h : ex P ac (bodyQ rs R) (argEnv 0 args) σ) : ACalls P f args σ R := by
  cases hc : fn.body with
  | none => simp [hc] at hb
  | some c => exact calls_of_body hm hfn hc hname hN hargs (by simpa [hc] using hb) hr h
end Abs

