/- THE STATEMENT BlastTwo: for whatever arguments the call returns true, and each argument reads as_ it did. No condition beyond the statement's own. -/
import Derived.Test.YtbbihmmobfmadaaGreatRows
import Derived.WalkKit
import Derived.ProofKit
import Derived.Test.YtbbihmmobfmadaaGreatOBlzBlzL
set_option linter.unusedSimpArgs false
set_option linter.unusedVariables false
namespace Go.Proofs.YtbbihmmobfmadaaGreat
open Abs Fil
open Go.ChangeShapes Go.WideShapes Go.ChangeAt Go.RowKit
namespace blastTwo
theorem own : ownKnob Tryz.prog.godebug = none := by kernel_rfl
theorem laidOut : laidOutB Tryz.prog = true := by kernel_rfl
theorem shapes : argSh Tryz.prog 12 Tryz.f6.params.toList = some [(true, .row [.int .i64, .slice true (.row [.int .i64, .bool]), .slice true (.row [.int .i64, .int .i64]), .slice false (.int .i64)]), (false, .int .i64), (false, .slice false (.int .i64)), (false, .slice false (.int .i64)), (false, .int .i64)] := by kernel_rfl
theorem ok : ∀ xs, ArgsAre Tryz.prog 12 Tryz.f6.params.toList xs → ACalls Tryz.prog 6 xs (fun _ => none) (fun r _ => r = .ret (.bool true)) := by
  intro xs hx
  have h := args_sh shapes hx
  obtain ⟨a0, r, rfl, h0, a1, r', rfl, h1, a2, r'', rfl, h2, a3, r3, rfl, h3, a4, r4, rfl, h4, rfl⟩ := h
  obtain ⟨g, rfl, hg⟩ := arg_aig h0
  obtain ⟨op, rfl, _⟩ := arg_int h1
  obtain ⟨a, rfl, _, ha⟩ := shv_slice (f := encInt) (p := I64) h2 fun x hx => arg_int hx
  obtain ⟨b, rfl, _, hb⟩ := shv_slice (f := encInt) (p := I64) h3 fun x hx => arg_int hx
  obtain ⟨c, rfl, hc⟩ := arg_int h4
  exact (two_ok g op a b c _ (fun hf => few_wf hg (few_of hf)) ha hb hc).mono fun r s h => h.1
set_option maxRecDepth 20000 in
theorem lifted (os : Os) (started : os.Started) (H : Type) (enc : TypeId × Value → H) :
    ReturnsInHanded {} Tryz.checked os 6 .any (Rows.blastTwoSpec.pre6 enc Tryz.prog Tryz.f6 Rows.blastTwoRow.domain false) (Rows.blastTwoSpec.post enc Tryz.prog Tryz.f6 false true false false) := by
  refine returnsInHanded_of_change (C := Tryz.checked) own started (by kernel_rfl) Tryz.func6
    (ChangeSpec.witness6 (enc := enc) (C := Tryz.checked) false ⟨#[], #[.agg #[.int .i64 0, .slice none 0 0, .slice none 0 0, .slice none 0 0], .int .i64 0, .slice none 0 0, .slice none 0 0, .int .i64 0], []⟩ 8 (by kernel_rfl) (by kernel_rfl) (by kernel_rfl) (by kernel_rfl)) ?_
  intro W base args ds gs before hval0 hW hcnd _
  refine post_true (P := Tryz.prog) (g := 12) laidOut (by kernel_rfl) rfl (fun ds h => ?_) (by kernel_rfl) (tb := 4) Tryz.underlying4 hval0 hW ok
  match ds, h with
  | [_, _, _, _, _], _ => rfl
end blastTwo
theorem blastTwo_holds : Rows.BlastTwoSaid :=
  OpenClaim.holds_of_wide 6 Tryz.f6 rfl rfl rfl rfl rfl rfl rfl ⟨rfl, rfl, rfl, rfl, rfl⟩ rfl rfl rfl rfl rfl (by kernel_rfl) Tryz.func6 (by kernel_rfl)
    (of_decide_eq_true (by kernel_rfl)) (by unfold Func.isWrapper; first | (rw [if_pos (by decide +kernel)]; kernel_rfl) | (rw [if_neg (by decide +kernel)]; exact ⟨rfl, rfl⟩))
    (fun os started H enc _ => blastTwo.lifted os started H enc)
end Go.Proofs.YtbbihmmobfmadaaGreat

