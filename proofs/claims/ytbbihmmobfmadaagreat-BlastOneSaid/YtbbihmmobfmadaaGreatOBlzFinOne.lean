/- THE STATEMENT BlastOne: for whatever arguments the call returns true, and each argument reads as_ it did. No condition beyond the statement's own. -/
import Derived.Test.YtbbihmmobfmadaaGreatRows
import Derived.WalkKit
import Derived.ProofKit
import Derived.Test.YtbbihmmobfmadaaGreatOBlzBlzL
set_option linter.unusedSimpArgs false
set_option linter.unusedVariables false
namespace Go.Proofs.YtbbihmmobfmadaaGreat
open Abs Fil
open Go.ChangeShapes Go.WideShapes Go.ChangeAt Go.RowKit
namespace blastOne
theorem own : ownKnob Tryz.prog.godebug = none := by kernel_rfl
theorem laidOut : laidOutB Tryz.prog = true := by kernel_rfl
theorem shapes : argSh Tryz.prog 12 Tryz.f5.params.toList = some [(true, .row [.int .i64, .slice true (.row [.int .i64, .bool]), .slice true (.row [.int .i64, .int .i64]), .slice false (.int .i64)]), (false, .int .i64), (false, .slice false (.int .i64)), (false, .int .i64), (false, .int .u64)] := by kernel_rfl
theorem ok : ∀ xs, ArgsAre Tryz.prog 12 Tryz.f5.params.toList xs → ACalls Tryz.prog 5 xs (fun _ => none) (fun r _ => r = .ret (.bool true)) := by
  intro xs hx
  have h := args_sh shapes hx
  obtain ⟨a0, r, rfl, h0, a1, r', rfl, h1, a2, r'', rfl, h2, a3, r3, rfl, h3, a4, r4, rfl, h4, rfl⟩ := h
  obtain ⟨g, rfl, hg⟩ := arg_aig h0
  obtain ⟨op, rfl, _⟩ := arg_int h1
  obtain ⟨a, rfl, _, ha⟩ := shv_slice (f := encInt) (p := I64) h2 fun x hx => arg_int hx
  obtain ⟨w, rfl, _⟩ := arg_int h3
  obtain ⟨v, rfl, hv⟩ := arg_u64 h4
  exact (one_ok g op a w v _ (fun hf => few_wf hg (few_of hf)) ha hv).mono fun r s h => h.1
set_option maxRecDepth 20000 in
theorem lifted (os : Os) (started : os.Started) (H : Type) (enc : TypeId × Value → H) :
    ReturnsInHanded {} Tryz.checked os 5 .any (Rows.blastOneSpec.pre6 enc Tryz.prog Tryz.f5 Rows.blastOneRow.domain false) (Rows.blastOneSpec.post enc Tryz.prog Tryz.f5 false true false false) := by
  refine returnsInHanded_of_change (C := Tryz.checked) own started (by kernel_rfl) Tryz.func5
    (ChangeSpec.witness6 (enc := enc) (C := Tryz.checked) false ⟨#[], #[.agg #[.int .i64 0, .slice none 0 0, .slice none 0 0, .slice none 0 0], .int .i64 0, .slice none 0 0, .int .i64 0, .int .u64 0], []⟩ 8 (by kernel_rfl) (by kernel_rfl) (by kernel_rfl) (by kernel_rfl)) ?_
  intro W base args ds gs before hval0 hW hcnd _
  refine post_true (P := Tryz.prog) (g := 12) laidOut (by kernel_rfl) rfl (fun ds h => ?_) (by kernel_rfl) (tb := 4) Tryz.underlying4 hval0 hW ok
  match ds, h with
  | [_, _, _, _, _], _ => rfl
end blastOne
theorem blastOne_holds : Rows.BlastOneSaid :=
  OpenClaim.holds_of_wide 5 Tryz.f5 rfl rfl rfl rfl rfl rfl rfl ⟨rfl, rfl, rfl, rfl, rfl⟩ rfl rfl rfl rfl rfl (by kernel_rfl) Tryz.func5 (by kernel_rfl)
    (of_decide_eq_true (by kernel_rfl)) (by unfold Func.isWrapper; first | (rw [if_pos (by decide +kernel)]; kernel_rfl) | (rw [if_neg (by decide +kernel)]; exact ⟨rfl, rfl⟩))
    (fun os started H enc _ => blastOne.lifted os started H enc)
end Go.Proofs.YtbbihmmobfmadaaGreat

