/- THE STATEMENT BlastNumbers: for whatever arguments the call returns true, and each argument reads as_ it did. No condition beyond the statement's own. -/
import Derived.Test.YtbbihmmobfmadaaRows
import Derived.WalkKit
import Derived.ProofKit
import Derived.Test.YtbbihmmobfmadaaMBlaBlaW
set_option linter.unusedSimpArgs false
set_option linter.unusedVariables false
namespace Go.Proofs.Ytbbihmmobfmadaa
open Abs Fil
open Go.ChangeShapes Go.WideShapes Go.ChangeAt Go.RowKit
namespace blastNumbers
theorem own : ownKnob Try.prog.godebug = none := by kernel_rfl
theorem laidOut : laidOutB Try.prog = true := by kernel_rfl
theorem shapes : argSh Try.prog 12 Try.f4.params.toList = some [(true, .row [.int .i64, .slice true (.row [.int .i64, .bool]), .slice true (.row [.int .i64, .int .i64]), .slice false (.int .i64)]), (false, .int .i64), (false, .int .u8), (false, .int .u64), (false, .int .u64)] := by kernel_rfl
theorem ok : ∀ xs, ArgsAre Try.prog 12 Try.f4.params.toList xs → ACalls Try.prog 4 xs (fun _ => none) (fun r _ => r = .ret (.bool true)) := by
  intro xs hx
  have h := args_sh shapes hx
  obtain ⟨a0, r, rfl, h0, a1, r', rfl, h1, a2, r'', rfl, h2, a3, r3, rfl, h3, a4, r4, rfl, h4, rfl⟩ := h
  obtain ⟨g, rfl, hg⟩ := arg_aig h0
  obtain ⟨op, rfl, _⟩ := arg_int h1
  obtain ⟨w, rfl, hw⟩ := arg_u8 h2
  obtain ⟨x, rfl, hxx⟩ := arg_u64 h3
  obtain ⟨y, rfl, hyy⟩ := arg_u64 h4
  exact (numbers_ok g op w x y _ (fun hf => few_wf hg (few_of hf)) hw hxx hyy).mono fun r s h => h.1
set_option maxRecDepth 20000 in
theorem lifted (os : Os) (started : os.Started) (H : Type) (enc : TypeId × Value → H) :
    ReturnsInHanded {} Try.checked os 4 .any (Rows.blastNumbersSpec.pre6 enc Try.prog Try.f4 Rows.blastNumbersRow.domain false) (Rows.blastNumbersSpec.post enc Try.prog Try.f4 false true false false) := by
  refine returnsInHanded_of_change (C := Try.checked) own started (by kernel_rfl) Try.func4
    (ChangeSpec.witness6 (enc := enc) (C := Try.checked) false ⟨#[], #[.agg #[.int .i64 0, .slice none 0 0, .slice none 0 0, .slice none 0 0], .int .i64 0, .int .u8 0, .int .u64 0, .int .u64 0], []⟩ 8 (by kernel_rfl) (by kernel_rfl) (by kernel_rfl) (by kernel_rfl)) ?_
  intro W base args ds gs before hval0 hW hcnd _
  refine post_true (P := Try.prog) (g := 12) laidOut (by kernel_rfl) rfl (fun ds h => ?_) (by kernel_rfl) (tb := 4) Try.underlying4 hval0 hW ok
  match ds, h with
  | [_, _, _, _, _], _ => rfl
end blastNumbers
theorem blastNumbers_holds : Rows.BlastNumbersSaid :=
  OpenClaim.holds_of_wide 4 Try.f4 rfl rfl rfl rfl rfl rfl rfl ⟨rfl, rfl, rfl, rfl, rfl⟩ rfl rfl rfl rfl rfl (by kernel_rfl) Try.func4 (by kernel_rfl)
    (of_decide_eq_true (by kernel_rfl)) (by unfold Func.isWrapper; first | (rw [if_pos (by decide +kernel)]; kernel_rfl) | (rw [if_neg (by decide +kernel)]; exact ⟨rfl, rfl⟩))
    (fun os started H enc _ => blastNumbers.lifted os started H enc)
end Go.Proofs.Ytbbihmmobfmadaa

