/- THE STATEMENT BlastSingles: for whatever arguments the call returns true, and each argument reads as_ it did. No condition beyond the statement's own. -/
import Derived.Test.YtbbihmmobfmadaaRows
import Derived.WalkKit
import Derived.ProofKit
import Derived.Test.YtbbihmmobfmadaaSBlaBlaAb
set_option linter.unusedSimpArgs false
set_option linter.unusedVariables false
namespace Go.Proofs.Ytbbihmmobfmadaa
open Abs Fil
open Go.ChangeShapes Go.WideShapes Go.ChangeAt Go.RowKit
namespace blastSingles
theorem own : ownKnob Try.prog.godebug = none := by kernel_rfl
theorem laidOut : laidOutB Try.prog = true := by kernel_rfl
theorem shapes : argSh Try.prog 12 Try.f6.params.toList = some [(true, .row [.int .i64, .slice true (.row [.int .i64, .bool]), .slice true (.row [.int .i64, .int .i64]), .slice false (.int .i64)]), (false, .int .i64), (false, .slice false (.int .i64)), (false, .slice false (.int .i64)), (false, .int .i64), (false, .int .i64), (false, .slice false (.bool)), (false, .slice false (.bool))] := by kernel_rfl
theorem ok : ∀ xs, ArgsAre Try.prog 12 Try.f6.params.toList xs → ACalls Try.prog 6 xs (fun _ => none) (fun r _ => r = .ret (.bool true)) := by
  intro xs hx
  have h := args_sh shapes hx
  obtain ⟨a0, r, rfl, h0, a1, r', rfl, h1, a2, r'', rfl, h2, a3, r3, rfl, h3, a4, r4, rfl, h4, a5, r5, rfl, h5, a6, r6, rfl, h6, a7, r7, rfl, h7, rfl⟩ := h
  obtain ⟨g, rfl, hg⟩ := arg_aig h0
  obtain ⟨op, rfl, _⟩ := arg_int h1
  obtain ⟨a, rfl, _, ha⟩ := shv_slice (f := encInt) (p := I64) h2 fun x hx => arg_int hx
  obtain ⟨b, rfl, _, hb⟩ := shv_slice (f := encInt) (p := I64) h3 fun x hx => arg_int hx
  obtain ⟨c, rfl, hc⟩ := arg_int h4
  obtain ⟨w, rfl, hwi⟩ := arg_int h5
  obtain ⟨inp, rfl, _⟩ := arg_bools h6
  obtain ⟨st, rfl, _⟩ := arg_bools h7
  exact (singles_ok g op a b c w inp st _ (fun hf => few_wf hg (few_of hf)) ha hb hc hwi).mono fun r s h => h.1
set_option maxRecDepth 20000 in
theorem lifted (os : Os) (started : os.Started) (H : Type) (enc : TypeId × Value → H) :
    ReturnsInHanded {} Try.checked os 6 .any (Rows.blastSinglesSpec.pre6 enc Try.prog Try.f6 Rows.blastSinglesRow.domain false) (Rows.blastSinglesSpec.post enc Try.prog Try.f6 false true false false) := by
  refine returnsInHanded_of_change (C := Try.checked) own started (by kernel_rfl) Try.func6
    (ChangeSpec.witness6 (enc := enc) (C := Try.checked) false ⟨#[], #[.agg #[.int .i64 0, .slice none 0 0, .slice none 0 0, .slice none 0 0], .int .i64 0, .slice none 0 0, .slice none 0 0, .int .i64 0, .int .i64 0, .slice none 0 0, .slice none 0 0], []⟩ 8 (by kernel_rfl) (by kernel_rfl) (by kernel_rfl) (by kernel_rfl)) ?_
  intro W base args ds gs before hval0 hW hcnd _
  refine post_true (P := Try.prog) (g := 12) laidOut (by kernel_rfl) rfl (fun ds h => ?_) (by kernel_rfl) (tb := 4) Try.underlying4 hval0 hW ok
  match ds, h with
  | [_, _, _, _, _, _, _, _], _ => rfl
end blastSingles
theorem blastSingles_holds : Rows.BlastSinglesSaid :=
  OpenClaim.holds_of_wide 6 Try.f6 rfl rfl rfl rfl rfl rfl rfl ⟨rfl, rfl, rfl, rfl, rfl⟩ rfl rfl rfl rfl rfl (by kernel_rfl) Try.func6 (by kernel_rfl)
    (of_decide_eq_true (by kernel_rfl)) (by unfold Func.isWrapper; first | (rw [if_pos (by decide +kernel)]; kernel_rfl) | (rw [if_neg (by decide +kernel)]; exact ⟨rfl, rfl⟩))
    (fun os started H enc _ => blastSingles.lifted os started H enc)
end Go.Proofs.Ytbbihmmobfmadaa

