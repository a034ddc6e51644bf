/- THE STATEMENT SizedFlat, second form: for whatever arguments of bulk at most 1048576 the call returns true, and each argument reads as_ it did. -/
import Derived.Test.YtdiebjnjhgbklaaRows
import Derived.WalkKit
import Derived.ProofKit
import Derived.OpenShut
import Derived.JoinedCond
import Derived.Test.YtdiebjnjhgbklaaQSizSizAi
set_option linter.unusedSimpArgs false
set_option linter.unusedVariables false
namespace Go.Proofs.Ytdiebjnjhgbklaa
open Abs Fil Fil.Sz
open Go.ChangeShapes Go.WideShapes Go.ChangeAt Go.RowKit
namespace sizedFlat
theorem own : ownKnob Try.prog.godebug = none := by kernel_rfl
theorem laidOut : laidOutB Try.prog = true := by kernel_rfl
theorem ok : ∀ xs, ArgsR Try.prog Try.f4.params.toList xs → szAs xs ≤ 1048576 → ACalls Try.prog 4 xs (fun _ => none) (fun r _ => r = .ret (.bool true)) := by
 intro xs h hs
 obtain ⟨d, rfl, hw, hd⟩ := args_D h hs
 exact (lw_SizedFlat d _ hw hd).mono fun r s h => h.1
set_option maxRecDepth 100000 in
theorem lifted (os : Os) (started : os.Started) (H : Type) (enc : TypeId × Value → H) (F : Stop.Interp) :
  ReturnsInHanded {} Try.checked os 4 .any ((Rows.OpenSpec.upto Rows.sizedFlatSpec).pre6 enc Try.prog Try.f4 Rows.sizedFlatUptoRow.domain false) (((Rows.OpenSpec.upto Rows.sizedFlatSpec).at F).post enc Try.prog Try.f4 false true false false) := by
 refine returnsInHanded_of_cond (C := Try.checked) (s := Rows.OpenSpec.upto Rows.sizedFlatSpec) (k := Rows.uptoSmall) rfl own started (by kernel_rfl) Try.func4
  (OpenSpec.witness (enc := enc) (C := Try.checked) (s := Rows.OpenSpec.upto Rows.sizedFlatSpec) (k := Rows.uptoSmall) rfl false ⟨#[], #[.agg #[.slice none 0 0, .slice none 0 0, .slice none 0 0]], []⟩ 8 (by kernel_rfl) (by kernel_rfl) (by kernel_rfl)
   (x := ([.agg [.nil, .nil, .nil]], [], [])) (by kernel_rfl) rfl (by kernel_rfl)) ?_
 intro W base args ds gs before hval hW _ hk _
 refine post_true_z (bulkU H) (P := Try.prog) (s := Rows.sizedFlatSpec) (S := plainTys) laidOut plain_ok (by kernel_rfl) rfl (fun ds h => ?_) (by kernel_rfl) (tb := 4) Try.underlying4 hval hW (bulkU_le hk) ok
 match ds, h with
 | [_], _ => rfl
end sizedFlat
theorem sizedFlatUpto_holds : Rows.SizedFlatUptoSaid :=
 OpenClaim.holds_of_cond 4 Try.f4 rfl rfl rfl rfl rfl rfl rfl ⟨rfl, rfl, rfl, rfl, rfl⟩ rfl rfl rfl rfl rfl (by kernel_rfl) Try.func4 (by kernel_rfl)
  (of_decide_eq_true (by kernel_rfl)) (by unfold Func.isWrapper; first | (rw [if_pos (by decide +kernel)]; kernel_rfl) | (rw [if_neg (by decide +kernel)]; exact ⟨rfl, rfl⟩))
  (fun os started H enc _ F => sizedFlat.lifted os started H enc F)
end Go.Proofs.Ytdiebjnjhgbklaa

