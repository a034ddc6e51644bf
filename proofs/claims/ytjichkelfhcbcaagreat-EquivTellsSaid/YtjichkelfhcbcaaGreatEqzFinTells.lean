/- THE STATEMENT EquivTells: for whatever arguments the call returns true, and each argument reads as_ it did. No condition beyond the statement's own. -/
import Derived.Test.YtjichkelfhcbcaaGreatRows
import Derived.WalkKit
import Derived.ProofKit
import Derived.Test.YtjichkelfhcbcaaGreatEqzEqvT
set_option linter.unusedSimpArgs false
set_option linter.unusedVariables false
namespace Go.Proofs.YtjichkelfhcbcaaGreat
open Abs Fil
open Go.ChangeShapes Go.WideShapes Go.ChangeAt Go.RowKit
namespace equivTells
theorem own : ownKnob Tryz.prog.godebug = none := by kernel_rfl
theorem laidOut : laidOutB Tryz.prog = true := by kernel_rfl
theorem shapes : argSh Tryz.prog 12 Tryz.f3.params.toList = some [(true, .row [.int .i64, .slice true (.row [.int .i64, .bool]), .slice true (.row [.int .i64, .int .i64]), .slice false (.int .i64)]), (true, .row [.int .i64, .slice true (.row [.int .i64, .bool]), .slice true (.row [.int .i64, .int .i64]), .slice false (.int .i64)])] := by kernel_rfl
theorem ok : ∀ xs, ArgsAre Tryz.prog 12 Tryz.f3.params.toList xs → ACalls Tryz.prog 3 xs (fun _ => none) (fun r _ => r = .ret (.bool true)) := by
  intro xs hx
  have h := args_sh shapes hx
  obtain ⟨a0, r, rfl, h0, a1, r1, rfl, h1, rfl⟩ := h
  obtain ⟨g, rfl, wg⟩ := arg_aig h0
  obtain ⟨k, rfl, wh⟩ := arg_aig h1
  exact (tells_law g k _ wg wh).mono fun r s h => h.1
set_option maxRecDepth 20000 in
theorem lifted (os : Os) (started : os.Started) (H : Type) (enc : TypeId × Value → H) :
    ReturnsInHanded {} Tryz.checked os 3 .any (Rows.equivTellsSpec.pre6 enc Tryz.prog Tryz.f3 Rows.equivTellsRow.domain false) (Rows.equivTellsSpec.post enc Tryz.prog Tryz.f3 false true false false) := by
  refine returnsInHanded_of_change (C := Tryz.checked) own started (by kernel_rfl) Tryz.func3
    (ChangeSpec.witness6 (enc := enc) (C := Tryz.checked) false ⟨#[], #[.agg #[.int .i64 0, .slice none 0 0, .slice none 0 0, .slice none 0 0], .agg #[.int .i64 0, .slice none 0 0, .slice none 0 0, .slice none 0 0]], []⟩ 8 (by kernel_rfl) (by kernel_rfl) (by kernel_rfl) (by kernel_rfl)) ?_
  intro W base args ds gs before hval0 hW hcnd _
  refine post_true (P := Tryz.prog) (g := 12) laidOut (by kernel_rfl) rfl (fun ds h => ?_) (by kernel_rfl) (tb := 4) Tryz.underlying4 hval0 hW ok
  match ds, h with
  | [_, _], _ => rfl
end equivTells
theorem equivTells_holds : Rows.EquivTellsSaid :=
  OpenClaim.holds_of_wide 3 Tryz.f3 rfl rfl rfl rfl rfl rfl rfl ⟨rfl, rfl, rfl, rfl, rfl⟩ rfl rfl rfl rfl rfl (by kernel_rfl) Tryz.func3 (by kernel_rfl)
    (of_decide_eq_true (by kernel_rfl)) (by unfold Func.isWrapper; first | (rw [if_pos (by decide +kernel)]; kernel_rfl) | (rw [if_neg (by decide +kernel)]; exact ⟨rfl, rfl⟩))
    (fun os started H enc _ => equivTells.lifted os started H enc)
end Go.Proofs.YtjichkelfhcbcaaGreat

