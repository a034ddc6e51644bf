/-
  NARROWER THAN 'FOR EVERY INPUT', by the rows' own cells (each row's printed sentence says how): BlastWhole: loops · BlastExprs: loops.
  DERIVED. THE GIVEN ROWS OF THIS SEAT. 4 by the template 'for every input the law returns true; each argument reads behind the call as it read before'; 0 by the template 'total and deterministic' (their statements: YtbbihmmobfmadaaGreatTotals.lean).
  GIVEN WITH THE SEED: the statements are not yours to turn. If you find one false, say at which input.
  Laid BY PROGRAM, IN A SANDBOX (cutbox-rows.mjs): the forced cells as the released guide's own fill.sh prints them over the translation 16f9646e59d2690c… (all of the seat's roots in one cut). By AI agents, Wed Nov 11 2026. No macro, syntax, notation, axiom, sorry.
-/
import Derived.Test.YtbbihmmobfmadaaGreatChecked
import GoSem.Claim
import GoSem.ClaimJoined
import GoSem.ClaimMapViews
import Derived.JoinedTies
import Derived.KernelRfl
namespace Go.Proofs.YtbbihmmobfmadaaGreat
/- THE CELL 'sum', in the pinned program and in every row, IS THE sha256 OF THE DUMP (.gsa) THAT YtbbihmmobfmadaaGreatProg.lean LOADS. Nothing in Lean hashes anything: it is a label: what it is worth is what the hold of that sum in a sandbox is worth. -/
noncomputable def Tryz.pinned : Pinned := { name := "ytbbihmmobfmadaagreat", sum := "16f9646e59d2690cc09aea8f0e83973174ac94ee2145d0c4e9ab3cf58b7520c5", checked := Tryz.checked }
namespace Rows
def none {H : Type} : Left H := { results := [], args := [] }

/-- 'filigreelaw19.BlastWhole': WHATEVER THE INPUT: true; the input reads as it did. -/
def blastWholeSpec : ChangeSpec := { name := "blastWhole", fn := fun _ => fun
  | [d1, d2, d3, d4] => { results := [.lit (.bool true)], args := [d1, d2, d3, d4] }
  | _ => none }
def blastWholeRow : OpenClaim := { program := "ytbbihmmobfmadaagreat", sum := "16f9646e59d2690cc09aea8f0e83973174ac94ee2145d0c4e9ab3cf58b7520c5", func := "filigree/filigreelaw19.BlastWhole", spec := "blastWhole", unfollowed := true, recurses := true, loops := true, apart := false }
def BlastWholeSaid : Prop := blastWholeRow.holds Tryz.pinned (OpenSpec.ofChange blastWholeSpec)

/-- ITS FALSE NEIGHBOUR: 'it returns false'. Refute it at one input. -/
def blastWholeWrong : ChangeSpec := { name := "blastWhole", fn := fun _ => fun
  | [d1, d2, d3, d4] => { results := [.lit (.bool false)], args := [d1, d2, d3, d4] }
  | _ => none }
def BlastWholeWrongFalsely : Prop := blastWholeRow.holds Tryz.pinned (OpenSpec.ofChange blastWholeWrong)

/-- 'filigreelaw19.BlastExprs': WHATEVER THE INPUT: true; the input reads as it did. -/
def blastExprsSpec : ChangeSpec := { name := "blastExprs", fn := fun _ => fun
  | [d1, d2, d3, d4, d5, d6] => { results := [.lit (.bool true)], args := [d1, d2, d3, d4, d5, d6] }
  | _ => none }
def blastExprsRow : OpenClaim := { program := "ytbbihmmobfmadaagreat", sum := "16f9646e59d2690cc09aea8f0e83973174ac94ee2145d0c4e9ab3cf58b7520c5", func := "filigree/filigreelaw19.BlastExprs", spec := "blastExprs", unfollowed := true, recurses := true, loops := true, apart := false }
def BlastExprsSaid : Prop := blastExprsRow.holds Tryz.pinned (OpenSpec.ofChange blastExprsSpec)

/-- ITS FALSE NEIGHBOUR: 'it returns false'. Refute it at one input. -/
def blastExprsWrong : ChangeSpec := { name := "blastExprs", fn := fun _ => fun
  | [d1, d2, d3, d4, d5, d6] => { results := [.lit (.bool false)], args := [d1, d2, d3, d4, d5, d6] }
  | _ => none }
def BlastExprsWrongFalsely : Prop := blastExprsRow.holds Tryz.pinned (OpenSpec.ofChange blastExprsWrong)

/-- 'filigreelaw19.BlastOne': WHATEVER THE INPUT: true; the input reads as it did. -/
def blastOneSpec : ChangeSpec := { name := "blastOne", fn := fun _ => fun
  | [d1, d2, d3, d4, d5] => { results := [.lit (.bool true)], args := [d1, d2, d3, d4, d5] }
  | _ => none }
def blastOneRow : OpenClaim := { program := "ytbbihmmobfmadaagreat", sum := "16f9646e59d2690cc09aea8f0e83973174ac94ee2145d0c4e9ab3cf58b7520c5", func := "filigree/filigreelaw19.BlastOne", spec := "blastOne", unfollowed := true, recurses := true, apart := false }
def BlastOneSaid : Prop := blastOneRow.holds Tryz.pinned (OpenSpec.ofChange blastOneSpec)

/-- ITS FALSE NEIGHBOUR: 'it returns false'. Refute it at one input. -/
def blastOneWrong : ChangeSpec := { name := "blastOne", fn := fun _ => fun
  | [d1, d2, d3, d4, d5] => { results := [.lit (.bool false)], args := [d1, d2, d3, d4, d5] }
  | _ => none }
def BlastOneWrongFalsely : Prop := blastOneRow.holds Tryz.pinned (OpenSpec.ofChange blastOneWrong)

/-- 'filigreelaw19.BlastTwo': WHATEVER THE INPUT: true; the input reads as it did. -/
def blastTwoSpec : ChangeSpec := { name := "blastTwo", fn := fun _ => fun
  | [d1, d2, d3, d4, d5] => { results := [.lit (.bool true)], args := [d1, d2, d3, d4, d5] }
  | _ => none }
def blastTwoRow : OpenClaim := { program := "ytbbihmmobfmadaagreat", sum := "16f9646e59d2690cc09aea8f0e83973174ac94ee2145d0c4e9ab3cf58b7520c5", func := "filigree/filigreelaw19.BlastTwo", spec := "blastTwo", unfollowed := true, recurses := true, apart := false }
def BlastTwoSaid : Prop := blastTwoRow.holds Tryz.pinned (OpenSpec.ofChange blastTwoSpec)

/-- ITS FALSE NEIGHBOUR: 'it returns false'. Refute it at one input. -/
def blastTwoWrong : ChangeSpec := { name := "blastTwo", fn := fun _ => fun
  | [d1, d2, d3, d4, d5] => { results := [.lit (.bool false)], args := [d1, d2, d3, d4, d5] }
  | _ => none }
def BlastTwoWrongFalsely : Prop := blastTwoRow.holds Tryz.pinned (OpenSpec.ofChange blastTwoWrong)

/- THE SECOND FORM. 'bulk': how many values and letters a reading holds, each counted each time it is reached (what is shared counts as often as it is met; a slice's spare places count too). A statement '..UptoSaid' is the law's where the arguments, and the package variables that the reading takes, are together of bulk at most 1048576: NARROWER than '..Said'. Prove '..Said' where nothing that the law and all that it calls make is longer than what came in: it says more and counts as full. Else prove '..UptoSaid'. A law counts once. -/
mutual
def uptoBulk {H : Type} : DataW H → Nat
  | .lit (.string bytes) => bytes.length + 1
  | .lit _ => 1
  | .nil => 1
  | .ptr d => uptoBulk d + 1
  | .slice elems spare => uptoBulkAll elems + uptoBulkAll spare + 1
  | .agg parts => uptoBulkAll parts + 1
  | .iface _ d => uptoBulk d + 1
  | .map entries => uptoBulkEntries entries + 1
  | .held _ => 1
def uptoBulkAll {H : Type} : List (DataW H) → Nat
  | [] => 0
  | d :: r => uptoBulk d + uptoBulkAll r
def uptoBulkEntries {H : Type} : List (Lit × DataW H) → Nat
  | [] => 0
  | x :: r => uptoBulkEntry x + uptoBulkEntries r
def uptoBulkEntry {H : Type} : Lit × DataW H → Nat
  | (.string bytes, d) => bytes.length + uptoBulk d + 1
  | (_, d) => uptoBulk d + 1
 end
def uptoSmall : (H : Type) → List (DataW H) → Bool := fun _ ds => decide (uptoBulkAll ds ≤ 1048576)
def OpenSpec.upto (s : _root_.Go.ChangeSpec) : _root_.Go.OpenSpec := { _root_.Go.OpenSpec.ofChange s with cond := some uptoSmall }

/-- 'filigreelaw19.BlastWhole', WHERE WHAT IT READS IS OF BULK AT MOST 1048576: true; the input reads as it did. -/
def blastWholeUptoRow : OpenClaim := { program := "ytbbihmmobfmadaagreat", sum := "16f9646e59d2690cc09aea8f0e83973174ac94ee2145d0c4e9ab3cf58b7520c5", func := "filigree/filigreelaw19.BlastWhole", spec := "blastWhole", unfollowed := true, recurses := true, loops := true, apart := false, narrowed := true }
def BlastWholeUptoSaid : Prop := blastWholeUptoRow.holds Tryz.pinned (OpenSpec.upto blastWholeSpec)

/-- 'filigreelaw19.BlastExprs', WHERE WHAT IT READS IS OF BULK AT MOST 1048576: true; the input reads as it did. -/
def blastExprsUptoRow : OpenClaim := { program := "ytbbihmmobfmadaagreat", sum := "16f9646e59d2690cc09aea8f0e83973174ac94ee2145d0c4e9ab3cf58b7520c5", func := "filigree/filigreelaw19.BlastExprs", spec := "blastExprs", unfollowed := true, recurses := true, loops := true, apart := false, narrowed := true }
def BlastExprsUptoSaid : Prop := blastExprsUptoRow.holds Tryz.pinned (OpenSpec.upto blastExprsSpec)

/-- 'filigreelaw19.BlastOne', WHERE WHAT IT READS IS OF BULK AT MOST 1048576: true; the input reads as it did. -/
def blastOneUptoRow : OpenClaim := { program := "ytbbihmmobfmadaagreat", sum := "16f9646e59d2690cc09aea8f0e83973174ac94ee2145d0c4e9ab3cf58b7520c5", func := "filigree/filigreelaw19.BlastOne", spec := "blastOne", unfollowed := true, recurses := true, apart := false, narrowed := true }
def BlastOneUptoSaid : Prop := blastOneUptoRow.holds Tryz.pinned (OpenSpec.upto blastOneSpec)

/-- 'filigreelaw19.BlastTwo', WHERE WHAT IT READS IS OF BULK AT MOST 1048576: true; the input reads as it did. -/
def blastTwoUptoRow : OpenClaim := { program := "ytbbihmmobfmadaagreat", sum := "16f9646e59d2690cc09aea8f0e83973174ac94ee2145d0c4e9ab3cf58b7520c5", func := "filigree/filigreelaw19.BlastTwo", spec := "blastTwo", unfollowed := true, recurses := true, apart := false, narrowed := true }
def BlastTwoUptoSaid : Prop := blastTwoUptoRow.holds Tryz.pinned (OpenSpec.upto blastTwoSpec)

end Rows
end Go.Proofs.YtbbihmmobfmadaaGreat
