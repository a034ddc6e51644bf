/-
  No cell of these rows narrows 'for every input' (looked for: loops, veiled, ifaces, maps, wideKeys, modest, calm, conditions, laid).
  DERIVED. THE GIVEN ROWS OF THIS SEAT. 10 by the template 'for every input the law returns true; each argument reads behind the call as it read before'; 0 by the template 'total and deterministic' (their statements: YtlgjokognnbhiaaTotals.lean).
  GIVEN WITH THE SEED: the statements are not yours to turn. If you find one false, say at which input.
  Laid BY PROGRAM, IN A SANDBOX (cutbox-rows.mjs): the forced cells as the released guide's own fill.sh prints them over the translation fb378ca88b9b88e4… (all of the seat's roots in one cut). By AI agents, Wed Nov 11 2026. No macro, syntax, notation, axiom, sorry.
-/
import Derived.Test.YtlgjokognnbhiaaChecked
import GoSem.Claim
import GoSem.ClaimJoined
import GoSem.ClaimMapViews
import Derived.JoinedTies
import Derived.KernelRfl
namespace Go.Proofs.Ytlgjokognnbhiaa
/- THE CELL 'sum', in the pinned program and in every row, IS THE sha256 OF THE DUMP (.gsa) THAT YtlgjokognnbhiaaProg.lean LOADS. Nothing in Lean hashes anything: it is a label: what it is worth is what the hold of that sum in a sandbox is worth. -/
noncomputable def Try.pinned : Pinned := { name := "ytlgjokognnbhiaa", sum := "fb378ca88b9b88e4e501d9d3477a5af81662c65acc19c5ad5d32851107be97d9", checked := Try.checked }
namespace Rows
def none {H : Type} : Left H := { results := [], args := [] }

/-- 'filigreelaw18.AigMakes': WHATEVER THE INPUT: true; the input reads as it did. -/
def aigMakesSpec : ChangeSpec := { name := "aigMakes", fn := fun _ => fun
  | [d1, d2, d3] => { results := [.lit (.bool true)], args := [d1, d2, d3] }
  | _ => none }
def aigMakesRow : OpenClaim := { program := "ytlgjokognnbhiaa", sum := "fb378ca88b9b88e4e501d9d3477a5af81662c65acc19c5ad5d32851107be97d9", func := "filigree/filigreelaw18.AigMakes", spec := "aigMakes", unfollowed := true, recurses := true, apart := false }
def AigMakesSaid : Prop := aigMakesRow.holds Try.pinned (OpenSpec.ofChange aigMakesSpec)

/-- ITS FALSE NEIGHBOUR: 'it returns false'. Refute it at one input. -/
def aigMakesWrong : ChangeSpec := { name := "aigMakes", fn := fun _ => fun
  | [d1, d2, d3] => { results := [.lit (.bool false)], args := [d1, d2, d3] }
  | _ => none }
def AigMakesWrongFalsely : Prop := aigMakesRow.holds Try.pinned (OpenSpec.ofChange aigMakesWrong)

/-- 'filigreelaw18.AigRuns': WHATEVER THE INPUT: true; the input reads as it did. -/
def aigRunsSpec : ChangeSpec := { name := "aigRuns", fn := fun _ => fun
  | [d1, d2, d3, d4] => { results := [.lit (.bool true)], args := [d1, d2, d3, d4] }
  | _ => none }
def aigRunsRow : OpenClaim := { program := "ytlgjokognnbhiaa", sum := "fb378ca88b9b88e4e501d9d3477a5af81662c65acc19c5ad5d32851107be97d9", func := "filigree/filigreelaw18.AigRuns", spec := "aigRuns", unfollowed := true, recurses := true, apart := false }
def AigRunsSaid : Prop := aigRunsRow.holds Try.pinned (OpenSpec.ofChange aigRunsSpec)

/-- ITS FALSE NEIGHBOUR: 'it returns false'. Refute it at one input. -/
def aigRunsWrong : ChangeSpec := { name := "aigRuns", fn := fun _ => fun
  | [d1, d2, d3, d4] => { results := [.lit (.bool false)], args := [d1, d2, d3, d4] }
  | _ => none }
def AigRunsWrongFalsely : Prop := aigRunsRow.holds Try.pinned (OpenSpec.ofChange aigRunsWrong)

/-- 'filigreelaw18.AigRows': WHATEVER THE INPUT: true; the input reads as it did. -/
def aigRowsSpec : ChangeSpec := { name := "aigRows", fn := fun _ => fun
  | [d1, d2, d3] => { results := [.lit (.bool true)], args := [d1, d2, d3] }
  | _ => none }
def aigRowsRow : OpenClaim := { program := "ytlgjokognnbhiaa", sum := "fb378ca88b9b88e4e501d9d3477a5af81662c65acc19c5ad5d32851107be97d9", func := "filigree/filigreelaw18.AigRows", spec := "aigRows", unfollowed := true, recurses := true, apart := false }
def AigRowsSaid : Prop := aigRowsRow.holds Try.pinned (OpenSpec.ofChange aigRowsSpec)

/-- ITS FALSE NEIGHBOUR: 'it returns false'. Refute it at one input. -/
def aigRowsWrong : ChangeSpec := { name := "aigRows", fn := fun _ => fun
  | [d1, d2, d3] => { results := [.lit (.bool false)], args := [d1, d2, d3] }
  | _ => none }
def AigRowsWrongFalsely : Prop := aigRowsRow.holds Try.pinned (OpenSpec.ofChange aigRowsWrong)

/-- 'filigreelaw18.AigLevels': WHATEVER THE INPUT: true; the input reads as it did. -/
def aigLevelsSpec : ChangeSpec := { name := "aigLevels", fn := fun _ => fun
  | [d1, d2, d3] => { results := [.lit (.bool true)], args := [d1, d2, d3] }
  | _ => none }
def aigLevelsRow : OpenClaim := { program := "ytlgjokognnbhiaa", sum := "fb378ca88b9b88e4e501d9d3477a5af81662c65acc19c5ad5d32851107be97d9", func := "filigree/filigreelaw18.AigLevels", spec := "aigLevels", unfollowed := true, recurses := true, apart := false }
def AigLevelsSaid : Prop := aigLevelsRow.holds Try.pinned (OpenSpec.ofChange aigLevelsSpec)

/-- ITS FALSE NEIGHBOUR: 'it returns false'. Refute it at one input. -/
def aigLevelsWrong : ChangeSpec := { name := "aigLevels", fn := fun _ => fun
  | [d1, d2, d3] => { results := [.lit (.bool false)], args := [d1, d2, d3] }
  | _ => none }
def AigLevelsWrongFalsely : Prop := aigLevelsRow.holds Try.pinned (OpenSpec.ofChange aigLevelsWrong)

/-- 'filigreelaw18.AigPlain': WHATEVER THE INPUT: true; the input reads as it did. -/
def aigPlainSpec : ChangeSpec := { name := "aigPlain", fn := fun _ => fun
  | [d1, d2] => { results := [.lit (.bool true)], args := [d1, d2] }
  | _ => none }
def aigPlainRow : OpenClaim := { program := "ytlgjokognnbhiaa", sum := "fb378ca88b9b88e4e501d9d3477a5af81662c65acc19c5ad5d32851107be97d9", func := "filigree/filigreelaw18.AigPlain", spec := "aigPlain", unfollowed := true, recurses := true, apart := false }
def AigPlainSaid : Prop := aigPlainRow.holds Try.pinned (OpenSpec.ofChange aigPlainSpec)

/-- ITS FALSE NEIGHBOUR: 'it returns false'. Refute it at one input. -/
def aigPlainWrong : ChangeSpec := { name := "aigPlain", fn := fun _ => fun
  | [d1, d2] => { results := [.lit (.bool false)], args := [d1, d2] }
  | _ => none }
def AigPlainWrongFalsely : Prop := aigPlainRow.holds Try.pinned (OpenSpec.ofChange aigPlainWrong)

/-- 'filigreelaw18.AigKeeps': WHATEVER THE INPUT: true; the input reads as it did. -/
def aigKeepsSpec : ChangeSpec := { name := "aigKeeps", fn := fun _ => fun
  | [d1, d2, d3, d4] => { results := [.lit (.bool true)], args := [d1, d2, d3, d4] }
  | _ => none }
def aigKeepsRow : OpenClaim := { program := "ytlgjokognnbhiaa", sum := "fb378ca88b9b88e4e501d9d3477a5af81662c65acc19c5ad5d32851107be97d9", func := "filigree/filigreelaw18.AigKeeps", spec := "aigKeeps", unfollowed := true, recurses := true, apart := false }
def AigKeepsSaid : Prop := aigKeepsRow.holds Try.pinned (OpenSpec.ofChange aigKeepsSpec)

/-- ITS FALSE NEIGHBOUR: 'it returns false'. Refute it at one input. -/
def aigKeepsWrong : ChangeSpec := { name := "aigKeeps", fn := fun _ => fun
  | [d1, d2, d3, d4] => { results := [.lit (.bool false)], args := [d1, d2, d3, d4] }
  | _ => none }
def AigKeepsWrongFalsely : Prop := aigKeepsRow.holds Try.pinned (OpenSpec.ofChange aigKeepsWrong)

/-- 'filigreelaw18.AigOnce': WHATEVER THE INPUT: true; the input reads as it did. -/
def aigOnceSpec : ChangeSpec := { name := "aigOnce", fn := fun _ => fun
  | [d1, d2, d3, d4] => { results := [.lit (.bool true)], args := [d1, d2, d3, d4] }
  | _ => none }
def aigOnceRow : OpenClaim := { program := "ytlgjokognnbhiaa", sum := "fb378ca88b9b88e4e501d9d3477a5af81662c65acc19c5ad5d32851107be97d9", func := "filigree/filigreelaw18.AigOnce", spec := "aigOnce", unfollowed := true, recurses := true, apart := false }
def AigOnceSaid : Prop := aigOnceRow.holds Try.pinned (OpenSpec.ofChange aigOnceSpec)

/-- ITS FALSE NEIGHBOUR: 'it returns false'. Refute it at one input. -/
def aigOnceWrong : ChangeSpec := { name := "aigOnce", fn := fun _ => fun
  | [d1, d2, d3, d4] => { results := [.lit (.bool false)], args := [d1, d2, d3, d4] }
  | _ => none }
def AigOnceWrongFalsely : Prop := aigOnceRow.holds Try.pinned (OpenSpec.ofChange aigOnceWrong)

/-- 'filigreelaw18.AigGates': WHATEVER THE INPUT: true; the input reads as it did. -/
def aigGatesSpec : ChangeSpec := { name := "aigGates", fn := fun _ => fun
  | [d1, d2, d3, d4] => { results := [.lit (.bool true)], args := [d1, d2, d3, d4] }
  | _ => none }
def aigGatesRow : OpenClaim := { program := "ytlgjokognnbhiaa", sum := "fb378ca88b9b88e4e501d9d3477a5af81662c65acc19c5ad5d32851107be97d9", func := "filigree/filigreelaw18.AigGates", spec := "aigGates", unfollowed := true, recurses := true, apart := false }
def AigGatesSaid : Prop := aigGatesRow.holds Try.pinned (OpenSpec.ofChange aigGatesSpec)

/-- ITS FALSE NEIGHBOUR: 'it returns false'. Refute it at one input. -/
def aigGatesWrong : ChangeSpec := { name := "aigGates", fn := fun _ => fun
  | [d1, d2, d3, d4] => { results := [.lit (.bool false)], args := [d1, d2, d3, d4] }
  | _ => none }
def AigGatesWrongFalsely : Prop := aigGatesRow.holds Try.pinned (OpenSpec.ofChange aigGatesWrong)

/-- 'filigreelaw18.AigMeans': WHATEVER THE INPUT: true; the input reads as it did. -/
def aigMeansSpec : ChangeSpec := { name := "aigMeans", fn := fun _ => fun
  | [d1, d2, d3, d4, d5, d6] => { results := [.lit (.bool true)], args := [d1, d2, d3, d4, d5, d6] }
  | _ => none }
def aigMeansRow : OpenClaim := { program := "ytlgjokognnbhiaa", sum := "fb378ca88b9b88e4e501d9d3477a5af81662c65acc19c5ad5d32851107be97d9", func := "filigree/filigreelaw18.AigMeans", spec := "aigMeans", unfollowed := true, recurses := true, apart := false }
def AigMeansSaid : Prop := aigMeansRow.holds Try.pinned (OpenSpec.ofChange aigMeansSpec)

/-- ITS FALSE NEIGHBOUR: 'it returns false'. Refute it at one input. -/
def aigMeansWrong : ChangeSpec := { name := "aigMeans", fn := fun _ => fun
  | [d1, d2, d3, d4, d5, d6] => { results := [.lit (.bool false)], args := [d1, d2, d3, d4, d5, d6] }
  | _ => none }
def AigMeansWrongFalsely : Prop := aigMeansRow.holds Try.pinned (OpenSpec.ofChange aigMeansWrong)

/-- 'filigreelaw18.AigTurn': WHATEVER THE INPUT: true; the input reads as it did. -/
def aigTurnSpec : ChangeSpec := { name := "aigTurn", fn := fun _ => fun
  | [d1, d2, d3, d4, d5, d6] => { results := [.lit (.bool true)], args := [d1, d2, d3, d4, d5, d6] }
  | _ => none }
def aigTurnRow : OpenClaim := { program := "ytlgjokognnbhiaa", sum := "fb378ca88b9b88e4e501d9d3477a5af81662c65acc19c5ad5d32851107be97d9", func := "filigree/filigreelaw18.AigTurn", spec := "aigTurn", unfollowed := true, recurses := true, apart := false }
def AigTurnSaid : Prop := aigTurnRow.holds Try.pinned (OpenSpec.ofChange aigTurnSpec)

/-- ITS FALSE NEIGHBOUR: 'it returns false'. Refute it at one input. -/
def aigTurnWrong : ChangeSpec := { name := "aigTurn", fn := fun _ => fun
  | [d1, d2, d3, d4, d5, d6] => { results := [.lit (.bool false)], args := [d1, d2, d3, d4, d5, d6] }
  | _ => none }
def AigTurnWrongFalsely : Prop := aigTurnRow.holds Try.pinned (OpenSpec.ofChange aigTurnWrong)

/- THE SECOND FORM. 'bulk': how many values and letters a reading holds, each counted each time it is reached (what is shared counts as often as it is met; a slice's spare places count too). A statement '..UptoSaid' is the law's where the arguments, and the package variables that the reading takes, are together of bulk at most 1048576: NARROWER than '..Said'. Prove '..Said' where nothing that the law and all that it calls make is longer than what came in: it says more and counts as full. Else prove '..UptoSaid'. A law counts once. -/
mutual
def uptoBulk {H : Type} : DataW H → Nat
  | .lit (.string bytes) => bytes.length + 1
  | .lit _ => 1
  | .nil => 1
  | .ptr d => uptoBulk d + 1
  | .slice elems spare => uptoBulkAll elems + uptoBulkAll spare + 1
  | .agg parts => uptoBulkAll parts + 1
  | .iface _ d => uptoBulk d + 1
  | .map entries => uptoBulkEntries entries + 1
  | .held _ => 1
def uptoBulkAll {H : Type} : List (DataW H) → Nat
  | [] => 0
  | d :: r => uptoBulk d + uptoBulkAll r
def uptoBulkEntries {H : Type} : List (Lit × DataW H) → Nat
  | [] => 0
  | x :: r => uptoBulkEntry x + uptoBulkEntries r
def uptoBulkEntry {H : Type} : Lit × DataW H → Nat
  | (.string bytes, d) => bytes.length + uptoBulk d + 1
  | (_, d) => uptoBulk d + 1
 end
def uptoSmall : (H : Type) → List (DataW H) → Bool := fun _ ds => decide (uptoBulkAll ds ≤ 1048576)
def OpenSpec.upto (s : _root_.Go.ChangeSpec) : _root_.Go.OpenSpec := { _root_.Go.OpenSpec.ofChange s with cond := some uptoSmall }

/-- 'filigreelaw18.AigMakes', WHERE WHAT IT READS IS OF BULK AT MOST 1048576: true; the input reads as it did. -/
def aigMakesUptoRow : OpenClaim := { program := "ytlgjokognnbhiaa", sum := "fb378ca88b9b88e4e501d9d3477a5af81662c65acc19c5ad5d32851107be97d9", func := "filigree/filigreelaw18.AigMakes", spec := "aigMakes", unfollowed := true, recurses := true, apart := false, narrowed := true }
def AigMakesUptoSaid : Prop := aigMakesUptoRow.holds Try.pinned (OpenSpec.upto aigMakesSpec)

/-- 'filigreelaw18.AigRuns', WHERE WHAT IT READS IS OF BULK AT MOST 1048576: true; the input reads as it did. -/
def aigRunsUptoRow : OpenClaim := { program := "ytlgjokognnbhiaa", sum := "fb378ca88b9b88e4e501d9d3477a5af81662c65acc19c5ad5d32851107be97d9", func := "filigree/filigreelaw18.AigRuns", spec := "aigRuns", unfollowed := true, recurses := true, apart := false, narrowed := true }
def AigRunsUptoSaid : Prop := aigRunsUptoRow.holds Try.pinned (OpenSpec.upto aigRunsSpec)

/-- 'filigreelaw18.AigRows', WHERE WHAT IT READS IS OF BULK AT MOST 1048576: true; the input reads as it did. -/
def aigRowsUptoRow : OpenClaim := { program := "ytlgjokognnbhiaa", sum := "fb378ca88b9b88e4e501d9d3477a5af81662c65acc19c5ad5d32851107be97d9", func := "filigree/filigreelaw18.AigRows", spec := "aigRows", unfollowed := true, recurses := true, apart := false, narrowed := true }
def AigRowsUptoSaid : Prop := aigRowsUptoRow.holds Try.pinned (OpenSpec.upto aigRowsSpec)

/-- 'filigreelaw18.AigLevels', WHERE WHAT IT READS IS OF BULK AT MOST 1048576: true; the input reads as it did. -/
def aigLevelsUptoRow : OpenClaim := { program := "ytlgjokognnbhiaa", sum := "fb378ca88b9b88e4e501d9d3477a5af81662c65acc19c5ad5d32851107be97d9", func := "filigree/filigreelaw18.AigLevels", spec := "aigLevels", unfollowed := true, recurses := true, apart := false, narrowed := true }
def AigLevelsUptoSaid : Prop := aigLevelsUptoRow.holds Try.pinned (OpenSpec.upto aigLevelsSpec)

/-- 'filigreelaw18.AigPlain', WHERE WHAT IT READS IS OF BULK AT MOST 1048576: true; the input reads as it did. -/
def aigPlainUptoRow : OpenClaim := { program := "ytlgjokognnbhiaa", sum := "fb378ca88b9b88e4e501d9d3477a5af81662c65acc19c5ad5d32851107be97d9", func := "filigree/filigreelaw18.AigPlain", spec := "aigPlain", unfollowed := true, recurses := true, apart := false, narrowed := true }
def AigPlainUptoSaid : Prop := aigPlainUptoRow.holds Try.pinned (OpenSpec.upto aigPlainSpec)

/-- 'filigreelaw18.AigKeeps', WHERE WHAT IT READS IS OF BULK AT MOST 1048576: true; the input reads as it did. -/
def aigKeepsUptoRow : OpenClaim := { program := "ytlgjokognnbhiaa", sum := "fb378ca88b9b88e4e501d9d3477a5af81662c65acc19c5ad5d32851107be97d9", func := "filigree/filigreelaw18.AigKeeps", spec := "aigKeeps", unfollowed := true, recurses := true, apart := false, narrowed := true }
def AigKeepsUptoSaid : Prop := aigKeepsUptoRow.holds Try.pinned (OpenSpec.upto aigKeepsSpec)

/-- 'filigreelaw18.AigOnce', WHERE WHAT IT READS IS OF BULK AT MOST 1048576: true; the input reads as it did. -/
def aigOnceUptoRow : OpenClaim := { program := "ytlgjokognnbhiaa", sum := "fb378ca88b9b88e4e501d9d3477a5af81662c65acc19c5ad5d32851107be97d9", func := "filigree/filigreelaw18.AigOnce", spec := "aigOnce", unfollowed := true, recurses := true, apart := false, narrowed := true }
def AigOnceUptoSaid : Prop := aigOnceUptoRow.holds Try.pinned (OpenSpec.upto aigOnceSpec)

/-- 'filigreelaw18.AigGates', WHERE WHAT IT READS IS OF BULK AT MOST 1048576: true; the input reads as it did. -/
def aigGatesUptoRow : OpenClaim := { program := "ytlgjokognnbhiaa", sum := "fb378ca88b9b88e4e501d9d3477a5af81662c65acc19c5ad5d32851107be97d9", func := "filigree/filigreelaw18.AigGates", spec := "aigGates", unfollowed := true, recurses := true, apart := false, narrowed := true }
def AigGatesUptoSaid : Prop := aigGatesUptoRow.holds Try.pinned (OpenSpec.upto aigGatesSpec)

/-- 'filigreelaw18.AigMeans', WHERE WHAT IT READS IS OF BULK AT MOST 1048576: true; the input reads as it did. -/
def aigMeansUptoRow : OpenClaim := { program := "ytlgjokognnbhiaa", sum := "fb378ca88b9b88e4e501d9d3477a5af81662c65acc19c5ad5d32851107be97d9", func := "filigree/filigreelaw18.AigMeans", spec := "aigMeans", unfollowed := true, recurses := true, apart := false, narrowed := true }
def AigMeansUptoSaid : Prop := aigMeansUptoRow.holds Try.pinned (OpenSpec.upto aigMeansSpec)

/-- 'filigreelaw18.AigTurn', WHERE WHAT IT READS IS OF BULK AT MOST 1048576: true; the input reads as it did. -/
def aigTurnUptoRow : OpenClaim := { program := "ytlgjokognnbhiaa", sum := "fb378ca88b9b88e4e501d9d3477a5af81662c65acc19c5ad5d32851107be97d9", func := "filigree/filigreelaw18.AigTurn", spec := "aigTurn", unfollowed := true, recurses := true, apart := false, narrowed := true }
def AigTurnUptoSaid : Prop := aigTurnUptoRow.holds Try.pinned (OpenSpec.upto aigTurnSpec)

end Rows
end Go.Proofs.Ytlgjokognnbhiaa
