/-
  No cell of these rows narrows 'for every input' (looked for: loops, veiled, ifaces, maps, wideKeys, modest, calm, conditions, laid).
  DERIVED. THE GIVEN ROWS OF THIS SEAT. 11 by the template 'for every input the law returns true; each argument reads behind the call as it read before'; 0 by the template 'total and deterministic' (their statements: YteabanjbgpplmaaTotals.lean).
  GIVEN WITH THE SEED: the statements are not yours to turn. If you find one false, say at which input.
  Laid BY PROGRAM, IN A SANDBOX (cutbox-rows.mjs): the forced cells as the released guide's own fill.sh prints them over the translation b2a1042b667a6d6d… (all of the seat's roots in one cut). By AI agents, Wed Nov 11 2026. No macro, syntax, notation, axiom, sorry.
-/
import Derived.Test.YteabanjbgpplmaaChecked
import GoSem.Claim
import GoSem.ClaimJoined
import GoSem.ClaimMapViews
import Derived.JoinedTies
import Derived.KernelRfl
namespace Go.Proofs.Yteabanjbgpplmaa
/- THE CELL 'sum', in the pinned program and in every row, IS THE sha256 OF THE DUMP (.gsa) THAT YteabanjbgpplmaaProg.lean LOADS. Nothing in Lean hashes anything: it is a label: what it is worth is what the hold of that sum in a sandbox is worth. -/
noncomputable def Try.pinned : Pinned := { name := "yteabanjbgpplmaa", sum := "b2a1042b667a6d6d7a542b9ba31b2c010b980005401123fd6462350417bb5b02", checked := Try.checked }
namespace Rows
def none {H : Type} : Left H := { results := [], args := [] }

/-- 'filigreelaw22.BddTells': WHATEVER THE INPUT: true; the input reads as it did. -/
def bddTellsSpec : ChangeSpec := { name := "bddTells", fn := fun _ => fun
  | [d1, d2] => { results := [.lit (.bool true)], args := [d1, d2] }
  | _ => none }
def bddTellsRow : OpenClaim := { program := "yteabanjbgpplmaa", sum := "b2a1042b667a6d6d7a542b9ba31b2c010b980005401123fd6462350417bb5b02", func := "filigree/filigreelaw22.BddTells", spec := "bddTells", unfollowed := true, recurses := true, plainKeys := false, apart := false }
def BddTellsSaid : Prop := bddTellsRow.holds Try.pinned (OpenSpec.ofChange bddTellsSpec)

/-- ITS FALSE NEIGHBOUR: 'it returns false'. Refute it at one input. -/
def bddTellsWrong : ChangeSpec := { name := "bddTells", fn := fun _ => fun
  | [d1, d2] => { results := [.lit (.bool false)], args := [d1, d2] }
  | _ => none }
def BddTellsWrongFalsely : Prop := bddTellsRow.holds Try.pinned (OpenSpec.ofChange bddTellsWrong)

/-- 'filigreelaw22.BddMakes': WHATEVER THE INPUT: true; the input reads as it did. -/
def bddMakesSpec : ChangeSpec := { name := "bddMakes", fn := fun _ => fun
  | [d1, d2, d3, d4] => { results := [.lit (.bool true)], args := [d1, d2, d3, d4] }
  | _ => none }
def bddMakesRow : OpenClaim := { program := "yteabanjbgpplmaa", sum := "b2a1042b667a6d6d7a542b9ba31b2c010b980005401123fd6462350417bb5b02", func := "filigree/filigreelaw22.BddMakes", spec := "bddMakes", unfollowed := true, recurses := true, plainKeys := false, apart := false }
def BddMakesSaid : Prop := bddMakesRow.holds Try.pinned (OpenSpec.ofChange bddMakesSpec)

/-- ITS FALSE NEIGHBOUR: 'it returns false'. Refute it at one input. -/
def bddMakesWrong : ChangeSpec := { name := "bddMakes", fn := fun _ => fun
  | [d1, d2, d3, d4] => { results := [.lit (.bool false)], args := [d1, d2, d3, d4] }
  | _ => none }
def BddMakesWrongFalsely : Prop := bddMakesRow.holds Try.pinned (OpenSpec.ofChange bddMakesWrong)

/-- 'filigreelaw22.BddSomes': WHATEVER THE INPUT: true; the input reads as it did. -/
def bddSomesSpec : ChangeSpec := { name := "bddSomes", fn := fun _ => fun
  | [d1, d2, d3] => { results := [.lit (.bool true)], args := [d1, d2, d3] }
  | _ => none }
def bddSomesRow : OpenClaim := { program := "yteabanjbgpplmaa", sum := "b2a1042b667a6d6d7a542b9ba31b2c010b980005401123fd6462350417bb5b02", func := "filigree/filigreelaw22.BddSomes", spec := "bddSomes", unfollowed := true, recurses := true, plainKeys := false, apart := false }
def BddSomesSaid : Prop := bddSomesRow.holds Try.pinned (OpenSpec.ofChange bddSomesSpec)

/-- ITS FALSE NEIGHBOUR: 'it returns false'. Refute it at one input. -/
def bddSomesWrong : ChangeSpec := { name := "bddSomes", fn := fun _ => fun
  | [d1, d2, d3] => { results := [.lit (.bool false)], args := [d1, d2, d3] }
  | _ => none }
def BddSomesWrongFalsely : Prop := bddSomesRow.holds Try.pinned (OpenSpec.ofChange bddSomesWrong)

/-- 'filigreelaw22.BddLooks': WHATEVER THE INPUT: true; the input reads as it did. -/
def bddLooksSpec : ChangeSpec := { name := "bddLooks", fn := fun _ => fun
  | [d1, d2, d3] => { results := [.lit (.bool true)], args := [d1, d2, d3] }
  | _ => none }
def bddLooksRow : OpenClaim := { program := "yteabanjbgpplmaa", sum := "b2a1042b667a6d6d7a542b9ba31b2c010b980005401123fd6462350417bb5b02", func := "filigree/filigreelaw22.BddLooks", spec := "bddLooks", unfollowed := true, recurses := true, plainKeys := false, apart := false }
def BddLooksSaid : Prop := bddLooksRow.holds Try.pinned (OpenSpec.ofChange bddLooksSpec)

/-- ITS FALSE NEIGHBOUR: 'it returns false'. Refute it at one input. -/
def bddLooksWrong : ChangeSpec := { name := "bddLooks", fn := fun _ => fun
  | [d1, d2, d3] => { results := [.lit (.bool false)], args := [d1, d2, d3] }
  | _ => none }
def BddLooksWrongFalsely : Prop := bddLooksRow.holds Try.pinned (OpenSpec.ofChange bddLooksWrong)

/-- 'filigreelaw22.BddMeans': WHATEVER THE INPUT: true; the input reads as it did. -/
def bddMeansSpec : ChangeSpec := { name := "bddMeans", fn := fun _ => fun
  | [d1, d2, d3, d4, d5] => { results := [.lit (.bool true)], args := [d1, d2, d3, d4, d5] }
  | _ => none }
def bddMeansRow : OpenClaim := { program := "yteabanjbgpplmaa", sum := "b2a1042b667a6d6d7a542b9ba31b2c010b980005401123fd6462350417bb5b02", func := "filigree/filigreelaw22.BddMeans", spec := "bddMeans", unfollowed := true, recurses := true, plainKeys := false, apart := false }
def BddMeansSaid : Prop := bddMeansRow.holds Try.pinned (OpenSpec.ofChange bddMeansSpec)

/-- ITS FALSE NEIGHBOUR: 'it returns false'. Refute it at one input. -/
def bddMeansWrong : ChangeSpec := { name := "bddMeans", fn := fun _ => fun
  | [d1, d2, d3, d4, d5] => { results := [.lit (.bool false)], args := [d1, d2, d3, d4, d5] }
  | _ => none }
def BddMeansWrongFalsely : Prop := bddMeansRow.holds Try.pinned (OpenSpec.ofChange bddMeansWrong)

/-- 'filigreelaw22.BddSame': WHATEVER THE INPUT: true; the input reads as it did. -/
def bddSameSpec : ChangeSpec := { name := "bddSame", fn := fun _ => fun
  | [d1, d2, d3] => { results := [.lit (.bool true)], args := [d1, d2, d3] }
  | _ => none }
def bddSameRow : OpenClaim := { program := "yteabanjbgpplmaa", sum := "b2a1042b667a6d6d7a542b9ba31b2c010b980005401123fd6462350417bb5b02", func := "filigree/filigreelaw22.BddSame", spec := "bddSame", unfollowed := true, recurses := true, plainKeys := false, apart := false }
def BddSameSaid : Prop := bddSameRow.holds Try.pinned (OpenSpec.ofChange bddSameSpec)

/-- ITS FALSE NEIGHBOUR: 'it returns false'. Refute it at one input. -/
def bddSameWrong : ChangeSpec := { name := "bddSame", fn := fun _ => fun
  | [d1, d2, d3] => { results := [.lit (.bool false)], args := [d1, d2, d3] }
  | _ => none }
def BddSameWrongFalsely : Prop := bddSameRow.holds Try.pinned (OpenSpec.ofChange bddSameWrong)

/-- 'filigreelaw22.BddKeeps': WHATEVER THE INPUT: true; the input reads as it did. -/
def bddKeepsSpec : ChangeSpec := { name := "bddKeeps", fn := fun _ => fun
  | [d1, d2, d3, d4] => { results := [.lit (.bool true)], args := [d1, d2, d3, d4] }
  | _ => none }
def bddKeepsRow : OpenClaim := { program := "yteabanjbgpplmaa", sum := "b2a1042b667a6d6d7a542b9ba31b2c010b980005401123fd6462350417bb5b02", func := "filigree/filigreelaw22.BddKeeps", spec := "bddKeeps", unfollowed := true, recurses := true, plainKeys := false, apart := false }
def BddKeepsSaid : Prop := bddKeepsRow.holds Try.pinned (OpenSpec.ofChange bddKeepsSpec)

/-- ITS FALSE NEIGHBOUR: 'it returns false'. Refute it at one input. -/
def bddKeepsWrong : ChangeSpec := { name := "bddKeeps", fn := fun _ => fun
  | [d1, d2, d3, d4] => { results := [.lit (.bool false)], args := [d1, d2, d3, d4] }
  | _ => none }
def BddKeepsWrongFalsely : Prop := bddKeepsRow.holds Try.pinned (OpenSpec.ofChange bddKeepsWrong)

/-- 'filigreelaw22.BddCounts': WHATEVER THE INPUT: true; the input reads as it did. -/
def bddCountsSpec : ChangeSpec := { name := "bddCounts", fn := fun _ => fun
  | [d1, d2] => { results := [.lit (.bool true)], args := [d1, d2] }
  | _ => none }
def bddCountsRow : OpenClaim := { program := "yteabanjbgpplmaa", sum := "b2a1042b667a6d6d7a542b9ba31b2c010b980005401123fd6462350417bb5b02", func := "filigree/filigreelaw22.BddCounts", spec := "bddCounts", unfollowed := true, recurses := true, plainKeys := false, apart := false }
def BddCountsSaid : Prop := bddCountsRow.holds Try.pinned (OpenSpec.ofChange bddCountsSpec)

/-- ITS FALSE NEIGHBOUR: 'it returns false'. Refute it at one input. -/
def bddCountsWrong : ChangeSpec := { name := "bddCounts", fn := fun _ => fun
  | [d1, d2] => { results := [.lit (.bool false)], args := [d1, d2] }
  | _ => none }
def BddCountsWrongFalsely : Prop := bddCountsRow.holds Try.pinned (OpenSpec.ofChange bddCountsWrong)

/-- 'filigreelaw22.BddFirst': WHATEVER THE INPUT: true; the input reads as it did. -/
def bddFirstSpec : ChangeSpec := { name := "bddFirst", fn := fun _ => fun
  | [d1, d2, d3] => { results := [.lit (.bool true)], args := [d1, d2, d3] }
  | _ => none }
def bddFirstRow : OpenClaim := { program := "yteabanjbgpplmaa", sum := "b2a1042b667a6d6d7a542b9ba31b2c010b980005401123fd6462350417bb5b02", func := "filigree/filigreelaw22.BddFirst", spec := "bddFirst", unfollowed := true, recurses := true, plainKeys := false, apart := false }
def BddFirstSaid : Prop := bddFirstRow.holds Try.pinned (OpenSpec.ofChange bddFirstSpec)

/-- ITS FALSE NEIGHBOUR: 'it returns false'. Refute it at one input. -/
def bddFirstWrong : ChangeSpec := { name := "bddFirst", fn := fun _ => fun
  | [d1, d2, d3] => { results := [.lit (.bool false)], args := [d1, d2, d3] }
  | _ => none }
def BddFirstWrongFalsely : Prop := bddFirstRow.holds Try.pinned (OpenSpec.ofChange bddFirstWrong)

/-- 'filigreelaw22.BddHides': WHATEVER THE INPUT: true; the input reads as it did. -/
def bddHidesSpec : ChangeSpec := { name := "bddHides", fn := fun _ => fun
  | [d1, d2, d3, d4] => { results := [.lit (.bool true)], args := [d1, d2, d3, d4] }
  | _ => none }
def bddHidesRow : OpenClaim := { program := "yteabanjbgpplmaa", sum := "b2a1042b667a6d6d7a542b9ba31b2c010b980005401123fd6462350417bb5b02", func := "filigree/filigreelaw22.BddHides", spec := "bddHides", unfollowed := true, recurses := true, plainKeys := false, apart := false }
def BddHidesSaid : Prop := bddHidesRow.holds Try.pinned (OpenSpec.ofChange bddHidesSpec)

/-- ITS FALSE NEIGHBOUR: 'it returns false'. Refute it at one input. -/
def bddHidesWrong : ChangeSpec := { name := "bddHides", fn := fun _ => fun
  | [d1, d2, d3, d4] => { results := [.lit (.bool false)], args := [d1, d2, d3, d4] }
  | _ => none }
def BddHidesWrongFalsely : Prop := bddHidesRow.holds Try.pinned (OpenSpec.ofChange bddHidesWrong)

/-- 'filigreelaw22.BddParts': WHATEVER THE INPUT: true; the input reads as it did. -/
def bddPartsSpec : ChangeSpec := { name := "bddParts", fn := fun _ => fun
  | [d1, d2, d3] => { results := [.lit (.bool true)], args := [d1, d2, d3] }
  | _ => none }
def bddPartsRow : OpenClaim := { program := "yteabanjbgpplmaa", sum := "b2a1042b667a6d6d7a542b9ba31b2c010b980005401123fd6462350417bb5b02", func := "filigree/filigreelaw22.BddParts", spec := "bddParts", unfollowed := true, recurses := true, plainKeys := false, apart := false }
def BddPartsSaid : Prop := bddPartsRow.holds Try.pinned (OpenSpec.ofChange bddPartsSpec)

/-- ITS FALSE NEIGHBOUR: 'it returns false'. Refute it at one input. -/
def bddPartsWrong : ChangeSpec := { name := "bddParts", fn := fun _ => fun
  | [d1, d2, d3] => { results := [.lit (.bool false)], args := [d1, d2, d3] }
  | _ => none }
def BddPartsWrongFalsely : Prop := bddPartsRow.holds Try.pinned (OpenSpec.ofChange bddPartsWrong)

/- THE SECOND FORM. 'bulk': how many values and letters a reading holds, each counted each time it is reached (what is shared counts as often as it is met; a slice's spare places count too). A statement '..UptoSaid' is the law's where the arguments, and the package variables that the reading takes, are together of bulk at most 1048576: NARROWER than '..Said'. Prove '..Said' where nothing that the law and all that it calls make is longer than what came in: it says more and counts as full. Else prove '..UptoSaid'. A law counts once. -/
mutual
def uptoBulk {H : Type} : DataW H → Nat
  | .lit (.string bytes) => bytes.length + 1
  | .lit _ => 1
  | .nil => 1
  | .ptr d => uptoBulk d + 1
  | .slice elems spare => uptoBulkAll elems + uptoBulkAll spare + 1
  | .agg parts => uptoBulkAll parts + 1
  | .iface _ d => uptoBulk d + 1
  | .map entries => uptoBulkEntries entries + 1
  | .held _ => 1
def uptoBulkAll {H : Type} : List (DataW H) → Nat
  | [] => 0
  | d :: r => uptoBulk d + uptoBulkAll r
def uptoBulkEntries {H : Type} : List (Lit × DataW H) → Nat
  | [] => 0
  | x :: r => uptoBulkEntry x + uptoBulkEntries r
def uptoBulkEntry {H : Type} : Lit × DataW H → Nat
  | (.string bytes, d) => bytes.length + uptoBulk d + 1
  | (_, d) => uptoBulk d + 1
 end
def uptoSmall : (H : Type) → List (DataW H) → Bool := fun _ ds => decide (uptoBulkAll ds ≤ 1048576)
def OpenSpec.upto (s : _root_.Go.ChangeSpec) : _root_.Go.OpenSpec := { _root_.Go.OpenSpec.ofChange s with cond := some uptoSmall }

/-- 'filigreelaw22.BddTells', WHERE WHAT IT READS IS OF BULK AT MOST 1048576: true; the input reads as it did. -/
def bddTellsUptoRow : OpenClaim := { program := "yteabanjbgpplmaa", sum := "b2a1042b667a6d6d7a542b9ba31b2c010b980005401123fd6462350417bb5b02", func := "filigree/filigreelaw22.BddTells", spec := "bddTells", unfollowed := true, recurses := true, plainKeys := false, apart := false, narrowed := true }
def BddTellsUptoSaid : Prop := bddTellsUptoRow.holds Try.pinned (OpenSpec.upto bddTellsSpec)

/-- 'filigreelaw22.BddMakes', WHERE WHAT IT READS IS OF BULK AT MOST 1048576: true; the input reads as it did. -/
def bddMakesUptoRow : OpenClaim := { program := "yteabanjbgpplmaa", sum := "b2a1042b667a6d6d7a542b9ba31b2c010b980005401123fd6462350417bb5b02", func := "filigree/filigreelaw22.BddMakes", spec := "bddMakes", unfollowed := true, recurses := true, plainKeys := false, apart := false, narrowed := true }
def BddMakesUptoSaid : Prop := bddMakesUptoRow.holds Try.pinned (OpenSpec.upto bddMakesSpec)

/-- 'filigreelaw22.BddSomes', WHERE WHAT IT READS IS OF BULK AT MOST 1048576: true; the input reads as it did. -/
def bddSomesUptoRow : OpenClaim := { program := "yteabanjbgpplmaa", sum := "b2a1042b667a6d6d7a542b9ba31b2c010b980005401123fd6462350417bb5b02", func := "filigree/filigreelaw22.BddSomes", spec := "bddSomes", unfollowed := true, recurses := true, plainKeys := false, apart := false, narrowed := true }
def BddSomesUptoSaid : Prop := bddSomesUptoRow.holds Try.pinned (OpenSpec.upto bddSomesSpec)

/-- 'filigreelaw22.BddLooks', WHERE WHAT IT READS IS OF BULK AT MOST 1048576: true; the input reads as it did. -/
def bddLooksUptoRow : OpenClaim := { program := "yteabanjbgpplmaa", sum := "b2a1042b667a6d6d7a542b9ba31b2c010b980005401123fd6462350417bb5b02", func := "filigree/filigreelaw22.BddLooks", spec := "bddLooks", unfollowed := true, recurses := true, plainKeys := false, apart := false, narrowed := true }
def BddLooksUptoSaid : Prop := bddLooksUptoRow.holds Try.pinned (OpenSpec.upto bddLooksSpec)

/-- 'filigreelaw22.BddMeans', WHERE WHAT IT READS IS OF BULK AT MOST 1048576: true; the input reads as it did. -/
def bddMeansUptoRow : OpenClaim := { program := "yteabanjbgpplmaa", sum := "b2a1042b667a6d6d7a542b9ba31b2c010b980005401123fd6462350417bb5b02", func := "filigree/filigreelaw22.BddMeans", spec := "bddMeans", unfollowed := true, recurses := true, plainKeys := false, apart := false, narrowed := true }
def BddMeansUptoSaid : Prop := bddMeansUptoRow.holds Try.pinned (OpenSpec.upto bddMeansSpec)

/-- 'filigreelaw22.BddSame', WHERE WHAT IT READS IS OF BULK AT MOST 1048576: true; the input reads as it did. -/
def bddSameUptoRow : OpenClaim := { program := "yteabanjbgpplmaa", sum := "b2a1042b667a6d6d7a542b9ba31b2c010b980005401123fd6462350417bb5b02", func := "filigree/filigreelaw22.BddSame", spec := "bddSame", unfollowed := true, recurses := true, plainKeys := false, apart := false, narrowed := true }
def BddSameUptoSaid : Prop := bddSameUptoRow.holds Try.pinned (OpenSpec.upto bddSameSpec)

/-- 'filigreelaw22.BddKeeps', WHERE WHAT IT READS IS OF BULK AT MOST 1048576: true; the input reads as it did. -/
def bddKeepsUptoRow : OpenClaim := { program := "yteabanjbgpplmaa", sum := "b2a1042b667a6d6d7a542b9ba31b2c010b980005401123fd6462350417bb5b02", func := "filigree/filigreelaw22.BddKeeps", spec := "bddKeeps", unfollowed := true, recurses := true, plainKeys := false, apart := false, narrowed := true }
def BddKeepsUptoSaid : Prop := bddKeepsUptoRow.holds Try.pinned (OpenSpec.upto bddKeepsSpec)

/-- 'filigreelaw22.BddCounts', WHERE WHAT IT READS IS OF BULK AT MOST 1048576: true; the input reads as it did. -/
def bddCountsUptoRow : OpenClaim := { program := "yteabanjbgpplmaa", sum := "b2a1042b667a6d6d7a542b9ba31b2c010b980005401123fd6462350417bb5b02", func := "filigree/filigreelaw22.BddCounts", spec := "bddCounts", unfollowed := true, recurses := true, plainKeys := false, apart := false, narrowed := true }
def BddCountsUptoSaid : Prop := bddCountsUptoRow.holds Try.pinned (OpenSpec.upto bddCountsSpec)

/-- 'filigreelaw22.BddFirst', WHERE WHAT IT READS IS OF BULK AT MOST 1048576: true; the input reads as it did. -/
def bddFirstUptoRow : OpenClaim := { program := "yteabanjbgpplmaa", sum := "b2a1042b667a6d6d7a542b9ba31b2c010b980005401123fd6462350417bb5b02", func := "filigree/filigreelaw22.BddFirst", spec := "bddFirst", unfollowed := true, recurses := true, plainKeys := false, apart := false, narrowed := true }
def BddFirstUptoSaid : Prop := bddFirstUptoRow.holds Try.pinned (OpenSpec.upto bddFirstSpec)

/-- 'filigreelaw22.BddHides', WHERE WHAT IT READS IS OF BULK AT MOST 1048576: true; the input reads as it did. -/
def bddHidesUptoRow : OpenClaim := { program := "yteabanjbgpplmaa", sum := "b2a1042b667a6d6d7a542b9ba31b2c010b980005401123fd6462350417bb5b02", func := "filigree/filigreelaw22.BddHides", spec := "bddHides", unfollowed := true, recurses := true, plainKeys := false, apart := false, narrowed := true }
def BddHidesUptoSaid : Prop := bddHidesUptoRow.holds Try.pinned (OpenSpec.upto bddHidesSpec)

/-- 'filigreelaw22.BddParts', WHERE WHAT IT READS IS OF BULK AT MOST 1048576: true; the input reads as it did. -/
def bddPartsUptoRow : OpenClaim := { program := "yteabanjbgpplmaa", sum := "b2a1042b667a6d6d7a542b9ba31b2c010b980005401123fd6462350417bb5b02", func := "filigree/filigreelaw22.BddParts", spec := "bddParts", unfollowed := true, recurses := true, plainKeys := false, apart := false, narrowed := true }
def BddPartsUptoSaid : Prop := bddPartsUptoRow.holds Try.pinned (OpenSpec.upto bddPartsSpec)

end Rows
end Go.Proofs.Yteabanjbgpplmaa
