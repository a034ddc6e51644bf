/-
  No cell of these rows narrows 'for every input' (looked for: loops, veiled, ifaces, maps, wideKeys, modest, calm, conditions, laid).
  DERIVED. THE GIVEN ROWS OF THIS SEAT. 10 by the template 'for every input the law returns true; each argument reads behind the call as it read before'; 0 by the template 'total and deterministic' (their statements: YtapnlmhfacoceaaTotals.lean).
  GIVEN WITH THE SEED: the statements are not yours to turn. If you find one false, say at which input.
  Laid BY PROGRAM, IN A SANDBOX (cutbox-rows.mjs): the forced cells as the released guide's own fill.sh prints them over the translation a453cc51705a9d14… (all of the seat's roots in one cut). By AI agents, Wed Nov 11 2026. No macro, syntax, notation, axiom, sorry.
-/
import Derived.Test.YtapnlmhfacoceaaChecked
import GoSem.Claim
import GoSem.ClaimJoined
import GoSem.ClaimMapViews
import Derived.JoinedTies
import Derived.KernelRfl
namespace Go.Proofs.Ytapnlmhfacoceaa
/- THE CELL 'sum', in the pinned program and in every row, IS THE sha256 OF THE DUMP (.gsa) THAT YtapnlmhfacoceaaProg.lean LOADS. Nothing in Lean hashes anything: it is a label: what it is worth is what the hold of that sum in a sandbox is worth. -/
noncomputable def Try.pinned : Pinned := { name := "ytapnlmhfacoceaa", sum := "a453cc51705a9d14cf23ccfeca5f692f5d235426895748a73384b47b6a026dba", checked := Try.checked }
namespace Rows
def none {H : Type} : Left H := { results := [], args := [] }

/-- 'filigreelaw21.RewrMade': WHATEVER THE INPUT: true; the input reads as it did. -/
def rewrMadeSpec : ChangeSpec := { name := "rewrMade", fn := fun _ => fun
  | [d] => { results := [.lit (.bool true)], args := [d] }
  | _ => none }
def rewrMadeRow : OpenClaim := { program := "ytapnlmhfacoceaa", sum := "a453cc51705a9d14cf23ccfeca5f692f5d235426895748a73384b47b6a026dba", func := "filigree/filigreelaw21.RewrMade", spec := "rewrMade", unfollowed := true, recurses := true, apart := false }
def RewrMadeSaid : Prop := rewrMadeRow.holds Try.pinned (OpenSpec.ofChange rewrMadeSpec)

/-- ITS FALSE NEIGHBOUR: 'it returns false'. Refute it at one input. -/
def rewrMadeWrong : ChangeSpec := { name := "rewrMade", fn := fun _ => fun
  | [d] => { results := [.lit (.bool false)], args := [d] }
  | _ => none }
def RewrMadeWrongFalsely : Prop := rewrMadeRow.holds Try.pinned (OpenSpec.ofChange rewrMadeWrong)

/-- 'filigreelaw21.RewrFlat': WHATEVER THE INPUT: true; the input reads as it did. -/
def rewrFlatSpec : ChangeSpec := { name := "rewrFlat", fn := fun _ => fun
  | [d] => { results := [.lit (.bool true)], args := [d] }
  | _ => none }
def rewrFlatRow : OpenClaim := { program := "ytapnlmhfacoceaa", sum := "a453cc51705a9d14cf23ccfeca5f692f5d235426895748a73384b47b6a026dba", func := "filigree/filigreelaw21.RewrFlat", spec := "rewrFlat", unfollowed := true, recurses := true, apart := false }
def RewrFlatSaid : Prop := rewrFlatRow.holds Try.pinned (OpenSpec.ofChange rewrFlatSpec)

/-- ITS FALSE NEIGHBOUR: 'it returns false'. Refute it at one input. -/
def rewrFlatWrong : ChangeSpec := { name := "rewrFlat", fn := fun _ => fun
  | [d] => { results := [.lit (.bool false)], args := [d] }
  | _ => none }
def RewrFlatWrongFalsely : Prop := rewrFlatRow.holds Try.pinned (OpenSpec.ofChange rewrFlatWrong)

/-- 'filigreelaw21.RewrQuiet': WHATEVER THE INPUT: true; the input reads as it did. -/
def rewrQuietSpec : ChangeSpec := { name := "rewrQuiet", fn := fun _ => fun
  | [d] => { results := [.lit (.bool true)], args := [d] }
  | _ => none }
def rewrQuietRow : OpenClaim := { program := "ytapnlmhfacoceaa", sum := "a453cc51705a9d14cf23ccfeca5f692f5d235426895748a73384b47b6a026dba", func := "filigree/filigreelaw21.RewrQuiet", spec := "rewrQuiet", unfollowed := true, recurses := true, apart := false }
def RewrQuietSaid : Prop := rewrQuietRow.holds Try.pinned (OpenSpec.ofChange rewrQuietSpec)

/-- ITS FALSE NEIGHBOUR: 'it returns false'. Refute it at one input. -/
def rewrQuietWrong : ChangeSpec := { name := "rewrQuiet", fn := fun _ => fun
  | [d] => { results := [.lit (.bool false)], args := [d] }
  | _ => none }
def RewrQuietWrongFalsely : Prop := rewrQuietRow.holds Try.pinned (OpenSpec.ofChange rewrQuietWrong)

/-- 'filigreelaw21.RewrLess': WHATEVER THE INPUT: true; the input reads as it did. -/
def rewrLessSpec : ChangeSpec := { name := "rewrLess", fn := fun _ => fun
  | [d] => { results := [.lit (.bool true)], args := [d] }
  | _ => none }
def rewrLessRow : OpenClaim := { program := "ytapnlmhfacoceaa", sum := "a453cc51705a9d14cf23ccfeca5f692f5d235426895748a73384b47b6a026dba", func := "filigree/filigreelaw21.RewrLess", spec := "rewrLess", unfollowed := true, recurses := true, apart := false }
def RewrLessSaid : Prop := rewrLessRow.holds Try.pinned (OpenSpec.ofChange rewrLessSpec)

/-- ITS FALSE NEIGHBOUR: 'it returns false'. Refute it at one input. -/
def rewrLessWrong : ChangeSpec := { name := "rewrLess", fn := fun _ => fun
  | [d] => { results := [.lit (.bool false)], args := [d] }
  | _ => none }
def RewrLessWrongFalsely : Prop := rewrLessRow.holds Try.pinned (OpenSpec.ofChange rewrLessWrong)

/-- 'filigreelaw21.RewrTwice': WHATEVER THE INPUT: true; the input reads as it did. -/
def rewrTwiceSpec : ChangeSpec := { name := "rewrTwice", fn := fun _ => fun
  | [d] => { results := [.lit (.bool true)], args := [d] }
  | _ => none }
def rewrTwiceRow : OpenClaim := { program := "ytapnlmhfacoceaa", sum := "a453cc51705a9d14cf23ccfeca5f692f5d235426895748a73384b47b6a026dba", func := "filigree/filigreelaw21.RewrTwice", spec := "rewrTwice", unfollowed := true, recurses := true, apart := false }
def RewrTwiceSaid : Prop := rewrTwiceRow.holds Try.pinned (OpenSpec.ofChange rewrTwiceSpec)

/-- ITS FALSE NEIGHBOUR: 'it returns false'. Refute it at one input. -/
def rewrTwiceWrong : ChangeSpec := { name := "rewrTwice", fn := fun _ => fun
  | [d] => { results := [.lit (.bool false)], args := [d] }
  | _ => none }
def RewrTwiceWrongFalsely : Prop := rewrTwiceRow.holds Try.pinned (OpenSpec.ofChange rewrTwiceWrong)

/-- 'filigreelaw21.RewrNeeded': WHATEVER THE INPUT: true; the input reads as it did. -/
def rewrNeededSpec : ChangeSpec := { name := "rewrNeeded", fn := fun _ => fun
  | [d] => { results := [.lit (.bool true)], args := [d] }
  | _ => none }
def rewrNeededRow : OpenClaim := { program := "ytapnlmhfacoceaa", sum := "a453cc51705a9d14cf23ccfeca5f692f5d235426895748a73384b47b6a026dba", func := "filigree/filigreelaw21.RewrNeeded", spec := "rewrNeeded", unfollowed := true, recurses := true, apart := false }
def RewrNeededSaid : Prop := rewrNeededRow.holds Try.pinned (OpenSpec.ofChange rewrNeededSpec)

/-- ITS FALSE NEIGHBOUR: 'it returns false'. Refute it at one input. -/
def rewrNeededWrong : ChangeSpec := { name := "rewrNeeded", fn := fun _ => fun
  | [d] => { results := [.lit (.bool false)], args := [d] }
  | _ => none }
def RewrNeededWrongFalsely : Prop := rewrNeededRow.holds Try.pinned (OpenSpec.ofChange rewrNeededWrong)

/-- 'filigreelaw21.RewrDeep': WHATEVER THE INPUT: true; the input reads as it did. -/
def rewrDeepSpec : ChangeSpec := { name := "rewrDeep", fn := fun _ => fun
  | [d] => { results := [.lit (.bool true)], args := [d] }
  | _ => none }
def rewrDeepRow : OpenClaim := { program := "ytapnlmhfacoceaa", sum := "a453cc51705a9d14cf23ccfeca5f692f5d235426895748a73384b47b6a026dba", func := "filigree/filigreelaw21.RewrDeep", spec := "rewrDeep", unfollowed := true, recurses := true, apart := false }
def RewrDeepSaid : Prop := rewrDeepRow.holds Try.pinned (OpenSpec.ofChange rewrDeepSpec)

/-- ITS FALSE NEIGHBOUR: 'it returns false'. Refute it at one input. -/
def rewrDeepWrong : ChangeSpec := { name := "rewrDeep", fn := fun _ => fun
  | [d] => { results := [.lit (.bool false)], args := [d] }
  | _ => none }
def RewrDeepWrongFalsely : Prop := rewrDeepRow.holds Try.pinned (OpenSpec.ofChange rewrDeepWrong)

/-- 'filigreelaw21.RewrNext': WHATEVER THE INPUT: true; the input reads as it did. -/
def rewrNextSpec : ChangeSpec := { name := "rewrNext", fn := fun _ => fun
  | [d1, d2, d3] => { results := [.lit (.bool true)], args := [d1, d2, d3] }
  | _ => none }
def rewrNextRow : OpenClaim := { program := "ytapnlmhfacoceaa", sum := "a453cc51705a9d14cf23ccfeca5f692f5d235426895748a73384b47b6a026dba", func := "filigree/filigreelaw21.RewrNext", spec := "rewrNext", unfollowed := true, recurses := true, apart := false }
def RewrNextSaid : Prop := rewrNextRow.holds Try.pinned (OpenSpec.ofChange rewrNextSpec)

/-- ITS FALSE NEIGHBOUR: 'it returns false'. Refute it at one input. -/
def rewrNextWrong : ChangeSpec := { name := "rewrNext", fn := fun _ => fun
  | [d1, d2, d3] => { results := [.lit (.bool false)], args := [d1, d2, d3] }
  | _ => none }
def RewrNextWrongFalsely : Prop := rewrNextRow.holds Try.pinned (OpenSpec.ofChange rewrNextWrong)

/-- 'filigreelaw21.RewrFlops': WHATEVER THE INPUT: true; the input reads as it did. -/
def rewrFlopsSpec : ChangeSpec := { name := "rewrFlops", fn := fun _ => fun
  | [d1, d2] => { results := [.lit (.bool true)], args := [d1, d2] }
  | _ => none }
def rewrFlopsRow : OpenClaim := { program := "ytapnlmhfacoceaa", sum := "a453cc51705a9d14cf23ccfeca5f692f5d235426895748a73384b47b6a026dba", func := "filigree/filigreelaw21.RewrFlops", spec := "rewrFlops", unfollowed := true, recurses := true, apart := false }
def RewrFlopsSaid : Prop := rewrFlopsRow.holds Try.pinned (OpenSpec.ofChange rewrFlopsSpec)

/-- ITS FALSE NEIGHBOUR: 'it returns false'. Refute it at one input. -/
def rewrFlopsWrong : ChangeSpec := { name := "rewrFlops", fn := fun _ => fun
  | [d1, d2] => { results := [.lit (.bool false)], args := [d1, d2] }
  | _ => none }
def RewrFlopsWrongFalsely : Prop := rewrFlopsRow.holds Try.pinned (OpenSpec.ofChange rewrFlopsWrong)

/-- 'filigreelaw21.RewrSame': WHATEVER THE INPUT: true; the input reads as it did. -/
def rewrSameSpec : ChangeSpec := { name := "rewrSame", fn := fun _ => fun
  | [d1, d2] => { results := [.lit (.bool true)], args := [d1, d2] }
  | _ => none }
def rewrSameRow : OpenClaim := { program := "ytapnlmhfacoceaa", sum := "a453cc51705a9d14cf23ccfeca5f692f5d235426895748a73384b47b6a026dba", func := "filigree/filigreelaw21.RewrSame", spec := "rewrSame", unfollowed := true, recurses := true, apart := false }
def RewrSameSaid : Prop := rewrSameRow.holds Try.pinned (OpenSpec.ofChange rewrSameSpec)

/-- ITS FALSE NEIGHBOUR: 'it returns false'. Refute it at one input. -/
def rewrSameWrong : ChangeSpec := { name := "rewrSame", fn := fun _ => fun
  | [d1, d2] => { results := [.lit (.bool false)], args := [d1, d2] }
  | _ => none }
def RewrSameWrongFalsely : Prop := rewrSameRow.holds Try.pinned (OpenSpec.ofChange rewrSameWrong)

/- THE SECOND FORM. 'bulk': how many values and letters a reading holds, each counted each time it is reached (what is shared counts as often as it is met; a slice's spare places count too). A statement '..UptoSaid' is the law's where the arguments, and the package variables that the reading takes, are together of bulk at most 1048576: NARROWER than '..Said'. Prove '..Said' where nothing that the law and all that it calls make is longer than what came in: it says more and counts as full. Else prove '..UptoSaid'. A law counts once. -/
mutual
def uptoBulk {H : Type} : DataW H → Nat
  | .lit (.string bytes) => bytes.length + 1
  | .lit _ => 1
  | .nil => 1
  | .ptr d => uptoBulk d + 1
  | .slice elems spare => uptoBulkAll elems + uptoBulkAll spare + 1
  | .agg parts => uptoBulkAll parts + 1
  | .iface _ d => uptoBulk d + 1
  | .map entries => uptoBulkEntries entries + 1
  | .held _ => 1
def uptoBulkAll {H : Type} : List (DataW H) → Nat
  | [] => 0
  | d :: r => uptoBulk d + uptoBulkAll r
def uptoBulkEntries {H : Type} : List (Lit × DataW H) → Nat
  | [] => 0
  | x :: r => uptoBulkEntry x + uptoBulkEntries r
def uptoBulkEntry {H : Type} : Lit × DataW H → Nat
  | (.string bytes, d) => bytes.length + uptoBulk d + 1
  | (_, d) => uptoBulk d + 1
 end
def uptoSmall : (H : Type) → List (DataW H) → Bool := fun _ ds => decide (uptoBulkAll ds ≤ 1048576)
def OpenSpec.upto (s : _root_.Go.ChangeSpec) : _root_.Go.OpenSpec := { _root_.Go.OpenSpec.ofChange s with cond := some uptoSmall }

/-- 'filigreelaw21.RewrMade', WHERE WHAT IT READS IS OF BULK AT MOST 1048576: true; the input reads as it did. -/
def rewrMadeUptoRow : OpenClaim := { program := "ytapnlmhfacoceaa", sum := "a453cc51705a9d14cf23ccfeca5f692f5d235426895748a73384b47b6a026dba", func := "filigree/filigreelaw21.RewrMade", spec := "rewrMade", unfollowed := true, recurses := true, apart := false, narrowed := true }
def RewrMadeUptoSaid : Prop := rewrMadeUptoRow.holds Try.pinned (OpenSpec.upto rewrMadeSpec)

/-- 'filigreelaw21.RewrFlat', WHERE WHAT IT READS IS OF BULK AT MOST 1048576: true; the input reads as it did. -/
def rewrFlatUptoRow : OpenClaim := { program := "ytapnlmhfacoceaa", sum := "a453cc51705a9d14cf23ccfeca5f692f5d235426895748a73384b47b6a026dba", func := "filigree/filigreelaw21.RewrFlat", spec := "rewrFlat", unfollowed := true, recurses := true, apart := false, narrowed := true }
def RewrFlatUptoSaid : Prop := rewrFlatUptoRow.holds Try.pinned (OpenSpec.upto rewrFlatSpec)

/-- 'filigreelaw21.RewrQuiet', WHERE WHAT IT READS IS OF BULK AT MOST 1048576: true; the input reads as it did. -/
def rewrQuietUptoRow : OpenClaim := { program := "ytapnlmhfacoceaa", sum := "a453cc51705a9d14cf23ccfeca5f692f5d235426895748a73384b47b6a026dba", func := "filigree/filigreelaw21.RewrQuiet", spec := "rewrQuiet", unfollowed := true, recurses := true, apart := false, narrowed := true }
def RewrQuietUptoSaid : Prop := rewrQuietUptoRow.holds Try.pinned (OpenSpec.upto rewrQuietSpec)

/-- 'filigreelaw21.RewrLess', WHERE WHAT IT READS IS OF BULK AT MOST 1048576: true; the input reads as it did. -/
def rewrLessUptoRow : OpenClaim := { program := "ytapnlmhfacoceaa", sum := "a453cc51705a9d14cf23ccfeca5f692f5d235426895748a73384b47b6a026dba", func := "filigree/filigreelaw21.RewrLess", spec := "rewrLess", unfollowed := true, recurses := true, apart := false, narrowed := true }
def RewrLessUptoSaid : Prop := rewrLessUptoRow.holds Try.pinned (OpenSpec.upto rewrLessSpec)

/-- 'filigreelaw21.RewrTwice', WHERE WHAT IT READS IS OF BULK AT MOST 1048576: true; the input reads as it did. -/
def rewrTwiceUptoRow : OpenClaim := { program := "ytapnlmhfacoceaa", sum := "a453cc51705a9d14cf23ccfeca5f692f5d235426895748a73384b47b6a026dba", func := "filigree/filigreelaw21.RewrTwice", spec := "rewrTwice", unfollowed := true, recurses := true, apart := false, narrowed := true }
def RewrTwiceUptoSaid : Prop := rewrTwiceUptoRow.holds Try.pinned (OpenSpec.upto rewrTwiceSpec)

/-- 'filigreelaw21.RewrNeeded', WHERE WHAT IT READS IS OF BULK AT MOST 1048576: true; the input reads as it did. -/
def rewrNeededUptoRow : OpenClaim := { program := "ytapnlmhfacoceaa", sum := "a453cc51705a9d14cf23ccfeca5f692f5d235426895748a73384b47b6a026dba", func := "filigree/filigreelaw21.RewrNeeded", spec := "rewrNeeded", unfollowed := true, recurses := true, apart := false, narrowed := true }
def RewrNeededUptoSaid : Prop := rewrNeededUptoRow.holds Try.pinned (OpenSpec.upto rewrNeededSpec)

/-- 'filigreelaw21.RewrDeep', WHERE WHAT IT READS IS OF BULK AT MOST 1048576: true; the input reads as it did. -/
def rewrDeepUptoRow : OpenClaim := { program := "ytapnlmhfacoceaa", sum := "a453cc51705a9d14cf23ccfeca5f692f5d235426895748a73384b47b6a026dba", func := "filigree/filigreelaw21.RewrDeep", spec := "rewrDeep", unfollowed := true, recurses := true, apart := false, narrowed := true }
def RewrDeepUptoSaid : Prop := rewrDeepUptoRow.holds Try.pinned (OpenSpec.upto rewrDeepSpec)

/-- 'filigreelaw21.RewrNext', WHERE WHAT IT READS IS OF BULK AT MOST 1048576: true; the input reads as it did. -/
def rewrNextUptoRow : OpenClaim := { program := "ytapnlmhfacoceaa", sum := "a453cc51705a9d14cf23ccfeca5f692f5d235426895748a73384b47b6a026dba", func := "filigree/filigreelaw21.RewrNext", spec := "rewrNext", unfollowed := true, recurses := true, apart := false, narrowed := true }
def RewrNextUptoSaid : Prop := rewrNextUptoRow.holds Try.pinned (OpenSpec.upto rewrNextSpec)

/-- 'filigreelaw21.RewrFlops', WHERE WHAT IT READS IS OF BULK AT MOST 1048576: true; the input reads as it did. -/
def rewrFlopsUptoRow : OpenClaim := { program := "ytapnlmhfacoceaa", sum := "a453cc51705a9d14cf23ccfeca5f692f5d235426895748a73384b47b6a026dba", func := "filigree/filigreelaw21.RewrFlops", spec := "rewrFlops", unfollowed := true, recurses := true, apart := false, narrowed := true }
def RewrFlopsUptoSaid : Prop := rewrFlopsUptoRow.holds Try.pinned (OpenSpec.upto rewrFlopsSpec)

/-- 'filigreelaw21.RewrSame', WHERE WHAT IT READS IS OF BULK AT MOST 1048576: true; the input reads as it did. -/
def rewrSameUptoRow : OpenClaim := { program := "ytapnlmhfacoceaa", sum := "a453cc51705a9d14cf23ccfeca5f692f5d235426895748a73384b47b6a026dba", func := "filigree/filigreelaw21.RewrSame", spec := "rewrSame", unfollowed := true, recurses := true, apart := false, narrowed := true }
def RewrSameUptoSaid : Prop := rewrSameUptoRow.holds Try.pinned (OpenSpec.upto rewrSameSpec)

end Rows
end Go.Proofs.Ytapnlmhfacoceaa
