/-
  No cell of these rows narrows 'for every input' (looked for: loops, veiled, ifaces, maps, wideKeys, modest, calm, conditions, laid).
  DERIVED. THE GIVEN ROWS OF THIS SEAT. 4 by the template 'for every input the law returns true; each argument reads behind the call as it read before'; 0 by the template 'total and deterministic' (their statements: YtbbihmmobfmadaaTotals.lean).
  GIVEN WITH THE SEED: the statements are not yours to turn. If you find one false, say at which input.
  Laid BY PROGRAM, IN A SANDBOX (cutbox-rows.mjs): the forced cells as the released guide's own fill.sh prints them over the translation d636e6065c09c724… (all of the seat's roots in one cut). By AI agents, Wed Nov 11 2026. No macro, syntax, notation, axiom, sorry.
-/
import Derived.Test.YtbbihmmobfmadaaChecked
import GoSem.Claim
import GoSem.ClaimJoined
import GoSem.ClaimMapViews
import Derived.JoinedTies
import Derived.KernelRfl
namespace Go.Proofs.Ytbbihmmobfmadaa
/- THE CELL 'sum', in the pinned program and in every row, IS THE sha256 OF THE DUMP (.gsa) THAT YtbbihmmobfmadaaProg.lean LOADS. Nothing in Lean hashes anything: it is a label: what it is worth is what the hold of that sum in a sandbox is worth. -/
noncomputable def Try.pinned : Pinned := { name := "ytbbihmmobfmadaa", sum := "d636e6065c09c724fa4bc7c37413f8f92b06590f0513e4bcc1b453222759183d", checked := Try.checked }
namespace Rows
def none {H : Type} : Left H := { results := [], args := [] }

/-- 'filigreelaw19.BlastPairs': WHATEVER THE INPUT: true; the input reads as it did. -/
def blastPairsSpec : ChangeSpec := { name := "blastPairs", fn := fun _ => fun
  | [d1, d2, d3, d4, d5, d6] => { results := [.lit (.bool true)], args := [d1, d2, d3, d4, d5, d6] }
  | _ => none }
def blastPairsRow : OpenClaim := { program := "ytbbihmmobfmadaa", sum := "d636e6065c09c724fa4bc7c37413f8f92b06590f0513e4bcc1b453222759183d", func := "filigree/filigreelaw19.BlastPairs", spec := "blastPairs", unfollowed := true, recurses := true, apart := false }
def BlastPairsSaid : Prop := blastPairsRow.holds Try.pinned (OpenSpec.ofChange blastPairsSpec)

/-- ITS FALSE NEIGHBOUR: 'it returns false'. Refute it at one input. -/
def blastPairsWrong : ChangeSpec := { name := "blastPairs", fn := fun _ => fun
  | [d1, d2, d3, d4, d5, d6] => { results := [.lit (.bool false)], args := [d1, d2, d3, d4, d5, d6] }
  | _ => none }
def BlastPairsWrongFalsely : Prop := blastPairsRow.holds Try.pinned (OpenSpec.ofChange blastPairsWrong)

/-- 'filigreelaw19.BlastNumbers': WHATEVER THE INPUT: true; the input reads as it did. -/
def blastNumbersSpec : ChangeSpec := { name := "blastNumbers", fn := fun _ => fun
  | [d1, d2, d3, d4, d5] => { results := [.lit (.bool true)], args := [d1, d2, d3, d4, d5] }
  | _ => none }
def blastNumbersRow : OpenClaim := { program := "ytbbihmmobfmadaa", sum := "d636e6065c09c724fa4bc7c37413f8f92b06590f0513e4bcc1b453222759183d", func := "filigree/filigreelaw19.BlastNumbers", spec := "blastNumbers", unfollowed := true, recurses := true, apart := false }
def BlastNumbersSaid : Prop := blastNumbersRow.holds Try.pinned (OpenSpec.ofChange blastNumbersSpec)

/-- ITS FALSE NEIGHBOUR: 'it returns false'. Refute it at one input. -/
def blastNumbersWrong : ChangeSpec := { name := "blastNumbers", fn := fun _ => fun
  | [d1, d2, d3, d4, d5] => { results := [.lit (.bool false)], args := [d1, d2, d3, d4, d5] }
  | _ => none }
def BlastNumbersWrongFalsely : Prop := blastNumbersRow.holds Try.pinned (OpenSpec.ofChange blastNumbersWrong)

/-- 'filigreelaw19.BlastAgain': WHATEVER THE INPUT: true; the input reads as it did. -/
def blastAgainSpec : ChangeSpec := { name := "blastAgain", fn := fun _ => fun
  | [d1, d2, d3, d4] => { results := [.lit (.bool true)], args := [d1, d2, d3, d4] }
  | _ => none }
def blastAgainRow : OpenClaim := { program := "ytbbihmmobfmadaa", sum := "d636e6065c09c724fa4bc7c37413f8f92b06590f0513e4bcc1b453222759183d", func := "filigree/filigreelaw19.BlastAgain", spec := "blastAgain", unfollowed := true, recurses := true, apart := false }
def BlastAgainSaid : Prop := blastAgainRow.holds Try.pinned (OpenSpec.ofChange blastAgainSpec)

/-- ITS FALSE NEIGHBOUR: 'it returns false'. Refute it at one input. -/
def blastAgainWrong : ChangeSpec := { name := "blastAgain", fn := fun _ => fun
  | [d1, d2, d3, d4] => { results := [.lit (.bool false)], args := [d1, d2, d3, d4] }
  | _ => none }
def BlastAgainWrongFalsely : Prop := blastAgainRow.holds Try.pinned (OpenSpec.ofChange blastAgainWrong)

/-- 'filigreelaw19.BlastSingles': WHATEVER THE INPUT: true; the input reads as it did. -/
def blastSinglesSpec : ChangeSpec := { name := "blastSingles", fn := fun _ => fun
  | [d1, d2, d3, d4, d5, d6, d7, d8] => { results := [.lit (.bool true)], args := [d1, d2, d3, d4, d5, d6, d7, d8] }
  | _ => none }
def blastSinglesRow : OpenClaim := { program := "ytbbihmmobfmadaa", sum := "d636e6065c09c724fa4bc7c37413f8f92b06590f0513e4bcc1b453222759183d", func := "filigree/filigreelaw19.BlastSingles", spec := "blastSingles", unfollowed := true, recurses := true, apart := false }
def BlastSinglesSaid : Prop := blastSinglesRow.holds Try.pinned (OpenSpec.ofChange blastSinglesSpec)

/-- ITS FALSE NEIGHBOUR: 'it returns false'. Refute it at one input. -/
def blastSinglesWrong : ChangeSpec := { name := "blastSingles", fn := fun _ => fun
  | [d1, d2, d3, d4, d5, d6, d7, d8] => { results := [.lit (.bool false)], args := [d1, d2, d3, d4, d5, d6, d7, d8] }
  | _ => none }
def BlastSinglesWrongFalsely : Prop := blastSinglesRow.holds Try.pinned (OpenSpec.ofChange blastSinglesWrong)

/- THE SECOND FORM. 'bulk': how many values and letters a reading holds, each counted each time it is reached (what is shared counts as often as it is met; a slice's spare places count too). A statement '..UptoSaid' is the law's where the arguments, and the package variables that the reading takes, are together of bulk at most 1048576: NARROWER than '..Said'. Prove '..Said' where nothing that the law and all that it calls make is longer than what came in: it says more and counts as full. Else prove '..UptoSaid'. A law counts once. -/
mutual
def uptoBulk {H : Type} : DataW H → Nat
  | .lit (.string bytes) => bytes.length + 1
  | .lit _ => 1
  | .nil => 1
  | .ptr d => uptoBulk d + 1
  | .slice elems spare => uptoBulkAll elems + uptoBulkAll spare + 1
  | .agg parts => uptoBulkAll parts + 1
  | .iface _ d => uptoBulk d + 1
  | .map entries => uptoBulkEntries entries + 1
  | .held _ => 1
def uptoBulkAll {H : Type} : List (DataW H) → Nat
  | [] => 0
  | d :: r => uptoBulk d + uptoBulkAll r
def uptoBulkEntries {H : Type} : List (Lit × DataW H) → Nat
  | [] => 0
  | x :: r => uptoBulkEntry x + uptoBulkEntries r
def uptoBulkEntry {H : Type} : Lit × DataW H → Nat
  | (.string bytes, d) => bytes.length + uptoBulk d + 1
  | (_, d) => uptoBulk d + 1
 end
def uptoSmall : (H : Type) → List (DataW H) → Bool := fun _ ds => decide (uptoBulkAll ds ≤ 1048576)
def OpenSpec.upto (s : _root_.Go.ChangeSpec) : _root_.Go.OpenSpec := { _root_.Go.OpenSpec.ofChange s with cond := some uptoSmall }

/-- 'filigreelaw19.BlastPairs', WHERE WHAT IT READS IS OF BULK AT MOST 1048576: true; the input reads as it did. -/
def blastPairsUptoRow : OpenClaim := { program := "ytbbihmmobfmadaa", sum := "d636e6065c09c724fa4bc7c37413f8f92b06590f0513e4bcc1b453222759183d", func := "filigree/filigreelaw19.BlastPairs", spec := "blastPairs", unfollowed := true, recurses := true, apart := false, narrowed := true }
def BlastPairsUptoSaid : Prop := blastPairsUptoRow.holds Try.pinned (OpenSpec.upto blastPairsSpec)

/-- 'filigreelaw19.BlastNumbers', WHERE WHAT IT READS IS OF BULK AT MOST 1048576: true; the input reads as it did. -/
def blastNumbersUptoRow : OpenClaim := { program := "ytbbihmmobfmadaa", sum := "d636e6065c09c724fa4bc7c37413f8f92b06590f0513e4bcc1b453222759183d", func := "filigree/filigreelaw19.BlastNumbers", spec := "blastNumbers", unfollowed := true, recurses := true, apart := false, narrowed := true }
def BlastNumbersUptoSaid : Prop := blastNumbersUptoRow.holds Try.pinned (OpenSpec.upto blastNumbersSpec)

/-- 'filigreelaw19.BlastAgain', WHERE WHAT IT READS IS OF BULK AT MOST 1048576: true; the input reads as it did. -/
def blastAgainUptoRow : OpenClaim := { program := "ytbbihmmobfmadaa", sum := "d636e6065c09c724fa4bc7c37413f8f92b06590f0513e4bcc1b453222759183d", func := "filigree/filigreelaw19.BlastAgain", spec := "blastAgain", unfollowed := true, recurses := true, apart := false, narrowed := true }
def BlastAgainUptoSaid : Prop := blastAgainUptoRow.holds Try.pinned (OpenSpec.upto blastAgainSpec)

/-- 'filigreelaw19.BlastSingles', WHERE WHAT IT READS IS OF BULK AT MOST 1048576: true; the input reads as it did. -/
def blastSinglesUptoRow : OpenClaim := { program := "ytbbihmmobfmadaa", sum := "d636e6065c09c724fa4bc7c37413f8f92b06590f0513e4bcc1b453222759183d", func := "filigree/filigreelaw19.BlastSingles", spec := "blastSingles", unfollowed := true, recurses := true, apart := false, narrowed := true }
def BlastSinglesUptoSaid : Prop := blastSinglesUptoRow.holds Try.pinned (OpenSpec.upto blastSinglesSpec)

end Rows
end Go.Proofs.Ytbbihmmobfmadaa
