/-
  No cell of these rows narrows 'for every input' (looked for: loops, veiled, ifaces, maps, wideKeys, modest, calm, conditions, laid).
  DERIVED. THE GIVEN ROWS OF THIS SEAT. 8 by the template 'for every input the law returns true; each argument reads behind the call as it read before'; 0 by the template 'total and deterministic' (their statements: YtjichkelfhcbcaaTotals.lean).
  GIVEN WITH THE SEED: the statements are not yours to turn. If you find one false, say at which input.
  Laid BY PROGRAM, IN A SANDBOX (cutbox-rows.mjs): the forced cells as the released guide's own fill.sh prints them over the translation 1b0a30d8a53ead1b… (all of the seat's roots in one cut). By AI agents, Wed Nov 11 2026. No macro, syntax, notation, axiom, sorry.
-/
import Derived.Test.YtjichkelfhcbcaaChecked
import GoSem.Claim
import GoSem.ClaimJoined
import GoSem.ClaimMapViews
import Derived.JoinedTies
import Derived.KernelRfl
namespace Go.Proofs.Ytjichkelfhcbcaa
/- THE CELL 'sum', in the pinned program and in every row, IS THE sha256 OF THE DUMP (.gsa) THAT YtjichkelfhcbcaaProg.lean LOADS. Nothing in Lean hashes anything: it is a label: what it is worth is what the hold of that sum in a sandbox is worth. -/
noncomputable def Try.pinned : Pinned := { name := "ytjichkelfhcbcaa", sum := "1b0a30d8a53ead1b6b30b2388ddca88dcf74bd3a290d4f3826fd30118337b978", checked := Try.checked }
namespace Rows
def none {H : Type} : Left H := { results := [], args := [] }

/-- 'filigreelaw23.EquivForks': WHATEVER THE INPUT: true; the input reads as it did. -/
def equivForksSpec : ChangeSpec := { name := "equivForks", fn := fun _ => fun
  | [d] => { results := [.lit (.bool true)], args := [d] }
  | _ => none }
def equivForksRow : OpenClaim := { program := "ytjichkelfhcbcaa", sum := "1b0a30d8a53ead1b6b30b2388ddca88dcf74bd3a290d4f3826fd30118337b978", func := "filigree/filigreelaw23.EquivForks", spec := "equivForks", unfollowed := true, recurses := true, plainKeys := false, apart := false }
def EquivForksSaid : Prop := equivForksRow.holds Try.pinned (OpenSpec.ofChange equivForksSpec)

/-- ITS FALSE NEIGHBOUR: 'it returns false'. Refute it at one input. -/
def equivForksWrong : ChangeSpec := { name := "equivForks", fn := fun _ => fun
  | [d] => { results := [.lit (.bool false)], args := [d] }
  | _ => none }
def EquivForksWrongFalsely : Prop := equivForksRow.holds Try.pinned (OpenSpec.ofChange equivForksWrong)

/-- 'filigreelaw23.EquivMiters': WHATEVER THE INPUT: true; the input reads as it did. -/
def equivMitersSpec : ChangeSpec := { name := "equivMiters", fn := fun _ => fun
  | [d1, d2, d3] => { results := [.lit (.bool true)], args := [d1, d2, d3] }
  | _ => none }
def equivMitersRow : OpenClaim := { program := "ytjichkelfhcbcaa", sum := "1b0a30d8a53ead1b6b30b2388ddca88dcf74bd3a290d4f3826fd30118337b978", func := "filigree/filigreelaw23.EquivMiters", spec := "equivMiters", unfollowed := true, recurses := true, plainKeys := false, apart := false }
def EquivMitersSaid : Prop := equivMitersRow.holds Try.pinned (OpenSpec.ofChange equivMitersSpec)

/-- ITS FALSE NEIGHBOUR: 'it returns false'. Refute it at one input. -/
def equivMitersWrong : ChangeSpec := { name := "equivMiters", fn := fun _ => fun
  | [d1, d2, d3] => { results := [.lit (.bool false)], args := [d1, d2, d3] }
  | _ => none }
def EquivMitersWrongFalsely : Prop := equivMitersRow.holds Try.pinned (OpenSpec.ofChange equivMitersWrong)

/-- 'filigreelaw23.EquivSame': WHATEVER THE INPUT: true; the input reads as it did. -/
def equivSameSpec : ChangeSpec := { name := "equivSame", fn := fun _ => fun
  | [d1, d2, d3, d4] => { results := [.lit (.bool true)], args := [d1, d2, d3, d4] }
  | _ => none }
def equivSameRow : OpenClaim := { program := "ytjichkelfhcbcaa", sum := "1b0a30d8a53ead1b6b30b2388ddca88dcf74bd3a290d4f3826fd30118337b978", func := "filigree/filigreelaw23.EquivSame", spec := "equivSame", unfollowed := true, recurses := true, plainKeys := false, apart := false }
def EquivSameSaid : Prop := equivSameRow.holds Try.pinned (OpenSpec.ofChange equivSameSpec)

/-- ITS FALSE NEIGHBOUR: 'it returns false'. Refute it at one input. -/
def equivSameWrong : ChangeSpec := { name := "equivSame", fn := fun _ => fun
  | [d1, d2, d3, d4] => { results := [.lit (.bool false)], args := [d1, d2, d3, d4] }
  | _ => none }
def EquivSameWrongFalsely : Prop := equivSameRow.holds Try.pinned (OpenSpec.ofChange equivSameWrong)

/-- 'filigreelaw23.EquivFirst': WHATEVER THE INPUT: true; the input reads as it did. -/
def equivFirstSpec : ChangeSpec := { name := "equivFirst", fn := fun _ => fun
  | [d1, d2, d3, d4] => { results := [.lit (.bool true)], args := [d1, d2, d3, d4] }
  | _ => none }
def equivFirstRow : OpenClaim := { program := "ytjichkelfhcbcaa", sum := "1b0a30d8a53ead1b6b30b2388ddca88dcf74bd3a290d4f3826fd30118337b978", func := "filigree/filigreelaw23.EquivFirst", spec := "equivFirst", unfollowed := true, recurses := true, plainKeys := false, apart := false }
def EquivFirstSaid : Prop := equivFirstRow.holds Try.pinned (OpenSpec.ofChange equivFirstSpec)

/-- ITS FALSE NEIGHBOUR: 'it returns false'. Refute it at one input. -/
def equivFirstWrong : ChangeSpec := { name := "equivFirst", fn := fun _ => fun
  | [d1, d2, d3, d4] => { results := [.lit (.bool false)], args := [d1, d2, d3, d4] }
  | _ => none }
def EquivFirstWrongFalsely : Prop := equivFirstRow.holds Try.pinned (OpenSpec.ofChange equivFirstWrong)

/-- 'filigreelaw23.EquivMiter': WHATEVER THE INPUT: true; the input reads as it did. -/
def equivMiterSpec : ChangeSpec := { name := "equivMiter", fn := fun _ => fun
  | [d1, d2, d3, d4] => { results := [.lit (.bool true)], args := [d1, d2, d3, d4] }
  | _ => none }
def equivMiterRow : OpenClaim := { program := "ytjichkelfhcbcaa", sum := "1b0a30d8a53ead1b6b30b2388ddca88dcf74bd3a290d4f3826fd30118337b978", func := "filigree/filigreelaw23.EquivMiter", spec := "equivMiter", unfollowed := true, recurses := true, plainKeys := false, apart := false }
def EquivMiterSaid : Prop := equivMiterRow.holds Try.pinned (OpenSpec.ofChange equivMiterSpec)

/-- ITS FALSE NEIGHBOUR: 'it returns false'. Refute it at one input. -/
def equivMiterWrong : ChangeSpec := { name := "equivMiter", fn := fun _ => fun
  | [d1, d2, d3, d4] => { results := [.lit (.bool false)], args := [d1, d2, d3, d4] }
  | _ => none }
def EquivMiterWrongFalsely : Prop := equivMiterRow.holds Try.pinned (OpenSpec.ofChange equivMiterWrong)

/-- 'filigreelaw23.EquivRuns': WHATEVER THE INPUT: true; the input reads as it did. -/
def equivRunsSpec : ChangeSpec := { name := "equivRuns", fn := fun _ => fun
  | [d1, d2, d3] => { results := [.lit (.bool true)], args := [d1, d2, d3] }
  | _ => none }
def equivRunsRow : OpenClaim := { program := "ytjichkelfhcbcaa", sum := "1b0a30d8a53ead1b6b30b2388ddca88dcf74bd3a290d4f3826fd30118337b978", func := "filigree/filigreelaw23.EquivRuns", spec := "equivRuns", unfollowed := true, recurses := true, plainKeys := false, apart := false }
def EquivRunsSaid : Prop := equivRunsRow.holds Try.pinned (OpenSpec.ofChange equivRunsSpec)

/-- ITS FALSE NEIGHBOUR: 'it returns false'. Refute it at one input. -/
def equivRunsWrong : ChangeSpec := { name := "equivRuns", fn := fun _ => fun
  | [d1, d2, d3] => { results := [.lit (.bool false)], args := [d1, d2, d3] }
  | _ => none }
def EquivRunsWrongFalsely : Prop := equivRunsRow.holds Try.pinned (OpenSpec.ofChange equivRunsWrong)

/-- 'filigreelaw23.EquivOwn': WHATEVER THE INPUT: true; the input reads as it did. -/
def equivOwnSpec : ChangeSpec := { name := "equivOwn", fn := fun _ => fun
  | [d1, d2, d3, d4] => { results := [.lit (.bool true)], args := [d1, d2, d3, d4] }
  | _ => none }
def equivOwnRow : OpenClaim := { program := "ytjichkelfhcbcaa", sum := "1b0a30d8a53ead1b6b30b2388ddca88dcf74bd3a290d4f3826fd30118337b978", func := "filigree/filigreelaw23.EquivOwn", spec := "equivOwn", unfollowed := true, recurses := true, plainKeys := false, apart := false }
def EquivOwnSaid : Prop := equivOwnRow.holds Try.pinned (OpenSpec.ofChange equivOwnSpec)

/-- ITS FALSE NEIGHBOUR: 'it returns false'. Refute it at one input. -/
def equivOwnWrong : ChangeSpec := { name := "equivOwn", fn := fun _ => fun
  | [d1, d2, d3, d4] => { results := [.lit (.bool false)], args := [d1, d2, d3, d4] }
  | _ => none }
def EquivOwnWrongFalsely : Prop := equivOwnRow.holds Try.pinned (OpenSpec.ofChange equivOwnWrong)

/-- 'filigreelaw23.EquivDiagrams': WHATEVER THE INPUT: true; the input reads as it did. -/
def equivDiagramsSpec : ChangeSpec := { name := "equivDiagrams", fn := fun _ => fun
  | [d1, d2, d3] => { results := [.lit (.bool true)], args := [d1, d2, d3] }
  | _ => none }
def equivDiagramsRow : OpenClaim := { program := "ytjichkelfhcbcaa", sum := "1b0a30d8a53ead1b6b30b2388ddca88dcf74bd3a290d4f3826fd30118337b978", func := "filigree/filigreelaw23.EquivDiagrams", spec := "equivDiagrams", unfollowed := true, recurses := true, plainKeys := false, apart := false }
def EquivDiagramsSaid : Prop := equivDiagramsRow.holds Try.pinned (OpenSpec.ofChange equivDiagramsSpec)

/-- ITS FALSE NEIGHBOUR: 'it returns false'. Refute it at one input. -/
def equivDiagramsWrong : ChangeSpec := { name := "equivDiagrams", fn := fun _ => fun
  | [d1, d2, d3] => { results := [.lit (.bool false)], args := [d1, d2, d3] }
  | _ => none }
def EquivDiagramsWrongFalsely : Prop := equivDiagramsRow.holds Try.pinned (OpenSpec.ofChange equivDiagramsWrong)

/- THE SECOND FORM. 'bulk': how many values and letters a reading holds, each counted each time it is reached (what is shared counts as often as it is met; a slice's spare places count too). A statement '..UptoSaid' is the law's where the arguments, and the package variables that the reading takes, are together of bulk at most 1048576: NARROWER than '..Said'. Prove '..Said' where nothing that the law and all that it calls make is longer than what came in: it says more and counts as full. Else prove '..UptoSaid'. A law counts once. -/
mutual
def uptoBulk {H : Type} : DataW H → Nat
  | .lit (.string bytes) => bytes.length + 1
  | .lit _ => 1
  | .nil => 1
  | .ptr d => uptoBulk d + 1
  | .slice elems spare => uptoBulkAll elems + uptoBulkAll spare + 1
  | .agg parts => uptoBulkAll parts + 1
  | .iface _ d => uptoBulk d + 1
  | .map entries => uptoBulkEntries entries + 1
  | .held _ => 1
def uptoBulkAll {H : Type} : List (DataW H) → Nat
  | [] => 0
  | d :: r => uptoBulk d + uptoBulkAll r
def uptoBulkEntries {H : Type} : List (Lit × DataW H) → Nat
  | [] => 0
  | x :: r => uptoBulkEntry x + uptoBulkEntries r
def uptoBulkEntry {H : Type} : Lit × DataW H → Nat
  | (.string bytes, d) => bytes.length + uptoBulk d + 1
  | (_, d) => uptoBulk d + 1
 end
def uptoSmall : (H : Type) → List (DataW H) → Bool := fun _ ds => decide (uptoBulkAll ds ≤ 1048576)
def OpenSpec.upto (s : _root_.Go.ChangeSpec) : _root_.Go.OpenSpec := { _root_.Go.OpenSpec.ofChange s with cond := some uptoSmall }

/-- 'filigreelaw23.EquivForks', WHERE WHAT IT READS IS OF BULK AT MOST 1048576: true; the input reads as it did. -/
def equivForksUptoRow : OpenClaim := { program := "ytjichkelfhcbcaa", sum := "1b0a30d8a53ead1b6b30b2388ddca88dcf74bd3a290d4f3826fd30118337b978", func := "filigree/filigreelaw23.EquivForks", spec := "equivForks", unfollowed := true, recurses := true, plainKeys := false, apart := false, narrowed := true }
def EquivForksUptoSaid : Prop := equivForksUptoRow.holds Try.pinned (OpenSpec.upto equivForksSpec)

/-- 'filigreelaw23.EquivMiters', WHERE WHAT IT READS IS OF BULK AT MOST 1048576: true; the input reads as it did. -/
def equivMitersUptoRow : OpenClaim := { program := "ytjichkelfhcbcaa", sum := "1b0a30d8a53ead1b6b30b2388ddca88dcf74bd3a290d4f3826fd30118337b978", func := "filigree/filigreelaw23.EquivMiters", spec := "equivMiters", unfollowed := true, recurses := true, plainKeys := false, apart := false, narrowed := true }
def EquivMitersUptoSaid : Prop := equivMitersUptoRow.holds Try.pinned (OpenSpec.upto equivMitersSpec)

/-- 'filigreelaw23.EquivSame', WHERE WHAT IT READS IS OF BULK AT MOST 1048576: true; the input reads as it did. -/
def equivSameUptoRow : OpenClaim := { program := "ytjichkelfhcbcaa", sum := "1b0a30d8a53ead1b6b30b2388ddca88dcf74bd3a290d4f3826fd30118337b978", func := "filigree/filigreelaw23.EquivSame", spec := "equivSame", unfollowed := true, recurses := true, plainKeys := false, apart := false, narrowed := true }
def EquivSameUptoSaid : Prop := equivSameUptoRow.holds Try.pinned (OpenSpec.upto equivSameSpec)

/-- 'filigreelaw23.EquivFirst', WHERE WHAT IT READS IS OF BULK AT MOST 1048576: true; the input reads as it did. -/
def equivFirstUptoRow : OpenClaim := { program := "ytjichkelfhcbcaa", sum := "1b0a30d8a53ead1b6b30b2388ddca88dcf74bd3a290d4f3826fd30118337b978", func := "filigree/filigreelaw23.EquivFirst", spec := "equivFirst", unfollowed := true, recurses := true, plainKeys := false, apart := false, narrowed := true }
def EquivFirstUptoSaid : Prop := equivFirstUptoRow.holds Try.pinned (OpenSpec.upto equivFirstSpec)

/-- 'filigreelaw23.EquivMiter', WHERE WHAT IT READS IS OF BULK AT MOST 1048576: true; the input reads as it did. -/
def equivMiterUptoRow : OpenClaim := { program := "ytjichkelfhcbcaa", sum := "1b0a30d8a53ead1b6b30b2388ddca88dcf74bd3a290d4f3826fd30118337b978", func := "filigree/filigreelaw23.EquivMiter", spec := "equivMiter", unfollowed := true, recurses := true, plainKeys := false, apart := false, narrowed := true }
def EquivMiterUptoSaid : Prop := equivMiterUptoRow.holds Try.pinned (OpenSpec.upto equivMiterSpec)

/-- 'filigreelaw23.EquivRuns', WHERE WHAT IT READS IS OF BULK AT MOST 1048576: true; the input reads as it did. -/
def equivRunsUptoRow : OpenClaim := { program := "ytjichkelfhcbcaa", sum := "1b0a30d8a53ead1b6b30b2388ddca88dcf74bd3a290d4f3826fd30118337b978", func := "filigree/filigreelaw23.EquivRuns", spec := "equivRuns", unfollowed := true, recurses := true, plainKeys := false, apart := false, narrowed := true }
def EquivRunsUptoSaid : Prop := equivRunsUptoRow.holds Try.pinned (OpenSpec.upto equivRunsSpec)

/-- 'filigreelaw23.EquivOwn', WHERE WHAT IT READS IS OF BULK AT MOST 1048576: true; the input reads as it did. -/
def equivOwnUptoRow : OpenClaim := { program := "ytjichkelfhcbcaa", sum := "1b0a30d8a53ead1b6b30b2388ddca88dcf74bd3a290d4f3826fd30118337b978", func := "filigree/filigreelaw23.EquivOwn", spec := "equivOwn", unfollowed := true, recurses := true, plainKeys := false, apart := false, narrowed := true }
def EquivOwnUptoSaid : Prop := equivOwnUptoRow.holds Try.pinned (OpenSpec.upto equivOwnSpec)

/-- 'filigreelaw23.EquivDiagrams', WHERE WHAT IT READS IS OF BULK AT MOST 1048576: true; the input reads as it did. -/
def equivDiagramsUptoRow : OpenClaim := { program := "ytjichkelfhcbcaa", sum := "1b0a30d8a53ead1b6b30b2388ddca88dcf74bd3a290d4f3826fd30118337b978", func := "filigree/filigreelaw23.EquivDiagrams", spec := "equivDiagrams", unfollowed := true, recurses := true, plainKeys := false, apart := false, narrowed := true }
def EquivDiagramsUptoSaid : Prop := equivDiagramsUptoRow.holds Try.pinned (OpenSpec.upto equivDiagramsSpec)

end Rows
end Go.Proofs.Ytjichkelfhcbcaa
