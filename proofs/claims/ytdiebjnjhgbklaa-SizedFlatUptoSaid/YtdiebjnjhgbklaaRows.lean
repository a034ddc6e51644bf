/-
  NARROWER THAN 'FOR EVERY INPUT', by the rows' own cells (each row's printed sentence says how): SizedExpr: loops · SizedFlat: loops · SizedSame: loops · SizedOnce: loops · SizedWant: loops · SizedParts: loops · SizedBehind: loops · SizedBit: loops · SizedLess: loops.
  DERIVED. THE GIVEN ROWS OF THIS SEAT. 10 by the template 'for every input the law returns true; each argument reads behind the call as it read before'; 0 by the template 'total and deterministic' (their statements: YtdiebjnjhgbklaaTotals.lean).
  GIVEN WITH THE SEED: the statements are not yours to turn. If you find one false, say at which input.
  Laid BY PROGRAM, IN A SANDBOX (cutbox-rows.mjs): the forced cells as the released guide's own fill.sh prints them over the translation e7868a23d1ba8446… (all of the seat's roots in one cut). By AI agents, Wed Nov 11 2026. No macro, syntax, notation, axiom, sorry.
-/
import Derived.Test.YtdiebjnjhgbklaaChecked
import GoSem.Claim
import GoSem.ClaimJoined
import GoSem.ClaimMapViews
import Derived.JoinedTies
import Derived.KernelRfl
namespace Go.Proofs.Ytdiebjnjhgbklaa
/- THE CELL 'sum', in the pinned program and in every row, IS THE sha256 OF THE DUMP (.gsa) THAT YtdiebjnjhgbklaaProg.lean LOADS. Nothing in Lean hashes anything: it is a label: what it is worth is what the hold of that sum in a sandbox is worth. -/
noncomputable def Try.pinned : Pinned := { name := "ytdiebjnjhgbklaa", sum := "e7868a23d1ba8446da5b4a42f7c140295d06d30ae5d13f2a80691cbc6aebdbd5", checked := Try.checked }
namespace Rows
def none {H : Type} : Left H := { results := [], args := [] }

/-- 'filigreelaw09.SizedExpr': WHATEVER THE INPUT: true; the input reads as it did. -/
def sizedExprSpec : ChangeSpec := { name := "sizedExpr", fn := fun _ => fun
  | [d1, d2, d3] => { results := [.lit (.bool true)], args := [d1, d2, d3] }
  | _ => none }
def sizedExprRow : OpenClaim := { program := "ytdiebjnjhgbklaa", sum := "e7868a23d1ba8446da5b4a42f7c140295d06d30ae5d13f2a80691cbc6aebdbd5", func := "filigree/filigreelaw09.SizedExpr", spec := "sizedExpr", unfollowed := true, recurses := true, loops := true, apart := false }
def SizedExprSaid : Prop := sizedExprRow.holds Try.pinned (OpenSpec.ofChange sizedExprSpec)

/-- ITS FALSE NEIGHBOUR: 'it returns false'. Refute it at one input. -/
def sizedExprWrong : ChangeSpec := { name := "sizedExpr", fn := fun _ => fun
  | [d1, d2, d3] => { results := [.lit (.bool false)], args := [d1, d2, d3] }
  | _ => none }
def SizedExprWrongFalsely : Prop := sizedExprRow.holds Try.pinned (OpenSpec.ofChange sizedExprWrong)

/-- 'filigreelaw09.SizedFlat': WHATEVER THE INPUT: true; the input reads as it did. -/
def sizedFlatSpec : ChangeSpec := { name := "sizedFlat", fn := fun _ => fun
  | [d] => { results := [.lit (.bool true)], args := [d] }
  | _ => none }
def sizedFlatRow : OpenClaim := { program := "ytdiebjnjhgbklaa", sum := "e7868a23d1ba8446da5b4a42f7c140295d06d30ae5d13f2a80691cbc6aebdbd5", func := "filigree/filigreelaw09.SizedFlat", spec := "sizedFlat", unfollowed := true, recurses := true, loops := true, apart := false }
def SizedFlatSaid : Prop := sizedFlatRow.holds Try.pinned (OpenSpec.ofChange sizedFlatSpec)

/-- ITS FALSE NEIGHBOUR: 'it returns false'. Refute it at one input. -/
def sizedFlatWrong : ChangeSpec := { name := "sizedFlat", fn := fun _ => fun
  | [d] => { results := [.lit (.bool false)], args := [d] }
  | _ => none }
def SizedFlatWrongFalsely : Prop := sizedFlatRow.holds Try.pinned (OpenSpec.ofChange sizedFlatWrong)

/-- 'filigreelaw09.SizedSame': WHATEVER THE INPUT: true; the input reads as it did. -/
def sizedSameSpec : ChangeSpec := { name := "sizedSame", fn := fun _ => fun
  | [d1, d2, d3, d4] => { results := [.lit (.bool true)], args := [d1, d2, d3, d4] }
  | _ => none }
def sizedSameRow : OpenClaim := { program := "ytdiebjnjhgbklaa", sum := "e7868a23d1ba8446da5b4a42f7c140295d06d30ae5d13f2a80691cbc6aebdbd5", func := "filigree/filigreelaw09.SizedSame", spec := "sizedSame", unfollowed := true, recurses := true, loops := true, apart := false }
def SizedSameSaid : Prop := sizedSameRow.holds Try.pinned (OpenSpec.ofChange sizedSameSpec)

/-- ITS FALSE NEIGHBOUR: 'it returns false'. Refute it at one input. -/
def sizedSameWrong : ChangeSpec := { name := "sizedSame", fn := fun _ => fun
  | [d1, d2, d3, d4] => { results := [.lit (.bool false)], args := [d1, d2, d3, d4] }
  | _ => none }
def SizedSameWrongFalsely : Prop := sizedSameRow.holds Try.pinned (OpenSpec.ofChange sizedSameWrong)

/-- 'filigreelaw09.SizedOnce': WHATEVER THE INPUT: true; the input reads as it did. -/
def sizedOnceSpec : ChangeSpec := { name := "sizedOnce", fn := fun _ => fun
  | [d] => { results := [.lit (.bool true)], args := [d] }
  | _ => none }
def sizedOnceRow : OpenClaim := { program := "ytdiebjnjhgbklaa", sum := "e7868a23d1ba8446da5b4a42f7c140295d06d30ae5d13f2a80691cbc6aebdbd5", func := "filigree/filigreelaw09.SizedOnce", spec := "sizedOnce", unfollowed := true, recurses := true, loops := true, apart := false }
def SizedOnceSaid : Prop := sizedOnceRow.holds Try.pinned (OpenSpec.ofChange sizedOnceSpec)

/-- ITS FALSE NEIGHBOUR: 'it returns false'. Refute it at one input. -/
def sizedOnceWrong : ChangeSpec := { name := "sizedOnce", fn := fun _ => fun
  | [d] => { results := [.lit (.bool false)], args := [d] }
  | _ => none }
def SizedOnceWrongFalsely : Prop := sizedOnceRow.holds Try.pinned (OpenSpec.ofChange sizedOnceWrong)

/-- 'filigreelaw09.SizedWant': WHATEVER THE INPUT: true; the input reads as it did. -/
def sizedWantSpec : ChangeSpec := { name := "sizedWant", fn := fun _ => fun
  | [d1, d2, d3] => { results := [.lit (.bool true)], args := [d1, d2, d3] }
  | _ => none }
def sizedWantRow : OpenClaim := { program := "ytdiebjnjhgbklaa", sum := "e7868a23d1ba8446da5b4a42f7c140295d06d30ae5d13f2a80691cbc6aebdbd5", func := "filigree/filigreelaw09.SizedWant", spec := "sizedWant", unfollowed := true, recurses := true, loops := true, apart := false }
def SizedWantSaid : Prop := sizedWantRow.holds Try.pinned (OpenSpec.ofChange sizedWantSpec)

/-- ITS FALSE NEIGHBOUR: 'it returns false'. Refute it at one input. -/
def sizedWantWrong : ChangeSpec := { name := "sizedWant", fn := fun _ => fun
  | [d1, d2, d3] => { results := [.lit (.bool false)], args := [d1, d2, d3] }
  | _ => none }
def SizedWantWrongFalsely : Prop := sizedWantRow.holds Try.pinned (OpenSpec.ofChange sizedWantWrong)

/-- 'filigreelaw09.SizedNumber': WHATEVER THE INPUT: true; the input reads as it did. -/
def sizedNumberSpec : ChangeSpec := { name := "sizedNumber", fn := fun _ => fun
  | [d1, d2, d3] => { results := [.lit (.bool true)], args := [d1, d2, d3] }
  | _ => none }
def sizedNumberRow : OpenClaim := { program := "ytdiebjnjhgbklaa", sum := "e7868a23d1ba8446da5b4a42f7c140295d06d30ae5d13f2a80691cbc6aebdbd5", func := "filigree/filigreelaw09.SizedNumber", spec := "sizedNumber", unfollowed := true, recurses := true, apart := false }
def SizedNumberSaid : Prop := sizedNumberRow.holds Try.pinned (OpenSpec.ofChange sizedNumberSpec)

/-- ITS FALSE NEIGHBOUR: 'it returns false'. Refute it at one input. -/
def sizedNumberWrong : ChangeSpec := { name := "sizedNumber", fn := fun _ => fun
  | [d1, d2, d3] => { results := [.lit (.bool false)], args := [d1, d2, d3] }
  | _ => none }
def SizedNumberWrongFalsely : Prop := sizedNumberRow.holds Try.pinned (OpenSpec.ofChange sizedNumberWrong)

/-- 'filigreelaw09.SizedParts': WHATEVER THE INPUT: true; the input reads as it did. -/
def sizedPartsSpec : ChangeSpec := { name := "sizedParts", fn := fun _ => fun
  | [d1, d2, d3] => { results := [.lit (.bool true)], args := [d1, d2, d3] }
  | _ => none }
def sizedPartsRow : OpenClaim := { program := "ytdiebjnjhgbklaa", sum := "e7868a23d1ba8446da5b4a42f7c140295d06d30ae5d13f2a80691cbc6aebdbd5", func := "filigree/filigreelaw09.SizedParts", spec := "sizedParts", unfollowed := true, recurses := true, loops := true, apart := false }
def SizedPartsSaid : Prop := sizedPartsRow.holds Try.pinned (OpenSpec.ofChange sizedPartsSpec)

/-- ITS FALSE NEIGHBOUR: 'it returns false'. Refute it at one input. -/
def sizedPartsWrong : ChangeSpec := { name := "sizedParts", fn := fun _ => fun
  | [d1, d2, d3] => { results := [.lit (.bool false)], args := [d1, d2, d3] }
  | _ => none }
def SizedPartsWrongFalsely : Prop := sizedPartsRow.holds Try.pinned (OpenSpec.ofChange sizedPartsWrong)

/-- 'filigreelaw09.SizedBehind': WHATEVER THE INPUT: true; the input reads as it did. -/
def sizedBehindSpec : ChangeSpec := { name := "sizedBehind", fn := fun _ => fun
  | [d1, d2, d3, d4] => { results := [.lit (.bool true)], args := [d1, d2, d3, d4] }
  | _ => none }
def sizedBehindRow : OpenClaim := { program := "ytdiebjnjhgbklaa", sum := "e7868a23d1ba8446da5b4a42f7c140295d06d30ae5d13f2a80691cbc6aebdbd5", func := "filigree/filigreelaw09.SizedBehind", spec := "sizedBehind", unfollowed := true, recurses := true, loops := true, apart := false }
def SizedBehindSaid : Prop := sizedBehindRow.holds Try.pinned (OpenSpec.ofChange sizedBehindSpec)

/-- ITS FALSE NEIGHBOUR: 'it returns false'. Refute it at one input. -/
def sizedBehindWrong : ChangeSpec := { name := "sizedBehind", fn := fun _ => fun
  | [d1, d2, d3, d4] => { results := [.lit (.bool false)], args := [d1, d2, d3, d4] }
  | _ => none }
def SizedBehindWrongFalsely : Prop := sizedBehindRow.holds Try.pinned (OpenSpec.ofChange sizedBehindWrong)

/-- 'filigreelaw09.SizedBit': WHATEVER THE INPUT: true; the input reads as it did. -/
def sizedBitSpec : ChangeSpec := { name := "sizedBit", fn := fun _ => fun
  | [d1, d2] => { results := [.lit (.bool true)], args := [d1, d2] }
  | _ => none }
def sizedBitRow : OpenClaim := { program := "ytdiebjnjhgbklaa", sum := "e7868a23d1ba8446da5b4a42f7c140295d06d30ae5d13f2a80691cbc6aebdbd5", func := "filigree/filigreelaw09.SizedBit", spec := "sizedBit", unfollowed := true, recurses := true, loops := true, apart := false }
def SizedBitSaid : Prop := sizedBitRow.holds Try.pinned (OpenSpec.ofChange sizedBitSpec)

/-- ITS FALSE NEIGHBOUR: 'it returns false'. Refute it at one input. -/
def sizedBitWrong : ChangeSpec := { name := "sizedBit", fn := fun _ => fun
  | [d1, d2] => { results := [.lit (.bool false)], args := [d1, d2] }
  | _ => none }
def SizedBitWrongFalsely : Prop := sizedBitRow.holds Try.pinned (OpenSpec.ofChange sizedBitWrong)

/-- 'filigreelaw09.SizedLess': WHATEVER THE INPUT: true; the input reads as it did. -/
def sizedLessSpec : ChangeSpec := { name := "sizedLess", fn := fun _ => fun
  | [d1, d2, d3] => { results := [.lit (.bool true)], args := [d1, d2, d3] }
  | _ => none }
def sizedLessRow : OpenClaim := { program := "ytdiebjnjhgbklaa", sum := "e7868a23d1ba8446da5b4a42f7c140295d06d30ae5d13f2a80691cbc6aebdbd5", func := "filigree/filigreelaw09.SizedLess", spec := "sizedLess", unfollowed := true, recurses := true, loops := true, apart := false }
def SizedLessSaid : Prop := sizedLessRow.holds Try.pinned (OpenSpec.ofChange sizedLessSpec)

/-- ITS FALSE NEIGHBOUR: 'it returns false'. Refute it at one input. -/
def sizedLessWrong : ChangeSpec := { name := "sizedLess", fn := fun _ => fun
  | [d1, d2, d3] => { results := [.lit (.bool false)], args := [d1, d2, d3] }
  | _ => none }
def SizedLessWrongFalsely : Prop := sizedLessRow.holds Try.pinned (OpenSpec.ofChange sizedLessWrong)

/- THE SECOND FORM. 'bulk': how many values and letters a reading holds, each counted each time it is reached (what is shared counts as often as it is met; a slice's spare places count too). A statement '..UptoSaid' is the law's where the arguments, and the package variables that the reading takes, are together of bulk at most 1048576: NARROWER than '..Said'. Prove '..Said' where nothing that the law and all that it calls make is longer than what came in: it says more and counts as full. Else prove '..UptoSaid'. A law counts once. -/
mutual
def uptoBulk {H : Type} : DataW H → Nat
  | .lit (.string bytes) => bytes.length + 1
  | .lit _ => 1
  | .nil => 1
  | .ptr d => uptoBulk d + 1
  | .slice elems spare => uptoBulkAll elems + uptoBulkAll spare + 1
  | .agg parts => uptoBulkAll parts + 1
  | .iface _ d => uptoBulk d + 1
  | .map entries => uptoBulkEntries entries + 1
  | .held _ => 1
def uptoBulkAll {H : Type} : List (DataW H) → Nat
  | [] => 0
  | d :: r => uptoBulk d + uptoBulkAll r
def uptoBulkEntries {H : Type} : List (Lit × DataW H) → Nat
  | [] => 0
  | x :: r => uptoBulkEntry x + uptoBulkEntries r
def uptoBulkEntry {H : Type} : Lit × DataW H → Nat
  | (.string bytes, d) => bytes.length + uptoBulk d + 1
  | (_, d) => uptoBulk d + 1
 end
def uptoSmall : (H : Type) → List (DataW H) → Bool := fun _ ds => decide (uptoBulkAll ds ≤ 1048576)
def OpenSpec.upto (s : _root_.Go.ChangeSpec) : _root_.Go.OpenSpec := { _root_.Go.OpenSpec.ofChange s with cond := some uptoSmall }

/-- 'filigreelaw09.SizedExpr', WHERE WHAT IT READS IS OF BULK AT MOST 1048576: true; the input reads as it did. -/
def sizedExprUptoRow : OpenClaim := { program := "ytdiebjnjhgbklaa", sum := "e7868a23d1ba8446da5b4a42f7c140295d06d30ae5d13f2a80691cbc6aebdbd5", func := "filigree/filigreelaw09.SizedExpr", spec := "sizedExpr", unfollowed := true, recurses := true, loops := true, apart := false, narrowed := true }
def SizedExprUptoSaid : Prop := sizedExprUptoRow.holds Try.pinned (OpenSpec.upto sizedExprSpec)

/-- 'filigreelaw09.SizedFlat', WHERE WHAT IT READS IS OF BULK AT MOST 1048576: true; the input reads as it did. -/
def sizedFlatUptoRow : OpenClaim := { program := "ytdiebjnjhgbklaa", sum := "e7868a23d1ba8446da5b4a42f7c140295d06d30ae5d13f2a80691cbc6aebdbd5", func := "filigree/filigreelaw09.SizedFlat", spec := "sizedFlat", unfollowed := true, recurses := true, loops := true, apart := false, narrowed := true }
def SizedFlatUptoSaid : Prop := sizedFlatUptoRow.holds Try.pinned (OpenSpec.upto sizedFlatSpec)

/-- 'filigreelaw09.SizedSame', WHERE WHAT IT READS IS OF BULK AT MOST 1048576: true; the input reads as it did. -/
def sizedSameUptoRow : OpenClaim := { program := "ytdiebjnjhgbklaa", sum := "e7868a23d1ba8446da5b4a42f7c140295d06d30ae5d13f2a80691cbc6aebdbd5", func := "filigree/filigreelaw09.SizedSame", spec := "sizedSame", unfollowed := true, recurses := true, loops := true, apart := false, narrowed := true }
def SizedSameUptoSaid : Prop := sizedSameUptoRow.holds Try.pinned (OpenSpec.upto sizedSameSpec)

/-- 'filigreelaw09.SizedOnce', WHERE WHAT IT READS IS OF BULK AT MOST 1048576: true; the input reads as it did. -/
def sizedOnceUptoRow : OpenClaim := { program := "ytdiebjnjhgbklaa", sum := "e7868a23d1ba8446da5b4a42f7c140295d06d30ae5d13f2a80691cbc6aebdbd5", func := "filigree/filigreelaw09.SizedOnce", spec := "sizedOnce", unfollowed := true, recurses := true, loops := true, apart := false, narrowed := true }
def SizedOnceUptoSaid : Prop := sizedOnceUptoRow.holds Try.pinned (OpenSpec.upto sizedOnceSpec)

/-- 'filigreelaw09.SizedWant', WHERE WHAT IT READS IS OF BULK AT MOST 1048576: true; the input reads as it did. -/
def sizedWantUptoRow : OpenClaim := { program := "ytdiebjnjhgbklaa", sum := "e7868a23d1ba8446da5b4a42f7c140295d06d30ae5d13f2a80691cbc6aebdbd5", func := "filigree/filigreelaw09.SizedWant", spec := "sizedWant", unfollowed := true, recurses := true, loops := true, apart := false, narrowed := true }
def SizedWantUptoSaid : Prop := sizedWantUptoRow.holds Try.pinned (OpenSpec.upto sizedWantSpec)

/-- 'filigreelaw09.SizedNumber', WHERE WHAT IT READS IS OF BULK AT MOST 1048576: true; the input reads as it did. -/
def sizedNumberUptoRow : OpenClaim := { program := "ytdiebjnjhgbklaa", sum := "e7868a23d1ba8446da5b4a42f7c140295d06d30ae5d13f2a80691cbc6aebdbd5", func := "filigree/filigreelaw09.SizedNumber", spec := "sizedNumber", unfollowed := true, recurses := true, apart := false, narrowed := true }
def SizedNumberUptoSaid : Prop := sizedNumberUptoRow.holds Try.pinned (OpenSpec.upto sizedNumberSpec)

/-- 'filigreelaw09.SizedParts', WHERE WHAT IT READS IS OF BULK AT MOST 1048576: true; the input reads as it did. -/
def sizedPartsUptoRow : OpenClaim := { program := "ytdiebjnjhgbklaa", sum := "e7868a23d1ba8446da5b4a42f7c140295d06d30ae5d13f2a80691cbc6aebdbd5", func := "filigree/filigreelaw09.SizedParts", spec := "sizedParts", unfollowed := true, recurses := true, loops := true, apart := false, narrowed := true }
def SizedPartsUptoSaid : Prop := sizedPartsUptoRow.holds Try.pinned (OpenSpec.upto sizedPartsSpec)

/-- 'filigreelaw09.SizedBehind', WHERE WHAT IT READS IS OF BULK AT MOST 1048576: true; the input reads as it did. -/
def sizedBehindUptoRow : OpenClaim := { program := "ytdiebjnjhgbklaa", sum := "e7868a23d1ba8446da5b4a42f7c140295d06d30ae5d13f2a80691cbc6aebdbd5", func := "filigree/filigreelaw09.SizedBehind", spec := "sizedBehind", unfollowed := true, recurses := true, loops := true, apart := false, narrowed := true }
def SizedBehindUptoSaid : Prop := sizedBehindUptoRow.holds Try.pinned (OpenSpec.upto sizedBehindSpec)

/-- 'filigreelaw09.SizedBit', WHERE WHAT IT READS IS OF BULK AT MOST 1048576: true; the input reads as it did. -/
def sizedBitUptoRow : OpenClaim := { program := "ytdiebjnjhgbklaa", sum := "e7868a23d1ba8446da5b4a42f7c140295d06d30ae5d13f2a80691cbc6aebdbd5", func := "filigree/filigreelaw09.SizedBit", spec := "sizedBit", unfollowed := true, recurses := true, loops := true, apart := false, narrowed := true }
def SizedBitUptoSaid : Prop := sizedBitUptoRow.holds Try.pinned (OpenSpec.upto sizedBitSpec)

/-- 'filigreelaw09.SizedLess', WHERE WHAT IT READS IS OF BULK AT MOST 1048576: true; the input reads as it did. -/
def sizedLessUptoRow : OpenClaim := { program := "ytdiebjnjhgbklaa", sum := "e7868a23d1ba8446da5b4a42f7c140295d06d30ae5d13f2a80691cbc6aebdbd5", func := "filigree/filigreelaw09.SizedLess", spec := "sizedLess", unfollowed := true, recurses := true, loops := true, apart := false, narrowed := true }
def SizedLessUptoSaid : Prop := sizedLessUptoRow.holds Try.pinned (OpenSpec.upto sizedLessSpec)

end Rows
end Go.Proofs.Ytdiebjnjhgbklaa
