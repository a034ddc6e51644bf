/- The bodies of the program's functions, as the abstraction layer has them. By program. -/
import Derived.Test.YtlgjokognnbhiaaAigC
namespace Go.Proofs.Ytlgjokognnbhiaa
open Abs
/-- (*filigree/aig.work).check [w:0, w:1, next:3, out:4, i:5, x:6] -/
def c59 : ACode :=
 .seq (.reg [⟨some 1, .box (.t 0), none⟩,
   ⟨some 2, .mov (.c (.int .i64 0)), none⟩])
 (.seq (.reg [⟨some 7, .mkfn 66 [] [(.t 1)], none⟩,
   ⟨some 3, .mov (.t 7), none⟩])
 (.seq (.reg [⟨some 8, .mkfn 67 [] [(.t 1)], none⟩,
   ⟨some 4, .mov (.t 8), none⟩])
 (.seq (.block 0 (.seq (.reg [⟨some 10, .load false 1 (.t 1), none⟩,
   ⟨some 11, .nilchk (.t 10), none⟩,
   ⟨some 12, .fldA 0 (.t 11), none⟩,
   ⟨some 13, .fldA 0 (.t 12), none⟩,
   ⟨some 14, .load false 1 (.t 13), none⟩,
   ⟨some 15, .bin .lss false (.t 14) (.c (.int .i64 0)), none⟩,
   ⟨some 9, .mov (.t 15), none⟩])
 (.cond (.t 9)
  (.seq (.reg [⟨some 2, .mov (.c (.int .i64 1)), none⟩])
  (.ret))
  (.seq (.seq (.reg [⟨some 17, .load false 1 (.t 1), none⟩,
    ⟨some 18, .nilchk (.t 17), none⟩,
    ⟨some 19, .fldA 0 (.t 18), none⟩,
    ⟨some 20, .fldA 0 (.t 19), none⟩,
    ⟨some 21, .load false 1 (.t 20), none⟩,
    ⟨some 22, .bin .gtr false (.t 21) (.c (.int .i64 65536)), none⟩,
    ⟨some 16, .mov (.t 22), none⟩])
  (.cond (.t 16)
   (.skip)
   (.seq (.reg [⟨some 23, .load false 1 (.t 1), none⟩,
     ⟨some 24, .call (.c (.fn 49 [] [])) [(.t 23)], none⟩,
     ⟨some 25, .bin .gtr false (.t 24) (.c (.int .i64 65536)), none⟩,
     ⟨some 16, .mov (.t 25), none⟩])
   (.cond (.t 16)
    (.skip)
    (.reg [⟨some 26, .load false 1 (.t 1), none⟩,
      ⟨some 27, .nilchk (.t 26), none⟩,
      ⟨some 28, .fldA 0 (.t 27), none⟩,
      ⟨some 29, .fldA 3 (.t 28), none⟩,
      ⟨some 30, .load false 1 (.t 29), none⟩,
      ⟨some 31, .len (.t 30), none⟩,
      ⟨some 32, .bin .gtr false (.t 31) (.c (.int .i64 65536)), none⟩,
      ⟨some 16, .mov (.t 32), none⟩])))))
  (.cond (.t 16)
   (.seq (.reg [⟨some 2, .mov (.c (.int .i64 2)), none⟩])
   (.ret))
   (.seq (.seq (.reg [⟨some 34, .load false 1 (.t 1), none⟩,
     ⟨some 35, .nilchk (.t 34), none⟩,
     ⟨some 36, .fldA 0 (.t 35), none⟩,
     ⟨some 37, .fldA 1 (.t 36), none⟩,
     ⟨some 38, .load false 1 (.t 37), none⟩,
     ⟨some 39, .mov (.t 3), none⟩,
     ⟨some 40, .call (.c (.fn 68 [] [])) [(.t 38), (.t 39)], none⟩,
     ⟨some 33, .mov (.t 40), none⟩])
   (.cond (.t 33)
    (.skip)
    (.reg [⟨some 41, .load false 1 (.t 1), none⟩,
      ⟨some 42, .nilchk (.t 41), none⟩,
      ⟨some 43, .fldA 0 (.t 42), none⟩,
      ⟨some 44, .fldA 3 (.t 43), none⟩,
      ⟨some 45, .load false 1 (.t 44), none⟩,
      ⟨some 46, .mov (.t 4), none⟩,
      ⟨some 47, .call (.c (.fn 69 [] [])) [(.t 45), (.t 46)], none⟩,
      ⟨some 33, .mov (.t 47), none⟩])))
   (.cond (.t 33)
    (.seq (.reg [⟨some 2, .mov (.c (.int .i64 1)), none⟩])
    (.ret))
    (.skip))))))))
 (.seq (.seq (.reg [⟨some 48, .load false 1 (.t 1), none⟩,
   ⟨some 49, .nilchk (.t 48), none⟩,
   ⟨some 50, .fldA 0 (.t 49), none⟩,
   ⟨some 51, .fldA 2 (.t 50), none⟩,
   ⟨some 52, .load false 1 (.t 51), none⟩,
   ⟨some 53, .len (.t 52), none⟩,
   ⟨some 54, .mov (.c (.int .i64 0)), none⟩])
 (.block 1 (.loop (.seq (.reg [⟨some 55, .bin .lss false (.t 54) (.t 53), none⟩])
  (.seq (.cond (.t 55)
   (.skip)
   (.exit 1))
  (.seq (.block 2 (.seq (.reg [⟨some 56, .mov (.t 54), none⟩,
    ⟨some 57, .idxS 2 (.t 52) (.t 54), none⟩,
    ⟨some 58, .load true 2 (.t 57), none⟩,
    ⟨some 6, .alloc [(.int .i64 0), (.int .i64 0)], none⟩,
    ⟨some 5, .mov (.t 56), none⟩,
    ⟨none, .store 2 (.t 6) (.t 58), none⟩])
  (.seq (.drw [⟨some 59, .idxR 1 2 (.t 6) (.c (.int .i64 0)), none⟩,
    ⟨some 60, .load false 1 (.t 59), none⟩,
    ⟨some 61, .idxR 1 2 (.t 6) (.c (.int .i64 1)), none⟩,
    ⟨some 62, .load false 1 (.t 61), none⟩,
    ⟨some 63, .min [(.t 60), (.t 62)], none⟩,
    ⟨some 64, .bin .lss false (.t 63) (.c (.int .i64 0)), none⟩,
    ⟨some 65, .mov (.t 64), none⟩,
    ⟨some 66, .idxR 1 2 (.t 6) (.c (.int .i64 0)), some (65, false)⟩,
    ⟨some 67, .load false 1 (.t 66), some (65, false)⟩,
    ⟨some 68, .idxR 1 2 (.t 6) (.c (.int .i64 1)), some (65, false)⟩,
    ⟨some 69, .load false 1 (.t 68), some (65, false)⟩,
    ⟨some 70, .max [(.t 67), (.t 69)], some (65, false)⟩,
    ⟨some 71, .load false 1 (.t 1), some (65, false)⟩,
    ⟨some 72, .call (.c (.fn 48 [] [])) [(.t 71)], some (65, false)⟩,
    ⟨some 73, .mov (.t 5), some (65, false)⟩,
    ⟨some 74, .bin .add false (.t 72) (.t 73), some (65, false)⟩,
    ⟨some 75, .bin .mul false (.c (.int .i64 2)) (.t 74), some (65, false)⟩,
    ⟨some 76, .bin .geq false (.t 70) (.t 75), some (65, false)⟩,
    ⟨some 77, .pick (.t 65) (.c (.bool true)) (.t 76), none⟩] [])
  (.cond (.t 77)
   (.seq (.reg [⟨some 2, .mov (.c (.int .i64 1)), none⟩])
   (.ret))
   (.skip)))))
  (.reg [⟨some 78, .bin .add false (.t 54) (.c (.int .i64 1)), none⟩,
    ⟨some 54, .mov (.t 78), none⟩])))))))
 (.seq (.reg [⟨some 2, .mov (.c (.int .i64 0)), none⟩])
 (.ret))))))
def r59 : List ARV := [.tmp 2]
theorem b59 : Try.f59.body.bind (tr Try.prog 79) = some c59.bare := by kernel_rfl
theorem q59 : trRes Try.prog Try.f59.results.toList = some r59 := by kernel_rfl
theorem n59 : (Try.f59.name == "runtime.NumGoroutine") = false := by kernel_rfl

/-- (*filigree/aig.work).lit [w:0, a:1, w:2, a:3] -/
def c60 : ACode :=
 .seq (.reg [⟨some 4, .mov (.c (.bool false)), none⟩])
 (.seq (.reg [⟨some 5, .mov (.t 1), none⟩,
   ⟨some 6, .bin .geq false (.t 5) (.c (.int .i64 0)), none⟩,
   ⟨some 7, .mov (.t 6), none⟩,
   ⟨some 8, .mov (.t 1), some (7, true)⟩,
   ⟨some 9, .bin .quo false (.t 8) (.c (.int .i64 2)), some (7, true)⟩,
   ⟨some 10, .mov (.t 0), some (7, true)⟩,
   ⟨some 11, .call (.c (.fn 49 [] [])) [(.t 10)], some (7, true)⟩,
   ⟨some 12, .bin .leq false (.t 9) (.t 11), some (7, true)⟩,
   ⟨some 13, .pick (.t 7) (.t 12) (.c (.bool false)), none⟩,
   ⟨some 4, .mov (.t 13), none⟩])
 (.ret))
def r60 : List ARV := [.tmp 4]
theorem b60 : Try.f60.body.bind (tr Try.prog 14) = some c60.bare := by kernel_rfl
theorem q60 : trRes Try.prog Try.f60.results.toList = some r60 := by kernel_rfl
theorem n60 : (Try.f60.name == "runtime.NumGoroutine") = false := by kernel_rfl

/-- slices.Grow[[]bool,bool] [s:0, n:1, s:2, n:3] -/
def c61 : ACode :=
 .seq (.reg [⟨some 4, .mov (.c (.slice [] .nil)), none⟩])
 (.seq (.seq (.reg [⟨some 5, .mov (.t 1), none⟩,
   ⟨some 6, .bin .lss false (.t 5) (.c (.int .i64 0)), none⟩])
 (.cond (.t 6)
  (.reg [⟨some 7, .mkiface 9 (.c (.str ⟨#[99, 97, 110, 110, 111, 116, 32, 98, 101, 32, 110, 101, 103, 97, 116, 105, 118, 101]⟩)), none⟩,
    ⟨none, .panic (.t 7), none⟩])
  (.skip)))
 (.seq (.seq (.reg [⟨some 8, .mov (.t 1), none⟩,
   ⟨some 9, .mov (.t 0), none⟩,
   ⟨some 10, .cap (.t 9), none⟩,
   ⟨some 11, .mov (.t 0), none⟩,
   ⟨some 12, .len (.t 11), none⟩,
   ⟨some 13, .bin .sub false (.t 10) (.t 12), none⟩,
   ⟨some 14, .bin .sub false (.t 8) (.t 13), none⟩,
   ⟨some 1, .mov (.t 14), none⟩])
 (.seq (.reg [⟨some 15, .mov (.t 1), none⟩,
   ⟨some 16, .bin .gtr false (.t 15) (.c (.int .i64 0)), none⟩])
 (.cond (.t 16)
  (.reg [⟨some 17, .mov (.t 0), none⟩,
    ⟨some 18, .mov (.t 0), none⟩,
    ⟨some 19, .cap (.t 18), none⟩,
    ⟨some 20, .slcN 1 (.t 17) none (some (.t 19)) none, none⟩,
    ⟨some 21, .mov (.t 1), none⟩,
    ⟨some 22, .appz 1 1 (.t 20) (.t 21), none⟩,
    ⟨some 23, .mov (.t 0), none⟩,
    ⟨some 24, .len (.t 23), none⟩,
    ⟨some 25, .slcR 1 (.t 22) none (some (.t 24)) none, none⟩,
    ⟨some 0, .mov (.t 25), none⟩])
  (.skip))))
 (.seq (.reg [⟨some 26, .mov (.t 0), none⟩,
   ⟨some 4, .mov (.t 26), none⟩])
 (.ret))))
def r61 : List ARV := [.tmp 4]
theorem b61 : Try.f61.body.bind (tr Try.prog 27) = some c61.bare := by kernel_rfl
theorem q61 : trRes Try.prog Try.f61.results.toList = some r61 := by kernel_rfl
theorem n61 : (Try.f61.name == "runtime.NumGoroutine") = false := by kernel_rfl

/-- slices.IndexFunc[[][2]int,[2]int] [s:0, f:1, s:2, f:3, i:5] -/
def c62 : ACode :=
 .seq (.reg [⟨some 4, .mov (.c (.int .i64 0)), none⟩])
 (.seq (.seq (.reg [⟨some 6, .mov (.t 0), none⟩,
   ⟨some 7, .len (.t 6), none⟩,
   ⟨some 8, .mov (.c (.int .i64 0)), none⟩])
 (.block 0 (.loop (.seq (.reg [⟨some 9, .bin .lss false (.t 8) (.t 7), none⟩])
  (.seq (.cond (.t 9)
   (.skip)
   (.exit 0))
  (.seq (.block 1 (.seq (.reg [⟨some 10, .mov (.t 8), none⟩,
    ⟨some 5, .mov (.t 10), none⟩])
  (.seq (.reg [⟨some 11, .mov (.t 1), none⟩,
    ⟨some 12, .mov (.t 0), none⟩,
    ⟨some 13, .mov (.t 5), none⟩,
    ⟨some 14, .idxS 2 (.t 12) (.t 13), none⟩,
    ⟨some 15, .load true 2 (.t 14), none⟩,
    ⟨some 16, .call (.t 11) [(.t 15)], none⟩])
  (.cond (.t 16)
   (.seq (.reg [⟨some 17, .mov (.t 5), none⟩,
     ⟨some 4, .mov (.t 17), none⟩])
   (.ret))
   (.skip)))))
  (.reg [⟨some 18, .bin .add false (.t 8) (.c (.int .i64 1)), none⟩,
    ⟨some 8, .mov (.t 18), none⟩])))))))
 (.seq (.reg [⟨some 4, .mov (.c (.int .i64 (-1))), none⟩])
 (.ret)))
def r62 : List ARV := [.tmp 4]
theorem b62 : Try.f62.body.bind (tr Try.prog 19) = some c62.bare := by kernel_rfl
theorem q62 : trRes Try.prog Try.f62.results.toList = some r62 := by kernel_rfl
theorem n62 : (Try.f62.name == "runtime.NumGoroutine") = false := by kernel_rfl

/-- (*filigree/aig.work).and$1 [x:0, x:3] -/
def c63 : ACode :=
 .seq (.reg [⟨some 3, .boxI (.t 0), none⟩,
   ⟨some 4, .mov (.c (.bool false)), none⟩])
 (.seq (.reg [⟨some 5, .idxR 1 2 (.t 3) (.c (.int .i64 0)), none⟩,
   ⟨some 6, .load false 1 (.t 5), none⟩,
   ⟨some 7, .idxR 1 2 (.t 3) (.c (.int .i64 1)), none⟩,
   ⟨some 8, .load false 1 (.t 7), none⟩,
   ⟨some 9, .min [(.t 6), (.t 8)], none⟩,
   ⟨some 10, .load false 1 (.t 1), none⟩,
   ⟨some 11, .bin .eql false (.t 9) (.t 10), none⟩,
   ⟨some 12, .mov (.t 11), none⟩,
   ⟨some 13, .idxR 1 2 (.t 3) (.c (.int .i64 0)), some (12, true)⟩,
   ⟨some 14, .load false 1 (.t 13), some (12, true)⟩,
   ⟨some 15, .idxR 1 2 (.t 3) (.c (.int .i64 1)), some (12, true)⟩,
   ⟨some 16, .load false 1 (.t 15), some (12, true)⟩,
   ⟨some 17, .max [(.t 14), (.t 16)], some (12, true)⟩,
   ⟨some 18, .load false 1 (.t 2), some (12, true)⟩,
   ⟨some 19, .bin .eql false (.t 17) (.t 18), some (12, true)⟩,
   ⟨some 20, .pick (.t 12) (.t 19) (.c (.bool false)), none⟩,
   ⟨some 4, .mov (.t 20), none⟩])
 (.ret))
def r63 : List ARV := [.tmp 4]
theorem b63 : Try.f63.body.bind (tr Try.prog 21) = some c63.bare := by kernel_rfl
theorem q63 : trRes Try.prog Try.f63.results.toList = some r63 := by kernel_rfl
theorem n63 : (Try.f63.name == "runtime.NumGoroutine") = false := by kernel_rfl

/-- slices.Clip[[][2]int,[2]int] [s:0, s:1] -/
def c64 : ACode :=
 .seq (.reg [⟨some 2, .mov (.c (.slice [] .nil)), none⟩])
 (.seq (.reg [⟨some 3, .mov (.t 0), none⟩,
   ⟨some 4, .mov (.t 0), none⟩,
   ⟨some 5, .len (.t 4), none⟩,
   ⟨some 6, .mov (.t 0), none⟩,
   ⟨some 7, .len (.t 6), none⟩,
   ⟨some 8, .slc 2 (.t 3) none (some (.t 5)) (some (.t 7)), none⟩,
   ⟨some 2, .mov (.t 8), none⟩])
 (.ret))
def r64 : List ARV := [.tmp 2]
theorem b64 : Try.f64.body.bind (tr Try.prog 9) = some c64.bare := by kernel_rfl
theorem q64 : trRes Try.prog Try.f64.results.toList = some r64 := by kernel_rfl
theorem n64 : (Try.f64.name == "runtime.NumGoroutine") = false := by kernel_rfl

/-- filigree/filigreeref18.gate [g:0, a:1, b:2, g:3, a:4, b:5, i:7, x:8] -/
def c65 : ACode :=
 .seq (.reg [⟨some 3, .boxI (.t 0), none⟩,
   ⟨some 6, .mov (.c (.int .i64 0)), none⟩])
 (.seq (.seq (.reg [⟨some 7, .mov (.c (.int .i64 0)), none⟩])
 (.block 0 (.loop (.seq (.seq (.reg [⟨some 9, .mov (.t 7), none⟩,
    ⟨some 10, .fldA 2 (.t 3), none⟩,
    ⟨some 11, .load false 1 (.t 10), none⟩,
    ⟨some 12, .len (.t 11), none⟩,
    ⟨some 13, .bin .lss false (.t 9) (.t 12), none⟩])
  (.cond (.t 13)
   (.skip)
   (.exit 0)))
  (.seq (.block 1 (.seq (.reg [⟨some 16, .fldA 2 (.t 3), none⟩,
    ⟨some 17, .load false 1 (.t 16), none⟩,
    ⟨some 18, .mov (.t 7), none⟩,
    ⟨some 19, .idxS 2 (.t 17) (.t 18), none⟩,
    ⟨some 20, .load true 2 (.t 19), none⟩,
    ⟨some 8, .alloc [(.int .i64 0), (.int .i64 0)], none⟩,
    ⟨none, .store 2 (.t 8) (.t 20), none⟩])
  (.seq (.reg [⟨some 21, .idxR 1 2 (.t 8) (.c (.int .i64 0)), none⟩,
    ⟨some 22, .load false 1 (.t 21), none⟩,
    ⟨some 23, .mov (.t 1), none⟩,
    ⟨some 24, .bin .eql false (.t 22) (.t 23), none⟩,
    ⟨some 25, .mov (.t 24), none⟩,
    ⟨some 26, .idxR 1 2 (.t 8) (.c (.int .i64 1)), some (25, true)⟩,
    ⟨some 27, .load false 1 (.t 26), some (25, true)⟩,
    ⟨some 28, .mov (.t 2), some (25, true)⟩,
    ⟨some 29, .bin .eql false (.t 27) (.t 28), some (25, true)⟩,
    ⟨some 30, .pick (.t 25) (.t 29) (.c (.bool false)), none⟩,
    ⟨some 31, .mov (.t 30), none⟩,
    ⟨some 32, .idxR 1 2 (.t 8) (.c (.int .i64 0)), some (31, false)⟩,
    ⟨some 33, .load false 1 (.t 32), some (31, false)⟩,
    ⟨some 34, .mov (.t 2), some (31, false)⟩,
    ⟨some 35, .bin .eql false (.t 33) (.t 34), some (31, false)⟩,
    ⟨some 36, .mov (.t 35), some (31, false)⟩,
    ⟨some 37, .idxR 1 2 (.t 8) (.c (.int .i64 1)), some (36, true)⟩,
    ⟨some 38, .load false 1 (.t 37), some (36, true)⟩,
    ⟨some 39, .mov (.t 1), some (36, true)⟩,
    ⟨some 40, .bin .eql false (.t 38) (.t 39), some (36, true)⟩,
    ⟨some 41, .pick (.t 36) (.t 40) (.c (.bool false)), some (31, false)⟩,
    ⟨some 42, .pick (.t 31) (.c (.bool true)) (.t 41), none⟩])
  (.cond (.t 42)
   (.seq (.reg [⟨some 43, .mov (.t 7), none⟩,
     ⟨some 6, .mov (.t 43), none⟩])
   (.ret))
   (.skip)))))
  (.reg [⟨some 14, .mov (.t 7), none⟩,
    ⟨some 15, .bin .add false (.t 14) (.c (.int .i64 1)), none⟩,
    ⟨some 7, .mov (.t 15), none⟩]))))))
 (.seq (.reg [⟨some 6, .mov (.c (.int .i64 (-1))), none⟩])
 (.ret)))
def r65 : List ARV := [.tmp 6]
theorem b65 : Try.f65.body.bind (tr Try.prog 44) = some c65.bare := by kernel_rfl
theorem q65 : trRes Try.prog Try.f65.results.toList = some r65 := by kernel_rfl
theorem n65 : (Try.f65.name == "runtime.NumGoroutine") = false := by kernel_rfl

/-- (*filigree/aig.work).check$1 [f:0, f:2] -/
def c66 : ACode :=
 .seq (.reg [⟨some 2, .boxI (.t 0), none⟩,
   ⟨some 3, .mov (.c (.bool false)), none⟩])
 (.seq (.reg [⟨some 4, .load false 1 (.t 1), none⟩,
   ⟨some 5, .fldA 0 (.t 2), none⟩,
   ⟨some 6, .load false 1 (.t 5), none⟩,
   ⟨some 7, .call (.c (.fn 60 [] [])) [(.t 4), (.t 6)], none⟩,
   ⟨some 8, .un .not (.t 7), none⟩,
   ⟨some 3, .mov (.t 8), none⟩])
 (.ret))
def r66 : List ARV := [.tmp 3]
theorem b66 : Try.f66.body.bind (tr Try.prog 9) = some c66.bare := by kernel_rfl
theorem q66 : trRes Try.prog Try.f66.results.toList = some r66 := by kernel_rfl
theorem n66 : (Try.f66.name == "runtime.NumGoroutine") = false := by kernel_rfl

/-- (*filigree/aig.work).check$2 [a:0, a:2] -/
def c67 : ACode :=
 .seq (.reg [⟨some 3, .mov (.c (.bool false)), none⟩])
 (.seq (.reg [⟨some 4, .load false 1 (.t 1), none⟩,
   ⟨some 5, .mov (.t 0), none⟩,
   ⟨some 6, .call (.c (.fn 60 [] [])) [(.t 4), (.t 5)], none⟩,
   ⟨some 7, .un .not (.t 6), none⟩,
   ⟨some 3, .mov (.t 7), none⟩])
 (.ret))
def r67 : List ARV := [.tmp 3]
theorem b67 : Try.f67.body.bind (tr Try.prog 8) = some c67.bare := by kernel_rfl
theorem q67 : trRes Try.prog Try.f67.results.toList = some r67 := by kernel_rfl
theorem n67 : (Try.f67.name == "runtime.NumGoroutine") = false := by kernel_rfl

/-- slices.ContainsFunc[[]filigree/api.Flop,filigree/api.Flop] [s:0, f:1, s:2, f:3] -/
def c68 : ACode :=
 .seq (.reg [⟨some 4, .mov (.c (.bool false)), none⟩])
 (.seq (.reg [⟨some 5, .mov (.t 0), none⟩,
   ⟨some 6, .mov (.t 1), none⟩,
   ⟨some 7, .call (.c (.fn 70 [] [])) [(.t 5), (.t 6)], none⟩,
   ⟨some 8, .bin .geq false (.t 7) (.c (.int .i64 0)), none⟩,
   ⟨some 4, .mov (.t 8), none⟩])
 (.ret))
def r68 : List ARV := [.tmp 4]
theorem b68 : Try.f68.body.bind (tr Try.prog 9) = some c68.bare := by kernel_rfl
theorem q68 : trRes Try.prog Try.f68.results.toList = some r68 := by kernel_rfl
theorem n68 : (Try.f68.name == "runtime.NumGoroutine") = false := by kernel_rfl

/-- slices.ContainsFunc[[]int,int] [s:0, f:1, s:2, f:3] -/
def c69 : ACode :=
 .seq (.reg [⟨some 4, .mov (.c (.bool false)), none⟩])
 (.seq (.reg [⟨some 5, .mov (.t 0), none⟩,
   ⟨some 6, .mov (.t 1), none⟩,
   ⟨some 7, .call (.c (.fn 71 [] [])) [(.t 5), (.t 6)], none⟩,
   ⟨some 8, .bin .geq false (.t 7) (.c (.int .i64 0)), none⟩,
   ⟨some 4, .mov (.t 8), none⟩])
 (.ret))
def r69 : List ARV := [.tmp 4]
theorem b69 : Try.f69.body.bind (tr Try.prog 9) = some c69.bare := by kernel_rfl
theorem q69 : trRes Try.prog Try.f69.results.toList = some r69 := by kernel_rfl
theorem n69 : (Try.f69.name == "runtime.NumGoroutine") = false := by kernel_rfl

/-- slices.IndexFunc[[]filigree/api.Flop,filigree/api.Flop] [s:0, f:1, s:2, f:3, i:5] -/
def c70 : ACode :=
 .seq (.reg [⟨some 4, .mov (.c (.int .i64 0)), none⟩])
 (.seq (.seq (.reg [⟨some 6, .mov (.t 0), none⟩,
   ⟨some 7, .len (.t 6), none⟩,
   ⟨some 8, .mov (.c (.int .i64 0)), none⟩])
 (.block 0 (.loop (.seq (.reg [⟨some 9, .bin .lss false (.t 8) (.t 7), none⟩])
  (.seq (.cond (.t 9)
   (.skip)
   (.exit 0))
  (.seq (.block 1 (.seq (.reg [⟨some 10, .mov (.t 8), none⟩,
    ⟨some 5, .mov (.t 10), none⟩])
  (.seq (.reg [⟨some 11, .mov (.t 1), none⟩,
    ⟨some 12, .mov (.t 0), none⟩,
    ⟨some 13, .mov (.t 5), none⟩,
    ⟨some 14, .idxS 2 (.t 12) (.t 13), none⟩,
    ⟨some 15, .load true 2 (.t 14), none⟩,
    ⟨some 16, .call (.t 11) [(.t 15)], none⟩])
  (.cond (.t 16)
   (.seq (.reg [⟨some 17, .mov (.t 5), none⟩,
     ⟨some 4, .mov (.t 17), none⟩])
   (.ret))
   (.skip)))))
  (.reg [⟨some 18, .bin .add false (.t 8) (.c (.int .i64 1)), none⟩,
    ⟨some 8, .mov (.t 18), none⟩])))))))
 (.seq (.reg [⟨some 4, .mov (.c (.int .i64 (-1))), none⟩])
 (.ret)))
def r70 : List ARV := [.tmp 4]
theorem b70 : Try.f70.body.bind (tr Try.prog 19) = some c70.bare := by kernel_rfl
theorem q70 : trRes Try.prog Try.f70.results.toList = some r70 := by kernel_rfl
theorem n70 : (Try.f70.name == "runtime.NumGoroutine") = false := by kernel_rfl

/-- slices.IndexFunc[[]int,int] [s:0, f:1, s:2, f:3, i:5] -/
def c71 : ACode :=
 .seq (.reg [⟨some 4, .mov (.c (.int .i64 0)), none⟩])
 (.seq (.seq (.reg [⟨some 6, .mov (.t 0), none⟩,
   ⟨some 7, .len (.t 6), none⟩,
   ⟨some 8, .mov (.c (.int .i64 0)), none⟩])
 (.block 0 (.loop (.seq (.reg [⟨some 9, .bin .lss false (.t 8) (.t 7), none⟩])
  (.seq (.cond (.t 9)
   (.skip)
   (.exit 0))
  (.seq (.block 1 (.seq (.reg [⟨some 10, .mov (.t 8), none⟩,
    ⟨some 5, .mov (.t 10), none⟩])
  (.seq (.reg [⟨some 11, .mov (.t 1), none⟩,
    ⟨some 12, .mov (.t 0), none⟩,
    ⟨some 13, .mov (.t 5), none⟩,
    ⟨some 14, .idxS 1 (.t 12) (.t 13), none⟩,
    ⟨some 15, .load false 1 (.t 14), none⟩,
    ⟨some 16, .call (.t 11) [(.t 15)], none⟩])
  (.cond (.t 16)
   (.seq (.reg [⟨some 17, .mov (.t 5), none⟩,
     ⟨some 4, .mov (.t 17), none⟩])
   (.ret))
   (.skip)))))
  (.reg [⟨some 18, .bin .add false (.t 8) (.c (.int .i64 1)), none⟩,
    ⟨some 8, .mov (.t 18), none⟩])))))))
 (.seq (.reg [⟨some 4, .mov (.c (.int .i64 (-1))), none⟩])
 (.ret)))
def r71 : List ARV := [.tmp 4]
theorem b71 : Try.f71.body.bind (tr Try.prog 19) = some c71.bare := by kernel_rfl
theorem q71 : trRes Try.prog Try.f71.results.toList = some r71 := by kernel_rfl
theorem n71 : (Try.f71.name == "runtime.NumGoroutine") = false := by kernel_rfl


end Go.Proofs.Ytlgjokognnbhiaa
