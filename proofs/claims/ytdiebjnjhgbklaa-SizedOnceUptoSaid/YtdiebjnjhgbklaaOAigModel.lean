/- The model of layer 18 (gates) in plain Lean. -/
import Derived.Test.YtdiebjnjhgbklaaOSizC
set_option linter.unusedSimpArgs false
set_option linter.unusedVariables false
namespace Go.Proofs.Ytdiebjnjhgbklaa
open Abs
def c56 : ACode :=
 .seq (.reg [⟨some 4, .mov (.c (.bool false)), none⟩])
 (.seq (.seq (.reg [⟨some 9, .mov (.t 0), none⟩,
   ⟨some 10, .len (.t 9), none⟩,
   ⟨some 11, .mov (.t 1), none⟩,
   ⟨some 12, .len (.t 11), none⟩,
   ⟨some 13, .bin .neq false (.t 10) (.t 12), none⟩])
 (.cond (.t 13)
  (.seq (.reg [⟨some 4, .mov (.c (.bool false)), none⟩])
  (.ret))
  (.skip)))
 (.seq (.seq (.reg [⟨some 5, .mov (.c (.int .i64 0)), none⟩])
 (.block 0 (.loop (.seq (.seq (.reg [⟨some 14, .mov (.t 5), none⟩,
    ⟨some 15, .mov (.t 0), none⟩,
    ⟨some 16, .len (.t 15), none⟩,
    ⟨some 17, .bin .lss false (.t 14) (.t 16), none⟩])
  (.cond (.t 17)
   (.skip)
   (.exit 0)))
  (.seq (.block 1 (.seq (.reg [⟨some 20, .mov (.t 0), none⟩,
    ⟨some 21, .mov (.t 5), none⟩,
    ⟨some 22, .idxS 6 (.t 20) (.t 21), none⟩,
    ⟨some 23, .load true 6 (.t 22), none⟩,
    ⟨some 6, .alloc [(.int .i64 0), (.int .i64 0), (.int .i64 0), (.int .i64 0), (.slice [] .nil), (.slice [] .nil)], none⟩,
    ⟨none, .store 6 (.t 6) (.t 23), none⟩])
  (.seq (.reg [⟨some 24, .mov (.t 1), none⟩,
    ⟨some 25, .mov (.t 5), none⟩,
    ⟨some 26, .idxS 6 (.t 24) (.t 25), none⟩,
    ⟨some 27, .load true 6 (.t 26), none⟩,
    ⟨some 7, .alloc [(.int .i64 0), (.int .i64 0), (.int .i64 0), (.int .i64 0), (.slice [] .nil), (.slice [] .nil)], none⟩,
    ⟨none, .store 6 (.t 7) (.t 27), none⟩])
  (.seq (.seq (.reg [⟨some 28, .fldA 0 (.t 6), none⟩,
    ⟨some 29, .load false 1 (.t 28), none⟩,
    ⟨some 30, .fldA 0 (.t 7), none⟩,
    ⟨some 31, .load false 1 (.t 30), none⟩,
    ⟨some 32, .bin .neq false (.t 29) (.t 31), none⟩,
    ⟨some 33, .mov (.t 32), none⟩,
    ⟨some 34, .fldA 1 (.t 6), some (33, false)⟩,
    ⟨some 35, .load false 1 (.t 34), some (33, false)⟩,
    ⟨some 36, .fldA 1 (.t 7), some (33, false)⟩,
    ⟨some 37, .load false 1 (.t 36), some (33, false)⟩,
    ⟨some 38, .bin .neq false (.t 35) (.t 37), some (33, false)⟩,
    ⟨some 39, .pick (.t 33) (.c (.bool true)) (.t 38), none⟩,
    ⟨some 40, .mov (.t 39), none⟩,
    ⟨some 41, .fldA 2 (.t 6), some (40, false)⟩,
    ⟨some 42, .load false 1 (.t 41), some (40, false)⟩,
    ⟨some 43, .fldA 2 (.t 7), some (40, false)⟩,
    ⟨some 44, .load false 1 (.t 43), some (40, false)⟩,
    ⟨some 45, .bin .neq false (.t 42) (.t 44), some (40, false)⟩,
    ⟨some 46, .pick (.t 40) (.c (.bool true)) (.t 45), none⟩,
    ⟨some 47, .mov (.t 46), none⟩,
    ⟨some 48, .fldA 3 (.t 6), some (47, false)⟩,
    ⟨some 49, .load false 1 (.t 48), some (47, false)⟩,
    ⟨some 50, .fldA 3 (.t 7), some (47, false)⟩,
    ⟨some 51, .load false 1 (.t 50), some (47, false)⟩,
    ⟨some 52, .bin .neq false (.t 49) (.t 51), some (47, false)⟩,
    ⟨some 53, .pick (.t 47) (.c (.bool true)) (.t 52), none⟩,
    ⟨some 54, .mov (.t 53), none⟩,
    ⟨some 55, .fldA 4 (.t 6), some (54, false)⟩,
    ⟨some 56, .load false 1 (.t 55), some (54, false)⟩,
    ⟨some 57, .len (.t 56), some (54, false)⟩,
    ⟨some 58, .fldA 4 (.t 7), some (54, false)⟩,
    ⟨some 59, .load false 1 (.t 58), some (54, false)⟩,
    ⟨some 60, .len (.t 59), some (54, false)⟩,
    ⟨some 61, .bin .neq false (.t 57) (.t 60), some (54, false)⟩,
    ⟨some 62, .pick (.t 54) (.c (.bool true)) (.t 61), none⟩,
    ⟨some 63, .mov (.t 62), none⟩,
    ⟨some 64, .fldA 5 (.t 6), some (63, false)⟩,
    ⟨some 65, .load false 1 (.t 64), some (63, false)⟩,
    ⟨some 66, .fldA 5 (.t 7), some (63, false)⟩,
    ⟨some 67, .load false 1 (.t 66), some (63, false)⟩,
    ⟨some 68, .call (.c (.fn 56 [] [])) [(.t 65), (.t 67)], some (63, false)⟩,
    ⟨some 69, .un .not (.t 68), some (63, false)⟩,
    ⟨some 70, .pick (.t 63) (.c (.bool true)) (.t 69), none⟩])
  (.cond (.t 70)
   (.seq (.reg [⟨some 4, .mov (.c (.bool false)), none⟩])
   (.ret))
   (.skip)))
  (.seq (.reg [⟨some 8, .mov (.c (.int .i64 0)), none⟩])
  (.block 2 (.loop (.seq (.seq (.reg [⟨some 71, .mov (.t 8), none⟩,
     ⟨some 72, .fldA 4 (.t 6), none⟩,
     ⟨some 73, .load false 1 (.t 72), none⟩,
     ⟨some 74, .len (.t 73), none⟩,
     ⟨some 75, .bin .lss false (.t 71) (.t 74), none⟩])
   (.cond (.t 75)
    (.skip)
    (.exit 2)))
   (.seq (.block 3 (.seq (.drw [⟨some 78, .fldA 4 (.t 6), none⟩,
     ⟨some 79, .load false 1 (.t 78), none⟩,
     ⟨some 80, .mov (.t 8), none⟩,
     ⟨some 81, .idxS 8 (.t 79) (.t 80), none⟩,
     ⟨some 82, .load true 8 (.t 81), none⟩,
     ⟨some 83, .fldA 4 (.t 7), none⟩,
     ⟨some 84, .load false 1 (.t 83), none⟩,
     ⟨some 85, .mov (.t 8), none⟩,
     ⟨some 86, .idxS 8 (.t 84) (.t 85), none⟩,
     ⟨some 87, .load true 8 (.t 86), none⟩,
     ⟨some 88, .call (.c (.fn 18 [] [])) [(.t 82), (.t 87)], none⟩,
     ⟨some 89, .un .not (.t 88), none⟩] [])
   (.cond (.t 89)
    (.seq (.reg [⟨some 4, .mov (.c (.bool false)), none⟩])
    (.ret))
    (.skip))))
   (.reg [⟨some 76, .mov (.t 8), none⟩,
     ⟨some 77, .bin .add false (.t 76) (.c (.int .i64 1)), none⟩,
     ⟨some 8, .mov (.t 77), none⟩]))))))))))
  (.reg [⟨some 18, .mov (.t 5), none⟩,
    ⟨some 19, .bin .add false (.t 18) (.c (.int .i64 1)), none⟩,
    ⟨some 5, .mov (.t 19), none⟩]))))))
 (.seq (.reg [⟨some 4, .mov (.c (.bool true)), none⟩])
 (.ret))))
def r56 : List ARV := [.tmp 4]
theorem b56 : Try.f56.body.bind (tr Try.prog 90) = some c56.bare := by kernel_rfl
theorem q56 : trRes Try.prog Try.f56.results.toList = some r56 := by kernel_rfl
theorem n56 : (Try.f56.name == "runtime.NumGoroutine") = false := by kernel_rfl

def c57 : ACode :=
 .seq (.reg [⟨some 2, .boxI (.t 0), none⟩,
   ⟨some 3, .boxI (.t 1), none⟩,
   ⟨some 4, .mov (.c (.bool false)), none⟩])
 (.seq (.reg [⟨some 5, .fldA 0 (.t 2), none⟩,
   ⟨some 6, .load false 1 (.t 5), none⟩,
   ⟨some 7, .fldA 0 (.t 3), none⟩,
   ⟨some 8, .load false 1 (.t 7), none⟩,
   ⟨some 9, .bin .eql true (.t 6) (.t 8), none⟩,
   ⟨some 10, .mov (.t 9), none⟩,
   ⟨some 11, .fldA 1 (.t 2), some (10, true)⟩,
   ⟨some 12, .load false 1 (.t 11), some (10, true)⟩,
   ⟨some 13, .fldA 1 (.t 3), some (10, true)⟩,
   ⟨some 14, .load false 1 (.t 13), some (10, true)⟩,
   ⟨some 15, .call (.c (.fn 58 [] [])) [(.t 12), (.t 14), (.c (.fn 59 [] []))], some (10, true)⟩,
   ⟨some 16, .pick (.t 10) (.t 15) (.c (.bool false)), none⟩,
   ⟨some 4, .mov (.t 16), none⟩])
 (.ret))
def r57 : List ARV := [.tmp 4]
theorem b57 : Try.f57.body.bind (tr Try.prog 17) = some c57.bare := by kernel_rfl
theorem q57 : trRes Try.prog Try.f57.results.toList = some r57 := by kernel_rfl
theorem n57 : (Try.f57.name == "runtime.NumGoroutine") = false := by kernel_rfl

def c58 : ACode :=
 .seq (.reg [⟨some 6, .mov (.c (.bool false)), none⟩])
 (.seq (.seq (.reg [⟨some 10, .mov (.t 0), none⟩,
   ⟨some 11, .len (.t 10), none⟩,
   ⟨some 12, .mov (.t 1), none⟩,
   ⟨some 13, .len (.t 12), none⟩,
   ⟨some 14, .bin .neq false (.t 11) (.t 13), none⟩])
 (.cond (.t 14)
  (.seq (.reg [⟨some 6, .mov (.c (.bool false)), none⟩])
  (.ret))
  (.skip)))
 (.seq (.seq (.reg [⟨some 15, .mov (.t 0), none⟩,
   ⟨some 16, .len (.t 15), none⟩,
   ⟨some 17, .mov (.c (.int .i64 0)), none⟩])
 (.block 0 (.loop (.seq (.reg [⟨some 18, .bin .lss false (.t 17) (.t 16), none⟩])
  (.seq (.cond (.t 18)
   (.skip)
   (.exit 0))
  (.seq (.block 1 (.seq (.reg [⟨some 19, .mov (.t 17), none⟩,
    ⟨some 20, .idxS 6 (.t 15) (.t 17), none⟩,
    ⟨some 21, .load true 6 (.t 20), none⟩,
    ⟨some 8, .alloc [(.int .i64 0), (.int .i64 0), (.int .i64 0), (.int .i64 0), (.slice [] .nil), (.slice [] .nil)], none⟩,
    ⟨some 7, .mov (.t 19), none⟩,
    ⟨none, .store 6 (.t 8) (.t 21), none⟩])
  (.seq (.reg [⟨some 22, .mov (.t 1), none⟩,
    ⟨some 23, .mov (.t 7), none⟩,
    ⟨some 24, .idxS 6 (.t 22) (.t 23), none⟩,
    ⟨some 25, .load true 6 (.t 24), none⟩,
    ⟨some 9, .alloc [(.int .i64 0), (.int .i64 0), (.int .i64 0), (.int .i64 0), (.slice [] .nil), (.slice [] .nil)], none⟩,
    ⟨none, .store 6 (.t 9) (.t 25), none⟩])
  (.seq (.reg [⟨some 26, .mov (.t 2), none⟩,
    ⟨some 27, .load true 6 (.t 8), none⟩,
    ⟨some 28, .load true 6 (.t 9), none⟩,
    ⟨some 29, .call (.t 26) [(.t 27), (.t 28)], none⟩,
    ⟨some 30, .un .not (.t 29), none⟩])
  (.cond (.t 30)
   (.seq (.reg [⟨some 6, .mov (.c (.bool false)), none⟩])
   (.ret))
   (.skip))))))
  (.reg [⟨some 31, .bin .add false (.t 17) (.c (.int .i64 1)), none⟩,
    ⟨some 17, .mov (.t 31), none⟩])))))))
 (.seq (.reg [⟨some 6, .mov (.c (.bool true)), none⟩])
 (.ret))))
def r58 : List ARV := [.tmp 6]
theorem b58 : Try.f58.body.bind (tr Try.prog 32) = some c58.bare := by kernel_rfl
theorem q58 : trRes Try.prog Try.f58.results.toList = some r58 := by kernel_rfl
theorem n58 : (Try.f58.name == "runtime.NumGoroutine") = false := by kernel_rfl

def c59 : ACode :=
 .seq (.reg [⟨some 2, .boxI (.t 0), none⟩,
   ⟨some 3, .boxI (.t 1), none⟩,
   ⟨some 4, .mov (.c (.bool false)), none⟩])
 (.seq (.reg [⟨some 5, .fldA 0 (.t 2), none⟩,
   ⟨some 6, .load false 1 (.t 5), none⟩,
   ⟨some 7, .fldA 0 (.t 3), none⟩,
   ⟨some 8, .load false 1 (.t 7), none⟩,
   ⟨some 9, .bin .eql false (.t 6) (.t 8), none⟩,
   ⟨some 10, .mov (.t 9), none⟩,
   ⟨some 11, .fldA 1 (.t 2), some (10, true)⟩,
   ⟨some 12, .load false 1 (.t 11), some (10, true)⟩,
   ⟨some 13, .fldA 1 (.t 3), some (10, true)⟩,
   ⟨some 14, .load false 1 (.t 13), some (10, true)⟩,
   ⟨some 15, .bin .eql false (.t 12) (.t 14), some (10, true)⟩,
   ⟨some 16, .pick (.t 10) (.t 15) (.c (.bool false)), none⟩,
   ⟨some 17, .mov (.t 16), none⟩,
   ⟨some 18, .fldA 2 (.t 2), some (17, true)⟩,
   ⟨some 19, .load false 1 (.t 18), some (17, true)⟩,
   ⟨some 20, .fldA 2 (.t 3), some (17, true)⟩,
   ⟨some 21, .load false 1 (.t 20), some (17, true)⟩,
   ⟨some 22, .bin .eql false (.t 19) (.t 21), some (17, true)⟩,
   ⟨some 23, .pick (.t 17) (.t 22) (.c (.bool false)), none⟩,
   ⟨some 24, .mov (.t 23), none⟩,
   ⟨some 25, .fldA 3 (.t 2), some (24, true)⟩,
   ⟨some 26, .load false 1 (.t 25), some (24, true)⟩,
   ⟨some 27, .fldA 3 (.t 3), some (24, true)⟩,
   ⟨some 28, .load false 1 (.t 27), some (24, true)⟩,
   ⟨some 29, .bin .eql false (.t 26) (.t 28), some (24, true)⟩,
   ⟨some 30, .pick (.t 24) (.t 29) (.c (.bool false)), none⟩,
   ⟨some 31, .mov (.t 30), none⟩,
   ⟨some 32, .fldA 4 (.t 2), some (31, true)⟩,
   ⟨some 33, .load false 1 (.t 32), some (31, true)⟩,
   ⟨some 34, .fldA 4 (.t 3), some (31, true)⟩,
   ⟨some 35, .load false 1 (.t 34), some (31, true)⟩,
   ⟨some 36, .call (.c (.fn 64 [] [])) [(.t 33), (.t 35), (.c (.fn 27 [] []))], some (31, true)⟩,
   ⟨some 37, .pick (.t 31) (.t 36) (.c (.bool false)), none⟩,
   ⟨some 38, .mov (.t 37), none⟩,
   ⟨some 39, .fldA 5 (.t 2), some (38, true)⟩,
   ⟨some 40, .load false 1 (.t 39), some (38, true)⟩,
   ⟨some 41, .fldA 5 (.t 3), some (38, true)⟩,
   ⟨some 42, .load false 1 (.t 41), some (38, true)⟩,
   ⟨some 43, .call (.c (.fn 58 [] [])) [(.t 40), (.t 42), (.c (.fn 59 [] []))], some (38, true)⟩,
   ⟨some 44, .pick (.t 38) (.t 43) (.c (.bool false)), none⟩,
   ⟨some 4, .mov (.t 44), none⟩])
 (.ret))
def r59 : List ARV := [.tmp 4]
theorem b59 : Try.f59.body.bind (tr Try.prog 45) = some c59.bare := by kernel_rfl
theorem q59 : trRes Try.prog Try.f59.results.toList = some r59 := by kernel_rfl
theorem n59 : (Try.f59.name == "runtime.NumGoroutine") = false := by kernel_rfl

def c60 : ACode :=
 .seq (.reg [⟨some 2, .boxI (.t 0), none⟩,
   ⟨some 3, .boxI (.t 1), none⟩,
   ⟨some 4, .mov (.c (.bool false)), none⟩])
 (.seq (.reg [⟨some 5, .fldA 0 (.t 2), none⟩,
   ⟨some 6, .load false 1 (.t 5), none⟩,
   ⟨some 7, .fldA 0 (.t 3), none⟩,
   ⟨some 8, .load false 1 (.t 7), none⟩,
   ⟨some 9, .bin .eql false (.t 6) (.t 8), none⟩,
   ⟨some 10, .mov (.t 9), none⟩,
   ⟨some 11, .fldA 1 (.t 2), some (10, true)⟩,
   ⟨some 12, .load true 8 (.t 11), some (10, true)⟩,
   ⟨some 13, .fldA 1 (.t 3), some (10, true)⟩,
   ⟨some 14, .load true 8 (.t 13), some (10, true)⟩,
   ⟨some 15, .call (.c (.fn 27 [] [])) [(.t 12), (.t 14)], some (10, true)⟩,
   ⟨some 16, .pick (.t 10) (.t 15) (.c (.bool false)), none⟩,
   ⟨some 4, .mov (.t 16), none⟩])
 (.ret))
def r60 : List ARV := [.tmp 4]
theorem b60 : Try.f60.body.bind (tr Try.prog 17) = some c60.bare := by kernel_rfl
theorem q60 : trRes Try.prog Try.f60.results.toList = some r60 := by kernel_rfl
theorem n60 : (Try.f60.name == "runtime.NumGoroutine") = false := by kernel_rfl

def c61 : ACode :=
 .seq (.reg [⟨some 4, .mov (.c (.bool false)), none⟩])
 (.seq (.seq (.reg [⟨some 6, .mov (.t 0), none⟩,
   ⟨some 7, .len (.t 6), none⟩,
   ⟨some 8, .mov (.t 1), none⟩,
   ⟨some 9, .len (.t 8), none⟩,
   ⟨some 10, .bin .neq false (.t 7) (.t 9), none⟩])
 (.cond (.t 10)
  (.seq (.reg [⟨some 4, .mov (.c (.bool false)), none⟩])
  (.ret))
  (.skip)))
 (.seq (.seq (.reg [⟨some 11, .mov (.t 0), none⟩,
   ⟨some 12, .len (.t 11), none⟩,
   ⟨some 13, .mov (.c (.int .i64 0)), none⟩])
 (.block 0 (.loop (.seq (.reg [⟨some 14, .bin .lss false (.t 13) (.t 12), none⟩])
  (.seq (.cond (.t 14)
   (.skip)
   (.exit 0))
  (.seq (.block 1 (.seq (.reg [⟨some 15, .mov (.t 13), none⟩,
    ⟨some 5, .mov (.t 15), none⟩])
  (.seq (.drw [⟨some 16, .mov (.t 0), none⟩,
    ⟨some 17, .mov (.t 5), none⟩,
    ⟨some 18, .idxS 4 (.t 16) (.t 17), none⟩,
    ⟨some 19, .load true 4 (.t 18), none⟩,
    ⟨some 20, .mov (.t 1), none⟩,
    ⟨some 21, .mov (.t 5), none⟩,
    ⟨some 22, .idxS 4 (.t 20) (.t 21), none⟩,
    ⟨some 23, .load true 4 (.t 22), none⟩,
    ⟨some 24, .eqs true [2, 0, 0, 0] (.t 19) (.t 23), none⟩] [])
  (.cond (.t 24)
   (.seq (.reg [⟨some 4, .mov (.c (.bool false)), none⟩])
   (.ret))
   (.skip)))))
  (.reg [⟨some 25, .bin .add false (.t 13) (.c (.int .i64 1)), none⟩,
    ⟨some 13, .mov (.t 25), none⟩])))))))
 (.seq (.reg [⟨some 4, .mov (.c (.bool true)), none⟩])
 (.ret))))
def r61 : List ARV := [.tmp 4]
theorem b61 : Try.f61.body.bind (tr Try.prog 26) = some c61.bare := by kernel_rfl
theorem q61 : trRes Try.prog Try.f61.results.toList = some r61 := by kernel_rfl
theorem n61 : (Try.f61.name == "runtime.NumGoroutine") = false := by kernel_rfl

def c62 : ACode :=
 .seq (.reg [⟨some 6, .mov (.c (.bool false)), none⟩])
 (.seq (.seq (.reg [⟨some 10, .mov (.t 0), none⟩,
   ⟨some 11, .len (.t 10), none⟩,
   ⟨some 12, .mov (.t 1), none⟩,
   ⟨some 13, .len (.t 12), none⟩,
   ⟨some 14, .bin .neq false (.t 11) (.t 13), none⟩])
 (.cond (.t 14)
  (.seq (.reg [⟨some 6, .mov (.c (.bool false)), none⟩])
  (.ret))
  (.skip)))
 (.seq (.seq (.reg [⟨some 15, .mov (.t 0), none⟩,
   ⟨some 16, .len (.t 15), none⟩,
   ⟨some 17, .mov (.c (.int .i64 0)), none⟩])
 (.block 0 (.loop (.seq (.reg [⟨some 18, .bin .lss false (.t 17) (.t 16), none⟩])
  (.seq (.cond (.t 18)
   (.skip)
   (.exit 0))
  (.seq (.block 1 (.seq (.reg [⟨some 19, .mov (.t 17), none⟩,
    ⟨some 20, .idxS 2 (.t 15) (.t 17), none⟩,
    ⟨some 21, .load true 2 (.t 20), none⟩,
    ⟨some 8, .alloc [(.bool false), (.slice [] .nil)], none⟩,
    ⟨some 7, .mov (.t 19), none⟩,
    ⟨none, .store 2 (.t 8) (.t 21), none⟩])
  (.seq (.reg [⟨some 22, .mov (.t 1), none⟩,
    ⟨some 23, .mov (.t 7), none⟩,
    ⟨some 24, .idxS 2 (.t 22) (.t 23), none⟩,
    ⟨some 25, .load true 2 (.t 24), none⟩,
    ⟨some 9, .alloc [(.bool false), (.slice [] .nil)], none⟩,
    ⟨none, .store 2 (.t 9) (.t 25), none⟩])
  (.seq (.reg [⟨some 26, .mov (.t 2), none⟩,
    ⟨some 27, .load true 2 (.t 8), none⟩,
    ⟨some 28, .load true 2 (.t 9), none⟩,
    ⟨some 29, .call (.t 26) [(.t 27), (.t 28)], none⟩,
    ⟨some 30, .un .not (.t 29), none⟩])
  (.cond (.t 30)
   (.seq (.reg [⟨some 6, .mov (.c (.bool false)), none⟩])
   (.ret))
   (.skip))))))
  (.reg [⟨some 31, .bin .add false (.t 17) (.c (.int .i64 1)), none⟩,
    ⟨some 17, .mov (.t 31), none⟩])))))))
 (.seq (.reg [⟨some 6, .mov (.c (.bool true)), none⟩])
 (.ret))))
def r62 : List ARV := [.tmp 6]
theorem b62 : Try.f62.body.bind (tr Try.prog 32) = some c62.bare := by kernel_rfl
theorem q62 : trRes Try.prog Try.f62.results.toList = some r62 := by kernel_rfl
theorem n62 : (Try.f62.name == "runtime.NumGoroutine") = false := by kernel_rfl

def c63 : ACode :=
 .seq (.reg [⟨some 6, .mov (.c (.bool false)), none⟩])
 (.seq (.seq (.reg [⟨some 10, .mov (.t 0), none⟩,
   ⟨some 11, .len (.t 10), none⟩,
   ⟨some 12, .mov (.t 1), none⟩,
   ⟨some 13, .len (.t 12), none⟩,
   ⟨some 14, .bin .neq false (.t 11) (.t 13), none⟩])
 (.cond (.t 14)
  (.seq (.reg [⟨some 6, .mov (.c (.bool false)), none⟩])
  (.ret))
  (.skip)))
 (.seq (.seq (.reg [⟨some 15, .mov (.t 0), none⟩,
   ⟨some 16, .len (.t 15), none⟩,
   ⟨some 17, .mov (.c (.int .i64 0)), none⟩])
 (.block 0 (.loop (.seq (.reg [⟨some 18, .bin .lss false (.t 17) (.t 16), none⟩])
  (.seq (.cond (.t 18)
   (.skip)
   (.exit 0))
  (.seq (.block 1 (.seq (.reg [⟨some 19, .mov (.t 17), none⟩,
    ⟨some 20, .idxS 9 (.t 15) (.t 17), none⟩,
    ⟨some 21, .load true 9 (.t 20), none⟩,
    ⟨some 8, .alloc [(.str ⟨#[]⟩), (.int .i64 0), (.int .i64 0), (.int .u64 0), (.int .i64 0), (.int .i64 0), (.int .i64 0), (.int .i64 0), (.slice [] .nil)], none⟩,
    ⟨some 7, .mov (.t 19), none⟩,
    ⟨none, .store 9 (.t 8) (.t 21), none⟩])
  (.seq (.reg [⟨some 22, .mov (.t 1), none⟩,
    ⟨some 23, .mov (.t 7), none⟩,
    ⟨some 24, .idxS 9 (.t 22) (.t 23), none⟩,
    ⟨some 25, .load true 9 (.t 24), none⟩,
    ⟨some 9, .alloc [(.str ⟨#[]⟩), (.int .i64 0), (.int .i64 0), (.int .u64 0), (.int .i64 0), (.int .i64 0), (.int .i64 0), (.int .i64 0), (.slice [] .nil)], none⟩,
    ⟨none, .store 9 (.t 9) (.t 25), none⟩])
  (.seq (.reg [⟨some 26, .mov (.t 2), none⟩,
    ⟨some 27, .load true 9 (.t 8), none⟩,
    ⟨some 28, .load true 9 (.t 9), none⟩,
    ⟨some 29, .call (.t 26) [(.t 27), (.t 28)], none⟩,
    ⟨some 30, .un .not (.t 29), none⟩])
  (.cond (.t 30)
   (.seq (.reg [⟨some 6, .mov (.c (.bool false)), none⟩])
   (.ret))
   (.skip))))))
  (.reg [⟨some 31, .bin .add false (.t 17) (.c (.int .i64 1)), none⟩,
    ⟨some 17, .mov (.t 31), none⟩])))))))
 (.seq (.reg [⟨some 6, .mov (.c (.bool true)), none⟩])
 (.ret))))
def r63 : List ARV := [.tmp 6]
theorem b63 : Try.f63.body.bind (tr Try.prog 32) = some c63.bare := by kernel_rfl
theorem q63 : trRes Try.prog Try.f63.results.toList = some r63 := by kernel_rfl
theorem n63 : (Try.f63.name == "runtime.NumGoroutine") = false := by kernel_rfl

def c64 : ACode :=
 .seq (.reg [⟨some 6, .mov (.c (.bool false)), none⟩])
 (.seq (.seq (.reg [⟨some 10, .mov (.t 0), none⟩,
   ⟨some 11, .len (.t 10), none⟩,
   ⟨some 12, .mov (.t 1), none⟩,
   ⟨some 13, .len (.t 12), none⟩,
   ⟨some 14, .bin .neq false (.t 11) (.t 13), none⟩])
 (.cond (.t 14)
  (.seq (.reg [⟨some 6, .mov (.c (.bool false)), none⟩])
  (.ret))
  (.skip)))
 (.seq (.seq (.reg [⟨some 15, .mov (.t 0), none⟩,
   ⟨some 16, .len (.t 15), none⟩,
   ⟨some 17, .mov (.c (.int .i64 0)), none⟩])
 (.block 0 (.loop (.seq (.reg [⟨some 18, .bin .lss false (.t 17) (.t 16), none⟩])
  (.seq (.cond (.t 18)
   (.skip)
   (.exit 0))
  (.seq (.block 1 (.seq (.reg [⟨some 19, .mov (.t 17), none⟩,
    ⟨some 20, .idxS 8 (.t 15) (.t 17), none⟩,
    ⟨some 21, .load true 8 (.t 20), none⟩,
    ⟨some 8, .alloc [(.int .i64 0), (.int .i64 0), (.int .u64 0), (.int .i64 0), (.int .i64 0), (.int .i64 0), (.int .i64 0), (.slice [] .nil)], none⟩,
    ⟨some 7, .mov (.t 19), none⟩,
    ⟨none, .store 8 (.t 8) (.t 21), none⟩])
  (.seq (.reg [⟨some 22, .mov (.t 1), none⟩,
    ⟨some 23, .mov (.t 7), none⟩,
    ⟨some 24, .idxS 8 (.t 22) (.t 23), none⟩,
    ⟨some 25, .load true 8 (.t 24), none⟩,
    ⟨some 9, .alloc [(.int .i64 0), (.int .i64 0), (.int .u64 0), (.int .i64 0), (.int .i64 0), (.int .i64 0), (.int .i64 0), (.slice [] .nil)], none⟩,
    ⟨none, .store 8 (.t 9) (.t 25), none⟩])
  (.seq (.reg [⟨some 26, .mov (.t 2), none⟩,
    ⟨some 27, .load true 8 (.t 8), none⟩,
    ⟨some 28, .load true 8 (.t 9), none⟩,
    ⟨some 29, .call (.t 26) [(.t 27), (.t 28)], none⟩,
    ⟨some 30, .un .not (.t 29), none⟩])
  (.cond (.t 30)
   (.seq (.reg [⟨some 6, .mov (.c (.bool false)), none⟩])
   (.ret))
   (.skip))))))
  (.reg [⟨some 31, .bin .add false (.t 17) (.c (.int .i64 1)), none⟩,
    ⟨some 17, .mov (.t 31), none⟩])))))))
 (.seq (.reg [⟨some 6, .mov (.c (.bool true)), none⟩])
 (.ret))))
def r64 : List ARV := [.tmp 6]
theorem b64 : Try.f64.body.bind (tr Try.prog 32) = some c64.bare := by kernel_rfl
theorem q64 : trRes Try.prog Try.f64.results.toList = some r64 := by kernel_rfl
theorem n64 : (Try.f64.name == "runtime.NumGoroutine") = false := by kernel_rfl

def c65 : ACode :=
 .seq (.reg [⟨some 2, .mov (.c (.int .i64 0)), none⟩])
 (.seq (.reg [⟨some 3, .mov (.c (.int .i64 0)), none⟩])
 (.seq (.seq (.reg [⟨some 4, .mov (.c (.int .i64 0)), none⟩])
 (.block 0 (.loop (.seq (.seq (.reg [⟨some 6, .mov (.t 4), none⟩,
    ⟨some 7, .mov (.t 0), none⟩,
    ⟨some 8, .len (.t 7), none⟩,
    ⟨some 9, .bin .lss false (.t 6) (.t 8), none⟩])
  (.cond (.t 9)
   (.skip)
   (.exit 0)))
  (.seq (.block 1 (.seq (.reg [⟨some 12, .mov (.t 3), none⟩,
    ⟨some 13, .bin .add false (.t 12) (.c (.int .i64 1)), none⟩,
    ⟨some 14, .mov (.t 0), none⟩,
    ⟨some 15, .mov (.t 4), none⟩,
    ⟨some 16, .idxS 6 (.t 14) (.t 15), none⟩,
    ⟨some 17, .fldA 5 (.t 16), none⟩,
    ⟨some 18, .load false 1 (.t 17), none⟩,
    ⟨some 19, .call (.c (.fn 65 [] [])) [(.t 18)], none⟩,
    ⟨some 20, .bin .add false (.t 13) (.t 19), none⟩,
    ⟨some 3, .mov (.t 20), none⟩])
  (.seq (.reg [⟨some 5, .mov (.c (.int .i64 0)), none⟩])
  (.block 2 (.loop (.seq (.seq (.reg [⟨some 21, .mov (.t 5), none⟩,
     ⟨some 22, .mov (.t 0), none⟩,
     ⟨some 23, .mov (.t 4), none⟩,
     ⟨some 24, .idxS 6 (.t 22) (.t 23), none⟩,
     ⟨some 25, .fldA 4 (.t 24), none⟩,
     ⟨some 26, .load false 1 (.t 25), none⟩,
     ⟨some 27, .len (.t 26), none⟩,
     ⟨some 28, .bin .lss false (.t 21) (.t 27), none⟩])
   (.cond (.t 28)
    (.skip)
    (.exit 2)))
   (.seq (.block 3 (.reg [⟨some 31, .mov (.t 3), none⟩,
     ⟨some 32, .mov (.t 0), none⟩,
     ⟨some 33, .mov (.t 4), none⟩,
     ⟨some 34, .idxS 6 (.t 32) (.t 33), none⟩,
     ⟨some 35, .fldA 4 (.t 34), none⟩,
     ⟨some 36, .load false 1 (.t 35), none⟩,
     ⟨some 37, .mov (.t 5), none⟩,
     ⟨some 38, .idxS 8 (.t 36) (.t 37), none⟩,
     ⟨some 39, .load true 8 (.t 38), none⟩,
     ⟨some 40, .call (.c (.fn 33 [] [])) [(.t 39)], none⟩,
     ⟨some 41, .bin .add false (.t 31) (.t 40), none⟩,
     ⟨some 3, .mov (.t 41), none⟩]))
   (.reg [⟨some 29, .mov (.t 5), none⟩,
     ⟨some 30, .bin .add false (.t 29) (.c (.int .i64 1)), none⟩,
     ⟨some 5, .mov (.t 30), none⟩]))))))))
  (.reg [⟨some 10, .mov (.t 4), none⟩,
    ⟨some 11, .bin .add false (.t 10) (.c (.int .i64 1)), none⟩,
    ⟨some 4, .mov (.t 11), none⟩]))))))
 (.seq (.reg [⟨some 42, .mov (.t 3), none⟩,
   ⟨some 2, .mov (.t 42), none⟩])
 (.ret))))
def r65 : List ARV := [.tmp 2]
theorem b65 : Try.f65.body.bind (tr Try.prog 43) = some c65.bare := by kernel_rfl
theorem q65 : trRes Try.prog Try.f65.results.toList = some r65 := by kernel_rfl
theorem n65 : (Try.f65.name == "runtime.NumGoroutine") = false := by kernel_rfl

def c66 : ACode :=
 .seq (.reg [⟨some 2, .mov (.c (.int .i64 0)), none⟩])
 (.seq (.reg [⟨some 3, .mov (.c (.int .i64 0)), none⟩])
 (.seq (.seq (.reg [⟨some 4, .mov (.c (.int .i64 0)), none⟩])
 (.block 0 (.loop (.seq (.seq (.reg [⟨some 6, .mov (.t 4), none⟩,
    ⟨some 7, .mov (.t 0), none⟩,
    ⟨some 8, .len (.t 7), none⟩,
    ⟨some 9, .bin .lss false (.t 6) (.t 8), none⟩])
  (.cond (.t 9)
   (.skip)
   (.exit 0)))
  (.seq (.block 1 (.seq (.reg [⟨some 12, .mov (.t 3), none⟩,
    ⟨some 13, .mov (.t 0), none⟩,
    ⟨some 14, .mov (.t 4), none⟩,
    ⟨some 15, .idxS 6 (.t 13) (.t 14), none⟩,
    ⟨some 16, .fldA 5 (.t 15), none⟩,
    ⟨some 17, .load false 1 (.t 16), none⟩,
    ⟨some 18, .call (.c (.fn 66 [] [])) [(.t 17)], none⟩,
    ⟨some 19, .bin .add false (.c (.int .i64 1)) (.t 18), none⟩,
    ⟨some 20, .max [(.t 12), (.t 19)], none⟩,
    ⟨some 3, .mov (.t 20), none⟩])
  (.seq (.reg [⟨some 5, .mov (.c (.int .i64 0)), none⟩])
  (.block 2 (.loop (.seq (.seq (.reg [⟨some 21, .mov (.t 5), none⟩,
     ⟨some 22, .mov (.t 0), none⟩,
     ⟨some 23, .mov (.t 4), none⟩,
     ⟨some 24, .idxS 6 (.t 22) (.t 23), none⟩,
     ⟨some 25, .fldA 4 (.t 24), none⟩,
     ⟨some 26, .load false 1 (.t 25), none⟩,
     ⟨some 27, .len (.t 26), none⟩,
     ⟨some 28, .bin .lss false (.t 21) (.t 27), none⟩])
   (.cond (.t 28)
    (.skip)
    (.exit 2)))
   (.seq (.block 3 (.reg [⟨some 31, .mov (.t 3), none⟩,
     ⟨some 32, .mov (.t 0), none⟩,
     ⟨some 33, .mov (.t 4), none⟩,
     ⟨some 34, .idxS 6 (.t 32) (.t 33), none⟩,
     ⟨some 35, .fldA 4 (.t 34), none⟩,
     ⟨some 36, .load false 1 (.t 35), none⟩,
     ⟨some 37, .mov (.t 5), none⟩,
     ⟨some 38, .idxS 8 (.t 36) (.t 37), none⟩,
     ⟨some 39, .load true 8 (.t 38), none⟩,
     ⟨some 40, .call (.c (.fn 30 [] [])) [(.t 39)], none⟩,
     ⟨some 41, .bin .add false (.c (.int .i64 1)) (.t 40), none⟩,
     ⟨some 42, .max [(.t 31), (.t 41)], none⟩,
     ⟨some 3, .mov (.t 42), none⟩]))
   (.reg [⟨some 29, .mov (.t 5), none⟩,
     ⟨some 30, .bin .add false (.t 29) (.c (.int .i64 1)), none⟩,
     ⟨some 5, .mov (.t 30), none⟩]))))))))
  (.reg [⟨some 10, .mov (.t 4), none⟩,
    ⟨some 11, .bin .add false (.t 10) (.c (.int .i64 1)), none⟩,
    ⟨some 4, .mov (.t 11), none⟩]))))))
 (.seq (.reg [⟨some 43, .mov (.t 3), none⟩,
   ⟨some 2, .mov (.t 43), none⟩])
 (.ret))))
def r66 : List ARV := [.tmp 2]
theorem b66 : Try.f66.body.bind (tr Try.prog 44) = some c66.bare := by kernel_rfl
theorem q66 : trRes Try.prog Try.f66.results.toList = some r66 := by kernel_rfl
theorem n66 : (Try.f66.name == "runtime.NumGoroutine") = false := by kernel_rfl

def c67 : ACode :=
 .seq (.reg [⟨some 8, .mov (.c (.bool false)), none⟩])
 (.seq (.reg [⟨some 9, .mov (.t 1), none⟩,
   ⟨some 10, .bin .geq false (.t 9) (.c (.int .i64 0)), none⟩,
   ⟨some 11, .mov (.t 10), none⟩,
   ⟨some 12, .mov (.t 1), some (11, true)⟩,
   ⟨some 13, .mov (.t 0), some (11, true)⟩,
   ⟨some 14, .len (.t 13), some (11, true)⟩,
   ⟨some 15, .bin .lss false (.t 12) (.t 14), some (11, true)⟩,
   ⟨some 16, .pick (.t 11) (.t 15) (.c (.bool false)), none⟩,
   ⟨some 17, .mov (.t 16), none⟩,
   ⟨some 18, .mov (.t 3), some (17, true)⟩,
   ⟨some 19, .bin .geq false (.t 18) (.c (.int .i64 0)), some (17, true)⟩,
   ⟨some 20, .pick (.t 17) (.t 19) (.c (.bool false)), none⟩,
   ⟨some 21, .mov (.t 20), none⟩,
   ⟨some 22, .mov (.t 3), some (21, true)⟩,
   ⟨some 23, .mov (.t 2), some (21, true)⟩,
   ⟨some 24, .bin .leq false (.t 22) (.t 23), some (21, true)⟩,
   ⟨some 25, .pick (.t 21) (.t 24) (.c (.bool false)), none⟩,
   ⟨some 26, .mov (.t 25), none⟩,
   ⟨some 27, .mov (.t 2), some (26, true)⟩,
   ⟨some 28, .mov (.t 0), some (26, true)⟩,
   ⟨some 29, .mov (.t 1), some (26, true)⟩,
   ⟨some 30, .idxS 4 (.t 28) (.t 29), some (26, true)⟩,
   ⟨some 31, .fldA 1 (.t 30), some (26, true)⟩,
   ⟨some 32, .load false 1 (.t 31), some (26, true)⟩,
   ⟨some 33, .bin .lss false (.t 27) (.t 32), some (26, true)⟩,
   ⟨some 34, .pick (.t 26) (.t 33) (.c (.bool false)), none⟩,
   ⟨some 8, .mov (.t 34), none⟩])
 (.ret))
def r67 : List ARV := [.tmp 8]
theorem b67 : Try.f67.body.bind (tr Try.prog 35) = some c67.bare := by kernel_rfl
theorem q67 : trRes Try.prog Try.f67.results.toList = some r67 := by kernel_rfl
theorem n67 : (Try.f67.name == "runtime.NumGoroutine") = false := by kernel_rfl

def c68 : ACode :=
 .seq (.reg [⟨some 4, .mov (.c (.bool false)), none⟩])
 (.seq (.reg [⟨some 5, .mov (.t 0), none⟩,
   ⟨some 6, .mov (.t 1), none⟩,
   ⟨some 7, .call (.c (.fn 95 [] [])) [(.t 5), (.t 6)], none⟩,
   ⟨some 8, .bin .geq false (.t 7) (.c (.int .i64 0)), none⟩,
   ⟨some 4, .mov (.t 8), none⟩])
 (.ret))
def r68 : List ARV := [.tmp 4]
theorem b68 : Try.f68.body.bind (tr Try.prog 9) = some c68.bare := by kernel_rfl
theorem q68 : trRes Try.prog Try.f68.results.toList = some r68 := by kernel_rfl
theorem n68 : (Try.f68.name == "runtime.NumGoroutine") = false := by kernel_rfl

def c69 : ACode :=
 .seq (.reg [⟨some 2, .boxI (.t 0), none⟩,
   ⟨some 3, .mov (.c (.bool false)), none⟩])
 (.seq (.reg [⟨some 4, .load false 1 (.t 1), none⟩,
   ⟨some 5, .load true 8 (.t 2), none⟩,
   ⟨some 6, .call (.c (.fn 36 [] [])) [(.t 4), (.t 5)], none⟩,
   ⟨some 7, .un .not (.t 6), none⟩,
   ⟨some 3, .mov (.t 7), none⟩])
 (.ret))
def r69 : List ARV := [.tmp 3]
theorem b69 : Try.f69.body.bind (tr Try.prog 8) = some c69.bare := by kernel_rfl
theorem q69 : trRes Try.prog Try.f69.results.toList = some r69 := by kernel_rfl
theorem n69 : (Try.f69.name == "runtime.NumGoroutine") = false := by kernel_rfl

def c70 : ACode :=
 .seq (.reg [⟨some 3, .boxI (.t 1), none⟩])
 (.seq (.drw [⟨some 4, .mov (.t 0), none⟩,
   ⟨some 5, .nilchk (.t 4), none⟩,
   ⟨some 6, .fldA 0 (.t 5), none⟩,
   ⟨some 7, .load false 1 (.t 6), none⟩,
   ⟨some 8, .fldA 0 (.t 3), none⟩,
   ⟨some 9, .load false 1 (.t 8), none⟩,
   ⟨some 10, .bin .add false (.t 7) (.t 9), none⟩,
   ⟨some 11, .nilchk (.t 4), none⟩,
   ⟨some 12, .fldA 0 (.t 11), none⟩,
   ⟨none, .store 1 (.t 12) (.t 10), none⟩] [])
 (.drw [⟨some 13, .mov (.t 0), none⟩,
   ⟨some 14, .mov (.t 0), none⟩,
   ⟨some 15, .nilchk (.t 14), none⟩,
   ⟨some 16, .fldA 1 (.t 15), none⟩,
   ⟨some 17, .load false 1 (.t 16), none⟩,
   ⟨some 18, .fldA 1 (.t 3), none⟩,
   ⟨some 19, .load false 1 (.t 18), none⟩,
   ⟨some 20, .max [(.t 17), (.t 19)], none⟩,
   ⟨some 21, .nilchk (.t 13), none⟩,
   ⟨some 22, .fldA 1 (.t 21), none⟩,
   ⟨none, .store 1 (.t 22) (.t 20), none⟩] []))
def r70 : List ARV := []
theorem b70 : Try.f70.body.bind (tr Try.prog 23) = some c70.bare := by kernel_rfl
theorem q70 : trRes Try.prog Try.f70.results.toList = some r70 := by kernel_rfl
theorem n70 : (Try.f70.name == "runtime.NumGoroutine") = false := by kernel_rfl

def c71 : ACode :=
 .seq (.reg [⟨some 1, .boxI (.t 0), none⟩,
   ⟨some 2, .alloc [(.int .i64 0), (.int .i64 0)], none⟩])
 (.seq (.reg [⟨some 3, .fldA 0 (.t 1), none⟩,
   ⟨some 4, .load false 1 (.t 3), none⟩,
   ⟨some 5, .bin .add false (.t 4) (.c (.int .i64 1)), none⟩,
   ⟨some 6, .fldA 1 (.t 1), none⟩,
   ⟨some 7, .load false 1 (.t 6), none⟩,
   ⟨some 8, .bin .add false (.t 7) (.c (.int .i64 1)), none⟩,
   ⟨some 9, .build [(.int .i64 0), (.int .i64 0)] [(0, 1, (.t 5)), (1, 1, (.t 8))], none⟩,
   ⟨none, .store 2 (.t 2) (.t 9), none⟩])
 (.ret))
def r71 : List ARV := [.cell 2 true 2]
theorem b71 : Try.f71.body.bind (tr Try.prog 10) = some c71.bare := by kernel_rfl
theorem q71 : trRes Try.prog Try.f71.results.toList = some r71 := by kernel_rfl
theorem n71 : (Try.f71.name == "runtime.NumGoroutine") = false := by kernel_rfl

def c72 : ACode :=
 .seq (.reg [⟨some 1, .boxI (.t 0), none⟩,
   ⟨some 2, .mov (.c (.int .i64 0)), none⟩])
 (.seq (.seq (.reg [⟨some 7, .fldA 0 (.t 1), none⟩,
   ⟨some 8, .load false 1 (.t 7), none⟩])
 (.block 0 (.seq (.seq (.reg [⟨some 10, .bin .eql false (.t 8) (.c (.int .i64 1)), none⟩,
   ⟨some 9, .mov (.t 10), none⟩])
 (.cond (.t 9)
  (.skip)
  (.reg [⟨some 11, .bin .eql false (.t 8) (.c (.int .i64 8)), none⟩,
    ⟨some 9, .mov (.t 11), none⟩])))
 (.cond (.t 9)
  (.seq (.reg [⟨some 12, .fldA 1 (.t 1), none⟩,
    ⟨some 13, .load false 1 (.t 12), none⟩,
    ⟨some 2, .mov (.t 13), none⟩])
  (.ret))
  (.seq (.reg [⟨some 15, .bin .eql false (.t 8) (.c (.int .i64 2)), none⟩,
    ⟨some 14, .mov (.t 15), none⟩])
  (.cond (.t 14)
   (.seq (.reg [⟨some 16, .fldA 4 (.t 1), none⟩,
     ⟨some 17, .load false 1 (.t 16), none⟩,
     ⟨some 18, .fldA 5 (.t 1), none⟩,
     ⟨some 19, .load false 1 (.t 18), none⟩,
     ⟨some 20, .bin .sub false (.t 17) (.t 19), none⟩,
     ⟨some 21, .bin .add false (.t 20) (.c (.int .i64 1)), none⟩,
     ⟨some 2, .mov (.t 21), none⟩])
   (.ret))
   (.seq (.reg [⟨some 23, .bin .eql false (.t 8) (.c (.int .i64 7)), none⟩,
     ⟨some 22, .mov (.t 23), none⟩])
   (.cond (.t 22)
    (.seq (.reg [⟨some 3, .mov (.c (.int .i64 0)), none⟩])
    (.seq (.seq (.reg [⟨some 24, .fldA 7 (.t 1), none⟩,
      ⟨some 25, .load false 1 (.t 24), none⟩,
      ⟨some 26, .len (.t 25), none⟩,
      ⟨some 27, .mov (.c (.int .i64 0)), none⟩])
    (.block 1 (.loop (.seq (.reg [⟨some 28, .bin .lss false (.t 27) (.t 26), none⟩])
     (.seq (.cond (.t 28)
      (.skip)
      (.exit 1))
     (.seq (.block 2 (.seq (.reg [⟨some 29, .idxS 8 (.t 25) (.t 27), none⟩,
       ⟨some 30, .load true 8 (.t 29), none⟩,
       ⟨some 5, .alloc [(.int .i64 0), (.int .i64 0), (.int .u64 0), (.int .i64 0), (.int .i64 0), (.int .i64 0), (.int .i64 0), (.slice [] .nil)], none⟩,
       ⟨none, .store 8 (.t 5) (.t 30), none⟩])
     (.seq (.reg [⟨some 31, .load true 8 (.t 5), none⟩,
       ⟨some 32, .call (.c (.fn 72 [] [])) [(.t 31)], none⟩,
       ⟨some 6, .mov (.t 32), none⟩])
     (.seq (.seq (.reg [⟨some 33, .mov (.t 6), none⟩,
       ⟨some 34, .bin .eql false (.t 33) (.c (.int .i64 0)), none⟩])
     (.cond (.t 34)
      (.seq (.reg [⟨some 2, .mov (.c (.int .i64 0)), none⟩])
      (.ret))
      (.skip)))
     (.reg [⟨some 35, .mov (.t 3), none⟩,
       ⟨some 36, .mov (.t 6), none⟩,
       ⟨some 37, .bin .add false (.t 35) (.t 36), none⟩,
       ⟨some 3, .mov (.t 37), none⟩])))))
     (.reg [⟨some 38, .bin .add false (.t 27) (.c (.int .i64 1)), none⟩,
       ⟨some 27, .mov (.t 38), none⟩])))))))
    (.seq (.reg [⟨some 39, .mov (.t 3), none⟩,
      ⟨some 2, .mov (.t 39), none⟩])
    (.ret))))
    (.seq (.reg [⟨some 41, .bin .eql false (.t 8) (.c (.int .i64 6)), none⟩,
      ⟨some 40, .mov (.t 41), none⟩])
    (.cond (.t 40)
     (.seq (.reg [⟨some 42, .fldA 7 (.t 1), none⟩,
       ⟨some 43, .load false 1 (.t 42), none⟩,
       ⟨some 44, .slc 8 (.t 43) (some (.c (.int .i64 1))) none none, none⟩,
       ⟨some 45, .call (.c (.fn 96 [] [])) [(.t 44)], none⟩,
       ⟨some 2, .mov (.t 45), none⟩])
     (.ret))
     (.seq (.reg [⟨some 47, .bin .eql false (.t 8) (.c (.int .i64 4)), none⟩,
       ⟨some 46, .mov (.t 47), none⟩])
     (.cond (.t 46)
      (.seq (.reg [⟨some 48, .fldA 6 (.t 1), none⟩,
        ⟨some 49, .load false 1 (.t 48), none⟩,
        ⟨some 50, .bin .leq false (.t 49) (.c (.int .i64 2)), none⟩])
      (.cond (.t 50)
       (.seq (.reg [⟨some 51, .fldA 7 (.t 1), none⟩,
         ⟨some 52, .load false 1 (.t 51), none⟩,
         ⟨some 53, .idxS 8 (.t 52) (.c (.int .i64 0)), none⟩,
         ⟨some 54, .load true 8 (.t 53), none⟩,
         ⟨some 55, .call (.c (.fn 72 [] [])) [(.t 54)], none⟩,
         ⟨some 2, .mov (.t 55), none⟩])
       (.ret))
       (.skip)))
      (.seq (.reg [⟨some 57, .bin .eql false (.t 8) (.c (.int .i64 5)), none⟩,
        ⟨some 56, .mov (.t 57), none⟩])
      (.cond (.t 56)
       (.seq (.seq (.reg [⟨some 58, .fldA 6 (.t 1), none⟩,
         ⟨some 59, .load false 1 (.t 58), none⟩,
         ⟨some 60, .bin .leq false (.t 59) (.c (.int .i64 16)), none⟩])
       (.cond (.t 60)
        (.seq (.reg [⟨some 61, .fldA 7 (.t 1), none⟩,
          ⟨some 62, .load false 1 (.t 61), none⟩,
          ⟨some 63, .call (.c (.fn 96 [] [])) [(.t 62)], none⟩,
          ⟨some 2, .mov (.t 63), none⟩])
        (.ret))
        (.skip)))
       (.seq (.reg [⟨some 64, .fldA 6 (.t 1), none⟩,
         ⟨some 65, .load false 1 (.t 64), none⟩,
         ⟨some 66, .bin .leq false (.t 65) (.c (.int .i64 18)), none⟩])
       (.cond (.t 66)
        (.seq (.reg [⟨some 67, .fldA 7 (.t 1), none⟩,
          ⟨some 68, .load false 1 (.t 67), none⟩,
          ⟨some 69, .idxS 8 (.t 68) (.c (.int .i64 0)), none⟩,
          ⟨some 70, .load true 8 (.t 69), none⟩,
          ⟨some 71, .call (.c (.fn 72 [] [])) [(.t 70)], none⟩,
          ⟨some 2, .mov (.t 71), none⟩])
        (.ret))
        (.skip))))
       (.skip)))))))))))))))
 (.seq (.reg [⟨some 2, .mov (.c (.int .i64 1)), none⟩])
 (.ret)))
def r72 : List ARV := [.tmp 2]
theorem b72 : Try.f72.body.bind (tr Try.prog 72) = some c72.bare := by kernel_rfl
theorem q72 : trRes Try.prog Try.f72.results.toList = some r72 := by kernel_rfl
theorem n72 : (Try.f72.name == "runtime.NumGoroutine") = false := by kernel_rfl

def c73 : ACode :=
 .seq (.reg [⟨some 4, .mov (.c (.int .i64 0)), none⟩])
 (.seq (.seq (.reg [⟨some 5, .mov (.t 0), none⟩,
   ⟨some 6, .bin .eql false (.t 5) (.c (.int .i64 0)), none⟩])
 (.cond (.t 6)
  (.seq (.reg [⟨some 7, .mov (.t 1), none⟩,
    ⟨some 4, .mov (.t 7), none⟩])
  (.ret))
  (.skip)))
 (.seq (.reg [⟨some 8, .mov (.t 0), none⟩,
   ⟨some 4, .mov (.t 8), none⟩])
 (.ret)))
def r73 : List ARV := [.tmp 4]
theorem b73 : Try.f73.body.bind (tr Try.prog 9) = some c73.bare := by kernel_rfl
theorem q73 : trRes Try.prog Try.f73.results.toList = some r73 := by kernel_rfl
theorem n73 : (Try.f73.name == "runtime.NumGoroutine") = false := by kernel_rfl

def c74 : ACode :=
 .seq (.reg [⟨some 2, .boxI (.t 0), none⟩,
   ⟨some 4, .mov (.c (.slice [] .nil)), none⟩,
   ⟨some 5, .mov (.c (.int .i64 0)), none⟩])
 (.seq (.reg [⟨some 9, .fldA 7 (.t 2), none⟩,
   ⟨some 10, .load false 1 (.t 9), none⟩,
   ⟨some 11, .len (.t 10), none⟩,
   ⟨some 12, .ext (.vmake 1 8 [(.int .i64 0)] false (.t 11) (.t 11)), none⟩,
   ⟨some 6, .alloc [(.slice [] .nil)], none⟩,
   ⟨none, .store 1 (.t 6) (.t 12), none⟩])
 (.seq (.reg [⟨some 13, .mkfn 97 [] [(.t 6)], none⟩,
   ⟨some 7, .mov (.t 13), none⟩])
 (.seq (.seq (.reg [⟨some 14, .fldA 0 (.t 2), none⟩,
   ⟨some 15, .load false 1 (.t 14), none⟩])
 (.block 0 (.seq (.reg [⟨some 21, .bin .eql false (.t 15) (.c (.int .i64 6)), none⟩,
   ⟨some 20, .mov (.t 21), none⟩])
 (.cond (.t 20)
  (.seq (.reg [⟨some 22, .mov (.t 7), none⟩,
    ⟨some 23, .mov (.t 1), none⟩,
    ⟨some 24, .call (.t 22) [(.t 23)], none⟩])
  (.reg [⟨some 25, .load false 1 (.t 6), none⟩,
    ⟨some 26, .idxS 1 (.t 25) (.c (.int .i64 0)), none⟩,
    ⟨none, .store 1 (.t 26) (.c (.int .i64 (-1))), none⟩]))
  (.seq (.reg [⟨some 28, .bin .eql false (.t 15) (.c (.int .i64 7)), none⟩,
    ⟨some 27, .mov (.t 28), none⟩])
  (.cond (.t 27)
   (.seq (.reg [⟨some 29, .load true 8 (.t 2), none⟩,
     ⟨some 30, .call (.c (.fn 72 [] [])) [(.t 29)], none⟩,
     ⟨some 8, .mov (.t 30), none⟩])
   (.seq (.reg [⟨some 31, .mov (.t 8), none⟩,
     ⟨some 32, .bin .eql false (.t 31) (.c (.int .i64 0)), none⟩,
     ⟨some 33, .mov (.t 32), none⟩,
     ⟨some 34, .mov (.t 8), some (33, false)⟩,
     ⟨some 35, .mov (.t 1), some (33, false)⟩,
     ⟨some 36, .bin .neq false (.t 34) (.t 35), some (33, false)⟩,
     ⟨some 37, .pick (.t 33) (.c (.bool true)) (.t 36), none⟩,
     ⟨some 38, .mov (.t 37), none⟩,
     ⟨some 39, .mov (.t 8), some (38, false)⟩,
     ⟨some 40, .bin .gtr false (.t 39) (.c (.int .i64 64)), some (38, false)⟩,
     ⟨some 41, .pick (.t 38) (.c (.bool true)) (.t 40), none⟩])
   (.cond (.t 41)
    (.seq (.reg [⟨some 4, .mov (.c (.slice [] .nil)), none⟩,
      ⟨some 5, .mov (.c (.int .i64 90)), none⟩])
    (.ret))
    (.skip))))
   (.seq (.seq (.reg [⟨some 43, .bin .eql false (.t 15) (.c (.int .i64 4)), none⟩,
     ⟨some 42, .mov (.t 43), none⟩])
   (.cond (.t 42)
    (.skip)
    (.reg [⟨some 44, .bin .eql false (.t 15) (.c (.int .i64 5)), none⟩,
      ⟨some 42, .mov (.t 44), none⟩])))
   (.cond (.t 42)
    (.seq (.reg [⟨some 45, .fldA 6 (.t 2), none⟩,
      ⟨some 46, .load false 1 (.t 45), none⟩])
    (.block 1 (.seq (.block 6 (.seq (.block 5 (.seq (.block 4 (.seq (.block 3 (.seq (.block 2 (.seq (.seq (.seq (.seq (.reg [⟨some 48, .bin .eql false (.t 46) (.c (.int .i64 6)), none⟩,
      ⟨some 47, .mov (.t 48), none⟩])
    (.cond (.t 47)
     (.skip)
     (.seq (.reg [⟨some 49, .bin .eql false (.t 46) (.c (.int .i64 25)), none⟩,
       ⟨some 47, .mov (.t 49), none⟩])
     (.cond (.t 47)
      (.skip)
      (.reg [⟨some 50, .bin .eql false (.t 46) (.c (.int .i64 26)), none⟩,
        ⟨some 47, .mov (.t 50), none⟩])))))
    (.cond (.t 47)
     (.exit 2)
     (.skip)))
    (.seq (.seq (.seq (.reg [⟨some 52, .bin .eql false (.t 46) (.c (.int .i64 3)), none⟩,
      ⟨some 51, .mov (.t 52), none⟩])
    (.cond (.t 51)
     (.skip)
     (.seq (.reg [⟨some 53, .bin .eql false (.t 46) (.c (.int .i64 4)), none⟩,
       ⟨some 51, .mov (.t 53), none⟩])
     (.cond (.t 51)
      (.skip)
      (.reg [⟨some 54, .bin .eql false (.t 46) (.c (.int .i64 5)), none⟩,
        ⟨some 51, .mov (.t 54), none⟩])))))
    (.cond (.t 51)
     (.exit 3)
     (.skip)))
    (.seq (.seq (.seq (.reg [⟨some 56, .bin .eql false (.t 46) (.c (.int .i64 19)), none⟩,
      ⟨some 55, .mov (.t 56), none⟩])
    (.cond (.t 55)
     (.skip)
     (.seq (.reg [⟨some 57, .bin .eql false (.t 46) (.c (.int .i64 20)), none⟩,
       ⟨some 55, .mov (.t 57), none⟩])
     (.cond (.t 55)
      (.skip)
      (.seq (.reg [⟨some 58, .bin .eql false (.t 46) (.c (.int .i64 21)), none⟩,
        ⟨some 55, .mov (.t 58), none⟩])
      (.cond (.t 55)
       (.skip)
       (.seq (.reg [⟨some 59, .bin .eql false (.t 46) (.c (.int .i64 22)), none⟩,
         ⟨some 55, .mov (.t 59), none⟩])
       (.cond (.t 55)
        (.skip)
        (.seq (.reg [⟨some 60, .bin .eql false (.t 46) (.c (.int .i64 23)), none⟩,
          ⟨some 55, .mov (.t 60), none⟩])
        (.cond (.t 55)
         (.skip)
         (.reg [⟨some 61, .bin .eql false (.t 46) (.c (.int .i64 24)), none⟩,
           ⟨some 55, .mov (.t 61), none⟩])))))))))))
    (.cond (.t 55)
     (.exit 4)
     (.skip)))
    (.seq (.seq (.reg [⟨some 63, .bin .eql false (.t 46) (.c (.int .i64 17)), none⟩,
      ⟨some 62, .mov (.t 63), none⟩])
    (.cond (.t 62)
     (.skip)
     (.reg [⟨some 64, .bin .eql false (.t 46) (.c (.int .i64 18)), none⟩,
       ⟨some 62, .mov (.t 64), none⟩])))
    (.cond (.t 62)
     (.exit 5)
     (.skip))))))
    (.exit 6)))
    (.reg [⟨some 65, .mov (.t 7), none⟩,
      ⟨some 66, .call (.t 65) [(.c (.int .i64 (-1)))], none⟩])))
    (.seq (.seq (.reg [⟨some 67, .mov (.t 1), none⟩,
      ⟨some 68, .bin .neq false (.t 67) (.c (.int .i64 1)), none⟩])
    (.cond (.t 68)
     (.seq (.reg [⟨some 4, .mov (.c (.slice [] .nil)), none⟩,
       ⟨some 5, .mov (.c (.int .i64 90)), none⟩])
     (.ret))
     (.skip)))
    (.exit 1))))
    (.seq (.seq (.seq (.reg [⟨some 69, .mov (.t 1), none⟩,
      ⟨some 70, .bin .neq false (.t 69) (.c (.int .i64 1)), none⟩])
    (.cond (.t 70)
     (.seq (.reg [⟨some 4, .mov (.c (.slice [] .nil)), none⟩,
       ⟨some 5, .mov (.c (.int .i64 90)), none⟩])
     (.ret))
     (.skip)))
    (.reg [⟨some 71, .mov (.t 7), none⟩,
      ⟨some 72, .fldA 7 (.t 2), none⟩,
      ⟨some 73, .load false 1 (.t 72), none⟩,
      ⟨some 74, .call (.c (.fn 96 [] [])) [(.t 73)], none⟩,
      ⟨some 75, .call (.c (.fn 73 [] [])) [(.t 74), (.c (.int .i64 32))], none⟩,
      ⟨some 76, .call (.t 71) [(.t 75)], none⟩]))
    (.exit 1))))
    (.seq (.reg [⟨some 77, .load false 1 (.t 6), none⟩,
      ⟨some 78, .mov (.t 1), none⟩,
      ⟨some 79, .idxS 1 (.t 77) (.c (.int .i64 0)), none⟩,
      ⟨none, .store 1 (.t 79) (.t 78), none⟩])
    (.exit 1))))
    (.seq (.reg [⟨some 80, .mov (.t 7), none⟩,
      ⟨some 81, .mov (.t 1), none⟩,
      ⟨some 82, .call (.t 80) [(.t 81)], none⟩])
    (.exit 1)))))
    (.seq (.reg [⟨some 16, .load true 8 (.t 2), none⟩,
      ⟨some 17, .call (.c (.fn 72 [] [])) [(.t 16)], none⟩,
      ⟨some 18, .mov (.t 1), none⟩,
      ⟨some 19, .bin .neq false (.t 17) (.t 18), none⟩])
    (.cond (.t 19)
     (.seq (.reg [⟨some 4, .mov (.c (.slice [] .nil)), none⟩,
       ⟨some 5, .mov (.c (.int .i64 90)), none⟩])
     (.ret))
     (.skip)))))))))))
 (.seq (.reg [⟨some 83, .load false 1 (.t 6), none⟩,
   ⟨some 4, .mov (.t 83), none⟩,
   ⟨some 5, .mov (.c (.int .i64 0)), none⟩])
 (.ret)))))
def r74 : List ARV := [.tmp 4, .tmp 5]
theorem b74 : Try.f74.body.bind (tr Try.prog 84) = some c74.bare := by kernel_rfl
theorem q74 : trRes Try.prog Try.f74.results.toList = some r74 := by kernel_rfl
theorem n74 : (Try.f74.name == "runtime.NumGoroutine") = false := by kernel_rfl

def c83 : ACode :=
 .seq (.reg [⟨some 1, .boxI (.t 0), none⟩,
   ⟨some 2, .alloc [(.int .i64 0), (.int .i64 0)], none⟩])
 (.seq (.reg [⟨some 3, .alloc [(.int .i64 0), (.int .i64 0)], none⟩])
 (.seq (.seq (.reg [⟨some 8, .fldA 4 (.t 1), none⟩,
   ⟨some 9, .load false 1 (.t 8), none⟩,
   ⟨some 10, .len (.t 9), none⟩,
   ⟨some 11, .mov (.c (.int .i64 0)), none⟩])
 (.block 0 (.loop (.seq (.reg [⟨some 12, .bin .lss false (.t 11) (.t 10), none⟩])
  (.seq (.cond (.t 12)
   (.skip)
   (.exit 0))
  (.seq (.block 1 (.seq (.reg [⟨some 13, .idxS 8 (.t 9) (.t 11), none⟩,
    ⟨some 14, .load true 8 (.t 13), none⟩,
    ⟨some 5, .alloc [(.int .i64 0), (.int .i64 0), (.int .u64 0), (.int .i64 0), (.int .i64 0), (.int .i64 0), (.int .i64 0), (.slice [] .nil)], none⟩,
    ⟨none, .store 8 (.t 5) (.t 14), none⟩])
  (.reg [⟨some 15, .load true 8 (.t 5), none⟩,
    ⟨some 16, .call (.c (.fn 37 [] [])) [(.t 15)], none⟩,
    ⟨some 17, .call (.c (.fn 70 [] [])) [(.t 3), (.t 16)], none⟩])))
  (.reg [⟨some 18, .bin .add false (.t 11) (.c (.int .i64 1)), none⟩,
    ⟨some 11, .mov (.t 18), none⟩])))))))
 (.seq (.seq (.reg [⟨some 19, .fldA 5 (.t 1), none⟩,
   ⟨some 20, .load false 1 (.t 19), none⟩,
   ⟨some 21, .len (.t 20), none⟩,
   ⟨some 22, .mov (.c (.int .i64 0)), none⟩])
 (.block 2 (.loop (.seq (.reg [⟨some 23, .bin .lss false (.t 22) (.t 21), none⟩])
  (.seq (.cond (.t 23)
   (.skip)
   (.exit 2))
  (.seq (.block 3 (.seq (.reg [⟨some 24, .idxS 6 (.t 20) (.t 22), none⟩,
    ⟨some 25, .load true 6 (.t 24), none⟩,
    ⟨some 7, .alloc [(.int .i64 0), (.int .i64 0), (.int .i64 0), (.int .i64 0), (.slice [] .nil), (.slice [] .nil)], none⟩,
    ⟨none, .store 6 (.t 7) (.t 25), none⟩])
  (.reg [⟨some 26, .load true 6 (.t 7), none⟩,
    ⟨some 27, .call (.c (.fn 83 [] [])) [(.t 26)], none⟩,
    ⟨some 28, .call (.c (.fn 70 [] [])) [(.t 3), (.t 27)], none⟩])))
  (.reg [⟨some 29, .bin .add false (.t 22) (.c (.int .i64 1)), none⟩,
    ⟨some 22, .mov (.t 29), none⟩])))))))
 (.seq (.reg [⟨some 30, .load true 2 (.t 3), none⟩,
   ⟨some 31, .call (.c (.fn 71 [] [])) [(.t 30)], none⟩,
   ⟨none, .store 2 (.t 2) (.t 31), none⟩])
 (.ret)))))
def r83 : List ARV := [.cell 2 true 2]
theorem b83 : Try.f83.body.bind (tr Try.prog 32) = some c83.bare := by kernel_rfl
theorem q83 : trRes Try.prog Try.f83.results.toList = some r83 := by kernel_rfl
theorem n83 : (Try.f83.name == "runtime.NumGoroutine") = false := by kernel_rfl

def c84 : ACode :=
 .seq (.reg [⟨some 2, .boxI (.t 0), none⟩,
   ⟨some 3, .mov (.c (.bool false)), none⟩])
 (.seq (.reg [⟨some 4, .fldA 0 (.t 1), none⟩,
   ⟨some 5, .load false 1 (.t 4), none⟩,
   ⟨some 6, .load true 6 (.t 2), none⟩,
   ⟨some 7, .call (.c (.fn 85 [] [])) [(.t 5), (.t 6)], none⟩,
   ⟨some 8, .un .not (.t 7), none⟩,
   ⟨some 3, .mov (.t 8), none⟩])
 (.ret))
def r84 : List ARV := [.tmp 3]
theorem b84 : Try.f84.body.bind (tr Try.prog 9) = some c84.bare := by kernel_rfl
theorem q84 : trRes Try.prog Try.f84.results.toList = some r84 := by kernel_rfl
theorem n84 : (Try.f84.name == "runtime.NumGoroutine") = false := by kernel_rfl

def c85 : ACode :=
 .seq (.reg [⟨some 2, .box (.t 0), none⟩,
   ⟨some 3, .boxI (.t 1), none⟩,
   ⟨some 4, .mov (.c (.bool false)), none⟩])
 (.seq (.reg [⟨some 7, .mkfn 100 [] [(.t 2)], none⟩,
   ⟨some 5, .mov (.t 7), none⟩])
 (.seq (.reg [⟨some 8, .mkfn 101 [] [(.t 2)], none⟩,
   ⟨some 6, .mov (.t 8), none⟩])
 (.seq (.seq (.reg [⟨some 9, .fldA 4 (.t 3), none⟩,
   ⟨some 10, .load false 1 (.t 9), none⟩,
   ⟨some 11, .mov (.t 5), none⟩,
   ⟨some 12, .call (.c (.fn 68 [] [])) [(.t 10), (.t 11)], none⟩,
   ⟨some 13, .mov (.t 12), none⟩,
   ⟨some 14, .fldA 0 (.t 3), some (13, false)⟩,
   ⟨some 15, .load false 1 (.t 14), some (13, false)⟩,
   ⟨some 16, .bin .neq false (.t 15) (.c (.int .i64 1)), some (13, false)⟩,
   ⟨some 17, .mov (.t 16), some (13, false)⟩,
   ⟨some 18, .fldA 1 (.t 3), some (17, true)⟩,
   ⟨some 19, .load false 1 (.t 18), some (17, true)⟩,
   ⟨some 20, .bin .neq false (.t 19) (.c (.int .i64 0)), some (17, true)⟩,
   ⟨some 21, .mov (.t 20), some (17, true)⟩,
   ⟨some 22, .fldA 2 (.t 3), some (21, false)⟩,
   ⟨some 23, .load false 1 (.t 22), some (21, false)⟩,
   ⟨some 24, .bin .neq false (.t 23) (.c (.int .i64 0)), some (21, false)⟩,
   ⟨some 25, .pick (.t 21) (.c (.bool true)) (.t 24), some (17, true)⟩,
   ⟨some 26, .mov (.t 25), some (17, true)⟩,
   ⟨some 27, .fldA 3 (.t 3), some (26, false)⟩,
   ⟨some 28, .load false 1 (.t 27), some (26, false)⟩,
   ⟨some 29, .bin .neq false (.t 28) (.c (.int .i64 0)), some (26, false)⟩,
   ⟨some 30, .pick (.t 26) (.c (.bool true)) (.t 29), some (17, true)⟩,
   ⟨some 31, .pick (.t 17) (.t 30) (.c (.bool false)), some (13, false)⟩,
   ⟨some 32, .pick (.t 13) (.c (.bool true)) (.t 31), none⟩])
 (.cond (.t 32)
  (.seq (.reg [⟨some 4, .mov (.c (.bool false)), none⟩])
  (.ret))
  (.skip)))
 (.seq (.seq (.reg [⟨some 33, .fldA 0 (.t 3), none⟩,
   ⟨some 34, .load false 1 (.t 33), none⟩])
 (.block 0 (.seq (.reg [⟨some 36, .bin .eql false (.t 34) (.c (.int .i64 3)), none⟩,
   ⟨some 35, .mov (.t 36), none⟩])
 (.cond (.t 35)
  (.seq (.reg [⟨some 37, .fldA 4 (.t 3), none⟩,
    ⟨some 38, .load false 1 (.t 37), none⟩,
    ⟨some 39, .len (.t 38), none⟩,
    ⟨some 40, .bin .eql false (.t 39) (.c (.int .i64 1)), none⟩,
    ⟨some 41, .mov (.t 40), none⟩,
    ⟨some 42, .load false 1 (.t 2), some (41, true)⟩,
    ⟨some 43, .fldA 5 (.t 3), some (41, true)⟩,
    ⟨some 44, .load false 1 (.t 43), some (41, true)⟩,
    ⟨some 45, .call (.c (.fn 102 [] [])) [(.t 42), (.t 44)], some (41, true)⟩,
    ⟨some 46, .pick (.t 41) (.t 45) (.c (.bool false)), none⟩,
    ⟨some 4, .mov (.t 46), none⟩])
  (.ret))
  (.seq (.reg [⟨some 48, .bin .eql false (.t 34) (.c (.int .i64 1)), none⟩,
    ⟨some 47, .mov (.t 48), none⟩])
  (.cond (.t 47)
   (.seq (.reg [⟨some 49, .fldA 4 (.t 3), none⟩,
     ⟨some 50, .load false 1 (.t 49), none⟩,
     ⟨some 51, .len (.t 50), none⟩,
     ⟨some 52, .bin .eql false (.t 51) (.c (.int .i64 1)), none⟩,
     ⟨some 53, .mov (.t 52), none⟩,
     ⟨some 54, .fldA 5 (.t 3), some (53, true)⟩,
     ⟨some 55, .load false 1 (.t 54), some (53, true)⟩,
     ⟨some 56, .len (.t 55), some (53, true)⟩,
     ⟨some 57, .bin .eql false (.t 56) (.c (.int .i64 0)), some (53, true)⟩,
     ⟨some 58, .pick (.t 53) (.t 57) (.c (.bool false)), none⟩,
     ⟨some 59, .mov (.t 58), none⟩,
     ⟨some 60, .load false 1 (.t 2), some (59, true)⟩,
     ⟨some 61, .fldA 1 (.t 3), some (59, true)⟩,
     ⟨some 62, .load false 1 (.t 61), some (59, true)⟩,
     ⟨some 63, .fldA 2 (.t 3), some (59, true)⟩,
     ⟨some 64, .load false 1 (.t 63), some (59, true)⟩,
     ⟨some 65, .fldA 3 (.t 3), some (59, true)⟩,
     ⟨some 66, .load false 1 (.t 65), some (59, true)⟩,
     ⟨some 67, .call (.c (.fn 67 [] [])) [(.t 60), (.t 62), (.t 64), (.t 66)], some (59, true)⟩,
     ⟨some 68, .pick (.t 59) (.t 67) (.c (.bool false)), none⟩,
     ⟨some 4, .mov (.t 68), none⟩])
   (.ret))
   (.seq (.reg [⟨some 70, .bin .eql false (.t 34) (.c (.int .i64 2)), none⟩,
     ⟨some 69, .mov (.t 70), none⟩])
   (.cond (.t 69)
    (.seq (.reg [⟨some 71, .fldA 4 (.t 3), none⟩,
      ⟨some 72, .load false 1 (.t 71), none⟩,
      ⟨some 73, .len (.t 72), none⟩,
      ⟨some 74, .bin .neq false (.t 73) (.c (.int .i64 1)), none⟩,
      ⟨some 75, .mov (.t 74), none⟩,
      ⟨some 76, .fldA 5 (.t 3), some (75, false)⟩,
      ⟨some 77, .load false 1 (.t 76), some (75, false)⟩,
      ⟨some 78, .len (.t 77), some (75, false)⟩,
      ⟨some 79, .bin .neq false (.t 78) (.c (.int .i64 2)), some (75, false)⟩,
      ⟨some 80, .pick (.t 75) (.c (.bool true)) (.t 79), none⟩,
      ⟨some 81, .mov (.t 80), none⟩,
      ⟨some 82, .fldA 5 (.t 3), some (81, false)⟩,
      ⟨some 83, .load false 1 (.t 82), some (81, false)⟩,
      ⟨some 84, .idxS 6 (.t 83) (.c (.int .i64 0)), some (81, false)⟩,
      ⟨some 85, .fldA 0 (.t 84), some (81, false)⟩,
      ⟨some 86, .load false 1 (.t 85), some (81, false)⟩,
      ⟨some 87, .bin .neq false (.t 86) (.c (.int .i64 5)), some (81, false)⟩,
      ⟨some 88, .pick (.t 81) (.c (.bool true)) (.t 87), none⟩,
      ⟨some 89, .mov (.t 88), none⟩,
      ⟨some 90, .fldA 5 (.t 3), some (89, false)⟩,
      ⟨some 91, .load false 1 (.t 90), some (89, false)⟩,
      ⟨some 92, .idxS 6 (.t 91) (.c (.int .i64 1)), some (89, false)⟩,
      ⟨some 93, .fldA 0 (.t 92), some (89, false)⟩,
      ⟨some 94, .load false 1 (.t 93), some (89, false)⟩,
      ⟨some 95, .bin .neq false (.t 94) (.c (.int .i64 5)), some (89, false)⟩,
      ⟨some 96, .pick (.t 89) (.c (.bool true)) (.t 95), none⟩])
    (.cond (.t 96)
     (.seq (.reg [⟨some 4, .mov (.c (.bool false)), none⟩])
     (.ret))
     (.skip)))
    (.seq (.reg [⟨some 98, .bin .eql false (.t 34) (.c (.int .i64 5)), none⟩,
      ⟨some 97, .mov (.t 98), none⟩])
    (.cond (.t 97)
     (.seq (.reg [⟨some 99, .fldA 4 (.t 3), none⟩,
       ⟨some 100, .load false 1 (.t 99), none⟩,
       ⟨some 101, .len (.t 100), none⟩,
       ⟨some 102, .bin .gtr false (.t 101) (.c (.int .i64 0)), none⟩])
     (.cond (.t 102)
      (.seq (.reg [⟨some 4, .mov (.c (.bool false)), none⟩])
      (.ret))
      (.skip)))
     (.seq (.reg [⟨some 4, .mov (.c (.bool false)), none⟩])
     (.ret))))))))))))
 (.seq (.reg [⟨some 103, .fldA 5 (.t 3), none⟩,
   ⟨some 104, .load false 1 (.t 103), none⟩,
   ⟨some 105, .mov (.t 6), none⟩,
   ⟨some 106, .call (.c (.fn 87 [] [])) [(.t 104), (.t 105)], none⟩,
   ⟨some 107, .un .not (.t 106), none⟩,
   ⟨some 4, .mov (.t 107), none⟩])
 (.ret))))))
def r85 : List ARV := [.tmp 4]
theorem b85 : Try.f85.body.bind (tr Try.prog 108) = some c85.bare := by kernel_rfl
theorem q85 : trRes Try.prog Try.f85.results.toList = some r85 := by kernel_rfl
theorem n85 : (Try.f85.name == "runtime.NumGoroutine") = false := by kernel_rfl

def c86 : ACode :=
 .seq (.reg [⟨some 2, .boxI (.t 0), none⟩,
   ⟨some 3, .mov (.c (.bool false)), none⟩])
 (.seq (.reg [⟨some 4, .fldA 1 (.t 2), none⟩,
   ⟨some 5, .load false 1 (.t 4), none⟩,
   ⟨some 6, .load false 1 (.t 1), none⟩,
   ⟨some 7, .call (.c (.fn 87 [] [])) [(.t 5), (.t 6)], none⟩,
   ⟨some 3, .mov (.t 7), none⟩])
 (.ret))
def r86 : List ARV := [.tmp 3]
theorem b86 : Try.f86.body.bind (tr Try.prog 8) = some c86.bare := by kernel_rfl
theorem q86 : trRes Try.prog Try.f86.results.toList = some r86 := by kernel_rfl
theorem n86 : (Try.f86.name == "runtime.NumGoroutine") = false := by kernel_rfl

def c87 : ACode :=
 .seq (.reg [⟨some 4, .mov (.c (.bool false)), none⟩])
 (.seq (.reg [⟨some 5, .mov (.t 0), none⟩,
   ⟨some 6, .mov (.t 1), none⟩,
   ⟨some 7, .call (.c (.fn 103 [] [])) [(.t 5), (.t 6)], none⟩,
   ⟨some 8, .bin .geq false (.t 7) (.c (.int .i64 0)), none⟩,
   ⟨some 4, .mov (.t 8), none⟩])
 (.ret))
def r87 : List ARV := [.tmp 4]
theorem b87 : Try.f87.body.bind (tr Try.prog 9) = some c87.bare := by kernel_rfl
theorem q87 : trRes Try.prog Try.f87.results.toList = some r87 := by kernel_rfl
theorem n87 : (Try.f87.name == "runtime.NumGoroutine") = false := by kernel_rfl

def c88 : ACode :=
 .seq (.reg [⟨some 2, .boxI (.t 0), none⟩,
   ⟨some 3, .mov (.c (.bool false)), none⟩])
 (.seq (.reg [⟨some 4, .fldA 0 (.t 1), none⟩,
   ⟨some 5, .load false 1 (.t 4), none⟩,
   ⟨some 6, .fldA 1 (.t 2), none⟩,
   ⟨some 7, .load true 8 (.t 6), none⟩,
   ⟨some 8, .call (.c (.fn 36 [] [])) [(.t 5), (.t 7)], none⟩,
   ⟨some 9, .un .not (.t 8), none⟩,
   ⟨some 3, .mov (.t 9), none⟩])
 (.ret))
def r88 : List ARV := [.tmp 3]
theorem b88 : Try.f88.body.bind (tr Try.prog 10) = some c88.bare := by kernel_rfl
theorem q88 : trRes Try.prog Try.f88.results.toList = some r88 := by kernel_rfl
theorem n88 : (Try.f88.name == "runtime.NumGoroutine") = false := by kernel_rfl

def c89 : ACode :=
 .seq (.reg [⟨some 4, .mov (.c (.bool false)), none⟩])
 (.seq (.reg [⟨some 5, .mov (.t 0), none⟩,
   ⟨some 6, .mov (.t 1), none⟩,
   ⟨some 7, .call (.c (.fn 104 [] [])) [(.t 5), (.t 6)], none⟩,
   ⟨some 8, .bin .geq false (.t 7) (.c (.int .i64 0)), none⟩,
   ⟨some 4, .mov (.t 8), none⟩])
 (.ret))
def r89 : List ARV := [.tmp 4]
theorem b89 : Try.f89.body.bind (tr Try.prog 9) = some c89.bare := by kernel_rfl
theorem q89 : trRes Try.prog Try.f89.results.toList = some r89 := by kernel_rfl
theorem n89 : (Try.f89.name == "runtime.NumGoroutine") = false := by kernel_rfl

def c90 : ACode :=
 .seq (.reg [⟨some 4, .mov (.c (.bool false)), none⟩])
 (.seq (.reg [⟨some 5, .mov (.t 0), none⟩,
   ⟨some 6, .mov (.t 1), none⟩,
   ⟨some 7, .call (.c (.fn 105 [] [])) [(.t 5), (.t 6)], none⟩,
   ⟨some 8, .bin .geq false (.t 7) (.c (.int .i64 0)), none⟩,
   ⟨some 4, .mov (.t 8), none⟩])
 (.ret))
def r90 : List ARV := [.tmp 4]
theorem b90 : Try.f90.body.bind (tr Try.prog 9) = some c90.bare := by kernel_rfl
theorem q90 : trRes Try.prog Try.f90.results.toList = some r90 := by kernel_rfl
theorem n90 : (Try.f90.name == "runtime.NumGoroutine") = false := by kernel_rfl

def c91 : ACode :=
 .seq (.reg [⟨some 4, .mov (.c (.int .i64 0)), none⟩])
 (.seq (.seq (.reg [⟨some 6, .mov (.t 0), none⟩,
   ⟨some 7, .len (.t 6), none⟩,
   ⟨some 8, .mov (.c (.int .i64 0)), none⟩])
 (.block 0 (.loop (.seq (.reg [⟨some 9, .bin .lss false (.t 8) (.t 7), none⟩])
  (.seq (.cond (.t 9)
   (.skip)
   (.exit 0))
  (.seq (.block 1 (.seq (.reg [⟨some 10, .mov (.t 8), none⟩,
    ⟨some 5, .mov (.t 10), none⟩])
  (.seq (.reg [⟨some 11, .mov (.t 1), none⟩,
    ⟨some 12, .mov (.t 0), none⟩,
    ⟨some 13, .mov (.t 5), none⟩,
    ⟨some 14, .idxS 4 (.t 12) (.t 13), none⟩,
    ⟨some 15, .load true 4 (.t 14), none⟩,
    ⟨some 16, .call (.t 11) [(.t 15)], none⟩])
  (.cond (.t 16)
   (.seq (.reg [⟨some 17, .mov (.t 5), none⟩,
     ⟨some 4, .mov (.t 17), none⟩])
   (.ret))
   (.skip)))))
  (.reg [⟨some 18, .bin .add false (.t 8) (.c (.int .i64 1)), none⟩,
    ⟨some 8, .mov (.t 18), none⟩])))))))
 (.seq (.reg [⟨some 4, .mov (.c (.int .i64 (-1))), none⟩])
 (.ret)))
def r91 : List ARV := [.tmp 4]
theorem b91 : Try.f91.body.bind (tr Try.prog 19) = some c91.bare := by kernel_rfl
theorem q91 : trRes Try.prog Try.f91.results.toList = some r91 := by kernel_rfl
theorem n91 : (Try.f91.name == "runtime.NumGoroutine") = false := by kernel_rfl

def c95 : ACode :=
 .seq (.reg [⟨some 4, .mov (.c (.int .i64 0)), none⟩])
 (.seq (.seq (.reg [⟨some 6, .mov (.t 0), none⟩,
   ⟨some 7, .len (.t 6), none⟩,
   ⟨some 8, .mov (.c (.int .i64 0)), none⟩])
 (.block 0 (.loop (.seq (.reg [⟨some 9, .bin .lss false (.t 8) (.t 7), none⟩])
  (.seq (.cond (.t 9)
   (.skip)
   (.exit 0))
  (.seq (.block 1 (.seq (.reg [⟨some 10, .mov (.t 8), none⟩,
    ⟨some 5, .mov (.t 10), none⟩])
  (.seq (.reg [⟨some 11, .mov (.t 1), none⟩,
    ⟨some 12, .mov (.t 0), none⟩,
    ⟨some 13, .mov (.t 5), none⟩,
    ⟨some 14, .idxS 8 (.t 12) (.t 13), none⟩,
    ⟨some 15, .load true 8 (.t 14), none⟩,
    ⟨some 16, .call (.t 11) [(.t 15)], none⟩])
  (.cond (.t 16)
   (.seq (.reg [⟨some 17, .mov (.t 5), none⟩,
     ⟨some 4, .mov (.t 17), none⟩])
   (.ret))
   (.skip)))))
  (.reg [⟨some 18, .bin .add false (.t 8) (.c (.int .i64 1)), none⟩,
    ⟨some 8, .mov (.t 18), none⟩])))))))
 (.seq (.reg [⟨some 4, .mov (.c (.int .i64 (-1))), none⟩])
 (.ret)))
def r95 : List ARV := [.tmp 4]
theorem b95 : Try.f95.body.bind (tr Try.prog 19) = some c95.bare := by kernel_rfl
theorem q95 : trRes Try.prog Try.f95.results.toList = some r95 := by kernel_rfl
theorem n95 : (Try.f95.name == "runtime.NumGoroutine") = false := by kernel_rfl

def c96 : ACode :=
 .seq (.reg [⟨some 2, .mov (.c (.int .i64 0)), none⟩])
 (.seq (.seq (.reg [⟨some 6, .mov (.t 0), none⟩,
   ⟨some 7, .len (.t 6), none⟩,
   ⟨some 8, .mov (.c (.int .i64 0)), none⟩])
 (.block 0 (.loop (.seq (.reg [⟨some 9, .bin .lss false (.t 8) (.t 7), none⟩])
  (.seq (.cond (.t 9)
   (.skip)
   (.exit 0))
  (.seq (.block 1 (.seq (.reg [⟨some 10, .idxS 8 (.t 6) (.t 8), none⟩,
    ⟨some 11, .load true 8 (.t 10), none⟩,
    ⟨some 4, .alloc [(.int .i64 0), (.int .i64 0), (.int .u64 0), (.int .i64 0), (.int .i64 0), (.int .i64 0), (.int .i64 0), (.slice [] .nil)], none⟩,
    ⟨none, .store 8 (.t 4) (.t 11), none⟩])
  (.seq (.reg [⟨some 12, .load true 8 (.t 4), none⟩,
    ⟨some 13, .call (.c (.fn 72 [] [])) [(.t 12)], none⟩,
    ⟨some 5, .mov (.t 13), none⟩])
  (.seq (.reg [⟨some 14, .mov (.t 5), none⟩,
    ⟨some 15, .bin .neq false (.t 14) (.c (.int .i64 0)), none⟩])
  (.cond (.t 15)
   (.seq (.reg [⟨some 16, .mov (.t 5), none⟩,
     ⟨some 2, .mov (.t 16), none⟩])
   (.ret))
   (.skip))))))
  (.reg [⟨some 17, .bin .add false (.t 8) (.c (.int .i64 1)), none⟩,
    ⟨some 8, .mov (.t 17), none⟩])))))))
 (.seq (.reg [⟨some 2, .mov (.c (.int .i64 0)), none⟩])
 (.ret)))
def r96 : List ARV := [.tmp 2]
theorem b96 : Try.f96.body.bind (tr Try.prog 18) = some c96.bare := by kernel_rfl
theorem q96 : trRes Try.prog Try.f96.results.toList = some r96 := by kernel_rfl
theorem n96 : (Try.f96.name == "runtime.NumGoroutine") = false := by kernel_rfl

def c97 : ACode :=
 .seq (.reg [⟨some 4, .load false 1 (.t 1), none⟩,
   ⟨some 5, .len (.t 4), none⟩,
   ⟨some 6, .mov (.c (.int .i64 0)), none⟩])
 (.block 0 (.loop (.seq (.reg [⟨some 7, .bin .lss false (.t 6) (.t 5), none⟩])
  (.seq (.cond (.t 7)
   (.skip)
   (.exit 0))
  (.seq (.block 1 (.seq (.reg [⟨some 8, .mov (.t 6), none⟩,
    ⟨some 3, .mov (.t 8), none⟩])
  (.reg [⟨some 9, .load false 1 (.t 1), none⟩,
    ⟨some 10, .mov (.t 3), none⟩,
    ⟨some 11, .mov (.t 0), none⟩,
    ⟨some 12, .idxS 1 (.t 9) (.t 10), none⟩,
    ⟨none, .store 1 (.t 12) (.t 11), none⟩])))
  (.reg [⟨some 13, .bin .add false (.t 6) (.c (.int .i64 1)), none⟩,
    ⟨some 6, .mov (.t 13), none⟩]))))))
def r97 : List ARV := []
theorem b97 : Try.f97.body.bind (tr Try.prog 14) = some c97.bare := by kernel_rfl
theorem q97 : trRes Try.prog Try.f97.results.toList = some r97 := by kernel_rfl
theorem n97 : (Try.f97.name == "runtime.NumGoroutine") = false := by kernel_rfl

def c100 : ACode :=
 .seq (.reg [⟨some 2, .boxI (.t 0), none⟩,
   ⟨some 3, .mov (.c (.bool false)), none⟩])
 (.seq (.reg [⟨some 4, .load false 1 (.t 1), none⟩,
   ⟨some 5, .load true 8 (.t 2), none⟩,
   ⟨some 6, .call (.c (.fn 36 [] [])) [(.t 4), (.t 5)], none⟩,
   ⟨some 7, .un .not (.t 6), none⟩,
   ⟨some 3, .mov (.t 7), none⟩])
 (.ret))
def r100 : List ARV := [.tmp 3]
theorem b100 : Try.f100.body.bind (tr Try.prog 8) = some c100.bare := by kernel_rfl
theorem q100 : trRes Try.prog Try.f100.results.toList = some r100 := by kernel_rfl
theorem n100 : (Try.f100.name == "runtime.NumGoroutine") = false := by kernel_rfl

def c101 : ACode :=
 .seq (.reg [⟨some 2, .boxI (.t 0), none⟩,
   ⟨some 3, .mov (.c (.bool false)), none⟩])
 (.seq (.reg [⟨some 4, .load false 1 (.t 1), none⟩,
   ⟨some 5, .load true 6 (.t 2), none⟩,
   ⟨some 6, .call (.c (.fn 85 [] [])) [(.t 4), (.t 5)], none⟩,
   ⟨some 7, .un .not (.t 6), none⟩,
   ⟨some 3, .mov (.t 7), none⟩])
 (.ret))
def r101 : List ARV := [.tmp 3]
theorem b101 : Try.f101.body.bind (tr Try.prog 8) = some c101.bare := by kernel_rfl
theorem q101 : trRes Try.prog Try.f101.results.toList = some r101 := by kernel_rfl
theorem n101 : (Try.f101.name == "runtime.NumGoroutine") = false := by kernel_rfl

def c102 : ACode :=
 .seq (.reg [⟨some 2, .box (.t 0), none⟩,
   ⟨some 4, .mov (.c (.bool false)), none⟩])
 (.seq (.seq (.reg [⟨some 9, .mov (.t 1), none⟩,
   ⟨some 10, .len (.t 9), none⟩,
   ⟨some 11, .mov (.c (.int .i64 0)), none⟩])
 (.block 0 (.loop (.seq (.reg [⟨some 12, .bin .lss false (.t 11) (.t 10), none⟩])
  (.seq (.cond (.t 12)
   (.skip)
   (.exit 0))
  (.seq (.block 1 (.seq (.reg [⟨some 13, .mov (.t 11), none⟩,
    ⟨some 14, .idxS 6 (.t 9) (.t 11), none⟩,
    ⟨some 15, .load true 6 (.t 14), none⟩,
    ⟨some 6, .alloc [(.int .i64 0), (.int .i64 0), (.int .i64 0), (.int .i64 0), (.slice [] .nil), (.slice [] .nil)], none⟩,
    ⟨some 5, .mov (.t 13), none⟩,
    ⟨none, .store 6 (.t 6) (.t 15), none⟩])
  (.seq (.reg [⟨some 16, .mkfn 108 [] [(.t 2)], none⟩,
    ⟨some 7, .mov (.t 16), none⟩])
  (.seq (.reg [⟨some 17, .mkfn 109 [] [(.t 2)], none⟩,
    ⟨some 8, .mov (.t 17), none⟩])
  (.seq (.reg [⟨some 18, .fldA 0 (.t 6), none⟩,
    ⟨some 19, .load false 1 (.t 18), none⟩,
    ⟨some 20, .bin .neq false (.t 19) (.c (.int .i64 4)), none⟩,
    ⟨some 21, .mov (.t 20), none⟩,
    ⟨some 22, .fldA 1 (.t 6), some (21, false)⟩,
    ⟨some 23, .load false 1 (.t 22), some (21, false)⟩,
    ⟨some 24, .bin .neq false (.t 23) (.c (.int .i64 0)), some (21, false)⟩,
    ⟨some 25, .pick (.t 21) (.c (.bool true)) (.t 24), none⟩,
    ⟨some 26, .mov (.t 25), none⟩,
    ⟨some 27, .fldA 2 (.t 6), some (26, false)⟩,
    ⟨some 28, .load false 1 (.t 27), some (26, false)⟩,
    ⟨some 29, .bin .neq false (.t 28) (.c (.int .i64 0)), some (26, false)⟩,
    ⟨some 30, .pick (.t 26) (.c (.bool true)) (.t 29), none⟩,
    ⟨some 31, .mov (.t 30), none⟩,
    ⟨some 32, .fldA 3 (.t 6), some (31, false)⟩,
    ⟨some 33, .load false 1 (.t 32), some (31, false)⟩,
    ⟨some 34, .bin .neq false (.t 33) (.c (.int .i64 0)), some (31, false)⟩,
    ⟨some 35, .pick (.t 31) (.c (.bool true)) (.t 34), none⟩,
    ⟨some 36, .mov (.t 35), none⟩,
    ⟨some 37, .fldA 4 (.t 6), some (36, false)⟩,
    ⟨some 38, .load false 1 (.t 37), some (36, false)⟩,
    ⟨some 39, .len (.t 38), some (36, false)⟩,
    ⟨some 40, .bin .eql false (.t 39) (.c (.int .i64 0)), some (36, false)⟩,
    ⟨some 41, .mov (.t 5), some (36, false)⟩,
    ⟨some 42, .bin .add false (.t 41) (.c (.int .i64 1)), some (36, false)⟩,
    ⟨some 43, .mov (.t 1), some (36, false)⟩,
    ⟨some 44, .len (.t 43), some (36, false)⟩,
    ⟨some 45, .bin .eql false (.t 42) (.t 44), some (36, false)⟩,
    ⟨some 46, .bin .neq true (.t 40) (.t 45), some (36, false)⟩,
    ⟨some 47, .pick (.t 36) (.c (.bool true)) (.t 46), none⟩,
    ⟨some 48, .mov (.t 47), none⟩,
    ⟨some 49, .fldA 4 (.t 6), some (48, false)⟩,
    ⟨some 50, .load false 1 (.t 49), some (48, false)⟩,
    ⟨some 51, .mov (.t 7), some (48, false)⟩,
    ⟨some 52, .call (.c (.fn 68 [] [])) [(.t 50), (.t 51)], some (48, false)⟩,
    ⟨some 53, .pick (.t 48) (.c (.bool true)) (.t 52), none⟩,
    ⟨some 54, .mov (.t 53), none⟩,
    ⟨some 55, .fldA 5 (.t 6), some (54, false)⟩,
    ⟨some 56, .load false 1 (.t 55), some (54, false)⟩,
    ⟨some 57, .mov (.t 8), some (54, false)⟩,
    ⟨some 58, .call (.c (.fn 87 [] [])) [(.t 56), (.t 57)], some (54, false)⟩,
    ⟨some 59, .pick (.t 54) (.c (.bool true)) (.t 58), none⟩])
  (.cond (.t 59)
   (.seq (.reg [⟨some 4, .mov (.c (.bool false)), none⟩])
   (.ret))
   (.skip)))))))
  (.reg [⟨some 60, .bin .add false (.t 11) (.c (.int .i64 1)), none⟩,
    ⟨some 11, .mov (.t 60), none⟩])))))))
 (.seq (.reg [⟨some 61, .mov (.t 1), none⟩,
   ⟨some 62, .len (.t 61), none⟩,
   ⟨some 63, .bin .gtr false (.t 62) (.c (.int .i64 0)), none⟩,
   ⟨some 4, .mov (.t 63), none⟩])
 (.ret)))
def r102 : List ARV := [.tmp 4]
theorem b102 : Try.f102.body.bind (tr Try.prog 64) = some c102.bare := by kernel_rfl
theorem q102 : trRes Try.prog Try.f102.results.toList = some r102 := by kernel_rfl
theorem n102 : (Try.f102.name == "runtime.NumGoroutine") = false := by kernel_rfl

def c103 : ACode :=
 .seq (.reg [⟨some 4, .mov (.c (.int .i64 0)), none⟩])
 (.seq (.seq (.reg [⟨some 6, .mov (.t 0), none⟩,
   ⟨some 7, .len (.t 6), none⟩,
   ⟨some 8, .mov (.c (.int .i64 0)), none⟩])
 (.block 0 (.loop (.seq (.reg [⟨some 9, .bin .lss false (.t 8) (.t 7), none⟩])
  (.seq (.cond (.t 9)
   (.skip)
   (.exit 0))
  (.seq (.block 1 (.seq (.reg [⟨some 10, .mov (.t 8), none⟩,
    ⟨some 5, .mov (.t 10), none⟩])
  (.seq (.reg [⟨some 11, .mov (.t 1), none⟩,
    ⟨some 12, .mov (.t 0), none⟩,
    ⟨some 13, .mov (.t 5), none⟩,
    ⟨some 14, .idxS 6 (.t 12) (.t 13), none⟩,
    ⟨some 15, .load true 6 (.t 14), none⟩,
    ⟨some 16, .call (.t 11) [(.t 15)], none⟩])
  (.cond (.t 16)
   (.seq (.reg [⟨some 17, .mov (.t 5), none⟩,
     ⟨some 4, .mov (.t 17), none⟩])
   (.ret))
   (.skip)))))
  (.reg [⟨some 18, .bin .add false (.t 8) (.c (.int .i64 1)), none⟩,
    ⟨some 8, .mov (.t 18), none⟩])))))))
 (.seq (.reg [⟨some 4, .mov (.c (.int .i64 (-1))), none⟩])
 (.ret)))
def r103 : List ARV := [.tmp 4]
theorem b103 : Try.f103.body.bind (tr Try.prog 19) = some c103.bare := by kernel_rfl
theorem q103 : trRes Try.prog Try.f103.results.toList = some r103 := by kernel_rfl
theorem n103 : (Try.f103.name == "runtime.NumGoroutine") = false := by kernel_rfl

def c104 : ACode :=
 .seq (.reg [⟨some 4, .mov (.c (.int .i64 0)), none⟩])
 (.seq (.seq (.reg [⟨some 6, .mov (.t 0), none⟩,
   ⟨some 7, .len (.t 6), none⟩,
   ⟨some 8, .mov (.c (.int .i64 0)), none⟩])
 (.block 0 (.loop (.seq (.reg [⟨some 9, .bin .lss false (.t 8) (.t 7), none⟩])
  (.seq (.cond (.t 9)
   (.skip)
   (.exit 0))
  (.seq (.block 1 (.seq (.reg [⟨some 10, .mov (.t 8), none⟩,
    ⟨some 5, .mov (.t 10), none⟩])
  (.seq (.reg [⟨some 11, .mov (.t 1), none⟩,
    ⟨some 12, .mov (.t 0), none⟩,
    ⟨some 13, .mov (.t 5), none⟩,
    ⟨some 14, .idxS 2 (.t 12) (.t 13), none⟩,
    ⟨some 15, .load true 2 (.t 14), none⟩,
    ⟨some 16, .call (.t 11) [(.t 15)], none⟩])
  (.cond (.t 16)
   (.seq (.reg [⟨some 17, .mov (.t 5), none⟩,
     ⟨some 4, .mov (.t 17), none⟩])
   (.ret))
   (.skip)))))
  (.reg [⟨some 18, .bin .add false (.t 8) (.c (.int .i64 1)), none⟩,
    ⟨some 8, .mov (.t 18), none⟩])))))))
 (.seq (.reg [⟨some 4, .mov (.c (.int .i64 (-1))), none⟩])
 (.ret)))
def r104 : List ARV := [.tmp 4]
theorem b104 : Try.f104.body.bind (tr Try.prog 19) = some c104.bare := by kernel_rfl
theorem q104 : trRes Try.prog Try.f104.results.toList = some r104 := by kernel_rfl
theorem n104 : (Try.f104.name == "runtime.NumGoroutine") = false := by kernel_rfl

def c105 : ACode :=
 .seq (.reg [⟨some 4, .mov (.c (.int .i64 0)), none⟩])
 (.seq (.seq (.reg [⟨some 6, .mov (.t 0), none⟩,
   ⟨some 7, .len (.t 6), none⟩,
   ⟨some 8, .mov (.c (.int .i64 0)), none⟩])
 (.block 0 (.loop (.seq (.reg [⟨some 9, .bin .lss false (.t 8) (.t 7), none⟩])
  (.seq (.cond (.t 9)
   (.skip)
   (.exit 0))
  (.seq (.block 1 (.seq (.reg [⟨some 10, .mov (.t 8), none⟩,
    ⟨some 5, .mov (.t 10), none⟩])
  (.seq (.reg [⟨some 11, .mov (.t 1), none⟩,
    ⟨some 12, .mov (.t 0), none⟩,
    ⟨some 13, .mov (.t 5), none⟩,
    ⟨some 14, .idxS 9 (.t 12) (.t 13), none⟩,
    ⟨some 15, .load true 9 (.t 14), none⟩,
    ⟨some 16, .call (.t 11) [(.t 15)], none⟩])
  (.cond (.t 16)
   (.seq (.reg [⟨some 17, .mov (.t 5), none⟩,
     ⟨some 4, .mov (.t 17), none⟩])
   (.ret))
   (.skip)))))
  (.reg [⟨some 18, .bin .add false (.t 8) (.c (.int .i64 1)), none⟩,
    ⟨some 8, .mov (.t 18), none⟩])))))))
 (.seq (.reg [⟨some 4, .mov (.c (.int .i64 (-1))), none⟩])
 (.ret)))
def r105 : List ARV := [.tmp 4]
theorem b105 : Try.f105.body.bind (tr Try.prog 19) = some c105.bare := by kernel_rfl
theorem q105 : trRes Try.prog Try.f105.results.toList = some r105 := by kernel_rfl
theorem n105 : (Try.f105.name == "runtime.NumGoroutine") = false := by kernel_rfl

def c108 : ACode :=
 .seq (.reg [⟨some 2, .boxI (.t 0), none⟩,
   ⟨some 3, .mov (.c (.bool false)), none⟩])
 (.seq (.reg [⟨some 4, .fldA 0 (.t 2), none⟩,
   ⟨some 5, .load false 1 (.t 4), none⟩,
   ⟨some 6, .bin .neq false (.t 5) (.c (.int .i64 1)), none⟩,
   ⟨some 7, .mov (.t 6), none⟩,
   ⟨some 8, .load false 1 (.t 1), some (7, false)⟩,
   ⟨some 9, .load true 8 (.t 2), some (7, false)⟩,
   ⟨some 10, .call (.c (.fn 36 [] [])) [(.t 8), (.t 9)], some (7, false)⟩,
   ⟨some 11, .un .not (.t 10), some (7, false)⟩,
   ⟨some 12, .pick (.t 7) (.c (.bool true)) (.t 11), none⟩,
   ⟨some 3, .mov (.t 12), none⟩])
 (.ret))
def r108 : List ARV := [.tmp 3]
theorem b108 : Try.f108.body.bind (tr Try.prog 13) = some c108.bare := by kernel_rfl
theorem q108 : trRes Try.prog Try.f108.results.toList = some r108 := by kernel_rfl
theorem n108 : (Try.f108.name == "runtime.NumGoroutine") = false := by kernel_rfl

def c109 : ACode :=
 .seq (.reg [⟨some 2, .boxI (.t 0), none⟩,
   ⟨some 3, .mov (.c (.bool false)), none⟩])
 (.seq (.reg [⟨some 4, .load false 1 (.t 1), none⟩,
   ⟨some 5, .load true 6 (.t 2), none⟩,
   ⟨some 6, .call (.c (.fn 85 [] [])) [(.t 4), (.t 5)], none⟩,
   ⟨some 7, .un .not (.t 6), none⟩,
   ⟨some 3, .mov (.t 7), none⟩])
 (.ret))
def r109 : List ARV := [.tmp 3]
theorem b109 : Try.f109.body.bind (tr Try.prog 8) = some c109.bare := by kernel_rfl
theorem q109 : trRes Try.prog Try.f109.results.toList = some r109 := by kernel_rfl
theorem n109 : (Try.f109.name == "runtime.NumGoroutine") = false := by kernel_rfl

end Go.Proofs.Ytdiebjnjhgbklaa

namespace Fil
open Abs
structure Flop where
  next : Int
  init : Bool
  deriving DecidableEq, Repr
structure Aig where
  ins : Int
  flops : List Flop
  ands : List (Int × Int)
  outs : List Int
  deriving DecidableEq, Repr
abbrev encFlop (f : Flop) : AV := .agg [.int .i64 f.next, .bool f.init]
abbrev encGate (g : Int × Int) : AV := .agg [.int .i64 g.1, .int .i64 g.2]
abbrev encInt (a : Int) : AV := .int .i64 a
abbrev encBool (a : Bool) : AV := .bool a
def I64 (a : Int) : Prop := -9223372036854775808 ≤ a ∧ a ≤ 9223372036854775807
structure Wf (g : Aig) : Prop where
  ins : I64 g.ins
  flops : g.flops.length ≤ 1000000
  ands : g.ands.length ≤ 1000000
  outs : g.outs.length ≤ 1000000
  nexts : ∀ f ∈ g.flops, I64 f.next
  gates : ∀ x ∈ g.ands, I64 x.1 ∧ I64 x.2
  lits : ∀ a ∈ g.outs, I64 a
structure Small (g : Aig) : Prop extends Wf g where
  lo : 0 ≤ g.ins
  hi : g.ins ≤ 1000000
namespace Aig
def count (g : Aig) : Int := g.ins + g.flops.length + g.ands.length
def first (g : Aig) : Int := 1 + g.ins + g.flops.length
def litN (n a : Int) : Bool := decide (0 ≤ a) && decide (a < 2 * n)
def lit (g : Aig) (a : Int) : Bool := litN (1 + g.count) a
def gatesOk : Int → List (Int × Int) → Bool
  | _, [] => true
  | n, x :: l => litN n x.1 && litN n x.2 && gatesOk (n + 1) l
def good (g : Aig) : Bool := gatesOk g.first g.ands && !(g.flops.any fun f => !g.lit f.next) && !(g.outs.any fun a => !g.lit a)
def check (g : Aig) : Int :=
  if g.ins < 0 then 1
  else if 65536 < g.ins ∨ 65536 < g.count ∨ 65536 < (g.outs.length : Int) then 2
  else if g.good then 0 else 1
def checkL (g : Aig) : Int → List Int → Int
  | e, [] => e
  | e, a :: l => g.checkL (if e = 0 ∧ g.lit a = false then 1 else e) l
def find (g : Aig) (a b : Int) : Int := idxF (fun x : Int × Int => decide (min x.1 x.2 = a) && decide (max x.1 x.2 = b)) g.ands
def andO (g : Aig) (p q : Int) : Option (Aig × Int) :=
  let a := min p q
  let b := max p q
  if a = 0 ∨ a = turn b then some (g, 0)
  else if a = 1 ∨ a = b then some (g, b)
  else if 0 ≤ g.find a b then some (g, 2 * (g.first + g.find a b))
  else if g.count = 65536 then none
  else some ({ g with ands := g.ands ++ [(a, b)] }, 2 * (g.count + 1))
def andW (g : Aig) (e p q : Int) : Aig × Int × Int :=
  if e ≠ 0 then (g, e, 0) else match g.andO p q with
    | none => (g, 2, 0)
    | some (g', x) => (g', 0, x)
def orW (g : Aig) (e p q : Int) : Aig × Int × Int :=
  let r := g.andW e (turn p) (turn q)
  (r.1, r.2.1, turn r.2.2)
def endW (r : Aig × Int × Int) : Aig × Int × Int := if r.2.1 ≠ 0 then (⟨0, [], [], []⟩, 0, r.2.1) else (r.1, r.2.2, 0)
end Aig
theorem litN_iff {n a : Int} : Aig.litN n a = true ↔ 0 ≤ a ∧ a < 2 * n := by simp [Aig.litN]
section
variable {g : Aig} {a b : Int}
end
theorem szs_gate (l : List (Int × Int)) : szs 2 (l.map encGate) = True := szs_map _ _ _ fun _ => rfl
theorem szs_flop (l : List Flop) : szs 2 (l.map encFlop) = True := szs_map _ _ _ fun _ => rfl
theorem szs_int (l : List Int) : szs 1 (l.map encInt) = True := szs_map _ _ _ fun _ => rfl
theorem szs_bool (l : List Bool) : szs 1 (l.map encBool) = True := szs_map _ _ _ fun _ => rfl
attribute [go_sem] szs_gate szs_flop szs_int szs_bool

/-! ### Making gates -/
structure Ext (g g' : Aig) : Prop where
  ins : g'.ins = g.ins
  flops : g'.flops = g.flops
  outs : g'.outs = g.outs
  ands : ∃ l, g'.ands = g.ands ++ l
theorem Ext.refl (g : Aig) : Ext g g := ⟨rfl, rfl, rfl, [], by simp⟩
theorem Ext.trans {g g' g'' : Aig} (h : Ext g g') (h' : Ext g' g'') : Ext g g'' := by
  obtain ⟨a1, a2, a3, l, a4⟩ := h
  obtain ⟨b1, b2, b3, m, b4⟩ := h'
  exact ⟨b1.trans a1, b2.trans a2, b3.trans a3, l ++ m, by rw [b4, a4, List.append_assoc]⟩
theorem Ext.count {g g' : Aig} (h : Ext g g') : g.count ≤ g'.count := by
  obtain ⟨a1, a2, a3, l, a4⟩ := h
  simp only [Aig.count, a1, a2, a4, List.length_append]; omega
theorem Ext.first {g g' : Aig} (h : Ext g g') : g'.first = g.first := by simp only [Aig.first, h.ins, h.flops]
theorem Ext.lit {g g' : Aig} (h : Ext g g') {a : Int} (ha : g.lit a = true) : g'.lit a = true := by
  have := h.count
  simp only [Aig.lit, litN_iff] at ha ⊢
  omega
namespace Aig
def And (g : Aig) (a b : Int) : Aig × Int × Int := endW (g.andW (g.checkL g.check [a, b]) a b)
def pairs (g : Aig) (e a b c d : Int) : Aig × Int × Int :=
  let r := g.andW e a b
  let s := r.1.andW r.2.1 c d
  s.1.orW s.2.1 r.2.2 s.2.2
def val (v : List Bool) (a : Int) : Bool := (v.getD (a / 2).toNat false) != decide (a % 2 = 1)
def vals : List Bool → List (Int × Int) → List Bool
  | v, [] => v
  | v, x :: l => vals (v ++ [val v x.1 && val v x.2]) l
def Nodes (g : Aig) (inp st : List Bool) : List Bool × Int :=
  if g.check ≠ 0 then ([], g.check) else if (inp.length : Int) ≠ g.ins ∨ st.length ≠ g.flops.length then ([], 1) else (vals (false :: (inp ++ st)) g.ands, 0)
end Aig
end Fil

