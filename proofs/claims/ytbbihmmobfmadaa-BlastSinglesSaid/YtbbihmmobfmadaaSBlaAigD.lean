/- aig: contracts of the functions that others may call. -/
import Derived.Test.YtbbihmmobfmadaaSBlaC
set_option linter.unusedSimpArgs false
set_option linter.unusedVariables false
namespace Go.Proofs.Ytbbihmmobfmadaa
open Abs
def c89 : ACode :=
 .seq (.reg [⟨some 1, .box (.t 0), none⟩,
   ⟨some 2, .mov (.c (.int .i64 0)), none⟩])
 (.seq (.reg [⟨some 7, .mkfn 97 [] [(.t 1)], none⟩,
   ⟨some 3, .mov (.t 7), none⟩])
 (.seq (.reg [⟨some 8, .mkfn 98 [] [(.t 1)], none⟩,
   ⟨some 4, .mov (.t 8), none⟩])
 (.seq (.block 0 (.seq (.reg [⟨some 10, .load false 1 (.t 1), none⟩,
   ⟨some 11, .nilchk (.t 10), none⟩,
   ⟨some 12, .fldA 0 (.t 11), none⟩,
   ⟨some 13, .fldA 0 (.t 12), none⟩,
   ⟨some 14, .load false 1 (.t 13), none⟩,
   ⟨some 15, .bin .lss false (.t 14) (.c (.int .i64 0)), none⟩,
   ⟨some 9, .mov (.t 15), none⟩])
 (.cond (.t 9)
  (.seq (.reg [⟨some 2, .mov (.c (.int .i64 1)), none⟩])
  (.ret))
  (.seq (.seq (.reg [⟨some 17, .load false 1 (.t 1), none⟩,
    ⟨some 18, .nilchk (.t 17), none⟩,
    ⟨some 19, .fldA 0 (.t 18), none⟩,
    ⟨some 20, .fldA 0 (.t 19), none⟩,
    ⟨some 21, .load false 1 (.t 20), none⟩,
    ⟨some 22, .bin .gtr false (.t 21) (.c (.int .i64 65536)), none⟩,
    ⟨some 16, .mov (.t 22), none⟩])
  (.cond (.t 16)
   (.skip)
   (.seq (.reg [⟨some 23, .load false 1 (.t 1), none⟩,
     ⟨some 24, .call (.c (.fn 99 [] [])) [(.t 23)], none⟩,
     ⟨some 25, .bin .gtr false (.t 24) (.c (.int .i64 65536)), none⟩,
     ⟨some 16, .mov (.t 25), none⟩])
   (.cond (.t 16)
    (.skip)
    (.reg [⟨some 26, .load false 1 (.t 1), none⟩,
      ⟨some 27, .nilchk (.t 26), none⟩,
      ⟨some 28, .fldA 0 (.t 27), none⟩,
      ⟨some 29, .fldA 3 (.t 28), none⟩,
      ⟨some 30, .load false 1 (.t 29), none⟩,
      ⟨some 31, .len (.t 30), none⟩,
      ⟨some 32, .bin .gtr false (.t 31) (.c (.int .i64 65536)), none⟩,
      ⟨some 16, .mov (.t 32), none⟩])))))
  (.cond (.t 16)
   (.seq (.reg [⟨some 2, .mov (.c (.int .i64 2)), none⟩])
   (.ret))
   (.seq (.seq (.reg [⟨some 34, .load false 1 (.t 1), none⟩,
     ⟨some 35, .nilchk (.t 34), none⟩,
     ⟨some 36, .fldA 0 (.t 35), none⟩,
     ⟨some 37, .fldA 1 (.t 36), none⟩,
     ⟨some 38, .load false 1 (.t 37), none⟩,
     ⟨some 39, .mov (.t 3), none⟩,
     ⟨some 40, .call (.c (.fn 100 [] [])) [(.t 38), (.t 39)], none⟩,
     ⟨some 33, .mov (.t 40), none⟩])
   (.cond (.t 33)
    (.skip)
    (.reg [⟨some 41, .load false 1 (.t 1), none⟩,
      ⟨some 42, .nilchk (.t 41), none⟩,
      ⟨some 43, .fldA 0 (.t 42), none⟩,
      ⟨some 44, .fldA 3 (.t 43), none⟩,
      ⟨some 45, .load false 1 (.t 44), none⟩,
      ⟨some 46, .mov (.t 4), none⟩,
      ⟨some 47, .call (.c (.fn 48 [] [])) [(.t 45), (.t 46)], none⟩,
      ⟨some 33, .mov (.t 47), none⟩])))
   (.cond (.t 33)
    (.seq (.reg [⟨some 2, .mov (.c (.int .i64 1)), none⟩])
    (.ret))
    (.skip))))))))
 (.seq (.seq (.reg [⟨some 48, .load false 1 (.t 1), none⟩,
   ⟨some 49, .nilchk (.t 48), none⟩,
   ⟨some 50, .fldA 0 (.t 49), none⟩,
   ⟨some 51, .fldA 2 (.t 50), none⟩,
   ⟨some 52, .load false 1 (.t 51), none⟩,
   ⟨some 53, .len (.t 52), none⟩,
   ⟨some 54, .mov (.c (.int .i64 0)), none⟩])
 (.block 1 (.loop (.seq (.reg [⟨some 55, .bin .lss false (.t 54) (.t 53), none⟩])
  (.seq (.cond (.t 55)
   (.skip)
   (.exit 1))
  (.seq (.block 2 (.seq (.reg [⟨some 56, .mov (.t 54), none⟩,
    ⟨some 57, .idxS 2 (.t 52) (.t 54), none⟩,
    ⟨some 58, .load true 2 (.t 57), none⟩,
    ⟨some 6, .alloc [(.int .i64 0), (.int .i64 0)], none⟩,
    ⟨some 5, .mov (.t 56), none⟩,
    ⟨none, .store 2 (.t 6) (.t 58), none⟩])
  (.seq (.drw [⟨some 59, .idxR 1 2 (.t 6) (.c (.int .i64 0)), none⟩,
    ⟨some 60, .load false 1 (.t 59), none⟩,
    ⟨some 61, .idxR 1 2 (.t 6) (.c (.int .i64 1)), none⟩,
    ⟨some 62, .load false 1 (.t 61), none⟩,
    ⟨some 63, .min [(.t 60), (.t 62)], none⟩,
    ⟨some 64, .bin .lss false (.t 63) (.c (.int .i64 0)), none⟩,
    ⟨some 65, .mov (.t 64), none⟩,
    ⟨some 66, .idxR 1 2 (.t 6) (.c (.int .i64 0)), some (65, false)⟩,
    ⟨some 67, .load false 1 (.t 66), some (65, false)⟩,
    ⟨some 68, .idxR 1 2 (.t 6) (.c (.int .i64 1)), some (65, false)⟩,
    ⟨some 69, .load false 1 (.t 68), some (65, false)⟩,
    ⟨some 70, .max [(.t 67), (.t 69)], some (65, false)⟩,
    ⟨some 71, .load false 1 (.t 1), some (65, false)⟩,
    ⟨some 72, .call (.c (.fn 101 [] [])) [(.t 71)], some (65, false)⟩,
    ⟨some 73, .mov (.t 5), some (65, false)⟩,
    ⟨some 74, .bin .add false (.t 72) (.t 73), some (65, false)⟩,
    ⟨some 75, .bin .mul false (.c (.int .i64 2)) (.t 74), some (65, false)⟩,
    ⟨some 76, .bin .geq false (.t 70) (.t 75), some (65, false)⟩,
    ⟨some 77, .pick (.t 65) (.c (.bool true)) (.t 76), none⟩] [(8, 13), (10, 13)])
  (.cond (.t 77)
   (.seq (.reg [⟨some 2, .mov (.c (.int .i64 1)), none⟩])
   (.ret))
   (.skip)))))
  (.reg [⟨some 78, .bin .add false (.t 54) (.c (.int .i64 1)), none⟩,
    ⟨some 54, .mov (.t 78), none⟩])))))))
 (.seq (.reg [⟨some 2, .mov (.c (.int .i64 0)), none⟩])
 (.ret))))))
def r89 : List ARV := [.tmp 2]
theorem b89 : Try.f89.body.bind (tr Try.prog 79) = some c89.bare := by kernel_rfl
theorem q89 : trRes Try.prog Try.f89.results.toList = some r89 := by kernel_rfl
theorem n89 : (Try.f89.name == "runtime.NumGoroutine") = false := by kernel_rfl

def c90 : ACode :=
 .seq (.reg [⟨some 4, .mov (.c (.bool false)), none⟩])
 (.seq (.reg [⟨some 5, .mov (.t 1), none⟩,
   ⟨some 6, .bin .geq false (.t 5) (.c (.int .i64 0)), none⟩,
   ⟨some 7, .mov (.t 6), none⟩,
   ⟨some 8, .mov (.t 1), some (7, true)⟩,
   ⟨some 9, .bin .quo false (.t 8) (.c (.int .i64 2)), some (7, true)⟩,
   ⟨some 10, .mov (.t 0), some (7, true)⟩,
   ⟨some 11, .call (.c (.fn 99 [] [])) [(.t 10)], some (7, true)⟩,
   ⟨some 12, .bin .leq false (.t 9) (.t 11), some (7, true)⟩,
   ⟨some 13, .pick (.t 7) (.t 12) (.c (.bool false)), none⟩,
   ⟨some 4, .mov (.t 13), none⟩])
 (.ret))
def r90 : List ARV := [.tmp 4]
theorem b90 : Try.f90.body.bind (tr Try.prog 14) = some c90.bare := by kernel_rfl
theorem q90 : trRes Try.prog Try.f90.results.toList = some r90 := by kernel_rfl
theorem n90 : (Try.f90.name == "runtime.NumGoroutine") = false := by kernel_rfl

def c91 : ACode :=
 .seq (.reg [⟨some 4, .alloc [(.int .i64 0), (.slice [] .nil), (.slice [] .nil), (.slice [] .nil)], none⟩,
   ⟨some 5, .mov (.c (.int .i64 0)), none⟩,
   ⟨some 6, .mov (.c (.int .i64 0)), none⟩])
 (.seq (.seq (.reg [⟨some 7, .mov (.t 0), none⟩,
   ⟨some 8, .nilchk (.t 7), none⟩,
   ⟨some 9, .fldA 4 (.t 8), none⟩,
   ⟨some 10, .load false 1 (.t 9), none⟩,
   ⟨some 11, .bin .neq false (.t 10) (.c (.int .i64 0)), none⟩])
 (.cond (.t 11)
  (.seq (.drw [⟨some 12, .build [(.int .i64 0), (.slice [] .nil), (.slice [] .nil), (.slice [] .nil)] [], none⟩,
    ⟨some 13, .mov (.t 0), none⟩,
    ⟨some 14, .nilchk (.t 13), none⟩,
    ⟨some 15, .fldA 4 (.t 14), none⟩,
    ⟨some 16, .load false 1 (.t 15), none⟩,
    ⟨none, .store 4 (.t 4) (.t 12), none⟩,
    ⟨some 5, .mov (.c (.int .i64 0)), none⟩,
    ⟨some 6, .mov (.t 16), none⟩] [(4, 5)])
  (.ret))
  (.skip)))
 (.seq (.reg [⟨some 17, .mov (.t 0), none⟩,
   ⟨some 18, .nilchk (.t 17), none⟩,
   ⟨some 19, .fldA 0 (.t 18), none⟩,
   ⟨some 20, .load true 4 (.t 19), none⟩,
   ⟨some 21, .mov (.t 1), none⟩,
   ⟨none, .store 4 (.t 4) (.t 20), none⟩,
   ⟨some 5, .mov (.t 21), none⟩,
   ⟨some 6, .mov (.c (.int .i64 0)), none⟩])
 (.ret)))
def r91 : List ARV := [.cell 4 true 4, .tmp 5, .tmp 6]
theorem b91 : Try.f91.body.bind (tr Try.prog 22) = some c91.bare := by kernel_rfl
theorem q91 : trRes Try.prog Try.f91.results.toList = some r91 := by kernel_rfl
theorem n91 : (Try.f91.name == "runtime.NumGoroutine") = false := by kernel_rfl

def c92 : ACode :=
 .seq (.reg [⟨some 4, .box (.t 1), none⟩,
   ⟨some 5, .box (.t 2), none⟩,
   ⟨some 6, .mov (.c (.int .i64 0)), none⟩])
 (.seq (.drw [⟨some 8, .load false 1 (.t 4), none⟩,
   ⟨some 9, .load false 1 (.t 5), none⟩,
   ⟨some 10, .min [(.t 8), (.t 9)], none⟩,
   ⟨some 11, .load false 1 (.t 4), none⟩,
   ⟨some 12, .load false 1 (.t 5), none⟩,
   ⟨some 13, .max [(.t 11), (.t 12)], none⟩,
   ⟨none, .store 1 (.t 4) (.t 10), none⟩,
   ⟨none, .store 1 (.t 5) (.t 13), none⟩] [(4, 6)])
 (.seq (.block 0 (.seq (.seq (.reg [⟨some 15, .mov (.t 0), none⟩,
   ⟨some 16, .nilchk (.t 15), none⟩,
   ⟨some 17, .fldA 4 (.t 16), none⟩,
   ⟨some 18, .load false 1 (.t 17), none⟩,
   ⟨some 19, .bin .neq false (.t 18) (.c (.int .i64 0)), none⟩,
   ⟨some 14, .mov (.t 19), none⟩])
 (.cond (.t 14)
  (.skip)
  (.seq (.reg [⟨some 20, .load false 1 (.t 4), none⟩,
    ⟨some 21, .bin .eql false (.t 20) (.c (.int .i64 0)), none⟩,
    ⟨some 14, .mov (.t 21), none⟩])
  (.cond (.t 14)
   (.skip)
   (.reg [⟨some 22, .load false 1 (.t 4), none⟩,
     ⟨some 23, .load false 1 (.t 5), none⟩,
     ⟨some 24, .bin .xor false (.t 23) (.c (.int .i64 1)), none⟩,
     ⟨some 25, .bin .eql false (.t 22) (.t 24), none⟩,
     ⟨some 14, .mov (.t 25), none⟩])))))
 (.cond (.t 14)
  (.seq (.reg [⟨some 6, .mov (.c (.int .i64 0)), none⟩])
  (.ret))
  (.seq (.seq (.reg [⟨some 27, .load false 1 (.t 4), none⟩,
    ⟨some 28, .bin .eql false (.t 27) (.c (.int .i64 1)), none⟩,
    ⟨some 26, .mov (.t 28), none⟩])
  (.cond (.t 26)
   (.skip)
   (.reg [⟨some 29, .load false 1 (.t 4), none⟩,
     ⟨some 30, .load false 1 (.t 5), none⟩,
     ⟨some 31, .bin .eql false (.t 29) (.t 30), none⟩,
     ⟨some 26, .mov (.t 31), none⟩])))
  (.cond (.t 26)
   (.seq (.reg [⟨some 32, .load false 1 (.t 5), none⟩,
     ⟨some 6, .mov (.t 32), none⟩])
   (.ret))
   (.skip))))))
 (.seq (.reg [⟨some 33, .mov (.t 0), none⟩,
   ⟨some 34, .nilchk (.t 33), none⟩,
   ⟨some 35, .fldA 0 (.t 34), none⟩,
   ⟨some 36, .fldA 2 (.t 35), none⟩,
   ⟨some 37, .load false 1 (.t 36), none⟩,
   ⟨some 38, .mkfn 103 [] [(.t 4), (.t 5)], none⟩,
   ⟨some 39, .call (.c (.fn 102 [] [])) [(.t 37), (.t 38)], none⟩,
   ⟨some 7, .mov (.t 39), none⟩])
 (.seq (.seq (.reg [⟨some 40, .mov (.t 7), none⟩,
   ⟨some 41, .bin .geq false (.t 40) (.c (.int .i64 0)), none⟩])
 (.cond (.t 41)
  (.seq (.reg [⟨some 42, .mov (.t 0), none⟩,
    ⟨some 43, .call (.c (.fn 101 [] [])) [(.t 42)], none⟩,
    ⟨some 44, .mov (.t 7), none⟩,
    ⟨some 45, .bin .add false (.t 43) (.t 44), none⟩,
    ⟨some 46, .bin .mul false (.c (.int .i64 2)) (.t 45), none⟩,
    ⟨some 6, .mov (.t 46), none⟩])
  (.ret))
  (.skip)))
 (.seq (.seq (.reg [⟨some 47, .mov (.t 0), none⟩,
   ⟨some 48, .call (.c (.fn 99 [] [])) [(.t 47)], none⟩,
   ⟨some 49, .bin .eql false (.t 48) (.c (.int .i64 65536)), none⟩])
 (.cond (.t 49)
  (.seq (.reg [⟨some 50, .mov (.t 0), none⟩,
    ⟨some 51, .nilchk (.t 50), none⟩,
    ⟨some 52, .fldA 4 (.t 51), none⟩,
    ⟨none, .store 1 (.t 52) (.c (.int .i64 2)), none⟩])
  (.seq (.reg [⟨some 6, .mov (.c (.int .i64 0)), none⟩])
  (.ret)))
  (.skip)))
 (.seq (.drw [⟨some 53, .mov (.t 0), none⟩,
   ⟨some 54, .mov (.t 0), none⟩,
   ⟨some 55, .nilchk (.t 54), none⟩,
   ⟨some 56, .fldA 0 (.t 55), none⟩,
   ⟨some 57, .fldA 2 (.t 56), none⟩,
   ⟨some 58, .load false 1 (.t 57), none⟩,
   ⟨some 59, .call (.c (.fn 104 [] [])) [(.t 58)], none⟩,
   ⟨some 60, .load false 1 (.t 4), none⟩,
   ⟨some 61, .load false 1 (.t 5), none⟩,
   ⟨some 62, .build [(.int .i64 0), (.int .i64 0)] [(0, 1, (.t 60)), (1, 1, (.t 61))], none⟩,
   ⟨some 63, .bslice 2 [(.t 62)], none⟩,
   ⟨some 64, .append 2 16 (.t 59) (.t 63), none⟩,
   ⟨some 65, .nilchk (.t 53), none⟩,
   ⟨some 66, .fldA 0 (.t 65), none⟩,
   ⟨some 67, .fldA 2 (.t 66), none⟩,
   ⟨none, .store 1 (.t 67) (.t 64), none⟩] [(6, 7), (6, 8)])
 (.seq (.reg [⟨some 68, .mov (.t 0), none⟩,
   ⟨some 69, .call (.c (.fn 99 [] [])) [(.t 68)], none⟩,
   ⟨some 70, .bin .mul false (.c (.int .i64 2)) (.t 69), none⟩,
   ⟨some 6, .mov (.t 70), none⟩])
 (.ret))))))))
def r92 : List ARV := [.tmp 6]
theorem b92 : Try.f92.body.bind (tr Try.prog 71) = some c92.bare := by kernel_rfl
theorem q92 : trRes Try.prog Try.f92.results.toList = some r92 := by kernel_rfl
theorem n92 : (Try.f92.name == "runtime.NumGoroutine") = false := by kernel_rfl

def c93 : ACode :=
 .seq (.reg [⟨some 6, .mov (.c (.int .i64 0)), none⟩])
 (.seq (.reg [⟨some 7, .mov (.t 0), none⟩,
   ⟨some 8, .mov (.t 1), none⟩,
   ⟨some 9, .bin .xor false (.t 8) (.c (.int .i64 1)), none⟩,
   ⟨some 10, .mov (.t 2), none⟩,
   ⟨some 11, .bin .xor false (.t 10) (.c (.int .i64 1)), none⟩,
   ⟨some 12, .call (.c (.fn 92 [] [])) [(.t 7), (.t 9), (.t 11)], none⟩,
   ⟨some 13, .bin .xor false (.t 12) (.c (.int .i64 1)), none⟩,
   ⟨some 6, .mov (.t 13), none⟩])
 (.ret))
def r93 : List ARV := [.tmp 6]
theorem b93 : Try.f93.body.bind (tr Try.prog 14) = some c93.bare := by kernel_rfl
theorem q93 : trRes Try.prog Try.f93.results.toList = some r93 := by kernel_rfl
theorem n93 : (Try.f93.name == "runtime.NumGoroutine") = false := by kernel_rfl

def c97 : ACode :=
 .seq (.reg [⟨some 2, .boxI (.t 0), none⟩,
   ⟨some 3, .mov (.c (.bool false)), none⟩])
 (.seq (.reg [⟨some 4, .load false 1 (.t 1), none⟩,
   ⟨some 5, .fldA 0 (.t 2), none⟩,
   ⟨some 6, .load false 1 (.t 5), none⟩,
   ⟨some 7, .call (.c (.fn 90 [] [])) [(.t 4), (.t 6)], none⟩,
   ⟨some 8, .un .not (.t 7), none⟩,
   ⟨some 3, .mov (.t 8), none⟩])
 (.ret))
def r97 : List ARV := [.tmp 3]
theorem b97 : Try.f97.body.bind (tr Try.prog 9) = some c97.bare := by kernel_rfl
theorem q97 : trRes Try.prog Try.f97.results.toList = some r97 := by kernel_rfl
theorem n97 : (Try.f97.name == "runtime.NumGoroutine") = false := by kernel_rfl

def c98 : ACode :=
 .seq (.reg [⟨some 3, .mov (.c (.bool false)), none⟩])
 (.seq (.reg [⟨some 4, .load false 1 (.t 1), none⟩,
   ⟨some 5, .mov (.t 0), none⟩,
   ⟨some 6, .call (.c (.fn 90 [] [])) [(.t 4), (.t 5)], none⟩,
   ⟨some 7, .un .not (.t 6), none⟩,
   ⟨some 3, .mov (.t 7), none⟩])
 (.ret))
def r98 : List ARV := [.tmp 3]
theorem b98 : Try.f98.body.bind (tr Try.prog 8) = some c98.bare := by kernel_rfl
theorem q98 : trRes Try.prog Try.f98.results.toList = some r98 := by kernel_rfl
theorem n98 : (Try.f98.name == "runtime.NumGoroutine") = false := by kernel_rfl

def c99 : ACode :=
 .seq (.reg [⟨some 2, .mov (.c (.int .i64 0)), none⟩])
 (.seq (.drw [⟨some 3, .mov (.t 0), none⟩,
   ⟨some 4, .nilchk (.t 3), none⟩,
   ⟨some 5, .fldA 0 (.t 4), none⟩,
   ⟨some 6, .fldA 0 (.t 5), none⟩,
   ⟨some 7, .load false 1 (.t 6), none⟩,
   ⟨some 8, .mov (.t 0), none⟩,
   ⟨some 9, .nilchk (.t 8), none⟩,
   ⟨some 10, .fldA 0 (.t 9), none⟩,
   ⟨some 11, .fldA 1 (.t 10), none⟩,
   ⟨some 12, .load false 1 (.t 11), none⟩,
   ⟨some 13, .len (.t 12), none⟩,
   ⟨some 14, .bin .add false (.t 7) (.t 13), none⟩,
   ⟨some 15, .mov (.t 0), none⟩,
   ⟨some 16, .nilchk (.t 15), none⟩,
   ⟨some 17, .fldA 0 (.t 16), none⟩,
   ⟨some 18, .fldA 2 (.t 17), none⟩,
   ⟨some 19, .load false 1 (.t 18), none⟩,
   ⟨some 20, .len (.t 19), none⟩,
   ⟨some 21, .bin .add false (.t 14) (.t 20), none⟩,
   ⟨some 2, .mov (.t 21), none⟩] [])
 (.ret))
def r99 : List ARV := [.tmp 2]
theorem b99 : Try.f99.body.bind (tr Try.prog 22) = some c99.bare := by kernel_rfl
theorem q99 : trRes Try.prog Try.f99.results.toList = some r99 := by kernel_rfl
theorem n99 : (Try.f99.name == "runtime.NumGoroutine") = false := by kernel_rfl

def c100 : ACode :=
 .seq (.reg [⟨some 4, .mov (.c (.bool false)), none⟩])
 (.seq (.reg [⟨some 5, .mov (.t 0), none⟩,
   ⟨some 6, .mov (.t 1), none⟩,
   ⟨some 7, .call (.c (.fn 105 [] [])) [(.t 5), (.t 6)], none⟩,
   ⟨some 8, .bin .geq false (.t 7) (.c (.int .i64 0)), none⟩,
   ⟨some 4, .mov (.t 8), none⟩])
 (.ret))
def r100 : List ARV := [.tmp 4]
theorem b100 : Try.f100.body.bind (tr Try.prog 9) = some c100.bare := by kernel_rfl
theorem q100 : trRes Try.prog Try.f100.results.toList = some r100 := by kernel_rfl
theorem n100 : (Try.f100.name == "runtime.NumGoroutine") = false := by kernel_rfl

def c101 : ACode :=
 .seq (.reg [⟨some 2, .mov (.c (.int .i64 0)), none⟩])
 (.seq (.drw [⟨some 3, .mov (.t 0), none⟩,
   ⟨some 4, .nilchk (.t 3), none⟩,
   ⟨some 5, .fldA 0 (.t 4), none⟩,
   ⟨some 6, .fldA 0 (.t 5), none⟩,
   ⟨some 7, .load false 1 (.t 6), none⟩,
   ⟨some 8, .bin .add false (.c (.int .i64 1)) (.t 7), none⟩,
   ⟨some 9, .mov (.t 0), none⟩,
   ⟨some 10, .nilchk (.t 9), none⟩,
   ⟨some 11, .fldA 0 (.t 10), none⟩,
   ⟨some 12, .fldA 1 (.t 11), none⟩,
   ⟨some 13, .load false 1 (.t 12), none⟩,
   ⟨some 14, .len (.t 13), none⟩,
   ⟨some 15, .bin .add false (.t 8) (.t 14), none⟩,
   ⟨some 2, .mov (.t 15), none⟩] [])
 (.ret))
def r101 : List ARV := [.tmp 2]
theorem b101 : Try.f101.body.bind (tr Try.prog 16) = some c101.bare := by kernel_rfl
theorem q101 : trRes Try.prog Try.f101.results.toList = some r101 := by kernel_rfl
theorem n101 : (Try.f101.name == "runtime.NumGoroutine") = false := by kernel_rfl

def c102 : ACode :=
 .seq (.reg [⟨some 4, .mov (.c (.int .i64 0)), none⟩])
 (.seq (.seq (.reg [⟨some 6, .mov (.t 0), none⟩,
   ⟨some 7, .len (.t 6), none⟩,
   ⟨some 8, .mov (.c (.int .i64 0)), none⟩])
 (.block 0 (.loop (.seq (.reg [⟨some 9, .bin .lss false (.t 8) (.t 7), none⟩])
  (.seq (.cond (.t 9)
   (.skip)
   (.exit 0))
  (.seq (.block 1 (.seq (.reg [⟨some 10, .mov (.t 8), none⟩,
    ⟨some 5, .mov (.t 10), none⟩])
  (.seq (.reg [⟨some 11, .mov (.t 1), none⟩,
    ⟨some 12, .mov (.t 0), none⟩,
    ⟨some 13, .mov (.t 5), none⟩,
    ⟨some 14, .idxS 2 (.t 12) (.t 13), none⟩,
    ⟨some 15, .load true 2 (.t 14), none⟩,
    ⟨some 16, .call (.t 11) [(.t 15)], none⟩])
  (.cond (.t 16)
   (.seq (.reg [⟨some 17, .mov (.t 5), none⟩,
     ⟨some 4, .mov (.t 17), none⟩])
   (.ret))
   (.skip)))))
  (.reg [⟨some 18, .bin .add false (.t 8) (.c (.int .i64 1)), none⟩,
    ⟨some 8, .mov (.t 18), none⟩])))))))
 (.seq (.reg [⟨some 4, .mov (.c (.int .i64 (-1))), none⟩])
 (.ret)))
def r102 : List ARV := [.tmp 4]
theorem b102 : Try.f102.body.bind (tr Try.prog 19) = some c102.bare := by kernel_rfl
theorem q102 : trRes Try.prog Try.f102.results.toList = some r102 := by kernel_rfl
theorem n102 : (Try.f102.name == "runtime.NumGoroutine") = false := by kernel_rfl

def c103 : ACode :=
 .seq (.reg [⟨some 3, .boxI (.t 0), none⟩,
   ⟨some 4, .mov (.c (.bool false)), none⟩])
 (.seq (.reg [⟨some 5, .idxR 1 2 (.t 3) (.c (.int .i64 0)), none⟩,
   ⟨some 6, .load false 1 (.t 5), none⟩,
   ⟨some 7, .idxR 1 2 (.t 3) (.c (.int .i64 1)), none⟩,
   ⟨some 8, .load false 1 (.t 7), none⟩,
   ⟨some 9, .min [(.t 6), (.t 8)], none⟩,
   ⟨some 10, .load false 1 (.t 1), none⟩,
   ⟨some 11, .bin .eql false (.t 9) (.t 10), none⟩,
   ⟨some 12, .mov (.t 11), none⟩,
   ⟨some 13, .idxR 1 2 (.t 3) (.c (.int .i64 0)), some (12, true)⟩,
   ⟨some 14, .load false 1 (.t 13), some (12, true)⟩,
   ⟨some 15, .idxR 1 2 (.t 3) (.c (.int .i64 1)), some (12, true)⟩,
   ⟨some 16, .load false 1 (.t 15), some (12, true)⟩,
   ⟨some 17, .max [(.t 14), (.t 16)], some (12, true)⟩,
   ⟨some 18, .load false 1 (.t 2), some (12, true)⟩,
   ⟨some 19, .bin .eql false (.t 17) (.t 18), some (12, true)⟩,
   ⟨some 20, .pick (.t 12) (.t 19) (.c (.bool false)), none⟩,
   ⟨some 4, .mov (.t 20), none⟩])
 (.ret))
def r103 : List ARV := [.tmp 4]
theorem b103 : Try.f103.body.bind (tr Try.prog 21) = some c103.bare := by kernel_rfl
theorem q103 : trRes Try.prog Try.f103.results.toList = some r103 := by kernel_rfl
theorem n103 : (Try.f103.name == "runtime.NumGoroutine") = false := by kernel_rfl

def c104 : ACode :=
 .seq (.reg [⟨some 2, .mov (.c (.slice [] .nil)), none⟩])
 (.seq (.reg [⟨some 3, .mov (.t 0), none⟩,
   ⟨some 4, .mov (.t 0), none⟩,
   ⟨some 5, .len (.t 4), none⟩,
   ⟨some 6, .mov (.t 0), none⟩,
   ⟨some 7, .len (.t 6), none⟩,
   ⟨some 8, .slc 2 (.t 3) none (some (.t 5)) (some (.t 7)), none⟩,
   ⟨some 2, .mov (.t 8), none⟩])
 (.ret))
def r104 : List ARV := [.tmp 2]
theorem b104 : Try.f104.body.bind (tr Try.prog 9) = some c104.bare := by kernel_rfl
theorem q104 : trRes Try.prog Try.f104.results.toList = some r104 := by kernel_rfl
theorem n104 : (Try.f104.name == "runtime.NumGoroutine") = false := by kernel_rfl

def c105 : ACode :=
 .seq (.reg [⟨some 4, .mov (.c (.int .i64 0)), none⟩])
 (.seq (.seq (.reg [⟨some 6, .mov (.t 0), none⟩,
   ⟨some 7, .len (.t 6), none⟩,
   ⟨some 8, .mov (.c (.int .i64 0)), none⟩])
 (.block 0 (.loop (.seq (.reg [⟨some 9, .bin .lss false (.t 8) (.t 7), none⟩])
  (.seq (.cond (.t 9)
   (.skip)
   (.exit 0))
  (.seq (.block 1 (.seq (.reg [⟨some 10, .mov (.t 8), none⟩,
    ⟨some 5, .mov (.t 10), none⟩])
  (.seq (.reg [⟨some 11, .mov (.t 1), none⟩,
    ⟨some 12, .mov (.t 0), none⟩,
    ⟨some 13, .mov (.t 5), none⟩,
    ⟨some 14, .idxS 2 (.t 12) (.t 13), none⟩,
    ⟨some 15, .load true 2 (.t 14), none⟩,
    ⟨some 16, .call (.t 11) [(.t 15)], none⟩])
  (.cond (.t 16)
   (.seq (.reg [⟨some 17, .mov (.t 5), none⟩,
     ⟨some 4, .mov (.t 17), none⟩])
   (.ret))
   (.skip)))))
  (.reg [⟨some 18, .bin .add false (.t 8) (.c (.int .i64 1)), none⟩,
    ⟨some 8, .mov (.t 18), none⟩])))))))
 (.seq (.reg [⟨some 4, .mov (.c (.int .i64 (-1))), none⟩])
 (.ret)))
def r105 : List ARV := [.tmp 4]
theorem b105 : Try.f105.body.bind (tr Try.prog 19) = some c105.bare := by kernel_rfl
theorem q105 : trRes Try.prog Try.f105.results.toList = some r105 := by kernel_rfl
theorem n105 : (Try.f105.name == "runtime.NumGoroutine") = false := by kernel_rfl

end Go.Proofs.Ytbbihmmobfmadaa

namespace Fil
open Abs
structure Flop where
  next : Int
  init : Bool
  deriving DecidableEq, Repr
structure Aig where
  ins : Int
  flops : List Flop
  ands : List (Int × Int)
  outs : List Int
  deriving DecidableEq, Repr
abbrev encFlop (f : Flop) : AV := .agg [.int .i64 f.next, .bool f.init]
abbrev encGate (g : Int × Int) : AV := .agg [.int .i64 g.1, .int .i64 g.2]
abbrev encInt (a : Int) : AV := .int .i64 a
abbrev encBool (a : Bool) : AV := .bool a
abbrev aigL (g : Aig) : List AV := [.int .i64 g.ins, .slice (g.flops.map encFlop) .no, .slice (g.ands.map encGate) .no, .slice (g.outs.map encInt) .no]
abbrev encAig (g : Aig) : AV := .agg (aigL g)
abbrev workC (g : Aig) (e : Int) : AObj := .cells [.int .i64 g.ins, .slice (g.flops.map encFlop) .no, .slice (g.ands.map encGate) .no, .slice (g.outs.map encInt) .no, .int .i64 e]
def I64 (a : Int) : Prop := -9223372036854775808 ≤ a ∧ a ≤ 9223372036854775807
structure Wf (g : Aig) : Prop where
  ins : I64 g.ins
  flops : g.flops.length ≤ 1000000
  ands : g.ands.length ≤ 1000000
  outs : g.outs.length ≤ 1000000
  nexts : ∀ f ∈ g.flops, I64 f.next
  gates : ∀ x ∈ g.ands, I64 x.1 ∧ I64 x.2
  lits : ∀ a ∈ g.outs, I64 a
structure Small (g : Aig) : Prop extends Wf g where
  lo : 0 ≤ g.ins
  hi : g.ins ≤ 1000000
namespace Aig
def count (g : Aig) : Int := g.ins + g.flops.length + g.ands.length
def first (g : Aig) : Int := 1 + g.ins + g.flops.length
def litN (n a : Int) : Bool := decide (0 ≤ a) && decide (a < 2 * n)
def lit (g : Aig) (a : Int) : Bool := litN (1 + g.count) a
def gatesOk : Int → List (Int × Int) → Bool
  | _, [] => true
  | n, x :: l => litN n x.1 && litN n x.2 && gatesOk (n + 1) l
def good (g : Aig) : Bool := gatesOk g.first g.ands && !(g.flops.any fun f => !g.lit f.next) && !(g.outs.any fun a => !g.lit a)
def check (g : Aig) : Int :=
  if g.ins < 0 then 1
  else if 65536 < g.ins ∨ 65536 < g.count ∨ 65536 < (g.outs.length : Int) then 2
  else if g.good then 0 else 1
def checkL (g : Aig) : Int → List Int → Int
  | e, [] => e
  | e, a :: l => g.checkL (if e = 0 ∧ g.lit a = false then 1 else e) l
def find (g : Aig) (a b : Int) : Int := idxF (fun x : Int × Int => decide (min x.1 x.2 = a) && decide (max x.1 x.2 = b)) g.ands
def andO (g : Aig) (p q : Int) : Option (Aig × Int) :=
  let a := min p q
  let b := max p q
  if a = 0 ∨ a = turn b then some (g, 0)
  else if a = 1 ∨ a = b then some (g, b)
  else if 0 ≤ g.find a b then some (g, 2 * (g.first + g.find a b))
  else if g.count = 65536 then none
  else some ({ g with ands := g.ands ++ [(a, b)] }, 2 * (g.count + 1))
def andW (g : Aig) (e p q : Int) : Aig × Int × Int :=
  if e ≠ 0 then (g, e, 0) else match g.andO p q with
    | none => (g, 2, 0)
    | some (g', x) => (g', 0, x)
def orW (g : Aig) (e p q : Int) : Aig × Int × Int :=
  let r := g.andW e (turn p) (turn q)
  (r.1, r.2.1, turn r.2.2)
def endW (r : Aig × Int × Int) : Aig × Int × Int := if r.2.1 ≠ 0 then (⟨0, [], [], []⟩, 0, r.2.1) else (r.1, r.2.2, 0)
end Aig
theorem litN_iff {n a : Int} : Aig.litN n a = true ↔ 0 ≤ a ∧ a < 2 * n := by simp [Aig.litN]
theorem gatesOk_iff : ∀ {l : List (Int × Int)} {n : Int}, Aig.gatesOk n l = true ↔ ∀ i, (h : i < l.length) → (0 ≤ l[i].1 ∧ l[i].1 < 2 * (n + i)) ∧ (0 ≤ l[i].2 ∧ l[i].2 < 2 * (n + i))
  | [], n => by simp [Aig.gatesOk]
  | x :: l, n => by
    simp only [Aig.gatesOk, Bool.and_eq_true, litN_iff, gatesOk_iff (l := l) (n := n + 1)]
    constructor
    · rintro ⟨h1, h2⟩ i hi
      cases i with
      | zero => simpa using h1
      | succ i =>
        have := h2 i (by simpa using hi)
        simp only [List.getElem_cons_succ]
        omega
    · intro h
      have h0 := h 0 (by simp)
      refine ⟨by simpa using h0, fun i hi => ?_⟩
      have := h (i + 1) (by simpa using hi)
      simp only [List.getElem_cons_succ] at this
      omega
theorem gatesOk_false {l : List (Int × Int)} {n : Int} {i : Nat} (h : i < l.length) (hb : ¬ ((0 ≤ l[i].1 ∧ l[i].1 < 2 * (n + i)) ∧ (0 ≤ l[i].2 ∧ l[i].2 < 2 * (n + i)))) : Aig.gatesOk n l = false := by
  cases hh : Aig.gatesOk n l with
  | false => rfl
  | true => exact (hb (gatesOk_iff.1 hh i h)).elim
theorem checkL_append (g : Aig) : ∀ (l m : List Int) (e : Int), g.checkL e (l ++ m) = g.checkL (g.checkL e l) m
  | [], m, e => rfl
  | a :: l, m, e => by simp only [List.cons_append, Aig.checkL]; exact checkL_append g l m _
theorem checkL_snoc (g : Aig) (l : List Int) (a e : Int) : g.checkL e (l ++ [a]) = if g.checkL e l = 0 ∧ g.lit a = false then 1 else g.checkL e l := by
  rw [checkL_append]; rfl
theorem checkL_zero {g : Aig} : ∀ {l : List Int} {e : Int}, g.checkL e l = 0 ↔ e = 0 ∧ ∀ a ∈ l, g.lit a = true
  | [], e => by simp [Aig.checkL]
  | a :: l, e => by
    simp only [Aig.checkL, checkL_zero (l := l), List.mem_cons, forall_eq_or_imp]
    by_cases he : e = 0
    · cases h : g.lit a <;> simp [he, h]
    · simp [he]
theorem check_small {g : Aig} (hs : Wf g) (h : g.check = 0) : Small g := by
  unfold Aig.check at h
  split at h
  · simp at h
  · split at h
    · simp at h
    · exact ⟨hs, by omega, by omega⟩
theorem checkL_small {g : Aig} {l : List Int} (hs : Wf g) (h : g.checkL g.check l = 0) : Small g := check_small hs (checkL_zero.1 h).1
section
variable {g : Aig} {a b : Int}
theorem andW1 (h : min a b = 0 ∨ min a b = turn (max a b)) : g.andW 0 a b = (g, 0, 0) := by simp [Aig.andW, Aig.andO, h]
theorem andW2 (h : ¬ (min a b = 0 ∨ min a b = turn (max a b))) (h2 : min a b = 1 ∨ min a b = max a b) : g.andW 0 a b = (g, 0, max a b) := by
  simp only [Aig.andW, Aig.andO, h, h2, if_true, if_false]; rfl
theorem andW3 (h : ¬ (min a b = 0 ∨ min a b = turn (max a b))) (h2 : ¬ (min a b = 1 ∨ min a b = max a b)) (h3 : 0 ≤ g.find (min a b) (max a b)) : g.andW 0 a b = (g, 0, 2 * (g.first + g.find (min a b) (max a b))) := by
  simp only [Aig.andW, Aig.andO, h, h2, h3, if_true, if_false]; rfl
theorem andW4 (h : ¬ (min a b = 0 ∨ min a b = turn (max a b))) (h2 : ¬ (min a b = 1 ∨ min a b = max a b)) (h3 : ¬ 0 ≤ g.find (min a b) (max a b)) (h4 : g.count = 65536) : g.andW 0 a b = (g, 2, 0) := by
  simp only [Aig.andW, Aig.andO, h, h2, h3, h4, if_true, if_false]; rfl
theorem andW5 (h : ¬ (min a b = 0 ∨ min a b = turn (max a b))) (h2 : ¬ (min a b = 1 ∨ min a b = max a b)) (h3 : ¬ 0 ≤ g.find (min a b) (max a b)) (h4 : ¬ g.count = 65536) :
    g.andW 0 a b = ({ g with ands := g.ands ++ [(min a b, max a b)] }, 0, 2 * (g.count + 1)) := by
  simp only [Aig.andW, Aig.andO, h, h2, h3, h4, if_false]; rfl
theorem count_push (x : Int × Int) : ({ g with ands := g.ands ++ [x] } : Aig).count = g.count + 1 := by simp [Aig.count]; omega
end
theorem szs_gate (l : List (Int × Int)) : szs 2 (l.map encGate) = True := szs_map _ _ _ fun _ => rfl
theorem szs_flop (l : List Flop) : szs 2 (l.map encFlop) = True := szs_map _ _ _ fun _ => rfl
theorem szs_int (l : List Int) : szs 1 (l.map encInt) = True := szs_map _ _ _ fun _ => rfl
theorem szs_bool (l : List Bool) : szs 1 (l.map encBool) = True := szs_map _ _ _ fun _ => rfl
attribute [go_sem] szs_gate szs_flop szs_int szs_bool

/-! ### Making gates -/
structure Ext (g g' : Aig) : Prop where
  ins : g'.ins = g.ins
  flops : g'.flops = g.flops
  outs : g'.outs = g.outs
  ands : ∃ l, g'.ands = g.ands ++ l
theorem Ext.refl (g : Aig) : Ext g g := ⟨rfl, rfl, rfl, [], by simp⟩
theorem Ext.trans {g g' g'' : Aig} (h : Ext g g') (h' : Ext g' g'') : Ext g g'' := by
  obtain ⟨a1, a2, a3, l, a4⟩ := h
  obtain ⟨b1, b2, b3, m, b4⟩ := h'
  exact ⟨b1.trans a1, b2.trans a2, b3.trans a3, l ++ m, by rw [b4, a4, List.append_assoc]⟩
theorem Ext.count {g g' : Aig} (h : Ext g g') : g.count ≤ g'.count := by
  obtain ⟨a1, a2, a3, l, a4⟩ := h
  simp only [Aig.count, a1, a2, a4, List.length_append]; omega
theorem Ext.first {g g' : Aig} (h : Ext g g') : g'.first = g.first := by simp only [Aig.first, h.ins, h.flops]
theorem Ext.lit {g g' : Aig} (h : Ext g g') {a : Int} (ha : g.lit a = true) : g'.lit a = true := by
  have := h.count
  simp only [Aig.lit, litN_iff] at ha ⊢
  omega
structure Fine (g : Aig) : Prop extends Small g where
  cnt : g.count ≤ 65536
  gok : Aig.gatesOk g.first g.ands = true
theorem gatesOk_append {n : Int} : ∀ {l m : List (Int × Int)}, Aig.gatesOk n (l ++ m) = (Aig.gatesOk n l && Aig.gatesOk (n + l.length) m)
  | [], m => by simp [Aig.gatesOk]
  | x :: l, m => by
    simp only [List.cons_append, Aig.gatesOk, gatesOk_append (l := l), List.length_cons, Bool.and_assoc]
    congr 4; simp only [Int.natCast_add]; omega
theorem count_first (g : Aig) : 1 + g.count = g.first + g.ands.length := by simp only [Aig.count, Aig.first]; omega
theorem turn_lit {n a : Int} (h : Aig.litN n a = true) : Aig.litN n (turn a) = true := by
  simp only [litN_iff, turn] at h ⊢; omega
theorem andO_some {g g' : Aig} {p q x : Int} (hf : Fine g) (hp : g.lit p = true) (hq : g.lit q = true) (h : g.andO p q = some (g', x)) : Fine g' ∧ Ext g g' ∧ g'.lit x = true := by
  have hp' := litN_iff.1 hp
  have hq' := litN_iff.1 hq
  have hlo := hf.lo
  have hc : 0 ≤ g.count := by unfold Aig.count; omega
  unfold Aig.andO at h
  simp only at h
  split at h
  · simp at h; obtain ⟨rfl, rfl⟩ := h
    exact ⟨hf, .refl g, by simp only [Aig.lit, litN_iff]; omega⟩
  · rename_i h1
    split at h
    · simp at h; obtain ⟨rfl, rfl⟩ := h
      exact ⟨hf, .refl g, by simp only [Aig.lit, litN_iff]; omega⟩
    · split at h
      · simp at h; obtain ⟨rfl, rfl⟩ := h
        have := idxF_bounds (fun x : Int × Int => decide (min x.1 x.2 = min p q) && decide (max x.1 x.2 = max p q)) g.ands
        have e : g.find (min p q) (max p q) = idxF (fun x : Int × Int => decide (min x.1 x.2 = min p q) && decide (max x.1 x.2 = max p q)) g.ands := rfl
        have cf := count_first g
        refine ⟨hf, .refl g, ?_⟩
        have hff : 1 ≤ g.first := by unfold Aig.first; omega
        simp only [Aig.lit, litN_iff]; omega
      · split at h
        · simp at h
        · rename_i hcn
          simp at h; obtain ⟨rfl, rfl⟩ := h
          have hcc := hf.cnt
          have hlen : (g.ands.length : Int) ≤ 65536 := by simp only [Aig.count] at hcc; omega
          have cp := count_push (g := g) (min p q, max p q)
          have cf := count_first g
          have hsm : Small { g with ands := g.ands ++ [(min p q, max p q)] } := { hf.toSmall with
            ands := by simp; omega
            gates := fun y hy => by
              rcases List.mem_append.1 hy with h | h
              · exact hf.gates y h
              · simp at h; subst h; exact ⟨⟨by simp; omega, by simp; omega⟩, ⟨by simp; omega, by simp; omega⟩⟩ }
          refine ⟨{ hsm with cnt := by omega, gok := ?_ }, ⟨rfl, rfl, rfl, _, rfl⟩, by simp only [Aig.lit, litN_iff]; omega⟩
          show Aig.gatesOk g.first (g.ands ++ [(min p q, max p q)]) = true
          rw [gatesOk_append, hf.gok]
          simp only [Aig.gatesOk, Bool.and_true, Bool.true_and, Bool.and_eq_true, litN_iff]
          omega
theorem andW_err {g : Aig} {e p q : Int} (h : (g.andW e p q).2.1 = 0) : e = 0 := by
  unfold Aig.andW at h
  split at h
  · exact h
  · rename_i h'; simpa using h'
theorem andW_none {g : Aig} {e p q : Int} (h : e ≠ 0) : g.andW e p q = (g, e, 0) := by simp [Aig.andW, h]
theorem andW_ok {g : Aig} {e p q : Int} (hf : e = 0 → Fine g ∧ g.lit p = true ∧ g.lit q = true) :
    ((g.andW e p q).2.1 = 0 → Fine (g.andW e p q).1 ∧ (g.andW e p q).1.lit (g.andW e p q).2.2 = true) ∧ Ext g (g.andW e p q).1 ∧ 0 ≤ (g.andW e p q).2.2 ∧ (g.andW e p q).2.2 ≤ 1000000 := by
  by_cases he : e = 0
  · subst he
    obtain ⟨h1, h2, h3⟩ := hf rfl
    cases ho : g.andO p q with
    | none =>
      have : g.andW 0 p q = (g, 2, 0) := by simp [Aig.andW, ho]
      rw [this]
      exact ⟨fun h => by simp at h, .refl g, by simp, by simp⟩
    | some r =>
      obtain ⟨g', x⟩ := r
      have : g.andW 0 p q = (g', 0, x) := by simp [Aig.andW, ho]
      rw [this]
      obtain ⟨k1, k2, k3⟩ := andO_some h1 h2 h3 ho
      have := litN_iff.1 k3
      have := k1.cnt
      exact ⟨fun _ => ⟨k1, k3⟩, k2, by simp; omega, by simp; omega⟩
  · rw [andW_none he]
    exact ⟨fun h => (he h).elim, .refl g, by simp, by simp⟩
theorem andW_range {g : Aig} {e p q : Int} (hf : e = 0 → Fine g ∧ g.lit p = true ∧ g.lit q = true) : I64 (g.andW e p q).2.2 := by
  obtain ⟨_, _, h1, h2⟩ := andW_ok hf
  exact ⟨by omega, by omega⟩
theorem check_fine {g : Aig} (hs : Wf g) (h : g.check = 0) : Fine g := by
  have hsm := check_small hs h
  unfold Aig.check at h
  split at h
  · simp at h
  · split at h
    · simp at h
    · split at h
      · rename_i hg
        simp only [Aig.good, Bool.and_eq_true] at hg
        exact { hsm with cnt := by omega, gok := hg.1.1 }
      · simp at h
theorem checkL_fine {g : Aig} {l : List Int} (hs : Wf g) (h : g.checkL g.check l = 0) : Fine g ∧ ∀ a ∈ l, g.lit a = true := ⟨check_fine hs (checkL_zero.1 h).1, (checkL_zero.1 h).2⟩
namespace Aig
def And (g : Aig) (a b : Int) : Aig × Int × Int := endW (g.andW (g.checkL g.check [a, b]) a b)
def Or (g : Aig) (a b : Int) : Aig × Int × Int := endW (g.orW (g.checkL g.check [a, b]) a b)
def pairs (g : Aig) (e a b c d : Int) : Aig × Int × Int :=
  let r := g.andW e a b
  let s := r.1.andW r.2.1 c d
  s.1.orW s.2.1 r.2.2 s.2.2
def Xor (g : Aig) (a b : Int) : Aig × Int × Int := endW (g.pairs (g.checkL g.check [a, b]) a (turn b) (turn a) b)
def Mux (g : Aig) (c a b : Int) : Aig × Int × Int := endW (g.pairs (g.checkL g.check [c, a, b]) c a (turn c) b)
def New (ins : Int) (init : List Bool) : Aig × Int :=
  if ins < 0 then (⟨0, [], [], []⟩, 1) else if 65536 < ins + init.length then (⟨0, [], [], []⟩, 2) else (⟨ins, init.map fun b => ⟨0, b⟩, [], []⟩, 0)
def val (v : List Bool) (a : Int) : Bool := (v.getD (a / 2).toNat false) != decide (a % 2 = 1)
def vals : List Bool → List (Int × Int) → List Bool
  | v, [] => v
  | v, x :: l => vals (v ++ [val v x.1 && val v x.2]) l
def Nodes (g : Aig) (inp st : List Bool) : List Bool × Int :=
  if g.check ≠ 0 then ([], g.check) else if (inp.length : Int) ≠ g.ins ∨ st.length ≠ g.flops.length then ([], 1) else (vals (false :: (inp ++ st)) g.ands, 0)
end Aig
theorem vals_append : ∀ (l m : List (Int × Int)) (v : List Bool), Aig.vals v (l ++ m) = Aig.vals (Aig.vals v l) m
  | [], m, v => rfl
  | x :: l, m, v => by simp only [List.cons_append, Aig.vals]; exact vals_append l m _
theorem vals_snoc (l : List (Int × Int)) (x : Int × Int) (v : List Bool) : Aig.vals v (l ++ [x]) = Aig.vals v l ++ [Aig.val (Aig.vals v l) x.1 && Aig.val (Aig.vals v l) x.2] := by
  rw [vals_append]; rfl
theorem vals_length : ∀ (l : List (Int × Int)) (v : List Bool), (Aig.vals v l).length = v.length + l.length
  | [], v => rfl
  | x :: l, v => by simp only [Aig.vals, vals_length l, List.length_append, List.length_cons, List.length_nil]; omega
theorem vals_step {l : List (Int × Int)} {v : List Bool} {i : Nat} (h : i < l.length) :
    Aig.vals v (l.take (i + 1)) = Aig.vals v (l.take i) ++ [Aig.val (Aig.vals v (l.take i)) l[i].1 && Aig.val (Aig.vals v (l.take i)) l[i].2] := by
  rw [List.take_add_one, List.getElem?_eq_getElem h]
  exact vals_snoc _ _ _
theorem vals_len {l : List (Int × Int)} {v : List Bool} {i : Nat} (h : i ≤ l.length) : (Aig.vals v (l.take i)).length = v.length + i := by
  rw [vals_length, List.length_take]; omega
theorem take_succ {α : Type} {l : List α} {i : Nat} (h : i < l.length) : l.take (i + 1) = l.take i ++ [l[i]] := by
  rw [List.take_add_one, List.getElem?_eq_getElem h]; rfl
theorem endW_ok {r : Aig × Int × Int} (h : r.2.1 = 0) : Aig.endW r = (r.1, r.2.2, 0) := by simp [Aig.endW, h]
theorem endW_err {r : Aig × Int × Int} (h : r.2.1 ≠ 0) : Aig.endW r = (⟨0, [], [], []⟩, 0, r.2.1) := by simp [Aig.endW, h]
end Fil

namespace Go.Proofs.Ytbbihmmobfmadaa.A
open Abs Fil
theorem aig_count (o : Nat) (g : Aig) (e : Int) (σ : Sig) (h : σ o = some (workC g e)) (hs : Small g) :
    ACalls Try.prog 99 [.ptr o 0] σ (fun r σ' => r = .ret (.int .i64 g.count) ∧ σ' = σ) := by
  refine calls_x mixed Try.func99 b99 n99 rfl q99 (by simp) ?_; unfold c99 r99
  obtain ⟨⟨h0, h1, h2, h3, h4, h5, h6⟩, h7, h8⟩ := hs
  repeat' (first | simp (maxDischargeDepth := 9) -implicitDefEqProofs -dsimp only [go_sem, seval, *] | simp (disch := omega) only [wrap64])
  exact fin_id ⟨rfl, rfl⟩
theorem aig_first (o : Nat) (g : Aig) (e : Int) (σ : Sig) (h : σ o = some (workC g e)) (hs : Small g) :
    ACalls Try.prog 101 [.ptr o 0] σ (fun r σ' => r = .ret (.int .i64 g.first) ∧ σ' = σ) := by
  refine calls_x mixed Try.func101 b101 n101 rfl q101 (by simp) ?_; unfold c101 r101
  obtain ⟨⟨h0, h1, h2, h3, h4, h5, h6⟩, h7, h8⟩ := hs
  repeat' (first | simp (maxDischargeDepth := 9) -implicitDefEqProofs -dsimp only [go_sem, seval, *] | simp (disch := omega) only [wrap64])
  exact fin_id ⟨rfl, rfl⟩
theorem aig_lit (o : Nat) (g : Aig) (e a : Int) (σ : Sig) (h : σ o = some (workC g e)) (hs : Small g) (ha : I64 a) :
    ACalls Try.prog 90 [.ptr o 0, .int .i64 a] σ (fun r σ' => r = .ret (.bool (g.lit a)) ∧ σ' = σ) := by
  refine calls_x mixed Try.func90 b90 n90 rfl q90 (by simp) ?_; unfold c90 r90
  obtain ⟨ha1, ha2⟩ := ha
  repeat' (first | simp (maxDischargeDepth := 9) -implicitDefEqProofs -dsimp only [go_sem, seval, *] | simp (disch := omega) only [wrap64, tdiv2] | (with_reducible (first | apply Za) <;> intro hq) | ((with_reducible apply ACalls.one1); (focus ((first | with_reducible refine aig_count o g e σ h hs) <;> (first | (simp (maxDischargeDepth := 9) -implicitDefEqProofs -dsimp only [go_sem, seval, *]; done) | omega))); (focus (first | trivial | with_reducible exact rfl | (simp (maxDischargeDepth := 9) -implicitDefEqProofs -dsimp only [go_sem, seval]; done)))))
  · refine fin_eq ?_
    simp (maxDischargeDepth := 9) -implicitDefEqProofs -dsimp only [go_sem, seval]
    rw [Bool.eq_iff_iff]
    simp only [Aig.lit, litN_iff, decide_eq_true_eq]
    omega
  · refine fin_eq ?_
    simp (maxDischargeDepth := 9) -implicitDefEqProofs -dsimp only [go_sem, seval]
    have : ¬ (0 ≤ a) := by omega
    simp [Aig.lit, Aig.litN, this]
theorem aig_check1 (b o : Nat) (f : Flop) (g : Aig) (e : Int) (σ : Sig) (hb : σ b = some (.cells [.ptr o 0])) (h : σ o = some (workC g e)) (hs : Small g) (hf : I64 f.next) :
    ACalls Try.prog 97 [encFlop f, .ptr b 0] σ (fun r σ' => r = .ret (.bool (!g.lit f.next)) ∧ σ' = σ) := by
  refine calls_x mixed Try.func97 b97 n97 rfl q97 (by simp) ?_; unfold c97 r97
  repeat' (first | simp (maxDischargeDepth := 9) -implicitDefEqProofs -dsimp only [go_sem, seval, *] | ((with_reducible apply ACalls.one1); (focus ((first | with_reducible refine aig_lit o g e f.next σ h hs hf) <;> (first | (simp (maxDischargeDepth := 9) -implicitDefEqProofs -dsimp only [go_sem, seval, *]; done) | omega))); (focus (first | trivial | with_reducible exact rfl | (simp (maxDischargeDepth := 9) -implicitDefEqProofs -dsimp only [go_sem, seval]; done)))))
  exact fin_id ⟨rfl, rfl⟩
theorem aig_check2 (b o : Nat) (a : Int) (g : Aig) (e : Int) (σ : Sig) (hb : σ b = some (.cells [.ptr o 0])) (h : σ o = some (workC g e)) (hs : Small g) (hf : I64 a) :
    ACalls Try.prog 98 [.int .i64 a, .ptr b 0] σ (fun r σ' => r = .ret (.bool (!g.lit a)) ∧ σ' = σ) := by
  refine calls_x mixed Try.func98 b98 n98 rfl q98 (by simp) ?_; unfold c98 r98
  repeat' (first | simp (maxDischargeDepth := 9) -implicitDefEqProofs -dsimp only [go_sem, seval, *] | ((with_reducible apply ACalls.one1); (focus ((first | with_reducible refine aig_lit o g e a σ h hs hf) <;> (first | (simp (maxDischargeDepth := 9) -implicitDefEqProofs -dsimp only [go_sem, seval, *]; done) | omega))); (focus (first | trivial | with_reducible exact rfl | (simp (maxDischargeDepth := 9) -implicitDefEqProofs -dsimp only [go_sem, seval]; done)))))
  exact fin_id ⟨rfl, rfl⟩
theorem sl_indexFlop (p : Flop → Bool) (l : List Flop) (hl : l.length ≤ 1000000000000) (σ : Sig) {F : Nat} {caps : List AV} (hF : ∀ x ∈ l, ACalls Try.prog F (encFlop x :: caps) σ (fun r σ' => r = .ret (.bool (p x)) ∧ σ' = σ)) :
    ACalls Try.prog 105 [.slice (l.map encFlop) .no, .fn F [] caps] σ (fun r σ' => r = .ret (.int .i64 (idxF p l)) ∧ σ' = σ) :=
  lib_indexFunc (sz := 2) (g := true) mixed Try.func105 b105 n105 rfl q105 (fun _ => rfl) (fun _ => rfl) p l hl hF
theorem sl_indexInt (p : Int → Bool) (l : List Int) (hl : l.length ≤ 1000000000000) (σ : Sig) {F : Nat} {caps : List AV} (hF : ∀ x ∈ l, ACalls Try.prog F (encInt x :: caps) σ (fun r σ' => r = .ret (.bool (p x)) ∧ σ' = σ)) :
    ACalls Try.prog 71 [.slice (l.map encInt) .no, .fn F [] caps] σ (fun r σ' => r = .ret (.int .i64 (idxF p l)) ∧ σ' = σ) :=
  lib_indexFunc (sz := 1) (g := false) mixed Try.func71 b71 n71 rfl q71 (fun _ => rfl) (fun _ => rfl) p l hl hF
theorem sl_indexGate (p : Int × Int → Bool) (l : List (Int × Int)) (hl : l.length ≤ 1000000000000) (σ : Sig) {F : Nat} {caps : List AV} (hF : ∀ x ∈ l, ACalls Try.prog F (encGate x :: caps) σ (fun r σ' => r = .ret (.bool (p x)) ∧ σ' = σ)) :
    ACalls Try.prog 102 [.slice (l.map encGate) .no, .fn F [] caps] σ (fun r σ' => r = .ret (.int .i64 (idxF p l)) ∧ σ' = σ) :=
  lib_indexFunc (sz := 2) (g := true) mixed Try.func102 b102 n102 rfl q102 (fun _ => rfl) (fun _ => rfl) p l hl hF
theorem sl_containsFlop (p : Flop → Bool) (l : List Flop) (hl : l.length ≤ 1000000000000) (σ : Sig) {F : Nat} {caps : List AV} (hF : ∀ x ∈ l, ACalls Try.prog F (encFlop x :: caps) σ (fun r σ' => r = .ret (.bool (p x)) ∧ σ' = σ)) :
    ACalls Try.prog 100 [.slice (l.map encFlop) .no, .fn F [] caps] σ (fun r σ' => r = .ret (.bool (l.any p)) ∧ σ' = σ) :=
  lib_containsFunc mixed Try.func100 b100 n100 rfl q100 p l (sl_indexFlop p l hl σ hF)
theorem sl_containsInt (p : Int → Bool) (l : List Int) (hl : l.length ≤ 1000000000000) (σ : Sig) {F : Nat} {caps : List AV} (hF : ∀ x ∈ l, ACalls Try.prog F (encInt x :: caps) σ (fun r σ' => r = .ret (.bool (p x)) ∧ σ' = σ)) :
    ACalls Try.prog 48 [.slice (l.map encInt) .no, .fn F [] caps] σ (fun r σ' => r = .ret (.bool (l.any p)) ∧ σ' = σ) :=
  lib_containsFunc mixed Try.func48 b48 n48 rfl q48 p l (sl_indexInt p l hl σ hF)
theorem sl_clipGate (l : List (Int × Int)) (σ : Sig) :
    ACalls Try.prog 104 [.slice (l.map encGate) .no] σ (fun r σ' => r = .ret (.slice (l.map encGate) .full) ∧ σ' = σ) :=
  lib_clip (sz := 2) mixed Try.func104 b104 n104 rfl q104 (fun _ => rfl) l
theorem aig_check (o : Nat) (g : Aig) (e : Int) (σ : Sig) (h : σ o = some (workC g e)) (hs : Wf g) :
    ACalls Try.prog 89 [.ptr o 0] σ (fun r σ' => r = .ret (.int .i64 g.check) ∧ σ' = σ) := by
  refine calls_x mixed Try.func89 b89 n89 rfl q89 (by simp) ?_; unfold c89 r89
  by_cases hlo : g.ins < 0
  · repeat' (first | simp (maxDischargeDepth := 9) -implicitDefEqProofs -dsimp only [go_sem, seval, *] | simp (disch := omega) only [wrap64] | (with_reducible (first | apply Zb | apply Zc | apply Zr) <;> intro hq) | ((with_reducible refine Zu ?_ ?_); focus omega) | ((with_reducible refine Zt (fun oF hoF hnF hnF' => ?_)); (try simp only [upd_none, ne_eq, not_and] at hoF)))
    refine fin_eq ?_
    have : g.check = 1 := by simp [Aig.check, hlo]
    (repeat' (first | simp (maxDischargeDepth := 9) -implicitDefEqProofs -dsimp only [go_sem, seval, this, *] | simp (disch := omega) only [wrap64])) <;> (repeat' refine And.intro ?_ ?_) <;> (first | omega | rfl | assumption | skip)
  by_cases hhi : 65536 < g.ins
  · repeat' (first | simp (maxDischargeDepth := 9) -implicitDefEqProofs -dsimp only [go_sem, seval, gt_iff_lt, *] | simp (disch := omega) only [wrap64] | (with_reducible (first | apply Zb | apply Zc | apply Zr) <;> intro hq) | ((with_reducible refine Zu ?_ ?_); focus omega) | ((with_reducible refine Zt (fun oF hoF hnF hnF' => ?_)); (try simp only [upd_none, ne_eq, not_and] at hoF)))
    refine fin_eq ?_
    have : g.check = 2 := by simp [Aig.check, hlo, hhi]
    (repeat' (first | simp (maxDischargeDepth := 9) -implicitDefEqProofs -dsimp only [go_sem, seval, this, *] | simp (disch := omega) only [wrap64])) <;> (repeat' refine And.intro ?_ ?_) <;> (first | omega | rfl | assumption | skip)
  have hsm : Small g := ⟨hs, by omega, by omega⟩
  have hfl := hs.flops
  have hol := hs.outs
  repeat' (first | simp (maxDischargeDepth := 9) -implicitDefEqProofs -dsimp only [go_sem, seval, gt_iff_lt, *] | simp (disch := omega) only [wrap64] | (with_reducible (first | apply Zb | apply Zc | apply Zr) <;> intro hq) | ((with_reducible refine Zu ?_ ?_); focus omega) | ((with_reducible refine Zt (fun oF hoF hnF hnF' => ?_)); (try simp only [upd_none, ne_eq, not_and] at hoF)) | ((with_reducible apply ACalls.one1); (focus ((first | with_reducible refine aig_count o g e _ ?_ hsm | with_reducible refine sl_containsFlop (fun f => !g.lit f.next) g.flops ?_ _ (fun f hf => aig_check1 _ o f g e _ ?_ ?_ hsm (hs.nexts f hf)) | with_reducible refine sl_containsInt (fun a => !g.lit a) g.outs ?_ _ (fun a ha => aig_check2 _ o a g e _ ?_ ?_ hsm (hs.lits a ha))) <;> (first | (simp (maxDischargeDepth := 9) -implicitDefEqProofs -dsimp only [go_sem, seval, *]; done) | omega))); (focus (first | trivial | with_reducible exact rfl | (simp (maxDischargeDepth := 9) -implicitDefEqProofs -dsimp only [go_sem, seval]; done)))))
  · refine fin_eq ?_
    have : g.check = 2 := by simp [Aig.check, hlo, hhi, hq]
    (repeat' (first | simp (maxDischargeDepth := 9) -implicitDefEqProofs -dsimp only [go_sem, seval, this, *] | simp (disch := omega) only [wrap64])) <;> (repeat' refine And.intro ?_ ?_) <;> (first | omega | rfl | assumption | skip)
  · refine fin_eq ?_
    have : g.check = 2 := by simp [Aig.check, hlo, hhi, hq]
    (repeat' (first | simp (maxDischargeDepth := 9) -implicitDefEqProofs -dsimp only [go_sem, seval, this, *] | simp (disch := omega) only [wrap64])) <;> (repeat' refine And.intro ?_ ?_) <;> (first | omega | rfl | assumption | skip)
  · refine fin_eq ?_
    have : g.check = 1 := by simp [Aig.check, Aig.good, hlo, hhi, *]
    (repeat' (first | simp (maxDischargeDepth := 9) -implicitDefEqProofs -dsimp only [go_sem, seval, this, *] | simp (disch := omega) only [wrap64])) <;> (repeat' refine And.intro ?_ ?_) <;> (first | omega | rfl | assumption | skip)
  · refine fin_eq ?_
    have : g.check = 1 := by simp [Aig.check, Aig.good, hlo, hhi, *]
    (repeat' (first | simp (maxDischargeDepth := 9) -implicitDefEqProofs -dsimp only [go_sem, seval, this, *] | simp (disch := omega) only [wrap64])) <;> (repeat' refine And.intro ?_ ?_) <;> (first | omega | rfl | assumption | skip)
  · refine loop_rule (fun i : Nat => [(1, some (.ptr oF 0)), (52, some (.slice (g.ands.map encGate) .no)), (53, some (.int .i64 g.ands.length)), (54, some (.int .i64 i))]) (fun _ => upd σ oF (.cells [.ptr o 0])) (fun i => i ≤ g.ands.length ∧ ∀ j, (hj : j < g.ands.length) → j < i → (0 ≤ g.ands[j].1 ∧ g.ands[j].1 < 2 * (g.first + j)) ∧ (0 ≤ g.ands[j].2 ∧ g.ands[j].2 < 2 * (g.first + j))) (fun i => g.ands.length - i) 0 ?_ ?_
    · (repeat' (first | simp (maxDischargeDepth := 9) -implicitDefEqProofs -dsimp only [go_sem, seval, *] | simp (disch := omega) only [wrap64])) <;> (repeat' refine And.intro ?_ ?_) <;> (first | omega | rfl | assumption | skip)
    · rintro i ⟨hi, hb⟩
      have hA := hs.ands
      have hF := hs.flops
      have hfd : 1 ≤ g.first ∧ g.first ≤ 3000000 := by
        have := hsm.lo; have := hsm.hi
        unfold Aig.first; omega
      by_cases hlt : i < g.ands.length
      · have hgate := hs.gates _ (List.getElem_mem hlt)
        obtain ⟨⟨g1, g2⟩, g3, g4⟩ := hgate
        repeat' (first | simp (maxDischargeDepth := 9) -implicitDefEqProofs -dsimp only [go_sem, seval, ge_iff_le, *] | simp (disch := omega) only [wrap64] | (with_reducible (first | apply Zb | apply Zc | apply Zr) <;> intro hq) | ((with_reducible refine Zu ?_ ?_); focus omega) | ((with_reducible refine Zt (fun oF hoF hnF hnF' => ?_)); (try simp only [upd_none, ne_eq, not_and] at hoF)) | ((with_reducible apply ACalls.one1); (focus ((first | with_reducible refine aig_first o g e _ ?_ hsm) <;> (first | (simp (maxDischargeDepth := 9) -implicitDefEqProofs -dsimp only [go_sem, seval, *]; done) | omega))); (focus (first | trivial | with_reducible exact rfl | (simp (maxDischargeDepth := 9) -implicitDefEqProofs -dsimp only [go_sem, seval]; done)))) | ((with_reducible apply id_one0); (focus (intro tS hS; ((first | with_reducible refine aig_first o g e _ ?_ hsm) <;> (first | (simp (maxDischargeDepth := 9) -implicitDefEqProofs -dsimp only [go_sem, seval, *]; done) | omega | ((with_reducible refine Sub.get hS ?_); simp (maxDischargeDepth := 9) -implicitDefEqProofs -dsimp only [go_sem, seval, *]; done))))); (focus (first | trivial | (simp (maxDischargeDepth := 9) -implicitDefEqProofs -dsimp only [go_sem, seval, *]; done)))))
        · have : g.check = 1 := by
            have := gatesOk_false (n := g.first) hlt (by omega)
            simp [Aig.check, Aig.good, hlo, hhi, *]
          refine fin_eq ?_
          (repeat' (first | simp (maxDischargeDepth := 9) -implicitDefEqProofs -dsimp only [go_sem, seval, this, *] | simp (disch := omega) only [wrap64])) <;> (repeat' refine And.intro ?_ ?_) <;> (first | omega | rfl | assumption | skip)
        · refine loop_next _ _ _ _ (i + 1) ?_; (repeat' (first | simp (maxDischargeDepth := 9) -implicitDefEqProofs -dsimp only [go_sem, seval, *] | simp (disch := omega) only [wrap64])) <;> (repeat' refine And.intro ?_ ?_) <;> (first | omega | rfl | assumption | skip)
          intro j hj h
          rcases Nat.lt_or_ge j i with h' | h'
          · exact hb j hj h'
          · obtain rfl : j = i := by omega
            omega
        · have : g.check = 1 := by
            have := gatesOk_false (n := g.first) hlt (by omega)
            simp [Aig.check, Aig.good, hlo, hhi, *]
          refine fin_eq ?_
          (repeat' (first | simp (maxDischargeDepth := 9) -implicitDefEqProofs -dsimp only [go_sem, seval, this, *] | simp (disch := omega) only [wrap64])) <;> (repeat' refine And.intro ?_ ?_) <;> (first | omega | rfl | assumption | skip)
      · repeat' (first | simp (maxDischargeDepth := 9) -implicitDefEqProofs -dsimp only [go_sem, seval, *] | simp (disch := omega) only [wrap64] | (with_reducible (first | apply Zb | apply Zc | apply Zr) <;> intro hq) | ((with_reducible refine Zu ?_ ?_); focus omega) | ((with_reducible refine Zt (fun oF hoF hnF hnF' => ?_)); (try simp only [upd_none, ne_eq, not_and] at hoF)))
        refine fin_eq ?_
        have : g.check = 0 := by
          have : Aig.gatesOk g.first g.ands = true := gatesOk_iff.2 fun j hj => hb j hj (by omega)
          simp [Aig.check, Aig.good, hlo, hhi, *]
        (repeat' (first | simp (maxDischargeDepth := 9) -implicitDefEqProofs -dsimp only [go_sem, seval, this, *] | simp (disch := omega) only [wrap64])) <;> (repeat' refine And.intro ?_ ?_) <;> (first | omega | rfl | assumption | skip)
end Go.Proofs.Ytbbihmmobfmadaa.A

namespace Go.Proofs.Ytbbihmmobfmadaa.A
open Abs Fil
theorem aig_begin (g : Aig) (l : List Int) (σ : Sig) (hs : Wf g) (hl : l.length ≤ 1000000) (hi : ∀ a ∈ l, I64 a) :
    ACalls Try.prog 72 [encAig g, .slice (l.map encInt) .no] σ (NewO σ (fun o => .ptr o 0) (workC g (g.checkL g.check l))) := by
  refine calls_x mixed Try.func72 b72 n72 rfl q72 (by simp) ?_; unfold c72 r72
  repeat' (first | simp (maxDischargeDepth := 9) -implicitDefEqProofs -dsimp only [go_sem, seval, *] | simp (disch := omega) only [wrap64] | (with_reducible (first | apply Zr) <;> intro hq) | ((with_reducible refine Zu ?_ ?_); focus omega) | ((with_reducible refine Zt (fun oF hoF hnF hnF' => ?_)); (try simp only [upd_none, ne_eq, not_and] at hoF)) | ((with_reducible apply ACalls.one1); (focus ((first | with_reducible refine aig_check _ g 0 _ ?_ hs) <;> (first | (simp (maxDischargeDepth := 9) -implicitDefEqProofs -dsimp only [go_sem, seval, *]; done) | omega))); (focus (first | trivial | with_reducible exact rfl | (simp (maxDischargeDepth := 9) -implicitDefEqProofs -dsimp only [go_sem, seval]; done)))))
  refine loop_rule (fun i : Nat => [(5, some (.ptr oF 0)), (16, some (.slice (l.map encInt) .no)), (17, some (.int .i64 l.length)), (18, some (.int .i64 i))]) (fun i => upd σ oF (workC g (g.checkL g.check (l.take i)))) (fun i => i ≤ l.length) (fun i => l.length - i) 0 ?_ ?_
  · (repeat' (first | simp (maxDischargeDepth := 9) -implicitDefEqProofs -dsimp only [go_sem, seval, Aig.checkL, *] | simp (disch := omega) only [wrap64])) <;> (repeat' refine And.intro ?_ ?_) <;> (first | omega | rfl | assumption | skip)
  · intro i hi'
    by_cases hlt : i < l.length
    · have hi2 := hi _ (List.getElem_mem hlt)
      have step : g.checkL g.check (l.take (i + 1)) = if g.checkL g.check (l.take i) = 0 ∧ g.lit l[i] = false then 1 else g.checkL g.check (l.take i) := by
        rw [List.take_add_one, List.getElem?_eq_getElem hlt]
        exact checkL_snoc g _ _ _
      by_cases he : g.checkL g.check (l.take i) = 0
      · have hsm : Small g := checkL_small hs he
        repeat' (first | simp (maxDischargeDepth := 9) -implicitDefEqProofs -dsimp only [go_sem, seval, *] | simp (disch := omega) only [wrap64] | (with_reducible (first | apply Zr) <;> intro hq) | ((with_reducible refine Zu ?_ ?_); focus omega) | ((with_reducible refine Zt (fun oF hoF hnF hnF' => ?_)); (try simp only [upd_none, ne_eq, not_and] at hoF)) | ((with_reducible apply ACalls.one1); (focus ((first | with_reducible refine aig_lit _ g 0 l[i] _ ?_ hsm hi2) <;> (first | (simp (maxDischargeDepth := 9) -implicitDefEqProofs -dsimp only [go_sem, seval, *]; done) | omega))); (focus (first | trivial | with_reducible exact rfl | (simp (maxDischargeDepth := 9) -implicitDefEqProofs -dsimp only [go_sem, seval]; done)))))
        · have st : g.checkL g.check (l.take (i + 1)) = 0 := by rw [step]; simp [*]
          refine loop_next _ _ _ _ (i + 1) ?_; (repeat' (first | simp (maxDischargeDepth := 9) -implicitDefEqProofs -dsimp only [go_sem, seval, *] | simp (disch := omega) only [wrap64])) <;> (repeat' refine And.intro ?_ ?_) <;> (first | omega | rfl | assumption | skip)
        · have st : g.checkL g.check (l.take (i + 1)) = 1 := by rw [step]; simp [*]
          refine loop_next _ _ _ _ (i + 1) ?_; (repeat' (first | simp (maxDischargeDepth := 9) -implicitDefEqProofs -dsimp only [go_sem, seval, *] | simp (disch := omega) only [wrap64])) <;> (repeat' refine And.intro ?_ ?_) <;> (first | omega | rfl | assumption | skip)
      · have st : g.checkL g.check (l.take (i + 1)) = g.checkL g.check (l.take i) := by rw [step]; simp [*]
        have hb : (g.checkL g.check (l.take i) == 0) = false := by simpa using he
        repeat' (first | simp (maxDischargeDepth := 9) -implicitDefEqProofs -dsimp only [go_sem, seval, *] | simp (disch := omega) only [wrap64] | (with_reducible (first | apply Zr) <;> intro hq) | ((with_reducible refine Zu ?_ ?_); focus omega) | ((with_reducible refine Zt (fun oF hoF hnF hnF' => ?_)); (try simp only [upd_none, ne_eq, not_and] at hoF)))
        refine loop_next _ _ _ _ (i + 1) ?_; (repeat' (first | simp (maxDischargeDepth := 9) -implicitDefEqProofs -dsimp only [go_sem, seval, *] | simp (disch := omega) only [wrap64])) <;> (repeat' refine And.intro ?_ ?_) <;> (first | omega | rfl | assumption | skip)
    · repeat' (first | simp (maxDischargeDepth := 9) -implicitDefEqProofs -dsimp only [go_sem, seval, *] | simp (disch := omega) only [wrap64] | (with_reducible (first | apply Zr) <;> intro hq) | ((with_reducible refine Zu ?_ ?_); focus omega) | ((with_reducible refine Zt (fun oF hoF hnF hnF' => ?_)); (try simp only [upd_none, ne_eq, not_and] at hoF)))
      refine fin_new oF hoF ?_
      have e0 : l.take i = l := List.take_of_length_le (by omega)
      (repeat' (first | simp (maxDischargeDepth := 9) -implicitDefEqProofs -dsimp only [go_sem, seval, e0, *] | simp (disch := omega) only [wrap64])) <;> (repeat' refine And.intro ?_ ?_) <;> (first | omega | rfl | assumption | skip)
theorem aig_and1 (pa pb : Nat) (x : Int × Int) (a b : Int) (σ : Sig) (ha : σ pa = some (.cells [.int .i64 a])) (hb : σ pb = some (.cells [.int .i64 b])) :
    ACalls Try.prog 103 [encGate x, .ptr pa 0, .ptr pb 0] σ (fun r σ' => r = .ret (.bool (decide (min x.1 x.2 = a) && decide (max x.1 x.2 = b))) ∧ σ' = σ) := by
  refine calls_x mixed Try.func103 b103 n103 rfl q103 (by simp) ?_; unfold c103 r103
  repeat' (first | simp (maxDischargeDepth := 9) -implicitDefEqProofs -dsimp only [go_sem, seval, *] | (with_reducible (first | apply Zj) <;> intro hq))
  · have e : min x.1 x.2 = a := by omega
    exact fin_id ⟨by simp [e, Bool.beq_eq_decide_eq], rfl⟩
  · exact fin_id ⟨by simp [hq], rfl⟩
theorem aig_and (o : Nat) (g : Aig) (e a b : Int) (σ : Sig) (h : σ o = some (workC g e)) (hok : e = 0 → Fine g ∧ g.lit a = true ∧ g.lit b = true) :
    ACalls Try.prog 92 [.ptr o 0, .int .i64 a, .int .i64 b] σ (fun r σ' => r = .ret (.int .i64 (g.andW e a b).2.2) ∧ σ' = upd σ o (workC (g.andW e a b).1 (g.andW e a b).2.1)) := by
  refine calls_x mixed Try.func92 b92 n92 rfl q92 (by simp) ?_; unfold c92 r92
  by_cases he : e = 0
  · subst he
    obtain ⟨hfine, ha, hb⟩ := hok rfl
    have hs := hfine.toSmall
    have hcn := hfine.cnt
    have ha' := litN_iff.1 ha
    have hb' := litN_iff.1 hb
    have hcnt : 0 ≤ g.count ∧ g.count ≤ 3000000 := by
      have := hs.lo; have := hs.hi; have := hs.flops; have := hs.ands
      unfold Aig.count; omega
    have hfst : 0 ≤ g.first ∧ g.first ≤ 3000000 := by
      have := hs.lo; have := hs.hi; have := hs.flops
      unfold Aig.first; omega
    have hfb := idxF_bounds (fun x : Int × Int => decide (min x.1 x.2 = min a b) && decide (max x.1 x.2 = max a b)) g.ands
    have hal := hs.ands
    have hpush : ∀ x : Int × Int, I64 x.1 ∧ I64 x.2 → g.ands.length < 1000000 → Small { g with ands := g.ands ++ [x] } := fun x hx hl => { hs with
      ands := by simp; omega
      gates := fun y hy => by
        rcases List.mem_append.1 hy with h | h
        · exact hs.gates y h
        · simp at h; subst h; exact hx }
    repeat' (first | simp (maxDischargeDepth := 9) -implicitDefEqProofs -dsimp only [go_sem, seval, ge_iff_le, *] | simp (disch := omega) only [wrap64, xor1] | (with_reducible (first | apply Zc | apply Zf | apply Zl) <;> intro hq) | ((with_reducible refine Zv ?_ ?_); focus (first | omega | exact rfl)) | ((with_reducible refine Zt (fun oF hoF hnF hnF' => ?_)); (try simp only [upd_none, ne_eq, not_and] at hoF)) | ((with_reducible apply ACalls.one1); (focus ((first | with_reducible refine aig_count o g 0 _ ?_ hs | with_reducible refine aig_first o g 0 _ ?_ hs | with_reducible refine sl_indexGate (fun x : Int × Int => decide (min x.1 x.2 = min a b) && decide (max x.1 x.2 = max a b)) g.ands ?_ _ (fun x _ => aig_and1 _ _ x (min a b) (max a b) _ ?_ ?_) | with_reducible refine sl_clipGate g.ands _) <;> (first | (simp (maxDischargeDepth := 9) -implicitDefEqProofs -dsimp only [go_sem, seval, *]; done) | omega))); (focus (first | trivial | with_reducible exact rfl | (simp (maxDischargeDepth := 9) -implicitDefEqProofs -dsimp only [go_sem, seval]; done)))) | ((with_reducible apply id_one0); (focus (intro tS hS; ((first | with_reducible refine aig_count o g 0 _ ?_ hs | with_reducible refine aig_first o g 0 _ ?_ hs | with_reducible refine sl_indexGate (fun x : Int × Int => decide (min x.1 x.2 = min a b) && decide (max x.1 x.2 = max a b)) g.ands ?_ _ (fun x _ => aig_and1 _ _ x (min a b) (max a b) _ ?_ ?_) | with_reducible refine sl_clipGate g.ands _) <;> (first | (simp (maxDischargeDepth := 9) -implicitDefEqProofs -dsimp only [go_sem, seval, *]; done) | omega | ((with_reducible refine Sub.get hS ?_); simp (maxDischargeDepth := 9) -implicitDefEqProofs -dsimp only [go_sem, seval, *]; done))))); (focus (first | trivial | (simp (maxDischargeDepth := 9) -implicitDefEqProofs -dsimp only [go_sem, seval, *]; done)))))
    all_goals try refine fin_eq ?_
    all_goals first | (rw [andW1 (by omega)]; (repeat' (first | simp (maxDischargeDepth := 9) -implicitDefEqProofs -dsimp only [go_sem, seval, *] | simp (disch := omega) only [wrap64, xor1])) <;> (repeat' refine And.intro ?_ ?_) <;> (first | omega | rfl | assumption | skip)) | (rw [andW2 (by omega) (by omega)]; (repeat' (first | simp (maxDischargeDepth := 9) -implicitDefEqProofs -dsimp only [go_sem, seval, *] | simp (disch := omega) only [wrap64, xor1])) <;> (repeat' refine And.intro ?_ ?_) <;> (first | omega | rfl | assumption | skip)) | (rw [andW3 (by omega) (by omega) hq]; (repeat' (first | simp (maxDischargeDepth := 9) -implicitDefEqProofs -dsimp only [go_sem, seval, *] | simp (disch := omega) only [wrap64, xor1])) <;> (repeat' refine And.intro ?_ ?_) <;> (first | omega | rfl | assumption | skip)) | (rw [andW4 (by omega) (by omega) ‹_› (by omega)]; (repeat' (first | simp (maxDischargeDepth := 9) -implicitDefEqProofs -dsimp only [go_sem, seval, *] | simp (disch := omega) only [wrap64, xor1])) <;> (repeat' refine And.intro ?_ ?_) <;> (first | omega | rfl | assumption | skip)) | skip
    have hlt : g.ands.length < 1000000 := by
      have := hs.lo
      simp only [Aig.count] at hcn
      omega
    have hs' := hpush (min a b, max a b) ⟨⟨by omega, by omega⟩, ⟨by omega, by omega⟩⟩ hlt
    refine ACalls.one (ACalls.flo (o := o) (x0 := workC { g with ands := g.ands ++ [(min a b, max a b)] } 0) ?_ (aig_count o { g with ands := g.ands ++ [(min a b, max a b)] } 0 _ (upd_same _ _ _) hs')) ?_
    · (repeat' (first | simp (maxDischargeDepth := 9) -implicitDefEqProofs -dsimp only [go_sem, seval, *] | simp (disch := omega) only [wrap64, xor1])) <;> (repeat' refine And.intro ?_ ?_) <;> (first | omega | rfl | assumption | skip)
    have hc' := count_push (g := g) (min a b, max a b)
    repeat' (first | simp (maxDischargeDepth := 9) -implicitDefEqProofs -dsimp only [go_sem, seval, *] | simp (disch := omega) only [wrap64, xor1] | (with_reducible (first | apply Zc | apply Zf | apply Zl) <;> intro hq) | ((with_reducible refine Zv ?_ ?_); focus (first | omega | exact rfl)) | ((with_reducible refine Zt (fun oF hoF hnF hnF' => ?_)); (try simp only [upd_none, ne_eq, not_and] at hoF)))
    refine fin_eq ?_
    rw [andW5 (by omega) (by omega) ‹_› (by omega)]
    (repeat' (first | simp (maxDischargeDepth := 9) -implicitDefEqProofs -dsimp only [go_sem, seval, *] | simp (disch := omega) only [wrap64, xor1])) <;> (repeat' refine And.intro ?_ ?_) <;> (first | omega | rfl | assumption | skip)
  · have hb : (e != 0) = true := by simpa using he
    repeat' (first | simp (maxDischargeDepth := 9) -implicitDefEqProofs -dsimp only [go_sem, seval, *] | simp (disch := omega) only [wrap64, xor1] | (with_reducible (first | apply Zc | apply Zf | apply Zl) <;> intro hq) | ((with_reducible refine Zv ?_ ?_); focus (first | omega | exact rfl)) | ((with_reducible refine Zt (fun oF hoF hnF hnF' => ?_)); (try simp only [upd_none, ne_eq, not_and] at hoF)))
    refine fin_eq ?_
    (repeat' (first | simp (maxDischargeDepth := 9) -implicitDefEqProofs -dsimp only [go_sem, seval, Aig.andW, *] | simp (disch := omega) only [wrap64, xor1])) <;> (repeat' refine And.intro ?_ ?_) <;> (first | omega | rfl | assumption | skip)
theorem aig_or (o : Nat) (g : Aig) (e a b : Int) (σ : Sig) (h : σ o = some (workC g e)) (ha : I64 a) (hb : I64 b) (hok : e = 0 → Fine g ∧ g.lit a = true ∧ g.lit b = true) :
    ACalls Try.prog 93 [.ptr o 0, .int .i64 a, .int .i64 b] σ (fun r σ' => r = .ret (.int .i64 (g.orW e a b).2.2) ∧ σ' = upd σ o (workC (g.orW e a b).1 (g.orW e a b).2.1)) := by
  refine calls_x mixed Try.func93 b93 n93 rfl q93 (by simp) ?_; unfold c93 r93
  have hok' : e = 0 → Fine g ∧ g.lit (turn a) = true ∧ g.lit (turn b) = true := fun he => ⟨(hok he).1, turn_lit (hok he).2.1, turn_lit (hok he).2.2⟩
  obtain ⟨h1, h2⟩ := andW_range hok'
  obtain ⟨ha1, ha2⟩ := ha
  obtain ⟨hb1, hb2⟩ := hb
  repeat' (first | simp (maxDischargeDepth := 9) -implicitDefEqProofs -dsimp only [go_sem, seval, *] | simp (disch := omega) only [xor1] | ((with_reducible apply ACalls.one1); (focus ((first | with_reducible refine aig_and o g e (turn a) (turn b) _ ?_ hok') <;> (first | (simp (maxDischargeDepth := 9) -implicitDefEqProofs -dsimp only [go_sem, seval, *]; done) | omega))); (focus (first | trivial | with_reducible exact rfl | (simp (maxDischargeDepth := 9) -implicitDefEqProofs -dsimp only [go_sem, seval]; done)))))
  exact fin_id ⟨rfl, rfl⟩
theorem aig_end (o : Nat) (g : Aig) (e a : Int) (σ : Sig) (h : σ o = some (workC g e)) :
    ACalls Try.prog 91 [.ptr o 0, .int .i64 a] σ (fun r σ' => r = .ret (.tup [encAig (Aig.endW (g, e, a)).1, .int .i64 (Aig.endW (g, e, a)).2.1, .int .i64 (Aig.endW (g, e, a)).2.2]) ∧ σ' = σ) := by
  refine calls_x mixed Try.func91 b91 n91 rfl q91 (by simp) ?_; unfold c91 r91
  repeat' (first | simp (maxDischargeDepth := 9) -implicitDefEqProofs -dsimp only [go_sem, seval, *] | (with_reducible (first | apply Zi) <;> intro hq) | ((with_reducible refine Zt (fun oF hoF hnF hnF' => ?_)); (try simp only [upd_none, ne_eq, not_and] at hoF)))
  · refine fin_eq ?_
    (repeat' (first | simp (maxDischargeDepth := 9) -implicitDefEqProofs -dsimp only [go_sem, seval, Aig.endW, *])) <;> (repeat' refine And.intro ?_ ?_) <;> (first | omega | rfl | assumption | skip)
  · refine fin_eq ?_
    (repeat' (first | simp (maxDischargeDepth := 9) -implicitDefEqProofs -dsimp only [go_sem, seval, Aig.endW, *])) <;> (repeat' refine And.intro ?_ ?_) <;> (first | omega | rfl | assumption | skip)
end Go.Proofs.Ytbbihmmobfmadaa.A

namespace Go.Proofs.Ytbbihmmobfmadaa.A
open Abs Fil
theorem aig_And (g : Aig) (a b : Int) (σ : Sig) (hs : Wf g) (ha : I64 a) (hb : I64 b) :
    ACalls Try.prog 75 [encAig g, .int .i64 a, .int .i64 b] σ (fun r σ' => r = .ret (.tup [encAig (g.And a b).1, .int .i64 (g.And a b).2.1, .int .i64 (g.And a b).2.2]) ∧ σ' = σ) := by
  refine calls_x mixed Try.func75 b75 n75 rfl q75 (by simp) ?_; unfold c75 r75
  have hok : g.checkL g.check [a, b] = 0 → Fine g ∧ g.lit a = true ∧ g.lit b = true := fun h => by
    obtain ⟨h1, h2⟩ := checkL_fine hs h
    exact ⟨h1, h2 a (by simp), h2 b (by simp)⟩
  have hl : ∀ x ∈ [a, b], I64 x := by simp [ha, hb]
  repeat' (first | simp (maxDischargeDepth := 9) -implicitDefEqProofs -dsimp only [go_sem, seval, *] | ((with_reducible refine Zt (fun oF hoF hnF hnF' => ?_)); (try simp only [upd_none, ne_eq, not_and] at hoF)) | ((with_reducible apply ACalls.one1); (focus (first | ((first | with_reducible refine aig_and _ g (g.checkL g.check [a, b]) a b _ ?_ hok | with_reducible refine aig_end _ (g.andW (g.checkL g.check [a, b]) a b).1 (g.andW (g.checkL g.check [a, b]) a b).2.1 _ _ ?_) <;> (first | (simp (maxDischargeDepth := 9) -implicitDefEqProofs -dsimp only [go_sem, seval, *]; done) | omega)) | (with_reducible refine ACalls.flA (aig_and _ g (g.checkL g.check [a, b]) a b _ ?_ hok) ?_ <;> (first | (simp (maxDischargeDepth := 9) -implicitDefEqProofs -dsimp only [go_sem, seval, *]; done) | omega)) | (with_reducible refine ACalls.flA (aig_end _ (g.andW (g.checkL g.check [a, b]) a b).1 (g.andW (g.checkL g.check [a, b]) a b).2.1 _ _ ?_) ?_ <;> (first | (simp (maxDischargeDepth := 9) -implicitDefEqProofs -dsimp only [go_sem, seval, *]; done) | omega)))); (focus (first | trivial | with_reducible exact rfl | (simp (maxDischargeDepth := 9) -implicitDefEqProofs -dsimp only [go_sem, seval]; done)))) | ((with_reducible apply ACalls.newO); (focus (first | ((first | with_reducible refine aig_begin g [a, b] _ hs ?_ hl) <;> (first | (simp (maxDischargeDepth := 9) -implicitDefEqProofs -dsimp only [go_sem, seval, *]; done) | omega)) | (with_reducible refine ACalls.flA (aig_begin g [a, b] _ hs ?_ hl) ?_ <;> (first | (simp (maxDischargeDepth := 9) -implicitDefEqProofs -dsimp only [go_sem, seval, *]; done) | omega)))); (intro oF hoF hnF hnF'); (try simp only [upd_none, ne_eq, not_and] at hoF)))
  refine fin_eq ?_
  (repeat' (first | simp (maxDischargeDepth := 9) -implicitDefEqProofs -dsimp only [go_sem, seval, Aig.And, *])) <;> (repeat' refine And.intro ?_ ?_) <;> (first | omega | rfl | assumption | skip)
theorem aig_Or (g : Aig) (a b : Int) (σ : Sig) (hs : Wf g) (ha : I64 a) (hb : I64 b) :
    ACalls Try.prog 77 [encAig g, .int .i64 a, .int .i64 b] σ (fun r σ' => r = .ret (.tup [encAig (g.Or a b).1, .int .i64 (g.Or a b).2.1, .int .i64 (g.Or a b).2.2]) ∧ σ' = σ) := by
  refine calls_x mixed Try.func77 b77 n77 rfl q77 (by simp) ?_; unfold c77 r77
  have hok : g.checkL g.check [a, b] = 0 → Fine g ∧ g.lit a = true ∧ g.lit b = true := fun h => by
    obtain ⟨h1, h2⟩ := checkL_fine hs h
    exact ⟨h1, h2 a (by simp), h2 b (by simp)⟩
  have hl : ∀ x ∈ [a, b], I64 x := by simp [ha, hb]
  repeat' (first | simp (maxDischargeDepth := 9) -implicitDefEqProofs -dsimp only [go_sem, seval, *] | ((with_reducible refine Zt (fun oF hoF hnF hnF' => ?_)); (try simp only [upd_none, ne_eq, not_and] at hoF)) | ((with_reducible apply ACalls.one1); (focus (first | ((first | with_reducible refine aig_or _ g (g.checkL g.check [a, b]) a b _ ?_ ha hb hok | with_reducible refine aig_end _ (g.orW (g.checkL g.check [a, b]) a b).1 (g.orW (g.checkL g.check [a, b]) a b).2.1 _ _ ?_) <;> (first | (simp (maxDischargeDepth := 9) -implicitDefEqProofs -dsimp only [go_sem, seval, *]; done) | omega)) | (with_reducible refine ACalls.flA (aig_or _ g (g.checkL g.check [a, b]) a b _ ?_ ha hb hok) ?_ <;> (first | (simp (maxDischargeDepth := 9) -implicitDefEqProofs -dsimp only [go_sem, seval, *]; done) | omega)) | (with_reducible refine ACalls.flA (aig_end _ (g.orW (g.checkL g.check [a, b]) a b).1 (g.orW (g.checkL g.check [a, b]) a b).2.1 _ _ ?_) ?_ <;> (first | (simp (maxDischargeDepth := 9) -implicitDefEqProofs -dsimp only [go_sem, seval, *]; done) | omega)))); (focus (first | trivial | with_reducible exact rfl | (simp (maxDischargeDepth := 9) -implicitDefEqProofs -dsimp only [go_sem, seval]; done)))) | ((with_reducible apply ACalls.newO); (focus (first | ((first | with_reducible refine aig_begin g [a, b] _ hs ?_ hl) <;> (first | (simp (maxDischargeDepth := 9) -implicitDefEqProofs -dsimp only [go_sem, seval, *]; done) | omega)) | (with_reducible refine ACalls.flA (aig_begin g [a, b] _ hs ?_ hl) ?_ <;> (first | (simp (maxDischargeDepth := 9) -implicitDefEqProofs -dsimp only [go_sem, seval, *]; done) | omega)))); (intro oF hoF hnF hnF'); (try simp only [upd_none, ne_eq, not_and] at hoF)))
  refine fin_eq ?_
  (repeat' (first | simp (maxDischargeDepth := 9) -implicitDefEqProofs -dsimp only [go_sem, seval, Aig.Or, *])) <;> (repeat' refine And.intro ?_ ?_) <;> (first | omega | rfl | assumption | skip)
theorem aig_Check (g : Aig) (σ : Sig) (hs : Wf g) : ACalls Try.prog 50 [encAig g] σ (fun r σ' => r = .ret (.int .i64 g.check) ∧ σ' = σ) := by
  refine calls_x mixed Try.func50 b50 n50 rfl q50 (by simp) ?_; unfold c50 r50
  repeat' (first | simp (maxDischargeDepth := 9) -implicitDefEqProofs -dsimp only [go_sem, seval, *] | ((with_reducible apply ACalls.newO); (focus (first | ((first | with_reducible refine aig_begin g [] _ hs ?_ (by simp)) <;> (first | (simp (maxDischargeDepth := 9) -implicitDefEqProofs -dsimp only [go_sem, seval, *]; done) | omega)) | (with_reducible refine ACalls.flA (aig_begin g [] _ hs ?_ (by simp)) ?_ <;> (first | (simp (maxDischargeDepth := 9) -implicitDefEqProofs -dsimp only [go_sem, seval, *]; done) | omega)))); (intro oF hoF hnF hnF'); (try simp only [upd_none, ne_eq, not_and] at hoF)))
  refine fin_eq ?_
  (repeat' (first | simp (maxDischargeDepth := 9) -implicitDefEqProofs -dsimp only [go_sem, seval, Aig.checkL, *])) <;> (repeat' refine And.intro ?_ ?_) <;> (first | omega | rfl | assumption | skip)
theorem pairs_ok {g : Aig} {e a b c d : Int} (hs : Wf g) (h : e = 0 → Fine g ∧ g.lit a = true ∧ g.lit b = true ∧ g.lit c = true ∧ g.lit d = true) :
    ∃ r s, g.andW e a b = r ∧ r.1.andW r.2.1 c d = s ∧ g.pairs e a b c d = s.1.orW s.2.1 r.2.2 s.2.2 ∧ I64 r.2.2 ∧ I64 s.2.2 ∧ (e = 0 → Fine g ∧ g.lit a = true ∧ g.lit b = true) ∧
      (r.2.1 = 0 → Fine r.1 ∧ r.1.lit c = true ∧ r.1.lit d = true) ∧ (s.2.1 = 0 → Fine s.1 ∧ s.1.lit r.2.2 = true ∧ s.1.lit s.2.2 = true) := by
  have hok : e = 0 → Fine g ∧ g.lit a = true ∧ g.lit b = true := fun he => ⟨(h he).1, (h he).2.1, (h he).2.2.1⟩
  obtain ⟨k1, k2, _⟩ := andW_ok hok
  have hok2 : (g.andW e a b).2.1 = 0 → Fine (g.andW e a b).1 ∧ (g.andW e a b).1.lit c = true ∧ (g.andW e a b).1.lit d = true := fun hr => by
    obtain ⟨h1, h2, h3, h4, h5⟩ := h (andW_err hr)
    exact ⟨(k1 hr).1, k2.lit h4, k2.lit h5⟩
  obtain ⟨m1, m2, _⟩ := andW_ok hok2
  exact ⟨_, _, rfl, rfl, rfl, andW_range hok, andW_range hok2, hok, hok2, fun hs => ⟨(m1 hs).1, m2.lit (k1 (andW_err hs)).2, (m1 hs).2⟩⟩
theorem aig_Xor (g : Aig) (a b : Int) (σ : Sig) (hs : Wf g) (ha : I64 a) (hb : I64 b) :
    ACalls Try.prog 79 [encAig g, .int .i64 a, .int .i64 b] σ (fun r σ' => r = .ret (.tup [encAig (g.Xor a b).1, .int .i64 (g.Xor a b).2.1, .int .i64 (g.Xor a b).2.2]) ∧ σ' = σ) := by
  refine calls_x mixed Try.func79 b79 n79 rfl q79 (by simp) ?_; unfold c79 r79
  have hl : ∀ x ∈ [a, b], I64 x := by simp [ha, hb]
  obtain ⟨e, he⟩ : ∃ e, g.checkL g.check [a, b] = e := ⟨_, rfl⟩
  obtain ⟨r, s, hr, hss, hp, r1, s1, o1, o2, o3⟩ := pairs_ok (e := e) (a := a) (b := turn b) (c := turn a) (d := b) hs (fun h => by
    obtain ⟨h1, h2⟩ := checkL_fine hs (he.trans h)
    exact ⟨h1, h2 a (by simp), turn_lit (h2 b (by simp)), turn_lit (h2 a (by simp)), h2 b (by simp)⟩)
  obtain ⟨ha1, ha2⟩ := ha
  obtain ⟨hb1, hb2⟩ := hb
  repeat' (first | simp (maxDischargeDepth := 9) -implicitDefEqProofs -dsimp only [go_sem, seval, *] | simp (disch := omega) only [xor1] | ((with_reducible refine Zt (fun oF hoF hnF hnF' => ?_)); (try simp only [upd_none, ne_eq, not_and] at hoF)) | ((with_reducible apply ACalls.one1); (focus (first | ((first | with_reducible refine aig_and _ g e a (turn b) _ ?_ o1 | with_reducible refine aig_and _ r.1 r.2.1 (turn a) b _ ?_ o2 | with_reducible refine aig_or _ s.1 s.2.1 r.2.2 s.2.2 _ ?_ r1 s1 o3 | with_reducible refine aig_end _ (s.1.orW s.2.1 r.2.2 s.2.2).1 (s.1.orW s.2.1 r.2.2 s.2.2).2.1 _ _ ?_) <;> (first | (simp (maxDischargeDepth := 9) -implicitDefEqProofs -dsimp only [go_sem, seval, *]; done) | omega)) | (with_reducible refine ACalls.flA (aig_and _ g e a (turn b) _ ?_ o1) ?_ <;> (first | (simp (maxDischargeDepth := 9) -implicitDefEqProofs -dsimp only [go_sem, seval, *]; done) | omega)) | (with_reducible refine ACalls.flA (aig_and _ r.1 r.2.1 (turn a) b _ ?_ o2) ?_ <;> (first | (simp (maxDischargeDepth := 9) -implicitDefEqProofs -dsimp only [go_sem, seval, *]; done) | omega)) | (with_reducible refine ACalls.flA (aig_or _ s.1 s.2.1 r.2.2 s.2.2 _ ?_ r1 s1 o3) ?_ <;> (first | (simp (maxDischargeDepth := 9) -implicitDefEqProofs -dsimp only [go_sem, seval, *]; done) | omega)) | (with_reducible refine ACalls.flA (aig_end _ (s.1.orW s.2.1 r.2.2 s.2.2).1 (s.1.orW s.2.1 r.2.2 s.2.2).2.1 _ _ ?_) ?_ <;> (first | (simp (maxDischargeDepth := 9) -implicitDefEqProofs -dsimp only [go_sem, seval, *]; done) | omega)))); (focus (first | trivial | with_reducible exact rfl | (simp (maxDischargeDepth := 9) -implicitDefEqProofs -dsimp only [go_sem, seval]; done)))) | ((with_reducible apply ACalls.newO); (focus (first | ((first | with_reducible refine aig_begin g [a, b] _ hs ?_ hl) <;> (first | (simp (maxDischargeDepth := 9) -implicitDefEqProofs -dsimp only [go_sem, seval, *]; done) | omega)) | (with_reducible refine ACalls.flA (aig_begin g [a, b] _ hs ?_ hl) ?_ <;> (first | (simp (maxDischargeDepth := 9) -implicitDefEqProofs -dsimp only [go_sem, seval, *]; done) | omega)))); (intro oF hoF hnF hnF'); (try simp only [upd_none, ne_eq, not_and] at hoF)))
  refine fin_eq ?_
  (repeat' (first | simp (maxDischargeDepth := 9) -implicitDefEqProofs -dsimp only [go_sem, seval, Aig.Xor, *] | simp (disch := omega) only [xor1])) <;> (repeat' refine And.intro ?_ ?_) <;> (first | omega | rfl | assumption | skip)
theorem aig_Mux (g : Aig) (c a b : Int) (σ : Sig) (hs : Wf g) (hc : I64 c) (ha : I64 a) (hb : I64 b) :
    ACalls Try.prog 88 [encAig g, .int .i64 c, .int .i64 a, .int .i64 b] σ (fun r σ' => r = .ret (.tup [encAig (g.Mux c a b).1, .int .i64 (g.Mux c a b).2.1, .int .i64 (g.Mux c a b).2.2]) ∧ σ' = σ) := by
  refine calls_x mixed Try.func88 b88 n88 rfl q88 (by simp) ?_; unfold c88 r88
  have hl : ∀ x ∈ [c, a, b], I64 x := by simp [ha, hb, hc]
  obtain ⟨e, he⟩ : ∃ e, g.checkL g.check [c, a, b] = e := ⟨_, rfl⟩
  obtain ⟨r, s, hr, hss, hp, r1, s1, o1, o2, o3⟩ := pairs_ok (e := e) (a := c) (b := a) (c := turn c) (d := b) hs (fun h => by
    obtain ⟨h1, h2⟩ := checkL_fine hs (he.trans h)
    exact ⟨h1, h2 c (by simp), h2 a (by simp), turn_lit (h2 c (by simp)), h2 b (by simp)⟩)
  obtain ⟨hc1, hc2⟩ := hc
  repeat' (first | simp (maxDischargeDepth := 9) -implicitDefEqProofs -dsimp only [go_sem, seval, *] | simp (disch := omega) only [xor1] | ((with_reducible refine Zt (fun oF hoF hnF hnF' => ?_)); (try simp only [upd_none, ne_eq, not_and] at hoF)) | ((with_reducible apply ACalls.one1); (focus (first | ((first | with_reducible refine aig_and _ g e c a _ ?_ o1 | with_reducible refine aig_and _ r.1 r.2.1 (turn c) b _ ?_ o2 | with_reducible refine aig_or _ s.1 s.2.1 r.2.2 s.2.2 _ ?_ r1 s1 o3 | with_reducible refine aig_end _ (s.1.orW s.2.1 r.2.2 s.2.2).1 (s.1.orW s.2.1 r.2.2 s.2.2).2.1 _ _ ?_) <;> (first | (simp (maxDischargeDepth := 9) -implicitDefEqProofs -dsimp only [go_sem, seval, *]; done) | omega)) | (with_reducible refine ACalls.flA (aig_and _ g e c a _ ?_ o1) ?_ <;> (first | (simp (maxDischargeDepth := 9) -implicitDefEqProofs -dsimp only [go_sem, seval, *]; done) | omega)) | (with_reducible refine ACalls.flA (aig_and _ r.1 r.2.1 (turn c) b _ ?_ o2) ?_ <;> (first | (simp (maxDischargeDepth := 9) -implicitDefEqProofs -dsimp only [go_sem, seval, *]; done) | omega)) | (with_reducible refine ACalls.flA (aig_or _ s.1 s.2.1 r.2.2 s.2.2 _ ?_ r1 s1 o3) ?_ <;> (first | (simp (maxDischargeDepth := 9) -implicitDefEqProofs -dsimp only [go_sem, seval, *]; done) | omega)) | (with_reducible refine ACalls.flA (aig_end _ (s.1.orW s.2.1 r.2.2 s.2.2).1 (s.1.orW s.2.1 r.2.2 s.2.2).2.1 _ _ ?_) ?_ <;> (first | (simp (maxDischargeDepth := 9) -implicitDefEqProofs -dsimp only [go_sem, seval, *]; done) | omega)))); (focus (first | trivial | with_reducible exact rfl | (simp (maxDischargeDepth := 9) -implicitDefEqProofs -dsimp only [go_sem, seval]; done)))) | ((with_reducible apply ACalls.newO); (focus (first | ((first | with_reducible refine aig_begin g [c, a, b] _ hs ?_ hl) <;> (first | (simp (maxDischargeDepth := 9) -implicitDefEqProofs -dsimp only [go_sem, seval, *]; done) | omega)) | (with_reducible refine ACalls.flA (aig_begin g [c, a, b] _ hs ?_ hl) ?_ <;> (first | (simp (maxDischargeDepth := 9) -implicitDefEqProofs -dsimp only [go_sem, seval, *]; done) | omega)))); (intro oF hoF hnF hnF'); (try simp only [upd_none, ne_eq, not_and] at hoF)))
  refine fin_eq ?_
  (repeat' (first | simp (maxDischargeDepth := 9) -implicitDefEqProofs -dsimp only [go_sem, seval, Aig.Mux, *] | simp (disch := omega) only [xor1])) <;> (repeat' refine And.intro ?_ ?_) <;> (first | omega | rfl | assumption | skip)
theorem aig_New (ins : Int) (init : List Bool) (σ : Sig) (hi : I64 ins) (hl : init.length ≤ 1000000) :
    ACalls Try.prog 24 [.int .i64 ins, .slice (init.map encBool) .no] σ (fun r σ' => r = .ret (.tup [encAig (Aig.New ins init).1, .int .i64 (Aig.New ins init).2]) ∧ σ' = σ) := by
  refine ACalls.virt (callable_of Try.func24 b24 n24) 2 (fun oV1 hoV1 hnV1 hnV1' => ?_); (try simp only [upd_none, ne_eq, not_and] at hoV1); refine calls_x mixed Try.func24 b24 n24 rfl q24 (by simp) ?_; unfold c24 r24
  obtain ⟨hi1, hi2⟩ := hi
  by_cases h0 : ins < 0
  · have hv : Aig.New ins init = (⟨0, [], [], []⟩, 1) := by simp [Aig.New, *]
    repeat' (first | simp (maxDischargeDepth := 9) -implicitDefEqProofs -dsimp only [go_sem, seval, *] | simp (disch := omega) only [wrap64] | ((with_reducible refine Zv ?_ ?_); focus (first | omega | exact rfl)) | ((with_reducible refine Zu ?_ ?_); focus omega) | ((with_reducible refine Zt (fun oF hoF hnF hnF' => ?_)); (try simp only [upd_none, ne_eq, not_and] at hoF)))
    refine fin_eq ?_
    (repeat' (first | simp (maxDischargeDepth := 9) -implicitDefEqProofs -dsimp only [go_sem, seval, *] | simp (disch := omega) only [wrap64])) <;> (repeat' refine And.intro ?_ ?_) <;> (first | omega | rfl | assumption | skip)
  by_cases h1 : 65536 - (init.length : Int) < ins
  · have hv : Aig.New ins init = (⟨0, [], [], []⟩, 2) := by simp only [Aig.New, h0, if_false]; rw [if_pos (by omega)]
    repeat' (first | simp (maxDischargeDepth := 9) -implicitDefEqProofs -dsimp only [go_sem, seval, gt_iff_lt, *] | simp (disch := omega) only [wrap64] | ((with_reducible refine Zv ?_ ?_); focus (first | omega | exact rfl)) | ((with_reducible refine Zu ?_ ?_); focus omega) | ((with_reducible refine Zt (fun oF hoF hnF hnF' => ?_)); (try simp only [upd_none, ne_eq, not_and] at hoF)))
    refine fin_eq ?_
    (repeat' (first | simp (maxDischargeDepth := 9) -implicitDefEqProofs -dsimp only [go_sem, seval, *] | simp (disch := omega) only [wrap64])) <;> (repeat' refine And.intro ?_ ?_) <;> (first | omega | rfl | assumption | skip)
  have hv : Aig.New ins init = (⟨ins, init.map fun b => ⟨0, b⟩, [], []⟩, 0) := by simp only [Aig.New, h0, if_false]; rw [if_neg (by omega)]
  repeat' (first | simp (maxDischargeDepth := 9) -implicitDefEqProofs -dsimp only [go_sem, seval, gt_iff_lt, *] | simp (disch := omega) only [wrap64] | ((with_reducible refine Zv ?_ ?_); focus (first | omega | exact rfl)) | ((with_reducible refine Zu ?_ ?_); focus omega) | ((with_reducible refine Zt (fun oF hoF hnF hnF' => ?_)); (try simp only [upd_none, ne_eq, not_and] at hoF)))
  rename_i o4 ho4 hn4 hn4'
  refine loop_rule (fun i : Nat => [(4, some (.ptr o4 0)), (6, some (.ptr oF 0)), (22, some (.slice (init.map encBool) .no)), (23, some (.int .i64 init.length)), (24, some (.int .i64 i))])
    (fun i => upd (upd (upd σ oV1 (.grow 2 i)) o4 (.cells [.int .i64 0, .slice [] .nil, .slice [] .nil, .slice [] .nil])) oF (.cells [.int .i64 ins, .slice ((init.take i).map fun b => encFlop ⟨0, b⟩) (.own oV1), .slice [] .nil, .slice [] .nil])) (fun i => i ≤ init.length) (fun i => init.length - i) 0 ?_ ?_
  · (repeat' (first | simp (maxDischargeDepth := 9) -implicitDefEqProofs -dsimp only [go_sem, seval, *] | simp (disch := omega) only [wrap64])) <;> (repeat' refine And.intro ?_ ?_) <;> (first | omega | rfl | assumption | skip)
  · intro i hi'
    by_cases hlt : i < init.length
    · have hs := take_succ hlt
      have hlen : (init.take i).length = i := by simp; omega
      have hz : ∀ l : List Bool, szs 2 (l.map fun b => encFlop ⟨0, b⟩) = True := fun l => szs_map _ _ _ fun _ => rfl
      repeat' (first | simp (maxDischargeDepth := 9) -implicitDefEqProofs -dsimp only [go_sem, seval, hz, *] | simp (disch := omega) only [wrap64] | ((with_reducible refine Zv ?_ ?_); focus (first | omega | exact rfl)) | ((with_reducible refine Zu ?_ ?_); focus omega) | ((with_reducible refine Zt (fun oF hoF hnF hnF' => ?_)); (try simp only [upd_none, ne_eq, not_and] at hoF)))
      refine loop_next _ _ _ _ (i + 1) ?_; (repeat' (first | simp (maxDischargeDepth := 9) -implicitDefEqProofs -dsimp only [go_sem, seval, *] | simp (disch := omega) only [wrap64])) <;> (repeat' refine And.intro ?_ ?_) <;> (first | omega | rfl | assumption | skip)
    · repeat' (first | simp (maxDischargeDepth := 9) -implicitDefEqProofs -dsimp only [go_sem, seval, *] | simp (disch := omega) only [wrap64] | ((with_reducible refine Zv ?_ ?_); focus (first | omega | exact rfl)) | ((with_reducible refine Zu ?_ ?_); focus omega) | ((with_reducible refine Zt (fun oF hoF hnF hnF' => ?_)); (try simp only [upd_none, ne_eq, not_and] at hoF)))
      refine fin_eq ?_
      have e0 : init.take i = init := List.take_of_length_le (by omega)
      have e1 : (init.map fun b => (⟨0, b⟩ : Flop)).map encFlop = init.map fun b => encFlop ⟨0, b⟩ := by rw [List.map_map]; rfl
      (repeat' (first | simp (maxDischargeDepth := 9) -implicitDefEqProofs -dsimp only [go_sem, seval, e0, e1, *] | simp (disch := omega) only [wrap64])) <;> (repeat' refine And.intro ?_ ?_) <;> (first | omega | rfl | assumption | skip)
end Go.Proofs.Ytbbihmmobfmadaa.A

