/- The model of layer 18 (gates) in plain Lean. -/
import Derived.Test.YtapnlmhfacoceaaPRewC
set_option linter.unusedSimpArgs false
set_option linter.unusedVariables false
namespace Go.Proofs.Ytapnlmhfacoceaa
open Abs
def c56 : ACode :=
 .seq (.reg [⟨some 1, .boxI (.t 0), none⟩,
   ⟨some 2, .mov (.c .nilmap), none⟩])
 (.seq (.reg [⟨some 16, .ext .mkmap, none⟩,
   ⟨some 3, .mov (.t 16), none⟩])
 (.seq (.seq (.reg [⟨some 17, .fldA 1 (.t 1), none⟩,
   ⟨some 18, .load false 1 (.t 17), none⟩,
   ⟨some 19, .len (.t 18), none⟩,
   ⟨some 20, .mov (.c (.int .i64 0)), none⟩])
 (.block 0 (.loop (.seq (.reg [⟨some 21, .bin .lss false (.t 20) (.t 19), none⟩])
  (.seq (.cond (.t 21)
   (.skip)
   (.exit 0))
  (.seq (.block 1 (.seq (.reg [⟨some 22, .mov (.t 20), none⟩,
    ⟨some 23, .idxS 2 (.t 18) (.t 20), none⟩,
    ⟨some 24, .load true 2 (.t 23), none⟩,
    ⟨some 5, .alloc [(.int .i64 0), (.bool false)], none⟩,
    ⟨some 4, .mov (.t 22), none⟩,
    ⟨none, .store 2 (.t 5) (.t 24), none⟩])
  (.reg [⟨some 25, .mov (.t 3), none⟩,
    ⟨some 26, .mov (.t 4), none⟩,
    ⟨some 27, .fldA 1 (.t 5), none⟩,
    ⟨some 28, .load false 1 (.t 27), none⟩,
    ⟨none, .ext (.mset (.one 0) (.t 25) (.t 26) (.t 28)), none⟩])))
  (.reg [⟨some 29, .bin .add false (.t 20) (.c (.int .i64 1)), none⟩,
    ⟨some 20, .mov (.t 29), none⟩])))))))
 (.block 2 (.loop (.block 3 (.seq (.reg [⟨some 30, .mkiface 94 (.c (.bool false)), none⟩,
    ⟨some 31, .ext (.bsliceG 1 [(.t 30)]), none⟩,
    ⟨some 6, .alloc [(.slice [] .nil)], none⟩,
    ⟨none, .store 1 (.t 6) (.t 31), none⟩])
  (.seq (.seq (.reg [⟨some 32, .fldA 0 (.t 1), none⟩,
    ⟨some 33, .load false 1 (.t 32), none⟩,
    ⟨some 34, .mov (.c (.int .i64 0)), none⟩])
  (.block 4 (.loop (.seq (.reg [⟨some 35, .bin .lss false (.t 34) (.t 33), none⟩])
   (.seq (.cond (.t 35)
    (.skip)
    (.exit 4))
   (.seq (.block 5 (.reg [⟨some 36, .load false 1 (.t 6), none⟩,
     ⟨some 37, .build [] [], none⟩,
     ⟨some 38, .mkiface 97 (.t 37), none⟩,
     ⟨some 39, .bslice 1 [(.t 38)], none⟩,
     ⟨some 40, .append 1 16 (.t 36) (.t 39), none⟩,
     ⟨none, .store 1 (.t 6) (.t 40), none⟩]))
   (.reg [⟨some 41, .bin .add false (.t 34) (.c (.int .i64 1)), none⟩,
     ⟨some 34, .mov (.t 41), none⟩])))))))
  (.seq (.seq (.reg [⟨some 42, .fldA 1 (.t 1), none⟩,
    ⟨some 43, .load false 1 (.t 42), none⟩,
    ⟨some 44, .len (.t 43), none⟩,
    ⟨some 45, .mov (.c (.int .i64 0)), none⟩])
  (.block 6 (.loop (.seq (.reg [⟨some 46, .bin .lss false (.t 45) (.t 44), none⟩])
   (.seq (.cond (.t 46)
    (.skip)
    (.exit 6))
   (.seq (.block 7 (.seq (.reg [⟨some 47, .mov (.t 45), none⟩,
     ⟨some 7, .mov (.t 47), none⟩])
   (.seq (.reg [⟨some 49, .mov (.t 3), none⟩,
     ⟨some 50, .mov (.t 7), none⟩,
     ⟨some 51, .ext (.look (.one 0) (.bool false) true (.t 49) (.t 50)), none⟩,
     ⟨some 48, .mov (.t 51), none⟩,
     ⟨some 52, .extract (.t 48) 0, none⟩,
     ⟨some 53, .extract (.t 48) 1, none⟩,
     ⟨some 8, .mov (.t 52), none⟩,
     ⟨some 9, .mov (.t 53), none⟩])
   (.seq (.reg [⟨some 54, .mov (.t 9), none⟩])
   (.cond (.t 54)
    (.reg [⟨some 55, .load false 1 (.t 6), none⟩,
      ⟨some 56, .mov (.t 8), none⟩,
      ⟨some 57, .mkiface 94 (.t 56), none⟩,
      ⟨some 58, .bslice 1 [(.t 57)], none⟩,
      ⟨some 59, .append 1 16 (.t 55) (.t 58), none⟩,
      ⟨none, .store 1 (.t 6) (.t 59), none⟩])
    (.reg [⟨some 60, .load false 1 (.t 6), none⟩,
      ⟨some 61, .build [] [], none⟩,
      ⟨some 62, .mkiface 97 (.t 61), none⟩,
      ⟨some 63, .bslice 1 [(.t 62)], none⟩,
      ⟨some 64, .append 1 16 (.t 60) (.t 63), none⟩,
      ⟨none, .store 1 (.t 6) (.t 64), none⟩]))))))
   (.reg [⟨some 65, .bin .add false (.t 45) (.c (.int .i64 1)), none⟩,
     ⟨some 45, .mov (.t 65), none⟩])))))))
  (.seq (.reg [⟨some 66, .mkfn 78 [] [(.t 6)], none⟩,
    ⟨some 10, .mov (.t 66), none⟩])
  (.seq (.seq (.reg [⟨some 67, .fldA 2 (.t 1), none⟩,
    ⟨some 68, .load false 1 (.t 67), none⟩,
    ⟨some 69, .len (.t 68), none⟩,
    ⟨some 70, .mov (.c (.int .i64 0)), none⟩])
  (.block 8 (.loop (.seq (.reg [⟨some 71, .bin .lss false (.t 70) (.t 69), none⟩])
   (.seq (.cond (.t 71)
    (.skip)
    (.exit 8))
   (.seq (.block 9 (.seq (.reg [⟨some 72, .idxS 2 (.t 68) (.t 70), none⟩,
     ⟨some 73, .load true 2 (.t 72), none⟩,
     ⟨some 12, .alloc [(.int .i64 0), (.int .i64 0)], none⟩,
     ⟨none, .store 2 (.t 12) (.t 73), none⟩])
   (.drw [⟨some 74, .load false 1 (.t 6), none⟩,
     ⟨some 75, .mov (.t 10), none⟩,
     ⟨some 76, .idxR 1 2 (.t 12) (.c (.int .i64 0)), none⟩,
     ⟨some 77, .load false 1 (.t 76), none⟩,
     ⟨some 78, .call (.t 75) [(.t 77)], none⟩,
     ⟨some 79, .mov (.t 10), none⟩,
     ⟨some 80, .idxR 1 2 (.t 12) (.c (.int .i64 1)), none⟩,
     ⟨some 81, .load false 1 (.t 80), none⟩,
     ⟨some 82, .call (.t 79) [(.t 81)], none⟩,
     ⟨some 83, .call (.c (.fn 79 [] [])) [(.t 78), (.t 82)], none⟩,
     ⟨some 84, .bslice 1 [(.t 83)], none⟩,
     ⟨some 85, .append 1 16 (.t 74) (.t 84), none⟩,
     ⟨none, .store 1 (.t 6) (.t 85), none⟩] [(0, 4), (0, 8), (0, 9), (4, 7)])))
   (.reg [⟨some 86, .bin .add false (.t 70) (.c (.int .i64 1)), none⟩,
     ⟨some 70, .mov (.t 86), none⟩])))))))
  (.seq (.reg [⟨some 87, .mov (.t 3), none⟩,
    ⟨some 88, .ext (.lenM (.t 87)), none⟩,
    ⟨some 13, .mov (.t 88), none⟩])
  (.seq (.seq (.reg [⟨some 89, .fldA 1 (.t 1), none⟩,
    ⟨some 90, .load false 1 (.t 89), none⟩,
    ⟨some 91, .len (.t 90), none⟩,
    ⟨some 92, .mov (.c (.int .i64 0)), none⟩])
  (.block 10 (.loop (.seq (.reg [⟨some 93, .bin .lss false (.t 92) (.t 91), none⟩])
   (.seq (.cond (.t 93)
    (.skip)
    (.exit 10))
   (.seq (.block 11 (.seq (.reg [⟨some 94, .mov (.t 92), none⟩,
     ⟨some 95, .idxS 2 (.t 90) (.t 92), none⟩,
     ⟨some 96, .load true 2 (.t 95), none⟩,
     ⟨some 15, .alloc [(.int .i64 0), (.bool false)], none⟩,
     ⟨some 14, .mov (.t 94), none⟩,
     ⟨none, .store 2 (.t 15) (.t 96), none⟩])
   (.seq (.drw [⟨some 97, .mov (.t 10), none⟩,
     ⟨some 98, .fldA 0 (.t 15), none⟩,
     ⟨some 99, .load false 1 (.t 98), none⟩,
     ⟨some 100, .call (.t 97) [(.t 99)], none⟩,
     ⟨some 101, .fldA 1 (.t 15), none⟩,
     ⟨some 102, .load false 1 (.t 101), none⟩,
     ⟨some 103, .mkiface 94 (.t 102), none⟩,
     ⟨some 104, .ext (.eqI true [(94, some 1), (97, none)] (.t 100) (.t 103)), none⟩] [(3, 5)])
   (.cond (.t 104)
    (.reg [⟨some 105, .mov (.t 3), none⟩,
      ⟨some 106, .mov (.t 14), none⟩,
      ⟨none, .ext (.mdel (.one 0) (.t 105) (.t 106)), none⟩])
    (.skip)))))
   (.reg [⟨some 107, .bin .add false (.t 92) (.c (.int .i64 1)), none⟩,
     ⟨some 92, .mov (.t 107), none⟩])))))))
  (.seq (.reg [⟨some 108, .mov (.t 3), none⟩,
    ⟨some 109, .ext (.lenM (.t 108)), none⟩,
    ⟨some 110, .mov (.t 13), none⟩,
    ⟨some 111, .bin .eql false (.t 109) (.t 110), none⟩])
  (.cond (.t 111)
   (.seq (.reg [⟨some 112, .mov (.t 3), none⟩,
     ⟨some 2, .mov (.t 112), none⟩])
   (.ret))
   (.skip)))))))))))))))
def r56 : List ARV := [.tmp 2]
theorem b56 : Try.f56.body.bind (tr Try.prog 113) = some c56.bare := by kernel_rfl
theorem q56 : trRes Try.prog Try.f56.results.toList = some r56 := by kernel_rfl
theorem n56 : (Try.f56.name == "runtime.NumGoroutine") = false := by kernel_rfl

def c58 : ACode :=
 .seq (.reg [⟨some 2, .boxI (.t 0), none⟩,
   ⟨some 4, .mov (.c (.int .i64 0)), none⟩])
 (.seq (.seq (.reg [⟨some 5, .mov (.t 1), none⟩,
   ⟨some 6, .un .not (.t 5), none⟩])
 (.cond (.t 6)
  (.seq (.reg [⟨some 4, .mov (.c (.int .i64 2)), none⟩])
  (.ret))
  (.skip)))
 (.seq (.seq (.reg [⟨some 7, .fldA 1 (.t 2), none⟩,
   ⟨some 8, .load false 1 (.t 7), none⟩])
 (.cond (.t 8)
  (.seq (.reg [⟨some 4, .mov (.c (.int .i64 1)), none⟩])
  (.ret))
  (.skip)))
 (.seq (.reg [⟨some 4, .mov (.c (.int .i64 0)), none⟩])
 (.ret))))
def r58 : List ARV := [.tmp 4]
theorem b58 : Try.f58.body.bind (tr Try.prog 9) = some c58.bare := by kernel_rfl
theorem q58 : trRes Try.prog Try.f58.results.toList = some r58 := by kernel_rfl
theorem n58 : (Try.f58.name == "runtime.NumGoroutine") = false := by kernel_rfl

def c59 : ACode :=
 .seq (.reg [⟨some 2, .boxI (.t 0), none⟩,
   ⟨some 4, .mov (.c .nilp), none⟩])
 (.seq (.reg [⟨some 8, .load true 4 (.t 2), none⟩,
   ⟨some 9, .build [(.int .i64 0), (.slice [] .nil), (.slice [] .nil), (.slice [] .nil), (.int .i64 0)] [(0, 4, (.t 8))], none⟩,
   ⟨some 10, .box (.t 9), none⟩,
   ⟨some 5, .mov (.t 10), none⟩])
 (.seq (.reg [⟨some 11, .mov (.t 5), none⟩,
   ⟨some 12, .mov (.t 5), none⟩,
   ⟨some 13, .call (.c (.fn 80 [] [])) [(.t 12)], none⟩,
   ⟨some 14, .nilchk (.t 11), none⟩,
   ⟨some 15, .fldA 4 (.t 14), none⟩,
   ⟨none, .store 1 (.t 15) (.t 13), none⟩])
 (.seq (.seq (.reg [⟨some 16, .mov (.t 1), none⟩,
   ⟨some 17, .len (.t 16), none⟩,
   ⟨some 18, .mov (.c (.int .i64 0)), none⟩])
 (.block 0 (.loop (.seq (.reg [⟨some 19, .bin .lss false (.t 18) (.t 17), none⟩])
  (.seq (.cond (.t 19)
   (.skip)
   (.exit 0))
  (.seq (.block 1 (.seq (.reg [⟨some 20, .idxS 1 (.t 16) (.t 18), none⟩,
    ⟨some 21, .load false 1 (.t 20), none⟩,
    ⟨some 7, .mov (.t 21), none⟩])
  (.seq (.reg [⟨some 22, .mov (.t 5), none⟩,
    ⟨some 23, .nilchk (.t 22), none⟩,
    ⟨some 24, .fldA 4 (.t 23), none⟩,
    ⟨some 25, .load false 1 (.t 24), none⟩,
    ⟨some 26, .bin .eql false (.t 25) (.c (.int .i64 0)), none⟩,
    ⟨some 27, .mov (.t 26), none⟩,
    ⟨some 28, .mov (.t 5), some (27, true)⟩,
    ⟨some 29, .mov (.t 7), some (27, true)⟩,
    ⟨some 30, .call (.c (.fn 81 [] [])) [(.t 28), (.t 29)], some (27, true)⟩,
    ⟨some 31, .un .not (.t 30), some (27, true)⟩,
    ⟨some 32, .pick (.t 27) (.t 31) (.c (.bool false)), none⟩])
  (.cond (.t 32)
   (.reg [⟨some 33, .mov (.t 5), none⟩,
     ⟨some 34, .nilchk (.t 33), none⟩,
     ⟨some 35, .fldA 4 (.t 34), none⟩,
     ⟨none, .store 1 (.t 35) (.c (.int .i64 1)), none⟩])
   (.skip)))))
  (.reg [⟨some 36, .bin .add false (.t 18) (.c (.int .i64 1)), none⟩,
    ⟨some 18, .mov (.t 36), none⟩])))))))
 (.seq (.reg [⟨some 37, .mov (.t 5), none⟩,
   ⟨some 4, .mov (.t 37), none⟩])
 (.ret)))))
def r59 : List ARV := [.tmp 4]
theorem b59 : Try.f59.body.bind (tr Try.prog 38) = some c59.bare := by kernel_rfl
theorem q59 : trRes Try.prog Try.f59.results.toList = some r59 := by kernel_rfl
theorem n59 : (Try.f59.name == "runtime.NumGoroutine") = false := by kernel_rfl

def c60 : ACode :=
 .seq (.reg [⟨some 1, .boxI (.t 0), none⟩,
   ⟨some 2, .mov (.c (.int .i64 0)), none⟩])
 (.seq (.reg [⟨some 3, .fldA 0 (.t 1), none⟩,
   ⟨some 4, .load false 1 (.t 3), none⟩,
   ⟨some 5, .bin .add false (.c (.int .i64 1)) (.t 4), none⟩,
   ⟨some 6, .fldA 1 (.t 1), none⟩,
   ⟨some 7, .load false 1 (.t 6), none⟩,
   ⟨some 8, .len (.t 7), none⟩,
   ⟨some 9, .bin .add false (.t 5) (.t 8), none⟩,
   ⟨some 10, .fldA 2 (.t 1), none⟩,
   ⟨some 11, .load false 1 (.t 10), none⟩,
   ⟨some 12, .len (.t 11), none⟩,
   ⟨some 13, .bin .add false (.t 9) (.t 12), none⟩,
   ⟨some 2, .mov (.t 13), none⟩])
 (.ret))
def r60 : List ARV := [.tmp 2]
theorem b60 : Try.f60.body.bind (tr Try.prog 14) = some c60.bare := by kernel_rfl
theorem q60 : trRes Try.prog Try.f60.results.toList = some r60 := by kernel_rfl
theorem n60 : (Try.f60.name == "runtime.NumGoroutine") = false := by kernel_rfl

def c63 : ACode :=
 .seq (.reg [⟨some 3, .boxI (.t 0), none⟩,
   ⟨some 6, .mov (.c (.slice [] .nil)), none⟩,
   ⟨some 7, .mov (.c (.int .i64 0)), none⟩])
 (.seq (.seq (.reg [⟨some 12, .load true 4 (.t 3), none⟩,
   ⟨some 13, .call (.c (.fn 26 [] [])) [(.t 12)], none⟩,
   ⟨some 8, .mov (.t 13), none⟩])
 (.seq (.reg [⟨some 14, .mov (.t 8), none⟩,
   ⟨some 15, .bin .neq false (.t 14) (.c (.int .i64 0)), none⟩])
 (.cond (.t 15)
  (.seq (.reg [⟨some 16, .mov (.t 8), none⟩,
    ⟨some 6, .mov (.c (.slice [] .nil)), none⟩,
    ⟨some 7, .mov (.t 16), none⟩])
  (.ret))
  (.skip))))
 (.seq (.seq (.reg [⟨some 17, .mov (.t 1), none⟩,
   ⟨some 18, .len (.t 17), none⟩,
   ⟨some 19, .fldA 0 (.t 3), none⟩,
   ⟨some 20, .load false 1 (.t 19), none⟩,
   ⟨some 21, .bin .neq false (.t 18) (.t 20), none⟩,
   ⟨some 22, .mov (.t 21), none⟩,
   ⟨some 23, .mov (.t 2), some (22, false)⟩,
   ⟨some 24, .len (.t 23), some (22, false)⟩,
   ⟨some 25, .fldA 1 (.t 3), some (22, false)⟩,
   ⟨some 26, .load false 1 (.t 25), some (22, false)⟩,
   ⟨some 27, .len (.t 26), some (22, false)⟩,
   ⟨some 28, .bin .neq false (.t 24) (.t 27), some (22, false)⟩,
   ⟨some 29, .pick (.t 22) (.c (.bool true)) (.t 28), none⟩])
 (.cond (.t 29)
  (.seq (.reg [⟨some 6, .mov (.c (.slice [] .nil)), none⟩,
    ⟨some 7, .mov (.c (.int .i64 1)), none⟩])
  (.ret))
  (.skip)))
 (.seq (.reg [⟨some 30, .bslice 1 [(.c (.bool false))], none⟩,
   ⟨some 31, .mov (.t 1), none⟩,
   ⟨some 32, .mov (.t 2), none⟩,
   ⟨some 33, .bslice 1 [(.t 30), (.t 31), (.t 32)], none⟩,
   ⟨some 34, .call (.c (.fn 84 [] [])) [(.t 33)], none⟩,
   ⟨some 9, .mov (.t 34), none⟩])
 (.seq (.seq (.reg [⟨some 35, .fldA 2 (.t 3), none⟩,
   ⟨some 36, .load false 1 (.t 35), none⟩,
   ⟨some 37, .len (.t 36), none⟩,
   ⟨some 38, .mov (.c (.int .i64 0)), none⟩])
 (.block 0 (.loop (.seq (.reg [⟨some 39, .bin .lss false (.t 38) (.t 37), none⟩])
  (.seq (.cond (.t 39)
   (.skip)
   (.exit 0))
  (.seq (.block 1 (.seq (.reg [⟨some 40, .idxS 2 (.t 36) (.t 38), none⟩,
    ⟨some 41, .load true 2 (.t 40), none⟩,
    ⟨some 11, .alloc [(.int .i64 0), (.int .i64 0)], none⟩,
    ⟨none, .store 2 (.t 11) (.t 41), none⟩])
  (.reg [⟨some 42, .mov (.t 9), none⟩,
    ⟨some 43, .mov (.t 9), none⟩,
    ⟨some 44, .idxR 1 2 (.t 11) (.c (.int .i64 0)), none⟩,
    ⟨some 45, .load false 1 (.t 44), none⟩,
    ⟨some 46, .call (.c (.fn 64 [] [])) [(.t 43), (.t 45)], none⟩,
    ⟨some 47, .mov (.t 46), none⟩,
    ⟨some 48, .mov (.t 9), some (47, true)⟩,
    ⟨some 49, .idxR 1 2 (.t 11) (.c (.int .i64 1)), some (47, true)⟩,
    ⟨some 50, .load false 1 (.t 49), some (47, true)⟩,
    ⟨some 51, .call (.c (.fn 64 [] [])) [(.t 48), (.t 50)], some (47, true)⟩,
    ⟨some 52, .pick (.t 47) (.t 51) (.c (.bool false)), none⟩,
    ⟨some 53, .bslice 1 [(.t 52)], none⟩,
    ⟨some 54, .append 1 1 (.t 42) (.t 53), none⟩,
    ⟨some 9, .mov (.t 54), none⟩])))
  (.reg [⟨some 55, .bin .add false (.t 38) (.c (.int .i64 1)), none⟩,
    ⟨some 38, .mov (.t 55), none⟩])))))))
 (.seq (.reg [⟨some 56, .mov (.t 9), none⟩,
   ⟨some 6, .mov (.t 56), none⟩,
   ⟨some 7, .mov (.c (.int .i64 0)), none⟩])
 (.ret))))))
def r63 : List ARV := [.tmp 6, .tmp 7]
theorem b63 : Try.f63.body.bind (tr Try.prog 57) = some c63.bare := by kernel_rfl
theorem q63 : trRes Try.prog Try.f63.results.toList = some r63 := by kernel_rfl
theorem n63 : (Try.f63.name == "runtime.NumGoroutine") = false := by kernel_rfl

def c64 : ACode :=
 .seq (.reg [⟨some 4, .mov (.c (.bool false)), none⟩])
 (.seq (.reg [⟨some 5, .mov (.t 0), none⟩,
   ⟨some 6, .mov (.t 1), none⟩,
   ⟨some 7, .bin .shr false (.t 6) (.c (.int .u64 1)), none⟩,
   ⟨some 8, .idxS 1 (.t 5) (.t 7), none⟩,
   ⟨some 9, .load false 1 (.t 8), none⟩,
   ⟨some 10, .mov (.t 1), none⟩,
   ⟨some 11, .bin .and false (.t 10) (.c (.int .i64 1)), none⟩,
   ⟨some 12, .bin .eql false (.t 11) (.c (.int .i64 1)), none⟩,
   ⟨some 13, .bin .neq true (.t 9) (.t 12), none⟩,
   ⟨some 4, .mov (.t 13), none⟩])
 (.ret))
def r64 : List ARV := [.tmp 4]
theorem b64 : Try.f64.body.bind (tr Try.prog 14) = some c64.bare := by kernel_rfl
theorem q64 : trRes Try.prog Try.f64.results.toList = some r64 := by kernel_rfl
theorem n64 : (Try.f64.name == "runtime.NumGoroutine") = false := by kernel_rfl

def c65 : ACode :=
 .seq (.reg [⟨some 4, .mov (.c (.bool false)), none⟩])
 (.seq (.reg [⟨some 5, .mov (.t 1), none⟩,
   ⟨some 6, .bin .geq false (.t 5) (.c (.int .i64 0)), none⟩,
   ⟨some 7, .mov (.t 6), none⟩,
   ⟨some 8, .mov (.t 1), some (7, true)⟩,
   ⟨some 9, .mov (.t 0), some (7, true)⟩,
   ⟨some 10, .bin .mul false (.c (.int .i64 2)) (.t 9), some (7, true)⟩,
   ⟨some 11, .bin .lss false (.t 8) (.t 10), some (7, true)⟩,
   ⟨some 12, .pick (.t 7) (.t 11) (.c (.bool false)), none⟩,
   ⟨some 4, .mov (.t 12), none⟩])
 (.ret))
def r65 : List ARV := [.tmp 4]
theorem b65 : Try.f65.body.bind (tr Try.prog 13) = some c65.bare := by kernel_rfl
theorem q65 : trRes Try.prog Try.f65.results.toList = some r65 := by kernel_rfl
theorem n65 : (Try.f65.name == "runtime.NumGoroutine") = false := by kernel_rfl

def c66 : ACode :=
 .seq (.reg [⟨some 4, .mov (.c (.int .i64 0)), none⟩])
 (.seq (.seq (.reg [⟨some 5, .mov (.t 0), none⟩,
   ⟨some 6, .bin .eql false (.t 5) (.c (.int .i64 0)), none⟩,
   ⟨some 7, .mov (.t 6), none⟩,
   ⟨some 8, .mov (.t 1), some (7, false)⟩,
   ⟨some 9, .bin .eql false (.t 8) (.c (.int .i64 0)), some (7, false)⟩,
   ⟨some 10, .pick (.t 7) (.c (.bool true)) (.t 9), none⟩])
 (.cond (.t 10)
  (.seq (.reg [⟨some 4, .mov (.c (.int .i64 0)), none⟩])
  (.ret))
  (.skip)))
 (.seq (.seq (.reg [⟨some 11, .mov (.t 0), none⟩,
   ⟨some 12, .bin .eql false (.t 11) (.c (.int .i64 1)), none⟩,
   ⟨some 13, .mov (.t 12), none⟩,
   ⟨some 14, .mov (.t 1), some (13, true)⟩,
   ⟨some 15, .bin .eql false (.t 14) (.c (.int .i64 1)), some (13, true)⟩,
   ⟨some 16, .pick (.t 13) (.t 15) (.c (.bool false)), none⟩])
 (.cond (.t 16)
  (.seq (.reg [⟨some 4, .mov (.c (.int .i64 1)), none⟩])
  (.ret))
  (.skip)))
 (.seq (.reg [⟨some 4, .mov (.c (.int .i64 2)), none⟩])
 (.ret))))
def r66 : List ARV := [.tmp 4]
theorem b66 : Try.f66.body.bind (tr Try.prog 17) = some c66.bare := by kernel_rfl
theorem q66 : trRes Try.prog Try.f66.results.toList = some r66 := by kernel_rfl
theorem n66 : (Try.f66.name == "runtime.NumGoroutine") = false := by kernel_rfl

def c67 : ACode :=
 .seq (.reg [⟨some 4, .mov (.c (.int .i64 0)), none⟩])
 (.seq (.seq (.reg [⟨some 5, .mov (.t 0), none⟩,
   ⟨some 6, .mov (.t 1), none⟩,
   ⟨some 7, .bin .quo false (.t 6) (.c (.int .i64 2)), none⟩,
   ⟨some 8, .idxS 1 (.t 5) (.t 7), none⟩,
   ⟨some 9, .load false 1 (.t 8), none⟩,
   ⟨some 10, .bin .eql false (.t 9) (.c (.int .i64 2)), none⟩])
 (.cond (.t 10)
  (.seq (.reg [⟨some 4, .mov (.c (.int .i64 2)), none⟩])
  (.ret))
  (.skip)))
 (.seq (.reg [⟨some 11, .mov (.t 0), none⟩,
   ⟨some 12, .mov (.t 1), none⟩,
   ⟨some 13, .bin .quo false (.t 12) (.c (.int .i64 2)), none⟩,
   ⟨some 14, .idxS 1 (.t 11) (.t 13), none⟩,
   ⟨some 15, .load false 1 (.t 14), none⟩,
   ⟨some 16, .mov (.t 1), none⟩,
   ⟨some 17, .bin .rem false (.t 16) (.c (.int .i64 2)), none⟩,
   ⟨some 18, .bin .xor false (.t 15) (.t 17), none⟩,
   ⟨some 4, .mov (.t 18), none⟩])
 (.ret)))
def r67 : List ARV := [.tmp 4]
theorem b67 : Try.f67.body.bind (tr Try.prog 19) = some c67.bare := by kernel_rfl
theorem q67 : trRes Try.prog Try.f67.results.toList = some r67 := by kernel_rfl
theorem n67 : (Try.f67.name == "runtime.NumGoroutine") = false := by kernel_rfl

def c69 : ACode :=
 .seq (.reg [⟨some 2, .mov (.c (.int .i64 0)), none⟩])
 (.seq (.seq (.reg [⟨some 3, .mov (.t 0), none⟩])
 (.cond (.t 3)
  (.seq (.reg [⟨some 2, .mov (.c (.int .i64 1)), none⟩])
  (.ret))
  (.skip)))
 (.seq (.reg [⟨some 2, .mov (.c (.int .i64 0)), none⟩])
 (.ret)))
def r69 : List ARV := [.tmp 2]
theorem b69 : Try.f69.body.bind (tr Try.prog 4) = some c69.bare := by kernel_rfl
theorem q69 : trRes Try.prog Try.f69.results.toList = some r69 := by kernel_rfl
theorem n69 : (Try.f69.name == "runtime.NumGoroutine") = false := by kernel_rfl

def c70 : ACode :=
 .seq (.reg [⟨some 2, .mov (.c (.slice [] .nil)), none⟩])
 (.seq (.seq (.reg [⟨some 3, .mov (.t 0), none⟩,
   ⟨some 4, .ext (.isnil false (.t 3)), none⟩])
 (.cond (.t 4)
  (.seq (.reg [⟨some 2, .mov (.c (.slice [] .nil)), none⟩])
  (.ret))
  (.skip)))
 (.seq (.reg [⟨some 5, .bslice 1 [], none⟩,
   ⟨some 6, .mov (.t 0), none⟩,
   ⟨some 7, .ext (.vapp 1 8 (.t 5) (.t 6)), none⟩,
   ⟨some 2, .mov (.t 7), none⟩])
 (.ret)))
def r70 : List ARV := [.tmp 2]
theorem b70 : Try.f70.body.bind (tr Try.prog 8) = some c70.bare := by kernel_rfl
theorem q70 : trRes Try.prog Try.f70.results.toList = some r70 := by kernel_rfl
theorem n70 : (Try.f70.name == "runtime.NumGoroutine") = false := by kernel_rfl

def c71 : ACode :=
 .seq (.reg [⟨some 6, .mov (.c (.int .i64 0)), none⟩])
 (.seq (.reg [⟨some 11, .mov (.t 0), none⟩,
   ⟨some 12, .nilchk (.t 11), none⟩,
   ⟨some 13, .fldA 4 (.t 12), none⟩,
   ⟨some 14, .load true 4 (.t 13), none⟩,
   ⟨some 15, .mov (.t 1), none⟩,
   ⟨some 16, .mov (.t 2), none⟩,
   ⟨some 17, .call (.c (.fn 85 [] [])) [(.t 14), (.t 15), (.t 16)], none⟩,
   ⟨some 10, .mov (.t 17), none⟩,
   ⟨some 18, .extract (.t 10) 0, none⟩,
   ⟨some 19, .extract (.t 10) 1, none⟩,
   ⟨some 20, .extract (.t 10) 2, none⟩,
   ⟨some 7, .alloc [(.int .i64 0), (.slice [] .nil), (.slice [] .nil), (.slice [] .nil)], none⟩,
   ⟨none, .store 4 (.t 7) (.t 18), none⟩,
   ⟨some 8, .mov (.t 19), none⟩,
   ⟨some 9, .mov (.t 20), none⟩])
 (.seq (.seq (.drw [⟨some 21, .fldA 2 (.t 7), none⟩,
   ⟨some 22, .load false 1 (.t 21), none⟩,
   ⟨some 23, .len (.t 22), none⟩,
   ⟨some 24, .mov (.t 0), none⟩,
   ⟨some 25, .nilchk (.t 24), none⟩,
   ⟨some 26, .fldA 4 (.t 25), none⟩,
   ⟨some 27, .fldA 2 (.t 26), none⟩,
   ⟨some 28, .load false 1 (.t 27), none⟩,
   ⟨some 29, .len (.t 28), none⟩,
   ⟨some 30, .bin .gtr false (.t 23) (.t 29), none⟩] [])
 (.cond (.t 30)
  (.drw [⟨some 31, .mov (.t 0), none⟩,
    ⟨some 32, .mov (.t 0), none⟩,
    ⟨some 33, .nilchk (.t 32), none⟩,
    ⟨some 34, .fldA 9 (.t 33), none⟩,
    ⟨some 35, .load false 1 (.t 34), none⟩,
    ⟨some 36, .mov (.t 0), none⟩,
    ⟨some 37, .nilchk (.t 36), none⟩,
    ⟨some 38, .fldA 9 (.t 37), none⟩,
    ⟨some 39, .load false 1 (.t 38), none⟩,
    ⟨some 40, .mov (.t 1), none⟩,
    ⟨some 41, .bin .quo false (.t 40) (.c (.int .i64 2)), none⟩,
    ⟨some 42, .idxS 1 (.t 39) (.t 41), none⟩,
    ⟨some 43, .load false 1 (.t 42), none⟩,
    ⟨some 44, .mov (.t 0), none⟩,
    ⟨some 45, .nilchk (.t 44), none⟩,
    ⟨some 46, .fldA 9 (.t 45), none⟩,
    ⟨some 47, .load false 1 (.t 46), none⟩,
    ⟨some 48, .mov (.t 2), none⟩,
    ⟨some 49, .bin .quo false (.t 48) (.c (.int .i64 2)), none⟩,
    ⟨some 50, .idxS 1 (.t 47) (.t 49), none⟩,
    ⟨some 51, .load false 1 (.t 50), none⟩,
    ⟨some 52, .max [(.t 43), (.t 51)], none⟩,
    ⟨some 53, .bin .add false (.c (.int .i64 1)) (.t 52), none⟩,
    ⟨some 54, .bslice 1 [(.t 53)], none⟩,
    ⟨some 55, .append 1 8 (.t 35) (.t 54), none⟩,
    ⟨some 56, .nilchk (.t 31), none⟩,
    ⟨some 57, .fldA 9 (.t 56), none⟩,
    ⟨none, .store 1 (.t 57) (.t 55), none⟩] [])
  (.skip)))
 (.seq (.reg [⟨some 58, .mov (.t 0), none⟩,
   ⟨some 59, .load true 4 (.t 7), none⟩,
   ⟨some 60, .nilchk (.t 58), none⟩,
   ⟨some 61, .fldA 4 (.t 60), none⟩,
   ⟨none, .store 4 (.t 61) (.t 59), none⟩])
 (.seq (.reg [⟨some 62, .mov (.t 8), none⟩,
   ⟨some 6, .mov (.t 62), none⟩])
 (.ret)))))
def r71 : List ARV := [.tmp 6]
theorem b71 : Try.f71.body.bind (tr Try.prog 63) = some c71.bare := by kernel_rfl
theorem q71 : trRes Try.prog Try.f71.results.toList = some r71 := by kernel_rfl
theorem n71 : (Try.f71.name == "runtime.NumGoroutine") = false := by kernel_rfl

def c74 : ACode :=
 .seq (.reg [⟨some 4, .mov (.c (.int .i64 0)), none⟩])
 (.seq (.reg [⟨some 5, .mov (.c (.int .i64 0)), none⟩])
 (.seq (.seq (.reg [⟨some 8, .mov (.t 1), none⟩,
   ⟨some 9, .len (.t 8), none⟩,
   ⟨some 10, .mov (.c (.int .i64 0)), none⟩])
 (.block 0 (.loop (.seq (.reg [⟨some 11, .bin .lss false (.t 10) (.t 9), none⟩])
  (.seq (.cond (.t 11)
   (.skip)
   (.exit 0))
  (.seq (.block 1 (.seq (.reg [⟨some 12, .mov (.t 10), none⟩,
    ⟨some 13, .idxS 1 (.t 8) (.t 10), none⟩,
    ⟨some 14, .load false 1 (.t 13), none⟩,
    ⟨some 6, .mov (.t 12), none⟩,
    ⟨some 7, .mov (.t 14), none⟩])
  (.seq (.drw [⟨some 15, .mov (.t 0), none⟩,
    ⟨some 16, .nilchk (.t 15), none⟩,
    ⟨some 17, .fldA 9 (.t 16), none⟩,
    ⟨some 18, .load false 1 (.t 17), none⟩,
    ⟨some 19, .mov (.t 7), none⟩,
    ⟨some 20, .bin .quo false (.t 19) (.c (.int .i64 2)), none⟩,
    ⟨some 21, .idxS 1 (.t 18) (.t 20), none⟩,
    ⟨some 22, .load false 1 (.t 21), none⟩,
    ⟨some 23, .mov (.t 0), none⟩,
    ⟨some 24, .nilchk (.t 23), none⟩,
    ⟨some 25, .fldA 9 (.t 24), none⟩,
    ⟨some 26, .load false 1 (.t 25), none⟩,
    ⟨some 27, .mov (.t 1), none⟩,
    ⟨some 28, .mov (.t 5), none⟩,
    ⟨some 29, .idxS 1 (.t 27) (.t 28), none⟩,
    ⟨some 30, .load false 1 (.t 29), none⟩,
    ⟨some 31, .bin .quo false (.t 30) (.c (.int .i64 2)), none⟩,
    ⟨some 32, .idxS 1 (.t 26) (.t 31), none⟩,
    ⟨some 33, .load false 1 (.t 32), none⟩,
    ⟨some 34, .bin .lss false (.t 22) (.t 33), none⟩] [])
  (.cond (.t 34)
   (.reg [⟨some 35, .mov (.t 6), none⟩,
     ⟨some 5, .mov (.t 35), none⟩])
   (.skip)))))
  (.reg [⟨some 36, .bin .add false (.t 10) (.c (.int .i64 1)), none⟩,
    ⟨some 10, .mov (.t 36), none⟩])))))))
 (.seq (.reg [⟨some 37, .mov (.t 5), none⟩,
   ⟨some 4, .mov (.t 37), none⟩])
 (.ret))))
def r74 : List ARV := [.tmp 4]
theorem b74 : Try.f74.body.bind (tr Try.prog 38) = some c74.bare := by kernel_rfl
theorem q74 : trRes Try.prog Try.f74.results.toList = some r74 := by kernel_rfl
theorem n74 : (Try.f74.name == "runtime.NumGoroutine") = false := by kernel_rfl

def c78 : ACode :=
 .seq (.reg [⟨some 3, .mov (.c .nili), none⟩])
 (.seq (.seq (.reg [⟨some 4, .mov (.t 0), none⟩,
   ⟨some 5, .bin .and false (.t 4) (.c (.int .i64 1)), none⟩,
   ⟨some 6, .bin .eql false (.t 5) (.c (.int .i64 1)), none⟩])
 (.cond (.t 6)
  (.seq (.reg [⟨some 7, .load false 1 (.t 1), none⟩,
    ⟨some 8, .mov (.t 0), none⟩,
    ⟨some 9, .bin .quo false (.t 8) (.c (.int .i64 2)), none⟩,
    ⟨some 10, .idxS 1 (.t 7) (.t 9), none⟩,
    ⟨some 11, .load false 1 (.t 10), none⟩,
    ⟨some 12, .call (.m 11 [(94, 114), (97, 115)]) [], none⟩,
    ⟨some 3, .mov (.t 12), none⟩])
  (.ret))
  (.skip)))
 (.seq (.reg [⟨some 13, .load false 1 (.t 1), none⟩,
   ⟨some 14, .mov (.t 0), none⟩,
   ⟨some 15, .bin .quo false (.t 14) (.c (.int .i64 2)), none⟩,
   ⟨some 16, .idxS 1 (.t 13) (.t 15), none⟩,
   ⟨some 17, .load false 1 (.t 16), none⟩,
   ⟨some 3, .mov (.t 17), none⟩])
 (.ret)))
def r78 : List ARV := [.tmp 3]
theorem b78 : Try.f78.body.bind (tr Try.prog 18) = some c78.bare := by kernel_rfl
theorem q78 : trRes Try.prog Try.f78.results.toList = some r78 := by kernel_rfl
theorem n78 : (Try.f78.name == "runtime.NumGoroutine") = false := by kernel_rfl

def c79 : ACode :=
 .seq (.reg [⟨some 4, .mov (.c .nili), none⟩])
 (.seq (.reg [⟨some 5, .mov (.c (.bool true)), none⟩])
 (.seq (.seq (.reg [⟨some 10, .mov (.t 0), none⟩,
   ⟨some 11, .mov (.t 1), none⟩,
   ⟨some 12, .bslice 1 [(.t 10), (.t 11)], none⟩,
   ⟨some 13, .len (.t 12), none⟩,
   ⟨some 14, .mov (.c (.int .i64 0)), none⟩])
 (.block 0 (.loop (.seq (.reg [⟨some 15, .bin .lss false (.t 14) (.t 13), none⟩])
  (.seq (.cond (.t 15)
   (.skip)
   (.exit 0))
  (.seq (.block 1 (.seq (.reg [⟨some 16, .idxS 1 (.t 12) (.t 14), none⟩,
    ⟨some 17, .load false 1 (.t 16), none⟩,
    ⟨some 7, .mov (.t 17), none⟩])
  (.seq (.reg [⟨some 18, .mov (.t 7), none⟩])
  (.block 2 (.seq (.reg [⟨some 19, .ext (.tas 94 (.bool false) true (.t 18)), none⟩,
    ⟨some 20, .extract (.t 19) 1, none⟩,
    ⟨some 21, .extract (.t 19) 0, none⟩])
  (.cond (.t 20)
   (.seq (.reg [⟨some 8, .mov (.t 21), none⟩])
   (.seq (.reg [⟨some 22, .mov (.t 8), none⟩,
     ⟨some 23, .un .not (.t 22), none⟩])
   (.cond (.t 23)
    (.seq (.reg [⟨some 24, .mkiface 94 (.c (.bool false)), none⟩,
      ⟨some 4, .mov (.t 24), none⟩])
    (.ret))
    (.skip))))
   (.seq (.reg [⟨some 25, .ext (.tas 97 (.agg []) true (.t 18)), none⟩,
     ⟨some 26, .extract (.t 25) 1, none⟩,
     ⟨some 27, .extract (.t 25) 0, none⟩])
   (.cond (.t 26)
    (.seq (.reg [⟨some 9, .alloc [], none⟩,
      ⟨none, .store 0 (.t 9) (.t 27), none⟩])
    (.reg [⟨some 5, .mov (.c (.bool false)), none⟩]))
    (.skip)))))))))
  (.reg [⟨some 28, .bin .add false (.t 14) (.c (.int .i64 1)), none⟩,
    ⟨some 14, .mov (.t 28), none⟩])))))))
 (.seq (.seq (.reg [⟨some 29, .mov (.t 5), none⟩,
   ⟨some 30, .un .not (.t 29), none⟩])
 (.cond (.t 30)
  (.seq (.reg [⟨some 31, .build [] [], none⟩,
    ⟨some 32, .mkiface 97 (.t 31), none⟩,
    ⟨some 4, .mov (.t 32), none⟩])
  (.ret))
  (.skip)))
 (.seq (.reg [⟨some 33, .mkiface 94 (.c (.bool true)), none⟩,
   ⟨some 4, .mov (.t 33), none⟩])
 (.ret)))))
def r79 : List ARV := [.tmp 4]
theorem b79 : Try.f79.body.bind (tr Try.prog 34) = some c79.bare := by kernel_rfl
theorem q79 : trRes Try.prog Try.f79.results.toList = some r79 := by kernel_rfl
theorem n79 : (Try.f79.name == "runtime.NumGoroutine") = false := by kernel_rfl

def c80 : ACode :=
 .seq (.reg [⟨some 1, .box (.t 0), none⟩,
   ⟨some 2, .mov (.c (.int .i64 0)), none⟩])
 (.seq (.reg [⟨some 7, .mkfn 87 [] [(.t 1)], none⟩,
   ⟨some 3, .mov (.t 7), none⟩])
 (.seq (.reg [⟨some 8, .mkfn 88 [] [(.t 1)], none⟩,
   ⟨some 4, .mov (.t 8), none⟩])
 (.seq (.block 0 (.seq (.reg [⟨some 10, .load false 1 (.t 1), none⟩,
   ⟨some 11, .nilchk (.t 10), none⟩,
   ⟨some 12, .fldA 0 (.t 11), none⟩,
   ⟨some 13, .fldA 0 (.t 12), none⟩,
   ⟨some 14, .load false 1 (.t 13), none⟩,
   ⟨some 15, .bin .lss false (.t 14) (.c (.int .i64 0)), none⟩,
   ⟨some 9, .mov (.t 15), none⟩])
 (.cond (.t 9)
  (.seq (.reg [⟨some 2, .mov (.c (.int .i64 1)), none⟩])
  (.ret))
  (.seq (.seq (.reg [⟨some 17, .load false 1 (.t 1), none⟩,
    ⟨some 18, .nilchk (.t 17), none⟩,
    ⟨some 19, .fldA 0 (.t 18), none⟩,
    ⟨some 20, .fldA 0 (.t 19), none⟩,
    ⟨some 21, .load false 1 (.t 20), none⟩,
    ⟨some 22, .bin .gtr false (.t 21) (.c (.int .i64 65536)), none⟩,
    ⟨some 16, .mov (.t 22), none⟩])
  (.cond (.t 16)
   (.skip)
   (.seq (.reg [⟨some 23, .load false 1 (.t 1), none⟩,
     ⟨some 24, .call (.c (.fn 83 [] [])) [(.t 23)], none⟩,
     ⟨some 25, .bin .gtr false (.t 24) (.c (.int .i64 65536)), none⟩,
     ⟨some 16, .mov (.t 25), none⟩])
   (.cond (.t 16)
    (.skip)
    (.reg [⟨some 26, .load false 1 (.t 1), none⟩,
      ⟨some 27, .nilchk (.t 26), none⟩,
      ⟨some 28, .fldA 0 (.t 27), none⟩,
      ⟨some 29, .fldA 3 (.t 28), none⟩,
      ⟨some 30, .load false 1 (.t 29), none⟩,
      ⟨some 31, .len (.t 30), none⟩,
      ⟨some 32, .bin .gtr false (.t 31) (.c (.int .i64 65536)), none⟩,
      ⟨some 16, .mov (.t 32), none⟩])))))
  (.cond (.t 16)
   (.seq (.reg [⟨some 2, .mov (.c (.int .i64 2)), none⟩])
   (.ret))
   (.seq (.seq (.reg [⟨some 34, .load false 1 (.t 1), none⟩,
     ⟨some 35, .nilchk (.t 34), none⟩,
     ⟨some 36, .fldA 0 (.t 35), none⟩,
     ⟨some 37, .fldA 1 (.t 36), none⟩,
     ⟨some 38, .load false 1 (.t 37), none⟩,
     ⟨some 39, .mov (.t 3), none⟩,
     ⟨some 40, .call (.c (.fn 89 [] [])) [(.t 38), (.t 39)], none⟩,
     ⟨some 33, .mov (.t 40), none⟩])
   (.cond (.t 33)
    (.skip)
    (.reg [⟨some 41, .load false 1 (.t 1), none⟩,
      ⟨some 42, .nilchk (.t 41), none⟩,
      ⟨some 43, .fldA 0 (.t 42), none⟩,
      ⟨some 44, .fldA 3 (.t 43), none⟩,
      ⟨some 45, .load false 1 (.t 44), none⟩,
      ⟨some 46, .mov (.t 4), none⟩,
      ⟨some 47, .call (.c (.fn 90 [] [])) [(.t 45), (.t 46)], none⟩,
      ⟨some 33, .mov (.t 47), none⟩])))
   (.cond (.t 33)
    (.seq (.reg [⟨some 2, .mov (.c (.int .i64 1)), none⟩])
    (.ret))
    (.skip))))))))
 (.seq (.seq (.reg [⟨some 48, .load false 1 (.t 1), none⟩,
   ⟨some 49, .nilchk (.t 48), none⟩,
   ⟨some 50, .fldA 0 (.t 49), none⟩,
   ⟨some 51, .fldA 2 (.t 50), none⟩,
   ⟨some 52, .load false 1 (.t 51), none⟩,
   ⟨some 53, .len (.t 52), none⟩,
   ⟨some 54, .mov (.c (.int .i64 0)), none⟩])
 (.block 1 (.loop (.seq (.reg [⟨some 55, .bin .lss false (.t 54) (.t 53), none⟩])
  (.seq (.cond (.t 55)
   (.skip)
   (.exit 1))
  (.seq (.block 2 (.seq (.reg [⟨some 56, .mov (.t 54), none⟩,
    ⟨some 57, .idxS 2 (.t 52) (.t 54), none⟩,
    ⟨some 58, .load true 2 (.t 57), none⟩,
    ⟨some 6, .alloc [(.int .i64 0), (.int .i64 0)], none⟩,
    ⟨some 5, .mov (.t 56), none⟩,
    ⟨none, .store 2 (.t 6) (.t 58), none⟩])
  (.seq (.drw [⟨some 59, .idxR 1 2 (.t 6) (.c (.int .i64 0)), none⟩,
    ⟨some 60, .load false 1 (.t 59), none⟩,
    ⟨some 61, .idxR 1 2 (.t 6) (.c (.int .i64 1)), none⟩,
    ⟨some 62, .load false 1 (.t 61), none⟩,
    ⟨some 63, .min [(.t 60), (.t 62)], none⟩,
    ⟨some 64, .bin .lss false (.t 63) (.c (.int .i64 0)), none⟩,
    ⟨some 65, .mov (.t 64), none⟩,
    ⟨some 66, .idxR 1 2 (.t 6) (.c (.int .i64 0)), some (65, false)⟩,
    ⟨some 67, .load false 1 (.t 66), some (65, false)⟩,
    ⟨some 68, .idxR 1 2 (.t 6) (.c (.int .i64 1)), some (65, false)⟩,
    ⟨some 69, .load false 1 (.t 68), some (65, false)⟩,
    ⟨some 70, .max [(.t 67), (.t 69)], some (65, false)⟩,
    ⟨some 71, .load false 1 (.t 1), some (65, false)⟩,
    ⟨some 72, .call (.c (.fn 82 [] [])) [(.t 71)], some (65, false)⟩,
    ⟨some 73, .mov (.t 5), some (65, false)⟩,
    ⟨some 74, .bin .add false (.t 72) (.t 73), some (65, false)⟩,
    ⟨some 75, .bin .mul false (.c (.int .i64 2)) (.t 74), some (65, false)⟩,
    ⟨some 76, .bin .geq false (.t 70) (.t 75), some (65, false)⟩,
    ⟨some 77, .pick (.t 65) (.c (.bool true)) (.t 76), none⟩] [(8, 13), (10, 13)])
  (.cond (.t 77)
   (.seq (.reg [⟨some 2, .mov (.c (.int .i64 1)), none⟩])
   (.ret))
   (.skip)))))
  (.reg [⟨some 78, .bin .add false (.t 54) (.c (.int .i64 1)), none⟩,
    ⟨some 54, .mov (.t 78), none⟩])))))))
 (.seq (.reg [⟨some 2, .mov (.c (.int .i64 0)), none⟩])
 (.ret))))))
def r80 : List ARV := [.tmp 2]
theorem b80 : Try.f80.body.bind (tr Try.prog 79) = some c80.bare := by kernel_rfl
theorem q80 : trRes Try.prog Try.f80.results.toList = some r80 := by kernel_rfl
theorem n80 : (Try.f80.name == "runtime.NumGoroutine") = false := by kernel_rfl

def c81 : ACode :=
 .seq (.reg [⟨some 4, .mov (.c (.bool false)), none⟩])
 (.seq (.reg [⟨some 5, .mov (.t 1), none⟩,
   ⟨some 6, .bin .geq false (.t 5) (.c (.int .i64 0)), none⟩,
   ⟨some 7, .mov (.t 6), none⟩,
   ⟨some 8, .mov (.t 1), some (7, true)⟩,
   ⟨some 9, .bin .quo false (.t 8) (.c (.int .i64 2)), some (7, true)⟩,
   ⟨some 10, .mov (.t 0), some (7, true)⟩,
   ⟨some 11, .call (.c (.fn 83 [] [])) [(.t 10)], some (7, true)⟩,
   ⟨some 12, .bin .leq false (.t 9) (.t 11), some (7, true)⟩,
   ⟨some 13, .pick (.t 7) (.t 12) (.c (.bool false)), none⟩,
   ⟨some 4, .mov (.t 13), none⟩])
 (.ret))
def r81 : List ARV := [.tmp 4]
theorem b81 : Try.f81.body.bind (tr Try.prog 14) = some c81.bare := by kernel_rfl
theorem q81 : trRes Try.prog Try.f81.results.toList = some r81 := by kernel_rfl
theorem n81 : (Try.f81.name == "runtime.NumGoroutine") = false := by kernel_rfl

def c82 : ACode :=
 .seq (.reg [⟨some 2, .mov (.c (.int .i64 0)), none⟩])
 (.seq (.drw [⟨some 3, .mov (.t 0), none⟩,
   ⟨some 4, .nilchk (.t 3), none⟩,
   ⟨some 5, .fldA 0 (.t 4), none⟩,
   ⟨some 6, .fldA 0 (.t 5), none⟩,
   ⟨some 7, .load false 1 (.t 6), none⟩,
   ⟨some 8, .bin .add false (.c (.int .i64 1)) (.t 7), none⟩,
   ⟨some 9, .mov (.t 0), none⟩,
   ⟨some 10, .nilchk (.t 9), none⟩,
   ⟨some 11, .fldA 0 (.t 10), none⟩,
   ⟨some 12, .fldA 1 (.t 11), none⟩,
   ⟨some 13, .load false 1 (.t 12), none⟩,
   ⟨some 14, .len (.t 13), none⟩,
   ⟨some 15, .bin .add false (.t 8) (.t 14), none⟩,
   ⟨some 2, .mov (.t 15), none⟩] [])
 (.ret))
def r82 : List ARV := [.tmp 2]
theorem b82 : Try.f82.body.bind (tr Try.prog 16) = some c82.bare := by kernel_rfl
theorem q82 : trRes Try.prog Try.f82.results.toList = some r82 := by kernel_rfl
theorem n82 : (Try.f82.name == "runtime.NumGoroutine") = false := by kernel_rfl

def c83 : ACode :=
 .seq (.reg [⟨some 2, .mov (.c (.int .i64 0)), none⟩])
 (.seq (.drw [⟨some 3, .mov (.t 0), none⟩,
   ⟨some 4, .nilchk (.t 3), none⟩,
   ⟨some 5, .fldA 0 (.t 4), none⟩,
   ⟨some 6, .fldA 0 (.t 5), none⟩,
   ⟨some 7, .load false 1 (.t 6), none⟩,
   ⟨some 8, .mov (.t 0), none⟩,
   ⟨some 9, .nilchk (.t 8), none⟩,
   ⟨some 10, .fldA 0 (.t 9), none⟩,
   ⟨some 11, .fldA 1 (.t 10), none⟩,
   ⟨some 12, .load false 1 (.t 11), none⟩,
   ⟨some 13, .len (.t 12), none⟩,
   ⟨some 14, .bin .add false (.t 7) (.t 13), none⟩,
   ⟨some 15, .mov (.t 0), none⟩,
   ⟨some 16, .nilchk (.t 15), none⟩,
   ⟨some 17, .fldA 0 (.t 16), none⟩,
   ⟨some 18, .fldA 2 (.t 17), none⟩,
   ⟨some 19, .load false 1 (.t 18), none⟩,
   ⟨some 20, .len (.t 19), none⟩,
   ⟨some 21, .bin .add false (.t 14) (.t 20), none⟩,
   ⟨some 2, .mov (.t 21), none⟩] [])
 (.ret))
def r83 : List ARV := [.tmp 2]
theorem b83 : Try.f83.body.bind (tr Try.prog 22) = some c83.bare := by kernel_rfl
theorem q83 : trRes Try.prog Try.f83.results.toList = some r83 := by kernel_rfl
theorem n83 : (Try.f83.name == "runtime.NumGoroutine") = false := by kernel_rfl

def c84 : ACode :=
 .seq (.reg [⟨some 2, .mov (.c (.slice [] .nil)), none⟩])
 (.seq (.reg [⟨some 3, .mov (.c (.int .i64 0)), none⟩])
 (.seq (.seq (.reg [⟨some 9, .mov (.t 0), none⟩,
   ⟨some 10, .len (.t 9), none⟩,
   ⟨some 11, .mov (.c (.int .i64 0)), none⟩])
 (.block 0 (.loop (.seq (.reg [⟨some 12, .bin .lss false (.t 11) (.t 10), none⟩])
  (.seq (.cond (.t 12)
   (.skip)
   (.exit 0))
  (.seq (.block 1 (.seq (.reg [⟨some 13, .idxS 1 (.t 9) (.t 11), none⟩,
    ⟨some 14, .load false 1 (.t 13), none⟩,
    ⟨some 5, .mov (.t 14), none⟩])
  (.seq (.reg [⟨some 15, .mov (.t 3), none⟩,
    ⟨some 16, .mov (.t 5), none⟩,
    ⟨some 17, .len (.t 16), none⟩,
    ⟨some 18, .bin .add false (.t 15) (.t 17), none⟩,
    ⟨some 3, .mov (.t 18), none⟩])
  (.seq (.reg [⟨some 19, .mov (.t 3), none⟩,
    ⟨some 20, .bin .lss false (.t 19) (.c (.int .i64 0)), none⟩])
  (.cond (.t 20)
   (.reg [⟨some 21, .mkiface 9 (.c (.str ⟨#[108, 101, 110, 32, 111, 117, 116, 32, 111, 102, 32, 114, 97, 110, 103, 101]⟩)), none⟩,
     ⟨none, .panic (.t 21), none⟩])
   (.skip))))))
  (.reg [⟨some 22, .bin .add false (.t 11) (.c (.int .i64 1)), none⟩,
    ⟨some 11, .mov (.t 22), none⟩])))))))
 (.seq (.reg [⟨some 23, .mov (.t 3), none⟩,
   ⟨some 24, .call (.c (.fn 91 [] [])) [(.c (.slice [] .nil)), (.t 23)], none⟩,
   ⟨some 6, .mov (.t 24), none⟩])
 (.seq (.seq (.reg [⟨some 25, .mov (.t 0), none⟩,
   ⟨some 26, .len (.t 25), none⟩,
   ⟨some 27, .mov (.c (.int .i64 0)), none⟩])
 (.block 2 (.loop (.seq (.reg [⟨some 28, .bin .lss false (.t 27) (.t 26), none⟩])
  (.seq (.cond (.t 28)
   (.skip)
   (.exit 2))
  (.seq (.block 3 (.seq (.reg [⟨some 29, .idxS 1 (.t 25) (.t 27), none⟩,
    ⟨some 30, .load false 1 (.t 29), none⟩,
    ⟨some 8, .mov (.t 30), none⟩])
  (.reg [⟨some 31, .mov (.t 6), none⟩,
    ⟨some 32, .mov (.t 8), none⟩,
    ⟨some 33, .append 1 1 (.t 31) (.t 32), none⟩,
    ⟨some 6, .mov (.t 33), none⟩])))
  (.reg [⟨some 34, .bin .add false (.t 27) (.c (.int .i64 1)), none⟩,
    ⟨some 27, .mov (.t 34), none⟩])))))))
 (.seq (.reg [⟨some 35, .mov (.t 6), none⟩,
   ⟨some 2, .mov (.t 35), none⟩])
 (.ret))))))
def r84 : List ARV := [.tmp 2]
theorem b84 : Try.f84.body.bind (tr Try.prog 36) = some c84.bare := by kernel_rfl
theorem q84 : trRes Try.prog Try.f84.results.toList = some r84 := by kernel_rfl
theorem n84 : (Try.f84.name == "runtime.NumGoroutine") = false := by kernel_rfl

def c85 : ACode :=
 .seq (.reg [⟨some 3, .boxI (.t 0), none⟩,
   ⟨some 6, .alloc [(.int .i64 0), (.slice [] .nil), (.slice [] .nil), (.slice [] .nil)], none⟩,
   ⟨some 7, .mov (.c (.int .i64 0)), none⟩,
   ⟨some 8, .mov (.c (.int .i64 0)), none⟩])
 (.seq (.reg [⟨some 10, .load true 4 (.t 3), none⟩,
   ⟨some 11, .mov (.t 1), none⟩,
   ⟨some 12, .mov (.t 2), none⟩,
   ⟨some 13, .bslice 1 [(.t 11), (.t 12)], none⟩,
   ⟨some 14, .call (.c (.fn 59 [] [])) [(.t 10), (.t 13)], none⟩,
   ⟨some 9, .mov (.t 14), none⟩])
 (.seq (.reg [⟨some 15, .mov (.t 9), none⟩,
   ⟨some 16, .mov (.t 9), none⟩,
   ⟨some 17, .mov (.t 1), none⟩,
   ⟨some 18, .mov (.t 2), none⟩,
   ⟨some 19, .call (.c (.fn 93 [] [])) [(.t 16), (.t 17), (.t 18)], none⟩,
   ⟨some 20, .call (.c (.fn 92 [] [])) [(.t 15), (.t 19)], none⟩,
   ⟨some 21, .extract (.t 20) 0, none⟩,
   ⟨some 22, .extract (.t 20) 1, none⟩,
   ⟨some 23, .extract (.t 20) 2, none⟩,
   ⟨none, .store 4 (.t 6) (.t 21), none⟩,
   ⟨some 7, .mov (.t 22), none⟩,
   ⟨some 8, .mov (.t 23), none⟩])
 (.ret)))
def r85 : List ARV := [.cell 6 true 4, .tmp 7, .tmp 8]
theorem b85 : Try.f85.body.bind (tr Try.prog 24) = some c85.bare := by kernel_rfl
theorem q85 : trRes Try.prog Try.f85.results.toList = some r85 := by kernel_rfl
theorem n85 : (Try.f85.name == "runtime.NumGoroutine") = false := by kernel_rfl

def c87 : ACode :=
 .seq (.reg [⟨some 2, .boxI (.t 0), none⟩,
   ⟨some 3, .mov (.c (.bool false)), none⟩])
 (.seq (.reg [⟨some 4, .load false 1 (.t 1), none⟩,
   ⟨some 5, .fldA 0 (.t 2), none⟩,
   ⟨some 6, .load false 1 (.t 5), none⟩,
   ⟨some 7, .call (.c (.fn 81 [] [])) [(.t 4), (.t 6)], none⟩,
   ⟨some 8, .un .not (.t 7), none⟩,
   ⟨some 3, .mov (.t 8), none⟩])
 (.ret))
def r87 : List ARV := [.tmp 3]
theorem b87 : Try.f87.body.bind (tr Try.prog 9) = some c87.bare := by kernel_rfl
theorem q87 : trRes Try.prog Try.f87.results.toList = some r87 := by kernel_rfl
theorem n87 : (Try.f87.name == "runtime.NumGoroutine") = false := by kernel_rfl

def c88 : ACode :=
 .seq (.reg [⟨some 3, .mov (.c (.bool false)), none⟩])
 (.seq (.reg [⟨some 4, .load false 1 (.t 1), none⟩,
   ⟨some 5, .mov (.t 0), none⟩,
   ⟨some 6, .call (.c (.fn 81 [] [])) [(.t 4), (.t 5)], none⟩,
   ⟨some 7, .un .not (.t 6), none⟩,
   ⟨some 3, .mov (.t 7), none⟩])
 (.ret))
def r88 : List ARV := [.tmp 3]
theorem b88 : Try.f88.body.bind (tr Try.prog 8) = some c88.bare := by kernel_rfl
theorem q88 : trRes Try.prog Try.f88.results.toList = some r88 := by kernel_rfl
theorem n88 : (Try.f88.name == "runtime.NumGoroutine") = false := by kernel_rfl

def c89 : ACode :=
 .seq (.reg [⟨some 4, .mov (.c (.bool false)), none⟩])
 (.seq (.reg [⟨some 5, .mov (.t 0), none⟩,
   ⟨some 6, .mov (.t 1), none⟩,
   ⟨some 7, .call (.c (.fn 94 [] [])) [(.t 5), (.t 6)], none⟩,
   ⟨some 8, .bin .geq false (.t 7) (.c (.int .i64 0)), none⟩,
   ⟨some 4, .mov (.t 8), none⟩])
 (.ret))
def r89 : List ARV := [.tmp 4]
theorem b89 : Try.f89.body.bind (tr Try.prog 9) = some c89.bare := by kernel_rfl
theorem q89 : trRes Try.prog Try.f89.results.toList = some r89 := by kernel_rfl
theorem n89 : (Try.f89.name == "runtime.NumGoroutine") = false := by kernel_rfl

def c90 : ACode :=
 .seq (.reg [⟨some 4, .mov (.c (.bool false)), none⟩])
 (.seq (.reg [⟨some 5, .mov (.t 0), none⟩,
   ⟨some 6, .mov (.t 1), none⟩,
   ⟨some 7, .call (.c (.fn 95 [] [])) [(.t 5), (.t 6)], none⟩,
   ⟨some 8, .bin .geq false (.t 7) (.c (.int .i64 0)), none⟩,
   ⟨some 4, .mov (.t 8), none⟩])
 (.ret))
def r90 : List ARV := [.tmp 4]
theorem b90 : Try.f90.body.bind (tr Try.prog 9) = some c90.bare := by kernel_rfl
theorem q90 : trRes Try.prog Try.f90.results.toList = some r90 := by kernel_rfl
theorem n90 : (Try.f90.name == "runtime.NumGoroutine") = false := by kernel_rfl

def c91 : ACode :=
 .seq (.reg [⟨some 4, .mov (.c (.slice [] .nil)), none⟩])
 (.seq (.seq (.reg [⟨some 5, .mov (.t 1), none⟩,
   ⟨some 6, .bin .lss false (.t 5) (.c (.int .i64 0)), none⟩])
 (.cond (.t 6)
  (.reg [⟨some 7, .mkiface 9 (.c (.str ⟨#[99, 97, 110, 110, 111, 116, 32, 98, 101, 32, 110, 101, 103, 97, 116, 105, 118, 101]⟩)), none⟩,
    ⟨none, .panic (.t 7), none⟩])
  (.skip)))
 (.seq (.seq (.reg [⟨some 8, .mov (.t 1), none⟩,
   ⟨some 9, .mov (.t 0), none⟩,
   ⟨some 10, .cap (.t 9), none⟩,
   ⟨some 11, .mov (.t 0), none⟩,
   ⟨some 12, .len (.t 11), none⟩,
   ⟨some 13, .bin .sub false (.t 10) (.t 12), none⟩,
   ⟨some 14, .bin .sub false (.t 8) (.t 13), none⟩,
   ⟨some 1, .mov (.t 14), none⟩])
 (.seq (.reg [⟨some 15, .mov (.t 1), none⟩,
   ⟨some 16, .bin .gtr false (.t 15) (.c (.int .i64 0)), none⟩])
 (.cond (.t 16)
  (.reg [⟨some 17, .mov (.t 0), none⟩,
    ⟨some 18, .mov (.t 0), none⟩,
    ⟨some 19, .cap (.t 18), none⟩,
    ⟨some 20, .slcN 1 (.t 17) none (some (.t 19)) none, none⟩,
    ⟨some 21, .mov (.t 1), none⟩,
    ⟨some 22, .appz 1 1 (.t 20) (.t 21), none⟩,
    ⟨some 23, .mov (.t 0), none⟩,
    ⟨some 24, .len (.t 23), none⟩,
    ⟨some 25, .slcR 1 (.t 22) none (some (.t 24)) none, none⟩,
    ⟨some 0, .mov (.t 25), none⟩])
  (.skip))))
 (.seq (.reg [⟨some 26, .mov (.t 0), none⟩,
   ⟨some 4, .mov (.t 26), none⟩])
 (.ret))))
def r91 : List ARV := [.tmp 4]
theorem b91 : Try.f91.body.bind (tr Try.prog 27) = some c91.bare := by kernel_rfl
theorem q91 : trRes Try.prog Try.f91.results.toList = some r91 := by kernel_rfl
theorem n91 : (Try.f91.name == "runtime.NumGoroutine") = false := by kernel_rfl

def c92 : ACode :=
 .seq (.reg [⟨some 4, .alloc [(.int .i64 0), (.slice [] .nil), (.slice [] .nil), (.slice [] .nil)], none⟩,
   ⟨some 5, .mov (.c (.int .i64 0)), none⟩,
   ⟨some 6, .mov (.c (.int .i64 0)), none⟩])
 (.seq (.seq (.reg [⟨some 7, .mov (.t 0), none⟩,
   ⟨some 8, .nilchk (.t 7), none⟩,
   ⟨some 9, .fldA 4 (.t 8), none⟩,
   ⟨some 10, .load false 1 (.t 9), none⟩,
   ⟨some 11, .bin .neq false (.t 10) (.c (.int .i64 0)), none⟩])
 (.cond (.t 11)
  (.seq (.drw [⟨some 12, .build [(.int .i64 0), (.slice [] .nil), (.slice [] .nil), (.slice [] .nil)] [], none⟩,
    ⟨some 13, .mov (.t 0), none⟩,
    ⟨some 14, .nilchk (.t 13), none⟩,
    ⟨some 15, .fldA 4 (.t 14), none⟩,
    ⟨some 16, .load false 1 (.t 15), none⟩,
    ⟨none, .store 4 (.t 4) (.t 12), none⟩,
    ⟨some 5, .mov (.c (.int .i64 0)), none⟩,
    ⟨some 6, .mov (.t 16), none⟩] [(4, 5)])
  (.ret))
  (.skip)))
 (.seq (.reg [⟨some 17, .mov (.t 0), none⟩,
   ⟨some 18, .nilchk (.t 17), none⟩,
   ⟨some 19, .fldA 0 (.t 18), none⟩,
   ⟨some 20, .load true 4 (.t 19), none⟩,
   ⟨some 21, .mov (.t 1), none⟩,
   ⟨none, .store 4 (.t 4) (.t 20), none⟩,
   ⟨some 5, .mov (.t 21), none⟩,
   ⟨some 6, .mov (.c (.int .i64 0)), none⟩])
 (.ret)))
def r92 : List ARV := [.cell 4 true 4, .tmp 5, .tmp 6]
theorem b92 : Try.f92.body.bind (tr Try.prog 22) = some c92.bare := by kernel_rfl
theorem q92 : trRes Try.prog Try.f92.results.toList = some r92 := by kernel_rfl
theorem n92 : (Try.f92.name == "runtime.NumGoroutine") = false := by kernel_rfl

def c93 : ACode :=
 .seq (.reg [⟨some 4, .box (.t 1), none⟩,
   ⟨some 5, .box (.t 2), none⟩,
   ⟨some 6, .mov (.c (.int .i64 0)), none⟩])
 (.seq (.drw [⟨some 8, .load false 1 (.t 4), none⟩,
   ⟨some 9, .load false 1 (.t 5), none⟩,
   ⟨some 10, .min [(.t 8), (.t 9)], none⟩,
   ⟨some 11, .load false 1 (.t 4), none⟩,
   ⟨some 12, .load false 1 (.t 5), none⟩,
   ⟨some 13, .max [(.t 11), (.t 12)], none⟩,
   ⟨none, .store 1 (.t 4) (.t 10), none⟩,
   ⟨none, .store 1 (.t 5) (.t 13), none⟩] [(4, 6)])
 (.seq (.block 0 (.seq (.seq (.reg [⟨some 15, .mov (.t 0), none⟩,
   ⟨some 16, .nilchk (.t 15), none⟩,
   ⟨some 17, .fldA 4 (.t 16), none⟩,
   ⟨some 18, .load false 1 (.t 17), none⟩,
   ⟨some 19, .bin .neq false (.t 18) (.c (.int .i64 0)), none⟩,
   ⟨some 14, .mov (.t 19), none⟩])
 (.cond (.t 14)
  (.skip)
  (.seq (.reg [⟨some 20, .load false 1 (.t 4), none⟩,
    ⟨some 21, .bin .eql false (.t 20) (.c (.int .i64 0)), none⟩,
    ⟨some 14, .mov (.t 21), none⟩])
  (.cond (.t 14)
   (.skip)
   (.reg [⟨some 22, .load false 1 (.t 4), none⟩,
     ⟨some 23, .load false 1 (.t 5), none⟩,
     ⟨some 24, .bin .xor false (.t 23) (.c (.int .i64 1)), none⟩,
     ⟨some 25, .bin .eql false (.t 22) (.t 24), none⟩,
     ⟨some 14, .mov (.t 25), none⟩])))))
 (.cond (.t 14)
  (.seq (.reg [⟨some 6, .mov (.c (.int .i64 0)), none⟩])
  (.ret))
  (.seq (.seq (.reg [⟨some 27, .load false 1 (.t 4), none⟩,
    ⟨some 28, .bin .eql false (.t 27) (.c (.int .i64 1)), none⟩,
    ⟨some 26, .mov (.t 28), none⟩])
  (.cond (.t 26)
   (.skip)
   (.reg [⟨some 29, .load false 1 (.t 4), none⟩,
     ⟨some 30, .load false 1 (.t 5), none⟩,
     ⟨some 31, .bin .eql false (.t 29) (.t 30), none⟩,
     ⟨some 26, .mov (.t 31), none⟩])))
  (.cond (.t 26)
   (.seq (.reg [⟨some 32, .load false 1 (.t 5), none⟩,
     ⟨some 6, .mov (.t 32), none⟩])
   (.ret))
   (.skip))))))
 (.seq (.reg [⟨some 33, .mov (.t 0), none⟩,
   ⟨some 34, .nilchk (.t 33), none⟩,
   ⟨some 35, .fldA 0 (.t 34), none⟩,
   ⟨some 36, .fldA 2 (.t 35), none⟩,
   ⟨some 37, .load false 1 (.t 36), none⟩,
   ⟨some 38, .mkfn 97 [] [(.t 4), (.t 5)], none⟩,
   ⟨some 39, .call (.c (.fn 96 [] [])) [(.t 37), (.t 38)], none⟩,
   ⟨some 7, .mov (.t 39), none⟩])
 (.seq (.seq (.reg [⟨some 40, .mov (.t 7), none⟩,
   ⟨some 41, .bin .geq false (.t 40) (.c (.int .i64 0)), none⟩])
 (.cond (.t 41)
  (.seq (.reg [⟨some 42, .mov (.t 0), none⟩,
    ⟨some 43, .call (.c (.fn 82 [] [])) [(.t 42)], none⟩,
    ⟨some 44, .mov (.t 7), none⟩,
    ⟨some 45, .bin .add false (.t 43) (.t 44), none⟩,
    ⟨some 46, .bin .mul false (.c (.int .i64 2)) (.t 45), none⟩,
    ⟨some 6, .mov (.t 46), none⟩])
  (.ret))
  (.skip)))
 (.seq (.seq (.reg [⟨some 47, .mov (.t 0), none⟩,
   ⟨some 48, .call (.c (.fn 83 [] [])) [(.t 47)], none⟩,
   ⟨some 49, .bin .eql false (.t 48) (.c (.int .i64 65536)), none⟩])
 (.cond (.t 49)
  (.seq (.reg [⟨some 50, .mov (.t 0), none⟩,
    ⟨some 51, .nilchk (.t 50), none⟩,
    ⟨some 52, .fldA 4 (.t 51), none⟩,
    ⟨none, .store 1 (.t 52) (.c (.int .i64 2)), none⟩])
  (.seq (.reg [⟨some 6, .mov (.c (.int .i64 0)), none⟩])
  (.ret)))
  (.skip)))
 (.seq (.drw [⟨some 53, .mov (.t 0), none⟩,
   ⟨some 54, .mov (.t 0), none⟩,
   ⟨some 55, .nilchk (.t 54), none⟩,
   ⟨some 56, .fldA 0 (.t 55), none⟩,
   ⟨some 57, .fldA 2 (.t 56), none⟩,
   ⟨some 58, .load false 1 (.t 57), none⟩,
   ⟨some 59, .call (.c (.fn 98 [] [])) [(.t 58)], none⟩,
   ⟨some 60, .load false 1 (.t 4), none⟩,
   ⟨some 61, .load false 1 (.t 5), none⟩,
   ⟨some 62, .build [(.int .i64 0), (.int .i64 0)] [(0, 1, (.t 60)), (1, 1, (.t 61))], none⟩,
   ⟨some 63, .bslice 2 [(.t 62)], none⟩,
   ⟨some 64, .append 2 16 (.t 59) (.t 63), none⟩,
   ⟨some 65, .nilchk (.t 53), none⟩,
   ⟨some 66, .fldA 0 (.t 65), none⟩,
   ⟨some 67, .fldA 2 (.t 66), none⟩,
   ⟨none, .store 1 (.t 67) (.t 64), none⟩] [(6, 7), (6, 8)])
 (.seq (.reg [⟨some 68, .mov (.t 0), none⟩,
   ⟨some 69, .call (.c (.fn 83 [] [])) [(.t 68)], none⟩,
   ⟨some 70, .bin .mul false (.c (.int .i64 2)) (.t 69), none⟩,
   ⟨some 6, .mov (.t 70), none⟩])
 (.ret))))))))
def r93 : List ARV := [.tmp 6]
theorem b93 : Try.f93.body.bind (tr Try.prog 71) = some c93.bare := by kernel_rfl
theorem q93 : trRes Try.prog Try.f93.results.toList = some r93 := by kernel_rfl
theorem n93 : (Try.f93.name == "runtime.NumGoroutine") = false := by kernel_rfl

def c94 : ACode :=
 .seq (.reg [⟨some 4, .mov (.c (.int .i64 0)), none⟩])
 (.seq (.seq (.reg [⟨some 6, .mov (.t 0), none⟩,
   ⟨some 7, .len (.t 6), none⟩,
   ⟨some 8, .mov (.c (.int .i64 0)), none⟩])
 (.block 0 (.loop (.seq (.reg [⟨some 9, .bin .lss false (.t 8) (.t 7), none⟩])
  (.seq (.cond (.t 9)
   (.skip)
   (.exit 0))
  (.seq (.block 1 (.seq (.reg [⟨some 10, .mov (.t 8), none⟩,
    ⟨some 5, .mov (.t 10), none⟩])
  (.seq (.reg [⟨some 11, .mov (.t 1), none⟩,
    ⟨some 12, .mov (.t 0), none⟩,
    ⟨some 13, .mov (.t 5), none⟩,
    ⟨some 14, .idxS 2 (.t 12) (.t 13), none⟩,
    ⟨some 15, .load true 2 (.t 14), none⟩,
    ⟨some 16, .call (.t 11) [(.t 15)], none⟩])
  (.cond (.t 16)
   (.seq (.reg [⟨some 17, .mov (.t 5), none⟩,
     ⟨some 4, .mov (.t 17), none⟩])
   (.ret))
   (.skip)))))
  (.reg [⟨some 18, .bin .add false (.t 8) (.c (.int .i64 1)), none⟩,
    ⟨some 8, .mov (.t 18), none⟩])))))))
 (.seq (.reg [⟨some 4, .mov (.c (.int .i64 (-1))), none⟩])
 (.ret)))
def r94 : List ARV := [.tmp 4]
theorem b94 : Try.f94.body.bind (tr Try.prog 19) = some c94.bare := by kernel_rfl
theorem q94 : trRes Try.prog Try.f94.results.toList = some r94 := by kernel_rfl
theorem n94 : (Try.f94.name == "runtime.NumGoroutine") = false := by kernel_rfl

def c95 : ACode :=
 .seq (.reg [⟨some 4, .mov (.c (.int .i64 0)), none⟩])
 (.seq (.seq (.reg [⟨some 6, .mov (.t 0), none⟩,
   ⟨some 7, .len (.t 6), none⟩,
   ⟨some 8, .mov (.c (.int .i64 0)), none⟩])
 (.block 0 (.loop (.seq (.reg [⟨some 9, .bin .lss false (.t 8) (.t 7), none⟩])
  (.seq (.cond (.t 9)
   (.skip)
   (.exit 0))
  (.seq (.block 1 (.seq (.reg [⟨some 10, .mov (.t 8), none⟩,
    ⟨some 5, .mov (.t 10), none⟩])
  (.seq (.reg [⟨some 11, .mov (.t 1), none⟩,
    ⟨some 12, .mov (.t 0), none⟩,
    ⟨some 13, .mov (.t 5), none⟩,
    ⟨some 14, .idxS 1 (.t 12) (.t 13), none⟩,
    ⟨some 15, .load false 1 (.t 14), none⟩,
    ⟨some 16, .call (.t 11) [(.t 15)], none⟩])
  (.cond (.t 16)
   (.seq (.reg [⟨some 17, .mov (.t 5), none⟩,
     ⟨some 4, .mov (.t 17), none⟩])
   (.ret))
   (.skip)))))
  (.reg [⟨some 18, .bin .add false (.t 8) (.c (.int .i64 1)), none⟩,
    ⟨some 8, .mov (.t 18), none⟩])))))))
 (.seq (.reg [⟨some 4, .mov (.c (.int .i64 (-1))), none⟩])
 (.ret)))
def r95 : List ARV := [.tmp 4]
theorem b95 : Try.f95.body.bind (tr Try.prog 19) = some c95.bare := by kernel_rfl
theorem q95 : trRes Try.prog Try.f95.results.toList = some r95 := by kernel_rfl
theorem n95 : (Try.f95.name == "runtime.NumGoroutine") = false := by kernel_rfl

def c96 : ACode :=
 .seq (.reg [⟨some 4, .mov (.c (.int .i64 0)), none⟩])
 (.seq (.seq (.reg [⟨some 6, .mov (.t 0), none⟩,
   ⟨some 7, .len (.t 6), none⟩,
   ⟨some 8, .mov (.c (.int .i64 0)), none⟩])
 (.block 0 (.loop (.seq (.reg [⟨some 9, .bin .lss false (.t 8) (.t 7), none⟩])
  (.seq (.cond (.t 9)
   (.skip)
   (.exit 0))
  (.seq (.block 1 (.seq (.reg [⟨some 10, .mov (.t 8), none⟩,
    ⟨some 5, .mov (.t 10), none⟩])
  (.seq (.reg [⟨some 11, .mov (.t 1), none⟩,
    ⟨some 12, .mov (.t 0), none⟩,
    ⟨some 13, .mov (.t 5), none⟩,
    ⟨some 14, .idxS 2 (.t 12) (.t 13), none⟩,
    ⟨some 15, .load true 2 (.t 14), none⟩,
    ⟨some 16, .call (.t 11) [(.t 15)], none⟩])
  (.cond (.t 16)
   (.seq (.reg [⟨some 17, .mov (.t 5), none⟩,
     ⟨some 4, .mov (.t 17), none⟩])
   (.ret))
   (.skip)))))
  (.reg [⟨some 18, .bin .add false (.t 8) (.c (.int .i64 1)), none⟩,
    ⟨some 8, .mov (.t 18), none⟩])))))))
 (.seq (.reg [⟨some 4, .mov (.c (.int .i64 (-1))), none⟩])
 (.ret)))
def r96 : List ARV := [.tmp 4]
theorem b96 : Try.f96.body.bind (tr Try.prog 19) = some c96.bare := by kernel_rfl
theorem q96 : trRes Try.prog Try.f96.results.toList = some r96 := by kernel_rfl
theorem n96 : (Try.f96.name == "runtime.NumGoroutine") = false := by kernel_rfl

def c97 : ACode :=
 .seq (.reg [⟨some 3, .boxI (.t 0), none⟩,
   ⟨some 4, .mov (.c (.bool false)), none⟩])
 (.seq (.reg [⟨some 5, .idxR 1 2 (.t 3) (.c (.int .i64 0)), none⟩,
   ⟨some 6, .load false 1 (.t 5), none⟩,
   ⟨some 7, .idxR 1 2 (.t 3) (.c (.int .i64 1)), none⟩,
   ⟨some 8, .load false 1 (.t 7), none⟩,
   ⟨some 9, .min [(.t 6), (.t 8)], none⟩,
   ⟨some 10, .load false 1 (.t 1), none⟩,
   ⟨some 11, .bin .eql false (.t 9) (.t 10), none⟩,
   ⟨some 12, .mov (.t 11), none⟩,
   ⟨some 13, .idxR 1 2 (.t 3) (.c (.int .i64 0)), some (12, true)⟩,
   ⟨some 14, .load false 1 (.t 13), some (12, true)⟩,
   ⟨some 15, .idxR 1 2 (.t 3) (.c (.int .i64 1)), some (12, true)⟩,
   ⟨some 16, .load false 1 (.t 15), some (12, true)⟩,
   ⟨some 17, .max [(.t 14), (.t 16)], some (12, true)⟩,
   ⟨some 18, .load false 1 (.t 2), some (12, true)⟩,
   ⟨some 19, .bin .eql false (.t 17) (.t 18), some (12, true)⟩,
   ⟨some 20, .pick (.t 12) (.t 19) (.c (.bool false)), none⟩,
   ⟨some 4, .mov (.t 20), none⟩])
 (.ret))
def r97 : List ARV := [.tmp 4]
theorem b97 : Try.f97.body.bind (tr Try.prog 21) = some c97.bare := by kernel_rfl
theorem q97 : trRes Try.prog Try.f97.results.toList = some r97 := by kernel_rfl
theorem n97 : (Try.f97.name == "runtime.NumGoroutine") = false := by kernel_rfl

def c98 : ACode :=
 .seq (.reg [⟨some 2, .mov (.c (.slice [] .nil)), none⟩])
 (.seq (.reg [⟨some 3, .mov (.t 0), none⟩,
   ⟨some 4, .mov (.t 0), none⟩,
   ⟨some 5, .len (.t 4), none⟩,
   ⟨some 6, .mov (.t 0), none⟩,
   ⟨some 7, .len (.t 6), none⟩,
   ⟨some 8, .slc 2 (.t 3) none (some (.t 5)) (some (.t 7)), none⟩,
   ⟨some 2, .mov (.t 8), none⟩])
 (.ret))
def r98 : List ARV := [.tmp 2]
theorem b98 : Try.f98.body.bind (tr Try.prog 9) = some c98.bare := by kernel_rfl
theorem q98 : trRes Try.prog Try.f98.results.toList = some r98 := by kernel_rfl
theorem n98 : (Try.f98.name == "runtime.NumGoroutine") = false := by kernel_rfl

def c114 : ACode :=
 .seq (.reg [⟨some 2, .mov (.c .nili), none⟩])
 (.seq (.reg [⟨some 3, .mov (.t 0), none⟩,
   ⟨some 4, .un .not (.t 3), none⟩,
   ⟨some 5, .mkiface 94 (.t 4), none⟩,
   ⟨some 2, .mov (.t 5), none⟩])
 (.ret))
def r114 : List ARV := [.tmp 2]
theorem b114 : Try.f114.body.bind (tr Try.prog 6) = some c114.bare := by kernel_rfl
theorem q114 : trRes Try.prog Try.f114.results.toList = some r114 := by kernel_rfl
theorem n114 : (Try.f114.name == "runtime.NumGoroutine") = false := by kernel_rfl

def c115 : ACode :=
 .seq (.reg [⟨some 1, .boxI (.t 0), none⟩,
   ⟨some 2, .mov (.c .nili), none⟩])
 (.seq (.reg [⟨some 3, .load true 0 (.t 1), none⟩,
   ⟨some 4, .mkiface 97 (.t 3), none⟩,
   ⟨some 2, .mov (.t 4), none⟩])
 (.ret))
def r115 : List ARV := [.tmp 2]
theorem b115 : Try.f115.body.bind (tr Try.prog 5) = some c115.bare := by kernel_rfl
theorem q115 : trRes Try.prog Try.f115.results.toList = some r115 := by kernel_rfl
theorem n115 : (Try.f115.name == "runtime.NumGoroutine") = false := by kernel_rfl

end Go.Proofs.Ytapnlmhfacoceaa

namespace Fil
open Abs
structure Flop where
 next : Int
 init : Bool
 deriving DecidableEq, Repr
structure Aig where
 ins : Int
 flops : List Flop
 ands : List (Int × Int)
 outs : List Int
 deriving DecidableEq, Repr
abbrev encFlop (f : Flop) : AV := .agg [.int .i64 f.next, .bool f.init]
abbrev encGate (g : Int × Int) : AV := .agg [.int .i64 g.1, .int .i64 g.2]
abbrev encInt (a : Int) : AV := .int .i64 a
abbrev encBool (a : Bool) : AV := .bool a
abbrev aigL (g : Aig) : List AV := [.int .i64 g.ins, .slice (g.flops.map encFlop) .no, .slice (g.ands.map encGate) .no, .slice (g.outs.map encInt) .no]
abbrev encAig (g : Aig) : AV := .agg (aigL g)
abbrev workC (g : Aig) (e : Int) : AObj := .cells [.int .i64 g.ins, .slice (g.flops.map encFlop) .no, .slice (g.ands.map encGate) .no, .slice (g.outs.map encInt) .no, .int .i64 e]
def I64 (a : Int) : Prop := -9223372036854775808 ≤ a ∧ a ≤ 9223372036854775807
structure Wf (g : Aig) : Prop where
 ins : I64 g.ins
 flops : g.flops.length ≤ 1000000
 ands : g.ands.length ≤ 1000000
 outs : g.outs.length ≤ 1000000
 nexts : ∀ f ∈ g.flops, I64 f.next
 gates : ∀ x ∈ g.ands, I64 x.1 ∧ I64 x.2
 lits : ∀ a ∈ g.outs, I64 a
structure Small (g : Aig) : Prop extends Wf g where
 lo : 0 ≤ g.ins
 hi : g.ins ≤ 1000000
namespace Aig
def count (g : Aig) : Int := g.ins + g.flops.length + g.ands.length
def first (g : Aig) : Int := 1 + g.ins + g.flops.length
def litN (n a : Int) : Bool := decide (0 ≤ a) && decide (a < 2 * n)
def lit (g : Aig) (a : Int) : Bool := litN (1 + g.count) a
def gatesOk : Int → List (Int × Int) → Bool
 | _, [] => true
 | n, x :: l => litN n x.1 && litN n x.2 && gatesOk (n + 1) l
def good (g : Aig) : Bool := gatesOk g.first g.ands && !(g.flops.any fun f => !g.lit f.next) && !(g.outs.any fun a => !g.lit a)
def check (g : Aig) : Int :=
 if g.ins < 0 then 1
 else if 65536 < g.ins ∨ 65536 < g.count ∨ 65536 < (g.outs.length : Int) then 2
 else if g.good then 0 else 1
def checkL (g : Aig) : Int → List Int → Int
 | e, [] => e
 | e, a :: l => g.checkL (if e = 0 ∧ g.lit a = false then 1 else e) l
def find (g : Aig) (a b : Int) : Int := idxF (fun x : Int × Int => decide (min x.1 x.2 = a) && decide (max x.1 x.2 = b)) g.ands
def andO (g : Aig) (p q : Int) : Option (Aig × Int) :=
 let a := min p q
 let b := max p q
 if a = 0 ∨ a = turn b then some (g, 0)
 else if a = 1 ∨ a = b then some (g, b)
 else if 0 ≤ g.find a b then some (g, 2 * (g.first + g.find a b))
 else if g.count = 65536 then none
 else some ({ g with ands := g.ands ++ [(a, b)] }, 2 * (g.count + 1))
def andW (g : Aig) (e p q : Int) : Aig × Int × Int :=
 if e ≠ 0 then (g, e, 0) else match g.andO p q with
  | none => (g, 2, 0)
  | some (g', x) => (g', 0, x)
def orW (g : Aig) (e p q : Int) : Aig × Int × Int :=
 let r := g.andW e (turn p) (turn q)
 (r.1, r.2.1, turn r.2.2)
def endW (r : Aig × Int × Int) : Aig × Int × Int := if r.2.1 ≠ 0 then (⟨0, [], [], []⟩, 0, r.2.1) else (r.1, r.2.2, 0)
end Aig
theorem litN_iff {n a : Int} : Aig.litN n a = true ↔ 0 ≤ a ∧ a < 2 * n := by simp [Aig.litN]
theorem gatesOk_iff : ∀ {l : List (Int × Int)} {n : Int}, Aig.gatesOk n l = true ↔ ∀ i, (h : i < l.length) → (0 ≤ l[i].1 ∧ l[i].1 < 2 * (n + i)) ∧ (0 ≤ l[i].2 ∧ l[i].2 < 2 * (n + i))
 | [], n => by simp [Aig.gatesOk]
 | x :: l, n => by
  simp only [Aig.gatesOk, Bool.and_eq_true, litN_iff, gatesOk_iff (l := l) (n := n + 1)]
  constructor
  ·rintro ⟨h1, h2⟩ i hi
   cases i with
   | zero => simpa using h1
   | succ i =>
    have := h2 i (by simpa using hi)
    simp only [List.getElem_cons_succ]
    omega
  ·intro h
   have h0 := h 0 (by simp)
   refine ⟨by simpa using h0, fun i hi => ?_⟩
   have := h (i + 1) (by simpa using hi)
   simp only [List.getElem_cons_succ] at this
   omega
theorem gatesOk_false {l : List (Int × Int)} {n : Int} {i : Nat} (h : i < l.length) (hb : ¬ ((0 ≤ l[i].1 ∧ l[i].1 < 2 * (n + i)) ∧ (0 ≤ l[i].2 ∧ l[i].2 < 2 * (n + i)))) : Aig.gatesOk n l = false := by
 cases hh : Aig.gatesOk n l with
 | false => rfl
 | true => exact (hb (gatesOk_iff.1 hh i h)).elim
theorem checkL_append (g : Aig) : ∀ (l m : List Int) (e : Int), g.checkL e (l ++ m) = g.checkL (g.checkL e l) m
 | [], m, e => rfl
 | a :: l, m, e => by simp only [List.cons_append, Aig.checkL]; exact checkL_append g l m _
theorem checkL_snoc (g : Aig) (l : List Int) (a e : Int) : g.checkL e (l ++ [a]) = if g.checkL e l = 0 ∧ g.lit a = false then 1 else g.checkL e l := by
 rw [checkL_append]; rfl
theorem checkL_zero {g : Aig} : ∀ {l : List Int} {e : Int}, g.checkL e l = 0 ↔ e = 0 ∧ ∀ a ∈ l, g.lit a = true
 | [], e => by simp [Aig.checkL]
 | a :: l, e => by
  simp only [Aig.checkL, checkL_zero (l := l), List.mem_cons, forall_eq_or_imp]
  by_cases he : e = 0
  ·cases h : g.lit a <;> simp [he, h]
  ·simp [he]
theorem check_small {g : Aig} (hs : Wf g) (h : g.check = 0) : Small g := by
 unfold Aig.check at h
 split at h
 ·simp at h
 ·split at h
  ·simp at h
  ·exact ⟨hs, by omega, by omega⟩
theorem checkL_small {g : Aig} {l : List Int} (hs : Wf g) (h : g.checkL g.check l = 0) : Small g := check_small hs (checkL_zero.1 h).1
section
variable {g : Aig} {a b : Int}
theorem andW1 (h : min a b = 0 ∨ min a b = turn (max a b)) : g.andW 0 a b = (g, 0, 0) := by simp [Aig.andW, Aig.andO, h]
theorem andW2 (h : ¬ (min a b = 0 ∨ min a b = turn (max a b))) (h2 : min a b = 1 ∨ min a b = max a b) : g.andW 0 a b = (g, 0, max a b) := by
 simp only [Aig.andW, Aig.andO, h, h2, if_true, if_false]; rfl
theorem andW3 (h : ¬ (min a b = 0 ∨ min a b = turn (max a b))) (h2 : ¬ (min a b = 1 ∨ min a b = max a b)) (h3 : 0 ≤ g.find (min a b) (max a b)) : g.andW 0 a b = (g, 0, 2 * (g.first + g.find (min a b) (max a b))) := by
 simp only [Aig.andW, Aig.andO, h, h2, h3, if_true, if_false]; rfl
theorem andW4 (h : ¬ (min a b = 0 ∨ min a b = turn (max a b))) (h2 : ¬ (min a b = 1 ∨ min a b = max a b)) (h3 : ¬ 0 ≤ g.find (min a b) (max a b)) (h4 : g.count = 65536) : g.andW 0 a b = (g, 2, 0) := by
 simp only [Aig.andW, Aig.andO, h, h2, h3, h4, if_true, if_false]; rfl
theorem andW5 (h : ¬ (min a b = 0 ∨ min a b = turn (max a b))) (h2 : ¬ (min a b = 1 ∨ min a b = max a b)) (h3 : ¬ 0 ≤ g.find (min a b) (max a b)) (h4 : ¬ g.count = 65536) :
  g.andW 0 a b = ({ g with ands := g.ands ++ [(min a b, max a b)] }, 0, 2 * (g.count + 1)) := by
 simp only [Aig.andW, Aig.andO, h, h2, h3, h4, if_false]; rfl
theorem count_push (x : Int × Int) : ({ g with ands := g.ands ++ [x] } : Aig).count = g.count + 1 := by simp [Aig.count]; omega
end
theorem szs_gate (l : List (Int × Int)) : szs 2 (l.map encGate) = True := szs_map _ _ _ fun _ => rfl
theorem szs_flop (l : List Flop) : szs 2 (l.map encFlop) = True := szs_map _ _ _ fun _ => rfl
theorem szs_int (l : List Int) : szs 1 (l.map encInt) = True := szs_map _ _ _ fun _ => rfl
theorem szs_bool (l : List Bool) : szs 1 (l.map encBool) = True := szs_map _ _ _ fun _ => rfl
attribute [go_sem] szs_gate szs_flop szs_int szs_bool

/-! ### Making gates -/
structure Ext (g g' : Aig) : Prop where
 ins : g'.ins = g.ins
 flops : g'.flops = g.flops
 outs : g'.outs = g.outs
 ands : ∃ l, g'.ands = g.ands ++ l
theorem Ext.refl (g : Aig) : Ext g g := ⟨rfl, rfl, rfl, [], by simp⟩
theorem Ext.trans {g g' g'' : Aig} (h : Ext g g') (h' : Ext g' g'') : Ext g g'' := by
 obtain ⟨a1, a2, a3, l, a4⟩ := h
 obtain ⟨b1, b2, b3, m, b4⟩ := h'
 exact ⟨b1.trans a1, b2.trans a2, b3.trans a3, l ++ m, by rw [b4, a4, List.append_assoc]⟩
theorem Ext.count {g g' : Aig} (h : Ext g g') : g.count ≤ g'.count := by
 obtain ⟨a1, a2, a3, l, a4⟩ := h
 simp only [Aig.count, a1, a2, a4, List.length_append]; omega
theorem Ext.first {g g' : Aig} (h : Ext g g') : g'.first = g.first := by simp only [Aig.first, h.ins, h.flops]
theorem Ext.lit {g g' : Aig} (h : Ext g g') {a : Int} (ha : g.lit a = true) : g'.lit a = true := by
 have := h.count
 simp only [Aig.lit, litN_iff] at ha ⊢
 omega
structure Fine (g : Aig) : Prop extends Small g where
 cnt : g.count ≤ 65536
 gok : Aig.gatesOk g.first g.ands = true
theorem gatesOk_append {n : Int} : ∀ {l m : List (Int × Int)}, Aig.gatesOk n (l ++ m) = (Aig.gatesOk n l && Aig.gatesOk (n + l.length) m)
 | [], m => by simp [Aig.gatesOk]
 | x :: l, m => by
  simp only [List.cons_append, Aig.gatesOk, gatesOk_append (l := l), List.length_cons, Bool.and_assoc]
  congr 4; simp only [Int.natCast_add]; omega
theorem count_first (g : Aig) : 1 + g.count = g.first + g.ands.length := by simp only [Aig.count, Aig.first]; omega
theorem turn_lit {n a : Int} (h : Aig.litN n a = true) : Aig.litN n (turn a) = true := by
 simp only [litN_iff, turn] at h ⊢; omega
theorem andO_some {g g' : Aig} {p q x : Int} (hf : Fine g) (hp : g.lit p = true) (hq : g.lit q = true) (h : g.andO p q = some (g', x)) : Fine g' ∧ Ext g g' ∧ g'.lit x = true := by
  have hp' := litN_iff.1 hp
  have hq' := litN_iff.1 hq
  have hlo := hf.lo
  have hc : 0 ≤ g.count := by unfold Aig.count; omega
  unfold Aig.andO at h
  simp only at h
  split at h
  · simp at h; obtain ⟨rfl, rfl⟩ := h
    exact ⟨hf, .refl g, by simp only [Aig.lit, litN_iff]; omega⟩
  · rename_i h1
    split at h
    · simp at h; obtain ⟨rfl, rfl⟩ := h
      exact ⟨hf, .refl g, by simp only [Aig.lit, litN_iff]; omega⟩
    · split at h
      · simp at h; obtain ⟨rfl, rfl⟩ := h
        have := idxF_bounds (fun x : Int × Int => decide (min x.1 x.2 = min p q) && decide (max x.1 x.2 = max p q)) g.ands
        have e : g.find (min p q) (max p q) = idxF (fun x : Int × Int => decide (min x.1 x.2 = min p q) && decide (max x.1 x.2 = max p q)) g.ands := rfl
        have cf := count_first g
        refine ⟨hf, .refl g, ?_⟩
        have hff : 1 ≤ g.first := by unfold Aig.first; omega
        simp only [Aig.lit, litN_iff]; omega
      · split at h
        · simp at h
        · rename_i hcn
          simp at h; obtain ⟨rfl, rfl⟩ := h
          have hcc := hf.cnt
          have hlen : (g.ands.length : Int) ≤ 65536 := by simp only [Aig.count] at hcc; omega
          have cp := count_push (g := g) (min p q, max p q)
          have cf := count_first g
          have hsm : Small { g with ands := g.ands ++ [(min p q, max p q)] } := { hf.toSmall with
            ands := by simp; omega
            gates := fun y hy => by
              rcases List.mem_append.1 hy with h | h
              · exact hf.gates y h
              · simp at h; subst h; exact ⟨⟨by simp; omega, by simp; omega⟩, ⟨by simp; omega, by simp; omega⟩⟩ }
          refine ⟨{ hsm with cnt := by omega, gok := ?_ }, ⟨rfl, rfl, rfl, _, rfl⟩, by simp only [Aig.lit, litN_iff]; omega⟩
          show Aig.gatesOk g.first (g.ands ++ [(min p q, max p q)]) = true
          rw [gatesOk_append, hf.gok]
          simp only [Aig.gatesOk, Bool.and_true, Bool.true_and, Bool.and_eq_true, litN_iff]
          omega
theorem andW_err {g : Aig} {e p q : Int} (h : (g.andW e p q).2.1 = 0) : e = 0 := by
 unfold Aig.andW at h
 split at h
 ·exact h
 ·rename_i h'; simpa using h'
theorem andW_none {g : Aig} {e p q : Int} (h : e ≠ 0) : g.andW e p q = (g, e, 0) := by simp [Aig.andW, h]
theorem andW_ok {g : Aig} {e p q : Int} (hf : e = 0 → Fine g ∧ g.lit p = true ∧ g.lit q = true) :
  ((g.andW e p q).2.1 = 0 → Fine (g.andW e p q).1 ∧ (g.andW e p q).1.lit (g.andW e p q).2.2 = true) ∧ Ext g (g.andW e p q).1 ∧ 0 ≤ (g.andW e p q).2.2 ∧ (g.andW e p q).2.2 ≤ 1000000 := by
 by_cases he : e = 0
 ·subst he
  obtain ⟨h1, h2, h3⟩ := hf rfl
  cases ho : g.andO p q with
  | none =>
   have : g.andW 0 p q = (g, 2, 0) := by simp [Aig.andW, ho]
   rw [this]
   exact ⟨fun h => by simp at h, .refl g, by simp, by simp⟩
  | some r =>
   obtain ⟨g', x⟩ := r
   have : g.andW 0 p q = (g', 0, x) := by simp [Aig.andW, ho]
   rw [this]
   obtain ⟨k1, k2, k3⟩ := andO_some h1 h2 h3 ho
   have := litN_iff.1 k3
   have := k1.cnt
   exact ⟨fun _ => ⟨k1, k3⟩, k2, by simp; omega, by simp; omega⟩
 ·rw [andW_none he]
  exact ⟨fun h => (he h).elim, .refl g, by simp, by simp⟩
theorem check_fine {g : Aig} (hs : Wf g) (h : g.check = 0) : Fine g := by
 have hsm := check_small hs h
 unfold Aig.check at h
 split at h
 ·simp at h
 ·split at h
  ·simp at h
  ·split at h
   ·rename_i hg
    simp only [Aig.good, Bool.and_eq_true] at hg
    exact { hsm with cnt := by omega, gok := hg.1.1 }
   ·simp at h
theorem checkL_fine {g : Aig} {l : List Int} (hs : Wf g) (h : g.checkL g.check l = 0) : Fine g ∧ ∀ a ∈ l, g.lit a = true := ⟨check_fine hs (checkL_zero.1 h).1, (checkL_zero.1 h).2⟩
namespace Aig
def And (g : Aig) (a b : Int) : Aig × Int × Int := endW (g.andW (g.checkL g.check [a, b]) a b)
def pairs (g : Aig) (e a b c d : Int) : Aig × Int × Int :=
 let r := g.andW e a b
 let s := r.1.andW r.2.1 c d
 s.1.orW s.2.1 r.2.2 s.2.2
def val (v : List Bool) (a : Int) : Bool := (v.getD (a / 2).toNat false) != decide (a % 2 = 1)
def vals : List Bool → List (Int × Int) → List Bool
 | v, [] => v
 | v, x :: l => vals (v ++ [val v x.1 && val v x.2]) l
def Nodes (g : Aig) (inp st : List Bool) : List Bool × Int :=
 if g.check ≠ 0 then ([], g.check) else if (inp.length : Int) ≠ g.ins ∨ st.length ≠ g.flops.length then ([], 1) else (vals (false :: (inp ++ st)) g.ands, 0)
def Eval (g : Aig) (inp st : List Bool) : List Bool × List Bool × Int :=
 if (g.Nodes inp st).2 ≠ 0 then ([], [], (g.Nodes inp st).2) else (g.outs.map (val (g.Nodes inp st).1), g.flops.map (fun f => val (g.Nodes inp st).1 f.next), 0)
def levs : List Int → List (Int × Int) → List Int
 | l, [] => l
 | l, x :: r => levs (l ++ [1 + max (l.getD (x.1 / 2).toNat 0) (l.getD (x.2 / 2).toNat 0)]) r
end Aig
theorem vals_append : ∀ (l m : List (Int × Int)) (v : List Bool), Aig.vals v (l ++ m) = Aig.vals (Aig.vals v l) m
 | [], m, v => rfl
 | x :: l, m, v => by simp only [List.cons_append, Aig.vals]; exact vals_append l m _
theorem vals_snoc (l : List (Int × Int)) (x : Int × Int) (v : List Bool) : Aig.vals v (l ++ [x]) = Aig.vals v l ++ [Aig.val (Aig.vals v l) x.1 && Aig.val (Aig.vals v l) x.2] := by
 rw [vals_append]; rfl
theorem vals_length : ∀ (l : List (Int × Int)) (v : List Bool), (Aig.vals v l).length = v.length + l.length
 | [], v => rfl
 | x :: l, v => by simp only [Aig.vals, vals_length l, List.length_append, List.length_cons, List.length_nil]; omega
theorem vals_step {l : List (Int × Int)} {v : List Bool} {i : Nat} (h : i < l.length) :
  Aig.vals v (l.take (i + 1)) = Aig.vals v (l.take i) ++ [Aig.val (Aig.vals v (l.take i)) l[i].1 && Aig.val (Aig.vals v (l.take i)) l[i].2] := by
 rw [List.take_add_one, List.getElem?_eq_getElem h]
 exact vals_snoc _ _ _
theorem vals_len {l : List (Int × Int)} {v : List Bool} {i : Nat} (h : i ≤ l.length) : (Aig.vals v (l.take i)).length = v.length + i := by
 rw [vals_length, List.length_take]; omega
theorem levs_append : ∀ (l m : List (Int × Int)) (v : List Int), Aig.levs v (l ++ m) = Aig.levs (Aig.levs v l) m
 | [], m, v => rfl
 | x :: l, m, v => by simp only [List.cons_append, Aig.levs]; exact levs_append l m _
theorem levs_length : ∀ (l : List (Int × Int)) (v : List Int), (Aig.levs v l).length = v.length + l.length
 | [], v => rfl
 | x :: l, v => by simp only [Aig.levs, levs_length l, List.length_append, List.length_cons, List.length_nil]; omega
theorem take_succ {α : Type} {l : List α} {i : Nat} (h : i < l.length) : l.take (i + 1) = l.take i ++ [l[i]] := by
 rw [List.take_add_one, List.getElem?_eq_getElem h]; rfl
theorem nodes_ok {g : Aig} {inp st : List Bool} (hs : Wf g) (h : (g.Nodes inp st).2 = 0) : Fine g ∧ g.good = true ∧ (inp.length : Int) = g.ins ∧ st.length = g.flops.length ∧
  (g.Nodes inp st).1 = Aig.vals (false :: (inp ++ st)) g.ands ∧ (((g.Nodes inp st).1.length : Nat) : Int) = 1 + g.count := by
 unfold Aig.Nodes at h ⊢
 split at h
 ·rename_i hc; exact (hc h).elim
 ·rename_i hc
  have hc' : g.check = 0 := Classical.not_not.1 hc
  split at h
  ·simp at h
  ·rename_i hl
   have h1 : (inp.length : Int) = g.ins ∧ st.length = g.flops.length := ⟨Classical.not_not.1 fun e => hl (.inl e), Classical.not_not.1 fun e => hl (.inr e)⟩
   rw [if_neg hc, if_neg hl]
   have hg : g.good = true := by
    unfold Aig.check at hc'
    split at hc'
    ·simp at hc'
    ·split at hc'
     ·simp at hc'
     ·split at hc'
      ·assumption
      ·simp at hc'
   refine ⟨check_fine hs hc', hg, h1.1, h1.2, rfl, ?_⟩
   simp only [vals_length, Aig.count, List.length_cons, List.length_append]
   omega
theorem good_outs {g : Aig} (h : g.good = true) {a : Int} (ha : a ∈ g.outs) : 0 ≤ a ∧ a < 2 * (1 + g.count) := by
 simp only [Aig.good, Bool.and_eq_true, Bool.not_eq_true', List.any_eq_false, Bool.not_eq_true, Bool.not_eq_false'] at h
 have := h.2 a ha
 exact litN_iff.1 (by simpa [Aig.lit] using this)
theorem good_flops {g : Aig} (h : g.good = true) {f : Flop} (hf : f ∈ g.flops) : 0 ≤ f.next ∧ f.next < 2 * (1 + g.count) := by
 simp only [Aig.good, Bool.and_eq_true, Bool.not_eq_true', List.any_eq_false, Bool.not_eq_true, Bool.not_eq_false'] at h
 have := h.1.2 f hf
 exact litN_iff.1 (by simpa [Aig.lit] using this)
theorem levs_bound : ∀ (l : List (Int × Int)) (v : List Int) (b : Int), (∀ x ∈ v, 0 ≤ x ∧ x ≤ b) → 0 ≤ b → ∀ x ∈ Aig.levs v l, 0 ≤ x ∧ x ≤ b + l.length
 | [], v, b, h, _ => fun x hx => by have := h x hx; simp; omega
 | y :: l, v, b, h, hb => by
  have hd : ∀ n, 0 ≤ v.getD n 0 ∧ v.getD n 0 ≤ b := fun n => by
   rcases Nat.lt_or_ge n v.length with hn | hn
   ·rw [List.getD_eq_getElem?_getD, List.getElem?_eq_getElem hn]; exact h _ (List.getElem_mem hn)
   ·rw [List.getD_eq_getElem?_getD, List.getElem?_eq_none hn]; simp; exact hb
  intro x hx
  simp only [Aig.levs] at hx
  have := levs_bound l _ (b + 1) (fun z hz => by
   rcases List.mem_append.1 hz with h' | h'
   ·have := h z h'; omega
   ·have h' := List.mem_singleton.1 h'
    have h1 := hd (y.1 / 2).toNat
    have h2 := hd (y.2 / 2).toNat
    subst h'
    omega) (by omega) x hx
  simp only [List.length_cons, Int.natCast_add]
  omega
theorem find_eq {g : Aig} {a b : Int} (h : a ≤ b) : g.find a b = idxF (fun x : Int × Int => (decide (x.1 = a) && decide (x.2 = b)) || (decide (x.1 = b) && decide (x.2 = a))) g.ands := by
 unfold Aig.find
 congr 1
 funext x
 rw [Bool.eq_iff_iff]
 simp only [Bool.and_eq_true, Bool.or_eq_true, decide_eq_true_eq]
 omega
theorem endW_and {g : Aig} {a b : Int} : Aig.endW (g.andW 0 a b) = match g.andO a b with
  | none => (⟨0, [], [], []⟩, 0, 2)
  | some (g', x) => (g', x, 0) := by
 unfold Aig.andW
 cases g.andO a b with
 | none => rfl
 | some r => rfl
theorem endW_ok {r : Aig × Int × Int} (h : r.2.1 = 0) : Aig.endW r = (r.1, r.2.2, 0) := by simp [Aig.endW, h]
theorem endW_err {r : Aig × Int × Int} (h : r.2.1 ≠ 0) : Aig.endW r = (⟨0, [], [], []⟩, 0, r.2.1) := by simp [Aig.endW, h]
end Fil

