/- The bodies of the program's functions, as the abstraction layer has them. By program. -/
import Derived.Test.YtapnlmhfacoceaaAbsT
import Derived.Test.YtapnlmhfacoceaaAbsW
import Derived.Test.YtapnlmhfacoceaaProg
import Derived.KernelRfl
set_option linter.unusedSimpArgs false
set_option linter.unusedVariables false
namespace Go.Proofs.Ytapnlmhfacoceaa
open Abs
theorem mixed : Try.prog.follows .mixedOrders = true := by kernel_rfl
def c10 : ACode :=
 .seq (.reg [⟨some 3, .boxI (.t 0), none⟩,
   ⟨some 6, .mov (.c (.bool false)), none⟩])
 (.seq (.reg [⟨some 17, .call (.c (.fn 13 [] [])) [], none⟩,
   ⟨some 7, .mov (.t 17), none⟩])
 (.seq (.seq (.reg [⟨some 18, .load true 4 (.t 3), none⟩,
   ⟨some 19, .call (.c (.fn 14 [] [])) [(.t 18)], none⟩,
   ⟨some 20, .un .not (.t 19), none⟩,
   ⟨some 21, .mov (.t 20), none⟩,
   ⟨some 22, .mov (.t 1), some (21, false)⟩,
   ⟨some 23, .len (.t 22), some (21, false)⟩,
   ⟨some 24, .bin .gtr false (.t 23) (.c (.int .i64 50)), some (21, false)⟩,
   ⟨some 25, .pick (.t 21) (.c (.bool true)) (.t 24), none⟩,
   ⟨some 26, .mov (.t 25), none⟩,
   ⟨some 27, .mov (.t 2), some (26, false)⟩,
   ⟨some 28, .len (.t 27), some (26, false)⟩,
   ⟨some 29, .bin .gtr false (.t 28) (.c (.int .i64 50)), some (26, false)⟩,
   ⟨some 30, .pick (.t 26) (.c (.bool true)) (.t 29), none⟩])
 (.cond (.t 30)
  (.seq (.reg [⟨some 31, .mov (.t 7), none⟩,
    ⟨some 6, .mov (.t 31), none⟩])
  (.ret))
  (.skip)))
 (.seq (.reg [⟨some 33, .load true 4 (.t 3), none⟩,
   ⟨some 34, .mov (.t 1), none⟩,
   ⟨some 35, .mov (.t 2), none⟩,
   ⟨some 36, .call (.c (.fn 30 [] [])) [(.t 33), (.t 34), (.t 35)], none⟩,
   ⟨some 32, .mov (.t 36), none⟩,
   ⟨some 37, .extract (.t 32) 0, none⟩,
   ⟨some 38, .extract (.t 32) 1, none⟩,
   ⟨some 39, .extract (.t 32) 2, none⟩,
   ⟨some 8, .mov (.t 37), none⟩,
   ⟨some 9, .mov (.t 38), none⟩,
   ⟨some 10, .mov (.t 39), none⟩])
 (.seq (.seq (.reg [⟨some 40, .mov (.t 10), none⟩,
   ⟨some 41, .bin .neq false (.t 40) (.c (.int .i64 0)), none⟩])
 (.cond (.t 41)
  (.seq (.reg [⟨some 42, .mov (.t 7), none⟩,
    ⟨some 6, .mov (.t 42), none⟩])
  (.ret))
  (.skip)))
 (.seq (.reg [⟨some 44, .load true 4 (.t 3), none⟩,
   ⟨some 45, .call (.c (.fn 15 [] [])) [(.t 44)], none⟩,
   ⟨some 43, .mov (.t 45), none⟩,
   ⟨some 46, .extract (.t 43) 0, none⟩,
   ⟨some 47, .extract (.t 43) 1, none⟩,
   ⟨some 11, .alloc [(.int .i64 0), (.slice [] .nil), (.slice [] .nil), (.slice [] .nil)], none⟩,
   ⟨none, .store 4 (.t 11) (.t 46), none⟩,
   ⟨some 12, .mov (.t 47), none⟩])
 (.seq (.reg [⟨some 49, .load true 4 (.t 3), none⟩,
   ⟨some 50, .call (.c (.fn 17 [] [])) [(.t 49)], none⟩,
   ⟨some 48, .mov (.t 50), none⟩,
   ⟨some 51, .extract (.t 48) 0, none⟩,
   ⟨some 52, .extract (.t 48) 1, none⟩,
   ⟨some 13, .alloc [(.int .i64 0), (.slice [] .nil), (.slice [] .nil), (.slice [] .nil)], none⟩,
   ⟨none, .store 4 (.t 13) (.t 51), none⟩,
   ⟨some 14, .mov (.t 52), none⟩])
 (.seq (.reg [⟨some 54, .load true 4 (.t 3), none⟩,
   ⟨some 55, .call (.c (.fn 20 [] [])) [(.t 54)], none⟩,
   ⟨some 53, .mov (.t 55), none⟩,
   ⟨some 56, .extract (.t 53) 0, none⟩,
   ⟨some 57, .extract (.t 53) 1, none⟩,
   ⟨some 15, .alloc [(.int .i64 0), (.slice [] .nil), (.slice [] .nil), (.slice [] .nil)], none⟩,
   ⟨none, .store 4 (.t 15) (.t 56), none⟩,
   ⟨some 16, .mov (.t 57), none⟩])
 (.seq (.reg [⟨some 58, .mov (.t 7), none⟩,
   ⟨some 59, .mov (.t 58), none⟩,
   ⟨some 60, .mov (.t 12), some (59, true)⟩,
   ⟨some 61, .bin .eql false (.t 60) (.c (.int .i64 0)), some (59, true)⟩,
   ⟨some 62, .pick (.t 59) (.t 61) (.c (.bool false)), none⟩,
   ⟨some 63, .mov (.t 62), none⟩,
   ⟨some 64, .mov (.t 14), some (63, true)⟩,
   ⟨some 65, .bin .eql false (.t 64) (.c (.int .i64 0)), some (63, true)⟩,
   ⟨some 66, .pick (.t 63) (.t 65) (.c (.bool false)), none⟩,
   ⟨some 67, .mov (.t 66), none⟩,
   ⟨some 68, .mov (.t 16), some (67, true)⟩,
   ⟨some 69, .bin .eql false (.t 68) (.c (.int .i64 0)), some (67, true)⟩,
   ⟨some 70, .pick (.t 67) (.t 69) (.c (.bool false)), none⟩,
   ⟨some 71, .mov (.t 70), none⟩,
   ⟨some 72, .load true 4 (.t 3), some (71, true)⟩,
   ⟨some 73, .load true 4 (.t 11), some (71, true)⟩,
   ⟨some 74, .mov (.t 1), some (71, true)⟩,
   ⟨some 75, .mov (.t 2), some (71, true)⟩,
   ⟨some 76, .mov (.t 8), some (71, true)⟩,
   ⟨some 77, .mov (.t 9), some (71, true)⟩,
   ⟨some 78, .call (.c (.fn 31 [] [])) [(.t 72), (.t 73), (.t 74), (.t 75), (.t 76), (.t 77)], some (71, true)⟩,
   ⟨some 79, .pick (.t 71) (.t 78) (.c (.bool false)), none⟩,
   ⟨some 80, .mov (.t 79), none⟩,
   ⟨some 81, .load true 4 (.t 3), some (80, true)⟩,
   ⟨some 82, .load true 4 (.t 13), some (80, true)⟩,
   ⟨some 83, .mov (.t 1), some (80, true)⟩,
   ⟨some 84, .mov (.t 2), some (80, true)⟩,
   ⟨some 85, .mov (.t 8), some (80, true)⟩,
   ⟨some 86, .mov (.t 9), some (80, true)⟩,
   ⟨some 87, .call (.c (.fn 31 [] [])) [(.t 81), (.t 82), (.t 83), (.t 84), (.t 85), (.t 86)], some (80, true)⟩,
   ⟨some 88, .pick (.t 80) (.t 87) (.c (.bool false)), none⟩,
   ⟨some 89, .mov (.t 88), none⟩,
   ⟨some 90, .load true 4 (.t 3), some (89, true)⟩,
   ⟨some 91, .load true 4 (.t 15), some (89, true)⟩,
   ⟨some 92, .mov (.t 1), some (89, true)⟩,
   ⟨some 93, .mov (.t 2), some (89, true)⟩,
   ⟨some 94, .mov (.t 8), some (89, true)⟩,
   ⟨some 95, .mov (.t 9), some (89, true)⟩,
   ⟨some 96, .call (.c (.fn 31 [] [])) [(.t 90), (.t 91), (.t 92), (.t 93), (.t 94), (.t 95)], some (89, true)⟩,
   ⟨some 97, .pick (.t 89) (.t 96) (.c (.bool false)), none⟩,
   ⟨some 6, .mov (.t 97), none⟩])
 (.ret)))))))))
def r10 : List ARV := [.tmp 6]
theorem b10 : Try.f10.body.bind (tr Try.prog 98) = some c10.bare := by kernel_rfl
theorem q10 : trRes Try.prog Try.f10.results.toList = some r10 := by kernel_rfl
theorem n10 : (Try.f10.name == "runtime.NumGoroutine") = false := by kernel_rfl

def c12 : ACode :=
 .seq (.reg [⟨some 2, .boxI (.t 0), none⟩,
   ⟨some 4, .mov (.c (.bool false)), none⟩])
 (.seq (.reg [⟨some 18, .call (.c (.fn 13 [] [])) [], none⟩,
   ⟨some 5, .mov (.t 18), none⟩])
 (.seq (.seq (.reg [⟨some 19, .load true 4 (.t 2), none⟩,
   ⟨some 20, .call (.c (.fn 14 [] [])) [(.t 19)], none⟩,
   ⟨some 21, .un .not (.t 20), none⟩,
   ⟨some 22, .mov (.t 21), none⟩,
   ⟨some 23, .mov (.t 1), some (22, false)⟩,
   ⟨some 24, .len (.t 23), some (22, false)⟩,
   ⟨some 25, .bin .gtr false (.t 24) (.c (.int .i64 20)), some (22, false)⟩,
   ⟨some 26, .pick (.t 22) (.c (.bool true)) (.t 25), none⟩])
 (.cond (.t 26)
  (.seq (.reg [⟨some 27, .mov (.t 5), none⟩,
    ⟨some 4, .mov (.t 27), none⟩])
  (.ret))
  (.skip)))
 (.seq (.reg [⟨some 29, .load true 4 (.t 2), none⟩,
   ⟨some 30, .mov (.t 1), none⟩,
   ⟨some 31, .call (.c (.fn 36 [] [])) [(.t 29), (.t 30)], none⟩,
   ⟨some 28, .mov (.t 31), none⟩,
   ⟨some 32, .extract (.t 28) 0, none⟩,
   ⟨some 33, .extract (.t 28) 1, none⟩,
   ⟨some 6, .mov (.t 32), none⟩,
   ⟨some 7, .mov (.t 33), none⟩])
 (.seq (.seq (.reg [⟨some 34, .mov (.t 7), none⟩,
   ⟨some 35, .bin .neq false (.t 34) (.c (.int .i64 0)), none⟩])
 (.cond (.t 35)
  (.seq (.reg [⟨some 36, .mov (.t 5), none⟩,
    ⟨some 4, .mov (.t 36), none⟩])
  (.ret))
  (.skip)))
 (.seq (.reg [⟨some 38, .load true 4 (.t 2), none⟩,
   ⟨some 39, .call (.c (.fn 15 [] [])) [(.t 38)], none⟩,
   ⟨some 37, .mov (.t 39), none⟩,
   ⟨some 40, .extract (.t 37) 0, none⟩,
   ⟨some 41, .extract (.t 37) 1, none⟩,
   ⟨some 8, .alloc [(.int .i64 0), (.slice [] .nil), (.slice [] .nil), (.slice [] .nil)], none⟩,
   ⟨none, .store 4 (.t 8) (.t 40), none⟩,
   ⟨some 9, .mov (.t 41), none⟩])
 (.seq (.reg [⟨some 43, .load true 4 (.t 2), none⟩,
   ⟨some 44, .call (.c (.fn 17 [] [])) [(.t 43)], none⟩,
   ⟨some 42, .mov (.t 44), none⟩,
   ⟨some 45, .extract (.t 42) 0, none⟩,
   ⟨some 46, .extract (.t 42) 1, none⟩,
   ⟨some 10, .alloc [(.int .i64 0), (.slice [] .nil), (.slice [] .nil), (.slice [] .nil)], none⟩,
   ⟨none, .store 4 (.t 10) (.t 45), none⟩,
   ⟨some 11, .mov (.t 46), none⟩])
 (.seq (.reg [⟨some 48, .load true 4 (.t 2), none⟩,
   ⟨some 49, .call (.c (.fn 20 [] [])) [(.t 48)], none⟩,
   ⟨some 47, .mov (.t 49), none⟩,
   ⟨some 50, .extract (.t 47) 0, none⟩,
   ⟨some 51, .extract (.t 47) 1, none⟩,
   ⟨some 12, .alloc [(.int .i64 0), (.slice [] .nil), (.slice [] .nil), (.slice [] .nil)], none⟩,
   ⟨none, .store 4 (.t 12) (.t 50), none⟩,
   ⟨some 13, .mov (.t 51), none⟩])
 (.seq (.reg [⟨some 53, .load true 4 (.t 2), none⟩,
   ⟨some 54, .call (.c (.fn 22 [] [])) [(.t 53)], none⟩,
   ⟨some 52, .mov (.t 54), none⟩,
   ⟨some 55, .extract (.t 52) 0, none⟩,
   ⟨some 56, .extract (.t 52) 1, none⟩,
   ⟨some 14, .alloc [(.int .i64 0), (.slice [] .nil), (.slice [] .nil), (.slice [] .nil)], none⟩,
   ⟨none, .store 4 (.t 14) (.t 55), none⟩,
   ⟨some 15, .mov (.t 56), none⟩])
 (.seq (.reg [⟨some 58, .load true 4 (.t 2), none⟩,
   ⟨some 59, .call (.c (.fn 24 [] [])) [(.t 58)], none⟩,
   ⟨some 57, .mov (.t 59), none⟩,
   ⟨some 60, .extract (.t 57) 0, none⟩,
   ⟨some 61, .extract (.t 57) 1, none⟩,
   ⟨some 16, .alloc [(.int .i64 0), (.slice [] .nil), (.slice [] .nil), (.slice [] .nil)], none⟩,
   ⟨none, .store 4 (.t 16) (.t 60), none⟩,
   ⟨some 17, .mov (.t 61), none⟩])
 (.seq (.reg [⟨some 62, .mov (.t 5), none⟩,
   ⟨some 63, .mov (.t 62), none⟩,
   ⟨some 64, .mov (.t 6), some (63, true)⟩,
   ⟨some 65, .load true 4 (.t 8), some (63, true)⟩,
   ⟨some 66, .mov (.t 9), some (63, true)⟩,
   ⟨some 67, .mov (.t 1), some (63, true)⟩,
   ⟨some 68, .call (.c (.fn 37 [] [])) [(.t 64), (.t 65), (.t 66), (.t 67)], some (63, true)⟩,
   ⟨some 69, .pick (.t 63) (.t 68) (.c (.bool false)), none⟩,
   ⟨some 70, .mov (.t 69), none⟩,
   ⟨some 71, .mov (.t 6), some (70, true)⟩,
   ⟨some 72, .load true 4 (.t 10), some (70, true)⟩,
   ⟨some 73, .mov (.t 11), some (70, true)⟩,
   ⟨some 74, .mov (.t 1), some (70, true)⟩,
   ⟨some 75, .call (.c (.fn 37 [] [])) [(.t 71), (.t 72), (.t 73), (.t 74)], some (70, true)⟩,
   ⟨some 76, .pick (.t 70) (.t 75) (.c (.bool false)), none⟩,
   ⟨some 77, .mov (.t 76), none⟩,
   ⟨some 78, .mov (.t 6), some (77, true)⟩,
   ⟨some 79, .load true 4 (.t 12), some (77, true)⟩,
   ⟨some 80, .mov (.t 13), some (77, true)⟩,
   ⟨some 81, .mov (.t 1), some (77, true)⟩,
   ⟨some 82, .call (.c (.fn 37 [] [])) [(.t 78), (.t 79), (.t 80), (.t 81)], some (77, true)⟩,
   ⟨some 83, .pick (.t 77) (.t 82) (.c (.bool false)), none⟩,
   ⟨some 84, .mov (.t 83), none⟩,
   ⟨some 85, .mov (.t 6), some (84, true)⟩,
   ⟨some 86, .load true 4 (.t 14), some (84, true)⟩,
   ⟨some 87, .mov (.t 15), some (84, true)⟩,
   ⟨some 88, .mov (.t 1), some (84, true)⟩,
   ⟨some 89, .call (.c (.fn 37 [] [])) [(.t 85), (.t 86), (.t 87), (.t 88)], some (84, true)⟩,
   ⟨some 90, .pick (.t 84) (.t 89) (.c (.bool false)), none⟩,
   ⟨some 91, .mov (.t 90), none⟩,
   ⟨some 92, .mov (.t 6), some (91, true)⟩,
   ⟨some 93, .load true 4 (.t 16), some (91, true)⟩,
   ⟨some 94, .mov (.t 17), some (91, true)⟩,
   ⟨some 95, .mov (.t 1), some (91, true)⟩,
   ⟨some 96, .call (.c (.fn 37 [] [])) [(.t 92), (.t 93), (.t 94), (.t 95)], some (91, true)⟩,
   ⟨some 97, .pick (.t 91) (.t 96) (.c (.bool false)), none⟩,
   ⟨some 4, .mov (.t 97), none⟩])
 (.ret)))))))))))
def r12 : List ARV := [.tmp 4]
theorem b12 : Try.f12.body.bind (tr Try.prog 98) = some c12.bare := by kernel_rfl
theorem q12 : trRes Try.prog Try.f12.results.toList = some r12 := by kernel_rfl
theorem n12 : (Try.f12.name == "runtime.NumGoroutine") = false := by kernel_rfl

def c13 : ACode :=
 .seq (.reg [⟨some 0, .mov (.c (.bool false)), none⟩])
 (.seq (.reg [⟨some 14, .build [(.int .i64 0), (.int .i64 0)] [(0, 1, (.c (.int .i64 2))), (1, 1, (.c (.int .i64 4)))], none⟩,
   ⟨some 15, .build [(.int .i64 0), (.int .i64 0)] [(0, 1, (.c (.int .i64 10))), (1, 1, (.c (.int .i64 6)))], none⟩,
   ⟨some 16, .build [(.int .i64 0), (.int .i64 0)] [(0, 1, (.c (.int .i64 12))), (1, 1, (.c (.int .i64 8)))], none⟩,
   ⟨some 17, .bslice 2 [(.t 14), (.t 15), (.t 16)], none⟩,
   ⟨some 18, .bslice 1 [(.c (.int .i64 14))], none⟩,
   ⟨some 19, .build [(.int .i64 0), (.slice [] .nil), (.slice [] .nil), (.slice [] .nil)] [(0, 1, (.c (.int .i64 4))), (2, 1, (.t 17)), (3, 1, (.t 18))], none⟩,
   ⟨some 1, .alloc [(.int .i64 0), (.slice [] .nil), (.slice [] .nil), (.slice [] .nil)], none⟩,
   ⟨none, .store 4 (.t 1) (.t 19), none⟩])
 (.seq (.reg [⟨some 21, .load true 4 (.t 1), none⟩,
   ⟨some 22, .call (.c (.fn 20 [] [])) [(.t 21)], none⟩,
   ⟨some 20, .mov (.t 22), none⟩,
   ⟨some 23, .extract (.t 20) 0, none⟩,
   ⟨some 24, .extract (.t 20) 1, none⟩,
   ⟨some 2, .alloc [(.int .i64 0), (.slice [] .nil), (.slice [] .nil), (.slice [] .nil)], none⟩,
   ⟨none, .store 4 (.t 2) (.t 23), none⟩,
   ⟨some 3, .mov (.t 24), none⟩])
 (.seq (.reg [⟨some 25, .build [(.int .i64 0), (.bool false)] [(0, 1, (.c (.int .i64 6)))], none⟩,
   ⟨some 26, .bslice 2 [(.t 25)], none⟩,
   ⟨some 27, .build [(.int .i64 0), (.int .i64 0)] [(0, 1, (.c (.int .i64 2))), (1, 1, (.c (.int .i64 4)))], none⟩,
   ⟨some 28, .bslice 2 [(.t 27)], none⟩,
   ⟨some 29, .bslice 1 [(.c (.int .i64 4))], none⟩,
   ⟨some 30, .build [(.int .i64 0), (.slice [] .nil), (.slice [] .nil), (.slice [] .nil)] [(0, 1, (.c (.int .i64 1))), (1, 1, (.t 26)), (2, 1, (.t 28)), (3, 1, (.t 29))], none⟩,
   ⟨some 4, .alloc [(.int .i64 0), (.slice [] .nil), (.slice [] .nil), (.slice [] .nil)], none⟩,
   ⟨none, .store 4 (.t 4) (.t 30), none⟩])
 (.seq (.reg [⟨some 32, .load true 4 (.t 4), none⟩,
   ⟨some 33, .call (.c (.fn 22 [] [])) [(.t 32)], none⟩,
   ⟨some 31, .mov (.t 33), none⟩,
   ⟨some 34, .extract (.t 31) 0, none⟩,
   ⟨some 35, .extract (.t 31) 1, none⟩,
   ⟨some 5, .alloc [(.int .i64 0), (.slice [] .nil), (.slice [] .nil), (.slice [] .nil)], none⟩,
   ⟨none, .store 4 (.t 5) (.t 34), none⟩,
   ⟨some 6, .mov (.t 35), none⟩])
 (.seq (.reg [⟨some 36, .build [(.int .i64 0), (.int .i64 0)] [(0, 1, (.c (.int .i64 2))), (1, 1, (.c (.int .i64 4)))], none⟩,
   ⟨some 37, .build [(.int .i64 0), (.int .i64 0)] [(0, 1, (.c (.int .i64 4))), (1, 1, (.c (.int .i64 2)))], none⟩,
   ⟨some 38, .build [(.int .i64 0), (.int .i64 0)] [(0, 1, (.c (.int .i64 2))), (1, 1, (.c (.int .i64 5)))], none⟩,
   ⟨some 39, .bslice 2 [(.t 36), (.t 37), (.t 38)], none⟩,
   ⟨some 40, .bslice 1 [(.c (.int .i64 6)), (.c (.int .i64 9))], none⟩,
   ⟨some 41, .build [(.int .i64 0), (.slice [] .nil), (.slice [] .nil), (.slice [] .nil)] [(0, 1, (.c (.int .i64 2))), (2, 1, (.t 39)), (3, 1, (.t 40))], none⟩,
   ⟨some 7, .alloc [(.int .i64 0), (.slice [] .nil), (.slice [] .nil), (.slice [] .nil)], none⟩,
   ⟨none, .store 4 (.t 7) (.t 41), none⟩])
 (.seq (.reg [⟨some 43, .load true 4 (.t 7), none⟩,
   ⟨some 44, .call (.c (.fn 15 [] [])) [(.t 43)], none⟩,
   ⟨some 42, .mov (.t 44), none⟩,
   ⟨some 45, .extract (.t 42) 0, none⟩,
   ⟨some 46, .extract (.t 42) 1, none⟩,
   ⟨some 8, .alloc [(.int .i64 0), (.slice [] .nil), (.slice [] .nil), (.slice [] .nil)], none⟩,
   ⟨none, .store 4 (.t 8) (.t 45), none⟩,
   ⟨some 9, .mov (.t 46), none⟩])
 (.seq (.reg [⟨some 48, .load true 4 (.t 7), none⟩,
   ⟨some 49, .call (.c (.fn 17 [] [])) [(.t 48)], none⟩,
   ⟨some 47, .mov (.t 49), none⟩,
   ⟨some 50, .extract (.t 47) 0, none⟩,
   ⟨some 51, .extract (.t 47) 1, none⟩,
   ⟨some 10, .alloc [(.int .i64 0), (.slice [] .nil), (.slice [] .nil), (.slice [] .nil)], none⟩,
   ⟨none, .store 4 (.t 10) (.t 50), none⟩,
   ⟨some 11, .mov (.t 51), none⟩])
 (.seq (.reg [⟨some 53, .load true 4 (.t 7), none⟩,
   ⟨some 54, .call (.c (.fn 24 [] [])) [(.t 53)], none⟩,
   ⟨some 52, .mov (.t 54), none⟩,
   ⟨some 55, .extract (.t 52) 0, none⟩,
   ⟨some 56, .extract (.t 52) 1, none⟩,
   ⟨some 12, .alloc [(.int .i64 0), (.slice [] .nil), (.slice [] .nil), (.slice [] .nil)], none⟩,
   ⟨none, .store 4 (.t 12) (.t 55), none⟩,
   ⟨some 13, .mov (.t 56), none⟩])
 (.seq (.seq (.reg [⟨some 57, .mov (.t 3), none⟩,
   ⟨some 58, .bin .neq false (.t 57) (.c (.int .i64 0)), none⟩,
   ⟨some 59, .mov (.t 58), none⟩,
   ⟨some 60, .mov (.t 6), some (59, false)⟩,
   ⟨some 61, .bin .neq false (.t 60) (.c (.int .i64 0)), some (59, false)⟩,
   ⟨some 62, .pick (.t 59) (.c (.bool true)) (.t 61), none⟩,
   ⟨some 63, .mov (.t 62), none⟩,
   ⟨some 64, .mov (.t 9), some (63, false)⟩,
   ⟨some 65, .bin .neq false (.t 64) (.c (.int .i64 0)), some (63, false)⟩,
   ⟨some 66, .pick (.t 63) (.c (.bool true)) (.t 65), none⟩,
   ⟨some 67, .mov (.t 66), none⟩,
   ⟨some 68, .mov (.t 11), some (67, false)⟩,
   ⟨some 69, .bin .neq false (.t 68) (.c (.int .i64 0)), some (67, false)⟩,
   ⟨some 70, .pick (.t 67) (.c (.bool true)) (.t 69), none⟩,
   ⟨some 71, .mov (.t 70), none⟩,
   ⟨some 72, .mov (.t 13), some (71, false)⟩,
   ⟨some 73, .bin .neq false (.t 72) (.c (.int .i64 0)), some (71, false)⟩,
   ⟨some 74, .pick (.t 71) (.c (.bool true)) (.t 73), none⟩,
   ⟨some 75, .mov (.t 74), none⟩,
   ⟨some 76, .fldA 2 (.t 2), some (75, false)⟩,
   ⟨some 77, .load false 1 (.t 76), some (75, false)⟩,
   ⟨some 78, .len (.t 77), some (75, false)⟩,
   ⟨some 79, .bin .neq false (.t 78) (.c (.int .i64 3)), some (75, false)⟩,
   ⟨some 80, .pick (.t 75) (.c (.bool true)) (.t 79), none⟩])
 (.cond (.t 80)
  (.seq (.reg [⟨some 0, .mov (.c (.bool false)), none⟩])
  (.ret))
  (.skip)))
 (.seq (.reg [⟨some 81, .fldA 2 (.t 2), none⟩,
   ⟨some 82, .load false 1 (.t 81), none⟩,
   ⟨some 83, .idxS 2 (.t 82) (.c (.int .i64 0)), none⟩,
   ⟨some 84, .load true 2 (.t 83), none⟩,
   ⟨some 85, .build [(.int .i64 0), (.int .i64 0)] [(0, 1, (.c (.int .i64 2))), (1, 1, (.c (.int .i64 4)))], none⟩,
   ⟨some 86, .eqs false [0, 0] (.t 84) (.t 85), none⟩,
   ⟨some 87, .mov (.t 86), none⟩,
   ⟨some 88, .fldA 2 (.t 2), some (87, true)⟩,
   ⟨some 89, .load false 1 (.t 88), some (87, true)⟩,
   ⟨some 90, .idxS 2 (.t 89) (.c (.int .i64 1)), some (87, true)⟩,
   ⟨some 91, .load true 2 (.t 90), some (87, true)⟩,
   ⟨some 92, .build [(.int .i64 0), (.int .i64 0)] [(0, 1, (.c (.int .i64 6))), (1, 1, (.c (.int .i64 8)))], some (87, true)⟩,
   ⟨some 93, .eqs false [0, 0] (.t 91) (.t 92), some (87, true)⟩,
   ⟨some 94, .pick (.t 87) (.t 93) (.c (.bool false)), none⟩,
   ⟨some 95, .mov (.t 94), none⟩,
   ⟨some 96, .fldA 2 (.t 2), some (95, true)⟩,
   ⟨some 97, .load false 1 (.t 96), some (95, true)⟩,
   ⟨some 98, .idxS 2 (.t 97) (.c (.int .i64 2)), some (95, true)⟩,
   ⟨some 99, .load true 2 (.t 98), some (95, true)⟩,
   ⟨some 100, .build [(.int .i64 0), (.int .i64 0)] [(0, 1, (.c (.int .i64 10))), (1, 1, (.c (.int .i64 12)))], some (95, true)⟩,
   ⟨some 101, .eqs false [0, 0] (.t 99) (.t 100), some (95, true)⟩,
   ⟨some 102, .pick (.t 95) (.t 101) (.c (.bool false)), none⟩,
   ⟨some 103, .mov (.t 102), none⟩,
   ⟨some 104, .fldA 1 (.t 5), some (103, true)⟩,
   ⟨some 105, .load false 1 (.t 104), some (103, true)⟩,
   ⟨some 106, .len (.t 105), some (103, true)⟩,
   ⟨some 107, .bin .eql false (.t 106) (.c (.int .i64 0)), some (103, true)⟩,
   ⟨some 108, .pick (.t 103) (.t 107) (.c (.bool false)), none⟩,
   ⟨some 109, .mov (.t 108), none⟩,
   ⟨some 110, .fldA 3 (.t 5), some (109, true)⟩,
   ⟨some 111, .load false 1 (.t 110), some (109, true)⟩,
   ⟨some 112, .len (.t 111), some (109, true)⟩,
   ⟨some 113, .bin .eql false (.t 112) (.c (.int .i64 1)), some (109, true)⟩,
   ⟨some 114, .pick (.t 109) (.t 113) (.c (.bool false)), none⟩,
   ⟨some 115, .mov (.t 114), none⟩,
   ⟨some 116, .fldA 3 (.t 5), some (115, true)⟩,
   ⟨some 117, .load false 1 (.t 116), some (115, true)⟩,
   ⟨some 118, .idxS 1 (.t 117) (.c (.int .i64 0)), some (115, true)⟩,
   ⟨some 119, .load false 1 (.t 118), some (115, true)⟩,
   ⟨some 120, .bin .eql false (.t 119) (.c (.int .i64 0)), some (115, true)⟩,
   ⟨some 121, .pick (.t 115) (.t 120) (.c (.bool false)), none⟩,
   ⟨some 122, .mov (.t 121), none⟩,
   ⟨some 123, .fldA 2 (.t 8), some (122, true)⟩,
   ⟨some 124, .load false 1 (.t 123), some (122, true)⟩,
   ⟨some 125, .len (.t 124), some (122, true)⟩,
   ⟨some 126, .bin .eql false (.t 125) (.c (.int .i64 2)), some (122, true)⟩,
   ⟨some 127, .pick (.t 122) (.t 126) (.c (.bool false)), none⟩,
   ⟨some 128, .mov (.t 127), none⟩,
   ⟨some 129, .fldA 2 (.t 10), some (128, true)⟩,
   ⟨some 130, .load false 1 (.t 129), some (128, true)⟩,
   ⟨some 131, .len (.t 130), some (128, true)⟩,
   ⟨some 132, .bin .eql false (.t 131) (.c (.int .i64 2)), some (128, true)⟩,
   ⟨some 133, .pick (.t 128) (.t 132) (.c (.bool false)), none⟩,
   ⟨some 134, .mov (.t 133), none⟩,
   ⟨some 135, .fldA 3 (.t 10), some (134, true)⟩,
   ⟨some 136, .load false 1 (.t 135), some (134, true)⟩,
   ⟨some 137, .len (.t 136), some (134, true)⟩,
   ⟨some 138, .bin .eql false (.t 137) (.c (.int .i64 2)), some (134, true)⟩,
   ⟨some 139, .pick (.t 134) (.t 138) (.c (.bool false)), none⟩,
   ⟨some 140, .mov (.t 139), none⟩,
   ⟨some 141, .fldA 3 (.t 10), some (140, true)⟩,
   ⟨some 142, .load false 1 (.t 141), some (140, true)⟩,
   ⟨some 143, .idxS 1 (.t 142) (.c (.int .i64 1)), some (140, true)⟩,
   ⟨some 144, .load false 1 (.t 143), some (140, true)⟩,
   ⟨some 145, .bin .eql false (.t 144) (.c (.int .i64 7)), some (140, true)⟩,
   ⟨some 146, .pick (.t 140) (.t 145) (.c (.bool false)), none⟩,
   ⟨some 147, .mov (.t 146), none⟩,
   ⟨some 148, .fldA 2 (.t 12), some (147, true)⟩,
   ⟨some 149, .load false 1 (.t 148), some (147, true)⟩,
   ⟨some 150, .len (.t 149), some (147, true)⟩,
   ⟨some 151, .bin .eql false (.t 150) (.c (.int .i64 1)), some (147, true)⟩,
   ⟨some 152, .pick (.t 147) (.t 151) (.c (.bool false)), none⟩,
   ⟨some 0, .mov (.t 152), none⟩])
 (.ret)))))))))))
def r13 : List ARV := [.tmp 0]
theorem b13 : Try.f13.body.bind (tr Try.prog 153) = some c13.bare := by kernel_rfl
theorem q13 : trRes Try.prog Try.f13.results.toList = some r13 := by kernel_rfl
theorem n13 : (Try.f13.name == "runtime.NumGoroutine") = false := by kernel_rfl

def c14 : ACode :=
 .seq (.reg [⟨some 1, .boxI (.t 0), none⟩,
   ⟨some 2, .mov (.c (.bool false)), none⟩])
 (.seq (.reg [⟨some 3, .fldA 0 (.t 1), none⟩,
   ⟨some 4, .load false 1 (.t 3), none⟩,
   ⟨some 5, .bin .leq false (.t 4) (.c (.int .i64 50)), none⟩,
   ⟨some 6, .mov (.t 5), none⟩,
   ⟨some 7, .fldA 1 (.t 1), some (6, true)⟩,
   ⟨some 8, .load false 1 (.t 7), some (6, true)⟩,
   ⟨some 9, .len (.t 8), some (6, true)⟩,
   ⟨some 10, .bin .leq false (.t 9) (.c (.int .i64 50)), some (6, true)⟩,
   ⟨some 11, .pick (.t 6) (.t 10) (.c (.bool false)), none⟩,
   ⟨some 12, .mov (.t 11), none⟩,
   ⟨some 13, .fldA 2 (.t 1), some (12, true)⟩,
   ⟨some 14, .load false 1 (.t 13), some (12, true)⟩,
   ⟨some 15, .len (.t 14), some (12, true)⟩,
   ⟨some 16, .bin .leq false (.t 15) (.c (.int .i64 150)), some (12, true)⟩,
   ⟨some 17, .pick (.t 12) (.t 16) (.c (.bool false)), none⟩,
   ⟨some 18, .mov (.t 17), none⟩,
   ⟨some 19, .fldA 3 (.t 1), some (18, true)⟩,
   ⟨some 20, .load false 1 (.t 19), some (18, true)⟩,
   ⟨some 21, .len (.t 20), some (18, true)⟩,
   ⟨some 22, .bin .leq false (.t 21) (.c (.int .i64 50)), some (18, true)⟩,
   ⟨some 23, .pick (.t 18) (.t 22) (.c (.bool false)), none⟩,
   ⟨some 2, .mov (.t 23), none⟩])
 (.ret))
def r14 : List ARV := [.tmp 2]
theorem b14 : Try.f14.body.bind (tr Try.prog 24) = some c14.bare := by kernel_rfl
theorem q14 : trRes Try.prog Try.f14.results.toList = some r14 := by kernel_rfl
theorem n14 : (Try.f14.name == "runtime.NumGoroutine") = false := by kernel_rfl

def c15 : ACode :=
 .seq (.reg [⟨some 1, .boxI (.t 0), none⟩,
   ⟨some 2, .alloc [(.int .i64 0), (.slice [] .nil), (.slice [] .nil), (.slice [] .nil)], none⟩,
   ⟨some 3, .mov (.c (.int .i64 0)), none⟩])
 (.seq (.seq (.reg [⟨some 13, .load true 4 (.t 1), none⟩,
   ⟨some 14, .call (.c (.fn 26 [] [])) [(.t 13)], none⟩,
   ⟨some 4, .mov (.t 14), none⟩])
 (.seq (.reg [⟨some 15, .mov (.t 4), none⟩,
   ⟨some 16, .bin .neq false (.t 15) (.c (.int .i64 0)), none⟩])
 (.cond (.t 16)
  (.seq (.reg [⟨some 17, .build [(.int .i64 0), (.slice [] .nil), (.slice [] .nil), (.slice [] .nil)] [], none⟩,
    ⟨some 18, .mov (.t 4), none⟩,
    ⟨none, .store 4 (.t 2) (.t 17), none⟩,
    ⟨some 3, .mov (.t 18), none⟩])
  (.ret))
  (.skip))))
 (.seq (.reg [⟨some 19, .load true 4 (.t 1), none⟩,
   ⟨some 20, .call (.c (.fn 38 [] [])) [(.t 19), (.c .nilmap)], none⟩,
   ⟨some 5, .mov (.t 20), none⟩])
 (.seq (.reg [⟨some 21, .ext .mkmap, none⟩,
   ⟨some 6, .mov (.t 21), none⟩])
 (.seq (.seq (.reg [⟨some 22, .load true 4 (.t 1), none⟩,
   ⟨some 23, .call (.c (.fn 39 [] [])) [(.t 22)], none⟩,
   ⟨some 7, .mov (.t 23), none⟩])
 (.block 0 (.loop (.seq (.seq (.reg [⟨some 24, .mov (.t 7), none⟩,
    ⟨some 25, .len (.t 24), none⟩,
    ⟨some 26, .bin .gtr false (.t 25) (.c (.int .i64 0)), none⟩])
  (.cond (.t 26)
   (.skip)
   (.exit 0)))
  (.block 1 (.seq (.reg [⟨some 27, .mov (.t 7), none⟩,
    ⟨some 28, .mov (.t 7), none⟩,
    ⟨some 29, .len (.t 28), none⟩,
    ⟨some 30, .bin .sub false (.t 29) (.c (.int .i64 1)), none⟩,
    ⟨some 31, .idxS 1 (.t 27) (.t 30), none⟩,
    ⟨some 32, .load false 1 (.t 31), none⟩,
    ⟨some 33, .bin .quo false (.t 32) (.c (.int .i64 2)), none⟩,
    ⟨some 8, .mov (.t 33), none⟩])
  (.seq (.reg [⟨some 34, .mov (.t 7), none⟩,
    ⟨some 35, .mov (.t 7), none⟩,
    ⟨some 36, .len (.t 35), none⟩,
    ⟨some 37, .bin .sub false (.t 36) (.c (.int .i64 1)), none⟩,
    ⟨some 38, .slc 1 (.t 34) none (some (.t 37)) none, none⟩,
    ⟨some 7, .mov (.t 38), none⟩])
  (.seq (.reg [⟨some 39, .mov (.t 8), none⟩,
    ⟨some 40, .mov (.t 5), none⟩,
    ⟨some 41, .call (.c (.fn 40 [] [])) [(.t 40)], none⟩,
    ⟨some 42, .bin .geq false (.t 39) (.t 41), none⟩,
    ⟨some 43, .mov (.t 42), none⟩,
    ⟨some 44, .mov (.t 6), some (43, true)⟩,
    ⟨some 45, .mov (.t 8), some (43, true)⟩,
    ⟨some 46, .ext (.look (.one 0) (.bool false) false (.t 44) (.t 45)), some (43, true)⟩,
    ⟨some 47, .un .not (.t 46), some (43, true)⟩,
    ⟨some 48, .pick (.t 43) (.t 47) (.c (.bool false)), none⟩])
  (.cond (.t 48)
   (.seq (.reg [⟨some 49, .mov (.t 6), none⟩,
     ⟨some 50, .mov (.t 8), none⟩,
     ⟨none, .ext (.mset (.one 0) (.t 49) (.t 50) (.c (.bool true))), none⟩])
   (.seq (.drw [⟨some 51, .fldA 2 (.t 1), none⟩,
     ⟨some 52, .load false 1 (.t 51), none⟩,
     ⟨some 53, .mov (.t 8), none⟩,
     ⟨some 54, .mov (.t 5), none⟩,
     ⟨some 55, .call (.c (.fn 40 [] [])) [(.t 54)], none⟩,
     ⟨some 56, .bin .sub false (.t 53) (.t 55), none⟩,
     ⟨some 57, .idxS 2 (.t 52) (.t 56), none⟩,
     ⟨some 58, .load true 2 (.t 57), none⟩,
     ⟨some 9, .alloc [(.int .i64 0), (.int .i64 0)], none⟩,
     ⟨none, .store 2 (.t 9) (.t 58), none⟩] [(1, 4), (1, 8), (7, 8)])
   (.reg [⟨some 59, .mov (.t 7), none⟩,
     ⟨some 60, .idxR 1 2 (.t 9) (.c (.int .i64 0)), none⟩,
     ⟨some 61, .load false 1 (.t 60), none⟩,
     ⟨some 62, .idxR 1 2 (.t 9) (.c (.int .i64 1)), none⟩,
     ⟨some 63, .load false 1 (.t 62), none⟩,
     ⟨some 64, .bslice 1 [(.t 61), (.t 63)], none⟩,
     ⟨some 65, .ext (.vapp 1 8 (.t 59) (.t 64)), none⟩,
     ⟨some 7, .mov (.t 65), none⟩])))
   (.skip))))))))))
 (.seq (.seq (.reg [⟨some 66, .fldA 2 (.t 1), none⟩,
   ⟨some 67, .load false 1 (.t 66), none⟩,
   ⟨some 68, .len (.t 67), none⟩,
   ⟨some 69, .mov (.c (.int .i64 0)), none⟩])
 (.block 2 (.loop (.seq (.reg [⟨some 70, .bin .lss false (.t 69) (.t 68), none⟩])
  (.seq (.cond (.t 70)
   (.skip)
   (.exit 2))
  (.seq (.block 3 (.seq (.reg [⟨some 71, .mov (.t 69), none⟩,
    ⟨some 72, .idxS 2 (.t 67) (.t 69), none⟩,
    ⟨some 73, .load true 2 (.t 72), none⟩,
    ⟨some 11, .alloc [(.int .i64 0), (.int .i64 0)], none⟩,
    ⟨some 10, .mov (.t 71), none⟩,
    ⟨none, .store 2 (.t 11) (.t 73), none⟩])
  (.seq (.reg [⟨some 74, .mov (.t 5), none⟩,
    ⟨some 75, .call (.c (.fn 40 [] [])) [(.t 74)], none⟩,
    ⟨some 76, .mov (.t 10), none⟩,
    ⟨some 77, .bin .add false (.t 75) (.t 76), none⟩,
    ⟨some 12, .mov (.t 77), none⟩])
  (.seq (.seq (.reg [⟨some 78, .mov (.t 6), none⟩,
    ⟨some 79, .mov (.t 12), none⟩,
    ⟨some 80, .ext (.look (.one 0) (.bool false) false (.t 78) (.t 79)), none⟩,
    ⟨some 81, .un .not (.t 80), none⟩])
  (.cond (.t 81)
   (.seq (.reg [⟨some 82, .mov (.t 5), none⟩,
     ⟨some 83, .mov (.t 5), none⟩,
     ⟨some 84, .nilchk (.t 83), none⟩,
     ⟨some 85, .fldA 8 (.t 84), none⟩,
     ⟨some 86, .load false 1 (.t 85), none⟩,
     ⟨some 87, .bslice 1 [(.c (.int .i64 0))], none⟩,
     ⟨some 88, .append 1 8 (.t 86) (.t 87), none⟩,
     ⟨some 89, .nilchk (.t 82), none⟩,
     ⟨some 90, .fldA 8 (.t 89), none⟩,
     ⟨none, .store 1 (.t 90) (.t 88), none⟩])
   (.exit 3))
   (.skip)))
  (.seq (.drw [⟨some 91, .mov (.t 5), none⟩,
    ⟨some 92, .mov (.t 5), none⟩,
    ⟨some 93, .nilchk (.t 92), none⟩,
    ⟨some 94, .fldA 8 (.t 93), none⟩,
    ⟨some 95, .load false 1 (.t 94), none⟩,
    ⟨some 96, .mov (.t 5), none⟩,
    ⟨some 97, .call (.c (.fn 40 [] [])) [(.t 96)], none⟩,
    ⟨some 98, .mov (.t 5), none⟩,
    ⟨some 99, .nilchk (.t 98), none⟩,
    ⟨some 100, .fldA 4 (.t 99), none⟩,
    ⟨some 101, .fldA 2 (.t 100), none⟩,
    ⟨some 102, .load false 1 (.t 101), none⟩,
    ⟨some 103, .len (.t 102), none⟩,
    ⟨some 104, .bin .add false (.t 97) (.t 103), none⟩,
    ⟨some 105, .bin .mul false (.c (.int .i64 2)) (.t 104), none⟩,
    ⟨some 106, .bslice 1 [(.t 105)], none⟩,
    ⟨some 107, .append 1 8 (.t 95) (.t 106), none⟩,
    ⟨some 108, .nilchk (.t 91), none⟩,
    ⟨some 109, .fldA 8 (.t 108), none⟩,
    ⟨none, .store 1 (.t 109) (.t 107), none⟩] [(4, 6), (6, 11)])
  (.drw [⟨some 110, .mov (.t 5), none⟩,
    ⟨some 111, .mov (.t 5), none⟩,
    ⟨some 112, .nilchk (.t 111), none⟩,
    ⟨some 113, .fldA 4 (.t 112), none⟩,
    ⟨some 114, .fldA 2 (.t 113), none⟩,
    ⟨some 115, .load false 1 (.t 114), none⟩,
    ⟨some 116, .mov (.t 5), none⟩,
    ⟨some 117, .idxR 1 2 (.t 11) (.c (.int .i64 0)), none⟩,
    ⟨some 118, .load false 1 (.t 117), none⟩,
    ⟨some 119, .call (.c (.fn 41 [] [])) [(.t 116), (.t 118)], none⟩,
    ⟨some 120, .mov (.t 5), none⟩,
    ⟨some 121, .idxR 1 2 (.t 11) (.c (.int .i64 1)), none⟩,
    ⟨some 122, .load false 1 (.t 121), none⟩,
    ⟨some 123, .call (.c (.fn 41 [] [])) [(.t 120), (.t 122)], none⟩,
    ⟨some 124, .build [(.int .i64 0), (.int .i64 0)] [(0, 1, (.t 119)), (1, 1, (.t 123))], none⟩,
    ⟨some 125, .bslice 2 [(.t 124)], none⟩,
    ⟨some 126, .append 2 16 (.t 115) (.t 125), none⟩,
    ⟨some 127, .nilchk (.t 110), none⟩,
    ⟨some 128, .fldA 4 (.t 127), none⟩,
    ⟨some 129, .fldA 2 (.t 128), none⟩,
    ⟨none, .store 1 (.t 129) (.t 126), none⟩] [(5, 9), (5, 13), (9, 12)]))))))
  (.reg [⟨some 130, .bin .add false (.t 69) (.c (.int .i64 1)), none⟩,
    ⟨some 69, .mov (.t 130), none⟩])))))))
 (.seq (.reg [⟨some 131, .mov (.t 5), none⟩,
   ⟨some 132, .call (.c (.fn 42 [] [])) [(.t 131), (.c .nilmap)], none⟩,
   ⟨none, .store 4 (.t 2) (.t 132), none⟩,
   ⟨some 3, .mov (.c (.int .i64 0)), none⟩])
 (.ret)))))))
def r15 : List ARV := [.cell 2 true 4, .tmp 3]
theorem b15 : Try.f15.body.bind (tr Try.prog 133) = some c15.bare := by kernel_rfl
theorem q15 : trRes Try.prog Try.f15.results.toList = some r15 := by kernel_rfl
theorem n15 : (Try.f15.name == "runtime.NumGoroutine") = false := by kernel_rfl

def c17 : ACode :=
 .seq (.reg [⟨some 1, .boxI (.t 0), none⟩,
   ⟨some 2, .alloc [(.int .i64 0), (.slice [] .nil), (.slice [] .nil), (.slice [] .nil)], none⟩,
   ⟨some 3, .mov (.c (.int .i64 0)), none⟩])
 (.seq (.seq (.reg [⟨some 5, .load true 4 (.t 1), none⟩,
   ⟨some 6, .call (.c (.fn 26 [] [])) [(.t 5)], none⟩,
   ⟨some 4, .mov (.t 6), none⟩])
 (.seq (.reg [⟨some 7, .mov (.t 4), none⟩,
   ⟨some 8, .bin .neq false (.t 7) (.c (.int .i64 0)), none⟩])
 (.cond (.t 8)
  (.seq (.reg [⟨some 9, .build [(.int .i64 0), (.slice [] .nil), (.slice [] .nil), (.slice [] .nil)] [], none⟩,
    ⟨some 10, .mov (.t 4), none⟩,
    ⟨none, .store 4 (.t 2) (.t 9), none⟩,
    ⟨some 3, .mov (.t 10), none⟩])
  (.ret))
  (.skip))))
 (.seq (.reg [⟨some 11, .load true 4 (.t 1), none⟩,
   ⟨some 12, .call (.c (.fn 48 [] [])) [(.t 11), (.c .nilmap)], none⟩,
   ⟨none, .store 4 (.t 2) (.t 12), none⟩,
   ⟨some 3, .mov (.c (.int .i64 0)), none⟩])
 (.ret)))
def r17 : List ARV := [.cell 2 true 4, .tmp 3]
theorem b17 : Try.f17.body.bind (tr Try.prog 13) = some c17.bare := by kernel_rfl
theorem q17 : trRes Try.prog Try.f17.results.toList = some r17 := by kernel_rfl
theorem n17 : (Try.f17.name == "runtime.NumGoroutine") = false := by kernel_rfl

def c20 : ACode :=
 .seq (.reg [⟨some 1, .boxI (.t 0), none⟩,
   ⟨some 2, .alloc [(.int .i64 0), (.slice [] .nil), (.slice [] .nil), (.slice [] .nil)], none⟩,
   ⟨some 3, .mov (.c (.int .i64 0)), none⟩])
 (.seq (.seq (.reg [⟨some 13, .load true 4 (.t 1), none⟩,
   ⟨some 14, .call (.c (.fn 26 [] [])) [(.t 13)], none⟩,
   ⟨some 4, .mov (.t 14), none⟩])
 (.seq (.reg [⟨some 15, .mov (.t 4), none⟩,
   ⟨some 16, .bin .neq false (.t 15) (.c (.int .i64 0)), none⟩])
 (.cond (.t 16)
  (.seq (.reg [⟨some 17, .build [(.int .i64 0), (.slice [] .nil), (.slice [] .nil), (.slice [] .nil)] [], none⟩,
    ⟨some 18, .mov (.t 4), none⟩,
    ⟨none, .store 4 (.t 2) (.t 17), none⟩,
    ⟨some 3, .mov (.t 18), none⟩])
  (.ret))
  (.skip))))
 (.seq (.reg [⟨some 19, .load true 4 (.t 1), none⟩,
   ⟨some 20, .call (.c (.fn 38 [] [])) [(.t 19), (.c .nilmap)], none⟩,
   ⟨some 5, .mov (.t 20), none⟩])
 (.seq (.reg [⟨some 21, .mov (.t 5), none⟩,
   ⟨some 22, .call (.c (.fn 51 [] [])) [(.t 21)], none⟩,
   ⟨some 6, .mov (.t 22), none⟩])
 (.seq (.seq (.reg [⟨some 23, .fldA 2 (.t 1), none⟩,
   ⟨some 24, .load false 1 (.t 23), none⟩,
   ⟨some 25, .len (.t 24), none⟩,
   ⟨some 26, .mov (.c (.int .i64 0)), none⟩])
 (.block 0 (.loop (.seq (.reg [⟨some 27, .bin .lss false (.t 26) (.t 25), none⟩])
  (.seq (.cond (.t 27)
   (.skip)
   (.exit 0))
  (.seq (.block 1 (.seq (.reg [⟨some 28, .mov (.t 26), none⟩,
    ⟨some 29, .idxS 2 (.t 24) (.t 26), none⟩,
    ⟨some 30, .load true 2 (.t 29), none⟩,
    ⟨some 8, .alloc [(.int .i64 0), (.int .i64 0)], none⟩,
    ⟨some 7, .mov (.t 28), none⟩,
    ⟨none, .store 2 (.t 8) (.t 30), none⟩])
  (.seq (.seq (.reg [⟨some 31, .mov (.t 6), none⟩,
    ⟨some 32, .mov (.t 5), none⟩,
    ⟨some 33, .call (.c (.fn 40 [] [])) [(.t 32)], none⟩,
    ⟨some 34, .mov (.t 7), none⟩,
    ⟨some 35, .bin .add false (.t 33) (.t 34), none⟩,
    ⟨some 36, .ext (.look (.one 0) (.bool false) false (.t 31) (.t 35)), none⟩])
  (.cond (.t 36)
   (.seq (.reg [⟨some 37, .mov (.t 5), none⟩,
     ⟨some 38, .mov (.t 5), none⟩,
     ⟨some 39, .nilchk (.t 38), none⟩,
     ⟨some 40, .fldA 8 (.t 39), none⟩,
     ⟨some 41, .load false 1 (.t 40), none⟩,
     ⟨some 42, .bslice 1 [(.c (.int .i64 0))], none⟩,
     ⟨some 43, .append 1 8 (.t 41) (.t 42), none⟩,
     ⟨some 44, .nilchk (.t 37), none⟩,
     ⟨some 45, .fldA 8 (.t 44), none⟩,
     ⟨none, .store 1 (.t 45) (.t 43), none⟩])
   (.exit 1))
   (.skip)))
  (.seq (.reg [⟨some 9, .ext (.retok 1 (.c (.slice [] .nil))), none⟩])
  (.seq (.reg [⟨some 46, .idxR 1 2 (.t 8) (.c (.int .i64 1)), none⟩,
    ⟨some 47, .load false 1 (.t 46), none⟩,
    ⟨some 48, .idxR 1 2 (.t 8) (.c (.int .i64 0)), none⟩,
    ⟨some 49, .load false 1 (.t 48), none⟩,
    ⟨some 50, .ext (.bsliceV 1 [(.t 47), (.t 49)]), none⟩,
    ⟨some 10, .mov (.t 50), none⟩])
  (.seq (.block 2 (.loop (.seq (.seq (.reg [⟨some 51, .mov (.t 10), none⟩,
     ⟨some 52, .len (.t 51), none⟩,
     ⟨some 53, .bin .gtr false (.t 52) (.c (.int .i64 0)), none⟩])
   (.cond (.t 53)
    (.skip)
    (.exit 2)))
   (.block 3 (.seq (.reg [⟨some 54, .mov (.t 10), none⟩,
     ⟨some 55, .mov (.t 10), none⟩,
     ⟨some 56, .len (.t 55), none⟩,
     ⟨some 57, .bin .sub false (.t 56) (.c (.int .i64 1)), none⟩,
     ⟨some 58, .idxS 1 (.t 54) (.t 57), none⟩,
     ⟨some 59, .load false 1 (.t 58), none⟩,
     ⟨some 11, .mov (.t 59), none⟩])
   (.seq (.reg [⟨some 60, .mov (.t 10), none⟩,
     ⟨some 61, .mov (.t 10), none⟩,
     ⟨some 62, .len (.t 61), none⟩,
     ⟨some 63, .bin .sub false (.t 62) (.c (.int .i64 1)), none⟩,
     ⟨some 64, .slc 1 (.t 60) none (some (.t 63)) none, none⟩,
     ⟨some 10, .mov (.t 64), none⟩])
   (.seq (.seq (.reg [⟨some 65, .mov (.t 11), none⟩,
     ⟨some 66, .bin .and false (.t 65) (.c (.int .i64 1)), none⟩,
     ⟨some 67, .bin .eql false (.t 66) (.c (.int .i64 0)), none⟩,
     ⟨some 68, .mov (.t 67), none⟩,
     ⟨some 69, .mov (.t 6), some (68, true)⟩,
     ⟨some 70, .mov (.t 11), some (68, true)⟩,
     ⟨some 71, .bin .quo false (.t 70) (.c (.int .i64 2)), some (68, true)⟩,
     ⟨some 72, .ext (.look (.one 0) (.bool false) false (.t 69) (.t 71)), some (68, true)⟩,
     ⟨some 73, .pick (.t 68) (.t 72) (.c (.bool false)), none⟩])
   (.cond (.t 73)
    (.seq (.drw [⟨some 74, .fldA 2 (.t 1), none⟩,
      ⟨some 75, .load false 1 (.t 74), none⟩,
      ⟨some 76, .mov (.t 11), none⟩,
      ⟨some 77, .bin .quo false (.t 76) (.c (.int .i64 2)), none⟩,
      ⟨some 78, .mov (.t 5), none⟩,
      ⟨some 79, .call (.c (.fn 40 [] [])) [(.t 78)], none⟩,
      ⟨some 80, .bin .sub false (.t 77) (.t 79), none⟩,
      ⟨some 81, .idxS 2 (.t 75) (.t 80), none⟩,
      ⟨some 82, .load true 2 (.t 81), none⟩,
      ⟨some 12, .alloc [(.int .i64 0), (.int .i64 0)], none⟩,
      ⟨none, .store 2 (.t 12) (.t 82), none⟩] [(1, 5), (1, 9), (8, 9)])
    (.seq (.reg [⟨some 83, .mov (.t 10), none⟩,
      ⟨some 84, .idxR 1 2 (.t 12) (.c (.int .i64 1)), none⟩,
      ⟨some 85, .load false 1 (.t 84), none⟩,
      ⟨some 86, .idxR 1 2 (.t 12) (.c (.int .i64 0)), none⟩,
      ⟨some 87, .load false 1 (.t 86), none⟩,
      ⟨some 88, .bslice 1 [(.t 85), (.t 87)], none⟩,
      ⟨some 89, .ext (.vapp 1 8 (.t 83) (.t 88)), none⟩,
      ⟨some 10, .mov (.t 89), none⟩])
    (.exit 3)))
    (.skip)))
   (.reg [⟨some 90, .mov (.t 9), none⟩,
     ⟨some 91, .mov (.t 5), none⟩,
     ⟨some 92, .mov (.t 11), none⟩,
     ⟨some 93, .call (.c (.fn 41 [] [])) [(.t 91), (.t 92)], none⟩,
     ⟨some 94, .bslice 1 [(.t 93)], none⟩,
     ⟨some 95, .append 1 8 (.t 90) (.t 94), none⟩,
     ⟨some 9, .mov (.t 95), none⟩]))))))))
  (.drw [⟨some 96, .mov (.t 5), none⟩,
    ⟨some 97, .mov (.t 5), none⟩,
    ⟨some 98, .nilchk (.t 97), none⟩,
    ⟨some 99, .fldA 8 (.t 98), none⟩,
    ⟨some 100, .load false 1 (.t 99), none⟩,
    ⟨some 101, .mov (.t 5), none⟩,
    ⟨some 102, .mov (.t 9), none⟩,
    ⟨some 103, .call (.c (.fn 52 [] [])) [(.t 101), (.t 102)], none⟩,
    ⟨some 104, .bslice 1 [(.t 103)], none⟩,
    ⟨some 105, .append 1 8 (.t 100) (.t 104), none⟩,
    ⟨some 106, .nilchk (.t 96), none⟩,
    ⟨some 107, .fldA 8 (.t 106), none⟩,
    ⟨none, .store 1 (.t 107) (.t 105), none⟩] [(4, 7)])))))))
  (.reg [⟨some 108, .bin .add false (.t 26) (.c (.int .i64 1)), none⟩,
    ⟨some 26, .mov (.t 108), none⟩])))))))
 (.seq (.reg [⟨some 109, .mov (.t 5), none⟩,
   ⟨some 110, .call (.c (.fn 42 [] [])) [(.t 109), (.c .nilmap)], none⟩,
   ⟨none, .store 4 (.t 2) (.t 110), none⟩,
   ⟨some 3, .mov (.c (.int .i64 0)), none⟩])
 (.ret))))))
def r20 : List ARV := [.cell 2 true 4, .tmp 3]
theorem b20 : Try.f20.body.bind (tr Try.prog 111) = some c20.bare := by kernel_rfl
theorem q20 : trRes Try.prog Try.f20.results.toList = some r20 := by kernel_rfl
theorem n20 : (Try.f20.name == "runtime.NumGoroutine") = false := by kernel_rfl

def c22 : ACode :=
 .seq (.reg [⟨some 1, .boxI (.t 0), none⟩,
   ⟨some 2, .alloc [(.int .i64 0), (.slice [] .nil), (.slice [] .nil), (.slice [] .nil)], none⟩,
   ⟨some 3, .mov (.c (.int .i64 0)), none⟩])
 (.seq (.seq (.reg [⟨some 5, .load true 4 (.t 1), none⟩,
   ⟨some 6, .call (.c (.fn 26 [] [])) [(.t 5)], none⟩,
   ⟨some 4, .mov (.t 6), none⟩])
 (.seq (.reg [⟨some 7, .mov (.t 4), none⟩,
   ⟨some 8, .bin .neq false (.t 7) (.c (.int .i64 0)), none⟩])
 (.cond (.t 8)
  (.seq (.reg [⟨some 9, .build [(.int .i64 0), (.slice [] .nil), (.slice [] .nil), (.slice [] .nil)] [], none⟩,
    ⟨some 10, .mov (.t 4), none⟩,
    ⟨none, .store 4 (.t 2) (.t 9), none⟩,
    ⟨some 3, .mov (.t 10), none⟩])
  (.ret))
  (.skip))))
 (.seq (.drw [⟨some 11, .load true 4 (.t 1), none⟩,
   ⟨some 12, .load true 4 (.t 1), none⟩,
   ⟨some 13, .call (.c (.fn 56 [] [])) [(.t 12)], none⟩,
   ⟨some 14, .call (.c (.fn 48 [] [])) [(.t 11), (.t 13)], none⟩,
   ⟨none, .store 4 (.t 2) (.t 14), none⟩,
   ⟨some 3, .mov (.c (.int .i64 0)), none⟩] [(0, 2)])
 (.ret)))
def r22 : List ARV := [.cell 2 true 4, .tmp 3]
theorem b22 : Try.f22.body.bind (tr Try.prog 15) = some c22.bare := by kernel_rfl
theorem q22 : trRes Try.prog Try.f22.results.toList = some r22 := by kernel_rfl
theorem n22 : (Try.f22.name == "runtime.NumGoroutine") = false := by kernel_rfl

def c24 : ACode :=
 .seq (.reg [⟨some 1, .box (.t 0), none⟩,
   ⟨some 2, .alloc [(.int .i64 0), (.slice [] .nil), (.slice [] .nil), (.slice [] .nil)], none⟩,
   ⟨some 3, .mov (.c (.int .i64 0)), none⟩])
 (.seq (.seq (.reg [⟨some 8, .bslice 1 [(.c (.fn 17 [] [])), (.c (.fn 22 [] [])), (.c (.fn 20 [] [])), (.c (.fn 15 [] []))], none⟩,
   ⟨some 9, .len (.t 8), none⟩,
   ⟨some 10, .mov (.c (.int .i64 0)), none⟩])
 (.block 0 (.loop (.seq (.reg [⟨some 11, .bin .lss false (.t 10) (.t 9), none⟩])
  (.seq (.cond (.t 11)
   (.skip)
   (.exit 0))
  (.seq (.block 1 (.seq (.reg [⟨some 12, .idxS 1 (.t 8) (.t 10), none⟩,
    ⟨some 13, .load false 1 (.t 12), none⟩,
    ⟨some 5, .mov (.t 13), none⟩])
  (.seq (.reg [⟨some 15, .mov (.t 5), none⟩,
    ⟨some 16, .load true 4 (.t 1), none⟩,
    ⟨some 17, .call (.t 15) [(.t 16)], none⟩,
    ⟨some 14, .mov (.t 17), none⟩,
    ⟨some 18, .extract (.t 14) 0, none⟩,
    ⟨some 19, .extract (.t 14) 1, none⟩,
    ⟨some 6, .alloc [(.int .i64 0), (.slice [] .nil), (.slice [] .nil), (.slice [] .nil)], none⟩,
    ⟨none, .store 4 (.t 6) (.t 18), none⟩,
    ⟨some 7, .mov (.t 19), none⟩])
  (.seq (.seq (.reg [⟨some 20, .mov (.t 7), none⟩,
    ⟨some 21, .bin .neq false (.t 20) (.c (.int .i64 0)), none⟩])
  (.cond (.t 21)
   (.seq (.reg [⟨some 22, .build [(.int .i64 0), (.slice [] .nil), (.slice [] .nil), (.slice [] .nil)] [], none⟩,
     ⟨some 23, .mov (.t 7), none⟩,
     ⟨none, .store 4 (.t 2) (.t 22), none⟩,
     ⟨some 3, .mov (.t 23), none⟩])
   (.ret))
   (.skip)))
  (.reg [⟨some 24, .load true 4 (.t 6), none⟩,
    ⟨none, .store 4 (.t 1) (.t 24), none⟩])))))
  (.reg [⟨some 25, .bin .add false (.t 10) (.c (.int .i64 1)), none⟩,
    ⟨some 10, .mov (.t 25), none⟩])))))))
 (.seq (.reg [⟨some 26, .load true 4 (.t 1), none⟩,
   ⟨none, .store 4 (.t 2) (.t 26), none⟩,
   ⟨some 3, .mov (.c (.int .i64 0)), none⟩])
 (.ret)))
def r24 : List ARV := [.cell 2 true 4, .tmp 3]
theorem b24 : Try.f24.body.bind (tr Try.prog 27) = some c24.bare := by kernel_rfl
theorem q24 : trRes Try.prog Try.f24.results.toList = some r24 := by kernel_rfl
theorem n24 : (Try.f24.name == "runtime.NumGoroutine") = false := by kernel_rfl

def c26 : ACode :=
 .seq (.reg [⟨some 1, .boxI (.t 0), none⟩,
   ⟨some 2, .mov (.c (.int .i64 0)), none⟩])
 (.seq (.reg [⟨some 3, .load true 4 (.t 1), none⟩,
   ⟨some 4, .call (.c (.fn 59 [] [])) [(.t 3), (.c (.slice [] .nil))], none⟩,
   ⟨some 5, .nilchk (.t 4), none⟩,
   ⟨some 6, .fldA 4 (.t 5), none⟩,
   ⟨some 7, .load false 1 (.t 6), none⟩,
   ⟨some 2, .mov (.t 7), none⟩])
 (.ret))
def r26 : List ARV := [.tmp 2]
theorem b26 : Try.f26.body.bind (tr Try.prog 8) = some c26.bare := by kernel_rfl
theorem q26 : trRes Try.prog Try.f26.results.toList = some r26 := by kernel_rfl
theorem n26 : (Try.f26.name == "runtime.NumGoroutine") = false := by kernel_rfl

def c30 : ACode :=
 .seq (.reg [⟨some 3, .boxI (.t 0), none⟩,
   ⟨some 6, .mov (.c (.slice [] .nil)), none⟩,
   ⟨some 7, .mov (.c (.slice [] .nil)), none⟩,
   ⟨some 8, .mov (.c (.int .i64 0)), none⟩])
 (.seq (.reg [⟨some 15, .load true 4 (.t 3), none⟩,
   ⟨some 16, .mov (.t 1), none⟩,
   ⟨some 17, .mov (.t 2), none⟩,
   ⟨some 18, .call (.c (.fn 63 [] [])) [(.t 15), (.t 16), (.t 17)], none⟩,
   ⟨some 14, .mov (.t 18), none⟩,
   ⟨some 19, .extract (.t 14) 0, none⟩,
   ⟨some 20, .extract (.t 14) 1, none⟩,
   ⟨some 9, .mov (.t 19), none⟩,
   ⟨some 8, .mov (.t 20), none⟩])
 (.seq (.seq (.reg [⟨some 21, .mov (.t 8), none⟩,
   ⟨some 22, .bin .neq false (.t 21) (.c (.int .i64 0)), none⟩])
 (.cond (.t 22)
  (.seq (.reg [⟨some 23, .mov (.t 8), none⟩,
    ⟨some 6, .mov (.c (.slice [] .nil)), none⟩,
    ⟨some 7, .mov (.c (.slice [] .nil)), none⟩,
    ⟨some 8, .mov (.t 23), none⟩])
  (.ret))
  (.skip)))
 (.seq (.seq (.reg [⟨some 24, .fldA 3 (.t 3), none⟩,
   ⟨some 25, .load false 1 (.t 24), none⟩,
   ⟨some 26, .len (.t 25), none⟩,
   ⟨some 27, .mov (.c (.int .i64 0)), none⟩])
 (.block 0 (.loop (.seq (.reg [⟨some 28, .bin .lss false (.t 27) (.t 26), none⟩])
  (.seq (.cond (.t 28)
   (.skip)
   (.exit 0))
  (.seq (.block 1 (.seq (.reg [⟨some 29, .idxS 1 (.t 25) (.t 27), none⟩,
    ⟨some 30, .load false 1 (.t 29), none⟩,
    ⟨some 11, .mov (.t 30), none⟩])
  (.reg [⟨some 31, .mov (.t 6), none⟩,
    ⟨some 32, .mov (.t 9), none⟩,
    ⟨some 33, .mov (.t 11), none⟩,
    ⟨some 34, .call (.c (.fn 64 [] [])) [(.t 32), (.t 33)], none⟩,
    ⟨some 35, .bslice 1 [(.t 34)], none⟩,
    ⟨some 36, .append 1 1 (.t 31) (.t 35), none⟩,
    ⟨some 6, .mov (.t 36), none⟩])))
  (.reg [⟨some 37, .bin .add false (.t 27) (.c (.int .i64 1)), none⟩,
    ⟨some 27, .mov (.t 37), none⟩])))))))
 (.seq (.seq (.reg [⟨some 38, .fldA 1 (.t 3), none⟩,
   ⟨some 39, .load false 1 (.t 38), none⟩,
   ⟨some 40, .len (.t 39), none⟩,
   ⟨some 41, .mov (.c (.int .i64 0)), none⟩])
 (.block 2 (.loop (.seq (.reg [⟨some 42, .bin .lss false (.t 41) (.t 40), none⟩])
  (.seq (.cond (.t 42)
   (.skip)
   (.exit 2))
  (.seq (.block 3 (.seq (.reg [⟨some 43, .idxS 2 (.t 39) (.t 41), none⟩,
    ⟨some 44, .load true 2 (.t 43), none⟩,
    ⟨some 13, .alloc [(.int .i64 0), (.bool false)], none⟩,
    ⟨none, .store 2 (.t 13) (.t 44), none⟩])
  (.reg [⟨some 45, .mov (.t 7), none⟩,
    ⟨some 46, .mov (.t 9), none⟩,
    ⟨some 47, .fldA 0 (.t 13), none⟩,
    ⟨some 48, .load false 1 (.t 47), none⟩,
    ⟨some 49, .call (.c (.fn 64 [] [])) [(.t 46), (.t 48)], none⟩,
    ⟨some 50, .bslice 1 [(.t 49)], none⟩,
    ⟨some 51, .append 1 1 (.t 45) (.t 50), none⟩,
    ⟨some 7, .mov (.t 51), none⟩])))
  (.reg [⟨some 52, .bin .add false (.t 41) (.c (.int .i64 1)), none⟩,
    ⟨some 41, .mov (.t 52), none⟩])))))))
 (.seq (.reg [⟨some 53, .mov (.t 6), none⟩,
   ⟨some 54, .mov (.t 7), none⟩,
   ⟨some 6, .mov (.t 53), none⟩,
   ⟨some 7, .mov (.t 54), none⟩,
   ⟨some 8, .mov (.c (.int .i64 0)), none⟩])
 (.ret))))))
def r30 : List ARV := [.tmp 6, .tmp 7, .tmp 8]
theorem b30 : Try.f30.body.bind (tr Try.prog 55) = some c30.bare := by kernel_rfl
theorem q30 : trRes Try.prog Try.f30.results.toList = some r30 := by kernel_rfl
theorem n30 : (Try.f30.name == "runtime.NumGoroutine") = false := by kernel_rfl

def c31 : ACode :=
 .seq (.reg [⟨some 6, .boxI (.t 0), none⟩,
   ⟨some 7, .boxI (.t 1), none⟩,
   ⟨some 12, .mov (.c (.bool false)), none⟩])
 (.seq (.reg [⟨some 17, .load true 4 (.t 7), none⟩,
   ⟨some 18, .mov (.t 2), none⟩,
   ⟨some 19, .mov (.t 3), none⟩,
   ⟨some 20, .call (.c (.fn 30 [] [])) [(.t 17), (.t 18), (.t 19)], none⟩,
   ⟨some 16, .mov (.t 20), none⟩,
   ⟨some 21, .extract (.t 16) 0, none⟩,
   ⟨some 22, .extract (.t 16) 1, none⟩,
   ⟨some 23, .extract (.t 16) 2, none⟩,
   ⟨some 13, .mov (.t 21), none⟩,
   ⟨some 14, .mov (.t 22), none⟩,
   ⟨some 15, .mov (.t 23), none⟩])
 (.seq (.drw [⟨some 24, .mov (.t 15), none⟩,
   ⟨some 25, .bin .eql false (.t 24) (.c (.int .i64 0)), none⟩,
   ⟨some 26, .mov (.t 25), none⟩,
   ⟨some 27, .fldA 0 (.t 6), some (26, true)⟩,
   ⟨some 28, .load false 1 (.t 27), some (26, true)⟩,
   ⟨some 29, .fldA 0 (.t 7), some (26, true)⟩,
   ⟨some 30, .load false 1 (.t 29), some (26, true)⟩,
   ⟨some 31, .bin .eql false (.t 28) (.t 30), some (26, true)⟩,
   ⟨some 32, .pick (.t 26) (.t 31) (.c (.bool false)), none⟩,
   ⟨some 33, .mov (.t 32), none⟩,
   ⟨some 34, .load true 4 (.t 6), some (33, true)⟩,
   ⟨some 35, .call (.c (.fn 34 [] [])) [(.t 34)], some (33, true)⟩,
   ⟨some 36, .load true 4 (.t 7), some (33, true)⟩,
   ⟨some 37, .call (.c (.fn 34 [] [])) [(.t 36)], some (33, true)⟩,
   ⟨some 38, .call (.c (.fn 35 [] [])) [(.t 35), (.t 37)], some (33, true)⟩,
   ⟨some 39, .pick (.t 33) (.t 38) (.c (.bool false)), none⟩,
   ⟨some 40, .mov (.t 39), none⟩,
   ⟨some 41, .mov (.t 13), some (40, true)⟩,
   ⟨some 42, .mov (.t 4), some (40, true)⟩,
   ⟨some 43, .call (.c (.fn 35 [] [])) [(.t 41), (.t 42)], some (40, true)⟩,
   ⟨some 44, .pick (.t 40) (.t 43) (.c (.bool false)), none⟩,
   ⟨some 45, .mov (.t 44), none⟩,
   ⟨some 46, .mov (.t 14), some (45, true)⟩,
   ⟨some 47, .mov (.t 5), some (45, true)⟩,
   ⟨some 48, .call (.c (.fn 35 [] [])) [(.t 46), (.t 47)], some (45, true)⟩,
   ⟨some 49, .pick (.t 45) (.t 48) (.c (.bool false)), none⟩,
   ⟨some 12, .mov (.t 49), none⟩] [(11, 12)])
 (.ret)))
def r31 : List ARV := [.tmp 12]
theorem b31 : Try.f31.body.bind (tr Try.prog 50) = some c31.bare := by kernel_rfl
theorem q31 : trRes Try.prog Try.f31.results.toList = some r31 := by kernel_rfl
theorem n31 : (Try.f31.name == "runtime.NumGoroutine") = false := by kernel_rfl

def c34 : ACode :=
 .seq (.reg [⟨some 1, .boxI (.t 0), none⟩,
   ⟨some 2, .mov (.c (.slice [] .nil)), none⟩])
 (.seq (.reg [⟨some 3, .mov (.c (.slice [] .nil)), none⟩])
 (.seq (.seq (.reg [⟨some 4, .mov (.c (.int .i64 0)), none⟩])
 (.block 0 (.loop (.seq (.seq (.reg [⟨some 5, .mov (.t 4), none⟩,
    ⟨some 6, .fldA 1 (.t 1), none⟩,
    ⟨some 7, .load false 1 (.t 6), none⟩,
    ⟨some 8, .len (.t 7), none⟩,
    ⟨some 9, .bin .lss false (.t 5) (.t 8), none⟩])
  (.cond (.t 9)
   (.skip)
   (.exit 0)))
  (.seq (.block 1 (.reg [⟨some 12, .mov (.t 3), none⟩,
    ⟨some 13, .fldA 1 (.t 1), none⟩,
    ⟨some 14, .load false 1 (.t 13), none⟩,
    ⟨some 15, .mov (.t 4), none⟩,
    ⟨some 16, .idxS 2 (.t 14) (.t 15), none⟩,
    ⟨some 17, .fldA 1 (.t 16), none⟩,
    ⟨some 18, .load false 1 (.t 17), none⟩,
    ⟨some 19, .bslice 1 [(.t 18)], none⟩,
    ⟨some 20, .append 1 1 (.t 12) (.t 19), none⟩,
    ⟨some 3, .mov (.t 20), none⟩]))
  (.reg [⟨some 10, .mov (.t 4), none⟩,
    ⟨some 11, .bin .add false (.t 10) (.c (.int .i64 1)), none⟩,
    ⟨some 4, .mov (.t 11), none⟩]))))))
 (.seq (.reg [⟨some 21, .mov (.t 3), none⟩,
   ⟨some 2, .mov (.t 21), none⟩])
 (.ret))))
def r34 : List ARV := [.tmp 2]
theorem b34 : Try.f34.body.bind (tr Try.prog 22) = some c34.bare := by kernel_rfl
theorem q34 : trRes Try.prog Try.f34.results.toList = some r34 := by kernel_rfl
theorem n34 : (Try.f34.name == "runtime.NumGoroutine") = false := by kernel_rfl

def c35 : ACode :=
 .seq (.reg [⟨some 4, .mov (.c (.bool false)), none⟩])
 (.seq (.seq (.reg [⟨some 6, .mov (.t 0), none⟩,
   ⟨some 7, .len (.t 6), none⟩,
   ⟨some 8, .mov (.t 1), none⟩,
   ⟨some 9, .len (.t 8), none⟩,
   ⟨some 10, .bin .neq false (.t 7) (.t 9), none⟩])
 (.cond (.t 10)
  (.seq (.reg [⟨some 4, .mov (.c (.bool false)), none⟩])
  (.ret))
  (.skip)))
 (.seq (.seq (.reg [⟨some 5, .mov (.c (.int .i64 0)), none⟩])
 (.block 0 (.loop (.seq (.seq (.reg [⟨some 11, .mov (.t 5), none⟩,
    ⟨some 12, .mov (.t 0), none⟩,
    ⟨some 13, .len (.t 12), none⟩,
    ⟨some 14, .bin .lss false (.t 11) (.t 13), none⟩])
  (.cond (.t 14)
   (.skip)
   (.exit 0)))
  (.seq (.block 1 (.seq (.drw [⟨some 17, .mov (.t 0), none⟩,
    ⟨some 18, .mov (.t 5), none⟩,
    ⟨some 19, .idxS 1 (.t 17) (.t 18), none⟩,
    ⟨some 20, .load false 1 (.t 19), none⟩,
    ⟨some 21, .mov (.t 1), none⟩,
    ⟨some 22, .mov (.t 5), none⟩,
    ⟨some 23, .idxS 1 (.t 21) (.t 22), none⟩,
    ⟨some 24, .load false 1 (.t 23), none⟩,
    ⟨some 25, .bin .neq true (.t 20) (.t 24), none⟩] [])
  (.cond (.t 25)
   (.seq (.reg [⟨some 4, .mov (.c (.bool false)), none⟩])
   (.ret))
   (.skip))))
  (.reg [⟨some 15, .mov (.t 5), none⟩,
    ⟨some 16, .bin .add false (.t 15) (.c (.int .i64 1)), none⟩,
    ⟨some 5, .mov (.t 16), none⟩]))))))
 (.seq (.reg [⟨some 4, .mov (.c (.bool true)), none⟩])
 (.ret))))
def r35 : List ARV := [.tmp 4]
theorem b35 : Try.f35.body.bind (tr Try.prog 26) = some c35.bare := by kernel_rfl
theorem q35 : trRes Try.prog Try.f35.results.toList = some r35 := by kernel_rfl
theorem n35 : (Try.f35.name == "runtime.NumGoroutine") = false := by kernel_rfl

def c36 : ACode :=
 .seq (.reg [⟨some 2, .boxI (.t 0), none⟩,
   ⟨some 4, .mov (.c (.slice [] .nil)), none⟩,
   ⟨some 5, .mov (.c (.int .i64 0)), none⟩])
 (.seq (.seq (.reg [⟨some 16, .load true 4 (.t 2), none⟩,
   ⟨some 17, .call (.c (.fn 26 [] [])) [(.t 16)], none⟩,
   ⟨some 6, .mov (.t 17), none⟩])
 (.seq (.reg [⟨some 18, .mov (.t 6), none⟩,
   ⟨some 19, .bin .neq false (.t 18) (.c (.int .i64 0)), none⟩])
 (.cond (.t 19)
  (.seq (.reg [⟨some 20, .mov (.t 6), none⟩,
    ⟨some 4, .mov (.c (.slice [] .nil)), none⟩,
    ⟨some 5, .mov (.t 20), none⟩])
  (.ret))
  (.skip))))
 (.seq (.reg [⟨some 7, .mov (.c (.slice [] .nil)), none⟩])
 (.seq (.reg [⟨some 8, .mov (.c (.slice [] .nil)), none⟩])
 (.seq (.seq (.reg [⟨some 21, .fldA 1 (.t 2), none⟩,
   ⟨some 22, .load false 1 (.t 21), none⟩,
   ⟨some 23, .len (.t 22), none⟩,
   ⟨some 24, .mov (.c (.int .i64 0)), none⟩])
 (.block 0 (.loop (.seq (.reg [⟨some 25, .bin .lss false (.t 24) (.t 23), none⟩])
  (.seq (.cond (.t 25)
   (.skip)
   (.exit 0))
  (.seq (.block 1 (.seq (.reg [⟨some 26, .idxS 2 (.t 22) (.t 24), none⟩,
    ⟨some 27, .load true 2 (.t 26), none⟩,
    ⟨some 10, .alloc [(.int .i64 0), (.bool false)], none⟩,
    ⟨none, .store 2 (.t 10) (.t 27), none⟩])
  (.reg [⟨some 28, .mov (.t 8), none⟩,
    ⟨some 29, .fldA 1 (.t 10), none⟩,
    ⟨some 30, .load false 1 (.t 29), none⟩,
    ⟨some 31, .bslice 1 [(.t 30)], none⟩,
    ⟨some 32, .append 1 1 (.t 28) (.t 31), none⟩,
    ⟨some 8, .mov (.t 32), none⟩])))
  (.reg [⟨some 33, .bin .add false (.t 24) (.c (.int .i64 1)), none⟩,
    ⟨some 24, .mov (.t 33), none⟩])))))))
 (.seq (.seq (.reg [⟨some 34, .mov (.t 1), none⟩,
   ⟨some 35, .len (.t 34), none⟩,
   ⟨some 36, .mov (.c (.int .i64 0)), none⟩])
 (.block 2 (.loop (.seq (.reg [⟨some 37, .bin .lss false (.t 36) (.t 35), none⟩])
  (.seq (.cond (.t 37)
   (.skip)
   (.exit 2))
  (.seq (.block 3 (.seq (.reg [⟨some 38, .idxS 1 (.t 34) (.t 36), none⟩,
    ⟨some 39, .load false 1 (.t 38), none⟩,
    ⟨some 12, .mov (.t 39), none⟩])
  (.seq (.reg [⟨some 41, .load true 4 (.t 2), none⟩,
    ⟨some 42, .mov (.t 12), none⟩,
    ⟨some 43, .mov (.t 8), none⟩,
    ⟨some 44, .call (.c (.fn 30 [] [])) [(.t 41), (.t 42), (.t 43)], none⟩,
    ⟨some 40, .mov (.t 44), none⟩,
    ⟨some 45, .extract (.t 40) 0, none⟩,
    ⟨some 46, .extract (.t 40) 1, none⟩,
    ⟨some 47, .extract (.t 40) 2, none⟩,
    ⟨some 13, .mov (.t 45), none⟩,
    ⟨some 14, .mov (.t 46), none⟩,
    ⟨some 15, .mov (.t 47), none⟩])
  (.seq (.seq (.reg [⟨some 48, .mov (.t 15), none⟩,
    ⟨some 49, .bin .neq false (.t 48) (.c (.int .i64 0)), none⟩])
  (.cond (.t 49)
   (.seq (.reg [⟨some 50, .mov (.t 15), none⟩,
     ⟨some 4, .mov (.c (.slice [] .nil)), none⟩,
     ⟨some 5, .mov (.t 50), none⟩])
   (.ret))
   (.skip)))
  (.reg [⟨some 51, .mov (.t 7), none⟩,
    ⟨some 52, .mov (.t 13), none⟩,
    ⟨some 53, .bslice 1 [(.t 52)], none⟩,
    ⟨some 54, .append 1 24 (.t 51) (.t 53), none⟩,
    ⟨some 55, .mov (.t 14), none⟩,
    ⟨some 7, .mov (.t 54), none⟩,
    ⟨some 8, .mov (.t 55), none⟩])))))
  (.reg [⟨some 56, .bin .add false (.t 36) (.c (.int .i64 1)), none⟩,
    ⟨some 36, .mov (.t 56), none⟩])))))))
 (.seq (.reg [⟨some 57, .mov (.t 7), none⟩,
   ⟨some 4, .mov (.t 57), none⟩,
   ⟨some 5, .mov (.c (.int .i64 0)), none⟩])
 (.ret)))))))
def r36 : List ARV := [.tmp 4, .tmp 5]
theorem b36 : Try.f36.body.bind (tr Try.prog 58) = some c36.bare := by kernel_rfl
theorem q36 : trRes Try.prog Try.f36.results.toList = some r36 := by kernel_rfl
theorem n36 : (Try.f36.name == "runtime.NumGoroutine") = false := by kernel_rfl

def c37 : ACode :=
 .seq (.reg [⟨some 5, .boxI (.t 1), none⟩,
   ⟨some 8, .mov (.c (.bool false)), none⟩])
 (.seq (.reg [⟨some 12, .load true 4 (.t 5), none⟩,
   ⟨some 13, .mov (.t 3), none⟩,
   ⟨some 14, .call (.c (.fn 36 [] [])) [(.t 12), (.t 13)], none⟩,
   ⟨some 11, .mov (.t 14), none⟩,
   ⟨some 15, .extract (.t 11) 0, none⟩,
   ⟨some 16, .extract (.t 11) 1, none⟩,
   ⟨some 9, .mov (.t 15), none⟩,
   ⟨some 10, .mov (.t 16), none⟩])
 (.seq (.reg [⟨some 17, .mov (.t 2), none⟩,
   ⟨some 18, .bin .eql false (.t 17) (.c (.int .i64 0)), none⟩,
   ⟨some 19, .mov (.t 18), none⟩,
   ⟨some 20, .mov (.t 10), some (19, true)⟩,
   ⟨some 21, .bin .eql false (.t 20) (.c (.int .i64 0)), some (19, true)⟩,
   ⟨some 22, .pick (.t 19) (.t 21) (.c (.bool false)), none⟩,
   ⟨some 23, .mov (.t 22), none⟩,
   ⟨some 24, .mov (.t 9), some (23, true)⟩,
   ⟨some 25, .mov (.t 0), some (23, true)⟩,
   ⟨some 26, .call (.c (.fn 68 [] [])) [(.t 24), (.t 25)], some (23, true)⟩,
   ⟨some 27, .pick (.t 23) (.t 26) (.c (.bool false)), none⟩,
   ⟨some 8, .mov (.t 27), none⟩])
 (.ret)))
def r37 : List ARV := [.tmp 8]
theorem b37 : Try.f37.body.bind (tr Try.prog 28) = some c37.bare := by kernel_rfl
theorem q37 : trRes Try.prog Try.f37.results.toList = some r37 := by kernel_rfl
theorem n37 : (Try.f37.name == "runtime.NumGoroutine") = false := by kernel_rfl

def c38 : ACode :=
 .seq (.reg [⟨some 2, .boxI (.t 0), none⟩,
   ⟨some 4, .mov (.c .nilp), none⟩])
 (.seq (.reg [⟨some 11, .load true 4 (.t 2), none⟩,
   ⟨some 12, .fldA 0 (.t 2), none⟩,
   ⟨some 13, .load false 1 (.t 12), none⟩,
   ⟨some 14, .build [(.int .i64 0), (.slice [] .nil), (.slice [] .nil), (.slice [] .nil)] [(0, 1, (.t 13))], none⟩,
   ⟨some 15, .build [(.int .i64 0), (.slice [] .nil), (.slice [] .nil), (.slice [] .nil), (.int .i64 0), (.slice [] .nil), (.slice [] .nil), (.slice [] .nil), (.slice [] .nil), (.slice [] .nil)] [(0, 4, (.t 11)), (4, 4, (.t 14))], none⟩,
   ⟨some 16, .box (.t 15), none⟩,
   ⟨some 5, .mov (.t 16), none⟩])
 (.seq (.seq (.reg [⟨some 17, .fldA 0 (.t 2), none⟩,
   ⟨some 18, .load false 1 (.t 17), none⟩,
   ⟨some 19, .bin .add false (.c (.int .i64 1)) (.t 18), none⟩,
   ⟨some 20, .mov (.c (.int .i64 0)), none⟩])
 (.block 0 (.loop (.seq (.reg [⟨some 21, .bin .lss false (.t 20) (.t 19), none⟩])
  (.seq (.cond (.t 21)
   (.skip)
   (.exit 0))
  (.seq (.block 1 (.seq (.reg [⟨some 22, .mov (.t 20), none⟩,
    ⟨some 6, .mov (.t 22), none⟩])
  (.reg [⟨some 23, .mov (.t 5), none⟩,
    ⟨some 24, .mov (.t 5), none⟩,
    ⟨some 25, .nilchk (.t 24), none⟩,
    ⟨some 26, .fldA 8 (.t 25), none⟩,
    ⟨some 27, .load false 1 (.t 26), none⟩,
    ⟨some 28, .mov (.t 6), none⟩,
    ⟨some 29, .bin .mul false (.c (.int .i64 2)) (.t 28), none⟩,
    ⟨some 30, .bslice 1 [(.t 29)], none⟩,
    ⟨some 31, .append 1 8 (.t 27) (.t 30), none⟩,
    ⟨some 32, .nilchk (.t 23), none⟩,
    ⟨some 33, .fldA 8 (.t 32), none⟩,
    ⟨none, .store 1 (.t 33) (.t 31), none⟩])))
  (.reg [⟨some 34, .bin .add false (.t 20) (.c (.int .i64 1)), none⟩,
    ⟨some 20, .mov (.t 34), none⟩])))))))
 (.seq (.seq (.reg [⟨some 35, .fldA 1 (.t 2), none⟩,
   ⟨some 36, .load false 1 (.t 35), none⟩,
   ⟨some 37, .len (.t 36), none⟩,
   ⟨some 38, .mov (.c (.int .i64 0)), none⟩])
 (.block 2 (.loop (.seq (.reg [⟨some 39, .bin .lss false (.t 38) (.t 37), none⟩])
  (.seq (.cond (.t 39)
   (.skip)
   (.exit 2))
  (.seq (.block 3 (.seq (.reg [⟨some 40, .mov (.t 38), none⟩,
    ⟨some 41, .idxS 2 (.t 36) (.t 38), none⟩,
    ⟨some 42, .load true 2 (.t 41), none⟩,
    ⟨some 8, .alloc [(.int .i64 0), (.bool false)], none⟩,
    ⟨some 7, .mov (.t 40), none⟩,
    ⟨none, .store 2 (.t 8) (.t 42), none⟩])
  (.seq (.seq (.reg [⟨some 44, .mov (.t 1), none⟩,
    ⟨some 45, .mov (.t 7), none⟩,
    ⟨some 46, .ext (.look (.one 0) (.bool false) true (.t 44) (.t 45)), none⟩,
    ⟨some 43, .mov (.t 46), none⟩,
    ⟨some 47, .extract (.t 43) 0, none⟩,
    ⟨some 48, .extract (.t 43) 1, none⟩,
    ⟨some 9, .mov (.t 47), none⟩,
    ⟨some 10, .mov (.t 48), none⟩])
  (.seq (.reg [⟨some 49, .mov (.t 10), none⟩])
  (.cond (.t 49)
   (.seq (.drw [⟨some 50, .mov (.t 5), none⟩,
     ⟨some 51, .mov (.t 5), none⟩,
     ⟨some 52, .nilchk (.t 51), none⟩,
     ⟨some 53, .fldA 8 (.t 52), none⟩,
     ⟨some 54, .load false 1 (.t 53), none⟩,
     ⟨some 55, .mov (.t 9), none⟩,
     ⟨some 56, .call (.c (.fn 69 [] [])) [(.t 55)], none⟩,
     ⟨some 57, .bslice 1 [(.t 56)], none⟩,
     ⟨some 58, .append 1 8 (.t 54) (.t 57), none⟩,
     ⟨some 59, .nilchk (.t 50), none⟩,
     ⟨some 60, .fldA 8 (.t 59), none⟩,
     ⟨none, .store 1 (.t 60) (.t 58), none⟩] [(4, 6)])
   (.exit 3))
   (.skip))))
  (.seq (.drw [⟨some 61, .mov (.t 5), none⟩,
    ⟨some 62, .mov (.t 5), none⟩,
    ⟨some 63, .nilchk (.t 62), none⟩,
    ⟨some 64, .fldA 4 (.t 63), none⟩,
    ⟨some 65, .fldA 1 (.t 64), none⟩,
    ⟨some 66, .load false 1 (.t 65), none⟩,
    ⟨some 67, .fldA 1 (.t 8), none⟩,
    ⟨some 68, .load false 1 (.t 67), none⟩,
    ⟨some 69, .build [(.int .i64 0), (.bool false)] [(1, 1, (.t 68))], none⟩,
    ⟨some 70, .bslice 2 [(.t 69)], none⟩,
    ⟨some 71, .ext (.vapp 2 16 (.t 66) (.t 70)), none⟩,
    ⟨some 72, .nilchk (.t 61), none⟩,
    ⟨some 73, .fldA 4 (.t 72), none⟩,
    ⟨some 74, .fldA 1 (.t 73), none⟩,
    ⟨none, .store 1 (.t 74) (.t 71), none⟩] [])
  (.drw [⟨some 75, .mov (.t 5), none⟩,
    ⟨some 76, .mov (.t 5), none⟩,
    ⟨some 77, .nilchk (.t 76), none⟩,
    ⟨some 78, .fldA 8 (.t 77), none⟩,
    ⟨some 79, .load false 1 (.t 78), none⟩,
    ⟨some 80, .fldA 0 (.t 2), none⟩,
    ⟨some 81, .load false 1 (.t 80), none⟩,
    ⟨some 82, .mov (.t 5), none⟩,
    ⟨some 83, .nilchk (.t 82), none⟩,
    ⟨some 84, .fldA 4 (.t 83), none⟩,
    ⟨some 85, .fldA 1 (.t 84), none⟩,
    ⟨some 86, .load false 1 (.t 85), none⟩,
    ⟨some 87, .len (.t 86), none⟩,
    ⟨some 88, .bin .add false (.t 81) (.t 87), none⟩,
    ⟨some 89, .bin .mul false (.c (.int .i64 2)) (.t 88), none⟩,
    ⟨some 90, .bslice 1 [(.t 89)], none⟩,
    ⟨some 91, .append 1 8 (.t 79) (.t 90), none⟩,
    ⟨some 92, .nilchk (.t 75), none⟩,
    ⟨some 93, .fldA 8 (.t 92), none⟩,
    ⟨none, .store 1 (.t 93) (.t 91), none⟩] [])))))
  (.reg [⟨some 94, .bin .add false (.t 38) (.c (.int .i64 1)), none⟩,
    ⟨some 38, .mov (.t 94), none⟩])))))))
 (.seq (.drw [⟨some 95, .mov (.t 5), none⟩,
   ⟨some 96, .fldA 0 (.t 2), none⟩,
   ⟨some 97, .load false 1 (.t 96), none⟩,
   ⟨some 98, .bin .add false (.c (.int .i64 1)) (.t 97), none⟩,
   ⟨some 99, .mov (.t 5), none⟩,
   ⟨some 100, .nilchk (.t 99), none⟩,
   ⟨some 101, .fldA 4 (.t 100), none⟩,
   ⟨some 102, .fldA 1 (.t 101), none⟩,
   ⟨some 103, .load false 1 (.t 102), none⟩,
   ⟨some 104, .len (.t 103), none⟩,
   ⟨some 105, .bin .add false (.t 98) (.t 104), none⟩,
   ⟨some 106, .mkslice 1 8 [(.int .i64 0)] false (.t 105) (.t 105), none⟩,
   ⟨some 107, .nilchk (.t 95), none⟩,
   ⟨some 108, .fldA 9 (.t 107), none⟩,
   ⟨none, .store 1 (.t 108) (.t 106), none⟩] [])
 (.seq (.reg [⟨some 109, .mov (.t 5), none⟩,
   ⟨some 4, .mov (.t 109), none⟩])
 (.ret))))))
def r38 : List ARV := [.tmp 4]
theorem b38 : Try.f38.body.bind (tr Try.prog 110) = some c38.bare := by kernel_rfl
theorem q38 : trRes Try.prog Try.f38.results.toList = some r38 := by kernel_rfl
theorem n38 : (Try.f38.name == "runtime.NumGoroutine") = false := by kernel_rfl

def c39 : ACode :=
 .seq (.reg [⟨some 1, .boxI (.t 0), none⟩,
   ⟨some 2, .mov (.c (.slice [] .nil)), none⟩])
 (.seq (.reg [⟨some 6, .fldA 3 (.t 1), none⟩,
   ⟨some 7, .load false 1 (.t 6), none⟩,
   ⟨some 8, .call (.c (.fn 70 [] [])) [(.t 7)], none⟩,
   ⟨some 3, .mov (.t 8), none⟩])
 (.seq (.seq (.reg [⟨some 9, .fldA 1 (.t 1), none⟩,
   ⟨some 10, .load false 1 (.t 9), none⟩,
   ⟨some 11, .len (.t 10), none⟩,
   ⟨some 12, .mov (.c (.int .i64 0)), none⟩])
 (.block 0 (.loop (.seq (.reg [⟨some 13, .bin .lss false (.t 12) (.t 11), none⟩])
  (.seq (.cond (.t 13)
   (.skip)
   (.exit 0))
  (.seq (.block 1 (.seq (.reg [⟨some 14, .idxS 2 (.t 10) (.t 12), none⟩,
    ⟨some 15, .load true 2 (.t 14), none⟩,
    ⟨some 5, .alloc [(.int .i64 0), (.bool false)], none⟩,
    ⟨none, .store 2 (.t 5) (.t 15), none⟩])
  (.reg [⟨some 16, .mov (.t 3), none⟩,
    ⟨some 17, .fldA 0 (.t 5), none⟩,
    ⟨some 18, .load false 1 (.t 17), none⟩,
    ⟨some 19, .bslice 1 [(.t 18)], none⟩,
    ⟨some 20, .ext (.vapp 1 8 (.t 16) (.t 19)), none⟩,
    ⟨some 3, .mov (.t 20), none⟩])))
  (.reg [⟨some 21, .bin .add false (.t 12) (.c (.int .i64 1)), none⟩,
    ⟨some 12, .mov (.t 21), none⟩])))))))
 (.seq (.reg [⟨some 22, .mov (.t 3), none⟩,
   ⟨some 2, .mov (.t 22), none⟩])
 (.ret))))
def r39 : List ARV := [.tmp 2]
theorem b39 : Try.f39.body.bind (tr Try.prog 23) = some c39.bare := by kernel_rfl
theorem q39 : trRes Try.prog Try.f39.results.toList = some r39 := by kernel_rfl
theorem n39 : (Try.f39.name == "runtime.NumGoroutine") = false := by kernel_rfl

def c40 : ACode :=
 .seq (.reg [⟨some 2, .mov (.c (.int .i64 0)), none⟩])
 (.seq (.drw [⟨some 3, .mov (.t 0), none⟩,
   ⟨some 4, .nilchk (.t 3), none⟩,
   ⟨some 5, .fldA 0 (.t 4), none⟩,
   ⟨some 6, .fldA 0 (.t 5), none⟩,
   ⟨some 7, .load false 1 (.t 6), none⟩,
   ⟨some 8, .bin .add false (.c (.int .i64 1)) (.t 7), none⟩,
   ⟨some 9, .mov (.t 0), none⟩,
   ⟨some 10, .nilchk (.t 9), none⟩,
   ⟨some 11, .fldA 0 (.t 10), none⟩,
   ⟨some 12, .fldA 1 (.t 11), none⟩,
   ⟨some 13, .load false 1 (.t 12), none⟩,
   ⟨some 14, .len (.t 13), none⟩,
   ⟨some 15, .bin .add false (.t 8) (.t 14), none⟩,
   ⟨some 2, .mov (.t 15), none⟩] [])
 (.ret))
def r40 : List ARV := [.tmp 2]
theorem b40 : Try.f40.body.bind (tr Try.prog 16) = some c40.bare := by kernel_rfl
theorem q40 : trRes Try.prog Try.f40.results.toList = some r40 := by kernel_rfl
theorem n40 : (Try.f40.name == "runtime.NumGoroutine") = false := by kernel_rfl

def c41 : ACode :=
 .seq (.reg [⟨some 4, .mov (.c (.int .i64 0)), none⟩])
 (.seq (.reg [⟨some 5, .mov (.t 0), none⟩,
   ⟨some 6, .nilchk (.t 5), none⟩,
   ⟨some 7, .fldA 8 (.t 6), none⟩,
   ⟨some 8, .load false 1 (.t 7), none⟩,
   ⟨some 9, .mov (.t 1), none⟩,
   ⟨some 10, .bin .quo false (.t 9) (.c (.int .i64 2)), none⟩,
   ⟨some 11, .idxS 1 (.t 8) (.t 10), none⟩,
   ⟨some 12, .load false 1 (.t 11), none⟩,
   ⟨some 13, .mov (.t 1), none⟩,
   ⟨some 14, .bin .and false (.t 13) (.c (.int .i64 1)), none⟩,
   ⟨some 15, .bin .xor false (.t 12) (.t 14), none⟩,
   ⟨some 4, .mov (.t 15), none⟩])
 (.ret))
def r41 : List ARV := [.tmp 4]
theorem b41 : Try.f41.body.bind (tr Try.prog 16) = some c41.bare := by kernel_rfl
theorem q41 : trRes Try.prog Try.f41.results.toList = some r41 := by kernel_rfl
theorem n41 : (Try.f41.name == "runtime.NumGoroutine") = false := by kernel_rfl

def c42 : ACode :=
 .seq (.reg [⟨some 4, .alloc [(.int .i64 0), (.slice [] .nil), (.slice [] .nil), (.slice [] .nil)], none⟩])
 (.seq (.reg [⟨some 5, .mov (.c (.int .i64 0)), none⟩])
 (.seq (.seq (.reg [⟨some 12, .mov (.t 0), none⟩,
   ⟨some 13, .nilchk (.t 12), none⟩,
   ⟨some 14, .fldA 0 (.t 13), none⟩,
   ⟨some 15, .fldA 1 (.t 14), none⟩,
   ⟨some 16, .load false 1 (.t 15), none⟩,
   ⟨some 17, .len (.t 16), none⟩,
   ⟨some 18, .mov (.c (.int .i64 0)), none⟩])
 (.block 0 (.loop (.seq (.reg [⟨some 19, .bin .lss false (.t 18) (.t 17), none⟩])
  (.seq (.cond (.t 19)
   (.skip)
   (.exit 0))
  (.seq (.block 1 (.seq (.reg [⟨some 20, .mov (.t 18), none⟩,
    ⟨some 21, .idxS 2 (.t 16) (.t 18), none⟩,
    ⟨some 22, .load true 2 (.t 21), none⟩,
    ⟨some 7, .alloc [(.int .i64 0), (.bool false)], none⟩,
    ⟨some 6, .mov (.t 20), none⟩,
    ⟨none, .store 2 (.t 7) (.t 22), none⟩])
  (.seq (.reg [⟨some 24, .mov (.t 1), none⟩,
    ⟨some 25, .mov (.t 6), none⟩,
    ⟨some 26, .ext (.look (.one 0) (.bool false) true (.t 24) (.t 25)), none⟩,
    ⟨some 23, .mov (.t 26), none⟩,
    ⟨some 27, .extract (.t 23) 0, none⟩,
    ⟨some 28, .extract (.t 23) 1, none⟩,
    ⟨some 8, .mov (.t 27), none⟩,
    ⟨some 9, .mov (.t 28), none⟩])
  (.seq (.reg [⟨some 29, .mov (.t 9), none⟩,
    ⟨some 30, .un .not (.t 29), none⟩])
  (.cond (.t 30)
   (.seq (.drw [⟨some 31, .mov (.t 0), none⟩,
     ⟨some 32, .nilchk (.t 31), none⟩,
     ⟨some 33, .fldA 4 (.t 32), none⟩,
     ⟨some 34, .fldA 1 (.t 33), none⟩,
     ⟨some 35, .load false 1 (.t 34), none⟩,
     ⟨some 36, .mov (.t 5), none⟩,
     ⟨some 37, .mov (.t 0), none⟩,
     ⟨some 38, .fldA 0 (.t 7), none⟩,
     ⟨some 39, .load false 1 (.t 38), none⟩,
     ⟨some 40, .call (.c (.fn 41 [] [])) [(.t 37), (.t 39)], none⟩,
     ⟨some 41, .idxS 2 (.t 35) (.t 36), none⟩,
     ⟨some 42, .fldA 0 (.t 41), none⟩,
     ⟨none, .store 1 (.t 42) (.t 40), none⟩] [(4, 9)])
   (.reg [⟨some 43, .mov (.t 5), none⟩,
     ⟨some 44, .bin .add false (.t 43) (.c (.int .i64 1)), none⟩,
     ⟨some 5, .mov (.t 44), none⟩]))
   (.skip))))))
  (.reg [⟨some 45, .bin .add false (.t 18) (.c (.int .i64 1)), none⟩,
    ⟨some 18, .mov (.t 45), none⟩])))))))
 (.seq (.seq (.reg [⟨some 46, .mov (.t 0), none⟩,
   ⟨some 47, .nilchk (.t 46), none⟩,
   ⟨some 48, .fldA 0 (.t 47), none⟩,
   ⟨some 49, .fldA 3 (.t 48), none⟩,
   ⟨some 50, .load false 1 (.t 49), none⟩,
   ⟨some 51, .len (.t 50), none⟩,
   ⟨some 52, .mov (.c (.int .i64 0)), none⟩])
 (.block 2 (.loop (.seq (.reg [⟨some 53, .bin .lss false (.t 52) (.t 51), none⟩])
  (.seq (.cond (.t 53)
   (.skip)
   (.exit 2))
  (.seq (.block 3 (.seq (.reg [⟨some 54, .idxS 1 (.t 50) (.t 52), none⟩,
    ⟨some 55, .load false 1 (.t 54), none⟩,
    ⟨some 11, .mov (.t 55), none⟩])
  (.drw [⟨some 56, .mov (.t 0), none⟩,
    ⟨some 57, .mov (.t 0), none⟩,
    ⟨some 58, .nilchk (.t 57), none⟩,
    ⟨some 59, .fldA 4 (.t 58), none⟩,
    ⟨some 60, .fldA 3 (.t 59), none⟩,
    ⟨some 61, .load false 1 (.t 60), none⟩,
    ⟨some 62, .mov (.t 0), none⟩,
    ⟨some 63, .mov (.t 11), none⟩,
    ⟨some 64, .call (.c (.fn 41 [] [])) [(.t 62), (.t 63)], none⟩,
    ⟨some 65, .bslice 1 [(.t 64)], none⟩,
    ⟨some 66, .append 1 8 (.t 61) (.t 65), none⟩,
    ⟨some 67, .nilchk (.t 56), none⟩,
    ⟨some 68, .fldA 4 (.t 67), none⟩,
    ⟨some 69, .fldA 3 (.t 68), none⟩,
    ⟨none, .store 1 (.t 69) (.t 66), none⟩] [(5, 8)])))
  (.reg [⟨some 70, .bin .add false (.t 52) (.c (.int .i64 1)), none⟩,
    ⟨some 52, .mov (.t 70), none⟩])))))))
 (.seq (.reg [⟨some 71, .mov (.t 0), none⟩,
   ⟨some 72, .nilchk (.t 71), none⟩,
   ⟨some 73, .fldA 4 (.t 72), none⟩,
   ⟨some 74, .load true 4 (.t 73), none⟩,
   ⟨none, .store 4 (.t 4) (.t 74), none⟩])
 (.ret)))))
def r42 : List ARV := [.cell 4 true 4]
theorem b42 : Try.f42.body.bind (tr Try.prog 75) = some c42.bare := by kernel_rfl
theorem q42 : trRes Try.prog Try.f42.results.toList = some r42 := by kernel_rfl
theorem n42 : (Try.f42.name == "runtime.NumGoroutine") = false := by kernel_rfl

def c48 : ACode :=
 .seq (.reg [⟨some 2, .boxI (.t 0), none⟩,
   ⟨some 4, .alloc [(.int .i64 0), (.slice [] .nil), (.slice [] .nil), (.slice [] .nil)], none⟩])
 (.seq (.reg [⟨some 8, .load true 4 (.t 2), none⟩,
   ⟨some 9, .mov (.t 1), none⟩,
   ⟨some 10, .call (.c (.fn 38 [] [])) [(.t 8), (.t 9)], none⟩,
   ⟨some 5, .mov (.t 10), none⟩])
 (.seq (.seq (.reg [⟨some 11, .fldA 2 (.t 2), none⟩,
   ⟨some 12, .load false 1 (.t 11), none⟩,
   ⟨some 13, .len (.t 12), none⟩,
   ⟨some 14, .mov (.c (.int .i64 0)), none⟩])
 (.block 0 (.loop (.seq (.reg [⟨some 15, .bin .lss false (.t 14) (.t 13), none⟩])
  (.seq (.cond (.t 15)
   (.skip)
   (.exit 0))
  (.seq (.block 1 (.seq (.reg [⟨some 16, .idxS 2 (.t 12) (.t 14), none⟩,
    ⟨some 17, .load true 2 (.t 16), none⟩,
    ⟨some 7, .alloc [(.int .i64 0), (.int .i64 0)], none⟩,
    ⟨none, .store 2 (.t 7) (.t 17), none⟩])
  (.drw [⟨some 18, .mov (.t 5), none⟩,
    ⟨some 19, .mov (.t 5), none⟩,
    ⟨some 20, .nilchk (.t 19), none⟩,
    ⟨some 21, .fldA 8 (.t 20), none⟩,
    ⟨some 22, .load false 1 (.t 21), none⟩,
    ⟨some 23, .mov (.t 5), none⟩,
    ⟨some 24, .mov (.t 5), none⟩,
    ⟨some 25, .idxR 1 2 (.t 7) (.c (.int .i64 0)), none⟩,
    ⟨some 26, .load false 1 (.t 25), none⟩,
    ⟨some 27, .call (.c (.fn 41 [] [])) [(.t 24), (.t 26)], none⟩,
    ⟨some 28, .mov (.t 5), none⟩,
    ⟨some 29, .idxR 1 2 (.t 7) (.c (.int .i64 1)), none⟩,
    ⟨some 30, .load false 1 (.t 29), none⟩,
    ⟨some 31, .call (.c (.fn 41 [] [])) [(.t 28), (.t 30)], none⟩,
    ⟨some 32, .call (.c (.fn 71 [] [])) [(.t 23), (.t 27), (.t 31)], none⟩,
    ⟨some 33, .bslice 1 [(.t 32)], none⟩,
    ⟨some 34, .append 1 8 (.t 22) (.t 33), none⟩,
    ⟨some 35, .nilchk (.t 18), none⟩,
    ⟨some 36, .fldA 8 (.t 35), none⟩,
    ⟨none, .store 1 (.t 36) (.t 34), none⟩] [(4, 9), (4, 13), (4, 14), (9, 12)])))
  (.reg [⟨some 37, .bin .add false (.t 14) (.c (.int .i64 1)), none⟩,
    ⟨some 14, .mov (.t 37), none⟩])))))))
 (.seq (.reg [⟨some 38, .mov (.t 5), none⟩,
   ⟨some 39, .mov (.t 1), none⟩,
   ⟨some 40, .call (.c (.fn 42 [] [])) [(.t 38), (.t 39)], none⟩,
   ⟨none, .store 4 (.t 4) (.t 40), none⟩])
 (.ret))))
def r48 : List ARV := [.cell 4 true 4]
theorem b48 : Try.f48.body.bind (tr Try.prog 41) = some c48.bare := by kernel_rfl
theorem q48 : trRes Try.prog Try.f48.results.toList = some r48 := by kernel_rfl
theorem n48 : (Try.f48.name == "runtime.NumGoroutine") = false := by kernel_rfl

def c51 : ACode :=
 .seq (.reg [⟨some 2, .mov (.c .nilmap), none⟩])
 (.seq (.reg [⟨some 14, .ext .mkmap, none⟩,
   ⟨some 15, .ext .mkmap, none⟩,
   ⟨some 3, .mov (.t 14), none⟩,
   ⟨some 4, .mov (.t 15), none⟩])
 (.seq (.seq (.reg [⟨some 16, .mov (.t 0), none⟩,
   ⟨some 17, .nilchk (.t 16), none⟩,
   ⟨some 18, .fldA 0 (.t 17), none⟩,
   ⟨some 19, .fldA 2 (.t 18), none⟩,
   ⟨some 20, .load false 1 (.t 19), none⟩,
   ⟨some 21, .len (.t 20), none⟩,
   ⟨some 22, .mov (.c (.int .i64 0)), none⟩])
 (.block 0 (.loop (.seq (.reg [⟨some 23, .bin .lss false (.t 22) (.t 21), none⟩])
  (.seq (.cond (.t 23)
   (.skip)
   (.exit 0))
  (.seq (.block 1 (.seq (.reg [⟨some 24, .idxS 2 (.t 20) (.t 22), none⟩,
    ⟨some 25, .load true 2 (.t 24), none⟩,
    ⟨some 6, .alloc [(.int .i64 0), (.int .i64 0)], none⟩,
    ⟨none, .store 2 (.t 6) (.t 25), none⟩])
  (.seq (.reg [⟨some 26, .load true 2 (.t 6), none⟩,
    ⟨some 27, .mov (.c (.int .i64 0)), none⟩])
  (.block 2 (.loop (.seq (.reg [⟨some 28, .bin .lss false (.t 27) (.c (.int .i64 2)), none⟩])
   (.seq (.cond (.t 28)
    (.skip)
    (.exit 2))
   (.seq (.block 3 (.seq (.reg [⟨some 29, .idxV false 1 2 (.t 26) (.t 27), none⟩,
     ⟨some 8, .mov (.t 29), none⟩])
   (.seq (.reg [⟨some 30, .mov (.t 3), none⟩,
     ⟨some 31, .mov (.t 8), none⟩,
     ⟨some 32, .bin .quo false (.t 31) (.c (.int .i64 2)), none⟩,
     ⟨some 33, .ext (.look (.one 0) (.int .i64 0) false (.t 30) (.t 32)), none⟩,
     ⟨some 34, .bin .add false (.t 33) (.c (.int .i64 1)), none⟩,
     ⟨none, .ext (.mset (.one 0) (.t 30) (.t 32) (.t 34)), none⟩])
   (.reg [⟨some 35, .mov (.t 4), none⟩,
     ⟨some 36, .mov (.t 8), none⟩,
     ⟨some 37, .bin .quo false (.t 36) (.c (.int .i64 2)), none⟩,
     ⟨some 38, .mov (.t 8), none⟩,
     ⟨some 39, .bin .and false (.t 38) (.c (.int .i64 1)), none⟩,
     ⟨some 40, .bin .eql false (.t 39) (.c (.int .i64 0)), none⟩,
     ⟨none, .ext (.mset (.one 0) (.t 35) (.t 37) (.t 40)), none⟩]))))
   (.reg [⟨some 41, .bin .add false (.t 27) (.c (.int .i64 1)), none⟩,
     ⟨some 27, .mov (.t 41), none⟩])))))))))
  (.reg [⟨some 42, .bin .add false (.t 22) (.c (.int .i64 1)), none⟩,
    ⟨some 22, .mov (.t 42), none⟩])))))))
 (.seq (.seq (.reg [⟨some 43, .mov (.t 0), none⟩,
   ⟨some 44, .nilchk (.t 43), none⟩,
   ⟨some 45, .fldA 0 (.t 44), none⟩,
   ⟨some 46, .load true 4 (.t 45), none⟩,
   ⟨some 47, .call (.c (.fn 39 [] [])) [(.t 46)], none⟩,
   ⟨some 48, .len (.t 47), none⟩,
   ⟨some 49, .mov (.c (.int .i64 0)), none⟩])
 (.block 4 (.loop (.seq (.reg [⟨some 50, .bin .lss false (.t 49) (.t 48), none⟩])
  (.seq (.cond (.t 50)
   (.skip)
   (.exit 4))
  (.seq (.block 5 (.seq (.reg [⟨some 51, .idxS 1 (.t 47) (.t 49), none⟩,
    ⟨some 52, .load false 1 (.t 51), none⟩,
    ⟨some 10, .mov (.t 52), none⟩])
  (.reg [⟨some 53, .mov (.t 3), none⟩,
    ⟨some 54, .mov (.t 10), none⟩,
    ⟨some 55, .bin .quo false (.t 54) (.c (.int .i64 2)), none⟩,
    ⟨some 56, .ext (.look (.one 0) (.int .i64 0) false (.t 53) (.t 55)), none⟩,
    ⟨some 57, .bin .add false (.t 56) (.c (.int .i64 2)), none⟩,
    ⟨none, .ext (.mset (.one 0) (.t 53) (.t 55) (.t 57)), none⟩])))
  (.reg [⟨some 58, .bin .add false (.t 49) (.c (.int .i64 1)), none⟩,
    ⟨some 49, .mov (.t 58), none⟩])))))))
 (.seq (.reg [⟨some 59, .ext .mkmap, none⟩,
   ⟨some 11, .mov (.t 59), none⟩])
 (.seq (.seq (.reg [⟨some 60, .mov (.t 3), none⟩,
   ⟨some 61, .ext (.rng (.t 60)), none⟩])
 (.block 6 (.loop (.seq (.reg [⟨some 62, .ext (.nxt (.t 61)), none⟩,
    ⟨some 63, .extract (.t 62) 0, none⟩])
  (.seq (.cond (.t 63)
   (.skip)
   (.exit 6))
  (.block 7 (.seq (.reg [⟨some 64, .ext (.entr (.t 61)), none⟩,
    ⟨some 65, .extract (.t 64) 0, none⟩,
    ⟨some 66, .extract (.t 64) 1, none⟩,
    ⟨some 12, .mov (.t 65), none⟩,
    ⟨some 13, .mov (.t 66), none⟩])
  (.reg [⟨some 67, .mov (.t 11), none⟩,
    ⟨some 68, .mov (.t 12), none⟩,
    ⟨some 69, .mov (.t 12), none⟩,
    ⟨some 70, .mov (.t 0), none⟩,
    ⟨some 71, .call (.c (.fn 40 [] [])) [(.t 70)], none⟩,
    ⟨some 72, .bin .geq false (.t 69) (.t 71), none⟩,
    ⟨some 73, .mov (.t 72), none⟩,
    ⟨some 74, .mov (.t 13), some (73, true)⟩,
    ⟨some 75, .bin .eql false (.t 74) (.c (.int .i64 1)), some (73, true)⟩,
    ⟨some 76, .pick (.t 73) (.t 75) (.c (.bool false)), none⟩,
    ⟨some 77, .mov (.t 76), none⟩,
    ⟨some 78, .mov (.t 4), some (77, true)⟩,
    ⟨some 79, .mov (.t 12), some (77, true)⟩,
    ⟨some 80, .ext (.look (.one 0) (.bool false) false (.t 78) (.t 79)), some (77, true)⟩,
    ⟨some 81, .pick (.t 77) (.t 80) (.c (.bool false)), none⟩,
    ⟨none, .ext (.mset (.one 0) (.t 67) (.t 68) (.t 81)), none⟩]))))))))
 (.seq (.reg [⟨some 82, .mov (.t 11), none⟩,
   ⟨some 2, .mov (.t 82), none⟩])
 (.ret)))))))
def r51 : List ARV := [.tmp 2]
theorem b51 : Try.f51.body.bind (tr Try.prog 83) = some c51.bare := by kernel_rfl
theorem q51 : trRes Try.prog Try.f51.results.toList = some r51 := by kernel_rfl
theorem n51 : (Try.f51.name == "runtime.NumGoroutine") = false := by kernel_rfl

def c52 : ACode :=
 .seq (.reg [⟨some 4, .mov (.c (.int .i64 0)), none⟩])
 (.seq (.block 0 (.loop (.seq (.seq (.reg [⟨some 10, .mov (.t 1), none⟩,
    ⟨some 11, .len (.t 10), none⟩,
    ⟨some 12, .bin .gtr false (.t 11) (.c (.int .i64 1)), none⟩])
  (.cond (.t 12)
   (.skip)
   (.exit 0)))
  (.block 1 (.seq (.reg [⟨some 13, .mov (.t 0), none⟩,
    ⟨some 14, .mov (.t 1), none⟩,
    ⟨some 15, .call (.c (.fn 74 [] [])) [(.t 13), (.t 14)], none⟩,
    ⟨some 5, .mov (.t 15), none⟩])
  (.seq (.reg [⟨some 16, .mov (.t 1), none⟩,
    ⟨some 17, .call (.c (.fn 70 [] [])) [(.t 16)], none⟩,
    ⟨some 18, .mov (.t 5), none⟩,
    ⟨some 19, .mov (.t 5), none⟩,
    ⟨some 20, .bin .add false (.t 19) (.c (.int .i64 1)), none⟩,
    ⟨some 21, .call (.c (.fn 75 [] [])) [(.t 17), (.t 18), (.t 20)], none⟩,
    ⟨some 6, .mov (.t 21), none⟩])
  (.seq (.reg [⟨some 22, .mov (.t 0), none⟩,
    ⟨some 23, .mov (.t 6), none⟩,
    ⟨some 24, .call (.c (.fn 74 [] [])) [(.t 22), (.t 23)], none⟩,
    ⟨some 7, .mov (.t 24), none⟩])
  (.seq (.drw [⟨some 25, .mov (.t 1), none⟩,
    ⟨some 26, .mov (.t 5), none⟩,
    ⟨some 27, .idxS 1 (.t 25) (.t 26), none⟩,
    ⟨some 28, .load false 1 (.t 27), none⟩,
    ⟨some 29, .mov (.t 6), none⟩,
    ⟨some 30, .mov (.t 7), none⟩,
    ⟨some 31, .idxS 1 (.t 29) (.t 30), none⟩,
    ⟨some 32, .load false 1 (.t 31), none⟩,
    ⟨some 8, .mov (.t 28), none⟩,
    ⟨some 9, .mov (.t 32), none⟩] [])
  (.seq (.seq (.reg [⟨some 33, .mov (.t 7), none⟩,
    ⟨some 34, .mov (.t 5), none⟩,
    ⟨some 35, .bin .lss false (.t 33) (.t 34), none⟩])
  (.cond (.t 35)
   (.reg [⟨some 36, .mov (.t 9), none⟩,
     ⟨some 37, .mov (.t 8), none⟩,
     ⟨some 8, .mov (.t 36), none⟩,
     ⟨some 9, .mov (.t 37), none⟩])
   (.skip)))
  (.reg [⟨some 38, .mov (.t 6), none⟩,
    ⟨some 39, .mov (.t 7), none⟩,
    ⟨some 40, .mov (.t 7), none⟩,
    ⟨some 41, .bin .add false (.t 40) (.c (.int .i64 1)), none⟩,
    ⟨some 42, .call (.c (.fn 75 [] [])) [(.t 38), (.t 39), (.t 41)], none⟩,
    ⟨some 43, .mov (.t 0), none⟩,
    ⟨some 44, .mov (.t 8), none⟩,
    ⟨some 45, .mov (.t 9), none⟩,
    ⟨some 46, .call (.c (.fn 71 [] [])) [(.t 43), (.t 44), (.t 45)], none⟩,
    ⟨some 47, .bslice 1 [(.t 46)], none⟩,
    ⟨some 48, .ext (.vapp 1 8 (.t 42) (.t 47)), none⟩,
    ⟨some 1, .ext (.vfrz false (.t 48)), none⟩]))))))))))
 (.seq (.reg [⟨some 49, .mov (.t 1), none⟩,
   ⟨some 50, .idxS 1 (.t 49) (.c (.int .i64 0)), none⟩,
   ⟨some 51, .load false 1 (.t 50), none⟩,
   ⟨some 4, .mov (.t 51), none⟩])
 (.ret)))
def r52 : List ARV := [.tmp 4]
theorem b52 : Try.f52.body.bind (tr Try.prog 52) = some c52.bare := by kernel_rfl
theorem q52 : trRes Try.prog Try.f52.results.toList = some r52 := by kernel_rfl
theorem n52 : (Try.f52.name == "runtime.NumGoroutine") = false := by kernel_rfl

end Go.Proofs.Ytapnlmhfacoceaa

