/- The bodies of the program's functions, as the abstraction layer has them. By program. -/
import Derived.Test.YtjichkelfhcbcaaAbsT
import Derived.Test.YtjichkelfhcbcaaAbsW
import Derived.Test.YtjichkelfhcbcaaProg
import Derived.KernelRfl
set_option linter.unusedSimpArgs false
set_option linter.unusedVariables false
namespace Go.Proofs.Ytjichkelfhcbcaa
open Abs
theorem mixed : Try.prog.follows .mixedOrders = true := by kernel_rfl
def c9 : ACode :=
 .seq (.reg [⟨some 4, .boxI (.t 0), none⟩,
   ⟨some 8, .mov (.c (.bool false)), none⟩])
 (.seq (.reg [⟨some 24, .call (.c (.fn 11 [] [])) [], none⟩,
   ⟨some 9, .mov (.t 24), none⟩])
 (.seq (.seq (.reg [⟨some 25, .load true 4 (.t 4), none⟩,
   ⟨some 26, .call (.c (.fn 12 [] [])) [(.t 25)], none⟩,
   ⟨some 27, .un .not (.t 26), none⟩,
   ⟨some 28, .mov (.t 27), none⟩,
   ⟨some 29, .load true 4 (.t 4), some (28, false)⟩,
   ⟨some 30, .call (.c (.fn 29 [] [])) [(.t 29)], some (28, false)⟩,
   ⟨some 31, .bin .neq false (.t 30) (.c (.int .i64 0)), some (28, false)⟩,
   ⟨some 32, .pick (.t 28) (.c (.bool true)) (.t 31), none⟩])
 (.cond (.t 32)
  (.seq (.reg [⟨some 33, .mov (.t 9), none⟩,
    ⟨some 8, .mov (.t 33), none⟩])
  (.ret))
  (.skip)))
 (.seq (.reg [⟨some 34, .load true 4 (.t 4), none⟩,
   ⟨some 10, .alloc [(.int .i64 0), (.slice [] .nil), (.slice [] .nil), (.slice [] .nil)], none⟩,
   ⟨none, .store 4 (.t 10) (.t 34), none⟩])
 (.seq (.reg [⟨some 35, .bslice 2 [], none⟩,
   ⟨some 36, .fldA 2 (.t 4), none⟩,
   ⟨some 37, .load false 1 (.t 36), none⟩,
   ⟨some 38, .ext (.vapp 2 16 (.t 35) (.t 37)), none⟩,
   ⟨some 39, .fldA 2 (.t 10), none⟩,
   ⟨none, .store 1 (.t 39) (.t 38), none⟩])
 (.seq (.seq (.reg [⟨some 11, .mov (.c (.int .i64 0)), none⟩])
 (.block 0 (.loop (.seq (.seq (.reg [⟨some 40, .mov (.t 11), none⟩,
    ⟨some 41, .fldA 2 (.t 10), none⟩,
    ⟨some 42, .load false 1 (.t 41), none⟩,
    ⟨some 43, .len (.t 42), none⟩,
    ⟨some 44, .bin .lss false (.t 40) (.t 43), none⟩])
  (.cond (.t 44)
   (.skip)
   (.exit 0)))
  (.seq (.block 1 (.seq (.reg [⟨some 47, .mov (.t 11), none⟩,
    ⟨some 48, .bin .rem false (.t 47) (.c (.int .i64 2)), none⟩,
    ⟨some 49, .mov (.t 1), none⟩,
    ⟨some 50, .conv .i64 (.t 49), none⟩,
    ⟨some 51, .bin .rem false (.t 50) (.c (.int .i64 2)), none⟩,
    ⟨some 52, .bin .eql false (.t 48) (.t 51), none⟩])
  (.cond (.t 52)
   (.drw [⟨some 53, .fldA 2 (.t 10), none⟩,
     ⟨some 54, .load false 1 (.t 53), none⟩,
     ⟨some 55, .mov (.t 11), none⟩,
     ⟨some 56, .fldA 2 (.t 10), none⟩,
     ⟨some 57, .load false 1 (.t 56), none⟩,
     ⟨some 58, .mov (.t 11), none⟩,
     ⟨some 59, .idxS 2 (.t 57) (.t 58), none⟩,
     ⟨some 60, .idxR 1 2 (.t 59) (.c (.int .i64 1)), none⟩,
     ⟨some 61, .load false 1 (.t 60), none⟩,
     ⟨some 62, .fldA 2 (.t 10), none⟩,
     ⟨some 63, .load false 1 (.t 62), none⟩,
     ⟨some 64, .mov (.t 11), none⟩,
     ⟨some 65, .idxS 2 (.t 63) (.t 64), none⟩,
     ⟨some 66, .idxR 1 2 (.t 65) (.c (.int .i64 0)), none⟩,
     ⟨some 67, .load false 1 (.t 66), none⟩,
     ⟨some 68, .build [(.int .i64 0), (.int .i64 0)] [(0, 1, (.t 61)), (1, 1, (.t 67))], none⟩,
     ⟨some 69, .idxS 2 (.t 54) (.t 55), none⟩,
     ⟨none, .store 2 (.t 69) (.t 68), none⟩] [])
   (.skip))))
  (.reg [⟨some 45, .mov (.t 11), none⟩,
    ⟨some 46, .bin .add false (.t 45) (.c (.int .i64 1)), none⟩,
    ⟨some 11, .mov (.t 46), none⟩]))))))
 (.seq (.reg [⟨some 70, .load true 4 (.t 4), none⟩,
   ⟨some 71, .call (.c (.fn 30 [] [])) [(.t 70)], none⟩,
   ⟨some 12, .mov (.t 71), none⟩])
 (.seq (.seq (.reg [⟨some 72, .mov (.t 2), none⟩,
   ⟨some 73, .bin .geq false (.t 72) (.c (.int .i64 0)), none⟩,
   ⟨some 74, .mov (.t 73), none⟩,
   ⟨some 75, .mov (.t 3), some (74, true)⟩,
   ⟨some 76, .bin .geq false (.t 75) (.c (.int .i64 0)), some (74, true)⟩,
   ⟨some 77, .pick (.t 74) (.t 76) (.c (.bool false)), none⟩,
   ⟨some 78, .mov (.t 77), none⟩,
   ⟨some 79, .mov (.t 2), some (78, true)⟩,
   ⟨some 80, .mov (.t 12), some (78, true)⟩,
   ⟨some 81, .bin .mul false (.c (.int .i64 2)) (.t 80), some (78, true)⟩,
   ⟨some 82, .bin .lss false (.t 79) (.t 81), some (78, true)⟩,
   ⟨some 83, .pick (.t 78) (.t 82) (.c (.bool false)), none⟩,
   ⟨some 84, .mov (.t 83), none⟩,
   ⟨some 85, .mov (.t 3), some (84, true)⟩,
   ⟨some 86, .mov (.t 12), some (84, true)⟩,
   ⟨some 87, .bin .mul false (.c (.int .i64 2)) (.t 86), some (84, true)⟩,
   ⟨some 88, .bin .lss false (.t 85) (.t 87), some (84, true)⟩,
   ⟨some 89, .pick (.t 84) (.t 88) (.c (.bool false)), none⟩])
 (.cond (.t 89)
  (.reg [⟨some 90, .fldA 2 (.t 10), none⟩,
    ⟨some 91, .load false 1 (.t 90), none⟩,
    ⟨some 92, .mov (.t 2), none⟩,
    ⟨some 93, .mov (.t 3), none⟩,
    ⟨some 94, .build [(.int .i64 0), (.int .i64 0)] [(0, 1, (.t 92)), (1, 1, (.t 93))], none⟩,
    ⟨some 95, .bslice 2 [(.t 94)], none⟩,
    ⟨some 96, .ext (.vapp 2 16 (.t 91) (.t 95)), none⟩,
    ⟨some 97, .fldA 2 (.t 10), none⟩,
    ⟨none, .store 1 (.t 97) (.t 96), none⟩])
  (.skip)))
 (.seq (.reg [⟨some 99, .load true 4 (.t 4), none⟩,
   ⟨some 100, .load true 4 (.t 10), none⟩,
   ⟨some 101, .call (.c (.fn 23 [] [])) [(.t 99), (.t 100)], none⟩,
   ⟨some 98, .mov (.t 101), none⟩,
   ⟨some 102, .extract (.t 98) 0, none⟩,
   ⟨some 103, .extract (.t 98) 1, none⟩,
   ⟨some 104, .extract (.t 98) 2, none⟩,
   ⟨some 105, .extract (.t 98) 3, none⟩,
   ⟨some 13, .mov (.t 102), none⟩,
   ⟨some 14, .mov (.t 103), none⟩,
   ⟨some 15, .mov (.t 104), none⟩,
   ⟨some 16, .mov (.t 105), none⟩])
 (.seq (.seq (.reg [⟨some 106, .mov (.t 16), none⟩,
   ⟨some 107, .bin .neq false (.t 106) (.c (.int .i64 0)), none⟩,
   ⟨some 108, .mov (.t 107), none⟩,
   ⟨some 109, .mov (.t 13), some (108, false)⟩,
   ⟨some 110, .un .not (.t 109), some (108, false)⟩,
   ⟨some 111, .pick (.t 108) (.c (.bool true)) (.t 110), none⟩])
 (.cond (.t 111)
  (.seq (.reg [⟨some 8, .mov (.c (.bool false)), none⟩])
  (.ret))
  (.skip)))
 (.seq (.seq (.reg [⟨some 112, .fldA 3 (.t 4), none⟩,
   ⟨some 113, .load false 1 (.t 112), none⟩,
   ⟨some 114, .len (.t 113), none⟩,
   ⟨some 115, .bin .eql false (.t 114) (.c (.int .i64 0)), none⟩])
 (.cond (.t 115)
  (.seq (.reg [⟨some 116, .mov (.t 9), none⟩,
    ⟨some 8, .mov (.t 116), none⟩])
  (.ret))
  (.skip)))
 (.seq (.reg [⟨some 117, .load true 4 (.t 4), none⟩,
   ⟨some 17, .alloc [(.int .i64 0), (.slice [] .nil), (.slice [] .nil), (.slice [] .nil)], none⟩,
   ⟨none, .store 4 (.t 17) (.t 117), none⟩])
 (.seq (.reg [⟨some 118, .bslice 1 [], none⟩,
   ⟨some 119, .fldA 3 (.t 4), none⟩,
   ⟨some 120, .load false 1 (.t 119), none⟩,
   ⟨some 121, .ext (.vapp 1 8 (.t 118) (.t 120)), none⟩,
   ⟨some 122, .fldA 3 (.t 17), none⟩,
   ⟨none, .store 1 (.t 122) (.t 121), none⟩])
 (.seq (.reg [⟨some 123, .mov (.t 1), none⟩,
   ⟨some 124, .conv .i64 (.t 123), none⟩,
   ⟨some 125, .fldA 3 (.t 17), none⟩,
   ⟨some 126, .load false 1 (.t 125), none⟩,
   ⟨some 127, .len (.t 126), none⟩,
   ⟨some 128, .bin .rem false (.t 124) (.t 127), none⟩,
   ⟨some 18, .mov (.t 128), none⟩])
 (.seq (.drw [⟨some 129, .fldA 3 (.t 17), none⟩,
   ⟨some 130, .load false 1 (.t 129), none⟩,
   ⟨some 131, .mov (.t 18), none⟩,
   ⟨some 132, .fldA 3 (.t 17), none⟩,
   ⟨some 133, .load false 1 (.t 132), none⟩,
   ⟨some 134, .mov (.t 18), none⟩,
   ⟨some 135, .idxS 1 (.t 133) (.t 134), none⟩,
   ⟨some 136, .load false 1 (.t 135), none⟩,
   ⟨some 137, .bin .xor false (.t 136) (.c (.int .i64 1)), none⟩,
   ⟨some 138, .idxS 1 (.t 130) (.t 131), none⟩,
   ⟨none, .store 1 (.t 138) (.t 137), none⟩] [])
 (.seq (.reg [⟨some 140, .load true 4 (.t 4), none⟩,
   ⟨some 141, .load true 4 (.t 17), none⟩,
   ⟨some 142, .call (.c (.fn 23 [] [])) [(.t 140), (.t 141)], none⟩,
   ⟨some 139, .mov (.t 142), none⟩,
   ⟨some 143, .extract (.t 139) 0, none⟩,
   ⟨some 144, .extract (.t 139) 1, none⟩,
   ⟨some 145, .extract (.t 139) 2, none⟩,
   ⟨some 146, .extract (.t 139) 3, none⟩,
   ⟨some 19, .mov (.t 143), none⟩,
   ⟨some 20, .mov (.t 144), none⟩,
   ⟨some 21, .mov (.t 145), none⟩,
   ⟨some 22, .mov (.t 146), none⟩])
 (.seq (.seq (.reg [⟨some 147, .mov (.t 22), none⟩,
   ⟨some 148, .bin .neq false (.t 147) (.c (.int .i64 0)), none⟩,
   ⟨some 149, .mov (.t 148), none⟩,
   ⟨some 150, .mov (.t 19), some (149, false)⟩,
   ⟨some 151, .pick (.t 149) (.c (.bool true)) (.t 150), none⟩,
   ⟨some 152, .mov (.t 151), none⟩,
   ⟨some 153, .mov (.t 20), some (152, false)⟩,
   ⟨some 154, .len (.t 153), some (152, false)⟩,
   ⟨some 155, .fldA 0 (.t 4), some (152, false)⟩,
   ⟨some 156, .load false 1 (.t 155), some (152, false)⟩,
   ⟨some 157, .bin .neq false (.t 154) (.t 156), some (152, false)⟩,
   ⟨some 158, .pick (.t 152) (.c (.bool true)) (.t 157), none⟩,
   ⟨some 159, .mov (.t 158), none⟩,
   ⟨some 160, .mov (.t 21), some (159, false)⟩,
   ⟨some 161, .len (.t 160), some (159, false)⟩,
   ⟨some 162, .fldA 1 (.t 4), some (159, false)⟩,
   ⟨some 163, .load false 1 (.t 162), some (159, false)⟩,
   ⟨some 164, .len (.t 163), some (159, false)⟩,
   ⟨some 165, .bin .neq false (.t 161) (.t 164), some (159, false)⟩,
   ⟨some 166, .pick (.t 159) (.c (.bool true)) (.t 165), none⟩])
 (.cond (.t 166)
  (.seq (.reg [⟨some 8, .mov (.c (.bool false)), none⟩])
  (.ret))
  (.skip)))
 (.seq (.seq (.reg [⟨some 23, .mov (.c (.int .i64 0)), none⟩])
 (.block 2 (.loop (.seq (.seq (.reg [⟨some 167, .mov (.t 23), none⟩,
    ⟨some 168, .mov (.t 20), none⟩,
    ⟨some 169, .len (.t 168), none⟩,
    ⟨some 170, .bin .lss false (.t 167) (.t 169), none⟩])
  (.cond (.t 170)
   (.skip)
   (.exit 2)))
  (.seq (.block 3 (.seq (.reg [⟨some 173, .mov (.t 20), none⟩,
    ⟨some 174, .mov (.t 23), none⟩,
    ⟨some 175, .idxS 1 (.t 173) (.t 174), none⟩,
    ⟨some 176, .load false 1 (.t 175), none⟩])
  (.cond (.t 176)
   (.seq (.reg [⟨some 8, .mov (.c (.bool false)), none⟩])
   (.ret))
   (.skip))))
  (.reg [⟨some 171, .mov (.t 23), none⟩,
    ⟨some 172, .bin .add false (.t 171) (.c (.int .i64 1)), none⟩,
    ⟨some 23, .mov (.t 172), none⟩]))))))
 (.seq (.reg [⟨some 177, .mov (.t 9), none⟩,
   ⟨some 8, .mov (.t 177), none⟩])
 (.ret)))))))))))))))))))
def r9 : List ARV := [.tmp 8]
theorem b9 : Try.f9.body.bind (tr Try.prog 178) = some c9.bare := by kernel_rfl
theorem q9 : trRes Try.prog Try.f9.results.toList = some r9 := by kernel_rfl
theorem n9 : (Try.f9.name == "runtime.NumGoroutine") = false := by kernel_rfl

def c11 : ACode :=
 .seq (.reg [⟨some 0, .mov (.c (.bool false)), none⟩])
 (.seq (.reg [⟨some 27, .build [(.int .i64 0), (.int .i64 0)] [(0, 1, (.c (.int .i64 2))), (1, 1, (.c (.int .i64 4)))], none⟩,
   ⟨some 28, .bslice 2 [(.t 27)], none⟩,
   ⟨some 29, .bslice 1 [(.c (.int .i64 6))], none⟩,
   ⟨some 30, .build [(.int .i64 0), (.slice [] .nil), (.slice [] .nil), (.slice [] .nil)] [(0, 1, (.c (.int .i64 2))), (2, 1, (.t 28)), (3, 1, (.t 29))], none⟩,
   ⟨some 1, .alloc [(.int .i64 0), (.slice [] .nil), (.slice [] .nil), (.slice [] .nil)], none⟩,
   ⟨none, .store 4 (.t 1) (.t 30), none⟩])
 (.seq (.reg [⟨some 31, .build [(.int .i64 0), (.int .i64 0)] [(0, 1, (.c (.int .i64 4))), (1, 1, (.c (.int .i64 2)))], none⟩,
   ⟨some 32, .bslice 2 [(.t 31)], none⟩,
   ⟨some 33, .bslice 1 [(.c (.int .i64 6))], none⟩,
   ⟨some 34, .build [(.int .i64 0), (.slice [] .nil), (.slice [] .nil), (.slice [] .nil)] [(0, 1, (.c (.int .i64 2))), (2, 1, (.t 32)), (3, 1, (.t 33))], none⟩,
   ⟨some 2, .alloc [(.int .i64 0), (.slice [] .nil), (.slice [] .nil), (.slice [] .nil)], none⟩,
   ⟨none, .store 4 (.t 2) (.t 34), none⟩])
 (.seq (.reg [⟨some 35, .build [(.int .i64 0), (.int .i64 0)] [(0, 1, (.c (.int .i64 3))), (1, 1, (.c (.int .i64 5)))], none⟩,
   ⟨some 36, .bslice 2 [(.t 35)], none⟩,
   ⟨some 37, .bslice 1 [(.c (.int .i64 7))], none⟩,
   ⟨some 38, .build [(.int .i64 0), (.slice [] .nil), (.slice [] .nil), (.slice [] .nil)] [(0, 1, (.c (.int .i64 2))), (2, 1, (.t 36)), (3, 1, (.t 37))], none⟩,
   ⟨some 3, .alloc [(.int .i64 0), (.slice [] .nil), (.slice [] .nil), (.slice [] .nil)], none⟩,
   ⟨none, .store 4 (.t 3) (.t 38), none⟩])
 (.seq (.reg [⟨some 40, .load true 4 (.t 1), none⟩,
   ⟨some 41, .load true 4 (.t 2), none⟩,
   ⟨some 42, .call (.c (.fn 23 [] [])) [(.t 40), (.t 41)], none⟩,
   ⟨some 39, .mov (.t 42), none⟩,
   ⟨some 43, .extract (.t 39) 0, none⟩,
   ⟨some 44, .extract (.t 39) 1, none⟩,
   ⟨some 45, .extract (.t 39) 2, none⟩,
   ⟨some 46, .extract (.t 39) 3, none⟩,
   ⟨some 4, .mov (.t 43), none⟩,
   ⟨some 5, .mov (.t 44), none⟩,
   ⟨some 6, .mov (.t 45), none⟩,
   ⟨some 7, .mov (.t 46), none⟩])
 (.seq (.reg [⟨some 48, .load true 4 (.t 1), none⟩,
   ⟨some 49, .load true 4 (.t 3), none⟩,
   ⟨some 50, .call (.c (.fn 23 [] [])) [(.t 48), (.t 49)], none⟩,
   ⟨some 47, .mov (.t 50), none⟩,
   ⟨some 51, .extract (.t 47) 0, none⟩,
   ⟨some 52, .extract (.t 47) 1, none⟩,
   ⟨some 53, .extract (.t 47) 2, none⟩,
   ⟨some 54, .extract (.t 47) 3, none⟩,
   ⟨some 8, .mov (.t 51), none⟩,
   ⟨some 9, .mov (.t 52), none⟩,
   ⟨some 10, .mov (.t 53), none⟩,
   ⟨some 11, .mov (.t 54), none⟩])
 (.seq (.reg [⟨some 56, .load true 4 (.t 1), none⟩,
   ⟨some 57, .call (.c (.fn 13 [] [])) [(.t 56)], none⟩,
   ⟨some 55, .mov (.t 57), none⟩,
   ⟨some 58, .extract (.t 55) 0, none⟩,
   ⟨some 59, .extract (.t 55) 1, none⟩,
   ⟨some 60, .extract (.t 55) 2, none⟩,
   ⟨some 12, .alloc [(.int .i64 0), (.slice [] .nil)], none⟩,
   ⟨none, .store 2 (.t 12) (.t 58), none⟩,
   ⟨some 13, .mov (.t 59), none⟩,
   ⟨some 14, .mov (.t 60), none⟩])
 (.seq (.reg [⟨some 62, .load true 4 (.t 1), none⟩,
   ⟨some 63, .load true 4 (.t 2), none⟩,
   ⟨some 64, .call (.c (.fn 18 [] [])) [(.t 62), (.t 63)], none⟩,
   ⟨some 61, .mov (.t 64), none⟩,
   ⟨some 65, .extract (.t 61) 0, none⟩,
   ⟨some 66, .extract (.t 61) 1, none⟩,
   ⟨some 15, .alloc [(.int .i64 0), (.slice [] .nil), (.slice [] .nil), (.slice [] .nil)], none⟩,
   ⟨none, .store 4 (.t 15) (.t 65), none⟩,
   ⟨some 16, .mov (.t 66), none⟩])
 (.seq (.reg [⟨some 68, .load true 4 (.t 1), none⟩,
   ⟨some 69, .load true 4 (.t 3), none⟩,
   ⟨some 70, .bslice 1 [(.c (.bool true)), (.c (.bool true))], none⟩,
   ⟨some 71, .bslice 1 [(.c (.bool true)), (.c (.bool false))], none⟩,
   ⟨some 72, .bslice 1 [(.t 70), (.t 71)], none⟩,
   ⟨some 73, .call (.c (.fn 20 [] [])) [(.t 68), (.t 69), (.t 72)], none⟩,
   ⟨some 67, .mov (.t 73), none⟩,
   ⟨some 74, .extract (.t 67) 0, none⟩,
   ⟨some 75, .extract (.t 67) 1, none⟩,
   ⟨some 17, .mov (.t 74), none⟩,
   ⟨some 18, .mov (.t 75), none⟩])
 (.seq (.reg [⟨some 77, .load true 4 (.t 1), none⟩,
   ⟨some 78, .load true 4 (.t 2), none⟩,
   ⟨some 79, .bslice 1 [(.c (.bool true)), (.c (.bool true))], none⟩,
   ⟨some 80, .bslice 1 [(.c (.bool true)), (.c (.bool false))], none⟩,
   ⟨some 81, .bslice 1 [(.t 79), (.t 80)], none⟩,
   ⟨some 82, .call (.c (.fn 20 [] [])) [(.t 77), (.t 78), (.t 81)], none⟩,
   ⟨some 76, .mov (.t 82), none⟩,
   ⟨some 83, .extract (.t 76) 0, none⟩,
   ⟨some 84, .extract (.t 76) 1, none⟩,
   ⟨some 19, .mov (.t 83), none⟩,
   ⟨some 20, .mov (.t 84), none⟩])
 (.seq (.reg [⟨some 86, .load true 4 (.t 1), none⟩,
   ⟨some 87, .load true 4 (.t 3), none⟩,
   ⟨some 88, .bslice 1 [(.c (.bool true))], none⟩,
   ⟨some 89, .bslice 1 [(.t 88)], none⟩,
   ⟨some 90, .call (.c (.fn 20 [] [])) [(.t 86), (.t 87), (.t 89)], none⟩,
   ⟨some 85, .mov (.t 90), none⟩,
   ⟨some 91, .extract (.t 85) 0, none⟩,
   ⟨some 92, .extract (.t 85) 1, none⟩,
   ⟨some 21, .mov (.t 91), none⟩,
   ⟨some 22, .mov (.t 92), none⟩])
 (.seq (.reg [⟨some 94, .load true 4 (.t 1), none⟩,
   ⟨some 95, .build [(.int .i64 0), (.slice [] .nil), (.slice [] .nil), (.slice [] .nil)] [(0, 1, (.c (.int .i64 2)))], none⟩,
   ⟨some 96, .call (.c (.fn 23 [] [])) [(.t 94), (.t 95)], none⟩,
   ⟨some 93, .mov (.t 96), none⟩,
   ⟨some 97, .extract (.t 93) 0, none⟩,
   ⟨some 98, .extract (.t 93) 1, none⟩,
   ⟨some 99, .extract (.t 93) 2, none⟩,
   ⟨some 100, .extract (.t 93) 3, none⟩,
   ⟨some 23, .mov (.t 97), none⟩,
   ⟨some 24, .mov (.t 98), none⟩,
   ⟨some 25, .mov (.t 99), none⟩,
   ⟨some 26, .mov (.t 100), none⟩])
 (.seq (.reg [⟨some 101, .mov (.t 4), none⟩,
   ⟨some 102, .mov (.t 101), none⟩,
   ⟨some 103, .mov (.t 7), some (102, true)⟩,
   ⟨some 104, .bin .eql false (.t 103) (.c (.int .i64 0)), some (102, true)⟩,
   ⟨some 105, .pick (.t 102) (.t 104) (.c (.bool false)), none⟩,
   ⟨some 106, .mov (.t 105), none⟩,
   ⟨some 107, .mov (.t 8), some (106, true)⟩,
   ⟨some 108, .un .not (.t 107), some (106, true)⟩,
   ⟨some 109, .pick (.t 106) (.t 108) (.c (.bool false)), none⟩,
   ⟨some 110, .mov (.t 109), none⟩,
   ⟨some 111, .mov (.t 11), some (110, true)⟩,
   ⟨some 112, .bin .eql false (.t 111) (.c (.int .i64 0)), some (110, true)⟩,
   ⟨some 113, .pick (.t 110) (.t 112) (.c (.bool false)), none⟩,
   ⟨some 114, .mov (.t 113), none⟩,
   ⟨some 115, .mov (.t 9), some (114, true)⟩,
   ⟨some 116, .len (.t 115), some (114, true)⟩,
   ⟨some 117, .bin .eql false (.t 116) (.c (.int .i64 2)), some (114, true)⟩,
   ⟨some 118, .pick (.t 114) (.t 117) (.c (.bool false)), none⟩,
   ⟨some 119, .mov (.t 118), none⟩,
   ⟨some 120, .mov (.t 9), some (119, true)⟩,
   ⟨some 121, .idxS 1 (.t 120) (.c (.int .i64 0)), some (119, true)⟩,
   ⟨some 122, .load false 1 (.t 121), some (119, true)⟩,
   ⟨some 123, .un .not (.t 122), some (119, true)⟩,
   ⟨some 124, .pick (.t 119) (.t 123) (.c (.bool false)), none⟩,
   ⟨some 125, .mov (.t 124), none⟩,
   ⟨some 126, .mov (.t 9), some (125, true)⟩,
   ⟨some 127, .idxS 1 (.t 126) (.c (.int .i64 1)), some (125, true)⟩,
   ⟨some 128, .load false 1 (.t 127), some (125, true)⟩,
   ⟨some 129, .pick (.t 125) (.t 128) (.c (.bool false)), none⟩,
   ⟨some 130, .mov (.t 129), none⟩,
   ⟨some 131, .mov (.t 10), some (130, true)⟩,
   ⟨some 132, .len (.t 131), some (130, true)⟩,
   ⟨some 133, .bin .eql false (.t 132) (.c (.int .i64 0)), some (130, true)⟩,
   ⟨some 134, .pick (.t 130) (.t 133) (.c (.bool false)), none⟩,
   ⟨some 135, .mov (.t 134), none⟩,
   ⟨some 136, .mov (.t 14), some (135, true)⟩,
   ⟨some 137, .bin .eql false (.t 136) (.c (.int .i64 0)), some (135, true)⟩,
   ⟨some 138, .pick (.t 135) (.t 137) (.c (.bool false)), none⟩,
   ⟨some 139, .mov (.t 138), none⟩,
   ⟨some 140, .mov (.t 13), some (139, true)⟩,
   ⟨some 141, .len (.t 140), some (139, true)⟩,
   ⟨some 142, .bin .eql false (.t 141) (.c (.int .i64 1)), some (139, true)⟩,
   ⟨some 143, .pick (.t 139) (.t 142) (.c (.bool false)), none⟩,
   ⟨some 144, .mov (.t 143), none⟩,
   ⟨some 145, .fldA 1 (.t 12), some (144, true)⟩,
   ⟨some 146, .load false 1 (.t 145), some (144, true)⟩,
   ⟨some 147, .len (.t 146), some (144, true)⟩,
   ⟨some 148, .bin .eql false (.t 147) (.c (.int .i64 5)), some (144, true)⟩,
   ⟨some 149, .pick (.t 144) (.t 148) (.c (.bool false)), none⟩,
   ⟨some 150, .mov (.t 149), none⟩,
   ⟨some 151, .mov (.t 16), some (150, true)⟩,
   ⟨some 152, .bin .eql false (.t 151) (.c (.int .i64 0)), some (150, true)⟩,
   ⟨some 153, .pick (.t 150) (.t 152) (.c (.bool false)), none⟩,
   ⟨some 154, .mov (.t 153), none⟩,
   ⟨some 155, .fldA 2 (.t 15), some (154, true)⟩,
   ⟨some 156, .load false 1 (.t 155), some (154, true)⟩,
   ⟨some 157, .len (.t 156), some (154, true)⟩,
   ⟨some 158, .bin .eql false (.t 157) (.c (.int .i64 1)), some (154, true)⟩,
   ⟨some 159, .pick (.t 154) (.t 158) (.c (.bool false)), none⟩,
   ⟨some 160, .mov (.t 159), none⟩,
   ⟨some 161, .fldA 3 (.t 15), some (160, true)⟩,
   ⟨some 162, .load false 1 (.t 161), some (160, true)⟩,
   ⟨some 163, .len (.t 162), some (160, true)⟩,
   ⟨some 164, .bin .eql false (.t 163) (.c (.int .i64 1)), some (160, true)⟩,
   ⟨some 165, .pick (.t 160) (.t 164) (.c (.bool false)), none⟩,
   ⟨some 166, .mov (.t 165), none⟩,
   ⟨some 167, .fldA 3 (.t 15), some (166, true)⟩,
   ⟨some 168, .load false 1 (.t 167), some (166, true)⟩,
   ⟨some 169, .idxS 1 (.t 168) (.c (.int .i64 0)), some (166, true)⟩,
   ⟨some 170, .load false 1 (.t 169), some (166, true)⟩,
   ⟨some 171, .bin .eql false (.t 170) (.c (.int .i64 0)), some (166, true)⟩,
   ⟨some 172, .pick (.t 166) (.t 171) (.c (.bool false)), none⟩,
   ⟨some 173, .mov (.t 172), none⟩,
   ⟨some 174, .mov (.t 17), some (173, true)⟩,
   ⟨some 175, .bin .eql false (.t 174) (.c (.int .i64 1)), some (173, true)⟩,
   ⟨some 176, .pick (.t 173) (.t 175) (.c (.bool false)), none⟩,
   ⟨some 177, .mov (.t 176), none⟩,
   ⟨some 178, .mov (.t 18), some (177, true)⟩,
   ⟨some 179, .bin .eql false (.t 178) (.c (.int .i64 0)), some (177, true)⟩,
   ⟨some 180, .pick (.t 177) (.t 179) (.c (.bool false)), none⟩,
   ⟨some 181, .mov (.t 180), none⟩,
   ⟨some 182, .mov (.t 19), some (181, true)⟩,
   ⟨some 183, .bin .eql false (.t 182) (.c (.int .i64 (-1))), some (181, true)⟩,
   ⟨some 184, .pick (.t 181) (.t 183) (.c (.bool false)), none⟩,
   ⟨some 185, .mov (.t 184), none⟩,
   ⟨some 186, .mov (.t 20), some (185, true)⟩,
   ⟨some 187, .bin .eql false (.t 186) (.c (.int .i64 0)), some (185, true)⟩,
   ⟨some 188, .pick (.t 185) (.t 187) (.c (.bool false)), none⟩,
   ⟨some 189, .mov (.t 188), none⟩,
   ⟨some 190, .mov (.t 22), some (189, true)⟩,
   ⟨some 191, .bin .eql false (.t 190) (.c (.int .i64 1)), some (189, true)⟩,
   ⟨some 192, .pick (.t 189) (.t 191) (.c (.bool false)), none⟩,
   ⟨some 193, .mov (.t 192), none⟩,
   ⟨some 194, .mov (.t 26), some (193, true)⟩,
   ⟨some 195, .bin .eql false (.t 194) (.c (.int .i64 1)), some (193, true)⟩,
   ⟨some 196, .pick (.t 193) (.t 195) (.c (.bool false)), none⟩,
   ⟨some 0, .mov (.t 196), none⟩])
 (.ret)))))))))))))
def r11 : List ARV := [.tmp 0]
theorem b11 : Try.f11.body.bind (tr Try.prog 197) = some c11.bare := by kernel_rfl
theorem q11 : trRes Try.prog Try.f11.results.toList = some r11 := by kernel_rfl
theorem n11 : (Try.f11.name == "runtime.NumGoroutine") = false := by kernel_rfl

def c12 : ACode :=
 .seq (.reg [⟨some 1, .boxI (.t 0), none⟩,
   ⟨some 2, .mov (.c (.bool false)), none⟩])
 (.seq (.reg [⟨some 3, .fldA 0 (.t 1), none⟩,
   ⟨some 4, .load false 1 (.t 3), none⟩,
   ⟨some 5, .fldA 1 (.t 1), none⟩,
   ⟨some 6, .load false 1 (.t 5), none⟩,
   ⟨some 7, .len (.t 6), none⟩,
   ⟨some 8, .bin .add false (.t 4) (.t 7), none⟩,
   ⟨some 9, .bin .leq false (.t 8) (.c (.int .i64 8)), none⟩,
   ⟨some 10, .mov (.t 9), none⟩,
   ⟨some 11, .fldA 0 (.t 1), some (10, true)⟩,
   ⟨some 12, .load false 1 (.t 11), some (10, true)⟩,
   ⟨some 13, .bin .geq false (.t 12) (.c (.int .i64 (-1))), some (10, true)⟩,
   ⟨some 14, .pick (.t 10) (.t 13) (.c (.bool false)), none⟩,
   ⟨some 15, .mov (.t 14), none⟩,
   ⟨some 16, .fldA 1 (.t 1), some (15, true)⟩,
   ⟨some 17, .load false 1 (.t 16), some (15, true)⟩,
   ⟨some 18, .len (.t 17), some (15, true)⟩,
   ⟨some 19, .bin .leq false (.t 18) (.c (.int .i64 8)), some (15, true)⟩,
   ⟨some 20, .pick (.t 15) (.t 19) (.c (.bool false)), none⟩,
   ⟨some 21, .mov (.t 20), none⟩,
   ⟨some 22, .fldA 2 (.t 1), some (21, true)⟩,
   ⟨some 23, .load false 1 (.t 22), some (21, true)⟩,
   ⟨some 24, .len (.t 23), some (21, true)⟩,
   ⟨some 25, .bin .leq false (.t 24) (.c (.int .i64 40)), some (21, true)⟩,
   ⟨some 26, .pick (.t 21) (.t 25) (.c (.bool false)), none⟩,
   ⟨some 27, .mov (.t 26), none⟩,
   ⟨some 28, .fldA 3 (.t 1), some (27, true)⟩,
   ⟨some 29, .load false 1 (.t 28), some (27, true)⟩,
   ⟨some 30, .len (.t 29), some (27, true)⟩,
   ⟨some 31, .bin .leq false (.t 30) (.c (.int .i64 10)), some (27, true)⟩,
   ⟨some 32, .pick (.t 27) (.t 31) (.c (.bool false)), none⟩,
   ⟨some 2, .mov (.t 32), none⟩])
 (.ret))
def r12 : List ARV := [.tmp 2]
theorem b12 : Try.f12.body.bind (tr Try.prog 33) = some c12.bare := by kernel_rfl
theorem q12 : trRes Try.prog Try.f12.results.toList = some r12 := by kernel_rfl
theorem n12 : (Try.f12.name == "runtime.NumGoroutine") = false := by kernel_rfl

def c13 : ACode :=
 .seq (.reg [⟨some 1, .boxI (.t 0), none⟩,
   ⟨some 2, .alloc [(.int .i64 0), (.slice [] .nil)], none⟩,
   ⟨some 3, .mov (.c (.slice [] .nil)), none⟩,
   ⟨some 4, .mov (.c (.int .i64 0)), none⟩])
 (.seq (.seq (.reg [⟨some 15, .load true 4 (.t 1), none⟩,
   ⟨some 16, .call (.c (.fn 33 [] [])) [(.t 15)], none⟩,
   ⟨some 5, .mov (.t 16), none⟩])
 (.seq (.reg [⟨some 17, .mov (.t 5), none⟩,
   ⟨some 18, .bin .neq false (.t 17) (.c (.int .i64 0)), none⟩])
 (.cond (.t 18)
  (.seq (.reg [⟨some 19, .build [(.int .i64 0), (.slice [] .nil)] [], none⟩,
    ⟨some 20, .mov (.t 5), none⟩,
    ⟨none, .store 2 (.t 2) (.t 19), none⟩,
    ⟨some 3, .mov (.c (.slice [] .nil)), none⟩,
    ⟨some 4, .mov (.t 20), none⟩])
  (.ret))
  (.skip))))
 (.seq (.reg [⟨some 22, .fldA 0 (.t 1), none⟩,
   ⟨some 23, .load false 1 (.t 22), none⟩,
   ⟨some 24, .fldA 1 (.t 1), none⟩,
   ⟨some 25, .load false 1 (.t 24), none⟩,
   ⟨some 26, .len (.t 25), none⟩,
   ⟨some 27, .bin .add false (.t 23) (.t 26), none⟩,
   ⟨some 28, .call (.c (.fn 34 [] [])) [(.t 27)], none⟩,
   ⟨some 21, .mov (.t 28), none⟩,
   ⟨some 29, .extract (.t 21) 0, none⟩,
   ⟨some 30, .extract (.t 21) 1, none⟩,
   ⟨some 6, .alloc [(.int .i64 0), (.slice [] .nil)], none⟩,
   ⟨none, .store 2 (.t 6) (.t 29), none⟩,
   ⟨some 7, .mov (.t 30), none⟩])
 (.seq (.seq (.reg [⟨some 31, .mov (.t 7), none⟩,
   ⟨some 32, .bin .neq false (.t 31) (.c (.int .i64 0)), none⟩])
 (.cond (.t 32)
  (.seq (.reg [⟨some 33, .build [(.int .i64 0), (.slice [] .nil)] [], none⟩,
    ⟨some 34, .mov (.t 7), none⟩,
    ⟨none, .store 2 (.t 2) (.t 33), none⟩,
    ⟨some 3, .mov (.c (.slice [] .nil)), none⟩,
    ⟨some 4, .mov (.t 34), none⟩])
  (.ret))
  (.skip)))
 (.seq (.reg [⟨some 35, .load true 2 (.t 6), none⟩,
   ⟨some 36, .ext (.bsliceG 1 [(.c (.int .i64 0))]), none⟩,
   ⟨some 37, .build [(.int .i64 0), (.slice [] .nil), (.slice [] .nil), (.int .i64 0)] [(0, 2, (.t 35)), (2, 1, (.t 36))], none⟩,
   ⟨some 38, .box (.t 37), none⟩,
   ⟨some 8, .alloc [.nilp], none⟩,
   ⟨none, .store 1 (.t 8) (.t 38), none⟩])
 (.seq (.seq (.reg [⟨some 39, .fldA 0 (.t 6), none⟩,
   ⟨some 40, .load false 1 (.t 39), none⟩,
   ⟨some 41, .mov (.c (.int .i64 0)), none⟩])
 (.block 0 (.loop (.seq (.reg [⟨some 42, .bin .lss false (.t 41) (.t 40), none⟩])
  (.seq (.cond (.t 42)
   (.skip)
   (.exit 0))
  (.seq (.block 1 (.seq (.reg [⟨some 43, .mov (.t 41), none⟩,
    ⟨some 9, .alloc [(.int .i64 0)], none⟩,
    ⟨none, .store 1 (.t 9) (.t 43), none⟩])
  (.drw [⟨some 44, .load false 1 (.t 8), none⟩,
    ⟨some 45, .load false 1 (.t 8), none⟩,
    ⟨some 46, .nilchk (.t 45), none⟩,
    ⟨some 47, .fldA 2 (.t 46), none⟩,
    ⟨some 48, .load false 1 (.t 47), none⟩,
    ⟨some 49, .load false 1 (.t 8), none⟩,
    ⟨some 50, .mkfn 36 [] [(.t 8), (.t 9)], none⟩,
    ⟨some 51, .call (.c (.fn 35 [] [])) [(.t 49), (.t 50)], none⟩,
    ⟨some 52, .bslice 1 [(.t 51)], none⟩,
    ⟨some 53, .append 1 8 (.t 48) (.t 52), none⟩,
    ⟨some 54, .nilchk (.t 44), none⟩,
    ⟨some 55, .fldA 2 (.t 54), none⟩,
    ⟨none, .store 1 (.t 55) (.t 53), none⟩] [(0, 7), (0, 9), (1, 7), (4, 7)])))
  (.reg [⟨some 56, .bin .add false (.t 41) (.c (.int .i64 1)), none⟩,
    ⟨some 41, .mov (.t 56), none⟩])))))))
 (.seq (.seq (.reg [⟨some 57, .fldA 2 (.t 1), none⟩,
   ⟨some 58, .load false 1 (.t 57), none⟩,
   ⟨some 59, .len (.t 58), none⟩,
   ⟨some 60, .mov (.c (.int .i64 0)), none⟩])
 (.block 2 (.loop (.seq (.reg [⟨some 61, .bin .lss false (.t 60) (.t 59), none⟩])
  (.seq (.cond (.t 61)
   (.skip)
   (.exit 2))
  (.seq (.block 3 (.seq (.reg [⟨some 62, .idxS 2 (.t 58) (.t 60), none⟩,
    ⟨some 63, .load true 2 (.t 62), none⟩,
    ⟨some 11, .alloc [(.int .i64 0), (.int .i64 0)], none⟩,
    ⟨none, .store 2 (.t 11) (.t 63), none⟩])
  (.seq (.reg [⟨some 64, .load false 1 (.t 8), none⟩,
    ⟨some 65, .idxR 1 2 (.t 11) (.c (.int .i64 0)), none⟩,
    ⟨some 66, .load false 1 (.t 65), none⟩,
    ⟨some 67, .call (.c (.fn 38 [] [])) [(.t 64), (.t 66)], none⟩,
    ⟨some 12, .alloc [(.int .i64 0)], none⟩,
    ⟨none, .store 1 (.t 12) (.t 67), none⟩])
  (.seq (.reg [⟨some 68, .load false 1 (.t 8), none⟩,
    ⟨some 69, .idxR 1 2 (.t 11) (.c (.int .i64 1)), none⟩,
    ⟨some 70, .load false 1 (.t 69), none⟩,
    ⟨some 71, .call (.c (.fn 38 [] [])) [(.t 68), (.t 70)], none⟩,
    ⟨some 13, .alloc [(.int .i64 0)], none⟩,
    ⟨none, .store 1 (.t 13) (.t 71), none⟩])
  (.drw [⟨some 72, .load false 1 (.t 8), none⟩,
    ⟨some 73, .load false 1 (.t 8), none⟩,
    ⟨some 74, .nilchk (.t 73), none⟩,
    ⟨some 75, .fldA 2 (.t 74), none⟩,
    ⟨some 76, .load false 1 (.t 75), none⟩,
    ⟨some 77, .load false 1 (.t 8), none⟩,
    ⟨some 78, .mkfn 39 [] [(.t 8), (.t 12), (.t 13)], none⟩,
    ⟨some 79, .call (.c (.fn 35 [] [])) [(.t 77), (.t 78)], none⟩,
    ⟨some 80, .bslice 1 [(.t 79)], none⟩,
    ⟨some 81, .append 1 8 (.t 76) (.t 80), none⟩,
    ⟨some 82, .nilchk (.t 72), none⟩,
    ⟨some 83, .fldA 2 (.t 82), none⟩,
    ⟨none, .store 1 (.t 83) (.t 81), none⟩] [(0, 7), (0, 9), (1, 7), (4, 7)])))))
  (.reg [⟨some 84, .bin .add false (.t 60) (.c (.int .i64 1)), none⟩,
    ⟨some 60, .mov (.t 84), none⟩])))))))
 (.seq (.drw [⟨some 85, .load false 1 (.t 8), none⟩,
   ⟨some 86, .mkfn 38 [(.t 85)] [], none⟩,
   ⟨some 87, .fldA 3 (.t 1), none⟩,
   ⟨some 88, .load false 1 (.t 87), none⟩,
   ⟨some 89, .load true 4 (.t 1), none⟩,
   ⟨some 90, .call (.c (.fn 42 [] [])) [(.t 89)], none⟩,
   ⟨some 91, .bslice 1 [(.t 88), (.t 90)], none⟩,
   ⟨some 92, .call (.c (.fn 41 [] [])) [(.t 86), (.t 91)], none⟩,
   ⟨some 14, .mov (.t 92), none⟩] [(0, 5), (3, 5)])
 (.seq (.seq (.reg [⟨some 93, .load false 1 (.t 8), none⟩,
   ⟨some 94, .nilchk (.t 93), none⟩,
   ⟨some 95, .fldA 3 (.t 94), none⟩,
   ⟨some 96, .load false 1 (.t 95), none⟩,
   ⟨some 97, .bin .neq false (.t 96) (.c (.int .i64 0)), none⟩])
 (.cond (.t 97)
  (.seq (.drw [⟨some 98, .build [(.int .i64 0), (.slice [] .nil)] [], none⟩,
    ⟨some 99, .load false 1 (.t 8), none⟩,
    ⟨some 100, .nilchk (.t 99), none⟩,
    ⟨some 101, .fldA 3 (.t 100), none⟩,
    ⟨some 102, .load false 1 (.t 101), none⟩,
    ⟨none, .store 2 (.t 2) (.t 98), none⟩,
    ⟨some 3, .mov (.c (.slice [] .nil)), none⟩,
    ⟨some 4, .mov (.t 102), none⟩] [(1, 5), (4, 5)])
  (.ret))
  (.skip)))
 (.seq (.reg [⟨some 103, .load false 1 (.t 8), none⟩,
   ⟨some 104, .nilchk (.t 103), none⟩,
   ⟨some 105, .fldA 0 (.t 104), none⟩,
   ⟨some 106, .load true 2 (.t 105), none⟩,
   ⟨some 107, .mov (.t 14), none⟩,
   ⟨none, .store 2 (.t 2) (.t 106), none⟩,
   ⟨some 3, .mov (.t 107), none⟩,
   ⟨some 4, .mov (.c (.int .i64 0)), none⟩])
 (.ret))))))))))
def r13 : List ARV := [.cell 2 true 2, .tmp 3, .tmp 4]
theorem b13 : Try.f13.body.bind (tr Try.prog 108) = some c13.bare := by kernel_rfl
theorem q13 : trRes Try.prog Try.f13.results.toList = some r13 := by kernel_rfl
theorem n13 : (Try.f13.name == "runtime.NumGoroutine") = false := by kernel_rfl

def c18 : ACode :=
 .seq (.reg [⟨some 2, .boxI (.t 0), none⟩,
   ⟨some 3, .boxI (.t 1), none⟩,
   ⟨some 4, .alloc [(.int .i64 0), (.slice [] .nil), (.slice [] .nil), (.slice [] .nil)], none⟩,
   ⟨some 5, .alloc [(.int .i64 0)], none⟩])
 (.seq (.seq (.reg [⟨some 17, .load true 4 (.t 2), none⟩,
   ⟨some 18, .load true 4 (.t 3), none⟩,
   ⟨some 19, .bslice 4 [(.t 17), (.t 18)], none⟩,
   ⟨some 20, .call (.c (.fn 47 [] [])) [(.t 19)], none⟩,
   ⟨none, .store 1 (.t 5) (.t 20), none⟩])
 (.seq (.reg [⟨some 21, .load false 1 (.t 5), none⟩,
   ⟨some 22, .bin .neq false (.t 21) (.c (.int .i64 0)), none⟩])
 (.cond (.t 22)
  (.seq (.drw [⟨some 23, .load true 4 (.t 4), none⟩,
    ⟨some 24, .load false 1 (.t 5), none⟩,
    ⟨none, .store 4 (.t 4) (.t 23), none⟩,
    ⟨none, .store 1 (.t 5) (.t 24), none⟩] [(1, 2)])
  (.ret))
  (.skip))))
 (.seq (.seq (.reg [⟨some 25, .fldA 0 (.t 2), none⟩,
   ⟨some 26, .load false 1 (.t 25), none⟩,
   ⟨some 27, .fldA 1 (.t 2), none⟩,
   ⟨some 28, .load false 1 (.t 27), none⟩,
   ⟨some 29, .len (.t 28), none⟩,
   ⟨some 30, .fldA 3 (.t 2), none⟩,
   ⟨some 31, .load false 1 (.t 30), none⟩,
   ⟨some 32, .len (.t 31), none⟩,
   ⟨some 33, .build [(.int .i64 0), (.int .i64 0), (.int .i64 0)] [(0, 1, (.t 26)), (1, 1, (.t 29)), (2, 1, (.t 32))], none⟩,
   ⟨some 34, .fldA 0 (.t 3), none⟩,
   ⟨some 35, .load false 1 (.t 34), none⟩,
   ⟨some 36, .fldA 1 (.t 3), none⟩,
   ⟨some 37, .load false 1 (.t 36), none⟩,
   ⟨some 38, .len (.t 37), none⟩,
   ⟨some 39, .fldA 3 (.t 3), none⟩,
   ⟨some 40, .load false 1 (.t 39), none⟩,
   ⟨some 41, .len (.t 40), none⟩,
   ⟨some 42, .build [(.int .i64 0), (.int .i64 0), (.int .i64 0)] [(0, 1, (.t 35)), (1, 1, (.t 38)), (2, 1, (.t 41))], none⟩,
   ⟨some 43, .eqs true [0, 0, 0] (.t 33) (.t 42), none⟩])
 (.cond (.t 43)
  (.seq (.reg [⟨some 44, .load true 4 (.t 4), none⟩,
    ⟨none, .store 4 (.t 4) (.t 44), none⟩,
    ⟨none, .store 1 (.t 5) (.c (.int .i64 1)), none⟩])
  (.ret))
  (.skip)))
 (.seq (.drw [⟨some 45, .fldA 0 (.t 2), none⟩,
   ⟨some 46, .load false 1 (.t 45), none⟩,
   ⟨some 47, .fldA 1 (.t 2), none⟩,
   ⟨some 48, .load false 1 (.t 47), none⟩,
   ⟨some 49, .len (.t 48), none⟩,
   ⟨some 50, .mkslice 2 16 [(.int .i64 0), (.bool false)] true (.t 49) (.t 49), none⟩,
   ⟨some 51, .fldA 2 (.t 2), none⟩,
   ⟨some 52, .load false 1 (.t 51), none⟩,
   ⟨some 53, .call (.c (.fn 48 [] [])) [(.t 52)], none⟩,
   ⟨some 54, .build [(.int .i64 0), (.slice [] .nil), (.slice [] .nil), (.slice [] .nil)] [(0, 1, (.t 46)), (1, 1, (.t 50)), (2, 1, (.t 53))], none⟩,
   ⟨none, .store 4 (.t 4) (.t 54), none⟩] [(1, 5), (1, 8), (3, 8), (5, 7), (5, 8), (8, 8)])
 (.seq (.reg [⟨some 6, .alloc [(.slice [] .nil)], none⟩])
 (.seq (.seq (.reg [⟨some 55, .fldA 0 (.t 2), none⟩,
   ⟨some 56, .load false 1 (.t 55), none⟩,
   ⟨some 57, .bin .add false (.c (.int .i64 1)) (.t 56), none⟩,
   ⟨some 58, .fldA 1 (.t 2), none⟩,
   ⟨some 59, .load false 1 (.t 58), none⟩,
   ⟨some 60, .len (.t 59), none⟩,
   ⟨some 61, .bin .add false (.t 57) (.t 60), none⟩,
   ⟨some 62, .mov (.c (.int .i64 0)), none⟩])
 (.block 0 (.loop (.seq (.reg [⟨some 63, .bin .lss false (.t 62) (.t 61), none⟩])
  (.seq (.cond (.t 63)
   (.skip)
   (.exit 0))
  (.seq (.block 1 (.seq (.reg [⟨some 64, .mov (.t 62), none⟩,
    ⟨some 7, .mov (.t 64), none⟩])
  (.reg [⟨some 65, .load false 1 (.t 6), none⟩,
    ⟨some 66, .mov (.t 7), none⟩,
    ⟨some 67, .bin .shl false (.t 66) (.c (.int .u64 1)), none⟩,
    ⟨some 68, .bslice 1 [(.t 67)], none⟩,
    ⟨some 69, .append 1 8 (.t 65) (.t 68), none⟩,
    ⟨none, .store 1 (.t 6) (.t 69), none⟩])))
  (.reg [⟨some 70, .bin .add false (.t 62) (.c (.int .i64 1)), none⟩,
    ⟨some 62, .mov (.t 70), none⟩])))))))
 (.seq (.reg [⟨some 71, .mkfn 49 [] [(.t 6)], none⟩,
   ⟨some 8, .mov (.t 71), none⟩])
 (.seq (.reg [⟨some 72, .mkfn 50 [] [(.t 5), (.t 4)], none⟩,
   ⟨some 9, .mov (.t 72), none⟩])
 (.seq (.seq (.reg [⟨some 73, .fldA 2 (.t 3), none⟩,
   ⟨some 74, .load false 1 (.t 73), none⟩,
   ⟨some 75, .len (.t 74), none⟩,
   ⟨some 76, .mov (.c (.int .i64 0)), none⟩])
 (.block 2 (.loop (.seq (.reg [⟨some 77, .bin .lss false (.t 76) (.t 75), none⟩])
  (.seq (.cond (.t 77)
   (.skip)
   (.exit 2))
  (.seq (.block 3 (.seq (.reg [⟨some 78, .idxS 2 (.t 74) (.t 76), none⟩,
    ⟨some 79, .load true 2 (.t 78), none⟩,
    ⟨some 11, .alloc [(.int .i64 0), (.int .i64 0)], none⟩,
    ⟨none, .store 2 (.t 11) (.t 79), none⟩])
  (.drw [⟨some 80, .load false 1 (.t 6), none⟩,
    ⟨some 81, .mov (.t 9), none⟩,
    ⟨some 82, .mov (.t 8), none⟩,
    ⟨some 83, .idxR 1 2 (.t 11) (.c (.int .i64 0)), none⟩,
    ⟨some 84, .load false 1 (.t 83), none⟩,
    ⟨some 85, .call (.t 82) [(.t 84)], none⟩,
    ⟨some 86, .mov (.t 8), none⟩,
    ⟨some 87, .idxR 1 2 (.t 11) (.c (.int .i64 1)), none⟩,
    ⟨some 88, .load false 1 (.t 87), none⟩,
    ⟨some 89, .call (.t 86) [(.t 88)], none⟩,
    ⟨some 90, .call (.t 81) [(.c (.fn 51 [] [])), (.t 85), (.t 89)], none⟩,
    ⟨some 91, .bslice 1 [(.t 90)], none⟩,
    ⟨some 92, .append 1 8 (.t 80) (.t 91), none⟩,
    ⟨none, .store 1 (.t 6) (.t 92), none⟩] [(0, 5), (0, 9), (0, 10), (5, 8)])))
  (.reg [⟨some 93, .bin .add false (.t 76) (.c (.int .i64 1)), none⟩,
    ⟨some 76, .mov (.t 93), none⟩])))))))
 (.seq (.drw [⟨some 94, .fldA 3 (.t 2), none⟩,
   ⟨some 95, .load false 1 (.t 94), none⟩,
   ⟨some 96, .load true 4 (.t 2), none⟩,
   ⟨some 97, .call (.c (.fn 42 [] [])) [(.t 96)], none⟩,
   ⟨some 98, .bslice 1 [(.t 95), (.t 97)], none⟩,
   ⟨some 99, .call (.c (.fn 52 [] [])) [(.t 98)], none⟩,
   ⟨some 100, .mov (.t 8), none⟩,
   ⟨some 101, .fldA 3 (.t 3), none⟩,
   ⟨some 102, .load false 1 (.t 101), none⟩,
   ⟨some 103, .load true 4 (.t 3), none⟩,
   ⟨some 104, .call (.c (.fn 42 [] [])) [(.t 103)], none⟩,
   ⟨some 105, .bslice 1 [(.t 102), (.t 104)], none⟩,
   ⟨some 106, .call (.c (.fn 41 [] [])) [(.t 100), (.t 105)], none⟩,
   ⟨some 12, .mov (.t 99), none⟩,
   ⟨some 13, .mov (.t 106), none⟩] [(1, 3), (3, 8), (3, 9), (5, 8), (5, 9), (8, 10)])
 (.seq (.reg [⟨some 14, .mov (.c (.int .i64 0)), none⟩])
 (.seq (.seq (.reg [⟨some 107, .mov (.t 12), none⟩,
   ⟨some 108, .len (.t 107), none⟩,
   ⟨some 109, .mov (.c (.int .i64 0)), none⟩])
 (.block 4 (.loop (.seq (.reg [⟨some 110, .bin .lss false (.t 109) (.t 108), none⟩])
  (.seq (.cond (.t 110)
   (.skip)
   (.exit 4))
  (.seq (.block 5 (.seq (.reg [⟨some 111, .mov (.t 109), none⟩,
    ⟨some 112, .idxS 1 (.t 107) (.t 109), none⟩,
    ⟨some 113, .load false 1 (.t 112), none⟩,
    ⟨some 15, .mov (.t 111), none⟩,
    ⟨some 16, .mov (.t 113), none⟩])
  (.reg [⟨some 114, .mov (.t 9), none⟩,
    ⟨some 115, .mov (.t 14), none⟩,
    ⟨some 116, .mov (.t 9), none⟩,
    ⟨some 117, .mov (.t 16), none⟩,
    ⟨some 118, .mov (.t 13), none⟩,
    ⟨some 119, .mov (.t 15), none⟩,
    ⟨some 120, .idxS 1 (.t 118) (.t 119), none⟩,
    ⟨some 121, .load false 1 (.t 120), none⟩,
    ⟨some 122, .call (.t 116) [(.c (.fn 54 [] [])), (.t 117), (.t 121)], none⟩,
    ⟨some 123, .call (.t 114) [(.c (.fn 53 [] [])), (.t 115), (.t 122)], none⟩,
    ⟨some 14, .mov (.t 123), none⟩])))
  (.reg [⟨some 124, .bin .add false (.t 109) (.c (.int .i64 1)), none⟩,
    ⟨some 109, .mov (.t 124), none⟩])))))))
 (.seq (.seq (.reg [⟨some 125, .load false 1 (.t 5), none⟩,
   ⟨some 126, .bin .neq false (.t 125) (.c (.int .i64 0)), none⟩])
 (.cond (.t 126)
  (.seq (.drw [⟨some 127, .build [(.int .i64 0), (.slice [] .nil), (.slice [] .nil), (.slice [] .nil)] [], none⟩,
    ⟨some 128, .load false 1 (.t 5), none⟩,
    ⟨none, .store 4 (.t 4) (.t 127), none⟩,
    ⟨none, .store 1 (.t 5) (.t 128), none⟩] [(1, 2)])
  (.ret))
  (.skip)))
 (.seq (.reg [⟨some 129, .mov (.t 14), none⟩,
   ⟨some 130, .bslice 1 [(.t 129)], none⟩,
   ⟨some 131, .fldA 3 (.t 4), none⟩,
   ⟨none, .store 1 (.t 131) (.t 130), none⟩])
 (.seq (.drw [⟨some 132, .load true 4 (.t 4), none⟩,
   ⟨some 133, .load false 1 (.t 5), none⟩,
   ⟨none, .store 4 (.t 4) (.t 132), none⟩,
   ⟨none, .store 1 (.t 5) (.t 133), none⟩] [(1, 2)])
 (.ret)))))))))))))))
def r18 : List ARV := [.cell 4 true 4, .cell 5 false 1]
theorem b18 : Try.f18.body.bind (tr Try.prog 134) = some c18.bare := by kernel_rfl
theorem q18 : trRes Try.prog Try.f18.results.toList = some r18 := by kernel_rfl
theorem n18 : (Try.f18.name == "runtime.NumGoroutine") = false := by kernel_rfl

def c20 : ACode :=
 .seq (.reg [⟨some 3, .boxI (.t 0), none⟩,
   ⟨some 4, .boxI (.t 1), none⟩,
   ⟨some 6, .mov (.c (.int .i64 0)), none⟩,
   ⟨some 7, .mov (.c (.int .i64 0)), none⟩])
 (.seq (.seq (.reg [⟨some 15, .load true 4 (.t 3), none⟩,
   ⟨some 16, .load true 4 (.t 4), none⟩,
   ⟨some 17, .bslice 4 [(.t 15), (.t 16)], none⟩,
   ⟨some 18, .call (.c (.fn 47 [] [])) [(.t 17)], none⟩,
   ⟨some 8, .mov (.t 18), none⟩])
 (.seq (.reg [⟨some 19, .mov (.t 8), none⟩,
   ⟨some 20, .bin .neq false (.t 19) (.c (.int .i64 0)), none⟩])
 (.cond (.t 20)
  (.seq (.reg [⟨some 21, .mov (.t 8), none⟩,
    ⟨some 6, .mov (.c (.int .i64 0)), none⟩,
    ⟨some 7, .mov (.t 21), none⟩])
  (.ret))
  (.skip))))
 (.seq (.seq (.reg [⟨some 22, .fldA 0 (.t 3), none⟩,
   ⟨some 23, .load false 1 (.t 22), none⟩,
   ⟨some 24, .fldA 0 (.t 4), none⟩,
   ⟨some 25, .load false 1 (.t 24), none⟩,
   ⟨some 26, .bin .neq false (.t 23) (.t 25), none⟩,
   ⟨some 27, .mov (.t 26), none⟩,
   ⟨some 28, .fldA 3 (.t 3), some (27, false)⟩,
   ⟨some 29, .load false 1 (.t 28), some (27, false)⟩,
   ⟨some 30, .len (.t 29), some (27, false)⟩,
   ⟨some 31, .fldA 3 (.t 4), some (27, false)⟩,
   ⟨some 32, .load false 1 (.t 31), some (27, false)⟩,
   ⟨some 33, .len (.t 32), some (27, false)⟩,
   ⟨some 34, .bin .neq false (.t 30) (.t 33), some (27, false)⟩,
   ⟨some 35, .pick (.t 27) (.c (.bool true)) (.t 34), none⟩])
 (.cond (.t 35)
  (.seq (.reg [⟨some 6, .mov (.c (.int .i64 0)), none⟩,
    ⟨some 7, .mov (.c (.int .i64 1)), none⟩])
  (.ret))
  (.skip)))
 (.seq (.reg [⟨some 37, .load true 4 (.t 3), none⟩,
   ⟨some 38, .mov (.t 2), none⟩,
   ⟨some 39, .call (.c (.fn 59 [] [])) [(.t 37), (.t 38)], none⟩,
   ⟨some 36, .mov (.t 39), none⟩,
   ⟨some 40, .extract (.t 36) 0, none⟩,
   ⟨some 41, .extract (.t 36) 1, none⟩,
   ⟨some 9, .mov (.t 40), none⟩,
   ⟨some 10, .mov (.t 41), none⟩])
 (.seq (.seq (.reg [⟨some 42, .mov (.t 10), none⟩,
   ⟨some 43, .bin .neq false (.t 42) (.c (.int .i64 0)), none⟩])
 (.cond (.t 43)
  (.seq (.reg [⟨some 44, .mov (.t 10), none⟩,
    ⟨some 6, .mov (.c (.int .i64 0)), none⟩,
    ⟨some 7, .mov (.t 44), none⟩])
  (.ret))
  (.skip)))
 (.seq (.reg [⟨some 46, .load true 4 (.t 4), none⟩,
   ⟨some 47, .mov (.t 2), none⟩,
   ⟨some 48, .call (.c (.fn 59 [] [])) [(.t 46), (.t 47)], none⟩,
   ⟨some 45, .mov (.t 48), none⟩,
   ⟨some 49, .extract (.t 45) 0, none⟩,
   ⟨some 50, .extract (.t 45) 1, none⟩,
   ⟨some 11, .mov (.t 49), none⟩,
   ⟨some 12, .mov (.t 50), none⟩])
 (.seq (.seq (.reg [⟨some 51, .mov (.t 9), none⟩,
   ⟨some 52, .len (.t 51), none⟩,
   ⟨some 53, .mov (.c (.int .i64 0)), none⟩])
 (.block 0 (.loop (.seq (.reg [⟨some 54, .bin .lss false (.t 53) (.t 52), none⟩])
  (.seq (.cond (.t 54)
   (.skip)
   (.exit 0))
  (.seq (.block 1 (.seq (.reg [⟨some 55, .mov (.t 53), none⟩,
    ⟨some 56, .idxS 1 (.t 51) (.t 53), none⟩,
    ⟨some 57, .load false 1 (.t 56), none⟩,
    ⟨some 13, .mov (.t 55), none⟩,
    ⟨some 14, .mov (.t 57), none⟩])
  (.seq (.reg [⟨some 58, .mov (.t 14), none⟩,
    ⟨some 59, .mov (.t 11), none⟩,
    ⟨some 60, .mov (.t 13), none⟩,
    ⟨some 61, .idxS 1 (.t 59) (.t 60), none⟩,
    ⟨some 62, .load false 1 (.t 61), none⟩,
    ⟨some 63, .call (.c (.fn 60 [] [])) [(.t 58), (.t 62)], none⟩,
    ⟨some 64, .un .not (.t 63), none⟩])
  (.cond (.t 64)
   (.seq (.reg [⟨some 65, .mov (.t 13), none⟩,
     ⟨some 66, .mov (.t 10), none⟩,
     ⟨some 6, .mov (.t 65), none⟩,
     ⟨some 7, .mov (.t 66), none⟩])
   (.ret))
   (.skip)))))
  (.reg [⟨some 67, .bin .add false (.t 53) (.c (.int .i64 1)), none⟩,
    ⟨some 53, .mov (.t 67), none⟩])))))))
 (.seq (.reg [⟨some 68, .mov (.t 10), none⟩,
   ⟨some 6, .mov (.c (.int .i64 (-1))), none⟩,
   ⟨some 7, .mov (.t 68), none⟩])
 (.ret))))))))
def r20 : List ARV := [.tmp 6, .tmp 7]
theorem b20 : Try.f20.body.bind (tr Try.prog 69) = some c20.bare := by kernel_rfl
theorem q20 : trRes Try.prog Try.f20.results.toList = some r20 := by kernel_rfl
theorem n20 : (Try.f20.name == "runtime.NumGoroutine") = false := by kernel_rfl

def c23 : ACode :=
 .seq (.reg [⟨some 2, .boxI (.t 0), none⟩,
   ⟨some 3, .boxI (.t 1), none⟩,
   ⟨some 4, .mov (.c (.bool false)), none⟩,
   ⟨some 5, .mov (.c (.slice [] .nil)), none⟩,
   ⟨some 6, .mov (.c (.slice [] .nil)), none⟩,
   ⟨some 7, .mov (.c (.int .i64 0)), none⟩])
 (.seq (.reg [⟨some 15, .load true 4 (.t 2), none⟩,
   ⟨some 16, .load true 4 (.t 3), none⟩,
   ⟨some 17, .call (.c (.fn 18 [] [])) [(.t 15), (.t 16)], none⟩,
   ⟨some 14, .mov (.t 17), none⟩,
   ⟨some 18, .extract (.t 14) 0, none⟩,
   ⟨some 19, .extract (.t 14) 1, none⟩,
   ⟨some 8, .alloc [(.int .i64 0), (.slice [] .nil), (.slice [] .nil), (.slice [] .nil)], none⟩,
   ⟨none, .store 4 (.t 8) (.t 18), none⟩,
   ⟨some 7, .mov (.t 19), none⟩])
 (.seq (.seq (.reg [⟨some 20, .mov (.t 7), none⟩,
   ⟨some 21, .bin .neq false (.t 20) (.c (.int .i64 0)), none⟩])
 (.cond (.t 21)
  (.seq (.reg [⟨some 22, .mov (.t 4), none⟩,
    ⟨some 23, .mov (.t 5), none⟩,
    ⟨some 24, .mov (.t 6), none⟩,
    ⟨some 25, .mov (.t 7), none⟩,
    ⟨some 4, .mov (.t 22), none⟩,
    ⟨some 5, .mov (.t 23), none⟩,
    ⟨some 6, .mov (.t 24), none⟩,
    ⟨some 7, .mov (.t 25), none⟩])
  (.ret))
  (.skip)))
 (.seq (.reg [⟨some 27, .load true 4 (.t 8), none⟩,
   ⟨some 28, .call (.c (.fn 13 [] [])) [(.t 27)], none⟩,
   ⟨some 26, .mov (.t 28), none⟩,
   ⟨some 29, .extract (.t 26) 0, none⟩,
   ⟨some 30, .extract (.t 26) 1, none⟩,
   ⟨some 31, .extract (.t 26) 2, none⟩,
   ⟨some 9, .alloc [(.int .i64 0), (.slice [] .nil)], none⟩,
   ⟨none, .store 2 (.t 9) (.t 29), none⟩,
   ⟨some 10, .mov (.t 30), none⟩,
   ⟨some 7, .mov (.t 31), none⟩])
 (.seq (.seq (.reg [⟨some 32, .mov (.t 7), none⟩,
   ⟨some 33, .bin .neq false (.t 32) (.c (.int .i64 0)), none⟩])
 (.cond (.t 33)
  (.seq (.reg [⟨some 34, .mov (.t 4), none⟩,
    ⟨some 35, .mov (.t 5), none⟩,
    ⟨some 36, .mov (.t 6), none⟩,
    ⟨some 37, .mov (.t 7), none⟩,
    ⟨some 4, .mov (.t 34), none⟩,
    ⟨some 5, .mov (.t 35), none⟩,
    ⟨some 6, .mov (.t 36), none⟩,
    ⟨some 7, .mov (.t 37), none⟩])
  (.ret))
  (.skip)))
 (.seq (.drw [⟨some 39, .load true 2 (.t 9), none⟩,
   ⟨some 40, .mov (.t 10), none⟩,
   ⟨some 41, .idxS 1 (.t 40) (.c (.int .i64 0)), none⟩,
   ⟨some 42, .load false 1 (.t 41), none⟩,
   ⟨some 43, .call (.c (.fn 61 [] [])) [(.t 39), (.t 42)], none⟩,
   ⟨some 38, .mov (.t 43), none⟩,
   ⟨some 44, .extract (.t 38) 0, none⟩,
   ⟨some 45, .extract (.t 38) 1, none⟩,
   ⟨some 46, .extract (.t 38) 2, none⟩,
   ⟨some 11, .mov (.t 44), none⟩,
   ⟨some 12, .mov (.t 45), none⟩,
   ⟨some 13, .mov (.t 46), none⟩] [])
 (.seq (.seq (.reg [⟨some 47, .mov (.t 12), none⟩])
 (.cond (.t 47)
  (.seq (.drw [⟨some 48, .mov (.t 11), none⟩,
    ⟨some 49, .fldA 0 (.t 2), none⟩,
    ⟨some 50, .load false 1 (.t 49), none⟩,
    ⟨some 51, .slc 1 (.t 48) none (some (.t 50)) none, none⟩,
    ⟨some 52, .mov (.t 11), none⟩,
    ⟨some 53, .fldA 0 (.t 2), none⟩,
    ⟨some 54, .load false 1 (.t 53), none⟩,
    ⟨some 55, .slc 1 (.t 52) (some (.t 54)) none none, none⟩,
    ⟨some 56, .mov (.t 7), none⟩,
    ⟨some 4, .mov (.c (.bool false)), none⟩,
    ⟨some 5, .mov (.t 51), none⟩,
    ⟨some 6, .mov (.t 55), none⟩,
    ⟨some 7, .mov (.t 56), none⟩] [])
  (.ret))
  (.skip)))
 (.seq (.reg [⟨some 57, .mov (.t 5), none⟩,
   ⟨some 58, .mov (.t 6), none⟩,
   ⟨some 59, .mov (.t 7), none⟩,
   ⟨some 4, .mov (.c (.bool true)), none⟩,
   ⟨some 5, .mov (.t 57), none⟩,
   ⟨some 6, .mov (.t 58), none⟩,
   ⟨some 7, .mov (.t 59), none⟩])
 (.ret))))))))
def r23 : List ARV := [.tmp 4, .tmp 5, .tmp 6, .tmp 7]
theorem b23 : Try.f23.body.bind (tr Try.prog 60) = some c23.bare := by kernel_rfl
theorem q23 : trRes Try.prog Try.f23.results.toList = some r23 := by kernel_rfl
theorem n23 : (Try.f23.name == "runtime.NumGoroutine") = false := by kernel_rfl

def c29 : ACode :=
 .seq (.reg [⟨some 1, .boxI (.t 0), none⟩,
   ⟨some 2, .mov (.c (.int .i64 0)), none⟩])
 (.seq (.seq (.reg [⟨some 7, .fldA 0 (.t 1), none⟩,
   ⟨some 8, .load false 1 (.t 7), none⟩,
   ⟨some 9, .bin .lss false (.t 8) (.c (.int .i64 0)), none⟩])
 (.cond (.t 9)
  (.seq (.reg [⟨some 2, .mov (.c (.int .i64 1)), none⟩])
  (.ret))
  (.skip)))
 (.seq (.seq (.reg [⟨some 10, .fldA 0 (.t 1), none⟩,
   ⟨some 11, .load false 1 (.t 10), none⟩,
   ⟨some 12, .bin .gtr false (.t 11) (.c (.int .i64 65536)), none⟩,
   ⟨some 13, .mov (.t 12), none⟩,
   ⟨some 14, .fldA 0 (.t 1), some (13, false)⟩,
   ⟨some 15, .load false 1 (.t 14), some (13, false)⟩,
   ⟨some 16, .fldA 1 (.t 1), some (13, false)⟩,
   ⟨some 17, .load false 1 (.t 16), some (13, false)⟩,
   ⟨some 18, .len (.t 17), some (13, false)⟩,
   ⟨some 19, .bin .add false (.t 15) (.t 18), some (13, false)⟩,
   ⟨some 20, .fldA 2 (.t 1), some (13, false)⟩,
   ⟨some 21, .load false 1 (.t 20), some (13, false)⟩,
   ⟨some 22, .len (.t 21), some (13, false)⟩,
   ⟨some 23, .bin .add false (.t 19) (.t 22), some (13, false)⟩,
   ⟨some 24, .bin .gtr false (.t 23) (.c (.int .i64 65536)), some (13, false)⟩,
   ⟨some 25, .pick (.t 13) (.c (.bool true)) (.t 24), none⟩,
   ⟨some 26, .mov (.t 25), none⟩,
   ⟨some 27, .fldA 3 (.t 1), some (26, false)⟩,
   ⟨some 28, .load false 1 (.t 27), some (26, false)⟩,
   ⟨some 29, .len (.t 28), some (26, false)⟩,
   ⟨some 30, .bin .gtr false (.t 29) (.c (.int .i64 65536)), some (26, false)⟩,
   ⟨some 31, .pick (.t 26) (.c (.bool true)) (.t 30), none⟩])
 (.cond (.t 31)
  (.seq (.reg [⟨some 2, .mov (.c (.int .i64 2)), none⟩])
  (.ret))
  (.skip)))
 (.seq (.reg [⟨some 32, .fldA 0 (.t 1), none⟩,
   ⟨some 33, .load false 1 (.t 32), none⟩,
   ⟨some 34, .bin .add false (.c (.int .i64 1)) (.t 33), none⟩,
   ⟨some 35, .fldA 1 (.t 1), none⟩,
   ⟨some 36, .load false 1 (.t 35), none⟩,
   ⟨some 37, .len (.t 36), none⟩,
   ⟨some 38, .bin .add false (.t 34) (.t 37), none⟩,
   ⟨some 3, .mov (.t 38), none⟩])
 (.seq (.seq (.reg [⟨some 4, .mov (.c (.int .i64 0)), none⟩])
 (.block 0 (.loop (.seq (.seq (.reg [⟨some 39, .mov (.t 4), none⟩,
    ⟨some 40, .fldA 2 (.t 1), none⟩,
    ⟨some 41, .load false 1 (.t 40), none⟩,
    ⟨some 42, .len (.t 41), none⟩,
    ⟨some 43, .bin .lss false (.t 39) (.t 42), none⟩])
  (.cond (.t 43)
   (.skip)
   (.exit 0)))
  (.seq (.block 1 (.seq (.reg [⟨some 46, .mov (.t 3), none⟩,
    ⟨some 47, .mov (.t 4), none⟩,
    ⟨some 48, .bin .add false (.t 46) (.t 47), none⟩,
    ⟨some 49, .fldA 2 (.t 1), none⟩,
    ⟨some 50, .load false 1 (.t 49), none⟩,
    ⟨some 51, .mov (.t 4), none⟩,
    ⟨some 52, .idxS 2 (.t 50) (.t 51), none⟩,
    ⟨some 53, .idxR 1 2 (.t 52) (.c (.int .i64 0)), none⟩,
    ⟨some 54, .load false 1 (.t 53), none⟩,
    ⟨some 55, .call (.c (.fn 64 [] [])) [(.t 48), (.t 54)], none⟩,
    ⟨some 56, .un .not (.t 55), none⟩,
    ⟨some 57, .mov (.t 56), none⟩,
    ⟨some 58, .mov (.t 3), some (57, false)⟩,
    ⟨some 59, .mov (.t 4), some (57, false)⟩,
    ⟨some 60, .bin .add false (.t 58) (.t 59), some (57, false)⟩,
    ⟨some 61, .fldA 2 (.t 1), some (57, false)⟩,
    ⟨some 62, .load false 1 (.t 61), some (57, false)⟩,
    ⟨some 63, .mov (.t 4), some (57, false)⟩,
    ⟨some 64, .idxS 2 (.t 62) (.t 63), some (57, false)⟩,
    ⟨some 65, .idxR 1 2 (.t 64) (.c (.int .i64 1)), some (57, false)⟩,
    ⟨some 66, .load false 1 (.t 65), some (57, false)⟩,
    ⟨some 67, .call (.c (.fn 64 [] [])) [(.t 60), (.t 66)], some (57, false)⟩,
    ⟨some 68, .un .not (.t 67), some (57, false)⟩,
    ⟨some 69, .pick (.t 57) (.c (.bool true)) (.t 68), none⟩])
  (.cond (.t 69)
   (.seq (.reg [⟨some 2, .mov (.c (.int .i64 1)), none⟩])
   (.ret))
   (.skip))))
  (.reg [⟨some 44, .mov (.t 4), none⟩,
    ⟨some 45, .bin .add false (.t 44) (.c (.int .i64 1)), none⟩,
    ⟨some 4, .mov (.t 45), none⟩]))))))
 (.seq (.seq (.reg [⟨some 5, .mov (.c (.int .i64 0)), none⟩])
 (.block 2 (.loop (.seq (.seq (.reg [⟨some 70, .mov (.t 5), none⟩,
    ⟨some 71, .fldA 1 (.t 1), none⟩,
    ⟨some 72, .load false 1 (.t 71), none⟩,
    ⟨some 73, .len (.t 72), none⟩,
    ⟨some 74, .bin .lss false (.t 70) (.t 73), none⟩])
  (.cond (.t 74)
   (.skip)
   (.exit 2)))
  (.seq (.block 3 (.seq (.drw [⟨some 77, .load true 4 (.t 1), none⟩,
    ⟨some 78, .call (.c (.fn 30 [] [])) [(.t 77)], none⟩,
    ⟨some 79, .fldA 1 (.t 1), none⟩,
    ⟨some 80, .load false 1 (.t 79), none⟩,
    ⟨some 81, .mov (.t 5), none⟩,
    ⟨some 82, .idxS 2 (.t 80) (.t 81), none⟩,
    ⟨some 83, .fldA 0 (.t 82), none⟩,
    ⟨some 84, .load false 1 (.t 83), none⟩,
    ⟨some 85, .call (.c (.fn 64 [] [])) [(.t 78), (.t 84)], none⟩,
    ⟨some 86, .un .not (.t 85), none⟩] [(1, 3), (1, 7)])
  (.cond (.t 86)
   (.seq (.reg [⟨some 2, .mov (.c (.int .i64 1)), none⟩])
   (.ret))
   (.skip))))
  (.reg [⟨some 75, .mov (.t 5), none⟩,
    ⟨some 76, .bin .add false (.t 75) (.c (.int .i64 1)), none⟩,
    ⟨some 5, .mov (.t 76), none⟩]))))))
 (.seq (.seq (.reg [⟨some 6, .mov (.c (.int .i64 0)), none⟩])
 (.block 4 (.loop (.seq (.seq (.reg [⟨some 87, .mov (.t 6), none⟩,
    ⟨some 88, .fldA 3 (.t 1), none⟩,
    ⟨some 89, .load false 1 (.t 88), none⟩,
    ⟨some 90, .len (.t 89), none⟩,
    ⟨some 91, .bin .lss false (.t 87) (.t 90), none⟩])
  (.cond (.t 91)
   (.skip)
   (.exit 4)))
  (.seq (.block 5 (.seq (.drw [⟨some 94, .load true 4 (.t 1), none⟩,
    ⟨some 95, .call (.c (.fn 30 [] [])) [(.t 94)], none⟩,
    ⟨some 96, .fldA 3 (.t 1), none⟩,
    ⟨some 97, .load false 1 (.t 96), none⟩,
    ⟨some 98, .mov (.t 6), none⟩,
    ⟨some 99, .idxS 1 (.t 97) (.t 98), none⟩,
    ⟨some 100, .load false 1 (.t 99), none⟩,
    ⟨some 101, .call (.c (.fn 64 [] [])) [(.t 95), (.t 100)], none⟩,
    ⟨some 102, .un .not (.t 101), none⟩] [(1, 3), (1, 6)])
  (.cond (.t 102)
   (.seq (.reg [⟨some 2, .mov (.c (.int .i64 1)), none⟩])
   (.ret))
   (.skip))))
  (.reg [⟨some 92, .mov (.t 6), none⟩,
    ⟨some 93, .bin .add false (.t 92) (.c (.int .i64 1)), none⟩,
    ⟨some 6, .mov (.t 93), none⟩]))))))
 (.seq (.reg [⟨some 2, .mov (.c (.int .i64 0)), none⟩])
 (.ret))))))))
def r29 : List ARV := [.tmp 2]
theorem b29 : Try.f29.body.bind (tr Try.prog 103) = some c29.bare := by kernel_rfl
theorem q29 : trRes Try.prog Try.f29.results.toList = some r29 := by kernel_rfl
theorem n29 : (Try.f29.name == "runtime.NumGoroutine") = false := by kernel_rfl

def c30 : ACode :=
 .seq (.reg [⟨some 1, .boxI (.t 0), none⟩,
   ⟨some 2, .mov (.c (.int .i64 0)), none⟩])
 (.seq (.reg [⟨some 3, .fldA 0 (.t 1), none⟩,
   ⟨some 4, .load false 1 (.t 3), none⟩,
   ⟨some 5, .bin .add false (.c (.int .i64 1)) (.t 4), none⟩,
   ⟨some 6, .fldA 1 (.t 1), none⟩,
   ⟨some 7, .load false 1 (.t 6), none⟩,
   ⟨some 8, .len (.t 7), none⟩,
   ⟨some 9, .bin .add false (.t 5) (.t 8), none⟩,
   ⟨some 10, .fldA 2 (.t 1), none⟩,
   ⟨some 11, .load false 1 (.t 10), none⟩,
   ⟨some 12, .len (.t 11), none⟩,
   ⟨some 13, .bin .add false (.t 9) (.t 12), none⟩,
   ⟨some 2, .mov (.t 13), none⟩])
 (.ret))
def r30 : List ARV := [.tmp 2]
theorem b30 : Try.f30.body.bind (tr Try.prog 14) = some c30.bare := by kernel_rfl
theorem q30 : trRes Try.prog Try.f30.results.toList = some r30 := by kernel_rfl
theorem n30 : (Try.f30.name == "runtime.NumGoroutine") = false := by kernel_rfl

def c33 : ACode :=
 .seq (.reg [⟨some 1, .boxI (.t 0), none⟩,
   ⟨some 2, .mov (.c (.int .i64 0)), none⟩])
 (.seq (.reg [⟨some 3, .load true 4 (.t 1), none⟩,
   ⟨some 4, .call (.c (.fn 66 [] [])) [(.t 3), (.c (.slice [] .nil))], none⟩,
   ⟨some 5, .nilchk (.t 4), none⟩,
   ⟨some 6, .fldA 4 (.t 5), none⟩,
   ⟨some 7, .load false 1 (.t 6), none⟩,
   ⟨some 2, .mov (.t 7), none⟩])
 (.ret))
def r33 : List ARV := [.tmp 2]
theorem b33 : Try.f33.body.bind (tr Try.prog 8) = some c33.bare := by kernel_rfl
theorem q33 : trRes Try.prog Try.f33.results.toList = some r33 := by kernel_rfl
theorem n33 : (Try.f33.name == "runtime.NumGoroutine") = false := by kernel_rfl

def c34 : ACode :=
 .seq (.reg [⟨some 2, .alloc [(.int .i64 0), (.slice [] .nil)], none⟩,
   ⟨some 3, .mov (.c (.int .i64 0)), none⟩])
 (.seq (.block 0 (.seq (.reg [⟨some 5, .mov (.t 0), none⟩,
   ⟨some 6, .bin .lss false (.t 5) (.c (.int .i64 0)), none⟩,
   ⟨some 4, .mov (.t 6), none⟩])
 (.cond (.t 4)
  (.seq (.reg [⟨some 7, .build [(.int .i64 0), (.slice [] .nil)] [], none⟩,
    ⟨none, .store 2 (.t 2) (.t 7), none⟩,
    ⟨some 3, .mov (.c (.int .i64 1)), none⟩])
  (.ret))
  (.seq (.reg [⟨some 9, .mov (.t 0), none⟩,
    ⟨some 10, .bin .gtr false (.t 9) (.c (.int .i64 32)), none⟩,
    ⟨some 8, .mov (.t 10), none⟩])
  (.cond (.t 8)
   (.seq (.reg [⟨some 11, .build [(.int .i64 0), (.slice [] .nil)] [], none⟩,
     ⟨none, .store 2 (.t 2) (.t 11), none⟩,
     ⟨some 3, .mov (.c (.int .i64 2)), none⟩])
   (.ret))
   (.skip))))))
 (.seq (.reg [⟨some 12, .mov (.t 0), none⟩,
   ⟨some 13, .build [(.int .i64 0), (.int .i64 0), (.int .i64 0)] [(0, 1, (.c (.int .i64 (-1))))], none⟩,
   ⟨some 14, .build [(.int .i64 0), (.int .i64 0), (.int .i64 0)] [(0, 1, (.c (.int .i64 (-1))))], none⟩,
   ⟨some 15, .bslice 3 [(.t 13), (.t 14)], none⟩,
   ⟨some 16, .build [(.int .i64 0), (.slice [] .nil)] [(0, 1, (.t 12)), (1, 1, (.t 15))], none⟩,
   ⟨none, .store 2 (.t 2) (.t 16), none⟩,
   ⟨some 3, .mov (.c (.int .i64 0)), none⟩])
 (.ret)))
def r34 : List ARV := [.cell 2 true 2, .tmp 3]
theorem b34 : Try.f34.body.bind (tr Try.prog 17) = some c34.bare := by kernel_rfl
theorem q34 : trRes Try.prog Try.f34.results.toList = some r34 := by kernel_rfl
theorem n34 : (Try.f34.name == "runtime.NumGoroutine") = false := by kernel_rfl

def c35 : ACode :=
 .seq (.reg [⟨some 4, .mov (.c (.int .i64 0)), none⟩])
 (.seq (.seq (.reg [⟨some 7, .mov (.t 0), none⟩,
   ⟨some 8, .nilchk (.t 7), none⟩,
   ⟨some 9, .fldA 3 (.t 8), none⟩,
   ⟨some 10, .load false 1 (.t 9), none⟩,
   ⟨some 11, .bin .neq false (.t 10) (.c (.int .i64 0)), none⟩])
 (.cond (.t 11)
  (.seq (.reg [⟨some 12, .mov (.t 4), none⟩,
    ⟨some 4, .mov (.t 12), none⟩])
  (.ret))
  (.skip)))
 (.seq (.reg [⟨some 14, .mov (.t 1), none⟩,
   ⟨some 15, .call (.t 14) [], none⟩,
   ⟨some 13, .mov (.t 15), none⟩,
   ⟨some 16, .extract (.t 13) 0, none⟩,
   ⟨some 17, .extract (.t 13) 1, none⟩,
   ⟨some 18, .extract (.t 13) 2, none⟩,
   ⟨some 5, .alloc [(.int .i64 0), (.slice [] .nil)], none⟩,
   ⟨none, .store 2 (.t 5) (.t 16), none⟩,
   ⟨some 4, .mov (.t 17), none⟩,
   ⟨some 6, .mov (.t 18), none⟩])
 (.seq (.seq (.reg [⟨some 19, .mov (.t 0), none⟩,
   ⟨some 20, .mov (.t 6), none⟩,
   ⟨some 21, .nilchk (.t 19), none⟩,
   ⟨some 22, .fldA 3 (.t 21), none⟩,
   ⟨none, .store 1 (.t 22) (.t 20), none⟩])
 (.seq (.reg [⟨some 23, .mov (.t 6), none⟩,
   ⟨some 24, .bin .neq false (.t 23) (.c (.int .i64 0)), none⟩])
 (.cond (.t 24)
  (.seq (.reg [⟨some 4, .mov (.c (.int .i64 0)), none⟩])
  (.ret))
  (.skip))))
 (.seq (.reg [⟨some 25, .mov (.t 0), none⟩,
   ⟨some 26, .load true 2 (.t 5), none⟩,
   ⟨some 27, .nilchk (.t 25), none⟩,
   ⟨some 28, .fldA 0 (.t 27), none⟩,
   ⟨none, .store 2 (.t 28) (.t 26), none⟩])
 (.seq (.reg [⟨some 29, .mov (.t 4), none⟩,
   ⟨some 4, .mov (.t 29), none⟩])
 (.ret))))))
def r35 : List ARV := [.tmp 4]
theorem b35 : Try.f35.body.bind (tr Try.prog 30) = some c35.bare := by kernel_rfl
theorem q35 : trRes Try.prog Try.f35.results.toList = some r35 := by kernel_rfl
theorem n35 : (Try.f35.name == "runtime.NumGoroutine") = false := by kernel_rfl

def c36 : ACode :=
 .seq (.reg [⟨some 2, .alloc [(.int .i64 0), (.slice [] .nil)], none⟩,
   ⟨some 3, .mov (.c (.int .i64 0)), none⟩,
   ⟨some 4, .mov (.c (.int .i64 0)), none⟩])
 (.seq (.drw [⟨some 5, .load false 1 (.t 0), none⟩,
   ⟨some 6, .nilchk (.t 5), none⟩,
   ⟨some 7, .fldA 0 (.t 6), none⟩,
   ⟨some 8, .load true 2 (.t 7), none⟩,
   ⟨some 9, .load false 1 (.t 1), none⟩,
   ⟨some 10, .call (.c (.fn 37 [] [])) [(.t 8), (.t 9)], none⟩,
   ⟨some 11, .extract (.t 10) 0, none⟩,
   ⟨some 12, .extract (.t 10) 1, none⟩,
   ⟨some 13, .extract (.t 10) 2, none⟩,
   ⟨none, .store 2 (.t 2) (.t 11), none⟩,
   ⟨some 3, .mov (.t 12), none⟩,
   ⟨some 4, .mov (.t 13), none⟩] [])
 (.ret))
def r36 : List ARV := [.cell 2 true 2, .tmp 3, .tmp 4]
theorem b36 : Try.f36.body.bind (tr Try.prog 14) = some c36.bare := by kernel_rfl
theorem q36 : trRes Try.prog Try.f36.results.toList = some r36 := by kernel_rfl
theorem n36 : (Try.f36.name == "runtime.NumGoroutine") = false := by kernel_rfl

def c37 : ACode :=
 .seq (.reg [⟨some 2, .boxI (.t 0), none⟩,
   ⟨some 3, .box (.t 1), none⟩,
   ⟨some 4, .alloc [(.int .i64 0), (.slice [] .nil)], none⟩,
   ⟨some 5, .mov (.c (.int .i64 0)), none⟩,
   ⟨some 6, .mov (.c (.int .i64 0)), none⟩])
 (.seq (.reg [⟨some 10, .load true 2 (.t 2), none⟩,
   ⟨some 11, .call (.c (.fn 65 [] [])) [(.t 10), (.c (.slice [] .nil))], none⟩,
   ⟨some 9, .mov (.t 11), none⟩,
   ⟨some 12, .extract (.t 9) 0, none⟩,
   ⟨some 13, .extract (.t 9) 1, none⟩,
   ⟨some 7, .alloc [.nilp], none⟩,
   ⟨none, .store 1 (.t 7) (.t 12), none⟩,
   ⟨some 8, .mov (.t 13), none⟩])
 (.seq (.seq (.reg [⟨some 14, .mov (.t 8), none⟩,
   ⟨some 15, .bin .eql false (.t 14) (.c (.int .i64 0)), none⟩,
   ⟨some 16, .mov (.t 15), none⟩,
   ⟨some 17, .load false 1 (.t 3), some (16, true)⟩,
   ⟨some 18, .bin .lss false (.t 17) (.c (.int .i64 0)), some (16, true)⟩,
   ⟨some 19, .mov (.t 18), some (16, true)⟩,
   ⟨some 20, .load false 1 (.t 3), some (19, false)⟩,
   ⟨some 21, .fldA 0 (.t 2), some (19, false)⟩,
   ⟨some 22, .load false 1 (.t 21), some (19, false)⟩,
   ⟨some 23, .bin .geq false (.t 20) (.t 22), some (19, false)⟩,
   ⟨some 24, .pick (.t 19) (.c (.bool true)) (.t 23), some (16, true)⟩,
   ⟨some 25, .pick (.t 16) (.t 24) (.c (.bool false)), none⟩])
 (.cond (.t 25)
  (.reg [⟨some 8, .mov (.c (.int .i64 1)), none⟩])
  (.skip)))
 (.seq (.reg [⟨some 26, .load false 1 (.t 7), none⟩,
   ⟨some 27, .mov (.t 8), none⟩,
   ⟨some 28, .mkfn 68 [] [(.t 7), (.t 3)], none⟩,
   ⟨some 29, .call (.c (.fn 67 [] [])) [(.t 26), (.t 27), (.t 28)], none⟩,
   ⟨some 30, .extract (.t 29) 0, none⟩,
   ⟨some 31, .extract (.t 29) 1, none⟩,
   ⟨some 32, .extract (.t 29) 2, none⟩,
   ⟨none, .store 2 (.t 4) (.t 30), none⟩,
   ⟨some 5, .mov (.t 31), none⟩,
   ⟨some 6, .mov (.t 32), none⟩])
 (.ret))))
def r37 : List ARV := [.cell 4 true 2, .tmp 5, .tmp 6]
theorem b37 : Try.f37.body.bind (tr Try.prog 33) = some c37.bare := by kernel_rfl
theorem q37 : trRes Try.prog Try.f37.results.toList = some r37 := by kernel_rfl
theorem n37 : (Try.f37.name == "runtime.NumGoroutine") = false := by kernel_rfl

def c38 : ACode :=
 .seq (.reg [⟨some 2, .box (.t 0), none⟩,
   ⟨some 4, .mov (.c (.int .i64 0)), none⟩])
 (.seq (.reg [⟨some 6, .load false 1 (.t 2), none⟩,
   ⟨some 7, .nilchk (.t 6), none⟩,
   ⟨some 8, .fldA 2 (.t 7), none⟩,
   ⟨some 9, .load false 1 (.t 8), none⟩,
   ⟨some 10, .mov (.t 1), none⟩,
   ⟨some 11, .bin .shr false (.t 10) (.c (.int .u64 1)), none⟩,
   ⟨some 12, .idxS 1 (.t 9) (.t 11), none⟩,
   ⟨some 13, .load false 1 (.t 12), none⟩,
   ⟨some 5, .alloc [(.int .i64 0)], none⟩,
   ⟨none, .store 1 (.t 5) (.t 13), none⟩])
 (.seq (.seq (.reg [⟨some 14, .mov (.t 1), none⟩,
   ⟨some 15, .bin .and false (.t 14) (.c (.int .i64 1)), none⟩,
   ⟨some 16, .bin .eql false (.t 15) (.c (.int .i64 0)), none⟩])
 (.cond (.t 16)
  (.seq (.reg [⟨some 17, .load false 1 (.t 5), none⟩,
    ⟨some 4, .mov (.t 17), none⟩])
  (.ret))
  (.skip)))
 (.seq (.reg [⟨some 18, .load false 1 (.t 2), none⟩,
   ⟨some 19, .mkfn 70 [] [(.t 2), (.t 5)], none⟩,
   ⟨some 20, .call (.c (.fn 35 [] [])) [(.t 18), (.t 19)], none⟩,
   ⟨some 4, .mov (.t 20), none⟩])
 (.ret))))
def r38 : List ARV := [.tmp 4]
theorem b38 : Try.f38.body.bind (tr Try.prog 21) = some c38.bare := by kernel_rfl
theorem q38 : trRes Try.prog Try.f38.results.toList = some r38 := by kernel_rfl
theorem n38 : (Try.f38.name == "runtime.NumGoroutine") = false := by kernel_rfl

def c39 : ACode :=
 .seq (.reg [⟨some 3, .alloc [(.int .i64 0), (.slice [] .nil)], none⟩,
   ⟨some 4, .mov (.c (.int .i64 0)), none⟩,
   ⟨some 5, .mov (.c (.int .i64 0)), none⟩])
 (.seq (.drw [⟨some 6, .load false 1 (.t 0), none⟩,
   ⟨some 7, .nilchk (.t 6), none⟩,
   ⟨some 8, .fldA 0 (.t 7), none⟩,
   ⟨some 9, .load true 2 (.t 8), none⟩,
   ⟨some 10, .load false 1 (.t 1), none⟩,
   ⟨some 11, .load false 1 (.t 2), none⟩,
   ⟨some 12, .call (.c (.fn 40 [] [])) [(.t 9), (.t 10), (.t 11), (.c (.int .i64 0))], none⟩,
   ⟨some 13, .extract (.t 12) 0, none⟩,
   ⟨some 14, .extract (.t 12) 1, none⟩,
   ⟨some 15, .extract (.t 12) 2, none⟩,
   ⟨none, .store 2 (.t 3) (.t 13), none⟩,
   ⟨some 4, .mov (.t 14), none⟩,
   ⟨some 5, .mov (.t 15), none⟩] [])
 (.ret))
def r39 : List ARV := [.cell 3 true 2, .tmp 4, .tmp 5]
theorem b39 : Try.f39.body.bind (tr Try.prog 16) = some c39.bare := by kernel_rfl
theorem q39 : trRes Try.prog Try.f39.results.toList = some r39 := by kernel_rfl
theorem n39 : (Try.f39.name == "runtime.NumGoroutine") = false := by kernel_rfl

def c40 : ACode :=
 .seq (.reg [⟨some 4, .boxI (.t 0), none⟩,
   ⟨some 5, .box (.t 1), none⟩,
   ⟨some 6, .box (.t 2), none⟩,
   ⟨some 7, .box (.t 3), none⟩,
   ⟨some 8, .alloc [(.int .i64 0), (.slice [] .nil)], none⟩,
   ⟨some 9, .mov (.c (.int .i64 0)), none⟩,
   ⟨some 10, .mov (.c (.int .i64 0)), none⟩])
 (.seq (.reg [⟨some 14, .load true 2 (.t 4), none⟩,
   ⟨some 15, .load false 1 (.t 5), none⟩,
   ⟨some 16, .load false 1 (.t 6), none⟩,
   ⟨some 17, .load false 1 (.t 7), none⟩,
   ⟨some 18, .bslice 1 [(.t 15), (.t 16), (.t 17)], none⟩,
   ⟨some 19, .call (.c (.fn 65 [] [])) [(.t 14), (.t 18)], none⟩,
   ⟨some 13, .mov (.t 19), none⟩,
   ⟨some 20, .extract (.t 13) 0, none⟩,
   ⟨some 21, .extract (.t 13) 1, none⟩,
   ⟨some 11, .alloc [.nilp], none⟩,
   ⟨none, .store 1 (.t 11) (.t 20), none⟩,
   ⟨some 12, .mov (.t 21), none⟩])
 (.seq (.reg [⟨some 22, .load false 1 (.t 11), none⟩,
   ⟨some 23, .mov (.t 12), none⟩,
   ⟨some 24, .mkfn 72 [] [(.t 11), (.t 5), (.t 6), (.t 7)], none⟩,
   ⟨some 25, .call (.c (.fn 67 [] [])) [(.t 22), (.t 23), (.t 24)], none⟩,
   ⟨some 26, .extract (.t 25) 0, none⟩,
   ⟨some 27, .extract (.t 25) 1, none⟩,
   ⟨some 28, .extract (.t 25) 2, none⟩,
   ⟨none, .store 2 (.t 8) (.t 26), none⟩,
   ⟨some 9, .mov (.t 27), none⟩,
   ⟨some 10, .mov (.t 28), none⟩])
 (.ret)))
def r40 : List ARV := [.cell 8 true 2, .tmp 9, .tmp 10]
theorem b40 : Try.f40.body.bind (tr Try.prog 29) = some c40.bare := by kernel_rfl
theorem q40 : trRes Try.prog Try.f40.results.toList = some r40 := by kernel_rfl
theorem n40 : (Try.f40.name == "runtime.NumGoroutine") = false := by kernel_rfl

def c41 : ACode :=
 .seq (.reg [⟨some 4, .mov (.c (.slice [] .nil)), none⟩])
 (.seq (.seq (.reg [⟨some 7, .mov (.t 1), none⟩,
   ⟨some 8, .call (.c (.fn 52 [] [])) [(.t 7)], none⟩,
   ⟨some 9, .len (.t 8), none⟩,
   ⟨some 10, .mov (.c (.int .i64 0)), none⟩])
 (.block 0 (.loop (.seq (.reg [⟨some 11, .bin .lss false (.t 10) (.t 9), none⟩])
  (.seq (.cond (.t 11)
   (.skip)
   (.exit 0))
  (.seq (.block 1 (.seq (.reg [⟨some 12, .idxS 1 (.t 8) (.t 10), none⟩,
    ⟨some 13, .load false 1 (.t 12), none⟩,
    ⟨some 6, .mov (.t 13), none⟩])
  (.reg [⟨some 14, .mov (.t 4), none⟩,
    ⟨some 15, .mov (.t 0), none⟩,
    ⟨some 16, .mov (.t 6), none⟩,
    ⟨some 17, .call (.t 15) [(.t 16)], none⟩,
    ⟨some 18, .bslice 1 [(.t 17)], none⟩,
    ⟨some 19, .append 1 8 (.t 14) (.t 18), none⟩,
    ⟨some 4, .mov (.t 19), none⟩])))
  (.reg [⟨some 20, .bin .add false (.t 10) (.c (.int .i64 1)), none⟩,
    ⟨some 10, .mov (.t 20), none⟩])))))))
 (.seq (.reg [⟨some 21, .mov (.t 4), none⟩,
   ⟨some 4, .mov (.t 21), none⟩])
 (.ret)))
def r41 : List ARV := [.tmp 4]
theorem b41 : Try.f41.body.bind (tr Try.prog 22) = some c41.bare := by kernel_rfl
theorem q41 : trRes Try.prog Try.f41.results.toList = some r41 := by kernel_rfl
theorem n41 : (Try.f41.name == "runtime.NumGoroutine") = false := by kernel_rfl

def c42 : ACode :=
 .seq (.reg [⟨some 1, .boxI (.t 0), none⟩,
   ⟨some 2, .mov (.c (.slice [] .nil)), none⟩])
 (.seq (.reg [⟨some 3, .fldA 1 (.t 1), none⟩,
   ⟨some 4, .load false 1 (.t 3), none⟩,
   ⟨some 5, .bslice 1 [(.t 4)], none⟩,
   ⟨some 6, .call (.c (.fn 74 [] [])) [(.c (.fn 75 [] [])), (.t 5)], none⟩,
   ⟨some 2, .mov (.t 6), none⟩])
 (.ret))
def r42 : List ARV := [.tmp 2]
theorem b42 : Try.f42.body.bind (tr Try.prog 7) = some c42.bare := by kernel_rfl
theorem q42 : trRes Try.prog Try.f42.results.toList = some r42 := by kernel_rfl
theorem n42 : (Try.f42.name == "runtime.NumGoroutine") = false := by kernel_rfl

def c47 : ACode :=
 .seq (.reg [⟨some 2, .mov (.c (.int .i64 0)), none⟩])
 (.seq (.seq (.reg [⟨some 6, .mov (.t 0), none⟩,
   ⟨some 7, .len (.t 6), none⟩,
   ⟨some 8, .mov (.c (.int .i64 0)), none⟩])
 (.block 0 (.loop (.seq (.reg [⟨some 9, .bin .lss false (.t 8) (.t 7), none⟩])
  (.seq (.cond (.t 9)
   (.skip)
   (.exit 0))
  (.seq (.block 1 (.seq (.reg [⟨some 10, .idxS 4 (.t 6) (.t 8), none⟩,
    ⟨some 11, .load true 4 (.t 10), none⟩,
    ⟨some 4, .alloc [(.int .i64 0), (.slice [] .nil), (.slice [] .nil), (.slice [] .nil)], none⟩,
    ⟨none, .store 4 (.t 4) (.t 11), none⟩])
  (.seq (.reg [⟨some 12, .load true 4 (.t 4), none⟩,
    ⟨some 13, .call (.c (.fn 33 [] [])) [(.t 12)], none⟩,
    ⟨some 5, .mov (.t 13), none⟩])
  (.seq (.reg [⟨some 14, .mov (.t 5), none⟩,
    ⟨some 15, .bin .neq false (.t 14) (.c (.int .i64 0)), none⟩])
  (.cond (.t 15)
   (.seq (.reg [⟨some 16, .mov (.t 5), none⟩,
     ⟨some 2, .mov (.t 16), none⟩])
   (.ret))
   (.skip))))))
  (.reg [⟨some 17, .bin .add false (.t 8) (.c (.int .i64 1)), none⟩,
    ⟨some 8, .mov (.t 17), none⟩])))))))
 (.seq (.reg [⟨some 2, .mov (.c (.int .i64 0)), none⟩])
 (.ret)))
def r47 : List ARV := [.tmp 2]
theorem b47 : Try.f47.body.bind (tr Try.prog 18) = some c47.bare := by kernel_rfl
theorem q47 : trRes Try.prog Try.f47.results.toList = some r47 := by kernel_rfl
theorem n47 : (Try.f47.name == "runtime.NumGoroutine") = false := by kernel_rfl

def c48 : ACode :=
 .seq (.reg [⟨some 2, .mov (.c (.slice [] .nil)), none⟩])
 (.seq (.seq (.reg [⟨some 3, .mov (.t 0), none⟩,
   ⟨some 4, .ext (.isnil false (.t 3)), none⟩])
 (.cond (.t 4)
  (.seq (.reg [⟨some 2, .mov (.c (.slice [] .nil)), none⟩])
  (.ret))
  (.skip)))
 (.seq (.reg [⟨some 5, .bslice 2 [], none⟩,
   ⟨some 6, .mov (.t 0), none⟩,
   ⟨some 7, .append 2 16 (.t 5) (.t 6), none⟩,
   ⟨some 2, .mov (.t 7), none⟩])
 (.ret)))
def r48 : List ARV := [.tmp 2]
theorem b48 : Try.f48.body.bind (tr Try.prog 8) = some c48.bare := by kernel_rfl
theorem q48 : trRes Try.prog Try.f48.results.toList = some r48 := by kernel_rfl
theorem n48 : (Try.f48.name == "runtime.NumGoroutine") = false := by kernel_rfl

def c49 : ACode :=
 .seq (.reg [⟨some 3, .mov (.c (.int .i64 0)), none⟩])
 (.seq (.reg [⟨some 4, .load false 1 (.t 1), none⟩,
   ⟨some 5, .mov (.t 0), none⟩,
   ⟨some 6, .bin .shr false (.t 5) (.c (.int .u64 1)), none⟩,
   ⟨some 7, .idxS 1 (.t 4) (.t 6), none⟩,
   ⟨some 8, .load false 1 (.t 7), none⟩,
   ⟨some 9, .mov (.t 0), none⟩,
   ⟨some 10, .bin .and false (.t 9) (.c (.int .i64 1)), none⟩,
   ⟨some 11, .bin .xor false (.t 8) (.t 10), none⟩,
   ⟨some 3, .mov (.t 11), none⟩])
 (.ret))
def r49 : List ARV := [.tmp 3]
theorem b49 : Try.f49.body.bind (tr Try.prog 12) = some c49.bare := by kernel_rfl
theorem q49 : trRes Try.prog Try.f49.results.toList = some r49 := by kernel_rfl
theorem n49 : (Try.f49.name == "runtime.NumGoroutine") = false := by kernel_rfl

def c50 : ACode :=
 .seq (.reg [⟨some 8, .mov (.c (.int .i64 0)), none⟩])
 (.seq (.seq (.reg [⟨some 11, .load false 1 (.t 3), none⟩,
   ⟨some 12, .bin .neq false (.t 11) (.c (.int .i64 0)), none⟩])
 (.cond (.t 12)
  (.seq (.reg [⟨some 13, .mov (.t 8), none⟩,
    ⟨some 8, .mov (.t 13), none⟩])
  (.ret))
  (.skip)))
 (.seq (.reg [⟨some 15, .mov (.t 0), none⟩,
   ⟨some 16, .load true 4 (.t 4), none⟩,
   ⟨some 17, .mov (.t 1), none⟩,
   ⟨some 18, .mov (.t 2), none⟩,
   ⟨some 19, .call (.t 15) [(.t 16), (.t 17), (.t 18)], none⟩,
   ⟨some 14, .mov (.t 19), none⟩,
   ⟨some 20, .extract (.t 14) 0, none⟩,
   ⟨some 21, .extract (.t 14) 1, none⟩,
   ⟨some 22, .extract (.t 14) 2, none⟩,
   ⟨some 9, .alloc [(.int .i64 0), (.slice [] .nil), (.slice [] .nil), (.slice [] .nil)], none⟩,
   ⟨none, .store 4 (.t 9) (.t 20), none⟩,
   ⟨some 8, .mov (.t 21), none⟩,
   ⟨some 10, .mov (.t 22), none⟩])
 (.seq (.seq (.reg [⟨some 23, .mov (.t 10), none⟩,
   ⟨some 24, .bin .neq false (.t 23) (.c (.int .i64 0)), none⟩])
 (.cond (.t 24)
  (.seq (.reg [⟨some 25, .mov (.t 10), none⟩,
    ⟨none, .store 1 (.t 3) (.t 25), none⟩])
  (.seq (.reg [⟨some 8, .mov (.c (.int .i64 0)), none⟩])
  (.ret)))
  (.skip)))
 (.seq (.reg [⟨some 26, .load true 4 (.t 9), none⟩,
   ⟨none, .store 4 (.t 4) (.t 26), none⟩])
 (.seq (.reg [⟨some 27, .mov (.t 8), none⟩,
   ⟨some 8, .mov (.t 27), none⟩])
 (.ret))))))
def r50 : List ARV := [.tmp 8]
theorem b50 : Try.f50.body.bind (tr Try.prog 28) = some c50.bare := by kernel_rfl
theorem q50 : trRes Try.prog Try.f50.results.toList = some r50 := by kernel_rfl
theorem n50 : (Try.f50.name == "runtime.NumGoroutine") = false := by kernel_rfl

def c51 : ACode :=
 .seq (.reg [⟨some 3, .boxI (.t 0), none⟩,
   ⟨some 6, .alloc [(.int .i64 0), (.slice [] .nil), (.slice [] .nil), (.slice [] .nil)], none⟩,
   ⟨some 7, .mov (.c (.int .i64 0)), none⟩,
   ⟨some 8, .mov (.c (.int .i64 0)), none⟩])
 (.seq (.reg [⟨some 10, .load true 4 (.t 3), none⟩,
   ⟨some 11, .mov (.t 1), none⟩,
   ⟨some 12, .mov (.t 2), none⟩,
   ⟨some 13, .bslice 1 [(.t 11), (.t 12)], none⟩,
   ⟨some 14, .call (.c (.fn 66 [] [])) [(.t 10), (.t 13)], none⟩,
   ⟨some 9, .mov (.t 14), none⟩])
 (.seq (.reg [⟨some 15, .mov (.t 9), none⟩,
   ⟨some 16, .mov (.t 9), none⟩,
   ⟨some 17, .mov (.t 1), none⟩,
   ⟨some 18, .mov (.t 2), none⟩,
   ⟨some 19, .call (.c (.fn 81 [] [])) [(.t 16), (.t 17), (.t 18)], none⟩,
   ⟨some 20, .call (.c (.fn 80 [] [])) [(.t 15), (.t 19)], none⟩,
   ⟨some 21, .extract (.t 20) 0, none⟩,
   ⟨some 22, .extract (.t 20) 1, none⟩,
   ⟨some 23, .extract (.t 20) 2, none⟩,
   ⟨none, .store 4 (.t 6) (.t 21), none⟩,
   ⟨some 7, .mov (.t 22), none⟩,
   ⟨some 8, .mov (.t 23), none⟩])
 (.ret)))
def r51 : List ARV := [.cell 6 true 4, .tmp 7, .tmp 8]
theorem b51 : Try.f51.body.bind (tr Try.prog 24) = some c51.bare := by kernel_rfl
theorem q51 : trRes Try.prog Try.f51.results.toList = some r51 := by kernel_rfl
theorem n51 : (Try.f51.name == "runtime.NumGoroutine") = false := by kernel_rfl

def c52 : ACode :=
 .seq (.reg [⟨some 2, .mov (.c (.slice [] .nil)), none⟩])
 (.seq (.reg [⟨some 3, .mov (.c (.int .i64 0)), none⟩])
 (.seq (.seq (.reg [⟨some 9, .mov (.t 0), none⟩,
   ⟨some 10, .len (.t 9), none⟩,
   ⟨some 11, .mov (.c (.int .i64 0)), none⟩])
 (.block 0 (.loop (.seq (.reg [⟨some 12, .bin .lss false (.t 11) (.t 10), none⟩])
  (.seq (.cond (.t 12)
   (.skip)
   (.exit 0))
  (.seq (.block 1 (.seq (.reg [⟨some 13, .idxS 1 (.t 9) (.t 11), none⟩,
    ⟨some 14, .load false 1 (.t 13), none⟩,
    ⟨some 5, .mov (.t 14), none⟩])
  (.seq (.reg [⟨some 15, .mov (.t 3), none⟩,
    ⟨some 16, .mov (.t 5), none⟩,
    ⟨some 17, .len (.t 16), none⟩,
    ⟨some 18, .bin .add false (.t 15) (.t 17), none⟩,
    ⟨some 3, .mov (.t 18), none⟩])
  (.seq (.reg [⟨some 19, .mov (.t 3), none⟩,
    ⟨some 20, .bin .lss false (.t 19) (.c (.int .i64 0)), none⟩])
  (.cond (.t 20)
   (.reg [⟨some 21, .mkiface 9 (.c (.str ⟨#[108, 101, 110, 32, 111, 117, 116, 32, 111, 102, 32, 114, 97, 110, 103, 101]⟩)), none⟩,
     ⟨none, .panic (.t 21), none⟩])
   (.skip))))))
  (.reg [⟨some 22, .bin .add false (.t 11) (.c (.int .i64 1)), none⟩,
    ⟨some 11, .mov (.t 22), none⟩])))))))
 (.seq (.reg [⟨some 23, .mov (.t 3), none⟩,
   ⟨some 24, .call (.c (.fn 82 [] [])) [(.c (.slice [] .nil)), (.t 23)], none⟩,
   ⟨some 6, .mov (.t 24), none⟩])
 (.seq (.seq (.reg [⟨some 25, .mov (.t 0), none⟩,
   ⟨some 26, .len (.t 25), none⟩,
   ⟨some 27, .mov (.c (.int .i64 0)), none⟩])
 (.block 2 (.loop (.seq (.reg [⟨some 28, .bin .lss false (.t 27) (.t 26), none⟩])
  (.seq (.cond (.t 28)
   (.skip)
   (.exit 2))
  (.seq (.block 3 (.seq (.reg [⟨some 29, .idxS 1 (.t 25) (.t 27), none⟩,
    ⟨some 30, .load false 1 (.t 29), none⟩,
    ⟨some 8, .mov (.t 30), none⟩])
  (.reg [⟨some 31, .mov (.t 6), none⟩,
    ⟨some 32, .mov (.t 8), none⟩,
    ⟨some 33, .append 1 8 (.t 31) (.t 32), none⟩,
    ⟨some 6, .mov (.t 33), none⟩])))
  (.reg [⟨some 34, .bin .add false (.t 27) (.c (.int .i64 1)), none⟩,
    ⟨some 27, .mov (.t 34), none⟩])))))))
 (.seq (.reg [⟨some 35, .mov (.t 6), none⟩,
   ⟨some 2, .mov (.t 35), none⟩])
 (.ret))))))
def r52 : List ARV := [.tmp 2]
theorem b52 : Try.f52.body.bind (tr Try.prog 36) = some c52.bare := by kernel_rfl
theorem q52 : trRes Try.prog Try.f52.results.toList = some r52 := by kernel_rfl
theorem n52 : (Try.f52.name == "runtime.NumGoroutine") = false := by kernel_rfl

def c53 : ACode :=
 .seq (.reg [⟨some 3, .boxI (.t 0), none⟩,
   ⟨some 6, .alloc [(.int .i64 0), (.slice [] .nil), (.slice [] .nil), (.slice [] .nil)], none⟩,
   ⟨some 7, .mov (.c (.int .i64 0)), none⟩,
   ⟨some 8, .mov (.c (.int .i64 0)), none⟩])
 (.seq (.reg [⟨some 10, .load true 4 (.t 3), none⟩,
   ⟨some 11, .mov (.t 1), none⟩,
   ⟨some 12, .mov (.t 2), none⟩,
   ⟨some 13, .bslice 1 [(.t 11), (.t 12)], none⟩,
   ⟨some 14, .call (.c (.fn 66 [] [])) [(.t 10), (.t 13)], none⟩,
   ⟨some 9, .mov (.t 14), none⟩])
 (.seq (.reg [⟨some 15, .mov (.t 9), none⟩,
   ⟨some 16, .mov (.t 9), none⟩,
   ⟨some 17, .mov (.t 1), none⟩,
   ⟨some 18, .mov (.t 2), none⟩,
   ⟨some 19, .call (.c (.fn 83 [] [])) [(.t 16), (.t 17), (.t 18)], none⟩,
   ⟨some 20, .call (.c (.fn 80 [] [])) [(.t 15), (.t 19)], none⟩,
   ⟨some 21, .extract (.t 20) 0, none⟩,
   ⟨some 22, .extract (.t 20) 1, none⟩,
   ⟨some 23, .extract (.t 20) 2, none⟩,
   ⟨none, .store 4 (.t 6) (.t 21), none⟩,
   ⟨some 7, .mov (.t 22), none⟩,
   ⟨some 8, .mov (.t 23), none⟩])
 (.ret)))
def r53 : List ARV := [.cell 6 true 4, .tmp 7, .tmp 8]
theorem b53 : Try.f53.body.bind (tr Try.prog 24) = some c53.bare := by kernel_rfl
theorem q53 : trRes Try.prog Try.f53.results.toList = some r53 := by kernel_rfl
theorem n53 : (Try.f53.name == "runtime.NumGoroutine") = false := by kernel_rfl

def c54 : ACode :=
 .seq (.reg [⟨some 3, .boxI (.t 0), none⟩,
   ⟨some 6, .alloc [(.int .i64 0), (.slice [] .nil), (.slice [] .nil), (.slice [] .nil)], none⟩,
   ⟨some 7, .mov (.c (.int .i64 0)), none⟩,
   ⟨some 8, .mov (.c (.int .i64 0)), none⟩])
 (.seq (.reg [⟨some 12, .load true 4 (.t 3), none⟩,
   ⟨some 13, .mov (.t 1), none⟩,
   ⟨some 14, .mov (.t 2), none⟩,
   ⟨some 15, .bslice 1 [(.t 13), (.t 14)], none⟩,
   ⟨some 16, .call (.c (.fn 66 [] [])) [(.t 12), (.t 15)], none⟩,
   ⟨some 9, .mov (.t 16), none⟩])
 (.seq (.reg [⟨some 17, .mov (.t 9), none⟩,
   ⟨some 18, .mov (.t 1), none⟩,
   ⟨some 19, .mov (.t 2), none⟩,
   ⟨some 20, .bin .xor false (.t 19) (.c (.int .i64 1)), none⟩,
   ⟨some 21, .call (.c (.fn 81 [] [])) [(.t 17), (.t 18), (.t 20)], none⟩,
   ⟨some 10, .mov (.t 21), none⟩])
 (.seq (.reg [⟨some 22, .mov (.t 9), none⟩,
   ⟨some 23, .mov (.t 1), none⟩,
   ⟨some 24, .bin .xor false (.t 23) (.c (.int .i64 1)), none⟩,
   ⟨some 25, .mov (.t 2), none⟩,
   ⟨some 26, .call (.c (.fn 81 [] [])) [(.t 22), (.t 24), (.t 25)], none⟩,
   ⟨some 11, .mov (.t 26), none⟩])
 (.seq (.reg [⟨some 27, .mov (.t 9), none⟩,
   ⟨some 28, .mov (.t 9), none⟩,
   ⟨some 29, .mov (.t 10), none⟩,
   ⟨some 30, .mov (.t 11), none⟩,
   ⟨some 31, .call (.c (.fn 83 [] [])) [(.t 28), (.t 29), (.t 30)], none⟩,
   ⟨some 32, .call (.c (.fn 80 [] [])) [(.t 27), (.t 31)], none⟩,
   ⟨some 33, .extract (.t 32) 0, none⟩,
   ⟨some 34, .extract (.t 32) 1, none⟩,
   ⟨some 35, .extract (.t 32) 2, none⟩,
   ⟨none, .store 4 (.t 6) (.t 33), none⟩,
   ⟨some 7, .mov (.t 34), none⟩,
   ⟨some 8, .mov (.t 35), none⟩])
 (.ret)))))
def r54 : List ARV := [.cell 6 true 4, .tmp 7, .tmp 8]
theorem b54 : Try.f54.body.bind (tr Try.prog 36) = some c54.bare := by kernel_rfl
theorem q54 : trRes Try.prog Try.f54.results.toList = some r54 := by kernel_rfl
theorem n54 : (Try.f54.name == "runtime.NumGoroutine") = false := by kernel_rfl

def c59 : ACode :=
 .seq (.reg [⟨some 2, .boxI (.t 0), none⟩,
   ⟨some 4, .mov (.c (.slice [] .nil)), none⟩,
   ⟨some 5, .mov (.c (.int .i64 0)), none⟩])
 (.seq (.seq (.reg [⟨some 16, .load true 4 (.t 2), none⟩,
   ⟨some 17, .call (.c (.fn 33 [] [])) [(.t 16)], none⟩,
   ⟨some 6, .mov (.t 17), none⟩])
 (.seq (.reg [⟨some 18, .mov (.t 6), none⟩,
   ⟨some 19, .bin .neq false (.t 18) (.c (.int .i64 0)), none⟩])
 (.cond (.t 19)
  (.seq (.reg [⟨some 20, .mov (.t 6), none⟩,
    ⟨some 4, .mov (.c (.slice [] .nil)), none⟩,
    ⟨some 5, .mov (.t 20), none⟩])
  (.ret))
  (.skip))))
 (.seq (.reg [⟨some 7, .mov (.c (.slice [] .nil)), none⟩])
 (.seq (.reg [⟨some 8, .mov (.c (.slice [] .nil)), none⟩])
 (.seq (.seq (.reg [⟨some 21, .fldA 1 (.t 2), none⟩,
   ⟨some 22, .load false 1 (.t 21), none⟩,
   ⟨some 23, .len (.t 22), none⟩,
   ⟨some 24, .mov (.c (.int .i64 0)), none⟩])
 (.block 0 (.loop (.seq (.reg [⟨some 25, .bin .lss false (.t 24) (.t 23), none⟩])
  (.seq (.cond (.t 25)
   (.skip)
   (.exit 0))
  (.seq (.block 1 (.seq (.reg [⟨some 26, .idxS 2 (.t 22) (.t 24), none⟩,
    ⟨some 27, .load true 2 (.t 26), none⟩,
    ⟨some 10, .alloc [(.int .i64 0), (.bool false)], none⟩,
    ⟨none, .store 2 (.t 10) (.t 27), none⟩])
  (.reg [⟨some 28, .mov (.t 8), none⟩,
    ⟨some 29, .fldA 1 (.t 10), none⟩,
    ⟨some 30, .load false 1 (.t 29), none⟩,
    ⟨some 31, .bslice 1 [(.t 30)], none⟩,
    ⟨some 32, .append 1 1 (.t 28) (.t 31), none⟩,
    ⟨some 8, .mov (.t 32), none⟩])))
  (.reg [⟨some 33, .bin .add false (.t 24) (.c (.int .i64 1)), none⟩,
    ⟨some 24, .mov (.t 33), none⟩])))))))
 (.seq (.seq (.reg [⟨some 34, .mov (.t 1), none⟩,
   ⟨some 35, .len (.t 34), none⟩,
   ⟨some 36, .mov (.c (.int .i64 0)), none⟩])
 (.block 2 (.loop (.seq (.reg [⟨some 37, .bin .lss false (.t 36) (.t 35), none⟩])
  (.seq (.cond (.t 37)
   (.skip)
   (.exit 2))
  (.seq (.block 3 (.seq (.reg [⟨some 38, .idxS 1 (.t 34) (.t 36), none⟩,
    ⟨some 39, .load false 1 (.t 38), none⟩,
    ⟨some 12, .mov (.t 39), none⟩])
  (.seq (.reg [⟨some 41, .load true 4 (.t 2), none⟩,
    ⟨some 42, .mov (.t 12), none⟩,
    ⟨some 43, .mov (.t 8), none⟩,
    ⟨some 44, .call (.c (.fn 88 [] [])) [(.t 41), (.t 42), (.t 43)], none⟩,
    ⟨some 40, .mov (.t 44), none⟩,
    ⟨some 45, .extract (.t 40) 0, none⟩,
    ⟨some 46, .extract (.t 40) 1, none⟩,
    ⟨some 47, .extract (.t 40) 2, none⟩,
    ⟨some 13, .mov (.t 45), none⟩,
    ⟨some 14, .mov (.t 46), none⟩,
    ⟨some 15, .mov (.t 47), none⟩])
  (.seq (.seq (.reg [⟨some 48, .mov (.t 15), none⟩,
    ⟨some 49, .bin .neq false (.t 48) (.c (.int .i64 0)), none⟩])
  (.cond (.t 49)
   (.seq (.reg [⟨some 50, .mov (.t 15), none⟩,
     ⟨some 4, .mov (.c (.slice [] .nil)), none⟩,
     ⟨some 5, .mov (.t 50), none⟩])
   (.ret))
   (.skip)))
  (.reg [⟨some 51, .mov (.t 7), none⟩,
    ⟨some 52, .mov (.t 13), none⟩,
    ⟨some 53, .bslice 1 [(.t 52)], none⟩,
    ⟨some 54, .append 1 24 (.t 51) (.t 53), none⟩,
    ⟨some 55, .mov (.t 14), none⟩,
    ⟨some 7, .mov (.t 54), none⟩,
    ⟨some 8, .mov (.t 55), none⟩])))))
  (.reg [⟨some 56, .bin .add false (.t 36) (.c (.int .i64 1)), none⟩,
    ⟨some 36, .mov (.t 56), none⟩])))))))
 (.seq (.reg [⟨some 57, .mov (.t 7), none⟩,
   ⟨some 4, .mov (.t 57), none⟩,
   ⟨some 5, .mov (.c (.int .i64 0)), none⟩])
 (.ret)))))))
def r59 : List ARV := [.tmp 4, .tmp 5]
theorem b59 : Try.f59.body.bind (tr Try.prog 58) = some c59.bare := by kernel_rfl
theorem q59 : trRes Try.prog Try.f59.results.toList = some r59 := by kernel_rfl
theorem n59 : (Try.f59.name == "runtime.NumGoroutine") = false := by kernel_rfl

end Go.Proofs.Ytjichkelfhcbcaa

