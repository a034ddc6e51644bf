/- The bodies of the program's functions, as the abstraction layer has them. By program. -/
import Derived.Test.YtjichkelfhcbcaaEqvC
set_option linter.unusedSimpArgs false
set_option linter.unusedVariables false
namespace Go.Proofs.Ytjichkelfhcbcaa
open Abs
def c60 : ACode :=
 .seq (.reg [⟨some 4, .mov (.c (.bool false)), none⟩])
 (.seq (.seq (.reg [⟨some 6, .mov (.t 0), none⟩,
   ⟨some 7, .len (.t 6), none⟩,
   ⟨some 8, .mov (.t 1), none⟩,
   ⟨some 9, .len (.t 8), none⟩,
   ⟨some 10, .bin .neq false (.t 7) (.t 9), none⟩])
 (.cond (.t 10)
  (.seq (.reg [⟨some 4, .mov (.c (.bool false)), none⟩])
  (.ret))
  (.skip)))
 (.seq (.seq (.reg [⟨some 11, .mov (.t 0), none⟩,
   ⟨some 12, .len (.t 11), none⟩,
   ⟨some 13, .mov (.c (.int .i64 0)), none⟩])
 (.block 0 (.loop (.seq (.reg [⟨some 14, .bin .lss false (.t 13) (.t 12), none⟩])
  (.seq (.cond (.t 14)
   (.skip)
   (.exit 0))
  (.seq (.block 1 (.seq (.reg [⟨some 15, .mov (.t 13), none⟩,
    ⟨some 5, .mov (.t 15), none⟩])
  (.seq (.drw [⟨some 16, .mov (.t 0), none⟩,
    ⟨some 17, .mov (.t 5), none⟩,
    ⟨some 18, .idxS 1 (.t 16) (.t 17), none⟩,
    ⟨some 19, .load false 1 (.t 18), none⟩,
    ⟨some 20, .mov (.t 1), none⟩,
    ⟨some 21, .mov (.t 5), none⟩,
    ⟨some 22, .idxS 1 (.t 20) (.t 21), none⟩,
    ⟨some 23, .load false 1 (.t 22), none⟩,
    ⟨some 24, .bin .neq true (.t 19) (.t 23), none⟩] [])
  (.cond (.t 24)
   (.seq (.reg [⟨some 4, .mov (.c (.bool false)), none⟩])
   (.ret))
   (.skip)))))
  (.reg [⟨some 25, .bin .add false (.t 13) (.c (.int .i64 1)), none⟩,
    ⟨some 13, .mov (.t 25), none⟩])))))))
 (.seq (.reg [⟨some 4, .mov (.c (.bool true)), none⟩])
 (.ret))))
def r60 : List ARV := [.tmp 4]
theorem b60 : Try.f60.body.bind (tr Try.prog 26) = some c60.bare := by kernel_rfl
theorem q60 : trRes Try.prog Try.f60.results.toList = some r60 := by kernel_rfl
theorem n60 : (Try.f60.name == "runtime.NumGoroutine") = false := by kernel_rfl

def c61 : ACode :=
 .seq (.reg [⟨some 2, .boxI (.t 0), none⟩,
   ⟨some 4, .mov (.c (.slice [] .nil)), none⟩,
   ⟨some 5, .mov (.c (.bool false)), none⟩,
   ⟨some 6, .mov (.c (.int .i64 0)), none⟩])
 (.seq (.reg [⟨some 12, .load true 2 (.t 2), none⟩,
   ⟨some 13, .mov (.t 1), none⟩,
   ⟨some 14, .bslice 1 [(.t 13)], none⟩,
   ⟨some 15, .call (.c (.fn 65 [] [])) [(.t 12), (.t 14)], none⟩,
   ⟨some 11, .mov (.t 15), none⟩,
   ⟨some 16, .extract (.t 11) 0, none⟩,
   ⟨some 17, .extract (.t 11) 1, none⟩,
   ⟨some 7, .mov (.t 16), none⟩,
   ⟨some 8, .mov (.t 17), none⟩])
 (.seq (.seq (.reg [⟨some 18, .mov (.t 8), none⟩,
   ⟨some 19, .bin .neq false (.t 18) (.c (.int .i64 0)), none⟩,
   ⟨some 20, .mov (.t 19), none⟩,
   ⟨some 21, .mov (.t 1), some (20, false)⟩,
   ⟨some 22, .bin .eql false (.t 21) (.c (.int .i64 0)), some (20, false)⟩,
   ⟨some 23, .pick (.t 20) (.c (.bool true)) (.t 22), none⟩])
 (.cond (.t 23)
  (.seq (.reg [⟨some 24, .mov (.t 8), none⟩,
    ⟨some 4, .mov (.c (.slice [] .nil)), none⟩,
    ⟨some 5, .mov (.c (.bool false)), none⟩,
    ⟨some 6, .mov (.t 24), none⟩])
  (.ret))
  (.skip)))
 (.seq (.reg [⟨some 25, .fldA 0 (.t 2), none⟩,
   ⟨some 26, .load false 1 (.t 25), none⟩,
   ⟨some 27, .ext (.vmake 1 1 [(.bool false)] false (.t 26) (.t 26)), none⟩,
   ⟨some 9, .mov (.t 27), none⟩])
 (.seq (.block 0 (.loop (.seq (.seq (.reg [⟨some 28, .mov (.t 1), none⟩,
    ⟨some 29, .bin .gtr false (.t 28) (.c (.int .i64 1)), none⟩])
  (.cond (.t 29)
   (.skip)
   (.exit 0)))
  (.block 1 (.seq (.reg [⟨some 30, .mov (.t 7), none⟩,
    ⟨some 31, .nilchk (.t 30), none⟩,
    ⟨some 32, .fldA 0 (.t 31), none⟩,
    ⟨some 33, .fldA 1 (.t 32), none⟩,
    ⟨some 34, .load false 1 (.t 33), none⟩,
    ⟨some 35, .mov (.t 1), none⟩,
    ⟨some 36, .idxS 3 (.t 34) (.t 35), none⟩,
    ⟨some 37, .load true 3 (.t 36), none⟩,
    ⟨some 10, .alloc [(.int .i64 0), (.int .i64 0), (.int .i64 0)], none⟩,
    ⟨none, .store 3 (.t 10) (.t 37), none⟩])
  (.seq (.reg [⟨some 38, .fldA 1 (.t 10), none⟩,
    ⟨some 39, .load false 1 (.t 38), none⟩,
    ⟨some 1, .mov (.t 39), none⟩])
  (.seq (.reg [⟨some 40, .mov (.t 1), none⟩,
    ⟨some 41, .bin .eql false (.t 40) (.c (.int .i64 0)), none⟩])
  (.cond (.t 41)
   (.drw [⟨some 42, .mov (.t 9), none⟩,
     ⟨some 43, .fldA 0 (.t 10), none⟩,
     ⟨some 44, .load false 1 (.t 43), none⟩,
     ⟨some 45, .fldA 2 (.t 10), none⟩,
     ⟨some 46, .load false 1 (.t 45), none⟩,
     ⟨some 47, .idxS 1 (.t 42) (.t 44), none⟩,
     ⟨none, .store 1 (.t 47) (.c (.bool true)), none⟩,
     ⟨some 1, .mov (.t 46), none⟩] [(4, 6)])
   (.skip)))))))))
 (.seq (.reg [⟨some 48, .ext (.vfrz false (.t 9)), none⟩,
   ⟨some 4, .mov (.t 48), none⟩,
   ⟨some 5, .mov (.c (.bool true)), none⟩,
   ⟨some 6, .mov (.c (.int .i64 0)), none⟩])
 (.ret))))))
def r61 : List ARV := [.tmp 4, .tmp 5, .tmp 6]
theorem b61 : Try.f61.body.bind (tr Try.prog 49) = some c61.bare := by kernel_rfl
theorem q61 : trRes Try.prog Try.f61.results.toList = some r61 := by kernel_rfl
theorem n61 : (Try.f61.name == "runtime.NumGoroutine") = false := by kernel_rfl

def c64 : ACode :=
 .seq (.reg [⟨some 4, .mov (.c (.bool false)), none⟩])
 (.seq (.reg [⟨some 5, .mov (.t 1), none⟩,
   ⟨some 6, .bin .geq false (.t 5) (.c (.int .i64 0)), none⟩,
   ⟨some 7, .mov (.t 6), none⟩,
   ⟨some 8, .mov (.t 1), some (7, true)⟩,
   ⟨some 9, .mov (.t 0), some (7, true)⟩,
   ⟨some 10, .bin .mul false (.c (.int .i64 2)) (.t 9), some (7, true)⟩,
   ⟨some 11, .bin .lss false (.t 8) (.t 10), some (7, true)⟩,
   ⟨some 12, .pick (.t 7) (.t 11) (.c (.bool false)), none⟩,
   ⟨some 4, .mov (.t 12), none⟩])
 (.ret))
def r64 : List ARV := [.tmp 4]
theorem b64 : Try.f64.body.bind (tr Try.prog 13) = some c64.bare := by kernel_rfl
theorem q64 : trRes Try.prog Try.f64.results.toList = some r64 := by kernel_rfl
theorem n64 : (Try.f64.name == "runtime.NumGoroutine") = false := by kernel_rfl

def c65 : ACode :=
 .seq (.reg [⟨some 2, .box (.t 0), none⟩,
   ⟨some 4, .mov (.c .nilp), none⟩,
   ⟨some 5, .mov (.c (.int .i64 0)), none⟩])
 (.seq (.reg [⟨some 9, .load true 2 (.t 2), none⟩,
   ⟨some 10, .call (.c (.fn 89 [] [])) [(.t 9)], none⟩,
   ⟨some 8, .mov (.t 10), none⟩,
   ⟨some 11, .extract (.t 8) 0, none⟩,
   ⟨some 12, .extract (.t 8) 1, none⟩,
   ⟨some 6, .mov (.t 11), none⟩,
   ⟨some 7, .mov (.t 12), none⟩])
 (.seq (.seq (.reg [⟨some 13, .mov (.t 7), none⟩,
   ⟨some 14, .bin .neq false (.t 13) (.c (.int .i64 0)), none⟩])
 (.cond (.t 14)
  (.seq (.reg [⟨some 15, .mov (.t 7), none⟩,
    ⟨some 4, .mov (.c .nilp), none⟩,
    ⟨some 5, .mov (.t 15), none⟩])
  (.ret))
  (.skip)))
 (.seq (.seq (.reg [⟨some 16, .mov (.t 1), none⟩,
   ⟨some 17, .mkfn 91 [] [(.t 2)], none⟩,
   ⟨some 18, .call (.c (.fn 90 [] [])) [(.t 16), (.t 17)], none⟩])
 (.cond (.t 18)
  (.seq (.reg [⟨some 4, .mov (.c .nilp), none⟩,
    ⟨some 5, .mov (.c (.int .i64 1)), none⟩])
  (.ret))
  (.skip)))
 (.seq (.reg [⟨some 19, .mov (.t 6), none⟩,
   ⟨some 4, .mov (.t 19), none⟩,
   ⟨some 5, .mov (.c (.int .i64 0)), none⟩])
 (.ret)))))
def r65 : List ARV := [.tmp 4, .tmp 5]
theorem b65 : Try.f65.body.bind (tr Try.prog 20) = some c65.bare := by kernel_rfl
theorem q65 : trRes Try.prog Try.f65.results.toList = some r65 := by kernel_rfl
theorem n65 : (Try.f65.name == "runtime.NumGoroutine") = false := by kernel_rfl

def c66 : ACode :=
 .seq (.reg [⟨some 2, .boxI (.t 0), none⟩,
   ⟨some 4, .mov (.c .nilp), none⟩])
 (.seq (.reg [⟨some 8, .load true 4 (.t 2), none⟩,
   ⟨some 9, .build [(.int .i64 0), (.slice [] .nil), (.slice [] .nil), (.slice [] .nil), (.int .i64 0)] [(0, 4, (.t 8))], none⟩,
   ⟨some 10, .box (.t 9), none⟩,
   ⟨some 5, .mov (.t 10), none⟩])
 (.seq (.reg [⟨some 11, .mov (.t 5), none⟩,
   ⟨some 12, .mov (.t 5), none⟩,
   ⟨some 13, .call (.c (.fn 92 [] [])) [(.t 12)], none⟩,
   ⟨some 14, .nilchk (.t 11), none⟩,
   ⟨some 15, .fldA 4 (.t 14), none⟩,
   ⟨none, .store 1 (.t 15) (.t 13), none⟩])
 (.seq (.seq (.reg [⟨some 16, .mov (.t 1), none⟩,
   ⟨some 17, .len (.t 16), none⟩,
   ⟨some 18, .mov (.c (.int .i64 0)), none⟩])
 (.block 0 (.loop (.seq (.reg [⟨some 19, .bin .lss false (.t 18) (.t 17), none⟩])
  (.seq (.cond (.t 19)
   (.skip)
   (.exit 0))
  (.seq (.block 1 (.seq (.reg [⟨some 20, .idxS 1 (.t 16) (.t 18), none⟩,
    ⟨some 21, .load false 1 (.t 20), none⟩,
    ⟨some 7, .mov (.t 21), none⟩])
  (.seq (.reg [⟨some 22, .mov (.t 5), none⟩,
    ⟨some 23, .nilchk (.t 22), none⟩,
    ⟨some 24, .fldA 4 (.t 23), none⟩,
    ⟨some 25, .load false 1 (.t 24), none⟩,
    ⟨some 26, .bin .eql false (.t 25) (.c (.int .i64 0)), none⟩,
    ⟨some 27, .mov (.t 26), none⟩,
    ⟨some 28, .mov (.t 5), some (27, true)⟩,
    ⟨some 29, .mov (.t 7), some (27, true)⟩,
    ⟨some 30, .call (.c (.fn 93 [] [])) [(.t 28), (.t 29)], some (27, true)⟩,
    ⟨some 31, .un .not (.t 30), some (27, true)⟩,
    ⟨some 32, .pick (.t 27) (.t 31) (.c (.bool false)), none⟩])
  (.cond (.t 32)
   (.reg [⟨some 33, .mov (.t 5), none⟩,
     ⟨some 34, .nilchk (.t 33), none⟩,
     ⟨some 35, .fldA 4 (.t 34), none⟩,
     ⟨none, .store 1 (.t 35) (.c (.int .i64 1)), none⟩])
   (.skip)))))
  (.reg [⟨some 36, .bin .add false (.t 18) (.c (.int .i64 1)), none⟩,
    ⟨some 18, .mov (.t 36), none⟩])))))))
 (.seq (.reg [⟨some 37, .mov (.t 5), none⟩,
   ⟨some 4, .mov (.t 37), none⟩])
 (.ret)))))
def r66 : List ARV := [.tmp 4]
theorem b66 : Try.f66.body.bind (tr Try.prog 38) = some c66.bare := by kernel_rfl
theorem q66 : trRes Try.prog Try.f66.results.toList = some r66 := by kernel_rfl
theorem n66 : (Try.f66.name == "runtime.NumGoroutine") = false := by kernel_rfl

def ca67 : ACode :=
 .reg [⟨some 6, .alloc [(.int .i64 0), (.slice [] .nil)], none⟩,
   ⟨some 7, .alloc [(.int .i64 0)], none⟩,
   ⟨some 8, .alloc [(.int .i64 0)], none⟩]
def cb67 : ACode :=
 .seq (.reg [⟨some 9, .mov (.t 1), none⟩,
   ⟨some 10, .bin .neq false (.t 9) (.c (.int .i64 0)), none⟩])
 (.cond (.t 10)
  (.seq (.reg [⟨some 11, .build [(.int .i64 0), (.slice [] .nil)] [], none⟩,
    ⟨some 12, .mov (.t 1), none⟩,
    ⟨none, .store 2 (.t 6) (.t 11), none⟩,
    ⟨none, .store 1 (.t 7) (.c (.int .i64 0)), none⟩,
    ⟨none, .store 1 (.t 8) (.t 12), none⟩])
  (.ret))
  (.skip))
def ci67 : AInst := ⟨some 13, .mkfn 94 [] [(.t 6), (.t 7), (.t 8)], none⟩
def ce67 : ACode :=
 .seq (.reg [⟨some 14, .mov (.t 2), none⟩,
   ⟨some 15, .call (.t 14) [], none⟩,
   ⟨none, .store 1 (.t 7) (.t 15), none⟩])
 (.seq (.drw [⟨some 16, .mov (.t 0), none⟩,
   ⟨some 17, .nilchk (.t 16), none⟩,
   ⟨some 18, .fldA 0 (.t 17), none⟩,
   ⟨some 19, .load true 2 (.t 18), none⟩,
   ⟨some 20, .load false 1 (.t 7), none⟩,
   ⟨none, .store 2 (.t 6) (.t 19), none⟩,
   ⟨none, .store 1 (.t 7) (.t 20), none⟩,
   ⟨none, .store 1 (.t 8) (.c (.int .i64 0)), none⟩] [(4, 5)])
 (.ret))
def r67 : List ARV := [.cell 6 true 2, .cell 7 false 1, .cell 8 false 1]
theorem b67 : Try.f67.body.bind (dfrOf Try.prog 21) = some (ca67.bare, cb67.bare, ci67.bare, 13, ce67.bare) := by kernel_rfl
theorem q67 : trRes Try.prog Try.f67.results.toList = some r67 := by kernel_rfl
theorem n67 : (Try.f67.name == "runtime.NumGoroutine") = false := by kernel_rfl

def c68 : ACode :=
 .seq (.reg [⟨some 2, .mov (.c (.int .i64 0)), none⟩])
 (.seq (.reg [⟨some 3, .load false 1 (.t 0), none⟩,
   ⟨some 4, .load false 1 (.t 1), none⟩,
   ⟨some 5, .call (.c (.fn 69 [] [])) [(.t 3), (.t 4), (.c (.int .i64 0)), (.c (.int .i64 1))], none⟩,
   ⟨some 2, .mov (.t 5), none⟩])
 (.ret))
def r68 : List ARV := [.tmp 2]
theorem b68 : Try.f68.body.bind (tr Try.prog 6) = some c68.bare := by kernel_rfl
theorem q68 : trRes Try.prog Try.f68.results.toList = some r68 := by kernel_rfl
theorem n68 : (Try.f68.name == "runtime.NumGoroutine") = false := by kernel_rfl

def c69 : ACode :=
 .seq (.reg [⟨some 8, .mov (.c (.int .i64 0)), none⟩])
 (.seq (.seq (.reg [⟨some 12, .mov (.t 2), none⟩,
   ⟨some 13, .mov (.t 3), none⟩,
   ⟨some 14, .bin .eql false (.t 12) (.t 13), none⟩])
 (.cond (.t 14)
  (.seq (.reg [⟨some 15, .mov (.t 2), none⟩,
    ⟨some 8, .mov (.t 15), none⟩])
  (.ret))
  (.skip)))
 (.seq (.reg [⟨some 16, .mov (.t 1), none⟩,
   ⟨some 17, .mov (.t 2), none⟩,
   ⟨some 18, .mov (.t 3), none⟩,
   ⟨some 19, .build [(.int .i64 0), (.int .i64 0), (.int .i64 0)] [(0, 1, (.t 16)), (1, 1, (.t 17)), (2, 1, (.t 18))], none⟩,
   ⟨some 9, .alloc [(.int .i64 0), (.int .i64 0), (.int .i64 0)], none⟩,
   ⟨none, .store 3 (.t 9) (.t 19), none⟩])
 (.seq (.seq (.drw [⟨some 21, .mov (.t 0), none⟩,
   ⟨some 22, .nilchk (.t 21), none⟩,
   ⟨some 23, .fldA 2 (.t 22), none⟩,
   ⟨some 24, .load false 1 (.t 23), none⟩,
   ⟨some 25, .load true 3 (.t 9), none⟩,
   ⟨some 26, .ext (.look (.row [0, 0, 0]) (.int .i64 0) true (.t 24) (.t 25)), none⟩,
   ⟨some 20, .mov (.t 26), none⟩,
   ⟨some 27, .extract (.t 20) 0, none⟩,
   ⟨some 28, .extract (.t 20) 1, none⟩,
   ⟨some 10, .mov (.t 27), none⟩,
   ⟨some 11, .mov (.t 28), none⟩] [])
 (.seq (.reg [⟨some 29, .mov (.t 11), none⟩])
 (.cond (.t 29)
  (.seq (.reg [⟨some 30, .mov (.t 10), none⟩,
    ⟨some 8, .mov (.t 30), none⟩])
  (.ret))
  (.skip))))
 (.seq (.seq (.reg [⟨some 31, .mov (.t 0), none⟩,
   ⟨some 32, .nilchk (.t 31), none⟩,
   ⟨some 33, .fldA 0 (.t 32), none⟩,
   ⟨some 34, .fldA 1 (.t 33), none⟩,
   ⟨some 35, .load false 1 (.t 34), none⟩,
   ⟨some 36, .len (.t 35), none⟩,
   ⟨some 37, .bin .geq false (.t 36) (.c (.int .i64 65536)), none⟩])
 (.cond (.t 37)
  (.reg [⟨some 38, .mkiface 32 (.c (.int .i64 220)), none⟩,
    ⟨none, .panic (.t 38), none⟩])
  (.skip)))
 (.seq (.drw [⟨some 39, .mov (.t 0), none⟩,
   ⟨some 40, .mov (.t 0), none⟩,
   ⟨some 41, .nilchk (.t 40), none⟩,
   ⟨some 42, .fldA 0 (.t 41), none⟩,
   ⟨some 43, .fldA 1 (.t 42), none⟩,
   ⟨some 44, .load false 1 (.t 43), none⟩,
   ⟨some 45, .load true 3 (.t 9), none⟩,
   ⟨some 46, .bslice 3 [(.t 45)], none⟩,
   ⟨some 47, .append 3 24 (.t 44) (.t 46), none⟩,
   ⟨some 48, .nilchk (.t 39), none⟩,
   ⟨some 49, .fldA 0 (.t 48), none⟩,
   ⟨some 50, .fldA 1 (.t 49), none⟩,
   ⟨none, .store 1 (.t 50) (.t 47), none⟩] [])
 (.seq (.drw [⟨some 51, .mov (.t 0), none⟩,
   ⟨some 52, .nilchk (.t 51), none⟩,
   ⟨some 53, .fldA 2 (.t 52), none⟩,
   ⟨some 54, .load false 1 (.t 53), none⟩,
   ⟨some 55, .load true 3 (.t 9), none⟩,
   ⟨some 56, .mov (.t 0), none⟩,
   ⟨some 57, .nilchk (.t 56), none⟩,
   ⟨some 58, .fldA 0 (.t 57), none⟩,
   ⟨some 59, .fldA 1 (.t 58), none⟩,
   ⟨some 60, .load false 1 (.t 59), none⟩,
   ⟨some 61, .len (.t 60), none⟩,
   ⟨some 62, .bin .sub false (.t 61) (.c (.int .i64 1)), none⟩,
   ⟨none, .ext (.mset (.row [0, 0, 0]) (.t 54) (.t 55) (.t 62)), none⟩] [])
 (.seq (.reg [⟨some 63, .mov (.t 0), none⟩,
   ⟨some 64, .nilchk (.t 63), none⟩,
   ⟨some 65, .fldA 0 (.t 64), none⟩,
   ⟨some 66, .fldA 1 (.t 65), none⟩,
   ⟨some 67, .load false 1 (.t 66), none⟩,
   ⟨some 68, .len (.t 67), none⟩,
   ⟨some 69, .bin .sub false (.t 68) (.c (.int .i64 1)), none⟩,
   ⟨some 8, .mov (.t 69), none⟩])
 (.ret))))))))
def r69 : List ARV := [.tmp 8]
theorem b69 : Try.f69.body.bind (tr Try.prog 70) = some c69.bare := by kernel_rfl
theorem q69 : trRes Try.prog Try.f69.results.toList = some r69 := by kernel_rfl
theorem n69 : (Try.f69.name == "runtime.NumGoroutine") = false := by kernel_rfl

def c70 : ACode :=
 .seq (.reg [⟨some 2, .alloc [(.int .i64 0), (.slice [] .nil)], none⟩,
   ⟨some 3, .mov (.c (.int .i64 0)), none⟩,
   ⟨some 4, .mov (.c (.int .i64 0)), none⟩])
 (.seq (.drw [⟨some 5, .load false 1 (.t 0), none⟩,
   ⟨some 6, .nilchk (.t 5), none⟩,
   ⟨some 7, .fldA 0 (.t 6), none⟩,
   ⟨some 8, .load true 2 (.t 7), none⟩,
   ⟨some 9, .load false 1 (.t 1), none⟩,
   ⟨some 10, .call (.c (.fn 71 [] [])) [(.t 8), (.t 9)], none⟩,
   ⟨some 11, .extract (.t 10) 0, none⟩,
   ⟨some 12, .extract (.t 10) 1, none⟩,
   ⟨some 13, .extract (.t 10) 2, none⟩,
   ⟨none, .store 2 (.t 2) (.t 11), none⟩,
   ⟨some 3, .mov (.t 12), none⟩,
   ⟨some 4, .mov (.t 13), none⟩] [])
 (.ret))
def r70 : List ARV := [.cell 2 true 2, .tmp 3, .tmp 4]
theorem b70 : Try.f70.body.bind (tr Try.prog 14) = some c70.bare := by kernel_rfl
theorem q70 : trRes Try.prog Try.f70.results.toList = some r70 := by kernel_rfl
theorem n70 : (Try.f70.name == "runtime.NumGoroutine") = false := by kernel_rfl

def c71 : ACode :=
 .seq (.reg [⟨some 2, .boxI (.t 0), none⟩,
   ⟨some 4, .alloc [(.int .i64 0), (.slice [] .nil)], none⟩,
   ⟨some 5, .mov (.c (.int .i64 0)), none⟩,
   ⟨some 6, .mov (.c (.int .i64 0)), none⟩])
 (.seq (.reg [⟨some 7, .load true 2 (.t 2), none⟩,
   ⟨some 8, .mov (.t 1), none⟩,
   ⟨some 9, .call (.c (.fn 40 [] [])) [(.t 7), (.t 8), (.c (.int .i64 0)), (.c (.int .i64 1))], none⟩,
   ⟨some 10, .extract (.t 9) 0, none⟩,
   ⟨some 11, .extract (.t 9) 1, none⟩,
   ⟨some 12, .extract (.t 9) 2, none⟩,
   ⟨none, .store 2 (.t 4) (.t 10), none⟩,
   ⟨some 5, .mov (.t 11), none⟩,
   ⟨some 6, .mov (.t 12), none⟩])
 (.ret))
def r71 : List ARV := [.cell 4 true 2, .tmp 5, .tmp 6]
theorem b71 : Try.f71.body.bind (tr Try.prog 13) = some c71.bare := by kernel_rfl
theorem q71 : trRes Try.prog Try.f71.results.toList = some r71 := by kernel_rfl
theorem n71 : (Try.f71.name == "runtime.NumGoroutine") = false := by kernel_rfl

def c72 : ACode :=
 .seq (.reg [⟨some 4, .mov (.c (.int .i64 0)), none⟩])
 (.seq (.reg [⟨some 5, .load false 1 (.t 0), none⟩,
   ⟨some 6, .load false 1 (.t 1), none⟩,
   ⟨some 7, .load false 1 (.t 2), none⟩,
   ⟨some 8, .load false 1 (.t 3), none⟩,
   ⟨some 9, .call (.c (.fn 73 [] [])) [(.t 5), (.t 6), (.t 7), (.t 8)], none⟩,
   ⟨some 4, .mov (.t 9), none⟩])
 (.ret))
def r72 : List ARV := [.tmp 4]
theorem b72 : Try.f72.body.bind (tr Try.prog 10) = some c72.bare := by kernel_rfl
theorem q72 : trRes Try.prog Try.f72.results.toList = some r72 := by kernel_rfl
theorem n72 : (Try.f72.name == "runtime.NumGoroutine") = false := by kernel_rfl

def c73 : ACode :=
 .seq (.reg [⟨some 8, .mov (.c (.int .i64 0)), none⟩])
 (.seq (.block 0 (.seq (.reg [⟨some 17, .mov (.t 1), none⟩,
   ⟨some 18, .bin .eql false (.t 17) (.c (.int .i64 1)), none⟩,
   ⟨some 19, .mov (.t 18), none⟩,
   ⟨some 20, .mov (.t 2), some (19, false)⟩,
   ⟨some 21, .mov (.t 3), some (19, false)⟩,
   ⟨some 22, .bin .eql false (.t 20) (.t 21), some (19, false)⟩,
   ⟨some 23, .pick (.t 19) (.c (.bool true)) (.t 22), none⟩,
   ⟨some 16, .mov (.t 23), none⟩])
 (.cond (.t 16)
  (.seq (.reg [⟨some 24, .mov (.t 2), none⟩,
    ⟨some 8, .mov (.t 24), none⟩])
  (.ret))
  (.seq (.reg [⟨some 26, .mov (.t 1), none⟩,
    ⟨some 27, .bin .eql false (.t 26) (.c (.int .i64 0)), none⟩,
    ⟨some 25, .mov (.t 27), none⟩])
  (.cond (.t 25)
   (.seq (.reg [⟨some 28, .mov (.t 3), none⟩,
     ⟨some 8, .mov (.t 28), none⟩])
   (.ret))
   (.seq (.reg [⟨some 30, .mov (.t 2), none⟩,
     ⟨some 31, .bin .eql false (.t 30) (.c (.int .i64 1)), none⟩,
     ⟨some 32, .mov (.t 31), none⟩,
     ⟨some 33, .mov (.t 3), some (32, true)⟩,
     ⟨some 34, .bin .eql false (.t 33) (.c (.int .i64 0)), some (32, true)⟩,
     ⟨some 35, .pick (.t 32) (.t 34) (.c (.bool false)), none⟩,
     ⟨some 29, .mov (.t 35), none⟩])
   (.cond (.t 29)
    (.seq (.reg [⟨some 36, .mov (.t 1), none⟩,
      ⟨some 8, .mov (.t 36), none⟩])
    (.ret))
    (.skip))))))))
 (.seq (.reg [⟨some 37, .mov (.t 1), none⟩,
   ⟨some 38, .mov (.t 2), none⟩,
   ⟨some 39, .mov (.t 3), none⟩,
   ⟨some 40, .build [(.int .i64 0), (.int .i64 0), (.int .i64 0)] [(0, 1, (.t 37)), (1, 1, (.t 38)), (2, 1, (.t 39))], none⟩,
   ⟨some 9, .alloc [(.int .i64 0), (.int .i64 0), (.int .i64 0)], none⟩,
   ⟨none, .store 3 (.t 9) (.t 40), none⟩])
 (.seq (.seq (.drw [⟨some 42, .mov (.t 0), none⟩,
   ⟨some 43, .nilchk (.t 42), none⟩,
   ⟨some 44, .fldA 3 (.t 43), none⟩,
   ⟨some 45, .load false 1 (.t 44), none⟩,
   ⟨some 46, .load true 3 (.t 9), none⟩,
   ⟨some 47, .ext (.look (.row [0, 0, 0]) (.int .i64 0) true (.t 45) (.t 46)), none⟩,
   ⟨some 41, .mov (.t 47), none⟩,
   ⟨some 48, .extract (.t 41) 0, none⟩,
   ⟨some 49, .extract (.t 41) 1, none⟩,
   ⟨some 10, .mov (.t 48), none⟩,
   ⟨some 11, .mov (.t 49), none⟩] [])
 (.seq (.reg [⟨some 50, .mov (.t 11), none⟩])
 (.cond (.t 50)
  (.seq (.reg [⟨some 51, .mov (.t 10), none⟩,
    ⟨some 8, .mov (.t 51), none⟩])
  (.ret))
  (.skip))))
 (.seq (.reg [⟨some 52, .mov (.t 0), none⟩,
   ⟨some 53, .mov (.t 1), none⟩,
   ⟨some 54, .call (.c (.fn 95 [] [])) [(.t 52), (.t 53)], none⟩,
   ⟨some 55, .mov (.t 0), none⟩,
   ⟨some 56, .mov (.t 2), none⟩,
   ⟨some 57, .call (.c (.fn 95 [] [])) [(.t 55), (.t 56)], none⟩,
   ⟨some 58, .mov (.t 0), none⟩,
   ⟨some 59, .mov (.t 3), none⟩,
   ⟨some 60, .call (.c (.fn 95 [] [])) [(.t 58), (.t 59)], none⟩,
   ⟨some 61, .min [(.t 54), (.t 57), (.t 60)], none⟩,
   ⟨some 12, .mov (.t 61), none⟩])
 (.seq (.reg [⟨some 13, .alloc [(.int .i64 0), (.int .i64 0)], none⟩])
 (.seq (.seq (.reg [⟨some 62, .mov (.c (.int .i64 0)), none⟩])
 (.block 1 (.loop (.seq (.reg [⟨some 63, .bin .lss false (.t 62) (.c (.int .i64 2)), none⟩])
  (.seq (.cond (.t 63)
   (.skip)
   (.exit 1))
  (.seq (.block 2 (.seq (.reg [⟨some 64, .mov (.t 62), none⟩,
    ⟨some 14, .mov (.t 64), none⟩])
  (.reg [⟨some 65, .mov (.t 14), none⟩,
    ⟨some 66, .mov (.t 0), none⟩,
    ⟨some 67, .mov (.t 0), none⟩,
    ⟨some 68, .mov (.t 1), none⟩,
    ⟨some 69, .mov (.t 12), none⟩,
    ⟨some 70, .mov (.t 14), none⟩,
    ⟨some 71, .call (.c (.fn 96 [] [])) [(.t 67), (.t 68), (.t 69), (.t 70)], none⟩,
    ⟨some 72, .mov (.t 0), none⟩,
    ⟨some 73, .mov (.t 2), none⟩,
    ⟨some 74, .mov (.t 12), none⟩,
    ⟨some 75, .mov (.t 14), none⟩,
    ⟨some 76, .call (.c (.fn 96 [] [])) [(.t 72), (.t 73), (.t 74), (.t 75)], none⟩,
    ⟨some 77, .mov (.t 0), none⟩,
    ⟨some 78, .mov (.t 3), none⟩,
    ⟨some 79, .mov (.t 12), none⟩,
    ⟨some 80, .mov (.t 14), none⟩,
    ⟨some 81, .call (.c (.fn 96 [] [])) [(.t 77), (.t 78), (.t 79), (.t 80)], none⟩,
    ⟨some 82, .call (.c (.fn 73 [] [])) [(.t 66), (.t 71), (.t 76), (.t 81)], none⟩,
    ⟨some 83, .idxR 1 2 (.t 13) (.t 65), none⟩,
    ⟨none, .store 1 (.t 83) (.t 82), none⟩])))
  (.reg [⟨some 84, .bin .add false (.t 62) (.c (.int .i64 1)), none⟩,
    ⟨some 62, .mov (.t 84), none⟩])))))))
 (.seq (.reg [⟨some 85, .mov (.t 0), none⟩,
   ⟨some 86, .mov (.t 12), none⟩,
   ⟨some 87, .idxR 1 2 (.t 13) (.c (.int .i64 0)), none⟩,
   ⟨some 88, .load false 1 (.t 87), none⟩,
   ⟨some 89, .idxR 1 2 (.t 13) (.c (.int .i64 1)), none⟩,
   ⟨some 90, .load false 1 (.t 89), none⟩,
   ⟨some 91, .call (.c (.fn 69 [] [])) [(.t 85), (.t 86), (.t 88), (.t 90)], none⟩,
   ⟨some 15, .mov (.t 91), none⟩])
 (.seq (.drw [⟨some 92, .mov (.t 0), none⟩,
   ⟨some 93, .nilchk (.t 92), none⟩,
   ⟨some 94, .fldA 3 (.t 93), none⟩,
   ⟨some 95, .load false 1 (.t 94), none⟩,
   ⟨some 96, .load true 3 (.t 9), none⟩,
   ⟨some 97, .mov (.t 15), none⟩,
   ⟨none, .ext (.mset (.row [0, 0, 0]) (.t 95) (.t 96) (.t 97)), none⟩] [])
 (.seq (.reg [⟨some 98, .mov (.t 15), none⟩,
   ⟨some 8, .mov (.t 98), none⟩])
 (.ret))))))))))
def r73 : List ARV := [.tmp 8]
theorem b73 : Try.f73.body.bind (tr Try.prog 99) = some c73.bare := by kernel_rfl
theorem q73 : trRes Try.prog Try.f73.results.toList = some r73 := by kernel_rfl
theorem n73 : (Try.f73.name == "runtime.NumGoroutine") = false := by kernel_rfl

def c74 : ACode :=
 .seq (.reg [⟨some 4, .mov (.c (.slice [] .nil)), none⟩])
 (.seq (.seq (.reg [⟨some 7, .mov (.t 1), none⟩,
   ⟨some 8, .call (.c (.fn 97 [] [])) [(.t 7)], none⟩,
   ⟨some 9, .len (.t 8), none⟩,
   ⟨some 10, .mov (.c (.int .i64 0)), none⟩])
 (.block 0 (.loop (.seq (.reg [⟨some 11, .bin .lss false (.t 10) (.t 9), none⟩])
  (.seq (.cond (.t 11)
   (.skip)
   (.exit 0))
  (.seq (.block 1 (.seq (.reg [⟨some 12, .idxS 2 (.t 8) (.t 10), none⟩,
    ⟨some 13, .load true 2 (.t 12), none⟩,
    ⟨some 6, .alloc [(.int .i64 0), (.bool false)], none⟩,
    ⟨none, .store 2 (.t 6) (.t 13), none⟩])
  (.reg [⟨some 14, .mov (.t 4), none⟩,
    ⟨some 15, .mov (.t 0), none⟩,
    ⟨some 16, .load true 2 (.t 6), none⟩,
    ⟨some 17, .call (.t 15) [(.t 16)], none⟩,
    ⟨some 18, .bslice 1 [(.t 17)], none⟩,
    ⟨some 19, .append 1 8 (.t 14) (.t 18), none⟩,
    ⟨some 4, .mov (.t 19), none⟩])))
  (.reg [⟨some 20, .bin .add false (.t 10) (.c (.int .i64 1)), none⟩,
    ⟨some 10, .mov (.t 20), none⟩])))))))
 (.seq (.reg [⟨some 21, .mov (.t 4), none⟩,
   ⟨some 4, .mov (.t 21), none⟩])
 (.ret)))
def r74 : List ARV := [.tmp 4]
theorem b74 : Try.f74.body.bind (tr Try.prog 22) = some c74.bare := by kernel_rfl
theorem q74 : trRes Try.prog Try.f74.results.toList = some r74 := by kernel_rfl
theorem n74 : (Try.f74.name == "runtime.NumGoroutine") = false := by kernel_rfl

def c75 : ACode :=
 .seq (.reg [⟨some 1, .boxI (.t 0), none⟩,
   ⟨some 2, .mov (.c (.int .i64 0)), none⟩])
 (.seq (.reg [⟨some 3, .fldA 0 (.t 1), none⟩,
   ⟨some 4, .load false 1 (.t 3), none⟩,
   ⟨some 2, .mov (.t 4), none⟩])
 (.ret))
def r75 : List ARV := [.tmp 2]
theorem b75 : Try.f75.body.bind (tr Try.prog 5) = some c75.bare := by kernel_rfl
theorem q75 : trRes Try.prog Try.f75.results.toList = some r75 := by kernel_rfl
theorem n75 : (Try.f75.name == "runtime.NumGoroutine") = false := by kernel_rfl

def c80 : ACode :=
 .seq (.reg [⟨some 4, .alloc [(.int .i64 0), (.slice [] .nil), (.slice [] .nil), (.slice [] .nil)], none⟩,
   ⟨some 5, .mov (.c (.int .i64 0)), none⟩,
   ⟨some 6, .mov (.c (.int .i64 0)), none⟩])
 (.seq (.seq (.reg [⟨some 7, .mov (.t 0), none⟩,
   ⟨some 8, .nilchk (.t 7), none⟩,
   ⟨some 9, .fldA 4 (.t 8), none⟩,
   ⟨some 10, .load false 1 (.t 9), none⟩,
   ⟨some 11, .bin .neq false (.t 10) (.c (.int .i64 0)), none⟩])
 (.cond (.t 11)
  (.seq (.drw [⟨some 12, .build [(.int .i64 0), (.slice [] .nil), (.slice [] .nil), (.slice [] .nil)] [], none⟩,
    ⟨some 13, .mov (.t 0), none⟩,
    ⟨some 14, .nilchk (.t 13), none⟩,
    ⟨some 15, .fldA 4 (.t 14), none⟩,
    ⟨some 16, .load false 1 (.t 15), none⟩,
    ⟨none, .store 4 (.t 4) (.t 12), none⟩,
    ⟨some 5, .mov (.c (.int .i64 0)), none⟩,
    ⟨some 6, .mov (.t 16), none⟩] [(4, 5)])
  (.ret))
  (.skip)))
 (.seq (.reg [⟨some 17, .mov (.t 0), none⟩,
   ⟨some 18, .nilchk (.t 17), none⟩,
   ⟨some 19, .fldA 0 (.t 18), none⟩,
   ⟨some 20, .load true 4 (.t 19), none⟩,
   ⟨some 21, .mov (.t 1), none⟩,
   ⟨none, .store 4 (.t 4) (.t 20), none⟩,
   ⟨some 5, .mov (.t 21), none⟩,
   ⟨some 6, .mov (.c (.int .i64 0)), none⟩])
 (.ret)))
def r80 : List ARV := [.cell 4 true 4, .tmp 5, .tmp 6]
theorem b80 : Try.f80.body.bind (tr Try.prog 22) = some c80.bare := by kernel_rfl
theorem q80 : trRes Try.prog Try.f80.results.toList = some r80 := by kernel_rfl
theorem n80 : (Try.f80.name == "runtime.NumGoroutine") = false := by kernel_rfl

def c81 : ACode :=
 .seq (.reg [⟨some 4, .box (.t 1), none⟩,
   ⟨some 5, .box (.t 2), none⟩,
   ⟨some 6, .mov (.c (.int .i64 0)), none⟩])
 (.seq (.drw [⟨some 8, .load false 1 (.t 4), none⟩,
   ⟨some 9, .load false 1 (.t 5), none⟩,
   ⟨some 10, .min [(.t 8), (.t 9)], none⟩,
   ⟨some 11, .load false 1 (.t 4), none⟩,
   ⟨some 12, .load false 1 (.t 5), none⟩,
   ⟨some 13, .max [(.t 11), (.t 12)], none⟩,
   ⟨none, .store 1 (.t 4) (.t 10), none⟩,
   ⟨none, .store 1 (.t 5) (.t 13), none⟩] [(4, 6)])
 (.seq (.block 0 (.seq (.seq (.reg [⟨some 15, .mov (.t 0), none⟩,
   ⟨some 16, .nilchk (.t 15), none⟩,
   ⟨some 17, .fldA 4 (.t 16), none⟩,
   ⟨some 18, .load false 1 (.t 17), none⟩,
   ⟨some 19, .bin .neq false (.t 18) (.c (.int .i64 0)), none⟩,
   ⟨some 14, .mov (.t 19), none⟩])
 (.cond (.t 14)
  (.skip)
  (.seq (.reg [⟨some 20, .load false 1 (.t 4), none⟩,
    ⟨some 21, .bin .eql false (.t 20) (.c (.int .i64 0)), none⟩,
    ⟨some 14, .mov (.t 21), none⟩])
  (.cond (.t 14)
   (.skip)
   (.reg [⟨some 22, .load false 1 (.t 4), none⟩,
     ⟨some 23, .load false 1 (.t 5), none⟩,
     ⟨some 24, .bin .xor false (.t 23) (.c (.int .i64 1)), none⟩,
     ⟨some 25, .bin .eql false (.t 22) (.t 24), none⟩,
     ⟨some 14, .mov (.t 25), none⟩])))))
 (.cond (.t 14)
  (.seq (.reg [⟨some 6, .mov (.c (.int .i64 0)), none⟩])
  (.ret))
  (.seq (.seq (.reg [⟨some 27, .load false 1 (.t 4), none⟩,
    ⟨some 28, .bin .eql false (.t 27) (.c (.int .i64 1)), none⟩,
    ⟨some 26, .mov (.t 28), none⟩])
  (.cond (.t 26)
   (.skip)
   (.reg [⟨some 29, .load false 1 (.t 4), none⟩,
     ⟨some 30, .load false 1 (.t 5), none⟩,
     ⟨some 31, .bin .eql false (.t 29) (.t 30), none⟩,
     ⟨some 26, .mov (.t 31), none⟩])))
  (.cond (.t 26)
   (.seq (.reg [⟨some 32, .load false 1 (.t 5), none⟩,
     ⟨some 6, .mov (.t 32), none⟩])
   (.ret))
   (.skip))))))
 (.seq (.reg [⟨some 33, .mov (.t 0), none⟩,
   ⟨some 34, .nilchk (.t 33), none⟩,
   ⟨some 35, .fldA 0 (.t 34), none⟩,
   ⟨some 36, .fldA 2 (.t 35), none⟩,
   ⟨some 37, .load false 1 (.t 36), none⟩,
   ⟨some 38, .mkfn 103 [] [(.t 4), (.t 5)], none⟩,
   ⟨some 39, .call (.c (.fn 102 [] [])) [(.t 37), (.t 38)], none⟩,
   ⟨some 7, .mov (.t 39), none⟩])
 (.seq (.seq (.reg [⟨some 40, .mov (.t 7), none⟩,
   ⟨some 41, .bin .geq false (.t 40) (.c (.int .i64 0)), none⟩])
 (.cond (.t 41)
  (.seq (.reg [⟨some 42, .mov (.t 0), none⟩,
    ⟨some 43, .call (.c (.fn 104 [] [])) [(.t 42)], none⟩,
    ⟨some 44, .mov (.t 7), none⟩,
    ⟨some 45, .bin .add false (.t 43) (.t 44), none⟩,
    ⟨some 46, .bin .mul false (.c (.int .i64 2)) (.t 45), none⟩,
    ⟨some 6, .mov (.t 46), none⟩])
  (.ret))
  (.skip)))
 (.seq (.seq (.reg [⟨some 47, .mov (.t 0), none⟩,
   ⟨some 48, .call (.c (.fn 105 [] [])) [(.t 47)], none⟩,
   ⟨some 49, .bin .eql false (.t 48) (.c (.int .i64 65536)), none⟩])
 (.cond (.t 49)
  (.seq (.reg [⟨some 50, .mov (.t 0), none⟩,
    ⟨some 51, .nilchk (.t 50), none⟩,
    ⟨some 52, .fldA 4 (.t 51), none⟩,
    ⟨none, .store 1 (.t 52) (.c (.int .i64 2)), none⟩])
  (.seq (.reg [⟨some 6, .mov (.c (.int .i64 0)), none⟩])
  (.ret)))
  (.skip)))
 (.seq (.drw [⟨some 53, .mov (.t 0), none⟩,
   ⟨some 54, .mov (.t 0), none⟩,
   ⟨some 55, .nilchk (.t 54), none⟩,
   ⟨some 56, .fldA 0 (.t 55), none⟩,
   ⟨some 57, .fldA 2 (.t 56), none⟩,
   ⟨some 58, .load false 1 (.t 57), none⟩,
   ⟨some 59, .call (.c (.fn 106 [] [])) [(.t 58)], none⟩,
   ⟨some 60, .load false 1 (.t 4), none⟩,
   ⟨some 61, .load false 1 (.t 5), none⟩,
   ⟨some 62, .build [(.int .i64 0), (.int .i64 0)] [(0, 1, (.t 60)), (1, 1, (.t 61))], none⟩,
   ⟨some 63, .bslice 2 [(.t 62)], none⟩,
   ⟨some 64, .append 2 16 (.t 59) (.t 63), none⟩,
   ⟨some 65, .nilchk (.t 53), none⟩,
   ⟨some 66, .fldA 0 (.t 65), none⟩,
   ⟨some 67, .fldA 2 (.t 66), none⟩,
   ⟨none, .store 1 (.t 67) (.t 64), none⟩] [(6, 7), (6, 8)])
 (.seq (.reg [⟨some 68, .mov (.t 0), none⟩,
   ⟨some 69, .call (.c (.fn 105 [] [])) [(.t 68)], none⟩,
   ⟨some 70, .bin .mul false (.c (.int .i64 2)) (.t 69), none⟩,
   ⟨some 6, .mov (.t 70), none⟩])
 (.ret))))))))
def r81 : List ARV := [.tmp 6]
theorem b81 : Try.f81.body.bind (tr Try.prog 71) = some c81.bare := by kernel_rfl
theorem q81 : trRes Try.prog Try.f81.results.toList = some r81 := by kernel_rfl
theorem n81 : (Try.f81.name == "runtime.NumGoroutine") = false := by kernel_rfl

def c82 : ACode :=
 .seq (.reg [⟨some 4, .mov (.c (.slice [] .nil)), none⟩])
 (.seq (.seq (.reg [⟨some 5, .mov (.t 1), none⟩,
   ⟨some 6, .bin .lss false (.t 5) (.c (.int .i64 0)), none⟩])
 (.cond (.t 6)
  (.reg [⟨some 7, .mkiface 9 (.c (.str ⟨#[99, 97, 110, 110, 111, 116, 32, 98, 101, 32, 110, 101, 103, 97, 116, 105, 118, 101]⟩)), none⟩,
    ⟨none, .panic (.t 7), none⟩])
  (.skip)))
 (.seq (.seq (.reg [⟨some 8, .mov (.t 1), none⟩,
   ⟨some 9, .mov (.t 0), none⟩,
   ⟨some 10, .cap (.t 9), none⟩,
   ⟨some 11, .mov (.t 0), none⟩,
   ⟨some 12, .len (.t 11), none⟩,
   ⟨some 13, .bin .sub false (.t 10) (.t 12), none⟩,
   ⟨some 14, .bin .sub false (.t 8) (.t 13), none⟩,
   ⟨some 1, .mov (.t 14), none⟩])
 (.seq (.reg [⟨some 15, .mov (.t 1), none⟩,
   ⟨some 16, .bin .gtr false (.t 15) (.c (.int .i64 0)), none⟩])
 (.cond (.t 16)
  (.reg [⟨some 17, .mov (.t 0), none⟩,
    ⟨some 18, .mov (.t 0), none⟩,
    ⟨some 19, .cap (.t 18), none⟩,
    ⟨some 20, .slcN 1 (.t 17) none (some (.t 19)) none, none⟩,
    ⟨some 21, .mov (.t 1), none⟩,
    ⟨some 22, .appz 1 8 (.t 20) (.t 21), none⟩,
    ⟨some 23, .mov (.t 0), none⟩,
    ⟨some 24, .len (.t 23), none⟩,
    ⟨some 25, .slcR 1 (.t 22) none (some (.t 24)) none, none⟩,
    ⟨some 0, .mov (.t 25), none⟩])
  (.skip))))
 (.seq (.reg [⟨some 26, .mov (.t 0), none⟩,
   ⟨some 4, .mov (.t 26), none⟩])
 (.ret))))
def r82 : List ARV := [.tmp 4]
theorem b82 : Try.f82.body.bind (tr Try.prog 27) = some c82.bare := by kernel_rfl
theorem q82 : trRes Try.prog Try.f82.results.toList = some r82 := by kernel_rfl
theorem n82 : (Try.f82.name == "runtime.NumGoroutine") = false := by kernel_rfl

def c83 : ACode :=
 .seq (.reg [⟨some 6, .mov (.c (.int .i64 0)), none⟩])
 (.seq (.reg [⟨some 7, .mov (.t 0), none⟩,
   ⟨some 8, .mov (.t 1), none⟩,
   ⟨some 9, .bin .xor false (.t 8) (.c (.int .i64 1)), none⟩,
   ⟨some 10, .mov (.t 2), none⟩,
   ⟨some 11, .bin .xor false (.t 10) (.c (.int .i64 1)), none⟩,
   ⟨some 12, .call (.c (.fn 81 [] [])) [(.t 7), (.t 9), (.t 11)], none⟩,
   ⟨some 13, .bin .xor false (.t 12) (.c (.int .i64 1)), none⟩,
   ⟨some 6, .mov (.t 13), none⟩])
 (.ret))
def r83 : List ARV := [.tmp 6]
theorem b83 : Try.f83.body.bind (tr Try.prog 14) = some c83.bare := by kernel_rfl
theorem q83 : trRes Try.prog Try.f83.results.toList = some r83 := by kernel_rfl
theorem n83 : (Try.f83.name == "runtime.NumGoroutine") = false := by kernel_rfl

def c88 : ACode :=
 .seq (.reg [⟨some 3, .boxI (.t 0), none⟩,
   ⟨some 6, .mov (.c (.slice [] .nil)), none⟩,
   ⟨some 7, .mov (.c (.slice [] .nil)), none⟩,
   ⟨some 8, .mov (.c (.int .i64 0)), none⟩])
 (.seq (.reg [⟨some 15, .load true 4 (.t 3), none⟩,
   ⟨some 16, .mov (.t 1), none⟩,
   ⟨some 17, .mov (.t 2), none⟩,
   ⟨some 18, .call (.c (.fn 110 [] [])) [(.t 15), (.t 16), (.t 17)], none⟩,
   ⟨some 14, .mov (.t 18), none⟩,
   ⟨some 19, .extract (.t 14) 0, none⟩,
   ⟨some 20, .extract (.t 14) 1, none⟩,
   ⟨some 9, .mov (.t 19), none⟩,
   ⟨some 8, .mov (.t 20), none⟩])
 (.seq (.seq (.reg [⟨some 21, .mov (.t 8), none⟩,
   ⟨some 22, .bin .neq false (.t 21) (.c (.int .i64 0)), none⟩])
 (.cond (.t 22)
  (.seq (.reg [⟨some 23, .mov (.t 8), none⟩,
    ⟨some 6, .mov (.c (.slice [] .nil)), none⟩,
    ⟨some 7, .mov (.c (.slice [] .nil)), none⟩,
    ⟨some 8, .mov (.t 23), none⟩])
  (.ret))
  (.skip)))
 (.seq (.seq (.reg [⟨some 24, .fldA 3 (.t 3), none⟩,
   ⟨some 25, .load false 1 (.t 24), none⟩,
   ⟨some 26, .len (.t 25), none⟩,
   ⟨some 27, .mov (.c (.int .i64 0)), none⟩])
 (.block 0 (.loop (.seq (.reg [⟨some 28, .bin .lss false (.t 27) (.t 26), none⟩])
  (.seq (.cond (.t 28)
   (.skip)
   (.exit 0))
  (.seq (.block 1 (.seq (.reg [⟨some 29, .idxS 1 (.t 25) (.t 27), none⟩,
    ⟨some 30, .load false 1 (.t 29), none⟩,
    ⟨some 11, .mov (.t 30), none⟩])
  (.reg [⟨some 31, .mov (.t 6), none⟩,
    ⟨some 32, .mov (.t 9), none⟩,
    ⟨some 33, .mov (.t 11), none⟩,
    ⟨some 34, .call (.c (.fn 111 [] [])) [(.t 32), (.t 33)], none⟩,
    ⟨some 35, .bslice 1 [(.t 34)], none⟩,
    ⟨some 36, .append 1 1 (.t 31) (.t 35), none⟩,
    ⟨some 6, .mov (.t 36), none⟩])))
  (.reg [⟨some 37, .bin .add false (.t 27) (.c (.int .i64 1)), none⟩,
    ⟨some 27, .mov (.t 37), none⟩])))))))
 (.seq (.seq (.reg [⟨some 38, .fldA 1 (.t 3), none⟩,
   ⟨some 39, .load false 1 (.t 38), none⟩,
   ⟨some 40, .len (.t 39), none⟩,
   ⟨some 41, .mov (.c (.int .i64 0)), none⟩])
 (.block 2 (.loop (.seq (.reg [⟨some 42, .bin .lss false (.t 41) (.t 40), none⟩])
  (.seq (.cond (.t 42)
   (.skip)
   (.exit 2))
  (.seq (.block 3 (.seq (.reg [⟨some 43, .idxS 2 (.t 39) (.t 41), none⟩,
    ⟨some 44, .load true 2 (.t 43), none⟩,
    ⟨some 13, .alloc [(.int .i64 0), (.bool false)], none⟩,
    ⟨none, .store 2 (.t 13) (.t 44), none⟩])
  (.reg [⟨some 45, .mov (.t 7), none⟩,
    ⟨some 46, .mov (.t 9), none⟩,
    ⟨some 47, .fldA 0 (.t 13), none⟩,
    ⟨some 48, .load false 1 (.t 47), none⟩,
    ⟨some 49, .call (.c (.fn 111 [] [])) [(.t 46), (.t 48)], none⟩,
    ⟨some 50, .bslice 1 [(.t 49)], none⟩,
    ⟨some 51, .append 1 1 (.t 45) (.t 50), none⟩,
    ⟨some 7, .mov (.t 51), none⟩])))
  (.reg [⟨some 52, .bin .add false (.t 41) (.c (.int .i64 1)), none⟩,
    ⟨some 41, .mov (.t 52), none⟩])))))))
 (.seq (.reg [⟨some 53, .mov (.t 6), none⟩,
   ⟨some 54, .mov (.t 7), none⟩,
   ⟨some 6, .mov (.t 53), none⟩,
   ⟨some 7, .mov (.t 54), none⟩,
   ⟨some 8, .mov (.c (.int .i64 0)), none⟩])
 (.ret))))))
def r88 : List ARV := [.tmp 6, .tmp 7, .tmp 8]
theorem b88 : Try.f88.body.bind (tr Try.prog 55) = some c88.bare := by kernel_rfl
theorem q88 : trRes Try.prog Try.f88.results.toList = some r88 := by kernel_rfl
theorem n88 : (Try.f88.name == "runtime.NumGoroutine") = false := by kernel_rfl

def c89 : ACode :=
 .seq (.reg [⟨some 1, .boxI (.t 0), none⟩,
   ⟨some 2, .mov (.c .nilp), none⟩,
   ⟨some 3, .mov (.c (.int .i64 0)), none⟩])
 (.seq (.seq (.reg [⟨some 10, .fldA 1 (.t 1), none⟩,
   ⟨some 11, .load false 1 (.t 10), none⟩,
   ⟨some 12, .len (.t 11), none⟩,
   ⟨some 13, .bin .gtr false (.t 12) (.c (.int .i64 65536)), none⟩])
 (.cond (.t 13)
  (.seq (.reg [⟨some 2, .mov (.c .nilp), none⟩,
    ⟨some 3, .mov (.c (.int .i64 220)), none⟩])
  (.ret))
  (.skip)))
 (.seq (.reg [⟨some 14, .load true 2 (.t 1), none⟩,
   ⟨some 15, .ext .mkmap, none⟩,
   ⟨some 16, .ext .mkmap, none⟩,
   ⟨some 17, .build [(.int .i64 0), (.slice [] .nil), .nilmap, .nilmap] [(0, 2, (.t 14)), (2, 1, (.t 15)), (3, 1, (.t 16))], none⟩,
   ⟨some 18, .box (.t 17), none⟩,
   ⟨some 4, .mov (.t 18), none⟩])
 (.seq (.reg [⟨some 19, .build [(.int .i64 0), (.int .i64 0), (.int .i64 0)] [(0, 1, (.c (.int .i64 (-1))))], none⟩,
   ⟨some 5, .alloc [(.int .i64 0), (.int .i64 0), (.int .i64 0)], none⟩,
   ⟨none, .store 3 (.t 5) (.t 19), none⟩])
 (.seq (.seq (.drw [⟨some 20, .fldA 0 (.t 1), none⟩,
   ⟨some 21, .load false 1 (.t 20), none⟩,
   ⟨some 22, .bin .lss false (.t 21) (.c (.int .i64 0)), none⟩,
   ⟨some 23, .mov (.t 22), none⟩,
   ⟨some 24, .fldA 0 (.t 1), some (23, false)⟩,
   ⟨some 25, .load false 1 (.t 24), some (23, false)⟩,
   ⟨some 26, .bin .gtr false (.t 25) (.c (.int .i64 32)), some (23, false)⟩,
   ⟨some 27, .pick (.t 23) (.c (.bool true)) (.t 26), none⟩,
   ⟨some 28, .mov (.t 27), none⟩,
   ⟨some 29, .fldA 1 (.t 1), some (28, false)⟩,
   ⟨some 30, .load false 1 (.t 29), some (28, false)⟩,
   ⟨some 31, .len (.t 30), some (28, false)⟩,
   ⟨some 32, .bin .lss false (.t 31) (.c (.int .i64 2)), some (28, false)⟩,
   ⟨some 33, .pick (.t 28) (.c (.bool true)) (.t 32), none⟩,
   ⟨some 34, .mov (.t 33), none⟩,
   ⟨some 35, .fldA 1 (.t 1), some (34, false)⟩,
   ⟨some 36, .load false 1 (.t 35), some (34, false)⟩,
   ⟨some 37, .idxS 3 (.t 36) (.c (.int .i64 0)), some (34, false)⟩,
   ⟨some 38, .load true 3 (.t 37), some (34, false)⟩,
   ⟨some 39, .load true 3 (.t 5), some (34, false)⟩,
   ⟨some 40, .eqs true [0, 0, 0] (.t 38) (.t 39), some (34, false)⟩,
   ⟨some 41, .pick (.t 34) (.c (.bool true)) (.t 40), none⟩,
   ⟨some 42, .mov (.t 41), none⟩,
   ⟨some 43, .fldA 1 (.t 1), some (42, false)⟩,
   ⟨some 44, .load false 1 (.t 43), some (42, false)⟩,
   ⟨some 45, .idxS 3 (.t 44) (.c (.int .i64 1)), some (42, false)⟩,
   ⟨some 46, .load true 3 (.t 45), some (42, false)⟩,
   ⟨some 47, .load true 3 (.t 5), some (42, false)⟩,
   ⟨some 48, .eqs true [0, 0, 0] (.t 46) (.t 47), some (42, false)⟩,
   ⟨some 49, .pick (.t 42) (.c (.bool true)) (.t 48), none⟩] [])
 (.cond (.t 49)
  (.seq (.reg [⟨some 2, .mov (.c .nilp), none⟩,
    ⟨some 3, .mov (.c (.int .i64 1)), none⟩])
  (.ret))
  (.skip)))
 (.seq (.seq (.reg [⟨some 50, .fldA 1 (.t 1), none⟩,
   ⟨some 51, .load false 1 (.t 50), none⟩,
   ⟨some 52, .slc 3 (.t 51) (some (.c (.int .i64 2))) none none, none⟩,
   ⟨some 53, .len (.t 52), none⟩,
   ⟨some 54, .mov (.c (.int .i64 0)), none⟩])
 (.block 0 (.loop (.seq (.reg [⟨some 55, .bin .lss false (.t 54) (.t 53), none⟩])
  (.seq (.cond (.t 55)
   (.skip)
   (.exit 0))
  (.seq (.block 1 (.seq (.reg [⟨some 56, .mov (.t 54), none⟩,
    ⟨some 57, .idxS 3 (.t 52) (.t 54), none⟩,
    ⟨some 58, .load true 3 (.t 57), none⟩,
    ⟨some 7, .alloc [(.int .i64 0), (.int .i64 0), (.int .i64 0)], none⟩,
    ⟨some 6, .mov (.t 56), none⟩,
    ⟨none, .store 3 (.t 7) (.t 58), none⟩])
  (.seq (.reg [⟨some 59, .mov (.t 6), none⟩,
    ⟨some 60, .bin .add false (.t 59) (.c (.int .i64 2)), none⟩,
    ⟨some 6, .mov (.t 60), none⟩])
  (.seq (.drw [⟨some 62, .mov (.t 4), none⟩,
    ⟨some 63, .nilchk (.t 62), none⟩,
    ⟨some 64, .fldA 2 (.t 63), none⟩,
    ⟨some 65, .load false 1 (.t 64), none⟩,
    ⟨some 66, .load true 3 (.t 7), none⟩,
    ⟨some 67, .ext (.look (.row [0, 0, 0]) (.int .i64 0) true (.t 65) (.t 66)), none⟩,
    ⟨some 61, .mov (.t 67), none⟩,
    ⟨some 68, .extract (.t 61) 0, none⟩,
    ⟨some 69, .extract (.t 61) 1, none⟩,
    ⟨some 8, .mov (.t 68), none⟩,
    ⟨some 9, .mov (.t 69), none⟩] [])
  (.seq (.seq (.reg [⟨some 70, .mov (.t 9), none⟩,
    ⟨some 71, .mov (.t 70), none⟩,
    ⟨some 72, .fldA 0 (.t 7), some (71, false)⟩,
    ⟨some 73, .load false 1 (.t 72), some (71, false)⟩,
    ⟨some 74, .bin .lss false (.t 73) (.c (.int .i64 0)), some (71, false)⟩,
    ⟨some 75, .pick (.t 71) (.c (.bool true)) (.t 74), none⟩,
    ⟨some 76, .mov (.t 75), none⟩,
    ⟨some 77, .fldA 0 (.t 7), some (76, false)⟩,
    ⟨some 78, .load false 1 (.t 77), some (76, false)⟩,
    ⟨some 79, .fldA 0 (.t 1), some (76, false)⟩,
    ⟨some 80, .load false 1 (.t 79), some (76, false)⟩,
    ⟨some 81, .bin .geq false (.t 78) (.t 80), some (76, false)⟩,
    ⟨some 82, .pick (.t 76) (.c (.bool true)) (.t 81), none⟩,
    ⟨some 83, .mov (.t 82), none⟩,
    ⟨some 84, .fldA 1 (.t 7), some (83, false)⟩,
    ⟨some 85, .load false 1 (.t 84), some (83, false)⟩,
    ⟨some 86, .fldA 2 (.t 7), some (83, false)⟩,
    ⟨some 87, .load false 1 (.t 86), some (83, false)⟩,
    ⟨some 88, .bin .eql false (.t 85) (.t 87), some (83, false)⟩,
    ⟨some 89, .pick (.t 83) (.c (.bool true)) (.t 88), none⟩,
    ⟨some 90, .mov (.t 89), none⟩,
    ⟨some 91, .mov (.t 4), some (90, false)⟩,
    ⟨some 92, .fldA 1 (.t 7), some (90, false)⟩,
    ⟨some 93, .load false 1 (.t 92), some (90, false)⟩,
    ⟨some 94, .fldA 0 (.t 7), some (90, false)⟩,
    ⟨some 95, .load false 1 (.t 94), some (90, false)⟩,
    ⟨some 96, .mov (.t 6), some (90, false)⟩,
    ⟨some 97, .call (.c (.fn 112 [] [])) [(.t 91), (.t 93), (.t 95), (.t 96)], some (90, false)⟩,
    ⟨some 98, .un .not (.t 97), some (90, false)⟩,
    ⟨some 99, .pick (.t 90) (.c (.bool true)) (.t 98), none⟩,
    ⟨some 100, .mov (.t 99), none⟩,
    ⟨some 101, .mov (.t 4), some (100, false)⟩,
    ⟨some 102, .fldA 2 (.t 7), some (100, false)⟩,
    ⟨some 103, .load false 1 (.t 102), some (100, false)⟩,
    ⟨some 104, .fldA 0 (.t 7), some (100, false)⟩,
    ⟨some 105, .load false 1 (.t 104), some (100, false)⟩,
    ⟨some 106, .mov (.t 6), some (100, false)⟩,
    ⟨some 107, .call (.c (.fn 112 [] [])) [(.t 101), (.t 103), (.t 105), (.t 106)], some (100, false)⟩,
    ⟨some 108, .un .not (.t 107), some (100, false)⟩,
    ⟨some 109, .pick (.t 100) (.c (.bool true)) (.t 108), none⟩])
  (.cond (.t 109)
   (.seq (.reg [⟨some 2, .mov (.c .nilp), none⟩,
     ⟨some 3, .mov (.c (.int .i64 1)), none⟩])
   (.ret))
   (.skip)))
  (.drw [⟨some 110, .mov (.t 4), none⟩,
    ⟨some 111, .nilchk (.t 110), none⟩,
    ⟨some 112, .fldA 2 (.t 111), none⟩,
    ⟨some 113, .load false 1 (.t 112), none⟩,
    ⟨some 114, .load true 3 (.t 7), none⟩,
    ⟨some 115, .mov (.t 6), none⟩,
    ⟨none, .ext (.mset (.row [0, 0, 0]) (.t 113) (.t 114) (.t 115)), none⟩] []))))))
  (.reg [⟨some 116, .bin .add false (.t 54) (.c (.int .i64 1)), none⟩,
    ⟨some 54, .mov (.t 116), none⟩])))))))
 (.seq (.reg [⟨some 117, .mov (.t 4), none⟩,
   ⟨some 118, .fldA 1 (.t 1), none⟩,
   ⟨some 119, .load false 1 (.t 118), none⟩,
   ⟨some 120, .call (.c (.fn 113 [] [])) [(.t 119)], none⟩,
   ⟨some 121, .nilchk (.t 117), none⟩,
   ⟨some 122, .fldA 0 (.t 121), none⟩,
   ⟨some 123, .fldA 1 (.t 122), none⟩,
   ⟨none, .store 1 (.t 123) (.t 120), none⟩])
 (.seq (.reg [⟨some 124, .mov (.t 4), none⟩,
   ⟨some 2, .mov (.t 124), none⟩,
   ⟨some 3, .mov (.c (.int .i64 0)), none⟩])
 (.ret))))))))
def r89 : List ARV := [.tmp 2, .tmp 3]
theorem b89 : Try.f89.body.bind (tr Try.prog 125) = some c89.bare := by kernel_rfl
theorem q89 : trRes Try.prog Try.f89.results.toList = some r89 := by kernel_rfl
theorem n89 : (Try.f89.name == "runtime.NumGoroutine") = false := by kernel_rfl

def c90 : ACode :=
 .seq (.reg [⟨some 4, .mov (.c (.bool false)), none⟩])
 (.seq (.reg [⟨some 5, .mov (.t 0), none⟩,
   ⟨some 6, .mov (.t 1), none⟩,
   ⟨some 7, .call (.c (.fn 114 [] [])) [(.t 5), (.t 6)], none⟩,
   ⟨some 8, .bin .geq false (.t 7) (.c (.int .i64 0)), none⟩,
   ⟨some 4, .mov (.t 8), none⟩])
 (.ret))
def r90 : List ARV := [.tmp 4]
theorem b90 : Try.f90.body.bind (tr Try.prog 9) = some c90.bare := by kernel_rfl
theorem q90 : trRes Try.prog Try.f90.results.toList = some r90 := by kernel_rfl
theorem n90 : (Try.f90.name == "runtime.NumGoroutine") = false := by kernel_rfl

def c91 : ACode :=
 .seq (.reg [⟨some 3, .mov (.c (.bool false)), none⟩])
 (.seq (.reg [⟨some 4, .mov (.t 0), none⟩,
   ⟨some 5, .bin .lss false (.t 4) (.c (.int .i64 0)), none⟩,
   ⟨some 6, .mov (.t 5), none⟩,
   ⟨some 7, .mov (.t 0), some (6, false)⟩,
   ⟨some 8, .fldA 1 (.t 1), some (6, false)⟩,
   ⟨some 9, .load false 1 (.t 8), some (6, false)⟩,
   ⟨some 10, .len (.t 9), some (6, false)⟩,
   ⟨some 11, .bin .geq false (.t 7) (.t 10), some (6, false)⟩,
   ⟨some 12, .pick (.t 6) (.c (.bool true)) (.t 11), none⟩,
   ⟨some 3, .mov (.t 12), none⟩])
 (.ret))
def r91 : List ARV := [.tmp 3]
theorem b91 : Try.f91.body.bind (tr Try.prog 13) = some c91.bare := by kernel_rfl
theorem q91 : trRes Try.prog Try.f91.results.toList = some r91 := by kernel_rfl
theorem n91 : (Try.f91.name == "runtime.NumGoroutine") = false := by kernel_rfl

def c92 : ACode :=
 .seq (.reg [⟨some 1, .box (.t 0), none⟩,
   ⟨some 2, .mov (.c (.int .i64 0)), none⟩])
 (.seq (.reg [⟨some 7, .mkfn 115 [] [(.t 1)], none⟩,
   ⟨some 3, .mov (.t 7), none⟩])
 (.seq (.reg [⟨some 8, .mkfn 116 [] [(.t 1)], none⟩,
   ⟨some 4, .mov (.t 8), none⟩])
 (.seq (.block 0 (.seq (.reg [⟨some 10, .load false 1 (.t 1), none⟩,
   ⟨some 11, .nilchk (.t 10), none⟩,
   ⟨some 12, .fldA 0 (.t 11), none⟩,
   ⟨some 13, .fldA 0 (.t 12), none⟩,
   ⟨some 14, .load false 1 (.t 13), none⟩,
   ⟨some 15, .bin .lss false (.t 14) (.c (.int .i64 0)), none⟩,
   ⟨some 9, .mov (.t 15), none⟩])
 (.cond (.t 9)
  (.seq (.reg [⟨some 2, .mov (.c (.int .i64 1)), none⟩])
  (.ret))
  (.seq (.seq (.reg [⟨some 17, .load false 1 (.t 1), none⟩,
    ⟨some 18, .nilchk (.t 17), none⟩,
    ⟨some 19, .fldA 0 (.t 18), none⟩,
    ⟨some 20, .fldA 0 (.t 19), none⟩,
    ⟨some 21, .load false 1 (.t 20), none⟩,
    ⟨some 22, .bin .gtr false (.t 21) (.c (.int .i64 65536)), none⟩,
    ⟨some 16, .mov (.t 22), none⟩])
  (.cond (.t 16)
   (.skip)
   (.seq (.reg [⟨some 23, .load false 1 (.t 1), none⟩,
     ⟨some 24, .call (.c (.fn 105 [] [])) [(.t 23)], none⟩,
     ⟨some 25, .bin .gtr false (.t 24) (.c (.int .i64 65536)), none⟩,
     ⟨some 16, .mov (.t 25), none⟩])
   (.cond (.t 16)
    (.skip)
    (.reg [⟨some 26, .load false 1 (.t 1), none⟩,
      ⟨some 27, .nilchk (.t 26), none⟩,
      ⟨some 28, .fldA 0 (.t 27), none⟩,
      ⟨some 29, .fldA 3 (.t 28), none⟩,
      ⟨some 30, .load false 1 (.t 29), none⟩,
      ⟨some 31, .len (.t 30), none⟩,
      ⟨some 32, .bin .gtr false (.t 31) (.c (.int .i64 65536)), none⟩,
      ⟨some 16, .mov (.t 32), none⟩])))))
  (.cond (.t 16)
   (.seq (.reg [⟨some 2, .mov (.c (.int .i64 2)), none⟩])
   (.ret))
   (.seq (.seq (.reg [⟨some 34, .load false 1 (.t 1), none⟩,
     ⟨some 35, .nilchk (.t 34), none⟩,
     ⟨some 36, .fldA 0 (.t 35), none⟩,
     ⟨some 37, .fldA 1 (.t 36), none⟩,
     ⟨some 38, .load false 1 (.t 37), none⟩,
     ⟨some 39, .mov (.t 3), none⟩,
     ⟨some 40, .call (.c (.fn 117 [] [])) [(.t 38), (.t 39)], none⟩,
     ⟨some 33, .mov (.t 40), none⟩])
   (.cond (.t 33)
    (.skip)
    (.reg [⟨some 41, .load false 1 (.t 1), none⟩,
      ⟨some 42, .nilchk (.t 41), none⟩,
      ⟨some 43, .fldA 0 (.t 42), none⟩,
      ⟨some 44, .fldA 3 (.t 43), none⟩,
      ⟨some 45, .load false 1 (.t 44), none⟩,
      ⟨some 46, .mov (.t 4), none⟩,
      ⟨some 47, .call (.c (.fn 90 [] [])) [(.t 45), (.t 46)], none⟩,
      ⟨some 33, .mov (.t 47), none⟩])))
   (.cond (.t 33)
    (.seq (.reg [⟨some 2, .mov (.c (.int .i64 1)), none⟩])
    (.ret))
    (.skip))))))))
 (.seq (.seq (.reg [⟨some 48, .load false 1 (.t 1), none⟩,
   ⟨some 49, .nilchk (.t 48), none⟩,
   ⟨some 50, .fldA 0 (.t 49), none⟩,
   ⟨some 51, .fldA 2 (.t 50), none⟩,
   ⟨some 52, .load false 1 (.t 51), none⟩,
   ⟨some 53, .len (.t 52), none⟩,
   ⟨some 54, .mov (.c (.int .i64 0)), none⟩])
 (.block 1 (.loop (.seq (.reg [⟨some 55, .bin .lss false (.t 54) (.t 53), none⟩])
  (.seq (.cond (.t 55)
   (.skip)
   (.exit 1))
  (.seq (.block 2 (.seq (.reg [⟨some 56, .mov (.t 54), none⟩,
    ⟨some 57, .idxS 2 (.t 52) (.t 54), none⟩,
    ⟨some 58, .load true 2 (.t 57), none⟩,
    ⟨some 6, .alloc [(.int .i64 0), (.int .i64 0)], none⟩,
    ⟨some 5, .mov (.t 56), none⟩,
    ⟨none, .store 2 (.t 6) (.t 58), none⟩])
  (.seq (.drw [⟨some 59, .idxR 1 2 (.t 6) (.c (.int .i64 0)), none⟩,
    ⟨some 60, .load false 1 (.t 59), none⟩,
    ⟨some 61, .idxR 1 2 (.t 6) (.c (.int .i64 1)), none⟩,
    ⟨some 62, .load false 1 (.t 61), none⟩,
    ⟨some 63, .min [(.t 60), (.t 62)], none⟩,
    ⟨some 64, .bin .lss false (.t 63) (.c (.int .i64 0)), none⟩,
    ⟨some 65, .mov (.t 64), none⟩,
    ⟨some 66, .idxR 1 2 (.t 6) (.c (.int .i64 0)), some (65, false)⟩,
    ⟨some 67, .load false 1 (.t 66), some (65, false)⟩,
    ⟨some 68, .idxR 1 2 (.t 6) (.c (.int .i64 1)), some (65, false)⟩,
    ⟨some 69, .load false 1 (.t 68), some (65, false)⟩,
    ⟨some 70, .max [(.t 67), (.t 69)], some (65, false)⟩,
    ⟨some 71, .load false 1 (.t 1), some (65, false)⟩,
    ⟨some 72, .call (.c (.fn 104 [] [])) [(.t 71)], some (65, false)⟩,
    ⟨some 73, .mov (.t 5), some (65, false)⟩,
    ⟨some 74, .bin .add false (.t 72) (.t 73), some (65, false)⟩,
    ⟨some 75, .bin .mul false (.c (.int .i64 2)) (.t 74), some (65, false)⟩,
    ⟨some 76, .bin .geq false (.t 70) (.t 75), some (65, false)⟩,
    ⟨some 77, .pick (.t 65) (.c (.bool true)) (.t 76), none⟩] [(8, 13), (10, 13)])
  (.cond (.t 77)
   (.seq (.reg [⟨some 2, .mov (.c (.int .i64 1)), none⟩])
   (.ret))
   (.skip)))))
  (.reg [⟨some 78, .bin .add false (.t 54) (.c (.int .i64 1)), none⟩,
    ⟨some 54, .mov (.t 78), none⟩])))))))
 (.seq (.reg [⟨some 2, .mov (.c (.int .i64 0)), none⟩])
 (.ret))))))
def r92 : List ARV := [.tmp 2]
theorem b92 : Try.f92.body.bind (tr Try.prog 79) = some c92.bare := by kernel_rfl
theorem q92 : trRes Try.prog Try.f92.results.toList = some r92 := by kernel_rfl
theorem n92 : (Try.f92.name == "runtime.NumGoroutine") = false := by kernel_rfl

def c93 : ACode :=
 .seq (.reg [⟨some 4, .mov (.c (.bool false)), none⟩])
 (.seq (.reg [⟨some 5, .mov (.t 1), none⟩,
   ⟨some 6, .bin .geq false (.t 5) (.c (.int .i64 0)), none⟩,
   ⟨some 7, .mov (.t 6), none⟩,
   ⟨some 8, .mov (.t 1), some (7, true)⟩,
   ⟨some 9, .bin .quo false (.t 8) (.c (.int .i64 2)), some (7, true)⟩,
   ⟨some 10, .mov (.t 0), some (7, true)⟩,
   ⟨some 11, .call (.c (.fn 105 [] [])) [(.t 10)], some (7, true)⟩,
   ⟨some 12, .bin .leq false (.t 9) (.t 11), some (7, true)⟩,
   ⟨some 13, .pick (.t 7) (.t 12) (.c (.bool false)), none⟩,
   ⟨some 4, .mov (.t 13), none⟩])
 (.ret))
def r93 : List ARV := [.tmp 4]
theorem b93 : Try.f93.body.bind (tr Try.prog 14) = some c93.bare := by kernel_rfl
theorem q93 : trRes Try.prog Try.f93.results.toList = some r93 := by kernel_rfl
theorem n93 : (Try.f93.name == "runtime.NumGoroutine") = false := by kernel_rfl

def c95 : ACode :=
 .seq (.reg [⟨some 4, .mov (.c (.int .i64 0)), none⟩])
 (.seq (.seq (.reg [⟨some 5, .mov (.t 1), none⟩,
   ⟨some 6, .bin .lss false (.t 5) (.c (.int .i64 2)), none⟩])
 (.cond (.t 6)
  (.seq (.reg [⟨some 7, .mov (.t 0), none⟩,
    ⟨some 8, .nilchk (.t 7), none⟩,
    ⟨some 9, .fldA 0 (.t 8), none⟩,
    ⟨some 10, .fldA 0 (.t 9), none⟩,
    ⟨some 11, .load false 1 (.t 10), none⟩,
    ⟨some 4, .mov (.t 11), none⟩])
  (.ret))
  (.skip)))
 (.seq (.reg [⟨some 12, .mov (.t 0), none⟩,
   ⟨some 13, .nilchk (.t 12), none⟩,
   ⟨some 14, .fldA 0 (.t 13), none⟩,
   ⟨some 15, .fldA 1 (.t 14), none⟩,
   ⟨some 16, .load false 1 (.t 15), none⟩,
   ⟨some 17, .mov (.t 1), none⟩,
   ⟨some 18, .idxS 3 (.t 16) (.t 17), none⟩,
   ⟨some 19, .fldA 0 (.t 18), none⟩,
   ⟨some 20, .load false 1 (.t 19), none⟩,
   ⟨some 4, .mov (.t 20), none⟩])
 (.ret)))
def r95 : List ARV := [.tmp 4]
theorem b95 : Try.f95.body.bind (tr Try.prog 21) = some c95.bare := by kernel_rfl
theorem q95 : trRes Try.prog Try.f95.results.toList = some r95 := by kernel_rfl
theorem n95 : (Try.f95.name == "runtime.NumGoroutine") = false := by kernel_rfl

def c96 : ACode :=
 .seq (.reg [⟨some 8, .mov (.c (.int .i64 0)), none⟩])
 (.seq (.seq (.reg [⟨some 9, .mov (.t 0), none⟩,
   ⟨some 10, .mov (.t 1), none⟩,
   ⟨some 11, .call (.c (.fn 95 [] [])) [(.t 9), (.t 10)], none⟩,
   ⟨some 12, .mov (.t 2), none⟩,
   ⟨some 13, .bin .neq false (.t 11) (.t 12), none⟩])
 (.cond (.t 13)
  (.seq (.reg [⟨some 14, .mov (.t 1), none⟩,
    ⟨some 8, .mov (.t 14), none⟩])
  (.ret))
  (.skip)))
 (.seq (.drw [⟨some 15, .mov (.t 0), none⟩,
   ⟨some 16, .nilchk (.t 15), none⟩,
   ⟨some 17, .fldA 0 (.t 16), none⟩,
   ⟨some 18, .fldA 1 (.t 17), none⟩,
   ⟨some 19, .load false 1 (.t 18), none⟩,
   ⟨some 20, .mov (.t 1), none⟩,
   ⟨some 21, .idxS 3 (.t 19) (.t 20), none⟩,
   ⟨some 22, .fldA 1 (.t 21), none⟩,
   ⟨some 23, .load false 1 (.t 22), none⟩,
   ⟨some 24, .mov (.t 0), none⟩,
   ⟨some 25, .nilchk (.t 24), none⟩,
   ⟨some 26, .fldA 0 (.t 25), none⟩,
   ⟨some 27, .fldA 1 (.t 26), none⟩,
   ⟨some 28, .load false 1 (.t 27), none⟩,
   ⟨some 29, .mov (.t 1), none⟩,
   ⟨some 30, .idxS 3 (.t 28) (.t 29), none⟩,
   ⟨some 31, .fldA 2 (.t 30), none⟩,
   ⟨some 32, .load false 1 (.t 31), none⟩,
   ⟨some 33, .build [(.int .i64 0), (.int .i64 0)] [(0, 1, (.t 23)), (1, 1, (.t 32))], none⟩,
   ⟨some 34, .mov (.t 3), none⟩,
   ⟨some 35, .idxV false 1 2 (.t 33) (.t 34), none⟩,
   ⟨some 8, .mov (.t 35), none⟩] [])
 (.ret)))
def r96 : List ARV := [.tmp 8]
theorem b96 : Try.f96.body.bind (tr Try.prog 36) = some c96.bare := by kernel_rfl
theorem q96 : trRes Try.prog Try.f96.results.toList = some r96 := by kernel_rfl
theorem n96 : (Try.f96.name == "runtime.NumGoroutine") = false := by kernel_rfl

def c97 : ACode :=
 .seq (.reg [⟨some 2, .mov (.c (.slice [] .nil)), none⟩])
 (.seq (.reg [⟨some 3, .mov (.c (.int .i64 0)), none⟩])
 (.seq (.seq (.reg [⟨some 9, .mov (.t 0), none⟩,
   ⟨some 10, .len (.t 9), none⟩,
   ⟨some 11, .mov (.c (.int .i64 0)), none⟩])
 (.block 0 (.loop (.seq (.reg [⟨some 12, .bin .lss false (.t 11) (.t 10), none⟩])
  (.seq (.cond (.t 12)
   (.skip)
   (.exit 0))
  (.seq (.block 1 (.seq (.reg [⟨some 13, .idxS 1 (.t 9) (.t 11), none⟩,
    ⟨some 14, .load false 1 (.t 13), none⟩,
    ⟨some 5, .mov (.t 14), none⟩])
  (.seq (.reg [⟨some 15, .mov (.t 3), none⟩,
    ⟨some 16, .mov (.t 5), none⟩,
    ⟨some 17, .len (.t 16), none⟩,
    ⟨some 18, .bin .add false (.t 15) (.t 17), none⟩,
    ⟨some 3, .mov (.t 18), none⟩])
  (.seq (.reg [⟨some 19, .mov (.t 3), none⟩,
    ⟨some 20, .bin .lss false (.t 19) (.c (.int .i64 0)), none⟩])
  (.cond (.t 20)
   (.reg [⟨some 21, .mkiface 9 (.c (.str ⟨#[108, 101, 110, 32, 111, 117, 116, 32, 111, 102, 32, 114, 97, 110, 103, 101]⟩)), none⟩,
     ⟨none, .panic (.t 21), none⟩])
   (.skip))))))
  (.reg [⟨some 22, .bin .add false (.t 11) (.c (.int .i64 1)), none⟩,
    ⟨some 11, .mov (.t 22), none⟩])))))))
 (.seq (.reg [⟨some 23, .mov (.t 3), none⟩,
   ⟨some 24, .call (.c (.fn 118 [] [])) [(.c (.slice [] .nil)), (.t 23)], none⟩,
   ⟨some 6, .mov (.t 24), none⟩])
 (.seq (.seq (.reg [⟨some 25, .mov (.t 0), none⟩,
   ⟨some 26, .len (.t 25), none⟩,
   ⟨some 27, .mov (.c (.int .i64 0)), none⟩])
 (.block 2 (.loop (.seq (.reg [⟨some 28, .bin .lss false (.t 27) (.t 26), none⟩])
  (.seq (.cond (.t 28)
   (.skip)
   (.exit 2))
  (.seq (.block 3 (.seq (.reg [⟨some 29, .idxS 1 (.t 25) (.t 27), none⟩,
    ⟨some 30, .load false 1 (.t 29), none⟩,
    ⟨some 8, .mov (.t 30), none⟩])
  (.reg [⟨some 31, .mov (.t 6), none⟩,
    ⟨some 32, .mov (.t 8), none⟩,
    ⟨some 33, .append 2 16 (.t 31) (.t 32), none⟩,
    ⟨some 6, .mov (.t 33), none⟩])))
  (.reg [⟨some 34, .bin .add false (.t 27) (.c (.int .i64 1)), none⟩,
    ⟨some 27, .mov (.t 34), none⟩])))))))
 (.seq (.reg [⟨some 35, .mov (.t 6), none⟩,
   ⟨some 2, .mov (.t 35), none⟩])
 (.ret))))))
def r97 : List ARV := [.tmp 2]
theorem b97 : Try.f97.body.bind (tr Try.prog 36) = some c97.bare := by kernel_rfl
theorem q97 : trRes Try.prog Try.f97.results.toList = some r97 := by kernel_rfl
theorem n97 : (Try.f97.name == "runtime.NumGoroutine") = false := by kernel_rfl

def c98 : ACode :=
 .seq (.reg [⟨some 1, .boxI (.t 0), none⟩,
   ⟨some 2, .mov (.c (.int .i64 0)), none⟩])
 (.seq (.seq (.reg [⟨some 5, .fldA 1 (.t 1), none⟩,
   ⟨some 6, .load false 1 (.t 5), none⟩,
   ⟨some 7, .len (.t 6), none⟩,
   ⟨some 8, .bin .gtr false (.t 7) (.c (.int .i64 65536)), none⟩])
 (.cond (.t 8)
  (.seq (.reg [⟨some 2, .mov (.c (.int .i64 220)), none⟩])
  (.ret))
  (.skip)))
 (.seq (.reg [⟨some 9, .build [(.int .i64 0), (.int .i64 0), (.int .i64 0)] [(0, 1, (.c (.int .i64 (-1))))], none⟩,
   ⟨some 3, .alloc [(.int .i64 0), (.int .i64 0), (.int .i64 0)], none⟩,
   ⟨none, .store 3 (.t 3) (.t 9), none⟩])
 (.seq (.seq (.drw [⟨some 10, .fldA 0 (.t 1), none⟩,
   ⟨some 11, .load false 1 (.t 10), none⟩,
   ⟨some 12, .bin .lss false (.t 11) (.c (.int .i64 0)), none⟩,
   ⟨some 13, .mov (.t 12), none⟩,
   ⟨some 14, .fldA 0 (.t 1), some (13, false)⟩,
   ⟨some 15, .load false 1 (.t 14), some (13, false)⟩,
   ⟨some 16, .bin .gtr false (.t 15) (.c (.int .i64 32)), some (13, false)⟩,
   ⟨some 17, .pick (.t 13) (.c (.bool true)) (.t 16), none⟩,
   ⟨some 18, .mov (.t 17), none⟩,
   ⟨some 19, .fldA 1 (.t 1), some (18, false)⟩,
   ⟨some 20, .load false 1 (.t 19), some (18, false)⟩,
   ⟨some 21, .len (.t 20), some (18, false)⟩,
   ⟨some 22, .bin .lss false (.t 21) (.c (.int .i64 2)), some (18, false)⟩,
   ⟨some 23, .pick (.t 18) (.c (.bool true)) (.t 22), none⟩,
   ⟨some 24, .mov (.t 23), none⟩,
   ⟨some 25, .fldA 1 (.t 1), some (24, false)⟩,
   ⟨some 26, .load false 1 (.t 25), some (24, false)⟩,
   ⟨some 27, .idxS 3 (.t 26) (.c (.int .i64 0)), some (24, false)⟩,
   ⟨some 28, .load true 3 (.t 27), some (24, false)⟩,
   ⟨some 29, .load true 3 (.t 3), some (24, false)⟩,
   ⟨some 30, .eqs true [0, 0, 0] (.t 28) (.t 29), some (24, false)⟩,
   ⟨some 31, .pick (.t 24) (.c (.bool true)) (.t 30), none⟩,
   ⟨some 32, .mov (.t 31), none⟩,
   ⟨some 33, .fldA 1 (.t 1), some (32, false)⟩,
   ⟨some 34, .load false 1 (.t 33), some (32, false)⟩,
   ⟨some 35, .idxS 3 (.t 34) (.c (.int .i64 1)), some (32, false)⟩,
   ⟨some 36, .load true 3 (.t 35), some (32, false)⟩,
   ⟨some 37, .load true 3 (.t 3), some (32, false)⟩,
   ⟨some 38, .eqs true [0, 0, 0] (.t 36) (.t 37), some (32, false)⟩,
   ⟨some 39, .pick (.t 32) (.c (.bool true)) (.t 38), none⟩] [])
 (.cond (.t 39)
  (.seq (.reg [⟨some 2, .mov (.c (.int .i64 1)), none⟩])
  (.ret))
  (.skip)))
 (.seq (.seq (.reg [⟨some 4, .mov (.c (.int .i64 2)), none⟩])
 (.block 0 (.loop (.seq (.seq (.reg [⟨some 40, .mov (.t 4), none⟩,
    ⟨some 41, .fldA 1 (.t 1), none⟩,
    ⟨some 42, .load false 1 (.t 41), none⟩,
    ⟨some 43, .len (.t 42), none⟩,
    ⟨some 44, .bin .lss false (.t 40) (.t 43), none⟩])
  (.cond (.t 44)
   (.skip)
   (.exit 0)))
  (.seq (.block 1 (.seq (.reg [⟨some 47, .load true 2 (.t 1), none⟩,
    ⟨some 48, .mov (.t 4), none⟩,
    ⟨some 49, .call (.c (.fn 119 [] [])) [(.t 47), (.t 48)], none⟩,
    ⟨some 50, .un .not (.t 49), none⟩])
  (.cond (.t 50)
   (.seq (.reg [⟨some 2, .mov (.c (.int .i64 1)), none⟩])
   (.ret))
   (.skip))))
  (.reg [⟨some 45, .mov (.t 4), none⟩,
    ⟨some 46, .bin .add false (.t 45) (.c (.int .i64 1)), none⟩,
    ⟨some 4, .mov (.t 46), none⟩]))))))
 (.seq (.reg [⟨some 2, .mov (.c (.int .i64 0)), none⟩])
 (.ret))))))
def r98 : List ARV := [.tmp 2]
theorem b98 : Try.f98.body.bind (tr Try.prog 51) = some c98.bare := by kernel_rfl
theorem q98 : trRes Try.prog Try.f98.results.toList = some r98 := by kernel_rfl
theorem n98 : (Try.f98.name == "runtime.NumGoroutine") = false := by kernel_rfl

def c102 : ACode :=
 .seq (.reg [⟨some 4, .mov (.c (.int .i64 0)), none⟩])
 (.seq (.seq (.reg [⟨some 6, .mov (.t 0), none⟩,
   ⟨some 7, .len (.t 6), none⟩,
   ⟨some 8, .mov (.c (.int .i64 0)), none⟩])
 (.block 0 (.loop (.seq (.reg [⟨some 9, .bin .lss false (.t 8) (.t 7), none⟩])
  (.seq (.cond (.t 9)
   (.skip)
   (.exit 0))
  (.seq (.block 1 (.seq (.reg [⟨some 10, .mov (.t 8), none⟩,
    ⟨some 5, .mov (.t 10), none⟩])
  (.seq (.reg [⟨some 11, .mov (.t 1), none⟩,
    ⟨some 12, .mov (.t 0), none⟩,
    ⟨some 13, .mov (.t 5), none⟩,
    ⟨some 14, .idxS 2 (.t 12) (.t 13), none⟩,
    ⟨some 15, .load true 2 (.t 14), none⟩,
    ⟨some 16, .call (.t 11) [(.t 15)], none⟩])
  (.cond (.t 16)
   (.seq (.reg [⟨some 17, .mov (.t 5), none⟩,
     ⟨some 4, .mov (.t 17), none⟩])
   (.ret))
   (.skip)))))
  (.reg [⟨some 18, .bin .add false (.t 8) (.c (.int .i64 1)), none⟩,
    ⟨some 8, .mov (.t 18), none⟩])))))))
 (.seq (.reg [⟨some 4, .mov (.c (.int .i64 (-1))), none⟩])
 (.ret)))
def r102 : List ARV := [.tmp 4]
theorem b102 : Try.f102.body.bind (tr Try.prog 19) = some c102.bare := by kernel_rfl
theorem q102 : trRes Try.prog Try.f102.results.toList = some r102 := by kernel_rfl
theorem n102 : (Try.f102.name == "runtime.NumGoroutine") = false := by kernel_rfl

def c103 : ACode :=
 .seq (.reg [⟨some 3, .boxI (.t 0), none⟩,
   ⟨some 4, .mov (.c (.bool false)), none⟩])
 (.seq (.reg [⟨some 5, .idxR 1 2 (.t 3) (.c (.int .i64 0)), none⟩,
   ⟨some 6, .load false 1 (.t 5), none⟩,
   ⟨some 7, .idxR 1 2 (.t 3) (.c (.int .i64 1)), none⟩,
   ⟨some 8, .load false 1 (.t 7), none⟩,
   ⟨some 9, .min [(.t 6), (.t 8)], none⟩,
   ⟨some 10, .load false 1 (.t 1), none⟩,
   ⟨some 11, .bin .eql false (.t 9) (.t 10), none⟩,
   ⟨some 12, .mov (.t 11), none⟩,
   ⟨some 13, .idxR 1 2 (.t 3) (.c (.int .i64 0)), some (12, true)⟩,
   ⟨some 14, .load false 1 (.t 13), some (12, true)⟩,
   ⟨some 15, .idxR 1 2 (.t 3) (.c (.int .i64 1)), some (12, true)⟩,
   ⟨some 16, .load false 1 (.t 15), some (12, true)⟩,
   ⟨some 17, .max [(.t 14), (.t 16)], some (12, true)⟩,
   ⟨some 18, .load false 1 (.t 2), some (12, true)⟩,
   ⟨some 19, .bin .eql false (.t 17) (.t 18), some (12, true)⟩,
   ⟨some 20, .pick (.t 12) (.t 19) (.c (.bool false)), none⟩,
   ⟨some 4, .mov (.t 20), none⟩])
 (.ret))
def r103 : List ARV := [.tmp 4]
theorem b103 : Try.f103.body.bind (tr Try.prog 21) = some c103.bare := by kernel_rfl
theorem q103 : trRes Try.prog Try.f103.results.toList = some r103 := by kernel_rfl
theorem n103 : (Try.f103.name == "runtime.NumGoroutine") = false := by kernel_rfl

def c104 : ACode :=
 .seq (.reg [⟨some 2, .mov (.c (.int .i64 0)), none⟩])
 (.seq (.drw [⟨some 3, .mov (.t 0), none⟩,
   ⟨some 4, .nilchk (.t 3), none⟩,
   ⟨some 5, .fldA 0 (.t 4), none⟩,
   ⟨some 6, .fldA 0 (.t 5), none⟩,
   ⟨some 7, .load false 1 (.t 6), none⟩,
   ⟨some 8, .bin .add false (.c (.int .i64 1)) (.t 7), none⟩,
   ⟨some 9, .mov (.t 0), none⟩,
   ⟨some 10, .nilchk (.t 9), none⟩,
   ⟨some 11, .fldA 0 (.t 10), none⟩,
   ⟨some 12, .fldA 1 (.t 11), none⟩,
   ⟨some 13, .load false 1 (.t 12), none⟩,
   ⟨some 14, .len (.t 13), none⟩,
   ⟨some 15, .bin .add false (.t 8) (.t 14), none⟩,
   ⟨some 2, .mov (.t 15), none⟩] [])
 (.ret))
def r104 : List ARV := [.tmp 2]
theorem b104 : Try.f104.body.bind (tr Try.prog 16) = some c104.bare := by kernel_rfl
theorem q104 : trRes Try.prog Try.f104.results.toList = some r104 := by kernel_rfl
theorem n104 : (Try.f104.name == "runtime.NumGoroutine") = false := by kernel_rfl

def c105 : ACode :=
 .seq (.reg [⟨some 2, .mov (.c (.int .i64 0)), none⟩])
 (.seq (.drw [⟨some 3, .mov (.t 0), none⟩,
   ⟨some 4, .nilchk (.t 3), none⟩,
   ⟨some 5, .fldA 0 (.t 4), none⟩,
   ⟨some 6, .fldA 0 (.t 5), none⟩,
   ⟨some 7, .load false 1 (.t 6), none⟩,
   ⟨some 8, .mov (.t 0), none⟩,
   ⟨some 9, .nilchk (.t 8), none⟩,
   ⟨some 10, .fldA 0 (.t 9), none⟩,
   ⟨some 11, .fldA 1 (.t 10), none⟩,
   ⟨some 12, .load false 1 (.t 11), none⟩,
   ⟨some 13, .len (.t 12), none⟩,
   ⟨some 14, .bin .add false (.t 7) (.t 13), none⟩,
   ⟨some 15, .mov (.t 0), none⟩,
   ⟨some 16, .nilchk (.t 15), none⟩,
   ⟨some 17, .fldA 0 (.t 16), none⟩,
   ⟨some 18, .fldA 2 (.t 17), none⟩,
   ⟨some 19, .load false 1 (.t 18), none⟩,
   ⟨some 20, .len (.t 19), none⟩,
   ⟨some 21, .bin .add false (.t 14) (.t 20), none⟩,
   ⟨some 2, .mov (.t 21), none⟩] [])
 (.ret))
def r105 : List ARV := [.tmp 2]
theorem b105 : Try.f105.body.bind (tr Try.prog 22) = some c105.bare := by kernel_rfl
theorem q105 : trRes Try.prog Try.f105.results.toList = some r105 := by kernel_rfl
theorem n105 : (Try.f105.name == "runtime.NumGoroutine") = false := by kernel_rfl

def c106 : ACode :=
 .seq (.reg [⟨some 2, .mov (.c (.slice [] .nil)), none⟩])
 (.seq (.reg [⟨some 3, .mov (.t 0), none⟩,
   ⟨some 4, .mov (.t 0), none⟩,
   ⟨some 5, .len (.t 4), none⟩,
   ⟨some 6, .mov (.t 0), none⟩,
   ⟨some 7, .len (.t 6), none⟩,
   ⟨some 8, .slc 2 (.t 3) none (some (.t 5)) (some (.t 7)), none⟩,
   ⟨some 2, .mov (.t 8), none⟩])
 (.ret))
def r106 : List ARV := [.tmp 2]
theorem b106 : Try.f106.body.bind (tr Try.prog 9) = some c106.bare := by kernel_rfl
theorem q106 : trRes Try.prog Try.f106.results.toList = some r106 := by kernel_rfl
theorem n106 : (Try.f106.name == "runtime.NumGoroutine") = false := by kernel_rfl

def c110 : ACode :=
 .seq (.reg [⟨some 3, .boxI (.t 0), none⟩,
   ⟨some 6, .mov (.c (.slice [] .nil)), none⟩,
   ⟨some 7, .mov (.c (.int .i64 0)), none⟩])
 (.seq (.seq (.reg [⟨some 12, .load true 4 (.t 3), none⟩,
   ⟨some 13, .call (.c (.fn 33 [] [])) [(.t 12)], none⟩,
   ⟨some 8, .mov (.t 13), none⟩])
 (.seq (.reg [⟨some 14, .mov (.t 8), none⟩,
   ⟨some 15, .bin .neq false (.t 14) (.c (.int .i64 0)), none⟩])
 (.cond (.t 15)
  (.seq (.reg [⟨some 16, .mov (.t 8), none⟩,
    ⟨some 6, .mov (.c (.slice [] .nil)), none⟩,
    ⟨some 7, .mov (.t 16), none⟩])
  (.ret))
  (.skip))))
 (.seq (.seq (.reg [⟨some 17, .mov (.t 1), none⟩,
   ⟨some 18, .len (.t 17), none⟩,
   ⟨some 19, .fldA 0 (.t 3), none⟩,
   ⟨some 20, .load false 1 (.t 19), none⟩,
   ⟨some 21, .bin .neq false (.t 18) (.t 20), none⟩,
   ⟨some 22, .mov (.t 21), none⟩,
   ⟨some 23, .mov (.t 2), some (22, false)⟩,
   ⟨some 24, .len (.t 23), some (22, false)⟩,
   ⟨some 25, .fldA 1 (.t 3), some (22, false)⟩,
   ⟨some 26, .load false 1 (.t 25), some (22, false)⟩,
   ⟨some 27, .len (.t 26), some (22, false)⟩,
   ⟨some 28, .bin .neq false (.t 24) (.t 27), some (22, false)⟩,
   ⟨some 29, .pick (.t 22) (.c (.bool true)) (.t 28), none⟩])
 (.cond (.t 29)
  (.seq (.reg [⟨some 6, .mov (.c (.slice [] .nil)), none⟩,
    ⟨some 7, .mov (.c (.int .i64 1)), none⟩])
  (.ret))
  (.skip)))
 (.seq (.reg [⟨some 30, .bslice 1 [(.c (.bool false))], none⟩,
   ⟨some 31, .mov (.t 1), none⟩,
   ⟨some 32, .mov (.t 2), none⟩,
   ⟨some 33, .bslice 1 [(.t 30), (.t 31), (.t 32)], none⟩,
   ⟨some 34, .call (.c (.fn 122 [] [])) [(.t 33)], none⟩,
   ⟨some 9, .mov (.t 34), none⟩])
 (.seq (.seq (.reg [⟨some 35, .fldA 2 (.t 3), none⟩,
   ⟨some 36, .load false 1 (.t 35), none⟩,
   ⟨some 37, .len (.t 36), none⟩,
   ⟨some 38, .mov (.c (.int .i64 0)), none⟩])
 (.block 0 (.loop (.seq (.reg [⟨some 39, .bin .lss false (.t 38) (.t 37), none⟩])
  (.seq (.cond (.t 39)
   (.skip)
   (.exit 0))
  (.seq (.block 1 (.seq (.reg [⟨some 40, .idxS 2 (.t 36) (.t 38), none⟩,
    ⟨some 41, .load true 2 (.t 40), none⟩,
    ⟨some 11, .alloc [(.int .i64 0), (.int .i64 0)], none⟩,
    ⟨none, .store 2 (.t 11) (.t 41), none⟩])
  (.reg [⟨some 42, .mov (.t 9), none⟩,
    ⟨some 43, .mov (.t 9), none⟩,
    ⟨some 44, .idxR 1 2 (.t 11) (.c (.int .i64 0)), none⟩,
    ⟨some 45, .load false 1 (.t 44), none⟩,
    ⟨some 46, .call (.c (.fn 111 [] [])) [(.t 43), (.t 45)], none⟩,
    ⟨some 47, .mov (.t 46), none⟩,
    ⟨some 48, .mov (.t 9), some (47, true)⟩,
    ⟨some 49, .idxR 1 2 (.t 11) (.c (.int .i64 1)), some (47, true)⟩,
    ⟨some 50, .load false 1 (.t 49), some (47, true)⟩,
    ⟨some 51, .call (.c (.fn 111 [] [])) [(.t 48), (.t 50)], some (47, true)⟩,
    ⟨some 52, .pick (.t 47) (.t 51) (.c (.bool false)), none⟩,
    ⟨some 53, .bslice 1 [(.t 52)], none⟩,
    ⟨some 54, .append 1 1 (.t 42) (.t 53), none⟩,
    ⟨some 9, .mov (.t 54), none⟩])))
  (.reg [⟨some 55, .bin .add false (.t 38) (.c (.int .i64 1)), none⟩,
    ⟨some 38, .mov (.t 55), none⟩])))))))
 (.seq (.reg [⟨some 56, .mov (.t 9), none⟩,
   ⟨some 6, .mov (.t 56), none⟩,
   ⟨some 7, .mov (.c (.int .i64 0)), none⟩])
 (.ret))))))
def r110 : List ARV := [.tmp 6, .tmp 7]
theorem b110 : Try.f110.body.bind (tr Try.prog 57) = some c110.bare := by kernel_rfl
theorem q110 : trRes Try.prog Try.f110.results.toList = some r110 := by kernel_rfl
theorem n110 : (Try.f110.name == "runtime.NumGoroutine") = false := by kernel_rfl

def c111 : ACode :=
 .seq (.reg [⟨some 4, .mov (.c (.bool false)), none⟩])
 (.seq (.reg [⟨some 5, .mov (.t 0), none⟩,
   ⟨some 6, .mov (.t 1), none⟩,
   ⟨some 7, .bin .shr false (.t 6) (.c (.int .u64 1)), none⟩,
   ⟨some 8, .idxS 1 (.t 5) (.t 7), none⟩,
   ⟨some 9, .load false 1 (.t 8), none⟩,
   ⟨some 10, .mov (.t 1), none⟩,
   ⟨some 11, .bin .and false (.t 10) (.c (.int .i64 1)), none⟩,
   ⟨some 12, .bin .eql false (.t 11) (.c (.int .i64 1)), none⟩,
   ⟨some 13, .bin .neq true (.t 9) (.t 12), none⟩,
   ⟨some 4, .mov (.t 13), none⟩])
 (.ret))
def r111 : List ARV := [.tmp 4]
theorem b111 : Try.f111.body.bind (tr Try.prog 14) = some c111.bare := by kernel_rfl
theorem q111 : trRes Try.prog Try.f111.results.toList = some r111 := by kernel_rfl
theorem n111 : (Try.f111.name == "runtime.NumGoroutine") = false := by kernel_rfl

def c112 : ACode :=
 .seq (.reg [⟨some 8, .mov (.c (.bool false)), none⟩])
 (.seq (.reg [⟨some 9, .mov (.t 1), none⟩,
   ⟨some 10, .bin .geq false (.t 9) (.c (.int .i64 0)), none⟩,
   ⟨some 11, .mov (.t 10), none⟩,
   ⟨some 12, .mov (.t 1), some (11, true)⟩,
   ⟨some 13, .mov (.t 3), some (11, true)⟩,
   ⟨some 14, .bin .lss false (.t 12) (.t 13), some (11, true)⟩,
   ⟨some 15, .pick (.t 11) (.t 14) (.c (.bool false)), none⟩,
   ⟨some 16, .mov (.t 15), none⟩,
   ⟨some 17, .mov (.t 1), some (16, true)⟩,
   ⟨some 18, .bin .lss false (.t 17) (.c (.int .i64 2)), some (16, true)⟩,
   ⟨some 19, .mov (.t 18), some (16, true)⟩,
   ⟨some 20, .mov (.t 0), some (19, false)⟩,
   ⟨some 21, .nilchk (.t 20), some (19, false)⟩,
   ⟨some 22, .fldA 0 (.t 21), some (19, false)⟩,
   ⟨some 23, .fldA 1 (.t 22), some (19, false)⟩,
   ⟨some 24, .load false 1 (.t 23), some (19, false)⟩,
   ⟨some 25, .mov (.t 1), some (19, false)⟩,
   ⟨some 26, .idxS 3 (.t 24) (.t 25), some (19, false)⟩,
   ⟨some 27, .fldA 0 (.t 26), some (19, false)⟩,
   ⟨some 28, .load false 1 (.t 27), some (19, false)⟩,
   ⟨some 29, .mov (.t 2), some (19, false)⟩,
   ⟨some 30, .bin .gtr false (.t 28) (.t 29), some (19, false)⟩,
   ⟨some 31, .pick (.t 19) (.c (.bool true)) (.t 30), some (16, true)⟩,
   ⟨some 32, .pick (.t 16) (.t 31) (.c (.bool false)), none⟩,
   ⟨some 8, .mov (.t 32), none⟩])
 (.ret))
def r112 : List ARV := [.tmp 8]
theorem b112 : Try.f112.body.bind (tr Try.prog 33) = some c112.bare := by kernel_rfl
theorem q112 : trRes Try.prog Try.f112.results.toList = some r112 := by kernel_rfl
theorem n112 : (Try.f112.name == "runtime.NumGoroutine") = false := by kernel_rfl

def c113 : ACode :=
 .seq (.reg [⟨some 2, .mov (.c (.slice [] .nil)), none⟩])
 (.seq (.reg [⟨some 3, .mov (.t 0), none⟩,
   ⟨some 4, .mov (.t 0), none⟩,
   ⟨some 5, .len (.t 4), none⟩,
   ⟨some 6, .mov (.t 0), none⟩,
   ⟨some 7, .len (.t 6), none⟩,
   ⟨some 8, .slc 3 (.t 3) none (some (.t 5)) (some (.t 7)), none⟩,
   ⟨some 2, .ext (.retok 3 (.t 8)), none⟩])
 (.ret))
def r113 : List ARV := [.tmp 2]
theorem b113 : Try.f113.body.bind (tr Try.prog 9) = some c113.bare := by kernel_rfl
theorem q113 : trRes Try.prog Try.f113.results.toList = some r113 := by kernel_rfl
theorem n113 : (Try.f113.name == "runtime.NumGoroutine") = false := by kernel_rfl

def c114 : ACode :=
 .seq (.reg [⟨some 4, .mov (.c (.int .i64 0)), none⟩])
 (.seq (.seq (.reg [⟨some 6, .mov (.t 0), none⟩,
   ⟨some 7, .len (.t 6), none⟩,
   ⟨some 8, .mov (.c (.int .i64 0)), none⟩])
 (.block 0 (.loop (.seq (.reg [⟨some 9, .bin .lss false (.t 8) (.t 7), none⟩])
  (.seq (.cond (.t 9)
   (.skip)
   (.exit 0))
  (.seq (.block 1 (.seq (.reg [⟨some 10, .mov (.t 8), none⟩,
    ⟨some 5, .mov (.t 10), none⟩])
  (.seq (.reg [⟨some 11, .mov (.t 1), none⟩,
    ⟨some 12, .mov (.t 0), none⟩,
    ⟨some 13, .mov (.t 5), none⟩,
    ⟨some 14, .idxS 1 (.t 12) (.t 13), none⟩,
    ⟨some 15, .load false 1 (.t 14), none⟩,
    ⟨some 16, .call (.t 11) [(.t 15)], none⟩])
  (.cond (.t 16)
   (.seq (.reg [⟨some 17, .mov (.t 5), none⟩,
     ⟨some 4, .mov (.t 17), none⟩])
   (.ret))
   (.skip)))))
  (.reg [⟨some 18, .bin .add false (.t 8) (.c (.int .i64 1)), none⟩,
    ⟨some 8, .mov (.t 18), none⟩])))))))
 (.seq (.reg [⟨some 4, .mov (.c (.int .i64 (-1))), none⟩])
 (.ret)))
def r114 : List ARV := [.tmp 4]
theorem b114 : Try.f114.body.bind (tr Try.prog 19) = some c114.bare := by kernel_rfl
theorem q114 : trRes Try.prog Try.f114.results.toList = some r114 := by kernel_rfl
theorem n114 : (Try.f114.name == "runtime.NumGoroutine") = false := by kernel_rfl

def c115 : ACode :=
 .seq (.reg [⟨some 2, .boxI (.t 0), none⟩,
   ⟨some 3, .mov (.c (.bool false)), none⟩])
 (.seq (.reg [⟨some 4, .load false 1 (.t 1), none⟩,
   ⟨some 5, .fldA 0 (.t 2), none⟩,
   ⟨some 6, .load false 1 (.t 5), none⟩,
   ⟨some 7, .call (.c (.fn 93 [] [])) [(.t 4), (.t 6)], none⟩,
   ⟨some 8, .un .not (.t 7), none⟩,
   ⟨some 3, .mov (.t 8), none⟩])
 (.ret))
def r115 : List ARV := [.tmp 3]
theorem b115 : Try.f115.body.bind (tr Try.prog 9) = some c115.bare := by kernel_rfl
theorem q115 : trRes Try.prog Try.f115.results.toList = some r115 := by kernel_rfl
theorem n115 : (Try.f115.name == "runtime.NumGoroutine") = false := by kernel_rfl

def c116 : ACode :=
 .seq (.reg [⟨some 3, .mov (.c (.bool false)), none⟩])
 (.seq (.reg [⟨some 4, .load false 1 (.t 1), none⟩,
   ⟨some 5, .mov (.t 0), none⟩,
   ⟨some 6, .call (.c (.fn 93 [] [])) [(.t 4), (.t 5)], none⟩,
   ⟨some 7, .un .not (.t 6), none⟩,
   ⟨some 3, .mov (.t 7), none⟩])
 (.ret))
def r116 : List ARV := [.tmp 3]
theorem b116 : Try.f116.body.bind (tr Try.prog 8) = some c116.bare := by kernel_rfl
theorem q116 : trRes Try.prog Try.f116.results.toList = some r116 := by kernel_rfl
theorem n116 : (Try.f116.name == "runtime.NumGoroutine") = false := by kernel_rfl

def c117 : ACode :=
 .seq (.reg [⟨some 4, .mov (.c (.bool false)), none⟩])
 (.seq (.reg [⟨some 5, .mov (.t 0), none⟩,
   ⟨some 6, .mov (.t 1), none⟩,
   ⟨some 7, .call (.c (.fn 123 [] [])) [(.t 5), (.t 6)], none⟩,
   ⟨some 8, .bin .geq false (.t 7) (.c (.int .i64 0)), none⟩,
   ⟨some 4, .mov (.t 8), none⟩])
 (.ret))
def r117 : List ARV := [.tmp 4]
theorem b117 : Try.f117.body.bind (tr Try.prog 9) = some c117.bare := by kernel_rfl
theorem q117 : trRes Try.prog Try.f117.results.toList = some r117 := by kernel_rfl
theorem n117 : (Try.f117.name == "runtime.NumGoroutine") = false := by kernel_rfl

def c118 : ACode :=
 .seq (.reg [⟨some 4, .mov (.c (.slice [] .nil)), none⟩])
 (.seq (.seq (.reg [⟨some 5, .mov (.t 1), none⟩,
   ⟨some 6, .bin .lss false (.t 5) (.c (.int .i64 0)), none⟩])
 (.cond (.t 6)
  (.reg [⟨some 7, .mkiface 9 (.c (.str ⟨#[99, 97, 110, 110, 111, 116, 32, 98, 101, 32, 110, 101, 103, 97, 116, 105, 118, 101]⟩)), none⟩,
    ⟨none, .panic (.t 7), none⟩])
  (.skip)))
 (.seq (.seq (.reg [⟨some 8, .mov (.t 1), none⟩,
   ⟨some 9, .mov (.t 0), none⟩,
   ⟨some 10, .cap (.t 9), none⟩,
   ⟨some 11, .mov (.t 0), none⟩,
   ⟨some 12, .len (.t 11), none⟩,
   ⟨some 13, .bin .sub false (.t 10) (.t 12), none⟩,
   ⟨some 14, .bin .sub false (.t 8) (.t 13), none⟩,
   ⟨some 1, .mov (.t 14), none⟩])
 (.seq (.reg [⟨some 15, .mov (.t 1), none⟩,
   ⟨some 16, .bin .gtr false (.t 15) (.c (.int .i64 0)), none⟩])
 (.cond (.t 16)
  (.reg [⟨some 17, .mov (.t 0), none⟩,
    ⟨some 18, .mov (.t 0), none⟩,
    ⟨some 19, .cap (.t 18), none⟩,
    ⟨some 20, .slcN 2 (.t 17) none (some (.t 19)) none, none⟩,
    ⟨some 21, .mov (.t 1), none⟩,
    ⟨some 22, .appz 2 16 (.t 20) (.t 21), none⟩,
    ⟨some 23, .mov (.t 0), none⟩,
    ⟨some 24, .len (.t 23), none⟩,
    ⟨some 25, .slcR 2 (.t 22) none (some (.t 24)) none, none⟩,
    ⟨some 0, .mov (.t 25), none⟩])
  (.skip))))
 (.seq (.reg [⟨some 26, .mov (.t 0), none⟩,
   ⟨some 4, .mov (.t 26), none⟩])
 (.ret))))
def r118 : List ARV := [.tmp 4]
theorem b118 : Try.f118.body.bind (tr Try.prog 27) = some c118.bare := by kernel_rfl
theorem q118 : trRes Try.prog Try.f118.results.toList = some r118 := by kernel_rfl
theorem n118 : (Try.f118.name == "runtime.NumGoroutine") = false := by kernel_rfl

def c119 : ACode :=
 .seq (.reg [⟨some 2, .boxI (.t 0), none⟩,
   ⟨some 4, .mov (.c (.bool false)), none⟩])
 (.seq (.reg [⟨some 7, .fldA 1 (.t 2), none⟩,
   ⟨some 8, .load false 1 (.t 7), none⟩,
   ⟨some 9, .mov (.t 1), none⟩,
   ⟨some 10, .idxS 3 (.t 8) (.t 9), none⟩,
   ⟨some 11, .load true 3 (.t 10), none⟩,
   ⟨some 5, .alloc [(.int .i64 0), (.int .i64 0), (.int .i64 0)], none⟩,
   ⟨none, .store 3 (.t 5) (.t 11), none⟩])
 (.seq (.seq (.reg [⟨some 12, .fldA 0 (.t 5), none⟩,
   ⟨some 13, .load false 1 (.t 12), none⟩,
   ⟨some 14, .bin .lss false (.t 13) (.c (.int .i64 0)), none⟩,
   ⟨some 15, .mov (.t 14), none⟩,
   ⟨some 16, .fldA 0 (.t 5), some (15, false)⟩,
   ⟨some 17, .load false 1 (.t 16), some (15, false)⟩,
   ⟨some 18, .fldA 0 (.t 2), some (15, false)⟩,
   ⟨some 19, .load false 1 (.t 18), some (15, false)⟩,
   ⟨some 20, .bin .geq false (.t 17) (.t 19), some (15, false)⟩,
   ⟨some 21, .pick (.t 15) (.c (.bool true)) (.t 20), none⟩,
   ⟨some 22, .mov (.t 21), none⟩,
   ⟨some 23, .fldA 1 (.t 5), some (22, false)⟩,
   ⟨some 24, .load false 1 (.t 23), some (22, false)⟩,
   ⟨some 25, .fldA 2 (.t 5), some (22, false)⟩,
   ⟨some 26, .load false 1 (.t 25), some (22, false)⟩,
   ⟨some 27, .bin .eql false (.t 24) (.t 26), some (22, false)⟩,
   ⟨some 28, .pick (.t 22) (.c (.bool true)) (.t 27), none⟩,
   ⟨some 29, .mov (.t 28), none⟩,
   ⟨some 30, .load true 2 (.t 2), some (29, false)⟩,
   ⟨some 31, .fldA 1 (.t 5), some (29, false)⟩,
   ⟨some 32, .load false 1 (.t 31), some (29, false)⟩,
   ⟨some 33, .fldA 0 (.t 5), some (29, false)⟩,
   ⟨some 34, .load false 1 (.t 33), some (29, false)⟩,
   ⟨some 35, .mov (.t 1), some (29, false)⟩,
   ⟨some 36, .call (.c (.fn 124 [] [])) [(.t 30), (.t 32), (.t 34), (.t 35)], some (29, false)⟩,
   ⟨some 37, .un .not (.t 36), some (29, false)⟩,
   ⟨some 38, .pick (.t 29) (.c (.bool true)) (.t 37), none⟩,
   ⟨some 39, .mov (.t 38), none⟩,
   ⟨some 40, .load true 2 (.t 2), some (39, false)⟩,
   ⟨some 41, .fldA 2 (.t 5), some (39, false)⟩,
   ⟨some 42, .load false 1 (.t 41), some (39, false)⟩,
   ⟨some 43, .fldA 0 (.t 5), some (39, false)⟩,
   ⟨some 44, .load false 1 (.t 43), some (39, false)⟩,
   ⟨some 45, .mov (.t 1), some (39, false)⟩,
   ⟨some 46, .call (.c (.fn 124 [] [])) [(.t 40), (.t 42), (.t 44), (.t 45)], some (39, false)⟩,
   ⟨some 47, .un .not (.t 46), some (39, false)⟩,
   ⟨some 48, .pick (.t 39) (.c (.bool true)) (.t 47), none⟩])
 (.cond (.t 48)
  (.seq (.reg [⟨some 4, .mov (.c (.bool false)), none⟩])
  (.ret))
  (.skip)))
 (.seq (.seq (.reg [⟨some 6, .mov (.c (.int .i64 2)), none⟩])
 (.block 0 (.loop (.seq (.seq (.reg [⟨some 49, .mov (.t 6), none⟩,
    ⟨some 50, .mov (.t 1), none⟩,
    ⟨some 51, .bin .lss false (.t 49) (.t 50), none⟩])
  (.cond (.t 51)
   (.skip)
   (.exit 0)))
  (.seq (.block 1 (.seq (.drw [⟨some 54, .fldA 1 (.t 2), none⟩,
    ⟨some 55, .load false 1 (.t 54), none⟩,
    ⟨some 56, .mov (.t 6), none⟩,
    ⟨some 57, .idxS 3 (.t 55) (.t 56), none⟩,
    ⟨some 58, .load true 3 (.t 57), none⟩,
    ⟨some 59, .load true 3 (.t 5), none⟩,
    ⟨some 60, .eqs false [0, 0, 0] (.t 58) (.t 59), none⟩] [])
  (.cond (.t 60)
   (.seq (.reg [⟨some 4, .mov (.c (.bool false)), none⟩])
   (.ret))
   (.skip))))
  (.reg [⟨some 52, .mov (.t 6), none⟩,
    ⟨some 53, .bin .add false (.t 52) (.c (.int .i64 1)), none⟩,
    ⟨some 6, .mov (.t 53), none⟩]))))))
 (.seq (.reg [⟨some 4, .mov (.c (.bool true)), none⟩])
 (.ret)))))
def r119 : List ARV := [.tmp 4]
theorem b119 : Try.f119.body.bind (tr Try.prog 61) = some c119.bare := by kernel_rfl
theorem q119 : trRes Try.prog Try.f119.results.toList = some r119 := by kernel_rfl
theorem n119 : (Try.f119.name == "runtime.NumGoroutine") = false := by kernel_rfl

def c122 : ACode :=
 .seq (.reg [⟨some 2, .mov (.c (.slice [] .nil)), none⟩])
 (.seq (.reg [⟨some 3, .mov (.c (.int .i64 0)), none⟩])
 (.seq (.seq (.reg [⟨some 9, .mov (.t 0), none⟩,
   ⟨some 10, .len (.t 9), none⟩,
   ⟨some 11, .mov (.c (.int .i64 0)), none⟩])
 (.block 0 (.loop (.seq (.reg [⟨some 12, .bin .lss false (.t 11) (.t 10), none⟩])
  (.seq (.cond (.t 12)
   (.skip)
   (.exit 0))
  (.seq (.block 1 (.seq (.reg [⟨some 13, .idxS 1 (.t 9) (.t 11), none⟩,
    ⟨some 14, .load false 1 (.t 13), none⟩,
    ⟨some 5, .mov (.t 14), none⟩])
  (.seq (.reg [⟨some 15, .mov (.t 3), none⟩,
    ⟨some 16, .mov (.t 5), none⟩,
    ⟨some 17, .len (.t 16), none⟩,
    ⟨some 18, .bin .add false (.t 15) (.t 17), none⟩,
    ⟨some 3, .mov (.t 18), none⟩])
  (.seq (.reg [⟨some 19, .mov (.t 3), none⟩,
    ⟨some 20, .bin .lss false (.t 19) (.c (.int .i64 0)), none⟩])
  (.cond (.t 20)
   (.reg [⟨some 21, .mkiface 9 (.c (.str ⟨#[108, 101, 110, 32, 111, 117, 116, 32, 111, 102, 32, 114, 97, 110, 103, 101]⟩)), none⟩,
     ⟨none, .panic (.t 21), none⟩])
   (.skip))))))
  (.reg [⟨some 22, .bin .add false (.t 11) (.c (.int .i64 1)), none⟩,
    ⟨some 11, .mov (.t 22), none⟩])))))))
 (.seq (.reg [⟨some 23, .mov (.t 3), none⟩,
   ⟨some 24, .call (.c (.fn 127 [] [])) [(.c (.slice [] .nil)), (.t 23)], none⟩,
   ⟨some 6, .mov (.t 24), none⟩])
 (.seq (.seq (.reg [⟨some 25, .mov (.t 0), none⟩,
   ⟨some 26, .len (.t 25), none⟩,
   ⟨some 27, .mov (.c (.int .i64 0)), none⟩])
 (.block 2 (.loop (.seq (.reg [⟨some 28, .bin .lss false (.t 27) (.t 26), none⟩])
  (.seq (.cond (.t 28)
   (.skip)
   (.exit 2))
  (.seq (.block 3 (.seq (.reg [⟨some 29, .idxS 1 (.t 25) (.t 27), none⟩,
    ⟨some 30, .load false 1 (.t 29), none⟩,
    ⟨some 8, .mov (.t 30), none⟩])
  (.reg [⟨some 31, .mov (.t 6), none⟩,
    ⟨some 32, .mov (.t 8), none⟩,
    ⟨some 33, .append 1 1 (.t 31) (.t 32), none⟩,
    ⟨some 6, .mov (.t 33), none⟩])))
  (.reg [⟨some 34, .bin .add false (.t 27) (.c (.int .i64 1)), none⟩,
    ⟨some 27, .mov (.t 34), none⟩])))))))
 (.seq (.reg [⟨some 35, .mov (.t 6), none⟩,
   ⟨some 2, .mov (.t 35), none⟩])
 (.ret))))))
def r122 : List ARV := [.tmp 2]
theorem b122 : Try.f122.body.bind (tr Try.prog 36) = some c122.bare := by kernel_rfl
theorem q122 : trRes Try.prog Try.f122.results.toList = some r122 := by kernel_rfl
theorem n122 : (Try.f122.name == "runtime.NumGoroutine") = false := by kernel_rfl

def c123 : ACode :=
 .seq (.reg [⟨some 4, .mov (.c (.int .i64 0)), none⟩])
 (.seq (.seq (.reg [⟨some 6, .mov (.t 0), none⟩,
   ⟨some 7, .len (.t 6), none⟩,
   ⟨some 8, .mov (.c (.int .i64 0)), none⟩])
 (.block 0 (.loop (.seq (.reg [⟨some 9, .bin .lss false (.t 8) (.t 7), none⟩])
  (.seq (.cond (.t 9)
   (.skip)
   (.exit 0))
  (.seq (.block 1 (.seq (.reg [⟨some 10, .mov (.t 8), none⟩,
    ⟨some 5, .mov (.t 10), none⟩])
  (.seq (.reg [⟨some 11, .mov (.t 1), none⟩,
    ⟨some 12, .mov (.t 0), none⟩,
    ⟨some 13, .mov (.t 5), none⟩,
    ⟨some 14, .idxS 2 (.t 12) (.t 13), none⟩,
    ⟨some 15, .load true 2 (.t 14), none⟩,
    ⟨some 16, .call (.t 11) [(.t 15)], none⟩])
  (.cond (.t 16)
   (.seq (.reg [⟨some 17, .mov (.t 5), none⟩,
     ⟨some 4, .mov (.t 17), none⟩])
   (.ret))
   (.skip)))))
  (.reg [⟨some 18, .bin .add false (.t 8) (.c (.int .i64 1)), none⟩,
    ⟨some 8, .mov (.t 18), none⟩])))))))
 (.seq (.reg [⟨some 4, .mov (.c (.int .i64 (-1))), none⟩])
 (.ret)))
def r123 : List ARV := [.tmp 4]
theorem b123 : Try.f123.body.bind (tr Try.prog 19) = some c123.bare := by kernel_rfl
theorem q123 : trRes Try.prog Try.f123.results.toList = some r123 := by kernel_rfl
theorem n123 : (Try.f123.name == "runtime.NumGoroutine") = false := by kernel_rfl

def c124 : ACode :=
 .seq (.reg [⟨some 4, .boxI (.t 0), none⟩,
   ⟨some 8, .mov (.c (.bool false)), none⟩])
 (.seq (.reg [⟨some 9, .mov (.t 1), none⟩,
   ⟨some 10, .bin .geq false (.t 9) (.c (.int .i64 0)), none⟩,
   ⟨some 11, .mov (.t 10), none⟩,
   ⟨some 12, .mov (.t 1), some (11, true)⟩,
   ⟨some 13, .mov (.t 3), some (11, true)⟩,
   ⟨some 14, .bin .lss false (.t 12) (.t 13), some (11, true)⟩,
   ⟨some 15, .pick (.t 11) (.t 14) (.c (.bool false)), none⟩,
   ⟨some 16, .mov (.t 15), none⟩,
   ⟨some 17, .mov (.t 1), some (16, true)⟩,
   ⟨some 18, .bin .lss false (.t 17) (.c (.int .i64 2)), some (16, true)⟩,
   ⟨some 19, .mov (.t 18), some (16, true)⟩,
   ⟨some 20, .fldA 1 (.t 4), some (19, false)⟩,
   ⟨some 21, .load false 1 (.t 20), some (19, false)⟩,
   ⟨some 22, .mov (.t 1), some (19, false)⟩,
   ⟨some 23, .idxS 3 (.t 21) (.t 22), some (19, false)⟩,
   ⟨some 24, .fldA 0 (.t 23), some (19, false)⟩,
   ⟨some 25, .load false 1 (.t 24), some (19, false)⟩,
   ⟨some 26, .mov (.t 2), some (19, false)⟩,
   ⟨some 27, .bin .gtr false (.t 25) (.t 26), some (19, false)⟩,
   ⟨some 28, .pick (.t 19) (.c (.bool true)) (.t 27), some (16, true)⟩,
   ⟨some 29, .pick (.t 16) (.t 28) (.c (.bool false)), none⟩,
   ⟨some 8, .mov (.t 29), none⟩])
 (.ret))
def r124 : List ARV := [.tmp 8]
theorem b124 : Try.f124.body.bind (tr Try.prog 30) = some c124.bare := by kernel_rfl
theorem q124 : trRes Try.prog Try.f124.results.toList = some r124 := by kernel_rfl
theorem n124 : (Try.f124.name == "runtime.NumGoroutine") = false := by kernel_rfl

def c127 : ACode :=
 .seq (.reg [⟨some 4, .mov (.c (.slice [] .nil)), none⟩])
 (.seq (.seq (.reg [⟨some 5, .mov (.t 1), none⟩,
   ⟨some 6, .bin .lss false (.t 5) (.c (.int .i64 0)), none⟩])
 (.cond (.t 6)
  (.reg [⟨some 7, .mkiface 9 (.c (.str ⟨#[99, 97, 110, 110, 111, 116, 32, 98, 101, 32, 110, 101, 103, 97, 116, 105, 118, 101]⟩)), none⟩,
    ⟨none, .panic (.t 7), none⟩])
  (.skip)))
 (.seq (.seq (.reg [⟨some 8, .mov (.t 1), none⟩,
   ⟨some 9, .mov (.t 0), none⟩,
   ⟨some 10, .cap (.t 9), none⟩,
   ⟨some 11, .mov (.t 0), none⟩,
   ⟨some 12, .len (.t 11), none⟩,
   ⟨some 13, .bin .sub false (.t 10) (.t 12), none⟩,
   ⟨some 14, .bin .sub false (.t 8) (.t 13), none⟩,
   ⟨some 1, .mov (.t 14), none⟩])
 (.seq (.reg [⟨some 15, .mov (.t 1), none⟩,
   ⟨some 16, .bin .gtr false (.t 15) (.c (.int .i64 0)), none⟩])
 (.cond (.t 16)
  (.reg [⟨some 17, .mov (.t 0), none⟩,
    ⟨some 18, .mov (.t 0), none⟩,
    ⟨some 19, .cap (.t 18), none⟩,
    ⟨some 20, .slcN 1 (.t 17) none (some (.t 19)) none, none⟩,
    ⟨some 21, .mov (.t 1), none⟩,
    ⟨some 22, .appz 1 1 (.t 20) (.t 21), none⟩,
    ⟨some 23, .mov (.t 0), none⟩,
    ⟨some 24, .len (.t 23), none⟩,
    ⟨some 25, .slcR 1 (.t 22) none (some (.t 24)) none, none⟩,
    ⟨some 0, .mov (.t 25), none⟩])
  (.skip))))
 (.seq (.reg [⟨some 26, .mov (.t 0), none⟩,
   ⟨some 4, .mov (.t 26), none⟩])
 (.ret))))
def r127 : List ARV := [.tmp 4]
theorem b127 : Try.f127.body.bind (tr Try.prog 27) = some c127.bare := by kernel_rfl
theorem q127 : trRes Try.prog Try.f127.results.toList = some r127 := by kernel_rfl
theorem n127 : (Try.f127.name == "runtime.NumGoroutine") = false := by kernel_rfl

end Go.Proofs.Ytjichkelfhcbcaa

