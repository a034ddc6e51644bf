/- The bodies of the program's functions, as the abstraction layer has them. By program. -/
import Derived.Test.YtjichkelfhcbcaaEqvC
set_option linter.unusedSimpArgs false
set_option linter.unusedVariables false
namespace Go.Proofs.Ytjichkelfhcbcaa
open Abs
def c60 : ACode :=
 .seq (.reg [Yi 4 (.mov (.c (.bool false)))])
 (.seq (.seq (.reg [Yi 6 (.mov (.t 0)), Yi 7 (.len (.t 6)), Yi 8 (.mov (.t 1)), Yi 9 (.len (.t 8)), Yi 10 (.bin .neq false (.t 7) (.t 9))])
 (.cond (.t 10)
 (.seq (.reg [Yi 4 (.mov (.c (.bool false)))])
 (.ret))
 (.skip)))
 (.seq (.seq (.reg [Yi 11 (.mov (.t 0)), Yi 12 (.len (.t 11)), Yi 13 (.mov (.c (.int .i64 0)))])
 (.block 0 (.loop (.seq (.reg [Yi 14 (.bin .lss false (.t 13) (.t 12))])
 (.seq (.cond (.t 14)
 (.skip)
 (.exit 0))
 (.seq (.block 1 (.seq (.reg [Yi 15 (.mov (.t 13)), Yi 5 (.mov (.t 15))])
 (.seq (.drw [Yi 16 (.mov (.t 0)), Yi 17 (.mov (.t 5)), Yi 18 (.idxS 1 (.t 16) (.t 17)), Yi 19 (.load false 1 (.t 18)), Yi 20 (.mov (.t 1)), Yi 21 (.mov (.t 5)), Yi 22 (.idxS 1 (.t 20) (.t 21)), Yi 23 (.load false 1 (.t 22)), Yi 24 (.bin .neq true (.t 19) (.t 23))] [])
 (.cond (.t 24)
 (.seq (.reg [Yi 4 (.mov (.c (.bool false)))])
 (.ret))
 (.skip)))))
 (.reg [Yi 25 (.bin .add false (.t 13) (.c (.int .i64 1))), Yi 13 (.mov (.t 25))])))))))
 (.seq (.reg [Yi 4 (.mov (.c (.bool true)))])
 (.ret))))
def r60 : List ARV := [.tmp 4]
theorem b60 : Try.f60.body.bind (tr Try.prog 26) = some c60.bare := by kernel_rfl
theorem q60 : trRes Try.prog Try.f60.results.toList = some r60 := by kernel_rfl
theorem n60 : (Try.f60.name == "runtime.NumGoroutine") = false := by kernel_rfl

def c61 : ACode :=
 .seq (.reg [Yi 2 (.boxI (.t 0)), Yi 4 (.mov (.c (.slice [] .nil))), Yi 5 (.mov (.c (.bool false))), Yi 6 (.mov (.c (.int .i64 0)))])
 (.seq (.reg [Yi 12 (.load true 2 (.t 2)), Yi 13 (.mov (.t 1)), Yi 14 (.bslice 1 [(.t 13)]), Yi 15 (.call (.c (.fn 65 [] [])) [(.t 12), (.t 14)]), Yi 11 (.mov (.t 15)), Yi 16 (.extract (.t 11) 0), Yi 17 (.extract (.t 11) 1), Yi 7 (.mov (.t 16)), Yi 8 (.mov (.t 17))])
 (.seq (.seq (.reg [Yi 18 (.mov (.t 8)), Yi 19 (.bin .neq false (.t 18) (.c (.int .i64 0))), Yi 20 (.mov (.t 19)), Yj 21 20 false (.mov (.t 1)), Yj 22 20 false (.bin .eql false (.t 21) (.c (.int .i64 0))), Yi 23 (.pick (.t 20) (.c (.bool true)) (.t 22))])
 (.cond (.t 23)
 (.seq (.reg [Yi 24 (.mov (.t 8)), Yi 4 (.mov (.c (.slice [] .nil))), Yi 5 (.mov (.c (.bool false))), Yi 6 (.mov (.t 24))])
 (.ret))
 (.skip)))
 (.seq (.reg [Yi 25 (.fldA 0 (.t 2)), Yi 26 (.load false 1 (.t 25)), Yi 27 (.ext (.vmake 1 1 [(.bool false)] false (.t 26) (.t 26))), Yi 9 (.mov (.t 27))])
 (.seq (.block 0 (.loop (.seq (.seq (.reg [Yi 28 (.mov (.t 1)), Yi 29 (.bin .gtr false (.t 28) (.c (.int .i64 1)))])
 (.cond (.t 29)
 (.skip)
 (.exit 0)))
 (.block 1 (.seq (.reg [Yi 30 (.mov (.t 7)), Yi 31 (.nilchk (.t 30)), Yi 32 (.fldA 0 (.t 31)), Yi 33 (.fldA 1 (.t 32)), Yi 34 (.load false 1 (.t 33)), Yi 35 (.mov (.t 1)), Yi 36 (.idxS 3 (.t 34) (.t 35)), Yi 37 (.load true 3 (.t 36)), Yi 10 (.alloc [(.int .i64 0), (.int .i64 0), (.int .i64 0)]), ⟨none, .store 3 (.t 10) (.t 37), none⟩])
 (.seq (.reg [Yi 38 (.fldA 1 (.t 10)), Yi 39 (.load false 1 (.t 38)), Yi 1 (.mov (.t 39))])
 (.seq (.reg [Yi 40 (.mov (.t 1)), Yi 41 (.bin .eql false (.t 40) (.c (.int .i64 0)))])
 (.cond (.t 41)
 (.drw [Yi 42 (.mov (.t 9)), Yi 43 (.fldA 0 (.t 10)), Yi 44 (.load false 1 (.t 43)), Yi 45 (.fldA 2 (.t 10)), Yi 46 (.load false 1 (.t 45)), Yi 47 (.idxS 1 (.t 42) (.t 44)), ⟨none, .store 1 (.t 47) (.c (.bool true)), none⟩, Yi 1 (.mov (.t 46))] [(4, 6)])
 (.skip)))))))))
 (.seq (.reg [Yi 48 (.ext (.vfrz false (.t 9))), Yi 4 (.mov (.t 48)), Yi 5 (.mov (.c (.bool true))), Yi 6 (.mov (.c (.int .i64 0)))])
 (.ret))))))
def r61 : List ARV := [.tmp 4, .tmp 5, .tmp 6]
theorem b61 : Try.f61.body.bind (tr Try.prog 49) = some c61.bare := by kernel_rfl
theorem q61 : trRes Try.prog Try.f61.results.toList = some r61 := by kernel_rfl
theorem n61 : (Try.f61.name == "runtime.NumGoroutine") = false := by kernel_rfl

def c62 : ACode :=
 .seq (.reg [Yi 3 (.boxI (.t 0)), Yi 6 (.mov (.c (.slice [] .nil))), Yi 7 (.mov (.c (.int .i64 0)))])
 (.seq (.reg [Yi 11 (.load true 4 (.t 3)), Yi 12 (.call (.c (.fn 29 [] [])) [(.t 11)]), Yi 8 (.mov (.t 12))])
 (.seq (.seq (.reg [Yi 13 (.mov (.t 8)), Yi 14 (.bin .neq false (.t 13) (.c (.int .i64 0)))])
 (.cond (.t 14)
 (.seq (.reg [Yi 15 (.mov (.t 8)), Yi 6 (.mov (.c (.slice [] .nil))), Yi 7 (.mov (.t 15))])
 (.ret))
 (.skip)))
 (.seq (.seq (.reg [Yi 16 (.mov (.t 1)), Yi 17 (.len (.t 16)), Yi 18 (.fldA 0 (.t 3)), Yi 19 (.load false 1 (.t 18)), Yi 20 (.bin .neq false (.t 17) (.t 19)), Yi 21 (.mov (.t 20)), Yj 22 21 false (.mov (.t 2)), Yj 23 21 false (.len (.t 22)), Yj 24 21 false (.fldA 1 (.t 3)), Yj 25 21 false (.load false 1 (.t 24)),
 Yj 26 21 false (.len (.t 25)), Yj 27 21 false (.bin .neq false (.t 23) (.t 26)), Yi 28 (.pick (.t 21) (.c (.bool true)) (.t 27))])
 (.cond (.t 28)
 (.seq (.reg [Yi 6 (.mov (.c (.slice [] .nil))), Yi 7 (.mov (.c (.int .i64 1)))])
 (.ret))
 (.skip)))
 (.seq (.reg [Yi 29 (.bslice 1 [(.c (.bool false))]), Yi 9 (.mov (.t 29))])
 (.seq (.reg [Yi 30 (.mov (.t 9)), Yi 31 (.mov (.t 1)), Yi 32 (.append 1 1 (.t 30) (.t 31)), Yi 9 (.mov (.t 32))])
 (.seq (.reg [Yi 33 (.mov (.t 9)), Yi 34 (.mov (.t 2)), Yi 35 (.append 1 1 (.t 33) (.t 34)), Yi 9 (.mov (.t 35))])
 (.seq (.seq (.reg [Yi 10 (.mov (.c (.int .i64 0)))])
 (.block 0 (.loop (.seq (.seq (.reg [Yi 36 (.mov (.t 10)), Yi 37 (.fldA 2 (.t 3)), Yi 38 (.load false 1 (.t 37)), Yi 39 (.len (.t 38)), Yi 40 (.bin .lss false (.t 36) (.t 39))])
 (.cond (.t 40)
 (.skip)
 (.exit 0)))
 (.seq (.block 1 (.reg [Yi 43 (.mov (.t 9)), Yi 44 (.mov (.t 9)), Yi 45 (.fldA 2 (.t 3)), Yi 46 (.load false 1 (.t 45)), Yi 47 (.mov (.t 10)), Yi 48 (.idxS 2 (.t 46) (.t 47)), Yi 49 (.idxR 1 2 (.t 48) (.c (.int .i64 0))), Yi 50 (.load false 1 (.t 49)), Yi 51 (.call (.c (.fn 63 [] [])) [(.t 44), (.t 50)]),
 Yi 52 (.mov (.t 51)), Yj 53 52 true (.mov (.t 9)), Yj 54 52 true (.fldA 2 (.t 3)), Yj 55 52 true (.load false 1 (.t 54)), Yj 56 52 true (.mov (.t 10)), Yj 57 52 true (.idxS 2 (.t 55) (.t 56)), Yj 58 52 true (.idxR 1 2 (.t 57) (.c (.int .i64 1))), Yj 59 52 true (.load false 1 (.t 58)), Yj 60 52 true (.call (.c (.fn 63 [] [])) [(.t 53), (.t 59)]),
 Yi 61 (.pick (.t 52) (.t 60) (.c (.bool false))), Yi 62 (.bslice 1 [(.t 61)]), Yi 63 (.append 1 1 (.t 43) (.t 62)), Yi 9 (.mov (.t 63))]))
 (.reg [Yi 41 (.mov (.t 10)), Yi 42 (.bin .add false (.t 41) (.c (.int .i64 1))), Yi 10 (.mov (.t 42))]))))))
 (.seq (.reg [Yi 64 (.mov (.t 9)), Yi 6 (.mov (.t 64)), Yi 7 (.mov (.c (.int .i64 0)))])
 (.ret)))))))))
def r62 : List ARV := [.tmp 6, .tmp 7]
theorem b62 : Try.f62.body.bind (tr Try.prog 65) = some c62.bare := by kernel_rfl
theorem q62 : trRes Try.prog Try.f62.results.toList = some r62 := by kernel_rfl
theorem n62 : (Try.f62.name == "runtime.NumGoroutine") = false := by kernel_rfl

def c63 : ACode :=
 .seq (.reg [Yi 4 (.mov (.c (.bool false)))])
 (.seq (.reg [Yi 5 (.mov (.t 0)), Yi 6 (.mov (.t 1)), Yi 7 (.bin .quo false (.t 6) (.c (.int .i64 2))), Yi 8 (.idxS 1 (.t 5) (.t 7)), Yi 9 (.load false 1 (.t 8)), Yi 10 (.mov (.t 1)), Yi 11 (.bin .rem false (.t 10) (.c (.int .i64 2))), Yi 12 (.bin .eql false (.t 11) (.c (.int .i64 1))), Yi 13 (.bin .neq true (.t 9) (.t 12)),
 Yi 4 (.mov (.t 13))])
 (.ret))
def r63 : List ARV := [.tmp 4]
theorem b63 : Try.f63.body.bind (tr Try.prog 14) = some c63.bare := by kernel_rfl
theorem q63 : trRes Try.prog Try.f63.results.toList = some r63 := by kernel_rfl
theorem n63 : (Try.f63.name == "runtime.NumGoroutine") = false := by kernel_rfl

def c64 : ACode :=
 .seq (.reg [Yi 4 (.mov (.c (.bool false)))])
 (.seq (.reg [Yi 5 (.mov (.t 1)), Yi 6 (.bin .geq false (.t 5) (.c (.int .i64 0))), Yi 7 (.mov (.t 6)), Yj 8 7 true (.mov (.t 1)), Yj 9 7 true (.mov (.t 0)), Yj 10 7 true (.bin .mul false (.c (.int .i64 2)) (.t 9)), Yj 11 7 true (.bin .lss false (.t 8) (.t 10)), Yi 12 (.pick (.t 7) (.t 11) (.c (.bool false))),
 Yi 4 (.mov (.t 12))])
 (.ret))
def r64 : List ARV := [.tmp 4]
theorem b64 : Try.f64.body.bind (tr Try.prog 13) = some c64.bare := by kernel_rfl
theorem q64 : trRes Try.prog Try.f64.results.toList = some r64 := by kernel_rfl
theorem n64 : (Try.f64.name == "runtime.NumGoroutine") = false := by kernel_rfl

def c65 : ACode :=
 .seq (.reg [Yi 2 (.box (.t 0)), Yi 4 (.mov (.c .nilp)), Yi 5 (.mov (.c (.int .i64 0)))])
 (.seq (.reg [Yi 9 (.load true 2 (.t 2)), Yi 10 (.call (.c (.fn 89 [] [])) [(.t 9)]), Yi 8 (.mov (.t 10)), Yi 11 (.extract (.t 8) 0), Yi 12 (.extract (.t 8) 1), Yi 6 (.mov (.t 11)), Yi 7 (.mov (.t 12))])
 (.seq (.seq (.reg [Yi 13 (.mov (.t 7)), Yi 14 (.bin .neq false (.t 13) (.c (.int .i64 0)))])
 (.cond (.t 14)
 (.seq (.reg [Yi 15 (.mov (.t 7)), Yi 4 (.mov (.c .nilp)), Yi 5 (.mov (.t 15))])
 (.ret))
 (.skip)))
 (.seq (.seq (.reg [Yi 16 (.mov (.t 1)), Yi 17 (.mkfn 91 [] [(.t 2)]), Yi 18 (.call (.c (.fn 90 [] [])) [(.t 16), (.t 17)])])
 (.cond (.t 18)
 (.seq (.reg [Yi 4 (.mov (.c .nilp)), Yi 5 (.mov (.c (.int .i64 1)))])
 (.ret))
 (.skip)))
 (.seq (.reg [Yi 19 (.mov (.t 6)), Yi 4 (.mov (.t 19)), Yi 5 (.mov (.c (.int .i64 0)))])
 (.ret)))))
def r65 : List ARV := [.tmp 4, .tmp 5]
theorem b65 : Try.f65.body.bind (tr Try.prog 20) = some c65.bare := by kernel_rfl
theorem q65 : trRes Try.prog Try.f65.results.toList = some r65 := by kernel_rfl
theorem n65 : (Try.f65.name == "runtime.NumGoroutine") = false := by kernel_rfl

def c66 : ACode :=
 .seq (.reg [Yi 2 (.boxI (.t 0)), Yi 4 (.mov (.c .nilp))])
 (.seq (.reg [Yi 8 (.load true 4 (.t 2)), Yi 9 (.build [(.int .i64 0), (.slice [] .nil), (.slice [] .nil), (.slice [] .nil), (.int .i64 0)] [(0, 4, (.t 8))]), Yi 10 (.box (.t 9)), Yi 5 (.mov (.t 10))])
 (.seq (.reg [Yi 11 (.mov (.t 5)), Yi 12 (.mov (.t 5)), Yi 13 (.call (.c (.fn 92 [] [])) [(.t 12)]), Yi 14 (.nilchk (.t 11)), Yi 15 (.fldA 4 (.t 14)), ⟨none, .store 1 (.t 15) (.t 13), none⟩])
 (.seq (.seq (.reg [Yi 16 (.mov (.t 1)), Yi 17 (.len (.t 16)), Yi 18 (.mov (.c (.int .i64 0)))])
 (.block 0 (.loop (.seq (.reg [Yi 19 (.bin .lss false (.t 18) (.t 17))])
 (.seq (.cond (.t 19)
 (.skip)
 (.exit 0))
 (.seq (.block 1 (.seq (.reg [Yi 20 (.idxS 1 (.t 16) (.t 18)), Yi 21 (.load false 1 (.t 20)), Yi 7 (.mov (.t 21))])
 (.seq (.reg [Yi 22 (.mov (.t 5)), Yi 23 (.nilchk (.t 22)), Yi 24 (.fldA 4 (.t 23)), Yi 25 (.load false 1 (.t 24)), Yi 26 (.bin .eql false (.t 25) (.c (.int .i64 0))), Yi 27 (.mov (.t 26)), Yj 28 27 true (.mov (.t 5)), Yj 29 27 true (.mov (.t 7)), Yj 30 27 true (.call (.c (.fn 93 [] [])) [(.t 28), (.t 29)]),
 Yj 31 27 true (.un .not (.t 30)), Yi 32 (.pick (.t 27) (.t 31) (.c (.bool false)))])
 (.cond (.t 32)
 (.reg [Yi 33 (.mov (.t 5)), Yi 34 (.nilchk (.t 33)), Yi 35 (.fldA 4 (.t 34)), ⟨none, .store 1 (.t 35) (.c (.int .i64 1)), none⟩])
 (.skip)))))
 (.reg [Yi 36 (.bin .add false (.t 18) (.c (.int .i64 1))), Yi 18 (.mov (.t 36))])))))))
 (.seq (.reg [Yi 37 (.mov (.t 5)), Yi 4 (.mov (.t 37))])
 (.ret)))))
def r66 : List ARV := [.tmp 4]
theorem b66 : Try.f66.body.bind (tr Try.prog 38) = some c66.bare := by kernel_rfl
theorem q66 : trRes Try.prog Try.f66.results.toList = some r66 := by kernel_rfl
theorem n66 : (Try.f66.name == "runtime.NumGoroutine") = false := by kernel_rfl

def ca67 : ACode :=
 .reg [Yi 6 (.alloc [(.int .i64 0), (.slice [] .nil)]), Yi 7 (.alloc [(.int .i64 0)]), Yi 8 (.alloc [(.int .i64 0)])]
def cb67 : ACode :=
 .seq (.reg [Yi 9 (.mov (.t 1)), Yi 10 (.bin .neq false (.t 9) (.c (.int .i64 0)))])
 (.cond (.t 10)
 (.seq (.reg [Yi 11 (.build [(.int .i64 0), (.slice [] .nil)] []), Yi 12 (.mov (.t 1)), ⟨none, .store 2 (.t 6) (.t 11), none⟩, ⟨none, .store 1 (.t 7) (.c (.int .i64 0)), none⟩, ⟨none, .store 1 (.t 8) (.t 12), none⟩])
 (.ret))
 (.skip))
def ci67 : AInst := Yi 13 (.mkfn 94 [] [(.t 6), (.t 7), (.t 8)])
def ce67 : ACode :=
 .seq (.reg [Yi 14 (.mov (.t 2)), Yi 15 (.call (.t 14) []), ⟨none, .store 1 (.t 7) (.t 15), none⟩])
 (.seq (.drw [Yi 16 (.mov (.t 0)), Yi 17 (.nilchk (.t 16)), Yi 18 (.fldA 0 (.t 17)), Yi 19 (.load true 2 (.t 18)), Yi 20 (.load false 1 (.t 7)), ⟨none, .store 2 (.t 6) (.t 19), none⟩, ⟨none, .store 1 (.t 7) (.t 20), none⟩, ⟨none, .store 1 (.t 8) (.c (.int .i64 0)), none⟩] [(4, 5)])
 (.ret))
def r67 : List ARV := [.cell 6 true 2, .cell 7 false 1, .cell 8 false 1]
theorem b67 : Try.f67.body.bind (dfrOf Try.prog 21) = some (ca67.bare, cb67.bare, ci67.bare, 13, ce67.bare) := by kernel_rfl
theorem q67 : trRes Try.prog Try.f67.results.toList = some r67 := by kernel_rfl
theorem n67 : (Try.f67.name == "runtime.NumGoroutine") = false := by kernel_rfl

def c68 : ACode :=
 .seq (.reg [Yi 2 (.mov (.c (.int .i64 0)))])
 (.seq (.reg [Yi 3 (.load false 1 (.t 0)), Yi 4 (.load false 1 (.t 1)), Yi 5 (.call (.c (.fn 69 [] [])) [(.t 3), (.t 4), (.c (.int .i64 0)), (.c (.int .i64 1))]), Yi 2 (.mov (.t 5))])
 (.ret))
def r68 : List ARV := [.tmp 2]
theorem b68 : Try.f68.body.bind (tr Try.prog 6) = some c68.bare := by kernel_rfl
theorem q68 : trRes Try.prog Try.f68.results.toList = some r68 := by kernel_rfl
theorem n68 : (Try.f68.name == "runtime.NumGoroutine") = false := by kernel_rfl

def c69 : ACode :=
 .seq (.reg [Yi 8 (.mov (.c (.int .i64 0)))])
 (.seq (.seq (.reg [Yi 12 (.mov (.t 2)), Yi 13 (.mov (.t 3)), Yi 14 (.bin .eql false (.t 12) (.t 13))])
 (.cond (.t 14)
 (.seq (.reg [Yi 15 (.mov (.t 2)), Yi 8 (.mov (.t 15))])
 (.ret))
 (.skip)))
 (.seq (.reg [Yi 16 (.mov (.t 1)), Yi 17 (.mov (.t 2)), Yi 18 (.mov (.t 3)), Yi 19 (.build [(.int .i64 0), (.int .i64 0), (.int .i64 0)] [(0, 1, (.t 16)), (1, 1, (.t 17)), (2, 1, (.t 18))]), Yi 9 (.alloc [(.int .i64 0), (.int .i64 0), (.int .i64 0)]), ⟨none, .store 3 (.t 9) (.t 19), none⟩])
 (.seq (.seq (.drw [Yi 21 (.mov (.t 0)), Yi 22 (.nilchk (.t 21)), Yi 23 (.fldA 2 (.t 22)), Yi 24 (.load false 1 (.t 23)), Yi 25 (.load true 3 (.t 9)), Yi 26 (.ext (.look (.row [0, 0, 0]) (.int .i64 0) true (.t 24) (.t 25))), Yi 20 (.mov (.t 26)), Yi 27 (.extract (.t 20) 0), Yi 28 (.extract (.t 20) 1),
 Yi 10 (.mov (.t 27)), Yi 11 (.mov (.t 28))] [])
 (.seq (.reg [Yi 29 (.mov (.t 11))])
 (.cond (.t 29)
 (.seq (.reg [Yi 30 (.mov (.t 10)), Yi 8 (.mov (.t 30))])
 (.ret))
 (.skip))))
 (.seq (.seq (.reg [Yi 31 (.mov (.t 0)), Yi 32 (.nilchk (.t 31)), Yi 33 (.fldA 0 (.t 32)), Yi 34 (.fldA 1 (.t 33)), Yi 35 (.load false 1 (.t 34)), Yi 36 (.len (.t 35)), Yi 37 (.bin .geq false (.t 36) (.c (.int .i64 65536)))])
 (.cond (.t 37)
 (.reg [Yi 38 (.mkiface 32 (.c (.int .i64 220))), ⟨none, .panic (.t 38), none⟩])
 (.skip)))
 (.seq (.drw [Yi 39 (.mov (.t 0)), Yi 40 (.mov (.t 0)), Yi 41 (.nilchk (.t 40)), Yi 42 (.fldA 0 (.t 41)), Yi 43 (.fldA 1 (.t 42)), Yi 44 (.load false 1 (.t 43)), Yi 45 (.load true 3 (.t 9)), Yi 46 (.bslice 3 [(.t 45)]), Yi 47 (.append 3 24 (.t 44) (.t 46)), Yi 48 (.nilchk (.t 39)), Yi 49 (.fldA 0 (.t 48)),
 Yi 50 (.fldA 1 (.t 49)), ⟨none, .store 1 (.t 50) (.t 47), none⟩] [])
 (.seq (.drw [Yi 51 (.mov (.t 0)), Yi 52 (.nilchk (.t 51)), Yi 53 (.fldA 2 (.t 52)), Yi 54 (.load false 1 (.t 53)), Yi 55 (.load true 3 (.t 9)), Yi 56 (.mov (.t 0)), Yi 57 (.nilchk (.t 56)), Yi 58 (.fldA 0 (.t 57)), Yi 59 (.fldA 1 (.t 58)), Yi 60 (.load false 1 (.t 59)), Yi 61 (.len (.t 60)), Yi 62 (.bin .sub false (.t 61) (.c (.int .i64 1))),
 ⟨none, .ext (.mset (.row [0, 0, 0]) (.t 54) (.t 55) (.t 62)), none⟩] [])
 (.seq (.reg [Yi 63 (.mov (.t 0)), Yi 64 (.nilchk (.t 63)), Yi 65 (.fldA 0 (.t 64)), Yi 66 (.fldA 1 (.t 65)), Yi 67 (.load false 1 (.t 66)), Yi 68 (.len (.t 67)), Yi 69 (.bin .sub false (.t 68) (.c (.int .i64 1))), Yi 8 (.mov (.t 69))])
 (.ret))))))))
def r69 : List ARV := [.tmp 8]
theorem b69 : Try.f69.body.bind (tr Try.prog 70) = some c69.bare := by kernel_rfl
theorem q69 : trRes Try.prog Try.f69.results.toList = some r69 := by kernel_rfl
theorem n69 : (Try.f69.name == "runtime.NumGoroutine") = false := by kernel_rfl

def c70 : ACode :=
 .seq (.reg [Yi 2 (.alloc [(.int .i64 0), (.slice [] .nil)]), Yi 3 (.mov (.c (.int .i64 0))), Yi 4 (.mov (.c (.int .i64 0)))])
 (.seq (.drw [Yi 5 (.load false 1 (.t 0)), Yi 6 (.nilchk (.t 5)), Yi 7 (.fldA 0 (.t 6)), Yi 8 (.load true 2 (.t 7)), Yi 9 (.load false 1 (.t 1)), Yi 10 (.call (.c (.fn 71 [] [])) [(.t 8), (.t 9)]), Yi 11 (.extract (.t 10) 0), Yi 12 (.extract (.t 10) 1), Yi 13 (.extract (.t 10) 2), ⟨none, .store 2 (.t 2) (.t 11), none⟩,
 Yi 3 (.mov (.t 12)), Yi 4 (.mov (.t 13))] [])
 (.ret))
def r70 : List ARV := [.cell 2 true 2, .tmp 3, .tmp 4]
theorem b70 : Try.f70.body.bind (tr Try.prog 14) = some c70.bare := by kernel_rfl
theorem q70 : trRes Try.prog Try.f70.results.toList = some r70 := by kernel_rfl
theorem n70 : (Try.f70.name == "runtime.NumGoroutine") = false := by kernel_rfl

def c71 : ACode :=
 .seq (.reg [Yi 2 (.boxI (.t 0)), Yi 4 (.alloc [(.int .i64 0), (.slice [] .nil)]), Yi 5 (.mov (.c (.int .i64 0))), Yi 6 (.mov (.c (.int .i64 0)))])
 (.seq (.reg [Yi 7 (.load true 2 (.t 2)), Yi 8 (.mov (.t 1)), Yi 9 (.call (.c (.fn 40 [] [])) [(.t 7), (.t 8), (.c (.int .i64 0)), (.c (.int .i64 1))]), Yi 10 (.extract (.t 9) 0), Yi 11 (.extract (.t 9) 1), Yi 12 (.extract (.t 9) 2), ⟨none, .store 2 (.t 4) (.t 10), none⟩, Yi 5 (.mov (.t 11)), Yi 6 (.mov (.t 12))])
 (.ret))
def r71 : List ARV := [.cell 4 true 2, .tmp 5, .tmp 6]
theorem b71 : Try.f71.body.bind (tr Try.prog 13) = some c71.bare := by kernel_rfl
theorem q71 : trRes Try.prog Try.f71.results.toList = some r71 := by kernel_rfl
theorem n71 : (Try.f71.name == "runtime.NumGoroutine") = false := by kernel_rfl

def c72 : ACode :=
 .seq (.reg [Yi 4 (.mov (.c (.int .i64 0)))])
 (.seq (.reg [Yi 5 (.load false 1 (.t 0)), Yi 6 (.load false 1 (.t 1)), Yi 7 (.load false 1 (.t 2)), Yi 8 (.load false 1 (.t 3)), Yi 9 (.call (.c (.fn 73 [] [])) [(.t 5), (.t 6), (.t 7), (.t 8)]), Yi 4 (.mov (.t 9))])
 (.ret))
def r72 : List ARV := [.tmp 4]
theorem b72 : Try.f72.body.bind (tr Try.prog 10) = some c72.bare := by kernel_rfl
theorem q72 : trRes Try.prog Try.f72.results.toList = some r72 := by kernel_rfl
theorem n72 : (Try.f72.name == "runtime.NumGoroutine") = false := by kernel_rfl

def c73 : ACode :=
 .seq (.reg [Yi 8 (.mov (.c (.int .i64 0)))])
 (.seq (.block 0 (.seq (.reg [Yi 17 (.mov (.t 1)), Yi 18 (.bin .eql false (.t 17) (.c (.int .i64 1))), Yi 19 (.mov (.t 18)), Yj 20 19 false (.mov (.t 2)), Yj 21 19 false (.mov (.t 3)), Yj 22 19 false (.bin .eql false (.t 20) (.t 21)), Yi 23 (.pick (.t 19) (.c (.bool true)) (.t 22)), Yi 16 (.mov (.t 23))])
 (.cond (.t 16)
 (.seq (.reg [Yi 24 (.mov (.t 2)), Yi 8 (.mov (.t 24))])
 (.ret))
 (.seq (.reg [Yi 26 (.mov (.t 1)), Yi 27 (.bin .eql false (.t 26) (.c (.int .i64 0))), Yi 25 (.mov (.t 27))])
 (.cond (.t 25)
 (.seq (.reg [Yi 28 (.mov (.t 3)), Yi 8 (.mov (.t 28))])
 (.ret))
 (.seq (.reg [Yi 30 (.mov (.t 2)), Yi 31 (.bin .eql false (.t 30) (.c (.int .i64 1))), Yi 32 (.mov (.t 31)), Yj 33 32 true (.mov (.t 3)), Yj 34 32 true (.bin .eql false (.t 33) (.c (.int .i64 0))), Yi 35 (.pick (.t 32) (.t 34) (.c (.bool false))), Yi 29 (.mov (.t 35))])
 (.cond (.t 29)
 (.seq (.reg [Yi 36 (.mov (.t 1)), Yi 8 (.mov (.t 36))])
 (.ret))
 (.skip))))))))
 (.seq (.reg [Yi 37 (.mov (.t 1)), Yi 38 (.mov (.t 2)), Yi 39 (.mov (.t 3)), Yi 40 (.build [(.int .i64 0), (.int .i64 0), (.int .i64 0)] [(0, 1, (.t 37)), (1, 1, (.t 38)), (2, 1, (.t 39))]), Yi 9 (.alloc [(.int .i64 0), (.int .i64 0), (.int .i64 0)]), ⟨none, .store 3 (.t 9) (.t 40), none⟩])
 (.seq (.seq (.drw [Yi 42 (.mov (.t 0)), Yi 43 (.nilchk (.t 42)), Yi 44 (.fldA 3 (.t 43)), Yi 45 (.load false 1 (.t 44)), Yi 46 (.load true 3 (.t 9)), Yi 47 (.ext (.look (.row [0, 0, 0]) (.int .i64 0) true (.t 45) (.t 46))), Yi 41 (.mov (.t 47)), Yi 48 (.extract (.t 41) 0), Yi 49 (.extract (.t 41) 1),
 Yi 10 (.mov (.t 48)), Yi 11 (.mov (.t 49))] [])
 (.seq (.reg [Yi 50 (.mov (.t 11))])
 (.cond (.t 50)
 (.seq (.reg [Yi 51 (.mov (.t 10)), Yi 8 (.mov (.t 51))])
 (.ret))
 (.skip))))
 (.seq (.reg [Yi 52 (.mov (.t 0)), Yi 53 (.mov (.t 1)), Yi 54 (.call (.c (.fn 95 [] [])) [(.t 52), (.t 53)]), Yi 55 (.mov (.t 0)), Yi 56 (.mov (.t 2)), Yi 57 (.call (.c (.fn 95 [] [])) [(.t 55), (.t 56)]), Yi 58 (.mov (.t 0)), Yi 59 (.mov (.t 3)), Yi 60 (.call (.c (.fn 95 [] [])) [(.t 58), (.t 59)]),
 Yi 61 (.min [(.t 54), (.t 57), (.t 60)]), Yi 12 (.mov (.t 61))])
 (.seq (.reg [Yi 13 (.alloc [(.int .i64 0), (.int .i64 0)])])
 (.seq (.seq (.reg [Yi 62 (.mov (.c (.int .i64 0)))])
 (.block 1 (.loop (.seq (.reg [Yi 63 (.bin .lss false (.t 62) (.c (.int .i64 2)))])
 (.seq (.cond (.t 63)
 (.skip)
 (.exit 1))
 (.seq (.block 2 (.seq (.reg [Yi 64 (.mov (.t 62)), Yi 14 (.mov (.t 64))])
 (.reg [Yi 65 (.mov (.t 14)), Yi 66 (.mov (.t 0)), Yi 67 (.mov (.t 0)), Yi 68 (.mov (.t 1)), Yi 69 (.mov (.t 12)), Yi 70 (.mov (.t 14)), Yi 71 (.call (.c (.fn 96 [] [])) [(.t 67), (.t 68), (.t 69), (.t 70)]), Yi 72 (.mov (.t 0)), Yi 73 (.mov (.t 2)), Yi 74 (.mov (.t 12)), Yi 75 (.mov (.t 14)), Yi 76 (.call (.c (.fn 96 [] [])) [(.t 72), (.t 73), (.t 74), (.t 75)]),
 Yi 77 (.mov (.t 0)), Yi 78 (.mov (.t 3)), Yi 79 (.mov (.t 12)), Yi 80 (.mov (.t 14)), Yi 81 (.call (.c (.fn 96 [] [])) [(.t 77), (.t 78), (.t 79), (.t 80)]), Yi 82 (.call (.c (.fn 73 [] [])) [(.t 66), (.t 71), (.t 76), (.t 81)]), Yi 83 (.idxR 1 2 (.t 13) (.t 65)), ⟨none, .store 1 (.t 83) (.t 82), none⟩])))
 (.reg [Yi 84 (.bin .add false (.t 62) (.c (.int .i64 1))), Yi 62 (.mov (.t 84))])))))))
 (.seq (.reg [Yi 85 (.mov (.t 0)), Yi 86 (.mov (.t 12)), Yi 87 (.idxR 1 2 (.t 13) (.c (.int .i64 0))), Yi 88 (.load false 1 (.t 87)), Yi 89 (.idxR 1 2 (.t 13) (.c (.int .i64 1))), Yi 90 (.load false 1 (.t 89)), Yi 91 (.call (.c (.fn 69 [] [])) [(.t 85), (.t 86), (.t 88), (.t 90)]), Yi 15 (.mov (.t 91))])
 (.seq (.drw [Yi 92 (.mov (.t 0)), Yi 93 (.nilchk (.t 92)), Yi 94 (.fldA 3 (.t 93)), Yi 95 (.load false 1 (.t 94)), Yi 96 (.load true 3 (.t 9)), Yi 97 (.mov (.t 15)), ⟨none, .ext (.mset (.row [0, 0, 0]) (.t 95) (.t 96) (.t 97)), none⟩] [])
 (.seq (.reg [Yi 98 (.mov (.t 15)), Yi 8 (.mov (.t 98))])
 (.ret))))))))))
def r73 : List ARV := [.tmp 8]
theorem b73 : Try.f73.body.bind (tr Try.prog 99) = some c73.bare := by kernel_rfl
theorem q73 : trRes Try.prog Try.f73.results.toList = some r73 := by kernel_rfl
theorem n73 : (Try.f73.name == "runtime.NumGoroutine") = false := by kernel_rfl

def c74 : ACode :=
 .seq (.reg [Yi 4 (.mov (.c (.slice [] .nil)))])
 (.seq (.seq (.reg [Yi 7 (.mov (.t 1)), Yi 8 (.call (.c (.fn 97 [] [])) [(.t 7)]), Yi 9 (.len (.t 8)), Yi 10 (.mov (.c (.int .i64 0)))])
 (.block 0 (.loop (.seq (.reg [Yi 11 (.bin .lss false (.t 10) (.t 9))])
 (.seq (.cond (.t 11)
 (.skip)
 (.exit 0))
 (.seq (.block 1 (.seq (.reg [Yi 12 (.idxS 2 (.t 8) (.t 10)), Yi 13 (.load true 2 (.t 12)), Yi 6 (.alloc [(.int .i64 0), (.bool false)]), ⟨none, .store 2 (.t 6) (.t 13), none⟩])
 (.reg [Yi 14 (.mov (.t 4)), Yi 15 (.mov (.t 0)), Yi 16 (.load true 2 (.t 6)), Yi 17 (.call (.t 15) [(.t 16)]), Yi 18 (.bslice 1 [(.t 17)]), Yi 19 (.append 1 8 (.t 14) (.t 18)), Yi 4 (.mov (.t 19))])))
 (.reg [Yi 20 (.bin .add false (.t 10) (.c (.int .i64 1))), Yi 10 (.mov (.t 20))])))))))
 (.seq (.reg [Yi 21 (.mov (.t 4)), Yi 4 (.mov (.t 21))])
 (.ret)))
def r74 : List ARV := [.tmp 4]
theorem b74 : Try.f74.body.bind (tr Try.prog 22) = some c74.bare := by kernel_rfl
theorem q74 : trRes Try.prog Try.f74.results.toList = some r74 := by kernel_rfl
theorem n74 : (Try.f74.name == "runtime.NumGoroutine") = false := by kernel_rfl

def c75 : ACode :=
 .seq (.reg [Yi 1 (.boxI (.t 0)), Yi 2 (.mov (.c (.int .i64 0)))])
 (.seq (.reg [Yi 3 (.fldA 0 (.t 1)), Yi 4 (.load false 1 (.t 3)), Yi 2 (.mov (.t 4))])
 (.ret))
def r75 : List ARV := [.tmp 2]
theorem b75 : Try.f75.body.bind (tr Try.prog 5) = some c75.bare := by kernel_rfl
theorem q75 : trRes Try.prog Try.f75.results.toList = some r75 := by kernel_rfl
theorem n75 : (Try.f75.name == "runtime.NumGoroutine") = false := by kernel_rfl

def c80 : ACode :=
 .seq (.reg [Yi 4 (.alloc [(.int .i64 0), (.slice [] .nil), (.slice [] .nil), (.slice [] .nil)]), Yi 5 (.mov (.c (.int .i64 0))), Yi 6 (.mov (.c (.int .i64 0)))])
 (.seq (.seq (.reg [Yi 7 (.mov (.t 0)), Yi 8 (.nilchk (.t 7)), Yi 9 (.fldA 4 (.t 8)), Yi 10 (.load false 1 (.t 9)), Yi 11 (.bin .neq false (.t 10) (.c (.int .i64 0)))])
 (.cond (.t 11)
 (.seq (.drw [Yi 12 (.build [(.int .i64 0), (.slice [] .nil), (.slice [] .nil), (.slice [] .nil)] []), Yi 13 (.mov (.t 0)), Yi 14 (.nilchk (.t 13)), Yi 15 (.fldA 4 (.t 14)), Yi 16 (.load false 1 (.t 15)), ⟨none, .store 4 (.t 4) (.t 12), none⟩, Yi 5 (.mov (.c (.int .i64 0))), Yi 6 (.mov (.t 16))] [(4, 5)])
 (.ret))
 (.skip)))
 (.seq (.reg [Yi 17 (.mov (.t 0)), Yi 18 (.nilchk (.t 17)), Yi 19 (.fldA 0 (.t 18)), Yi 20 (.load true 4 (.t 19)), Yi 21 (.mov (.t 1)), ⟨none, .store 4 (.t 4) (.t 20), none⟩, Yi 5 (.mov (.t 21)), Yi 6 (.mov (.c (.int .i64 0)))])
 (.ret)))
def r80 : List ARV := [.cell 4 true 4, .tmp 5, .tmp 6]
theorem b80 : Try.f80.body.bind (tr Try.prog 22) = some c80.bare := by kernel_rfl
theorem q80 : trRes Try.prog Try.f80.results.toList = some r80 := by kernel_rfl
theorem n80 : (Try.f80.name == "runtime.NumGoroutine") = false := by kernel_rfl

def c81 : ACode :=
 .seq (.reg [Yi 4 (.box (.t 1)), Yi 5 (.box (.t 2)), Yi 6 (.mov (.c (.int .i64 0)))])
 (.seq (.drw [Yi 8 (.load false 1 (.t 4)), Yi 9 (.load false 1 (.t 5)), Yi 10 (.min [(.t 8), (.t 9)]), Yi 11 (.load false 1 (.t 4)), Yi 12 (.load false 1 (.t 5)), Yi 13 (.max [(.t 11), (.t 12)]), ⟨none, .store 1 (.t 4) (.t 10), none⟩, ⟨none, .store 1 (.t 5) (.t 13), none⟩] [(4, 6)])
 (.seq (.block 0 (.seq (.seq (.reg [Yi 15 (.mov (.t 0)), Yi 16 (.nilchk (.t 15)), Yi 17 (.fldA 4 (.t 16)), Yi 18 (.load false 1 (.t 17)), Yi 19 (.bin .neq false (.t 18) (.c (.int .i64 0))), Yi 14 (.mov (.t 19))])
 (.cond (.t 14)
 (.skip)
 (.seq (.reg [Yi 20 (.load false 1 (.t 4)), Yi 21 (.bin .eql false (.t 20) (.c (.int .i64 0))), Yi 14 (.mov (.t 21))])
 (.cond (.t 14)
 (.skip)
 (.reg [Yi 22 (.load false 1 (.t 4)), Yi 23 (.load false 1 (.t 5)), Yi 24 (.bin .xor false (.t 23) (.c (.int .i64 1))), Yi 25 (.bin .eql false (.t 22) (.t 24)), Yi 14 (.mov (.t 25))])))))
 (.cond (.t 14)
 (.seq (.reg [Yi 6 (.mov (.c (.int .i64 0)))])
 (.ret))
 (.seq (.seq (.reg [Yi 27 (.load false 1 (.t 4)), Yi 28 (.bin .eql false (.t 27) (.c (.int .i64 1))), Yi 26 (.mov (.t 28))])
 (.cond (.t 26)
 (.skip)
 (.reg [Yi 29 (.load false 1 (.t 4)), Yi 30 (.load false 1 (.t 5)), Yi 31 (.bin .eql false (.t 29) (.t 30)), Yi 26 (.mov (.t 31))])))
 (.cond (.t 26)
 (.seq (.reg [Yi 32 (.load false 1 (.t 5)), Yi 6 (.mov (.t 32))])
 (.ret))
 (.skip))))))
 (.seq (.reg [Yi 33 (.mov (.t 0)), Yi 34 (.nilchk (.t 33)), Yi 35 (.fldA 0 (.t 34)), Yi 36 (.fldA 2 (.t 35)), Yi 37 (.load false 1 (.t 36)), Yi 38 (.mkfn 103 [] [(.t 4), (.t 5)]), Yi 39 (.call (.c (.fn 102 [] [])) [(.t 37), (.t 38)]), Yi 7 (.mov (.t 39))])
 (.seq (.seq (.reg [Yi 40 (.mov (.t 7)), Yi 41 (.bin .geq false (.t 40) (.c (.int .i64 0)))])
 (.cond (.t 41)
 (.seq (.reg [Yi 42 (.mov (.t 0)), Yi 43 (.call (.c (.fn 104 [] [])) [(.t 42)]), Yi 44 (.mov (.t 7)), Yi 45 (.bin .add false (.t 43) (.t 44)), Yi 46 (.bin .mul false (.c (.int .i64 2)) (.t 45)), Yi 6 (.mov (.t 46))])
 (.ret))
 (.skip)))
 (.seq (.seq (.reg [Yi 47 (.mov (.t 0)), Yi 48 (.call (.c (.fn 105 [] [])) [(.t 47)]), Yi 49 (.bin .eql false (.t 48) (.c (.int .i64 65536)))])
 (.cond (.t 49)
 (.seq (.reg [Yi 50 (.mov (.t 0)), Yi 51 (.nilchk (.t 50)), Yi 52 (.fldA 4 (.t 51)), ⟨none, .store 1 (.t 52) (.c (.int .i64 2)), none⟩])
 (.seq (.reg [Yi 6 (.mov (.c (.int .i64 0)))])
 (.ret)))
 (.skip)))
 (.seq (.drw [Yi 53 (.mov (.t 0)), Yi 54 (.mov (.t 0)), Yi 55 (.nilchk (.t 54)), Yi 56 (.fldA 0 (.t 55)), Yi 57 (.fldA 2 (.t 56)), Yi 58 (.load false 1 (.t 57)), Yi 59 (.call (.c (.fn 106 [] [])) [(.t 58)]), Yi 60 (.load false 1 (.t 4)), Yi 61 (.load false 1 (.t 5)), Yi 62 (.build [(.int .i64 0), (.int .i64 0)] [(0, 1, (.t 60)), (1, 1, (.t 61))]),
 Yi 63 (.bslice 2 [(.t 62)]), Yi 64 (.append 2 16 (.t 59) (.t 63)), Yi 65 (.nilchk (.t 53)), Yi 66 (.fldA 0 (.t 65)), Yi 67 (.fldA 2 (.t 66)), ⟨none, .store 1 (.t 67) (.t 64), none⟩] [(6, 7), (6, 8)])
 (.seq (.reg [Yi 68 (.mov (.t 0)), Yi 69 (.call (.c (.fn 105 [] [])) [(.t 68)]), Yi 70 (.bin .mul false (.c (.int .i64 2)) (.t 69)), Yi 6 (.mov (.t 70))])
 (.ret))))))))
def r81 : List ARV := [.tmp 6]
theorem b81 : Try.f81.body.bind (tr Try.prog 71) = some c81.bare := by kernel_rfl
theorem q81 : trRes Try.prog Try.f81.results.toList = some r81 := by kernel_rfl
theorem n81 : (Try.f81.name == "runtime.NumGoroutine") = false := by kernel_rfl

def c82 : ACode :=
 .seq (.reg [Yi 4 (.mov (.c (.slice [] .nil)))])
 (.seq (.seq (.reg [Yi 5 (.mov (.t 1)), Yi 6 (.bin .lss false (.t 5) (.c (.int .i64 0)))])
 (.cond (.t 6)
 (.reg [Yi 7 (.mkiface 9 (.c (.str ⟨#[99, 97, 110, 110, 111, 116, 32, 98, 101, 32, 110, 101, 103, 97, 116, 105, 118, 101]⟩))), ⟨none, .panic (.t 7), none⟩])
 (.skip)))
 (.seq (.seq (.reg [Yi 8 (.mov (.t 1)), Yi 9 (.mov (.t 0)), Yi 10 (.cap (.t 9)), Yi 11 (.mov (.t 0)), Yi 12 (.len (.t 11)), Yi 13 (.bin .sub false (.t 10) (.t 12)), Yi 14 (.bin .sub false (.t 8) (.t 13)), Yi 1 (.mov (.t 14))])
 (.seq (.reg [Yi 15 (.mov (.t 1)), Yi 16 (.bin .gtr false (.t 15) (.c (.int .i64 0)))])
 (.cond (.t 16)
 (.reg [Yi 17 (.mov (.t 0)), Yi 18 (.mov (.t 0)), Yi 19 (.cap (.t 18)), Yi 20 (.slcN 1 (.t 17) none (some (.t 19)) none), Yi 21 (.mov (.t 1)), Yi 22 (.appz 1 8 (.t 20) (.t 21)), Yi 23 (.mov (.t 0)), Yi 24 (.len (.t 23)), Yi 25 (.slcR 1 (.t 22) none (some (.t 24)) none), Yi 0 (.mov (.t 25))])
 (.skip))))
 (.seq (.reg [Yi 26 (.mov (.t 0)), Yi 4 (.mov (.t 26))])
 (.ret))))
def r82 : List ARV := [.tmp 4]
theorem b82 : Try.f82.body.bind (tr Try.prog 27) = some c82.bare := by kernel_rfl
theorem q82 : trRes Try.prog Try.f82.results.toList = some r82 := by kernel_rfl
theorem n82 : (Try.f82.name == "runtime.NumGoroutine") = false := by kernel_rfl

def c83 : ACode :=
 .seq (.reg [Yi 6 (.mov (.c (.int .i64 0)))])
 (.seq (.reg [Yi 7 (.mov (.t 0)), Yi 8 (.mov (.t 1)), Yi 9 (.bin .xor false (.t 8) (.c (.int .i64 1))), Yi 10 (.mov (.t 2)), Yi 11 (.bin .xor false (.t 10) (.c (.int .i64 1))), Yi 12 (.call (.c (.fn 81 [] [])) [(.t 7), (.t 9), (.t 11)]), Yi 13 (.bin .xor false (.t 12) (.c (.int .i64 1))), Yi 6 (.mov (.t 13))])
 (.ret))
def r83 : List ARV := [.tmp 6]
theorem b83 : Try.f83.body.bind (tr Try.prog 14) = some c83.bare := by kernel_rfl
theorem q83 : trRes Try.prog Try.f83.results.toList = some r83 := by kernel_rfl
theorem n83 : (Try.f83.name == "runtime.NumGoroutine") = false := by kernel_rfl

def c84 : ACode :=
 .seq (.reg [Yi 2 (.boxI (.t 0)), Yi 4 (.mov (.c (.int .i64 0)))])
 (.seq (.reg [Yi 7 (.load true 4 (.t 2)), Yi 8 (.call (.c (.fn 29 [] [])) [(.t 7)]), Yi 5 (.mov (.t 8))])
 (.seq (.seq (.reg [Yi 9 (.mov (.t 5)), Yi 10 (.bin .neq false (.t 9) (.c (.int .i64 0)))])
 (.cond (.t 10)
 (.seq (.reg [Yi 11 (.mov (.t 5)), Yi 4 (.mov (.t 11))])
 (.ret))
 (.skip)))
 (.seq (.seq (.reg [Yi 6 (.mov (.c (.int .i64 0)))])
 (.block 0 (.loop (.seq (.seq (.reg [Yi 12 (.mov (.t 6)), Yi 13 (.mov (.t 1)), Yi 14 (.len (.t 13)), Yi 15 (.bin .lss false (.t 12) (.t 14))])
 (.cond (.t 15)
 (.skip)
 (.exit 0)))
 (.seq (.block 1 (.seq (.drw [Yi 18 (.load true 4 (.t 2)), Yi 19 (.call (.c (.fn 30 [] [])) [(.t 18)]), Yi 20 (.mov (.t 1)), Yi 21 (.mov (.t 6)), Yi 22 (.idxS 1 (.t 20) (.t 21)), Yi 23 (.load false 1 (.t 22)), Yi 24 (.call (.c (.fn 64 [] [])) [(.t 19), (.t 23)]), Yi 25 (.un .not (.t 24))] [(1, 5)])
 (.cond (.t 25)
 (.seq (.reg [Yi 4 (.mov (.c (.int .i64 1)))])
 (.ret))
 (.skip))))
 (.reg [Yi 16 (.mov (.t 6)), Yi 17 (.bin .add false (.t 16) (.c (.int .i64 1))), Yi 6 (.mov (.t 17))]))))))
 (.seq (.reg [Yi 4 (.mov (.c (.int .i64 0)))])
 (.ret)))))
def r84 : List ARV := [.tmp 4]
theorem b84 : Try.f84.body.bind (tr Try.prog 26) = some c84.bare := by kernel_rfl
theorem q84 : trRes Try.prog Try.f84.results.toList = some r84 := by kernel_rfl
theorem n84 : (Try.f84.name == "runtime.NumGoroutine") = false := by kernel_rfl

def c85 : ACode :=
 .seq (.reg [Yi 3 (.boxI (.t 0)), Yi 6 (.alloc [(.int .i64 0), (.slice [] .nil), (.slice [] .nil), (.slice [] .nil)]), Yi 7 (.mov (.c (.int .i64 0))), Yi 8 (.mov (.c (.int .i64 0)))])
 (.seq (.reg [Yi 14 (.mov (.t 1)), Yi 15 (.mov (.t 2)), Yi 16 (.min [(.t 14), (.t 15)]), Yi 9 (.mov (.t 16))])
 (.seq (.reg [Yi 17 (.mov (.t 1)), Yi 18 (.mov (.t 2)), Yi 19 (.max [(.t 17), (.t 18)]), Yi 10 (.mov (.t 19))])
 (.seq (.seq (.reg [Yi 20 (.mov (.t 9)), Yi 21 (.bin .eql false (.t 20) (.c (.int .i64 0))), Yi 22 (.mov (.t 21)), Yj 23 22 false (.mov (.t 9)), Yj 24 22 false (.mov (.t 10)), Yj 25 22 false (.bin .xor false (.t 23) (.t 24)), Yj 26 22 false (.bin .eql false (.t 25) (.c (.int .i64 1))), Yi 27 (.pick (.t 22) (.c (.bool true)) (.t 26))])
 (.cond (.t 27)
 (.seq (.reg [Yi 28 (.load true 4 (.t 3)), ⟨none, .store 4 (.t 6) (.t 28), none⟩, Yi 7 (.mov (.c (.int .i64 0))), Yi 8 (.mov (.c (.int .i64 0)))])
 (.ret))
 (.skip)))
 (.seq (.seq (.reg [Yi 29 (.mov (.t 9)), Yi 30 (.bin .eql false (.t 29) (.c (.int .i64 1))), Yi 31 (.mov (.t 30)), Yj 32 31 false (.mov (.t 9)), Yj 33 31 false (.mov (.t 10)), Yj 34 31 false (.bin .eql false (.t 32) (.t 33)), Yi 35 (.pick (.t 31) (.c (.bool true)) (.t 34))])
 (.cond (.t 35)
 (.seq (.reg [Yi 36 (.load true 4 (.t 3)), Yi 37 (.mov (.t 10)), ⟨none, .store 4 (.t 6) (.t 36), none⟩, Yi 7 (.mov (.t 37)), Yi 8 (.mov (.c (.int .i64 0)))])
 (.ret))
 (.skip)))
 (.seq (.reg [Yi 38 (.fldA 0 (.t 3)), Yi 39 (.load false 1 (.t 38)), Yi 40 (.bin .add false (.c (.int .i64 1)) (.t 39)), Yi 41 (.fldA 1 (.t 3)), Yi 42 (.load false 1 (.t 41)), Yi 43 (.len (.t 42)), Yi 44 (.bin .add false (.t 40) (.t 43)), Yi 11 (.mov (.t 44))])
 (.seq (.reg [Yi 45 (.load true 4 (.t 3)), Yi 46 (.mov (.t 9)), Yi 47 (.mov (.t 10)), Yi 48 (.call (.c (.fn 107 [] [])) [(.t 45), (.t 46), (.t 47)]), Yi 12 (.mov (.t 48))])
 (.seq (.seq (.reg [Yi 49 (.mov (.t 12)), Yi 50 (.bin .geq false (.t 49) (.c (.int .i64 0)))])
 (.cond (.t 50)
 (.seq (.reg [Yi 51 (.load true 4 (.t 3)), Yi 52 (.mov (.t 11)), Yi 53 (.mov (.t 12)), Yi 54 (.bin .add false (.t 52) (.t 53)), Yi 55 (.bin .mul false (.c (.int .i64 2)) (.t 54)), ⟨none, .store 4 (.t 6) (.t 51), none⟩, Yi 7 (.mov (.t 55)), Yi 8 (.mov (.c (.int .i64 0)))])
 (.ret))
 (.skip)))
 (.seq (.seq (.reg [Yi 56 (.fldA 0 (.t 3)), Yi 57 (.load false 1 (.t 56)), Yi 58 (.fldA 1 (.t 3)), Yi 59 (.load false 1 (.t 58)), Yi 60 (.len (.t 59)), Yi 61 (.bin .add false (.t 57) (.t 60)), Yi 62 (.fldA 2 (.t 3)), Yi 63 (.load false 1 (.t 62)), Yi 64 (.len (.t 63)), Yi 65 (.bin .add false (.t 61) (.t 64)),
 Yi 66 (.bin .geq false (.t 65) (.c (.int .i64 65536)))])
 (.cond (.t 66)
 (.seq (.reg [Yi 67 (.build [(.int .i64 0), (.slice [] .nil), (.slice [] .nil), (.slice [] .nil)] []), ⟨none, .store 4 (.t 6) (.t 67), none⟩, Yi 7 (.mov (.c (.int .i64 0))), Yi 8 (.mov (.c (.int .i64 2)))])
 (.ret))
 (.skip)))
 (.seq (.reg [Yi 68 (.load true 4 (.t 3)), Yi 13 (.alloc [(.int .i64 0), (.slice [] .nil), (.slice [] .nil), (.slice [] .nil)]), ⟨none, .store 4 (.t 13) (.t 68), none⟩])
 (.seq (.reg [Yi 69 (.bslice 2 []), Yi 70 (.fldA 2 (.t 3)), Yi 71 (.load false 1 (.t 70)), Yi 72 (.append 2 16 (.t 69) (.t 71)), Yi 73 (.fldA 2 (.t 13)), ⟨none, .store 1 (.t 73) (.t 72), none⟩])
 (.seq (.reg [Yi 74 (.fldA 2 (.t 13)), Yi 75 (.load false 1 (.t 74)), Yi 76 (.mov (.t 9)), Yi 77 (.mov (.t 10)), Yi 78 (.build [(.int .i64 0), (.int .i64 0)] [(0, 1, (.t 76)), (1, 1, (.t 77))]), Yi 79 (.bslice 2 [(.t 78)]), Yi 80 (.append 2 16 (.t 75) (.t 79)), Yi 81 (.fldA 2 (.t 13)), ⟨none, .store 1 (.t 81) (.t 80), none⟩])
 (.seq (.drw [Yi 82 (.load true 4 (.t 13)), Yi 83 (.load true 4 (.t 13)), Yi 84 (.call (.c (.fn 30 [] [])) [(.t 83)]), Yi 85 (.bin .sub false (.t 84) (.c (.int .i64 1))), Yi 86 (.bin .mul false (.c (.int .i64 2)) (.t 85)), ⟨none, .store 4 (.t 6) (.t 82), none⟩, Yi 7 (.mov (.t 86)), Yi 8 (.mov (.c (.int .i64 0)))] [(0, 2)])
 (.ret)))))))))))))
def r85 : List ARV := [.cell 6 true 4, .tmp 7, .tmp 8]
theorem b85 : Try.f85.body.bind (tr Try.prog 87) = some c85.bare := by kernel_rfl
theorem q85 : trRes Try.prog Try.f85.results.toList = some r85 := by kernel_rfl
theorem n85 : (Try.f85.name == "runtime.NumGoroutine") = false := by kernel_rfl

def c86 : ACode :=
 .seq (.reg [Yi 3 (.boxI (.t 0)), Yi 6 (.alloc [(.int .i64 0), (.slice [] .nil), (.slice [] .nil), (.slice [] .nil)]), Yi 7 (.mov (.c (.int .i64 0))), Yi 8 (.mov (.c (.int .i64 0)))])
 (.seq (.reg [Yi 10 (.load true 4 (.t 3)), Yi 11 (.mov (.t 1)), Yi 12 (.mov (.t 2)), Yi 13 (.bslice 1 [(.t 11), (.t 12)]), Yi 14 (.call (.c (.fn 84 [] [])) [(.t 10), (.t 13)]), Yi 9 (.mov (.t 14))])
 (.seq (.seq (.reg [Yi 15 (.mov (.t 9)), Yi 16 (.bin .neq false (.t 15) (.c (.int .i64 0)))])
 (.cond (.t 16)
 (.seq (.reg [Yi 17 (.build [(.int .i64 0), (.slice [] .nil), (.slice [] .nil), (.slice [] .nil)] []), Yi 18 (.mov (.t 9)), ⟨none, .store 4 (.t 6) (.t 17), none⟩, Yi 7 (.mov (.c (.int .i64 0))), Yi 8 (.mov (.t 18))])
 (.ret))
 (.skip)))
 (.seq (.reg [Yi 19 (.load true 4 (.t 3)), Yi 20 (.mov (.t 1)), Yi 21 (.mov (.t 2)), Yi 22 (.bin .xor false (.t 21) (.c (.int .i64 1))), Yi 23 (.mov (.t 1)), Yi 24 (.bin .xor false (.t 23) (.c (.int .i64 1))), Yi 25 (.mov (.t 2)), Yi 26 (.call (.c (.fn 108 [] [])) [(.t 19), (.t 20), (.t 22), (.t 24), (.t 25)]),
 Yi 27 (.extract (.t 26) 0), Yi 28 (.extract (.t 26) 1), Yi 29 (.extract (.t 26) 2), ⟨none, .store 4 (.t 6) (.t 27), none⟩, Yi 7 (.mov (.t 28)), Yi 8 (.mov (.t 29))])
 (.ret))))
def r86 : List ARV := [.cell 6 true 4, .tmp 7, .tmp 8]
theorem b86 : Try.f86.body.bind (tr Try.prog 30) = some c86.bare := by kernel_rfl
theorem q86 : trRes Try.prog Try.f86.results.toList = some r86 := by kernel_rfl
theorem n86 : (Try.f86.name == "runtime.NumGoroutine") = false := by kernel_rfl

def c87 : ACode :=
 .seq (.reg [Yi 3 (.boxI (.t 0)), Yi 6 (.alloc [(.int .i64 0), (.slice [] .nil), (.slice [] .nil), (.slice [] .nil)]), Yi 7 (.mov (.c (.int .i64 0))), Yi 8 (.mov (.c (.int .i64 0)))])
 (.seq (.reg [Yi 10 (.load true 4 (.t 3)), Yi 11 (.mov (.t 1)), Yi 12 (.mov (.t 2)), Yi 13 (.bslice 1 [(.t 11), (.t 12)]), Yi 14 (.call (.c (.fn 84 [] [])) [(.t 10), (.t 13)]), Yi 9 (.mov (.t 14))])
 (.seq (.seq (.reg [Yi 15 (.mov (.t 9)), Yi 16 (.bin .neq false (.t 15) (.c (.int .i64 0)))])
 (.cond (.t 16)
 (.seq (.reg [Yi 17 (.build [(.int .i64 0), (.slice [] .nil), (.slice [] .nil), (.slice [] .nil)] []), Yi 18 (.mov (.t 9)), ⟨none, .store 4 (.t 6) (.t 17), none⟩, Yi 7 (.mov (.c (.int .i64 0))), Yi 8 (.mov (.t 18))])
 (.ret))
 (.skip)))
 (.seq (.reg [Yi 19 (.load true 4 (.t 3)), Yi 20 (.mov (.t 1)), Yi 21 (.mov (.t 2)), Yi 22 (.call (.c (.fn 109 [] [])) [(.t 19), (.t 20), (.t 21)]), Yi 23 (.extract (.t 22) 0), Yi 24 (.extract (.t 22) 1), Yi 25 (.extract (.t 22) 2), ⟨none, .store 4 (.t 6) (.t 23), none⟩, Yi 7 (.mov (.t 24)), Yi 8 (.mov (.t 25))])
 (.ret))))
def r87 : List ARV := [.cell 6 true 4, .tmp 7, .tmp 8]
theorem b87 : Try.f87.body.bind (tr Try.prog 26) = some c87.bare := by kernel_rfl
theorem q87 : trRes Try.prog Try.f87.results.toList = some r87 := by kernel_rfl
theorem n87 : (Try.f87.name == "runtime.NumGoroutine") = false := by kernel_rfl

def c88 : ACode :=
 .seq (.reg [Yi 3 (.boxI (.t 0)), Yi 6 (.mov (.c (.slice [] .nil))), Yi 7 (.mov (.c (.slice [] .nil))), Yi 8 (.mov (.c (.int .i64 0)))])
 (.seq (.reg [Yi 15 (.load true 4 (.t 3)), Yi 16 (.mov (.t 1)), Yi 17 (.mov (.t 2)), Yi 18 (.call (.c (.fn 110 [] [])) [(.t 15), (.t 16), (.t 17)]), Yi 14 (.mov (.t 18)), Yi 19 (.extract (.t 14) 0), Yi 20 (.extract (.t 14) 1), Yi 9 (.mov (.t 19)), Yi 8 (.mov (.t 20))])
 (.seq (.seq (.reg [Yi 21 (.mov (.t 8)), Yi 22 (.bin .neq false (.t 21) (.c (.int .i64 0)))])
 (.cond (.t 22)
 (.seq (.reg [Yi 23 (.mov (.t 8)), Yi 6 (.mov (.c (.slice [] .nil))), Yi 7 (.mov (.c (.slice [] .nil))), Yi 8 (.mov (.t 23))])
 (.ret))
 (.skip)))
 (.seq (.seq (.reg [Yi 24 (.fldA 3 (.t 3)), Yi 25 (.load false 1 (.t 24)), Yi 26 (.len (.t 25)), Yi 27 (.mov (.c (.int .i64 0)))])
 (.block 0 (.loop (.seq (.reg [Yi 28 (.bin .lss false (.t 27) (.t 26))])
 (.seq (.cond (.t 28)
 (.skip)
 (.exit 0))
 (.seq (.block 1 (.seq (.reg [Yi 29 (.idxS 1 (.t 25) (.t 27)), Yi 30 (.load false 1 (.t 29)), Yi 11 (.mov (.t 30))])
 (.reg [Yi 31 (.mov (.t 6)), Yi 32 (.mov (.t 9)), Yi 33 (.mov (.t 11)), Yi 34 (.call (.c (.fn 111 [] [])) [(.t 32), (.t 33)]), Yi 35 (.bslice 1 [(.t 34)]), Yi 36 (.append 1 1 (.t 31) (.t 35)), Yi 6 (.mov (.t 36))])))
 (.reg [Yi 37 (.bin .add false (.t 27) (.c (.int .i64 1))), Yi 27 (.mov (.t 37))])))))))
 (.seq (.seq (.reg [Yi 38 (.fldA 1 (.t 3)), Yi 39 (.load false 1 (.t 38)), Yi 40 (.len (.t 39)), Yi 41 (.mov (.c (.int .i64 0)))])
 (.block 2 (.loop (.seq (.reg [Yi 42 (.bin .lss false (.t 41) (.t 40))])
 (.seq (.cond (.t 42)
 (.skip)
 (.exit 2))
 (.seq (.block 3 (.seq (.reg [Yi 43 (.idxS 2 (.t 39) (.t 41)), Yi 44 (.load true 2 (.t 43)), Yi 13 (.alloc [(.int .i64 0), (.bool false)]), ⟨none, .store 2 (.t 13) (.t 44), none⟩])
 (.reg [Yi 45 (.mov (.t 7)), Yi 46 (.mov (.t 9)), Yi 47 (.fldA 0 (.t 13)), Yi 48 (.load false 1 (.t 47)), Yi 49 (.call (.c (.fn 111 [] [])) [(.t 46), (.t 48)]), Yi 50 (.bslice 1 [(.t 49)]), Yi 51 (.append 1 1 (.t 45) (.t 50)), Yi 7 (.mov (.t 51))])))
 (.reg [Yi 52 (.bin .add false (.t 41) (.c (.int .i64 1))), Yi 41 (.mov (.t 52))])))))))
 (.seq (.reg [Yi 53 (.mov (.t 6)), Yi 54 (.mov (.t 7)), Yi 6 (.mov (.t 53)), Yi 7 (.mov (.t 54)), Yi 8 (.mov (.c (.int .i64 0)))])
 (.ret))))))
def r88 : List ARV := [.tmp 6, .tmp 7, .tmp 8]
theorem b88 : Try.f88.body.bind (tr Try.prog 55) = some c88.bare := by kernel_rfl
theorem q88 : trRes Try.prog Try.f88.results.toList = some r88 := by kernel_rfl
theorem n88 : (Try.f88.name == "runtime.NumGoroutine") = false := by kernel_rfl

def c89 : ACode :=
 .seq (.reg [Yi 1 (.boxI (.t 0)), Yi 2 (.mov (.c .nilp)), Yi 3 (.mov (.c (.int .i64 0)))])
 (.seq (.seq (.reg [Yi 10 (.fldA 1 (.t 1)), Yi 11 (.load false 1 (.t 10)), Yi 12 (.len (.t 11)), Yi 13 (.bin .gtr false (.t 12) (.c (.int .i64 65536)))])
 (.cond (.t 13)
 (.seq (.reg [Yi 2 (.mov (.c .nilp)), Yi 3 (.mov (.c (.int .i64 220)))])
 (.ret))
 (.skip)))
 (.seq (.reg [Yi 14 (.load true 2 (.t 1)), Yi 15 (.ext .mkmap), Yi 16 (.ext .mkmap), Yi 17 (.build [(.int .i64 0), (.slice [] .nil), .nilmap, .nilmap] [(0, 2, (.t 14)), (2, 1, (.t 15)), (3, 1, (.t 16))]), Yi 18 (.box (.t 17)), Yi 4 (.mov (.t 18))])
 (.seq (.reg [Yi 19 (.build [(.int .i64 0), (.int .i64 0), (.int .i64 0)] [(0, 1, (.c (.int .i64 (-1))))]), Yi 5 (.alloc [(.int .i64 0), (.int .i64 0), (.int .i64 0)]), ⟨none, .store 3 (.t 5) (.t 19), none⟩])
 (.seq (.seq (.drw [Yi 20 (.fldA 0 (.t 1)), Yi 21 (.load false 1 (.t 20)), Yi 22 (.bin .lss false (.t 21) (.c (.int .i64 0))), Yi 23 (.mov (.t 22)), Yj 24 23 false (.fldA 0 (.t 1)), Yj 25 23 false (.load false 1 (.t 24)), Yj 26 23 false (.bin .gtr false (.t 25) (.c (.int .i64 32))), Yi 27 (.pick (.t 23) (.c (.bool true)) (.t 26)),
 Yi 28 (.mov (.t 27)), Yj 29 28 false (.fldA 1 (.t 1)), Yj 30 28 false (.load false 1 (.t 29)), Yj 31 28 false (.len (.t 30)), Yj 32 28 false (.bin .lss false (.t 31) (.c (.int .i64 2))), Yi 33 (.pick (.t 28) (.c (.bool true)) (.t 32)), Yi 34 (.mov (.t 33)), Yj 35 34 false (.fldA 1 (.t 1)), Yj 36 34 false (.load false 1 (.t 35)),
 Yj 37 34 false (.idxS 3 (.t 36) (.c (.int .i64 0))), Yj 38 34 false (.load true 3 (.t 37)), Yj 39 34 false (.load true 3 (.t 5)), Yj 40 34 false (.eqs true [0, 0, 0] (.t 38) (.t 39)), Yi 41 (.pick (.t 34) (.c (.bool true)) (.t 40)), Yi 42 (.mov (.t 41)), Yj 43 42 false (.fldA 1 (.t 1)), Yj 44 42 false (.load false 1 (.t 43)),
 Yj 45 42 false (.idxS 3 (.t 44) (.c (.int .i64 1))), Yj 46 42 false (.load true 3 (.t 45)), Yj 47 42 false (.load true 3 (.t 5)), Yj 48 42 false (.eqs true [0, 0, 0] (.t 46) (.t 47)), Yi 49 (.pick (.t 42) (.c (.bool true)) (.t 48))] [])
 (.cond (.t 49)
 (.seq (.reg [Yi 2 (.mov (.c .nilp)), Yi 3 (.mov (.c (.int .i64 1)))])
 (.ret))
 (.skip)))
 (.seq (.seq (.reg [Yi 50 (.fldA 1 (.t 1)), Yi 51 (.load false 1 (.t 50)), Yi 52 (.slc 3 (.t 51) (some (.c (.int .i64 2))) none none), Yi 53 (.len (.t 52)), Yi 54 (.mov (.c (.int .i64 0)))])
 (.block 0 (.loop (.seq (.reg [Yi 55 (.bin .lss false (.t 54) (.t 53))])
 (.seq (.cond (.t 55)
 (.skip)
 (.exit 0))
 (.seq (.block 1 (.seq (.reg [Yi 56 (.mov (.t 54)), Yi 57 (.idxS 3 (.t 52) (.t 54)), Yi 58 (.load true 3 (.t 57)), Yi 7 (.alloc [(.int .i64 0), (.int .i64 0), (.int .i64 0)]), Yi 6 (.mov (.t 56)), ⟨none, .store 3 (.t 7) (.t 58), none⟩])
 (.seq (.reg [Yi 59 (.mov (.t 6)), Yi 60 (.bin .add false (.t 59) (.c (.int .i64 2))), Yi 6 (.mov (.t 60))])
 (.seq (.drw [Yi 62 (.mov (.t 4)), Yi 63 (.nilchk (.t 62)), Yi 64 (.fldA 2 (.t 63)), Yi 65 (.load false 1 (.t 64)), Yi 66 (.load true 3 (.t 7)), Yi 67 (.ext (.look (.row [0, 0, 0]) (.int .i64 0) true (.t 65) (.t 66))), Yi 61 (.mov (.t 67)), Yi 68 (.extract (.t 61) 0), Yi 69 (.extract (.t 61) 1), Yi 8 (.mov (.t 68)),
 Yi 9 (.mov (.t 69))] [])
 (.seq (.seq (.reg [Yi 70 (.mov (.t 9)), Yi 71 (.mov (.t 70)), Yj 72 71 false (.fldA 0 (.t 7)), Yj 73 71 false (.load false 1 (.t 72)), Yj 74 71 false (.bin .lss false (.t 73) (.c (.int .i64 0))), Yi 75 (.pick (.t 71) (.c (.bool true)) (.t 74)), Yi 76 (.mov (.t 75)), Yj 77 76 false (.fldA 0 (.t 7)),
 Yj 78 76 false (.load false 1 (.t 77)), Yj 79 76 false (.fldA 0 (.t 1)), Yj 80 76 false (.load false 1 (.t 79)), Yj 81 76 false (.bin .geq false (.t 78) (.t 80)), Yi 82 (.pick (.t 76) (.c (.bool true)) (.t 81)), Yi 83 (.mov (.t 82)), Yj 84 83 false (.fldA 1 (.t 7)), Yj 85 83 false (.load false 1 (.t 84)),
 Yj 86 83 false (.fldA 2 (.t 7)), Yj 87 83 false (.load false 1 (.t 86)), Yj 88 83 false (.bin .eql false (.t 85) (.t 87)), Yi 89 (.pick (.t 83) (.c (.bool true)) (.t 88)), Yi 90 (.mov (.t 89)), Yj 91 90 false (.mov (.t 4)), Yj 92 90 false (.fldA 1 (.t 7)), Yj 93 90 false (.load false 1 (.t 92)), Yj 94 90 false (.fldA 0 (.t 7)),
 Yj 95 90 false (.load false 1 (.t 94)), Yj 96 90 false (.mov (.t 6)), Yj 97 90 false (.call (.c (.fn 112 [] [])) [(.t 91), (.t 93), (.t 95), (.t 96)]), Yj 98 90 false (.un .not (.t 97)), Yi 99 (.pick (.t 90) (.c (.bool true)) (.t 98)), Yi 100 (.mov (.t 99)), Yj 101 100 false (.mov (.t 4)), Yj 102 100 false (.fldA 2 (.t 7)),
 Yj 103 100 false (.load false 1 (.t 102)), Yj 104 100 false (.fldA 0 (.t 7)), Yj 105 100 false (.load false 1 (.t 104)), Yj 106 100 false (.mov (.t 6)), Yj 107 100 false (.call (.c (.fn 112 [] [])) [(.t 101), (.t 103), (.t 105), (.t 106)]), Yj 108 100 false (.un .not (.t 107)), Yi 109 (.pick (.t 100) (.c (.bool true)) (.t 108))])
 (.cond (.t 109)
 (.seq (.reg [Yi 2 (.mov (.c .nilp)), Yi 3 (.mov (.c (.int .i64 1)))])
 (.ret))
 (.skip)))
 (.drw [Yi 110 (.mov (.t 4)), Yi 111 (.nilchk (.t 110)), Yi 112 (.fldA 2 (.t 111)), Yi 113 (.load false 1 (.t 112)), Yi 114 (.load true 3 (.t 7)), Yi 115 (.mov (.t 6)), ⟨none, .ext (.mset (.row [0, 0, 0]) (.t 113) (.t 114) (.t 115)), none⟩] []))))))
 (.reg [Yi 116 (.bin .add false (.t 54) (.c (.int .i64 1))), Yi 54 (.mov (.t 116))])))))))
 (.seq (.reg [Yi 117 (.mov (.t 4)), Yi 118 (.fldA 1 (.t 1)), Yi 119 (.load false 1 (.t 118)), Yi 120 (.call (.c (.fn 113 [] [])) [(.t 119)]), Yi 121 (.nilchk (.t 117)), Yi 122 (.fldA 0 (.t 121)), Yi 123 (.fldA 1 (.t 122)), ⟨none, .store 1 (.t 123) (.t 120), none⟩])
 (.seq (.reg [Yi 124 (.mov (.t 4)), Yi 2 (.mov (.t 124)), Yi 3 (.mov (.c (.int .i64 0)))])
 (.ret))))))))
def r89 : List ARV := [.tmp 2, .tmp 3]
theorem b89 : Try.f89.body.bind (tr Try.prog 125) = some c89.bare := by kernel_rfl
theorem q89 : trRes Try.prog Try.f89.results.toList = some r89 := by kernel_rfl
theorem n89 : (Try.f89.name == "runtime.NumGoroutine") = false := by kernel_rfl

def c90 : ACode :=
 .seq (.reg [Yi 4 (.mov (.c (.bool false)))])
 (.seq (.reg [Yi 5 (.mov (.t 0)), Yi 6 (.mov (.t 1)), Yi 7 (.call (.c (.fn 114 [] [])) [(.t 5), (.t 6)]), Yi 8 (.bin .geq false (.t 7) (.c (.int .i64 0))), Yi 4 (.mov (.t 8))])
 (.ret))
def r90 : List ARV := [.tmp 4]
theorem b90 : Try.f90.body.bind (tr Try.prog 9) = some c90.bare := by kernel_rfl
theorem q90 : trRes Try.prog Try.f90.results.toList = some r90 := by kernel_rfl
theorem n90 : (Try.f90.name == "runtime.NumGoroutine") = false := by kernel_rfl

def c91 : ACode :=
 .seq (.reg [Yi 3 (.mov (.c (.bool false)))])
 (.seq (.reg [Yi 4 (.mov (.t 0)), Yi 5 (.bin .lss false (.t 4) (.c (.int .i64 0))), Yi 6 (.mov (.t 5)), Yj 7 6 false (.mov (.t 0)), Yj 8 6 false (.fldA 1 (.t 1)), Yj 9 6 false (.load false 1 (.t 8)), Yj 10 6 false (.len (.t 9)), Yj 11 6 false (.bin .geq false (.t 7) (.t 10)), Yi 12 (.pick (.t 6) (.c (.bool true)) (.t 11)),
 Yi 3 (.mov (.t 12))])
 (.ret))
def r91 : List ARV := [.tmp 3]
theorem b91 : Try.f91.body.bind (tr Try.prog 13) = some c91.bare := by kernel_rfl
theorem q91 : trRes Try.prog Try.f91.results.toList = some r91 := by kernel_rfl
theorem n91 : (Try.f91.name == "runtime.NumGoroutine") = false := by kernel_rfl

def c92 : ACode :=
 .seq (.reg [Yi 1 (.box (.t 0)), Yi 2 (.mov (.c (.int .i64 0)))])
 (.seq (.reg [Yi 7 (.mkfn 115 [] [(.t 1)]), Yi 3 (.mov (.t 7))])
 (.seq (.reg [Yi 8 (.mkfn 116 [] [(.t 1)]), Yi 4 (.mov (.t 8))])
 (.seq (.block 0 (.seq (.reg [Yi 10 (.load false 1 (.t 1)), Yi 11 (.nilchk (.t 10)), Yi 12 (.fldA 0 (.t 11)), Yi 13 (.fldA 0 (.t 12)), Yi 14 (.load false 1 (.t 13)), Yi 15 (.bin .lss false (.t 14) (.c (.int .i64 0))), Yi 9 (.mov (.t 15))])
 (.cond (.t 9)
 (.seq (.reg [Yi 2 (.mov (.c (.int .i64 1)))])
 (.ret))
 (.seq (.seq (.reg [Yi 17 (.load false 1 (.t 1)), Yi 18 (.nilchk (.t 17)), Yi 19 (.fldA 0 (.t 18)), Yi 20 (.fldA 0 (.t 19)), Yi 21 (.load false 1 (.t 20)), Yi 22 (.bin .gtr false (.t 21) (.c (.int .i64 65536))), Yi 16 (.mov (.t 22))])
 (.cond (.t 16)
 (.skip)
 (.seq (.reg [Yi 23 (.load false 1 (.t 1)), Yi 24 (.call (.c (.fn 105 [] [])) [(.t 23)]), Yi 25 (.bin .gtr false (.t 24) (.c (.int .i64 65536))), Yi 16 (.mov (.t 25))])
 (.cond (.t 16)
 (.skip)
 (.reg [Yi 26 (.load false 1 (.t 1)), Yi 27 (.nilchk (.t 26)), Yi 28 (.fldA 0 (.t 27)), Yi 29 (.fldA 3 (.t 28)), Yi 30 (.load false 1 (.t 29)), Yi 31 (.len (.t 30)), Yi 32 (.bin .gtr false (.t 31) (.c (.int .i64 65536))), Yi 16 (.mov (.t 32))])))))
 (.cond (.t 16)
 (.seq (.reg [Yi 2 (.mov (.c (.int .i64 2)))])
 (.ret))
 (.seq (.seq (.reg [Yi 34 (.load false 1 (.t 1)), Yi 35 (.nilchk (.t 34)), Yi 36 (.fldA 0 (.t 35)), Yi 37 (.fldA 1 (.t 36)), Yi 38 (.load false 1 (.t 37)), Yi 39 (.mov (.t 3)), Yi 40 (.call (.c (.fn 117 [] [])) [(.t 38), (.t 39)]), Yi 33 (.mov (.t 40))])
 (.cond (.t 33)
 (.skip)
 (.reg [Yi 41 (.load false 1 (.t 1)), Yi 42 (.nilchk (.t 41)), Yi 43 (.fldA 0 (.t 42)), Yi 44 (.fldA 3 (.t 43)), Yi 45 (.load false 1 (.t 44)), Yi 46 (.mov (.t 4)), Yi 47 (.call (.c (.fn 90 [] [])) [(.t 45), (.t 46)]), Yi 33 (.mov (.t 47))])))
 (.cond (.t 33)
 (.seq (.reg [Yi 2 (.mov (.c (.int .i64 1)))])
 (.ret))
 (.skip))))))))
 (.seq (.seq (.reg [Yi 48 (.load false 1 (.t 1)), Yi 49 (.nilchk (.t 48)), Yi 50 (.fldA 0 (.t 49)), Yi 51 (.fldA 2 (.t 50)), Yi 52 (.load false 1 (.t 51)), Yi 53 (.len (.t 52)), Yi 54 (.mov (.c (.int .i64 0)))])
 (.block 1 (.loop (.seq (.reg [Yi 55 (.bin .lss false (.t 54) (.t 53))])
 (.seq (.cond (.t 55)
 (.skip)
 (.exit 1))
 (.seq (.block 2 (.seq (.reg [Yi 56 (.mov (.t 54)), Yi 57 (.idxS 2 (.t 52) (.t 54)), Yi 58 (.load true 2 (.t 57)), Yi 6 (.alloc [(.int .i64 0), (.int .i64 0)]), Yi 5 (.mov (.t 56)), ⟨none, .store 2 (.t 6) (.t 58), none⟩])
 (.seq (.drw [Yi 59 (.idxR 1 2 (.t 6) (.c (.int .i64 0))), Yi 60 (.load false 1 (.t 59)), Yi 61 (.idxR 1 2 (.t 6) (.c (.int .i64 1))), Yi 62 (.load false 1 (.t 61)), Yi 63 (.min [(.t 60), (.t 62)]), Yi 64 (.bin .lss false (.t 63) (.c (.int .i64 0))), Yi 65 (.mov (.t 64)), Yj 66 65 false (.idxR 1 2 (.t 6) (.c (.int .i64 0))),
 Yj 67 65 false (.load false 1 (.t 66)), Yj 68 65 false (.idxR 1 2 (.t 6) (.c (.int .i64 1))), Yj 69 65 false (.load false 1 (.t 68)), Yj 70 65 false (.max [(.t 67), (.t 69)]), Yj 71 65 false (.load false 1 (.t 1)), Yj 72 65 false (.call (.c (.fn 104 [] [])) [(.t 71)]), Yj 73 65 false (.mov (.t 5)),
 Yj 74 65 false (.bin .add false (.t 72) (.t 73)), Yj 75 65 false (.bin .mul false (.c (.int .i64 2)) (.t 74)), Yj 76 65 false (.bin .geq false (.t 70) (.t 75)), Yi 77 (.pick (.t 65) (.c (.bool true)) (.t 76))] [(8, 13), (10, 13)])
 (.cond (.t 77)
 (.seq (.reg [Yi 2 (.mov (.c (.int .i64 1)))])
 (.ret))
 (.skip)))))
 (.reg [Yi 78 (.bin .add false (.t 54) (.c (.int .i64 1))), Yi 54 (.mov (.t 78))])))))))
 (.seq (.reg [Yi 2 (.mov (.c (.int .i64 0)))])
 (.ret))))))
def r92 : List ARV := [.tmp 2]
theorem b92 : Try.f92.body.bind (tr Try.prog 79) = some c92.bare := by kernel_rfl
theorem q92 : trRes Try.prog Try.f92.results.toList = some r92 := by kernel_rfl
theorem n92 : (Try.f92.name == "runtime.NumGoroutine") = false := by kernel_rfl

def c93 : ACode :=
 .seq (.reg [Yi 4 (.mov (.c (.bool false)))])
 (.seq (.reg [Yi 5 (.mov (.t 1)), Yi 6 (.bin .geq false (.t 5) (.c (.int .i64 0))), Yi 7 (.mov (.t 6)), Yj 8 7 true (.mov (.t 1)), Yj 9 7 true (.bin .quo false (.t 8) (.c (.int .i64 2))), Yj 10 7 true (.mov (.t 0)), Yj 11 7 true (.call (.c (.fn 105 [] [])) [(.t 10)]), Yj 12 7 true (.bin .leq false (.t 9) (.t 11)),
 Yi 13 (.pick (.t 7) (.t 12) (.c (.bool false))), Yi 4 (.mov (.t 13))])
 (.ret))
def r93 : List ARV := [.tmp 4]
theorem b93 : Try.f93.body.bind (tr Try.prog 14) = some c93.bare := by kernel_rfl
theorem q93 : trRes Try.prog Try.f93.results.toList = some r93 := by kernel_rfl
theorem n93 : (Try.f93.name == "runtime.NumGoroutine") = false := by kernel_rfl

def c95 : ACode :=
 .seq (.reg [Yi 4 (.mov (.c (.int .i64 0)))])
 (.seq (.seq (.reg [Yi 5 (.mov (.t 1)), Yi 6 (.bin .lss false (.t 5) (.c (.int .i64 2)))])
 (.cond (.t 6)
 (.seq (.reg [Yi 7 (.mov (.t 0)), Yi 8 (.nilchk (.t 7)), Yi 9 (.fldA 0 (.t 8)), Yi 10 (.fldA 0 (.t 9)), Yi 11 (.load false 1 (.t 10)), Yi 4 (.mov (.t 11))])
 (.ret))
 (.skip)))
 (.seq (.reg [Yi 12 (.mov (.t 0)), Yi 13 (.nilchk (.t 12)), Yi 14 (.fldA 0 (.t 13)), Yi 15 (.fldA 1 (.t 14)), Yi 16 (.load false 1 (.t 15)), Yi 17 (.mov (.t 1)), Yi 18 (.idxS 3 (.t 16) (.t 17)), Yi 19 (.fldA 0 (.t 18)), Yi 20 (.load false 1 (.t 19)), Yi 4 (.mov (.t 20))])
 (.ret)))
def r95 : List ARV := [.tmp 4]
theorem b95 : Try.f95.body.bind (tr Try.prog 21) = some c95.bare := by kernel_rfl
theorem q95 : trRes Try.prog Try.f95.results.toList = some r95 := by kernel_rfl
theorem n95 : (Try.f95.name == "runtime.NumGoroutine") = false := by kernel_rfl

def c96 : ACode :=
 .seq (.reg [Yi 8 (.mov (.c (.int .i64 0)))])
 (.seq (.seq (.reg [Yi 9 (.mov (.t 0)), Yi 10 (.mov (.t 1)), Yi 11 (.call (.c (.fn 95 [] [])) [(.t 9), (.t 10)]), Yi 12 (.mov (.t 2)), Yi 13 (.bin .neq false (.t 11) (.t 12))])
 (.cond (.t 13)
 (.seq (.reg [Yi 14 (.mov (.t 1)), Yi 8 (.mov (.t 14))])
 (.ret))
 (.skip)))
 (.seq (.drw [Yi 15 (.mov (.t 0)), Yi 16 (.nilchk (.t 15)), Yi 17 (.fldA 0 (.t 16)), Yi 18 (.fldA 1 (.t 17)), Yi 19 (.load false 1 (.t 18)), Yi 20 (.mov (.t 1)), Yi 21 (.idxS 3 (.t 19) (.t 20)), Yi 22 (.fldA 1 (.t 21)), Yi 23 (.load false 1 (.t 22)), Yi 24 (.mov (.t 0)), Yi 25 (.nilchk (.t 24)), Yi 26 (.fldA 0 (.t 25)),
 Yi 27 (.fldA 1 (.t 26)), Yi 28 (.load false 1 (.t 27)), Yi 29 (.mov (.t 1)), Yi 30 (.idxS 3 (.t 28) (.t 29)), Yi 31 (.fldA 2 (.t 30)), Yi 32 (.load false 1 (.t 31)), Yi 33 (.build [(.int .i64 0), (.int .i64 0)] [(0, 1, (.t 23)), (1, 1, (.t 32))]), Yi 34 (.mov (.t 3)), Yi 35 (.idxV false 1 2 (.t 33) (.t 34)),
 Yi 8 (.mov (.t 35))] [])
 (.ret)))
def r96 : List ARV := [.tmp 8]
theorem b96 : Try.f96.body.bind (tr Try.prog 36) = some c96.bare := by kernel_rfl
theorem q96 : trRes Try.prog Try.f96.results.toList = some r96 := by kernel_rfl
theorem n96 : (Try.f96.name == "runtime.NumGoroutine") = false := by kernel_rfl

def c97 : ACode :=
 .seq (.reg [Yi 2 (.mov (.c (.slice [] .nil)))])
 (.seq (.reg [Yi 3 (.mov (.c (.int .i64 0)))])
 (.seq (.seq (.reg [Yi 9 (.mov (.t 0)), Yi 10 (.len (.t 9)), Yi 11 (.mov (.c (.int .i64 0)))])
 (.block 0 (.loop (.seq (.reg [Yi 12 (.bin .lss false (.t 11) (.t 10))])
 (.seq (.cond (.t 12)
 (.skip)
 (.exit 0))
 (.seq (.block 1 (.seq (.reg [Yi 13 (.idxS 1 (.t 9) (.t 11)), Yi 14 (.load false 1 (.t 13)), Yi 5 (.mov (.t 14))])
 (.seq (.reg [Yi 15 (.mov (.t 3)), Yi 16 (.mov (.t 5)), Yi 17 (.len (.t 16)), Yi 18 (.bin .add false (.t 15) (.t 17)), Yi 3 (.mov (.t 18))])
 (.seq (.reg [Yi 19 (.mov (.t 3)), Yi 20 (.bin .lss false (.t 19) (.c (.int .i64 0)))])
 (.cond (.t 20)
 (.reg [Yi 21 (.mkiface 9 (.c (.str ⟨#[108, 101, 110, 32, 111, 117, 116, 32, 111, 102, 32, 114, 97, 110, 103, 101]⟩))), ⟨none, .panic (.t 21), none⟩])
 (.skip))))))
 (.reg [Yi 22 (.bin .add false (.t 11) (.c (.int .i64 1))), Yi 11 (.mov (.t 22))])))))))
 (.seq (.reg [Yi 23 (.mov (.t 3)), Yi 24 (.call (.c (.fn 118 [] [])) [(.c (.slice [] .nil)), (.t 23)]), Yi 6 (.mov (.t 24))])
 (.seq (.seq (.reg [Yi 25 (.mov (.t 0)), Yi 26 (.len (.t 25)), Yi 27 (.mov (.c (.int .i64 0)))])
 (.block 2 (.loop (.seq (.reg [Yi 28 (.bin .lss false (.t 27) (.t 26))])
 (.seq (.cond (.t 28)
 (.skip)
 (.exit 2))
 (.seq (.block 3 (.seq (.reg [Yi 29 (.idxS 1 (.t 25) (.t 27)), Yi 30 (.load false 1 (.t 29)), Yi 8 (.mov (.t 30))])
 (.reg [Yi 31 (.mov (.t 6)), Yi 32 (.mov (.t 8)), Yi 33 (.append 2 16 (.t 31) (.t 32)), Yi 6 (.mov (.t 33))])))
 (.reg [Yi 34 (.bin .add false (.t 27) (.c (.int .i64 1))), Yi 27 (.mov (.t 34))])))))))
 (.seq (.reg [Yi 35 (.mov (.t 6)), Yi 2 (.mov (.t 35))])
 (.ret))))))
def r97 : List ARV := [.tmp 2]
theorem b97 : Try.f97.body.bind (tr Try.prog 36) = some c97.bare := by kernel_rfl
theorem q97 : trRes Try.prog Try.f97.results.toList = some r97 := by kernel_rfl
theorem n97 : (Try.f97.name == "runtime.NumGoroutine") = false := by kernel_rfl

def c98 : ACode :=
 .seq (.reg [Yi 1 (.boxI (.t 0)), Yi 2 (.mov (.c (.int .i64 0)))])
 (.seq (.seq (.reg [Yi 5 (.fldA 1 (.t 1)), Yi 6 (.load false 1 (.t 5)), Yi 7 (.len (.t 6)), Yi 8 (.bin .gtr false (.t 7) (.c (.int .i64 65536)))])
 (.cond (.t 8)
 (.seq (.reg [Yi 2 (.mov (.c (.int .i64 220)))])
 (.ret))
 (.skip)))
 (.seq (.reg [Yi 9 (.build [(.int .i64 0), (.int .i64 0), (.int .i64 0)] [(0, 1, (.c (.int .i64 (-1))))]), Yi 3 (.alloc [(.int .i64 0), (.int .i64 0), (.int .i64 0)]), ⟨none, .store 3 (.t 3) (.t 9), none⟩])
 (.seq (.seq (.drw [Yi 10 (.fldA 0 (.t 1)), Yi 11 (.load false 1 (.t 10)), Yi 12 (.bin .lss false (.t 11) (.c (.int .i64 0))), Yi 13 (.mov (.t 12)), Yj 14 13 false (.fldA 0 (.t 1)), Yj 15 13 false (.load false 1 (.t 14)), Yj 16 13 false (.bin .gtr false (.t 15) (.c (.int .i64 32))), Yi 17 (.pick (.t 13) (.c (.bool true)) (.t 16)),
 Yi 18 (.mov (.t 17)), Yj 19 18 false (.fldA 1 (.t 1)), Yj 20 18 false (.load false 1 (.t 19)), Yj 21 18 false (.len (.t 20)), Yj 22 18 false (.bin .lss false (.t 21) (.c (.int .i64 2))), Yi 23 (.pick (.t 18) (.c (.bool true)) (.t 22)), Yi 24 (.mov (.t 23)), Yj 25 24 false (.fldA 1 (.t 1)), Yj 26 24 false (.load false 1 (.t 25)),
 Yj 27 24 false (.idxS 3 (.t 26) (.c (.int .i64 0))), Yj 28 24 false (.load true 3 (.t 27)), Yj 29 24 false (.load true 3 (.t 3)), Yj 30 24 false (.eqs true [0, 0, 0] (.t 28) (.t 29)), Yi 31 (.pick (.t 24) (.c (.bool true)) (.t 30)), Yi 32 (.mov (.t 31)), Yj 33 32 false (.fldA 1 (.t 1)), Yj 34 32 false (.load false 1 (.t 33)),
 Yj 35 32 false (.idxS 3 (.t 34) (.c (.int .i64 1))), Yj 36 32 false (.load true 3 (.t 35)), Yj 37 32 false (.load true 3 (.t 3)), Yj 38 32 false (.eqs true [0, 0, 0] (.t 36) (.t 37)), Yi 39 (.pick (.t 32) (.c (.bool true)) (.t 38))] [])
 (.cond (.t 39)
 (.seq (.reg [Yi 2 (.mov (.c (.int .i64 1)))])
 (.ret))
 (.skip)))
 (.seq (.seq (.reg [Yi 4 (.mov (.c (.int .i64 2)))])
 (.block 0 (.loop (.seq (.seq (.reg [Yi 40 (.mov (.t 4)), Yi 41 (.fldA 1 (.t 1)), Yi 42 (.load false 1 (.t 41)), Yi 43 (.len (.t 42)), Yi 44 (.bin .lss false (.t 40) (.t 43))])
 (.cond (.t 44)
 (.skip)
 (.exit 0)))
 (.seq (.block 1 (.seq (.reg [Yi 47 (.load true 2 (.t 1)), Yi 48 (.mov (.t 4)), Yi 49 (.call (.c (.fn 119 [] [])) [(.t 47), (.t 48)]), Yi 50 (.un .not (.t 49))])
 (.cond (.t 50)
 (.seq (.reg [Yi 2 (.mov (.c (.int .i64 1)))])
 (.ret))
 (.skip))))
 (.reg [Yi 45 (.mov (.t 4)), Yi 46 (.bin .add false (.t 45) (.c (.int .i64 1))), Yi 4 (.mov (.t 46))]))))))
 (.seq (.reg [Yi 2 (.mov (.c (.int .i64 0)))])
 (.ret))))))
def r98 : List ARV := [.tmp 2]
theorem b98 : Try.f98.body.bind (tr Try.prog 51) = some c98.bare := by kernel_rfl
theorem q98 : trRes Try.prog Try.f98.results.toList = some r98 := by kernel_rfl
theorem n98 : (Try.f98.name == "runtime.NumGoroutine") = false := by kernel_rfl

def c102 : ACode :=
 .seq (.reg [Yi 4 (.mov (.c (.int .i64 0)))])
 (.seq (.seq (.reg [Yi 6 (.mov (.t 0)), Yi 7 (.len (.t 6)), Yi 8 (.mov (.c (.int .i64 0)))])
 (.block 0 (.loop (.seq (.reg [Yi 9 (.bin .lss false (.t 8) (.t 7))])
 (.seq (.cond (.t 9)
 (.skip)
 (.exit 0))
 (.seq (.block 1 (.seq (.reg [Yi 10 (.mov (.t 8)), Yi 5 (.mov (.t 10))])
 (.seq (.reg [Yi 11 (.mov (.t 1)), Yi 12 (.mov (.t 0)), Yi 13 (.mov (.t 5)), Yi 14 (.idxS 2 (.t 12) (.t 13)), Yi 15 (.load true 2 (.t 14)), Yi 16 (.call (.t 11) [(.t 15)])])
 (.cond (.t 16)
 (.seq (.reg [Yi 17 (.mov (.t 5)), Yi 4 (.mov (.t 17))])
 (.ret))
 (.skip)))))
 (.reg [Yi 18 (.bin .add false (.t 8) (.c (.int .i64 1))), Yi 8 (.mov (.t 18))])))))))
 (.seq (.reg [Yi 4 (.mov (.c (.int .i64 (-1))))])
 (.ret)))
def r102 : List ARV := [.tmp 4]
theorem b102 : Try.f102.body.bind (tr Try.prog 19) = some c102.bare := by kernel_rfl
theorem q102 : trRes Try.prog Try.f102.results.toList = some r102 := by kernel_rfl
theorem n102 : (Try.f102.name == "runtime.NumGoroutine") = false := by kernel_rfl

def c103 : ACode :=
 .seq (.reg [Yi 3 (.boxI (.t 0)), Yi 4 (.mov (.c (.bool false)))])
 (.seq (.reg [Yi 5 (.idxR 1 2 (.t 3) (.c (.int .i64 0))), Yi 6 (.load false 1 (.t 5)), Yi 7 (.idxR 1 2 (.t 3) (.c (.int .i64 1))), Yi 8 (.load false 1 (.t 7)), Yi 9 (.min [(.t 6), (.t 8)]), Yi 10 (.load false 1 (.t 1)), Yi 11 (.bin .eql false (.t 9) (.t 10)), Yi 12 (.mov (.t 11)), Yj 13 12 true (.idxR 1 2 (.t 3) (.c (.int .i64 0))),
 Yj 14 12 true (.load false 1 (.t 13)), Yj 15 12 true (.idxR 1 2 (.t 3) (.c (.int .i64 1))), Yj 16 12 true (.load false 1 (.t 15)), Yj 17 12 true (.max [(.t 14), (.t 16)]), Yj 18 12 true (.load false 1 (.t 2)), Yj 19 12 true (.bin .eql false (.t 17) (.t 18)), Yi 20 (.pick (.t 12) (.t 19) (.c (.bool false))),
 Yi 4 (.mov (.t 20))])
 (.ret))
def r103 : List ARV := [.tmp 4]
theorem b103 : Try.f103.body.bind (tr Try.prog 21) = some c103.bare := by kernel_rfl
theorem q103 : trRes Try.prog Try.f103.results.toList = some r103 := by kernel_rfl
theorem n103 : (Try.f103.name == "runtime.NumGoroutine") = false := by kernel_rfl

def c104 : ACode :=
 .seq (.reg [Yi 2 (.mov (.c (.int .i64 0)))])
 (.seq (.drw [Yi 3 (.mov (.t 0)), Yi 4 (.nilchk (.t 3)), Yi 5 (.fldA 0 (.t 4)), Yi 6 (.fldA 0 (.t 5)), Yi 7 (.load false 1 (.t 6)), Yi 8 (.bin .add false (.c (.int .i64 1)) (.t 7)), Yi 9 (.mov (.t 0)), Yi 10 (.nilchk (.t 9)), Yi 11 (.fldA 0 (.t 10)), Yi 12 (.fldA 1 (.t 11)), Yi 13 (.load false 1 (.t 12)),
 Yi 14 (.len (.t 13)), Yi 15 (.bin .add false (.t 8) (.t 14)), Yi 2 (.mov (.t 15))] [])
 (.ret))
def r104 : List ARV := [.tmp 2]
theorem b104 : Try.f104.body.bind (tr Try.prog 16) = some c104.bare := by kernel_rfl
theorem q104 : trRes Try.prog Try.f104.results.toList = some r104 := by kernel_rfl
theorem n104 : (Try.f104.name == "runtime.NumGoroutine") = false := by kernel_rfl

def c105 : ACode :=
 .seq (.reg [Yi 2 (.mov (.c (.int .i64 0)))])
 (.seq (.drw [Yi 3 (.mov (.t 0)), Yi 4 (.nilchk (.t 3)), Yi 5 (.fldA 0 (.t 4)), Yi 6 (.fldA 0 (.t 5)), Yi 7 (.load false 1 (.t 6)), Yi 8 (.mov (.t 0)), Yi 9 (.nilchk (.t 8)), Yi 10 (.fldA 0 (.t 9)), Yi 11 (.fldA 1 (.t 10)), Yi 12 (.load false 1 (.t 11)), Yi 13 (.len (.t 12)), Yi 14 (.bin .add false (.t 7) (.t 13)),
 Yi 15 (.mov (.t 0)), Yi 16 (.nilchk (.t 15)), Yi 17 (.fldA 0 (.t 16)), Yi 18 (.fldA 2 (.t 17)), Yi 19 (.load false 1 (.t 18)), Yi 20 (.len (.t 19)), Yi 21 (.bin .add false (.t 14) (.t 20)), Yi 2 (.mov (.t 21))] [])
 (.ret))
def r105 : List ARV := [.tmp 2]
theorem b105 : Try.f105.body.bind (tr Try.prog 22) = some c105.bare := by kernel_rfl
theorem q105 : trRes Try.prog Try.f105.results.toList = some r105 := by kernel_rfl
theorem n105 : (Try.f105.name == "runtime.NumGoroutine") = false := by kernel_rfl

def c106 : ACode :=
 .seq (.reg [Yi 2 (.mov (.c (.slice [] .nil)))])
 (.seq (.reg [Yi 3 (.mov (.t 0)), Yi 4 (.mov (.t 0)), Yi 5 (.len (.t 4)), Yi 6 (.mov (.t 0)), Yi 7 (.len (.t 6)), Yi 8 (.slc 2 (.t 3) none (some (.t 5)) (some (.t 7))), Yi 2 (.mov (.t 8))])
 (.ret))
def r106 : List ARV := [.tmp 2]
theorem b106 : Try.f106.body.bind (tr Try.prog 9) = some c106.bare := by kernel_rfl
theorem q106 : trRes Try.prog Try.f106.results.toList = some r106 := by kernel_rfl
theorem n106 : (Try.f106.name == "runtime.NumGoroutine") = false := by kernel_rfl

def c107 : ACode :=
 .seq (.reg [Yi 3 (.boxI (.t 0)), Yi 6 (.mov (.c (.int .i64 0)))])
 (.seq (.seq (.reg [Yi 7 (.mov (.c (.int .i64 0)))])
 (.block 0 (.loop (.seq (.seq (.reg [Yi 9 (.mov (.t 7)), Yi 10 (.fldA 2 (.t 3)), Yi 11 (.load false 1 (.t 10)), Yi 12 (.len (.t 11)), Yi 13 (.bin .lss false (.t 9) (.t 12))])
 (.cond (.t 13)
 (.skip)
 (.exit 0)))
 (.seq (.block 1 (.seq (.reg [Yi 16 (.fldA 2 (.t 3)), Yi 17 (.load false 1 (.t 16)), Yi 18 (.mov (.t 7)), Yi 19 (.idxS 2 (.t 17) (.t 18)), Yi 20 (.load true 2 (.t 19)), Yi 8 (.alloc [(.int .i64 0), (.int .i64 0)]), ⟨none, .store 2 (.t 8) (.t 20), none⟩])
 (.seq (.reg [Yi 21 (.idxR 1 2 (.t 8) (.c (.int .i64 0))), Yi 22 (.load false 1 (.t 21)), Yi 23 (.mov (.t 1)), Yi 24 (.bin .eql false (.t 22) (.t 23)), Yi 25 (.mov (.t 24)), Yj 26 25 true (.idxR 1 2 (.t 8) (.c (.int .i64 1))), Yj 27 25 true (.load false 1 (.t 26)), Yj 28 25 true (.mov (.t 2)), Yj 29 25 true (.bin .eql false (.t 27) (.t 28)),
 Yi 30 (.pick (.t 25) (.t 29) (.c (.bool false))), Yi 31 (.mov (.t 30)), Yj 32 31 false (.idxR 1 2 (.t 8) (.c (.int .i64 0))), Yj 33 31 false (.load false 1 (.t 32)), Yj 34 31 false (.mov (.t 2)), Yj 35 31 false (.bin .eql false (.t 33) (.t 34)), Yj 36 31 false (.mov (.t 35)), Yj 37 36 true (.idxR 1 2 (.t 8) (.c (.int .i64 1))),
 Yj 38 36 true (.load false 1 (.t 37)), Yj 39 36 true (.mov (.t 1)), Yj 40 36 true (.bin .eql false (.t 38) (.t 39)), Yj 41 31 false (.pick (.t 36) (.t 40) (.c (.bool false))), Yi 42 (.pick (.t 31) (.c (.bool true)) (.t 41))])
 (.cond (.t 42)
 (.seq (.reg [Yi 43 (.mov (.t 7)), Yi 6 (.mov (.t 43))])
 (.ret))
 (.skip)))))
 (.reg [Yi 14 (.mov (.t 7)), Yi 15 (.bin .add false (.t 14) (.c (.int .i64 1))), Yi 7 (.mov (.t 15))]))))))
 (.seq (.reg [Yi 6 (.mov (.c (.int .i64 (-1))))])
 (.ret)))
def r107 : List ARV := [.tmp 6]
theorem b107 : Try.f107.body.bind (tr Try.prog 44) = some c107.bare := by kernel_rfl
theorem q107 : trRes Try.prog Try.f107.results.toList = some r107 := by kernel_rfl
theorem n107 : (Try.f107.name == "runtime.NumGoroutine") = false := by kernel_rfl

def c108 : ACode :=
 .seq (.reg [Yi 5 (.boxI (.t 0)), Yi 10 (.alloc [(.int .i64 0), (.slice [] .nil), (.slice [] .nil), (.slice [] .nil)]), Yi 11 (.mov (.c (.int .i64 0))), Yi 12 (.mov (.c (.int .i64 0)))])
 (.seq (.reg [Yi 20 (.load true 4 (.t 5)), Yi 21 (.mov (.t 1)), Yi 22 (.mov (.t 2)), Yi 23 (.call (.c (.fn 85 [] [])) [(.t 20), (.t 21), (.t 22)]), Yi 19 (.mov (.t 23)), Yi 24 (.extract (.t 19) 0), Yi 25 (.extract (.t 19) 1), Yi 26 (.extract (.t 19) 2), Yi 13 (.alloc [(.int .i64 0), (.slice [] .nil), (.slice [] .nil), (.slice [] .nil)]),
 ⟨none, .store 4 (.t 13) (.t 24), none⟩, Yi 14 (.mov (.t 25)), Yi 15 (.mov (.t 26))])
 (.seq (.seq (.reg [Yi 27 (.mov (.t 15)), Yi 28 (.bin .neq false (.t 27) (.c (.int .i64 0)))])
 (.cond (.t 28)
 (.seq (.reg [Yi 29 (.build [(.int .i64 0), (.slice [] .nil), (.slice [] .nil), (.slice [] .nil)] []), Yi 30 (.mov (.t 15)), ⟨none, .store 4 (.t 10) (.t 29), none⟩, Yi 11 (.mov (.c (.int .i64 0))), Yi 12 (.mov (.t 30))])
 (.ret))
 (.skip)))
 (.seq (.reg [Yi 32 (.load true 4 (.t 13)), Yi 33 (.mov (.t 3)), Yi 34 (.mov (.t 4)), Yi 35 (.call (.c (.fn 85 [] [])) [(.t 32), (.t 33), (.t 34)]), Yi 31 (.mov (.t 35)), Yi 36 (.extract (.t 31) 0), Yi 37 (.extract (.t 31) 1), Yi 38 (.extract (.t 31) 2), Yi 16 (.alloc [(.int .i64 0), (.slice [] .nil), (.slice [] .nil), (.slice [] .nil)]),
 ⟨none, .store 4 (.t 16) (.t 36), none⟩, Yi 17 (.mov (.t 37)), Yi 18 (.mov (.t 38))])
 (.seq (.seq (.reg [Yi 39 (.mov (.t 18)), Yi 40 (.bin .neq false (.t 39) (.c (.int .i64 0)))])
 (.cond (.t 40)
 (.seq (.reg [Yi 41 (.build [(.int .i64 0), (.slice [] .nil), (.slice [] .nil), (.slice [] .nil)] []), Yi 42 (.mov (.t 18)), ⟨none, .store 4 (.t 10) (.t 41), none⟩, Yi 11 (.mov (.c (.int .i64 0))), Yi 12 (.mov (.t 42))])
 (.ret))
 (.skip)))
 (.seq (.reg [Yi 43 (.load true 4 (.t 16)), Yi 44 (.mov (.t 14)), Yi 45 (.mov (.t 17)), Yi 46 (.call (.c (.fn 109 [] [])) [(.t 43), (.t 44), (.t 45)]), Yi 47 (.extract (.t 46) 0), Yi 48 (.extract (.t 46) 1), Yi 49 (.extract (.t 46) 2), ⟨none, .store 4 (.t 10) (.t 47), none⟩, Yi 11 (.mov (.t 48)), Yi 12 (.mov (.t 49))])
 (.ret))))))
def r108 : List ARV := [.cell 10 true 4, .tmp 11, .tmp 12]
theorem b108 : Try.f108.body.bind (tr Try.prog 50) = some c108.bare := by kernel_rfl
theorem q108 : trRes Try.prog Try.f108.results.toList = some r108 := by kernel_rfl
theorem n108 : (Try.f108.name == "runtime.NumGoroutine") = false := by kernel_rfl

def c109 : ACode :=
 .seq (.reg [Yi 3 (.boxI (.t 0)), Yi 6 (.alloc [(.int .i64 0), (.slice [] .nil), (.slice [] .nil), (.slice [] .nil)]), Yi 7 (.mov (.c (.int .i64 0))), Yi 8 (.mov (.c (.int .i64 0)))])
 (.seq (.reg [Yi 13 (.load true 4 (.t 3)), Yi 14 (.mov (.t 1)), Yi 15 (.bin .xor false (.t 14) (.c (.int .i64 1))), Yi 16 (.mov (.t 2)), Yi 17 (.bin .xor false (.t 16) (.c (.int .i64 1))), Yi 18 (.call (.c (.fn 85 [] [])) [(.t 13), (.t 15), (.t 17)]), Yi 12 (.mov (.t 18)), Yi 19 (.extract (.t 12) 0),
 Yi 20 (.extract (.t 12) 1), Yi 21 (.extract (.t 12) 2), Yi 9 (.alloc [(.int .i64 0), (.slice [] .nil), (.slice [] .nil), (.slice [] .nil)]), ⟨none, .store 4 (.t 9) (.t 19), none⟩, Yi 10 (.mov (.t 20)), Yi 11 (.mov (.t 21))])
 (.seq (.seq (.reg [Yi 22 (.mov (.t 11)), Yi 23 (.bin .neq false (.t 22) (.c (.int .i64 0)))])
 (.cond (.t 23)
 (.seq (.reg [Yi 24 (.build [(.int .i64 0), (.slice [] .nil), (.slice [] .nil), (.slice [] .nil)] []), Yi 25 (.mov (.t 11)), ⟨none, .store 4 (.t 6) (.t 24), none⟩, Yi 7 (.mov (.c (.int .i64 0))), Yi 8 (.mov (.t 25))])
 (.ret))
 (.skip)))
 (.seq (.reg [Yi 26 (.load true 4 (.t 9)), Yi 27 (.mov (.t 10)), Yi 28 (.bin .xor false (.t 27) (.c (.int .i64 1))), ⟨none, .store 4 (.t 6) (.t 26), none⟩, Yi 7 (.mov (.t 28)), Yi 8 (.mov (.c (.int .i64 0)))])
 (.ret))))
def r109 : List ARV := [.cell 6 true 4, .tmp 7, .tmp 8]
theorem b109 : Try.f109.body.bind (tr Try.prog 29) = some c109.bare := by kernel_rfl
theorem q109 : trRes Try.prog Try.f109.results.toList = some r109 := by kernel_rfl
theorem n109 : (Try.f109.name == "runtime.NumGoroutine") = false := by kernel_rfl

def c110 : ACode :=
 .seq (.reg [Yi 3 (.boxI (.t 0)), Yi 6 (.mov (.c (.slice [] .nil))), Yi 7 (.mov (.c (.int .i64 0)))])
 (.seq (.seq (.reg [Yi 12 (.load true 4 (.t 3)), Yi 13 (.call (.c (.fn 33 [] [])) [(.t 12)]), Yi 8 (.mov (.t 13))])
 (.seq (.reg [Yi 14 (.mov (.t 8)), Yi 15 (.bin .neq false (.t 14) (.c (.int .i64 0)))])
 (.cond (.t 15)
 (.seq (.reg [Yi 16 (.mov (.t 8)), Yi 6 (.mov (.c (.slice [] .nil))), Yi 7 (.mov (.t 16))])
 (.ret))
 (.skip))))
 (.seq (.seq (.reg [Yi 17 (.mov (.t 1)), Yi 18 (.len (.t 17)), Yi 19 (.fldA 0 (.t 3)), Yi 20 (.load false 1 (.t 19)), Yi 21 (.bin .neq false (.t 18) (.t 20)), Yi 22 (.mov (.t 21)), Yj 23 22 false (.mov (.t 2)), Yj 24 22 false (.len (.t 23)), Yj 25 22 false (.fldA 1 (.t 3)), Yj 26 22 false (.load false 1 (.t 25)),
 Yj 27 22 false (.len (.t 26)), Yj 28 22 false (.bin .neq false (.t 24) (.t 27)), Yi 29 (.pick (.t 22) (.c (.bool true)) (.t 28))])
 (.cond (.t 29)
 (.seq (.reg [Yi 6 (.mov (.c (.slice [] .nil))), Yi 7 (.mov (.c (.int .i64 1)))])
 (.ret))
 (.skip)))
 (.seq (.reg [Yi 30 (.bslice 1 [(.c (.bool false))]), Yi 31 (.mov (.t 1)), Yi 32 (.mov (.t 2)), Yi 33 (.bslice 1 [(.t 30), (.t 31), (.t 32)]), Yi 34 (.call (.c (.fn 122 [] [])) [(.t 33)]), Yi 9 (.mov (.t 34))])
 (.seq (.seq (.reg [Yi 35 (.fldA 2 (.t 3)), Yi 36 (.load false 1 (.t 35)), Yi 37 (.len (.t 36)), Yi 38 (.mov (.c (.int .i64 0)))])
 (.block 0 (.loop (.seq (.reg [Yi 39 (.bin .lss false (.t 38) (.t 37))])
 (.seq (.cond (.t 39)
 (.skip)
 (.exit 0))
 (.seq (.block 1 (.seq (.reg [Yi 40 (.idxS 2 (.t 36) (.t 38)), Yi 41 (.load true 2 (.t 40)), Yi 11 (.alloc [(.int .i64 0), (.int .i64 0)]), ⟨none, .store 2 (.t 11) (.t 41), none⟩])
 (.reg [Yi 42 (.mov (.t 9)), Yi 43 (.mov (.t 9)), Yi 44 (.idxR 1 2 (.t 11) (.c (.int .i64 0))), Yi 45 (.load false 1 (.t 44)), Yi 46 (.call (.c (.fn 111 [] [])) [(.t 43), (.t 45)]), Yi 47 (.mov (.t 46)), Yj 48 47 true (.mov (.t 9)), Yj 49 47 true (.idxR 1 2 (.t 11) (.c (.int .i64 1))), Yj 50 47 true (.load false 1 (.t 49)),
 Yj 51 47 true (.call (.c (.fn 111 [] [])) [(.t 48), (.t 50)]), Yi 52 (.pick (.t 47) (.t 51) (.c (.bool false))), Yi 53 (.bslice 1 [(.t 52)]), Yi 54 (.append 1 1 (.t 42) (.t 53)), Yi 9 (.mov (.t 54))])))
 (.reg [Yi 55 (.bin .add false (.t 38) (.c (.int .i64 1))), Yi 38 (.mov (.t 55))])))))))
 (.seq (.reg [Yi 56 (.mov (.t 9)), Yi 6 (.mov (.t 56)), Yi 7 (.mov (.c (.int .i64 0)))])
 (.ret))))))
def r110 : List ARV := [.tmp 6, .tmp 7]
theorem b110 : Try.f110.body.bind (tr Try.prog 57) = some c110.bare := by kernel_rfl
theorem q110 : trRes Try.prog Try.f110.results.toList = some r110 := by kernel_rfl
theorem n110 : (Try.f110.name == "runtime.NumGoroutine") = false := by kernel_rfl

def c111 : ACode :=
 .seq (.reg [Yi 4 (.mov (.c (.bool false)))])
 (.seq (.reg [Yi 5 (.mov (.t 0)), Yi 6 (.mov (.t 1)), Yi 7 (.bin .shr false (.t 6) (.c (.int .u64 1))), Yi 8 (.idxS 1 (.t 5) (.t 7)), Yi 9 (.load false 1 (.t 8)), Yi 10 (.mov (.t 1)), Yi 11 (.bin .and false (.t 10) (.c (.int .i64 1))), Yi 12 (.bin .eql false (.t 11) (.c (.int .i64 1))), Yi 13 (.bin .neq true (.t 9) (.t 12)),
 Yi 4 (.mov (.t 13))])
 (.ret))
def r111 : List ARV := [.tmp 4]
theorem b111 : Try.f111.body.bind (tr Try.prog 14) = some c111.bare := by kernel_rfl
theorem q111 : trRes Try.prog Try.f111.results.toList = some r111 := by kernel_rfl
theorem n111 : (Try.f111.name == "runtime.NumGoroutine") = false := by kernel_rfl

def c112 : ACode :=
 .seq (.reg [Yi 8 (.mov (.c (.bool false)))])
 (.seq (.reg [Yi 9 (.mov (.t 1)), Yi 10 (.bin .geq false (.t 9) (.c (.int .i64 0))), Yi 11 (.mov (.t 10)), Yj 12 11 true (.mov (.t 1)), Yj 13 11 true (.mov (.t 3)), Yj 14 11 true (.bin .lss false (.t 12) (.t 13)), Yi 15 (.pick (.t 11) (.t 14) (.c (.bool false))), Yi 16 (.mov (.t 15)), Yj 17 16 true (.mov (.t 1)),
 Yj 18 16 true (.bin .lss false (.t 17) (.c (.int .i64 2))), Yj 19 16 true (.mov (.t 18)), Yj 20 19 false (.mov (.t 0)), Yj 21 19 false (.nilchk (.t 20)), Yj 22 19 false (.fldA 0 (.t 21)), Yj 23 19 false (.fldA 1 (.t 22)), Yj 24 19 false (.load false 1 (.t 23)), Yj 25 19 false (.mov (.t 1)), Yj 26 19 false (.idxS 3 (.t 24) (.t 25)),
 Yj 27 19 false (.fldA 0 (.t 26)), Yj 28 19 false (.load false 1 (.t 27)), Yj 29 19 false (.mov (.t 2)), Yj 30 19 false (.bin .gtr false (.t 28) (.t 29)), Yj 31 16 true (.pick (.t 19) (.c (.bool true)) (.t 30)), Yi 32 (.pick (.t 16) (.t 31) (.c (.bool false))), Yi 8 (.mov (.t 32))])
 (.ret))
def r112 : List ARV := [.tmp 8]
theorem b112 : Try.f112.body.bind (tr Try.prog 33) = some c112.bare := by kernel_rfl
theorem q112 : trRes Try.prog Try.f112.results.toList = some r112 := by kernel_rfl
theorem n112 : (Try.f112.name == "runtime.NumGoroutine") = false := by kernel_rfl

def c113 : ACode :=
 .seq (.reg [Yi 2 (.mov (.c (.slice [] .nil)))])
 (.seq (.reg [Yi 3 (.mov (.t 0)), Yi 4 (.mov (.t 0)), Yi 5 (.len (.t 4)), Yi 6 (.mov (.t 0)), Yi 7 (.len (.t 6)), Yi 8 (.slc 3 (.t 3) none (some (.t 5)) (some (.t 7))), Yi 2 (.ext (.retok 3 (.t 8)))])
 (.ret))
def r113 : List ARV := [.tmp 2]
theorem b113 : Try.f113.body.bind (tr Try.prog 9) = some c113.bare := by kernel_rfl
theorem q113 : trRes Try.prog Try.f113.results.toList = some r113 := by kernel_rfl
theorem n113 : (Try.f113.name == "runtime.NumGoroutine") = false := by kernel_rfl

def c114 : ACode :=
 .seq (.reg [Yi 4 (.mov (.c (.int .i64 0)))])
 (.seq (.seq (.reg [Yi 6 (.mov (.t 0)), Yi 7 (.len (.t 6)), Yi 8 (.mov (.c (.int .i64 0)))])
 (.block 0 (.loop (.seq (.reg [Yi 9 (.bin .lss false (.t 8) (.t 7))])
 (.seq (.cond (.t 9)
 (.skip)
 (.exit 0))
 (.seq (.block 1 (.seq (.reg [Yi 10 (.mov (.t 8)), Yi 5 (.mov (.t 10))])
 (.seq (.reg [Yi 11 (.mov (.t 1)), Yi 12 (.mov (.t 0)), Yi 13 (.mov (.t 5)), Yi 14 (.idxS 1 (.t 12) (.t 13)), Yi 15 (.load false 1 (.t 14)), Yi 16 (.call (.t 11) [(.t 15)])])
 (.cond (.t 16)
 (.seq (.reg [Yi 17 (.mov (.t 5)), Yi 4 (.mov (.t 17))])
 (.ret))
 (.skip)))))
 (.reg [Yi 18 (.bin .add false (.t 8) (.c (.int .i64 1))), Yi 8 (.mov (.t 18))])))))))
 (.seq (.reg [Yi 4 (.mov (.c (.int .i64 (-1))))])
 (.ret)))
def r114 : List ARV := [.tmp 4]
theorem b114 : Try.f114.body.bind (tr Try.prog 19) = some c114.bare := by kernel_rfl
theorem q114 : trRes Try.prog Try.f114.results.toList = some r114 := by kernel_rfl
theorem n114 : (Try.f114.name == "runtime.NumGoroutine") = false := by kernel_rfl

def c115 : ACode :=
 .seq (.reg [Yi 2 (.boxI (.t 0)), Yi 3 (.mov (.c (.bool false)))])
 (.seq (.reg [Yi 4 (.load false 1 (.t 1)), Yi 5 (.fldA 0 (.t 2)), Yi 6 (.load false 1 (.t 5)), Yi 7 (.call (.c (.fn 93 [] [])) [(.t 4), (.t 6)]), Yi 8 (.un .not (.t 7)), Yi 3 (.mov (.t 8))])
 (.ret))
def r115 : List ARV := [.tmp 3]
theorem b115 : Try.f115.body.bind (tr Try.prog 9) = some c115.bare := by kernel_rfl
theorem q115 : trRes Try.prog Try.f115.results.toList = some r115 := by kernel_rfl
theorem n115 : (Try.f115.name == "runtime.NumGoroutine") = false := by kernel_rfl

def c116 : ACode :=
 .seq (.reg [Yi 3 (.mov (.c (.bool false)))])
 (.seq (.reg [Yi 4 (.load false 1 (.t 1)), Yi 5 (.mov (.t 0)), Yi 6 (.call (.c (.fn 93 [] [])) [(.t 4), (.t 5)]), Yi 7 (.un .not (.t 6)), Yi 3 (.mov (.t 7))])
 (.ret))
def r116 : List ARV := [.tmp 3]
theorem b116 : Try.f116.body.bind (tr Try.prog 8) = some c116.bare := by kernel_rfl
theorem q116 : trRes Try.prog Try.f116.results.toList = some r116 := by kernel_rfl
theorem n116 : (Try.f116.name == "runtime.NumGoroutine") = false := by kernel_rfl

def c117 : ACode :=
 .seq (.reg [Yi 4 (.mov (.c (.bool false)))])
 (.seq (.reg [Yi 5 (.mov (.t 0)), Yi 6 (.mov (.t 1)), Yi 7 (.call (.c (.fn 123 [] [])) [(.t 5), (.t 6)]), Yi 8 (.bin .geq false (.t 7) (.c (.int .i64 0))), Yi 4 (.mov (.t 8))])
 (.ret))
def r117 : List ARV := [.tmp 4]
theorem b117 : Try.f117.body.bind (tr Try.prog 9) = some c117.bare := by kernel_rfl
theorem q117 : trRes Try.prog Try.f117.results.toList = some r117 := by kernel_rfl
theorem n117 : (Try.f117.name == "runtime.NumGoroutine") = false := by kernel_rfl

def c118 : ACode :=
 .seq (.reg [Yi 4 (.mov (.c (.slice [] .nil)))])
 (.seq (.seq (.reg [Yi 5 (.mov (.t 1)), Yi 6 (.bin .lss false (.t 5) (.c (.int .i64 0)))])
 (.cond (.t 6)
 (.reg [Yi 7 (.mkiface 9 (.c (.str ⟨#[99, 97, 110, 110, 111, 116, 32, 98, 101, 32, 110, 101, 103, 97, 116, 105, 118, 101]⟩))), ⟨none, .panic (.t 7), none⟩])
 (.skip)))
 (.seq (.seq (.reg [Yi 8 (.mov (.t 1)), Yi 9 (.mov (.t 0)), Yi 10 (.cap (.t 9)), Yi 11 (.mov (.t 0)), Yi 12 (.len (.t 11)), Yi 13 (.bin .sub false (.t 10) (.t 12)), Yi 14 (.bin .sub false (.t 8) (.t 13)), Yi 1 (.mov (.t 14))])
 (.seq (.reg [Yi 15 (.mov (.t 1)), Yi 16 (.bin .gtr false (.t 15) (.c (.int .i64 0)))])
 (.cond (.t 16)
 (.reg [Yi 17 (.mov (.t 0)), Yi 18 (.mov (.t 0)), Yi 19 (.cap (.t 18)), Yi 20 (.slcN 2 (.t 17) none (some (.t 19)) none), Yi 21 (.mov (.t 1)), Yi 22 (.appz 2 16 (.t 20) (.t 21)), Yi 23 (.mov (.t 0)), Yi 24 (.len (.t 23)), Yi 25 (.slcR 2 (.t 22) none (some (.t 24)) none), Yi 0 (.mov (.t 25))])
 (.skip))))
 (.seq (.reg [Yi 26 (.mov (.t 0)), Yi 4 (.mov (.t 26))])
 (.ret))))
def r118 : List ARV := [.tmp 4]
theorem b118 : Try.f118.body.bind (tr Try.prog 27) = some c118.bare := by kernel_rfl
theorem q118 : trRes Try.prog Try.f118.results.toList = some r118 := by kernel_rfl
theorem n118 : (Try.f118.name == "runtime.NumGoroutine") = false := by kernel_rfl

def c119 : ACode :=
 .seq (.reg [Yi 2 (.boxI (.t 0)), Yi 4 (.mov (.c (.bool false)))])
 (.seq (.reg [Yi 7 (.fldA 1 (.t 2)), Yi 8 (.load false 1 (.t 7)), Yi 9 (.mov (.t 1)), Yi 10 (.idxS 3 (.t 8) (.t 9)), Yi 11 (.load true 3 (.t 10)), Yi 5 (.alloc [(.int .i64 0), (.int .i64 0), (.int .i64 0)]), ⟨none, .store 3 (.t 5) (.t 11), none⟩])
 (.seq (.seq (.reg [Yi 12 (.fldA 0 (.t 5)), Yi 13 (.load false 1 (.t 12)), Yi 14 (.bin .lss false (.t 13) (.c (.int .i64 0))), Yi 15 (.mov (.t 14)), Yj 16 15 false (.fldA 0 (.t 5)), Yj 17 15 false (.load false 1 (.t 16)), Yj 18 15 false (.fldA 0 (.t 2)), Yj 19 15 false (.load false 1 (.t 18)), Yj 20 15 false (.bin .geq false (.t 17) (.t 19)),
 Yi 21 (.pick (.t 15) (.c (.bool true)) (.t 20)), Yi 22 (.mov (.t 21)), Yj 23 22 false (.fldA 1 (.t 5)), Yj 24 22 false (.load false 1 (.t 23)), Yj 25 22 false (.fldA 2 (.t 5)), Yj 26 22 false (.load false 1 (.t 25)), Yj 27 22 false (.bin .eql false (.t 24) (.t 26)), Yi 28 (.pick (.t 22) (.c (.bool true)) (.t 27)),
 Yi 29 (.mov (.t 28)), Yj 30 29 false (.load true 2 (.t 2)), Yj 31 29 false (.fldA 1 (.t 5)), Yj 32 29 false (.load false 1 (.t 31)), Yj 33 29 false (.fldA 0 (.t 5)), Yj 34 29 false (.load false 1 (.t 33)), Yj 35 29 false (.mov (.t 1)), Yj 36 29 false (.call (.c (.fn 124 [] [])) [(.t 30), (.t 32), (.t 34), (.t 35)]),
 Yj 37 29 false (.un .not (.t 36)), Yi 38 (.pick (.t 29) (.c (.bool true)) (.t 37)), Yi 39 (.mov (.t 38)), Yj 40 39 false (.load true 2 (.t 2)), Yj 41 39 false (.fldA 2 (.t 5)), Yj 42 39 false (.load false 1 (.t 41)), Yj 43 39 false (.fldA 0 (.t 5)), Yj 44 39 false (.load false 1 (.t 43)), Yj 45 39 false (.mov (.t 1)),
 Yj 46 39 false (.call (.c (.fn 124 [] [])) [(.t 40), (.t 42), (.t 44), (.t 45)]), Yj 47 39 false (.un .not (.t 46)), Yi 48 (.pick (.t 39) (.c (.bool true)) (.t 47))])
 (.cond (.t 48)
 (.seq (.reg [Yi 4 (.mov (.c (.bool false)))])
 (.ret))
 (.skip)))
 (.seq (.seq (.reg [Yi 6 (.mov (.c (.int .i64 2)))])
 (.block 0 (.loop (.seq (.seq (.reg [Yi 49 (.mov (.t 6)), Yi 50 (.mov (.t 1)), Yi 51 (.bin .lss false (.t 49) (.t 50))])
 (.cond (.t 51)
 (.skip)
 (.exit 0)))
 (.seq (.block 1 (.seq (.drw [Yi 54 (.fldA 1 (.t 2)), Yi 55 (.load false 1 (.t 54)), Yi 56 (.mov (.t 6)), Yi 57 (.idxS 3 (.t 55) (.t 56)), Yi 58 (.load true 3 (.t 57)), Yi 59 (.load true 3 (.t 5)), Yi 60 (.eqs false [0, 0, 0] (.t 58) (.t 59))] [])
 (.cond (.t 60)
 (.seq (.reg [Yi 4 (.mov (.c (.bool false)))])
 (.ret))
 (.skip))))
 (.reg [Yi 52 (.mov (.t 6)), Yi 53 (.bin .add false (.t 52) (.c (.int .i64 1))), Yi 6 (.mov (.t 53))]))))))
 (.seq (.reg [Yi 4 (.mov (.c (.bool true)))])
 (.ret)))))
def r119 : List ARV := [.tmp 4]
theorem b119 : Try.f119.body.bind (tr Try.prog 61) = some c119.bare := by kernel_rfl
theorem q119 : trRes Try.prog Try.f119.results.toList = some r119 := by kernel_rfl
theorem n119 : (Try.f119.name == "runtime.NumGoroutine") = false := by kernel_rfl

def c122 : ACode :=
 .seq (.reg [Yi 2 (.mov (.c (.slice [] .nil)))])
 (.seq (.reg [Yi 3 (.mov (.c (.int .i64 0)))])
 (.seq (.seq (.reg [Yi 9 (.mov (.t 0)), Yi 10 (.len (.t 9)), Yi 11 (.mov (.c (.int .i64 0)))])
 (.block 0 (.loop (.seq (.reg [Yi 12 (.bin .lss false (.t 11) (.t 10))])
 (.seq (.cond (.t 12)
 (.skip)
 (.exit 0))
 (.seq (.block 1 (.seq (.reg [Yi 13 (.idxS 1 (.t 9) (.t 11)), Yi 14 (.load false 1 (.t 13)), Yi 5 (.mov (.t 14))])
 (.seq (.reg [Yi 15 (.mov (.t 3)), Yi 16 (.mov (.t 5)), Yi 17 (.len (.t 16)), Yi 18 (.bin .add false (.t 15) (.t 17)), Yi 3 (.mov (.t 18))])
 (.seq (.reg [Yi 19 (.mov (.t 3)), Yi 20 (.bin .lss false (.t 19) (.c (.int .i64 0)))])
 (.cond (.t 20)
 (.reg [Yi 21 (.mkiface 9 (.c (.str ⟨#[108, 101, 110, 32, 111, 117, 116, 32, 111, 102, 32, 114, 97, 110, 103, 101]⟩))), ⟨none, .panic (.t 21), none⟩])
 (.skip))))))
 (.reg [Yi 22 (.bin .add false (.t 11) (.c (.int .i64 1))), Yi 11 (.mov (.t 22))])))))))
 (.seq (.reg [Yi 23 (.mov (.t 3)), Yi 24 (.call (.c (.fn 127 [] [])) [(.c (.slice [] .nil)), (.t 23)]), Yi 6 (.mov (.t 24))])
 (.seq (.seq (.reg [Yi 25 (.mov (.t 0)), Yi 26 (.len (.t 25)), Yi 27 (.mov (.c (.int .i64 0)))])
 (.block 2 (.loop (.seq (.reg [Yi 28 (.bin .lss false (.t 27) (.t 26))])
 (.seq (.cond (.t 28)
 (.skip)
 (.exit 2))
 (.seq (.block 3 (.seq (.reg [Yi 29 (.idxS 1 (.t 25) (.t 27)), Yi 30 (.load false 1 (.t 29)), Yi 8 (.mov (.t 30))])
 (.reg [Yi 31 (.mov (.t 6)), Yi 32 (.mov (.t 8)), Yi 33 (.append 1 1 (.t 31) (.t 32)), Yi 6 (.mov (.t 33))])))
 (.reg [Yi 34 (.bin .add false (.t 27) (.c (.int .i64 1))), Yi 27 (.mov (.t 34))])))))))
 (.seq (.reg [Yi 35 (.mov (.t 6)), Yi 2 (.mov (.t 35))])
 (.ret))))))
def r122 : List ARV := [.tmp 2]
theorem b122 : Try.f122.body.bind (tr Try.prog 36) = some c122.bare := by kernel_rfl
theorem q122 : trRes Try.prog Try.f122.results.toList = some r122 := by kernel_rfl
theorem n122 : (Try.f122.name == "runtime.NumGoroutine") = false := by kernel_rfl

def c123 : ACode :=
 .seq (.reg [Yi 4 (.mov (.c (.int .i64 0)))])
 (.seq (.seq (.reg [Yi 6 (.mov (.t 0)), Yi 7 (.len (.t 6)), Yi 8 (.mov (.c (.int .i64 0)))])
 (.block 0 (.loop (.seq (.reg [Yi 9 (.bin .lss false (.t 8) (.t 7))])
 (.seq (.cond (.t 9)
 (.skip)
 (.exit 0))
 (.seq (.block 1 (.seq (.reg [Yi 10 (.mov (.t 8)), Yi 5 (.mov (.t 10))])
 (.seq (.reg [Yi 11 (.mov (.t 1)), Yi 12 (.mov (.t 0)), Yi 13 (.mov (.t 5)), Yi 14 (.idxS 2 (.t 12) (.t 13)), Yi 15 (.load true 2 (.t 14)), Yi 16 (.call (.t 11) [(.t 15)])])
 (.cond (.t 16)
 (.seq (.reg [Yi 17 (.mov (.t 5)), Yi 4 (.mov (.t 17))])
 (.ret))
 (.skip)))))
 (.reg [Yi 18 (.bin .add false (.t 8) (.c (.int .i64 1))), Yi 8 (.mov (.t 18))])))))))
 (.seq (.reg [Yi 4 (.mov (.c (.int .i64 (-1))))])
 (.ret)))
def r123 : List ARV := [.tmp 4]
theorem b123 : Try.f123.body.bind (tr Try.prog 19) = some c123.bare := by kernel_rfl
theorem q123 : trRes Try.prog Try.f123.results.toList = some r123 := by kernel_rfl
theorem n123 : (Try.f123.name == "runtime.NumGoroutine") = false := by kernel_rfl

def c124 : ACode :=
 .seq (.reg [Yi 4 (.boxI (.t 0)), Yi 8 (.mov (.c (.bool false)))])
 (.seq (.reg [Yi 9 (.mov (.t 1)), Yi 10 (.bin .geq false (.t 9) (.c (.int .i64 0))), Yi 11 (.mov (.t 10)), Yj 12 11 true (.mov (.t 1)), Yj 13 11 true (.mov (.t 3)), Yj 14 11 true (.bin .lss false (.t 12) (.t 13)), Yi 15 (.pick (.t 11) (.t 14) (.c (.bool false))), Yi 16 (.mov (.t 15)), Yj 17 16 true (.mov (.t 1)),
 Yj 18 16 true (.bin .lss false (.t 17) (.c (.int .i64 2))), Yj 19 16 true (.mov (.t 18)), Yj 20 19 false (.fldA 1 (.t 4)), Yj 21 19 false (.load false 1 (.t 20)), Yj 22 19 false (.mov (.t 1)), Yj 23 19 false (.idxS 3 (.t 21) (.t 22)), Yj 24 19 false (.fldA 0 (.t 23)), Yj 25 19 false (.load false 1 (.t 24)),
 Yj 26 19 false (.mov (.t 2)), Yj 27 19 false (.bin .gtr false (.t 25) (.t 26)), Yj 28 16 true (.pick (.t 19) (.c (.bool true)) (.t 27)), Yi 29 (.pick (.t 16) (.t 28) (.c (.bool false))), Yi 8 (.mov (.t 29))])
 (.ret))
def r124 : List ARV := [.tmp 8]
theorem b124 : Try.f124.body.bind (tr Try.prog 30) = some c124.bare := by kernel_rfl
theorem q124 : trRes Try.prog Try.f124.results.toList = some r124 := by kernel_rfl
theorem n124 : (Try.f124.name == "runtime.NumGoroutine") = false := by kernel_rfl

def c127 : ACode :=
 .seq (.reg [Yi 4 (.mov (.c (.slice [] .nil)))])
 (.seq (.seq (.reg [Yi 5 (.mov (.t 1)), Yi 6 (.bin .lss false (.t 5) (.c (.int .i64 0)))])
 (.cond (.t 6)
 (.reg [Yi 7 (.mkiface 9 (.c (.str ⟨#[99, 97, 110, 110, 111, 116, 32, 98, 101, 32, 110, 101, 103, 97, 116, 105, 118, 101]⟩))), ⟨none, .panic (.t 7), none⟩])
 (.skip)))
 (.seq (.seq (.reg [Yi 8 (.mov (.t 1)), Yi 9 (.mov (.t 0)), Yi 10 (.cap (.t 9)), Yi 11 (.mov (.t 0)), Yi 12 (.len (.t 11)), Yi 13 (.bin .sub false (.t 10) (.t 12)), Yi 14 (.bin .sub false (.t 8) (.t 13)), Yi 1 (.mov (.t 14))])
 (.seq (.reg [Yi 15 (.mov (.t 1)), Yi 16 (.bin .gtr false (.t 15) (.c (.int .i64 0)))])
 (.cond (.t 16)
 (.reg [Yi 17 (.mov (.t 0)), Yi 18 (.mov (.t 0)), Yi 19 (.cap (.t 18)), Yi 20 (.slcN 1 (.t 17) none (some (.t 19)) none), Yi 21 (.mov (.t 1)), Yi 22 (.appz 1 1 (.t 20) (.t 21)), Yi 23 (.mov (.t 0)), Yi 24 (.len (.t 23)), Yi 25 (.slcR 1 (.t 22) none (some (.t 24)) none), Yi 0 (.mov (.t 25))])
 (.skip))))
 (.seq (.reg [Yi 26 (.mov (.t 0)), Yi 4 (.mov (.t 26))])
 (.ret))))
def r127 : List ARV := [.tmp 4]
theorem b127 : Try.f127.body.bind (tr Try.prog 27) = some c127.bare := by kernel_rfl
theorem q127 : trRes Try.prog Try.f127.results.toList = some r127 := by kernel_rfl
theorem n127 : (Try.f127.name == "runtime.NumGoroutine") = false := by kernel_rfl

end Go.Proofs.Ytjichkelfhcbcaa

