/- The bodies of the program's functions, as_ the abstraction layer has them. By program. -/
import Derived.Test.YtbbihmmobfmadaaGreatOBlzC
set_option linter.unusedSimpArgs false
set_option linter.unusedVariables false
namespace Go.Proofs.YtbbihmmobfmadaaGreat
open Abs
def c63 : ACode := .seq (.reg [I_ 8 (.mov (.c (.slice [] .nil)))]) (.seq (.seq (.reg [M_ 15 1]) (.block 0 (.seq (.reg [I_ 17 (.bin .eql false (.t 15) (K_ 14)), M_ 16 17]) (.cond (.t 16) (.seq (.reg [M_ 19 0, M_ 20 2, M_ 21 3, I_ 22 (.call (.c (.fn 102 [] [])) [.t 19, .t 20, .t 21, K_ 0]), M_ 18 22, I_ 23 (.extract (.t 18) 0), I_ 24 (.extract (.t 18) 1), M_ 9 23, M_ 10 24]) (.seq (.reg [M_ 25 9, M_ 8 25]) (.ret))) (.seq (.reg [I_ 27 (.bin .eql false (.t 15) (K_ 15)), M_ 26 27]) (.cond (.t 26) (.seq (.reg [M_ 29 0, M_ 30 2, M_ 31 3, I_ 32 (.call (.c (.fn 101 [] [])) [.t 31]), I_ 33 (.call (.c (.fn 102 [] [])) [.t 29, .t 30, .t 32, K_ 1]), M_ 28 33, I_ 34 (.extract (.t 28) 0), I_ 35 (.extract (.t 28) 1), M_ 11 34, M_ 12 35]) (.seq (.reg [M_ 36 11, M_ 8 36]) (.ret))) (.seq (.reg [I_ 38 (.bin .eql false (.t 15) (K_ 16)), M_ 37 38]) (.cond (.t 37) (.seq (.reg [M_ 39 0, M_ 40 2, M_ 41 3, I_ 42 (.call (.c (.fn 113 [] [])) [.t 39, .t 40, .t 41]), M_ 8 42]) (.ret)) (.seq (.seq (.reg [I_ 44 (.bin .eql false (.t 15) (K_ 17)), M_ 43 44]) (.cond (.t 43) (.skip) (.reg [I_ 45 (.bin .eql false (.t 15) (K_ 18)), M_ 43 45]))) (.cond (.t 43) (.seq (.reg [M_ 46 0, M_ 47 2, M_ 48 3, M_ 49 1, I_ 50 (.bin .eql false (.t 49) (K_ 17)), I_ 51 (.call (.c (.fn 86 [] [])) [.t 46, .t 47, .t 48, .t 50]), M_ 8 51]) (.ret)) (.seq (.seq (.reg [I_ 53 (.bin .eql false (.t 15) (K_ 19)), M_ 52 53]) (.cond (.t 52) (.skip) (.seq (.reg [I_ 54 (.bin .eql false (.t 15) (K_ 20)), M_ 52 54]) (.cond (.t 52) (.skip) (.seq (.reg [I_ 55 (.bin .eql false (.t 15) (K_ 21)), M_ 52 55]) (.cond (.t 52) (.skip) (.seq (.reg [I_ 56 (.bin .eql false (.t 15) (K_ 22)), M_ 52 56]) (.cond (.t 52) (.skip) (.seq (.reg [I_ 57 (.bin .eql false (.t 15) (K_ 23)), M_ 52 57]) (.cond (.t 52) (.skip) (.reg [I_ 58 (.bin .eql false (.t 15) (K_ 24)), M_ 52 58]))))))))))) (.cond (.t 52) (.seq (.reg [M_ 59 0, M_ 60 1, M_ 61 2, M_ 62 3, I_ 63 (.call (.c (.fn 114 [] [])) [.t 59, .t 60, .t 61, .t 62]), I_ 64 (.bslice 1 [.t 63]), M_ 8 64]) (.ret)) (.skip))))))))))))) (.seq (.reg [I_ 65 (.ext (.bsliceG 1 [])), M_ 13 65]) (.seq (.seq (.reg [J_ 14 0]) (.block 1 (.loop (.seq (.seq (.reg [M_ 66 14, M_ 67 2, I_ 68 (.len (.t 67)), I_ 69 (.bin .lss false (.t 66) (.t 68))]) (.cond (.t 69) (.skip) (.exit 1))) (.seq (.block 2 (.seq (.reg [M_ 72 1]) (.block 3 (.seq (.seq (.reg [I_ 87 (.bin .eql false (.t 72) (K_ 11)), M_ 86 87]) (.cond (.t 86) (.skip) (.reg [I_ 88 (.bin .eql false (.t 72) (K_ 25)), M_ 86 88]))) (.cond (.t 86) (.drw [M_ 89 13, M_ 90 0, M_ 91 2, M_ 92 14, I_ 93 (.idxS 1 (.t 91) (.t 92)), L_ 94 93, M_ 95 3, M_ 96 14, I_ 97 (.idxS 1 (.t 95) (.t 96)), L_ 98 97, I_ 99 (.call (.c (.fn 115 [] [])) [.t 90, .t 94, .t 98]), I_ 100 (.bslice 1 [.t 99]), I_ 101 (.append 1 8 (.t 89) (.t 100)), M_ 13 101] []) (.seq (.seq (.reg [I_ 103 (.bin .eql false (.t 72) (K_ 12)), M_ 102 103]) (.cond (.t 102) (.skip) (.reg [I_ 104 (.bin .eql false (.t 72) (K_ 26)), M_ 102 104]))) (.cond (.t 102) (.drw [M_ 105 13, M_ 106 0, M_ 107 2, M_ 108 14, I_ 109 (.idxS 1 (.t 107) (.t 108)), L_ 110 109, M_ 111 3, M_ 112 14, I_ 113 (.idxS 1 (.t 111) (.t 112)), L_ 114 113, I_ 115 (.call (.c (.fn 116 [] [])) [.t 106, .t 110, .t 114]), I_ 116 (.bslice 1 [.t 115]), I_ 117 (.append 1 8 (.t 105) (.t 116)), M_ 13 117] []) (.drw [M_ 73 13, M_ 74 0, M_ 75 2, M_ 76 14, I_ 77 (.idxS 1 (.t 75) (.t 76)), L_ 78 77, M_ 79 3, M_ 80 14, I_ 81 (.idxS 1 (.t 79) (.t 80)), L_ 82 81, I_ 83 (.call (.c (.fn 106 [] [])) [.t 74, .t 78, .t 82]), I_ 84 (.bslice 1 [.t 83]), I_ 85 (.append 1 8 (.t 73) (.t 84)), M_ 13 85] [])))))))) (.reg [M_ 70 14, I_ 71 (.bin .add false (.t 70) (K_ 1)), M_ 14 71])))))) (.seq (.reg [M_ 118 13, M_ 8 118]) (.ret)))))
def r63 : List ARV := [.tmp 8]
theorem b63 : Tryz.f63.body.bind (tr Tryz.prog 119) = some c63.bare := by kernel_rfl
theorem q63 : trRes Tryz.prog Tryz.f63.results.toList = some r63 := by kernel_rfl
theorem n63 : (Tryz.f63.name == "runtime.NumGoroutine") = false := by kernel_rfl

def c64 : ACode := .seq (.reg [I_ 4 (.mov (.c (.bool false)))]) (.seq (.reg [N_ 5 4 0, L_ 6 1, I_ 7 (.call (.c (.fn 36 [] [])) [.t 5, .t 6]), M_ 8 7, ⟨some 9, .load true 4 (.t 0), some (8, true)⟩, ⟨some 10, .load false 1 (.t 2), some (8, true)⟩, ⟨some 11, .call (.c (.fn 36 [] [])) [.t 9, .t 10], some (8, true)⟩, I_ 12 (.pick (.t 8) (.t 11) (.c (.bool false))), M_ 13 12, ⟨some 14, .load true 4 (.t 0), some (13, true)⟩, ⟨some 15, .load false 1 (.t 3), some (13, true)⟩, ⟨some 16, .bslice 1 [.t 15], some (13, true)⟩, ⟨some 17, .call (.c (.fn 36 [] [])) [.t 14, .t 16], some (13, true)⟩, I_ 18 (.pick (.t 13) (.t 17) (.c (.bool false))), M_ 19 18, ⟨some 20, .load false 1 (.t 1), some (19, true)⟩, ⟨some 21, .len (.t 20), some (19, true)⟩, ⟨some 22, .load false 1 (.t 2), some (19, true)⟩, ⟨some 23, .len (.t 22), some (19, true)⟩, ⟨some 24, .bin .eql false (.t 21) (.t 23), some (19, true)⟩, I_ 25 (.pick (.t 19) (.t 24) (.c (.bool false))), M_ 4 25]) (.ret))
def r64 : List ARV := [.tmp 4]
theorem b64 : Tryz.f64.body.bind (tr Tryz.prog 26) = some c64.bare := by kernel_rfl
theorem q64 : trRes Tryz.prog Tryz.f64.results.toList = some r64 := by kernel_rfl
theorem n64 : (Tryz.f64.name == "runtime.NumGoroutine") = false := by kernel_rfl

def c65 : ACode := .seq (.reg [I_ 5 (.mov (.c (.slice [] .nil)))]) (.seq (.reg [M_ 6 0, L_ 7 1, L_ 8 2, L_ 9 3, I_ 10 (.call (.c (.fn 66 [] [])) [.t 6, .t 7, .t 8, .t 9]), M_ 5 10]) (.ret))
def r65 : List ARV := [.tmp 5]
theorem b65 : Tryz.f65.body.bind (tr Tryz.prog 11) = some c65.bare := by kernel_rfl
theorem q65 : trRes Tryz.prog Tryz.f65.results.toList = some r65 := by kernel_rfl
theorem n65 : (Tryz.f65.name == "runtime.NumGoroutine") = false := by kernel_rfl

def c66 : ACode := .seq (.reg [I_ 4 (.box (.t 0)), I_ 5 (.box (.t 1)), I_ 8 (.mov (.c (.slice [] .nil)))]) (.seq (.reg [M_ 9 2, M_ 10 3, I_ 11 (.mkfn 117 [] [.t 4, .t 5]), I_ 12 (.call (.c (.fn 109 [] [])) [.t 9, .t 10, .t 11]), M_ 8 12]) (.ret))
def r66 : List ARV := [.tmp 8]
theorem b66 : Tryz.f66.body.bind (tr Tryz.prog 13) = some c66.bare := by kernel_rfl
theorem q66 : trRes Tryz.prog Tryz.f66.results.toList = some r66 := by kernel_rfl
theorem n66 : (Tryz.f66.name == "runtime.NumGoroutine") = false := by kernel_rfl

def c67 : ACode := .seq (.reg [I_ 8 (.mov (.c (.slice [] .nil)))]) (.seq (.reg [I_ 11 (.ext (.bsliceG 1 [])), M_ 9 11]) (.seq (.seq (.reg [J_ 10 0]) (.block 0 (.loop (.seq (.seq (.reg [M_ 12 10, M_ 13 2, I_ 14 (.len (.t 13)), I_ 15 (.bin .lss false (.t 12) (.t 14))]) (.cond (.t 15) (.skip) (.exit 0))) (.seq (.block 1 (.drw [M_ 18 9, M_ 19 0, M_ 20 1, M_ 21 2, M_ 22 10, I_ 23 (.idxS 1 (.t 21) (.t 22)), L_ 24 23, M_ 25 3, M_ 26 10, I_ 27 (.idxS 1 (.t 25) (.t 26)), L_ 28 27, I_ 29 (.call (.c (.fn 119 [] [])) [.t 19, .t 20, .t 24, .t 28]), I_ 30 (.bslice 1 [.t 29]), I_ 31 (.append 1 8 (.t 18) (.t 30)), M_ 9 31] [])) (.reg [M_ 16 10, I_ 17 (.bin .add false (.t 16) (K_ 1)), M_ 10 17])))))) (.seq (.reg [M_ 32 9, M_ 8 32]) (.ret))))
def r67 : List ARV := [.tmp 8]
theorem b67 : Tryz.f67.body.bind (tr Tryz.prog 33) = some c67.bare := by kernel_rfl
theorem q67 : trRes Tryz.prog Tryz.f67.results.toList = some r67 := by kernel_rfl
theorem n67 : (Tryz.f67.name == "runtime.NumGoroutine") = false := by kernel_rfl

def c73 : ACode := .seq (.reg [I_ 4 (.mov (.c (.bool false)))]) (.seq (.reg [M_ 5 0, M_ 6 1, I_ 7 (.call (.c (.fn 144 [] [])) [.t 5, .t 6]), I_ 8 (.bin .geq false (.t 7) (K_ 0)), M_ 4 8]) (.ret))
def r73 : List ARV := [.tmp 4]
theorem b73 : Tryz.f73.body.bind (tr Tryz.prog 9) = some c73.bare := by kernel_rfl
theorem q73 : trRes Tryz.prog Tryz.f73.results.toList = some r73 := by kernel_rfl
theorem n73 : (Tryz.f73.name == "runtime.NumGoroutine") = false := by kernel_rfl

def c74 : ACode := .seq (.reg [I_ 3 (.mov (.c (.bool false)))]) (.seq (.reg [M_ 4 0, I_ 5 (.bin .lss false (.t 4) (K_ 0)), M_ 6 5, ⟨some 7, .mov (.t 0), some (6, false)⟩, ⟨some 8, .load false 1 (.t 1), some (6, false)⟩, ⟨some 9, .bin .geq false (.t 7) (.t 8), some (6, false)⟩, I_ 10 (.pick (.t 6) (.c (.bool true)) (.t 9)), M_ 3 10]) (.ret))
def r74 : List ARV := [.tmp 3]
theorem b74 : Tryz.f74.body.bind (tr Tryz.prog 11) = some c74.bare := by kernel_rfl
theorem q74 : trRes Tryz.prog Tryz.f74.results.toList = some r74 := by kernel_rfl
theorem n74 : (Tryz.f74.name == "runtime.NumGoroutine") = false := by kernel_rfl

def c75 : ACode := .seq (.reg [I_ 1 (.boxI (.t 0)), J_ 2 0]) (.seq (.reg [N_ 3 4 1, I_ 4 (.call (.c (.fn 145 [] [])) [.t 3, (.c (.slice [] .nil))]), I_ 5 (.nilchk (.t 4)), F_ 6 4 5, L_ 7 6, M_ 2 7]) (.ret))
def r75 : List ARV := [.tmp 2]
theorem b75 : Tryz.f75.body.bind (tr Tryz.prog 8) = some c75.bare := by kernel_rfl
theorem q75 : trRes Tryz.prog Tryz.f75.results.toList = some r75 := by kernel_rfl
theorem n75 : (Tryz.f75.name == "runtime.NumGoroutine") = false := by kernel_rfl

def c76 : ACode := .seq (.reg [I_ 2 (.mov (.c (.slice [] .nil)))]) (.seq (.seq (.reg [M_ 3 0, I_ 4 (.ext (.isnil false (.t 3)))]) (.cond (.t 4) (.seq (.reg [I_ 2 (.mov (.c (.slice [] .nil)))]) (.ret)) (.skip))) (.seq (.reg [I_ 5 (.bslice 1 []), M_ 6 0, I_ 7 (.append 1 8 (.t 5) (.t 6)), M_ 2 7]) (.ret)))
def r76 : List ARV := [.tmp 2]
theorem b76 : Tryz.f76.body.bind (tr Tryz.prog 8) = some c76.bare := by kernel_rfl
theorem q76 : trRes Tryz.prog Tryz.f76.results.toList = some r76 := by kernel_rfl
theorem n76 : (Tryz.f76.name == "runtime.NumGoroutine") = false := by kernel_rfl

def c77 : ACode := .seq (.reg [I_ 8 (.mov (.c (.slice [] .nil)))]) (.seq (.seq (.reg [M_ 17 2, I_ 18 (.len (.t 17)), J_ 19 0]) (.block 0 (.loop (.seq (.reg [I_ 20 (.bin .lss false (.t 19) (.t 18))]) (.seq (.cond (.t 20) (.skip) (.exit 0)) (.seq (.block 1 (.seq (.reg [M_ 21 19, I_ 22 (.idxS 1 (.t 17) (.t 19)), L_ 23 22, M_ 9 21, M_ 10 23]) (.seq (.reg [M_ 24 3, M_ 25 9, I_ 26 (.min [.t 25, K_ 8]), I_ 27 (.bin .shl false (.t 24) (.t 26)), M_ 11 27]) (.seq (.reg [M_ 28 1, M_ 12 28]) (.seq (.reg [I_ 1 (.ext (.retok 1 (.c (.slice [] .nil))))]) (.seq (.reg [M_ 29 12, I_ 30 (.len (.t 29)), J_ 31 0]) (.block 2 (.loop (.seq (.reg [I_ 32 (.bin .lss false (.t 31) (.t 30))]) (.seq (.cond (.t 32) (.skip) (.exit 2)) (.seq (.block 3 (.seq (.reg [M_ 33 31, I_ 34 (.idxS 1 (.t 29) (.t 31)), L_ 35 34, M_ 13 33, M_ 14 35]) (.seq (.reg [J_ 15 0]) (.seq (.seq (.reg [M_ 36 13, M_ 37 11, I_ 38 (.bin .sub false (.t 36) (.t 37)), M_ 16 38]) (.seq (.reg [M_ 39 16, I_ 40 (.bin .geq false (.t 39) (K_ 0)), M_ 41 40, ⟨some 42, .mov (.t 16), some (41, true)⟩, ⟨some 43, .mov (.t 12), some (41, true)⟩, ⟨some 44, .len (.t 43), some (41, true)⟩, ⟨some 45, .bin .lss false (.t 42) (.t 44), some (41, true)⟩, I_ 46 (.pick (.t 41) (.t 45) (.c (.bool false)))]) (.cond (.t 46) (.reg [M_ 47 12, M_ 48 16, I_ 49 (.idxS 1 (.t 47) (.t 48)), L_ 50 49, M_ 15 50]) (.skip)))) (.reg [M_ 51 1, M_ 52 0, M_ 53 10, M_ 54 15, M_ 55 14, I_ 56 (.call (.c (.fn 118 [] [])) [.t 52, .t 53, .t 54, .t 55]), I_ 57 (.bslice 1 [.t 56]), I_ 58 (.append 1 8 (.t 51) (.t 57)), M_ 1 58]))))) (.reg [I_ 59 (.bin .add false (.t 31) (K_ 1)), M_ 31 59])))))))))))) (.reg [I_ 60 (.bin .add false (.t 19) (K_ 1)), M_ 19 60]))))))) (.seq (.reg [M_ 61 1, M_ 8 61]) (.ret)))
def r77 : List ARV := [.tmp 8]
theorem b77 : Tryz.f77.body.bind (tr Tryz.prog 62) = some c77.bare := by kernel_rfl
theorem q77 : trRes Tryz.prog Tryz.f77.results.toList = some r77 := by kernel_rfl
theorem n77 : (Tryz.f77.name == "runtime.NumGoroutine") = false := by kernel_rfl

def c79 : ACode := .seq (.reg [I_ 2 (.mov (.c (.slice [] .nil)))]) (.seq (.reg [J_ 3 0]) (.seq (.seq (.reg [M_ 9 0, I_ 10 (.len (.t 9)), J_ 11 0]) (.block 0 (.loop (.seq (.reg [I_ 12 (.bin .lss false (.t 11) (.t 10))]) (.seq (.cond (.t 12) (.skip) (.exit 0)) (.seq (.block 1 (.seq (.reg [I_ 13 (.idxS 1 (.t 9) (.t 11)), L_ 14 13, M_ 5 14]) (.seq (.reg [M_ 15 3, M_ 16 5, I_ 17 (.len (.t 16)), I_ 18 (.bin .add false (.t 15) (.t 17)), M_ 3 18]) (.seq (.reg [M_ 19 3, I_ 20 (.bin .lss false (.t 19) (K_ 0))]) (.cond (.t 20) (.reg [⟨some 21, .mkiface 9 (.c (.str ⟨#[108, 101, 110, 32, 111, 117, 116, 32, 111, 102, 32, 114, 97, 110, 103, 101]⟩)), none⟩, ⟨none, .panic (.t 21), none⟩]) (.skip)))))) (.reg [I_ 22 (.bin .add false (.t 11) (K_ 1)), M_ 11 22]))))))) (.seq (.reg [M_ 23 3, I_ 24 (.call (.c (.fn 146 [] [])) [(.c (.slice [] .nil)), .t 23]), M_ 6 24]) (.seq (.seq (.reg [M_ 25 0, I_ 26 (.len (.t 25)), J_ 27 0]) (.block 2 (.loop (.seq (.reg [I_ 28 (.bin .lss false (.t 27) (.t 26))]) (.seq (.cond (.t 28) (.skip) (.exit 2)) (.seq (.block 3 (.seq (.reg [I_ 29 (.idxS 1 (.t 25) (.t 27)), L_ 30 29, M_ 8 30]) (.reg [M_ 31 6, M_ 32 8, I_ 33 (.append 1 8 (.t 31) (.t 32)), M_ 6 33]))) (.reg [I_ 34 (.bin .add false (.t 27) (K_ 1)), M_ 27 34]))))))) (.seq (.reg [M_ 35 6, M_ 2 35]) (.ret))))))
def r79 : List ARV := [.tmp 2]
theorem b79 : Tryz.f79.body.bind (tr Tryz.prog 36) = some c79.bare := by kernel_rfl
theorem q79 : trRes Tryz.prog Tryz.f79.results.toList = some r79 := by kernel_rfl
theorem n79 : (Tryz.f79.name == "runtime.NumGoroutine") = false := by kernel_rfl

def c80 : ACode := .seq (.reg [I_ 4 (.mov (.c (.bool false)))]) (.seq (.reg [M_ 5 1, I_ 6 (.bin .geq false (.t 5) (K_ 0)), M_ 7 6, ⟨some 8, .mov (.t 1), some (7, true)⟩, ⟨some 9, .mov (.t 0), some (7, true)⟩, ⟨some 10, .bin .mul false (K_ 2) (.t 9), some (7, true)⟩, ⟨some 11, .bin .lss false (.t 8) (.t 10), some (7, true)⟩, I_ 12 (.pick (.t 7) (.t 11) (.c (.bool false))), M_ 4 12]) (.ret))
def r80 : List ARV := [.tmp 4]
theorem b80 : Tryz.f80.body.bind (tr Tryz.prog 13) = some c80.bare := by kernel_rfl
theorem q80 : trRes Tryz.prog Tryz.f80.results.toList = some r80 := by kernel_rfl
theorem n80 : (Tryz.f80.name == "runtime.NumGoroutine") = false := by kernel_rfl

def c81 : ACode := .seq (.reg [I_ 1 (.boxI (.t 0)), J_ 2 0]) (.seq (.reg [F_ 3 0 1, L_ 4 3, I_ 5 (.bin .add false (K_ 1) (.t 4)), F_ 6 1 1, L_ 7 6, I_ 8 (.len (.t 7)), I_ 9 (.bin .add false (.t 5) (.t 8)), F_ 10 2 1, L_ 11 10, I_ 12 (.len (.t 11)), I_ 13 (.bin .add false (.t 9) (.t 12)), M_ 2 13]) (.ret))
def r81 : List ARV := [.tmp 2]
theorem b81 : Tryz.f81.body.bind (tr Tryz.prog 14) = some c81.bare := by kernel_rfl
theorem q81 : trRes Tryz.prog Tryz.f81.results.toList = some r81 := by kernel_rfl
theorem n81 : (Tryz.f81.name == "runtime.NumGoroutine") = false := by kernel_rfl

def c86 : ACode := .seq (.reg [I_ 8 (.mov (.c (.slice [] .nil)))]) (.seq (.seq (.reg [J_ 9 0]) (.block 0 (.loop (.seq (.seq (.reg [M_ 15 9, M_ 16 2, I_ 17 (.len (.t 16)), I_ 18 (.bin .lss false (.t 15) (.t 17))]) (.cond (.t 18) (.skip) (.exit 0))) (.seq (.block 1 (.seq (.reg [M_ 21 1, I_ 22 (.len (.t 21)), M_ 10 22]) (.seq (.seq (.reg [M_ 23 9, I_ 24 (.bin .lss false (.t 23) (K_ 10))]) (.cond (.t 24) (.reg [M_ 25 9, I_ 26 (.bin .shl false (K_ 1) (.t 25)), M_ 10 26]) (.skip))) (.seq (.reg [I_ 27 (.ext (.bsliceG 1 [])), M_ 11 27]) (.seq (.seq (.reg [J_ 12 0]) (.block 2 (.loop (.seq (.seq (.reg [M_ 28 12, M_ 29 1, I_ 30 (.len (.t 29)), I_ 31 (.bin .lss false (.t 28) (.t 30))]) (.cond (.t 31) (.skip) (.exit 2))) (.seq (.block 3 (.seq (.reg [M_ 34 12, M_ 35 10, I_ 36 (.bin .add false (.t 34) (.t 35)), M_ 13 36]) (.seq (.seq (.reg [M_ 37 3]) (.cond (.t 37) (.reg [M_ 38 12, M_ 39 10, I_ 40 (.bin .sub false (.t 38) (.t 39)), M_ 13 40]) (.skip))) (.seq (.reg [J_ 14 0]) (.seq (.seq (.reg [M_ 41 13, I_ 42 (.bin .geq false (.t 41) (K_ 0)), M_ 43 42, ⟨some 44, .mov (.t 13), some (43, true)⟩, ⟨some 45, .mov (.t 1), some (43, true)⟩, ⟨some 46, .len (.t 45), some (43, true)⟩, ⟨some 47, .bin .lss false (.t 44) (.t 46), some (43, true)⟩, I_ 48 (.pick (.t 43) (.t 47) (.c (.bool false)))]) (.cond (.t 48) (.reg [M_ 49 1, M_ 50 13, I_ 51 (.idxS 1 (.t 49) (.t 50)), L_ 52 51, M_ 14 52]) (.skip))) (.drw [M_ 53 11, M_ 54 0, M_ 55 2, M_ 56 9, I_ 57 (.idxS 1 (.t 55) (.t 56)), L_ 58 57, M_ 59 14, M_ 60 1, M_ 61 12, I_ 62 (.idxS 1 (.t 60) (.t 61)), L_ 63 62, I_ 64 (.call (.c (.fn 119 [] [])) [.t 54, .t 58, .t 59, .t 63]), I_ 65 (.bslice 1 [.t 64]), I_ 66 (.append 1 8 (.t 53) (.t 65)), M_ 11 66] [])))))) (.reg [M_ 32 12, I_ 33 (.bin .add false (.t 32) (K_ 1)), M_ 12 33])))))) (.reg [M_ 67 11, M_ 1 67])))))) (.reg [M_ 19 9, I_ 20 (.bin .add false (.t 19) (K_ 1)), M_ 9 20])))))) (.seq (.reg [M_ 68 1, M_ 8 68]) (.ret)))
def r86 : List ARV := [.tmp 8]
theorem b86 : Tryz.f86.body.bind (tr Tryz.prog 69) = some c86.bare := by kernel_rfl
theorem q86 : trRes Tryz.prog Tryz.f86.results.toList = some r86 := by kernel_rfl
theorem n86 : (Tryz.f86.name == "runtime.NumGoroutine") = false := by kernel_rfl

def c87 : ACode := .seq (.reg [I_ 2 (.mov (.c (.int .u64 0)))]) (.seq (.seq (.reg [M_ 3 0, I_ 4 (.bin .lss false (.t 3) (K_ 1))]) (.cond (.t 4) (.seq (.reg [I_ 2 (.mov (.c (.int .u64 0)))]) (.ret)) (.skip))) (.seq (.seq (.reg [M_ 5 0, I_ 6 (.bin .gtr false (.t 5) (K_ 63))]) (.cond (.t 6) (.seq (.reg [I_ 2 (.mov (.c (.int .u64 18446744073709551615)))]) (.ret)) (.skip))) (.seq (.reg [M_ 7 0, I_ 8 (.bin .shl false (.c (.int .u64 1)) (.t 7)), I_ 9 (.bin .sub false (.t 8) (.c (.int .u64 1))), M_ 2 9]) (.ret))))
def r87 : List ARV := [.tmp 2]
theorem b87 : Tryz.f87.body.bind (tr Tryz.prog 10) = some c87.bare := by kernel_rfl
theorem q87 : trRes Tryz.prog Tryz.f87.results.toList = some r87 := by kernel_rfl
theorem n87 : (Tryz.f87.name == "runtime.NumGoroutine") = false := by kernel_rfl

def c94 : ACode := .seq (.reg [I_ 2 (.mov (.c (.slice [] .nil)))]) (.seq (.reg [M_ 3 0, I_ 4 (.call (.c (.fn 99 [] [])) [.t 3]), I_ 5 (.call (.c (.fn 160 [] [])) [.t 4]), M_ 2 5]) (.ret))
def r94 : List ARV := [.tmp 2]
theorem b94 : Tryz.f94.body.bind (tr Tryz.prog 6) = some c94.bare := by kernel_rfl
theorem q94 : trRes Tryz.prog Tryz.f94.results.toList = some r94 := by kernel_rfl
theorem n94 : (Tryz.f94.name == "runtime.NumGoroutine") = false := by kernel_rfl

def c95 : ACode := .seq (.reg [I_ 4 (.box (.t 0)), I_ 7 (.box (.t 3)), I_ 8 (.mov (.c (.slice [] .nil))), J_ 9 0]) (.seq (.reg [M_ 11 1, M_ 12 2, I_ 13 (.mkfn 161 [] [.t 4, .t 7]), I_ 14 (.call (.c (.fn 109 [] [])) [.t 11, .t 12, .t 13]), M_ 10 14]) (.seq (.drw [M_ 15 10, L_ 16 7, M_ 8 15, M_ 9 16] []) (.ret)))
def r95 : List ARV := [.tmp 8, .tmp 9]
theorem b95 : Tryz.f95.body.bind (tr Tryz.prog 17) = some c95.bare := by kernel_rfl
theorem q95 : trRes Tryz.prog Tryz.f95.results.toList = some r95 := by kernel_rfl
theorem n95 : (Tryz.f95.name == "runtime.NumGoroutine") = false := by kernel_rfl

def c97 : ACode := .seq (.reg [I_ 1 (.box (.t 0)), I_ 2 (.mov (.c .nilfn))]) (.seq (.reg [I_ 3 (.mkfn 162 [] [.t 1]), M_ 2 3]) (.ret))
def r97 : List ARV := [.tmp 2]
theorem b97 : Tryz.f97.body.bind (tr Tryz.prog 4) = some c97.bare := by kernel_rfl
theorem q97 : trRes Tryz.prog Tryz.f97.results.toList = some r97 := by kernel_rfl
theorem n97 : (Tryz.f97.name == "runtime.NumGoroutine") = false := by kernel_rfl

def c98 : ACode := .seq (.reg [I_ 3 (.box (.t 0)), I_ 4 (.box (.t 1)), I_ 5 (.box (.t 2)), J_ 6 0]) (.seq (.reg [L_ 7 3, I_ 8 (.mkfn 164 [] [.t 3, .t 4, .t 5]), I_ 9 (.call (.c (.fn 163 [] [])) [.t 7, .t 8]), M_ 6 9]) (.ret))
def r98 : List ARV := [.tmp 6]
theorem b98 : Tryz.f98.body.bind (tr Tryz.prog 10) = some c98.bare := by kernel_rfl
theorem q98 : trRes Tryz.prog Tryz.f98.results.toList = some r98 := by kernel_rfl
theorem n98 : (Tryz.f98.name == "runtime.NumGoroutine") = false := by kernel_rfl

def c99 : ACode := .seq (.reg [I_ 1 (.box (.t 0)), I_ 2 (.mov (.c .nilfn))]) (.seq (.reg [I_ 3 (.mkfn 166 [] [.t 1]), M_ 2 3]) (.ret))
def r99 : List ARV := [.tmp 2]
theorem b99 : Tryz.f99.body.bind (tr Tryz.prog 4) = some c99.bare := by kernel_rfl
theorem q99 : trRes Tryz.prog Tryz.f99.results.toList = some r99 := by kernel_rfl
theorem n99 : (Tryz.f99.name == "runtime.NumGoroutine") = false := by kernel_rfl

def c100 : ACode := .seq (.reg [I_ 3 (.box (.t 0)), I_ 4 (.box (.t 1)), I_ 5 (.box (.t 2)), J_ 6 0]) (.seq (.reg [L_ 7 3, I_ 8 (.mkfn 167 [] [.t 3, .t 4, .t 5]), I_ 9 (.call (.c (.fn 163 [] [])) [.t 7, .t 8]), M_ 6 9]) (.ret))
def r100 : List ARV := [.tmp 6]
theorem b100 : Tryz.f100.body.bind (tr Tryz.prog 10) = some c100.bare := by kernel_rfl
theorem q100 : trRes Tryz.prog Tryz.f100.results.toList = some r100 := by kernel_rfl
theorem n100 : (Tryz.f100.name == "runtime.NumGoroutine") = false := by kernel_rfl

def c101 : ACode := .seq (.reg [I_ 2 (.mov (.c (.slice [] .nil)))]) (.seq (.reg [I_ 5 (.ext (.bsliceG 1 [])), M_ 3 5]) (.seq (.seq (.reg [J_ 4 0]) (.block 0 (.loop (.seq (.seq (.reg [M_ 6 4, M_ 7 0, I_ 8 (.len (.t 7)), I_ 9 (.bin .lss false (.t 6) (.t 8))]) (.cond (.t 9) (.skip) (.exit 0))) (.seq (.block 1 (.reg [M_ 12 3, M_ 13 0, M_ 14 4, I_ 15 (.idxS 1 (.t 13) (.t 14)), L_ 16 15, I_ 17 (.call (.c (.fn 105 [] [])) [.t 16]), I_ 18 (.bslice 1 [.t 17]), I_ 19 (.append 1 8 (.t 12) (.t 18)), M_ 3 19])) (.reg [M_ 10 4, I_ 11 (.bin .add false (.t 10) (K_ 1)), M_ 4 11])))))) (.seq (.reg [M_ 20 3, M_ 2 20]) (.ret))))
def r101 : List ARV := [.tmp 2]
theorem b101 : Tryz.f101.body.bind (tr Tryz.prog 21) = some c101.bare := by kernel_rfl
theorem q101 : trRes Tryz.prog Tryz.f101.results.toList = some r101 := by kernel_rfl
theorem n101 : (Tryz.f101.name == "runtime.NumGoroutine") = false := by kernel_rfl

def c102 : ACode := .seq (.reg [I_ 8 (.mov (.c (.slice [] .nil))), J_ 9 0]) (.seq (.reg [I_ 15 (.ext (.bsliceG 1 [])), M_ 10 15]) (.seq (.seq (.reg [J_ 11 0]) (.block 0 (.loop (.seq (.seq (.reg [M_ 16 11, M_ 17 1, I_ 18 (.len (.t 17)), I_ 19 (.bin .lss false (.t 16) (.t 18))]) (.cond (.t 19) (.skip) (.exit 0))) (.seq (.block 1 (.seq (.drw [M_ 22 0, M_ 23 1, M_ 24 11, I_ 25 (.idxS 1 (.t 23) (.t 24)), L_ 26 25, M_ 27 2, M_ 28 11, I_ 29 (.idxS 1 (.t 27) (.t 28)), L_ 30 29, I_ 31 (.call (.c (.fn 106 [] [])) [.t 22, .t 26, .t 30]), M_ 12 31] []) (.seq (.reg [M_ 32 10, M_ 33 0, M_ 34 12, M_ 35 3, I_ 36 (.call (.c (.fn 106 [] [])) [.t 33, .t 34, .t 35]), I_ 37 (.bslice 1 [.t 36]), I_ 38 (.append 1 8 (.t 32) (.t 37)), M_ 10 38]) (.seq (.drw [M_ 39 0, M_ 40 1, M_ 41 11, I_ 42 (.idxS 1 (.t 40) (.t 41)), L_ 43 42, M_ 44 2, M_ 45 11, I_ 46 (.idxS 1 (.t 44) (.t 45)), L_ 47 46, I_ 48 (.call (.c (.fn 115 [] [])) [.t 39, .t 43, .t 47]), M_ 13 48] []) (.seq (.reg [M_ 49 0, M_ 50 12, M_ 51 3, I_ 52 (.call (.c (.fn 115 [] [])) [.t 49, .t 50, .t 51]), M_ 14 52]) (.reg [M_ 53 0, M_ 54 13, M_ 55 14, I_ 56 (.call (.c (.fn 116 [] [])) [.t 53, .t 54, .t 55]), M_ 3 56])))))) (.reg [M_ 20 11, I_ 21 (.bin .add false (.t 20) (K_ 1)), M_ 11 21])))))) (.seq (.reg [M_ 57 10, M_ 58 3, M_ 8 57, M_ 9 58]) (.ret))))
def r102 : List ARV := [.tmp 8, .tmp 9]
theorem b102 : Tryz.f102.body.bind (tr Tryz.prog 59) = some c102.bare := by kernel_rfl
theorem q102 : trRes Tryz.prog Tryz.f102.results.toList = some r102 := by kernel_rfl
theorem n102 : (Tryz.f102.name == "runtime.NumGoroutine") = false := by kernel_rfl

def c103 : ACode := .seq (.reg [I_ 2 (.mov (.c (.slice [] .nil)))]) (.seq (.reg [M_ 3 0, I_ 4 (.mkslice 1 8 [(.int .i64 0)] false (.t 3) (.t 3)), M_ 2 4]) (.ret))
def r103 : List ARV := [.tmp 2]
theorem b103 : Tryz.f103.body.bind (tr Tryz.prog 5) = some c103.bare := by kernel_rfl
theorem q103 : trRes Tryz.prog Tryz.f103.results.toList = some r103 := by kernel_rfl
theorem n103 : (Tryz.f103.name == "runtime.NumGoroutine") = false := by kernel_rfl

def c104 : ACode := .seq (.reg [J_ 4 0]) (.seq (.reg [J_ 5 1]) (.seq (.seq (.reg [J_ 6 0]) (.block 0 (.loop (.seq (.seq (.reg [M_ 7 6, M_ 8 1, I_ 9 (.len (.t 8)), I_ 10 (.bin .lss false (.t 7) (.t 9))]) (.cond (.t 10) (.skip) (.exit 0))) (.seq (.block 1 (.reg [M_ 13 0, M_ 14 5, M_ 15 1, M_ 16 6, I_ 17 (.idxS 1 (.t 15) (.t 16)), L_ 18 17, I_ 19 (.call (.c (.fn 115 [] [])) [.t 13, .t 14, .t 18]), M_ 5 19])) (.reg [M_ 11 6, I_ 12 (.bin .add false (.t 11) (K_ 1)), M_ 6 12])))))) (.seq (.reg [M_ 20 5, M_ 4 20]) (.ret))))
def r104 : List ARV := [.tmp 4]
theorem b104 : Tryz.f104.body.bind (tr Tryz.prog 21) = some c104.bare := by kernel_rfl
theorem q104 : trRes Tryz.prog Tryz.f104.results.toList = some r104 := by kernel_rfl
theorem n104 : (Tryz.f104.name == "runtime.NumGoroutine") = false := by kernel_rfl

def c105 : ACode := .seq (.reg [J_ 2 0]) (.seq (.seq (.reg [M_ 3 0, I_ 4 (.bin .rem false (.t 3) (K_ 2)), I_ 5 (.bin .eql false (.t 4) (K_ 1))]) (.cond (.t 5) (.seq (.reg [M_ 6 0, I_ 7 (.bin .sub false (.t 6) (K_ 1)), M_ 2 7]) (.ret)) (.skip))) (.seq (.reg [M_ 8 0, I_ 9 (.bin .add false (.t 8) (K_ 1)), M_ 2 9]) (.ret)))
def r105 : List ARV := [.tmp 2]
theorem b105 : Tryz.f105.body.bind (tr Tryz.prog 10) = some c105.bare := by kernel_rfl
theorem q105 : trRes Tryz.prog Tryz.f105.results.toList = some r105 := by kernel_rfl
theorem n105 : (Tryz.f105.name == "runtime.NumGoroutine") = false := by kernel_rfl

def c106 : ACode := .seq (.reg [J_ 6 0]) (.seq (.seq (.reg [M_ 10 0, I_ 11 (.nilchk (.t 10)), F_ 12 4 11, L_ 13 12, I_ 14 (.bin .neq false (.t 13) (K_ 0))]) (.cond (.t 14) (.seq (.reg [J_ 6 0]) (.ret)) (.skip))) (.seq (.reg [M_ 16 0, I_ 17 (.nilchk (.t 16)), F_ 18 0 17, N_ 19 4 18, M_ 20 1, M_ 21 2, I_ 22 (.call (.c (.fn 169 [] [])) [.t 19, .t 20, .t 21]), M_ 15 22, I_ 23 (.extract (.t 15) 0), I_ 24 (.extract (.t 15) 1), I_ 25 (.extract (.t 15) 2), I_ 7 (.alloc [(.int .i64 0), (.slice [] .nil), (.slice [] .nil), (.slice [] .nil)]), ⟨none, .store 4 (.t 7) (.t 23), none⟩, M_ 8 24, M_ 9 25]) (.seq (.reg [M_ 26 0, N_ 27 4 7, M_ 28 8, M_ 29 9, I_ 30 (.call (.c (.fn 170 [] [])) [.t 26, .t 27, .t 28, .t 29]), M_ 6 30]) (.ret))))
def r106 : List ARV := [.tmp 6]
theorem b106 : Tryz.f106.body.bind (tr Tryz.prog 31) = some c106.bare := by kernel_rfl
theorem q106 : trRes Tryz.prog Tryz.f106.results.toList = some r106 := by kernel_rfl
theorem n106 : (Tryz.f106.name == "runtime.NumGoroutine") = false := by kernel_rfl

def c108 : ACode := .seq (.reg [I_ 1 (.boxI (.t 0)), I_ 2 (.mov (.c (.bool false)))]) (.seq (.drw [F_ 3 0 1, L_ 4 3, I_ 5 (.bin .lss false (K_ 0) (.t 4)), M_ 6 5, ⟨some 7, .fldA 0 (.t 1), some (6, true)⟩, ⟨some 8, .load false 1 (.t 7), some (6, true)⟩, ⟨some 9, .bin .leq false (.t 8) (K_ 64), some (6, true)⟩, I_ 10 (.pick (.t 6) (.t 9) (.c (.bool false))), M_ 11 10, ⟨some 12, .fldA 1 (.t 1), some (11, true)⟩, ⟨some 13, .load false 1 (.t 12), some (11, true)⟩, ⟨some 14, .fldA 0 (.t 1), some (11, true)⟩, ⟨some 15, .load false 1 (.t 14), some (11, true)⟩, ⟨some 16, .call (.c (.fn 172 [] [])) [.t 15], some (11, true)⟩, ⟨some 17, .bin .andNot false (.t 13) (.t 16), some (11, true)⟩, ⟨some 18, .bin .eql false (.t 17) (.c (.int .u64 0)), some (11, true)⟩, I_ 19 (.pick (.t 11) (.t 18) (.c (.bool false))), M_ 2 19] [(10, 13)]) (.ret))
def r108 : List ARV := [.tmp 2]
theorem b108 : Tryz.f108.body.bind (tr Tryz.prog 20) = some c108.bare := by kernel_rfl
theorem q108 : trRes Tryz.prog Tryz.f108.results.toList = some r108 := by kernel_rfl
theorem n108 : (Tryz.f108.name == "runtime.NumGoroutine") = false := by kernel_rfl

def c109 : ACode := .seq (.reg [I_ 6 (.mov (.c (.slice [] .nil)))]) (.seq (.reg [M_ 10 0, I_ 11 (.len (.t 10)), I_ 12 (.mkslice 1 8 [(.int .i64 0)] false (K_ 0) (.t 11)), M_ 7 12]) (.seq (.seq (.reg [M_ 13 0, I_ 14 (.len (.t 13)), J_ 15 0]) (.block 0 (.loop (.seq (.reg [I_ 16 (.bin .lss false (.t 15) (.t 14))]) (.seq (.cond (.t 16) (.skip) (.exit 0)) (.seq (.block 1 (.seq (.reg [M_ 17 15, I_ 18 (.idxS 1 (.t 13) (.t 15)), L_ 19 18, M_ 8 17, M_ 9 19]) (.reg [M_ 20 7, M_ 21 2, M_ 22 9, M_ 23 1, M_ 24 8, I_ 25 (.idxS 1 (.t 23) (.t 24)), L_ 26 25, I_ 27 (.call (.t 21) [.t 22, .t 26]), I_ 28 (.bslice 1 [.t 27]), I_ 29 (.append 1 8 (.t 20) (.t 28)), M_ 7 29]))) (.reg [I_ 30 (.bin .add false (.t 15) (K_ 1)), M_ 15 30]))))))) (.seq (.reg [M_ 31 7, M_ 6 31]) (.ret))))
def r109 : List ARV := [.tmp 6]
theorem b109 : Tryz.f109.body.bind (tr Tryz.prog 32) = some c109.bare := by kernel_rfl
theorem q109 : trRes Tryz.prog Tryz.f109.results.toList = some r109 := by kernel_rfl
theorem n109 : (Tryz.f109.name == "runtime.NumGoroutine") = false := by kernel_rfl

def c110 : ACode := .seq (.reg [I_ 3 (.box (.t 0)), I_ 4 (.box (.t 1)), I_ 5 (.box (.t 2)), J_ 6 0]) (.seq (.reg [L_ 7 3, I_ 8 (.mkfn 173 [] [.t 3, .t 4, .t 5]), I_ 9 (.call (.c (.fn 163 [] [])) [.t 7, .t 8]), M_ 6 9]) (.ret))
def r110 : List ARV := [.tmp 6]
theorem b110 : Tryz.f110.body.bind (tr Tryz.prog 10) = some c110.bare := by kernel_rfl
theorem q110 : trRes Tryz.prog Tryz.f110.results.toList = some r110 := by kernel_rfl
theorem n110 : (Tryz.f110.name == "runtime.NumGoroutine") = false := by kernel_rfl

def c111 : ACode := .seq (.reg [I_ 6 (.mov (.c (.slice [] .nil)))]) (.seq (.reg [M_ 13 1, I_ 14 (.len (.t 13)), I_ 15 (.mkslice 1 8 [(.int .i64 0)] false (.t 14) (.t 14)), M_ 7 15]) (.seq (.seq (.reg [M_ 16 2, I_ 17 (.len (.t 16)), J_ 18 0]) (.block 0 (.loop (.seq (.reg [I_ 19 (.bin .lss false (.t 18) (.t 17))]) (.seq (.cond (.t 19) (.skip) (.exit 0)) (.seq (.block 1 (.seq (.reg [M_ 20 18, I_ 21 (.idxS 1 (.t 16) (.t 18)), L_ 22 21, M_ 8 20, M_ 9 22]) (.seq (.reg [M_ 23 8, M_ 24 1, I_ 25 (.len (.t 24)), I_ 26 (.mkslice 1 8 [(.int .i64 0)] false (.t 23) (.t 25)), M_ 10 26]) (.seq (.seq (.reg [M_ 27 1, M_ 28 1, I_ 29 (.len (.t 28)), M_ 30 8, I_ 31 (.bin .sub false (.t 29) (.t 30)), I_ 32 (.slc 1 (.t 27) none (some (.t 31)) none), I_ 33 (.len (.t 32)), J_ 34 0]) (.block 2 (.loop (.seq (.reg [I_ 35 (.bin .lss false (.t 34) (.t 33))]) (.seq (.cond (.t 35) (.skip) (.exit 2)) (.seq (.block 3 (.seq (.reg [I_ 36 (.idxS 1 (.t 32) (.t 34)), L_ 37 36, M_ 12 37]) (.reg [M_ 38 10, M_ 39 0, M_ 40 12, M_ 41 9, I_ 42 (.call (.c (.fn 98 [] [])) [.t 39, .t 40, .t 41]), I_ 43 (.bslice 1 [.t 42]), I_ 44 (.append 1 8 (.t 38) (.t 43)), M_ 10 44]))) (.reg [I_ 45 (.bin .add false (.t 34) (K_ 1)), M_ 34 45]))))))) (.reg [M_ 47 0, M_ 48 7, M_ 49 10, I_ 50 (.call (.c (.fn 95 [] [])) [.t 47, .t 48, .t 49, K_ 0]), M_ 46 50, I_ 51 (.extract (.t 46) 0), I_ 52 (.extract (.t 46) 1), M_ 7 51]))))) (.reg [I_ 53 (.bin .add false (.t 18) (K_ 1)), M_ 18 53]))))))) (.seq (.reg [M_ 54 7, M_ 6 54]) (.ret))))
def r111 : List ARV := [.tmp 6]
theorem b111 : Tryz.f111.body.bind (tr Tryz.prog 55) = some c111.bare := by kernel_rfl
theorem q111 : trRes Tryz.prog Tryz.f111.results.toList = some r111 := by kernel_rfl
theorem n111 : (Tryz.f111.name == "runtime.NumGoroutine") = false := by kernel_rfl

def c112 : ACode := .seq (.reg [J_ 6 0]) (.seq (.reg [M_ 10 0, M_ 11 1, M_ 12 2, I_ 13 (.call (.c (.fn 94 [] [])) [.t 12]), I_ 14 (.call (.c (.fn 95 [] [])) [.t 10, .t 11, .t 13, K_ 1]), M_ 9 14, I_ 15 (.extract (.t 9) 0), I_ 16 (.extract (.t 9) 1), M_ 7 15, M_ 8 16]) (.seq (.reg [M_ 17 8, I_ 18 (.bin .xor false (K_ 1) (.t 17)), M_ 6 18]) (.ret)))
def r112 : List ARV := [.tmp 6]
theorem b112 : Tryz.f112.body.bind (tr Tryz.prog 19) = some c112.bare := by kernel_rfl
theorem q112 : trRes Tryz.prog Tryz.f112.results.toList = some r112 := by kernel_rfl
theorem n112 : (Tryz.f112.name == "runtime.NumGoroutine") = false := by kernel_rfl

def c113 : ACode := .seq (.reg [I_ 6 (.mov (.c (.slice [] .nil)))]) (.seq (.reg [M_ 11 1, I_ 12 (.len (.t 11)), I_ 13 (.call (.c (.fn 103 [] [])) [.t 12]), M_ 7 13]) (.seq (.seq (.reg [J_ 8 0]) (.block 0 (.loop (.seq (.seq (.reg [M_ 14 8, M_ 15 2, I_ 16 (.len (.t 15)), I_ 17 (.bin .lss false (.t 14) (.t 16))]) (.cond (.t 17) (.skip) (.exit 0))) (.seq (.block 1 (.seq (.reg [M_ 20 8, I_ 21 (.call (.c (.fn 103 [] [])) [.t 20]), M_ 9 21]) (.seq (.seq (.reg [J_ 10 0]) (.block 2 (.loop (.seq (.seq (.reg [M_ 22 8, M_ 23 10, I_ 24 (.bin .add false (.t 22) (.t 23)), M_ 25 1, I_ 26 (.len (.t 25)), I_ 27 (.bin .lss false (.t 24) (.t 26))]) (.cond (.t 27) (.skip) (.exit 2))) (.seq (.block 3 (.drw [M_ 30 9, M_ 31 0, M_ 32 1, M_ 33 10, I_ 34 (.idxS 1 (.t 32) (.t 33)), L_ 35 34, M_ 36 2, M_ 37 8, I_ 38 (.idxS 1 (.t 36) (.t 37)), L_ 39 38, I_ 40 (.call (.c (.fn 115 [] [])) [.t 31, .t 35, .t 39]), I_ 41 (.bslice 1 [.t 40]), I_ 42 (.append 1 8 (.t 30) (.t 41)), M_ 9 42] [])) (.reg [M_ 28 10, I_ 29 (.bin .add false (.t 28) (K_ 1)), M_ 10 29])))))) (.reg [M_ 44 0, M_ 45 7, M_ 46 9, I_ 47 (.call (.c (.fn 102 [] [])) [.t 44, .t 45, .t 46, K_ 0]), M_ 43 47, I_ 48 (.extract (.t 43) 0), I_ 49 (.extract (.t 43) 1), M_ 7 48])))) (.reg [M_ 18 8, I_ 19 (.bin .add false (.t 18) (K_ 1)), M_ 8 19])))))) (.seq (.reg [M_ 50 7, M_ 6 50]) (.ret))))
def r113 : List ARV := [.tmp 6]
theorem b113 : Tryz.f113.body.bind (tr Tryz.prog 51) = some c113.bare := by kernel_rfl
theorem q113 : trRes Tryz.prog Tryz.f113.results.toList = some r113 := by kernel_rfl
theorem n113 : (Tryz.f113.name == "runtime.NumGoroutine") = false := by kernel_rfl

def c114 : ACode := .seq (.reg [J_ 8 0]) (.seq (.seq (.reg [M_ 9 1]) (.block 0 (.seq (.reg [I_ 11 (.bin .eql false (.t 9) (K_ 19)), M_ 10 11]) (.cond (.t 10) (.seq (.reg [M_ 12 0, M_ 13 2, M_ 14 3, I_ 15 (.call (.c (.fn 175 [] [])) [.t 12, .t 13, .t 14]), M_ 8 15]) (.ret)) (.seq (.reg [I_ 17 (.bin .eql false (.t 9) (K_ 20)), M_ 16 17]) (.cond (.t 16) (.seq (.reg [M_ 18 0, M_ 19 2, M_ 20 3, I_ 21 (.call (.c (.fn 175 [] [])) [.t 18, .t 19, .t 20]), I_ 22 (.call (.c (.fn 105 [] [])) [.t 21]), M_ 8 22]) (.ret)) (.seq (.reg [I_ 24 (.bin .eql false (.t 9) (K_ 21)), M_ 23 24]) (.cond (.t 23) (.seq (.reg [M_ 25 0, M_ 26 2, M_ 27 3, I_ 28 (.call (.c (.fn 176 [] [])) [.t 25, .t 26, .t 27]), M_ 8 28]) (.ret)) (.seq (.reg [I_ 30 (.bin .eql false (.t 9) (K_ 23)), M_ 29 30]) (.cond (.t 29) (.seq (.reg [M_ 31 0, M_ 32 3, M_ 33 2, I_ 34 (.call (.c (.fn 176 [] [])) [.t 31, .t 32, .t 33]), M_ 8 34]) (.ret)) (.seq (.reg [I_ 36 (.bin .eql false (.t 9) (K_ 22)), M_ 35 36]) (.cond (.t 35) (.seq (.reg [M_ 37 0, M_ 38 3, M_ 39 2, I_ 40 (.call (.c (.fn 176 [] [])) [.t 37, .t 38, .t 39]), I_ 41 (.call (.c (.fn 105 [] [])) [.t 40]), M_ 8 41]) (.ret)) (.skip))))))))))))) (.seq (.reg [M_ 42 0, M_ 43 2, M_ 44 3, I_ 45 (.call (.c (.fn 176 [] [])) [.t 42, .t 43, .t 44]), I_ 46 (.call (.c (.fn 105 [] [])) [.t 45]), M_ 8 46]) (.ret)))
def r114 : List ARV := [.tmp 8]
theorem b114 : Tryz.f114.body.bind (tr Tryz.prog 47) = some c114.bare := by kernel_rfl
theorem q114 : trRes Tryz.prog Tryz.f114.results.toList = some r114 := by kernel_rfl
theorem n114 : (Tryz.f114.name == "runtime.NumGoroutine") = false := by kernel_rfl

def c115 : ACode := .seq (.reg [J_ 6 0]) (.seq (.seq (.reg [M_ 10 0, I_ 11 (.nilchk (.t 10)), F_ 12 4 11, L_ 13 12, I_ 14 (.bin .neq false (.t 13) (K_ 0))]) (.cond (.t 14) (.seq (.reg [J_ 6 0]) (.ret)) (.skip))) (.seq (.reg [M_ 16 0, I_ 17 (.nilchk (.t 16)), F_ 18 0 17, N_ 19 4 18, M_ 20 1, M_ 21 2, I_ 22 (.call (.c (.fn 177 [] [])) [.t 19, .t 20, .t 21]), M_ 15 22, I_ 23 (.extract (.t 15) 0), I_ 24 (.extract (.t 15) 1), I_ 25 (.extract (.t 15) 2), I_ 7 (.alloc [(.int .i64 0), (.slice [] .nil), (.slice [] .nil), (.slice [] .nil)]), ⟨none, .store 4 (.t 7) (.t 23), none⟩, M_ 8 24, M_ 9 25]) (.seq (.reg [M_ 26 0, N_ 27 4 7, M_ 28 8, M_ 29 9, I_ 30 (.call (.c (.fn 170 [] [])) [.t 26, .t 27, .t 28, .t 29]), M_ 6 30]) (.ret))))
def r115 : List ARV := [.tmp 6]
theorem b115 : Tryz.f115.body.bind (tr Tryz.prog 31) = some c115.bare := by kernel_rfl
theorem q115 : trRes Tryz.prog Tryz.f115.results.toList = some r115 := by kernel_rfl
theorem n115 : (Tryz.f115.name == "runtime.NumGoroutine") = false := by kernel_rfl

def c116 : ACode := .seq (.reg [J_ 6 0]) (.seq (.seq (.reg [M_ 10 0, I_ 11 (.nilchk (.t 10)), F_ 12 4 11, L_ 13 12, I_ 14 (.bin .neq false (.t 13) (K_ 0))]) (.cond (.t 14) (.seq (.reg [J_ 6 0]) (.ret)) (.skip))) (.seq (.reg [M_ 16 0, I_ 17 (.nilchk (.t 16)), F_ 18 0 17, N_ 19 4 18, M_ 20 1, M_ 21 2, I_ 22 (.call (.c (.fn 178 [] [])) [.t 19, .t 20, .t 21]), M_ 15 22, I_ 23 (.extract (.t 15) 0), I_ 24 (.extract (.t 15) 1), I_ 25 (.extract (.t 15) 2), I_ 7 (.alloc [(.int .i64 0), (.slice [] .nil), (.slice [] .nil), (.slice [] .nil)]), ⟨none, .store 4 (.t 7) (.t 23), none⟩, M_ 8 24, M_ 9 25]) (.seq (.reg [M_ 26 0, N_ 27 4 7, M_ 28 8, M_ 29 9, I_ 30 (.call (.c (.fn 170 [] [])) [.t 26, .t 27, .t 28, .t 29]), M_ 6 30]) (.ret))))
def r116 : List ARV := [.tmp 6]
theorem b116 : Tryz.f116.body.bind (tr Tryz.prog 31) = some c116.bare := by kernel_rfl
theorem q116 : trRes Tryz.prog Tryz.f116.results.toList = some r116 := by kernel_rfl
theorem n116 : (Tryz.f116.name == "runtime.NumGoroutine") = false := by kernel_rfl

def c117 : ACode := .seq (.reg [J_ 6 0]) (.seq (.reg [L_ 7 2, L_ 8 3, M_ 9 0, M_ 10 1, I_ 11 (.call (.c (.fn 118 [] [])) [.t 7, .t 8, .t 9, .t 10]), M_ 6 11]) (.ret))
def r117 : List ARV := [.tmp 6]
theorem b117 : Tryz.f117.body.bind (tr Tryz.prog 12) = some c117.bare := by kernel_rfl
theorem q117 : trRes Tryz.prog Tryz.f117.results.toList = some r117 := by kernel_rfl
theorem n117 : (Tryz.f117.name == "runtime.NumGoroutine") = false := by kernel_rfl

def c118 : ACode := .seq (.reg [I_ 4 (.box (.t 0)), I_ 5 (.box (.t 1)), I_ 6 (.box (.t 2)), I_ 7 (.box (.t 3)), J_ 8 0]) (.seq (.reg [L_ 9 4, I_ 10 (.mkfn 179 [] [.t 4, .t 5, .t 6, .t 7]), I_ 11 (.call (.c (.fn 163 [] [])) [.t 9, .t 10]), M_ 8 11]) (.ret))
def r118 : List ARV := [.tmp 8]
theorem b118 : Tryz.f118.body.bind (tr Tryz.prog 12) = some c118.bare := by kernel_rfl
theorem q118 : trRes Tryz.prog Tryz.f118.results.toList = some r118 := by kernel_rfl
theorem n118 : (Tryz.f118.name == "runtime.NumGoroutine") = false := by kernel_rfl

def c119 : ACode := .seq (.reg [J_ 8 0]) (.seq (.seq (.reg [M_ 12 0, I_ 13 (.nilchk (.t 12)), F_ 14 4 13, L_ 15 14, I_ 16 (.bin .neq false (.t 15) (K_ 0))]) (.cond (.t 16) (.seq (.reg [J_ 8 0]) (.ret)) (.skip))) (.seq (.reg [M_ 18 0, I_ 19 (.nilchk (.t 18)), F_ 20 0 19, N_ 21 4 20, M_ 22 1, M_ 23 2, M_ 24 3, I_ 25 (.call (.c (.fn 181 [] [])) [.t 21, .t 22, .t 23, .t 24]), M_ 17 25, I_ 26 (.extract (.t 17) 0), I_ 27 (.extract (.t 17) 1), I_ 28 (.extract (.t 17) 2), I_ 9 (.alloc [(.int .i64 0), (.slice [] .nil), (.slice [] .nil), (.slice [] .nil)]), ⟨none, .store 4 (.t 9) (.t 26), none⟩, M_ 10 27, M_ 11 28]) (.seq (.reg [M_ 29 0, N_ 30 4 9, M_ 31 10, M_ 32 11, I_ 33 (.call (.c (.fn 170 [] [])) [.t 29, .t 30, .t 31, .t 32]), M_ 8 33]) (.ret))))
def r119 : List ARV := [.tmp 8]
theorem b119 : Tryz.f119.body.bind (tr Tryz.prog 34) = some c119.bare := by kernel_rfl
theorem q119 : trRes Tryz.prog Tryz.f119.results.toList = some r119 := by kernel_rfl
theorem n119 : (Tryz.f119.name == "runtime.NumGoroutine") = false := by kernel_rfl

end Go.Proofs.YtbbihmmobfmadaaGreat

