/- The bodies of the program's functions, as_ the abstraction layer has them. By program. -/
import Derived.Test.YtbbihmmobfmadaaProg
import Derived.KernelRfl
import Derived.Test.YtbbihmmobfmadaaNAbsW
set_option linter.unusedSimpArgs false
set_option linter.unusedVariables false
namespace Go.Proofs.Ytbbihmmobfmadaa
open Abs
@[reducible] def I_ (d : Nat) (o : AOp) : AInst := ⟨some d, o, none⟩
@[reducible] def K_ (n : Int) : AOpnd := .c (.int .i64 n)
@[reducible] def M_ (d s : Nat) : AInst := I_ d (.mov (.t s))
@[reducible] def J_ (d : Nat) (n : Int) : AInst := I_ d (.mov (K_ n))
@[reducible] def L_ (d s : Nat) : AInst := I_ d (.load false 1 (.t s))
@[reducible] def N_ (d n s : Nat) : AInst := I_ d (.load true n (.t s))
@[reducible] def F_ (d k s : Nat) : AInst := I_ d (.fldA k (.t s))
theorem mixed : Try.prog.follows .mixedOrders = true := by kernel_rfl
def c5 : ACode := .seq (.reg [I_ 4 (.boxI (.t 0)), I_ 8 (.mov (.c (.bool false)))]) (.seq (.reg [I_ 16 (.call (.c (.fn 7 [] [])) []), M_ 9 16]) (.seq (.seq (.reg [N_ 17 4 4, M_ 18 2, M_ 19 3, I_ 20 (.bslice 1 [.t 18, .t 19]), I_ 21 (.call (.c (.fn 8 [] [])) [.t 17, .t 20]), I_ 22 (.un .not (.t 21))]) (.cond (.t 22) (.seq (.reg [M_ 23 9, M_ 8 23]) (.ret)) (.skip))) (.seq (.reg [N_ 25 4 4, M_ 26 1, M_ 27 2, M_ 28 3, I_ 29 (.call (.c (.fn 9 [] [])) [.t 25, .t 26, .t 27, .t 28]), M_ 24 29, I_ 30 (.extract (.t 24) 0), I_ 31 (.extract (.t 24) 1), I_ 32 (.extract (.t 24) 2), I_ 10 (.alloc [(.int .i64 0), (.slice [] .nil), (.slice [] .nil), (.slice [] .nil)]), ⟨none, .store 4 (.t 10) (.t 30), none⟩, M_ 11 31, M_ 12 32]) (.seq (.seq (.reg [M_ 33 12, I_ 34 (.bin .neq false (.t 33) (K_ 0)), M_ 35 34, ⟨some 36, .fldA 2 (.t 10), some (35, false)⟩, ⟨some 37, .load false 1 (.t 36), some (35, false)⟩, ⟨some 38, .len (.t 37), some (35, false)⟩, ⟨some 39, .bin .gtr false (.t 38) (K_ 20000), some (35, false)⟩, I_ 40 (.pick (.t 35) (.c (.bool true)) (.t 39))]) (.cond (.t 40) (.seq (.reg [M_ 41 9, M_ 42 41, ⟨some 43, .mov (.t 12), some (42, true)⟩, ⟨some 44, .bin .neq false (.t 43) (K_ 0), some (42, true)⟩, I_ 45 (.pick (.t 42) (.t 44) (.c (.bool false))), M_ 8 45]) (.ret)) (.skip))) (.seq (.reg [N_ 47 4 10, M_ 48 1, M_ 49 2, M_ 50 3, I_ 51 (.call (.c (.fn 9 [] [])) [.t 47, .t 48, .t 49, .t 50]), M_ 46 51, I_ 52 (.extract (.t 46) 0), I_ 53 (.extract (.t 46) 1), I_ 54 (.extract (.t 46) 2), I_ 13 (.alloc [(.int .i64 0), (.slice [] .nil), (.slice [] .nil), (.slice [] .nil)]), ⟨none, .store 4 (.t 13) (.t 52), none⟩, M_ 14 53, M_ 15 54]) (.seq (.reg [M_ 55 9, M_ 56 55, ⟨some 57, .mov (.t 15), some (56, true)⟩, ⟨some 58, .bin .eql false (.t 57) (K_ 0), some (56, true)⟩, I_ 59 (.pick (.t 56) (.t 58) (.c (.bool false))), M_ 60 59, ⟨some 61, .load true 4 (.t 10), some (60, true)⟩, ⟨some 62, .load true 4 (.t 13), some (60, true)⟩, ⟨some 63, .call (.c (.fn 16 [] [])) [.t 61, .t 62], some (60, true)⟩, I_ 64 (.pick (.t 60) (.t 63) (.c (.bool false))), M_ 65 64, ⟨some 66, .mov (.t 11), some (65, true)⟩, ⟨some 67, .mov (.t 14), some (65, true)⟩, ⟨some 68, .call (.c (.fn 17 [] [])) [.t 66, .t 67], some (65, true)⟩, I_ 69 (.pick (.t 65) (.t 68) (.c (.bool false))), M_ 8 69]) (.ret)))))))
def r5 : List ARV := [.tmp 8]
theorem b5 : Try.f5.body.bind (tr Try.prog 70) = some c5.bare := by kernel_rfl
theorem q5 : trRes Try.prog Try.f5.results.toList = some r5 := by kernel_rfl
theorem n5 : (Try.f5.name == "runtime.NumGoroutine") = false := by kernel_rfl

def c7 : ACode := .seq (.reg [I_ 0 (.mov (.c (.bool false)))]) (.seq (.reg [I_ 23 (.call (.c (.fn 24 [] [])) [K_ 2, (.c (.slice [] .nil))]), M_ 22 23, I_ 24 (.extract (.t 22) 0), I_ 25 (.extract (.t 22) 1), I_ 1 (.alloc [(.int .i64 0), (.slice [] .nil), (.slice [] .nil), (.slice [] .nil)]), ⟨none, .store 4 (.t 1) (.t 24), none⟩, M_ 2 25]) (.seq (.reg [N_ 27 4 1, I_ 28 (.bslice 1 [K_ 2]), I_ 29 (.bslice 1 [K_ 4]), I_ 30 (.call (.c (.fn 9 [] [])) [.t 27, K_ 14, .t 28, .t 29]), M_ 26 30, I_ 31 (.extract (.t 26) 0), I_ 32 (.extract (.t 26) 1), I_ 33 (.extract (.t 26) 2), I_ 3 (.alloc [(.int .i64 0), (.slice [] .nil), (.slice [] .nil), (.slice [] .nil)]), ⟨none, .store 4 (.t 3) (.t 31), none⟩, M_ 4 32, M_ 5 33]) (.seq (.reg [I_ 35 (.call (.c (.fn 15 [] [])) [K_ 4, (.c (.int .u64 10))]), M_ 34 35, I_ 36 (.extract (.t 34) 0), I_ 37 (.extract (.t 34) 1), M_ 6 36, M_ 7 37]) (.seq (.reg [N_ 39 4 1, I_ 40 (.bslice 1 [K_ 2, K_ 5]), I_ 41 (.call (.c (.fn 18 [] [])) [.t 39, K_ 1, .t 40]), M_ 38 41, I_ 42 (.extract (.t 38) 0), I_ 43 (.extract (.t 38) 1), I_ 44 (.extract (.t 38) 2), I_ 8 (.alloc [(.int .i64 0), (.slice [] .nil), (.slice [] .nil), (.slice [] .nil)]), ⟨none, .store 4 (.t 8) (.t 42), none⟩, M_ 9 43, M_ 10 44]) (.seq (.reg [N_ 46 4 1, I_ 47 (.bslice 1 [K_ 2]), I_ 48 (.bslice 1 [K_ 4, K_ 0]), I_ 49 (.call (.c (.fn 9 [] [])) [.t 46, K_ 14, .t 47, .t 48]), M_ 45 49, I_ 50 (.extract (.t 45) 0), I_ 51 (.extract (.t 45) 1), I_ 52 (.extract (.t 45) 2), I_ 11 (.alloc [(.int .i64 0), (.slice [] .nil), (.slice [] .nil), (.slice [] .nil)]), ⟨none, .store 4 (.t 11) (.t 50), none⟩, M_ 12 51, M_ 13 52]) (.seq (.reg [N_ 54 4 1, I_ 55 (.bslice 1 [K_ 6]), I_ 56 (.call (.c (.fn 18 [] [])) [.t 54, K_ 1, .t 55]), M_ 53 56, I_ 57 (.extract (.t 53) 0), I_ 58 (.extract (.t 53) 1), I_ 59 (.extract (.t 53) 2), I_ 14 (.alloc [(.int .i64 0), (.slice [] .nil), (.slice [] .nil), (.slice [] .nil)]), ⟨none, .store 4 (.t 14) (.t 57), none⟩, M_ 15 58, M_ 16 59]) (.seq (.reg [N_ 61 4 1, I_ 62 (.bslice 1 [K_ 2, K_ 4]), I_ 63 (.call (.c (.fn 19 [] [])) [.t 61, K_ 32, K_ 3, .t 62]), M_ 60 63, I_ 64 (.extract (.t 60) 0), I_ 65 (.extract (.t 60) 1), I_ 66 (.extract (.t 60) 2), I_ 17 (.alloc [(.int .i64 0), (.slice [] .nil), (.slice [] .nil), (.slice [] .nil)]), ⟨none, .store 4 (.t 17) (.t 64), none⟩, M_ 18 65, M_ 19 66]) (.seq (.reg [I_ 68 (.call (.c (.fn 15 [] [])) [K_ 2, (.c (.int .u64 4))]), M_ 67 68, I_ 69 (.extract (.t 67) 0), I_ 70 (.extract (.t 67) 1), M_ 20 69, M_ 21 70]) (.seq (.reg [M_ 71 2, I_ 72 (.bin .eql false (.t 71) (K_ 0)), M_ 73 72, ⟨some 74, .mov (.t 5), some (73, true)⟩, ⟨some 75, .bin .eql false (.t 74) (K_ 0), some (73, true)⟩, I_ 76 (.pick (.t 73) (.t 75) (.c (.bool false))), M_ 77 76, ⟨some 78, .mov (.t 4), some (77, true)⟩, ⟨some 79, .len (.t 78), some (77, true)⟩, ⟨some 80, .bin .eql false (.t 79) (K_ 1), some (77, true)⟩, I_ 81 (.pick (.t 77) (.t 80) (.c (.bool false))), M_ 82 81, ⟨some 83, .fldA 2 (.t 3), some (82, true)⟩, ⟨some 84, .load false 1 (.t 83), some (82, true)⟩, ⟨some 85, .len (.t 84), some (82, true)⟩, ⟨some 86, .bin .eql false (.t 85) (K_ 4), some (82, true)⟩, I_ 87 (.pick (.t 82) (.t 86) (.c (.bool false))), M_ 88 87, ⟨some 89, .mov (.t 7), some (88, true)⟩, ⟨some 90, .bin .eql false (.t 89) (K_ 0), some (88, true)⟩, I_ 91 (.pick (.t 88) (.t 90) (.c (.bool false))), M_ 92 91, ⟨some 93, .mov (.t 6), some (92, true)⟩, ⟨some 94, .len (.t 93), some (92, true)⟩, ⟨some 95, .bin .eql false (.t 94) (K_ 4), some (92, true)⟩, I_ 96 (.pick (.t 92) (.t 95) (.c (.bool false))), M_ 97 96, ⟨some 98, .mov (.t 6), some (97, true)⟩, ⟨some 99, .idxS 1 (.t 98) (K_ 0), some (97, true)⟩, ⟨some 100, .load false 1 (.t 99), some (97, true)⟩, ⟨some 101, .bin .eql false (.t 100) (K_ 0), some (97, true)⟩, I_ 102 (.pick (.t 97) (.t 101) (.c (.bool false))), M_ 103 102, ⟨some 104, .mov (.t 6), some (103, true)⟩, ⟨some 105, .idxS 1 (.t 104) (K_ 1), some (103, true)⟩, ⟨some 106, .load false 1 (.t 105), some (103, true)⟩, ⟨some 107, .bin .eql false (.t 106) (K_ 1), some (103, true)⟩, I_ 108 (.pick (.t 103) (.t 107) (.c (.bool false))), M_ 109 108, ⟨some 110, .mov (.t 6), some (109, true)⟩, ⟨some 111, .idxS 1 (.t 110) (K_ 3), some (109, true)⟩, ⟨some 112, .load false 1 (.t 111), some (109, true)⟩, ⟨some 113, .bin .eql false (.t 112) (K_ 1), some (109, true)⟩, I_ 114 (.pick (.t 109) (.t 113) (.c (.bool false))), M_ 115 114, ⟨some 116, .mov (.t 10), some (115, true)⟩, ⟨some 117, .bin .eql false (.t 116) (K_ 0), some (115, true)⟩, I_ 118 (.pick (.t 115) (.t 117) (.c (.bool false))), M_ 119 118, ⟨some 120, .mov (.t 9), some (119, true)⟩, ⟨some 121, .len (.t 120), some (119, true)⟩, ⟨some 122, .bin .eql false (.t 121) (K_ 2), some (119, true)⟩, I_ 123 (.pick (.t 119) (.t 122) (.c (.bool false))), M_ 124 123, ⟨some 125, .mov (.t 9), some (124, true)⟩, ⟨some 126, .idxS 1 (.t 125) (K_ 0), some (124, true)⟩, ⟨some 127, .load false 1 (.t 126), some (124, true)⟩, ⟨some 128, .bin .eql false (.t 127) (K_ 3), some (124, true)⟩, I_ 129 (.pick (.t 124) (.t 128) (.c (.bool false))), M_ 130 129, ⟨some 131, .mov (.t 9), some (130, true)⟩, ⟨some 132, .idxS 1 (.t 131) (K_ 1), some (130, true)⟩, ⟨some 133, .load false 1 (.t 132), some (130, true)⟩, ⟨some 134, .bin .eql false (.t 133) (K_ 4), some (130, true)⟩, I_ 135 (.pick (.t 130) (.t 134) (.c (.bool false))), M_ 136 135, ⟨some 137, .mov (.t 13), some (136, true)⟩, ⟨some 138, .bin .eql false (.t 137) (K_ 1), some (136, true)⟩, I_ 139 (.pick (.t 136) (.t 138) (.c (.bool false))), M_ 140 139, ⟨some 141, .mov (.t 16), some (140, true)⟩, ⟨some 142, .bin .eql false (.t 141) (K_ 1), some (140, true)⟩, I_ 143 (.pick (.t 140) (.t 142) (.c (.bool false))), M_ 144 143, ⟨some 145, .mov (.t 19), some (144, true)⟩, ⟨some 146, .bin .eql false (.t 145) (K_ 0), some (144, true)⟩, I_ 147 (.pick (.t 144) (.t 146) (.c (.bool false))), M_ 148 147, ⟨some 149, .mov (.t 18), some (148, true)⟩, ⟨some 150, .len (.t 149), some (148, true)⟩, ⟨some 151, .bin .eql false (.t 150) (K_ 3), some (148, true)⟩, I_ 152 (.pick (.t 148) (.t 151) (.c (.bool false))), M_ 153 152, ⟨some 154, .mov (.t 18), some (153, true)⟩, ⟨some 155, .idxS 1 (.t 154) (K_ 2), some (153, true)⟩, ⟨some 156, .load false 1 (.t 155), some (153, true)⟩, ⟨some 157, .bin .eql false (.t 156) (K_ 4), some (153, true)⟩, I_ 158 (.pick (.t 153) (.t 157) (.c (.bool false))), M_ 159 158, ⟨some 160, .mov (.t 21), some (159, true)⟩, ⟨some 161, .bin .eql false (.t 160) (K_ 1), some (159, true)⟩, I_ 162 (.pick (.t 159) (.t 161) (.c (.bool false))), M_ 0 162]) (.ret))))))))))
def r7 : List ARV := [.tmp 0]
theorem b7 : Try.f7.body.bind (tr Try.prog 163) = some c7.bare := by kernel_rfl
theorem q7 : trRes Try.prog Try.f7.results.toList = some r7 := by kernel_rfl
theorem n7 : (Try.f7.name == "runtime.NumGoroutine") = false := by kernel_rfl

def c8 : ACode := .seq (.reg [I_ 2 (.boxI (.t 0)), I_ 4 (.mov (.c (.bool false)))]) (.seq (.seq (.reg [J_ 5 0]) (.block 0 (.loop (.seq (.seq (.reg [M_ 6 5, M_ 7 1, I_ 8 (.len (.t 7)), I_ 9 (.bin .lss false (.t 6) (.t 8))]) (.cond (.t 9) (.skip) (.exit 0))) (.seq (.block 1 (.seq (.reg [M_ 12 1, M_ 13 5, I_ 14 (.idxS 1 (.t 12) (.t 13)), L_ 15 14, I_ 16 (.len (.t 15)), I_ 17 (.bin .gtr false (.t 16) (K_ 8))]) (.cond (.t 17) (.seq (.reg [I_ 4 (.mov (.c (.bool false)))]) (.ret)) (.skip)))) (.reg [M_ 10 5, I_ 11 (.bin .add false (.t 10) (K_ 1)), M_ 5 11])))))) (.seq (.reg [F_ 18 0 2, L_ 19 18, I_ 20 (.bin .leq false (.t 19) (K_ 40)), M_ 21 20, ⟨some 22, .fldA 1 (.t 2), some (21, true)⟩, ⟨some 23, .load false 1 (.t 22), some (21, true)⟩, ⟨some 24, .len (.t 23), some (21, true)⟩, ⟨some 25, .bin .leq false (.t 24) (K_ 20), some (21, true)⟩, I_ 26 (.pick (.t 21) (.t 25) (.c (.bool false))), M_ 27 26, ⟨some 28, .fldA 2 (.t 2), some (27, true)⟩, ⟨some 29, .load false 1 (.t 28), some (27, true)⟩, ⟨some 30, .len (.t 29), some (27, true)⟩, ⟨some 31, .bin .leq false (.t 30) (K_ 80), some (27, true)⟩, I_ 32 (.pick (.t 27) (.t 31) (.c (.bool false))), M_ 33 32, ⟨some 34, .fldA 3 (.t 2), some (33, true)⟩, ⟨some 35, .load false 1 (.t 34), some (33, true)⟩, ⟨some 36, .len (.t 35), some (33, true)⟩, ⟨some 37, .bin .leq false (.t 36) (K_ 60), some (33, true)⟩, I_ 38 (.pick (.t 33) (.t 37) (.c (.bool false))), M_ 4 38]) (.ret)))
def r8 : List ARV := [.tmp 4]
theorem b8 : Try.f8.body.bind (tr Try.prog 39) = some c8.bare := by kernel_rfl
theorem q8 : trRes Try.prog Try.f8.results.toList = some r8 := by kernel_rfl
theorem n8 : (Try.f8.name == "runtime.NumGoroutine") = false := by kernel_rfl

def c9 : ACode := .seq (.reg [I_ 4 (.box (.t 0)), I_ 5 (.box (.t 1)), I_ 6 (.box (.t 2)), I_ 7 (.box (.t 3)), I_ 8 (.alloc [(.int .i64 0), (.slice [] .nil), (.slice [] .nil), (.slice [] .nil)]), I_ 9 (.mov (.c (.slice [] .nil))), J_ 10 0]) (.seq (.reg [I_ 12 (.mkfn 25 [] [.t 4, .t 6, .t 7, .t 5]), M_ 11 12]) (.seq (.reg [N_ 13 4 4, M_ 14 11, I_ 15 (.mkfn 28 [] [.t 5, .t 6, .t 7]), I_ 16 (.call (.c (.fn 27 [] [])) [.t 13, .t 14, .t 15]), I_ 17 (.extract (.t 16) 0), I_ 18 (.extract (.t 16) 1), I_ 19 (.extract (.t 16) 2), ⟨none, .store 4 (.t 8) (.t 17), none⟩, M_ 9 18, M_ 10 19]) (.ret)))
def r9 : List ARV := [.cell 8 true 4, .tmp 9, .tmp 10]
theorem b9 : Try.f9.body.bind (tr Try.prog 20) = some c9.bare := by kernel_rfl
theorem q9 : trRes Try.prog Try.f9.results.toList = some r9 := by kernel_rfl
theorem n9 : (Try.f9.name == "runtime.NumGoroutine") = false := by kernel_rfl

def c15 : ACode := .seq (.reg [I_ 4 (.mov (.c (.slice [] .nil))), J_ 5 0]) (.seq (.seq (.reg [M_ 7 0, M_ 8 1, I_ 9 (.build [(.int .i64 0), (.int .u64 0)] [(0, 1, (.t 7)), (1, 1, (.t 8))]), I_ 10 (.call (.c (.fn 37 [] [])) [.t 9]), M_ 5 10]) (.seq (.reg [M_ 11 5, I_ 12 (.bin .neq false (.t 11) (K_ 0))]) (.cond (.t 12) (.seq (.reg [M_ 13 5, I_ 4 (.mov (.c (.slice [] .nil))), M_ 5 13]) (.ret)) (.skip)))) (.seq (.seq (.reg [M_ 14 0, J_ 15 0]) (.block 0 (.loop (.seq (.reg [I_ 16 (.bin .lss false (.t 15) (.t 14))]) (.seq (.cond (.t 16) (.skip) (.exit 0)) (.seq (.block 1 (.seq (.reg [M_ 17 15, M_ 6 17]) (.reg [M_ 18 4, M_ 19 1, M_ 20 6, I_ 21 (.bin .shr false (.t 19) (.t 20)), I_ 22 (.bin .and false (.t 21) (.c (.int .u64 1))), I_ 23 (.conv .i64 (.t 22)), I_ 24 (.bslice 1 [.t 23]), I_ 25 (.append 1 8 (.t 18) (.t 24)), M_ 4 25]))) (.reg [I_ 26 (.bin .add false (.t 15) (K_ 1)), M_ 15 26]))))))) (.seq (.reg [M_ 27 4, M_ 28 5, M_ 4 27, M_ 5 28]) (.ret))))
def r15 : List ARV := [.tmp 4, .tmp 5]
theorem b15 : Try.f15.body.bind (tr Try.prog 29) = some c15.bare := by kernel_rfl
theorem q15 : trRes Try.prog Try.f15.results.toList = some r15 := by kernel_rfl
theorem n15 : (Try.f15.name == "runtime.NumGoroutine") = false := by kernel_rfl

def c16 : ACode := .seq (.reg [I_ 2 (.boxI (.t 0)), I_ 3 (.boxI (.t 1)), I_ 4 (.mov (.c (.bool false)))]) (.seq (.seq (.reg [F_ 8 0 2, L_ 9 8, F_ 10 0 3, L_ 11 10, I_ 12 (.bin .neq false (.t 9) (.t 11)), M_ 13 12, ⟨some 14, .fldA 1 (.t 2), some (13, false)⟩, ⟨some 15, .load false 1 (.t 14), some (13, false)⟩, ⟨some 16, .len (.t 15), some (13, false)⟩, ⟨some 17, .fldA 1 (.t 3), some (13, false)⟩, ⟨some 18, .load false 1 (.t 17), some (13, false)⟩, ⟨some 19, .len (.t 18), some (13, false)⟩, ⟨some 20, .bin .neq false (.t 16) (.t 19), some (13, false)⟩, I_ 21 (.pick (.t 13) (.c (.bool true)) (.t 20)), M_ 22 21, ⟨some 23, .fldA 2 (.t 2), some (22, false)⟩, ⟨some 24, .load false 1 (.t 23), some (22, false)⟩, ⟨some 25, .len (.t 24), some (22, false)⟩, ⟨some 26, .fldA 2 (.t 3), some (22, false)⟩, ⟨some 27, .load false 1 (.t 26), some (22, false)⟩, ⟨some 28, .len (.t 27), some (22, false)⟩, ⟨some 29, .bin .neq false (.t 25) (.t 28), some (22, false)⟩, I_ 30 (.pick (.t 22) (.c (.bool true)) (.t 29)), M_ 31 30, ⟨some 32, .fldA 3 (.t 2), some (31, false)⟩, ⟨some 33, .load false 1 (.t 32), some (31, false)⟩, ⟨some 34, .len (.t 33), some (31, false)⟩, ⟨some 35, .fldA 3 (.t 3), some (31, false)⟩, ⟨some 36, .load false 1 (.t 35), some (31, false)⟩, ⟨some 37, .len (.t 36), some (31, false)⟩, ⟨some 38, .bin .neq false (.t 34) (.t 37), some (31, false)⟩, I_ 39 (.pick (.t 31) (.c (.bool true)) (.t 38))]) (.cond (.t 39) (.seq (.reg [I_ 4 (.mov (.c (.bool false)))]) (.ret)) (.skip))) (.seq (.seq (.reg [J_ 5 0]) (.block 0 (.loop (.seq (.seq (.reg [M_ 40 5, F_ 41 1 2, L_ 42 41, I_ 43 (.len (.t 42)), I_ 44 (.bin .lss false (.t 40) (.t 43))]) (.cond (.t 44) (.skip) (.exit 0))) (.seq (.block 1 (.seq (.drw [F_ 47 1 2, L_ 48 47, M_ 49 5, I_ 50 (.idxS 2 (.t 48) (.t 49)), N_ 51 2 50, F_ 52 1 3, L_ 53 52, M_ 54 5, I_ 55 (.idxS 2 (.t 53) (.t 54)), N_ 56 2 55, I_ 57 (.eqs true [0, 1] (.t 51) (.t 56))] []) (.cond (.t 57) (.seq (.reg [I_ 4 (.mov (.c (.bool false)))]) (.ret)) (.skip)))) (.reg [M_ 45 5, I_ 46 (.bin .add false (.t 45) (K_ 1)), M_ 5 46])))))) (.seq (.seq (.reg [J_ 6 0]) (.block 2 (.loop (.seq (.seq (.reg [M_ 58 6, F_ 59 2 2, L_ 60 59, I_ 61 (.len (.t 60)), I_ 62 (.bin .lss false (.t 58) (.t 61))]) (.cond (.t 62) (.skip) (.exit 2))) (.seq (.block 3 (.seq (.drw [F_ 65 2 2, L_ 66 65, M_ 67 6, I_ 68 (.idxS 2 (.t 66) (.t 67)), N_ 69 2 68, F_ 70 2 3, L_ 71 70, M_ 72 6, I_ 73 (.idxS 2 (.t 71) (.t 72)), N_ 74 2 73, I_ 75 (.eqs true [0, 0] (.t 69) (.t 74))] []) (.cond (.t 75) (.seq (.reg [I_ 4 (.mov (.c (.bool false)))]) (.ret)) (.skip)))) (.reg [M_ 63 6, I_ 64 (.bin .add false (.t 63) (K_ 1)), M_ 6 64])))))) (.seq (.seq (.reg [J_ 7 0]) (.block 4 (.loop (.seq (.seq (.reg [M_ 76 7, F_ 77 3 2, L_ 78 77, I_ 79 (.len (.t 78)), I_ 80 (.bin .lss false (.t 76) (.t 79))]) (.cond (.t 80) (.skip) (.exit 4))) (.seq (.block 5 (.seq (.drw [F_ 83 3 2, L_ 84 83, M_ 85 7, I_ 86 (.idxS 1 (.t 84) (.t 85)), L_ 87 86, F_ 88 3 3, L_ 89 88, M_ 90 7, I_ 91 (.idxS 1 (.t 89) (.t 90)), L_ 92 91, I_ 93 (.bin .neq false (.t 87) (.t 92))] []) (.cond (.t 93) (.seq (.reg [I_ 4 (.mov (.c (.bool false)))]) (.ret)) (.skip)))) (.reg [M_ 81 7, I_ 82 (.bin .add false (.t 81) (K_ 1)), M_ 7 82])))))) (.seq (.reg [I_ 4 (.mov (.c (.bool true)))]) (.ret))))))
def r16 : List ARV := [.tmp 4]
theorem b16 : Try.f16.body.bind (tr Try.prog 94) = some c16.bare := by kernel_rfl
theorem q16 : trRes Try.prog Try.f16.results.toList = some r16 := by kernel_rfl
theorem n16 : (Try.f16.name == "runtime.NumGoroutine") = false := by kernel_rfl

def c17 : ACode := .seq (.reg [I_ 4 (.mov (.c (.bool false)))]) (.seq (.seq (.reg [M_ 6 0, I_ 7 (.len (.t 6)), M_ 8 1, I_ 9 (.len (.t 8)), I_ 10 (.bin .neq false (.t 7) (.t 9))]) (.cond (.t 10) (.seq (.reg [I_ 4 (.mov (.c (.bool false)))]) (.ret)) (.skip))) (.seq (.seq (.reg [J_ 5 0]) (.block 0 (.loop (.seq (.seq (.reg [M_ 11 5, M_ 12 0, I_ 13 (.len (.t 12)), I_ 14 (.bin .lss false (.t 11) (.t 13))]) (.cond (.t 14) (.skip) (.exit 0))) (.seq (.block 1 (.seq (.drw [M_ 17 0, M_ 18 5, I_ 19 (.idxS 1 (.t 17) (.t 18)), L_ 20 19, M_ 21 1, M_ 22 5, I_ 23 (.idxS 1 (.t 21) (.t 22)), L_ 24 23, I_ 25 (.bin .neq false (.t 20) (.t 24))] []) (.cond (.t 25) (.seq (.reg [I_ 4 (.mov (.c (.bool false)))]) (.ret)) (.skip)))) (.reg [M_ 15 5, I_ 16 (.bin .add false (.t 15) (K_ 1)), M_ 5 16])))))) (.seq (.reg [I_ 4 (.mov (.c (.bool true)))]) (.ret))))
def r17 : List ARV := [.tmp 4]
theorem b17 : Try.f17.body.bind (tr Try.prog 26) = some c17.bare := by kernel_rfl
theorem q17 : trRes Try.prog Try.f17.results.toList = some r17 := by kernel_rfl
theorem n17 : (Try.f17.name == "runtime.NumGoroutine") = false := by kernel_rfl

def c18 : ACode := .seq (.reg [I_ 3 (.box (.t 0)), I_ 4 (.box (.t 1)), I_ 5 (.box (.t 2)), I_ 6 (.alloc [(.int .i64 0), (.slice [] .nil), (.slice [] .nil), (.slice [] .nil)]), I_ 7 (.mov (.c (.slice [] .nil))), J_ 8 0]) (.seq (.reg [I_ 10 (.mkfn 38 [] [.t 3, .t 5, .t 4]), M_ 9 10]) (.seq (.reg [N_ 11 4 3, M_ 12 9, I_ 13 (.mkfn 39 [] [.t 4, .t 5]), I_ 14 (.call (.c (.fn 27 [] [])) [.t 11, .t 12, .t 13]), I_ 15 (.extract (.t 14) 0), I_ 16 (.extract (.t 14) 1), I_ 17 (.extract (.t 14) 2), ⟨none, .store 4 (.t 6) (.t 15), none⟩, M_ 7 16, M_ 8 17]) (.ret)))
def r18 : List ARV := [.cell 6 true 4, .tmp 7, .tmp 8]
theorem b18 : Try.f18.body.bind (tr Try.prog 18) = some c18.bare := by kernel_rfl
theorem q18 : trRes Try.prog Try.f18.results.toList = some r18 := by kernel_rfl
theorem n18 : (Try.f18.name == "runtime.NumGoroutine") = false := by kernel_rfl

def c19 : ACode := .seq (.reg [I_ 4 (.box (.t 0)), I_ 5 (.box (.t 1)), I_ 6 (.box (.t 2)), I_ 7 (.box (.t 3)), I_ 8 (.alloc [(.int .i64 0), (.slice [] .nil), (.slice [] .nil), (.slice [] .nil)]), I_ 9 (.mov (.c (.slice [] .nil))), J_ 10 0]) (.seq (.reg [I_ 12 (.mkfn 41 [] [.t 4, .t 7, .t 6, .t 5]), M_ 11 12]) (.seq (.reg [N_ 13 4 4, M_ 14 11, I_ 15 (.mkfn 42 [] [.t 5, .t 6, .t 7]), I_ 16 (.call (.c (.fn 27 [] [])) [.t 13, .t 14, .t 15]), I_ 17 (.extract (.t 16) 0), I_ 18 (.extract (.t 16) 1), I_ 19 (.extract (.t 16) 2), ⟨none, .store 4 (.t 8) (.t 17), none⟩, M_ 9 18, M_ 10 19]) (.ret)))
def r19 : List ARV := [.cell 8 true 4, .tmp 9, .tmp 10]
theorem b19 : Try.f19.body.bind (tr Try.prog 20) = some c19.bare := by kernel_rfl
theorem q19 : trRes Try.prog Try.f19.results.toList = some r19 := by kernel_rfl
theorem n19 : (Try.f19.name == "runtime.NumGoroutine") = false := by kernel_rfl

def c24 : ACode := .seq (.reg [I_ 4 (.alloc [(.int .i64 0), (.slice [] .nil), (.slice [] .nil), (.slice [] .nil)]), J_ 5 0]) (.seq (.block 0 (.seq (.reg [M_ 10 0, I_ 11 (.bin .lss false (.t 10) (K_ 0)), M_ 9 11]) (.cond (.t 9) (.seq (.reg [I_ 12 (.build [(.int .i64 0), (.slice [] .nil), (.slice [] .nil), (.slice [] .nil)] []), ⟨none, .store 4 (.t 4) (.t 12), none⟩, J_ 5 1]) (.ret)) (.seq (.reg [M_ 14 0, M_ 15 1, I_ 16 (.len (.t 15)), I_ 17 (.bin .sub false (K_ 65536) (.t 16)), I_ 18 (.bin .gtr false (.t 14) (.t 17)), M_ 13 18]) (.cond (.t 13) (.seq (.reg [I_ 19 (.build [(.int .i64 0), (.slice [] .nil), (.slice [] .nil), (.slice [] .nil)] []), ⟨none, .store 4 (.t 4) (.t 19), none⟩, J_ 5 2]) (.ret)) (.skip)))))) (.seq (.reg [M_ 20 0, I_ 21 (.build [(.int .i64 0), (.slice [] .nil), (.slice [] .nil), (.slice [] .nil)] [(0, 1, (.t 20))]), I_ 6 (.alloc [(.int .i64 0), (.slice [] .nil), (.slice [] .nil), (.slice [] .nil)]), ⟨none, .store 4 (.t 6) (.t 21), none⟩]) (.seq (.seq (.reg [M_ 22 1, I_ 23 (.len (.t 22)), J_ 24 0]) (.block 1 (.loop (.seq (.reg [I_ 25 (.bin .lss false (.t 24) (.t 23))]) (.seq (.cond (.t 25) (.skip) (.exit 1)) (.seq (.block 2 (.seq (.reg [I_ 26 (.idxS 1 (.t 22) (.t 24)), L_ 27 26, M_ 8 27]) (.reg [F_ 28 1 6, L_ 29 28, M_ 30 8, I_ 31 (.build [(.int .i64 0), (.bool false)] [(1, 1, (.t 30))]), I_ 32 (.bslice 2 [.t 31]), I_ 33 (.append 2 16 (.t 29) (.t 32)), F_ 34 1 6, ⟨none, .store 1 (.t 34) (.t 33), none⟩]))) (.reg [I_ 35 (.bin .add false (.t 24) (K_ 1)), M_ 24 35]))))))) (.seq (.reg [N_ 36 4 6, ⟨none, .store 4 (.t 4) (.t 36), none⟩, J_ 5 0]) (.ret)))))
def r24 : List ARV := [.cell 4 true 4, .tmp 5]
theorem b24 : Try.f24.body.bind (tr Try.prog 37) = some c24.bare := by kernel_rfl
theorem q24 : trRes Try.prog Try.f24.results.toList = some r24 := by kernel_rfl
theorem n24 : (Try.f24.name == "runtime.NumGoroutine") = false := by kernel_rfl

def c25 : ACode := .seq (.reg [I_ 4 (.mov (.c (.bool false)))]) (.seq (.block 0 (.seq (.reg [N_ 6 4 0, L_ 7 1, I_ 8 (.call (.c (.fn 26 [] [])) [.t 6, .t 7]), I_ 9 (.un .not (.t 8)), M_ 10 9, ⟨some 11, .load true 4 (.t 0), some (10, false)⟩, ⟨some 12, .load false 1 (.t 2), some (10, false)⟩, ⟨some 13, .call (.c (.fn 26 [] [])) [.t 11, .t 12], some (10, false)⟩, ⟨some 14, .un .not (.t 13), some (10, false)⟩, I_ 15 (.pick (.t 10) (.c (.bool true)) (.t 14)), M_ 16 15, ⟨some 17, .load false 1 (.t 3), some (16, false)⟩, ⟨some 18, .bin .lss false (.t 17) (K_ 11), some (16, false)⟩, I_ 19 (.pick (.t 16) (.c (.bool true)) (.t 18)), M_ 20 19, ⟨some 21, .load false 1 (.t 3), some (20, false)⟩, ⟨some 22, .bin .gtr false (.t 21) (K_ 26), some (20, false)⟩, I_ 23 (.pick (.t 20) (.c (.bool true)) (.t 22)), M_ 5 23]) (.cond (.t 5) (.seq (.reg [I_ 4 (.mov (.c (.bool false)))]) (.ret)) (.seq (.reg [L_ 25 3, I_ 26 (.bin .eql false (.t 25) (K_ 17)), M_ 27 26, ⟨some 28, .load false 1 (.t 3), some (27, false)⟩, ⟨some 29, .bin .eql false (.t 28) (K_ 18), some (27, false)⟩, I_ 30 (.pick (.t 27) (.c (.bool true)) (.t 29)), M_ 24 30]) (.cond (.t 24) (.seq (.reg [I_ 4 (.mov (.c (.bool true)))]) (.ret)) (.skip)))))) (.seq (.reg [L_ 31 1, I_ 32 (.len (.t 31)), L_ 33 2, I_ 34 (.len (.t 33)), I_ 35 (.bin .eql false (.t 32) (.t 34)), M_ 36 35, ⟨some 37, .load false 1 (.t 3), some (36, true)⟩, ⟨some 38, .bin .lss false (.t 37) (K_ 25), some (36, true)⟩, ⟨some 39, .mov (.t 38), some (36, true)⟩, ⟨some 40, .load false 1 (.t 1), some (39, false)⟩, ⟨some 41, .len (.t 40), some (39, false)⟩, ⟨some 42, .bin .eql false (.t 41) (K_ 1), some (39, false)⟩, ⟨some 43, .pick (.t 39) (.c (.bool true)) (.t 42), some (36, true)⟩, I_ 44 (.pick (.t 36) (.t 43) (.c (.bool false))), M_ 4 44]) (.ret)))
def r25 : List ARV := [.tmp 4]
theorem b25 : Try.f25.body.bind (tr Try.prog 45) = some c25.bare := by kernel_rfl
theorem q25 : trRes Try.prog Try.f25.results.toList = some r25 := by kernel_rfl
theorem n25 : (Try.f25.name == "runtime.NumGoroutine") = false := by kernel_rfl

def c26 : ACode := .seq (.reg [I_ 2 (.boxI (.t 0)), I_ 4 (.mov (.c (.bool false)))]) (.seq (.reg [F_ 6 0 2, L_ 7 6, I_ 8 (.bin .add false (K_ 1) (.t 7)), F_ 9 1 2, L_ 10 9, I_ 11 (.len (.t 10)), I_ 12 (.bin .add false (.t 8) (.t 11)), F_ 13 2 2, L_ 14 13, I_ 15 (.len (.t 14)), I_ 16 (.bin .add false (.t 12) (.t 15)), I_ 17 (.bin .mul false (K_ 2) (.t 16)), I_ 5 (.alloc [(.int .i64 0)]), ⟨none, .store 1 (.t 5) (.t 17), none⟩]) (.seq (.reg [M_ 18 1, I_ 19 (.len (.t 18)), I_ 20 (.bin .gtr false (.t 19) (K_ 0)), M_ 21 20, ⟨some 22, .mov (.t 1), some (21, true)⟩, ⟨some 23, .len (.t 22), some (21, true)⟩, ⟨some 24, .bin .leq false (.t 23) (K_ 64), some (21, true)⟩, I_ 25 (.pick (.t 21) (.t 24) (.c (.bool false))), M_ 26 25, ⟨some 27, .mov (.t 1), some (26, true)⟩, ⟨some 28, .mkfn 49 [] [.t 5], some (26, true)⟩, ⟨some 29, .call (.c (.fn 48 [] [])) [.t 27, .t 28], some (26, true)⟩, ⟨some 30, .un .not (.t 29), some (26, true)⟩, I_ 31 (.pick (.t 26) (.t 30) (.c (.bool false))), M_ 4 31]) (.ret)))
def r26 : List ARV := [.tmp 4]
theorem b26 : Try.f26.body.bind (tr Try.prog 32) = some c26.bare := by kernel_rfl
theorem q26 : trRes Try.prog Try.f26.results.toList = some r26 := by kernel_rfl
theorem n26 : (Try.f26.name == "runtime.NumGoroutine") = false := by kernel_rfl

def c27 : ACode := .seq (.reg [I_ 3 (.boxI (.t 0)), I_ 6 (.alloc [(.int .i64 0), (.slice [] .nil), (.slice [] .nil), (.slice [] .nil)]), I_ 7 (.mov (.c (.slice [] .nil))), J_ 8 0]) (.seq (.seq (.reg [N_ 12 4 3, I_ 13 (.call (.c (.fn 50 [] [])) [.t 12]), M_ 9 13]) (.seq (.reg [M_ 14 9, I_ 15 (.bin .neq false (.t 14) (K_ 0))]) (.cond (.t 15) (.seq (.reg [I_ 16 (.build [(.int .i64 0), (.slice [] .nil), (.slice [] .nil), (.slice [] .nil)] []), M_ 17 9, ⟨none, .store 4 (.t 6) (.t 16), none⟩, I_ 7 (.mov (.c (.slice [] .nil))), M_ 8 17]) (.ret)) (.skip)))) (.seq (.seq (.reg [M_ 18 1, I_ 19 (.call (.t 18) []), I_ 20 (.un .not (.t 19))]) (.cond (.t 20) (.seq (.reg [I_ 21 (.build [(.int .i64 0), (.slice [] .nil), (.slice [] .nil), (.slice [] .nil)] []), ⟨none, .store 4 (.t 6) (.t 21), none⟩, I_ 7 (.mov (.c (.slice [] .nil))), J_ 8 1]) (.ret)) (.skip))) (.seq (.reg [N_ 22 4 3, I_ 23 (.build [(.int .i64 0), (.slice [] .nil), (.slice [] .nil), (.slice [] .nil), (.int .i64 0)] [(0, 4, (.t 22))]), I_ 24 (.box (.t 23)), M_ 10 24]) (.seq (.reg [M_ 25 2, M_ 26 10, I_ 27 (.call (.t 25) [.t 26]), M_ 11 27]) (.seq (.seq (.reg [M_ 28 10, I_ 29 (.nilchk (.t 28)), F_ 30 4 29, L_ 31 30, I_ 32 (.bin .neq false (.t 31) (K_ 0))]) (.cond (.t 32) (.seq (.drw [I_ 33 (.build [(.int .i64 0), (.slice [] .nil), (.slice [] .nil), (.slice [] .nil)] []), M_ 34 10, I_ 35 (.nilchk (.t 34)), F_ 36 4 35, L_ 37 36, ⟨none, .store 4 (.t 6) (.t 33), none⟩, I_ 7 (.mov (.c (.slice [] .nil))), M_ 8 37] [(4, 5)]) (.ret)) (.skip))) (.seq (.reg [M_ 38 10, I_ 39 (.nilchk (.t 38)), F_ 40 0 39, N_ 41 4 40, M_ 42 11, ⟨none, .store 4 (.t 6) (.t 41), none⟩, M_ 7 42, J_ 8 0]) (.ret)))))))
def r27 : List ARV := [.cell 6 true 4, .tmp 7, .tmp 8]
theorem b27 : Try.f27.body.bind (tr Try.prog 43) = some c27.bare := by kernel_rfl
theorem q27 : trRes Try.prog Try.f27.results.toList = some r27 := by kernel_rfl
theorem n27 : (Try.f27.name == "runtime.NumGoroutine") = false := by kernel_rfl

def c28 : ACode := .seq (.reg [I_ 5 (.mov (.c (.slice [] .nil)))]) (.seq (.reg [M_ 6 0, L_ 7 1, L_ 8 2, L_ 9 3, I_ 10 (.call (.c (.fn 29 [] [])) [.t 6, .t 7, .t 8, .t 9]), M_ 5 10]) (.ret))
def r28 : List ARV := [.tmp 5]
theorem b28 : Try.f28.body.bind (tr Try.prog 11) = some c28.bare := by kernel_rfl
theorem q28 : trRes Try.prog Try.f28.results.toList = some r28 := by kernel_rfl
theorem n28 : (Try.f28.name == "runtime.NumGoroutine") = false := by kernel_rfl

def c29 : ACode := .seq (.reg [I_ 8 (.mov (.c (.slice [] .nil)))]) (.seq (.seq (.reg [M_ 13 1]) (.block 0 (.seq (.seq (.reg [I_ 15 (.bin .eql false (.t 13) (K_ 11)), M_ 14 15]) (.cond (.t 14) (.skip) (.reg [I_ 16 (.bin .eql false (.t 13) (K_ 25)), M_ 14 16]))) (.cond (.t 14) (.seq (.reg [M_ 17 2, M_ 18 3, M_ 19 0, I_ 20 (.mkfn 52 [.t 19] []), I_ 21 (.call (.c (.fn 51 [] [])) [.t 17, .t 18, .t 20]), M_ 8 21]) (.ret)) (.seq (.seq (.reg [I_ 23 (.bin .eql false (.t 13) (K_ 12)), M_ 22 23]) (.cond (.t 22) (.skip) (.reg [I_ 24 (.bin .eql false (.t 13) (K_ 26)), M_ 22 24]))) (.cond (.t 22) (.seq (.reg [M_ 25 2, M_ 26 3, M_ 27 0, I_ 28 (.mkfn 53 [.t 27] []), I_ 29 (.call (.c (.fn 51 [] [])) [.t 25, .t 26, .t 28]), M_ 8 29]) (.ret)) (.seq (.reg [I_ 31 (.bin .eql false (.t 13) (K_ 13)), M_ 30 31]) (.cond (.t 30) (.seq (.reg [M_ 32 2, M_ 33 3, M_ 34 0, I_ 35 (.mkfn 54 [.t 34] []), I_ 36 (.call (.c (.fn 51 [] [])) [.t 32, .t 33, .t 35]), M_ 8 36]) (.ret)) (.seq (.reg [I_ 38 (.bin .eql false (.t 13) (K_ 14)), M_ 37 38]) (.cond (.t 37) (.seq (.reg [M_ 40 0, M_ 41 2, M_ 42 3, I_ 43 (.call (.c (.fn 55 [] [])) [.t 40, .t 41, .t 42, K_ 0]), M_ 39 43, I_ 44 (.extract (.t 39) 0), I_ 45 (.extract (.t 39) 1), M_ 9 44, M_ 10 45]) (.seq (.reg [M_ 46 9, M_ 8 46]) (.ret))) (.seq (.reg [I_ 48 (.bin .eql false (.t 13) (K_ 15)), M_ 47 48]) (.cond (.t 47) (.seq (.reg [M_ 50 0, M_ 51 2, M_ 52 3, I_ 53 (.call (.c (.fn 56 [] [])) [.t 52]), I_ 54 (.call (.c (.fn 55 [] [])) [.t 50, .t 51, .t 53, K_ 1]), M_ 49 54, I_ 55 (.extract (.t 49) 0), I_ 56 (.extract (.t 49) 1), M_ 11 55, M_ 12 56]) (.seq (.reg [M_ 57 11, M_ 8 57]) (.ret))) (.seq (.reg [I_ 59 (.bin .eql false (.t 13) (K_ 16)), M_ 58 59]) (.cond (.t 58) (.seq (.reg [M_ 60 0, M_ 61 2, M_ 62 3, I_ 63 (.call (.c (.fn 57 [] [])) [.t 60, .t 61, .t 62]), M_ 8 63]) (.ret)) (.seq (.reg [I_ 65 (.bin .eql false (.t 13) (K_ 17)), M_ 64 65]) (.cond (.t 64) (.seq (.reg [M_ 66 0, M_ 67 2, M_ 68 3, I_ 69 (.call (.c (.fn 58 [] [])) [.t 66, .t 67, .t 68, K_ 1]), M_ 8 69]) (.ret)) (.seq (.reg [I_ 71 (.bin .eql false (.t 13) (K_ 18)), M_ 70 71]) (.cond (.t 70) (.seq (.reg [M_ 72 0, M_ 73 2, M_ 74 3, I_ 75 (.call (.c (.fn 58 [] [])) [.t 72, .t 73, .t 74, (.c (.int .i64 (-1)))]), M_ 8 75]) (.ret)) (.seq (.reg [I_ 77 (.bin .eql false (.t 13) (K_ 19)), M_ 76 77]) (.cond (.t 76) (.seq (.reg [M_ 78 2, M_ 79 3, M_ 80 0, I_ 81 (.mkfn 54 [.t 80] []), I_ 82 (.call (.c (.fn 51 [] [])) [.t 78, .t 79, .t 81]), I_ 83 (.call (.c (.fn 60 [] [])) [.t 82]), M_ 84 0, I_ 85 (.mkfn 52 [.t 84] []), I_ 86 (.call (.c (.fn 59 [] [])) [K_ 1, .t 83, .t 85]), I_ 87 (.bslice 1 [.t 86]), M_ 8 87]) (.ret)) (.seq (.reg [I_ 89 (.bin .eql false (.t 13) (K_ 20)), M_ 88 89]) (.cond (.t 88) (.seq (.reg [M_ 90 0, M_ 91 2, M_ 92 3, I_ 93 (.call (.c (.fn 29 [] [])) [.t 90, K_ 19, .t 91, .t 92]), I_ 94 (.call (.c (.fn 56 [] [])) [.t 93]), M_ 8 94]) (.ret)) (.seq (.reg [I_ 96 (.bin .eql false (.t 13) (K_ 21)), M_ 95 96]) (.cond (.t 95) (.seq (.reg [M_ 97 0, M_ 98 2, M_ 99 3, I_ 100 (.call (.c (.fn 61 [] [])) [.t 97, .t 98, .t 99]), I_ 101 (.bslice 1 [.t 100]), M_ 8 101]) (.ret)) (.seq (.reg [I_ 103 (.bin .eql false (.t 13) (K_ 23)), M_ 102 103]) (.cond (.t 102) (.seq (.reg [M_ 104 0, M_ 105 3, M_ 106 2, I_ 107 (.call (.c (.fn 61 [] [])) [.t 104, .t 105, .t 106]), I_ 108 (.bslice 1 [.t 107]), M_ 8 108]) (.ret)) (.seq (.reg [I_ 110 (.bin .eql false (.t 13) (K_ 22)), M_ 109 110]) (.cond (.t 109) (.seq (.reg [M_ 111 0, M_ 112 3, M_ 113 2, I_ 114 (.call (.c (.fn 61 [] [])) [.t 111, .t 112, .t 113]), I_ 115 (.bin .xor false (K_ 1) (.t 114)), I_ 116 (.bslice 1 [.t 115]), M_ 8 116]) (.ret)) (.skip))))))))))))))))))))))))))))) (.seq (.reg [M_ 117 0, M_ 118 2, M_ 119 3, I_ 120 (.call (.c (.fn 61 [] [])) [.t 117, .t 118, .t 119]), I_ 121 (.bin .xor false (K_ 1) (.t 120)), I_ 122 (.bslice 1 [.t 121]), M_ 8 122]) (.ret)))
def r29 : List ARV := [.tmp 8]
theorem b29 : Try.f29.body.bind (tr Try.prog 123) = some c29.bare := by kernel_rfl
theorem q29 : trRes Try.prog Try.f29.results.toList = some r29 := by kernel_rfl
theorem n29 : (Try.f29.name == "runtime.NumGoroutine") = false := by kernel_rfl

def c37 : ACode := .seq (.reg [I_ 1 (.boxI (.t 0)), J_ 2 0]) (.seq (.seq (.reg [N_ 3 2 1, I_ 4 (.call (.c (.fn 64 [] [])) [.t 3]), I_ 5 (.un .not (.t 4))]) (.cond (.t 5) (.seq (.reg [J_ 2 1]) (.ret)) (.skip))) (.seq (.reg [J_ 2 0]) (.ret)))
def r37 : List ARV := [.tmp 2]
theorem b37 : Try.f37.body.bind (tr Try.prog 6) = some c37.bare := by kernel_rfl
theorem q37 : trRes Try.prog Try.f37.results.toList = some r37 := by kernel_rfl
theorem n37 : (Try.f37.name == "runtime.NumGoroutine") = false := by kernel_rfl

def c38 : ACode := .seq (.reg [I_ 3 (.mov (.c (.bool false)))]) (.seq (.reg [N_ 4 4 0, L_ 5 1, I_ 6 (.call (.c (.fn 26 [] [])) [.t 4, .t 5]), M_ 7 6, ⟨some 8, .load false 1 (.t 2), some (7, true)⟩, ⟨some 9, .bin .leq false (K_ 1) (.t 8), some (7, true)⟩, I_ 10 (.pick (.t 7) (.t 9) (.c (.bool false))), M_ 11 10, ⟨some 12, .load false 1 (.t 2), some (11, true)⟩, ⟨some 13, .bin .leq false (.t 12) (K_ 6), some (11, true)⟩, I_ 14 (.pick (.t 11) (.t 13) (.c (.bool false))), M_ 15 14, ⟨some 16, .load false 1 (.t 2), some (15, true)⟩, ⟨some 17, .bin .neq false (.t 16) (K_ 6), some (15, true)⟩, ⟨some 18, .mov (.t 17), some (15, true)⟩, ⟨some 19, .load false 1 (.t 1), some (18, false)⟩, ⟨some 20, .len (.t 19), some (18, false)⟩, ⟨some 21, .bin .eql false (.t 20) (K_ 1), some (18, false)⟩, ⟨some 22, .pick (.t 18) (.c (.bool true)) (.t 21), some (15, true)⟩, I_ 23 (.pick (.t 15) (.t 22) (.c (.bool false))), M_ 3 23]) (.ret))
def r38 : List ARV := [.tmp 3]
theorem b38 : Try.f38.body.bind (tr Try.prog 24) = some c38.bare := by kernel_rfl
theorem q38 : trRes Try.prog Try.f38.results.toList = some r38 := by kernel_rfl
theorem n38 : (Try.f38.name == "runtime.NumGoroutine") = false := by kernel_rfl

def c39 : ACode := .seq (.reg [I_ 4 (.mov (.c (.slice [] .nil)))]) (.seq (.reg [M_ 5 0, L_ 6 1, L_ 7 2, I_ 8 (.call (.c (.fn 40 [] [])) [.t 5, .t 6, .t 7]), M_ 4 8]) (.ret))
def r39 : List ARV := [.tmp 4]
theorem b39 : Try.f39.body.bind (tr Try.prog 9) = some c39.bare := by kernel_rfl
theorem q39 : trRes Try.prog Try.f39.results.toList = some r39 := by kernel_rfl
theorem n39 : (Try.f39.name == "runtime.NumGoroutine") = false := by kernel_rfl

def c40 : ACode := .seq (.reg [I_ 6 (.mov (.c (.slice [] .nil)))]) (.seq (.seq (.reg [M_ 9 1]) (.block 0 (.seq (.reg [I_ 11 (.bin .eql false (.t 9) (K_ 1)), M_ 10 11]) (.cond (.t 10) (.seq (.reg [M_ 12 2, I_ 13 (.call (.c (.fn 56 [] [])) [.t 12]), M_ 6 13]) (.ret)) (.seq (.reg [I_ 15 (.bin .eql false (.t 9) (K_ 2)), M_ 14 15]) (.cond (.t 14) (.seq (.drw [M_ 17 0, M_ 18 2, I_ 19 (.call (.c (.fn 56 [] [])) [.t 18]), M_ 20 2, I_ 21 (.len (.t 20)), I_ 22 (.mkslice 1 8 [(.int .i64 0)] false (.t 21) (.t 21)), I_ 23 (.call (.c (.fn 55 [] [])) [.t 17, .t 19, .t 22, K_ 1]), M_ 16 23, I_ 24 (.extract (.t 16) 0), I_ 25 (.extract (.t 16) 1), M_ 7 24, M_ 8 25] []) (.seq (.reg [M_ 26 7, M_ 6 26]) (.ret))) (.seq (.reg [I_ 28 (.bin .eql false (.t 9) (K_ 3)), M_ 27 28]) (.cond (.t 27) (.seq (.reg [M_ 29 2, I_ 30 (.call (.c (.fn 65 [] [])) [.t 29]), M_ 31 0, I_ 32 (.mkfn 52 [.t 31] []), I_ 33 (.call (.c (.fn 59 [] [])) [K_ 1, .t 30, .t 32]), I_ 34 (.bslice 1 [.t 33]), M_ 6 34]) (.ret)) (.seq (.reg [I_ 36 (.bin .eql false (.t 9) (K_ 4)), M_ 35 36]) (.cond (.t 35) (.seq (.reg [M_ 37 2, I_ 38 (.call (.c (.fn 60 [] [])) [.t 37]), M_ 39 0, I_ 40 (.mkfn 52 [.t 39] []), I_ 41 (.call (.c (.fn 59 [] [])) [K_ 1, .t 38, .t 40]), I_ 42 (.bin .xor false (K_ 1) (.t 41)), I_ 43 (.bslice 1 [.t 42]), M_ 6 43]) (.ret)) (.seq (.reg [I_ 45 (.bin .eql false (.t 9) (K_ 5)), M_ 44 45]) (.cond (.t 44) (.seq (.reg [M_ 46 2, I_ 47 (.call (.c (.fn 65 [] [])) [.t 46]), M_ 48 0, I_ 49 (.mkfn 54 [.t 48] []), I_ 50 (.call (.c (.fn 59 [] [])) [K_ 0, .t 47, .t 49]), I_ 51 (.bslice 1 [.t 50]), M_ 6 51]) (.ret)) (.skip))))))))))))) (.seq (.reg [M_ 52 2, I_ 53 (.slc 1 (.t 52) none (some (K_ 1)) none), I_ 54 (.call (.c (.fn 56 [] [])) [.t 53]), M_ 6 54]) (.ret)))
def r40 : List ARV := [.tmp 6]
theorem b40 : Try.f40.body.bind (tr Try.prog 55) = some c40.bare := by kernel_rfl
theorem q40 : trRes Try.prog Try.f40.results.toList = some r40 := by kernel_rfl
theorem n40 : (Try.f40.name == "runtime.NumGoroutine") = false := by kernel_rfl

def c41 : ACode := .seq (.reg [I_ 4 (.mov (.c (.bool false)))]) (.seq (.seq (.reg [N_ 5 4 0, L_ 6 1, I_ 7 (.call (.c (.fn 26 [] [])) [.t 5, .t 6]), I_ 8 (.un .not (.t 7)), M_ 9 8, ⟨some 10, .load false 1 (.t 2), some (9, false)⟩, ⟨some 11, .bin .lss false (.t 10) (K_ 1), some (9, false)⟩, I_ 12 (.pick (.t 9) (.c (.bool true)) (.t 11)), M_ 13 12, ⟨some 14, .load false 1 (.t 2), some (13, false)⟩, ⟨some 15, .bin .gtr false (.t 14) (K_ 64), some (13, false)⟩, I_ 16 (.pick (.t 13) (.c (.bool true)) (.t 15)), M_ 17 16, ⟨some 18, .load false 1 (.t 3), some (17, false)⟩, ⟨some 19, .bin .lss false (.t 18) (K_ 31), some (17, false)⟩, I_ 20 (.pick (.t 17) (.c (.bool true)) (.t 19)), M_ 21 20, ⟨some 22, .load false 1 (.t 3), some (21, false)⟩, ⟨some 23, .bin .gtr false (.t 22) (K_ 33), some (21, false)⟩, I_ 24 (.pick (.t 21) (.c (.bool true)) (.t 23))]) (.cond (.t 24) (.seq (.reg [I_ 4 (.mov (.c (.bool false)))]) (.ret)) (.skip))) (.seq (.reg [L_ 25 2, L_ 26 1, I_ 27 (.len (.t 26)), I_ 28 (.bin .eql false (.t 25) (.t 27)), M_ 29 28, ⟨some 30, .load false 1 (.t 2), some (29, false)⟩, ⟨some 31, .load false 1 (.t 1), some (29, false)⟩, ⟨some 32, .len (.t 31), some (29, false)⟩, ⟨some 33, .bin .lss false (.t 30) (.t 32), some (29, false)⟩, ⟨some 34, .load false 1 (.t 3), some (29, false)⟩, ⟨some 35, .bin .eql false (.t 34) (K_ 33), some (29, false)⟩, ⟨some 36, .bin .eql true (.t 33) (.t 35), some (29, false)⟩, I_ 37 (.pick (.t 29) (.c (.bool true)) (.t 36)), M_ 4 37]) (.ret)))
def r41 : List ARV := [.tmp 4]
theorem b41 : Try.f41.body.bind (tr Try.prog 38) = some c41.bare := by kernel_rfl
theorem q41 : trRes Try.prog Try.f41.results.toList = some r41 := by kernel_rfl
theorem n41 : (Try.f41.name == "runtime.NumGoroutine") = false := by kernel_rfl

def c42 : ACode := .seq (.reg [I_ 5 (.mov (.c (.slice [] .nil)))]) (.seq (.reg [L_ 6 1, L_ 7 2, L_ 8 3, I_ 9 (.call (.c (.fn 43 [] [])) [.t 6, .t 7, .t 8]), M_ 5 9]) (.ret))
def r42 : List ARV := [.tmp 5]
theorem b42 : Try.f42.body.bind (tr Try.prog 10) = some c42.bare := by kernel_rfl
theorem q42 : trRes Try.prog Try.f42.results.toList = some r42 := by kernel_rfl
theorem n42 : (Try.f42.name == "runtime.NumGoroutine") = false := by kernel_rfl

def c43 : ACode := .seq (.reg [I_ 6 (.mov (.c (.slice [] .nil)))]) (.seq (.seq (.reg [M_ 8 0, I_ 9 (.bin .eql false (.t 8) (K_ 33))]) (.cond (.t 9) (.seq (.reg [M_ 10 2, M_ 11 1, I_ 12 (.slc 1 (.t 10) none (some (.t 11)) none), I_ 13 (.call (.c (.fn 66 [] [])) [.t 12]), M_ 6 13]) (.ret)) (.skip))) (.seq (.reg [J_ 7 0]) (.seq (.seq (.reg [M_ 14 0, I_ 15 (.bin .eql false (.t 14) (K_ 32))]) (.cond (.t 15) (.reg [M_ 16 2, M_ 17 2, I_ 18 (.len (.t 17)), I_ 19 (.bin .sub false (.t 18) (K_ 1)), I_ 20 (.idxS 1 (.t 16) (.t 19)), L_ 21 20, M_ 7 21]) (.skip))) (.seq (.reg [M_ 22 2, M_ 23 7, I_ 24 (.bslice 1 [.t 23]), M_ 25 1, M_ 26 2, I_ 27 (.len (.t 26)), I_ 28 (.bin .sub false (.t 25) (.t 27)), I_ 29 (.call (.c (.fn 68 [] [])) [.t 24, .t 28]), I_ 30 (.bslice 1 [.t 22, .t 29]), I_ 31 (.call (.c (.fn 67 [] [])) [.t 30]), M_ 6 31]) (.ret)))))
def r43 : List ARV := [.tmp 6]
theorem b43 : Try.f43.body.bind (tr Try.prog 32) = some c43.bare := by kernel_rfl
theorem q43 : trRes Try.prog Try.f43.results.toList = some r43 := by kernel_rfl
theorem n43 : (Try.f43.name == "runtime.NumGoroutine") = false := by kernel_rfl

def c48 : ACode := .seq (.reg [I_ 4 (.mov (.c (.bool false)))]) (.seq (.reg [M_ 5 0, M_ 6 1, I_ 7 (.call (.c (.fn 71 [] [])) [.t 5, .t 6]), I_ 8 (.bin .geq false (.t 7) (K_ 0)), M_ 4 8]) (.ret))
def r48 : List ARV := [.tmp 4]
theorem b48 : Try.f48.body.bind (tr Try.prog 9) = some c48.bare := by kernel_rfl
theorem q48 : trRes Try.prog Try.f48.results.toList = some r48 := by kernel_rfl
theorem n48 : (Try.f48.name == "runtime.NumGoroutine") = false := by kernel_rfl

def c49 : ACode := .seq (.reg [I_ 3 (.mov (.c (.bool false)))]) (.seq (.reg [M_ 4 0, I_ 5 (.bin .lss false (.t 4) (K_ 0)), M_ 6 5, ⟨some 7, .mov (.t 0), some (6, false)⟩, ⟨some 8, .load false 1 (.t 1), some (6, false)⟩, ⟨some 9, .bin .geq false (.t 7) (.t 8), some (6, false)⟩, I_ 10 (.pick (.t 6) (.c (.bool true)) (.t 9)), M_ 3 10]) (.ret))
def r49 : List ARV := [.tmp 3]
theorem b49 : Try.f49.body.bind (tr Try.prog 11) = some c49.bare := by kernel_rfl
theorem q49 : trRes Try.prog Try.f49.results.toList = some r49 := by kernel_rfl
theorem n49 : (Try.f49.name == "runtime.NumGoroutine") = false := by kernel_rfl

def c50 : ACode := .seq (.reg [I_ 1 (.boxI (.t 0)), J_ 2 0]) (.seq (.reg [N_ 3 4 1, I_ 4 (.call (.c (.fn 72 [] [])) [.t 3, (.c (.slice [] .nil))]), I_ 5 (.nilchk (.t 4)), F_ 6 4 5, L_ 7 6, M_ 2 7]) (.ret))
def r50 : List ARV := [.tmp 2]
theorem b50 : Try.f50.body.bind (tr Try.prog 8) = some c50.bare := by kernel_rfl
theorem q50 : trRes Try.prog Try.f50.results.toList = some r50 := by kernel_rfl
theorem n50 : (Try.f50.name == "runtime.NumGoroutine") = false := by kernel_rfl

def c51 : ACode := .seq (.reg [I_ 6 (.mov (.c (.slice [] .nil)))]) (.seq (.reg [M_ 10 0, I_ 11 (.len (.t 10)), I_ 12 (.mkslice 1 8 [(.int .i64 0)] false (K_ 0) (.t 11)), M_ 7 12]) (.seq (.seq (.reg [M_ 13 0, I_ 14 (.len (.t 13)), J_ 15 0]) (.block 0 (.loop (.seq (.reg [I_ 16 (.bin .lss false (.t 15) (.t 14))]) (.seq (.cond (.t 16) (.skip) (.exit 0)) (.seq (.block 1 (.seq (.reg [M_ 17 15, I_ 18 (.idxS 1 (.t 13) (.t 15)), L_ 19 18, M_ 8 17, M_ 9 19]) (.reg [M_ 20 7, M_ 21 2, M_ 22 9, M_ 23 1, M_ 24 8, I_ 25 (.idxS 1 (.t 23) (.t 24)), L_ 26 25, I_ 27 (.call (.t 21) [.t 22, .t 26]), I_ 28 (.bslice 1 [.t 27]), I_ 29 (.append 1 8 (.t 20) (.t 28)), M_ 7 29]))) (.reg [I_ 30 (.bin .add false (.t 15) (K_ 1)), M_ 15 30]))))))) (.seq (.reg [M_ 31 7, M_ 6 31]) (.ret))))
def r51 : List ARV := [.tmp 6]
theorem b51 : Try.f51.body.bind (tr Try.prog 32) = some c51.bare := by kernel_rfl
theorem q51 : trRes Try.prog Try.f51.results.toList = some r51 := by kernel_rfl
theorem n51 : (Try.f51.name == "runtime.NumGoroutine") = false := by kernel_rfl

def c52 : ACode := .seq (.reg [I_ 3 (.box (.t 0)), I_ 4 (.box (.t 1)), I_ 5 (.box (.t 2)), J_ 6 0]) (.seq (.reg [L_ 7 3, I_ 8 (.mkfn 74 [] [.t 3, .t 4, .t 5]), I_ 9 (.call (.c (.fn 73 [] [])) [.t 7, .t 8]), M_ 6 9]) (.ret))
def r52 : List ARV := [.tmp 6]
theorem b52 : Try.f52.body.bind (tr Try.prog 10) = some c52.bare := by kernel_rfl
theorem q52 : trRes Try.prog Try.f52.results.toList = some r52 := by kernel_rfl
theorem n52 : (Try.f52.name == "runtime.NumGoroutine") = false := by kernel_rfl

def c53 : ACode := .seq (.reg [I_ 3 (.box (.t 0)), I_ 4 (.box (.t 1)), I_ 5 (.box (.t 2)), J_ 6 0]) (.seq (.reg [L_ 7 3, I_ 8 (.mkfn 76 [] [.t 3, .t 4, .t 5]), I_ 9 (.call (.c (.fn 73 [] [])) [.t 7, .t 8]), M_ 6 9]) (.ret))
def r53 : List ARV := [.tmp 6]
theorem b53 : Try.f53.body.bind (tr Try.prog 10) = some c53.bare := by kernel_rfl
theorem q53 : trRes Try.prog Try.f53.results.toList = some r53 := by kernel_rfl
theorem n53 : (Try.f53.name == "runtime.NumGoroutine") = false := by kernel_rfl

def c54 : ACode := .seq (.reg [I_ 3 (.box (.t 0)), I_ 4 (.box (.t 1)), I_ 5 (.box (.t 2)), J_ 6 0]) (.seq (.reg [L_ 7 3, I_ 8 (.mkfn 78 [] [.t 3, .t 4, .t 5]), I_ 9 (.call (.c (.fn 73 [] [])) [.t 7, .t 8]), M_ 6 9]) (.ret))
def r54 : List ARV := [.tmp 6]
theorem b54 : Try.f54.body.bind (tr Try.prog 10) = some c54.bare := by kernel_rfl
theorem q54 : trRes Try.prog Try.f54.results.toList = some r54 := by kernel_rfl
theorem n54 : (Try.f54.name == "runtime.NumGoroutine") = false := by kernel_rfl

def c55 : ACode := .seq (.reg [I_ 4 (.box (.t 0)), I_ 7 (.box (.t 3)), I_ 8 (.mov (.c (.slice [] .nil))), J_ 9 0]) (.seq (.reg [M_ 11 1, M_ 12 2, I_ 13 (.mkfn 80 [] [.t 4, .t 7]), I_ 14 (.call (.c (.fn 51 [] [])) [.t 11, .t 12, .t 13]), M_ 10 14]) (.seq (.drw [M_ 15 10, L_ 16 7, M_ 8 15, M_ 9 16] []) (.ret)))
def r55 : List ARV := [.tmp 8, .tmp 9]
theorem b55 : Try.f55.body.bind (tr Try.prog 17) = some c55.bare := by kernel_rfl
theorem q55 : trRes Try.prog Try.f55.results.toList = some r55 := by kernel_rfl
theorem n55 : (Try.f55.name == "runtime.NumGoroutine") = false := by kernel_rfl

def c56 : ACode := .seq (.reg [I_ 2 (.mov (.c (.slice [] .nil)))]) (.seq (.reg [M_ 3 0, I_ 4 (.call (.c (.fn 60 [] [])) [.t 3]), I_ 5 (.call (.c (.fn 81 [] [])) [.t 4]), M_ 2 5]) (.ret))
def r56 : List ARV := [.tmp 2]
theorem b56 : Try.f56.body.bind (tr Try.prog 6) = some c56.bare := by kernel_rfl
theorem q56 : trRes Try.prog Try.f56.results.toList = some r56 := by kernel_rfl
theorem n56 : (Try.f56.name == "runtime.NumGoroutine") = false := by kernel_rfl

def c57 : ACode := .seq (.reg [I_ 6 (.mov (.c (.slice [] .nil)))]) (.seq (.reg [M_ 13 1, I_ 14 (.len (.t 13)), I_ 15 (.mkslice 1 8 [(.int .i64 0)] false (.t 14) (.t 14)), M_ 7 15]) (.seq (.seq (.reg [M_ 16 2, I_ 17 (.len (.t 16)), J_ 18 0]) (.block 0 (.loop (.seq (.reg [I_ 19 (.bin .lss false (.t 18) (.t 17))]) (.seq (.cond (.t 19) (.skip) (.exit 0)) (.seq (.block 1 (.seq (.reg [M_ 20 18, I_ 21 (.idxS 1 (.t 16) (.t 18)), L_ 22 21, M_ 8 20, M_ 9 22]) (.seq (.reg [M_ 23 8, M_ 24 1, I_ 25 (.len (.t 24)), I_ 26 (.mkslice 1 8 [(.int .i64 0)] false (.t 23) (.t 25)), M_ 10 26]) (.seq (.seq (.reg [M_ 27 1, M_ 28 1, I_ 29 (.len (.t 28)), M_ 30 8, I_ 31 (.bin .sub false (.t 29) (.t 30)), I_ 32 (.slc 1 (.t 27) none (some (.t 31)) none), I_ 33 (.len (.t 32)), J_ 34 0]) (.block 2 (.loop (.seq (.reg [I_ 35 (.bin .lss false (.t 34) (.t 33))]) (.seq (.cond (.t 35) (.skip) (.exit 2)) (.seq (.block 3 (.seq (.reg [I_ 36 (.idxS 1 (.t 32) (.t 34)), L_ 37 36, M_ 12 37]) (.reg [M_ 38 10, M_ 39 0, M_ 40 12, M_ 41 9, I_ 42 (.call (.c (.fn 52 [] [])) [.t 39, .t 40, .t 41]), I_ 43 (.bslice 1 [.t 42]), I_ 44 (.append 1 8 (.t 38) (.t 43)), M_ 10 44]))) (.reg [I_ 45 (.bin .add false (.t 34) (K_ 1)), M_ 34 45]))))))) (.reg [M_ 47 0, M_ 48 7, M_ 49 10, I_ 50 (.call (.c (.fn 55 [] [])) [.t 47, .t 48, .t 49, K_ 0]), M_ 46 50, I_ 51 (.extract (.t 46) 0), I_ 52 (.extract (.t 46) 1), M_ 7 51]))))) (.reg [I_ 53 (.bin .add false (.t 18) (K_ 1)), M_ 18 53]))))))) (.seq (.reg [M_ 54 7, M_ 6 54]) (.ret))))
def r57 : List ARV := [.tmp 6]
theorem b57 : Try.f57.body.bind (tr Try.prog 55) = some c57.bare := by kernel_rfl
theorem q57 : trRes Try.prog Try.f57.results.toList = some r57 := by kernel_rfl
theorem n57 : (Try.f57.name == "runtime.NumGoroutine") = false := by kernel_rfl

def c58 : ACode := .seq (.reg [I_ 8 (.mov (.c (.slice [] .nil)))]) (.seq (.seq (.reg [M_ 17 2, I_ 18 (.len (.t 17)), J_ 19 0]) (.block 0 (.loop (.seq (.reg [I_ 20 (.bin .lss false (.t 19) (.t 18))]) (.seq (.cond (.t 20) (.skip) (.exit 0)) (.seq (.block 1 (.seq (.reg [M_ 21 19, I_ 22 (.idxS 1 (.t 17) (.t 19)), L_ 23 22, M_ 9 21, M_ 10 23]) (.seq (.reg [M_ 24 3, M_ 25 9, I_ 26 (.min [.t 25, K_ 8]), I_ 27 (.bin .shl false (.t 24) (.t 26)), M_ 11 27]) (.seq (.reg [M_ 28 1, M_ 12 28]) (.seq (.reg [I_ 1 (.ext (.retok 1 (.c (.slice [] .nil))))]) (.seq (.reg [M_ 29 12, I_ 30 (.len (.t 29)), J_ 31 0]) (.block 2 (.loop (.seq (.reg [I_ 32 (.bin .lss false (.t 31) (.t 30))]) (.seq (.cond (.t 32) (.skip) (.exit 2)) (.seq (.block 3 (.seq (.reg [M_ 33 31, I_ 34 (.idxS 1 (.t 29) (.t 31)), L_ 35 34, M_ 13 33, M_ 14 35]) (.seq (.reg [J_ 15 0]) (.seq (.seq (.reg [M_ 36 13, M_ 37 11, I_ 38 (.bin .sub false (.t 36) (.t 37)), M_ 16 38]) (.seq (.reg [M_ 39 16, I_ 40 (.bin .geq false (.t 39) (K_ 0)), M_ 41 40, ⟨some 42, .mov (.t 16), some (41, true)⟩, ⟨some 43, .mov (.t 12), some (41, true)⟩, ⟨some 44, .len (.t 43), some (41, true)⟩, ⟨some 45, .bin .lss false (.t 42) (.t 44), some (41, true)⟩, I_ 46 (.pick (.t 41) (.t 45) (.c (.bool false)))]) (.cond (.t 46) (.reg [M_ 47 12, M_ 48 16, I_ 49 (.idxS 1 (.t 47) (.t 48)), L_ 50 49, M_ 15 50]) (.skip)))) (.reg [M_ 51 1, M_ 52 0, M_ 53 10, M_ 54 15, M_ 55 14, I_ 56 (.call (.c (.fn 70 [] [])) [.t 52, .t 53, .t 54, .t 55]), I_ 57 (.bslice 1 [.t 56]), I_ 58 (.append 1 8 (.t 51) (.t 57)), M_ 1 58]))))) (.reg [I_ 59 (.bin .add false (.t 31) (K_ 1)), M_ 31 59])))))))))))) (.reg [I_ 60 (.bin .add false (.t 19) (K_ 1)), M_ 19 60]))))))) (.seq (.reg [M_ 61 1, M_ 8 61]) (.ret)))
def r58 : List ARV := [.tmp 8]
theorem b58 : Try.f58.body.bind (tr Try.prog 62) = some c58.bare := by kernel_rfl
theorem q58 : trRes Try.prog Try.f58.results.toList = some r58 := by kernel_rfl
theorem n58 : (Try.f58.name == "runtime.NumGoroutine") = false := by kernel_rfl

def c60 : ACode := .seq (.reg [I_ 1 (.box (.t 0)), I_ 2 (.mov (.c .nilfn))]) (.seq (.reg [I_ 3 (.mkfn 82 [] [.t 1]), M_ 2 3]) (.ret))
def r60 : List ARV := [.tmp 2]
theorem b60 : Try.f60.body.bind (tr Try.prog 4) = some c60.bare := by kernel_rfl
theorem q60 : trRes Try.prog Try.f60.results.toList = some r60 := by kernel_rfl
theorem n60 : (Try.f60.name == "runtime.NumGoroutine") = false := by kernel_rfl

def c61 : ACode := .seq (.reg [J_ 6 0]) (.seq (.reg [M_ 10 0, M_ 11 1, M_ 12 2, I_ 13 (.call (.c (.fn 56 [] [])) [.t 12]), I_ 14 (.call (.c (.fn 55 [] [])) [.t 10, .t 11, .t 13, K_ 1]), M_ 9 14, I_ 15 (.extract (.t 9) 0), I_ 16 (.extract (.t 9) 1), M_ 7 15, M_ 8 16]) (.seq (.reg [M_ 17 8, I_ 18 (.bin .xor false (K_ 1) (.t 17)), M_ 6 18]) (.ret)))
def r61 : List ARV := [.tmp 6]
theorem b61 : Try.f61.body.bind (tr Try.prog 19) = some c61.bare := by kernel_rfl
theorem q61 : trRes Try.prog Try.f61.results.toList = some r61 := by kernel_rfl
theorem n61 : (Try.f61.name == "runtime.NumGoroutine") = false := by kernel_rfl

def c64 : ACode := .seq (.reg [I_ 1 (.boxI (.t 0)), I_ 2 (.mov (.c (.bool false)))]) (.seq (.drw [F_ 3 0 1, L_ 4 3, I_ 5 (.bin .lss false (K_ 0) (.t 4)), M_ 6 5, ⟨some 7, .fldA 0 (.t 1), some (6, true)⟩, ⟨some 8, .load false 1 (.t 7), some (6, true)⟩, ⟨some 9, .bin .leq false (.t 8) (K_ 64), some (6, true)⟩, I_ 10 (.pick (.t 6) (.t 9) (.c (.bool false))), M_ 11 10, ⟨some 12, .fldA 1 (.t 1), some (11, true)⟩, ⟨some 13, .load false 1 (.t 12), some (11, true)⟩, ⟨some 14, .fldA 0 (.t 1), some (11, true)⟩, ⟨some 15, .load false 1 (.t 14), some (11, true)⟩, ⟨some 16, .call (.c (.fn 83 [] [])) [.t 15], some (11, true)⟩, ⟨some 17, .bin .andNot false (.t 13) (.t 16), some (11, true)⟩, ⟨some 18, .bin .eql false (.t 17) (.c (.int .u64 0)), some (11, true)⟩, I_ 19 (.pick (.t 11) (.t 18) (.c (.bool false))), M_ 2 19] [(10, 13)]) (.ret))
def r64 : List ARV := [.tmp 2]
theorem b64 : Try.f64.body.bind (tr Try.prog 20) = some c64.bare := by kernel_rfl
theorem q64 : trRes Try.prog Try.f64.results.toList = some r64 := by kernel_rfl
theorem n64 : (Try.f64.name == "runtime.NumGoroutine") = false := by kernel_rfl

def c65 : ACode := .seq (.reg [I_ 1 (.box (.t 0)), I_ 2 (.mov (.c .nilfn))]) (.seq (.reg [I_ 3 (.mkfn 84 [] [.t 1]), M_ 2 3]) (.ret))
def r65 : List ARV := [.tmp 2]
theorem b65 : Try.f65.body.bind (tr Try.prog 4) = some c65.bare := by kernel_rfl
theorem q65 : trRes Try.prog Try.f65.results.toList = some r65 := by kernel_rfl
theorem n65 : (Try.f65.name == "runtime.NumGoroutine") = false := by kernel_rfl

def c66 : ACode := .seq (.reg [I_ 2 (.mov (.c (.slice [] .nil)))]) (.seq (.seq (.reg [M_ 3 0, I_ 4 (.ext (.isnil false (.t 3)))]) (.cond (.t 4) (.seq (.reg [I_ 2 (.mov (.c (.slice [] .nil)))]) (.ret)) (.skip))) (.seq (.reg [I_ 5 (.bslice 1 []), M_ 6 0, I_ 7 (.append 1 8 (.t 5) (.t 6)), M_ 2 7]) (.ret)))
def r66 : List ARV := [.tmp 2]
theorem b66 : Try.f66.body.bind (tr Try.prog 8) = some c66.bare := by kernel_rfl
theorem q66 : trRes Try.prog Try.f66.results.toList = some r66 := by kernel_rfl
theorem n66 : (Try.f66.name == "runtime.NumGoroutine") = false := by kernel_rfl

def c67 : ACode := .seq (.reg [I_ 2 (.mov (.c (.slice [] .nil)))]) (.seq (.reg [J_ 3 0]) (.seq (.seq (.reg [M_ 9 0, I_ 10 (.len (.t 9)), J_ 11 0]) (.block 0 (.loop (.seq (.reg [I_ 12 (.bin .lss false (.t 11) (.t 10))]) (.seq (.cond (.t 12) (.skip) (.exit 0)) (.seq (.block 1 (.seq (.reg [I_ 13 (.idxS 1 (.t 9) (.t 11)), L_ 14 13, M_ 5 14]) (.seq (.reg [M_ 15 3, M_ 16 5, I_ 17 (.len (.t 16)), I_ 18 (.bin .add false (.t 15) (.t 17)), M_ 3 18]) (.seq (.reg [M_ 19 3, I_ 20 (.bin .lss false (.t 19) (K_ 0))]) (.cond (.t 20) (.reg [⟨some 21, .mkiface 9 (.c (.str ⟨#[108, 101, 110, 32, 111, 117, 116, 32, 111, 102, 32, 114, 97, 110, 103, 101]⟩)), none⟩, ⟨none, .panic (.t 21), none⟩]) (.skip)))))) (.reg [I_ 22 (.bin .add false (.t 11) (K_ 1)), M_ 11 22]))))))) (.seq (.reg [M_ 23 3, I_ 24 (.call (.c (.fn 85 [] [])) [(.c (.slice [] .nil)), .t 23]), M_ 6 24]) (.seq (.seq (.reg [M_ 25 0, I_ 26 (.len (.t 25)), J_ 27 0]) (.block 2 (.loop (.seq (.reg [I_ 28 (.bin .lss false (.t 27) (.t 26))]) (.seq (.cond (.t 28) (.skip) (.exit 2)) (.seq (.block 3 (.seq (.reg [I_ 29 (.idxS 1 (.t 25) (.t 27)), L_ 30 29, M_ 8 30]) (.reg [M_ 31 6, M_ 32 8, I_ 33 (.append 1 8 (.t 31) (.t 32)), M_ 6 33]))) (.reg [I_ 34 (.bin .add false (.t 27) (K_ 1)), M_ 27 34]))))))) (.seq (.reg [M_ 35 6, M_ 2 35]) (.ret))))))
def r67 : List ARV := [.tmp 2]
theorem b67 : Try.f67.body.bind (tr Try.prog 36) = some c67.bare := by kernel_rfl
theorem q67 : trRes Try.prog Try.f67.results.toList = some r67 := by kernel_rfl
theorem n67 : (Try.f67.name == "runtime.NumGoroutine") = false := by kernel_rfl

def c70 : ACode := .seq (.reg [I_ 4 (.box (.t 0)), I_ 5 (.box (.t 1)), I_ 6 (.box (.t 2)), I_ 7 (.box (.t 3)), J_ 8 0]) (.seq (.reg [L_ 9 4, I_ 10 (.mkfn 87 [] [.t 4, .t 5, .t 6, .t 7]), I_ 11 (.call (.c (.fn 73 [] [])) [.t 9, .t 10]), M_ 8 11]) (.ret))
def r70 : List ARV := [.tmp 8]
theorem b70 : Try.f70.body.bind (tr Try.prog 12) = some c70.bare := by kernel_rfl
theorem q70 : trRes Try.prog Try.f70.results.toList = some r70 := by kernel_rfl
theorem n70 : (Try.f70.name == "runtime.NumGoroutine") = false := by kernel_rfl

def c71 : ACode := .seq (.reg [J_ 4 0]) (.seq (.seq (.reg [M_ 6 0, I_ 7 (.len (.t 6)), J_ 8 0]) (.block 0 (.loop (.seq (.reg [I_ 9 (.bin .lss false (.t 8) (.t 7))]) (.seq (.cond (.t 9) (.skip) (.exit 0)) (.seq (.block 1 (.seq (.reg [M_ 10 8, M_ 5 10]) (.seq (.reg [M_ 11 1, M_ 12 0, M_ 13 5, I_ 14 (.idxS 1 (.t 12) (.t 13)), L_ 15 14, I_ 16 (.call (.t 11) [.t 15])]) (.cond (.t 16) (.seq (.reg [M_ 17 5, M_ 4 17]) (.ret)) (.skip))))) (.reg [I_ 18 (.bin .add false (.t 8) (K_ 1)), M_ 8 18]))))))) (.seq (.reg [I_ 4 (.mov (.c (.int .i64 (-1))))]) (.ret)))
def r71 : List ARV := [.tmp 4]
theorem b71 : Try.f71.body.bind (tr Try.prog 19) = some c71.bare := by kernel_rfl
theorem q71 : trRes Try.prog Try.f71.results.toList = some r71 := by kernel_rfl
theorem n71 : (Try.f71.name == "runtime.NumGoroutine") = false := by kernel_rfl

def c72 : ACode := .seq (.reg [I_ 2 (.boxI (.t 0)), I_ 4 (.mov (.c .nilp))]) (.seq (.reg [N_ 8 4 2, I_ 9 (.build [(.int .i64 0), (.slice [] .nil), (.slice [] .nil), (.slice [] .nil), (.int .i64 0)] [(0, 4, (.t 8))]), I_ 10 (.box (.t 9)), M_ 5 10]) (.seq (.reg [M_ 11 5, M_ 12 5, I_ 13 (.call (.c (.fn 89 [] [])) [.t 12]), I_ 14 (.nilchk (.t 11)), F_ 15 4 14, ⟨none, .store 1 (.t 15) (.t 13), none⟩]) (.seq (.seq (.reg [M_ 16 1, I_ 17 (.len (.t 16)), J_ 18 0]) (.block 0 (.loop (.seq (.reg [I_ 19 (.bin .lss false (.t 18) (.t 17))]) (.seq (.cond (.t 19) (.skip) (.exit 0)) (.seq (.block 1 (.seq (.reg [I_ 20 (.idxS 1 (.t 16) (.t 18)), L_ 21 20, M_ 7 21]) (.seq (.reg [M_ 22 5, I_ 23 (.nilchk (.t 22)), F_ 24 4 23, L_ 25 24, I_ 26 (.bin .eql false (.t 25) (K_ 0)), M_ 27 26, ⟨some 28, .mov (.t 5), some (27, true)⟩, ⟨some 29, .mov (.t 7), some (27, true)⟩, ⟨some 30, .call (.c (.fn 90 [] [])) [.t 28, .t 29], some (27, true)⟩, ⟨some 31, .un .not (.t 30), some (27, true)⟩, I_ 32 (.pick (.t 27) (.t 31) (.c (.bool false)))]) (.cond (.t 32) (.reg [M_ 33 5, I_ 34 (.nilchk (.t 33)), F_ 35 4 34, ⟨none, .store 1 (.t 35) (K_ 1), none⟩]) (.skip))))) (.reg [I_ 36 (.bin .add false (.t 18) (K_ 1)), M_ 18 36]))))))) (.seq (.reg [M_ 37 5, M_ 4 37]) (.ret)))))
def r72 : List ARV := [.tmp 4]
theorem b72 : Try.f72.body.bind (tr Try.prog 38) = some c72.bare := by kernel_rfl
theorem q72 : trRes Try.prog Try.f72.results.toList = some r72 := by kernel_rfl
theorem n72 : (Try.f72.name == "runtime.NumGoroutine") = false := by kernel_rfl

def c73 : ACode := .seq (.reg [J_ 4 0]) (.seq (.seq (.reg [M_ 7 0, I_ 8 (.nilchk (.t 7)), F_ 9 4 8, L_ 10 9, I_ 11 (.bin .neq false (.t 10) (K_ 0))]) (.cond (.t 11) (.seq (.reg [M_ 12 4, M_ 4 12]) (.ret)) (.skip))) (.seq (.reg [M_ 14 1, I_ 15 (.call (.t 14) []), M_ 13 15, I_ 16 (.extract (.t 13) 0), I_ 17 (.extract (.t 13) 1), I_ 18 (.extract (.t 13) 2), I_ 5 (.alloc [(.int .i64 0), (.slice [] .nil), (.slice [] .nil), (.slice [] .nil)]), ⟨none, .store 4 (.t 5) (.t 16), none⟩, M_ 4 17, M_ 6 18]) (.seq (.seq (.reg [M_ 19 6, I_ 20 (.bin .neq false (.t 19) (K_ 0))]) (.cond (.t 20) (.seq (.reg [M_ 21 0, M_ 22 6, I_ 23 (.nilchk (.t 21)), F_ 24 4 23, ⟨none, .store 1 (.t 24) (.t 22), none⟩]) (.seq (.reg [J_ 4 0]) (.ret))) (.skip))) (.seq (.reg [M_ 25 0, N_ 26 4 5, I_ 27 (.nilchk (.t 25)), F_ 28 0 27, ⟨none, .store 4 (.t 28) (.t 26), none⟩]) (.seq (.reg [M_ 29 4, M_ 4 29]) (.ret))))))
def r73 : List ARV := [.tmp 4]
theorem b73 : Try.f73.body.bind (tr Try.prog 30) = some c73.bare := by kernel_rfl
theorem q73 : trRes Try.prog Try.f73.results.toList = some r73 := by kernel_rfl
theorem n73 : (Try.f73.name == "runtime.NumGoroutine") = false := by kernel_rfl

def c74 : ACode := .seq (.reg [I_ 3 (.alloc [(.int .i64 0), (.slice [] .nil), (.slice [] .nil), (.slice [] .nil)]), J_ 4 0, J_ 5 0]) (.seq (.drw [L_ 6 0, I_ 7 (.nilchk (.t 6)), F_ 8 0 7, N_ 9 4 8, L_ 10 1, L_ 11 2, I_ 12 (.call (.c (.fn 75 [] [])) [.t 9, .t 10, .t 11]), I_ 13 (.extract (.t 12) 0), I_ 14 (.extract (.t 12) 1), I_ 15 (.extract (.t 12) 2), ⟨none, .store 4 (.t 3) (.t 13), none⟩, M_ 4 14, M_ 5 15] []) (.ret))
def r74 : List ARV := [.cell 3 true 4, .tmp 4, .tmp 5]
theorem b74 : Try.f74.body.bind (tr Try.prog 16) = some c74.bare := by kernel_rfl
theorem q74 : trRes Try.prog Try.f74.results.toList = some r74 := by kernel_rfl
theorem n74 : (Try.f74.name == "runtime.NumGoroutine") = false := by kernel_rfl

def c75 : ACode := .seq (.reg [I_ 3 (.boxI (.t 0)), I_ 6 (.alloc [(.int .i64 0), (.slice [] .nil), (.slice [] .nil), (.slice [] .nil)]), J_ 7 0, J_ 8 0]) (.seq (.reg [N_ 10 4 3, M_ 11 1, M_ 12 2, I_ 13 (.bslice 1 [.t 11, .t 12]), I_ 14 (.call (.c (.fn 72 [] [])) [.t 10, .t 13]), M_ 9 14]) (.seq (.reg [M_ 15 9, M_ 16 9, M_ 17 1, M_ 18 2, I_ 19 (.call (.c (.fn 92 [] [])) [.t 16, .t 17, .t 18]), I_ 20 (.call (.c (.fn 91 [] [])) [.t 15, .t 19]), I_ 21 (.extract (.t 20) 0), I_ 22 (.extract (.t 20) 1), I_ 23 (.extract (.t 20) 2), ⟨none, .store 4 (.t 6) (.t 21), none⟩, M_ 7 22, M_ 8 23]) (.ret)))
def r75 : List ARV := [.cell 6 true 4, .tmp 7, .tmp 8]
theorem b75 : Try.f75.body.bind (tr Try.prog 24) = some c75.bare := by kernel_rfl
theorem q75 : trRes Try.prog Try.f75.results.toList = some r75 := by kernel_rfl
theorem n75 : (Try.f75.name == "runtime.NumGoroutine") = false := by kernel_rfl

def c76 : ACode := .seq (.reg [I_ 3 (.alloc [(.int .i64 0), (.slice [] .nil), (.slice [] .nil), (.slice [] .nil)]), J_ 4 0, J_ 5 0]) (.seq (.drw [L_ 6 0, I_ 7 (.nilchk (.t 6)), F_ 8 0 7, N_ 9 4 8, L_ 10 1, L_ 11 2, I_ 12 (.call (.c (.fn 77 [] [])) [.t 9, .t 10, .t 11]), I_ 13 (.extract (.t 12) 0), I_ 14 (.extract (.t 12) 1), I_ 15 (.extract (.t 12) 2), ⟨none, .store 4 (.t 3) (.t 13), none⟩, M_ 4 14, M_ 5 15] []) (.ret))
def r76 : List ARV := [.cell 3 true 4, .tmp 4, .tmp 5]
theorem b76 : Try.f76.body.bind (tr Try.prog 16) = some c76.bare := by kernel_rfl
theorem q76 : trRes Try.prog Try.f76.results.toList = some r76 := by kernel_rfl
theorem n76 : (Try.f76.name == "runtime.NumGoroutine") = false := by kernel_rfl

def c77 : ACode := .seq (.reg [I_ 3 (.boxI (.t 0)), I_ 6 (.alloc [(.int .i64 0), (.slice [] .nil), (.slice [] .nil), (.slice [] .nil)]), J_ 7 0, J_ 8 0]) (.seq (.reg [N_ 10 4 3, M_ 11 1, M_ 12 2, I_ 13 (.bslice 1 [.t 11, .t 12]), I_ 14 (.call (.c (.fn 72 [] [])) [.t 10, .t 13]), M_ 9 14]) (.seq (.reg [M_ 15 9, M_ 16 9, M_ 17 1, M_ 18 2, I_ 19 (.call (.c (.fn 93 [] [])) [.t 16, .t 17, .t 18]), I_ 20 (.call (.c (.fn 91 [] [])) [.t 15, .t 19]), I_ 21 (.extract (.t 20) 0), I_ 22 (.extract (.t 20) 1), I_ 23 (.extract (.t 20) 2), ⟨none, .store 4 (.t 6) (.t 21), none⟩, M_ 7 22, M_ 8 23]) (.ret)))
def r77 : List ARV := [.cell 6 true 4, .tmp 7, .tmp 8]
theorem b77 : Try.f77.body.bind (tr Try.prog 24) = some c77.bare := by kernel_rfl
theorem q77 : trRes Try.prog Try.f77.results.toList = some r77 := by kernel_rfl
theorem n77 : (Try.f77.name == "runtime.NumGoroutine") = false := by kernel_rfl

def c78 : ACode := .seq (.reg [I_ 3 (.alloc [(.int .i64 0), (.slice [] .nil), (.slice [] .nil), (.slice [] .nil)]), J_ 4 0, J_ 5 0]) (.seq (.drw [L_ 6 0, I_ 7 (.nilchk (.t 6)), F_ 8 0 7, N_ 9 4 8, L_ 10 1, L_ 11 2, I_ 12 (.call (.c (.fn 79 [] [])) [.t 9, .t 10, .t 11]), I_ 13 (.extract (.t 12) 0), I_ 14 (.extract (.t 12) 1), I_ 15 (.extract (.t 12) 2), ⟨none, .store 4 (.t 3) (.t 13), none⟩, M_ 4 14, M_ 5 15] []) (.ret))
def r78 : List ARV := [.cell 3 true 4, .tmp 4, .tmp 5]
theorem b78 : Try.f78.body.bind (tr Try.prog 16) = some c78.bare := by kernel_rfl
theorem q78 : trRes Try.prog Try.f78.results.toList = some r78 := by kernel_rfl
theorem n78 : (Try.f78.name == "runtime.NumGoroutine") = false := by kernel_rfl

def c79 : ACode := .seq (.reg [I_ 3 (.boxI (.t 0)), I_ 6 (.alloc [(.int .i64 0), (.slice [] .nil), (.slice [] .nil), (.slice [] .nil)]), J_ 7 0, J_ 8 0]) (.seq (.reg [N_ 12 4 3, M_ 13 1, M_ 14 2, I_ 15 (.bslice 1 [.t 13, .t 14]), I_ 16 (.call (.c (.fn 72 [] [])) [.t 12, .t 15]), M_ 9 16]) (.seq (.reg [M_ 17 9, M_ 18 1, M_ 19 2, I_ 20 (.bin .xor false (.t 19) (K_ 1)), I_ 21 (.call (.c (.fn 92 [] [])) [.t 17, .t 18, .t 20]), M_ 10 21]) (.seq (.reg [M_ 22 9, M_ 23 1, I_ 24 (.bin .xor false (.t 23) (K_ 1)), M_ 25 2, I_ 26 (.call (.c (.fn 92 [] [])) [.t 22, .t 24, .t 25]), M_ 11 26]) (.seq (.reg [M_ 27 9, M_ 28 9, M_ 29 10, M_ 30 11, I_ 31 (.call (.c (.fn 93 [] [])) [.t 28, .t 29, .t 30]), I_ 32 (.call (.c (.fn 91 [] [])) [.t 27, .t 31]), I_ 33 (.extract (.t 32) 0), I_ 34 (.extract (.t 32) 1), I_ 35 (.extract (.t 32) 2), ⟨none, .store 4 (.t 6) (.t 33), none⟩, M_ 7 34, M_ 8 35]) (.ret)))))
def r79 : List ARV := [.cell 6 true 4, .tmp 7, .tmp 8]
theorem b79 : Try.f79.body.bind (tr Try.prog 36) = some c79.bare := by kernel_rfl
theorem q79 : trRes Try.prog Try.f79.results.toList = some r79 := by kernel_rfl
theorem n79 : (Try.f79.name == "runtime.NumGoroutine") = false := by kernel_rfl

def c80 : ACode := .seq (.reg [J_ 6 0]) (.seq (.reg [L_ 11 2, M_ 12 0, M_ 13 1, I_ 14 (.call (.c (.fn 54 [] [])) [.t 11, .t 12, .t 13]), M_ 7 14]) (.seq (.reg [L_ 15 2, M_ 16 7, L_ 17 3, I_ 18 (.call (.c (.fn 54 [] [])) [.t 15, .t 16, .t 17]), M_ 8 18]) (.seq (.reg [L_ 19 2, M_ 20 0, M_ 21 1, I_ 22 (.call (.c (.fn 52 [] [])) [.t 19, .t 20, .t 21]), M_ 9 22]) (.seq (.reg [L_ 23 2, M_ 24 7, L_ 25 3, I_ 26 (.call (.c (.fn 52 [] [])) [.t 23, .t 24, .t 25]), M_ 10 26]) (.seq (.reg [L_ 27 2, M_ 28 9, M_ 29 10, I_ 30 (.call (.c (.fn 53 [] [])) [.t 27, .t 28, .t 29]), ⟨none, .store 1 (.t 3) (.t 30), none⟩]) (.seq (.reg [M_ 31 8, M_ 6 31]) (.ret)))))))
def r80 : List ARV := [.tmp 6]
theorem b80 : Try.f80.body.bind (tr Try.prog 32) = some c80.bare := by kernel_rfl
theorem q80 : trRes Try.prog Try.f80.results.toList = some r80 := by kernel_rfl
theorem n80 : (Try.f80.name == "runtime.NumGoroutine") = false := by kernel_rfl

def c81 : ACode := .seq (.reg [I_ 2 (.mov (.c (.slice [] .nil)))]) (.seq (.reg [M_ 3 0, I_ 4 (.call (.c (.fn 94 [] [])) [(.c (.slice [] .nil)), .t 3]), M_ 2 4]) (.ret))
def r81 : List ARV := [.tmp 2]
theorem b81 : Try.f81.body.bind (tr Try.prog 5) = some c81.bare := by kernel_rfl
theorem q81 : trRes Try.prog Try.f81.results.toList = some r81 := by kernel_rfl
theorem n81 : (Try.f81.name == "runtime.NumGoroutine") = false := by kernel_rfl

def c83 : ACode := .seq (.reg [I_ 2 (.mov (.c (.int .u64 0)))]) (.seq (.block 0 (.seq (.reg [M_ 4 0, I_ 5 (.bin .leq false (.t 4) (K_ 0)), M_ 3 5]) (.cond (.t 3) (.seq (.reg [I_ 2 (.mov (.c (.int .u64 0)))]) (.ret)) (.seq (.reg [M_ 7 0, I_ 8 (.bin .lss false (.t 7) (K_ 64)), M_ 6 8]) (.cond (.t 6) (.seq (.reg [M_ 9 0, I_ 10 (.bin .shl false (.c (.int .u64 18446744073709551615)) (.t 9)), I_ 11 (.un .xor (.t 10)), M_ 2 11]) (.ret)) (.skip)))))) (.seq (.reg [I_ 2 (.mov (.c (.int .u64 18446744073709551615)))]) (.ret)))
def r83 : List ARV := [.tmp 2]
theorem b83 : Try.f83.body.bind (tr Try.prog 12) = some c83.bare := by kernel_rfl
theorem q83 : trRes Try.prog Try.f83.results.toList = some r83 := by kernel_rfl
theorem n83 : (Try.f83.name == "runtime.NumGoroutine") = false := by kernel_rfl

def c85 : ACode := .seq (.reg [I_ 4 (.mov (.c (.slice [] .nil)))]) (.seq (.seq (.reg [M_ 5 1, I_ 6 (.bin .lss false (.t 5) (K_ 0))]) (.cond (.t 6) (.reg [⟨some 7, .mkiface 9 (.c (.str ⟨#[99, 97, 110, 110, 111, 116, 32, 98, 101, 32, 110, 101, 103, 97, 116, 105, 118, 101]⟩)), none⟩, ⟨none, .panic (.t 7), none⟩]) (.skip))) (.seq (.seq (.reg [M_ 8 1, M_ 9 0, I_ 10 (.cap (.t 9)), M_ 11 0, I_ 12 (.len (.t 11)), I_ 13 (.bin .sub false (.t 10) (.t 12)), I_ 14 (.bin .sub false (.t 8) (.t 13)), M_ 1 14]) (.seq (.reg [M_ 15 1, I_ 16 (.bin .gtr false (.t 15) (K_ 0))]) (.cond (.t 16) (.reg [M_ 17 0, M_ 18 0, I_ 19 (.cap (.t 18)), I_ 20 (.slcN 1 (.t 17) none (some (.t 19)) none), M_ 21 1, I_ 22 (.appz 1 8 (.t 20) (.t 21)), M_ 23 0, I_ 24 (.len (.t 23)), I_ 25 (.slcR 1 (.t 22) none (some (.t 24)) none), M_ 0 25]) (.skip)))) (.seq (.reg [M_ 26 0, M_ 4 26]) (.ret))))
def r85 : List ARV := [.tmp 4]
theorem b85 : Try.f85.body.bind (tr Try.prog 27) = some c85.bare := by kernel_rfl
theorem q85 : trRes Try.prog Try.f85.results.toList = some r85 := by kernel_rfl
theorem n85 : (Try.f85.name == "runtime.NumGoroutine") = false := by kernel_rfl

def c87 : ACode := .seq (.reg [I_ 4 (.alloc [(.int .i64 0), (.slice [] .nil), (.slice [] .nil), (.slice [] .nil)]), J_ 5 0, J_ 6 0]) (.seq (.drw [L_ 7 0, I_ 8 (.nilchk (.t 7)), F_ 9 0 8, N_ 10 4 9, L_ 11 1, L_ 12 2, L_ 13 3, I_ 14 (.call (.c (.fn 88 [] [])) [.t 10, .t 11, .t 12, .t 13]), I_ 15 (.extract (.t 14) 0), I_ 16 (.extract (.t 14) 1), I_ 17 (.extract (.t 14) 2), ⟨none, .store 4 (.t 4) (.t 15), none⟩, M_ 5 16, M_ 6 17] []) (.ret))
def r87 : List ARV := [.cell 4 true 4, .tmp 5, .tmp 6]
theorem b87 : Try.f87.body.bind (tr Try.prog 18) = some c87.bare := by kernel_rfl
theorem q87 : trRes Try.prog Try.f87.results.toList = some r87 := by kernel_rfl
theorem n87 : (Try.f87.name == "runtime.NumGoroutine") = false := by kernel_rfl

def c88 : ACode := .seq (.reg [I_ 4 (.boxI (.t 0)), I_ 8 (.alloc [(.int .i64 0), (.slice [] .nil), (.slice [] .nil), (.slice [] .nil)]), J_ 9 0, J_ 10 0]) (.seq (.reg [N_ 14 4 4, M_ 15 1, M_ 16 2, M_ 17 3, I_ 18 (.bslice 1 [.t 15, .t 16, .t 17]), I_ 19 (.call (.c (.fn 72 [] [])) [.t 14, .t 18]), M_ 11 19]) (.seq (.reg [M_ 20 11, M_ 21 1, M_ 22 2, I_ 23 (.call (.c (.fn 92 [] [])) [.t 20, .t 21, .t 22]), M_ 12 23]) (.seq (.reg [M_ 24 11, M_ 25 1, I_ 26 (.bin .xor false (.t 25) (K_ 1)), M_ 27 3, I_ 28 (.call (.c (.fn 92 [] [])) [.t 24, .t 26, .t 27]), M_ 13 28]) (.seq (.reg [M_ 29 11, M_ 30 11, M_ 31 12, M_ 32 13, I_ 33 (.call (.c (.fn 93 [] [])) [.t 30, .t 31, .t 32]), I_ 34 (.call (.c (.fn 91 [] [])) [.t 29, .t 33]), I_ 35 (.extract (.t 34) 0), I_ 36 (.extract (.t 34) 1), I_ 37 (.extract (.t 34) 2), ⟨none, .store 4 (.t 8) (.t 35), none⟩, M_ 9 36, M_ 10 37]) (.ret)))))
def r88 : List ARV := [.cell 8 true 4, .tmp 9, .tmp 10]
theorem b88 : Try.f88.body.bind (tr Try.prog 38) = some c88.bare := by kernel_rfl
theorem q88 : trRes Try.prog Try.f88.results.toList = some r88 := by kernel_rfl
theorem n88 : (Try.f88.name == "runtime.NumGoroutine") = false := by kernel_rfl

end Go.Proofs.Ytbbihmmobfmadaa

