/- The bodies of the program's functions, as the abstraction layer has them. By program. -/
import Derived.Test.YtjichkelfhcbcaaAbsT
import Derived.Test.YtjichkelfhcbcaaAbsW
import Derived.Test.YtjichkelfhcbcaaProg
import Derived.KernelRfl
set_option linter.unusedSimpArgs false
set_option linter.unusedVariables false
namespace Go.Proofs.Ytjichkelfhcbcaa
open Abs
abbrev Yi (d : Nat) (o : AOp) : AInst := ⟨some d, o, none⟩
abbrev Yj (d k : Nat) (b : Bool) (o : AOp) : AInst := ⟨some d, o, some (k, b)⟩
theorem mixed : Try.prog.follows .mixedOrders = true := by kernel_rfl
def c4 : ACode :=
 .seq (.reg [Yi 3 (.boxI (.t 0)), Yi 4 (.boxI (.t 1)), Yi 6 (.mov (.c (.bool false)))])
 (.seq (.reg [Yi 16 (.call (.c (.fn 11 [] [])) []), Yi 7 (.mov (.t 16))])
 (.seq (.seq (.reg [Yi 17 (.load true 4 (.t 3)), Yi 18 (.call (.c (.fn 12 [] [])) [(.t 17)]), Yi 19 (.un .not (.t 18)), Yi 20 (.mov (.t 19)), Yj 21 20 false (.load true 4 (.t 4)), Yj 22 20 false (.call (.c (.fn 12 [] [])) [(.t 21)]), Yj 23 20 false (.un .not (.t 22)), Yi 24 (.pick (.t 20) (.c (.bool true)) (.t 23)),
 Yi 25 (.mov (.t 24)), Yj 26 25 false (.mov (.t 2)), Yj 27 25 false (.call (.c (.fn 17 [] [])) [(.t 26)]), Yj 28 25 false (.un .not (.t 27)), Yi 29 (.pick (.t 25) (.c (.bool true)) (.t 28))])
 (.cond (.t 29)
 (.seq (.reg [Yi 30 (.mov (.t 7)), Yi 6 (.mov (.t 30))])
 (.ret))
 (.skip)))
 (.seq (.reg [Yi 32 (.load true 4 (.t 3)), Yi 33 (.load true 4 (.t 4)), Yi 34 (.call (.c (.fn 18 [] [])) [(.t 32), (.t 33)]), Yi 31 (.mov (.t 34)), Yi 35 (.extract (.t 31) 0), Yi 36 (.extract (.t 31) 1), Yi 8 (.alloc [(.int .i64 0), (.slice [] .nil), (.slice [] .nil), (.slice [] .nil)]), ⟨none, .store 4 (.t 8) (.t 35), none⟩,
 Yi 9 (.mov (.t 36))])
 (.seq (.reg [Yi 38 (.load true 4 (.t 3)), Yi 39 (.load true 4 (.t 4)), Yi 40 (.call (.c (.fn 19 [] [])) [(.t 38), (.t 39)]), Yi 37 (.mov (.t 40)), Yi 41 (.extract (.t 37) 0), Yi 42 (.extract (.t 37) 1), Yi 10 (.alloc [(.int .i64 0), (.slice [] .nil), (.slice [] .nil), (.slice [] .nil)]), ⟨none, .store 4 (.t 10) (.t 41), none⟩,
 Yi 11 (.mov (.t 42))])
 (.seq (.reg [Yi 44 (.load true 4 (.t 3)), Yi 45 (.load true 4 (.t 4)), Yi 46 (.mov (.t 2)), Yi 47 (.call (.c (.fn 20 [] [])) [(.t 44), (.t 45), (.t 46)]), Yi 43 (.mov (.t 47)), Yi 48 (.extract (.t 43) 0), Yi 49 (.extract (.t 43) 1), Yi 12 (.mov (.t 48)), Yi 13 (.mov (.t 49))])
 (.seq (.reg [Yi 51 (.load true 4 (.t 3)), Yi 52 (.load true 4 (.t 4)), Yi 53 (.mov (.t 2)), Yi 54 (.call (.c (.fn 21 [] [])) [(.t 51), (.t 52), (.t 53)]), Yi 50 (.mov (.t 54)), Yi 55 (.extract (.t 50) 0), Yi 56 (.extract (.t 50) 1), Yi 14 (.mov (.t 55)), Yi 15 (.mov (.t 56))])
 (.seq (.reg [Yi 57 (.mov (.t 7)), Yi 58 (.mov (.t 57)), Yj 59 58 true (.load true 4 (.t 8)), Yj 60 58 true (.load true 4 (.t 10)), Yj 61 58 true (.call (.c (.fn 22 [] [])) [(.t 59), (.t 60)]), Yi 62 (.pick (.t 58) (.t 61) (.c (.bool false))), Yi 63 (.mov (.t 62)), Yj 64 63 true (.mov (.t 9)), Yj 65 63 true (.mov (.t 11)),
 Yj 66 63 true (.bin .eql false (.t 64) (.t 65)), Yi 67 (.pick (.t 63) (.t 66) (.c (.bool false))), Yi 68 (.mov (.t 67)), Yj 69 68 true (.mov (.t 12)), Yj 70 68 true (.mov (.t 14)), Yj 71 68 true (.bin .eql false (.t 69) (.t 70)), Yi 72 (.pick (.t 68) (.t 71) (.c (.bool false))), Yi 73 (.mov (.t 72)),
 Yj 74 73 true (.mov (.t 13)), Yj 75 73 true (.mov (.t 15)), Yj 76 73 true (.bin .eql false (.t 74) (.t 75)), Yi 77 (.pick (.t 73) (.t 76) (.c (.bool false))), Yi 6 (.mov (.t 77))])
 (.ret))))))))
def r4 : List ARV := [.tmp 6]
theorem b4 : Try.f4.body.bind (tr Try.prog 78) = some c4.bare := by kernel_rfl
theorem q4 : trRes Try.prog Try.f4.results.toList = some r4 := by kernel_rfl
theorem n4 : (Try.f4.name == "runtime.NumGoroutine") = false := by kernel_rfl

def c11 : ACode :=
 .seq (.reg [Yi 0 (.mov (.c (.bool false)))])
 (.seq (.reg [Yi 27 (.build [(.int .i64 0), (.int .i64 0)] [(0, 1, (.c (.int .i64 2))), (1, 1, (.c (.int .i64 4)))]), Yi 28 (.bslice 2 [(.t 27)]), Yi 29 (.bslice 1 [(.c (.int .i64 6))]), Yi 30 (.build [(.int .i64 0), (.slice [] .nil), (.slice [] .nil), (.slice [] .nil)] [(0, 1, (.c (.int .i64 2))), (2, 1, (.t 28)), (3, 1, (.t 29))]),
 Yi 1 (.alloc [(.int .i64 0), (.slice [] .nil), (.slice [] .nil), (.slice [] .nil)]), ⟨none, .store 4 (.t 1) (.t 30), none⟩])
 (.seq (.reg [Yi 31 (.build [(.int .i64 0), (.int .i64 0)] [(0, 1, (.c (.int .i64 4))), (1, 1, (.c (.int .i64 2)))]), Yi 32 (.bslice 2 [(.t 31)]), Yi 33 (.bslice 1 [(.c (.int .i64 6))]), Yi 34 (.build [(.int .i64 0), (.slice [] .nil), (.slice [] .nil), (.slice [] .nil)] [(0, 1, (.c (.int .i64 2))), (2, 1, (.t 32)), (3, 1, (.t 33))]),
 Yi 2 (.alloc [(.int .i64 0), (.slice [] .nil), (.slice [] .nil), (.slice [] .nil)]), ⟨none, .store 4 (.t 2) (.t 34), none⟩])
 (.seq (.reg [Yi 35 (.build [(.int .i64 0), (.int .i64 0)] [(0, 1, (.c (.int .i64 3))), (1, 1, (.c (.int .i64 5)))]), Yi 36 (.bslice 2 [(.t 35)]), Yi 37 (.bslice 1 [(.c (.int .i64 7))]), Yi 38 (.build [(.int .i64 0), (.slice [] .nil), (.slice [] .nil), (.slice [] .nil)] [(0, 1, (.c (.int .i64 2))), (2, 1, (.t 36)), (3, 1, (.t 37))]),
 Yi 3 (.alloc [(.int .i64 0), (.slice [] .nil), (.slice [] .nil), (.slice [] .nil)]), ⟨none, .store 4 (.t 3) (.t 38), none⟩])
 (.seq (.reg [Yi 40 (.load true 4 (.t 1)), Yi 41 (.load true 4 (.t 2)), Yi 42 (.call (.c (.fn 23 [] [])) [(.t 40), (.t 41)]), Yi 39 (.mov (.t 42)), Yi 43 (.extract (.t 39) 0), Yi 44 (.extract (.t 39) 1), Yi 45 (.extract (.t 39) 2), Yi 46 (.extract (.t 39) 3), Yi 4 (.mov (.t 43)), Yi 5 (.mov (.t 44)),
 Yi 6 (.mov (.t 45)), Yi 7 (.mov (.t 46))])
 (.seq (.reg [Yi 48 (.load true 4 (.t 1)), Yi 49 (.load true 4 (.t 3)), Yi 50 (.call (.c (.fn 23 [] [])) [(.t 48), (.t 49)]), Yi 47 (.mov (.t 50)), Yi 51 (.extract (.t 47) 0), Yi 52 (.extract (.t 47) 1), Yi 53 (.extract (.t 47) 2), Yi 54 (.extract (.t 47) 3), Yi 8 (.mov (.t 51)), Yi 9 (.mov (.t 52)),
 Yi 10 (.mov (.t 53)), Yi 11 (.mov (.t 54))])
 (.seq (.reg [Yi 56 (.load true 4 (.t 1)), Yi 57 (.call (.c (.fn 13 [] [])) [(.t 56)]), Yi 55 (.mov (.t 57)), Yi 58 (.extract (.t 55) 0), Yi 59 (.extract (.t 55) 1), Yi 60 (.extract (.t 55) 2), Yi 12 (.alloc [(.int .i64 0), (.slice [] .nil)]), ⟨none, .store 2 (.t 12) (.t 58), none⟩, Yi 13 (.mov (.t 59)),
 Yi 14 (.mov (.t 60))])
 (.seq (.reg [Yi 62 (.load true 4 (.t 1)), Yi 63 (.load true 4 (.t 2)), Yi 64 (.call (.c (.fn 18 [] [])) [(.t 62), (.t 63)]), Yi 61 (.mov (.t 64)), Yi 65 (.extract (.t 61) 0), Yi 66 (.extract (.t 61) 1), Yi 15 (.alloc [(.int .i64 0), (.slice [] .nil), (.slice [] .nil), (.slice [] .nil)]), ⟨none, .store 4 (.t 15) (.t 65), none⟩,
 Yi 16 (.mov (.t 66))])
 (.seq (.reg [Yi 68 (.load true 4 (.t 1)), Yi 69 (.load true 4 (.t 3)), Yi 70 (.bslice 1 [(.c (.bool true)), (.c (.bool true))]), Yi 71 (.bslice 1 [(.c (.bool true)), (.c (.bool false))]), Yi 72 (.bslice 1 [(.t 70), (.t 71)]), Yi 73 (.call (.c (.fn 20 [] [])) [(.t 68), (.t 69), (.t 72)]), Yi 67 (.mov (.t 73)),
 Yi 74 (.extract (.t 67) 0), Yi 75 (.extract (.t 67) 1), Yi 17 (.mov (.t 74)), Yi 18 (.mov (.t 75))])
 (.seq (.reg [Yi 77 (.load true 4 (.t 1)), Yi 78 (.load true 4 (.t 2)), Yi 79 (.bslice 1 [(.c (.bool true)), (.c (.bool true))]), Yi 80 (.bslice 1 [(.c (.bool true)), (.c (.bool false))]), Yi 81 (.bslice 1 [(.t 79), (.t 80)]), Yi 82 (.call (.c (.fn 20 [] [])) [(.t 77), (.t 78), (.t 81)]), Yi 76 (.mov (.t 82)),
 Yi 83 (.extract (.t 76) 0), Yi 84 (.extract (.t 76) 1), Yi 19 (.mov (.t 83)), Yi 20 (.mov (.t 84))])
 (.seq (.reg [Yi 86 (.load true 4 (.t 1)), Yi 87 (.load true 4 (.t 3)), Yi 88 (.bslice 1 [(.c (.bool true))]), Yi 89 (.bslice 1 [(.t 88)]), Yi 90 (.call (.c (.fn 20 [] [])) [(.t 86), (.t 87), (.t 89)]), Yi 85 (.mov (.t 90)), Yi 91 (.extract (.t 85) 0), Yi 92 (.extract (.t 85) 1), Yi 21 (.mov (.t 91)),
 Yi 22 (.mov (.t 92))])
 (.seq (.reg [Yi 94 (.load true 4 (.t 1)), Yi 95 (.build [(.int .i64 0), (.slice [] .nil), (.slice [] .nil), (.slice [] .nil)] [(0, 1, (.c (.int .i64 2)))]), Yi 96 (.call (.c (.fn 23 [] [])) [(.t 94), (.t 95)]), Yi 93 (.mov (.t 96)), Yi 97 (.extract (.t 93) 0), Yi 98 (.extract (.t 93) 1), Yi 99 (.extract (.t 93) 2),
 Yi 100 (.extract (.t 93) 3), Yi 23 (.mov (.t 97)), Yi 24 (.mov (.t 98)), Yi 25 (.mov (.t 99)), Yi 26 (.mov (.t 100))])
 (.seq (.reg [Yi 101 (.mov (.t 4)), Yi 102 (.mov (.t 101)), Yj 103 102 true (.mov (.t 7)), Yj 104 102 true (.bin .eql false (.t 103) (.c (.int .i64 0))), Yi 105 (.pick (.t 102) (.t 104) (.c (.bool false))), Yi 106 (.mov (.t 105)), Yj 107 106 true (.mov (.t 8)), Yj 108 106 true (.un .not (.t 107)), Yi 109 (.pick (.t 106) (.t 108) (.c (.bool false))),
 Yi 110 (.mov (.t 109)), Yj 111 110 true (.mov (.t 11)), Yj 112 110 true (.bin .eql false (.t 111) (.c (.int .i64 0))), Yi 113 (.pick (.t 110) (.t 112) (.c (.bool false))), Yi 114 (.mov (.t 113)), Yj 115 114 true (.mov (.t 9)), Yj 116 114 true (.len (.t 115)), Yj 117 114 true (.bin .eql false (.t 116) (.c (.int .i64 2))),
 Yi 118 (.pick (.t 114) (.t 117) (.c (.bool false))), Yi 119 (.mov (.t 118)), Yj 120 119 true (.mov (.t 9)), Yj 121 119 true (.idxS 1 (.t 120) (.c (.int .i64 0))), Yj 122 119 true (.load false 1 (.t 121)), Yj 123 119 true (.un .not (.t 122)), Yi 124 (.pick (.t 119) (.t 123) (.c (.bool false))), Yi 125 (.mov (.t 124)),
 Yj 126 125 true (.mov (.t 9)), Yj 127 125 true (.idxS 1 (.t 126) (.c (.int .i64 1))), Yj 128 125 true (.load false 1 (.t 127)), Yi 129 (.pick (.t 125) (.t 128) (.c (.bool false))), Yi 130 (.mov (.t 129)), Yj 131 130 true (.mov (.t 10)), Yj 132 130 true (.len (.t 131)), Yj 133 130 true (.bin .eql false (.t 132) (.c (.int .i64 0))),
 Yi 134 (.pick (.t 130) (.t 133) (.c (.bool false))), Yi 135 (.mov (.t 134)), Yj 136 135 true (.mov (.t 14)), Yj 137 135 true (.bin .eql false (.t 136) (.c (.int .i64 0))), Yi 138 (.pick (.t 135) (.t 137) (.c (.bool false))), Yi 139 (.mov (.t 138)), Yj 140 139 true (.mov (.t 13)), Yj 141 139 true (.len (.t 140)),
 Yj 142 139 true (.bin .eql false (.t 141) (.c (.int .i64 1))), Yi 143 (.pick (.t 139) (.t 142) (.c (.bool false))), Yi 144 (.mov (.t 143)), Yj 145 144 true (.fldA 1 (.t 12)), Yj 146 144 true (.load false 1 (.t 145)), Yj 147 144 true (.len (.t 146)), Yj 148 144 true (.bin .eql false (.t 147) (.c (.int .i64 5))),
 Yi 149 (.pick (.t 144) (.t 148) (.c (.bool false))), Yi 150 (.mov (.t 149)), Yj 151 150 true (.mov (.t 16)), Yj 152 150 true (.bin .eql false (.t 151) (.c (.int .i64 0))), Yi 153 (.pick (.t 150) (.t 152) (.c (.bool false))), Yi 154 (.mov (.t 153)), Yj 155 154 true (.fldA 2 (.t 15)), Yj 156 154 true (.load false 1 (.t 155)),
 Yj 157 154 true (.len (.t 156)), Yj 158 154 true (.bin .eql false (.t 157) (.c (.int .i64 1))), Yi 159 (.pick (.t 154) (.t 158) (.c (.bool false))), Yi 160 (.mov (.t 159)), Yj 161 160 true (.fldA 3 (.t 15)), Yj 162 160 true (.load false 1 (.t 161)), Yj 163 160 true (.len (.t 162)), Yj 164 160 true (.bin .eql false (.t 163) (.c (.int .i64 1))),
 Yi 165 (.pick (.t 160) (.t 164) (.c (.bool false))), Yi 166 (.mov (.t 165)), Yj 167 166 true (.fldA 3 (.t 15)), Yj 168 166 true (.load false 1 (.t 167)), Yj 169 166 true (.idxS 1 (.t 168) (.c (.int .i64 0))), Yj 170 166 true (.load false 1 (.t 169)), Yj 171 166 true (.bin .eql false (.t 170) (.c (.int .i64 0))),
 Yi 172 (.pick (.t 166) (.t 171) (.c (.bool false))), Yi 173 (.mov (.t 172)), Yj 174 173 true (.mov (.t 17)), Yj 175 173 true (.bin .eql false (.t 174) (.c (.int .i64 1))), Yi 176 (.pick (.t 173) (.t 175) (.c (.bool false))), Yi 177 (.mov (.t 176)), Yj 178 177 true (.mov (.t 18)), Yj 179 177 true (.bin .eql false (.t 178) (.c (.int .i64 0))),
 Yi 180 (.pick (.t 177) (.t 179) (.c (.bool false))), Yi 181 (.mov (.t 180)), Yj 182 181 true (.mov (.t 19)), Yj 183 181 true (.bin .eql false (.t 182) (.c (.int .i64 (-1)))), Yi 184 (.pick (.t 181) (.t 183) (.c (.bool false))), Yi 185 (.mov (.t 184)), Yj 186 185 true (.mov (.t 20)), Yj 187 185 true (.bin .eql false (.t 186) (.c (.int .i64 0))),
 Yi 188 (.pick (.t 185) (.t 187) (.c (.bool false))), Yi 189 (.mov (.t 188)), Yj 190 189 true (.mov (.t 22)), Yj 191 189 true (.bin .eql false (.t 190) (.c (.int .i64 1))), Yi 192 (.pick (.t 189) (.t 191) (.c (.bool false))), Yi 193 (.mov (.t 192)), Yj 194 193 true (.mov (.t 26)), Yj 195 193 true (.bin .eql false (.t 194) (.c (.int .i64 1))),
 Yi 196 (.pick (.t 193) (.t 195) (.c (.bool false))), Yi 0 (.mov (.t 196))])
 (.ret)))))))))))))
def r11 : List ARV := [.tmp 0]
theorem b11 : Try.f11.body.bind (tr Try.prog 197) = some c11.bare := by kernel_rfl
theorem q11 : trRes Try.prog Try.f11.results.toList = some r11 := by kernel_rfl
theorem n11 : (Try.f11.name == "runtime.NumGoroutine") = false := by kernel_rfl

def c12 : ACode :=
 .seq (.reg [Yi 1 (.boxI (.t 0)), Yi 2 (.mov (.c (.bool false)))])
 (.seq (.reg [Yi 3 (.fldA 0 (.t 1)), Yi 4 (.load false 1 (.t 3)), Yi 5 (.fldA 1 (.t 1)), Yi 6 (.load false 1 (.t 5)), Yi 7 (.len (.t 6)), Yi 8 (.bin .add false (.t 4) (.t 7)), Yi 9 (.bin .leq false (.t 8) (.c (.int .i64 8))), Yi 10 (.mov (.t 9)), Yj 11 10 true (.fldA 0 (.t 1)), Yj 12 10 true (.load false 1 (.t 11)),
 Yj 13 10 true (.bin .geq false (.t 12) (.c (.int .i64 (-1)))), Yi 14 (.pick (.t 10) (.t 13) (.c (.bool false))), Yi 15 (.mov (.t 14)), Yj 16 15 true (.fldA 1 (.t 1)), Yj 17 15 true (.load false 1 (.t 16)), Yj 18 15 true (.len (.t 17)), Yj 19 15 true (.bin .leq false (.t 18) (.c (.int .i64 8))), Yi 20 (.pick (.t 15) (.t 19) (.c (.bool false))),
 Yi 21 (.mov (.t 20)), Yj 22 21 true (.fldA 2 (.t 1)), Yj 23 21 true (.load false 1 (.t 22)), Yj 24 21 true (.len (.t 23)), Yj 25 21 true (.bin .leq false (.t 24) (.c (.int .i64 40))), Yi 26 (.pick (.t 21) (.t 25) (.c (.bool false))), Yi 27 (.mov (.t 26)), Yj 28 27 true (.fldA 3 (.t 1)), Yj 29 27 true (.load false 1 (.t 28)),
 Yj 30 27 true (.len (.t 29)), Yj 31 27 true (.bin .leq false (.t 30) (.c (.int .i64 10))), Yi 32 (.pick (.t 27) (.t 31) (.c (.bool false))), Yi 2 (.mov (.t 32))])
 (.ret))
def r12 : List ARV := [.tmp 2]
theorem b12 : Try.f12.body.bind (tr Try.prog 33) = some c12.bare := by kernel_rfl
theorem q12 : trRes Try.prog Try.f12.results.toList = some r12 := by kernel_rfl
theorem n12 : (Try.f12.name == "runtime.NumGoroutine") = false := by kernel_rfl

def c13 : ACode :=
 .seq (.reg [Yi 1 (.boxI (.t 0)), Yi 2 (.alloc [(.int .i64 0), (.slice [] .nil)]), Yi 3 (.mov (.c (.slice [] .nil))), Yi 4 (.mov (.c (.int .i64 0)))])
 (.seq (.seq (.reg [Yi 15 (.load true 4 (.t 1)), Yi 16 (.call (.c (.fn 33 [] [])) [(.t 15)]), Yi 5 (.mov (.t 16))])
 (.seq (.reg [Yi 17 (.mov (.t 5)), Yi 18 (.bin .neq false (.t 17) (.c (.int .i64 0)))])
 (.cond (.t 18)
 (.seq (.reg [Yi 19 (.build [(.int .i64 0), (.slice [] .nil)] []), Yi 20 (.mov (.t 5)), ⟨none, .store 2 (.t 2) (.t 19), none⟩, Yi 3 (.mov (.c (.slice [] .nil))), Yi 4 (.mov (.t 20))])
 (.ret))
 (.skip))))
 (.seq (.reg [Yi 22 (.fldA 0 (.t 1)), Yi 23 (.load false 1 (.t 22)), Yi 24 (.fldA 1 (.t 1)), Yi 25 (.load false 1 (.t 24)), Yi 26 (.len (.t 25)), Yi 27 (.bin .add false (.t 23) (.t 26)), Yi 28 (.call (.c (.fn 34 [] [])) [(.t 27)]), Yi 21 (.mov (.t 28)), Yi 29 (.extract (.t 21) 0), Yi 30 (.extract (.t 21) 1),
 Yi 6 (.alloc [(.int .i64 0), (.slice [] .nil)]), ⟨none, .store 2 (.t 6) (.t 29), none⟩, Yi 7 (.mov (.t 30))])
 (.seq (.seq (.reg [Yi 31 (.mov (.t 7)), Yi 32 (.bin .neq false (.t 31) (.c (.int .i64 0)))])
 (.cond (.t 32)
 (.seq (.reg [Yi 33 (.build [(.int .i64 0), (.slice [] .nil)] []), Yi 34 (.mov (.t 7)), ⟨none, .store 2 (.t 2) (.t 33), none⟩, Yi 3 (.mov (.c (.slice [] .nil))), Yi 4 (.mov (.t 34))])
 (.ret))
 (.skip)))
 (.seq (.reg [Yi 35 (.load true 2 (.t 6)), Yi 36 (.ext (.bsliceG 1 [(.c (.int .i64 0))])), Yi 37 (.build [(.int .i64 0), (.slice [] .nil), (.slice [] .nil), (.int .i64 0)] [(0, 2, (.t 35)), (2, 1, (.t 36))]), Yi 38 (.box (.t 37)), Yi 8 (.alloc [.nilp]), ⟨none, .store 1 (.t 8) (.t 38), none⟩])
 (.seq (.seq (.reg [Yi 39 (.fldA 0 (.t 6)), Yi 40 (.load false 1 (.t 39)), Yi 41 (.mov (.c (.int .i64 0)))])
 (.block 0 (.loop (.seq (.reg [Yi 42 (.bin .lss false (.t 41) (.t 40))])
 (.seq (.cond (.t 42)
 (.skip)
 (.exit 0))
 (.seq (.block 1 (.seq (.reg [Yi 43 (.mov (.t 41)), Yi 9 (.alloc [(.int .i64 0)]), ⟨none, .store 1 (.t 9) (.t 43), none⟩])
 (.drw [Yi 44 (.load false 1 (.t 8)), Yi 45 (.load false 1 (.t 8)), Yi 46 (.nilchk (.t 45)), Yi 47 (.fldA 2 (.t 46)), Yi 48 (.load false 1 (.t 47)), Yi 49 (.load false 1 (.t 8)), Yi 50 (.mkfn 36 [] [(.t 8), (.t 9)]), Yi 51 (.call (.c (.fn 35 [] [])) [(.t 49), (.t 50)]), Yi 52 (.bslice 1 [(.t 51)]), Yi 53 (.append 1 8 (.t 48) (.t 52)),
 Yi 54 (.nilchk (.t 44)), Yi 55 (.fldA 2 (.t 54)), ⟨none, .store 1 (.t 55) (.t 53), none⟩] [(0, 7), (0, 9), (1, 7), (4, 7)])))
 (.reg [Yi 56 (.bin .add false (.t 41) (.c (.int .i64 1))), Yi 41 (.mov (.t 56))])))))))
 (.seq (.seq (.reg [Yi 57 (.fldA 2 (.t 1)), Yi 58 (.load false 1 (.t 57)), Yi 59 (.len (.t 58)), Yi 60 (.mov (.c (.int .i64 0)))])
 (.block 2 (.loop (.seq (.reg [Yi 61 (.bin .lss false (.t 60) (.t 59))])
 (.seq (.cond (.t 61)
 (.skip)
 (.exit 2))
 (.seq (.block 3 (.seq (.reg [Yi 62 (.idxS 2 (.t 58) (.t 60)), Yi 63 (.load true 2 (.t 62)), Yi 11 (.alloc [(.int .i64 0), (.int .i64 0)]), ⟨none, .store 2 (.t 11) (.t 63), none⟩])
 (.seq (.reg [Yi 64 (.load false 1 (.t 8)), Yi 65 (.idxR 1 2 (.t 11) (.c (.int .i64 0))), Yi 66 (.load false 1 (.t 65)), Yi 67 (.call (.c (.fn 38 [] [])) [(.t 64), (.t 66)]), Yi 12 (.alloc [(.int .i64 0)]), ⟨none, .store 1 (.t 12) (.t 67), none⟩])
 (.seq (.reg [Yi 68 (.load false 1 (.t 8)), Yi 69 (.idxR 1 2 (.t 11) (.c (.int .i64 1))), Yi 70 (.load false 1 (.t 69)), Yi 71 (.call (.c (.fn 38 [] [])) [(.t 68), (.t 70)]), Yi 13 (.alloc [(.int .i64 0)]), ⟨none, .store 1 (.t 13) (.t 71), none⟩])
 (.drw [Yi 72 (.load false 1 (.t 8)), Yi 73 (.load false 1 (.t 8)), Yi 74 (.nilchk (.t 73)), Yi 75 (.fldA 2 (.t 74)), Yi 76 (.load false 1 (.t 75)), Yi 77 (.load false 1 (.t 8)), Yi 78 (.mkfn 39 [] [(.t 8), (.t 12), (.t 13)]), Yi 79 (.call (.c (.fn 35 [] [])) [(.t 77), (.t 78)]), Yi 80 (.bslice 1 [(.t 79)]),
 Yi 81 (.append 1 8 (.t 76) (.t 80)), Yi 82 (.nilchk (.t 72)), Yi 83 (.fldA 2 (.t 82)), ⟨none, .store 1 (.t 83) (.t 81), none⟩] [(0, 7), (0, 9), (1, 7), (4, 7)])))))
 (.reg [Yi 84 (.bin .add false (.t 60) (.c (.int .i64 1))), Yi 60 (.mov (.t 84))])))))))
 (.seq (.drw [Yi 85 (.load false 1 (.t 8)), Yi 86 (.mkfn 38 [(.t 85)] []), Yi 87 (.fldA 3 (.t 1)), Yi 88 (.load false 1 (.t 87)), Yi 89 (.load true 4 (.t 1)), Yi 90 (.call (.c (.fn 42 [] [])) [(.t 89)]), Yi 91 (.bslice 1 [(.t 88), (.t 90)]), Yi 92 (.call (.c (.fn 41 [] [])) [(.t 86), (.t 91)]), Yi 14 (.mov (.t 92))] [(0, 5), (3, 5)])
 (.seq (.seq (.reg [Yi 93 (.load false 1 (.t 8)), Yi 94 (.nilchk (.t 93)), Yi 95 (.fldA 3 (.t 94)), Yi 96 (.load false 1 (.t 95)), Yi 97 (.bin .neq false (.t 96) (.c (.int .i64 0)))])
 (.cond (.t 97)
 (.seq (.drw [Yi 98 (.build [(.int .i64 0), (.slice [] .nil)] []), Yi 99 (.load false 1 (.t 8)), Yi 100 (.nilchk (.t 99)), Yi 101 (.fldA 3 (.t 100)), Yi 102 (.load false 1 (.t 101)), ⟨none, .store 2 (.t 2) (.t 98), none⟩, Yi 3 (.mov (.c (.slice [] .nil))), Yi 4 (.mov (.t 102))] [(1, 5), (4, 5)])
 (.ret))
 (.skip)))
 (.seq (.reg [Yi 103 (.load false 1 (.t 8)), Yi 104 (.nilchk (.t 103)), Yi 105 (.fldA 0 (.t 104)), Yi 106 (.load true 2 (.t 105)), Yi 107 (.mov (.t 14)), ⟨none, .store 2 (.t 2) (.t 106), none⟩, Yi 3 (.mov (.t 107)), Yi 4 (.mov (.c (.int .i64 0)))])
 (.ret))))))))))
def r13 : List ARV := [.cell 2 true 2, .tmp 3, .tmp 4]
theorem b13 : Try.f13.body.bind (tr Try.prog 108) = some c13.bare := by kernel_rfl
theorem q13 : trRes Try.prog Try.f13.results.toList = some r13 := by kernel_rfl
theorem n13 : (Try.f13.name == "runtime.NumGoroutine") = false := by kernel_rfl

def c15 : ACode :=
 .seq (.reg [Yi 2 (.boxI (.t 0)), Yi 3 (.boxI (.t 1)), Yi 4 (.mov (.c (.bool false)))])
 (.seq (.seq (.reg [Yi 6 (.fldA 0 (.t 2)), Yi 7 (.load false 1 (.t 6)), Yi 8 (.fldA 0 (.t 3)), Yi 9 (.load false 1 (.t 8)), Yi 10 (.bin .neq false (.t 7) (.t 9)), Yi 11 (.mov (.t 10)), Yj 12 11 false (.fldA 1 (.t 2)), Yj 13 11 false (.load false 1 (.t 12)), Yj 14 11 false (.len (.t 13)), Yj 15 11 false (.fldA 1 (.t 3)),
 Yj 16 11 false (.load false 1 (.t 15)), Yj 17 11 false (.len (.t 16)), Yj 18 11 false (.bin .neq false (.t 14) (.t 17)), Yi 19 (.pick (.t 11) (.c (.bool true)) (.t 18))])
 (.cond (.t 19)
 (.seq (.reg [Yi 4 (.mov (.c (.bool false)))])
 (.ret))
 (.skip)))
 (.seq (.seq (.reg [Yi 5 (.mov (.c (.int .i64 0)))])
 (.block 0 (.loop (.seq (.seq (.reg [Yi 20 (.mov (.t 5)), Yi 21 (.fldA 1 (.t 2)), Yi 22 (.load false 1 (.t 21)), Yi 23 (.len (.t 22)), Yi 24 (.bin .lss false (.t 20) (.t 23))])
 (.cond (.t 24)
 (.skip)
 (.exit 0)))
 (.seq (.block 1 (.seq (.drw [Yi 27 (.fldA 1 (.t 2)), Yi 28 (.load false 1 (.t 27)), Yi 29 (.mov (.t 5)), Yi 30 (.idxS 3 (.t 28) (.t 29)), Yi 31 (.load true 3 (.t 30)), Yi 32 (.fldA 1 (.t 3)), Yi 33 (.load false 1 (.t 32)), Yi 34 (.mov (.t 5)), Yi 35 (.idxS 3 (.t 33) (.t 34)), Yi 36 (.load true 3 (.t 35)),
 Yi 37 (.eqs true [0, 0, 0] (.t 31) (.t 36))] [])
 (.cond (.t 37)
 (.seq (.reg [Yi 4 (.mov (.c (.bool false)))])
 (.ret))
 (.skip))))
 (.reg [Yi 25 (.mov (.t 5)), Yi 26 (.bin .add false (.t 25) (.c (.int .i64 1))), Yi 5 (.mov (.t 26))]))))))
 (.seq (.reg [Yi 4 (.mov (.c (.bool true)))])
 (.ret))))
def r15 : List ARV := [.tmp 4]
theorem b15 : Try.f15.body.bind (tr Try.prog 38) = some c15.bare := by kernel_rfl
theorem q15 : trRes Try.prog Try.f15.results.toList = some r15 := by kernel_rfl
theorem n15 : (Try.f15.name == "runtime.NumGoroutine") = false := by kernel_rfl

def c17 : ACode :=
 .seq (.reg [Yi 2 (.mov (.c (.bool false)))])
 (.seq (.seq (.reg [Yi 3 (.mov (.c (.int .i64 0)))])
 (.block 0 (.loop (.seq (.seq (.reg [Yi 4 (.mov (.t 3)), Yi 5 (.mov (.t 0)), Yi 6 (.len (.t 5)), Yi 7 (.bin .lss false (.t 4) (.t 6)), Yi 8 (.mov (.t 7)), Yj 9 8 true (.mov (.t 3)), Yj 10 8 true (.bin .lss false (.t 9) (.c (.int .i64 30))), Yi 11 (.pick (.t 8) (.t 10) (.c (.bool false)))])
 (.cond (.t 11)
 (.skip)
 (.exit 0)))
 (.seq (.block 1 (.seq (.reg [Yi 14 (.mov (.t 0)), Yi 15 (.mov (.t 3)), Yi 16 (.idxS 1 (.t 14) (.t 15)), Yi 17 (.load false 1 (.t 16)), Yi 18 (.len (.t 17)), Yi 19 (.bin .gtr false (.t 18) (.c (.int .i64 20)))])
 (.cond (.t 19)
 (.seq (.reg [Yi 2 (.mov (.c (.bool false)))])
 (.ret))
 (.skip))))
 (.reg [Yi 12 (.mov (.t 3)), Yi 13 (.bin .add false (.t 12) (.c (.int .i64 1))), Yi 3 (.mov (.t 13))]))))))
 (.seq (.reg [Yi 20 (.mov (.t 0)), Yi 21 (.len (.t 20)), Yi 22 (.bin .leq false (.t 21) (.c (.int .i64 20))), Yi 2 (.mov (.t 22))])
 (.ret)))
def r17 : List ARV := [.tmp 2]
theorem b17 : Try.f17.body.bind (tr Try.prog 23) = some c17.bare := by kernel_rfl
theorem q17 : trRes Try.prog Try.f17.results.toList = some r17 := by kernel_rfl
theorem n17 : (Try.f17.name == "runtime.NumGoroutine") = false := by kernel_rfl

def c18 : ACode :=
 .seq (.reg [Yi 2 (.boxI (.t 0)), Yi 3 (.boxI (.t 1)), Yi 4 (.alloc [(.int .i64 0), (.slice [] .nil), (.slice [] .nil), (.slice [] .nil)]), Yi 5 (.alloc [(.int .i64 0)])])
 (.seq (.seq (.reg [Yi 17 (.load true 4 (.t 2)), Yi 18 (.load true 4 (.t 3)), Yi 19 (.bslice 4 [(.t 17), (.t 18)]), Yi 20 (.call (.c (.fn 47 [] [])) [(.t 19)]), ⟨none, .store 1 (.t 5) (.t 20), none⟩])
 (.seq (.reg [Yi 21 (.load false 1 (.t 5)), Yi 22 (.bin .neq false (.t 21) (.c (.int .i64 0)))])
 (.cond (.t 22)
 (.seq (.drw [Yi 23 (.load true 4 (.t 4)), Yi 24 (.load false 1 (.t 5)), ⟨none, .store 4 (.t 4) (.t 23), none⟩, ⟨none, .store 1 (.t 5) (.t 24), none⟩] [(1, 2)])
 (.ret))
 (.skip))))
 (.seq (.seq (.reg [Yi 25 (.fldA 0 (.t 2)), Yi 26 (.load false 1 (.t 25)), Yi 27 (.fldA 1 (.t 2)), Yi 28 (.load false 1 (.t 27)), Yi 29 (.len (.t 28)), Yi 30 (.fldA 3 (.t 2)), Yi 31 (.load false 1 (.t 30)), Yi 32 (.len (.t 31)), Yi 33 (.build [(.int .i64 0), (.int .i64 0), (.int .i64 0)] [(0, 1, (.t 26)), (1, 1, (.t 29)), (2, 1, (.t 32))]),
 Yi 34 (.fldA 0 (.t 3)), Yi 35 (.load false 1 (.t 34)), Yi 36 (.fldA 1 (.t 3)), Yi 37 (.load false 1 (.t 36)), Yi 38 (.len (.t 37)), Yi 39 (.fldA 3 (.t 3)), Yi 40 (.load false 1 (.t 39)), Yi 41 (.len (.t 40)), Yi 42 (.build [(.int .i64 0), (.int .i64 0), (.int .i64 0)] [(0, 1, (.t 35)), (1, 1, (.t 38)), (2, 1, (.t 41))]),
 Yi 43 (.eqs true [0, 0, 0] (.t 33) (.t 42))])
 (.cond (.t 43)
 (.seq (.reg [Yi 44 (.load true 4 (.t 4)), ⟨none, .store 4 (.t 4) (.t 44), none⟩, ⟨none, .store 1 (.t 5) (.c (.int .i64 1)), none⟩])
 (.ret))
 (.skip)))
 (.seq (.drw [Yi 45 (.fldA 0 (.t 2)), Yi 46 (.load false 1 (.t 45)), Yi 47 (.fldA 1 (.t 2)), Yi 48 (.load false 1 (.t 47)), Yi 49 (.len (.t 48)), Yi 50 (.mkslice 2 16 [(.int .i64 0), (.bool false)] true (.t 49) (.t 49)), Yi 51 (.fldA 2 (.t 2)), Yi 52 (.load false 1 (.t 51)), Yi 53 (.call (.c (.fn 48 [] [])) [(.t 52)]),
 Yi 54 (.build [(.int .i64 0), (.slice [] .nil), (.slice [] .nil), (.slice [] .nil)] [(0, 1, (.t 46)), (1, 1, (.t 50)), (2, 1, (.t 53))]), ⟨none, .store 4 (.t 4) (.t 54), none⟩] [(1, 5), (1, 8), (3, 8), (5, 7), (5, 8), (8, 8)])
 (.seq (.reg [Yi 6 (.alloc [(.slice [] .nil)])])
 (.seq (.seq (.reg [Yi 55 (.fldA 0 (.t 2)), Yi 56 (.load false 1 (.t 55)), Yi 57 (.bin .add false (.c (.int .i64 1)) (.t 56)), Yi 58 (.fldA 1 (.t 2)), Yi 59 (.load false 1 (.t 58)), Yi 60 (.len (.t 59)), Yi 61 (.bin .add false (.t 57) (.t 60)), Yi 62 (.mov (.c (.int .i64 0)))])
 (.block 0 (.loop (.seq (.reg [Yi 63 (.bin .lss false (.t 62) (.t 61))])
 (.seq (.cond (.t 63)
 (.skip)
 (.exit 0))
 (.seq (.block 1 (.seq (.reg [Yi 64 (.mov (.t 62)), Yi 7 (.mov (.t 64))])
 (.reg [Yi 65 (.load false 1 (.t 6)), Yi 66 (.mov (.t 7)), Yi 67 (.bin .shl false (.t 66) (.c (.int .u64 1))), Yi 68 (.bslice 1 [(.t 67)]), Yi 69 (.append 1 8 (.t 65) (.t 68)), ⟨none, .store 1 (.t 6) (.t 69), none⟩])))
 (.reg [Yi 70 (.bin .add false (.t 62) (.c (.int .i64 1))), Yi 62 (.mov (.t 70))])))))))
 (.seq (.reg [Yi 71 (.mkfn 49 [] [(.t 6)]), Yi 8 (.mov (.t 71))])
 (.seq (.reg [Yi 72 (.mkfn 50 [] [(.t 5), (.t 4)]), Yi 9 (.mov (.t 72))])
 (.seq (.seq (.reg [Yi 73 (.fldA 2 (.t 3)), Yi 74 (.load false 1 (.t 73)), Yi 75 (.len (.t 74)), Yi 76 (.mov (.c (.int .i64 0)))])
 (.block 2 (.loop (.seq (.reg [Yi 77 (.bin .lss false (.t 76) (.t 75))])
 (.seq (.cond (.t 77)
 (.skip)
 (.exit 2))
 (.seq (.block 3 (.seq (.reg [Yi 78 (.idxS 2 (.t 74) (.t 76)), Yi 79 (.load true 2 (.t 78)), Yi 11 (.alloc [(.int .i64 0), (.int .i64 0)]), ⟨none, .store 2 (.t 11) (.t 79), none⟩])
 (.drw [Yi 80 (.load false 1 (.t 6)), Yi 81 (.mov (.t 9)), Yi 82 (.mov (.t 8)), Yi 83 (.idxR 1 2 (.t 11) (.c (.int .i64 0))), Yi 84 (.load false 1 (.t 83)), Yi 85 (.call (.t 82) [(.t 84)]), Yi 86 (.mov (.t 8)), Yi 87 (.idxR 1 2 (.t 11) (.c (.int .i64 1))), Yi 88 (.load false 1 (.t 87)), Yi 89 (.call (.t 86) [(.t 88)]),
 Yi 90 (.call (.t 81) [(.c (.fn 51 [] [])), (.t 85), (.t 89)]), Yi 91 (.bslice 1 [(.t 90)]), Yi 92 (.append 1 8 (.t 80) (.t 91)), ⟨none, .store 1 (.t 6) (.t 92), none⟩] [(0, 5), (0, 9), (0, 10), (5, 8)])))
 (.reg [Yi 93 (.bin .add false (.t 76) (.c (.int .i64 1))), Yi 76 (.mov (.t 93))])))))))
 (.seq (.drw [Yi 94 (.fldA 3 (.t 2)), Yi 95 (.load false 1 (.t 94)), Yi 96 (.load true 4 (.t 2)), Yi 97 (.call (.c (.fn 42 [] [])) [(.t 96)]), Yi 98 (.bslice 1 [(.t 95), (.t 97)]), Yi 99 (.call (.c (.fn 52 [] [])) [(.t 98)]), Yi 100 (.mov (.t 8)), Yi 101 (.fldA 3 (.t 3)), Yi 102 (.load false 1 (.t 101)),
 Yi 103 (.load true 4 (.t 3)), Yi 104 (.call (.c (.fn 42 [] [])) [(.t 103)]), Yi 105 (.bslice 1 [(.t 102), (.t 104)]), Yi 106 (.call (.c (.fn 41 [] [])) [(.t 100), (.t 105)]), Yi 12 (.mov (.t 99)), Yi 13 (.mov (.t 106))] [(1, 3), (3, 8), (3, 9), (5, 8), (5, 9), (8, 10)])
 (.seq (.reg [Yi 14 (.mov (.c (.int .i64 0)))])
 (.seq (.seq (.reg [Yi 107 (.mov (.t 12)), Yi 108 (.len (.t 107)), Yi 109 (.mov (.c (.int .i64 0)))])
 (.block 4 (.loop (.seq (.reg [Yi 110 (.bin .lss false (.t 109) (.t 108))])
 (.seq (.cond (.t 110)
 (.skip)
 (.exit 4))
 (.seq (.block 5 (.seq (.reg [Yi 111 (.mov (.t 109)), Yi 112 (.idxS 1 (.t 107) (.t 109)), Yi 113 (.load false 1 (.t 112)), Yi 15 (.mov (.t 111)), Yi 16 (.mov (.t 113))])
 (.reg [Yi 114 (.mov (.t 9)), Yi 115 (.mov (.t 14)), Yi 116 (.mov (.t 9)), Yi 117 (.mov (.t 16)), Yi 118 (.mov (.t 13)), Yi 119 (.mov (.t 15)), Yi 120 (.idxS 1 (.t 118) (.t 119)), Yi 121 (.load false 1 (.t 120)), Yi 122 (.call (.t 116) [(.c (.fn 54 [] [])), (.t 117), (.t 121)]), Yi 123 (.call (.t 114) [(.c (.fn 53 [] [])), (.t 115), (.t 122)]),
 Yi 14 (.mov (.t 123))])))
 (.reg [Yi 124 (.bin .add false (.t 109) (.c (.int .i64 1))), Yi 109 (.mov (.t 124))])))))))
 (.seq (.seq (.reg [Yi 125 (.load false 1 (.t 5)), Yi 126 (.bin .neq false (.t 125) (.c (.int .i64 0)))])
 (.cond (.t 126)
 (.seq (.drw [Yi 127 (.build [(.int .i64 0), (.slice [] .nil), (.slice [] .nil), (.slice [] .nil)] []), Yi 128 (.load false 1 (.t 5)), ⟨none, .store 4 (.t 4) (.t 127), none⟩, ⟨none, .store 1 (.t 5) (.t 128), none⟩] [(1, 2)])
 (.ret))
 (.skip)))
 (.seq (.reg [Yi 129 (.mov (.t 14)), Yi 130 (.bslice 1 [(.t 129)]), Yi 131 (.fldA 3 (.t 4)), ⟨none, .store 1 (.t 131) (.t 130), none⟩])
 (.seq (.drw [Yi 132 (.load true 4 (.t 4)), Yi 133 (.load false 1 (.t 5)), ⟨none, .store 4 (.t 4) (.t 132), none⟩, ⟨none, .store 1 (.t 5) (.t 133), none⟩] [(1, 2)])
 (.ret)))))))))))))))
def r18 : List ARV := [.cell 4 true 4, .cell 5 false 1]
theorem b18 : Try.f18.body.bind (tr Try.prog 134) = some c18.bare := by kernel_rfl
theorem q18 : trRes Try.prog Try.f18.results.toList = some r18 := by kernel_rfl
theorem n18 : (Try.f18.name == "runtime.NumGoroutine") = false := by kernel_rfl

def c19 : ACode :=
 .seq (.reg [Yi 2 (.boxI (.t 0)), Yi 3 (.boxI (.t 1)), Yi 4 (.alloc [(.int .i64 0), (.slice [] .nil), (.slice [] .nil), (.slice [] .nil)]), Yi 5 (.mov (.c (.int .i64 0)))])
 (.seq (.reg [Yi 22 (.load true 4 (.t 2)), Yi 23 (.load true 4 (.t 3)), Yi 24 (.call (.c (.fn 55 [] [])) [(.t 22), (.t 23)]), Yi 6 (.mov (.t 24))])
 (.seq (.seq (.reg [Yi 25 (.mov (.t 6)), Yi 26 (.bin .neq false (.t 25) (.c (.int .i64 0)))])
 (.cond (.t 26)
 (.seq (.reg [Yi 27 (.build [(.int .i64 0), (.slice [] .nil), (.slice [] .nil), (.slice [] .nil)] []), Yi 28 (.mov (.t 6)), ⟨none, .store 4 (.t 4) (.t 27), none⟩, Yi 5 (.mov (.t 28))])
 (.ret))
 (.skip)))
 (.seq (.seq (.reg [Yi 29 (.fldA 0 (.t 2)), Yi 30 (.load false 1 (.t 29)), Yi 31 (.fldA 0 (.t 3)), Yi 32 (.load false 1 (.t 31)), Yi 33 (.bin .neq false (.t 30) (.t 32)), Yi 34 (.mov (.t 33)), Yj 35 34 false (.fldA 1 (.t 2)), Yj 36 34 false (.load false 1 (.t 35)), Yj 37 34 false (.len (.t 36)), Yj 38 34 false (.fldA 1 (.t 3)),
 Yj 39 34 false (.load false 1 (.t 38)), Yj 40 34 false (.len (.t 39)), Yj 41 34 false (.bin .neq false (.t 37) (.t 40)), Yi 42 (.pick (.t 34) (.c (.bool true)) (.t 41)), Yi 43 (.mov (.t 42)), Yj 44 43 false (.fldA 3 (.t 2)), Yj 45 43 false (.load false 1 (.t 44)), Yj 46 43 false (.len (.t 45)), Yj 47 43 false (.fldA 3 (.t 3)),
 Yj 48 43 false (.load false 1 (.t 47)), Yj 49 43 false (.len (.t 48)), Yj 50 43 false (.bin .neq false (.t 46) (.t 49)), Yi 51 (.pick (.t 43) (.c (.bool true)) (.t 50))])
 (.cond (.t 51)
 (.seq (.reg [Yi 52 (.build [(.int .i64 0), (.slice [] .nil), (.slice [] .nil), (.slice [] .nil)] []), ⟨none, .store 4 (.t 4) (.t 52), none⟩, Yi 5 (.mov (.c (.int .i64 1)))])
 (.ret))
 (.skip)))
 (.seq (.drw [Yi 53 (.fldA 0 (.t 2)), Yi 54 (.load false 1 (.t 53)), Yi 55 (.fldA 1 (.t 2)), Yi 56 (.load false 1 (.t 55)), Yi 57 (.len (.t 56)), Yi 58 (.mkslice 2 16 [(.int .i64 0), (.bool false)] true (.t 57) (.t 57)), Yi 59 (.bslice 2 []), Yi 60 (.fldA 2 (.t 2)), Yi 61 (.load false 1 (.t 60)), Yi 62 (.append 2 16 (.t 59) (.t 61)),
 Yi 63 (.build [(.int .i64 0), (.slice [] .nil), (.slice [] .nil), (.slice [] .nil)] [(0, 1, (.t 54)), (1, 1, (.t 58)), (2, 1, (.t 62))]), Yi 7 (.alloc [(.int .i64 0), (.slice [] .nil), (.slice [] .nil), (.slice [] .nil)]), ⟨none, .store 4 (.t 7) (.t 63), none⟩] [(1, 5), (1, 9), (1, 11), (3, 9), (3, 11), (5, 8), (5, 9), (5, 11), (8, 11), (9, 11)])
 (.seq (.reg [Yi 64 (.ext (.bsliceG 1 [])), Yi 8 (.mov (.t 64))])
 (.seq (.seq (.reg [Yi 9 (.mov (.c (.int .i64 0)))])
 (.block 0 (.loop (.seq (.seq (.reg [Yi 65 (.mov (.t 9)), Yi 66 (.fldA 0 (.t 2)), Yi 67 (.load false 1 (.t 66)), Yi 68 (.fldA 1 (.t 2)), Yi 69 (.load false 1 (.t 68)), Yi 70 (.len (.t 69)), Yi 71 (.bin .add false (.t 67) (.t 70)), Yi 72 (.bin .leq false (.t 65) (.t 71))])
 (.cond (.t 72)
 (.skip)
 (.exit 0)))
 (.seq (.block 1 (.reg [Yi 75 (.mov (.t 8)), Yi 76 (.mov (.t 9)), Yi 77 (.bin .mul false (.c (.int .i64 2)) (.t 76)), Yi 78 (.bslice 1 [(.t 77)]), Yi 79 (.append 1 8 (.t 75) (.t 78)), Yi 8 (.mov (.t 79))]))
 (.reg [Yi 73 (.mov (.t 9)), Yi 74 (.bin .add false (.t 73) (.c (.int .i64 1))), Yi 9 (.mov (.t 74))]))))))
 (.seq (.seq (.reg [Yi 10 (.mov (.c (.int .i64 0)))])
 (.block 2 (.loop (.seq (.seq (.reg [Yi 80 (.mov (.t 10)), Yi 81 (.fldA 2 (.t 3)), Yi 82 (.load false 1 (.t 81)), Yi 83 (.len (.t 82)), Yi 84 (.bin .lss false (.t 80) (.t 83))])
 (.cond (.t 84)
 (.skip)
 (.exit 2)))
 (.seq (.block 3 (.seq (.drw [Yi 88 (.load true 4 (.t 7)), Yi 89 (.mov (.t 8)), Yi 90 (.fldA 2 (.t 3)), Yi 91 (.load false 1 (.t 90)), Yi 92 (.mov (.t 10)), Yi 93 (.idxS 2 (.t 91) (.t 92)), Yi 94 (.idxR 1 2 (.t 93) (.c (.int .i64 0))), Yi 95 (.load false 1 (.t 94)), Yi 96 (.call (.c (.fn 57 [] [])) [(.t 89), (.t 95)]),
 Yi 97 (.mov (.t 8)), Yi 98 (.fldA 2 (.t 3)), Yi 99 (.load false 1 (.t 98)), Yi 100 (.mov (.t 10)), Yi 101 (.idxS 2 (.t 99) (.t 100)), Yi 102 (.idxR 1 2 (.t 101) (.c (.int .i64 1))), Yi 103 (.load false 1 (.t 102)), Yi 104 (.call (.c (.fn 57 [] [])) [(.t 97), (.t 103)]), Yi 105 (.call (.c (.fn 56 [] [])) [(.t 88), (.t 96), (.t 104)]),
 Yi 87 (.mov (.t 105)), Yi 106 (.extract (.t 87) 0), Yi 107 (.extract (.t 87) 1), Yi 108 (.extract (.t 87) 2), Yi 11 (.alloc [(.int .i64 0), (.slice [] .nil), (.slice [] .nil), (.slice [] .nil)]), ⟨none, .store 4 (.t 11) (.t 106), none⟩, Yi 12 (.mov (.t 107)), Yi 13 (.mov (.t 108))] [(0, 8), (0, 16), (0, 22), (3, 22), (7, 22), (8, 11), (8, 15), (11, 22), (15, 22)])
 (.seq (.seq (.reg [Yi 109 (.mov (.t 13)), Yi 110 (.bin .neq false (.t 109) (.c (.int .i64 0)))])
 (.cond (.t 110)
 (.seq (.reg [Yi 111 (.build [(.int .i64 0), (.slice [] .nil), (.slice [] .nil), (.slice [] .nil)] []), Yi 112 (.mov (.t 13)), ⟨none, .store 4 (.t 4) (.t 111), none⟩, Yi 5 (.mov (.t 112))])
 (.ret))
 (.skip)))
 (.seq (.reg [Yi 113 (.load true 4 (.t 11)), ⟨none, .store 4 (.t 7) (.t 113), none⟩])
 (.reg [Yi 114 (.mov (.t 8)), Yi 115 (.mov (.t 12)), Yi 116 (.bslice 1 [(.t 115)]), Yi 117 (.append 1 8 (.t 114) (.t 116)), Yi 8 (.mov (.t 117))])))))
 (.reg [Yi 85 (.mov (.t 10)), Yi 86 (.bin .add false (.t 85) (.c (.int .i64 1))), Yi 10 (.mov (.t 86))]))))))
 (.seq (.reg [Yi 118 (.ext (.bsliceG 1 [])), Yi 119 (.fldA 3 (.t 2)), Yi 120 (.load false 1 (.t 119)), Yi 121 (.append 1 8 (.t 118) (.t 120)), Yi 14 (.mov (.t 121))])
 (.seq (.reg [Yi 122 (.ext (.bsliceG 1 [])), Yi 123 (.fldA 3 (.t 3)), Yi 124 (.load false 1 (.t 123)), Yi 125 (.append 1 8 (.t 122) (.t 124)), Yi 15 (.mov (.t 125))])
 (.seq (.seq (.reg [Yi 16 (.mov (.c (.int .i64 0)))])
 (.block 4 (.loop (.seq (.seq (.reg [Yi 126 (.mov (.t 16)), Yi 127 (.fldA 1 (.t 2)), Yi 128 (.load false 1 (.t 127)), Yi 129 (.len (.t 128)), Yi 130 (.bin .lss false (.t 126) (.t 129))])
 (.cond (.t 130)
 (.skip)
 (.exit 4)))
 (.seq (.block 5 (.seq (.reg [Yi 133 (.mov (.t 14)), Yi 134 (.fldA 1 (.t 2)), Yi 135 (.load false 1 (.t 134)), Yi 136 (.mov (.t 16)), Yi 137 (.idxS 2 (.t 135) (.t 136)), Yi 138 (.fldA 0 (.t 137)), Yi 139 (.load false 1 (.t 138)), Yi 140 (.bslice 1 [(.t 139)]), Yi 141 (.append 1 8 (.t 133) (.t 140)),
 Yi 14 (.mov (.t 141))])
 (.reg [Yi 142 (.mov (.t 15)), Yi 143 (.fldA 1 (.t 3)), Yi 144 (.load false 1 (.t 143)), Yi 145 (.mov (.t 16)), Yi 146 (.idxS 2 (.t 144) (.t 145)), Yi 147 (.fldA 0 (.t 146)), Yi 148 (.load false 1 (.t 147)), Yi 149 (.bslice 1 [(.t 148)]), Yi 150 (.append 1 8 (.t 142) (.t 149)), Yi 15 (.mov (.t 150))])))
 (.reg [Yi 131 (.mov (.t 16)), Yi 132 (.bin .add false (.t 131) (.c (.int .i64 1))), Yi 16 (.mov (.t 132))]))))))
 (.seq (.reg [Yi 17 (.mov (.c (.int .i64 0)))])
 (.seq (.seq (.reg [Yi 18 (.mov (.c (.int .i64 0)))])
 (.block 6 (.loop (.seq (.seq (.reg [Yi 151 (.mov (.t 18)), Yi 152 (.mov (.t 14)), Yi 153 (.len (.t 152)), Yi 154 (.bin .lss false (.t 151) (.t 153))])
 (.cond (.t 154)
 (.skip)
 (.exit 6)))
 (.seq (.block 7 (.seq (.drw [Yi 158 (.load true 4 (.t 7)), Yi 159 (.mov (.t 17)), Yi 160 (.mov (.t 14)), Yi 161 (.mov (.t 18)), Yi 162 (.idxS 1 (.t 160) (.t 161)), Yi 163 (.load false 1 (.t 162)), Yi 164 (.mov (.t 8)), Yi 165 (.mov (.t 15)), Yi 166 (.mov (.t 18)), Yi 167 (.idxS 1 (.t 165) (.t 166)),
 Yi 168 (.load false 1 (.t 167)), Yi 169 (.call (.c (.fn 57 [] [])) [(.t 164), (.t 168)]), Yi 170 (.call (.c (.fn 58 [] [])) [(.t 158), (.t 159), (.t 163), (.t 169)]), Yi 157 (.mov (.t 170)), Yi 171 (.extract (.t 157) 0), Yi 172 (.extract (.t 157) 1), Yi 173 (.extract (.t 157) 2), Yi 19 (.alloc [(.int .i64 0), (.slice [] .nil), (.slice [] .nil), (.slice [] .nil)]),
 ⟨none, .store 4 (.t 19) (.t 171), none⟩, Yi 20 (.mov (.t 172)), Yi 21 (.mov (.t 173))] [(0, 11), (0, 17), (5, 11), (5, 17), (10, 17)])
 (.seq (.seq (.reg [Yi 174 (.mov (.t 21)), Yi 175 (.bin .neq false (.t 174) (.c (.int .i64 0)))])
 (.cond (.t 175)
 (.seq (.reg [Yi 176 (.build [(.int .i64 0), (.slice [] .nil), (.slice [] .nil), (.slice [] .nil)] []), Yi 177 (.mov (.t 21)), ⟨none, .store 4 (.t 4) (.t 176), none⟩, Yi 5 (.mov (.t 177))])
 (.ret))
 (.skip)))
 (.seq (.reg [Yi 178 (.load true 4 (.t 19)), ⟨none, .store 4 (.t 7) (.t 178), none⟩])
 (.reg [Yi 179 (.mov (.t 20)), Yi 17 (.mov (.t 179))])))))
 (.reg [Yi 155 (.mov (.t 18)), Yi 156 (.bin .add false (.t 155) (.c (.int .i64 1))), Yi 18 (.mov (.t 156))]))))))
 (.seq (.reg [Yi 180 (.mov (.t 17)), Yi 181 (.bslice 1 [(.t 180)]), Yi 182 (.fldA 3 (.t 7)), ⟨none, .store 1 (.t 182) (.t 181), none⟩])
 (.seq (.reg [Yi 183 (.load true 4 (.t 7)), ⟨none, .store 4 (.t 4) (.t 183), none⟩, Yi 5 (.mov (.c (.int .i64 0)))])
 (.ret)))))))))))))))
def r19 : List ARV := [.cell 4 true 4, .tmp 5]
theorem b19 : Try.f19.body.bind (tr Try.prog 184) = some c19.bare := by kernel_rfl
theorem q19 : trRes Try.prog Try.f19.results.toList = some r19 := by kernel_rfl
theorem n19 : (Try.f19.name == "runtime.NumGoroutine") = false := by kernel_rfl

def c20 : ACode :=
 .seq (.reg [Yi 3 (.boxI (.t 0)), Yi 4 (.boxI (.t 1)), Yi 6 (.mov (.c (.int .i64 0))), Yi 7 (.mov (.c (.int .i64 0)))])
 (.seq (.seq (.reg [Yi 15 (.load true 4 (.t 3)), Yi 16 (.load true 4 (.t 4)), Yi 17 (.bslice 4 [(.t 15), (.t 16)]), Yi 18 (.call (.c (.fn 47 [] [])) [(.t 17)]), Yi 8 (.mov (.t 18))])
 (.seq (.reg [Yi 19 (.mov (.t 8)), Yi 20 (.bin .neq false (.t 19) (.c (.int .i64 0)))])
 (.cond (.t 20)
 (.seq (.reg [Yi 21 (.mov (.t 8)), Yi 6 (.mov (.c (.int .i64 0))), Yi 7 (.mov (.t 21))])
 (.ret))
 (.skip))))
 (.seq (.seq (.reg [Yi 22 (.fldA 0 (.t 3)), Yi 23 (.load false 1 (.t 22)), Yi 24 (.fldA 0 (.t 4)), Yi 25 (.load false 1 (.t 24)), Yi 26 (.bin .neq false (.t 23) (.t 25)), Yi 27 (.mov (.t 26)), Yj 28 27 false (.fldA 3 (.t 3)), Yj 29 27 false (.load false 1 (.t 28)), Yj 30 27 false (.len (.t 29)), Yj 31 27 false (.fldA 3 (.t 4)),
 Yj 32 27 false (.load false 1 (.t 31)), Yj 33 27 false (.len (.t 32)), Yj 34 27 false (.bin .neq false (.t 30) (.t 33)), Yi 35 (.pick (.t 27) (.c (.bool true)) (.t 34))])
 (.cond (.t 35)
 (.seq (.reg [Yi 6 (.mov (.c (.int .i64 0))), Yi 7 (.mov (.c (.int .i64 1)))])
 (.ret))
 (.skip)))
 (.seq (.reg [Yi 37 (.load true 4 (.t 3)), Yi 38 (.mov (.t 2)), Yi 39 (.call (.c (.fn 59 [] [])) [(.t 37), (.t 38)]), Yi 36 (.mov (.t 39)), Yi 40 (.extract (.t 36) 0), Yi 41 (.extract (.t 36) 1), Yi 9 (.mov (.t 40)), Yi 10 (.mov (.t 41))])
 (.seq (.seq (.reg [Yi 42 (.mov (.t 10)), Yi 43 (.bin .neq false (.t 42) (.c (.int .i64 0)))])
 (.cond (.t 43)
 (.seq (.reg [Yi 44 (.mov (.t 10)), Yi 6 (.mov (.c (.int .i64 0))), Yi 7 (.mov (.t 44))])
 (.ret))
 (.skip)))
 (.seq (.reg [Yi 46 (.load true 4 (.t 4)), Yi 47 (.mov (.t 2)), Yi 48 (.call (.c (.fn 59 [] [])) [(.t 46), (.t 47)]), Yi 45 (.mov (.t 48)), Yi 49 (.extract (.t 45) 0), Yi 50 (.extract (.t 45) 1), Yi 11 (.mov (.t 49)), Yi 12 (.mov (.t 50))])
 (.seq (.seq (.reg [Yi 51 (.mov (.t 9)), Yi 52 (.len (.t 51)), Yi 53 (.mov (.c (.int .i64 0)))])
 (.block 0 (.loop (.seq (.reg [Yi 54 (.bin .lss false (.t 53) (.t 52))])
 (.seq (.cond (.t 54)
 (.skip)
 (.exit 0))
 (.seq (.block 1 (.seq (.reg [Yi 55 (.mov (.t 53)), Yi 56 (.idxS 1 (.t 51) (.t 53)), Yi 57 (.load false 1 (.t 56)), Yi 13 (.mov (.t 55)), Yi 14 (.mov (.t 57))])
 (.seq (.reg [Yi 58 (.mov (.t 14)), Yi 59 (.mov (.t 11)), Yi 60 (.mov (.t 13)), Yi 61 (.idxS 1 (.t 59) (.t 60)), Yi 62 (.load false 1 (.t 61)), Yi 63 (.call (.c (.fn 60 [] [])) [(.t 58), (.t 62)]), Yi 64 (.un .not (.t 63))])
 (.cond (.t 64)
 (.seq (.reg [Yi 65 (.mov (.t 13)), Yi 66 (.mov (.t 10)), Yi 6 (.mov (.t 65)), Yi 7 (.mov (.t 66))])
 (.ret))
 (.skip)))))
 (.reg [Yi 67 (.bin .add false (.t 53) (.c (.int .i64 1))), Yi 53 (.mov (.t 67))])))))))
 (.seq (.reg [Yi 68 (.mov (.t 10)), Yi 6 (.mov (.c (.int .i64 (-1)))), Yi 7 (.mov (.t 68))])
 (.ret))))))))
def r20 : List ARV := [.tmp 6, .tmp 7]
theorem b20 : Try.f20.body.bind (tr Try.prog 69) = some c20.bare := by kernel_rfl
theorem q20 : trRes Try.prog Try.f20.results.toList = some r20 := by kernel_rfl
theorem n20 : (Try.f20.name == "runtime.NumGoroutine") = false := by kernel_rfl

def c21 : ACode :=
 .seq (.reg [Yi 3 (.boxI (.t 0)), Yi 4 (.boxI (.t 1)), Yi 6 (.mov (.c (.int .i64 0))), Yi 7 (.mov (.c (.int .i64 0)))])
 (.seq (.reg [Yi 14 (.load true 4 (.t 3)), Yi 15 (.load true 4 (.t 4)), Yi 16 (.call (.c (.fn 55 [] [])) [(.t 14), (.t 15)]), Yi 8 (.mov (.t 16))])
 (.seq (.seq (.reg [Yi 17 (.mov (.t 8)), Yi 18 (.bin .neq false (.t 17) (.c (.int .i64 0)))])
 (.cond (.t 18)
 (.seq (.reg [Yi 19 (.mov (.t 8)), Yi 6 (.mov (.c (.int .i64 0))), Yi 7 (.mov (.t 19))])
 (.ret))
 (.skip)))
 (.seq (.seq (.reg [Yi 20 (.fldA 0 (.t 3)), Yi 21 (.load false 1 (.t 20)), Yi 22 (.fldA 0 (.t 4)), Yi 23 (.load false 1 (.t 22)), Yi 24 (.bin .neq false (.t 21) (.t 23)), Yi 25 (.mov (.t 24)), Yj 26 25 false (.fldA 3 (.t 3)), Yj 27 25 false (.load false 1 (.t 26)), Yj 28 25 false (.len (.t 27)), Yj 29 25 false (.fldA 3 (.t 4)),
 Yj 30 25 false (.load false 1 (.t 29)), Yj 31 25 false (.len (.t 30)), Yj 32 25 false (.bin .neq false (.t 28) (.t 31)), Yi 33 (.pick (.t 25) (.c (.bool true)) (.t 32))])
 (.cond (.t 33)
 (.seq (.reg [Yi 6 (.mov (.c (.int .i64 0))), Yi 7 (.mov (.c (.int .i64 1)))])
 (.ret))
 (.skip)))
 (.seq (.reg [Yi 35 (.load true 4 (.t 3)), Yi 36 (.mov (.t 2)), Yi 37 (.call (.c (.fn 27 [] [])) [(.t 35), (.t 36)]), Yi 34 (.mov (.t 37)), Yi 38 (.extract (.t 34) 0), Yi 39 (.extract (.t 34) 1), Yi 9 (.mov (.t 38)), Yi 10 (.mov (.t 39))])
 (.seq (.seq (.reg [Yi 40 (.mov (.t 10)), Yi 41 (.bin .neq false (.t 40) (.c (.int .i64 0)))])
 (.cond (.t 41)
 (.seq (.reg [Yi 42 (.mov (.t 10)), Yi 6 (.mov (.c (.int .i64 0))), Yi 7 (.mov (.t 42))])
 (.ret))
 (.skip)))
 (.seq (.reg [Yi 44 (.load true 4 (.t 4)), Yi 45 (.mov (.t 2)), Yi 46 (.call (.c (.fn 27 [] [])) [(.t 44), (.t 45)]), Yi 43 (.mov (.t 46)), Yi 47 (.extract (.t 43) 0), Yi 48 (.extract (.t 43) 1), Yi 11 (.mov (.t 47)), Yi 12 (.mov (.t 48))])
 (.seq (.seq (.reg [Yi 13 (.mov (.c (.int .i64 0)))])
 (.block 0 (.loop (.seq (.seq (.reg [Yi 49 (.mov (.t 13)), Yi 50 (.mov (.t 9)), Yi 51 (.len (.t 50)), Yi 52 (.bin .lss false (.t 49) (.t 51))])
 (.cond (.t 52)
 (.skip)
 (.exit 0)))
 (.seq (.block 1 (.seq (.drw [Yi 55 (.mov (.t 9)), Yi 56 (.mov (.t 13)), Yi 57 (.idxS 1 (.t 55) (.t 56)), Yi 58 (.load false 1 (.t 57)), Yi 59 (.mov (.t 11)), Yi 60 (.mov (.t 13)), Yi 61 (.idxS 1 (.t 59) (.t 60)), Yi 62 (.load false 1 (.t 61)), Yi 63 (.call (.c (.fn 25 [] [])) [(.t 58), (.t 62)]), Yi 64 (.un .not (.t 63))] [])
 (.cond (.t 64)
 (.seq (.reg [Yi 65 (.mov (.t 13)), Yi 6 (.mov (.t 65)), Yi 7 (.mov (.c (.int .i64 0)))])
 (.ret))
 (.skip))))
 (.reg [Yi 53 (.mov (.t 13)), Yi 54 (.bin .add false (.t 53) (.c (.int .i64 1))), Yi 13 (.mov (.t 54))]))))))
 (.seq (.reg [Yi 6 (.mov (.c (.int .i64 (-1)))), Yi 7 (.mov (.c (.int .i64 0)))])
 (.ret)))))))))
def r21 : List ARV := [.tmp 6, .tmp 7]
theorem b21 : Try.f21.body.bind (tr Try.prog 66) = some c21.bare := by kernel_rfl
theorem q21 : trRes Try.prog Try.f21.results.toList = some r21 := by kernel_rfl
theorem n21 : (Try.f21.name == "runtime.NumGoroutine") = false := by kernel_rfl

def c22 : ACode :=
 .seq (.reg [Yi 2 (.boxI (.t 0)), Yi 3 (.boxI (.t 1)), Yi 4 (.mov (.c (.bool false)))])
 (.seq (.seq (.reg [Yi 8 (.fldA 0 (.t 2)), Yi 9 (.load false 1 (.t 8)), Yi 10 (.fldA 0 (.t 3)), Yi 11 (.load false 1 (.t 10)), Yi 12 (.bin .neq false (.t 9) (.t 11)), Yi 13 (.mov (.t 12)), Yj 14 13 false (.fldA 1 (.t 2)), Yj 15 13 false (.load false 1 (.t 14)), Yj 16 13 false (.len (.t 15)), Yj 17 13 false (.fldA 1 (.t 3)),
 Yj 18 13 false (.load false 1 (.t 17)), Yj 19 13 false (.len (.t 18)), Yj 20 13 false (.bin .neq false (.t 16) (.t 19)), Yi 21 (.pick (.t 13) (.c (.bool true)) (.t 20)), Yi 22 (.mov (.t 21)), Yj 23 22 false (.fldA 2 (.t 2)), Yj 24 22 false (.load false 1 (.t 23)), Yj 25 22 false (.len (.t 24)), Yj 26 22 false (.fldA 2 (.t 3)),
 Yj 27 22 false (.load false 1 (.t 26)), Yj 28 22 false (.len (.t 27)), Yj 29 22 false (.bin .neq false (.t 25) (.t 28)), Yi 30 (.pick (.t 22) (.c (.bool true)) (.t 29)), Yi 31 (.mov (.t 30)), Yj 32 31 false (.fldA 3 (.t 2)), Yj 33 31 false (.load false 1 (.t 32)), Yj 34 31 false (.len (.t 33)), Yj 35 31 false (.fldA 3 (.t 3)),
 Yj 36 31 false (.load false 1 (.t 35)), Yj 37 31 false (.len (.t 36)), Yj 38 31 false (.bin .neq false (.t 34) (.t 37)), Yi 39 (.pick (.t 31) (.c (.bool true)) (.t 38))])
 (.cond (.t 39)
 (.seq (.reg [Yi 4 (.mov (.c (.bool false)))])
 (.ret))
 (.skip)))
 (.seq (.seq (.reg [Yi 5 (.mov (.c (.int .i64 0)))])
 (.block 0 (.loop (.seq (.seq (.reg [Yi 40 (.mov (.t 5)), Yi 41 (.fldA 1 (.t 2)), Yi 42 (.load false 1 (.t 41)), Yi 43 (.len (.t 42)), Yi 44 (.bin .lss false (.t 40) (.t 43))])
 (.cond (.t 44)
 (.skip)
 (.exit 0)))
 (.seq (.block 1 (.seq (.drw [Yi 47 (.fldA 1 (.t 2)), Yi 48 (.load false 1 (.t 47)), Yi 49 (.mov (.t 5)), Yi 50 (.idxS 2 (.t 48) (.t 49)), Yi 51 (.load true 2 (.t 50)), Yi 52 (.fldA 1 (.t 3)), Yi 53 (.load false 1 (.t 52)), Yi 54 (.mov (.t 5)), Yi 55 (.idxS 2 (.t 53) (.t 54)), Yi 56 (.load true 2 (.t 55)),
 Yi 57 (.eqs true [0, 1] (.t 51) (.t 56))] [])
 (.cond (.t 57)
 (.seq (.reg [Yi 4 (.mov (.c (.bool false)))])
 (.ret))
 (.skip))))
 (.reg [Yi 45 (.mov (.t 5)), Yi 46 (.bin .add false (.t 45) (.c (.int .i64 1))), Yi 5 (.mov (.t 46))]))))))
 (.seq (.seq (.reg [Yi 6 (.mov (.c (.int .i64 0)))])
 (.block 2 (.loop (.seq (.seq (.reg [Yi 58 (.mov (.t 6)), Yi 59 (.fldA 2 (.t 2)), Yi 60 (.load false 1 (.t 59)), Yi 61 (.len (.t 60)), Yi 62 (.bin .lss false (.t 58) (.t 61))])
 (.cond (.t 62)
 (.skip)
 (.exit 2)))
 (.seq (.block 3 (.seq (.drw [Yi 65 (.fldA 2 (.t 2)), Yi 66 (.load false 1 (.t 65)), Yi 67 (.mov (.t 6)), Yi 68 (.idxS 2 (.t 66) (.t 67)), Yi 69 (.load true 2 (.t 68)), Yi 70 (.fldA 2 (.t 3)), Yi 71 (.load false 1 (.t 70)), Yi 72 (.mov (.t 6)), Yi 73 (.idxS 2 (.t 71) (.t 72)), Yi 74 (.load true 2 (.t 73)),
 Yi 75 (.eqs true [0, 0] (.t 69) (.t 74))] [])
 (.cond (.t 75)
 (.seq (.reg [Yi 4 (.mov (.c (.bool false)))])
 (.ret))
 (.skip))))
 (.reg [Yi 63 (.mov (.t 6)), Yi 64 (.bin .add false (.t 63) (.c (.int .i64 1))), Yi 6 (.mov (.t 64))]))))))
 (.seq (.seq (.reg [Yi 7 (.mov (.c (.int .i64 0)))])
 (.block 4 (.loop (.seq (.seq (.reg [Yi 76 (.mov (.t 7)), Yi 77 (.fldA 3 (.t 2)), Yi 78 (.load false 1 (.t 77)), Yi 79 (.len (.t 78)), Yi 80 (.bin .lss false (.t 76) (.t 79))])
 (.cond (.t 80)
 (.skip)
 (.exit 4)))
 (.seq (.block 5 (.seq (.drw [Yi 83 (.fldA 3 (.t 2)), Yi 84 (.load false 1 (.t 83)), Yi 85 (.mov (.t 7)), Yi 86 (.idxS 1 (.t 84) (.t 85)), Yi 87 (.load false 1 (.t 86)), Yi 88 (.fldA 3 (.t 3)), Yi 89 (.load false 1 (.t 88)), Yi 90 (.mov (.t 7)), Yi 91 (.idxS 1 (.t 89) (.t 90)), Yi 92 (.load false 1 (.t 91)),
 Yi 93 (.bin .neq false (.t 87) (.t 92))] [])
 (.cond (.t 93)
 (.seq (.reg [Yi 4 (.mov (.c (.bool false)))])
 (.ret))
 (.skip))))
 (.reg [Yi 81 (.mov (.t 7)), Yi 82 (.bin .add false (.t 81) (.c (.int .i64 1))), Yi 7 (.mov (.t 82))]))))))
 (.seq (.reg [Yi 4 (.mov (.c (.bool true)))])
 (.ret))))))
def r22 : List ARV := [.tmp 4]
theorem b22 : Try.f22.body.bind (tr Try.prog 94) = some c22.bare := by kernel_rfl
theorem q22 : trRes Try.prog Try.f22.results.toList = some r22 := by kernel_rfl
theorem n22 : (Try.f22.name == "runtime.NumGoroutine") = false := by kernel_rfl

def c23 : ACode :=
 .seq (.reg [Yi 2 (.boxI (.t 0)), Yi 3 (.boxI (.t 1)), Yi 4 (.mov (.c (.bool false))), Yi 5 (.mov (.c (.slice [] .nil))), Yi 6 (.mov (.c (.slice [] .nil))), Yi 7 (.mov (.c (.int .i64 0)))])
 (.seq (.reg [Yi 15 (.load true 4 (.t 2)), Yi 16 (.load true 4 (.t 3)), Yi 17 (.call (.c (.fn 18 [] [])) [(.t 15), (.t 16)]), Yi 14 (.mov (.t 17)), Yi 18 (.extract (.t 14) 0), Yi 19 (.extract (.t 14) 1), Yi 8 (.alloc [(.int .i64 0), (.slice [] .nil), (.slice [] .nil), (.slice [] .nil)]), ⟨none, .store 4 (.t 8) (.t 18), none⟩,
 Yi 7 (.mov (.t 19))])
 (.seq (.seq (.reg [Yi 20 (.mov (.t 7)), Yi 21 (.bin .neq false (.t 20) (.c (.int .i64 0)))])
 (.cond (.t 21)
 (.seq (.reg [Yi 22 (.mov (.t 4)), Yi 23 (.mov (.t 5)), Yi 24 (.mov (.t 6)), Yi 25 (.mov (.t 7)), Yi 4 (.mov (.t 22)), Yi 5 (.mov (.t 23)), Yi 6 (.mov (.t 24)), Yi 7 (.mov (.t 25))])
 (.ret))
 (.skip)))
 (.seq (.reg [Yi 27 (.load true 4 (.t 8)), Yi 28 (.call (.c (.fn 13 [] [])) [(.t 27)]), Yi 26 (.mov (.t 28)), Yi 29 (.extract (.t 26) 0), Yi 30 (.extract (.t 26) 1), Yi 31 (.extract (.t 26) 2), Yi 9 (.alloc [(.int .i64 0), (.slice [] .nil)]), ⟨none, .store 2 (.t 9) (.t 29), none⟩, Yi 10 (.mov (.t 30)),
 Yi 7 (.mov (.t 31))])
 (.seq (.seq (.reg [Yi 32 (.mov (.t 7)), Yi 33 (.bin .neq false (.t 32) (.c (.int .i64 0)))])
 (.cond (.t 33)
 (.seq (.reg [Yi 34 (.mov (.t 4)), Yi 35 (.mov (.t 5)), Yi 36 (.mov (.t 6)), Yi 37 (.mov (.t 7)), Yi 4 (.mov (.t 34)), Yi 5 (.mov (.t 35)), Yi 6 (.mov (.t 36)), Yi 7 (.mov (.t 37))])
 (.ret))
 (.skip)))
 (.seq (.drw [Yi 39 (.load true 2 (.t 9)), Yi 40 (.mov (.t 10)), Yi 41 (.idxS 1 (.t 40) (.c (.int .i64 0))), Yi 42 (.load false 1 (.t 41)), Yi 43 (.call (.c (.fn 61 [] [])) [(.t 39), (.t 42)]), Yi 38 (.mov (.t 43)), Yi 44 (.extract (.t 38) 0), Yi 45 (.extract (.t 38) 1), Yi 46 (.extract (.t 38) 2), Yi 11 (.mov (.t 44)),
 Yi 12 (.mov (.t 45)), Yi 13 (.mov (.t 46))] [])
 (.seq (.seq (.reg [Yi 47 (.mov (.t 12))])
 (.cond (.t 47)
 (.seq (.drw [Yi 48 (.mov (.t 11)), Yi 49 (.fldA 0 (.t 2)), Yi 50 (.load false 1 (.t 49)), Yi 51 (.slc 1 (.t 48) none (some (.t 50)) none), Yi 52 (.mov (.t 11)), Yi 53 (.fldA 0 (.t 2)), Yi 54 (.load false 1 (.t 53)), Yi 55 (.slc 1 (.t 52) (some (.t 54)) none none), Yi 56 (.mov (.t 7)), Yi 4 (.mov (.c (.bool false))),
 Yi 5 (.mov (.t 51)), Yi 6 (.mov (.t 55)), Yi 7 (.mov (.t 56))] [])
 (.ret))
 (.skip)))
 (.seq (.reg [Yi 57 (.mov (.t 5)), Yi 58 (.mov (.t 6)), Yi 59 (.mov (.t 7)), Yi 4 (.mov (.c (.bool true))), Yi 5 (.mov (.t 57)), Yi 6 (.mov (.t 58)), Yi 7 (.mov (.t 59))])
 (.ret))))))))
def r23 : List ARV := [.tmp 4, .tmp 5, .tmp 6, .tmp 7]
theorem b23 : Try.f23.body.bind (tr Try.prog 60) = some c23.bare := by kernel_rfl
theorem q23 : trRes Try.prog Try.f23.results.toList = some r23 := by kernel_rfl
theorem n23 : (Try.f23.name == "runtime.NumGoroutine") = false := by kernel_rfl

def c25 : ACode :=
 .seq (.reg [Yi 4 (.mov (.c (.bool false)))])
 (.seq (.seq (.reg [Yi 6 (.mov (.t 0)), Yi 7 (.len (.t 6)), Yi 8 (.mov (.t 1)), Yi 9 (.len (.t 8)), Yi 10 (.bin .neq false (.t 7) (.t 9))])
 (.cond (.t 10)
 (.seq (.reg [Yi 4 (.mov (.c (.bool false)))])
 (.ret))
 (.skip)))
 (.seq (.seq (.reg [Yi 5 (.mov (.c (.int .i64 0)))])
 (.block 0 (.loop (.seq (.seq (.reg [Yi 11 (.mov (.t 5)), Yi 12 (.mov (.t 0)), Yi 13 (.len (.t 12)), Yi 14 (.bin .lss false (.t 11) (.t 13))])
 (.cond (.t 14)
 (.skip)
 (.exit 0)))
 (.seq (.block 1 (.seq (.drw [Yi 17 (.mov (.t 0)), Yi 18 (.mov (.t 5)), Yi 19 (.idxS 1 (.t 17) (.t 18)), Yi 20 (.load false 1 (.t 19)), Yi 21 (.mov (.t 1)), Yi 22 (.mov (.t 5)), Yi 23 (.idxS 1 (.t 21) (.t 22)), Yi 24 (.load false 1 (.t 23)), Yi 25 (.bin .neq true (.t 20) (.t 24))] [])
 (.cond (.t 25)
 (.seq (.reg [Yi 4 (.mov (.c (.bool false)))])
 (.ret))
 (.skip))))
 (.reg [Yi 15 (.mov (.t 5)), Yi 16 (.bin .add false (.t 15) (.c (.int .i64 1))), Yi 5 (.mov (.t 16))]))))))
 (.seq (.reg [Yi 4 (.mov (.c (.bool true)))])
 (.ret))))
def r25 : List ARV := [.tmp 4]
theorem b25 : Try.f25.body.bind (tr Try.prog 26) = some c25.bare := by kernel_rfl
theorem q25 : trRes Try.prog Try.f25.results.toList = some r25 := by kernel_rfl
theorem n25 : (Try.f25.name == "runtime.NumGoroutine") = false := by kernel_rfl

def c26 : ACode :=
 .seq (.reg [Yi 3 (.boxI (.t 0)), Yi 6 (.mov (.c (.slice [] .nil))), Yi 7 (.mov (.c (.slice [] .nil))), Yi 8 (.mov (.c (.int .i64 0)))])
 (.seq (.reg [Yi 16 (.load true 4 (.t 3)), Yi 17 (.mov (.t 1)), Yi 18 (.mov (.t 2)), Yi 19 (.call (.c (.fn 62 [] [])) [(.t 16), (.t 17), (.t 18)]), Yi 15 (.mov (.t 19)), Yi 20 (.extract (.t 15) 0), Yi 21 (.extract (.t 15) 1), Yi 9 (.mov (.t 20)), Yi 10 (.mov (.t 21))])
 (.seq (.seq (.reg [Yi 22 (.mov (.t 10)), Yi 23 (.bin .neq false (.t 22) (.c (.int .i64 0)))])
 (.cond (.t 23)
 (.seq (.reg [Yi 24 (.mov (.t 10)), Yi 6 (.mov (.c (.slice [] .nil))), Yi 7 (.mov (.c (.slice [] .nil))), Yi 8 (.mov (.t 24))])
 (.ret))
 (.skip)))
 (.seq (.reg [Yi 11 (.mov (.c (.slice [] .nil)))])
 (.seq (.reg [Yi 12 (.mov (.c (.slice [] .nil)))])
 (.seq (.seq (.reg [Yi 13 (.mov (.c (.int .i64 0)))])
 (.block 0 (.loop (.seq (.seq (.reg [Yi 25 (.mov (.t 13)), Yi 26 (.fldA 3 (.t 3)), Yi 27 (.load false 1 (.t 26)), Yi 28 (.len (.t 27)), Yi 29 (.bin .lss false (.t 25) (.t 28))])
 (.cond (.t 29)
 (.skip)
 (.exit 0)))
 (.seq (.block 1 (.reg [Yi 32 (.mov (.t 11)), Yi 33 (.mov (.t 9)), Yi 34 (.fldA 3 (.t 3)), Yi 35 (.load false 1 (.t 34)), Yi 36 (.mov (.t 13)), Yi 37 (.idxS 1 (.t 35) (.t 36)), Yi 38 (.load false 1 (.t 37)), Yi 39 (.call (.c (.fn 63 [] [])) [(.t 33), (.t 38)]), Yi 40 (.bslice 1 [(.t 39)]), Yi 41 (.append 1 1 (.t 32) (.t 40)),
 Yi 11 (.mov (.t 41))]))
 (.reg [Yi 30 (.mov (.t 13)), Yi 31 (.bin .add false (.t 30) (.c (.int .i64 1))), Yi 13 (.mov (.t 31))]))))))
 (.seq (.seq (.reg [Yi 14 (.mov (.c (.int .i64 0)))])
 (.block 2 (.loop (.seq (.seq (.reg [Yi 42 (.mov (.t 14)), Yi 43 (.fldA 1 (.t 3)), Yi 44 (.load false 1 (.t 43)), Yi 45 (.len (.t 44)), Yi 46 (.bin .lss false (.t 42) (.t 45))])
 (.cond (.t 46)
 (.skip)
 (.exit 2)))
 (.seq (.block 3 (.reg [Yi 49 (.mov (.t 12)), Yi 50 (.mov (.t 9)), Yi 51 (.fldA 1 (.t 3)), Yi 52 (.load false 1 (.t 51)), Yi 53 (.mov (.t 14)), Yi 54 (.idxS 2 (.t 52) (.t 53)), Yi 55 (.fldA 0 (.t 54)), Yi 56 (.load false 1 (.t 55)), Yi 57 (.call (.c (.fn 63 [] [])) [(.t 50), (.t 56)]), Yi 58 (.bslice 1 [(.t 57)]),
 Yi 59 (.append 1 1 (.t 49) (.t 58)), Yi 12 (.mov (.t 59))]))
 (.reg [Yi 47 (.mov (.t 14)), Yi 48 (.bin .add false (.t 47) (.c (.int .i64 1))), Yi 14 (.mov (.t 48))]))))))
 (.seq (.reg [Yi 60 (.mov (.t 11)), Yi 61 (.mov (.t 12)), Yi 6 (.mov (.t 60)), Yi 7 (.mov (.t 61)), Yi 8 (.mov (.c (.int .i64 0)))])
 (.ret))))))))
def r26 : List ARV := [.tmp 6, .tmp 7, .tmp 8]
theorem b26 : Try.f26.body.bind (tr Try.prog 62) = some c26.bare := by kernel_rfl
theorem q26 : trRes Try.prog Try.f26.results.toList = some r26 := by kernel_rfl
theorem n26 : (Try.f26.name == "runtime.NumGoroutine") = false := by kernel_rfl

def c27 : ACode :=
 .seq (.reg [Yi 2 (.boxI (.t 0)), Yi 4 (.mov (.c (.slice [] .nil))), Yi 5 (.mov (.c (.int .i64 0)))])
 (.seq (.reg [Yi 13 (.load true 4 (.t 2)), Yi 14 (.call (.c (.fn 29 [] [])) [(.t 13)]), Yi 6 (.mov (.t 14))])
 (.seq (.seq (.reg [Yi 15 (.mov (.t 6)), Yi 16 (.bin .neq false (.t 15) (.c (.int .i64 0)))])
 (.cond (.t 16)
 (.seq (.reg [Yi 17 (.mov (.t 6)), Yi 4 (.mov (.c (.slice [] .nil))), Yi 5 (.mov (.t 17))])
 (.ret))
 (.skip)))
 (.seq (.reg [Yi 18 (.load true 4 (.t 2)), Yi 19 (.call (.c (.fn 28 [] [])) [(.t 18)]), Yi 7 (.mov (.t 19))])
 (.seq (.reg [Yi 8 (.mov (.c (.slice [] .nil)))])
 (.seq (.seq (.reg [Yi 9 (.mov (.c (.int .i64 0)))])
 (.block 0 (.loop (.seq (.seq (.reg [Yi 20 (.mov (.t 9)), Yi 21 (.mov (.t 1)), Yi 22 (.len (.t 21)), Yi 23 (.bin .lss false (.t 20) (.t 22))])
 (.cond (.t 23)
 (.skip)
 (.exit 0)))
 (.seq (.block 1 (.seq (.drw [Yi 27 (.load true 4 (.t 2)), Yi 28 (.mov (.t 1)), Yi 29 (.mov (.t 9)), Yi 30 (.idxS 1 (.t 28) (.t 29)), Yi 31 (.load false 1 (.t 30)), Yi 32 (.mov (.t 7)), Yi 33 (.call (.c (.fn 26 [] [])) [(.t 27), (.t 31), (.t 32)]), Yi 26 (.mov (.t 33)), Yi 34 (.extract (.t 26) 0), Yi 35 (.extract (.t 26) 1),
 Yi 36 (.extract (.t 26) 2), Yi 10 (.mov (.t 34)), Yi 11 (.mov (.t 35)), Yi 12 (.mov (.t 36))] [])
 (.seq (.seq (.reg [Yi 37 (.mov (.t 12)), Yi 38 (.bin .neq false (.t 37) (.c (.int .i64 0)))])
 (.cond (.t 38)
 (.seq (.reg [Yi 39 (.mov (.t 12)), Yi 4 (.mov (.c (.slice [] .nil))), Yi 5 (.mov (.t 39))])
 (.ret))
 (.skip)))
 (.seq (.reg [Yi 40 (.mov (.t 8)), Yi 41 (.mov (.t 10)), Yi 42 (.bslice 1 [(.t 41)]), Yi 43 (.append 1 24 (.t 40) (.t 42)), Yi 8 (.mov (.t 43))])
 (.reg [Yi 44 (.mov (.t 11)), Yi 7 (.mov (.t 44))])))))
 (.reg [Yi 24 (.mov (.t 9)), Yi 25 (.bin .add false (.t 24) (.c (.int .i64 1))), Yi 9 (.mov (.t 25))]))))))
 (.seq (.reg [Yi 45 (.mov (.t 8)), Yi 4 (.mov (.t 45)), Yi 5 (.mov (.c (.int .i64 0)))])
 (.ret)))))))
def r27 : List ARV := [.tmp 4, .tmp 5]
theorem b27 : Try.f27.body.bind (tr Try.prog 46) = some c27.bare := by kernel_rfl
theorem q27 : trRes Try.prog Try.f27.results.toList = some r27 := by kernel_rfl
theorem n27 : (Try.f27.name == "runtime.NumGoroutine") = false := by kernel_rfl

def c28 : ACode :=
 .seq (.reg [Yi 1 (.boxI (.t 0)), Yi 2 (.mov (.c (.slice [] .nil)))])
 (.seq (.reg [Yi 3 (.mov (.c (.slice [] .nil)))])
 (.seq (.seq (.reg [Yi 4 (.mov (.c (.int .i64 0)))])
 (.block 0 (.loop (.seq (.seq (.reg [Yi 5 (.mov (.t 4)), Yi 6 (.fldA 1 (.t 1)), Yi 7 (.load false 1 (.t 6)), Yi 8 (.len (.t 7)), Yi 9 (.bin .lss false (.t 5) (.t 8))])
 (.cond (.t 9)
 (.skip)
 (.exit 0)))
 (.seq (.block 1 (.reg [Yi 12 (.mov (.t 3)), Yi 13 (.fldA 1 (.t 1)), Yi 14 (.load false 1 (.t 13)), Yi 15 (.mov (.t 4)), Yi 16 (.idxS 2 (.t 14) (.t 15)), Yi 17 (.fldA 1 (.t 16)), Yi 18 (.load false 1 (.t 17)), Yi 19 (.bslice 1 [(.t 18)]), Yi 20 (.append 1 1 (.t 12) (.t 19)), Yi 3 (.mov (.t 20))]))
 (.reg [Yi 10 (.mov (.t 4)), Yi 11 (.bin .add false (.t 10) (.c (.int .i64 1))), Yi 4 (.mov (.t 11))]))))))
 (.seq (.reg [Yi 21 (.mov (.t 3)), Yi 2 (.mov (.t 21))])
 (.ret))))
def r28 : List ARV := [.tmp 2]
theorem b28 : Try.f28.body.bind (tr Try.prog 22) = some c28.bare := by kernel_rfl
theorem q28 : trRes Try.prog Try.f28.results.toList = some r28 := by kernel_rfl
theorem n28 : (Try.f28.name == "runtime.NumGoroutine") = false := by kernel_rfl

def c29 : ACode :=
 .seq (.reg [Yi 1 (.boxI (.t 0)), Yi 2 (.mov (.c (.int .i64 0)))])
 (.seq (.seq (.reg [Yi 7 (.fldA 0 (.t 1)), Yi 8 (.load false 1 (.t 7)), Yi 9 (.bin .lss false (.t 8) (.c (.int .i64 0)))])
 (.cond (.t 9)
 (.seq (.reg [Yi 2 (.mov (.c (.int .i64 1)))])
 (.ret))
 (.skip)))
 (.seq (.seq (.reg [Yi 10 (.fldA 0 (.t 1)), Yi 11 (.load false 1 (.t 10)), Yi 12 (.bin .gtr false (.t 11) (.c (.int .i64 65536))), Yi 13 (.mov (.t 12)), Yj 14 13 false (.fldA 0 (.t 1)), Yj 15 13 false (.load false 1 (.t 14)), Yj 16 13 false (.fldA 1 (.t 1)), Yj 17 13 false (.load false 1 (.t 16)), Yj 18 13 false (.len (.t 17)),
 Yj 19 13 false (.bin .add false (.t 15) (.t 18)), Yj 20 13 false (.fldA 2 (.t 1)), Yj 21 13 false (.load false 1 (.t 20)), Yj 22 13 false (.len (.t 21)), Yj 23 13 false (.bin .add false (.t 19) (.t 22)), Yj 24 13 false (.bin .gtr false (.t 23) (.c (.int .i64 65536))), Yi 25 (.pick (.t 13) (.c (.bool true)) (.t 24)),
 Yi 26 (.mov (.t 25)), Yj 27 26 false (.fldA 3 (.t 1)), Yj 28 26 false (.load false 1 (.t 27)), Yj 29 26 false (.len (.t 28)), Yj 30 26 false (.bin .gtr false (.t 29) (.c (.int .i64 65536))), Yi 31 (.pick (.t 26) (.c (.bool true)) (.t 30))])
 (.cond (.t 31)
 (.seq (.reg [Yi 2 (.mov (.c (.int .i64 2)))])
 (.ret))
 (.skip)))
 (.seq (.reg [Yi 32 (.fldA 0 (.t 1)), Yi 33 (.load false 1 (.t 32)), Yi 34 (.bin .add false (.c (.int .i64 1)) (.t 33)), Yi 35 (.fldA 1 (.t 1)), Yi 36 (.load false 1 (.t 35)), Yi 37 (.len (.t 36)), Yi 38 (.bin .add false (.t 34) (.t 37)), Yi 3 (.mov (.t 38))])
 (.seq (.seq (.reg [Yi 4 (.mov (.c (.int .i64 0)))])
 (.block 0 (.loop (.seq (.seq (.reg [Yi 39 (.mov (.t 4)), Yi 40 (.fldA 2 (.t 1)), Yi 41 (.load false 1 (.t 40)), Yi 42 (.len (.t 41)), Yi 43 (.bin .lss false (.t 39) (.t 42))])
 (.cond (.t 43)
 (.skip)
 (.exit 0)))
 (.seq (.block 1 (.seq (.reg [Yi 46 (.mov (.t 3)), Yi 47 (.mov (.t 4)), Yi 48 (.bin .add false (.t 46) (.t 47)), Yi 49 (.fldA 2 (.t 1)), Yi 50 (.load false 1 (.t 49)), Yi 51 (.mov (.t 4)), Yi 52 (.idxS 2 (.t 50) (.t 51)), Yi 53 (.idxR 1 2 (.t 52) (.c (.int .i64 0))), Yi 54 (.load false 1 (.t 53)), Yi 55 (.call (.c (.fn 64 [] [])) [(.t 48), (.t 54)]),
 Yi 56 (.un .not (.t 55)), Yi 57 (.mov (.t 56)), Yj 58 57 false (.mov (.t 3)), Yj 59 57 false (.mov (.t 4)), Yj 60 57 false (.bin .add false (.t 58) (.t 59)), Yj 61 57 false (.fldA 2 (.t 1)), Yj 62 57 false (.load false 1 (.t 61)), Yj 63 57 false (.mov (.t 4)), Yj 64 57 false (.idxS 2 (.t 62) (.t 63)),
 Yj 65 57 false (.idxR 1 2 (.t 64) (.c (.int .i64 1))), Yj 66 57 false (.load false 1 (.t 65)), Yj 67 57 false (.call (.c (.fn 64 [] [])) [(.t 60), (.t 66)]), Yj 68 57 false (.un .not (.t 67)), Yi 69 (.pick (.t 57) (.c (.bool true)) (.t 68))])
 (.cond (.t 69)
 (.seq (.reg [Yi 2 (.mov (.c (.int .i64 1)))])
 (.ret))
 (.skip))))
 (.reg [Yi 44 (.mov (.t 4)), Yi 45 (.bin .add false (.t 44) (.c (.int .i64 1))), Yi 4 (.mov (.t 45))]))))))
 (.seq (.seq (.reg [Yi 5 (.mov (.c (.int .i64 0)))])
 (.block 2 (.loop (.seq (.seq (.reg [Yi 70 (.mov (.t 5)), Yi 71 (.fldA 1 (.t 1)), Yi 72 (.load false 1 (.t 71)), Yi 73 (.len (.t 72)), Yi 74 (.bin .lss false (.t 70) (.t 73))])
 (.cond (.t 74)
 (.skip)
 (.exit 2)))
 (.seq (.block 3 (.seq (.drw [Yi 77 (.load true 4 (.t 1)), Yi 78 (.call (.c (.fn 30 [] [])) [(.t 77)]), Yi 79 (.fldA 1 (.t 1)), Yi 80 (.load false 1 (.t 79)), Yi 81 (.mov (.t 5)), Yi 82 (.idxS 2 (.t 80) (.t 81)), Yi 83 (.fldA 0 (.t 82)), Yi 84 (.load false 1 (.t 83)), Yi 85 (.call (.c (.fn 64 [] [])) [(.t 78), (.t 84)]),
 Yi 86 (.un .not (.t 85))] [(1, 3), (1, 7)])
 (.cond (.t 86)
 (.seq (.reg [Yi 2 (.mov (.c (.int .i64 1)))])
 (.ret))
 (.skip))))
 (.reg [Yi 75 (.mov (.t 5)), Yi 76 (.bin .add false (.t 75) (.c (.int .i64 1))), Yi 5 (.mov (.t 76))]))))))
 (.seq (.seq (.reg [Yi 6 (.mov (.c (.int .i64 0)))])
 (.block 4 (.loop (.seq (.seq (.reg [Yi 87 (.mov (.t 6)), Yi 88 (.fldA 3 (.t 1)), Yi 89 (.load false 1 (.t 88)), Yi 90 (.len (.t 89)), Yi 91 (.bin .lss false (.t 87) (.t 90))])
 (.cond (.t 91)
 (.skip)
 (.exit 4)))
 (.seq (.block 5 (.seq (.drw [Yi 94 (.load true 4 (.t 1)), Yi 95 (.call (.c (.fn 30 [] [])) [(.t 94)]), Yi 96 (.fldA 3 (.t 1)), Yi 97 (.load false 1 (.t 96)), Yi 98 (.mov (.t 6)), Yi 99 (.idxS 1 (.t 97) (.t 98)), Yi 100 (.load false 1 (.t 99)), Yi 101 (.call (.c (.fn 64 [] [])) [(.t 95), (.t 100)]),
 Yi 102 (.un .not (.t 101))] [(1, 3), (1, 6)])
 (.cond (.t 102)
 (.seq (.reg [Yi 2 (.mov (.c (.int .i64 1)))])
 (.ret))
 (.skip))))
 (.reg [Yi 92 (.mov (.t 6)), Yi 93 (.bin .add false (.t 92) (.c (.int .i64 1))), Yi 6 (.mov (.t 93))]))))))
 (.seq (.reg [Yi 2 (.mov (.c (.int .i64 0)))])
 (.ret))))))))
def r29 : List ARV := [.tmp 2]
theorem b29 : Try.f29.body.bind (tr Try.prog 103) = some c29.bare := by kernel_rfl
theorem q29 : trRes Try.prog Try.f29.results.toList = some r29 := by kernel_rfl
theorem n29 : (Try.f29.name == "runtime.NumGoroutine") = false := by kernel_rfl

def c30 : ACode :=
 .seq (.reg [Yi 1 (.boxI (.t 0)), Yi 2 (.mov (.c (.int .i64 0)))])
 (.seq (.reg [Yi 3 (.fldA 0 (.t 1)), Yi 4 (.load false 1 (.t 3)), Yi 5 (.bin .add false (.c (.int .i64 1)) (.t 4)), Yi 6 (.fldA 1 (.t 1)), Yi 7 (.load false 1 (.t 6)), Yi 8 (.len (.t 7)), Yi 9 (.bin .add false (.t 5) (.t 8)), Yi 10 (.fldA 2 (.t 1)), Yi 11 (.load false 1 (.t 10)), Yi 12 (.len (.t 11)),
 Yi 13 (.bin .add false (.t 9) (.t 12)), Yi 2 (.mov (.t 13))])
 (.ret))
def r30 : List ARV := [.tmp 2]
theorem b30 : Try.f30.body.bind (tr Try.prog 14) = some c30.bare := by kernel_rfl
theorem q30 : trRes Try.prog Try.f30.results.toList = some r30 := by kernel_rfl
theorem n30 : (Try.f30.name == "runtime.NumGoroutine") = false := by kernel_rfl

def c33 : ACode :=
 .seq (.reg [Yi 1 (.boxI (.t 0)), Yi 2 (.mov (.c (.int .i64 0)))])
 (.seq (.reg [Yi 3 (.load true 4 (.t 1)), Yi 4 (.call (.c (.fn 66 [] [])) [(.t 3), (.c (.slice [] .nil))]), Yi 5 (.nilchk (.t 4)), Yi 6 (.fldA 4 (.t 5)), Yi 7 (.load false 1 (.t 6)), Yi 2 (.mov (.t 7))])
 (.ret))
def r33 : List ARV := [.tmp 2]
theorem b33 : Try.f33.body.bind (tr Try.prog 8) = some c33.bare := by kernel_rfl
theorem q33 : trRes Try.prog Try.f33.results.toList = some r33 := by kernel_rfl
theorem n33 : (Try.f33.name == "runtime.NumGoroutine") = false := by kernel_rfl

def c34 : ACode :=
 .seq (.reg [Yi 2 (.alloc [(.int .i64 0), (.slice [] .nil)]), Yi 3 (.mov (.c (.int .i64 0)))])
 (.seq (.block 0 (.seq (.reg [Yi 5 (.mov (.t 0)), Yi 6 (.bin .lss false (.t 5) (.c (.int .i64 0))), Yi 4 (.mov (.t 6))])
 (.cond (.t 4)
 (.seq (.reg [Yi 7 (.build [(.int .i64 0), (.slice [] .nil)] []), ⟨none, .store 2 (.t 2) (.t 7), none⟩, Yi 3 (.mov (.c (.int .i64 1)))])
 (.ret))
 (.seq (.reg [Yi 9 (.mov (.t 0)), Yi 10 (.bin .gtr false (.t 9) (.c (.int .i64 32))), Yi 8 (.mov (.t 10))])
 (.cond (.t 8)
 (.seq (.reg [Yi 11 (.build [(.int .i64 0), (.slice [] .nil)] []), ⟨none, .store 2 (.t 2) (.t 11), none⟩, Yi 3 (.mov (.c (.int .i64 2)))])
 (.ret))
 (.skip))))))
 (.seq (.reg [Yi 12 (.mov (.t 0)), Yi 13 (.build [(.int .i64 0), (.int .i64 0), (.int .i64 0)] [(0, 1, (.c (.int .i64 (-1))))]), Yi 14 (.build [(.int .i64 0), (.int .i64 0), (.int .i64 0)] [(0, 1, (.c (.int .i64 (-1))))]), Yi 15 (.bslice 3 [(.t 13), (.t 14)]), Yi 16 (.build [(.int .i64 0), (.slice [] .nil)] [(0, 1, (.t 12)), (1, 1, (.t 15))]),
 ⟨none, .store 2 (.t 2) (.t 16), none⟩, Yi 3 (.mov (.c (.int .i64 0)))])
 (.ret)))
def r34 : List ARV := [.cell 2 true 2, .tmp 3]
theorem b34 : Try.f34.body.bind (tr Try.prog 17) = some c34.bare := by kernel_rfl
theorem q34 : trRes Try.prog Try.f34.results.toList = some r34 := by kernel_rfl
theorem n34 : (Try.f34.name == "runtime.NumGoroutine") = false := by kernel_rfl

def c35 : ACode :=
 .seq (.reg [Yi 4 (.mov (.c (.int .i64 0)))])
 (.seq (.seq (.reg [Yi 7 (.mov (.t 0)), Yi 8 (.nilchk (.t 7)), Yi 9 (.fldA 3 (.t 8)), Yi 10 (.load false 1 (.t 9)), Yi 11 (.bin .neq false (.t 10) (.c (.int .i64 0)))])
 (.cond (.t 11)
 (.seq (.reg [Yi 12 (.mov (.t 4)), Yi 4 (.mov (.t 12))])
 (.ret))
 (.skip)))
 (.seq (.reg [Yi 14 (.mov (.t 1)), Yi 15 (.call (.t 14) []), Yi 13 (.mov (.t 15)), Yi 16 (.extract (.t 13) 0), Yi 17 (.extract (.t 13) 1), Yi 18 (.extract (.t 13) 2), Yi 5 (.alloc [(.int .i64 0), (.slice [] .nil)]), ⟨none, .store 2 (.t 5) (.t 16), none⟩, Yi 4 (.mov (.t 17)), Yi 6 (.mov (.t 18))])
 (.seq (.seq (.reg [Yi 19 (.mov (.t 0)), Yi 20 (.mov (.t 6)), Yi 21 (.nilchk (.t 19)), Yi 22 (.fldA 3 (.t 21)), ⟨none, .store 1 (.t 22) (.t 20), none⟩])
 (.seq (.reg [Yi 23 (.mov (.t 6)), Yi 24 (.bin .neq false (.t 23) (.c (.int .i64 0)))])
 (.cond (.t 24)
 (.seq (.reg [Yi 4 (.mov (.c (.int .i64 0)))])
 (.ret))
 (.skip))))
 (.seq (.reg [Yi 25 (.mov (.t 0)), Yi 26 (.load true 2 (.t 5)), Yi 27 (.nilchk (.t 25)), Yi 28 (.fldA 0 (.t 27)), ⟨none, .store 2 (.t 28) (.t 26), none⟩])
 (.seq (.reg [Yi 29 (.mov (.t 4)), Yi 4 (.mov (.t 29))])
 (.ret))))))
def r35 : List ARV := [.tmp 4]
theorem b35 : Try.f35.body.bind (tr Try.prog 30) = some c35.bare := by kernel_rfl
theorem q35 : trRes Try.prog Try.f35.results.toList = some r35 := by kernel_rfl
theorem n35 : (Try.f35.name == "runtime.NumGoroutine") = false := by kernel_rfl

def c36 : ACode :=
 .seq (.reg [Yi 2 (.alloc [(.int .i64 0), (.slice [] .nil)]), Yi 3 (.mov (.c (.int .i64 0))), Yi 4 (.mov (.c (.int .i64 0)))])
 (.seq (.drw [Yi 5 (.load false 1 (.t 0)), Yi 6 (.nilchk (.t 5)), Yi 7 (.fldA 0 (.t 6)), Yi 8 (.load true 2 (.t 7)), Yi 9 (.load false 1 (.t 1)), Yi 10 (.call (.c (.fn 37 [] [])) [(.t 8), (.t 9)]), Yi 11 (.extract (.t 10) 0), Yi 12 (.extract (.t 10) 1), Yi 13 (.extract (.t 10) 2), ⟨none, .store 2 (.t 2) (.t 11), none⟩,
 Yi 3 (.mov (.t 12)), Yi 4 (.mov (.t 13))] [])
 (.ret))
def r36 : List ARV := [.cell 2 true 2, .tmp 3, .tmp 4]
theorem b36 : Try.f36.body.bind (tr Try.prog 14) = some c36.bare := by kernel_rfl
theorem q36 : trRes Try.prog Try.f36.results.toList = some r36 := by kernel_rfl
theorem n36 : (Try.f36.name == "runtime.NumGoroutine") = false := by kernel_rfl

def c37 : ACode :=
 .seq (.reg [Yi 2 (.boxI (.t 0)), Yi 3 (.box (.t 1)), Yi 4 (.alloc [(.int .i64 0), (.slice [] .nil)]), Yi 5 (.mov (.c (.int .i64 0))), Yi 6 (.mov (.c (.int .i64 0)))])
 (.seq (.reg [Yi 10 (.load true 2 (.t 2)), Yi 11 (.call (.c (.fn 65 [] [])) [(.t 10), (.c (.slice [] .nil))]), Yi 9 (.mov (.t 11)), Yi 12 (.extract (.t 9) 0), Yi 13 (.extract (.t 9) 1), Yi 7 (.alloc [.nilp]), ⟨none, .store 1 (.t 7) (.t 12), none⟩, Yi 8 (.mov (.t 13))])
 (.seq (.seq (.reg [Yi 14 (.mov (.t 8)), Yi 15 (.bin .eql false (.t 14) (.c (.int .i64 0))), Yi 16 (.mov (.t 15)), Yj 17 16 true (.load false 1 (.t 3)), Yj 18 16 true (.bin .lss false (.t 17) (.c (.int .i64 0))), Yj 19 16 true (.mov (.t 18)), Yj 20 19 false (.load false 1 (.t 3)), Yj 21 19 false (.fldA 0 (.t 2)),
 Yj 22 19 false (.load false 1 (.t 21)), Yj 23 19 false (.bin .geq false (.t 20) (.t 22)), Yj 24 16 true (.pick (.t 19) (.c (.bool true)) (.t 23)), Yi 25 (.pick (.t 16) (.t 24) (.c (.bool false)))])
 (.cond (.t 25)
 (.reg [Yi 8 (.mov (.c (.int .i64 1)))])
 (.skip)))
 (.seq (.reg [Yi 26 (.load false 1 (.t 7)), Yi 27 (.mov (.t 8)), Yi 28 (.mkfn 68 [] [(.t 7), (.t 3)]), Yi 29 (.call (.c (.fn 67 [] [])) [(.t 26), (.t 27), (.t 28)]), Yi 30 (.extract (.t 29) 0), Yi 31 (.extract (.t 29) 1), Yi 32 (.extract (.t 29) 2), ⟨none, .store 2 (.t 4) (.t 30), none⟩, Yi 5 (.mov (.t 31)),
 Yi 6 (.mov (.t 32))])
 (.ret))))
def r37 : List ARV := [.cell 4 true 2, .tmp 5, .tmp 6]
theorem b37 : Try.f37.body.bind (tr Try.prog 33) = some c37.bare := by kernel_rfl
theorem q37 : trRes Try.prog Try.f37.results.toList = some r37 := by kernel_rfl
theorem n37 : (Try.f37.name == "runtime.NumGoroutine") = false := by kernel_rfl

def c38 : ACode :=
 .seq (.reg [Yi 2 (.box (.t 0)), Yi 4 (.mov (.c (.int .i64 0)))])
 (.seq (.reg [Yi 6 (.load false 1 (.t 2)), Yi 7 (.nilchk (.t 6)), Yi 8 (.fldA 2 (.t 7)), Yi 9 (.load false 1 (.t 8)), Yi 10 (.mov (.t 1)), Yi 11 (.bin .shr false (.t 10) (.c (.int .u64 1))), Yi 12 (.idxS 1 (.t 9) (.t 11)), Yi 13 (.load false 1 (.t 12)), Yi 5 (.alloc [(.int .i64 0)]), ⟨none, .store 1 (.t 5) (.t 13), none⟩])
 (.seq (.seq (.reg [Yi 14 (.mov (.t 1)), Yi 15 (.bin .and false (.t 14) (.c (.int .i64 1))), Yi 16 (.bin .eql false (.t 15) (.c (.int .i64 0)))])
 (.cond (.t 16)
 (.seq (.reg [Yi 17 (.load false 1 (.t 5)), Yi 4 (.mov (.t 17))])
 (.ret))
 (.skip)))
 (.seq (.reg [Yi 18 (.load false 1 (.t 2)), Yi 19 (.mkfn 70 [] [(.t 2), (.t 5)]), Yi 20 (.call (.c (.fn 35 [] [])) [(.t 18), (.t 19)]), Yi 4 (.mov (.t 20))])
 (.ret))))
def r38 : List ARV := [.tmp 4]
theorem b38 : Try.f38.body.bind (tr Try.prog 21) = some c38.bare := by kernel_rfl
theorem q38 : trRes Try.prog Try.f38.results.toList = some r38 := by kernel_rfl
theorem n38 : (Try.f38.name == "runtime.NumGoroutine") = false := by kernel_rfl

def c39 : ACode :=
 .seq (.reg [Yi 3 (.alloc [(.int .i64 0), (.slice [] .nil)]), Yi 4 (.mov (.c (.int .i64 0))), Yi 5 (.mov (.c (.int .i64 0)))])
 (.seq (.drw [Yi 6 (.load false 1 (.t 0)), Yi 7 (.nilchk (.t 6)), Yi 8 (.fldA 0 (.t 7)), Yi 9 (.load true 2 (.t 8)), Yi 10 (.load false 1 (.t 1)), Yi 11 (.load false 1 (.t 2)), Yi 12 (.call (.c (.fn 40 [] [])) [(.t 9), (.t 10), (.t 11), (.c (.int .i64 0))]), Yi 13 (.extract (.t 12) 0), Yi 14 (.extract (.t 12) 1),
 Yi 15 (.extract (.t 12) 2), ⟨none, .store 2 (.t 3) (.t 13), none⟩, Yi 4 (.mov (.t 14)), Yi 5 (.mov (.t 15))] [])
 (.ret))
def r39 : List ARV := [.cell 3 true 2, .tmp 4, .tmp 5]
theorem b39 : Try.f39.body.bind (tr Try.prog 16) = some c39.bare := by kernel_rfl
theorem q39 : trRes Try.prog Try.f39.results.toList = some r39 := by kernel_rfl
theorem n39 : (Try.f39.name == "runtime.NumGoroutine") = false := by kernel_rfl

def c40 : ACode :=
 .seq (.reg [Yi 4 (.boxI (.t 0)), Yi 5 (.box (.t 1)), Yi 6 (.box (.t 2)), Yi 7 (.box (.t 3)), Yi 8 (.alloc [(.int .i64 0), (.slice [] .nil)]), Yi 9 (.mov (.c (.int .i64 0))), Yi 10 (.mov (.c (.int .i64 0)))])
 (.seq (.reg [Yi 14 (.load true 2 (.t 4)), Yi 15 (.load false 1 (.t 5)), Yi 16 (.load false 1 (.t 6)), Yi 17 (.load false 1 (.t 7)), Yi 18 (.bslice 1 [(.t 15), (.t 16), (.t 17)]), Yi 19 (.call (.c (.fn 65 [] [])) [(.t 14), (.t 18)]), Yi 13 (.mov (.t 19)), Yi 20 (.extract (.t 13) 0), Yi 21 (.extract (.t 13) 1),
 Yi 11 (.alloc [.nilp]), ⟨none, .store 1 (.t 11) (.t 20), none⟩, Yi 12 (.mov (.t 21))])
 (.seq (.reg [Yi 22 (.load false 1 (.t 11)), Yi 23 (.mov (.t 12)), Yi 24 (.mkfn 72 [] [(.t 11), (.t 5), (.t 6), (.t 7)]), Yi 25 (.call (.c (.fn 67 [] [])) [(.t 22), (.t 23), (.t 24)]), Yi 26 (.extract (.t 25) 0), Yi 27 (.extract (.t 25) 1), Yi 28 (.extract (.t 25) 2), ⟨none, .store 2 (.t 8) (.t 26), none⟩,
 Yi 9 (.mov (.t 27)), Yi 10 (.mov (.t 28))])
 (.ret)))
def r40 : List ARV := [.cell 8 true 2, .tmp 9, .tmp 10]
theorem b40 : Try.f40.body.bind (tr Try.prog 29) = some c40.bare := by kernel_rfl
theorem q40 : trRes Try.prog Try.f40.results.toList = some r40 := by kernel_rfl
theorem n40 : (Try.f40.name == "runtime.NumGoroutine") = false := by kernel_rfl

def c41 : ACode :=
 .seq (.reg [Yi 4 (.mov (.c (.slice [] .nil)))])
 (.seq (.seq (.reg [Yi 7 (.mov (.t 1)), Yi 8 (.call (.c (.fn 52 [] [])) [(.t 7)]), Yi 9 (.len (.t 8)), Yi 10 (.mov (.c (.int .i64 0)))])
 (.block 0 (.loop (.seq (.reg [Yi 11 (.bin .lss false (.t 10) (.t 9))])
 (.seq (.cond (.t 11)
 (.skip)
 (.exit 0))
 (.seq (.block 1 (.seq (.reg [Yi 12 (.idxS 1 (.t 8) (.t 10)), Yi 13 (.load false 1 (.t 12)), Yi 6 (.mov (.t 13))])
 (.reg [Yi 14 (.mov (.t 4)), Yi 15 (.mov (.t 0)), Yi 16 (.mov (.t 6)), Yi 17 (.call (.t 15) [(.t 16)]), Yi 18 (.bslice 1 [(.t 17)]), Yi 19 (.append 1 8 (.t 14) (.t 18)), Yi 4 (.mov (.t 19))])))
 (.reg [Yi 20 (.bin .add false (.t 10) (.c (.int .i64 1))), Yi 10 (.mov (.t 20))])))))))
 (.seq (.reg [Yi 21 (.mov (.t 4)), Yi 4 (.mov (.t 21))])
 (.ret)))
def r41 : List ARV := [.tmp 4]
theorem b41 : Try.f41.body.bind (tr Try.prog 22) = some c41.bare := by kernel_rfl
theorem q41 : trRes Try.prog Try.f41.results.toList = some r41 := by kernel_rfl
theorem n41 : (Try.f41.name == "runtime.NumGoroutine") = false := by kernel_rfl

def c42 : ACode :=
 .seq (.reg [Yi 1 (.boxI (.t 0)), Yi 2 (.mov (.c (.slice [] .nil)))])
 (.seq (.reg [Yi 3 (.fldA 1 (.t 1)), Yi 4 (.load false 1 (.t 3)), Yi 5 (.bslice 1 [(.t 4)]), Yi 6 (.call (.c (.fn 74 [] [])) [(.c (.fn 75 [] [])), (.t 5)]), Yi 2 (.mov (.t 6))])
 (.ret))
def r42 : List ARV := [.tmp 2]
theorem b42 : Try.f42.body.bind (tr Try.prog 7) = some c42.bare := by kernel_rfl
theorem q42 : trRes Try.prog Try.f42.results.toList = some r42 := by kernel_rfl
theorem n42 : (Try.f42.name == "runtime.NumGoroutine") = false := by kernel_rfl

def c47 : ACode :=
 .seq (.reg [Yi 2 (.mov (.c (.int .i64 0)))])
 (.seq (.seq (.reg [Yi 6 (.mov (.t 0)), Yi 7 (.len (.t 6)), Yi 8 (.mov (.c (.int .i64 0)))])
 (.block 0 (.loop (.seq (.reg [Yi 9 (.bin .lss false (.t 8) (.t 7))])
 (.seq (.cond (.t 9)
 (.skip)
 (.exit 0))
 (.seq (.block 1 (.seq (.reg [Yi 10 (.idxS 4 (.t 6) (.t 8)), Yi 11 (.load true 4 (.t 10)), Yi 4 (.alloc [(.int .i64 0), (.slice [] .nil), (.slice [] .nil), (.slice [] .nil)]), ⟨none, .store 4 (.t 4) (.t 11), none⟩])
 (.seq (.reg [Yi 12 (.load true 4 (.t 4)), Yi 13 (.call (.c (.fn 33 [] [])) [(.t 12)]), Yi 5 (.mov (.t 13))])
 (.seq (.reg [Yi 14 (.mov (.t 5)), Yi 15 (.bin .neq false (.t 14) (.c (.int .i64 0)))])
 (.cond (.t 15)
 (.seq (.reg [Yi 16 (.mov (.t 5)), Yi 2 (.mov (.t 16))])
 (.ret))
 (.skip))))))
 (.reg [Yi 17 (.bin .add false (.t 8) (.c (.int .i64 1))), Yi 8 (.mov (.t 17))])))))))
 (.seq (.reg [Yi 2 (.mov (.c (.int .i64 0)))])
 (.ret)))
def r47 : List ARV := [.tmp 2]
theorem b47 : Try.f47.body.bind (tr Try.prog 18) = some c47.bare := by kernel_rfl
theorem q47 : trRes Try.prog Try.f47.results.toList = some r47 := by kernel_rfl
theorem n47 : (Try.f47.name == "runtime.NumGoroutine") = false := by kernel_rfl

def c48 : ACode :=
 .seq (.reg [Yi 2 (.mov (.c (.slice [] .nil)))])
 (.seq (.seq (.reg [Yi 3 (.mov (.t 0)), Yi 4 (.ext (.isnil false (.t 3)))])
 (.cond (.t 4)
 (.seq (.reg [Yi 2 (.mov (.c (.slice [] .nil)))])
 (.ret))
 (.skip)))
 (.seq (.reg [Yi 5 (.bslice 2 []), Yi 6 (.mov (.t 0)), Yi 7 (.append 2 16 (.t 5) (.t 6)), Yi 2 (.mov (.t 7))])
 (.ret)))
def r48 : List ARV := [.tmp 2]
theorem b48 : Try.f48.body.bind (tr Try.prog 8) = some c48.bare := by kernel_rfl
theorem q48 : trRes Try.prog Try.f48.results.toList = some r48 := by kernel_rfl
theorem n48 : (Try.f48.name == "runtime.NumGoroutine") = false := by kernel_rfl

def c49 : ACode :=
 .seq (.reg [Yi 3 (.mov (.c (.int .i64 0)))])
 (.seq (.reg [Yi 4 (.load false 1 (.t 1)), Yi 5 (.mov (.t 0)), Yi 6 (.bin .shr false (.t 5) (.c (.int .u64 1))), Yi 7 (.idxS 1 (.t 4) (.t 6)), Yi 8 (.load false 1 (.t 7)), Yi 9 (.mov (.t 0)), Yi 10 (.bin .and false (.t 9) (.c (.int .i64 1))), Yi 11 (.bin .xor false (.t 8) (.t 10)), Yi 3 (.mov (.t 11))])
 (.ret))
def r49 : List ARV := [.tmp 3]
theorem b49 : Try.f49.body.bind (tr Try.prog 12) = some c49.bare := by kernel_rfl
theorem q49 : trRes Try.prog Try.f49.results.toList = some r49 := by kernel_rfl
theorem n49 : (Try.f49.name == "runtime.NumGoroutine") = false := by kernel_rfl

def c50 : ACode :=
 .seq (.reg [Yi 8 (.mov (.c (.int .i64 0)))])
 (.seq (.seq (.reg [Yi 11 (.load false 1 (.t 3)), Yi 12 (.bin .neq false (.t 11) (.c (.int .i64 0)))])
 (.cond (.t 12)
 (.seq (.reg [Yi 13 (.mov (.t 8)), Yi 8 (.mov (.t 13))])
 (.ret))
 (.skip)))
 (.seq (.reg [Yi 15 (.mov (.t 0)), Yi 16 (.load true 4 (.t 4)), Yi 17 (.mov (.t 1)), Yi 18 (.mov (.t 2)), Yi 19 (.call (.t 15) [(.t 16), (.t 17), (.t 18)]), Yi 14 (.mov (.t 19)), Yi 20 (.extract (.t 14) 0), Yi 21 (.extract (.t 14) 1), Yi 22 (.extract (.t 14) 2), Yi 9 (.alloc [(.int .i64 0), (.slice [] .nil), (.slice [] .nil), (.slice [] .nil)]),
 ⟨none, .store 4 (.t 9) (.t 20), none⟩, Yi 8 (.mov (.t 21)), Yi 10 (.mov (.t 22))])
 (.seq (.seq (.reg [Yi 23 (.mov (.t 10)), Yi 24 (.bin .neq false (.t 23) (.c (.int .i64 0)))])
 (.cond (.t 24)
 (.seq (.reg [Yi 25 (.mov (.t 10)), ⟨none, .store 1 (.t 3) (.t 25), none⟩])
 (.seq (.reg [Yi 8 (.mov (.c (.int .i64 0)))])
 (.ret)))
 (.skip)))
 (.seq (.reg [Yi 26 (.load true 4 (.t 9)), ⟨none, .store 4 (.t 4) (.t 26), none⟩])
 (.seq (.reg [Yi 27 (.mov (.t 8)), Yi 8 (.mov (.t 27))])
 (.ret))))))
def r50 : List ARV := [.tmp 8]
theorem b50 : Try.f50.body.bind (tr Try.prog 28) = some c50.bare := by kernel_rfl
theorem q50 : trRes Try.prog Try.f50.results.toList = some r50 := by kernel_rfl
theorem n50 : (Try.f50.name == "runtime.NumGoroutine") = false := by kernel_rfl

def c51 : ACode :=
 .seq (.reg [Yi 3 (.boxI (.t 0)), Yi 6 (.alloc [(.int .i64 0), (.slice [] .nil), (.slice [] .nil), (.slice [] .nil)]), Yi 7 (.mov (.c (.int .i64 0))), Yi 8 (.mov (.c (.int .i64 0)))])
 (.seq (.reg [Yi 10 (.load true 4 (.t 3)), Yi 11 (.mov (.t 1)), Yi 12 (.mov (.t 2)), Yi 13 (.bslice 1 [(.t 11), (.t 12)]), Yi 14 (.call (.c (.fn 66 [] [])) [(.t 10), (.t 13)]), Yi 9 (.mov (.t 14))])
 (.seq (.reg [Yi 15 (.mov (.t 9)), Yi 16 (.mov (.t 9)), Yi 17 (.mov (.t 1)), Yi 18 (.mov (.t 2)), Yi 19 (.call (.c (.fn 81 [] [])) [(.t 16), (.t 17), (.t 18)]), Yi 20 (.call (.c (.fn 80 [] [])) [(.t 15), (.t 19)]), Yi 21 (.extract (.t 20) 0), Yi 22 (.extract (.t 20) 1), Yi 23 (.extract (.t 20) 2), ⟨none, .store 4 (.t 6) (.t 21), none⟩,
 Yi 7 (.mov (.t 22)), Yi 8 (.mov (.t 23))])
 (.ret)))
def r51 : List ARV := [.cell 6 true 4, .tmp 7, .tmp 8]
theorem b51 : Try.f51.body.bind (tr Try.prog 24) = some c51.bare := by kernel_rfl
theorem q51 : trRes Try.prog Try.f51.results.toList = some r51 := by kernel_rfl
theorem n51 : (Try.f51.name == "runtime.NumGoroutine") = false := by kernel_rfl

def c52 : ACode :=
 .seq (.reg [Yi 2 (.mov (.c (.slice [] .nil)))])
 (.seq (.reg [Yi 3 (.mov (.c (.int .i64 0)))])
 (.seq (.seq (.reg [Yi 9 (.mov (.t 0)), Yi 10 (.len (.t 9)), Yi 11 (.mov (.c (.int .i64 0)))])
 (.block 0 (.loop (.seq (.reg [Yi 12 (.bin .lss false (.t 11) (.t 10))])
 (.seq (.cond (.t 12)
 (.skip)
 (.exit 0))
 (.seq (.block 1 (.seq (.reg [Yi 13 (.idxS 1 (.t 9) (.t 11)), Yi 14 (.load false 1 (.t 13)), Yi 5 (.mov (.t 14))])
 (.seq (.reg [Yi 15 (.mov (.t 3)), Yi 16 (.mov (.t 5)), Yi 17 (.len (.t 16)), Yi 18 (.bin .add false (.t 15) (.t 17)), Yi 3 (.mov (.t 18))])
 (.seq (.reg [Yi 19 (.mov (.t 3)), Yi 20 (.bin .lss false (.t 19) (.c (.int .i64 0)))])
 (.cond (.t 20)
 (.reg [Yi 21 (.mkiface 9 (.c (.str ⟨#[108, 101, 110, 32, 111, 117, 116, 32, 111, 102, 32, 114, 97, 110, 103, 101]⟩))), ⟨none, .panic (.t 21), none⟩])
 (.skip))))))
 (.reg [Yi 22 (.bin .add false (.t 11) (.c (.int .i64 1))), Yi 11 (.mov (.t 22))])))))))
 (.seq (.reg [Yi 23 (.mov (.t 3)), Yi 24 (.call (.c (.fn 82 [] [])) [(.c (.slice [] .nil)), (.t 23)]), Yi 6 (.mov (.t 24))])
 (.seq (.seq (.reg [Yi 25 (.mov (.t 0)), Yi 26 (.len (.t 25)), Yi 27 (.mov (.c (.int .i64 0)))])
 (.block 2 (.loop (.seq (.reg [Yi 28 (.bin .lss false (.t 27) (.t 26))])
 (.seq (.cond (.t 28)
 (.skip)
 (.exit 2))
 (.seq (.block 3 (.seq (.reg [Yi 29 (.idxS 1 (.t 25) (.t 27)), Yi 30 (.load false 1 (.t 29)), Yi 8 (.mov (.t 30))])
 (.reg [Yi 31 (.mov (.t 6)), Yi 32 (.mov (.t 8)), Yi 33 (.append 1 8 (.t 31) (.t 32)), Yi 6 (.mov (.t 33))])))
 (.reg [Yi 34 (.bin .add false (.t 27) (.c (.int .i64 1))), Yi 27 (.mov (.t 34))])))))))
 (.seq (.reg [Yi 35 (.mov (.t 6)), Yi 2 (.mov (.t 35))])
 (.ret))))))
def r52 : List ARV := [.tmp 2]
theorem b52 : Try.f52.body.bind (tr Try.prog 36) = some c52.bare := by kernel_rfl
theorem q52 : trRes Try.prog Try.f52.results.toList = some r52 := by kernel_rfl
theorem n52 : (Try.f52.name == "runtime.NumGoroutine") = false := by kernel_rfl

def c53 : ACode :=
 .seq (.reg [Yi 3 (.boxI (.t 0)), Yi 6 (.alloc [(.int .i64 0), (.slice [] .nil), (.slice [] .nil), (.slice [] .nil)]), Yi 7 (.mov (.c (.int .i64 0))), Yi 8 (.mov (.c (.int .i64 0)))])
 (.seq (.reg [Yi 10 (.load true 4 (.t 3)), Yi 11 (.mov (.t 1)), Yi 12 (.mov (.t 2)), Yi 13 (.bslice 1 [(.t 11), (.t 12)]), Yi 14 (.call (.c (.fn 66 [] [])) [(.t 10), (.t 13)]), Yi 9 (.mov (.t 14))])
 (.seq (.reg [Yi 15 (.mov (.t 9)), Yi 16 (.mov (.t 9)), Yi 17 (.mov (.t 1)), Yi 18 (.mov (.t 2)), Yi 19 (.call (.c (.fn 83 [] [])) [(.t 16), (.t 17), (.t 18)]), Yi 20 (.call (.c (.fn 80 [] [])) [(.t 15), (.t 19)]), Yi 21 (.extract (.t 20) 0), Yi 22 (.extract (.t 20) 1), Yi 23 (.extract (.t 20) 2), ⟨none, .store 4 (.t 6) (.t 21), none⟩,
 Yi 7 (.mov (.t 22)), Yi 8 (.mov (.t 23))])
 (.ret)))
def r53 : List ARV := [.cell 6 true 4, .tmp 7, .tmp 8]
theorem b53 : Try.f53.body.bind (tr Try.prog 24) = some c53.bare := by kernel_rfl
theorem q53 : trRes Try.prog Try.f53.results.toList = some r53 := by kernel_rfl
theorem n53 : (Try.f53.name == "runtime.NumGoroutine") = false := by kernel_rfl

def c54 : ACode :=
 .seq (.reg [Yi 3 (.boxI (.t 0)), Yi 6 (.alloc [(.int .i64 0), (.slice [] .nil), (.slice [] .nil), (.slice [] .nil)]), Yi 7 (.mov (.c (.int .i64 0))), Yi 8 (.mov (.c (.int .i64 0)))])
 (.seq (.reg [Yi 12 (.load true 4 (.t 3)), Yi 13 (.mov (.t 1)), Yi 14 (.mov (.t 2)), Yi 15 (.bslice 1 [(.t 13), (.t 14)]), Yi 16 (.call (.c (.fn 66 [] [])) [(.t 12), (.t 15)]), Yi 9 (.mov (.t 16))])
 (.seq (.reg [Yi 17 (.mov (.t 9)), Yi 18 (.mov (.t 1)), Yi 19 (.mov (.t 2)), Yi 20 (.bin .xor false (.t 19) (.c (.int .i64 1))), Yi 21 (.call (.c (.fn 81 [] [])) [(.t 17), (.t 18), (.t 20)]), Yi 10 (.mov (.t 21))])
 (.seq (.reg [Yi 22 (.mov (.t 9)), Yi 23 (.mov (.t 1)), Yi 24 (.bin .xor false (.t 23) (.c (.int .i64 1))), Yi 25 (.mov (.t 2)), Yi 26 (.call (.c (.fn 81 [] [])) [(.t 22), (.t 24), (.t 25)]), Yi 11 (.mov (.t 26))])
 (.seq (.reg [Yi 27 (.mov (.t 9)), Yi 28 (.mov (.t 9)), Yi 29 (.mov (.t 10)), Yi 30 (.mov (.t 11)), Yi 31 (.call (.c (.fn 83 [] [])) [(.t 28), (.t 29), (.t 30)]), Yi 32 (.call (.c (.fn 80 [] [])) [(.t 27), (.t 31)]), Yi 33 (.extract (.t 32) 0), Yi 34 (.extract (.t 32) 1), Yi 35 (.extract (.t 32) 2),
 ⟨none, .store 4 (.t 6) (.t 33), none⟩, Yi 7 (.mov (.t 34)), Yi 8 (.mov (.t 35))])
 (.ret)))))
def r54 : List ARV := [.cell 6 true 4, .tmp 7, .tmp 8]
theorem b54 : Try.f54.body.bind (tr Try.prog 36) = some c54.bare := by kernel_rfl
theorem q54 : trRes Try.prog Try.f54.results.toList = some r54 := by kernel_rfl
theorem n54 : (Try.f54.name == "runtime.NumGoroutine") = false := by kernel_rfl

def c55 : ACode :=
 .seq (.reg [Yi 2 (.boxI (.t 0)), Yi 3 (.boxI (.t 1)), Yi 4 (.mov (.c (.int .i64 0)))])
 (.seq (.reg [Yi 6 (.load true 4 (.t 2)), Yi 7 (.call (.c (.fn 29 [] [])) [(.t 6)]), Yi 5 (.mov (.t 7))])
 (.seq (.seq (.reg [Yi 8 (.mov (.t 5)), Yi 9 (.bin .neq false (.t 8) (.c (.int .i64 0)))])
 (.cond (.t 9)
 (.seq (.reg [Yi 10 (.mov (.t 5)), Yi 4 (.mov (.t 10))])
 (.ret))
 (.skip)))
 (.seq (.reg [Yi 11 (.load true 4 (.t 3)), Yi 12 (.call (.c (.fn 29 [] [])) [(.t 11)]), Yi 4 (.mov (.t 12))])
 (.ret))))
def r55 : List ARV := [.tmp 4]
theorem b55 : Try.f55.body.bind (tr Try.prog 13) = some c55.bare := by kernel_rfl
theorem q55 : trRes Try.prog Try.f55.results.toList = some r55 := by kernel_rfl
theorem n55 : (Try.f55.name == "runtime.NumGoroutine") = false := by kernel_rfl

def c56 : ACode :=
 .seq (.reg [Yi 3 (.boxI (.t 0)), Yi 6 (.alloc [(.int .i64 0), (.slice [] .nil), (.slice [] .nil), (.slice [] .nil)]), Yi 7 (.mov (.c (.int .i64 0))), Yi 8 (.mov (.c (.int .i64 0)))])
 (.seq (.reg [Yi 10 (.load true 4 (.t 3)), Yi 11 (.mov (.t 1)), Yi 12 (.mov (.t 2)), Yi 13 (.bslice 1 [(.t 11), (.t 12)]), Yi 14 (.call (.c (.fn 84 [] [])) [(.t 10), (.t 13)]), Yi 9 (.mov (.t 14))])
 (.seq (.seq (.reg [Yi 15 (.mov (.t 9)), Yi 16 (.bin .neq false (.t 15) (.c (.int .i64 0)))])
 (.cond (.t 16)
 (.seq (.reg [Yi 17 (.build [(.int .i64 0), (.slice [] .nil), (.slice [] .nil), (.slice [] .nil)] []), Yi 18 (.mov (.t 9)), ⟨none, .store 4 (.t 6) (.t 17), none⟩, Yi 7 (.mov (.c (.int .i64 0))), Yi 8 (.mov (.t 18))])
 (.ret))
 (.skip)))
 (.seq (.reg [Yi 19 (.load true 4 (.t 3)), Yi 20 (.mov (.t 1)), Yi 21 (.mov (.t 2)), Yi 22 (.call (.c (.fn 85 [] [])) [(.t 19), (.t 20), (.t 21)]), Yi 23 (.extract (.t 22) 0), Yi 24 (.extract (.t 22) 1), Yi 25 (.extract (.t 22) 2), ⟨none, .store 4 (.t 6) (.t 23), none⟩, Yi 7 (.mov (.t 24)), Yi 8 (.mov (.t 25))])
 (.ret))))
def r56 : List ARV := [.cell 6 true 4, .tmp 7, .tmp 8]
theorem b56 : Try.f56.body.bind (tr Try.prog 26) = some c56.bare := by kernel_rfl
theorem q56 : trRes Try.prog Try.f56.results.toList = some r56 := by kernel_rfl
theorem n56 : (Try.f56.name == "runtime.NumGoroutine") = false := by kernel_rfl

def c57 : ACode :=
 .seq (.reg [Yi 4 (.mov (.c (.int .i64 0)))])
 (.seq (.seq (.reg [Yi 5 (.mov (.t 1)), Yi 6 (.bin .rem false (.t 5) (.c (.int .i64 2))), Yi 7 (.bin .eql false (.t 6) (.c (.int .i64 0)))])
 (.cond (.t 7)
 (.seq (.reg [Yi 8 (.mov (.t 0)), Yi 9 (.mov (.t 1)), Yi 10 (.bin .quo false (.t 9) (.c (.int .i64 2))), Yi 11 (.idxS 1 (.t 8) (.t 10)), Yi 12 (.load false 1 (.t 11)), Yi 4 (.mov (.t 12))])
 (.ret))
 (.skip)))
 (.seq (.seq (.reg [Yi 13 (.mov (.t 0)), Yi 14 (.mov (.t 1)), Yi 15 (.bin .quo false (.t 14) (.c (.int .i64 2))), Yi 16 (.idxS 1 (.t 13) (.t 15)), Yi 17 (.load false 1 (.t 16)), Yi 18 (.bin .rem false (.t 17) (.c (.int .i64 2))), Yi 19 (.bin .eql false (.t 18) (.c (.int .i64 1)))])
 (.cond (.t 19)
 (.seq (.reg [Yi 20 (.mov (.t 0)), Yi 21 (.mov (.t 1)), Yi 22 (.bin .quo false (.t 21) (.c (.int .i64 2))), Yi 23 (.idxS 1 (.t 20) (.t 22)), Yi 24 (.load false 1 (.t 23)), Yi 25 (.bin .sub false (.t 24) (.c (.int .i64 1))), Yi 4 (.mov (.t 25))])
 (.ret))
 (.skip)))
 (.seq (.reg [Yi 26 (.mov (.t 0)), Yi 27 (.mov (.t 1)), Yi 28 (.bin .quo false (.t 27) (.c (.int .i64 2))), Yi 29 (.idxS 1 (.t 26) (.t 28)), Yi 30 (.load false 1 (.t 29)), Yi 31 (.bin .add false (.t 30) (.c (.int .i64 1))), Yi 4 (.mov (.t 31))])
 (.ret))))
def r57 : List ARV := [.tmp 4]
theorem b57 : Try.f57.body.bind (tr Try.prog 32) = some c57.bare := by kernel_rfl
theorem q57 : trRes Try.prog Try.f57.results.toList = some r57 := by kernel_rfl
theorem n57 : (Try.f57.name == "runtime.NumGoroutine") = false := by kernel_rfl

def c58 : ACode :=
 .seq (.reg [Yi 4 (.boxI (.t 0)), Yi 8 (.alloc [(.int .i64 0), (.slice [] .nil), (.slice [] .nil), (.slice [] .nil)]), Yi 9 (.mov (.c (.int .i64 0))), Yi 10 (.mov (.c (.int .i64 0)))])
 (.seq (.reg [Yi 15 (.load true 4 (.t 4)), Yi 16 (.mov (.t 2)), Yi 17 (.mov (.t 3)), Yi 18 (.call (.c (.fn 86 [] [])) [(.t 15), (.t 16), (.t 17)]), Yi 14 (.mov (.t 18)), Yi 19 (.extract (.t 14) 0), Yi 20 (.extract (.t 14) 1), Yi 21 (.extract (.t 14) 2), Yi 11 (.alloc [(.int .i64 0), (.slice [] .nil), (.slice [] .nil), (.slice [] .nil)]),
 ⟨none, .store 4 (.t 11) (.t 19), none⟩, Yi 12 (.mov (.t 20)), Yi 13 (.mov (.t 21))])
 (.seq (.seq (.reg [Yi 22 (.mov (.t 13)), Yi 23 (.bin .neq false (.t 22) (.c (.int .i64 0)))])
 (.cond (.t 23)
 (.seq (.reg [Yi 24 (.build [(.int .i64 0), (.slice [] .nil), (.slice [] .nil), (.slice [] .nil)] []), Yi 25 (.mov (.t 13)), ⟨none, .store 4 (.t 8) (.t 24), none⟩, Yi 9 (.mov (.c (.int .i64 0))), Yi 10 (.mov (.t 25))])
 (.ret))
 (.skip)))
 (.seq (.reg [Yi 26 (.load true 4 (.t 11)), Yi 27 (.mov (.t 1)), Yi 28 (.mov (.t 12)), Yi 29 (.call (.c (.fn 87 [] [])) [(.t 26), (.t 27), (.t 28)]), Yi 30 (.extract (.t 29) 0), Yi 31 (.extract (.t 29) 1), Yi 32 (.extract (.t 29) 2), ⟨none, .store 4 (.t 8) (.t 30), none⟩, Yi 9 (.mov (.t 31)), Yi 10 (.mov (.t 32))])
 (.ret))))
def r58 : List ARV := [.cell 8 true 4, .tmp 9, .tmp 10]
theorem b58 : Try.f58.body.bind (tr Try.prog 33) = some c58.bare := by kernel_rfl
theorem q58 : trRes Try.prog Try.f58.results.toList = some r58 := by kernel_rfl
theorem n58 : (Try.f58.name == "runtime.NumGoroutine") = false := by kernel_rfl

def c59 : ACode :=
 .seq (.reg [Yi 2 (.boxI (.t 0)), Yi 4 (.mov (.c (.slice [] .nil))), Yi 5 (.mov (.c (.int .i64 0)))])
 (.seq (.seq (.reg [Yi 16 (.load true 4 (.t 2)), Yi 17 (.call (.c (.fn 33 [] [])) [(.t 16)]), Yi 6 (.mov (.t 17))])
 (.seq (.reg [Yi 18 (.mov (.t 6)), Yi 19 (.bin .neq false (.t 18) (.c (.int .i64 0)))])
 (.cond (.t 19)
 (.seq (.reg [Yi 20 (.mov (.t 6)), Yi 4 (.mov (.c (.slice [] .nil))), Yi 5 (.mov (.t 20))])
 (.ret))
 (.skip))))
 (.seq (.reg [Yi 7 (.mov (.c (.slice [] .nil)))])
 (.seq (.reg [Yi 8 (.mov (.c (.slice [] .nil)))])
 (.seq (.seq (.reg [Yi 21 (.fldA 1 (.t 2)), Yi 22 (.load false 1 (.t 21)), Yi 23 (.len (.t 22)), Yi 24 (.mov (.c (.int .i64 0)))])
 (.block 0 (.loop (.seq (.reg [Yi 25 (.bin .lss false (.t 24) (.t 23))])
 (.seq (.cond (.t 25)
 (.skip)
 (.exit 0))
 (.seq (.block 1 (.seq (.reg [Yi 26 (.idxS 2 (.t 22) (.t 24)), Yi 27 (.load true 2 (.t 26)), Yi 10 (.alloc [(.int .i64 0), (.bool false)]), ⟨none, .store 2 (.t 10) (.t 27), none⟩])
 (.reg [Yi 28 (.mov (.t 8)), Yi 29 (.fldA 1 (.t 10)), Yi 30 (.load false 1 (.t 29)), Yi 31 (.bslice 1 [(.t 30)]), Yi 32 (.append 1 1 (.t 28) (.t 31)), Yi 8 (.mov (.t 32))])))
 (.reg [Yi 33 (.bin .add false (.t 24) (.c (.int .i64 1))), Yi 24 (.mov (.t 33))])))))))
 (.seq (.seq (.reg [Yi 34 (.mov (.t 1)), Yi 35 (.len (.t 34)), Yi 36 (.mov (.c (.int .i64 0)))])
 (.block 2 (.loop (.seq (.reg [Yi 37 (.bin .lss false (.t 36) (.t 35))])
 (.seq (.cond (.t 37)
 (.skip)
 (.exit 2))
 (.seq (.block 3 (.seq (.reg [Yi 38 (.idxS 1 (.t 34) (.t 36)), Yi 39 (.load false 1 (.t 38)), Yi 12 (.mov (.t 39))])
 (.seq (.reg [Yi 41 (.load true 4 (.t 2)), Yi 42 (.mov (.t 12)), Yi 43 (.mov (.t 8)), Yi 44 (.call (.c (.fn 88 [] [])) [(.t 41), (.t 42), (.t 43)]), Yi 40 (.mov (.t 44)), Yi 45 (.extract (.t 40) 0), Yi 46 (.extract (.t 40) 1), Yi 47 (.extract (.t 40) 2), Yi 13 (.mov (.t 45)), Yi 14 (.mov (.t 46)), Yi 15 (.mov (.t 47))])
 (.seq (.seq (.reg [Yi 48 (.mov (.t 15)), Yi 49 (.bin .neq false (.t 48) (.c (.int .i64 0)))])
 (.cond (.t 49)
 (.seq (.reg [Yi 50 (.mov (.t 15)), Yi 4 (.mov (.c (.slice [] .nil))), Yi 5 (.mov (.t 50))])
 (.ret))
 (.skip)))
 (.reg [Yi 51 (.mov (.t 7)), Yi 52 (.mov (.t 13)), Yi 53 (.bslice 1 [(.t 52)]), Yi 54 (.append 1 24 (.t 51) (.t 53)), Yi 55 (.mov (.t 14)), Yi 7 (.mov (.t 54)), Yi 8 (.mov (.t 55))])))))
 (.reg [Yi 56 (.bin .add false (.t 36) (.c (.int .i64 1))), Yi 36 (.mov (.t 56))])))))))
 (.seq (.reg [Yi 57 (.mov (.t 7)), Yi 4 (.mov (.t 57)), Yi 5 (.mov (.c (.int .i64 0)))])
 (.ret)))))))
def r59 : List ARV := [.tmp 4, .tmp 5]
theorem b59 : Try.f59.body.bind (tr Try.prog 58) = some c59.bare := by kernel_rfl
theorem q59 : trRes Try.prog Try.f59.results.toList = some r59 := by kernel_rfl
theorem n59 : (Try.f59.name == "runtime.NumGoroutine") = false := by kernel_rfl

end Go.Proofs.Ytjichkelfhcbcaa

