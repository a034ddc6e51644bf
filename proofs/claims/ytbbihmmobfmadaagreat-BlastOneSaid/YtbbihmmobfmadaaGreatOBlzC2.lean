/- The bodies of the program's functions, as_ the abstraction layer has them. By program. -/
import Derived.Test.YtbbihmmobfmadaaGreatOBlzC3
set_option linter.unusedSimpArgs false
set_option linter.unusedVariables false
namespace Go.Proofs.YtbbihmmobfmadaaGreat
open Abs
def c144 : ACode := .seq (.reg [J_ 4 0]) (.seq (.seq (.reg [M_ 6 0, I_ 7 (.len (.t 6)), J_ 8 0]) (.block 0 (.loop (.seq (.reg [I_ 9 (.bin .lss false (.t 8) (.t 7))]) (.seq (.cond (.t 9) (.skip) (.exit 0)) (.seq (.block 1 (.seq (.reg [M_ 10 8, M_ 5 10]) (.seq (.reg [M_ 11 1, M_ 12 0, M_ 13 5, I_ 14 (.idxS 1 (.t 12) (.t 13)), L_ 15 14, I_ 16 (.call (.t 11) [.t 15])]) (.cond (.t 16) (.seq (.reg [M_ 17 5, M_ 4 17]) (.ret)) (.skip))))) (.reg [I_ 18 (.bin .add false (.t 8) (K_ 1)), M_ 8 18]))))))) (.seq (.reg [I_ 4 (.mov (.c (.int .i64 (-1))))]) (.ret)))
def r144 : List ARV := [.tmp 4]
theorem b144 : Tryz.f144.body.bind (tr Tryz.prog 19) = some c144.bare := by kernel_rfl
theorem q144 : trRes Tryz.prog Tryz.f144.results.toList = some r144 := by kernel_rfl
theorem n144 : (Tryz.f144.name == "runtime.NumGoroutine") = false := by kernel_rfl

def c145 : ACode := .seq (.reg [I_ 2 (.boxI (.t 0)), I_ 4 (.mov (.c .nilp))]) (.seq (.reg [N_ 8 4 2, I_ 9 (.build [(.int .i64 0), (.slice [] .nil), (.slice [] .nil), (.slice [] .nil), (.int .i64 0)] [(0, 4, (.t 8))]), I_ 10 (.box (.t 9)), M_ 5 10]) (.seq (.reg [M_ 11 5, M_ 12 5, I_ 13 (.call (.c (.fn 200 [] [])) [.t 12]), I_ 14 (.nilchk (.t 11)), F_ 15 4 14, ⟨none, .store 1 (.t 15) (.t 13), none⟩]) (.seq (.seq (.reg [M_ 16 1, I_ 17 (.len (.t 16)), J_ 18 0]) (.block 0 (.loop (.seq (.reg [I_ 19 (.bin .lss false (.t 18) (.t 17))]) (.seq (.cond (.t 19) (.skip) (.exit 0)) (.seq (.block 1 (.seq (.reg [I_ 20 (.idxS 1 (.t 16) (.t 18)), L_ 21 20, M_ 7 21]) (.seq (.reg [M_ 22 5, I_ 23 (.nilchk (.t 22)), F_ 24 4 23, L_ 25 24, I_ 26 (.bin .eql false (.t 25) (K_ 0)), M_ 27 26, ⟨some 28, .mov (.t 5), some (27, true)⟩, ⟨some 29, .mov (.t 7), some (27, true)⟩, ⟨some 30, .call (.c (.fn 201 [] [])) [.t 28, .t 29], some (27, true)⟩, ⟨some 31, .un .not (.t 30), some (27, true)⟩, I_ 32 (.pick (.t 27) (.t 31) (.c (.bool false)))]) (.cond (.t 32) (.reg [M_ 33 5, I_ 34 (.nilchk (.t 33)), F_ 35 4 34, ⟨none, .store 1 (.t 35) (K_ 1), none⟩]) (.skip))))) (.reg [I_ 36 (.bin .add false (.t 18) (K_ 1)), M_ 18 36]))))))) (.seq (.reg [M_ 37 5, M_ 4 37]) (.ret)))))
def r145 : List ARV := [.tmp 4]
theorem b145 : Tryz.f145.body.bind (tr Tryz.prog 38) = some c145.bare := by kernel_rfl
theorem q145 : trRes Tryz.prog Tryz.f145.results.toList = some r145 := by kernel_rfl
theorem n145 : (Tryz.f145.name == "runtime.NumGoroutine") = false := by kernel_rfl

def c146 : ACode := .seq (.reg [I_ 4 (.mov (.c (.slice [] .nil)))]) (.seq (.seq (.reg [M_ 5 1, I_ 6 (.bin .lss false (.t 5) (K_ 0))]) (.cond (.t 6) (.reg [⟨some 7, .mkiface 9 (.c (.str ⟨#[99, 97, 110, 110, 111, 116, 32, 98, 101, 32, 110, 101, 103, 97, 116, 105, 118, 101]⟩)), none⟩, ⟨none, .panic (.t 7), none⟩]) (.skip))) (.seq (.seq (.reg [M_ 8 1, M_ 9 0, I_ 10 (.cap (.t 9)), M_ 11 0, I_ 12 (.len (.t 11)), I_ 13 (.bin .sub false (.t 10) (.t 12)), I_ 14 (.bin .sub false (.t 8) (.t 13)), M_ 1 14]) (.seq (.reg [M_ 15 1, I_ 16 (.bin .gtr false (.t 15) (K_ 0))]) (.cond (.t 16) (.reg [M_ 17 0, M_ 18 0, I_ 19 (.cap (.t 18)), I_ 20 (.slcN 1 (.t 17) none (some (.t 19)) none), M_ 21 1, I_ 22 (.appz 1 8 (.t 20) (.t 21)), M_ 23 0, I_ 24 (.len (.t 23)), I_ 25 (.slcR 1 (.t 22) none (some (.t 24)) none), M_ 0 25]) (.skip)))) (.seq (.reg [M_ 26 0, M_ 4 26]) (.ret))))
def r146 : List ARV := [.tmp 4]
theorem b146 : Tryz.f146.body.bind (tr Tryz.prog 27) = some c146.bare := by kernel_rfl
theorem q146 : trRes Tryz.prog Tryz.f146.results.toList = some r146 := by kernel_rfl
theorem n146 : (Tryz.f146.name == "runtime.NumGoroutine") = false := by kernel_rfl

def c160 : ACode := .seq (.reg [I_ 2 (.mov (.c (.slice [] .nil)))]) (.seq (.reg [M_ 3 0, I_ 4 (.call (.c (.fn 212 [] [])) [(.c (.slice [] .nil)), .t 3]), M_ 2 4]) (.ret))
def r160 : List ARV := [.tmp 2]
theorem b160 : Tryz.f160.body.bind (tr Tryz.prog 5) = some c160.bare := by kernel_rfl
theorem q160 : trRes Tryz.prog Tryz.f160.results.toList = some r160 := by kernel_rfl
theorem n160 : (Tryz.f160.name == "runtime.NumGoroutine") = false := by kernel_rfl

def c161 : ACode := .seq (.reg [J_ 6 0]) (.seq (.reg [L_ 11 2, M_ 12 0, M_ 13 1, I_ 14 (.call (.c (.fn 100 [] [])) [.t 11, .t 12, .t 13]), M_ 7 14]) (.seq (.reg [L_ 15 2, M_ 16 7, L_ 17 3, I_ 18 (.call (.c (.fn 100 [] [])) [.t 15, .t 16, .t 17]), M_ 8 18]) (.seq (.reg [L_ 19 2, M_ 20 0, M_ 21 1, I_ 22 (.call (.c (.fn 98 [] [])) [.t 19, .t 20, .t 21]), M_ 9 22]) (.seq (.reg [L_ 23 2, M_ 24 7, L_ 25 3, I_ 26 (.call (.c (.fn 98 [] [])) [.t 23, .t 24, .t 25]), M_ 10 26]) (.seq (.reg [L_ 27 2, M_ 28 9, M_ 29 10, I_ 30 (.call (.c (.fn 110 [] [])) [.t 27, .t 28, .t 29]), ⟨none, .store 1 (.t 3) (.t 30), none⟩]) (.seq (.reg [M_ 31 8, M_ 6 31]) (.ret)))))))
def r161 : List ARV := [.tmp 6]
theorem b161 : Tryz.f161.body.bind (tr Tryz.prog 32) = some c161.bare := by kernel_rfl
theorem q161 : trRes Tryz.prog Tryz.f161.results.toList = some r161 := by kernel_rfl
theorem n161 : (Tryz.f161.name == "runtime.NumGoroutine") = false := by kernel_rfl

def c163 : ACode := .seq (.reg [J_ 4 0]) (.seq (.seq (.reg [M_ 7 0, I_ 8 (.nilchk (.t 7)), F_ 9 4 8, L_ 10 9, I_ 11 (.bin .neq false (.t 10) (K_ 0))]) (.cond (.t 11) (.seq (.reg [M_ 12 4, M_ 4 12]) (.ret)) (.skip))) (.seq (.reg [M_ 14 1, I_ 15 (.call (.t 14) []), M_ 13 15, I_ 16 (.extract (.t 13) 0), I_ 17 (.extract (.t 13) 1), I_ 18 (.extract (.t 13) 2), I_ 5 (.alloc [(.int .i64 0), (.slice [] .nil), (.slice [] .nil), (.slice [] .nil)]), ⟨none, .store 4 (.t 5) (.t 16), none⟩, M_ 4 17, M_ 6 18]) (.seq (.seq (.reg [M_ 19 6, I_ 20 (.bin .neq false (.t 19) (K_ 0))]) (.cond (.t 20) (.seq (.reg [M_ 21 0, M_ 22 6, I_ 23 (.nilchk (.t 21)), F_ 24 4 23, ⟨none, .store 1 (.t 24) (.t 22), none⟩]) (.seq (.reg [J_ 4 0]) (.ret))) (.skip))) (.seq (.reg [M_ 25 0, N_ 26 4 5, I_ 27 (.nilchk (.t 25)), F_ 28 0 27, ⟨none, .store 4 (.t 28) (.t 26), none⟩]) (.seq (.reg [M_ 29 4, M_ 4 29]) (.ret))))))
def r163 : List ARV := [.tmp 4]
theorem b163 : Tryz.f163.body.bind (tr Tryz.prog 30) = some c163.bare := by kernel_rfl
theorem q163 : trRes Tryz.prog Tryz.f163.results.toList = some r163 := by kernel_rfl
theorem n163 : (Tryz.f163.name == "runtime.NumGoroutine") = false := by kernel_rfl

def c164 : ACode := .seq (.reg [I_ 3 (.alloc [(.int .i64 0), (.slice [] .nil), (.slice [] .nil), (.slice [] .nil)]), J_ 4 0, J_ 5 0]) (.seq (.drw [L_ 6 0, I_ 7 (.nilchk (.t 6)), F_ 8 0 7, N_ 9 4 8, L_ 10 1, L_ 11 2, I_ 12 (.call (.c (.fn 165 [] [])) [.t 9, .t 10, .t 11]), I_ 13 (.extract (.t 12) 0), I_ 14 (.extract (.t 12) 1), I_ 15 (.extract (.t 12) 2), ⟨none, .store 4 (.t 3) (.t 13), none⟩, M_ 4 14, M_ 5 15] []) (.ret))
def r164 : List ARV := [.cell 3 true 4, .tmp 4, .tmp 5]
theorem b164 : Tryz.f164.body.bind (tr Tryz.prog 16) = some c164.bare := by kernel_rfl
theorem q164 : trRes Tryz.prog Tryz.f164.results.toList = some r164 := by kernel_rfl
theorem n164 : (Tryz.f164.name == "runtime.NumGoroutine") = false := by kernel_rfl

def c165 : ACode := .seq (.reg [I_ 3 (.boxI (.t 0)), I_ 6 (.alloc [(.int .i64 0), (.slice [] .nil), (.slice [] .nil), (.slice [] .nil)]), J_ 7 0, J_ 8 0]) (.seq (.reg [N_ 10 4 3, M_ 11 1, M_ 12 2, I_ 13 (.bslice 1 [.t 11, .t 12]), I_ 14 (.call (.c (.fn 145 [] [])) [.t 10, .t 13]), M_ 9 14]) (.seq (.reg [M_ 15 9, M_ 16 9, M_ 17 1, M_ 18 2, I_ 19 (.call (.c (.fn 214 [] [])) [.t 16, .t 17, .t 18]), I_ 20 (.call (.c (.fn 213 [] [])) [.t 15, .t 19]), I_ 21 (.extract (.t 20) 0), I_ 22 (.extract (.t 20) 1), I_ 23 (.extract (.t 20) 2), ⟨none, .store 4 (.t 6) (.t 21), none⟩, M_ 7 22, M_ 8 23]) (.ret)))
def r165 : List ARV := [.cell 6 true 4, .tmp 7, .tmp 8]
theorem b165 : Tryz.f165.body.bind (tr Tryz.prog 24) = some c165.bare := by kernel_rfl
theorem q165 : trRes Tryz.prog Tryz.f165.results.toList = some r165 := by kernel_rfl
theorem n165 : (Tryz.f165.name == "runtime.NumGoroutine") = false := by kernel_rfl

def c167 : ACode := .seq (.reg [I_ 3 (.alloc [(.int .i64 0), (.slice [] .nil), (.slice [] .nil), (.slice [] .nil)]), J_ 4 0, J_ 5 0]) (.seq (.drw [L_ 6 0, I_ 7 (.nilchk (.t 6)), F_ 8 0 7, N_ 9 4 8, L_ 10 1, L_ 11 2, I_ 12 (.call (.c (.fn 168 [] [])) [.t 9, .t 10, .t 11]), I_ 13 (.extract (.t 12) 0), I_ 14 (.extract (.t 12) 1), I_ 15 (.extract (.t 12) 2), ⟨none, .store 4 (.t 3) (.t 13), none⟩, M_ 4 14, M_ 5 15] []) (.ret))
def r167 : List ARV := [.cell 3 true 4, .tmp 4, .tmp 5]
theorem b167 : Tryz.f167.body.bind (tr Tryz.prog 16) = some c167.bare := by kernel_rfl
theorem q167 : trRes Tryz.prog Tryz.f167.results.toList = some r167 := by kernel_rfl
theorem n167 : (Tryz.f167.name == "runtime.NumGoroutine") = false := by kernel_rfl

def c168 : ACode := .seq (.reg [I_ 3 (.boxI (.t 0)), I_ 6 (.alloc [(.int .i64 0), (.slice [] .nil), (.slice [] .nil), (.slice [] .nil)]), J_ 7 0, J_ 8 0]) (.seq (.reg [N_ 12 4 3, M_ 13 1, M_ 14 2, I_ 15 (.bslice 1 [.t 13, .t 14]), I_ 16 (.call (.c (.fn 145 [] [])) [.t 12, .t 15]), M_ 9 16]) (.seq (.reg [M_ 17 9, M_ 18 1, M_ 19 2, I_ 20 (.bin .xor false (.t 19) (K_ 1)), I_ 21 (.call (.c (.fn 214 [] [])) [.t 17, .t 18, .t 20]), M_ 10 21]) (.seq (.reg [M_ 22 9, M_ 23 1, I_ 24 (.bin .xor false (.t 23) (K_ 1)), M_ 25 2, I_ 26 (.call (.c (.fn 214 [] [])) [.t 22, .t 24, .t 25]), M_ 11 26]) (.seq (.reg [M_ 27 9, M_ 28 9, M_ 29 10, M_ 30 11, I_ 31 (.call (.c (.fn 215 [] [])) [.t 28, .t 29, .t 30]), I_ 32 (.call (.c (.fn 213 [] [])) [.t 27, .t 31]), I_ 33 (.extract (.t 32) 0), I_ 34 (.extract (.t 32) 1), I_ 35 (.extract (.t 32) 2), ⟨none, .store 4 (.t 6) (.t 33), none⟩, M_ 7 34, M_ 8 35]) (.ret)))))
def r168 : List ARV := [.cell 6 true 4, .tmp 7, .tmp 8]
theorem b168 : Tryz.f168.body.bind (tr Tryz.prog 36) = some c168.bare := by kernel_rfl
theorem q168 : trRes Tryz.prog Tryz.f168.results.toList = some r168 := by kernel_rfl
theorem n168 : (Tryz.f168.name == "runtime.NumGoroutine") = false := by kernel_rfl

def c169 : ACode := .seq (.reg [I_ 3 (.boxI (.t 0)), I_ 6 (.alloc [(.int .i64 0), (.slice [] .nil), (.slice [] .nil), (.slice [] .nil)]), J_ 7 0, J_ 8 0]) (.seq (.reg [N_ 10 4 3, M_ 11 1, M_ 12 2, I_ 13 (.bslice 1 [.t 11, .t 12]), I_ 14 (.call (.c (.fn 216 [] [])) [.t 10, .t 13]), M_ 9 14]) (.seq (.seq (.reg [M_ 15 9, I_ 16 (.bin .neq false (.t 15) (K_ 0))]) (.cond (.t 16) (.seq (.reg [I_ 17 (.build [(.int .i64 0), (.slice [] .nil), (.slice [] .nil), (.slice [] .nil)] []), M_ 18 9, ⟨none, .store 4 (.t 6) (.t 17), none⟩, J_ 7 0, M_ 8 18]) (.ret)) (.skip))) (.seq (.reg [N_ 19 4 3, M_ 20 1, M_ 21 2, I_ 22 (.bin .xor false (.t 21) (K_ 1)), M_ 23 1, I_ 24 (.bin .xor false (.t 23) (K_ 1)), M_ 25 2, I_ 26 (.call (.c (.fn 217 [] [])) [.t 19, .t 20, .t 22, .t 24, .t 25]), I_ 27 (.extract (.t 26) 0), I_ 28 (.extract (.t 26) 1), I_ 29 (.extract (.t 26) 2), ⟨none, .store 4 (.t 6) (.t 27), none⟩, M_ 7 28, M_ 8 29]) (.ret))))
def r169 : List ARV := [.cell 6 true 4, .tmp 7, .tmp 8]
theorem b169 : Tryz.f169.body.bind (tr Tryz.prog 30) = some c169.bare := by kernel_rfl
theorem q169 : trRes Tryz.prog Tryz.f169.results.toList = some r169 := by kernel_rfl
theorem n169 : (Tryz.f169.name == "runtime.NumGoroutine") = false := by kernel_rfl

def c170 : ACode := .seq (.reg [I_ 5 (.boxI (.t 1)), J_ 8 0]) (.seq (.seq (.reg [M_ 9 0, I_ 10 (.nilchk (.t 9)), F_ 11 4 10, L_ 12 11, I_ 13 (.bin .eql false (.t 12) (K_ 0)), M_ 14 13, ⟨some 15, .mov (.t 3), some (14, true)⟩, ⟨some 16, .bin .neq false (.t 15) (K_ 0), some (14, true)⟩, I_ 17 (.pick (.t 14) (.t 16) (.c (.bool false)))]) (.cond (.t 17) (.reg [M_ 18 0, M_ 19 3, I_ 20 (.nilchk (.t 18)), F_ 21 4 20, ⟨none, .store 1 (.t 21) (.t 19), none⟩]) (.skip))) (.seq (.seq (.reg [M_ 22 0, I_ 23 (.nilchk (.t 22)), F_ 24 4 23, L_ 25 24, I_ 26 (.bin .neq false (.t 25) (K_ 0))]) (.cond (.t 26) (.seq (.reg [J_ 8 0]) (.ret)) (.skip))) (.seq (.reg [M_ 27 0, N_ 28 4 5, I_ 29 (.nilchk (.t 27)), F_ 30 0 29, ⟨none, .store 4 (.t 30) (.t 28), none⟩]) (.seq (.reg [M_ 31 2, M_ 8 31]) (.ret)))))
def r170 : List ARV := [.tmp 8]
theorem b170 : Tryz.f170.body.bind (tr Tryz.prog 32) = some c170.bare := by kernel_rfl
theorem q170 : trRes Tryz.prog Tryz.f170.results.toList = some r170 := by kernel_rfl
theorem n170 : (Tryz.f170.name == "runtime.NumGoroutine") = false := by kernel_rfl

def c172 : ACode := .seq (.reg [I_ 2 (.mov (.c (.int .u64 0)))]) (.seq (.block 0 (.seq (.reg [M_ 4 0, I_ 5 (.bin .leq false (.t 4) (K_ 0)), M_ 3 5]) (.cond (.t 3) (.seq (.reg [I_ 2 (.mov (.c (.int .u64 0)))]) (.ret)) (.seq (.reg [M_ 7 0, I_ 8 (.bin .lss false (.t 7) (K_ 64)), M_ 6 8]) (.cond (.t 6) (.seq (.reg [M_ 9 0, I_ 10 (.bin .shl false (.c (.int .u64 18446744073709551615)) (.t 9)), I_ 11 (.un .xor (.t 10)), M_ 2 11]) (.ret)) (.skip)))))) (.seq (.reg [I_ 2 (.mov (.c (.int .u64 18446744073709551615)))]) (.ret)))
def r172 : List ARV := [.tmp 2]
theorem b172 : Tryz.f172.body.bind (tr Tryz.prog 12) = some c172.bare := by kernel_rfl
theorem q172 : trRes Tryz.prog Tryz.f172.results.toList = some r172 := by kernel_rfl
theorem n172 : (Tryz.f172.name == "runtime.NumGoroutine") = false := by kernel_rfl

def c173 : ACode := .seq (.reg [I_ 3 (.alloc [(.int .i64 0), (.slice [] .nil), (.slice [] .nil), (.slice [] .nil)]), J_ 4 0, J_ 5 0]) (.seq (.drw [L_ 6 0, I_ 7 (.nilchk (.t 6)), F_ 8 0 7, N_ 9 4 8, L_ 10 1, L_ 11 2, I_ 12 (.call (.c (.fn 174 [] [])) [.t 9, .t 10, .t 11]), I_ 13 (.extract (.t 12) 0), I_ 14 (.extract (.t 12) 1), I_ 15 (.extract (.t 12) 2), ⟨none, .store 4 (.t 3) (.t 13), none⟩, M_ 4 14, M_ 5 15] []) (.ret))
def r173 : List ARV := [.cell 3 true 4, .tmp 4, .tmp 5]
theorem b173 : Tryz.f173.body.bind (tr Tryz.prog 16) = some c173.bare := by kernel_rfl
theorem q173 : trRes Tryz.prog Tryz.f173.results.toList = some r173 := by kernel_rfl
theorem n173 : (Tryz.f173.name == "runtime.NumGoroutine") = false := by kernel_rfl

def c174 : ACode := .seq (.reg [I_ 3 (.boxI (.t 0)), I_ 6 (.alloc [(.int .i64 0), (.slice [] .nil), (.slice [] .nil), (.slice [] .nil)]), J_ 7 0, J_ 8 0]) (.seq (.reg [N_ 10 4 3, M_ 11 1, M_ 12 2, I_ 13 (.bslice 1 [.t 11, .t 12]), I_ 14 (.call (.c (.fn 145 [] [])) [.t 10, .t 13]), M_ 9 14]) (.seq (.reg [M_ 15 9, M_ 16 9, M_ 17 1, M_ 18 2, I_ 19 (.call (.c (.fn 215 [] [])) [.t 16, .t 17, .t 18]), I_ 20 (.call (.c (.fn 213 [] [])) [.t 15, .t 19]), I_ 21 (.extract (.t 20) 0), I_ 22 (.extract (.t 20) 1), I_ 23 (.extract (.t 20) 2), ⟨none, .store 4 (.t 6) (.t 21), none⟩, M_ 7 22, M_ 8 23]) (.ret)))
def r174 : List ARV := [.cell 6 true 4, .tmp 7, .tmp 8]
theorem b174 : Tryz.f174.body.bind (tr Tryz.prog 24) = some c174.bare := by kernel_rfl
theorem q174 : trRes Tryz.prog Tryz.f174.results.toList = some r174 := by kernel_rfl
theorem n174 : (Tryz.f174.name == "runtime.NumGoroutine") = false := by kernel_rfl

def c175 : ACode := .seq (.reg [J_ 6 0]) (.seq (.reg [I_ 9 (.ext (.bsliceG 1 [])), M_ 7 9]) (.seq (.seq (.reg [J_ 8 0]) (.block 0 (.loop (.seq (.seq (.reg [M_ 10 8, M_ 11 1, I_ 12 (.len (.t 11)), I_ 13 (.bin .lss false (.t 10) (.t 12))]) (.cond (.t 13) (.skip) (.exit 0))) (.seq (.block 1 (.drw [M_ 16 7, M_ 17 0, M_ 18 1, M_ 19 8, I_ 20 (.idxS 1 (.t 18) (.t 19)), L_ 21 20, M_ 22 2, M_ 23 8, I_ 24 (.idxS 1 (.t 22) (.t 23)), L_ 25 24, I_ 26 (.call (.c (.fn 106 [] [])) [.t 17, .t 21, .t 25]), I_ 27 (.call (.c (.fn 105 [] [])) [.t 26]), I_ 28 (.bslice 1 [.t 27]), I_ 29 (.append 1 8 (.t 16) (.t 28)), M_ 7 29] [])) (.reg [M_ 14 8, I_ 15 (.bin .add false (.t 14) (K_ 1)), M_ 8 15])))))) (.seq (.reg [M_ 30 0, M_ 31 7, I_ 32 (.call (.c (.fn 104 [] [])) [.t 30, .t 31]), M_ 6 32]) (.ret))))
def r175 : List ARV := [.tmp 6]
theorem b175 : Tryz.f175.body.bind (tr Tryz.prog 33) = some c175.bare := by kernel_rfl
theorem q175 : trRes Tryz.prog Tryz.f175.results.toList = some r175 := by kernel_rfl
theorem n175 : (Tryz.f175.name == "runtime.NumGoroutine") = false := by kernel_rfl

def c176 : ACode := .seq (.reg [J_ 6 0]) (.seq (.reg [M_ 10 0, M_ 11 1, M_ 12 2, I_ 13 (.call (.c (.fn 101 [] [])) [.t 12]), I_ 14 (.call (.c (.fn 102 [] [])) [.t 10, .t 11, .t 13, K_ 1]), M_ 9 14, I_ 15 (.extract (.t 9) 0), I_ 16 (.extract (.t 9) 1), M_ 7 15, M_ 8 16]) (.seq (.reg [M_ 17 8, I_ 18 (.call (.c (.fn 105 [] [])) [.t 17]), M_ 6 18]) (.ret)))
def r176 : List ARV := [.tmp 6]
theorem b176 : Tryz.f176.body.bind (tr Tryz.prog 19) = some c176.bare := by kernel_rfl
theorem q176 : trRes Tryz.prog Tryz.f176.results.toList = some r176 := by kernel_rfl
theorem n176 : (Tryz.f176.name == "runtime.NumGoroutine") = false := by kernel_rfl

def c177 : ACode := .seq (.reg [I_ 3 (.boxI (.t 0)), I_ 6 (.alloc [(.int .i64 0), (.slice [] .nil), (.slice [] .nil), (.slice [] .nil)]), J_ 7 0, J_ 8 0]) (.seq (.reg [N_ 10 4 3, M_ 11 1, M_ 12 2, I_ 13 (.bslice 1 [.t 11, .t 12]), I_ 14 (.call (.c (.fn 216 [] [])) [.t 10, .t 13]), M_ 9 14]) (.seq (.seq (.reg [M_ 15 9, I_ 16 (.bin .neq false (.t 15) (K_ 0))]) (.cond (.t 16) (.seq (.reg [I_ 17 (.build [(.int .i64 0), (.slice [] .nil), (.slice [] .nil), (.slice [] .nil)] []), M_ 18 9, ⟨none, .store 4 (.t 6) (.t 17), none⟩, J_ 7 0, M_ 8 18]) (.ret)) (.skip))) (.seq (.reg [N_ 19 4 3, M_ 20 1, M_ 21 2, I_ 22 (.call (.c (.fn 220 [] [])) [.t 19, .t 20, .t 21]), I_ 23 (.extract (.t 22) 0), I_ 24 (.extract (.t 22) 1), I_ 25 (.extract (.t 22) 2), ⟨none, .store 4 (.t 6) (.t 23), none⟩, M_ 7 24, M_ 8 25]) (.ret))))
def r177 : List ARV := [.cell 6 true 4, .tmp 7, .tmp 8]
theorem b177 : Tryz.f177.body.bind (tr Tryz.prog 26) = some c177.bare := by kernel_rfl
theorem q177 : trRes Tryz.prog Tryz.f177.results.toList = some r177 := by kernel_rfl
theorem n177 : (Tryz.f177.name == "runtime.NumGoroutine") = false := by kernel_rfl

def c178 : ACode := .seq (.reg [I_ 3 (.boxI (.t 0)), I_ 6 (.alloc [(.int .i64 0), (.slice [] .nil), (.slice [] .nil), (.slice [] .nil)]), J_ 7 0, J_ 8 0]) (.seq (.reg [N_ 10 4 3, M_ 11 1, M_ 12 2, I_ 13 (.bslice 1 [.t 11, .t 12]), I_ 14 (.call (.c (.fn 216 [] [])) [.t 10, .t 13]), M_ 9 14]) (.seq (.seq (.reg [M_ 15 9, I_ 16 (.bin .neq false (.t 15) (K_ 0))]) (.cond (.t 16) (.seq (.reg [I_ 17 (.build [(.int .i64 0), (.slice [] .nil), (.slice [] .nil), (.slice [] .nil)] []), M_ 18 9, ⟨none, .store 4 (.t 6) (.t 17), none⟩, J_ 7 0, M_ 8 18]) (.ret)) (.skip))) (.seq (.reg [N_ 19 4 3, M_ 20 1, M_ 21 2, I_ 22 (.call (.c (.fn 221 [] [])) [.t 19, .t 20, .t 21]), I_ 23 (.extract (.t 22) 0), I_ 24 (.extract (.t 22) 1), I_ 25 (.extract (.t 22) 2), ⟨none, .store 4 (.t 6) (.t 23), none⟩, M_ 7 24, M_ 8 25]) (.ret))))
def r178 : List ARV := [.cell 6 true 4, .tmp 7, .tmp 8]
theorem b178 : Tryz.f178.body.bind (tr Tryz.prog 26) = some c178.bare := by kernel_rfl
theorem q178 : trRes Tryz.prog Tryz.f178.results.toList = some r178 := by kernel_rfl
theorem n178 : (Tryz.f178.name == "runtime.NumGoroutine") = false := by kernel_rfl

def c179 : ACode := .seq (.reg [I_ 4 (.alloc [(.int .i64 0), (.slice [] .nil), (.slice [] .nil), (.slice [] .nil)]), J_ 5 0, J_ 6 0]) (.seq (.drw [L_ 7 0, I_ 8 (.nilchk (.t 7)), F_ 9 0 8, N_ 10 4 9, L_ 11 1, L_ 12 2, L_ 13 3, I_ 14 (.call (.c (.fn 180 [] [])) [.t 10, .t 11, .t 12, .t 13]), I_ 15 (.extract (.t 14) 0), I_ 16 (.extract (.t 14) 1), I_ 17 (.extract (.t 14) 2), ⟨none, .store 4 (.t 4) (.t 15), none⟩, M_ 5 16, M_ 6 17] []) (.ret))
def r179 : List ARV := [.cell 4 true 4, .tmp 5, .tmp 6]
theorem b179 : Tryz.f179.body.bind (tr Tryz.prog 18) = some c179.bare := by kernel_rfl
theorem q179 : trRes Tryz.prog Tryz.f179.results.toList = some r179 := by kernel_rfl
theorem n179 : (Tryz.f179.name == "runtime.NumGoroutine") = false := by kernel_rfl

def c180 : ACode := .seq (.reg [I_ 4 (.boxI (.t 0)), I_ 8 (.alloc [(.int .i64 0), (.slice [] .nil), (.slice [] .nil), (.slice [] .nil)]), J_ 9 0, J_ 10 0]) (.seq (.reg [N_ 14 4 4, M_ 15 1, M_ 16 2, M_ 17 3, I_ 18 (.bslice 1 [.t 15, .t 16, .t 17]), I_ 19 (.call (.c (.fn 145 [] [])) [.t 14, .t 18]), M_ 11 19]) (.seq (.reg [M_ 20 11, M_ 21 1, M_ 22 2, I_ 23 (.call (.c (.fn 214 [] [])) [.t 20, .t 21, .t 22]), M_ 12 23]) (.seq (.reg [M_ 24 11, M_ 25 1, I_ 26 (.bin .xor false (.t 25) (K_ 1)), M_ 27 3, I_ 28 (.call (.c (.fn 214 [] [])) [.t 24, .t 26, .t 27]), M_ 13 28]) (.seq (.reg [M_ 29 11, M_ 30 11, M_ 31 12, M_ 32 13, I_ 33 (.call (.c (.fn 215 [] [])) [.t 30, .t 31, .t 32]), I_ 34 (.call (.c (.fn 213 [] [])) [.t 29, .t 33]), I_ 35 (.extract (.t 34) 0), I_ 36 (.extract (.t 34) 1), I_ 37 (.extract (.t 34) 2), ⟨none, .store 4 (.t 8) (.t 35), none⟩, M_ 9 36, M_ 10 37]) (.ret)))))
def r180 : List ARV := [.cell 8 true 4, .tmp 9, .tmp 10]
theorem b180 : Tryz.f180.body.bind (tr Tryz.prog 38) = some c180.bare := by kernel_rfl
theorem q180 : trRes Tryz.prog Tryz.f180.results.toList = some r180 := by kernel_rfl
theorem n180 : (Tryz.f180.name == "runtime.NumGoroutine") = false := by kernel_rfl

def c181 : ACode := .seq (.reg [I_ 4 (.boxI (.t 0)), I_ 8 (.alloc [(.int .i64 0), (.slice [] .nil), (.slice [] .nil), (.slice [] .nil)]), J_ 9 0, J_ 10 0]) (.seq (.reg [N_ 12 4 4, M_ 13 1, M_ 14 2, M_ 15 3, I_ 16 (.bslice 1 [.t 13, .t 14, .t 15]), I_ 17 (.call (.c (.fn 216 [] [])) [.t 12, .t 16]), M_ 11 17]) (.seq (.seq (.reg [M_ 18 11, I_ 19 (.bin .neq false (.t 18) (K_ 0))]) (.cond (.t 19) (.seq (.reg [I_ 20 (.build [(.int .i64 0), (.slice [] .nil), (.slice [] .nil), (.slice [] .nil)] []), M_ 21 11, ⟨none, .store 4 (.t 8) (.t 20), none⟩, J_ 9 0, M_ 10 21]) (.ret)) (.skip))) (.seq (.reg [N_ 22 4 4, M_ 23 1, M_ 24 2, M_ 25 1, I_ 26 (.bin .xor false (.t 25) (K_ 1)), M_ 27 3, I_ 28 (.call (.c (.fn 217 [] [])) [.t 22, .t 23, .t 24, .t 26, .t 27]), I_ 29 (.extract (.t 28) 0), I_ 30 (.extract (.t 28) 1), I_ 31 (.extract (.t 28) 2), ⟨none, .store 4 (.t 8) (.t 29), none⟩, M_ 9 30, M_ 10 31]) (.ret))))
def r181 : List ARV := [.cell 8 true 4, .tmp 9, .tmp 10]
theorem b181 : Tryz.f181.body.bind (tr Tryz.prog 32) = some c181.bare := by kernel_rfl
theorem q181 : trRes Tryz.prog Tryz.f181.results.toList = some r181 := by kernel_rfl
theorem n181 : (Tryz.f181.name == "runtime.NumGoroutine") = false := by kernel_rfl

def c200 : ACode := .seq (.reg [I_ 1 (.box (.t 0)), J_ 2 0]) (.seq (.reg [I_ 7 (.mkfn 231 [] [.t 1]), M_ 3 7]) (.seq (.reg [I_ 8 (.mkfn 232 [] [.t 1]), M_ 4 8]) (.seq (.block 0 (.seq (.reg [L_ 10 1, I_ 11 (.nilchk (.t 10)), F_ 12 0 11, F_ 13 0 12, L_ 14 13, I_ 15 (.bin .lss false (.t 14) (K_ 0)), M_ 9 15]) (.cond (.t 9) (.seq (.reg [J_ 2 1]) (.ret)) (.seq (.seq (.reg [L_ 17 1, I_ 18 (.nilchk (.t 17)), F_ 19 0 18, F_ 20 0 19, L_ 21 20, I_ 22 (.bin .gtr false (.t 21) (K_ 65536)), M_ 16 22]) (.cond (.t 16) (.skip) (.seq (.reg [L_ 23 1, I_ 24 (.call (.c (.fn 233 [] [])) [.t 23]), I_ 25 (.bin .gtr false (.t 24) (K_ 65536)), M_ 16 25]) (.cond (.t 16) (.skip) (.reg [L_ 26 1, I_ 27 (.nilchk (.t 26)), F_ 28 0 27, F_ 29 3 28, L_ 30 29, I_ 31 (.len (.t 30)), I_ 32 (.bin .gtr false (.t 31) (K_ 65536)), M_ 16 32]))))) (.cond (.t 16) (.seq (.reg [J_ 2 2]) (.ret)) (.seq (.seq (.reg [L_ 34 1, I_ 35 (.nilchk (.t 34)), F_ 36 0 35, F_ 37 1 36, L_ 38 37, M_ 39 3, I_ 40 (.call (.c (.fn 234 [] [])) [.t 38, .t 39]), M_ 33 40]) (.cond (.t 33) (.skip) (.reg [L_ 41 1, I_ 42 (.nilchk (.t 41)), F_ 43 0 42, F_ 44 3 43, L_ 45 44, M_ 46 4, I_ 47 (.call (.c (.fn 73 [] [])) [.t 45, .t 46]), M_ 33 47]))) (.cond (.t 33) (.seq (.reg [J_ 2 1]) (.ret)) (.skip)))))))) (.seq (.seq (.reg [L_ 48 1, I_ 49 (.nilchk (.t 48)), F_ 50 0 49, F_ 51 2 50, L_ 52 51, I_ 53 (.len (.t 52)), J_ 54 0]) (.block 1 (.loop (.seq (.reg [I_ 55 (.bin .lss false (.t 54) (.t 53))]) (.seq (.cond (.t 55) (.skip) (.exit 1)) (.seq (.block 2 (.seq (.reg [M_ 56 54, I_ 57 (.idxS 2 (.t 52) (.t 54)), N_ 58 2 57, I_ 6 (.alloc [(.int .i64 0), (.int .i64 0)]), M_ 5 56, ⟨none, .store 2 (.t 6) (.t 58), none⟩]) (.seq (.drw [I_ 59 (.idxR 1 2 (.t 6) (K_ 0)), L_ 60 59, I_ 61 (.idxR 1 2 (.t 6) (K_ 1)), L_ 62 61, I_ 63 (.min [.t 60, .t 62]), I_ 64 (.bin .lss false (.t 63) (K_ 0)), M_ 65 64, ⟨some 66, .idxR 1 2 (.t 6) (K_ 0), some (65, false)⟩, ⟨some 67, .load false 1 (.t 66), some (65, false)⟩, ⟨some 68, .idxR 1 2 (.t 6) (K_ 1), some (65, false)⟩, ⟨some 69, .load false 1 (.t 68), some (65, false)⟩, ⟨some 70, .max [.t 67, .t 69], some (65, false)⟩, ⟨some 71, .load false 1 (.t 1), some (65, false)⟩, ⟨some 72, .call (.c (.fn 235 [] [])) [.t 71], some (65, false)⟩, ⟨some 73, .mov (.t 5), some (65, false)⟩, ⟨some 74, .bin .add false (.t 72) (.t 73), some (65, false)⟩, ⟨some 75, .bin .mul false (K_ 2) (.t 74), some (65, false)⟩, ⟨some 76, .bin .geq false (.t 70) (.t 75), some (65, false)⟩, I_ 77 (.pick (.t 65) (.c (.bool true)) (.t 76))] [(8, 13), (10, 13)]) (.cond (.t 77) (.seq (.reg [J_ 2 1]) (.ret)) (.skip))))) (.reg [I_ 78 (.bin .add false (.t 54) (K_ 1)), M_ 54 78]))))))) (.seq (.reg [J_ 2 0]) (.ret))))))
def r200 : List ARV := [.tmp 2]
theorem b200 : Tryz.f200.body.bind (tr Tryz.prog 79) = some c200.bare := by kernel_rfl
theorem q200 : trRes Tryz.prog Tryz.f200.results.toList = some r200 := by kernel_rfl
theorem n200 : (Tryz.f200.name == "runtime.NumGoroutine") = false := by kernel_rfl

def c201 : ACode := .seq (.reg [I_ 4 (.mov (.c (.bool false)))]) (.seq (.reg [M_ 5 1, I_ 6 (.bin .geq false (.t 5) (K_ 0)), M_ 7 6, ⟨some 8, .mov (.t 1), some (7, true)⟩, ⟨some 9, .bin .quo false (.t 8) (K_ 2), some (7, true)⟩, ⟨some 10, .mov (.t 0), some (7, true)⟩, ⟨some 11, .call (.c (.fn 233 [] [])) [.t 10], some (7, true)⟩, ⟨some 12, .bin .leq false (.t 9) (.t 11), some (7, true)⟩, I_ 13 (.pick (.t 7) (.t 12) (.c (.bool false))), M_ 4 13]) (.ret))
def r201 : List ARV := [.tmp 4]
theorem b201 : Tryz.f201.body.bind (tr Tryz.prog 14) = some c201.bare := by kernel_rfl
theorem q201 : trRes Tryz.prog Tryz.f201.results.toList = some r201 := by kernel_rfl
theorem n201 : (Tryz.f201.name == "runtime.NumGoroutine") = false := by kernel_rfl

def c213 : ACode := .seq (.reg [I_ 4 (.alloc [(.int .i64 0), (.slice [] .nil), (.slice [] .nil), (.slice [] .nil)]), J_ 5 0, J_ 6 0]) (.seq (.seq (.reg [M_ 7 0, I_ 8 (.nilchk (.t 7)), F_ 9 4 8, L_ 10 9, I_ 11 (.bin .neq false (.t 10) (K_ 0))]) (.cond (.t 11) (.seq (.drw [I_ 12 (.build [(.int .i64 0), (.slice [] .nil), (.slice [] .nil), (.slice [] .nil)] []), M_ 13 0, I_ 14 (.nilchk (.t 13)), F_ 15 4 14, L_ 16 15, ⟨none, .store 4 (.t 4) (.t 12), none⟩, J_ 5 0, M_ 6 16] [(4, 5)]) (.ret)) (.skip))) (.seq (.reg [M_ 17 0, I_ 18 (.nilchk (.t 17)), F_ 19 0 18, N_ 20 4 19, M_ 21 1, ⟨none, .store 4 (.t 4) (.t 20), none⟩, M_ 5 21, J_ 6 0]) (.ret)))
def r213 : List ARV := [.cell 4 true 4, .tmp 5, .tmp 6]
theorem b213 : Tryz.f213.body.bind (tr Tryz.prog 22) = some c213.bare := by kernel_rfl
theorem q213 : trRes Tryz.prog Tryz.f213.results.toList = some r213 := by kernel_rfl
theorem n213 : (Tryz.f213.name == "runtime.NumGoroutine") = false := by kernel_rfl

def c214 : ACode := .seq (.reg [I_ 4 (.box (.t 1)), I_ 5 (.box (.t 2)), J_ 6 0]) (.seq (.drw [L_ 8 4, L_ 9 5, I_ 10 (.min [.t 8, .t 9]), L_ 11 4, L_ 12 5, I_ 13 (.max [.t 11, .t 12]), ⟨none, .store 1 (.t 4) (.t 10), none⟩, ⟨none, .store 1 (.t 5) (.t 13), none⟩] [(4, 6)]) (.seq (.block 0 (.seq (.seq (.reg [M_ 15 0, I_ 16 (.nilchk (.t 15)), F_ 17 4 16, L_ 18 17, I_ 19 (.bin .neq false (.t 18) (K_ 0)), M_ 14 19]) (.cond (.t 14) (.skip) (.seq (.reg [L_ 20 4, I_ 21 (.bin .eql false (.t 20) (K_ 0)), M_ 14 21]) (.cond (.t 14) (.skip) (.reg [L_ 22 4, L_ 23 5, I_ 24 (.bin .xor false (.t 23) (K_ 1)), I_ 25 (.bin .eql false (.t 22) (.t 24)), M_ 14 25]))))) (.cond (.t 14) (.seq (.reg [J_ 6 0]) (.ret)) (.seq (.seq (.reg [L_ 27 4, I_ 28 (.bin .eql false (.t 27) (K_ 1)), M_ 26 28]) (.cond (.t 26) (.skip) (.reg [L_ 29 4, L_ 30 5, I_ 31 (.bin .eql false (.t 29) (.t 30)), M_ 26 31]))) (.cond (.t 26) (.seq (.reg [L_ 32 5, M_ 6 32]) (.ret)) (.skip)))))) (.seq (.reg [M_ 33 0, I_ 34 (.nilchk (.t 33)), F_ 35 0 34, F_ 36 2 35, L_ 37 36, I_ 38 (.mkfn 241 [] [.t 4, .t 5]), I_ 39 (.call (.c (.fn 240 [] [])) [.t 37, .t 38]), M_ 7 39]) (.seq (.seq (.reg [M_ 40 7, I_ 41 (.bin .geq false (.t 40) (K_ 0))]) (.cond (.t 41) (.seq (.reg [M_ 42 0, I_ 43 (.call (.c (.fn 235 [] [])) [.t 42]), M_ 44 7, I_ 45 (.bin .add false (.t 43) (.t 44)), I_ 46 (.bin .mul false (K_ 2) (.t 45)), M_ 6 46]) (.ret)) (.skip))) (.seq (.seq (.reg [M_ 47 0, I_ 48 (.call (.c (.fn 233 [] [])) [.t 47]), I_ 49 (.bin .eql false (.t 48) (K_ 65536))]) (.cond (.t 49) (.seq (.reg [M_ 50 0, I_ 51 (.nilchk (.t 50)), F_ 52 4 51, ⟨none, .store 1 (.t 52) (K_ 2), none⟩]) (.seq (.reg [J_ 6 0]) (.ret))) (.skip))) (.seq (.drw [M_ 53 0, M_ 54 0, I_ 55 (.nilchk (.t 54)), F_ 56 0 55, F_ 57 2 56, L_ 58 57, I_ 59 (.call (.c (.fn 242 [] [])) [.t 58]), L_ 60 4, L_ 61 5, I_ 62 (.build [(.int .i64 0), (.int .i64 0)] [(0, 1, (.t 60)), (1, 1, (.t 61))]), I_ 63 (.bslice 2 [.t 62]), I_ 64 (.append 2 16 (.t 59) (.t 63)), I_ 65 (.nilchk (.t 53)), F_ 66 0 65, F_ 67 2 66, ⟨none, .store 1 (.t 67) (.t 64), none⟩] [(6, 7), (6, 8)]) (.seq (.reg [M_ 68 0, I_ 69 (.call (.c (.fn 233 [] [])) [.t 68]), I_ 70 (.bin .mul false (K_ 2) (.t 69)), M_ 6 70]) (.ret))))))))
def r214 : List ARV := [.tmp 6]
theorem b214 : Tryz.f214.body.bind (tr Tryz.prog 71) = some c214.bare := by kernel_rfl
theorem q214 : trRes Tryz.prog Tryz.f214.results.toList = some r214 := by kernel_rfl
theorem n214 : (Tryz.f214.name == "runtime.NumGoroutine") = false := by kernel_rfl

def c215 : ACode := .seq (.reg [J_ 6 0]) (.seq (.reg [M_ 7 0, M_ 8 1, I_ 9 (.bin .xor false (.t 8) (K_ 1)), M_ 10 2, I_ 11 (.bin .xor false (.t 10) (K_ 1)), I_ 12 (.call (.c (.fn 214 [] [])) [.t 7, .t 9, .t 11]), I_ 13 (.bin .xor false (.t 12) (K_ 1)), M_ 6 13]) (.ret))
def r215 : List ARV := [.tmp 6]
theorem b215 : Tryz.f215.body.bind (tr Tryz.prog 14) = some c215.bare := by kernel_rfl
theorem q215 : trRes Tryz.prog Tryz.f215.results.toList = some r215 := by kernel_rfl
theorem n215 : (Tryz.f215.name == "runtime.NumGoroutine") = false := by kernel_rfl

def c216 : ACode := .seq (.reg [I_ 2 (.boxI (.t 0)), J_ 4 0]) (.seq (.reg [N_ 7 4 2, I_ 8 (.call (.c (.fn 40 [] [])) [.t 7]), M_ 5 8]) (.seq (.seq (.reg [M_ 9 5, I_ 10 (.bin .neq false (.t 9) (K_ 0))]) (.cond (.t 10) (.seq (.reg [M_ 11 5, M_ 4 11]) (.ret)) (.skip))) (.seq (.seq (.reg [J_ 6 0]) (.block 0 (.loop (.seq (.seq (.reg [M_ 12 6, M_ 13 1, I_ 14 (.len (.t 13)), I_ 15 (.bin .lss false (.t 12) (.t 14))]) (.cond (.t 15) (.skip) (.exit 0))) (.seq (.block 1 (.seq (.drw [N_ 18 4 2, I_ 19 (.call (.c (.fn 81 [] [])) [.t 18]), M_ 20 1, M_ 21 6, I_ 22 (.idxS 1 (.t 20) (.t 21)), L_ 23 22, I_ 24 (.call (.c (.fn 80 [] [])) [.t 19, .t 23]), I_ 25 (.un .not (.t 24))] [(1, 5)]) (.cond (.t 25) (.seq (.reg [J_ 4 1]) (.ret)) (.skip)))) (.reg [M_ 16 6, I_ 17 (.bin .add false (.t 16) (K_ 1)), M_ 6 17])))))) (.seq (.reg [J_ 4 0]) (.ret)))))
def r216 : List ARV := [.tmp 4]
theorem b216 : Tryz.f216.body.bind (tr Tryz.prog 26) = some c216.bare := by kernel_rfl
theorem q216 : trRes Tryz.prog Tryz.f216.results.toList = some r216 := by kernel_rfl
theorem n216 : (Tryz.f216.name == "runtime.NumGoroutine") = false := by kernel_rfl

def c217 : ACode := .seq (.reg [I_ 5 (.boxI (.t 0)), I_ 10 (.alloc [(.int .i64 0), (.slice [] .nil), (.slice [] .nil), (.slice [] .nil)]), J_ 11 0, J_ 12 0]) (.seq (.reg [N_ 20 4 5, M_ 21 1, M_ 22 2, I_ 23 (.call (.c (.fn 220 [] [])) [.t 20, .t 21, .t 22]), M_ 19 23, I_ 24 (.extract (.t 19) 0), I_ 25 (.extract (.t 19) 1), I_ 26 (.extract (.t 19) 2), I_ 13 (.alloc [(.int .i64 0), (.slice [] .nil), (.slice [] .nil), (.slice [] .nil)]), ⟨none, .store 4 (.t 13) (.t 24), none⟩, M_ 14 25, M_ 15 26]) (.seq (.seq (.reg [M_ 27 15, I_ 28 (.bin .neq false (.t 27) (K_ 0))]) (.cond (.t 28) (.seq (.reg [I_ 29 (.build [(.int .i64 0), (.slice [] .nil), (.slice [] .nil), (.slice [] .nil)] []), M_ 30 15, ⟨none, .store 4 (.t 10) (.t 29), none⟩, J_ 11 0, M_ 12 30]) (.ret)) (.skip))) (.seq (.reg [N_ 32 4 13, M_ 33 3, M_ 34 4, I_ 35 (.call (.c (.fn 220 [] [])) [.t 32, .t 33, .t 34]), M_ 31 35, I_ 36 (.extract (.t 31) 0), I_ 37 (.extract (.t 31) 1), I_ 38 (.extract (.t 31) 2), I_ 16 (.alloc [(.int .i64 0), (.slice [] .nil), (.slice [] .nil), (.slice [] .nil)]), ⟨none, .store 4 (.t 16) (.t 36), none⟩, M_ 17 37, M_ 18 38]) (.seq (.seq (.reg [M_ 39 18, I_ 40 (.bin .neq false (.t 39) (K_ 0))]) (.cond (.t 40) (.seq (.reg [I_ 41 (.build [(.int .i64 0), (.slice [] .nil), (.slice [] .nil), (.slice [] .nil)] []), M_ 42 18, ⟨none, .store 4 (.t 10) (.t 41), none⟩, J_ 11 0, M_ 12 42]) (.ret)) (.skip))) (.seq (.reg [N_ 43 4 16, M_ 44 14, M_ 45 17, I_ 46 (.call (.c (.fn 221 [] [])) [.t 43, .t 44, .t 45]), I_ 47 (.extract (.t 46) 0), I_ 48 (.extract (.t 46) 1), I_ 49 (.extract (.t 46) 2), ⟨none, .store 4 (.t 10) (.t 47), none⟩, M_ 11 48, M_ 12 49]) (.ret))))))
def r217 : List ARV := [.cell 10 true 4, .tmp 11, .tmp 12]
theorem b217 : Tryz.f217.body.bind (tr Tryz.prog 50) = some c217.bare := by kernel_rfl
theorem q217 : trRes Tryz.prog Tryz.f217.results.toList = some r217 := by kernel_rfl
theorem n217 : (Tryz.f217.name == "runtime.NumGoroutine") = false := by kernel_rfl

def c220 : ACode := .seq (.reg [I_ 3 (.boxI (.t 0)), I_ 6 (.alloc [(.int .i64 0), (.slice [] .nil), (.slice [] .nil), (.slice [] .nil)]), J_ 7 0, J_ 8 0]) (.seq (.reg [M_ 14 1, M_ 15 2, I_ 16 (.min [.t 14, .t 15]), M_ 9 16]) (.seq (.reg [M_ 17 1, M_ 18 2, I_ 19 (.max [.t 17, .t 18]), M_ 10 19]) (.seq (.seq (.reg [M_ 20 9, I_ 21 (.bin .eql false (.t 20) (K_ 0)), M_ 22 21, ⟨some 23, .mov (.t 9), some (22, false)⟩, ⟨some 24, .mov (.t 10), some (22, false)⟩, ⟨some 25, .bin .xor false (.t 23) (.t 24), some (22, false)⟩, ⟨some 26, .bin .eql false (.t 25) (K_ 1), some (22, false)⟩, I_ 27 (.pick (.t 22) (.c (.bool true)) (.t 26))]) (.cond (.t 27) (.seq (.reg [N_ 28 4 3, ⟨none, .store 4 (.t 6) (.t 28), none⟩, J_ 7 0, J_ 8 0]) (.ret)) (.skip))) (.seq (.seq (.reg [M_ 29 9, I_ 30 (.bin .eql false (.t 29) (K_ 1)), M_ 31 30, ⟨some 32, .mov (.t 9), some (31, false)⟩, ⟨some 33, .mov (.t 10), some (31, false)⟩, ⟨some 34, .bin .eql false (.t 32) (.t 33), some (31, false)⟩, I_ 35 (.pick (.t 31) (.c (.bool true)) (.t 34))]) (.cond (.t 35) (.seq (.reg [N_ 36 4 3, M_ 37 10, ⟨none, .store 4 (.t 6) (.t 36), none⟩, M_ 7 37, J_ 8 0]) (.ret)) (.skip))) (.seq (.reg [F_ 38 0 3, L_ 39 38, I_ 40 (.bin .add false (K_ 1) (.t 39)), F_ 41 1 3, L_ 42 41, I_ 43 (.len (.t 42)), I_ 44 (.bin .add false (.t 40) (.t 43)), M_ 11 44]) (.seq (.reg [N_ 45 4 3, M_ 46 9, M_ 47 10, I_ 48 (.call (.c (.fn 243 [] [])) [.t 45, .t 46, .t 47]), M_ 12 48]) (.seq (.seq (.reg [M_ 49 12, I_ 50 (.bin .geq false (.t 49) (K_ 0))]) (.cond (.t 50) (.seq (.reg [N_ 51 4 3, M_ 52 11, M_ 53 12, I_ 54 (.bin .add false (.t 52) (.t 53)), I_ 55 (.bin .mul false (K_ 2) (.t 54)), ⟨none, .store 4 (.t 6) (.t 51), none⟩, M_ 7 55, J_ 8 0]) (.ret)) (.skip))) (.seq (.seq (.reg [F_ 56 0 3, L_ 57 56, F_ 58 1 3, L_ 59 58, I_ 60 (.len (.t 59)), I_ 61 (.bin .add false (.t 57) (.t 60)), F_ 62 2 3, L_ 63 62, I_ 64 (.len (.t 63)), I_ 65 (.bin .add false (.t 61) (.t 64)), I_ 66 (.bin .geq false (.t 65) (K_ 65536))]) (.cond (.t 66) (.seq (.reg [I_ 67 (.build [(.int .i64 0), (.slice [] .nil), (.slice [] .nil), (.slice [] .nil)] []), ⟨none, .store 4 (.t 6) (.t 67), none⟩, J_ 7 0, J_ 8 2]) (.ret)) (.skip))) (.seq (.reg [N_ 68 4 3, I_ 13 (.alloc [(.int .i64 0), (.slice [] .nil), (.slice [] .nil), (.slice [] .nil)]), ⟨none, .store 4 (.t 13) (.t 68), none⟩]) (.seq (.reg [I_ 69 (.bslice 2 []), F_ 70 2 3, L_ 71 70, I_ 72 (.append 2 16 (.t 69) (.t 71)), F_ 73 2 13, ⟨none, .store 1 (.t 73) (.t 72), none⟩]) (.seq (.reg [F_ 74 2 13, L_ 75 74, M_ 76 9, M_ 77 10, I_ 78 (.build [(.int .i64 0), (.int .i64 0)] [(0, 1, (.t 76)), (1, 1, (.t 77))]), I_ 79 (.bslice 2 [.t 78]), I_ 80 (.append 2 16 (.t 75) (.t 79)), F_ 81 2 13, ⟨none, .store 1 (.t 81) (.t 80), none⟩]) (.seq (.drw [N_ 82 4 13, N_ 83 4 13, I_ 84 (.call (.c (.fn 81 [] [])) [.t 83]), I_ 85 (.bin .sub false (.t 84) (K_ 1)), I_ 86 (.bin .mul false (K_ 2) (.t 85)), ⟨none, .store 4 (.t 6) (.t 82), none⟩, M_ 7 86, J_ 8 0] [(0, 2)]) (.ret)))))))))))))
def r220 : List ARV := [.cell 6 true 4, .tmp 7, .tmp 8]
theorem b220 : Tryz.f220.body.bind (tr Tryz.prog 87) = some c220.bare := by kernel_rfl
theorem q220 : trRes Tryz.prog Tryz.f220.results.toList = some r220 := by kernel_rfl
theorem n220 : (Tryz.f220.name == "runtime.NumGoroutine") = false := by kernel_rfl

end Go.Proofs.YtbbihmmobfmadaaGreat

namespace Go.Proofs.YtbbihmmobfmadaaGreat
open Abs
def c221 : ACode := .seq (.reg [I_ 3 (.boxI (.t 0)), I_ 6 (.alloc [(.int .i64 0), (.slice [] .nil), (.slice [] .nil), (.slice [] .nil)]), J_ 7 0, J_ 8 0]) (.seq (.reg [N_ 13 4 3, M_ 14 1, I_ 15 (.bin .xor false (.t 14) (K_ 1)), M_ 16 2, I_ 17 (.bin .xor false (.t 16) (K_ 1)), I_ 18 (.call (.c (.fn 220 [] [])) [.t 13, .t 15, .t 17]), M_ 12 18, I_ 19 (.extract (.t 12) 0), I_ 20 (.extract (.t 12) 1), I_ 21 (.extract (.t 12) 2), I_ 9 (.alloc [(.int .i64 0), (.slice [] .nil), (.slice [] .nil), (.slice [] .nil)]), ⟨none, .store 4 (.t 9) (.t 19), none⟩, M_ 10 20, M_ 11 21]) (.seq (.seq (.reg [M_ 22 11, I_ 23 (.bin .neq false (.t 22) (K_ 0))]) (.cond (.t 23) (.seq (.reg [I_ 24 (.build [(.int .i64 0), (.slice [] .nil), (.slice [] .nil), (.slice [] .nil)] []), M_ 25 11, ⟨none, .store 4 (.t 6) (.t 24), none⟩, J_ 7 0, M_ 8 25]) (.ret)) (.skip))) (.seq (.reg [N_ 26 4 9, M_ 27 10, I_ 28 (.bin .xor false (.t 27) (K_ 1)), ⟨none, .store 4 (.t 6) (.t 26), none⟩, M_ 7 28, J_ 8 0]) (.ret))))
def r221 : List ARV := [.cell 6 true 4, .tmp 7, .tmp 8]
theorem b221 : Tryz.f221.body.bind (tr Tryz.prog 29) = some c221.bare := by kernel_rfl
theorem q221 : trRes Tryz.prog Tryz.f221.results.toList = some r221 := by kernel_rfl
theorem n221 : (Tryz.f221.name == "runtime.NumGoroutine") = false := by kernel_rfl

def c231 : ACode := .seq (.reg [I_ 2 (.boxI (.t 0)), I_ 3 (.mov (.c (.bool false)))]) (.seq (.reg [L_ 4 1, F_ 5 0 2, L_ 6 5, I_ 7 (.call (.c (.fn 201 [] [])) [.t 4, .t 6]), I_ 8 (.un .not (.t 7)), M_ 3 8]) (.ret))
def r231 : List ARV := [.tmp 3]
theorem b231 : Tryz.f231.body.bind (tr Tryz.prog 9) = some c231.bare := by kernel_rfl
theorem q231 : trRes Tryz.prog Tryz.f231.results.toList = some r231 := by kernel_rfl
theorem n231 : (Tryz.f231.name == "runtime.NumGoroutine") = false := by kernel_rfl

def c232 : ACode := .seq (.reg [I_ 3 (.mov (.c (.bool false)))]) (.seq (.reg [L_ 4 1, M_ 5 0, I_ 6 (.call (.c (.fn 201 [] [])) [.t 4, .t 5]), I_ 7 (.un .not (.t 6)), M_ 3 7]) (.ret))
def r232 : List ARV := [.tmp 3]
theorem b232 : Tryz.f232.body.bind (tr Tryz.prog 8) = some c232.bare := by kernel_rfl
theorem q232 : trRes Tryz.prog Tryz.f232.results.toList = some r232 := by kernel_rfl
theorem n232 : (Tryz.f232.name == "runtime.NumGoroutine") = false := by kernel_rfl

def c233 : ACode := .seq (.reg [J_ 2 0]) (.seq (.drw [M_ 3 0, I_ 4 (.nilchk (.t 3)), F_ 5 0 4, F_ 6 0 5, L_ 7 6, M_ 8 0, I_ 9 (.nilchk (.t 8)), F_ 10 0 9, F_ 11 1 10, L_ 12 11, I_ 13 (.len (.t 12)), I_ 14 (.bin .add false (.t 7) (.t 13)), M_ 15 0, I_ 16 (.nilchk (.t 15)), F_ 17 0 16, F_ 18 2 17, L_ 19 18, I_ 20 (.len (.t 19)), I_ 21 (.bin .add false (.t 14) (.t 20)), M_ 2 21] []) (.ret))
def r233 : List ARV := [.tmp 2]
theorem b233 : Tryz.f233.body.bind (tr Tryz.prog 22) = some c233.bare := by kernel_rfl
theorem q233 : trRes Tryz.prog Tryz.f233.results.toList = some r233 := by kernel_rfl
theorem n233 : (Tryz.f233.name == "runtime.NumGoroutine") = false := by kernel_rfl

def c234 : ACode := .seq (.reg [I_ 4 (.mov (.c (.bool false)))]) (.seq (.reg [M_ 5 0, M_ 6 1, I_ 7 (.call (.c (.fn 246 [] [])) [.t 5, .t 6]), I_ 8 (.bin .geq false (.t 7) (K_ 0)), M_ 4 8]) (.ret))
def r234 : List ARV := [.tmp 4]
theorem b234 : Tryz.f234.body.bind (tr Tryz.prog 9) = some c234.bare := by kernel_rfl
theorem q234 : trRes Tryz.prog Tryz.f234.results.toList = some r234 := by kernel_rfl
theorem n234 : (Tryz.f234.name == "runtime.NumGoroutine") = false := by kernel_rfl

def c235 : ACode := .seq (.reg [J_ 2 0]) (.seq (.drw [M_ 3 0, I_ 4 (.nilchk (.t 3)), F_ 5 0 4, F_ 6 0 5, L_ 7 6, I_ 8 (.bin .add false (K_ 1) (.t 7)), M_ 9 0, I_ 10 (.nilchk (.t 9)), F_ 11 0 10, F_ 12 1 11, L_ 13 12, I_ 14 (.len (.t 13)), I_ 15 (.bin .add false (.t 8) (.t 14)), M_ 2 15] []) (.ret))
def r235 : List ARV := [.tmp 2]
theorem b235 : Tryz.f235.body.bind (tr Tryz.prog 16) = some c235.bare := by kernel_rfl
theorem q235 : trRes Tryz.prog Tryz.f235.results.toList = some r235 := by kernel_rfl
theorem n235 : (Tryz.f235.name == "runtime.NumGoroutine") = false := by kernel_rfl

def c240 : ACode := .seq (.reg [J_ 4 0]) (.seq (.seq (.reg [M_ 6 0, I_ 7 (.len (.t 6)), J_ 8 0]) (.block 0 (.loop (.seq (.reg [I_ 9 (.bin .lss false (.t 8) (.t 7))]) (.seq (.cond (.t 9) (.skip) (.exit 0)) (.seq (.block 1 (.seq (.reg [M_ 10 8, M_ 5 10]) (.seq (.reg [M_ 11 1, M_ 12 0, M_ 13 5, I_ 14 (.idxS 2 (.t 12) (.t 13)), N_ 15 2 14, I_ 16 (.call (.t 11) [.t 15])]) (.cond (.t 16) (.seq (.reg [M_ 17 5, M_ 4 17]) (.ret)) (.skip))))) (.reg [I_ 18 (.bin .add false (.t 8) (K_ 1)), M_ 8 18]))))))) (.seq (.reg [I_ 4 (.mov (.c (.int .i64 (-1))))]) (.ret)))
def r240 : List ARV := [.tmp 4]
theorem b240 : Tryz.f240.body.bind (tr Tryz.prog 19) = some c240.bare := by kernel_rfl
theorem q240 : trRes Tryz.prog Tryz.f240.results.toList = some r240 := by kernel_rfl
theorem n240 : (Tryz.f240.name == "runtime.NumGoroutine") = false := by kernel_rfl

def c241 : ACode := .seq (.reg [I_ 3 (.boxI (.t 0)), I_ 4 (.mov (.c (.bool false)))]) (.seq (.reg [I_ 5 (.idxR 1 2 (.t 3) (K_ 0)), L_ 6 5, I_ 7 (.idxR 1 2 (.t 3) (K_ 1)), L_ 8 7, I_ 9 (.min [.t 6, .t 8]), L_ 10 1, I_ 11 (.bin .eql false (.t 9) (.t 10)), M_ 12 11, ⟨some 13, .idxR 1 2 (.t 3) (K_ 0), some (12, true)⟩, ⟨some 14, .load false 1 (.t 13), some (12, true)⟩, ⟨some 15, .idxR 1 2 (.t 3) (K_ 1), some (12, true)⟩, ⟨some 16, .load false 1 (.t 15), some (12, true)⟩, ⟨some 17, .max [.t 14, .t 16], some (12, true)⟩, ⟨some 18, .load false 1 (.t 2), some (12, true)⟩, ⟨some 19, .bin .eql false (.t 17) (.t 18), some (12, true)⟩, I_ 20 (.pick (.t 12) (.t 19) (.c (.bool false))), M_ 4 20]) (.ret))
def r241 : List ARV := [.tmp 4]
theorem b241 : Tryz.f241.body.bind (tr Tryz.prog 21) = some c241.bare := by kernel_rfl
theorem q241 : trRes Tryz.prog Tryz.f241.results.toList = some r241 := by kernel_rfl
theorem n241 : (Tryz.f241.name == "runtime.NumGoroutine") = false := by kernel_rfl

def c242 : ACode := .seq (.reg [I_ 2 (.mov (.c (.slice [] .nil)))]) (.seq (.reg [M_ 3 0, M_ 4 0, I_ 5 (.len (.t 4)), M_ 6 0, I_ 7 (.len (.t 6)), I_ 8 (.slc 2 (.t 3) none (some (.t 5)) (some (.t 7))), M_ 2 8]) (.ret))
def r242 : List ARV := [.tmp 2]
theorem b242 : Tryz.f242.body.bind (tr Tryz.prog 9) = some c242.bare := by kernel_rfl
theorem q242 : trRes Tryz.prog Tryz.f242.results.toList = some r242 := by kernel_rfl
theorem n242 : (Tryz.f242.name == "runtime.NumGoroutine") = false := by kernel_rfl

def c243 : ACode := .seq (.reg [I_ 3 (.boxI (.t 0)), J_ 6 0]) (.seq (.seq (.reg [J_ 7 0]) (.block 0 (.loop (.seq (.seq (.reg [M_ 9 7, F_ 10 2 3, L_ 11 10, I_ 12 (.len (.t 11)), I_ 13 (.bin .lss false (.t 9) (.t 12))]) (.cond (.t 13) (.skip) (.exit 0))) (.seq (.block 1 (.seq (.reg [F_ 16 2 3, L_ 17 16, M_ 18 7, I_ 19 (.idxS 2 (.t 17) (.t 18)), N_ 20 2 19, I_ 8 (.alloc [(.int .i64 0), (.int .i64 0)]), ⟨none, .store 2 (.t 8) (.t 20), none⟩]) (.seq (.reg [I_ 21 (.idxR 1 2 (.t 8) (K_ 0)), L_ 22 21, M_ 23 1, I_ 24 (.bin .eql false (.t 22) (.t 23)), M_ 25 24, ⟨some 26, .idxR 1 2 (.t 8) (K_ 1), some (25, true)⟩, ⟨some 27, .load false 1 (.t 26), some (25, true)⟩, ⟨some 28, .mov (.t 2), some (25, true)⟩, ⟨some 29, .bin .eql false (.t 27) (.t 28), some (25, true)⟩, I_ 30 (.pick (.t 25) (.t 29) (.c (.bool false))), M_ 31 30, ⟨some 32, .idxR 1 2 (.t 8) (K_ 0), some (31, false)⟩, ⟨some 33, .load false 1 (.t 32), some (31, false)⟩, ⟨some 34, .mov (.t 2), some (31, false)⟩, ⟨some 35, .bin .eql false (.t 33) (.t 34), some (31, false)⟩, ⟨some 36, .mov (.t 35), some (31, false)⟩, ⟨some 37, .idxR 1 2 (.t 8) (K_ 1), some (36, true)⟩, ⟨some 38, .load false 1 (.t 37), some (36, true)⟩, ⟨some 39, .mov (.t 1), some (36, true)⟩, ⟨some 40, .bin .eql false (.t 38) (.t 39), some (36, true)⟩, ⟨some 41, .pick (.t 36) (.t 40) (.c (.bool false)), some (31, false)⟩, I_ 42 (.pick (.t 31) (.c (.bool true)) (.t 41))]) (.cond (.t 42) (.seq (.reg [M_ 43 7, M_ 6 43]) (.ret)) (.skip))))) (.reg [M_ 14 7, I_ 15 (.bin .add false (.t 14) (K_ 1)), M_ 7 15])))))) (.seq (.reg [I_ 6 (.mov (.c (.int .i64 (-1))))]) (.ret)))
def r243 : List ARV := [.tmp 6]
theorem b243 : Tryz.f243.body.bind (tr Tryz.prog 44) = some c243.bare := by kernel_rfl
theorem q243 : trRes Tryz.prog Tryz.f243.results.toList = some r243 := by kernel_rfl
theorem n243 : (Tryz.f243.name == "runtime.NumGoroutine") = false := by kernel_rfl

def c246 : ACode := .seq (.reg [J_ 4 0]) (.seq (.seq (.reg [M_ 6 0, I_ 7 (.len (.t 6)), J_ 8 0]) (.block 0 (.loop (.seq (.reg [I_ 9 (.bin .lss false (.t 8) (.t 7))]) (.seq (.cond (.t 9) (.skip) (.exit 0)) (.seq (.block 1 (.seq (.reg [M_ 10 8, M_ 5 10]) (.seq (.reg [M_ 11 1, M_ 12 0, M_ 13 5, I_ 14 (.idxS 2 (.t 12) (.t 13)), N_ 15 2 14, I_ 16 (.call (.t 11) [.t 15])]) (.cond (.t 16) (.seq (.reg [M_ 17 5, M_ 4 17]) (.ret)) (.skip))))) (.reg [I_ 18 (.bin .add false (.t 8) (K_ 1)), M_ 8 18]))))))) (.seq (.reg [I_ 4 (.mov (.c (.int .i64 (-1))))]) (.ret)))
def r246 : List ARV := [.tmp 4]
theorem b246 : Tryz.f246.body.bind (tr Tryz.prog 19) = some c246.bare := by kernel_rfl
theorem q246 : trRes Tryz.prog Tryz.f246.results.toList = some r246 := by kernel_rfl
theorem n246 : (Tryz.f246.name == "runtime.NumGoroutine") = false := by kernel_rfl

end Go.Proofs.YtbbihmmobfmadaaGreat

