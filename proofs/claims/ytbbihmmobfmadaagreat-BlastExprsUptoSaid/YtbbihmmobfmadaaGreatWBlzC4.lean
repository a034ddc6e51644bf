/- The bodies of the program's functions, as_ the abstraction layer has them. By program. -/
import Derived.Test.YtbbihmmobfmadaaGreatWBlzC3
set_option linter.unusedSimpArgs false
set_option linter.unusedVariables false
namespace Go.Proofs.YtbbihmmobfmadaaGreat
open Abs
def c143:ACode:= .seq (.reg [I_ 6 (.mov (.c (.bool false)))]) (.seq (.seq (.reg [M_ 10 0,I_ 11 (.len (.t 10)),M_ 12 1,I_ 13 (.len (.t 12)),I_ 14 (.bin .neq false (.t 11) (.t 13))]) (.cond (.t 14) (.seq (.reg [I_ 6 (.mov (.c (.bool false)))]) (.ret)) (.skip))) (.seq (.seq (.reg [M_ 15 0,I_ 16 (.len (.t 15)),J_ 17 0]) (.block 0 (.loop (.seq (.reg [I_ 18 (.bin .lss false (.t 17) (.t 16))]) (.seq (.cond (.t 18) (.skip) (.exit 0)) (.seq (.block 1 (.seq (.reg [M_ 19 17,I_ 20 (.idxS 8 (.t 15) (.t 17)),N_ 21 8 20,I_ 8 (.alloc [(.int .i64 0),(.int .i64 0),(.int .u64 0),(.int .i64 0),(.int .i64 0),(.int .i64 0),(.int .i64 0),(.slice [] .nil)]),M_ 7 19,⟨none, .store 8 (.t 8) (.t 21),none⟩]) (.seq (.reg [M_ 22 1,M_ 23 7,I_ 24 (.idxS 8 (.t 22) (.t 23)),N_ 25 8 24,I_ 9 (.alloc [(.int .i64 0),(.int .i64 0),(.int .u64 0),(.int .i64 0),(.int .i64 0),(.int .i64 0),(.int .i64 0),(.slice [] .nil)]),⟨none, .store 8 (.t 9) (.t 25),none⟩]) (.seq (.reg [M_ 26 2,N_ 27 8 8,N_ 28 8 9,I_ 29 (.call (.t 26) [.t 27, .t 28]),I_ 30 (.un .not (.t 29))]) (.cond (.t 30) (.seq (.reg [I_ 6 (.mov (.c (.bool false)))]) (.ret)) (.skip)))))) (.reg [I_ 31 (.bin .add false (.t 17) (K_ 1)),M_ 17 31]))))))) (.seq (.reg [I_ 6 (.mov (.c (.bool true)))]) (.ret))))
def r143:List ARV:=[.tmp 6]
theorem b143:Tryz.f143.body.bind (tr Tryz.prog 32)=some c143.bare:=by kernel_rfl
theorem q143:cJ Tryz.prog Tryz.f143.results.toList=some r143:=by kernel_rfl
theorem n143:(Tryz.f143.name=="runtime.NumGoroutine")=false:=by kernel_rfl
def c146:ACode:= .seq (.reg [I_ 4 (.mov (.c (.slice [] .nil)))]) (.seq (.seq (.reg [M_ 5 1,I_ 6 (.bin .lss false (.t 5) (K_ 0))]) (.cond (.t 6) (.reg [⟨some 7, .mkiface 9 (.c (.str ⟨#[99,97,110,110,111,116,32,98,101,32,110,101,103,97,116,105,118,101]⟩)),none⟩,⟨none, .panic (.t 7),none⟩]) (.skip))) (.seq (.seq (.reg [M_ 8 1,M_ 9 0,I_ 10 (.cap (.t 9)),M_ 11 0,I_ 12 (.len (.t 11)),I_ 13 (.bin .sub false (.t 10) (.t 12)),I_ 14 (.bin .sub false (.t 8) (.t 13)),M_ 1 14]) (.seq (.reg [M_ 15 1,I_ 16 (.bin .gtr false (.t 15) (K_ 0))]) (.cond (.t 16) (.reg [M_ 17 0,M_ 18 0,I_ 19 (.cap (.t 18)),I_ 20 (.slcN 1 (.t 17) none (some (.t 19)) none),M_ 21 1,I_ 22 (.appz 1 8 (.t 20) (.t 21)),M_ 23 0,I_ 24 (.len (.t 23)),I_ 25 (.slcR 1 (.t 22) none (some (.t 24)) none),M_ 0 25]) (.skip)))) (.seq (.reg [M_ 26 0,M_ 4 26]) (.ret))))
def r146:List ARV:=[.tmp 4]
theorem b146:Tryz.f146.body.bind (tr Tryz.prog 27)=some c146.bare:=by kernel_rfl
theorem q146:cJ Tryz.prog Tryz.f146.results.toList=some r146:=by kernel_rfl
theorem n146:(Tryz.f146.name=="runtime.NumGoroutine")=false:=by kernel_rfl
end Go.Proofs.YtbbihmmobfmadaaGreat
