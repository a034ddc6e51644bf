/- The bodies of the program's functions, as the abstraction layer has them. By program. -/
import Derived.Test.YtlgjokognnbhiaaAbsT
import Derived.Test.YtlgjokognnbhiaaProg
import Derived.KernelRfl
namespace Go.Proofs.Ytlgjokognnbhiaa
open Abs
theorem mixed : Try.prog.follows .mixedOrders = true := by kernel_rfl
/-- gosem.cut.init [] -/
def c2 : ACode :=
 .reg [⟨some 0, .call (.c (.fn 1 [] [])) [], none⟩]
def r2 : List ARV := []
theorem b2 : Try.f2.body.bind (tr Try.prog 1) = some c2.bare := by kernel_rfl
theorem q2 : trRes Try.prog Try.f2.results.toList = some r2 := by kernel_rfl
theorem n2 : (Try.f2.name == "runtime.NumGoroutine") = false := by kernel_rfl

/-- filigree/filigreelaw18.AigMakes [ins:0, init:1, g:2, ins:3, init:4, g:5, up:7, a:8, e:9, b:10, f:11, c:12, h:13, d:14, i:15] -/
def c3 : ACode :=
 .seq (.reg [⟨some 5, .boxI (.t 2), none⟩,
   ⟨some 6, .mov (.c (.bool false)), none⟩])
 (.seq (.reg [⟨some 16, .call (.c (.fn 13 [] [])) [], none⟩,
   ⟨some 7, .mov (.t 16), none⟩])
 (.seq (.seq (.reg [⟨some 17, .mov (.t 7), none⟩,
   ⟨some 18, .un .not (.t 17), none⟩])
 (.cond (.t 18)
  (.seq (.reg [⟨some 6, .mov (.c (.bool false)), none⟩])
  (.ret))
  (.skip)))
 (.seq (.seq (.reg [⟨some 19, .mov (.t 0), none⟩,
   ⟨some 20, .bin .gtr false (.t 19) (.c (.int .i64 300)), none⟩,
   ⟨some 21, .mov (.t 20), none⟩,
   ⟨some 22, .mov (.t 0), some (21, true)⟩,
   ⟨some 23, .bin .leq false (.t 22) (.c (.int .i64 65536)), some (21, true)⟩,
   ⟨some 24, .pick (.t 21) (.t 23) (.c (.bool false)), none⟩,
   ⟨some 25, .mov (.t 24), none⟩,
   ⟨some 26, .mov (.t 1), some (25, false)⟩,
   ⟨some 27, .len (.t 26), some (25, false)⟩,
   ⟨some 28, .bin .gtr false (.t 27) (.c (.int .i64 300)), some (25, false)⟩,
   ⟨some 29, .pick (.t 25) (.c (.bool true)) (.t 28), none⟩,
   ⟨some 30, .mov (.t 29), none⟩,
   ⟨some 31, .load true 4 (.t 5), some (30, false)⟩,
   ⟨some 32, .call (.c (.fn 14 [] [])) [(.t 31)], some (30, false)⟩,
   ⟨some 33, .un .not (.t 32), some (30, false)⟩,
   ⟨some 34, .pick (.t 30) (.c (.bool true)) (.t 33), none⟩])
 (.cond (.t 34)
  (.seq (.reg [⟨some 35, .mov (.t 7), none⟩,
    ⟨some 6, .mov (.t 35), none⟩])
  (.ret))
  (.skip)))
 (.seq (.reg [⟨some 37, .mov (.t 0), none⟩,
   ⟨some 38, .mov (.t 1), none⟩,
   ⟨some 39, .call (.c (.fn 15 [] [])) [(.t 37), (.t 38)], none⟩,
   ⟨some 36, .mov (.t 39), none⟩,
   ⟨some 40, .extract (.t 36) 0, none⟩,
   ⟨some 41, .extract (.t 36) 1, none⟩,
   ⟨some 8, .alloc [(.int .i64 0), (.slice [] .nil), (.slice [] .nil), (.slice [] .nil)], none⟩,
   ⟨none, .store 4 (.t 8) (.t 40), none⟩,
   ⟨some 9, .mov (.t 41), none⟩])
 (.seq (.reg [⟨some 43, .mov (.t 0), none⟩,
   ⟨some 44, .mov (.t 1), none⟩,
   ⟨some 45, .call (.c (.fn 16 [] [])) [(.t 43), (.t 44)], none⟩,
   ⟨some 42, .mov (.t 45), none⟩,
   ⟨some 46, .extract (.t 42) 0, none⟩,
   ⟨some 47, .extract (.t 42) 1, none⟩,
   ⟨some 10, .alloc [(.int .i64 0), (.slice [] .nil), (.slice [] .nil), (.slice [] .nil)], none⟩,
   ⟨none, .store 4 (.t 10) (.t 46), none⟩,
   ⟨some 11, .mov (.t 47), none⟩])
 (.seq (.reg [⟨some 49, .load true 4 (.t 5), none⟩,
   ⟨some 50, .call (.c (.fn 17 [] [])) [(.t 49)], none⟩,
   ⟨some 48, .mov (.t 50), none⟩,
   ⟨some 51, .extract (.t 48) 0, none⟩,
   ⟨some 52, .extract (.t 48) 1, none⟩,
   ⟨some 12, .mov (.t 51), none⟩,
   ⟨some 13, .mov (.t 52), none⟩])
 (.seq (.reg [⟨some 54, .load true 4 (.t 5), none⟩,
   ⟨some 55, .call (.c (.fn 18 [] [])) [(.t 54)], none⟩,
   ⟨some 53, .mov (.t 55), none⟩,
   ⟨some 56, .extract (.t 53) 0, none⟩,
   ⟨some 57, .extract (.t 53) 1, none⟩,
   ⟨some 14, .mov (.t 56), none⟩,
   ⟨some 15, .mov (.t 57), none⟩])
 (.seq (.drw [⟨some 58, .mov (.t 7), none⟩,
   ⟨some 59, .mov (.t 58), none⟩,
   ⟨some 60, .load true 4 (.t 8), some (59, true)⟩,
   ⟨some 61, .load true 4 (.t 10), some (59, true)⟩,
   ⟨some 62, .call (.c (.fn 19 [] [])) [(.t 60), (.t 61)], some (59, true)⟩,
   ⟨some 63, .pick (.t 59) (.t 62) (.c (.bool false)), none⟩,
   ⟨some 64, .mov (.t 63), none⟩,
   ⟨some 65, .mov (.t 9), some (64, true)⟩,
   ⟨some 66, .mov (.t 11), some (64, true)⟩,
   ⟨some 67, .bin .eql false (.t 65) (.t 66), some (64, true)⟩,
   ⟨some 68, .pick (.t 64) (.t 67) (.c (.bool false)), none⟩,
   ⟨some 69, .mov (.t 68), none⟩,
   ⟨some 70, .load true 4 (.t 5), some (69, true)⟩,
   ⟨some 71, .call (.c (.fn 20 [] [])) [(.t 70)], some (69, true)⟩,
   ⟨some 72, .load true 4 (.t 5), some (69, true)⟩,
   ⟨some 73, .call (.c (.fn 21 [] [])) [(.t 72)], some (69, true)⟩,
   ⟨some 74, .bin .eql false (.t 71) (.t 73), some (69, true)⟩,
   ⟨some 75, .pick (.t 69) (.t 74) (.c (.bool false)), none⟩,
   ⟨some 76, .mov (.t 75), none⟩,
   ⟨some 77, .mov (.t 12), some (76, true)⟩,
   ⟨some 78, .mov (.t 14), some (76, true)⟩,
   ⟨some 79, .call (.c (.fn 22 [] [])) [(.t 77), (.t 78)], some (76, true)⟩,
   ⟨some 80, .pick (.t 76) (.t 79) (.c (.bool false)), none⟩,
   ⟨some 81, .mov (.t 80), none⟩,
   ⟨some 82, .mov (.t 13), some (81, true)⟩,
   ⟨some 83, .mov (.t 15), some (81, true)⟩,
   ⟨some 84, .bin .eql false (.t 82) (.t 83), some (81, true)⟩,
   ⟨some 85, .pick (.t 81) (.t 84) (.c (.bool false)), none⟩,
   ⟨some 6, .mov (.t 85), none⟩] [])
 (.ret)))))))))
def r3 : List ARV := [.tmp 6]
theorem b3 : Try.f3.body.bind (tr Try.prog 86) = some c3.bare := by kernel_rfl
theorem q3 : trRes Try.prog Try.f3.results.toList = some r3 := by kernel_rfl
theorem n3 : (Try.f3.name == "runtime.NumGoroutine") = false := by kernel_rfl

/-- filigree/filigreelaw18.AigRuns [g:0, in:1, st:2, ins:3, g:4, in:5, st:6, ins:7, up:9, a:10, e:11, b:12, f:13, c:14, d:15, h:16, i:17, j:18, k:19, l:20, m:21, n:22, o:23] -/
def c4 : ACode :=
 .seq (.reg [⟨some 4, .boxI (.t 0), none⟩,
   ⟨some 8, .mov (.c (.bool false)), none⟩])
 (.seq (.reg [⟨some 24, .call (.c (.fn 13 [] [])) [], none⟩,
   ⟨some 9, .mov (.t 24), none⟩])
 (.seq (.seq (.reg [⟨some 25, .load true 4 (.t 4), none⟩,
   ⟨some 26, .call (.c (.fn 14 [] [])) [(.t 25)], none⟩,
   ⟨some 27, .un .not (.t 26), none⟩,
   ⟨some 28, .mov (.t 27), none⟩,
   ⟨some 29, .mov (.t 1), some (28, false)⟩,
   ⟨some 30, .len (.t 29), some (28, false)⟩,
   ⟨some 31, .bin .gtr false (.t 30) (.c (.int .i64 300)), some (28, false)⟩,
   ⟨some 32, .pick (.t 28) (.c (.bool true)) (.t 31), none⟩,
   ⟨some 33, .mov (.t 32), none⟩,
   ⟨some 34, .mov (.t 2), some (33, false)⟩,
   ⟨some 35, .len (.t 34), some (33, false)⟩,
   ⟨some 36, .bin .gtr false (.t 35) (.c (.int .i64 300)), some (33, false)⟩,
   ⟨some 37, .pick (.t 33) (.c (.bool true)) (.t 36), none⟩,
   ⟨some 38, .mov (.t 37), none⟩,
   ⟨some 39, .mov (.t 3), some (38, false)⟩,
   ⟨some 40, .len (.t 39), some (38, false)⟩,
   ⟨some 41, .bin .gtr false (.t 40) (.c (.int .i64 30)), some (38, false)⟩,
   ⟨some 42, .pick (.t 38) (.c (.bool true)) (.t 41), none⟩])
 (.cond (.t 42)
  (.seq (.reg [⟨some 43, .mov (.t 9), none⟩,
    ⟨some 8, .mov (.t 43), none⟩])
  (.ret))
  (.skip)))
 (.seq (.reg [⟨some 45, .load true 4 (.t 4), none⟩,
   ⟨some 46, .mov (.t 1), none⟩,
   ⟨some 47, .mov (.t 2), none⟩,
   ⟨some 48, .call (.c (.fn 23 [] [])) [(.t 45), (.t 46), (.t 47)], none⟩,
   ⟨some 44, .mov (.t 48), none⟩,
   ⟨some 49, .extract (.t 44) 0, none⟩,
   ⟨some 50, .extract (.t 44) 1, none⟩,
   ⟨some 10, .mov (.t 49), none⟩,
   ⟨some 11, .mov (.t 50), none⟩])
 (.seq (.reg [⟨some 52, .load true 4 (.t 4), none⟩,
   ⟨some 53, .mov (.t 1), none⟩,
   ⟨some 54, .mov (.t 2), none⟩,
   ⟨some 55, .call (.c (.fn 24 [] [])) [(.t 52), (.t 53), (.t 54)], none⟩,
   ⟨some 51, .mov (.t 55), none⟩,
   ⟨some 56, .extract (.t 51) 0, none⟩,
   ⟨some 57, .extract (.t 51) 1, none⟩,
   ⟨some 12, .mov (.t 56), none⟩,
   ⟨some 13, .mov (.t 57), none⟩])
 (.seq (.reg [⟨some 59, .load true 4 (.t 4), none⟩,
   ⟨some 60, .mov (.t 1), none⟩,
   ⟨some 61, .mov (.t 2), none⟩,
   ⟨some 62, .call (.c (.fn 25 [] [])) [(.t 59), (.t 60), (.t 61)], none⟩,
   ⟨some 58, .mov (.t 62), none⟩,
   ⟨some 63, .extract (.t 58) 0, none⟩,
   ⟨some 64, .extract (.t 58) 1, none⟩,
   ⟨some 65, .extract (.t 58) 2, none⟩,
   ⟨some 14, .mov (.t 63), none⟩,
   ⟨some 15, .mov (.t 64), none⟩,
   ⟨some 16, .mov (.t 65), none⟩])
 (.seq (.reg [⟨some 67, .load true 4 (.t 4), none⟩,
   ⟨some 68, .mov (.t 1), none⟩,
   ⟨some 69, .mov (.t 2), none⟩,
   ⟨some 70, .call (.c (.fn 26 [] [])) [(.t 67), (.t 68), (.t 69)], none⟩,
   ⟨some 66, .mov (.t 70), none⟩,
   ⟨some 71, .extract (.t 66) 0, none⟩,
   ⟨some 72, .extract (.t 66) 1, none⟩,
   ⟨some 73, .extract (.t 66) 2, none⟩,
   ⟨some 17, .mov (.t 71), none⟩,
   ⟨some 18, .mov (.t 72), none⟩,
   ⟨some 19, .mov (.t 73), none⟩])
 (.seq (.reg [⟨some 75, .load true 4 (.t 4), none⟩,
   ⟨some 76, .mov (.t 3), none⟩,
   ⟨some 77, .call (.c (.fn 27 [] [])) [(.t 75), (.t 76)], none⟩,
   ⟨some 74, .mov (.t 77), none⟩,
   ⟨some 78, .extract (.t 74) 0, none⟩,
   ⟨some 79, .extract (.t 74) 1, none⟩,
   ⟨some 20, .mov (.t 78), none⟩,
   ⟨some 21, .mov (.t 79), none⟩])
 (.seq (.reg [⟨some 81, .load true 4 (.t 4), none⟩,
   ⟨some 82, .mov (.t 3), none⟩,
   ⟨some 83, .call (.c (.fn 28 [] [])) [(.t 81), (.t 82)], none⟩,
   ⟨some 80, .mov (.t 83), none⟩,
   ⟨some 84, .extract (.t 80) 0, none⟩,
   ⟨some 85, .extract (.t 80) 1, none⟩,
   ⟨some 22, .mov (.t 84), none⟩,
   ⟨some 23, .mov (.t 85), none⟩])
 (.seq (.reg [⟨some 86, .mov (.t 9), none⟩,
   ⟨some 87, .mov (.t 86), none⟩,
   ⟨some 88, .mov (.t 10), some (87, true)⟩,
   ⟨some 89, .mov (.t 12), some (87, true)⟩,
   ⟨some 90, .call (.c (.fn 29 [] [])) [(.t 88), (.t 89)], some (87, true)⟩,
   ⟨some 91, .pick (.t 87) (.t 90) (.c (.bool false)), none⟩,
   ⟨some 92, .mov (.t 91), none⟩,
   ⟨some 93, .mov (.t 11), some (92, true)⟩,
   ⟨some 94, .mov (.t 13), some (92, true)⟩,
   ⟨some 95, .bin .eql false (.t 93) (.t 94), some (92, true)⟩,
   ⟨some 96, .pick (.t 92) (.t 95) (.c (.bool false)), none⟩,
   ⟨some 97, .mov (.t 96), none⟩,
   ⟨some 98, .mov (.t 14), some (97, true)⟩,
   ⟨some 99, .mov (.t 17), some (97, true)⟩,
   ⟨some 100, .call (.c (.fn 29 [] [])) [(.t 98), (.t 99)], some (97, true)⟩,
   ⟨some 101, .pick (.t 97) (.t 100) (.c (.bool false)), none⟩,
   ⟨some 102, .mov (.t 101), none⟩,
   ⟨some 103, .mov (.t 15), some (102, true)⟩,
   ⟨some 104, .mov (.t 18), some (102, true)⟩,
   ⟨some 105, .call (.c (.fn 29 [] [])) [(.t 103), (.t 104)], some (102, true)⟩,
   ⟨some 106, .pick (.t 102) (.t 105) (.c (.bool false)), none⟩,
   ⟨some 107, .mov (.t 106), none⟩,
   ⟨some 108, .mov (.t 16), some (107, true)⟩,
   ⟨some 109, .mov (.t 19), some (107, true)⟩,
   ⟨some 110, .bin .eql false (.t 108) (.t 109), some (107, true)⟩,
   ⟨some 111, .pick (.t 107) (.t 110) (.c (.bool false)), none⟩,
   ⟨some 112, .mov (.t 111), none⟩,
   ⟨some 113, .mov (.t 20), some (112, true)⟩,
   ⟨some 114, .mov (.t 22), some (112, true)⟩,
   ⟨some 115, .call (.c (.fn 30 [] [])) [(.t 113), (.t 114)], some (112, true)⟩,
   ⟨some 116, .pick (.t 112) (.t 115) (.c (.bool false)), none⟩,
   ⟨some 117, .mov (.t 116), none⟩,
   ⟨some 118, .mov (.t 21), some (117, true)⟩,
   ⟨some 119, .mov (.t 23), some (117, true)⟩,
   ⟨some 120, .bin .eql false (.t 118) (.t 119), some (117, true)⟩,
   ⟨some 121, .pick (.t 117) (.t 120) (.c (.bool false)), none⟩,
   ⟨some 8, .mov (.t 121), none⟩])
 (.ret))))))))))
def r4 : List ARV := [.tmp 8]
theorem b4 : Try.f4.body.bind (tr Try.prog 122) = some c4.bare := by kernel_rfl
theorem q4 : trRes Try.prog Try.f4.results.toList = some r4 := by kernel_rfl
theorem n4 : (Try.f4.name == "runtime.NumGoroutine") = false := by kernel_rfl

/-- filigree/filigreelaw18.AigRows [g:0, ins:1, cut:2, g:3, ins:4, cut:5, up:7, at:8, all:9, e:10, head:11, f:12, st:13, i:14, o:15, next:16, k:17] -/
def c5 : ACode :=
 .seq (.reg [⟨some 3, .boxI (.t 0), none⟩,
   ⟨some 6, .mov (.c (.bool false)), none⟩])
 (.seq (.reg [⟨some 18, .call (.c (.fn 13 [] [])) [], none⟩,
   ⟨some 7, .mov (.t 18), none⟩])
 (.seq (.seq (.reg [⟨some 19, .load true 4 (.t 3), none⟩,
   ⟨some 20, .call (.c (.fn 14 [] [])) [(.t 19)], none⟩,
   ⟨some 21, .un .not (.t 20), none⟩,
   ⟨some 22, .mov (.t 21), none⟩,
   ⟨some 23, .mov (.t 1), some (22, false)⟩,
   ⟨some 24, .len (.t 23), some (22, false)⟩,
   ⟨some 25, .bin .gtr false (.t 24) (.c (.int .i64 30)), some (22, false)⟩,
   ⟨some 26, .pick (.t 22) (.c (.bool true)) (.t 25), none⟩])
 (.cond (.t 26)
  (.seq (.reg [⟨some 27, .mov (.t 7), none⟩,
    ⟨some 6, .mov (.t 27), none⟩])
  (.ret))
  (.skip)))
 (.seq (.reg [⟨some 28, .mov (.t 2), none⟩,
   ⟨some 29, .bin .and false (.t 28) (.c (.int .i64 65535)), none⟩,
   ⟨some 30, .mov (.t 1), none⟩,
   ⟨some 31, .len (.t 30), none⟩,
   ⟨some 32, .bin .add false (.t 31) (.c (.int .i64 1)), none⟩,
   ⟨some 33, .bin .rem false (.t 29) (.t 32), none⟩,
   ⟨some 8, .mov (.t 33), none⟩])
 (.seq (.reg [⟨some 35, .load true 4 (.t 3), none⟩,
   ⟨some 36, .mov (.t 1), none⟩,
   ⟨some 37, .call (.c (.fn 27 [] [])) [(.t 35), (.t 36)], none⟩,
   ⟨some 34, .mov (.t 37), none⟩,
   ⟨some 38, .extract (.t 34) 0, none⟩,
   ⟨some 39, .extract (.t 34) 1, none⟩,
   ⟨some 9, .mov (.t 38), none⟩,
   ⟨some 10, .mov (.t 39), none⟩])
 (.seq (.seq (.reg [⟨some 40, .mov (.t 10), none⟩,
   ⟨some 41, .bin .neq false (.t 40) (.c (.int .i64 0)), none⟩])
 (.cond (.t 41)
  (.seq (.reg [⟨some 42, .mov (.t 7), none⟩,
    ⟨some 43, .mov (.t 42), none⟩,
    ⟨some 44, .mov (.t 9), some (43, true)⟩,
    ⟨some 45, .len (.t 44), some (43, true)⟩,
    ⟨some 46, .bin .eql false (.t 45) (.c (.int .i64 0)), some (43, true)⟩,
    ⟨some 47, .pick (.t 43) (.t 46) (.c (.bool false)), none⟩,
    ⟨some 6, .mov (.t 47), none⟩])
  (.ret))
  (.skip)))
 (.seq (.drw [⟨some 49, .load true 4 (.t 3), none⟩,
   ⟨some 50, .mov (.t 1), none⟩,
   ⟨some 51, .mov (.t 8), none⟩,
   ⟨some 52, .slc 1 (.t 50) none (some (.t 51)) none, none⟩,
   ⟨some 53, .call (.c (.fn 27 [] [])) [(.t 49), (.t 52)], none⟩,
   ⟨some 48, .mov (.t 53), none⟩,
   ⟨some 54, .extract (.t 48) 0, none⟩,
   ⟨some 55, .extract (.t 48) 1, none⟩,
   ⟨some 11, .mov (.t 54), none⟩,
   ⟨some 12, .mov (.t 55), none⟩] [])
 (.seq (.seq (.reg [⟨some 56, .mov (.t 12), none⟩,
   ⟨some 57, .bin .neq false (.t 56) (.c (.int .i64 0)), none⟩,
   ⟨some 58, .mov (.t 57), none⟩,
   ⟨some 59, .mov (.t 9), some (58, false)⟩,
   ⟨some 60, .len (.t 59), some (58, false)⟩,
   ⟨some 61, .mov (.t 1), some (58, false)⟩,
   ⟨some 62, .len (.t 61), some (58, false)⟩,
   ⟨some 63, .bin .neq false (.t 60) (.t 62), some (58, false)⟩,
   ⟨some 64, .pick (.t 58) (.c (.bool true)) (.t 63), none⟩,
   ⟨some 65, .mov (.t 64), none⟩,
   ⟨some 66, .mov (.t 11), some (65, false)⟩,
   ⟨some 67, .mov (.t 9), some (65, false)⟩,
   ⟨some 68, .mov (.t 8), some (65, false)⟩,
   ⟨some 69, .slc 1 (.t 67) none (some (.t 68)) none, some (65, false)⟩,
   ⟨some 70, .call (.c (.fn 30 [] [])) [(.t 66), (.t 69)], some (65, false)⟩,
   ⟨some 71, .un .not (.t 70), some (65, false)⟩,
   ⟨some 72, .pick (.t 65) (.c (.bool true)) (.t 71), none⟩])
 (.cond (.t 72)
  (.seq (.reg [⟨some 6, .mov (.c (.bool false)), none⟩])
  (.ret))
  (.skip)))
 (.seq (.reg [⟨some 73, .load true 4 (.t 3), none⟩,
   ⟨some 74, .call (.c (.fn 31 [] [])) [(.t 73)], none⟩,
   ⟨some 13, .mov (.t 74), none⟩])
 (.seq (.seq (.reg [⟨some 14, .mov (.c (.int .i64 0)), none⟩])
 (.block 0 (.loop (.seq (.seq (.reg [⟨some 75, .mov (.t 14), none⟩,
    ⟨some 76, .mov (.t 1), none⟩,
    ⟨some 77, .len (.t 76), none⟩,
    ⟨some 78, .bin .lss false (.t 75) (.t 77), none⟩])
  (.cond (.t 78)
   (.skip)
   (.exit 0)))
  (.seq (.block 1 (.seq (.drw [⟨some 82, .load true 4 (.t 3), none⟩,
    ⟨some 83, .mov (.t 1), none⟩,
    ⟨some 84, .mov (.t 14), none⟩,
    ⟨some 85, .idxS 1 (.t 83) (.t 84), none⟩,
    ⟨some 86, .load false 1 (.t 85), none⟩,
    ⟨some 87, .mov (.t 13), none⟩,
    ⟨some 88, .call (.c (.fn 25 [] [])) [(.t 82), (.t 86), (.t 87)], none⟩,
    ⟨some 81, .mov (.t 88), none⟩,
    ⟨some 89, .extract (.t 81) 0, none⟩,
    ⟨some 90, .extract (.t 81) 1, none⟩,
    ⟨some 91, .extract (.t 81) 2, none⟩,
    ⟨some 15, .mov (.t 89), none⟩,
    ⟨some 16, .mov (.t 90), none⟩,
    ⟨some 17, .mov (.t 91), none⟩] [])
  (.seq (.seq (.reg [⟨some 92, .mov (.t 17), none⟩,
    ⟨some 93, .bin .neq false (.t 92) (.c (.int .i64 0)), none⟩,
    ⟨some 94, .mov (.t 93), none⟩,
    ⟨some 95, .mov (.t 15), some (94, false)⟩,
    ⟨some 96, .mov (.t 9), some (94, false)⟩,
    ⟨some 97, .mov (.t 14), some (94, false)⟩,
    ⟨some 98, .idxS 1 (.t 96) (.t 97), some (94, false)⟩,
    ⟨some 99, .load false 1 (.t 98), some (94, false)⟩,
    ⟨some 100, .call (.c (.fn 29 [] [])) [(.t 95), (.t 99)], some (94, false)⟩,
    ⟨some 101, .un .not (.t 100), some (94, false)⟩,
    ⟨some 102, .pick (.t 94) (.c (.bool true)) (.t 101), none⟩])
  (.cond (.t 102)
   (.seq (.reg [⟨some 6, .mov (.c (.bool false)), none⟩])
   (.ret))
   (.skip)))
  (.reg [⟨some 103, .mov (.t 16), none⟩,
    ⟨some 13, .mov (.t 103), none⟩]))))
  (.reg [⟨some 79, .mov (.t 14), none⟩,
    ⟨some 80, .bin .add false (.t 79) (.c (.int .i64 1)), none⟩,
    ⟨some 14, .mov (.t 80), none⟩]))))))
 (.seq (.reg [⟨some 104, .mov (.t 7), none⟩,
   ⟨some 6, .mov (.t 104), none⟩])
 (.ret)))))))))))
def r5 : List ARV := [.tmp 6]
theorem b5 : Try.f5.body.bind (tr Try.prog 105) = some c5.bare := by kernel_rfl
theorem q5 : trRes Try.prog Try.f5.results.toList = some r5 := by kernel_rfl
theorem n5 : (Try.f5.name == "runtime.NumGoroutine") = false := by kernel_rfl

/-- filigree/filigreelaw18.AigLevels [g:0, a:1, b:2, g:3, a:4, b:5, up:7, l:8, e:9, first:10, top:11, i:12, p:13, q:14, h:15, x:16, f:17, m:18, k:19] -/
def c6 : ACode :=
 .seq (.reg [⟨some 3, .boxI (.t 0), none⟩,
   ⟨some 6, .mov (.c (.bool false)), none⟩])
 (.seq (.reg [⟨some 20, .call (.c (.fn 13 [] [])) [], none⟩,
   ⟨some 7, .mov (.t 20), none⟩])
 (.seq (.seq (.reg [⟨some 21, .load true 4 (.t 3), none⟩,
   ⟨some 22, .call (.c (.fn 14 [] [])) [(.t 21)], none⟩,
   ⟨some 23, .un .not (.t 22), none⟩])
 (.cond (.t 23)
  (.seq (.reg [⟨some 24, .mov (.t 7), none⟩,
    ⟨some 6, .mov (.t 24), none⟩])
  (.ret))
  (.skip)))
 (.seq (.reg [⟨some 26, .load true 4 (.t 3), none⟩,
   ⟨some 27, .call (.c (.fn 17 [] [])) [(.t 26)], none⟩,
   ⟨some 25, .mov (.t 27), none⟩,
   ⟨some 28, .extract (.t 25) 0, none⟩,
   ⟨some 29, .extract (.t 25) 1, none⟩,
   ⟨some 8, .mov (.t 28), none⟩,
   ⟨some 9, .mov (.t 29), none⟩])
 (.seq (.seq (.reg [⟨some 30, .mov (.t 9), none⟩,
   ⟨some 31, .bin .neq false (.t 30) (.c (.int .i64 0)), none⟩])
 (.cond (.t 31)
  (.seq (.reg [⟨some 32, .mov (.t 7), none⟩,
    ⟨some 33, .mov (.t 32), none⟩,
    ⟨some 34, .mov (.t 8), some (33, true)⟩,
    ⟨some 35, .len (.t 34), some (33, true)⟩,
    ⟨some 36, .bin .eql false (.t 35) (.c (.int .i64 0)), some (33, true)⟩,
    ⟨some 37, .pick (.t 33) (.t 36) (.c (.bool false)), none⟩,
    ⟨some 38, .mov (.t 37), none⟩,
    ⟨some 39, .mov (.t 9), some (38, true)⟩,
    ⟨some 40, .load true 4 (.t 3), some (38, true)⟩,
    ⟨some 41, .call (.c (.fn 20 [] [])) [(.t 40)], some (38, true)⟩,
    ⟨some 42, .bin .eql false (.t 39) (.t 41), some (38, true)⟩,
    ⟨some 43, .pick (.t 38) (.t 42) (.c (.bool false)), none⟩,
    ⟨some 6, .mov (.t 43), none⟩])
  (.ret))
  (.skip)))
 (.seq (.seq (.reg [⟨some 44, .load true 4 (.t 3), none⟩,
   ⟨some 45, .call (.c (.fn 21 [] [])) [(.t 44)], none⟩,
   ⟨some 46, .bin .neq false (.t 45) (.c (.int .i64 0)), none⟩,
   ⟨some 47, .mov (.t 46), none⟩,
   ⟨some 48, .mov (.t 8), some (47, false)⟩,
   ⟨some 49, .len (.t 48), some (47, false)⟩,
   ⟨some 50, .load true 4 (.t 3), some (47, false)⟩,
   ⟨some 51, .call (.c (.fn 32 [] [])) [(.t 50)], some (47, false)⟩,
   ⟨some 52, .bin .neq false (.t 49) (.t 51), some (47, false)⟩,
   ⟨some 53, .pick (.t 47) (.c (.bool true)) (.t 52), none⟩])
 (.cond (.t 53)
  (.seq (.reg [⟨some 6, .mov (.c (.bool false)), none⟩])
  (.ret))
  (.skip)))
 (.seq (.drw [⟨some 54, .load true 4 (.t 3), none⟩,
   ⟨some 55, .call (.c (.fn 32 [] [])) [(.t 54)], none⟩,
   ⟨some 56, .fldA 2 (.t 3), none⟩,
   ⟨some 57, .load false 1 (.t 56), none⟩,
   ⟨some 58, .len (.t 57), none⟩,
   ⟨some 59, .bin .sub false (.t 55) (.t 58), none⟩,
   ⟨some 10, .mov (.t 59), none⟩] [])
 (.seq (.reg [⟨some 11, .mov (.c (.int .i64 0)), none⟩])
 (.seq (.seq (.reg [⟨some 12, .mov (.c (.int .i64 0)), none⟩])
 (.block 0 (.loop (.seq (.seq (.reg [⟨some 60, .mov (.t 12), none⟩,
    ⟨some 61, .mov (.t 8), none⟩,
    ⟨some 62, .len (.t 61), none⟩,
    ⟨some 63, .bin .lss false (.t 60) (.t 62), none⟩])
  (.cond (.t 63)
   (.skip)
   (.exit 0)))
  (.seq (.block 1 (.seq (.reg [⟨some 66, .mov (.t 11), none⟩,
    ⟨some 67, .mov (.t 8), none⟩,
    ⟨some 68, .mov (.t 12), none⟩,
    ⟨some 69, .idxS 1 (.t 67) (.t 68), none⟩,
    ⟨some 70, .load false 1 (.t 69), none⟩,
    ⟨some 71, .max [(.t 66), (.t 70)], none⟩,
    ⟨some 11, .mov (.t 71), none⟩])
  (.seq (.seq (.reg [⟨some 72, .mov (.t 12), none⟩,
    ⟨some 73, .mov (.t 10), none⟩,
    ⟨some 74, .bin .lss false (.t 72) (.t 73), none⟩,
    ⟨some 75, .mov (.t 74), none⟩,
    ⟨some 76, .mov (.t 8), some (75, true)⟩,
    ⟨some 77, .mov (.t 12), some (75, true)⟩,
    ⟨some 78, .idxS 1 (.t 76) (.t 77), some (75, true)⟩,
    ⟨some 79, .load false 1 (.t 78), some (75, true)⟩,
    ⟨some 80, .bin .neq false (.t 79) (.c (.int .i64 0)), some (75, true)⟩,
    ⟨some 81, .pick (.t 75) (.t 80) (.c (.bool false)), none⟩])
  (.cond (.t 81)
   (.seq (.reg [⟨some 6, .mov (.c (.bool false)), none⟩])
   (.ret))
   (.skip)))
  (.seq (.reg [⟨some 82, .mov (.t 12), none⟩,
    ⟨some 83, .mov (.t 10), none⟩,
    ⟨some 84, .bin .geq false (.t 82) (.t 83), none⟩])
  (.cond (.t 84)
   (.seq (.reg [⟨some 85, .mov (.t 8), none⟩,
     ⟨some 86, .fldA 2 (.t 3), none⟩,
     ⟨some 87, .load false 1 (.t 86), none⟩,
     ⟨some 88, .mov (.t 12), none⟩,
     ⟨some 89, .mov (.t 10), none⟩,
     ⟨some 90, .bin .sub false (.t 88) (.t 89), none⟩,
     ⟨some 91, .idxS 2 (.t 87) (.t 90), none⟩,
     ⟨some 92, .idxR 1 2 (.t 91) (.c (.int .i64 0)), none⟩,
     ⟨some 93, .load false 1 (.t 92), none⟩,
     ⟨some 94, .bin .quo false (.t 93) (.c (.int .i64 2)), none⟩,
     ⟨some 95, .idxS 1 (.t 85) (.t 94), none⟩,
     ⟨some 96, .load false 1 (.t 95), none⟩,
     ⟨some 13, .mov (.t 96), none⟩])
   (.seq (.reg [⟨some 97, .mov (.t 8), none⟩,
     ⟨some 98, .fldA 2 (.t 3), none⟩,
     ⟨some 99, .load false 1 (.t 98), none⟩,
     ⟨some 100, .mov (.t 12), none⟩,
     ⟨some 101, .mov (.t 10), none⟩,
     ⟨some 102, .bin .sub false (.t 100) (.t 101), none⟩,
     ⟨some 103, .idxS 2 (.t 99) (.t 102), none⟩,
     ⟨some 104, .idxR 1 2 (.t 103) (.c (.int .i64 1)), none⟩,
     ⟨some 105, .load false 1 (.t 104), none⟩,
     ⟨some 106, .bin .quo false (.t 105) (.c (.int .i64 2)), none⟩,
     ⟨some 107, .idxS 1 (.t 97) (.t 106), none⟩,
     ⟨some 108, .load false 1 (.t 107), none⟩,
     ⟨some 14, .mov (.t 108), none⟩])
   (.seq (.reg [⟨some 109, .mov (.t 8), none⟩,
     ⟨some 110, .mov (.t 12), none⟩,
     ⟨some 111, .idxS 1 (.t 109) (.t 110), none⟩,
     ⟨some 112, .load false 1 (.t 111), none⟩,
     ⟨some 113, .mov (.t 13), none⟩,
     ⟨some 114, .mov (.t 14), none⟩,
     ⟨some 115, .max [(.t 113), (.t 114)], none⟩,
     ⟨some 116, .bin .add false (.t 115) (.c (.int .i64 1)), none⟩,
     ⟨some 117, .bin .neq false (.t 112) (.t 116), none⟩])
   (.cond (.t 117)
    (.seq (.reg [⟨some 6, .mov (.c (.bool false)), none⟩])
    (.ret))
    (.skip)))))
   (.skip))))))
  (.reg [⟨some 64, .mov (.t 12), none⟩,
    ⟨some 65, .bin .add false (.t 64) (.c (.int .i64 1)), none⟩,
    ⟨some 12, .mov (.t 65), none⟩]))))))
 (.seq (.reg [⟨some 119, .load true 4 (.t 3), none⟩,
   ⟨some 120, .mov (.t 1), none⟩,
   ⟨some 121, .mov (.t 2), none⟩,
   ⟨some 122, .call (.c (.fn 33 [] [])) [(.t 119), (.t 120), (.t 121)], none⟩,
   ⟨some 118, .mov (.t 122), none⟩,
   ⟨some 123, .extract (.t 118) 0, none⟩,
   ⟨some 124, .extract (.t 118) 1, none⟩,
   ⟨some 125, .extract (.t 118) 2, none⟩,
   ⟨some 15, .alloc [(.int .i64 0), (.slice [] .nil), (.slice [] .nil), (.slice [] .nil)], none⟩,
   ⟨none, .store 4 (.t 15) (.t 123), none⟩,
   ⟨some 16, .mov (.t 124), none⟩,
   ⟨some 17, .mov (.t 125), none⟩])
 (.seq (.reg [⟨some 127, .load true 4 (.t 15), none⟩,
   ⟨some 128, .call (.c (.fn 17 [] [])) [(.t 127)], none⟩,
   ⟨some 126, .mov (.t 128), none⟩,
   ⟨some 129, .extract (.t 126) 0, none⟩,
   ⟨some 130, .extract (.t 126) 1, none⟩,
   ⟨some 18, .mov (.t 129), none⟩,
   ⟨some 19, .mov (.t 130), none⟩])
 (.seq (.reg [⟨some 131, .mov (.t 7), none⟩,
   ⟨some 132, .mov (.t 131), none⟩,
   ⟨some 133, .mov (.t 17), some (132, true)⟩,
   ⟨some 134, .bin .neq false (.t 133) (.c (.int .i64 0)), some (132, true)⟩,
   ⟨some 135, .mov (.t 134), some (132, true)⟩,
   ⟨some 136, .mov (.t 19), some (135, false)⟩,
   ⟨some 137, .bin .eql false (.t 136) (.c (.int .i64 0)), some (135, false)⟩,
   ⟨some 138, .mov (.t 137), some (135, false)⟩,
   ⟨some 139, .mov (.t 16), some (138, true)⟩,
   ⟨some 140, .bin .geq false (.t 139) (.c (.int .i64 0)), some (138, true)⟩,
   ⟨some 141, .pick (.t 138) (.t 140) (.c (.bool false)), some (135, false)⟩,
   ⟨some 142, .mov (.t 141), some (135, false)⟩,
   ⟨some 143, .mov (.t 16), some (142, true)⟩,
   ⟨some 144, .bin .quo false (.t 143) (.c (.int .i64 2)), some (142, true)⟩,
   ⟨some 145, .mov (.t 18), some (142, true)⟩,
   ⟨some 146, .len (.t 145), some (142, true)⟩,
   ⟨some 147, .bin .lss false (.t 144) (.t 146), some (142, true)⟩,
   ⟨some 148, .pick (.t 142) (.t 147) (.c (.bool false)), some (135, false)⟩,
   ⟨some 149, .mov (.t 148), some (135, false)⟩,
   ⟨some 150, .mov (.t 18), some (149, true)⟩,
   ⟨some 151, .mov (.t 16), some (149, true)⟩,
   ⟨some 152, .bin .quo false (.t 151) (.c (.int .i64 2)), some (149, true)⟩,
   ⟨some 153, .idxS 1 (.t 150) (.t 152), some (149, true)⟩,
   ⟨some 154, .load false 1 (.t 153), some (149, true)⟩,
   ⟨some 155, .mov (.t 11), some (149, true)⟩,
   ⟨some 156, .bin .add false (.t 155) (.c (.int .i64 1)), some (149, true)⟩,
   ⟨some 157, .bin .leq false (.t 154) (.t 156), some (149, true)⟩,
   ⟨some 158, .pick (.t 149) (.t 157) (.c (.bool false)), some (135, false)⟩,
   ⟨some 159, .pick (.t 135) (.c (.bool true)) (.t 158), some (132, true)⟩,
   ⟨some 160, .pick (.t 132) (.t 159) (.c (.bool false)), none⟩,
   ⟨some 6, .mov (.t 160), none⟩])
 (.ret))))))))))))
def r6 : List ARV := [.tmp 6]
theorem b6 : Try.f6.body.bind (tr Try.prog 161) = some c6.bare := by kernel_rfl
theorem q6 : trRes Try.prog Try.f6.results.toList = some r6 := by kernel_rfl
theorem n6 : (Try.f6.name == "runtime.NumGoroutine") = false := by kernel_rfl

/-- filigree/filigreelaw18.AigPlain [g:0, a:1, g:2, a:3, up:5] -/
def c7 : ACode :=
 .seq (.reg [⟨some 2, .boxI (.t 0), none⟩,
   ⟨some 4, .mov (.c (.bool false)), none⟩])
 (.seq (.reg [⟨some 6, .call (.c (.fn 13 [] [])) [], none⟩,
   ⟨some 5, .mov (.t 6), none⟩])
 (.seq (.seq (.reg [⟨some 7, .load true 4 (.t 2), none⟩,
   ⟨some 8, .call (.c (.fn 14 [] [])) [(.t 7)], none⟩,
   ⟨some 9, .un .not (.t 8), none⟩,
   ⟨some 10, .mov (.t 9), none⟩,
   ⟨some 11, .load true 4 (.t 2), some (10, false)⟩,
   ⟨some 12, .call (.c (.fn 20 [] [])) [(.t 11)], some (10, false)⟩,
   ⟨some 13, .bin .neq false (.t 12) (.c (.int .i64 0)), some (10, false)⟩,
   ⟨some 14, .pick (.t 10) (.c (.bool true)) (.t 13), none⟩,
   ⟨some 15, .mov (.t 14), none⟩,
   ⟨some 16, .load true 4 (.t 2), some (15, false)⟩,
   ⟨some 17, .call (.c (.fn 32 [] [])) [(.t 16)], some (15, false)⟩,
   ⟨some 18, .mov (.t 1), some (15, false)⟩,
   ⟨some 19, .call (.c (.fn 34 [] [])) [(.t 17), (.t 18)], some (15, false)⟩,
   ⟨some 20, .un .not (.t 19), some (15, false)⟩,
   ⟨some 21, .pick (.t 15) (.c (.bool true)) (.t 20), none⟩])
 (.cond (.t 21)
  (.seq (.reg [⟨some 22, .mov (.t 5), none⟩,
    ⟨some 4, .mov (.t 22), none⟩])
  (.ret))
  (.skip)))
 (.seq (.reg [⟨some 23, .mov (.t 5), none⟩,
   ⟨some 24, .mov (.t 23), none⟩,
   ⟨some 25, .load true 4 (.t 2), some (24, true)⟩,
   ⟨some 26, .mov (.t 1), some (24, true)⟩,
   ⟨some 27, .call (.c (.fn 35 [] [])) [(.t 25), (.t 26), (.c (.int .i64 0)), (.c (.int .i64 0))], some (24, true)⟩,
   ⟨some 28, .pick (.t 24) (.t 27) (.c (.bool false)), none⟩,
   ⟨some 29, .mov (.t 28), none⟩,
   ⟨some 30, .load true 4 (.t 2), some (29, true)⟩,
   ⟨some 31, .mov (.t 1), some (29, true)⟩,
   ⟨some 32, .mov (.t 1), some (29, true)⟩,
   ⟨some 33, .call (.c (.fn 35 [] [])) [(.t 30), (.c (.int .i64 1)), (.t 31), (.t 32)], some (29, true)⟩,
   ⟨some 34, .pick (.t 29) (.t 33) (.c (.bool false)), none⟩,
   ⟨some 35, .mov (.t 34), none⟩,
   ⟨some 36, .load true 4 (.t 2), some (35, true)⟩,
   ⟨some 37, .mov (.t 1), some (35, true)⟩,
   ⟨some 38, .mov (.t 1), some (35, true)⟩,
   ⟨some 39, .mov (.t 1), some (35, true)⟩,
   ⟨some 40, .call (.c (.fn 35 [] [])) [(.t 36), (.t 37), (.t 38), (.t 39)], some (35, true)⟩,
   ⟨some 41, .pick (.t 35) (.t 40) (.c (.bool false)), none⟩,
   ⟨some 42, .mov (.t 41), none⟩,
   ⟨some 43, .load true 4 (.t 2), some (42, true)⟩,
   ⟨some 44, .mov (.t 1), some (42, true)⟩,
   ⟨some 45, .mov (.t 1), some (42, true)⟩,
   ⟨some 46, .bin .xor false (.t 45) (.c (.int .i64 1)), some (42, true)⟩,
   ⟨some 47, .call (.c (.fn 35 [] [])) [(.t 43), (.t 44), (.t 46), (.c (.int .i64 0))], some (42, true)⟩,
   ⟨some 48, .pick (.t 42) (.t 47) (.c (.bool false)), none⟩,
   ⟨some 49, .mov (.t 48), none⟩,
   ⟨some 50, .load true 4 (.t 2), some (49, true)⟩,
   ⟨some 51, .mov (.t 1), some (49, true)⟩,
   ⟨some 52, .mov (.t 1), some (49, true)⟩,
   ⟨some 53, .call (.c (.fn 36 [] [])) [(.t 50), (.t 51), (.c (.int .i64 0)), (.t 52)], some (49, true)⟩,
   ⟨some 54, .pick (.t 49) (.t 53) (.c (.bool false)), none⟩,
   ⟨some 55, .mov (.t 54), none⟩,
   ⟨some 56, .load true 4 (.t 2), some (55, true)⟩,
   ⟨some 57, .mov (.t 1), some (55, true)⟩,
   ⟨some 58, .call (.c (.fn 36 [] [])) [(.t 56), (.c (.int .i64 1)), (.t 57), (.c (.int .i64 1))], some (55, true)⟩,
   ⟨some 59, .pick (.t 55) (.t 58) (.c (.bool false)), none⟩,
   ⟨some 60, .mov (.t 59), none⟩,
   ⟨some 61, .load true 4 (.t 2), some (60, true)⟩,
   ⟨some 62, .mov (.t 1), some (60, true)⟩,
   ⟨some 63, .mov (.t 1), some (60, true)⟩,
   ⟨some 64, .mov (.t 1), some (60, true)⟩,
   ⟨some 65, .call (.c (.fn 36 [] [])) [(.t 61), (.t 62), (.t 63), (.t 64)], some (60, true)⟩,
   ⟨some 66, .pick (.t 60) (.t 65) (.c (.bool false)), none⟩,
   ⟨some 67, .mov (.t 66), none⟩,
   ⟨some 68, .load true 4 (.t 2), some (67, true)⟩,
   ⟨some 69, .mov (.t 1), some (67, true)⟩,
   ⟨some 70, .bin .xor false (.t 69) (.c (.int .i64 1)), some (67, true)⟩,
   ⟨some 71, .mov (.t 1), some (67, true)⟩,
   ⟨some 72, .call (.c (.fn 36 [] [])) [(.t 68), (.t 70), (.t 71), (.c (.int .i64 1))], some (67, true)⟩,
   ⟨some 73, .pick (.t 67) (.t 72) (.c (.bool false)), none⟩,
   ⟨some 4, .mov (.t 73), none⟩])
 (.ret))))
def r7 : List ARV := [.tmp 4]
theorem b7 : Try.f7.body.bind (tr Try.prog 74) = some c7.bare := by kernel_rfl
theorem q7 : trRes Try.prog Try.f7.results.toList = some r7 := by kernel_rfl
theorem n7 : (Try.f7.name == "runtime.NumGoroutine") = false := by kernel_rfl

/-- filigree/filigreelaw18.AigKeeps [g:0, c:1, a:2, b:3, g:4, c:5, a:6, b:7, up:9, h:10, x:11, e:12, i:13, y:14, f:15] -/
def c8 : ACode :=
 .seq (.reg [⟨some 4, .boxI (.t 0), none⟩,
   ⟨some 8, .mov (.c (.bool false)), none⟩])
 (.seq (.reg [⟨some 16, .call (.c (.fn 13 [] [])) [], none⟩,
   ⟨some 9, .mov (.t 16), none⟩])
 (.seq (.seq (.reg [⟨some 17, .load true 4 (.t 4), none⟩,
   ⟨some 18, .call (.c (.fn 14 [] [])) [(.t 17)], none⟩,
   ⟨some 19, .un .not (.t 18), none⟩])
 (.cond (.t 19)
  (.seq (.reg [⟨some 20, .mov (.t 9), none⟩,
    ⟨some 8, .mov (.t 20), none⟩])
  (.ret))
  (.skip)))
 (.seq (.reg [⟨some 22, .load true 4 (.t 4), none⟩,
   ⟨some 23, .mov (.t 2), none⟩,
   ⟨some 24, .mov (.t 3), none⟩,
   ⟨some 25, .call (.c (.fn 33 [] [])) [(.t 22), (.t 23), (.t 24)], none⟩,
   ⟨some 21, .mov (.t 25), none⟩,
   ⟨some 26, .extract (.t 21) 0, none⟩,
   ⟨some 27, .extract (.t 21) 1, none⟩,
   ⟨some 28, .extract (.t 21) 2, none⟩,
   ⟨some 10, .alloc [(.int .i64 0), (.slice [] .nil), (.slice [] .nil), (.slice [] .nil)], none⟩,
   ⟨none, .store 4 (.t 10) (.t 26), none⟩,
   ⟨some 11, .mov (.t 27), none⟩,
   ⟨some 12, .mov (.t 28), none⟩])
 (.seq (.reg [⟨some 30, .load true 4 (.t 4), none⟩,
   ⟨some 31, .mov (.t 1), none⟩,
   ⟨some 32, .mov (.t 2), none⟩,
   ⟨some 33, .mov (.t 3), none⟩,
   ⟨some 34, .call (.c (.fn 37 [] [])) [(.t 30), (.t 31), (.t 32), (.t 33)], none⟩,
   ⟨some 29, .mov (.t 34), none⟩,
   ⟨some 35, .extract (.t 29) 0, none⟩,
   ⟨some 36, .extract (.t 29) 1, none⟩,
   ⟨some 37, .extract (.t 29) 2, none⟩,
   ⟨some 13, .alloc [(.int .i64 0), (.slice [] .nil), (.slice [] .nil), (.slice [] .nil)], none⟩,
   ⟨none, .store 4 (.t 13) (.t 35), none⟩,
   ⟨some 14, .mov (.t 36), none⟩,
   ⟨some 15, .mov (.t 37), none⟩])
 (.seq (.seq (.reg [⟨some 38, .mov (.t 12), none⟩,
   ⟨some 39, .bin .eql false (.t 38) (.c (.int .i64 0)), none⟩,
   ⟨some 40, .mov (.t 39), none⟩,
   ⟨some 41, .load true 4 (.t 4), some (40, true)⟩,
   ⟨some 42, .load true 4 (.t 10), some (40, true)⟩,
   ⟨some 43, .mov (.t 11), some (40, true)⟩,
   ⟨some 44, .call (.c (.fn 38 [] [])) [(.t 41), (.t 42), (.t 43), (.c (.int .i64 1))], some (40, true)⟩,
   ⟨some 45, .un .not (.t 44), some (40, true)⟩,
   ⟨some 46, .pick (.t 40) (.t 45) (.c (.bool false)), none⟩,
   ⟨some 47, .mov (.t 46), none⟩,
   ⟨some 48, .mov (.t 15), some (47, false)⟩,
   ⟨some 49, .bin .eql false (.t 48) (.c (.int .i64 0)), some (47, false)⟩,
   ⟨some 50, .mov (.t 49), some (47, false)⟩,
   ⟨some 51, .load true 4 (.t 4), some (50, true)⟩,
   ⟨some 52, .load true 4 (.t 13), some (50, true)⟩,
   ⟨some 53, .mov (.t 14), some (50, true)⟩,
   ⟨some 54, .call (.c (.fn 38 [] [])) [(.t 51), (.t 52), (.t 53), (.c (.int .i64 3))], some (50, true)⟩,
   ⟨some 55, .un .not (.t 54), some (50, true)⟩,
   ⟨some 56, .pick (.t 50) (.t 55) (.c (.bool false)), some (47, false)⟩,
   ⟨some 57, .pick (.t 47) (.c (.bool true)) (.t 56), none⟩])
 (.cond (.t 57)
  (.seq (.reg [⟨some 8, .mov (.c (.bool false)), none⟩])
  (.ret))
  (.skip)))
 (.seq (.reg [⟨some 58, .mov (.t 9), none⟩,
   ⟨some 8, .mov (.t 58), none⟩])
 (.ret)))))))
def r8 : List ARV := [.tmp 8]
theorem b8 : Try.f8.body.bind (tr Try.prog 59) = some c8.bare := by kernel_rfl
theorem q8 : trRes Try.prog Try.f8.results.toList = some r8 := by kernel_rfl
theorem n8 : (Try.f8.name == "runtime.NumGoroutine") = false := by kernel_rfl

/-- filigree/filigreelaw18.AigOnce [g:0, c:1, a:2, b:3, g:4, c:5, a:6, b:7, up:9, h:10, x:11, e:12, i:13, y:14, f:15, j:16, z:17, k:18, l:19, p:20, m:21, n:22, q:23, o:24, r:25, s:26, t:27] -/
def c9 : ACode :=
 .seq (.reg [⟨some 4, .boxI (.t 0), none⟩,
   ⟨some 8, .mov (.c (.bool false)), none⟩])
 (.seq (.reg [⟨some 28, .call (.c (.fn 13 [] [])) [], none⟩,
   ⟨some 9, .mov (.t 28), none⟩])
 (.seq (.seq (.reg [⟨some 29, .load true 4 (.t 4), none⟩,
   ⟨some 30, .call (.c (.fn 14 [] [])) [(.t 29)], none⟩,
   ⟨some 31, .un .not (.t 30), none⟩])
 (.cond (.t 31)
  (.seq (.reg [⟨some 32, .mov (.t 9), none⟩,
    ⟨some 8, .mov (.t 32), none⟩])
  (.ret))
  (.skip)))
 (.seq (.reg [⟨some 34, .load true 4 (.t 4), none⟩,
   ⟨some 35, .mov (.t 2), none⟩,
   ⟨some 36, .mov (.t 3), none⟩,
   ⟨some 37, .call (.c (.fn 33 [] [])) [(.t 34), (.t 35), (.t 36)], none⟩,
   ⟨some 33, .mov (.t 37), none⟩,
   ⟨some 38, .extract (.t 33) 0, none⟩,
   ⟨some 39, .extract (.t 33) 1, none⟩,
   ⟨some 40, .extract (.t 33) 2, none⟩,
   ⟨some 10, .alloc [(.int .i64 0), (.slice [] .nil), (.slice [] .nil), (.slice [] .nil)], none⟩,
   ⟨none, .store 4 (.t 10) (.t 38), none⟩,
   ⟨some 11, .mov (.t 39), none⟩,
   ⟨some 12, .mov (.t 40), none⟩])
 (.seq (.reg [⟨some 42, .load true 4 (.t 4), none⟩,
   ⟨some 43, .mov (.t 2), none⟩,
   ⟨some 44, .mov (.t 3), none⟩,
   ⟨some 45, .call (.c (.fn 39 [] [])) [(.t 42), (.t 43), (.t 44)], none⟩,
   ⟨some 41, .mov (.t 45), none⟩,
   ⟨some 46, .extract (.t 41) 0, none⟩,
   ⟨some 47, .extract (.t 41) 1, none⟩,
   ⟨some 48, .extract (.t 41) 2, none⟩,
   ⟨some 13, .alloc [(.int .i64 0), (.slice [] .nil), (.slice [] .nil), (.slice [] .nil)], none⟩,
   ⟨none, .store 4 (.t 13) (.t 46), none⟩,
   ⟨some 14, .mov (.t 47), none⟩,
   ⟨some 15, .mov (.t 48), none⟩])
 (.seq (.reg [⟨some 50, .load true 4 (.t 4), none⟩,
   ⟨some 51, .mov (.t 1), none⟩,
   ⟨some 52, .mov (.t 2), none⟩,
   ⟨some 53, .mov (.t 3), none⟩,
   ⟨some 54, .call (.c (.fn 37 [] [])) [(.t 50), (.t 51), (.t 52), (.t 53)], none⟩,
   ⟨some 49, .mov (.t 54), none⟩,
   ⟨some 55, .extract (.t 49) 0, none⟩,
   ⟨some 56, .extract (.t 49) 1, none⟩,
   ⟨some 57, .extract (.t 49) 2, none⟩,
   ⟨some 16, .alloc [(.int .i64 0), (.slice [] .nil), (.slice [] .nil), (.slice [] .nil)], none⟩,
   ⟨none, .store 4 (.t 16) (.t 55), none⟩,
   ⟨some 17, .mov (.t 56), none⟩,
   ⟨some 18, .mov (.t 57), none⟩])
 (.seq (.seq (.reg [⟨some 58, .mov (.t 12), none⟩,
   ⟨some 59, .bin .neq false (.t 58) (.c (.int .i64 0)), none⟩,
   ⟨some 60, .mov (.t 59), none⟩,
   ⟨some 61, .mov (.t 15), some (60, false)⟩,
   ⟨some 62, .bin .neq false (.t 61) (.c (.int .i64 0)), some (60, false)⟩,
   ⟨some 63, .pick (.t 60) (.c (.bool true)) (.t 62), none⟩,
   ⟨some 64, .mov (.t 63), none⟩,
   ⟨some 65, .mov (.t 18), some (64, false)⟩,
   ⟨some 66, .bin .neq false (.t 65) (.c (.int .i64 0)), some (64, false)⟩,
   ⟨some 67, .pick (.t 64) (.c (.bool true)) (.t 66), none⟩])
 (.cond (.t 67)
  (.seq (.reg [⟨some 68, .mov (.t 9), none⟩,
    ⟨some 8, .mov (.t 68), none⟩])
  (.ret))
  (.skip)))
 (.seq (.reg [⟨some 70, .load true 4 (.t 10), none⟩,
   ⟨some 71, .mov (.t 3), none⟩,
   ⟨some 72, .mov (.t 2), none⟩,
   ⟨some 73, .call (.c (.fn 33 [] [])) [(.t 70), (.t 71), (.t 72)], none⟩,
   ⟨some 69, .mov (.t 73), none⟩,
   ⟨some 74, .extract (.t 69) 0, none⟩,
   ⟨some 75, .extract (.t 69) 1, none⟩,
   ⟨some 76, .extract (.t 69) 2, none⟩,
   ⟨some 19, .alloc [(.int .i64 0), (.slice [] .nil), (.slice [] .nil), (.slice [] .nil)], none⟩,
   ⟨none, .store 4 (.t 19) (.t 74), none⟩,
   ⟨some 20, .mov (.t 75), none⟩,
   ⟨some 21, .mov (.t 76), none⟩])
 (.seq (.reg [⟨some 78, .load true 4 (.t 13), none⟩,
   ⟨some 79, .mov (.t 2), none⟩,
   ⟨some 80, .mov (.t 3), none⟩,
   ⟨some 81, .call (.c (.fn 39 [] [])) [(.t 78), (.t 79), (.t 80)], none⟩,
   ⟨some 77, .mov (.t 81), none⟩,
   ⟨some 82, .extract (.t 77) 0, none⟩,
   ⟨some 83, .extract (.t 77) 1, none⟩,
   ⟨some 84, .extract (.t 77) 2, none⟩,
   ⟨some 22, .alloc [(.int .i64 0), (.slice [] .nil), (.slice [] .nil), (.slice [] .nil)], none⟩,
   ⟨none, .store 4 (.t 22) (.t 82), none⟩,
   ⟨some 23, .mov (.t 83), none⟩,
   ⟨some 24, .mov (.t 84), none⟩])
 (.seq (.reg [⟨some 86, .load true 4 (.t 16), none⟩,
   ⟨some 87, .mov (.t 1), none⟩,
   ⟨some 88, .mov (.t 2), none⟩,
   ⟨some 89, .mov (.t 3), none⟩,
   ⟨some 90, .call (.c (.fn 37 [] [])) [(.t 86), (.t 87), (.t 88), (.t 89)], none⟩,
   ⟨some 85, .mov (.t 90), none⟩,
   ⟨some 91, .extract (.t 85) 0, none⟩,
   ⟨some 92, .extract (.t 85) 1, none⟩,
   ⟨some 93, .extract (.t 85) 2, none⟩,
   ⟨some 25, .alloc [(.int .i64 0), (.slice [] .nil), (.slice [] .nil), (.slice [] .nil)], none⟩,
   ⟨none, .store 4 (.t 25) (.t 91), none⟩,
   ⟨some 26, .mov (.t 92), none⟩,
   ⟨some 27, .mov (.t 93), none⟩])
 (.seq (.reg [⟨some 94, .mov (.t 9), none⟩,
   ⟨some 95, .mov (.t 94), none⟩,
   ⟨some 96, .load true 4 (.t 19), some (95, true)⟩,
   ⟨some 97, .load true 4 (.t 10), some (95, true)⟩,
   ⟨some 98, .call (.c (.fn 19 [] [])) [(.t 96), (.t 97)], some (95, true)⟩,
   ⟨some 99, .pick (.t 95) (.t 98) (.c (.bool false)), none⟩,
   ⟨some 100, .mov (.t 99), none⟩,
   ⟨some 101, .mov (.t 20), some (100, true)⟩,
   ⟨some 102, .mov (.t 11), some (100, true)⟩,
   ⟨some 103, .bin .eql false (.t 101) (.t 102), some (100, true)⟩,
   ⟨some 104, .pick (.t 100) (.t 103) (.c (.bool false)), none⟩,
   ⟨some 105, .mov (.t 104), none⟩,
   ⟨some 106, .mov (.t 21), some (105, true)⟩,
   ⟨some 107, .bin .eql false (.t 106) (.c (.int .i64 0)), some (105, true)⟩,
   ⟨some 108, .pick (.t 105) (.t 107) (.c (.bool false)), none⟩,
   ⟨some 109, .mov (.t 108), none⟩,
   ⟨some 110, .load true 4 (.t 22), some (109, true)⟩,
   ⟨some 111, .load true 4 (.t 13), some (109, true)⟩,
   ⟨some 112, .call (.c (.fn 19 [] [])) [(.t 110), (.t 111)], some (109, true)⟩,
   ⟨some 113, .pick (.t 109) (.t 112) (.c (.bool false)), none⟩,
   ⟨some 114, .mov (.t 113), none⟩,
   ⟨some 115, .mov (.t 23), some (114, true)⟩,
   ⟨some 116, .mov (.t 14), some (114, true)⟩,
   ⟨some 117, .bin .eql false (.t 115) (.t 116), some (114, true)⟩,
   ⟨some 118, .pick (.t 114) (.t 117) (.c (.bool false)), none⟩,
   ⟨some 119, .mov (.t 118), none⟩,
   ⟨some 120, .mov (.t 24), some (119, true)⟩,
   ⟨some 121, .bin .eql false (.t 120) (.c (.int .i64 0)), some (119, true)⟩,
   ⟨some 122, .pick (.t 119) (.t 121) (.c (.bool false)), none⟩,
   ⟨some 123, .mov (.t 122), none⟩,
   ⟨some 124, .load true 4 (.t 25), some (123, true)⟩,
   ⟨some 125, .load true 4 (.t 16), some (123, true)⟩,
   ⟨some 126, .call (.c (.fn 19 [] [])) [(.t 124), (.t 125)], some (123, true)⟩,
   ⟨some 127, .pick (.t 123) (.t 126) (.c (.bool false)), none⟩,
   ⟨some 128, .mov (.t 127), none⟩,
   ⟨some 129, .mov (.t 26), some (128, true)⟩,
   ⟨some 130, .mov (.t 17), some (128, true)⟩,
   ⟨some 131, .bin .eql false (.t 129) (.t 130), some (128, true)⟩,
   ⟨some 132, .pick (.t 128) (.t 131) (.c (.bool false)), none⟩,
   ⟨some 133, .mov (.t 132), none⟩,
   ⟨some 134, .mov (.t 27), some (133, true)⟩,
   ⟨some 135, .bin .eql false (.t 134) (.c (.int .i64 0)), some (133, true)⟩,
   ⟨some 136, .pick (.t 133) (.t 135) (.c (.bool false)), none⟩,
   ⟨some 8, .mov (.t 136), none⟩])
 (.ret)))))))))))
def r9 : List ARV := [.tmp 8]
theorem b9 : Try.f9.body.bind (tr Try.prog 137) = some c9.bare := by kernel_rfl
theorem q9 : trRes Try.prog Try.f9.results.toList = some r9 := by kernel_rfl
theorem n9 : (Try.f9.name == "runtime.NumGoroutine") = false := by kernel_rfl

/-- filigree/filigreelaw18.AigGates [g:0, c:1, a:2, b:3, g:4, c:5, a:6, b:7, up:9, h:10, x:11, e:12, i:13, y:14, f:15, j:16, p:17, k:18, l:19, q:20, m:21, n:22, r:23, o:24, s:25, t:26, u:27, v:28, w:29, z:30, aa:31, bb:32, cc:33] -/
def c10 : ACode :=
 .seq (.reg [⟨some 4, .boxI (.t 0), none⟩,
   ⟨some 8, .mov (.c (.bool false)), none⟩])
 (.seq (.reg [⟨some 34, .call (.c (.fn 13 [] [])) [], none⟩,
   ⟨some 9, .mov (.t 34), none⟩])
 (.seq (.seq (.reg [⟨some 35, .load true 4 (.t 4), none⟩,
   ⟨some 36, .call (.c (.fn 14 [] [])) [(.t 35)], none⟩,
   ⟨some 37, .un .not (.t 36), none⟩])
 (.cond (.t 37)
  (.seq (.reg [⟨some 38, .mov (.t 9), none⟩,
    ⟨some 8, .mov (.t 38), none⟩])
  (.ret))
  (.skip)))
 (.seq (.reg [⟨some 40, .load true 4 (.t 4), none⟩,
   ⟨some 41, .mov (.t 2), none⟩,
   ⟨some 42, .mov (.t 3), none⟩,
   ⟨some 43, .call (.c (.fn 33 [] [])) [(.t 40), (.t 41), (.t 42)], none⟩,
   ⟨some 39, .mov (.t 43), none⟩,
   ⟨some 44, .extract (.t 39) 0, none⟩,
   ⟨some 45, .extract (.t 39) 1, none⟩,
   ⟨some 46, .extract (.t 39) 2, none⟩,
   ⟨some 10, .alloc [(.int .i64 0), (.slice [] .nil), (.slice [] .nil), (.slice [] .nil)], none⟩,
   ⟨none, .store 4 (.t 10) (.t 44), none⟩,
   ⟨some 11, .mov (.t 45), none⟩,
   ⟨some 12, .mov (.t 46), none⟩])
 (.seq (.reg [⟨some 48, .load true 4 (.t 4), none⟩,
   ⟨some 49, .mov (.t 2), none⟩,
   ⟨some 50, .mov (.t 3), none⟩,
   ⟨some 51, .call (.c (.fn 40 [] [])) [(.t 48), (.t 49), (.t 50)], none⟩,
   ⟨some 47, .mov (.t 51), none⟩,
   ⟨some 52, .extract (.t 47) 0, none⟩,
   ⟨some 53, .extract (.t 47) 1, none⟩,
   ⟨some 54, .extract (.t 47) 2, none⟩,
   ⟨some 13, .alloc [(.int .i64 0), (.slice [] .nil), (.slice [] .nil), (.slice [] .nil)], none⟩,
   ⟨none, .store 4 (.t 13) (.t 52), none⟩,
   ⟨some 14, .mov (.t 53), none⟩,
   ⟨some 15, .mov (.t 54), none⟩])
 (.seq (.reg [⟨some 56, .load true 4 (.t 4), none⟩,
   ⟨some 57, .mov (.t 2), none⟩,
   ⟨some 58, .mov (.t 3), none⟩,
   ⟨some 59, .call (.c (.fn 41 [] [])) [(.t 56), (.t 57), (.t 58)], none⟩,
   ⟨some 55, .mov (.t 59), none⟩,
   ⟨some 60, .extract (.t 55) 0, none⟩,
   ⟨some 61, .extract (.t 55) 1, none⟩,
   ⟨some 62, .extract (.t 55) 2, none⟩,
   ⟨some 16, .alloc [(.int .i64 0), (.slice [] .nil), (.slice [] .nil), (.slice [] .nil)], none⟩,
   ⟨none, .store 4 (.t 16) (.t 60), none⟩,
   ⟨some 17, .mov (.t 61), none⟩,
   ⟨some 18, .mov (.t 62), none⟩])
 (.seq (.reg [⟨some 64, .load true 4 (.t 4), none⟩,
   ⟨some 65, .mov (.t 2), none⟩,
   ⟨some 66, .mov (.t 3), none⟩,
   ⟨some 67, .call (.c (.fn 42 [] [])) [(.t 64), (.t 65), (.t 66)], none⟩,
   ⟨some 63, .mov (.t 67), none⟩,
   ⟨some 68, .extract (.t 63) 0, none⟩,
   ⟨some 69, .extract (.t 63) 1, none⟩,
   ⟨some 70, .extract (.t 63) 2, none⟩,
   ⟨some 19, .alloc [(.int .i64 0), (.slice [] .nil), (.slice [] .nil), (.slice [] .nil)], none⟩,
   ⟨none, .store 4 (.t 19) (.t 68), none⟩,
   ⟨some 20, .mov (.t 69), none⟩,
   ⟨some 21, .mov (.t 70), none⟩])
 (.seq (.seq (.reg [⟨some 71, .load true 4 (.t 10), none⟩,
   ⟨some 72, .load true 4 (.t 13), none⟩,
   ⟨some 73, .call (.c (.fn 19 [] [])) [(.t 71), (.t 72)], none⟩,
   ⟨some 74, .un .not (.t 73), none⟩,
   ⟨some 75, .mov (.t 74), none⟩,
   ⟨some 76, .mov (.t 11), some (75, false)⟩,
   ⟨some 77, .mov (.t 14), some (75, false)⟩,
   ⟨some 78, .bin .neq false (.t 76) (.t 77), some (75, false)⟩,
   ⟨some 79, .pick (.t 75) (.c (.bool true)) (.t 78), none⟩,
   ⟨some 80, .mov (.t 79), none⟩,
   ⟨some 81, .mov (.t 12), some (80, false)⟩,
   ⟨some 82, .mov (.t 15), some (80, false)⟩,
   ⟨some 83, .bin .neq false (.t 81) (.t 82), some (80, false)⟩,
   ⟨some 84, .pick (.t 80) (.c (.bool true)) (.t 83), none⟩,
   ⟨some 85, .mov (.t 84), none⟩,
   ⟨some 86, .load true 4 (.t 16), some (85, false)⟩,
   ⟨some 87, .load true 4 (.t 19), some (85, false)⟩,
   ⟨some 88, .call (.c (.fn 19 [] [])) [(.t 86), (.t 87)], some (85, false)⟩,
   ⟨some 89, .un .not (.t 88), some (85, false)⟩,
   ⟨some 90, .pick (.t 85) (.c (.bool true)) (.t 89), none⟩,
   ⟨some 91, .mov (.t 90), none⟩,
   ⟨some 92, .mov (.t 17), some (91, false)⟩,
   ⟨some 93, .mov (.t 20), some (91, false)⟩,
   ⟨some 94, .bin .neq false (.t 92) (.t 93), some (91, false)⟩,
   ⟨some 95, .pick (.t 91) (.c (.bool true)) (.t 94), none⟩,
   ⟨some 96, .mov (.t 95), none⟩,
   ⟨some 97, .mov (.t 18), some (96, false)⟩,
   ⟨some 98, .mov (.t 21), some (96, false)⟩,
   ⟨some 99, .bin .neq false (.t 97) (.t 98), some (96, false)⟩,
   ⟨some 100, .pick (.t 96) (.c (.bool true)) (.t 99), none⟩])
 (.cond (.t 100)
  (.seq (.reg [⟨some 8, .mov (.c (.bool false)), none⟩])
  (.ret))
  (.skip)))
 (.seq (.reg [⟨some 102, .load true 4 (.t 4), none⟩,
   ⟨some 103, .mov (.t 2), none⟩,
   ⟨some 104, .mov (.t 3), none⟩,
   ⟨some 105, .call (.c (.fn 39 [] [])) [(.t 102), (.t 103), (.t 104)], none⟩,
   ⟨some 101, .mov (.t 105), none⟩,
   ⟨some 106, .extract (.t 101) 0, none⟩,
   ⟨some 107, .extract (.t 101) 1, none⟩,
   ⟨some 108, .extract (.t 101) 2, none⟩,
   ⟨some 22, .alloc [(.int .i64 0), (.slice [] .nil), (.slice [] .nil), (.slice [] .nil)], none⟩,
   ⟨none, .store 4 (.t 22) (.t 106), none⟩,
   ⟨some 23, .mov (.t 107), none⟩,
   ⟨some 24, .mov (.t 108), none⟩])
 (.seq (.reg [⟨some 110, .load true 4 (.t 4), none⟩,
   ⟨some 111, .mov (.t 2), none⟩,
   ⟨some 112, .mov (.t 3), none⟩,
   ⟨some 113, .call (.c (.fn 43 [] [])) [(.t 110), (.t 111), (.t 112)], none⟩,
   ⟨some 109, .mov (.t 113), none⟩,
   ⟨some 114, .extract (.t 109) 0, none⟩,
   ⟨some 115, .extract (.t 109) 1, none⟩,
   ⟨some 116, .extract (.t 109) 2, none⟩,
   ⟨some 25, .alloc [(.int .i64 0), (.slice [] .nil), (.slice [] .nil), (.slice [] .nil)], none⟩,
   ⟨none, .store 4 (.t 25) (.t 114), none⟩,
   ⟨some 26, .mov (.t 115), none⟩,
   ⟨some 27, .mov (.t 116), none⟩])
 (.seq (.reg [⟨some 118, .load true 4 (.t 4), none⟩,
   ⟨some 119, .mov (.t 1), none⟩,
   ⟨some 120, .mov (.t 2), none⟩,
   ⟨some 121, .mov (.t 3), none⟩,
   ⟨some 122, .call (.c (.fn 37 [] [])) [(.t 118), (.t 119), (.t 120), (.t 121)], none⟩,
   ⟨some 117, .mov (.t 122), none⟩,
   ⟨some 123, .extract (.t 117) 0, none⟩,
   ⟨some 124, .extract (.t 117) 1, none⟩,
   ⟨some 125, .extract (.t 117) 2, none⟩,
   ⟨some 28, .alloc [(.int .i64 0), (.slice [] .nil), (.slice [] .nil), (.slice [] .nil)], none⟩,
   ⟨none, .store 4 (.t 28) (.t 123), none⟩,
   ⟨some 29, .mov (.t 124), none⟩,
   ⟨some 30, .mov (.t 125), none⟩])
 (.seq (.reg [⟨some 127, .load true 4 (.t 4), none⟩,
   ⟨some 128, .mov (.t 1), none⟩,
   ⟨some 129, .mov (.t 2), none⟩,
   ⟨some 130, .mov (.t 3), none⟩,
   ⟨some 131, .call (.c (.fn 44 [] [])) [(.t 127), (.t 128), (.t 129), (.t 130)], none⟩,
   ⟨some 126, .mov (.t 131), none⟩,
   ⟨some 132, .extract (.t 126) 0, none⟩,
   ⟨some 133, .extract (.t 126) 1, none⟩,
   ⟨some 134, .extract (.t 126) 2, none⟩,
   ⟨some 31, .alloc [(.int .i64 0), (.slice [] .nil), (.slice [] .nil), (.slice [] .nil)], none⟩,
   ⟨none, .store 4 (.t 31) (.t 132), none⟩,
   ⟨some 32, .mov (.t 133), none⟩,
   ⟨some 33, .mov (.t 134), none⟩])
 (.seq (.reg [⟨some 135, .mov (.t 9), none⟩,
   ⟨some 136, .mov (.t 135), none⟩,
   ⟨some 137, .load true 4 (.t 22), some (136, true)⟩,
   ⟨some 138, .load true 4 (.t 25), some (136, true)⟩,
   ⟨some 139, .call (.c (.fn 19 [] [])) [(.t 137), (.t 138)], some (136, true)⟩,
   ⟨some 140, .pick (.t 136) (.t 139) (.c (.bool false)), none⟩,
   ⟨some 141, .mov (.t 140), none⟩,
   ⟨some 142, .mov (.t 23), some (141, true)⟩,
   ⟨some 143, .mov (.t 26), some (141, true)⟩,
   ⟨some 144, .bin .eql false (.t 142) (.t 143), some (141, true)⟩,
   ⟨some 145, .pick (.t 141) (.t 144) (.c (.bool false)), none⟩,
   ⟨some 146, .mov (.t 145), none⟩,
   ⟨some 147, .mov (.t 24), some (146, true)⟩,
   ⟨some 148, .mov (.t 27), some (146, true)⟩,
   ⟨some 149, .bin .eql false (.t 147) (.t 148), some (146, true)⟩,
   ⟨some 150, .pick (.t 146) (.t 149) (.c (.bool false)), none⟩,
   ⟨some 151, .mov (.t 150), none⟩,
   ⟨some 152, .load true 4 (.t 28), some (151, true)⟩,
   ⟨some 153, .load true 4 (.t 31), some (151, true)⟩,
   ⟨some 154, .call (.c (.fn 19 [] [])) [(.t 152), (.t 153)], some (151, true)⟩,
   ⟨some 155, .pick (.t 151) (.t 154) (.c (.bool false)), none⟩,
   ⟨some 156, .mov (.t 155), none⟩,
   ⟨some 157, .mov (.t 29), some (156, true)⟩,
   ⟨some 158, .mov (.t 32), some (156, true)⟩,
   ⟨some 159, .bin .eql false (.t 157) (.t 158), some (156, true)⟩,
   ⟨some 160, .pick (.t 156) (.t 159) (.c (.bool false)), none⟩,
   ⟨some 161, .mov (.t 160), none⟩,
   ⟨some 162, .mov (.t 30), some (161, true)⟩,
   ⟨some 163, .mov (.t 33), some (161, true)⟩,
   ⟨some 164, .bin .eql false (.t 162) (.t 163), some (161, true)⟩,
   ⟨some 165, .pick (.t 161) (.t 164) (.c (.bool false)), none⟩,
   ⟨some 8, .mov (.t 165), none⟩])
 (.ret)))))))))))))
def r10 : List ARV := [.tmp 8]
theorem b10 : Try.f10.body.bind (tr Try.prog 166) = some c10.bare := by kernel_rfl
theorem q10 : trRes Try.prog Try.f10.results.toList = some r10 := by kernel_rfl
theorem n10 : (Try.f10.name == "runtime.NumGoroutine") = false := by kernel_rfl

/-- filigree/filigreelaw18.AigMeans [g:0, c:1, a:2, b:3, in:4, st:5, g:6, c:7, a:8, b:9, in:10, st:11, up:13, v:14, e:15, h:16, x:17, f:18, i:19, y:20, j:21, k:22, z:23, l:24, m:25, w:26, n:27, nodes:28, p:29, q:30, want:31] -/
def c11 : ACode :=
 .seq (.reg [⟨some 6, .boxI (.t 0), none⟩,
   ⟨some 12, .mov (.c (.bool false)), none⟩])
 (.seq (.reg [⟨some 32, .call (.c (.fn 13 [] [])) [], none⟩,
   ⟨some 13, .mov (.t 32), none⟩])
 (.seq (.seq (.reg [⟨some 33, .load true 4 (.t 6), none⟩,
   ⟨some 34, .call (.c (.fn 14 [] [])) [(.t 33)], none⟩,
   ⟨some 35, .un .not (.t 34), none⟩])
 (.cond (.t 35)
  (.seq (.reg [⟨some 36, .mov (.t 13), none⟩,
    ⟨some 12, .mov (.t 36), none⟩])
  (.ret))
  (.skip)))
 (.seq (.reg [⟨some 38, .load true 4 (.t 6), none⟩,
   ⟨some 39, .mov (.t 4), none⟩,
   ⟨some 40, .mov (.t 5), none⟩,
   ⟨some 41, .call (.c (.fn 23 [] [])) [(.t 38), (.t 39), (.t 40)], none⟩,
   ⟨some 37, .mov (.t 41), none⟩,
   ⟨some 42, .extract (.t 37) 0, none⟩,
   ⟨some 43, .extract (.t 37) 1, none⟩,
   ⟨some 14, .mov (.t 42), none⟩,
   ⟨some 15, .mov (.t 43), none⟩])
 (.seq (.reg [⟨some 45, .load true 4 (.t 6), none⟩,
   ⟨some 46, .mov (.t 2), none⟩,
   ⟨some 47, .mov (.t 3), none⟩,
   ⟨some 48, .call (.c (.fn 33 [] [])) [(.t 45), (.t 46), (.t 47)], none⟩,
   ⟨some 44, .mov (.t 48), none⟩,
   ⟨some 49, .extract (.t 44) 0, none⟩,
   ⟨some 50, .extract (.t 44) 1, none⟩,
   ⟨some 51, .extract (.t 44) 2, none⟩,
   ⟨some 16, .alloc [(.int .i64 0), (.slice [] .nil), (.slice [] .nil), (.slice [] .nil)], none⟩,
   ⟨none, .store 4 (.t 16) (.t 49), none⟩,
   ⟨some 17, .mov (.t 50), none⟩,
   ⟨some 18, .mov (.t 51), none⟩])
 (.seq (.reg [⟨some 53, .load true 4 (.t 6), none⟩,
   ⟨some 54, .mov (.t 2), none⟩,
   ⟨some 55, .mov (.t 3), none⟩,
   ⟨some 56, .call (.c (.fn 41 [] [])) [(.t 53), (.t 54), (.t 55)], none⟩,
   ⟨some 52, .mov (.t 56), none⟩,
   ⟨some 57, .extract (.t 52) 0, none⟩,
   ⟨some 58, .extract (.t 52) 1, none⟩,
   ⟨some 59, .extract (.t 52) 2, none⟩,
   ⟨some 19, .alloc [(.int .i64 0), (.slice [] .nil), (.slice [] .nil), (.slice [] .nil)], none⟩,
   ⟨none, .store 4 (.t 19) (.t 57), none⟩,
   ⟨some 20, .mov (.t 58), none⟩,
   ⟨some 21, .mov (.t 59), none⟩])
 (.seq (.reg [⟨some 61, .load true 4 (.t 6), none⟩,
   ⟨some 62, .mov (.t 2), none⟩,
   ⟨some 63, .mov (.t 3), none⟩,
   ⟨some 64, .call (.c (.fn 39 [] [])) [(.t 61), (.t 62), (.t 63)], none⟩,
   ⟨some 60, .mov (.t 64), none⟩,
   ⟨some 65, .extract (.t 60) 0, none⟩,
   ⟨some 66, .extract (.t 60) 1, none⟩,
   ⟨some 67, .extract (.t 60) 2, none⟩,
   ⟨some 22, .alloc [(.int .i64 0), (.slice [] .nil), (.slice [] .nil), (.slice [] .nil)], none⟩,
   ⟨none, .store 4 (.t 22) (.t 65), none⟩,
   ⟨some 23, .mov (.t 66), none⟩,
   ⟨some 24, .mov (.t 67), none⟩])
 (.seq (.reg [⟨some 69, .load true 4 (.t 6), none⟩,
   ⟨some 70, .mov (.t 1), none⟩,
   ⟨some 71, .mov (.t 2), none⟩,
   ⟨some 72, .mov (.t 3), none⟩,
   ⟨some 73, .call (.c (.fn 37 [] [])) [(.t 69), (.t 70), (.t 71), (.t 72)], none⟩,
   ⟨some 68, .mov (.t 73), none⟩,
   ⟨some 74, .extract (.t 68) 0, none⟩,
   ⟨some 75, .extract (.t 68) 1, none⟩,
   ⟨some 76, .extract (.t 68) 2, none⟩,
   ⟨some 25, .alloc [(.int .i64 0), (.slice [] .nil), (.slice [] .nil), (.slice [] .nil)], none⟩,
   ⟨none, .store 4 (.t 25) (.t 74), none⟩,
   ⟨some 26, .mov (.t 75), none⟩,
   ⟨some 27, .mov (.t 76), none⟩])
 (.seq (.seq (.reg [⟨some 77, .mov (.t 15), none⟩,
   ⟨some 78, .bin .neq false (.t 77) (.c (.int .i64 0)), none⟩,
   ⟨some 79, .mov (.t 78), none⟩,
   ⟨some 80, .mov (.t 18), some (79, false)⟩,
   ⟨some 81, .bin .neq false (.t 80) (.c (.int .i64 0)), some (79, false)⟩,
   ⟨some 82, .pick (.t 79) (.c (.bool true)) (.t 81), none⟩,
   ⟨some 83, .mov (.t 82), none⟩,
   ⟨some 84, .mov (.t 21), some (83, false)⟩,
   ⟨some 85, .bin .neq false (.t 84) (.c (.int .i64 0)), some (83, false)⟩,
   ⟨some 86, .pick (.t 83) (.c (.bool true)) (.t 85), none⟩,
   ⟨some 87, .mov (.t 86), none⟩,
   ⟨some 88, .mov (.t 24), some (87, false)⟩,
   ⟨some 89, .bin .neq false (.t 88) (.c (.int .i64 0)), some (87, false)⟩,
   ⟨some 90, .pick (.t 87) (.c (.bool true)) (.t 89), none⟩,
   ⟨some 91, .mov (.t 90), none⟩,
   ⟨some 92, .mov (.t 27), some (91, false)⟩,
   ⟨some 93, .bin .neq false (.t 92) (.c (.int .i64 0)), some (91, false)⟩,
   ⟨some 94, .pick (.t 91) (.c (.bool true)) (.t 93), none⟩])
 (.cond (.t 94)
  (.seq (.reg [⟨some 95, .mov (.t 13), none⟩,
    ⟨some 12, .mov (.t 95), none⟩])
  (.ret))
  (.skip)))
 (.seq (.reg [⟨some 96, .load true 4 (.t 6), none⟩,
   ⟨some 97, .call (.c (.fn 32 [] [])) [(.t 96)], none⟩,
   ⟨some 28, .mov (.t 97), none⟩])
 (.seq (.seq (.reg [⟨some 98, .mov (.t 14), none⟩,
   ⟨some 99, .len (.t 98), none⟩,
   ⟨some 100, .mov (.t 28), none⟩,
   ⟨some 101, .bin .neq false (.t 99) (.t 100), none⟩,
   ⟨some 102, .mov (.t 101), none⟩,
   ⟨some 103, .mov (.t 28), some (102, false)⟩,
   ⟨some 104, .mov (.t 2), some (102, false)⟩,
   ⟨some 105, .call (.c (.fn 34 [] [])) [(.t 103), (.t 104)], some (102, false)⟩,
   ⟨some 106, .un .not (.t 105), some (102, false)⟩,
   ⟨some 107, .pick (.t 102) (.c (.bool true)) (.t 106), none⟩,
   ⟨some 108, .mov (.t 107), none⟩,
   ⟨some 109, .mov (.t 28), some (108, false)⟩,
   ⟨some 110, .mov (.t 3), some (108, false)⟩,
   ⟨some 111, .call (.c (.fn 34 [] [])) [(.t 109), (.t 110)], some (108, false)⟩,
   ⟨some 112, .un .not (.t 111), some (108, false)⟩,
   ⟨some 113, .pick (.t 108) (.c (.bool true)) (.t 112), none⟩,
   ⟨some 114, .mov (.t 113), none⟩,
   ⟨some 115, .mov (.t 28), some (114, false)⟩,
   ⟨some 116, .mov (.t 1), some (114, false)⟩,
   ⟨some 117, .call (.c (.fn 34 [] [])) [(.t 115), (.t 116)], some (114, false)⟩,
   ⟨some 118, .un .not (.t 117), some (114, false)⟩,
   ⟨some 119, .pick (.t 114) (.c (.bool true)) (.t 118), none⟩])
 (.cond (.t 119)
  (.seq (.reg [⟨some 12, .mov (.c (.bool false)), none⟩])
  (.ret))
  (.skip)))
 (.seq (.reg [⟨some 120, .mov (.t 14), none⟩,
   ⟨some 121, .mov (.t 2), none⟩,
   ⟨some 122, .call (.c (.fn 45 [] [])) [(.t 120), (.t 121)], none⟩,
   ⟨some 29, .mov (.t 122), none⟩])
 (.seq (.reg [⟨some 123, .mov (.t 14), none⟩,
   ⟨some 124, .mov (.t 3), none⟩,
   ⟨some 125, .call (.c (.fn 45 [] [])) [(.t 123), (.t 124)], none⟩,
   ⟨some 30, .mov (.t 125), none⟩])
 (.seq (.reg [⟨some 126, .mov (.t 30), none⟩,
   ⟨some 31, .mov (.t 126), none⟩])
 (.seq (.seq (.reg [⟨some 127, .mov (.t 14), none⟩,
   ⟨some 128, .mov (.t 1), none⟩,
   ⟨some 129, .call (.c (.fn 45 [] [])) [(.t 127), (.t 128)], none⟩])
 (.cond (.t 129)
  (.reg [⟨some 130, .mov (.t 29), none⟩,
    ⟨some 31, .mov (.t 130), none⟩])
  (.skip)))
 (.seq (.reg [⟨some 131, .mov (.t 13), none⟩,
   ⟨some 132, .mov (.t 131), none⟩,
   ⟨some 133, .load true 4 (.t 16), some (132, true)⟩,
   ⟨some 134, .mov (.t 17), some (132, true)⟩,
   ⟨some 135, .mov (.t 4), some (132, true)⟩,
   ⟨some 136, .mov (.t 5), some (132, true)⟩,
   ⟨some 137, .call (.c (.fn 46 [] [])) [(.t 133), (.t 134), (.t 135), (.t 136)], some (132, true)⟩,
   ⟨some 138, .mov (.t 29), some (132, true)⟩,
   ⟨some 139, .mov (.t 138), some (132, true)⟩,
   ⟨some 140, .mov (.t 30), some (139, true)⟩,
   ⟨some 141, .pick (.t 139) (.t 140) (.c (.bool false)), some (132, true)⟩,
   ⟨some 142, .bin .eql true (.t 137) (.t 141), some (132, true)⟩,
   ⟨some 143, .pick (.t 132) (.t 142) (.c (.bool false)), none⟩,
   ⟨some 144, .mov (.t 143), none⟩,
   ⟨some 145, .load true 4 (.t 19), some (144, true)⟩,
   ⟨some 146, .mov (.t 20), some (144, true)⟩,
   ⟨some 147, .mov (.t 4), some (144, true)⟩,
   ⟨some 148, .mov (.t 5), some (144, true)⟩,
   ⟨some 149, .call (.c (.fn 46 [] [])) [(.t 145), (.t 146), (.t 147), (.t 148)], some (144, true)⟩,
   ⟨some 150, .mov (.t 29), some (144, true)⟩,
   ⟨some 151, .mov (.t 150), some (144, true)⟩,
   ⟨some 152, .mov (.t 30), some (151, false)⟩,
   ⟨some 153, .pick (.t 151) (.c (.bool true)) (.t 152), some (144, true)⟩,
   ⟨some 154, .bin .eql true (.t 149) (.t 153), some (144, true)⟩,
   ⟨some 155, .pick (.t 144) (.t 154) (.c (.bool false)), none⟩,
   ⟨some 156, .mov (.t 155), none⟩,
   ⟨some 157, .load true 4 (.t 22), some (156, true)⟩,
   ⟨some 158, .mov (.t 23), some (156, true)⟩,
   ⟨some 159, .mov (.t 4), some (156, true)⟩,
   ⟨some 160, .mov (.t 5), some (156, true)⟩,
   ⟨some 161, .call (.c (.fn 46 [] [])) [(.t 157), (.t 158), (.t 159), (.t 160)], some (156, true)⟩,
   ⟨some 162, .mov (.t 29), some (156, true)⟩,
   ⟨some 163, .mov (.t 30), some (156, true)⟩,
   ⟨some 164, .bin .neq true (.t 162) (.t 163), some (156, true)⟩,
   ⟨some 165, .bin .eql true (.t 161) (.t 164), some (156, true)⟩,
   ⟨some 166, .pick (.t 156) (.t 165) (.c (.bool false)), none⟩,
   ⟨some 167, .mov (.t 166), none⟩,
   ⟨some 168, .load true 4 (.t 25), some (167, true)⟩,
   ⟨some 169, .mov (.t 26), some (167, true)⟩,
   ⟨some 170, .mov (.t 4), some (167, true)⟩,
   ⟨some 171, .mov (.t 5), some (167, true)⟩,
   ⟨some 172, .call (.c (.fn 46 [] [])) [(.t 168), (.t 169), (.t 170), (.t 171)], some (167, true)⟩,
   ⟨some 173, .mov (.t 31), some (167, true)⟩,
   ⟨some 174, .bin .eql true (.t 172) (.t 173), some (167, true)⟩,
   ⟨some 175, .pick (.t 167) (.t 174) (.c (.bool false)), none⟩,
   ⟨some 12, .mov (.t 175), none⟩])
 (.ret))))))))))))))))
def r11 : List ARV := [.tmp 12]
theorem b11 : Try.f11.body.bind (tr Try.prog 176) = some c11.bare := by kernel_rfl
theorem q11 : trRes Try.prog Try.f11.results.toList = some r11 := by kernel_rfl
theorem n11 : (Try.f11.name == "runtime.NumGoroutine") = false := by kernel_rfl

/-- filigree/filigreelaw18.AigTurn [g:0, c:1, a:2, b:3, in:4, st:5, g:6, c:7, a:8, b:9, in:10, st:11, up:13, h:14, x:15, e:16, i:17, y:18, f:19, j:20, z:21, k:22, l:23, w:24, m:25, n:26, p:27, o:28, q:29, r:30, s:31] -/
def c12 : ACode :=
 .seq (.reg [⟨some 6, .boxI (.t 0), none⟩,
   ⟨some 12, .mov (.c (.bool false)), none⟩])
 (.seq (.reg [⟨some 32, .call (.c (.fn 13 [] [])) [], none⟩,
   ⟨some 13, .mov (.t 32), none⟩])
 (.seq (.seq (.reg [⟨some 33, .load true 4 (.t 6), none⟩,
   ⟨some 34, .call (.c (.fn 14 [] [])) [(.t 33)], none⟩,
   ⟨some 35, .un .not (.t 34), none⟩])
 (.cond (.t 35)
  (.seq (.reg [⟨some 36, .mov (.t 13), none⟩,
    ⟨some 12, .mov (.t 36), none⟩])
  (.ret))
  (.skip)))
 (.seq (.reg [⟨some 38, .load true 4 (.t 6), none⟩,
   ⟨some 39, .mov (.t 2), none⟩,
   ⟨some 40, .mov (.t 3), none⟩,
   ⟨some 41, .call (.c (.fn 41 [] [])) [(.t 38), (.t 39), (.t 40)], none⟩,
   ⟨some 37, .mov (.t 41), none⟩,
   ⟨some 42, .extract (.t 37) 0, none⟩,
   ⟨some 43, .extract (.t 37) 1, none⟩,
   ⟨some 44, .extract (.t 37) 2, none⟩,
   ⟨some 14, .alloc [(.int .i64 0), (.slice [] .nil), (.slice [] .nil), (.slice [] .nil)], none⟩,
   ⟨none, .store 4 (.t 14) (.t 42), none⟩,
   ⟨some 15, .mov (.t 43), none⟩,
   ⟨some 16, .mov (.t 44), none⟩])
 (.seq (.reg [⟨some 46, .load true 4 (.t 6), none⟩,
   ⟨some 47, .mov (.t 2), none⟩,
   ⟨some 48, .bin .xor false (.t 47) (.c (.int .i64 1)), none⟩,
   ⟨some 49, .mov (.t 3), none⟩,
   ⟨some 50, .bin .xor false (.t 49) (.c (.int .i64 1)), none⟩,
   ⟨some 51, .call (.c (.fn 33 [] [])) [(.t 46), (.t 48), (.t 50)], none⟩,
   ⟨some 45, .mov (.t 51), none⟩,
   ⟨some 52, .extract (.t 45) 0, none⟩,
   ⟨some 53, .extract (.t 45) 1, none⟩,
   ⟨some 54, .extract (.t 45) 2, none⟩,
   ⟨some 17, .alloc [(.int .i64 0), (.slice [] .nil), (.slice [] .nil), (.slice [] .nil)], none⟩,
   ⟨none, .store 4 (.t 17) (.t 52), none⟩,
   ⟨some 18, .mov (.t 53), none⟩,
   ⟨some 19, .mov (.t 54), none⟩])
 (.seq (.reg [⟨some 56, .load true 4 (.t 6), none⟩,
   ⟨some 57, .mov (.t 2), none⟩,
   ⟨some 58, .mov (.t 3), none⟩,
   ⟨some 59, .call (.c (.fn 39 [] [])) [(.t 56), (.t 57), (.t 58)], none⟩,
   ⟨some 55, .mov (.t 59), none⟩,
   ⟨some 60, .extract (.t 55) 0, none⟩,
   ⟨some 61, .extract (.t 55) 1, none⟩,
   ⟨some 62, .extract (.t 55) 2, none⟩,
   ⟨some 20, .alloc [(.int .i64 0), (.slice [] .nil), (.slice [] .nil), (.slice [] .nil)], none⟩,
   ⟨none, .store 4 (.t 20) (.t 60), none⟩,
   ⟨some 21, .mov (.t 61), none⟩,
   ⟨some 22, .mov (.t 62), none⟩])
 (.seq (.reg [⟨some 64, .load true 4 (.t 6), none⟩,
   ⟨some 65, .mov (.t 2), none⟩,
   ⟨some 66, .bin .xor false (.t 65) (.c (.int .i64 1)), none⟩,
   ⟨some 67, .mov (.t 3), none⟩,
   ⟨some 68, .call (.c (.fn 39 [] [])) [(.t 64), (.t 66), (.t 67)], none⟩,
   ⟨some 63, .mov (.t 68), none⟩,
   ⟨some 69, .extract (.t 63) 0, none⟩,
   ⟨some 70, .extract (.t 63) 1, none⟩,
   ⟨some 71, .extract (.t 63) 2, none⟩,
   ⟨some 23, .alloc [(.int .i64 0), (.slice [] .nil), (.slice [] .nil), (.slice [] .nil)], none⟩,
   ⟨none, .store 4 (.t 23) (.t 69), none⟩,
   ⟨some 24, .mov (.t 70), none⟩,
   ⟨some 25, .mov (.t 71), none⟩])
 (.seq (.reg [⟨some 73, .load true 4 (.t 6), none⟩,
   ⟨some 74, .mov (.t 1), none⟩,
   ⟨some 75, .mov (.t 2), none⟩,
   ⟨some 76, .mov (.t 3), none⟩,
   ⟨some 77, .call (.c (.fn 37 [] [])) [(.t 73), (.t 74), (.t 75), (.t 76)], none⟩,
   ⟨some 72, .mov (.t 77), none⟩,
   ⟨some 78, .extract (.t 72) 0, none⟩,
   ⟨some 79, .extract (.t 72) 1, none⟩,
   ⟨some 80, .extract (.t 72) 2, none⟩,
   ⟨some 26, .alloc [(.int .i64 0), (.slice [] .nil), (.slice [] .nil), (.slice [] .nil)], none⟩,
   ⟨none, .store 4 (.t 26) (.t 78), none⟩,
   ⟨some 27, .mov (.t 79), none⟩,
   ⟨some 28, .mov (.t 80), none⟩])
 (.seq (.reg [⟨some 82, .load true 4 (.t 6), none⟩,
   ⟨some 83, .mov (.t 1), none⟩,
   ⟨some 84, .bin .xor false (.t 83) (.c (.int .i64 1)), none⟩,
   ⟨some 85, .mov (.t 3), none⟩,
   ⟨some 86, .mov (.t 2), none⟩,
   ⟨some 87, .call (.c (.fn 37 [] [])) [(.t 82), (.t 84), (.t 85), (.t 86)], none⟩,
   ⟨some 81, .mov (.t 87), none⟩,
   ⟨some 88, .extract (.t 81) 0, none⟩,
   ⟨some 89, .extract (.t 81) 1, none⟩,
   ⟨some 90, .extract (.t 81) 2, none⟩,
   ⟨some 29, .alloc [(.int .i64 0), (.slice [] .nil), (.slice [] .nil), (.slice [] .nil)], none⟩,
   ⟨none, .store 4 (.t 29) (.t 88), none⟩,
   ⟨some 30, .mov (.t 89), none⟩,
   ⟨some 31, .mov (.t 90), none⟩])
 (.seq (.seq (.reg [⟨some 91, .mov (.t 16), none⟩,
   ⟨some 92, .bin .neq false (.t 91) (.c (.int .i64 0)), none⟩,
   ⟨some 93, .mov (.t 92), none⟩,
   ⟨some 94, .mov (.t 19), some (93, false)⟩,
   ⟨some 95, .bin .neq false (.t 94) (.c (.int .i64 0)), some (93, false)⟩,
   ⟨some 96, .pick (.t 93) (.c (.bool true)) (.t 95), none⟩,
   ⟨some 97, .mov (.t 96), none⟩,
   ⟨some 98, .mov (.t 22), some (97, false)⟩,
   ⟨some 99, .bin .neq false (.t 98) (.c (.int .i64 0)), some (97, false)⟩,
   ⟨some 100, .pick (.t 97) (.c (.bool true)) (.t 99), none⟩,
   ⟨some 101, .mov (.t 100), none⟩,
   ⟨some 102, .mov (.t 25), some (101, false)⟩,
   ⟨some 103, .bin .neq false (.t 102) (.c (.int .i64 0)), some (101, false)⟩,
   ⟨some 104, .pick (.t 101) (.c (.bool true)) (.t 103), none⟩,
   ⟨some 105, .mov (.t 104), none⟩,
   ⟨some 106, .mov (.t 28), some (105, false)⟩,
   ⟨some 107, .bin .neq false (.t 106) (.c (.int .i64 0)), some (105, false)⟩,
   ⟨some 108, .pick (.t 105) (.c (.bool true)) (.t 107), none⟩,
   ⟨some 109, .mov (.t 108), none⟩,
   ⟨some 110, .mov (.t 31), some (109, false)⟩,
   ⟨some 111, .bin .neq false (.t 110) (.c (.int .i64 0)), some (109, false)⟩,
   ⟨some 112, .pick (.t 109) (.c (.bool true)) (.t 111), none⟩,
   ⟨some 113, .mov (.t 112), none⟩,
   ⟨some 114, .mov (.t 4), some (113, false)⟩,
   ⟨some 115, .len (.t 114), some (113, false)⟩,
   ⟨some 116, .fldA 0 (.t 6), some (113, false)⟩,
   ⟨some 117, .load false 1 (.t 116), some (113, false)⟩,
   ⟨some 118, .bin .neq false (.t 115) (.t 117), some (113, false)⟩,
   ⟨some 119, .pick (.t 113) (.c (.bool true)) (.t 118), none⟩,
   ⟨some 120, .mov (.t 119), none⟩,
   ⟨some 121, .mov (.t 5), some (120, false)⟩,
   ⟨some 122, .len (.t 121), some (120, false)⟩,
   ⟨some 123, .fldA 1 (.t 6), some (120, false)⟩,
   ⟨some 124, .load false 1 (.t 123), some (120, false)⟩,
   ⟨some 125, .len (.t 124), some (120, false)⟩,
   ⟨some 126, .bin .neq false (.t 122) (.t 125), some (120, false)⟩,
   ⟨some 127, .pick (.t 120) (.c (.bool true)) (.t 126), none⟩])
 (.cond (.t 127)
  (.seq (.reg [⟨some 128, .mov (.t 13), none⟩,
    ⟨some 12, .mov (.t 128), none⟩])
  (.ret))
  (.skip)))
 (.seq (.drw [⟨some 129, .mov (.t 13), none⟩,
   ⟨some 130, .mov (.t 129), none⟩,
   ⟨some 131, .mov (.t 15), some (130, true)⟩,
   ⟨some 132, .mov (.t 18), some (130, true)⟩,
   ⟨some 133, .bin .xor false (.t 132) (.c (.int .i64 1)), some (130, true)⟩,
   ⟨some 134, .bin .eql false (.t 131) (.t 133), some (130, true)⟩,
   ⟨some 135, .pick (.t 130) (.t 134) (.c (.bool false)), none⟩,
   ⟨some 136, .mov (.t 135), none⟩,
   ⟨some 137, .load true 4 (.t 14), some (136, true)⟩,
   ⟨some 138, .load true 4 (.t 17), some (136, true)⟩,
   ⟨some 139, .call (.c (.fn 19 [] [])) [(.t 137), (.t 138)], some (136, true)⟩,
   ⟨some 140, .pick (.t 136) (.t 139) (.c (.bool false)), none⟩,
   ⟨some 141, .mov (.t 140), none⟩,
   ⟨some 142, .load true 4 (.t 20), some (141, true)⟩,
   ⟨some 143, .mov (.t 21), some (141, true)⟩,
   ⟨some 144, .mov (.t 4), some (141, true)⟩,
   ⟨some 145, .mov (.t 5), some (141, true)⟩,
   ⟨some 146, .call (.c (.fn 46 [] [])) [(.t 142), (.t 143), (.t 144), (.t 145)], some (141, true)⟩,
   ⟨some 147, .load true 4 (.t 23), some (141, true)⟩,
   ⟨some 148, .mov (.t 24), some (141, true)⟩,
   ⟨some 149, .mov (.t 4), some (141, true)⟩,
   ⟨some 150, .mov (.t 5), some (141, true)⟩,
   ⟨some 151, .call (.c (.fn 46 [] [])) [(.t 147), (.t 148), (.t 149), (.t 150)], some (141, true)⟩,
   ⟨some 152, .bin .neq true (.t 146) (.t 151), some (141, true)⟩,
   ⟨some 153, .pick (.t 141) (.t 152) (.c (.bool false)), none⟩,
   ⟨some 154, .mov (.t 153), none⟩,
   ⟨some 155, .load true 4 (.t 26), some (154, true)⟩,
   ⟨some 156, .mov (.t 27), some (154, true)⟩,
   ⟨some 157, .mov (.t 4), some (154, true)⟩,
   ⟨some 158, .mov (.t 5), some (154, true)⟩,
   ⟨some 159, .call (.c (.fn 46 [] [])) [(.t 155), (.t 156), (.t 157), (.t 158)], some (154, true)⟩,
   ⟨some 160, .load true 4 (.t 29), some (154, true)⟩,
   ⟨some 161, .mov (.t 30), some (154, true)⟩,
   ⟨some 162, .mov (.t 4), some (154, true)⟩,
   ⟨some 163, .mov (.t 5), some (154, true)⟩,
   ⟨some 164, .call (.c (.fn 46 [] [])) [(.t 160), (.t 161), (.t 162), (.t 163)], some (154, true)⟩,
   ⟨some 165, .bin .eql true (.t 159) (.t 164), some (154, true)⟩,
   ⟨some 166, .pick (.t 154) (.t 165) (.c (.bool false)), none⟩,
   ⟨some 12, .mov (.t 166), none⟩] [])
 (.ret)))))))))))
def r12 : List ARV := [.tmp 12]
theorem b12 : Try.f12.body.bind (tr Try.prog 167) = some c12.bare := by kernel_rfl
theorem q12 : trRes Try.prog Try.f12.results.toList = some r12 := by kernel_rfl
theorem n12 : (Try.f12.name == "runtime.NumGoroutine") = false := by kernel_rfl

/-- filigree/filigreelaw18.live [g:1, e:2, h:3, x:4, f:5, _:6, y:7, i:8, n:9, j:10, t:11, o:12, k:13, l:14, m:15] -/
def c13 : ACode :=
 .seq (.reg [⟨some 0, .mov (.c (.bool false)), none⟩])
 (.seq (.reg [⟨some 17, .call (.c (.fn 15 [] [])) [(.c (.int .i64 2)), (.c (.slice [] .nil))], none⟩,
   ⟨some 16, .mov (.t 17), none⟩,
   ⟨some 18, .extract (.t 16) 0, none⟩,
   ⟨some 19, .extract (.t 16) 1, none⟩,
   ⟨some 1, .alloc [(.int .i64 0), (.slice [] .nil), (.slice [] .nil), (.slice [] .nil)], none⟩,
   ⟨none, .store 4 (.t 1) (.t 18), none⟩,
   ⟨some 2, .mov (.t 19), none⟩])
 (.seq (.reg [⟨some 21, .load true 4 (.t 1), none⟩,
   ⟨some 22, .call (.c (.fn 39 [] [])) [(.t 21), (.c (.int .i64 2)), (.c (.int .i64 4))], none⟩,
   ⟨some 20, .mov (.t 22), none⟩,
   ⟨some 23, .extract (.t 20) 0, none⟩,
   ⟨some 24, .extract (.t 20) 1, none⟩,
   ⟨some 25, .extract (.t 20) 2, none⟩,
   ⟨some 3, .alloc [(.int .i64 0), (.slice [] .nil), (.slice [] .nil), (.slice [] .nil)], none⟩,
   ⟨none, .store 4 (.t 3) (.t 23), none⟩,
   ⟨some 4, .mov (.t 24), none⟩,
   ⟨some 5, .mov (.t 25), none⟩])
 (.seq (.reg [⟨some 27, .load true 4 (.t 1), none⟩,
   ⟨some 28, .call (.c (.fn 33 [] [])) [(.t 27), (.c (.int .i64 2)), (.c (.int .i64 3))], none⟩,
   ⟨some 26, .mov (.t 28), none⟩,
   ⟨some 29, .extract (.t 26) 0, none⟩,
   ⟨some 30, .extract (.t 26) 1, none⟩,
   ⟨some 31, .extract (.t 26) 2, none⟩,
   ⟨some 6, .alloc [(.int .i64 0), (.slice [] .nil), (.slice [] .nil), (.slice [] .nil)], none⟩,
   ⟨none, .store 4 (.t 6) (.t 29), none⟩,
   ⟨some 7, .mov (.t 30), none⟩,
   ⟨some 8, .mov (.t 31), none⟩])
 (.seq (.reg [⟨some 33, .load true 4 (.t 3), none⟩,
   ⟨some 34, .bslice 1 [(.c (.bool true)), (.c (.bool false))], none⟩,
   ⟨some 35, .call (.c (.fn 23 [] [])) [(.t 33), (.t 34), (.c (.slice [] .nil))], none⟩,
   ⟨some 32, .mov (.t 35), none⟩,
   ⟨some 36, .extract (.t 32) 0, none⟩,
   ⟨some 37, .extract (.t 32) 1, none⟩,
   ⟨some 9, .mov (.t 36), none⟩,
   ⟨some 10, .mov (.t 37), none⟩])
 (.seq (.seq (.reg [⟨some 38, .mov (.t 2), none⟩,
   ⟨some 39, .bin .neq false (.t 38) (.c (.int .i64 0)), none⟩,
   ⟨some 40, .mov (.t 39), none⟩,
   ⟨some 41, .mov (.t 5), some (40, false)⟩,
   ⟨some 42, .bin .neq false (.t 41) (.c (.int .i64 0)), some (40, false)⟩,
   ⟨some 43, .pick (.t 40) (.c (.bool true)) (.t 42), none⟩,
   ⟨some 44, .mov (.t 43), none⟩,
   ⟨some 45, .mov (.t 8), some (44, false)⟩,
   ⟨some 46, .bin .neq false (.t 45) (.c (.int .i64 0)), some (44, false)⟩,
   ⟨some 47, .pick (.t 44) (.c (.bool true)) (.t 46), none⟩,
   ⟨some 48, .mov (.t 47), none⟩,
   ⟨some 49, .mov (.t 10), some (48, false)⟩,
   ⟨some 50, .bin .neq false (.t 49) (.c (.int .i64 0)), some (48, false)⟩,
   ⟨some 51, .pick (.t 48) (.c (.bool true)) (.t 50), none⟩,
   ⟨some 52, .mov (.t 51), none⟩,
   ⟨some 53, .fldA 2 (.t 3), some (52, false)⟩,
   ⟨some 54, .load false 1 (.t 53), some (52, false)⟩,
   ⟨some 55, .len (.t 54), some (52, false)⟩,
   ⟨some 56, .bin .neq false (.t 55) (.c (.int .i64 3)), some (52, false)⟩,
   ⟨some 57, .pick (.t 52) (.c (.bool true)) (.t 56), none⟩,
   ⟨some 58, .mov (.t 57), none⟩,
   ⟨some 59, .mov (.t 7), some (58, false)⟩,
   ⟨some 60, .bin .neq false (.t 59) (.c (.int .i64 0)), some (58, false)⟩,
   ⟨some 61, .pick (.t 58) (.c (.bool true)) (.t 60), none⟩,
   ⟨some 62, .mov (.t 61), none⟩,
   ⟨some 63, .mov (.t 9), some (62, false)⟩,
   ⟨some 64, .len (.t 63), some (62, false)⟩,
   ⟨some 65, .bin .neq false (.t 64) (.c (.int .i64 6)), some (62, false)⟩,
   ⟨some 66, .pick (.t 62) (.c (.bool true)) (.t 65), none⟩,
   ⟨some 67, .mov (.t 66), none⟩,
   ⟨some 68, .mov (.t 4), some (67, false)⟩,
   ⟨some 69, .call (.c (.fn 34 [] [])) [(.c (.int .i64 6)), (.t 68)], some (67, false)⟩,
   ⟨some 70, .un .not (.t 69), some (67, false)⟩,
   ⟨some 71, .pick (.t 67) (.c (.bool true)) (.t 70), none⟩,
   ⟨some 72, .mov (.t 71), none⟩,
   ⟨some 73, .mov (.t 9), some (72, false)⟩,
   ⟨some 74, .mov (.t 4), some (72, false)⟩,
   ⟨some 75, .call (.c (.fn 45 [] [])) [(.t 73), (.t 74)], some (72, false)⟩,
   ⟨some 76, .un .not (.t 75), some (72, false)⟩,
   ⟨some 77, .pick (.t 72) (.c (.bool true)) (.t 76), none⟩])
 (.cond (.t 77)
  (.seq (.reg [⟨some 0, .mov (.c (.bool false)), none⟩])
  (.ret))
  (.skip)))
 (.seq (.reg [⟨some 78, .build [(.int .i64 0), (.bool false)] [(0, 1, (.c (.int .i64 3))), (1, 1, (.c (.bool true)))], none⟩,
   ⟨some 79, .bslice 2 [(.t 78)], none⟩,
   ⟨some 80, .bslice 1 [(.c (.int .i64 2))], none⟩,
   ⟨some 81, .build [(.int .i64 0), (.slice [] .nil), (.slice [] .nil), (.slice [] .nil)] [(1, 1, (.t 79)), (3, 1, (.t 80))], none⟩,
   ⟨some 11, .alloc [(.int .i64 0), (.slice [] .nil), (.slice [] .nil), (.slice [] .nil)], none⟩,
   ⟨none, .store 4 (.t 11) (.t 81), none⟩])
 (.seq (.reg [⟨some 83, .load true 4 (.t 11), none⟩,
   ⟨some 84, .bslice 1 [(.c (.slice [] .nil)), (.c (.slice [] .nil))], none⟩,
   ⟨some 85, .call (.c (.fn 27 [] [])) [(.t 83), (.t 84)], none⟩,
   ⟨some 82, .mov (.t 85), none⟩,
   ⟨some 86, .extract (.t 82) 0, none⟩,
   ⟨some 87, .extract (.t 82) 1, none⟩,
   ⟨some 12, .mov (.t 86), none⟩,
   ⟨some 13, .mov (.t 87), none⟩])
 (.seq (.reg [⟨some 89, .load true 4 (.t 3), none⟩,
   ⟨some 90, .call (.c (.fn 17 [] [])) [(.t 89)], none⟩,
   ⟨some 88, .mov (.t 90), none⟩,
   ⟨some 91, .extract (.t 88) 0, none⟩,
   ⟨some 92, .extract (.t 88) 1, none⟩,
   ⟨some 14, .mov (.t 91), none⟩,
   ⟨some 15, .mov (.t 92), none⟩])
 (.seq (.seq (.reg [⟨some 93, .mov (.t 13), none⟩,
   ⟨some 94, .bin .neq false (.t 93) (.c (.int .i64 0)), none⟩,
   ⟨some 95, .mov (.t 94), none⟩,
   ⟨some 96, .mov (.t 15), some (95, false)⟩,
   ⟨some 97, .bin .neq false (.t 96) (.c (.int .i64 0)), some (95, false)⟩,
   ⟨some 98, .pick (.t 95) (.c (.bool true)) (.t 97), none⟩,
   ⟨some 99, .mov (.t 98), none⟩,
   ⟨some 100, .mov (.t 12), some (99, false)⟩,
   ⟨some 101, .len (.t 100), some (99, false)⟩,
   ⟨some 102, .bin .neq false (.t 101) (.c (.int .i64 2)), some (99, false)⟩,
   ⟨some 103, .pick (.t 99) (.c (.bool true)) (.t 102), none⟩,
   ⟨some 104, .mov (.t 103), none⟩,
   ⟨some 105, .mov (.t 14), some (104, false)⟩,
   ⟨some 106, .len (.t 105), some (104, false)⟩,
   ⟨some 107, .bin .neq false (.t 106) (.c (.int .i64 6)), some (104, false)⟩,
   ⟨some 108, .pick (.t 104) (.c (.bool true)) (.t 107), none⟩,
   ⟨some 109, .mov (.t 108), none⟩,
   ⟨some 110, .mov (.t 12), some (109, false)⟩,
   ⟨some 111, .idxS 1 (.t 110) (.c (.int .i64 0)), some (109, false)⟩,
   ⟨some 112, .load false 1 (.t 111), some (109, false)⟩,
   ⟨some 113, .len (.t 112), some (109, false)⟩,
   ⟨some 114, .bin .neq false (.t 113) (.c (.int .i64 1)), some (109, false)⟩,
   ⟨some 115, .pick (.t 109) (.c (.bool true)) (.t 114), none⟩,
   ⟨some 116, .mov (.t 115), none⟩,
   ⟨some 117, .mov (.t 12), some (116, false)⟩,
   ⟨some 118, .idxS 1 (.t 117) (.c (.int .i64 1)), some (116, false)⟩,
   ⟨some 119, .load false 1 (.t 118), some (116, false)⟩,
   ⟨some 120, .len (.t 119), some (116, false)⟩,
   ⟨some 121, .bin .neq false (.t 120) (.c (.int .i64 1)), some (116, false)⟩,
   ⟨some 122, .pick (.t 116) (.c (.bool true)) (.t 121), none⟩])
 (.cond (.t 122)
  (.seq (.reg [⟨some 0, .mov (.c (.bool false)), none⟩])
  (.ret))
  (.skip)))
 (.seq (.reg [⟨some 123, .mov (.t 12), none⟩,
   ⟨some 124, .idxS 1 (.t 123) (.c (.int .i64 0)), none⟩,
   ⟨some 125, .load false 1 (.t 124), none⟩,
   ⟨some 126, .idxS 1 (.t 125) (.c (.int .i64 0)), none⟩,
   ⟨some 127, .load false 1 (.t 126), none⟩,
   ⟨some 128, .mov (.t 127), none⟩,
   ⟨some 129, .mov (.t 12), some (128, true)⟩,
   ⟨some 130, .idxS 1 (.t 129) (.c (.int .i64 1)), some (128, true)⟩,
   ⟨some 131, .load false 1 (.t 130), some (128, true)⟩,
   ⟨some 132, .idxS 1 (.t 131) (.c (.int .i64 0)), some (128, true)⟩,
   ⟨some 133, .load false 1 (.t 132), some (128, true)⟩,
   ⟨some 134, .un .not (.t 133), some (128, true)⟩,
   ⟨some 135, .pick (.t 128) (.t 134) (.c (.bool false)), none⟩,
   ⟨some 136, .mov (.t 135), none⟩,
   ⟨some 137, .mov (.t 14), some (136, true)⟩,
   ⟨some 138, .idxS 1 (.t 137) (.c (.int .i64 5)), some (136, true)⟩,
   ⟨some 139, .load false 1 (.t 138), some (136, true)⟩,
   ⟨some 140, .bin .eql false (.t 139) (.c (.int .i64 2)), some (136, true)⟩,
   ⟨some 141, .pick (.t 136) (.t 140) (.c (.bool false)), none⟩,
   ⟨some 142, .mov (.t 141), none⟩,
   ⟨some 143, .bslice 1 [(.c (.int .i64 2))], some (142, true)⟩,
   ⟨some 144, .build [(.int .i64 0), (.slice [] .nil), (.slice [] .nil), (.slice [] .nil)] [(3, 1, (.t 143))], some (142, true)⟩,
   ⟨some 145, .call (.c (.fn 20 [] [])) [(.t 144)], some (142, true)⟩,
   ⟨some 146, .bin .eql false (.t 145) (.c (.int .i64 1)), some (142, true)⟩,
   ⟨some 147, .pick (.t 142) (.t 146) (.c (.bool false)), none⟩,
   ⟨some 148, .mov (.t 147), none⟩,
   ⟨some 149, .load true 4 (.t 3), some (148, true)⟩,
   ⟨some 150, .call (.c (.fn 20 [] [])) [(.t 149)], some (148, true)⟩,
   ⟨some 151, .bin .eql false (.t 150) (.c (.int .i64 0)), some (148, true)⟩,
   ⟨some 152, .pick (.t 148) (.t 151) (.c (.bool false)), none⟩,
   ⟨some 0, .mov (.t 152), none⟩])
 (.ret)))))))))))
def r13 : List ARV := [.tmp 0]
theorem b13 : Try.f13.body.bind (tr Try.prog 153) = some c13.bare := by kernel_rfl
theorem q13 : trRes Try.prog Try.f13.results.toList = some r13 := by kernel_rfl
theorem n13 : (Try.f13.name == "runtime.NumGoroutine") = false := by kernel_rfl

/-- filigree/filigreeref18.Few [g:0, g:1] -/
def c14 : ACode :=
 .seq (.reg [⟨some 1, .boxI (.t 0), none⟩,
   ⟨some 2, .mov (.c (.bool false)), none⟩])
 (.seq (.reg [⟨some 3, .fldA 0 (.t 1), none⟩,
   ⟨some 4, .load false 1 (.t 3), none⟩,
   ⟨some 5, .bin .leq false (.t 4) (.c (.int .i64 200)), none⟩,
   ⟨some 6, .mov (.t 5), none⟩,
   ⟨some 7, .fldA 1 (.t 1), some (6, true)⟩,
   ⟨some 8, .load false 1 (.t 7), some (6, true)⟩,
   ⟨some 9, .len (.t 8), some (6, true)⟩,
   ⟨some 10, .bin .leq false (.t 9) (.c (.int .i64 200)), some (6, true)⟩,
   ⟨some 11, .pick (.t 6) (.t 10) (.c (.bool false)), none⟩,
   ⟨some 12, .mov (.t 11), none⟩,
   ⟨some 13, .fldA 2 (.t 1), some (12, true)⟩,
   ⟨some 14, .load false 1 (.t 13), some (12, true)⟩,
   ⟨some 15, .len (.t 14), some (12, true)⟩,
   ⟨some 16, .bin .leq false (.t 15) (.c (.int .i64 1000)), some (12, true)⟩,
   ⟨some 17, .pick (.t 12) (.t 16) (.c (.bool false)), none⟩,
   ⟨some 18, .mov (.t 17), none⟩,
   ⟨some 19, .fldA 3 (.t 1), some (18, true)⟩,
   ⟨some 20, .load false 1 (.t 19), some (18, true)⟩,
   ⟨some 21, .len (.t 20), some (18, true)⟩,
   ⟨some 22, .bin .leq false (.t 21) (.c (.int .i64 200)), some (18, true)⟩,
   ⟨some 23, .pick (.t 18) (.t 22) (.c (.bool false)), none⟩,
   ⟨some 2, .mov (.t 23), none⟩])
 (.ret))
def r14 : List ARV := [.tmp 2]
theorem b14 : Try.f14.body.bind (tr Try.prog 24) = some c14.bare := by kernel_rfl
theorem q14 : trRes Try.prog Try.f14.results.toList = some r14 := by kernel_rfl
theorem n14 : (Try.f14.name == "runtime.NumGoroutine") = false := by kernel_rfl

/-- filigree/aig.New [ins:0, init:1, ins:2, init:3, g:6, _:7, b:8] -/
def c15 : ACode :=
 .seq (.reg [⟨some 4, .alloc [(.int .i64 0), (.slice [] .nil), (.slice [] .nil), (.slice [] .nil)], none⟩,
   ⟨some 5, .mov (.c (.int .i64 0)), none⟩])
 (.seq (.block 0 (.seq (.reg [⟨some 10, .mov (.t 0), none⟩,
   ⟨some 11, .bin .lss false (.t 10) (.c (.int .i64 0)), none⟩,
   ⟨some 9, .mov (.t 11), none⟩])
 (.cond (.t 9)
  (.seq (.reg [⟨some 12, .build [(.int .i64 0), (.slice [] .nil), (.slice [] .nil), (.slice [] .nil)] [], none⟩,
    ⟨none, .store 4 (.t 4) (.t 12), none⟩,
    ⟨some 5, .mov (.c (.int .i64 1)), none⟩])
  (.ret))
  (.seq (.reg [⟨some 14, .mov (.t 0), none⟩,
    ⟨some 15, .mov (.t 1), none⟩,
    ⟨some 16, .len (.t 15), none⟩,
    ⟨some 17, .bin .sub false (.c (.int .i64 65536)) (.t 16), none⟩,
    ⟨some 18, .bin .gtr false (.t 14) (.t 17), none⟩,
    ⟨some 13, .mov (.t 18), none⟩])
  (.cond (.t 13)
   (.seq (.reg [⟨some 19, .build [(.int .i64 0), (.slice [] .nil), (.slice [] .nil), (.slice [] .nil)] [], none⟩,
     ⟨none, .store 4 (.t 4) (.t 19), none⟩,
     ⟨some 5, .mov (.c (.int .i64 2)), none⟩])
   (.ret))
   (.skip))))))
 (.seq (.reg [⟨some 20, .mov (.t 0), none⟩,
   ⟨some 21, .build [(.int .i64 0), (.slice [] .nil), (.slice [] .nil), (.slice [] .nil)] [(0, 1, (.t 20))], none⟩,
   ⟨some 6, .alloc [(.int .i64 0), (.slice [] .nil), (.slice [] .nil), (.slice [] .nil)], none⟩,
   ⟨none, .store 4 (.t 6) (.t 21), none⟩])
 (.seq (.seq (.reg [⟨some 22, .mov (.t 1), none⟩,
   ⟨some 23, .len (.t 22), none⟩,
   ⟨some 24, .mov (.c (.int .i64 0)), none⟩])
 (.block 1 (.loop (.seq (.reg [⟨some 25, .bin .lss false (.t 24) (.t 23), none⟩])
  (.seq (.cond (.t 25)
   (.skip)
   (.exit 1))
  (.seq (.block 2 (.seq (.reg [⟨some 26, .idxS 1 (.t 22) (.t 24), none⟩,
    ⟨some 27, .load false 1 (.t 26), none⟩,
    ⟨some 8, .mov (.t 27), none⟩])
  (.reg [⟨some 28, .fldA 1 (.t 6), none⟩,
    ⟨some 29, .load false 1 (.t 28), none⟩,
    ⟨some 30, .mov (.t 8), none⟩,
    ⟨some 31, .build [(.int .i64 0), (.bool false)] [(1, 1, (.t 30))], none⟩,
    ⟨some 32, .bslice 2 [(.t 31)], none⟩,
    ⟨some 33, .append 2 16 (.t 29) (.t 32), none⟩,
    ⟨some 34, .fldA 1 (.t 6), none⟩,
    ⟨none, .store 1 (.t 34) (.t 33), none⟩])))
  (.reg [⟨some 35, .bin .add false (.t 24) (.c (.int .i64 1)), none⟩,
    ⟨some 24, .mov (.t 35), none⟩])))))))
 (.seq (.reg [⟨some 36, .load true 4 (.t 6), none⟩,
   ⟨none, .store 4 (.t 4) (.t 36), none⟩,
   ⟨some 5, .mov (.c (.int .i64 0)), none⟩])
 (.ret)))))
def r15 : List ARV := [.cell 4 true 4, .tmp 5]
theorem b15 : Try.f15.body.bind (tr Try.prog 37) = some c15.bare := by kernel_rfl
theorem q15 : trRes Try.prog Try.f15.results.toList = some r15 := by kernel_rfl
theorem n15 : (Try.f15.name == "runtime.NumGoroutine") = false := by kernel_rfl

/-- filigree/filigreeref18.New [ins:0, init:1, ins:2, init:3, g:6, i:7] -/
def c16 : ACode :=
 .seq (.reg [⟨some 4, .alloc [(.int .i64 0), (.slice [] .nil), (.slice [] .nil), (.slice [] .nil)], none⟩,
   ⟨some 5, .mov (.c (.int .i64 0)), none⟩])
 (.seq (.seq (.reg [⟨some 8, .mov (.t 0), none⟩,
   ⟨some 9, .bin .lss false (.t 8) (.c (.int .i64 0)), none⟩])
 (.cond (.t 9)
  (.seq (.reg [⟨some 10, .build [(.int .i64 0), (.slice [] .nil), (.slice [] .nil), (.slice [] .nil)] [], none⟩,
    ⟨none, .store 4 (.t 4) (.t 10), none⟩,
    ⟨some 5, .mov (.c (.int .i64 1)), none⟩])
  (.ret))
  (.skip)))
 (.seq (.seq (.reg [⟨some 11, .mov (.t 0), none⟩,
   ⟨some 12, .bin .gtr false (.t 11) (.c (.int .i64 65536)), none⟩,
   ⟨some 13, .mov (.t 12), none⟩,
   ⟨some 14, .mov (.t 0), some (13, false)⟩,
   ⟨some 15, .mov (.t 1), some (13, false)⟩,
   ⟨some 16, .len (.t 15), some (13, false)⟩,
   ⟨some 17, .bin .add false (.t 14) (.t 16), some (13, false)⟩,
   ⟨some 18, .bin .gtr false (.t 17) (.c (.int .i64 65536)), some (13, false)⟩,
   ⟨some 19, .pick (.t 13) (.c (.bool true)) (.t 18), none⟩])
 (.cond (.t 19)
  (.seq (.reg [⟨some 20, .build [(.int .i64 0), (.slice [] .nil), (.slice [] .nil), (.slice [] .nil)] [], none⟩,
    ⟨none, .store 4 (.t 4) (.t 20), none⟩,
    ⟨some 5, .mov (.c (.int .i64 2)), none⟩])
  (.ret))
  (.skip)))
 (.seq (.reg [⟨some 21, .mov (.t 0), none⟩,
   ⟨some 22, .build [(.int .i64 0), (.slice [] .nil), (.slice [] .nil), (.slice [] .nil)] [(0, 1, (.t 21))], none⟩,
   ⟨some 6, .alloc [(.int .i64 0), (.slice [] .nil), (.slice [] .nil), (.slice [] .nil)], none⟩,
   ⟨none, .store 4 (.t 6) (.t 22), none⟩])
 (.seq (.seq (.reg [⟨some 7, .mov (.c (.int .i64 0)), none⟩])
 (.block 0 (.loop (.seq (.seq (.reg [⟨some 23, .mov (.t 7), none⟩,
    ⟨some 24, .mov (.t 1), none⟩,
    ⟨some 25, .len (.t 24), none⟩,
    ⟨some 26, .bin .lss false (.t 23) (.t 25), none⟩])
  (.cond (.t 26)
   (.skip)
   (.exit 0)))
  (.seq (.block 1 (.drw [⟨some 29, .fldA 1 (.t 6), none⟩,
    ⟨some 30, .load false 1 (.t 29), none⟩,
    ⟨some 31, .mov (.t 1), none⟩,
    ⟨some 32, .mov (.t 7), none⟩,
    ⟨some 33, .idxS 1 (.t 31) (.t 32), none⟩,
    ⟨some 34, .load false 1 (.t 33), none⟩,
    ⟨some 35, .build [(.int .i64 0), (.bool false)] [(1, 1, (.t 34))], none⟩,
    ⟨some 36, .bslice 2 [(.t 35)], none⟩,
    ⟨some 37, .append 2 16 (.t 30) (.t 36), none⟩,
    ⟨some 38, .fldA 1 (.t 6), none⟩,
    ⟨none, .store 1 (.t 38) (.t 37), none⟩] []))
  (.reg [⟨some 27, .mov (.t 7), none⟩,
    ⟨some 28, .bin .add false (.t 27) (.c (.int .i64 1)), none⟩,
    ⟨some 7, .mov (.t 28), none⟩]))))))
 (.seq (.reg [⟨some 39, .load true 4 (.t 6), none⟩,
   ⟨none, .store 4 (.t 4) (.t 39), none⟩,
   ⟨some 5, .mov (.c (.int .i64 0)), none⟩])
 (.ret))))))
def r16 : List ARV := [.cell 4 true 4, .tmp 5]
theorem b16 : Try.f16.body.bind (tr Try.prog 40) = some c16.bare := by kernel_rfl
theorem q16 : trRes Try.prog Try.f16.results.toList = some r16 := by kernel_rfl
theorem n16 : (Try.f16.name == "runtime.NumGoroutine") = false := by kernel_rfl

/-- filigree/aig.Levels [g:0, g:1, w:4, l:5, _:6, x:7] -/
def c17 : ACode :=
 .seq (.reg [⟨some 1, .boxI (.t 0), none⟩,
   ⟨some 2, .mov (.c (.slice [] .nil)), none⟩,
   ⟨some 3, .mov (.c (.int .i64 0)), none⟩])
 (.seq (.reg [⟨some 8, .load true 4 (.t 1), none⟩,
   ⟨some 9, .call (.c (.fn 47 [] [])) [(.t 8), (.c (.slice [] .nil))], none⟩,
   ⟨some 4, .mov (.t 9), none⟩])
 (.seq (.seq (.reg [⟨some 10, .mov (.t 4), none⟩,
   ⟨some 11, .nilchk (.t 10), none⟩,
   ⟨some 12, .fldA 4 (.t 11), none⟩,
   ⟨some 13, .load false 1 (.t 12), none⟩,
   ⟨some 14, .bin .neq false (.t 13) (.c (.int .i64 0)), none⟩])
 (.cond (.t 14)
  (.seq (.drw [⟨some 15, .mov (.t 4), none⟩,
    ⟨some 16, .nilchk (.t 15), none⟩,
    ⟨some 17, .fldA 4 (.t 16), none⟩,
    ⟨some 18, .load false 1 (.t 17), none⟩,
    ⟨some 2, .mov (.c (.slice [] .nil)), none⟩,
    ⟨some 3, .mov (.t 18), none⟩] [])
  (.ret))
  (.skip)))
 (.seq (.reg [⟨some 19, .mov (.t 4), none⟩,
   ⟨some 20, .call (.c (.fn 48 [] [])) [(.t 19)], none⟩,
   ⟨some 21, .mov (.t 4), none⟩,
   ⟨some 22, .call (.c (.fn 49 [] [])) [(.t 21)], none⟩,
   ⟨some 23, .bin .add false (.t 22) (.c (.int .i64 1)), none⟩,
   ⟨some 24, .mkslice 1 8 [(.int .i64 0)] false (.t 20) (.t 23), none⟩,
   ⟨some 5, .mov (.t 24), none⟩])
 (.seq (.seq (.reg [⟨some 25, .mov (.t 4), none⟩,
   ⟨some 26, .nilchk (.t 25), none⟩,
   ⟨some 27, .fldA 0 (.t 26), none⟩,
   ⟨some 28, .fldA 2 (.t 27), none⟩,
   ⟨some 29, .load false 1 (.t 28), none⟩,
   ⟨some 30, .len (.t 29), none⟩,
   ⟨some 31, .mov (.c (.int .i64 0)), none⟩])
 (.block 0 (.loop (.seq (.reg [⟨some 32, .bin .lss false (.t 31) (.t 30), none⟩])
  (.seq (.cond (.t 32)
   (.skip)
   (.exit 0))
  (.seq (.block 1 (.seq (.reg [⟨some 33, .idxS 2 (.t 29) (.t 31), none⟩,
    ⟨some 34, .load true 2 (.t 33), none⟩,
    ⟨some 7, .alloc [(.int .i64 0), (.int .i64 0)], none⟩,
    ⟨none, .store 2 (.t 7) (.t 34), none⟩])
  (.drw [⟨some 35, .mov (.t 5), none⟩,
    ⟨some 36, .mov (.t 5), none⟩,
    ⟨some 37, .idxR 1 2 (.t 7) (.c (.int .i64 0)), none⟩,
    ⟨some 38, .load false 1 (.t 37), none⟩,
    ⟨some 39, .bin .quo false (.t 38) (.c (.int .i64 2)), none⟩,
    ⟨some 40, .idxS 1 (.t 36) (.t 39), none⟩,
    ⟨some 41, .load false 1 (.t 40), none⟩,
    ⟨some 42, .mov (.t 5), none⟩,
    ⟨some 43, .idxR 1 2 (.t 7) (.c (.int .i64 1)), none⟩,
    ⟨some 44, .load false 1 (.t 43), none⟩,
    ⟨some 45, .bin .quo false (.t 44) (.c (.int .i64 2)), none⟩,
    ⟨some 46, .idxS 1 (.t 42) (.t 45), none⟩,
    ⟨some 47, .load false 1 (.t 46), none⟩,
    ⟨some 48, .max [(.t 41), (.t 47)], none⟩,
    ⟨some 49, .bin .add false (.c (.int .i64 1)) (.t 48), none⟩,
    ⟨some 50, .bslice 1 [(.t 49)], none⟩,
    ⟨some 51, .append 1 8 (.t 35) (.t 50), none⟩,
    ⟨some 5, .mov (.t 51), none⟩] [])))
  (.reg [⟨some 52, .bin .add false (.t 31) (.c (.int .i64 1)), none⟩,
    ⟨some 31, .mov (.t 52), none⟩])))))))
 (.seq (.reg [⟨some 53, .mov (.t 5), none⟩,
   ⟨some 2, .mov (.t 53), none⟩,
   ⟨some 3, .mov (.c (.int .i64 0)), none⟩])
 (.ret))))))
def r17 : List ARV := [.tmp 2, .tmp 3]
theorem b17 : Try.f17.body.bind (tr Try.prog 54) = some c17.bare := by kernel_rfl
theorem q17 : trRes Try.prog Try.f17.results.toList = some r17 := by kernel_rfl
theorem n17 : (Try.f17.name == "runtime.NumGoroutine") = false := by kernel_rfl

/-- filigree/filigreeref18.Levels [g:0, g:1, e:4, l:5, i:6] -/
def c18 : ACode :=
 .seq (.reg [⟨some 1, .boxI (.t 0), none⟩,
   ⟨some 2, .mov (.c (.slice [] .nil)), none⟩,
   ⟨some 3, .mov (.c (.int .i64 0)), none⟩])
 (.seq (.reg [⟨some 7, .load true 4 (.t 1), none⟩,
   ⟨some 8, .call (.c (.fn 21 [] [])) [(.t 7)], none⟩,
   ⟨some 4, .mov (.t 8), none⟩])
 (.seq (.seq (.reg [⟨some 9, .mov (.t 4), none⟩,
   ⟨some 10, .bin .neq false (.t 9) (.c (.int .i64 0)), none⟩])
 (.cond (.t 10)
  (.seq (.reg [⟨some 11, .mov (.t 4), none⟩,
    ⟨some 2, .mov (.c (.slice [] .nil)), none⟩,
    ⟨some 3, .mov (.t 11), none⟩])
  (.ret))
  (.skip)))
 (.seq (.reg [⟨some 12, .fldA 0 (.t 1), none⟩,
   ⟨some 13, .load false 1 (.t 12), none⟩,
   ⟨some 14, .bin .add false (.c (.int .i64 1)) (.t 13), none⟩,
   ⟨some 15, .fldA 1 (.t 1), none⟩,
   ⟨some 16, .load false 1 (.t 15), none⟩,
   ⟨some 17, .len (.t 16), none⟩,
   ⟨some 18, .bin .add false (.t 14) (.t 17), none⟩,
   ⟨some 19, .mkslice 1 8 [(.int .i64 0)] false (.t 18) (.t 18), none⟩,
   ⟨some 5, .mov (.t 19), none⟩])
 (.seq (.seq (.reg [⟨some 6, .mov (.c (.int .i64 0)), none⟩])
 (.block 0 (.loop (.seq (.seq (.reg [⟨some 20, .mov (.t 6), none⟩,
    ⟨some 21, .fldA 2 (.t 1), none⟩,
    ⟨some 22, .load false 1 (.t 21), none⟩,
    ⟨some 23, .len (.t 22), none⟩,
    ⟨some 24, .bin .lss false (.t 20) (.t 23), none⟩])
  (.cond (.t 24)
   (.skip)
   (.exit 0)))
  (.seq (.block 1 (.drw [⟨some 27, .mov (.t 5), none⟩,
    ⟨some 28, .mov (.t 5), none⟩,
    ⟨some 29, .fldA 2 (.t 1), none⟩,
    ⟨some 30, .load false 1 (.t 29), none⟩,
    ⟨some 31, .mov (.t 6), none⟩,
    ⟨some 32, .idxS 2 (.t 30) (.t 31), none⟩,
    ⟨some 33, .idxR 1 2 (.t 32) (.c (.int .i64 0)), none⟩,
    ⟨some 34, .load false 1 (.t 33), none⟩,
    ⟨some 35, .bin .quo false (.t 34) (.c (.int .i64 2)), none⟩,
    ⟨some 36, .idxS 1 (.t 28) (.t 35), none⟩,
    ⟨some 37, .load false 1 (.t 36), none⟩,
    ⟨some 38, .mov (.t 5), none⟩,
    ⟨some 39, .fldA 2 (.t 1), none⟩,
    ⟨some 40, .load false 1 (.t 39), none⟩,
    ⟨some 41, .mov (.t 6), none⟩,
    ⟨some 42, .idxS 2 (.t 40) (.t 41), none⟩,
    ⟨some 43, .idxR 1 2 (.t 42) (.c (.int .i64 1)), none⟩,
    ⟨some 44, .load false 1 (.t 43), none⟩,
    ⟨some 45, .bin .quo false (.t 44) (.c (.int .i64 2)), none⟩,
    ⟨some 46, .idxS 1 (.t 38) (.t 45), none⟩,
    ⟨some 47, .load false 1 (.t 46), none⟩,
    ⟨some 48, .max [(.t 37), (.t 47)], none⟩,
    ⟨some 49, .bin .add false (.c (.int .i64 1)) (.t 48), none⟩,
    ⟨some 50, .bslice 1 [(.t 49)], none⟩,
    ⟨some 51, .append 1 8 (.t 27) (.t 50), none⟩,
    ⟨some 5, .mov (.t 51), none⟩] []))
  (.reg [⟨some 25, .mov (.t 6), none⟩,
    ⟨some 26, .bin .add false (.t 25) (.c (.int .i64 1)), none⟩,
    ⟨some 6, .mov (.t 26), none⟩]))))))
 (.seq (.reg [⟨some 52, .mov (.t 5), none⟩,
   ⟨some 2, .mov (.t 52), none⟩,
   ⟨some 3, .mov (.c (.int .i64 0)), none⟩])
 (.ret))))))
def r18 : List ARV := [.tmp 2, .tmp 3]
theorem b18 : Try.f18.body.bind (tr Try.prog 53) = some c18.bare := by kernel_rfl
theorem q18 : trRes Try.prog Try.f18.results.toList = some r18 := by kernel_rfl
theorem n18 : (Try.f18.name == "runtime.NumGoroutine") = false := by kernel_rfl

/-- filigree/filigreeref18.Same [g:0, h:1, g:2, h:3, i:5, i:6, i:7] -/
def c19 : ACode :=
 .seq (.reg [⟨some 2, .boxI (.t 0), none⟩,
   ⟨some 3, .boxI (.t 1), none⟩,
   ⟨some 4, .mov (.c (.bool false)), none⟩])
 (.seq (.seq (.reg [⟨some 8, .fldA 0 (.t 2), none⟩,
   ⟨some 9, .load false 1 (.t 8), none⟩,
   ⟨some 10, .fldA 0 (.t 3), none⟩,
   ⟨some 11, .load false 1 (.t 10), none⟩,
   ⟨some 12, .bin .neq false (.t 9) (.t 11), none⟩,
   ⟨some 13, .mov (.t 12), none⟩,
   ⟨some 14, .fldA 1 (.t 2), some (13, false)⟩,
   ⟨some 15, .load false 1 (.t 14), some (13, false)⟩,
   ⟨some 16, .len (.t 15), some (13, false)⟩,
   ⟨some 17, .fldA 1 (.t 3), some (13, false)⟩,
   ⟨some 18, .load false 1 (.t 17), some (13, false)⟩,
   ⟨some 19, .len (.t 18), some (13, false)⟩,
   ⟨some 20, .bin .neq false (.t 16) (.t 19), some (13, false)⟩,
   ⟨some 21, .pick (.t 13) (.c (.bool true)) (.t 20), none⟩,
   ⟨some 22, .mov (.t 21), none⟩,
   ⟨some 23, .fldA 2 (.t 2), some (22, false)⟩,
   ⟨some 24, .load false 1 (.t 23), some (22, false)⟩,
   ⟨some 25, .len (.t 24), some (22, false)⟩,
   ⟨some 26, .fldA 2 (.t 3), some (22, false)⟩,
   ⟨some 27, .load false 1 (.t 26), some (22, false)⟩,
   ⟨some 28, .len (.t 27), some (22, false)⟩,
   ⟨some 29, .bin .neq false (.t 25) (.t 28), some (22, false)⟩,
   ⟨some 30, .pick (.t 22) (.c (.bool true)) (.t 29), none⟩,
   ⟨some 31, .mov (.t 30), none⟩,
   ⟨some 32, .fldA 3 (.t 2), some (31, false)⟩,
   ⟨some 33, .load false 1 (.t 32), some (31, false)⟩,
   ⟨some 34, .len (.t 33), some (31, false)⟩,
   ⟨some 35, .fldA 3 (.t 3), some (31, false)⟩,
   ⟨some 36, .load false 1 (.t 35), some (31, false)⟩,
   ⟨some 37, .len (.t 36), some (31, false)⟩,
   ⟨some 38, .bin .neq false (.t 34) (.t 37), some (31, false)⟩,
   ⟨some 39, .pick (.t 31) (.c (.bool true)) (.t 38), none⟩])
 (.cond (.t 39)
  (.seq (.reg [⟨some 4, .mov (.c (.bool false)), none⟩])
  (.ret))
  (.skip)))
 (.seq (.seq (.reg [⟨some 5, .mov (.c (.int .i64 0)), none⟩])
 (.block 0 (.loop (.seq (.seq (.reg [⟨some 40, .mov (.t 5), none⟩,
    ⟨some 41, .fldA 1 (.t 2), none⟩,
    ⟨some 42, .load false 1 (.t 41), none⟩,
    ⟨some 43, .len (.t 42), none⟩,
    ⟨some 44, .bin .lss false (.t 40) (.t 43), none⟩])
  (.cond (.t 44)
   (.skip)
   (.exit 0)))
  (.seq (.block 1 (.seq (.drw [⟨some 47, .fldA 1 (.t 2), none⟩,
    ⟨some 48, .load false 1 (.t 47), none⟩,
    ⟨some 49, .mov (.t 5), none⟩,
    ⟨some 50, .idxS 2 (.t 48) (.t 49), none⟩,
    ⟨some 51, .load true 2 (.t 50), none⟩,
    ⟨some 52, .fldA 1 (.t 3), none⟩,
    ⟨some 53, .load false 1 (.t 52), none⟩,
    ⟨some 54, .mov (.t 5), none⟩,
    ⟨some 55, .idxS 2 (.t 53) (.t 54), none⟩,
    ⟨some 56, .load true 2 (.t 55), none⟩,
    ⟨some 57, .eqs true [0, 1] (.t 51) (.t 56), none⟩] [])
  (.cond (.t 57)
   (.seq (.reg [⟨some 4, .mov (.c (.bool false)), none⟩])
   (.ret))
   (.skip))))
  (.reg [⟨some 45, .mov (.t 5), none⟩,
    ⟨some 46, .bin .add false (.t 45) (.c (.int .i64 1)), none⟩,
    ⟨some 5, .mov (.t 46), none⟩]))))))
 (.seq (.seq (.reg [⟨some 6, .mov (.c (.int .i64 0)), none⟩])
 (.block 2 (.loop (.seq (.seq (.reg [⟨some 58, .mov (.t 6), none⟩,
    ⟨some 59, .fldA 2 (.t 2), none⟩,
    ⟨some 60, .load false 1 (.t 59), none⟩,
    ⟨some 61, .len (.t 60), none⟩,
    ⟨some 62, .bin .lss false (.t 58) (.t 61), none⟩])
  (.cond (.t 62)
   (.skip)
   (.exit 2)))
  (.seq (.block 3 (.seq (.drw [⟨some 65, .fldA 2 (.t 2), none⟩,
    ⟨some 66, .load false 1 (.t 65), none⟩,
    ⟨some 67, .mov (.t 6), none⟩,
    ⟨some 68, .idxS 2 (.t 66) (.t 67), none⟩,
    ⟨some 69, .load true 2 (.t 68), none⟩,
    ⟨some 70, .fldA 2 (.t 3), none⟩,
    ⟨some 71, .load false 1 (.t 70), none⟩,
    ⟨some 72, .mov (.t 6), none⟩,
    ⟨some 73, .idxS 2 (.t 71) (.t 72), none⟩,
    ⟨some 74, .load true 2 (.t 73), none⟩,
    ⟨some 75, .eqs true [0, 0] (.t 69) (.t 74), none⟩] [])
  (.cond (.t 75)
   (.seq (.reg [⟨some 4, .mov (.c (.bool false)), none⟩])
   (.ret))
   (.skip))))
  (.reg [⟨some 63, .mov (.t 6), none⟩,
    ⟨some 64, .bin .add false (.t 63) (.c (.int .i64 1)), none⟩,
    ⟨some 6, .mov (.t 64), none⟩]))))))
 (.seq (.seq (.reg [⟨some 7, .mov (.c (.int .i64 0)), none⟩])
 (.block 4 (.loop (.seq (.seq (.reg [⟨some 76, .mov (.t 7), none⟩,
    ⟨some 77, .fldA 3 (.t 2), none⟩,
    ⟨some 78, .load false 1 (.t 77), none⟩,
    ⟨some 79, .len (.t 78), none⟩,
    ⟨some 80, .bin .lss false (.t 76) (.t 79), none⟩])
  (.cond (.t 80)
   (.skip)
   (.exit 4)))
  (.seq (.block 5 (.seq (.drw [⟨some 83, .fldA 3 (.t 2), none⟩,
    ⟨some 84, .load false 1 (.t 83), none⟩,
    ⟨some 85, .mov (.t 7), none⟩,
    ⟨some 86, .idxS 1 (.t 84) (.t 85), none⟩,
    ⟨some 87, .load false 1 (.t 86), none⟩,
    ⟨some 88, .fldA 3 (.t 3), none⟩,
    ⟨some 89, .load false 1 (.t 88), none⟩,
    ⟨some 90, .mov (.t 7), none⟩,
    ⟨some 91, .idxS 1 (.t 89) (.t 90), none⟩,
    ⟨some 92, .load false 1 (.t 91), none⟩,
    ⟨some 93, .bin .neq false (.t 87) (.t 92), none⟩] [])
  (.cond (.t 93)
   (.seq (.reg [⟨some 4, .mov (.c (.bool false)), none⟩])
   (.ret))
   (.skip))))
  (.reg [⟨some 81, .mov (.t 7), none⟩,
    ⟨some 82, .bin .add false (.t 81) (.c (.int .i64 1)), none⟩,
    ⟨some 7, .mov (.t 82), none⟩]))))))
 (.seq (.reg [⟨some 4, .mov (.c (.bool true)), none⟩])
 (.ret))))))
def r19 : List ARV := [.tmp 4]
theorem b19 : Try.f19.body.bind (tr Try.prog 94) = some c19.bare := by kernel_rfl
theorem q19 : trRes Try.prog Try.f19.results.toList = some r19 := by kernel_rfl
theorem n19 : (Try.f19.name == "runtime.NumGoroutine") = false := by kernel_rfl

/-- filigree/aig.Check [g:0, g:1] -/
def c20 : ACode :=
 .seq (.reg [⟨some 1, .boxI (.t 0), none⟩,
   ⟨some 2, .mov (.c (.int .i64 0)), none⟩])
 (.seq (.reg [⟨some 3, .load true 4 (.t 1), none⟩,
   ⟨some 4, .call (.c (.fn 47 [] [])) [(.t 3), (.c (.slice [] .nil))], none⟩,
   ⟨some 5, .nilchk (.t 4), none⟩,
   ⟨some 6, .fldA 4 (.t 5), none⟩,
   ⟨some 7, .load false 1 (.t 6), none⟩,
   ⟨some 2, .mov (.t 7), none⟩])
 (.ret))
def r20 : List ARV := [.tmp 2]
theorem b20 : Try.f20.body.bind (tr Try.prog 8) = some c20.bare := by kernel_rfl
theorem q20 : trRes Try.prog Try.f20.results.toList = some r20 := by kernel_rfl
theorem n20 : (Try.f20.name == "runtime.NumGoroutine") = false := by kernel_rfl

/-- filigree/filigreeref18.Check [g:0, g:1, first:3, i:4, i:5, i:6] -/
def c21 : ACode :=
 .seq (.reg [⟨some 1, .boxI (.t 0), none⟩,
   ⟨some 2, .mov (.c (.int .i64 0)), none⟩])
 (.seq (.seq (.reg [⟨some 7, .fldA 0 (.t 1), none⟩,
   ⟨some 8, .load false 1 (.t 7), none⟩,
   ⟨some 9, .bin .lss false (.t 8) (.c (.int .i64 0)), none⟩])
 (.cond (.t 9)
  (.seq (.reg [⟨some 2, .mov (.c (.int .i64 1)), none⟩])
  (.ret))
  (.skip)))
 (.seq (.seq (.reg [⟨some 10, .fldA 0 (.t 1), none⟩,
   ⟨some 11, .load false 1 (.t 10), none⟩,
   ⟨some 12, .bin .gtr false (.t 11) (.c (.int .i64 65536)), none⟩,
   ⟨some 13, .mov (.t 12), none⟩,
   ⟨some 14, .fldA 0 (.t 1), some (13, false)⟩,
   ⟨some 15, .load false 1 (.t 14), some (13, false)⟩,
   ⟨some 16, .fldA 1 (.t 1), some (13, false)⟩,
   ⟨some 17, .load false 1 (.t 16), some (13, false)⟩,
   ⟨some 18, .len (.t 17), some (13, false)⟩,
   ⟨some 19, .bin .add false (.t 15) (.t 18), some (13, false)⟩,
   ⟨some 20, .fldA 2 (.t 1), some (13, false)⟩,
   ⟨some 21, .load false 1 (.t 20), some (13, false)⟩,
   ⟨some 22, .len (.t 21), some (13, false)⟩,
   ⟨some 23, .bin .add false (.t 19) (.t 22), some (13, false)⟩,
   ⟨some 24, .bin .gtr false (.t 23) (.c (.int .i64 65536)), some (13, false)⟩,
   ⟨some 25, .pick (.t 13) (.c (.bool true)) (.t 24), none⟩,
   ⟨some 26, .mov (.t 25), none⟩,
   ⟨some 27, .fldA 3 (.t 1), some (26, false)⟩,
   ⟨some 28, .load false 1 (.t 27), some (26, false)⟩,
   ⟨some 29, .len (.t 28), some (26, false)⟩,
   ⟨some 30, .bin .gtr false (.t 29) (.c (.int .i64 65536)), some (26, false)⟩,
   ⟨some 31, .pick (.t 26) (.c (.bool true)) (.t 30), none⟩])
 (.cond (.t 31)
  (.seq (.reg [⟨some 2, .mov (.c (.int .i64 2)), none⟩])
  (.ret))
  (.skip)))
 (.seq (.reg [⟨some 32, .fldA 0 (.t 1), none⟩,
   ⟨some 33, .load false 1 (.t 32), none⟩,
   ⟨some 34, .bin .add false (.c (.int .i64 1)) (.t 33), none⟩,
   ⟨some 35, .fldA 1 (.t 1), none⟩,
   ⟨some 36, .load false 1 (.t 35), none⟩,
   ⟨some 37, .len (.t 36), none⟩,
   ⟨some 38, .bin .add false (.t 34) (.t 37), none⟩,
   ⟨some 3, .mov (.t 38), none⟩])
 (.seq (.seq (.reg [⟨some 4, .mov (.c (.int .i64 0)), none⟩])
 (.block 0 (.loop (.seq (.seq (.reg [⟨some 39, .mov (.t 4), none⟩,
    ⟨some 40, .fldA 2 (.t 1), none⟩,
    ⟨some 41, .load false 1 (.t 40), none⟩,
    ⟨some 42, .len (.t 41), none⟩,
    ⟨some 43, .bin .lss false (.t 39) (.t 42), none⟩])
  (.cond (.t 43)
   (.skip)
   (.exit 0)))
  (.seq (.block 1 (.seq (.reg [⟨some 46, .mov (.t 3), none⟩,
    ⟨some 47, .mov (.t 4), none⟩,
    ⟨some 48, .bin .add false (.t 46) (.t 47), none⟩,
    ⟨some 49, .fldA 2 (.t 1), none⟩,
    ⟨some 50, .load false 1 (.t 49), none⟩,
    ⟨some 51, .mov (.t 4), none⟩,
    ⟨some 52, .idxS 2 (.t 50) (.t 51), none⟩,
    ⟨some 53, .idxR 1 2 (.t 52) (.c (.int .i64 0)), none⟩,
    ⟨some 54, .load false 1 (.t 53), none⟩,
    ⟨some 55, .call (.c (.fn 34 [] [])) [(.t 48), (.t 54)], none⟩,
    ⟨some 56, .un .not (.t 55), none⟩,
    ⟨some 57, .mov (.t 56), none⟩,
    ⟨some 58, .mov (.t 3), some (57, false)⟩,
    ⟨some 59, .mov (.t 4), some (57, false)⟩,
    ⟨some 60, .bin .add false (.t 58) (.t 59), some (57, false)⟩,
    ⟨some 61, .fldA 2 (.t 1), some (57, false)⟩,
    ⟨some 62, .load false 1 (.t 61), some (57, false)⟩,
    ⟨some 63, .mov (.t 4), some (57, false)⟩,
    ⟨some 64, .idxS 2 (.t 62) (.t 63), some (57, false)⟩,
    ⟨some 65, .idxR 1 2 (.t 64) (.c (.int .i64 1)), some (57, false)⟩,
    ⟨some 66, .load false 1 (.t 65), some (57, false)⟩,
    ⟨some 67, .call (.c (.fn 34 [] [])) [(.t 60), (.t 66)], some (57, false)⟩,
    ⟨some 68, .un .not (.t 67), some (57, false)⟩,
    ⟨some 69, .pick (.t 57) (.c (.bool true)) (.t 68), none⟩])
  (.cond (.t 69)
   (.seq (.reg [⟨some 2, .mov (.c (.int .i64 1)), none⟩])
   (.ret))
   (.skip))))
  (.reg [⟨some 44, .mov (.t 4), none⟩,
    ⟨some 45, .bin .add false (.t 44) (.c (.int .i64 1)), none⟩,
    ⟨some 4, .mov (.t 45), none⟩]))))))
 (.seq (.seq (.reg [⟨some 5, .mov (.c (.int .i64 0)), none⟩])
 (.block 2 (.loop (.seq (.seq (.reg [⟨some 70, .mov (.t 5), none⟩,
    ⟨some 71, .fldA 1 (.t 1), none⟩,
    ⟨some 72, .load false 1 (.t 71), none⟩,
    ⟨some 73, .len (.t 72), none⟩,
    ⟨some 74, .bin .lss false (.t 70) (.t 73), none⟩])
  (.cond (.t 74)
   (.skip)
   (.exit 2)))
  (.seq (.block 3 (.seq (.drw [⟨some 77, .load true 4 (.t 1), none⟩,
    ⟨some 78, .call (.c (.fn 32 [] [])) [(.t 77)], none⟩,
    ⟨some 79, .fldA 1 (.t 1), none⟩,
    ⟨some 80, .load false 1 (.t 79), none⟩,
    ⟨some 81, .mov (.t 5), none⟩,
    ⟨some 82, .idxS 2 (.t 80) (.t 81), none⟩,
    ⟨some 83, .fldA 0 (.t 82), none⟩,
    ⟨some 84, .load false 1 (.t 83), none⟩,
    ⟨some 85, .call (.c (.fn 34 [] [])) [(.t 78), (.t 84)], none⟩,
    ⟨some 86, .un .not (.t 85), none⟩] [])
  (.cond (.t 86)
   (.seq (.reg [⟨some 2, .mov (.c (.int .i64 1)), none⟩])
   (.ret))
   (.skip))))
  (.reg [⟨some 75, .mov (.t 5), none⟩,
    ⟨some 76, .bin .add false (.t 75) (.c (.int .i64 1)), none⟩,
    ⟨some 5, .mov (.t 76), none⟩]))))))
 (.seq (.seq (.reg [⟨some 6, .mov (.c (.int .i64 0)), none⟩])
 (.block 4 (.loop (.seq (.seq (.reg [⟨some 87, .mov (.t 6), none⟩,
    ⟨some 88, .fldA 3 (.t 1), none⟩,
    ⟨some 89, .load false 1 (.t 88), none⟩,
    ⟨some 90, .len (.t 89), none⟩,
    ⟨some 91, .bin .lss false (.t 87) (.t 90), none⟩])
  (.cond (.t 91)
   (.skip)
   (.exit 4)))
  (.seq (.block 5 (.seq (.drw [⟨some 94, .load true 4 (.t 1), none⟩,
    ⟨some 95, .call (.c (.fn 32 [] [])) [(.t 94)], none⟩,
    ⟨some 96, .fldA 3 (.t 1), none⟩,
    ⟨some 97, .load false 1 (.t 96), none⟩,
    ⟨some 98, .mov (.t 6), none⟩,
    ⟨some 99, .idxS 1 (.t 97) (.t 98), none⟩,
    ⟨some 100, .load false 1 (.t 99), none⟩,
    ⟨some 101, .call (.c (.fn 34 [] [])) [(.t 95), (.t 100)], none⟩,
    ⟨some 102, .un .not (.t 101), none⟩] [])
  (.cond (.t 102)
   (.seq (.reg [⟨some 2, .mov (.c (.int .i64 1)), none⟩])
   (.ret))
   (.skip))))
  (.reg [⟨some 92, .mov (.t 6), none⟩,
    ⟨some 93, .bin .add false (.t 92) (.c (.int .i64 1)), none⟩,
    ⟨some 6, .mov (.t 93), none⟩]))))))
 (.seq (.reg [⟨some 2, .mov (.c (.int .i64 0)), none⟩])
 (.ret))))))))
def r21 : List ARV := [.tmp 2]
theorem b21 : Try.f21.body.bind (tr Try.prog 103) = some c21.bare := by kernel_rfl
theorem q21 : trRes Try.prog Try.f21.results.toList = some r21 := by kernel_rfl
theorem n21 : (Try.f21.name == "runtime.NumGoroutine") = false := by kernel_rfl

/-- filigree/filigreeref18.Ints [a:0, b:1, a:2, b:3, i:5] -/
def c22 : ACode :=
 .seq (.reg [⟨some 4, .mov (.c (.bool false)), none⟩])
 (.seq (.seq (.reg [⟨some 6, .mov (.t 0), none⟩,
   ⟨some 7, .len (.t 6), none⟩,
   ⟨some 8, .mov (.t 1), none⟩,
   ⟨some 9, .len (.t 8), none⟩,
   ⟨some 10, .bin .neq false (.t 7) (.t 9), none⟩])
 (.cond (.t 10)
  (.seq (.reg [⟨some 4, .mov (.c (.bool false)), none⟩])
  (.ret))
  (.skip)))
 (.seq (.seq (.reg [⟨some 5, .mov (.c (.int .i64 0)), none⟩])
 (.block 0 (.loop (.seq (.seq (.reg [⟨some 11, .mov (.t 5), none⟩,
    ⟨some 12, .mov (.t 0), none⟩,
    ⟨some 13, .len (.t 12), none⟩,
    ⟨some 14, .bin .lss false (.t 11) (.t 13), none⟩])
  (.cond (.t 14)
   (.skip)
   (.exit 0)))
  (.seq (.block 1 (.seq (.drw [⟨some 17, .mov (.t 0), none⟩,
    ⟨some 18, .mov (.t 5), none⟩,
    ⟨some 19, .idxS 1 (.t 17) (.t 18), none⟩,
    ⟨some 20, .load false 1 (.t 19), none⟩,
    ⟨some 21, .mov (.t 1), none⟩,
    ⟨some 22, .mov (.t 5), none⟩,
    ⟨some 23, .idxS 1 (.t 21) (.t 22), none⟩,
    ⟨some 24, .load false 1 (.t 23), none⟩,
    ⟨some 25, .bin .neq false (.t 20) (.t 24), none⟩] [])
  (.cond (.t 25)
   (.seq (.reg [⟨some 4, .mov (.c (.bool false)), none⟩])
   (.ret))
   (.skip))))
  (.reg [⟨some 15, .mov (.t 5), none⟩,
    ⟨some 16, .bin .add false (.t 15) (.c (.int .i64 1)), none⟩,
    ⟨some 5, .mov (.t 16), none⟩]))))))
 (.seq (.reg [⟨some 4, .mov (.c (.bool true)), none⟩])
 (.ret))))
def r22 : List ARV := [.tmp 4]
theorem b22 : Try.f22.body.bind (tr Try.prog 26) = some c22.bare := by kernel_rfl
theorem q22 : trRes Try.prog Try.f22.results.toList = some r22 := by kernel_rfl
theorem n22 : (Try.f22.name == "runtime.NumGoroutine") = false := by kernel_rfl

/-- filigree/aig.Nodes [g:0, in:1, st:2, g:3, in:4, st:5, e:8, v:9, _:10, x:11] -/
def c23 : ACode :=
 .seq (.reg [⟨some 3, .boxI (.t 0), none⟩,
   ⟨some 6, .mov (.c (.slice [] .nil)), none⟩,
   ⟨some 7, .mov (.c (.int .i64 0)), none⟩])
 (.seq (.seq (.reg [⟨some 12, .load true 4 (.t 3), none⟩,
   ⟨some 13, .call (.c (.fn 20 [] [])) [(.t 12)], none⟩,
   ⟨some 8, .mov (.t 13), none⟩])
 (.seq (.reg [⟨some 14, .mov (.t 8), none⟩,
   ⟨some 15, .bin .neq false (.t 14) (.c (.int .i64 0)), none⟩])
 (.cond (.t 15)
  (.seq (.reg [⟨some 16, .mov (.t 8), none⟩,
    ⟨some 6, .mov (.c (.slice [] .nil)), none⟩,
    ⟨some 7, .mov (.t 16), none⟩])
  (.ret))
  (.skip))))
 (.seq (.seq (.reg [⟨some 17, .mov (.t 1), none⟩,
   ⟨some 18, .len (.t 17), none⟩,
   ⟨some 19, .fldA 0 (.t 3), none⟩,
   ⟨some 20, .load false 1 (.t 19), none⟩,
   ⟨some 21, .bin .neq false (.t 18) (.t 20), none⟩,
   ⟨some 22, .mov (.t 21), none⟩,
   ⟨some 23, .mov (.t 2), some (22, false)⟩,
   ⟨some 24, .len (.t 23), some (22, false)⟩,
   ⟨some 25, .fldA 1 (.t 3), some (22, false)⟩,
   ⟨some 26, .load false 1 (.t 25), some (22, false)⟩,
   ⟨some 27, .len (.t 26), some (22, false)⟩,
   ⟨some 28, .bin .neq false (.t 24) (.t 27), some (22, false)⟩,
   ⟨some 29, .pick (.t 22) (.c (.bool true)) (.t 28), none⟩])
 (.cond (.t 29)
  (.seq (.reg [⟨some 6, .mov (.c (.slice [] .nil)), none⟩,
    ⟨some 7, .mov (.c (.int .i64 1)), none⟩])
  (.ret))
  (.skip)))
 (.seq (.reg [⟨some 30, .bslice 1 [(.c (.bool false))], none⟩,
   ⟨some 31, .mov (.t 1), none⟩,
   ⟨some 32, .mov (.t 2), none⟩,
   ⟨some 33, .bslice 1 [(.t 30), (.t 31), (.t 32)], none⟩,
   ⟨some 34, .call (.c (.fn 50 [] [])) [(.t 33)], none⟩,
   ⟨some 9, .mov (.t 34), none⟩])
 (.seq (.seq (.reg [⟨some 35, .fldA 2 (.t 3), none⟩,
   ⟨some 36, .load false 1 (.t 35), none⟩,
   ⟨some 37, .len (.t 36), none⟩,
   ⟨some 38, .mov (.c (.int .i64 0)), none⟩])
 (.block 0 (.loop (.seq (.reg [⟨some 39, .bin .lss false (.t 38) (.t 37), none⟩])
  (.seq (.cond (.t 39)
   (.skip)
   (.exit 0))
  (.seq (.block 1 (.seq (.reg [⟨some 40, .idxS 2 (.t 36) (.t 38), none⟩,
    ⟨some 41, .load true 2 (.t 40), none⟩,
    ⟨some 11, .alloc [(.int .i64 0), (.int .i64 0)], none⟩,
    ⟨none, .store 2 (.t 11) (.t 41), none⟩])
  (.reg [⟨some 42, .mov (.t 9), none⟩,
    ⟨some 43, .mov (.t 9), none⟩,
    ⟨some 44, .idxR 1 2 (.t 11) (.c (.int .i64 0)), none⟩,
    ⟨some 45, .load false 1 (.t 44), none⟩,
    ⟨some 46, .call (.c (.fn 51 [] [])) [(.t 43), (.t 45)], none⟩,
    ⟨some 47, .mov (.t 46), none⟩,
    ⟨some 48, .mov (.t 9), some (47, true)⟩,
    ⟨some 49, .idxR 1 2 (.t 11) (.c (.int .i64 1)), some (47, true)⟩,
    ⟨some 50, .load false 1 (.t 49), some (47, true)⟩,
    ⟨some 51, .call (.c (.fn 51 [] [])) [(.t 48), (.t 50)], some (47, true)⟩,
    ⟨some 52, .pick (.t 47) (.t 51) (.c (.bool false)), none⟩,
    ⟨some 53, .bslice 1 [(.t 52)], none⟩,
    ⟨some 54, .append 1 1 (.t 42) (.t 53), none⟩,
    ⟨some 9, .mov (.t 54), none⟩])))
  (.reg [⟨some 55, .bin .add false (.t 38) (.c (.int .i64 1)), none⟩,
    ⟨some 38, .mov (.t 55), none⟩])))))))
 (.seq (.reg [⟨some 56, .mov (.t 9), none⟩,
   ⟨some 6, .mov (.t 56), none⟩,
   ⟨some 7, .mov (.c (.int .i64 0)), none⟩])
 (.ret))))))
def r23 : List ARV := [.tmp 6, .tmp 7]
theorem b23 : Try.f23.body.bind (tr Try.prog 57) = some c23.bare := by kernel_rfl
theorem q23 : trRes Try.prog Try.f23.results.toList = some r23 := by kernel_rfl
theorem n23 : (Try.f23.name == "runtime.NumGoroutine") = false := by kernel_rfl

/-- filigree/filigreeref18.Nodes [g:0, in:1, st:2, g:3, in:4, st:5, e:8, v:9, i:10] -/
def c24 : ACode :=
 .seq (.reg [⟨some 3, .boxI (.t 0), none⟩,
   ⟨some 6, .mov (.c (.slice [] .nil)), none⟩,
   ⟨some 7, .mov (.c (.int .i64 0)), none⟩])
 (.seq (.reg [⟨some 11, .load true 4 (.t 3), none⟩,
   ⟨some 12, .call (.c (.fn 21 [] [])) [(.t 11)], none⟩,
   ⟨some 8, .mov (.t 12), none⟩])
 (.seq (.seq (.reg [⟨some 13, .mov (.t 8), none⟩,
   ⟨some 14, .bin .neq false (.t 13) (.c (.int .i64 0)), none⟩])
 (.cond (.t 14)
  (.seq (.reg [⟨some 15, .mov (.t 8), none⟩,
    ⟨some 6, .mov (.c (.slice [] .nil)), none⟩,
    ⟨some 7, .mov (.t 15), none⟩])
  (.ret))
  (.skip)))
 (.seq (.seq (.reg [⟨some 16, .mov (.t 1), none⟩,
   ⟨some 17, .len (.t 16), none⟩,
   ⟨some 18, .fldA 0 (.t 3), none⟩,
   ⟨some 19, .load false 1 (.t 18), none⟩,
   ⟨some 20, .bin .neq false (.t 17) (.t 19), none⟩,
   ⟨some 21, .mov (.t 20), none⟩,
   ⟨some 22, .mov (.t 2), some (21, false)⟩,
   ⟨some 23, .len (.t 22), some (21, false)⟩,
   ⟨some 24, .fldA 1 (.t 3), some (21, false)⟩,
   ⟨some 25, .load false 1 (.t 24), some (21, false)⟩,
   ⟨some 26, .len (.t 25), some (21, false)⟩,
   ⟨some 27, .bin .neq false (.t 23) (.t 26), some (21, false)⟩,
   ⟨some 28, .pick (.t 21) (.c (.bool true)) (.t 27), none⟩])
 (.cond (.t 28)
  (.seq (.reg [⟨some 6, .mov (.c (.slice [] .nil)), none⟩,
    ⟨some 7, .mov (.c (.int .i64 1)), none⟩])
  (.ret))
  (.skip)))
 (.seq (.reg [⟨some 29, .bslice 1 [(.c (.bool false))], none⟩,
   ⟨some 9, .mov (.t 29), none⟩])
 (.seq (.reg [⟨some 30, .mov (.t 9), none⟩,
   ⟨some 31, .mov (.t 1), none⟩,
   ⟨some 32, .append 1 1 (.t 30) (.t 31), none⟩,
   ⟨some 9, .mov (.t 32), none⟩])
 (.seq (.reg [⟨some 33, .mov (.t 9), none⟩,
   ⟨some 34, .mov (.t 2), none⟩,
   ⟨some 35, .append 1 1 (.t 33) (.t 34), none⟩,
   ⟨some 9, .mov (.t 35), none⟩])
 (.seq (.seq (.reg [⟨some 10, .mov (.c (.int .i64 0)), none⟩])
 (.block 0 (.loop (.seq (.seq (.reg [⟨some 36, .mov (.t 10), none⟩,
    ⟨some 37, .fldA 2 (.t 3), none⟩,
    ⟨some 38, .load false 1 (.t 37), none⟩,
    ⟨some 39, .len (.t 38), none⟩,
    ⟨some 40, .bin .lss false (.t 36) (.t 39), none⟩])
  (.cond (.t 40)
   (.skip)
   (.exit 0)))
  (.seq (.block 1 (.reg [⟨some 43, .mov (.t 9), none⟩,
    ⟨some 44, .mov (.t 9), none⟩,
    ⟨some 45, .fldA 2 (.t 3), none⟩,
    ⟨some 46, .load false 1 (.t 45), none⟩,
    ⟨some 47, .mov (.t 10), none⟩,
    ⟨some 48, .idxS 2 (.t 46) (.t 47), none⟩,
    ⟨some 49, .idxR 1 2 (.t 48) (.c (.int .i64 0)), none⟩,
    ⟨some 50, .load false 1 (.t 49), none⟩,
    ⟨some 51, .call (.c (.fn 45 [] [])) [(.t 44), (.t 50)], none⟩,
    ⟨some 52, .mov (.t 51), none⟩,
    ⟨some 53, .mov (.t 9), some (52, true)⟩,
    ⟨some 54, .fldA 2 (.t 3), some (52, true)⟩,
    ⟨some 55, .load false 1 (.t 54), some (52, true)⟩,
    ⟨some 56, .mov (.t 10), some (52, true)⟩,
    ⟨some 57, .idxS 2 (.t 55) (.t 56), some (52, true)⟩,
    ⟨some 58, .idxR 1 2 (.t 57) (.c (.int .i64 1)), some (52, true)⟩,
    ⟨some 59, .load false 1 (.t 58), some (52, true)⟩,
    ⟨some 60, .call (.c (.fn 45 [] [])) [(.t 53), (.t 59)], some (52, true)⟩,
    ⟨some 61, .pick (.t 52) (.t 60) (.c (.bool false)), none⟩,
    ⟨some 62, .bslice 1 [(.t 61)], none⟩,
    ⟨some 63, .append 1 1 (.t 43) (.t 62), none⟩,
    ⟨some 9, .mov (.t 63), none⟩]))
  (.reg [⟨some 41, .mov (.t 10), none⟩,
    ⟨some 42, .bin .add false (.t 41) (.c (.int .i64 1)), none⟩,
    ⟨some 10, .mov (.t 42), none⟩]))))))
 (.seq (.reg [⟨some 64, .mov (.t 9), none⟩,
   ⟨some 6, .mov (.t 64), none⟩,
   ⟨some 7, .mov (.c (.int .i64 0)), none⟩])
 (.ret)))))))))
def r24 : List ARV := [.tmp 6, .tmp 7]
theorem b24 : Try.f24.body.bind (tr Try.prog 65) = some c24.bare := by kernel_rfl
theorem q24 : trRes Try.prog Try.f24.results.toList = some r24 := by kernel_rfl
theorem n24 : (Try.f24.name == "runtime.NumGoroutine") = false := by kernel_rfl

/-- filigree/aig.Eval [g:0, in:1, st:2, g:3, in:4, st:5, outs:6, next:7, e:8, v:9, _:10, a:11, _:12, f:13] -/
def c25 : ACode :=
 .seq (.reg [⟨some 3, .boxI (.t 0), none⟩,
   ⟨some 6, .mov (.c (.slice [] .nil)), none⟩,
   ⟨some 7, .mov (.c (.slice [] .nil)), none⟩,
   ⟨some 8, .mov (.c (.int .i64 0)), none⟩])
 (.seq (.reg [⟨some 15, .load true 4 (.t 3), none⟩,
   ⟨some 16, .mov (.t 1), none⟩,
   ⟨some 17, .mov (.t 2), none⟩,
   ⟨some 18, .call (.c (.fn 23 [] [])) [(.t 15), (.t 16), (.t 17)], none⟩,
   ⟨some 14, .mov (.t 18), none⟩,
   ⟨some 19, .extract (.t 14) 0, none⟩,
   ⟨some 20, .extract (.t 14) 1, none⟩,
   ⟨some 9, .mov (.t 19), none⟩,
   ⟨some 8, .mov (.t 20), none⟩])
 (.seq (.seq (.reg [⟨some 21, .mov (.t 8), none⟩,
   ⟨some 22, .bin .neq false (.t 21) (.c (.int .i64 0)), none⟩])
 (.cond (.t 22)
  (.seq (.reg [⟨some 23, .mov (.t 8), none⟩,
    ⟨some 6, .mov (.c (.slice [] .nil)), none⟩,
    ⟨some 7, .mov (.c (.slice [] .nil)), none⟩,
    ⟨some 8, .mov (.t 23), none⟩])
  (.ret))
  (.skip)))
 (.seq (.seq (.reg [⟨some 24, .fldA 3 (.t 3), none⟩,
   ⟨some 25, .load false 1 (.t 24), none⟩,
   ⟨some 26, .len (.t 25), none⟩,
   ⟨some 27, .mov (.c (.int .i64 0)), none⟩])
 (.block 0 (.loop (.seq (.reg [⟨some 28, .bin .lss false (.t 27) (.t 26), none⟩])
  (.seq (.cond (.t 28)
   (.skip)
   (.exit 0))
  (.seq (.block 1 (.seq (.reg [⟨some 29, .idxS 1 (.t 25) (.t 27), none⟩,
    ⟨some 30, .load false 1 (.t 29), none⟩,
    ⟨some 11, .mov (.t 30), none⟩])
  (.reg [⟨some 31, .mov (.t 6), none⟩,
    ⟨some 32, .mov (.t 9), none⟩,
    ⟨some 33, .mov (.t 11), none⟩,
    ⟨some 34, .call (.c (.fn 51 [] [])) [(.t 32), (.t 33)], none⟩,
    ⟨some 35, .bslice 1 [(.t 34)], none⟩,
    ⟨some 36, .append 1 1 (.t 31) (.t 35), none⟩,
    ⟨some 6, .mov (.t 36), none⟩])))
  (.reg [⟨some 37, .bin .add false (.t 27) (.c (.int .i64 1)), none⟩,
    ⟨some 27, .mov (.t 37), none⟩])))))))
 (.seq (.seq (.reg [⟨some 38, .fldA 1 (.t 3), none⟩,
   ⟨some 39, .load false 1 (.t 38), none⟩,
   ⟨some 40, .len (.t 39), none⟩,
   ⟨some 41, .mov (.c (.int .i64 0)), none⟩])
 (.block 2 (.loop (.seq (.reg [⟨some 42, .bin .lss false (.t 41) (.t 40), none⟩])
  (.seq (.cond (.t 42)
   (.skip)
   (.exit 2))
  (.seq (.block 3 (.seq (.reg [⟨some 43, .idxS 2 (.t 39) (.t 41), none⟩,
    ⟨some 44, .load true 2 (.t 43), none⟩,
    ⟨some 13, .alloc [(.int .i64 0), (.bool false)], none⟩,
    ⟨none, .store 2 (.t 13) (.t 44), none⟩])
  (.reg [⟨some 45, .mov (.t 7), none⟩,
    ⟨some 46, .mov (.t 9), none⟩,
    ⟨some 47, .fldA 0 (.t 13), none⟩,
    ⟨some 48, .load false 1 (.t 47), none⟩,
    ⟨some 49, .call (.c (.fn 51 [] [])) [(.t 46), (.t 48)], none⟩,
    ⟨some 50, .bslice 1 [(.t 49)], none⟩,
    ⟨some 51, .append 1 1 (.t 45) (.t 50), none⟩,
    ⟨some 7, .mov (.t 51), none⟩])))
  (.reg [⟨some 52, .bin .add false (.t 41) (.c (.int .i64 1)), none⟩,
    ⟨some 41, .mov (.t 52), none⟩])))))))
 (.seq (.reg [⟨some 53, .mov (.t 6), none⟩,
   ⟨some 54, .mov (.t 7), none⟩,
   ⟨some 6, .mov (.t 53), none⟩,
   ⟨some 7, .mov (.t 54), none⟩,
   ⟨some 8, .mov (.c (.int .i64 0)), none⟩])
 (.ret))))))
def r25 : List ARV := [.tmp 6, .tmp 7, .tmp 8]
theorem b25 : Try.f25.body.bind (tr Try.prog 55) = some c25.bare := by kernel_rfl
theorem q25 : trRes Try.prog Try.f25.results.toList = some r25 := by kernel_rfl
theorem n25 : (Try.f25.name == "runtime.NumGoroutine") = false := by kernel_rfl

/-- filigree/filigreeref18.Eval [g:0, in:1, st:2, g:3, in:4, st:5, v:9, e:10, outs:11, next:12, i:13, i:14] -/
def c26 : ACode :=
 .seq (.reg [⟨some 3, .boxI (.t 0), none⟩,
   ⟨some 6, .mov (.c (.slice [] .nil)), none⟩,
   ⟨some 7, .mov (.c (.slice [] .nil)), none⟩,
   ⟨some 8, .mov (.c (.int .i64 0)), none⟩])
 (.seq (.reg [⟨some 16, .load true 4 (.t 3), none⟩,
   ⟨some 17, .mov (.t 1), none⟩,
   ⟨some 18, .mov (.t 2), none⟩,
   ⟨some 19, .call (.c (.fn 24 [] [])) [(.t 16), (.t 17), (.t 18)], none⟩,
   ⟨some 15, .mov (.t 19), none⟩,
   ⟨some 20, .extract (.t 15) 0, none⟩,
   ⟨some 21, .extract (.t 15) 1, none⟩,
   ⟨some 9, .mov (.t 20), none⟩,
   ⟨some 10, .mov (.t 21), none⟩])
 (.seq (.seq (.reg [⟨some 22, .mov (.t 10), none⟩,
   ⟨some 23, .bin .neq false (.t 22) (.c (.int .i64 0)), none⟩])
 (.cond (.t 23)
  (.seq (.reg [⟨some 24, .mov (.t 10), none⟩,
    ⟨some 6, .mov (.c (.slice [] .nil)), none⟩,
    ⟨some 7, .mov (.c (.slice [] .nil)), none⟩,
    ⟨some 8, .mov (.t 24), none⟩])
  (.ret))
  (.skip)))
 (.seq (.reg [⟨some 11, .mov (.c (.slice [] .nil)), none⟩])
 (.seq (.reg [⟨some 12, .mov (.c (.slice [] .nil)), none⟩])
 (.seq (.seq (.reg [⟨some 13, .mov (.c (.int .i64 0)), none⟩])
 (.block 0 (.loop (.seq (.seq (.reg [⟨some 25, .mov (.t 13), none⟩,
    ⟨some 26, .fldA 3 (.t 3), none⟩,
    ⟨some 27, .load false 1 (.t 26), none⟩,
    ⟨some 28, .len (.t 27), none⟩,
    ⟨some 29, .bin .lss false (.t 25) (.t 28), none⟩])
  (.cond (.t 29)
   (.skip)
   (.exit 0)))
  (.seq (.block 1 (.reg [⟨some 32, .mov (.t 11), none⟩,
    ⟨some 33, .mov (.t 9), none⟩,
    ⟨some 34, .fldA 3 (.t 3), none⟩,
    ⟨some 35, .load false 1 (.t 34), none⟩,
    ⟨some 36, .mov (.t 13), none⟩,
    ⟨some 37, .idxS 1 (.t 35) (.t 36), none⟩,
    ⟨some 38, .load false 1 (.t 37), none⟩,
    ⟨some 39, .call (.c (.fn 45 [] [])) [(.t 33), (.t 38)], none⟩,
    ⟨some 40, .bslice 1 [(.t 39)], none⟩,
    ⟨some 41, .append 1 1 (.t 32) (.t 40), none⟩,
    ⟨some 11, .mov (.t 41), none⟩]))
  (.reg [⟨some 30, .mov (.t 13), none⟩,
    ⟨some 31, .bin .add false (.t 30) (.c (.int .i64 1)), none⟩,
    ⟨some 13, .mov (.t 31), none⟩]))))))
 (.seq (.seq (.reg [⟨some 14, .mov (.c (.int .i64 0)), none⟩])
 (.block 2 (.loop (.seq (.seq (.reg [⟨some 42, .mov (.t 14), none⟩,
    ⟨some 43, .fldA 1 (.t 3), none⟩,
    ⟨some 44, .load false 1 (.t 43), none⟩,
    ⟨some 45, .len (.t 44), none⟩,
    ⟨some 46, .bin .lss false (.t 42) (.t 45), none⟩])
  (.cond (.t 46)
   (.skip)
   (.exit 2)))
  (.seq (.block 3 (.reg [⟨some 49, .mov (.t 12), none⟩,
    ⟨some 50, .mov (.t 9), none⟩,
    ⟨some 51, .fldA 1 (.t 3), none⟩,
    ⟨some 52, .load false 1 (.t 51), none⟩,
    ⟨some 53, .mov (.t 14), none⟩,
    ⟨some 54, .idxS 2 (.t 52) (.t 53), none⟩,
    ⟨some 55, .fldA 0 (.t 54), none⟩,
    ⟨some 56, .load false 1 (.t 55), none⟩,
    ⟨some 57, .call (.c (.fn 45 [] [])) [(.t 50), (.t 56)], none⟩,
    ⟨some 58, .bslice 1 [(.t 57)], none⟩,
    ⟨some 59, .append 1 1 (.t 49) (.t 58), none⟩,
    ⟨some 12, .mov (.t 59), none⟩]))
  (.reg [⟨some 47, .mov (.t 14), none⟩,
    ⟨some 48, .bin .add false (.t 47) (.c (.int .i64 1)), none⟩,
    ⟨some 14, .mov (.t 48), none⟩]))))))
 (.seq (.reg [⟨some 60, .mov (.t 11), none⟩,
   ⟨some 61, .mov (.t 12), none⟩,
   ⟨some 6, .mov (.t 60), none⟩,
   ⟨some 7, .mov (.t 61), none⟩,
   ⟨some 8, .mov (.c (.int .i64 0)), none⟩])
 (.ret))))))))
def r26 : List ARV := [.tmp 6, .tmp 7, .tmp 8]
theorem b26 : Try.f26.body.bind (tr Try.prog 62) = some c26.bare := by kernel_rfl
theorem q26 : trRes Try.prog Try.f26.results.toList = some r26 := by kernel_rfl
theorem n26 : (Try.f26.name == "runtime.NumGoroutine") = false := by kernel_rfl

/-- filigree/aig.Run [g:0, ins:1, g:2, ins:3, e:6, out:7, st:8, _:9, f:10, _:11, in:12, o:13, next:14, e:15] -/
def c27 : ACode :=
 .seq (.reg [⟨some 2, .boxI (.t 0), none⟩,
   ⟨some 4, .mov (.c (.slice [] .nil)), none⟩,
   ⟨some 5, .mov (.c (.int .i64 0)), none⟩])
 (.seq (.seq (.reg [⟨some 16, .load true 4 (.t 2), none⟩,
   ⟨some 17, .call (.c (.fn 20 [] [])) [(.t 16)], none⟩,
   ⟨some 6, .mov (.t 17), none⟩])
 (.seq (.reg [⟨some 18, .mov (.t 6), none⟩,
   ⟨some 19, .bin .neq false (.t 18) (.c (.int .i64 0)), none⟩])
 (.cond (.t 19)
  (.seq (.reg [⟨some 20, .mov (.t 6), none⟩,
    ⟨some 4, .mov (.c (.slice [] .nil)), none⟩,
    ⟨some 5, .mov (.t 20), none⟩])
  (.ret))
  (.skip))))
 (.seq (.reg [⟨some 7, .mov (.c (.slice [] .nil)), none⟩])
 (.seq (.reg [⟨some 8, .mov (.c (.slice [] .nil)), none⟩])
 (.seq (.seq (.reg [⟨some 21, .fldA 1 (.t 2), none⟩,
   ⟨some 22, .load false 1 (.t 21), none⟩,
   ⟨some 23, .len (.t 22), none⟩,
   ⟨some 24, .mov (.c (.int .i64 0)), none⟩])
 (.block 0 (.loop (.seq (.reg [⟨some 25, .bin .lss false (.t 24) (.t 23), none⟩])
  (.seq (.cond (.t 25)
   (.skip)
   (.exit 0))
  (.seq (.block 1 (.seq (.reg [⟨some 26, .idxS 2 (.t 22) (.t 24), none⟩,
    ⟨some 27, .load true 2 (.t 26), none⟩,
    ⟨some 10, .alloc [(.int .i64 0), (.bool false)], none⟩,
    ⟨none, .store 2 (.t 10) (.t 27), none⟩])
  (.reg [⟨some 28, .mov (.t 8), none⟩,
    ⟨some 29, .fldA 1 (.t 10), none⟩,
    ⟨some 30, .load false 1 (.t 29), none⟩,
    ⟨some 31, .bslice 1 [(.t 30)], none⟩,
    ⟨some 32, .append 1 1 (.t 28) (.t 31), none⟩,
    ⟨some 8, .mov (.t 32), none⟩])))
  (.reg [⟨some 33, .bin .add false (.t 24) (.c (.int .i64 1)), none⟩,
    ⟨some 24, .mov (.t 33), none⟩])))))))
 (.seq (.seq (.reg [⟨some 34, .mov (.t 1), none⟩,
   ⟨some 35, .len (.t 34), none⟩,
   ⟨some 36, .mov (.c (.int .i64 0)), none⟩])
 (.block 2 (.loop (.seq (.reg [⟨some 37, .bin .lss false (.t 36) (.t 35), none⟩])
  (.seq (.cond (.t 37)
   (.skip)
   (.exit 2))
  (.seq (.block 3 (.seq (.reg [⟨some 38, .idxS 1 (.t 34) (.t 36), none⟩,
    ⟨some 39, .load false 1 (.t 38), none⟩,
    ⟨some 12, .mov (.t 39), none⟩])
  (.seq (.reg [⟨some 41, .load true 4 (.t 2), none⟩,
    ⟨some 42, .mov (.t 12), none⟩,
    ⟨some 43, .mov (.t 8), none⟩,
    ⟨some 44, .call (.c (.fn 25 [] [])) [(.t 41), (.t 42), (.t 43)], none⟩,
    ⟨some 40, .mov (.t 44), none⟩,
    ⟨some 45, .extract (.t 40) 0, none⟩,
    ⟨some 46, .extract (.t 40) 1, none⟩,
    ⟨some 47, .extract (.t 40) 2, none⟩,
    ⟨some 13, .mov (.t 45), none⟩,
    ⟨some 14, .mov (.t 46), none⟩,
    ⟨some 15, .mov (.t 47), none⟩])
  (.seq (.seq (.reg [⟨some 48, .mov (.t 15), none⟩,
    ⟨some 49, .bin .neq false (.t 48) (.c (.int .i64 0)), none⟩])
  (.cond (.t 49)
   (.seq (.reg [⟨some 50, .mov (.t 15), none⟩,
     ⟨some 4, .mov (.c (.slice [] .nil)), none⟩,
     ⟨some 5, .mov (.t 50), none⟩])
   (.ret))
   (.skip)))
  (.reg [⟨some 51, .mov (.t 7), none⟩,
    ⟨some 52, .mov (.t 13), none⟩,
    ⟨some 53, .bslice 1 [(.t 52)], none⟩,
    ⟨some 54, .append 1 24 (.t 51) (.t 53), none⟩,
    ⟨some 55, .mov (.t 14), none⟩,
    ⟨some 7, .mov (.t 54), none⟩,
    ⟨some 8, .mov (.t 55), none⟩])))))
  (.reg [⟨some 56, .bin .add false (.t 36) (.c (.int .i64 1)), none⟩,
    ⟨some 36, .mov (.t 56), none⟩])))))))
 (.seq (.reg [⟨some 57, .mov (.t 7), none⟩,
   ⟨some 4, .mov (.t 57), none⟩,
   ⟨some 5, .mov (.c (.int .i64 0)), none⟩])
 (.ret)))))))
def r27 : List ARV := [.tmp 4, .tmp 5]
theorem b27 : Try.f27.body.bind (tr Try.prog 58) = some c27.bare := by kernel_rfl
theorem q27 : trRes Try.prog Try.f27.results.toList = some r27 := by kernel_rfl
theorem n27 : (Try.f27.name == "runtime.NumGoroutine") = false := by kernel_rfl

/-- filigree/filigreeref18.Run [g:0, ins:1, g:2, ins:3, e:6, st:7, out:8, i:9, o:10, next:11, f:12] -/
def c28 : ACode :=
 .seq (.reg [⟨some 2, .boxI (.t 0), none⟩,
   ⟨some 4, .mov (.c (.slice [] .nil)), none⟩,
   ⟨some 5, .mov (.c (.int .i64 0)), none⟩])
 (.seq (.reg [⟨some 13, .load true 4 (.t 2), none⟩,
   ⟨some 14, .call (.c (.fn 21 [] [])) [(.t 13)], none⟩,
   ⟨some 6, .mov (.t 14), none⟩])
 (.seq (.seq (.reg [⟨some 15, .mov (.t 6), none⟩,
   ⟨some 16, .bin .neq false (.t 15) (.c (.int .i64 0)), none⟩])
 (.cond (.t 16)
  (.seq (.reg [⟨some 17, .mov (.t 6), none⟩,
    ⟨some 4, .mov (.c (.slice [] .nil)), none⟩,
    ⟨some 5, .mov (.t 17), none⟩])
  (.ret))
  (.skip)))
 (.seq (.reg [⟨some 18, .load true 4 (.t 2), none⟩,
   ⟨some 19, .call (.c (.fn 31 [] [])) [(.t 18)], none⟩,
   ⟨some 7, .mov (.t 19), none⟩])
 (.seq (.reg [⟨some 8, .mov (.c (.slice [] .nil)), none⟩])
 (.seq (.seq (.reg [⟨some 9, .mov (.c (.int .i64 0)), none⟩])
 (.block 0 (.loop (.seq (.seq (.reg [⟨some 20, .mov (.t 9), none⟩,
    ⟨some 21, .mov (.t 1), none⟩,
    ⟨some 22, .len (.t 21), none⟩,
    ⟨some 23, .bin .lss false (.t 20) (.t 22), none⟩])
  (.cond (.t 23)
   (.skip)
   (.exit 0)))
  (.seq (.block 1 (.seq (.drw [⟨some 27, .load true 4 (.t 2), none⟩,
    ⟨some 28, .mov (.t 1), none⟩,
    ⟨some 29, .mov (.t 9), none⟩,
    ⟨some 30, .idxS 1 (.t 28) (.t 29), none⟩,
    ⟨some 31, .load false 1 (.t 30), none⟩,
    ⟨some 32, .mov (.t 7), none⟩,
    ⟨some 33, .call (.c (.fn 26 [] [])) [(.t 27), (.t 31), (.t 32)], none⟩,
    ⟨some 26, .mov (.t 33), none⟩,
    ⟨some 34, .extract (.t 26) 0, none⟩,
    ⟨some 35, .extract (.t 26) 1, none⟩,
    ⟨some 36, .extract (.t 26) 2, none⟩,
    ⟨some 10, .mov (.t 34), none⟩,
    ⟨some 11, .mov (.t 35), none⟩,
    ⟨some 12, .mov (.t 36), none⟩] [])
  (.seq (.seq (.reg [⟨some 37, .mov (.t 12), none⟩,
    ⟨some 38, .bin .neq false (.t 37) (.c (.int .i64 0)), none⟩])
  (.cond (.t 38)
   (.seq (.reg [⟨some 39, .mov (.t 12), none⟩,
     ⟨some 4, .mov (.c (.slice [] .nil)), none⟩,
     ⟨some 5, .mov (.t 39), none⟩])
   (.ret))
   (.skip)))
  (.seq (.reg [⟨some 40, .mov (.t 8), none⟩,
    ⟨some 41, .mov (.t 10), none⟩,
    ⟨some 42, .bslice 1 [(.t 41)], none⟩,
    ⟨some 43, .append 1 24 (.t 40) (.t 42), none⟩,
    ⟨some 8, .mov (.t 43), none⟩])
  (.reg [⟨some 44, .mov (.t 11), none⟩,
    ⟨some 7, .mov (.t 44), none⟩])))))
  (.reg [⟨some 24, .mov (.t 9), none⟩,
    ⟨some 25, .bin .add false (.t 24) (.c (.int .i64 1)), none⟩,
    ⟨some 9, .mov (.t 25), none⟩]))))))
 (.seq (.reg [⟨some 45, .mov (.t 8), none⟩,
   ⟨some 4, .mov (.t 45), none⟩,
   ⟨some 5, .mov (.c (.int .i64 0)), none⟩])
 (.ret)))))))
def r28 : List ARV := [.tmp 4, .tmp 5]
theorem b28 : Try.f28.body.bind (tr Try.prog 46) = some c28.bare := by kernel_rfl
theorem q28 : trRes Try.prog Try.f28.results.toList = some r28 := by kernel_rfl
theorem n28 : (Try.f28.name == "runtime.NumGoroutine") = false := by kernel_rfl

/-- filigree/filigreeref18.Bools [a:0, b:1, a:2, b:3, i:5] -/
def c29 : ACode :=
 .seq (.reg [⟨some 4, .mov (.c (.bool false)), none⟩])
 (.seq (.seq (.reg [⟨some 6, .mov (.t 0), none⟩,
   ⟨some 7, .len (.t 6), none⟩,
   ⟨some 8, .mov (.t 1), none⟩,
   ⟨some 9, .len (.t 8), none⟩,
   ⟨some 10, .bin .neq false (.t 7) (.t 9), none⟩])
 (.cond (.t 10)
  (.seq (.reg [⟨some 4, .mov (.c (.bool false)), none⟩])
  (.ret))
  (.skip)))
 (.seq (.seq (.reg [⟨some 5, .mov (.c (.int .i64 0)), none⟩])
 (.block 0 (.loop (.seq (.seq (.reg [⟨some 11, .mov (.t 5), none⟩,
    ⟨some 12, .mov (.t 0), none⟩,
    ⟨some 13, .len (.t 12), none⟩,
    ⟨some 14, .bin .lss false (.t 11) (.t 13), none⟩])
  (.cond (.t 14)
   (.skip)
   (.exit 0)))
  (.seq (.block 1 (.seq (.drw [⟨some 17, .mov (.t 0), none⟩,
    ⟨some 18, .mov (.t 5), none⟩,
    ⟨some 19, .idxS 1 (.t 17) (.t 18), none⟩,
    ⟨some 20, .load false 1 (.t 19), none⟩,
    ⟨some 21, .mov (.t 1), none⟩,
    ⟨some 22, .mov (.t 5), none⟩,
    ⟨some 23, .idxS 1 (.t 21) (.t 22), none⟩,
    ⟨some 24, .load false 1 (.t 23), none⟩,
    ⟨some 25, .bin .neq true (.t 20) (.t 24), none⟩] [])
  (.cond (.t 25)
   (.seq (.reg [⟨some 4, .mov (.c (.bool false)), none⟩])
   (.ret))
   (.skip))))
  (.reg [⟨some 15, .mov (.t 5), none⟩,
    ⟨some 16, .bin .add false (.t 15) (.c (.int .i64 1)), none⟩,
    ⟨some 5, .mov (.t 16), none⟩]))))))
 (.seq (.reg [⟨some 4, .mov (.c (.bool true)), none⟩])
 (.ret))))
def r29 : List ARV := [.tmp 4]
theorem b29 : Try.f29.body.bind (tr Try.prog 26) = some c29.bare := by kernel_rfl
theorem q29 : trRes Try.prog Try.f29.results.toList = some r29 := by kernel_rfl
theorem n29 : (Try.f29.name == "runtime.NumGoroutine") = false := by kernel_rfl

/-- filigree/filigreeref18.Rows [a:0, b:1, a:2, b:3, i:5] -/
def c30 : ACode :=
 .seq (.reg [⟨some 4, .mov (.c (.bool false)), none⟩])
 (.seq (.seq (.reg [⟨some 6, .mov (.t 0), none⟩,
   ⟨some 7, .len (.t 6), none⟩,
   ⟨some 8, .mov (.t 1), none⟩,
   ⟨some 9, .len (.t 8), none⟩,
   ⟨some 10, .bin .neq false (.t 7) (.t 9), none⟩])
 (.cond (.t 10)
  (.seq (.reg [⟨some 4, .mov (.c (.bool false)), none⟩])
  (.ret))
  (.skip)))
 (.seq (.seq (.reg [⟨some 5, .mov (.c (.int .i64 0)), none⟩])
 (.block 0 (.loop (.seq (.seq (.reg [⟨some 11, .mov (.t 5), none⟩,
    ⟨some 12, .mov (.t 0), none⟩,
    ⟨some 13, .len (.t 12), none⟩,
    ⟨some 14, .bin .lss false (.t 11) (.t 13), none⟩])
  (.cond (.t 14)
   (.skip)
   (.exit 0)))
  (.seq (.block 1 (.seq (.drw [⟨some 17, .mov (.t 0), none⟩,
    ⟨some 18, .mov (.t 5), none⟩,
    ⟨some 19, .idxS 1 (.t 17) (.t 18), none⟩,
    ⟨some 20, .load false 1 (.t 19), none⟩,
    ⟨some 21, .mov (.t 1), none⟩,
    ⟨some 22, .mov (.t 5), none⟩,
    ⟨some 23, .idxS 1 (.t 21) (.t 22), none⟩,
    ⟨some 24, .load false 1 (.t 23), none⟩,
    ⟨some 25, .call (.c (.fn 29 [] [])) [(.t 20), (.t 24)], none⟩,
    ⟨some 26, .un .not (.t 25), none⟩] [])
  (.cond (.t 26)
   (.seq (.reg [⟨some 4, .mov (.c (.bool false)), none⟩])
   (.ret))
   (.skip))))
  (.reg [⟨some 15, .mov (.t 5), none⟩,
    ⟨some 16, .bin .add false (.t 15) (.c (.int .i64 1)), none⟩,
    ⟨some 5, .mov (.t 16), none⟩]))))))
 (.seq (.reg [⟨some 4, .mov (.c (.bool true)), none⟩])
 (.ret))))
def r30 : List ARV := [.tmp 4]
theorem b30 : Try.f30.body.bind (tr Try.prog 27) = some c30.bare := by kernel_rfl
theorem q30 : trRes Try.prog Try.f30.results.toList = some r30 := by kernel_rfl
theorem n30 : (Try.f30.name == "runtime.NumGoroutine") = false := by kernel_rfl

/-- filigree/filigreeref18.Init [g:0, g:1, st:3, i:4] -/
def c31 : ACode :=
 .seq (.reg [⟨some 1, .boxI (.t 0), none⟩,
   ⟨some 2, .mov (.c (.slice [] .nil)), none⟩])
 (.seq (.reg [⟨some 3, .mov (.c (.slice [] .nil)), none⟩])
 (.seq (.seq (.reg [⟨some 4, .mov (.c (.int .i64 0)), none⟩])
 (.block 0 (.loop (.seq (.seq (.reg [⟨some 5, .mov (.t 4), none⟩,
    ⟨some 6, .fldA 1 (.t 1), none⟩,
    ⟨some 7, .load false 1 (.t 6), none⟩,
    ⟨some 8, .len (.t 7), none⟩,
    ⟨some 9, .bin .lss false (.t 5) (.t 8), none⟩])
  (.cond (.t 9)
   (.skip)
   (.exit 0)))
  (.seq (.block 1 (.reg [⟨some 12, .mov (.t 3), none⟩,
    ⟨some 13, .fldA 1 (.t 1), none⟩,
    ⟨some 14, .load false 1 (.t 13), none⟩,
    ⟨some 15, .mov (.t 4), none⟩,
    ⟨some 16, .idxS 2 (.t 14) (.t 15), none⟩,
    ⟨some 17, .fldA 1 (.t 16), none⟩,
    ⟨some 18, .load false 1 (.t 17), none⟩,
    ⟨some 19, .bslice 1 [(.t 18)], none⟩,
    ⟨some 20, .append 1 1 (.t 12) (.t 19), none⟩,
    ⟨some 3, .mov (.t 20), none⟩]))
  (.reg [⟨some 10, .mov (.t 4), none⟩,
    ⟨some 11, .bin .add false (.t 10) (.c (.int .i64 1)), none⟩,
    ⟨some 4, .mov (.t 11), none⟩]))))))
 (.seq (.reg [⟨some 21, .mov (.t 3), none⟩,
   ⟨some 2, .mov (.t 21), none⟩])
 (.ret))))
def r31 : List ARV := [.tmp 2]
theorem b31 : Try.f31.body.bind (tr Try.prog 22) = some c31.bare := by kernel_rfl
theorem q31 : trRes Try.prog Try.f31.results.toList = some r31 := by kernel_rfl
theorem n31 : (Try.f31.name == "runtime.NumGoroutine") = false := by kernel_rfl

/-- filigree/filigreeref18.Count [g:0, g:1] -/
def c32 : ACode :=
 .seq (.reg [⟨some 1, .boxI (.t 0), none⟩,
   ⟨some 2, .mov (.c (.int .i64 0)), none⟩])
 (.seq (.reg [⟨some 3, .fldA 0 (.t 1), none⟩,
   ⟨some 4, .load false 1 (.t 3), none⟩,
   ⟨some 5, .bin .add false (.c (.int .i64 1)) (.t 4), none⟩,
   ⟨some 6, .fldA 1 (.t 1), none⟩,
   ⟨some 7, .load false 1 (.t 6), none⟩,
   ⟨some 8, .len (.t 7), none⟩,
   ⟨some 9, .bin .add false (.t 5) (.t 8), none⟩,
   ⟨some 10, .fldA 2 (.t 1), none⟩,
   ⟨some 11, .load false 1 (.t 10), none⟩,
   ⟨some 12, .len (.t 11), none⟩,
   ⟨some 13, .bin .add false (.t 9) (.t 12), none⟩,
   ⟨some 2, .mov (.t 13), none⟩])
 (.ret))
def r32 : List ARV := [.tmp 2]
theorem b32 : Try.f32.body.bind (tr Try.prog 14) = some c32.bare := by kernel_rfl
theorem q32 : trRes Try.prog Try.f32.results.toList = some r32 := by kernel_rfl
theorem n32 : (Try.f32.name == "runtime.NumGoroutine") = false := by kernel_rfl

/-- filigree/aig.And [g:0, a:1, b:2, g:3, a:4, b:5, w:9] -/
def c33 : ACode :=
 .seq (.reg [⟨some 3, .boxI (.t 0), none⟩,
   ⟨some 6, .alloc [(.int .i64 0), (.slice [] .nil), (.slice [] .nil), (.slice [] .nil)], none⟩,
   ⟨some 7, .mov (.c (.int .i64 0)), none⟩,
   ⟨some 8, .mov (.c (.int .i64 0)), none⟩])
 (.seq (.reg [⟨some 10, .load true 4 (.t 3), none⟩,
   ⟨some 11, .mov (.t 1), none⟩,
   ⟨some 12, .mov (.t 2), none⟩,
   ⟨some 13, .bslice 1 [(.t 11), (.t 12)], none⟩,
   ⟨some 14, .call (.c (.fn 47 [] [])) [(.t 10), (.t 13)], none⟩,
   ⟨some 9, .mov (.t 14), none⟩])
 (.seq (.reg [⟨some 15, .mov (.t 9), none⟩,
   ⟨some 16, .mov (.t 9), none⟩,
   ⟨some 17, .mov (.t 1), none⟩,
   ⟨some 18, .mov (.t 2), none⟩,
   ⟨some 19, .call (.c (.fn 53 [] [])) [(.t 16), (.t 17), (.t 18)], none⟩,
   ⟨some 20, .call (.c (.fn 52 [] [])) [(.t 15), (.t 19)], none⟩,
   ⟨some 21, .extract (.t 20) 0, none⟩,
   ⟨some 22, .extract (.t 20) 1, none⟩,
   ⟨some 23, .extract (.t 20) 2, none⟩,
   ⟨none, .store 4 (.t 6) (.t 21), none⟩,
   ⟨some 7, .mov (.t 22), none⟩,
   ⟨some 8, .mov (.t 23), none⟩])
 (.ret)))
def r33 : List ARV := [.cell 6 true 4, .tmp 7, .tmp 8]
theorem b33 : Try.f33.body.bind (tr Try.prog 24) = some c33.bare := by kernel_rfl
theorem q33 : trRes Try.prog Try.f33.results.toList = some r33 := by kernel_rfl
theorem n33 : (Try.f33.name == "runtime.NumGoroutine") = false := by kernel_rfl

/-- filigree/filigreeref18.Lit [n:0, a:1, n:2, a:3] -/
def c34 : ACode :=
 .seq (.reg [⟨some 4, .mov (.c (.bool false)), none⟩])
 (.seq (.reg [⟨some 5, .mov (.t 1), none⟩,
   ⟨some 6, .bin .geq false (.t 5) (.c (.int .i64 0)), none⟩,
   ⟨some 7, .mov (.t 6), none⟩,
   ⟨some 8, .mov (.t 1), some (7, true)⟩,
   ⟨some 9, .mov (.t 0), some (7, true)⟩,
   ⟨some 10, .bin .mul false (.c (.int .i64 2)) (.t 9), some (7, true)⟩,
   ⟨some 11, .bin .lss false (.t 8) (.t 10), some (7, true)⟩,
   ⟨some 12, .pick (.t 7) (.t 11) (.c (.bool false)), none⟩,
   ⟨some 4, .mov (.t 12), none⟩])
 (.ret))
def r34 : List ARV := [.tmp 4]
theorem b34 : Try.f34.body.bind (tr Try.prog 13) = some c34.bare := by kernel_rfl
theorem q34 : trRes Try.prog Try.f34.results.toList = some r34 := by kernel_rfl
theorem n34 : (Try.f34.name == "runtime.NumGoroutine") = false := by kernel_rfl

/-- filigree/filigreelaw18.and [g:0, a:1, b:2, want:3, g:4, a:5, b:6, want:7, h:9, x:10, e:11] -/
def c35 : ACode :=
 .seq (.reg [⟨some 4, .boxI (.t 0), none⟩,
   ⟨some 8, .mov (.c (.bool false)), none⟩])
 (.seq (.reg [⟨some 13, .load true 4 (.t 4), none⟩,
   ⟨some 14, .mov (.t 1), none⟩,
   ⟨some 15, .mov (.t 2), none⟩,
   ⟨some 16, .call (.c (.fn 33 [] [])) [(.t 13), (.t 14), (.t 15)], none⟩,
   ⟨some 12, .mov (.t 16), none⟩,
   ⟨some 17, .extract (.t 12) 0, none⟩,
   ⟨some 18, .extract (.t 12) 1, none⟩,
   ⟨some 19, .extract (.t 12) 2, none⟩,
   ⟨some 9, .alloc [(.int .i64 0), (.slice [] .nil), (.slice [] .nil), (.slice [] .nil)], none⟩,
   ⟨none, .store 4 (.t 9) (.t 17), none⟩,
   ⟨some 10, .mov (.t 18), none⟩,
   ⟨some 11, .mov (.t 19), none⟩])
 (.seq (.reg [⟨some 20, .mov (.t 11), none⟩,
   ⟨some 21, .bin .eql false (.t 20) (.c (.int .i64 0)), none⟩,
   ⟨some 22, .mov (.t 21), none⟩,
   ⟨some 23, .mov (.t 10), some (22, true)⟩,
   ⟨some 24, .mov (.t 3), some (22, true)⟩,
   ⟨some 25, .bin .eql false (.t 23) (.t 24), some (22, true)⟩,
   ⟨some 26, .pick (.t 22) (.t 25) (.c (.bool false)), none⟩,
   ⟨some 27, .mov (.t 26), none⟩,
   ⟨some 28, .load true 4 (.t 4), some (27, true)⟩,
   ⟨some 29, .load true 4 (.t 9), some (27, true)⟩,
   ⟨some 30, .call (.c (.fn 19 [] [])) [(.t 28), (.t 29)], some (27, true)⟩,
   ⟨some 31, .pick (.t 27) (.t 30) (.c (.bool false)), none⟩,
   ⟨some 8, .mov (.t 31), none⟩])
 (.ret)))
def r35 : List ARV := [.tmp 8]
theorem b35 : Try.f35.body.bind (tr Try.prog 32) = some c35.bare := by kernel_rfl
theorem q35 : trRes Try.prog Try.f35.results.toList = some r35 := by kernel_rfl
theorem n35 : (Try.f35.name == "runtime.NumGoroutine") = false := by kernel_rfl

/-- filigree/filigreelaw18.or [g:0, a:1, b:2, want:3, g:4, a:5, b:6, want:7, h:9, x:10, e:11] -/
def c36 : ACode :=
 .seq (.reg [⟨some 4, .boxI (.t 0), none⟩,
   ⟨some 8, .mov (.c (.bool false)), none⟩])
 (.seq (.reg [⟨some 13, .load true 4 (.t 4), none⟩,
   ⟨some 14, .mov (.t 1), none⟩,
   ⟨some 15, .mov (.t 2), none⟩,
   ⟨some 16, .call (.c (.fn 41 [] [])) [(.t 13), (.t 14), (.t 15)], none⟩,
   ⟨some 12, .mov (.t 16), none⟩,
   ⟨some 17, .extract (.t 12) 0, none⟩,
   ⟨some 18, .extract (.t 12) 1, none⟩,
   ⟨some 19, .extract (.t 12) 2, none⟩,
   ⟨some 9, .alloc [(.int .i64 0), (.slice [] .nil), (.slice [] .nil), (.slice [] .nil)], none⟩,
   ⟨none, .store 4 (.t 9) (.t 17), none⟩,
   ⟨some 10, .mov (.t 18), none⟩,
   ⟨some 11, .mov (.t 19), none⟩])
 (.seq (.reg [⟨some 20, .mov (.t 11), none⟩,
   ⟨some 21, .bin .eql false (.t 20) (.c (.int .i64 0)), none⟩,
   ⟨some 22, .mov (.t 21), none⟩,
   ⟨some 23, .mov (.t 10), some (22, true)⟩,
   ⟨some 24, .mov (.t 3), some (22, true)⟩,
   ⟨some 25, .bin .eql false (.t 23) (.t 24), some (22, true)⟩,
   ⟨some 26, .pick (.t 22) (.t 25) (.c (.bool false)), none⟩,
   ⟨some 27, .mov (.t 26), none⟩,
   ⟨some 28, .load true 4 (.t 4), some (27, true)⟩,
   ⟨some 29, .load true 4 (.t 9), some (27, true)⟩,
   ⟨some 30, .call (.c (.fn 19 [] [])) [(.t 28), (.t 29)], some (27, true)⟩,
   ⟨some 31, .pick (.t 27) (.t 30) (.c (.bool false)), none⟩,
   ⟨some 8, .mov (.t 31), none⟩])
 (.ret)))
def r36 : List ARV := [.tmp 8]
theorem b36 : Try.f36.body.bind (tr Try.prog 32) = some c36.bare := by kernel_rfl
theorem q36 : trRes Try.prog Try.f36.results.toList = some r36 := by kernel_rfl
theorem n36 : (Try.f36.name == "runtime.NumGoroutine") = false := by kernel_rfl

/-- filigree/aig.Mux [g:0, c:1, a:2, b:3, g:4, c:5, a:6, b:7, w:11, x:12, y:13] -/
def c37 : ACode :=
 .seq (.reg [⟨some 4, .boxI (.t 0), none⟩,
   ⟨some 8, .alloc [(.int .i64 0), (.slice [] .nil), (.slice [] .nil), (.slice [] .nil)], none⟩,
   ⟨some 9, .mov (.c (.int .i64 0)), none⟩,
   ⟨some 10, .mov (.c (.int .i64 0)), none⟩])
 (.seq (.reg [⟨some 14, .load true 4 (.t 4), none⟩,
   ⟨some 15, .mov (.t 1), none⟩,
   ⟨some 16, .mov (.t 2), none⟩,
   ⟨some 17, .mov (.t 3), none⟩,
   ⟨some 18, .bslice 1 [(.t 15), (.t 16), (.t 17)], none⟩,
   ⟨some 19, .call (.c (.fn 47 [] [])) [(.t 14), (.t 18)], none⟩,
   ⟨some 11, .mov (.t 19), none⟩])
 (.seq (.reg [⟨some 20, .mov (.t 11), none⟩,
   ⟨some 21, .mov (.t 1), none⟩,
   ⟨some 22, .mov (.t 2), none⟩,
   ⟨some 23, .call (.c (.fn 53 [] [])) [(.t 20), (.t 21), (.t 22)], none⟩,
   ⟨some 12, .mov (.t 23), none⟩])
 (.seq (.reg [⟨some 24, .mov (.t 11), none⟩,
   ⟨some 25, .mov (.t 1), none⟩,
   ⟨some 26, .bin .xor false (.t 25) (.c (.int .i64 1)), none⟩,
   ⟨some 27, .mov (.t 3), none⟩,
   ⟨some 28, .call (.c (.fn 53 [] [])) [(.t 24), (.t 26), (.t 27)], none⟩,
   ⟨some 13, .mov (.t 28), none⟩])
 (.seq (.reg [⟨some 29, .mov (.t 11), none⟩,
   ⟨some 30, .mov (.t 11), none⟩,
   ⟨some 31, .mov (.t 12), none⟩,
   ⟨some 32, .mov (.t 13), none⟩,
   ⟨some 33, .call (.c (.fn 54 [] [])) [(.t 30), (.t 31), (.t 32)], none⟩,
   ⟨some 34, .call (.c (.fn 52 [] [])) [(.t 29), (.t 33)], none⟩,
   ⟨some 35, .extract (.t 34) 0, none⟩,
   ⟨some 36, .extract (.t 34) 1, none⟩,
   ⟨some 37, .extract (.t 34) 2, none⟩,
   ⟨none, .store 4 (.t 8) (.t 35), none⟩,
   ⟨some 9, .mov (.t 36), none⟩,
   ⟨some 10, .mov (.t 37), none⟩])
 (.ret)))))
def r37 : List ARV := [.cell 8 true 4, .tmp 9, .tmp 10]
theorem b37 : Try.f37.body.bind (tr Try.prog 38) = some c37.bare := by kernel_rfl
theorem q37 : trRes Try.prog Try.f37.results.toList = some r37 := by kernel_rfl
theorem n37 : (Try.f37.name == "runtime.NumGoroutine") = false := by kernel_rfl

/-- filigree/filigreelaw18.more [g:0, h:1, a:2, n:3, g:4, h:5, a:6, n:7, k:9] -/
def c38 : ACode :=
 .seq (.reg [⟨some 4, .boxI (.t 0), none⟩,
   ⟨some 5, .boxI (.t 1), none⟩,
   ⟨some 8, .mov (.c (.bool false)), none⟩])
 (.seq (.seq (.reg [⟨some 10, .fldA 2 (.t 5), none⟩,
   ⟨some 11, .load false 1 (.t 10), none⟩,
   ⟨some 12, .len (.t 11), none⟩,
   ⟨some 13, .fldA 2 (.t 4), none⟩,
   ⟨some 14, .load false 1 (.t 13), none⟩,
   ⟨some 15, .len (.t 14), none⟩,
   ⟨some 16, .bin .lss false (.t 12) (.t 15), none⟩,
   ⟨some 17, .mov (.t 16), none⟩,
   ⟨some 18, .fldA 2 (.t 5), some (17, false)⟩,
   ⟨some 19, .load false 1 (.t 18), some (17, false)⟩,
   ⟨some 20, .len (.t 19), some (17, false)⟩,
   ⟨some 21, .fldA 2 (.t 4), some (17, false)⟩,
   ⟨some 22, .load false 1 (.t 21), some (17, false)⟩,
   ⟨some 23, .len (.t 22), some (17, false)⟩,
   ⟨some 24, .mov (.t 3), some (17, false)⟩,
   ⟨some 25, .bin .add false (.t 23) (.t 24), some (17, false)⟩,
   ⟨some 26, .bin .gtr false (.t 20) (.t 25), some (17, false)⟩,
   ⟨some 27, .pick (.t 17) (.c (.bool true)) (.t 26), none⟩])
 (.cond (.t 27)
  (.seq (.reg [⟨some 8, .mov (.c (.bool false)), none⟩])
  (.ret))
  (.skip)))
 (.seq (.reg [⟨some 28, .load true 4 (.t 5), none⟩,
   ⟨some 9, .alloc [(.int .i64 0), (.slice [] .nil), (.slice [] .nil), (.slice [] .nil)], none⟩,
   ⟨none, .store 4 (.t 9) (.t 28), none⟩])
 (.seq (.reg [⟨some 29, .fldA 2 (.t 5), none⟩,
   ⟨some 30, .load false 1 (.t 29), none⟩,
   ⟨some 31, .fldA 2 (.t 4), none⟩,
   ⟨some 32, .load false 1 (.t 31), none⟩,
   ⟨some 33, .len (.t 32), none⟩,
   ⟨some 34, .slc 2 (.t 30) none (some (.t 33)) none, none⟩,
   ⟨some 35, .fldA 2 (.t 9), none⟩,
   ⟨none, .store 1 (.t 35) (.t 34), none⟩])
 (.seq (.reg [⟨some 36, .load true 4 (.t 9), none⟩,
   ⟨some 37, .load true 4 (.t 4), none⟩,
   ⟨some 38, .call (.c (.fn 19 [] [])) [(.t 36), (.t 37)], none⟩,
   ⟨some 39, .mov (.t 38), none⟩,
   ⟨some 40, .load true 4 (.t 5), some (39, true)⟩,
   ⟨some 41, .call (.c (.fn 20 [] [])) [(.t 40)], some (39, true)⟩,
   ⟨some 42, .bin .eql false (.t 41) (.c (.int .i64 0)), some (39, true)⟩,
   ⟨some 43, .pick (.t 39) (.t 42) (.c (.bool false)), none⟩,
   ⟨some 44, .mov (.t 43), none⟩,
   ⟨some 45, .load true 4 (.t 5), some (44, true)⟩,
   ⟨some 46, .call (.c (.fn 32 [] [])) [(.t 45)], some (44, true)⟩,
   ⟨some 47, .mov (.t 2), some (44, true)⟩,
   ⟨some 48, .call (.c (.fn 34 [] [])) [(.t 46), (.t 47)], some (44, true)⟩,
   ⟨some 49, .pick (.t 44) (.t 48) (.c (.bool false)), none⟩,
   ⟨some 8, .mov (.t 49), none⟩])
 (.ret)))))
def r38 : List ARV := [.tmp 8]
theorem b38 : Try.f38.body.bind (tr Try.prog 50) = some c38.bare := by kernel_rfl
theorem q38 : trRes Try.prog Try.f38.results.toList = some r38 := by kernel_rfl
theorem n38 : (Try.f38.name == "runtime.NumGoroutine") = false := by kernel_rfl

/-- filigree/aig.Xor [g:0, a:1, b:2, g:3, a:4, b:5, w:9, x:10, y:11] -/
def c39 : ACode :=
 .seq (.reg [⟨some 3, .boxI (.t 0), none⟩,
   ⟨some 6, .alloc [(.int .i64 0), (.slice [] .nil), (.slice [] .nil), (.slice [] .nil)], none⟩,
   ⟨some 7, .mov (.c (.int .i64 0)), none⟩,
   ⟨some 8, .mov (.c (.int .i64 0)), none⟩])
 (.seq (.reg [⟨some 12, .load true 4 (.t 3), none⟩,
   ⟨some 13, .mov (.t 1), none⟩,
   ⟨some 14, .mov (.t 2), none⟩,
   ⟨some 15, .bslice 1 [(.t 13), (.t 14)], none⟩,
   ⟨some 16, .call (.c (.fn 47 [] [])) [(.t 12), (.t 15)], none⟩,
   ⟨some 9, .mov (.t 16), none⟩])
 (.seq (.reg [⟨some 17, .mov (.t 9), none⟩,
   ⟨some 18, .mov (.t 1), none⟩,
   ⟨some 19, .mov (.t 2), none⟩,
   ⟨some 20, .bin .xor false (.t 19) (.c (.int .i64 1)), none⟩,
   ⟨some 21, .call (.c (.fn 53 [] [])) [(.t 17), (.t 18), (.t 20)], none⟩,
   ⟨some 10, .mov (.t 21), none⟩])
 (.seq (.reg [⟨some 22, .mov (.t 9), none⟩,
   ⟨some 23, .mov (.t 1), none⟩,
   ⟨some 24, .bin .xor false (.t 23) (.c (.int .i64 1)), none⟩,
   ⟨some 25, .mov (.t 2), none⟩,
   ⟨some 26, .call (.c (.fn 53 [] [])) [(.t 22), (.t 24), (.t 25)], none⟩,
   ⟨some 11, .mov (.t 26), none⟩])
 (.seq (.reg [⟨some 27, .mov (.t 9), none⟩,
   ⟨some 28, .mov (.t 9), none⟩,
   ⟨some 29, .mov (.t 10), none⟩,
   ⟨some 30, .mov (.t 11), none⟩,
   ⟨some 31, .call (.c (.fn 54 [] [])) [(.t 28), (.t 29), (.t 30)], none⟩,
   ⟨some 32, .call (.c (.fn 52 [] [])) [(.t 27), (.t 31)], none⟩,
   ⟨some 33, .extract (.t 32) 0, none⟩,
   ⟨some 34, .extract (.t 32) 1, none⟩,
   ⟨some 35, .extract (.t 32) 2, none⟩,
   ⟨none, .store 4 (.t 6) (.t 33), none⟩,
   ⟨some 7, .mov (.t 34), none⟩,
   ⟨some 8, .mov (.t 35), none⟩])
 (.ret)))))
def r39 : List ARV := [.cell 6 true 4, .tmp 7, .tmp 8]
theorem b39 : Try.f39.body.bind (tr Try.prog 36) = some c39.bare := by kernel_rfl
theorem q39 : trRes Try.prog Try.f39.results.toList = some r39 := by kernel_rfl
theorem n39 : (Try.f39.name == "runtime.NumGoroutine") = false := by kernel_rfl

/-- filigree/filigreeref18.And [g:0, a:1, b:2, g:3, a:4, b:5, e:9] -/
def c40 : ACode :=
 .seq (.reg [⟨some 3, .boxI (.t 0), none⟩,
   ⟨some 6, .alloc [(.int .i64 0), (.slice [] .nil), (.slice [] .nil), (.slice [] .nil)], none⟩,
   ⟨some 7, .mov (.c (.int .i64 0)), none⟩,
   ⟨some 8, .mov (.c (.int .i64 0)), none⟩])
 (.seq (.reg [⟨some 10, .load true 4 (.t 3), none⟩,
   ⟨some 11, .mov (.t 1), none⟩,
   ⟨some 12, .mov (.t 2), none⟩,
   ⟨some 13, .bslice 1 [(.t 11), (.t 12)], none⟩,
   ⟨some 14, .call (.c (.fn 55 [] [])) [(.t 10), (.t 13)], none⟩,
   ⟨some 9, .mov (.t 14), none⟩])
 (.seq (.seq (.reg [⟨some 15, .mov (.t 9), none⟩,
   ⟨some 16, .bin .neq false (.t 15) (.c (.int .i64 0)), none⟩])
 (.cond (.t 16)
  (.seq (.reg [⟨some 17, .build [(.int .i64 0), (.slice [] .nil), (.slice [] .nil), (.slice [] .nil)] [], none⟩,
    ⟨some 18, .mov (.t 9), none⟩,
    ⟨none, .store 4 (.t 6) (.t 17), none⟩,
    ⟨some 7, .mov (.c (.int .i64 0)), none⟩,
    ⟨some 8, .mov (.t 18), none⟩])
  (.ret))
  (.skip)))
 (.seq (.reg [⟨some 19, .load true 4 (.t 3), none⟩,
   ⟨some 20, .mov (.t 1), none⟩,
   ⟨some 21, .mov (.t 2), none⟩,
   ⟨some 22, .call (.c (.fn 56 [] [])) [(.t 19), (.t 20), (.t 21)], none⟩,
   ⟨some 23, .extract (.t 22) 0, none⟩,
   ⟨some 24, .extract (.t 22) 1, none⟩,
   ⟨some 25, .extract (.t 22) 2, none⟩,
   ⟨none, .store 4 (.t 6) (.t 23), none⟩,
   ⟨some 7, .mov (.t 24), none⟩,
   ⟨some 8, .mov (.t 25), none⟩])
 (.ret))))
def r40 : List ARV := [.cell 6 true 4, .tmp 7, .tmp 8]
theorem b40 : Try.f40.body.bind (tr Try.prog 26) = some c40.bare := by kernel_rfl
theorem q40 : trRes Try.prog Try.f40.results.toList = some r40 := by kernel_rfl
theorem n40 : (Try.f40.name == "runtime.NumGoroutine") = false := by kernel_rfl

/-- filigree/aig.Or [g:0, a:1, b:2, g:3, a:4, b:5, w:9] -/
def c41 : ACode :=
 .seq (.reg [⟨some 3, .boxI (.t 0), none⟩,
   ⟨some 6, .alloc [(.int .i64 0), (.slice [] .nil), (.slice [] .nil), (.slice [] .nil)], none⟩,
   ⟨some 7, .mov (.c (.int .i64 0)), none⟩,
   ⟨some 8, .mov (.c (.int .i64 0)), none⟩])
 (.seq (.reg [⟨some 10, .load true 4 (.t 3), none⟩,
   ⟨some 11, .mov (.t 1), none⟩,
   ⟨some 12, .mov (.t 2), none⟩,
   ⟨some 13, .bslice 1 [(.t 11), (.t 12)], none⟩,
   ⟨some 14, .call (.c (.fn 47 [] [])) [(.t 10), (.t 13)], none⟩,
   ⟨some 9, .mov (.t 14), none⟩])
 (.seq (.reg [⟨some 15, .mov (.t 9), none⟩,
   ⟨some 16, .mov (.t 9), none⟩,
   ⟨some 17, .mov (.t 1), none⟩,
   ⟨some 18, .mov (.t 2), none⟩,
   ⟨some 19, .call (.c (.fn 54 [] [])) [(.t 16), (.t 17), (.t 18)], none⟩,
   ⟨some 20, .call (.c (.fn 52 [] [])) [(.t 15), (.t 19)], none⟩,
   ⟨some 21, .extract (.t 20) 0, none⟩,
   ⟨some 22, .extract (.t 20) 1, none⟩,
   ⟨some 23, .extract (.t 20) 2, none⟩,
   ⟨none, .store 4 (.t 6) (.t 21), none⟩,
   ⟨some 7, .mov (.t 22), none⟩,
   ⟨some 8, .mov (.t 23), none⟩])
 (.ret)))
def r41 : List ARV := [.cell 6 true 4, .tmp 7, .tmp 8]
theorem b41 : Try.f41.body.bind (tr Try.prog 24) = some c41.bare := by kernel_rfl
theorem q41 : trRes Try.prog Try.f41.results.toList = some r41 := by kernel_rfl
theorem n41 : (Try.f41.name == "runtime.NumGoroutine") = false := by kernel_rfl

/-- filigree/filigreeref18.Or [g:0, a:1, b:2, g:3, a:4, b:5, e:9] -/
def c42 : ACode :=
 .seq (.reg [⟨some 3, .boxI (.t 0), none⟩,
   ⟨some 6, .alloc [(.int .i64 0), (.slice [] .nil), (.slice [] .nil), (.slice [] .nil)], none⟩,
   ⟨some 7, .mov (.c (.int .i64 0)), none⟩,
   ⟨some 8, .mov (.c (.int .i64 0)), none⟩])
 (.seq (.reg [⟨some 10, .load true 4 (.t 3), none⟩,
   ⟨some 11, .mov (.t 1), none⟩,
   ⟨some 12, .mov (.t 2), none⟩,
   ⟨some 13, .bslice 1 [(.t 11), (.t 12)], none⟩,
   ⟨some 14, .call (.c (.fn 55 [] [])) [(.t 10), (.t 13)], none⟩,
   ⟨some 9, .mov (.t 14), none⟩])
 (.seq (.seq (.reg [⟨some 15, .mov (.t 9), none⟩,
   ⟨some 16, .bin .neq false (.t 15) (.c (.int .i64 0)), none⟩])
 (.cond (.t 16)
  (.seq (.reg [⟨some 17, .build [(.int .i64 0), (.slice [] .nil), (.slice [] .nil), (.slice [] .nil)] [], none⟩,
    ⟨some 18, .mov (.t 9), none⟩,
    ⟨none, .store 4 (.t 6) (.t 17), none⟩,
    ⟨some 7, .mov (.c (.int .i64 0)), none⟩,
    ⟨some 8, .mov (.t 18), none⟩])
  (.ret))
  (.skip)))
 (.seq (.reg [⟨some 19, .load true 4 (.t 3), none⟩,
   ⟨some 20, .mov (.t 1), none⟩,
   ⟨some 21, .mov (.t 2), none⟩,
   ⟨some 22, .call (.c (.fn 57 [] [])) [(.t 19), (.t 20), (.t 21)], none⟩,
   ⟨some 23, .extract (.t 22) 0, none⟩,
   ⟨some 24, .extract (.t 22) 1, none⟩,
   ⟨some 25, .extract (.t 22) 2, none⟩,
   ⟨none, .store 4 (.t 6) (.t 23), none⟩,
   ⟨some 7, .mov (.t 24), none⟩,
   ⟨some 8, .mov (.t 25), none⟩])
 (.ret))))
def r42 : List ARV := [.cell 6 true 4, .tmp 7, .tmp 8]
theorem b42 : Try.f42.body.bind (tr Try.prog 26) = some c42.bare := by kernel_rfl
theorem q42 : trRes Try.prog Try.f42.results.toList = some r42 := by kernel_rfl
theorem n42 : (Try.f42.name == "runtime.NumGoroutine") = false := by kernel_rfl

/-- filigree/filigreeref18.Xor [g:0, a:1, b:2, g:3, a:4, b:5, e:9] -/
def c43 : ACode :=
 .seq (.reg [⟨some 3, .boxI (.t 0), none⟩,
   ⟨some 6, .alloc [(.int .i64 0), (.slice [] .nil), (.slice [] .nil), (.slice [] .nil)], none⟩,
   ⟨some 7, .mov (.c (.int .i64 0)), none⟩,
   ⟨some 8, .mov (.c (.int .i64 0)), none⟩])
 (.seq (.reg [⟨some 10, .load true 4 (.t 3), none⟩,
   ⟨some 11, .mov (.t 1), none⟩,
   ⟨some 12, .mov (.t 2), none⟩,
   ⟨some 13, .bslice 1 [(.t 11), (.t 12)], none⟩,
   ⟨some 14, .call (.c (.fn 55 [] [])) [(.t 10), (.t 13)], none⟩,
   ⟨some 9, .mov (.t 14), none⟩])
 (.seq (.seq (.reg [⟨some 15, .mov (.t 9), none⟩,
   ⟨some 16, .bin .neq false (.t 15) (.c (.int .i64 0)), none⟩])
 (.cond (.t 16)
  (.seq (.reg [⟨some 17, .build [(.int .i64 0), (.slice [] .nil), (.slice [] .nil), (.slice [] .nil)] [], none⟩,
    ⟨some 18, .mov (.t 9), none⟩,
    ⟨none, .store 4 (.t 6) (.t 17), none⟩,
    ⟨some 7, .mov (.c (.int .i64 0)), none⟩,
    ⟨some 8, .mov (.t 18), none⟩])
  (.ret))
  (.skip)))
 (.seq (.reg [⟨some 19, .load true 4 (.t 3), none⟩,
   ⟨some 20, .mov (.t 1), none⟩,
   ⟨some 21, .mov (.t 2), none⟩,
   ⟨some 22, .bin .xor false (.t 21) (.c (.int .i64 1)), none⟩,
   ⟨some 23, .mov (.t 1), none⟩,
   ⟨some 24, .bin .xor false (.t 23) (.c (.int .i64 1)), none⟩,
   ⟨some 25, .mov (.t 2), none⟩,
   ⟨some 26, .call (.c (.fn 58 [] [])) [(.t 19), (.t 20), (.t 22), (.t 24), (.t 25)], none⟩,
   ⟨some 27, .extract (.t 26) 0, none⟩,
   ⟨some 28, .extract (.t 26) 1, none⟩,
   ⟨some 29, .extract (.t 26) 2, none⟩,
   ⟨none, .store 4 (.t 6) (.t 27), none⟩,
   ⟨some 7, .mov (.t 28), none⟩,
   ⟨some 8, .mov (.t 29), none⟩])
 (.ret))))
def r43 : List ARV := [.cell 6 true 4, .tmp 7, .tmp 8]
theorem b43 : Try.f43.body.bind (tr Try.prog 30) = some c43.bare := by kernel_rfl
theorem q43 : trRes Try.prog Try.f43.results.toList = some r43 := by kernel_rfl
theorem n43 : (Try.f43.name == "runtime.NumGoroutine") = false := by kernel_rfl

/-- filigree/filigreeref18.Mux [g:0, c:1, a:2, b:3, g:4, c:5, a:6, b:7, e:11] -/
def c44 : ACode :=
 .seq (.reg [⟨some 4, .boxI (.t 0), none⟩,
   ⟨some 8, .alloc [(.int .i64 0), (.slice [] .nil), (.slice [] .nil), (.slice [] .nil)], none⟩,
   ⟨some 9, .mov (.c (.int .i64 0)), none⟩,
   ⟨some 10, .mov (.c (.int .i64 0)), none⟩])
 (.seq (.reg [⟨some 12, .load true 4 (.t 4), none⟩,
   ⟨some 13, .mov (.t 1), none⟩,
   ⟨some 14, .mov (.t 2), none⟩,
   ⟨some 15, .mov (.t 3), none⟩,
   ⟨some 16, .bslice 1 [(.t 13), (.t 14), (.t 15)], none⟩,
   ⟨some 17, .call (.c (.fn 55 [] [])) [(.t 12), (.t 16)], none⟩,
   ⟨some 11, .mov (.t 17), none⟩])
 (.seq (.seq (.reg [⟨some 18, .mov (.t 11), none⟩,
   ⟨some 19, .bin .neq false (.t 18) (.c (.int .i64 0)), none⟩])
 (.cond (.t 19)
  (.seq (.reg [⟨some 20, .build [(.int .i64 0), (.slice [] .nil), (.slice [] .nil), (.slice [] .nil)] [], none⟩,
    ⟨some 21, .mov (.t 11), none⟩,
    ⟨none, .store 4 (.t 8) (.t 20), none⟩,
    ⟨some 9, .mov (.c (.int .i64 0)), none⟩,
    ⟨some 10, .mov (.t 21), none⟩])
  (.ret))
  (.skip)))
 (.seq (.reg [⟨some 22, .load true 4 (.t 4), none⟩,
   ⟨some 23, .mov (.t 1), none⟩,
   ⟨some 24, .mov (.t 2), none⟩,
   ⟨some 25, .mov (.t 1), none⟩,
   ⟨some 26, .bin .xor false (.t 25) (.c (.int .i64 1)), none⟩,
   ⟨some 27, .mov (.t 3), none⟩,
   ⟨some 28, .call (.c (.fn 58 [] [])) [(.t 22), (.t 23), (.t 24), (.t 26), (.t 27)], none⟩,
   ⟨some 29, .extract (.t 28) 0, none⟩,
   ⟨some 30, .extract (.t 28) 1, none⟩,
   ⟨some 31, .extract (.t 28) 2, none⟩,
   ⟨none, .store 4 (.t 8) (.t 29), none⟩,
   ⟨some 9, .mov (.t 30), none⟩,
   ⟨some 10, .mov (.t 31), none⟩])
 (.ret))))
def r44 : List ARV := [.cell 8 true 4, .tmp 9, .tmp 10]
theorem b44 : Try.f44.body.bind (tr Try.prog 32) = some c44.bare := by kernel_rfl
theorem q44 : trRes Try.prog Try.f44.results.toList = some r44 := by kernel_rfl
theorem n44 : (Try.f44.name == "runtime.NumGoroutine") = false := by kernel_rfl

/-- filigree/filigreeref18.Value [v:0, a:1, v:2, a:3] -/
def c45 : ACode :=
 .seq (.reg [⟨some 4, .mov (.c (.bool false)), none⟩])
 (.seq (.reg [⟨some 5, .mov (.t 0), none⟩,
   ⟨some 6, .mov (.t 1), none⟩,
   ⟨some 7, .bin .quo false (.t 6) (.c (.int .i64 2)), none⟩,
   ⟨some 8, .idxS 1 (.t 5) (.t 7), none⟩,
   ⟨some 9, .load false 1 (.t 8), none⟩,
   ⟨some 10, .mov (.t 1), none⟩,
   ⟨some 11, .bin .rem false (.t 10) (.c (.int .i64 2)), none⟩,
   ⟨some 12, .bin .eql false (.t 11) (.c (.int .i64 1)), none⟩,
   ⟨some 13, .bin .neq true (.t 9) (.t 12), none⟩,
   ⟨some 4, .mov (.t 13), none⟩])
 (.ret))
def r45 : List ARV := [.tmp 4]
theorem b45 : Try.f45.body.bind (tr Try.prog 14) = some c45.bare := by kernel_rfl
theorem q45 : trRes Try.prog Try.f45.results.toList = some r45 := by kernel_rfl
theorem n45 : (Try.f45.name == "runtime.NumGoroutine") = false := by kernel_rfl

/-- filigree/filigreelaw18.value [g:0, a:1, in:2, st:3, g:4, a:5, in:6, st:7, v:9, e:10] -/
def c46 : ACode :=
 .seq (.reg [⟨some 4, .boxI (.t 0), none⟩,
   ⟨some 8, .mov (.c (.bool false)), none⟩])
 (.seq (.reg [⟨some 12, .load true 4 (.t 4), none⟩,
   ⟨some 13, .mov (.t 2), none⟩,
   ⟨some 14, .mov (.t 3), none⟩,
   ⟨some 15, .call (.c (.fn 23 [] [])) [(.t 12), (.t 13), (.t 14)], none⟩,
   ⟨some 11, .mov (.t 15), none⟩,
   ⟨some 16, .extract (.t 11) 0, none⟩,
   ⟨some 17, .extract (.t 11) 1, none⟩,
   ⟨some 9, .mov (.t 16), none⟩,
   ⟨some 10, .mov (.t 17), none⟩])
 (.seq (.reg [⟨some 18, .mov (.t 10), none⟩,
   ⟨some 19, .bin .eql false (.t 18) (.c (.int .i64 0)), none⟩,
   ⟨some 20, .mov (.t 19), none⟩,
   ⟨some 21, .mov (.t 1), some (20, true)⟩,
   ⟨some 22, .bin .geq false (.t 21) (.c (.int .i64 0)), some (20, true)⟩,
   ⟨some 23, .pick (.t 20) (.t 22) (.c (.bool false)), none⟩,
   ⟨some 24, .mov (.t 23), none⟩,
   ⟨some 25, .mov (.t 1), some (24, true)⟩,
   ⟨some 26, .bin .quo false (.t 25) (.c (.int .i64 2)), some (24, true)⟩,
   ⟨some 27, .mov (.t 9), some (24, true)⟩,
   ⟨some 28, .len (.t 27), some (24, true)⟩,
   ⟨some 29, .bin .lss false (.t 26) (.t 28), some (24, true)⟩,
   ⟨some 30, .pick (.t 24) (.t 29) (.c (.bool false)), none⟩,
   ⟨some 31, .mov (.t 30), none⟩,
   ⟨some 32, .mov (.t 9), some (31, true)⟩,
   ⟨some 33, .mov (.t 1), some (31, true)⟩,
   ⟨some 34, .call (.c (.fn 45 [] [])) [(.t 32), (.t 33)], some (31, true)⟩,
   ⟨some 35, .pick (.t 31) (.t 34) (.c (.bool false)), none⟩,
   ⟨some 8, .mov (.t 35), none⟩])
 (.ret)))
def r46 : List ARV := [.tmp 8]
theorem b46 : Try.f46.body.bind (tr Try.prog 36) = some c46.bare := by kernel_rfl
theorem q46 : trRes Try.prog Try.f46.results.toList = some r46 := by kernel_rfl
theorem n46 : (Try.f46.name == "runtime.NumGoroutine") = false := by kernel_rfl

/-- filigree/aig.begin [g:0, l:1, g:2, l:3, w:5, _:6, a:7] -/
def c47 : ACode :=
 .seq (.reg [⟨some 2, .boxI (.t 0), none⟩,
   ⟨some 4, .mov (.c .nilp), none⟩])
 (.seq (.reg [⟨some 8, .load true 4 (.t 2), none⟩,
   ⟨some 9, .build [(.int .i64 0), (.slice [] .nil), (.slice [] .nil), (.slice [] .nil), (.int .i64 0)] [(0, 4, (.t 8))], none⟩,
   ⟨some 10, .box (.t 9), none⟩,
   ⟨some 5, .mov (.t 10), none⟩])
 (.seq (.reg [⟨some 11, .mov (.t 5), none⟩,
   ⟨some 12, .mov (.t 5), none⟩,
   ⟨some 13, .call (.c (.fn 59 [] [])) [(.t 12)], none⟩,
   ⟨some 14, .nilchk (.t 11), none⟩,
   ⟨some 15, .fldA 4 (.t 14), none⟩,
   ⟨none, .store 1 (.t 15) (.t 13), none⟩])
 (.seq (.seq (.reg [⟨some 16, .mov (.t 1), none⟩,
   ⟨some 17, .len (.t 16), none⟩,
   ⟨some 18, .mov (.c (.int .i64 0)), none⟩])
 (.block 0 (.loop (.seq (.reg [⟨some 19, .bin .lss false (.t 18) (.t 17), none⟩])
  (.seq (.cond (.t 19)
   (.skip)
   (.exit 0))
  (.seq (.block 1 (.seq (.reg [⟨some 20, .idxS 1 (.t 16) (.t 18), none⟩,
    ⟨some 21, .load false 1 (.t 20), none⟩,
    ⟨some 7, .mov (.t 21), none⟩])
  (.seq (.reg [⟨some 22, .mov (.t 5), none⟩,
    ⟨some 23, .nilchk (.t 22), none⟩,
    ⟨some 24, .fldA 4 (.t 23), none⟩,
    ⟨some 25, .load false 1 (.t 24), none⟩,
    ⟨some 26, .bin .eql false (.t 25) (.c (.int .i64 0)), none⟩,
    ⟨some 27, .mov (.t 26), none⟩,
    ⟨some 28, .mov (.t 5), some (27, true)⟩,
    ⟨some 29, .mov (.t 7), some (27, true)⟩,
    ⟨some 30, .call (.c (.fn 60 [] [])) [(.t 28), (.t 29)], some (27, true)⟩,
    ⟨some 31, .un .not (.t 30), some (27, true)⟩,
    ⟨some 32, .pick (.t 27) (.t 31) (.c (.bool false)), none⟩])
  (.cond (.t 32)
   (.reg [⟨some 33, .mov (.t 5), none⟩,
     ⟨some 34, .nilchk (.t 33), none⟩,
     ⟨some 35, .fldA 4 (.t 34), none⟩,
     ⟨none, .store 1 (.t 35) (.c (.int .i64 1)), none⟩])
   (.skip)))))
  (.reg [⟨some 36, .bin .add false (.t 18) (.c (.int .i64 1)), none⟩,
    ⟨some 18, .mov (.t 36), none⟩])))))))
 (.seq (.reg [⟨some 37, .mov (.t 5), none⟩,
   ⟨some 4, .mov (.t 37), none⟩])
 (.ret)))))
def r47 : List ARV := [.tmp 4]
theorem b47 : Try.f47.body.bind (tr Try.prog 38) = some c47.bare := by kernel_rfl
theorem q47 : trRes Try.prog Try.f47.results.toList = some r47 := by kernel_rfl
theorem n47 : (Try.f47.name == "runtime.NumGoroutine") = false := by kernel_rfl

/-- (*filigree/aig.work).first [w:0, w:1] -/
def c48 : ACode :=
 .seq (.reg [⟨some 2, .mov (.c (.int .i64 0)), none⟩])
 (.seq (.drw [⟨some 3, .mov (.t 0), none⟩,
   ⟨some 4, .nilchk (.t 3), none⟩,
   ⟨some 5, .fldA 0 (.t 4), none⟩,
   ⟨some 6, .fldA 0 (.t 5), none⟩,
   ⟨some 7, .load false 1 (.t 6), none⟩,
   ⟨some 8, .bin .add false (.c (.int .i64 1)) (.t 7), none⟩,
   ⟨some 9, .mov (.t 0), none⟩,
   ⟨some 10, .nilchk (.t 9), none⟩,
   ⟨some 11, .fldA 0 (.t 10), none⟩,
   ⟨some 12, .fldA 1 (.t 11), none⟩,
   ⟨some 13, .load false 1 (.t 12), none⟩,
   ⟨some 14, .len (.t 13), none⟩,
   ⟨some 15, .bin .add false (.t 8) (.t 14), none⟩,
   ⟨some 2, .mov (.t 15), none⟩] [])
 (.ret))
def r48 : List ARV := [.tmp 2]
theorem b48 : Try.f48.body.bind (tr Try.prog 16) = some c48.bare := by kernel_rfl
theorem q48 : trRes Try.prog Try.f48.results.toList = some r48 := by kernel_rfl
theorem n48 : (Try.f48.name == "runtime.NumGoroutine") = false := by kernel_rfl

/-- (*filigree/aig.work).count [w:0, w:1] -/
def c49 : ACode :=
 .seq (.reg [⟨some 2, .mov (.c (.int .i64 0)), none⟩])
 (.seq (.drw [⟨some 3, .mov (.t 0), none⟩,
   ⟨some 4, .nilchk (.t 3), none⟩,
   ⟨some 5, .fldA 0 (.t 4), none⟩,
   ⟨some 6, .fldA 0 (.t 5), none⟩,
   ⟨some 7, .load false 1 (.t 6), none⟩,
   ⟨some 8, .mov (.t 0), none⟩,
   ⟨some 9, .nilchk (.t 8), none⟩,
   ⟨some 10, .fldA 0 (.t 9), none⟩,
   ⟨some 11, .fldA 1 (.t 10), none⟩,
   ⟨some 12, .load false 1 (.t 11), none⟩,
   ⟨some 13, .len (.t 12), none⟩,
   ⟨some 14, .bin .add false (.t 7) (.t 13), none⟩,
   ⟨some 15, .mov (.t 0), none⟩,
   ⟨some 16, .nilchk (.t 15), none⟩,
   ⟨some 17, .fldA 0 (.t 16), none⟩,
   ⟨some 18, .fldA 2 (.t 17), none⟩,
   ⟨some 19, .load false 1 (.t 18), none⟩,
   ⟨some 20, .len (.t 19), none⟩,
   ⟨some 21, .bin .add false (.t 14) (.t 20), none⟩,
   ⟨some 2, .mov (.t 21), none⟩] [])
 (.ret))
def r49 : List ARV := [.tmp 2]
theorem b49 : Try.f49.body.bind (tr Try.prog 22) = some c49.bare := by kernel_rfl
theorem q49 : trRes Try.prog Try.f49.results.toList = some r49 := by kernel_rfl
theorem n49 : (Try.f49.name == "runtime.NumGoroutine") = false := by kernel_rfl

/-- slices.Concat[[]bool,bool] [slices:0, slices:1, size:3, _:4, s:5, newslice:6, _:7, s:8] -/
def c50 : ACode :=
 .seq (.reg [⟨some 2, .mov (.c (.slice [] .nil)), none⟩])
 (.seq (.reg [⟨some 3, .mov (.c (.int .i64 0)), none⟩])
 (.seq (.seq (.reg [⟨some 9, .mov (.t 0), none⟩,
   ⟨some 10, .len (.t 9), none⟩,
   ⟨some 11, .mov (.c (.int .i64 0)), none⟩])
 (.block 0 (.loop (.seq (.reg [⟨some 12, .bin .lss false (.t 11) (.t 10), none⟩])
  (.seq (.cond (.t 12)
   (.skip)
   (.exit 0))
  (.seq (.block 1 (.seq (.reg [⟨some 13, .idxS 1 (.t 9) (.t 11), none⟩,
    ⟨some 14, .load false 1 (.t 13), none⟩,
    ⟨some 5, .mov (.t 14), none⟩])
  (.seq (.reg [⟨some 15, .mov (.t 3), none⟩,
    ⟨some 16, .mov (.t 5), none⟩,
    ⟨some 17, .len (.t 16), none⟩,
    ⟨some 18, .bin .add false (.t 15) (.t 17), none⟩,
    ⟨some 3, .mov (.t 18), none⟩])
  (.seq (.reg [⟨some 19, .mov (.t 3), none⟩,
    ⟨some 20, .bin .lss false (.t 19) (.c (.int .i64 0)), none⟩])
  (.cond (.t 20)
   (.reg [⟨some 21, .mkiface 9 (.c (.str ⟨#[108, 101, 110, 32, 111, 117, 116, 32, 111, 102, 32, 114, 97, 110, 103, 101]⟩)), none⟩,
     ⟨none, .panic (.t 21), none⟩])
   (.skip))))))
  (.reg [⟨some 22, .bin .add false (.t 11) (.c (.int .i64 1)), none⟩,
    ⟨some 11, .mov (.t 22), none⟩])))))))
 (.seq (.reg [⟨some 23, .mov (.t 3), none⟩,
   ⟨some 24, .call (.c (.fn 61 [] [])) [(.c (.slice [] .nil)), (.t 23)], none⟩,
   ⟨some 6, .mov (.t 24), none⟩])
 (.seq (.seq (.reg [⟨some 25, .mov (.t 0), none⟩,
   ⟨some 26, .len (.t 25), none⟩,
   ⟨some 27, .mov (.c (.int .i64 0)), none⟩])
 (.block 2 (.loop (.seq (.reg [⟨some 28, .bin .lss false (.t 27) (.t 26), none⟩])
  (.seq (.cond (.t 28)
   (.skip)
   (.exit 2))
  (.seq (.block 3 (.seq (.reg [⟨some 29, .idxS 1 (.t 25) (.t 27), none⟩,
    ⟨some 30, .load false 1 (.t 29), none⟩,
    ⟨some 8, .mov (.t 30), none⟩])
  (.reg [⟨some 31, .mov (.t 6), none⟩,
    ⟨some 32, .mov (.t 8), none⟩,
    ⟨some 33, .append 1 1 (.t 31) (.t 32), none⟩,
    ⟨some 6, .mov (.t 33), none⟩])))
  (.reg [⟨some 34, .bin .add false (.t 27) (.c (.int .i64 1)), none⟩,
    ⟨some 27, .mov (.t 34), none⟩])))))))
 (.seq (.reg [⟨some 35, .mov (.t 6), none⟩,
   ⟨some 2, .mov (.t 35), none⟩])
 (.ret))))))
def r50 : List ARV := [.tmp 2]
theorem b50 : Try.f50.body.bind (tr Try.prog 36) = some c50.bare := by kernel_rfl
theorem q50 : trRes Try.prog Try.f50.results.toList = some r50 := by kernel_rfl
theorem n50 : (Try.f50.name == "runtime.NumGoroutine") = false := by kernel_rfl

/-- filigree/aig.of [v:0, a:1, v:2, a:3] -/
def c51 : ACode :=
 .seq (.reg [⟨some 4, .mov (.c (.bool false)), none⟩])
 (.seq (.reg [⟨some 5, .mov (.t 0), none⟩,
   ⟨some 6, .mov (.t 1), none⟩,
   ⟨some 7, .bin .shr false (.t 6) (.c (.int .u64 1)), none⟩,
   ⟨some 8, .idxS 1 (.t 5) (.t 7), none⟩,
   ⟨some 9, .load false 1 (.t 8), none⟩,
   ⟨some 10, .mov (.t 1), none⟩,
   ⟨some 11, .bin .and false (.t 10) (.c (.int .i64 1)), none⟩,
   ⟨some 12, .bin .eql false (.t 11) (.c (.int .i64 1)), none⟩,
   ⟨some 13, .bin .neq true (.t 9) (.t 12), none⟩,
   ⟨some 4, .mov (.t 13), none⟩])
 (.ret))
def r51 : List ARV := [.tmp 4]
theorem b51 : Try.f51.body.bind (tr Try.prog 14) = some c51.bare := by kernel_rfl
theorem q51 : trRes Try.prog Try.f51.results.toList = some r51 := by kernel_rfl
theorem n51 : (Try.f51.name == "runtime.NumGoroutine") = false := by kernel_rfl

/-- (*filigree/aig.work).end [w:0, a:1, w:2, a:3] -/
def c52 : ACode :=
 .seq (.reg [⟨some 4, .alloc [(.int .i64 0), (.slice [] .nil), (.slice [] .nil), (.slice [] .nil)], none⟩,
   ⟨some 5, .mov (.c (.int .i64 0)), none⟩,
   ⟨some 6, .mov (.c (.int .i64 0)), none⟩])
 (.seq (.seq (.reg [⟨some 7, .mov (.t 0), none⟩,
   ⟨some 8, .nilchk (.t 7), none⟩,
   ⟨some 9, .fldA 4 (.t 8), none⟩,
   ⟨some 10, .load false 1 (.t 9), none⟩,
   ⟨some 11, .bin .neq false (.t 10) (.c (.int .i64 0)), none⟩])
 (.cond (.t 11)
  (.seq (.drw [⟨some 12, .build [(.int .i64 0), (.slice [] .nil), (.slice [] .nil), (.slice [] .nil)] [], none⟩,
    ⟨some 13, .mov (.t 0), none⟩,
    ⟨some 14, .nilchk (.t 13), none⟩,
    ⟨some 15, .fldA 4 (.t 14), none⟩,
    ⟨some 16, .load false 1 (.t 15), none⟩,
    ⟨none, .store 4 (.t 4) (.t 12), none⟩,
    ⟨some 5, .mov (.c (.int .i64 0)), none⟩,
    ⟨some 6, .mov (.t 16), none⟩] [(4, 5)])
  (.ret))
  (.skip)))
 (.seq (.reg [⟨some 17, .mov (.t 0), none⟩,
   ⟨some 18, .nilchk (.t 17), none⟩,
   ⟨some 19, .fldA 0 (.t 18), none⟩,
   ⟨some 20, .load true 4 (.t 19), none⟩,
   ⟨some 21, .mov (.t 1), none⟩,
   ⟨none, .store 4 (.t 4) (.t 20), none⟩,
   ⟨some 5, .mov (.t 21), none⟩,
   ⟨some 6, .mov (.c (.int .i64 0)), none⟩])
 (.ret)))
def r52 : List ARV := [.cell 4 true 4, .tmp 5, .tmp 6]
theorem b52 : Try.f52.body.bind (tr Try.prog 22) = some c52.bare := by kernel_rfl
theorem q52 : trRes Try.prog Try.f52.results.toList = some r52 := by kernel_rfl
theorem n52 : (Try.f52.name == "runtime.NumGoroutine") = false := by kernel_rfl

/-- (*filigree/aig.work).and [w:0, a:1, b:2, w:3, a:4, b:5, i:7] -/
def c53 : ACode :=
 .seq (.reg [⟨some 4, .box (.t 1), none⟩,
   ⟨some 5, .box (.t 2), none⟩,
   ⟨some 6, .mov (.c (.int .i64 0)), none⟩])
 (.seq (.drw [⟨some 8, .load false 1 (.t 4), none⟩,
   ⟨some 9, .load false 1 (.t 5), none⟩,
   ⟨some 10, .min [(.t 8), (.t 9)], none⟩,
   ⟨some 11, .load false 1 (.t 4), none⟩,
   ⟨some 12, .load false 1 (.t 5), none⟩,
   ⟨some 13, .max [(.t 11), (.t 12)], none⟩,
   ⟨none, .store 1 (.t 4) (.t 10), none⟩,
   ⟨none, .store 1 (.t 5) (.t 13), none⟩] [(4, 6)])
 (.seq (.block 0 (.seq (.seq (.reg [⟨some 15, .mov (.t 0), none⟩,
   ⟨some 16, .nilchk (.t 15), none⟩,
   ⟨some 17, .fldA 4 (.t 16), none⟩,
   ⟨some 18, .load false 1 (.t 17), none⟩,
   ⟨some 19, .bin .neq false (.t 18) (.c (.int .i64 0)), none⟩,
   ⟨some 14, .mov (.t 19), none⟩])
 (.cond (.t 14)
  (.skip)
  (.seq (.reg [⟨some 20, .load false 1 (.t 4), none⟩,
    ⟨some 21, .bin .eql false (.t 20) (.c (.int .i64 0)), none⟩,
    ⟨some 14, .mov (.t 21), none⟩])
  (.cond (.t 14)
   (.skip)
   (.reg [⟨some 22, .load false 1 (.t 4), none⟩,
     ⟨some 23, .load false 1 (.t 5), none⟩,
     ⟨some 24, .bin .xor false (.t 23) (.c (.int .i64 1)), none⟩,
     ⟨some 25, .bin .eql false (.t 22) (.t 24), none⟩,
     ⟨some 14, .mov (.t 25), none⟩])))))
 (.cond (.t 14)
  (.seq (.reg [⟨some 6, .mov (.c (.int .i64 0)), none⟩])
  (.ret))
  (.seq (.seq (.reg [⟨some 27, .load false 1 (.t 4), none⟩,
    ⟨some 28, .bin .eql false (.t 27) (.c (.int .i64 1)), none⟩,
    ⟨some 26, .mov (.t 28), none⟩])
  (.cond (.t 26)
   (.skip)
   (.reg [⟨some 29, .load false 1 (.t 4), none⟩,
     ⟨some 30, .load false 1 (.t 5), none⟩,
     ⟨some 31, .bin .eql false (.t 29) (.t 30), none⟩,
     ⟨some 26, .mov (.t 31), none⟩])))
  (.cond (.t 26)
   (.seq (.reg [⟨some 32, .load false 1 (.t 5), none⟩,
     ⟨some 6, .mov (.t 32), none⟩])
   (.ret))
   (.skip))))))
 (.seq (.reg [⟨some 33, .mov (.t 0), none⟩,
   ⟨some 34, .nilchk (.t 33), none⟩,
   ⟨some 35, .fldA 0 (.t 34), none⟩,
   ⟨some 36, .fldA 2 (.t 35), none⟩,
   ⟨some 37, .load false 1 (.t 36), none⟩,
   ⟨some 38, .mkfn 63 [] [(.t 4), (.t 5)], none⟩,
   ⟨some 39, .call (.c (.fn 62 [] [])) [(.t 37), (.t 38)], none⟩,
   ⟨some 7, .mov (.t 39), none⟩])
 (.seq (.seq (.reg [⟨some 40, .mov (.t 7), none⟩,
   ⟨some 41, .bin .geq false (.t 40) (.c (.int .i64 0)), none⟩])
 (.cond (.t 41)
  (.seq (.reg [⟨some 42, .mov (.t 0), none⟩,
    ⟨some 43, .call (.c (.fn 48 [] [])) [(.t 42)], none⟩,
    ⟨some 44, .mov (.t 7), none⟩,
    ⟨some 45, .bin .add false (.t 43) (.t 44), none⟩,
    ⟨some 46, .bin .mul false (.c (.int .i64 2)) (.t 45), none⟩,
    ⟨some 6, .mov (.t 46), none⟩])
  (.ret))
  (.skip)))
 (.seq (.seq (.reg [⟨some 47, .mov (.t 0), none⟩,
   ⟨some 48, .call (.c (.fn 49 [] [])) [(.t 47)], none⟩,
   ⟨some 49, .bin .eql false (.t 48) (.c (.int .i64 65536)), none⟩])
 (.cond (.t 49)
  (.seq (.reg [⟨some 50, .mov (.t 0), none⟩,
    ⟨some 51, .nilchk (.t 50), none⟩,
    ⟨some 52, .fldA 4 (.t 51), none⟩,
    ⟨none, .store 1 (.t 52) (.c (.int .i64 2)), none⟩])
  (.seq (.reg [⟨some 6, .mov (.c (.int .i64 0)), none⟩])
  (.ret)))
  (.skip)))
 (.seq (.drw [⟨some 53, .mov (.t 0), none⟩,
   ⟨some 54, .mov (.t 0), none⟩,
   ⟨some 55, .nilchk (.t 54), none⟩,
   ⟨some 56, .fldA 0 (.t 55), none⟩,
   ⟨some 57, .fldA 2 (.t 56), none⟩,
   ⟨some 58, .load false 1 (.t 57), none⟩,
   ⟨some 59, .call (.c (.fn 64 [] [])) [(.t 58)], none⟩,
   ⟨some 60, .load false 1 (.t 4), none⟩,
   ⟨some 61, .load false 1 (.t 5), none⟩,
   ⟨some 62, .build [(.int .i64 0), (.int .i64 0)] [(0, 1, (.t 60)), (1, 1, (.t 61))], none⟩,
   ⟨some 63, .bslice 2 [(.t 62)], none⟩,
   ⟨some 64, .append 2 16 (.t 59) (.t 63), none⟩,
   ⟨some 65, .nilchk (.t 53), none⟩,
   ⟨some 66, .fldA 0 (.t 65), none⟩,
   ⟨some 67, .fldA 2 (.t 66), none⟩,
   ⟨none, .store 1 (.t 67) (.t 64), none⟩] [])
 (.seq (.reg [⟨some 68, .mov (.t 0), none⟩,
   ⟨some 69, .call (.c (.fn 49 [] [])) [(.t 68)], none⟩,
   ⟨some 70, .bin .mul false (.c (.int .i64 2)) (.t 69), none⟩,
   ⟨some 6, .mov (.t 70), none⟩])
 (.ret))))))))
def r53 : List ARV := [.tmp 6]
theorem b53 : Try.f53.body.bind (tr Try.prog 71) = some c53.bare := by kernel_rfl
theorem q53 : trRes Try.prog Try.f53.results.toList = some r53 := by kernel_rfl
theorem n53 : (Try.f53.name == "runtime.NumGoroutine") = false := by kernel_rfl

/-- (*filigree/aig.work).or [w:0, a:1, b:2, w:3, a:4, b:5] -/
def c54 : ACode :=
 .seq (.reg [⟨some 6, .mov (.c (.int .i64 0)), none⟩])
 (.seq (.reg [⟨some 7, .mov (.t 0), none⟩,
   ⟨some 8, .mov (.t 1), none⟩,
   ⟨some 9, .bin .xor false (.t 8) (.c (.int .i64 1)), none⟩,
   ⟨some 10, .mov (.t 2), none⟩,
   ⟨some 11, .bin .xor false (.t 10) (.c (.int .i64 1)), none⟩,
   ⟨some 12, .call (.c (.fn 53 [] [])) [(.t 7), (.t 9), (.t 11)], none⟩,
   ⟨some 13, .bin .xor false (.t 12) (.c (.int .i64 1)), none⟩,
   ⟨some 6, .mov (.t 13), none⟩])
 (.ret))
def r54 : List ARV := [.tmp 6]
theorem b54 : Try.f54.body.bind (tr Try.prog 14) = some c54.bare := by kernel_rfl
theorem q54 : trRes Try.prog Try.f54.results.toList = some r54 := by kernel_rfl
theorem n54 : (Try.f54.name == "runtime.NumGoroutine") = false := by kernel_rfl

/-- filigree/filigreeref18.may [g:0, l:1, g:2, l:3, e:5, i:6] -/
def c55 : ACode :=
 .seq (.reg [⟨some 2, .boxI (.t 0), none⟩,
   ⟨some 4, .mov (.c (.int .i64 0)), none⟩])
 (.seq (.reg [⟨some 7, .load true 4 (.t 2), none⟩,
   ⟨some 8, .call (.c (.fn 21 [] [])) [(.t 7)], none⟩,
   ⟨some 5, .mov (.t 8), none⟩])
 (.seq (.seq (.reg [⟨some 9, .mov (.t 5), none⟩,
   ⟨some 10, .bin .neq false (.t 9) (.c (.int .i64 0)), none⟩])
 (.cond (.t 10)
  (.seq (.reg [⟨some 11, .mov (.t 5), none⟩,
    ⟨some 4, .mov (.t 11), none⟩])
  (.ret))
  (.skip)))
 (.seq (.seq (.reg [⟨some 6, .mov (.c (.int .i64 0)), none⟩])
 (.block 0 (.loop (.seq (.seq (.reg [⟨some 12, .mov (.t 6), none⟩,
    ⟨some 13, .mov (.t 1), none⟩,
    ⟨some 14, .len (.t 13), none⟩,
    ⟨some 15, .bin .lss false (.t 12) (.t 14), none⟩])
  (.cond (.t 15)
   (.skip)
   (.exit 0)))
  (.seq (.block 1 (.seq (.drw [⟨some 18, .load true 4 (.t 2), none⟩,
    ⟨some 19, .call (.c (.fn 32 [] [])) [(.t 18)], none⟩,
    ⟨some 20, .mov (.t 1), none⟩,
    ⟨some 21, .mov (.t 6), none⟩,
    ⟨some 22, .idxS 1 (.t 20) (.t 21), none⟩,
    ⟨some 23, .load false 1 (.t 22), none⟩,
    ⟨some 24, .call (.c (.fn 34 [] [])) [(.t 19), (.t 23)], none⟩,
    ⟨some 25, .un .not (.t 24), none⟩] [])
  (.cond (.t 25)
   (.seq (.reg [⟨some 4, .mov (.c (.int .i64 1)), none⟩])
   (.ret))
   (.skip))))
  (.reg [⟨some 16, .mov (.t 6), none⟩,
    ⟨some 17, .bin .add false (.t 16) (.c (.int .i64 1)), none⟩,
    ⟨some 6, .mov (.t 17), none⟩]))))))
 (.seq (.reg [⟨some 4, .mov (.c (.int .i64 0)), none⟩])
 (.ret)))))
def r55 : List ARV := [.tmp 4]
theorem b55 : Try.f55.body.bind (tr Try.prog 26) = some c55.bare := by kernel_rfl
theorem q55 : trRes Try.prog Try.f55.results.toList = some r55 := by kernel_rfl
theorem n55 : (Try.f55.name == "runtime.NumGoroutine") = false := by kernel_rfl

/-- filigree/filigreeref18.and [g:0, p:1, q:2, g:3, p:4, q:5, a:9, b:10, first:11, i:12, out:13] -/
def c56 : ACode :=
 .seq (.reg [⟨some 3, .boxI (.t 0), none⟩,
   ⟨some 6, .alloc [(.int .i64 0), (.slice [] .nil), (.slice [] .nil), (.slice [] .nil)], none⟩,
   ⟨some 7, .mov (.c (.int .i64 0)), none⟩,
   ⟨some 8, .mov (.c (.int .i64 0)), none⟩])
 (.seq (.reg [⟨some 14, .mov (.t 1), none⟩,
   ⟨some 15, .mov (.t 2), none⟩,
   ⟨some 16, .min [(.t 14), (.t 15)], none⟩,
   ⟨some 9, .mov (.t 16), none⟩])
 (.seq (.reg [⟨some 17, .mov (.t 1), none⟩,
   ⟨some 18, .mov (.t 2), none⟩,
   ⟨some 19, .max [(.t 17), (.t 18)], none⟩,
   ⟨some 10, .mov (.t 19), none⟩])
 (.seq (.seq (.reg [⟨some 20, .mov (.t 9), none⟩,
   ⟨some 21, .bin .eql false (.t 20) (.c (.int .i64 0)), none⟩,
   ⟨some 22, .mov (.t 21), none⟩,
   ⟨some 23, .mov (.t 9), some (22, false)⟩,
   ⟨some 24, .mov (.t 10), some (22, false)⟩,
   ⟨some 25, .bin .xor false (.t 23) (.t 24), some (22, false)⟩,
   ⟨some 26, .bin .eql false (.t 25) (.c (.int .i64 1)), some (22, false)⟩,
   ⟨some 27, .pick (.t 22) (.c (.bool true)) (.t 26), none⟩])
 (.cond (.t 27)
  (.seq (.reg [⟨some 28, .load true 4 (.t 3), none⟩,
    ⟨none, .store 4 (.t 6) (.t 28), none⟩,
    ⟨some 7, .mov (.c (.int .i64 0)), none⟩,
    ⟨some 8, .mov (.c (.int .i64 0)), none⟩])
  (.ret))
  (.skip)))
 (.seq (.seq (.reg [⟨some 29, .mov (.t 9), none⟩,
   ⟨some 30, .bin .eql false (.t 29) (.c (.int .i64 1)), none⟩,
   ⟨some 31, .mov (.t 30), none⟩,
   ⟨some 32, .mov (.t 9), some (31, false)⟩,
   ⟨some 33, .mov (.t 10), some (31, false)⟩,
   ⟨some 34, .bin .eql false (.t 32) (.t 33), some (31, false)⟩,
   ⟨some 35, .pick (.t 31) (.c (.bool true)) (.t 34), none⟩])
 (.cond (.t 35)
  (.seq (.reg [⟨some 36, .load true 4 (.t 3), none⟩,
    ⟨some 37, .mov (.t 10), none⟩,
    ⟨none, .store 4 (.t 6) (.t 36), none⟩,
    ⟨some 7, .mov (.t 37), none⟩,
    ⟨some 8, .mov (.c (.int .i64 0)), none⟩])
  (.ret))
  (.skip)))
 (.seq (.reg [⟨some 38, .fldA 0 (.t 3), none⟩,
   ⟨some 39, .load false 1 (.t 38), none⟩,
   ⟨some 40, .bin .add false (.c (.int .i64 1)) (.t 39), none⟩,
   ⟨some 41, .fldA 1 (.t 3), none⟩,
   ⟨some 42, .load false 1 (.t 41), none⟩,
   ⟨some 43, .len (.t 42), none⟩,
   ⟨some 44, .bin .add false (.t 40) (.t 43), none⟩,
   ⟨some 11, .mov (.t 44), none⟩])
 (.seq (.reg [⟨some 45, .load true 4 (.t 3), none⟩,
   ⟨some 46, .mov (.t 9), none⟩,
   ⟨some 47, .mov (.t 10), none⟩,
   ⟨some 48, .call (.c (.fn 65 [] [])) [(.t 45), (.t 46), (.t 47)], none⟩,
   ⟨some 12, .mov (.t 48), none⟩])
 (.seq (.seq (.reg [⟨some 49, .mov (.t 12), none⟩,
   ⟨some 50, .bin .geq false (.t 49) (.c (.int .i64 0)), none⟩])
 (.cond (.t 50)
  (.seq (.reg [⟨some 51, .load true 4 (.t 3), none⟩,
    ⟨some 52, .mov (.t 11), none⟩,
    ⟨some 53, .mov (.t 12), none⟩,
    ⟨some 54, .bin .add false (.t 52) (.t 53), none⟩,
    ⟨some 55, .bin .mul false (.c (.int .i64 2)) (.t 54), none⟩,
    ⟨none, .store 4 (.t 6) (.t 51), none⟩,
    ⟨some 7, .mov (.t 55), none⟩,
    ⟨some 8, .mov (.c (.int .i64 0)), none⟩])
  (.ret))
  (.skip)))
 (.seq (.seq (.reg [⟨some 56, .fldA 0 (.t 3), none⟩,
   ⟨some 57, .load false 1 (.t 56), none⟩,
   ⟨some 58, .fldA 1 (.t 3), none⟩,
   ⟨some 59, .load false 1 (.t 58), none⟩,
   ⟨some 60, .len (.t 59), none⟩,
   ⟨some 61, .bin .add false (.t 57) (.t 60), none⟩,
   ⟨some 62, .fldA 2 (.t 3), none⟩,
   ⟨some 63, .load false 1 (.t 62), none⟩,
   ⟨some 64, .len (.t 63), none⟩,
   ⟨some 65, .bin .add false (.t 61) (.t 64), none⟩,
   ⟨some 66, .bin .geq false (.t 65) (.c (.int .i64 65536)), none⟩])
 (.cond (.t 66)
  (.seq (.reg [⟨some 67, .build [(.int .i64 0), (.slice [] .nil), (.slice [] .nil), (.slice [] .nil)] [], none⟩,
    ⟨none, .store 4 (.t 6) (.t 67), none⟩,
    ⟨some 7, .mov (.c (.int .i64 0)), none⟩,
    ⟨some 8, .mov (.c (.int .i64 2)), none⟩])
  (.ret))
  (.skip)))
 (.seq (.reg [⟨some 68, .load true 4 (.t 3), none⟩,
   ⟨some 13, .alloc [(.int .i64 0), (.slice [] .nil), (.slice [] .nil), (.slice [] .nil)], none⟩,
   ⟨none, .store 4 (.t 13) (.t 68), none⟩])
 (.seq (.reg [⟨some 69, .bslice 2 [], none⟩,
   ⟨some 70, .fldA 2 (.t 3), none⟩,
   ⟨some 71, .load false 1 (.t 70), none⟩,
   ⟨some 72, .append 2 16 (.t 69) (.t 71), none⟩,
   ⟨some 73, .fldA 2 (.t 13), none⟩,
   ⟨none, .store 1 (.t 73) (.t 72), none⟩])
 (.seq (.reg [⟨some 74, .fldA 2 (.t 13), none⟩,
   ⟨some 75, .load false 1 (.t 74), none⟩,
   ⟨some 76, .mov (.t 9), none⟩,
   ⟨some 77, .mov (.t 10), none⟩,
   ⟨some 78, .build [(.int .i64 0), (.int .i64 0)] [(0, 1, (.t 76)), (1, 1, (.t 77))], none⟩,
   ⟨some 79, .bslice 2 [(.t 78)], none⟩,
   ⟨some 80, .append 2 16 (.t 75) (.t 79), none⟩,
   ⟨some 81, .fldA 2 (.t 13), none⟩,
   ⟨none, .store 1 (.t 81) (.t 80), none⟩])
 (.seq (.drw [⟨some 82, .load true 4 (.t 13), none⟩,
   ⟨some 83, .load true 4 (.t 13), none⟩,
   ⟨some 84, .call (.c (.fn 32 [] [])) [(.t 83)], none⟩,
   ⟨some 85, .bin .sub false (.t 84) (.c (.int .i64 1)), none⟩,
   ⟨some 86, .bin .mul false (.c (.int .i64 2)) (.t 85), none⟩,
   ⟨none, .store 4 (.t 6) (.t 82), none⟩,
   ⟨some 7, .mov (.t 86), none⟩,
   ⟨some 8, .mov (.c (.int .i64 0)), none⟩] [])
 (.ret)))))))))))))
def r56 : List ARV := [.cell 6 true 4, .tmp 7, .tmp 8]
theorem b56 : Try.f56.body.bind (tr Try.prog 87) = some c56.bare := by kernel_rfl
theorem q56 : trRes Try.prog Try.f56.results.toList = some r56 := by kernel_rfl
theorem n56 : (Try.f56.name == "runtime.NumGoroutine") = false := by kernel_rfl

/-- filigree/filigreeref18.or [g:0, a:1, b:2, g:3, a:4, b:5, h:9, x:10, e:11] -/
def c57 : ACode :=
 .seq (.reg [⟨some 3, .boxI (.t 0), none⟩,
   ⟨some 6, .alloc [(.int .i64 0), (.slice [] .nil), (.slice [] .nil), (.slice [] .nil)], none⟩,
   ⟨some 7, .mov (.c (.int .i64 0)), none⟩,
   ⟨some 8, .mov (.c (.int .i64 0)), none⟩])
 (.seq (.reg [⟨some 13, .load true 4 (.t 3), none⟩,
   ⟨some 14, .mov (.t 1), none⟩,
   ⟨some 15, .bin .xor false (.t 14) (.c (.int .i64 1)), none⟩,
   ⟨some 16, .mov (.t 2), none⟩,
   ⟨some 17, .bin .xor false (.t 16) (.c (.int .i64 1)), none⟩,
   ⟨some 18, .call (.c (.fn 56 [] [])) [(.t 13), (.t 15), (.t 17)], none⟩,
   ⟨some 12, .mov (.t 18), none⟩,
   ⟨some 19, .extract (.t 12) 0, none⟩,
   ⟨some 20, .extract (.t 12) 1, none⟩,
   ⟨some 21, .extract (.t 12) 2, none⟩,
   ⟨some 9, .alloc [(.int .i64 0), (.slice [] .nil), (.slice [] .nil), (.slice [] .nil)], none⟩,
   ⟨none, .store 4 (.t 9) (.t 19), none⟩,
   ⟨some 10, .mov (.t 20), none⟩,
   ⟨some 11, .mov (.t 21), none⟩])
 (.seq (.seq (.reg [⟨some 22, .mov (.t 11), none⟩,
   ⟨some 23, .bin .neq false (.t 22) (.c (.int .i64 0)), none⟩])
 (.cond (.t 23)
  (.seq (.reg [⟨some 24, .build [(.int .i64 0), (.slice [] .nil), (.slice [] .nil), (.slice [] .nil)] [], none⟩,
    ⟨some 25, .mov (.t 11), none⟩,
    ⟨none, .store 4 (.t 6) (.t 24), none⟩,
    ⟨some 7, .mov (.c (.int .i64 0)), none⟩,
    ⟨some 8, .mov (.t 25), none⟩])
  (.ret))
  (.skip)))
 (.seq (.reg [⟨some 26, .load true 4 (.t 9), none⟩,
   ⟨some 27, .mov (.t 10), none⟩,
   ⟨some 28, .bin .xor false (.t 27) (.c (.int .i64 1)), none⟩,
   ⟨none, .store 4 (.t 6) (.t 26), none⟩,
   ⟨some 7, .mov (.t 28), none⟩,
   ⟨some 8, .mov (.c (.int .i64 0)), none⟩])
 (.ret))))
def r57 : List ARV := [.cell 6 true 4, .tmp 7, .tmp 8]
theorem b57 : Try.f57.body.bind (tr Try.prog 29) = some c57.bare := by kernel_rfl
theorem q57 : trRes Try.prog Try.f57.results.toList = some r57 := by kernel_rfl
theorem n57 : (Try.f57.name == "runtime.NumGoroutine") = false := by kernel_rfl

/-- filigree/filigreeref18.pairs [g:0, a:1, b:2, c:3, d:4, g:5, a:6, b:7, c:8, d:9, h:13, x:14, e:15, k:16, y:17, f:18] -/
def c58 : ACode :=
 .seq (.reg [⟨some 5, .boxI (.t 0), none⟩,
   ⟨some 10, .alloc [(.int .i64 0), (.slice [] .nil), (.slice [] .nil), (.slice [] .nil)], none⟩,
   ⟨some 11, .mov (.c (.int .i64 0)), none⟩,
   ⟨some 12, .mov (.c (.int .i64 0)), none⟩])
 (.seq (.reg [⟨some 20, .load true 4 (.t 5), none⟩,
   ⟨some 21, .mov (.t 1), none⟩,
   ⟨some 22, .mov (.t 2), none⟩,
   ⟨some 23, .call (.c (.fn 56 [] [])) [(.t 20), (.t 21), (.t 22)], none⟩,
   ⟨some 19, .mov (.t 23), none⟩,
   ⟨some 24, .extract (.t 19) 0, none⟩,
   ⟨some 25, .extract (.t 19) 1, none⟩,
   ⟨some 26, .extract (.t 19) 2, none⟩,
   ⟨some 13, .alloc [(.int .i64 0), (.slice [] .nil), (.slice [] .nil), (.slice [] .nil)], none⟩,
   ⟨none, .store 4 (.t 13) (.t 24), none⟩,
   ⟨some 14, .mov (.t 25), none⟩,
   ⟨some 15, .mov (.t 26), none⟩])
 (.seq (.seq (.reg [⟨some 27, .mov (.t 15), none⟩,
   ⟨some 28, .bin .neq false (.t 27) (.c (.int .i64 0)), none⟩])
 (.cond (.t 28)
  (.seq (.reg [⟨some 29, .build [(.int .i64 0), (.slice [] .nil), (.slice [] .nil), (.slice [] .nil)] [], none⟩,
    ⟨some 30, .mov (.t 15), none⟩,
    ⟨none, .store 4 (.t 10) (.t 29), none⟩,
    ⟨some 11, .mov (.c (.int .i64 0)), none⟩,
    ⟨some 12, .mov (.t 30), none⟩])
  (.ret))
  (.skip)))
 (.seq (.reg [⟨some 32, .load true 4 (.t 13), none⟩,
   ⟨some 33, .mov (.t 3), none⟩,
   ⟨some 34, .mov (.t 4), none⟩,
   ⟨some 35, .call (.c (.fn 56 [] [])) [(.t 32), (.t 33), (.t 34)], none⟩,
   ⟨some 31, .mov (.t 35), none⟩,
   ⟨some 36, .extract (.t 31) 0, none⟩,
   ⟨some 37, .extract (.t 31) 1, none⟩,
   ⟨some 38, .extract (.t 31) 2, none⟩,
   ⟨some 16, .alloc [(.int .i64 0), (.slice [] .nil), (.slice [] .nil), (.slice [] .nil)], none⟩,
   ⟨none, .store 4 (.t 16) (.t 36), none⟩,
   ⟨some 17, .mov (.t 37), none⟩,
   ⟨some 18, .mov (.t 38), none⟩])
 (.seq (.seq (.reg [⟨some 39, .mov (.t 18), none⟩,
   ⟨some 40, .bin .neq false (.t 39) (.c (.int .i64 0)), none⟩])
 (.cond (.t 40)
  (.seq (.reg [⟨some 41, .build [(.int .i64 0), (.slice [] .nil), (.slice [] .nil), (.slice [] .nil)] [], none⟩,
    ⟨some 42, .mov (.t 18), none⟩,
    ⟨none, .store 4 (.t 10) (.t 41), none⟩,
    ⟨some 11, .mov (.c (.int .i64 0)), none⟩,
    ⟨some 12, .mov (.t 42), none⟩])
  (.ret))
  (.skip)))
 (.seq (.reg [⟨some 43, .load true 4 (.t 16), none⟩,
   ⟨some 44, .mov (.t 14), none⟩,
   ⟨some 45, .mov (.t 17), none⟩,
   ⟨some 46, .call (.c (.fn 57 [] [])) [(.t 43), (.t 44), (.t 45)], none⟩,
   ⟨some 47, .extract (.t 46) 0, none⟩,
   ⟨some 48, .extract (.t 46) 1, none⟩,
   ⟨some 49, .extract (.t 46) 2, none⟩,
   ⟨none, .store 4 (.t 10) (.t 47), none⟩,
   ⟨some 11, .mov (.t 48), none⟩,
   ⟨some 12, .mov (.t 49), none⟩])
 (.ret))))))
def r58 : List ARV := [.cell 10 true 4, .tmp 11, .tmp 12]
theorem b58 : Try.f58.body.bind (tr Try.prog 50) = some c58.bare := by kernel_rfl
theorem q58 : trRes Try.prog Try.f58.results.toList = some r58 := by kernel_rfl
theorem n58 : (Try.f58.name == "runtime.NumGoroutine") = false := by kernel_rfl


end Go.Proofs.Ytlgjokognnbhiaa
