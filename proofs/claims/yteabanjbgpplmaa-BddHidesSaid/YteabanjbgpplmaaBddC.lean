/- The bodies of the program's functions, as the abstraction layer has them. By program. -/
import Derived.Test.YteabanjbgpplmaaAbsT
import Derived.Test.YteabanjbgpplmaaAbsW
import Derived.Test.YteabanjbgpplmaaProg
import Derived.KernelRfl
namespace Go.Proofs.Yteabanjbgpplmaa
open Abs
theorem mixed : Try.prog.follows .mixedOrders = true := by kernel_rfl
/-- gosem.cut.init [] -/
def c2 : ACode :=
 .reg [⟨some 0, .call (.c (.fn 1 [] [])) [], none⟩]
def r2 : List ARV := []
theorem b2 : Try.f2.body.bind (tr Try.prog 1) = some c2.bare := by kernel_rfl
theorem q2 : trRes Try.prog Try.f2.results.toList = some r2 := by kernel_rfl
theorem n2 : (Try.f2.name == "runtime.NumGoroutine") = false := by kernel_rfl

/-- filigree/filigreelaw22.live [b:1, e:2, c:3, x:4, f:5, d:6, y:7, g:8, h:9, z:10, i:11, n:12, j:13, in:14, ok:15, k:16, is:17, l:18, m:19, w:20, o:21, p:22, u:23, q:24, want:25, same:26, errs:27] -/
def c14 : ACode :=
 .seq (.reg [⟨some 0, .mov (.c (.bool false)), none⟩])
 (.seq (.reg [⟨some 29, .call (.c (.fn 16 [] [])) [(.c (.int .i64 2))], none⟩,
   ⟨some 28, .mov (.t 29), none⟩,
   ⟨some 30, .extract (.t 28) 0, none⟩,
   ⟨some 31, .extract (.t 28) 1, none⟩,
   ⟨some 1, .alloc [(.int .i64 0), (.slice [] .nil)], none⟩,
   ⟨none, .store 2 (.t 1) (.t 30), none⟩,
   ⟨some 2, .mov (.t 31), none⟩])
 (.seq (.reg [⟨some 33, .load true 2 (.t 1), none⟩,
   ⟨some 34, .call (.c (.fn 28 [] [])) [(.t 33), (.c (.int .i64 0))], none⟩,
   ⟨some 32, .mov (.t 34), none⟩,
   ⟨some 35, .extract (.t 32) 0, none⟩,
   ⟨some 36, .extract (.t 32) 1, none⟩,
   ⟨some 37, .extract (.t 32) 2, none⟩,
   ⟨some 3, .alloc [(.int .i64 0), (.slice [] .nil)], none⟩,
   ⟨none, .store 2 (.t 3) (.t 35), none⟩,
   ⟨some 4, .mov (.t 36), none⟩,
   ⟨some 5, .mov (.t 37), none⟩])
 (.seq (.reg [⟨some 39, .load true 2 (.t 3), none⟩,
   ⟨some 40, .call (.c (.fn 28 [] [])) [(.t 39), (.c (.int .i64 1))], none⟩,
   ⟨some 38, .mov (.t 40), none⟩,
   ⟨some 41, .extract (.t 38) 0, none⟩,
   ⟨some 42, .extract (.t 38) 1, none⟩,
   ⟨some 43, .extract (.t 38) 2, none⟩,
   ⟨some 6, .alloc [(.int .i64 0), (.slice [] .nil)], none⟩,
   ⟨none, .store 2 (.t 6) (.t 41), none⟩,
   ⟨some 7, .mov (.t 42), none⟩,
   ⟨some 8, .mov (.t 43), none⟩])
 (.seq (.reg [⟨some 45, .load true 2 (.t 6), none⟩,
   ⟨some 46, .mov (.t 4), none⟩,
   ⟨some 47, .mov (.t 7), none⟩,
   ⟨some 48, .call (.c (.fn 22 [] [])) [(.t 45), (.t 46), (.t 47), (.c (.int .i64 0))], none⟩,
   ⟨some 44, .mov (.t 48), none⟩,
   ⟨some 49, .extract (.t 44) 0, none⟩,
   ⟨some 50, .extract (.t 44) 1, none⟩,
   ⟨some 51, .extract (.t 44) 2, none⟩,
   ⟨some 9, .alloc [(.int .i64 0), (.slice [] .nil)], none⟩,
   ⟨none, .store 2 (.t 9) (.t 49), none⟩,
   ⟨some 10, .mov (.t 50), none⟩,
   ⟨some 11, .mov (.t 51), none⟩])
 (.seq (.reg [⟨some 53, .load true 2 (.t 9), none⟩,
   ⟨some 54, .mov (.t 10), none⟩,
   ⟨some 55, .call (.c (.fn 32 [] [])) [(.t 53), (.t 54)], none⟩,
   ⟨some 52, .mov (.t 55), none⟩,
   ⟨some 56, .extract (.t 52) 0, none⟩,
   ⟨some 57, .extract (.t 52) 1, none⟩,
   ⟨some 12, .mov (.t 56), none⟩,
   ⟨some 13, .mov (.t 57), none⟩])
 (.seq (.reg [⟨some 59, .load true 2 (.t 9), none⟩,
   ⟨some 60, .mov (.t 10), none⟩,
   ⟨some 61, .call (.c (.fn 34 [] [])) [(.t 59), (.t 60)], none⟩,
   ⟨some 58, .mov (.t 61), none⟩,
   ⟨some 62, .extract (.t 58) 0, none⟩,
   ⟨some 63, .extract (.t 58) 1, none⟩,
   ⟨some 64, .extract (.t 58) 2, none⟩,
   ⟨some 14, .mov (.t 62), none⟩,
   ⟨some 15, .mov (.t 63), none⟩,
   ⟨some 16, .mov (.t 64), none⟩])
 (.seq (.reg [⟨some 66, .load true 2 (.t 9), none⟩,
   ⟨some 67, .mov (.t 10), none⟩,
   ⟨some 68, .bslice 1 [(.c (.bool true)), (.c (.bool true))], none⟩,
   ⟨some 69, .call (.c (.fn 30 [] [])) [(.t 66), (.t 67), (.t 68)], none⟩,
   ⟨some 65, .mov (.t 69), none⟩,
   ⟨some 70, .extract (.t 65) 0, none⟩,
   ⟨some 71, .extract (.t 65) 1, none⟩,
   ⟨some 17, .mov (.t 70), none⟩,
   ⟨some 18, .mov (.t 71), none⟩])
 (.seq (.reg [⟨some 73, .load true 2 (.t 9), none⟩,
   ⟨some 74, .mov (.t 10), none⟩,
   ⟨some 75, .call (.c (.fn 24 [] [])) [(.t 73), (.t 74)], none⟩,
   ⟨some 72, .mov (.t 75), none⟩,
   ⟨some 76, .extract (.t 72) 0, none⟩,
   ⟨some 77, .extract (.t 72) 1, none⟩,
   ⟨some 78, .extract (.t 72) 2, none⟩,
   ⟨some 19, .alloc [(.int .i64 0), (.slice [] .nil)], none⟩,
   ⟨none, .store 2 (.t 19) (.t 76), none⟩,
   ⟨some 20, .mov (.t 77), none⟩,
   ⟨some 21, .mov (.t 78), none⟩])
 (.seq (.reg [⟨some 80, .load true 2 (.t 19), none⟩,
   ⟨some 81, .mov (.t 10), none⟩,
   ⟨some 82, .call (.c (.fn 26 [] [])) [(.t 80), (.t 81), (.c (.int .i64 0))], none⟩,
   ⟨some 79, .mov (.t 82), none⟩,
   ⟨some 83, .extract (.t 79) 0, none⟩,
   ⟨some 84, .extract (.t 79) 1, none⟩,
   ⟨some 85, .extract (.t 79) 2, none⟩,
   ⟨some 22, .alloc [(.int .i64 0), (.slice [] .nil)], none⟩,
   ⟨none, .store 2 (.t 22) (.t 83), none⟩,
   ⟨some 23, .mov (.t 84), none⟩,
   ⟨some 24, .mov (.t 85), none⟩])
 (.seq (.reg [⟨some 86, .build [(.int .i64 0), (.int .i64 0), (.int .i64 0)] [(0, 1, (.c (.int .i64 (-1))))], none⟩,
   ⟨some 87, .build [(.int .i64 0), (.int .i64 0), (.int .i64 0)] [(0, 1, (.c (.int .i64 (-1))))], none⟩,
   ⟨some 88, .build [(.int .i64 0), (.int .i64 0), (.int .i64 0)] [(0, 1, (.c (.int .i64 0))), (2, 1, (.c (.int .i64 1)))], none⟩,
   ⟨some 89, .build [(.int .i64 0), (.int .i64 0), (.int .i64 0)] [(0, 1, (.c (.int .i64 1))), (2, 1, (.c (.int .i64 1)))], none⟩,
   ⟨some 90, .build [(.int .i64 0), (.int .i64 0), (.int .i64 0)] [(0, 1, (.c (.int .i64 0))), (2, 1, (.c (.int .i64 3)))], none⟩,
   ⟨some 91, .bslice 3 [(.t 86), (.t 87), (.t 88), (.t 89), (.t 90)], none⟩,
   ⟨some 92, .build [(.int .i64 0), (.slice [] .nil)] [(0, 1, (.c (.int .i64 2))), (1, 1, (.t 91))], none⟩,
   ⟨some 25, .alloc [(.int .i64 0), (.slice [] .nil)], none⟩,
   ⟨none, .store 2 (.t 25) (.t 92), none⟩])
 (.seq (.reg [⟨some 93, .load true 2 (.t 9), none⟩,
   ⟨some 94, .load true 2 (.t 25), none⟩,
   ⟨some 95, .call (.c (.fn 18 [] [])) [(.t 93), (.t 94)], none⟩,
   ⟨some 26, .mov (.t 95), none⟩])
 (.seq (.reg [⟨some 96, .mov (.t 2), none⟩,
   ⟨some 97, .bin .eql false (.t 96) (.c (.int .i64 0)), none⟩,
   ⟨some 98, .mov (.t 97), none⟩,
   ⟨some 99, .mov (.t 5), some (98, true)⟩,
   ⟨some 100, .bin .eql false (.t 99) (.c (.int .i64 0)), some (98, true)⟩,
   ⟨some 101, .pick (.t 98) (.t 100) (.c (.bool false)), none⟩,
   ⟨some 102, .mov (.t 101), none⟩,
   ⟨some 103, .mov (.t 8), some (102, true)⟩,
   ⟨some 104, .bin .eql false (.t 103) (.c (.int .i64 0)), some (102, true)⟩,
   ⟨some 105, .pick (.t 102) (.t 104) (.c (.bool false)), none⟩,
   ⟨some 106, .mov (.t 105), none⟩,
   ⟨some 107, .mov (.t 11), some (106, true)⟩,
   ⟨some 108, .bin .eql false (.t 107) (.c (.int .i64 0)), some (106, true)⟩,
   ⟨some 109, .pick (.t 106) (.t 108) (.c (.bool false)), none⟩,
   ⟨some 110, .mov (.t 109), none⟩,
   ⟨some 111, .mov (.t 13), some (110, true)⟩,
   ⟨some 112, .bin .eql false (.t 111) (.c (.int .i64 0)), some (110, true)⟩,
   ⟨some 113, .pick (.t 110) (.t 112) (.c (.bool false)), none⟩,
   ⟨some 114, .mov (.t 113), none⟩,
   ⟨some 115, .mov (.t 16), some (114, true)⟩,
   ⟨some 116, .bin .eql false (.t 115) (.c (.int .i64 0)), some (114, true)⟩,
   ⟨some 117, .pick (.t 114) (.t 116) (.c (.bool false)), none⟩,
   ⟨some 118, .mov (.t 117), none⟩,
   ⟨some 119, .mov (.t 18), some (118, true)⟩,
   ⟨some 120, .bin .eql false (.t 119) (.c (.int .i64 0)), some (118, true)⟩,
   ⟨some 121, .pick (.t 118) (.t 120) (.c (.bool false)), none⟩,
   ⟨some 122, .mov (.t 121), none⟩,
   ⟨some 123, .mov (.t 21), some (122, true)⟩,
   ⟨some 124, .bin .eql false (.t 123) (.c (.int .i64 0)), some (122, true)⟩,
   ⟨some 125, .pick (.t 122) (.t 124) (.c (.bool false)), none⟩,
   ⟨some 126, .mov (.t 125), none⟩,
   ⟨some 127, .mov (.t 24), some (126, true)⟩,
   ⟨some 128, .bin .eql false (.t 127) (.c (.int .i64 0)), some (126, true)⟩,
   ⟨some 129, .pick (.t 126) (.t 128) (.c (.bool false)), none⟩,
   ⟨some 27, .mov (.t 129), none⟩])
 (.seq (.reg [⟨some 130, .mov (.t 27), none⟩,
   ⟨some 131, .mov (.t 130), none⟩,
   ⟨some 132, .mov (.t 26), some (131, true)⟩,
   ⟨some 133, .pick (.t 131) (.t 132) (.c (.bool false)), none⟩,
   ⟨some 134, .mov (.t 133), none⟩,
   ⟨some 135, .mov (.t 4), some (134, true)⟩,
   ⟨some 136, .bin .eql false (.t 135) (.c (.int .i64 2)), some (134, true)⟩,
   ⟨some 137, .pick (.t 134) (.t 136) (.c (.bool false)), none⟩,
   ⟨some 138, .mov (.t 137), none⟩,
   ⟨some 139, .mov (.t 7), some (138, true)⟩,
   ⟨some 140, .bin .eql false (.t 139) (.c (.int .i64 3)), some (138, true)⟩,
   ⟨some 141, .pick (.t 138) (.t 140) (.c (.bool false)), none⟩,
   ⟨some 142, .mov (.t 141), none⟩,
   ⟨some 143, .mov (.t 10), some (142, true)⟩,
   ⟨some 144, .bin .eql false (.t 143) (.c (.int .i64 4)), some (142, true)⟩,
   ⟨some 145, .pick (.t 142) (.t 144) (.c (.bool false)), none⟩,
   ⟨some 146, .mov (.t 145), none⟩,
   ⟨some 147, .mov (.t 12), some (146, true)⟩,
   ⟨some 148, .bin .eql false (.t 147) (.c (.int .i64 1)), some (146, true)⟩,
   ⟨some 149, .pick (.t 146) (.t 148) (.c (.bool false)), none⟩,
   ⟨some 150, .mov (.t 149), none⟩,
   ⟨some 151, .mov (.t 14), some (150, true)⟩,
   ⟨some 152, .len (.t 151), some (150, true)⟩,
   ⟨some 153, .bin .eql false (.t 152) (.c (.int .i64 2)), some (150, true)⟩,
   ⟨some 154, .pick (.t 150) (.t 153) (.c (.bool false)), none⟩,
   ⟨some 155, .mov (.t 154), none⟩,
   ⟨some 156, .mov (.t 14), some (155, true)⟩,
   ⟨some 157, .idxS 1 (.t 156) (.c (.int .i64 0)), some (155, true)⟩,
   ⟨some 158, .load false 1 (.t 157), some (155, true)⟩,
   ⟨some 159, .pick (.t 155) (.t 158) (.c (.bool false)), none⟩,
   ⟨some 160, .mov (.t 159), none⟩,
   ⟨some 161, .mov (.t 14), some (160, true)⟩,
   ⟨some 162, .idxS 1 (.t 161) (.c (.int .i64 1)), some (160, true)⟩,
   ⟨some 163, .load false 1 (.t 162), some (160, true)⟩,
   ⟨some 164, .pick (.t 160) (.t 163) (.c (.bool false)), none⟩,
   ⟨some 165, .mov (.t 164), none⟩,
   ⟨some 166, .mov (.t 15), some (165, true)⟩,
   ⟨some 167, .pick (.t 165) (.t 166) (.c (.bool false)), none⟩,
   ⟨some 168, .mov (.t 167), none⟩,
   ⟨some 169, .mov (.t 17), some (168, true)⟩,
   ⟨some 170, .pick (.t 168) (.t 169) (.c (.bool false)), none⟩,
   ⟨some 171, .mov (.t 170), none⟩,
   ⟨some 172, .mov (.t 20), some (171, true)⟩,
   ⟨some 173, .bin .eql false (.t 172) (.c (.int .i64 6)), some (171, true)⟩,
   ⟨some 174, .pick (.t 171) (.t 173) (.c (.bool false)), none⟩,
   ⟨some 175, .mov (.t 174), none⟩,
   ⟨some 176, .mov (.t 23), some (175, true)⟩,
   ⟨some 177, .bin .eql false (.t 176) (.c (.int .i64 3)), some (175, true)⟩,
   ⟨some 178, .pick (.t 175) (.t 177) (.c (.bool false)), none⟩,
   ⟨some 179, .mov (.t 178), none⟩,
   ⟨some 180, .fldA 1 (.t 22), some (179, true)⟩,
   ⟨some 181, .load false 1 (.t 180), some (179, true)⟩,
   ⟨some 182, .len (.t 181), some (179, true)⟩,
   ⟨some 183, .bin .eql false (.t 182) (.c (.int .i64 7)), some (179, true)⟩,
   ⟨some 184, .pick (.t 179) (.t 183) (.c (.bool false)), none⟩,
   ⟨some 185, .mov (.t 184), none⟩,
   ⟨some 186, .load true 2 (.t 9), some (185, true)⟩,
   ⟨some 187, .call (.c (.fn 19 [] [])) [(.t 186)], some (185, true)⟩,
   ⟨some 188, .bin .eql false (.t 187) (.c (.int .i64 0)), some (185, true)⟩,
   ⟨some 189, .pick (.t 185) (.t 188) (.c (.bool false)), none⟩,
   ⟨some 190, .mov (.t 189), none⟩,
   ⟨some 191, .build [(.int .i64 0), (.slice [] .nil)] [], some (190, true)⟩,
   ⟨some 192, .call (.c (.fn 19 [] [])) [(.t 191)], some (190, true)⟩,
   ⟨some 193, .bin .eql false (.t 192) (.c (.int .i64 1)), some (190, true)⟩,
   ⟨some 194, .pick (.t 190) (.t 193) (.c (.bool false)), none⟩,
   ⟨some 0, .mov (.t 194), none⟩])
 (.ret))))))))))))))
def r14 : List ARV := [.tmp 0]
theorem b14 : Try.f14.body.bind (tr Try.prog 195) = some c14.bare := by kernel_rfl
theorem q14 : trRes Try.prog Try.f14.results.toList = some r14 := by kernel_rfl
theorem n14 : (Try.f14.name == "runtime.NumGoroutine") = false := by kernel_rfl

/-- filigree/filigreelaw22.some [b:0, b:1] -/
def c15 : ACode :=
 .seq (.reg [⟨some 1, .boxI (.t 0), none⟩,
   ⟨some 2, .mov (.c (.bool false)), none⟩])
 (.seq (.reg [⟨some 3, .load true 2 (.t 1), none⟩,
   ⟨some 4, .call (.c (.fn 36 [] [])) [(.t 3), (.c (.int .i64 12))], none⟩,
   ⟨some 2, .mov (.t 4), none⟩])
 (.ret))
def r15 : List ARV := [.tmp 2]
theorem b15 : Try.f15.body.bind (tr Try.prog 5) = some c15.bare := by kernel_rfl
theorem q15 : trRes Try.prog Try.f15.results.toList = some r15 := by kernel_rfl
theorem n15 : (Try.f15.name == "runtime.NumGoroutine") = false := by kernel_rfl

/-- filigree/bdd.New [vars:0, vars:1] -/
def c16 : ACode :=
 .seq (.reg [⟨some 2, .alloc [(.int .i64 0), (.slice [] .nil)], none⟩,
   ⟨some 3, .mov (.c (.int .i64 0)), none⟩])
 (.seq (.block 0 (.seq (.reg [⟨some 5, .mov (.t 0), none⟩,
   ⟨some 6, .bin .lss false (.t 5) (.c (.int .i64 0)), none⟩,
   ⟨some 4, .mov (.t 6), none⟩])
 (.cond (.t 4)
  (.seq (.reg [⟨some 7, .build [(.int .i64 0), (.slice [] .nil)] [], none⟩,
    ⟨none, .store 2 (.t 2) (.t 7), none⟩,
    ⟨some 3, .mov (.c (.int .i64 1)), none⟩])
  (.ret))
  (.seq (.reg [⟨some 9, .mov (.t 0), none⟩,
    ⟨some 10, .bin .gtr false (.t 9) (.c (.int .i64 32)), none⟩,
    ⟨some 8, .mov (.t 10), none⟩])
  (.cond (.t 8)
   (.seq (.reg [⟨some 11, .build [(.int .i64 0), (.slice [] .nil)] [], none⟩,
     ⟨none, .store 2 (.t 2) (.t 11), none⟩,
     ⟨some 3, .mov (.c (.int .i64 2)), none⟩])
   (.ret))
   (.skip))))))
 (.seq (.reg [⟨some 12, .mov (.t 0), none⟩,
   ⟨some 13, .build [(.int .i64 0), (.int .i64 0), (.int .i64 0)] [(0, 1, (.c (.int .i64 (-1))))], none⟩,
   ⟨some 14, .build [(.int .i64 0), (.int .i64 0), (.int .i64 0)] [(0, 1, (.c (.int .i64 (-1))))], none⟩,
   ⟨some 15, .bslice 3 [(.t 13), (.t 14)], none⟩,
   ⟨some 16, .build [(.int .i64 0), (.slice [] .nil)] [(0, 1, (.t 12)), (1, 1, (.t 15))], none⟩,
   ⟨none, .store 2 (.t 2) (.t 16), none⟩,
   ⟨some 3, .mov (.c (.int .i64 0)), none⟩])
 (.ret)))
def r16 : List ARV := [.cell 2 true 2, .tmp 3]
theorem b16 : Try.f16.body.bind (tr Try.prog 17) = some c16.bare := by kernel_rfl
theorem q16 : trRes Try.prog Try.f16.results.toList = some r16 := by kernel_rfl
theorem n16 : (Try.f16.name == "runtime.NumGoroutine") = false := by kernel_rfl

/-- filigree/filigreeref22.New [vars:0, vars:1] -/
def c17 : ACode :=
 .seq (.reg [⟨some 2, .alloc [(.int .i64 0), (.slice [] .nil)], none⟩,
   ⟨some 3, .mov (.c (.int .i64 0)), none⟩])
 (.seq (.seq (.reg [⟨some 4, .mov (.t 0), none⟩,
   ⟨some 5, .bin .lss false (.t 4) (.c (.int .i64 0)), none⟩])
 (.cond (.t 5)
  (.seq (.reg [⟨some 6, .build [(.int .i64 0), (.slice [] .nil)] [], none⟩,
    ⟨none, .store 2 (.t 2) (.t 6), none⟩,
    ⟨some 3, .mov (.c (.int .i64 1)), none⟩])
  (.ret))
  (.skip)))
 (.seq (.seq (.reg [⟨some 7, .mov (.t 0), none⟩,
   ⟨some 8, .bin .gtr false (.t 7) (.c (.int .i64 32)), none⟩])
 (.cond (.t 8)
  (.seq (.reg [⟨some 9, .build [(.int .i64 0), (.slice [] .nil)] [], none⟩,
    ⟨none, .store 2 (.t 2) (.t 9), none⟩,
    ⟨some 3, .mov (.c (.int .i64 2)), none⟩])
  (.ret))
  (.skip)))
 (.seq (.reg [⟨some 10, .mov (.t 0), none⟩,
   ⟨some 11, .build [(.int .i64 0), (.int .i64 0), (.int .i64 0)] [(0, 1, (.c (.int .i64 (-1))))], none⟩,
   ⟨some 12, .build [(.int .i64 0), (.int .i64 0), (.int .i64 0)] [(0, 1, (.c (.int .i64 (-1))))], none⟩,
   ⟨some 13, .bslice 3 [(.t 11), (.t 12)], none⟩,
   ⟨some 14, .build [(.int .i64 0), (.slice [] .nil)] [(0, 1, (.t 10)), (1, 1, (.t 13))], none⟩,
   ⟨none, .store 2 (.t 2) (.t 14), none⟩,
   ⟨some 3, .mov (.c (.int .i64 0)), none⟩])
 (.ret))))
def r17 : List ARV := [.cell 2 true 2, .tmp 3]
theorem b17 : Try.f17.body.bind (tr Try.prog 15) = some c17.bare := by kernel_rfl
theorem q17 : trRes Try.prog Try.f17.results.toList = some r17 := by kernel_rfl
theorem n17 : (Try.f17.name == "runtime.NumGoroutine") = false := by kernel_rfl

/-- filigree/filigreeref22.Same [a:0, b:1, a:2, b:3, i:5] -/
def c18 : ACode :=
 .seq (.reg [⟨some 2, .boxI (.t 0), none⟩,
   ⟨some 3, .boxI (.t 1), none⟩,
   ⟨some 4, .mov (.c (.bool false)), none⟩])
 (.seq (.seq (.reg [⟨some 6, .fldA 0 (.t 2), none⟩,
   ⟨some 7, .load false 1 (.t 6), none⟩,
   ⟨some 8, .fldA 0 (.t 3), none⟩,
   ⟨some 9, .load false 1 (.t 8), none⟩,
   ⟨some 10, .bin .neq false (.t 7) (.t 9), none⟩,
   ⟨some 11, .mov (.t 10), none⟩,
   ⟨some 12, .fldA 1 (.t 2), some (11, false)⟩,
   ⟨some 13, .load false 1 (.t 12), some (11, false)⟩,
   ⟨some 14, .len (.t 13), some (11, false)⟩,
   ⟨some 15, .fldA 1 (.t 3), some (11, false)⟩,
   ⟨some 16, .load false 1 (.t 15), some (11, false)⟩,
   ⟨some 17, .len (.t 16), some (11, false)⟩,
   ⟨some 18, .bin .neq false (.t 14) (.t 17), some (11, false)⟩,
   ⟨some 19, .pick (.t 11) (.c (.bool true)) (.t 18), none⟩])
 (.cond (.t 19)
  (.seq (.reg [⟨some 4, .mov (.c (.bool false)), none⟩])
  (.ret))
  (.skip)))
 (.seq (.seq (.reg [⟨some 5, .mov (.c (.int .i64 0)), none⟩])
 (.block 0 (.loop (.seq (.seq (.reg [⟨some 20, .mov (.t 5), none⟩,
    ⟨some 21, .fldA 1 (.t 2), none⟩,
    ⟨some 22, .load false 1 (.t 21), none⟩,
    ⟨some 23, .len (.t 22), none⟩,
    ⟨some 24, .bin .lss false (.t 20) (.t 23), none⟩])
  (.cond (.t 24)
   (.skip)
   (.exit 0)))
  (.seq (.block 1 (.seq (.drw [⟨some 27, .fldA 1 (.t 2), none⟩,
    ⟨some 28, .load false 1 (.t 27), none⟩,
    ⟨some 29, .mov (.t 5), none⟩,
    ⟨some 30, .idxS 3 (.t 28) (.t 29), none⟩,
    ⟨some 31, .load true 3 (.t 30), none⟩,
    ⟨some 32, .fldA 1 (.t 3), none⟩,
    ⟨some 33, .load false 1 (.t 32), none⟩,
    ⟨some 34, .mov (.t 5), none⟩,
    ⟨some 35, .idxS 3 (.t 33) (.t 34), none⟩,
    ⟨some 36, .load true 3 (.t 35), none⟩,
    ⟨some 37, .eqs true [0, 0, 0] (.t 31) (.t 36), none⟩] [])
  (.cond (.t 37)
   (.seq (.reg [⟨some 4, .mov (.c (.bool false)), none⟩])
   (.ret))
   (.skip))))
  (.reg [⟨some 25, .mov (.t 5), none⟩,
    ⟨some 26, .bin .add false (.t 25) (.c (.int .i64 1)), none⟩,
    ⟨some 5, .mov (.t 26), none⟩]))))))
 (.seq (.reg [⟨some 4, .mov (.c (.bool true)), none⟩])
 (.ret))))
def r18 : List ARV := [.tmp 4]
theorem b18 : Try.f18.body.bind (tr Try.prog 38) = some c18.bare := by kernel_rfl
theorem q18 : trRes Try.prog Try.f18.results.toList = some r18 := by kernel_rfl
theorem n18 : (Try.f18.name == "runtime.NumGoroutine") = false := by kernel_rfl

/-- filigree/bdd.Check [b:0, b:1, _:3, e:4] -/
def c19 : ACode :=
 .seq (.reg [⟨some 1, .boxI (.t 0), none⟩,
   ⟨some 2, .mov (.c (.int .i64 0)), none⟩])
 (.seq (.reg [⟨some 6, .load true 2 (.t 1), none⟩,
   ⟨some 7, .call (.c (.fn 37 [] [])) [(.t 6)], none⟩,
   ⟨some 5, .mov (.t 7), none⟩,
   ⟨some 8, .extract (.t 5) 0, none⟩,
   ⟨some 9, .extract (.t 5) 1, none⟩,
   ⟨some 3, .mov (.t 8), none⟩,
   ⟨some 4, .mov (.t 9), none⟩])
 (.seq (.reg [⟨some 10, .mov (.t 4), none⟩,
   ⟨some 2, .mov (.t 10), none⟩])
 (.ret)))
def r19 : List ARV := [.tmp 2]
theorem b19 : Try.f19.body.bind (tr Try.prog 11) = some c19.bare := by kernel_rfl
theorem q19 : trRes Try.prog Try.f19.results.toList = some r19 := by kernel_rfl
theorem n19 : (Try.f19.name == "runtime.NumGoroutine") = false := by kernel_rfl

/-- filigree/filigreeref22.Check [b:0, b:1, end:3, i:4] -/
def c20 : ACode :=
 .seq (.reg [⟨some 1, .boxI (.t 0), none⟩,
   ⟨some 2, .mov (.c (.int .i64 0)), none⟩])
 (.seq (.seq (.reg [⟨some 5, .fldA 1 (.t 1), none⟩,
   ⟨some 6, .load false 1 (.t 5), none⟩,
   ⟨some 7, .len (.t 6), none⟩,
   ⟨some 8, .bin .gtr false (.t 7) (.c (.int .i64 65536)), none⟩])
 (.cond (.t 8)
  (.seq (.reg [⟨some 2, .mov (.c (.int .i64 220)), none⟩])
  (.ret))
  (.skip)))
 (.seq (.reg [⟨some 9, .build [(.int .i64 0), (.int .i64 0), (.int .i64 0)] [(0, 1, (.c (.int .i64 (-1))))], none⟩,
   ⟨some 3, .alloc [(.int .i64 0), (.int .i64 0), (.int .i64 0)], none⟩,
   ⟨none, .store 3 (.t 3) (.t 9), none⟩])
 (.seq (.seq (.drw [⟨some 10, .fldA 0 (.t 1), none⟩,
   ⟨some 11, .load false 1 (.t 10), none⟩,
   ⟨some 12, .bin .lss false (.t 11) (.c (.int .i64 0)), none⟩,
   ⟨some 13, .mov (.t 12), none⟩,
   ⟨some 14, .fldA 0 (.t 1), some (13, false)⟩,
   ⟨some 15, .load false 1 (.t 14), some (13, false)⟩,
   ⟨some 16, .bin .gtr false (.t 15) (.c (.int .i64 32)), some (13, false)⟩,
   ⟨some 17, .pick (.t 13) (.c (.bool true)) (.t 16), none⟩,
   ⟨some 18, .mov (.t 17), none⟩,
   ⟨some 19, .fldA 1 (.t 1), some (18, false)⟩,
   ⟨some 20, .load false 1 (.t 19), some (18, false)⟩,
   ⟨some 21, .len (.t 20), some (18, false)⟩,
   ⟨some 22, .bin .lss false (.t 21) (.c (.int .i64 2)), some (18, false)⟩,
   ⟨some 23, .pick (.t 18) (.c (.bool true)) (.t 22), none⟩,
   ⟨some 24, .mov (.t 23), none⟩,
   ⟨some 25, .fldA 1 (.t 1), some (24, false)⟩,
   ⟨some 26, .load false 1 (.t 25), some (24, false)⟩,
   ⟨some 27, .idxS 3 (.t 26) (.c (.int .i64 0)), some (24, false)⟩,
   ⟨some 28, .load true 3 (.t 27), some (24, false)⟩,
   ⟨some 29, .load true 3 (.t 3), some (24, false)⟩,
   ⟨some 30, .eqs true [0, 0, 0] (.t 28) (.t 29), some (24, false)⟩,
   ⟨some 31, .pick (.t 24) (.c (.bool true)) (.t 30), none⟩,
   ⟨some 32, .mov (.t 31), none⟩,
   ⟨some 33, .fldA 1 (.t 1), some (32, false)⟩,
   ⟨some 34, .load false 1 (.t 33), some (32, false)⟩,
   ⟨some 35, .idxS 3 (.t 34) (.c (.int .i64 1)), some (32, false)⟩,
   ⟨some 36, .load true 3 (.t 35), some (32, false)⟩,
   ⟨some 37, .load true 3 (.t 3), some (32, false)⟩,
   ⟨some 38, .eqs true [0, 0, 0] (.t 36) (.t 37), some (32, false)⟩,
   ⟨some 39, .pick (.t 32) (.c (.bool true)) (.t 38), none⟩] [])
 (.cond (.t 39)
  (.seq (.reg [⟨some 2, .mov (.c (.int .i64 1)), none⟩])
  (.ret))
  (.skip)))
 (.seq (.seq (.reg [⟨some 4, .mov (.c (.int .i64 2)), none⟩])
 (.block 0 (.loop (.seq (.seq (.reg [⟨some 40, .mov (.t 4), none⟩,
    ⟨some 41, .fldA 1 (.t 1), none⟩,
    ⟨some 42, .load false 1 (.t 41), none⟩,
    ⟨some 43, .len (.t 42), none⟩,
    ⟨some 44, .bin .lss false (.t 40) (.t 43), none⟩])
  (.cond (.t 44)
   (.skip)
   (.exit 0)))
  (.seq (.block 1 (.seq (.reg [⟨some 47, .load true 2 (.t 1), none⟩,
    ⟨some 48, .mov (.t 4), none⟩,
    ⟨some 49, .call (.c (.fn 38 [] [])) [(.t 47), (.t 48)], none⟩,
    ⟨some 50, .un .not (.t 49), none⟩])
  (.cond (.t 50)
   (.seq (.reg [⟨some 2, .mov (.c (.int .i64 1)), none⟩])
   (.ret))
   (.skip))))
  (.reg [⟨some 45, .mov (.t 4), none⟩,
    ⟨some 46, .bin .add false (.t 45) (.c (.int .i64 1)), none⟩,
    ⟨some 4, .mov (.t 46), none⟩]))))))
 (.seq (.reg [⟨some 2, .mov (.c (.int .i64 0)), none⟩])
 (.ret))))))
def r20 : List ARV := [.tmp 2]
theorem b20 : Try.f20.body.bind (tr Try.prog 51) = some c20.bare := by kernel_rfl
theorem q20 : trRes Try.prog Try.f20.results.toList = some r20 := by kernel_rfl
theorem n20 : (Try.f20.name == "runtime.NumGoroutine") = false := by kernel_rfl

/-- filigree/filigreelaw22.few [b:0, b:1] -/
def c21 : ACode :=
 .seq (.reg [⟨some 1, .boxI (.t 0), none⟩,
   ⟨some 2, .mov (.c (.bool false)), none⟩])
 (.seq (.reg [⟨some 3, .load true 2 (.t 1), none⟩,
   ⟨some 4, .call (.c (.fn 36 [] [])) [(.t 3), (.c (.int .i64 7))], none⟩,
   ⟨some 2, .mov (.t 4), none⟩])
 (.ret))
def r21 : List ARV := [.tmp 2]
theorem b21 : Try.f21.body.bind (tr Try.prog 5) = some c21.bare := by kernel_rfl
theorem q21 : trRes Try.prog Try.f21.results.toList = some r21 := by kernel_rfl
theorem n21 : (Try.f21.name == "runtime.NumGoroutine") = false := by kernel_rfl

/-- filigree/bdd.Ite [b:0, f:1, g:2, h:3, b:4, f:5, g:6, h:7, m:11, e:12] -/
def c22 : ACode :=
 .seq (.reg [⟨some 4, .boxI (.t 0), none⟩,
   ⟨some 5, .box (.t 1), none⟩,
   ⟨some 6, .box (.t 2), none⟩,
   ⟨some 7, .box (.t 3), none⟩,
   ⟨some 8, .alloc [(.int .i64 0), (.slice [] .nil)], none⟩,
   ⟨some 9, .mov (.c (.int .i64 0)), none⟩,
   ⟨some 10, .mov (.c (.int .i64 0)), none⟩])
 (.seq (.reg [⟨some 14, .load true 2 (.t 4), none⟩,
   ⟨some 15, .load false 1 (.t 5), none⟩,
   ⟨some 16, .load false 1 (.t 6), none⟩,
   ⟨some 17, .load false 1 (.t 7), none⟩,
   ⟨some 18, .bslice 1 [(.t 15), (.t 16), (.t 17)], none⟩,
   ⟨some 19, .call (.c (.fn 39 [] [])) [(.t 14), (.t 18)], none⟩,
   ⟨some 13, .mov (.t 19), none⟩,
   ⟨some 20, .extract (.t 13) 0, none⟩,
   ⟨some 21, .extract (.t 13) 1, none⟩,
   ⟨some 11, .alloc [.nilp], none⟩,
   ⟨none, .store 1 (.t 11) (.t 20), none⟩,
   ⟨some 12, .mov (.t 21), none⟩])
 (.seq (.reg [⟨some 22, .load false 1 (.t 11), none⟩,
   ⟨some 23, .mov (.t 12), none⟩,
   ⟨some 24, .mkfn 41 [] [(.t 11), (.t 5), (.t 6), (.t 7)], none⟩,
   ⟨some 25, .call (.c (.fn 40 [] [])) [(.t 22), (.t 23), (.t 24)], none⟩,
   ⟨some 26, .extract (.t 25) 0, none⟩,
   ⟨some 27, .extract (.t 25) 1, none⟩,
   ⟨some 28, .extract (.t 25) 2, none⟩,
   ⟨none, .store 2 (.t 8) (.t 26), none⟩,
   ⟨some 9, .mov (.t 27), none⟩,
   ⟨some 10, .mov (.t 28), none⟩])
 (.ret)))
def r22 : List ARV := [.cell 8 true 2, .tmp 9, .tmp 10]
theorem b22 : Try.f22.body.bind (tr Try.prog 29) = some c22.bare := by kernel_rfl
theorem q22 : trRes Try.prog Try.f22.results.toList = some r22 := by kernel_rfl
theorem n22 : (Try.f22.name == "runtime.NumGoroutine") = false := by kernel_rfl

/-- filigree/filigreeref22.Ite [b:0, f:1, g:2, h:3, b:4, f:5, g:6, h:7, e:11, x:12, y:13, z:14, t:15, i:16] -/
def c23 : ACode :=
 .seq (.reg [⟨some 4, .boxI (.t 0), none⟩,
   ⟨some 8, .alloc [(.int .i64 0), (.slice [] .nil)], none⟩,
   ⟨some 9, .mov (.c (.int .i64 0)), none⟩,
   ⟨some 10, .mov (.c (.int .i64 0)), none⟩])
 (.seq (.reg [⟨some 17, .load true 2 (.t 4), none⟩,
   ⟨some 18, .call (.c (.fn 20 [] [])) [(.t 17)], none⟩,
   ⟨some 11, .mov (.t 18), none⟩])
 (.seq (.seq (.reg [⟨some 19, .mov (.t 11), none⟩,
   ⟨some 20, .bin .neq false (.t 19) (.c (.int .i64 0)), none⟩])
 (.cond (.t 20)
  (.seq (.reg [⟨some 21, .build [(.int .i64 0), (.slice [] .nil)] [], none⟩,
    ⟨some 22, .mov (.t 11), none⟩,
    ⟨none, .store 2 (.t 8) (.t 21), none⟩,
    ⟨some 9, .mov (.c (.int .i64 0)), none⟩,
    ⟨some 10, .mov (.t 22), none⟩])
  (.ret))
  (.skip)))
 (.seq (.seq (.reg [⟨some 23, .load true 2 (.t 4), none⟩,
   ⟨some 24, .mov (.t 1), none⟩,
   ⟨some 25, .call (.c (.fn 43 [] [])) [(.t 23), (.t 24)], none⟩,
   ⟨some 26, .un .not (.t 25), none⟩,
   ⟨some 27, .mov (.t 26), none⟩,
   ⟨some 28, .load true 2 (.t 4), some (27, false)⟩,
   ⟨some 29, .mov (.t 2), some (27, false)⟩,
   ⟨some 30, .call (.c (.fn 43 [] [])) [(.t 28), (.t 29)], some (27, false)⟩,
   ⟨some 31, .un .not (.t 30), some (27, false)⟩,
   ⟨some 32, .pick (.t 27) (.c (.bool true)) (.t 31), none⟩,
   ⟨some 33, .mov (.t 32), none⟩,
   ⟨some 34, .load true 2 (.t 4), some (33, false)⟩,
   ⟨some 35, .mov (.t 3), some (33, false)⟩,
   ⟨some 36, .call (.c (.fn 43 [] [])) [(.t 34), (.t 35)], some (33, false)⟩,
   ⟨some 37, .un .not (.t 36), some (33, false)⟩,
   ⟨some 38, .pick (.t 33) (.c (.bool true)) (.t 37), none⟩])
 (.cond (.t 38)
  (.seq (.reg [⟨some 39, .build [(.int .i64 0), (.slice [] .nil)] [], none⟩,
    ⟨none, .store 2 (.t 8) (.t 39), none⟩,
    ⟨some 9, .mov (.c (.int .i64 0)), none⟩,
    ⟨some 10, .mov (.c (.int .i64 1)), none⟩])
  (.ret))
  (.skip)))
 (.seq (.drw [⟨some 40, .load true 2 (.t 4), none⟩,
   ⟨some 41, .mov (.t 1), none⟩,
   ⟨some 42, .call (.c (.fn 44 [] [])) [(.t 40), (.t 41)], none⟩,
   ⟨some 43, .load true 2 (.t 4), none⟩,
   ⟨some 44, .mov (.t 2), none⟩,
   ⟨some 45, .call (.c (.fn 44 [] [])) [(.t 43), (.t 44)], none⟩,
   ⟨some 46, .load true 2 (.t 4), none⟩,
   ⟨some 47, .mov (.t 3), none⟩,
   ⟨some 48, .call (.c (.fn 44 [] [])) [(.t 46), (.t 47)], none⟩,
   ⟨some 12, .mov (.t 42), none⟩,
   ⟨some 13, .mov (.t 45), none⟩,
   ⟨some 14, .mov (.t 48), none⟩] [(2, 3), (2, 6), (5, 6)])
 (.seq (.reg [⟨some 15, .mov (.c (.slice [] .nil)), none⟩])
 (.seq (.seq (.reg [⟨some 16, .mov (.c (.int .i64 0)), none⟩])
 (.block 0 (.loop (.seq (.seq (.reg [⟨some 49, .mov (.t 16), none⟩,
    ⟨some 50, .mov (.t 12), none⟩,
    ⟨some 51, .len (.t 50), none⟩,
    ⟨some 52, .bin .lss false (.t 49) (.t 51), none⟩])
  (.cond (.t 52)
   (.skip)
   (.exit 0)))
  (.seq (.block 1 (.reg [⟨some 55, .mov (.t 15), none⟩,
    ⟨some 56, .mov (.t 12), none⟩,
    ⟨some 57, .mov (.t 16), none⟩,
    ⟨some 58, .idxS 1 (.t 56) (.t 57), none⟩,
    ⟨some 59, .load false 1 (.t 58), none⟩,
    ⟨some 60, .mov (.t 59), none⟩,
    ⟨some 61, .mov (.t 13), some (60, true)⟩,
    ⟨some 62, .mov (.t 16), some (60, true)⟩,
    ⟨some 63, .idxS 1 (.t 61) (.t 62), some (60, true)⟩,
    ⟨some 64, .load false 1 (.t 63), some (60, true)⟩,
    ⟨some 65, .pick (.t 60) (.t 64) (.c (.bool false)), none⟩,
    ⟨some 66, .mov (.t 65), none⟩,
    ⟨some 67, .mov (.t 12), some (66, false)⟩,
    ⟨some 68, .mov (.t 16), some (66, false)⟩,
    ⟨some 69, .idxS 1 (.t 67) (.t 68), some (66, false)⟩,
    ⟨some 70, .load false 1 (.t 69), some (66, false)⟩,
    ⟨some 71, .un .not (.t 70), some (66, false)⟩,
    ⟨some 72, .mov (.t 71), some (66, false)⟩,
    ⟨some 73, .mov (.t 14), some (72, true)⟩,
    ⟨some 74, .mov (.t 16), some (72, true)⟩,
    ⟨some 75, .idxS 1 (.t 73) (.t 74), some (72, true)⟩,
    ⟨some 76, .load false 1 (.t 75), some (72, true)⟩,
    ⟨some 77, .pick (.t 72) (.t 76) (.c (.bool false)), some (66, false)⟩,
    ⟨some 78, .pick (.t 66) (.c (.bool true)) (.t 77), none⟩,
    ⟨some 79, .bslice 1 [(.t 78)], none⟩,
    ⟨some 80, .append 1 1 (.t 55) (.t 79), none⟩,
    ⟨some 15, .mov (.t 80), none⟩]))
  (.reg [⟨some 53, .mov (.t 16), none⟩,
    ⟨some 54, .bin .add false (.t 53) (.c (.int .i64 1)), none⟩,
    ⟨some 16, .mov (.t 54), none⟩]))))))
 (.seq (.reg [⟨some 81, .load true 2 (.t 4), none⟩,
   ⟨some 82, .mov (.t 15), none⟩,
   ⟨some 83, .call (.c (.fn 45 [] [])) [(.t 81), (.t 82)], none⟩,
   ⟨some 84, .extract (.t 83) 0, none⟩,
   ⟨some 85, .extract (.t 83) 1, none⟩,
   ⟨some 86, .extract (.t 83) 2, none⟩,
   ⟨none, .store 2 (.t 8) (.t 84), none⟩,
   ⟨some 9, .mov (.t 85), none⟩,
   ⟨some 10, .mov (.t 86), none⟩])
 (.ret))))))))
def r23 : List ARV := [.cell 8 true 2, .tmp 9, .tmp 10]
theorem b23 : Try.f23.body.bind (tr Try.prog 87) = some c23.bare := by kernel_rfl
theorem q23 : trRes Try.prog Try.f23.results.toList = some r23 := by kernel_rfl
theorem n23 : (Try.f23.name == "runtime.NumGoroutine") = false := by kernel_rfl

/-- filigree/bdd.Not [b:0, f:1, b:2, f:3] -/
def c24 : ACode :=
 .seq (.reg [⟨some 2, .boxI (.t 0), none⟩,
   ⟨some 4, .alloc [(.int .i64 0), (.slice [] .nil)], none⟩,
   ⟨some 5, .mov (.c (.int .i64 0)), none⟩,
   ⟨some 6, .mov (.c (.int .i64 0)), none⟩])
 (.seq (.reg [⟨some 7, .load true 2 (.t 2), none⟩,
   ⟨some 8, .mov (.t 1), none⟩,
   ⟨some 9, .call (.c (.fn 22 [] [])) [(.t 7), (.t 8), (.c (.int .i64 0)), (.c (.int .i64 1))], none⟩,
   ⟨some 10, .extract (.t 9) 0, none⟩,
   ⟨some 11, .extract (.t 9) 1, none⟩,
   ⟨some 12, .extract (.t 9) 2, none⟩,
   ⟨none, .store 2 (.t 4) (.t 10), none⟩,
   ⟨some 5, .mov (.t 11), none⟩,
   ⟨some 6, .mov (.t 12), none⟩])
 (.ret))
def r24 : List ARV := [.cell 4 true 2, .tmp 5, .tmp 6]
theorem b24 : Try.f24.body.bind (tr Try.prog 13) = some c24.bare := by kernel_rfl
theorem q24 : trRes Try.prog Try.f24.results.toList = some r24 := by kernel_rfl
theorem n24 : (Try.f24.name == "runtime.NumGoroutine") = false := by kernel_rfl

/-- filigree/filigreeref22.Not [b:0, f:1, b:2, f:3] -/
def c25 : ACode :=
 .seq (.reg [⟨some 2, .boxI (.t 0), none⟩,
   ⟨some 4, .alloc [(.int .i64 0), (.slice [] .nil)], none⟩,
   ⟨some 5, .mov (.c (.int .i64 0)), none⟩,
   ⟨some 6, .mov (.c (.int .i64 0)), none⟩])
 (.seq (.reg [⟨some 7, .load true 2 (.t 2), none⟩,
   ⟨some 8, .mov (.t 1), none⟩,
   ⟨some 9, .call (.c (.fn 23 [] [])) [(.t 7), (.t 8), (.c (.int .i64 0)), (.c (.int .i64 1))], none⟩,
   ⟨some 10, .extract (.t 9) 0, none⟩,
   ⟨some 11, .extract (.t 9) 1, none⟩,
   ⟨some 12, .extract (.t 9) 2, none⟩,
   ⟨none, .store 2 (.t 4) (.t 10), none⟩,
   ⟨some 5, .mov (.t 11), none⟩,
   ⟨some 6, .mov (.t 12), none⟩])
 (.ret))
def r25 : List ARV := [.cell 4 true 2, .tmp 5, .tmp 6]
theorem b25 : Try.f25.body.bind (tr Try.prog 13) = some c25.bare := by kernel_rfl
theorem q25 : trRes Try.prog Try.f25.results.toList = some r25 := by kernel_rfl
theorem n25 : (Try.f25.name == "runtime.NumGoroutine") = false := by kernel_rfl

/-- filigree/bdd.Some [b:0, f:1, n:2, b:3, f:4, n:5, m:9, e:10] -/
def c26 : ACode :=
 .seq (.reg [⟨some 3, .box (.t 0), none⟩,
   ⟨some 4, .box (.t 1), none⟩,
   ⟨some 5, .box (.t 2), none⟩,
   ⟨some 6, .alloc [(.int .i64 0), (.slice [] .nil)], none⟩,
   ⟨some 7, .mov (.c (.int .i64 0)), none⟩,
   ⟨some 8, .mov (.c (.int .i64 0)), none⟩])
 (.seq (.reg [⟨some 12, .load true 2 (.t 3), none⟩,
   ⟨some 13, .load false 1 (.t 4), none⟩,
   ⟨some 14, .bslice 1 [(.t 13)], none⟩,
   ⟨some 15, .call (.c (.fn 39 [] [])) [(.t 12), (.t 14)], none⟩,
   ⟨some 11, .mov (.t 15), none⟩,
   ⟨some 16, .extract (.t 11) 0, none⟩,
   ⟨some 17, .extract (.t 11) 1, none⟩,
   ⟨some 9, .alloc [.nilp], none⟩,
   ⟨none, .store 1 (.t 9) (.t 16), none⟩,
   ⟨some 10, .mov (.t 17), none⟩])
 (.seq (.seq (.reg [⟨some 18, .mov (.t 10), none⟩,
   ⟨some 19, .bin .eql false (.t 18) (.c (.int .i64 0)), none⟩,
   ⟨some 20, .mov (.t 19), none⟩,
   ⟨some 21, .load false 1 (.t 5), some (20, true)⟩,
   ⟨some 22, .bin .lss false (.t 21) (.c (.int .i64 0)), some (20, true)⟩,
   ⟨some 23, .mov (.t 22), some (20, true)⟩,
   ⟨some 24, .load false 1 (.t 5), some (23, false)⟩,
   ⟨some 25, .fldA 0 (.t 3), some (23, false)⟩,
   ⟨some 26, .load false 1 (.t 25), some (23, false)⟩,
   ⟨some 27, .bin .geq false (.t 24) (.t 26), some (23, false)⟩,
   ⟨some 28, .pick (.t 23) (.c (.bool true)) (.t 27), some (20, true)⟩,
   ⟨some 29, .pick (.t 20) (.t 28) (.c (.bool false)), none⟩])
 (.cond (.t 29)
  (.reg [⟨some 10, .mov (.c (.int .i64 1)), none⟩])
  (.skip)))
 (.seq (.reg [⟨some 30, .load false 1 (.t 9), none⟩,
   ⟨some 31, .mov (.t 10), none⟩,
   ⟨some 32, .mkfn 46 [] [(.t 3), (.t 9), (.t 4), (.t 5)], none⟩,
   ⟨some 33, .call (.c (.fn 40 [] [])) [(.t 30), (.t 31), (.t 32)], none⟩,
   ⟨some 34, .extract (.t 33) 0, none⟩,
   ⟨some 35, .extract (.t 33) 1, none⟩,
   ⟨some 36, .extract (.t 33) 2, none⟩,
   ⟨none, .store 2 (.t 6) (.t 34), none⟩,
   ⟨some 7, .mov (.t 35), none⟩,
   ⟨some 8, .mov (.t 36), none⟩])
 (.ret))))
def r26 : List ARV := [.cell 6 true 2, .tmp 7, .tmp 8]
theorem b26 : Try.f26.body.bind (tr Try.prog 37) = some c26.bare := by kernel_rfl
theorem q26 : trRes Try.prog Try.f26.results.toList = some r26 := by kernel_rfl
theorem n26 : (Try.f26.name == "runtime.NumGoroutine") = false := by kernel_rfl

/-- filigree/filigreeref22.Some [b:0, f:1, n:2, b:3, f:4, n:5, e:9, x:10, m:11, t:12, i:13] -/
def c27 : ACode :=
 .seq (.reg [⟨some 3, .boxI (.t 0), none⟩,
   ⟨some 6, .alloc [(.int .i64 0), (.slice [] .nil)], none⟩,
   ⟨some 7, .mov (.c (.int .i64 0)), none⟩,
   ⟨some 8, .mov (.c (.int .i64 0)), none⟩])
 (.seq (.reg [⟨some 14, .load true 2 (.t 3), none⟩,
   ⟨some 15, .call (.c (.fn 20 [] [])) [(.t 14)], none⟩,
   ⟨some 9, .mov (.t 15), none⟩])
 (.seq (.seq (.reg [⟨some 16, .mov (.t 9), none⟩,
   ⟨some 17, .bin .neq false (.t 16) (.c (.int .i64 0)), none⟩])
 (.cond (.t 17)
  (.seq (.reg [⟨some 18, .build [(.int .i64 0), (.slice [] .nil)] [], none⟩,
    ⟨some 19, .mov (.t 9), none⟩,
    ⟨none, .store 2 (.t 6) (.t 18), none⟩,
    ⟨some 7, .mov (.c (.int .i64 0)), none⟩,
    ⟨some 8, .mov (.t 19), none⟩])
  (.ret))
  (.skip)))
 (.seq (.seq (.reg [⟨some 20, .load true 2 (.t 3), none⟩,
   ⟨some 21, .mov (.t 1), none⟩,
   ⟨some 22, .call (.c (.fn 43 [] [])) [(.t 20), (.t 21)], none⟩,
   ⟨some 23, .un .not (.t 22), none⟩,
   ⟨some 24, .mov (.t 23), none⟩,
   ⟨some 25, .mov (.t 2), some (24, false)⟩,
   ⟨some 26, .bin .lss false (.t 25) (.c (.int .i64 0)), some (24, false)⟩,
   ⟨some 27, .pick (.t 24) (.c (.bool true)) (.t 26), none⟩,
   ⟨some 28, .mov (.t 27), none⟩,
   ⟨some 29, .mov (.t 2), some (28, false)⟩,
   ⟨some 30, .fldA 0 (.t 3), some (28, false)⟩,
   ⟨some 31, .load false 1 (.t 30), some (28, false)⟩,
   ⟨some 32, .bin .geq false (.t 29) (.t 31), some (28, false)⟩,
   ⟨some 33, .pick (.t 28) (.c (.bool true)) (.t 32), none⟩])
 (.cond (.t 33)
  (.seq (.reg [⟨some 34, .build [(.int .i64 0), (.slice [] .nil)] [], none⟩,
    ⟨none, .store 2 (.t 6) (.t 34), none⟩,
    ⟨some 7, .mov (.c (.int .i64 0)), none⟩,
    ⟨some 8, .mov (.c (.int .i64 1)), none⟩])
  (.ret))
  (.skip)))
 (.seq (.reg [⟨some 35, .load true 2 (.t 3), none⟩,
   ⟨some 36, .mov (.t 1), none⟩,
   ⟨some 37, .call (.c (.fn 44 [] [])) [(.t 35), (.t 36)], none⟩,
   ⟨some 10, .mov (.t 37), none⟩])
 (.seq (.reg [⟨some 38, .fldA 0 (.t 3), none⟩,
   ⟨some 39, .load false 1 (.t 38), none⟩,
   ⟨some 40, .bin .sub false (.t 39) (.c (.int .i64 1)), none⟩,
   ⟨some 41, .mov (.t 2), none⟩,
   ⟨some 42, .bin .sub false (.t 40) (.t 41), none⟩,
   ⟨some 43, .conv .u64 (.t 42), none⟩,
   ⟨some 44, .bin .shl false (.c (.int .i64 1)) (.t 43), none⟩,
   ⟨some 11, .mov (.t 44), none⟩])
 (.seq (.reg [⟨some 12, .mov (.c (.slice [] .nil)), none⟩])
 (.seq (.seq (.reg [⟨some 13, .mov (.c (.int .i64 0)), none⟩])
 (.block 0 (.loop (.seq (.seq (.reg [⟨some 45, .mov (.t 13), none⟩,
    ⟨some 46, .mov (.t 10), none⟩,
    ⟨some 47, .len (.t 46), none⟩,
    ⟨some 48, .bin .lss false (.t 45) (.t 47), none⟩])
  (.cond (.t 48)
   (.skip)
   (.exit 0)))
  (.seq (.block 1 (.reg [⟨some 51, .mov (.t 12), none⟩,
    ⟨some 52, .mov (.t 10), none⟩,
    ⟨some 53, .mov (.t 13), none⟩,
    ⟨some 54, .idxS 1 (.t 52) (.t 53), none⟩,
    ⟨some 55, .load false 1 (.t 54), none⟩,
    ⟨some 56, .mov (.t 55), none⟩,
    ⟨some 57, .mov (.t 10), some (56, false)⟩,
    ⟨some 58, .mov (.t 13), some (56, false)⟩,
    ⟨some 59, .mov (.t 11), some (56, false)⟩,
    ⟨some 60, .bin .xor false (.t 58) (.t 59), some (56, false)⟩,
    ⟨some 61, .idxS 1 (.t 57) (.t 60), some (56, false)⟩,
    ⟨some 62, .load false 1 (.t 61), some (56, false)⟩,
    ⟨some 63, .pick (.t 56) (.c (.bool true)) (.t 62), none⟩,
    ⟨some 64, .bslice 1 [(.t 63)], none⟩,
    ⟨some 65, .append 1 1 (.t 51) (.t 64), none⟩,
    ⟨some 12, .mov (.t 65), none⟩]))
  (.reg [⟨some 49, .mov (.t 13), none⟩,
    ⟨some 50, .bin .add false (.t 49) (.c (.int .i64 1)), none⟩,
    ⟨some 13, .mov (.t 50), none⟩]))))))
 (.seq (.reg [⟨some 66, .load true 2 (.t 3), none⟩,
   ⟨some 67, .mov (.t 12), none⟩,
   ⟨some 68, .call (.c (.fn 45 [] [])) [(.t 66), (.t 67)], none⟩,
   ⟨some 69, .extract (.t 68) 0, none⟩,
   ⟨some 70, .extract (.t 68) 1, none⟩,
   ⟨some 71, .extract (.t 68) 2, none⟩,
   ⟨none, .store 2 (.t 6) (.t 69), none⟩,
   ⟨some 7, .mov (.t 70), none⟩,
   ⟨some 8, .mov (.t 71), none⟩])
 (.ret)))))))))
def r27 : List ARV := [.cell 6 true 2, .tmp 7, .tmp 8]
theorem b27 : Try.f27.body.bind (tr Try.prog 72) = some c27.bare := by kernel_rfl
theorem q27 : trRes Try.prog Try.f27.results.toList = some r27 := by kernel_rfl
theorem n27 : (Try.f27.name == "runtime.NumGoroutine") = false := by kernel_rfl

/-- filigree/bdd.Var [b:0, n:1, b:2, n:3, m:7, e:8] -/
def c28 : ACode :=
 .seq (.reg [⟨some 2, .boxI (.t 0), none⟩,
   ⟨some 3, .box (.t 1), none⟩,
   ⟨some 4, .alloc [(.int .i64 0), (.slice [] .nil)], none⟩,
   ⟨some 5, .mov (.c (.int .i64 0)), none⟩,
   ⟨some 6, .mov (.c (.int .i64 0)), none⟩])
 (.seq (.reg [⟨some 10, .load true 2 (.t 2), none⟩,
   ⟨some 11, .call (.c (.fn 39 [] [])) [(.t 10), (.c (.slice [] .nil))], none⟩,
   ⟨some 9, .mov (.t 11), none⟩,
   ⟨some 12, .extract (.t 9) 0, none⟩,
   ⟨some 13, .extract (.t 9) 1, none⟩,
   ⟨some 7, .alloc [.nilp], none⟩,
   ⟨none, .store 1 (.t 7) (.t 12), none⟩,
   ⟨some 8, .mov (.t 13), none⟩])
 (.seq (.seq (.reg [⟨some 14, .mov (.t 8), none⟩,
   ⟨some 15, .bin .eql false (.t 14) (.c (.int .i64 0)), none⟩,
   ⟨some 16, .mov (.t 15), none⟩,
   ⟨some 17, .load false 1 (.t 3), some (16, true)⟩,
   ⟨some 18, .bin .lss false (.t 17) (.c (.int .i64 0)), some (16, true)⟩,
   ⟨some 19, .mov (.t 18), some (16, true)⟩,
   ⟨some 20, .load false 1 (.t 3), some (19, false)⟩,
   ⟨some 21, .fldA 0 (.t 2), some (19, false)⟩,
   ⟨some 22, .load false 1 (.t 21), some (19, false)⟩,
   ⟨some 23, .bin .geq false (.t 20) (.t 22), some (19, false)⟩,
   ⟨some 24, .pick (.t 19) (.c (.bool true)) (.t 23), some (16, true)⟩,
   ⟨some 25, .pick (.t 16) (.t 24) (.c (.bool false)), none⟩])
 (.cond (.t 25)
  (.reg [⟨some 8, .mov (.c (.int .i64 1)), none⟩])
  (.skip)))
 (.seq (.reg [⟨some 26, .load false 1 (.t 7), none⟩,
   ⟨some 27, .mov (.t 8), none⟩,
   ⟨some 28, .mkfn 49 [] [(.t 7), (.t 3)], none⟩,
   ⟨some 29, .call (.c (.fn 40 [] [])) [(.t 26), (.t 27), (.t 28)], none⟩,
   ⟨some 30, .extract (.t 29) 0, none⟩,
   ⟨some 31, .extract (.t 29) 1, none⟩,
   ⟨some 32, .extract (.t 29) 2, none⟩,
   ⟨none, .store 2 (.t 4) (.t 30), none⟩,
   ⟨some 5, .mov (.t 31), none⟩,
   ⟨some 6, .mov (.t 32), none⟩])
 (.ret))))
def r28 : List ARV := [.cell 4 true 2, .tmp 5, .tmp 6]
theorem b28 : Try.f28.body.bind (tr Try.prog 33) = some c28.bare := by kernel_rfl
theorem q28 : trRes Try.prog Try.f28.results.toList = some r28 := by kernel_rfl
theorem n28 : (Try.f28.name == "runtime.NumGoroutine") = false := by kernel_rfl

/-- filigree/filigreeref22.Var [b:0, n:1, b:2, n:3, e:7, t:8, i:9] -/
def c29 : ACode :=
 .seq (.reg [⟨some 2, .boxI (.t 0), none⟩,
   ⟨some 4, .alloc [(.int .i64 0), (.slice [] .nil)], none⟩,
   ⟨some 5, .mov (.c (.int .i64 0)), none⟩,
   ⟨some 6, .mov (.c (.int .i64 0)), none⟩])
 (.seq (.reg [⟨some 10, .load true 2 (.t 2), none⟩,
   ⟨some 11, .call (.c (.fn 20 [] [])) [(.t 10)], none⟩,
   ⟨some 7, .mov (.t 11), none⟩])
 (.seq (.seq (.reg [⟨some 12, .mov (.t 7), none⟩,
   ⟨some 13, .bin .neq false (.t 12) (.c (.int .i64 0)), none⟩])
 (.cond (.t 13)
  (.seq (.reg [⟨some 14, .build [(.int .i64 0), (.slice [] .nil)] [], none⟩,
    ⟨some 15, .mov (.t 7), none⟩,
    ⟨none, .store 2 (.t 4) (.t 14), none⟩,
    ⟨some 5, .mov (.c (.int .i64 0)), none⟩,
    ⟨some 6, .mov (.t 15), none⟩])
  (.ret))
  (.skip)))
 (.seq (.seq (.reg [⟨some 16, .mov (.t 1), none⟩,
   ⟨some 17, .bin .lss false (.t 16) (.c (.int .i64 0)), none⟩,
   ⟨some 18, .mov (.t 17), none⟩,
   ⟨some 19, .mov (.t 1), some (18, false)⟩,
   ⟨some 20, .fldA 0 (.t 2), some (18, false)⟩,
   ⟨some 21, .load false 1 (.t 20), some (18, false)⟩,
   ⟨some 22, .bin .geq false (.t 19) (.t 21), some (18, false)⟩,
   ⟨some 23, .pick (.t 18) (.c (.bool true)) (.t 22), none⟩])
 (.cond (.t 23)
  (.seq (.reg [⟨some 24, .build [(.int .i64 0), (.slice [] .nil)] [], none⟩,
    ⟨none, .store 2 (.t 4) (.t 24), none⟩,
    ⟨some 5, .mov (.c (.int .i64 0)), none⟩,
    ⟨some 6, .mov (.c (.int .i64 1)), none⟩])
  (.ret))
  (.skip)))
 (.seq (.reg [⟨some 8, .mov (.c (.slice [] .nil)), none⟩])
 (.seq (.seq (.reg [⟨some 9, .mov (.c (.int .i64 0)), none⟩])
 (.block 0 (.loop (.seq (.seq (.reg [⟨some 25, .mov (.t 9), none⟩,
    ⟨some 26, .fldA 0 (.t 2), none⟩,
    ⟨some 27, .load false 1 (.t 26), none⟩,
    ⟨some 28, .conv .u64 (.t 27), none⟩,
    ⟨some 29, .bin .shl false (.c (.int .i64 1)) (.t 28), none⟩,
    ⟨some 30, .bin .lss false (.t 25) (.t 29), none⟩])
  (.cond (.t 30)
   (.skip)
   (.exit 0)))
  (.seq (.block 1 (.reg [⟨some 33, .mov (.t 8), none⟩,
    ⟨some 34, .mov (.t 9), none⟩,
    ⟨some 35, .fldA 0 (.t 2), none⟩,
    ⟨some 36, .load false 1 (.t 35), none⟩,
    ⟨some 37, .bin .sub false (.t 36) (.c (.int .i64 1)), none⟩,
    ⟨some 38, .mov (.t 1), none⟩,
    ⟨some 39, .bin .sub false (.t 37) (.t 38), none⟩,
    ⟨some 40, .conv .u64 (.t 39), none⟩,
    ⟨some 41, .bin .shr false (.t 34) (.t 40), none⟩,
    ⟨some 42, .bin .rem false (.t 41) (.c (.int .i64 2)), none⟩,
    ⟨some 43, .bin .eql false (.t 42) (.c (.int .i64 1)), none⟩,
    ⟨some 44, .bslice 1 [(.t 43)], none⟩,
    ⟨some 45, .append 1 1 (.t 33) (.t 44), none⟩,
    ⟨some 8, .mov (.t 45), none⟩]))
  (.reg [⟨some 31, .mov (.t 9), none⟩,
    ⟨some 32, .bin .add false (.t 31) (.c (.int .i64 1)), none⟩,
    ⟨some 9, .mov (.t 32), none⟩]))))))
 (.seq (.reg [⟨some 46, .load true 2 (.t 2), none⟩,
   ⟨some 47, .mov (.t 8), none⟩,
   ⟨some 48, .call (.c (.fn 45 [] [])) [(.t 46), (.t 47)], none⟩,
   ⟨some 49, .extract (.t 48) 0, none⟩,
   ⟨some 50, .extract (.t 48) 1, none⟩,
   ⟨some 51, .extract (.t 48) 2, none⟩,
   ⟨none, .store 2 (.t 4) (.t 49), none⟩,
   ⟨some 5, .mov (.t 50), none⟩,
   ⟨some 6, .mov (.t 51), none⟩])
 (.ret)))))))
def r29 : List ARV := [.cell 4 true 2, .tmp 5, .tmp 6]
theorem b29 : Try.f29.body.bind (tr Try.prog 52) = some c29.bare := by kernel_rfl
theorem q29 : trRes Try.prog Try.f29.results.toList = some r29 := by kernel_rfl
theorem n29 : (Try.f29.name == "runtime.NumGoroutine") = false := by kernel_rfl

/-- filigree/bdd.Eval [b:0, f:1, in:2, b:3, f:4, in:5, m:8, e:9, x:10] -/
def c30 : ACode :=
 .seq (.reg [⟨some 3, .boxI (.t 0), none⟩,
   ⟨some 6, .mov (.c (.bool false)), none⟩,
   ⟨some 7, .mov (.c (.int .i64 0)), none⟩])
 (.seq (.reg [⟨some 12, .load true 2 (.t 3), none⟩,
   ⟨some 13, .mov (.t 1), none⟩,
   ⟨some 14, .bslice 1 [(.t 13)], none⟩,
   ⟨some 15, .call (.c (.fn 39 [] [])) [(.t 12), (.t 14)], none⟩,
   ⟨some 11, .mov (.t 15), none⟩,
   ⟨some 16, .extract (.t 11) 0, none⟩,
   ⟨some 17, .extract (.t 11) 1, none⟩,
   ⟨some 8, .mov (.t 16), none⟩,
   ⟨some 9, .mov (.t 17), none⟩])
 (.seq (.block 0 (.seq (.reg [⟨some 19, .mov (.t 9), none⟩,
   ⟨some 20, .bin .neq false (.t 19) (.c (.int .i64 0)), none⟩,
   ⟨some 18, .mov (.t 20), none⟩])
 (.cond (.t 18)
  (.seq (.reg [⟨some 21, .mov (.t 9), none⟩,
    ⟨some 6, .mov (.c (.bool false)), none⟩,
    ⟨some 7, .mov (.t 21), none⟩])
  (.ret))
  (.seq (.reg [⟨some 23, .mov (.t 2), none⟩,
    ⟨some 24, .len (.t 23), none⟩,
    ⟨some 25, .fldA 0 (.t 3), none⟩,
    ⟨some 26, .load false 1 (.t 25), none⟩,
    ⟨some 27, .bin .neq false (.t 24) (.t 26), none⟩,
    ⟨some 22, .mov (.t 27), none⟩])
  (.cond (.t 22)
   (.seq (.reg [⟨some 6, .mov (.c (.bool false)), none⟩,
     ⟨some 7, .mov (.c (.int .i64 1)), none⟩])
   (.ret))
   (.skip))))))
 (.seq (.block 1 (.loop (.seq (.seq (.reg [⟨some 28, .mov (.t 1), none⟩,
    ⟨some 29, .bin .gtr false (.t 28) (.c (.int .i64 1)), none⟩])
  (.cond (.t 29)
   (.skip)
   (.exit 1)))
  (.block 2 (.seq (.reg [⟨some 30, .mov (.t 8), none⟩,
    ⟨some 31, .nilchk (.t 30), none⟩,
    ⟨some 32, .fldA 0 (.t 31), none⟩,
    ⟨some 33, .fldA 1 (.t 32), none⟩,
    ⟨some 34, .load false 1 (.t 33), none⟩,
    ⟨some 35, .mov (.t 1), none⟩,
    ⟨some 36, .idxS 3 (.t 34) (.t 35), none⟩,
    ⟨some 37, .load true 3 (.t 36), none⟩,
    ⟨some 10, .alloc [(.int .i64 0), (.int .i64 0), (.int .i64 0)], none⟩,
    ⟨none, .store 3 (.t 10) (.t 37), none⟩])
  (.seq (.reg [⟨some 38, .fldA 1 (.t 10), none⟩,
    ⟨some 39, .load false 1 (.t 38), none⟩,
    ⟨some 1, .mov (.t 39), none⟩])
  (.seq (.reg [⟨some 40, .mov (.t 2), none⟩,
    ⟨some 41, .fldA 0 (.t 10), none⟩,
    ⟨some 42, .load false 1 (.t 41), none⟩,
    ⟨some 43, .idxS 1 (.t 40) (.t 42), none⟩,
    ⟨some 44, .load false 1 (.t 43), none⟩])
  (.cond (.t 44)
   (.reg [⟨some 45, .fldA 2 (.t 10), none⟩,
     ⟨some 46, .load false 1 (.t 45), none⟩,
     ⟨some 1, .mov (.t 46), none⟩])
   (.skip)))))))))
 (.seq (.reg [⟨some 47, .mov (.t 1), none⟩,
   ⟨some 48, .bin .eql false (.t 47) (.c (.int .i64 1)), none⟩,
   ⟨some 6, .mov (.t 48), none⟩,
   ⟨some 7, .mov (.c (.int .i64 0)), none⟩])
 (.ret)))))
def r30 : List ARV := [.tmp 6, .tmp 7]
theorem b30 : Try.f30.body.bind (tr Try.prog 49) = some c30.bare := by kernel_rfl
theorem q30 : trRes Try.prog Try.f30.results.toList = some r30 := by kernel_rfl
theorem n30 : (Try.f30.name == "runtime.NumGoroutine") = false := by kernel_rfl

/-- filigree/filigreeref22.Eval [b:0, f:1, in:2, b:3, f:4, in:5, e:8, i:9, k:10] -/
def c31 : ACode :=
 .seq (.reg [⟨some 3, .boxI (.t 0), none⟩,
   ⟨some 6, .mov (.c (.bool false)), none⟩,
   ⟨some 7, .mov (.c (.int .i64 0)), none⟩])
 (.seq (.reg [⟨some 11, .load true 2 (.t 3), none⟩,
   ⟨some 12, .call (.c (.fn 20 [] [])) [(.t 11)], none⟩,
   ⟨some 8, .mov (.t 12), none⟩])
 (.seq (.seq (.reg [⟨some 13, .mov (.t 8), none⟩,
   ⟨some 14, .bin .neq false (.t 13) (.c (.int .i64 0)), none⟩])
 (.cond (.t 14)
  (.seq (.reg [⟨some 15, .mov (.t 8), none⟩,
    ⟨some 6, .mov (.c (.bool false)), none⟩,
    ⟨some 7, .mov (.t 15), none⟩])
  (.ret))
  (.skip)))
 (.seq (.seq (.reg [⟨some 16, .load true 2 (.t 3), none⟩,
   ⟨some 17, .mov (.t 1), none⟩,
   ⟨some 18, .call (.c (.fn 43 [] [])) [(.t 16), (.t 17)], none⟩,
   ⟨some 19, .un .not (.t 18), none⟩,
   ⟨some 20, .mov (.t 19), none⟩,
   ⟨some 21, .mov (.t 2), some (20, false)⟩,
   ⟨some 22, .len (.t 21), some (20, false)⟩,
   ⟨some 23, .fldA 0 (.t 3), some (20, false)⟩,
   ⟨some 24, .load false 1 (.t 23), some (20, false)⟩,
   ⟨some 25, .bin .neq false (.t 22) (.t 24), some (20, false)⟩,
   ⟨some 26, .pick (.t 20) (.c (.bool true)) (.t 25), none⟩])
 (.cond (.t 26)
  (.seq (.reg [⟨some 6, .mov (.c (.bool false)), none⟩,
    ⟨some 7, .mov (.c (.int .i64 1)), none⟩])
  (.ret))
  (.skip)))
 (.seq (.reg [⟨some 9, .mov (.c (.int .i64 0)), none⟩])
 (.seq (.seq (.reg [⟨some 10, .mov (.c (.int .i64 0)), none⟩])
 (.block 0 (.loop (.seq (.seq (.reg [⟨some 27, .mov (.t 10), none⟩,
    ⟨some 28, .mov (.t 2), none⟩,
    ⟨some 29, .len (.t 28), none⟩,
    ⟨some 30, .bin .lss false (.t 27) (.t 29), none⟩])
  (.cond (.t 30)
   (.skip)
   (.exit 0)))
  (.seq (.block 1 (.seq (.reg [⟨some 33, .mov (.t 9), none⟩,
    ⟨some 34, .bin .mul false (.t 33) (.c (.int .i64 2)), none⟩,
    ⟨some 9, .mov (.t 34), none⟩])
  (.seq (.reg [⟨some 35, .mov (.t 2), none⟩,
    ⟨some 36, .mov (.t 10), none⟩,
    ⟨some 37, .idxS 1 (.t 35) (.t 36), none⟩,
    ⟨some 38, .load false 1 (.t 37), none⟩])
  (.cond (.t 38)
   (.reg [⟨some 39, .mov (.t 9), none⟩,
     ⟨some 40, .bin .add false (.t 39) (.c (.int .i64 1)), none⟩,
     ⟨some 9, .mov (.t 40), none⟩])
   (.skip)))))
  (.reg [⟨some 31, .mov (.t 10), none⟩,
    ⟨some 32, .bin .add false (.t 31) (.c (.int .i64 1)), none⟩,
    ⟨some 10, .mov (.t 32), none⟩]))))))
 (.seq (.reg [⟨some 41, .load true 2 (.t 3), none⟩,
   ⟨some 42, .mov (.t 1), none⟩,
   ⟨some 43, .mov (.t 9), none⟩,
   ⟨some 44, .call (.c (.fn 51 [] [])) [(.t 41), (.t 42), (.t 43)], none⟩,
   ⟨some 6, .mov (.t 44), none⟩,
   ⟨some 7, .mov (.c (.int .i64 0)), none⟩])
 (.ret)))))))
def r31 : List ARV := [.tmp 6, .tmp 7]
theorem b31 : Try.f31.body.bind (tr Try.prog 45) = some c31.bare := by kernel_rfl
theorem q31 : trRes Try.prog Try.f31.results.toList = some r31 := by kernel_rfl
theorem n31 : (Try.f31.name == "runtime.NumGoroutine") = false := by kernel_rfl

/-- filigree/bdd.Count [b:0, f:1, b:2, f:3, m:6, e:7, counts:8, _:9, x:10, n:11, _:12, part:13] -/
def c32 : ACode :=
 .seq (.reg [⟨some 2, .boxI (.t 0), none⟩,
   ⟨some 4, .mov (.c (.int .i64 0)), none⟩,
   ⟨some 5, .mov (.c (.int .i64 0)), none⟩])
 (.seq (.reg [⟨some 15, .load true 2 (.t 2), none⟩,
   ⟨some 16, .mov (.t 1), none⟩,
   ⟨some 17, .bslice 1 [(.t 16)], none⟩,
   ⟨some 18, .call (.c (.fn 39 [] [])) [(.t 15), (.t 17)], none⟩,
   ⟨some 14, .mov (.t 18), none⟩,
   ⟨some 19, .extract (.t 14) 0, none⟩,
   ⟨some 20, .extract (.t 14) 1, none⟩,
   ⟨some 6, .mov (.t 19), none⟩,
   ⟨some 7, .mov (.t 20), none⟩])
 (.seq (.seq (.reg [⟨some 21, .mov (.t 7), none⟩,
   ⟨some 22, .bin .neq false (.t 21) (.c (.int .i64 0)), none⟩])
 (.cond (.t 22)
  (.seq (.reg [⟨some 23, .mov (.t 7), none⟩,
    ⟨some 4, .mov (.c (.int .i64 0)), none⟩,
    ⟨some 5, .mov (.t 23), none⟩])
  (.ret))
  (.skip)))
 (.seq (.reg [⟨some 24, .ext (.bsliceG 1 [(.c (.int .i64 0)), (.c (.int .i64 1))]), none⟩,
   ⟨some 8, .mov (.t 24), none⟩])
 (.seq (.seq (.reg [⟨some 25, .mov (.t 6), none⟩,
   ⟨some 26, .nilchk (.t 25), none⟩,
   ⟨some 27, .fldA 0 (.t 26), none⟩,
   ⟨some 28, .fldA 1 (.t 27), none⟩,
   ⟨some 29, .load false 1 (.t 28), none⟩,
   ⟨some 30, .slc 3 (.t 29) (some (.c (.int .i64 2))) none none, none⟩,
   ⟨some 31, .len (.t 30), none⟩,
   ⟨some 32, .mov (.c (.int .i64 0)), none⟩])
 (.block 0 (.loop (.seq (.reg [⟨some 33, .bin .lss false (.t 32) (.t 31), none⟩])
  (.seq (.cond (.t 33)
   (.skip)
   (.exit 0))
  (.seq (.block 1 (.seq (.reg [⟨some 34, .idxS 3 (.t 30) (.t 32), none⟩,
    ⟨some 35, .load true 3 (.t 34), none⟩,
    ⟨some 10, .alloc [(.int .i64 0), (.int .i64 0), (.int .i64 0)], none⟩,
    ⟨none, .store 3 (.t 10) (.t 35), none⟩])
  (.seq (.reg [⟨some 11, .mov (.c (.int .i64 0)), none⟩])
  (.seq (.seq (.reg [⟨some 36, .fldA 1 (.t 10), none⟩,
    ⟨some 37, .load false 1 (.t 36), none⟩,
    ⟨some 38, .fldA 2 (.t 10), none⟩,
    ⟨some 39, .load false 1 (.t 38), none⟩,
    ⟨some 40, .build [(.int .i64 0), (.int .i64 0)] [(0, 1, (.t 37)), (1, 1, (.t 39))], none⟩,
    ⟨some 41, .mov (.c (.int .i64 0)), none⟩])
  (.block 2 (.loop (.seq (.reg [⟨some 42, .bin .lss false (.t 41) (.c (.int .i64 2)), none⟩])
   (.seq (.cond (.t 42)
    (.skip)
    (.exit 2))
   (.seq (.block 3 (.seq (.reg [⟨some 43, .idxV false 1 2 (.t 40) (.t 41), none⟩,
     ⟨some 13, .mov (.t 43), none⟩])
   (.drw [⟨some 44, .mov (.t 11), none⟩,
     ⟨some 45, .mov (.t 8), none⟩,
     ⟨some 46, .mov (.t 13), none⟩,
     ⟨some 47, .idxS 1 (.t 45) (.t 46), none⟩,
     ⟨some 48, .load false 1 (.t 47), none⟩,
     ⟨some 49, .mov (.t 6), none⟩,
     ⟨some 50, .mov (.t 13), none⟩,
     ⟨some 51, .call (.c (.fn 52 [] [])) [(.t 49), (.t 50)], none⟩,
     ⟨some 52, .fldA 0 (.t 10), none⟩,
     ⟨some 53, .load false 1 (.t 52), none⟩,
     ⟨some 54, .bin .sub false (.t 51) (.t 53), none⟩,
     ⟨some 55, .bin .sub false (.t 54) (.c (.int .i64 1)), none⟩,
     ⟨some 56, .bin .shl false (.t 48) (.t 55), none⟩,
     ⟨some 57, .bin .add false (.t 44) (.t 56), none⟩,
     ⟨some 11, .mov (.t 57), none⟩] [(4, 7), (7, 9)])))
   (.reg [⟨some 58, .bin .add false (.t 41) (.c (.int .i64 1)), none⟩,
     ⟨some 41, .mov (.t 58), none⟩])))))))
  (.reg [⟨some 59, .mov (.t 8), none⟩,
    ⟨some 60, .mov (.t 11), none⟩,
    ⟨some 61, .bslice 1 [(.t 60)], none⟩,
    ⟨some 62, .append 1 8 (.t 59) (.t 61), none⟩,
    ⟨some 8, .mov (.t 62), none⟩])))))
  (.reg [⟨some 63, .bin .add false (.t 32) (.c (.int .i64 1)), none⟩,
    ⟨some 32, .mov (.t 63), none⟩])))))))
 (.seq (.drw [⟨some 64, .mov (.t 8), none⟩,
   ⟨some 65, .mov (.t 1), none⟩,
   ⟨some 66, .idxS 1 (.t 64) (.t 65), none⟩,
   ⟨some 67, .load false 1 (.t 66), none⟩,
   ⟨some 68, .mov (.t 6), none⟩,
   ⟨some 69, .mov (.t 1), none⟩,
   ⟨some 70, .call (.c (.fn 52 [] [])) [(.t 68), (.t 69)], none⟩,
   ⟨some 71, .bin .shl false (.t 67) (.t 70), none⟩,
   ⟨some 4, .mov (.t 71), none⟩,
   ⟨some 5, .mov (.c (.int .i64 0)), none⟩] [(3, 6)])
 (.ret))))))
def r32 : List ARV := [.tmp 4, .tmp 5]
theorem b32 : Try.f32.body.bind (tr Try.prog 72) = some c32.bare := by kernel_rfl
theorem q32 : trRes Try.prog Try.f32.results.toList = some r32 := by kernel_rfl
theorem n32 : (Try.f32.name == "runtime.NumGoroutine") = false := by kernel_rfl

/-- filigree/filigreeref22.Count [b:0, f:1, b:2, f:3, e:6, t:7, n:8, i:9] -/
def c33 : ACode :=
 .seq (.reg [⟨some 2, .boxI (.t 0), none⟩,
   ⟨some 4, .mov (.c (.int .i64 0)), none⟩,
   ⟨some 5, .mov (.c (.int .i64 0)), none⟩])
 (.seq (.reg [⟨some 10, .load true 2 (.t 2), none⟩,
   ⟨some 11, .call (.c (.fn 20 [] [])) [(.t 10)], none⟩,
   ⟨some 6, .mov (.t 11), none⟩])
 (.seq (.seq (.reg [⟨some 12, .mov (.t 6), none⟩,
   ⟨some 13, .bin .neq false (.t 12) (.c (.int .i64 0)), none⟩])
 (.cond (.t 13)
  (.seq (.reg [⟨some 14, .mov (.t 6), none⟩,
    ⟨some 4, .mov (.c (.int .i64 0)), none⟩,
    ⟨some 5, .mov (.t 14), none⟩])
  (.ret))
  (.skip)))
 (.seq (.seq (.reg [⟨some 15, .load true 2 (.t 2), none⟩,
   ⟨some 16, .mov (.t 1), none⟩,
   ⟨some 17, .call (.c (.fn 43 [] [])) [(.t 15), (.t 16)], none⟩,
   ⟨some 18, .un .not (.t 17), none⟩])
 (.cond (.t 18)
  (.seq (.reg [⟨some 4, .mov (.c (.int .i64 0)), none⟩,
    ⟨some 5, .mov (.c (.int .i64 1)), none⟩])
  (.ret))
  (.skip)))
 (.seq (.reg [⟨some 19, .load true 2 (.t 2), none⟩,
   ⟨some 20, .mov (.t 1), none⟩,
   ⟨some 21, .call (.c (.fn 44 [] [])) [(.t 19), (.t 20)], none⟩,
   ⟨some 7, .mov (.t 21), none⟩])
 (.seq (.reg [⟨some 8, .mov (.c (.int .i64 0)), none⟩])
 (.seq (.seq (.reg [⟨some 9, .mov (.c (.int .i64 0)), none⟩])
 (.block 0 (.loop (.seq (.seq (.reg [⟨some 22, .mov (.t 9), none⟩,
    ⟨some 23, .mov (.t 7), none⟩,
    ⟨some 24, .len (.t 23), none⟩,
    ⟨some 25, .bin .lss false (.t 22) (.t 24), none⟩])
  (.cond (.t 25)
   (.skip)
   (.exit 0)))
  (.seq (.block 1 (.seq (.reg [⟨some 28, .mov (.t 7), none⟩,
    ⟨some 29, .mov (.t 9), none⟩,
    ⟨some 30, .idxS 1 (.t 28) (.t 29), none⟩,
    ⟨some 31, .load false 1 (.t 30), none⟩])
  (.cond (.t 31)
   (.reg [⟨some 32, .mov (.t 8), none⟩,
     ⟨some 33, .bin .add false (.t 32) (.c (.int .i64 1)), none⟩,
     ⟨some 8, .mov (.t 33), none⟩])
   (.skip))))
  (.reg [⟨some 26, .mov (.t 9), none⟩,
    ⟨some 27, .bin .add false (.t 26) (.c (.int .i64 1)), none⟩,
    ⟨some 9, .mov (.t 27), none⟩]))))))
 (.seq (.reg [⟨some 34, .mov (.t 8), none⟩,
   ⟨some 4, .mov (.t 34), none⟩,
   ⟨some 5, .mov (.c (.int .i64 0)), none⟩])
 (.ret))))))))
def r33 : List ARV := [.tmp 4, .tmp 5]
theorem b33 : Try.f33.body.bind (tr Try.prog 35) = some c33.bare := by kernel_rfl
theorem q33 : trRes Try.prog Try.f33.results.toList = some r33 := by kernel_rfl
theorem n33 : (Try.f33.name == "runtime.NumGoroutine") = false := by kernel_rfl

/-- filigree/bdd.One [b:0, f:1, b:2, f:3, m:7, e:8, in:9, x:10] -/
def c34 : ACode :=
 .seq (.reg [⟨some 2, .boxI (.t 0), none⟩,
   ⟨some 4, .mov (.c (.slice [] .nil)), none⟩,
   ⟨some 5, .mov (.c (.bool false)), none⟩,
   ⟨some 6, .mov (.c (.int .i64 0)), none⟩])
 (.seq (.reg [⟨some 12, .load true 2 (.t 2), none⟩,
   ⟨some 13, .mov (.t 1), none⟩,
   ⟨some 14, .bslice 1 [(.t 13)], none⟩,
   ⟨some 15, .call (.c (.fn 39 [] [])) [(.t 12), (.t 14)], none⟩,
   ⟨some 11, .mov (.t 15), none⟩,
   ⟨some 16, .extract (.t 11) 0, none⟩,
   ⟨some 17, .extract (.t 11) 1, none⟩,
   ⟨some 7, .mov (.t 16), none⟩,
   ⟨some 8, .mov (.t 17), none⟩])
 (.seq (.seq (.reg [⟨some 18, .mov (.t 8), none⟩,
   ⟨some 19, .bin .neq false (.t 18) (.c (.int .i64 0)), none⟩,
   ⟨some 20, .mov (.t 19), none⟩,
   ⟨some 21, .mov (.t 1), some (20, false)⟩,
   ⟨some 22, .bin .eql false (.t 21) (.c (.int .i64 0)), some (20, false)⟩,
   ⟨some 23, .pick (.t 20) (.c (.bool true)) (.t 22), none⟩])
 (.cond (.t 23)
  (.seq (.reg [⟨some 24, .mov (.t 8), none⟩,
    ⟨some 4, .mov (.c (.slice [] .nil)), none⟩,
    ⟨some 5, .mov (.c (.bool false)), none⟩,
    ⟨some 6, .mov (.t 24), none⟩])
  (.ret))
  (.skip)))
 (.seq (.reg [⟨some 25, .fldA 0 (.t 2), none⟩,
   ⟨some 26, .load false 1 (.t 25), none⟩,
   ⟨some 27, .ext (.vmake 1 1 [(.bool false)] false (.t 26) (.t 26)), none⟩,
   ⟨some 9, .mov (.t 27), none⟩])
 (.seq (.block 0 (.loop (.seq (.seq (.reg [⟨some 28, .mov (.t 1), none⟩,
    ⟨some 29, .bin .gtr false (.t 28) (.c (.int .i64 1)), none⟩])
  (.cond (.t 29)
   (.skip)
   (.exit 0)))
  (.block 1 (.seq (.reg [⟨some 30, .mov (.t 7), none⟩,
    ⟨some 31, .nilchk (.t 30), none⟩,
    ⟨some 32, .fldA 0 (.t 31), none⟩,
    ⟨some 33, .fldA 1 (.t 32), none⟩,
    ⟨some 34, .load false 1 (.t 33), none⟩,
    ⟨some 35, .mov (.t 1), none⟩,
    ⟨some 36, .idxS 3 (.t 34) (.t 35), none⟩,
    ⟨some 37, .load true 3 (.t 36), none⟩,
    ⟨some 10, .alloc [(.int .i64 0), (.int .i64 0), (.int .i64 0)], none⟩,
    ⟨none, .store 3 (.t 10) (.t 37), none⟩])
  (.seq (.reg [⟨some 38, .fldA 1 (.t 10), none⟩,
    ⟨some 39, .load false 1 (.t 38), none⟩,
    ⟨some 1, .mov (.t 39), none⟩])
  (.seq (.reg [⟨some 40, .mov (.t 1), none⟩,
    ⟨some 41, .bin .eql false (.t 40) (.c (.int .i64 0)), none⟩])
  (.cond (.t 41)
   (.drw [⟨some 42, .mov (.t 9), none⟩,
     ⟨some 43, .fldA 0 (.t 10), none⟩,
     ⟨some 44, .load false 1 (.t 43), none⟩,
     ⟨some 45, .fldA 2 (.t 10), none⟩,
     ⟨some 46, .load false 1 (.t 45), none⟩,
     ⟨some 47, .idxS 1 (.t 42) (.t 44), none⟩,
     ⟨none, .store 1 (.t 47) (.c (.bool true)), none⟩,
     ⟨some 1, .mov (.t 46), none⟩] [(4, 6)])
   (.skip)))))))))
 (.seq (.reg [⟨some 48, .ext (.vfrz false (.t 9)), none⟩,
   ⟨some 4, .mov (.t 48), none⟩,
   ⟨some 5, .mov (.c (.bool true)), none⟩,
   ⟨some 6, .mov (.c (.int .i64 0)), none⟩])
 (.ret))))))
def r34 : List ARV := [.tmp 4, .tmp 5, .tmp 6]
theorem b34 : Try.f34.body.bind (tr Try.prog 49) = some c34.bare := by kernel_rfl
theorem q34 : trRes Try.prog Try.f34.results.toList = some r34 := by kernel_rfl
theorem n34 : (Try.f34.name == "runtime.NumGoroutine") = false := by kernel_rfl

/-- filigree/filigreeref22.One [b:0, f:1, b:2, f:3, e:7, t:8, i:9, in:10, k:11] -/
def c35 : ACode :=
 .seq (.reg [⟨some 2, .boxI (.t 0), none⟩,
   ⟨some 4, .mov (.c (.slice [] .nil)), none⟩,
   ⟨some 5, .mov (.c (.bool false)), none⟩,
   ⟨some 6, .mov (.c (.int .i64 0)), none⟩])
 (.seq (.reg [⟨some 12, .load true 2 (.t 2), none⟩,
   ⟨some 13, .call (.c (.fn 20 [] [])) [(.t 12)], none⟩,
   ⟨some 7, .mov (.t 13), none⟩])
 (.seq (.seq (.reg [⟨some 14, .mov (.t 7), none⟩,
   ⟨some 15, .bin .neq false (.t 14) (.c (.int .i64 0)), none⟩])
 (.cond (.t 15)
  (.seq (.reg [⟨some 16, .mov (.t 7), none⟩,
    ⟨some 4, .mov (.c (.slice [] .nil)), none⟩,
    ⟨some 5, .mov (.c (.bool false)), none⟩,
    ⟨some 6, .mov (.t 16), none⟩])
  (.ret))
  (.skip)))
 (.seq (.seq (.reg [⟨some 17, .load true 2 (.t 2), none⟩,
   ⟨some 18, .mov (.t 1), none⟩,
   ⟨some 19, .call (.c (.fn 43 [] [])) [(.t 17), (.t 18)], none⟩,
   ⟨some 20, .un .not (.t 19), none⟩])
 (.cond (.t 20)
  (.seq (.reg [⟨some 4, .mov (.c (.slice [] .nil)), none⟩,
    ⟨some 5, .mov (.c (.bool false)), none⟩,
    ⟨some 6, .mov (.c (.int .i64 1)), none⟩])
  (.ret))
  (.skip)))
 (.seq (.reg [⟨some 21, .load true 2 (.t 2), none⟩,
   ⟨some 22, .mov (.t 1), none⟩,
   ⟨some 23, .call (.c (.fn 44 [] [])) [(.t 21), (.t 22)], none⟩,
   ⟨some 8, .mov (.t 23), none⟩])
 (.seq (.seq (.reg [⟨some 9, .mov (.c (.int .i64 0)), none⟩])
 (.block 0 (.loop (.seq (.seq (.reg [⟨some 24, .mov (.t 9), none⟩,
    ⟨some 25, .mov (.t 8), none⟩,
    ⟨some 26, .len (.t 25), none⟩,
    ⟨some 27, .bin .lss false (.t 24) (.t 26), none⟩])
  (.cond (.t 27)
   (.skip)
   (.exit 0)))
  (.seq (.block 1 (.seq (.seq (.reg [⟨some 30, .mov (.t 8), none⟩,
    ⟨some 31, .mov (.t 9), none⟩,
    ⟨some 32, .idxS 1 (.t 30) (.t 31), none⟩,
    ⟨some 33, .load false 1 (.t 32), none⟩,
    ⟨some 34, .un .not (.t 33), none⟩])
  (.cond (.t 34)
   (.exit 1)
   (.skip)))
  (.seq (.reg [⟨some 10, .mov (.c (.slice [] .nil)), none⟩])
  (.seq (.seq (.reg [⟨some 11, .mov (.c (.int .i64 0)), none⟩])
  (.block 2 (.loop (.seq (.seq (.reg [⟨some 35, .mov (.t 11), none⟩,
     ⟨some 36, .fldA 0 (.t 2), none⟩,
     ⟨some 37, .load false 1 (.t 36), none⟩,
     ⟨some 38, .bin .lss false (.t 35) (.t 37), none⟩])
   (.cond (.t 38)
    (.skip)
    (.exit 2)))
   (.seq (.block 3 (.reg [⟨some 41, .mov (.t 10), none⟩,
     ⟨some 42, .mov (.t 9), none⟩,
     ⟨some 43, .fldA 0 (.t 2), none⟩,
     ⟨some 44, .load false 1 (.t 43), none⟩,
     ⟨some 45, .bin .sub false (.t 44) (.c (.int .i64 1)), none⟩,
     ⟨some 46, .mov (.t 11), none⟩,
     ⟨some 47, .bin .sub false (.t 45) (.t 46), none⟩,
     ⟨some 48, .conv .u64 (.t 47), none⟩,
     ⟨some 49, .bin .shr false (.t 42) (.t 48), none⟩,
     ⟨some 50, .bin .rem false (.t 49) (.c (.int .i64 2)), none⟩,
     ⟨some 51, .bin .eql false (.t 50) (.c (.int .i64 1)), none⟩,
     ⟨some 52, .bslice 1 [(.t 51)], none⟩,
     ⟨some 53, .append 1 1 (.t 41) (.t 52), none⟩,
     ⟨some 10, .mov (.t 53), none⟩]))
   (.reg [⟨some 39, .mov (.t 11), none⟩,
     ⟨some 40, .bin .add false (.t 39) (.c (.int .i64 1)), none⟩,
     ⟨some 11, .mov (.t 40), none⟩]))))))
  (.seq (.reg [⟨some 54, .mov (.t 10), none⟩,
    ⟨some 4, .mov (.t 54), none⟩,
    ⟨some 5, .mov (.c (.bool true)), none⟩,
    ⟨some 6, .mov (.c (.int .i64 0)), none⟩])
  (.ret))))))
  (.reg [⟨some 28, .mov (.t 9), none⟩,
    ⟨some 29, .bin .add false (.t 28) (.c (.int .i64 1)), none⟩,
    ⟨some 9, .mov (.t 29), none⟩]))))))
 (.seq (.reg [⟨some 4, .mov (.c (.slice [] .nil)), none⟩,
   ⟨some 5, .mov (.c (.bool false)), none⟩,
   ⟨some 6, .mov (.c (.int .i64 0)), none⟩])
 (.ret)))))))
def r35 : List ARV := [.tmp 4, .tmp 5, .tmp 6]
theorem b35 : Try.f35.body.bind (tr Try.prog 55) = some c35.bare := by kernel_rfl
theorem q35 : trRes Try.prog Try.f35.results.toList = some r35 := by kernel_rfl
theorem n35 : (Try.f35.name == "runtime.NumGoroutine") = false := by kernel_rfl

/-- filigree/filigreeref22.Few [b:0, most:1, b:2, most:3] -/
def c36 : ACode :=
 .seq (.reg [⟨some 2, .boxI (.t 0), none⟩,
   ⟨some 4, .mov (.c (.bool false)), none⟩])
 (.seq (.reg [⟨some 5, .fldA 0 (.t 2), none⟩,
   ⟨some 6, .load false 1 (.t 5), none⟩,
   ⟨some 7, .mov (.t 1), none⟩,
   ⟨some 8, .bin .leq false (.t 6) (.t 7), none⟩,
   ⟨some 9, .mov (.t 8), none⟩,
   ⟨some 10, .fldA 1 (.t 2), some (9, true)⟩,
   ⟨some 11, .load false 1 (.t 10), some (9, true)⟩,
   ⟨some 12, .len (.t 11), some (9, true)⟩,
   ⟨some 13, .bin .leq false (.t 12) (.c (.int .i64 300)), some (9, true)⟩,
   ⟨some 14, .pick (.t 9) (.t 13) (.c (.bool false)), none⟩,
   ⟨some 15, .mov (.t 14), none⟩,
   ⟨some 16, .fldA 0 (.t 2), some (15, false)⟩,
   ⟨some 17, .load false 1 (.t 16), some (15, false)⟩,
   ⟨some 18, .bin .lss false (.t 17) (.c (.int .i64 0)), some (15, false)⟩,
   ⟨some 19, .pick (.t 15) (.c (.bool true)) (.t 18), none⟩,
   ⟨some 20, .mov (.t 19), none⟩,
   ⟨some 21, .fldA 0 (.t 2), some (20, false)⟩,
   ⟨some 22, .load false 1 (.t 21), some (20, false)⟩,
   ⟨some 23, .bin .gtr false (.t 22) (.c (.int .i64 32)), some (20, false)⟩,
   ⟨some 24, .mov (.t 23), some (20, false)⟩,
   ⟨some 25, .fldA 1 (.t 2), some (24, true)⟩,
   ⟨some 26, .load false 1 (.t 25), some (24, true)⟩,
   ⟨some 27, .len (.t 26), some (24, true)⟩,
   ⟨some 28, .bin .leq false (.t 27) (.c (.int .i64 300)), some (24, true)⟩,
   ⟨some 29, .pick (.t 24) (.t 28) (.c (.bool false)), some (20, false)⟩,
   ⟨some 30, .pick (.t 20) (.c (.bool true)) (.t 29), none⟩,
   ⟨some 31, .mov (.t 30), none⟩,
   ⟨some 32, .fldA 1 (.t 2), some (31, false)⟩,
   ⟨some 33, .load false 1 (.t 32), some (31, false)⟩,
   ⟨some 34, .len (.t 33), some (31, false)⟩,
   ⟨some 35, .bin .gtr false (.t 34) (.c (.int .i64 65536)), some (31, false)⟩,
   ⟨some 36, .pick (.t 31) (.c (.bool true)) (.t 35), none⟩,
   ⟨some 4, .mov (.t 36), none⟩])
 (.ret))
def r36 : List ARV := [.tmp 4]
theorem b36 : Try.f36.body.bind (tr Try.prog 37) = some c36.bare := by kernel_rfl
theorem q36 : trRes Try.prog Try.f36.results.toList = some r36 := by kernel_rfl
theorem n36 : (Try.f36.name == "runtime.NumGoroutine") = false := by kernel_rfl

/-- filigree/bdd.begin [b:0, b:1, m:4, end:5, i:6, f:7, _:8, twice:9] -/
def c37 : ACode :=
 .seq (.reg [⟨some 1, .boxI (.t 0), none⟩,
   ⟨some 2, .mov (.c .nilp), none⟩,
   ⟨some 3, .mov (.c (.int .i64 0)), none⟩])
 (.seq (.seq (.reg [⟨some 10, .fldA 1 (.t 1), none⟩,
   ⟨some 11, .load false 1 (.t 10), none⟩,
   ⟨some 12, .len (.t 11), none⟩,
   ⟨some 13, .bin .gtr false (.t 12) (.c (.int .i64 65536)), none⟩])
 (.cond (.t 13)
  (.seq (.reg [⟨some 2, .mov (.c .nilp), none⟩,
    ⟨some 3, .mov (.c (.int .i64 220)), none⟩])
  (.ret))
  (.skip)))
 (.seq (.reg [⟨some 14, .load true 2 (.t 1), none⟩,
   ⟨some 15, .ext .mkmap, none⟩,
   ⟨some 16, .ext .mkmap, none⟩,
   ⟨some 17, .build [(.int .i64 0), (.slice [] .nil), .nilmap, .nilmap] [(0, 2, (.t 14)), (2, 1, (.t 15)), (3, 1, (.t 16))], none⟩,
   ⟨some 18, .box (.t 17), none⟩,
   ⟨some 4, .mov (.t 18), none⟩])
 (.seq (.reg [⟨some 19, .build [(.int .i64 0), (.int .i64 0), (.int .i64 0)] [(0, 1, (.c (.int .i64 (-1))))], none⟩,
   ⟨some 5, .alloc [(.int .i64 0), (.int .i64 0), (.int .i64 0)], none⟩,
   ⟨none, .store 3 (.t 5) (.t 19), none⟩])
 (.seq (.seq (.drw [⟨some 20, .fldA 0 (.t 1), none⟩,
   ⟨some 21, .load false 1 (.t 20), none⟩,
   ⟨some 22, .bin .lss false (.t 21) (.c (.int .i64 0)), none⟩,
   ⟨some 23, .mov (.t 22), none⟩,
   ⟨some 24, .fldA 0 (.t 1), some (23, false)⟩,
   ⟨some 25, .load false 1 (.t 24), some (23, false)⟩,
   ⟨some 26, .bin .gtr false (.t 25) (.c (.int .i64 32)), some (23, false)⟩,
   ⟨some 27, .pick (.t 23) (.c (.bool true)) (.t 26), none⟩,
   ⟨some 28, .mov (.t 27), none⟩,
   ⟨some 29, .fldA 1 (.t 1), some (28, false)⟩,
   ⟨some 30, .load false 1 (.t 29), some (28, false)⟩,
   ⟨some 31, .len (.t 30), some (28, false)⟩,
   ⟨some 32, .bin .lss false (.t 31) (.c (.int .i64 2)), some (28, false)⟩,
   ⟨some 33, .pick (.t 28) (.c (.bool true)) (.t 32), none⟩,
   ⟨some 34, .mov (.t 33), none⟩,
   ⟨some 35, .fldA 1 (.t 1), some (34, false)⟩,
   ⟨some 36, .load false 1 (.t 35), some (34, false)⟩,
   ⟨some 37, .idxS 3 (.t 36) (.c (.int .i64 0)), some (34, false)⟩,
   ⟨some 38, .load true 3 (.t 37), some (34, false)⟩,
   ⟨some 39, .load true 3 (.t 5), some (34, false)⟩,
   ⟨some 40, .eqs true [0, 0, 0] (.t 38) (.t 39), some (34, false)⟩,
   ⟨some 41, .pick (.t 34) (.c (.bool true)) (.t 40), none⟩,
   ⟨some 42, .mov (.t 41), none⟩,
   ⟨some 43, .fldA 1 (.t 1), some (42, false)⟩,
   ⟨some 44, .load false 1 (.t 43), some (42, false)⟩,
   ⟨some 45, .idxS 3 (.t 44) (.c (.int .i64 1)), some (42, false)⟩,
   ⟨some 46, .load true 3 (.t 45), some (42, false)⟩,
   ⟨some 47, .load true 3 (.t 5), some (42, false)⟩,
   ⟨some 48, .eqs true [0, 0, 0] (.t 46) (.t 47), some (42, false)⟩,
   ⟨some 49, .pick (.t 42) (.c (.bool true)) (.t 48), none⟩] [])
 (.cond (.t 49)
  (.seq (.reg [⟨some 2, .mov (.c .nilp), none⟩,
    ⟨some 3, .mov (.c (.int .i64 1)), none⟩])
  (.ret))
  (.skip)))
 (.seq (.seq (.reg [⟨some 50, .fldA 1 (.t 1), none⟩,
   ⟨some 51, .load false 1 (.t 50), none⟩,
   ⟨some 52, .slc 3 (.t 51) (some (.c (.int .i64 2))) none none, none⟩,
   ⟨some 53, .len (.t 52), none⟩,
   ⟨some 54, .mov (.c (.int .i64 0)), none⟩])
 (.block 0 (.loop (.seq (.reg [⟨some 55, .bin .lss false (.t 54) (.t 53), none⟩])
  (.seq (.cond (.t 55)
   (.skip)
   (.exit 0))
  (.seq (.block 1 (.seq (.reg [⟨some 56, .mov (.t 54), none⟩,
    ⟨some 57, .idxS 3 (.t 52) (.t 54), none⟩,
    ⟨some 58, .load true 3 (.t 57), none⟩,
    ⟨some 7, .alloc [(.int .i64 0), (.int .i64 0), (.int .i64 0)], none⟩,
    ⟨some 6, .mov (.t 56), none⟩,
    ⟨none, .store 3 (.t 7) (.t 58), none⟩])
  (.seq (.reg [⟨some 59, .mov (.t 6), none⟩,
    ⟨some 60, .bin .add false (.t 59) (.c (.int .i64 2)), none⟩,
    ⟨some 6, .mov (.t 60), none⟩])
  (.seq (.drw [⟨some 62, .mov (.t 4), none⟩,
    ⟨some 63, .nilchk (.t 62), none⟩,
    ⟨some 64, .fldA 2 (.t 63), none⟩,
    ⟨some 65, .load false 1 (.t 64), none⟩,
    ⟨some 66, .load true 3 (.t 7), none⟩,
    ⟨some 67, .ext (.look (.row [0, 0, 0]) (.int .i64 0) true (.t 65) (.t 66)), none⟩,
    ⟨some 61, .mov (.t 67), none⟩,
    ⟨some 68, .extract (.t 61) 0, none⟩,
    ⟨some 69, .extract (.t 61) 1, none⟩,
    ⟨some 8, .mov (.t 68), none⟩,
    ⟨some 9, .mov (.t 69), none⟩] [])
  (.seq (.seq (.reg [⟨some 70, .mov (.t 9), none⟩,
    ⟨some 71, .mov (.t 70), none⟩,
    ⟨some 72, .fldA 0 (.t 7), some (71, false)⟩,
    ⟨some 73, .load false 1 (.t 72), some (71, false)⟩,
    ⟨some 74, .bin .lss false (.t 73) (.c (.int .i64 0)), some (71, false)⟩,
    ⟨some 75, .pick (.t 71) (.c (.bool true)) (.t 74), none⟩,
    ⟨some 76, .mov (.t 75), none⟩,
    ⟨some 77, .fldA 0 (.t 7), some (76, false)⟩,
    ⟨some 78, .load false 1 (.t 77), some (76, false)⟩,
    ⟨some 79, .fldA 0 (.t 1), some (76, false)⟩,
    ⟨some 80, .load false 1 (.t 79), some (76, false)⟩,
    ⟨some 81, .bin .geq false (.t 78) (.t 80), some (76, false)⟩,
    ⟨some 82, .pick (.t 76) (.c (.bool true)) (.t 81), none⟩,
    ⟨some 83, .mov (.t 82), none⟩,
    ⟨some 84, .fldA 1 (.t 7), some (83, false)⟩,
    ⟨some 85, .load false 1 (.t 84), some (83, false)⟩,
    ⟨some 86, .fldA 2 (.t 7), some (83, false)⟩,
    ⟨some 87, .load false 1 (.t 86), some (83, false)⟩,
    ⟨some 88, .bin .eql false (.t 85) (.t 87), some (83, false)⟩,
    ⟨some 89, .pick (.t 83) (.c (.bool true)) (.t 88), none⟩,
    ⟨some 90, .mov (.t 89), none⟩,
    ⟨some 91, .mov (.t 4), some (90, false)⟩,
    ⟨some 92, .fldA 1 (.t 7), some (90, false)⟩,
    ⟨some 93, .load false 1 (.t 92), some (90, false)⟩,
    ⟨some 94, .fldA 0 (.t 7), some (90, false)⟩,
    ⟨some 95, .load false 1 (.t 94), some (90, false)⟩,
    ⟨some 96, .mov (.t 6), some (90, false)⟩,
    ⟨some 97, .call (.c (.fn 53 [] [])) [(.t 91), (.t 93), (.t 95), (.t 96)], some (90, false)⟩,
    ⟨some 98, .un .not (.t 97), some (90, false)⟩,
    ⟨some 99, .pick (.t 90) (.c (.bool true)) (.t 98), none⟩,
    ⟨some 100, .mov (.t 99), none⟩,
    ⟨some 101, .mov (.t 4), some (100, false)⟩,
    ⟨some 102, .fldA 2 (.t 7), some (100, false)⟩,
    ⟨some 103, .load false 1 (.t 102), some (100, false)⟩,
    ⟨some 104, .fldA 0 (.t 7), some (100, false)⟩,
    ⟨some 105, .load false 1 (.t 104), some (100, false)⟩,
    ⟨some 106, .mov (.t 6), some (100, false)⟩,
    ⟨some 107, .call (.c (.fn 53 [] [])) [(.t 101), (.t 103), (.t 105), (.t 106)], some (100, false)⟩,
    ⟨some 108, .un .not (.t 107), some (100, false)⟩,
    ⟨some 109, .pick (.t 100) (.c (.bool true)) (.t 108), none⟩])
  (.cond (.t 109)
   (.seq (.reg [⟨some 2, .mov (.c .nilp), none⟩,
     ⟨some 3, .mov (.c (.int .i64 1)), none⟩])
   (.ret))
   (.skip)))
  (.drw [⟨some 110, .mov (.t 4), none⟩,
    ⟨some 111, .nilchk (.t 110), none⟩,
    ⟨some 112, .fldA 2 (.t 111), none⟩,
    ⟨some 113, .load false 1 (.t 112), none⟩,
    ⟨some 114, .load true 3 (.t 7), none⟩,
    ⟨some 115, .mov (.t 6), none⟩,
    ⟨none, .ext (.mset (.row [0, 0, 0]) (.t 113) (.t 114) (.t 115)), none⟩] []))))))
  (.reg [⟨some 116, .bin .add false (.t 54) (.c (.int .i64 1)), none⟩,
    ⟨some 54, .mov (.t 116), none⟩])))))))
 (.seq (.reg [⟨some 117, .mov (.t 4), none⟩,
   ⟨some 118, .fldA 1 (.t 1), none⟩,
   ⟨some 119, .load false 1 (.t 118), none⟩,
   ⟨some 120, .call (.c (.fn 54 [] [])) [(.t 119)], none⟩,
   ⟨some 121, .nilchk (.t 117), none⟩,
   ⟨some 122, .fldA 0 (.t 121), none⟩,
   ⟨some 123, .fldA 1 (.t 122), none⟩,
   ⟨none, .store 1 (.t 123) (.t 120), none⟩])
 (.seq (.reg [⟨some 124, .mov (.t 4), none⟩,
   ⟨some 2, .mov (.t 124), none⟩,
   ⟨some 3, .mov (.c (.int .i64 0)), none⟩])
 (.ret))))))))
def r37 : List ARV := [.tmp 2, .tmp 3]
theorem b37 : Try.f37.body.bind (tr Try.prog 125) = some c37.bare := by kernel_rfl
theorem q37 : trRes Try.prog Try.f37.results.toList = some r37 := by kernel_rfl
theorem n37 : (Try.f37.name == "runtime.NumGoroutine") = false := by kernel_rfl

/-- filigree/filigreeref22.fork [b:0, i:1, b:2, i:3, f:5, k:6] -/
def c38 : ACode :=
 .seq (.reg [⟨some 2, .boxI (.t 0), none⟩,
   ⟨some 4, .mov (.c (.bool false)), none⟩])
 (.seq (.reg [⟨some 7, .fldA 1 (.t 2), none⟩,
   ⟨some 8, .load false 1 (.t 7), none⟩,
   ⟨some 9, .mov (.t 1), none⟩,
   ⟨some 10, .idxS 3 (.t 8) (.t 9), none⟩,
   ⟨some 11, .load true 3 (.t 10), none⟩,
   ⟨some 5, .alloc [(.int .i64 0), (.int .i64 0), (.int .i64 0)], none⟩,
   ⟨none, .store 3 (.t 5) (.t 11), none⟩])
 (.seq (.seq (.reg [⟨some 12, .fldA 0 (.t 5), none⟩,
   ⟨some 13, .load false 1 (.t 12), none⟩,
   ⟨some 14, .bin .lss false (.t 13) (.c (.int .i64 0)), none⟩,
   ⟨some 15, .mov (.t 14), none⟩,
   ⟨some 16, .fldA 0 (.t 5), some (15, false)⟩,
   ⟨some 17, .load false 1 (.t 16), some (15, false)⟩,
   ⟨some 18, .fldA 0 (.t 2), some (15, false)⟩,
   ⟨some 19, .load false 1 (.t 18), some (15, false)⟩,
   ⟨some 20, .bin .geq false (.t 17) (.t 19), some (15, false)⟩,
   ⟨some 21, .pick (.t 15) (.c (.bool true)) (.t 20), none⟩,
   ⟨some 22, .mov (.t 21), none⟩,
   ⟨some 23, .fldA 1 (.t 5), some (22, false)⟩,
   ⟨some 24, .load false 1 (.t 23), some (22, false)⟩,
   ⟨some 25, .fldA 2 (.t 5), some (22, false)⟩,
   ⟨some 26, .load false 1 (.t 25), some (22, false)⟩,
   ⟨some 27, .bin .eql false (.t 24) (.t 26), some (22, false)⟩,
   ⟨some 28, .pick (.t 22) (.c (.bool true)) (.t 27), none⟩,
   ⟨some 29, .mov (.t 28), none⟩,
   ⟨some 30, .load true 2 (.t 2), some (29, false)⟩,
   ⟨some 31, .fldA 1 (.t 5), some (29, false)⟩,
   ⟨some 32, .load false 1 (.t 31), some (29, false)⟩,
   ⟨some 33, .fldA 0 (.t 5), some (29, false)⟩,
   ⟨some 34, .load false 1 (.t 33), some (29, false)⟩,
   ⟨some 35, .mov (.t 1), some (29, false)⟩,
   ⟨some 36, .call (.c (.fn 55 [] [])) [(.t 30), (.t 32), (.t 34), (.t 35)], some (29, false)⟩,
   ⟨some 37, .un .not (.t 36), some (29, false)⟩,
   ⟨some 38, .pick (.t 29) (.c (.bool true)) (.t 37), none⟩,
   ⟨some 39, .mov (.t 38), none⟩,
   ⟨some 40, .load true 2 (.t 2), some (39, false)⟩,
   ⟨some 41, .fldA 2 (.t 5), some (39, false)⟩,
   ⟨some 42, .load false 1 (.t 41), some (39, false)⟩,
   ⟨some 43, .fldA 0 (.t 5), some (39, false)⟩,
   ⟨some 44, .load false 1 (.t 43), some (39, false)⟩,
   ⟨some 45, .mov (.t 1), some (39, false)⟩,
   ⟨some 46, .call (.c (.fn 55 [] [])) [(.t 40), (.t 42), (.t 44), (.t 45)], some (39, false)⟩,
   ⟨some 47, .un .not (.t 46), some (39, false)⟩,
   ⟨some 48, .pick (.t 39) (.c (.bool true)) (.t 47), none⟩])
 (.cond (.t 48)
  (.seq (.reg [⟨some 4, .mov (.c (.bool false)), none⟩])
  (.ret))
  (.skip)))
 (.seq (.seq (.reg [⟨some 6, .mov (.c (.int .i64 2)), none⟩])
 (.block 0 (.loop (.seq (.seq (.reg [⟨some 49, .mov (.t 6), none⟩,
    ⟨some 50, .mov (.t 1), none⟩,
    ⟨some 51, .bin .lss false (.t 49) (.t 50), none⟩])
  (.cond (.t 51)
   (.skip)
   (.exit 0)))
  (.seq (.block 1 (.seq (.drw [⟨some 54, .fldA 1 (.t 2), none⟩,
    ⟨some 55, .load false 1 (.t 54), none⟩,
    ⟨some 56, .mov (.t 6), none⟩,
    ⟨some 57, .idxS 3 (.t 55) (.t 56), none⟩,
    ⟨some 58, .load true 3 (.t 57), none⟩,
    ⟨some 59, .load true 3 (.t 5), none⟩,
    ⟨some 60, .eqs false [0, 0, 0] (.t 58) (.t 59), none⟩] [])
  (.cond (.t 60)
   (.seq (.reg [⟨some 4, .mov (.c (.bool false)), none⟩])
   (.ret))
   (.skip))))
  (.reg [⟨some 52, .mov (.t 6), none⟩,
    ⟨some 53, .bin .add false (.t 52) (.c (.int .i64 1)), none⟩,
    ⟨some 6, .mov (.t 53), none⟩]))))))
 (.seq (.reg [⟨some 4, .mov (.c (.bool true)), none⟩])
 (.ret)))))
def r38 : List ARV := [.tmp 4]
theorem b38 : Try.f38.body.bind (tr Try.prog 61) = some c38.bare := by kernel_rfl
theorem q38 : trRes Try.prog Try.f38.results.toList = some r38 := by kernel_rfl
theorem n38 : (Try.f38.name == "runtime.NumGoroutine") = false := by kernel_rfl

/-- filigree/bdd.asked [b:0, nodes:1, b:2, nodes:3, m:6, e:7] -/
def c39 : ACode :=
 .seq (.reg [⟨some 2, .box (.t 0), none⟩,
   ⟨some 4, .mov (.c .nilp), none⟩,
   ⟨some 5, .mov (.c (.int .i64 0)), none⟩])
 (.seq (.reg [⟨some 9, .load true 2 (.t 2), none⟩,
   ⟨some 10, .call (.c (.fn 37 [] [])) [(.t 9)], none⟩,
   ⟨some 8, .mov (.t 10), none⟩,
   ⟨some 11, .extract (.t 8) 0, none⟩,
   ⟨some 12, .extract (.t 8) 1, none⟩,
   ⟨some 6, .mov (.t 11), none⟩,
   ⟨some 7, .mov (.t 12), none⟩])
 (.seq (.seq (.reg [⟨some 13, .mov (.t 7), none⟩,
   ⟨some 14, .bin .neq false (.t 13) (.c (.int .i64 0)), none⟩])
 (.cond (.t 14)
  (.seq (.reg [⟨some 15, .mov (.t 7), none⟩,
    ⟨some 4, .mov (.c .nilp), none⟩,
    ⟨some 5, .mov (.t 15), none⟩])
  (.ret))
  (.skip)))
 (.seq (.seq (.reg [⟨some 16, .mov (.t 1), none⟩,
   ⟨some 17, .mkfn 57 [] [(.t 2)], none⟩,
   ⟨some 18, .call (.c (.fn 56 [] [])) [(.t 16), (.t 17)], none⟩])
 (.cond (.t 18)
  (.seq (.reg [⟨some 4, .mov (.c .nilp), none⟩,
    ⟨some 5, .mov (.c (.int .i64 1)), none⟩])
  (.ret))
  (.skip)))
 (.seq (.reg [⟨some 19, .mov (.t 6), none⟩,
   ⟨some 4, .mov (.t 19), none⟩,
   ⟨some 5, .mov (.c (.int .i64 0)), none⟩])
 (.ret)))))
def r39 : List ARV := [.tmp 4, .tmp 5]
theorem b39 : Try.f39.body.bind (tr Try.prog 20) = some c39.bare := by kernel_rfl
theorem q39 : trRes Try.prog Try.f39.results.toList = some r39 := by kernel_rfl
theorem n39 : (Try.f39.name == "runtime.NumGoroutine") = false := by kernel_rfl

/-- filigree/bdd.put [m:0, e:1, make:2, m:3, e:4, make:5, b:6, n:7, f:8] -/
def ca40 : ACode :=
 .reg [⟨some 6, .alloc [(.int .i64 0), (.slice [] .nil)], none⟩,
   ⟨some 7, .alloc [(.int .i64 0)], none⟩,
   ⟨some 8, .alloc [(.int .i64 0)], none⟩]
def cb40 : ACode :=
 .seq (.reg [⟨some 9, .mov (.t 1), none⟩,
   ⟨some 10, .bin .neq false (.t 9) (.c (.int .i64 0)), none⟩])
 (.cond (.t 10)
  (.seq (.reg [⟨some 11, .build [(.int .i64 0), (.slice [] .nil)] [], none⟩,
    ⟨some 12, .mov (.t 1), none⟩,
    ⟨none, .store 2 (.t 6) (.t 11), none⟩,
    ⟨none, .store 1 (.t 7) (.c (.int .i64 0)), none⟩,
    ⟨none, .store 1 (.t 8) (.t 12), none⟩])
  (.ret))
  (.skip))
def ci40 : AInst := ⟨some 13, .mkfn 58 [] [(.t 6), (.t 7), (.t 8)], none⟩
def ce40 : ACode :=
 .seq (.reg [⟨some 14, .mov (.t 2), none⟩,
   ⟨some 15, .call (.t 14) [], none⟩,
   ⟨none, .store 1 (.t 7) (.t 15), none⟩])
 (.seq (.drw [⟨some 16, .mov (.t 0), none⟩,
   ⟨some 17, .nilchk (.t 16), none⟩,
   ⟨some 18, .fldA 0 (.t 17), none⟩,
   ⟨some 19, .load true 2 (.t 18), none⟩,
   ⟨some 20, .load false 1 (.t 7), none⟩,
   ⟨none, .store 2 (.t 6) (.t 19), none⟩,
   ⟨none, .store 1 (.t 7) (.t 20), none⟩,
   ⟨none, .store 1 (.t 8) (.c (.int .i64 0)), none⟩] [(4, 5)])
 (.ret))
def r40 : List ARV := [.cell 6 true 2, .cell 7 false 1, .cell 8 false 1]
theorem b40 : Try.f40.body.bind (dfrOf Try.prog 21) = some (ca40.bare, cb40.bare, ci40.bare, 13, ce40.bare) := by kernel_rfl
theorem q40 : trRes Try.prog Try.f40.results.toList = some r40 := by kernel_rfl
theorem n40 : (Try.f40.name == "runtime.NumGoroutine") = false := by kernel_rfl

/-- filigree/bdd.Ite$1 [] -/
def c41 : ACode :=
 .seq (.reg [⟨some 4, .mov (.c (.int .i64 0)), none⟩])
 (.seq (.reg [⟨some 5, .load false 1 (.t 0), none⟩,
   ⟨some 6, .load false 1 (.t 1), none⟩,
   ⟨some 7, .load false 1 (.t 2), none⟩,
   ⟨some 8, .load false 1 (.t 3), none⟩,
   ⟨some 9, .call (.c (.fn 42 [] [])) [(.t 5), (.t 6), (.t 7), (.t 8)], none⟩,
   ⟨some 4, .mov (.t 9), none⟩])
 (.ret))
def r41 : List ARV := [.tmp 4]
theorem b41 : Try.f41.body.bind (tr Try.prog 10) = some c41.bare := by kernel_rfl
theorem q41 : trRes Try.prog Try.f41.results.toList = some r41 := by kernel_rfl
theorem n41 : (Try.f41.name == "runtime.NumGoroutine") = false := by kernel_rfl

/-- (*filigree/bdd.machine).ite [m:0, f:1, g:2, h:3, m:4, f:5, g:6, h:7, key:9, n:10, ok:11, v:12, part:13, way:14, n:15] -/
def c42 : ACode :=
 .seq (.reg [⟨some 8, .mov (.c (.int .i64 0)), none⟩])
 (.seq (.block 0 (.seq (.reg [⟨some 17, .mov (.t 1), none⟩,
   ⟨some 18, .bin .eql false (.t 17) (.c (.int .i64 1)), none⟩,
   ⟨some 19, .mov (.t 18), none⟩,
   ⟨some 20, .mov (.t 2), some (19, false)⟩,
   ⟨some 21, .mov (.t 3), some (19, false)⟩,
   ⟨some 22, .bin .eql false (.t 20) (.t 21), some (19, false)⟩,
   ⟨some 23, .pick (.t 19) (.c (.bool true)) (.t 22), none⟩,
   ⟨some 16, .mov (.t 23), none⟩])
 (.cond (.t 16)
  (.seq (.reg [⟨some 24, .mov (.t 2), none⟩,
    ⟨some 8, .mov (.t 24), none⟩])
  (.ret))
  (.seq (.reg [⟨some 26, .mov (.t 1), none⟩,
    ⟨some 27, .bin .eql false (.t 26) (.c (.int .i64 0)), none⟩,
    ⟨some 25, .mov (.t 27), none⟩])
  (.cond (.t 25)
   (.seq (.reg [⟨some 28, .mov (.t 3), none⟩,
     ⟨some 8, .mov (.t 28), none⟩])
   (.ret))
   (.seq (.reg [⟨some 30, .mov (.t 2), none⟩,
     ⟨some 31, .bin .eql false (.t 30) (.c (.int .i64 1)), none⟩,
     ⟨some 32, .mov (.t 31), none⟩,
     ⟨some 33, .mov (.t 3), some (32, true)⟩,
     ⟨some 34, .bin .eql false (.t 33) (.c (.int .i64 0)), some (32, true)⟩,
     ⟨some 35, .pick (.t 32) (.t 34) (.c (.bool false)), none⟩,
     ⟨some 29, .mov (.t 35), none⟩])
   (.cond (.t 29)
    (.seq (.reg [⟨some 36, .mov (.t 1), none⟩,
      ⟨some 8, .mov (.t 36), none⟩])
    (.ret))
    (.skip))))))))
 (.seq (.reg [⟨some 37, .mov (.t 1), none⟩,
   ⟨some 38, .mov (.t 2), none⟩,
   ⟨some 39, .mov (.t 3), none⟩,
   ⟨some 40, .build [(.int .i64 0), (.int .i64 0), (.int .i64 0)] [(0, 1, (.t 37)), (1, 1, (.t 38)), (2, 1, (.t 39))], none⟩,
   ⟨some 9, .alloc [(.int .i64 0), (.int .i64 0), (.int .i64 0)], none⟩,
   ⟨none, .store 3 (.t 9) (.t 40), none⟩])
 (.seq (.seq (.drw [⟨some 42, .mov (.t 0), none⟩,
   ⟨some 43, .nilchk (.t 42), none⟩,
   ⟨some 44, .fldA 3 (.t 43), none⟩,
   ⟨some 45, .load false 1 (.t 44), none⟩,
   ⟨some 46, .load true 3 (.t 9), none⟩,
   ⟨some 47, .ext (.look (.row [0, 0, 0]) (.int .i64 0) true (.t 45) (.t 46)), none⟩,
   ⟨some 41, .mov (.t 47), none⟩,
   ⟨some 48, .extract (.t 41) 0, none⟩,
   ⟨some 49, .extract (.t 41) 1, none⟩,
   ⟨some 10, .mov (.t 48), none⟩,
   ⟨some 11, .mov (.t 49), none⟩] [])
 (.seq (.reg [⟨some 50, .mov (.t 11), none⟩])
 (.cond (.t 50)
  (.seq (.reg [⟨some 51, .mov (.t 10), none⟩,
    ⟨some 8, .mov (.t 51), none⟩])
  (.ret))
  (.skip))))
 (.seq (.reg [⟨some 52, .mov (.t 0), none⟩,
   ⟨some 53, .mov (.t 1), none⟩,
   ⟨some 54, .call (.c (.fn 52 [] [])) [(.t 52), (.t 53)], none⟩,
   ⟨some 55, .mov (.t 0), none⟩,
   ⟨some 56, .mov (.t 2), none⟩,
   ⟨some 57, .call (.c (.fn 52 [] [])) [(.t 55), (.t 56)], none⟩,
   ⟨some 58, .mov (.t 0), none⟩,
   ⟨some 59, .mov (.t 3), none⟩,
   ⟨some 60, .call (.c (.fn 52 [] [])) [(.t 58), (.t 59)], none⟩,
   ⟨some 61, .min [(.t 54), (.t 57), (.t 60)], none⟩,
   ⟨some 12, .mov (.t 61), none⟩])
 (.seq (.reg [⟨some 13, .alloc [(.int .i64 0), (.int .i64 0)], none⟩])
 (.seq (.seq (.reg [⟨some 62, .mov (.c (.int .i64 0)), none⟩])
 (.block 1 (.loop (.seq (.reg [⟨some 63, .bin .lss false (.t 62) (.c (.int .i64 2)), none⟩])
  (.seq (.cond (.t 63)
   (.skip)
   (.exit 1))
  (.seq (.block 2 (.seq (.reg [⟨some 64, .mov (.t 62), none⟩,
    ⟨some 14, .mov (.t 64), none⟩])
  (.reg [⟨some 65, .mov (.t 14), none⟩,
    ⟨some 66, .mov (.t 0), none⟩,
    ⟨some 67, .mov (.t 0), none⟩,
    ⟨some 68, .mov (.t 1), none⟩,
    ⟨some 69, .mov (.t 12), none⟩,
    ⟨some 70, .mov (.t 14), none⟩,
    ⟨some 71, .call (.c (.fn 59 [] [])) [(.t 67), (.t 68), (.t 69), (.t 70)], none⟩,
    ⟨some 72, .mov (.t 0), none⟩,
    ⟨some 73, .mov (.t 2), none⟩,
    ⟨some 74, .mov (.t 12), none⟩,
    ⟨some 75, .mov (.t 14), none⟩,
    ⟨some 76, .call (.c (.fn 59 [] [])) [(.t 72), (.t 73), (.t 74), (.t 75)], none⟩,
    ⟨some 77, .mov (.t 0), none⟩,
    ⟨some 78, .mov (.t 3), none⟩,
    ⟨some 79, .mov (.t 12), none⟩,
    ⟨some 80, .mov (.t 14), none⟩,
    ⟨some 81, .call (.c (.fn 59 [] [])) [(.t 77), (.t 78), (.t 79), (.t 80)], none⟩,
    ⟨some 82, .call (.c (.fn 42 [] [])) [(.t 66), (.t 71), (.t 76), (.t 81)], none⟩,
    ⟨some 83, .idxR 1 2 (.t 13) (.t 65), none⟩,
    ⟨none, .store 1 (.t 83) (.t 82), none⟩])))
  (.reg [⟨some 84, .bin .add false (.t 62) (.c (.int .i64 1)), none⟩,
    ⟨some 62, .mov (.t 84), none⟩])))))))
 (.seq (.reg [⟨some 85, .mov (.t 0), none⟩,
   ⟨some 86, .mov (.t 12), none⟩,
   ⟨some 87, .idxR 1 2 (.t 13) (.c (.int .i64 0)), none⟩,
   ⟨some 88, .load false 1 (.t 87), none⟩,
   ⟨some 89, .idxR 1 2 (.t 13) (.c (.int .i64 1)), none⟩,
   ⟨some 90, .load false 1 (.t 89), none⟩,
   ⟨some 91, .call (.c (.fn 50 [] [])) [(.t 85), (.t 86), (.t 88), (.t 90)], none⟩,
   ⟨some 15, .mov (.t 91), none⟩])
 (.seq (.drw [⟨some 92, .mov (.t 0), none⟩,
   ⟨some 93, .nilchk (.t 92), none⟩,
   ⟨some 94, .fldA 3 (.t 93), none⟩,
   ⟨some 95, .load false 1 (.t 94), none⟩,
   ⟨some 96, .load true 3 (.t 9), none⟩,
   ⟨some 97, .mov (.t 15), none⟩,
   ⟨none, .ext (.mset (.row [0, 0, 0]) (.t 95) (.t 96) (.t 97)), none⟩] [])
 (.seq (.reg [⟨some 98, .mov (.t 15), none⟩,
   ⟨some 8, .mov (.t 98), none⟩])
 (.ret))))))))))
def r42 : List ARV := [.tmp 8]
theorem b42 : Try.f42.body.bind (tr Try.prog 99) = some c42.bare := by kernel_rfl
theorem q42 : trRes Try.prog Try.f42.results.toList = some r42 := by kernel_rfl
theorem n42 : (Try.f42.name == "runtime.NumGoroutine") = false := by kernel_rfl

/-- filigree/filigreeref22.node [b:0, f:1, b:2, f:3] -/
def c43 : ACode :=
 .seq (.reg [⟨some 2, .boxI (.t 0), none⟩,
   ⟨some 4, .mov (.c (.bool false)), none⟩])
 (.seq (.reg [⟨some 5, .mov (.t 1), none⟩,
   ⟨some 6, .bin .geq false (.t 5) (.c (.int .i64 0)), none⟩,
   ⟨some 7, .mov (.t 6), none⟩,
   ⟨some 8, .mov (.t 1), some (7, true)⟩,
   ⟨some 9, .fldA 1 (.t 2), some (7, true)⟩,
   ⟨some 10, .load false 1 (.t 9), some (7, true)⟩,
   ⟨some 11, .len (.t 10), some (7, true)⟩,
   ⟨some 12, .bin .lss false (.t 8) (.t 11), some (7, true)⟩,
   ⟨some 13, .pick (.t 7) (.t 12) (.c (.bool false)), none⟩,
   ⟨some 4, .mov (.t 13), none⟩])
 (.ret))
def r43 : List ARV := [.tmp 4]
theorem b43 : Try.f43.body.bind (tr Try.prog 14) = some c43.bare := by kernel_rfl
theorem q43 : trRes Try.prog Try.f43.results.toList = some r43 := by kernel_rfl
theorem n43 : (Try.f43.name == "runtime.NumGoroutine") = false := by kernel_rfl

/-- filigree/filigreeref22.table [b:0, f:1, b:2, f:3, out:5, i:6] -/
def c44 : ACode :=
 .seq (.reg [⟨some 2, .boxI (.t 0), none⟩,
   ⟨some 4, .mov (.c (.slice [] .nil)), none⟩])
 (.seq (.reg [⟨some 5, .mov (.c (.slice [] .nil)), none⟩])
 (.seq (.seq (.reg [⟨some 6, .mov (.c (.int .i64 0)), none⟩])
 (.block 0 (.loop (.seq (.seq (.reg [⟨some 7, .mov (.t 6), none⟩,
    ⟨some 8, .fldA 0 (.t 2), none⟩,
    ⟨some 9, .load false 1 (.t 8), none⟩,
    ⟨some 10, .conv .u64 (.t 9), none⟩,
    ⟨some 11, .bin .shl false (.c (.int .i64 1)) (.t 10), none⟩,
    ⟨some 12, .bin .lss false (.t 7) (.t 11), none⟩])
  (.cond (.t 12)
   (.skip)
   (.exit 0)))
  (.seq (.block 1 (.reg [⟨some 15, .mov (.t 5), none⟩,
    ⟨some 16, .load true 2 (.t 2), none⟩,
    ⟨some 17, .mov (.t 1), none⟩,
    ⟨some 18, .mov (.t 6), none⟩,
    ⟨some 19, .call (.c (.fn 51 [] [])) [(.t 16), (.t 17), (.t 18)], none⟩,
    ⟨some 20, .bslice 1 [(.t 19)], none⟩,
    ⟨some 21, .append 1 1 (.t 15) (.t 20), none⟩,
    ⟨some 5, .mov (.t 21), none⟩]))
  (.reg [⟨some 13, .mov (.t 6), none⟩,
    ⟨some 14, .bin .add false (.t 13) (.c (.int .i64 1)), none⟩,
    ⟨some 6, .mov (.t 14), none⟩]))))))
 (.seq (.reg [⟨some 22, .mov (.t 5), none⟩,
   ⟨some 4, .mov (.t 22), none⟩])
 (.ret))))
def r44 : List ARV := [.tmp 4]
theorem b44 : Try.f44.body.bind (tr Try.prog 23) = some c44.bare := by kernel_rfl
theorem q44 : trRes Try.prog Try.f44.results.toList = some r44 := by kernel_rfl
theorem n44 : (Try.f44.name == "runtime.NumGoroutine") = false := by kernel_rfl

/-- filigree/filigreeref22.told [b:0, t:1, b:2, t:3, c:7, f:8] -/
def c45 : ACode :=
 .seq (.reg [⟨some 2, .boxI (.t 0), none⟩,
   ⟨some 4, .alloc [(.int .i64 0), (.slice [] .nil)], none⟩,
   ⟨some 5, .mov (.c (.int .i64 0)), none⟩,
   ⟨some 6, .mov (.c (.int .i64 0)), none⟩])
 (.seq (.reg [⟨some 10, .load true 2 (.t 2), none⟩,
   ⟨some 11, .mov (.t 1), none⟩,
   ⟨some 12, .call (.c (.fn 60 [] [])) [(.t 10), (.t 11), (.c (.int .i64 0))], none⟩,
   ⟨some 9, .mov (.t 12), none⟩,
   ⟨some 13, .extract (.t 9) 0, none⟩,
   ⟨some 14, .extract (.t 9) 1, none⟩,
   ⟨some 7, .alloc [(.int .i64 0), (.slice [] .nil)], none⟩,
   ⟨none, .store 2 (.t 7) (.t 13), none⟩,
   ⟨some 8, .mov (.t 14), none⟩])
 (.seq (.reg [⟨some 15, .load true 2 (.t 7), none⟩,
   ⟨some 16, .mov (.t 8), none⟩,
   ⟨none, .store 2 (.t 4) (.t 15), none⟩,
   ⟨some 5, .mov (.t 16), none⟩,
   ⟨some 6, .mov (.c (.int .i64 0)), none⟩])
 (.ret)))
def r45 : List ARV := [.cell 4 true 2, .tmp 5, .tmp 6]
theorem b45 : Try.f45.body.bind (tr Try.prog 17) = some c45.bare := by kernel_rfl
theorem q45 : trRes Try.prog Try.f45.results.toList = some r45 := by kernel_rfl
theorem n45 : (Try.f45.name == "runtime.NumGoroutine") = false := by kernel_rfl

/-- filigree/bdd.Some$1 [side:5, _:6] -/
def c46 : ACode :=
 .seq (.reg [⟨some 4, .mov (.c (.int .i64 0)), none⟩])
 (.seq (.reg [⟨some 8, .load true 2 (.t 0), none⟩,
   ⟨some 9, .call (.c (.fn 37 [] [])) [(.t 8)], none⟩,
   ⟨some 7, .mov (.t 9), none⟩,
   ⟨some 10, .extract (.t 7) 0, none⟩,
   ⟨some 11, .extract (.t 7) 1, none⟩,
   ⟨some 5, .mov (.t 10), none⟩,
   ⟨some 6, .mov (.t 11), none⟩])
 (.seq (.drw [⟨some 12, .load false 1 (.t 1), none⟩,
   ⟨some 13, .mov (.t 5), none⟩,
   ⟨some 14, .mov (.t 5), none⟩,
   ⟨some 15, .load false 1 (.t 2), none⟩,
   ⟨some 16, .load false 1 (.t 3), none⟩,
   ⟨some 17, .call (.c (.fn 48 [] [])) [(.t 14), (.t 15), (.t 16)], none⟩,
   ⟨some 18, .ext .mkmap, none⟩,
   ⟨some 19, .call (.c (.fn 47 [] [])) [(.t 12), (.t 13), (.t 17), (.t 18)], none⟩,
   ⟨some 4, .mov (.t 19), none⟩] [(0, 5), (0, 6), (3, 6), (4, 6)])
 (.ret)))
def r46 : List ARV := [.tmp 4]
theorem b46 : Try.f46.body.bind (tr Try.prog 20) = some c46.bare := by kernel_rfl
theorem q46 : trRes Try.prog Try.f46.results.toList = some r46 := by kernel_rfl
theorem n46 : (Try.f46.name == "runtime.NumGoroutine") = false := by kernel_rfl

/-- (*filigree/bdd.machine).copied [m:0, from:1, n:2, seen:3, m:4, from:5, n:6, seen:7, at:9, ok:10, f:11, lo:12] -/
def c47 : ACode :=
 .seq (.reg [⟨some 8, .mov (.c (.int .i64 0)), none⟩])
 (.seq (.seq (.reg [⟨some 13, .mov (.t 2), none⟩,
   ⟨some 14, .bin .lss false (.t 13) (.c (.int .i64 2)), none⟩])
 (.cond (.t 14)
  (.seq (.reg [⟨some 15, .mov (.t 2), none⟩,
    ⟨some 8, .mov (.t 15), none⟩])
  (.ret))
  (.skip)))
 (.seq (.seq (.reg [⟨some 17, .mov (.t 3), none⟩,
   ⟨some 18, .mov (.t 2), none⟩,
   ⟨some 19, .ext (.look (.one 0) (.int .i64 0) true (.t 17) (.t 18)), none⟩,
   ⟨some 16, .mov (.t 19), none⟩,
   ⟨some 20, .extract (.t 16) 0, none⟩,
   ⟨some 21, .extract (.t 16) 1, none⟩,
   ⟨some 9, .mov (.t 20), none⟩,
   ⟨some 10, .mov (.t 21), none⟩])
 (.seq (.reg [⟨some 22, .mov (.t 10), none⟩])
 (.cond (.t 22)
  (.seq (.reg [⟨some 23, .mov (.t 9), none⟩,
    ⟨some 8, .mov (.t 23), none⟩])
  (.ret))
  (.skip))))
 (.seq (.reg [⟨some 24, .mov (.t 1), none⟩,
   ⟨some 25, .nilchk (.t 24), none⟩,
   ⟨some 26, .fldA 0 (.t 25), none⟩,
   ⟨some 27, .fldA 1 (.t 26), none⟩,
   ⟨some 28, .load false 1 (.t 27), none⟩,
   ⟨some 29, .mov (.t 2), none⟩,
   ⟨some 30, .idxS 3 (.t 28) (.t 29), none⟩,
   ⟨some 31, .load true 3 (.t 30), none⟩,
   ⟨some 11, .alloc [(.int .i64 0), (.int .i64 0), (.int .i64 0)], none⟩,
   ⟨none, .store 3 (.t 11) (.t 31), none⟩])
 (.seq (.reg [⟨some 32, .mov (.t 0), none⟩,
   ⟨some 33, .mov (.t 1), none⟩,
   ⟨some 34, .fldA 1 (.t 11), none⟩,
   ⟨some 35, .load false 1 (.t 34), none⟩,
   ⟨some 36, .mov (.t 3), none⟩,
   ⟨some 37, .call (.c (.fn 47 [] [])) [(.t 32), (.t 33), (.t 35), (.t 36)], none⟩,
   ⟨some 12, .mov (.t 37), none⟩])
 (.seq (.drw [⟨some 38, .mov (.t 3), none⟩,
   ⟨some 39, .mov (.t 2), none⟩,
   ⟨some 40, .mov (.t 0), none⟩,
   ⟨some 41, .fldA 0 (.t 11), none⟩,
   ⟨some 42, .load false 1 (.t 41), none⟩,
   ⟨some 43, .mov (.t 12), none⟩,
   ⟨some 44, .mov (.t 0), none⟩,
   ⟨some 45, .mov (.t 1), none⟩,
   ⟨some 46, .fldA 2 (.t 11), none⟩,
   ⟨some 47, .load false 1 (.t 46), none⟩,
   ⟨some 48, .mov (.t 3), none⟩,
   ⟨some 49, .call (.c (.fn 47 [] [])) [(.t 44), (.t 45), (.t 47), (.t 48)], none⟩,
   ⟨some 50, .call (.c (.fn 50 [] [])) [(.t 40), (.t 42), (.t 43), (.t 49)], none⟩,
   ⟨none, .ext (.mset (.one 0) (.t 38) (.t 39) (.t 50)), none⟩] [(4, 11)])
 (.seq (.reg [⟨some 51, .mov (.t 3), none⟩,
   ⟨some 52, .mov (.t 2), none⟩,
   ⟨some 53, .ext (.look (.one 0) (.int .i64 0) false (.t 51) (.t 52)), none⟩,
   ⟨some 8, .mov (.t 53), none⟩])
 (.ret)))))))
def r47 : List ARV := [.tmp 8]
theorem b47 : Try.f47.body.bind (tr Try.prog 54) = some c47.bare := by kernel_rfl
theorem q47 : trRes Try.prog Try.f47.results.toList = some r47 := by kernel_rfl
theorem n47 : (Try.f47.name == "runtime.NumGoroutine") = false := by kernel_rfl

/-- (*filigree/bdd.machine).some [m:0, f:1, v:2, m:3, f:4, v:5, key:7, n:8, ok:9, lo:10, hi:11, n:12] -/
def c48 : ACode :=
 .seq (.reg [⟨some 6, .mov (.c (.int .i64 0)), none⟩])
 (.seq (.seq (.reg [⟨some 13, .mov (.t 0), none⟩,
   ⟨some 14, .mov (.t 1), none⟩,
   ⟨some 15, .call (.c (.fn 52 [] [])) [(.t 13), (.t 14)], none⟩,
   ⟨some 16, .mov (.t 2), none⟩,
   ⟨some 17, .bin .gtr false (.t 15) (.t 16), none⟩])
 (.cond (.t 17)
  (.seq (.reg [⟨some 18, .mov (.t 1), none⟩,
    ⟨some 6, .mov (.t 18), none⟩])
  (.ret))
  (.skip)))
 (.seq (.seq (.reg [⟨some 19, .mov (.t 0), none⟩,
   ⟨some 20, .mov (.t 1), none⟩,
   ⟨some 21, .call (.c (.fn 52 [] [])) [(.t 19), (.t 20)], none⟩,
   ⟨some 22, .mov (.t 2), none⟩,
   ⟨some 23, .bin .eql false (.t 21) (.t 22), none⟩])
 (.cond (.t 23)
  (.seq (.drw [⟨some 24, .mov (.t 0), none⟩,
    ⟨some 25, .mov (.t 0), none⟩,
    ⟨some 26, .nilchk (.t 25), none⟩,
    ⟨some 27, .fldA 0 (.t 26), none⟩,
    ⟨some 28, .fldA 1 (.t 27), none⟩,
    ⟨some 29, .load false 1 (.t 28), none⟩,
    ⟨some 30, .mov (.t 1), none⟩,
    ⟨some 31, .idxS 3 (.t 29) (.t 30), none⟩,
    ⟨some 32, .fldA 1 (.t 31), none⟩,
    ⟨some 33, .load false 1 (.t 32), none⟩,
    ⟨some 34, .mov (.t 0), none⟩,
    ⟨some 35, .nilchk (.t 34), none⟩,
    ⟨some 36, .fldA 0 (.t 35), none⟩,
    ⟨some 37, .fldA 1 (.t 36), none⟩,
    ⟨some 38, .load false 1 (.t 37), none⟩,
    ⟨some 39, .mov (.t 1), none⟩,
    ⟨some 40, .idxS 3 (.t 38) (.t 39), none⟩,
    ⟨some 41, .fldA 2 (.t 40), none⟩,
    ⟨some 42, .load false 1 (.t 41), none⟩,
    ⟨some 43, .call (.c (.fn 42 [] [])) [(.t 24), (.t 33), (.c (.int .i64 1)), (.t 42)], none⟩,
    ⟨some 6, .mov (.t 43), none⟩] [])
  (.ret))
  (.skip)))
 (.seq (.reg [⟨some 44, .mov (.t 1), none⟩,
   ⟨some 45, .mov (.t 2), none⟩,
   ⟨some 46, .build [(.int .i64 0), (.int .i64 0), (.int .i64 0)] [(0, 1, (.t 44)), (1, 1, (.t 45)), (2, 1, (.c (.int .i64 (-1))))], none⟩,
   ⟨some 7, .alloc [(.int .i64 0), (.int .i64 0), (.int .i64 0)], none⟩,
   ⟨none, .store 3 (.t 7) (.t 46), none⟩])
 (.seq (.seq (.drw [⟨some 48, .mov (.t 0), none⟩,
   ⟨some 49, .nilchk (.t 48), none⟩,
   ⟨some 50, .fldA 3 (.t 49), none⟩,
   ⟨some 51, .load false 1 (.t 50), none⟩,
   ⟨some 52, .load true 3 (.t 7), none⟩,
   ⟨some 53, .ext (.look (.row [0, 0, 0]) (.int .i64 0) true (.t 51) (.t 52)), none⟩,
   ⟨some 47, .mov (.t 53), none⟩,
   ⟨some 54, .extract (.t 47) 0, none⟩,
   ⟨some 55, .extract (.t 47) 1, none⟩,
   ⟨some 8, .mov (.t 54), none⟩,
   ⟨some 9, .mov (.t 55), none⟩] [])
 (.seq (.reg [⟨some 56, .mov (.t 9), none⟩])
 (.cond (.t 56)
  (.seq (.reg [⟨some 57, .mov (.t 8), none⟩,
    ⟨some 6, .mov (.t 57), none⟩])
  (.ret))
  (.skip))))
 (.seq (.reg [⟨some 58, .mov (.t 0), none⟩,
   ⟨some 59, .mov (.t 0), none⟩,
   ⟨some 60, .nilchk (.t 59), none⟩,
   ⟨some 61, .fldA 0 (.t 60), none⟩,
   ⟨some 62, .fldA 1 (.t 61), none⟩,
   ⟨some 63, .load false 1 (.t 62), none⟩,
   ⟨some 64, .mov (.t 1), none⟩,
   ⟨some 65, .idxS 3 (.t 63) (.t 64), none⟩,
   ⟨some 66, .fldA 1 (.t 65), none⟩,
   ⟨some 67, .load false 1 (.t 66), none⟩,
   ⟨some 68, .mov (.t 2), none⟩,
   ⟨some 69, .call (.c (.fn 48 [] [])) [(.t 58), (.t 67), (.t 68)], none⟩,
   ⟨some 10, .mov (.t 69), none⟩])
 (.seq (.reg [⟨some 70, .mov (.t 0), none⟩,
   ⟨some 71, .mov (.t 0), none⟩,
   ⟨some 72, .nilchk (.t 71), none⟩,
   ⟨some 73, .fldA 0 (.t 72), none⟩,
   ⟨some 74, .fldA 1 (.t 73), none⟩,
   ⟨some 75, .load false 1 (.t 74), none⟩,
   ⟨some 76, .mov (.t 1), none⟩,
   ⟨some 77, .idxS 3 (.t 75) (.t 76), none⟩,
   ⟨some 78, .fldA 2 (.t 77), none⟩,
   ⟨some 79, .load false 1 (.t 78), none⟩,
   ⟨some 80, .mov (.t 2), none⟩,
   ⟨some 81, .call (.c (.fn 48 [] [])) [(.t 70), (.t 79), (.t 80)], none⟩,
   ⟨some 11, .mov (.t 81), none⟩])
 (.seq (.reg [⟨some 82, .mov (.t 0), none⟩,
   ⟨some 83, .mov (.t 0), none⟩,
   ⟨some 84, .nilchk (.t 83), none⟩,
   ⟨some 85, .fldA 0 (.t 84), none⟩,
   ⟨some 86, .fldA 1 (.t 85), none⟩,
   ⟨some 87, .load false 1 (.t 86), none⟩,
   ⟨some 88, .mov (.t 1), none⟩,
   ⟨some 89, .idxS 3 (.t 87) (.t 88), none⟩,
   ⟨some 90, .fldA 0 (.t 89), none⟩,
   ⟨some 91, .load false 1 (.t 90), none⟩,
   ⟨some 92, .mov (.t 10), none⟩,
   ⟨some 93, .mov (.t 11), none⟩,
   ⟨some 94, .call (.c (.fn 50 [] [])) [(.t 82), (.t 91), (.t 92), (.t 93)], none⟩,
   ⟨some 12, .mov (.t 94), none⟩])
 (.seq (.drw [⟨some 95, .mov (.t 0), none⟩,
   ⟨some 96, .nilchk (.t 95), none⟩,
   ⟨some 97, .fldA 3 (.t 96), none⟩,
   ⟨some 98, .load false 1 (.t 97), none⟩,
   ⟨some 99, .load true 3 (.t 7), none⟩,
   ⟨some 100, .mov (.t 12), none⟩,
   ⟨none, .ext (.mset (.row [0, 0, 0]) (.t 98) (.t 99) (.t 100)), none⟩] [])
 (.seq (.reg [⟨some 101, .mov (.t 12), none⟩,
   ⟨some 6, .mov (.t 101), none⟩])
 (.ret))))))))))
def r48 : List ARV := [.tmp 6]
theorem b48 : Try.f48.body.bind (tr Try.prog 102) = some c48.bare := by kernel_rfl
theorem q48 : trRes Try.prog Try.f48.results.toList = some r48 := by kernel_rfl
theorem n48 : (Try.f48.name == "runtime.NumGoroutine") = false := by kernel_rfl

/-- filigree/bdd.Var$1 [] -/
def c49 : ACode :=
 .seq (.reg [⟨some 2, .mov (.c (.int .i64 0)), none⟩])
 (.seq (.reg [⟨some 3, .load false 1 (.t 0), none⟩,
   ⟨some 4, .load false 1 (.t 1), none⟩,
   ⟨some 5, .call (.c (.fn 50 [] [])) [(.t 3), (.t 4), (.c (.int .i64 0)), (.c (.int .i64 1))], none⟩,
   ⟨some 2, .mov (.t 5), none⟩])
 (.ret))
def r49 : List ARV := [.tmp 2]
theorem b49 : Try.f49.body.bind (tr Try.prog 6) = some c49.bare := by kernel_rfl
theorem q49 : trRes Try.prog Try.f49.results.toList = some r49 := by kernel_rfl
theorem n49 : (Try.f49.name == "runtime.NumGoroutine") = false := by kernel_rfl

/-- (*filigree/bdd.machine).fork [m:0, v:1, lo:2, hi:3, m:4, v:5, lo:6, hi:7, f:9, n:10, ok:11] -/
def c50 : ACode :=
 .seq (.reg [⟨some 8, .mov (.c (.int .i64 0)), none⟩])
 (.seq (.seq (.reg [⟨some 12, .mov (.t 2), none⟩,
   ⟨some 13, .mov (.t 3), none⟩,
   ⟨some 14, .bin .eql false (.t 12) (.t 13), none⟩])
 (.cond (.t 14)
  (.seq (.reg [⟨some 15, .mov (.t 2), none⟩,
    ⟨some 8, .mov (.t 15), none⟩])
  (.ret))
  (.skip)))
 (.seq (.reg [⟨some 16, .mov (.t 1), none⟩,
   ⟨some 17, .mov (.t 2), none⟩,
   ⟨some 18, .mov (.t 3), none⟩,
   ⟨some 19, .build [(.int .i64 0), (.int .i64 0), (.int .i64 0)] [(0, 1, (.t 16)), (1, 1, (.t 17)), (2, 1, (.t 18))], none⟩,
   ⟨some 9, .alloc [(.int .i64 0), (.int .i64 0), (.int .i64 0)], none⟩,
   ⟨none, .store 3 (.t 9) (.t 19), none⟩])
 (.seq (.seq (.drw [⟨some 21, .mov (.t 0), none⟩,
   ⟨some 22, .nilchk (.t 21), none⟩,
   ⟨some 23, .fldA 2 (.t 22), none⟩,
   ⟨some 24, .load false 1 (.t 23), none⟩,
   ⟨some 25, .load true 3 (.t 9), none⟩,
   ⟨some 26, .ext (.look (.row [0, 0, 0]) (.int .i64 0) true (.t 24) (.t 25)), none⟩,
   ⟨some 20, .mov (.t 26), none⟩,
   ⟨some 27, .extract (.t 20) 0, none⟩,
   ⟨some 28, .extract (.t 20) 1, none⟩,
   ⟨some 10, .mov (.t 27), none⟩,
   ⟨some 11, .mov (.t 28), none⟩] [])
 (.seq (.reg [⟨some 29, .mov (.t 11), none⟩])
 (.cond (.t 29)
  (.seq (.reg [⟨some 30, .mov (.t 10), none⟩,
    ⟨some 8, .mov (.t 30), none⟩])
  (.ret))
  (.skip))))
 (.seq (.seq (.reg [⟨some 31, .mov (.t 0), none⟩,
   ⟨some 32, .nilchk (.t 31), none⟩,
   ⟨some 33, .fldA 0 (.t 32), none⟩,
   ⟨some 34, .fldA 1 (.t 33), none⟩,
   ⟨some 35, .load false 1 (.t 34), none⟩,
   ⟨some 36, .len (.t 35), none⟩,
   ⟨some 37, .bin .geq false (.t 36) (.c (.int .i64 65536)), none⟩])
 (.cond (.t 37)
  (.reg [⟨some 38, .mkiface 27 (.c (.int .i64 220)), none⟩,
    ⟨none, .panic (.t 38), none⟩])
  (.skip)))
 (.seq (.drw [⟨some 39, .mov (.t 0), none⟩,
   ⟨some 40, .mov (.t 0), none⟩,
   ⟨some 41, .nilchk (.t 40), none⟩,
   ⟨some 42, .fldA 0 (.t 41), none⟩,
   ⟨some 43, .fldA 1 (.t 42), none⟩,
   ⟨some 44, .load false 1 (.t 43), none⟩,
   ⟨some 45, .load true 3 (.t 9), none⟩,
   ⟨some 46, .bslice 3 [(.t 45)], none⟩,
   ⟨some 47, .append 3 24 (.t 44) (.t 46), none⟩,
   ⟨some 48, .nilchk (.t 39), none⟩,
   ⟨some 49, .fldA 0 (.t 48), none⟩,
   ⟨some 50, .fldA 1 (.t 49), none⟩,
   ⟨none, .store 1 (.t 50) (.t 47), none⟩] [])
 (.seq (.drw [⟨some 51, .mov (.t 0), none⟩,
   ⟨some 52, .nilchk (.t 51), none⟩,
   ⟨some 53, .fldA 2 (.t 52), none⟩,
   ⟨some 54, .load false 1 (.t 53), none⟩,
   ⟨some 55, .load true 3 (.t 9), none⟩,
   ⟨some 56, .mov (.t 0), none⟩,
   ⟨some 57, .nilchk (.t 56), none⟩,
   ⟨some 58, .fldA 0 (.t 57), none⟩,
   ⟨some 59, .fldA 1 (.t 58), none⟩,
   ⟨some 60, .load false 1 (.t 59), none⟩,
   ⟨some 61, .len (.t 60), none⟩,
   ⟨some 62, .bin .sub false (.t 61) (.c (.int .i64 1)), none⟩,
   ⟨none, .ext (.mset (.row [0, 0, 0]) (.t 54) (.t 55) (.t 62)), none⟩] [])
 (.seq (.reg [⟨some 63, .mov (.t 0), none⟩,
   ⟨some 64, .nilchk (.t 63), none⟩,
   ⟨some 65, .fldA 0 (.t 64), none⟩,
   ⟨some 66, .fldA 1 (.t 65), none⟩,
   ⟨some 67, .load false 1 (.t 66), none⟩,
   ⟨some 68, .len (.t 67), none⟩,
   ⟨some 69, .bin .sub false (.t 68) (.c (.int .i64 1)), none⟩,
   ⟨some 8, .mov (.t 69), none⟩])
 (.ret))))))))
def r50 : List ARV := [.tmp 8]
theorem b50 : Try.f50.body.bind (tr Try.prog 70) = some c50.bare := by kernel_rfl
theorem q50 : trRes Try.prog Try.f50.results.toList = some r50 := by kernel_rfl
theorem n50 : (Try.f50.name == "runtime.NumGoroutine") = false := by kernel_rfl

/-- filigree/filigreeref22.is [b:0, f:1, in:2, b:3, f:4, in:5, v:7] -/
def c51 : ACode :=
 .seq (.reg [⟨some 3, .boxI (.t 0), none⟩,
   ⟨some 6, .mov (.c (.bool false)), none⟩])
 (.seq (.block 0 (.loop (.seq (.seq (.reg [⟨some 8, .mov (.t 1), none⟩,
    ⟨some 9, .bin .gtr false (.t 8) (.c (.int .i64 1)), none⟩])
  (.cond (.t 9)
   (.skip)
   (.exit 0)))
  (.block 1 (.seq (.reg [⟨some 10, .fldA 1 (.t 3), none⟩,
    ⟨some 11, .load false 1 (.t 10), none⟩,
    ⟨some 12, .mov (.t 1), none⟩,
    ⟨some 13, .idxS 3 (.t 11) (.t 12), none⟩,
    ⟨some 14, .load true 3 (.t 13), none⟩,
    ⟨some 7, .alloc [(.int .i64 0), (.int .i64 0), (.int .i64 0)], none⟩,
    ⟨none, .store 3 (.t 7) (.t 14), none⟩])
  (.seq (.reg [⟨some 15, .mov (.t 2), none⟩,
    ⟨some 16, .fldA 0 (.t 3), none⟩,
    ⟨some 17, .load false 1 (.t 16), none⟩,
    ⟨some 18, .bin .sub false (.t 17) (.c (.int .i64 1)), none⟩,
    ⟨some 19, .fldA 0 (.t 7), none⟩,
    ⟨some 20, .load false 1 (.t 19), none⟩,
    ⟨some 21, .bin .sub false (.t 18) (.t 20), none⟩,
    ⟨some 22, .conv .u64 (.t 21), none⟩,
    ⟨some 23, .bin .shr false (.t 15) (.t 22), none⟩,
    ⟨some 24, .bin .rem false (.t 23) (.c (.int .i64 2)), none⟩,
    ⟨some 25, .bin .eql false (.t 24) (.c (.int .i64 1)), none⟩])
  (.cond (.t 25)
   (.reg [⟨some 26, .fldA 2 (.t 7), none⟩,
     ⟨some 27, .load false 1 (.t 26), none⟩,
     ⟨some 1, .mov (.t 27), none⟩])
   (.reg [⟨some 28, .fldA 1 (.t 7), none⟩,
     ⟨some 29, .load false 1 (.t 28), none⟩,
     ⟨some 1, .mov (.t 29), none⟩]))))))))
 (.seq (.reg [⟨some 30, .mov (.t 1), none⟩,
   ⟨some 31, .bin .eql false (.t 30) (.c (.int .i64 1)), none⟩,
   ⟨some 6, .mov (.t 31), none⟩])
 (.ret)))
def r51 : List ARV := [.tmp 6]
theorem b51 : Try.f51.body.bind (tr Try.prog 32) = some c51.bare := by kernel_rfl
theorem q51 : trRes Try.prog Try.f51.results.toList = some r51 := by kernel_rfl
theorem n51 : (Try.f51.name == "runtime.NumGoroutine") = false := by kernel_rfl

/-- (*filigree/bdd.machine).top [m:0, n:1, m:2, n:3] -/
def c52 : ACode :=
 .seq (.reg [⟨some 4, .mov (.c (.int .i64 0)), none⟩])
 (.seq (.seq (.reg [⟨some 5, .mov (.t 1), none⟩,
   ⟨some 6, .bin .lss false (.t 5) (.c (.int .i64 2)), none⟩])
 (.cond (.t 6)
  (.seq (.reg [⟨some 7, .mov (.t 0), none⟩,
    ⟨some 8, .nilchk (.t 7), none⟩,
    ⟨some 9, .fldA 0 (.t 8), none⟩,
    ⟨some 10, .fldA 0 (.t 9), none⟩,
    ⟨some 11, .load false 1 (.t 10), none⟩,
    ⟨some 4, .mov (.t 11), none⟩])
  (.ret))
  (.skip)))
 (.seq (.reg [⟨some 12, .mov (.t 0), none⟩,
   ⟨some 13, .nilchk (.t 12), none⟩,
   ⟨some 14, .fldA 0 (.t 13), none⟩,
   ⟨some 15, .fldA 1 (.t 14), none⟩,
   ⟨some 16, .load false 1 (.t 15), none⟩,
   ⟨some 17, .mov (.t 1), none⟩,
   ⟨some 18, .idxS 3 (.t 16) (.t 17), none⟩,
   ⟨some 19, .fldA 0 (.t 18), none⟩,
   ⟨some 20, .load false 1 (.t 19), none⟩,
   ⟨some 4, .mov (.t 20), none⟩])
 (.ret)))
def r52 : List ARV := [.tmp 4]
theorem b52 : Try.f52.body.bind (tr Try.prog 21) = some c52.bare := by kernel_rfl
theorem q52 : trRes Try.prog Try.f52.results.toList = some r52 := by kernel_rfl
theorem n52 : (Try.f52.name == "runtime.NumGoroutine") = false := by kernel_rfl

/-- (*filigree/bdd.machine).under [m:0, n:1, v:2, at:3, m:4, n:5, v:6, at:7] -/
def c53 : ACode :=
 .seq (.reg [⟨some 8, .mov (.c (.bool false)), none⟩])
 (.seq (.reg [⟨some 9, .mov (.t 1), none⟩,
   ⟨some 10, .bin .geq false (.t 9) (.c (.int .i64 0)), none⟩,
   ⟨some 11, .mov (.t 10), none⟩,
   ⟨some 12, .mov (.t 1), some (11, true)⟩,
   ⟨some 13, .mov (.t 3), some (11, true)⟩,
   ⟨some 14, .bin .lss false (.t 12) (.t 13), some (11, true)⟩,
   ⟨some 15, .pick (.t 11) (.t 14) (.c (.bool false)), none⟩,
   ⟨some 16, .mov (.t 15), none⟩,
   ⟨some 17, .mov (.t 1), some (16, true)⟩,
   ⟨some 18, .bin .lss false (.t 17) (.c (.int .i64 2)), some (16, true)⟩,
   ⟨some 19, .mov (.t 18), some (16, true)⟩,
   ⟨some 20, .mov (.t 0), some (19, false)⟩,
   ⟨some 21, .nilchk (.t 20), some (19, false)⟩,
   ⟨some 22, .fldA 0 (.t 21), some (19, false)⟩,
   ⟨some 23, .fldA 1 (.t 22), some (19, false)⟩,
   ⟨some 24, .load false 1 (.t 23), some (19, false)⟩,
   ⟨some 25, .mov (.t 1), some (19, false)⟩,
   ⟨some 26, .idxS 3 (.t 24) (.t 25), some (19, false)⟩,
   ⟨some 27, .fldA 0 (.t 26), some (19, false)⟩,
   ⟨some 28, .load false 1 (.t 27), some (19, false)⟩,
   ⟨some 29, .mov (.t 2), some (19, false)⟩,
   ⟨some 30, .bin .gtr false (.t 28) (.t 29), some (19, false)⟩,
   ⟨some 31, .pick (.t 19) (.c (.bool true)) (.t 30), some (16, true)⟩,
   ⟨some 32, .pick (.t 16) (.t 31) (.c (.bool false)), none⟩,
   ⟨some 8, .mov (.t 32), none⟩])
 (.ret))
def r53 : List ARV := [.tmp 8]
theorem b53 : Try.f53.body.bind (tr Try.prog 33) = some c53.bare := by kernel_rfl
theorem q53 : trRes Try.prog Try.f53.results.toList = some r53 := by kernel_rfl
theorem n53 : (Try.f53.name == "runtime.NumGoroutine") = false := by kernel_rfl

/-- slices.Clip[[]filigree/api.Fork,filigree/api.Fork] [s:0, s:1] -/
def c54 : ACode :=
 .seq (.reg [⟨some 2, .mov (.c (.slice [] .nil)), none⟩])
 (.seq (.reg [⟨some 3, .mov (.t 0), none⟩,
   ⟨some 4, .mov (.t 0), none⟩,
   ⟨some 5, .len (.t 4), none⟩,
   ⟨some 6, .mov (.t 0), none⟩,
   ⟨some 7, .len (.t 6), none⟩,
   ⟨some 8, .slc 3 (.t 3) none (some (.t 5)) (some (.t 7)), none⟩,
   ⟨some 2, .ext (.retok 3 (.t 8)), none⟩])
 (.ret))
def r54 : List ARV := [.tmp 2]
theorem b54 : Try.f54.body.bind (tr Try.prog 9) = some c54.bare := by kernel_rfl
theorem q54 : trRes Try.prog Try.f54.results.toList = some r54 := by kernel_rfl
theorem n54 : (Try.f54.name == "runtime.NumGoroutine") = false := by kernel_rfl

/-- filigree/filigreeref22.below [b:0, n:1, v:2, at:3, b:4, n:5, v:6, at:7] -/
def c55 : ACode :=
 .seq (.reg [⟨some 4, .boxI (.t 0), none⟩,
   ⟨some 8, .mov (.c (.bool false)), none⟩])
 (.seq (.reg [⟨some 9, .mov (.t 1), none⟩,
   ⟨some 10, .bin .geq false (.t 9) (.c (.int .i64 0)), none⟩,
   ⟨some 11, .mov (.t 10), none⟩,
   ⟨some 12, .mov (.t 1), some (11, true)⟩,
   ⟨some 13, .mov (.t 3), some (11, true)⟩,
   ⟨some 14, .bin .lss false (.t 12) (.t 13), some (11, true)⟩,
   ⟨some 15, .pick (.t 11) (.t 14) (.c (.bool false)), none⟩,
   ⟨some 16, .mov (.t 15), none⟩,
   ⟨some 17, .mov (.t 1), some (16, true)⟩,
   ⟨some 18, .bin .lss false (.t 17) (.c (.int .i64 2)), some (16, true)⟩,
   ⟨some 19, .mov (.t 18), some (16, true)⟩,
   ⟨some 20, .fldA 1 (.t 4), some (19, false)⟩,
   ⟨some 21, .load false 1 (.t 20), some (19, false)⟩,
   ⟨some 22, .mov (.t 1), some (19, false)⟩,
   ⟨some 23, .idxS 3 (.t 21) (.t 22), some (19, false)⟩,
   ⟨some 24, .fldA 0 (.t 23), some (19, false)⟩,
   ⟨some 25, .load false 1 (.t 24), some (19, false)⟩,
   ⟨some 26, .mov (.t 2), some (19, false)⟩,
   ⟨some 27, .bin .gtr false (.t 25) (.t 26), some (19, false)⟩,
   ⟨some 28, .pick (.t 19) (.c (.bool true)) (.t 27), some (16, true)⟩,
   ⟨some 29, .pick (.t 16) (.t 28) (.c (.bool false)), none⟩,
   ⟨some 8, .mov (.t 29), none⟩])
 (.ret))
def r55 : List ARV := [.tmp 8]
theorem b55 : Try.f55.body.bind (tr Try.prog 30) = some c55.bare := by kernel_rfl
theorem q55 : trRes Try.prog Try.f55.results.toList = some r55 := by kernel_rfl
theorem n55 : (Try.f55.name == "runtime.NumGoroutine") = false := by kernel_rfl

/-- slices.ContainsFunc[[]int,int] [s:0, f:1, s:2, f:3] -/
def c56 : ACode :=
 .seq (.reg [⟨some 4, .mov (.c (.bool false)), none⟩])
 (.seq (.reg [⟨some 5, .mov (.t 0), none⟩,
   ⟨some 6, .mov (.t 1), none⟩,
   ⟨some 7, .call (.c (.fn 61 [] [])) [(.t 5), (.t 6)], none⟩,
   ⟨some 8, .bin .geq false (.t 7) (.c (.int .i64 0)), none⟩,
   ⟨some 4, .mov (.t 8), none⟩])
 (.ret))
def r56 : List ARV := [.tmp 4]
theorem b56 : Try.f56.body.bind (tr Try.prog 9) = some c56.bare := by kernel_rfl
theorem q56 : trRes Try.prog Try.f56.results.toList = some r56 := by kernel_rfl
theorem n56 : (Try.f56.name == "runtime.NumGoroutine") = false := by kernel_rfl

/-- filigree/bdd.asked$1 [n:0, n:2] -/
def c57 : ACode :=
 .seq (.reg [⟨some 3, .mov (.c (.bool false)), none⟩])
 (.seq (.reg [⟨some 4, .mov (.t 0), none⟩,
   ⟨some 5, .bin .lss false (.t 4) (.c (.int .i64 0)), none⟩,
   ⟨some 6, .mov (.t 5), none⟩,
   ⟨some 7, .mov (.t 0), some (6, false)⟩,
   ⟨some 8, .fldA 1 (.t 1), some (6, false)⟩,
   ⟨some 9, .load false 1 (.t 8), some (6, false)⟩,
   ⟨some 10, .len (.t 9), some (6, false)⟩,
   ⟨some 11, .bin .geq false (.t 7) (.t 10), some (6, false)⟩,
   ⟨some 12, .pick (.t 6) (.c (.bool true)) (.t 11), none⟩,
   ⟨some 3, .mov (.t 12), none⟩])
 (.ret))
def r57 : List ARV := [.tmp 3]
theorem b57 : Try.f57.body.bind (tr Try.prog 13) = some c57.bare := by kernel_rfl
theorem q57 : trRes Try.prog Try.f57.results.toList = some r57 := by kernel_rfl
theorem n57 : (Try.f57.name == "runtime.NumGoroutine") = false := by kernel_rfl

/-- (*filigree/bdd.machine).half [m:0, n:1, v:2, way:3, m:4, n:5, v:6, way:7] -/
def c59 : ACode :=
 .seq (.reg [⟨some 8, .mov (.c (.int .i64 0)), none⟩])
 (.seq (.seq (.reg [⟨some 9, .mov (.t 0), none⟩,
   ⟨some 10, .mov (.t 1), none⟩,
   ⟨some 11, .call (.c (.fn 52 [] [])) [(.t 9), (.t 10)], none⟩,
   ⟨some 12, .mov (.t 2), none⟩,
   ⟨some 13, .bin .neq false (.t 11) (.t 12), none⟩])
 (.cond (.t 13)
  (.seq (.reg [⟨some 14, .mov (.t 1), none⟩,
    ⟨some 8, .mov (.t 14), none⟩])
  (.ret))
  (.skip)))
 (.seq (.drw [⟨some 15, .mov (.t 0), none⟩,
   ⟨some 16, .nilchk (.t 15), none⟩,
   ⟨some 17, .fldA 0 (.t 16), none⟩,
   ⟨some 18, .fldA 1 (.t 17), none⟩,
   ⟨some 19, .load false 1 (.t 18), none⟩,
   ⟨some 20, .mov (.t 1), none⟩,
   ⟨some 21, .idxS 3 (.t 19) (.t 20), none⟩,
   ⟨some 22, .fldA 1 (.t 21), none⟩,
   ⟨some 23, .load false 1 (.t 22), none⟩,
   ⟨some 24, .mov (.t 0), none⟩,
   ⟨some 25, .nilchk (.t 24), none⟩,
   ⟨some 26, .fldA 0 (.t 25), none⟩,
   ⟨some 27, .fldA 1 (.t 26), none⟩,
   ⟨some 28, .load false 1 (.t 27), none⟩,
   ⟨some 29, .mov (.t 1), none⟩,
   ⟨some 30, .idxS 3 (.t 28) (.t 29), none⟩,
   ⟨some 31, .fldA 2 (.t 30), none⟩,
   ⟨some 32, .load false 1 (.t 31), none⟩,
   ⟨some 33, .build [(.int .i64 0), (.int .i64 0)] [(0, 1, (.t 23)), (1, 1, (.t 32))], none⟩,
   ⟨some 34, .mov (.t 3), none⟩,
   ⟨some 35, .idxV false 1 2 (.t 33) (.t 34), none⟩,
   ⟨some 8, .mov (.t 35), none⟩] [])
 (.ret)))
def r59 : List ARV := [.tmp 8]
theorem b59 : Try.f59.body.bind (tr Try.prog 36) = some c59.bare := by kernel_rfl
theorem q59 : trRes Try.prog Try.f59.results.toList = some r59 := by kernel_rfl
theorem n59 : (Try.f59.name == "runtime.NumGoroutine") = false := by kernel_rfl

/-- filigree/filigreeref22.put [b:0, t:1, v:2, b:3, t:4, v:5, n:8, c:9, lo:10, d:11, hi:12, x:13, at:14] -/
def c60 : ACode :=
 .seq (.reg [⟨some 3, .boxI (.t 0), none⟩,
   ⟨some 6, .alloc [(.int .i64 0), (.slice [] .nil)], none⟩,
   ⟨some 7, .mov (.c (.int .i64 0)), none⟩])
 (.seq (.seq (.reg [⟨some 15, .mov (.t 1), none⟩,
   ⟨some 16, .len (.t 15), none⟩,
   ⟨some 17, .bin .eql false (.t 16) (.c (.int .i64 1)), none⟩])
 (.cond (.t 17)
  (.seq (.seq (.reg [⟨some 18, .mov (.t 1), none⟩,
    ⟨some 19, .idxS 1 (.t 18) (.c (.int .i64 0)), none⟩,
    ⟨some 20, .load false 1 (.t 19), none⟩])
  (.cond (.t 20)
   (.seq (.reg [⟨some 21, .load true 2 (.t 3), none⟩,
     ⟨none, .store 2 (.t 6) (.t 21), none⟩,
     ⟨some 7, .mov (.c (.int .i64 1)), none⟩])
   (.ret))
   (.skip)))
  (.seq (.reg [⟨some 22, .load true 2 (.t 3), none⟩,
    ⟨none, .store 2 (.t 6) (.t 22), none⟩,
    ⟨some 7, .mov (.c (.int .i64 0)), none⟩])
  (.ret)))
  (.skip)))
 (.seq (.reg [⟨some 23, .mov (.t 1), none⟩,
   ⟨some 24, .len (.t 23), none⟩,
   ⟨some 25, .bin .quo false (.t 24) (.c (.int .i64 2)), none⟩,
   ⟨some 8, .mov (.t 25), none⟩])
 (.seq (.seq (.drw [⟨some 26, .mov (.t 1), none⟩,
   ⟨some 27, .mov (.t 8), none⟩,
   ⟨some 28, .slc 1 (.t 26) none (some (.t 27)) none, none⟩,
   ⟨some 29, .mov (.t 1), none⟩,
   ⟨some 30, .mov (.t 8), none⟩,
   ⟨some 31, .slc 1 (.t 29) (some (.t 30)) none none, none⟩,
   ⟨some 32, .call (.c (.fn 62 [] [])) [(.t 28), (.t 31)], none⟩] [])
 (.cond (.t 32)
  (.seq (.drw [⟨some 33, .load true 2 (.t 3), none⟩,
    ⟨some 34, .mov (.t 1), none⟩,
    ⟨some 35, .mov (.t 8), none⟩,
    ⟨some 36, .slc 1 (.t 34) none (some (.t 35)) none, none⟩,
    ⟨some 37, .mov (.t 2), none⟩,
    ⟨some 38, .bin .add false (.t 37) (.c (.int .i64 1)), none⟩,
    ⟨some 39, .call (.c (.fn 60 [] [])) [(.t 33), (.t 36), (.t 38)], none⟩,
    ⟨some 40, .extract (.t 39) 0, none⟩,
    ⟨some 41, .extract (.t 39) 1, none⟩,
    ⟨none, .store 2 (.t 6) (.t 40), none⟩,
    ⟨some 7, .mov (.t 41), none⟩] [])
  (.ret))
  (.skip)))
 (.seq (.drw [⟨some 43, .load true 2 (.t 3), none⟩,
   ⟨some 44, .mov (.t 1), none⟩,
   ⟨some 45, .mov (.t 8), none⟩,
   ⟨some 46, .slc 1 (.t 44) none (some (.t 45)) none, none⟩,
   ⟨some 47, .mov (.t 2), none⟩,
   ⟨some 48, .bin .add false (.t 47) (.c (.int .i64 1)), none⟩,
   ⟨some 49, .call (.c (.fn 60 [] [])) [(.t 43), (.t 46), (.t 48)], none⟩,
   ⟨some 42, .mov (.t 49), none⟩,
   ⟨some 50, .extract (.t 42) 0, none⟩,
   ⟨some 51, .extract (.t 42) 1, none⟩,
   ⟨some 9, .alloc [(.int .i64 0), (.slice [] .nil)], none⟩,
   ⟨none, .store 2 (.t 9) (.t 50), none⟩,
   ⟨some 10, .mov (.t 51), none⟩] [(0, 10)])
 (.seq (.drw [⟨some 53, .load true 2 (.t 9), none⟩,
   ⟨some 54, .mov (.t 1), none⟩,
   ⟨some 55, .mov (.t 8), none⟩,
   ⟨some 56, .slc 1 (.t 54) (some (.t 55)) none none, none⟩,
   ⟨some 57, .mov (.t 2), none⟩,
   ⟨some 58, .bin .add false (.t 57) (.c (.int .i64 1)), none⟩,
   ⟨some 59, .call (.c (.fn 60 [] [])) [(.t 53), (.t 56), (.t 58)], none⟩,
   ⟨some 52, .mov (.t 59), none⟩,
   ⟨some 60, .extract (.t 52) 0, none⟩,
   ⟨some 61, .extract (.t 52) 1, none⟩,
   ⟨some 11, .alloc [(.int .i64 0), (.slice [] .nil)], none⟩,
   ⟨none, .store 2 (.t 11) (.t 60), none⟩,
   ⟨some 12, .mov (.t 61), none⟩] [(0, 10)])
 (.seq (.reg [⟨some 62, .mov (.t 2), none⟩,
   ⟨some 63, .mov (.t 10), none⟩,
   ⟨some 64, .mov (.t 12), none⟩,
   ⟨some 65, .build [(.int .i64 0), (.int .i64 0), (.int .i64 0)] [(0, 1, (.t 62)), (1, 1, (.t 63)), (2, 1, (.t 64))], none⟩,
   ⟨some 13, .alloc [(.int .i64 0), (.int .i64 0), (.int .i64 0)], none⟩,
   ⟨none, .store 3 (.t 13) (.t 65), none⟩])
 (.seq (.reg [⟨some 66, .load true 2 (.t 11), none⟩,
   ⟨some 67, .load true 3 (.t 13), none⟩,
   ⟨some 68, .call (.c (.fn 63 [] [])) [(.t 66), (.t 67)], none⟩,
   ⟨some 14, .mov (.t 68), none⟩])
 (.seq (.seq (.reg [⟨some 69, .mov (.t 14), none⟩,
   ⟨some 70, .bin .geq false (.t 69) (.c (.int .i64 0)), none⟩])
 (.cond (.t 70)
  (.seq (.reg [⟨some 71, .load true 2 (.t 11), none⟩,
    ⟨some 72, .mov (.t 14), none⟩,
    ⟨none, .store 2 (.t 6) (.t 71), none⟩,
    ⟨some 7, .mov (.t 72), none⟩])
  (.ret))
  (.skip)))
 (.seq (.drw [⟨some 73, .bslice 3 [], none⟩,
   ⟨some 74, .fldA 1 (.t 11), none⟩,
   ⟨some 75, .load false 1 (.t 74), none⟩,
   ⟨some 76, .append 3 24 (.t 73) (.t 75), none⟩,
   ⟨some 77, .load true 3 (.t 13), none⟩,
   ⟨some 78, .bslice 3 [(.t 77)], none⟩,
   ⟨some 79, .append 3 24 (.t 76) (.t 78), none⟩,
   ⟨some 80, .fldA 1 (.t 11), none⟩,
   ⟨none, .store 1 (.t 80) (.t 79), none⟩] [(3, 4)])
 (.seq (.drw [⟨some 81, .load true 2 (.t 11), none⟩,
   ⟨some 82, .fldA 1 (.t 11), none⟩,
   ⟨some 83, .load false 1 (.t 82), none⟩,
   ⟨some 84, .len (.t 83), none⟩,
   ⟨some 85, .bin .sub false (.t 84) (.c (.int .i64 1)), none⟩,
   ⟨none, .store 2 (.t 6) (.t 81), none⟩,
   ⟨some 7, .mov (.t 85), none⟩] [(2, 5)])
 (.ret)))))))))))
def r60 : List ARV := [.cell 6 true 2, .tmp 7]
theorem b60 : Try.f60.body.bind (tr Try.prog 86) = some c60.bare := by kernel_rfl
theorem q60 : trRes Try.prog Try.f60.results.toList = some r60 := by kernel_rfl
theorem n60 : (Try.f60.name == "runtime.NumGoroutine") = false := by kernel_rfl

end Go.Proofs.Yteabanjbgpplmaa
