/- The bodies of the program's functions, as the abstraction layer has them. By program. -/
import Derived.Test.YteabanjbgpplmaaBddC
namespace Go.Proofs.Yteabanjbgpplmaa
open Abs
/-- slices.IndexFunc[[]int,int] [s:0, f:1, s:2, f:3, i:5] -/
def c61 : ACode :=
 .seq (.reg [⟨some 4, .mov (.c (.int .i64 0)), none⟩])
 (.seq (.seq (.reg [⟨some 6, .mov (.t 0), none⟩,
   ⟨some 7, .len (.t 6), none⟩,
   ⟨some 8, .mov (.c (.int .i64 0)), none⟩])
 (.block 0 (.loop (.seq (.reg [⟨some 9, .bin .lss false (.t 8) (.t 7), none⟩])
  (.seq (.cond (.t 9)
   (.skip)
   (.exit 0))
  (.seq (.block 1 (.seq (.reg [⟨some 10, .mov (.t 8), none⟩,
    ⟨some 5, .mov (.t 10), none⟩])
  (.seq (.reg [⟨some 11, .mov (.t 1), none⟩,
    ⟨some 12, .mov (.t 0), none⟩,
    ⟨some 13, .mov (.t 5), none⟩,
    ⟨some 14, .idxS 1 (.t 12) (.t 13), none⟩,
    ⟨some 15, .load false 1 (.t 14), none⟩,
    ⟨some 16, .call (.t 11) [(.t 15)], none⟩])
  (.cond (.t 16)
   (.seq (.reg [⟨some 17, .mov (.t 5), none⟩,
     ⟨some 4, .mov (.t 17), none⟩])
   (.ret))
   (.skip)))))
  (.reg [⟨some 18, .bin .add false (.t 8) (.c (.int .i64 1)), none⟩,
    ⟨some 8, .mov (.t 18), none⟩])))))))
 (.seq (.reg [⟨some 4, .mov (.c (.int .i64 (-1))), none⟩])
 (.ret)))
def r61 : List ARV := [.tmp 4]
theorem b61 : Try.f61.body.bind (tr Try.prog 19) = some c61.bare := by kernel_rfl
theorem q61 : trRes Try.prog Try.f61.results.toList = some r61 := by kernel_rfl
theorem n61 : (Try.f61.name == "runtime.NumGoroutine") = false := by kernel_rfl

/-- filigree/filigreeref22.same [a:0, b:1, a:2, b:3, i:5] -/
def c62 : ACode :=
 .seq (.reg [⟨some 4, .mov (.c (.bool false)), none⟩])
 (.seq (.seq (.reg [⟨some 5, .mov (.c (.int .i64 0)), none⟩])
 (.block 0 (.loop (.seq (.seq (.reg [⟨some 6, .mov (.t 5), none⟩,
    ⟨some 7, .mov (.t 0), none⟩,
    ⟨some 8, .len (.t 7), none⟩,
    ⟨some 9, .bin .lss false (.t 6) (.t 8), none⟩])
  (.cond (.t 9)
   (.skip)
   (.exit 0)))
  (.seq (.block 1 (.seq (.drw [⟨some 12, .mov (.t 0), none⟩,
    ⟨some 13, .mov (.t 5), none⟩,
    ⟨some 14, .idxS 1 (.t 12) (.t 13), none⟩,
    ⟨some 15, .load false 1 (.t 14), none⟩,
    ⟨some 16, .mov (.t 1), none⟩,
    ⟨some 17, .mov (.t 5), none⟩,
    ⟨some 18, .idxS 1 (.t 16) (.t 17), none⟩,
    ⟨some 19, .load false 1 (.t 18), none⟩,
    ⟨some 20, .bin .neq true (.t 15) (.t 19), none⟩] [])
  (.cond (.t 20)
   (.seq (.reg [⟨some 4, .mov (.c (.bool false)), none⟩])
   (.ret))
   (.skip))))
  (.reg [⟨some 10, .mov (.t 5), none⟩,
    ⟨some 11, .bin .add false (.t 10) (.c (.int .i64 1)), none⟩,
    ⟨some 5, .mov (.t 11), none⟩]))))))
 (.seq (.reg [⟨some 4, .mov (.c (.bool true)), none⟩])
 (.ret)))
def r62 : List ARV := [.tmp 4]
theorem b62 : Try.f62.body.bind (tr Try.prog 21) = some c62.bare := by kernel_rfl
theorem q62 : trRes Try.prog Try.f62.results.toList = some r62 := by kernel_rfl
theorem n62 : (Try.f62.name == "runtime.NumGoroutine") = false := by kernel_rfl

/-- filigree/filigreeref22.find [b:0, x:1, b:2, x:3, i:5] -/
def c63 : ACode :=
 .seq (.reg [⟨some 2, .boxI (.t 0), none⟩,
   ⟨some 3, .boxI (.t 1), none⟩,
   ⟨some 4, .mov (.c (.int .i64 0)), none⟩])
 (.seq (.seq (.reg [⟨some 5, .mov (.c (.int .i64 2)), none⟩])
 (.block 0 (.loop (.seq (.seq (.reg [⟨some 6, .mov (.t 5), none⟩,
    ⟨some 7, .fldA 1 (.t 2), none⟩,
    ⟨some 8, .load false 1 (.t 7), none⟩,
    ⟨some 9, .len (.t 8), none⟩,
    ⟨some 10, .bin .lss false (.t 6) (.t 9), none⟩])
  (.cond (.t 10)
   (.skip)
   (.exit 0)))
  (.seq (.block 1 (.seq (.drw [⟨some 13, .fldA 1 (.t 2), none⟩,
    ⟨some 14, .load false 1 (.t 13), none⟩,
    ⟨some 15, .mov (.t 5), none⟩,
    ⟨some 16, .idxS 3 (.t 14) (.t 15), none⟩,
    ⟨some 17, .load true 3 (.t 16), none⟩,
    ⟨some 18, .load true 3 (.t 3), none⟩,
    ⟨some 19, .eqs false [0, 0, 0] (.t 17) (.t 18), none⟩] [])
  (.cond (.t 19)
   (.seq (.reg [⟨some 20, .mov (.t 5), none⟩,
     ⟨some 4, .mov (.t 20), none⟩])
   (.ret))
   (.skip))))
  (.reg [⟨some 11, .mov (.t 5), none⟩,
    ⟨some 12, .bin .add false (.t 11) (.c (.int .i64 1)), none⟩,
    ⟨some 5, .mov (.t 12), none⟩]))))))
 (.seq (.reg [⟨some 4, .mov (.c (.int .i64 (-1))), none⟩])
 (.ret)))
def r63 : List ARV := [.tmp 4]
theorem b63 : Try.f63.body.bind (tr Try.prog 21) = some c63.bare := by kernel_rfl
theorem q63 : trRes Try.prog Try.f63.results.toList = some r63 := by kernel_rfl
theorem n63 : (Try.f63.name == "runtime.NumGoroutine") = false := by kernel_rfl

end Go.Proofs.Yteabanjbgpplmaa
