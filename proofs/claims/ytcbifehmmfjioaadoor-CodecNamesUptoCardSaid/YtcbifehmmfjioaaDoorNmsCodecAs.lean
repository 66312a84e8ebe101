/-
  What the model's own functions of package reflectlite answer at the codec's error types: closed facts. ('2': how many package-level variables the seat has.)
-/
import Derived.Test.YtcbifehmmfjioaaDoorNmsA1
import Derived.Test.YtcbifehmmfjioaaDoorProg
namespace Go.Lw
open Go.Proofs
abbrev rt (t : Nat) : Value := .iface 152 (.agg #[.pointer (some ⟨2, t, none⟩)])
theorem typeOf_w (v : Value) (w : World) : (callFunc 98 #[.iface 121 v]).run Tryd.prog w = .ok (.value (rt 121)) w := by kernel_rfl
theorem typeOf_e (v : Value) (w : World) : (callFunc 98 #[.iface 52 v]).run Tryd.prog w = .ok (.value (rt 52)) w := by kernel_rfl
theorem asg_ww (w : World) : (callMethod (rt 121) "AssignableTo" #[rt 121]).run Tryd.prog w = .ok (.value (.bool true)) w := by kernel_rfl
theorem asg_we (w : World) : (callMethod (rt 121) "AssignableTo" #[rt 52]).run Tryd.prog w = .ok (.value (.bool false)) w := by kernel_rfl
theorem asg_ee (w : World) : (callMethod (rt 52) "AssignableTo" #[rt 52]).run Tryd.prog w = .ok (.value (.bool true)) w := by kernel_rfl
theorem vof_w (e : Option Addr) (w : World) : (callFunc 92 #[.iface 121 (.pointer e)]).run Tryd.prog w = .ok (.value (.agg #[.pointer (some ⟨2, 121, none⟩), .pointer (some ⟨w.heap.size, 0, none⟩), .int .u64 150])) (w.alloc (.cells #[.pointer e] 121)) := by kernel_rfl
theorem vof_e (e : Int) (w : World) : (callFunc 92 #[.iface 52 (.int .i64 e)]).run Tryd.prog w = .ok (.value (.agg #[.pointer (some ⟨2, 52, none⟩), .pointer (some ⟨w.heap.size, 0, none⟩), .int .u64 130])) (w.alloc (.cells #[.int .i64 e] 52)) := by kernel_rfl
theorem vof_tw (e : Addr) (w : World) : (callFunc 92 #[.iface 123 (.pointer (some e))]).run Tryd.prog w = .ok (.value (.agg #[.pointer (some ⟨2, 123, none⟩), .pointer (some ⟨w.heap.size, 0, none⟩), .int .u64 150])) (w.alloc (.cells #[.pointer (some e)] 123)) := by kernel_rfl
theorem vof_te (e : Addr) (w : World) : (callFunc 92 #[.iface 124 (.pointer (some e))]).run Tryd.prog w = .ok (.value (.agg #[.pointer (some ⟨2, 124, none⟩), .pointer (some ⟨w.heap.size, 0, none⟩), .int .u64 150])) (w.alloc (.cells #[.pointer (some e)] 124)) := by kernel_rfl
theorem typ_w (a : Addr) (w : World) : (callFunc 93 #[.agg #[.pointer (some ⟨2, 123, none⟩), .pointer (some a), .int .u64 150]]).run Tryd.prog w = .ok (.value (rt 123)) w := by kernel_rfl
theorem typ_e (a : Addr) (w : World) : (callFunc 93 #[.agg #[.pointer (some ⟨2, 124, none⟩), .pointer (some a), .int .u64 150]]).run Tryd.prog w = .ok (.value (rt 124)) w := by kernel_rfl
theorem kind_p (w : World) : (callMethod (rt 123) "Kind" #[]).run Tryd.prog w = .ok (.value (.int .u8 22)) w := by kernel_rfl
theorem kind_pe (w : World) : (callMethod (rt 124) "Kind" #[]).run Tryd.prog w = .ok (.value (.int .u8 22)) w := by kernel_rfl
theorem kind_w (w : World) : (callMethod (rt 121) "Kind" #[]).run Tryd.prog w = .ok (.value (.int .u8 22)) w := by kernel_rfl
theorem kind_e (w : World) : (callMethod (rt 52) "Kind" #[]).run Tryd.prog w = .ok (.value (.int .u8 2)) w := by kernel_rfl
theorem elem_p (w : World) : (callMethod (rt 123) "Elem" #[]).run Tryd.prog w = .ok (.value (rt 121)) w := by kernel_rfl
theorem elem_pe (w : World) : (callMethod (rt 124) "Elem" #[]).run Tryd.prog w = .ok (.value (rt 52)) w := by kernel_rfl
theorem impl_w (w : World) : (callMethod (rt 121) "Implements" #[rt 105]).run Tryd.prog w = .ok (.value (.bool true)) w := by kernel_rfl
theorem impl_e (w : World) : (callMethod (rt 52) "Implements" #[rt 105]).run Tryd.prog w = .ok (.value (.bool true)) w := by kernel_rfl
theorem unw (e : Option Addr) (w : World) : (callMethod (.iface 121 (.pointer e)) "Unwrap" #[]).run Tryd.prog w = .ok (.enter 120 #[.pointer e]) w := by kernel_rfl
end Go.Lw
