/-
  What the model's own functions of package reflectlite answer at the codec's error types: closed facts. ('2': how many package-level variables the seat has.)
-/
import Derived.Test.YthaomecbklmmdaaDoorOpA1
import Derived.Test.YthaomecbklmmdaaDoorProg
namespace Go.Lw
open Go.Proofs
abbrev rt (t : Nat) : Value := .iface 132 (.agg #[.pointer (some ⟨1, t, none⟩)])
theorem typeOf_w (v : Value) (w : World) : (callFunc 76 #[.iface 94 v]).run Tryd.prog w = .ok (.value (rt 94)) w := by kernel_rfl
theorem typeOf_e (v : Value) (w : World) : (callFunc 76 #[.iface 27 v]).run Tryd.prog w = .ok (.value (rt 27)) w := by kernel_rfl
theorem asg_ww (w : World) : (callMethod (rt 94) "AssignableTo" #[rt 94]).run Tryd.prog w = .ok (.value (.bool true)) w := by kernel_rfl
theorem asg_we (w : World) : (callMethod (rt 94) "AssignableTo" #[rt 27]).run Tryd.prog w = .ok (.value (.bool false)) w := by kernel_rfl
theorem asg_ee (w : World) : (callMethod (rt 27) "AssignableTo" #[rt 27]).run Tryd.prog w = .ok (.value (.bool true)) w := by kernel_rfl
theorem vof_w (e : Option Addr) (w : World) : (callFunc 66 #[.iface 94 (.pointer e)]).run Tryd.prog w = .ok (.value (.agg #[.pointer (some ⟨1, 94, none⟩), .pointer (some ⟨w.heap.size, 0, none⟩), .int .u64 150])) (w.alloc (.cells #[.pointer e] 94)) := by kernel_rfl
theorem vof_e (e : Int) (w : World) : (callFunc 66 #[.iface 27 (.int .i64 e)]).run Tryd.prog w = .ok (.value (.agg #[.pointer (some ⟨1, 27, none⟩), .pointer (some ⟨w.heap.size, 0, none⟩), .int .u64 130])) (w.alloc (.cells #[.int .i64 e] 27)) := by kernel_rfl
theorem vof_tw (e : Addr) (w : World) : (callFunc 66 #[.iface 96 (.pointer (some e))]).run Tryd.prog w = .ok (.value (.agg #[.pointer (some ⟨1, 96, none⟩), .pointer (some ⟨w.heap.size, 0, none⟩), .int .u64 150])) (w.alloc (.cells #[.pointer (some e)] 96)) := by kernel_rfl
theorem vof_te (e : Addr) (w : World) : (callFunc 66 #[.iface 97 (.pointer (some e))]).run Tryd.prog w = .ok (.value (.agg #[.pointer (some ⟨1, 97, none⟩), .pointer (some ⟨w.heap.size, 0, none⟩), .int .u64 150])) (w.alloc (.cells #[.pointer (some e)] 97)) := by kernel_rfl
theorem typ_w (a : Addr) (w : World) : (callFunc 67 #[.agg #[.pointer (some ⟨1, 96, none⟩), .pointer (some a), .int .u64 150]]).run Tryd.prog w = .ok (.value (rt 96)) w := by kernel_rfl
theorem typ_e (a : Addr) (w : World) : (callFunc 67 #[.agg #[.pointer (some ⟨1, 97, none⟩), .pointer (some a), .int .u64 150]]).run Tryd.prog w = .ok (.value (rt 97)) w := by kernel_rfl
theorem kind_p (w : World) : (callMethod (rt 96) "Kind" #[]).run Tryd.prog w = .ok (.value (.int .u8 22)) w := by kernel_rfl
theorem kind_pe (w : World) : (callMethod (rt 97) "Kind" #[]).run Tryd.prog w = .ok (.value (.int .u8 22)) w := by kernel_rfl
theorem kind_w (w : World) : (callMethod (rt 94) "Kind" #[]).run Tryd.prog w = .ok (.value (.int .u8 22)) w := by kernel_rfl
theorem kind_e (w : World) : (callMethod (rt 27) "Kind" #[]).run Tryd.prog w = .ok (.value (.int .u8 2)) w := by kernel_rfl
theorem elem_p (w : World) : (callMethod (rt 96) "Elem" #[]).run Tryd.prog w = .ok (.value (rt 94)) w := by kernel_rfl
theorem elem_pe (w : World) : (callMethod (rt 97) "Elem" #[]).run Tryd.prog w = .ok (.value (rt 27)) w := by kernel_rfl
theorem impl_w (w : World) : (callMethod (rt 94) "Implements" #[rt 90]).run Tryd.prog w = .ok (.value (.bool true)) w := by kernel_rfl
theorem impl_e (w : World) : (callMethod (rt 27) "Implements" #[rt 90]).run Tryd.prog w = .ok (.value (.bool true)) w := by kernel_rfl
theorem unw (e : Option Addr) (w : World) : (callMethod (.iface 94 (.pointer e)) "Unwrap" #[]).run Tryd.prog w = .ok (.enter 99 #[.pointer e]) w := by kernel_rfl
end Go.Lw
