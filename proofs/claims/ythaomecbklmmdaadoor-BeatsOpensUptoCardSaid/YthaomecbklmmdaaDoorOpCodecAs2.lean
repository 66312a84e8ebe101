/-
  reflectlite at the codec's error types: what reads or writes memory.
-/
import Derived.Test.YthaomecbklmmdaaDoorOpCodecAs
import Derived.Stop.Asserts
import Derived.WalkKit
namespace Go.Lw
open Go.Proofs Go.Extern.Stop Go.Stop Go.Extern

theorem rlm (z : Sem Value) (f : TypeId → Addr → Nat → Nat → Sem Value) (v : Value) :
    ReflectliteValue.method z f #[v] = (do match ← ReflectliteValue.parts v with | none => z | some (t, a, fl) => f t a fl (fl % 32)) := rfl
theorem rls (v x : Value) : ReflectliteValue.set #[v, x] = (do
    let (some (dst, a, fl), some (src, b, _)) := (← ReflectliteValue.parts v, ← ReflectliteValue.parts x)
      | unsupported (.noEntry "extern/(internal/reflectlite.Value).Set.zeroValue")
    if fl / ReflectliteValue.flagAddr % 2 == 0 then unsupported (.noEntry "extern/(internal/reflectlite.Value).Set.unaddressable")
    let val ← loadVar src b
    if ← Rtype.directlyAssignable dst src then storeVar dst a val
    else if ← Rtype.implements dst src then
      if (← Rtype.kind src) == 20 then
        match val with
        | .nilIface => unsupported (.noEntry "extern/reflectlite: a nil value of one interface type handed on as a value of another")
        | _ => storeVar dst a val
      else storeVar dst a (.iface src val)
    else panicString ("reflectlite.Set: value of type " ++ (← Rtype.spelt src) ++ " is not assignable to type " ++ (← Rtype.spelt dst))
    pure (.tuple #[])) := rfl

abbrev FLw : Nat := 406
abbrev FLe : Nat := 386
theorem parts_w (a : Addr) (w : World) : (ReflectliteValue.parts (.agg #[.pointer (some ⟨1, 96, none⟩), .pointer (some a), .int .u64 150])).run Tryd.prog w = .ok (some (96, a, 150)) w := by kernel_rfl
theorem elemOf_w (w : World) : (Rtype.elem? 96).run Tryd.prog w = .ok (some 94) w := by kernel_rfl
theorem mk_w (p : Addr) (w : World) : (ReflectliteValue.mk 94 p ReflectliteValue.flagAddr).run Tryd.prog w = .ok (.agg #[.pointer (some ⟨1, 94, none⟩), .pointer (some p), .int .u64 FLw]) w := by kernel_rfl
theorem partsA_w (a : Addr) (w : World) : (ReflectliteValue.parts (.agg #[.pointer (some ⟨1, 94, none⟩), .pointer (some a), .int .u64 FLw])).run Tryd.prog w = .ok (some (94, a, FLw)) w := by kernel_rfl
theorem direct_w (w : World) : (Rtype.directlyAssignable 94 94).run Tryd.prog w = .ok true w := by kernel_rfl
theorem isNil_w (a p : Addr) (W : World) (ha : W.cell? a = some (.pointer (some p))) : (callFunc 68 #[.agg #[.pointer (some ⟨1, 96, none⟩), .pointer (some a), .int .u64 150]]).run Tryd.prog W = .ok (.value (.bool false)) W := by
  rw [@run_callFunc_extern Tryd.prog 68 _ (ReflectliteValue.method (ReflectliteValue.valueError "reflectlite.Value.IsNil" 0) ReflectliteValue.isNil) Tryd.func68 (by kernel_rfl) (by kernel_rfl) (by kernel_rfl) (by kernel_rfl)]
  rw [rlm]
  simp only [Sem.run_bind, parts_w, Result.andThen]
  simp [ReflectliteValue.isNil, loadVar, isAgg, underlying, Tryd.underlying96, ha, Result.andThen]
theorem elem_w (a p : Addr) (W : World) (ha : W.cell? a = some (.pointer (some p))) : (callFunc 77 #[.agg #[.pointer (some ⟨1, 96, none⟩), .pointer (some a), .int .u64 150]]).run Tryd.prog W =
    .ok (.value (.agg #[.pointer (some ⟨1, 94, none⟩), .pointer (some p), .int .u64 FLw])) W := by
  rw [@run_callFunc_extern Tryd.prog 77 _ (ReflectliteValue.method (ReflectliteValue.valueError "reflectlite.Value.Elem" 0) ReflectliteValue.elem) Tryd.func77 (by kernel_rfl) (by kernel_rfl) (by kernel_rfl) (by kernel_rfl)]
  rw [rlm]
  simp only [Sem.run_bind, parts_w, Result.andThen]
  simp [ReflectliteValue.elem, loadVar, isAgg, underlying, Tryd.underlying96, ha, Result.andThen, elemOf_w, mk_w]
theorem parts_e (a : Addr) (w : World) : (ReflectliteValue.parts (.agg #[.pointer (some ⟨1, 97, none⟩), .pointer (some a), .int .u64 150])).run Tryd.prog w = .ok (some (97, a, 150)) w := by kernel_rfl
theorem elemOf_e (w : World) : (Rtype.elem? 97).run Tryd.prog w = .ok (some 27) w := by kernel_rfl
theorem mk_e (p : Addr) (w : World) : (ReflectliteValue.mk 27 p ReflectliteValue.flagAddr).run Tryd.prog w = .ok (.agg #[.pointer (some ⟨1, 27, none⟩), .pointer (some p), .int .u64 FLe]) w := by kernel_rfl
theorem partsA_e (a : Addr) (w : World) : (ReflectliteValue.parts (.agg #[.pointer (some ⟨1, 27, none⟩), .pointer (some a), .int .u64 FLe])).run Tryd.prog w = .ok (some (27, a, FLe)) w := by kernel_rfl
theorem direct_e (w : World) : (Rtype.directlyAssignable 27 27).run Tryd.prog w = .ok true w := by kernel_rfl
theorem isNil_e (a p : Addr) (W : World) (ha : W.cell? a = some (.pointer (some p))) : (callFunc 68 #[.agg #[.pointer (some ⟨1, 97, none⟩), .pointer (some a), .int .u64 150]]).run Tryd.prog W = .ok (.value (.bool false)) W := by
  rw [@run_callFunc_extern Tryd.prog 68 _ (ReflectliteValue.method (ReflectliteValue.valueError "reflectlite.Value.IsNil" 0) ReflectliteValue.isNil) Tryd.func68 (by kernel_rfl) (by kernel_rfl) (by kernel_rfl) (by kernel_rfl)]
  rw [rlm]
  simp only [Sem.run_bind, parts_e, Result.andThen]
  simp [ReflectliteValue.isNil, loadVar, isAgg, underlying, Tryd.underlying97, ha, Result.andThen]
theorem elem_e (a p : Addr) (W : World) (ha : W.cell? a = some (.pointer (some p))) : (callFunc 77 #[.agg #[.pointer (some ⟨1, 97, none⟩), .pointer (some a), .int .u64 150]]).run Tryd.prog W =
    .ok (.value (.agg #[.pointer (some ⟨1, 27, none⟩), .pointer (some p), .int .u64 FLe])) W := by
  rw [@run_callFunc_extern Tryd.prog 77 _ (ReflectliteValue.method (ReflectliteValue.valueError "reflectlite.Value.Elem" 0) ReflectliteValue.elem) Tryd.func77 (by kernel_rfl) (by kernel_rfl) (by kernel_rfl) (by kernel_rfl)]
  rw [rlm]
  simp only [Sem.run_bind, parts_e, Result.andThen]
  simp [ReflectliteValue.elem, loadVar, isAgg, underlying, Tryd.underlying97, ha, Result.andThen, elemOf_e, mk_e]
end Go.Lw
