/-
  reflectlite's Set at the codec's error types; the bytes that vof gives for the sources.
-/
import Derived.Test.YthaomecbklmmdaaDoorOpCodecAs2
namespace Go.Lw
open Go.Proofs Go.Extern.Stop Go.Stop Go.Extern

theorem partsV_w (a : Addr) (w : World) : (ReflectliteValue.parts (.agg #[.pointer (some ⟨1, 94, none⟩), .pointer (some a), .int .u64 150])).run Tryd.prog w = .ok (some (94, a, 150)) w := by kernel_rfl
theorem partsV_e (a : Addr) (w : World) : (ReflectliteValue.parts (.agg #[.pointer (some ⟨1, 27, none⟩), .pointer (some a), .int .u64 130])).run Tryd.prog w = .ok (some (27, a, 130)) w := by kernel_rfl

theorem set_w (ta b : Addr) (e : Option Addr) (old : Value) (W : World) (hb : W.cell? b = some (.pointer e)) (ht : W.cell? ta = some old) (hf : W.frozen? ta = false) :
    (callFunc 78 #[.agg #[.pointer (some ⟨1, 94, none⟩), .pointer (some ta), .int .u64 FLw], .agg #[.pointer (some ⟨1, 94, none⟩), .pointer (some b), .int .u64 150]]).run Tryd.prog W
      = .ok (.value (.tuple #[])) (W.setCell ta (.pointer e)) := by
  rw [@run_callFunc_extern Tryd.prog 78 _ ReflectliteValue.set Tryd.func78 (by kernel_rfl) (by kernel_rfl) (by kernel_rfl) (by kernel_rfl)]
  rw [rls]
  simp only [Sem.run_bind, partsA_w, partsV_w, Result.andThen]
  simp [ReflectliteValue.flagAddr, loadVar, isAgg, underlying, Tryd.underlying94, hb, Result.andThen, direct_w, storeVar, Value.cells, storeCells, Addr.add]
  rw [run_store Tryd.prog W ta _ _ (by rfl)]
  simp [ht, hf]
theorem set_e (ta b : Addr) (e : Int) (old : Value) (W : World) (hb : W.cell? b = some (.int .i64 e)) (ht : W.cell? ta = some old) (hf : W.frozen? ta = false) :
    (callFunc 78 #[.agg #[.pointer (some ⟨1, 27, none⟩), .pointer (some ta), .int .u64 FLe], .agg #[.pointer (some ⟨1, 27, none⟩), .pointer (some b), .int .u64 130]]).run Tryd.prog W
      = .ok (.value (.tuple #[])) (W.setCell ta (.int .i64 e)) := by
  rw [@run_callFunc_extern Tryd.prog 78 _ ReflectliteValue.set Tryd.func78 (by kernel_rfl) (by kernel_rfl) (by kernel_rfl) (by kernel_rfl)]
  rw [rls]
  simp only [Sem.run_bind, partsA_e, partsV_e, Result.andThen]
  simp [ReflectliteValue.flagAddr, loadVar, isAgg, underlying, Tryd.underlying27, hb, Result.andThen, direct_e, storeVar, Value.cells, storeCells, Addr.add]
  rw [run_store Tryd.prog W ta _ _ (by rfl)]
  simp [ht, hf]
end Go.Lw
