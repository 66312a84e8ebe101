/-
  The rows' readings of arguments, opened: numbers, texts, lists, configurations.
-/
import Derived.Test.YthaomecbklmmdaaDoorOpCodecTy
import Derived.Test.YthaomecbklmmdaaDoorOpA2
import Derived.Test.YthaomecbklmmdaaDoorRows
namespace Go.Lw
open Go.Proofs

section
variable {H : Type} {enc : TypeId × Value → H} {W : World}
abbrev blk : DataW H → Nat := Go.Proofs.YthaomecbklmmdaaDoor.Rows.uptoBulk
theorem blk_all (l : List (DataW H)) : (l.map blk).sum = Go.Proofs.YthaomecbklmmdaaDoor.Rows.uptoBulkAll l := by
  induction l with
  | nil => simp [Go.Proofs.YthaomecbklmmdaaDoor.Rows.uptoBulkAll]
  | cons x l ih => simp only [List.map_cons, List.sum_cons, ih, Go.Proofs.YthaomecbklmmdaaDoor.Rows.uptoBulkAll]
theorem blk_one (d : DataW H) : 1 ≤ blk d := by
  cases d with
  | lit l => cases l <;> simp [blk, Go.Proofs.YthaomecbklmmdaaDoor.Rows.uptoBulk]
  | _ => simp [blk, Go.Proofs.YthaomecbklmmdaaDoor.Rows.uptoBulk]
theorem blk_str (b : List UInt8) : b.length ≤ blk (H := H) (.lit (.string b)) := by simp [blk, Go.Proofs.YthaomecbklmmdaaDoor.Rows.uptoBulk]
theorem blk_slice (l r : List (DataW H)) : (l.map blk).sum ≤ blk (.slice l r) := by rw [blk_all]; simp only [blk, Go.Proofs.YthaomecbklmmdaaDoor.Rows.uptoBulk]; omega
theorem blk_len (l r : List (DataW H)) : l.length ≤ blk (.slice l r) := by
  have h : l.length ≤ (l.map blk).sum := by
    induction l with
    | nil => simp
    | cons x l ih => have := blk_one x; simp only [List.map_cons, List.sum_cons, List.length_cons]; omega
  exact Nat.le_trans h (blk_slice l r)
theorem blk_agg (l : List (DataW H)) : (l.map blk).sum ≤ blk (.agg l) := by rw [blk_all]; simp only [blk, Go.Proofs.YthaomecbklmmdaaDoor.Rows.uptoBulk]; omega

abbrev Op {α : Type} (enc : TypeId × Value → H) (W : World) (t : TypeId) (R : Res → List Value → α → Prop) (bk : α → Nat) : Prop := Opens blk enc Tryd.prog W t R bk

theorem op_u64 : Op enc W 36 (RInt .u64) (fun _ => 0) := opens_int Tryd.underlying36
theorem op_int : Op enc W 3 (RInt .i64) (fun _ => 0) := opens_int Tryd.underlying3
theorem op_bool : Op enc W 4 RBool (fun _ => 0) := opens_bool Tryd.underlying4
theorem op_str : Op enc W 9 RStr (fun b => b.size) := opens_str Tryd.underlying9 blk_str
theorem op_ints : Op enc W 38 (RSl (RInt .i64) 1) (fun xs => xs.length) :=
  (opens_slice Tryd.underlying38 (by kernel_rfl : _ = 1) (by decide) (opens_int Tryd.underlying3) blk_slice blk_len).imp id (fun _ _ _ h => h) (fun _ => Nat.le_max_left _ _)
def Conf.size (x : Conf) : Nat := x.voters.length + x.learners.length
theorem op_conf : Op enc W 40 RConf Conf.size :=
  (opens_struct Tryd.underlying40 (by kernel_rfl) (opens_cons rfl (by kernel_rfl : _ = 1) op_ints (opens_cons rfl (by kernel_rfl : _ = 1) op_ints (opens_nil _))) blk_agg).imp
    (fun x => ⟨x.1, x.2.1⟩) (fun s vs x h => by
      obtain ⟨_, _, rfl, _, ⟨a, c, rfl, h1⟩, _, _, rfl, _, ⟨a', c', rfl, h2⟩, h3⟩ := h
      cases (show _ = [] from h3)
      exact ⟨a, c, a', c', rfl, h1, h2⟩) (fun x => by simp only [Conf.size]; omega)
end
end Go.Lw
