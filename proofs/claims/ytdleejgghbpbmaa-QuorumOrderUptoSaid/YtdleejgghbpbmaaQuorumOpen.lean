/-
  The quorum laws' arguments, opened.
-/
import Derived.Test.YtdleejgghbpbmaaQuorumM
import Derived.Test.YtdleejgghbpbmaaOpen
import Derived.Test.YtdleejgghbpbmaaRows
namespace Go.Lw
open Go.Proofs

section
variable {H : Type} {enc : TypeId × Value → H} {W : World}
abbrev blk : DataW H → Nat := Go.Proofs.Ytdleejgghbpbmaa.Rows.uptoBulk
theorem blk_all (l : List (DataW H)) : (l.map blk).sum = Go.Proofs.Ytdleejgghbpbmaa.Rows.uptoBulkAll l := by
  induction l with
  | nil => simp [Go.Proofs.Ytdleejgghbpbmaa.Rows.uptoBulkAll]
  | cons x l ih => simp only [List.map_cons, List.sum_cons, ih, Go.Proofs.Ytdleejgghbpbmaa.Rows.uptoBulkAll]
theorem blk_one (d : DataW H) : 1 ≤ blk d := by
  cases d with
  | lit l => cases l <;> simp [blk, Go.Proofs.Ytdleejgghbpbmaa.Rows.uptoBulk]
  | _ => simp [blk, Go.Proofs.Ytdleejgghbpbmaa.Rows.uptoBulk]
theorem blk_slice (l r : List (DataW H)) : (l.map blk).sum ≤ blk (.slice l r) := by rw [blk_all]; simp only [blk, Go.Proofs.Ytdleejgghbpbmaa.Rows.uptoBulk]; omega
theorem blk_len (l r : List (DataW H)) : l.length ≤ blk (.slice l r) := by
  have h : l.length ≤ (l.map blk).sum := by
    induction l with
    | nil => simp
    | cons x l ih => have := blk_one x; simp only [List.map_cons, List.sum_cons, List.length_cons]; omega
  exact Nat.le_trans h (blk_slice l r)
theorem blk_agg (l : List (DataW H)) : (l.map blk).sum ≤ blk (.agg l) := by rw [blk_all]; simp only [blk, Go.Proofs.Ytdleejgghbpbmaa.Rows.uptoBulk]; omega

abbrev Op {α : Type} (enc : TypeId × Value → H) (W : World) (t : TypeId) (R : Res → List Value → α → Prop) (bk : α → Nat) : Prop := Opens blk enc Try.prog W t R bk
theorem op_int : Op enc W 3 (RInt .i64) (fun _ => 0) := opens_int Try.underlying3
theorem op_u64 : Op enc W 33 (RInt .u64) (fun _ => 0) := opens_int Try.underlying33
theorem op_bool : Op enc W 4 RBool (fun _ => 0) := opens_bool Try.underlying4
theorem op_ints : Op enc W 22 (RSl (RInt .i64) 1) (fun xs => xs.length) :=
  (opens_slice Try.underlying22 (by kernel_rfl : _ = 1) (by decide) op_int blk_slice blk_len).imp id (fun _ _ _ h => h) (fun _ => Nat.le_max_left _ _)
theorem op_ballot : Op enc W 41 RBallot (fun _ => 0) :=
  (opens_struct Try.underlying41 (by kernel_rfl) (opens_cons rfl (by kernel_rfl : _ = 1) op_int (opens_cons rfl (by kernel_rfl : _ = 1) op_bool (opens_nil _))) blk_agg).imp
    (fun x => (x.1, x.2.1)) (fun s vs x h => by
      obtain ⟨_, _, rfl, _, ⟨rfl, r1⟩, _, _, rfl, _, h2, h3⟩ := h
      cases (show _ = [] from h3)
      cases h2
      exact ⟨rfl, r1⟩) (fun _ => Nat.zero_le _)
theorem op_ballots : Op enc W 23 (RSl RBallot 2) (fun xs => xs.length) :=
  (opens_slice Try.underlying23 (by kernel_rfl : _ = 2) (by decide) op_ballot blk_slice blk_len).imp id (fun _ _ _ h => h) (fun _ => Nat.le_max_left _ _)
end
end Go.Lw
