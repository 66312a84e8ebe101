/-
  The quorum laws' arguments, opened: peers.
-/
import Derived.Test.YtdleejgghbpbmaaQuorumOpen
import Derived.Test.YtdleejgghbpbmaaQuorumN
namespace Go.Lw
open Go.Proofs
section
variable {H : Type} {enc : TypeId × Value → H} {W : World}
theorem op_peer : Op enc W 36 RPeer (fun _ => 0) :=
  (opens_struct Try.underlying36 (by kernel_rfl) (opens_cons rfl (by kernel_rfl : _ = 1) op_int (opens_cons rfl (by kernel_rfl : _ = 1) op_u64 (opens_cons rfl (by kernel_rfl : _ = 1) op_u64 (opens_nil _)))) blk_agg).imp
    (fun x => ⟨x.1, x.2.1, x.2.2.1⟩) (fun s vs x h => by
      obtain ⟨_, _, rfl, _, ⟨rfl, r1⟩, _, _, rfl, _, ⟨rfl, r2⟩, _, _, rfl, _, ⟨rfl, r3⟩, h3⟩ := h
      cases (show _ = [] from h3)
      exact ⟨rfl, r1, r2, r3⟩) (fun _ => Nat.zero_le _)
theorem op_peers : Op enc W 32 (RSl RPeer 3) (fun xs => xs.length) :=
  (opens_slice Try.underlying32 (by kernel_rfl : _ = 3) (by decide) op_peer blk_slice blk_len).imp id (fun _ _ _ h => h) (fun _ => Nat.le_max_left _ _)
end
end Go.Lw
