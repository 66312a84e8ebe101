/-
  Changes, opened.
-/
import Derived.Test.YthafkinbocdjlaaOpW
import Derived.Test.YthafkinbocdjlaaRcF
namespace Go.Lw
open Go.Proofs
section
variable {H : Type} {enc : TypeId × Value → H} {W : World}
theorem op_ckind : Op enc W 31 (RInt .i64) (fun _ => 0) := opens_int Try.underlying31
theorem op_change : Op enc W 33 RChange (fun _ => 0) :=
  (opens_struct Try.underlying33 (by kernel_rfl) (opens_cons rfl (by kernel_rfl : _ = 1) op_ckind (opens_cons rfl (by kernel_rfl : _ = 1) op_int (opens_nil _))) blk_agg).imp
    (fun x => (⟨x.1, x.2.1⟩ : Change)) (fun s vs x h => by
      obtain ⟨_, _, rfl, _, ⟨rfl, r1⟩, _, _, rfl, _, ⟨rfl, r2⟩, h3⟩ := h
      cases (show _ = [] from h3)
      exact ⟨rfl, r1, r2⟩) (fun _ => Nat.zero_le _)
theorem op_changes : Op enc W 25 (RSl RChange 2) (fun xs => xs.length) :=
  (opens_slice Try.underlying25 (by kernel_rfl : _ = 2) (by decide) op_change blk_slice blk_len).imp id (fun _ _ _ h => h) (fun _ => Nat.le_max_left _ _)
theorem fits_of {c : Conf} {n : Nat} (h : c.size ≤ n) (hn : n ≤ 1048576) : c.fits := by
  simp only [Conf.size] at h
  simp only [Conf.fits]
  omega
end
end Go.Lw
