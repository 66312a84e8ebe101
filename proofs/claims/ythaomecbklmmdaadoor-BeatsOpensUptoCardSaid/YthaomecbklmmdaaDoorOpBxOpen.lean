/-
  Beats' arguments, opened.
-/
import Derived.Test.YthaomecbklmmdaaDoorOpOpB
import Derived.Test.YthaomecbklmmdaaDoorOpBxK
namespace Go.Lw
open Go.Proofs
section
variable {H : Type} {enc : TypeId × Value → H} {W : World}
def Entry.size (x : Entry) : Nat := x.data.length + x.conf.size
def Msg.size (m : Msg) : Nat := max m.entries.length (m.entries.map Entry.size).sum + m.conf.size + m.data.length
def Wire.size (x : Wire) : Nat := x.msg.size
theorem op_ekind : Op enc W 82 (RInt .i64) (fun _ => 0) := opens_int Tryd.underlying82
theorem op_mkind : Op enc W 35 (RInt .i64) (fun _ => 0) := opens_int Tryd.underlying35
theorem op_entry : Op enc W 84 REntry Entry.size :=
  (opens_struct Tryd.underlying84 (by kernel_rfl) (opens_cons rfl (by kernel_rfl : _ = 1) op_u64 (opens_cons rfl (by kernel_rfl : _ = 1) op_u64 (opens_cons rfl (by kernel_rfl : _ = 1) op_ekind
    (opens_cons rfl (by kernel_rfl : _ = 1) op_bytes (opens_cons rfl (by kernel_rfl : _ = 2) op_conf (opens_nil _)))))) blk_agg).imp
    (fun x => ⟨x.1, x.2.1, x.2.2.1, x.2.2.2.1, x.2.2.2.2.1⟩) (fun s vs x h => by
      obtain ⟨_, _, rfl, _, ⟨rfl, r1⟩, _, _, rfl, _, ⟨rfl, r2⟩, _, _, rfl, _, ⟨rfl, r3⟩, _, _, rfl, _, ⟨a, c, rfl, h1⟩, _, _, rfl, _, ⟨p, q, p', q', rfl, h2, h3⟩, h4⟩ := h
      cases (show _ = [] from h4)
      exact ⟨a, c, p, q, p', q', rfl, r1, r2, r3, h1, h2, h3⟩) (fun x => by simp only [Entry.size]; omega)
theorem op_entries : Op enc W 37 (RSl REntry 6) (fun xs => max xs.length (xs.map Entry.size).sum) :=
  (opens_slice Tryd.underlying37 (by kernel_rfl : _ = 6) (by decide) op_entry blk_slice blk_len).imp id (fun _ _ _ h => h) (fun _ => Nat.le_refl _)
theorem op_msg : Op enc W 42 RMsg Msg.size :=
  (opens_struct Tryd.underlying42 (by kernel_rfl) (opens_cons rfl (by kernel_rfl : _ = 1) op_mkind (opens_cons rfl (by kernel_rfl : _ = 1) op_int (opens_cons rfl (by kernel_rfl : _ = 1) op_int (opens_cons rfl (by kernel_rfl : _ = 1) op_u64 (opens_cons rfl (by kernel_rfl : _ = 1) op_u64
    (opens_cons rfl (by kernel_rfl : _ = 1) op_u64 (opens_cons rfl (by kernel_rfl : _ = 1) op_entries (opens_cons rfl (by kernel_rfl : _ = 1) op_u64 (opens_cons rfl (by kernel_rfl : _ = 1) op_bool (opens_cons rfl (by kernel_rfl : _ = 1) op_u64 (opens_cons rfl (by kernel_rfl : _ = 2) op_conf
    (opens_cons rfl (by kernel_rfl : _ = 1) op_bytes (opens_cons rfl (by kernel_rfl : _ = 1) op_bool (opens_nil _)))))))))))))) blk_agg).imp
    (fun x => ⟨x.1, x.2.1, x.2.2.1, x.2.2.2.1, x.2.2.2.2.1, x.2.2.2.2.2.1, x.2.2.2.2.2.2.1, x.2.2.2.2.2.2.2.1, x.2.2.2.2.2.2.2.2.1, x.2.2.2.2.2.2.2.2.2.1, x.2.2.2.2.2.2.2.2.2.2.1, x.2.2.2.2.2.2.2.2.2.2.2.1, x.2.2.2.2.2.2.2.2.2.2.2.2.1⟩) (fun s vs x h => by
      obtain ⟨_, _, rfl, _, ⟨rfl, r1⟩, _, _, rfl, _, ⟨rfl, r2⟩, _, _, rfl, _, ⟨rfl, r3⟩, _, _, rfl, _, ⟨rfl, r4⟩, _, _, rfl, _, ⟨rfl, r5⟩, _, _, rfl, _, ⟨rfl, r6⟩, _, _, rfl, _, ⟨ea, ec, rfl, h1⟩, _, _, rfl, _, ⟨rfl, r7⟩, _, _, rfl, _, rfl, _, _, rfl, _, ⟨rfl, r8⟩,
        _, _, rfl, _, ⟨p, q, p', q', rfl, h2, h3⟩, _, _, rfl, _, ⟨a, c, rfl, h4⟩, _, _, rfl, _, rfl, h5⟩ := h
      cases (show _ = [] from h5)
      exact ⟨⟨ea, ec, p, q, p', q', a, c⟩, rfl, ⟨r1, r2, r3, r4, r5, r6, r7, r8, h1, h2, h3, h4⟩⟩) (fun x => by simp only [Msg.size]; omega)
theorem op_wire : Op enc W 51 RWire Wire.size :=
  (opens_struct Tryd.underlying51 (by kernel_rfl) (opens_cons rfl (by kernel_rfl : _ = 1) op_u64 (opens_cons rfl (by kernel_rfl : _ = 14) op_msg (opens_nil _))) blk_agg).imp
    (fun x => ⟨x.1, x.2.1⟩) (fun s vs x h => by
      obtain ⟨_, _, rfl, _, ⟨rfl, r1⟩, _, _, rfl, _, ⟨y, rfl, h1⟩, h2⟩ := h
      cases (show _ = [] from h2)
      exact ⟨y, by simp, r1, h1⟩) (fun x => by simp only [Wire.size]; omega)
theorem op_wires : Op enc W 30 (RSl RWire 15) (fun xs => max xs.length (xs.map Wire.size).sum) :=
  (opens_slice Tryd.underlying30 (by kernel_rfl : _ = 15) (by decide) op_wire blk_slice blk_len).imp id (fun _ _ _ h => h) (fun _ => Nat.le_refl _)
theorem op_packet : Op enc W 24 RPacket (fun x => x.data.length) :=
  (opens_struct Tryd.underlying24 (by kernel_rfl) (opens_cons rfl (by kernel_rfl : _ = 1) op_int (opens_cons rfl (by kernel_rfl : _ = 1) op_int (opens_cons rfl (by kernel_rfl : _ = 1) op_int (opens_cons rfl (by kernel_rfl : _ = 1) op_bytes (opens_nil _))))) blk_agg).imp
    (fun x => (⟨x.1, x.2.1, x.2.2.1, x.2.2.2.1⟩ : Packet)) (fun s vs x h => by
      obtain ⟨_, _, rfl, _, ⟨rfl, r1⟩, _, _, rfl, _, ⟨rfl, r2⟩, _, _, rfl, _, ⟨rfl, r3⟩, _, _, rfl, _, ⟨a, c, rfl, h1⟩, h2⟩ := h
      cases (show _ = [] from h2)
      exact ⟨a, c, rfl, r1, r2, r3, h1⟩) (fun x => by dsimp only; omega)
end

theorem bulkE_size : ∀ xs : List Entry, bulkE xs ≤ 60 * xs.length + 10 * (xs.map Entry.size).sum
  | [] => Nat.le_refl _
  | x :: xs => by
    have := bulkE_size xs
    simp only [bulkE, List.map_cons, List.sum_cons, List.length_cons, Entry.bulk, Entry.size, Conf.size] at *; omega
theorem Wire.bulk_size (x : Wire) : x.bulk ≤ 300 + 80 * x.size := by
  have := bulkE_size x.msg.entries
  simp only [Wire.bulk, Wire.size, Msg.size, Conf.size]; omega
theorem bulkW_size : ∀ xs : List Wire, bulkW xs ≤ 300 * xs.length + 80 * (xs.map Wire.size).sum
  | [] => Nat.le_refl _
  | x :: xs => by
    have := bulkW_size xs
    have := x.bulk_size
    simp only [bulkW, List.map_cons, List.sum_cons, List.length_cons] at *; omega
theorem fits_size {m : Msg} {n : Nat} (h : m.size ≤ n) (hn : n ≤ 35184372088832) : m.fits := by
  simp only [Msg.size, Conf.size] at h
  simp only [Msg.fits, Msg.lens]; omega
theorem sum_mem : ∀ {xs : List Wire} {x : Wire}, x ∈ xs → x.size ≤ (xs.map Wire.size).sum
  | y :: ys, x, h => by
    simp only [List.map_cons, List.sum_cons]
    rcases List.mem_cons.1 h with rfl | h
    · omega
    · have := sum_mem h; omega
theorem wires_ok {xs : List Wire} {n : Nat} (h : max xs.length (xs.map Wire.size).sum ≤ n) (hn : n ≤ 1048576) : bulkW xs + xs.length ≤ 400000000 ∧ ∀ x ∈ xs, x.msg.fits := by
  have h1 := bulkW_size xs
  refine ⟨by omega, fun x hx => fits_size (n := n) ?_ (by omega)⟩
  have := sum_mem hx
  simp only [Wire.size] at this ⊢
  have h2 : (xs.map fun x => x.msg.size).sum ≤ n := by
    have : (xs.map Wire.size).sum ≤ n := by omega
    exact this
  exact Nat.le_trans this h2
end Go.Lw
