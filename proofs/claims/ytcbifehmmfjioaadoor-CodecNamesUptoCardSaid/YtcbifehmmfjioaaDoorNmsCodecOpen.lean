/-
  The codec's arguments, opened: what the rows' reading gives.
-/
import Derived.Test.YtcbifehmmfjioaaDoorNmsCodecWr
import Derived.Test.YtcbifehmmfjioaaDoorNmsA2
import Derived.Test.YtcbifehmmfjioaaDoorRows
import Derived.Lib.LaidTab
namespace Go.Lw
open Go.Proofs
open Go.Proofs.YtcbifehmmfjioaaDoor (Rows.uptoBulk Rows.uptoBulkAll)

section
variable {H : Type} {enc : TypeId × Value → H} {W : World}
abbrev blk : DataW H → Nat := Go.Proofs.YtcbifehmmfjioaaDoor.Rows.uptoBulk
theorem blk_all (l : List (DataW H)) : (l.map blk).sum = Go.Proofs.YtcbifehmmfjioaaDoor.Rows.uptoBulkAll l := by
  induction l with
  | nil => simp [Go.Proofs.YtcbifehmmfjioaaDoor.Rows.uptoBulkAll]
  | cons x l ih => simp only [List.map_cons, List.sum_cons, ih, Go.Proofs.YtcbifehmmfjioaaDoor.Rows.uptoBulkAll]
theorem blk_one (d : DataW H) : 1 ≤ blk d := by
  cases d with
  | lit l => cases l <;> simp [blk, Go.Proofs.YtcbifehmmfjioaaDoor.Rows.uptoBulk]
  | _ => simp [blk, Go.Proofs.YtcbifehmmfjioaaDoor.Rows.uptoBulk]
theorem blk_str (b : List UInt8) : b.length ≤ blk (H := H) (.lit (.string b)) := by simp [blk, Go.Proofs.YtcbifehmmfjioaaDoor.Rows.uptoBulk]
theorem blk_slice (l r : List (DataW H)) : (l.map blk).sum ≤ blk (.slice l r) := by rw [blk_all]; simp only [blk, Go.Proofs.YtcbifehmmfjioaaDoor.Rows.uptoBulk]; omega
theorem blk_len (l r : List (DataW H)) : l.length ≤ blk (.slice l r) := by
  have h : l.length ≤ (l.map blk).sum := by
    induction l with
    | nil => simp
    | cons x l ih => have := blk_one x; simp only [List.map_cons, List.sum_cons, List.length_cons]; omega
  exact Nat.le_trans h (blk_slice l r)
theorem blk_agg (l : List (DataW H)) : (l.map blk).sum ≤ blk (.agg l) := by rw [blk_all]; simp only [blk, Go.Proofs.YtcbifehmmfjioaaDoor.Rows.uptoBulk]; omega

theorem co5 : Tryd.prog.cellsOf 5 = 1 := by kernel_rfl
theorem co3 : Tryd.prog.cellsOf 3 = 1 := by kernel_rfl
theorem coThing : Tryd.prog.cellsOf 43 = 25 := by kernel_rfl

abbrev Op {α : Type} (enc : TypeId × Value → H) (W : World) (t : TypeId) (R : Res → List Value → α → Prop) (bk : α → Nat) : Prop := Opens blk enc Tryd.prog W t R bk

theorem op_u64 : Op enc W 29 (RInt .u64) (fun _ => 0) := opens_int Tryd.underlying29
theorem op_int : Op enc W 3 (RInt .i64) (fun _ => 0) := opens_int Tryd.underlying3
theorem op_bool : Op enc W 4 RBool (fun _ => 0) := opens_bool Tryd.underlying4
theorem op_str : Op enc W 9 RStr (fun b => b.size) := opens_str Tryd.underlying9 blk_str
theorem op_bytes : Op enc W 25 (RSl (RInt .u8) 1) (fun xs => xs.length) :=
  (opens_slice Tryd.underlying25 co5 (by decide) (opens_int Tryd.underlying5) blk_slice blk_len).imp id (fun _ _ _ h => h) (fun _ => Nat.le_max_left _ _)
theorem op_ints : Op enc W 30 (RSl (RInt .i64) 1) (fun xs => xs.length) :=
  (opens_slice Tryd.underlying30 co3 (by decide) (opens_int Tryd.underlying3) blk_slice blk_len).imp id (fun _ _ _ h => h) (fun _ => Nat.le_max_left _ _)
theorem op_kind : Op enc W 33 (RInt .i64) (fun _ => 0) := opens_int Tryd.underlying33

def Conf.size (x : Conf) : Nat := x.voters.length + x.learners.length
def Entry.size (x : Entry) : Nat := x.data.length + x.conf.size
def Snap.size (x : Snap) : Nat := x.data.length + x.conf.size
def Range.size (x : Range) : Nat := x.lo.size + x.hi.size
def Record.size (x : Record) : Nat := x.key.size + x.value.length

theorem op_conf : Op enc W 32 RConf Conf.size :=
  (opens_struct Tryd.underlying32 (by kernel_rfl) (opens_cons rfl (by kernel_rfl : _ = 1) op_ints (opens_cons rfl (by kernel_rfl : _ = 1) op_ints (opens_nil _))) blk_agg).imp
    (fun x => ⟨x.1, x.2.1⟩) (fun s vs x h => by
      obtain ⟨_, _, rfl, _, ⟨a, c, rfl, h1⟩, _, _, rfl, _, ⟨a', c', rfl, h2⟩, h3⟩ := h
      cases (show _ = [] from h3)
      exact ⟨a, c, a', c', rfl, h1, h2⟩) (fun x => by simp only [Conf.size]; omega)
theorem op_entry : Op enc W 35 REntry Entry.size :=
  (opens_struct Tryd.underlying35 (by kernel_rfl) (opens_cons rfl (by kernel_rfl : _ = 1) op_u64 (opens_cons rfl (by kernel_rfl : _ = 1) op_u64 (opens_cons rfl (by kernel_rfl : _ = 1) op_kind
    (opens_cons rfl (by kernel_rfl : _ = 1) op_bytes (opens_cons rfl (by kernel_rfl : _ = 2) op_conf (opens_nil _)))))) blk_agg).imp
    (fun x => ⟨x.1, x.2.1, x.2.2.1, x.2.2.2.1, x.2.2.2.2.1⟩) (fun s vs x h => by
      obtain ⟨_, _, rfl, _, ⟨rfl, r1⟩, _, _, rfl, _, ⟨rfl, r2⟩, _, _, rfl, _, ⟨rfl, r3⟩, _, _, rfl, _, ⟨a, c, rfl, h1⟩, _, _, rfl, _, ⟨p, q, p', q', rfl, h2, h3⟩, h4⟩ := h
      cases (show _ = [] from h4)
      exact ⟨a, c, p, q, p', q', rfl, r1, r2, r3, h1, h2, h3⟩) (fun x => by simp only [Entry.size]; omega)
theorem op_snap : Op enc W 37 RSnap Snap.size :=
  (opens_struct Tryd.underlying37 (by kernel_rfl) (opens_cons rfl (by kernel_rfl : _ = 1) op_u64 (opens_cons rfl (by kernel_rfl : _ = 1) op_u64 (opens_cons rfl (by kernel_rfl : _ = 2) op_conf
    (opens_cons rfl (by kernel_rfl : _ = 1) op_bytes (opens_nil _))))) blk_agg).imp
    (fun x => ⟨x.1, x.2.1, x.2.2.1, x.2.2.2.1⟩) (fun s vs x h => by
      obtain ⟨_, _, rfl, _, ⟨rfl, r1⟩, _, _, rfl, _, ⟨rfl, r2⟩, _, _, rfl, _, ⟨p, q, p', q', rfl, h2, h3⟩, _, _, rfl, _, ⟨a, c, rfl, h1⟩, h4⟩ := h
      cases (show _ = [] from h4)
      exact ⟨a, c, p, q, p', q', rfl, r1, r2, h1, h2, h3⟩) (fun x => by simp only [Snap.size]; omega)
theorem op_range : Op enc W 39 RRange Range.size :=
  (opens_struct Tryd.underlying39 (by kernel_rfl) (opens_cons rfl (by kernel_rfl : _ = 1) op_str (opens_cons rfl (by kernel_rfl : _ = 1) op_str (opens_nil _))) blk_agg).imp
    (fun x => ⟨x.1, x.2.1⟩) (fun s vs x h => by
      obtain ⟨_, _, rfl, _, ⟨rfl, h1⟩, _, _, rfl, _, ⟨rfl, h2⟩, h3⟩ := h
      cases (show _ = [] from h3)
      exact ⟨rfl, h1, h2⟩) (fun x => by simp only [Range.size]; omega)
theorem op_record : Op enc W 41 RRecord Record.size :=
  (opens_struct Tryd.underlying41 (by kernel_rfl) (opens_cons rfl (by kernel_rfl : _ = 1) op_u64 (opens_cons rfl (by kernel_rfl : _ = 1) op_str (opens_cons rfl (by kernel_rfl : _ = 1) op_bytes
    (opens_cons rfl (by kernel_rfl : _ = 1) op_u64 (opens_cons rfl (by kernel_rfl : _ = 1) op_u64 (opens_nil _)))))) blk_agg).imp
    (fun x => ⟨x.1, x.2.1, x.2.2.1, x.2.2.2.1, x.2.2.2.2.1⟩) (fun s vs x h => by
      obtain ⟨_, _, rfl, _, ⟨rfl, r1⟩, _, _, rfl, _, ⟨rfl, r2⟩, _, _, rfl, _, ⟨a, c, rfl, h1⟩, _, _, rfl, _, ⟨rfl, r3⟩, _, _, rfl, _, ⟨rfl, r4⟩, h4⟩ := h
      cases (show _ = [] from h4)
      exact ⟨a, c, rfl, r1, r2, h1, r3, r4⟩) (fun x => by simp only [Record.size]; omega)

def Thing.size (x : Thing) : Nat := x.text.length + x.conf.size + x.entry.size + x.snap.size + x.range.size + x.record.size
theorem Thing.bulk_size (x : Thing) : x.bulk ≤ 100 + 10 * x.size := by
  simp only [Thing.bulk, Thing.size, Conf.size, Entry.size, Snap.size, Range.size, Record.size]; omega
theorem op_thing : Op enc W 43 RThing Thing.size :=
  (opens_struct Tryd.underlying43 (by kernel_rfl) (opens_cons rfl (by kernel_rfl : _ = 1) op_int (opens_cons rfl (by kernel_rfl : _ = 1) op_u64 (opens_cons rfl (by kernel_rfl : _ = 1) op_int
    (opens_cons rfl (by kernel_rfl : _ = 1) op_bool (opens_cons rfl (by kernel_rfl : _ = 1) op_bytes (opens_cons rfl (by kernel_rfl : _ = 2) op_conf (opens_cons rfl (by kernel_rfl : _ = 6) op_entry
    (opens_cons rfl (by kernel_rfl : _ = 5) op_snap (opens_cons rfl (by kernel_rfl : _ = 2) op_range (opens_cons rfl (by kernel_rfl : _ = 5) op_record (opens_nil _))))))))))) blk_agg).imp
    (fun x => ⟨x.1, x.2.1, x.2.2.1, x.2.2.2.1, x.2.2.2.2.1, x.2.2.2.2.2.1, x.2.2.2.2.2.2.1, x.2.2.2.2.2.2.2.1, x.2.2.2.2.2.2.2.2.1, x.2.2.2.2.2.2.2.2.2.1⟩) (fun s vs x h => by
      obtain ⟨_, _, rfl, _, ⟨rfl, r1⟩, _, _, rfl, _, ⟨rfl, r2⟩, _, _, rfl, _, ⟨rfl, r3⟩, _, _, rfl, _, r4, _, _, rfl, _, ⟨a, c, rfl, h1⟩, v1, _, rfl, _, k1, v2, _, rfl, _, k2, v3, _, rfl, _, k3, v4, _, rfl, _, k4, v5, _, rfl, _, k5, h4⟩ := h
      cases (show _ = [] from h4)
      cases (show _ = [_] from r4)
      exact ⟨a, c, v1, v2, v3, v4, v5, by simp, r1, r2, r3, h1, k1, k2, k3, k4, k5⟩) (fun x => by simp only [Thing.size]; omega)
theorem op_things : Op enc W 22 (RSl RThing 25) (fun xs => max xs.length ((xs.map Thing.size).sum)) :=
  opens_slice Tryd.underlying22 coThing (by decide) op_thing blk_slice blk_len
theorem bulkAll_le (xs : List Thing) : bulkAll xs ≤ 100 * xs.length + 10 * (xs.map Thing.size).sum := by
  induction xs with
  | nil => simp [bulkAll]
  | cons x xs ih =>
    have := x.bulk_size
    simp only [bulkAll, List.map_cons, List.sum_cons, List.length_cons] at *
    omega
end

/-! ### the table -/
theorem gTab : Tryd.prog.globalNamed "gazette/codec.sums" = some 0 := by kernel_rfl
theorem tab_holds {W : World} (h : Lib.TabIs Tryd.prog W "gazette/codec.sums" .u32 (tabs.map fun n : Nat => (n : Int))) : Holds (all W) ⟨0, 0, none⟩ tabVs := by
  unfold Lib.TabIs World.var? at h
  rw [gTab] at h
  simp only [Option.bind_some] at h
  split at h
  · rename_i cs el fr hh
    cases h
    exact ⟨_, el, fr, hh, rfl, fun j u hj => by simpa [tabVs] using hj⟩
  · cases h
end Go.Lw
