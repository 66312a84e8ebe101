/-
  BeatsPacks: Pack of any messages makes the document's packets, or the error, and Is tells of each whether it is a beat: the law returns true and its arguments read as they read before. Condition: what the arguments hold is of bulk at most 1048576 (the second form of the statement).
-/
import Derived.Test.YthaomecbklmmdaaBxOpen
import Derived.Test.YthaomecbklmmdaaBxL
import Derived.WalkKit
import Derived.Deep.DeepHandedRow
namespace Go.Proofs.Ythaomecbklmmdaa
open Go.ChangeShapes Go.WideShapes Go.ChangeAt Go.RowKit

namespace beatsPacksLaw
theorem own : ownKnob Try.prog.godebug = none := by kernel_rfl
theorem laidOut : laidOutB Try.prog = true := by kernel_rfl

set_option maxRecDepth 100000 in
theorem contract (H : Type) (enc : TypeId × Value → H) (W : World) (base : Nat) (args : Array Value) (ds gs : List (DataW H)) (before : List MemPlace)
    (hval : ∀ (j : Nat) t v, Try.f3.params[j]? = some t → args[j]? = some v → Value.okWide Try.prog W .any base t v)
    (hW : DataW.Whole enc Try.prog Try.f3.params.toList Rows.beatsPacksSpec.vars false W args.toList ds gs before) (hk : Rows.uptoSmall H (ds ++ gs) = true) :
    Calls Try.prog 3 args W fun e W' => ∃ v, e = .returned v ∧ Rows.beatsPacksSpec.post enc Try.prog Try.f3 false true false false W args v W' := by
  have hW' := hW
  obtain ⟨p, q, hA0, hV, rfl, hfz, hnd⟩ := hW
  have hA : DataW.TrodAll enc Try.prog W 0 (fun _ => true) true Try.f3.params.toList args.toList ds p := hA0
  rw [Try.params3] at hA hval
  obtain ⟨v0, vs0, d0, ds0, p0, q0, hargs, rfl, rfl, h0, r0⟩ := trodAll_cons hA
  obtain ⟨v1, vs1, d1, ds1, p1, q1, rfl, rfl, rfl, h1, r1⟩ := trodAll_cons r0
  obtain ⟨rfl, rfl, rfl⟩ := trodAll_nil r1
  obtain rfl : args = #[v0, v1] := by cases args; simp_all
  obtain ⟨rfl, rfl⟩ := trodVars_none hV
  have hbound := of_decide_eq_true hk
  simp only [List.append_nil, Rows.uptoBulkAll] at hbound
  clear hA0 hA
  obtain ⟨fuel0, hf0⟩ := h0
  obtain ⟨x0, ⟨hcs0, rg0⟩, hb0⟩ := Lw.op_int fuel0 _ d0 p0 hf0
  obtain ⟨y0, rfl, _⟩ := okWide_int Try.underlying3 (hval 0 3 v0 rfl rfl)
  simp only [Value.cells, List.cons.injEq, and_true] at hcs0
  rw [hcs0] at hW' ⊢
  obtain ⟨fuel1, hf1⟩ := h1
  obtain ⟨x1, ⟨xa1, xc1, hcs1, im1⟩, hb1⟩ := Lw.op_wires fuel1 _ d1 p1 hf1
  obtain ⟨a1, len1, cap1, rfl⟩ := okWide_slice Try.underlying22 (hval 1 22 v1 rfl rfl)
  simp only [Value.cells, List.cons.injEq, and_true] at hcs1
  rw [hcs1] at hW' ⊢
  simp only [Lw.blk] at hb0 hb1
  exact Lw.law_end laidOut (by kernel_rfl) rfl rfl Try.underlying4 hW' ⟨rfl, rfl, rfl⟩ (Lw.BeatsPacks_ct (Lw.all_good W) im1 rg0 (Lw.wires_ok hb1 (by omega)).1 (Lw.wires_ok hb1 (by omega)).2)

noncomputable def laidWorld (os : Os) : World := World.holding Try.prog os ⟨#[], #[], []⟩
theorem laid_met (w : World) : laidMet Try.prog Rows.beatsPacksUptoRow.laid w := ⟨[], rfl, List.nodup_nil, fun _ _ h => by cases h⟩
theorem reads (os : Os) {H : Type} (enc : TypeId × Value → H) : ∃ places, DataW.whole enc Try.prog ((laidWorld os).forCall (fun _ _ => 0) ⟨#[], #[.int .i64 0, .slice none 0 0], []⟩).memory Try.f3.params.toList Rows.beatsPacksSpec.vars false #[Value.int .i64 0, Value.slice none 0 0].toList 8 = some ([.lit (.int .i64 0), .nil], [], places) :=
  ⟨[], by kernel_rfl⟩

set_option maxRecDepth 100000 in
theorem liftedUpto (os : Os) (started : os.Started) (H : Type) (enc : TypeId × Value → H) (F : Stop.Interp) :
    ReturnsInHanded {} Try.checked os 3 .any ((Rows.OpenSpec.upto Rows.beatsPacksSpec).preRow enc Try.prog Try.f3 Rows.beatsPacksUptoRow.domain false Rows.beatsPacksUptoRow.laid) (((Rows.OpenSpec.upto Rows.beatsPacksSpec).at F).post enc Try.prog Try.f3 false true false false) := by
  obtain ⟨places, hx⟩ := reads os enc
  refine returnsInHanded_of_row (C := Try.checked) (s := Rows.OpenSpec.upto Rows.beatsPacksSpec) own started (by kernel_rfl) Try.func3
    (witness_row_at (enc := enc) (C := Try.checked) false (laidWorld os) #[.int .i64 0, .slice none 0 0] rfl (by kernel_rfl) (by kernel_rfl) (by kernel_rfl)
      (OpenSpec.preRow_of_cond 8 hx (by kernel_rfl) (fun k hk => by cases hk; kernel_rfl) (by kernel_rfl) (laid_met _))) ?_
  intro W base args ds gs before hval hW _ hcond _ hL _ _
  exact contract H enc W base args ds gs before hval hW (hcond _ rfl)

theorem saidUpto : Rows.BeatsPacksUptoSaid :=
  OpenClaim.holds_of_cond 3 Try.f3 rfl rfl rfl rfl rfl rfl rfl ⟨rfl, rfl, rfl, rfl, rfl⟩ rfl rfl rfl rfl rfl (by kernel_rfl) Try.func3 (by kernel_rfl)
    (of_decide_eq_true (by kernel_rfl)) (by unfold Func.isWrapper; first | (rw [if_pos (by decide +kernel)]; kernel_rfl) | (rw [if_neg (by decide +kernel)]; exact ⟨rfl, rfl⟩))
    (fun os started H enc _ F => by rw [OpenClaim.pre_eq_preRow]; exact liftedUpto os started H enc F)
end beatsPacksLaw

theorem beatsPacks_upto : Rows.BeatsPacksUptoSaid := beatsPacksLaw.saidUpto
#print axioms beatsPacks_upto
end Go.Proofs.Ythaomecbklmmdaa
