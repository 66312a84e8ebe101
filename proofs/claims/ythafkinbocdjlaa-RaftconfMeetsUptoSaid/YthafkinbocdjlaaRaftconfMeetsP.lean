/-
  RaftconfMeets: a step of a right configuration makes a right one, and majorities of both have one in common: the law returns true and its arguments read as they read before. Condition: what the arguments hold is of bulk at most 1048576 (the second form of the statement).
-/
import Derived.Test.YthafkinbocdjlaaRcOpen
import Derived.Test.YthafkinbocdjlaaRcN
import Derived.WalkKit
import Derived.Deep.DeepHandedRow
namespace Go.Proofs.Ythafkinbocdjlaa
open Go.ChangeShapes Go.WideShapes Go.ChangeAt Go.RowKit

namespace raftconfMeetsLaw
theorem own : ownKnob Try.prog.godebug = none := by kernel_rfl
theorem laidOut : laidOutB Try.prog = true := by kernel_rfl

set_option maxRecDepth 100000 in
theorem contract (H : Type) (enc : TypeId × Value → H) (W : World) (base : Nat) (args : Array Value) (ds gs : List (DataW H)) (before : List MemPlace)
    (hval : ∀ (j : Nat) t v, Try.f7.params[j]? = some t → args[j]? = some v → Value.okWide Try.prog W .any base t v)
    (hW : DataW.Whole enc Try.prog Try.f7.params.toList Rows.raftconfMeetsSpec.vars false W args.toList ds gs before) (hk : Rows.uptoSmall H (ds ++ gs) = true) :
    Calls Try.prog 7 args W fun e W' => ∃ v, e = .returned v ∧ Rows.raftconfMeetsSpec.post enc Try.prog Try.f7 false true false false W args v W' := by
  have hW' := hW
  obtain ⟨p, q, hA0, hV, rfl, hfz, hnd⟩ := hW
  have hA : DataW.TrodAll enc Try.prog W 0 (fun _ => true) true Try.f7.params.toList args.toList ds p := hA0
  rw [Try.params7] at hA hval
  obtain ⟨v0, vs0, d0, ds0, p0, q0, hargs, rfl, rfl, h0, r0⟩ := trodAll_cons hA
  obtain ⟨v1, vs1, d1, ds1, p1, q1, rfl, rfl, rfl, h1, r1⟩ := trodAll_cons r0
  obtain ⟨v2, vs2, d2, ds2, p2, q2, rfl, rfl, rfl, h2, r2⟩ := trodAll_cons r1
  obtain ⟨v3, vs3, d3, ds3, p3, q3, rfl, rfl, rfl, h3, r3⟩ := trodAll_cons r2
  obtain ⟨rfl, rfl, rfl⟩ := trodAll_nil r3
  obtain rfl : args = #[v0, v1, v2, v3] := by cases args; simp_all
  obtain ⟨rfl, rfl⟩ := trodVars_none hV
  have hbound := of_decide_eq_true hk
  simp only [List.append_nil, Rows.uptoBulkAll] at hbound
  clear hA0 hA
  obtain ⟨fuel0, hf0⟩ := h0
  obtain ⟨x0, hcs0, hb0⟩ := Lw.op_conf fuel0 _ d0 p0 hf0
  obtain ⟨cs0, rfl, _⟩ := okWide_struct Try.underlying24 (hval 0 24 v0 rfl rfl)
  simp only [Value.cells] at hcs0
  obtain ⟨fuel1, hf1⟩ := h1
  obtain ⟨x1, hcs1, hb1⟩ := Lw.op_change fuel1 _ d1 p1 hf1
  obtain ⟨cs1, rfl, _⟩ := okWide_struct Try.underlying33 (hval 1 33 v1 rfl rfl)
  simp only [Value.cells] at hcs1
  obtain ⟨fuel2, hf2⟩ := h2
  obtain ⟨x2, ⟨xa2, xc2, hcs2, im2⟩, hb2⟩ := Lw.op_ints fuel2 _ d2 p2 hf2
  obtain ⟨a2, len2, cap2, rfl⟩ := okWide_slice Try.underlying22 (hval 2 22 v2 rfl rfl)
  simp only [Value.cells, List.cons.injEq, and_true] at hcs2
  rw [hcs2] at hW' ⊢
  obtain ⟨fuel3, hf3⟩ := h3
  obtain ⟨x3, ⟨xa3, xc3, hcs3, im3⟩, hb3⟩ := Lw.op_ints fuel3 _ d3 p3 hf3
  obtain ⟨a3, len3, cap3, rfl⟩ := okWide_slice Try.underlying22 (hval 3 22 v3 rfl rfl)
  simp only [Value.cells, List.cons.injEq, and_true] at hcs3
  rw [hcs3] at hW' ⊢
  simp only [Lw.blk] at hb0 hb1 hb2 hb3
  exact Lw.law_end laidOut (by kernel_rfl) rfl rfl Try.underlying4 hW' ⟨rfl, rfl, rfl⟩ (Lw.RaftconfMeets_ct (Lw.all_good W) hcs0 hcs1 im2 im3 (Lw.fits_of hb0 (by omega)))

noncomputable def laidWorld (os : Os) : World := World.holding Try.prog os ⟨#[], #[], []⟩
theorem laid_met (w : World) : laidMet Try.prog Rows.raftconfMeetsUptoRow.laid w := ⟨[], rfl, List.nodup_nil, fun _ _ h => by cases h⟩
theorem reads (os : Os) {H : Type} (enc : TypeId × Value → H) : ∃ places, DataW.whole enc Try.prog ((laidWorld os).forCall (fun _ _ => 0) ⟨#[], #[Value.agg #[.slice none 0 0, .slice none 0 0], .agg #[.int .i64 0, .int .i64 0], .slice none 0 0, .slice none 0 0], []⟩).memory Try.f7.params.toList Rows.raftconfMeetsSpec.vars false #[Value.agg #[Value.slice none 0 0, .slice none 0 0], .agg #[Value.int .i64 0, .int .i64 0], .slice none 0 0, .slice none 0 0].toList 8 = some ([.agg [.nil, .nil], .agg [.lit (.int .i64 0), .lit (.int .i64 0)], .nil, .nil], [], places) :=
  ⟨[], by kernel_rfl⟩

set_option maxRecDepth 100000 in
theorem liftedUpto (os : Os) (started : os.Started) (H : Type) (enc : TypeId × Value → H) (F : Stop.Interp) :
    ReturnsInHanded {} Try.checked os 7 .any ((Rows.OpenSpec.upto Rows.raftconfMeetsSpec).preRow enc Try.prog Try.f7 Rows.raftconfMeetsUptoRow.domain false Rows.raftconfMeetsUptoRow.laid) (((Rows.OpenSpec.upto Rows.raftconfMeetsSpec).at F).post enc Try.prog Try.f7 false true false false) := by
  obtain ⟨places, hx⟩ := reads os enc
  refine returnsInHanded_of_row (C := Try.checked) (s := Rows.OpenSpec.upto Rows.raftconfMeetsSpec) own started (by kernel_rfl) Try.func7
    (witness_row_at (enc := enc) (C := Try.checked) false (laidWorld os) #[Value.agg #[.slice none 0 0, .slice none 0 0], .agg #[.int .i64 0, .int .i64 0], .slice none 0 0, .slice none 0 0] rfl (by kernel_rfl) (by kernel_rfl) (by kernel_rfl)
      (OpenSpec.preRow_of_cond 8 hx (by kernel_rfl) (fun k hk => by cases hk; kernel_rfl) (by kernel_rfl) (laid_met _))) ?_
  intro W base args ds gs before hval hW _ hcond _ hL _ _
  exact contract H enc W base args ds gs before hval hW (hcond _ rfl)

theorem saidUpto : Rows.RaftconfMeetsUptoSaid :=
  OpenClaim.holds_of_cond 7 Try.f7 rfl rfl rfl rfl rfl rfl rfl ⟨rfl, rfl, rfl, rfl, rfl⟩ rfl rfl rfl rfl rfl (by kernel_rfl) Try.func7 (by kernel_rfl)
    (of_decide_eq_true (by kernel_rfl)) (by unfold Func.isWrapper; first | (rw [if_pos (by decide +kernel)]; kernel_rfl) | (rw [if_neg (by decide +kernel)]; exact ⟨rfl, rfl⟩))
    (fun os started H enc _ F => by rw [OpenClaim.pre_eq_preRow]; exact liftedUpto os started H enc F)
end raftconfMeetsLaw

theorem raftconfMeets_upto : Rows.RaftconfMeetsUptoSaid := raftconfMeetsLaw.saidUpto
#print axioms raftconfMeets_upto
end Go.Proofs.Ythafkinbocdjlaa
