/-
  RaftconfSteps: a path has a step for each node that comes, that votes anew, that goes or falls, and no other one; back and forth it comes to where it began: the law returns true and its arguments read as they read before. Condition: what the arguments hold is of bulk at most 1048576 (the second form of the statement).
-/
import Derived.Test.YthafkinbocdjlaaRcOpen
import Derived.Test.YthafkinbocdjlaaRcW
import Derived.WalkKit
import Derived.Deep.DeepHandedRow
namespace Go.Proofs.Ythafkinbocdjlaa
open Go.ChangeShapes Go.WideShapes Go.ChangeAt Go.RowKit

namespace raftconfStepsLaw
theorem own : ownKnob Try.prog.godebug = none := by kernel_rfl
theorem laidOut : laidOutB Try.prog = true := by kernel_rfl

set_option maxRecDepth 100000 in
theorem contract (H : Type) (enc : TypeId × Value → H) (W : World) (base : Nat) (args : Array Value) (ds gs : List (DataW H)) (before : List MemPlace)
    (hval : ∀ (j : Nat) t v, Try.f5.params[j]? = some t → args[j]? = some v → Value.okWide Try.prog W .any base t v)
    (hW : DataW.Whole enc Try.prog Try.f5.params.toList Rows.raftconfStepsSpec.vars false W args.toList ds gs before) (hk : Rows.uptoSmall H (ds ++ gs) = true) :
    Calls Try.prog 5 args W fun e W' => ∃ v, e = .returned v ∧ Rows.raftconfStepsSpec.post enc Try.prog Try.f5 false true false false W args v W' := by
  have hW' := hW
  obtain ⟨p, q, hA0, hV, rfl, hfz, hnd⟩ := hW
  have hA : DataW.TrodAll enc Try.prog W 0 (fun _ => true) true Try.f5.params.toList args.toList ds p := hA0
  rw [Try.params5] at hA hval
  obtain ⟨v0, vs0, d0, ds0, p0, q0, hargs, rfl, rfl, h0, r0⟩ := trodAll_cons hA
  obtain ⟨v1, vs1, d1, ds1, p1, q1, rfl, rfl, rfl, h1, r1⟩ := trodAll_cons r0
  obtain ⟨rfl, rfl, rfl⟩ := trodAll_nil r1
  obtain rfl : args = #[v0, v1] := by cases args; simp_all
  obtain ⟨rfl, rfl⟩ := trodVars_none hV
  have hbound := of_decide_eq_true hk
  simp only [List.append_nil, Rows.uptoBulkAll] at hbound
  clear hA0 hA
  obtain ⟨fuel0, hf0⟩ := h0
  obtain ⟨x0, hcs0, hb0⟩ := Lw.op_conf fuel0 _ d0 p0 hf0
  obtain ⟨cs0, rfl, _⟩ := okWide_struct Try.underlying24 (hval 0 24 v0 rfl rfl)
  simp only [Value.cells] at hcs0
  obtain ⟨fuel1, hf1⟩ := h1
  obtain ⟨x1, hcs1, hb1⟩ := Lw.op_conf fuel1 _ d1 p1 hf1
  obtain ⟨cs1, rfl, _⟩ := okWide_struct Try.underlying24 (hval 1 24 v1 rfl rfl)
  simp only [Value.cells] at hcs1
  simp only [Lw.blk] at hb0 hb1
  exact Lw.law_end laidOut (by kernel_rfl) rfl rfl Try.underlying4 hW' ⟨rfl, rfl, rfl⟩ (Lw.RaftconfSteps_ct (Lw.all_good W) hcs0 hcs1 (Lw.fits_of hb0 (by omega)) (Lw.fits_of hb1 (by omega)))

noncomputable def laidWorld (os : Os) : World := World.holding Try.prog os ⟨#[], #[], []⟩
theorem laid_met (w : World) : laidMet Try.prog Rows.raftconfStepsUptoRow.laid w := ⟨[], rfl, List.nodup_nil, fun _ _ h => by cases h⟩
theorem reads (os : Os) {H : Type} (enc : TypeId × Value → H) : ∃ places, DataW.whole enc Try.prog ((laidWorld os).forCall (fun _ _ => 0) ⟨#[], #[Value.agg #[.slice none 0 0, .slice none 0 0], .agg #[.slice none 0 0, .slice none 0 0]], []⟩).memory Try.f5.params.toList Rows.raftconfStepsSpec.vars false #[Value.agg #[Value.slice none 0 0, .slice none 0 0], .agg #[.slice none 0 0, .slice none 0 0]].toList 8 = some ([.agg [.nil, .nil], .agg [.nil, .nil]], [], places) :=
  ⟨[], by kernel_rfl⟩

set_option maxRecDepth 100000 in
theorem liftedUpto (os : Os) (started : os.Started) (H : Type) (enc : TypeId × Value → H) (F : Stop.Interp) :
    ReturnsInHanded {} Try.checked os 5 .any ((Rows.OpenSpec.upto Rows.raftconfStepsSpec).preRow enc Try.prog Try.f5 Rows.raftconfStepsUptoRow.domain false Rows.raftconfStepsUptoRow.laid) (((Rows.OpenSpec.upto Rows.raftconfStepsSpec).at F).post enc Try.prog Try.f5 false true false false) := by
  obtain ⟨places, hx⟩ := reads os enc
  refine returnsInHanded_of_row (C := Try.checked) (s := Rows.OpenSpec.upto Rows.raftconfStepsSpec) own started (by kernel_rfl) Try.func5
    (witness_row_at (enc := enc) (C := Try.checked) false (laidWorld os) #[Value.agg #[.slice none 0 0, .slice none 0 0], .agg #[.slice none 0 0, .slice none 0 0]] rfl (by kernel_rfl) (by kernel_rfl) (by kernel_rfl)
      (OpenSpec.preRow_of_cond 8 hx (by kernel_rfl) (fun k hk => by cases hk; kernel_rfl) (by kernel_rfl) (laid_met _))) ?_
  intro W base args ds gs before hval hW _ hcond _ hL _ _
  exact contract H enc W base args ds gs before hval hW (hcond _ rfl)

theorem saidUpto : Rows.RaftconfStepsUptoSaid :=
  OpenClaim.holds_of_cond 5 Try.f5 rfl rfl rfl rfl rfl rfl rfl ⟨rfl, rfl, rfl, rfl, rfl⟩ rfl rfl rfl rfl rfl (by kernel_rfl) Try.func5 (by kernel_rfl)
    (of_decide_eq_true (by kernel_rfl)) (by unfold Func.isWrapper; first | (rw [if_pos (by decide +kernel)]; kernel_rfl) | (rw [if_neg (by decide +kernel)]; exact ⟨rfl, rfl⟩))
    (fun os started H enc _ F => by rw [OpenClaim.pre_eq_preRow]; exact liftedUpto os started H enc F)
end raftconfStepsLaw

theorem raftconfSteps_upto : Rows.RaftconfStepsUptoSaid := raftconfStepsLaw.saidUpto
#print axioms raftconfSteps_upto
end Go.Proofs.Ythafkinbocdjlaa
