/-
  RaftcoreSafe: nodes of one group, whose messages are lost, doubled, late and out of order, which die at any time and begin anew from what they kept, which are added, promoted and removed, and whose logs are cut: no two lead in one term, logs match, and what one of them told as committed is so in all: the law returns true and its arguments read as they read before. Condition: what the arguments hold is of bulk at most 1048576 (the second form of the statement).
-/
import Derived.Test.YtpjclnomaemokaaGreatRgS1
import Derived.WalkKit
import Derived.Deep.DeepHandedRow
set_option maxRecDepth 100000
set_option maxHeartbeats 16000000
set_option linter.all false
namespace Go.Proofs.YtpjclnomaemokaaGreat
open Go.ChangeShapes Go.WideShapes Go.ChangeAt Go.RowKit
namespace raftcoreSafeLaw
theorem own : ownKnob Tryz.prog.godebug = none := by kernel_rfl
theorem laidOut : laidOutB Tryz.prog = true := by kernel_rfl
theorem contract (H : Type) (enc : TypeId × Value → H) (W : World) (base : Nat) (args : Array Value) (ds gs : List (DataW H)) (before : List MemPlace)
    (hval : ∀ (j : Nat) t v, Tryz.f4.params[j]? = some t → args[j]? = some v → Value.okWide Tryz.prog W .any base t v)
    (hW : DataW.Whole enc Tryz.prog Tryz.f4.params.toList Rows.raftcoreSafeSpec.vars false W args.toList ds gs before) (hk : Rows.uptoSmall H (ds ++ gs) = true) :
    Calls Tryz.prog 4 args W fun e W' => ∃ v, e = .returned v ∧ Rows.raftcoreSafeSpec.post enc Tryz.prog Tryz.f4 false true false false W args v W' := by
  have hW' := hW
  obtain ⟨p, q, hA0, hV, rfl, hfz, hnd⟩ := hW
  have hA : DataW.TrodAll enc Tryz.prog W 0 (fun _ => true) true Tryz.f4.params.toList args.toList ds p := hA0
  rw [Tryz.params4] at hA hval
  obtain ⟨v0, vs0, d0, ds0, p0, q0, hargs, rfl, rfl, h0, r0⟩ := trodAll_cons hA
  obtain ⟨v1, vs1, d1, ds1, p1, q1, rfl, rfl, rfl, h1, r1⟩ := trodAll_cons r0
  obtain ⟨v2, vs2, d2, ds2, p2, q2, rfl, rfl, rfl, h2, r2⟩ := trodAll_cons r1
  obtain ⟨rfl, rfl, rfl⟩ := trodAll_nil r2
  obtain rfl : args = #[v0, v1, v2] := by cases args; simp_all
  obtain ⟨rfl, rfl⟩ := trodVars_none hV
  have hbound := of_decide_eq_true hk
  simp only [List.append_nil, Rows.uptoBulkAll] at hbound
  clear hA0 hA
  obtain ⟨fuel0, hf0⟩ := h0
  obtain ⟨x0, ⟨hcs0, rg0⟩, hb0⟩ := Lw.op_int fuel0 _ d0 p0 hf0
  obtain ⟨y0, rfl, _⟩ := okWide_int Tryz.underlying3 (hval 0 3 v0 rfl rfl)
  simp only [Value.cells, List.cons.injEq, and_true] at hcs0
  rw [hcs0] at hW' ⊢
  obtain ⟨fuel1, hf1⟩ := h1
  obtain ⟨x1, ⟨hcs1, rg1⟩, hb1⟩ := Lw.op_int fuel1 _ d1 p1 hf1
  obtain ⟨y1, rfl, _⟩ := okWide_int Tryz.underlying3 (hval 1 3 v1 rfl rfl)
  simp only [Value.cells, List.cons.injEq, and_true] at hcs1
  rw [hcs1] at hW' ⊢
  obtain ⟨fuel2, hf2⟩ := h2
  obtain ⟨x2, ⟨xa2, xc2, hcs2, im2⟩, hb2⟩ := Lw.op_acts fuel2 _ d2 p2 hf2
  obtain ⟨a2, len2, cap2, rfl⟩ := okWide_slice Tryz.underlying69 (hval 2 69 v2 rfl rfl)
  simp only [Value.cells, List.cons.injEq, and_true] at hcs2
  rw [hcs2] at hW' ⊢
  simp only [Lw.blk] at hb0 hb1 hb2
  exact Lw.law_end laidOut (by kernel_rfl) rfl rfl Tryz.underlying4 hW' ⟨rfl, rfl, rfl⟩ (Lw.RaftcoreSafe_ct (Lw.all_good W) rg0 rg1 im2 (by omega))
noncomputable def laidWorld (os : Os) : World := World.holding Tryz.prog os ⟨#[], #[], []⟩
theorem laid_met (w : World) : laidMet Tryz.prog Rows.raftcoreSafeUptoRow.laid w := ⟨[], rfl, List.nodup_nil, fun _ _ h => by cases h⟩
theorem reads (os : Os) {H : Type} (enc : TypeId × Value → H) : ∃ places, DataW.whole enc Tryz.prog ((laidWorld os).forCall (fun _ _ => 0) ⟨#[], #[.int .i64 0, .int .i64 0, .slice none 0 0], []⟩).memory Tryz.f4.params.toList Rows.raftcoreSafeSpec.vars false #[Value.int .i64 0, .int .i64 0, .slice none 0 0].toList 8 = some ([.lit (.int .i64 0), .lit (.int .i64 0), .nil], [], places) :=
  ⟨[], by kernel_rfl⟩
theorem liftedUpto (os : Os) (started : os.Started) (H : Type) (enc : TypeId × Value → H) (F : Stop.Interp) :
    ReturnsInHanded {} Tryz.checked os 4 .any ((Rows.OpenSpec.upto Rows.raftcoreSafeSpec).preRow enc Tryz.prog Tryz.f4 Rows.raftcoreSafeUptoRow.domain false Rows.raftcoreSafeUptoRow.laid) (((Rows.OpenSpec.upto Rows.raftcoreSafeSpec).at F).post enc Tryz.prog Tryz.f4 false true false false) := by
  obtain ⟨places, hx⟩ := reads os enc
  refine returnsInHanded_of_row (C := Tryz.checked) (s := Rows.OpenSpec.upto Rows.raftcoreSafeSpec) own started (by kernel_rfl) Tryz.func4
    (witness_row_at (enc := enc) (C := Tryz.checked) false (laidWorld os) #[.int .i64 0, .int .i64 0, .slice none 0 0] rfl (by kernel_rfl) (by kernel_rfl) (by kernel_rfl)
      (OpenSpec.preRow_of_cond 8 hx (by kernel_rfl) (fun k hk => by cases hk; kernel_rfl) (by kernel_rfl) (laid_met _))) ?_
  intro W base args ds gs before hval hW _ hcond _ hL _ _
  exact contract H enc W base args ds gs before hval hW (hcond _ rfl)
theorem saidUpto : Rows.RaftcoreSafeUptoSaid :=
  OpenClaim.holds_of_cond 4 Tryz.f4 rfl rfl rfl rfl rfl rfl rfl ⟨rfl, rfl, rfl, rfl, rfl⟩ rfl rfl rfl rfl rfl (by kernel_rfl) Tryz.func4 (by kernel_rfl)
    (of_decide_eq_true (by kernel_rfl)) (by unfold Func.isWrapper; first | (rw [if_pos (by decide +kernel)]; kernel_rfl) | (rw [if_neg (by decide +kernel)]; exact ⟨rfl, rfl⟩))
    (fun os started H enc _ F => by rw [OpenClaim.pre_eq_preRow]; exact liftedUpto os started H enc F)
end raftcoreSafeLaw
theorem raftcoreSafe_upto : Rows.RaftcoreSafeUptoSaid := raftcoreSafeLaw.saidUpto
#print axioms raftcoreSafe_upto
end Go.Proofs.YtpjclnomaemokaaGreat
