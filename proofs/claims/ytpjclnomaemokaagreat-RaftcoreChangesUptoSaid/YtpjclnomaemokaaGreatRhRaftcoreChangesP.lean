/-
  RaftcoreChanges: a group where no message is lost: rounds come to a leader who has committed all that it has; a change that it is asked for it answers as the rules for changes say, its members are then as the rules say, and rounds come to rest again, till all changes are done or six of them; all nodes hold one log then: the law returns true and its arguments read as they read before. Condition: what the arguments hold is of bulk at most 1048576 (the second form of the statement).
-/
import Derived.Test.YtpjclnomaemokaaGreatRhA6
import Derived.WalkKit
import Derived.Deep.DeepHandedRow
set_option maxRecDepth 100000
set_option maxHeartbeats 16000000
set_option linter.all false
namespace Go.Proofs.YtpjclnomaemokaaGreat
open Go.ChangeShapes Go.WideShapes Go.ChangeAt Go.RowKit
namespace Yl
theorem own : ownKnob Tryz.prog.godebug = none := by kernel_rfl
theorem ahy : laidOutB Tryz.prog = true := by kernel_rfl
theorem MG (H : Type) (enc : TypeId × Value → H) (W : World) (aF : Nat) (args : Array Value) (ds gs : List (DataW H)) (before : List MemPlace)
    (wB : ∀ (j : Nat) t v, Tryz.f7.params[j]? = some t → args[j]? = some v → Value.okWide Tryz.prog W .any aF t v)
    (hW : DataW.Whole enc Tryz.prog Tryz.f7.params.toList Rows.raftcoreChangesSpec.vars false W args.toList ds gs before) (hk : Rows.uptoSmall H (ds ++ gs) = true) :
    Calls Tryz.prog 7 args W fun e W' => ∃ v, e = .returned v ∧ Rows.raftcoreChangesSpec.post enc Tryz.prog Tryz.f7 false true false false W args v W' := by
  have DW := hW
  obtain ⟨p, q, Uz, hV, rfl, hfz, ve⟩ := hW
  have hA : DataW.TrodAll enc Tryz.prog W 0 (fun _ => true) true Tryz.f7.params.toList args.toList ds p := Uz
  rw [Tryz.params7] at hA wB
  obtain ⟨v0, vs0, d0, ds0, p0, q0, pQ, rfl, rfl, h0, r0⟩ := trodAll_cons hA
  obtain ⟨v1, vs1, d1, ds1, p1, q1, rfl, rfl, rfl, h1, r1⟩ := trodAll_cons r0
  obtain ⟨v2, vs2, d2, ds2, p2, q2, rfl, rfl, rfl, h2, r2⟩ := trodAll_cons r1
  obtain ⟨rfl, rfl, rfl⟩ := trodAll_nil r2
  obtain rfl : args = #[v0, v1, v2] := by cases args; simp_all
  obtain ⟨rfl, rfl⟩ := trodVars_none hV
  have aeb := of_decide_eq_true hk
  simp only [List.append_nil, Rows.uptoBulkAll] at aeb
  clear Uz hA
  obtain ⟨fuel0, BD⟩ := h0
  obtain ⟨x0, ⟨Vl, rg0⟩, Bx⟩ := Lw.QW fuel0 _ d0 p0 BD
  obtain ⟨y0, rfl, _⟩ := okWide_int Tryz.underlying3 (wB 0 3 v0 rfl rfl)
  simp only [Value.cells, List.cons.injEq, and_true] at Vl
  rw [Vl] at DW ⊢
  obtain ⟨fuel1, lV⟩ := h1
  obtain ⟨x1, ⟨Vm, rg1⟩, cz⟩ := Lw.QW fuel1 _ d1 p1 lV
  obtain ⟨y1, rfl, _⟩ := okWide_int Tryz.underlying3 (wB 1 3 v1 rfl rfl)
  simp only [Value.cells, List.cons.injEq, and_true] at Vm
  rw [Vm] at DW ⊢
  obtain ⟨fuel2, BE⟩ := h2
  obtain ⟨x2, ⟨xa2, xc2, zq, im2⟩, gj⟩ := Lw.aiC fuel2 _ d2 p2 BE
  obtain ⟨a2, len2, cap2, rfl⟩ := okWide_slice Tryz.underlying91 (wB 2 91 v2 rfl rfl)
  simp only [Value.cells, List.cons.injEq, and_true] at zq
  rw [zq] at DW ⊢
  simp only [Lw.kK] at Bx cz gj
  exact Lw.ahC ahy (by kernel_rfl) rfl rfl Tryz.underlying4 DW ⟨rfl, rfl, rfl⟩ (Lw.aaE (Lw.aa4 W) rg0 rg1 im2 (by omega))
noncomputable def W4 (os : Os) : World := World.holding Tryz.prog os ⟨#[], #[], []⟩
theorem ahz (w : World) : laidMet Tryz.prog Rows.raftcoreChangesUptoRow.laid w := ⟨[], rfl, List.nodup_nil, fun _ _ h => by cases h⟩
theorem reads (os : Os) {H : Type} (enc : TypeId × Value → H) : ∃ places, DataW.whole enc Tryz.prog ((W4 os).forCall (fun _ _ => 0) ⟨#[], #[.int .i64 0, .int .i64 0, .slice none 0 0], []⟩).memory Tryz.f7.params.toList Rows.raftcoreChangesSpec.vars false #[Value.int .i64 0, .int .i64 0, .slice none 0 0].toList 8 = some ([.lit (.int .i64 0), .lit (.int .i64 0), .nil], [], places) :=
  ⟨[], by kernel_rfl⟩
theorem ahK (os : Os) (started : os.Started) (H : Type) (enc : TypeId × Value → H) (F : Stop.Interp) :
    ReturnsInHanded {} Tryz.checked os 7 .any ((Rows.OpenSpec.upto Rows.raftcoreChangesSpec).preRow enc Tryz.prog Tryz.f7 Rows.raftcoreChangesUptoRow.domain false Rows.raftcoreChangesUptoRow.laid) (((Rows.OpenSpec.upto Rows.raftcoreChangesSpec).at F).post enc Tryz.prog Tryz.f7 false true false false) := by
  obtain ⟨places, hx⟩ := reads os enc
  refine returnsInHanded_of_row (C := Tryz.checked) (s := Rows.OpenSpec.upto Rows.raftcoreChangesSpec) own started (by kernel_rfl) Tryz.func7
    (witness_row_at (enc := enc) (C := Tryz.checked) false (W4 os) #[.int .i64 0, .int .i64 0, .slice none 0 0] rfl (by kernel_rfl) (by kernel_rfl) (by kernel_rfl)
      (OpenSpec.preRow_of_cond 8 hx (by kernel_rfl) (fun k hk => by cases hk; kernel_rfl) (by kernel_rfl) (ahz _))) ?_
  intro W aF args ds gs before wB hW _ aen _ hL _ _
  exact MG H enc W aF args ds gs before wB hW (aen _ rfl)
theorem ajD : Rows.RaftcoreChangesUptoSaid :=
  OpenClaim.holds_of_cond 7 Tryz.f7 rfl rfl rfl rfl rfl rfl rfl ⟨rfl, rfl, rfl, rfl, rfl⟩ rfl rfl rfl rfl rfl (by kernel_rfl) Tryz.func7 (by kernel_rfl)
    (of_decide_eq_true (by kernel_rfl)) (by unfold Func.isWrapper; first | (rw [if_pos (by decide +kernel)]; kernel_rfl) | (rw [if_neg (by decide +kernel)]; exact ⟨rfl, rfl⟩))
    (fun os started H enc _ F => by rw [OpenClaim.pre_eq_preRow]; exact ahK os started H enc F)
end Yl
theorem raftcoreChanges_upto : Rows.RaftcoreChangesUptoSaid := Yl.ajD
#print axioms raftcoreChanges_upto
end Go.Proofs.YtpjclnomaemokaaGreat
