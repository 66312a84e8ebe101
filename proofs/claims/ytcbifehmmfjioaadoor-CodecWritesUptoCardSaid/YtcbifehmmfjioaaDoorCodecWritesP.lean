/-
  CodecWrites: for every list of things, what the Writer puts stands in the bytes as the document's answer says: the law returns true and its argument reads as it read before. Conditions: what the argument holds is of bulk at most 1048576 (the second form of the statement); the table codec.sums is as the program's text lays it (tied).
-/
import Derived.Test.YtcbifehmmfjioaaDoorCodecOpen
import Derived.Test.YtcbifehmmfjioaaDoorCards
import Derived.Test.YtcbifehmmfjioaaDoorTie
import Derived.WalkKit
import Derived.Deep.DeepHandedRow
namespace Go.Proofs.YtcbifehmmfjioaaDoor
open Go.ChangeShapes Go.WideShapes Go.ChangeAt Go.RowKit

namespace writesLaw
theorem own : ownKnob Tryd.prog.godebug = none := by kernel_rfl
theorem laidOut : laidOutB Tryd.prog = true := by kernel_rfl
theorem gTabType : (Tryd.prog.globals[0]?).map (·.type) = some 109 := by kernel_rfl
theorem cellsT : Tryd.prog.cellsOf 109 = 16 := by kernel_rfl
theorem cellsE : Tryd.prog.cellsOf 58 = 1 := by kernel_rfl

set_option maxRecDepth 100000 in
theorem table {W : World} (h : laidMetH Tryd.prog Rows.codecWritesRow.laid W) : Lib.TabIs Tryd.prog W "gazette/codec.sums" .u32 (Lw.tabs.map fun n : Nat => (n : Int)) :=
  Lib.tabIs_of_head (rest := []) Lw.gTab gTabType Tryd.underlying109 Tryd.underlying58 cellsE cellsT h

set_option maxRecDepth 100000 in
theorem contract (H : Type) (enc : TypeId × Value → H) (W : World) (base : Nat) (args : Array Value) (ds gs : List (DataW H)) (before : List MemPlace)
    (hval : ∀ (j : Nat) t v, Tryd.f3.params[j]? = some t → args[j]? = some v → Value.okWide Tryd.prog W .any base t v)
    (hW : DataW.Whole enc Tryd.prog Tryd.f3.params.toList Rows.codecWritesSpec.vars false W args.toList ds gs before) (hL : laidMetH Tryd.prog Rows.codecWritesRow.laid W) (hk : Rows.uptoSmall H (ds ++ gs) = true) :
    Calls Tryd.prog 3 args W fun e W' => ∃ v, e = .returned v ∧ Rows.codecWritesSpec.post enc Tryd.prog Tryd.f3 false true false false W args v W' := by
  have hW' := hW
  obtain ⟨p, q, hA0, hV, rfl, hfz, hnd⟩ := hW
  have hA : DataW.TrodAll enc Tryd.prog W 0 (fun _ => true) true Tryd.f3.params.toList args.toList ds p := hA0
  rw [Tryd.params3] at hA hval
  obtain ⟨v0, vs0, d0, ds0, p0, q0, hargs, rfl, rfl, h0, r0⟩ := trodAll_cons hA
  obtain ⟨rfl, rfl, rfl⟩ := trodAll_nil r0
  obtain rfl : args = #[v0] := by cases args; simp_all
  obtain ⟨rfl, rfl⟩ := trodVars_none hV
  obtain ⟨fuel, hf⟩ := h0
  obtain ⟨xs, ⟨xa, xc, hcs, himm⟩, hb⟩ := Lw.op_things fuel _ d0 p0 hf
  obtain ⟨a1, len, cap, rfl⟩ := okWide_slice Tryd.underlying22 (hval 0 22 v0 rfl rfl)
  simp only [Value.cells, List.cons.injEq, and_true] at hcs
  rw [hcs] at hW' ⊢
  have hbound := of_decide_eq_true hk
  simp only [List.append_nil, Rows.uptoBulkAll] at hbound
  simp only [Lw.blk] at hb
  have hbulk := Lw.bulkAll_le xs
  exact Lw.law_end laidOut (by kernel_rfl) rfl rfl Tryd.underlying4 hW' ⟨rfl, rfl, rfl⟩ (Lw.CodecWrites_ct (Lw.all_good W) himm (Lw.tab_holds (table hL)) (by omega))

noncomputable def laidWorld (os : Os) : World :=
  { World.holding Tryd.prog os ⟨#[], #[], []⟩ with heap := (World.holding Tryd.prog os ⟨#[], #[], []⟩).heap.modify 0 fun
      | .cells _ t frozen => .cells Lw.tabVs.toArray t frozen
      | o => o }
theorem laid_met (os : Os) : laidMet Tryd.prog Rows.codecWritesRow.laid ((laidWorld os).forCall (fun _ _ => 0) ⟨#[], #[.slice none 0 0], []⟩).memory :=
  laidMet_of_run' 8 (by kernel_rfl) (by kernel_rfl)
theorem reads (os : Os) {H : Type} (enc : TypeId × Value → H) : ∃ places, DataW.whole enc Tryd.prog ((laidWorld os).forCall (fun _ _ => 0) ⟨#[], #[.slice none 0 0], []⟩).memory Tryd.f3.params.toList Rows.codecWritesSpec.vars false #[Value.slice none 0 0].toList 8 = some ([.nil], [], places) :=
  ⟨[], by kernel_rfl⟩

set_option maxRecDepth 100000 in
theorem liftedUpto (os : Os) (started : os.Started) (H : Type) (enc : TypeId × Value → H) (F : Stop.Interp) :
    ReturnsInHanded {} Tryd.checked os 3 .any ((Rows.OpenSpec.upto Rows.codecWritesSpec).preRow enc Tryd.prog Tryd.f3 Rows.codecWritesUptoRow.domain false Rows.codecWritesUptoRow.laid) (((Rows.OpenSpec.upto Rows.codecWritesSpec).at F).post enc Tryd.prog Tryd.f3 false true false false) := by
  obtain ⟨places, hx⟩ := reads os enc
  refine returnsInHanded_of_row (C := Tryd.checked) (s := Rows.OpenSpec.upto Rows.codecWritesSpec) own started (by kernel_rfl) Tryd.func3
    (witness_row_at (enc := enc) (C := Tryd.checked) false (laidWorld os) #[.slice none 0 0] rfl (by kernel_rfl) (by kernel_rfl) (by kernel_rfl)
      (OpenSpec.preRow_of_cond 8 hx (by kernel_rfl) (fun k hk => by cases hk; kernel_rfl) (by kernel_rfl) (laid_met os))) ?_
  intro W base args ds gs before hval hW _ hcond _ hL _ _
  exact contract H enc W base args ds gs before hval hW hL (hcond _ rfl)

theorem saidUpto : Rows.CodecWritesUptoSaid :=
  OpenClaim.holds_of_cond 3 Tryd.f3 rfl rfl rfl rfl rfl rfl rfl ⟨rfl, rfl, rfl, rfl, rfl⟩ rfl rfl rfl rfl rfl (by kernel_rfl) Tryd.func3 (by kernel_rfl)
    (of_decide_eq_true (by kernel_rfl)) (by unfold Func.isWrapper; first | (rw [if_pos (by decide +kernel)]; kernel_rfl) | (rw [if_neg (by decide +kernel)]; exact ⟨rfl, rfl⟩))
    (fun os started H enc _ F => by rw [OpenClaim.pre_eq_preRow]; exact liftedUpto os started H enc F)

theorem plain (f : FuncId) (fn : Func) (hf : Tryd.pinned.checked.prog.funcNamed "gazette/gazettelaw01.CodecWrites" = some f) (hfn : Tryd.pinned.checked.prog.funcs[f]? = some fn) :
    true = Tryd.pinned.checked.prog.looks [] ∧ ∀ (j : Nat) t, fn.params[j]? = some t → Tryd.pinned.checked.prog.wantsStandIn t = false := by
  obtain rfl : f = 3 := Option.some.inj ((show Tryd.prog.funcNamed "gazette/gazettelaw01.CodecWrites" = some 3 by kernel_rfl).symm.trans hf) |>.symm
  obtain rfl : fn = Tryd.f3 := (Option.some.inj (Tryd.func3.symm.trans hfn)).symm
  refine ⟨by kernel_rfl, fun j t ht => ?_⟩
  rw [Tryd.params3] at ht
  obtain rfl : t = 22 := by simpa using Array.mem_of_getElem? ht
  exact (show Tryd.prog.wantsStandIn 22 = false by kernel_rfl)
end writesLaw

theorem codecWrites_card : Rows.CodecWritesUptoCardSaid :=
  Claim7.holds_tied_plain_at .later [] _ _ _ _ writesLaw.saidUpto (fun _ h => by cases h) (by kernel_rfl) (fun _ h => by cases h) codecWritesUpto_row_tie rfl ⟨rfl, rfl⟩ (by kernel_rfl) rfl writesLaw.plain (by kernel_rfl)
#print axioms codecWrites_card
end Go.Proofs.YtcbifehmmfjioaaDoor
