/-
  CodecNames: the errors by their numbers, rows of the examples: the law returns true. Conditions: the table codec.sums and the handle errors.errorType are as the program's text lays them (tied); the second form of the statement.
-/
import Derived.Test.YtcbifehmmfjioaaDoorNmsCodecNm
import Derived.Test.YtcbifehmmfjioaaDoorNmsCodecLaid
import Derived.Test.YtcbifehmmfjioaaDoorCards
import Derived.Test.YtcbifehmmfjioaaDoorTie
import Derived.WalkKit
import Derived.Deep.DeepHandedRow
namespace Go.Proofs.YtcbifehmmfjioaaDoor
open Go.ChangeShapes Go.WideShapes Go.ChangeAt Go.RowKit

namespace codecNamesLaw
set_option maxRecDepth 100000 in
theorem contract (H : Type) (enc : TypeId × Value → H) (W : World) (base : Nat) (args : Array Value) (ds gs : List (DataW H)) (before : List MemPlace)
    (hW : DataW.Whole enc Tryd.prog Tryd.f10.params.toList Rows.codecNamesSpec.vars false W args.toList ds gs before) (hL : laidMetH Tryd.prog Two.laid W) :
    Calls Tryd.prog 10 args W fun e W' => ∃ v, e = .returned v ∧ Rows.codecNamesSpec.post enc Tryd.prog Tryd.f10 false true false false W args v W' := by
  have hW' := hW
  obtain ⟨p, q, hA0, hV, rfl, hfz, hnd⟩ := hW
  have hA : DataW.TrodAll enc Tryd.prog W 0 (fun _ => true) true Tryd.f10.params.toList args.toList ds p := hA0
  rw [Tryd.params10] at hA
  obtain ⟨hargs, rfl, rfl⟩ := trodAll_nil hA
  obtain rfl : args = #[] := by cases args; simp_all
  obtain ⟨rfl, rfl⟩ := trodVars_none hV
  clear hA0 hA
  exact Lw.law_end Two.laidOut (by kernel_rfl) rfl rfl Tryd.underlying4 hW' ⟨rfl, rfl, rfl⟩ (Lw.CodecNames_ct (Lw.all_good W) (Two.et_of_laid hL) (Two.tab_of_laid hL))

theorem reads (os : Os) {H : Type} (enc : TypeId × Value → H) : ∃ places, DataW.whole enc Tryd.prog ((Two.world os).forCall (fun _ _ => 0) ⟨#[], #[], []⟩).memory Tryd.f10.params.toList Rows.codecNamesSpec.vars false (#[] : Array Value).toList 8 = some ([], [], places) :=
  ⟨[], by kernel_rfl⟩

set_option maxRecDepth 100000 in
theorem liftedUpto (os : Os) (started : os.Started) (H : Type) (enc : TypeId × Value → H) (G : Stop.Interp) :
    ReturnsInHanded {} Tryd.checked os 10 .any ((Rows.OpenSpec.upto Rows.codecNamesSpec).preRow enc Tryd.prog Tryd.f10 Rows.codecNamesUptoRow.domain false Rows.codecNamesUptoRow.laid) (((Rows.OpenSpec.upto Rows.codecNamesSpec).at G).post enc Tryd.prog Tryd.f10 false true false false) := by
  obtain ⟨places, hx⟩ := reads os enc
  refine returnsInHanded_of_row (C := Tryd.checked) (s := Rows.OpenSpec.upto Rows.codecNamesSpec) Two.own started (by kernel_rfl) Tryd.func10
    (witness_row_at (enc := enc) (C := Tryd.checked) false (Two.world os) #[] rfl (by kernel_rfl) (by kernel_rfl) (by kernel_rfl)
      (OpenSpec.preRow_of_cond 8 hx (by kernel_rfl) (fun k hk => by cases hk; kernel_rfl) (by kernel_rfl) (Two.met os _))) ?_
  intro W base args ds gs before _ hW _ _ _ hL _ _
  exact contract H enc W base args ds gs before hW hL

theorem saidUpto : Rows.CodecNamesUptoSaid :=
  OpenClaim.holds_of_cond 10 Tryd.f10 rfl rfl rfl rfl rfl rfl rfl ⟨rfl, rfl, rfl, rfl, rfl⟩ rfl rfl rfl rfl rfl (by kernel_rfl) Tryd.func10 (by kernel_rfl)
    (of_decide_eq_true (by kernel_rfl)) (by unfold Func.isWrapper; first | (rw [if_pos (by decide +kernel)]; kernel_rfl) | (rw [if_neg (by decide +kernel)]; exact ⟨rfl, rfl⟩))
    (fun os started H enc _ G => by rw [OpenClaim.pre_eq_preRow]; exact liftedUpto os started H enc G)
theorem plain (f : FuncId) (fn : Func) (hf : Tryd.pinned.checked.prog.funcNamed "gazette/gazettelaw01.CodecNames" = some f) (hfn : Tryd.pinned.checked.prog.funcs[f]? = some fn) :
    true = Tryd.pinned.checked.prog.looks [] ∧ ∀ (j : Nat) t, fn.params[j]? = some t → Tryd.pinned.checked.prog.wantsStandIn t = false := by
  obtain rfl : f = 10 := Option.some.inj ((show Tryd.prog.funcNamed "gazette/gazettelaw01.CodecNames" = some 10 by kernel_rfl).symm.trans hf) |>.symm
  obtain rfl : fn = Tryd.f10 := (Option.some.inj (Tryd.func10.symm.trans hfn)).symm
  refine ⟨by kernel_rfl, fun j t ht => ?_⟩
  rw [Tryd.params10] at ht
  simp at ht
end codecNamesLaw

theorem codecNames_card : Rows.CodecNamesUptoCardSaid :=
  Claim7.holds_tied_plain_at .later [] _ _ _ _ codecNamesLaw.saidUpto (fun _ h => by cases h) (by kernel_rfl) (fun _ h => by cases h) codecNamesUpto_row_tie rfl ⟨rfl, rfl⟩ (by kernel_rfl) rfl codecNamesLaw.plain (by kernel_rfl)
#print axioms codecNames_card
end Go.Proofs.YtcbifehmmfjioaaDoor
