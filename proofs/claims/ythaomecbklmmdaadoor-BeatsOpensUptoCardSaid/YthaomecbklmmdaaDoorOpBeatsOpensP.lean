/-
  BeatsOpens: Open of any packet tells the document's messages, or the error, and the packet stays: the law returns true and its argument reads as it read before. Conditions: what the argument holds is of bulk at most 1048576 (the second form of the statement); the handle errors.errorType is as the program's text lays it (tied).
-/
import Derived.Test.YthaomecbklmmdaaDoorOpBoJ
import Derived.Test.YthaomecbklmmdaaDoorOpBxLaid
import Derived.Test.YthaomecbklmmdaaDoorCards
import Derived.Test.YthaomecbklmmdaaDoorTie
import Derived.WalkKit
import Derived.Deep.DeepHandedRow
namespace Go.Proofs.YthaomecbklmmdaaDoor
open Go.ChangeShapes Go.WideShapes Go.ChangeAt Go.RowKit

namespace beatsOpensLaw

set_option maxRecDepth 100000 in
theorem contract (H : Type) (enc : TypeId × Value → H) (W : World) (base : Nat) (args : Array Value) (ds gs : List (DataW H)) (before : List MemPlace)
    (hval : ∀ (j : Nat) t v, Tryd.f3.params[j]? = some t → args[j]? = some v → Value.okWide Tryd.prog W .any base t v)
    (hW : DataW.Whole enc Tryd.prog Tryd.f3.params.toList Rows.beatsOpensSpec.vars false W args.toList ds gs before) (hL : laidMetH Tryd.prog Two.laid W) (hk : Rows.uptoSmall H (ds ++ gs) = true) :
    Calls Tryd.prog 3 args W fun e W' => ∃ v, e = .returned v ∧ Rows.beatsOpensSpec.post enc Tryd.prog Tryd.f3 false true false false W args v W' := by
  have hW' := hW
  obtain ⟨p, q, hA0, hV, rfl, hfz, hnd⟩ := hW
  have hA : DataW.TrodAll enc Tryd.prog W 0 (fun _ => true) true Tryd.f3.params.toList args.toList ds p := hA0
  rw [Tryd.params3] at hA hval
  obtain ⟨v0, vs0, d0, ds0, p0, q0, hargs, rfl, rfl, h0, r0⟩ := trodAll_cons hA
  obtain ⟨rfl, rfl, rfl⟩ := trodAll_nil r0
  obtain rfl : args = #[v0] := by cases args; simp_all
  obtain ⟨rfl, rfl⟩ := trodVars_none hV
  have hbound := of_decide_eq_true hk
  simp only [List.append_nil, Rows.uptoBulkAll] at hbound
  clear hA0 hA
  have hE := Two.et_of_laid hL
  obtain ⟨fuel0, hf0⟩ := h0
  obtain ⟨x0, hcs0, hb0⟩ := Lw.op_packet fuel0 _ d0 p0 hf0
  obtain ⟨cs0, rfl, _⟩ := okWide_struct Tryd.underlying24 (hval 0 24 v0 rfl rfl)
  simp only [Value.cells] at hcs0
  simp only [Lw.blk] at hb0
  exact Lw.law_end Two.laidOut (by kernel_rfl) rfl rfl Tryd.underlying4 hW' ⟨rfl, rfl, rfl⟩ (Lw.BeatsOpens_ct (Lw.all_good W) hE hcs0 (by omega))

theorem reads (os : Os) {H : Type} (enc : TypeId × Value → H) : ∃ places, DataW.whole enc Tryd.prog ((Two.world os).forCall (fun _ _ => 0) ⟨#[], #[Value.agg #[.int .i64 0, .int .i64 0, .int .i64 0, .slice none 0 0]], []⟩).memory Tryd.f3.params.toList Rows.beatsOpensSpec.vars false #[Value.agg #[Value.int .i64 0, .int .i64 0, .int .i64 0, Value.slice none 0 0]].toList 8 = some ([.agg [.lit (.int .i64 0), .lit (.int .i64 0), .lit (.int .i64 0), .nil]], [], places) :=
  ⟨[], by kernel_rfl⟩

set_option maxRecDepth 100000 in
theorem liftedUpto (os : Os) (started : os.Started) (H : Type) (enc : TypeId × Value → H) (F : Stop.Interp) :
    ReturnsInHanded {} Tryd.checked os 3 .any ((Rows.OpenSpec.upto Rows.beatsOpensSpec).preRow enc Tryd.prog Tryd.f3 Rows.beatsOpensUptoRow.domain false Rows.beatsOpensUptoRow.laid) (((Rows.OpenSpec.upto Rows.beatsOpensSpec).at F).post enc Tryd.prog Tryd.f3 false true false false) := by
  obtain ⟨places, hx⟩ := reads os enc
  refine returnsInHanded_of_row (C := Tryd.checked) (s := Rows.OpenSpec.upto Rows.beatsOpensSpec) Two.own started (by kernel_rfl) Tryd.func3
    (witness_row_at (enc := enc) (C := Tryd.checked) false (Two.world os) #[Value.agg #[.int .i64 0, .int .i64 0, .int .i64 0, .slice none 0 0]] rfl (by kernel_rfl) (by kernel_rfl) (by kernel_rfl)
      (OpenSpec.preRow_of_cond 8 hx (by kernel_rfl) (fun k hk => by cases hk; kernel_rfl) (by kernel_rfl) (Two.met os _))) ?_
  intro W base args ds gs before hval hW _ hcond _ hL _ _
  exact contract H enc W base args ds gs before hval hW hL (hcond _ rfl)

theorem saidUpto : Rows.BeatsOpensUptoSaid :=
  OpenClaim.holds_of_cond 3 Tryd.f3 rfl rfl rfl rfl rfl rfl rfl ⟨rfl, rfl, rfl, rfl, rfl⟩ rfl rfl rfl rfl rfl (by kernel_rfl) Tryd.func3 (by kernel_rfl)
    (of_decide_eq_true (by kernel_rfl)) (by unfold Func.isWrapper; first | (rw [if_pos (by decide +kernel)]; kernel_rfl) | (rw [if_neg (by decide +kernel)]; exact ⟨rfl, rfl⟩))
    (fun os started H enc _ F => by rw [OpenClaim.pre_eq_preRow]; exact liftedUpto os started H enc F)
theorem plain (f : FuncId) (fn : Func) (hf : Tryd.pinned.checked.prog.funcNamed "gazette/gazettelaw11.BeatsOpens" = some f) (hfn : Tryd.pinned.checked.prog.funcs[f]? = some fn) :
    true = Tryd.pinned.checked.prog.looks [] ∧ ∀ (j : Nat) t, fn.params[j]? = some t → Tryd.pinned.checked.prog.wantsStandIn t = false := by
  obtain rfl : f = 3 := Option.some.inj ((show Tryd.prog.funcNamed "gazette/gazettelaw11.BeatsOpens" = some 3 by kernel_rfl).symm.trans hf) |>.symm
  obtain rfl : fn = Tryd.f3 := (Option.some.inj (Tryd.func3.symm.trans hfn)).symm
  refine ⟨by kernel_rfl, fun j t ht => ?_⟩
  rw [Tryd.params3] at ht
  have hall : ∀ t ∈ [24], Tryd.prog.wantsStandIn t = false := by
    intro t ht
    simp only [List.mem_cons, List.not_mem_nil, or_false] at ht
    subst ht; kernel_rfl
  exact hall t (by simpa using Array.mem_of_getElem? ht)
end beatsOpensLaw

theorem beatsOpens_card : Rows.BeatsOpensUptoCardSaid :=
  Claim7.holds_tied_plain_at .later [] _ _ _ _ beatsOpensLaw.saidUpto (fun _ h => by cases h) (by kernel_rfl) (fun _ h => by cases h) beatsOpensUpto_row_tie rfl ⟨rfl, rfl⟩ (by kernel_rfl) rfl beatsOpensLaw.plain (by kernel_rfl)
#print axioms beatsOpens_card
end Go.Proofs.YthaomecbklmmdaaDoor
