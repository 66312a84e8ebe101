/-
  BeatsBack: what was packed is told again, each message once, those to one node in order, and what is told makes the packet again: the law returns true and its arguments read as they read before. Conditions: what the arguments hold is of bulk at most 1048576 (the second form of the statement); the handle errors.errorType is as the program's text lays it (tied).
-/
import Derived.Test.YthaomecbklmmdaaDoorBkBoH
import Derived.Test.YthaomecbklmmdaaDoorBkBxOpen
import Derived.Test.YthaomecbklmmdaaDoorBkBxLaid
import Derived.Test.YthaomecbklmmdaaDoorCards
import Derived.Test.YthaomecbklmmdaaDoorTie
import Derived.WalkKit
import Derived.Deep.DeepHandedRow
namespace Go.Proofs.YthaomecbklmmdaaDoor
open Go.ChangeShapes Go.WideShapes Go.ChangeAt Go.RowKit

namespace beatsBackLaw

set_option maxRecDepth 100000 in
theorem contract (H : Type) (enc : TypeId × Value → H) (W : World) (base : Nat) (args : Array Value) (ds gs : List (DataW H)) (before : List MemPlace)
    (hval : ∀ (j : Nat) t v, Tryd.f4.params[j]? = some t → args[j]? = some v → Value.okWide Tryd.prog W .any base t v)
    (hW : DataW.Whole enc Tryd.prog Tryd.f4.params.toList Rows.beatsBackSpec.vars false W args.toList ds gs before) (hL : laidMetH Tryd.prog Two.laid W) (hk : Rows.uptoSmall H (ds ++ gs) = true) :
    Calls Tryd.prog 4 args W fun e W' => ∃ v, e = .returned v ∧ Rows.beatsBackSpec.post enc Tryd.prog Tryd.f4 false true false false W args v W' := by
  have hW' := hW
  obtain ⟨p, q, hA0, hV, rfl, hfz, hnd⟩ := hW
  have hA : DataW.TrodAll enc Tryd.prog W 0 (fun _ => true) true Tryd.f4.params.toList args.toList ds p := hA0
  rw [Tryd.params4] at hA hval
  obtain ⟨v0, vs0, d0, ds0, p0, q0, hargs, rfl, rfl, h0, r0⟩ := trodAll_cons hA
  obtain ⟨v1, vs1, d1, ds1, p1, q1, rfl, rfl, rfl, h1, r1⟩ := trodAll_cons r0
  obtain ⟨rfl, rfl, rfl⟩ := trodAll_nil r1
  obtain rfl : args = #[v0, v1] := by cases args; simp_all
  obtain ⟨rfl, rfl⟩ := trodVars_none hV
  have hbound := of_decide_eq_true hk
  simp only [List.append_nil, Rows.uptoBulkAll] at hbound
  clear hA0 hA
  have hE := Two.et_of_laid hL
  obtain ⟨fuel0, hf0⟩ := h0
  obtain ⟨x0, ⟨hcs0, rg0⟩, hb0⟩ := Lw.op_int fuel0 _ d0 p0 hf0
  obtain ⟨y0, rfl, _⟩ := okWide_int Tryd.underlying3 (hval 0 3 v0 rfl rfl)
  simp only [Value.cells, List.cons.injEq, and_true] at hcs0
  rw [hcs0] at hW' ⊢
  obtain ⟨fuel1, hf1⟩ := h1
  obtain ⟨x1, ⟨xa1, xc1, hcs1, im1⟩, hb1⟩ := Lw.op_wires fuel1 _ d1 p1 hf1
  obtain ⟨a1, len1, cap1, rfl⟩ := okWide_slice Tryd.underlying30 (hval 1 30 v1 rfl rfl)
  simp only [Value.cells, List.cons.injEq, and_true] at hcs1
  rw [hcs1] at hW' ⊢
  simp only [Lw.blk] at hb0 hb1
  exact Lw.law_end Two.laidOut (by kernel_rfl) rfl rfl Tryd.underlying4 hW' ⟨rfl, rfl, rfl⟩ (Lw.BeatsBack_ct (Lw.all_good W) hE im1 rg0 (Lw.wires_ok hb1 (by omega)).1 (Lw.wires_ok hb1 (by omega)).2)

theorem reads (os : Os) {H : Type} (enc : TypeId × Value → H) : ∃ places, DataW.whole enc Tryd.prog ((Two.world os).forCall (fun _ _ => 0) ⟨#[], #[.int .i64 0, .slice none 0 0], []⟩).memory Tryd.f4.params.toList Rows.beatsBackSpec.vars false #[Value.int .i64 0, Value.slice none 0 0].toList 8 = some ([.lit (.int .i64 0), .nil], [], places) :=
  ⟨[], by kernel_rfl⟩

set_option maxRecDepth 100000 in
theorem liftedUpto (os : Os) (started : os.Started) (H : Type) (enc : TypeId × Value → H) (F : Stop.Interp) :
    ReturnsInHanded {} Tryd.checked os 4 .any ((Rows.OpenSpec.upto Rows.beatsBackSpec).preRow enc Tryd.prog Tryd.f4 Rows.beatsBackUptoRow.domain false Rows.beatsBackUptoRow.laid) (((Rows.OpenSpec.upto Rows.beatsBackSpec).at F).post enc Tryd.prog Tryd.f4 false true false false) := by
  obtain ⟨places, hx⟩ := reads os enc
  refine returnsInHanded_of_row (C := Tryd.checked) (s := Rows.OpenSpec.upto Rows.beatsBackSpec) Two.own started (by kernel_rfl) Tryd.func4
    (witness_row_at (enc := enc) (C := Tryd.checked) false (Two.world os) #[.int .i64 0, .slice none 0 0] rfl (by kernel_rfl) (by kernel_rfl) (by kernel_rfl)
      (OpenSpec.preRow_of_cond 8 hx (by kernel_rfl) (fun k hk => by cases hk; kernel_rfl) (by kernel_rfl) (Two.met os _))) ?_
  intro W base args ds gs before hval hW _ hcond _ hL _ _
  exact contract H enc W base args ds gs before hval hW hL (hcond _ rfl)

theorem saidUpto : Rows.BeatsBackUptoSaid :=
  OpenClaim.holds_of_cond 4 Tryd.f4 rfl rfl rfl rfl rfl rfl rfl ⟨rfl, rfl, rfl, rfl, rfl⟩ rfl rfl rfl rfl rfl (by kernel_rfl) Tryd.func4 (by kernel_rfl)
    (of_decide_eq_true (by kernel_rfl)) (by unfold Func.isWrapper; first | (rw [if_pos (by decide +kernel)]; kernel_rfl) | (rw [if_neg (by decide +kernel)]; exact ⟨rfl, rfl⟩))
    (fun os started H enc _ F => by rw [OpenClaim.pre_eq_preRow]; exact liftedUpto os started H enc F)
theorem plain (f : FuncId) (fn : Func) (hf : Tryd.pinned.checked.prog.funcNamed "gazette/gazettelaw11.BeatsBack" = some f) (hfn : Tryd.pinned.checked.prog.funcs[f]? = some fn) :
    true = Tryd.pinned.checked.prog.looks [] ∧ ∀ (j : Nat) t, fn.params[j]? = some t → Tryd.pinned.checked.prog.wantsStandIn t = false := by
  obtain rfl : f = 4 := Option.some.inj ((show Tryd.prog.funcNamed "gazette/gazettelaw11.BeatsBack" = some 4 by kernel_rfl).symm.trans hf) |>.symm
  obtain rfl : fn = Tryd.f4 := (Option.some.inj (Tryd.func4.symm.trans hfn)).symm
  refine ⟨by kernel_rfl, fun j t ht => ?_⟩
  rw [Tryd.params4] at ht
  have hall : ∀ t ∈ [3, 30], Tryd.prog.wantsStandIn t = false := by
    intro t ht
    simp only [List.mem_cons, List.not_mem_nil, or_false] at ht
    rcases ht with rfl | rfl <;> kernel_rfl
  exact hall t (by simpa using Array.mem_of_getElem? ht)
end beatsBackLaw

theorem beatsBack_card : Rows.BeatsBackUptoCardSaid :=
  Claim7.holds_tied_plain_at .later [] _ _ _ _ beatsBackLaw.saidUpto (fun _ h => by cases h) (by kernel_rfl) (fun _ h => by cases h) beatsBackUpto_row_tie rfl ⟨rfl, rfl⟩ (by kernel_rfl) rfl beatsBackLaw.plain (by kernel_rfl)
#print axioms beatsBack_card
end Go.Proofs.YthaomecbklmmdaaDoor
