/-
  CodecReads: whatever is read, from whatever bytes, is the document's, and so is the first error and its place: the law returns true and its arguments read as they read before. Conditions: what the arguments hold is of bulk at most 1048576 (the second form of the statement); the table codec.sums and the handle errors.errorType are as the program's text lays them (tied).
-/
import Derived.Test.YtcbifehmmfjioaaDoorCodecRt
import Derived.Test.YtcbifehmmfjioaaDoorCodecLaid
import Derived.Test.YtcbifehmmfjioaaDoorCards
import Derived.Test.YtcbifehmmfjioaaDoorTie
import Derived.WalkKit
import Derived.Deep.DeepHandedRow
namespace Go.Proofs.YtcbifehmmfjioaaDoor
open Go.ChangeShapes Go.WideShapes Go.ChangeAt Go.RowKit

namespace codecReadsLaw
theorem coStep : Tryd.prog.cellsOf 68 = 2 := by kernel_rfl
theorem op_step {H : Type} {enc : TypeId × Value → H} {W : World} : Lw.Op enc W 68 Lw.RStep (fun _ => 0) :=
  (Lw.opens_struct Tryd.underlying68 (by kernel_rfl) (Lw.opens_cons rfl (by kernel_rfl : _ = 1) Lw.op_int (Lw.opens_cons rfl (by kernel_rfl : _ = 1) Lw.op_int (Lw.opens_nil _))) Lw.blk_agg).imp
    (fun x => (⟨x.1, x.2.1⟩ : Lw.Step)) (fun s vs x h => by
      obtain ⟨_, _, rfl, _, ⟨rfl, h1⟩, _, _, rfl, _, ⟨rfl, h2⟩, h3⟩ := h
      cases (show _ = [] from h3)
      exact ⟨rfl, h1, h2⟩) (fun x => Nat.zero_le _)
theorem op_steps {H : Type} {enc : TypeId × Value → H} {W : World} : Lw.Op enc W 62 (Lw.RSl Lw.RStep 2) (fun xs => max xs.length ((xs.map fun _ => 0).sum)) :=
  Lw.opens_slice Tryd.underlying62 coStep (by decide) op_step Lw.blk_slice Lw.blk_len

set_option maxRecDepth 100000 in
theorem contract (H : Type) (enc : TypeId × Value → H) (W : World) (base : Nat) (args : Array Value) (ds gs : List (DataW H)) (before : List MemPlace)
    (hval : ∀ (j : Nat) t v, Tryd.f7.params[j]? = some t → args[j]? = some v → Value.okWide Tryd.prog W .any base t v)
    (hW : DataW.Whole enc Tryd.prog Tryd.f7.params.toList Rows.codecReadsSpec.vars false W args.toList ds gs before) (hL : laidMetH Tryd.prog Two.laid W) (hk : Rows.uptoSmall H (ds ++ gs) = true) :
    Calls Tryd.prog 7 args W fun e W' => ∃ v, e = .returned v ∧ Rows.codecReadsSpec.post enc Tryd.prog Tryd.f7 false true false false W args v W' := by
  have hW' := hW
  obtain ⟨p, q, hA0, hV, rfl, hfz, hnd⟩ := hW
  have hA : DataW.TrodAll enc Tryd.prog W 0 (fun _ => true) true Tryd.f7.params.toList args.toList ds p := hA0
  rw [Tryd.params7] at hA hval
  obtain ⟨v0, vs0, d0, ds0, p0, q0, hargs, rfl, rfl, h0, r0⟩ := trodAll_cons hA
  obtain ⟨v1, vs1, d1, ds1, p1, q1, rfl, rfl, rfl, h1, r1⟩ := trodAll_cons r0
  obtain ⟨rfl, rfl, rfl⟩ := trodAll_nil r1
  obtain rfl : args = #[v0, v1] := by cases args; simp_all
  obtain ⟨rfl, rfl⟩ := trodVars_none hV
  have hbound := of_decide_eq_true hk
  simp only [List.append_nil, Rows.uptoBulkAll] at hbound
  clear hA0 hA
  have hE := Two.et_of_laid hL
  have hT := Two.tab_of_laid hL
  obtain ⟨fuel0, hf0⟩ := h0
  obtain ⟨x0, ⟨xa0, xc0, hcs0, im0⟩, hb0⟩ := Lw.op_bytes fuel0 _ d0 p0 hf0
  obtain ⟨a0, len0, cap0, rfl⟩ := okWide_slice Tryd.underlying25 (hval 0 25 v0 rfl rfl)
  simp only [Value.cells, List.cons.injEq, and_true] at hcs0
  rw [hcs0] at hW' ⊢
  obtain ⟨fuel1, hf1⟩ := h1
  obtain ⟨x1, ⟨xa1, xc1, hcs1, im1⟩, hb1⟩ := op_steps fuel1 _ d1 p1 hf1
  obtain ⟨a1, len1, cap1, rfl⟩ := okWide_slice Tryd.underlying62 (hval 1 62 v1 rfl rfl)
  simp only [Value.cells, List.cons.injEq, and_true] at hcs1
  rw [hcs1] at hW' ⊢
  simp only [Lw.blk] at hb0 hb1
  exact Lw.law_end Two.laidOut (by kernel_rfl) rfl rfl Tryd.underlying4 hW' ⟨rfl, rfl, rfl⟩ (Lw.CodecReads_ct (Lw.all_good W) im0 im1 hE hT (by omega))

theorem reads (os : Os) {H : Type} (enc : TypeId × Value → H) : ∃ places, DataW.whole enc Tryd.prog ((Two.world os).forCall (fun _ _ => 0) ⟨#[], #[.slice none 0 0, .slice none 0 0], []⟩).memory Tryd.f7.params.toList Rows.codecReadsSpec.vars false #[Value.slice none 0 0, .slice none 0 0].toList 8 = some ([.nil, .nil], [], places) :=
  ⟨[], by kernel_rfl⟩

set_option maxRecDepth 100000 in
theorem liftedUpto (os : Os) (started : os.Started) (H : Type) (enc : TypeId × Value → H) (F : Stop.Interp) :
    ReturnsInHanded {} Tryd.checked os 7 .any ((Rows.OpenSpec.upto Rows.codecReadsSpec).preRow enc Tryd.prog Tryd.f7 Rows.codecReadsUptoRow.domain false Rows.codecReadsUptoRow.laid) (((Rows.OpenSpec.upto Rows.codecReadsSpec).at F).post enc Tryd.prog Tryd.f7 false true false false) := by
  obtain ⟨places, hx⟩ := reads os enc
  refine returnsInHanded_of_row (C := Tryd.checked) (s := Rows.OpenSpec.upto Rows.codecReadsSpec) Two.own started (by kernel_rfl) Tryd.func7
    (witness_row_at (enc := enc) (C := Tryd.checked) false (Two.world os) #[.slice none 0 0, .slice none 0 0] rfl (by kernel_rfl) (by kernel_rfl) (by kernel_rfl)
      (OpenSpec.preRow_of_cond 8 hx (by kernel_rfl) (fun k hk => by cases hk; kernel_rfl) (by kernel_rfl) (Two.met os _))) ?_
  intro W base args ds gs before hval hW _ hcond _ hL _ _
  exact contract H enc W base args ds gs before hval hW hL (hcond _ rfl)

theorem saidUpto : Rows.CodecReadsUptoSaid :=
  OpenClaim.holds_of_cond 7 Tryd.f7 rfl rfl rfl rfl rfl rfl rfl ⟨rfl, rfl, rfl, rfl, rfl⟩ rfl rfl rfl rfl rfl (by kernel_rfl) Tryd.func7 (by kernel_rfl)
    (of_decide_eq_true (by kernel_rfl)) (by unfold Func.isWrapper; first | (rw [if_pos (by decide +kernel)]; kernel_rfl) | (rw [if_neg (by decide +kernel)]; exact ⟨rfl, rfl⟩))
    (fun os started H enc _ F => by rw [OpenClaim.pre_eq_preRow]; exact liftedUpto os started H enc F)
theorem plain (f : FuncId) (fn : Func) (hf : Tryd.pinned.checked.prog.funcNamed "gazette/gazettelaw01.CodecReads" = some f) (hfn : Tryd.pinned.checked.prog.funcs[f]? = some fn) :
    true = Tryd.pinned.checked.prog.looks [] ∧ ∀ (j : Nat) t, fn.params[j]? = some t → Tryd.pinned.checked.prog.wantsStandIn t = false := by
  obtain rfl : f = 7 := Option.some.inj ((show Tryd.prog.funcNamed "gazette/gazettelaw01.CodecReads" = some 7 by kernel_rfl).symm.trans hf) |>.symm
  obtain rfl : fn = Tryd.f7 := (Option.some.inj (Tryd.func7.symm.trans hfn)).symm
  refine ⟨by kernel_rfl, fun j t ht => ?_⟩
  rw [Tryd.params7] at ht
  have hall : ∀ t ∈ [25, 62], Tryd.prog.wantsStandIn t = false := by
    intro t ht
    simp only [List.mem_cons, List.not_mem_nil, or_false] at ht
    rcases ht with rfl | rfl <;> kernel_rfl
  exact hall t (by simpa using Array.mem_of_getElem? ht)
end codecReadsLaw

theorem codecReads_card : Rows.CodecReadsUptoCardSaid :=
  Claim7.holds_tied_plain_at .later [] _ _ _ _ codecReadsLaw.saidUpto (fun _ h => by cases h) (by kernel_rfl) (fun _ h => by cases h) codecReadsUpto_row_tie rfl ⟨rfl, rfl⟩ (by kernel_rfl) rfl codecReadsLaw.plain (by kernel_rfl)
#print axioms codecReads_card
end Go.Proofs.YtcbifehmmfjioaaDoor
