/-
  CodecPrefix: numbers one behind the other are read as they were written, a greater one has no fewer bytes, and none's bytes begin another one's: the law returns true and its argument reads as it read before. Conditions: what the argument holds is of bulk at most 1048576 (the second form of the statement); the table codec.sums and the handle errors.errorType are as the program's text lays them (tied).
-/
import Derived.Test.YtcbifehmmfjioaaDoorCodecPf
import Derived.Test.YtcbifehmmfjioaaDoorCodecLaid
import Derived.Test.YtcbifehmmfjioaaDoorCards
import Derived.Test.YtcbifehmmfjioaaDoorTie
import Derived.WalkKit
import Derived.Deep.DeepHandedRow
namespace Go.Proofs.YtcbifehmmfjioaaDoor
open Go.ChangeShapes Go.WideShapes Go.ChangeAt Go.RowKit

namespace codecPrefixLaw
theorem co64 : Tryd.prog.cellsOf 29 = 1 := by kernel_rfl
theorem op_u64s {H : Type} {enc : TypeId × Value → H} {W : World} : Lw.Op enc W 46 (Lw.RSl (Lw.RInt .u64) 1) (fun xs => xs.length) :=
  (Lw.opens_slice Tryd.underlying46 co64 (by decide) (Lw.opens_int Tryd.underlying29) Lw.blk_slice Lw.blk_len).imp id (fun _ _ _ h => h) (fun _ => Nat.le_max_left _ _)

set_option maxRecDepth 100000 in
theorem contract (H : Type) (enc : TypeId × Value → H) (W : World) (base : Nat) (args : Array Value) (ds gs : List (DataW H)) (before : List MemPlace)
    (hval : ∀ (j : Nat) t v, Tryd.f4.params[j]? = some t → args[j]? = some v → Value.okWide Tryd.prog W .any base t v)
    (hW : DataW.Whole enc Tryd.prog Tryd.f4.params.toList Rows.codecPrefixSpec.vars false W args.toList ds gs before) (hL : laidMetH Tryd.prog Two.laid W) (hk : Rows.uptoSmall H (ds ++ gs) = true) :
    Calls Tryd.prog 4 args W fun e W' => ∃ v, e = .returned v ∧ Rows.codecPrefixSpec.post enc Tryd.prog Tryd.f4 false true false false W args v W' := by
  have hW' := hW
  obtain ⟨p, q, hA0, hV, rfl, hfz, hnd⟩ := hW
  have hA : DataW.TrodAll enc Tryd.prog W 0 (fun _ => true) true Tryd.f4.params.toList args.toList ds p := hA0
  rw [Tryd.params4] at hA hval
  obtain ⟨v0, vs0, d0, ds0, p0, q0, hargs, rfl, rfl, h0, r0⟩ := trodAll_cons hA
  obtain ⟨rfl, rfl, rfl⟩ := trodAll_nil r0
  obtain rfl : args = #[v0] := by cases args; simp_all
  obtain ⟨rfl, rfl⟩ := trodVars_none hV
  have hbound := of_decide_eq_true hk
  simp only [List.append_nil, Rows.uptoBulkAll] at hbound
  clear hA0 hA
  have hE := Two.et_of_laid hL
  have hT := Two.tab_of_laid hL
  obtain ⟨fuel0, hf0⟩ := h0
  obtain ⟨x0, ⟨xa0, xc0, hcs0, im0⟩, hb0⟩ := op_u64s fuel0 _ d0 p0 hf0
  obtain ⟨a0, len0, cap0, rfl⟩ := okWide_slice Tryd.underlying46 (hval 0 46 v0 rfl rfl)
  simp only [Value.cells, List.cons.injEq, and_true] at hcs0
  rw [hcs0] at hW' ⊢
  simp only [Lw.blk] at hb0
  exact Lw.law_end Two.laidOut (by kernel_rfl) rfl rfl Tryd.underlying4 hW' ⟨rfl, rfl, rfl⟩ (Lw.CodecPrefix_ct (Lw.all_good W) im0 hE hT (by omega))

theorem reads (os : Os) {H : Type} (enc : TypeId × Value → H) : ∃ places, DataW.whole enc Tryd.prog ((Two.world os).forCall (fun _ _ => 0) ⟨#[], #[.slice none 0 0], []⟩).memory Tryd.f4.params.toList Rows.codecPrefixSpec.vars false #[Value.slice none 0 0].toList 8 = some ([.nil], [], places) :=
  ⟨[], by kernel_rfl⟩

set_option maxRecDepth 100000 in
theorem liftedUpto (os : Os) (started : os.Started) (H : Type) (enc : TypeId × Value → H) (F : Stop.Interp) :
    ReturnsInHanded {} Tryd.checked os 4 .any ((Rows.OpenSpec.upto Rows.codecPrefixSpec).preRow enc Tryd.prog Tryd.f4 Rows.codecPrefixUptoRow.domain false Rows.codecPrefixUptoRow.laid) (((Rows.OpenSpec.upto Rows.codecPrefixSpec).at F).post enc Tryd.prog Tryd.f4 false true false false) := by
  obtain ⟨places, hx⟩ := reads os enc
  refine returnsInHanded_of_row (C := Tryd.checked) (s := Rows.OpenSpec.upto Rows.codecPrefixSpec) Two.own started (by kernel_rfl) Tryd.func4
    (witness_row_at (enc := enc) (C := Tryd.checked) false (Two.world os) #[.slice none 0 0] rfl (by kernel_rfl) (by kernel_rfl) (by kernel_rfl)
      (OpenSpec.preRow_of_cond 8 hx (by kernel_rfl) (fun k hk => by cases hk; kernel_rfl) (by kernel_rfl) (Two.met os _))) ?_
  intro W base args ds gs before hval hW _ hcond _ hL _ _
  exact contract H enc W base args ds gs before hval hW hL (hcond _ rfl)

theorem saidUpto : Rows.CodecPrefixUptoSaid :=
  OpenClaim.holds_of_cond 4 Tryd.f4 rfl rfl rfl rfl rfl rfl rfl ⟨rfl, rfl, rfl, rfl, rfl⟩ rfl rfl rfl rfl rfl (by kernel_rfl) Tryd.func4 (by kernel_rfl)
    (of_decide_eq_true (by kernel_rfl)) (by unfold Func.isWrapper; first | (rw [if_pos (by decide +kernel)]; kernel_rfl) | (rw [if_neg (by decide +kernel)]; exact ⟨rfl, rfl⟩))
    (fun os started H enc _ F => by rw [OpenClaim.pre_eq_preRow]; exact liftedUpto os started H enc F)
theorem plain (f : FuncId) (fn : Func) (hf : Tryd.pinned.checked.prog.funcNamed "gazette/gazettelaw01.CodecPrefix" = some f) (hfn : Tryd.pinned.checked.prog.funcs[f]? = some fn) :
    true = Tryd.pinned.checked.prog.looks [] ∧ ∀ (j : Nat) t, fn.params[j]? = some t → Tryd.pinned.checked.prog.wantsStandIn t = false := by
  obtain rfl : f = 4 := Option.some.inj ((show Tryd.prog.funcNamed "gazette/gazettelaw01.CodecPrefix" = some 4 by kernel_rfl).symm.trans hf) |>.symm
  obtain rfl : fn = Tryd.f4 := (Option.some.inj (Tryd.func4.symm.trans hfn)).symm
  refine ⟨by kernel_rfl, fun j t ht => ?_⟩
  rw [Tryd.params4] at ht
  have hall : ∀ t ∈ [46], Tryd.prog.wantsStandIn t = false := by
    intro t ht
    simp only [List.mem_cons, List.not_mem_nil, or_false] at ht
    subst ht; kernel_rfl
  exact hall t (by simpa using Array.mem_of_getElem? ht)
end codecPrefixLaw

theorem codecPrefix_card : Rows.CodecPrefixUptoCardSaid :=
  Claim7.holds_tied_plain_at .later [] _ _ _ _ codecPrefixLaw.saidUpto (fun _ h => by cases h) (by kernel_rfl) (fun _ h => by cases h) codecPrefixUpto_row_tie rfl ⟨rfl, rfl⟩ (by kernel_rfl) rfl codecPrefixLaw.plain (by kernel_rfl)
#print axioms codecPrefix_card
end Go.Proofs.YtcbifehmmfjioaaDoor
