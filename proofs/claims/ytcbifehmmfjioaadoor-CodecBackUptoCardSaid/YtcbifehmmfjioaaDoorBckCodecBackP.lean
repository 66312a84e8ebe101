/-
  CodecBack: what is written is read, item by item, and bytes that are read are just those that are written: the law returns true and its arguments read as they read before. Conditions: what the arguments hold is of bulk at most 1048576 (the second form of the statement); the table codec.sums and the handle errors.errorType are as the program's text lays them (tied).
-/
import Derived.Test.YtcbifehmmfjioaaDoorBckCodecBc
import Derived.Test.YtcbifehmmfjioaaDoorBckCodecLaid
import Derived.Test.YtcbifehmmfjioaaDoorCards
import Derived.Test.YtcbifehmmfjioaaDoorTie
import Derived.WalkKit
import Derived.Deep.DeepHandedRow
namespace Go.Proofs.YtcbifehmmfjioaaDoor
open Go.ChangeShapes Go.WideShapes Go.ChangeAt Go.RowKit

namespace codecBackLaw
theorem op_ikind {H : Type} {enc : TypeId × Value → H} {W : World} : Lw.Op enc W 72 (Lw.RInt .i64) (fun _ => 0) := Lw.opens_int Tryd.underlying72
theorem op_hard {H : Type} {enc : TypeId × Value → H} {W : World} : Lw.Op enc W 74 (fun _ vs (x : Lw.Hard) => vs = [.int .u64 x.term, .int .i64 x.vote, .int .u64 x.commit] ∧ Lw.rng .u64 x.term ∧ Lw.rng .i64 x.vote ∧ Lw.rng .u64 x.commit) (fun _ => 0) :=
  (Lw.opens_struct Tryd.underlying74 (by kernel_rfl) (Lw.opens_cons rfl (by kernel_rfl : _ = 1) Lw.op_u64 (Lw.opens_cons rfl (by kernel_rfl : _ = 1) Lw.op_int (Lw.opens_cons rfl (by kernel_rfl : _ = 1) Lw.op_u64 (Lw.opens_nil _)))) Lw.blk_agg).imp
    (fun x => (⟨x.1, x.2.1, x.2.2.1⟩ : Lw.Hard)) (fun s vs x h => by
      obtain ⟨_, _, rfl, _, ⟨rfl, h1⟩, _, _, rfl, _, ⟨rfl, h2⟩, _, _, rfl, _, ⟨rfl, h3⟩, h4⟩ := h
      cases (show _ = [] from h4)
      exact ⟨rfl, h1, h2, h3⟩) (fun x => Nat.zero_le _)
theorem op_item {H : Type} {enc : TypeId × Value → H} {W : World} : Lw.Op enc W 76 Lw.RItem (fun x => x.entry.size + x.snap.size) :=
  (Lw.opens_struct Tryd.underlying76 (by kernel_rfl) (Lw.opens_cons rfl (by kernel_rfl : _ = 1) op_ikind (Lw.opens_cons rfl (by kernel_rfl : _ = 1) Lw.op_u64 (Lw.opens_cons rfl (by kernel_rfl : _ = 6) Lw.op_entry (Lw.opens_cons rfl (by kernel_rfl : _ = 3) op_hard
    (Lw.opens_cons rfl (by kernel_rfl : _ = 1) Lw.op_u64 (Lw.opens_cons rfl (by kernel_rfl : _ = 5) Lw.op_snap (Lw.opens_nil _))))))) Lw.blk_agg).imp
    (fun x => (⟨x.1, x.2.1, x.2.2.1, x.2.2.2.1, x.2.2.2.2.1, x.2.2.2.2.2.1⟩ : Lw.Item)) (fun s vs x h => by
      obtain ⟨_, _, rfl, _, ⟨rfl, r1⟩, _, _, rfl, _, ⟨rfl, r2⟩, _, _, rfl, _, ⟨a1, c1, a2, c2, a3, c3, rfl, e1, e2, e3, i1, i2, i3⟩, _, _, rfl, _, ⟨rfl, h1, h2, h3⟩, _, _, rfl, _, ⟨rfl, r4⟩, _, _, rfl, _, ⟨b1, d1, b2, d2, b3, d3, rfl, f1, f2, j1, j2, j3⟩, h4⟩ := h
      cases (show _ = [] from h4)
      exact ⟨a1, a2, a3, b1, b2, b3, c1, c2, c3, d1, d2, d3, rfl, r1, r2, ⟨e1, e2, e3, i1, i2, i3⟩, ⟨h1, h2, h3⟩, r4, f1, f2, j1, j2, j3⟩) (fun x => by dsimp only; omega)
theorem bulk_item (x : Lw.Item) : x.bulk ≤ 200 + 10 * (x.entry.size + x.snap.size) := by
  simp only [Lw.Item.bulk, Lw.Entry.size, Lw.Snap.size, Lw.Conf.size]; omega


set_option maxRecDepth 100000 in
theorem contract (H : Type) (enc : TypeId × Value → H) (W : World) (base : Nat) (args : Array Value) (ds gs : List (DataW H)) (before : List MemPlace)
    (hval : ∀ (j : Nat) t v, Tryd.f9.params[j]? = some t → args[j]? = some v → Value.okWide Tryd.prog W .any base t v)
    (hW : DataW.Whole enc Tryd.prog Tryd.f9.params.toList Rows.codecBackSpec.vars false W args.toList ds gs before) (hL : laidMetH Tryd.prog Two.laid W) (hk : Rows.uptoSmall H (ds ++ gs) = true) :
    Calls Tryd.prog 9 args W fun e W' => ∃ v, e = .returned v ∧ Rows.codecBackSpec.post enc Tryd.prog Tryd.f9 false true false false W args v W' := by
  have hW' := hW
  obtain ⟨p, q, hA0, hV, rfl, hfz, hnd⟩ := hW
  have hA : DataW.TrodAll enc Tryd.prog W 0 (fun _ => true) true Tryd.f9.params.toList args.toList ds p := hA0
  rw [Tryd.params9] at hA hval
  obtain ⟨v0, vs0, d0, ds0, p0, q0, hargs, rfl, rfl, h0, r0⟩ := trodAll_cons hA
  obtain ⟨v1, vs1, d1, ds1, p1, q1, rfl, rfl, rfl, h1, r1⟩ := trodAll_cons r0
  obtain ⟨v2, vs2, d2, ds2, p2, q2, rfl, rfl, rfl, h2, r2⟩ := trodAll_cons r1
  obtain ⟨rfl, rfl, rfl⟩ := trodAll_nil r2
  obtain rfl : args = #[v0, v1, v2] := by cases args; simp_all
  obtain ⟨rfl, rfl⟩ := trodVars_none hV
  have hbound := of_decide_eq_true hk
  simp only [List.append_nil, Rows.uptoBulkAll] at hbound
  clear hA0 hA
  have hE := Two.et_of_laid hL
  have hT := Two.tab_of_laid hL
  obtain ⟨fuel0, hf0⟩ := h0
  obtain ⟨x0, hcs0, hb0⟩ := op_item fuel0 _ d0 p0 hf0
  obtain ⟨cs0, rfl, _⟩ := okWide_struct Tryd.underlying76 (hval 0 76 v0 rfl rfl)
  simp only [Value.cells] at hcs0
  obtain ⟨fuel1, hf1⟩ := h1
  obtain ⟨x1, ⟨xa1, xc1, hcs1, im1⟩, hb1⟩ := Lw.op_bytes fuel1 _ d1 p1 hf1
  obtain ⟨a1, len1, cap1, rfl⟩ := okWide_slice Tryd.underlying25 (hval 1 25 v1 rfl rfl)
  simp only [Value.cells, List.cons.injEq, and_true] at hcs1
  rw [hcs1] at hW' ⊢
  obtain ⟨fuel2, hf2⟩ := h2
  obtain ⟨x2, ⟨xa2, xc2, hcs2, im2⟩, hb2⟩ := Lw.op_bytes fuel2 _ d2 p2 hf2
  obtain ⟨a2, len2, cap2, rfl⟩ := okWide_slice Tryd.underlying25 (hval 2 25 v2 rfl rfl)
  simp only [Value.cells, List.cons.injEq, and_true] at hcs2
  rw [hcs2] at hW' ⊢
  simp only [Lw.blk] at hb0 hb1 hb2
  exact Lw.law_end Two.laidOut (by kernel_rfl) rfl rfl Tryd.underlying4 hW' ⟨rfl, rfl, rfl⟩ (Lw.CodecBack_ct (Lw.all_good W) hcs0 im1 im2 hE hT (by have := bulk_item x0; omega) (by omega) (by omega))

theorem reads (os : Os) {H : Type} (enc : TypeId × Value → H) : ∃ places, DataW.whole enc Tryd.prog ((Two.world os).forCall (fun _ _ => 0) ⟨#[], #[Value.agg #[.int .i64 0, .int .u64 0, .int .u64 0, .int .u64 0, .int .i64 0, .slice none 0 0, .slice none 0 0, .slice none 0 0, .int .u64 0, .int .i64 0, .int .u64 0, .int .u64 0, .int .u64 0, .int .u64 0, .slice none 0 0, .slice none 0 0, .slice none 0 0], .slice none 0 0, .slice none 0 0], []⟩).memory Tryd.f9.params.toList Rows.codecBackSpec.vars false #[Value.agg #[Value.int .i64 0, .int .u64 0, .int .u64 0, .int .u64 0, .int .i64 0, Value.slice none 0 0, .slice none 0 0, .slice none 0 0, .int .u64 0, .int .i64 0, .int .u64 0, .int .u64 0, .int .u64 0, .int .u64 0, .slice none 0 0, .slice none 0 0, .slice none 0 0], .slice none 0 0, .slice none 0 0].toList 8 = some ([.agg [.lit (.int .i64 0), .lit (.int .u64 0), .agg [.lit (.int .u64 0), .lit (.int .u64 0), .lit (.int .i64 0), .nil, .agg [.nil, .nil]], .agg [.lit (.int .u64 0), .lit (.int .i64 0), .lit (.int .u64 0)], .lit (.int .u64 0), .agg [.lit (.int .u64 0), .lit (.int .u64 0), .agg [.nil, .nil], .nil]], .nil, .nil], [], places) :=
  ⟨[], by kernel_rfl⟩

set_option maxRecDepth 100000 in
theorem liftedUpto (os : Os) (started : os.Started) (H : Type) (enc : TypeId × Value → H) (F : Stop.Interp) :
    ReturnsInHanded {} Tryd.checked os 9 .any ((Rows.OpenSpec.upto Rows.codecBackSpec).preRow enc Tryd.prog Tryd.f9 Rows.codecBackUptoRow.domain false Rows.codecBackUptoRow.laid) (((Rows.OpenSpec.upto Rows.codecBackSpec).at F).post enc Tryd.prog Tryd.f9 false true false false) := by
  obtain ⟨places, hx⟩ := reads os enc
  refine returnsInHanded_of_row (C := Tryd.checked) (s := Rows.OpenSpec.upto Rows.codecBackSpec) Two.own started (by kernel_rfl) Tryd.func9
    (witness_row_at (enc := enc) (C := Tryd.checked) false (Two.world os) #[Value.agg #[.int .i64 0, .int .u64 0, .int .u64 0, .int .u64 0, .int .i64 0, .slice none 0 0, .slice none 0 0, .slice none 0 0, .int .u64 0, .int .i64 0, .int .u64 0, .int .u64 0, .int .u64 0, .int .u64 0, .slice none 0 0, .slice none 0 0, .slice none 0 0], .slice none 0 0, .slice none 0 0] rfl (by kernel_rfl) (by kernel_rfl) (by kernel_rfl)
      (OpenSpec.preRow_of_cond 8 hx (by kernel_rfl) (fun k hk => by cases hk; kernel_rfl) (by kernel_rfl) (Two.met os _))) ?_
  intro W base args ds gs before hval hW _ hcond _ hL _ _
  exact contract H enc W base args ds gs before hval hW hL (hcond _ rfl)

theorem saidUpto : Rows.CodecBackUptoSaid :=
  OpenClaim.holds_of_cond 9 Tryd.f9 rfl rfl rfl rfl rfl rfl rfl ⟨rfl, rfl, rfl, rfl, rfl⟩ rfl rfl rfl rfl rfl (by kernel_rfl) Tryd.func9 (by kernel_rfl)
    (of_decide_eq_true (by kernel_rfl)) (by unfold Func.isWrapper; first | (rw [if_pos (by decide +kernel)]; kernel_rfl) | (rw [if_neg (by decide +kernel)]; exact ⟨rfl, rfl⟩))
    (fun os started H enc _ F => by rw [OpenClaim.pre_eq_preRow]; exact liftedUpto os started H enc F)
theorem plain (f : FuncId) (fn : Func) (hf : Tryd.pinned.checked.prog.funcNamed "gazette/gazettelaw01.CodecBack" = some f) (hfn : Tryd.pinned.checked.prog.funcs[f]? = some fn) :
    true = Tryd.pinned.checked.prog.looks [] ∧ ∀ (j : Nat) t, fn.params[j]? = some t → Tryd.pinned.checked.prog.wantsStandIn t = false := by
  obtain rfl : f = 9 := Option.some.inj ((show Tryd.prog.funcNamed "gazette/gazettelaw01.CodecBack" = some 9 by kernel_rfl).symm.trans hf) |>.symm
  obtain rfl : fn = Tryd.f9 := (Option.some.inj (Tryd.func9.symm.trans hfn)).symm
  refine ⟨by kernel_rfl, fun j t ht => ?_⟩
  rw [Tryd.params9] at ht
  have hall : ∀ t ∈ [76, 25, 25], Tryd.prog.wantsStandIn t = false := by
    intro t ht
    simp only [List.mem_cons, List.not_mem_nil, or_false] at ht
    rcases ht with rfl | rfl | rfl <;> kernel_rfl
  exact hall t (by simpa using Array.mem_of_getElem? ht)
end codecBackLaw

theorem codecBack_card : Rows.CodecBackUptoCardSaid :=
  Claim7.holds_tied_plain_at .later [] _ _ _ _ codecBackLaw.saidUpto (fun _ h => by cases h) (by kernel_rfl) (fun _ h => by cases h) codecBackUpto_row_tie rfl ⟨rfl, rfl⟩ (by kernel_rfl) rfl codecBackLaw.plain (by kernel_rfl)
#print axioms codecBack_card
end Go.Proofs.YtcbifehmmfjioaaDoor
