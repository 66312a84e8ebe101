/-
  Beats: the laws BeatsPacks and BeatsApart, walked.
-/
import Derived.Test.YthaomecbklmmdaaBxS
namespace Go.Lw
open Go.Proofs
attribute [local irreducible] RL RA

set_option maxHeartbeats 1000000 in
set_option maxRecDepth 100000 in
theorem BeatsPacks_ct {w : World} {s : Res} {os : List Res} {frm : Int} {l : List Wire} {la : Option Addr} {lc : Nat} (hg : Good w s os) (hl : Imm RWire 15 s la lc l) (hfr : rng .i64 frm) (hb : bulkW l + l.length ≤ 400000000) (hfit : ∀ x ∈ l, x.msg.fits) :
    Calls Try.prog 3 #[i64 frm, .slice la l.length lc] w (Post w s os fun _ _ r => r = .bool true) := by
  refine enter (l := [i64 frm, .slice la l.length lc]) Try.func3 rfl Try.ntmps3 rfl ?_
  refine CW.seq (CW.plain ?_)
  refine RL.pure rfl rfl rfl rfl ?_
  refine RL.done ?_
  refine CW.seq (CW.plain ?_)
  refine RL.call rfl rfl rfl rfl rfl ca5 (head11_ct hg) ?_
  rintro v1 s1 A1 w1 hle1 hg1 hax1 rfl
  refine ⟨trivial, ?_⟩
  refine RL.pure rfl rfl rfl rfl ?_
  refine RL.done ?_
  have hg1 := hg1.drop
  have hl1 := hl.up RWire.up hle1
  refine CW.seq (CW.plain ?_)
  refine RL.pure rfl rfl rfl rfl ?_
  refine RL.pure rfl rfl rfl rfl ?_
  refine RL.call rfl rfl rfl rfl rfl ca7 (own_ct hg1 hl1 (by omega)) ?_
  rintro v2 s2 A2 w2 hle2 hg2 hax2 ⟨rfl, a2, c2, rfl, ho2⟩
  refine ⟨trivial, ?_⟩
  obtain ⟨s3, hg3, hle3, hq3⟩ := Good.letgo hg2
  have hi3 := ho2.imm RWire.up hle3 hq3
  refine RL.call rfl rfl rfl rfl rfl ca6 (Pack_ct hg3 hi3 hfr (by omega) hfit) ?_
  rintro v4 s4 A4 w4 hle4 hg4 hax4 ⟨a4, c4, rfl, ho4⟩
  refine ⟨trivial, ?_⟩
  refine RL.pure rfl rfl rfl rfl ?_
  refine RL.pure rfl rfl rfl rfl ?_
  refine RL.pure rfl rfl rfl rfl ?_
  refine RL.pure rfl rfl rfl rfl ?_
  refine RL.pure rfl rfl rfl rfl ?_
  refine RL.done ?_
  obtain ⟨s5, hg5, hle5, hq5⟩ := Good.letgo hg4
  have hi5 := ho4.imm RPacket.up hle5 hq5
  have hl5 := ((hl1.up RWire.up hle3).up RWire.up hle4).up RWire.up hle5
  refine CW.seq (CW.plain ?_)
  refine RL.pure rfl rfl rfl rfl ?_
  refine RL.pure rfl rfl rfl rfl ?_
  refine RL.call rfl rfl rfl rfl rfl ca8 (dPack_ct hg5 hl5 hfr (by omega) hfit) ?_
  rintro v6 s6 A6 w6 hle6 hg6 hax6 ⟨a6, c6, rfl, ho6⟩
  refine ⟨trivial, ?_⟩
  refine RL.pure rfl rfl rfl rfl ?_
  refine RL.pure rfl rfl rfl rfl ?_
  refine RL.pure rfl rfl rfl rfl ?_
  refine RL.pure rfl rfl rfl rfl ?_
  refine RL.pure rfl rfl rfl rfl ?_
  refine RL.done ?_
  obtain ⟨s7, hg7, hle7, hq7⟩ := Good.letgo hg6
  have hi7 := ho6.imm RPacket.up hle7 hq7
  have hi5 := (hi5.up RPacket.up hle6).up RPacket.up hle7
  have hl7 := (hl5.up RWire.up hle6).up RWire.up hle7
  have hle := hle1.trans (hle3.trans (hle4.trans (hle5.trans (hle6.trans hle7))))
  have hax := hax1.trans (hax2.trans (hax4.trans hax6))
  have hll := hl7.le_max
  simp only [maxLen] at hll
  generalize packP frm l = r at *
  refine CW.less (E' := [(1, .slice la l.length lc), (5, .bool true), (6, .slice a4 r.1.length c4), (7, i64 r.2), (8, .slice a6 r.1.length c6), (9, i64 r.2)]) ⟨rfl, rfl, rfl, rfl, rfl, rfl, trivial⟩ ?_
  refine CW.seq (CW.seq (CW.plain ?_))
  refine RL.pure rfl rfl rfl rfl ?_
  refine RL.done ?_
  refine CW.block (CW.loop (σ := Nat) (fun j E w' => ∃ k : Nat, E = [(1, .slice la l.length lc), (5, .bool true), (6, .slice a4 r.1.length c4), (7, i64 r.2), (8, .slice a6 r.1.length c6), (9, i64 r.2), (10, i64 k)] ∧ Good w' s7 os ∧ Aux w w' ∧ k + j = l.length)
    (fun j => j) l.length [(1, .slice la l.length lc), (5, .bool true), (6, .slice a4 r.1.length c4), (7, i64 r.2), (8, .slice a6 r.1.length c6), (9, i64 r.2), (10, i64 0)] ⟨rfl, rfl, rfl, rfl, rfl, rfl, rfl, trivial⟩ ⟨0, rfl, hg7, hax, by omega⟩ ?_)
  rintro j E w8 ⟨k, rfl, hg8, hax8, hk⟩
  refine CW.seq (CW.seq (CW.plain ?_))
  refine RL.pure rfl rfl rfl rfl ?_
  refine RL.pure rfl rfl rfl rfl ?_
  refine RL.len rfl rfl rfl rfl sl22 rfl ?_
  refine RL.pure rfl rfl rfl rfl ?_
  refine RL.done ?_
  refine CW.test rfl (fun h => CW.skip ?_) (fun h => CW.exit ?_)
  · have hkl : k < l.length := by omega
    have ek : l[((k : Nat) : Int).toNat]'(by omega) = l[k] := by simp
    have hxf := hfit l[k] (List.getElem_mem hkl)
    have hgD := hg8.drew
    refine CW.seq (CW.block (CW.seq ?_))
    refine CW.draws [(true, 0), (true, 1), (true, 2), (true, 3), (true, 4), (true, 6), (true, 7), (true, 8), (true, 9), (true, 10), (false, 5), (false, 11), (true, 12)] (fun w => In s7 w) mixed (by kernel_rfl) (by kernel_rfl) (by kernel_rfl) (by kernel_rfl) (hgD.sh) ?_
    refine RL.pure rfl rfl rfl rfl ?_
    refine RL.pure rfl rfl rfl rfl ?_
    refine RL.idx rfl rfl rfl rfl sl22 rfl rfl (hl7) (by omega) ((by omega)) ?_
    rintro q vs hvl hHe hre
    refine RL.field rfl rfl rfl rfl fl42_1 rfl rfl ?_
    rw [ek] at hre
    obtain ⟨y, rfl, _, ho⟩ := id hre
    refine RL.loadsT (j := 1) (us := (msgV l[k].msg y)) rfl rfl rfl rfl ty40 rfl (hHe) (fun w h => h) rfl rfl ?_
    refine RL.pure rfl rfl rfl rfl ?_
    refine RL.pure rfl rfl rfl rfl ?_
    refine RL.idx rfl rfl rfl rfl sl22 rfl rfl (hl7) (by omega) ((by omega)) ?_
    rintro q2 vs2 hvl2 hHe2 hre2
    refine RL.field rfl rfl rfl rfl fl42_1 rfl rfl ?_
    rw [ek] at hre2
    obtain ⟨y2, rfl, _, ho2⟩ := id hre2
    refine RL.loadsT (j := 1) (us := (msgV l[k].msg y2)) rfl rfl rfl rfl ty40 rfl (hHe2) (fun w h => h) rfl rfl ?_
    refine RL.callV rfl rfl rfl rfl rfl ca9 (Is_ct hgD ⟨y, rfl, ho⟩ hxf) ?_
    rintro v9 w9 hg9 hax9 rfl
    refine ⟨hg9.sh, ?_⟩
    refine RL.callV rfl rfl rfl rfl rfl ca10 (dIs_ct hg9 ⟨y2, rfl, ho2⟩ hxf) ?_
    rintro v10 w10 hg10 hax10 rfl
    refine ⟨hg10.sh, ?_⟩
    refine RL.bNe rfl rfl rfl rfl Try.underlying4 rfl rfl ?_
    refine RL.done ?_
    rw [bne_self_eq_false]
    refine CW.no rfl (CW.skip ?_)
    refine CW.plain ?_
    refine RL.pure rfl rfl rfl rfl ?_
    refine RL.add rfl rfl rfl rfl rfl rfl (by simp only [rng] at *; omega) ?_
    refine RL.pure rfl rfl rfl rfl ?_
    refine RL.done ?_
    cases j with
    | zero => omega
    | succ j => exact fun ac ha => ⟨j, [(1, .slice la l.length lc), (5, .bool true), (6, .slice a4 r.1.length c4), (7, i64 r.2), (8, .slice a6 r.1.length c6), (9, i64 r.2), (10, i64 ((k + 1 : Nat) : Int))], ha.sub ⟨rfl, rfl, rfl, rfl, rfl, rfl, rfl, trivial⟩, ⟨k + 1, rfl, hg10, hax8.trans ((Aux.drew _).trans (hax9.trans hax10)), by omega⟩, Nat.lt_succ_self j⟩
  · refine CW.seq (CW.plain ?_)
    refine RL.pure rfl rfl rfl rfl ?_
    refine RL.pure rfl rfl rfl rfl ?_
    refine RL.pure rfl rfl rfl rfl ?_
    refine RL.pure rfl rfl rfl rfl ?_
    refine RL.as_ rfl rfl rfl rfl (.bool true) ((by show Value.bool (_ == _) = _; simp)) ?_
    refine RL.pure rfl rfl rfl rfl ?_
    refine RL.pure rfl rfl rfl rfl ?_
    refine RL.pure rfl rfl rfl rfl ?_
    refine RL.pure rfl rfl rfl rfl ?_
    refine RL.callV rfl rfl rfl rfl rfl ca11 (Same_ct hg8 hi5 hi7) ?_
    rintro v9 w9 hg9 hax9 rfl
    refine ⟨trivial, ?_⟩
    refine RL.pure rfl rfl rfl rfl ?_
    refine RL.pure rfl rfl rfl rfl ?_
    refine RL.done ?_
    exact CW.ret (ret (vs := [_]) ⟨_, _, rfl, rfl, rfl⟩ (Post.mk hle hg9.nil (hax8.trans hax9) rfl))

/-! ### apart -/
def toIs (to : Int) (x : Wire) : Bool := decide (x.msg.to = to)
def pkTo (to : Int) (p : Packet) : Bool := decide (p.to = to)
theorem filter_mine (l : List Wire) (to t κ : Int) : (l.filter (toIs to)).filter (mine t κ) = if t = to then l.filter (mine t κ) else [] := by
  rw [List.filter_filter]
  split
  · rename_i h; subst h
    congr 1
    funext x
    simp only [mine, toIs]
    cases decide (x.msg.to = t) <;> simp
  · rename_i h
    refine List.filter_eq_nil_iff.2 fun x _ hx => h ?_
    simp only [mine, toIs, Bool.and_eq_true, decide_eq_true_eq] at hx
    exact hx.1.1.symm.trans hx.2
theorem packTo_apart (frm : Int) (l : List Wire) (to t κ : Int) : (packTo frm l t κ).filter (pkTo to) = packTo frm (l.filter (toIs to)) t κ := by
  unfold packTo
  rw [filter_mine]
  by_cases h : t = to
  · rw [if_pos h]
    split
    · rfl
    · simp [pkTo, h]
  · rw [if_neg h, if_pos rfl]
    split
    · rfl
    · simp [pkTo, h]
theorem packUp_apart (frm : Int) (l : List Wire) (to : Int) : ∀ n, (packUp frm l n).filter (pkTo to) = packUp frm (l.filter (toIs to)) n
  | 0 => rfl
  | n + 1 => by simp only [packUp, List.filter_append, packUp_apart frm l to n, packTo_apart]
theorem packUp_one (frm : Int) (l : List Wire) (to : Int) : ∀ n : Nat, (packUp frm (l.filter (toIs to)) n).length ≤ 2 ∧ ((n : Int) < to → packUp frm (l.filter (toIs to)) n = [])
  | 0 => ⟨by simp [packUp], fun _ => rfl⟩
  | n + 1 => by
    obtain ⟨h1, h2⟩ := packUp_one frm l to n
    have hz : ∀ κ, ((n : Int) + 1) ≠ to → packTo frm (l.filter (toIs to)) ((n : Int) + 1) κ = [] := fun κ h => by
      unfold packTo; rw [filter_mine, if_neg h, if_pos rfl]
    have l2 := packTo_le frm (l.filter (toIs to)) ((n : Int) + 1) 2
    have l1 := packTo_le frm (l.filter (toIs to)) ((n : Int) + 1) 1
    by_cases h : ((n : Int) + 1) = to
    · rw [packUp, h2 (by omega)]
      refine ⟨by simp only [List.nil_append, List.length_append]; omega, fun h3 => ?_⟩
      omega
    · rw [packUp, hz 2 h, hz 1 h]
      simp only [List.append_nil]
      exact ⟨h1, fun h3 => h2 (by omega)⟩
theorem pack_apart {frm : Int} {l : List Wire} (h : (packP frm l).2 = 0) (to : Int) : packP frm (l.filter (toIs to)) = ((packP frm l).1.filter (pkTo to), 0) ∧ ((packP frm l).1.filter (pkTo to)).length ≤ 2 := by
  unfold packP at h ⊢
  split at h
  · cases h
  rename_i h1
  split at h
  · cases h
  rename_i h2
  rw [if_neg h1, if_neg h2, if_neg, if_neg]
  · simp only [packUp_apart]
    exact ⟨trivial, (packUp_one frm l to 7).1⟩
  · rintro (h3 | h3)
    · exact h2 (.inl (Nat.lt_of_lt_of_le h3 (List.length_filter_le _ _)))
    · obtain ⟨x, hx, hx2⟩ := List.any_eq_true.1 h3
      exact h2 (.inr (List.any_eq_true.2 ⟨x, (List.mem_filter.1 hx).1, hx2⟩))
  · rintro (h3 | h3)
    · exact h1 (.inl h3)
    · obtain ⟨x, hx, hx2⟩ := List.any_eq_true.1 h3
      exact h1 (.inr (List.any_eq_true.2 ⟨x, (List.mem_filter.1 hx).1, hx2⟩))
end Go.Lw
