/-
  What is read by both is told as the same.
-/
import Derived.Test.YtcbifehmmfjioaaDoorNmsCodecRp
namespace Go.Lw
open Go.Proofs
attribute [local irreducible] RL RA

set_option maxRecDepth 100000 in
theorem sameInts_ct {w : World} {s : Res} {os : List Res} {xs : List Int} {a b : Option Addr} {c d : Nat} (hg : Good w s os) (ha : Imm (RInt .i64) 1 s a c xs) (hb : Imm (RInt .i64) 1 s b d xs) :
    Calls Tryd.prog 84 #[.slice a xs.length c, .slice b xs.length d] w (PostV w s os fun r => r = .bool true) := by
  have hmax := ha.le_max
  simp only [maxLen] at hmax
  refine enter (l := [.slice a xs.length c, .slice b xs.length d]) Tryd.func84 rfl Tryd.ntmps84 rfl ?_
  refine CW.seq (CW.plain ?_)
  refine RL.pure rfl rfl rfl rfl ?_
  refine RL.done ?_
  refine CW.seq (CW.seq (CW.plain ?_))
  refine RL.pure rfl rfl rfl rfl ?_
  refine RL.len rfl rfl rfl rfl sl30 rfl ?_
  refine RL.pure rfl rfl rfl rfl ?_
  refine RL.len rfl rfl rfl rfl sl30 rfl ?_
  refine RL.pure rfl rfl rfl rfl ?_
  refine RL.done ?_
  refine CW.ne rfl (fun h => absurd rfl h) (fun _ => CW.skip ?_)
  refine CW.meet (fun E w' => E = [(0, .slice a xs.length c)] ∧ Good w' s os ∧ Aux w w') ?_ ?_
  · refine CW.seq (CW.plain ?_)
    refine RL.pure rfl rfl rfl rfl ?_
    refine RL.done ?_
    refine CW.block (CW.loop (σ := Nat) (fun j E w' => ∃ k : Nat, E = [(0, .slice a xs.length c), (1, .slice b xs.length d), (5, .int .i64 k)] ∧ Good w' s os ∧ Aux w w' ∧ k + j = xs.length) (fun j => j) xs.length
      [(0, .slice a xs.length c), (1, .slice b xs.length d), (5, .int .i64 0)] ⟨rfl, rfl, rfl, trivial⟩ ⟨0, rfl, hg, Aux.refl _, by omega⟩ ?_)
    rintro j E w1 ⟨k, rfl, hg1, hax1, hk⟩
    refine CW.seq (CW.seq (CW.plain ?_))
    refine RL.pure rfl rfl rfl rfl ?_
    refine RL.pure rfl rfl rfl rfl ?_
    refine RL.len rfl rfl rfl rfl sl30 rfl ?_
    refine RL.pure rfl rfl rfl rfl ?_
    refine RL.done ?_
    refine CW.test rfl (fun h => ?_) (fun h => CW.exit ?_)
    · refine CW.skip (CW.seq (CW.block (CW.seq ?_)))
      refine CW.draws [(true, 0), (true, 1), (true, 2), (true, 3), (true, 4), (true, 5), (true, 6), (true, 7), (true, 8)] (fun w => Good w s os) mixed (by kernel_rfl) (by kernel_rfl) (by kernel_rfl) (by kernel_rfl) (hg1.drew) ?_
      refine RL.pure rfl rfl rfl rfl ?_
      refine RL.pure rfl rfl rfl rfl ?_
      refine RL.idx rfl rfl rfl rfl sl30 rfl rfl (ha) (by omega) ((by omega)) ?_
      rintro q1 vs1 hvl1 hH1 ⟨rfl, hr1⟩
      refine RL.loadT rfl rfl rfl rfl ty3 rfl (hH1) (fun w h => h.sh) rfl ?_
      refine RL.pure rfl rfl rfl rfl ?_
      refine RL.pure rfl rfl rfl rfl ?_
      refine RL.idx rfl rfl rfl rfl sl30 rfl rfl (hb) (by omega) ((by omega)) ?_
      rintro q2 vs2 hvl2 hH2 ⟨rfl, hr2⟩
      refine RL.loadT rfl rfl rfl rfl ty3 rfl (hH2) (fun w h => h.sh) rfl ?_
      refine RL.pure rfl rfl rfl rfl ?_
      refine RL.done ?_
      refine CW.ne rfl (fun h => absurd rfl h) (fun _ => CW.skip (CW.plain ?_))
      refine RL.pure rfl rfl rfl rfl ?_
      refine RL.add rfl rfl rfl rfl rfl rfl (by simp only [rng] at *; omega) ?_
      refine RL.pure rfl rfl rfl rfl ?_
      refine RL.done ?_
      cases j with
      | zero => omega
      | succ j => exact fun ac ha => ⟨j, [(0, .slice a xs.length c), (1, .slice b xs.length d), (5, .int .i64 ((k : Int) + 1))], ha.sub ⟨rfl, rfl, rfl, trivial⟩, ⟨k + 1, rfl, hg1.drew, hax1.trans (Aux.drew _), by omega⟩, Nat.lt_succ_self j⟩
    · exact fun ac ha => ⟨[(0, .slice a xs.length c)], ha.sub ⟨rfl, trivial⟩, rfl, hg1, hax1⟩
  rintro E w1 ⟨rfl, hg1, hax1⟩
  refine CW.seq (CW.plain ?_)
  refine RL.pure rfl rfl rfl rfl ?_
  refine RL.done ?_
  exact CW.ret (ret (vs := [_]) ⟨_, _, rfl, rfl, rfl⟩ (PostV.mk hg1 hax1 rfl))

set_option maxRecDepth 100000 in
theorem SameConf_ct {w : World} {s : Res} {os : List Res} {x : Conf} {us vs : List Value} (hg : Good w s os) (hu : RConf s us x) (hv : RConf s vs x) :
    Calls Tryd.prog 62 #[.agg us.toArray, .agg vs.toArray] w (PostV w s os fun r => r = .bool true) := by
  obtain ⟨a1, c1, b1, d1, rfl, i1, j1⟩ := hu
  obtain ⟨a2, c2, b2, d2, rfl, i2, j2⟩ := hv
  refine enter (l := [.agg #[.slice a1 x.voters.length c1, .slice b1 x.learners.length d1], .agg #[.slice a2 x.voters.length c2, .slice b2 x.learners.length d2]]) Tryd.func62 rfl Tryd.ntmps62 rfl ?_
  refine CW.seq (CW.plain ?_)
  refine RL.box rfl rfl rfl rfl rfl hg ?_
  rintro p2 w2 hg2 hax2
  refine ⟨trivial, ?_⟩
  refine RL.box rfl rfl rfl rfl rfl hg2 ?_
  rintro p3 w3 hg3 hax3
  refine ⟨trivial, ?_⟩
  refine RL.pure rfl rfl rfl rfl ?_
  refine RL.done ?_
  refine CW.seq (CW.plain ?_)
  refine RL.field rfl rfl rfl rfl fl32_0 rfl rfl ?_
  refine RL.load (j := 0) rfl rfl rfl rfl ty30 rfl (Holds.one p2 _ _) (hg3.drop.1) rfl ?_
  refine RL.field rfl rfl rfl rfl fl32_0 rfl rfl ?_
  refine RL.load (j := 0) rfl rfl rfl rfl ty30 rfl (Holds.one p3 _ _) (hg3.1) rfl ?_
  refine RL.callV rfl rfl rfl rfl rfl ca84 (sameInts_ct hg3 i1 i2) ?_
  rintro v4 w4 hg4 hax4 rfl
  refine ⟨trivial, ?_⟩
  refine RL.pure rfl rfl rfl rfl ?_
  refine RL.field rfl rfl rfl rfl fl32_1 rfl rfl ?_
  refine RL.load (j := 1) rfl rfl rfl rfl ty30 rfl (Holds.one p2 _ _) (hg4.drop.1) rfl ?_
  refine RL.field rfl rfl rfl rfl fl32_1 rfl rfl ?_
  refine RL.load (j := 1) rfl rfl rfl rfl ty30 rfl (Holds.one p3 _ _) (hg4.1) rfl ?_
  refine RL.callV rfl rfl rfl rfl rfl ca84 (sameInts_ct hg4 j1 j2) ?_
  rintro v5 w5 hg5 hax5 rfl
  refine ⟨trivial, ?_⟩
  refine RL.pure rfl rfl rfl rfl ?_
  refine RL.pure rfl rfl rfl rfl ?_
  refine RL.done ?_
  exact CW.ret (ret (vs := [_]) ⟨_, _, rfl, rfl, rfl⟩ (PostV.mk hg5.drop.drop (hax2.trans (hax3.trans (hax4.trans hax5))) rfl))

set_option maxRecDepth 100000 in
theorem SameEntry_ct {w : World} {s : Res} {os : List Res} {x : Entry} {us vs : List Value} (hg : Good w s os) (hu : REntry s us x) (hv : REntry s vs x) :
    Calls Tryd.prog 65 #[.agg us.toArray, .agg vs.toArray] w (PostV w s os fun r => r = .bool true) := by
  obtain ⟨a1, c1, a2, c2, a3, c3, rfl, r1, r2, r3, i1, i2, i3⟩ := hu
  obtain ⟨b1, d1, b2, d2, b3, d3, rfl, _, _, _, j1, j2, j3⟩ := hv
  refine enter (l := [.agg #[.int .u64 x.index, .int .u64 x.term, .int .i64 x.kind, .slice a1 x.data.length c1, .slice a2 x.conf.voters.length c2, .slice a3 x.conf.learners.length c3], .agg #[.int .u64 x.index, .int .u64 x.term, .int .i64 x.kind, .slice b1 x.data.length d1, .slice b2 x.conf.voters.length d2, .slice b3 x.conf.learners.length d3]]) Tryd.func65 rfl Tryd.ntmps65 rfl ?_
  refine CW.seq (CW.plain ?_)
  refine RL.box rfl rfl rfl rfl rfl hg ?_
  rintro p2 w2 hg2 hax2
  refine ⟨trivial, ?_⟩
  refine RL.box rfl rfl rfl rfl rfl hg2 ?_
  rintro p3 w3 hg3 hax3
  refine ⟨trivial, ?_⟩
  refine RL.pure rfl rfl rfl rfl ?_
  refine RL.done ?_
  refine CW.seq (CW.plain ?_)
  refine RL.field rfl rfl rfl rfl fl35_4 rfl rfl ?_
  refine RL.loads (j := 4) (us := [.slice a2 x.conf.voters.length c2, .slice a3 x.conf.learners.length c3]) rfl rfl rfl rfl ty32 rfl (Holds.one p2 _ _) (hg3.drop.1) rfl rfl ?_
  refine RL.field rfl rfl rfl rfl fl35_4 rfl rfl ?_
  refine RL.loads (j := 4) (us := [.slice b2 x.conf.voters.length d2, .slice b3 x.conf.learners.length d3]) rfl rfl rfl rfl ty32 rfl (Holds.one p3 _ _) (hg3.1) rfl rfl ?_
  refine RL.callV rfl rfl rfl rfl rfl ca62 (SameConf_ct hg3 ⟨_, _, _, _, rfl, i2, i3⟩ ⟨_, _, _, _, rfl, j2, j3⟩) ?_
  rintro v4 w4 hg4 hax4 rfl
  refine ⟨trivial, ?_⟩
  refine RL.pure rfl rfl rfl rfl ?_
  refine RL.done ?_
  refine CW.seq (CW.plain ?_)
  refine RL.pure rfl rfl rfl rfl ?_
  refine RL.pure rfl rfl rfl rfl ?_
  refine RL.field rfl rfl rfl rfl fl35_0 rfl rfl ?_
  refine RL.load (j := 0) rfl rfl rfl rfl ty29 rfl (Holds.one p2 _ _) (hg4.drop.1) rfl ?_
  refine RL.field rfl rfl rfl rfl fl35_0 rfl rfl ?_
  refine RL.load (j := 0) rfl rfl rfl rfl ty29 rfl (Holds.one p3 _ _) (hg4.1) rfl ?_
  refine RL.pure rfl rfl rfl rfl ?_
  rw [beq_self_eq_true]
  refine RL.pure rfl rfl rfl rfl ?_
  refine RL.pure rfl rfl rfl rfl ?_
  refine RL.field rfl rfl rfl rfl fl35_1 rfl rfl ?_
  refine RL.load (j := 1) rfl rfl rfl rfl ty29 rfl (Holds.one p2 _ _) (hg4.drop.1) rfl ?_
  refine RL.field rfl rfl rfl rfl fl35_1 rfl rfl ?_
  refine RL.load (j := 1) rfl rfl rfl rfl ty29 rfl (Holds.one p3 _ _) (hg4.1) rfl ?_
  refine RL.pure rfl rfl rfl rfl ?_
  rw [beq_self_eq_true]
  refine RL.pure rfl rfl rfl rfl ?_
  refine RL.pure rfl rfl rfl rfl ?_
  refine RL.field rfl rfl rfl rfl fl35_2 rfl rfl ?_
  refine RL.load (j := 2) rfl rfl rfl rfl ty33 rfl (Holds.one p2 _ _) (hg4.drop.1) rfl ?_
  refine RL.field rfl rfl rfl rfl fl35_2 rfl rfl ?_
  refine RL.load (j := 2) rfl rfl rfl rfl ty33 rfl (Holds.one p3 _ _) (hg4.1) rfl ?_
  refine RL.pure rfl rfl rfl rfl ?_
  rw [beq_self_eq_true]
  refine RL.pure rfl rfl rfl rfl ?_
  refine RL.pure rfl rfl rfl rfl ?_
  refine RL.field rfl rfl rfl rfl fl35_3 rfl rfl ?_
  refine RL.load (j := 3) rfl rfl rfl rfl ty25 rfl (Holds.one p2 _ _) (hg4.drop.1) rfl ?_
  refine RL.bts rfl rfl rfl rfl sl25 Tryd.underlying5 Tryd.underlying9 rfl (i1.2.2) (hg4.sh) ?_
  refine RL.field rfl rfl rfl rfl fl35_3 rfl rfl ?_
  refine RL.load (j := 3) rfl rfl rfl rfl ty25 rfl (Holds.one p3 _ _) (hg4.1) rfl ?_
  refine RL.bts rfl rfl rfl rfl sl25 Tryd.underlying5 Tryd.underlying9 rfl (j1.2.2) (hg4.sh) ?_
  refine RL.sEq rfl rfl rfl rfl rfl rfl ?_
  rw [beq_self_eq_true]
  refine RL.pure rfl rfl rfl rfl ?_
  refine RL.pure rfl rfl rfl rfl ?_
  refine RL.done ?_
  exact CW.ret (ret (vs := [_]) ⟨_, _, rfl, rfl, rfl⟩ (PostV.mk hg4.drop.drop (hax2.trans (hax3.trans hax4)) rfl))

set_option maxRecDepth 100000 in
theorem SameSnap_ct {w : World} {s : Res} {os : List Res} {x : Snap} {us vs : List Value} (hg : Good w s os) (hu : RSnap s us x) (hv : RSnap s vs x) :
    Calls Tryd.prog 68 #[.agg us.toArray, .agg vs.toArray] w (PostV w s os fun r => r = .bool true) := by
  obtain ⟨a1, c1, a2, c2, a3, c3, rfl, r1, r2, i1, i2, i3⟩ := hu
  obtain ⟨b1, d1, b2, d2, b3, d3, rfl, _, _, j1, j2, j3⟩ := hv
  refine enter (l := [.agg #[.int .u64 x.index, .int .u64 x.term, .slice a2 x.conf.voters.length c2, .slice a3 x.conf.learners.length c3, .slice a1 x.data.length c1], .agg #[.int .u64 x.index, .int .u64 x.term, .slice b2 x.conf.voters.length d2, .slice b3 x.conf.learners.length d3, .slice b1 x.data.length d1]]) Tryd.func68 rfl Tryd.ntmps68 rfl ?_
  refine CW.seq (CW.plain ?_)
  refine RL.box rfl rfl rfl rfl rfl hg ?_
  rintro p2 w2 hg2 hax2
  refine ⟨trivial, ?_⟩
  refine RL.box rfl rfl rfl rfl rfl hg2 ?_
  rintro p3 w3 hg3 hax3
  refine ⟨trivial, ?_⟩
  refine RL.pure rfl rfl rfl rfl ?_
  refine RL.done ?_
  refine CW.seq (CW.plain ?_)
  refine RL.field rfl rfl rfl rfl fl37_2 rfl rfl ?_
  refine RL.loads (j := 2) (us := [.slice a2 x.conf.voters.length c2, .slice a3 x.conf.learners.length c3]) rfl rfl rfl rfl ty32 rfl (Holds.one p2 _ _) (hg3.drop.1) rfl rfl ?_
  refine RL.field rfl rfl rfl rfl fl37_2 rfl rfl ?_
  refine RL.loads (j := 2) (us := [.slice b2 x.conf.voters.length d2, .slice b3 x.conf.learners.length d3]) rfl rfl rfl rfl ty32 rfl (Holds.one p3 _ _) (hg3.1) rfl rfl ?_
  refine RL.callV rfl rfl rfl rfl rfl ca62 (SameConf_ct hg3 ⟨_, _, _, _, rfl, i2, i3⟩ ⟨_, _, _, _, rfl, j2, j3⟩) ?_
  rintro v4 w4 hg4 hax4 rfl
  refine ⟨trivial, ?_⟩
  refine RL.pure rfl rfl rfl rfl ?_
  refine RL.done ?_
  refine CW.seq (CW.plain ?_)
  refine RL.pure rfl rfl rfl rfl ?_
  refine RL.pure rfl rfl rfl rfl ?_
  refine RL.field rfl rfl rfl rfl fl37_0 rfl rfl ?_
  refine RL.load (j := 0) rfl rfl rfl rfl ty29 rfl (Holds.one p2 _ _) (hg4.drop.1) rfl ?_
  refine RL.field rfl rfl rfl rfl fl37_0 rfl rfl ?_
  refine RL.load (j := 0) rfl rfl rfl rfl ty29 rfl (Holds.one p3 _ _) (hg4.1) rfl ?_
  refine RL.pure rfl rfl rfl rfl ?_
  rw [beq_self_eq_true]
  refine RL.pure rfl rfl rfl rfl ?_
  refine RL.pure rfl rfl rfl rfl ?_
  refine RL.field rfl rfl rfl rfl fl37_1 rfl rfl ?_
  refine RL.load (j := 1) rfl rfl rfl rfl ty29 rfl (Holds.one p2 _ _) (hg4.drop.1) rfl ?_
  refine RL.field rfl rfl rfl rfl fl37_1 rfl rfl ?_
  refine RL.load (j := 1) rfl rfl rfl rfl ty29 rfl (Holds.one p3 _ _) (hg4.1) rfl ?_
  refine RL.pure rfl rfl rfl rfl ?_
  rw [beq_self_eq_true]
  refine RL.pure rfl rfl rfl rfl ?_
  refine RL.pure rfl rfl rfl rfl ?_
  refine RL.field rfl rfl rfl rfl fl37_3 rfl rfl ?_
  refine RL.load (j := 4) rfl rfl rfl rfl ty25 rfl (Holds.one p2 _ _) (hg4.drop.1) rfl ?_
  refine RL.bts rfl rfl rfl rfl sl25 Tryd.underlying5 Tryd.underlying9 rfl (i1.2.2) (hg4.sh) ?_
  refine RL.field rfl rfl rfl rfl fl37_3 rfl rfl ?_
  refine RL.load (j := 4) rfl rfl rfl rfl ty25 rfl (Holds.one p3 _ _) (hg4.1) rfl ?_
  refine RL.bts rfl rfl rfl rfl sl25 Tryd.underlying5 Tryd.underlying9 rfl (j1.2.2) (hg4.sh) ?_
  refine RL.sEq rfl rfl rfl rfl rfl rfl ?_
  rw [beq_self_eq_true]
  refine RL.pure rfl rfl rfl rfl ?_
  refine RL.pure rfl rfl rfl rfl ?_
  refine RL.done ?_
  exact CW.ret (ret (vs := [_]) ⟨_, _, rfl, rfl, rfl⟩ (PostV.mk hg4.drop.drop (hax2.trans (hax3.trans hax4)) rfl))

set_option maxRecDepth 100000 in
theorem SameRecord_ct {w : World} {s : Res} {os : List Res} {x : Record} {us vs : List Value} (hg : Good w s os) (hu : RRecord s us x) (hv : RRecord s vs x) :
    Calls Tryd.prog 75 #[.agg us.toArray, .agg vs.toArray] w (PostV w s os fun r => r = .bool true) := by
  obtain ⟨a1, c1, rfl, r1, r2, i1, r3, r4⟩ := hu
  obtain ⟨b1, d1, rfl, _, _, j1, _, _⟩ := hv
  refine enter (l := [.agg #[.int .u64 x.offset, .string x.key, .slice a1 x.value.length c1, .int .u64 x.producer, .int .u64 x.seq], .agg #[.int .u64 x.offset, .string x.key, .slice b1 x.value.length d1, .int .u64 x.producer, .int .u64 x.seq]]) Tryd.func75 rfl Tryd.ntmps75 rfl ?_
  refine CW.seq (CW.plain ?_)
  refine RL.box rfl rfl rfl rfl rfl hg ?_
  rintro p2 w2 hg2 hax2
  refine ⟨trivial, ?_⟩
  refine RL.box rfl rfl rfl rfl rfl hg2 ?_
  rintro p3 w3 hg3 hax3
  refine ⟨trivial, ?_⟩
  refine RL.pure rfl rfl rfl rfl ?_
  refine RL.done ?_
  refine CW.seq (CW.plain ?_)
  refine RL.field rfl rfl rfl rfl fl41_0 rfl rfl ?_
  refine RL.load (j := 0) rfl rfl rfl rfl ty29 rfl (Holds.one p2 _ _) (hg3.drop.1) rfl ?_
  refine RL.field rfl rfl rfl rfl fl41_0 rfl rfl ?_
  refine RL.load (j := 0) rfl rfl rfl rfl ty29 rfl (Holds.one p3 _ _) (hg3.1) rfl ?_
  refine RL.pure rfl rfl rfl rfl ?_
  rw [beq_self_eq_true]
  refine RL.pure rfl rfl rfl rfl ?_
  refine RL.field rfl rfl rfl rfl fl41_1 rfl rfl ?_
  refine RL.load (j := 1) rfl rfl rfl rfl ty9 rfl (Holds.one p2 _ _) (hg3.drop.1) rfl ?_
  refine RL.field rfl rfl rfl rfl fl41_1 rfl rfl ?_
  refine RL.load (j := 1) rfl rfl rfl rfl ty9 rfl (Holds.one p3 _ _) (hg3.1) rfl ?_
  refine RL.sEq rfl rfl rfl rfl rfl rfl ?_
  rw [beq_self_eq_true]
  refine RL.pure rfl rfl rfl rfl ?_
  refine RL.pure rfl rfl rfl rfl ?_
  refine RL.field rfl rfl rfl rfl fl41_2 rfl rfl ?_
  refine RL.load (j := 2) rfl rfl rfl rfl ty25 rfl (Holds.one p2 _ _) (hg3.drop.1) rfl ?_
  refine RL.bts rfl rfl rfl rfl sl25 Tryd.underlying5 Tryd.underlying9 rfl (i1.2.2) (hg3.sh) ?_
  refine RL.field rfl rfl rfl rfl fl41_2 rfl rfl ?_
  refine RL.load (j := 2) rfl rfl rfl rfl ty25 rfl (Holds.one p3 _ _) (hg3.1) rfl ?_
  refine RL.bts rfl rfl rfl rfl sl25 Tryd.underlying5 Tryd.underlying9 rfl (j1.2.2) (hg3.sh) ?_
  refine RL.sEq rfl rfl rfl rfl rfl rfl ?_
  rw [beq_self_eq_true]
  refine RL.pure rfl rfl rfl rfl ?_
  refine RL.pure rfl rfl rfl rfl ?_
  refine RL.field rfl rfl rfl rfl fl41_3 rfl rfl ?_
  refine RL.load (j := 3) rfl rfl rfl rfl ty29 rfl (Holds.one p2 _ _) (hg3.drop.1) rfl ?_
  refine RL.field rfl rfl rfl rfl fl41_3 rfl rfl ?_
  refine RL.load (j := 3) rfl rfl rfl rfl ty29 rfl (Holds.one p3 _ _) (hg3.1) rfl ?_
  refine RL.pure rfl rfl rfl rfl ?_
  rw [beq_self_eq_true]
  refine RL.pure rfl rfl rfl rfl ?_
  refine RL.pure rfl rfl rfl rfl ?_
  refine RL.field rfl rfl rfl rfl fl41_4 rfl rfl ?_
  refine RL.load (j := 4) rfl rfl rfl rfl ty29 rfl (Holds.one p2 _ _) (hg3.drop.1) rfl ?_
  refine RL.field rfl rfl rfl rfl fl41_4 rfl rfl ?_
  refine RL.load (j := 4) rfl rfl rfl rfl ty29 rfl (Holds.one p3 _ _) (hg3.1) rfl ?_
  refine RL.pure rfl rfl rfl rfl ?_
  rw [beq_self_eq_true]
  refine RL.pure rfl rfl rfl rfl ?_
  refine RL.pure rfl rfl rfl rfl ?_
  refine RL.done ?_
  exact CW.ret (ret (vs := [_]) ⟨_, _, rfl, rfl, rfl⟩ (PostV.mk hg3.drop.drop (hax2.trans hax3) rfl))

set_option maxRecDepth 100000 in
theorem rFail_ct {w : World} {s A : Res} {os : List Res} {p : Nat} {bs : List Int} {st : RS} {e : Int} (hg : Good w s (A :: os)) (hR : RrObj s A p bs st) (he : rng .i64 e) :
    Calls Tryd.prog 74 #[ptr p, .int .i64 e] w (Post w s os fun s' A' r => r = .tuple #[] ∧ RrObj s' A' p bs (st.fail e)) := by
  obtain ⟨h0, h1, a, c, bad, hp, hI, hv⟩ := id hR
  refine enter (l := [ptr p, .int .i64 e]) Tryd.func74 rfl Tryd.ntmps74 rfl ?_
  refine CW.plain ?_
  refine RL.pure rfl rfl rfl rfl ?_
  refine RL.pure rfl rfl rfl rfl ?_
  refine RL.pure rfl rfl rfl rfl ?_
  refine RL.pure rfl rfl rfl rfl ?_
  refine RL.field rfl rfl rfl rfl fl65_1 rfl rfl ?_
  refine RL.load rfl rfl rfl rfl ty3 rfl (Holds.of hp) (hg.1) rfl ?_
  refine RL.call rfl rfl rfl rfl rfl ca83 (rfailAt_ct hg hR he ⟨h0, h1⟩) ?_
  rintro r s1 A1 w1 hle1 hg1 hax1 ⟨_, h⟩
  refine ⟨trivial, ?_⟩
  refine RL.done ?_
  exact fall (vs := []) rfl (Post.mk hle1 hg1 hax1 ⟨rfl, h⟩)
end Go.Lw
