/-
  Beats: messages held against the same; the law's copy.
-/
import Derived.Test.YthaomecbklmmdaaDoorOpBxS
import Derived.Test.YthaomecbklmmdaaDoorOpCodecRo
namespace Go.Lw
open Go.Proofs
attribute [local irreducible] RL RA

set_option maxRecDepth 100000 in
theorem sameInts_ct {w : World} {s : Res} {os : List Res} {xs : List Int} {a b : Option Addr} {c d : Nat} (hg : Good w s os) (ha : Imm (RInt .i64) 1 s a c xs) (hb : Imm (RInt .i64) 1 s b d xs) :
    Calls Tryd.prog 71 #[.slice a xs.length c, .slice b xs.length d] w (PostV w s os fun r => r = .bool true) := by
  have hmax := ha.le_max
  simp only [maxLen] at hmax
  refine enter (l := [.slice a xs.length c, .slice b xs.length d]) Tryd.func71 rfl Tryd.ntmps71 rfl ?_
  refine CW.seq (CW.plain ?_)
  refine RL.pure rfl rfl rfl rfl ?_
  refine RL.done ?_
  refine CW.seq (CW.seq (CW.plain ?_))
  refine RL.pure rfl rfl rfl rfl ?_
  refine RL.len rfl rfl rfl rfl sl38 rfl ?_
  refine RL.pure rfl rfl rfl rfl ?_
  refine RL.len rfl rfl rfl rfl sl38 rfl ?_
  refine RL.pure rfl rfl rfl rfl ?_
  refine RL.done ?_
  refine CW.ne rfl (fun h => absurd rfl h) (fun _ => CW.skip ?_)
  refine CW.meet (fun E w' => E = [(0, .slice a xs.length c)] ∧ Good w' s os ∧ Aux w w') ?_ ?_
  · refine CW.seq (CW.plain ?_)
    refine RL.pure rfl rfl rfl rfl ?_
    refine RL.done ?_
    refine CW.block (CW.loop (σ := Nat) (fun j E w' => ∃ k : Nat, E = [(0, .slice a xs.length c), (1, .slice b xs.length d), (5, .int .i64 k)] ∧ Good w' s os ∧ Aux w w' ∧ k + j = xs.length) (fun j => j) xs.length
      [(0, .slice a xs.length c), (1, .slice b xs.length d), (5, .int .i64 0)] ⟨rfl, rfl, rfl, trivial⟩ ⟨0, rfl, hg, Aux.refl _, by omega⟩ ?_)
    rintro j E w1 ⟨k, rfl, hg1, hax1, hk⟩
    refine CW.seq (CW.seq (CW.plain ?_))
    refine RL.pure rfl rfl rfl rfl ?_
    refine RL.pure rfl rfl rfl rfl ?_
    refine RL.len rfl rfl rfl rfl sl38 rfl ?_
    refine RL.pure rfl rfl rfl rfl ?_
    refine RL.done ?_
    refine CW.test rfl (fun h => ?_) (fun h => CW.exit ?_)
    · refine CW.skip (CW.seq (CW.block (CW.seq ?_)))
      refine CW.draws [(true, 0), (true, 1), (true, 2), (true, 3), (true, 4), (true, 5), (true, 6), (true, 7), (true, 8)] (fun w => Good w s os) mixed (by kernel_rfl) (by kernel_rfl) (by kernel_rfl) (by kernel_rfl) (hg1.drew) ?_
      refine RL.pure rfl rfl rfl rfl ?_
      refine RL.pure rfl rfl rfl rfl ?_
      refine RL.idx rfl rfl rfl rfl sl38 rfl rfl (ha) (by omega) ((by omega)) ?_
      rintro q1 vs1 hvl1 hH1 ⟨rfl, hr1⟩
      refine RL.loadT rfl rfl rfl rfl ty3 rfl (hH1) (fun w h => h.sh) rfl ?_
      refine RL.pure rfl rfl rfl rfl ?_
      refine RL.pure rfl rfl rfl rfl ?_
      refine RL.idx rfl rfl rfl rfl sl38 rfl rfl (hb) (by omega) ((by omega)) ?_
      rintro q2 vs2 hvl2 hH2 ⟨rfl, hr2⟩
      refine RL.loadT rfl rfl rfl rfl ty3 rfl (hH2) (fun w h => h.sh) rfl ?_
      refine RL.pure rfl rfl rfl rfl ?_
      refine RL.done ?_
      refine CW.ne rfl (fun h => absurd rfl h) (fun _ => CW.skip (CW.plain ?_))
      refine RL.pure rfl rfl rfl rfl ?_
      refine RL.add rfl rfl rfl rfl rfl rfl (by simp only [rng] at *; omega) ?_
      refine RL.pure rfl rfl rfl rfl ?_
      refine RL.done ?_
      cases j with
      | zero => omega
      | succ j => exact fun ac ha => ⟨j, [(0, .slice a xs.length c), (1, .slice b xs.length d), (5, .int .i64 ((k : Int) + 1))], ha.sub ⟨rfl, rfl, rfl, trivial⟩, ⟨k + 1, rfl, hg1.drew, hax1.trans (Aux.drew _), by omega⟩, Nat.lt_succ_self j⟩
    · exact fun ac ha => ⟨[(0, .slice a xs.length c)], ha.sub ⟨rfl, trivial⟩, rfl, hg1, hax1⟩
  rintro E w1 ⟨rfl, hg1, hax1⟩
  refine CW.seq (CW.plain ?_)
  refine RL.pure rfl rfl rfl rfl ?_
  refine RL.done ?_
  exact CW.ret (ret (vs := [_]) ⟨_, _, rfl, rfl, rfl⟩ (PostV.mk hg1 hax1 rfl))

set_option maxRecDepth 100000 in
theorem SameConf_ct {w : World} {s : Res} {os : List Res} {x : Conf} {us vs : List Value} (hg : Good w s os) (hu : RConf s us x) (hv : RConf s vs x) :
    Calls Tryd.prog 52 #[.agg us.toArray, .agg vs.toArray] w (PostV w s os fun r => r = .bool true) := by
  obtain ⟨a1, c1, b1, d1, rfl, i1, j1⟩ := hu
  obtain ⟨a2, c2, b2, d2, rfl, i2, j2⟩ := hv
  refine enter (l := [.agg #[.slice a1 x.voters.length c1, .slice b1 x.learners.length d1], .agg #[.slice a2 x.voters.length c2, .slice b2 x.learners.length d2]]) Tryd.func52 rfl Tryd.ntmps52 rfl ?_
  refine CW.seq (CW.plain ?_)
  refine RL.box rfl rfl rfl rfl rfl hg ?_
  rintro p2 w2 hg2 hax2
  refine ⟨trivial, ?_⟩
  refine RL.box rfl rfl rfl rfl rfl hg2 ?_
  rintro p3 w3 hg3 hax3
  refine ⟨trivial, ?_⟩
  refine RL.pure rfl rfl rfl rfl ?_
  refine RL.done ?_
  refine CW.seq (CW.plain ?_)
  refine RL.field rfl rfl rfl rfl fl40_0 rfl rfl ?_
  refine RL.load (j := 0) rfl rfl rfl rfl ty38 rfl (Holds.one p2 _ _) (hg3.drop.1) rfl ?_
  refine RL.field rfl rfl rfl rfl fl40_0 rfl rfl ?_
  refine RL.load (j := 0) rfl rfl rfl rfl ty38 rfl (Holds.one p3 _ _) (hg3.1) rfl ?_
  refine RL.callV rfl rfl rfl rfl rfl ca71 (sameInts_ct hg3 i1 i2) ?_
  rintro v4 w4 hg4 hax4 rfl
  refine ⟨trivial, ?_⟩
  refine RL.pure rfl rfl rfl rfl ?_
  refine RL.done ?_
  refine CW.seq (CW.plain ?_)
  refine RL.field rfl rfl rfl rfl fl40_1 rfl rfl ?_
  refine RL.load (j := 1) rfl rfl rfl rfl ty38 rfl (Holds.one p2 _ _) (hg4.drop.1) rfl ?_
  refine RL.field rfl rfl rfl rfl fl40_1 rfl rfl ?_
  refine RL.load (j := 1) rfl rfl rfl rfl ty38 rfl (Holds.one p3 _ _) (hg4.1) rfl ?_
  refine RL.callV rfl rfl rfl rfl rfl ca71 (sameInts_ct hg4 j1 j2) ?_
  rintro v5 w5 hg5 hax5 rfl
  refine ⟨trivial, ?_⟩
  refine RL.pure rfl rfl rfl rfl ?_
  refine RL.done ?_
  refine CW.seq (CW.plain ?_)
  refine RL.pure rfl rfl rfl rfl ?_
  refine RL.pure rfl rfl rfl rfl ?_
  refine RL.pure rfl rfl rfl rfl ?_
  refine RL.pure rfl rfl rfl rfl ?_
  refine RL.pure rfl rfl rfl rfl ?_
  refine RL.done ?_
  exact CW.ret (ret (vs := [_]) ⟨_, _, rfl, rfl, rfl⟩ (PostV.mk hg5.drop.drop (hax2.trans (hax3.trans (hax4.trans hax5))) rfl))

set_option maxRecDepth 100000 in
theorem SameEntry_ct {w : World} {s : Res} {os : List Res} {x : Entry} {us vs : List Value} (hg : Good w s os) (hu : REntry s us x) (hv : REntry s vs x) :
    Calls Tryd.prog 72 #[.agg us.toArray, .agg vs.toArray] w (PostV w s os fun r => r = .bool true) := by
  obtain ⟨a1, c1, a2, c2, a3, c3, rfl, r1, r2, r3, i1, i2, i3⟩ := hu
  obtain ⟨b1, d1, b2, d2, b3, d3, rfl, _, _, _, j1, j2, j3⟩ := hv
  refine enter (l := [.agg #[.int .u64 x.index, .int .u64 x.term, .int .i64 x.kind, .slice a1 x.data.length c1, .slice a2 x.conf.voters.length c2, .slice a3 x.conf.learners.length c3], .agg #[.int .u64 x.index, .int .u64 x.term, .int .i64 x.kind, .slice b1 x.data.length d1, .slice b2 x.conf.voters.length d2, .slice b3 x.conf.learners.length d3]]) Tryd.func72 rfl Tryd.ntmps72 rfl ?_
  refine CW.seq (CW.plain ?_)
  refine RL.box rfl rfl rfl rfl rfl hg ?_
  rintro p2 w2 hg2 hax2
  refine ⟨trivial, ?_⟩
  refine RL.box rfl rfl rfl rfl rfl hg2 ?_
  rintro p3 w3 hg3 hax3
  refine ⟨trivial, ?_⟩
  refine RL.pure rfl rfl rfl rfl ?_
  refine RL.done ?_
  refine CW.seq (CW.plain ?_)
  refine RL.field rfl rfl rfl rfl fl84_4 rfl rfl ?_
  refine RL.loads (j := 4) (us := [.slice a2 x.conf.voters.length c2, .slice a3 x.conf.learners.length c3]) rfl rfl rfl rfl ty40 rfl (Holds.one p2 _ _) (hg3.drop.1) rfl rfl ?_
  refine RL.field rfl rfl rfl rfl fl84_4 rfl rfl ?_
  refine RL.loads (j := 4) (us := [.slice b2 x.conf.voters.length d2, .slice b3 x.conf.learners.length d3]) rfl rfl rfl rfl ty40 rfl (Holds.one p3 _ _) (hg3.1) rfl rfl ?_
  refine RL.callV rfl rfl rfl rfl rfl ca52 (SameConf_ct hg3 ⟨_, _, _, _, rfl, i2, i3⟩ ⟨_, _, _, _, rfl, j2, j3⟩) ?_
  rintro v4 w4 hg4 hax4 rfl
  refine ⟨trivial, ?_⟩
  refine RL.pure rfl rfl rfl rfl ?_
  refine RL.done ?_
  refine CW.seq (CW.plain ?_)
  refine RL.pure rfl rfl rfl rfl ?_
  refine RL.pure rfl rfl rfl rfl ?_
  refine RL.field rfl rfl rfl rfl fl84_0 rfl rfl ?_
  refine RL.load (j := 0) rfl rfl rfl rfl ty36 rfl (Holds.one p2 _ _) (hg4.drop.1) rfl ?_
  refine RL.field rfl rfl rfl rfl fl84_0 rfl rfl ?_
  refine RL.load (j := 0) rfl rfl rfl rfl ty36 rfl (Holds.one p3 _ _) (hg4.1) rfl ?_
  refine RL.pure rfl rfl rfl rfl ?_
  rw [beq_self_eq_true]
  refine RL.pure rfl rfl rfl rfl ?_
  refine RL.pure rfl rfl rfl rfl ?_
  refine RL.field rfl rfl rfl rfl fl84_1 rfl rfl ?_
  refine RL.load (j := 1) rfl rfl rfl rfl ty36 rfl (Holds.one p2 _ _) (hg4.drop.1) rfl ?_
  refine RL.field rfl rfl rfl rfl fl84_1 rfl rfl ?_
  refine RL.load (j := 1) rfl rfl rfl rfl ty36 rfl (Holds.one p3 _ _) (hg4.1) rfl ?_
  refine RL.pure rfl rfl rfl rfl ?_
  rw [beq_self_eq_true]
  refine RL.pure rfl rfl rfl rfl ?_
  refine RL.pure rfl rfl rfl rfl ?_
  refine RL.field rfl rfl rfl rfl fl84_2 rfl rfl ?_
  refine RL.load (j := 2) rfl rfl rfl rfl ty82 rfl (Holds.one p2 _ _) (hg4.drop.1) rfl ?_
  refine RL.field rfl rfl rfl rfl fl84_2 rfl rfl ?_
  refine RL.load (j := 2) rfl rfl rfl rfl ty82 rfl (Holds.one p3 _ _) (hg4.1) rfl ?_
  refine RL.pure rfl rfl rfl rfl ?_
  rw [beq_self_eq_true]
  refine RL.pure rfl rfl rfl rfl ?_
  refine RL.pure rfl rfl rfl rfl ?_
  refine RL.field rfl rfl rfl rfl fl84_3 rfl rfl ?_
  refine RL.load (j := 3) rfl rfl rfl rfl ty22 rfl (Holds.one p2 _ _) (hg4.drop.1) rfl ?_
  refine RL.bts rfl rfl rfl rfl sl22 Tryd.underlying5 Tryd.underlying9 rfl (i1.2.2) (hg4.sh) ?_
  refine RL.field rfl rfl rfl rfl fl84_3 rfl rfl ?_
  refine RL.load (j := 3) rfl rfl rfl rfl ty22 rfl (Holds.one p3 _ _) (hg4.1) rfl ?_
  refine RL.bts rfl rfl rfl rfl sl22 Tryd.underlying5 Tryd.underlying9 rfl (j1.2.2) (hg4.sh) ?_
  refine RL.sEq rfl rfl rfl rfl rfl rfl ?_
  rw [beq_self_eq_true]
  refine RL.pure rfl rfl rfl rfl ?_
  refine RL.pure rfl rfl rfl rfl ?_
  refine RL.done ?_
  exact CW.ret (ret (vs := [_]) ⟨_, _, rfl, rfl, rfl⟩ (PostV.mk hg4.drop.drop (hax2.trans (hax3.trans hax4)) rfl))

set_option maxRecDepth 100000 in
theorem SameEntries_ct {w : World} {s : Res} {os : List Res} {xs : List Entry} {a b : Option Addr} {c d : Nat} (hg : Good w s os) (ha : Imm REntry 6 s a c xs) (hb : Imm REntry 6 s b d xs) :
    Calls Tryd.prog 53 #[.slice a xs.length c, .slice b xs.length d] w (PostV w s os fun r => r = .bool true) := by
  have hmax := ha.le_max
  simp only [maxLen] at hmax
  refine enter (l := [.slice a xs.length c, .slice b xs.length d]) Tryd.func53 rfl Tryd.ntmps53 rfl ?_
  refine CW.seq (CW.plain ?_)
  refine RL.pure rfl rfl rfl rfl ?_
  refine RL.done ?_
  refine CW.seq (CW.seq (CW.plain ?_))
  refine RL.pure rfl rfl rfl rfl ?_
  refine RL.len rfl rfl rfl rfl sl37 rfl ?_
  refine RL.pure rfl rfl rfl rfl ?_
  refine RL.len rfl rfl rfl rfl sl37 rfl ?_
  refine RL.pure rfl rfl rfl rfl ?_
  refine RL.done ?_
  refine CW.ne rfl (fun h => absurd rfl h) (fun _ => CW.skip ?_)
  refine CW.meet (fun E w' => E = [(0, .slice a xs.length c)] ∧ Good w' s os ∧ Aux w w') ?_ ?_
  · refine CW.seq (CW.plain ?_)
    refine RL.pure rfl rfl rfl rfl ?_
    refine RL.done ?_
    refine CW.block (CW.loop (σ := Nat) (fun j E w' => ∃ k : Nat, E = [(0, .slice a xs.length c), (1, .slice b xs.length d), (5, .int .i64 k)] ∧ Good w' s os ∧ Aux w w' ∧ k + j = xs.length) (fun j => j) xs.length
      [(0, .slice a xs.length c), (1, .slice b xs.length d), (5, .int .i64 0)] ⟨rfl, rfl, rfl, trivial⟩ ⟨0, rfl, hg, Aux.refl _, by omega⟩ ?_)
    rintro j E w1 ⟨k, rfl, hg1, hax1, hk⟩
    refine CW.seq (CW.seq (CW.plain ?_))
    refine RL.pure rfl rfl rfl rfl ?_
    refine RL.pure rfl rfl rfl rfl ?_
    refine RL.len rfl rfl rfl rfl sl37 rfl ?_
    refine RL.pure rfl rfl rfl rfl ?_
    refine RL.done ?_
    refine CW.test rfl (fun h => ?_) (fun h => CW.exit ?_)
    · refine CW.skip (CW.seq (CW.block (CW.seq ?_)))
      have hgD := hg1.drew
      refine CW.draws [(true, 0), (true, 1), (true, 2), (true, 3), (true, 4), (true, 5), (true, 6), (true, 7), (false, 8), (false, 9)] (fun w => Good w s os) mixed (by kernel_rfl) (by kernel_rfl) (by kernel_rfl) (by kernel_rfl) (hgD) ?_
      refine RL.pure rfl rfl rfl rfl ?_
      refine RL.pure rfl rfl rfl rfl ?_
      refine RL.idx rfl rfl rfl rfl sl37 rfl rfl (ha) (by omega) ((by omega)) ?_
      rintro q1 vs1 hvl1 hH1 hre1
      obtain ⟨a1, c1, a2, c2, a3, c3, rfl, r1⟩ := id hre1
      refine RL.loadsT (j := 0) (us := _) rfl rfl rfl rfl ty84 rfl (hH1) (fun w h => h.sh) rfl rfl ?_
      refine RL.pure rfl rfl rfl rfl ?_
      refine RL.pure rfl rfl rfl rfl ?_
      refine RL.idx rfl rfl rfl rfl sl37 rfl rfl (hb) (by omega) ((by omega)) ?_
      rintro q2 vs2 hvl2 hH2 hre2
      obtain ⟨b1, d1, b2, d2, b3, d3, rfl, r2⟩ := id hre2
      refine RL.loadsT (j := 0) (us := _) rfl rfl rfl rfl ty84 rfl (hH2) (fun w h => h.sh) rfl rfl ?_
      refine RL.callV rfl rfl rfl rfl rfl ca72 (SameEntry_ct hgD hre1 hre2) ?_
      rintro v4 w4 hg4 hax4 rfl
      refine ⟨hg4, ?_⟩
      refine RL.pure rfl rfl rfl rfl ?_
      refine RL.done ?_
      refine CW.seq (CW.plain ?_)
      refine RL.pure rfl rfl rfl rfl ?_
      refine RL.pure rfl rfl rfl rfl ?_
      refine RL.done ?_
      refine CW.no rfl (CW.skip (CW.plain ?_))
      refine RL.pure rfl rfl rfl rfl ?_
      refine RL.add rfl rfl rfl rfl rfl rfl (by simp only [rng] at *; omega) ?_
      refine RL.pure rfl rfl rfl rfl ?_
      refine RL.done ?_
      cases j with
      | zero => omega
      | succ j => exact fun ac ha => ⟨j, [(0, .slice a xs.length c), (1, .slice b xs.length d), (5, .int .i64 ((k : Int) + 1))], ha.sub ⟨rfl, rfl, rfl, trivial⟩, ⟨k + 1, rfl, hg4, hax1.trans ((Aux.drew _).trans hax4), by omega⟩, Nat.lt_succ_self j⟩
    · exact fun ac ha => ⟨[(0, .slice a xs.length c)], ha.sub ⟨rfl, trivial⟩, rfl, hg1, hax1⟩
  rintro E w1 ⟨rfl, hg1, hax1⟩
  refine CW.seq (CW.plain ?_)
  refine RL.pure rfl rfl rfl rfl ?_
  refine RL.done ?_
  exact CW.ret (ret (vs := [_]) ⟨_, _, rfl, rfl, rfl⟩ (PostV.mk hg1 hax1 rfl))

set_option maxHeartbeats 1000000 in
set_option maxRecDepth 100000 in
theorem SameMsg_ct {w : World} {s : Res} {os : List Res} {x : Msg} {us vs : List Value} (hg : Good w s os) (hu : RMsg s us x) (hv : RMsg s vs x) :
    Calls Tryd.prog 29 #[.agg us.toArray, .agg vs.toArray] w (PostV w s os fun r => r = .bool true) := by
  obtain ⟨y, rfl, h1⟩ := hu
  obtain ⟨z, rfl, h2⟩ := hv
  refine enter (l := [.agg (msgV x y).toArray, .agg (msgV x z).toArray]) Tryd.func29 rfl Tryd.ntmps29 rfl ?_
  refine CW.seq (CW.plain ?_)
  refine RL.box rfl rfl rfl rfl rfl hg ?_
  rintro p2 w2 hg2 hax2
  refine ⟨trivial, ?_⟩
  refine RL.box rfl rfl rfl rfl rfl hg2 ?_
  rintro p3 w3 hg3 hax3
  refine ⟨trivial, ?_⟩
  refine RL.pure rfl rfl rfl rfl ?_
  refine RL.done ?_
  have hY : Holds (Res.one p2 _) ⟨p2, 0, none⟩ (msgV x y) := Holds.one p2 _ 42
  have hZ : Holds (Res.one p3 _) ⟨p3, 0, none⟩ (msgV x z) := Holds.one p3 _ 42
  refine CW.seq (CW.plain ?_)
  refine RL.field rfl rfl rfl rfl fl42_10 rfl rfl ?_
  refine RL.loads (j := 10) (us := [.slice y.va x.conf.voters.length y.vc, .slice y.la x.conf.learners.length y.lc]) rfl rfl rfl rfl ty40 rfl (hY) (hg3.drop.1) rfl rfl ?_
  refine RL.field rfl rfl rfl rfl fl42_10 rfl rfl ?_
  refine RL.loads (j := 10) (us := [.slice z.va x.conf.voters.length z.vc, .slice z.la x.conf.learners.length z.lc]) rfl rfl rfl rfl ty40 rfl (hZ) (hg3.1) rfl rfl ?_
  refine RL.callV rfl rfl rfl rfl rfl ca52 (SameConf_ct hg3 h1.conf h2.conf) ?_
  rintro v4 w4 hg4 hax4 rfl
  refine ⟨trivial, ?_⟩
  refine RL.pure rfl rfl rfl rfl ?_
  refine RL.done ?_
  refine CW.seq (CW.plain ?_)
  refine RL.field rfl rfl rfl rfl fl42_6 rfl rfl ?_
  refine RL.load (j := 6) rfl rfl rfl rfl ty37 rfl (hY) (hg4.drop.1) rfl ?_
  refine RL.field rfl rfl rfl rfl fl42_6 rfl rfl ?_
  refine RL.load (j := 6) rfl rfl rfl rfl ty37 rfl (hZ) (hg4.1) rfl ?_
  refine RL.callV rfl rfl rfl rfl rfl ca53 (SameEntries_ct hg4 h1.entries h2.entries) ?_
  rintro v5 w5 hg5 hax5 rfl
  refine ⟨trivial, ?_⟩
  refine RL.pure rfl rfl rfl rfl ?_
  refine RL.done ?_
  refine CW.seq (CW.plain ?_)
  refine RL.pure rfl rfl rfl rfl ?_
  refine RL.pure rfl rfl rfl rfl ?_
  refine RL.pure rfl rfl rfl rfl ?_
  refine RL.pure rfl rfl rfl rfl ?_
  refine RL.pure rfl rfl rfl rfl ?_
  refine RL.field rfl rfl rfl rfl fl42_0 rfl rfl ?_
  refine RL.load (j := 0) rfl rfl rfl rfl ty35 rfl (hY) (hg5.drop.1) rfl ?_
  refine RL.field rfl rfl rfl rfl fl42_0 rfl rfl ?_
  refine RL.load (j := 0) rfl rfl rfl rfl ty35 rfl (hZ) (hg5.1) rfl ?_
  refine RL.pure rfl rfl rfl rfl ?_
  rw [beq_self_eq_true]
  refine RL.pure rfl rfl rfl rfl ?_
  refine RL.pure rfl rfl rfl rfl ?_
  refine RL.field rfl rfl rfl rfl fl42_1 rfl rfl ?_
  refine RL.load (j := 1) rfl rfl rfl rfl ty3 rfl (hY) (hg5.drop.1) rfl ?_
  refine RL.field rfl rfl rfl rfl fl42_1 rfl rfl ?_
  refine RL.load (j := 1) rfl rfl rfl rfl ty3 rfl (hZ) (hg5.1) rfl ?_
  refine RL.pure rfl rfl rfl rfl ?_
  rw [beq_self_eq_true]
  refine RL.pure rfl rfl rfl rfl ?_
  refine RL.pure rfl rfl rfl rfl ?_
  refine RL.field rfl rfl rfl rfl fl42_2 rfl rfl ?_
  refine RL.load (j := 2) rfl rfl rfl rfl ty3 rfl (hY) (hg5.drop.1) rfl ?_
  refine RL.field rfl rfl rfl rfl fl42_2 rfl rfl ?_
  refine RL.load (j := 2) rfl rfl rfl rfl ty3 rfl (hZ) (hg5.1) rfl ?_
  refine RL.pure rfl rfl rfl rfl ?_
  rw [beq_self_eq_true]
  refine RL.pure rfl rfl rfl rfl ?_
  refine RL.pure rfl rfl rfl rfl ?_
  refine RL.field rfl rfl rfl rfl fl42_3 rfl rfl ?_
  refine RL.load (j := 3) rfl rfl rfl rfl ty36 rfl (hY) (hg5.drop.1) rfl ?_
  refine RL.field rfl rfl rfl rfl fl42_3 rfl rfl ?_
  refine RL.load (j := 3) rfl rfl rfl rfl ty36 rfl (hZ) (hg5.1) rfl ?_
  refine RL.pure rfl rfl rfl rfl ?_
  rw [beq_self_eq_true]
  refine RL.pure rfl rfl rfl rfl ?_
  refine RL.pure rfl rfl rfl rfl ?_
  refine RL.field rfl rfl rfl rfl fl42_4 rfl rfl ?_
  refine RL.load (j := 4) rfl rfl rfl rfl ty36 rfl (hY) (hg5.drop.1) rfl ?_
  refine RL.field rfl rfl rfl rfl fl42_4 rfl rfl ?_
  refine RL.load (j := 4) rfl rfl rfl rfl ty36 rfl (hZ) (hg5.1) rfl ?_
  refine RL.pure rfl rfl rfl rfl ?_
  rw [beq_self_eq_true]
  refine RL.pure rfl rfl rfl rfl ?_
  refine RL.pure rfl rfl rfl rfl ?_
  refine RL.field rfl rfl rfl rfl fl42_5 rfl rfl ?_
  refine RL.load (j := 5) rfl rfl rfl rfl ty36 rfl (hY) (hg5.drop.1) rfl ?_
  refine RL.field rfl rfl rfl rfl fl42_5 rfl rfl ?_
  refine RL.load (j := 5) rfl rfl rfl rfl ty36 rfl (hZ) (hg5.1) rfl ?_
  refine RL.pure rfl rfl rfl rfl ?_
  rw [beq_self_eq_true]
  refine RL.pure rfl rfl rfl rfl ?_
  refine RL.pure rfl rfl rfl rfl ?_
  refine RL.field rfl rfl rfl rfl fl42_7 rfl rfl ?_
  refine RL.load (j := 7) rfl rfl rfl rfl ty36 rfl (hY) (hg5.drop.1) rfl ?_
  refine RL.field rfl rfl rfl rfl fl42_7 rfl rfl ?_
  refine RL.load (j := 7) rfl rfl rfl rfl ty36 rfl (hZ) (hg5.1) rfl ?_
  refine RL.pure rfl rfl rfl rfl ?_
  rw [beq_self_eq_true]
  refine RL.pure rfl rfl rfl rfl ?_
  refine RL.pure rfl rfl rfl rfl ?_
  refine RL.field rfl rfl rfl rfl fl42_8 rfl rfl ?_
  refine RL.load (j := 8) rfl rfl rfl rfl ty4 rfl (hY) (hg5.drop.1) rfl ?_
  refine RL.field rfl rfl rfl rfl fl42_8 rfl rfl ?_
  refine RL.load (j := 8) rfl rfl rfl rfl ty4 rfl (hZ) (hg5.1) rfl ?_
  refine RL.bEq rfl rfl rfl rfl Tryd.underlying4 rfl rfl ?_
  rw [beq_self_eq_true]
  refine RL.pure rfl rfl rfl rfl ?_
  refine RL.pure rfl rfl rfl rfl ?_
  refine RL.field rfl rfl rfl rfl fl42_9 rfl rfl ?_
  refine RL.load (j := 9) rfl rfl rfl rfl ty36 rfl (hY) (hg5.drop.1) rfl ?_
  refine RL.field rfl rfl rfl rfl fl42_9 rfl rfl ?_
  refine RL.load (j := 9) rfl rfl rfl rfl ty36 rfl (hZ) (hg5.1) rfl ?_
  refine RL.pure rfl rfl rfl rfl ?_
  rw [beq_self_eq_true]
  refine RL.pure rfl rfl rfl rfl ?_
  refine RL.pure rfl rfl rfl rfl ?_
  refine RL.field rfl rfl rfl rfl fl42_11 rfl rfl ?_
  refine RL.load (j := 12) rfl rfl rfl rfl ty22 rfl (hY) (hg5.drop.1) rfl ?_
  refine RL.bts rfl rfl rfl rfl sl22 Tryd.underlying5 Tryd.underlying9 rfl (h1.data.2.2) (hg5.sh) ?_
  refine RL.field rfl rfl rfl rfl fl42_11 rfl rfl ?_
  refine RL.load (j := 12) rfl rfl rfl rfl ty22 rfl (hZ) (hg5.1) rfl ?_
  refine RL.bts rfl rfl rfl rfl sl22 Tryd.underlying5 Tryd.underlying9 rfl (h2.data.2.2) (hg5.sh) ?_
  refine RL.sEq rfl rfl rfl rfl rfl rfl ?_
  rw [beq_self_eq_true]
  refine RL.pure rfl rfl rfl rfl ?_
  refine RL.pure rfl rfl rfl rfl ?_
  refine RL.field rfl rfl rfl rfl fl42_12 rfl rfl ?_
  refine RL.load (j := 13) rfl rfl rfl rfl ty4 rfl (hY) (hg5.drop.1) rfl ?_
  refine RL.field rfl rfl rfl rfl fl42_12 rfl rfl ?_
  refine RL.load (j := 13) rfl rfl rfl rfl ty4 rfl (hZ) (hg5.1) rfl ?_
  refine RL.bEq rfl rfl rfl rfl Tryd.underlying4 rfl rfl ?_
  rw [beq_self_eq_true]
  refine RL.pure rfl rfl rfl rfl ?_
  refine RL.pure rfl rfl rfl rfl ?_
  refine RL.done ?_
  exact CW.ret (ret (vs := [_]) ⟨_, _, rfl, rfl, rfl⟩ (PostV.mk hg5.drop.drop (hax2.trans (hax3.trans (hax4.trans hax5))) rfl))

set_option maxHeartbeats 1000000 in
set_option maxRecDepth 100000 in
theorem Same11_ct {w : World} {s : Res} {os : List Res} {xs : List Wire} {a b : Option Addr} {c d : Nat} (hg : Good w s os) (ha : Imm RWire 15 s a c xs) (hb : Imm RWire 15 s b d xs) :
    Calls Tryd.prog 9 #[.slice a xs.length c, .slice b xs.length d] w (PostV w s os fun r => r = .bool true) := by
  have hmax := ha.le_max
  simp only [maxLen] at hmax
  refine enter (l := [.slice a xs.length c, .slice b xs.length d]) Tryd.func9 rfl Tryd.ntmps9 rfl ?_
  refine CW.seq (CW.plain ?_)
  refine RL.pure rfl rfl rfl rfl ?_
  refine RL.done ?_
  refine CW.seq (CW.seq (CW.plain ?_))
  refine RL.pure rfl rfl rfl rfl ?_
  refine RL.len rfl rfl rfl rfl sl30 rfl ?_
  refine RL.pure rfl rfl rfl rfl ?_
  refine RL.len rfl rfl rfl rfl sl30 rfl ?_
  refine RL.pure rfl rfl rfl rfl ?_
  refine RL.done ?_
  refine CW.ne rfl (fun h => absurd rfl h) (fun _ => CW.skip ?_)
  refine CW.meet (fun E w' => E = [(0, .slice a xs.length c)] ∧ Good w' s os ∧ Aux w w') ?_ ?_
  · refine CW.seq (CW.plain ?_)
    refine RL.pure rfl rfl rfl rfl ?_
    refine RL.done ?_
    refine CW.block (CW.loop (σ := Nat) (fun j E w' => ∃ k : Nat, E = [(0, .slice a xs.length c), (1, .slice b xs.length d), (5, .int .i64 k)] ∧ Good w' s os ∧ Aux w w' ∧ k + j = xs.length) (fun j => j) xs.length
      [(0, .slice a xs.length c), (1, .slice b xs.length d), (5, .int .i64 0)] ⟨rfl, rfl, rfl, trivial⟩ ⟨0, rfl, hg, Aux.refl _, by omega⟩ ?_)
    rintro j E w1 ⟨k, rfl, hg1, hax1, hk⟩
    refine CW.seq (CW.seq (CW.plain ?_))
    refine RL.pure rfl rfl rfl rfl ?_
    refine RL.pure rfl rfl rfl rfl ?_
    refine RL.len rfl rfl rfl rfl sl30 rfl ?_
    refine RL.pure rfl rfl rfl rfl ?_
    refine RL.done ?_
    refine CW.test rfl (fun h => ?_) (fun h => CW.exit ?_)
    · refine CW.skip (CW.seq (CW.block (CW.seq ?_)))
      have hgD := hg1.drew
      refine CW.draws [(true, 0), (true, 1), (true, 2), (true, 3), (true, 4), (true, 5), (true, 6), (true, 7), (true, 8), (true, 9), (false, 10), (false, 11)] (fun w => Good w s os) mixed (by kernel_rfl) (by kernel_rfl) (by kernel_rfl) (by kernel_rfl) (hgD) ?_
      refine RL.pure rfl rfl rfl rfl ?_
      refine RL.pure rfl rfl rfl rfl ?_
      refine RL.idx rfl rfl rfl rfl sl30 rfl rfl (ha) (by omega) ((by omega)) ?_
      rintro q1 vs1 hvl1 hH1 hre1
      refine RL.field rfl rfl rfl rfl fl51_1 rfl rfl ?_
      obtain ⟨y, rfl, hgr1, ho1⟩ := id hre1
      refine RL.loadsT (j := 1) (us := (msgV (xs[((k : Nat) : Int).toNat]'(by omega)).msg y)) rfl rfl rfl rfl ty42 rfl (hH1) (fun w h => h.sh) rfl rfl ?_
      refine RL.pure rfl rfl rfl rfl ?_
      refine RL.pure rfl rfl rfl rfl ?_
      refine RL.idx rfl rfl rfl rfl sl30 rfl rfl (hb) (by omega) ((by omega)) ?_
      rintro q2 vs2 hvl2 hH2 hre2
      refine RL.field rfl rfl rfl rfl fl51_1 rfl rfl ?_
      obtain ⟨z, rfl, hgr2, ho2⟩ := id hre2
      refine RL.loadsT (j := 1) (us := (msgV (xs[((k : Nat) : Int).toNat]'(by omega)).msg z)) rfl rfl rfl rfl ty42 rfl (hH2) (fun w h => h.sh) rfl rfl ?_
      refine RL.callV rfl rfl rfl rfl rfl ca29 (SameMsg_ct hgD ⟨y, rfl, ho1⟩ ⟨z, rfl, ho2⟩) ?_
      rintro v4 w4 hg4 hax4 rfl
      refine ⟨hg4, ?_⟩
      refine RL.pure rfl rfl rfl rfl ?_
      refine RL.done ?_
      refine CW.seq ?_
      have hgE := hg4.drew
      refine CW.draws [(true, 0), (true, 1), (true, 2), (true, 3), (true, 4), (true, 5), (true, 6), (true, 7), (true, 8), (true, 9), (true, 10), (true, 11), (true, 12), (true, 13), (true, 14)] (fun w => Good w s os) mixed (by kernel_rfl) (by kernel_rfl) (by kernel_rfl) (by kernel_rfl) (hgE) ?_
      refine RL.pure rfl rfl rfl rfl ?_
      refine RL.pure rfl rfl rfl rfl ?_
      refine RL.pure rfl rfl rfl rfl ?_
      refine RL.pure rfl rfl rfl rfl ?_
      refine RL.pure rfl rfl rfl rfl ?_
      refine RL.idx rfl rfl rfl rfl sl30 rfl rfl (ha) (by omega) ((by omega)) ?_
      rintro q3 vs3 hvl3 hH3 hre3
      refine RL.field rfl rfl rfl rfl fl51_0 rfl rfl ?_
      obtain ⟨y3, rfl, _, _⟩ := id hre3
      refine RL.loadT (j := 0) rfl rfl rfl rfl ty36 rfl (hH3) (fun w h => h.sh) rfl ?_
      refine RL.pure rfl rfl rfl rfl ?_
      refine RL.pure rfl rfl rfl rfl ?_
      refine RL.idx rfl rfl rfl rfl sl30 rfl rfl (hb) (by omega) ((by omega)) ?_
      rintro q4 vs4 hvl4 hH4 hre4
      refine RL.field rfl rfl rfl rfl fl51_0 rfl rfl ?_
      obtain ⟨y4, rfl, _, _⟩ := id hre4
      refine RL.loadT (j := 0) rfl rfl rfl rfl ty36 rfl (hH4) (fun w h => h.sh) rfl ?_
      refine RL.pure rfl rfl rfl rfl ?_
      rw [bne_self_eq_false]
      refine RL.pure rfl rfl rfl rfl ?_
      refine RL.done ?_
      refine CW.no rfl (CW.skip (CW.plain ?_))
      refine RL.pure rfl rfl rfl rfl ?_
      refine RL.add rfl rfl rfl rfl rfl rfl (by simp only [rng] at *; omega) ?_
      refine RL.pure rfl rfl rfl rfl ?_
      refine RL.done ?_
      cases j with
      | zero => omega
      | succ j => exact fun ac ha => ⟨j, [(0, .slice a xs.length c), (1, .slice b xs.length d), (5, .int .i64 ((k : Int) + 1))], ha.sub ⟨rfl, rfl, rfl, trivial⟩, ⟨k + 1, rfl, hgE, hax1.trans ((Aux.drew _).trans (hax4.trans (Aux.drew _))), by omega⟩, Nat.lt_succ_self j⟩
    · exact fun ac ha => ⟨[(0, .slice a xs.length c)], ha.sub ⟨rfl, trivial⟩, rfl, hg1, hax1⟩
  rintro E w1 ⟨rfl, hg1, hax1⟩
  refine CW.seq (CW.plain ?_)
  refine RL.pure rfl rfl rfl rfl ?_
  refine RL.done ?_
  exact CW.ret (ret (vs := [_]) ⟨_, _, rfl, rfl, rfl⟩ (PostV.mk hg1 hax1 rfl))

set_option maxHeartbeats 1000000 in
set_option maxRecDepth 100000 in
theorem theirs_ct {w : World} {s : Res} {os : List Res} {l : List Wire} {la : Option Addr} {lc : Nat} (hg : Good w s os) (hl : Imm RWire 15 s la lc l) (hb : l.length ≤ 549755813888) :
    Calls Tryd.prog 10 #[.slice la l.length lc] w (Post w s os fun s' A v => s' = s ∧ ∃ a c, v = .slice a l.length c ∧ Own RWire 15 51 s' A a c l) := by
  have hone := RWire.one
  refine enter (l := [.slice la l.length lc]) Tryd.func10 rfl Tryd.ntmps10 rfl ?_
  refine CW.seq (CW.plain ?_)
  refine RL.pure rfl rfl rfl rfl ?_
  refine RL.done ?_
  refine CW.seq (CW.plain ?_)
  refine RL.pure rfl rfl rfl rfl ?_
  refine RL.done ?_
  refine CW.seq (CW.seq (CW.plain ?_))
  refine RL.pure rfl rfl rfl rfl ?_
  refine RL.done ?_
  refine CW.block (CW.loop (σ := Nat) (fun j E w' => ∃ O ao co, ∃ k : Nat, E = [(0, .slice la l.length lc), (3, .slice ao (l.take k).length co), (4, i64 k)] ∧ Good w' s (O :: os) ∧ Aux w w' ∧ Own RWire 15 51 s O ao co (l.take k) ∧ k + j = l.length)
    (fun j => j) l.length [(0, .slice la l.length lc), (3, nilSl), (4, i64 0)] ⟨rfl, rfl, rfl, trivial⟩ ⟨Res.nil, none, 0, 0, rfl, hg.nil, Aux.refl _, .inl ⟨rfl, rfl, rfl⟩, by omega⟩ ?_)
  rintro j E w2 ⟨O, ao, co, k, rfl, hg2, hax2, ho, hk⟩
  refine CW.seq (CW.seq (CW.plain ?_))
  refine RL.pure rfl rfl rfl rfl ?_
  refine RL.pure rfl rfl rfl rfl ?_
  refine RL.len rfl rfl rfl rfl sl26 rfl ?_
  refine RL.pure rfl rfl rfl rfl ?_
  refine RL.done ?_
  refine CW.test rfl (fun h => CW.skip ?_) (fun h => CW.exit ?_)
  · have hkl : k < l.length := by omega
    have ek : l[((k : Nat) : Int).toNat]'(by omega) = l[k] := by simp
    have htk : l.take k ++ [l[k]] = l.take (k + 1) := (List.take_succ_eq_append_getElem hkl).symm
    have hgD := hg2.drew
    refine CW.seq (CW.block ?_)
    refine CW.draws [(true, 0), (true, 1), (true, 2), (true, 3), (true, 4), (true, 5), (true, 6), (true, 7), (true, 8), (true, 9), (true, 10), (true, 11), (false, 12), (false, 13), (false, 14)] (fun w => In s w) mixed (by kernel_rfl) (by kernel_rfl) (by kernel_rfl) (by kernel_rfl) (hgD.sh) ?_
    refine RL.pure rfl rfl rfl rfl ?_
    refine RL.pure rfl rfl rfl rfl ?_
    refine RL.pure rfl rfl rfl rfl ?_
    refine RL.idx rfl rfl rfl rfl sl26 rfl rfl (hl) (by omega) ((by omega)) ?_
    rintro q vs hvl hHe hre
    refine RL.field rfl rfl rfl rfl fl44_0 rfl rfl ?_
    rw [ek] at hre
    obtain ⟨y, rfl, hgr, ho1⟩ := id hre
    refine RL.loadT (j := 0) rfl rfl rfl rfl ty36 rfl (hHe) (fun w h => h) rfl ?_
    refine RL.pure rfl rfl rfl rfl ?_
    refine RL.pure rfl rfl rfl rfl ?_
    refine RL.idx rfl rfl rfl rfl sl26 rfl rfl (hl) (by omega) ((by omega)) ?_
    rintro q2 vs2 hvl2 hHe2 hre2
    refine RL.field rfl rfl rfl rfl fl44_1 rfl rfl ?_
    rw [ek] at hre2
    obtain ⟨y2, rfl, hgr2, ho2⟩ := id hre2
    refine RL.loadsT (j := 1) (us := (msgV l[k].msg y2)) rfl rfl rfl rfl ty42 rfl (hHe2) (fun w h => h) rfl rfl ?_
    refine RL.build rfl rfl rfl rfl ze51 pl51 rfl rfl ?_
    refine RL.buildSlice rfl rfl rfl rfl sl30 ze51 rfl rfl rfl rfl hgD ?_
    rintro b w3 hg3 hax3
    refine ⟨hg3.sh, ?_⟩
    refine RL.append (i := 1) (ys := [l[k]]) rfl rfl rfl rfl sl30 ze51 rfl (by first | exact RInt.one _ | exact RStr.one | exact RBool.one | assumption) rfl rfl hg3 rfl ho ((Src.slice sl30 rfl (.inr ⟨_, rfl, Holds.one b _ 51⟩) hg3.1)) ((Chunks.single rfl hre2)) ((by simp; omega)) (by omega) ?_
    rintro a4 c4 A4 w4 hg4 ho4 hax4 hk4
    refine ⟨hg4.sh, ?_⟩
    refine RL.pure rfl rfl rfl rfl ?_
    refine RL.done ?_
    rw [htk] at ho4 ⊢
    refine CW.plain ?_
    refine RL.pure rfl rfl rfl rfl ?_
    refine RL.add rfl rfl rfl rfl rfl rfl (by simp only [rng] at *; omega) ?_
    refine RL.pure rfl rfl rfl rfl ?_
    refine RL.done ?_
    cases j with
    | zero => omega
    | succ j => exact fun ac ha => ⟨j, [(0, .slice la l.length lc), (3, .slice a4 (l.take (k + 1)).length c4), (4, i64 ((k + 1 : Nat) : Int))], ha.sub ⟨rfl, rfl, rfl, trivial⟩, ⟨A4, a4, c4, k + 1, rfl, hg4.drop, hax2.trans ((Aux.drew _).trans (hax3.trans hax4)), ho4, by omega⟩, Nat.lt_succ_self j⟩
  · have hkl : k = l.length := by omega
    rw [hkl, List.take_length] at ho ⊢
    refine CW.seq (CW.plain ?_)
    refine RL.pure rfl rfl rfl rfl ?_
    refine RL.pure rfl rfl rfl rfl ?_
    refine RL.done ?_
    exact CW.ret (ret (vs := [_]) ⟨_, _, rfl, rfl, rfl⟩ (Post.mk (Le.refl _) hg2 hax2 ⟨rfl, ao, co, rfl, ho⟩))


end Go.Lw
