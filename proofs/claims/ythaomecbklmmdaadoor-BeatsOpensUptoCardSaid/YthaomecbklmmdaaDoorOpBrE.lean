/-
  Entries are read, by both (printed by beatsw.py out of the codec texts).
-/
import Derived.Test.YthaomecbklmmdaaDoorOpBrV
namespace Go.Lw
open Go.Proofs
attribute [local irreducible] RL RA

set_option maxRecDepth 100000 in
theorem RdEntry_ct {w : World} {s A : Res} {os : List Res} {p : Nat} {bs : List Int} {st : RS} (hg : Good w s (A :: os)) (hR : RdObj s A p bs st) (hl : bs.length ≤ 140737488355328) :
    Calls Tryd.prog 38 #[ptr p] w (Post w s os fun s' A' r => SOut REntry s' r (rdEntry bs st).1 ∧ RdObj s' A' p bs (rdEntry bs st).2) := by
  rcases e0 : rdUint bs st with ⟨x0, st1⟩
  rcases e1 : rdUint bs st1 with ⟨x1, st2⟩
  rcases e2 : rdKind bs st2 3 with ⟨x2, st3⟩
  rcases e3 : rdBytes bs st3 262144 with ⟨x3, st4⟩
  rcases e4 : rdConf bs st4 with ⟨x4, st5⟩
  have hrd : rdEntry bs st = (if st5.err.isNone then ⟨x0, x1, x2, x3, x4⟩ else Entry.zero, st5) := by simp only [rdEntry, e0, e1, e2, e3, e4]
  rw [hrd]
  refine enter (l := [ptr p]) Tryd.func38 rfl Tryd.ntmps38 rfl ?_
  refine CW.seq (CW.plain ?_)
  refine RL.alloc rfl rfl rfl rfl ze84 hg ?_
  rintro bt2 w00 hg00 hax00
  refine ⟨trivial, ?_⟩
  refine RL.done ?_
  refine CW.seq (CW.plain ?_)
  refine RL.alloc rfl rfl rfl rfl ze84 hg00 ?_
  rintro bt3 w0 hg01 hax01
  refine ⟨trivial, ?_⟩
  refine RL.done ?_
  have hg0 := Good.third hg01
  have hx0 := hax00.trans hax01
  have hle_0 := Le.refl s
  have hA0 := hR
  refine CW.seq (CW.plain ?_)
  refine RL.pure rfl rfl rfl rfl ?_
  refine RL.call rfl rfl rfl rfl rfl ca36 ((by have hh := RdUint_ct hg0 hA0; rw [e0] at hh; exact hh)) ?_
  rintro r1 s1 A1 w1 hle1 hg1 hax1 ⟨rfl, hr1, hA1⟩
  refine ⟨trivial, ?_⟩
  refine RL.field rfl rfl rfl rfl fl84_0 rfl rfl ?_
  refine RL.store (i := 1) rfl rfl rfl ty36 rfl rfl hg1 rfl (if_pos rfl) rfl (by first | (simp [Value.cells, Value.oneCell']; done) | simp [Value.cells, Value.oneCell', putL]) (by first | exact Nat.le_of_ble_eq_true rfl | (simp; done) | (simp; omega) | omega) ?_
  rintro w1s hg1s hax1s
  refine ⟨trivial, ?_⟩
  refine RL.done ?_
  have hx1 := hx0.trans (hax1.trans hax1s)
  have hle_1 := hle_0.trans hle1
  have hg1 := hg1s
  refine CW.seq (CW.plain ?_)
  refine RL.pure rfl rfl rfl rfl ?_
  refine RL.call rfl rfl rfl rfl rfl ca36 ((by have hh := RdUint_ct hg1 hA1; rw [e1] at hh; exact hh)) ?_
  rintro r2 s2 A2 w2 hle2 hg2 hax2 ⟨rfl, hr2, hA2⟩
  refine ⟨trivial, ?_⟩
  refine RL.field rfl rfl rfl rfl fl84_1 rfl rfl ?_
  refine RL.store (i := 1) rfl rfl rfl ty36 rfl rfl hg2 rfl (put_same _ _ _) rfl (by first | (simp [Value.cells, Value.oneCell']; done) | simp [Value.cells, Value.oneCell', putL]) (by first | exact Nat.le_of_ble_eq_true rfl | (simp; done) | (simp; omega) | omega) ?_
  rintro w2s hg2s hax2s
  refine ⟨trivial, ?_⟩
  refine RL.done ?_
  have hx2 := hx1.trans (hax2.trans hax2s)
  have hle_2 := hle_1.trans hle2
  have hg2 := hg2s
  refine CW.seq (CW.plain ?_)
  refine RL.pure rfl rfl rfl rfl ?_
  refine RL.call rfl rfl rfl rfl rfl ca62 ((by have hh := RdKind_ct (most := 3) hg2 hA2; rw [e2] at hh; exact hh)) ?_
  rintro r3 s3 A3 w3 hle3 hg3 hax3 ⟨rfl, hr3, hA3⟩
  refine ⟨trivial, ?_⟩
  refine RL.field rfl rfl rfl rfl fl84_2 rfl rfl ?_
  refine RL.store (i := 1) rfl rfl rfl ty82 rfl rfl hg3 rfl (put_same _ _ _) rfl (by first | (simp [Value.cells, Value.oneCell']; done) | simp [Value.cells, Value.oneCell', putL]) (by first | exact Nat.le_of_ble_eq_true rfl | (simp; done) | (simp; omega) | omega) ?_
  rintro w3s hg3s hax3s
  refine ⟨trivial, ?_⟩
  refine RL.done ?_
  have hx3 := hx2.trans (hax3.trans hax3s)
  have hle_3 := hle_2.trans hle3
  have hg3 := hg3s
  refine CW.seq (CW.plain ?_)
  refine RL.pure rfl rfl rfl rfl ?_
  refine RL.callG rfl rfl rfl rfl rfl ca41 ((by have hh := RdBytes_ct (most := 262144) hg3 hA3 (by simp [rng]) hl; rw [e3] at hh; exact hh)) ?_
  rintro e4_ w4 ⟨v4, s4_, B4, A4, rfl, hle4_, hg4_, hax4, ⟨a3, c3, rfl, hB4⟩, hA4_⟩
  refine ⟨_, rfl, trivial, ?_⟩
  obtain ⟨s4, hg4, hle4l, hBl4⟩ := Good.letgo hg4_
  have i3 := hB4.imm (RInt.up _) hle4l hBl4
  have hA4 := hA4_.up hle4l
  have hle4 := hle4_.trans hle4l
  refine RL.field rfl rfl rfl rfl fl84_3 rfl rfl ?_
  refine RL.store (i := 1) rfl rfl rfl ty22 rfl rfl hg4 rfl (put_same _ _ _) rfl (by first | (simp [Value.cells, Value.oneCell']; done) | simp [Value.cells, Value.oneCell', putL]) (by first | exact Nat.le_of_ble_eq_true rfl | (simp; done) | (simp; omega) | omega) ?_
  rintro w4s hg4s hax4s
  refine ⟨trivial, ?_⟩
  refine RL.done ?_
  have hx4 := hx3.trans (hax4.trans hax4s)
  have hle_4 := hle_3.trans hle4
  have hg4 := hg4s
  refine CW.seq (CW.plain ?_)
  refine RL.pure rfl rfl rfl rfl ?_
  refine RL.call rfl rfl rfl rfl rfl ca40 ((by have hh := RdConf_ct hg4 hA4; rw [e4] at hh; exact hh)) ?_
  rintro r5 s5 A5 w5 hle5 hg5 hax5 ⟨⟨vs5, rfl, a4, c4, b4, d4, rfl, i4, j4⟩, hA5⟩
  refine ⟨trivial, ?_⟩
  refine RL.field rfl rfl rfl rfl fl84_4 rfl rfl ?_
  refine RL.store (i := 1) (j := 4) rfl rfl rfl ty40 rfl rfl hg5 rfl (put_same _ _ _) rfl (by first | (simp [Value.cells, Value.oneCell']; done) | simp [Value.cells, Value.oneCell', putL]) (by first | exact Nat.le_of_ble_eq_true rfl | (simp; done) | (simp; omega) | omega) ?_
  rintro w5s hg5s hax5s
  refine ⟨trivial, ?_⟩
  refine RL.done ?_
  have hx5 := hx4.trans (hax5.trans hax5s)
  have hle_5 := hle_4.trans hle5
  have hg5 := hg5s
  have i3 := i3.up (RInt.up _) hle5
  refine CW.seq (CW.plain ?_)
  refine RL.pure rfl rfl rfl rfl ?_
  refine RL.loads (j := 0) (us := [.int .u64 x0, .int .u64 x1, .int .i64 x2, .slice a3 x3.length c3, .slice a4 x4.voters.length c4, .slice b4 x4.learners.length d4]) rfl rfl rfl rfl ty84 rfl (Holds.of (put_same _ _ _)) (hg5.drop.1) rfl rfl ?_
  refine RL.callV rfl rfl rfl rfl rfl ca63 (wholeEntry_ct hg5 hA5) ?_
  rintro rw_ wf hgf haxf rfl
  refine ⟨trivial, ?_⟩
  have hone : ∀ z ∈ (if st5.err.isNone then Value.agg #[.int .u64 x0, .int .u64 x1, .int .i64 x2, .slice a3 x3.length c3, .slice a4 x4.voters.length c4, .slice b4 x4.learners.length d4] else .agg #[.int .u64 0, .int .u64 0, .int .i64 0, nilSl, nilSl, nilSl]).cells.toList, z.oneCell' = true := by split <;> simp [Value.cells, Value.oneCell']
  have hsz : (if st5.err.isNone then Value.agg #[.int .u64 x0, .int .u64 x1, .int .i64 x2, .slice a3 x3.length c3, .slice a4 x4.voters.length c4, .slice b4 x4.learners.length d4] else .agg #[.int .u64 0, .int .u64 0, .int .i64 0, nilSl, nilSl, nilSl]).cells.size = 6 := by split <;> rfl
  refine RL.store (i := 2) (j := 0) rfl rfl rfl ty84 rfl rfl hgf rfl (if_pos rfl) hsz hone (by decide) ?_
  rintro w9 hg9 hax9
  refine ⟨trivial, ?_⟩
  refine RL.done ?_
  refine CW.ret (ret (vs := [_]) ⟨_, _, _, rfl, rfl, loadVar_agg ty84 (put_same _ _ _) hg9.drop.drop.1 (by split <;> rfl), rfl⟩ (Post.mk hle_5 hg9.dropNext.dropNext (hx5.trans (haxf.trans hax9)) ⟨?_, hA5⟩))
  split
  · exact ⟨_, rfl, ⟨a3, c3, a4, c4, b4, d4, rfl, hr1, hr2, hr3, i3, i4, j4⟩⟩
  · exact ⟨_, rfl, REntry.zero _⟩
set_option maxRecDepth 100000 in
theorem RrEntry_ct {w : World} {s A : Res} {os : List Res} {p : Nat} {bs : List Int} {st : RS} (hg : Good w s (A :: os)) (hR : RrObj s A p bs st) (hl : bs.length ≤ 140737488355328) :
    Calls Tryd.prog 49 #[ptr p] w (Post w s os fun s' A' r => SOut REntry s' r (rdEntry bs st).1 ∧ RrObj s' A' p bs (rdEntry bs st).2) := by
  rcases e0 : rdUint bs st with ⟨x0, st1⟩
  rcases e1 : rdUint bs st1 with ⟨x1, st2⟩
  rcases e2 : rdInt bs st2 with ⟨x2, st3r⟩
  obtain ⟨st3, hst3⟩ : ∃ z, z = if x2 < 1 ∨ 3 < x2 then st3r.failAt 16 st2.pos else st3r := ⟨_, rfl⟩
  have e2k : rdKind bs st2 3 = (if st3.err.isNone then x2 else 0, st3) := by rw [hst3]; simp only [rdKind, e2]
  rcases e3 : rdBytes bs st3 262144 with ⟨x3, st4⟩
  rcases e4 : rdConf bs st4 with ⟨x4, st5⟩
  have hrd : rdEntry bs st = (if st5.err.isNone then ⟨x0, x1, x2, x3, x4⟩ else Entry.zero, st5) := by
    have hk : st5.err.isNone = true → st3.err.isNone = true := fun h => rdBytes_err (bs := bs) (by rw [e3]; exact rdConf_err (bs := bs) (by rw [e4]; exact h))
    simp only [rdEntry, e0, e1, e2k, e3, e4]
    cases hh : st5.err.isNone with
    | false => rfl
    | true => rw [hk hh]; rfl
  rw [hrd]
  refine enter (l := [ptr p]) Tryd.func49 rfl Tryd.ntmps49 rfl ?_
  refine CW.seq (CW.plain ?_)
  refine RL.alloc rfl rfl rfl rfl ze84 hg ?_
  rintro bt2 w00 hg00 hax00
  refine ⟨trivial, ?_⟩
  refine RL.done ?_
  have hg0 := hg00.swap
  have hx0 := hax00
  have hle_0 := Le.refl s
  have hA0 := hR
  refine CW.seq (CW.plain ?_)
  refine RL.pure rfl rfl rfl rfl ?_
  refine RL.call rfl rfl rfl rfl rfl ca45 ((by have hh := RrUint_ct hg0 hA0; rw [e0] at hh; exact hh)) ?_
  rintro r1 s1 A1 w1 hle1 hg1 hax1 ⟨rfl, hr1, hA1⟩
  refine ⟨trivial, ?_⟩
  refine RL.build rfl rfl rfl rfl ze84 pl84 rfl rfl ?_
  refine RL.alloc rfl rfl rfl rfl ze84 hg1 ?_
  rintro bt3 w1t hg1t hax1t
  refine ⟨trivial, ?_⟩
  refine RL.store (i := 0) (j := 0) rfl rfl rfl ty84 rfl rfl hg1t rfl (if_pos rfl) rfl (by first | (simp [Value.cells, Value.oneCell']; done) | simp [Value.cells, Value.oneCell', putL]) (by first | exact Nat.le_of_ble_eq_true rfl | (simp; done) | (simp; omega) | omega) ?_
  rintro w1s hg1s hax1s
  refine ⟨trivial, ?_⟩
  refine RL.done ?_
  have hx1 := hx0.trans (hax1.trans (hax1t.trans hax1s))
  have hle_1 := hle_0.trans hle1
  have hg1 := Good.swap hg1s
  refine CW.seq (CW.plain ?_)
  refine RL.pure rfl rfl rfl rfl ?_
  refine RL.call rfl rfl rfl rfl rfl ca45 ((by have hh := RrUint_ct hg1 hA1; rw [e1] at hh; exact hh)) ?_
  rintro r2 s2 A2 w2 hle2 hg2 hax2 ⟨rfl, hr2, hA2⟩
  refine ⟨trivial, ?_⟩
  refine RL.field rfl rfl rfl rfl fl84_1 rfl rfl ?_
  refine RL.store (i := 1) rfl rfl rfl ty36 rfl rfl hg2 rfl (put_same _ _ _) rfl (by first | (simp [Value.cells, Value.oneCell']; done) | simp [Value.cells, Value.oneCell', putL]) (by first | exact Nat.le_of_ble_eq_true rfl | (simp; done) | (simp; omega) | omega) ?_
  rintro w2s hg2s hax2s
  refine ⟨trivial, ?_⟩
  refine RL.done ?_
  have hx2 := hx1.trans (hax2.trans hax2s)
  have hle_2 := hle_1.trans hle2
  have hg2 := hg2s
  obtain ⟨q0, q1, qa, qc, qbad, hqp, hqI, hqv⟩ := id hA2
  refine CW.seq (CW.plain ?_)
  refine RL.pure rfl rfl rfl rfl ?_
  refine RL.pure rfl rfl rfl rfl ?_
  refine RL.field rfl rfl rfl rfl fl65_1 rfl rfl ?_
  refine RL.load rfl rfl rfl rfl ty3 rfl (Holds.of hqp) (hg2.1) rfl ?_
  refine RL.pure rfl rfl rfl rfl ?_
  refine RL.done ?_
  refine CW.seq (CW.plain ?_)
  refine RL.pure rfl rfl rfl rfl ?_
  refine RL.call rfl rfl rfl rfl rfl ca48 ((by have hh := RrInt_ct hg2 hA2; rw [e2] at hh; exact hh)) ?_
  rintro r3 s3 A3 w3 hle3 hg3 hax3 ⟨rfl, hr3, hA3⟩
  refine ⟨trivial, ?_⟩
  refine RL.field rfl rfl rfl rfl fl84_2 rfl rfl ?_
  refine RL.store (i := 1) rfl rfl rfl ty82 rfl rfl hg3 rfl (put_same _ _ _) rfl (by first | (simp [Value.cells, Value.oneCell']; done) | simp [Value.cells, Value.oneCell', putL]) (by first | exact Nat.le_of_ble_eq_true rfl | (simp; done) | (simp; omega) | omega) ?_
  rintro w3s hg3s hax3s
  refine ⟨trivial, ?_⟩
  refine RL.done ?_
  have hx3 := hx2.trans (hax3.trans hax3s)
  have hle_3 := hle_2.trans hle3
  have hg3 := hg3s
  refine CW.meet (fun E w' => ∃ s' A' T3, E = [(0, ptr p), (2, ptr bt2), (3, ptr bt3)] ∧ T3 bt3 = some (.cells #[.int .u64 x0, .int .u64 x1, .int .i64 x2, nilSl, nilSl, nilSl] 84 (0, 0)) ∧ Good w' s' (A' :: T3 :: Res.one bt2 (.cells #[.int .u64 0, .int .u64 0, .int .i64 0, nilSl, nilSl, nilSl] 84) :: os) ∧ Le s s' ∧ Aux w w' ∧ RrObj s' A' p bs st3) ?_ ?_
  · refine CW.seq (CW.plain ?_)
    refine RL.field rfl rfl rfl rfl fl84_2 rfl rfl ?_
    refine RL.load (j := 2) rfl rfl rfl rfl ty82 rfl (Holds.of (put_same _ _ _)) (hg3.drop.1) rfl ?_
    refine RL.pure rfl rfl rfl rfl ?_
    refine RL.part 20 rfl (fun hc => ?_) (fun hc => ?_)
    · have hc : x2 < 1 := by simpa using hc
      refine RL.pure rfl rfl rfl rfl ?_
      refine RL.pass rfl rfl rfl ?_
      refine RL.pass rfl rfl rfl ?_
      refine RL.pass rfl rfl rfl ?_
      refine RL.pure rfl rfl rfl rfl ?_
      refine RL.done ?_
      refine CW.yes rfl (CW.plain ?_)
      refine RL.pure rfl rfl rfl rfl ?_
      refine RL.pure rfl rfl rfl rfl ?_
      refine RL.call rfl rfl rfl rfl rfl ca46 (rfailAt_ct hg3 hA3 (by simp [rng]) ⟨q0, q1⟩) ?_
      rintro rf sf Af wf hlef hgf haxf ⟨_, hAf⟩
      refine ⟨trivial, ?_⟩
      refine RL.done ?_
      rw [hst3, if_pos (.inl hc)]
      exact fun ac ha => ⟨[(0, ptr p), (2, ptr bt2), (3, ptr bt3)], ha.sub ⟨rfl, rfl, rfl, trivial⟩, sf, Af, _, rfl, put_same _ _ _, hgf, hle_3.trans hlef, hx3.trans haxf, hAf⟩
    · have hc : ¬ x2 < 1 := by simpa using hc
      refine RL.pure rfl rfl rfl rfl ?_
      refine RL.field rfl rfl rfl rfl fl84_2 rfl rfl ?_
      refine RL.load (j := 2) rfl rfl rfl rfl ty82 rfl (Holds.of (put_same _ _ _)) (hg3.drop.1) rfl ?_
      refine RL.pure rfl rfl rfl rfl ?_
      refine RL.pure rfl rfl rfl rfl ?_
      refine RL.done ?_
      refine CW.test rfl (fun hd => ?_) (fun hd => ?_)
      · skip
        refine CW.plain ?_
        refine RL.pure rfl rfl rfl rfl ?_
        refine RL.pure rfl rfl rfl rfl ?_
        refine RL.call rfl rfl rfl rfl rfl ca46 (rfailAt_ct hg3 hA3 (by simp [rng]) ⟨q0, q1⟩) ?_
        rintro rf sf Af wf hlef hgf haxf ⟨_, hAf⟩
        refine ⟨trivial, ?_⟩
        refine RL.done ?_
        rw [hst3, if_pos (.inr hd)]
        exact fun ac ha => ⟨[(0, ptr p), (2, ptr bt2), (3, ptr bt3)], ha.sub ⟨rfl, rfl, rfl, trivial⟩, sf, Af, _, rfl, put_same _ _ _, hgf, hle_3.trans hlef, hx3.trans haxf, hAf⟩
      · refine CW.skip ?_
        rw [hst3, if_neg (fun z => z.elim hc hd)]
        exact fun ac ha => ⟨[(0, ptr p), (2, ptr bt2), (3, ptr bt3)], ha.sub ⟨rfl, rfl, rfl, trivial⟩, s3, A3, _, rfl, put_same _ _ _, hg3, hle_3, hx3, hA3⟩
  clear hx3 hle_3 hg3 hA3
  rintro E w3m ⟨s3m, A3m, T3, rfl, hT3, hg3, hle_3, hx3, hA3⟩
  refine CW.seq (CW.plain ?_)
  refine RL.pure rfl rfl rfl rfl ?_
  refine RL.callG rfl rfl rfl rfl rfl ca51 ((by have hh := RrBytes_ct (most := 262144) hg3 hA3 (by simp [rng]) hl; rw [e3] at hh; exact hh)) ?_
  rintro e4_ w4 ⟨v4, s4_, B4, A4, rfl, hle4_, hg4_, hax4, ⟨a3, c3, rfl, hB4⟩, hA4_⟩
  refine ⟨_, rfl, trivial, ?_⟩
  obtain ⟨s4, hg4, hle4l, hBl4⟩ := Good.letgo hg4_
  have i3 := hB4.imm (RInt.up _) hle4l hBl4
  have hA4 := hA4_.up hle4l
  have hle4 := hle4_.trans hle4l
  refine RL.field rfl rfl rfl rfl fl84_3 rfl rfl ?_
  refine RL.store (i := 1) rfl rfl rfl ty22 rfl rfl hg4 rfl (hT3) rfl (by first | (simp [Value.cells, Value.oneCell']; done) | simp [Value.cells, Value.oneCell', putL]) (by first | exact Nat.le_of_ble_eq_true rfl | (simp; done) | (simp; omega) | omega) ?_
  rintro w4s hg4s hax4s
  refine ⟨trivial, ?_⟩
  refine RL.done ?_
  have hx4 := hx3.trans (hax4.trans hax4s)
  have hle_4 := hle_3.trans hle4
  have hg4 := hg4s
  refine CW.seq (CW.plain ?_)
  refine RL.pure rfl rfl rfl rfl ?_
  refine RL.call rfl rfl rfl rfl rfl ca50 ((by have hh := RrConf_ct hg4 hA4; rw [e4] at hh; exact hh)) ?_
  rintro r5 s5 A5 w5 hle5 hg5 hax5 ⟨⟨vs5, rfl, a4, c4, b4, d4, rfl, i4, j4⟩, hA5⟩
  refine ⟨trivial, ?_⟩
  refine RL.field rfl rfl rfl rfl fl84_4 rfl rfl ?_
  refine RL.store (i := 1) (j := 4) rfl rfl rfl ty40 rfl rfl hg5 rfl (put_same _ _ _) rfl (by first | (simp [Value.cells, Value.oneCell']; done) | simp [Value.cells, Value.oneCell', putL]) (by first | exact Nat.le_of_ble_eq_true rfl | (simp; done) | (simp; omega) | omega) ?_
  rintro w5s hg5s hax5s
  refine ⟨trivial, ?_⟩
  refine RL.done ?_
  have hx5 := hx4.trans (hax5.trans hax5s)
  have hle_5 := hle_4.trans hle5
  have hg5 := hg5s
  have i3 := i3.up (RInt.up _) hle5
  obtain ⟨k0, k1, ka, kc, kbad, hkp, hkI, hkv⟩ := id hA5
  have hnil := RrObj.nil hkv
  refine CW.seq (CW.seq (CW.plain ?_))
  refine RL.pure rfl rfl rfl rfl ?_
  refine RL.pure rfl rfl rfl rfl ?_
  refine RL.field rfl rfl rfl rfl fl65_2 rfl rfl ?_
  refine RL.load rfl rfl rfl rfl ty27 rfl (Holds.of hkp) (hg5.1) rfl ?_
  refine RL.pure rfl rfl rfl rfl ?_
  refine RL.done ?_
  refine CW.cond rfl (fun hb => ?_) (fun hb => ?_)
  · have herr : st5.err.isNone = false := by rw [hnil] at hb; simpa using hb
    refine CW.seq (CW.plain ?_)
    refine RL.build rfl rfl rfl rfl ze84 pl84 rfl rfl ?_
    refine RL.store (i := 2) (j := 0) rfl rfl rfl ty84 rfl rfl hg5 rfl (if_pos rfl) rfl (by first | (simp [Value.cells, Value.oneCell']; done) | simp [Value.cells, Value.oneCell', putL]) (by first | exact Nat.le_of_ble_eq_true rfl | (simp; done) | (simp; omega) | omega) ?_
    rintro w9 hg9 hax9
    refine ⟨trivial, ?_⟩
    refine RL.done ?_
    refine CW.ret (ret (vs := [_]) ⟨_, _, _, rfl, rfl, loadVar_agg ty84 (put_same _ _ _) hg9.drop.drop.1 rfl, rfl⟩ (Post.mk hle_5 hg9.dropNext.dropNext (hx5.trans hax9) ⟨?_, hA5⟩))
    simp only [herr, Bool.false_eq_true, if_false]
    exact ⟨_, rfl, REntry.zero _⟩
  · have herr : st5.err.isNone = true := by rw [hnil] at hb; simpa using hb
    refine CW.skip (CW.seq (CW.plain ?_))
    refine RL.loads (j := 0) (us := [.int .u64 x0, .int .u64 x1, .int .i64 x2, .slice a3 x3.length c3, .slice a4 x4.voters.length c4, .slice b4 x4.learners.length d4]) rfl rfl rfl rfl ty84 rfl (Holds.of (put_same _ _ _)) (hg5.drop.1) rfl rfl ?_
    refine RL.store (i := 2) (j := 0) rfl rfl rfl ty84 rfl rfl hg5 rfl (if_pos rfl) rfl (by first | (simp [Value.cells, Value.oneCell']; done) | simp [Value.cells, Value.oneCell', putL]) (by first | exact Nat.le_of_ble_eq_true rfl | (simp; done) | (simp; omega) | omega) ?_
    rintro w9 hg9 hax9
    refine ⟨trivial, ?_⟩
    refine RL.done ?_
    refine CW.ret (ret (vs := [_]) ⟨_, _, _, rfl, rfl, loadVar_agg ty84 (put_same _ _ _) hg9.drop.drop.1 rfl, rfl⟩ (Post.mk hle_5 hg9.dropNext.dropNext (hx5.trans hax9) ⟨?_, hA5⟩))
    simp only [herr, if_true]
    exact ⟨_, rfl, ⟨a3, c3, a4, c4, b4, d4, rfl, hr1, hr2, hr3, i3, i4, j4⟩⟩
end Go.Lw
