/-
  Configurations: Path, by the document (printed by rpath.py).
-/
import Derived.Test.YthafkinbocdjlaaRcS
import Derived.Test.YthafkinbocdjlaaRcE
namespace Go.Lw
open Go.Proofs
attribute [local irreducible] RL RA

set_option maxHeartbeats 4000000 in
set_option maxRecDepth 100000 in
theorem rPath_ct {w : World} {s : Res} {os : List Res} {us vs : List Value} {x y : Conf} (hg : Good w s os) (hx : RConf s us x) (hy : RConf s vs y) (hbx : x.fits) (hby : y.fits) :
    Calls Try.prog 15 #[.agg us.toArray, .agg vs.toArray] w (Post w s os fun s' A v => PathEnd s' A v (pathP x y)) := by
  have hone := RChange.one
  have hx0 := hx
  have hy0 := hy
  obtain ⟨xa, xc, xb, xd, rfl, _, _⟩ := hx
  obtain ⟨ya, yc, yb, yd, rfl, _, _⟩ := hy
  refine enter (l := [.agg #[.slice xa x.voters.length xc, .slice xb x.learners.length xd], .agg #[.slice ya y.voters.length yc, .slice yb y.learners.length yd]]) Try.func15 rfl Try.ntmps15 rfl ?_
  refine CW.seq (CW.plain ?_)
  refine RL.box rfl rfl rfl rfl rfl hg ?_
  rintro p w0 hg0 hax0
  refine ⟨trivial, ?_⟩
  obtain ⟨s0, hg0, hle0, hq0⟩ := Good.letgo hg0
  have hH : Holds s0 ⟨p, 0, none⟩ [.slice xa x.voters.length xc, .slice xb x.learners.length xd] := (Holds.one p _ _).le hq0
  refine RL.box rfl rfl rfl rfl rfl hg0 ?_
  rintro q w1 hg1 hax1
  refine ⟨trivial, ?_⟩
  refine RL.pure rfl rfl rfl rfl ?_
  refine RL.pure rfl rfl rfl rfl ?_
  refine RL.done ?_
  obtain ⟨s1, hg1, hle1, hq1⟩ := Good.letgo hg1
  have hQ : Holds s1 ⟨q, 0, none⟩ [.slice ya y.voters.length yc, .slice yb y.learners.length yd] := (Holds.one q _ _).le hq1
  have hH := hH.le hle1
  have hle := hle0.trans hle1
  have hax := hax0.trans hax1
  have hx1 := RConf.up _ _ _ _ hle hx0
  have hy1 := RConf.up _ _ _ _ hle hy0
  clear hg0
  refine CW.seq (CW.plain ?_)
  refine RL.loads (j := 0) (us := [.slice xa x.voters.length xc, .slice xb x.learners.length xd]) rfl rfl rfl rfl ty24 rfl (hH) (hg1.sh) rfl rfl ?_
  refine RL.call rfl rfl rfl rfl rfl ca17 (rCheck_ct hg1 hx1 hbx) ?_
  rintro v2 s2 A2 w2 hle2 hg2 hax2 rfl
  refine ⟨trivial, ?_⟩
  refine RL.pure rfl rfl rfl rfl ?_
  refine RL.done ?_
  have hg2 := hg2.drop
  have hH := hH.le hle2
  have hQ := hQ.le hle2
  have hle := hle.trans hle2
  have hax := hax.trans hax2
  have hy2 := RConf.up _ _ _ _ hle2 hy1
  refine CW.meet (fun E w' => ∃ s' e, E = [(2, ptr p), (3, ptr q), (6, i64 e)] ∧ Good w' s' os ∧ Le s2 s' ∧ Aux w w' ∧ (e ≠ 0 ∧ pathP x y = ([], e) ∨ e = 0 ∧ pathP x y = (pathL x y, 0))) ?_ ?_
  · refine CW.seq (CW.plain ?_)
    refine RL.pure rfl rfl rfl rfl ?_
    refine RL.pure rfl rfl rfl rfl ?_
    refine RL.done ?_
    refine CW.eq rfl (fun h => ?_) (fun h => CW.skip ?_)
    · refine CW.plain ?_
      refine RL.loads (j := 0) (us := [.slice ya y.voters.length yc, .slice yb y.learners.length yd]) rfl rfl rfl rfl ty24 rfl (hQ) (hg2.sh) rfl rfl ?_
      refine RL.call rfl rfl rfl rfl rfl ca17 (rCheck_ct hg2 hy2 hby) ?_
      rintro v3 s3 A3 w3 hle3 hg3 hax3 rfl
      refine ⟨trivial, ?_⟩
      refine RL.pure rfl rfl rfl rfl ?_
      refine RL.done ?_
      refine fun ac ha => ⟨[(2, ptr p), (3, ptr q), (6, i64 (checkP y))], ha.sub ⟨rfl, rfl, rfl, trivial⟩, s3, checkP y, rfl, hg3.drop, hle3, hax.trans hax3, ?_⟩
      by_cases hz : checkP y = 0
      · exact .inr ⟨hz, by rw [pathP, if_neg (by simpa using h), if_neg (by simpa using hz)]⟩
      · exact .inl ⟨hz, by rw [pathP, if_neg (by simpa using h), if_pos hz]⟩
    · exact fun ac ha => ⟨[(2, ptr p), (3, ptr q), (6, i64 (checkP x))], ha.sub ⟨rfl, rfl, rfl, trivial⟩, s2, checkP x, rfl, hg2, Le.refl _, hax, .inl ⟨h, if_pos h⟩⟩
  rintro E w3 ⟨s3, e, rfl, hg3, hle3, hax3, he⟩
  refine CW.seq (CW.seq (CW.plain ?_))
  refine RL.pure rfl rfl rfl rfl ?_
  refine RL.pure rfl rfl rfl rfl ?_
  refine RL.done ?_
  refine CW.cond rfl (fun hne => CW.seq (CW.plain ?_)) (fun hne => CW.skip ?_)
  · have hne : e ≠ 0 := by simpa using hne
    refine RL.pure rfl rfl rfl rfl ?_
    refine RL.pure rfl rfl rfl rfl ?_
    refine RL.pure rfl rfl rfl rfl ?_
    refine RL.done ?_
    refine CW.ret (ret (vs := [_, _]) ⟨_, _, rfl, rfl, _, _, rfl, rfl, rfl⟩ (Post.mk (hle.trans hle3) hg3.nil hax3 ?_))
    rcases he with ⟨_, he⟩ | ⟨h0, _⟩
    · rw [he]; exact PathEnd.bad
    · exact absurd h0 hne
  have hne : e = 0 := by simpa using hne
  have hpp : pathP x y = (pathL x y, 0) := by
    rcases he with ⟨h, _⟩ | ⟨_, he⟩
    · exact absurd hne h
    · exact he
  rw [hpp]
  have hH := hH.le hle3
  have hQ := hQ.le hle3
  have hx3 := RConf.up _ _ _ _ (hle2.trans hle3) hx1
  have hy3 := RConf.up _ _ _ _ hle3 hy2
  have hle := hle.trans hle3
  obtain ⟨_, _, _, _, ee, x1, x2⟩ := id hx3
  cases ee
  obtain ⟨_, _, _, _, ee, y1, y2⟩ := id hy3
  cases ee
  clear hg1 hg2 hle2 hle3
  refine CW.seq (CW.plain ?_)
  refine RL.pure rfl rfl rfl rfl ?_
  refine RL.done ?_
  refine CW.seq (CW.plain ?_)
  refine RL.pure rfl rfl rfl rfl ?_
  refine RL.done ?_
  refine CW.seq (CW.plain ?_)
  refine RL.pure rfl rfl rfl rfl ?_
  refine RL.done ?_
  refine CW.seq (CW.plain ?_)
  refine RL.pure rfl rfl rfl rfl ?_
  refine RL.done ?_
  refine CW.seq (CW.seq (CW.plain ?_))
  refine RL.pure rfl rfl rfl rfl ?_
  refine RL.done ?_
  refine CW.block (CW.loop (σ := Nat) (fun j E w' => ∃ L0 L1 L2 L3 a0 a1 a2 a3 c0 c1 c2 c3, ∃ m : Nat, E = [(2, ptr p), (3, ptr q), (7, .slice a0 (chs 1 (wayOf x y addW) m).length c0), (8, .slice a1 (chs 2 (wayOf x y votesW) m).length c1), (9, .slice a2 (chs 3 (wayOf x y goesW) m).length c2), (10, .slice a3 (chs 1 (wayOf x y fallsW) m).length c3), (11, i64 ((m : Int) + 1))] ∧ Good w' s3 (L0 :: L1 :: L2 :: L3 :: os) ∧ Aux w w' ∧ Own RChange 2 33 s3 L0 a0 c0 (chs 1 (wayOf x y addW) m) ∧ Own RChange 2 33 s3 L1 a1 c1 (chs 2 (wayOf x y votesW) m) ∧ Own RChange 2 33 s3 L2 a2 c2 (chs 3 (wayOf x y goesW) m) ∧ Own RChange 2 33 s3 L3 a3 c3 (chs 1 (wayOf x y fallsW) m) ∧ m + j = 7)
    (fun j => j) 7 [(2, ptr p), (3, ptr q), (7, nilSl), (8, nilSl), (9, nilSl), (10, nilSl), (11, i64 1)] ⟨rfl, rfl, rfl, rfl, rfl, rfl, rfl, trivial⟩ ⟨Res.nil, Res.nil, Res.nil, Res.nil, none, none, none, none, 0, 0, 0, 0, 0, rfl, hg3.nil.nil.nil.nil, hax3, .inl ⟨rfl, rfl, rfl⟩, .inl ⟨rfl, rfl, rfl⟩, .inl ⟨rfl, rfl, rfl⟩, .inl ⟨rfl, rfl, rfl⟩, rfl⟩ ?_)
  rintro j E w4 ⟨L0, L1, L2, L3, a0, a1, a2, a3, c0, c1, c2, c3, m, rfl, hg4, hax4, o0, o1, o2, o3, hm⟩
  refine CW.seq (CW.seq (CW.plain ?_))
  refine RL.pure rfl rfl rfl rfl ?_
  refine RL.pure rfl rfl rfl rfl ?_
  refine RL.done ?_
  refine CW.test rfl (fun h => CW.skip ?_) (fun h => CW.exit ?_)
  · have hm7 : m < 7 := by omega
    have n0 := chs_le 1 (wayOf x y addW) m
    have n1 := chs_le 2 (wayOf x y votesW) m
    have n2 := chs_le 3 (wayOf x y goesW) m
    have n3 := chs_le 1 (wayOf x y fallsW) m
    refine CW.meet (fun E w' => ∃ L0n L1n L2n L3n a0n a1n a2n a3n c0n c1n c2n c3n, E = [(2, ptr p), (3, ptr q), (7, .slice a0n (chs 1 (wayOf x y addW) (m + 1)).length c0n), (8, .slice a1n (chs 2 (wayOf x y votesW) (m + 1)).length c1n), (9, .slice a2n (chs 3 (wayOf x y goesW) (m + 1)).length c2n), (10, .slice a3n (chs 1 (wayOf x y fallsW) (m + 1)).length c3n), (11, i64 ((m : Int) + 1))] ∧ Good w' s3 (L0n :: L1n :: L2n :: L3n :: os) ∧ Aux w w' ∧ Own RChange 2 33 s3 L0n a0n c0n (chs 1 (wayOf x y addW) (m + 1)) ∧ Own RChange 2 33 s3 L1n a1n c1n (chs 2 (wayOf x y votesW) (m + 1)) ∧ Own RChange 2 33 s3 L2n a2n c2n (chs 3 (wayOf x y goesW) (m + 1)) ∧ Own RChange 2 33 s3 L3n a3n c3n (chs 1 (wayOf x y fallsW) (m + 1))) ?_ ?_
    · refine CW.block (CW.seq (CW.plain ?_))
      refine RL.field rfl rfl rfl rfl fl24_0 rfl rfl ?_
      refine RL.load (j := 0) rfl rfl rfl rfl ty22 rfl (hH) (hg4.sh) rfl ?_
      refine RL.pure rfl rfl rfl rfl ?_
      refine RL.callV rfl rfl rfl rfl rfl ca21 (rIn_ct hg4 x1) ?_
      rintro v5 w5 hg5 hax5 rfl
      refine ⟨trivial, ?_⟩
      refine RL.pure rfl rfl rfl rfl ?_
      refine RL.done ?_
      refine CW.seq (CW.plain ?_)
      refine RL.field rfl rfl rfl rfl fl24_1 rfl rfl ?_
      refine RL.load (j := 1) rfl rfl rfl rfl ty22 rfl (hH) (hg5.sh) rfl ?_
      refine RL.pure rfl rfl rfl rfl ?_
      refine RL.callV rfl rfl rfl rfl rfl ca21 (rIn_ct hg5 x2) ?_
      rintro v6 w6 hg6 hax6 rfl
      refine ⟨trivial, ?_⟩
      refine RL.pure rfl rfl rfl rfl ?_
      refine RL.done ?_
      refine CW.seq (CW.plain ?_)
      refine RL.field rfl rfl rfl rfl fl24_0 rfl rfl ?_
      refine RL.load (j := 0) rfl rfl rfl rfl ty22 rfl (hQ) (hg6.sh) rfl ?_
      refine RL.pure rfl rfl rfl rfl ?_
      refine RL.callV rfl rfl rfl rfl rfl ca21 (rIn_ct hg6 y1) ?_
      rintro v7 w7 hg7 hax7 rfl
      refine ⟨trivial, ?_⟩
      refine RL.pure rfl rfl rfl rfl ?_
      refine RL.done ?_
      refine CW.seq (CW.plain ?_)
      refine RL.field rfl rfl rfl rfl fl24_1 rfl rfl ?_
      refine RL.load (j := 1) rfl rfl rfl rfl ty22 rfl (hQ) (hg7.sh) rfl ?_
      refine RL.pure rfl rfl rfl rfl ?_
      refine RL.callV rfl rfl rfl rfl rfl ca21 (rIn_ct hg7 y2) ?_
      rintro v8 w8 hg8 hax8 rfl
      refine ⟨trivial, ?_⟩
      refine RL.pure rfl rfl rfl rfl ?_
      refine RL.done ?_
      have hax8 := hax4.trans (hax5.trans (hax6.trans (hax7.trans hax8)))
      have q0 : wayOf x y addW ((m : Int) + 1) = addW (decide ((m : Int) + 1 ∈ x.voters)) (decide ((m : Int) + 1 ∈ x.learners)) (decide ((m : Int) + 1 ∈ y.voters)) (decide ((m : Int) + 1 ∈ y.learners)) := rfl
      have u0 := chs_succ 1 (wayOf x y addW) m
      have q1 : wayOf x y votesW ((m : Int) + 1) = votesW (decide ((m : Int) + 1 ∈ x.voters)) (decide ((m : Int) + 1 ∈ x.learners)) (decide ((m : Int) + 1 ∈ y.voters)) (decide ((m : Int) + 1 ∈ y.learners)) := rfl
      have u1 := chs_succ 2 (wayOf x y votesW) m
      have q2 : wayOf x y goesW ((m : Int) + 1) = goesW (decide ((m : Int) + 1 ∈ x.voters)) (decide ((m : Int) + 1 ∈ x.learners)) (decide ((m : Int) + 1 ∈ y.voters)) (decide ((m : Int) + 1 ∈ y.learners)) := rfl
      have u2 := chs_succ 3 (wayOf x y goesW) m
      have q3 : wayOf x y fallsW ((m : Int) + 1) = fallsW (decide ((m : Int) + 1 ∈ x.voters)) (decide ((m : Int) + 1 ∈ x.learners)) (decide ((m : Int) + 1 ∈ y.voters)) (decide ((m : Int) + 1 ∈ y.learners)) := rfl
      have u3 := chs_succ 1 (wayOf x y fallsW) m
      generalize decide ((m : Int) + 1 ∈ x.voters) = v at q0 q1 q2 q3 ⊢
      generalize decide ((m : Int) + 1 ∈ x.learners) = l at q0 q1 q2 q3 ⊢
      generalize decide ((m : Int) + 1 ∈ y.voters) = vv at q0 q1 q2 q3 ⊢
      generalize decide ((m : Int) + 1 ∈ y.learners) = ll at q0 q1 q2 q3 ⊢
      rw [q0] at u0
      rw [q1] at u1
      rw [q2] at u2
      rw [q3] at u3
      refine CW.less (E' := [(2, ptr p), (3, ptr q), (7, .slice a0 (chs 1 (wayOf x y addW) m).length c0), (8, .slice a1 (chs 2 (wayOf x y votesW) m).length c1), (9, .slice a2 (chs 3 (wayOf x y goesW) m).length c2), (10, .slice a3 (chs 1 (wayOf x y fallsW) m).length c3), (11, i64 ((m : Int) + 1)), (12, .bool v), (13, .bool l), (14, .bool vv), (15, .bool ll)]) ⟨rfl, rfl, rfl, rfl, rfl, rfl, rfl, rfl, rfl, rfl, rfl, trivial⟩ ?_
      refine CW.meet (fun E w' => ∃ L0n a0n c0n, E = [(2, ptr p), (3, ptr q), (7, .slice a0n (chs 1 (wayOf x y addW) (m + 1)).length c0n), (8, .slice a1 (chs 2 (wayOf x y votesW) m).length c1), (9, .slice a2 (chs 3 (wayOf x y goesW) m).length c2), (10, .slice a3 (chs 1 (wayOf x y fallsW) m).length c3), (11, i64 ((m : Int) + 1)), (12, .bool v), (13, .bool l), (14, .bool vv), (15, .bool ll)] ∧ Good w' s3 (L0n :: L1 :: L2 :: L3 :: os) ∧ Aux w w' ∧ Own RChange 2 33 s3 L0n a0n c0n (chs 1 (wayOf x y addW) (m + 1))) ?_ ?_
      · skip
        refine CW.meet (fun E w' => w' = w8 ∧ E = [(2, ptr p), (3, ptr q), (7, .slice a0 (chs 1 (wayOf x y addW) m).length c0), (8, .slice a1 (chs 2 (wayOf x y votesW) m).length c1), (9, .slice a2 (chs 3 (wayOf x y goesW) m).length c2), (10, .slice a3 (chs 1 (wayOf x y fallsW) m).length c3), (11, i64 ((m : Int) + 1)), (12, .bool v), (13, .bool l), (14, .bool vv), (15, .bool ll), (57, .bool (addW v l vv ll))]) ?_ ?_
        · cases v <;> cases l <;> cases vv <;> cases ll <;>
          · refine CW.plain ?_
            repeat (first | refine RL.pure rfl rfl rfl rfl ?_ | refine RL.pass rfl rfl rfl ?_)
            refine RL.done ?_
            exact fun ac ha => ⟨_, ha.sub (E' := [(2, ptr p), (3, ptr q), (7, .slice a0 (chs 1 (wayOf x y addW) m).length c0), (8, .slice a1 (chs 2 (wayOf x y votesW) m).length c1), (9, .slice a2 (chs 3 (wayOf x y goesW) m).length c2), (10, .slice a3 (chs 1 (wayOf x y fallsW) m).length c3), (11, i64 ((m : Int) + 1)), (12, .bool _), (13, .bool _), (14, .bool _), (15, .bool _), (57, .bool (addW _ _ _ _))]) ⟨rfl, rfl, rfl, rfl, rfl, rfl, rfl, rfl, rfl, rfl, rfl, rfl, trivial⟩, rfl, rfl⟩
        rintro E w' ⟨rfl, rfl⟩
        refine CW.cond rfl (fun hy => CW.plain ?_) (fun hy => CW.skip ?_)
        · rw [if_pos hy] at u0
          refine RL.pure rfl rfl rfl rfl ?_
          refine RL.pure rfl rfl rfl rfl ?_
          refine RL.build rfl rfl rfl rfl ze33 pl33 rfl rfl ?_
          refine RL.buildSlice rfl rfl rfl rfl sl25 ze33 rfl rfl rfl rfl hg8 ?_
          rintro b20 w20 hg20 hax20
          refine ⟨trivial, ?_⟩
          refine RL.append (i := 1) (ys := [⟨1, (m : Int) + 1⟩]) rfl rfl rfl rfl sl25 ze33 rfl (by first | exact RInt.one _ | exact RStr.one | exact RBool.one | assumption) rfl rfl hg20 rfl o0 ((Src.slice sl25 rfl (.inr ⟨_, rfl, Holds.one b20 _ 33⟩) hg20.1)) ((Chunks.single rfl ⟨rfl, by simp [rng], by simp only [rng]; omega⟩)) ((by simp; omega)) (by omega) ?_
          rintro a0n c0n L0n w20n hg20n ho20 hax20n hk20
          refine ⟨trivial, ?_⟩
          refine RL.pure rfl rfl rfl rfl ?_
          refine RL.done ?_
          rw [← u0] at ho20 ⊢
          exact fun ac ha => ⟨[(2, ptr p), (3, ptr q), (7, .slice a0n (chs 1 (wayOf x y addW) (m + 1)).length c0n), (8, .slice a1 (chs 2 (wayOf x y votesW) m).length c1), (9, .slice a2 (chs 3 (wayOf x y goesW) m).length c2), (10, .slice a3 (chs 1 (wayOf x y fallsW) m).length c3), (11, i64 ((m : Int) + 1)), (12, .bool v), (13, .bool l), (14, .bool vv), (15, .bool ll)], ha.sub ⟨rfl, rfl, rfl, rfl, rfl, rfl, rfl, rfl, rfl, rfl, rfl, trivial⟩, L0n, a0n, c0n, rfl, hg20n.drop, hax8.trans (hax20.trans hax20n), ho20⟩
        · rw [if_neg (by rw [hy]; decide), List.append_nil] at u0
          have o0 := o0
          rw [← u0] at o0
          exact fun ac ha => ⟨[(2, ptr p), (3, ptr q), (7, .slice a0 (chs 1 (wayOf x y addW) (m + 1)).length c0), (8, .slice a1 (chs 2 (wayOf x y votesW) m).length c1), (9, .slice a2 (chs 3 (wayOf x y goesW) m).length c2), (10, .slice a3 (chs 1 (wayOf x y fallsW) m).length c3), (11, i64 ((m : Int) + 1)), (12, .bool v), (13, .bool l), (14, .bool vv), (15, .bool ll)], ha.sub (by rw [u0]; exact ⟨rfl, rfl, rfl, rfl, rfl, rfl, rfl, rfl, rfl, rfl, rfl, trivial⟩), L0, a0, c0, rfl, hg8, hax8, o0⟩
      rintro E w101 ⟨L0n, a0n, c0n, rfl, hg101, hax101, o0n⟩
      refine CW.meet (fun E w' => ∃ L1n a1n c1n, E = [(2, ptr p), (3, ptr q), (7, .slice a0n (chs 1 (wayOf x y addW) (m + 1)).length c0n), (8, .slice a1n (chs 2 (wayOf x y votesW) (m + 1)).length c1n), (9, .slice a2 (chs 3 (wayOf x y goesW) m).length c2), (10, .slice a3 (chs 1 (wayOf x y fallsW) m).length c3), (11, i64 ((m : Int) + 1)), (12, .bool v), (13, .bool l), (14, .bool vv), (15, .bool ll)] ∧ Good w' s3 (L0n :: L1n :: L2 :: L3 :: os) ∧ Aux w w' ∧ Own RChange 2 33 s3 L1n a1n c1n (chs 2 (wayOf x y votesW) (m + 1))) ?_ ?_
      · skip
        refine CW.meet (fun E w' => w' = w101 ∧ E = [(2, ptr p), (3, ptr q), (7, .slice a0n (chs 1 (wayOf x y addW) (m + 1)).length c0n), (8, .slice a1 (chs 2 (wayOf x y votesW) m).length c1), (9, .slice a2 (chs 3 (wayOf x y goesW) m).length c2), (10, .slice a3 (chs 1 (wayOf x y fallsW) m).length c3), (11, i64 ((m : Int) + 1)), (12, .bool v), (13, .bool l), (14, .bool vv), (15, .bool ll), (67, .bool (votesW v l vv ll))]) ?_ ?_
        · cases v <;> cases l <;> cases vv <;> cases ll <;>
          · refine CW.plain ?_
            repeat (first | refine RL.pure rfl rfl rfl rfl ?_ | refine RL.pass rfl rfl rfl ?_)
            refine RL.done ?_
            exact fun ac ha => ⟨_, ha.sub (E' := [(2, ptr p), (3, ptr q), (7, .slice a0n (chs 1 (wayOf x y addW) (m + 1)).length c0n), (8, .slice a1 (chs 2 (wayOf x y votesW) m).length c1), (9, .slice a2 (chs 3 (wayOf x y goesW) m).length c2), (10, .slice a3 (chs 1 (wayOf x y fallsW) m).length c3), (11, i64 ((m : Int) + 1)), (12, .bool _), (13, .bool _), (14, .bool _), (15, .bool _), (67, .bool (votesW _ _ _ _))]) ⟨rfl, rfl, rfl, rfl, rfl, rfl, rfl, rfl, rfl, rfl, rfl, rfl, trivial⟩, rfl, rfl⟩
        rintro E w' ⟨rfl, rfl⟩
        refine CW.cond rfl (fun hy => CW.plain ?_) (fun hy => CW.skip ?_)
        · rw [if_pos hy] at u1
          refine RL.pure rfl rfl rfl rfl ?_
          refine RL.pure rfl rfl rfl rfl ?_
          refine RL.build rfl rfl rfl rfl ze33 pl33 rfl rfl ?_
          refine RL.buildSlice rfl rfl rfl rfl sl25 ze33 rfl rfl rfl rfl hg101 ?_
          rintro b21 w21 hg21 hax21
          refine ⟨trivial, ?_⟩
          refine RL.append (i := 2) (ys := [⟨2, (m : Int) + 1⟩]) rfl rfl rfl rfl sl25 ze33 rfl (by first | exact RInt.one _ | exact RStr.one | exact RBool.one | assumption) rfl rfl hg21 rfl o1 ((Src.slice sl25 rfl (.inr ⟨_, rfl, Holds.one b21 _ 33⟩) hg21.1)) ((Chunks.single rfl ⟨rfl, by simp [rng], by simp only [rng]; omega⟩)) ((by simp; omega)) (by omega) ?_
          rintro a1n c1n L1n w21n hg21n ho21 hax21n hk21
          refine ⟨trivial, ?_⟩
          refine RL.pure rfl rfl rfl rfl ?_
          refine RL.done ?_
          rw [← u1] at ho21 ⊢
          exact fun ac ha => ⟨[(2, ptr p), (3, ptr q), (7, .slice a0n (chs 1 (wayOf x y addW) (m + 1)).length c0n), (8, .slice a1n (chs 2 (wayOf x y votesW) (m + 1)).length c1n), (9, .slice a2 (chs 3 (wayOf x y goesW) m).length c2), (10, .slice a3 (chs 1 (wayOf x y fallsW) m).length c3), (11, i64 ((m : Int) + 1)), (12, .bool v), (13, .bool l), (14, .bool vv), (15, .bool ll)], ha.sub ⟨rfl, rfl, rfl, rfl, rfl, rfl, rfl, rfl, rfl, rfl, rfl, trivial⟩, L1n, a1n, c1n, rfl, hg21n.drop, hax101.trans (hax21.trans hax21n), ho21⟩
        · rw [if_neg (by rw [hy]; decide), List.append_nil] at u1
          have o1 := o1
          rw [← u1] at o1
          exact fun ac ha => ⟨[(2, ptr p), (3, ptr q), (7, .slice a0n (chs 1 (wayOf x y addW) (m + 1)).length c0n), (8, .slice a1 (chs 2 (wayOf x y votesW) (m + 1)).length c1), (9, .slice a2 (chs 3 (wayOf x y goesW) m).length c2), (10, .slice a3 (chs 1 (wayOf x y fallsW) m).length c3), (11, i64 ((m : Int) + 1)), (12, .bool v), (13, .bool l), (14, .bool vv), (15, .bool ll)], ha.sub (by rw [u1]; exact ⟨rfl, rfl, rfl, rfl, rfl, rfl, rfl, rfl, rfl, rfl, rfl, trivial⟩), L1, a1, c1, rfl, hg101, hax101, o1⟩
      rintro E w102 ⟨L1n, a1n, c1n, rfl, hg102, hax102, o1n⟩
      refine CW.meet (fun E w' => ∃ L2n a2n c2n, E = [(2, ptr p), (3, ptr q), (7, .slice a0n (chs 1 (wayOf x y addW) (m + 1)).length c0n), (8, .slice a1n (chs 2 (wayOf x y votesW) (m + 1)).length c1n), (9, .slice a2n (chs 3 (wayOf x y goesW) (m + 1)).length c2n), (10, .slice a3 (chs 1 (wayOf x y fallsW) m).length c3), (11, i64 ((m : Int) + 1)), (12, .bool v), (13, .bool l), (14, .bool vv), (15, .bool ll)] ∧ Good w' s3 (L0n :: L1n :: L2n :: L3 :: os) ∧ Aux w w' ∧ Own RChange 2 33 s3 L2n a2n c2n (chs 3 (wayOf x y goesW) (m + 1))) ?_ ?_
      · skip
        refine CW.meet (fun E w' => w' = w102 ∧ E = [(2, ptr p), (3, ptr q), (7, .slice a0n (chs 1 (wayOf x y addW) (m + 1)).length c0n), (8, .slice a1n (chs 2 (wayOf x y votesW) (m + 1)).length c1n), (9, .slice a2 (chs 3 (wayOf x y goesW) m).length c2), (10, .slice a3 (chs 1 (wayOf x y fallsW) m).length c3), (11, i64 ((m : Int) + 1)), (12, .bool v), (13, .bool l), (14, .bool vv), (15, .bool ll), (90, .bool (goesW v l vv ll))]) ?_ ?_
        · cases v <;> cases l <;> cases vv <;> cases ll <;>
          · refine CW.plain ?_
            repeat (first | refine RL.pure rfl rfl rfl rfl ?_ | refine RL.pass rfl rfl rfl ?_)
            refine RL.done ?_
            exact fun ac ha => ⟨_, ha.sub (E' := [(2, ptr p), (3, ptr q), (7, .slice a0n (chs 1 (wayOf x y addW) (m + 1)).length c0n), (8, .slice a1n (chs 2 (wayOf x y votesW) (m + 1)).length c1n), (9, .slice a2 (chs 3 (wayOf x y goesW) m).length c2), (10, .slice a3 (chs 1 (wayOf x y fallsW) m).length c3), (11, i64 ((m : Int) + 1)), (12, .bool _), (13, .bool _), (14, .bool _), (15, .bool _), (90, .bool (goesW _ _ _ _))]) ⟨rfl, rfl, rfl, rfl, rfl, rfl, rfl, rfl, rfl, rfl, rfl, rfl, trivial⟩, rfl, rfl⟩
        rintro E w' ⟨rfl, rfl⟩
        refine CW.cond rfl (fun hy => CW.plain ?_) (fun hy => CW.skip ?_)
        · rw [if_pos hy] at u2
          refine RL.pure rfl rfl rfl rfl ?_
          refine RL.pure rfl rfl rfl rfl ?_
          refine RL.build rfl rfl rfl rfl ze33 pl33 rfl rfl ?_
          refine RL.buildSlice rfl rfl rfl rfl sl25 ze33 rfl rfl rfl rfl hg102 ?_
          rintro b22 w22 hg22 hax22
          refine ⟨trivial, ?_⟩
          refine RL.append (i := 3) (ys := [⟨3, (m : Int) + 1⟩]) rfl rfl rfl rfl sl25 ze33 rfl (by first | exact RInt.one _ | exact RStr.one | exact RBool.one | assumption) rfl rfl hg22 rfl o2 ((Src.slice sl25 rfl (.inr ⟨_, rfl, Holds.one b22 _ 33⟩) hg22.1)) ((Chunks.single rfl ⟨rfl, by simp [rng], by simp only [rng]; omega⟩)) ((by simp; omega)) (by omega) ?_
          rintro a2n c2n L2n w22n hg22n ho22 hax22n hk22
          refine ⟨trivial, ?_⟩
          refine RL.pure rfl rfl rfl rfl ?_
          refine RL.done ?_
          rw [← u2] at ho22 ⊢
          exact fun ac ha => ⟨[(2, ptr p), (3, ptr q), (7, .slice a0n (chs 1 (wayOf x y addW) (m + 1)).length c0n), (8, .slice a1n (chs 2 (wayOf x y votesW) (m + 1)).length c1n), (9, .slice a2n (chs 3 (wayOf x y goesW) (m + 1)).length c2n), (10, .slice a3 (chs 1 (wayOf x y fallsW) m).length c3), (11, i64 ((m : Int) + 1)), (12, .bool v), (13, .bool l), (14, .bool vv), (15, .bool ll)], ha.sub ⟨rfl, rfl, rfl, rfl, rfl, rfl, rfl, rfl, rfl, rfl, rfl, trivial⟩, L2n, a2n, c2n, rfl, hg22n.drop, hax102.trans (hax22.trans hax22n), ho22⟩
        · rw [if_neg (by rw [hy]; decide), List.append_nil] at u2
          have o2 := o2
          rw [← u2] at o2
          exact fun ac ha => ⟨[(2, ptr p), (3, ptr q), (7, .slice a0n (chs 1 (wayOf x y addW) (m + 1)).length c0n), (8, .slice a1n (chs 2 (wayOf x y votesW) (m + 1)).length c1n), (9, .slice a2 (chs 3 (wayOf x y goesW) (m + 1)).length c2), (10, .slice a3 (chs 1 (wayOf x y fallsW) m).length c3), (11, i64 ((m : Int) + 1)), (12, .bool v), (13, .bool l), (14, .bool vv), (15, .bool ll)], ha.sub (by rw [u2]; exact ⟨rfl, rfl, rfl, rfl, rfl, rfl, rfl, rfl, rfl, rfl, rfl, trivial⟩), L2, a2, c2, rfl, hg102, hax102, o2⟩
      rintro E w103 ⟨L2n, a2n, c2n, rfl, hg103, hax103, o2n⟩
      refine CW.meet (fun E w' => w' = w103 ∧ E = [(2, ptr p), (3, ptr q), (7, .slice a0n (chs 1 (wayOf x y addW) (m + 1)).length c0n), (8, .slice a1n (chs 2 (wayOf x y votesW) (m + 1)).length c1n), (9, .slice a2n (chs 3 (wayOf x y goesW) (m + 1)).length c2n), (10, .slice a3 (chs 1 (wayOf x y fallsW) m).length c3), (11, i64 ((m : Int) + 1)), (12, .bool v), (13, .bool l), (14, .bool vv), (15, .bool ll), (99, .bool (fallsW v l vv ll))]) ?_ ?_
      · cases v <;> cases l <;> cases vv <;> cases ll <;>
        · refine CW.plain ?_
          repeat (first | refine RL.pure rfl rfl rfl rfl ?_ | refine RL.pass rfl rfl rfl ?_)
          refine RL.done ?_
          exact fun ac ha => ⟨_, ha.sub (E' := [(2, ptr p), (3, ptr q), (7, .slice a0n (chs 1 (wayOf x y addW) (m + 1)).length c0n), (8, .slice a1n (chs 2 (wayOf x y votesW) (m + 1)).length c1n), (9, .slice a2n (chs 3 (wayOf x y goesW) (m + 1)).length c2n), (10, .slice a3 (chs 1 (wayOf x y fallsW) m).length c3), (11, i64 ((m : Int) + 1)), (12, .bool _), (13, .bool _), (14, .bool _), (15, .bool _), (99, .bool (fallsW _ _ _ _))]) ⟨rfl, rfl, rfl, rfl, rfl, rfl, rfl, rfl, rfl, rfl, rfl, rfl, trivial⟩, rfl, rfl⟩
      rintro E w' ⟨rfl, rfl⟩
      refine CW.cond rfl (fun hy => CW.plain ?_) (fun hy => CW.skip ?_)
      · rw [if_pos hy] at u3
        refine RL.pure rfl rfl rfl rfl ?_
        refine RL.pure rfl rfl rfl rfl ?_
        refine RL.build rfl rfl rfl rfl ze33 pl33 rfl rfl ?_
        refine RL.buildSlice rfl rfl rfl rfl sl25 ze33 rfl rfl rfl rfl hg103 ?_
        rintro b23 w23 hg23 hax23
        refine ⟨trivial, ?_⟩
        refine RL.append (i := 4) (ys := [⟨1, (m : Int) + 1⟩]) rfl rfl rfl rfl sl25 ze33 rfl (by first | exact RInt.one _ | exact RStr.one | exact RBool.one | assumption) rfl rfl hg23 rfl o3 ((Src.slice sl25 rfl (.inr ⟨_, rfl, Holds.one b23 _ 33⟩) hg23.1)) ((Chunks.single rfl ⟨rfl, by simp [rng], by simp only [rng]; omega⟩)) ((by simp; omega)) (by omega) ?_
        rintro a3n c3n L3n w23n hg23n ho23 hax23n hk23
        refine ⟨trivial, ?_⟩
        refine RL.pure rfl rfl rfl rfl ?_
        refine RL.done ?_
        rw [← u3] at ho23 ⊢
        exact fun ac ha => ⟨[(2, ptr p), (3, ptr q), (7, .slice a0n (chs 1 (wayOf x y addW) (m + 1)).length c0n), (8, .slice a1n (chs 2 (wayOf x y votesW) (m + 1)).length c1n), (9, .slice a2n (chs 3 (wayOf x y goesW) (m + 1)).length c2n), (10, .slice a3n (chs 1 (wayOf x y fallsW) (m + 1)).length c3n), (11, i64 ((m : Int) + 1))], ha.sub ⟨rfl, rfl, rfl, rfl, rfl, rfl, rfl, trivial⟩, L0n, L1n, L2n, L3n, a0n, a1n, a2n, a3n, c0n, c1n, c2n, c3n, rfl, hg23n.drop, hax103.trans (hax23.trans hax23n), o0n, o1n, o2n, ho23⟩
      · rw [if_neg (by rw [hy]; decide), List.append_nil] at u3
        have o3 := o3
        rw [← u3] at o3
        exact fun ac ha => ⟨[(2, ptr p), (3, ptr q), (7, .slice a0n (chs 1 (wayOf x y addW) (m + 1)).length c0n), (8, .slice a1n (chs 2 (wayOf x y votesW) (m + 1)).length c1n), (9, .slice a2n (chs 3 (wayOf x y goesW) (m + 1)).length c2n), (10, .slice a3 (chs 1 (wayOf x y fallsW) (m + 1)).length c3), (11, i64 ((m : Int) + 1))], ha.sub (by rw [u3]; exact ⟨rfl, rfl, rfl, rfl, rfl, rfl, rfl, trivial⟩), L0n, L1n, L2n, L3, a0n, a1n, a2n, a3, c0n, c1n, c2n, c3, rfl, hg103, hax103, o0n, o1n, o2n, o3⟩
    rintro E w9 ⟨L0n, L1n, L2n, L3n, a0n, a1n, a2n, a3n, c0n, c1n, c2n, c3n, rfl, hg9, hax9, o0n, o1n, o2n, o3n⟩
    refine CW.plain ?_
    refine RL.pure rfl rfl rfl rfl ?_
    refine RL.add rfl rfl rfl rfl rfl rfl (by simp only [rng] at *; omega) ?_
    refine RL.pure rfl rfl rfl rfl ?_
    refine RL.done ?_
    cases j with
    | zero => omega
    | succ j => exact fun ac ha => ⟨j, [(2, ptr p), (3, ptr q), (7, .slice a0n (chs 1 (wayOf x y addW) (m + 1)).length c0n), (8, .slice a1n (chs 2 (wayOf x y votesW) (m + 1)).length c1n), (9, .slice a2n (chs 3 (wayOf x y goesW) (m + 1)).length c2n), (10, .slice a3n (chs 1 (wayOf x y fallsW) (m + 1)).length c3n), (11, i64 (((m + 1 : Nat) : Int) + 1))], ha.sub ⟨rfl, rfl, rfl, rfl, rfl, rfl, rfl, trivial⟩, ⟨L0n, L1n, L2n, L3n, a0n, a1n, a2n, a3n, c0n, c1n, c2n, c3n, m + 1, rfl, hg9, hax9, o0n, o1n, o2n, o3n, by omega⟩, Nat.lt_succ_self j⟩
  · have hm7 : m = 7 := by omega
    rw [hm7] at o0 o1 o2 o3 ⊢
    have n0 := chs_le 1 (wayOf x y addW) 7
    have n1 := chs_le 2 (wayOf x y votesW) 7
    have n2 := chs_le 3 (wayOf x y goesW) 7
    have n3 := chs_le 1 (wayOf x y fallsW) 7
    obtain ⟨s5, hg5, hle5, hq5⟩ := Good.letgo (hg4.front 1 rfl)
    have o0 := o0.up RChange.up hle5
    have o2 := o2.up RChange.up hle5
    have o3 := o3.up RChange.up hle5
    have i1 := o1.imm RChange.up hle5 hq5
    obtain ⟨s6, hg6, hle6, hq6⟩ := Good.letgo (hg5.front 1 rfl)
    have o0 := o0.up RChange.up hle6
    have o3 := o3.up RChange.up hle6
    have i2 := o2.imm RChange.up hle6 hq6
    have i1 := i1.up RChange.up hle6
    obtain ⟨s7, hg7, hle7, hq7⟩ := Good.letgo (hg6.front 1 rfl)
    have o0 := o0.up RChange.up hle7
    have i3 := o3.imm RChange.up hle7 hq7
    have i1 := i1.up RChange.up hle7
    have i2 := i2.up RChange.up hle7
    refine CW.seq (CW.plain ?_)
    refine RL.pure rfl rfl rfl rfl ?_
    refine RL.pure rfl rfl rfl rfl ?_
    obtain ⟨news1, hsrc1, hch1⟩ := Src.row (c := c1) sl25 i1.2.2 hg7.sh
    refine RL.append (i := 0) (ys := (chs 2 (wayOf x y votesW) 7)) rfl rfl rfl rfl sl25 ze33 rfl (by first | exact RInt.one _ | exact RStr.one | exact RBool.one | assumption) rfl rfl hg7 rfl o0 (hsrc1) (hch1) ((by omega)) (by omega) ?_
    rintro b1 d1 M1 w10 hg10 p1 hax10 hk10
    refine ⟨trivial, ?_⟩
    refine RL.pure rfl rfl rfl rfl ?_
    refine RL.done ?_
    refine CW.seq (CW.plain ?_)
    refine RL.pure rfl rfl rfl rfl ?_
    refine RL.pure rfl rfl rfl rfl ?_
    obtain ⟨news2, hsrc2, hch2⟩ := Src.row (c := c2) sl25 i2.2.2 hg10.sh
    refine RL.append (i := 0) (ys := (chs 3 (wayOf x y goesW) 7)) rfl rfl rfl rfl sl25 ze33 rfl (by first | exact RInt.one _ | exact RStr.one | exact RBool.one | assumption) rfl rfl hg10 rfl p1 (hsrc2) (hch2) ((by simp only [List.length_append]; omega)) (by omega) ?_
    rintro b2 d2 M2 w11 hg11 p2 hax11 hk11
    refine ⟨trivial, ?_⟩
    refine RL.pure rfl rfl rfl rfl ?_
    refine RL.done ?_
    refine CW.seq (CW.plain ?_)
    refine RL.pure rfl rfl rfl rfl ?_
    refine RL.pure rfl rfl rfl rfl ?_
    obtain ⟨news3, hsrc3, hch3⟩ := Src.row (c := c3) sl25 i3.2.2 hg11.sh
    refine RL.append (i := 0) (ys := (chs 1 (wayOf x y fallsW) 7)) rfl rfl rfl rfl sl25 ze33 rfl (by first | exact RInt.one _ | exact RStr.one | exact RBool.one | assumption) rfl rfl hg11 rfl p2 (hsrc3) (hch3) ((by simp only [List.length_append]; omega)) (by omega) ?_
    rintro b3 d3 M3 w12 hg12 p3 hax12 hk12
    refine ⟨trivial, ?_⟩
    refine RL.pure rfl rfl rfl rfl ?_
    refine RL.pure rfl rfl rfl rfl ?_
    refine RL.done ?_
    exact CW.ret (ret (vs := [_, _]) ⟨_, _, rfl, rfl, _, _, rfl, rfl, rfl⟩ (Post.mk (hle.trans (hle5.trans (hle6.trans hle7))) hg12 (hax4.trans (hax10.trans (hax11.trans hax12))) ⟨b3, d3, rfl, p3⟩))
end Go.Lw
