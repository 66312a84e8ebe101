/-
  Configurations: the law RaftconfMeets, walked.
-/
import Derived.Test.YthafkinbocdjlaaRcM
namespace Go.Lw
open Go.Proofs

theorem right_fits {c : Conf} (h : checkP c = 0) : c.fits := by
  obtain ⟨z1, z2, z3, z4, z5⟩ := check_zero h
  have h1 := strict_len z2 fun n hn => z1 n (List.mem_append_left _ hn)
  have h2 := strict_len z3 fun n hn => z1 n (List.mem_append_right _ hn)
  simp only [Conf.fits]; omega

set_option maxHeartbeats 1000000 in
set_option maxRecDepth 100000 in
theorem RaftconfMeets_ct {w : World} {s : Res} {os : List Res} {vs us : List Value} {c : Conf} {x : Change} {ys zs : List Int} {ya za : Option Addr} {yc zc : Nat} (hg : Good w s os) (hc : RConf s vs c) (hx : RChange s us x) (hy : Ints s ya yc ys) (hz : Ints s za zc zs) (hb : c.fits) :
    Calls Try.prog 7 #[.agg vs.toArray, .agg us.toArray, .slice ya ys.length yc, .slice za zs.length zc] w (Post w s os fun _ _ r => r = .bool true) := by
  have hc0 := hc
  have hbl := hb
  simp only [Conf.fits] at hbl
  obtain ⟨a, ac, b, bc, rfl, i1, i2⟩ := hc
  obtain ⟨rfl, hr1, hr2⟩ := hx
  have hly := hy.le_max
  have hlz := hz.le_max
  simp only [maxLen] at hly hlz
  refine enter (l := [.agg #[.slice a c.voters.length ac, .slice b c.learners.length bc], .agg #[i64 x.kind, i64 x.node], .slice ya ys.length yc, .slice za zs.length zc]) Try.func7 rfl Try.ntmps7 rfl ?_
  refine CW.seq (CW.plain ?_)
  refine RL.box rfl rfl rfl rfl rfl hg ?_
  rintro p w0 hg0 hax0
  refine ⟨trivial, ?_⟩
  obtain ⟨s0, hg0, hle0, hq0⟩ := Good.letgo hg0
  have hH : Holds s0 ⟨p, 0, none⟩ [.slice a c.voters.length ac, .slice b c.learners.length bc] := (Holds.one p _ _).le hq0
  refine RL.box rfl rfl rfl rfl rfl hg0 ?_
  rintro q w1 hg1 hax1
  refine ⟨trivial, ?_⟩
  refine RL.pure rfl rfl rfl rfl ?_
  refine RL.done ?_
  obtain ⟨s1, hg1, hle1, hq1⟩ := Good.letgo hg1
  have hX : Holds s1 ⟨q, 0, none⟩ [i64 x.kind, i64 x.node] := (Holds.one q _ _).le hq1
  have hH := hH.le hle1
  refine CW.seq (CW.plain ?_)
  refine RL.call rfl rfl rfl rfl rfl ca8 (head8_ct hg1) ?_
  rintro v2 s2 A2 w2 hle2 hg2 hax2 rfl
  refine ⟨trivial, ?_⟩
  refine RL.pure rfl rfl rfl rfl ?_
  refine RL.done ?_
  have hg2 := hg2.drop
  have hle := hle0.trans (hle1.trans hle2)
  have hax := hax0.trans (hax1.trans hax2)
  have hH := hH.le hle2
  have hX := hX.le hle2
  have hc2 := RConf.up _ _ _ _ hle hc0
  have i1 := i1.up (RInt.up _) hle
  have hy := hy.up (RInt.up _) hle
  have hz := hz.up (RInt.up _) hle
  clear hg0 hg1
  refine CW.seq (CW.plain ?_)
  refine RL.loads (j := 0) (us := [.slice a c.voters.length ac, .slice b c.learners.length bc]) rfl rfl rfl rfl ty24 rfl (hH) (hg2.sh) rfl rfl ?_
  refine RL.loads (j := 0) (us := [i64 x.kind, i64 x.node]) rfl rfl rfl rfl ty33 rfl (hX) (hg2.sh) rfl rfl ?_
  refine RL.callG rfl rfl rfl rfl rfl ca10 (Apply_ct (k := x.kind) (n := x.node) hg2 hc2 hb hr1 hr2) ?_
  rintro e3 w3 ⟨v3, s3, B3, A3, rfl, hle3, hg3, hax3, a3, c3, b3, d3, rfl, ho1, ho2⟩
  refine ⟨_, rfl, trivial, ?_⟩
  refine RL.pure rfl rfl rfl rfl ?_
  refine RL.pure rfl rfl rfl rfl ?_
  refine RL.pure rfl rfl rfl rfl ?_
  obtain ⟨s4, hg4, hle4, hB4⟩ := Good.letgo hg3
  obtain ⟨s5, hg5, hle5, hA5⟩ := Good.letgo hg4
  have j1 := ho1.imm (RInt.up _) (hle4.trans hle5) hA5
  have j2 := ho2.imm (RInt.up _) (hle4.trans hle5) (hB4.trans hle5)
  generalize hap : applyP c x.kind x.node = res at *
  refine RL.alloc rfl rfl rfl rfl ze24 hg5 ?_
  rintro r w6 hg6 hax6
  refine ⟨trivial, ?_⟩
  refine RL.store (i := 0) (j := 0) rfl rfl rfl ty24 rfl rfl hg6 rfl (if_pos rfl) rfl (by first | (simp [Value.cells, Value.oneCell']; done) | simp [Value.cells, Value.oneCell', putL]) (by first | exact Nat.le_of_ble_eq_true rfl | (simp; done) | (simp; omega) | omega) ?_
  rintro w7 hg7 hax7
  refine ⟨trivial, ?_⟩
  refine RL.pure rfl rfl rfl rfl ?_
  refine RL.done ?_
  obtain ⟨s8, hg8, hle8, hq8⟩ := Good.letgo hg7
  have hR : Holds s8 ⟨r, 0, none⟩ [.slice a3 res.1.voters.length c3, .slice b3 res.1.learners.length d3] := (Holds.of (put_same _ _ _)).le hq8
  have hle28 := hle3.trans (hle4.trans (hle5.trans hle8))
  have j1 := j1.up (RInt.up _) hle8
  have j2 := j2.up (RInt.up _) hle8
  have hcd : RConf s8 [.slice a3 res.1.voters.length c3, .slice b3 res.1.learners.length d3] res.1 := ⟨a3, c3, b3, d3, rfl, j1, j2⟩
  have hH := hH.le hle28
  have i1 := i1.up (RInt.up _) hle28
  have hy := hy.up (RInt.up _) hle28
  have hz := hz.up (RInt.up _) hle28
  have hle := hle.trans hle28
  have hax := hax.trans (hax3.trans (hax6.trans hax7))
  clear hg2 hg3 hg4 hg5 hg6 hg7
  refine CW.seq (CW.seq (CW.plain ?_))
  refine RL.pure rfl rfl rfl rfl ?_
  refine RL.pure rfl rfl rfl rfl ?_
  refine RL.pure rfl rfl rfl rfl ?_
  refine RL.pure rfl rfl rfl rfl ?_
  refine RL.pure rfl rfl rfl rfl ?_
  refine RL.pure rfl rfl rfl rfl ?_
  refine RL.done ?_
  refine CW.cond rfl (fun hne => CW.seq (CW.plain ?_)) (fun hne => CW.skip ?_)
  · refine RL.pure rfl rfl rfl rfl ?_
    refine RL.pure rfl rfl rfl rfl ?_
    refine RL.done ?_
    exact CW.ret (ret (vs := [_]) ⟨_, _, rfl, rfl, rfl⟩ (Post.mk hle hg8.nil hax rfl))
  have he : res.2 = 0 := by simpa using hne
  obtain ⟨hck, hnear⟩ := apply_right (d := res.1) (hap.trans (by rw [← he]))
  have hdf := right_fits hck
  have hdl := hdf
  simp only [Conf.fits] at hdl
  refine CW.seq (CW.seq (CW.plain ?_))
  refine RL.loads (j := 0) (us := [.slice a3 res.1.voters.length c3, .slice b3 res.1.learners.length d3]) rfl rfl rfl rfl ty24 rfl (hR) (hg8.sh) rfl rfl ?_
  refine RL.call rfl rfl rfl rfl rfl ca16 (Check_ct hg8 hcd hdf) ?_
  rintro v9 s9 A9 w9 hle9 hg9 hax9 rfl
  refine ⟨trivial, ?_⟩
  rw [hck]
  refine RL.pure rfl rfl rfl rfl ?_
  refine RL.done ?_
  refine CW.no rfl (CW.skip ?_)
  have hg9 := hg9.drop
  have hR := hR.le hle9
  have hH := hH.le hle9
  have i1 := i1.up (RInt.up _) hle9
  have j1 := j1.up (RInt.up _) hle9
  have hy := hy.up (RInt.up _) hle9
  have hz := hz.up (RInt.up _) hle9
  refine CW.meet (fun E w' => ∃ s', E = [(2, .slice ya ys.length yc), (3, .slice za zs.length zc)] ∧ Good w' s' os ∧ Le s9 s' ∧ Aux w w' ∧ ∃ x, x ∈ ys ∧ x ∈ zs) ?_ ?_
  · refine CW.seq (CW.plain ?_)
    refine RL.field rfl rfl rfl rfl fl24_0 rfl rfl ?_
    refine RL.load (j := 0) rfl rfl rfl rfl ty22 rfl (hH) (hg9.sh) rfl ?_
    refine RL.pure rfl rfl rfl rfl ?_
    refine RL.call rfl rfl rfl rfl rfl ca23 (Has_ct hg9 i1 hy (by omega)) ?_
    rintro v10 s10 A10 w10 hle10 hg10 hax10 rfl
    refine ⟨trivial, ?_⟩
    refine RL.pure rfl rfl rfl rfl ?_
    refine RL.pure rfl rfl rfl rfl ?_
    cases e1 : hasP (uniq c.voters) ys with
    | false =>
      refine RL.pass rfl rfl rfl ?_
      refine RL.pass rfl rfl rfl ?_
      refine RL.pass rfl rfl rfl ?_
      refine RL.pass rfl rfl rfl ?_
      refine RL.pass rfl rfl rfl ?_
      refine RL.pure rfl rfl rfl rfl ?_
      refine RL.done ?_
      refine CW.yes rfl (CW.seq (CW.plain ?_))
      refine RL.pure rfl rfl rfl rfl ?_
      refine RL.done ?_
      exact CW.ret (ret (vs := [_]) ⟨_, _, rfl, rfl, rfl⟩ (Post.mk (hle.trans (hle9.trans hle10)) hg10.drop.nil (hax.trans (hax9.trans hax10)) rfl))
    | true =>
      refine RL.field rfl rfl rfl rfl fl24_0 rfl rfl ?_
      refine RL.load (j := 0) rfl rfl rfl rfl ty22 rfl (hR.le hle10) (hg10.sh) rfl ?_
      refine RL.pure rfl rfl rfl rfl ?_
      refine RL.call rfl rfl rfl rfl rfl ca23 (Has_ct hg10.drop (j1.up (RInt.up _) hle10) (hz.up (RInt.up _) hle10) (by omega)) ?_
      rintro v11 s11 A11 w11 hle11 hg11 hax11 rfl
      refine ⟨trivial, ?_⟩
      refine RL.pure rfl rfl rfl rfl ?_
      cases e2 : hasP (uniq res.1.voters) zs with
      | false =>
        refine RL.pure rfl rfl rfl rfl ?_
        refine RL.done ?_
        refine CW.yes rfl (CW.seq (CW.plain ?_))
        refine RL.pure rfl rfl rfl rfl ?_
        refine RL.done ?_
        exact CW.ret (ret (vs := [_]) ⟨_, _, rfl, rfl, rfl⟩ (Post.mk (hle.trans (hle9.trans (hle10.trans hle11))) hg11.drop.nil (hax.trans (hax9.trans (hax10.trans hax11))) rfl))
      | true =>
        refine RL.pure rfl rfl rfl rfl ?_
        refine RL.done ?_
        refine CW.no rfl (CW.skip ?_)
        exact fun ac ha => ⟨_, ha.sub (E' := [(2, .slice ya ys.length yc), (3, .slice za zs.length zc)]) ⟨rfl, rfl, trivial⟩, s11, rfl, hg11.drop, hle10.trans hle11, hax.trans (hax9.trans (hax10.trans hax11)), near_meets hnear e1 e2⟩
  rintro E w12 ⟨s12, rfl, hg12, hle12, hax12, hmeet⟩
  have hY := hy.up (RInt.up _) hle12
  have hZ := hz.up (RInt.up _) hle12
  have h19 := hle.trans (hle9.trans hle12)
  refine CW.seq (CW.seq (CW.plain ?_))
  refine RL.pure rfl rfl rfl rfl ?_
  refine RL.done ?_
  refine CW.block (CW.loop (σ := Nat) (fun j E w' => Good w' s12 os ∧ Aux w w' ∧ ∃ k : Nat, E = [(2, .slice ya ys.length yc), (3, .slice za zs.length zc), (12, i64 k)] ∧ k + j = ys.length ∧ ∀ x ∈ ys.take k, x ∉ zs)
    (fun j => j) ys.length [(2, .slice ya ys.length yc), (3, .slice za zs.length zc), (12, i64 0)] ⟨rfl, rfl, rfl, trivial⟩ ⟨hg12, hax12, 0, rfl, by omega, by simp⟩ ?_)
  rintro j E w11 ⟨hg11, hax11, k, rfl, hk, hno⟩
  refine CW.seq (CW.seq (CW.plain ?_))
  refine RL.pure rfl rfl rfl rfl ?_
  refine RL.pure rfl rfl rfl rfl ?_
  refine RL.len rfl rfl rfl rfl sl22 rfl ?_
  refine RL.pure rfl rfl rfl rfl ?_
  refine RL.done ?_
  refine CW.test rfl (fun h => ?_) (fun h => ?_)
  · refine CW.skip ?_
    have hkl : k < ys.length := by omega
    refine CW.seq (CW.block (CW.seq (CW.plain ?_)))
    refine RL.pure rfl rfl rfl rfl ?_
    refine RL.done ?_
    refine CW.block (CW.loop (σ := Nat) (fun i E w' => Good w' s12 os ∧ Aux w w' ∧ ∃ n : Nat, E = [(2, .slice ya ys.length yc), (3, .slice za zs.length zc), (12, i64 k), (13, i64 n)] ∧ n + i = zs.length ∧ ys[k] ∉ zs.take n)
      (fun i => i) zs.length [(2, .slice ya ys.length yc), (3, .slice za zs.length zc), (12, i64 k), (13, i64 0)] ⟨rfl, rfl, rfl, rfl, trivial⟩ ⟨hg11, hax11, 0, rfl, by omega, by simp⟩ ?_)
    rintro i E w12 ⟨hg12, hax12, n, rfl, hn, hno2⟩
    refine CW.seq (CW.seq (CW.plain ?_))
    refine RL.pure rfl rfl rfl rfl ?_
    refine RL.pure rfl rfl rfl rfl ?_
    refine RL.len rfl rfl rfl rfl sl22 rfl ?_
    refine RL.pure rfl rfl rfl rfl ?_
    refine RL.done ?_
    refine CW.test rfl (fun hq => ?_) (fun hq => ?_)
    · refine CW.skip ?_
      have hnl : n < zs.length := by omega
      refine CW.seq (CW.block (CW.seq ?_))
      refine CW.draws [(true, 0), (true, 1), (true, 2), (true, 3), (true, 4), (true, 5), (true, 6), (true, 7), (true, 8)] (fun w => Good w s12 os) mixed (by kernel_rfl) (by kernel_rfl) (by kernel_rfl) (by kernel_rfl) (hg12.drew) ?_
      refine RL.pure rfl rfl rfl rfl ?_
      refine RL.pure rfl rfl rfl rfl ?_
      refine RL.idx rfl rfl rfl rfl sl22 rfl rfl (hY) (by omega) (by omega) ?_
      rintro q5 vs5 hvl5 hH5 ⟨rfl, hr5⟩
      refine RL.loadT rfl rfl rfl rfl ty3 rfl (hH5) (fun w h => h.sh) rfl ?_
      refine RL.pure rfl rfl rfl rfl ?_
      refine RL.pure rfl rfl rfl rfl ?_
      refine RL.idx rfl rfl rfl rfl sl22 rfl rfl (hZ) (by omega) (by omega) ?_
      rintro q6 vs6 hvl6 hH6 ⟨rfl, hr6⟩
      refine RL.loadT rfl rfl rfl rfl ty3 rfl (hH6) (fun w h => h.sh) rfl ?_
      refine RL.pure rfl rfl rfl rfl ?_
      refine RL.done ?_
      refine CW.eq rfl (fun he => ?_) (fun he => ?_)
      · refine CW.seq (CW.plain ?_)
        refine RL.pure rfl rfl rfl rfl ?_
        refine RL.done ?_
        exact CW.ret (ret (vs := [_]) ⟨_, _, rfl, rfl, rfl⟩ (Post.mk h19 hg12.drew.nil (hax12.trans (Aux.drew _)) rfl))
      · refine CW.skip ?_
        refine CW.plain ?_
        refine RL.pure rfl rfl rfl rfl ?_
        refine RL.add rfl rfl rfl rfl rfl rfl (by simp only [rng] at *; omega) ?_
        refine RL.pure rfl rfl rfl rfl ?_
        refine RL.done ?_
        cases i with
        | zero => omega
        | succ i =>
          refine fun ac ha => ⟨i, [(2, .slice ya ys.length yc), (3, .slice za zs.length zc), (12, i64 k), (13, i64 ((n : Int) + 1))], ha.sub ⟨rfl, rfl, rfl, rfl, trivial⟩, ⟨hg12.drew, hax12.trans (Aux.drew _), n + 1, rfl, by omega, ?_⟩, Nat.lt_succ_self i⟩
          rw [List.take_succ_eq_append_getElem hnl]
          simp only [List.mem_append, List.mem_singleton, not_or]
          exact ⟨hno2, he⟩
    · have hnl : n = zs.length := by omega
      rw [hnl, List.take_length] at hno2
      refine CW.exit (CW.plain ?_)
      refine RL.pure rfl rfl rfl rfl ?_
      refine RL.add rfl rfl rfl rfl rfl rfl (by simp only [rng] at *; omega) ?_
      refine RL.pure rfl rfl rfl rfl ?_
      refine RL.done ?_
      cases j with
      | zero => omega
      | succ j =>
        refine fun ac ha => ⟨j, [(2, .slice ya ys.length yc), (3, .slice za zs.length zc), (12, i64 ((k : Int) + 1))], ha.sub ⟨rfl, rfl, rfl, trivial⟩, ⟨hg12, hax12, k + 1, rfl, by omega, ?_⟩, Nat.lt_succ_self j⟩
        rw [List.take_succ_eq_append_getElem hkl]
        intro x hx
        rcases List.mem_append.1 hx with hx | hx
        · exact hno x hx
        · rw [List.mem_singleton] at hx; subst hx; exact hno2
  · have hkl : k = ys.length := by omega
    rw [hkl, List.take_length] at hno
    obtain ⟨x, h1, h2⟩ := hmeet
    exact absurd h2 (hno x h1)
end Go.Lw
