/-
  Configurations: the law RaftconfTells, walked.
-/
import Derived.Test.YthafkinbocdjlaaRcG
namespace Go.Lw
open Go.Proofs

set_option maxHeartbeats 1000000 in
set_option maxRecDepth 100000 in
theorem RaftconfTells_ct {w : World} {s : Res} {os : List Res} {vs : List Value} {c : Conf} {ns : List Int} {na : Option Addr} {nc : Nat} (hg : Good w s os) (hc : RConf s vs c) (hn : Ints s na nc ns) (hb : c.fits) :
    Calls Try.prog 6 #[.agg vs.toArray, .slice na ns.length nc] w (Post w s os fun _ _ r => r = .bool true) := by
  have hc0 := hc
  have hbl := hb
  simp only [Conf.fits] at hbl
  have hll := hn.le_max
  simp only [maxLen] at hll
  obtain ⟨a, ac, b, bc, rfl, i1, i2⟩ := hc
  refine enter (l := [.agg #[.slice a c.voters.length ac, .slice b c.learners.length bc], .slice na ns.length nc]) Try.func6 rfl Try.ntmps6 rfl ?_
  refine CW.seq (CW.plain ?_)
  refine RL.box rfl rfl rfl rfl rfl hg ?_
  rintro p w0 hg0 hax0
  refine ⟨trivial, ?_⟩
  refine RL.pure rfl rfl rfl rfl ?_
  refine RL.done ?_
  obtain ⟨s0, hg0, hle0, hq0⟩ := Good.letgo hg0
  have hH : Holds s0 ⟨p, 0, none⟩ [.slice a c.voters.length ac, .slice b c.learners.length bc] := (Holds.one p _ _).le hq0
  refine CW.seq (CW.plain ?_)
  refine RL.call rfl rfl rfl rfl rfl ca8 (head8_ct hg0) ?_
  rintro v1 s1 A1 w1 hle1 hg1 hax1 rfl
  refine ⟨trivial, ?_⟩
  refine RL.pure rfl rfl rfl rfl ?_
  refine RL.done ?_
  have hg1 := hg1.drop
  have hH := hH.le hle1
  have hc1 := RConf.up _ _ _ _ (hle0.trans hle1) hc0
  refine CW.meet (fun E w' => E = [(1, .slice na ns.length nc), (2, ptr p), (5, .bool true)] ∧ w' = w1) ?_ ?_
  · refine CW.seq (CW.plain ?_)
    refine RL.field rfl rfl rfl rfl fl24_0 rfl rfl ?_
    refine RL.load (j := 0) rfl rfl rfl rfl ty22 rfl (hH) (hg1.sh) rfl ?_
    refine RL.len rfl rfl rfl rfl sl22 rfl ?_
    refine RL.field rfl rfl rfl rfl fl24_1 rfl rfl ?_
    refine RL.load (j := 1) rfl rfl rfl rfl ty22 rfl (hH) (hg1.sh) rfl ?_
    refine RL.len rfl rfl rfl rfl sl22 rfl ?_
    refine RL.add rfl rfl rfl rfl rfl rfl (by simp only [rng] at *; omega) ?_
    refine RL.pure rfl rfl rfl rfl ?_
    refine RL.pure rfl rfl rfl rfl ?_
    refine RL.part 20 rfl (fun h1 => ?_) (fun h1 => ?_)
    · refine RL.pass rfl rfl rfl ?_
      refine RL.pass rfl rfl rfl ?_
      refine RL.pass rfl rfl rfl ?_
      refine RL.pure rfl rfl rfl rfl ?_
      refine RL.done ?_
      refine CW.yes rfl (CW.seq (CW.plain ?_))
      refine RL.pure rfl rfl rfl rfl ?_
      refine RL.pure rfl rfl rfl rfl ?_
      refine RL.done ?_
      exact CW.ret (ret (vs := [_]) ⟨_, _, rfl, rfl, rfl⟩ (Post.mk (hle0.trans hle1) hg1.nil (hax0.trans hax1) rfl))
    · refine RL.pure rfl rfl rfl rfl ?_
      refine RL.len rfl rfl rfl rfl sl22 rfl ?_
      refine RL.pure rfl rfl rfl rfl ?_
      refine RL.pure rfl rfl rfl rfl ?_
      refine RL.done ?_
      refine CW.cond rfl (fun h2 => CW.seq (CW.plain ?_)) (fun h2 => CW.skip ?_)
      · refine RL.pure rfl rfl rfl rfl ?_
        refine RL.pure rfl rfl rfl rfl ?_
        refine RL.done ?_
        exact CW.ret (ret (vs := [_]) ⟨_, _, rfl, rfl, rfl⟩ (Post.mk (hle0.trans hle1) hg1.nil (hax0.trans hax1) rfl))
      · exact fun ac ha => ⟨_, ha.sub (E' := [(1, .slice na ns.length nc), (2, ptr p), (5, .bool true)]) ⟨rfl, rfl, rfl, trivial⟩, rfl, rfl⟩
  rintro E w' ⟨rfl, rfl⟩
  refine CW.seq (CW.plain ?_)
  refine RL.loads (j := 0) (us := [.slice a c.voters.length ac, .slice b c.learners.length bc]) rfl rfl rfl rfl ty24 rfl (hH) (hg1.sh) rfl rfl ?_
  refine RL.call rfl rfl rfl rfl rfl ca9 (CloneConf_ct hg1 hc1 hb) ?_
  rintro v2 s2 A2 w2 hle2 hg2 hax2 ⟨us2, rfl, hu2⟩
  refine ⟨trivial, ?_⟩
  obtain ⟨xa, xac, xb, xbc, rfl, x1, x2⟩ := id hu2
  refine RL.alloc rfl rfl rfl rfl ze24 hg2.drop ?_
  rintro q w3 hg3 hax3
  refine ⟨trivial, ?_⟩
  refine RL.store (i := 0) (j := 0) rfl rfl rfl ty24 rfl rfl hg3 rfl (if_pos rfl) rfl (by first | (simp [Value.cells, Value.oneCell']; done) | simp [Value.cells, Value.oneCell', putL]) (by first | exact Nat.le_of_ble_eq_true rfl | (simp; done) | (simp; omega) | omega) ?_
  rintro w4 hg4 hax4
  refine ⟨trivial, ?_⟩
  refine RL.done ?_
  obtain ⟨s5, hg5, hle5, hq5⟩ := Good.letgo hg4
  have hQ : Holds s5 ⟨q, 0, none⟩ [.slice xa c.voters.length xac, .slice xb c.learners.length xbc] := (Holds.of (put_same _ _ _)).le hq5
  have hle := hle0.trans (hle1.trans (hle2.trans hle5))
  have hx5 := hax0.trans (hax1.trans (hax2.trans (hax3.trans hax4)))
  have hH := hH.le (hle2.trans hle5)
  have hcp := RConf.up _ _ _ _ hle hc0
  have hcq := RConf.up _ _ _ _ hle5 hu2
  have hn := hn.up (RInt.up _) hle
  clear hg0 hg1 hg2 hg3 hg4
  have hgD := hg5.drew
  refine CW.seq (CW.seq ?_)
  refine CW.draws [(true, 0), (true, 2), (false, 1), (false, 3), (true, 4)] (fun w => In s5 w) mixed (by kernel_rfl) (by kernel_rfl) (by kernel_rfl) (by kernel_rfl) (hgD.sh) ?_
  refine RL.loadsT (j := 0) (us := [.slice xa c.voters.length xac, .slice xb c.learners.length xbc]) rfl rfl rfl rfl ty24 rfl (hQ) (fun w h => h) rfl rfl ?_
  refine RL.loadsT (j := 0) (us := [.slice a c.voters.length ac, .slice b c.learners.length bc]) rfl rfl rfl rfl ty24 rfl (hH) (fun w h => h) rfl rfl ?_
  refine RL.call rfl rfl rfl rfl rfl ca16 (Check_ct hgD hcq hb) ?_
  rintro v6 s6 A6 w6 hle6 hg6 hax6 rfl
  refine ⟨hg6.sh.le hle6, ?_⟩
  refine RL.call rfl rfl rfl rfl rfl ca17 (rCheck_ct hg6.drop (RConf.up _ _ _ _ hle6 hcp) hb) ?_
  rintro v7 s7 A7 w7 hle7 hg7 hax7 rfl
  refine ⟨hg7.sh.le (hle6.trans hle7), ?_⟩
  refine RL.as_ rfl rfl rfl rfl (.bool false) ((by show Value.bool (_ != _) = _; simp)) ?_
  refine RL.done ?_
  refine CW.no rfl (CW.skip ?_)
  have hg8 := hg7.drop
  have hle8 := hle6.trans hle7
  have hx8 := hx5.trans ((Aux.drew _).trans (hax6.trans hax7))
  have hQ := hQ.le hle8
  have hH := hH.le hle8
  have hcp := RConf.up _ _ _ _ hle8 hcp
  have hcq := RConf.up _ _ _ _ hle8 hcq
  have hn := hn.up (RInt.up _) hle8
  have hle := hle.trans hle8
  clear hg5 hg6 hg7 hgD
  refine CW.seq (CW.seq (CW.plain ?_))
  refine RL.pure rfl rfl rfl rfl ?_
  refine RL.done ?_
  refine CW.block (CW.loop (σ := Nat) (fun j E w' => ∃ s', ∃ k : Nat, E = [(1, .slice na ns.length nc), (2, ptr p), (5, .bool true), (6, ptr q), (7, i64 k)] ∧ Good w' s' os ∧ Le s7 s' ∧ Aux w w' ∧ k + j = ns.length)
    (fun j => j) ns.length [(1, .slice na ns.length nc), (2, ptr p), (5, .bool true), (6, ptr q), (7, i64 0)] ⟨rfl, rfl, rfl, rfl, rfl, trivial⟩ ⟨s7, 0, rfl, hg8, Le.refl _, hx8, by omega⟩ ?_)
  rintro j E w6 ⟨s6, k, rfl, hg6, hle6, hx6, hk⟩
  have hQ6 := hQ.le hle6
  have hH6 := hH.le hle6
  have hcq6 := RConf.up _ _ _ _ hle6 hcq
  have hcp6 := RConf.up _ _ _ _ hle6 hcp
  have hn6 := hn.up (RInt.up _) hle6
  refine CW.seq (CW.seq (CW.plain ?_))
  refine RL.pure rfl rfl rfl rfl ?_
  refine RL.pure rfl rfl rfl rfl ?_
  refine RL.len rfl rfl rfl rfl sl22 rfl ?_
  refine RL.pure rfl rfl rfl rfl ?_
  refine RL.done ?_
  refine CW.test rfl (fun h => CW.skip ?_) (fun h => CW.exit ?_)
  · have hkl : k < ns.length := by omega
    have ek : ns[((k : Nat) : Int).toNat]'(by omega) = ns[k] := by simp
    have hgD := hg6.drew
    refine CW.seq (CW.block (CW.seq ?_))
    refine CW.draws [(true, 0), (true, 1), (true, 2), (true, 3), (true, 4), (false, 5), (false, 6)] (fun w => In s6 w) mixed (by kernel_rfl) (by kernel_rfl) (by kernel_rfl) (by kernel_rfl) (hgD.sh) ?_
    refine RL.loadsT (j := 0) (us := [.slice xa c.voters.length xac, .slice xb c.learners.length xbc]) rfl rfl rfl rfl ty24 rfl (hQ6) (fun w h => h) rfl rfl ?_
    refine RL.pure rfl rfl rfl rfl ?_
    refine RL.pure rfl rfl rfl rfl ?_
    refine RL.idx rfl rfl rfl rfl sl22 rfl rfl (hn6) (by omega) ((by omega)) ?_
    rintro qe vse hvle hHe ⟨rfl, hr⟩
    refine RL.loadT rfl rfl rfl rfl ty3 rfl (hHe) (fun w h => h) rfl ?_
    rw [ek]
    refine RL.call rfl rfl rfl rfl rfl ca18 (Others_ct hgD hcq6 hb) ?_
    rintro v7 s7 A7 w7 hle7 hg7 hax7 ⟨a7, c7, rfl, ho7⟩
    refine ⟨hg7.sh.le hle7, ?_⟩
    refine RL.pure rfl rfl rfl rfl ?_
    refine RL.done ?_
    have hgD2 := hg7.drew
    have hH7 := hH6.le hle7
    have hn7 := hn6.up (RInt.up _) hle7
    have hcp7 := RConf.up _ _ _ _ hle7 hcp6
    refine CW.seq ?_
    refine CW.draws [(true, 0), (true, 1), (true, 2), (true, 3), (true, 4), (false, 5), (false, 6)] (fun w => In s7 w) mixed (by kernel_rfl) (by kernel_rfl) (by kernel_rfl) (by kernel_rfl) (hgD2.sh) ?_
    refine RL.loadsT (j := 0) (us := [.slice a c.voters.length ac, .slice b c.learners.length bc]) rfl rfl rfl rfl ty24 rfl (hH7) (fun w h => h) rfl rfl ?_
    refine RL.pure rfl rfl rfl rfl ?_
    refine RL.pure rfl rfl rfl rfl ?_
    refine RL.idx rfl rfl rfl rfl sl22 rfl rfl (hn7) (by omega) ((by omega)) ?_
    rintro qe vse hvle hHe ⟨rfl, hr⟩
    refine RL.loadT rfl rfl rfl rfl ty3 rfl (hHe) (fun w h => h) rfl ?_
    rw [ek]
    refine RL.call rfl rfl rfl rfl rfl ca19 (rOthers_ct hgD2 hcp7 hb) ?_
    rintro v8 s8 A8 w8 hle8 hg8 hax8 ⟨a8, c8, rfl, ho8⟩
    refine ⟨hg8.sh.le hle8, ?_⟩
    refine RL.pure rfl rfl rfl rfl ?_
    refine RL.done ?_
    have hg9 := hg8.drop
    have hgD3 := hg9.drew
    have hle78 := hle7.trans hle8
    have hQ8 := hQ6.le hle78
    have hH8 := hH6.le hle78
    have hn8 := hn6.up (RInt.up _) hle78
    have hcp8 := RConf.up _ _ _ _ hle78 hcp6
    have hcq8 := RConf.up _ _ _ _ hle78 hcq6
    have j1 : Ints s8 a ac c.voters := i1.up (RInt.up _) (hle.trans (hle6.trans hle78))
    have j2 : Ints s8 b bc c.learners := i2.up (RInt.up _) (hle.trans (hle6.trans hle78))
    have ho7 := ho7.up (RInt.up _) hle8
    refine CW.seq (CW.seq ?_)
    refine CW.draws [(true, 0), (true, 1), (true, 2), (true, 3), (true, 4), (true, 6), (true, 7), (true, 8), (true, 9), (true, 10), (true, 11), (false, 5), (false, 12), (true, 13), (true, 14), (true, 15), (true, 16), (true, 17), (true, 18), (true, 19), (true, 21), (true, 22), (true, 23), (true, 24), (true, 25), (true, 26), (false, 20), (false, 27), (true, 28), (true, 29), (true, 30), (true, 31), (true, 32), (true, 33), (true, 34), (true, 35), (true, 36)] (fun w => In s8 w) mixed (by kernel_rfl) (by kernel_rfl) (by kernel_rfl) (by kernel_rfl) (hgD3.sh) ?_
    refine RL.loadsT (j := 0) (us := [.slice xa c.voters.length xac, .slice xb c.learners.length xbc]) rfl rfl rfl rfl ty24 rfl (hQ8) (fun w h => h) rfl rfl ?_
    refine RL.pure rfl rfl rfl rfl ?_
    refine RL.pure rfl rfl rfl rfl ?_
    refine RL.idx rfl rfl rfl rfl sl22 rfl rfl (hn8) (by omega) ((by omega)) ?_
    rintro q1 vs1 hv1 hH1 ⟨rfl, hr1⟩
    refine RL.loadT rfl rfl rfl rfl ty3 rfl (hH1) (fun w h => h) rfl ?_
    refine RL.field rfl rfl rfl rfl fl24_0 rfl rfl ?_
    refine RL.loadT (j := 0) rfl rfl rfl rfl ty22 rfl (hH8) (fun w h => h) rfl ?_
    refine RL.pure rfl rfl rfl rfl ?_
    refine RL.pure rfl rfl rfl rfl ?_
    refine RL.idx rfl rfl rfl rfl sl22 rfl rfl (hn8) (by omega) ((by omega)) ?_
    rintro q2 vs2 hv2 hH2 ⟨rfl, hr2⟩
    refine RL.loadT rfl rfl rfl rfl ty3 rfl (hH2) (fun w h => h) rfl ?_
    rw [ek]
    refine RL.callV rfl rfl rfl rfl rfl ca20 (Votes_ct hgD3 hcq8) ?_
    rintro v9 w9 hg9 hax9 rfl
    refine ⟨hg9.sh, ?_⟩
    refine RL.callV rfl rfl rfl rfl rfl ca21 (rIn_ct hg9 j1) ?_
    rintro v10 w10 hg10 hax10 rfl
    refine ⟨hg10.sh, ?_⟩
    refine RL.bNe rfl rfl rfl rfl Try.underlying4 rfl rfl ?_
    rw [bne_self_eq_false]
    refine RL.pure rfl rfl rfl rfl ?_
    refine RL.loadsT (j := 0) (us := [.slice xa c.voters.length xac, .slice xb c.learners.length xbc]) rfl rfl rfl rfl ty24 rfl (hQ8) (fun w h => h) rfl rfl ?_
    refine RL.pure rfl rfl rfl rfl ?_
    refine RL.pure rfl rfl rfl rfl ?_
    refine RL.idx rfl rfl rfl rfl sl22 rfl rfl (hn8) (by omega) ((by omega)) ?_
    rintro q3 vs3 hv3 hH3 ⟨rfl, hr3⟩
    refine RL.loadT rfl rfl rfl rfl ty3 rfl (hH3) (fun w h => h) rfl ?_
    refine RL.field rfl rfl rfl rfl fl24_1 rfl rfl ?_
    refine RL.loadT (j := 1) rfl rfl rfl rfl ty22 rfl (hH8) (fun w h => h) rfl ?_
    refine RL.pure rfl rfl rfl rfl ?_
    refine RL.pure rfl rfl rfl rfl ?_
    refine RL.idx rfl rfl rfl rfl sl22 rfl rfl (hn8) (by omega) ((by omega)) ?_
    rintro q4 vs4 hv4 hH4 ⟨rfl, hr4⟩
    refine RL.loadT rfl rfl rfl rfl ty3 rfl (hH4) (fun w h => h) rfl ?_
    rw [ek]
    refine RL.callV rfl rfl rfl rfl rfl ca22 (Learns_ct hg10 hcq8) ?_
    rintro v11 w11 hg11 hax11 rfl
    refine ⟨hg11.sh, ?_⟩
    refine RL.callV rfl rfl rfl rfl rfl ca21 (rIn_ct hg11 j2) ?_
    rintro v12 w12 hg12 hax12 rfl
    refine ⟨hg12.sh, ?_⟩
    refine RL.bNe rfl rfl rfl rfl Try.underlying4 rfl rfl ?_
    rw [bne_self_eq_false]
    refine RL.pure rfl rfl rfl rfl ?_
    refine RL.pure rfl rfl rfl rfl ?_
    refine RL.pure rfl rfl rfl rfl ?_
    refine RL.len rfl rfl rfl rfl sl22 rfl ?_
    refine RL.pure rfl rfl rfl rfl ?_
    refine RL.len rfl rfl rfl rfl sl22 rfl ?_
    refine RL.as_ rfl rfl rfl rfl (.bool false) ((by show Value.bool (_ != _) = _; simp)) ?_
    refine RL.pure rfl rfl rfl rfl ?_
    refine RL.done ?_
    refine CW.no rfl (CW.skip ?_)
    have hx12 := hx6.trans ((Aux.drew _).trans (hax7.trans ((Aux.drew _).trans (hax8.trans ((Aux.drew _).trans (hax9.trans (hax10.trans (hax11.trans hax12))))))))
    clear hgD hgD2 hgD3 hg7 hg8 hg9 hg10 hg11
    generalize othersP c ns[k] = ys at *
    have hly := ho7.le_max
    simp only [maxLen] at hly
    refine CW.seq (CW.plain ?_)
    refine RL.pure rfl rfl rfl rfl ?_
    refine RL.done ?_
    refine CW.block (CW.loop (σ := Nat) (fun i E w' => ∃ A' zs, ∃ m : Nat, E = [(1, .slice na ns.length nc), (2, ptr p), (5, .bool true), (6, ptr q), (7, i64 k), (8, .slice a7 ys.length c7), (9, .slice a8 ys.length c8), (10, i64 m)] ∧ Good w' s8 (A' :: os) ∧ Aux w w' ∧ OwnI s8 A' a7 c7 zs ∧ zs.length = ys.length ∧ m + i = ys.length ∧ ∀ j, m ≤ j → zs[j]? = ys[j]?)
      (fun i => i) ys.length [(1, .slice na ns.length nc), (2, ptr p), (5, .bool true), (6, ptr q), (7, i64 k), (8, .slice a7 ys.length c7), (9, .slice a8 ys.length c8), (10, i64 0)] ⟨rfl, rfl, rfl, rfl, rfl, rfl, rfl, rfl, trivial⟩ ⟨A7, ys, 0, rfl, hg12, hx12, ho7, rfl, by omega, fun _ _ => rfl⟩ ?_)
    rintro i E w13 ⟨A13, zs, m, rfl, hg13, hx13, hz, hzl, hm, hsame⟩
    have hcap := hz.le_cap
    refine CW.seq (CW.seq (CW.plain ?_))
    refine RL.pure rfl rfl rfl rfl ?_
    refine RL.pure rfl rfl rfl rfl ?_
    refine RL.len rfl rfl rfl rfl sl22 rfl ?_
    refine RL.pure rfl rfl rfl rfl ?_
    refine RL.done ?_
    refine CW.test rfl (fun h => CW.skip ?_) (fun h => CW.exit ?_)
    · have hml : m < ys.length := by omega
      have hsl : some (Value.slice a7 ys.length c7) = some (Value.slice a7 zs.length c7) := by rw [hzl]
      have hzy : zs[((m : Nat) : Int).toNat]'(by omega) = ys[((m : Nat) : Int).toNat]'(by omega) := by
        have h1 := hsame m (Nat.le_refl _)
        rw [List.getElem?_eq_getElem (by omega), List.getElem?_eq_getElem hml] at h1
        simpa using h1
      obtain ⟨m1, m2, m3, m4⟩ := hg13.lend
      have hI : Ints (s8.join A13) a7 c7 zs := hz.imm (RInt.up _) m2 m3
      have hJ : Ints (s8.join A13) a8 c8 ys := ho8.up (RInt.up _) m2
      refine CW.seq (CW.block (CW.seq (CW.seq ?_)))
      refine CW.draws [(true, 0), (true, 1), (true, 2), (true, 3), (true, 4), (true, 5), (true, 6), (true, 7), (true, 8)] (fun w => Good w (s8.join A13) os) mixed (by kernel_rfl) (by kernel_rfl) (by kernel_rfl) (by kernel_rfl) (m1.drew) ?_
      refine RL.pure rfl rfl rfl rfl ?_
      refine RL.pure rfl rfl rfl rfl ?_
      refine RL.idx rfl rfl rfl rfl sl22 hsl rfl hI (by omega) (by omega) ?_
      rintro q1 vs1 hv1 hH1 ⟨rfl, hr1⟩
      refine RL.loadT rfl rfl rfl rfl ty3 rfl (hH1) (fun w h => h.sh) rfl ?_
      refine RL.pure rfl rfl rfl rfl ?_
      refine RL.pure rfl rfl rfl rfl ?_
      refine RL.idx rfl rfl rfl rfl sl22 rfl rfl (hJ) (by omega) ((by omega)) ?_
      rintro q2 vs2 hv2 hH2 ⟨rfl, hr2⟩
      refine RL.loadT rfl rfl rfl rfl ty3 rfl (hH2) (fun w h => h.sh) rfl ?_
      rw [hzy]
      refine RL.as_ rfl rfl rfl rfl (.bool false) ((by show Value.bool (_ != _) = _; simp)) ?_
      refine RL.done ?_
      have hg14 := m4 _ m1.drew
      refine CW.no rfl (CW.skip (CW.plain ?_))
      refine RL.pure rfl rfl rfl rfl ?_
      refine RL.pure rfl rfl rfl rfl ?_
      refine RL.idxOwn rfl rfl rfl rfl sl22 hsl rfl hz (by omega) (by omega) ?_
      rintro g' cs' vs' hb' hC' hcs' hvl' hcell' _
      refine RL.store (i := 0) rfl rfl rfl ty3 rfl rfl hg14 rfl (hC') rfl (by first | (simp [Value.cells, Value.oneCell']; done) | simp [Value.cells, Value.oneCell', putL]) (by first | exact Nat.le_of_ble_eq_true rfl | (simp; done) | (simp; omega) | omega) ?_
      rintro w15 hg15 hax15
      refine ⟨trivial, ?_⟩
      refine RL.done ?_
      have hset := Own.set (x := 99) (vs := [i64 99]) (hb' ▸ hz) hC' (show m < zs.length by omega) rfl ⟨rfl, by simp [rng]⟩
      refine CW.plain ?_
      refine RL.pure rfl rfl rfl rfl ?_
      refine RL.add rfl rfl rfl rfl rfl rfl (by simp only [rng] at *; omega) ?_
      refine RL.pure rfl rfl rfl rfl ?_
      refine RL.done ?_
      cases i with
      | zero => omega
      | succ i => exact fun ac ha => ⟨i, [(1, .slice na ns.length nc), (2, ptr p), (5, .bool true), (6, ptr q), (7, i64 k), (8, .slice a7 ys.length c7), (9, .slice a8 ys.length c8), (10, i64 ((m + 1 : Nat) : Int))], ha.sub ⟨rfl, rfl, rfl, rfl, rfl, rfl, rfl, rfl, trivial⟩, ⟨_, zs.set m 99, m + 1, rfl, hg15, hx13.trans ((Aux.drew _).trans hax15), hb' ▸ hset, by simp [hzl], by omega, fun j hj => by rw [List.getElem?_set_ne (by omega)]; exact hsame j (by omega)⟩, Nat.lt_succ_self i⟩
    · refine CW.plain ?_
      refine RL.pure rfl rfl rfl rfl ?_
      refine RL.add rfl rfl rfl rfl rfl rfl (by simp only [rng] at *; omega) ?_
      refine RL.pure rfl rfl rfl rfl ?_
      refine RL.done ?_
      cases j with
      | zero => omega
      | succ j => exact fun ac ha => ⟨j, [(1, .slice na ns.length nc), (2, ptr p), (5, .bool true), (6, ptr q), (7, i64 ((k + 1 : Nat) : Int))], ha.sub ⟨rfl, rfl, rfl, rfl, rfl, trivial⟩, ⟨s8, k + 1, rfl, hg13.drop, hle6.trans hle78, hx13, by omega⟩, Nat.lt_succ_self j⟩
  · have hd2 : decide (c = c) = true := decide_eq_true rfl
    refine CW.seq (CW.plain ?_)
    refine RL.pure rfl rfl rfl rfl ?_
    refine RL.pure rfl rfl rfl rfl ?_
    refine RL.loads (j := 0) (us := [.slice xa c.voters.length xac, .slice xb c.learners.length xbc]) rfl rfl rfl rfl ty24 rfl (hQ6) (hg6.sh) rfl rfl ?_
    refine RL.loads (j := 0) (us := [.slice a c.voters.length ac, .slice b c.learners.length bc]) rfl rfl rfl rfl ty24 rfl (hH6) (hg6.sh) rfl rfl ?_
    refine RL.callV rfl rfl rfl rfl rfl ca12 (SameConf6_ct hg6 hcq6 hcp6) ?_
    rintro v7 w7 hg7 hax7 rfl
    refine ⟨trivial, ?_⟩
    rw [hd2]
    refine RL.pure rfl rfl rfl rfl ?_
    refine RL.pure rfl rfl rfl rfl ?_
    refine RL.done ?_
    exact CW.ret (ret (vs := [_]) ⟨_, _, rfl, rfl, rfl⟩ (Post.mk (hle.trans hle6) hg7.nil (hx6.trans hax7) rfl))
end Go.Lw
