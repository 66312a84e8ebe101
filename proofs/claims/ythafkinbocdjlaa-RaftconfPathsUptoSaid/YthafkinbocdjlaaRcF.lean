/-
  Configurations: the law RaftconfApplies, walked.
-/
import Derived.Test.YthafkinbocdjlaaRcE
namespace Go.Lw
open Go.Proofs

/-! ### what is spoilt -/
set_option maxRecDepth 100000 in
theorem spoil_ct {w : World} {s A B : Res} {os : List Res} {xs ys : List Int} {a b : Option Addr} {c d : Nat} (hg : Good w s (A :: B :: os)) (hx : OwnI s A a c xs) (hy : OwnI s B b d ys) :
    Calls Try.prog 13 #[.agg #[.slice a xs.length c, .slice b ys.length d]] w (Post w s os fun _ _ r => r = .tuple #[]) := by
  have hlx := hx.le_max
  have hly := hy.le_max
  simp only [maxLen] at hlx hly
  refine enter (l := [.agg #[.slice a xs.length c, .slice b ys.length d]]) Try.func13 rfl Try.ntmps13 rfl ?_
  refine CW.seq (CW.plain ?_)
  refine RL.box rfl rfl rfl rfl rfl hg ?_
  rintro p w0 hg0 hax0
  refine ⟨trivial, ?_⟩
  refine RL.done ?_
  obtain ⟨s1, hg0, hle1, hq1⟩ := Good.letgo hg0
  have hH : Holds s1 ⟨p, 0, none⟩ [.slice a xs.length c, .slice b ys.length d] := (Holds.one p _ _).le hq1
  have hx := hx.up (RInt.up _) hle1
  have hy := hy.up (RInt.up _) hle1
  refine CW.meet (fun E w' => ∃ A', E = [(1, ptr p)] ∧ Good w' s1 (A' :: B :: os) ∧ Aux w w') ?_ ?_
  · refine CW.seq (CW.plain ?_)
    refine RL.pure rfl rfl rfl rfl ?_
    refine RL.done ?_
    refine CW.block (CW.loop (σ := Nat) (fun j E w' => ∃ A' zs, ∃ k : Nat, E = [(1, ptr p), (2, i64 k)] ∧ Good w' s1 (A' :: B :: os) ∧ Aux w w' ∧ OwnI s1 A' a c zs ∧ zs.length = xs.length ∧ k + j = xs.length)
      (fun j => j) xs.length [(1, ptr p), (2, i64 0)] ⟨rfl, rfl, trivial⟩ ⟨A, xs, 0, rfl, hg0, hax0, hx, rfl, by omega⟩ ?_)
    rintro j E w1 ⟨A1, zs, k, rfl, hg1, hax1, hz, hzl, hk⟩
    have hcap := hz.le_cap
    refine CW.seq (CW.seq (CW.plain ?_))
    refine RL.pure rfl rfl rfl rfl ?_
    refine RL.field rfl rfl rfl rfl fl24_0 rfl rfl ?_
    refine RL.load (j := 0) rfl rfl rfl rfl ty22 rfl (hH) (hg1.sh) rfl ?_
    refine RL.len rfl rfl rfl rfl sl22 rfl ?_
    refine RL.pure rfl rfl rfl rfl ?_
    refine RL.done ?_
    refine CW.test rfl (fun h => CW.skip ?_) (fun h => CW.exit ?_)
    · have hkl : k < xs.length := by omega
      have hsl : some (Value.slice a xs.length c) = some (Value.slice a zs.length c) := by rw [hzl]
      refine CW.seq (CW.block (CW.plain ?_))
      refine RL.field rfl rfl rfl rfl fl24_0 rfl rfl ?_
      refine RL.load (j := 0) rfl rfl rfl rfl ty22 rfl (hH) (hg1.sh) rfl ?_
      refine RL.pure rfl rfl rfl rfl ?_
      refine RL.idxOwn rfl rfl rfl rfl sl22 hsl rfl hz (by omega) (by omega) ?_
      rintro g' cs' vs' hb' hC' hcs' hvl' hcell' _
      refine RL.store (i := 0) rfl rfl rfl ty3 rfl rfl hg1 rfl (hC') rfl (by first | (simp [Value.cells, Value.oneCell']; done) | simp [Value.cells, Value.oneCell', putL]) (by first | exact Nat.le_of_ble_eq_true rfl | (simp; done) | (simp; omega) | omega) ?_
      rintro w4 hg4 hax4
      refine ⟨trivial, ?_⟩
      refine RL.done ?_
      have hset := Own.set (x := 99) (vs := [i64 99]) (hb' ▸ hz) hC' (show k < zs.length by omega) rfl ⟨rfl, by simp [rng]⟩
      refine CW.plain ?_
      refine RL.pure rfl rfl rfl rfl ?_
      refine RL.add rfl rfl rfl rfl rfl rfl (by simp only [rng] at *; omega) ?_
      refine RL.pure rfl rfl rfl rfl ?_
      refine RL.done ?_
      cases j with
      | zero => omega
      | succ j => exact fun ac ha => ⟨j, [(1, ptr p), (2, i64 ((k : Int) + 1))], ha.sub ⟨rfl, rfl, trivial⟩, ⟨_, zs.set k 99, k + 1, rfl, hg4, hax1.trans hax4, hb' ▸ hset, by simp [hzl], by omega⟩, Nat.lt_succ_self j⟩
    · exact fun ac ha => ⟨[(1, ptr p)], ha.sub ⟨rfl, trivial⟩, A1, rfl, hg1, hax1⟩
  rintro E w5 ⟨A5, rfl, hg5, hax5⟩
  have hg5 := hg5.swap
  refine CW.seq (CW.plain ?_)
  refine RL.pure rfl rfl rfl rfl ?_
  refine RL.done ?_
  refine CW.block (CW.loop (σ := Nat) (fun j E w' => ∃ B' zs, ∃ k : Nat, E = [(1, ptr p), (3, i64 k)] ∧ Good w' s1 (B' :: A5 :: os) ∧ Aux w w' ∧ OwnI s1 B' b d zs ∧ zs.length = ys.length ∧ k + j = ys.length)
    (fun j => j) ys.length [(1, ptr p), (3, i64 0)] ⟨rfl, rfl, trivial⟩ ⟨B, ys, 0, rfl, hg5, hax5, hy, rfl, by omega⟩ ?_)
  rintro j E w1 ⟨A1, zs, k, rfl, hg1, hax1, hz, hzl, hk⟩
  have hcap := hz.le_cap
  refine CW.seq (CW.seq (CW.plain ?_))
  refine RL.pure rfl rfl rfl rfl ?_
  refine RL.field rfl rfl rfl rfl fl24_1 rfl rfl ?_
  refine RL.load (j := 1) rfl rfl rfl rfl ty22 rfl (hH) (hg1.sh) rfl ?_
  refine RL.len rfl rfl rfl rfl sl22 rfl ?_
  refine RL.pure rfl rfl rfl rfl ?_
  refine RL.done ?_
  refine CW.test rfl (fun h => CW.skip ?_) (fun h => CW.exit ?_)
  · have hkl : k < ys.length := by omega
    have hsl : some (Value.slice b ys.length d) = some (Value.slice b zs.length d) := by rw [hzl]
    refine CW.seq (CW.block (CW.plain ?_))
    refine RL.field rfl rfl rfl rfl fl24_1 rfl rfl ?_
    refine RL.load (j := 1) rfl rfl rfl rfl ty22 rfl (hH) (hg1.sh) rfl ?_
    refine RL.pure rfl rfl rfl rfl ?_
    refine RL.idxOwn rfl rfl rfl rfl sl22 hsl rfl hz (by omega) (by omega) ?_
    rintro g' cs' vs' hb' hC' hcs' hvl' hcell' _
    refine RL.store (i := 0) rfl rfl rfl ty3 rfl rfl hg1 rfl (hC') rfl (by first | (simp [Value.cells, Value.oneCell']; done) | simp [Value.cells, Value.oneCell', putL]) (by first | exact Nat.le_of_ble_eq_true rfl | (simp; done) | (simp; omega) | omega) ?_
    rintro w4 hg4 hax4
    refine ⟨trivial, ?_⟩
    refine RL.done ?_
    have hset := Own.set (x := 99) (vs := [i64 99]) (hb' ▸ hz) hC' (show k < zs.length by omega) rfl ⟨rfl, by simp [rng]⟩
    refine CW.plain ?_
    refine RL.pure rfl rfl rfl rfl ?_
    refine RL.add rfl rfl rfl rfl rfl rfl (by simp only [rng] at *; omega) ?_
    refine RL.pure rfl rfl rfl rfl ?_
    refine RL.done ?_
    cases j with
    | zero => omega
    | succ j => exact fun ac ha => ⟨j, [(1, ptr p), (3, i64 ((k : Int) + 1))], ha.sub ⟨rfl, rfl, trivial⟩, ⟨_, zs.set k 99, k + 1, rfl, hg4, hax1.trans hax4, hb' ▸ hset, by simp [hzl], by omega⟩, Nat.lt_succ_self j⟩
  · exact fall (vs := []) rfl (Post.mk hle1 hg1.dropNext hax1 rfl)

set_option maxRecDepth 100000 in
theorem head8_ct {w : World} {s : Res} {os : List Res} (hg : Good w s os) : Calls Try.prog 8 #[] w (Post w s os fun _ _ r => r = .bool true) := by
  have hap : applyP ⟨[1, 2], [3]⟩ 2 3 = (⟨[1, 2, 3], []⟩, 0) := by decide +kernel
  refine enter (l := []) Try.func8 rfl Try.ntmps8 rfl ?_
  refine CW.seq (CW.plain ?_)
  refine RL.pure rfl rfl rfl rfl ?_
  refine RL.done ?_
  refine CW.seq (CW.plain ?_)
  refine RL.buildSlice rfl rfl rfl rfl sl22 ze3 rfl rfl rfl rfl hg ?_
  rintro p w1 hg1 hax1
  refine ⟨trivial, ?_⟩
  refine RL.buildSlice rfl rfl rfl rfl sl22 ze3 rfl rfl rfl rfl hg1 ?_
  rintro q w2 hg2 hax2
  refine ⟨trivial, ?_⟩
  refine RL.build rfl rfl rfl rfl ze24 pl24 rfl rfl ?_
  refine RL.build rfl rfl rfl rfl ze33 pl33 rfl rfl ?_
  obtain ⟨s3, hg3, hle3, hq3⟩ := Good.letgo hg2
  obtain ⟨s4, hg4, hle4, hp4⟩ := Good.letgo hg3
  have hc : RConf s4 [.slice (some ⟨p, 0, none⟩) 2 2, .slice (some ⟨q, 0, none⟩) 1 1] ⟨[1, 2], [3]⟩ :=
    ⟨_, _, _, _, rfl, ⟨by decide, by decide, .inr ⟨_, rfl, _, (Holds.of (if_pos rfl)).le hp4, ints_chunks (k := .i64) (xs := [1, 2]) (by simp [rng])⟩⟩, ⟨by decide, by decide, .inr ⟨_, rfl, _, (Holds.of (if_pos rfl)).le (hq3.trans hle4), ints_chunks (k := .i64) (xs := [3]) (by simp [rng])⟩⟩⟩
  refine RL.callG rfl rfl rfl rfl rfl ca10 (Apply_ct (k := 2) (n := 3) hg4 hc (by simp [Conf.fits]) (by simp [rng]) (by simp [rng])) ?_
  rintro e5 w5 ⟨v5, s5, B5, A5, rfl, hle5, hg5, hax5, hv5⟩
  refine ⟨_, rfl, trivial, ?_⟩
  rw [hap] at hv5
  obtain ⟨a, c, b, d, rfl, ho1, ho2⟩ := hv5
  obtain ⟨s6, hg6, hle6, hB6⟩ := Good.letgo hg5
  obtain ⟨s7, hg7, hle7, hA7⟩ := Good.letgo hg6
  have i1 := ho1.imm (RInt.up _) (hle6.trans hle7) hA7
  refine RL.pure rfl rfl rfl rfl ?_
  refine RL.pure rfl rfl rfl rfl ?_
  refine RL.pure rfl rfl rfl rfl ?_
  refine RL.alloc rfl rfl rfl rfl ze24 hg7 ?_
  rintro r w8 hg8 hax8
  refine ⟨trivial, ?_⟩
  refine RL.store (i := 0) (j := 0) rfl rfl rfl ty24 rfl rfl hg8 rfl (if_pos rfl) rfl (by first | (simp [Value.cells, Value.oneCell']; done) | simp [Value.cells, Value.oneCell', putL]) (by first | exact Nat.le_of_ble_eq_true rfl | (simp; done) | (simp; omega) | omega) ?_
  rintro w9 hg9 hax9
  refine ⟨trivial, ?_⟩
  refine RL.pure rfl rfl rfl rfl ?_
  refine RL.done ?_
  refine CW.seq (CW.plain ?_)
  refine RL.pure rfl rfl rfl rfl ?_
  refine RL.pure rfl rfl rfl rfl ?_
  refine RL.pure rfl rfl rfl rfl ?_
  refine RL.field rfl rfl rfl rfl fl24_0 rfl rfl ?_
  refine RL.load (j := 0) rfl rfl rfl rfl ty22 rfl (Holds.of (put_same _ _ _)) (hg9.1) rfl ?_
  refine RL.len rfl rfl rfl rfl sl22 rfl ?_
  refine RL.pure rfl rfl rfl rfl ?_
  refine RL.pure rfl rfl rfl rfl ?_
  refine RL.pure rfl rfl rfl rfl ?_
  refine RL.field rfl rfl rfl rfl fl24_0 rfl rfl ?_
  refine RL.load (j := 0) rfl rfl rfl rfl ty22 rfl (Holds.of (put_same _ _ _)) (hg9.1) rfl ?_
  refine RL.idx rfl rfl rfl rfl sl22 rfl rfl (i1) (by decide) (by decide) ?_
  rintro q22 vs22 hvl22 hH22 ⟨rfl, hr22⟩
  refine RL.load rfl rfl rfl rfl ty3 rfl (hH22) (hg9.sh) rfl ?_
  refine RL.pure rfl rfl rfl rfl ?_
  refine RL.pure rfl rfl rfl rfl ?_
  refine RL.pure rfl rfl rfl rfl ?_
  refine RL.field rfl rfl rfl rfl fl24_1 rfl rfl ?_
  refine RL.load (j := 1) rfl rfl rfl rfl ty22 rfl (Holds.of (put_same _ _ _)) (hg9.1) rfl ?_
  refine RL.len rfl rfl rfl rfl sl22 rfl ?_
  refine RL.pure rfl rfl rfl rfl ?_
  refine RL.pure rfl rfl rfl rfl ?_
  refine RL.pure rfl rfl rfl rfl ?_
  refine RL.done ?_
  exact CW.ret (ret (vs := [_]) ⟨_, _, rfl, rfl, rfl⟩ (Post.mk (hle3.trans (hle4.trans (hle5.trans (hle6.trans hle7)))) hg9 (hax1.trans (hax2.trans (hax5.trans (hax8.trans hax9)))) rfl))

/-! ### the law -/
structure Change where
  kind : Int
  node : Int
def RChange : Res → List Value → Change → Prop := fun _ vs x => vs = [i64 x.kind, i64 x.node] ∧ rng .i64 x.kind ∧ rng .i64 x.node
theorem RChange.up : Up RChange := fun _ _ _ _ _ h => h

set_option maxHeartbeats 1000000 in
set_option maxRecDepth 100000 in
theorem RaftconfApplies_ct {w : World} {s : Res} {os : List Res} {vs : List Value} {c : Conf} {l : List Change} {la : Option Addr} {lc : Nat} (hg : Good w s os) (hc : RConf s vs c) (hl : Imm RChange 2 s la lc l) (hb : c.fits) :
    Calls Try.prog 3 #[.agg vs.toArray, .slice la l.length lc] w (Post w s os fun _ _ r => r = .bool true) := by
  have hc0 := hc
  have hll := hl.le_max
  simp only [maxLen] at hll
  obtain ⟨a, ac, b, bc, rfl, i1, i2⟩ := hc
  refine enter (l := [.agg #[.slice a c.voters.length ac, .slice b c.learners.length bc], .slice la l.length lc]) Try.func3 rfl Try.ntmps3 rfl ?_
  refine CW.seq (CW.plain ?_)
  refine RL.box rfl rfl rfl rfl rfl hg ?_
  rintro p w0 hg0 hax0
  refine ⟨trivial, ?_⟩
  refine RL.pure rfl rfl rfl rfl ?_
  refine RL.done ?_
  obtain ⟨s0, hg0, hle0, hq0⟩ := Good.letgo hg0
  have hH : Holds s0 ⟨p, 0, none⟩ [.slice a c.voters.length ac, .slice b c.learners.length bc] := (Holds.one p _ _).le hq0
  refine CW.seq (CW.plain ?_)
  refine RL.call rfl rfl rfl rfl rfl ca8 (head8_ct hg0) ?_
  rintro v1 s1 A1 w1 hle1 hg1 hax1 rfl
  refine ⟨trivial, ?_⟩
  refine RL.pure rfl rfl rfl rfl ?_
  refine RL.done ?_
  have hg1 := hg1.drop
  have hH := hH.le hle1
  have hc1 := RConf.up _ _ _ _ (hle0.trans hle1) hc0
  refine CW.seq (CW.plain ?_)
  refine RL.loads (j := 0) (us := [.slice a c.voters.length ac, .slice b c.learners.length bc]) rfl rfl rfl rfl ty24 rfl (hH) (hg1.sh) rfl rfl ?_
  refine RL.call rfl rfl rfl rfl rfl ca9 (CloneConf_ct hg1 hc1 hb) ?_
  rintro v2 s2 A2 w2 hle2 hg2 hax2 ⟨us2, rfl, hu2⟩
  refine ⟨trivial, ?_⟩
  obtain ⟨xa, xac, xb, xbc, rfl, x1, x2⟩ := id hu2
  refine RL.alloc rfl rfl rfl rfl ze24 hg2.drop ?_
  rintro q w3 hg3 hax3
  refine ⟨trivial, ?_⟩
  refine RL.store (i := 0) (j := 0) rfl rfl rfl ty24 rfl rfl hg3 rfl (if_pos rfl) rfl (by first | (simp [Value.cells, Value.oneCell']; done) | simp [Value.cells, Value.oneCell', putL]) (by first | exact Nat.le_of_ble_eq_true rfl | (simp; done) | (simp; omega) | omega) ?_
  rintro w4 hg4 hax4
  refine ⟨trivial, ?_⟩
  refine RL.done ?_
  obtain ⟨s5, hg5, hle5, hq5⟩ := Good.letgo hg4
  have hQ : Holds s5 ⟨q, 0, none⟩ [.slice xa c.voters.length xac, .slice xb c.learners.length xbc] := (Holds.of (put_same _ _ _)).le hq5
  have hle := hle0.trans (hle1.trans (hle2.trans hle5))
  have hx5 := hax0.trans (hax1.trans (hax2.trans (hax3.trans hax4)))
  have hH := hH.le (hle2.trans hle5)
  have hcp := RConf.up _ _ _ _ hle hc0
  have hcq := RConf.up _ _ _ _ hle5 hu2
  have hl := hl.up RChange.up hle
  clear hg0 hg1 hg2 hg3 hg4
  refine CW.meet (fun E w' => ∃ s', E = [(5, .bool true)] ∧ Good w' s' os ∧ Le s5 s' ∧ Aux w w') ?_ ?_
  · refine CW.seq (CW.plain ?_)
    refine RL.pure rfl rfl rfl rfl ?_
    refine RL.done ?_
    refine CW.block (CW.loop (σ := Nat) (fun j E w' => ∃ s', ∃ k : Nat, E = [(1, .slice la l.length lc), (2, ptr p), (5, .bool true), (6, ptr q), (7, i64 k)] ∧ Good w' s' os ∧ Le s5 s' ∧ Aux w w' ∧ k + j = l.length)
      (fun j => j) l.length [(1, .slice la l.length lc), (2, ptr p), (5, .bool true), (6, ptr q), (7, i64 0)] ⟨rfl, rfl, rfl, rfl, rfl, trivial⟩ ⟨s5, 0, rfl, hg5, Le.refl _, hx5, by omega⟩ ?_)
    rintro j E w6 ⟨s6, k, rfl, hg6, hle6, hx6, hk⟩
    refine CW.seq (CW.seq (CW.plain ?_))
    refine RL.pure rfl rfl rfl rfl ?_
    refine RL.pure rfl rfl rfl rfl ?_
    refine RL.len rfl rfl rfl rfl sl25 rfl ?_
    refine RL.pure rfl rfl rfl rfl ?_
    refine RL.done ?_
    refine CW.test rfl (fun h => CW.skip ?_) (fun h => CW.exit ?_)
    · have hkl : k < l.length := by omega
      have ek : l[((k : Nat) : Int).toNat]'(by omega) = l[k] := by simp
      have hl6 := hl.up RChange.up hle6
      have hQ6 := hQ.le hle6
      have hH6 := hH.le hle6
      have hcq6 := RConf.up _ _ _ _ hle6 hcq
      have hcp6 := RConf.up _ _ _ _ hle6 hcp
      have hgD := hg6.drew
      refine CW.seq (CW.block ?_)
      refine CW.meet (fun E w' => ∃ s' T B A p8 a1 c1 b1 d1, E = [(1, .slice la l.length lc), (2, ptr p), (5, .bool true), (6, ptr q), (7, i64 k), (8, ptr p8), (9, i64 (applyP c l[k].kind l[k].node).2)] ∧
          T p8 = some (.cells #[.slice a1 (applyP c l[k].kind l[k].node).1.voters.length c1, .slice b1 (applyP c l[k].kind l[k].node).1.learners.length d1] 24 (0, 0)) ∧ Good w' s' (T :: B :: A :: os) ∧ Le s6 s' ∧ Aux w w' ∧
          OwnI s' A a1 c1 (applyP c l[k].kind l[k].node).1.voters ∧ OwnI s' B b1 d1 (applyP c l[k].kind l[k].node).1.learners) ?_ ?_
      · refine CW.forks (.fork [(true, 0), (true, 1), (true, 2), (true, 3), (true, 4)] (.line [(false, 5), (true, 6), (true, 7), (true, 8), (false, 9), (false, 10), (false, 11)]) (.line [(false, 9), (false, 5), (true, 6), (true, 7), (true, 8), (false, 10), (false, 11)])) (fun w => In s6 w) mixed (by kernel_rfl) (by kernel_rfl) (by kernel_rfl) (by kernel_rfl) (hgD.sh) ?_
        refine RT.pre (S := fun w => In s6 w) (hgD.sh) ?_
        refine RL.loadsT (j := 0) (us := [.slice xa c.voters.length xac, .slice xb c.learners.length xbc]) rfl rfl rfl rfl ty24 rfl (hQ6) (fun w h => h) rfl rfl ?_
        refine RL.pure rfl rfl rfl rfl ?_
        refine RL.pure rfl rfl rfl rfl ?_
        refine RL.idx rfl rfl rfl rfl sl25 rfl rfl (hl6) (by omega) (by omega) ?_
        rintro qe vse hvle hHe ⟨rfl, hr1, hr2⟩
        rw [ek] at hr1 hr2 hHe
        refine RL.loadsT (j := 0) (us := [i64 l[k].kind, i64 l[k].node]) rfl rfl rfl rfl ty33 rfl (hHe) (fun w h => h) rfl rfl ?_
        refine RL.done ?_
        refine RT.both (S := fun w => In s6 w) (hgD.sh) (RT.end_ (S := fun w => In s6 w) (hgD.sh) ?_) (RT.end_ (S := fun w => In s6 w) (hgD.sh) ?_)
        · refine RL.callG rfl rfl rfl rfl rfl ca10 (Apply_ct (k := l[k].kind) (n := l[k].node) hgD hcq6 hb hr1 hr2) ?_
          rintro e28 w28 ⟨v28, s28, B, A, rfl, hle28, hg28, hax28, a1, c1, b1, d1, rfl, ho1, ho2⟩
          refine ⟨_, rfl, hg28.sh.le hle28, ?_⟩
          refine RL.pure rfl rfl rfl rfl ?_
          refine RL.pure rfl rfl rfl rfl ?_
          refine RL.pure rfl rfl rfl rfl ?_
          refine RL.alloc rfl rfl rfl rfl ze24 hg28 ?_
          rintro p8 w8 hg8 hax8
          refine ⟨hg8.sh.le hle28, ?_⟩
          refine RL.store (i := 0) (j := 0) rfl rfl rfl ty24 rfl rfl hg8 rfl (if_pos rfl) rfl (by first | (simp [Value.cells, Value.oneCell']; done) | simp [Value.cells, Value.oneCell', putL]) (by first | exact Nat.le_of_ble_eq_true rfl | (simp; done) | (simp; omega) | omega) ?_
          rintro wS hgS haxS
          refine ⟨hgS.sh.le hle28, ?_⟩
          refine RL.pure rfl rfl rfl rfl ?_
          refine RL.done ?_
          exact fun ac ha => ⟨_, ha.sub (E' := [(1, .slice la l.length lc), (2, ptr p), (5, .bool true), (6, ptr q), (7, i64 k), (8, ptr p8), (9, i64 (applyP c l[k].kind l[k].node).2)]) ⟨rfl, rfl, rfl, rfl, rfl, rfl, rfl, trivial⟩, s28, _, B, A, p8, a1, c1, b1, d1, rfl, put_same _ _ _, (hgS.front 0 rfl), hle28, (hx6.trans (Aux.drew _)).trans ((hax28).trans ((hax8).trans (haxS))), ho1, ho2⟩
        · refine RL.alloc rfl rfl rfl rfl ze24 hgD ?_
          rintro p8 w8 hg8 hax8
          refine ⟨hg8.sh, ?_⟩
          refine RL.callG rfl rfl rfl rfl rfl ca10 (Apply_ct (k := l[k].kind) (n := l[k].node) hg8 hcq6 hb hr1 hr2) ?_
          rintro e28 w28 ⟨v28, s28, B, A, rfl, hle28, hg28, hax28, a1, c1, b1, d1, rfl, ho1, ho2⟩
          refine ⟨_, rfl, hg28.sh.le hle28, ?_⟩
          refine RL.pure rfl rfl rfl rfl ?_
          refine RL.pure rfl rfl rfl rfl ?_
          refine RL.pure rfl rfl rfl rfl ?_
          refine RL.store (i := 2) (j := 0) rfl rfl rfl ty24 rfl rfl hg28 rfl (if_pos rfl) rfl (by first | (simp [Value.cells, Value.oneCell']; done) | simp [Value.cells, Value.oneCell', putL]) (by first | exact Nat.le_of_ble_eq_true rfl | (simp; done) | (simp; omega) | omega) ?_
          rintro wS hgS haxS
          refine ⟨hgS.sh.le hle28, ?_⟩
          refine RL.pure rfl rfl rfl rfl ?_
          refine RL.done ?_
          exact fun ac ha => ⟨_, ha.sub (E' := [(1, .slice la l.length lc), (2, ptr p), (5, .bool true), (6, ptr q), (7, i64 k), (8, ptr p8), (9, i64 (applyP c l[k].kind l[k].node).2)]) ⟨rfl, rfl, rfl, rfl, rfl, rfl, rfl, trivial⟩, s28, _, B, A, p8, a1, c1, b1, d1, rfl, put_same _ _ _, (hgS.front 2 rfl), hle28, (hx6.trans (Aux.drew _)).trans ((hax8).trans ((hax28).trans (haxS))), ho1, ho2⟩
      rintro E w7 ⟨s7', T, B, A, p8, a1, c1, b1, d1, rfl, hT, hg7, hle7, hx7, ho1, ho2⟩
      obtain ⟨s7, hg7, hle7', hT7⟩ := Good.letgo hg7
      have hA8 : Holds s7 ⟨p8, 0, none⟩ [.slice a1 (applyP c l[k].kind l[k].node).1.voters.length c1, .slice b1 (applyP c l[k].kind l[k].node).1.learners.length d1] := (Holds.of hT).le hT7
      have hle67 := hle7.trans hle7'
      have ho1 := ho1.up (RInt.up _) hle7'
      have ho2 := ho2.up (RInt.up _) hle7'
      have hl7 := hl6.up RChange.up hle67
      have hcp7 := RConf.up _ _ _ _ hle67 hcp6
      have hH7 := hH6.le hle67
      have hgD := hg7.drew
      refine CW.meet (fun E w' => ∃ s' p10 us, E = [(1, .slice la l.length lc), (2, ptr p), (5, .bool true), (6, ptr q), (7, i64 k), (8, ptr p8), (9, i64 (applyP c l[k].kind l[k].node).2), (10, ptr p10), (11, i64 (applyP c l[k].kind l[k].node).2)] ∧
          Holds s' ⟨p10, 0, none⟩ us ∧ RConf s' us (applyP c l[k].kind l[k].node).1 ∧ Good w' s' (B :: A :: os) ∧ Le s7 s' ∧ Aux w w') ?_ ?_
      · refine CW.forks (.fork [(true, 0), (true, 1), (true, 2), (true, 3), (true, 4)] (.line [(false, 5), (true, 6), (true, 7), (true, 8), (false, 9), (false, 10), (false, 11)]) (.line [(false, 9), (false, 5), (true, 6), (true, 7), (true, 8), (false, 10), (false, 11)])) (fun w => In s7 w) mixed (by kernel_rfl) (by kernel_rfl) (by kernel_rfl) (by kernel_rfl) (hgD.sh) ?_
        refine RT.pre (S := fun w => In s7 w) (hgD.sh) ?_
        refine RL.loadsT (j := 0) (us := [.slice a c.voters.length ac, .slice b c.learners.length bc]) rfl rfl rfl rfl ty24 rfl (hH7) (fun w h => h) rfl rfl ?_
        refine RL.pure rfl rfl rfl rfl ?_
        refine RL.pure rfl rfl rfl rfl ?_
        refine RL.idx rfl rfl rfl rfl sl25 rfl rfl (hl7) (by omega) (by omega) ?_
        rintro qe vse hvle hHe ⟨rfl, hr1, hr2⟩
        rw [ek] at hr1 hr2 hHe
        refine RL.loadsT (j := 0) (us := [i64 l[k].kind, i64 l[k].node]) rfl rfl rfl rfl ty33 rfl (hHe) (fun w h => h) rfl rfl ?_
        refine RL.done ?_
        refine RT.both (S := fun w => In s7 w) (hgD.sh) (RT.end_ (S := fun w => In s7 w) (hgD.sh) ?_) (RT.end_ (S := fun w => In s7 w) (hgD.sh) ?_)
        · refine RL.call rfl rfl rfl rfl rfl ca11 (rApply_ct (k := l[k].kind) (n := l[k].node) hgD hcp7 hb hr1 hr2) ?_
          rintro v37 s37 A37 w37 hle37 hg37 hax37 ⟨us37, rfl, hu37⟩
          refine ⟨hg37.sh.le hle37, ?_⟩
          refine RL.pure rfl rfl rfl rfl ?_
          obtain ⟨da, dc, db, dd, rfl, y1, y2⟩ := id hu37
          refine RL.pure rfl rfl rfl rfl ?_
          refine RL.pure rfl rfl rfl rfl ?_
          refine RL.alloc rfl rfl rfl rfl ze24 hg37 ?_
          rintro p10 w10 hg10 hax10
          refine ⟨hg10.sh.le hle37, ?_⟩
          refine RL.store (i := 0) (j := 0) rfl rfl rfl ty24 rfl rfl hg10 rfl (if_pos rfl) rfl (by first | (simp [Value.cells, Value.oneCell']; done) | simp [Value.cells, Value.oneCell', putL]) (by first | exact Nat.le_of_ble_eq_true rfl | (simp; done) | (simp; omega) | omega) ?_
          rintro wS hgS haxS
          refine ⟨hgS.sh.le hle37, ?_⟩
          refine RL.pure rfl rfl rfl rfl ?_
          refine RL.done ?_
          obtain ⟨sZ, hgZ, hleZ, hqZ⟩ := Good.letgo ((hgS.front 1 rfl).front 1 rfl)
          exact fun ac ha => ⟨_, ha.sub (E' := [(1, .slice la l.length lc), (2, ptr p), (5, .bool true), (6, ptr q), (7, i64 k), (8, ptr p8), (9, i64 (applyP c l[k].kind l[k].node).2), (10, ptr p10), (11, i64 (applyP c l[k].kind l[k].node).2)]) ⟨rfl, rfl, rfl, rfl, rfl, rfl, rfl, rfl, rfl, trivial⟩, sZ, p10, _, rfl, (Holds.of (put_same _ _ _)).le hqZ, RConf.up _ _ _ _ hleZ hu37, hgZ.drop, hle37.trans hleZ, (hx7.trans (Aux.drew _)).trans ((hax37).trans ((hax10).trans (haxS)))⟩
        · refine RL.alloc rfl rfl rfl rfl ze24 hgD ?_
          rintro p10 w10 hg10 hax10
          refine ⟨hg10.sh, ?_⟩
          refine RL.call rfl rfl rfl rfl rfl ca11 (rApply_ct (k := l[k].kind) (n := l[k].node) hg10 hcp7 hb hr1 hr2) ?_
          rintro v37 s37 A37 w37 hle37 hg37 hax37 ⟨us37, rfl, hu37⟩
          refine ⟨hg37.sh.le hle37, ?_⟩
          refine RL.pure rfl rfl rfl rfl ?_
          obtain ⟨da, dc, db, dd, rfl, y1, y2⟩ := id hu37
          refine RL.pure rfl rfl rfl rfl ?_
          refine RL.pure rfl rfl rfl rfl ?_
          refine RL.store (i := 1) (j := 0) rfl rfl rfl ty24 rfl rfl hg37 rfl (if_pos rfl) rfl (by first | (simp [Value.cells, Value.oneCell']; done) | simp [Value.cells, Value.oneCell', putL]) (by first | exact Nat.le_of_ble_eq_true rfl | (simp; done) | (simp; omega) | omega) ?_
          rintro wS hgS haxS
          refine ⟨hgS.sh.le hle37, ?_⟩
          refine RL.pure rfl rfl rfl rfl ?_
          refine RL.done ?_
          obtain ⟨sZ, hgZ, hleZ, hqZ⟩ := Good.letgo ((hgS.front 0 rfl).front 1 rfl)
          exact fun ac ha => ⟨_, ha.sub (E' := [(1, .slice la l.length lc), (2, ptr p), (5, .bool true), (6, ptr q), (7, i64 k), (8, ptr p8), (9, i64 (applyP c l[k].kind l[k].node).2), (10, ptr p10), (11, i64 (applyP c l[k].kind l[k].node).2)]) ⟨rfl, rfl, rfl, rfl, rfl, rfl, rfl, rfl, rfl, trivial⟩, sZ, p10, _, rfl, (Holds.of (put_same _ _ _)).le hqZ, RConf.up _ _ _ _ hleZ hu37, hgZ.drop, hle37.trans hleZ, (hx7.trans (Aux.drew _)).trans ((hax10).trans ((hax37).trans (haxS)))⟩
      rintro E w8 ⟨s8, p10, us8, rfl, hB8, hu8, hg8, hle8, hx8⟩
      obtain ⟨da, dc, db, dd, rfl, y1, y2⟩ := id hu8
      have hA8 := hA8.le hle8
      have ho1 := ho1.up (RInt.up _) hle8
      have ho2 := ho2.up (RInt.up _) hle8
      generalize applyP c l[k].kind l[k].node = res at *
      obtain ⟨m1, m2, m3, m4⟩ := hg8.lend
      obtain ⟨n1, n2, n3, n4⟩ := m1.lend
      have hRa : RConf ((s8.join B).join A) [.slice a1 res.1.voters.length c1, .slice b1 res.1.learners.length d1] res.1 := ⟨a1, c1, b1, d1, rfl, ho1.imm (RInt.up _) (m2.trans n2) n3, ho2.imm (RInt.up _) (m2.trans n2) (m3.trans n2)⟩
      refine CW.seq (CW.plain ?_)
      refine RL.loads (j := 0) (us := [.slice a1 res.1.voters.length c1, .slice b1 res.1.learners.length d1]) rfl rfl rfl rfl ty24 rfl (hA8) (hg8.sh) rfl rfl ?_
      refine RL.loads (j := 0) (us := [.slice da res.1.voters.length dc, .slice db res.1.learners.length dd]) rfl rfl rfl rfl ty24 rfl (hB8) (hg8.sh) rfl rfl ?_
      refine RL.callV rfl rfl rfl rfl rfl ca12 (SameConf6_ct n1 hRa (RConf.up _ _ _ _ (m2.trans n2) hu8)) ?_
      rintro v42 w42 hg42 hax42 rfl
      refine ⟨trivial, ?_⟩
      refine RL.pure rfl rfl rfl rfl ?_
      refine RL.done ?_
      have hg9 := (m4 _ (n4 _ hg42)).swap
      refine CW.seq (CW.plain ?_)
      refine RL.loads (j := 0) (us := [.slice a1 res.1.voters.length c1, .slice b1 res.1.learners.length d1]) rfl rfl rfl rfl ty24 rfl (hA8) (hg9.sh) rfl rfl ?_
      refine RL.call rfl rfl rfl rfl rfl ca13 (spoil_ct hg9 ho1 ho2) ?_
      rintro v44 s44 A44 w44 hle44 hg44 hax44 rfl
      refine ⟨trivial, ?_⟩
      refine RL.done ?_
      have hg10 := hg44.drop
      have hle10 := hle67.trans (hle8.trans hle44)
      have hd1 : decide (res.1 = res.1) = true := decide_eq_true rfl
      have hd2 : decide (c = c) = true := decide_eq_true rfl
      rw [hd1]
      refine CW.seq (CW.plain ?_)
      refine RL.pure rfl rfl rfl rfl ?_
      refine RL.pure rfl rfl rfl rfl ?_
      refine RL.pure rfl rfl rfl rfl ?_
      refine RL.pure rfl rfl rfl rfl ?_
      refine RL.pure rfl rfl rfl rfl ?_
      refine RL.as_ rfl rfl rfl rfl (.bool false) ((by show Value.bool (res.2 != res.2) = _; simp)) ?_
      refine RL.pure rfl rfl rfl rfl ?_
      refine RL.pure rfl rfl rfl rfl ?_
      refine RL.loads (j := 0) (us := [.slice xa c.voters.length xac, .slice xb c.learners.length xbc]) rfl rfl rfl rfl ty24 rfl (hQ6.le hle10) (hg10.sh) rfl rfl ?_
      refine RL.loads (j := 0) (us := [.slice a c.voters.length ac, .slice b c.learners.length bc]) rfl rfl rfl rfl ty24 rfl (hH6.le hle10) (hg10.sh) rfl rfl ?_
      refine RL.callV rfl rfl rfl rfl rfl ca12 (SameConf6_ct hg10 (RConf.up _ _ _ _ hle10 hcq6) (RConf.up _ _ _ _ hle10 hcp6)) ?_
      rintro v55 w55 hg55 hax55 rfl
      refine ⟨trivial, ?_⟩
      rw [hd2]
      refine RL.pure rfl rfl rfl rfl ?_
      refine RL.pure rfl rfl rfl rfl ?_
      refine RL.done ?_
      refine CW.no rfl (CW.skip ?_)
      refine CW.plain ?_
      refine RL.pure rfl rfl rfl rfl ?_
      refine RL.add rfl rfl rfl rfl rfl rfl (by simp only [rng] at *; omega) ?_
      refine RL.pure rfl rfl rfl rfl ?_
      refine RL.done ?_
      cases j with
      | zero => omega
      | succ j =>
        exact fun ac ha => ⟨j, [(1, .slice la l.length lc), (2, ptr p), (5, .bool true), (6, ptr q), (7, i64 ((k + 1 : Nat) : Int))], ha.sub ⟨rfl, rfl, rfl, rfl, rfl, trivial⟩, ⟨s44, k + 1, rfl, hg55, hle6.trans hle10, hx8.trans (hax42.trans (hax44.trans hax55)), by omega⟩, Nat.lt_succ_self j⟩
    · exact fun ac ha => ⟨[(5, .bool true)], ha.sub ⟨rfl, trivial⟩, s6, rfl, hg6, hle6, hx6⟩
  rintro E w20 ⟨s20, rfl, hg20, hle20, hx20⟩
  refine CW.seq (CW.plain ?_)
  refine RL.pure rfl rfl rfl rfl ?_
  refine RL.pure rfl rfl rfl rfl ?_
  refine RL.done ?_
  exact CW.ret (ret (vs := [_]) ⟨_, _, rfl, rfl, rfl⟩ (Post.mk (hle.trans hle20) hg20.nil hx20 rfl))
end Go.Lw
