/-
  Configurations: a step, by the document; copies; the same; a live question; what is spoilt.
-/
import Derived.Test.YthafkinbocdjlaaRcC
namespace Go.Lw
open Go.Proofs

set_option maxRecDepth 100000 in
theorem CloneConf_ct {w : World} {s : Res} {os : List Res} {vs : List Value} {c : Conf} (hg : Good w s os) (hc : RConf s vs c) (hb : c.fits) :
    Calls Try.prog 9 #[.agg vs.toArray] w (Post w s os fun s' _ r => ∃ us, r = .agg us.toArray ∧ RConf s' us c) := by
  simp only [Conf.fits] at hb
  obtain ⟨a, ac, b, bc, rfl, i1, i2⟩ := hc
  refine enter (l := [.agg #[.slice a c.voters.length ac, .slice b c.learners.length bc]]) Try.func9 rfl Try.ntmps9 rfl ?_
  refine CW.seq (CW.plain ?_)
  refine RL.box rfl rfl rfl rfl rfl hg ?_
  rintro p w0 hg0 hax0
  refine ⟨trivial, ?_⟩
  obtain ⟨s1, hg0, hle1, hq1⟩ := Good.letgo hg0
  refine RL.alloc rfl rfl rfl rfl ze24 hg0 ?_
  rintro r w1 hg1 hax1
  refine ⟨trivial, ?_⟩
  refine RL.done ?_
  have hH : Holds s1 ⟨p, 0, none⟩ [.slice a c.voters.length ac, .slice b c.learners.length bc] := (Holds.one p _ _).le hq1
  have i1 := i1.up (RInt.up _) hle1
  have i2 := i2.up (RInt.up _) hle1
  refine CW.seq ?_
  have hgD := hg1.drew
  refine CW.forks (.fork [(true, 1), (true, 2), (true, 5), (true, 6)] (.fork [(false, 0)] (.line [(false, 3), (false, 4), (false, 7), (true, 8), (false, 9)]) (.line [(false, 4), (false, 3), (false, 7), (true, 8), (false, 9)])) (.line [(false, 4), (false, 0), (false, 3), (false, 7), (true, 8), (false, 9)])) (fun w => In s1 w) mixed (by kernel_rfl) (by kernel_rfl) (by kernel_rfl) (by kernel_rfl) (hgD.sh) ?_
  refine RT.pre (S := fun w => In s1 w) (hgD.sh) ?_
  refine RL.field rfl rfl rfl rfl fl24_0 rfl rfl ?_
  refine RL.loadT (j := 0) rfl rfl rfl rfl ty22 rfl (hH) (fun w h => h) rfl ?_
  refine RL.field rfl rfl rfl rfl fl24_1 rfl rfl ?_
  refine RL.loadT (j := 1) rfl rfl rfl rfl ty22 rfl (hH) (fun w h => h) rfl ?_
  refine RL.done ?_
  refine RT.both (S := fun w => In s1 w) (hgD.sh) (RT.pre (S := fun w => In s1 w) (hgD.sh) ?_) (RT.end_ (S := fun w => In s1 w) (hgD.sh) ?_)
  · refine RL.buildSlice rfl rfl rfl rfl sl22 ze3 rfl rfl rfl rfl hgD ?_
    rintro p3 w3 hg3 hax3
    refine ⟨hg3.sh, ?_⟩
    refine RL.done ?_
    refine RT.both (S := fun w => In s1 w) (hg3.sh) (RT.end_ (S := fun w => In s1 w) (hg3.sh) ?_) (RT.end_ (S := fun w => In s1 w) (hg3.sh) ?_)
    · obtain ⟨news6, hsrc6, hch6⟩ := Src.row (c := ac) sl22 i1.2.2 hg3.sh
      refine RL.append (i := 0) (ys := c.voters) rfl rfl rfl rfl sl22 ze3 rfl (by first | exact RInt.one _ | exact RStr.one | exact RBool.one | assumption) rfl rfl hg3 rfl (Own.fresh) (hsrc6) (hch6) ((by simp; omega)) (by omega) ?_
      rintro a6 c6 A6 w6 hg6 ho6 hax6 hk6
      refine ⟨hg6.sh, ?_⟩
      refine RL.buildSlice rfl rfl rfl rfl sl22 ze3 rfl rfl rfl rfl hg6 ?_
      rintro p7 w7 hg7 hax7
      refine ⟨hg7.sh, ?_⟩
      obtain ⟨news10, hsrc10, hch10⟩ := Src.row (c := bc) sl22 i2.2.2 hg7.sh
      refine RL.append (i := 0) (ys := c.learners) rfl rfl rfl rfl sl22 ze3 rfl (by first | exact RInt.one _ | exact RStr.one | exact RBool.one | assumption) rfl rfl hg7 rfl (Own.fresh) (hsrc10) (hch10) ((by simp; omega)) (by omega) ?_
      rintro a10 c10 A10 w10 hg10 ho10 hax10 hk10
      refine ⟨hg10.sh, ?_⟩
      refine RL.build rfl rfl rfl rfl ze24 pl24 rfl rfl ?_
      refine RL.store (i := 2) (j := 0) rfl rfl rfl ty24 rfl rfl hg10 rfl (if_pos rfl) rfl (by first | (simp [Value.cells, Value.oneCell']; done) | simp [Value.cells, Value.oneCell', putL]) (by first | exact Nat.le_of_ble_eq_true rfl | (simp; done) | (simp; omega) | omega) ?_
      rintro w11 hg11 hax11
      refine ⟨hg11.sh, ?_⟩
      refine RL.done ?_
      obtain ⟨s2, hg12, hle2, hA⟩ := Good.letgo ((hg11.front 0 rfl).front 1 rfl)
      obtain ⟨s3, hg13, hle3, hB⟩ := Good.letgo hg12
      exact CW.ret (ret (vs := [_]) ⟨_, _, _, rfl, rfl, loadVar_agg ty24 (put_same _ _ _) hg13.1 rfl, rfl⟩ (Post.mk (hle1.trans (hle2.trans hle3)) hg13.drop.nil ((hax0.trans (hax1.trans (Aux.drew _))).trans ((hax3).trans ((hax6).trans ((hax7).trans ((hax10).trans (hax11)))))) ⟨_, rfl, a6, c6, a10, c10, rfl, ho6.imm (RInt.up _) (hle2.trans hle3) (hA.trans hle3), ho10.imm (RInt.up _) (hle2.trans hle3) hB⟩))
    · refine RL.buildSlice rfl rfl rfl rfl sl22 ze3 rfl rfl rfl rfl hg3 ?_
      rintro p7 w7 hg7 hax7
      refine ⟨hg7.sh, ?_⟩
      obtain ⟨news6, hsrc6, hch6⟩ := Src.row (c := ac) sl22 i1.2.2 hg7.sh
      refine RL.append (i := 1) (ys := c.voters) rfl rfl rfl rfl sl22 ze3 rfl (by first | exact RInt.one _ | exact RStr.one | exact RBool.one | assumption) rfl rfl hg7 rfl (Own.fresh) (hsrc6) (hch6) ((by simp; omega)) (by omega) ?_
      rintro a6 c6 A6 w6 hg6 ho6 hax6 hk6
      refine ⟨hg6.sh, ?_⟩
      obtain ⟨news10, hsrc10, hch10⟩ := Src.row (c := bc) sl22 i2.2.2 hg6.sh
      refine RL.append (i := 0) (ys := c.learners) rfl rfl rfl rfl sl22 ze3 rfl (by first | exact RInt.one _ | exact RStr.one | exact RBool.one | assumption) rfl rfl hg6 rfl (Own.fresh) (hsrc10) (hch10) ((by simp; omega)) (by omega) ?_
      rintro a10 c10 A10 w10 hg10 ho10 hax10 hk10
      refine ⟨hg10.sh, ?_⟩
      refine RL.build rfl rfl rfl rfl ze24 pl24 rfl rfl ?_
      refine RL.store (i := 2) (j := 0) rfl rfl rfl ty24 rfl rfl hg10 rfl (if_pos rfl) rfl (by first | (simp [Value.cells, Value.oneCell']; done) | simp [Value.cells, Value.oneCell', putL]) (by first | exact Nat.le_of_ble_eq_true rfl | (simp; done) | (simp; omega) | omega) ?_
      rintro w11 hg11 hax11
      refine ⟨hg11.sh, ?_⟩
      refine RL.done ?_
      obtain ⟨s2, hg12, hle2, hA⟩ := Good.letgo ((hg11.front 0 rfl).front 1 rfl)
      obtain ⟨s3, hg13, hle3, hB⟩ := Good.letgo hg12
      exact CW.ret (ret (vs := [_]) ⟨_, _, _, rfl, rfl, loadVar_agg ty24 (put_same _ _ _) hg13.1 rfl, rfl⟩ (Post.mk (hle1.trans (hle2.trans hle3)) hg13.drop.nil ((hax0.trans (hax1.trans (Aux.drew _))).trans ((hax3).trans ((hax7).trans ((hax6).trans ((hax10).trans (hax11)))))) ⟨_, rfl, a6, c6, a10, c10, rfl, ho6.imm (RInt.up _) (hle2.trans hle3) (hA.trans hle3), ho10.imm (RInt.up _) (hle2.trans hle3) hB⟩))
  · refine RL.buildSlice rfl rfl rfl rfl sl22 ze3 rfl rfl rfl rfl hgD ?_
    rintro p7 w7 hg7 hax7
    refine ⟨hg7.sh, ?_⟩
    refine RL.buildSlice rfl rfl rfl rfl sl22 ze3 rfl rfl rfl rfl hg7 ?_
    rintro p3 w3 hg3 hax3
    refine ⟨hg3.sh, ?_⟩
    obtain ⟨news6, hsrc6, hch6⟩ := Src.row (c := ac) sl22 i1.2.2 hg3.sh
    refine RL.append (i := 0) (ys := c.voters) rfl rfl rfl rfl sl22 ze3 rfl (by first | exact RInt.one _ | exact RStr.one | exact RBool.one | assumption) rfl rfl hg3 rfl (Own.fresh) (hsrc6) (hch6) ((by simp; omega)) (by omega) ?_
    rintro a6 c6 A6 w6 hg6 ho6 hax6 hk6
    refine ⟨hg6.sh, ?_⟩
    obtain ⟨news10, hsrc10, hch10⟩ := Src.row (c := bc) sl22 i2.2.2 hg6.sh
    refine RL.append (i := 1) (ys := c.learners) rfl rfl rfl rfl sl22 ze3 rfl (by first | exact RInt.one _ | exact RStr.one | exact RBool.one | assumption) rfl rfl hg6 rfl (Own.fresh) (hsrc10) (hch10) ((by simp; omega)) (by omega) ?_
    rintro a10 c10 A10 w10 hg10 ho10 hax10 hk10
    refine ⟨hg10.sh, ?_⟩
    refine RL.build rfl rfl rfl rfl ze24 pl24 rfl rfl ?_
    refine RL.store (i := 2) (j := 0) rfl rfl rfl ty24 rfl rfl hg10 rfl (if_pos rfl) rfl (by first | (simp [Value.cells, Value.oneCell']; done) | simp [Value.cells, Value.oneCell', putL]) (by first | exact Nat.le_of_ble_eq_true rfl | (simp; done) | (simp; omega) | omega) ?_
    rintro w11 hg11 hax11
    refine ⟨hg11.sh, ?_⟩
    refine RL.done ?_
    obtain ⟨s2, hg12, hle2, hA⟩ := Good.letgo ((hg11.front 1 rfl).front 1 rfl)
    obtain ⟨s3, hg13, hle3, hB⟩ := Good.letgo hg12
    exact CW.ret (ret (vs := [_]) ⟨_, _, _, rfl, rfl, loadVar_agg ty24 (put_same _ _ _) hg13.1 rfl, rfl⟩ (Post.mk (hle1.trans (hle2.trans hle3)) hg13.drop.nil ((hax0.trans (hax1.trans (Aux.drew _))).trans ((hax7).trans ((hax3).trans ((hax6).trans ((hax10).trans (hax11)))))) ⟨_, rfl, a6, c6, a10, c10, rfl, ho6.imm (RInt.up _) (hle2.trans hle3) (hA.trans hle3), ho10.imm (RInt.up _) (hle2.trans hle3) hB⟩))

set_option maxRecDepth 100000 in
theorem sameInts6_ct {w : World} {s : Res} {os : List Res} {xs ys : List Int} {a b : Option Addr} {c d : Nat} (hg : Good w s os) (ha : Ints s a c xs) (hb : Ints s b d ys) :
    Calls Try.prog 31 #[.slice a xs.length c, .slice b ys.length d] w (PostV w s os fun r => r = .bool (decide (xs = ys))) := by
  have hlen := ha.le_max
  simp only [maxLen] at hlen
  refine enter (l := [.slice a xs.length c, .slice b ys.length d]) Try.func31 rfl Try.ntmps31 rfl ?_
  refine CW.seq (CW.plain ?_)
  refine RL.pure rfl rfl rfl rfl ?_
  refine RL.done ?_
  refine CW.seq (CW.seq (CW.plain ?_))
  refine RL.pure rfl rfl rfl rfl ?_
  refine RL.len rfl rfl rfl rfl sl22 rfl ?_
  refine RL.pure rfl rfl rfl rfl ?_
  refine RL.len rfl rfl rfl rfl sl22 rfl ?_
  refine RL.pure rfl rfl rfl rfl ?_
  refine RL.done ?_
  refine CW.ne rfl (fun hne => ?_) (fun he => CW.skip ?_)
  · refine CW.seq (CW.plain ?_)
    refine RL.pure rfl rfl rfl rfl ?_
    refine RL.done ?_
    have hno : ¬ xs = ys := fun e => hne (by rw [e])
    exact CW.ret (ret (vs := [_]) ⟨_, _, rfl, rfl, rfl⟩ (PostV.mk hg (Aux.refl _) (by rw [decide_eq_false hno]; rfl)))
  have hxy : xs.length = ys.length := by omega
  refine CW.seq (CW.seq (CW.plain ?_))
  refine RL.pure rfl rfl rfl rfl ?_
  refine RL.done ?_
  refine CW.block (CW.loop (σ := Nat) (fun j E w' => Good w' s os ∧ Aux w w' ∧ ∃ k : Nat, E = [(0, .slice a xs.length c), (1, .slice b ys.length d), (5, i64 k)] ∧ k + j = xs.length ∧ xs.take k = ys.take k)
    (fun j => j) xs.length [(0, .slice a xs.length c), (1, .slice b ys.length d), (5, i64 0)] ⟨rfl, rfl, rfl, trivial⟩ ⟨hg, Aux.refl _, 0, rfl, by omega, rfl⟩ ?_)
  rintro j E w1 ⟨hg1, hax1, k, rfl, hk, hall⟩
  refine CW.seq (CW.seq (CW.plain ?_))
  refine RL.pure rfl rfl rfl rfl ?_
  refine RL.pure rfl rfl rfl rfl ?_
  refine RL.len rfl rfl rfl rfl sl22 rfl ?_
  refine RL.pure rfl rfl rfl rfl ?_
  refine RL.done ?_
  refine CW.test rfl (fun h => CW.skip ?_) (fun h => CW.exit ?_)
  · have hkl : k < xs.length := by omega
    have hky : k < ys.length := by omega
    have hgD := hg1.drew
    have ek : xs[((k : Nat) : Int).toNat]'(by omega) = xs[k] := by simp
    have ey : ys[((k : Nat) : Int).toNat]'(by omega) = ys[k] := by simp
    refine CW.seq (CW.block (CW.seq ?_))
    refine CW.draws [(true, 0), (true, 1), (true, 2), (true, 3), (true, 4), (true, 5), (true, 6), (true, 7), (true, 8)] (fun w => Good w s os) mixed (by kernel_rfl) (by kernel_rfl) (by kernel_rfl) (by kernel_rfl) (hgD) ?_
    refine RL.pure rfl rfl rfl rfl ?_
    refine RL.pure rfl rfl rfl rfl ?_
    refine RL.idx rfl rfl rfl rfl sl22 rfl rfl (ha) (by omega) ((by omega)) ?_
    rintro q vs hvl hH ⟨rfl, hr⟩
    refine RL.loadT rfl rfl rfl rfl ty3 rfl (hH) (fun w h => h.sh) rfl ?_
    refine RL.pure rfl rfl rfl rfl ?_
    refine RL.pure rfl rfl rfl rfl ?_
    refine RL.idx rfl rfl rfl rfl sl22 rfl rfl (hb) (by omega) ((by omega)) ?_
    rintro q2 vs2 hvl2 hH2 ⟨rfl, hr2⟩
    refine RL.loadT rfl rfl rfl rfl ty3 rfl (hH2) (fun w h => h.sh) rfl ?_
    refine RL.pure rfl rfl rfl rfl ?_
    refine RL.done ?_
    rw [ek, ey]
    refine CW.ne rfl (fun hne => ?_) (fun he2 => CW.skip ?_)
    · refine CW.seq (CW.plain ?_)
      refine RL.pure rfl rfl rfl rfl ?_
      refine RL.done ?_
      have hno : ¬ xs = ys := fun e => hne (by simp [e])
      exact CW.ret (ret (vs := [_]) ⟨_, _, rfl, rfl, rfl⟩ (PostV.mk hgD (hax1.trans (Aux.drew _)) (by rw [decide_eq_false hno]; rfl)))
    · refine CW.plain ?_
      refine RL.pure rfl rfl rfl rfl ?_
      refine RL.add rfl rfl rfl rfl rfl rfl (by simp only [rng] at *; omega) ?_
      refine RL.pure rfl rfl rfl rfl ?_
      refine RL.done ?_
      cases j with
      | zero => omega
      | succ j =>
        exact fun ac ha => ⟨j, [(0, .slice a xs.length c), (1, .slice b ys.length d), (5, i64 ((k : Int) + 1))], ha.sub ⟨rfl, rfl, rfl, trivial⟩, ⟨hgD, hax1.trans (Aux.drew _), k + 1, rfl, by omega, by rw [List.take_succ_eq_append_getElem hkl, List.take_succ_eq_append_getElem hky, hall, he2]⟩, Nat.lt_succ_self j⟩
  · have hkl : k = xs.length := by omega
    refine CW.seq (CW.plain ?_)
    refine RL.pure rfl rfl rfl rfl ?_
    refine RL.done ?_
    have hyes : xs = ys := by
      have h1 : xs.take k = xs := by rw [hkl, List.take_length]
      have h2 : ys.take k = ys := by rw [hkl, hxy, List.take_length]
      rw [← h1, ← h2, hall]
    exact CW.ret (ret (vs := [_]) ⟨_, _, rfl, rfl, rfl⟩ (PostV.mk hg1 hax1 (by rw [decide_eq_true hyes]; rfl)))

set_option maxRecDepth 100000 in
theorem SameConf6_ct {w : World} {s : Res} {os : List Res} {x y : Conf} {us vs : List Value} (hg : Good w s os) (hu : RConf s us x) (hv : RConf s vs y) :
    Calls Try.prog 12 #[.agg us.toArray, .agg vs.toArray] w (PostV w s os fun r => r = .bool (decide (x = y))) := by
  obtain ⟨a, ac, b, bc, rfl, i1, i2⟩ := hu
  obtain ⟨a', ac', b', bc', rfl, j1, j2⟩ := hv
  refine enter (l := [.agg #[.slice a x.voters.length ac, .slice b x.learners.length bc], .agg #[.slice a' y.voters.length ac', .slice b' y.learners.length bc']]) Try.func12 rfl Try.ntmps12 rfl ?_
  refine CW.seq (CW.plain ?_)
  refine RL.box rfl rfl rfl rfl rfl hg ?_
  rintro p w0 hg0 hax0
  refine ⟨trivial, ?_⟩
  refine RL.box rfl rfl rfl rfl rfl hg0 ?_
  rintro q w1 hg1 hax1
  refine ⟨trivial, ?_⟩
  refine RL.pure rfl rfl rfl rfl ?_
  refine RL.done ?_
  refine CW.seq (CW.plain ?_)
  refine RL.field rfl rfl rfl rfl fl24_0 rfl rfl ?_
  refine RL.load (j := 0) rfl rfl rfl rfl ty22 rfl (Holds.one p _ 24) (hg1.drop.1) rfl ?_
  refine RL.field rfl rfl rfl rfl fl24_0 rfl rfl ?_
  refine RL.load (j := 0) rfl rfl rfl rfl ty22 rfl (Holds.one q _ 24) (hg1.1) rfl ?_
  refine RL.callV rfl rfl rfl rfl rfl ca31 (sameInts6_ct hg1 i1 j1) ?_
  rintro v2 w2 hg2 hax2 rfl
  refine ⟨trivial, ?_⟩
  refine RL.pure rfl rfl rfl rfl ?_
  refine RL.done ?_
  refine CW.seq (CW.plain ?_)
  refine RL.field rfl rfl rfl rfl fl24_1 rfl rfl ?_
  refine RL.load (j := 1) rfl rfl rfl rfl ty22 rfl (Holds.one p _ 24) (hg2.drop.1) rfl ?_
  refine RL.field rfl rfl rfl rfl fl24_1 rfl rfl ?_
  refine RL.load (j := 1) rfl rfl rfl rfl ty22 rfl (Holds.one q _ 24) (hg2.1) rfl ?_
  refine RL.callV rfl rfl rfl rfl rfl ca31 (sameInts6_ct hg2 i2 j2) ?_
  rintro v3 w3 hg3 hax3 rfl
  refine ⟨trivial, ?_⟩
  refine RL.pure rfl rfl rfl rfl ?_
  refine RL.done ?_
  have hx3 := hax0.trans (hax1.trans (hax2.trans hax3))
  refine CW.seq (CW.plain ?_)
  refine RL.pure rfl rfl rfl rfl ?_
  refine RL.pure rfl rfl rfl rfl ?_
  refine RL.part 18 rfl (fun h => ?_) (fun h => ?_)
  · refine RL.pure rfl rfl rfl rfl ?_
    refine RL.pure rfl rfl rfl rfl ?_
    refine RL.pure rfl rfl rfl rfl ?_
    refine RL.done ?_
    have h := of_decide_eq_true h
    exact CW.ret (ret (vs := [_]) ⟨_, _, rfl, rfl, rfl⟩ (PostV.mk hg3.drop.drop hx3 (congrArg Value.bool (decide_eq_decide.2 ⟨fun h2 => by cases x; cases y; simp_all, fun e => by rw [e]⟩))))
  · refine RL.pass rfl rfl rfl ?_
    refine RL.pure rfl rfl rfl rfl ?_
    refine RL.pure rfl rfl rfl rfl ?_
    refine RL.done ?_
    have h := of_decide_eq_false h
    have hno : ¬ x = y := fun e => h (by rw [e])
    exact CW.ret (ret (vs := [_]) ⟨_, _, rfl, rfl, rfl⟩ (PostV.mk hg3.drop.drop hx3 (by rw [decide_eq_false hno]; rfl)))
end Go.Lw
