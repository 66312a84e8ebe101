/-
  Configurations: a step, by the document.
-/
import Derived.Test.YthafkinbocdjlaaRcD
namespace Go.Lw
open Go.Proofs

theorem delP_notin {n : Int} {l : List Int} (h : n ∉ l) : delP n l = l := List.filter_eq_self.2 (fun x hx => by
  have : x ≠ n := fun e => h (e ▸ hx)
  simpa using this)
/-- How the document's step ends. -/
def CShared (s : Res) (v : Value) (r : Conf × Int) : Prop := ∃ us, v = .tuple #[.agg us.toArray, i64 r.2] ∧ RConf s us r.1
theorem CShared.bad {s : Res} {e : Int} : CShared s (.tuple #[.agg #[nilSl, nilSl], i64 e]) (Conf.none, e) := ⟨[nilSl, nilSl], rfl, none, 0, none, 0, rfl, Imm.nil _ _ _ (Nat.zero_le _), Imm.nil _ _ _ (Nat.zero_le _)⟩

set_option maxHeartbeats 2000000 in
set_option maxRecDepth 100000 in
theorem rApply_ct {w : World} {s : Res} {os : List Res} {vs : List Value} {c : Conf} {k n : Int} (hg : Good w s os) (hc : RConf s vs c) (hb : c.fits) (_hk : rng .i64 k) (hn : rng .i64 n) :
    Calls Try.prog 11 #[.agg vs.toArray, .agg #[i64 k, i64 n]] w (Post w s os fun s' _ v => CShared s' v (applyP c k n)) := by
  have hc0 := hc
  have hb' := hb
  simp only [Conf.fits] at hb'
  obtain ⟨a, ac, b, bc, rfl, i1, i2⟩ := hc
  refine enter (l := [.agg #[.slice a c.voters.length ac, .slice b c.learners.length bc], .agg #[i64 k, i64 n]]) Try.func11 rfl Try.ntmps11 rfl ?_
  refine CW.seq (CW.plain ?_)
  refine RL.box rfl rfl rfl rfl rfl hg ?_
  rintro p w0 hg0 hax0
  refine ⟨trivial, ?_⟩
  refine RL.box rfl rfl rfl rfl rfl hg0 ?_
  rintro q w1 hg1 hax1
  refine ⟨trivial, ?_⟩
  obtain ⟨s1, hg1, hle1, hq1⟩ := Good.letgo hg1
  obtain ⟨s2, hg1, hle2, hq2⟩ := Good.letgo hg1
  refine RL.alloc rfl rfl rfl rfl ze24 hg1 ?_
  rintro r w2 hg2 hax2
  refine ⟨trivial, ?_⟩
  refine RL.pure rfl rfl rfl rfl ?_
  refine RL.done ?_
  have hH : Holds s2 ⟨p, 0, none⟩ [.slice a c.voters.length ac, .slice b c.learners.length bc] := (Holds.one p _ _).le hq2
  have hQ : Holds s2 ⟨q, 0, none⟩ [i64 k, i64 n] := (Holds.one q _ _).le (hq1.trans hle2)
  have hle := hle1.trans hle2
  have hc2 := RConf.up _ _ _ _ hle hc0
  have i1 := i1.up (RInt.up _) hle
  have i2 := i2.up (RInt.up _) hle
  refine CW.seq (CW.plain ?_)
  refine RL.loads (j := 0) (us := [.slice a c.voters.length ac, .slice b c.learners.length bc]) rfl rfl rfl rfl ty24 rfl (hH) (hg2.sh) rfl rfl ?_
  refine RL.call rfl rfl rfl rfl rfl ca17 (rCheck_ct hg2 hc2 hb) ?_
  rintro v3 s3 A3 w3 hle3 hg3 hax3 rfl
  refine ⟨trivial, ?_⟩
  refine RL.pure rfl rfl rfl rfl ?_
  refine RL.done ?_
  have hg3 := hg3.drop
  have hx3 := hax0.trans (hax1.trans (hax2.trans hax3))
  have hH := hH.le hle3
  have hQ := hQ.le hle3
  have i1 := i1.up (RInt.up _) hle3
  have i2 := i2.up (RInt.up _) hle3
  have hle := hle.trans hle3
  refine CW.seq (CW.seq (CW.plain ?_))
  refine RL.pure rfl rfl rfl rfl ?_
  refine RL.pure rfl rfl rfl rfl ?_
  refine RL.done ?_
  refine CW.ne rfl (fun h0 => ?_) (fun h0 => CW.skip ?_)
  · refine CW.seq (CW.plain ?_)
    refine RL.build rfl rfl rfl rfl ze24 pl24 rfl rfl ?_
    refine RL.pure rfl rfl rfl rfl ?_
    refine RL.store (i := 0) (j := 0) rfl rfl rfl ty24 rfl rfl hg3 rfl (if_pos rfl) rfl (by first | (simp [Value.cells, Value.oneCell']; done) | simp [Value.cells, Value.oneCell', putL]) (by first | exact Nat.le_of_ble_eq_true rfl | (simp; done) | (simp; omega) | omega) ?_
    rintro w4 hg4 hax4
    refine ⟨trivial, ?_⟩
    refine RL.pure rfl rfl rfl rfl ?_
    refine RL.done ?_
    exact CW.ret (ret (vs := [_, _]) ⟨_, _, _, rfl, rfl, loadVar_agg ty24 (put_same _ _ _) (hg4).1 rfl, _, _, rfl, rfl, rfl⟩ (Post.mk hle hg4 (hx3.trans hax4) (by rw [applyP, if_pos h0]; exact CShared.bad)))
  obtain ⟨z1, z2, z3, z4, z5⟩ := check_zero h0
  refine CW.seq (CW.plain ?_)
  refine RL.field rfl rfl rfl rfl fl33_1 rfl rfl ?_
  refine RL.load (j := 1) rfl rfl rfl rfl ty3 rfl (hQ) (hg3.sh) rfl ?_
  refine RL.callV rfl rfl rfl rfl rfl ca28 (rNode_ct hg3) ?_
  rintro v4 w4 hg4 hax4 rfl
  refine ⟨trivial, ?_⟩
  refine RL.pure rfl rfl rfl rfl ?_
  refine RL.done ?_
  have hx4 := hx3.trans hax4
  refine CW.seq (CW.seq (CW.plain ?_))
  refine RL.pure rfl rfl rfl rfl ?_
  refine RL.pure rfl rfl rfl rfl ?_
  refine RL.done ?_
  refine CW.cond rfl (fun hn0 => ?_) (fun hn0 => CW.skip ?_)
  · refine CW.seq (CW.plain ?_)
    refine RL.build rfl rfl rfl rfl ze24 pl24 rfl rfl ?_
    refine RL.store (i := 0) (j := 0) rfl rfl rfl ty24 rfl rfl hg4 rfl (if_pos rfl) rfl (by first | (simp [Value.cells, Value.oneCell']; done) | simp [Value.cells, Value.oneCell', putL]) (by first | exact Nat.le_of_ble_eq_true rfl | (simp; done) | (simp; omega) | omega) ?_
    rintro w5 hg5 hax5
    refine ⟨trivial, ?_⟩
    refine RL.pure rfl rfl rfl rfl ?_
    refine RL.done ?_
    exact CW.ret (ret (vs := [_, _]) ⟨_, _, _, rfl, rfl, loadVar_agg ty24 (put_same _ _ _) (hg5).1 rfl, _, _, rfl, rfl, rfl⟩ (Post.mk hle hg5 (hx4.trans hax5) (by rw [applyP, if_neg (by simpa using h0), if_pos (by simpa using hn0)]; exact CShared.bad)))
  have hn1 : ¬ node7 n = false := by simpa using hn0
  have hap : applyP c k n = if k = 1 then (if n ∈ c.voters ∨ n ∈ c.learners then (Conf.none, 82) else (⟨c.voters, insP n c.learners⟩, 0))
      else if k = 2 then (if n ∈ c.learners then (⟨insP n c.voters, delP n c.learners⟩, 0) else (Conf.none, 83))
      else if k = 3 then
        (if n ∈ c.voters ∧ c.voters.length = 1 then (Conf.none, 84)
        else if n ∈ c.voters then (⟨delP n c.voters, delP n c.learners⟩, 0)
        else if n ∈ c.learners then (⟨c.voters, delP n c.learners⟩, 0)
        else (Conf.none, 83))
      else (Conf.none, 1) := by rw [applyP, if_neg (by simpa using h0), if_neg hn1]
  rw [hap]
  refine CW.seq (CW.plain ?_)
  refine RL.field rfl rfl rfl rfl fl24_0 rfl rfl ?_
  refine RL.load (j := 0) rfl rfl rfl rfl ty22 rfl (hH) (hg4.sh) rfl ?_
  refine RL.field rfl rfl rfl rfl fl33_1 rfl rfl ?_
  refine RL.load (j := 1) rfl rfl rfl rfl ty3 rfl (hQ) (hg4.sh) rfl ?_
  refine RL.callV rfl rfl rfl rfl rfl ca21 (rIn_ct hg4 i1) ?_
  rintro v5 w5 hg5 hax5 rfl
  refine ⟨trivial, ?_⟩
  refine RL.pure rfl rfl rfl rfl ?_
  refine RL.done ?_
  refine CW.seq (CW.plain ?_)
  refine RL.field rfl rfl rfl rfl fl24_1 rfl rfl ?_
  refine RL.load (j := 1) rfl rfl rfl rfl ty22 rfl (hH) (hg5.sh) rfl ?_
  refine RL.field rfl rfl rfl rfl fl33_1 rfl rfl ?_
  refine RL.load (j := 1) rfl rfl rfl rfl ty3 rfl (hQ) (hg5.sh) rfl ?_
  refine RL.callV rfl rfl rfl rfl rfl ca21 (rIn_ct hg5 i2) ?_
  rintro v6 w6 hg6 hax6 rfl
  refine ⟨trivial, ?_⟩
  refine RL.pure rfl rfl rfl rfl ?_
  refine RL.done ?_
  have hx6 := hx4.trans (hax5.trans hax6)
  have hgD := hg6.drew
  refine CW.meet (fun E w' => ∃ s' T t a' c' b' d', E = [(2, ptr p), (3, ptr q), (4, ptr r), (8, .bool (decide (n ∈ c.voters))), (9, .bool (decide (n ∈ c.learners))), (10, ptr t)] ∧ T t = some (.cells #[.slice a' c.voters.length c', .slice b' c.learners.length d'] 24 (0, 0)) ∧
      Good w' s' (T :: Res.one r (.cells #[nilSl, nilSl] 24) :: os) ∧ Le s3 s' ∧ Aux w w' ∧ Ints s' a' c' c.voters ∧ Ints s' b' d' c.learners) ?_ ?_
  · refine CW.forks (.fork [(true, 1), (true, 2), (true, 5), (true, 6)] (.fork [(false, 0)] (.fork [(false, 3)] (.fork [(false, 4)] (.line [(false, 7), (true, 8), (false, 9), (false, 10)]) (.line [(false, 9), (false, 7), (true, 8), (false, 10)])) (.line [(false, 9), (false, 4), (false, 7), (true, 8), (false, 10)])) (.fork [] (.fork [(false, 4)] (.fork [(false, 3)] (.line [(false, 7), (true, 8), (false, 9), (false, 10)]) (.line [(false, 9), (false, 7), (true, 8), (false, 10)])) (.line [(false, 9), (false, 3), (false, 7), (true, 8), (false, 10)])) (.fork [(false, 9)] (.line [(false, 3), (false, 4), (false, 7), (true, 8), (false, 10)]) (.line [(false, 4), (false, 3), (false, 7), (true, 8), (false, 10)])))) (.fork [] (.fork [(false, 4)] (.fork [(false, 0)] (.fork [(false, 3)] (.line [(false, 7), (true, 8), (false, 9), (false, 10)]) (.line [(false, 9), (false, 7), (true, 8), (false, 10)])) (.line [(false, 9), (false, 3), (false, 7), (true, 8), (false, 10)])) (.line [(false, 9), (false, 0), (false, 3), (false, 7), (true, 8), (false, 10)])) (.fork [(false, 9)] (.fork [(false, 0)] (.line [(false, 3), (false, 4), (false, 7), (true, 8), (false, 10)]) (.line [(false, 4), (false, 3), (false, 7), (true, 8), (false, 10)])) (.line [(false, 4), (false, 0), (false, 3), (false, 7), (true, 8), (false, 10)])))) (fun w => In s3 w) mixed (by kernel_rfl) (by kernel_rfl) (by kernel_rfl) (by kernel_rfl) (hgD.sh) ?_
    refine RT.pre (S := fun w => In s3 w) (hgD.sh) ?_
    refine RL.field rfl rfl rfl rfl fl24_0 rfl rfl ?_
    refine RL.loadT (j := 0) rfl rfl rfl rfl ty22 rfl (hH) (fun w h => h) rfl ?_
    refine RL.field rfl rfl rfl rfl fl24_1 rfl rfl ?_
    refine RL.loadT (j := 1) rfl rfl rfl rfl ty22 rfl (hH) (fun w h => h) rfl ?_
    refine RL.done ?_
    refine RT.both (S := fun w => In s3 w) (hgD.sh) (RT.pre (S := fun w => In s3 w) (hgD.sh) ?_) (RT.pre (S := fun w => In s3 w) (hgD.sh) ?_)
    · refine RL.buildSlice rfl rfl rfl rfl sl22 ze3 rfl rfl rfl rfl hgD ?_
      rintro p33 w33 hg33 hax33
      refine ⟨hg33.sh, ?_⟩
      refine RL.done ?_
      refine RT.both (S := fun w => In s3 w) (hg33.sh) (RT.pre (S := fun w => In s3 w) (hg33.sh) ?_) (RT.pre (S := fun w => In s3 w) (hg33.sh) ?_)
      · obtain ⟨news36, hsrc36, hch36⟩ := Src.row (c := ac) sl22 i1.2.2 hg33.sh
        refine RL.append (i := 0) (ys := c.voters) rfl rfl rfl rfl sl22 ze3 rfl (by first | exact RInt.one _ | exact RStr.one | exact RBool.one | assumption) rfl rfl hg33 rfl (Own.fresh) (hsrc36) (hch36) ((by simp; omega)) (by omega) ?_
        rintro a36 c36 A36 w36 hg36 ho36 hax36 hk36
        refine ⟨hg36.sh, ?_⟩
        refine RL.done ?_
        refine RT.both (S := fun w => In s3 w) (hg36.sh) (RT.pre (S := fun w => In s3 w) (hg36.sh) ?_) (RT.end_ (S := fun w => In s3 w) (hg36.sh) ?_)
        · refine RL.buildSlice rfl rfl rfl rfl sl22 ze3 rfl rfl rfl rfl hg36 ?_
          rintro p37 w37 hg37 hax37
          refine ⟨hg37.sh, ?_⟩
          refine RL.done ?_
          refine RT.both (S := fun w => In s3 w) (hg37.sh) (RT.end_ (S := fun w => In s3 w) (hg37.sh) ?_) (RT.end_ (S := fun w => In s3 w) (hg37.sh) ?_)
          · obtain ⟨news40, hsrc40, hch40⟩ := Src.row (c := bc) sl22 i2.2.2 hg37.sh
            refine RL.append (i := 0) (ys := c.learners) rfl rfl rfl rfl sl22 ze3 rfl (by first | exact RInt.one _ | exact RStr.one | exact RBool.one | assumption) rfl rfl hg37 rfl (Own.fresh) (hsrc40) (hch40) ((by simp; omega)) (by omega) ?_
            rintro a40 c40 A40 w40 hg40 ho40 hax40 hk40
            refine ⟨hg40.sh, ?_⟩
            refine RL.build rfl rfl rfl rfl ze24 pl24 rfl rfl ?_
            refine RL.alloc rfl rfl rfl rfl ze24 hg40 ?_
            rintro p10 w10 hg10 hax10
            refine ⟨hg10.sh, ?_⟩
            refine RL.store (i := 0) (j := 0) rfl rfl rfl ty24 rfl rfl hg10 rfl (if_pos rfl) rfl (by first | (simp [Value.cells, Value.oneCell']; done) | simp [Value.cells, Value.oneCell', putL]) (by first | exact Nat.le_of_ble_eq_true rfl | (simp; done) | (simp; omega) | omega) ?_
            rintro wS hgS haxS
            refine ⟨hgS.sh, ?_⟩
            refine RL.done ?_
            obtain ⟨sA, hgA, hleA, hA⟩ := Good.letgo (((hgS.front 0 rfl).front 1 rfl).front 2 rfl)
            obtain ⟨sB, hgB, hleB, hB⟩ := Good.letgo hgA
            exact fun ac ha => ⟨_, ha.sub (E' := [(2, ptr p), (3, ptr q), (4, ptr r), (8, .bool (decide (n ∈ c.voters))), (9, .bool (decide (n ∈ c.learners))), (10, ptr p10)]) ⟨rfl, rfl, rfl, rfl, rfl, rfl, trivial⟩, sB, _, p10, a36, c36, a40, c40, rfl, put_same _ _ _, hgB, hleA.trans hleB, (hx6.trans (Aux.drew _)).trans ((hax33).trans ((hax36).trans ((hax37).trans ((hax40).trans ((hax10).trans (haxS)))))), ho36.imm (RInt.up _) (hleA.trans hleB) (hA.trans hleB), ho40.imm (RInt.up _) (hleA.trans hleB) hB⟩
          · refine RL.alloc rfl rfl rfl rfl ze24 hg37 ?_
            rintro p10 w10 hg10 hax10
            refine ⟨hg10.sh, ?_⟩
            obtain ⟨news40, hsrc40, hch40⟩ := Src.row (c := bc) sl22 i2.2.2 hg10.sh
            refine RL.append (i := 1) (ys := c.learners) rfl rfl rfl rfl sl22 ze3 rfl (by first | exact RInt.one _ | exact RStr.one | exact RBool.one | assumption) rfl rfl hg10 rfl (Own.fresh) (hsrc40) (hch40) ((by simp; omega)) (by omega) ?_
            rintro a40 c40 A40 w40 hg40 ho40 hax40 hk40
            refine ⟨hg40.sh, ?_⟩
            refine RL.build rfl rfl rfl rfl ze24 pl24 rfl rfl ?_
            refine RL.store (i := 0) (j := 0) rfl rfl rfl ty24 rfl rfl hg40 rfl (if_pos rfl) rfl (by first | (simp [Value.cells, Value.oneCell']; done) | simp [Value.cells, Value.oneCell', putL]) (by first | exact Nat.le_of_ble_eq_true rfl | (simp; done) | (simp; omega) | omega) ?_
            rintro wS hgS haxS
            refine ⟨hgS.sh, ?_⟩
            refine RL.done ?_
            obtain ⟨sA, hgA, hleA, hA⟩ := Good.letgo (((hgS.front 0 rfl).front 1 rfl).front 2 rfl)
            obtain ⟨sB, hgB, hleB, hB⟩ := Good.letgo hgA
            exact fun ac ha => ⟨_, ha.sub (E' := [(2, ptr p), (3, ptr q), (4, ptr r), (8, .bool (decide (n ∈ c.voters))), (9, .bool (decide (n ∈ c.learners))), (10, ptr p10)]) ⟨rfl, rfl, rfl, rfl, rfl, rfl, trivial⟩, sB, _, p10, a36, c36, a40, c40, rfl, put_same _ _ _, hgB, hleA.trans hleB, (hx6.trans (Aux.drew _)).trans ((hax33).trans ((hax36).trans ((hax37).trans ((hax10).trans ((hax40).trans (haxS)))))), ho36.imm (RInt.up _) (hleA.trans hleB) (hA.trans hleB), ho40.imm (RInt.up _) (hleA.trans hleB) hB⟩
        · refine RL.alloc rfl rfl rfl rfl ze24 hg36 ?_
          rintro p10 w10 hg10 hax10
          refine ⟨hg10.sh, ?_⟩
          refine RL.buildSlice rfl rfl rfl rfl sl22 ze3 rfl rfl rfl rfl hg10 ?_
          rintro p37 w37 hg37 hax37
          refine ⟨hg37.sh, ?_⟩
          obtain ⟨news40, hsrc40, hch40⟩ := Src.row (c := bc) sl22 i2.2.2 hg37.sh
          refine RL.append (i := 0) (ys := c.learners) rfl rfl rfl rfl sl22 ze3 rfl (by first | exact RInt.one _ | exact RStr.one | exact RBool.one | assumption) rfl rfl hg37 rfl (Own.fresh) (hsrc40) (hch40) ((by simp; omega)) (by omega) ?_
          rintro a40 c40 A40 w40 hg40 ho40 hax40 hk40
          refine ⟨hg40.sh, ?_⟩
          refine RL.build rfl rfl rfl rfl ze24 pl24 rfl rfl ?_
          refine RL.store (i := 1) (j := 0) rfl rfl rfl ty24 rfl rfl hg40 rfl (if_pos rfl) rfl (by first | (simp [Value.cells, Value.oneCell']; done) | simp [Value.cells, Value.oneCell', putL]) (by first | exact Nat.le_of_ble_eq_true rfl | (simp; done) | (simp; omega) | omega) ?_
          rintro wS hgS haxS
          refine ⟨hgS.sh, ?_⟩
          refine RL.done ?_
          obtain ⟨sA, hgA, hleA, hA⟩ := Good.letgo (((hgS.front 1 rfl).front 1 rfl).front 2 rfl)
          obtain ⟨sB, hgB, hleB, hB⟩ := Good.letgo hgA
          exact fun ac ha => ⟨_, ha.sub (E' := [(2, ptr p), (3, ptr q), (4, ptr r), (8, .bool (decide (n ∈ c.voters))), (9, .bool (decide (n ∈ c.learners))), (10, ptr p10)]) ⟨rfl, rfl, rfl, rfl, rfl, rfl, trivial⟩, sB, _, p10, a36, c36, a40, c40, rfl, put_same _ _ _, hgB, hleA.trans hleB, (hx6.trans (Aux.drew _)).trans ((hax33).trans ((hax36).trans ((hax10).trans ((hax37).trans ((hax40).trans (haxS)))))), ho36.imm (RInt.up _) (hleA.trans hleB) (hA.trans hleB), ho40.imm (RInt.up _) (hleA.trans hleB) hB⟩
      · refine RL.done ?_
        refine RT.both (S := fun w => In s3 w) (hg33.sh) (RT.pre (S := fun w => In s3 w) (hg33.sh) ?_) (RT.pre (S := fun w => In s3 w) (hg33.sh) ?_)
        · refine RL.buildSlice rfl rfl rfl rfl sl22 ze3 rfl rfl rfl rfl hg33 ?_
          rintro p37 w37 hg37 hax37
          refine ⟨hg37.sh, ?_⟩
          refine RL.done ?_
          refine RT.both (S := fun w => In s3 w) (hg37.sh) (RT.pre (S := fun w => In s3 w) (hg37.sh) ?_) (RT.end_ (S := fun w => In s3 w) (hg37.sh) ?_)
          · obtain ⟨news36, hsrc36, hch36⟩ := Src.row (c := ac) sl22 i1.2.2 hg37.sh
            refine RL.append (i := 1) (ys := c.voters) rfl rfl rfl rfl sl22 ze3 rfl (by first | exact RInt.one _ | exact RStr.one | exact RBool.one | assumption) rfl rfl hg37 rfl (Own.fresh) (hsrc36) (hch36) ((by simp; omega)) (by omega) ?_
            rintro a36 c36 A36 w36 hg36 ho36 hax36 hk36
            refine ⟨hg36.sh, ?_⟩
            refine RL.done ?_
            refine RT.both (S := fun w => In s3 w) (hg36.sh) (RT.end_ (S := fun w => In s3 w) (hg36.sh) ?_) (RT.end_ (S := fun w => In s3 w) (hg36.sh) ?_)
            · obtain ⟨news40, hsrc40, hch40⟩ := Src.row (c := bc) sl22 i2.2.2 hg36.sh
              refine RL.append (i := 0) (ys := c.learners) rfl rfl rfl rfl sl22 ze3 rfl (by first | exact RInt.one _ | exact RStr.one | exact RBool.one | assumption) rfl rfl hg36 rfl (Own.fresh) (hsrc40) (hch40) ((by simp; omega)) (by omega) ?_
              rintro a40 c40 A40 w40 hg40 ho40 hax40 hk40
              refine ⟨hg40.sh, ?_⟩
              refine RL.build rfl rfl rfl rfl ze24 pl24 rfl rfl ?_
              refine RL.alloc rfl rfl rfl rfl ze24 hg40 ?_
              rintro p10 w10 hg10 hax10
              refine ⟨hg10.sh, ?_⟩
              refine RL.store (i := 0) (j := 0) rfl rfl rfl ty24 rfl rfl hg10 rfl (if_pos rfl) rfl (by first | (simp [Value.cells, Value.oneCell']; done) | simp [Value.cells, Value.oneCell', putL]) (by first | exact Nat.le_of_ble_eq_true rfl | (simp; done) | (simp; omega) | omega) ?_
              rintro wS hgS haxS
              refine ⟨hgS.sh, ?_⟩
              refine RL.done ?_
              obtain ⟨sA, hgA, hleA, hA⟩ := Good.letgo (((hgS.front 0 rfl).front 1 rfl).front 2 rfl)
              obtain ⟨sB, hgB, hleB, hB⟩ := Good.letgo hgA
              exact fun ac ha => ⟨_, ha.sub (E' := [(2, ptr p), (3, ptr q), (4, ptr r), (8, .bool (decide (n ∈ c.voters))), (9, .bool (decide (n ∈ c.learners))), (10, ptr p10)]) ⟨rfl, rfl, rfl, rfl, rfl, rfl, trivial⟩, sB, _, p10, a36, c36, a40, c40, rfl, put_same _ _ _, hgB, hleA.trans hleB, (hx6.trans (Aux.drew _)).trans ((hax33).trans ((hax37).trans ((hax36).trans ((hax40).trans ((hax10).trans (haxS)))))), ho36.imm (RInt.up _) (hleA.trans hleB) (hA.trans hleB), ho40.imm (RInt.up _) (hleA.trans hleB) hB⟩
            · refine RL.alloc rfl rfl rfl rfl ze24 hg36 ?_
              rintro p10 w10 hg10 hax10
              refine ⟨hg10.sh, ?_⟩
              obtain ⟨news40, hsrc40, hch40⟩ := Src.row (c := bc) sl22 i2.2.2 hg10.sh
              refine RL.append (i := 1) (ys := c.learners) rfl rfl rfl rfl sl22 ze3 rfl (by first | exact RInt.one _ | exact RStr.one | exact RBool.one | assumption) rfl rfl hg10 rfl (Own.fresh) (hsrc40) (hch40) ((by simp; omega)) (by omega) ?_
              rintro a40 c40 A40 w40 hg40 ho40 hax40 hk40
              refine ⟨hg40.sh, ?_⟩
              refine RL.build rfl rfl rfl rfl ze24 pl24 rfl rfl ?_
              refine RL.store (i := 0) (j := 0) rfl rfl rfl ty24 rfl rfl hg40 rfl (if_pos rfl) rfl (by first | (simp [Value.cells, Value.oneCell']; done) | simp [Value.cells, Value.oneCell', putL]) (by first | exact Nat.le_of_ble_eq_true rfl | (simp; done) | (simp; omega) | omega) ?_
              rintro wS hgS haxS
              refine ⟨hgS.sh, ?_⟩
              refine RL.done ?_
              obtain ⟨sA, hgA, hleA, hA⟩ := Good.letgo (((hgS.front 0 rfl).front 1 rfl).front 2 rfl)
              obtain ⟨sB, hgB, hleB, hB⟩ := Good.letgo hgA
              exact fun ac ha => ⟨_, ha.sub (E' := [(2, ptr p), (3, ptr q), (4, ptr r), (8, .bool (decide (n ∈ c.voters))), (9, .bool (decide (n ∈ c.learners))), (10, ptr p10)]) ⟨rfl, rfl, rfl, rfl, rfl, rfl, trivial⟩, sB, _, p10, a36, c36, a40, c40, rfl, put_same _ _ _, hgB, hleA.trans hleB, (hx6.trans (Aux.drew _)).trans ((hax33).trans ((hax37).trans ((hax36).trans ((hax10).trans ((hax40).trans (haxS)))))), ho36.imm (RInt.up _) (hleA.trans hleB) (hA.trans hleB), ho40.imm (RInt.up _) (hleA.trans hleB) hB⟩
          · refine RL.alloc rfl rfl rfl rfl ze24 hg37 ?_
            rintro p10 w10 hg10 hax10
            refine ⟨hg10.sh, ?_⟩
            obtain ⟨news36, hsrc36, hch36⟩ := Src.row (c := ac) sl22 i1.2.2 hg10.sh
            refine RL.append (i := 2) (ys := c.voters) rfl rfl rfl rfl sl22 ze3 rfl (by first | exact RInt.one _ | exact RStr.one | exact RBool.one | assumption) rfl rfl hg10 rfl (Own.fresh) (hsrc36) (hch36) ((by simp; omega)) (by omega) ?_
            rintro a36 c36 A36 w36 hg36 ho36 hax36 hk36
            refine ⟨hg36.sh, ?_⟩
            obtain ⟨news40, hsrc40, hch40⟩ := Src.row (c := bc) sl22 i2.2.2 hg36.sh
            refine RL.append (i := 1) (ys := c.learners) rfl rfl rfl rfl sl22 ze3 rfl (by first | exact RInt.one _ | exact RStr.one | exact RBool.one | assumption) rfl rfl hg36 rfl (Own.fresh) (hsrc40) (hch40) ((by simp; omega)) (by omega) ?_
            rintro a40 c40 A40 w40 hg40 ho40 hax40 hk40
            refine ⟨hg40.sh, ?_⟩
            refine RL.build rfl rfl rfl rfl ze24 pl24 rfl rfl ?_
            refine RL.store (i := 0) (j := 0) rfl rfl rfl ty24 rfl rfl hg40 rfl (if_pos rfl) rfl (by first | (simp [Value.cells, Value.oneCell']; done) | simp [Value.cells, Value.oneCell', putL]) (by first | exact Nat.le_of_ble_eq_true rfl | (simp; done) | (simp; omega) | omega) ?_
            rintro wS hgS haxS
            refine ⟨hgS.sh, ?_⟩
            refine RL.done ?_
            obtain ⟨sA, hgA, hleA, hA⟩ := Good.letgo (((hgS.front 0 rfl).front 1 rfl).front 2 rfl)
            obtain ⟨sB, hgB, hleB, hB⟩ := Good.letgo hgA
            exact fun ac ha => ⟨_, ha.sub (E' := [(2, ptr p), (3, ptr q), (4, ptr r), (8, .bool (decide (n ∈ c.voters))), (9, .bool (decide (n ∈ c.learners))), (10, ptr p10)]) ⟨rfl, rfl, rfl, rfl, rfl, rfl, trivial⟩, sB, _, p10, a36, c36, a40, c40, rfl, put_same _ _ _, hgB, hleA.trans hleB, (hx6.trans (Aux.drew _)).trans ((hax33).trans ((hax37).trans ((hax10).trans ((hax36).trans ((hax40).trans (haxS)))))), ho36.imm (RInt.up _) (hleA.trans hleB) (hA.trans hleB), ho40.imm (RInt.up _) (hleA.trans hleB) hB⟩
        · refine RL.alloc rfl rfl rfl rfl ze24 hg33 ?_
          rintro p10 w10 hg10 hax10
          refine ⟨hg10.sh, ?_⟩
          refine RL.done ?_
          refine RT.both (S := fun w => In s3 w) (hg10.sh) (RT.end_ (S := fun w => In s3 w) (hg10.sh) ?_) (RT.end_ (S := fun w => In s3 w) (hg10.sh) ?_)
          · obtain ⟨news36, hsrc36, hch36⟩ := Src.row (c := ac) sl22 i1.2.2 hg10.sh
            refine RL.append (i := 1) (ys := c.voters) rfl rfl rfl rfl sl22 ze3 rfl (by first | exact RInt.one _ | exact RStr.one | exact RBool.one | assumption) rfl rfl hg10 rfl (Own.fresh) (hsrc36) (hch36) ((by simp; omega)) (by omega) ?_
            rintro a36 c36 A36 w36 hg36 ho36 hax36 hk36
            refine ⟨hg36.sh, ?_⟩
            refine RL.buildSlice rfl rfl rfl rfl sl22 ze3 rfl rfl rfl rfl hg36 ?_
            rintro p37 w37 hg37 hax37
            refine ⟨hg37.sh, ?_⟩
            obtain ⟨news40, hsrc40, hch40⟩ := Src.row (c := bc) sl22 i2.2.2 hg37.sh
            refine RL.append (i := 0) (ys := c.learners) rfl rfl rfl rfl sl22 ze3 rfl (by first | exact RInt.one _ | exact RStr.one | exact RBool.one | assumption) rfl rfl hg37 rfl (Own.fresh) (hsrc40) (hch40) ((by simp; omega)) (by omega) ?_
            rintro a40 c40 A40 w40 hg40 ho40 hax40 hk40
            refine ⟨hg40.sh, ?_⟩
            refine RL.build rfl rfl rfl rfl ze24 pl24 rfl rfl ?_
            refine RL.store (i := 1) (j := 0) rfl rfl rfl ty24 rfl rfl hg40 rfl (if_pos rfl) rfl (by first | (simp [Value.cells, Value.oneCell']; done) | simp [Value.cells, Value.oneCell', putL]) (by first | exact Nat.le_of_ble_eq_true rfl | (simp; done) | (simp; omega) | omega) ?_
            rintro wS hgS haxS
            refine ⟨hgS.sh, ?_⟩
            refine RL.done ?_
            obtain ⟨sA, hgA, hleA, hA⟩ := Good.letgo (((hgS.front 1 rfl).front 1 rfl).front 2 rfl)
            obtain ⟨sB, hgB, hleB, hB⟩ := Good.letgo hgA
            exact fun ac ha => ⟨_, ha.sub (E' := [(2, ptr p), (3, ptr q), (4, ptr r), (8, .bool (decide (n ∈ c.voters))), (9, .bool (decide (n ∈ c.learners))), (10, ptr p10)]) ⟨rfl, rfl, rfl, rfl, rfl, rfl, trivial⟩, sB, _, p10, a36, c36, a40, c40, rfl, put_same _ _ _, hgB, hleA.trans hleB, (hx6.trans (Aux.drew _)).trans ((hax33).trans ((hax10).trans ((hax36).trans ((hax37).trans ((hax40).trans (haxS)))))), ho36.imm (RInt.up _) (hleA.trans hleB) (hA.trans hleB), ho40.imm (RInt.up _) (hleA.trans hleB) hB⟩
          · refine RL.buildSlice rfl rfl rfl rfl sl22 ze3 rfl rfl rfl rfl hg10 ?_
            rintro p37 w37 hg37 hax37
            refine ⟨hg37.sh, ?_⟩
            obtain ⟨news36, hsrc36, hch36⟩ := Src.row (c := ac) sl22 i1.2.2 hg37.sh
            refine RL.append (i := 2) (ys := c.voters) rfl rfl rfl rfl sl22 ze3 rfl (by first | exact RInt.one _ | exact RStr.one | exact RBool.one | assumption) rfl rfl hg37 rfl (Own.fresh) (hsrc36) (hch36) ((by simp; omega)) (by omega) ?_
            rintro a36 c36 A36 w36 hg36 ho36 hax36 hk36
            refine ⟨hg36.sh, ?_⟩
            obtain ⟨news40, hsrc40, hch40⟩ := Src.row (c := bc) sl22 i2.2.2 hg36.sh
            refine RL.append (i := 0) (ys := c.learners) rfl rfl rfl rfl sl22 ze3 rfl (by first | exact RInt.one _ | exact RStr.one | exact RBool.one | assumption) rfl rfl hg36 rfl (Own.fresh) (hsrc40) (hch40) ((by simp; omega)) (by omega) ?_
            rintro a40 c40 A40 w40 hg40 ho40 hax40 hk40
            refine ⟨hg40.sh, ?_⟩
            refine RL.build rfl rfl rfl rfl ze24 pl24 rfl rfl ?_
            refine RL.store (i := 1) (j := 0) rfl rfl rfl ty24 rfl rfl hg40 rfl (if_pos rfl) rfl (by first | (simp [Value.cells, Value.oneCell']; done) | simp [Value.cells, Value.oneCell', putL]) (by first | exact Nat.le_of_ble_eq_true rfl | (simp; done) | (simp; omega) | omega) ?_
            rintro wS hgS haxS
            refine ⟨hgS.sh, ?_⟩
            refine RL.done ?_
            obtain ⟨sA, hgA, hleA, hA⟩ := Good.letgo (((hgS.front 1 rfl).front 1 rfl).front 2 rfl)
            obtain ⟨sB, hgB, hleB, hB⟩ := Good.letgo hgA
            exact fun ac ha => ⟨_, ha.sub (E' := [(2, ptr p), (3, ptr q), (4, ptr r), (8, .bool (decide (n ∈ c.voters))), (9, .bool (decide (n ∈ c.learners))), (10, ptr p10)]) ⟨rfl, rfl, rfl, rfl, rfl, rfl, trivial⟩, sB, _, p10, a36, c36, a40, c40, rfl, put_same _ _ _, hgB, hleA.trans hleB, (hx6.trans (Aux.drew _)).trans ((hax33).trans ((hax10).trans ((hax37).trans ((hax36).trans ((hax40).trans (haxS)))))), ho36.imm (RInt.up _) (hleA.trans hleB) (hA.trans hleB), ho40.imm (RInt.up _) (hleA.trans hleB) hB⟩
    · refine RL.done ?_
      refine RT.both (S := fun w => In s3 w) (hgD.sh) (RT.pre (S := fun w => In s3 w) (hgD.sh) ?_) (RT.pre (S := fun w => In s3 w) (hgD.sh) ?_)
      · refine RL.buildSlice rfl rfl rfl rfl sl22 ze3 rfl rfl rfl rfl hgD ?_
        rintro p37 w37 hg37 hax37
        refine ⟨hg37.sh, ?_⟩
        refine RL.done ?_
        refine RT.both (S := fun w => In s3 w) (hg37.sh) (RT.pre (S := fun w => In s3 w) (hg37.sh) ?_) (RT.end_ (S := fun w => In s3 w) (hg37.sh) ?_)
        · refine RL.buildSlice rfl rfl rfl rfl sl22 ze3 rfl rfl rfl rfl hg37 ?_
          rintro p33 w33 hg33 hax33
          refine ⟨hg33.sh, ?_⟩
          refine RL.done ?_
          refine RT.both (S := fun w => In s3 w) (hg33.sh) (RT.pre (S := fun w => In s3 w) (hg33.sh) ?_) (RT.end_ (S := fun w => In s3 w) (hg33.sh) ?_)
          · obtain ⟨news36, hsrc36, hch36⟩ := Src.row (c := ac) sl22 i1.2.2 hg33.sh
            refine RL.append (i := 0) (ys := c.voters) rfl rfl rfl rfl sl22 ze3 rfl (by first | exact RInt.one _ | exact RStr.one | exact RBool.one | assumption) rfl rfl hg33 rfl (Own.fresh) (hsrc36) (hch36) ((by simp; omega)) (by omega) ?_
            rintro a36 c36 A36 w36 hg36 ho36 hax36 hk36
            refine ⟨hg36.sh, ?_⟩
            refine RL.done ?_
            refine RT.both (S := fun w => In s3 w) (hg36.sh) (RT.end_ (S := fun w => In s3 w) (hg36.sh) ?_) (RT.end_ (S := fun w => In s3 w) (hg36.sh) ?_)
            · obtain ⟨news40, hsrc40, hch40⟩ := Src.row (c := bc) sl22 i2.2.2 hg36.sh
              refine RL.append (i := 1) (ys := c.learners) rfl rfl rfl rfl sl22 ze3 rfl (by first | exact RInt.one _ | exact RStr.one | exact RBool.one | assumption) rfl rfl hg36 rfl (Own.fresh) (hsrc40) (hch40) ((by simp; omega)) (by omega) ?_
              rintro a40 c40 A40 w40 hg40 ho40 hax40 hk40
              refine ⟨hg40.sh, ?_⟩
              refine RL.build rfl rfl rfl rfl ze24 pl24 rfl rfl ?_
              refine RL.alloc rfl rfl rfl rfl ze24 hg40 ?_
              rintro p10 w10 hg10 hax10
              refine ⟨hg10.sh, ?_⟩
              refine RL.store (i := 0) (j := 0) rfl rfl rfl ty24 rfl rfl hg10 rfl (if_pos rfl) rfl (by first | (simp [Value.cells, Value.oneCell']; done) | simp [Value.cells, Value.oneCell', putL]) (by first | exact Nat.le_of_ble_eq_true rfl | (simp; done) | (simp; omega) | omega) ?_
              rintro wS hgS haxS
              refine ⟨hgS.sh, ?_⟩
              refine RL.done ?_
              obtain ⟨sA, hgA, hleA, hA⟩ := Good.letgo (((hgS.front 0 rfl).front 2 rfl).front 2 rfl)
              obtain ⟨sB, hgB, hleB, hB⟩ := Good.letgo hgA
              exact fun ac ha => ⟨_, ha.sub (E' := [(2, ptr p), (3, ptr q), (4, ptr r), (8, .bool (decide (n ∈ c.voters))), (9, .bool (decide (n ∈ c.learners))), (10, ptr p10)]) ⟨rfl, rfl, rfl, rfl, rfl, rfl, trivial⟩, sB, _, p10, a36, c36, a40, c40, rfl, put_same _ _ _, hgB, hleA.trans hleB, (hx6.trans (Aux.drew _)).trans ((hax37).trans ((hax33).trans ((hax36).trans ((hax40).trans ((hax10).trans (haxS)))))), ho36.imm (RInt.up _) (hleA.trans hleB) (hA.trans hleB), ho40.imm (RInt.up _) (hleA.trans hleB) hB⟩
            · refine RL.alloc rfl rfl rfl rfl ze24 hg36 ?_
              rintro p10 w10 hg10 hax10
              refine ⟨hg10.sh, ?_⟩
              obtain ⟨news40, hsrc40, hch40⟩ := Src.row (c := bc) sl22 i2.2.2 hg10.sh
              refine RL.append (i := 2) (ys := c.learners) rfl rfl rfl rfl sl22 ze3 rfl (by first | exact RInt.one _ | exact RStr.one | exact RBool.one | assumption) rfl rfl hg10 rfl (Own.fresh) (hsrc40) (hch40) ((by simp; omega)) (by omega) ?_
              rintro a40 c40 A40 w40 hg40 ho40 hax40 hk40
              refine ⟨hg40.sh, ?_⟩
              refine RL.build rfl rfl rfl rfl ze24 pl24 rfl rfl ?_
              refine RL.store (i := 0) (j := 0) rfl rfl rfl ty24 rfl rfl hg40 rfl (if_pos rfl) rfl (by first | (simp [Value.cells, Value.oneCell']; done) | simp [Value.cells, Value.oneCell', putL]) (by first | exact Nat.le_of_ble_eq_true rfl | (simp; done) | (simp; omega) | omega) ?_
              rintro wS hgS haxS
              refine ⟨hgS.sh, ?_⟩
              refine RL.done ?_
              obtain ⟨sA, hgA, hleA, hA⟩ := Good.letgo (((hgS.front 0 rfl).front 2 rfl).front 2 rfl)
              obtain ⟨sB, hgB, hleB, hB⟩ := Good.letgo hgA
              exact fun ac ha => ⟨_, ha.sub (E' := [(2, ptr p), (3, ptr q), (4, ptr r), (8, .bool (decide (n ∈ c.voters))), (9, .bool (decide (n ∈ c.learners))), (10, ptr p10)]) ⟨rfl, rfl, rfl, rfl, rfl, rfl, trivial⟩, sB, _, p10, a36, c36, a40, c40, rfl, put_same _ _ _, hgB, hleA.trans hleB, (hx6.trans (Aux.drew _)).trans ((hax37).trans ((hax33).trans ((hax36).trans ((hax10).trans ((hax40).trans (haxS)))))), ho36.imm (RInt.up _) (hleA.trans hleB) (hA.trans hleB), ho40.imm (RInt.up _) (hleA.trans hleB) hB⟩
          · refine RL.alloc rfl rfl rfl rfl ze24 hg33 ?_
            rintro p10 w10 hg10 hax10
            refine ⟨hg10.sh, ?_⟩
            obtain ⟨news36, hsrc36, hch36⟩ := Src.row (c := ac) sl22 i1.2.2 hg10.sh
            refine RL.append (i := 1) (ys := c.voters) rfl rfl rfl rfl sl22 ze3 rfl (by first | exact RInt.one _ | exact RStr.one | exact RBool.one | assumption) rfl rfl hg10 rfl (Own.fresh) (hsrc36) (hch36) ((by simp; omega)) (by omega) ?_
            rintro a36 c36 A36 w36 hg36 ho36 hax36 hk36
            refine ⟨hg36.sh, ?_⟩
            obtain ⟨news40, hsrc40, hch40⟩ := Src.row (c := bc) sl22 i2.2.2 hg36.sh
            refine RL.append (i := 2) (ys := c.learners) rfl rfl rfl rfl sl22 ze3 rfl (by first | exact RInt.one _ | exact RStr.one | exact RBool.one | assumption) rfl rfl hg36 rfl (Own.fresh) (hsrc40) (hch40) ((by simp; omega)) (by omega) ?_
            rintro a40 c40 A40 w40 hg40 ho40 hax40 hk40
            refine ⟨hg40.sh, ?_⟩
            refine RL.build rfl rfl rfl rfl ze24 pl24 rfl rfl ?_
            refine RL.store (i := 0) (j := 0) rfl rfl rfl ty24 rfl rfl hg40 rfl (if_pos rfl) rfl (by first | (simp [Value.cells, Value.oneCell']; done) | simp [Value.cells, Value.oneCell', putL]) (by first | exact Nat.le_of_ble_eq_true rfl | (simp; done) | (simp; omega) | omega) ?_
            rintro wS hgS haxS
            refine ⟨hgS.sh, ?_⟩
            refine RL.done ?_
            obtain ⟨sA, hgA, hleA, hA⟩ := Good.letgo (((hgS.front 0 rfl).front 2 rfl).front 2 rfl)
            obtain ⟨sB, hgB, hleB, hB⟩ := Good.letgo hgA
            exact fun ac ha => ⟨_, ha.sub (E' := [(2, ptr p), (3, ptr q), (4, ptr r), (8, .bool (decide (n ∈ c.voters))), (9, .bool (decide (n ∈ c.learners))), (10, ptr p10)]) ⟨rfl, rfl, rfl, rfl, rfl, rfl, trivial⟩, sB, _, p10, a36, c36, a40, c40, rfl, put_same _ _ _, hgB, hleA.trans hleB, (hx6.trans (Aux.drew _)).trans ((hax37).trans ((hax33).trans ((hax10).trans ((hax36).trans ((hax40).trans (haxS)))))), ho36.imm (RInt.up _) (hleA.trans hleB) (hA.trans hleB), ho40.imm (RInt.up _) (hleA.trans hleB) hB⟩
        · refine RL.alloc rfl rfl rfl rfl ze24 hg37 ?_
          rintro p10 w10 hg10 hax10
          refine ⟨hg10.sh, ?_⟩
          refine RL.buildSlice rfl rfl rfl rfl sl22 ze3 rfl rfl rfl rfl hg10 ?_
          rintro p33 w33 hg33 hax33
          refine ⟨hg33.sh, ?_⟩
          obtain ⟨news36, hsrc36, hch36⟩ := Src.row (c := ac) sl22 i1.2.2 hg33.sh
          refine RL.append (i := 0) (ys := c.voters) rfl rfl rfl rfl sl22 ze3 rfl (by first | exact RInt.one _ | exact RStr.one | exact RBool.one | assumption) rfl rfl hg33 rfl (Own.fresh) (hsrc36) (hch36) ((by simp; omega)) (by omega) ?_
          rintro a36 c36 A36 w36 hg36 ho36 hax36 hk36
          refine ⟨hg36.sh, ?_⟩
          obtain ⟨news40, hsrc40, hch40⟩ := Src.row (c := bc) sl22 i2.2.2 hg36.sh
          refine RL.append (i := 2) (ys := c.learners) rfl rfl rfl rfl sl22 ze3 rfl (by first | exact RInt.one _ | exact RStr.one | exact RBool.one | assumption) rfl rfl hg36 rfl (Own.fresh) (hsrc40) (hch40) ((by simp; omega)) (by omega) ?_
          rintro a40 c40 A40 w40 hg40 ho40 hax40 hk40
          refine ⟨hg40.sh, ?_⟩
          refine RL.build rfl rfl rfl rfl ze24 pl24 rfl rfl ?_
          refine RL.store (i := 1) (j := 0) rfl rfl rfl ty24 rfl rfl hg40 rfl (if_pos rfl) rfl (by first | (simp [Value.cells, Value.oneCell']; done) | simp [Value.cells, Value.oneCell', putL]) (by first | exact Nat.le_of_ble_eq_true rfl | (simp; done) | (simp; omega) | omega) ?_
          rintro wS hgS haxS
          refine ⟨hgS.sh, ?_⟩
          refine RL.done ?_
          obtain ⟨sA, hgA, hleA, hA⟩ := Good.letgo (((hgS.front 1 rfl).front 2 rfl).front 2 rfl)
          obtain ⟨sB, hgB, hleB, hB⟩ := Good.letgo hgA
          exact fun ac ha => ⟨_, ha.sub (E' := [(2, ptr p), (3, ptr q), (4, ptr r), (8, .bool (decide (n ∈ c.voters))), (9, .bool (decide (n ∈ c.learners))), (10, ptr p10)]) ⟨rfl, rfl, rfl, rfl, rfl, rfl, trivial⟩, sB, _, p10, a36, c36, a40, c40, rfl, put_same _ _ _, hgB, hleA.trans hleB, (hx6.trans (Aux.drew _)).trans ((hax37).trans ((hax10).trans ((hax33).trans ((hax36).trans ((hax40).trans (haxS)))))), ho36.imm (RInt.up _) (hleA.trans hleB) (hA.trans hleB), ho40.imm (RInt.up _) (hleA.trans hleB) hB⟩
      · refine RL.alloc rfl rfl rfl rfl ze24 hgD ?_
        rintro p10 w10 hg10 hax10
        refine ⟨hg10.sh, ?_⟩
        refine RL.done ?_
        refine RT.both (S := fun w => In s3 w) (hg10.sh) (RT.pre (S := fun w => In s3 w) (hg10.sh) ?_) (RT.end_ (S := fun w => In s3 w) (hg10.sh) ?_)
        · refine RL.buildSlice rfl rfl rfl rfl sl22 ze3 rfl rfl rfl rfl hg10 ?_
          rintro p33 w33 hg33 hax33
          refine ⟨hg33.sh, ?_⟩
          refine RL.done ?_
          refine RT.both (S := fun w => In s3 w) (hg33.sh) (RT.end_ (S := fun w => In s3 w) (hg33.sh) ?_) (RT.end_ (S := fun w => In s3 w) (hg33.sh) ?_)
          · obtain ⟨news36, hsrc36, hch36⟩ := Src.row (c := ac) sl22 i1.2.2 hg33.sh
            refine RL.append (i := 0) (ys := c.voters) rfl rfl rfl rfl sl22 ze3 rfl (by first | exact RInt.one _ | exact RStr.one | exact RBool.one | assumption) rfl rfl hg33 rfl (Own.fresh) (hsrc36) (hch36) ((by simp; omega)) (by omega) ?_
            rintro a36 c36 A36 w36 hg36 ho36 hax36 hk36
            refine ⟨hg36.sh, ?_⟩
            refine RL.buildSlice rfl rfl rfl rfl sl22 ze3 rfl rfl rfl rfl hg36 ?_
            rintro p37 w37 hg37 hax37
            refine ⟨hg37.sh, ?_⟩
            obtain ⟨news40, hsrc40, hch40⟩ := Src.row (c := bc) sl22 i2.2.2 hg37.sh
            refine RL.append (i := 0) (ys := c.learners) rfl rfl rfl rfl sl22 ze3 rfl (by first | exact RInt.one _ | exact RStr.one | exact RBool.one | assumption) rfl rfl hg37 rfl (Own.fresh) (hsrc40) (hch40) ((by simp; omega)) (by omega) ?_
            rintro a40 c40 A40 w40 hg40 ho40 hax40 hk40
            refine ⟨hg40.sh, ?_⟩
            refine RL.build rfl rfl rfl rfl ze24 pl24 rfl rfl ?_
            refine RL.store (i := 2) (j := 0) rfl rfl rfl ty24 rfl rfl hg40 rfl (if_pos rfl) rfl (by first | (simp [Value.cells, Value.oneCell']; done) | simp [Value.cells, Value.oneCell', putL]) (by first | exact Nat.le_of_ble_eq_true rfl | (simp; done) | (simp; omega) | omega) ?_
            rintro wS hgS haxS
            refine ⟨hgS.sh, ?_⟩
            refine RL.done ?_
            obtain ⟨sA, hgA, hleA, hA⟩ := Good.letgo (((hgS.front 2 rfl).front 1 rfl).front 2 rfl)
            obtain ⟨sB, hgB, hleB, hB⟩ := Good.letgo hgA
            exact fun ac ha => ⟨_, ha.sub (E' := [(2, ptr p), (3, ptr q), (4, ptr r), (8, .bool (decide (n ∈ c.voters))), (9, .bool (decide (n ∈ c.learners))), (10, ptr p10)]) ⟨rfl, rfl, rfl, rfl, rfl, rfl, trivial⟩, sB, _, p10, a36, c36, a40, c40, rfl, put_same _ _ _, hgB, hleA.trans hleB, (hx6.trans (Aux.drew _)).trans ((hax10).trans ((hax33).trans ((hax36).trans ((hax37).trans ((hax40).trans (haxS)))))), ho36.imm (RInt.up _) (hleA.trans hleB) (hA.trans hleB), ho40.imm (RInt.up _) (hleA.trans hleB) hB⟩
          · refine RL.buildSlice rfl rfl rfl rfl sl22 ze3 rfl rfl rfl rfl hg33 ?_
            rintro p37 w37 hg37 hax37
            refine ⟨hg37.sh, ?_⟩
            obtain ⟨news36, hsrc36, hch36⟩ := Src.row (c := ac) sl22 i1.2.2 hg37.sh
            refine RL.append (i := 1) (ys := c.voters) rfl rfl rfl rfl sl22 ze3 rfl (by first | exact RInt.one _ | exact RStr.one | exact RBool.one | assumption) rfl rfl hg37 rfl (Own.fresh) (hsrc36) (hch36) ((by simp; omega)) (by omega) ?_
            rintro a36 c36 A36 w36 hg36 ho36 hax36 hk36
            refine ⟨hg36.sh, ?_⟩
            obtain ⟨news40, hsrc40, hch40⟩ := Src.row (c := bc) sl22 i2.2.2 hg36.sh
            refine RL.append (i := 0) (ys := c.learners) rfl rfl rfl rfl sl22 ze3 rfl (by first | exact RInt.one _ | exact RStr.one | exact RBool.one | assumption) rfl rfl hg36 rfl (Own.fresh) (hsrc40) (hch40) ((by simp; omega)) (by omega) ?_
            rintro a40 c40 A40 w40 hg40 ho40 hax40 hk40
            refine ⟨hg40.sh, ?_⟩
            refine RL.build rfl rfl rfl rfl ze24 pl24 rfl rfl ?_
            refine RL.store (i := 2) (j := 0) rfl rfl rfl ty24 rfl rfl hg40 rfl (if_pos rfl) rfl (by first | (simp [Value.cells, Value.oneCell']; done) | simp [Value.cells, Value.oneCell', putL]) (by first | exact Nat.le_of_ble_eq_true rfl | (simp; done) | (simp; omega) | omega) ?_
            rintro wS hgS haxS
            refine ⟨hgS.sh, ?_⟩
            refine RL.done ?_
            obtain ⟨sA, hgA, hleA, hA⟩ := Good.letgo (((hgS.front 2 rfl).front 1 rfl).front 2 rfl)
            obtain ⟨sB, hgB, hleB, hB⟩ := Good.letgo hgA
            exact fun ac ha => ⟨_, ha.sub (E' := [(2, ptr p), (3, ptr q), (4, ptr r), (8, .bool (decide (n ∈ c.voters))), (9, .bool (decide (n ∈ c.learners))), (10, ptr p10)]) ⟨rfl, rfl, rfl, rfl, rfl, rfl, trivial⟩, sB, _, p10, a36, c36, a40, c40, rfl, put_same _ _ _, hgB, hleA.trans hleB, (hx6.trans (Aux.drew _)).trans ((hax10).trans ((hax33).trans ((hax37).trans ((hax36).trans ((hax40).trans (haxS)))))), ho36.imm (RInt.up _) (hleA.trans hleB) (hA.trans hleB), ho40.imm (RInt.up _) (hleA.trans hleB) hB⟩
        · refine RL.buildSlice rfl rfl rfl rfl sl22 ze3 rfl rfl rfl rfl hg10 ?_
          rintro p37 w37 hg37 hax37
          refine ⟨hg37.sh, ?_⟩
          refine RL.buildSlice rfl rfl rfl rfl sl22 ze3 rfl rfl rfl rfl hg37 ?_
          rintro p33 w33 hg33 hax33
          refine ⟨hg33.sh, ?_⟩
          obtain ⟨news36, hsrc36, hch36⟩ := Src.row (c := ac) sl22 i1.2.2 hg33.sh
          refine RL.append (i := 0) (ys := c.voters) rfl rfl rfl rfl sl22 ze3 rfl (by first | exact RInt.one _ | exact RStr.one | exact RBool.one | assumption) rfl rfl hg33 rfl (Own.fresh) (hsrc36) (hch36) ((by simp; omega)) (by omega) ?_
          rintro a36 c36 A36 w36 hg36 ho36 hax36 hk36
          refine ⟨hg36.sh, ?_⟩
          obtain ⟨news40, hsrc40, hch40⟩ := Src.row (c := bc) sl22 i2.2.2 hg36.sh
          refine RL.append (i := 1) (ys := c.learners) rfl rfl rfl rfl sl22 ze3 rfl (by first | exact RInt.one _ | exact RStr.one | exact RBool.one | assumption) rfl rfl hg36 rfl (Own.fresh) (hsrc40) (hch40) ((by simp; omega)) (by omega) ?_
          rintro a40 c40 A40 w40 hg40 ho40 hax40 hk40
          refine ⟨hg40.sh, ?_⟩
          refine RL.build rfl rfl rfl rfl ze24 pl24 rfl rfl ?_
          refine RL.store (i := 2) (j := 0) rfl rfl rfl ty24 rfl rfl hg40 rfl (if_pos rfl) rfl (by first | (simp [Value.cells, Value.oneCell']; done) | simp [Value.cells, Value.oneCell', putL]) (by first | exact Nat.le_of_ble_eq_true rfl | (simp; done) | (simp; omega) | omega) ?_
          rintro wS hgS haxS
          refine ⟨hgS.sh, ?_⟩
          refine RL.done ?_
          obtain ⟨sA, hgA, hleA, hA⟩ := Good.letgo (((hgS.front 2 rfl).front 2 rfl).front 2 rfl)
          obtain ⟨sB, hgB, hleB, hB⟩ := Good.letgo hgA
          exact fun ac ha => ⟨_, ha.sub (E' := [(2, ptr p), (3, ptr q), (4, ptr r), (8, .bool (decide (n ∈ c.voters))), (9, .bool (decide (n ∈ c.learners))), (10, ptr p10)]) ⟨rfl, rfl, rfl, rfl, rfl, rfl, trivial⟩, sB, _, p10, a36, c36, a40, c40, rfl, put_same _ _ _, hgB, hleA.trans hleB, (hx6.trans (Aux.drew _)).trans ((hax10).trans ((hax37).trans ((hax33).trans ((hax36).trans ((hax40).trans (haxS)))))), ho36.imm (RInt.up _) (hleA.trans hleB) (hA.trans hleB), ho40.imm (RInt.up _) (hleA.trans hleB) hB⟩
  clear hg0 hg1 hg2 hg3 hg4 hg5 hg6 hgD hx6
  rintro E w8 ⟨s8, T8, t, a', c', b', d', rfl, hT8, hg8, hle8, hx8, j1, j2⟩
  have hH := hH.le hle8
  have hQ := hQ.le hle8
  have i1 := i1.up (RInt.up _) hle8
  have i2 := i2.up (RInt.up _) hle8
  have hle := hle.trans hle8
  refine CW.meet (fun E w' => ∃ s' T a' c' b' d', ∃ x : Conf, E = [(4, ptr r), (10, ptr t)] ∧ T t = some (.cells #[.slice a' x.voters.length c', .slice b' x.learners.length d'] 24 (0, 0)) ∧ Good w' s' (T :: Res.one r (.cells #[nilSl, nilSl] 24) :: os) ∧ Le s8 s' ∧ Aux w w' ∧ Ints s' a' c' x.voters ∧ Ints s' b' d' x.learners ∧ applyP c k n = (x, 0)) ?_ ?_
  · refine CW.seq (CW.plain ?_)
    refine RL.field rfl rfl rfl rfl fl33_0 rfl rfl ?_
    refine RL.load (j := 0) rfl rfl rfl rfl ty31 rfl (hQ) (hg8.sh) rfl ?_
    refine RL.done ?_
    refine CW.block (CW.seq (CW.plain ?_))
    refine RL.pure rfl rfl rfl rfl ?_
    refine RL.pure rfl rfl rfl rfl ?_
    refine RL.done ?_
    refine CW.eq rfl (fun k1 => ?_) (fun k1 => ?_)
    · rw [if_pos k1] at hap ⊢
      refine CW.seq (CW.seq (CW.plain ?_))
      refine RL.pure rfl rfl rfl rfl ?_
      refine RL.pure rfl rfl rfl rfl ?_
      refine RL.part 48 rfl (fun h1 => ?_) (fun h1 => ?_)
      · refine RL.pass rfl rfl rfl ?_
        refine RL.pure rfl rfl rfl rfl ?_
        refine RL.done ?_
        refine CW.yes rfl (CW.seq (CW.plain ?_))
        refine RL.build rfl rfl rfl rfl ze24 pl24 rfl rfl ?_
        refine RL.store (i := 1) (j := 0) rfl rfl rfl ty24 rfl rfl hg8 rfl (if_pos rfl) rfl (by first | (simp [Value.cells, Value.oneCell']; done) | simp [Value.cells, Value.oneCell', putL]) (by first | exact Nat.le_of_ble_eq_true rfl | (simp; done) | (simp; omega) | omega) ?_
        rintro w9 hg9 hax9
        refine ⟨trivial, ?_⟩
        refine RL.pure rfl rfl rfl rfl ?_
        refine RL.done ?_
        exact CW.ret (ret (vs := [_, _]) ⟨_, _, _, rfl, rfl, loadVar_agg ty24 (put_same _ _ _) (hg9).drop.1 rfl, _, _, rfl, rfl, rfl⟩ (Post.mk hle (hg9).drop (hx8.trans hax9) (by rw [if_pos (.inl (of_decide_eq_true h1))]; exact CShared.bad)))
      have h1 := of_decide_eq_false h1
      refine RL.pure rfl rfl rfl rfl ?_
      refine RL.pure rfl rfl rfl rfl ?_
      refine RL.done ?_
      refine CW.cond rfl (fun h2 => ?_) (fun h2 => CW.skip ?_)
      · refine CW.seq (CW.plain ?_)
        refine RL.build rfl rfl rfl rfl ze24 pl24 rfl rfl ?_
        refine RL.store (i := 1) (j := 0) rfl rfl rfl ty24 rfl rfl hg8 rfl (if_pos rfl) rfl (by first | (simp [Value.cells, Value.oneCell']; done) | simp [Value.cells, Value.oneCell', putL]) (by first | exact Nat.le_of_ble_eq_true rfl | (simp; done) | (simp; omega) | omega) ?_
        rintro w9 hg9 hax9
        refine ⟨trivial, ?_⟩
        refine RL.pure rfl rfl rfl rfl ?_
        refine RL.done ?_
        exact CW.ret (ret (vs := [_, _]) ⟨_, _, _, rfl, rfl, loadVar_agg ty24 (put_same _ _ _) (hg9).drop.1 rfl, _, _, rfl, rfl, rfl⟩ (Post.mk hle (hg9).drop (hx8.trans hax9) (by rw [if_pos (.inr (of_decide_eq_true h2))]; exact CShared.bad)))
      have h2 := of_decide_eq_false h2
      rw [if_neg (show ¬ (n ∈ c.voters ∨ n ∈ c.learners) from fun h => h.elim h1 h2), ← insR_eq z3 h2] at hap
      refine CW.plain ?_
      refine RL.field rfl rfl rfl rfl fl24_1 rfl rfl ?_
      refine RL.load (j := 1) rfl rfl rfl rfl ty22 rfl (hH) (hg8.sh) rfl ?_
      refine RL.field rfl rfl rfl rfl fl33_1 rfl rfl ?_
      refine RL.load (j := 1) rfl rfl rfl rfl ty3 rfl (hQ) (hg8.sh) rfl ?_
      refine RL.call rfl rfl rfl rfl rfl ca29 (rWith_ct hg8 i2 hn (by omega)) ?_
      rintro v9 s9 A9 w9 hle9 hg9 hax9 ⟨rfl, a9, c9, rfl, ho9⟩
      refine ⟨trivial, ?_⟩
      refine RL.field rfl rfl rfl rfl fl24_1 rfl rfl ?_
      refine RL.store (i := 1) (j := 1) rfl rfl rfl ty22 rfl rfl hg9 rfl (hT8) rfl (by first | (simp [Value.cells, Value.oneCell']; done) | simp [Value.cells, Value.oneCell', putL]) (by first | exact Nat.le_of_ble_eq_true rfl | (simp; done) | (simp; omega) | omega) ?_
      rintro w10 hg10 hax10
      refine ⟨trivial, ?_⟩
      refine RL.done ?_
      obtain ⟨s11, hg11, hle11, hA11⟩ := Good.letgo hg10
      exact fun ac ha => ⟨_, ha.sub (E' := [(4, ptr r), (10, ptr t)]) ⟨rfl, rfl, trivial⟩, s11, _, a', c', a9, c9, ⟨c.voters, insR n c.learners⟩, rfl, put_same _ _ _, hg11, hle11, hx8.trans (hax9.trans hax10), j1.up (RInt.up _) hle11, ho9.imm (RInt.up _) hle11 hA11, hap⟩
    rw [if_neg k1] at hap ⊢
    refine CW.seq (CW.plain ?_)
    refine RL.pure rfl rfl rfl rfl ?_
    refine RL.pure rfl rfl rfl rfl ?_
    refine RL.done ?_
    refine CW.eq rfl (fun k2 => ?_) (fun k2 => ?_)
    · rw [if_pos k2] at hap ⊢
      refine CW.seq (CW.seq (CW.plain ?_))
      refine RL.pure rfl rfl rfl rfl ?_
      refine RL.pure rfl rfl rfl rfl ?_
      refine RL.done ?_
      refine CW.cond rfl (fun h1 => ?_) (fun h1 => CW.skip ?_)
      · have h1 : n ∉ c.learners := by simpa using h1
        refine CW.seq (CW.plain ?_)
        refine RL.build rfl rfl rfl rfl ze24 pl24 rfl rfl ?_
        refine RL.store (i := 1) (j := 0) rfl rfl rfl ty24 rfl rfl hg8 rfl (if_pos rfl) rfl (by first | (simp [Value.cells, Value.oneCell']; done) | simp [Value.cells, Value.oneCell', putL]) (by first | exact Nat.le_of_ble_eq_true rfl | (simp; done) | (simp; omega) | omega) ?_
        rintro w9 hg9 hax9
        refine ⟨trivial, ?_⟩
        refine RL.pure rfl rfl rfl rfl ?_
        refine RL.done ?_
        exact CW.ret (ret (vs := [_, _]) ⟨_, _, _, rfl, rfl, loadVar_agg ty24 (put_same _ _ _) (hg9).drop.1 rfl, _, _, rfl, rfl, rfl⟩ (Post.mk hle (hg9).drop (hx8.trans hax9) (by rw [if_neg h1]; exact CShared.bad)))
      have h1 : n ∈ c.learners := by simpa using h1
      have hv : n ∉ c.voters := fun h => z4 n h h1
      rw [if_pos h1, ← insR_eq z2 hv] at hap
      refine CW.seq (CW.plain ?_)
      refine RL.field rfl rfl rfl rfl fl24_1 rfl rfl ?_
      refine RL.load (j := 1) rfl rfl rfl rfl ty22 rfl (hH) (hg8.sh) rfl ?_
      refine RL.field rfl rfl rfl rfl fl33_1 rfl rfl ?_
      refine RL.load (j := 1) rfl rfl rfl rfl ty3 rfl (hQ) (hg8.sh) rfl ?_
      refine RL.call rfl rfl rfl rfl rfl ca30 (rWithout_ct hg8 i2 (by omega)) ?_
      rintro v9 s9 A9 w9 hle9 hg9 hax9 ⟨rfl, a9, c9, rfl, ho9⟩
      refine ⟨trivial, ?_⟩
      refine RL.field rfl rfl rfl rfl fl24_1 rfl rfl ?_
      refine RL.store (i := 1) (j := 1) rfl rfl rfl ty22 rfl rfl hg9 rfl (hT8) rfl (by first | (simp [Value.cells, Value.oneCell']; done) | simp [Value.cells, Value.oneCell', putL]) (by first | exact Nat.le_of_ble_eq_true rfl | (simp; done) | (simp; omega) | omega) ?_
      rintro w10 hg10 hax10
      refine ⟨trivial, ?_⟩
      refine RL.done ?_
      obtain ⟨s11, hg11, hle11, hA11⟩ := Good.letgo hg10
      have i1' := i1.up (RInt.up _) hle11
      refine CW.plain ?_
      refine RL.field rfl rfl rfl rfl fl24_0 rfl rfl ?_
      refine RL.load (j := 0) rfl rfl rfl rfl ty22 rfl (hH.le hle11) (hg11.sh) rfl ?_
      refine RL.field rfl rfl rfl rfl fl33_1 rfl rfl ?_
      refine RL.load (j := 1) rfl rfl rfl rfl ty3 rfl (hQ.le hle11) (hg11.sh) rfl ?_
      refine RL.call rfl rfl rfl rfl rfl ca29 (rWith_ct hg11 i1' hn (by omega)) ?_
      rintro v12 s12 A12 w12 hle12 hg12 hax12 ⟨rfl, a12, c12, rfl, ho12⟩
      refine ⟨trivial, ?_⟩
      refine RL.field rfl rfl rfl rfl fl24_0 rfl rfl ?_
      refine RL.store (i := 1) (j := 0) rfl rfl rfl ty22 rfl rfl hg12 rfl (put_same _ _ _) rfl (by first | (simp [Value.cells, Value.oneCell']; done) | simp [Value.cells, Value.oneCell', putL]) (by first | exact Nat.le_of_ble_eq_true rfl | (simp; done) | (simp; omega) | omega) ?_
      rintro w13 hg13 hax13
      refine ⟨trivial, ?_⟩
      refine RL.done ?_
      obtain ⟨s14, hg14, hle14, hA14⟩ := Good.letgo hg13
      exact fun ac ha => ⟨_, ha.sub (E' := [(4, ptr r), (10, ptr t)]) ⟨rfl, rfl, trivial⟩, s14, _, a12, c12, a9, c9, ⟨insR n c.voters, delP n c.learners⟩, rfl, put_same _ _ _, hg14, hle11.trans hle14, hx8.trans (hax9.trans (hax10.trans (hax12.trans hax13))), ho12.imm (RInt.up _) hle14 hA14, (ho9.imm (RInt.up _) hle11 hA11).up (RInt.up _) hle14, hap⟩
    rw [if_neg k2] at hap ⊢
    refine CW.seq (CW.plain ?_)
    refine RL.pure rfl rfl rfl rfl ?_
    refine RL.pure rfl rfl rfl rfl ?_
    refine RL.done ?_
    refine CW.eq rfl (fun k3 => ?_) (fun k3 => ?_)
    case refine_2 =>
      refine CW.seq (CW.plain ?_)
      refine RL.build rfl rfl rfl rfl ze24 pl24 rfl rfl ?_
      refine RL.store (i := 1) (j := 0) rfl rfl rfl ty24 rfl rfl hg8 rfl (if_pos rfl) rfl (by first | (simp [Value.cells, Value.oneCell']; done) | simp [Value.cells, Value.oneCell', putL]) (by first | exact Nat.le_of_ble_eq_true rfl | (simp; done) | (simp; omega) | omega) ?_
      rintro w9 hg9 hax9
      refine ⟨trivial, ?_⟩
      refine RL.pure rfl rfl rfl rfl ?_
      refine RL.done ?_
      exact CW.ret (ret (vs := [_, _]) ⟨_, _, _, rfl, rfl, loadVar_agg ty24 (put_same _ _ _) (hg9).drop.1 rfl, _, _, rfl, rfl, rfl⟩ (Post.mk hle (hg9).drop (hx8.trans hax9) (by rw [if_neg k3]; exact CShared.bad)))
    rw [if_pos k3] at hap ⊢
    -- both lists without it
    have both : (if n ∈ c.voters ∧ c.voters.length = 1 then (Conf.none, (84 : Int)) else if n ∈ c.voters then (⟨delP n c.voters, delP n c.learners⟩, 0) else if n ∈ c.learners then (⟨c.voters, delP n c.learners⟩, 0) else (Conf.none, 83))
        = if n ∉ c.voters ∧ n ∉ c.learners then (Conf.none, 83) else if n ∈ c.voters ∧ c.voters.length = 1 then (Conf.none, 84) else (⟨delP n c.voters, delP n c.learners⟩, 0) := by
      by_cases h1 : n ∈ c.voters
      · rw [if_pos h1, if_neg (fun h : n ∉ c.voters ∧ n ∉ c.learners => h.1 h1)]
      · rw [if_neg (fun h : n ∈ c.voters ∧ _ => h1 h.1), if_neg h1]
        by_cases h2 : n ∈ c.learners
        · rw [if_pos h2, if_neg (fun h : n ∉ c.voters ∧ n ∉ c.learners => h.2 h2), if_neg (fun h : n ∈ c.voters ∧ _ => h1 h.1), delP_notin h1]
        · rw [if_neg h2, if_pos ⟨h1, h2⟩]
    rw [both] at hap ⊢
    clear both
    refine CW.seq (CW.seq (CW.plain ?_))
    refine RL.pure rfl rfl rfl rfl ?_
    refine RL.pure rfl rfl rfl rfl ?_
    refine RL.pure rfl rfl rfl rfl ?_
    refine RL.part 79 rfl (fun h1 => ?_) (fun h1 => ?_)
    · have h1 : n ∉ c.voters := by simpa using h1
      refine RL.pure rfl rfl rfl rfl ?_
      refine RL.pure rfl rfl rfl rfl ?_
      refine RL.pure rfl rfl rfl rfl ?_
      refine RL.done ?_
      refine CW.cond rfl (fun h2 => ?_) (fun h2 => CW.skip ?_)
      · have h2 : n ∉ c.learners := by simpa using h2
        refine CW.seq (CW.plain ?_)
        refine RL.build rfl rfl rfl rfl ze24 pl24 rfl rfl ?_
        refine RL.store (i := 1) (j := 0) rfl rfl rfl ty24 rfl rfl hg8 rfl (if_pos rfl) rfl (by first | (simp [Value.cells, Value.oneCell']; done) | simp [Value.cells, Value.oneCell', putL]) (by first | exact Nat.le_of_ble_eq_true rfl | (simp; done) | (simp; omega) | omega) ?_
        rintro w9 hg9 hax9
        refine ⟨trivial, ?_⟩
        refine RL.pure rfl rfl rfl rfl ?_
        refine RL.done ?_
        exact CW.ret (ret (vs := [_, _]) ⟨_, _, _, rfl, rfl, loadVar_agg ty24 (put_same _ _ _) (hg9).drop.1 rfl, _, _, rfl, rfl, rfl⟩ (Post.mk hle (hg9).drop (hx8.trans hax9) (by rw [if_pos ⟨h1, h2⟩]; exact CShared.bad)))
      have h2 : n ∈ c.learners := by simpa using h2
      rw [if_neg (fun h : n ∉ c.voters ∧ n ∉ c.learners => h.2 h2), if_neg (fun h : n ∈ c.voters ∧ _ => h1 h.1)] at hap
      refine CW.seq (CW.seq (CW.plain ?_))
      refine RL.pure rfl rfl rfl rfl ?_
      refine RL.pure rfl rfl rfl rfl ?_
      refine RL.part 85 rfl (fun h => absurd (of_decide_eq_true h) h1) (fun _ => ?_)
      refine RL.pass rfl rfl rfl ?_
      refine RL.pass rfl rfl rfl ?_
      refine RL.pass rfl rfl rfl ?_
      refine RL.pass rfl rfl rfl ?_
      refine RL.pure rfl rfl rfl rfl ?_
      refine RL.done ?_
      refine CW.no rfl (CW.skip ?_)
      refine CW.seq (CW.plain ?_)
      refine RL.field rfl rfl rfl rfl fl24_0 rfl rfl ?_
      refine RL.load (j := 0) rfl rfl rfl rfl ty22 rfl (hH) (hg8.sh) rfl ?_
      refine RL.field rfl rfl rfl rfl fl33_1 rfl rfl ?_
      refine RL.load (j := 1) rfl rfl rfl rfl ty3 rfl (hQ) (hg8.sh) rfl ?_
      refine RL.call rfl rfl rfl rfl rfl ca30 (rWithout_ct hg8 i1 (by omega)) ?_
      rintro v9 s9 A9 w9 hle9 hg9 hax9 ⟨rfl, a9, c9, rfl, ho9⟩
      refine ⟨trivial, ?_⟩
      refine RL.field rfl rfl rfl rfl fl24_0 rfl rfl ?_
      refine RL.store (i := 1) (j := 0) rfl rfl rfl ty22 rfl rfl hg9 rfl (hT8) rfl (by first | (simp [Value.cells, Value.oneCell']; done) | simp [Value.cells, Value.oneCell', putL]) (by first | exact Nat.le_of_ble_eq_true rfl | (simp; done) | (simp; omega) | omega) ?_
      rintro w10 hg10 hax10
      refine ⟨trivial, ?_⟩
      refine RL.done ?_
      obtain ⟨s11, hg11, hle11, hA11⟩ := Good.letgo hg10
      have i2' := i2.up (RInt.up _) hle11
      refine CW.plain ?_
      refine RL.field rfl rfl rfl rfl fl24_1 rfl rfl ?_
      refine RL.load (j := 1) rfl rfl rfl rfl ty22 rfl (hH.le hle11) (hg11.sh) rfl ?_
      refine RL.field rfl rfl rfl rfl fl33_1 rfl rfl ?_
      refine RL.load (j := 1) rfl rfl rfl rfl ty3 rfl (hQ.le hle11) (hg11.sh) rfl ?_
      refine RL.call rfl rfl rfl rfl rfl ca30 (rWithout_ct hg11 i2' (by omega)) ?_
      rintro v12 s12 A12 w12 hle12 hg12 hax12 ⟨rfl, a12, c12, rfl, ho12⟩
      refine ⟨trivial, ?_⟩
      refine RL.field rfl rfl rfl rfl fl24_1 rfl rfl ?_
      refine RL.store (i := 1) (j := 1) rfl rfl rfl ty22 rfl rfl hg12 rfl (put_same _ _ _) rfl (by first | (simp [Value.cells, Value.oneCell']; done) | simp [Value.cells, Value.oneCell', putL]) (by first | exact Nat.le_of_ble_eq_true rfl | (simp; done) | (simp; omega) | omega) ?_
      rintro w13 hg13 hax13
      refine ⟨trivial, ?_⟩
      refine RL.done ?_
      obtain ⟨s14, hg14, hle14, hA14⟩ := Good.letgo hg13
      exact fun ac ha => ⟨_, ha.sub (E' := [(4, ptr r), (10, ptr t)]) ⟨rfl, rfl, trivial⟩, s14, _, a9, c9, a12, c12, ⟨delP n c.voters, delP n c.learners⟩, rfl, put_same _ _ _, hg14, hle11.trans hle14, hx8.trans (hax9.trans (hax10.trans (hax12.trans hax13))), (ho9.imm (RInt.up _) hle11 hA11).up (RInt.up _) hle14, ho12.imm (RInt.up _) hle14 hA14, hap⟩
    · have h1 : n ∈ c.voters := by simpa using h1
      rw [if_neg (fun h : n ∉ c.voters ∧ n ∉ c.learners => h.1 h1)] at hap ⊢
      refine RL.pass rfl rfl rfl ?_
      refine RL.pass rfl rfl rfl ?_
      refine RL.pure rfl rfl rfl rfl ?_
      refine RL.done ?_
      refine CW.no rfl (CW.skip ?_)
      refine CW.seq (CW.seq (CW.plain ?_))
      refine RL.pure rfl rfl rfl rfl ?_
      refine RL.pure rfl rfl rfl rfl ?_
      refine RL.part 85 rfl (fun _ => ?_) (fun h => absurd h1 (of_decide_eq_false h))
      refine RL.field rfl rfl rfl rfl fl24_0 rfl rfl ?_
      refine RL.load (j := 0) rfl rfl rfl rfl ty22 rfl (hH) (hg8.sh) rfl ?_
      refine RL.len rfl rfl rfl rfl sl22 rfl ?_
      refine RL.pure rfl rfl rfl rfl ?_
      refine RL.pure rfl rfl rfl rfl ?_
      refine RL.done ?_
      refine CW.eq rfl (fun h3 => ?_) (fun h3 => CW.skip ?_)
      · refine CW.seq (CW.plain ?_)
        refine RL.build rfl rfl rfl rfl ze24 pl24 rfl rfl ?_
        refine RL.store (i := 1) (j := 0) rfl rfl rfl ty24 rfl rfl hg8 rfl (if_pos rfl) rfl (by first | (simp [Value.cells, Value.oneCell']; done) | simp [Value.cells, Value.oneCell', putL]) (by first | exact Nat.le_of_ble_eq_true rfl | (simp; done) | (simp; omega) | omega) ?_
        rintro w9 hg9 hax9
        refine ⟨trivial, ?_⟩
        refine RL.pure rfl rfl rfl rfl ?_
        refine RL.done ?_
        exact CW.ret (ret (vs := [_, _]) ⟨_, _, _, rfl, rfl, loadVar_agg ty24 (put_same _ _ _) (hg9).drop.1 rfl, _, _, rfl, rfl, rfl⟩ (Post.mk hle (hg9).drop (hx8.trans hax9) (by rw [if_pos ⟨h1, by omega⟩]; exact CShared.bad)))
      rw [if_neg (fun h : n ∈ c.voters ∧ c.voters.length = 1 => h3 (by omega))] at hap
      refine CW.seq (CW.plain ?_)
      refine RL.field rfl rfl rfl rfl fl24_0 rfl rfl ?_
      refine RL.load (j := 0) rfl rfl rfl rfl ty22 rfl (hH) (hg8.sh) rfl ?_
      refine RL.field rfl rfl rfl rfl fl33_1 rfl rfl ?_
      refine RL.load (j := 1) rfl rfl rfl rfl ty3 rfl (hQ) (hg8.sh) rfl ?_
      refine RL.call rfl rfl rfl rfl rfl ca30 (rWithout_ct hg8 i1 (by omega)) ?_
      rintro v9 s9 A9 w9 hle9 hg9 hax9 ⟨rfl, a9, c9, rfl, ho9⟩
      refine ⟨trivial, ?_⟩
      refine RL.field rfl rfl rfl rfl fl24_0 rfl rfl ?_
      refine RL.store (i := 1) (j := 0) rfl rfl rfl ty22 rfl rfl hg9 rfl (hT8) rfl (by first | (simp [Value.cells, Value.oneCell']; done) | simp [Value.cells, Value.oneCell', putL]) (by first | exact Nat.le_of_ble_eq_true rfl | (simp; done) | (simp; omega) | omega) ?_
      rintro w10 hg10 hax10
      refine ⟨trivial, ?_⟩
      refine RL.done ?_
      obtain ⟨s11, hg11, hle11, hA11⟩ := Good.letgo hg10
      have i2' := i2.up (RInt.up _) hle11
      refine CW.plain ?_
      refine RL.field rfl rfl rfl rfl fl24_1 rfl rfl ?_
      refine RL.load (j := 1) rfl rfl rfl rfl ty22 rfl (hH.le hle11) (hg11.sh) rfl ?_
      refine RL.field rfl rfl rfl rfl fl33_1 rfl rfl ?_
      refine RL.load (j := 1) rfl rfl rfl rfl ty3 rfl (hQ.le hle11) (hg11.sh) rfl ?_
      refine RL.call rfl rfl rfl rfl rfl ca30 (rWithout_ct hg11 i2' (by omega)) ?_
      rintro v12 s12 A12 w12 hle12 hg12 hax12 ⟨rfl, a12, c12, rfl, ho12⟩
      refine ⟨trivial, ?_⟩
      refine RL.field rfl rfl rfl rfl fl24_1 rfl rfl ?_
      refine RL.store (i := 1) (j := 1) rfl rfl rfl ty22 rfl rfl hg12 rfl (put_same _ _ _) rfl (by first | (simp [Value.cells, Value.oneCell']; done) | simp [Value.cells, Value.oneCell', putL]) (by first | exact Nat.le_of_ble_eq_true rfl | (simp; done) | (simp; omega) | omega) ?_
      rintro w13 hg13 hax13
      refine ⟨trivial, ?_⟩
      refine RL.done ?_
      obtain ⟨s14, hg14, hle14, hA14⟩ := Good.letgo hg13
      exact fun ac ha => ⟨_, ha.sub (E' := [(4, ptr r), (10, ptr t)]) ⟨rfl, rfl, trivial⟩, s14, _, a9, c9, a12, c12, ⟨delP n c.voters, delP n c.learners⟩, rfl, put_same _ _ _, hg14, hle11.trans hle14, hx8.trans (hax9.trans (hax10.trans (hax12.trans hax13))), (ho9.imm (RInt.up _) hle11 hA11).up (RInt.up _) hle14, ho12.imm (RInt.up _) hle14 hA14, hap⟩
  rintro E w20 ⟨s20, T20, a20, c20, b20, d20, x, rfl, hT20, hg20, hle20, hax20, ho20, hp20, hx20⟩
  rw [← hap, hx20]
  refine CW.seq (CW.plain ?_)
  refine RL.loads (j := 0) (us := [.slice a20 x.voters.length c20, .slice b20 x.learners.length d20]) rfl rfl rfl rfl ty24 rfl (Holds.of hT20) (hg20.1) rfl rfl ?_
  refine RL.store (i := 1) (j := 0) rfl rfl rfl ty24 rfl rfl hg20 rfl (if_pos rfl) rfl (by first | (simp [Value.cells, Value.oneCell']; done) | simp [Value.cells, Value.oneCell', putL]) (by first | exact Nat.le_of_ble_eq_true rfl | (simp; done) | (simp; omega) | omega) ?_
  rintro w21 hg21 hax21
  refine ⟨trivial, ?_⟩
  refine RL.pure rfl rfl rfl rfl ?_
  refine RL.done ?_
  exact CW.ret (ret (vs := [_, _]) ⟨_, _, _, rfl, rfl, loadVar_agg ty24 (put_same _ _ _) hg21.drop.1 rfl, _, _, rfl, rfl, rfl⟩ (Post.mk (hle.trans hle20) hg21.drop (hax20.trans hax21) ⟨_, rfl, a20, c20, b20, d20, rfl, ho20, hp20⟩))
end Go.Lw
