/-
  Configurations: the law RaftconfSteps, walked.
-/
import Derived.Test.YthafkinbocdjlaaRcV
namespace Go.Lw
open Go.Proofs

theorem path_right {x y : Conf} (h1 : checkP x = 0) (h2 : checkP y = 0) : pathP x y = (pathL x y, 0) := by
  unfold pathP
  rw [if_neg (by simpa using h1), if_neg (by simpa using h2)]
theorem path_two (x y : Conf) : ∃ l e m f, pathP x y = (l, e) ∧ pathP y x = (m, f) ∧ (e ≠ 0 ∧ f ≠ 0 ∧ l = [] ∨ e = 0 ∧ f = 0 ∧ l = pathL x y ∧ m = pathL y x ∧ checkP x = 0 ∧ checkP y = 0) := by
  refine ⟨_, _, _, _, rfl, rfl, ?_⟩
  have h1 := path_fail (x := x) (y := y)
  have h2 := path_fail (x := y) (y := x)
  by_cases h : checkP x = 0 ∧ checkP y = 0
  · obtain ⟨ha, hb⟩ := h
    exact .inr ⟨h1.1.2 ⟨ha, hb⟩, h2.1.2 ⟨hb, ha⟩, congrArg Prod.fst (path_right ha hb), congrArg Prod.fst (path_right hb ha), ha, hb⟩
  · have e1 : (pathP x y).2 ≠ 0 := fun e => h (h1.1.1 e)
    have e2 : (pathP y x).2 ≠ 0 := fun e => h (h2.1.1 e).symm
    exact .inl ⟨e1, e2, h1.2 e1⟩

set_option maxHeartbeats 2000000 in
set_option maxRecDepth 100000 in
theorem RaftconfSteps_ct {w : World} {s : Res} {os : List Res} {us vs : List Value} {x y : Conf} (hg : Good w s os) (hx : RConf s us x) (hy : RConf s vs y) (hbx : x.fits) (hby : y.fits) :
    Calls Try.prog 5 #[.agg us.toArray, .agg vs.toArray] w (Post w s os fun _ _ r => r = .bool true) := by
  have hx0 := hx
  have hy0 := hy
  have hone := RChange.one
  obtain ⟨xa, xc, xb, xd, rfl, _, _⟩ := hx
  obtain ⟨ya, yc, yb, yd, rfl, _, _⟩ := hy
  obtain ⟨la, e, lb, f, hpa, hpb, hcase⟩ := path_two x y
  refine enter (l := [.agg #[.slice xa x.voters.length xc, .slice xb x.learners.length xd], .agg #[.slice ya y.voters.length yc, .slice yb y.learners.length yd]]) Try.func5 rfl Try.ntmps5 rfl ?_
  refine CW.seq (CW.plain ?_)
  refine RL.box rfl rfl rfl rfl rfl hg ?_
  rintro p w0 hg0 hax0
  refine ⟨trivial, ?_⟩
  obtain ⟨s0, hg0, hle0, hq0⟩ := Good.letgo hg0
  have hH : Holds s0 ⟨p, 0, none⟩ [.slice xa x.voters.length xc, .slice xb x.learners.length xd] := (Holds.one p _ _).le hq0
  refine RL.box rfl rfl rfl rfl rfl hg0 ?_
  rintro q w1 hg1 hax1
  refine ⟨trivial, ?_⟩
  refine RL.pure rfl rfl rfl rfl ?_
  refine RL.done ?_
  obtain ⟨s1, hg1, hle1, hq1⟩ := Good.letgo hg1
  have hQ : Holds s1 ⟨q, 0, none⟩ [.slice ya y.voters.length yc, .slice yb y.learners.length yd] := (Holds.one q _ _).le hq1
  have hH := hH.le hle1
  refine CW.seq (CW.plain ?_)
  refine RL.call rfl rfl rfl rfl rfl ca8 (head8_ct hg1) ?_
  rintro v2 s2 A2 w2 hle2 hg2 hax2 rfl
  refine ⟨trivial, ?_⟩
  refine RL.pure rfl rfl rfl rfl ?_
  refine RL.done ?_
  have hg2 := hg2.drop
  have hle := hle0.trans (hle1.trans hle2)
  have hax := hax0.trans (hax1.trans hax2)
  have hH := hH.le hle2
  have hQ := hQ.le hle2
  have hx2 := RConf.up _ _ _ _ hle hx0
  have hy2 := RConf.up _ _ _ _ hle hy0
  clear hg0 hg1
  refine CW.seq (CW.plain ?_)
  refine RL.loads (j := 0) (us := [.slice xa x.voters.length xc, .slice xb x.learners.length xd]) rfl rfl rfl rfl ty24 rfl (hH) (hg2.sh) rfl rfl ?_
  refine RL.loads (j := 0) (us := [.slice ya y.voters.length yc, .slice yb y.learners.length yd]) rfl rfl rfl rfl ty24 rfl (hQ) (hg2.sh) rfl rfl ?_
  refine RL.call rfl rfl rfl rfl rfl ca14 ((by have ct := Path_ct hg2 hx2 hy2 hbx hby; rw [hpa] at ct; exact ct)) ?_
  rintro v3 s3 A3 w3 hle3 hg3 hax3 ⟨ea, ec, rfl, ho3⟩
  refine ⟨trivial, ?_⟩
  refine RL.pure rfl rfl rfl rfl ?_
  refine RL.pure rfl rfl rfl rfl ?_
  refine RL.pure rfl rfl rfl rfl ?_
  refine RL.pure rfl rfl rfl rfl ?_
  refine RL.pure rfl rfl rfl rfl ?_
  refine RL.done ?_
  obtain ⟨s4, hg4, hle4, hA4⟩ := Good.letgo hg3
  have hl4 := ho3.imm RChange.up hle4 hA4
  have hle24 := hle3.trans hle4
  have hH := hH.le hle24
  have hQ := hQ.le hle24
  have hx4 := RConf.up _ _ _ _ hle24 hx2
  have hy4 := RConf.up _ _ _ _ hle24 hy2
  refine CW.seq (CW.plain ?_)
  refine RL.loads (j := 0) (us := [.slice ya y.voters.length yc, .slice yb y.learners.length yd]) rfl rfl rfl rfl ty24 rfl (hQ) (hg4.sh) rfl rfl ?_
  refine RL.loads (j := 0) (us := [.slice xa x.voters.length xc, .slice xb x.learners.length xd]) rfl rfl rfl rfl ty24 rfl (hH) (hg4.sh) rfl rfl ?_
  refine RL.call rfl rfl rfl rfl rfl ca14 ((by have ct := Path_ct hg4 hy4 hx4 hby hbx; rw [hpb] at ct; exact ct)) ?_
  rintro v5 s5 A5 w5 hle5 hg5 hax5 ⟨fa, fc, rfl, ho5⟩
  refine ⟨trivial, ?_⟩
  refine RL.pure rfl rfl rfl rfl ?_
  refine RL.pure rfl rfl rfl rfl ?_
  refine RL.pure rfl rfl rfl rfl ?_
  refine RL.pure rfl rfl rfl rfl ?_
  refine RL.pure rfl rfl rfl rfl ?_
  refine RL.done ?_
  obtain ⟨s6, hg6, hle6, hA6⟩ := Good.letgo hg5
  have hm := ho5.imm RChange.up hle6 hA6
  have hle46 := hle5.trans hle6
  have hl := hl4.up RChange.up hle46
  have hH := hH.le hle46
  have hQ := hQ.le hle46
  have hx6 := RConf.up _ _ _ _ hle46 hx4
  have hle := hle.trans (hle24.trans hle46)
  have hax := hax.trans (hax3.trans hax5)
  simp only at hl hm
  clear hl4 ho3 ho5
  clear hg2 hg3 hg4 hg5
  refine CW.seq (CW.seq ?_)
  rcases hcase with ⟨he, hf, rfl⟩ | ⟨rfl, rfl, rfl, rfl, hcx, hcy⟩
  · refine CW.plain ?_
    refine RL.pure rfl rfl rfl rfl ?_
    refine RL.pure rfl rfl rfl rfl ?_
    refine RL.pure rfl rfl rfl rfl ?_
    refine RL.pure rfl rfl rfl rfl ?_
    refine RL.as_ rfl rfl rfl rfl (.bool true) ((by show Value.bool (_ != _) = _; simpa using he)) ?_
    refine RL.pure rfl rfl rfl rfl ?_
    refine RL.pure rfl rfl rfl rfl ?_
    refine RL.pass rfl rfl rfl ?_
    refine RL.pass rfl rfl rfl ?_
    refine RL.pure rfl rfl rfl rfl ?_
    refine RL.done ?_
    refine CW.yes rfl (CW.seq (CW.plain ?_))
    refine RL.pure rfl rfl rfl rfl ?_
    refine RL.pure rfl rfl rfl rfl ?_
    refine RL.pure rfl rfl rfl rfl ?_
    refine RL.as_ rfl rfl rfl rfl (.bool false) ((by show Value.bool (_ == _) = _; simpa using he)) ?_
    refine RL.pure rfl rfl rfl rfl ?_
    refine RL.as_ rfl rfl rfl rfl (.bool false) ((by show Value.bool (_ == _) = _; simpa using hf)) ?_
    refine RL.bEq rfl rfl rfl rfl Try.underlying4 rfl rfl ?_
    refine RL.pure rfl rfl rfl rfl ?_
    refine RL.pure rfl rfl rfl rfl ?_
    refine RL.pure rfl rfl rfl rfl ?_
    refine RL.len rfl rfl rfl rfl sl25 rfl ?_
    refine RL.pure rfl rfl rfl rfl ?_
    refine RL.pure rfl rfl rfl rfl ?_
    refine RL.pure rfl rfl rfl rfl ?_
    refine RL.done ?_
    exact CW.ret (ret (vs := [_]) ⟨_, _, rfl, rfl, rfl⟩ (Post.mk hle hg6.nil hax rfl))
  refine CW.plain ?_
  refine RL.pure rfl rfl rfl rfl ?_
  refine RL.pure rfl rfl rfl rfl ?_
  refine RL.pure rfl rfl rfl rfl ?_
  refine RL.pure rfl rfl rfl rfl ?_
  refine RL.pure rfl rfl rfl rfl ?_
  refine RL.pure rfl rfl rfl rfl ?_
  refine RL.pure rfl rfl rfl rfl ?_
  refine RL.pure rfl rfl rfl rfl ?_
  refine RL.pure rfl rfl rfl rfl ?_
  refine RL.pure rfl rfl rfl rfl ?_
  refine RL.done ?_
  refine CW.no rfl (CW.skip ?_)
  have hlead := (path_leads hcx hcy).append (path_leads hcy hcx)
  have hshort := path_short x y
  have hshort2 := path_short y x
  refine CW.seq (CW.plain ?_)
  refine RL.loads (j := 0) (us := [.slice xa x.voters.length xc, .slice xb x.learners.length xd]) rfl rfl rfl rfl ty24 rfl (hH) (hg6.sh) rfl rfl ?_
  refine RL.call rfl rfl rfl rfl rfl ca9 (CloneConf_ct hg6 hx6 hbx) ?_
  rintro v8 s8 A8 w8 hle8 hg8 hax8 ⟨us8, rfl, hu8⟩
  refine ⟨trivial, ?_⟩
  obtain ⟨ca, cc, cb, cd, rfl, _, _⟩ := id hu8
  refine RL.alloc rfl rfl rfl rfl ze24 hg8.drop ?_
  rintro pc w9 hg9 hax9
  refine ⟨trivial, ?_⟩
  refine RL.store (i := 0) (j := 0) rfl rfl rfl ty24 rfl rfl hg9 rfl (if_pos rfl) rfl (by first | (simp [Value.cells, Value.oneCell']; done) | simp [Value.cells, Value.oneCell', putL]) (by first | exact Nat.le_of_ble_eq_true rfl | (simp; done) | (simp; omega) | omega) ?_
  rintro w10 hg10 hax10
  refine ⟨trivial, ?_⟩
  refine RL.done ?_
  have hH := hH.le hle8
  have hx8 := RConf.up _ _ _ _ hle8 hx6
  have hl := hl.up RChange.up hle8
  have hm := hm.up RChange.up hle8
  have hle := hle.trans hle8
  have hax := hax.trans (hax8.trans (hax9.trans hax10))
  refine CW.seq (CW.plain ?_)
  refine RL.buildSlice rfl rfl rfl rfl sl25 ze33 rfl rfl rfl rfl hg10 ?_
  rintro bb w11 hg11 hax11
  refine ⟨trivial, ?_⟩
  refine RL.pure rfl rfl rfl rfl ?_
  obtain ⟨news1, hsrc1, hch1⟩ := Src.row (c := ec) sl25 hl.2.2 hg11.sh
  refine RL.append (i := 0) (ys := (pathL x y)) rfl rfl rfl rfl sl25 ze33 rfl (by first | exact RInt.one _ | exact RStr.one | exact RBool.one | assumption) rfl rfl hg11 rfl (Own.fresh (R := RChange) (sz := 2) (el := 33) (s := s8) (b := bb)) (hsrc1) (hch1) ((by simp; omega)) (by omega) ?_
  rintro a12 c12 A12 w12 hg12 ho12 hax12 hk12
  refine ⟨trivial, ?_⟩
  refine RL.pure rfl rfl rfl rfl ?_
  obtain ⟨news2, hsrc2, hch2⟩ := Src.row (c := fc) sl25 hm.2.2 hg12.sh
  refine RL.append (i := 0) (ys := (pathL y x)) rfl rfl rfl rfl sl25 ze33 rfl (by first | exact RInt.one _ | exact RStr.one | exact RBool.one | assumption) rfl rfl hg12 rfl ho12 (hsrc2) (hch2) ((by simp; omega)) (by omega) ?_
  rintro aa ac A13 w13 hg13 ho13 hax13 hk13
  refine ⟨trivial, ?_⟩
  refine RL.pure rfl rfl rfl rfl ?_
  refine RL.done ?_
  obtain ⟨s14, hg14, hle14, hA14⟩ := Good.letgo hg13
  have hall := ho13.imm RChange.up hle14 hA14
  rw [List.nil_append] at hall ⊢
  have hH := hH.le hle14
  have hx14 := RConf.up _ _ _ _ hle14 hx8
  have hu14 := RConf.up _ _ _ _ hle14 hu8
  have hle := hle.trans hle14
  have hax := hax.trans (hax11.trans (hax12.trans hax13))
  refine CW.less (E' := [(2, ptr p), (6, .slice ea (pathL x y).length ec), (10, ptr pc), (11, .slice aa (pathL x y ++ pathL y x).length ac)]) ⟨rfl, rfl, rfl, rfl, trivial⟩ ?_
  have hll : (pathL x y ++ pathL y x).length ≤ 42 := by simp only [List.length_append]; omega
  generalize pathL x y ++ pathL y x = l at *
  generalize hlx : (pathL x y).length = n21 at *
  refine CW.seq (CW.seq (CW.plain ?_))
  refine RL.pure rfl rfl rfl rfl ?_
  refine RL.done ?_
  refine CW.block (CW.loop (σ := Nat) (fun j E w' => ∃ s' T c ca cc cb cd, ∃ k : Nat, E = [(2, ptr p), (6, .slice ea n21 ec), (10, ptr pc), (11, .slice aa l.length ac), (12, i64 k)] ∧ T pc = some (.cells #[.slice ca c.voters.length cc, .slice cb c.learners.length cd] 24 (0, 0)) ∧ Good w' s' (T :: os) ∧ Le s14 s' ∧ Aux w w' ∧ RConf s' [.slice ca c.voters.length cc, .slice cb c.learners.length cd] c ∧ checkP c = 0 ∧ Leads c (l.drop k) x ∧ k + j = l.length)
    (fun j => j) l.length [(2, ptr p), (6, .slice ea n21 ec), (10, ptr pc), (11, .slice aa l.length ac), (12, i64 0)] ⟨rfl, rfl, rfl, rfl, rfl, trivial⟩ ⟨s14, _, x, ca, cc, cb, cd, 0, rfl, put_same _ _ _, hg14, Le.refl _, hax, hu14, hcx, hlead, by omega⟩ ?_)
  clear hg6 hg8 hg9 hg10 hg11 hg12 hg13 hg14 hu14 hu8
  rintro j E w6 ⟨s6', T6, c, ca, cc, cb, cd, k, rfl, hT6, hg6, hle6, hx6', hc6, hck, hlead, hk⟩
  refine CW.seq (CW.seq (CW.plain ?_))
  refine RL.pure rfl rfl rfl rfl ?_
  refine RL.pure rfl rfl rfl rfl ?_
  refine RL.len rfl rfl rfl rfl sl25 rfl ?_
  refine RL.pure rfl rfl rfl rfl ?_
  refine RL.done ?_
  refine CW.test rfl (fun h => CW.skip ?_) (fun h => CW.exit ?_)
  · have hkl : k < l.length := by omega
    have ek : l[((k : Nat) : Int).toNat]'(by omega) = l[k] := by simp
    have hl6 := hall.up RChange.up hle6
    have hgD := hg6.drew
    have hfit := right_fits hck
    rw [List.drop_eq_getElem_cons hkl] at hlead
    obtain ⟨d, hap, hlead⟩ := hlead
    obtain ⟨hcd, _⟩ := apply_right hap
    have hdv : d.voters ≠ [] := (check_zero hcd).2.2.2.2
    refine CW.seq (CW.block ?_)
    refine CW.meet (fun E w' => ∃ s' T B A p8 a1 c1 b1 d1, E = [(2, ptr p), (6, .slice ea n21 ec), (10, ptr pc), (11, .slice aa l.length ac), (12, i64 k), (13, ptr p8), (14, i64 0)] ∧
        T p8 = some (.cells #[.slice a1 d.voters.length c1, .slice b1 d.learners.length d1] 24 (0, 0)) ∧ Good w' s' (T :: B :: A :: T6 :: os) ∧ Le s6' s' ∧ Aux w w' ∧
        OwnI s' A a1 c1 d.voters ∧ OwnI s' B b1 d1 d.learners) ?_ ?_
    · refine CW.forks (.fork [(true, 0), (true, 1), (true, 2), (true, 3), (true, 4)] (.line [(false, 5), (true, 6), (true, 7), (true, 8), (false, 9), (false, 10), (false, 11)]) (.line [(false, 9), (false, 5), (true, 6), (true, 7), (true, 8), (false, 10), (false, 11)])) (fun w => In s6' w ∧ In T6 w) mixed (by kernel_rfl) (by kernel_rfl) (by kernel_rfl) (by kernel_rfl) (⟨hgD.sh, hgD.mem (by simp)⟩) ?_
      refine RT.pre (S := fun w => In s6' w ∧ In T6 w) (⟨hgD.sh, hgD.mem (by simp)⟩) ?_
      refine RL.loadsT (j := 0) (us := [.slice ca c.voters.length cc, .slice cb c.learners.length cd]) rfl rfl rfl rfl ty24 rfl (Holds.of hT6) (fun w h => h.2) rfl rfl ?_
      refine RL.pure rfl rfl rfl rfl ?_
      refine RL.pure rfl rfl rfl rfl ?_
      refine RL.idx rfl rfl rfl rfl sl25 rfl rfl (hl6) (by omega) (by omega) ?_
      rintro qe vse hvle hHe ⟨rfl, hr1, hr2⟩
      rw [ek] at hr1 hr2 hHe
      refine RL.loadsT (j := 0) (us := [i64 l[k].kind, i64 l[k].node]) rfl rfl rfl rfl ty33 rfl (hHe) (fun w h => h.1) rfl rfl ?_
      refine RL.done ?_
      refine RT.both (S := fun w => In s6' w ∧ In T6 w) (⟨hgD.sh, hgD.mem (by simp)⟩) (RT.end_ (S := fun w => In s6' w ∧ In T6 w) (⟨hgD.sh, hgD.mem (by simp)⟩) ?_) (RT.end_ (S := fun w => In s6' w ∧ In T6 w) (⟨hgD.sh, hgD.mem (by simp)⟩) ?_)
      · refine RL.callG rfl rfl rfl rfl rfl ca10 ((by have ct := Apply_ct (k := l[k].kind) (n := l[k].node) hgD hc6 hfit hr1 hr2; rw [hap] at ct; exact ct)) ?_
        rintro e28 w28 ⟨v28, s28, B, A, rfl, hle28, hg28, hax28, a1, c1, b1, d1, rfl, ho1, ho2⟩
        refine ⟨_, rfl, ⟨hg28.sh.le hle28, hg28.mem (by simp)⟩, ?_⟩
        refine RL.pure rfl rfl rfl rfl ?_
        refine RL.pure rfl rfl rfl rfl ?_
        refine RL.pure rfl rfl rfl rfl ?_
        refine RL.alloc rfl rfl rfl rfl ze24 hg28 ?_
        rintro p13 w13 hg13 hax13
        refine ⟨⟨hg13.sh.le hle28, hg13.mem (by simp)⟩, ?_⟩
        refine RL.store (i := 0) (j := 0) rfl rfl rfl ty24 rfl rfl hg13 rfl (if_pos rfl) rfl (by first | (simp [Value.cells, Value.oneCell']; done) | simp [Value.cells, Value.oneCell', putL]) (by first | exact Nat.le_of_ble_eq_true rfl | (simp; done) | (simp; omega) | omega) ?_
        rintro wS hgS haxS
        refine ⟨⟨hgS.sh.le hle28, hgS.mem (by simp)⟩, ?_⟩
        refine RL.pure rfl rfl rfl rfl ?_
        refine RL.done ?_
        exact fun act ha => ⟨_, ha.sub (E' := [(2, ptr p), (6, .slice ea n21 ec), (10, ptr pc), (11, .slice aa l.length ac), (12, i64 k), (13, ptr p13), (14, i64 0)]) ⟨rfl, rfl, rfl, rfl, rfl, rfl, rfl, trivial⟩, s28, _, B, A, p13, a1, c1, b1, d1, rfl, put_same _ _ _, (hgS.front 0 rfl), hle28, (hx6'.trans (Aux.drew _)).trans ((hax28).trans ((hax13).trans (haxS))), ho1, ho2⟩
      · refine RL.alloc rfl rfl rfl rfl ze24 hgD ?_
        rintro p13 w13 hg13 hax13
        refine ⟨⟨hg13.sh, hg13.mem (by simp)⟩, ?_⟩
        refine RL.callG rfl rfl rfl rfl rfl ca10 ((by have ct := Apply_ct (k := l[k].kind) (n := l[k].node) hg13 hc6 hfit hr1 hr2; rw [hap] at ct; exact ct)) ?_
        rintro e28 w28 ⟨v28, s28, B, A, rfl, hle28, hg28, hax28, a1, c1, b1, d1, rfl, ho1, ho2⟩
        refine ⟨_, rfl, ⟨hg28.sh.le hle28, hg28.mem (by simp)⟩, ?_⟩
        refine RL.pure rfl rfl rfl rfl ?_
        refine RL.pure rfl rfl rfl rfl ?_
        refine RL.pure rfl rfl rfl rfl ?_
        refine RL.store (i := 2) (j := 0) rfl rfl rfl ty24 rfl rfl hg28 rfl (if_pos rfl) rfl (by first | (simp [Value.cells, Value.oneCell']; done) | simp [Value.cells, Value.oneCell', putL]) (by first | exact Nat.le_of_ble_eq_true rfl | (simp; done) | (simp; omega) | omega) ?_
        rintro wS hgS haxS
        refine ⟨⟨hgS.sh.le hle28, hgS.mem (by simp)⟩, ?_⟩
        refine RL.pure rfl rfl rfl rfl ?_
        refine RL.done ?_
        exact fun act ha => ⟨_, ha.sub (E' := [(2, ptr p), (6, .slice ea n21 ec), (10, ptr pc), (11, .slice aa l.length ac), (12, i64 k), (13, ptr p13), (14, i64 0)]) ⟨rfl, rfl, rfl, rfl, rfl, rfl, rfl, trivial⟩, s28, _, B, A, p13, a1, c1, b1, d1, rfl, put_same _ _ _, (hgS.front 2 rfl), hle28, (hx6'.trans (Aux.drew _)).trans ((hax13).trans ((hax28).trans (haxS))), ho1, ho2⟩
    rintro E w7 ⟨s7, T7, B7, A7, p7, a1, c1, b1, d1, rfl, hT7, hg7, hle7, hx7, ho1, ho2⟩
    obtain ⟨s8', hg8, hle8', hT8⟩ := Good.letgo hg7
    obtain ⟨s9, hg9, hle9, hB9⟩ := Good.letgo hg8
    obtain ⟨s10, hg10, hle10, hA10⟩ := Good.letgo hg9
    have i1 := ho1.imm (RInt.up _) (hle8'.trans (hle9.trans hle10)) hA10
    have i2 := ho2.imm (RInt.up _) (hle8'.trans (hle9.trans hle10)) (hB9.trans hle10)
    have hR : Holds s10 ⟨p7, 0, none⟩ [.slice a1 d.voters.length c1, .slice b1 d.learners.length d1] := (Holds.of hT7).le (hT8.trans (hle9.trans hle10))
    refine CW.seq (CW.seq (CW.plain ?_))
    refine RL.pure rfl rfl rfl rfl ?_
    refine RL.pure rfl rfl rfl rfl ?_
    refine RL.pure rfl rfl rfl rfl ?_
    refine RL.field rfl rfl rfl rfl fl24_0 rfl rfl ?_
    refine RL.load (j := 0) rfl rfl rfl rfl ty22 rfl (hR) (hg10.sh) rfl ?_
    refine RL.len rfl rfl rfl rfl sl22 rfl ?_
    refine RL.as_ rfl rfl rfl rfl (.bool false) ((by show Value.bool (_ == _) = _; simpa using hdv)) ?_
    refine RL.pure rfl rfl rfl rfl ?_
    refine RL.done ?_
    refine CW.no rfl (CW.skip ?_)
    refine CW.plain ?_
    refine RL.loads (j := 0) (us := [.slice a1 d.voters.length c1, .slice b1 d.learners.length d1]) rfl rfl rfl rfl ty24 rfl (hR) (hg10.sh) rfl rfl ?_
    refine RL.store (i := 0) (j := 0) rfl rfl rfl ty24 rfl rfl hg10 rfl (hT6) rfl (by first | (simp [Value.cells, Value.oneCell']; done) | simp [Value.cells, Value.oneCell', putL]) (by first | exact Nat.le_of_ble_eq_true rfl | (simp; done) | (simp; omega) | omega) ?_
    rintro w11 hg11 hax11
    refine ⟨trivial, ?_⟩
    refine RL.done ?_
    refine CW.plain ?_
    refine RL.pure rfl rfl rfl rfl ?_
    refine RL.add rfl rfl rfl rfl rfl rfl (by simp only [rng] at *; omega) ?_
    refine RL.pure rfl rfl rfl rfl ?_
    refine RL.done ?_
    cases j with
    | zero => omega
    | succ j => exact fun ac' ha => ⟨j, [(2, ptr p), (6, .slice ea n21 ec), (10, ptr pc), (11, .slice aa l.length ac), (12, i64 ((k + 1 : Nat) : Int))], ha.sub ⟨rfl, rfl, rfl, rfl, rfl, trivial⟩, ⟨s10, _, d, a1, c1, b1, d1, k + 1, rfl, put_same _ _ _, hg11, hle6.trans (hle7.trans (hle8'.trans (hle9.trans hle10))), hx7.trans hax11, ⟨a1, c1, b1, d1, rfl, i1, i2⟩, hcd, hlead, by omega⟩, Nat.lt_succ_self j⟩
  · have hkl : k = l.length := by omega
    rw [hkl, List.drop_length] at hlead
    obtain rfl : c = x := hlead
    have hd2 : decide (c = c) = true := decide_eq_true rfl
    have hpn : pathP c c = ([], 0) := by rw [path_right hcx hcx, path_none hcx]
    have hx15 := RConf.up _ _ _ _ hle6 hx14
    refine CW.seq (CW.plain ?_)
    refine RL.loads (j := 0) (us := [.slice xa c.voters.length xc, .slice xb c.learners.length xd]) rfl rfl rfl rfl ty24 rfl (hH.le hle6) (hg6.sh) rfl rfl ?_
    refine RL.loads (j := 0) (us := [.slice xa c.voters.length xc, .slice xb c.learners.length xd]) rfl rfl rfl rfl ty24 rfl (hH.le hle6) (hg6.sh) rfl rfl ?_
    refine RL.call rfl rfl rfl rfl rfl ca14 ((by have ct := Path_ct hg6 hx15 hx15 hbx hbx; rw [hpn] at ct; exact ct)) ?_
    rintro v7 s7 A7 w7 hle7 hg7 hax7 ⟨na, nc, rfl, ho7⟩
    refine ⟨trivial, ?_⟩
    refine RL.pure rfl rfl rfl rfl ?_
    refine RL.pure rfl rfl rfl rfl ?_
    refine RL.pure rfl rfl rfl rfl ?_
    refine RL.pure rfl rfl rfl rfl ?_
    refine RL.pure rfl rfl rfl rfl ?_
    refine RL.done ?_
    have hg7 := hg7.drop
    refine CW.seq (CW.plain ?_)
    refine RL.loads (j := 0) (us := [.slice ca c.voters.length cc, .slice cb c.learners.length cd]) rfl rfl rfl rfl ty24 rfl (Holds.of hT6) (hg7.1) rfl rfl ?_
    refine RL.loads (j := 0) (us := [.slice xa c.voters.length xc, .slice xb c.learners.length xd]) rfl rfl rfl rfl ty24 rfl (hH.le (hle6.trans hle7)) (hg7.sh) rfl rfl ?_
    refine RL.callV rfl rfl rfl rfl rfl ca12 (SameConf6_ct hg7 (RConf.up _ _ _ _ hle7 hc6) (RConf.up _ _ _ _ hle7 hx15)) ?_
    rintro v8 w8 hg8 hax8 rfl
    refine ⟨trivial, ?_⟩
    rw [hd2]
    refine RL.pure rfl rfl rfl rfl ?_
    refine RL.pure rfl rfl rfl rfl ?_
    refine RL.pure rfl rfl rfl rfl ?_
    refine RL.pure rfl rfl rfl rfl ?_
    refine RL.pure rfl rfl rfl rfl ?_
    refine RL.pure rfl rfl rfl rfl ?_
    refine RL.len rfl rfl rfl rfl sl25 rfl ?_
    refine RL.pure rfl rfl rfl rfl ?_
    refine RL.pure rfl rfl rfl rfl ?_
    refine RL.pure rfl rfl rfl rfl ?_
    refine RL.pure rfl rfl rfl rfl ?_
    refine RL.len rfl rfl rfl rfl sl25 rfl ?_
    refine RL.as_ rfl rfl rfl rfl (.bool true) ((congrArg Value.bool (decide_eq_true (by omega)))) ?_
    refine RL.pure rfl rfl rfl rfl ?_
    refine RL.pure rfl rfl rfl rfl ?_
    refine RL.done ?_
    exact CW.ret (ret (vs := [_]) ⟨_, _, rfl, rfl, rfl⟩ (Post.mk (hle.trans (hle6.trans hle7)) hg8.drop.nil (hx6'.trans (hax7.trans hax8)) rfl))
end Go.Lw
