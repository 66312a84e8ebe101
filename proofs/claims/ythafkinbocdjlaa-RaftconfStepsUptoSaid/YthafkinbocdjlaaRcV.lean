/-
  Configurations: the law RaftconfPaths, walked.
-/
import Derived.Test.YthafkinbocdjlaaRcU
import Derived.Test.YthafkinbocdjlaaRcN
namespace Go.Lw
open Go.Proofs

abbrev chV (x : Change) : Value := .agg #[i64 x.kind, i64 x.node]
theorem change_ne (x : Change) (w : World) : (binOp .neq 33 (chV x) (chV x)).run Try.prog w = .ok (.bool false) w := by
  have u1 := Try.underlying3
  have a1 := Try.isAgg3
  have z1 := Try.sizeOf3
  have u2 := Try.underlying31
  have a2 := Try.isAgg31
  have z2 := Try.sizeOf31
  have hS : Try.prog.underlying 33 = some (.struct (Try.prog.fieldsOf 33)) := by kernel_rfl
  have hp : Try.prog.stoodInHeld 33 = false := by kernel_rfl
  rw [run_neq_struct, show (10000 : Nat) = 9999 + 1 from rfl, run_equalIn_agg w 9999 33 _ _ hS hp]
  simp only [Program.fieldsOf, Try.underlying33]
  go_simp

set_option maxHeartbeats 2000000 in
set_option maxRecDepth 100000 in
theorem RaftconfPaths_ct {w : World} {s : Res} {os : List Res} {us vs : List Value} {x y : Conf} (hg : Good w s os) (hx : RConf s us x) (hy : RConf s vs y) (hbx : x.fits) (hby : y.fits) :
    Calls Try.prog 4 #[.agg us.toArray, .agg vs.toArray] w (Post w s os fun _ _ r => r = .bool true) := by
  have hx0 := hx
  have hy0 := hy
  obtain ⟨xa, xc, xb, xd, rfl, _, _⟩ := hx
  obtain ⟨ya, yc, yb, yd, rfl, _, _⟩ := hy
  refine enter (l := [.agg #[.slice xa x.voters.length xc, .slice xb x.learners.length xd], .agg #[.slice ya y.voters.length yc, .slice yb y.learners.length yd]]) Try.func4 rfl Try.ntmps4 rfl ?_
  refine CW.seq (CW.plain ?_)
  refine RL.box rfl rfl rfl rfl rfl hg ?_
  rintro p w0 hg0 hax0
  refine ⟨trivial, ?_⟩
  obtain ⟨s0, hg0, hle0, hq0⟩ := Good.letgo hg0
  have hH : Holds s0 ⟨p, 0, none⟩ [.slice xa x.voters.length xc, .slice xb x.learners.length xd] := (Holds.one p _ _).le hq0
  refine RL.box rfl rfl rfl rfl rfl hg0 ?_
  rintro q w1 hg1 hax1
  refine ⟨trivial, ?_⟩
  refine RL.pure rfl rfl rfl rfl ?_
  refine RL.done ?_
  obtain ⟨s1, hg1, hle1, hq1⟩ := Good.letgo hg1
  have hQ : Holds s1 ⟨q, 0, none⟩ [.slice ya y.voters.length yc, .slice yb y.learners.length yd] := (Holds.one q _ _).le hq1
  have hH := hH.le hle1
  refine CW.seq (CW.plain ?_)
  refine RL.call rfl rfl rfl rfl rfl ca8 (head8_ct hg1) ?_
  rintro v2 s2 A2 w2 hle2 hg2 hax2 rfl
  refine ⟨trivial, ?_⟩
  refine RL.pure rfl rfl rfl rfl ?_
  refine RL.done ?_
  have hg2 := hg2.drop
  have hle := hle0.trans (hle1.trans hle2)
  have hax := hax0.trans (hax1.trans hax2)
  have hH := hH.le hle2
  have hQ := hQ.le hle2
  have hx2 := RConf.up _ _ _ _ hle hx0
  have hy2 := RConf.up _ _ _ _ hle hy0
  clear hg0 hg1
  refine CW.seq (CW.plain ?_)
  refine RL.loads (j := 0) (us := [.slice xa x.voters.length xc, .slice xb x.learners.length xd]) rfl rfl rfl rfl ty24 rfl (hH) (hg2.sh) rfl rfl ?_
  refine RL.loads (j := 0) (us := [.slice ya y.voters.length yc, .slice yb y.learners.length yd]) rfl rfl rfl rfl ty24 rfl (hQ) (hg2.sh) rfl rfl ?_
  refine RL.call rfl rfl rfl rfl rfl ca14 (Path_ct hg2 hx2 hy2 hbx hby) ?_
  rintro v3 s3 A3 w3 hle3 hg3 hax3 ⟨la, lc, rfl, ho3⟩
  refine ⟨trivial, ?_⟩
  refine RL.pure rfl rfl rfl rfl ?_
  refine RL.pure rfl rfl rfl rfl ?_
  refine RL.pure rfl rfl rfl rfl ?_
  refine RL.pure rfl rfl rfl rfl ?_
  refine RL.pure rfl rfl rfl rfl ?_
  refine RL.done ?_
  obtain ⟨s4, hg4, hle4, hA4⟩ := Good.letgo hg3
  have hl := ho3.imm RChange.up hle4 hA4
  have hle24 := hle3.trans hle4
  have hH := hH.le hle24
  have hQ := hQ.le hle24
  have hx4 := RConf.up _ _ _ _ hle24 hx2
  have hy4 := RConf.up _ _ _ _ hle24 hy2
  refine CW.seq (CW.plain ?_)
  refine RL.loads (j := 0) (us := [.slice xa x.voters.length xc, .slice xb x.learners.length xd]) rfl rfl rfl rfl ty24 rfl (hH) (hg4.sh) rfl rfl ?_
  refine RL.loads (j := 0) (us := [.slice ya y.voters.length yc, .slice yb y.learners.length yd]) rfl rfl rfl rfl ty24 rfl (hQ) (hg4.sh) rfl rfl ?_
  refine RL.call rfl rfl rfl rfl rfl ca15 (rPath_ct hg4 hx4 hy4 hbx hby) ?_
  rintro v5 s5 A5 w5 hle5 hg5 hax5 ⟨ma, mc, rfl, ho5⟩
  refine ⟨trivial, ?_⟩
  refine RL.pure rfl rfl rfl rfl ?_
  refine RL.pure rfl rfl rfl rfl ?_
  refine RL.pure rfl rfl rfl rfl ?_
  refine RL.pure rfl rfl rfl rfl ?_
  refine RL.pure rfl rfl rfl rfl ?_
  refine RL.done ?_
  obtain ⟨s6, hg6, hle6, hA6⟩ := Good.letgo hg5
  have hm := ho5.imm RChange.up hle6 hA6
  have hle46 := hle5.trans hle6
  have hl := hl.up RChange.up hle46
  have hH := hH.le hle46
  have hQ := hQ.le hle46
  have hx6 := RConf.up _ _ _ _ hle46 hx4
  have hy6 := RConf.up _ _ _ _ hle46 hy4
  have hle := hle.trans (hle24.trans hle46)
  have hax := hax.trans (hax3.trans hax5)
  have hfail := path_fail (x := x) (y := y)
  have hpl : checkP x = 0 → checkP y = 0 → (pathP x y).1 = pathL x y := fun h1 h2 => by rw [pathP, if_neg (by simpa using h1), if_neg (by simpa using h2)]
  generalize pathP x y = r at *
  obtain ⟨l, e⟩ := r
  simp only at hl hm hfail hpl
  have hll := hl.le_max
  simp only [maxLen] at hll
  clear hg2 hg3 hg4 hg5
  refine CW.seq (CW.seq (CW.plain ?_))
  refine RL.pure rfl rfl rfl rfl ?_
  refine RL.pure rfl rfl rfl rfl ?_
  refine RL.pure rfl rfl rfl rfl ?_
  refine RL.pure rfl rfl rfl rfl ?_
  refine RL.pure rfl rfl rfl rfl ?_
  refine RL.as_ rfl rfl rfl rfl (.bool false) ((by show Value.bool (_ != _) = _; simp)) ?_
  refine RL.pure rfl rfl rfl rfl ?_
  refine RL.pure rfl rfl rfl rfl ?_
  refine RL.pure rfl rfl rfl rfl ?_
  refine RL.len rfl rfl rfl rfl sl25 rfl ?_
  refine RL.pure rfl rfl rfl rfl ?_
  refine RL.len rfl rfl rfl rfl sl25 rfl ?_
  refine RL.as_ rfl rfl rfl rfl (.bool false) ((by show Value.bool (_ != _) = _; simp)) ?_
  refine RL.pure rfl rfl rfl rfl ?_
  refine RL.done ?_
  refine CW.no rfl (CW.skip ?_)
  refine CW.less (E' := [(2, ptr p), (3, ptr q), (6, .slice la l.length lc), (7, i64 e), (8, .slice ma l.length mc)]) ⟨rfl, rfl, rfl, rfl, rfl, trivial⟩ ?_
  refine CW.meet (fun E w' => E = [(2, ptr p), (3, ptr q), (6, .slice la l.length lc), (7, i64 e)] ∧ Good w' s6 os ∧ Aux w w') ?_ ?_
  · refine CW.seq (CW.plain ?_)
    refine RL.pure rfl rfl rfl rfl ?_
    refine RL.done ?_
    refine CW.block (CW.loop (σ := Nat) (fun j E w' => ∃ k : Nat, E = [(2, ptr p), (3, ptr q), (6, .slice la l.length lc), (7, i64 e), (8, .slice ma l.length mc), (10, i64 k)] ∧ Good w' s6 os ∧ Aux w w' ∧ k + j = l.length)
      (fun j => j) l.length [(2, ptr p), (3, ptr q), (6, .slice la l.length lc), (7, i64 e), (8, .slice ma l.length mc), (10, i64 0)] ⟨rfl, rfl, rfl, rfl, rfl, rfl, trivial⟩ ⟨0, rfl, hg6, hax, by omega⟩ ?_)
    rintro j E w7 ⟨k, rfl, hg7, hax7, hk⟩
    refine CW.seq (CW.seq (CW.plain ?_))
    refine RL.pure rfl rfl rfl rfl ?_
    refine RL.pure rfl rfl rfl rfl ?_
    refine RL.len rfl rfl rfl rfl sl25 rfl ?_
    refine RL.pure rfl rfl rfl rfl ?_
    refine RL.done ?_
    refine CW.test rfl (fun h => CW.skip ?_) (fun h => CW.exit ?_)
    · have hkl : k < l.length := by omega
      refine CW.seq (CW.block (CW.seq ?_))
      refine CW.draws [(true, 0), (true, 1), (true, 2), (true, 3), (true, 4), (true, 5), (true, 6), (true, 7), (true, 8)] (fun w => Good w s6 os) mixed (by kernel_rfl) (by kernel_rfl) (by kernel_rfl) (by kernel_rfl) (hg7.drew) ?_
      refine RL.pure rfl rfl rfl rfl ?_
      refine RL.pure rfl rfl rfl rfl ?_
      refine RL.idx rfl rfl rfl rfl sl25 rfl rfl (hl) (by omega) ((by omega)) ?_
      rintro q1 vs1 hv1 hH1 ⟨rfl, hr1, hs1⟩
      refine RL.loadsT (j := 0) (us := [i64 l[((k : Nat) : Int).toNat].kind, i64 l[((k : Nat) : Int).toNat].node]) rfl rfl rfl rfl ty33 rfl (hH1) (fun w h => h.sh) rfl rfl ?_
      refine RL.pure rfl rfl rfl rfl ?_
      refine RL.pure rfl rfl rfl rfl ?_
      refine RL.idx rfl rfl rfl rfl sl25 rfl rfl (hm) (by omega) ((by omega)) ?_
      rintro q2 vs2 hv2 hH2 ⟨rfl, hr2, hs2⟩
      refine RL.loadsT (j := 0) (us := [i64 l[((k : Nat) : Int).toNat].kind, i64 l[((k : Nat) : Int).toNat].node]) rfl rfl rfl rfl ty33 rfl (hH2) (fun w h => h.sh) rfl rfl ?_
      refine RL.stNe rfl rfl rfl rfl (by kernel_rfl) rfl rfl (change_ne l[((k : Nat) : Int).toNat]) ?_
      refine RL.done ?_
      refine CW.no rfl (CW.skip ?_)
      refine CW.plain ?_
      refine RL.pure rfl rfl rfl rfl ?_
      refine RL.add rfl rfl rfl rfl rfl rfl (by simp only [rng] at *; omega) ?_
      refine RL.pure rfl rfl rfl rfl ?_
      refine RL.done ?_
      cases j with
      | zero => omega
      | succ j => exact fun ac ha => ⟨j, [(2, ptr p), (3, ptr q), (6, .slice la l.length lc), (7, i64 e), (8, .slice ma l.length mc), (10, i64 ((k + 1 : Nat) : Int))], ha.sub ⟨rfl, rfl, rfl, rfl, rfl, rfl, trivial⟩, ⟨k + 1, rfl, hg7.drew, hax7.trans (Aux.drew _), by omega⟩, Nat.lt_succ_self j⟩
    · exact fun ac ha => ⟨[(2, ptr p), (3, ptr q), (6, .slice la l.length lc), (7, i64 e)], ha.sub ⟨rfl, rfl, rfl, rfl, trivial⟩, rfl, hg7, hax7⟩
  rintro E w7 ⟨rfl, hg7, hax7⟩
  refine CW.seq (CW.seq (CW.plain ?_))
  refine RL.pure rfl rfl rfl rfl ?_
  refine RL.pure rfl rfl rfl rfl ?_
  refine RL.done ?_
  refine CW.cond rfl (fun hne => CW.seq (CW.plain ?_)) (fun hne => CW.skip ?_)
  · refine RL.pure rfl rfl rfl rfl ?_
    refine RL.done ?_
    exact CW.ret (ret (vs := [_]) ⟨_, _, rfl, rfl, rfl⟩ (Post.mk hle hg7.nil hax7 rfl))
  have he : e = 0 := by simpa using hne
  obtain ⟨hcx, hcy⟩ := hfail.1.1 he
  obtain rfl : l = pathL x y := hpl hcx hcy
  have hlead := path_leads hcx hcy
  refine CW.seq (CW.plain ?_)
  refine RL.loads (j := 0) (us := [.slice xa x.voters.length xc, .slice xb x.learners.length xd]) rfl rfl rfl rfl ty24 rfl (hH) (hg7.sh) rfl rfl ?_
  refine RL.call rfl rfl rfl rfl rfl ca9 (CloneConf_ct hg7 hx6 hbx) ?_
  rintro v8 s8 A8 w8 hle8 hg8 hax8 ⟨us8, rfl, hu8⟩
  refine ⟨trivial, ?_⟩
  obtain ⟨ca, cc, cb, cd, rfl, _, _⟩ := id hu8
  refine RL.alloc rfl rfl rfl rfl ze24 hg8.drop ?_
  rintro pc w9 hg9 hax9
  refine ⟨trivial, ?_⟩
  refine RL.store (i := 0) (j := 0) rfl rfl rfl ty24 rfl rfl hg9 rfl (if_pos rfl) rfl (by first | (simp [Value.cells, Value.oneCell']; done) | simp [Value.cells, Value.oneCell', putL]) (by first | exact Nat.le_of_ble_eq_true rfl | (simp; done) | (simp; omega) | omega) ?_
  rintro w10 hg10 hax10
  refine ⟨trivial, ?_⟩
  refine RL.done ?_
  have hQ := hQ.le hle8
  have hy8 := RConf.up _ _ _ _ hle8 hy6
  have hl := hl.up RChange.up hle8
  have hle := hle.trans hle8
  have hax := hax7.trans (hax8.trans (hax9.trans hax10))
  generalize pathL x y = l at *
  refine CW.seq (CW.seq (CW.plain ?_))
  refine RL.pure rfl rfl rfl rfl ?_
  refine RL.done ?_
  refine CW.block (CW.loop (σ := Nat) (fun j E w' => ∃ s' T c ca cc cb cd, ∃ k : Nat, E = [(3, ptr q), (6, .slice la l.length lc), (11, ptr pc), (12, i64 k)] ∧ T pc = some (.cells #[.slice ca c.voters.length cc, .slice cb c.learners.length cd] 24 (0, 0)) ∧ Good w' s' (T :: os) ∧ Le s8 s' ∧ Aux w w' ∧ RConf s' [.slice ca c.voters.length cc, .slice cb c.learners.length cd] c ∧ checkP c = 0 ∧ Leads c (l.drop k) y ∧ k + j = l.length)
    (fun j => j) l.length [(3, ptr q), (6, .slice la l.length lc), (11, ptr pc), (12, i64 0)] ⟨rfl, rfl, rfl, rfl, trivial⟩ ⟨s8, _, x, ca, cc, cb, cd, 0, rfl, put_same _ _ _, hg10, Le.refl _, hax, hu8, hcx, hlead, by omega⟩ ?_)
  clear hg6 hg7 hg8 hg9 hg10 hu8
  rintro j E w6 ⟨s6', T6, c, ca, cc, cb, cd, k, rfl, hT6, hg6, hle6, hx6', hc6, hck, hlead, hk⟩
  refine CW.seq (CW.seq (CW.plain ?_))
  refine RL.pure rfl rfl rfl rfl ?_
  refine RL.pure rfl rfl rfl rfl ?_
  refine RL.len rfl rfl rfl rfl sl25 rfl ?_
  refine RL.pure rfl rfl rfl rfl ?_
  refine RL.done ?_
  refine CW.test rfl (fun h => CW.skip ?_) (fun h => CW.exit ?_)
  · have hkl : k < l.length := by omega
    have ek : l[((k : Nat) : Int).toNat]'(by omega) = l[k] := by simp
    have hl6 := hl.up RChange.up hle6
    have hgD := hg6.drew
    have hfit := right_fits hck
    rw [List.drop_eq_getElem_cons hkl] at hlead
    obtain ⟨d, hap, hlead⟩ := hlead
    obtain ⟨hcd, _⟩ := apply_right hap
    refine CW.seq (CW.block ?_)
    refine CW.meet (fun E w' => ∃ s' T B A p8 a1 c1 b1 d1, E = [(3, ptr q), (6, .slice la l.length lc), (11, ptr pc), (12, i64 k), (13, ptr p8), (14, i64 0)] ∧
        T p8 = some (.cells #[.slice a1 d.voters.length c1, .slice b1 d.learners.length d1] 24 (0, 0)) ∧ Good w' s' (T :: B :: A :: T6 :: os) ∧ Le s6' s' ∧ Aux w w' ∧
        OwnI s' A a1 c1 d.voters ∧ OwnI s' B b1 d1 d.learners) ?_ ?_
    · refine CW.forks (.fork [(true, 0), (true, 1), (true, 2), (true, 3), (true, 4)] (.line [(false, 5), (true, 6), (true, 7), (true, 8), (false, 9), (false, 10), (false, 11)]) (.line [(false, 9), (false, 5), (true, 6), (true, 7), (true, 8), (false, 10), (false, 11)])) (fun w => In s6' w ∧ In T6 w) mixed (by kernel_rfl) (by kernel_rfl) (by kernel_rfl) (by kernel_rfl) (⟨hgD.sh, hgD.mem (by simp)⟩) ?_
      refine RT.pre (S := fun w => In s6' w ∧ In T6 w) (⟨hgD.sh, hgD.mem (by simp)⟩) ?_
      refine RL.loadsT (j := 0) (us := [.slice ca c.voters.length cc, .slice cb c.learners.length cd]) rfl rfl rfl rfl ty24 rfl (Holds.of hT6) (fun w h => h.2) rfl rfl ?_
      refine RL.pure rfl rfl rfl rfl ?_
      refine RL.pure rfl rfl rfl rfl ?_
      refine RL.idx rfl rfl rfl rfl sl25 rfl rfl (hl6) (by omega) (by omega) ?_
      rintro qe vse hvle hHe ⟨rfl, hr1, hr2⟩
      rw [ek] at hr1 hr2 hHe
      refine RL.loadsT (j := 0) (us := [i64 l[k].kind, i64 l[k].node]) rfl rfl rfl rfl ty33 rfl (hHe) (fun w h => h.1) rfl rfl ?_
      refine RL.done ?_
      refine RT.both (S := fun w => In s6' w ∧ In T6 w) (⟨hgD.sh, hgD.mem (by simp)⟩) (RT.end_ (S := fun w => In s6' w ∧ In T6 w) (⟨hgD.sh, hgD.mem (by simp)⟩) ?_) (RT.end_ (S := fun w => In s6' w ∧ In T6 w) (⟨hgD.sh, hgD.mem (by simp)⟩) ?_)
      · refine RL.callG rfl rfl rfl rfl rfl ca10 ((by have ct := Apply_ct (k := l[k].kind) (n := l[k].node) hgD hc6 hfit hr1 hr2; rw [hap] at ct; exact ct)) ?_
        rintro e28 w28 ⟨v28, s28, B, A, rfl, hle28, hg28, hax28, a1, c1, b1, d1, rfl, ho1, ho2⟩
        refine ⟨_, rfl, ⟨hg28.sh.le hle28, hg28.mem (by simp)⟩, ?_⟩
        refine RL.pure rfl rfl rfl rfl ?_
        refine RL.pure rfl rfl rfl rfl ?_
        refine RL.pure rfl rfl rfl rfl ?_
        refine RL.alloc rfl rfl rfl rfl ze24 hg28 ?_
        rintro p13 w13 hg13 hax13
        refine ⟨⟨hg13.sh.le hle28, hg13.mem (by simp)⟩, ?_⟩
        refine RL.store (i := 0) (j := 0) rfl rfl rfl ty24 rfl rfl hg13 rfl (if_pos rfl) rfl (by first | (simp [Value.cells, Value.oneCell']; done) | simp [Value.cells, Value.oneCell', putL]) (by first | exact Nat.le_of_ble_eq_true rfl | (simp; done) | (simp; omega) | omega) ?_
        rintro wS hgS haxS
        refine ⟨⟨hgS.sh.le hle28, hgS.mem (by simp)⟩, ?_⟩
        refine RL.pure rfl rfl rfl rfl ?_
        refine RL.done ?_
        exact fun ac ha => ⟨_, ha.sub (E' := [(3, ptr q), (6, .slice la l.length lc), (11, ptr pc), (12, i64 k), (13, ptr p13), (14, i64 0)]) ⟨rfl, rfl, rfl, rfl, rfl, rfl, trivial⟩, s28, _, B, A, p13, a1, c1, b1, d1, rfl, put_same _ _ _, (hgS.front 0 rfl), hle28, (hx6'.trans (Aux.drew _)).trans ((hax28).trans ((hax13).trans (haxS))), ho1, ho2⟩
      · refine RL.alloc rfl rfl rfl rfl ze24 hgD ?_
        rintro p13 w13 hg13 hax13
        refine ⟨⟨hg13.sh, hg13.mem (by simp)⟩, ?_⟩
        refine RL.callG rfl rfl rfl rfl rfl ca10 ((by have ct := Apply_ct (k := l[k].kind) (n := l[k].node) hg13 hc6 hfit hr1 hr2; rw [hap] at ct; exact ct)) ?_
        rintro e28 w28 ⟨v28, s28, B, A, rfl, hle28, hg28, hax28, a1, c1, b1, d1, rfl, ho1, ho2⟩
        refine ⟨_, rfl, ⟨hg28.sh.le hle28, hg28.mem (by simp)⟩, ?_⟩
        refine RL.pure rfl rfl rfl rfl ?_
        refine RL.pure rfl rfl rfl rfl ?_
        refine RL.pure rfl rfl rfl rfl ?_
        refine RL.store (i := 2) (j := 0) rfl rfl rfl ty24 rfl rfl hg28 rfl (if_pos rfl) rfl (by first | (simp [Value.cells, Value.oneCell']; done) | simp [Value.cells, Value.oneCell', putL]) (by first | exact Nat.le_of_ble_eq_true rfl | (simp; done) | (simp; omega) | omega) ?_
        rintro wS hgS haxS
        refine ⟨⟨hgS.sh.le hle28, hgS.mem (by simp)⟩, ?_⟩
        refine RL.pure rfl rfl rfl rfl ?_
        refine RL.done ?_
        exact fun ac ha => ⟨_, ha.sub (E' := [(3, ptr q), (6, .slice la l.length lc), (11, ptr pc), (12, i64 k), (13, ptr p13), (14, i64 0)]) ⟨rfl, rfl, rfl, rfl, rfl, rfl, trivial⟩, s28, _, B, A, p13, a1, c1, b1, d1, rfl, put_same _ _ _, (hgS.front 2 rfl), hle28, (hx6'.trans (Aux.drew _)).trans ((hax13).trans ((hax28).trans (haxS))), ho1, ho2⟩
    rintro E w7 ⟨s7, T7, B7, A7, p7, a1, c1, b1, d1, rfl, hT7, hg7, hle7, hx7, ho1, ho2⟩
    obtain ⟨s8', hg8, hle8', hT8⟩ := Good.letgo hg7
    obtain ⟨s9, hg9, hle9, hB9⟩ := Good.letgo hg8
    obtain ⟨s10, hg10, hle10, hA10⟩ := Good.letgo hg9
    have i1 := ho1.imm (RInt.up _) (hle8'.trans (hle9.trans hle10)) hA10
    have i2 := ho2.imm (RInt.up _) (hle8'.trans (hle9.trans hle10)) (hB9.trans hle10)
    have hR : Holds s10 ⟨p7, 0, none⟩ [.slice a1 d.voters.length c1, .slice b1 d.learners.length d1] := (Holds.of hT7).le (hT8.trans (hle9.trans hle10))
    refine CW.seq (CW.seq (CW.plain ?_))
    refine RL.pure rfl rfl rfl rfl ?_
    refine RL.pure rfl rfl rfl rfl ?_
    refine RL.done ?_
    refine CW.no rfl (CW.skip ?_)
    refine CW.plain ?_
    refine RL.loads (j := 0) (us := [.slice a1 d.voters.length c1, .slice b1 d.learners.length d1]) rfl rfl rfl rfl ty24 rfl (hR) (hg10.sh) rfl rfl ?_
    refine RL.store (i := 0) (j := 0) rfl rfl rfl ty24 rfl rfl hg10 rfl (hT6) rfl (by first | (simp [Value.cells, Value.oneCell']; done) | simp [Value.cells, Value.oneCell', putL]) (by first | exact Nat.le_of_ble_eq_true rfl | (simp; done) | (simp; omega) | omega) ?_
    rintro w11 hg11 hax11
    refine ⟨trivial, ?_⟩
    refine RL.done ?_
    refine CW.plain ?_
    refine RL.pure rfl rfl rfl rfl ?_
    refine RL.add rfl rfl rfl rfl rfl rfl (by simp only [rng] at *; omega) ?_
    refine RL.pure rfl rfl rfl rfl ?_
    refine RL.done ?_
    cases j with
    | zero => omega
    | succ j => exact fun ac ha => ⟨j, [(3, ptr q), (6, .slice la l.length lc), (11, ptr pc), (12, i64 ((k + 1 : Nat) : Int))], ha.sub ⟨rfl, rfl, rfl, rfl, trivial⟩, ⟨s10, _, d, a1, c1, b1, d1, k + 1, rfl, put_same _ _ _, hg11, hle6.trans (hle7.trans (hle8'.trans (hle9.trans hle10))), hx7.trans hax11, ⟨a1, c1, b1, d1, rfl, i1, i2⟩, hcd, hlead, by omega⟩, Nat.lt_succ_self j⟩
  · have hkl : k = l.length := by omega
    rw [hkl, List.drop_length] at hlead
    obtain rfl : c = y := hlead
    have hd2 : decide (c = c) = true := decide_eq_true rfl
    refine CW.seq (CW.plain ?_)
    refine RL.loads (j := 0) (us := [.slice ca c.voters.length cc, .slice cb c.learners.length cd]) rfl rfl rfl rfl ty24 rfl (Holds.of hT6) (hg6.1) rfl rfl ?_
    refine RL.loads (j := 0) (us := [.slice ya c.voters.length yc, .slice yb c.learners.length yd]) rfl rfl rfl rfl ty24 rfl (hQ.le hle6) (hg6.sh) rfl rfl ?_
    refine RL.callV rfl rfl rfl rfl rfl ca12 (SameConf6_ct hg6 hc6 (RConf.up _ _ _ _ hle6 hy8)) ?_
    rintro v7 w7 hg7 hax7 rfl
    refine ⟨trivial, ?_⟩
    rw [hd2]
    refine RL.pure rfl rfl rfl rfl ?_
    refine RL.done ?_
    exact CW.ret (ret (vs := [_]) ⟨_, _, rfl, rfl, rfl⟩ (Post.mk (hle.trans hle6) hg7.drop.nil (hx6'.trans hax7) rfl))
end Go.Lw
