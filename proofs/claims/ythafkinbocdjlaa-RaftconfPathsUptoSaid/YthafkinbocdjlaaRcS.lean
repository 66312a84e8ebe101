/-
  Configurations: Path, by the program.
-/
import Derived.Test.YthafkinbocdjlaaRcR
namespace Go.Lw
open Go.Proofs
attribute [local irreducible] RL RA

abbrev Changes := Imm RChange 2
/-- How a path ends. -/
def PathEnd (s A : Res) (v : Value) (r : List Change × Int) : Prop := ∃ a c, v = .tuple #[.slice a r.1.length c, i64 r.2] ∧ Own RChange 2 33 s A a c r.1
theorem PathEnd.bad {s A : Res} {e : Int} : PathEnd s A (.tuple #[nilSl, i64 e]) ([], e) := ⟨none, 0, rfl, .inl ⟨rfl, rfl, rfl⟩⟩
theorem confs_chunks {s : Res} {us vs : List Value} {x y : Conf} (hu : RConf s us x) (hv : RConf s vs y) : Chunks RConf 2 s (us ++ vs) [x, y] := by
  obtain ⟨_, _, _, _, rfl, _, _⟩ := id hu
  obtain ⟨_, _, _, _, rfl, _, _⟩ := id hv
  exact ⟨_, _, rfl, rfl, hu, _, [], rfl, rfl, hv, rfl⟩

set_option maxHeartbeats 1000000 in
set_option maxRecDepth 100000 in
theorem Path_ct {w : World} {s : Res} {os : List Res} {us vs : List Value} {x y : Conf} (hg : Good w s os) (hx : RConf s us x) (hy : RConf s vs y) (hbx : x.fits) (hby : y.fits) :
    Calls Try.prog 14 #[.agg us.toArray, .agg vs.toArray] w (Post w s os fun s' A v => PathEnd s' A v (pathP x y)) := by
  have hx0 := hx
  have hy0 := hy
  obtain ⟨xa, xc, xb, xd, rfl, _, _⟩ := hx
  obtain ⟨ya, yc, yb, yd, rfl, _, _⟩ := hy
  refine enter (l := [.agg #[.slice xa x.voters.length xc, .slice xb x.learners.length xd], .agg #[.slice ya y.voters.length yc, .slice yb y.learners.length yd]]) Try.func14 rfl Try.ntmps14 rfl ?_
  refine CW.seq (CW.plain ?_)
  refine RL.box rfl rfl rfl rfl rfl hg ?_
  rintro p w0 hg0 hax0
  refine ⟨trivial, ?_⟩
  obtain ⟨s0, hg0, hle0, hq0⟩ := Good.letgo hg0
  have hH : Holds s0 ⟨p, 0, none⟩ [.slice xa x.voters.length xc, .slice xb x.learners.length xd] := (Holds.one p _ _).le hq0
  refine RL.box rfl rfl rfl rfl rfl hg0 ?_
  rintro q w1 hg1 hax1
  refine ⟨trivial, ?_⟩
  refine RL.pure rfl rfl rfl rfl ?_
  refine RL.pure rfl rfl rfl rfl ?_
  refine RL.done ?_
  obtain ⟨s1, hg1, hle1, hq1⟩ := Good.letgo hg1
  have hQ : Holds s1 ⟨q, 0, none⟩ [.slice ya y.voters.length yc, .slice yb y.learners.length yd] := (Holds.one q _ _).le hq1
  have hH := hH.le hle1
  have hle := hle0.trans hle1
  have hax := hax0.trans hax1
  have hx1 := RConf.up _ _ _ _ hle hx0
  have hy1 := RConf.up _ _ _ _ hle hy0
  clear hg0
  refine CW.meet (fun E w' => ∃ s', E = [(2, ptr p), (3, ptr q)] ∧ Good w' s' os ∧ Le s1 s' ∧ Aux w w' ∧ checkP x = 0 ∧ checkP y = 0) ?_ ?_
  · refine CW.seq (CW.plain ?_)
    refine RL.loads (j := 0) (us := [.slice xa x.voters.length xc, .slice xb x.learners.length xd]) rfl rfl rfl rfl ty24 rfl (hH) (hg1.sh) rfl rfl ?_
    refine RL.loads (j := 0) (us := [.slice ya y.voters.length yc, .slice yb y.learners.length yd]) rfl rfl rfl rfl ty24 rfl (hQ) (hg1.sh) rfl rfl ?_
    refine RL.buildSlice rfl rfl rfl rfl sl49 ze24 rfl rfl rfl rfl hg1 ?_
    rintro b w2 hg2 hax2
    refine ⟨trivial, ?_⟩
    refine RL.len rfl rfl rfl rfl sl49 rfl ?_
    refine RL.pure rfl rfl rfl rfl ?_
    refine RL.done ?_
    obtain ⟨s2, hg2, hle2, hq2⟩ := Good.letgo hg2
    have hI : Imm RConf 2 s2 (some ⟨b, 0, none⟩) 2 [x, y] := ⟨Nat.le_refl _, by decide, .inr ⟨_, rfl, _, (Holds.one b _ _).le hq2, confs_chunks (RConf.up _ _ _ _ hle2 hx1) (RConf.up _ _ _ _ hle2 hy1)⟩⟩
    refine CW.block (CW.loop (σ := Nat) (fun j E w' => ∃ s', ∃ k : Nat, E = [(2, ptr p), (3, ptr q), (15, .slice (some ⟨b, 0, none⟩) 2 2), (16, i64 2), (17, i64 k)] ∧ Good w' s' os ∧ Le s2 s' ∧ Aux w w' ∧ k + j = 2 ∧ (1 ≤ k → checkP x = 0) ∧ (2 ≤ k → checkP y = 0))
      (fun j => j) 2 [(2, ptr p), (3, ptr q), (15, .slice (some ⟨b, 0, none⟩) 2 2), (16, i64 2), (17, i64 0)] ⟨rfl, rfl, rfl, rfl, rfl, trivial⟩ ⟨s2, 0, rfl, hg2, Le.refl _, hax.trans hax2, by omega, by omega, by omega⟩ ?_)
    rintro j E w3 ⟨s3, k, rfl, hg3, hle3, hax3, hk, hz1, hz2⟩
    refine CW.seq (CW.plain ?_)
    refine RL.pure rfl rfl rfl rfl ?_
    refine RL.done ?_
    refine CW.seq (CW.test rfl (fun h => CW.skip ?_) (fun h => CW.exit ?_))
    · have hkl : k < 2 := by omega
      have hI3 := hI.up RConf.up hle3
      have hex : ∃ z, ([x, y] : List Conf)[((k : Nat) : Int).toNat]'(by simp; omega) = z ∧ z.fits ∧ (pathP x y = ([], checkP z) ∨ checkP z = 0) ∧ (k = 0 → z = x) ∧ (k = 1 → z = y) := by
        rcases (show k = 0 ∨ k = 1 by omega) with rfl | rfl
        · refine ⟨x, rfl, hbx, ?_, fun _ => rfl, fun h => absurd h (by decide)⟩
          by_cases hz : checkP x = 0
          · exact .inr hz
          · exact .inl (if_pos hz)
        · refine ⟨y, rfl, hby, ?_, fun h => absurd h (by decide), fun _ => rfl⟩
          by_cases hz : checkP y = 0
          · exact .inr hz
          · exact .inl (by rw [pathP, if_neg (by simpa using hz1 (Nat.le_refl _)), if_pos hz])
      obtain ⟨z, ez, hbz, hpz, hk0, hk1⟩ := hex
      refine CW.seq (CW.block (CW.seq (CW.plain ?_)))
      refine RL.idx rfl rfl rfl rfl sl49 rfl rfl (hI3) (by omega) ((by simp; omega)) ?_
      rintro qe vse hvle hHe hrz
      rw [ez] at hrz
      obtain ⟨za, zc, zb, zd, rfl, _, _⟩ := id hrz
      refine RL.loads (j := 0) (us := [.slice za z.voters.length zc, .slice zb z.learners.length zd]) rfl rfl rfl rfl ty24 rfl (hHe) (hg3.sh) rfl rfl ?_
      refine RL.alloc rfl rfl rfl rfl ze24 hg3 ?_
      rintro r w4 hg4 hax4
      refine ⟨trivial, ?_⟩
      refine RL.store (i := 0) (j := 0) rfl rfl rfl ty24 rfl rfl hg4 rfl (if_pos rfl) rfl (by first | (simp [Value.cells, Value.oneCell']; done) | simp [Value.cells, Value.oneCell', putL]) (by first | exact Nat.le_of_ble_eq_true rfl | (simp; done) | (simp; omega) | omega) ?_
      rintro w5 hg5 hax5
      refine ⟨trivial, ?_⟩
      refine RL.done ?_
      obtain ⟨s6, hg6, hle6, hq6⟩ := Good.letgo hg5
      have hR : Holds s6 ⟨r, 0, none⟩ [.slice za z.voters.length zc, .slice zb z.learners.length zd] := (Holds.of (put_same _ _ _)).le hq6
      refine CW.seq (CW.plain ?_)
      refine RL.loads (j := 0) (us := [.slice za z.voters.length zc, .slice zb z.learners.length zd]) rfl rfl rfl rfl ty24 rfl (hR) (hg6.sh) rfl rfl ?_
      refine RL.call rfl rfl rfl rfl rfl ca16 (Check_ct hg6 (RConf.up _ _ _ _ hle6 hrz) hbz) ?_
      rintro v7 s7 A7 w7 hle7 hg7 hax7 rfl
      refine ⟨trivial, ?_⟩
      refine RL.pure rfl rfl rfl rfl ?_
      refine RL.done ?_
      refine CW.seq (CW.plain ?_)
      refine RL.pure rfl rfl rfl rfl ?_
      refine RL.pure rfl rfl rfl rfl ?_
      refine RL.done ?_
      refine CW.cond rfl (fun hne => CW.seq (CW.plain ?_)) (fun hne => CW.skip ?_)
      · have hne : checkP z ≠ 0 := by simpa using hne
        refine RL.pure rfl rfl rfl rfl ?_
        refine RL.pure rfl rfl rfl rfl ?_
        refine RL.pure rfl rfl rfl rfl ?_
        refine RL.done ?_
        refine CW.ret (ret (vs := [_, _]) ⟨_, _, rfl, rfl, _, _, rfl, rfl, rfl⟩ (Post.mk (hle.trans (hle2.trans (hle3.trans (hle6.trans hle7)))) hg7.drop.nil (hax3.trans (hax4.trans (hax5.trans hax7))) ?_))
        rw [hpz.resolve_right hne]
        exact PathEnd.bad
      · have hne : checkP z = 0 := by simpa using hne
        refine CW.plain ?_
        refine RL.add rfl rfl rfl rfl rfl rfl (by simp only [rng] at *; omega) ?_
        refine RL.pure rfl rfl rfl rfl ?_
        refine RL.done ?_
        cases j with
        | zero => omega
        | succ j =>
          refine fun ac ha => ⟨j, [(2, ptr p), (3, ptr q), (15, .slice (some ⟨b, 0, none⟩) 2 2), (16, i64 2), (17, i64 ((k + 1 : Nat) : Int))], ha.sub ⟨rfl, rfl, rfl, rfl, rfl, trivial⟩, ⟨s7, k + 1, rfl, hg7.drop, hle3.trans (hle6.trans hle7), hax3.trans (hax4.trans (hax5.trans hax7)), by omega, fun _ => ?_, fun _ => ?_⟩, Nat.lt_succ_self j⟩
          · rcases (show k = 0 ∨ 1 ≤ k by omega) with h0 | h1
            · rw [← hk0 h0]; exact hne
            · exact hz1 h1
          · rw [← hk1 (by omega)]; exact hne
    · exact fun ac ha => ⟨[(2, ptr p), (3, ptr q)], ha.sub ⟨rfl, rfl, trivial⟩, s3, rfl, hg3, hle2.trans hle3, hax3, hz1 (by omega), hz2 (by omega)⟩
  rintro E w2 ⟨s2, rfl, hg2, hle2, hax2, hz1, hz2⟩
  have hpp : pathP x y = (pathL x y, 0) := by rw [pathP, if_neg (by simpa using hz1), if_neg (by simpa using hz2)]
  rw [hpp]
  refine CW.seq (CW.plain ?_)
  refine RL.alloc rfl rfl rfl rfl ze25 hg2 ?_
  rintro pl w3 hg3 hax3
  refine ⟨trivial, ?_⟩
  refine RL.done ?_
  refine CW.seq (CW.plain ?_)
  refine RL.makeF rfl rfl rfl rfl rfl ?_
  refine RL.pure rfl rfl rfl rfl ?_
  refine RL.done ?_
  refine CW.seq (CW.plain ?_)
  refine RL.build rfl rfl rfl rfl ze52 pl52 rfl rfl ?_
  refine RL.alloc rfl rfl rfl rfl ze52 hg3 ?_
  rintro pn w4 hg4 hax4
  refine ⟨trivial, ?_⟩
  refine RL.alloc rfl rfl rfl rfl ze50 hg4 ?_
  rintro pf w5 hg5 hax5
  refine ⟨trivial, ?_⟩
  refine RL.store (i := 1) (j := 0) rfl rfl rfl ty52 rfl rfl hg5 rfl (if_pos rfl) rfl (by first | (simp [Value.cells, Value.oneCell']; done) | simp [Value.cells, Value.oneCell', putL]) (by first | exact Nat.le_of_ble_eq_true rfl | (simp; done) | (simp; omega) | omega) ?_
  rintro w6 hg6 hax6
  refine ⟨trivial, ?_⟩
  refine RL.store (i := 0) (j := 0) rfl rfl rfl ty50 rfl rfl hg6 rfl (if_pos rfl) rfl (by first | (simp [Value.cells, Value.oneCell']; done) | simp [Value.cells, Value.oneCell', putL]) (by first | exact Nat.le_of_ble_eq_true rfl | (simp; done) | (simp; omega) | omega) ?_
  rintro w7 hg7 hax7
  refine ⟨trivial, ?_⟩
  refine RL.done ?_
  obtain ⟨s8, hg8, hle8, hq8⟩ := Good.letgo hg7
  have hF : Holds s8 ⟨pf, 0, none⟩ [.func (.func 33) #[] #[]] := (Holds.of (put_same _ _ _)).le hq8
  obtain ⟨s9, hg9, hle9, hq9⟩ := Good.letgo hg8
  have hN : Holds s9 ⟨pn, 0, none⟩ [.bool false, .bool false] := (Holds.of (put_same _ _ _)).le hq9
  have hF := hF.le hle9
  have hG := (Good.nil hg9).swap
  have hle29 := hle2.trans (hle8.trans hle9)
  have hH := hH.le hle29
  have hQ := hQ.le hle29
  have hx9 := RConf.up _ _ _ _ hle29 hx1
  have hy9 := RConf.up _ _ _ _ hle29 hy1
  have hl0 : Grown s9 (Res.one pl (.cells #[nilSl] 25)) Res.nil pl [] := ⟨none, 0, if_pos rfl, .inl ⟨rfl, rfl, rfl⟩⟩
  have n1 := chs_le 1 (wayOf x y addW) 7
  have n2 := chs_le 2 (wayOf x y votesW) 7
  have n3 := chs_le 3 (wayOf x y goesW) 7
  refine CW.seq (CW.plain ?_)
  refine RL.pure rfl rfl rfl rfl ?_
  refine RL.makeF rfl rfl rfl rfl rfl ?_
  refine RL.callF rfl rfl rfl rfl rfl rfl ca32 (each_ct (k := 1) hG hl0 hH hx9 hQ hy9 ca34 (add_tells hN) (by simp [rng]) (by simp)) ?_
  rintro e1 w11 ⟨rfl, C1, L1, hg11, hax11, hl1⟩
  refine ⟨_, rfl, trivial, ?_⟩
  refine RL.done ?_
  refine CW.seq (CW.plain ?_)
  refine RL.pure rfl rfl rfl rfl ?_
  refine RL.callF rfl rfl rfl rfl rfl rfl ca32 (each_ct (k := 2) hg11 hl1 hH hx9 hQ hy9 ca35 votes_tells (by simp [rng]) (by simp; omega)) ?_
  rintro e2 w12 ⟨rfl, C2, L2, hg12, hax12, hl2⟩
  refine ⟨_, rfl, trivial, ?_⟩
  refine RL.done ?_
  refine CW.seq (CW.plain ?_)
  refine RL.pure rfl rfl rfl rfl ?_
  refine RL.makeF rfl rfl rfl rfl rfl ?_
  refine RL.callF rfl rfl rfl rfl rfl rfl ca32 (each_ct (k := 3) hg12 hl2 hH hx9 hQ hy9 ca36 (goes_tells hN hF) (by simp [rng]) (by simp; omega)) ?_
  rintro e3 w13 ⟨rfl, C3, L3, hg13, hax13, hl3⟩
  refine ⟨_, rfl, trivial, ?_⟩
  refine RL.done ?_
  refine CW.seq (CW.plain ?_)
  refine RL.pure rfl rfl rfl rfl ?_
  refine RL.load (j := 0) rfl rfl rfl rfl ty50 rfl (hF) (hg13.sh) rfl ?_
  refine RL.callF rfl rfl rfl rfl rfl rfl ca32 (each_ct (k := 1) hg13 hl3 hH hx9 hQ hy9 ca33 falls_tells (by simp [rng]) (by simp; omega)) ?_
  rintro e4 w14 ⟨rfl, C4, L4, hg14, hax14, hl4⟩
  refine ⟨_, rfl, trivial, ?_⟩
  refine RL.done ?_
  have el : [] ++ chs 1 (wayOf x y addW) 7 ++ chs 2 (wayOf x y votesW) 7 ++ chs 3 (wayOf x y goesW) 7 ++ chs 1 (wayOf x y fallsW) 7 = pathL x y := by simp [pathL]
  rw [el] at hl4
  obtain ⟨a, c, hC, ho⟩ := hl4
  refine CW.seq (CW.plain ?_)
  refine RL.load (j := 0) rfl rfl rfl rfl ty25 rfl (Holds.of hC) (hg14.1) rfl ?_
  refine RL.pure rfl rfl rfl rfl ?_
  refine RL.pure rfl rfl rfl rfl ?_
  refine RL.done ?_
  exact CW.ret (ret (vs := [_, _]) ⟨_, _, rfl, rfl, _, _, rfl, rfl, rfl⟩ (Post.mk (hle.trans hle29) hg14.drop (hax2.trans (hax3.trans (hax4.trans (hax5.trans (hax6.trans (hax7.trans (hax11.trans (hax12.trans (hax13.trans hax14))))))))) ⟨a, c, rfl, ho⟩))
end Go.Lw
