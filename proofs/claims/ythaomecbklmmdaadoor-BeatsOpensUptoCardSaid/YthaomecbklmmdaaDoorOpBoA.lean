/-
  Beats: a beat is read, by the program.
-/
import Derived.Test.YthaomecbklmmdaaDoorOpBoT
namespace Go.Lw
open Go.Proofs
attribute [local irreducible] RL RA

theorem two_front {w : World} {s A B C : Res} {os : List Res} (h : Good w s (A :: B :: C :: os)) : Good w s (B :: A :: C :: os) := h.swap

set_option maxHeartbeats 1000000 in
set_option maxRecDepth 100000 in
theorem beat_ct {w : World} {s A : Res} {os : List Res} {p : Nat} {bs : List Int} {st : RS} (hg : Good w s (A :: os)) (hR : RdObj s A p bs st) (hl : bs.length ≤ 140737488355328) :
    Calls Tryd.prog 17 #[ptr p] w (Post w s os fun s' A' r => SOut (RWireF s) s' r (rdBeat bs st).1 ∧ RdObj s' A' p bs (rdBeat bs st).2) := by
  rcases e0 : rdUint bs st with ⟨g, st0⟩
  rcases e1 : rdBool bs st0 with ⟨an, st1⟩
  rcases e2 : rdUint bs st1 with ⟨t, st2⟩
  rcases e3 : rdUint bs st2 with ⟨i, st3⟩
  rcases e4 : rdUint bs st3 with ⟨lt, st4⟩
  rcases e5 : rdUint bs st4 with ⟨cm, st5⟩
  have hrd : rdBeat bs st = if an = true then (⟨g, mkMsg 6 t i 0 [] 0 false 0 ⟨[], []⟩ [] false⟩, st3) else (⟨g, mkMsg 5 t i lt [] cm false 0 ⟨[], []⟩ [] false⟩, st5) := by simp only [rdBeat, e0, e1, e2, e3, e4, e5]
  rw [hrd]
  refine enter (l := [ptr p]) Tryd.func17 rfl Tryd.ntmps17 rfl ?_
  refine CW.seq (CW.plain ?_)
  refine RL.alloc rfl rfl rfl rfl ze44 hg ?_
  rintro b2 w1 hg1 hax1
  refine ⟨trivial, ?_⟩
  refine RL.done ?_
  have hg1 := hg1.swap
  refine CW.seq (CW.plain ?_)
  refine RL.pure rfl rfl rfl rfl ?_
  refine RL.call rfl rfl rfl rfl rfl ca36 ((by have hh := RdUint_ct hg1 hR; rw [e0] at hh; exact hh)) ?_
  rintro v2 s2 A2 w2 hle2 hg2 hax2 ⟨rfl, hr2, hA2⟩
  refine ⟨trivial, ?_⟩
  refine RL.build rfl rfl rfl rfl ze44 pl44 rfl rfl ?_
  refine RL.alloc rfl rfl rfl rfl ze44 hg2 ?_
  rintro b3 w3 hg3 hax3
  refine ⟨trivial, ?_⟩
  refine RL.store (i := 0) (j := 0) rfl rfl rfl ty44 rfl rfl hg3 rfl (if_pos rfl) rfl (by first | (simp [Value.cells, Value.oneCell']; done) | simp [Value.cells, Value.oneCell', putL]) (by first | exact Nat.le_of_ble_eq_true rfl | (simp; done) | (simp; omega) | omega) ?_
  rintro w4 hg4 hax4
  refine ⟨trivial, ?_⟩
  refine RL.done ?_
  obtain ⟨T4, hg4, hT4⟩ : ∃ T, Good w4 s2 (A2 :: T :: Res.one b2 (.cells (wv 0 0 0 0 0 0 0 nilSl 0 false 0 nilSl nilSl nilSl false).toArray 44) :: os) ∧ T b3 = some (.cells (wv g 0 0 0 0 0 0 nilSl 0 false 0 nilSl nilSl nilSl false).toArray 44 (0, 0)) := ⟨_, hg4.swap, put_same _ _ _⟩
  have hx4 := hax1.trans (hax2.trans (hax3.trans hax4))
  refine CW.seq (CW.plain ?_)
  refine RL.field rfl rfl rfl rfl fl44_1 rfl rfl ?_
  refine RL.field rfl rfl rfl rfl fl42_0 rfl rfl ?_
  refine RL.store (i := 1) (j := 1) rfl rfl rfl ty35 rfl rfl hg4 rfl (hT4) rfl (by first | (simp [Value.cells, Value.oneCell']; done) | simp [Value.cells, Value.oneCell', putL]) (by first | exact Nat.le_of_ble_eq_true rfl | (simp; done) | (simp; omega) | omega) ?_
  rintro w5 hg5 hax5
  refine ⟨trivial, ?_⟩
  refine RL.done ?_
  obtain ⟨T5, hg5, hT5⟩ : ∃ T, Good w5 s2 (A2 :: T :: Res.one b2 (.cells (wv 0 0 0 0 0 0 0 nilSl 0 false 0 nilSl nilSl nilSl false).toArray 44) :: os) ∧ T b3 = some (.cells (wv g 5 0 0 0 0 0 nilSl 0 false 0 nilSl nilSl nilSl false).toArray 44 (0, 0)) := ⟨_, hg5, put_same _ _ _⟩
  refine CW.meet (fun E w' => ∃ s' A' T, E = [(0, ptr p), (2, ptr b2), (3, ptr b3)] ∧ Good w' s' (A' :: T :: Res.one b2 (.cells (wv 0 0 0 0 0 0 0 nilSl 0 false 0 nilSl nilSl nilSl false).toArray 44) :: os) ∧ Le s2 s' ∧ Aux w w' ∧ RdObj s' A' p bs st1 ∧
      T b3 = some (.cells (wv g (if an = true then 6 else 5) 0 0 0 0 0 nilSl 0 false 0 nilSl nilSl nilSl false).toArray 44 (0, 0))) ?_ ?_
  · refine CW.seq (CW.plain ?_)
    refine RL.pure rfl rfl rfl rfl ?_
    refine RL.call rfl rfl rfl rfl rfl ca39 ((by have hh := RdBool_ct hg5 hA2; rw [e1] at hh; exact hh)) ?_
    rintro v6 s6 A6 w6 hle6 hg6 hax6 ⟨rfl, hA6⟩
    refine ⟨trivial, ?_⟩
    refine RL.done ?_
    refine CW.cond rfl (fun han => CW.plain ?_) (fun han => CW.skip ?_)
    · refine RL.field rfl rfl rfl rfl fl44_1 rfl rfl ?_
      refine RL.field rfl rfl rfl rfl fl42_0 rfl rfl ?_
      refine RL.store (i := 1) (j := 1) rfl rfl rfl ty35 rfl rfl hg6 rfl (hT5) rfl (by first | (simp [Value.cells, Value.oneCell']; done) | simp [Value.cells, Value.oneCell', putL]) (by first | exact Nat.le_of_ble_eq_true rfl | (simp; done) | (simp; omega) | omega) ?_
      rintro w7 hg7 hax7
      refine ⟨trivial, ?_⟩
      refine RL.done ?_
      exact fun ac ha => ⟨[(0, ptr p), (2, ptr b2), (3, ptr b3)], ha.sub ⟨rfl, rfl, rfl, trivial⟩, s6, A6, _, rfl, hg7, hle6, hx4.trans (hax5.trans (hax6.trans hax7)), hA6, by rw [if_pos han]; exact put_same _ _ _⟩
    · exact fun ac ha => ⟨[(0, ptr p), (2, ptr b2), (3, ptr b3)], ha.sub ⟨rfl, rfl, rfl, trivial⟩, s6, A6, _, rfl, hg6, hle6, hx4.trans (hax5.trans hax6), hA6, by (have han : an = false := han); rw [if_neg (by rw [han]; decide)]; exact hT5⟩
  rintro E w8 ⟨s8, A8, T8, rfl, hg8, hle8, hx8, hA8, hT8⟩
  generalize hkk : (if an = true then (6 : Int) else 5) = kk at hT8
  refine CW.seq (CW.plain ?_)
  refine RL.pure rfl rfl rfl rfl ?_
  refine RL.call rfl rfl rfl rfl rfl ca36 ((by have hh := RdUint_ct hg8 hA8; rw [e2] at hh; exact hh)) ?_
  rintro v9 s9 A9 w9 hle9 hg9 hax9 ⟨rfl, hr9, hA9⟩
  refine ⟨trivial, ?_⟩
  refine RL.pure rfl rfl rfl rfl ?_
  refine RL.call rfl rfl rfl rfl rfl ca36 ((by have hh := RdUint_ct hg9 hA9; rw [e3] at hh; exact hh)) ?_
  rintro v10 s10 A10 w10 hle10 hg10 hax10 ⟨rfl, hr10, hA10⟩
  refine ⟨trivial, ?_⟩
  refine RL.field rfl rfl rfl rfl fl44_1 rfl rfl ?_
  refine RL.field rfl rfl rfl rfl fl42_3 rfl rfl ?_
  refine RL.store (i := 1) (j := 4) rfl rfl rfl ty36 rfl rfl hg10 rfl (hT8) rfl (by first | (simp [Value.cells, Value.oneCell']; done) | simp [Value.cells, Value.oneCell', putL]) (by first | exact Nat.le_of_ble_eq_true rfl | (simp; done) | (simp; omega) | omega) ?_
  rintro w11 hg11 hax11
  refine ⟨trivial, ?_⟩
  refine RL.field rfl rfl rfl rfl fl44_1 rfl rfl ?_
  refine RL.field rfl rfl rfl rfl fl42_4 rfl rfl ?_
  refine RL.store (i := 1) (j := 5) rfl rfl rfl ty36 rfl rfl hg11 rfl (put_same _ _ _) rfl (by first | (simp [Value.cells, Value.oneCell']; done) | simp [Value.cells, Value.oneCell', putL]) (by first | exact Nat.le_of_ble_eq_true rfl | (simp; done) | (simp; omega) | omega) ?_
  rintro w12 hg12 hax12
  refine ⟨trivial, ?_⟩
  refine RL.done ?_
  obtain ⟨T12, hg12, hT12⟩ : ∃ T, Good w12 s10 (A10 :: T :: Res.one b2 (.cells (wv 0 0 0 0 0 0 0 nilSl 0 false 0 nilSl nilSl nilSl false).toArray 44) :: os) ∧ T b3 = some (.cells (wv g kk 0 0 t i 0 nilSl 0 false 0 nilSl nilSl nilSl false).toArray 44 (0, 0)) := ⟨_, hg12, put_same _ _ _⟩
  have hx12 := hx8.trans (hax9.trans (hax10.trans (hax11.trans hax12)))
  have hle := hle2.trans (hle8.trans (hle9.trans hle10))
  refine CW.meet (fun E w' => ∃ s' A' T x, E = [(2, ptr b2), (3, ptr b3)] ∧ Good w' s' (A' :: T :: Res.one b2 (.cells (wv 0 0 0 0 0 0 0 nilSl 0 false 0 nilSl nilSl nilSl false).toArray 44) :: os) ∧ Le s10 s' ∧ Aux w w' ∧
      (if an = true then ((⟨g, mkMsg 6 t i 0 [] 0 false 0 ⟨[], []⟩ [] false⟩ : Wire), st3) else (⟨g, mkMsg 5 t i lt [] cm false 0 ⟨[], []⟩ [] false⟩, st5)) = x ∧ RdObj s' A' p bs x.2 ∧
      ∃ vs : List Value, vs.length = 15 ∧ T b3 = some (.cells vs.toArray 44 (0, 0)) ∧ RWireF s s' vs x.1) ?_ ?_
  · refine CW.seq (CW.plain ?_)
    refine RL.field rfl rfl rfl rfl fl44_1 rfl rfl ?_
    refine RL.field rfl rfl rfl rfl fl42_0 rfl rfl ?_
    refine RL.load (j := 1) rfl rfl rfl rfl ty35 rfl (Holds.of hT12) (hg12.2.2.2.1) rfl ?_
    refine RL.pure rfl rfl rfl rfl ?_
    refine RL.done ?_
    have hnil := fun s : Res => (⟨Imm.nil _ _ _ (Nat.zero_le _), Imm.nil _ _ _ (Nat.zero_le _), Imm.nil _ _ _ (Nat.zero_le _), Imm.nil _ _ _ (Nat.zero_le _)⟩ : Imm REntry 6 s none 0 [] ∧ Imm (RInt .i64) 1 s none 0 [] ∧ Imm (RInt .i64) 1 s none 0 [] ∧ Imm (RInt .u8) 1 s none 0 [])
    refine CW.eq rfl (fun h5 => ?_) (fun h5 => CW.skip ?_)
    · have han : ¬ an = true := fun h => by rw [if_pos h] at hkk; omega
      rw [h5] at hT12
      rw [if_neg han]
      refine CW.plain ?_
      refine RL.pure rfl rfl rfl rfl ?_
      refine RL.call rfl rfl rfl rfl rfl ca36 ((by have hh := RdUint_ct hg12 hA10; rw [e4] at hh; exact hh)) ?_
      rintro v13 s13 A13 w13 hle13 hg13 hax13 ⟨rfl, hr13, hA13⟩
      refine ⟨trivial, ?_⟩
      refine RL.pure rfl rfl rfl rfl ?_
      refine RL.call rfl rfl rfl rfl rfl ca36 ((by have hh := RdUint_ct hg13 hA13; rw [e5] at hh; exact hh)) ?_
      rintro v14 s14 A14 w14 hle14 hg14 hax14 ⟨rfl, hr14, hA14⟩
      refine ⟨trivial, ?_⟩
      refine RL.field rfl rfl rfl rfl fl44_1 rfl rfl ?_
      refine RL.field rfl rfl rfl rfl fl42_5 rfl rfl ?_
      refine RL.store (i := 1) (j := 6) rfl rfl rfl ty36 rfl rfl hg14 rfl (hT12) rfl (by first | (simp [Value.cells, Value.oneCell']; done) | simp [Value.cells, Value.oneCell', putL]) (by first | exact Nat.le_of_ble_eq_true rfl | (simp; done) | (simp; omega) | omega) ?_
      rintro w15 hg15 hax15
      refine ⟨trivial, ?_⟩
      refine RL.field rfl rfl rfl rfl fl44_1 rfl rfl ?_
      refine RL.field rfl rfl rfl rfl fl42_7 rfl rfl ?_
      refine RL.store (i := 1) (j := 8) rfl rfl rfl ty36 rfl rfl hg15 rfl (put_same _ _ _) rfl (by first | (simp [Value.cells, Value.oneCell']; done) | simp [Value.cells, Value.oneCell', putL]) (by first | exact Nat.le_of_ble_eq_true rfl | (simp; done) | (simp; omega) | omega) ?_
      rintro w16 hg16 hax16
      refine ⟨trivial, ?_⟩
      refine RL.done ?_
      exact fun ac ha => ⟨[(2, ptr b2), (3, ptr b3)], ha.sub ⟨rfl, rfl, trivial⟩, s14, A14, _, _, rfl, hg16, hle13.trans hle14, hx12.trans (hax13.trans (hax14.trans (hax15.trans hax16))), rfl, hA14,
        wv g 5 0 0 t i lt nilSl cm false 0 nilSl nilSl nilSl false, rfl, put_same _ _ _, ⟨none, 0, none, 0, none, 0, none, 0⟩, rfl, hr2, ⟨by simp [rng, mkMsg], by simp [rng, mkMsg], by simp [rng, mkMsg], hr9, hr10, hr13, hr14, by simp [rng, mkMsg], (hnil _).1, (hnil _).2.1, (hnil _).2.2.1, (hnil _).2.2.2⟩, .inl rfl⟩
    · have han : an = true := by
        cases an with
        | true => rfl
        | false => exact absurd (by simpa using hkk.symm) h5
      rw [if_pos han] at hkk ⊢
      rw [← hkk] at hT12
      exact fun ac ha => ⟨[(2, ptr b2), (3, ptr b3)], ha.sub ⟨rfl, rfl, trivial⟩, s10, A10, _, _, rfl, hg12, Le.refl _, hx12, rfl, hA10,
        wv g 6 0 0 t i 0 nilSl 0 false 0 nilSl nilSl nilSl false, rfl, hT12, ⟨none, 0, none, 0, none, 0, none, 0⟩, rfl, hr2, ⟨by simp [rng, mkMsg], by simp [rng, mkMsg], by simp [rng, mkMsg], hr9, hr10, by simp [rng, mkMsg], by simp [rng, mkMsg], by simp [rng, mkMsg], (hnil _).1, (hnil _).2.1, (hnil _).2.2.1, (hnil _).2.2.2⟩, .inl rfl⟩
  rintro E w20 ⟨s20, A20, T20, x, rfl, hg20, hle20, hx20, hxx, hA20, vs, hvl, hT20, hW⟩
  rw [hxx]
  obtain ⟨y, rfl, _, _, _⟩ := id hW
  refine CW.seq (CW.plain ?_)
  refine RL.loads (j := 0) (us := (wireV x.1 y)) rfl rfl rfl rfl ty44 rfl (Holds.of hT20) (hg20.2.2.2.1) rfl rfl ?_
  refine RL.store (i := 2) (j := 0) rfl rfl rfl ty44 rfl rfl hg20 rfl (if_pos rfl) rfl (by first | (simp [Value.cells, Value.oneCell']; done) | simp [Value.cells, Value.oneCell', putL]) (by first | exact Nat.le_of_ble_eq_true rfl | (simp; done) | (simp; omega) | omega) ?_
  rintro w21 hg21 hax21
  refine ⟨trivial, ?_⟩
  refine RL.done ?_
  exact CW.ret (ret (vs := [_]) ⟨_, _, _, rfl, rfl, loadVar_agg ty44 (put_same _ _ _) hg21.2.2.2.2.2.2.1 rfl, rfl⟩ (Post.mk (hle.trans hle20) hg21.dropNext.dropNext (hx20.trans hax21) ⟨⟨_, rfl, hW⟩, hA20⟩))
end Go.Lw
