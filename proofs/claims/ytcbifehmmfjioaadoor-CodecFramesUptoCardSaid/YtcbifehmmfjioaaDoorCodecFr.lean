/-
  The law CodecFrames, walked.
-/
import Derived.Test.YtcbifehmmfjioaaDoorCodecUn
import Derived.Test.YtcbifehmmfjioaaDoorCodecL
namespace Go.Lw
open Go.Proofs
attribute [local irreducible] RL RA


set_option maxRecDepth 100000 in
theorem CodecFrames_ct {w : World} {s : Res} {os : List Res} {xs ys : List Int} {xa ya : Option Addr} {xc yc : Nat} (hg : Good w s os) (hx : Imm (RInt .u8) 1 s xa xc xs) (hy : Imm (RInt .u8) 1 s ya yc ys) (het : Et s) (hT : Holds s ⟨0, 0, none⟩ tabVs)
    (hl : xs.length ≤ 1048576) (hl' : ys.length ≤ 1048576) :
    Calls Tryd.prog 5 #[.slice xa xs.length xc, .slice ya ys.length yc] w (Post w s os fun _ _ r => r = .bool true) := by
  refine enter (l := [.slice xa xs.length xc, .slice ya ys.length yc]) Tryd.func5 rfl Tryd.ntmps5 rfl ?_
  refine CW.seq (CW.plain ?_)
  refine RL.pure rfl rfl rfl rfl ?_
  refine RL.done ?_
  refine CW.seq (CW.plain ?_)
  refine RL.call rfl rfl rfl rfl rfl ca11 (lives_ct hg hT) ?_
  rintro v0 s0 A0 w0 hle0 hg0 hax0 rfl
  refine ⟨trivial, ?_⟩
  refine RL.pure rfl rfl rfl rfl ?_
  refine RL.done ?_
  have hx := hx.up (RInt.up _) hle0
  have hy := hy.up (RInt.up _) hle0
  refine CW.seq (CW.plain ?_)
  refine RL.buildSlice rfl rfl rfl rfl sl25 ze5 rfl rfl rfl rfl hg0.drop ?_
  rintro b1 w1 hg1 hax1
  refine ⟨trivial, ?_⟩
  refine RL.pure rfl rfl rfl rfl ?_
  obtain ⟨news, hsrc, hch⟩ := Src.imm sl25 hy hg1.sh
  refine RL.append (i := 0) (ys := ys) rfl rfl rfl rfl sl25 ze5 rfl (by first | exact RInt.one _ | exact RStr.one | exact RBool.one | assumption) rfl rfl hg1 rfl Own.fresh (hsrc) (hch) ((by simp; omega)) (by omega) ?_
  rintro a2 c2 A2 w2 hg2 hown2 hax2 hk2
  refine ⟨trivial, ?_⟩
  refine RL.pure rfl rfl rfl rfl ?_
  refine RL.done ?_
  obtain ⟨s2, hg2, hle2, hA2⟩ := Good.letgo hg2
  have himm2 := hown2.imm (RInt.up _) hle2 hA2
  have hx := hx.up (RInt.up _) hle2
  have hy := hy.up (RInt.up _) hle2
  have hl02 := hle0.trans hle2
  simp only [List.nil_append] at himm2 ⊢
  refine CW.seq (CW.plain ?_)
  refine RL.pure rfl rfl rfl rfl ?_
  refine RL.call rfl rfl rfl rfl rfl ca18 (Frame_ct hg2 hx (hT.le hl02) (by omega)) ?_
  rintro v3 s3 A3 w3 hle3 hg3 hax3 ⟨a3, c3, rfl, hown3⟩
  refine ⟨trivial, ?_⟩
  refine RL.pure rfl rfl rfl rfl ?_
  refine RL.done ?_
  obtain ⟨s4, hg4, hle4, hA4⟩ := Good.letgo hg3
  have himm3 := hown3.imm (RInt.up _) hle4 hA4
  have hle34 := hle3.trans hle4
  have hl04 := hl02.trans hle34
  have hx := hx.up (RInt.up _) hle34
  have hy := hy.up (RInt.up _) hle34
  have himm2 := himm2.up (RInt.up _) hle34
  refine CW.seq (CW.plain ?_)
  refine RL.pure rfl rfl rfl rfl ?_
  refine RL.callG rfl rfl rfl rfl rfl ca19 (Unframe_ct hg4 (het.le hl04) (hT.le hl04) (.inl rfl) himm2.2.2 (by omega)) ?_
  rintro e5 w5 ⟨v5, s5, B5, A5, rfl, hle5, hg5, hax5, v51, v52, rfl, ⟨a51, c51, rfl, h51⟩, a52, c52, rfl, h52⟩
  refine ⟨_, rfl, trivial, ?_⟩
  refine RL.pure rfl rfl rfl rfl ?_
  refine RL.pure rfl rfl rfl rfl ?_
  refine RL.pure rfl rfl rfl rfl ?_
  refine RL.pure rfl rfl rfl rfl ?_
  refine RL.pure rfl rfl rfl rfl ?_
  refine RL.pure rfl rfl rfl rfl ?_
  refine RL.pure rfl rfl rfl rfl ?_
  refine RL.done ?_
  have hy := hy.up (RInt.up _) hle5
  refine CW.seq (CW.plain ?_)
  refine RL.pure rfl rfl rfl rfl ?_
  refine RL.callG rfl rfl rfl rfl rfl ca20 (rUnframe_ct hg5 hy (by omega)) ?_
  rintro e6 w6 ⟨v6, s6, B6, A6, rfl, hle6, hg6, hax6, v61, v62, rfl, ⟨a61, c61, rfl, h61⟩, a62, c62, rfl, h62⟩
  refine ⟨_, rfl, trivial, ?_⟩
  refine RL.pure rfl rfl rfl rfl ?_
  refine RL.pure rfl rfl rfl rfl ?_
  refine RL.pure rfl rfl rfl rfl ?_
  refine RL.pure rfl rfl rfl rfl ?_
  refine RL.pure rfl rfl rfl rfl ?_
  refine RL.pure rfl rfl rfl rfl ?_
  refine RL.pure rfl rfl rfl rfl ?_
  refine RL.done ?_
  obtain ⟨s7, hg7, hle7, hB7⟩ := Good.letgo hg6
  obtain ⟨s8, hg8, hle8, hA8⟩ := Good.letgo hg7
  have hle78 := hle7.trans hle8
  have i61 := h61.imm (RInt.up _) hle78 hA8
  have i62 := h62.imm (RInt.up _) hle78 (hB7.trans hle8)
  have hle68 := hle6.trans hle78
  have hle48 := hle5.trans hle68
  have hx := hx.up (RInt.up _) hle48
  have hy := hy.up (RInt.up _) hle68
  have himm2 := himm2.up (RInt.up _) hle48
  have himm3 := himm3.up (RInt.up _) hle48
  have h51 := h51.up (RInt.up _) hle68
  have h52 := h52.up (RInt.up _) hle68
  have hl08 := hl04.trans hle48
  have hax8 := hax0.trans (hax1.trans (hax2.trans (hax3.trans (hax5.trans hax6))))
  have hin : ∀ {w' s' os'}, Good w' s' os' → Le s8 s' → A5 ∈ os' → B5 ∈ os' → (In s8 w' ∧ In A5 w' ∧ In B5 w') := fun h hl h1 h2 => ⟨In.le h.sh hl, h.mem h1, h.mem h2⟩
  refine CW.seq ?_
  refine CW.draws [(true, 0), (true, 2), (true, 1), (false, 3), (false, 4), (true, 5), (true, 6), (true, 7), (true, 8), (true, 9), (true, 10), (true, 11), (true, 12), (true, 13), (true, 14), (true, 15), (true, 16), (true, 17), (true, 18), (true, 19), (true, 20), (true, 21), (true, 22), (true, 23), (true, 24), (true, 25), (true, 26), (true, 28), (false, 27), (false, 29), (true, 30), (true, 31), (false, 32)] (fun w => In s8 w ∧ In A5 w ∧ In B5 w) mixed (by kernel_rfl) (by kernel_rfl) (by kernel_rfl) (by kernel_rfl) ((hin hg8.drew (Le.refl _) (by simp) (by simp))) ?_
  refine RL.pure rfl rfl rfl rfl ?_
  refine RL.pure rfl rfl rfl rfl ?_
  refine RL.btsT rfl rfl rfl rfl sl25 Tryd.underlying5 Tryd.underlying9 rfl (himm3.2.2) (fun w h => h.1) ?_
  refine RL.call rfl rfl rfl rfl rfl ca21 (rFrame_ct hg8.drew hx (by omega)) ?_
  rintro v9 s9 A9 w9 hle9 hg9 hax9 ⟨a9, c9, rfl, hown9⟩
  refine ⟨(hin hg9 hle9 (by simp) (by simp)), ?_⟩
  refine RL.bts rfl rfl rfl rfl sl25 Tryd.underlying5 Tryd.underlying9 rfl (hown9.row) (hg9.1) ?_
  refine RL.sEq rfl rfl rfl rfl rfl rfl ?_
  rw [beq_self_eq_true]
  refine RL.pure rfl rfl rfl rfl ?_
  refine RL.pure rfl rfl rfl rfl ?_
  refine RL.btsT rfl rfl rfl rfl sl25 Tryd.underlying5 Tryd.underlying9 rfl (h51.row) (fun w h => h.2.1) ?_
  refine RL.pure rfl rfl rfl rfl ?_
  refine RL.btsT rfl rfl rfl rfl sl25 Tryd.underlying5 Tryd.underlying9 rfl (i61.2.2) (fun w h => h.1) ?_
  refine RL.sEq rfl rfl rfl rfl rfl rfl ?_
  rw [beq_self_eq_true]
  refine RL.pure rfl rfl rfl rfl ?_
  refine RL.pure rfl rfl rfl rfl ?_
  refine RL.pure rfl rfl rfl rfl ?_
  refine RL.btsT rfl rfl rfl rfl sl25 Tryd.underlying5 Tryd.underlying9 rfl (h52.row) (fun w h => h.2.2) ?_
  refine RL.pure rfl rfl rfl rfl ?_
  refine RL.btsT rfl rfl rfl rfl sl25 Tryd.underlying5 Tryd.underlying9 rfl (i62.2.2) (fun w h => h.1) ?_
  refine RL.sEq rfl rfl rfl rfl rfl rfl ?_
  rw [beq_self_eq_true]
  refine RL.pure rfl rfl rfl rfl ?_
  refine RL.pure rfl rfl rfl rfl ?_
  refine RL.pure rfl rfl rfl rfl ?_
  refine RL.pure rfl rfl rfl rfl ?_
  refine RL.pure rfl rfl rfl rfl ?_
  rw [beq_self_eq_true]
  refine RL.pure rfl rfl rfl rfl ?_
  refine RL.pure rfl rfl rfl rfl ?_
  refine RL.pure rfl rfl rfl rfl ?_
  refine RL.pure rfl rfl rfl rfl ?_
  refine RL.callV rfl rfl rfl rfl rfl ca22 (Sum_ct hg9 (hx.up (RInt.up _) hle9) (hT.le (hl08.trans hle9))) ?_
  rintro v10 w10 hg10 hax10 rfl
  refine ⟨(hin hg10 hle9 (by simp) (by simp)), ?_⟩
  refine RL.callV rfl rfl rfl rfl rfl ca23 (rSum_ct hg10 (hx.up (RInt.up _) hle9)) ?_
  rintro v11 w11 hg11 hax11 rfl
  refine ⟨(hin hg11 hle9 (by simp) (by simp)), ?_⟩
  refine RL.pure rfl rfl rfl rfl ?_
  rw [beq_self_eq_true]
  refine RL.pure rfl rfl rfl rfl ?_
  refine RL.pure rfl rfl rfl rfl ?_
  refine RL.done ?_
  have hg12 : Good w11 s9 (A5 :: B5 :: os) := hg11.drop.swap
  have hax12 := hax8.trans ((Aux.drew _).trans (hax9.trans (hax10.trans hax11)))
  have hy := hy.up (RInt.up _) hle9
  have himm2 := himm2.up (RInt.up _) hle9
  have h51 := h51.up (RInt.up _) hle9
  have h52 := h52.up (RInt.up _) hle9
  generalize (unf ys).1 = ps at h51 ⊢
  generalize (unf ys).2.1 = rs at h52 ⊢
  refine CW.meet (fun E w' => ∃ D, E = [(1, .slice ya ys.length yc), (5, .bool true), (6, .slice a2 ys.length c2), (9, .slice a52 rs.length c52), (14, .bool true)] ∧ Good w' s9 (D :: B5 :: os) ∧ Aux w w') ?_ ?_
  · skip
    refine CW.seq (CW.plain ?_)
    refine RL.pure rfl rfl rfl rfl ?_
    refine RL.done ?_
    have hcap0 := (h51).le_max
    simp only [maxLen] at hcap0
    refine CW.block (CW.loop (σ := Nat) (fun j' E w' => ∃ D zs, ∃ m : Nat, E = (8, .slice a51 zs.length c51) :: (15, .int .i64 m) :: [(1, .slice ya ys.length yc), (5, .bool true), (6, .slice a2 ys.length c2), (9, .slice a52 rs.length c52), (14, .bool true)] ∧ Good w' s9 (D :: B5 :: os) ∧ Aux w w' ∧ Own (RInt .u8) 1 5 s9 D a51 c51 zs ∧ m + j' = zs.length)
      (fun j' => j') (ps).length ((8, .slice a51 (ps).length c51) :: (15, .int .i64 0) :: [(1, .slice ya ys.length yc), (5, .bool true), (6, .slice a2 ys.length c2), (9, .slice a52 rs.length c52), (14, .bool true)]) ⟨rfl, rfl, rfl, rfl, rfl, rfl, rfl, trivial⟩
      ⟨A5, ps, 0, rfl, hg12, hax12, h51, by omega⟩ ?_)
    rintro j' E w5 ⟨D, zs, m, rfl, hg5, hax5, hown, hm⟩
    refine CW.seq (CW.seq (CW.plain ?_))
    refine RL.pure rfl rfl rfl rfl ?_
    refine RL.pure rfl rfl rfl rfl ?_
    refine RL.len rfl rfl rfl rfl sl25 rfl ?_
    refine RL.pure rfl rfl rfl rfl ?_
    refine RL.done ?_
    refine CW.test rfl (fun h' => ?_) (fun h' => CW.exit ?_)
    · refine CW.skip ?_
      have hml : m < zs.length := by omega
      have hcapm := hown.le_max
      simp only [maxLen] at hcapm
      have hcap := hown.le_cap
      refine CW.seq (CW.block (CW.plain ?_))
      refine RL.pure rfl rfl rfl rfl ?_
      refine RL.pure rfl rfl rfl rfl ?_
      refine RL.idxOwn rfl rfl rfl rfl sl25 rfl rfl hown (by omega) (by omega) ?_
      rintro g cs vs hb hC hcs hvl hcell ⟨rfl, hr⟩
      refine RL.load rfl rfl rfl rfl ty5 rfl (Holds.of hC) hg5.1 (hcell 0 _ rfl) ?_
      refine RL.pure rfl rfl rfl rfl ?_
      refine RL.idxOwn rfl rfl rfl rfl sl25 rfl rfl hown (by omega) (by omega) ?_
      rintro g' cs' vs' hb' hC' _ _ _ _
      rw [hb] at hb'
      cases hb'
      refine RL.store (i := 0) rfl rfl rfl ty5 rfl rfl hg5 rfl (hC) rfl (by first | (simp [Value.cells, Value.oneCell']; done) | simp [Value.cells, Value.oneCell', putL]) (by first | exact Nat.le_of_ble_eq_true rfl | (simp; done) | (simp; omega) | omega) ?_
      rintro w6 hg6 hax6
      refine ⟨trivial, ?_⟩
      refine RL.done ?_
      refine CW.plain ?_
      refine RL.pure rfl rfl rfl rfl ?_
      refine RL.add rfl rfl rfl rfl rfl rfl (by simp only [rng] at *; omega) ?_
      refine RL.pure rfl rfl rfl rfl ?_
      refine RL.done ?_
      cases j' with
      | zero => omega
      | succ j' =>
        have hset := Own.set (x := IntKind.u8.wrap (zs[m] + 1)) (vs := [.int .u8 (IntKind.u8.wrap (zs[m] + 1))]) (hb ▸ hown) hC hml rfl ⟨rfl, rng_wrap _ _⟩
        refine fun ac ha => ⟨j', (8, .slice a51 (zs.set m (IntKind.u8.wrap (zs[m] + 1))).length c51) :: (15, .int .i64 ((m : Int) + 1)) :: [(1, .slice ya ys.length yc), (5, .bool true), (6, .slice a2 ys.length c2), (9, .slice a52 rs.length c52), (14, .bool true)], ha.sub ?_,
          ⟨_, zs.set m (IntKind.u8.wrap (zs[m] + 1)), m + 1, rfl, hg6, hax5.trans hax6, hb.symm ▸ hset, by rw [List.length_set]; omega⟩, Nat.lt_succ_self j'⟩
        rw [List.length_set]
        exact ⟨rfl, rfl, rfl, rfl, rfl, rfl, rfl, trivial⟩
    exact fun a ha => ⟨[(1, .slice ya ys.length yc), (5, .bool true), (6, .slice a2 ys.length c2), (9, .slice a52 rs.length c52), (14, .bool true)], ha.sub ⟨rfl, rfl, rfl, rfl, rfl, trivial⟩, _, rfl, hg5, hax5⟩
  rintro E w13 ⟨D, rfl, hg13, hax13⟩
  refine CW.meet (fun E w' => ∃ D, E = [(1, .slice ya ys.length yc), (5, .bool true), (6, .slice a2 ys.length c2), (14, .bool true)] ∧ Good w' s9 (D :: os) ∧ Aux w w') ?_ ?_
  · skip
    refine CW.seq (CW.plain ?_)
    refine RL.pure rfl rfl rfl rfl ?_
    refine RL.done ?_
    have hcap0 := (h52).le_max
    simp only [maxLen] at hcap0
    refine CW.block (CW.loop (σ := Nat) (fun j' E w' => ∃ D zs, ∃ m : Nat, E = (9, .slice a52 zs.length c52) :: (16, .int .i64 m) :: [(1, .slice ya ys.length yc), (5, .bool true), (6, .slice a2 ys.length c2), (14, .bool true)] ∧ Good w' s9 (D :: os) ∧ Aux w w' ∧ Own (RInt .u8) 1 5 s9 D a52 c52 zs ∧ m + j' = zs.length)
      (fun j' => j') (rs).length ((9, .slice a52 (rs).length c52) :: (16, .int .i64 0) :: [(1, .slice ya ys.length yc), (5, .bool true), (6, .slice a2 ys.length c2), (14, .bool true)]) ⟨rfl, rfl, rfl, rfl, rfl, rfl, trivial⟩
      ⟨B5, rs, 0, rfl, hg13.drop, hax13, h52, by omega⟩ ?_)
    rintro j' E w5 ⟨D, zs, m, rfl, hg5, hax5, hown, hm⟩
    refine CW.seq (CW.seq (CW.plain ?_))
    refine RL.pure rfl rfl rfl rfl ?_
    refine RL.pure rfl rfl rfl rfl ?_
    refine RL.len rfl rfl rfl rfl sl25 rfl ?_
    refine RL.pure rfl rfl rfl rfl ?_
    refine RL.done ?_
    refine CW.test rfl (fun h' => ?_) (fun h' => CW.exit ?_)
    · refine CW.skip ?_
      have hml : m < zs.length := by omega
      have hcapm := hown.le_max
      simp only [maxLen] at hcapm
      have hcap := hown.le_cap
      refine CW.seq (CW.block (CW.plain ?_))
      refine RL.pure rfl rfl rfl rfl ?_
      refine RL.pure rfl rfl rfl rfl ?_
      refine RL.idxOwn rfl rfl rfl rfl sl25 rfl rfl hown (by omega) (by omega) ?_
      rintro g cs vs hb hC hcs hvl hcell ⟨rfl, hr⟩
      refine RL.load rfl rfl rfl rfl ty5 rfl (Holds.of hC) hg5.1 (hcell 0 _ rfl) ?_
      refine RL.pure rfl rfl rfl rfl ?_
      refine RL.idxOwn rfl rfl rfl rfl sl25 rfl rfl hown (by omega) (by omega) ?_
      rintro g' cs' vs' hb' hC' _ _ _ _
      rw [hb] at hb'
      cases hb'
      refine RL.store (i := 0) rfl rfl rfl ty5 rfl rfl hg5 rfl (hC) rfl (by first | (simp [Value.cells, Value.oneCell']; done) | simp [Value.cells, Value.oneCell', putL]) (by first | exact Nat.le_of_ble_eq_true rfl | (simp; done) | (simp; omega) | omega) ?_
      rintro w6 hg6 hax6
      refine ⟨trivial, ?_⟩
      refine RL.done ?_
      refine CW.plain ?_
      refine RL.pure rfl rfl rfl rfl ?_
      refine RL.add rfl rfl rfl rfl rfl rfl (by simp only [rng] at *; omega) ?_
      refine RL.pure rfl rfl rfl rfl ?_
      refine RL.done ?_
      cases j' with
      | zero => omega
      | succ j' =>
        have hset := Own.set (x := IntKind.u8.wrap (zs[m] + 1)) (vs := [.int .u8 (IntKind.u8.wrap (zs[m] + 1))]) (hb ▸ hown) hC hml rfl ⟨rfl, rng_wrap _ _⟩
        refine fun ac ha => ⟨j', (9, .slice a52 (zs.set m (IntKind.u8.wrap (zs[m] + 1))).length c52) :: (16, .int .i64 ((m : Int) + 1)) :: [(1, .slice ya ys.length yc), (5, .bool true), (6, .slice a2 ys.length c2), (14, .bool true)], ha.sub ?_,
          ⟨_, zs.set m (IntKind.u8.wrap (zs[m] + 1)), m + 1, rfl, hg6, hax5.trans hax6, hb.symm ▸ hset, by rw [List.length_set]; omega⟩, Nat.lt_succ_self j'⟩
        rw [List.length_set]
        exact ⟨rfl, rfl, rfl, rfl, rfl, rfl, trivial⟩
    exact fun a ha => ⟨[(1, .slice ya ys.length yc), (5, .bool true), (6, .slice a2 ys.length c2), (14, .bool true)], ha.sub ⟨rfl, rfl, rfl, rfl, trivial⟩, _, rfl, hg5, hax5⟩
  rintro E w14 ⟨D, rfl, hg14, hax14⟩
  refine CW.seq (CW.plain ?_)
  refine RL.pure rfl rfl rfl rfl ?_
  refine RL.pure rfl rfl rfl rfl ?_
  refine RL.pure rfl rfl rfl rfl ?_
  refine RL.pure rfl rfl rfl rfl ?_
  refine RL.pure rfl rfl rfl rfl ?_
  refine RL.pure rfl rfl rfl rfl ?_
  refine RL.bts rfl rfl rfl rfl sl25 Tryd.underlying5 Tryd.underlying9 rfl (himm2.2.2) (hg14.sh) ?_
  refine RL.pure rfl rfl rfl rfl ?_
  refine RL.bts rfl rfl rfl rfl sl25 Tryd.underlying5 Tryd.underlying9 rfl (hy.2.2) (hg14.sh) ?_
  refine RL.sEq rfl rfl rfl rfl rfl rfl ?_
  rw [beq_self_eq_true]
  refine RL.pure rfl rfl rfl rfl ?_
  refine RL.pure rfl rfl rfl rfl ?_
  refine RL.done ?_
  exact CW.ret (ret (vs := [_]) ⟨_, _, rfl, rfl, rfl⟩ (Post.mk (hl08.trans hle9) hg14 hax14 rfl))
end Go.Lw
