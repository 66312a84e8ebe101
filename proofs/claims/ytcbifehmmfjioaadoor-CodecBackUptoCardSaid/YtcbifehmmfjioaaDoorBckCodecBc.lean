/-
  The law CodecBack, walked: the law itself.
-/
import Derived.Test.YtcbifehmmfjioaaDoorBckCodecBb
namespace Go.Lw
open Go.Proofs
attribute [local irreducible] RL RA

theorem encItem_rng_len (x : Item) : (encItem x).length ≤ x.bulk := by
  have hN : ∀ xs : List Int, (encN xs).length ≤ 10 + 10 * xs.length := fun xs => by
    have h1 := encU_length (xs.length : Int)
    have h2 : (encIs xs).length ≤ 10 * xs.length := by
      clear h1
      induction xs with
      | nil => simp [encIs]
      | cons x xs ih =>
        have h3 := encI_length x
        simp only [encIs, List.flatMap_cons, List.length_append, List.length_cons] at ih ⊢
        omega
    simp only [encN, List.length_append]; omega
  have hC : ∀ c : Conf, (encConf c).length ≤ 20 + 10 * c.voters.length + 10 * c.learners.length := fun c => by
    have h1 := hN c.voters
    have h2 := hN c.learners
    simp only [encConf, List.length_append]; omega
  have k1 := encI_length x.kind
  have k2 := encU_length x.group
  have k3 := encU_length x.index
  have e1 := encU_length x.entry.index
  have e2 := encU_length x.entry.term
  have e3 := encI_length x.entry.kind
  have e4 := encU_length (x.entry.data.length : Int)
  have e5 := hC x.entry.conf
  have s1 := encU_length x.snap.index
  have s2 := encU_length x.snap.term
  have s4 := encU_length (x.snap.data.length : Int)
  have s5 := hC x.snap.conf
  have h1 := encU_length x.hard.term
  have h2 := encI_length x.hard.vote
  have h3 := encU_length x.hard.commit
  unfold encItem Item.bulk
  split
  · simp only [encEntry, encT, List.length_append]; omega
  split
  · simp only [encHard, List.length_append]; omega
  split
  · simp only [List.length_append]; omega
  split
  · simp only [encSnap, encT, List.length_append]; omega
  split
  · simp only [List.length_append]; omega
  · simp

set_option maxRecDepth 100000 in
theorem CodecBack_ct {w : World} {s : Res} {os : List Res} {vs : List Value} {x : Item} {bs cs : List Int} {xa ya : Option Addr} {xc yc : Nat} (hg : Good w s os) (hv : RItem s vs x) (hx : Imm (RInt .u8) 1 s xa xc bs) (hy : Imm (RInt .u8) 1 s ya yc cs) (het : Et s) (hT : Holds s ⟨0, 0, none⟩ tabVs)
    (hb : x.bulk ≤ 70368744177664) (hl : bs.length ≤ 1048576) (hl' : cs.length ≤ 1048576) :
    Calls Tryd.prog 9 #[.agg vs.toArray, .slice xa bs.length xc, .slice ya cs.length yc] w (Post w s os fun _ _ r => r = .bool true) := by
  have hv0 := hv
  have hfl : (frame bs).length ≤ bs.length + 14 := by
    have := encU_length (bs.length : Int)
    simp only [frame, encT, List.length_append, show (sumBytes (crc bs)).length = 4 from rfl]; omega
  have hbr := hx.rng
  obtain ⟨a1, a2, a3, b1, b2, b3, c1, c2, c3, d1, d2, d3, rfl, _⟩ := hv
  have hlen := encItem_rng_len x
  refine enter (l := [.agg (itemCells x a1 a2 a3 b1 b2 b3 c1 c2 c3 d1 d2 d3).toArray, .slice xa bs.length xc, .slice ya cs.length yc]) Tryd.func9 rfl Tryd.ntmps9 rfl ?_
  refine CW.seq (CW.plain ?_)
  refine RL.box rfl rfl rfl rfl rfl hg ?_
  rintro p w0 hg0 hax0
  refine ⟨trivial, ?_⟩
  refine RL.pure rfl rfl rfl rfl ?_
  refine RL.done ?_
  obtain ⟨s0, hg0, hle0, hH⟩ := boxed hg0
  have hH : Holds s0 ⟨p, 0, none⟩ (itemCells x a1 a2 a3 b1 b2 b3 c1 c2 c3 d1 d2 d3) := hH
  simp only [itemCells] at hH
  refine CW.seq (CW.plain ?_)
  refine RL.call rfl rfl rfl rfl rfl ca11 (lives_ct hg0 (hT.le hle0)) ?_
  rintro v1 s1 A1 w1 hle1 hg1 hax1 rfl
  refine ⟨trivial, ?_⟩
  refine RL.pure rfl rfl rfl rfl ?_
  refine RL.done ?_
  have hl1 := hle0.trans hle1
  have hH := hH.le hle1
  refine CW.seq (CW.plain ?_)
  refine RL.loads (j := 0) (us := (itemCells x a1 a2 a3 b1 b2 b3 c1 c2 c3 d1 d2 d3)) rfl rfl rfl rfl ty76 rfl (hH) (hg1.sh) rfl rfl ?_
  refine RL.call rfl rfl rfl rfl rfl ca27 (Item_ct hg1.drop (RItem.up _ _ _ _ hl1 hv0) hb) ?_
  rintro v2 s2 A2 w2 hle2 hg2 hax2 ⟨wa, wc, rfl, hown⟩
  refine ⟨trivial, ?_⟩
  refine RL.pure rfl rfl rfl rfl ?_
  refine RL.done ?_
  obtain ⟨s3, hg3, hle3, hA3⟩ := Good.letgo hg2
  have hl3 := hl1.trans (hle2.trans hle3)
  have hW := hown.imm (RInt.up _) hle3 hA3
  have hWr := hW.rng
  have hH := hH.le (hle2.trans hle3)
  refine CW.seq (CW.plain ?_)
  refine RL.pure rfl rfl rfl rfl ?_
  refine RL.call rfl rfl rfl rfl rfl ca28 (ReadItem_ct hg3 (het.le hl3) (.inl rfl) hW.2.2 (by omega)) ?_
  rintro v4 s4 A4 w4 hle4 hg4 hax4 ⟨us4, rfl, hv4⟩
  refine ⟨trivial, ?_⟩
  refine RL.pure rfl rfl rfl rfl ?_
  obtain ⟨g1, g2, g3, k1, k2, k3, m1, m2, m3, n1, n2, n3, rfl, _⟩ := id hv4
  refine RL.pure rfl rfl rfl rfl ?_
  refine RL.pure rfl rfl rfl rfl ?_
  refine RL.alloc rfl rfl rfl rfl ze76 hg4.drop ?_
  rintro p7 w5 hg5 hax5
  refine ⟨trivial, ?_⟩
  refine RL.store (i := 0) (j := 0) rfl rfl rfl ty76 rfl rfl hg5 rfl (if_pos rfl) rfl (by simp [itemCells, Value.cells, Value.oneCell']) (by decide) ?_
  rintro w6 hg6 hax6
  refine ⟨trivial, ?_⟩
  refine RL.pure rfl rfl rfl rfl ?_
  refine RL.done ?_
  obtain ⟨P7, hP7, hg6⟩ : ∃ P7, P7 p7 = some (.cells (itemCells (rdItem (encItem x)).1 g1 g2 g3 k1 k2 k3 m1 m2 m3 n1 n2 n3).toArray 76 (0, 0)) ∧ Good w6 s4 (P7 :: os) := ⟨_, put_same _ _ _, hg6⟩
  obtain ⟨s7, hg7, hle7, hq7⟩ := Good.letgo hg6
  have hl7 := hl3.trans (hle4.trans hle7)
  have hH7 : Holds s7 ⟨p7, 0, none⟩ (itemCells (rdItem (encItem x)).1 g1 g2 g3 k1 k2 k3 m1 m2 m3 n1 n2 n3) := (Holds.of hP7).le hq7
  have hv7 := RItem.up _ _ _ _ hle7 hv4
  have hH := hH.le (hle4.trans hle7)
  have hx7 := hax0.trans (hax1.trans (hax2.trans (hax4.trans (hax5.trans hax6))))
  have hback := fun hn h => rdItem_back hv0.may hv7.may hWr hn h
  clear hg0 hg1 hg2 hg3 hg4 hg5 hg6
  -- the first question
  refine CW.meet (fun E w' => ∃ s', E = [(1, .slice xa bs.length xc), (2, .slice ya cs.length yc), (7, .bool true)] ∧ Good w' s' os ∧ Le s7 s' ∧ Aux w w') ?_ ?_
  · refine CW.seq (CW.plain ?_)
    refine RL.pure rfl rfl rfl rfl ?_
    refine RL.len rfl rfl rfl rfl sl25 rfl ?_
    refine RL.pure rfl rfl rfl rfl ?_
    refine RL.pure rfl rfl rfl rfl ?_
    refine RL.part 29 rfl (fun hc => ?_) (fun hc => ?_)
    case refine_2 =>
      refine RL.pass rfl rfl rfl ?_
      refine RL.pass rfl rfl rfl ?_
      refine RL.pure rfl rfl rfl rfl ?_
      refine RL.done ?_
      refine CW.no rfl (CW.skip ?_)
      exact fun ac ha => ⟨[(1, .slice xa bs.length xc), (2, .slice ya cs.length yc), (7, .bool true)], ha.sub ⟨rfl, rfl, rfl, trivial⟩, s7, rfl, hg7, Le.refl _, hx7⟩
    refine RL.pure rfl rfl rfl rfl ?_
    refine RL.pure rfl rfl rfl rfl ?_
    refine RL.pure rfl rfl rfl rfl ?_
    refine RL.done ?_
    refine CW.eq rfl (fun he => ?_) (fun he => ?_)
    case refine_2 =>
      refine CW.skip ?_
      exact fun ac ha => ⟨[(1, .slice xa bs.length xc), (2, .slice ya cs.length yc), (7, .bool true)], ha.sub ⟨rfl, rfl, rfl, trivial⟩, s7, rfl, hg7, Le.refl _, hx7⟩
    have hne : encItem x ≠ [] := fun e => by rw [e] at hc; simp at hc
    have hb := hback hne he
    refine CW.seq ?_
    have hgD := hg7.drew
    have hup := RItem.up _ _ _ _ hl7 hv0
    simp only [itemCells] at hup
    refine CW.draws [(true, 0), (true, 1), (false, 2), (false, 3), (true, 4)] (fun w => In s7 w) mixed (by kernel_rfl) (by kernel_rfl) (by kernel_rfl) (by kernel_rfl) (hgD.sh) ?_
    refine RL.loadsT (j := 0) (us := (itemCells (rdItem (encItem x)).1 g1 g2 g3 k1 k2 k3 m1 m2 m3 n1 n2 n3)) rfl rfl rfl rfl ty76 rfl hH7 (fun w h => h) rfl rfl ?_
    refine RL.loadsT (j := 0) (us := (itemCells x a1 a2 a3 b1 b2 b3 c1 c2 c3 d1 d2 d3)) rfl rfl rfl rfl ty76 rfl hH (fun w h => h) rfl rfl ?_
    refine RL.call rfl rfl rfl rfl rfl ca32 (Plain_ct hgD hup) ?_
    rintro v8 s8 A8 w8 hle8 hg8 hax8 ⟨us8, rfl, hv8⟩
    refine ⟨(hg8.sh.le hle8), ?_⟩
    refine RL.call rfl rfl rfl rfl rfl ca30 (SameItem_ct hg8.drop (RItem.up _ _ _ _ hle8 hv7) (hb ▸ hv8)) ?_
    rintro v9 s9 A9 w9 hle9 hg9 hax9 rfl
    refine ⟨(hg9.sh.le (hle8.trans hle9)), ?_⟩
    refine RL.pure rfl rfl rfl rfl ?_
    refine RL.done ?_
    refine CW.seq (CW.plain ?_)
    refine RL.pure rfl rfl rfl rfl ?_
    refine RL.pure rfl rfl rfl rfl ?_
    refine RL.done ?_
    refine CW.no rfl (CW.skip ?_)
    exact fun ac ha => ⟨[(1, .slice xa bs.length xc), (2, .slice ya cs.length yc), (7, .bool true)], ha.sub ⟨rfl, rfl, rfl, trivial⟩, s9, rfl, hg9.drop, hle8.trans hle9, hx7.trans ((Aux.drew _).trans (hax8.trans hax9))⟩
  clear hback hH hH7 hg7 hv4 hv7 hx7 hW hWr
  rintro E w10 ⟨s10, rfl, hg10, hle10, hax10⟩
  have hl10 := hl7.trans hle10
  have hx10 := hx.up (RInt.up _) hl10
  have hy10 := hy.up (RInt.up _) hl10
  refine CW.seq (CW.plain ?_)
  refine RL.pure rfl rfl rfl rfl ?_
  refine RL.call rfl rfl rfl rfl rfl ca28 (ReadItem_ct hg10 (het.le hl10) (.inl rfl) hx10.2.2 (by omega)) ?_
  rintro v11 s11 A11 w11 hle11 hg11 hax11 ⟨us11, rfl, hv11⟩
  refine ⟨trivial, ?_⟩
  refine RL.pure rfl rfl rfl rfl ?_
  obtain ⟨G1, G2, G3, K1, K2, K3, M1, M2, M3, N1, N2, N3, rfl, _⟩ := id hv11
  refine RL.pure rfl rfl rfl rfl ?_
  refine RL.pure rfl rfl rfl rfl ?_
  refine RL.alloc rfl rfl rfl rfl ze76 hg11.drop ?_
  rintro p12 w12 hg12 hax12
  refine ⟨trivial, ?_⟩
  refine RL.store (i := 0) (j := 0) rfl rfl rfl ty76 rfl rfl hg12 rfl (if_pos rfl) rfl (by simp [itemCells, Value.cells, Value.oneCell']) (by decide) ?_
  rintro w13 hg13 hax13
  refine ⟨trivial, ?_⟩
  refine RL.pure rfl rfl rfl rfl ?_
  refine RL.done ?_
  obtain ⟨P13, hP13, hg13⟩ : ∃ P13, P13 p12 = some (.cells (itemCells (rdItem bs).1 G1 G2 G3 K1 K2 K3 M1 M2 M3 N1 N2 N3).toArray 76 (0, 0)) ∧ Good w13 s11 (P13 :: os) := ⟨_, put_same _ _ _, hg13⟩
  obtain ⟨s14, hg14, hle14, hq14⟩ := Good.letgo hg13
  have hl14 := hl10.trans (hle11.trans hle14)
  have hH14 : Holds s14 ⟨p12, 0, none⟩ (itemCells (rdItem bs).1 G1 G2 G3 K1 K2 K3 M1 M2 M3 N1 N2 N3) := (Holds.of hP13).le hq14
  have hv14 := RItem.up _ _ _ _ hle14 hv11
  have hx14 := hx.up (RInt.up _) hl14
  have hax14 := hax10.trans (hax11.trans (hax12.trans hax13))
  refine CW.meet (fun E w' => ∃ s', E = [(1, .slice xa bs.length xc), (2, .slice ya cs.length yc), (7, .bool true)] ∧ Good w' s' os ∧ Le s14 s' ∧ Aux w w') ?_ ?_
  · refine CW.seq ?_
    have hgD := hg14.drew
    refine CW.draws [(true, 0), (true, 1), (true, 2), (true, 3), (true, 6), (true, 7), (false, 4), (false, 5), (true, 8), (true, 9)] (fun w => In s14 w) mixed (by kernel_rfl) (by kernel_rfl) (by kernel_rfl) (by kernel_rfl) (hgD.sh) ?_
    refine RL.pure rfl rfl rfl rfl ?_
    refine RL.pure rfl rfl rfl rfl ?_
    refine RL.pure rfl rfl rfl rfl ?_
    refine RL.part 46 rfl (fun hc => ?_) (fun hc => ?_)
    case refine_2 =>
      refine RL.pass rfl rfl rfl ?_
      refine RL.pass rfl rfl rfl ?_
      refine RL.pass rfl rfl rfl ?_
      refine RL.pass rfl rfl rfl ?_
      refine RL.pass rfl rfl rfl ?_
      refine RL.pass rfl rfl rfl ?_
      refine RL.pure rfl rfl rfl rfl ?_
      refine RL.done ?_
      refine CW.no rfl (CW.skip ?_)
      exact fun ac ha => ⟨[(1, .slice xa bs.length xc), (2, .slice ya cs.length yc), (7, .bool true)], ha.sub ⟨rfl, rfl, rfl, trivial⟩, s14, rfl, hgD, Le.refl _, hax14.trans (Aux.drew _)⟩
    have he : (rdItem bs).2 = 0 := by simpa using hc
    obtain ⟨hsame, _, _, _, hbk⟩ := rdItem_ok hbr he
    refine RL.loadsT (j := 0) (us := (itemCells (rdItem bs).1 G1 G2 G3 K1 K2 K3 M1 M2 M3 N1 N2 N3)) rfl rfl rfl rfl ty76 rfl hH14 (fun w h => h) rfl rfl ?_
    refine RL.pure rfl rfl rfl rfl ?_
    refine RL.btsT rfl rfl rfl rfl sl25 Tryd.underlying5 Tryd.underlying9 rfl (hx14.2.2) (fun w h => h) ?_
    refine RL.call rfl rfl rfl rfl rfl ca27 (Item_ct hgD hv14 (by omega)) ?_
    rintro v15 s15 A15 w15 hle15 hg15 hax15 ⟨wa5, wc5, rfl, hown5⟩
    refine ⟨(hg15.sh.le hle15), ?_⟩
    refine RL.bts rfl rfl rfl rfl sl25 Tryd.underlying5 Tryd.underlying9 rfl (hown5.row) (hg15.1) ?_
    rw [hsame]
    refine RL.sNe rfl rfl rfl rfl rfl rfl ?_
    rw [beq_self_eq_true]
    refine RL.pure rfl rfl rfl rfl ?_
    refine RL.done ?_
    refine CW.no rfl (CW.skip ?_)
    exact fun ac ha => ⟨[(1, .slice xa bs.length xc), (2, .slice ya cs.length yc), (7, .bool true)], ha.sub ⟨rfl, rfl, rfl, trivial⟩, s15, rfl, hg15.drop, hle15, hax14.trans ((Aux.drew _).trans hax15)⟩
  clear hg10 hg11 hg12 hg13 hg14 hax14 hv11 hv14 hH14
  rintro E w16 ⟨s16, rfl, hg16, hle16, hax16⟩
  have hl16 := hl14.trans hle16
  have hx16 := hx.up (RInt.up _) hl16
  have hy16 := hy.up (RInt.up _) hl16
  refine CW.seq (CW.plain ?_)
  refine RL.pure rfl rfl rfl rfl ?_
  refine RL.call rfl rfl rfl rfl rfl ca18 (Frame_ct hg16 hx16 (hT.le hl16) (by omega)) ?_
  rintro v17 s17 A17 w17 hle17 hg17 hax17 ⟨fa, fc, rfl, hfr⟩
  refine ⟨trivial, ?_⟩
  refine RL.pure rfl rfl rfl rfl ?_
  refine RL.done ?_
  obtain ⟨s18, hg18, hle18, hA18⟩ := Good.letgo hg17
  have hF := hfr.imm (RInt.up _) hle18 hA18
  have hl18 := hl16.trans (hle17.trans hle18)
  have hx18 := hx.up (RInt.up _) hl18
  have hy18 := hy.up (RInt.up _) hl18
  refine CW.seq (CW.plain ?_)
  refine RL.buildSlice rfl rfl rfl rfl sl25 ze5 rfl rfl rfl rfl hg18 ?_
  rintro b19 w19 hg19 hax19
  refine ⟨trivial, ?_⟩
  refine RL.pure rfl rfl rfl rfl ?_
  obtain ⟨news, hsrc, hch⟩ := Src.imm sl25 hF hg19.sh
  refine RL.append (i := 0) (ys := (frame bs)) rfl rfl rfl rfl sl25 ze5 rfl (by first | exact RInt.one _ | exact RStr.one | exact RBool.one | assumption) rfl rfl hg19 rfl Own.fresh (hsrc) (hch) ((by simp; omega)) (by omega) ?_
  rintro a20 c20 A20 w20 hg20 hown20 hax20 hk20
  refine ⟨trivial, ?_⟩
  refine RL.pure rfl rfl rfl rfl ?_
  obtain ⟨news2, hsrc2, hch2⟩ := Src.imm sl25 hy18 hg20.sh
  refine RL.append (i := 0) (ys := cs) rfl rfl rfl rfl sl25 ze5 rfl (by first | exact RInt.one _ | exact RStr.one | exact RBool.one | assumption) rfl rfl hg20 rfl hown20 (hsrc2) (hch2) ((by simp; omega)) (by omega) ?_
  rintro a21 c21 A21 w21 hg21 hown21 hax21 hk21
  refine ⟨trivial, ?_⟩
  obtain ⟨s22, hg22, hle22, hA22⟩ := Good.letgo hg21
  have hB := hown21.imm (RInt.up _) hle22 hA22
  rw [List.nil_append] at hB ⊢
  have hl22 := hl18.trans hle22
  refine RL.callG rfl rfl rfl rfl rfl ca19 (Unframe_ct hg22 (het.le hl22) (hT.le hl22) (.inl rfl) hB.2.2 (by simp only [List.length_append]; omega)) ?_
  rintro e23 w23 ⟨v23, s23, B23, A23, rfl, hle23, hg23, hax23, v231, v232, rfl, ⟨a231, c231, rfl, h231⟩, a232, c232, rfl, h232⟩
  refine ⟨_, rfl, trivial, ?_⟩
  refine RL.pure rfl rfl rfl rfl ?_
  refine RL.pure rfl rfl rfl rfl ?_
  refine RL.pure rfl rfl rfl rfl ?_
  refine RL.pure rfl rfl rfl rfl ?_
  refine RL.pure rfl rfl rfl rfl ?_
  refine RL.pure rfl rfl rfl rfl ?_
  refine RL.pure rfl rfl rfl rfl ?_
  refine RL.done ?_
  have hax23 := hax16.trans (hax17.trans (hax19.trans (hax20.trans (hax21.trans hax23))))
  have hx23 := hx.up (RInt.up _) (hl22.trans hle23)
  have hy23 := hy.up (RInt.up _) (hl22.trans hle23)
  refine CW.meet (fun E w' => w' = w23 ∧ E = [(1, .slice xa bs.length xc), (2, .slice ya cs.length yc), (7, .bool true)]) ?_ ?_
  · refine CW.seq (CW.plain ?_)
    refine RL.pure rfl rfl rfl rfl ?_
    refine RL.len rfl rfl rfl rfl sl25 rfl ?_
    refine RL.pure rfl rfl rfl rfl ?_
    refine RL.pure rfl rfl rfl rfl ?_
    refine RL.part 69 rfl (fun hc => ?_) (fun hc => ?_)
    case refine_2 =>
      refine RL.pass rfl rfl rfl ?_
      refine RL.pass rfl rfl rfl ?_
      refine RL.pass rfl rfl rfl ?_
      refine RL.pass rfl rfl rfl ?_
      refine RL.pass rfl rfl rfl ?_
      refine RL.pass rfl rfl rfl ?_
      refine RL.pass rfl rfl rfl ?_
      refine RL.pass rfl rfl rfl ?_
      refine RL.pass rfl rfl rfl ?_
      refine RL.pass rfl rfl rfl ?_
      refine RL.pass rfl rfl rfl ?_
      refine RL.pass rfl rfl rfl ?_
      refine RL.pass rfl rfl rfl ?_
      refine RL.pass rfl rfl rfl ?_
      refine RL.pass rfl rfl rfl ?_
      refine RL.pass rfl rfl rfl ?_
      refine RL.pure rfl rfl rfl rfl ?_
      refine RL.done ?_
      refine CW.no rfl (CW.skip ?_)
      exact fun ac ha => ⟨[(1, .slice xa bs.length xc), (2, .slice ya cs.length yc), (7, .bool true)], ha.sub ⟨rfl, rfl, rfl, trivial⟩, rfl, rfl⟩
    have hc : (bs.length : Int) ≤ 262144 := by simpa using hc
    have hu := unf_frame (b := bs) (behind := cs) (by omega)
    rw [hu] at h231 h232 ⊢
    refine RL.pure rfl rfl rfl rfl ?_
    refine RL.as_ rfl rfl rfl rfl (.bool false) (by rfl) ?_
    refine RL.pure rfl rfl rfl rfl ?_
    refine RL.pure rfl rfl rfl rfl ?_
    refine RL.bts rfl rfl rfl rfl sl25 Tryd.underlying5 Tryd.underlying9 rfl (h231.row) (hg23.drop.1) ?_
    refine RL.pure rfl rfl rfl rfl ?_
    refine RL.bts rfl rfl rfl rfl sl25 Tryd.underlying5 Tryd.underlying9 rfl (hx23.2.2) (hg23.sh) ?_
    refine RL.sNe rfl rfl rfl rfl rfl rfl ?_
    rw [beq_self_eq_true]
    refine RL.pure rfl rfl rfl rfl ?_
    refine RL.pure rfl rfl rfl rfl ?_
    refine RL.pure rfl rfl rfl rfl ?_
    refine RL.bts rfl rfl rfl rfl sl25 Tryd.underlying5 Tryd.underlying9 rfl (h232.row) (hg23.1) ?_
    refine RL.pure rfl rfl rfl rfl ?_
    refine RL.bts rfl rfl rfl rfl sl25 Tryd.underlying5 Tryd.underlying9 rfl (hy23.2.2) (hg23.sh) ?_
    refine RL.sNe rfl rfl rfl rfl rfl rfl ?_
    rw [beq_self_eq_true]
    refine RL.pure rfl rfl rfl rfl ?_
    refine RL.pure rfl rfl rfl rfl ?_
    refine RL.done ?_
    refine CW.no rfl (CW.skip ?_)
    exact fun ac ha => ⟨[(1, .slice xa bs.length xc), (2, .slice ya cs.length yc), (7, .bool true)], ha.sub ⟨rfl, rfl, rfl, trivial⟩, rfl, rfl⟩
  rintro E w24 ⟨rfl, rfl⟩
  have hg24 := hg23.drop.drop
  have hl24 := hl22.trans hle23
  clear h231 h232 hg23 hg22 hg21 hg20 hg19 hg18 hg17
  refine CW.seq (CW.plain ?_)
  refine RL.pure rfl rfl rfl rfl ?_
  refine RL.callG rfl rfl rfl rfl rfl ca19 (Unframe_ct hg24 (het.le hl24) (hT.le hl24) (.inl rfl) hx23.2.2 (by omega)) ?_
  rintro e25 w25 ⟨v25, s25, B25, A25, rfl, hle25, hg25, hax25, v251, v252, rfl, ⟨a251, c251, rfl, h251⟩, a252, c252, rfl, h252⟩
  refine ⟨_, rfl, trivial, ?_⟩
  refine RL.pure rfl rfl rfl rfl ?_
  refine RL.pure rfl rfl rfl rfl ?_
  refine RL.pure rfl rfl rfl rfl ?_
  refine RL.pure rfl rfl rfl rfl ?_
  refine RL.pure rfl rfl rfl rfl ?_
  refine RL.pure rfl rfl rfl rfl ?_
  refine RL.pure rfl rfl rfl rfl ?_
  refine RL.done ?_
  have hle5 : (unf bs).1.length ≤ 1048576 ∧ (unf bs).2.1.length ≤ 1048576 := by
    unfold unf
    simp only
    split
    · simp
    split
    · simp
    split
    · simp
    split
    · simp
    · simp only [List.length_take, List.length_drop]; omega
  obtain ⟨s26, hg26, hle26, hB26⟩ := Good.letgo hg25
  obtain ⟨s27, hg27, hle27, hA27⟩ := Good.letgo hg26
  have i1 := h251.imm (RInt.up _) (hle26.trans hle27) hA27
  have i2 := h252.imm (RInt.up _) (hle26.trans hle27) (hB26.trans hle27)
  have hl27 := hl24.trans (hle25.trans (hle26.trans hle27))
  have hx27 := hx.up (RInt.up _) hl27
  refine CW.seq ?_
  have hgD := hg27.drew
  refine CW.draws [(true, 0), (true, 1), (true, 2), (true, 3), (true, 4), (true, 5), (true, 8), (true, 9), (true, 11), (true, 12), (false, 6), (false, 7), (true, 10), (true, 13), (true, 14), (true, 15), (true, 16)] (fun w => In s27 w) mixed (by kernel_rfl) (by kernel_rfl) (by kernel_rfl) (by kernel_rfl) (hgD.sh) ?_
  refine RL.pure rfl rfl rfl rfl ?_
  refine RL.pure rfl rfl rfl rfl ?_
  refine RL.pure rfl rfl rfl rfl ?_
  refine RL.pure rfl rfl rfl rfl ?_
  refine RL.pure rfl rfl rfl rfl ?_
  refine RL.part 97 rfl (fun hc => ?_) (fun hc => ?_)
  · refine RL.pass rfl rfl rfl ?_
    refine RL.pass rfl rfl rfl ?_
    refine RL.pass rfl rfl rfl ?_
    refine RL.pass rfl rfl rfl ?_
    refine RL.pass rfl rfl rfl ?_
    refine RL.pass rfl rfl rfl ?_
    refine RL.pass rfl rfl rfl ?_
    refine RL.pass rfl rfl rfl ?_
    refine RL.pass rfl rfl rfl ?_
    refine RL.pure rfl rfl rfl rfl ?_
    refine RL.pure rfl rfl rfl rfl ?_
    refine RL.pure rfl rfl rfl rfl ?_
    refine RL.done ?_
    exact CW.ret (ret (vs := [_]) ⟨_, _, rfl, rfl, rfl⟩ (Post.mk hl27 hgD.nil (hax23.trans (hax25.trans (Aux.drew _))) rfl))
  have he : (unf bs).2.2 = 0 := by simpa using hc
  have hfr2 := frame_unf hbr he
  have hfl2 : (frame (unf bs).1).length ≤ (unf bs).1.length + 14 := by
    have := encU_length ((unf bs).1.length : Int)
    simp only [frame, encT, List.length_append, show (sumBytes (crc (unf bs).1)).length = 4 from rfl]; omega
  refine RL.pure rfl rfl rfl rfl ?_
  refine RL.pure rfl rfl rfl rfl ?_
  refine RL.btsT rfl rfl rfl rfl sl25 Tryd.underlying5 Tryd.underlying9 rfl (i2.2.2) (fun w h => h) ?_
  refine RL.pure rfl rfl rfl rfl ?_
  refine RL.btsT rfl rfl rfl rfl sl25 Tryd.underlying5 Tryd.underlying9 rfl (hx27.2.2) (fun w h => h) ?_
  refine RL.call rfl rfl rfl rfl rfl ca18 (Frame_ct hgD i1 (hT.le hl27) (by omega)) ?_
  rintro v28 s28 A28 w28 hle28 hg28 hax28 ⟨fa8, fc8, rfl, hfr8⟩
  refine ⟨(hg28.sh.le hle28), ?_⟩
  refine RL.bts rfl rfl rfl rfl sl25 Tryd.underlying5 Tryd.underlying9 rfl (hfr8.row) (hg28.1) ?_
  refine RL.sAdd rfl rfl rfl rfl rfl rfl ((by rw [strOf_size, strOf_size]; omega)) ?_
  rw [show strOfNums (frame (unf bs).1) ++ strOfNums (unf bs).2.1 = strOfNums bs by rw [strOf_append, hfr2]]
  refine RL.sEq rfl rfl rfl rfl rfl rfl ?_
  rw [beq_self_eq_true]
  refine RL.pure rfl rfl rfl rfl ?_
  refine RL.pure rfl rfl rfl rfl ?_
  refine RL.pure rfl rfl rfl rfl ?_
  refine RL.done ?_
  exact CW.ret (ret (vs := [_]) ⟨_, _, rfl, rfl, rfl⟩ (Post.mk (hl27.trans hle28) hg28 (hax23.trans (hax25.trans ((Aux.drew _).trans hax28))) rfl))
end Go.Lw
