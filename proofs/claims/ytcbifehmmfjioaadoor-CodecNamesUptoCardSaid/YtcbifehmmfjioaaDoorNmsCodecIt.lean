/-
  Items: their bytes, by the program and by the document.
-/
import Derived.Test.YtcbifehmmfjioaaDoorNmsCodecRs
namespace Go.Lw
open Go.Proofs
attribute [local irreducible] RL RA

structure Hard where
  term : Int
  vote : Int
  commit : Int
structure Item where
  kind : Int
  group : Int
  entry : Entry
  hard : Hard
  index : Int
  snap : Snap
def encHard (x : Hard) : List Int := encU x.term ++ encI x.vote ++ encU x.commit
def encItem (x : Item) : List Int :=
  if x.kind = 1 then encI x.kind ++ encU x.group ++ encEntry x.entry
  else if x.kind = 2 then encI x.kind ++ encU x.group ++ encHard x.hard
  else if x.kind = 3 then encI x.kind ++ encU x.group ++ encU x.index
  else if x.kind = 4 then encI x.kind ++ encU x.group ++ encSnap x.snap
  else if x.kind = 5 then encI x.kind ++ encU x.group
  else []

/-- An item's cells: an entry's three slices, a snapshot's three. -/
def itemCells (x : Item) (a1 a2 a3 b1 b2 b3 : Option Addr) (c1 c2 c3 d1 d2 d3 : Nat) : List Value :=
  [.int .i64 x.kind, .int .u64 x.group, .int .u64 x.entry.index, .int .u64 x.entry.term, .int .i64 x.entry.kind, .slice a1 x.entry.data.length c1, .slice a2 x.entry.conf.voters.length c2, .slice a3 x.entry.conf.learners.length c3,
   .int .u64 x.hard.term, .int .i64 x.hard.vote, .int .u64 x.hard.commit, .int .u64 x.index, .int .u64 x.snap.index, .int .u64 x.snap.term, .slice b2 x.snap.conf.voters.length d2, .slice b3 x.snap.conf.learners.length d3, .slice b1 x.snap.data.length d1]
def RItem : Res → List Value → Item → Prop := fun s vs x => ∃ a1 a2 a3 b1 b2 b3 c1 c2 c3 d1 d2 d3, vs = itemCells x a1 a2 a3 b1 b2 b3 c1 c2 c3 d1 d2 d3 ∧
  rng .i64 x.kind ∧ rng .u64 x.group ∧ (rng .u64 x.entry.index ∧ rng .u64 x.entry.term ∧ rng .i64 x.entry.kind ∧ Imm (RInt .u8) 1 s a1 c1 x.entry.data ∧ Imm (RInt .i64) 1 s a2 c2 x.entry.conf.voters ∧ Imm (RInt .i64) 1 s a3 c3 x.entry.conf.learners) ∧
  (rng .u64 x.hard.term ∧ rng .i64 x.hard.vote ∧ rng .u64 x.hard.commit) ∧ rng .u64 x.index ∧
  (rng .u64 x.snap.index ∧ rng .u64 x.snap.term ∧ Imm (RInt .u8) 1 s b1 d1 x.snap.data ∧ Imm (RInt .i64) 1 s b2 d2 x.snap.conf.voters ∧ Imm (RInt .i64) 1 s b3 d3 x.snap.conf.learners)
theorem RItem.up : Up RItem := fun _ _ _ _ hl ⟨a1, a2, a3, b1, b2, b3, c1, c2, c3, d1, d2, d3, h, r1, r2, ⟨e1, e2, e3, e4, e5, e6⟩, r3, r4, ⟨f1, f2, f3, f4, f5⟩⟩ =>
  ⟨a1, a2, a3, b1, b2, b3, c1, c2, c3, d1, d2, d3, h, r1, r2, ⟨e1, e2, e3, e4.up (RInt.up _) hl, e5.up (RInt.up _) hl, e6.up (RInt.up _) hl⟩, r3, r4, f1, f2, f3.up (RInt.up _) hl, f4.up (RInt.up _) hl, f5.up (RInt.up _) hl⟩
def Item.bulk (x : Item) : Nat := 200 + x.entry.data.length + 10 * x.entry.conf.voters.length + 10 * x.entry.conf.learners.length + x.snap.data.length + 10 * x.snap.conf.voters.length + 10 * x.snap.conf.learners.length


set_option maxRecDepth 100000 in
theorem Item_ct {w : World} {s : Res} {os : List Res} {vs : List Value} {x : Item} (hg : Good w s os) (hx : RItem s vs x) (hl : x.bulk ≤ 70368744177664) :
    Calls Tryd.prog 27 #[.agg vs.toArray] w (Post w s os fun s' A' r => BOwn s' A' r (encItem x)) := by
  simp only [Item.bulk] at hl
  have u1 := encI_length x.kind
  have u2 := encU_length x.group
  have u3 := encU_length x.hard.term
  have u4 := encI_length x.hard.vote
  obtain ⟨a1, a2, a3, b1, b2, b3, c1, c2, c3, d1, d2, d3, rfl, r1, r2, ⟨e1, e2, e3, e4, e5, e6⟩, ⟨h1, h2, h3⟩, r4, ⟨f1, f2, f3, f4, f5⟩⟩ := hx
  refine enter (l := [.agg (itemCells x a1 a2 a3 b1 b2 b3 c1 c2 c3 d1 d2 d3).toArray]) Tryd.func27 rfl Tryd.ntmps27 rfl ?_
  refine CW.seq (CW.plain ?_)
  refine RL.box rfl rfl rfl rfl rfl hg ?_
  rintro bx w0 hg0 hax0
  refine ⟨trivial, ?_⟩
  refine RL.pure rfl rfl rfl rfl ?_
  refine RL.done ?_
  obtain ⟨s0, hg0, hle0, hH⟩ := boxed hg0
  have hH : Holds s0 ⟨bx, 0, none⟩ (itemCells x a1 a2 a3 b1 b2 b3 c1 c2 c3 d1 d2 d3) := hH
  simp only [itemCells] at hH
  refine CW.seq (CW.plain ?_)
  refine RL.build rfl rfl rfl rfl ze27 pl27 rfl rfl ?_
  refine RL.box rfl rfl rfl rfl rfl hg0 ?_
  rintro p w1 hg1 hax1
  refine ⟨trivial, ?_⟩
  refine RL.pure rfl rfl rfl rfl ?_
  refine RL.done ?_
  have hA1 : WObj s0 (Res.one p (.cells #[.slice none 0 0] 27)) p [] := ⟨none, 0, if_pos rfl, Own.nil _ _ _ _ _⟩
  refine CW.seq (CW.plain ?_)
  refine RL.pure rfl rfl rfl rfl ?_
  refine RL.field rfl rfl rfl rfl fl76_0 rfl rfl ?_
  refine RL.load (j := 0) rfl rfl rfl rfl ty72 rfl (hH) (hg1.sh) rfl ?_
  refine RL.call rfl rfl rfl rfl rfl ca37 (Int_ct hg1 hA1 r1 (by simp)) ?_
  rintro v2 s2 A2 w2 hle2 hg2 hax2 ⟨_, hA2⟩
  refine ⟨trivial, ?_⟩
  refine RL.done ?_
  refine CW.seq (CW.plain ?_)
  refine RL.pure rfl rfl rfl rfl ?_
  refine RL.field rfl rfl rfl rfl fl76_1 rfl rfl ?_
  refine RL.load (j := 1) rfl rfl rfl rfl ty29 rfl (hH.le hle2) (hg2.sh) rfl ?_
  refine RL.call rfl rfl rfl rfl rfl ca14 (Uint_ct hg2 hA2 r2 (by simp only [List.nil_append]; omega)) ?_
  rintro v3 s3 A3 w3 hle3 hg3 hax3 ⟨_, hA3⟩
  refine ⟨trivial, ?_⟩
  refine RL.done ?_
  rw [List.nil_append] at hA3
  have hl3 := hle2.trans hle3
  have hx3 := hax0.trans (hax1.trans (hax2.trans hax3))
  have hH := hH.le hl3
  have hup : ∀ {k : IntKind} {a c ys}, Imm (RInt k) 1 s a c ys → Imm (RInt k) 1 s3 a c ys := fun h => h.up (RInt.up _) (hle0.trans hl3)
  refine CW.meet (fun E w' => ∃ s' A', E = [(3, ptr p)] ∧ Good w' s' (A' :: os) ∧ Le s3 s' ∧ Aux w w' ∧ WObj s' A' p (encItem x)) ?_ ?_
  · refine CW.seq (CW.plain ?_)
    refine RL.field rfl rfl rfl rfl fl76_0 rfl rfl ?_
    refine RL.load (j := 0) rfl rfl rfl rfl ty72 rfl (hH) (hg3.sh) rfl ?_
    refine RL.done ?_
    refine CW.block (CW.seq (CW.plain ?_))
    refine RL.pure rfl rfl rfl rfl ?_
    refine RL.pure rfl rfl rfl rfl ?_
    refine RL.done ?_
    refine CW.eq rfl (fun q1 => ?_) (fun q1 => ?_)
    · refine CW.plain ?_
      refine RL.pure rfl rfl rfl rfl ?_
      refine RL.field rfl rfl rfl rfl fl76_2 rfl rfl ?_
      refine RL.loads (j := 2) (us := [.int .u64 x.entry.index, .int .u64 x.entry.term, .int .i64 x.entry.kind, .slice a1 x.entry.data.length c1, .slice a2 x.entry.conf.voters.length c2, .slice a3 x.entry.conf.learners.length c3]) rfl rfl rfl rfl ty35 rfl (hH) (hg3.sh) rfl rfl ?_
      refine RL.call rfl rfl rfl rfl rfl ca45 (Entry_ct (x := x.entry) hg3 hA3 ⟨_, _, _, _, _, _, rfl, e1, e2, e3, hup e4, hup e5, hup e6⟩ (by simp only [List.length_append]; omega)) ?_
      rintro v4 s4 A4 w4 hle4 hg4 hax4 ⟨_, hA4⟩
      refine ⟨trivial, ?_⟩
      refine RL.done ?_
      exact fun ac ha => ⟨[(3, ptr p)], ha.sub ⟨rfl, trivial⟩, s4, A4, rfl, hg4, hle4, hx3.trans hax4, by rw [encItem, if_pos q1]; exact hA4⟩
    refine CW.seq (CW.plain ?_)
    refine RL.pure rfl rfl rfl rfl ?_
    refine RL.pure rfl rfl rfl rfl ?_
    refine RL.done ?_
    refine CW.eq rfl (fun q2 => ?_) (fun q2 => ?_)
    · refine CW.seq (CW.plain ?_)
      refine RL.pure rfl rfl rfl rfl ?_
      refine RL.field rfl rfl rfl rfl fl76_3 rfl rfl ?_
      refine RL.field rfl rfl rfl rfl fl74_0 rfl rfl ?_
      refine RL.load (j := 8) rfl rfl rfl rfl ty29 rfl (hH) (hg3.sh) rfl ?_
      refine RL.call rfl rfl rfl rfl rfl ca14 (Uint_ct hg3 hA3 h1 (by simp only [List.length_append]; omega)) ?_
      rintro v4 s4 A4 w4 hle4 hg4 hax4 ⟨_, hA4⟩
      refine ⟨trivial, ?_⟩
      refine RL.done ?_
      refine CW.seq (CW.plain ?_)
      refine RL.pure rfl rfl rfl rfl ?_
      refine RL.field rfl rfl rfl rfl fl76_3 rfl rfl ?_
      refine RL.field rfl rfl rfl rfl fl74_1 rfl rfl ?_
      refine RL.load (j := 9) rfl rfl rfl rfl ty3 rfl (hH.le hle4) (hg4.sh) rfl ?_
      refine RL.call rfl rfl rfl rfl rfl ca37 (Int_ct hg4 hA4 h2 (by simp only [List.length_append]; omega)) ?_
      rintro v5 s5 A5 w5 hle5 hg5 hax5 ⟨_, hA5⟩
      refine ⟨trivial, ?_⟩
      refine RL.done ?_
      refine CW.plain ?_
      refine RL.pure rfl rfl rfl rfl ?_
      refine RL.field rfl rfl rfl rfl fl76_3 rfl rfl ?_
      refine RL.field rfl rfl rfl rfl fl74_2 rfl rfl ?_
      refine RL.load (j := 10) rfl rfl rfl rfl ty29 rfl (hH.le (hle4.trans hle5)) (hg5.sh) rfl ?_
      refine RL.call rfl rfl rfl rfl rfl ca14 (Uint_ct hg5 hA5 h3 (by simp only [List.length_append]; omega)) ?_
      rintro v6 s6 A6 w6 hle6 hg6 hax6 ⟨_, hA6⟩
      refine ⟨trivial, ?_⟩
      refine RL.done ?_
      exact fun ac ha => ⟨[(3, ptr p)], ha.sub ⟨rfl, trivial⟩, s6, A6, rfl, hg6, hle4.trans (hle5.trans hle6), hx3.trans (hax4.trans (hax5.trans hax6)), by rw [encItem, if_neg q1, if_pos q2]; simpa only [encHard, List.append_assoc] using hA6⟩
    refine CW.seq (CW.plain ?_)
    refine RL.pure rfl rfl rfl rfl ?_
    refine RL.pure rfl rfl rfl rfl ?_
    refine RL.done ?_
    refine CW.eq rfl (fun q3 => ?_) (fun q3 => ?_)
    · refine CW.plain ?_
      refine RL.pure rfl rfl rfl rfl ?_
      refine RL.field rfl rfl rfl rfl fl76_4 rfl rfl ?_
      refine RL.load (j := 11) rfl rfl rfl rfl ty29 rfl (hH) (hg3.sh) rfl ?_
      refine RL.call rfl rfl rfl rfl rfl ca14 (Uint_ct hg3 hA3 r4 (by simp only [List.length_append]; omega)) ?_
      rintro v4 s4 A4 w4 hle4 hg4 hax4 ⟨_, hA4⟩
      refine ⟨trivial, ?_⟩
      refine RL.done ?_
      exact fun ac ha => ⟨[(3, ptr p)], ha.sub ⟨rfl, trivial⟩, s4, A4, rfl, hg4, hle4, hx3.trans hax4, by rw [encItem, if_neg q1, if_neg q2, if_pos q3]; exact hA4⟩
    refine CW.seq (CW.plain ?_)
    refine RL.pure rfl rfl rfl rfl ?_
    refine RL.pure rfl rfl rfl rfl ?_
    refine RL.done ?_
    refine CW.eq rfl (fun q4 => ?_) (fun q4 => ?_)
    · refine CW.plain ?_
      refine RL.pure rfl rfl rfl rfl ?_
      refine RL.field rfl rfl rfl rfl fl76_5 rfl rfl ?_
      refine RL.loads (j := 12) (us := [.int .u64 x.snap.index, .int .u64 x.snap.term, .slice b2 x.snap.conf.voters.length d2, .slice b3 x.snap.conf.learners.length d3, .slice b1 x.snap.data.length d1]) rfl rfl rfl rfl ty37 rfl (hH) (hg3.sh) rfl rfl ?_
      refine RL.call rfl rfl rfl rfl rfl ca47 (Snap_ct (x := x.snap) hg3 hA3 ⟨_, _, _, _, _, _, rfl, f1, f2, hup f3, hup f4, hup f5⟩ (by simp only [List.length_append]; omega)) ?_
      rintro v4 s4 A4 w4 hle4 hg4 hax4 ⟨_, hA4⟩
      refine ⟨trivial, ?_⟩
      refine RL.done ?_
      exact fun ac ha => ⟨[(3, ptr p)], ha.sub ⟨rfl, trivial⟩, s4, A4, rfl, hg4, hle4, hx3.trans hax4, by rw [encItem, if_neg q1, if_neg q2, if_neg q3, if_pos q4]; exact hA4⟩
    refine CW.seq (CW.plain ?_)
    refine RL.pure rfl rfl rfl rfl ?_
    refine RL.pure rfl rfl rfl rfl ?_
    refine RL.done ?_
    refine CW.eq rfl (fun q5 => ?_) (fun q5 => ?_)
    · refine CW.skip ?_
      exact fun ac ha => ⟨[(3, ptr p)], ha.sub ⟨rfl, trivial⟩, s3, A3, rfl, hg3, Le.refl _, hx3, by rw [encItem, if_neg q1, if_neg q2, if_neg q3, if_neg q4, if_pos q5]; exact hA3⟩
    refine CW.seq (CW.plain ?_)
    refine RL.pure rfl rfl rfl rfl ?_
    refine RL.done ?_
    refine CW.ret (ret (vs := [_]) ⟨_, _, rfl, rfl, rfl⟩ (Post.mk (hle0.trans hl3) hg3.drop.nil hx3 ?_))
    rw [encItem, if_neg q1, if_neg q2, if_neg q3, if_neg q4, if_neg q5]
    exact ⟨none, 0, rfl, Own.nil _ _ _ _ _⟩
  rintro E we ⟨se, Ae, rfl, hge, hlee, haxe, hAe⟩
  obtain ⟨wa, wc, hwp, hwo⟩ := hAe
  refine CW.seq (CW.plain ?_)
  refine RL.pure rfl rfl rfl rfl ?_
  refine RL.pure rfl rfl rfl rfl ?_
  refine RL.field rfl rfl rfl rfl fl27_0 rfl rfl ?_
  refine RL.load rfl rfl rfl rfl ty25 rfl (Holds.of hwp) (hge.1) rfl ?_
  refine RL.pure rfl rfl rfl rfl ?_
  refine RL.done ?_
  exact CW.ret (ret (vs := [_]) ⟨_, _, rfl, rfl, rfl⟩ (Post.mk (hle0.trans (hl3.trans hlee)) hge haxe ⟨wa, wc, rfl, hwo⟩))


set_option maxRecDepth 100000 in
theorem rItem_ct {w : World} {s : Res} {os : List Res} {vs : List Value} {x : Item} (hg : Good w s os) (hx : RItem s vs x) (hl : x.bulk ≤ 70368744177664) :
    Calls Tryd.prog 31 #[.agg vs.toArray] w (Post w s os fun s' A' r => BOwn s' A' r (encItem x)) := by
  simp only [Item.bulk] at hl
  have u1 := encI_length x.kind
  have u2 := encU_length x.group
  have u3 := encU_length x.hard.term
  have u4 := encI_length x.hard.vote
  have u5 := encU_length x.hard.commit
  have u6 := encU_length x.index
  have u7 : (encEntry x.entry).length ≤ 100 + x.entry.data.length + 10 * x.entry.conf.voters.length + 10 * x.entry.conf.learners.length := by
    have v1 := encU_length x.entry.index
    have v2 := encU_length x.entry.term
    have v3 := encI_length x.entry.kind
    have v4 := encT_length x.entry.data
    have v5 := encConf_length x.entry.conf
    simp only [encEntry, List.length_append]; omega
  have u8 : (encSnap x.snap).length ≤ 100 + x.snap.data.length + 10 * x.snap.conf.voters.length + 10 * x.snap.conf.learners.length := by
    have v1 := encU_length x.snap.index
    have v2 := encU_length x.snap.term
    have v4 := encT_length x.snap.data
    have v5 := encConf_length x.snap.conf
    simp only [encSnap, List.length_append]; omega
  obtain ⟨a1, a2, a3, b1, b2, b3, c1, c2, c3, d1, d2, d3, rfl, r1, r2, ⟨e1, e2, e3, e4, e5, e6⟩, ⟨h1, h2, h3⟩, r4, ⟨f1, f2, f3, f4, f5⟩⟩ := hx
  refine enter (l := [.agg (itemCells x a1 a2 a3 b1 b2 b3 c1 c2 c3 d1 d2 d3).toArray]) Tryd.func31 rfl Tryd.ntmps31 rfl ?_
  refine CW.seq (CW.plain ?_)
  refine RL.box rfl rfl rfl rfl rfl hg ?_
  rintro bx w0 hg0 hax0
  refine ⟨trivial, ?_⟩
  refine RL.pure rfl rfl rfl rfl ?_
  refine RL.done ?_
  obtain ⟨s0, hg0, hle0, hH⟩ := boxed hg0
  have hH : Holds s0 ⟨bx, 0, none⟩ (itemCells x a1 a2 a3 b1 b2 b3 c1 c2 c3 d1 d2 d3) := hH
  simp only [itemCells] at hH
  refine CW.seq ?_
  refine CW.draws [(true, 0), (true, 1), (true, 3), (true, 4), (false, 2), (false, 5), (false, 6), (false, 7)] (fun w => In s0 w) mixed (by kernel_rfl) (by kernel_rfl) (by kernel_rfl) (by kernel_rfl) (hg0.drew.sh) ?_
  refine RL.field rfl rfl rfl rfl fl76_0 rfl rfl ?_
  refine RL.loadT (j := 0) rfl rfl rfl rfl ty72 rfl (hH) (fun w h => h) rfl ?_
  refine RL.field rfl rfl rfl rfl fl76_1 rfl rfl ?_
  refine RL.loadT (j := 1) rfl rfl rfl rfl ty29 rfl (hH) (fun w h => h) rfl ?_
  refine RL.call rfl rfl rfl rfl rfl ca38 (rInt_ct hg0.drew r1) ?_
  rintro v1 s1 A1 w1 hle1 hg1 hax1 ⟨aa1, cc1, rfl, hown1⟩
  refine ⟨(hg1.sh.le hle1), ?_⟩
  refine RL.call rfl rfl rfl rfl rfl ca36 (rUint_ct hg1 r2) ?_
  rintro v2 s2 B2 w2 hle2 hg2 hax2 ⟨aa2, cc2, rfl, hB2⟩
  refine ⟨(hg2.sh.le (hle1.trans hle2)), ?_⟩
  obtain ⟨news2, hsrc2, hch2⟩ := Src.own sl25 hB2 hg2.1
  refine RL.append (i := 1) (ys := encU x.group) rfl rfl rfl rfl sl25 ze5 rfl (by first | exact RInt.one _ | exact RStr.one | exact RBool.one | assumption) rfl rfl hg2 rfl (hown1.up (RInt.up _) hle2) (hsrc2) (hch2) ((by omega)) (by omega) ?_
  rintro aa3 cc3 A3 w3 hg3 hown3 hax3 hk3
  refine ⟨(hg3.sh.le (hle1.trans hle2)), ?_⟩
  refine RL.pure rfl rfl rfl rfl ?_
  refine RL.done ?_
  have hg3 : Good w3 s2 (A3 :: os) := hg3.drop
  have hl3 := hle1.trans hle2
  have hx3 := hax0.trans ((Aux.drew _).trans (hax1.trans (hax2.trans hax3)))
  have hH := hH.le hl3
  have hup : ∀ {k : IntKind} {a c ys}, Imm (RInt k) 1 s a c ys → Imm (RInt k) 1 s2 a c ys := fun h => h.up (RInt.up _) (hle0.trans hl3)
  have hl03 := hl3
  have hl3 : Le s2 s2 := Le.refl _
  have hl4 := hl3
  refine CW.seq (CW.seq (CW.plain ?_))
  refine RL.field rfl rfl rfl rfl fl76_0 rfl rfl ?_
  refine RL.load (j := 0) rfl rfl rfl rfl ty72 rfl (hH) (hg3.sh) rfl ?_
  refine RL.done ?_
  refine CW.block (CW.seq (CW.plain ?_))
  refine RL.pure rfl rfl rfl rfl ?_
  refine RL.pure rfl rfl rfl rfl ?_
  refine RL.done ?_
  refine CW.eq rfl (fun q1 => ?_) (fun q1 => ?_)
  · refine CW.seq (CW.plain ?_)
    refine RL.pure rfl rfl rfl rfl ?_
    refine RL.field rfl rfl rfl rfl fl76_2 rfl rfl ?_
    refine RL.loads (j := 2) (us := [.int .u64 x.entry.index, .int .u64 x.entry.term, .int .i64 x.entry.kind, .slice a1 x.entry.data.length c1, .slice a2 x.entry.conf.voters.length c2, .slice a3 x.entry.conf.learners.length c3]) rfl rfl rfl rfl ty35 rfl (hH.le hl3) (hg3.sh) rfl rfl ?_
    refine RL.call rfl rfl rfl rfl rfl ca46 (rEntry_ct (x := x.entry) hg3 ⟨_, _, _, _, _, _, rfl, e1, e2, e3, hup e4, hup e5, hup e6⟩ (by omega)) ?_
    rintro r5 s5 B5 w5 hle5 hgb5 haxb5 ⟨ab5, cb5, rfl, hB5⟩
    refine ⟨trivial, ?_⟩
    obtain ⟨news5, hsrc5, hch5⟩ := Src.own sl25 hB5 hgb5.1
    refine RL.append (i := 1) (ys := encEntry x.entry) rfl rfl rfl rfl sl25 ze5 rfl (by first | exact RInt.one _ | exact RStr.one | exact RBool.one | assumption) rfl rfl hgb5 rfl (hown3.up (RInt.up _) hle5) (hsrc5) (hch5) ((by simp only [List.length_append]; omega)) (by omega) ?_
    rintro ai5 ci5 A5 wi5 hgc5 hown5 haxc5 hk5
    refine ⟨trivial, ?_⟩
    refine RL.pure rfl rfl rfl rfl ?_
    refine RL.done ?_
    have hl5 := hl3.trans hle5
    have hx5 := hx3.trans (haxb5.trans haxc5)
    have hg5 := hgc5.drop
    refine CW.ret (ret (vs := [_]) ⟨_, _, rfl, rfl, rfl⟩ (Post.mk (hle0.trans (hl03.trans hl5)) hg5 hx5 ?_))
    rw [encItem, if_pos q1]
    first | exact ⟨_, _, rfl, hown5⟩ | (rw [encHard, ← List.append_assoc, ← List.append_assoc]; exact ⟨_, _, rfl, hown5⟩)
  refine CW.seq (CW.plain ?_)
  refine RL.pure rfl rfl rfl rfl ?_
  refine RL.pure rfl rfl rfl rfl ?_
  refine RL.done ?_
  refine CW.eq rfl (fun q2 => ?_) (fun q2 => ?_)
  · refine CW.seq (CW.plain ?_)
    refine RL.pure rfl rfl rfl rfl ?_
    refine RL.field rfl rfl rfl rfl fl76_3 rfl rfl ?_
    refine RL.field rfl rfl rfl rfl fl74_0 rfl rfl ?_
    refine RL.load (j := 8) rfl rfl rfl rfl ty29 rfl (hH.le hl3) (hg3.sh) rfl ?_
    refine RL.call rfl rfl rfl rfl rfl ca36 (rUint_ct hg3 h1) ?_
    rintro r5 s5 B5 w5 hle5 hgb5 haxb5 ⟨ab5, cb5, rfl, hB5⟩
    refine ⟨trivial, ?_⟩
    obtain ⟨news5, hsrc5, hch5⟩ := Src.own sl25 hB5 hgb5.1
    refine RL.append (i := 1) (ys := encU x.hard.term) rfl rfl rfl rfl sl25 ze5 rfl (by first | exact RInt.one _ | exact RStr.one | exact RBool.one | assumption) rfl rfl hgb5 rfl (hown3.up (RInt.up _) hle5) (hsrc5) (hch5) ((by simp only [List.length_append]; omega)) (by omega) ?_
    rintro ai5 ci5 A5 wi5 hgc5 hown5 haxc5 hk5
    refine ⟨trivial, ?_⟩
    refine RL.pure rfl rfl rfl rfl ?_
    refine RL.done ?_
    have hl5 := hl3.trans hle5
    have hx5 := hx3.trans (haxb5.trans haxc5)
    have hg5 := hgc5.drop
    refine CW.seq (CW.plain ?_)
    refine RL.pure rfl rfl rfl rfl ?_
    refine RL.field rfl rfl rfl rfl fl76_3 rfl rfl ?_
    refine RL.field rfl rfl rfl rfl fl74_1 rfl rfl ?_
    refine RL.load (j := 9) rfl rfl rfl rfl ty3 rfl (hH.le hl5) (hg5.sh) rfl ?_
    refine RL.call rfl rfl rfl rfl rfl ca38 (rInt_ct hg5 h2) ?_
    rintro r6 s6 B6 w6 hle6 hgb6 haxb6 ⟨ab6, cb6, rfl, hB6⟩
    refine ⟨trivial, ?_⟩
    obtain ⟨news6, hsrc6, hch6⟩ := Src.own sl25 hB6 hgb6.1
    refine RL.append (i := 1) (ys := encI x.hard.vote) rfl rfl rfl rfl sl25 ze5 rfl (by first | exact RInt.one _ | exact RStr.one | exact RBool.one | assumption) rfl rfl hgb6 rfl (hown5.up (RInt.up _) hle6) (hsrc6) (hch6) ((by simp only [List.length_append]; omega)) (by omega) ?_
    rintro ai6 ci6 A6 wi6 hgc6 hown6 haxc6 hk6
    refine ⟨trivial, ?_⟩
    refine RL.pure rfl rfl rfl rfl ?_
    refine RL.done ?_
    have hl6 := hl5.trans hle6
    have hx6 := hx5.trans (haxb6.trans haxc6)
    have hg6 := hgc6.drop
    refine CW.seq (CW.plain ?_)
    refine RL.pure rfl rfl rfl rfl ?_
    refine RL.field rfl rfl rfl rfl fl76_3 rfl rfl ?_
    refine RL.field rfl rfl rfl rfl fl74_2 rfl rfl ?_
    refine RL.load (j := 10) rfl rfl rfl rfl ty29 rfl (hH.le hl6) (hg6.sh) rfl ?_
    refine RL.call rfl rfl rfl rfl rfl ca36 (rUint_ct hg6 h3) ?_
    rintro r7 s7 B7 w7 hle7 hgb7 haxb7 ⟨ab7, cb7, rfl, hB7⟩
    refine ⟨trivial, ?_⟩
    obtain ⟨news7, hsrc7, hch7⟩ := Src.own sl25 hB7 hgb7.1
    refine RL.append (i := 1) (ys := encU x.hard.commit) rfl rfl rfl rfl sl25 ze5 rfl (by first | exact RInt.one _ | exact RStr.one | exact RBool.one | assumption) rfl rfl hgb7 rfl (hown6.up (RInt.up _) hle7) (hsrc7) (hch7) ((by simp only [List.length_append]; omega)) (by omega) ?_
    rintro ai7 ci7 A7 wi7 hgc7 hown7 haxc7 hk7
    refine ⟨trivial, ?_⟩
    refine RL.pure rfl rfl rfl rfl ?_
    refine RL.done ?_
    have hl7 := hl6.trans hle7
    have hx7 := hx6.trans (haxb7.trans haxc7)
    have hg7 := hgc7.drop
    refine CW.ret (ret (vs := [_]) ⟨_, _, rfl, rfl, rfl⟩ (Post.mk (hle0.trans (hl03.trans hl7)) hg7 hx7 ?_))
    rw [encItem, if_neg q1, if_pos q2]
    first | exact ⟨_, _, rfl, hown7⟩ | (rw [encHard, ← List.append_assoc, ← List.append_assoc]; exact ⟨_, _, rfl, hown7⟩)
  refine CW.seq (CW.plain ?_)
  refine RL.pure rfl rfl rfl rfl ?_
  refine RL.pure rfl rfl rfl rfl ?_
  refine RL.done ?_
  refine CW.eq rfl (fun q3 => ?_) (fun q3 => ?_)
  · refine CW.seq (CW.plain ?_)
    refine RL.pure rfl rfl rfl rfl ?_
    refine RL.field rfl rfl rfl rfl fl76_4 rfl rfl ?_
    refine RL.load (j := 11) rfl rfl rfl rfl ty29 rfl (hH.le hl3) (hg3.sh) rfl ?_
    refine RL.call rfl rfl rfl rfl rfl ca36 (rUint_ct hg3 r4) ?_
    rintro r5 s5 B5 w5 hle5 hgb5 haxb5 ⟨ab5, cb5, rfl, hB5⟩
    refine ⟨trivial, ?_⟩
    obtain ⟨news5, hsrc5, hch5⟩ := Src.own sl25 hB5 hgb5.1
    refine RL.append (i := 1) (ys := encU x.index) rfl rfl rfl rfl sl25 ze5 rfl (by first | exact RInt.one _ | exact RStr.one | exact RBool.one | assumption) rfl rfl hgb5 rfl (hown3.up (RInt.up _) hle5) (hsrc5) (hch5) ((by simp only [List.length_append]; omega)) (by omega) ?_
    rintro ai5 ci5 A5 wi5 hgc5 hown5 haxc5 hk5
    refine ⟨trivial, ?_⟩
    refine RL.pure rfl rfl rfl rfl ?_
    refine RL.done ?_
    have hl5 := hl3.trans hle5
    have hx5 := hx3.trans (haxb5.trans haxc5)
    have hg5 := hgc5.drop
    refine CW.ret (ret (vs := [_]) ⟨_, _, rfl, rfl, rfl⟩ (Post.mk (hle0.trans (hl03.trans hl5)) hg5 hx5 ?_))
    rw [encItem, if_neg q1, if_neg q2, if_pos q3]
    first | exact ⟨_, _, rfl, hown5⟩ | (rw [encHard, ← List.append_assoc, ← List.append_assoc]; exact ⟨_, _, rfl, hown5⟩)
  refine CW.seq (CW.plain ?_)
  refine RL.pure rfl rfl rfl rfl ?_
  refine RL.pure rfl rfl rfl rfl ?_
  refine RL.done ?_
  refine CW.eq rfl (fun q4 => ?_) (fun q4 => ?_)
  · refine CW.seq (CW.plain ?_)
    refine RL.pure rfl rfl rfl rfl ?_
    refine RL.field rfl rfl rfl rfl fl76_5 rfl rfl ?_
    refine RL.loads (j := 12) (us := [.int .u64 x.snap.index, .int .u64 x.snap.term, .slice b2 x.snap.conf.voters.length d2, .slice b3 x.snap.conf.learners.length d3, .slice b1 x.snap.data.length d1]) rfl rfl rfl rfl ty37 rfl (hH.le hl3) (hg3.sh) rfl rfl ?_
    refine RL.call rfl rfl rfl rfl rfl ca48 (rSnap_ct (x := x.snap) hg3 ⟨_, _, _, _, _, _, rfl, f1, f2, hup f3, hup f4, hup f5⟩ (by omega)) ?_
    rintro r5 s5 B5 w5 hle5 hgb5 haxb5 ⟨ab5, cb5, rfl, hB5⟩
    refine ⟨trivial, ?_⟩
    obtain ⟨news5, hsrc5, hch5⟩ := Src.own sl25 hB5 hgb5.1
    refine RL.append (i := 1) (ys := encSnap x.snap) rfl rfl rfl rfl sl25 ze5 rfl (by first | exact RInt.one _ | exact RStr.one | exact RBool.one | assumption) rfl rfl hgb5 rfl (hown3.up (RInt.up _) hle5) (hsrc5) (hch5) ((by simp only [List.length_append]; omega)) (by omega) ?_
    rintro ai5 ci5 A5 wi5 hgc5 hown5 haxc5 hk5
    refine ⟨trivial, ?_⟩
    refine RL.pure rfl rfl rfl rfl ?_
    refine RL.done ?_
    have hl5 := hl3.trans hle5
    have hx5 := hx3.trans (haxb5.trans haxc5)
    have hg5 := hgc5.drop
    refine CW.ret (ret (vs := [_]) ⟨_, _, rfl, rfl, rfl⟩ (Post.mk (hle0.trans (hl03.trans hl5)) hg5 hx5 ?_))
    rw [encItem, if_neg q1, if_neg q2, if_neg q3, if_pos q4]
    first | exact ⟨_, _, rfl, hown5⟩ | (rw [encHard, ← List.append_assoc, ← List.append_assoc]; exact ⟨_, _, rfl, hown5⟩)
  refine CW.seq (CW.plain ?_)
  refine RL.pure rfl rfl rfl rfl ?_
  refine RL.pure rfl rfl rfl rfl ?_
  refine RL.done ?_
  refine CW.eq rfl (fun q5 => ?_) (fun q5 => ?_)
  · refine CW.seq (CW.plain ?_)
    refine RL.pure rfl rfl rfl rfl ?_
    refine RL.pure rfl rfl rfl rfl ?_
    refine RL.done ?_
    refine CW.ret (ret (vs := [_]) ⟨_, _, rfl, rfl, rfl⟩ (Post.mk (hle0.trans (hl03.trans hl3)) hg3 hx3 ?_))
    rw [encItem, if_neg q1, if_neg q2, if_neg q3, if_neg q4, if_pos q5]
    first | exact ⟨_, _, rfl, hown3⟩ | (rw [encHard, ← List.append_assoc, ← List.append_assoc]; exact ⟨_, _, rfl, hown3⟩)
  refine CW.skip (CW.seq (CW.plain ?_))
  refine RL.pure rfl rfl rfl rfl ?_
  refine RL.done ?_
  refine CW.ret (ret (vs := [_]) ⟨_, _, rfl, rfl, rfl⟩ (Post.mk (hle0.trans hl03) hg3.drop.nil hx3 ?_))
  rw [encItem, if_neg q1, if_neg q2, if_neg q3, if_neg q4, if_neg q5]
  exact ⟨none, 0, rfl, Own.nil _ _ _ _ _⟩
end Go.Lw
