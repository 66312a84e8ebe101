/-
  The law CodecBack, walked.
-/
import Derived.Test.YtcbifehmmfjioaaDoorBckCodecBk
import Derived.Test.YtcbifehmmfjioaaDoorBckCodecIs
namespace Go.Lw
open Go.Proofs
attribute [local irreducible] RL RA

theorem ns_of {s : Res} {a : Option Addr} {c : Nat} {xs : List Int} (h : Imm (RInt .i64) 1 s a c xs) : Ns xs := ⟨h.le_max, h.rng⟩
theorem RItem.may {s : Res} {vs : List Value} {x : Item} (h : RItem s vs x) : x.may := by
  obtain ⟨a1, a2, a3, b1, b2, b3, c1, c2, c3, d1, d2, d3, rfl, r1, r2, ⟨e1, e2, e3, e4, e5, e6⟩, h3, r4, ⟨f1, f2, f3, f4, f5⟩⟩ := h
  exact ⟨r1, r2, ⟨e1, e2, e3, e4.le_max, ns_of e5, ns_of e6⟩, h3, r4, f1, f2, ⟨ns_of f4, ns_of f5⟩, f3.le_max⟩

set_option maxRecDepth 100000 in
theorem Plain_ct {w : World} {s : Res} {os : List Res} {vs : List Value} {x : Item} (hg : Good w s os) (hx : RItem s vs x) :
    Calls Tryd.prog 32 #[.agg vs.toArray] w (Post w s os fun s' _ r => ∃ us, r = .agg us.toArray ∧ RItem s' us x.plain) := by
  obtain ⟨a1, a2, a3, b1, b2, b3, c1, c2, c3, d1, d2, d3, rfl, r1, r2, ⟨e1, e2, e3, e4, e5, e6⟩, ⟨h1, h2, h3⟩, r4, ⟨f1, f2, f3, f4, f5⟩⟩ := hx
  refine enter (l := [.agg (itemCells x a1 a2 a3 b1 b2 b3 c1 c2 c3 d1 d2 d3).toArray]) Tryd.func32 rfl Tryd.ntmps32 rfl ?_
  refine CW.seq (CW.plain ?_)
  refine RL.box rfl rfl rfl rfl rfl hg ?_
  rintro b1' w0 hg0 hax0
  refine ⟨trivial, ?_⟩
  obtain ⟨s1, hg0, hle0, hH⟩ := boxed hg0
  have hH : Holds s1 ⟨b1', 0, none⟩ (itemCells x a1 a2 a3 b1 b2 b3 c1 c2 c3 d1 d2 d3) := hH
  simp only [itemCells] at hH
  refine RL.alloc rfl rfl rfl rfl ze76 hg0 ?_
  rintro q2 w1 hg1 hax1
  refine ⟨trivial, ?_⟩
  refine RL.done ?_
  refine CW.seq (CW.plain ?_)
  refine RL.field rfl rfl rfl rfl fl76_0 rfl rfl ?_
  refine RL.load (j := 0) rfl rfl rfl rfl ty72 rfl (hH) (hg1.sh) rfl ?_
  refine RL.field rfl rfl rfl rfl fl76_1 rfl rfl ?_
  refine RL.load (j := 1) rfl rfl rfl rfl ty29 rfl (hH) (hg1.sh) rfl ?_
  refine RL.build rfl rfl rfl rfl ze76 pl76 rfl rfl ?_
  refine RL.alloc rfl rfl rfl rfl ze76 hg1 ?_
  rintro q3 w2 hg2 hax2
  refine ⟨trivial, ?_⟩
  refine RL.store (i := 0) (j := 0) rfl rfl rfl ty76 rfl rfl hg2 rfl (if_pos rfl) rfl (by simp [Value.cells, Value.oneCell', putL]) (by decide) ?_
  rintro w3 hg3 hax3
  refine ⟨trivial, ?_⟩
  refine RL.done ?_
  have hx4 := hax0.trans (hax1.trans (hax2.trans hax3))
  obtain ⟨T, hT, hg3⟩ : ∃ T, T q3 = some (.cells #[.int .i64 x.kind, .int .u64 x.group, .int .u64 0, .int .u64 0, .int .i64 0, nilSl, nilSl, nilSl, .int .u64 0, .int .i64 0, .int .u64 0, .int .u64 0, .int .u64 0, .int .u64 0, nilSl, nilSl, nilSl] 76 (0, 0)) ∧ Good w3 s1 (T :: Res.one q2 (.cells zItem.toArray 76) :: os) := ⟨_, put_same _ _ _, hg3⟩
  have z1 : rng .u64 0 := by simp [rng]
  have z2 : rng .i64 0 := by simp [rng]
  have hup : ∀ {k : IntKind} {a c ys}, Imm (RInt k) 1 s a c ys → Imm (RInt k) 1 s1 a c ys := fun h => h.up (RInt.up _) hle0
  refine CW.meet (fun E w' => ∃ T' vs, E = [(2, ptr q2), (3, ptr q3)] ∧ T' q3 = some (.cells vs.toArray 76 (0, 0)) ∧ RItem s1 vs x.plain ∧ Good w' s1 (T' :: Res.one q2 (.cells zItem.toArray 76) :: os) ∧ Aux w w') ?_ ?_
  · refine CW.seq (CW.plain ?_)
    refine RL.field rfl rfl rfl rfl fl76_0 rfl rfl ?_
    refine RL.load (j := 0) rfl rfl rfl rfl ty72 rfl (hH) (hg3.sh) rfl ?_
    refine RL.done ?_
    refine CW.block (CW.seq (CW.plain ?_))
    refine RL.pure rfl rfl rfl rfl ?_
    refine RL.pure rfl rfl rfl rfl ?_
    refine RL.done ?_
    refine CW.eq rfl (fun q1 => ?_) (fun q1 => ?_)
    · refine CW.plain ?_
      refine RL.field rfl rfl rfl rfl fl76_2 rfl rfl ?_
      refine RL.loads (j := 2) (us := [.int .u64 x.entry.index, .int .u64 x.entry.term, .int .i64 x.entry.kind, .slice a1 x.entry.data.length c1, .slice a2 x.entry.conf.voters.length c2, .slice a3 x.entry.conf.learners.length c3]) rfl rfl rfl rfl ty35 rfl (hH) (hg3.sh) rfl rfl ?_
      refine RL.field rfl rfl rfl rfl fl76_2 rfl rfl ?_
      refine RL.store (i := 0) (j := 2) rfl rfl rfl ty35 rfl rfl hg3 rfl (hT) rfl (by first | (simp [Value.cells, Value.oneCell']; done) | simp [Value.cells, Value.oneCell', putL]) (by first | exact Nat.le_of_ble_eq_true rfl | (simp; done) | (simp; omega) | omega) ?_
      rintro w5 hg5 hax5
      refine ⟨trivial, ?_⟩
      refine RL.done ?_
      exact fun ac ha => ⟨[(2, ptr q2), (3, ptr q3)], ha.sub ⟨rfl, rfl, trivial⟩, _, _, rfl, put_same _ _ _, ⟨a1, a2, a3, none, none, none, c1, c2, c3, 0, 0, 0, (by simp only [itemCells, Item.plain, q1, if_true, show ¬ ((1 : Int) = 2) by decide, show ¬ ((1 : Int) = 3) by decide, show ¬ ((1 : Int) = 4) by decide, if_false, Hard.zero, Snap.zero]; rfl), r1, r2, (by simp only [Item.plain, q1, if_true]; exact ⟨e1, e2, e3, hup e4, hup e5, hup e6⟩), (by simp only [Item.plain, q1, show ¬ ((1 : Int) = 2) by decide, if_false]; exact ⟨z1, z2, z1⟩), (by simp only [Item.plain, q1, show ¬ ((1 : Int) = 3) by decide, if_false]; exact z1), (by simp only [Item.plain, q1, show ¬ ((1 : Int) = 4) by decide, if_false]; exact ⟨z1, z1, nilB _, nilI _, nilI _⟩)⟩, hg5, hx4.trans hax5⟩
    refine CW.seq (CW.plain ?_)
    refine RL.pure rfl rfl rfl rfl ?_
    refine RL.pure rfl rfl rfl rfl ?_
    refine RL.done ?_
    refine CW.eq rfl (fun q2' => ?_) (fun q2' => ?_)
    · refine CW.plain ?_
      refine RL.field rfl rfl rfl rfl fl76_3 rfl rfl ?_
      refine RL.loads (j := 8) (us := [.int .u64 x.hard.term, .int .i64 x.hard.vote, .int .u64 x.hard.commit]) rfl rfl rfl rfl ty74 rfl (hH) (hg3.sh) rfl rfl ?_
      refine RL.field rfl rfl rfl rfl fl76_3 rfl rfl ?_
      refine RL.store (i := 0) (j := 8) rfl rfl rfl ty74 rfl rfl hg3 rfl (hT) rfl (by first | (simp [Value.cells, Value.oneCell']; done) | simp [Value.cells, Value.oneCell', putL]) (by first | exact Nat.le_of_ble_eq_true rfl | (simp; done) | (simp; omega) | omega) ?_
      rintro w5 hg5 hax5
      refine ⟨trivial, ?_⟩
      refine RL.done ?_
      exact fun ac ha => ⟨[(2, ptr q2), (3, ptr q3)], ha.sub ⟨rfl, rfl, trivial⟩, _, _, rfl, put_same _ _ _, ⟨none, none, none, none, none, none, 0, 0, 0, 0, 0, 0, (by simp only [itemCells, Item.plain, q2', if_true, show ¬ ((2 : Int) = 1) by decide, show ¬ ((2 : Int) = 3) by decide, show ¬ ((2 : Int) = 4) by decide, if_false, Entry.zero, Snap.zero]; rfl), r1, r2, (by simp only [Item.plain, q2', show ¬ ((2 : Int) = 1) by decide, if_false]; exact ⟨z1, z1, z2, nilB _, nilI _, nilI _⟩), (by simp only [Item.plain, q2', if_true]; exact ⟨h1, h2, h3⟩), (by simp only [Item.plain, q2', show ¬ ((2 : Int) = 3) by decide, if_false]; exact z1), (by simp only [Item.plain, q2', show ¬ ((2 : Int) = 4) by decide, if_false]; exact ⟨z1, z1, nilB _, nilI _, nilI _⟩)⟩, hg5, hx4.trans hax5⟩
    refine CW.seq (CW.plain ?_)
    refine RL.pure rfl rfl rfl rfl ?_
    refine RL.pure rfl rfl rfl rfl ?_
    refine RL.done ?_
    refine CW.eq rfl (fun q3' => ?_) (fun q3' => ?_)
    · refine CW.plain ?_
      refine RL.field rfl rfl rfl rfl fl76_4 rfl rfl ?_
      refine RL.load (j := 11) rfl rfl rfl rfl ty29 rfl (hH) (hg3.sh) rfl ?_
      refine RL.field rfl rfl rfl rfl fl76_4 rfl rfl ?_
      refine RL.store (i := 0) (j := 11) rfl rfl rfl ty29 rfl rfl hg3 rfl (hT) rfl (by first | (simp [Value.cells, Value.oneCell']; done) | simp [Value.cells, Value.oneCell', putL]) (by first | exact Nat.le_of_ble_eq_true rfl | (simp; done) | (simp; omega) | omega) ?_
      rintro w5 hg5 hax5
      refine ⟨trivial, ?_⟩
      refine RL.done ?_
      exact fun ac ha => ⟨[(2, ptr q2), (3, ptr q3)], ha.sub ⟨rfl, rfl, trivial⟩, _, _, rfl, put_same _ _ _, ⟨none, none, none, none, none, none, 0, 0, 0, 0, 0, 0, (by simp only [itemCells, Item.plain, q3', if_true, show ¬ ((3 : Int) = 1) by decide, show ¬ ((3 : Int) = 2) by decide, show ¬ ((3 : Int) = 4) by decide, if_false, Entry.zero, Hard.zero, Snap.zero]; rfl), r1, r2, (by simp only [Item.plain, q3', show ¬ ((3 : Int) = 1) by decide, if_false]; exact ⟨z1, z1, z2, nilB _, nilI _, nilI _⟩), (by simp only [Item.plain, q3', show ¬ ((3 : Int) = 2) by decide, if_false]; exact ⟨z1, z2, z1⟩), (by simp only [Item.plain, q3', if_true]; exact r4), (by simp only [Item.plain, q3', show ¬ ((3 : Int) = 4) by decide, if_false]; exact ⟨z1, z1, nilB _, nilI _, nilI _⟩)⟩, hg5, hx4.trans hax5⟩
    refine CW.seq (CW.plain ?_)
    refine RL.pure rfl rfl rfl rfl ?_
    refine RL.pure rfl rfl rfl rfl ?_
    refine RL.done ?_
    refine CW.eq rfl (fun q4 => ?_) (fun q4 => ?_)
    · refine CW.plain ?_
      refine RL.field rfl rfl rfl rfl fl76_5 rfl rfl ?_
      refine RL.loads (j := 12) (us := [.int .u64 x.snap.index, .int .u64 x.snap.term, .slice b2 x.snap.conf.voters.length d2, .slice b3 x.snap.conf.learners.length d3, .slice b1 x.snap.data.length d1]) rfl rfl rfl rfl ty37 rfl (hH) (hg3.sh) rfl rfl ?_
      refine RL.field rfl rfl rfl rfl fl76_5 rfl rfl ?_
      refine RL.store (i := 0) (j := 12) rfl rfl rfl ty37 rfl rfl hg3 rfl (hT) rfl (by first | (simp [Value.cells, Value.oneCell']; done) | simp [Value.cells, Value.oneCell', putL]) (by first | exact Nat.le_of_ble_eq_true rfl | (simp; done) | (simp; omega) | omega) ?_
      rintro w5 hg5 hax5
      refine ⟨trivial, ?_⟩
      refine RL.done ?_
      exact fun ac ha => ⟨[(2, ptr q2), (3, ptr q3)], ha.sub ⟨rfl, rfl, trivial⟩, _, _, rfl, put_same _ _ _, ⟨none, none, none, b1, b2, b3, 0, 0, 0, d1, d2, d3, (by simp only [itemCells, Item.plain, q4, if_true, show ¬ ((4 : Int) = 1) by decide, show ¬ ((4 : Int) = 2) by decide, show ¬ ((4 : Int) = 3) by decide, if_false, Entry.zero, Hard.zero]; rfl), r1, r2, (by simp only [Item.plain, q4, show ¬ ((4 : Int) = 1) by decide, if_false]; exact ⟨z1, z1, z2, nilB _, nilI _, nilI _⟩), (by simp only [Item.plain, q4, show ¬ ((4 : Int) = 2) by decide, if_false]; exact ⟨z1, z2, z1⟩), (by simp only [Item.plain, q4, show ¬ ((4 : Int) = 3) by decide, if_false]; exact z1), (by simp only [Item.plain, q4, if_true]; exact ⟨f1, f2, hup f3, hup f4, hup f5⟩)⟩, hg5, hx4.trans hax5⟩
    refine CW.skip ?_
    have hax5 := Aux.refl w3
    have hg5 := hg3
    have e : x.plain = ⟨x.kind, x.group, Entry.zero, Hard.zero, 0, Snap.zero⟩ := by simp only [Item.plain, q1, q2', q3', q4, if_false]
    exact fun ac ha => ⟨[(2, ptr q2), (3, ptr q3)], ha.sub ⟨rfl, rfl, trivial⟩, T, _, rfl, hT, (by rw [e]; exact RItem.bare s1 r1 r2), hg5, hx4.trans hax5⟩
  rintro E w7 ⟨T7, vs, rfl, hT7, hv7, hg7, hax7⟩
  obtain ⟨a1, a2, a3, b1, b2', b3, c1, c2, c3, d1, d2, d3, rfl, hv7'⟩ := id hv7
  generalize x.plain = y at *
  simp only [itemCells] at hT7
  refine CW.seq (CW.plain ?_)
  refine RL.loads (j := 0) (us := (itemCells y a1 a2 a3 b1 b2' b3 c1 c2 c3 d1 d2 d3)) rfl rfl rfl rfl ty76 rfl (Holds.of hT7) (hg7.1) rfl rfl ?_
  refine RL.store (i := 1) (j := 0) rfl rfl rfl ty76 rfl rfl hg7 rfl (if_pos rfl) rfl (by simp [itemCells, Value.cells, Value.oneCell']) (by decide) ?_
  rintro w9 hg9 hax9
  refine ⟨trivial, ?_⟩
  refine RL.done ?_
  exact CW.ret (ret (vs := [_]) ⟨_, _, _, rfl, rfl, loadVar_agg ty76 (put_same _ _ _) hg9.drop.1 rfl, rfl⟩ (Post.mk hle0 hg9.dropNext (hax7.trans hax9) ⟨_, rfl, hv7⟩))
end Go.Lw
