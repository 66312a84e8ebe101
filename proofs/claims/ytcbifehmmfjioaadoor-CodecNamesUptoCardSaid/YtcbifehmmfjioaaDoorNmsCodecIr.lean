/-
  Items are read, by the program and by the document; the same items.
-/
import Derived.Test.YtcbifehmmfjioaaDoorNmsCodecIt
namespace Go.Lw
open Go.Proofs
attribute [local irreducible] RL RA

def Hard.zero : Hard := ⟨0, 0, 0⟩
def Item.zero : Item := ⟨0, 0, Entry.zero, Hard.zero, 0, Snap.zero⟩
def rdHard (bs : List Int) (st : RS) : Hard × RS :=
  let t := rdUint bs st
  let v := rdInt bs t.2
  let c := rdUint bs v.2
  (⟨t.1, v.1, c.1⟩, c.2)
def itemBody (bs : List Int) (k g : Int) (st : RS) : Item × RS :=
  if k = 1 then (⟨k, g, (rdEntry bs st).1, Hard.zero, 0, Snap.zero⟩, (rdEntry bs st).2)
  else if k = 2 then (⟨k, g, Entry.zero, (rdHard bs st).1, 0, Snap.zero⟩, (rdHard bs st).2)
  else if k = 3 then (⟨k, g, Entry.zero, Hard.zero, (rdUint bs st).1, Snap.zero⟩, (rdUint bs st).2)
  else if k = 4 then (⟨k, g, Entry.zero, Hard.zero, 0, (rdSnap bs st).1⟩, (rdSnap bs st).2)
  else (⟨k, g, Entry.zero, Hard.zero, 0, Snap.zero⟩, st)
def doneOf (bs : List Int) (st : RS) : Int := if st.errno = 0 ∧ st.pos < bs.length then 15 else st.errno
def rdItem (bs : List Int) : Item × Int :=
  let k := rdKind bs ⟨0, none⟩ 5
  let g := rdUint bs k.2
  let r := itemBody bs k.1 g.1 g.2
  if doneOf bs r.2 ≠ 0 then (Item.zero, doneOf bs r.2) else (r.1, 0)

abbrev zItem : List Value := [.int .i64 0, .int .u64 0, .int .u64 0, .int .u64 0, .int .i64 0, nilSl, nilSl, nilSl, .int .u64 0, .int .i64 0, .int .u64 0, .int .u64 0, .int .u64 0, .int .u64 0, nilSl, nilSl, nilSl]
theorem RItem.bare (s : Res) {k g : Int} (r1 : rng .i64 k) (r2 : rng .u64 g) : RItem s [.int .i64 k, .int .u64 g, .int .u64 0, .int .u64 0, .int .i64 0, nilSl, nilSl, nilSl, .int .u64 0, .int .i64 0, .int .u64 0, .int .u64 0, .int .u64 0, .int .u64 0, nilSl, nilSl, nilSl] ⟨k, g, Entry.zero, Hard.zero, 0, Snap.zero⟩ := by
  have z1 : rng .u64 0 := by simp [rng]
  have z2 : rng .i64 0 := by simp [rng]
  exact ⟨none, none, none, none, none, none, 0, 0, 0, 0, 0, 0, rfl, r1, r2, ⟨z1, z1, z2, nilB s, nilI s, nilI s⟩, ⟨z1, z2, z1⟩, z1, z1, z1, nilB s, nilI s, nilI s⟩
theorem RItem.zero (s : Res) : RItem s zItem Item.zero := RItem.bare s (by simp [rng]) (by simp [rng])

set_option maxRecDepth 100000 in
theorem ReadItem_ct {w : World} {s r : Res} {os : List Res} {bs : List Int} {xa : Option Addr} {xc : Nat} (hg : Good w s os) (het : Et s) (hr : r = s ∨ r ∈ os) (hx : bs = [] ∨ ∃ ad, xa = some ad ∧ Row (RInt .u8) 1 r s ad bs) (hl : bs.length ≤ 140737488355328) :
    Calls Tryd.prog 28 #[.slice xa bs.length xc] w (Post w s os fun s' _ v => ∃ vs, v = .tuple #[.agg vs.toArray, .int .i64 (rdItem bs).2] ∧ RItem s' vs (rdItem bs).1) := by
  rcases e1 : rdKind bs ⟨0, none⟩ 5 with ⟨k, st1⟩
  rcases e2 : rdUint bs st1 with ⟨g, st2⟩
  refine enter (l := [.slice xa bs.length xc]) Tryd.func28 rfl Tryd.ntmps28 rfl ?_
  refine CW.seq (CW.plain ?_)
  refine RL.alloc rfl rfl rfl rfl ze76 hg ?_
  rintro b2 w0 hg0 hax0
  refine ⟨trivial, ?_⟩
  refine RL.pure rfl rfl rfl rfl ?_
  refine RL.done ?_
  refine CW.seq (CW.plain ?_)
  refine RL.pure rfl rfl rfl rfl ?_
  refine RL.call rfl rfl rfl rfl rfl ca15 (NewReader_ct hg0 (hr.imp id (List.mem_cons_of_mem _)) hx hl) ?_
  rintro v1 s1 A1 w1 hle1 hg1 hax1 ⟨p, rfl, hR1⟩
  refine ⟨trivial, ?_⟩
  refine RL.pure rfl rfl rfl rfl ?_
  refine RL.done ?_
  refine CW.seq (CW.plain ?_)
  refine RL.pure rfl rfl rfl rfl ?_
  refine RL.call rfl rfl rfl rfl rfl ca79 ((by have hh := RdKind_ct (most := 5) hg1 hR1; rw [e1] at hh; exact hh)) ?_
  rintro r2 s2 A2 w2 hle2 hg2 hax2 ⟨rfl, hk2, hR2⟩
  refine ⟨trivial, ?_⟩
  refine RL.build rfl rfl rfl rfl ze76 pl76 rfl rfl ?_
  refine RL.alloc rfl rfl rfl rfl ze76 hg2 ?_
  rintro b5 w3 hg3 hax3
  refine ⟨trivial, ?_⟩
  refine RL.store (i := 0) (j := 0) rfl rfl rfl ty76 rfl rfl hg3 rfl (if_pos rfl) rfl (by first | (simp [Value.cells, Value.oneCell']; done) | simp [Value.cells, Value.oneCell', putL]) (by first | exact Nat.le_of_ble_eq_true rfl | (simp; done) | (simp; omega) | omega) ?_
  rintro w4 hg4 hax4
  refine ⟨trivial, ?_⟩
  refine RL.done ?_
  have hg4 := Good.swap hg4
  have hle12 := hle1.trans hle2
  have hx4 := hax0.trans (hax1.trans (hax2.trans (hax3.trans hax4)))
  refine CW.seq (CW.plain ?_)
  refine RL.pure rfl rfl rfl rfl ?_
  refine RL.call rfl rfl rfl rfl rfl ca16 ((by have hh := RdUint_ct hg4 hR2; rw [e2] at hh; exact hh)) ?_
  rintro r5 s5 A5 w5 hle5 hg5 hax5 ⟨rfl, hk5, hR5⟩
  refine ⟨trivial, ?_⟩
  refine RL.field rfl rfl rfl rfl fl76_1 rfl rfl ?_
  refine RL.store (i := 1) rfl rfl rfl ty29 rfl rfl hg5 rfl (put_same _ _ _) rfl (by first | (simp [Value.cells, Value.oneCell']; done) | simp [Value.cells, Value.oneCell', putL]) (by first | exact Nat.le_of_ble_eq_true rfl | (simp; done) | (simp; omega) | omega) ?_
  rintro w6 hg6 hax6
  refine ⟨trivial, ?_⟩
  refine RL.done ?_
  have hle15 := hle12.trans hle5
  have hx6 := hx4.trans (hax5.trans hax6)
  have het := het.le hle15
  obtain ⟨T, hT, hg6⟩ : ∃ T, T b5 = some (.cells #[.int .i64 k, .int .u64 g, .int .u64 0, .int .u64 0, .int .i64 0, nilSl, nilSl, nilSl, .int .u64 0, .int .i64 0, .int .u64 0, .int .u64 0, .int .u64 0, .int .u64 0, nilSl, nilSl, nilSl] 76 (0, 0)) ∧ Good w6 s5 (A5 :: T :: Res.one b2 (.cells zItem.toArray 76) :: os) := ⟨_, put_same _ _ _, hg6⟩
  have hbare := RItem.bare s5 hk2 hk5
  have z1 : rng .u64 0 := by simp [rng]
  have z2 : rng .i64 0 := by simp [rng]
  refine CW.meet (fun E w' => ∃ s' A' T' vs, E = [(2, ptr b2), (4, ptr p), (5, ptr b5)] ∧ T' b5 = some (.cells vs.toArray 76 (0, 0)) ∧ RItem s' vs (itemBody bs k g st2).1 ∧ Good w' s' (A' :: T' :: Res.one b2 (.cells zItem.toArray 76) :: os) ∧ Le s5 s' ∧ Aux w w' ∧ RdObj s' A' p bs (itemBody bs k g st2).2) ?_ ?_
  · refine CW.seq (CW.plain ?_)
    refine RL.field rfl rfl rfl rfl fl76_0 rfl rfl ?_
    refine RL.load (j := 0) rfl rfl rfl rfl ty72 rfl (Holds.of hT) (hg6.drop.1) rfl ?_
    refine RL.done ?_
    refine CW.block (CW.seq (CW.plain ?_))
    refine RL.pure rfl rfl rfl rfl ?_
    refine RL.pure rfl rfl rfl rfl ?_
    refine RL.done ?_
    refine CW.eq rfl (fun q1 => ?_) (fun q1 => ?_)
    · refine CW.plain ?_
      refine RL.pure rfl rfl rfl rfl ?_
      refine RL.call rfl rfl rfl rfl rfl ca66 (RdEntry_ct hg6 hR5 hl) ?_
      rintro r7 s7 A7 w7 hle7 hg7 hax7 ⟨⟨us, rfl, a1, c1, a2, c2, a3, c3, rfl, e1, e2, e3, i1, i2, i3⟩, hR7⟩
      refine ⟨trivial, ?_⟩
      refine RL.field rfl rfl rfl rfl fl76_2 rfl rfl ?_
      refine RL.store (i := 1) (j := 2) rfl rfl rfl ty35 rfl rfl hg7 rfl (hT) rfl (by first | (simp [Value.cells, Value.oneCell']; done) | simp [Value.cells, Value.oneCell', putL]) (by first | exact Nat.le_of_ble_eq_true rfl | (simp; done) | (simp; omega) | omega) ?_
      rintro w8 hg8 hax8
      refine ⟨trivial, ?_⟩
      refine RL.done ?_
      rw [itemBody, if_pos q1]
      exact fun ac ha => ⟨[(2, ptr b2), (4, ptr p), (5, ptr b5)], ha.sub ⟨rfl, rfl, rfl, trivial⟩, s7, A7, _, _, rfl, put_same _ _ _, ⟨a1, a2, a3, none, none, none, c1, c2, c3, 0, 0, 0, rfl, hk2, hk5, ⟨e1, e2, e3, i1, i2, i3⟩, ⟨z1, z2, z1⟩, z1, z1, z1, nilB _, nilI _, nilI _⟩, hg8, hle7, hx6.trans (hax7.trans hax8), hR7⟩
    refine CW.seq (CW.plain ?_)
    refine RL.pure rfl rfl rfl rfl ?_
    refine RL.pure rfl rfl rfl rfl ?_
    refine RL.done ?_
    refine CW.eq rfl (fun q2 => ?_) (fun q2 => ?_)
    · refine CW.seq (CW.plain ?_)
      refine RL.pure rfl rfl rfl rfl ?_
      refine RL.call rfl rfl rfl rfl rfl ca16 (RdUint_ct hg6 hR5) ?_
      rintro r7 s7 A7 w7 hle7 hg7 hax7 ⟨rfl, h1, hR7⟩
      refine ⟨trivial, ?_⟩
      refine RL.field rfl rfl rfl rfl fl76_3 rfl rfl ?_
      refine RL.field rfl rfl rfl rfl fl74_0 rfl rfl ?_
      refine RL.store (i := 1) (j := 8) rfl rfl rfl ty29 rfl rfl hg7 rfl (hT) rfl (by first | (simp [Value.cells, Value.oneCell']; done) | simp [Value.cells, Value.oneCell', putL]) (by first | exact Nat.le_of_ble_eq_true rfl | (simp; done) | (simp; omega) | omega) ?_
      rintro w8 hg8 hax8
      refine ⟨trivial, ?_⟩
      refine RL.done ?_
      refine CW.seq (CW.plain ?_)
      refine RL.pure rfl rfl rfl rfl ?_
      refine RL.call rfl rfl rfl rfl rfl ca56 (RdInt_ct hg8 hR7) ?_
      rintro r9 s9 A9 w9 hle9 hg9 hax9 ⟨rfl, h2, hR9⟩
      refine ⟨trivial, ?_⟩
      refine RL.field rfl rfl rfl rfl fl76_3 rfl rfl ?_
      refine RL.field rfl rfl rfl rfl fl74_1 rfl rfl ?_
      refine RL.store (i := 1) (j := 9) rfl rfl rfl ty3 rfl rfl hg9 rfl (put_same _ _ _) rfl (by first | (simp [Value.cells, Value.oneCell']; done) | simp [Value.cells, Value.oneCell', putL]) (by first | exact Nat.le_of_ble_eq_true rfl | (simp; done) | (simp; omega) | omega) ?_
      rintro w10 hg10 hax10
      refine ⟨trivial, ?_⟩
      refine RL.done ?_
      refine CW.plain ?_
      refine RL.pure rfl rfl rfl rfl ?_
      refine RL.call rfl rfl rfl rfl rfl ca16 (RdUint_ct hg10 hR9) ?_
      rintro r11 s11 A11 w11 hle11 hg11 hax11 ⟨rfl, h3, hR11⟩
      refine ⟨trivial, ?_⟩
      refine RL.field rfl rfl rfl rfl fl76_3 rfl rfl ?_
      refine RL.field rfl rfl rfl rfl fl74_2 rfl rfl ?_
      refine RL.store (i := 1) (j := 10) rfl rfl rfl ty29 rfl rfl hg11 rfl (put_same _ _ _) rfl (by first | (simp [Value.cells, Value.oneCell']; done) | simp [Value.cells, Value.oneCell', putL]) (by first | exact Nat.le_of_ble_eq_true rfl | (simp; done) | (simp; omega) | omega) ?_
      rintro w12 hg12 hax12
      refine ⟨trivial, ?_⟩
      refine RL.done ?_
      rw [itemBody, if_neg q1, if_pos q2]
      exact fun ac ha => ⟨[(2, ptr b2), (4, ptr p), (5, ptr b5)], ha.sub ⟨rfl, rfl, rfl, trivial⟩, s11, A11, _, _, rfl, put_same _ _ _, ⟨none, none, none, none, none, none, 0, 0, 0, 0, 0, 0, rfl, hk2, hk5, ⟨z1, z1, z2, nilB _, nilI _, nilI _⟩, ⟨h1, h2, h3⟩, z1, z1, z1, nilB _, nilI _, nilI _⟩, hg12, hle7.trans (hle9.trans hle11), hx6.trans (hax7.trans (hax8.trans (hax9.trans (hax10.trans (hax11.trans hax12))))), hR11⟩
    refine CW.seq (CW.plain ?_)
    refine RL.pure rfl rfl rfl rfl ?_
    refine RL.pure rfl rfl rfl rfl ?_
    refine RL.done ?_
    refine CW.eq rfl (fun q3 => ?_) (fun q3 => ?_)
    · refine CW.plain ?_
      refine RL.pure rfl rfl rfl rfl ?_
      refine RL.call rfl rfl rfl rfl rfl ca16 (RdUint_ct hg6 hR5) ?_
      rintro r7 s7 A7 w7 hle7 hg7 hax7 ⟨rfl, h1, hR7⟩
      refine ⟨trivial, ?_⟩
      refine RL.field rfl rfl rfl rfl fl76_4 rfl rfl ?_
      refine RL.store (i := 1) (j := 11) rfl rfl rfl ty29 rfl rfl hg7 rfl (hT) rfl (by first | (simp [Value.cells, Value.oneCell']; done) | simp [Value.cells, Value.oneCell', putL]) (by first | exact Nat.le_of_ble_eq_true rfl | (simp; done) | (simp; omega) | omega) ?_
      rintro w8 hg8 hax8
      refine ⟨trivial, ?_⟩
      refine RL.done ?_
      rw [itemBody, if_neg q1, if_neg q2, if_pos q3]
      exact fun ac ha => ⟨[(2, ptr b2), (4, ptr p), (5, ptr b5)], ha.sub ⟨rfl, rfl, rfl, trivial⟩, s7, A7, _, _, rfl, put_same _ _ _, ⟨none, none, none, none, none, none, 0, 0, 0, 0, 0, 0, rfl, hk2, hk5, ⟨z1, z1, z2, nilB _, nilI _, nilI _⟩, ⟨z1, z2, z1⟩, h1, z1, z1, nilB _, nilI _, nilI _⟩, hg8, hle7, hx6.trans (hax7.trans hax8), hR7⟩
    refine CW.seq (CW.plain ?_)
    refine RL.pure rfl rfl rfl rfl ?_
    refine RL.pure rfl rfl rfl rfl ?_
    refine RL.done ?_
    refine CW.eq rfl (fun q4 => ?_) (fun q4 => ?_)
    · refine CW.plain ?_
      refine RL.pure rfl rfl rfl rfl ?_
      refine RL.call rfl rfl rfl rfl rfl ca69 (RdSnap_ct hg6 hR5 hl) ?_
      rintro r7 s7 A7 w7 hle7 hg7 hax7 ⟨⟨us, rfl, a1, c1, a2, c2, a3, c3, rfl, e1, e2, i1, i2, i3⟩, hR7⟩
      refine ⟨trivial, ?_⟩
      refine RL.field rfl rfl rfl rfl fl76_5 rfl rfl ?_
      refine RL.store (i := 1) (j := 12) rfl rfl rfl ty37 rfl rfl hg7 rfl (hT) rfl (by first | (simp [Value.cells, Value.oneCell']; done) | simp [Value.cells, Value.oneCell', putL]) (by first | exact Nat.le_of_ble_eq_true rfl | (simp; done) | (simp; omega) | omega) ?_
      rintro w8 hg8 hax8
      refine ⟨trivial, ?_⟩
      refine RL.done ?_
      rw [itemBody, if_neg q1, if_neg q2, if_neg q3, if_pos q4]
      exact fun ac ha => ⟨[(2, ptr b2), (4, ptr p), (5, ptr b5)], ha.sub ⟨rfl, rfl, rfl, trivial⟩, s7, A7, _, _, rfl, put_same _ _ _, ⟨none, none, none, a1, a2, a3, 0, 0, 0, c1, c2, c3, rfl, hk2, hk5, ⟨z1, z1, z2, nilB _, nilI _, nilI _⟩, ⟨z1, z2, z1⟩, z1, e1, e2, i1, i2, i3⟩, hg8, hle7, hx6.trans (hax7.trans hax8), hR7⟩
    refine CW.skip ?_
    rw [itemBody, if_neg q1, if_neg q2, if_neg q3, if_neg q4]
    exact fun ac ha => ⟨[(2, ptr b2), (4, ptr p), (5, ptr b5)], ha.sub ⟨rfl, rfl, rfl, trivial⟩, s5, A5, T, _, rfl, hT, hbare, hg6, Le.refl _, hx6, hR5⟩
  rintro E w7 ⟨s7, A7, T7, vs, rfl, hT7, hv7, hg7, hle7, hax7, hR7⟩
  have hrd : rdItem bs = if doneOf bs (itemBody bs k g st2).2 ≠ 0 then (Item.zero, doneOf bs (itemBody bs k g st2).2) else ((itemBody bs k g st2).1, 0) := by simp only [rdItem, e1, e2]
  rw [hrd]
  generalize (itemBody bs k g st2).1 = x at hv7 ⊢
  generalize (itemBody bs k g st2).2 = st7 at hR7 ⊢
  refine CW.seq (CW.seq (CW.plain ?_))
  refine RL.pure rfl rfl rfl rfl ?_
  refine RL.callV rfl rfl rfl rfl rfl ca17 (RDone_ct hg7 (het.le hle7) hR7) ?_
  rintro v8 w8 hg8 hax8 rfl
  refine ⟨trivial, ?_⟩
  refine RL.pure rfl rfl rfl rfl ?_
  refine RL.done ?_
  have hdn : (if st7.errno = 0 ∧ st7.pos < (bs.length : Int) then (15 : Int) else st7.errno) = doneOf bs st7 := rfl
  rw [hdn]
  refine CW.seq (CW.plain ?_)
  refine RL.pure rfl rfl rfl rfl ?_
  refine RL.pure rfl rfl rfl rfl ?_
  refine RL.done ?_
  refine CW.ne rfl (fun h => ?_) (fun h => ?_)
  · refine CW.seq (CW.plain ?_)
    refine RL.build rfl rfl rfl rfl ze76 pl76 rfl rfl ?_
    refine RL.pure rfl rfl rfl rfl ?_
    refine RL.store (i := 2) (j := 0) rfl rfl rfl ty76 rfl rfl hg8 rfl (if_pos rfl) rfl (by first | (simp [Value.cells, Value.oneCell']; done) | simp [Value.cells, Value.oneCell', putL]) (by first | exact Nat.le_of_ble_eq_true rfl | (simp; done) | (simp; omega) | omega) ?_
    rintro w9 hg9 hax9
    refine ⟨trivial, ?_⟩
    refine RL.pure rfl rfl rfl rfl ?_
    refine RL.done ?_
    rw [if_pos h]
    exact CW.ret (ret (vs := [_, _]) ⟨_, _, _, rfl, rfl, loadVar_agg ty76 (put_same _ _ _) hg9.drop.drop.1 rfl, _, _, rfl, rfl, rfl⟩ (Post.mk (hle15.trans hle7) hg9.dropNext.dropNext (hax7.trans (hax8.trans hax9)) ⟨_, rfl, RItem.zero _⟩))
  · obtain ⟨a1, a2, a3, b1, b2', b3, c1, c2, c3, d1, d2, d3, rfl, hv7'⟩ := id hv7
    refine CW.skip (CW.seq (CW.plain ?_))
    simp only [itemCells] at hT7
    refine RL.loads (j := 0) (us := (itemCells x a1 a2 a3 b1 b2' b3 c1 c2 c3 d1 d2 d3)) rfl rfl rfl rfl ty76 rfl (Holds.of hT7) (hg8.drop.1) rfl rfl ?_
    refine RL.store (i := 2) (j := 0) rfl rfl rfl ty76 rfl rfl hg8 rfl (if_pos rfl) rfl (by simp [itemCells, Value.cells, Value.oneCell']) (by decide) ?_
    rintro w9 hg9 hax9
    refine ⟨trivial, ?_⟩
    refine RL.pure rfl rfl rfl rfl ?_
    refine RL.done ?_
    rw [if_neg (by simpa using h)]
    exact CW.ret (ret (vs := [_, _]) ⟨_, _, _, rfl, rfl, loadVar_agg ty76 (put_same _ _ _) hg9.drop.drop.1 rfl, _, _, rfl, rfl, rfl⟩ (Post.mk (hle15.trans hle7) hg9.dropNext.dropNext (hax7.trans (hax8.trans hax9)) ⟨_, rfl, hv7⟩))

theorem failAt_errno {st : RS} {e k : Int} (he : e ≠ 0) : (st.failAt e k).errno = if st.err.isNone then e else st.errno := by
  cases hs : st.err with
  | none => simp [RS.failAt, RS.errno, hs, he]
  | some q => simp [RS.failAt, RS.errno, hs]
theorem failAt_some {st : RS} {e k : Int} (he : e ≠ 0) : (st.failAt e k).err.isNone = false := by
  cases hs : st.err with
  | none => simp [RS.failAt, hs, he]
  | some q => simp [RS.failAt, hs]
theorem rdUint_some {bs : List Int} {st : RS} (h : st.err.isNone = false) : rdUint bs st = (0, st) := by
  cases hs : st.err with
  | none => rw [hs] at h; cases h
  | some q => simp [rdUint, hs]
theorem rdInt_zero {bs : List Int} {st : RS} (h : (rdInt bs st).2.err.isNone = false) : (rdInt bs st).1 = 0 := by
  have h' : (rdUint bs st).2.err.isNone = false := h
  have hz : (rdUint bs st).1 = 0 := by
    cases hs : st.err with
    | some q => simp [rdUint, hs]
    | none =>
      unfold rdUint at h' ⊢
      simp only [hs] at h' ⊢
      cases hd : decF 0 0 (bs.drop st.pos.toNat) with
      | inl e => rfl
      | inr q => rw [hd] at h'; cases h'
  simp [rdInt, hz]
theorem errno_some {st : RS} (hn : ∀ e k, st.err = some (e, k) → e ≠ 0) (h : st.err.isNone = false) : st.errno ≠ 0 := by
  cases hs : st.err with
  | none => rw [hs] at h; cases h
  | some q => simpa [RS.errno, hs] using hn q.1 q.2 hs
theorem rdUint_nz {bs : List Int} {st : RS} (hn : ∀ e k, st.err = some (e, k) → e ≠ 0) : ∀ e k, (rdUint bs st).2.err = some (e, k) → e ≠ 0 := by
  intro e k h
  cases hs : st.err with
  | some q => simp only [rdUint, hs] at h; rw [hs] at hn; exact hn e k h
  | none =>
    unfold rdUint at h
    simp only [hs] at h
    cases hd : decF 0 0 (bs.drop st.pos.toNat) with
    | inr q => rw [hd] at h; cases h
    | inl x =>
      rw [hd] at h
      by_cases hx : x = 0
      · simp [RS.fail, RS.failAt, hs, hx] at h
      · simp [RS.fail, RS.failAt, hs, hx] at h
        rw [← h.1]; exact hx
theorem rdItem_raw {bs : List Int} :
    rdItem bs = if doneOf bs (itemBody bs (rdInt bs ⟨0, none⟩).1 (rdUint bs (if (rdInt bs ⟨0, none⟩).1 < 1 ∨ 5 < (rdInt bs ⟨0, none⟩).1 then (rdInt bs ⟨0, none⟩).2.fail 16 else (rdInt bs ⟨0, none⟩).2)).1 (rdUint bs (if (rdInt bs ⟨0, none⟩).1 < 1 ∨ 5 < (rdInt bs ⟨0, none⟩).1 then (rdInt bs ⟨0, none⟩).2.fail 16 else (rdInt bs ⟨0, none⟩).2)).2).2 ≠ 0
      then (Item.zero, doneOf bs (itemBody bs (rdInt bs ⟨0, none⟩).1 (rdUint bs (if (rdInt bs ⟨0, none⟩).1 < 1 ∨ 5 < (rdInt bs ⟨0, none⟩).1 then (rdInt bs ⟨0, none⟩).2.fail 16 else (rdInt bs ⟨0, none⟩).2)).1 (rdUint bs (if (rdInt bs ⟨0, none⟩).1 < 1 ∨ 5 < (rdInt bs ⟨0, none⟩).1 then (rdInt bs ⟨0, none⟩).2.fail 16 else (rdInt bs ⟨0, none⟩).2)).2).2)
      else ((itemBody bs (rdInt bs ⟨0, none⟩).1 (rdUint bs (if (rdInt bs ⟨0, none⟩).1 < 1 ∨ 5 < (rdInt bs ⟨0, none⟩).1 then (rdInt bs ⟨0, none⟩).2.fail 16 else (rdInt bs ⟨0, none⟩).2)).1 (rdUint bs (if (rdInt bs ⟨0, none⟩).1 < 1 ∨ 5 < (rdInt bs ⟨0, none⟩).1 then (rdInt bs ⟨0, none⟩).2.fail 16 else (rdInt bs ⟨0, none⟩).2)).2).1, 0) := by
  have hz := rdInt_zero (bs := bs) (st := ⟨0, none⟩)
  have hnz : ∀ e k, (rdInt bs ⟨0, none⟩).2.err = some (e, k) → e ≠ 0 := rdUint_nz (fun e k h => by cases h)
  simp only [rdItem, rdKind]
  generalize rdInt bs ⟨0, none⟩ = u at hz hnz ⊢
  obtain ⟨k, st⟩ := u
  simp only at hz hnz ⊢
  by_cases hb : k < 1 ∨ 5 < k
  · simp only [if_pos hb, failAt_some (show (16 : Int) ≠ 0 by decide), Bool.false_eq_true, if_false, RS.fail]
    rw [rdUint_some (failAt_some (by decide)), rdUint_some (failAt_some (by decide))]
    have hi : ∀ (g : Int) (z : RS), itemBody bs k g z = (⟨k, g, Entry.zero, Hard.zero, 0, Snap.zero⟩, z) := fun g z => by
      rw [itemBody, if_neg (by omega), if_neg (by omega), if_neg (by omega), if_neg (by omega)]
    have h0 : ∀ (g : Int) (z : RS), itemBody bs 0 g z = (⟨0, g, Entry.zero, Hard.zero, 0, Snap.zero⟩, z) := fun g z => by
      rw [itemBody, if_neg (by omega), if_neg (by omega), if_neg (by omega), if_neg (by omega)]
    rw [hi, h0]
    have hne : ∀ p : Int, (st.failAt 16 p).errno ≠ 0 := fun p => by
      rw [failAt_errno (by decide)]
      split
      · decide
      · rename_i h
        exact errno_some hnz (by cases hq : st.err.isNone with | false => rfl | true => exact absurd hq h)
    have hd : ∀ p : Int, doneOf bs (st.failAt 16 p) = (st.failAt 16 p).errno := fun p => by rw [doneOf, if_neg fun h => hne p h.1]
    have heq : ∀ p q : Int, (st.failAt 16 p).errno = (st.failAt 16 q).errno := fun p q => by rw [failAt_errno (by decide), failAt_errno (by decide)]
    simp only [hd]
    rw [if_pos (hne _), if_pos (hne _), heq]
  · have hn : st.err.isNone = true := by
      cases hh : st.err.isNone with
      | true => rfl
      | false => have := hz hh; omega
    simp only [if_neg hb, hn, if_true]

set_option maxRecDepth 100000 in
theorem rReadItem_ct {w : World} {s : Res} {os : List Res} {bs : List Int} {xa : Option Addr} {xc : Nat} (hg : Good w s os) (hx : Imm (RInt .u8) 1 s xa xc bs) (hl : bs.length ≤ 140737488355328) :
    Calls Tryd.prog 29 #[.slice xa bs.length xc] w (Post w s os fun s' _ v => ∃ vs, v = .tuple #[.agg vs.toArray, .int .i64 (rdItem bs).2] ∧ RItem s' vs (rdItem bs).1) := by
  rcases e1 : rdInt bs ⟨0, none⟩ with ⟨k, st0⟩
  obtain ⟨st1, hst⟩ : ∃ z, z = if k < 1 ∨ 5 < k then st0.fail 16 else st0 := ⟨_, rfl⟩
  rcases e2 : rdUint bs st1 with ⟨g, st2⟩
  refine enter (l := [.slice xa bs.length xc]) Tryd.func29 rfl Tryd.ntmps29 rfl ?_
  refine CW.seq (CW.plain ?_)
  refine RL.alloc rfl rfl rfl rfl ze76 hg ?_
  rintro b2 w0 hg0 hax0
  refine ⟨trivial, ?_⟩
  refine RL.pure rfl rfl rfl rfl ?_
  refine RL.done ?_
  refine CW.seq (CW.plain ?_)
  refine RL.pure rfl rfl rfl rfl ?_
  refine RL.build rfl rfl rfl rfl ze65 pl65 rfl rfl ?_
  refine RL.box rfl rfl rfl rfl rfl hg0 ?_
  rintro p w1 hg1 hax1
  refine ⟨trivial, ?_⟩
  refine RL.pure rfl rfl rfl rfl ?_
  refine RL.done ?_
  have hR1 : RrObj s (Res.one p (.cells #[.slice xa bs.length xc, .int .i64 0, .int .i64 0, .int .i64 0] 65)) p bs ⟨0, none⟩ := ⟨Int.le_refl _, by simp, xa, xc, 0, if_pos rfl, hx, fun e k h => (nomatch h), fun _ => rfl⟩
  refine CW.seq (CW.plain ?_)
  refine RL.pure rfl rfl rfl rfl ?_
  refine RL.call rfl rfl rfl rfl rfl ca57 ((by have hh := RrInt_ct hg1 hR1; rw [e1] at hh; exact hh)) ?_
  rintro r2 s2 A2 w2 hle2 hg2 hax2 ⟨rfl, hk2, hR2⟩
  refine ⟨trivial, ?_⟩
  refine RL.build rfl rfl rfl rfl ze76 pl76 rfl rfl ?_
  refine RL.alloc rfl rfl rfl rfl ze76 hg2 ?_
  rintro b5 w3 hg3 hax3
  refine ⟨trivial, ?_⟩
  refine RL.store (i := 0) (j := 0) rfl rfl rfl ty76 rfl rfl hg3 rfl (if_pos rfl) rfl (by first | (simp [Value.cells, Value.oneCell']; done) | simp [Value.cells, Value.oneCell', putL]) (by first | exact Nat.le_of_ble_eq_true rfl | (simp; done) | (simp; omega) | omega) ?_
  rintro w4 hg4 hax4
  refine ⟨trivial, ?_⟩
  refine RL.done ?_
  have hx4 := hax0.trans (hax1.trans (hax2.trans (hax3.trans hax4)))
  obtain ⟨T, hT, hg4⟩ : ∃ T, T b5 = some (.cells #[.int .i64 k, .int .u64 0, .int .u64 0, .int .u64 0, .int .i64 0, nilSl, nilSl, nilSl, .int .u64 0, .int .i64 0, .int .u64 0, .int .u64 0, .int .u64 0, .int .u64 0, nilSl, nilSl, nilSl] 76 (0, 0)) ∧ Good w4 s2 (A2 :: T :: Res.one b2 (.cells zItem.toArray 76) :: os) := ⟨_, put_same _ _ _, Good.swap hg4⟩
  refine CW.meet (fun E w' => ∃ s' A', E = [(2, ptr b2), (4, ptr p), (5, ptr b5)] ∧ Good w' s' (A' :: T :: Res.one b2 (.cells zItem.toArray 76) :: os) ∧ Le s s' ∧ Aux w w' ∧ RrObj s' A' p bs st1) ?_ ?_
  · refine CW.seq (CW.plain ?_)
    refine RL.field rfl rfl rfl rfl fl76_0 rfl rfl ?_
    refine RL.load (j := 0) rfl rfl rfl rfl ty72 rfl (Holds.of hT) (hg4.drop.1) rfl ?_
    refine RL.pure rfl rfl rfl rfl ?_
    refine RL.part 15 rfl (fun hc => ?_) (fun hc => ?_)
    · have hc : k < 1 := by simpa using hc
      refine RL.pure rfl rfl rfl rfl ?_
      refine RL.pass rfl rfl rfl ?_
      refine RL.pass rfl rfl rfl ?_
      refine RL.pass rfl rfl rfl ?_
      refine RL.pure rfl rfl rfl rfl ?_
      refine RL.done ?_
      refine CW.yes rfl (CW.plain ?_)
      refine RL.pure rfl rfl rfl rfl ?_
      refine RL.call rfl rfl rfl rfl rfl ca74 (rFail_ct hg4 hR2 (by simp [rng])) ?_
      rintro r5 s5 A5 w5 hle5 hg5 hax5 ⟨_, hR5⟩
      refine ⟨trivial, ?_⟩
      refine RL.done ?_
      rw [hst, if_pos (.inl hc)]
      exact fun ac ha => ⟨[(2, ptr b2), (4, ptr p), (5, ptr b5)], ha.sub ⟨rfl, rfl, rfl, trivial⟩, s5, A5, rfl, hg5, hle2.trans hle5, hx4.trans hax5, hR5⟩
    · have hc : ¬ k < 1 := by simpa using hc
      refine RL.pure rfl rfl rfl rfl ?_
      refine RL.field rfl rfl rfl rfl fl76_0 rfl rfl ?_
      refine RL.load (j := 0) rfl rfl rfl rfl ty72 rfl (Holds.of hT) (hg4.drop.1) rfl ?_
      refine RL.pure rfl rfl rfl rfl ?_
      refine RL.pure rfl rfl rfl rfl ?_
      refine RL.done ?_
      refine CW.test rfl (fun hd => ?_) (fun hd => ?_)
      · refine CW.plain ?_
        refine RL.pure rfl rfl rfl rfl ?_
        refine RL.call rfl rfl rfl rfl rfl ca74 (rFail_ct hg4 hR2 (by simp [rng])) ?_
        rintro r5 s5 A5 w5 hle5 hg5 hax5 ⟨_, hR5⟩
        refine ⟨trivial, ?_⟩
        refine RL.done ?_
        rw [hst, if_pos (.inr hd)]
        exact fun ac ha => ⟨[(2, ptr b2), (4, ptr p), (5, ptr b5)], ha.sub ⟨rfl, rfl, rfl, trivial⟩, s5, A5, rfl, hg5, hle2.trans hle5, hx4.trans hax5, hR5⟩
      · refine CW.skip ?_
        rw [hst, if_neg (fun z => z.elim hc hd)]
        exact fun ac ha => ⟨[(2, ptr b2), (4, ptr p), (5, ptr b5)], ha.sub ⟨rfl, rfl, rfl, trivial⟩, s2, A2, rfl, hg4, hle2, hx4, hR2⟩
  clear hx4 hg4 hR2
  rintro E w4 ⟨s4, A4, rfl, hg4, hle4, hx4, hR4⟩
  refine CW.seq (CW.plain ?_)
  refine RL.pure rfl rfl rfl rfl ?_
  refine RL.call rfl rfl rfl rfl rfl ca55 ((by have hh := RrUint_ct hg4 hR4; rw [e2] at hh; exact hh)) ?_
  rintro r5 s5 A5 w5 hle5 hg5 hax5 ⟨rfl, hk5, hR5⟩
  refine ⟨trivial, ?_⟩
  refine RL.field rfl rfl rfl rfl fl76_1 rfl rfl ?_
  refine RL.store (i := 1) rfl rfl rfl ty29 rfl rfl hg5 rfl (hT) rfl (by first | (simp [Value.cells, Value.oneCell']; done) | simp [Value.cells, Value.oneCell', putL]) (by first | exact Nat.le_of_ble_eq_true rfl | (simp; done) | (simp; omega) | omega) ?_
  rintro w6 hg6 hax6
  refine ⟨trivial, ?_⟩
  refine RL.done ?_
  have hle15 := hle4.trans hle5
  have hx6 := hx4.trans (hax5.trans hax6)
  clear hT
  obtain ⟨T, hT, hg6⟩ : ∃ T, T b5 = some (.cells #[.int .i64 k, .int .u64 g, .int .u64 0, .int .u64 0, .int .i64 0, nilSl, nilSl, nilSl, .int .u64 0, .int .i64 0, .int .u64 0, .int .u64 0, .int .u64 0, .int .u64 0, nilSl, nilSl, nilSl] 76 (0, 0)) ∧ Good w6 s5 (A5 :: T :: Res.one b2 (.cells zItem.toArray 76) :: os) := ⟨_, put_same _ _ _, hg6⟩
  have hbare := RItem.bare s5 hk2 hk5
  have z1 : rng .u64 0 := by simp [rng]
  have z2 : rng .i64 0 := by simp [rng]
  refine CW.meet (fun E w' => ∃ s' A' T' vs, E = [(2, ptr b2), (4, ptr p), (5, ptr b5)] ∧ T' b5 = some (.cells vs.toArray 76 (0, 0)) ∧ RItem s' vs (itemBody bs k g st2).1 ∧ Good w' s' (A' :: T' :: Res.one b2 (.cells zItem.toArray 76) :: os) ∧ Le s5 s' ∧ Aux w w' ∧ RrObj s' A' p bs (itemBody bs k g st2).2) ?_ ?_
  · refine CW.seq (CW.plain ?_)
    refine RL.field rfl rfl rfl rfl fl76_0 rfl rfl ?_
    refine RL.load (j := 0) rfl rfl rfl rfl ty72 rfl (Holds.of hT) (hg6.drop.1) rfl ?_
    refine RL.done ?_
    refine CW.block (CW.seq (CW.plain ?_))
    refine RL.pure rfl rfl rfl rfl ?_
    refine RL.pure rfl rfl rfl rfl ?_
    refine RL.done ?_
    refine CW.eq rfl (fun q1 => ?_) (fun q1 => ?_)
    · refine CW.plain ?_
      refine RL.pure rfl rfl rfl rfl ?_
      refine RL.call rfl rfl rfl rfl rfl ca67 (RrEntry_ct hg6 hR5 hl) ?_
      rintro r7 s7 A7 w7 hle7 hg7 hax7 ⟨⟨us, rfl, a1, c1, a2, c2, a3, c3, rfl, e1, e2, e3, i1, i2, i3⟩, hR7⟩
      refine ⟨trivial, ?_⟩
      refine RL.field rfl rfl rfl rfl fl76_2 rfl rfl ?_
      refine RL.store (i := 1) (j := 2) rfl rfl rfl ty35 rfl rfl hg7 rfl (hT) rfl (by first | (simp [Value.cells, Value.oneCell']; done) | simp [Value.cells, Value.oneCell', putL]) (by first | exact Nat.le_of_ble_eq_true rfl | (simp; done) | (simp; omega) | omega) ?_
      rintro w8 hg8 hax8
      refine ⟨trivial, ?_⟩
      refine RL.done ?_
      rw [itemBody, if_pos q1]
      exact fun ac ha => ⟨[(2, ptr b2), (4, ptr p), (5, ptr b5)], ha.sub ⟨rfl, rfl, rfl, trivial⟩, s7, A7, _, _, rfl, put_same _ _ _, ⟨a1, a2, a3, none, none, none, c1, c2, c3, 0, 0, 0, rfl, hk2, hk5, ⟨e1, e2, e3, i1, i2, i3⟩, ⟨z1, z2, z1⟩, z1, z1, z1, nilB _, nilI _, nilI _⟩, hg8, hle7, hx6.trans (hax7.trans hax8), hR7⟩
    refine CW.seq (CW.plain ?_)
    refine RL.pure rfl rfl rfl rfl ?_
    refine RL.pure rfl rfl rfl rfl ?_
    refine RL.done ?_
    refine CW.eq rfl (fun q2 => ?_) (fun q2 => ?_)
    · refine CW.seq (CW.plain ?_)
      refine RL.pure rfl rfl rfl rfl ?_
      refine RL.call rfl rfl rfl rfl rfl ca55 (RrUint_ct hg6 hR5) ?_
      rintro r7 s7 A7 w7 hle7 hg7 hax7 ⟨rfl, h1, hR7⟩
      refine ⟨trivial, ?_⟩
      refine RL.field rfl rfl rfl rfl fl76_3 rfl rfl ?_
      refine RL.field rfl rfl rfl rfl fl74_0 rfl rfl ?_
      refine RL.store (i := 1) (j := 8) rfl rfl rfl ty29 rfl rfl hg7 rfl (hT) rfl (by first | (simp [Value.cells, Value.oneCell']; done) | simp [Value.cells, Value.oneCell', putL]) (by first | exact Nat.le_of_ble_eq_true rfl | (simp; done) | (simp; omega) | omega) ?_
      rintro w8 hg8 hax8
      refine ⟨trivial, ?_⟩
      refine RL.done ?_
      refine CW.seq (CW.plain ?_)
      refine RL.pure rfl rfl rfl rfl ?_
      refine RL.call rfl rfl rfl rfl rfl ca57 (RrInt_ct hg8 hR7) ?_
      rintro r9 s9 A9 w9 hle9 hg9 hax9 ⟨rfl, h2, hR9⟩
      refine ⟨trivial, ?_⟩
      refine RL.field rfl rfl rfl rfl fl76_3 rfl rfl ?_
      refine RL.field rfl rfl rfl rfl fl74_1 rfl rfl ?_
      refine RL.store (i := 1) (j := 9) rfl rfl rfl ty3 rfl rfl hg9 rfl (put_same _ _ _) rfl (by first | (simp [Value.cells, Value.oneCell']; done) | simp [Value.cells, Value.oneCell', putL]) (by first | exact Nat.le_of_ble_eq_true rfl | (simp; done) | (simp; omega) | omega) ?_
      rintro w10 hg10 hax10
      refine ⟨trivial, ?_⟩
      refine RL.done ?_
      refine CW.plain ?_
      refine RL.pure rfl rfl rfl rfl ?_
      refine RL.call rfl rfl rfl rfl rfl ca55 (RrUint_ct hg10 hR9) ?_
      rintro r11 s11 A11 w11 hle11 hg11 hax11 ⟨rfl, h3, hR11⟩
      refine ⟨trivial, ?_⟩
      refine RL.field rfl rfl rfl rfl fl76_3 rfl rfl ?_
      refine RL.field rfl rfl rfl rfl fl74_2 rfl rfl ?_
      refine RL.store (i := 1) (j := 10) rfl rfl rfl ty29 rfl rfl hg11 rfl (put_same _ _ _) rfl (by first | (simp [Value.cells, Value.oneCell']; done) | simp [Value.cells, Value.oneCell', putL]) (by first | exact Nat.le_of_ble_eq_true rfl | (simp; done) | (simp; omega) | omega) ?_
      rintro w12 hg12 hax12
      refine ⟨trivial, ?_⟩
      refine RL.done ?_
      rw [itemBody, if_neg q1, if_pos q2]
      exact fun ac ha => ⟨[(2, ptr b2), (4, ptr p), (5, ptr b5)], ha.sub ⟨rfl, rfl, rfl, trivial⟩, s11, A11, _, _, rfl, put_same _ _ _, ⟨none, none, none, none, none, none, 0, 0, 0, 0, 0, 0, rfl, hk2, hk5, ⟨z1, z1, z2, nilB _, nilI _, nilI _⟩, ⟨h1, h2, h3⟩, z1, z1, z1, nilB _, nilI _, nilI _⟩, hg12, hle7.trans (hle9.trans hle11), hx6.trans (hax7.trans (hax8.trans (hax9.trans (hax10.trans (hax11.trans hax12))))), hR11⟩
    refine CW.seq (CW.plain ?_)
    refine RL.pure rfl rfl rfl rfl ?_
    refine RL.pure rfl rfl rfl rfl ?_
    refine RL.done ?_
    refine CW.eq rfl (fun q3 => ?_) (fun q3 => ?_)
    · refine CW.plain ?_
      refine RL.pure rfl rfl rfl rfl ?_
      refine RL.call rfl rfl rfl rfl rfl ca55 (RrUint_ct hg6 hR5) ?_
      rintro r7 s7 A7 w7 hle7 hg7 hax7 ⟨rfl, h1, hR7⟩
      refine ⟨trivial, ?_⟩
      refine RL.field rfl rfl rfl rfl fl76_4 rfl rfl ?_
      refine RL.store (i := 1) (j := 11) rfl rfl rfl ty29 rfl rfl hg7 rfl (hT) rfl (by first | (simp [Value.cells, Value.oneCell']; done) | simp [Value.cells, Value.oneCell', putL]) (by first | exact Nat.le_of_ble_eq_true rfl | (simp; done) | (simp; omega) | omega) ?_
      rintro w8 hg8 hax8
      refine ⟨trivial, ?_⟩
      refine RL.done ?_
      rw [itemBody, if_neg q1, if_neg q2, if_pos q3]
      exact fun ac ha => ⟨[(2, ptr b2), (4, ptr p), (5, ptr b5)], ha.sub ⟨rfl, rfl, rfl, trivial⟩, s7, A7, _, _, rfl, put_same _ _ _, ⟨none, none, none, none, none, none, 0, 0, 0, 0, 0, 0, rfl, hk2, hk5, ⟨z1, z1, z2, nilB _, nilI _, nilI _⟩, ⟨z1, z2, z1⟩, h1, z1, z1, nilB _, nilI _, nilI _⟩, hg8, hle7, hx6.trans (hax7.trans hax8), hR7⟩
    refine CW.seq (CW.plain ?_)
    refine RL.pure rfl rfl rfl rfl ?_
    refine RL.pure rfl rfl rfl rfl ?_
    refine RL.done ?_
    refine CW.eq rfl (fun q4 => ?_) (fun q4 => ?_)
    · refine CW.plain ?_
      refine RL.pure rfl rfl rfl rfl ?_
      refine RL.call rfl rfl rfl rfl rfl ca70 (RrSnap_ct hg6 hR5 hl) ?_
      rintro r7 s7 A7 w7 hle7 hg7 hax7 ⟨⟨us, rfl, a1, c1, a2, c2, a3, c3, rfl, e1, e2, i1, i2, i3⟩, hR7⟩
      refine ⟨trivial, ?_⟩
      refine RL.field rfl rfl rfl rfl fl76_5 rfl rfl ?_
      refine RL.store (i := 1) (j := 12) rfl rfl rfl ty37 rfl rfl hg7 rfl (hT) rfl (by first | (simp [Value.cells, Value.oneCell']; done) | simp [Value.cells, Value.oneCell', putL]) (by first | exact Nat.le_of_ble_eq_true rfl | (simp; done) | (simp; omega) | omega) ?_
      rintro w8 hg8 hax8
      refine ⟨trivial, ?_⟩
      refine RL.done ?_
      rw [itemBody, if_neg q1, if_neg q2, if_neg q3, if_pos q4]
      exact fun ac ha => ⟨[(2, ptr b2), (4, ptr p), (5, ptr b5)], ha.sub ⟨rfl, rfl, rfl, trivial⟩, s7, A7, _, _, rfl, put_same _ _ _, ⟨none, none, none, a1, a2, a3, 0, 0, 0, c1, c2, c3, rfl, hk2, hk5, ⟨z1, z1, z2, nilB _, nilI _, nilI _⟩, ⟨z1, z2, z1⟩, z1, e1, e2, i1, i2, i3⟩, hg8, hle7, hx6.trans (hax7.trans hax8), hR7⟩
    refine CW.skip ?_
    rw [itemBody, if_neg q1, if_neg q2, if_neg q3, if_neg q4]
    exact fun ac ha => ⟨[(2, ptr b2), (4, ptr p), (5, ptr b5)], ha.sub ⟨rfl, rfl, rfl, trivial⟩, s5, A5, T, _, rfl, hT, hbare, hg6, Le.refl _, hx6, hR5⟩
  rintro E w7 ⟨s7, A7, T7, vs, rfl, hT7, hv7, hg7, hle7, hax7, hR7⟩
  have hrd := rdItem_raw (bs := bs)
  rw [e1, ← hst] at hrd
  simp only [e2] at hrd
  rw [hrd]
  generalize (itemBody bs k g st2).1 = x at hv7 ⊢
  generalize (itemBody bs k g st2).2 = st7 at hR7 ⊢
  refine CW.seq (CW.plain ?_)
  refine RL.pure rfl rfl rfl rfl ?_
  refine RL.callV rfl rfl rfl rfl rfl ca26 (rRDone_ct hg7 hR7) ?_
  rintro v8 w8 hg8 hax8 rfl
  refine ⟨trivial, ?_⟩
  refine RL.pure rfl rfl rfl rfl ?_
  refine RL.done ?_
  have hdn : (if st7.errno = 0 ∧ st7.pos < (bs.length : Int) then (15 : Int) else st7.errno) = doneOf bs st7 := rfl
  rw [hdn]
  refine CW.seq (CW.seq (CW.plain ?_))
  refine RL.pure rfl rfl rfl rfl ?_
  refine RL.pure rfl rfl rfl rfl ?_
  refine RL.done ?_
  refine CW.ne rfl (fun h => ?_) (fun h => ?_)
  · refine CW.seq (CW.plain ?_)
    refine RL.build rfl rfl rfl rfl ze76 pl76 rfl rfl ?_
    refine RL.pure rfl rfl rfl rfl ?_
    refine RL.store (i := 2) (j := 0) rfl rfl rfl ty76 rfl rfl hg8 rfl (if_pos rfl) rfl (by first | (simp [Value.cells, Value.oneCell']; done) | simp [Value.cells, Value.oneCell', putL]) (by first | exact Nat.le_of_ble_eq_true rfl | (simp; done) | (simp; omega) | omega) ?_
    rintro w9 hg9 hax9
    refine ⟨trivial, ?_⟩
    refine RL.pure rfl rfl rfl rfl ?_
    refine RL.done ?_
    rw [if_pos h]
    exact CW.ret (ret (vs := [_, _]) ⟨_, _, _, rfl, rfl, loadVar_agg ty76 (put_same _ _ _) hg9.drop.drop.1 rfl, _, _, rfl, rfl, rfl⟩ (Post.mk (hle15.trans hle7) hg9.dropNext.dropNext (hax7.trans (hax8.trans hax9)) ⟨_, rfl, RItem.zero _⟩))
  · obtain ⟨a1, a2, a3, b1, b2', b3, c1, c2, c3, d1, d2, d3, rfl, hv7'⟩ := id hv7
    refine CW.skip (CW.seq (CW.plain ?_))
    simp only [itemCells] at hT7
    refine RL.loads (j := 0) (us := (itemCells x a1 a2 a3 b1 b2' b3 c1 c2 c3 d1 d2 d3)) rfl rfl rfl rfl ty76 rfl (Holds.of hT7) (hg8.drop.1) rfl rfl ?_
    refine RL.store (i := 2) (j := 0) rfl rfl rfl ty76 rfl rfl hg8 rfl (if_pos rfl) rfl (by simp [itemCells, Value.cells, Value.oneCell']) (by decide) ?_
    rintro w9 hg9 hax9
    refine ⟨trivial, ?_⟩
    refine RL.pure rfl rfl rfl rfl ?_
    refine RL.done ?_
    rw [if_neg (by simpa using h)]
    exact CW.ret (ret (vs := [_, _]) ⟨_, _, _, rfl, rfl, loadVar_agg ty76 (put_same _ _ _) hg9.drop.drop.1 rfl, _, _, rfl, rfl, rfl⟩ (Post.mk (hle15.trans hle7) hg9.dropNext.dropNext (hax7.trans (hax8.trans hax9)) ⟨_, rfl, hv7⟩))
end Go.Lw
