/-
  BeatsBack: what was packed is told again.
-/
import Derived.Test.YthaomecbklmmdaaDoorBkBoG
import Derived.Test.YthaomecbklmmdaaDoorBkBoS
import Derived.Test.YthaomecbklmmdaaDoorBkBoC
import Derived.Test.YthaomecbklmmdaaDoorBkBxI
namespace Go.Lw
open Go.Proofs
attribute [local irreducible] RL RA

theorem mine_kq (x : Wire) (to : Int) (q : Nat) (hq : q < 2) : mine to (kq q) x = ((x.msg.to == to) && (isP x.msg == decide ((q : Int) = 0))) := by
  unfold mine kindOf kq
  rcases (by omega : q = 0 ∨ q = 1) with rfl | rfl <;> cases isP x.msg <;> simp <;> (rw [Bool.eq_iff_iff]; simp)

set_option maxHeartbeats 4000000 in
set_option maxRecDepth 100000 in
theorem BeatsBack_ct {w : World} {s : Res} {os : List Res} {frm : Int} {l : List Wire} {la : Option Addr} {lc : Nat} (hg : Good w s os) (het : Et s) (hl : Imm RWire 15 s la lc l) (hfr : rng .i64 frm) (hb : bulkW l + l.length ≤ 400000000) (hfit : ∀ x ∈ l, x.msg.fits) :
    Calls Tryd.prog 4 #[i64 frm, .slice la l.length lc] w (Post w s os fun _ _ r => r = .bool true) := by
  have hone := RWire.one
  have hok : ∀ x ∈ l, x.ok := hl.all fun _ _ => RWire.ok
  refine enter (l := [i64 frm, .slice la l.length lc]) Tryd.func4 rfl Tryd.ntmps4 rfl ?_
  refine CW.seq (CW.plain ?_)
  refine RL.pure rfl rfl rfl rfl ?_
  refine RL.done ?_
  refine CW.seq (CW.plain ?_)
  refine RL.call rfl rfl rfl rfl rfl ca6 (head11_ct hg) ?_
  rintro v1 s1 A1 w1 hle1 hg1_ hax1 rfl
  refine ⟨trivial, ?_⟩
  refine RL.pure rfl rfl rfl rfl ?_
  refine RL.done ?_
  have hg1 := hg1_.drop
  have hl1 := hl.up RWire.up hle1
  rcases hpk : packP frm l with ⟨ps, e⟩
  refine CW.seq (CW.plain ?_)
  refine RL.pure rfl rfl rfl rfl ?_
  refine RL.pure rfl rfl rfl rfl ?_
  refine RL.call rfl rfl rfl rfl rfl ca12 (own_ct hg1 hl1 (by omega)) ?_
  rintro v2 s2 A2 w2 hle2 hg2 hax2 ⟨_, a2, c2, rfl, ho2⟩
  refine ⟨trivial, ?_⟩
  obtain ⟨s3, hg3, hle3, hq3⟩ := Good.letgo hg2
  have im2 := ho2.imm RWire.up hle3 hq3
  refine RL.call rfl rfl rfl rfl rfl ca11 (Pack_ct hg3 im2 hfr (by omega) hfit) ?_
  rintro v4 s4 A4 w4 hle4 hg4 hax4 ⟨a4, c4, rfl, ho4⟩
  refine ⟨trivial, ?_⟩
  refine RL.pure rfl rfl rfl rfl ?_
  rw [hpk] at ho4 ⊢
  refine RL.pure rfl rfl rfl rfl ?_
  refine RL.pure rfl rfl rfl rfl ?_
  refine RL.pure rfl rfl rfl rfl ?_
  refine RL.pure rfl rfl rfl rfl ?_
  refine RL.done ?_
  have hx4 := hax1.trans (hax2.trans hax4)
  have hl4 := hle1.trans (hle2.trans (hle3.trans hle4))
  refine CW.meet (fun E w' => w' = w4 ∧ E = [(0, i64 frm), (1, .slice la l.length lc), (6, .slice a4 ps.length c4)] ∧ e = 0) ?_ ?_
  · refine CW.seq (CW.plain ?_)
    refine RL.pure rfl rfl rfl rfl ?_
    refine RL.pure rfl rfl rfl rfl ?_
    refine RL.pure rfl rfl rfl rfl ?_
    refine RL.part 29 rfl (fun h29 => ?_) (fun h29 => ?_)
    · refine RL.pass rfl rfl rfl ?_
      refine RL.pass rfl rfl rfl ?_
      refine RL.pure rfl rfl rfl rfl ?_
      refine RL.done ?_
      exact absurd h29 (by decide)
    · refine RL.pure rfl rfl rfl rfl ?_
      refine RL.pure rfl rfl rfl rfl ?_
      refine RL.pure rfl rfl rfl rfl ?_
      refine RL.done ?_
      refine CW.cond rfl (fun hh => CW.seq (CW.plain ?_)) (fun hh => CW.skip ?_)
      · skip
        have he : e ≠ 0 := by simpa using hh
        have hl0 := packP_bad hpk he
        subst hl0
        refine RL.pure rfl rfl rfl rfl ?_
        refine RL.pure rfl rfl rfl rfl ?_
        refine RL.part 34 rfl (fun h34 => ?_) (fun h34 => ?_)
        · refine RL.pure rfl rfl rfl rfl ?_
          refine RL.len rfl rfl rfl rfl sl46 rfl ?_
          refine RL.pure rfl rfl rfl rfl ?_
          refine RL.pure rfl rfl rfl rfl ?_
          refine RL.pure rfl rfl rfl rfl ?_
          refine RL.done ?_
          exact CW.ret (ret (vs := [_]) ⟨_, _, rfl, rfl, rfl⟩ (Post.mk hl4 hg4 hx4 rfl))
        · refine RL.pass rfl rfl rfl ?_
          refine RL.pass rfl rfl rfl ?_
          refine RL.pass rfl rfl rfl ?_
          refine RL.pure rfl rfl rfl rfl ?_
          refine RL.pure rfl rfl rfl rfl ?_
          refine RL.done ?_
          exact absurd h34 (by decide)
      · have he : e = 0 := by simpa using hh
        exact fun ac ha => ⟨[(0, i64 frm), (1, .slice la l.length lc), (6, .slice a4 ps.length c4)], ha.sub ⟨rfl, rfl, rfl, trivial⟩, rfl, rfl, he⟩
  rintro E w4 ⟨rfl, rfl, rfl⟩
  obtain ⟨s5, hg5, hle5, hq5⟩ := Good.letgo hg4
  have ips : Imm RPacket 4 s5 a4 c4 ps := ho4.imm RPacket.up hle5 hq5
  have hl5 := hl4.trans hle5
  have hxl := hl.up RWire.up hl5
  obtain ⟨hps, hn7, hl4096, hall⟩ := packP_ok hpk
  have hpl : ps.length ≤ 14 := by rw [hps]; exact packUp_le frm l 7
  clear hg hg1 hg1_ hg2 hg3 hg4
  refine CW.seq (CW.plain ?_)
  refine RL.pure rfl rfl rfl rfl ?_
  refine RL.done ?_
  refine CW.meet (fun E w' => ∃ s', E = [(6, .slice a4 ps.length c4), (8, i64 ps.length)] ∧ Good w' s' os ∧ Le s5 s' ∧ Aux w w') ?_ ?_
  · refine CW.seq (CW.plain ?_)
    refine RL.pure rfl rfl rfl rfl ?_
    refine RL.done ?_
    refine CW.block (CW.loop (σ := Nat) (fun j E w' => ∃ s', ∃ m : Nat, E = [(0, i64 frm), (1, .slice la l.length lc), (6, .slice a4 ps.length c4), (8, i64 ((packUp frm l m).length : Int)), (9, i64 ((m : Int) + 1))] ∧ Good w' s' os ∧ Le s5 s' ∧ Aux w w' ∧ m + j = 7) (fun j => j) 7
      [(0, i64 frm), (1, .slice la l.length lc), (6, .slice a4 ps.length c4), (8, i64 0), (9, i64 1)] ⟨rfl, rfl, rfl, rfl, rfl, trivial⟩ ⟨s5, 0, rfl, hg5, Le.refl _, hx4, by omega⟩ ?_)
    clear hg5 hx4
    rintro j E w6 ⟨s6, m, rfl, hg6, hle6, hx6, hj⟩
    have hpm := packUp_le frm l m
    refine CW.seq (CW.seq (CW.plain ?_))
    refine RL.pure rfl rfl rfl rfl ?_
    refine RL.pure rfl rfl rfl rfl ?_
    refine RL.done ?_
    refine CW.test rfl (fun h => CW.skip ?_) (fun h => CW.exit ?_)
    rotate_left
    · have hm7 : m = 7 := by omega
      subst hm7
      exact fun ac ha => ⟨[(6, .slice a4 ps.length c4), (8, i64 ps.length)], ha.sub ⟨rfl, by rw [hps]; rfl, trivial⟩, s6, rfl, hg6, hle6, hx6⟩
    have hm7 : m < 7 := by omega
    refine CW.meet (fun E w' => ∃ s', E = [(0, i64 frm), (1, .slice la l.length lc), (6, .slice a4 ps.length c4), (8, i64 ((packUp frm l (m + 1)).length : Int)), (9, i64 ((m : Int) + 1))] ∧ Good w' s' os ∧ Le s5 s' ∧ Aux w w') ?_ ?_
    · refine CW.block (CW.seq (CW.plain ?_))
      refine RL.pure rfl rfl rfl rfl ?_
      refine RL.done ?_
      refine CW.block (CW.loop (σ := Nat) (fun j E w' => ∃ s', ∃ q : Nat, E = [(0, i64 frm), (1, .slice la l.length lc), (6, .slice a4 ps.length c4), (8, i64 ((outs frm l m q).length : Int)), (9, i64 ((m : Int) + 1)), (10, i64 (q : Int))] ∧ Good w' s' os ∧ Le s5 s' ∧ Aux w w' ∧ q + j = 2) (fun j => j) 2
        [(0, i64 frm), (1, .slice la l.length lc), (6, .slice a4 ps.length c4), (8, i64 ((packUp frm l m).length : Int)), (9, i64 ((m : Int) + 1)), (10, i64 0)] ⟨rfl, rfl, rfl, rfl, rfl, rfl, trivial⟩ ⟨s6, 0, by rw [outs_zero]; rfl, hg6, hle6, hx6, by omega⟩ ?_)
      clear hg6 hle6 hx6
      rintro j2 E w7 ⟨s7, q, rfl, hg7, hle7, hx7, hj2⟩
      have hom := outs_le frm l m q
      refine CW.seq (CW.seq (CW.plain ?_))
      refine RL.pure rfl rfl rfl rfl ?_
      refine RL.pure rfl rfl rfl rfl ?_
      refine RL.done ?_
      refine CW.test rfl (fun h => CW.skip ?_) (fun h => CW.exit ?_)
      rotate_left
      · have hq2 : q = 2 := by omega
        subst hq2
        exact fun ac ha => ⟨[(0, i64 frm), (1, .slice la l.length lc), (6, .slice a4 ps.length c4), (8, i64 ((packUp frm l (m + 1)).length : Int)), (9, i64 ((m : Int) + 1))], ha.sub ⟨rfl, rfl, rfl, by rw [← outs_two]; rfl, rfl, trivial⟩, s7, rfl, hg7, hle7, hx7⟩
      have hq2 : q < 2 := by omega
      obtain ⟨sub, hsub⟩ : ∃ sub : List Wire, sub = l.filter (mine ((m : Int) + 1) (kq q)) := ⟨_, rfl⟩
      have hsl : sub.length ≤ l.length := by rw [hsub]; exact List.length_filter_le _ _
      refine CW.meet (fun E w' => ∃ s', E = [(0, i64 frm), (1, .slice la l.length lc), (6, .slice a4 ps.length c4), (8, i64 ((outs frm l m (q + 1)).length : Int)), (9, i64 ((m : Int) + 1)), (10, i64 (q : Int))] ∧ Good w' s' os ∧ Le s5 s' ∧ Aux w w') ?_ ?_
      · refine CW.block (CW.seq (CW.plain ?_))
        refine RL.pure rfl rfl rfl rfl ?_
        refine RL.done ?_
        refine CW.meet (fun E w' => ∃ O ao co, E = [(0, i64 frm), (1, .slice la l.length lc), (6, .slice a4 ps.length c4), (8, i64 ((outs frm l m q).length : Int)), (9, i64 ((m : Int) + 1)), (10, i64 (q : Int)), (11, .slice ao sub.length co)] ∧ Good w' s7 (O :: os) ∧ Aux w w' ∧ Own RWire 15 51 s7 O ao co sub) ?_ ?_
        · refine CW.seq (CW.plain ?_)
          refine RL.pure rfl rfl rfl rfl ?_
          refine RL.done ?_
          refine CW.block (CW.loop (σ := Nat) (fun j E w' => ∃ O ao co, ∃ k : Nat, E = [(0, i64 frm), (1, .slice la l.length lc), (6, .slice a4 ps.length c4), (8, i64 ((outs frm l m q).length : Int)), (9, i64 ((m : Int) + 1)), (10, i64 (q : Int)), (11, .slice ao ((l.take k).filter (mine ((m : Int) + 1) (kq q))).length co), (12, i64 (k : Int))] ∧ Good w' s7 (O :: os) ∧ Aux w w' ∧ Own RWire 15 51 s7 O ao co ((l.take k).filter (mine ((m : Int) + 1) (kq q))) ∧ k + j = l.length) (fun j => j) l.length
            [(0, i64 frm), (1, .slice la l.length lc), (6, .slice a4 ps.length c4), (8, i64 ((outs frm l m q).length : Int)), (9, i64 ((m : Int) + 1)), (10, i64 (q : Int)), (11, nilSl), (12, i64 0)] ⟨rfl, rfl, rfl, rfl, rfl, rfl, rfl, rfl, trivial⟩ ⟨Res.nil, none, 0, 0, rfl, hg7.nil, hx7, .inl ⟨rfl, rfl, rfl⟩, by omega⟩ ?_)
          rintro j3 E w8 ⟨O, ao, co, k, rfl, hg8, hx8, ho8, hk⟩
          have hxl7 := hxl.up RWire.up hle7
          refine CW.seq (CW.seq (CW.plain ?_))
          refine RL.pure rfl rfl rfl rfl ?_
          refine RL.pure rfl rfl rfl rfl ?_
          refine RL.len rfl rfl rfl rfl sl30 rfl ?_
          refine RL.pure rfl rfl rfl rfl ?_
          refine RL.done ?_
          refine CW.test rfl (fun h => CW.skip ?_) (fun h => CW.exit ?_)
          rotate_left
          · have hkl : k = l.length := by omega
            subst hkl
            rw [List.take_length, ← hsub] at ho8 ⊢
            exact fun ac ha => ⟨[(0, i64 frm), (1, .slice la l.length lc), (6, .slice a4 ps.length c4), (8, i64 ((outs frm l m q).length : Int)), (9, i64 ((m : Int) + 1)), (10, i64 (q : Int)), (11, .slice ao sub.length co)], ha.sub ⟨rfl, rfl, rfl, rfl, rfl, rfl, rfl, trivial⟩, O, ao, co, rfl, hg8, hx8, ho8⟩
          have hkl : k < l.length := by omega
          have ek : l[((k : Nat) : Int).toNat]'(by omega) = l[k] := by simp
          have hft := filter_take1 (mine ((m : Int) + 1) (kq q)) l k hkl
          have hfl : ((l.take k).filter (mine ((m : Int) + 1) (kq q))).length ≤ l.length := Nat.le_trans (List.length_filter_le _ _) (by rw [List.length_take]; omega)
          obtain ⟨X, hX⟩ : ∃ X : Wire, X = l[k] := ⟨_, rfl⟩
          refine CW.meet (fun E w' => ∃ O ao co, E = [(0, i64 frm), (1, .slice la l.length lc), (6, .slice a4 ps.length c4), (8, i64 ((outs frm l m q).length : Int)), (9, i64 ((m : Int) + 1)), (10, i64 (q : Int)), (11, .slice ao ((l.take (k + 1)).filter (mine ((m : Int) + 1) (kq q))).length co), (12, i64 (k : Int))] ∧ Good w' s7 (O :: os) ∧ Aux w w' ∧ Own RWire 15 51 s7 O ao co ((l.take (k + 1)).filter (mine ((m : Int) + 1) (kq q)))) ?_ ?_
          · refine CW.block (CW.seq (CW.plain ?_))
            refine RL.pure rfl rfl rfl rfl ?_
            refine RL.pure rfl rfl rfl rfl ?_
            refine RL.idx rfl rfl rfl rfl sl30 rfl rfl (hxl7) (by omega) ((by omega)) ?_
            rintro q1 vs1 hvl1 hH1 hre1
            refine RL.field rfl rfl rfl rfl fl51_1 rfl rfl ?_
            rw [ek, ← hX] at hre1
            obtain ⟨y, rfl, hgr1, ho1⟩ := id hre1
            refine RL.loads (j := 1) (us := (msgV X.msg y)) rfl rfl rfl rfl ty42 rfl (hH1) (hg8.sh) rfl rfl ?_
            refine RL.callV rfl rfl rfl rfl rfl ca13 (dIs_ct hg8 ⟨y, rfl, ho1⟩ (by rw [hX]; exact hfit _ (List.getElem_mem hkl))) ?_
            rintro v9 w9 hg9 hax9 rfl
            refine ⟨trivial, ?_⟩
            refine RL.pure rfl rfl rfl rfl ?_
            refine RL.done ?_
            refine CW.seq (CW.plain ?_)
            have hmq := mine_kq X ((m : Int) + 1) q hq2
            refine RL.pure rfl rfl rfl rfl ?_
            refine RL.pure rfl rfl rfl rfl ?_
            refine RL.idx rfl rfl rfl rfl sl30 rfl rfl (hxl7) (by omega) ((by omega)) ?_
            rintro q2 vs2 hvl2 hH2 hre2
            refine RL.field rfl rfl rfl rfl fl51_1 rfl rfl ?_
            refine RL.field rfl rfl rfl rfl fl42_2 rfl rfl ?_
            rw [ek, ← hX] at hre2
            obtain ⟨y2, rfl, hgr2, ho2'⟩ := id hre2
            refine RL.load (j := 3) rfl rfl rfl rfl ty3 rfl (hH2) (hg9.sh) rfl ?_
            refine RL.pure rfl rfl rfl rfl ?_
            refine RL.pure rfl rfl rfl rfl ?_
            refine RL.pure rfl rfl rfl rfl ?_
            refine RL.part 67 rfl (fun h67 => ?_) (fun h67 => ?_)
            · refine RL.pure rfl rfl rfl rfl ?_
              refine RL.pure rfl rfl rfl rfl ?_
              refine RL.pure rfl rfl rfl rfl ?_
              refine RL.bEq rfl rfl rfl rfl Tryd.underlying4 rfl rfl ?_
              refine RL.pure rfl rfl rfl rfl ?_
              refine RL.done ?_
              refine CW.cond rfl (fun hh => CW.plain ?_) (fun hh => CW.skip ?_)
              · skip
                have hmy : mine ((m : Int) + 1) (kq q) l[k] = true := by rw [← hX, hmq, h67]; exact hh
                rw [if_pos hmy, ← hX] at hft
                refine RL.pure rfl rfl rfl rfl ?_
                refine RL.pure rfl rfl rfl rfl ?_
                refine RL.pure rfl rfl rfl rfl ?_
                refine RL.idx rfl rfl rfl rfl sl30 rfl rfl (hxl7) (by omega) ((by omega)) ?_
                rintro q3 vs3 hvl3 hH3 hre3
                rw [ek, ← hX] at hre3
                obtain ⟨y3, rfl, _, _⟩ := id hre3
                refine RL.loads (j := 0) (us := (wireV X y3)) rfl rfl rfl rfl ty51 rfl (hH3) (hg9.sh) rfl rfl ?_
                refine RL.buildSlice rfl rfl rfl rfl sl30 ze51 rfl rfl rfl rfl hg9 ?_
                rintro p10 w10 hg10 hax10
                refine ⟨trivial, ?_⟩
                refine RL.append (i := 1) (ys := [X]) rfl rfl rfl rfl sl30 ze51 rfl (by first | exact RInt.one _ | exact RStr.one | exact RBool.one | assumption) rfl rfl hg10 rfl ho8 ((Src.slice sl30 rfl (.inr ⟨_, rfl, Holds.one p10 _ 51⟩) hg10.1)) ((Chunks.single hvl3 hre3)) ((by simp only [List.length_singleton]; omega)) (by omega) ?_
                rintro a11 c11 A11 w11 hg11 ho11 hax11 hk11
                refine ⟨trivial, ?_⟩
                refine RL.pure rfl rfl rfl rfl ?_
                refine RL.done ?_
                exact fun ac ha => ⟨[(0, i64 frm), (1, .slice la l.length lc), (6, .slice a4 ps.length c4), (8, i64 ((outs frm l m q).length : Int)), (9, i64 ((m : Int) + 1)), (10, i64 (q : Int)), (11, .slice a11 ((l.take k).filter (mine ((m : Int) + 1) (kq q)) ++ [X]).length c11), (12, i64 (k : Int))], ha.sub ⟨rfl, rfl, rfl, rfl, rfl, rfl, rfl, rfl, trivial⟩, A11, a11, c11, by rw [hft], hg11.drop, hx8.trans (hax9.trans (hax10.trans hax11)), by rw [hft]; exact ho11⟩
              · have hmn : ¬ mine ((m : Int) + 1) (kq q) l[k] = true := by rw [← hX, hmq, h67, show (isP X.msg == decide ((q : Int) = 0)) = false from hh]; simp
                rw [if_neg hmn, List.append_nil] at hft
                exact fun ac ha => ⟨[(0, i64 frm), (1, .slice la l.length lc), (6, .slice a4 ps.length c4), (8, i64 ((outs frm l m q).length : Int)), (9, i64 ((m : Int) + 1)), (10, i64 (q : Int)), (11, .slice ao ((l.take k).filter (mine ((m : Int) + 1) (kq q))).length co), (12, i64 (k : Int))], ha.sub ⟨rfl, rfl, rfl, rfl, rfl, rfl, rfl, rfl, trivial⟩, O, ao, co, by rw [hft], hg9, hx8.trans hax9, by rw [hft]; exact ho8⟩
            · refine RL.pass rfl rfl rfl ?_
              refine RL.pass rfl rfl rfl ?_
              refine RL.pass rfl rfl rfl ?_
              refine RL.pass rfl rfl rfl ?_
              refine RL.pure rfl rfl rfl rfl ?_
              refine RL.done ?_
              refine CW.no rfl (CW.skip ?_)
              have hmn : ¬ mine ((m : Int) + 1) (kq q) l[k] = true := by rw [← hX, hmq, h67]; simp
              rw [if_neg hmn, List.append_nil] at hft
              exact fun ac ha => ⟨[(0, i64 frm), (1, .slice la l.length lc), (6, .slice a4 ps.length c4), (8, i64 ((outs frm l m q).length : Int)), (9, i64 ((m : Int) + 1)), (10, i64 (q : Int)), (11, .slice ao ((l.take k).filter (mine ((m : Int) + 1) (kq q))).length co), (12, i64 (k : Int))], ha.sub ⟨rfl, rfl, rfl, rfl, rfl, rfl, rfl, rfl, trivial⟩, O, ao, co, by rw [hft], hg9, hx8.trans hax9, by rw [hft]; exact ho8⟩
          rintro E w12 ⟨O12, a12, c12, rfl, hg12, hx12, ho12⟩
          refine CW.plain ?_
          refine RL.pure rfl rfl rfl rfl ?_
          refine RL.add rfl rfl rfl rfl rfl rfl (by simp only [rng] at *; omega) ?_
          refine RL.pure rfl rfl rfl rfl ?_
          refine RL.done ?_
          cases j3 with
          | zero => omega
          | succ j3 => exact fun ac ha => ⟨j3, [(0, i64 frm), (1, .slice la l.length lc), (6, .slice a4 ps.length c4), (8, i64 ((outs frm l m q).length : Int)), (9, i64 ((m : Int) + 1)), (10, i64 (q : Int)), (11, .slice a12 ((l.take (k + 1)).filter (mine ((m : Int) + 1) (kq q))).length c12), (12, i64 ((k + 1 : Nat) : Int))], ha.sub ⟨rfl, rfl, rfl, rfl, rfl, rfl, rfl, rfl, trivial⟩, ⟨O12, a12, c12, k + 1, rfl, hg12, hx12, ho12, by omega⟩, Nat.lt_succ_self j3⟩
        rintro E w13 ⟨O13, a13, c13, rfl, hg13, hx13, ho13⟩
        refine CW.seq (CW.seq (CW.plain ?_))
        refine RL.pure rfl rfl rfl rfl ?_
        refine RL.len rfl rfl rfl rfl sl30 rfl ?_
        refine RL.pure rfl rfl rfl rfl ?_
        refine RL.done ?_
        refine CW.eq rfl (fun h0 => CW.exit ?_) (fun h0 => CW.skip ?_)
        · have hs0 : sub = [] := List.eq_nil_of_length_eq_zero (by omega)
          have hsk := outs_skip (frm := frm) (l := l) (m := m) hq2 (by rw [← hsub]; exact hs0)
          exact fun ac ha => ⟨[(0, i64 frm), (1, .slice la l.length lc), (6, .slice a4 ps.length c4), (8, i64 ((outs frm l m q).length : Int)), (9, i64 ((m : Int) + 1)), (10, i64 (q : Int))], ha.sub ⟨rfl, rfl, rfl, rfl, rfl, rfl, trivial⟩, s7, by rw [hsk], hg13.drop, hle7, hx13⟩
        have hs0 : sub ≠ [] := by intro e; subst e; exact h0 rfl
        obtain ⟨p, hp1, hp2, hp3, hp4, hp5⟩ := pack_sub hpk hok hm7 hq2 (by rw [← hsub]; exact hs0)
        rw [← hsub] at hp3
        obtain ⟨i, hi⟩ : ∃ i : Nat, i = (outs frm l m q).length := ⟨_, rfl⟩
        rw [← hi] at hp1 ⊢
        have hil : i < ps.length := (List.getElem?_eq_some_iff.1 hp1).1
        have hpi : ps[((i : Nat) : Int).toNat]'(by simpa using hil) = p := by
          have := (List.getElem?_eq_some_iff.1 hp1).2
          simpa using this
        obtain ⟨s14, hg14, hle14, hq14⟩ := Good.letgo hg13
        have isub : Imm RWire 15 s14 a13 c13 sub := ho13.imm RWire.up hle14 hq14
        have hle57 := hle7.trans hle14
        have ips14 := ips.up RPacket.up hle57
        refine CW.seq (CW.seq (CW.plain ?_))
        refine RL.pure rfl rfl rfl rfl ?_
        refine RL.pure rfl rfl rfl rfl ?_
        refine RL.len rfl rfl rfl rfl sl46 rfl ?_
        refine RL.pure rfl rfl rfl rfl ?_
        refine RL.done ?_
        refine CW.cond rfl (fun hh => absurd (of_decide_eq_true hh) (by omega)) (fun hh => CW.skip ?_)
        refine CW.seq (CW.plain ?_)
        refine RL.pure rfl rfl rfl rfl ?_
        refine RL.pure rfl rfl rfl rfl ?_
        refine RL.idx rfl rfl rfl rfl sl46 rfl rfl (ips14) (by omega) ((by omega)) ?_
        rintro q5 vs5 hvl5 hH5 hre5
        rw [hpi] at hre5
        obtain ⟨pa, pc, rfl, pr1, pr2, pr3, pI⟩ := id hre5
        refine RL.loads (j := 0) (us := (pkV p pa pc)) rfl rfl rfl rfl ty24 rfl (hH5) (hg14.sh) rfl rfl ?_
        refine RL.call rfl rfl rfl rfl rfl ca7 (Open_ct hg14 (het.le (hl5.trans hle57)) hre5 (by omega)) ?_
        rintro v15 s15 A15 w15 hle15 hg15 hax15 ⟨a15, c15, rfl, ho15⟩
        refine ⟨trivial, ?_⟩
        refine RL.pure rfl rfl rfl rfl ?_
        rw [hp3] at ho15 ⊢
        refine RL.pure rfl rfl rfl rfl ?_
        refine RL.pure rfl rfl rfl rfl ?_
        refine RL.pure rfl rfl rfl rfl ?_
        refine RL.pure rfl rfl rfl rfl ?_
        refine RL.done ?_
        obtain ⟨s16, hg16, hle16, hq16⟩ := Good.letgo hg15
        have ims : Imm RWire 15 s16 a15 c15 sub := ho15.wire.imm RWire.up hle16 hq16
        have hle1416 := hle15.trans hle16
        refine CW.seq (CW.plain ?_)
        refine RL.pure rfl rfl rfl rfl ?_
        refine RL.call rfl rfl rfl rfl rfl ca10 (theirs_ct (l := sub) hg16 ims (by omega)) ?_
        rintro v17 s17 A17 w17 hle17 hg17 hax17 ⟨_, a17, c17, rfl, ho17⟩
        refine ⟨trivial, ?_⟩
        refine RL.pure rfl rfl rfl rfl ?_
        obtain ⟨s18, hg18, hle18, hq18⟩ := Good.letgo hg17
        have ith := ho17.imm RWire.up hle18 hq18
        refine RL.callV rfl rfl rfl rfl rfl ca9 (Same11_ct (xs := sub) hg18 ith (isub.up RWire.up (hle1416.trans (hle17.trans hle18)))) ?_
        rintro v19 w19 hg19 hax19 rfl
        refine ⟨trivial, ?_⟩
        refine RL.pure rfl rfl rfl rfl ?_
        refine RL.done ?_
        have hle1418 := hle1416.trans (hle17.trans hle18)
        have hx19 := hx13.trans (hax15.trans (hax17.trans hax19))
        refine CW.seq (CW.seq (CW.plain ?_))
        refine RL.pure rfl rfl rfl rfl ?_
        refine RL.pure rfl rfl rfl rfl ?_
        refine RL.pure rfl rfl rfl rfl ?_
        refine RL.part 101 rfl (fun h101 => ?_) (fun h101 => ?_)
        · refine RL.pass rfl rfl rfl ?_
          refine RL.pass rfl rfl rfl ?_
          refine RL.pure rfl rfl rfl rfl ?_
          refine RL.done ?_
          simp at h101
        · refine RL.pure rfl rfl rfl rfl ?_
          refine RL.pure rfl rfl rfl rfl ?_
          refine RL.pure rfl rfl rfl rfl ?_
          refine RL.done ?_
          skip
          refine CW.no rfl (CW.skip ?_)
          have hsb : bulkW sub ≤ bulkW l := by rw [hsub]; exact bulkW_filter _ _
          have hsf : ∀ x ∈ sub, x.msg.fits := fun x hx => hfit x (List.mem_filter.1 (by rw [← hsub]; exact hx)).1
          obtain ⟨hpp, _, _, _⟩ := open_pack pI.rng hp3
          rw [hp4] at hpp
          refine CW.seq (CW.plain ?_)
          refine RL.pure rfl rfl rfl rfl ?_
          refine RL.pure rfl rfl rfl rfl ?_
          refine RL.call rfl rfl rfl rfl rfl ca11 (Pack_ct (l := sub) hg19 (ims.up RWire.up (hle17.trans hle18)) hfr (by omega) hsf) ?_
          rintro v20 s20 A20 w20 hle20 hg20 hax20 ⟨a20, c20, rfl, ho20⟩
          refine ⟨trivial, ?_⟩
          refine RL.pure rfl rfl rfl rfl ?_
          rw [hpp] at ho20 ⊢
          refine RL.pure rfl rfl rfl rfl ?_
          refine RL.pure rfl rfl rfl rfl ?_
          refine RL.pure rfl rfl rfl rfl ?_
          refine RL.pure rfl rfl rfl rfl ?_
          refine RL.done ?_
          obtain ⟨s21, hg21, hle21, hq21⟩ := Good.letgo hg20
          have iag : Imm RPacket 4 s21 a20 c20 [p] := ho20.imm RPacket.up hle21 hq21
          have ips21 := ips14.up RPacket.up (hle1418.trans (hle20.trans hle21))
          have hcut : (ps.take ((i : Int) + 1).toNat).drop ((i : Int)).toNat = [p] := by
            rw [show ((i : Int) + 1).toNat = i + 1 by omega, Int.toNat_natCast, List.take_succ_eq_append_getElem hil, List.drop_append_of_le_length (by rw [List.length_take]; omega)]
            rw [List.drop_eq_nil_of_le (by rw [List.length_take]; omega), (List.getElem?_eq_some_iff.1 hp1).2]; rfl
          refine CW.seq (CW.seq (CW.plain ?_))
          refine RL.pure rfl rfl rfl rfl ?_
          refine RL.pure rfl rfl rfl rfl ?_
          refine RL.pure rfl rfl rfl rfl ?_
          refine RL.part 113 rfl (fun h113 => ?_) (fun h113 => ?_)
          · refine RL.pass rfl rfl rfl ?_
            refine RL.pass rfl rfl rfl ?_
            refine RL.pass rfl rfl rfl ?_
            refine RL.pure rfl rfl rfl rfl ?_
            refine RL.pure rfl rfl rfl rfl ?_
            refine RL.pass rfl rfl rfl ?_
            refine RL.pass rfl rfl rfl ?_
            refine RL.pass rfl rfl rfl ?_
            refine RL.pass rfl rfl rfl ?_
            refine RL.pass rfl rfl rfl ?_
            refine RL.pass rfl rfl rfl ?_
            refine RL.pass rfl rfl rfl ?_
            refine RL.pass rfl rfl rfl ?_
            refine RL.pure rfl rfl rfl rfl ?_
            refine RL.done ?_
            first
              | (simp at h113; done)
              | (simp at h118; done)
          · refine RL.pure rfl rfl rfl rfl ?_
            refine RL.len rfl rfl rfl rfl sl46 rfl ?_
            refine RL.pure rfl rfl rfl rfl ?_
            refine RL.pure rfl rfl rfl rfl ?_
            refine RL.pure rfl rfl rfl rfl ?_
            refine RL.part 118 rfl (fun h118 => ?_) (fun h118 => ?_)
            · refine RL.pass rfl rfl rfl ?_
              refine RL.pass rfl rfl rfl ?_
              refine RL.pass rfl rfl rfl ?_
              refine RL.pass rfl rfl rfl ?_
              refine RL.pass rfl rfl rfl ?_
              refine RL.pass rfl rfl rfl ?_
              refine RL.pass rfl rfl rfl ?_
              refine RL.pass rfl rfl rfl ?_
              refine RL.pure rfl rfl rfl rfl ?_
              refine RL.done ?_
              first
                | (simp at h113; done)
                | (simp at h118; done)
            · refine RL.pure rfl rfl rfl rfl ?_
              refine RL.pure rfl rfl rfl rfl ?_
              refine RL.pure rfl rfl rfl rfl ?_
              refine RL.pure rfl rfl rfl rfl ?_
              refine RL.add rfl rfl rfl rfl rfl rfl (by simp only [rng] at *; omega) ?_
              refine RL.part_ ((i : Int)) ((i : Int) + 1) rfl rfl rfl rfl sl46 rfl (.inr ⟨_, _, rfl, rfl⟩) (.inr ⟨_, _, rfl, rfl⟩) (ips21) ((by omega)) ((by omega)) ((by omega)) ?_
              rintro a22 c22 ic22
              rw [hcut] at ic22 ⊢
              refine RL.callV rfl rfl rfl rfl rfl ca14 (Same_ct (l := [p]) hg21 iag ic22) ?_
              rintro v23 w23 hg23 hax23 rfl
              refine ⟨trivial, ?_⟩
              refine RL.pure rfl rfl rfl rfl ?_
              refine RL.pure rfl rfl rfl rfl ?_
              refine RL.done ?_
              refine CW.no rfl (CW.skip (CW.plain ?_))
              refine RL.pure rfl rfl rfl rfl ?_
              refine RL.add rfl rfl rfl rfl rfl rfl (by simp only [rng] at *; omega) ?_
              refine RL.pure rfl rfl rfl rfl ?_
              refine RL.done ?_
              exact fun ac ha => ⟨[(0, i64 frm), (1, .slice la l.length lc), (6, .slice a4 ps.length c4), (8, i64 ((outs frm l m (q + 1)).length : Int)), (9, i64 ((m : Int) + 1)), (10, i64 (q : Int))], ha.sub ⟨rfl, rfl, rfl, by rw [hp2, List.length_append, ← hi]; rfl, rfl, rfl, trivial⟩, s21, rfl, hg23, hle57.trans (hle1418.trans (hle20.trans hle21)), hx19.trans (hax20.trans hax23)⟩
      rintro E w24 ⟨s24, rfl, hg24, hle24, hx24⟩
      refine CW.plain ?_
      refine RL.pure rfl rfl rfl rfl ?_
      refine RL.add rfl rfl rfl rfl rfl rfl (by simp only [rng] at *; omega) ?_
      refine RL.pure rfl rfl rfl rfl ?_
      refine RL.done ?_
      cases j2 with
      | zero => omega
      | succ j2 => exact fun ac ha => ⟨j2, [(0, i64 frm), (1, .slice la l.length lc), (6, .slice a4 ps.length c4), (8, i64 ((outs frm l m (q + 1)).length : Int)), (9, i64 ((m : Int) + 1)), (10, i64 ((q + 1 : Nat) : Int))], ha.sub ⟨rfl, rfl, rfl, rfl, rfl, rfl, trivial⟩, ⟨s24, q + 1, rfl, hg24, hle24, hx24, by omega⟩, Nat.lt_succ_self j2⟩
    rintro E w25 ⟨s25, rfl, hg25, hle25, hx25⟩
    refine CW.plain ?_
    refine RL.pure rfl rfl rfl rfl ?_
    refine RL.add rfl rfl rfl rfl rfl rfl (by simp only [rng] at *; omega) ?_
    refine RL.pure rfl rfl rfl rfl ?_
    refine RL.done ?_
    cases j with
    | zero => omega
    | succ j => exact fun ac ha => ⟨j, [(0, i64 frm), (1, .slice la l.length lc), (6, .slice a4 ps.length c4), (8, i64 ((packUp frm l (m + 1)).length : Int)), (9, i64 (((m + 1 : Nat) : Int) + 1))], ha.sub ⟨rfl, rfl, rfl, rfl, rfl, trivial⟩, ⟨s25, m + 1, rfl, hg25, hle25, hx25, by omega⟩, Nat.lt_succ_self j⟩
  rintro E w26 ⟨s26, rfl, hg26, hle26, hx26⟩
  refine CW.seq (CW.plain ?_)
  refine RL.pure rfl rfl rfl rfl ?_
  refine RL.pure rfl rfl rfl rfl ?_
  refine RL.len rfl rfl rfl rfl sl46 rfl ?_
  refine RL.pure rfl rfl rfl rfl ?_
  refine RL.pure rfl rfl rfl rfl ?_
  refine RL.done ?_
  exact CW.ret (ret (vs := [_]) ⟨_, _, rfl, rfl, rfl⟩ (Post.mk (hl5.trans hle26) hg26.nil hx26 (congrArg Value.bool (beq_self_eq_true _))))
end Go.Lw
