/-
  Beats: the law BeatsApart, walked.
-/
import Derived.Test.YthaomecbklmmdaaBxL
namespace Go.Lw
open Go.Proofs
attribute [local irreducible] RL RA

theorem bulkW_some (l : List Wire) (p : Wire → Bool) : bulkW (l.filter p) + (l.filter p).length ≤ bulkW l + l.length := by
  have h1 := bulkW_filter p l
  have h2 := List.length_filter_le p l
  omega

theorem pack_len (frm : Int) (l : List Wire) : (packP frm l).1.length ≤ 14 := by
  unfold packP
  split
  · simp
  · split
    · simp
    · exact packUp_le frm l 7

set_option maxHeartbeats 2000000 in
set_option maxRecDepth 100000 in
theorem BeatsApart_ct {w : World} {s : Res} {os : List Res} {frm to : Int} {l : List Wire} {la : Option Addr} {lc : Nat} (hg : Good w s os) (hl : Imm RWire 15 s la lc l) (hfr : rng .i64 frm) (hb : bulkW l + l.length ≤ 400000000) (hfit : ∀ x ∈ l, x.msg.fits) :
    Calls Try.prog 4 #[i64 frm, .slice la l.length lc, i64 to] w (Post w s os fun _ _ r => r = .bool true) := by
  have hone := RWire.one
  have hone2 := RPacket.one
  refine enter (l := [i64 frm, .slice la l.length lc, i64 to]) Try.func4 rfl Try.ntmps4 rfl ?_
  refine CW.seq (CW.plain ?_)
  refine RL.pure rfl rfl rfl rfl ?_
  refine RL.done ?_
  refine CW.seq (CW.plain ?_)
  refine RL.call rfl rfl rfl rfl rfl ca5 (head11_ct hg) ?_
  rintro v1 s1 A1 w1 hle1 hg1 hax1 rfl
  refine ⟨trivial, ?_⟩
  refine RL.pure rfl rfl rfl rfl ?_
  refine RL.done ?_
  have hg1 := hg1.drop
  have hl1 := hl.up RWire.up hle1
  refine CW.seq (CW.plain ?_)
  refine RL.pure rfl rfl rfl rfl ?_
  refine RL.pure rfl rfl rfl rfl ?_
  refine RL.call rfl rfl rfl rfl rfl ca7 (own_ct hg1 hl1 (by omega)) ?_
  rintro v2 s2 A2 w2 hle2 hg2 hax2 ⟨rfl, a2, c2, rfl, ho2⟩
  refine ⟨trivial, ?_⟩
  obtain ⟨s3, hg3, hle3, hq3⟩ := Good.letgo hg2
  have hi3 := ho2.imm RWire.up hle3 hq3
  refine RL.call rfl rfl rfl rfl rfl ca6 (Pack_ct hg3 hi3 hfr (by omega) hfit) ?_
  rintro v4 s4 A4 w4 hle4 hg4 hax4 ⟨a4, c4, rfl, ho4⟩
  refine ⟨trivial, ?_⟩
  refine RL.pure rfl rfl rfl rfl ?_
  refine RL.pure rfl rfl rfl rfl ?_
  refine RL.pure rfl rfl rfl rfl ?_
  refine RL.pure rfl rfl rfl rfl ?_
  refine RL.pure rfl rfl rfl rfl ?_
  refine RL.done ?_
  obtain ⟨s5, hg5, hle5, hq5⟩ := Good.letgo hg4
  have hi5 := ho4.imm RPacket.up hle5 hq5
  have hl5 := ((hl1.up RWire.up hle3).up RWire.up hle4).up RWire.up hle5
  have hle := hle1.trans (hle3.trans (hle4.trans hle5))
  have hax := hax1.trans (hax2.trans hax4)
  have hll := hl5.le_max
  simp only [maxLen] at hll
  have hap := fun h => pack_apart (frm := frm) (l := l) h to
  have hplen := pack_len frm l
  generalize packP frm l = r at *
  clear hg1 hg2 hg3 hg4
  refine CW.less (E' := [(0, i64 frm), (1, .slice la l.length lc), (2, i64 to), (7, .bool true), (8, .slice a4 r.1.length c4), (9, i64 r.2)]) ⟨rfl, rfl, rfl, rfl, rfl, rfl, trivial⟩ ?_
  refine CW.seq (CW.seq (CW.plain ?_))
  refine RL.pure rfl rfl rfl rfl ?_
  refine RL.pure rfl rfl rfl rfl ?_
  refine RL.pure rfl rfl rfl rfl ?_
  refine RL.pure rfl rfl rfl rfl ?_
  refine RL.pure rfl rfl rfl rfl ?_
  refine RL.pure rfl rfl rfl rfl ?_
  refine RL.done ?_
  refine CW.cond rfl (fun hne => CW.seq (CW.plain ?_)) (fun hne => CW.skip ?_)
  · refine RL.pure rfl rfl rfl rfl ?_
    refine RL.pure rfl rfl rfl rfl ?_
    refine RL.done ?_
    exact CW.ret (ret (vs := [_]) ⟨_, _, rfl, rfl, rfl⟩ (Post.mk hle hg5.nil hax rfl))
  have he : r.2 = 0 := by simpa using hne
  obtain ⟨hp, h2⟩ := hap he
  have hsb := bulkW_some l (toIs to)
  have hsf : ∀ x ∈ l.filter (toIs to), x.msg.fits := fun x hx => hfit x (List.mem_filter.1 hx).1
  refine CW.seq (CW.plain ?_)
  refine RL.pure rfl rfl rfl rfl ?_
  refine RL.done ?_
  refine CW.meet (fun E w' => ∃ O ao co, E = [(0, i64 frm), (2, i64 to), (8, .slice a4 r.1.length c4), (10, .slice ao (l.filter (toIs to)).length co)] ∧ Good w' s5 (O :: os) ∧ Aux w w' ∧ Own RWire 15 42 s5 O ao co (l.filter (toIs to))) ?_ ?_
  · refine CW.seq (CW.plain ?_)
    refine RL.pure rfl rfl rfl rfl ?_
    refine RL.done ?_
    refine CW.block (CW.loop (σ := Nat) (fun j E w' => ∃ O ao co, ∃ k : Nat, E = [(0, i64 frm), (1, .slice la l.length lc), (2, i64 to), (8, .slice a4 r.1.length c4), (10, .slice ao ((l.take k).filter (toIs to)).length co), (11, i64 k)] ∧ Good w' s5 (O :: os) ∧ Aux w w' ∧ Own RWire 15 42 s5 O ao co ((l.take k).filter (toIs to)) ∧ k + j = l.length)
      (fun j => j) l.length [(0, i64 frm), (1, .slice la l.length lc), (2, i64 to), (8, .slice a4 r.1.length c4), (10, nilSl), (11, i64 0)] ⟨rfl, rfl, rfl, rfl, rfl, rfl, trivial⟩ ⟨Res.nil, none, 0, 0, rfl, hg5.nil, hax, .inl ⟨rfl, rfl, rfl⟩, by omega⟩ ?_)
    rintro j E w6 ⟨O, ao, co, k, rfl, hg6, hax6, ho, hk⟩
    refine CW.seq (CW.seq (CW.plain ?_))
    refine RL.pure rfl rfl rfl rfl ?_
    refine RL.pure rfl rfl rfl rfl ?_
    refine RL.len rfl rfl rfl rfl sl22 rfl ?_
    refine RL.pure rfl rfl rfl rfl ?_
    refine RL.done ?_
    refine CW.test rfl (fun h => CW.skip ?_) (fun h => CW.exit ?_)
    · have hkl : k < l.length := by omega
      have ek : l[((k : Nat) : Int).toNat]'(by omega) = l[k] := by simp
      have hft := filter_take1 (toIs to) l k hkl
      have hlen := List.length_filter_le (toIs to) (l.take k)
      have hlk : (l.take k).length ≤ l.length := by rw [List.length_take]; omega
      refine CW.meet (fun E w' => ∃ O ao co, E = [(0, i64 frm), (1, .slice la l.length lc), (2, i64 to), (8, .slice a4 r.1.length c4), (10, .slice ao ((l.take (k + 1)).filter (toIs to)).length co), (11, i64 k)] ∧ Good w' s5 (O :: os) ∧ Aux w w' ∧ Own RWire 15 42 s5 O ao co ((l.take (k + 1)).filter (toIs to))) ?_ ?_
      · refine CW.block (CW.seq (CW.plain ?_))
        refine RL.pure rfl rfl rfl rfl ?_
        refine RL.pure rfl rfl rfl rfl ?_
        refine RL.idx rfl rfl rfl rfl sl22 rfl rfl (hl5) (by omega) ((by omega)) ?_
        rintro q vs hvl hHe hre
        refine RL.field rfl rfl rfl rfl fl42_1 rfl rfl ?_
        refine RL.field rfl rfl rfl rfl fl40_2 rfl rfl ?_
        rw [ek] at hre
        generalize hx : l[k] = x at hre hft
        obtain ⟨y, rfl, _, _⟩ := id hre
        refine RL.load (j := 3) rfl rfl rfl rfl ty3 rfl (hHe) (hg6.sh) rfl ?_
        refine RL.pure rfl rfl rfl rfl ?_
        refine RL.pure rfl rfl rfl rfl ?_
        refine RL.done ?_
        refine CW.eq rfl (fun hto => CW.plain ?_) (fun hto => CW.skip ?_)
        · rw [if_pos (show toIs to x = true from decide_eq_true hto)] at hft
          refine RL.pure rfl rfl rfl rfl ?_
          refine RL.pure rfl rfl rfl rfl ?_
          refine RL.pure rfl rfl rfl rfl ?_
          refine RL.idx rfl rfl rfl rfl sl22 rfl rfl (hl5) (by omega) ((by omega)) ?_
          rintro q2 vs2 hvl2 hHe2 hre2
          rw [ek, hx] at hre2
          obtain ⟨y2, rfl, _, _⟩ := id hre2
          refine RL.loads (j := 0) (us := (wireV x y2)) rfl rfl rfl rfl ty42 rfl (hHe2) (hg6.sh) rfl rfl ?_
          refine RL.buildSlice rfl rfl rfl rfl sl22 ze42 rfl rfl rfl rfl hg6 ?_
          rintro b7 w7 hg7 hax7
          refine ⟨trivial, ?_⟩
          refine RL.append (i := 1) (ys := [x]) rfl rfl rfl rfl sl22 ze42 rfl (by first | exact RInt.one _ | exact RStr.one | exact RBool.one | assumption) rfl rfl hg7 rfl ho ((Src.slice sl22 rfl (.inr ⟨_, rfl, Holds.one b7 _ 42⟩) hg7.1)) ((Chunks.single rfl hre2)) ((by simp only [List.length_singleton]; omega)) (by omega) ?_
          rintro a8 c8 A8 w8 hg8 ho8 hax8 hk8
          refine ⟨trivial, ?_⟩
          refine RL.pure rfl rfl rfl rfl ?_
          refine RL.done ?_
          rw [← hft] at ho8 ⊢
          exact fun ac ha => ⟨[(0, i64 frm), (1, .slice la l.length lc), (2, i64 to), (8, .slice a4 r.1.length c4), (10, .slice a8 ((l.take (k + 1)).filter (toIs to)).length c8), (11, i64 k)], ha.sub ⟨rfl, rfl, rfl, rfl, rfl, rfl, trivial⟩, A8, a8, c8, rfl, hg8.drop, hax6.trans (hax7.trans hax8), ho8⟩
        · rw [if_neg (by simpa [toIs] using hto), List.append_nil] at hft
          rw [hft]
          exact fun ac ha => ⟨[(0, i64 frm), (1, .slice la l.length lc), (2, i64 to), (8, .slice a4 r.1.length c4), (10, .slice ao ((l.take k).filter (toIs to)).length co), (11, i64 k)], ha.sub ⟨rfl, rfl, rfl, rfl, rfl, rfl, trivial⟩, O, ao, co, rfl, hg6, hax6, ho⟩
      rintro E w9 ⟨O9, a9, c9, rfl, hg9, hax9, ho9⟩
      refine CW.plain ?_
      refine RL.pure rfl rfl rfl rfl ?_
      refine RL.add rfl rfl rfl rfl rfl rfl (by simp only [rng] at *; omega) ?_
      refine RL.pure rfl rfl rfl rfl ?_
      refine RL.done ?_
      cases j with
      | zero => omega
      | succ j => exact fun ac ha => ⟨j, [(0, i64 frm), (1, .slice la l.length lc), (2, i64 to), (8, .slice a4 r.1.length c4), (10, .slice a9 ((l.take (k + 1)).filter (toIs to)).length c9), (11, i64 ((k + 1 : Nat) : Int))], ha.sub ⟨rfl, rfl, rfl, rfl, rfl, rfl, trivial⟩, ⟨O9, a9, c9, k + 1, rfl, hg9, hax9, ho9, by omega⟩, Nat.lt_succ_self j⟩
    · have hkl : k = l.length := by omega
      rw [hkl, List.take_length] at ho ⊢
      exact fun ac ha => ⟨[(0, i64 frm), (2, i64 to), (8, .slice a4 r.1.length c4), (10, .slice ao (l.filter (toIs to)).length co)], ha.sub ⟨rfl, rfl, rfl, rfl, trivial⟩, O, ao, co, rfl, hg6, hax6, ho⟩
  rintro E w10 ⟨O10, a10, c10, rfl, hg10, hax10, ho10⟩
  obtain ⟨s11, hg11, hle11, hq11⟩ := Good.letgo hg10
  have hi11 := ho10.imm RWire.up hle11 hq11
  refine CW.seq (CW.plain ?_)
  refine RL.pure rfl rfl rfl rfl ?_
  refine RL.pure rfl rfl rfl rfl ?_
  refine RL.call rfl rfl rfl rfl rfl ca7 (own_ct hg11 hi11 (by omega)) ?_
  rintro v12 s12 A12 w12 hle12 hg12 hax12 ⟨rfl, a12, c12, rfl, ho12⟩
  refine ⟨trivial, ?_⟩
  obtain ⟨s13, hg13, hle13, hq13⟩ := Good.letgo hg12
  have hi13 := ho12.imm RWire.up hle13 hq13
  refine RL.call rfl rfl rfl rfl rfl ca6 ((by have ct := Pack_ct hg13 hi13 hfr (by omega) hsf; rw [hp] at ct; exact ct)) ?_
  rintro v14 s14 A14 w14 hle14 hg14 hax14 ⟨a14, c14, rfl, ho14⟩
  refine ⟨trivial, ?_⟩
  refine RL.pure rfl rfl rfl rfl ?_
  refine RL.pure rfl rfl rfl rfl ?_
  refine RL.pure rfl rfl rfl rfl ?_
  refine RL.pure rfl rfl rfl rfl ?_
  refine RL.pure rfl rfl rfl rfl ?_
  refine RL.done ?_
  obtain ⟨s15, hg15, hle15, hq15⟩ := Good.letgo hg14
  have hi15 := ho14.imm RPacket.up hle15 hq15
  have hle515 := hle11.trans (hle13.trans (hle14.trans hle15))
  have hi5 := hi5.up RPacket.up hle515
  have hax15 := hax10.trans (hax12.trans hax14)
  refine CW.seq (CW.plain ?_)
  refine RL.pure rfl rfl rfl rfl ?_
  refine RL.done ?_
  refine CW.less (E' := [(2, i64 to), (8, .slice a4 r.1.length c4), (12, .slice a14 (r.1.filter (pkTo to)).length c14), (13, i64 0), (14, nilSl)]) ⟨rfl, rfl, rfl, rfl, rfl, trivial⟩ ?_
  refine CW.seq (CW.seq (CW.plain ?_))
  refine RL.pure rfl rfl rfl rfl ?_
  refine RL.done ?_
  refine CW.block (CW.loop (σ := Nat) (fun j E w' => ∃ O ao co, ∃ k : Nat, E = [(2, i64 to), (8, .slice a4 r.1.length c4), (12, .slice a14 (r.1.filter (pkTo to)).length c14), (13, i64 0), (14, .slice ao ((r.1.take k).filter (pkTo to)).length co), (15, i64 k)] ∧ Good w' s15 (O :: os) ∧ Aux w w' ∧ Own RPacket 4 46 s15 O ao co ((r.1.take k).filter (pkTo to)) ∧ k + j = r.1.length)
    (fun j => j) r.1.length [(2, i64 to), (8, .slice a4 r.1.length c4), (12, .slice a14 (r.1.filter (pkTo to)).length c14), (13, i64 0), (14, nilSl), (15, i64 0)] ⟨rfl, rfl, rfl, rfl, rfl, rfl, trivial⟩ ⟨Res.nil, none, 0, 0, rfl, hg15.nil, hax15, .inl ⟨rfl, rfl, rfl⟩, by omega⟩ ?_)
  rintro j E w6 ⟨O, ao, co, k, rfl, hg6, hax6, ho, hk⟩
  refine CW.seq (CW.seq (CW.plain ?_))
  refine RL.pure rfl rfl rfl rfl ?_
  refine RL.pure rfl rfl rfl rfl ?_
  refine RL.len rfl rfl rfl rfl sl24 rfl ?_
  refine RL.pure rfl rfl rfl rfl ?_
  refine RL.done ?_
  refine CW.test rfl (fun h => CW.skip ?_) (fun h => CW.exit ?_)
  · have hkl : k < r.1.length := by omega
    have ek : r.1[((k : Nat) : Int).toNat]'(by omega) = r.1[k] := by simp
    have hft := filter_take1 (pkTo to) r.1 k hkl
    have hlen := List.length_filter_le (pkTo to) (r.1.take k)
    have hlk : (r.1.take k).length ≤ r.1.length := by rw [List.length_take]; omega
    refine CW.meet (fun E w' => ∃ O ao co, E = [(2, i64 to), (8, .slice a4 r.1.length c4), (12, .slice a14 (r.1.filter (pkTo to)).length c14), (13, i64 0), (14, .slice ao ((r.1.take (k + 1)).filter (pkTo to)).length co), (15, i64 k)] ∧ Good w' s15 (O :: os) ∧ Aux w w' ∧ Own RPacket 4 46 s15 O ao co ((r.1.take (k + 1)).filter (pkTo to))) ?_ ?_
    · refine CW.block (CW.seq (CW.plain ?_))
      refine RL.pure rfl rfl rfl rfl ?_
      refine RL.pure rfl rfl rfl rfl ?_
      refine RL.idx rfl rfl rfl rfl sl24 rfl rfl (hi5) (by omega) ((by omega)) ?_
      rintro q vs hvl hHe hre
      refine RL.field rfl rfl rfl rfl fl46_1 rfl rfl ?_
      rw [ek] at hre
      generalize hx : r.1[k] = x at hre hft
      obtain ⟨ya, yc, rfl, _, _, _, _⟩ := id hre
      refine RL.load (j := 1) rfl rfl rfl rfl ty3 rfl (hHe) (hg6.sh) rfl ?_
      refine RL.pure rfl rfl rfl rfl ?_
      refine RL.pure rfl rfl rfl rfl ?_
      refine RL.done ?_
      refine CW.eq rfl (fun hto => CW.plain ?_) (fun hto => CW.skip ?_)
      · rw [if_pos (show pkTo to x = true from decide_eq_true hto)] at hft
        refine RL.pure rfl rfl rfl rfl ?_
        refine RL.pure rfl rfl rfl rfl ?_
        refine RL.pure rfl rfl rfl rfl ?_
        refine RL.idx rfl rfl rfl rfl sl24 rfl rfl (hi5) (by omega) ((by omega)) ?_
        rintro q2 vs2 hvl2 hHe2 hre2
        rw [ek, hx] at hre2
        obtain ⟨ya2, yc2, rfl, _, _, _, _⟩ := id hre2
        refine RL.loads (j := 0) (us := [i64 x.frm, i64 x.to, i64 x.kind, .slice ya2 x.data.length yc2]) rfl rfl rfl rfl ty46 rfl (hHe2) (hg6.sh) rfl rfl ?_
        refine RL.buildSlice rfl rfl rfl rfl sl24 ze46 rfl rfl rfl rfl hg6 ?_
        rintro b7 w7 hg7 hax7
        refine ⟨trivial, ?_⟩
        refine RL.append (i := 1) (ys := [x]) rfl rfl rfl rfl sl24 ze46 rfl (by first | exact RInt.one _ | exact RStr.one | exact RBool.one | assumption) rfl rfl hg7 rfl ho ((Src.slice sl24 rfl (.inr ⟨_, rfl, Holds.one b7 _ 46⟩) hg7.1)) ((Chunks.single rfl hre2)) ((by simp only [List.length_singleton]; omega)) (by omega) ?_
        rintro a8 c8 A8 w8 hg8 ho8 hax8 hk8
        refine ⟨trivial, ?_⟩
        refine RL.pure rfl rfl rfl rfl ?_
        refine RL.done ?_
        rw [← hft] at ho8 ⊢
        exact fun ac ha => ⟨[(2, i64 to), (8, .slice a4 r.1.length c4), (12, .slice a14 (r.1.filter (pkTo to)).length c14), (13, i64 0), (14, .slice a8 ((r.1.take (k + 1)).filter (pkTo to)).length c8), (15, i64 k)], ha.sub ⟨rfl, rfl, rfl, rfl, rfl, rfl, trivial⟩, A8, a8, c8, rfl, hg8.drop, hax6.trans (hax7.trans hax8), ho8⟩
      · rw [if_neg (by simpa [pkTo] using hto), List.append_nil] at hft
        rw [hft]
        exact fun ac ha => ⟨[(2, i64 to), (8, .slice a4 r.1.length c4), (12, .slice a14 (r.1.filter (pkTo to)).length c14), (13, i64 0), (14, .slice ao ((r.1.take k).filter (pkTo to)).length co), (15, i64 k)], ha.sub ⟨rfl, rfl, rfl, rfl, rfl, rfl, trivial⟩, O, ao, co, rfl, hg6, hax6, ho⟩
    rintro E w9 ⟨O9, a9, c9, rfl, hg9, hax9, ho9⟩
    refine CW.plain ?_
    refine RL.pure rfl rfl rfl rfl ?_
    refine RL.add rfl rfl rfl rfl rfl rfl (by simp only [rng] at *; omega) ?_
    refine RL.pure rfl rfl rfl rfl ?_
    refine RL.done ?_
    cases j with
    | zero => omega
    | succ j => exact fun ac ha => ⟨j, [(2, i64 to), (8, .slice a4 r.1.length c4), (12, .slice a14 (r.1.filter (pkTo to)).length c14), (13, i64 0), (14, .slice a9 ((r.1.take (k + 1)).filter (pkTo to)).length c9), (15, i64 ((k + 1 : Nat) : Int))], ha.sub ⟨rfl, rfl, rfl, rfl, rfl, rfl, trivial⟩, ⟨O9, a9, c9, k + 1, rfl, hg9, hax9, ho9, by omega⟩, Nat.lt_succ_self j⟩
  · have hkl : k = r.1.length := by omega
    rw [hkl, List.take_length] at ho ⊢
    obtain ⟨s20, hg20, hle20, hq20⟩ := Good.letgo hg6
    have hi20 := ho.imm RPacket.up hle20 hq20
    have hi21 := hi15.up RPacket.up hle20
    refine CW.seq (CW.plain ?_)
    refine RL.pure rfl rfl rfl rfl ?_
    refine RL.pure rfl rfl rfl rfl ?_
    refine RL.pure rfl rfl rfl rfl ?_
    refine RL.pure rfl rfl rfl rfl ?_
    refine RL.len rfl rfl rfl rfl sl24 rfl ?_
    refine RL.as_ rfl rfl rfl rfl (.bool true) ((congrArg Value.bool (decide_eq_true (by omega)))) ?_
    refine RL.pure rfl rfl rfl rfl ?_
    refine RL.pure rfl rfl rfl rfl ?_
    refine RL.pure rfl rfl rfl rfl ?_
    refine RL.pure rfl rfl rfl rfl ?_
    refine RL.callV rfl rfl rfl rfl rfl ca11 (Same_ct hg20 hi20 hi21) ?_
    rintro v21 w21 hg21 hax21 rfl
    refine ⟨trivial, ?_⟩
    refine RL.pure rfl rfl rfl rfl ?_
    refine RL.pure rfl rfl rfl rfl ?_
    refine RL.done ?_
    exact CW.ret (ret (vs := [_]) ⟨_, _, rfl, rfl, rfl⟩ (Post.mk (hle.trans (hle515.trans hle20)) hg21.nil (hax6.trans hax21) rfl))
end Go.Lw
