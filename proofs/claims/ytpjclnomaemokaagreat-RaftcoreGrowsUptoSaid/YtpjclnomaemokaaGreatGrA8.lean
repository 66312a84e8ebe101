/-
  Parts of the proof of RaftcoreGrowsUptoSaid: the walk engine: KdB, Open, OpW, OpB, KdF, KdO, KdI, KdJ, KdK, KdH, KdG, KdL.
-/
import Derived.Test.YtpjclnomaemokaaGreatGrA7
import Derived.ProofKit
import Derived.OpenShut
import Derived.Carry
import Derived.Test.YtpjclnomaemokaaGreatRows

/-
 raftcore by the program: Step.
-/
namespace Go.Lw
open Go.Proofs
attribute [local irreducible] RL RA
section
variable {w : World} {s : Res} {os : List Res}
set_option maxRecDepth 100000 in
set_option maxHeartbeats 4000000 in
theorem Step_ct {r : Raft} {h : Hd} {i : Inp} {y : Lay} {da : Option Addr} {dc : Nat} (hg : Good w s os) (hr : RaftAt s r h) (hi : InpOk s i y da dc) (hR : NRng (newN r)) (hRz : NRng ((newN r).act i).1) (hb : (newN r).bears i) (htl : r.part.data.length ≤ 70368744177664) :
  Calls Tryz.prog 11 #[.agg (raftV r h).toArray, .agg (inpV i y da dc).toArray] w (Post w s os fun s' _ q => ∃ h1 h2, q = .tuple #[.agg (raftV (stepP r i).1 h1).toArray, .agg (outV (stepP r i).2.1 h2).toArray, i64 (stepP r i).2.2] ∧ RaftAt s' (stepP r i).1 h1 ∧ OutAt s' (stepP r i).2.1 h2) := by
 have hS : r.log.small := hb.1.1.1
 have hbl : r.ballots.length ≤ 68719476736 := hb.1.2.1
 have hpl : r.peers.length ≤ 4294967296 := hb.1.1.2.2.1
 refine enter (l := [.agg (raftV r h).toArray, .agg (inpV i y da dc).toArray]) Tryz.func11 rfl Tryz.ntmps11 rfl ?_
 refine CW.seq (CW.plain ?_)
 refine RL.boxN rfl rfl rfl rfl rfl hg ?_
 rintro b1 w1 Q1 (hg1 : Good _ s (Q1 :: os)) hax1 hb1
 refine ⟨trivial, ?_⟩
 refine RL.boxN rfl rfl rfl rfl rfl hg1 ?_
 rintro b2 w2 Q2 (hg2 : Good _ s (Q2 :: Q1 :: os)) hax2 hb2
 refine ⟨trivial, ?_⟩
 refine RL.allocN rfl rfl rfl rfl ze44 hg2 ?_
 rintro b3 w3 Q3 (hg3 : Good _ s (Q3 :: Q2 :: Q1 :: os)) hax3 hb3
 refine ⟨trivial, ?_⟩
 refine RL.allocN rfl rfl rfl rfl ze50 hg3 ?_
 rintro b4 w4 Q4 (hg4 : Good _ s (Q4 :: Q3 :: Q2 :: Q1 :: os)) hax4 hb4
 refine ⟨trivial, ?_⟩
 refine RL.pd ?_
 refine CW.seq (CW.plain ?_)
 refine RL.ls 0 ty44 hb1 hg4 ?_
 refine RL.call rfl rfl rfl rfl rfl ca33 (copied_ct hg4 hr hS hbl hpl htl) ?_
 rintro v5 s5 Q5 w5 hle5 (hg5 : Good _ s5 (Q5 :: Q4 :: Q3 :: Q2 :: Q1 :: os)) hax5 ⟨hh, rfl, hN0⟩
 have hr := hr.up hle5
 have hi := hi.up hle5
 refine ⟨trivial, ?_⟩
 refine RL.build rfl rfl rfl rfl ze109 pl109 rfl rfl ?_
 refine RL.boxN rfl rfl rfl rfl rfl hg5 ?_
 rintro p wN QN hgN haxN hbN
 have e2 := Res.le_join_right (r := QN) (Apart.of2 hgN)
 have ndN : Nd s5 (QN.join Q5) p { hh with oa := none, oc := 0, ma := none, mc := 0 } (newN r) := ⟨Res.le_join_left _ _ _ _ hbN, let ⟨a, b, c, d, e, f, g, _, _, _⟩ := hN0; ⟨a, b, c, d.mem e2, e.mem e2, f.mem e2, g, Own.nil _ _ _ _ _, Own.nil _ _ _ _ _, Dj.none_right _⟩⟩
 have hgJ := hgN.join
 obtain ⟨AN, hAN⟩ : ∃ Z, Z = QN.join Q5 := ⟨_, rfl⟩
 rw [← hAN] at ndN hgJ
 refine ⟨trivial, ?_⟩
 refine RL.pd ?_
 refine CW.seq (CW.plain ?_)
 refine RL.pu ?_
 refine RL.makeB rfl rfl rfl rfl rfl rfl ?_
 refine RL.pd ?_
 refine CW.seq ?_
 refine CW.seq (CW.plain ?_)
 refine RL.fi fl61_0 ?_
 refine RL.lo 0 ty53 hb2 hgJ ?_
 refine RL.done ?_
 refine CW.block ?_
 refine CW.seq (CW.plain ?_)
 refine RL.pu ?_
 refine RL.pd ?_
 refine CW.cond rfl (fun h18 => ?_) (fun h18 => ?_)
 ·
  obtain ⟨hcf, hct⟩ : ActsAs 35 (newN r) i y da dc p := acts_tick (by simpa using h18) hR hb
  refine CW.plain ?_
  refine RL.pu ?_
  refine RL.makeB rfl rfl rfl rfl rfl rfl ?_
  refine RL.pd ?_
  refine CW.seq ?_
  refine CW.seq (CW.plain ?_)
  refine RL.pu ?_
  refine RL.ls 0 ty61 hb2 hgJ ?_
  refine RL.callB rfl rfl rfl rfl rfl rfl hcf (hct hgJ ndN hi) ?_
  rintro e6 w6 ⟨v6, s6, A6, rfl, hle6, (hg6 : Good _ s6 (A6 :: Q4 :: Q3 :: Q2 :: Q1 :: os)), hax6, ⟨rfl, h6, nd6⟩⟩
  have hr := hr.up hle6
  have hi := hi.up hle6
  refine ⟨_, rfl, trivial, ?_⟩
  refine RL.pd ?_
  refine CW.seq (CW.plain ?_)
  refine RL.pu ?_
  refine RL.pd ?_
  refine CW.cond rfl (fun h36 => ?_) (fun h36 => ?_)
  ·
   refine CW.seq (CW.plain ?_)
   refine RL.ls 0 ty44 hb1 hg6 ?_
   refine RL.call rfl rfl rfl rfl rfl ca33 (copied_ct hg6 hr hS hbl hpl htl) ?_
   rintro v7 s7 B7 w7 hle7 (hg7 : Good _ s7 (B7 :: A6 :: Q4 :: Q3 :: Q2 :: Q1 :: os)) hax7 ⟨h38, rfl, hN38⟩
   have nd8 := nd6.up hle7
   have hr := hr.up hle7
   have hi := hi.up hle7
   obtain ⟨t7, hgl7, hll7, hml7⟩ := hg7.letgo
   have hg7 : Good _ t7 (A6 :: Q4 :: Q3 :: Q2 :: Q1 :: os) := hgl7
   have nd9 := nd8.up hll7
   have hr := hr.up hll7
   have hi := hi.up hll7
   have hRA := hN38.raftAt (n := newN r) hR hll7 hml7
   refine ⟨trivial, ?_⟩
   refine RL.build rfl rfl rfl rfl ze50 pl50 rfl rfl ?_
   refine RL.pu ?_
   refine RL.sB (b := b3) (i := 2) (j := 0) rfl rfl rfl ty44 rfl rfl hg7 rfl (hb3) rfl rfl ?_
   rintro w10 Q10 (hg10 : Good _ t7 (A6 :: Q4 :: Q10 :: Q2 :: Q1 :: os)) hax10 hb10
   refine ⟨trivial, ?_⟩
   refine RL.sB (b := b4) (i := 1) (j := 0) rfl rfl rfl ty50 rfl rfl hg10 rfl (hb4) rfl rfl ?_
   rintro w11 Q11 (hg11 : Good _ t7 (A6 :: Q11 :: Q10 :: Q2 :: Q1 :: os)) hax11 hb11
   refine ⟨trivial, ?_⟩
   refine RL.pd ?_
   refine CW.ret (ret (vs := [_, _, _]) ⟨_, _, _, rfl, rfl, loadVar_agg ty44 hb10 (hg11.mem (by simp)) rfl, _, _, _, rfl, rfl, loadVar_agg ty50 hb11 (hg11.mem (by simp)) rfl, _, _, rfl, rfl, rfl⟩ ?_)
   have hst := stepP_err (r := r) (i := i) (by simpa using h36)
   exact Post.mk (hle5.trans (hle6.trans (hle7.trans hll7))) (((((hg11.drop).drop).drop).drop).drop).nil (hax1.trans (hax2.trans (hax3.trans (hax4.trans (hax5.trans (haxN.trans (hax6.trans (hax7.trans (hax10.trans hax11))))))))) ⟨h38, hd0, by rw [hst]; rfl, by rw [hst]; exact hRA, by rw [hst]; exact ⟨Imm.nil _ _ _ (Nat.zero_le _), Imm.nil _ _ _ (Nat.zero_le _)⟩⟩
  ·
   refine CW.skip ?_
   refine CW.seq ?_
   have hg12 := hg6.drew
   refine CW.draws2 [(true, 0), (true, 1), (true, 2), (true, 3), (true, 4), (true, 5), (true, 6), (true, 7), (true, 8), (true, 9), (true, 10), (true, 11)] [(false, 12)] 12 #[true, true, true, true, true, true, true, true, true, true, true, true, false] (fun w => At1 p _ w ∧ At1 b1 _ w ∧ True) mixed (by kernel_rfl) (by kernel_rfl) (by kernel_rfl) (by kernel_rfl) (by kernel_rfl) (⟨hg12.at1 (by simp) nd6.cells, hg12.at1 (by simp) hb1, trivial⟩) ?_
   refine RL.pp ?_
   refine RL.pu ?_
   refine RL.fi fl109_0 ?_
   refine RL.fi fl44_1 ?_
   refine RL.loadsT (ad := ⟨p, 0, none⟩) (j := 1) rfl rfl rfl rfl ty24 rfl (At1.holds) (fun w h => h.1.inn) rfl rfl ?_
   refine RL.fi fl44_1 ?_
   refine RL.loadsT (ad := ⟨b1, 0, none⟩) (j := 1) rfl rfl rfl rfl ty24 rfl (At1.holds) (fun w h => h.2.1.inn) rfl rfl ?_
   refine RL.stNe rfl rfl rfl rfl (by kernel_rfl) rfl rfl (hard_ne ((newN r).act i).1.s.hard r.hard) ?_
   refine RL.pu ?_
   refine RL.fi fl109_1 ?_
   refine RL.fi fl50_2 ?_
   refine RL.done ?_
   refine RL.next trivial ?_
   refine RL.storeT (p := p) (i := 0) (j := 22) rfl rfl rfl ty4 rfl rfl hg12 rfl (nd6.cells) (NRest.wSave nd6.rest) rfl (Nat.le_of_ble_eq_true rfl) rfl ?_
   rintro w13 A13 (hg13 : Good _ s6 (A13 :: Q4 :: Q3 :: Q2 :: Q1 :: os)) hax13 nd13
   refine ⟨trivial, ?_⟩
   refine RL.done ?_
   refine CW.seq ?_
   have hg14 := hg13.drew
   refine CW.draws [(true, 0), (true, 1), (true, 2), (true, 3), (true, 4), (true, 5), (true, 6), (true, 7), (false, 8), (false, 9), (false, 10)] (fun w => At1 p _ w ∧ True) mixed (by kernel_rfl) (by kernel_rfl) (by kernel_rfl) (by kernel_rfl) (⟨hg14.at1 (by simp) nd13.cells, trivial⟩) ?_
   refine RL.pp ?_
   refine RL.fi fl109_0 ?_
   refine RL.loadsT (ad := ⟨p, 0, none⟩) (j := 0) rfl rfl rfl rfl ty44 rfl (At1.holds) (fun w h => h.1.inn) rfl rfl ?_
   refine RL.pp ?_
   refine RL.fi fl109_1 ?_
   refine RL.loadsT (ad := ⟨p, 0, none⟩) (j := 20) rfl rfl rfl rfl ty50 rfl (At1.holds) (fun w h => h.1.inn) rfl rfl ?_
   refine RL.sB (b := b3) (i := 2) (j := 0) rfl rfl rfl ty44 rfl rfl hg14 rfl (hb3) rfl rfl ?_
   rintro w15 Q15 (hg15 : Good _ s6 (A13 :: Q4 :: Q15 :: Q2 :: Q1 :: os)) hax15 hb15
   refine ⟨⟨hg15.at1 (by simp) nd13.cells, trivial⟩, ?_⟩
   refine RL.sB (b := b4) (i := 1) (j := 0) rfl rfl rfl ty50 rfl rfl hg15 rfl (hb4) rfl rfl ?_
   rintro w16 Q16 (hg16 : Good _ s6 (A13 :: Q16 :: Q15 :: Q2 :: Q1 :: os)) hax16 hb16
   refine ⟨⟨hg16.at1 (by simp) nd13.cells, trivial⟩, ?_⟩
   refine RL.pd ?_
   refine CW.ret (ret (vs := [_, _, _]) ⟨_, _, _, rfl, rfl, loadVar_agg ty44 hb15 (hg16.mem (by simp)) rfl, _, _, _, rfl, rfl, loadVar_agg ty50 hb16 (hg16.mem (by simp)) rfl, _, _, rfl, rfl, rfl⟩ ?_)
   have hst := stepP_ok (r := r) (i := i) (by simpa using h36)
   have hz := ((((hg16.dropNext).dropNext).dropNext).dropNext)
   obtain ⟨s1, hgs1, hl1, hm1⟩ := hz.letgo
   exact Post.mk ((hle5.trans hle6).trans hl1) hgs1.nil (hax1.trans (hax2.trans (hax3.trans (hax4.trans (hax5.trans (haxN.trans (hax6.trans ((Aux.drew _).trans (hax13.trans ((Aux.drew _).trans (hax15.trans hax16))))))))))) ⟨_, _, by rw [hst]; rfl, by rw [hst]; exact (nd13).rest.raftAt hRz hl1 hm1, by rw [hst]; exact ⟨(nd13).outs.imm REntry.up hl1 hm1, (nd13).msgs.imm RMsg.up hl1 hm1⟩⟩
 ·
  have hk1 : i.kind ≠ 1 := by simpa using h18
  refine CW.seq (CW.plain ?_)
  refine RL.pu ?_
  refine RL.pd ?_
  refine CW.cond rfl (fun h22 => ?_) (fun h22 => ?_)
  ·
   obtain ⟨hcf, hct⟩ : ActsAs 36 (newN r) i y da dc p := acts_message (by simpa using h22) hR hb
   refine CW.plain ?_
   refine RL.pu ?_
   refine RL.makeB rfl rfl rfl rfl rfl rfl ?_
   refine RL.pd ?_
   refine CW.seq ?_
   refine CW.seq (CW.plain ?_)
   refine RL.pu ?_
   refine RL.ls 0 ty61 hb2 hgJ ?_
   refine RL.callB rfl rfl rfl rfl rfl rfl hcf (hct hgJ ndN hi) ?_
   rintro e17 w17 ⟨v17, s17, A17, rfl, hle17, (hg17 : Good _ s17 (A17 :: Q4 :: Q3 :: Q2 :: Q1 :: os)), hax17, ⟨rfl, h17, nd17⟩⟩
   have hr := hr.up hle17
   have hi := hi.up hle17
   refine ⟨_, rfl, trivial, ?_⟩
   refine RL.pd ?_
   refine CW.seq (CW.plain ?_)
   refine RL.pu ?_
   refine RL.pd ?_
   refine CW.cond rfl (fun h36 => ?_) (fun h36 => ?_)
   ·
    refine CW.seq (CW.plain ?_)
    refine RL.ls 0 ty44 hb1 hg17 ?_
    refine RL.call rfl rfl rfl rfl rfl ca33 (copied_ct hg17 hr hS hbl hpl htl) ?_
    rintro v18 s18 B18 w18 hle18 (hg18 : Good _ s18 (B18 :: A17 :: Q4 :: Q3 :: Q2 :: Q1 :: os)) hax18 ⟨h38, rfl, hN38⟩
    have nd19 := nd17.up hle18
    have hr := hr.up hle18
    have hi := hi.up hle18
    obtain ⟨t18, hgl18, hll18, hml18⟩ := hg18.letgo
    have hg18 : Good _ t18 (A17 :: Q4 :: Q3 :: Q2 :: Q1 :: os) := hgl18
    have nd20 := nd19.up hll18
    have hr := hr.up hll18
    have hi := hi.up hll18
    have hRA := hN38.raftAt (n := newN r) hR hll18 hml18
    refine ⟨trivial, ?_⟩
    refine RL.build rfl rfl rfl rfl ze50 pl50 rfl rfl ?_
    refine RL.pu ?_
    refine RL.sB (b := b3) (i := 2) (j := 0) rfl rfl rfl ty44 rfl rfl hg18 rfl (hb3) rfl rfl ?_
    rintro w21 Q21 (hg21 : Good _ t18 (A17 :: Q4 :: Q21 :: Q2 :: Q1 :: os)) hax21 hb21
    refine ⟨trivial, ?_⟩
    refine RL.sB (b := b4) (i := 1) (j := 0) rfl rfl rfl ty50 rfl rfl hg21 rfl (hb4) rfl rfl ?_
    rintro w22 Q22 (hg22 : Good _ t18 (A17 :: Q22 :: Q21 :: Q2 :: Q1 :: os)) hax22 hb22
    refine ⟨trivial, ?_⟩
    refine RL.pd ?_
    refine CW.ret (ret (vs := [_, _, _]) ⟨_, _, _, rfl, rfl, loadVar_agg ty44 hb21 (hg22.mem (by simp)) rfl, _, _, _, rfl, rfl, loadVar_agg ty50 hb22 (hg22.mem (by simp)) rfl, _, _, rfl, rfl, rfl⟩ ?_)
    have hst := stepP_err (r := r) (i := i) (by simpa using h36)
    exact Post.mk (hle5.trans (hle17.trans (hle18.trans hll18))) (((((hg22.drop).drop).drop).drop).drop).nil (hax1.trans (hax2.trans (hax3.trans (hax4.trans (hax5.trans (haxN.trans (hax17.trans (hax18.trans (hax21.trans hax22))))))))) ⟨h38, hd0, by rw [hst]; rfl, by rw [hst]; exact hRA, by rw [hst]; exact ⟨Imm.nil _ _ _ (Nat.zero_le _), Imm.nil _ _ _ (Nat.zero_le _)⟩⟩
   ·
    refine CW.skip ?_
    refine CW.seq ?_
    have hg23 := hg17.drew
    refine CW.draws2 [(true, 0), (true, 1), (true, 2), (true, 3), (true, 4), (true, 5), (true, 6), (true, 7), (true, 8), (true, 9), (true, 10), (true, 11)] [(false, 12)] 12 #[true, true, true, true, true, true, true, true, true, true, true, true, false] (fun w => At1 p _ w ∧ At1 b1 _ w ∧ True) mixed (by kernel_rfl) (by kernel_rfl) (by kernel_rfl) (by kernel_rfl) (by kernel_rfl) (⟨hg23.at1 (by simp) nd17.cells, hg23.at1 (by simp) hb1, trivial⟩) ?_
    refine RL.pp ?_
    refine RL.pu ?_
    refine RL.fi fl109_0 ?_
    refine RL.fi fl44_1 ?_
    refine RL.loadsT (ad := ⟨p, 0, none⟩) (j := 1) rfl rfl rfl rfl ty24 rfl (At1.holds) (fun w h => h.1.inn) rfl rfl ?_
    refine RL.fi fl44_1 ?_
    refine RL.loadsT (ad := ⟨b1, 0, none⟩) (j := 1) rfl rfl rfl rfl ty24 rfl (At1.holds) (fun w h => h.2.1.inn) rfl rfl ?_
    refine RL.stNe rfl rfl rfl rfl (by kernel_rfl) rfl rfl (hard_ne ((newN r).act i).1.s.hard r.hard) ?_
    refine RL.pu ?_
    refine RL.fi fl109_1 ?_
    refine RL.fi fl50_2 ?_
    refine RL.done ?_
    refine RL.next trivial ?_
    refine RL.storeT (p := p) (i := 0) (j := 22) rfl rfl rfl ty4 rfl rfl hg23 rfl (nd17.cells) (NRest.wSave nd17.rest) rfl (Nat.le_of_ble_eq_true rfl) rfl ?_
    rintro w24 A24 (hg24 : Good _ s17 (A24 :: Q4 :: Q3 :: Q2 :: Q1 :: os)) hax24 nd24
    refine ⟨trivial, ?_⟩
    refine RL.done ?_
    refine CW.seq ?_
    have hg25 := hg24.drew
    refine CW.draws [(true, 0), (true, 1), (true, 2), (true, 3), (true, 4), (true, 5), (true, 6), (true, 7), (false, 8), (false, 9), (false, 10)] (fun w => At1 p _ w ∧ True) mixed (by kernel_rfl) (by kernel_rfl) (by kernel_rfl) (by kernel_rfl) (⟨hg25.at1 (by simp) nd24.cells, trivial⟩) ?_
    refine RL.pp ?_
    refine RL.fi fl109_0 ?_
    refine RL.loadsT (ad := ⟨p, 0, none⟩) (j := 0) rfl rfl rfl rfl ty44 rfl (At1.holds) (fun w h => h.1.inn) rfl rfl ?_
    refine RL.pp ?_
    refine RL.fi fl109_1 ?_
    refine RL.loadsT (ad := ⟨p, 0, none⟩) (j := 20) rfl rfl rfl rfl ty50 rfl (At1.holds) (fun w h => h.1.inn) rfl rfl ?_
    refine RL.sB (b := b3) (i := 2) (j := 0) rfl rfl rfl ty44 rfl rfl hg25 rfl (hb3) rfl rfl ?_
    rintro w26 Q26 (hg26 : Good _ s17 (A24 :: Q4 :: Q26 :: Q2 :: Q1 :: os)) hax26 hb26
    refine ⟨⟨hg26.at1 (by simp) nd24.cells, trivial⟩, ?_⟩
    refine RL.sB (b := b4) (i := 1) (j := 0) rfl rfl rfl ty50 rfl rfl hg26 rfl (hb4) rfl rfl ?_
    rintro w27 Q27 (hg27 : Good _ s17 (A24 :: Q27 :: Q26 :: Q2 :: Q1 :: os)) hax27 hb27
    refine ⟨⟨hg27.at1 (by simp) nd24.cells, trivial⟩, ?_⟩
    refine RL.pd ?_
    refine CW.ret (ret (vs := [_, _, _]) ⟨_, _, _, rfl, rfl, loadVar_agg ty44 hb26 (hg27.mem (by simp)) rfl, _, _, _, rfl, rfl, loadVar_agg ty50 hb27 (hg27.mem (by simp)) rfl, _, _, rfl, rfl, rfl⟩ ?_)
    have hst := stepP_ok (r := r) (i := i) (by simpa using h36)
    have hz := ((((hg27.dropNext).dropNext).dropNext).dropNext)
    obtain ⟨s1, hgs1, hl1, hm1⟩ := hz.letgo
    exact Post.mk ((hle5.trans hle17).trans hl1) hgs1.nil (hax1.trans (hax2.trans (hax3.trans (hax4.trans (hax5.trans (haxN.trans (hax17.trans ((Aux.drew _).trans (hax24.trans ((Aux.drew _).trans (hax26.trans hax27))))))))))) ⟨_, _, by rw [hst]; rfl, by rw [hst]; exact (nd24).rest.raftAt hRz hl1 hm1, by rw [hst]; exact ⟨(nd24).outs.imm REntry.up hl1 hm1, (nd24).msgs.imm RMsg.up hl1 hm1⟩⟩
  ·
   have hk2 : i.kind ≠ 2 := by simpa using h22
   refine CW.seq ?_
   refine CW.seq (CW.plain ?_)
   refine RL.pu ?_
   refine RL.pd ?_
   refine CW.cond rfl (fun h26 => ?_) (fun h26 => ?_)
   ·
    obtain ⟨hcf, hct⟩ : ActsAs 37 (newN r) i y da dc p := acts_asked (.inl (by simpa using h26)) hR hb
    refine CW.skip ?_
    refine CW.yes (by first | rfl | exact congrArg (fun b => some (Value.bool b)) (by assumption)) ?_
    refine CW.plain ?_
    refine RL.pu ?_
    refine RL.makeB rfl rfl rfl rfl rfl rfl ?_
    refine RL.pd ?_
    refine CW.seq ?_
    refine CW.seq (CW.plain ?_)
    refine RL.pu ?_
    refine RL.ls 0 ty61 hb2 hgJ ?_
    refine RL.callB rfl rfl rfl rfl rfl rfl hcf (hct hgJ ndN hi) ?_
    rintro e28 w28 ⟨v28, s28, A28, rfl, hle28, (hg28 : Good _ s28 (A28 :: Q4 :: Q3 :: Q2 :: Q1 :: os)), hax28, ⟨rfl, h28, nd28⟩⟩
    have hr := hr.up hle28
    have hi := hi.up hle28
    refine ⟨_, rfl, trivial, ?_⟩
    refine RL.pd ?_
    refine CW.seq (CW.plain ?_)
    refine RL.pu ?_
    refine RL.pd ?_
    refine CW.cond rfl (fun h36 => ?_) (fun h36 => ?_)
    ·
     refine CW.seq (CW.plain ?_)
     refine RL.ls 0 ty44 hb1 hg28 ?_
     refine RL.call rfl rfl rfl rfl rfl ca33 (copied_ct hg28 hr hS hbl hpl htl) ?_
     rintro v29 s29 B29 w29 hle29 (hg29 : Good _ s29 (B29 :: A28 :: Q4 :: Q3 :: Q2 :: Q1 :: os)) hax29 ⟨h38, rfl, hN38⟩
     have nd30 := nd28.up hle29
     have hr := hr.up hle29
     have hi := hi.up hle29
     obtain ⟨t29, hgl29, hll29, hml29⟩ := hg29.letgo
     have hg29 : Good _ t29 (A28 :: Q4 :: Q3 :: Q2 :: Q1 :: os) := hgl29
     have nd31 := nd30.up hll29
     have hr := hr.up hll29
     have hi := hi.up hll29
     have hRA := hN38.raftAt (n := newN r) hR hll29 hml29
     refine ⟨trivial, ?_⟩
     refine RL.build rfl rfl rfl rfl ze50 pl50 rfl rfl ?_
     refine RL.pu ?_
     refine RL.sB (b := b3) (i := 2) (j := 0) rfl rfl rfl ty44 rfl rfl hg29 rfl (hb3) rfl rfl ?_
     rintro w32 Q32 (hg32 : Good _ t29 (A28 :: Q4 :: Q32 :: Q2 :: Q1 :: os)) hax32 hb32
     refine ⟨trivial, ?_⟩
     refine RL.sB (b := b4) (i := 1) (j := 0) rfl rfl rfl ty50 rfl rfl hg32 rfl (hb4) rfl rfl ?_
     rintro w33 Q33 (hg33 : Good _ t29 (A28 :: Q33 :: Q32 :: Q2 :: Q1 :: os)) hax33 hb33
     refine ⟨trivial, ?_⟩
     refine RL.pd ?_
     refine CW.ret (ret (vs := [_, _, _]) ⟨_, _, _, rfl, rfl, loadVar_agg ty44 hb32 (hg33.mem (by simp)) rfl, _, _, _, rfl, rfl, loadVar_agg ty50 hb33 (hg33.mem (by simp)) rfl, _, _, rfl, rfl, rfl⟩ ?_)
     have hst := stepP_err (r := r) (i := i) (by simpa using h36)
     exact Post.mk (hle5.trans (hle28.trans (hle29.trans hll29))) (((((hg33.drop).drop).drop).drop).drop).nil (hax1.trans (hax2.trans (hax3.trans (hax4.trans (hax5.trans (haxN.trans (hax28.trans (hax29.trans (hax32.trans hax33))))))))) ⟨h38, hd0, by rw [hst]; rfl, by rw [hst]; exact hRA, by rw [hst]; exact ⟨Imm.nil _ _ _ (Nat.zero_le _), Imm.nil _ _ _ (Nat.zero_le _)⟩⟩
    ·
     refine CW.skip ?_
     refine CW.seq ?_
     have hg34 := hg28.drew
     refine CW.draws2 [(true, 0), (true, 1), (true, 2), (true, 3), (true, 4), (true, 5), (true, 6), (true, 7), (true, 8), (true, 9), (true, 10), (true, 11)] [(false, 12)] 12 #[true, true, true, true, true, true, true, true, true, true, true, true, false] (fun w => At1 p _ w ∧ At1 b1 _ w ∧ True) mixed (by kernel_rfl) (by kernel_rfl) (by kernel_rfl) (by kernel_rfl) (by kernel_rfl) (⟨hg34.at1 (by simp) nd28.cells, hg34.at1 (by simp) hb1, trivial⟩) ?_
     refine RL.pp ?_
     refine RL.pu ?_
     refine RL.fi fl109_0 ?_
     refine RL.fi fl44_1 ?_
     refine RL.loadsT (ad := ⟨p, 0, none⟩) (j := 1) rfl rfl rfl rfl ty24 rfl (At1.holds) (fun w h => h.1.inn) rfl rfl ?_
     refine RL.fi fl44_1 ?_
     refine RL.loadsT (ad := ⟨b1, 0, none⟩) (j := 1) rfl rfl rfl rfl ty24 rfl (At1.holds) (fun w h => h.2.1.inn) rfl rfl ?_
     refine RL.stNe rfl rfl rfl rfl (by kernel_rfl) rfl rfl (hard_ne ((newN r).act i).1.s.hard r.hard) ?_
     refine RL.pu ?_
     refine RL.fi fl109_1 ?_
     refine RL.fi fl50_2 ?_
     refine RL.done ?_
     refine RL.next trivial ?_
     refine RL.storeT (p := p) (i := 0) (j := 22) rfl rfl rfl ty4 rfl rfl hg34 rfl (nd28.cells) (NRest.wSave nd28.rest) rfl (Nat.le_of_ble_eq_true rfl) rfl ?_
     rintro w35 A35 (hg35 : Good _ s28 (A35 :: Q4 :: Q3 :: Q2 :: Q1 :: os)) hax35 nd35
     refine ⟨trivial, ?_⟩
     refine RL.done ?_
     refine CW.seq ?_
     have hg36 := hg35.drew
     refine CW.draws [(true, 0), (true, 1), (true, 2), (true, 3), (true, 4), (true, 5), (true, 6), (true, 7), (false, 8), (false, 9), (false, 10)] (fun w => At1 p _ w ∧ True) mixed (by kernel_rfl) (by kernel_rfl) (by kernel_rfl) (by kernel_rfl) (⟨hg36.at1 (by simp) nd35.cells, trivial⟩) ?_
     refine RL.pp ?_
     refine RL.fi fl109_0 ?_
     refine RL.loadsT (ad := ⟨p, 0, none⟩) (j := 0) rfl rfl rfl rfl ty44 rfl (At1.holds) (fun w h => h.1.inn) rfl rfl ?_
     refine RL.pp ?_
     refine RL.fi fl109_1 ?_
     refine RL.loadsT (ad := ⟨p, 0, none⟩) (j := 20) rfl rfl rfl rfl ty50 rfl (At1.holds) (fun w h => h.1.inn) rfl rfl ?_
     refine RL.sB (b := b3) (i := 2) (j := 0) rfl rfl rfl ty44 rfl rfl hg36 rfl (hb3) rfl rfl ?_
     rintro w37 Q37 (hg37 : Good _ s28 (A35 :: Q4 :: Q37 :: Q2 :: Q1 :: os)) hax37 hb37
     refine ⟨⟨hg37.at1 (by simp) nd35.cells, trivial⟩, ?_⟩
     refine RL.sB (b := b4) (i := 1) (j := 0) rfl rfl rfl ty50 rfl rfl hg37 rfl (hb4) rfl rfl ?_
     rintro w38 Q38 (hg38 : Good _ s28 (A35 :: Q38 :: Q37 :: Q2 :: Q1 :: os)) hax38 hb38
     refine ⟨⟨hg38.at1 (by simp) nd35.cells, trivial⟩, ?_⟩
     refine RL.pd ?_
     refine CW.ret (ret (vs := [_, _, _]) ⟨_, _, _, rfl, rfl, loadVar_agg ty44 hb37 (hg38.mem (by simp)) rfl, _, _, _, rfl, rfl, loadVar_agg ty50 hb38 (hg38.mem (by simp)) rfl, _, _, rfl, rfl, rfl⟩ ?_)
     have hst := stepP_ok (r := r) (i := i) (by simpa using h36)
     have hz := ((((hg38.dropNext).dropNext).dropNext).dropNext)
     obtain ⟨s1, hgs1, hl1, hm1⟩ := hz.letgo
     exact Post.mk ((hle5.trans hle28).trans hl1) hgs1.nil (hax1.trans (hax2.trans (hax3.trans (hax4.trans (hax5.trans (haxN.trans (hax28.trans ((Aux.drew _).trans (hax35.trans ((Aux.drew _).trans (hax37.trans hax38))))))))))) ⟨_, _, by rw [hst]; rfl, by rw [hst]; exact (nd35).rest.raftAt hRz hl1 hm1, by rw [hst]; exact ⟨(nd35).outs.imm REntry.up hl1 hm1, (nd35).msgs.imm RMsg.up hl1 hm1⟩⟩
   ·
    have hk3 : i.kind ≠ 3 := by simpa using h26
    refine CW.seq (CW.plain ?_)
    refine RL.pu ?_
    refine RL.pd ?_
    refine CW.cond rfl (fun h26 => ?_) (fun h26 => ?_)
    ·
     obtain ⟨hcf, hct⟩ : ActsAs 37 (newN r) i y da dc p := acts_asked (.inr (.inl (by simpa using h26))) hR hb
     refine CW.skip ?_
     refine CW.yes (by first | rfl | exact congrArg (fun b => some (Value.bool b)) (by assumption)) ?_
     refine CW.plain ?_
     refine RL.pu ?_
     refine RL.makeB rfl rfl rfl rfl rfl rfl ?_
     refine RL.pd ?_
     refine CW.seq ?_
     refine CW.seq (CW.plain ?_)
     refine RL.pu ?_
     refine RL.ls 0 ty61 hb2 hgJ ?_
     refine RL.callB rfl rfl rfl rfl rfl rfl hcf (hct hgJ ndN hi) ?_
     rintro e39 w39 ⟨v39, s39, A39, rfl, hle39, (hg39 : Good _ s39 (A39 :: Q4 :: Q3 :: Q2 :: Q1 :: os)), hax39, ⟨rfl, h39, nd39⟩⟩
     have hr := hr.up hle39
     have hi := hi.up hle39
     refine ⟨_, rfl, trivial, ?_⟩
     refine RL.pd ?_
     refine CW.seq (CW.plain ?_)
     refine RL.pu ?_
     refine RL.pd ?_
     refine CW.cond rfl (fun h36 => ?_) (fun h36 => ?_)
     ·
      refine CW.seq (CW.plain ?_)
      refine RL.ls 0 ty44 hb1 hg39 ?_
      refine RL.call rfl rfl rfl rfl rfl ca33 (copied_ct hg39 hr hS hbl hpl htl) ?_
      rintro v40 s40 B40 w40 hle40 (hg40 : Good _ s40 (B40 :: A39 :: Q4 :: Q3 :: Q2 :: Q1 :: os)) hax40 ⟨h38, rfl, hN38⟩
      have nd41 := nd39.up hle40
      have hr := hr.up hle40
      have hi := hi.up hle40
      obtain ⟨t40, hgl40, hll40, hml40⟩ := hg40.letgo
      have hg40 : Good _ t40 (A39 :: Q4 :: Q3 :: Q2 :: Q1 :: os) := hgl40
      have nd42 := nd41.up hll40
      have hr := hr.up hll40
      have hi := hi.up hll40
      have hRA := hN38.raftAt (n := newN r) hR hll40 hml40
      refine ⟨trivial, ?_⟩
      refine RL.build rfl rfl rfl rfl ze50 pl50 rfl rfl ?_
      refine RL.pu ?_
      refine RL.sB (b := b3) (i := 2) (j := 0) rfl rfl rfl ty44 rfl rfl hg40 rfl (hb3) rfl rfl ?_
      rintro w43 Q43 (hg43 : Good _ t40 (A39 :: Q4 :: Q43 :: Q2 :: Q1 :: os)) hax43 hb43
      refine ⟨trivial, ?_⟩
      refine RL.sB (b := b4) (i := 1) (j := 0) rfl rfl rfl ty50 rfl rfl hg43 rfl (hb4) rfl rfl ?_
      rintro w44 Q44 (hg44 : Good _ t40 (A39 :: Q44 :: Q43 :: Q2 :: Q1 :: os)) hax44 hb44
      refine ⟨trivial, ?_⟩
      refine RL.pd ?_
      refine CW.ret (ret (vs := [_, _, _]) ⟨_, _, _, rfl, rfl, loadVar_agg ty44 hb43 (hg44.mem (by simp)) rfl, _, _, _, rfl, rfl, loadVar_agg ty50 hb44 (hg44.mem (by simp)) rfl, _, _, rfl, rfl, rfl⟩ ?_)
      have hst := stepP_err (r := r) (i := i) (by simpa using h36)
      exact Post.mk (hle5.trans (hle39.trans (hle40.trans hll40))) (((((hg44.drop).drop).drop).drop).drop).nil (hax1.trans (hax2.trans (hax3.trans (hax4.trans (hax5.trans (haxN.trans (hax39.trans (hax40.trans (hax43.trans hax44))))))))) ⟨h38, hd0, by rw [hst]; rfl, by rw [hst]; exact hRA, by rw [hst]; exact ⟨Imm.nil _ _ _ (Nat.zero_le _), Imm.nil _ _ _ (Nat.zero_le _)⟩⟩
     ·
      refine CW.skip ?_
      refine CW.seq ?_
      have hg45 := hg39.drew
      refine CW.draws2 [(true, 0), (true, 1), (true, 2), (true, 3), (true, 4), (true, 5), (true, 6), (true, 7), (true, 8), (true, 9), (true, 10), (true, 11)] [(false, 12)] 12 #[true, true, true, true, true, true, true, true, true, true, true, true, false] (fun w => At1 p _ w ∧ At1 b1 _ w ∧ True) mixed (by kernel_rfl) (by kernel_rfl) (by kernel_rfl) (by kernel_rfl) (by kernel_rfl) (⟨hg45.at1 (by simp) nd39.cells, hg45.at1 (by simp) hb1, trivial⟩) ?_
      refine RL.pp ?_
      refine RL.pu ?_
      refine RL.fi fl109_0 ?_
      refine RL.fi fl44_1 ?_
      refine RL.loadsT (ad := ⟨p, 0, none⟩) (j := 1) rfl rfl rfl rfl ty24 rfl (At1.holds) (fun w h => h.1.inn) rfl rfl ?_
      refine RL.fi fl44_1 ?_
      refine RL.loadsT (ad := ⟨b1, 0, none⟩) (j := 1) rfl rfl rfl rfl ty24 rfl (At1.holds) (fun w h => h.2.1.inn) rfl rfl ?_
      refine RL.stNe rfl rfl rfl rfl (by kernel_rfl) rfl rfl (hard_ne ((newN r).act i).1.s.hard r.hard) ?_
      refine RL.pu ?_
      refine RL.fi fl109_1 ?_
      refine RL.fi fl50_2 ?_
      refine RL.done ?_
      refine RL.next trivial ?_
      refine RL.storeT (p := p) (i := 0) (j := 22) rfl rfl rfl ty4 rfl rfl hg45 rfl (nd39.cells) (NRest.wSave nd39.rest) rfl (Nat.le_of_ble_eq_true rfl) rfl ?_
      rintro w46 A46 (hg46 : Good _ s39 (A46 :: Q4 :: Q3 :: Q2 :: Q1 :: os)) hax46 nd46
      refine ⟨trivial, ?_⟩
      refine RL.done ?_
      refine CW.seq ?_
      have hg47 := hg46.drew
      refine CW.draws [(true, 0), (true, 1), (true, 2), (true, 3), (true, 4), (true, 5), (true, 6), (true, 7), (false, 8), (false, 9), (false, 10)] (fun w => At1 p _ w ∧ True) mixed (by kernel_rfl) (by kernel_rfl) (by kernel_rfl) (by kernel_rfl) (⟨hg47.at1 (by simp) nd46.cells, trivial⟩) ?_
      refine RL.pp ?_
      refine RL.fi fl109_0 ?_
      refine RL.loadsT (ad := ⟨p, 0, none⟩) (j := 0) rfl rfl rfl rfl ty44 rfl (At1.holds) (fun w h => h.1.inn) rfl rfl ?_
      refine RL.pp ?_
      refine RL.fi fl109_1 ?_
      refine RL.loadsT (ad := ⟨p, 0, none⟩) (j := 20) rfl rfl rfl rfl ty50 rfl (At1.holds) (fun w h => h.1.inn) rfl rfl ?_
      refine RL.sB (b := b3) (i := 2) (j := 0) rfl rfl rfl ty44 rfl rfl hg47 rfl (hb3) rfl rfl ?_
      rintro w48 Q48 (hg48 : Good _ s39 (A46 :: Q4 :: Q48 :: Q2 :: Q1 :: os)) hax48 hb48
      refine ⟨⟨hg48.at1 (by simp) nd46.cells, trivial⟩, ?_⟩
      refine RL.sB (b := b4) (i := 1) (j := 0) rfl rfl rfl ty50 rfl rfl hg48 rfl (hb4) rfl rfl ?_
      rintro w49 Q49 (hg49 : Good _ s39 (A46 :: Q49 :: Q48 :: Q2 :: Q1 :: os)) hax49 hb49
      refine ⟨⟨hg49.at1 (by simp) nd46.cells, trivial⟩, ?_⟩
      refine RL.pd ?_
      refine CW.ret (ret (vs := [_, _, _]) ⟨_, _, _, rfl, rfl, loadVar_agg ty44 hb48 (hg49.mem (by simp)) rfl, _, _, _, rfl, rfl, loadVar_agg ty50 hb49 (hg49.mem (by simp)) rfl, _, _, rfl, rfl, rfl⟩ ?_)
      have hst := stepP_ok (r := r) (i := i) (by simpa using h36)
      have hz := ((((hg49.dropNext).dropNext).dropNext).dropNext)
      obtain ⟨s1, hgs1, hl1, hm1⟩ := hz.letgo
      exact Post.mk ((hle5.trans hle39).trans hl1) hgs1.nil (hax1.trans (hax2.trans (hax3.trans (hax4.trans (hax5.trans (haxN.trans (hax39.trans ((Aux.drew _).trans (hax46.trans ((Aux.drew _).trans (hax48.trans hax49))))))))))) ⟨_, _, by rw [hst]; rfl, by rw [hst]; exact (nd46).rest.raftAt hRz hl1 hm1, by rw [hst]; exact ⟨(nd46).outs.imm REntry.up hl1 hm1, (nd46).msgs.imm RMsg.up hl1 hm1⟩⟩
    ·
     have hk4 : i.kind ≠ 4 := by simpa using h26
     refine CW.plain ?_
     refine RL.pu ?_
     refine RL.pd ?_
     refine CW.cond rfl (fun h26 => ?_) (fun h26 => ?_)
     ·
      obtain ⟨hcf, hct⟩ : ActsAs 37 (newN r) i y da dc p := acts_asked (.inr (.inr (by simpa using h26))) hR hb
      refine CW.plain ?_
      refine RL.pu ?_
      refine RL.makeB rfl rfl rfl rfl rfl rfl ?_
      refine RL.pd ?_
      refine CW.seq ?_
      refine CW.seq (CW.plain ?_)
      refine RL.pu ?_
      refine RL.ls 0 ty61 hb2 hgJ ?_
      refine RL.callB rfl rfl rfl rfl rfl rfl hcf (hct hgJ ndN hi) ?_
      rintro e50 w50 ⟨v50, s50, A50, rfl, hle50, (hg50 : Good _ s50 (A50 :: Q4 :: Q3 :: Q2 :: Q1 :: os)), hax50, ⟨rfl, h50, nd50⟩⟩
      have hr := hr.up hle50
      have hi := hi.up hle50
      refine ⟨_, rfl, trivial, ?_⟩
      refine RL.pd ?_
      refine CW.seq (CW.plain ?_)
      refine RL.pu ?_
      refine RL.pd ?_
      refine CW.cond rfl (fun h36 => ?_) (fun h36 => ?_)
      ·
       refine CW.seq (CW.plain ?_)
       refine RL.ls 0 ty44 hb1 hg50 ?_
       refine RL.call rfl rfl rfl rfl rfl ca33 (copied_ct hg50 hr hS hbl hpl htl) ?_
       rintro v51 s51 B51 w51 hle51 (hg51 : Good _ s51 (B51 :: A50 :: Q4 :: Q3 :: Q2 :: Q1 :: os)) hax51 ⟨h38, rfl, hN38⟩
       have nd52 := nd50.up hle51
       have hr := hr.up hle51
       have hi := hi.up hle51
       obtain ⟨t51, hgl51, hll51, hml51⟩ := hg51.letgo
       have hg51 : Good _ t51 (A50 :: Q4 :: Q3 :: Q2 :: Q1 :: os) := hgl51
       have nd53 := nd52.up hll51
       have hr := hr.up hll51
       have hi := hi.up hll51
       have hRA := hN38.raftAt (n := newN r) hR hll51 hml51
       refine ⟨trivial, ?_⟩
       refine RL.build rfl rfl rfl rfl ze50 pl50 rfl rfl ?_
       refine RL.pu ?_
       refine RL.sB (b := b3) (i := 2) (j := 0) rfl rfl rfl ty44 rfl rfl hg51 rfl (hb3) rfl rfl ?_
       rintro w54 Q54 (hg54 : Good _ t51 (A50 :: Q4 :: Q54 :: Q2 :: Q1 :: os)) hax54 hb54
       refine ⟨trivial, ?_⟩
       refine RL.sB (b := b4) (i := 1) (j := 0) rfl rfl rfl ty50 rfl rfl hg54 rfl (hb4) rfl rfl ?_
       rintro w55 Q55 (hg55 : Good _ t51 (A50 :: Q55 :: Q54 :: Q2 :: Q1 :: os)) hax55 hb55
       refine ⟨trivial, ?_⟩
       refine RL.pd ?_
       refine CW.ret (ret (vs := [_, _, _]) ⟨_, _, _, rfl, rfl, loadVar_agg ty44 hb54 (hg55.mem (by simp)) rfl, _, _, _, rfl, rfl, loadVar_agg ty50 hb55 (hg55.mem (by simp)) rfl, _, _, rfl, rfl, rfl⟩ ?_)
       have hst := stepP_err (r := r) (i := i) (by simpa using h36)
       exact Post.mk (hle5.trans (hle50.trans (hle51.trans hll51))) (((((hg55.drop).drop).drop).drop).drop).nil (hax1.trans (hax2.trans (hax3.trans (hax4.trans (hax5.trans (haxN.trans (hax50.trans (hax51.trans (hax54.trans hax55))))))))) ⟨h38, hd0, by rw [hst]; rfl, by rw [hst]; exact hRA, by rw [hst]; exact ⟨Imm.nil _ _ _ (Nat.zero_le _), Imm.nil _ _ _ (Nat.zero_le _)⟩⟩
      ·
       refine CW.skip ?_
       refine CW.seq ?_
       have hg56 := hg50.drew
       refine CW.draws2 [(true, 0), (true, 1), (true, 2), (true, 3), (true, 4), (true, 5), (true, 6), (true, 7), (true, 8), (true, 9), (true, 10), (true, 11)] [(false, 12)] 12 #[true, true, true, true, true, true, true, true, true, true, true, true, false] (fun w => At1 p _ w ∧ At1 b1 _ w ∧ True) mixed (by kernel_rfl) (by kernel_rfl) (by kernel_rfl) (by kernel_rfl) (by kernel_rfl) (⟨hg56.at1 (by simp) nd50.cells, hg56.at1 (by simp) hb1, trivial⟩) ?_
       refine RL.pp ?_
       refine RL.pu ?_
       refine RL.fi fl109_0 ?_
       refine RL.fi fl44_1 ?_
       refine RL.loadsT (ad := ⟨p, 0, none⟩) (j := 1) rfl rfl rfl rfl ty24 rfl (At1.holds) (fun w h => h.1.inn) rfl rfl ?_
       refine RL.fi fl44_1 ?_
       refine RL.loadsT (ad := ⟨b1, 0, none⟩) (j := 1) rfl rfl rfl rfl ty24 rfl (At1.holds) (fun w h => h.2.1.inn) rfl rfl ?_
       refine RL.stNe rfl rfl rfl rfl (by kernel_rfl) rfl rfl (hard_ne ((newN r).act i).1.s.hard r.hard) ?_
       refine RL.pu ?_
       refine RL.fi fl109_1 ?_
       refine RL.fi fl50_2 ?_
       refine RL.done ?_
       refine RL.next trivial ?_
       refine RL.storeT (p := p) (i := 0) (j := 22) rfl rfl rfl ty4 rfl rfl hg56 rfl (nd50.cells) (NRest.wSave nd50.rest) rfl (Nat.le_of_ble_eq_true rfl) rfl ?_
       rintro w57 A57 (hg57 : Good _ s50 (A57 :: Q4 :: Q3 :: Q2 :: Q1 :: os)) hax57 nd57
       refine ⟨trivial, ?_⟩
       refine RL.done ?_
       refine CW.seq ?_
       have hg58 := hg57.drew
       refine CW.draws [(true, 0), (true, 1), (true, 2), (true, 3), (true, 4), (true, 5), (true, 6), (true, 7), (false, 8), (false, 9), (false, 10)] (fun w => At1 p _ w ∧ True) mixed (by kernel_rfl) (by kernel_rfl) (by kernel_rfl) (by kernel_rfl) (⟨hg58.at1 (by simp) nd57.cells, trivial⟩) ?_
       refine RL.pp ?_
       refine RL.fi fl109_0 ?_
       refine RL.loadsT (ad := ⟨p, 0, none⟩) (j := 0) rfl rfl rfl rfl ty44 rfl (At1.holds) (fun w h => h.1.inn) rfl rfl ?_
       refine RL.pp ?_
       refine RL.fi fl109_1 ?_
       refine RL.loadsT (ad := ⟨p, 0, none⟩) (j := 20) rfl rfl rfl rfl ty50 rfl (At1.holds) (fun w h => h.1.inn) rfl rfl ?_
       refine RL.sB (b := b3) (i := 2) (j := 0) rfl rfl rfl ty44 rfl rfl hg58 rfl (hb3) rfl rfl ?_
       rintro w59 Q59 (hg59 : Good _ s50 (A57 :: Q4 :: Q59 :: Q2 :: Q1 :: os)) hax59 hb59
       refine ⟨⟨hg59.at1 (by simp) nd57.cells, trivial⟩, ?_⟩
       refine RL.sB (b := b4) (i := 1) (j := 0) rfl rfl rfl ty50 rfl rfl hg59 rfl (hb4) rfl rfl ?_
       rintro w60 Q60 (hg60 : Good _ s50 (A57 :: Q60 :: Q59 :: Q2 :: Q1 :: os)) hax60 hb60
       refine ⟨⟨hg60.at1 (by simp) nd57.cells, trivial⟩, ?_⟩
       refine RL.pd ?_
       refine CW.ret (ret (vs := [_, _, _]) ⟨_, _, _, rfl, rfl, loadVar_agg ty44 hb59 (hg60.mem (by simp)) rfl, _, _, _, rfl, rfl, loadVar_agg ty50 hb60 (hg60.mem (by simp)) rfl, _, _, rfl, rfl, rfl⟩ ?_)
       have hst := stepP_ok (r := r) (i := i) (by simpa using h36)
       have hz := ((((hg60.dropNext).dropNext).dropNext).dropNext)
       obtain ⟨s1, hgs1, hl1, hm1⟩ := hz.letgo
       exact Post.mk ((hle5.trans hle50).trans hl1) hgs1.nil (hax1.trans (hax2.trans (hax3.trans (hax4.trans (hax5.trans (haxN.trans (hax50.trans ((Aux.drew _).trans (hax57.trans ((Aux.drew _).trans (hax59.trans hax60))))))))))) ⟨_, _, by rw [hst]; rfl, by rw [hst]; exact (nd57).rest.raftAt hRz hl1 hm1, by rw [hst]; exact ⟨(nd57).outs.imm REntry.up hl1 hm1, (nd57).msgs.imm RMsg.up hl1 hm1⟩⟩
     ·
      obtain ⟨hcf, hct⟩ : ActsAs 34 (newN r) i y da dc p := acts_unknown ⟨hk1, hk2, hk3, hk4, by simpa using h26⟩
      refine CW.skip ?_
      refine CW.seq ?_
      refine CW.seq (CW.plain ?_)
      refine RL.pu ?_
      refine RL.ls 0 ty61 hb2 hgJ ?_
      refine RL.callB rfl rfl rfl rfl rfl rfl hcf (hct hgJ ndN hi) ?_
      rintro e61 w61 ⟨v61, s61, A61, rfl, hle61, (hg61 : Good _ s61 (A61 :: Q4 :: Q3 :: Q2 :: Q1 :: os)), hax61, ⟨rfl, h61, nd61⟩⟩
      have hr := hr.up hle61
      have hi := hi.up hle61
      refine ⟨_, rfl, trivial, ?_⟩
      refine RL.pd ?_
      refine CW.seq (CW.plain ?_)
      refine RL.pu ?_
      refine RL.pd ?_
      refine CW.cond rfl (fun h36 => ?_) (fun h36 => ?_)
      ·
       refine CW.seq (CW.plain ?_)
       refine RL.ls 0 ty44 hb1 hg61 ?_
       refine RL.call rfl rfl rfl rfl rfl ca33 (copied_ct hg61 hr hS hbl hpl htl) ?_
       rintro v62 s62 B62 w62 hle62 (hg62 : Good _ s62 (B62 :: A61 :: Q4 :: Q3 :: Q2 :: Q1 :: os)) hax62 ⟨h38, rfl, hN38⟩
       have nd63 := nd61.up hle62
       have hr := hr.up hle62
       have hi := hi.up hle62
       obtain ⟨t62, hgl62, hll62, hml62⟩ := hg62.letgo
       have hg62 : Good _ t62 (A61 :: Q4 :: Q3 :: Q2 :: Q1 :: os) := hgl62
       have nd64 := nd63.up hll62
       have hr := hr.up hll62
       have hi := hi.up hll62
       have hRA := hN38.raftAt (n := newN r) hR hll62 hml62
       refine ⟨trivial, ?_⟩
       refine RL.build rfl rfl rfl rfl ze50 pl50 rfl rfl ?_
       refine RL.pu ?_
       refine RL.sB (b := b3) (i := 2) (j := 0) rfl rfl rfl ty44 rfl rfl hg62 rfl (hb3) rfl rfl ?_
       rintro w65 Q65 (hg65 : Good _ t62 (A61 :: Q4 :: Q65 :: Q2 :: Q1 :: os)) hax65 hb65
       refine ⟨trivial, ?_⟩
       refine RL.sB (b := b4) (i := 1) (j := 0) rfl rfl rfl ty50 rfl rfl hg65 rfl (hb4) rfl rfl ?_
       rintro w66 Q66 (hg66 : Good _ t62 (A61 :: Q66 :: Q65 :: Q2 :: Q1 :: os)) hax66 hb66
       refine ⟨trivial, ?_⟩
       refine RL.pd ?_
       refine CW.ret (ret (vs := [_, _, _]) ⟨_, _, _, rfl, rfl, loadVar_agg ty44 hb65 (hg66.mem (by simp)) rfl, _, _, _, rfl, rfl, loadVar_agg ty50 hb66 (hg66.mem (by simp)) rfl, _, _, rfl, rfl, rfl⟩ ?_)
       have hst := stepP_err (r := r) (i := i) (by simpa using h36)
       exact Post.mk (hle5.trans (hle61.trans (hle62.trans hll62))) (((((hg66.drop).drop).drop).drop).drop).nil (hax1.trans (hax2.trans (hax3.trans (hax4.trans (hax5.trans (haxN.trans (hax61.trans (hax62.trans (hax65.trans hax66))))))))) ⟨h38, hd0, by rw [hst]; rfl, by rw [hst]; exact hRA, by rw [hst]; exact ⟨Imm.nil _ _ _ (Nat.zero_le _), Imm.nil _ _ _ (Nat.zero_le _)⟩⟩
      ·
       refine CW.skip ?_
       refine CW.seq ?_
       have hg67 := hg61.drew
       refine CW.draws2 [(true, 0), (true, 1), (true, 2), (true, 3), (true, 4), (true, 5), (true, 6), (true, 7), (true, 8), (true, 9), (true, 10), (true, 11)] [(false, 12)] 12 #[true, true, true, true, true, true, true, true, true, true, true, true, false] (fun w => At1 p _ w ∧ At1 b1 _ w ∧ True) mixed (by kernel_rfl) (by kernel_rfl) (by kernel_rfl) (by kernel_rfl) (by kernel_rfl) (⟨hg67.at1 (by simp) nd61.cells, hg67.at1 (by simp) hb1, trivial⟩) ?_
       refine RL.pp ?_
       refine RL.pu ?_
       refine RL.fi fl109_0 ?_
       refine RL.fi fl44_1 ?_
       refine RL.loadsT (ad := ⟨p, 0, none⟩) (j := 1) rfl rfl rfl rfl ty24 rfl (At1.holds) (fun w h => h.1.inn) rfl rfl ?_
       refine RL.fi fl44_1 ?_
       refine RL.loadsT (ad := ⟨b1, 0, none⟩) (j := 1) rfl rfl rfl rfl ty24 rfl (At1.holds) (fun w h => h.2.1.inn) rfl rfl ?_
       refine RL.stNe rfl rfl rfl rfl (by kernel_rfl) rfl rfl (hard_ne ((newN r).act i).1.s.hard r.hard) ?_
       refine RL.pu ?_
       refine RL.fi fl109_1 ?_
       refine RL.fi fl50_2 ?_
       refine RL.done ?_
       refine RL.next trivial ?_
       refine RL.storeT (p := p) (i := 0) (j := 22) rfl rfl rfl ty4 rfl rfl hg67 rfl (nd61.cells) (NRest.wSave nd61.rest) rfl (Nat.le_of_ble_eq_true rfl) rfl ?_
       rintro w68 A68 (hg68 : Good _ s61 (A68 :: Q4 :: Q3 :: Q2 :: Q1 :: os)) hax68 nd68
       refine ⟨trivial, ?_⟩
       refine RL.done ?_
       refine CW.seq ?_
       have hg69 := hg68.drew
       refine CW.draws [(true, 0), (true, 1), (true, 2), (true, 3), (true, 4), (true, 5), (true, 6), (true, 7), (false, 8), (false, 9), (false, 10)] (fun w => At1 p _ w ∧ True) mixed (by kernel_rfl) (by kernel_rfl) (by kernel_rfl) (by kernel_rfl) (⟨hg69.at1 (by simp) nd68.cells, trivial⟩) ?_
       refine RL.pp ?_
       refine RL.fi fl109_0 ?_
       refine RL.loadsT (ad := ⟨p, 0, none⟩) (j := 0) rfl rfl rfl rfl ty44 rfl (At1.holds) (fun w h => h.1.inn) rfl rfl ?_
       refine RL.pp ?_
       refine RL.fi fl109_1 ?_
       refine RL.loadsT (ad := ⟨p, 0, none⟩) (j := 20) rfl rfl rfl rfl ty50 rfl (At1.holds) (fun w h => h.1.inn) rfl rfl ?_
       refine RL.sB (b := b3) (i := 2) (j := 0) rfl rfl rfl ty44 rfl rfl hg69 rfl (hb3) rfl rfl ?_
       rintro w70 Q70 (hg70 : Good _ s61 (A68 :: Q4 :: Q70 :: Q2 :: Q1 :: os)) hax70 hb70
       refine ⟨⟨hg70.at1 (by simp) nd68.cells, trivial⟩, ?_⟩
       refine RL.sB (b := b4) (i := 1) (j := 0) rfl rfl rfl ty50 rfl rfl hg70 rfl (hb4) rfl rfl ?_
       rintro w71 Q71 (hg71 : Good _ s61 (A68 :: Q71 :: Q70 :: Q2 :: Q1 :: os)) hax71 hb71
       refine ⟨⟨hg71.at1 (by simp) nd68.cells, trivial⟩, ?_⟩
       refine RL.pd ?_
       refine CW.ret (ret (vs := [_, _, _]) ⟨_, _, _, rfl, rfl, loadVar_agg ty44 hb70 (hg71.mem (by simp)) rfl, _, _, _, rfl, rfl, loadVar_agg ty50 hb71 (hg71.mem (by simp)) rfl, _, _, rfl, rfl, rfl⟩ ?_)
       have hst := stepP_ok (r := r) (i := i) (by simpa using h36)
       have hz := ((((hg71.dropNext).dropNext).dropNext).dropNext)
       obtain ⟨s1, hgs1, hl1, hm1⟩ := hz.letgo
       exact Post.mk ((hle5.trans hle61).trans hl1) hgs1.nil (hax1.trans (hax2.trans (hax3.trans (hax4.trans (hax5.trans (haxN.trans (hax61.trans ((Aux.drew _).trans (hax68.trans ((Aux.drew _).trans (hax70.trans hax71))))))))))) ⟨_, _, by rw [hst]; rfl, by rw [hst]; exact (nd68).rest.raftAt hRz hl1 hm1, by rw [hst]; exact ⟨(nd68).outs.imm REntry.up hl1 hm1, (nd68).msgs.imm RMsg.up hl1 hm1⟩⟩
end
end Go.Lw

/-
 A LAW'S FRAME: what the row's reading of an argument gives the walk; how the walk's end gives the row's end. Over any program.
-/
namespace Go.Lw
open Go.ChangeShapes Go.WideShapes Go.ChangeAt Go.RowKit
def all (W : World) : Res := fun b => W.heap[b]?
theorem all_good (W : World) : Good W (all W) [] := fun _ _ h => h
def Opens {α H : Type} (bulk : DataW H → Nat) (enc : TypeId × Value → H) (P : Program) (W : World) (t : TypeId) (R : Res → List Value → α → Prop) (bk : α → Nat) : Prop :=
 ∀ (fuel : Nat) (cs : List Value) (d : DataW H) (ps : List MemPlace), DataW.trod enc P W 0 (fun _ => true) true fuel t cs = some (d, ps) → ∃ x : α, R (all W) cs x ∧ bk x ≤ bulk d
section
variable {α β H : Type} {bulk : DataW H → Nat} {enc : TypeId × Value → H} {P : Program} {W : World} {t e : TypeId} {R : Res → List Value → α → Prop} {bk : α → Nat}
theorem Opens.imp {R' : Res → List Value → β → Prop} {bk' : β → Nat} (h : Opens bulk enc P W t R bk) (g : α → β) (hR : ∀ s vs x, R s vs x → R' s vs (g x)) (hb : ∀ x, bk' (g x) ≤ bk x) : Opens bulk enc P W t R' bk' := fun fuel cs d ps hd => by
 obtain ⟨x, h1, h2⟩ := h fuel cs d ps hd
 exact ⟨g x, hR _ _ _ h1, Nat.le_trans (hb x) h2⟩
theorem wf_rng {k : IntKind} {n : Int} (h : (Lit.int k n).wf = true) : rng k n := by
 simp only [Lit.wf] at h
 cases k <;> simp only [IntKind.signed, IntKind.bits, IntKind.min, IntKind.max] at h <;> simp only [rng] <;> simp at h <;> omega
theorem opens_int {k : IntKind} (ht : P.underlying t = some (.int k)) : Opens bulk enc P W t (RInt k) (fun _ => 0) := fun fuel cs d ps hd => by
 obtain ⟨n, rfl, _, hw⟩ := DataW.trod_int ht hd
 exact ⟨n, ⟨rfl, wf_rng hw⟩, Nat.zero_le _⟩
theorem opens_bool (ht : P.underlying t = some .bool) : Opens bulk enc P W t RBool (fun _ => 0) := fun fuel cs d ps hd => by
 obtain ⟨b, rfl, _⟩ := DataW.trod_bool ht hd
 exact ⟨b, rfl, Nat.zero_le _⟩
theorem cells_holds {a : Addr} {n : Nat} {cs : List Value} (h : W.cells? 0 a n = some cs) : cs.length = n ∧ ∀ j u, cs[j]? = some u → W.cell? (a.add j) = some u := by
 simp only [World.cells?, Nat.zero_le, if_true] at h
 have key : ∀ (n k : Nat) (cs : List Value), (List.range' k n).mapM (fun i => W.cell? (a.add i)) = some cs → cs.length = n ∧ ∀ j u, cs[j]? = some u → W.cell? (a.add (k + j)) = some u := by
  intro n
  induction n with
  | zero => intro k cs h; simp at h; subst h; simp
  | succ n ih =>
   intro k cs h
   rw [List.range'_succ, List.mapM_cons] at h
   cases hc : W.cell? (a.add k) with
   | none => simp [hc] at h
   | some u =>
    cases hr : (List.range' (k + 1) n).mapM (fun i => W.cell? (a.add i)) with
    | none => simp [hc, hr] at h
    | some us =>
     simp [hc, hr] at h
     subst h
     obtain ⟨h1, h2⟩ := ih (k + 1) us hr
     refine ⟨by simp [h1], fun j v hj => ?_⟩
     cases j with
     | zero => simp at hj; subst hj; simpa using hc
     | succ j =>
      have := h2 j v (by simpa using hj)
      rwa [show k + (j + 1) = k + 1 + j by omega]
 have := key n 0 cs (by rw [← List.range_eq_range']; exact h)
 simpa using this
theorem cell_block {a : Addr} {u : Value} (h : W.cell? a = some u) : ∃ cs el fr, W.heap[a.block]? = some (.cells cs el fr) ∧ a.spot = none ∧ cs[a.off]? = some u := by
 simp only [World.cell?] at h
 split at h
 ·
  rename_i cs el fr hh
  split at h
  ·
   cases h
  ·
   rename_i hs
   exact ⟨cs, el, fr, hh, by simpa using hs, h⟩
 ·
  cases h
theorem opens_slice (ht : P.underlying t = some (.slice e)) {sz : Nat} (hsz : P.cellsOf e = sz) (h0 : 0 < sz) (hel : Opens bulk enc P W e R bk)
  (hb : ∀ l r, (l.map bulk).sum ≤ bulk (.slice l r)) (hb1 : ∀ l r : List (DataW H), l.length ≤ bulk (.slice l r)) :
  Opens bulk enc P W t (RSl R sz) (fun xs => max xs.length ((xs.map bk).sum)) := fun fuel cs d ps hd => by
 rcases DataW.trod_slice ht hd with ⟨rfl, hx⟩ | ⟨a, len, cap, elems, rest, n, _, rfl, hx, _, hl, hm, hlen, hall, _, _⟩
 ·
  exact ⟨[], ⟨none, 0, rfl, Imm.nil _ _ _ (Nat.zero_le _)⟩, by simp⟩
 ·
  simp only [Prod.mk.injEq] at hx
  rw [hsz] at hall
  -- element by element
  have key : ∀ m, m ≤ len → ∃ (xs : List α) (vs : List Value), xs.length = m ∧ Chunks R sz (all W) vs xs ∧ (∀ j u, vs[j]? = some u → W.cell? (a.add j) = some u) ∧ (xs.map bk).sum ≤ ((elems.take m).map fun y => bulk y.1).sum := by
   intro m
   induction m with
   | zero => intro _; exact ⟨[], [], rfl, rfl, by simp, by simp⟩
   | succ m ih =>
    intro hm'
    obtain ⟨xs, vs, h1, h2, h3, h4⟩ := ih (by omega)
    have he := hall m (by omega)
    have hme : m < elems.length := by omega
    rw [List.getElem?_eq_getElem hme] at he
    obtain ⟨cs', hc1, hc2⟩ := Option.bind_eq_some_iff.1 he
    obtain ⟨hcl, hcc⟩ := cells_holds hc1
    obtain ⟨x, hR, hbx⟩ := hel n cs' elems[m].1 elems[m].2 hc2
    have hvl := h2.length
    refine ⟨xs ++ [x], vs ++ cs', by simp [h1], h2.append (Chunks.single hcl hR), fun j u hj => ?_, ?_⟩
    ·
     by_cases hj' : j < vs.length
     ·
      exact h3 j u (by rwa [List.getElem?_append_left hj'] at hj)
     ·
      rw [List.getElem?_append_right (by omega)] at hj
      have := hcc _ u hj
      rw [add_add] at this
      rwa [show m * sz + (j - vs.length) = j by rw [hvl, h1] at *; omega] at this
    ·
     rw [List.take_succ_eq_append_getElem hme]
     simp only [List.map_append, List.sum_append, List.map_cons, List.map_nil, List.sum_cons, List.sum_nil]
     omega
  obtain ⟨xs, vs, h1, h2, h3, h4⟩ := key len (Nat.le_refl _)
  refine ⟨xs, ⟨some a, cap, by rw [h1], by rw [h1]; exact hl, hm, ?_⟩, ?_⟩
  ·
   cases xs with
   | nil => exact .inl rfl
   | cons x xs =>
    refine .inr ⟨a, rfl, vs, ?_, h2⟩
    have hvl := h2.length
    have hpos : 0 < vs.length := by rw [hvl]; simp only [List.length_cons]; exact Nat.mul_pos (by omega) h0
    have hc0 := h3 0 vs[0] (by simp [hpos])
    have hz : a.add 0 = a := by unfold Addr.add; simp
    rw [hz] at hc0
    obtain ⟨cb, el, fr, hb', hsp, _⟩ := cell_block hc0
    refine ⟨cb, el, fr, hb', hsp, fun j u hj => ?_⟩
    obtain ⟨cb', el', fr', hb'', _, hcu⟩ := cell_block (h3 j u hj)
    rw [add_block, hb'] at hb''
    cases hb''
    rwa [add_off] at hcu
  ·
   rw [hx.1]
   have hb' := hb (elems.map (·.1)) (rest.map (·.1))
   have hb1' := hb1 (elems.map (·.1)) (rest.map (·.1))
   rw [List.take_of_length_le (by omega)] at h4
   simp only [List.map_map, List.length_map] at hb' hb1'
   have e1 : (elems.map (bulk ∘ fun y => y.1)).sum = (elems.map fun y => bulk y.1).sum := rfl
   rw [e1] at hb'
   show max xs.length ((xs.map bk).sum) ≤ _
   omega
/-! ### structs -/
def RNil : Res → List Value → Unit → Prop := fun _ vs _ => vs = []
def RCons (k : Nat) (R : Res → List Value → α → Prop) (Q : Res → List Value → β → Prop) : Res → List Value → α × β → Prop := fun s vs x =>
 ∃ us rest, vs = us ++ rest ∧ us.length = k ∧ R s us x.1 ∧ Q s rest x.2
def OpensF (bulk : DataW H → Nat) (enc : TypeId × Value → H) (P : Program) (W : World) (fs : List Field) (off : Nat) (R : Res → List Value → α → Prop) (bk : α → Nat) : Prop :=
 ∀ (fuel : Nat) (cs : List Value) (xs : List (DataW H × List MemPlace)), xs.length = fs.length →
  (∀ (i : Nat) (f : Field), fs[i]? = some f → DataW.trod enc P W 0 (fun _ => true) true fuel f.type ((cs.drop f.offset).take (P.cellsOf f.type)) = xs[i]?) → cs.length = off + (fs.map fun f => P.cellsOf f.type).sum →
  ∃ x : α, R (all W) (cs.drop off) x ∧ bk x ≤ (xs.map fun y => bulk y.1).sum
theorem opens_nil (off : Nat) : OpensF bulk enc P W [] off RNil (fun _ => 0) := fun fuel cs xs hl _ hc => by
 refine ⟨(), ?_, Nat.zero_le _⟩
 simp only [List.map_nil, List.sum_nil, Nat.add_zero] at hc
 exact List.drop_eq_nil_of_le (by omega)
theorem opens_cons {f : Field} {fs : List Field} {off k : Nat} {Q : Res → List Value → β → Prop} {bq : β → Nat} (ho : f.offset = off) (hk : P.cellsOf f.type = k) (hf : Opens bulk enc P W f.type R bk) (hr : OpensF bulk enc P W fs (off + k) Q bq) :
  OpensF bulk enc P W (f :: fs) off (RCons k R Q) (fun x => bk x.1 + bq x.2) := fun fuel cs xs hl h hc => by
 cases xs with
 | nil => simp at hl
 | cons y ys =>
  have h0 := h 0 f rfl
  simp only [List.map_cons, List.sum_cons, hk] at hc
  rw [ho, hk] at h0
  obtain ⟨x, hx, hb⟩ := hf fuel _ y.1 y.2 (by simpa using h0)
  obtain ⟨z, hz, hb'⟩ := hr fuel cs ys (by simpa using hl) (fun i g hg => by simpa using h (i + 1) g (by simpa using hg)) (by omega)
  refine ⟨(x, z), ⟨(cs.drop off).take k, cs.drop (off + k), ?_, ?_, hx, hz⟩, ?_⟩
  ·
   rw [← List.drop_drop, List.take_append_drop]
  ·
   simp only [List.length_take, List.length_drop]; omega
  ·
   simp only [List.map_cons, List.sum_cons]; omega
theorem opens_struct {fs : Array Field} (ht : P.underlying t = some (.struct fs)) (hs : P.cellsOf t = (fs.toList.map fun f => P.cellsOf f.type).sum) (h : OpensF bulk enc P W fs.toList 0 R bk)
  (hb : ∀ l, (l.map bulk).sum ≤ bulk (.agg l)) : Opens bulk enc P W t R bk := fun fuel cs d ps hd => by
 obtain ⟨xs, n, _, hx, hcl, hxl, hall⟩ := DataW.trod_struct ht hd
 simp only [Prod.mk.injEq] at hx
 obtain ⟨x, h1, h2⟩ := h n cs xs (by simpa using hxl) (fun i f hi => hall i f (by simpa using hi)) (by rw [hcl, hs]; omega)
 refine ⟨x, by simpa using h1, Nat.le_trans h2 ?_⟩
 rw [hx.1]
 have := hb (xs.map (·.1))
 simpa [List.map_map, Function.comp_def] using this
end
/-! ### the end -/
theorem below_of {W W' : World} {s' : Res} {os : List Res} (hg : Good W' s' os) (hl : Le (all W) s') (ha : Aux W W') : Below W.heap.size W W' :=
 ⟨ha.os, ha.tape, ha.output, ha.size, fun k hk => by
  have h1 : W.heap[k]? = some W.heap[k] := by simp [hk]
  rw [h1]
  exact hg.sh k _ (hl k _ h1)⟩
theorem trodAll_stays {H : Type} {enc : TypeId × Value → H} {P : Program} (hl : laidOutB P = true) {W W' : World} (hb : Below W.heap.size W W') : ∀ {ts : List TypeId} {vs : List Value} {ds : List (DataW H)} {ps : List MemPlace},
  (ts.all fun t => P.readableRec t && decide (t < P.types.size)) = true → DataW.TrodAll enc P W 0 (fun _ => true) true ts vs ds ps → (∀ x ∈ ps, x.block < W.heap.size) →
  DataW.TrodAll enc P W' 0 (fun b => decide (b < W.heap.size)) true ts vs ds ps
 | [], [], [], ps, _, h, _ => h
 | t :: ts, v :: vs, d :: ds, ps, ht, h, hlt => by
  obtain ⟨p, q, h1, h2, rfl⟩ := h
  simp only [List.all_cons, Bool.and_eq_true, decide_eq_true_eq] at ht
  refine ⟨p, q, Below.trod hl ht.1.1 ht.1.2 h1 hb (fun x hx => hlt x (by simp [hx])), trodAll_stays hl hb ?_ h2 (fun x hx => hlt x (by simp [hx])), rfl⟩
  exact ht.2
 | [], _ :: _, _, _, _, h, _ => h.elim
 | [], [], _ :: _, _, _, h, _ => h.elim
 | _ :: _, [], _, _, _, h, _ => h.elim
 | _ :: _, _ :: _, [], _, _, h, _ => h.elim
theorem law_end {H : Type} {enc : TypeId × Value → H} {P : Program} {f : FuncId} {fn : Func} {spec : ChangeSpec} {W : World} {args : Array Value} {ds gs : List (DataW H)} {before : List MemPlace} {tb : TypeId}
  (hl : laidOutB P = true) (hp : (fn.params.toList.all fun t => P.readableRec t && decide (t < P.types.size)) = true) (hv : spec.vars = []) (hr : fn.resultTypes = #[tb]) (hb : P.underlying tb = some .bool)
  (hW : DataW.Whole enc P fn.params.toList spec.vars false W args.toList ds gs before) (hs : (spec.fn H (ds ++ gs)).results = [.lit (.bool true)] ∧ (spec.fn H (ds ++ gs)).args = ds ∧ (spec.fn H (ds ++ gs)).vars = [])
  (hc : Calls P f args W (Post W (all W) [] fun _ _ r => r = .bool true)) :
  Calls P f args W fun e W' => ∃ v, e = .returned v ∧ spec.post enc P fn false true false false W args v W' := by
 refine hc.mono fun e W' ⟨v, s', A, he, hle, hg, ha, hv'⟩ => ⟨v, he, ?_⟩
 have hbl := below_of hg hle ha
 have hlt := hW.lt
 have hW' := hW
 obtain ⟨p, q, hA, hV, rfl, _, _⟩ := hW
 obtain ⟨s1, s2, s3⟩ := hs
 subst hv'
 refine ⟨ds, gs, p ++ q, [], p, [], hW', ?_, ?_, ?_, hbl.frame _, fun h => by cases h⟩
 ·
  rw [s1, hr]
  exact trodAll_mk1 (shut_bool hb _)
 ·
  rw [s2]
  exact trodAll_stays hl hbl hp hA (fun x hx => hlt x (by simp [hx]))
 ·
  rw [s3, hv]
  rfl
end Go.Lw

/-
 The rows' readings of arguments, opened: numbers, texts, lists, configurations.
-/
namespace Go.Lw
open Go.Proofs
section
variable {H : Type} {enc : TypeId × Value → H} {W : World}
abbrev blk : DataW H → Nat := Go.Proofs.YtpjclnomaemokaaGreat.Rows.uptoBulk
theorem blk_all (l : List (DataW H)) : (l.map blk).sum = Go.Proofs.YtpjclnomaemokaaGreat.Rows.uptoBulkAll l := by
 induction l with
 | nil => simp [Go.Proofs.YtpjclnomaemokaaGreat.Rows.uptoBulkAll]
 | cons x l ih => simp only [List.map_cons, List.sum_cons, ih, Go.Proofs.YtpjclnomaemokaaGreat.Rows.uptoBulkAll]
theorem blk_one (d : DataW H) : 1 ≤ blk d := by
 cases d with
 | lit l => cases l <;> simp [blk, Go.Proofs.YtpjclnomaemokaaGreat.Rows.uptoBulk]
 | _ => simp [blk, Go.Proofs.YtpjclnomaemokaaGreat.Rows.uptoBulk]
theorem blk_slice (l r : List (DataW H)) : (l.map blk).sum ≤ blk (.slice l r) := by rw [blk_all]; simp only [blk, Go.Proofs.YtpjclnomaemokaaGreat.Rows.uptoBulk]; omega
theorem blk_len (l r : List (DataW H)) : l.length ≤ blk (.slice l r) := by
 have h : l.length ≤ (l.map blk).sum := by
  induction l with
  | nil => simp
  | cons x l ih => have := blk_one x; simp only [List.map_cons, List.sum_cons, List.length_cons]; omega
 exact Nat.le_trans h (blk_slice l r)
theorem blk_agg (l : List (DataW H)) : (l.map blk).sum ≤ blk (.agg l) := by rw [blk_all]; simp only [blk, Go.Proofs.YtpjclnomaemokaaGreat.Rows.uptoBulk]; omega
abbrev Op {α : Type} (enc : TypeId × Value → H) (W : World) (t : TypeId) (R : Res → List Value → α → Prop) (bk : α → Nat) : Prop := Opens blk enc Tryz.prog W t R bk
theorem op_u64 : Op enc W 22 (RInt .u64) (fun _ => 0) := opens_int Tryz.underlying22
theorem op_int : Op enc W 3 (RInt .i64) (fun _ => 0) := opens_int Tryz.underlying3
theorem op_bool : Op enc W 4 RBool (fun _ => 0) := opens_bool Tryz.underlying4
theorem op_ints : Op enc W 25 (RSl (RInt .i64) 1) (fun xs => xs.length) :=
 (opens_slice Tryz.underlying25 (by kernel_rfl : _ = 1) (by decide) (opens_int Tryz.underlying3) blk_slice blk_len).imp id (fun _ _ _ h => h) (fun _ => Nat.le_max_left _ _)
def Conf.size (x : Conf) : Nat := x.voters.length + x.learners.length
theorem op_conf : Op enc W 27 RConf Conf.size :=
 (opens_struct Tryz.underlying27 (by kernel_rfl) (opens_cons rfl (by kernel_rfl : _ = 1) op_ints (opens_cons rfl (by kernel_rfl : _ = 1) op_ints (opens_nil _))) blk_agg).imp
  (fun x => ⟨x.1, x.2.1⟩) (fun s vs x h => by
   obtain ⟨_, _, rfl, _, ⟨a, c, rfl, h1⟩, _, _, rfl, _, ⟨a', c', rfl, h2⟩, h3⟩ := h
   cases (show _ = [] from h3)
   exact ⟨a, c, a', c', rfl, h1, h2⟩) (fun x => by simp only [Conf.size]; omega)
end
end Go.Lw

/-
 The rows' readings of arguments, opened: bytes.
-/
namespace Go.Lw
open Go.Proofs
section
variable {H : Type} {enc : TypeId × Value → H} {W : World}
theorem op_bytes : Op enc W 28 (RSl (RInt .u8) 1) (fun xs => xs.length) :=
 (opens_slice Tryz.underlying28 (by kernel_rfl : _ = 1) (by decide) (opens_int Tryz.underlying5) blk_slice blk_len).imp id (fun _ _ _ h => h) (fun _ => Nat.le_max_left _ _)
end
end Go.Lw

/-
 Configurations held against the same; the sizes of a law's inputs.
-/
namespace Go.Lw
open Go.Proofs
attribute [local irreducible] RL RA
def RInp : Res → List Value → Inp → Prop := fun s vs i => ∃ y da dc, vs = inpV i y da dc ∧ InpOk s i y da dc
theorem RInp.up : Up RInp := fun _ _ _ _ hl ⟨y, da, dc, h, h1⟩ => ⟨y, da, dc, h, h1.up hl⟩
def Entry.size (x : Entry) : Nat := x.data.length + x.conf.size
def Msg.size (m : Msg) : Nat := max m.entries.length (m.entries.map Entry.size).sum + m.conf.size + m.data.length
def Inp.size (i : Inp) : Nat := i.msg.size + i.data.length
def Log.size (l : Log) : Nat := l.base.conf.size + l.base.data.length + max l.entries.length (l.entries.map Entry.size).sum
theorem Entry.size_mem : ∀ {xs : List Entry} {x : Entry}, x ∈ xs → x.size ≤ (xs.map Entry.size).sum
 | y :: ys, x, h => by
  simp only [List.map_cons, List.sum_cons]
  rcases List.mem_cons.1 h with rfl | h
  ·
   omega
  ·
   have := Entry.size_mem h; omega
theorem mfit {s : Res} {m : Msg} {y : Lay} (h : MsgOk s m y) {d : Nat} (hd : m.size ≤ d) : MFit d m := by
 simp only [Msg.size, Conf.size] at hd
 refine ⟨h.frm, h.term, h.index, h.logTerm, h.commit, fun e he => ?_, by omega, ⟨by omega, by omega⟩, by omega⟩
 have h1 := Entry.size_mem he
 simp only [Entry.size, Conf.size] at h1 hd
 have hs : ∀ n : Nat, n = (m.entries.map Entry.size).sum → e.data.length + (e.conf.voters.length + e.conf.learners.length) ≤ n := fun n hn => by rw [hn]; exact h1
 obtain ⟨vs, hE⟩ := h.entries.lies.all e he
 obtain ⟨ea, ec, ea1, ec1, ea2, ec2, hvs, r1, r2, r3, hrest⟩ := hE
 have := hs _ rfl
 exact ⟨r1, r2, by omega, by omega, by omega⟩
theorem ifit {s : Res} {i : Inp} {y : Lay} {da : Option Addr} {dc d : Nat} (h : InpOk s i y da dc) (hd : i.size ≤ d) : IFit d i := by
 simp only [Inp.size] at hd
 exact ⟨mfit h.msg (by omega), by omega⟩
theorem lfit {r s : Res} {l : Log} {h : Hd} (hl : LogAt r s l h) (hok : logOk l = true) (h61 : (lastP l).1 < p61) {c : Nat} (hc : l.size ≤ c) : LFit c l := by
 have hlast := lastP_index hok
 have hix := hl.index
 simp only [rng, p61] at h61 hix
 simp only [Log.size, Conf.size] at hc
 refine ⟨hl.index, hl.term, ⟨by omega, by omega⟩, by omega, fun e he => ?_, by omega, by simp only [p61]; omega, fun k e hk => ?_⟩
 ·
  have h1 := Entry.size_mem he
  simp only [Entry.size, Conf.size] at h1 hc
  obtain ⟨vs, hE⟩ := hl.entries.all e he
  obtain ⟨ea, ec, ea1, ec1, ea2, ec2, hvs, r1, r2, r3, hrest⟩ := hE
  exact ⟨r1, r2, by omega, by omega, by omega⟩
 ·
  have h1 := logOk_get hok hk
  have h2 := (List.getElem?_eq_some_iff.1 hk).1
  rw [wrap_id (by omega) (by omega)]
  exact h1
theorem newP_fit {s : Res} {id : Int} {v : View} {h : Hd} (hl : LogAt s s v.log h) (hid : rng .i64 id) (ht : rng .u64 v.hard.term) (hv : rng .i64 v.hard.vote) (hc : rng .u64 v.hard.commit) {c : Nat} (hs : v.log.size ≤ c) (he : ¬ (newP id v.hard v.log v.gone).2 ≠ 0) : Fit c (newP id v.hard v.log v.gone).1 := by
 cases hb : newBad id v.hard v.log v.gone with
 | true => rw [newP_bad hb] at he; exact absurd (by decide) he
 | false =>
  have hn : ∀ z, newBad id v.hard v.log v.gone = true → z := fun z h => by rw [hb] at h; cases h
  rw [newP_ok hb]
  have hok : logOk v.log = true := by
   cases hz : logOk v.log with
   | true => rfl
   | false => exact hn _ (newBad_iff.2 (by simp [hz]))
  have h61 : (lastP v.log).1 < p61 := by
   refine Classical.byContradiction fun hz => hn _ (newBad_iff.2 ?_)
   have : p61 ≤ (lastP v.log).1 := by omega
   simp [this]
  exact ⟨hid, ht, hv, hc, lfit hl hok h61 hs, Nat.zero_le _, Nat.zero_le _, fun p hp => (by cases hp), by simp [newR, rng], by simp [newR, rng], Nat.zero_le _⟩
end Go.Lw

/-
 Raftcore's arguments, opened.
-/
namespace Go.Lw
open Go.Proofs
section
variable {H : Type} {enc : TypeId × Value → H} {W : World}
theorem op_ekind : Op enc W 63 (RInt .i64) (fun _ => 0) := opens_int Tryz.underlying63
theorem op_mkind : Op enc W 54 (RInt .i64) (fun _ => 0) := opens_int Tryz.underlying54
theorem op_ikind : Op enc W 53 (RInt .i64) (fun _ => 0) := opens_int Tryz.underlying53
theorem op_ckind : Op enc W 57 (RInt .i64) (fun _ => 0) := opens_int Tryz.underlying57
theorem op_entry : Op enc W 65 REntry Entry.size :=
 (opens_struct Tryz.underlying65 (by kernel_rfl) (opens_cons rfl (by kernel_rfl : _ = 1) op_u64 (opens_cons rfl (by kernel_rfl : _ = 1) op_u64 (opens_cons rfl (by kernel_rfl : _ = 1) op_ekind
  (opens_cons rfl (by kernel_rfl : _ = 1) op_bytes (opens_cons rfl (by kernel_rfl : _ = 2) op_conf (opens_nil _)))))) blk_agg).imp
  (fun x => ⟨x.1, x.2.1, x.2.2.1, x.2.2.2.1, x.2.2.2.2.1⟩) (fun s vs x h => by
   obtain ⟨_, _, rfl, _, ⟨rfl, r1⟩, _, _, rfl, _, ⟨rfl, r2⟩, _, _, rfl, _, ⟨rfl, r3⟩, _, _, rfl, _, ⟨a, c, rfl, h1⟩, _, _, rfl, _, ⟨p, q, p', q', rfl, h2, h3⟩, h4⟩ := h
   cases (show _ = [] from h4)
   exact ⟨a, c, p, q, p', q', rfl, r1, r2, r3, h1, h2, h3⟩) (fun x => by simp only [Entry.size]; omega)
theorem op_entries : Op enc W 31 (RSl REntry 6) (fun xs => max xs.length (xs.map Entry.size).sum) :=
 (opens_slice Tryz.underlying31 (by kernel_rfl : _ = 6) (by decide) op_entry blk_slice blk_len).imp id (fun _ _ _ h => h) (fun _ => Nat.le_refl _)
theorem op_msg : Op enc W 56 RMsg Msg.size :=
 (opens_struct Tryz.underlying56 (by kernel_rfl) (opens_cons rfl (by kernel_rfl : _ = 1) op_mkind (opens_cons rfl (by kernel_rfl : _ = 1) op_int (opens_cons rfl (by kernel_rfl : _ = 1) op_int (opens_cons rfl (by kernel_rfl : _ = 1) op_u64 (opens_cons rfl (by kernel_rfl : _ = 1) op_u64
  (opens_cons rfl (by kernel_rfl : _ = 1) op_u64 (opens_cons rfl (by kernel_rfl : _ = 1) op_entries (opens_cons rfl (by kernel_rfl : _ = 1) op_u64 (opens_cons rfl (by kernel_rfl : _ = 1) op_bool (opens_cons rfl (by kernel_rfl : _ = 1) op_u64 (opens_cons rfl (by kernel_rfl : _ = 2) op_conf
  (opens_cons rfl (by kernel_rfl : _ = 1) op_bytes (opens_cons rfl (by kernel_rfl : _ = 1) op_bool (opens_nil _)))))))))))))) blk_agg).imp
  (fun x => ⟨x.1, x.2.1, x.2.2.1, x.2.2.2.1, x.2.2.2.2.1, x.2.2.2.2.2.1, x.2.2.2.2.2.2.1, x.2.2.2.2.2.2.2.1, x.2.2.2.2.2.2.2.2.1, x.2.2.2.2.2.2.2.2.2.1, x.2.2.2.2.2.2.2.2.2.2.1, x.2.2.2.2.2.2.2.2.2.2.2.1, x.2.2.2.2.2.2.2.2.2.2.2.2.1⟩) (fun s vs x h => by
   obtain ⟨_, _, rfl, _, ⟨rfl, r1⟩, _, _, rfl, _, ⟨rfl, r2⟩, _, _, rfl, _, ⟨rfl, r3⟩, _, _, rfl, _, ⟨rfl, r4⟩, _, _, rfl, _, ⟨rfl, r5⟩, _, _, rfl, _, ⟨rfl, r6⟩, _, _, rfl, _, ⟨ea, ec, rfl, h1⟩, _, _, rfl, _, ⟨rfl, r7⟩, _, _, rfl, _, rfl, _, _, rfl, _, ⟨rfl, r8⟩,
    _, _, rfl, _, ⟨p, q, p', q', rfl, h2, h3⟩, _, _, rfl, _, ⟨a, c, rfl, h4⟩, _, _, rfl, _, rfl, h5⟩ := h
   cases (show _ = [] from h5)
   exact ⟨⟨ea, ec, p, q, p', q', a, c⟩, rfl, ⟨r1, r2, r3, r4, r5, r6, r7, r8, h1, h2, h3, h4⟩⟩) (fun x => by simp only [Msg.size]; omega)
theorem op_change : Op enc W 59 (fun _ vs (x : Int × Int) => vs = [i64 x.1, i64 x.2] ∧ rng .i64 x.1 ∧ rng .i64 x.2) (fun _ => 0) :=
 (opens_struct Tryz.underlying59 (by kernel_rfl) (opens_cons rfl (by kernel_rfl : _ = 1) op_ckind (opens_cons rfl (by kernel_rfl : _ = 1) op_int (opens_nil _))) blk_agg).imp
  (fun x => (x.1, x.2.1)) (fun s vs x h => by
   obtain ⟨_, _, rfl, _, ⟨rfl, r1⟩, _, _, rfl, _, ⟨rfl, r2⟩, h3⟩ := h
   cases (show _ = [] from h3)
   exact ⟨rfl, r1, r2⟩) (fun _ => Nat.zero_le _)
theorem op_input : Op enc W 61 RInp Inp.size :=
 (opens_struct Tryz.underlying61 (by kernel_rfl) (opens_cons rfl (by kernel_rfl : _ = 1) op_ikind (opens_cons rfl (by kernel_rfl : _ = 1) op_int (opens_cons rfl (by kernel_rfl : _ = 14) op_msg (opens_cons rfl (by kernel_rfl : _ = 1) op_bytes
  (opens_cons rfl (by kernel_rfl : _ = 2) op_change (opens_cons rfl (by kernel_rfl : _ = 1) op_int (opens_nil _))))))) blk_agg).imp
  (fun x => (⟨x.1, x.2.1, x.2.2.1, x.2.2.2.1, x.2.2.2.2.1.1, x.2.2.2.2.1.2, x.2.2.2.2.2.1⟩ : Inp)) (fun s vs x h => by
   obtain ⟨_, _, rfl, _, ⟨rfl, r1⟩, _, _, rfl, _, ⟨rfl, r2⟩, _, _, rfl, _, ⟨y, rfl, hm⟩, _, _, rfl, _, ⟨a, c, rfl, h1⟩, _, _, rfl, _, ⟨rfl, r3, r4⟩, _, _, rfl, _, ⟨rfl, r5⟩, h5⟩ := h
   cases (show _ = [] from h5)
   exact ⟨y, a, c, rfl, ⟨hm, r1, r2, r3, r4, r5, h1⟩⟩) (fun x => by simp only [Inp.size]; omega)
theorem op_inputs : Op enc W 36 (RSl RInp 20) (fun xs => max xs.length (xs.map Inp.size).sum) :=
 (opens_slice Tryz.underlying36 (by kernel_rfl : _ = 20) (by decide) op_input blk_slice blk_len).imp id (fun _ _ _ h => h) (fun _ => Nat.le_refl _)
theorem op_hard : Op enc W 24 (fun _ vs (x : Hard) => vs = [u64 x.term, i64 x.vote, u64 x.commit] ∧ rng .u64 x.term ∧ rng .i64 x.vote ∧ rng .u64 x.commit) (fun _ => 0) :=
 (opens_struct Tryz.underlying24 (by kernel_rfl) (opens_cons rfl (by kernel_rfl : _ = 1) op_u64 (opens_cons rfl (by kernel_rfl : _ = 1) op_int (opens_cons rfl (by kernel_rfl : _ = 1) op_u64 (opens_nil _)))) blk_agg).imp
  (fun x => (⟨x.1, x.2.1, x.2.2.1⟩ : Hard)) (fun s vs x h => by
   obtain ⟨_, _, rfl, _, ⟨rfl, r1⟩, _, _, rfl, _, ⟨rfl, r2⟩, _, _, rfl, _, ⟨rfl, r3⟩, h3⟩ := h
   cases (show _ = [] from h3)
   exact ⟨rfl, r1, r2, r3⟩) (fun _ => Nat.zero_le _)
theorem op_snap : Op enc W 30 (fun s vs (x : Snap) => ∃ va vc la lc da dc, vs = [u64 x.index, u64 x.term, .slice va x.conf.voters.length vc, .slice la x.conf.learners.length lc, .slice da x.data.length dc] ∧ rng .u64 x.index ∧ rng .u64 x.term ∧ Imm (RInt .i64) 1 s va vc x.conf.voters ∧ Imm (RInt .i64) 1 s la lc x.conf.learners ∧ Imm (RInt .u8) 1 s da dc x.data) (fun x => x.conf.size + x.data.length) :=
 (opens_struct Tryz.underlying30 (by kernel_rfl) (opens_cons rfl (by kernel_rfl : _ = 1) op_u64 (opens_cons rfl (by kernel_rfl : _ = 1) op_u64 (opens_cons rfl (by kernel_rfl : _ = 2) op_conf (opens_cons rfl (by kernel_rfl : _ = 1) op_bytes (opens_nil _))))) blk_agg).imp
  (fun x => (⟨x.1, x.2.1, x.2.2.1, x.2.2.2.1⟩ : Snap)) (fun s vs x h => by
   obtain ⟨_, _, rfl, _, ⟨rfl, r1⟩, _, _, rfl, _, ⟨rfl, r2⟩, _, _, rfl, _, ⟨p, q, p', q', rfl, h2, h3⟩, _, _, rfl, _, ⟨a, c, rfl, h1⟩, h4⟩ := h
   cases (show _ = [] from h4)
   exact ⟨p, q, p', q', a, c, rfl, r1, r2, h2, h3, h1⟩) (fun x => by dsimp only; omega)
theorem op_log : Op enc W 33 (fun s vs (x : Log) => ∃ h, vs = logV x h ∧ LogAt s s x h) Log.size :=
 (opens_struct Tryz.underlying33 (by kernel_rfl) (opens_cons rfl (by kernel_rfl : _ = 5) op_snap (opens_cons rfl (by kernel_rfl : _ = 1) op_entries (opens_nil _))) blk_agg).imp
  (fun x => (⟨x.1, x.2.1⟩ : Log)) (fun s vs x h => by
   obtain ⟨_, _, rfl, _, ⟨p, q, p', q', a, c, rfl, r1, r2, h2, h3, h1⟩, _, _, rfl, _, ⟨ea, ec, rfl, h4⟩, h5⟩ := h
   cases (show _ = [] from h5)
   exact ⟨⟨p, q, p', q', a, c, ea, ec, none, 0, none, 0, none, 0, none, 0, none, 0⟩, rfl, ⟨r1, r2, h2, h3, h1, h4⟩⟩) (fun x => by simp only [Log.size]; omega)
theorem op_view : Op enc W 35 (fun s vs (x : View) => ∃ h, vs = viewV x h ∧ LogAt s s x.log h ∧ rng .u64 x.hard.term ∧ rng .i64 x.hard.vote ∧ rng .u64 x.hard.commit) (fun x => x.log.size) :=
 (opens_struct Tryz.underlying35 (by kernel_rfl) (opens_cons rfl (by kernel_rfl : _ = 3) op_hard (opens_cons rfl (by kernel_rfl : _ = 6) op_log (opens_cons rfl (by kernel_rfl : _ = 1) op_bool (opens_nil _)))) blk_agg).imp
  (fun x => (⟨x.1, x.2.1, x.2.2.1⟩ : View)) (fun s vs x h => by
   obtain ⟨_, _, rfl, _, ⟨rfl, r1, r2, r3⟩, _, _, rfl, _, ⟨hh, rfl, hl⟩, _, _, rfl, _, rfl, h5⟩ := h
   cases (show _ = [] from h5)
   exact ⟨hh, rfl, hl, r1, r2, r3⟩) (fun x => by dsimp only; omega)
end
end Go.Lw

/-
 PLAIN: what stays right in a node, and what only grows, act by act. No program in sight.
-/
namespace Go.Lw
structure Sound (c : Nat) (r : Raft) : Prop where
 run : runE r.log.base.index r.log.base.term r.log.entries = true
 bt : r.log.base.term ≤ r.hard.term
 low : r.log.base.index ≤ r.hard.commit
 high : r.hard.commit ≤ (lastP r.log).1
 lt : (lastP r.log).2 ≤ r.hard.term
 tb : r.hard.term ≤ p61 + c
 vote : 0 ≤ r.hard.vote ∧ r.hard.vote ≤ 7
 role : 1 ≤ r.role ∧ r.role ≤ 4
 id : 1 ≤ r.id ∧ r.id ≤ 7
 lead : 3 ≤ r.role → 1 ≤ r.hard.term
 t0 : 0 ≤ r.hard.term
structure Rel (r q : Raft) : Prop where
 term : r.hard.term ≤ q.hard.term
 commit : r.hard.commit ≤ q.hard.commit
 vote : q.hard.term = r.hard.term → r.hard.vote ≠ 0 → q.hard.vote = r.hard.vote
 base : r.log.base.index ≤ q.log.base.index
 kept : ∀ e ∈ r.log.entries, e.index ≤ r.hard.commit → e ∈ q.log.entries ∨ e.index < q.log.base.index
theorem Rel.refl (r : Raft) : Rel r r := ⟨Int.le_refl _, Int.le_refl _, fun _ _ => rfl, Int.le_refl _, fun _ he _ => .inl he⟩
theorem Rel.trans {r q p : Raft} (h : Rel r q) (k : Rel q p) : Rel r p :=
 ⟨Int.le_trans h.term k.term, Int.le_trans h.commit k.commit, fun ht hv => by
  have h1 := h.term; have h2 := k.term
  have h3 := h.vote (by omega) hv
  exact (k.vote (by omega) (by rw [h3]; exact hv)).trans h3, Int.le_trans h.base k.base, fun e he hc => by
  rcases h.kept e he hc with h1 | h1
  ·
   exact k.kept e h1 (Int.le_trans hc h.commit)
  ·
   exact .inr (Int.lt_of_lt_of_le h1 k.base)⟩
theorem Sound.mono {c d : Nat} {r : Raft} (h : Sound c r) (hd : c ≤ d) : Sound d r := { h with tb := by have := h.tb; omega }
section
variable {c d : Nat} {n : Node}
def Goes (d : Nat) (r q : Raft) : Prop := Sound d q ∧ Rel r q
theorem Goes.self {r : Raft} (h : Sound c r) : Goes c r r := ⟨h, Rel.refl r⟩
theorem Goes.mono {r q : Raft} (h : Goes c r q) (hd : c ≤ d) : Goes d r q := ⟨h.1.mono hd, h.2⟩
theorem go_follow {t l : Int} (h : Sound c n.s) (ht : t ≤ p61) : Goes c n.s (n.follow t l).s := by
 have h0 := h.t0
 unfold Node.follow
 by_cases hc : n.s.hard.term < t
 ·
  simp only [if_pos hc]
  refine ⟨⟨h.run, Int.le_trans h.bt (Int.le_of_lt hc), h.low, h.high, Int.le_trans h.lt (Int.le_of_lt hc), by dsimp only; omega, by dsimp only; omega, by dsimp only; omega, h.id, fun z => by dsimp only at z; omega, by dsimp only; omega⟩, ⟨Int.le_of_lt hc, Int.le_refl _, fun he => ?_, Int.le_refl _, fun _ he _ => .inl he⟩⟩
  dsimp only at he; omega
 ·
  simp only [if_neg hc]
  exact ⟨{ h with role := by dsimp only; omega, lead := fun z => by dsimp only at z; omega }, ⟨Int.le_refl _, Int.le_refl _, fun _ _ => rfl, Int.le_refl _, fun _ he _ => .inl he⟩⟩
theorem go_ballot {frm : Int} {yes : Bool} (h : Sound c n.s) : Goes c n.s (n.addBallot frm yes).s := ⟨{ h with }, { Rel.refl n.s with }⟩
theorem go_runs {role : Int} (h : Sound c n.s) (hr : 1 ≤ role ∧ role ≤ 4) (hl : 3 ≤ role → 1 ≤ n.s.hard.term) : Goes c n.s (n.runs role).s := ⟨{ h with role := hr, lead := hl }, { Rel.refl n.s with }⟩
theorem go_meet {x : Int} (h : Sound c n.s) : Goes c n.s (n.meet x).s := ⟨{ h with }, { Rel.refl n.s with }⟩
theorem runE_append : ∀ {l m : List Entry} {i t : Int}, runE i t l = true → runE ((l.getLast?.map (·.index)).getD i) ((l.getLast?.map (·.term)).getD t) m = true → runE i t (l ++ m) = true
 | [], m, i, t, _, h => by simpa using h
 | e :: l, m, i, t, h, k => by
  simp only [runE, Bool.and_eq_true] at h
  simp only [List.cons_append, runE, Bool.and_eq_true]
  refine ⟨h.1, runE_append h.2 ?_⟩
  cases l with
  | nil => simpa using k
  | cons x l =>
   obtain ⟨z, hz⟩ : ∃ z, (x :: l).getLast? = some z := ⟨_, List.getLast?_cons⟩
   rw [List.getLast?_cons_cons, hz] at k
   rw [hz]
   exact k
theorem lastP_eq (l : Log) : lastP l = ((l.entries.getLast?.map (·.index)).getD l.base.index, (l.entries.getLast?.map (·.term)).getD l.base.term) := by
 unfold lastP
 cases l.entries.getLast? <;> rfl
theorem termP_found {l : Log} {i : Int} (h : (termP l i).1 ≠ 0) : (termP l i).2 = true := by
 unfold termP at h ⊢
 split
 ·
  rfl
 ·
  rename_i hi
  rw [if_neg hi] at h
  split
  ·
   rename_i e he
   rw [he] at h
   simp only at h
   split
   ·
    rfl
   ·
    rename_i hz; rw [if_neg hz] at h; exact absurd rfl h
  ·
   rename_i he
   rw [he] at h; exact absurd rfl h
theorem Sound.runX {r : Raft} (h : Sound c r) : RunX r.log := fun k e hk => runE_get h.run k e hk
theorem go_count (h : Sound c n.s) (ht : 1 ≤ n.s.hard.term) : Goes c n.s n.count.s := by
 by_cases hs : n.com ≤ n.s.hard.commit ∨ (termP n.s.log n.com).1 ≠ n.s.hard.term
 ·
  rw [count_stay hs]; exact Goes.self h
 ·
  rw [count_go hs]
  have h1 : n.s.hard.commit < n.com := by omega
  have h2 : (termP n.s.log n.com).1 = n.s.hard.term := Classical.byContradiction fun z => hs (.inr z)
  have h3 := h.runX.term (termP_found (l := n.s.log) (i := n.com) (by omega))
  have h4 := h.runX.last
  have hw : Goes c n.s (n.wCommit n.com).s := ⟨{ h with low := by have := h.low; show n.s.log.base.index ≤ n.com; omega, high := by show n.com ≤ (lastP n.s.log).1; omega }, ⟨Int.le_refl _, Int.le_of_lt h1, fun _ _ => rfl, Int.le_refl _, fun _ he _ => .inl he⟩⟩
  split
  ·
   refine ⟨?_, ?_⟩
   ·
    unfold Node.follow
    simp only [show ¬ (n.wCommit n.com).s.hard.term < n.s.hard.term from Int.lt_irrefl _, if_false]
    exact { hw.1 with role := by dsimp only; omega, lead := fun z => by dsimp only at z; omega }
   ·
    unfold Node.follow
    simp only [show ¬ (n.wCommit n.com).s.hard.term < n.s.hard.term from Int.lt_irrefl _, if_false]
    exact { hw.2 with }
  ·
   exact hw
theorem go_spread {r : Raft} (h : Goes d r n.s) : Goes d r n.spread.s := by rw [spread_s]; exact h
theorem go_putE {e : Entry} (h : Sound c n.s) (hf : Fit d n.s) (hd : d ≤ 1099511627776) (hk : kindOk e = true) (hc : c ≤ 1099511627776) : Goes c n.s (n.putE { e with index := up1 n.last, term := n.s.hard.term }).s := by
 have hl := h.runX.last
 have hcnt := hf.log.count
 have hlow := hf.log.low
 have hix := hf.log.index
 have htb := h.tb
 simp only [rng, p61] at hlow hix htb
 have hu : up1 n.last = n.last + 1 := up1_eq (by show 0 ≤ (lastP n.s.log).1; omega) (by show (lastP n.s.log).1 < _; omega)
 have hlast : lastP (n.putE { e with index := up1 n.last, term := n.s.hard.term }).s.log = (up1 n.last, n.s.hard.term) := by
  unfold lastP Node.putE; simp
 refine ⟨{ h with
  run := ?_
  high := by rw [hlast, hu]; have := h.high; show n.s.hard.commit ≤ (lastP n.s.log).1 + 1; omega
  lt := by rw [hlast]; exact Int.le_refl _ }, { Rel.refl n.s with kept := fun x hx _ => .inl (List.mem_append_left _ hx) }⟩
 refine runE_append h.run ?_
 have he := lastP_eq n.s.log
 have h1 : (n.s.log.entries.getLast?.map (·.index)).getD n.s.log.base.index = n.last := by unfold Node.last; rw [he]
 have h2 : (n.s.log.entries.getLast?.map (·.term)).getD n.s.log.base.term = (lastP n.s.log).2 := by rw [he]
 show runE ((n.s.log.entries.getLast?.map (·.index)).getD n.s.log.base.index) ((n.s.log.entries.getLast?.map (·.term)).getD n.s.log.base.term) _ = true
 rw [h1, h2]
 have h3 := h.lt
 have h4 : kindOk { e with index := up1 n.last, term := n.s.hard.term } = true := hk
 simp only [runE, followsP, Bool.and_true, Bool.and_eq_true, decide_eq_true_eq]
 exact ⟨⟨⟨hu, h3⟩, by simp only [p62]; omega⟩, h4⟩
theorem Goes.then_ {r q p : Raft} {c d : Nat} (h : Goes c r q) (k : Goes d q p) : Goes d r p := ⟨k.1, h.2.trans k.2⟩
theorem go_put {e : Entry} (h : Sound c n.s) (hf : Fit d n.s) (hd : d ≤ 1099511627776) (hc : c ≤ 1099511627776) (hk : kindOk e = true) (ht : 1 ≤ n.s.hard.term) : Goes c n.s (n.put e).s := by
 have hz := go_putE h hf hd hk hc
 have e0 : n.put e = ((if e.kind = 3 then (n.putE { e with index := up1 n.last, term := n.s.hard.term }).meet (up1 n.last) else n.putE { e with index := up1 n.last, term := n.s.hard.term }).count).spread := rfl
 rw [e0]
 refine go_spread ?_
 split
 ·
  exact (hz.then_ (go_meet hz.1)).then_ (go_count (go_meet (x := up1 n.last) hz.1).1 ht)
 ·
  exact hz.then_ (go_count hz.1 ht)
theorem go_lead (h : Sound c n.s) (hf : Fit d n.s) (hd : d ≤ 1099511627776) (hc : c ≤ 1099511627776) (ht : 1 ≤ n.s.hard.term) : Goes c n.s n.lead.s := by
 unfold Node.lead
 have h1 : Goes c n.s (Node.mk { n.s with role := 4, leader := n.s.id, ballots := [], elapsed := 0, beat := 0, transfer := 0, peers := [] } n.o).s := ⟨{ h with role := by dsimp only; omega, lead := fun _ => ht }, { Rel.refl n.s with }⟩
 have h2 := go_meet (n := Node.mk { n.s with role := 4, leader := n.s.id, ballots := [], elapsed := 0, beat := 0, transfer := 0, peers := [] } n.o) (x := up1 n.last) h1.1
 exact (h1.then_ h2).then_ (go_put h2.1 (fit_meet { hf with ballots := Nat.zero_le _, peers := Nat.zero_le _, mats := fun p hp => by cases hp }) hd hc (by decide) ht)
theorem go_rise (h : Sound c n.s) (hc : c ≤ 1099511627776) : Goes (c + 1) n.s (Node.mk { n.s with hard := { n.s.hard with term := up1 n.s.hard.term, vote := n.s.id } } n.o).s ∧ 1 ≤ up1 n.s.hard.term := by
 have htb := h.tb
 have h0 := h.t0
 simp only [p61] at htb
 have hu : up1 n.s.hard.term = n.s.hard.term + 1 := up1_eq (by omega) (by omega)
 have hid := h.id
 have hbt := h.bt
 have hlt := h.lt
 refine ⟨⟨{ h with bt := by dsimp only; omega, lt := by dsimp only; omega, tb := by dsimp only; simp only [p61]; omega, vote := by dsimp only; omega, lead := fun _ => by dsimp only; omega, t0 := by dsimp only; omega }, ⟨by dsimp only; omega, Int.le_refl _, fun he => by dsimp only at he; omega, Int.le_refl _, fun _ he _ => .inl he⟩⟩, by omega⟩
theorem go_stand (h : Sound c n.s) (hf : Fit d n.s) (hd : d + 1 ≤ 1099511627776) (hc : c + 1 ≤ 1099511627776) : Goes (c + 1) n.s n.stand.s := by
 obtain ⟨h1, h2⟩ := go_rise h (by omega)
 obtain ⟨m, hm⟩ : ∃ m : Node, m = Node.mk { n.s with hard := { n.s.hard with term := up1 n.s.hard.term, vote := n.s.id } } n.o := ⟨_, rfl⟩
 have ht : 1 ≤ m.s.hard.term := by rw [hm]; exact h2
 have hfm : Fit d m.s := by rw [hm]; exact { hf with term := up1_rng _, vote := hf.id }
 rw [← hm] at h1
 have h3 := go_runs (role := 3) h1.1 (by omega) (fun _ => ht)
 have e : n.stand = if (m.runs 3).tally = 1 then (m.runs 3).lead else (m.runs 3).question 3 (m.runs 3).s.hard.term := by rw [hm]; rfl
 rw [e]
 split
 ·
  exact (h1.then_ h3).then_ (go_lead h3.1 (fit_runs hfm) hd hc ht)
 ·
  exact h1.then_ h3
theorem go_ask (h : Sound c n.s) (hf : Fit d n.s) (hd : d + 2 ≤ 1099511627776) (hc : c + 1 ≤ 1099511627776) : Goes (c + 1) n.s n.ask.s := by
 have h1 := go_runs (role := 2) h (by omega) (fun z => by omega)
 have e : n.ask = if (n.runs 2).tally = 1 then (n.runs 2).stand else (n.runs 2).question 1 (up1 (n.runs 2).s.hard.term) := rfl
 rw [e]
 split
 ·
  exact h1.then_ (go_stand h1.1 (fit_runs hf) (by omega) hc)
 ·
  exact h1.mono (by omega)
theorem go_tick {t : Int} (h : Sound c n.s) (hf : Fit d n.s) (hd : d + 2 ≤ 1099511627776) (hc : c + 1 ≤ 1099511627776) : Goes (c + 1) n.s (n.tick t).s := by
 obtain ⟨e, he⟩ : ∃ e, e = min (sup1 n.s.elapsed) (max n.s.elapsed 1073741824) := ⟨_, rfl⟩
 have hw : Goes c n.s (n.wElapsed e).s := ⟨{ h with }, { Rel.refl n.s with }⟩
 by_cases hr : n.s.role ≠ 4
 ·
  by_cases hv : max t 1 ≤ e ∧ n.votes = true
  ·
   rw [Node.tick_ask e he hr hv]; exact hw.then_ (go_ask hw.1 { hf with } hd hc)
  ·
   rw [Node.tick_no e he hr hv]; exact hw.mono (by omega)
 ·
  obtain ⟨b, hb⟩ : ∃ b, b = if max t 1 ≤ e then ((n.wElapsed e).wElapsed 0).wTransfer 0 else n.wElapsed e := ⟨_, rfl⟩
  have hg : Goes (c + 1) n.s b.s := by
   rw [hb]; split
   ·
    exact ⟨{ h.mono (Nat.le_add_right c 1) with }, { Rel.refl n.s with }⟩
   ·
    exact hw.mono (by omega)
  rw [Node.tick_lead e he hr b hb]
  split
  ·
   exact go_spread (n := ((b.wBeat (sup1 b.s.beat)).wBeat 0)) ⟨{ hg.1 with }, { hg.2 with }⟩
  ·
   exact ⟨{ hg.1 with }, { hg.2 with }⟩
theorem go_vote {m : Msg} (h : Sound c n.s) (hm : 1 ≤ m.frm ∧ m.frm ≤ 7) : Goes c n.s (n.vote m).s := by
 unfold Node.vote
 dsimp only
 split
 ·
  rename_i hy
  have hv : n.s.hard.vote = 0 ∨ n.s.hard.vote = m.frm := by
   simp only [Bool.and_eq_true, decide_eq_true_eq] at hy; exact hy.1.1
  exact ⟨{ h with vote := by show 0 ≤ m.frm ∧ m.frm ≤ 7; omega }, { Rel.refl n.s with vote := fun _ hz => by show m.frm = n.s.hard.vote; rcases hv with hv | hv; exact absurd hv hz; exact hv.symm }⟩
 ·
  exact Goes.self h
theorem go_voted {m : Msg} (h : Sound c n.s) (hf : Fit d n.s) (hd : d + 1 ≤ 1099511627776) (hc : c ≤ 1099511627776) : Goes (c + 1) n.s (n.voted m).s := by
 have hw : ∀ q : Node, Fit (d + 1) q.s → Sound c q.s → 3 ≤ q.s.role → Goes (c + 1) q.s q.lead.s := fun q h1 h2 h3 => (go_lead h2 h1 hd hc (h2.lead h3)).mono (by omega)
 have hb := go_ballot (frm := m.frm) (yes := !m.reject) h
 have hfb := fit_ballot (frm := m.frm) (yes := !m.reject) hf
 unfold Node.voted
 split
 ·
  rename_i hr
  unfold Node.stands
  dsimp only
  split
  ·
   exact hb.then_ (hw _ hfb hb.1 (by show 3 ≤ n.s.role; omega))
  ·
   split
   ·
    refine hb.then_ (Goes.mono (?_ : Goes c _ _) (by omega))
    unfold Node.follow
    simp only [Int.lt_irrefl, if_false]
    exact ⟨{ hb.1 with role := by dsimp only; omega, lead := fun z => by dsimp only at z; omega }, { Rel.refl _ with }⟩
   ·
    exact hb.mono (by omega)
 ·
  exact (Goes.self h).mono (by omega)
theorem go_late {m : Msg} (h : Sound c n.s) : Goes c n.s (n.late m).s := by
 unfold Node.late
 split
 ·
  exact Goes.self h
 ·
  split <;> exact Goes.self h
theorem go_transfer {to : Int} (h : Sound c n.s) : Goes c n.s (n.transferTo to).1.s := by
 unfold Node.transferTo
 split
 ·
  exact Goes.self h
 ·
  split
  ·
   exact Goes.self h
  ·
   dsimp only
   split
   ·
    exact ⟨{ h with }, { Rel.refl n.s with }⟩
   ·
    rw [Node.feed_s]; exact ⟨{ h with }, { Rel.refl n.s with }⟩
theorem go_asked {i : Inp} (h : Sound c n.s) (hf : Fit d n.s) (hd : d ≤ 1099511627776) (hc : c ≤ 1099511627776) : Goes c n.s (n.asked i).1.s := by
 unfold Node.asked
 split
 ·
  exact Goes.self h
 rename_i hr
 have h4 : n.s.role = 4 := Classical.byContradiction fun z => hr z
 have ht := h.lead (by omega)
 split
 ·
  exact Goes.self h
 split
 ·
  exact go_transfer h
 dsimp only
 split
 ·
  split
  ·
   exact Goes.self h
  ·
   exact go_put (n := Node.mk n.s { n.o with index := up1 n.last, term := n.s.hard.term }) h hf hd hc rfl ht
 ·
  exact go_put (n := Node.mk n.s { n.o with index := up1 n.last, term := n.s.hard.term }) h hf hd hc rfl ht
theorem go_preVoted {m : Msg} (h : Sound c n.s) (hf : Fit d n.s) (hd : d + 2 ≤ 1099511627776) (hc : c + 1 ≤ 1099511627776) (hm : m.term ≤ p61) : Goes (c + 1) n.s (n.preVoted m).s := by
 unfold Node.preVoted
 split
 ·
  exact (go_follow h hm).mono (by omega)
 ·
  split
  ·
   have hb := go_ballot (frm := m.frm) (yes := !m.reject) h
   have hfb := fit_ballot (frm := m.frm) (yes := !m.reject) hf
   unfold Node.stands
   dsimp only
   split
   ·
    exact hb.then_ (go_stand hb.1 hfb (by omega) hc)
   ·
    split
    ·
     refine hb.then_ (Goes.mono (?_ : Goes c _ _) (by omega))
     unfold Node.follow
     simp only [Int.lt_irrefl, if_false]
     exact ⟨{ hb.1 with role := by dsimp only; omega, lead := fun z => by dsimp only at z; omega }, { Rel.refl _ with }⟩
    ·
     exact hb.mono (by omega)
  ·
   exact (Goes.self h).mono (by omega)
theorem go_now (h : Sound c n.s) (hf : Fit d n.s) (hd : d + 1 ≤ 1099511627776) (hc : c + 1 ≤ 1099511627776) : Goes (c + 1) n.s n.now.s := by
 unfold Node.now
 split
 ·
  exact go_stand h hf hd hc
 ·
  exact (Goes.self h).mono (by omega)
theorem go_feed {r : Raft} {q : Peer} (h : Goes d r n.s) : Goes d r (n.feed q).s := by rw [Node.feed_s]; exact h
theorem go_set {k : Nat} {q : Peer} (h : Sound c n.s) : Goes c n.s (n.raise k q).s := ⟨{ h with }, { Rel.refl n.s with }⟩
theorem go_grown {m : Msg} (h : Sound c n.s) : Goes c n.s (n.grown m).s := by
 by_cases hno : n.s.role ≠ 4 ∨ n.peer m.frm = none ∨ n.last < m.index
 ·
  rw [grown_no hno]; exact Goes.self h
 have h0 : n.s.role = 4 := Classical.byContradiction fun z => hno (.inl z)
 have h2 : ¬ n.last < m.index := fun z => hno (.inr (.inr z))
 have ht := h.lead (by omega)
 obtain ⟨q, hq⟩ : ∃ q, n.peer m.frm = some q := by
  cases hp : n.peer m.frm with
  | none => exact absurd (.inr (.inl hp)) hno
  | some q => exact ⟨q, rfl⟩
 obtain ⟨k, hix⟩ := peer_find hq
 by_cases h3 : m.reject = true
 ·
  rw [grown_rej h0 hq h2 h3 hix _ rfl]
  exact go_feed (go_set h)
 ·
  rw [grown_yes h0 hq h2 h3 hix]
  have hs := go_set (k := k) (q := q.up m.index) h
  have hu : Goes c n.s (n.raise k (q.up m.index)).count.s := hs.then_ (go_count hs.1 ht)
  split
  ·
   exact hu
  ·
   have e : (Node.after (n.raise k (q.up m.index)) (n.raise k (q.up m.index)).count (q.up m.index) m.frm).s = (Node.mid (n.raise k (q.up m.index)) (n.raise k (q.up m.index)).count (q.up m.index)).s := by
    have e0 : ∀ a b : Node, ∀ q : Peer, ∀ f : Int, (Node.after a b q f).s = (Node.mid a b q).s := fun a b q f => by
     have e : Node.after a b q f = if a.s.transfer = f ∧ q.mat = (Node.mid a b q).last then (Node.mid a b q).post { Msg.zero with kind := 9, to := f } else Node.mid a b q := rfl
     rw [e]
     generalize Node.mid a b q = z
     split <;> rfl
    exact e0 _ _ _ _
   rw [e]
   unfold Node.mid
   split
   ·
    exact go_spread hu
   ·
    split
    ·
     exact go_feed hu
    ·
     exact hu
theorem runE_drop : ∀ {l : List Entry} {i t : Int} (k : Nat) (hk : k < l.length), runE i t l = true → runE l[k].index l[k].term (l.drop (k + 1)) = true
 | e :: l, i, t, 0, _, h => by
  simp only [runE, Bool.and_eq_true] at h
  simpa using h.2
 | e :: l, i, t, k + 1, hk, h => by
  simp only [runE, Bool.and_eq_true] at h
  simpa using runE_drop k (by simpa using hk) h.2
theorem runE_take : ∀ {l : List Entry} {i t : Int} (k : Nat), runE i t l = true → runE i t (l.take k) = true
 | [], _, _, _, _ => by simp [runE]
 | e :: l, i, t, 0, _ => by simp [runE]
 | e :: l, i, t, k + 1, h => by
  simp only [runE, Bool.and_eq_true] at h
  simp only [List.take_succ_cons, runE, Bool.and_eq_true]
  exact ⟨h.1, runE_take k h.2⟩
theorem runE_last_term : ∀ {l : List Entry} {i t : Int}, runE i t l = true → t ≤ (l.getLast?.map (·.term)).getD t ∧ ∀ e ∈ l, t ≤ e.term ∧ e.term ≤ (l.getLast?.map (·.term)).getD t
 | [], i, t, _ => ⟨Int.le_refl _, fun e he => by cases he⟩
 | e :: l, i, t, h => by
  simp only [runE, followsP, Bool.and_eq_true, decide_eq_true_eq] at h
  have h1 := runE_last_term h.2
  have h2 : ((e :: l).getLast?.map (·.term)).getD t = (l.getLast?.map (·.term)).getD e.term := by
   cases l with
   | nil => rfl
   | cons x l =>
    obtain ⟨z, hz⟩ : ∃ z, (x :: l).getLast? = some z := ⟨_, List.getLast?_cons⟩
    rw [List.getLast?_cons_cons, hz]; rfl
  rw [h2]
  have h3 := h.1.1.1.2
  refine ⟨by omega, fun x hx => ?_⟩
  rcases List.mem_cons.1 hx with rfl | hx
  ·
   exact ⟨h3, h1.1⟩
  ·
   have := h1.2 x hx; omega
end
end Go.Lw

/-
 PLAIN: what stays right in a node: merging, installing, messages, a whole step.
-/
namespace Go.Lw
section
variable {c d : Nat} {n : Node}
theorem go_calm {f : Int} (h : Sound c n.s) : Goes c n.s (n.calm f).s := by
 unfold Node.calm Node.follow
 simp only [Int.lt_irrefl, if_false]
 exact ⟨{ h with role := by show (1 : Int) ≤ 1 ∧ (1 : Int) ≤ 4; omega, lead := fun z => by have : (3 : Int) ≤ 1 := z; omega }, { Rel.refl n.s with }⟩
theorem RunX.termAt {l : Log} (h : RunX l) {k : Nat} (hk : k < l.entries.length) : termP l (l.base.index + 1 + k) = (l.entries[k].term, true) := by
 have hp := h.place (l.base.index + 1 + k)
 have hp2 : placeP l (l.base.index + 1 + k) = k := by omega
 unfold termP
 rw [if_neg (by omega), hp2, List.getElem?_eq_getElem hk]
 simp only
 rw [if_pos (h k _ (List.getElem?_eq_getElem hk))]
theorem RunX.cut {l : Log} (h : RunX l) {x t : Int} (hx : termP l x = (t, true)) {p : Nat} (hp : (p : Int) = x - l.base.index) :
  ((l.entries.take p).getLast?.map (·.index)).getD l.base.index = x ∧ ((l.entries.take p).getLast?.map (·.term)).getD l.base.term = t ∧ p ≤ l.entries.length := by
 have hr := h.term (x := x) (by rw [hx])
 cases p with
 | zero =>
  have hxb : x = l.base.index := by omega
  subst hxb
  unfold termP at hx
  rw [if_pos rfl] at hx
  cases hx
  exact ⟨rfl, rfl, Nat.zero_le _⟩
 | succ p =>
  have hlt : p < l.entries.length := by omega
  have h1 := h.termAt hlt
  have hxe : l.base.index + 1 + p = x := by omega
  rw [hxe, hx] at h1
  have h2 := h p _ (List.getElem?_eq_getElem hlt)
  have h3 : (l.entries.take (p + 1)).getLast? = some l.entries[p] := by
   rw [List.getLast?_eq_getElem?, List.length_take, show min (p + 1) l.entries.length - 1 = p by omega, List.getElem?_take_of_lt (by omega), List.getElem?_eq_getElem hlt]
  rw [h3]
  exact ⟨by simp only [Option.map_some, Option.getD_some]; omega, by simp only [Option.map_some, Option.getD_some]; exact (congrArg Prod.fst h1).symm, by omega⟩
theorem merge_sound {l : Log} {k i t T : Int} {more : List Entry} (hr : runE l.base.index l.base.term l.entries = true) (hk : k ≤ i) (hkl : k ≤ (lastP l).1) (hT : (lastP l).2 ≤ T) (hmT : ∀ e ∈ more, e.term ≤ T)
  {G : Merged} (hG : mergeP l k i t more = G) (h1 : G.err ≠ 1) (h2 : G.err ≠ 61) (h3 : G.err ≠ 62) :
  G.log.base = l.base ∧ runE l.base.index l.base.term G.log.entries = true ∧ k ≤ (lastP G.log).1 ∧ i + more.length ≤ (lastP G.log).1 ∧ (lastP G.log).2 ≤ T ∧ ∀ e ∈ l.entries, e.index ≤ k → e ∈ G.log.entries := by
 have hx : RunX l := fun q e hq => runE_get hr q e hq
 unfold mergeP at hG
 split at hG
 ·
  subst hG; exact absurd rfl h1
 rename_i hrun
 split at hG
 ·
  subst hG; exact absurd rfl h2
 rename_i hterm
 split at hG
 ·
  subst hG; exact absurd rfl h3
 have hrm : runE i t more = true := by
  have : runP i t more = true := by simpa using hrun
  simp only [runP, Bool.and_eq_true] at this
  exact this.2
 have hti : termP l i = (t, true) := by
  have ha : (termP l i).2 = true := by
   cases hz : (termP l i).2 with
   | true => rfl
   | false => exact absurd (.inl hz) hterm
  have hb : (termP l i).1 = t := Classical.byContradiction fun z => hterm (.inr z)
  rw [← ha, ← hb]
 have hold : ∀ e ∈ more, freshP l e = false → termP l e.index = (e.term, true) := fun e _ hf => by
  simp only [freshP, otherP, Bool.or_eq_false_iff, Bool.and_eq_false_iff, decide_eq_false_iff_not, Bool.not_eq_false'] at hf
  have ha := hf.1
  have hb : (termP l e.index).1 = e.term := by
   rcases hf.2 with z | z
   ·
    rw [ha] at z; cases z
   ·
    exact Classical.byContradiction fun y => z y
  rw [← ha, ← hb]
 cases hf : more.findIdx? (freshP l) with
 | none =>
  rw [hf] at hG
  subst hG
  refine ⟨rfl, hr, hkl, ?_, hT, fun e he _ => he⟩
  have hl := hx.last
  cases hm : more.length with
  | zero =>
   have := hx.term (x := i) (by rw [hti])
   simp only; omega
  | succ q =>
   have hq : q < more.length := by omega
   have hn := List.findIdx?_eq_none_iff.1 hf _ (List.getElem_mem hq)
   have ht := hold _ (List.getElem_mem hq) hn
   have := hx.term (x := more[q].index) (by rw [ht])
   have hi := runE_get hrm q _ (List.getElem?_eq_getElem hq)
   simp only; omega
 | some j =>
  rw [hf] at hG
  obtain ⟨hj, hj1, hj2⟩ := List.findIdx?_eq_some_iff_getElem.1 hf
  have hfr : (more[j]?.map (·.index)).getD 0 = i + 1 + j := by
   rw [List.getElem?_eq_getElem hj]
   simp only [Option.map_some, Option.getD_some]
   exact runE_get hrm j _ (List.getElem?_eq_getElem hj)
  dsimp only at hG
  rw [hfr] at hG
  obtain ⟨t', ht', hd'⟩ : ∃ t', termP l (i + j) = (t', true) ∧ runE (i + j) t' (more.drop j) = true := by
   cases j with
   | zero => exact ⟨t, by simpa using hti, by simpa using hrm⟩
   | succ j =>
    have hb := runE_get hrm j _ (List.getElem?_eq_getElem (by omega))
    have ha := hold _ (List.getElem_mem (by omega : j < more.length)) (by simpa using hj2 j (by omega))
    have he : more[j].index = i + ((j + 1 : Nat) : Int) := by omega
    have hc := runE_drop j (by omega) hrm
    rw [he] at ha hc
    exact ⟨_, ha, hc⟩
  have hin := hx.term (x := i + j) (by rw [ht'])
  have hp := hx.place (i + 1 + j)
  have hc := hx.cut ht' (p := placeP l (i + 1 + j)) (by omega)
  subst hG
  have hrun' : runE l.base.index l.base.term (l.entries.take (placeP l (i + 1 + j)) ++ more.drop j) = true := by
   refine runE_append (runE_take _ hr) ?_
   rw [hc.1, hc.2.1]; exact hd'
  have hx2 : RunX ⟨l.base, l.entries.take (placeP l (i + 1 + j)) ++ more.drop j⟩ := fun q e hq => runE_get hrun' q e hq
  have hl2 := hx2.last
  simp only [List.length_append, List.length_take, List.length_drop] at hl2
  refine ⟨rfl, hrun', ?_, ?_, ?_, fun e he hek => ?_⟩
  ·
   show k ≤ (lastP (⟨l.base, l.entries.take (placeP l (i + 1 + j)) ++ more.drop j⟩ : Log)).1; omega
  ·
   show i + more.length ≤ (lastP (⟨l.base, l.entries.take (placeP l (i + 1 + j)) ++ more.drop j⟩ : Log)).1; omega
  ·
   obtain ⟨z, hz⟩ : ∃ z, (more.drop j).getLast? = some z := by
    cases hd : more.drop j with
    | nil => have := List.drop_eq_nil_iff.1 hd; omega
    | cons a b => exact ⟨_, List.getLast?_cons⟩
   have hz2 : (l.entries.take (placeP l (i + 1 + j)) ++ more.drop j).getLast? = some z := by rw [List.getLast?_append, hz]; rfl
   unfold lastP
   simp only [hz2]
   exact hmT z (List.mem_of_mem_drop (List.mem_of_getLast? hz))
  ·
   obtain ⟨q, hq, rfl⟩ := List.getElem_of_mem he
   have hqi := hx q _ (List.getElem?_eq_getElem hq)
   refine List.mem_append_left _ ?_
   rw [List.mem_take_iff_getElem]
   exact ⟨q, by omega, rfl⟩
theorem go_grow {m : Msg} (h : Sound c n.s) : Goes c n.s (n.grow m).s := by
 have hw := go_calm (f := m.frm) h
 by_cases h0 : n.s.role = 4
 ·
  unfold Node.grow; rw [if_pos h0]; exact Goes.self h
 by_cases h1 : m.index < (n.calm m.frm).s.hard.commit
 ·
  rw [grow_old h0 h1]; exact hw
 obtain ⟨G, hG⟩ : ∃ G, G = mergeP (n.calm m.frm).s.log (n.calm m.frm).s.hard.commit m.index m.logTerm m.entries := ⟨_, rfl⟩
 by_cases h2 : G.err = 1 ∨ G.err = 62 ∨ m.entries.any (Node.strange (n.calm m.frm).s.hard.term) = true
 ·
  rw [grow_bad h0 h1 hG.symm h2]; exact hw
 by_cases h3 : G.err = 61
 ·
  rw [grow_gap h0 h1 hG.symm h2 h3]; exact hw
 rw [grow_ok h0 h1 hG.symm h2 h3]
 have hmT : ∀ e ∈ m.entries, e.term ≤ (n.calm m.frm).s.hard.term := fun e he => by
  refine Classical.byContradiction fun z => h2 (.inr (.inr (List.any_eq_true.2 ⟨e, he, ?_⟩)))
  have : (n.calm m.frm).s.hard.term < e.term := by omega
  simp [Node.strange, this]
 have hs := hw.1
 obtain ⟨g1, g2, g3, g4, g5, g6⟩ := merge_sound hs.run (by omega) hs.high hs.lt hmT hG.symm (fun z => h2 (.inl z)) h3 (fun z => h2 (.inr (.inl z)))
 refine hw.then_ ⟨{ hs with
  run := by show runE G.log.base.index G.log.base.term G.log.entries = true; rw [g1]; exact g2
  bt := by show G.log.base.term ≤ _; rw [g1]; exact hs.bt
  low := by show G.log.base.index ≤ max _ _; rw [g1]; have := hs.low; omega
  high := by show max _ _ ≤ (lastP G.log).1; omega
  lt := g5 }, { Rel.refl (n.calm m.frm).s with
  commit := by show (n.calm m.frm).s.hard.commit ≤ max _ _; omega
  base := by show (n.calm m.frm).s.log.base.index ≤ G.log.base.index; rw [g1]; exact Int.le_refl _
  kept := fun e he hk => .inl (g6 e he hk) }⟩
theorem go_install {s : Snap} (h : Sound c n.s) (h1 : n.s.hard.commit < s.index) (h2 : s.term ≤ n.s.hard.term) : Goes c n.s (n.install s).s := by
 have hx := h.runX
 have hlow := h.low
 have hkept : ∀ e ∈ n.s.log.entries, e.index ≤ n.s.hard.commit → e.index < s.index := fun e _ hk => by omega
 unfold Node.install
 dsimp only
 split
 ·
  rename_i j hj
  obtain ⟨hj0, hj1, _⟩ := List.findIdx?_eq_some_iff_getElem.1 hj
  have hj2 := of_decide_eq_true hj1
  have hd := runE_drop j hj0 h.run
  rw [hj2.1, hj2.2] at hd
  have hx2 : RunX ⟨s, n.s.log.entries.drop (j + 1)⟩ := fun q e hq => runE_get hd q e hq
  have hl2 := hx2.last
  refine ⟨{ h with run := hd, bt := h2, low := Int.le_refl _, high := ?_, lt := ?_ }, { Rel.refl n.s with commit := Int.le_of_lt h1, base := by show _ ≤ s.index; omega, kept := fun e he hk => .inr (hkept e he hk) }⟩
  ·
   show s.index ≤ (lastP ⟨s, n.s.log.entries.drop (j + 1)⟩).1
   rw [hl2]; simp only; omega
  ·
   show (lastP ⟨s, n.s.log.entries.drop (j + 1)⟩).2 ≤ _
   have hlt := h.lt
   rw [lastP_eq] at hlt ⊢
   simp only at hlt ⊢
   cases hz : (n.s.log.entries.drop (j + 1)).getLast? with
   | none => exact h2
   | some z =>
    have hne : ¬ n.s.log.entries.length ≤ j + 1 := fun y => by rw [List.drop_eq_nil_of_le y] at hz; cases hz
    have he : n.s.log.entries.getLast? = some z := by
     rw [List.getLast?_drop, if_neg hne] at hz; exact hz
    rw [he] at hlt
    exact hlt
 ·
  exact ⟨{ h with run := rfl, bt := h2, low := Int.le_refl _, high := Int.le_refl _, lt := h2 }, { Rel.refl n.s with commit := Int.le_of_lt h1, base := by show _ ≤ s.index; omega, kept := fun e he hk => .inr (hkept e he hk) }⟩
theorem go_chunk {m : Msg} (h : Sound c n.s) : Goes c n.s (n.chunk m).s := by
 have hw := go_calm (f := m.frm) h
 by_cases h0 : n.s.role = 4 ∨ checkP m.conf ≠ 0 ∨ n.s.hard.term < m.logTerm
 ·
  rw [chunk_no h0]; exact Goes.self h
 by_cases h1 : m.index ≤ (n.calm m.frm).s.hard.commit
 ·
  rw [chunk_old h0 h1]; exact hw
 have hi := takeP_ix (n.calm m.frm).s.part m
 obtain ⟨T, hT⟩ : ∃ T, T = takeP (n.calm m.frm).s.part m := ⟨_, rfl⟩
 rw [← hT] at hi
 by_cases h2 : T.2 = false
 ·
  rw [chunk_part h0 h1 hT.symm h2]
  exact hw.then_ ⟨{ hw.1 with }, { Rel.refl (n.calm m.frm).s with }⟩
 ·
  rw [chunk_all h0 h1 hT.symm h2]
  have ht : ¬ n.s.hard.term < m.logTerm := fun z => h0 (.inr (.inr z))
  have hh : n.s.hard.term ≤ (n.calm m.frm).s.hard.term := hw.2.term
  exact hw.then_ (go_install hw.1 (by show _ < T.1.index; rw [hi.1]; omega) (by show T.1.term ≤ _; rw [hi.2]; omega))
theorem go_chunked {m : Msg} (h : Sound c n.s) : Goes c n.s (n.chunked m).s := by
 unfold Node.chunked
 split
 ·
  exact Goes.self h
 ·
  split
  ·
   rw [Node.piece_s]; exact Goes.self h
  ·
   exact Goes.self h
theorem go_heard {m : Msg} (h : Sound c n.s) (hf : Fit d n.s) (hd : d + 1 ≤ 1099511627776) (hc : c + 1 ≤ 1099511627776) (hm : 1 ≤ m.frm ∧ m.frm ≤ 7) : Goes (c + 1) n.s (n.heard m).s := by
 unfold Node.heard
 split
 ·
  exact (go_vote h hm).mono (by omega)
 split
 ·
  exact go_voted h hf hd (by omega)
 split
 ·
  exact (go_grow h).mono (by omega)
 split
 ·
  exact (go_grown h).mono (by omega)
 split
 ·
  exact (go_chunk h).mono (by omega)
 split
 ·
  exact (go_chunked h).mono (by omega)
 ·
  exact go_now h hf hd hc
theorem go_message {m : Msg} (h : Sound c n.s) (hf : Fit d n.s) (hmr : rng .u64 m.term) (hd : d + 2 ≤ 1099511627776) (hc : c + 1 ≤ 1099511627776) : Goes (c + 1) n.s (n.message m).s := by
 by_cases h0 : n.deaf m
 ·
  rw [message_deaf h0]; exact (Goes.self h).mono (by omega)
 have hfrm : 1 ≤ m.frm ∧ m.frm ≤ 7 := by
  constructor
  ·
   exact Classical.byContradiction fun z => h0 (.inr (.inr (.inl (by omega))))
  ·
   exact Classical.byContradiction fun z => h0 (.inr (.inr (.inr (.inl (by omega)))))
 have hterm : m.term ≤ p61 := Classical.byContradiction fun z => h0 (.inr (.inr (.inr (.inr (.inl (by omega))))))
 by_cases h1 : m.kind = 1
 ·
  rw [message_1 h0 h1]; exact (Goes.self h).mono (by omega)
 by_cases h2 : m.kind = 2
 ·
  rw [message_2 h0 h2]; exact go_preVoted h hf hd hc hterm
 by_cases h3 : m.kind < 3 ∨ 9 < m.kind
 ·
  rw [message_no h0 h1 h2 h3]; exact (Goes.self h).mono (by omega)
 have hg : Goes c n.s (n.risen m).s := by
  unfold Node.risen
  split
  ·
   exact go_follow h hterm
  ·
   exact Goes.self h
 have hfr : Fit d (n.risen m).s := by
  unfold Node.risen
  split
  ·
   exact fit_follow hf hmr
  ·
   exact hf
 by_cases h4 : m.term < (n.risen m).s.hard.term
 ·
  rw [message_late h0 h1 h2 h3 h4]; exact (hg.then_ (go_late hg.1)).mono (by omega)
 ·
  rw [message_on h0 h1 h2 h3 h4]; exact hg.then_ (go_heard hg.1 hfr (by omega) hc hfrm)
theorem go_act {i : Inp} (h : Sound c n.s) (hf : Fit d n.s) (hmr : rng .u64 i.msg.term) (hd : d + 2 ≤ 1099511627776) (hc : c + 1 ≤ 1099511627776) : Goes (c + 1) n.s (n.act i).1.s := by
 unfold Node.act
 split
 ·
  exact go_tick h hf hd hc
 split
 ·
  exact go_message h hf hmr hd hc
 split
 ·
  exact (go_asked h hf (by omega) (by omega)).mono (by omega)
 ·
  exact (Goes.self h).mono (by omega)
theorem go_step {r : Raft} {i : Inp} (h : Sound c r) (hf : Fit d r) (hmr : rng .u64 i.msg.term) (hd : d + 2 ≤ 1099511627776) (hc : c + 1 ≤ 1099511627776) : Goes (c + 1) r (stepP r i).1 := by
 by_cases he : ((newN r).act i).2 ≠ 0
 ·
  rw [stepP_err he]; exact (Goes.self h).mono (by omega)
 ·
  rw [stepP_ok he]; exact go_act (n := newN r) h hf hmr hd hc
theorem newP_sound {id : Int} {v : View} (ht : rng .u64 v.hard.term) (he : ¬ (newP id v.hard v.log v.gone).2 ≠ 0) : Sound 0 (newP id v.hard v.log v.gone).1 := by
 cases hb : newBad id v.hard v.log v.gone with
 | true => rw [newP_bad hb] at he; exact absurd (by decide) he
 | false =>
  rw [newP_ok hb]
  simp only [newBad, Bool.or_eq_false_iff, decide_eq_false_iff_not, Bool.not_eq_false'] at hb
  obtain ⟨⟨⟨hid, -⟩, hok⟩, ⟨⟨⟨⟨hm1, h61⟩, hlt⟩, hcm⟩, hvt⟩⟩ := hb
  have hrun : runE v.log.base.index v.log.base.term v.log.entries = true := by
   simp only [logOk, runP, Bool.and_eq_true] at hok
   exact hok.2.2
  have hl := (runE_last_term hrun).1
  have h2 := lastP_eq v.log
  simp only [rng] at ht
  refine ⟨hrun, ?_, by show v.log.base.index ≤ v.hard.commit; omega, by show v.hard.commit ≤ (lastP v.log).1; omega, by show (lastP v.log).2 ≤ v.hard.term; omega, by show v.hard.term ≤ p61 + ((0 : Nat) : Int); simp only [p61] at h61 ⊢; omega, by show 0 ≤ v.hard.vote ∧ v.hard.vote ≤ 7; omega, by show (1 : Int) ≤ 1 ∧ (1 : Int) ≤ 4; omega, by show 1 ≤ id ∧ id ≤ 7; omega, fun z => by have : (3 : Int) ≤ 1 := z; omega, by show 0 ≤ v.hard.term; omega⟩
  show v.log.base.term ≤ v.hard.term
  rw [h2] at hlt
  simp only at hlt
  omega
theorem Sound.ok {r : Raft} (h : Sound c r) (hf : Fit d r) (hd : d ≤ 1099511627776) (hc : c ≤ 1099511627776) : logOk r.log = true := by
 have h1 := h.bt
 have h2 := h.tb
 have h3 := hf.log.low
 have h4 := hf.log.count
 have h5 := h.run
 simp only [p61] at h2 h3
 simp only [logOk, runP, Bool.and_eq_true]
 refine ⟨decide_eq_true ?_, ⟨decide_eq_true ?_, decide_eq_true ?_⟩, h5⟩ <;> simp only [p62] <;> omega
end
end Go.Lw

/-
 The reference's Term, Entries and Check; the law's own sound.
-/
namespace Go.Lw
open Go.Proofs
attribute [local irreducible] RL RA
def seekP (l : Log) (i : Int) : Int × Bool := if i = l.base.index then (l.base.term, true) else match l.entries.find? fun e => decide (e.index = i) with
 | some e => (e.term, true)
 | none => (0, false)
theorem find_take {p : Entry → Bool} {l : List Entry} {k : Nat} (hk : k < l.length) (h : (l.take k).find? p = none) (hp : p l[k] = true) : l.find? p = some l[k] := by
 conv => lhs; rw [← List.take_append_drop k l]
 rw [List.find?_append, h, Option.none_or, List.drop_eq_getElem_cons hk]
 exact List.find?_cons_of_pos hp
theorem find_take_succ {p : Entry → Bool} {l : List Entry} {k : Nat} (hk : k < l.length) (h : (l.take k).find? p = none) (hp : p l[k] = false) : (l.take (k + 1)).find? p = none := by
 rw [show l.take (k + 1) = l.take k ++ [l[k]] by simp only [List.take_add_one, List.getElem?_eq_getElem hk]; rfl, List.find?_append, h]
 simp [hp]
section
variable {w : World} {s : Res} {os : List Res}
set_option maxRecDepth 100000 in
theorem RefTerm_ct {l : Log} {h : Hd} {i : Int} (hg : Good w s os) (hl : LogAt s s l h) :
  Calls Tryz.prog 13 #[logA l h, u64 i] w (PostV w s os fun q => q = .tuple #[u64 (seekP l i).1, .bool (seekP l i).2]) := by
 have hm := hl.entries.le_max
 simp only [maxLen] at hm
 refine enter (l := [logA l h, u64 i]) Tryz.func13 rfl Tryz.ntmps13 rfl ?_
 refine CW.seq (CW.plain ?_)
 refine RL.boxN rfl rfl rfl rfl rfl hg ?_
 rintro b1 w1 Q1 (hg1 : Good _ s (Q1 :: os)) hax1 hb1
 refine ⟨trivial, ?_⟩
 refine RL.pu ?_
 refine RL.pd ?_
 refine CW.seq ?_
 refine CW.seq (CW.plain ?_)
 refine RL.pu ?_
 refine RL.fi fl33_0 ?_
 refine RL.fi fl30_0 ?_
 refine RL.lo 0 ty22 hb1 hg1 ?_
 refine RL.pd ?_
 refine CW.cond rfl (fun h11 => ?_) (fun h11 => ?_)
 ·
  refine CW.seq (CW.plain ?_)
  refine RL.fi fl33_0 ?_
  refine RL.fi fl30_1 ?_
  refine RL.lo 1 ty22 hb1 hg1 ?_
  refine RL.pu ?_
  refine RL.pd ?_
  refine CW.ret (ret (vs := [_, _]) ⟨_, _, rfl, rfl, _, _, rfl, rfl, rfl⟩ ?_)
  have h0 : i = l.base.index := by simpa using h11
  exact PostV.mk (hg1.drop) hax1 (by simp only [seekP, if_pos h0]; rfl)
 ·
  have h0 : ¬ i = l.base.index := by simpa using h11
  refine CW.skip ?_
  refine CW.seq ?_
  refine CW.seq (CW.plain ?_)
  refine RL.pd ?_
  refine CW.block ?_
  refine CW.loop (σ := Nat) (fun j E w' => ∃ k : Nat, Good w' s (Q1 :: os) ∧ Aux w w' ∧ E = [(1, u64 i), (2, ptr b1), (6, i64 k)] ∧ k + j = l.entries.length ∧ (l.entries.take k).find? (fun e => decide (e.index = i)) = none) (fun j => j) l.entries.length [(1, u64 i), (2, ptr b1), (6, i64 0)] ⟨rfl, rfl, rfl, trivial⟩ ⟨0, hg1, hax1, rfl, by omega, rfl⟩ ?_
  rintro j E wL ⟨k, hgL, haxL, rfl, hk, hn⟩
  refine CW.seq ?_
  refine CW.seq (CW.plain ?_)
  refine RL.pu ?_
  refine RL.fi fl33_1 ?_
  refine RL.lo 5 ty31 hb1 hgL ?_
  refine RL.len rfl rfl rfl rfl sl31 rfl ?_
  refine RL.pd ?_
  refine CW.cond rfl (fun h19 => ?_) (fun h19 => ?_)
  ·
   have hlt : k < l.entries.length := by have := decide_t h19; omega
   refine CW.skip ?_
   refine CW.seq ?_
   refine CW.block ?_
   refine CW.seq (CW.plain ?_)
   refine RL.fi fl33_1 ?_
   refine RL.lo 5 ty31 hb1 hgL ?_
   refine RL.pu ?_
   refine RL.idxL rfl rfl rfl rfl sl31 rfl rfl hl.entries (by omega) (by omega) ?_
   rintro q vs hvl hH ⟨ea, ec, ea1, ec1, ea2, ec2, rfl, er1, er2, er3, eh1, eh2, eh3⟩
   refine RL.fi fl65_0 ?_
   refine RL.load (j := 0) rfl rfl rfl rfl ty22 rfl (hH) (hgL.sh) rfl ?_
   refine RL.pu ?_
   refine RL.pd ?_
   refine CW.cond rfl (fun h29 => ?_) (fun h29 => ?_)
   ·
    refine CW.seq (CW.plain ?_)
    refine RL.fi fl33_1 ?_
    refine RL.lo 5 ty31 hb1 hgL ?_
    refine RL.pu ?_
    refine RL.idxL rfl rfl rfl rfl sl31 rfl rfl hl.entries (by omega) (by omega) ?_
    rintro q2 vs2 hvl2 hH2 ⟨fa, fc, fa1, fc1, fa2, fc2, rfl, fr1, fr2, fr3, fh1, fh2, fh3⟩
    refine RL.fi fl65_1 ?_
    refine RL.load (j := 1) rfl rfl rfl rfl ty22 rfl (hH2) (hgL.sh) rfl ?_
    refine RL.pu ?_
    refine RL.pd ?_
    refine CW.ret (ret (vs := [_, _]) ⟨_, _, rfl, rfl, _, _, rfl, rfl, rfl⟩ ?_)
    have hf := find_take (p := fun e => decide (e.index = i)) hlt hn (by simpa using h29)
    exact PostV.mk (hgL.drop) haxL (by simp only [seekP, if_neg h0, hf]; rfl)
   ·
    refine CW.skip (CW.plain ?_)
    refine RL.pu ?_
    refine RL.add rfl rfl rfl rfl rfl rfl ((by simp only [rng]; omega)) ?_
    refine RL.pd ?_
    have hf := find_take_succ (p := fun e => decide (e.index = i)) hlt hn (by simpa using h29)
    cases j with
    | zero => omega
    | succ j => exact fun ac ha => ⟨j, [(1, u64 i), (2, ptr b1), (6, i64 ((k : Int) + 1))], ha.sub ⟨rfl, rfl, rfl, trivial⟩, ⟨k + 1, hgL, haxL, rfl, by omega, hf⟩, Nat.lt_succ_self j⟩
  ·
   refine CW.exit ?_
   refine CW.seq (CW.plain ?_)
   refine RL.pu ?_
   refine RL.pd ?_
   refine CW.ret (ret (vs := [_, _]) ⟨_, _, rfl, rfl, _, _, rfl, rfl, rfl⟩ ?_)
   have hkl : k = l.entries.length := by have := decide_f h19; omega
   rw [hkl, List.take_length] at hn
   exact PostV.mk (hgL.drop) haxL (by simp only [seekP, if_neg h0, hn]; rfl)
set_option maxRecDepth 100000 in
theorem fine_ct {e : Entry} {vs : List Value} {i t : Int} (hg : Good w s os) (hE : REntry s vs e) (hf : followsP e i t = true) :
  Calls Tryz.prog 119 #[.agg vs.toArray, u64 (i + 1), u64 t] w (PostV w s os fun q => q = .bool true) := by
 obtain ⟨a, c, a1, c1, a2, c2, rfl, r1, r2, r3, h1, h2, h3⟩ := hE
 simp only [followsP, Bool.and_eq_true, decide_eq_true_eq] at hf
 simp only [p62] at hf
 obtain ⟨⟨⟨hi, hte⟩, hth⟩, hk⟩ := hf
 refine enter (l := [.agg #[u64 e.index, u64 e.term, i64 e.kind, .slice a e.data.length c, .slice a1 e.conf.voters.length c1, .slice a2 e.conf.learners.length c2], u64 (i + 1), u64 t]) Tryz.func119 rfl Tryz.ntmps119 rfl ?_
 refine CW.seq (CW.plain ?_)
 refine RL.boxN rfl rfl rfl rfl rfl hg ?_
 rintro b2 w2 Q2 (hg2 : Good _ s (Q2 :: os)) hax2 hb2
 refine ⟨trivial, ?_⟩
 refine RL.pd ?_
 refine CW.seq ?_
 refine CW.seq (CW.plain ?_)
 refine RL.fi fl65_0 ?_
 refine RL.lo 0 ty22 hb2 hg2 ?_
 refine RL.pp ?_
 refine RL.pu ?_
 refine RL.part 12 rfl (fun h12 => ?_) (fun h12 => ?_)
 ·
  exfalso; simp_all
 ·
  refine RL.fi fl65_1 ?_
  refine RL.lo 1 ty22 hb2 hg2 ?_
  refine RL.pp ?_
  refine RL.pp ?_
  refine RL.part 18 rfl (fun h18 => ?_) (fun h18 => ?_)
  ·
   refine RL.qq ?_
   refine RL.pa ?_
   refine RL.pd ?_
   refine CW.yes (by first | rfl | exact congrArg (fun b => some (Value.bool b)) (by assumption)) ?_
   refine CW.seq (CW.plain ?_)
   refine RL.pd ?_
   refine CW.ret (ret (vs := [_]) ⟨_, _, rfl, rfl, rfl⟩ ?_)
   refine PostV.mk (hg2.drop) hax2 (congrArg Value.bool ?_)
   simp_all [kindOk, emptyC, len0] <;> omega
  ·
   refine RL.fi fl65_1 ?_
   refine RL.lo 1 ty22 hb2 hg2 ?_
   refine RL.pu ?_
   refine RL.pd ?_
   refine CW.cond rfl (fun h22 => ?_) (fun h22 => ?_)
   ·
    refine CW.seq (CW.plain ?_)
    refine RL.pd ?_
    refine CW.ret (ret (vs := [_]) ⟨_, _, rfl, rfl, rfl⟩ ?_)
    refine PostV.mk (hg2.drop) hax2 (congrArg Value.bool ?_)
    simp_all [kindOk, emptyC, len0] <;> omega
   ·
    refine CW.skip ?_
    refine CW.seq (CW.plain ?_)
    refine RL.fi fl65_4 ?_
    refine RL.fi fl27_0 ?_
    refine RL.lo 4 ty25 hb2 hg2 ?_
    refine RL.len rfl rfl rfl rfl sl25 rfl ?_
    refine RL.pp ?_
    refine RL.part 28 rfl (fun h28 => ?_) (fun h28 => ?_)
    ·
     refine RL.fi fl65_4 ?_
     refine RL.fi fl27_1 ?_
     refine RL.lo 5 ty25 hb2 hg2 ?_
     refine RL.len rfl rfl rfl rfl sl25 rfl ?_
     refine RL.pp ?_
     refine RL.pd ?_
     refine CW.seq ?_
     refine CW.seq (CW.plain ?_)
     refine RL.fi fl65_2 ?_
     refine RL.lo 2 ty63 hb2 hg2 ?_
     refine RL.done ?_
     refine CW.block ?_
     refine CW.seq (CW.plain ?_)
     refine RL.pu ?_
     refine RL.pd ?_
     refine CW.cond rfl (fun h37 => ?_) (fun h37 => ?_)
     ·
      refine CW.seq (CW.plain ?_)
      refine RL.pp ?_
      refine RL.part 40 rfl (fun h40 => ?_) (fun h40 => ?_)
      ·
       refine RL.fi fl65_3 ?_
       refine RL.lo 3 ty28 hb2 hg2 ?_
       refine RL.len rfl rfl rfl rfl sl28 rfl ?_
       refine RL.pp ?_
       refine RL.pd ?_
       refine CW.ret (ret (vs := [_]) ⟨_, _, rfl, rfl, rfl⟩ ?_)
       refine PostV.mk (hg2.drop) hax2 (congrArg Value.bool ?_)
       simp_all [kindOk, emptyC, len0] <;> omega
      ·
       refine RL.qq ?_
       refine RL.qq ?_
       refine RL.pu ?_
       refine RL.pd ?_
       refine CW.ret (ret (vs := [_]) ⟨_, _, rfl, rfl, rfl⟩ ?_)
       refine PostV.mk (hg2.drop) hax2 (congrArg Value.bool ?_)
       simp_all [kindOk, emptyC, len0] <;> omega
     ·
      refine CW.seq (CW.plain ?_)
      refine RL.pu ?_
      refine RL.pd ?_
      refine CW.cond rfl (fun h46 => ?_) (fun h46 => ?_)
      ·
       refine CW.seq (CW.plain ?_)
       refine RL.pu ?_
       refine RL.pd ?_
       refine CW.ret (ret (vs := [_]) ⟨_, _, rfl, rfl, rfl⟩ ?_)
       refine PostV.mk (hg2.drop) hax2 (congrArg Value.bool ?_)
       simp_all [kindOk, emptyC, len0] <;> omega
      ·
       refine CW.seq (CW.plain ?_)
       refine RL.pu ?_
       refine RL.pd ?_
       refine CW.cond rfl (fun h49 => ?_) (fun h49 => ?_)
       ·
        refine CW.seq (CW.plain ?_)
        refine RL.fi fl65_3 ?_
        refine RL.lo 3 ty28 hb2 hg2 ?_
        refine RL.len rfl rfl rfl rfl sl28 rfl ?_
        refine RL.pu ?_
        refine RL.pd ?_
        refine CW.ret (ret (vs := [_]) ⟨_, _, rfl, rfl, rfl⟩ ?_)
        refine PostV.mk (hg2.drop) hax2 (congrArg Value.bool ?_)
        simp_all [kindOk, emptyC, len0] <;> omega
       ·
        refine CW.skip ?_
        refine CW.seq (CW.plain ?_)
        refine RL.pd ?_
        refine CW.ret (ret (vs := [_]) ⟨_, _, rfl, rfl, rfl⟩ ?_)
        refine PostV.mk (hg2.drop) hax2 (congrArg Value.bool ?_)
        simp_all [kindOk, emptyC, len0] <;> omega
    ·
     refine RL.qq ?_
     refine RL.qq ?_
     refine RL.pa ?_
     refine RL.pu ?_
     refine RL.pd ?_
     refine CW.seq ?_
     refine CW.seq (CW.plain ?_)
     refine RL.fi fl65_2 ?_
     refine RL.lo 2 ty63 hb2 hg2 ?_
     refine RL.done ?_
     refine CW.block ?_
     refine CW.seq (CW.plain ?_)
     refine RL.pu ?_
     refine RL.pd ?_
     refine CW.cond rfl (fun h37 => ?_) (fun h37 => ?_)
     ·
      refine CW.seq (CW.plain ?_)
      refine RL.pp ?_
      refine RL.qq ?_
      refine RL.qq ?_
      refine RL.pu ?_
      refine RL.pd ?_
      refine CW.ret (ret (vs := [_]) ⟨_, _, rfl, rfl, rfl⟩ ?_)
      refine PostV.mk (hg2.drop) hax2 (congrArg Value.bool ?_)
      simp_all [kindOk, emptyC, len0] <;> omega
     ·
      refine CW.seq (CW.plain ?_)
      refine RL.pu ?_
      refine RL.pd ?_
      refine CW.cond rfl (fun h46 => ?_) (fun h46 => ?_)
      ·
       refine CW.seq (CW.plain ?_)
       refine RL.pu ?_
       refine RL.pd ?_
       refine CW.ret (ret (vs := [_]) ⟨_, _, rfl, rfl, rfl⟩ ?_)
       refine PostV.mk (hg2.drop) hax2 (congrArg Value.bool ?_)
       simp_all [kindOk, emptyC, len0] <;> omega
      ·
       refine CW.seq (CW.plain ?_)
       refine RL.pu ?_
       refine RL.pd ?_
       refine CW.cond rfl (fun h49 => ?_) (fun h49 => ?_)
       ·
        refine CW.seq (CW.plain ?_)
        refine RL.fi fl65_3 ?_
        refine RL.lo 3 ty28 hb2 hg2 ?_
        refine RL.len rfl rfl rfl rfl sl28 rfl ?_
        refine RL.pu ?_
        refine RL.pd ?_
        refine CW.ret (ret (vs := [_]) ⟨_, _, rfl, rfl, rfl⟩ ?_)
        refine PostV.mk (hg2.drop) hax2 (congrArg Value.bool ?_)
        simp_all [kindOk, emptyC, len0] <;> omega
       ·
        refine CW.skip ?_
        refine CW.seq (CW.plain ?_)
        refine RL.pd ?_
        refine CW.ret (ret (vs := [_]) ⟨_, _, rfl, rfl, rfl⟩ ?_)
        refine PostV.mk (hg2.drop) hax2 (congrArg Value.bool ?_)
        simp_all [kindOk, emptyC, len0] <;> omega
set_option maxRecDepth 100000 in
theorem RefEntries_ct {xs : List Entry} {a : Option Addr} {c : Nat} {i t : Int} (hg : Good w s os) (hl : Imm REntry 6 s a c xs) (hi : rng .u64 i) (hr : runP i t xs = true) :
  Calls Tryz.prog 79 #[u64 i, u64 t, .slice a xs.length c] w (PostV w s os fun q => q = .bool true) := by
 simp only [runP, Bool.and_eq_true, decide_eq_true_eq] at hr
 simp only [p62] at hr
 obtain ⟨⟨hb1, hb2⟩, hrun⟩ := hr
 simp only [rng] at hi
 refine enter (l := [u64 i, u64 t, .slice a xs.length c]) Tryz.func79 rfl Tryz.ntmps79 rfl ?_
 refine CW.seq (CW.plain ?_)
 refine RL.pd ?_
 refine CW.seq ?_
 refine CW.seq (CW.plain ?_)
 refine RL.pp ?_
 refine RL.pu ?_
 refine RL.part 11 rfl (fun h11 => ?_) (fun h11 => ?_)
 ·
  have := decide_t h11; omega
 ·
  refine RL.pu ?_
  refine RL.len rfl rfl rfl rfl sl31 rfl ?_
  refine RL.conv rfl rfl rfl rfl Tryz.underlying3 Tryz.underlying22 rfl ((by simp only [rng]; omega)) ?_
  refine RL.pu ?_
  refine RL.sub rfl rfl rfl rfl rfl rfl ((by simp only [rng]; omega)) ?_
  refine RL.pu ?_
  refine RL.pd ?_
  refine CW.cond rfl (fun h18 => ?_) (fun h18 => ?_)
  ·
   have := decide_t h18; omega
  ·
   refine CW.skip ?_
   refine CW.seq ?_
   refine CW.seq (CW.plain ?_)
   refine RL.pd ?_
   refine CW.block ?_
   refine CW.loop (σ := Nat) (fun j E w' => Good w' s os ∧ Aux w w' ∧ ∃ (k : Nat) (t' : Int), E = [(0, u64 i), (1, u64 t'), (2, .slice a xs.length c), (7, i64 k)] ∧ k + j = xs.length ∧ runE (i + k) t' (xs.drop k) = true) (fun j => j) xs.length [(0, u64 i), (1, u64 t), (2, .slice a xs.length c), (7, i64 0)] ⟨rfl, rfl, rfl, rfl, trivial⟩ ⟨hg, (Aux.refl _), 0, t, rfl, by omega, by simpa using hrun⟩ ?_
   rintro j E wL ⟨hgL, haxL, k, t', rfl, hk, hrr⟩
   refine CW.seq ?_
   refine CW.seq (CW.plain ?_)
   refine RL.pp ?_
   refine RL.len rfl rfl rfl rfl sl31 rfl ?_
   refine RL.pd ?_
   refine CW.cond rfl (fun h22 => ?_) (fun h22 => ?_)
   ·
    have hlt : k < xs.length := by have := decide_t h22; omega
    have hst : followsP xs[k] (i + k) t' = true ∧ runE xs[k].index xs[k].term (xs.drop (k + 1)) = true := by rw [List.drop_eq_getElem_cons hlt] at hrr; simpa only [runE, Bool.and_eq_true] using hrr
    refine CW.skip ?_
    refine CW.seq ?_
    refine CW.block ?_
    refine CW.seq (CW.plain ?_)
    refine RL.pp ?_
    refine RL.idxL rfl rfl rfl rfl sl31 rfl rfl hl.lies (by omega) (by omega) ?_
    rintro q vs hvl hH hE
    have hE2 := hE
    obtain ⟨ea, ec, ea1, ec1, ea2, ec2, rfl, er1, er2, er3, eh1, eh2, eh3⟩ := hE2
    refine RL.loads (j := 0) (us := _) rfl rfl rfl rfl ty65 rfl (hH) (hgL.sh) rfl rfl ?_
    refine RL.pp ?_
    refine RL.conv rfl rfl rfl rfl Tryz.underlying3 Tryz.underlying22 rfl ((by simp only [rng]; omega)) ?_
    refine RL.add rfl rfl rfl rfl rfl rfl ((by simp only [rng]; omega)) ?_
    refine RL.add rfl rfl rfl rfl rfl rfl ((by simp only [rng]; omega)) ?_
    refine RL.pu ?_
    refine RL.callV rfl rfl rfl rfl rfl ca119 (fine_ct hgL hE hst.1) ?_
    rintro v3 w3 (hg3 : Good _ s (os)) hax3 rfl
    refine ⟨trivial, ?_⟩
    refine RL.pd ?_
    refine CW.seq ?_
    refine CW.seq (CW.plain ?_)
    refine RL.pu ?_
    refine RL.pd ?_
    refine CW.cond rfl (fun h37 => ?_) (fun h37 => ?_)
    ·
     simp at h37
    ·
     refine CW.skip (CW.plain ?_)
     refine RL.pp ?_
     refine RL.idxL rfl rfl rfl rfl sl31 rfl rfl hl.lies (by omega) (by omega) ?_
     rintro q2 vs2 hvl2 hH2 ⟨fa, fc, fa1, fc1, fa2, fc2, rfl, fr1, fr2, fr3, fh1, fh2, fh3⟩
     refine RL.fi fl65_1 ?_
     refine RL.load (j := 1) rfl rfl rfl rfl ty22 rfl (hH2) (hg3.sh) rfl ?_
     refine RL.pd ?_
     refine CW.plain ?_
     refine RL.pu ?_
     refine RL.add rfl rfl rfl rfl rfl rfl ((by simp only [rng]; omega)) ?_
     refine RL.pd ?_
     have hix : xs[k].index = i + k + 1 := by have := hst.1; simp only [followsP, Bool.and_eq_true, decide_eq_true_eq] at this; exact this.1.1.1
     cases j with
     | zero => omega
     | succ j => exact fun ac ha => ⟨j, [(0, u64 i), (1, u64 xs[k].term), (2, .slice a xs.length c), (7, i64 ((k : Int) + 1))], ha.sub ⟨rfl, rfl, rfl, rfl, trivial⟩, ⟨hg3, (haxL.trans hax3), k + 1, _, rfl, by omega, by have := hst.2; rw [hix] at this; rw [show i + ((k + 1 : Nat) : Int) = i + k + 1 by omega]; exact this⟩, Nat.lt_succ_self j⟩
   ·
    refine CW.exit ?_
    refine CW.seq (CW.plain ?_)
    refine RL.pd ?_
    refine CW.ret (ret (vs := [_]) ⟨_, _, rfl, rfl, rfl⟩ ?_)
    exact PostV.mk hgL haxL rfl
set_option maxRecDepth 100000 in
theorem RefCheck_ct {l : Log} {h : Hd} (hg : Good w s os) (hl : LogAt s s l h) (hok : logOk l = true) :
  Calls Tryz.prog 38 #[logA l h] w (PostV w s os fun q => q = .bool true) := by
 simp only [logOk, Bool.and_eq_true, decide_eq_true_eq] at hok
 simp only [p62] at hok
 refine enter (l := [logA l h]) Tryz.func38 rfl Tryz.ntmps38 rfl ?_
 refine CW.seq (CW.plain ?_)
 refine RL.boxN rfl rfl rfl rfl rfl hg ?_
 rintro b4 w4 Q4 (hg4 : Good _ s (Q4 :: os)) hax4 hb4
 refine ⟨trivial, ?_⟩
 refine RL.pd ?_
 refine CW.seq (CW.plain ?_)
 refine RL.fi fl33_0 ?_
 refine RL.fi fl30_1 ?_
 refine RL.lo 1 ty22 hb4 hg4 ?_
 refine RL.pp ?_
 refine RL.part 7 rfl (fun h7 => ?_) (fun h7 => ?_)
 ·
  refine RL.fi fl33_0 ?_
  refine RL.fi fl30_0 ?_
  refine RL.lo 0 ty22 hb4 hg4 ?_
  refine RL.fi fl33_0 ?_
  refine RL.fi fl30_1 ?_
  refine RL.lo 1 ty22 hb4 hg4 ?_
  refine RL.fi fl33_1 ?_
  refine RL.lo 5 ty31 hb4 hg4 ?_
  refine RL.callV rfl rfl rfl rfl rfl ca79 (RefEntries_ct hg4 hl.entries hl.index hok.2) ?_
  rintro v5 w5 (hg5 : Good _ s (Q4 :: os)) hax5 rfl
  refine ⟨trivial, ?_⟩
  refine RL.pu ?_
  refine RL.pd ?_
  refine CW.ret (ret (vs := [_]) ⟨_, _, rfl, rfl, rfl⟩ ?_)
  refine PostV.mk (hg5.drop) (hax4.trans hax5) (congrArg Value.bool ?_)
  simp_all
 ·
  refine RL.qq ?_
  refine RL.qq ?_
  refine RL.qq ?_
  refine RL.qq ?_
  refine RL.pa ?_
  refine RL.pu ?_
  refine RL.pd ?_
  refine CW.ret (ret (vs := [_]) ⟨_, _, rfl, rfl, rfl⟩ ?_)
  refine PostV.mk (hg4.drop) hax4 (congrArg Value.bool ?_)
  simp_all
set_option maxRecDepth 100000 in
theorem sound_ct {r : Raft} {h : Hd} {c d : Nat} (hg : Good w s os) (hr : RaftAt s r h) (hs : Sound c r) (hf : Fit d r) (hd : d ≤ 1099511627776) (hc : c ≤ 1099511627776) :
  Calls Tryz.prog 12 #[.agg (raftV r h).toArray] w (PostV w s os fun q => q = .bool true) := by
 have hl := hr.log
 have h1 := hs.low
 have h2 := hs.high
 have h3 := hs.lt
 have h4 := hs.vote
 have h5 := hs.role
 refine enter (l := [.agg (raftV r h).toArray]) Tryz.func12 rfl Tryz.ntmps12 rfl ?_
 refine CW.seq (CW.plain ?_)
 refine RL.boxN rfl rfl rfl rfl rfl hg ?_
 rintro b6 w6 Q6 (hg6 : Good _ s (Q6 :: os)) hax6 hb6
 refine ⟨trivial, ?_⟩
 refine RL.pd ?_
 refine CW.seq (CW.plain ?_)
 refine RL.fi fl44_2 ?_
 refine RL.ls 4 ty33 hb6 hg6 ?_
 refine RL.callV rfl rfl rfl rfl rfl ca38 (RefCheck_ct hg6 hl (hs.ok hf hd hc)) ?_
 rintro v7 w7 (hg7 : Good _ s (Q6 :: os)) hax7 rfl
 refine ⟨trivial, ?_⟩
 refine RL.pd ?_
 refine CW.seq (CW.plain ?_)
 refine RL.fi fl44_2 ?_
 refine RL.ls 4 ty33 hb6 hg7 ?_
 refine RL.callV rfl rfl rfl rfl rfl ca39 (RefLast_ct hg7 hl) ?_
 rintro v8 w8 (hg8 : Good _ s (Q6 :: os)) hax8 rfl
 refine ⟨trivial, ?_⟩
 refine RL.pp ?_
 refine RL.pp ?_
 refine RL.pd ?_
 refine CW.seq (CW.plain ?_)
 refine RL.pp ?_
 refine RL.part 16 rfl (fun h16 => ?_) (fun h16 => ?_)
 ·
  refine RL.fi fl44_1 ?_
  refine RL.fi fl24_2 ?_
  refine RL.lo 3 ty22 hb6 hg8 ?_
  refine RL.fi fl44_2 ?_
  refine RL.fi fl33_0 ?_
  refine RL.fi fl30_0 ?_
  refine RL.lo 4 ty22 hb6 hg8 ?_
  refine RL.pp ?_
  refine RL.pu ?_
  refine RL.part 26 rfl (fun h26 => ?_) (fun h26 => ?_)
  ·
   refine RL.fi fl44_1 ?_
   refine RL.fi fl24_2 ?_
   refine RL.lo 3 ty22 hb6 hg8 ?_
   refine RL.pp ?_
   refine RL.pp ?_
   refine RL.part 33 rfl (fun h33 => ?_) (fun h33 => ?_)
   ·
    refine RL.fi fl44_1 ?_
    refine RL.fi fl24_0 ?_
    refine RL.lo 1 ty22 hb6 hg8 ?_
    refine RL.pp ?_
    refine RL.pp ?_
    refine RL.part 40 rfl (fun h40 => ?_) (fun h40 => ?_)
    ·
     refine RL.fi fl44_1 ?_
     refine RL.fi fl24_1 ?_
     refine RL.lo 2 ty3 hb6 hg8 ?_
     refine RL.pp ?_
     refine RL.pu ?_
     refine RL.part 46 rfl (fun h46 => ?_) (fun h46 => ?_)
     ·
      refine RL.fi fl44_1 ?_
      refine RL.fi fl24_1 ?_
      refine RL.lo 2 ty3 hb6 hg8 ?_
      refine RL.pp ?_
      refine RL.pu ?_
      refine RL.part 52 rfl (fun h52 => ?_) (fun h52 => ?_)
      ·
       refine RL.fi fl44_3 ?_
       refine RL.lo 10 ty38 hb6 hg8 ?_
       refine RL.pp ?_
       refine RL.pu ?_
       refine RL.part 57 rfl (fun h57 => ?_) (fun h57 => ?_)
       ·
        refine RL.fi fl44_3 ?_
        refine RL.lo 10 ty38 hb6 hg8 ?_
        refine RL.pp ?_
        refine RL.pd ?_
        refine CW.ret (ret (vs := [_]) ⟨_, _, rfl, rfl, rfl⟩ ?_)
        refine PostV.mk (hg8.drop) (hax6.trans (hax7.trans hax8)) (congrArg Value.bool ?_)
        simp_all
       ·
        refine RL.qq ?_
        refine RL.pa ?_
        refine RL.pu ?_
        refine RL.pd ?_
        refine CW.ret (ret (vs := [_]) ⟨_, _, rfl, rfl, rfl⟩ ?_)
        refine PostV.mk (hg8.drop) (hax6.trans (hax7.trans hax8)) (congrArg Value.bool ?_)
        simp_all
      ·
       refine RL.qq ?_
       refine RL.pa ?_
       refine RL.pp ?_
       refine RL.qq ?_
       refine RL.pa ?_
       refine RL.pu ?_
       refine RL.pd ?_
       refine CW.ret (ret (vs := [_]) ⟨_, _, rfl, rfl, rfl⟩ ?_)
       refine PostV.mk (hg8.drop) (hax6.trans (hax7.trans hax8)) (congrArg Value.bool ?_)
       simp_all
     ·
      refine RL.qq ?_
      refine RL.qq ?_
      refine RL.pp ?_
      refine RL.qq ?_
      refine RL.pa ?_
      refine RL.pp ?_
      refine RL.qq ?_
      refine RL.pa ?_
      refine RL.pu ?_
      refine RL.pd ?_
      refine CW.ret (ret (vs := [_]) ⟨_, _, rfl, rfl, rfl⟩ ?_)
      refine PostV.mk (hg8.drop) (hax6.trans (hax7.trans hax8)) (congrArg Value.bool ?_)
      simp_all
    ·
     refine RL.qq ?_
     refine RL.qq ?_
     refine RL.pp ?_
     refine RL.qq ?_
     refine RL.qq ?_
     refine RL.pp ?_
     refine RL.qq ?_
     refine RL.pa ?_
     refine RL.pp ?_
     refine RL.qq ?_
     refine RL.pa ?_
     refine RL.pu ?_
     refine RL.pd ?_
     refine CW.ret (ret (vs := [_]) ⟨_, _, rfl, rfl, rfl⟩ ?_)
     refine PostV.mk (hg8.drop) (hax6.trans (hax7.trans hax8)) (congrArg Value.bool ?_)
     simp_all
   ·
    refine RL.qq ?_
    refine RL.qq ?_
    refine RL.pa ?_
    refine RL.pp ?_
    refine RL.qq ?_
    refine RL.qq ?_
    refine RL.pp ?_
    refine RL.qq ?_
    refine RL.qq ?_
    refine RL.pp ?_
    refine RL.qq ?_
    refine RL.pa ?_
    refine RL.pp ?_
    refine RL.qq ?_
    refine RL.pa ?_
    refine RL.pu ?_
    refine RL.pd ?_
    refine CW.ret (ret (vs := [_]) ⟨_, _, rfl, rfl, rfl⟩ ?_)
    refine PostV.mk (hg8.drop) (hax6.trans (hax7.trans hax8)) (congrArg Value.bool ?_)
    simp_all
  ·
   refine RL.qq ?_
   refine RL.qq ?_
   refine RL.pa ?_
   refine RL.pp ?_
   refine RL.qq ?_
   refine RL.qq ?_
   refine RL.pa ?_
   refine RL.pp ?_
   refine RL.qq ?_
   refine RL.qq ?_
   refine RL.pp ?_
   refine RL.qq ?_
   refine RL.qq ?_
   refine RL.pp ?_
   refine RL.qq ?_
   refine RL.pa ?_
   refine RL.pp ?_
   refine RL.qq ?_
   refine RL.pa ?_
   refine RL.pu ?_
   refine RL.pd ?_
   refine CW.ret (ret (vs := [_]) ⟨_, _, rfl, rfl, rfl⟩ ?_)
   refine PostV.mk (hg8.drop) (hax6.trans (hax7.trans hax8)) (congrArg Value.bool ?_)
   simp_all
 ·
  refine RL.qq ?_
  refine RL.qq ?_
  refine RL.qq ?_
  refine RL.qq ?_
  refine RL.pp ?_
  refine RL.qq ?_
  refine RL.qq ?_
  refine RL.pa ?_
  refine RL.pp ?_
  refine RL.qq ?_
  refine RL.qq ?_
  refine RL.pa ?_
  refine RL.pp ?_
  refine RL.qq ?_
  refine RL.qq ?_
  refine RL.pp ?_
  refine RL.qq ?_
  refine RL.qq ?_
  refine RL.pp ?_
  refine RL.qq ?_
  refine RL.pa ?_
  refine RL.pp ?_
  refine RL.qq ?_
  refine RL.pa ?_
  refine RL.pu ?_
  refine RL.pd ?_
  refine CW.ret (ret (vs := [_]) ⟨_, _, rfl, rfl, rfl⟩ ?_)
  refine PostV.mk (hg8.drop) (hax6.trans (hax7.trans hax8)) (congrArg Value.bool ?_)
  simp_all
end
end Go.Lw

/-
 Raftcore: the law's own head.
-/
namespace Go.Lw
open Go.Proofs
attribute [local irreducible] RL RA
def view0 : View := ⟨⟨1, 0, 1⟩, ⟨⟨1, 1, ⟨[1], []⟩, []⟩, []⟩, false⟩
def inp0 : Inp := ⟨1, 1, Msg.zero, [], 0, 0, 0⟩
def r0 : Raft := newR 1 view0
theorem new0 : newP 1 view0.hard view0.log view0.gone = (r0, 0) := newP_ok (by decide)
theorem uniq_one (x : Int) : uniq [x] = [x] := by
 unfold uniq
 rw [show msort [x] = [x] from List.perm_singleton.1 (msort_perm [x])]
 rfl
theorem uniq_none : uniq [] = [] := List.eq_nil_of_length_eq_zero (by have := uniq_le []; simpa using this)
theorem tally_one {n : Node} (h1 : n.voters = [1]) (h2 : n.s.ballots = [(1, true)]) : n.tally = 1 := by
 unfold Node.tally; rw [h1, h2, uniq_one]
 decide
def e0 : Entry := ⟨2, 2, 1, [], ⟨[], []⟩⟩
def n0 : Node := ⟨⟨1, ⟨2, 1, 1⟩, ⟨⟨1, 1, ⟨[1], []⟩, []⟩, [e0]⟩, 4, 1, [], [], 0, 0, 0, ⟨0, 0, []⟩⟩, { Out.zero with entries := [e0] }⟩
theorem com0 : n0.com = 2 := by
 refine Node.com_eq (.inr ⟨?_, ?_⟩)
 ·
  rw [show n0.voters = [1] from rfl, uniq_one]; simp
 ·
  rw [show n0.voters = [1] from rfl, uniq_one]; exact ⟨by decide, by decide, by decide⟩
theorem term0 : termP n0.s.log 2 = (2, true) := by
 have hx : RunX n0.s.log := fun k e hk => by
  cases k with
  | zero => cases hk; rfl
  | succ k => simp [n0] at hk
 have hp := hx.place 2
 have hp0 : placeP n0.s.log 2 = 0 := by
  have e1 : n0.s.log.base.index = 1 := rfl
  have e2 : n0.s.log.entries.length = 1 := rfl
  rw [e1, e2] at hp; omega
 unfold termP
 rw [hp0]
 rfl
theorem count0 : n0.count = n0.wCommit 2 := by
 rw [count_go (by rw [com0, term0]; decide), com0]
 exact if_neg (by decide)
theorem act0 : (newN r0).act inp0 = (n0.wCommit 2, 0) := by
 have h1 : (newN r0).act inp0 = ((newN r0).tick 1, 0) := if_pos rfl
 have hv : (newN r0).votes = true := by decide
 rw [h1, Node.tick_ask 1 (by decide) (by decide) ⟨by decide, hv⟩]
 have h2 : ((newN r0).wElapsed 1).ask = (((newN r0).wElapsed 1).runs 2).stand := if_pos (tally_one rfl rfl)
 rw [h2]
 obtain ⟨m, hm⟩ : ∃ m : Node, m = Node.runs { (((newN r0).wElapsed 1).runs 2) with s := { (((newN r0).wElapsed 1).runs 2).s with hard := ⟨2, 1, 1⟩ } } 3 := ⟨_, rfl⟩
 have h3 : (((newN r0).wElapsed 1).runs 2).stand = m.lead := by
  rw [hm]; exact if_pos (tally_one rfl rfl)
 rw [h3]
 have ho : othersP (confP m.s.log).1 m.s.id = [] := by
  rw [hm]
  show uniq (delP 1 ([1] ++ [])) = []
  rw [show delP 1 ([1] ++ []) = [] by decide, uniq_none]
 have h4 : m.lead = (n0.count).spread := by
  unfold Node.lead
  have e1 : Node.meet { m with s := { m.s with role := 4, leader := m.s.id, ballots := [], elapsed := 0, beat := 0, transfer := 0, peers := [] } } (up1 m.last) = { m with s := { m.s with role := 4, leader := m.s.id, ballots := [], elapsed := 0, beat := 0, transfer := 0, peers := [] } } := by
   unfold Node.meet
   simp only [ho, List.map_nil]
  rw [e1, hm]
  rfl
 rw [h4, count0]
 rfl
def r1 : Raft := ⟨1, ⟨2, 1, 2⟩, ⟨⟨1, 1, ⟨[1], []⟩, []⟩, [e0]⟩, 4, 1, [], [], 0, 0, 0, ⟨0, 0, []⟩⟩
def o1 : Out := ⟨0, [e0], true, false, [], 0, 0⟩
theorem step0 : stepP r0 inp0 = (r1, o1, 0) := by
 rw [stepP_ok (by rw [act0]; decide), act0]
 rfl
theorem inp0_ok (s : Res) : InpOk s inp0 Lay.none none 0 :=
 ⟨MsgOk.zero s, by simp [rng, inp0], by simp [rng, inp0], by simp [rng, inp0], by simp [rng, inp0], by simp [rng, inp0], Imm.nil _ _ _ (Nat.zero_le _)⟩
def hd1 (a : Option Addr) (c : Nat) : Hd := ⟨a, c, none, 0, none, 0, none, 0, none, 0, none, 0, none, 0, none, 0, none, 0⟩
section
variable {w : World} {s : Res} {os : List Res}
set_option maxRecDepth 100000 in
set_option maxHeartbeats 4000000 in
theorem Begin_ct {a : Option Addr} {c : Nat} (hg : Good w s os) :
  Calls Tryz.prog 28 #[.slice a 1 c, .slice none 0 0] w (PostV w s os fun q => q = .agg (viewV view0 (hd1 a c)).toArray) := by
 refine enter (l := [.slice a 1 c, .slice none 0 0]) Tryz.func28 rfl Tryz.ntmps28 rfl ?_
 refine CW.seq (CW.plain ?_)
 refine RL.allocN rfl rfl rfl rfl ze35 hg ?_
 rintro b1 w1 Q1 (hg1 : Good _ s (Q1 :: os)) hax1 hb1
 refine ⟨trivial, ?_⟩
 refine RL.done ?_
 refine CW.seq (CW.plain ?_)
 refine RL.build rfl rfl rfl rfl ze24 pl24 rfl rfl ?_
 refine RL.pp ?_
 refine RL.build rfl rfl rfl rfl ze27 pl27 rfl rfl ?_
 refine RL.build rfl rfl rfl rfl ze30 pl30 rfl rfl ?_
 refine RL.build rfl rfl rfl rfl ze33 pl33 rfl rfl ?_
 refine RL.build rfl rfl rfl rfl ze35 pl35 rfl rfl ?_
 refine RL.sB (b := b1) (i := 0) (j := 0) rfl rfl rfl ty35 rfl rfl hg1 rfl (hb1) rfl rfl ?_
 rintro w2 Q2 (hg2 : Good _ s (Q2 :: os)) hax2 hb2
 refine ⟨trivial, ?_⟩
 refine RL.done ?_
 refine CW.ret (ret (vs := [_]) ⟨_, _, _, rfl, rfl, loadVar_agg ty35 hb2 (hg2.mem (by simp)) rfl, rfl⟩ ?_)
 exact PostV.mk (hg2.drop) (hax1.trans hax2) rfl
theorem view0_at {a : Option Addr} {c : Nat} (h : Imm (RInt .i64) 1 s a c [1]) : LogAt s s view0.log (hd1 a c) :=
 ⟨by simp [rng, view0], by simp [rng, view0], h, Imm.nil _ _ _ (Nat.zero_le _), Imm.nil _ _ _ (Nat.zero_le _), Imm.nil _ _ _ (Nat.zero_le _)⟩
theorem view0_small : view0.log.small := ⟨⟨by decide, by decide⟩, by decide, fun e he => (by cases he), by decide⟩
theorem New0_ct {a : Option Addr} {c : Nat} (hg : Good w s os) (h : Imm (RInt .i64) 1 s a c [1]) :
  Calls Tryz.prog 10 #[i64 1, .agg (viewV view0 (hd1 a c)).toArray] w (Post w s os fun s' _ q => ∃ h', q = .tuple #[.agg (raftV r0 h').toArray, i64 0] ∧ RaftAt s' r0 h') := by
 have := New_ct (id := 1) hg (view0_at h) view0_small (by simp [rng]) (by simp [rng, view0]) (by simp [rng, view0]) (by simp [rng, view0])
 rw [new0] at this
 exact this
theorem r0_fit : Fit 1 r0 :=
 ⟨by simp [rng, r0, newR], by simp [rng, r0, newR, view0], by simp [rng, r0, newR, view0], by simp [rng, r0, newR, view0], ⟨by simp [rng, r0, newR, view0], by simp [rng, r0, newR, view0], ⟨by decide, by decide⟩, by decide, fun e he => (by cases he), by decide, by simp [r0, newR, view0, p61], fun k e hk => (by cases hk)⟩, by decide, by decide, fun p hp => (by cases hp), by simp [rng, r0, newR], by simp [rng, r0, newR], by decide⟩
theorem Step0_ct {h : Hd} (hg : Good w s os) (hr : RaftAt s r0 h) :
  Calls Tryz.prog 11 #[.agg (raftV r0 h).toArray, .agg (inpV inp0 Lay.none none 0).toArray] w (Post w s os fun s' _ q => ∃ h1 h2, q = .tuple #[.agg (raftV r1 h1).toArray, .agg (outV o1 h2).toArray, i64 0] ∧ RaftAt s' r1 h1 ∧ OutAt s' o1 h2) := by
 have hif : IFit 0 inp0 := ifit (inp0_ok s) (by decide)
 have := Step_ct hg hr (inp0_ok s) (r0_fit.rng (n := newN r0)) (fit_act (n := newN r0) r0_fit hif (by decide)).rng (fit_bears r0_fit hif (by decide)) (by decide)
 rw [step0] at this
 exact this
set_option maxRecDepth 100000 in
theorem Head_ct (hg : Good w s os) : Calls Tryz.prog 9 #[] w (Post w s os fun _ _ q => q = .bool true) := by
 refine enter (l := []) Tryz.func9 rfl Tryz.ntmps9 rfl ?_
 refine CW.seq (CW.plain ?_)
 refine RL.pd ?_
 refine CW.seq (CW.plain ?_)
 refine RL.buildN rfl rfl rfl rfl sl25 ze3 rfl rfl rfl rfl hg ?_
 rintro b3 w3 Q3 (hg3 : Good _ s (Q3 :: os)) hax3 hb3
 refine ⟨trivial, ?_⟩
 have ho7 : Own (RInt .i64) 1 3 s Q3 (some ⟨b3, 0, none⟩) 1 [1] := .inr ⟨_, _, rfl, hb3, by decide, by decide, rfl, Chunks.single rfl ⟨rfl, by simp [rng]⟩⟩
 obtain ⟨s7, hg7, hle7, hm7⟩ := (hg3).letgo
 have hI7 := ho7.imm (RInt.up _) hle7 hm7
 refine RL.callV rfl rfl rfl rfl rfl ca28 (Begin_ct hg7) ?_
 rintro v4 w4 (hg4 : Good _ s7 (os)) hax4 rfl
 refine ⟨trivial, ?_⟩
 refine RL.call rfl rfl rfl rfl rfl ca10 (New0_ct hg4 hI7) ?_
 rintro v5 s5 B5 w5 hle5 (hg5 : Good _ s5 (B5 :: os)) hax5 ⟨h9, rfl, hA9⟩
 have hg5 := hg5.drop
 refine ⟨trivial, ?_⟩
 refine RL.pp ?_
 refine RL.pu ?_
 refine RL.allocN rfl rfl rfl rfl ze44 hg5 ?_
 rintro b6 w6 Q6 (hg6 : Good _ s5 (Q6 :: os)) hax6 hb6
 refine ⟨trivial, ?_⟩
 refine RL.sB (b := b6) (i := 0) (j := 0) rfl rfl rfl ty44 rfl rfl hg6 rfl (hb6) rfl rfl ?_
 rintro w7 Q7 (hg7 : Good _ s5 (Q7 :: os)) hax7 hb7
 refine ⟨trivial, ?_⟩
 refine RL.pd ?_
 refine CW.seq (CW.plain ?_)
 refine RL.ls 0 ty44 hb7 hg7 ?_
 refine RL.build rfl rfl rfl rfl ze61 pl61 rfl rfl ?_
 refine RL.call rfl rfl rfl rfl rfl ca11 (Step0_ct hg7 hA9) ?_
 rintro v8 s8 B8 w8 hle8 (hg8 : Good _ s8 (B8 :: Q7 :: os)) hax8 ⟨g1, g2, rfl, hA15, hO15⟩
 have hg8 := hg8.drop
 refine ⟨trivial, ?_⟩
 refine RL.pp ?_
 refine RL.pp ?_
 refine RL.allocN rfl rfl rfl rfl ze44 hg8 ?_
 rintro b9 w9 Q9 (hg9 : Good _ s8 (Q9 :: Q7 :: os)) hax9 hb9
 refine ⟨trivial, ?_⟩
 refine RL.allocN rfl rfl rfl rfl ze50 hg9 ?_
 rintro b10 w10 Q10 (hg10 : Good _ s8 (Q10 :: Q9 :: Q7 :: os)) hax10 hb10
 refine ⟨trivial, ?_⟩
 refine RL.sB (b := b9) (i := 1) (j := 0) rfl rfl rfl ty44 rfl rfl hg10 rfl (hb9) rfl rfl ?_
 rintro w11 Q11 (hg11 : Good _ s8 (Q10 :: Q11 :: Q7 :: os)) hax11 hb11
 refine ⟨trivial, ?_⟩
 refine RL.sB (b := b10) (i := 0) (j := 0) rfl rfl rfl ty50 rfl rfl hg11 rfl (hb10) rfl rfl ?_
 rintro w12 Q12 (hg12 : Good _ s8 (Q12 :: Q11 :: Q7 :: os)) hax12 hb12
 refine ⟨trivial, ?_⟩
 refine RL.pd ?_
 refine CW.seq (CW.plain ?_)
 refine RL.pp ?_
 refine RL.pu ?_
 refine RL.part 21 rfl (fun h21 => ?_) (fun h21 => ?_)
 ·
  refine RL.pp ?_
  refine RL.pp ?_
  refine RL.part 25 rfl (fun h25 => ?_) (fun h25 => ?_)
  ·
   refine RL.fi fl44_3 ?_
   refine RL.lo 10 ty38 hb11 hg12 ?_
   refine RL.pp ?_
   refine RL.pu ?_
   refine RL.part 30 rfl (fun h30 => ?_) (fun h30 => ?_)
   ·
    refine RL.fi fl44_1 ?_
    refine RL.fi fl24_0 ?_
    refine RL.lo 1 ty22 hb11 hg12 ?_
    refine RL.pp ?_
    refine RL.pu ?_
    refine RL.part 36 rfl (fun h36 => ?_) (fun h36 => ?_)
    ·
     refine RL.fi fl44_1 ?_
     refine RL.fi fl24_2 ?_
     refine RL.lo 3 ty22 hb11 hg12 ?_
     refine RL.pp ?_
     refine RL.pu ?_
     refine RL.part 42 rfl (fun h42 => ?_) (fun h42 => ?_)
     ·
      refine RL.fi fl50_1 ?_
      refine RL.lo 1 ty31 hb12 hg12 ?_
      refine RL.len rfl rfl rfl rfl sl31 rfl ?_
      refine RL.pp ?_
      refine RL.pu ?_
      refine RL.part 48 rfl (fun h48 => ?_) (fun h48 => ?_)
      ·
       refine RL.fi fl50_2 ?_
       refine RL.lo 2 ty4 hb12 hg12 ?_
       refine RL.pu ?_
       refine RL.pd ?_
       refine CW.ret (ret (vs := [_]) ⟨_, _, rfl, rfl, rfl⟩ ?_)
       exact Post.mk (hle7.trans (hle5.trans hle8)) (((hg12.drop).drop).drop).nil (hax3.trans (hax4.trans (hax5.trans (hax6.trans (hax7.trans (hax8.trans (hax9.trans (hax10.trans (hax11.trans hax12))))))))) rfl
      ·
       exact absurd h48 (by decide)
     ·
      exact absurd h42 (by decide)
    ·
     exact absurd h36 (by decide)
   ·
    exact absurd h30 (by decide)
  ·
   exact absurd h25 (by decide)
 ·
  exact absurd h21 (by decide)
end
end Go.Lw

/-
 Raftcore: the law RaftcoreStatus, walked.
-/
namespace Go.Lw
open Go.Proofs
attribute [local irreducible] RL RA
theorem sum_take {xs : List Inp} {k : Nat} (hk : k < xs.length) : ((xs.take (k + 1)).map Inp.size).sum = ((xs.take k).map Inp.size).sum + (xs[k]).size := by
 rw [show xs.take (k + 1) = xs.take k ++ [xs[k]] by simp only [List.take_add_one, List.getElem?_eq_getElem hk]; rfl, List.map_append, List.sum_append]
 simp
theorem sum_take_le (xs : List Inp) (k : Nat) : ((xs.take k).map Inp.size).sum ≤ (xs.map Inp.size).sum := by
 conv => rhs; rw [← List.take_append_drop k xs]
 rw [List.map_append, List.sum_append]; omega
end Go.Lw

/-
 Raftcore: the law RaftcoreGrows, walked.
-/
namespace Go.Lw
open Go.Proofs
attribute [local irreducible] RL RA
theorem seek_in {l : Log} (hx : RunX l) {e : Entry} (he : e ∈ l.entries) : seekP l e.index = (e.term, true) := by
 obtain ⟨k, hk, rfl⟩ := List.getElem_of_mem he
 have h1 := hx k _ (List.getElem?_eq_getElem hk)
 unfold seekP
 rw [if_neg (by omega)]
 cases hf : l.entries.find? fun e => decide (e.index = l.entries[k].index) with
 | none =>
  have := List.find?_eq_none.1 hf _ he
  simp at this
 | some z =>
  have hz := List.find?_some hf
  obtain ⟨j, hj, hjz⟩ := List.getElem_of_mem (List.mem_of_find?_eq_some hf)
  have h2 := hx j _ (List.getElem?_eq_getElem hj)
  have h3 : z.index = l.entries[k].index := of_decide_eq_true hz
  have hjk : j = k := by rw [hjz] at h2; omega
  subst hjk
  rw [← hjz]
theorem seek_kept {r q : Raft} {d : Nat} (hr : Rel r q) (hq : Sound d q) {e : Entry} (he : e ∈ r.log.entries) (h1 : e.index ≤ r.hard.commit) (h2 : q.log.base.index ≤ e.index) : seekP q.log e.index = (e.term, true) := by
 rcases hr.kept e he h1 with h | h
 ·
  exact seek_in hq.runX h
 ·
  omega
set_option maxRecDepth 100000 in
set_option maxHeartbeats 8000000 in
theorem RaftcoreGrows_ct {w : World} {s : Res} {os : List Res} {id : Int} {v : View} {h : Hd} {ins : List Inp} {ia : Option Addr} {ic : Nat} (hg : Good w s os) (hid : rng .i64 id) (hl : LogAt s s v.log h) (ht : rng .u64 v.hard.term) (hv : rng .i64 v.hard.vote) (hc : rng .u64 v.hard.commit)
  (hI : Imm RInp 20 s ia ic ins) (hb1 : v.log.size ≤ 1048576) (hb2 : max ins.length (ins.map Inp.size).sum ≤ 1048576) :
  Calls Tryz.prog 3 #[i64 id, .agg (viewV v h).toArray, .slice ia ins.length ic] w (Post w s os fun _ _ q => q = .bool true) := by
 have hn1 : ins.length ≤ 1048576 := by omega
 have hn2 : (ins.map Inp.size).sum ≤ 1048576 := by omega
 have hS : v.log.small := by
  simp only [Log.size, Conf.size] at hb1
  refine ⟨⟨by omega, by omega⟩, by omega, fun e he => ?_, by omega⟩
  have h1 := Entry.size_mem he
  simp only [Entry.size, Conf.size] at h1 hb1
  exact ⟨by omega, ⟨by omega, by omega⟩⟩
 have hnf := fun he => newP_fit (id := id) hl hid ht hv hc hb1 he
 have hns := fun he => newP_sound (id := id) (v := v) ht he
 refine enter (l := [i64 id, .agg (viewV v h).toArray, .slice ia ins.length ic]) Tryz.func3 rfl Tryz.ntmps3 rfl ?_
 refine CW.seq (CW.plain ?_)
 refine RL.boxN rfl rfl rfl rfl rfl hg ?_
 rintro b1 w1 Q1 (hg1 : Good _ s (Q1 :: os)) hax1 hb1
 refine ⟨trivial, ?_⟩
 refine RL.pd ?_
 refine CW.seq (CW.plain ?_)
 refine RL.call rfl rfl rfl rfl rfl ca9 (Head_ct hg1) ?_
 rintro v2 s2 B2 w2 hle2 (hg2 : Good _ s2 (B2 :: Q1 :: os)) hax2 rfl
 have hg2 := hg2.drop
 refine ⟨trivial, ?_⟩
 refine RL.pd ?_
 refine CW.seq (CW.plain ?_)
 refine RL.pu ?_
 refine RL.ls 0 ty35 hb1 hg2 ?_
 have hl22 := (hl.up hle2).mem hle2
 refine RL.call rfl rfl rfl rfl rfl ca10 (New_ct hg2 hl22 hS hid ht hv hc) ?_
 rintro v3 s3 B3 w3 hle3 (hg3 : Good _ s3 (B3 :: Q1 :: os)) hax3 ⟨h22, rfl, hA22⟩
 have hg3 := hg3.drop
 refine ⟨trivial, ?_⟩
 refine RL.pp ?_
 refine RL.pu ?_
 refine RL.allocN rfl rfl rfl rfl ze44 hg3 ?_
 rintro b4 w4 Q4 (hg4 : Good _ s3 (Q4 :: Q1 :: os)) hax4 hb4
 refine ⟨trivial, ?_⟩
 refine RL.sB (b := b4) (i := 0) (j := 0) rfl rfl rfl ty44 rfl rfl hg4 rfl (hb4) rfl rfl ?_
 rintro w5 Q5 (hg5 : Good _ s3 (Q5 :: Q1 :: os)) hax5 hb5
 refine ⟨trivial, ?_⟩
 refine RL.pd ?_
 refine CW.seq ?_
 refine CW.seq (CW.plain ?_)
 refine RL.pp ?_
 refine RL.pu ?_
 refine RL.part 27 rfl (fun h27 => ?_) (fun h27 => ?_)
 ·
  exact absurd h27 (by decide)
 ·
  refine RL.pp ?_
  refine RL.pd ?_
  refine CW.cond rfl (fun h30 => ?_) (fun h30 => ?_)
  ·
   refine CW.seq (CW.plain ?_)
   refine RL.pu ?_
   refine RL.pd ?_
   refine CW.ret (ret (vs := [_]) ⟨_, _, rfl, rfl, rfl⟩ ?_)
   exact Post.mk (hle2.trans hle3) ((hg5.drop).drop).nil (hax1.trans (hax2.trans (hax3.trans (hax4.trans hax5)))) rfl
  ·
   have hne : ¬ (newP id v.hard v.log v.gone).2 ≠ 0 := by simpa using h30
   refine CW.skip ?_
   refine CW.seq ?_
   refine CW.seq (CW.plain ?_)
   refine RL.pd ?_
   refine CW.block ?_
   refine CW.loop (σ := Nat) (fun j E w' => ∃ s' Q r h2, ∃ k : Nat, Good w' s' (Q :: Q1 :: os) ∧ Aux w w' ∧ Le s s' ∧ E = [(2, .slice ia ins.length ic), (8, ptr b4), (10, i64 k)] ∧ k + j = ins.length ∧ Q b4 = some (.cells (raftV r h2).toArray 44 (0, 0)) ∧ RaftAt s' r h2 ∧ Fit (1048576 + (((ins.take k).map Inp.size).sum + 3 * k)) r ∧ Sound k r) (fun j => j) ins.length [(2, .slice ia ins.length ic), (8, ptr b4), (10, i64 0)] ⟨rfl, rfl, rfl, trivial⟩ ⟨_, _, _, h22, 0, ((hg5.front 1 rfl).front 1 rfl), (hax1.trans (hax2.trans (hax3.trans (hax4.trans hax5)))), (hle2.trans hle3), rfl, by omega, hb5, hA22, by simpa using hnf hne, hns hne⟩ ?_
   rintro j E wL ⟨sL, QL, r, hh, k, hgL, haxL, hleL, rfl, hk, hQL, hAL, hF, hSd⟩
   refine CW.seq ?_
   refine CW.seq (CW.plain ?_)
   refine RL.pp ?_
   refine RL.len rfl rfl rfl rfl sl36 rfl ?_
   refine RL.pd ?_
   refine CW.cond rfl (fun h35 => ?_) (fun h35 => ?_)
   ·
    have hlt : k < ins.length := by have := decide_t h35; omega
    have hst := sum_take hlt
    have hsl := sum_take_le ins (k + 1)
    have hc1 : 1048576 + (((ins.take k).map Inp.size).sum + 3 * k) + (ins[k]).size + 3 ≤ 1073741824 := by omega
    refine CW.skip ?_
    refine CW.seq ?_
    refine CW.block ?_
    refine CW.meet (fun E' w' => ∃ s' QN pN gN, E' = [(2, .slice ia ins.length ic), (8, ptr b4), (10, i64 k), (11, ptr pN)] ∧ Good w' s' (QN :: QL :: Q1 :: os) ∧ Aux w w' ∧ Le s s' ∧ QN pN = some (.cells (raftV (stepP r ins[k]).1 gN).toArray 44 (0, 0)) ∧ RaftAt s' r hh ∧ RaftAt s' (stepP r ins[k]).1 gN ∧ Fit (1048576 + (((ins.take (k + 1)).map Inp.size).sum + 3 * (k + 1))) (stepP r ins[k]).1 ∧ Goes (k + 1) r (stepP r ins[k]).1) ?_ ?_
    ·
     have hg6 := hgL.drew
     refine CW.forks (.fork [(true, 0), (true, 1), (true, 2), (true, 3), (true, 4)] (.fork [(false, 5), (true, 6), (true, 7), (true, 8), (true, 9)] (.line [(false, 10), (false, 11), (false, 12), (false, 13), (false, 14)]) (.line [(false, 11), (false, 10), (false, 12), (false, 13), (false, 14)])) (.fork [] (.fork [(false, 10)] (.line [(false, 5), (true, 6), (true, 7), (true, 8), (true, 9), (false, 11), (false, 12), (false, 13), (false, 14)]) (.line [(false, 11), (false, 5), (true, 6), (true, 7), (true, 8), (true, 9), (false, 12), (false, 13), (false, 14)])) (.fork [(false, 11)] (.line [(false, 5), (true, 6), (true, 7), (true, 8), (true, 9), (false, 10), (false, 12), (false, 13), (false, 14)]) (.line [(false, 10), (false, 5), (true, 6), (true, 7), (true, 8), (true, 9), (false, 12), (false, 13), (false, 14)])))) (fun w => At1 b4 _ w ∧ In s w ∧ True) mixed (by kernel_rfl) (by kernel_rfl) (by kernel_rfl) (by kernel_rfl) (⟨hg6.at1 (by simp) hQL, (hg6.sh).le (hleL), trivial⟩) ?_
     refine RT.pre (S := fun w => At1 b4 _ w ∧ In s w ∧ True) (⟨hg6.at1 (by simp) hQL, (hg6.sh).le (hleL), trivial⟩) ?_
     refine RL.loadsT (ad := ⟨b4, 0, none⟩) (j := 0) rfl rfl rfl rfl ty44 rfl (At1.holds) (fun w h => h.1.inn) rfl rfl ?_
     refine RL.pp ?_
     refine RL.idxL rfl rfl rfl rfl sl36 rfl rfl hI.lies (by omega) (by omega) ?_
     rintro q vs hvl hH ⟨y, da, dc, rfl, hio⟩
     refine RL.loadsT (j := 0) (us := _) rfl rfl rfl rfl ty61 rfl (hH) (fun w h => h.2.1) rfl rfl ?_
     refine RL.done ?_
     refine RT.both (S := fun w => At1 b4 _ w ∧ In s w ∧ True) (⟨hg6.at1 (by simp) hQL, (hg6.sh).le (hleL), trivial⟩) (RT.pre (S := fun w => At1 b4 _ w ∧ In s w ∧ True) (⟨hg6.at1 (by simp) hQL, (hg6.sh).le (hleL), trivial⟩) ?_) (RT.pre (S := fun w => At1 b4 _ w ∧ In s w ∧ True) (⟨hg6.at1 (by simp) hQL, (hg6.sh).le (hleL), trivial⟩) ?_)
     ·
      have hio : InpOk s ins[k] y da dc := hio
      have hif : IFit (ins[k]).size ins[k] := ifit hio (Nat.le_refl _)
      have hst2 := fit_step hF hif (by omega)
      have hgo := go_step (i := ins[k]) hSd hF hio.msg.term (by omega) (by omega)
      have hact := fit_act (n := newN r) hF hif (by omega)
      refine RL.call rfl rfl rfl rfl rfl ca11 (Step_ct hg6 hAL (hio.up (hleL)) (hF.rng (n := newN r)) hact.rng (fit_bears hF hif hc1) (by have := hF.part; omega)) ?_
      rintro v7 s7 B7 w7 hle7 (hg7 : Good _ s7 (B7 :: QL :: Q1 :: os)) hax7 ⟨g1, g2, rfl, hA44, hO44⟩
      have hg7 := hg7.drop
      have hAL := hAL.up hle7
      refine ⟨⟨hg7.at1 (by simp) hQL, (hg7.sh).le ((hleL.trans hle7)), trivial⟩, ?_⟩
      refine RL.pp ?_
      refine RL.pu ?_
      refine RL.pd ?_
      refine RT.both (S := fun w => At1 b4 _ w ∧ In s w ∧ True) (⟨hg7.at1 (by simp) hQL, (hg7.sh).le ((hleL.trans hle7)), trivial⟩) (RT.end_ (S := fun w => At1 b4 _ w ∧ In s w ∧ True) (⟨hg7.at1 (by simp) hQL, (hg7.sh).le ((hleL.trans hle7)), trivial⟩) ?_) (RT.end_ (S := fun w => At1 b4 _ w ∧ In s w ∧ True) (⟨hg7.at1 (by simp) hQL, (hg7.sh).le ((hleL.trans hle7)), trivial⟩) ?_)
      ·
       refine RL.allocN rfl rfl rfl rfl ze44 hg7 ?_
       rintro b8 w8 Q8 (hg8 : Good _ s7 (Q8 :: QL :: Q1 :: os)) hax8 hb8
       refine ⟨⟨hg8.at1 (by simp) hQL, (hg8.sh).le ((hleL.trans hle7)), trivial⟩, ?_⟩
       refine RL.allocN rfl rfl rfl rfl ze50 hg8 ?_
       rintro b9 w9 Q9 (hg9 : Good _ s7 (Q9 :: Q8 :: QL :: Q1 :: os)) hax9 hb9
       refine ⟨⟨hg9.at1 (by simp) hQL, (hg9.sh).le ((hleL.trans hle7)), trivial⟩, ?_⟩
       refine RL.sB (b := b8) (i := 1) (j := 0) rfl rfl rfl ty44 rfl rfl hg9 rfl (hb8) rfl rfl ?_
       rintro w10 Q10 (hg10 : Good _ s7 (Q9 :: Q10 :: QL :: Q1 :: os)) hax10 hb10
       refine ⟨⟨hg10.at1 (by simp) hQL, (hg10.sh).le ((hleL.trans hle7)), trivial⟩, ?_⟩
       refine RL.sB (b := b9) (i := 0) (j := 0) rfl rfl rfl ty50 rfl rfl hg10 rfl (hb9) rfl rfl ?_
       rintro w11 Q11 (hg11 : Good _ s7 (Q11 :: Q10 :: QL :: Q1 :: os)) hax11 hb11
       refine ⟨⟨hg11.at1 (by simp) hQL, (hg11.sh).le ((hleL.trans hle7)), trivial⟩, ?_⟩
       refine RL.pd ?_
       exact fun ac ha => ⟨[(2, .slice ia ins.length ic), (8, ptr b4), (10, i64 k), (11, ptr b8)], ha.sub ⟨rfl, rfl, rfl, rfl, trivial⟩, ⟨_, _, b8, g1, rfl, ((((hg11.front 3 rfl).front 3 rfl).front 3 rfl).dropAt 3), (haxL.trans ((Aux.drew _).trans (hax7.trans (hax8.trans (hax9.trans (hax10.trans hax11)))))), (hleL.trans hle7), hb10, hAL, hA44, hst2.mono (by omega), hgo⟩⟩
      ·
       refine RL.allocN rfl rfl rfl rfl ze50 hg7 ?_
       rintro b12 w12 Q12 (hg12 : Good _ s7 (Q12 :: QL :: Q1 :: os)) hax12 hb12
       refine ⟨⟨hg12.at1 (by simp) hQL, (hg12.sh).le ((hleL.trans hle7)), trivial⟩, ?_⟩
       refine RL.allocN rfl rfl rfl rfl ze44 hg12 ?_
       rintro b13 w13 Q13 (hg13 : Good _ s7 (Q13 :: Q12 :: QL :: Q1 :: os)) hax13 hb13
       refine ⟨⟨hg13.at1 (by simp) hQL, (hg13.sh).le ((hleL.trans hle7)), trivial⟩, ?_⟩
       refine RL.sB (b := b13) (i := 0) (j := 0) rfl rfl rfl ty44 rfl rfl hg13 rfl (hb13) rfl rfl ?_
       rintro w14 Q14 (hg14 : Good _ s7 (Q14 :: Q12 :: QL :: Q1 :: os)) hax14 hb14
       refine ⟨⟨hg14.at1 (by simp) hQL, (hg14.sh).le ((hleL.trans hle7)), trivial⟩, ?_⟩
       refine RL.sB (b := b12) (i := 1) (j := 0) rfl rfl rfl ty50 rfl rfl hg14 rfl (hb12) rfl rfl ?_
       rintro w15 Q15 (hg15 : Good _ s7 (Q14 :: Q15 :: QL :: Q1 :: os)) hax15 hb15
       refine ⟨⟨hg15.at1 (by simp) hQL, (hg15.sh).le ((hleL.trans hle7)), trivial⟩, ?_⟩
       refine RL.pd ?_
       exact fun ac ha => ⟨[(2, .slice ia ins.length ic), (8, ptr b4), (10, i64 k), (11, ptr b13)], ha.sub ⟨rfl, rfl, rfl, rfl, trivial⟩, ⟨_, _, b13, g1, rfl, ((((hg15.front 3 rfl).front 3 rfl).front 2 rfl).dropAt 3), (haxL.trans ((Aux.drew _).trans (hax7.trans (hax12.trans (hax13.trans (hax14.trans hax15)))))), (hleL.trans hle7), hb14, hAL, hA44, hst2.mono (by omega), hgo⟩⟩
     ·
      refine RL.done ?_
      refine RT.both (S := fun w => At1 b4 _ w ∧ In s w ∧ True) (⟨hg6.at1 (by simp) hQL, (hg6.sh).le (hleL), trivial⟩) (RT.pre (S := fun w => At1 b4 _ w ∧ In s w ∧ True) (⟨hg6.at1 (by simp) hQL, (hg6.sh).le (hleL), trivial⟩) ?_) (RT.pre (S := fun w => At1 b4 _ w ∧ In s w ∧ True) (⟨hg6.at1 (by simp) hQL, (hg6.sh).le (hleL), trivial⟩) ?_)
      ·
       refine RL.allocN rfl rfl rfl rfl ze44 hg6 ?_
       rintro b16 w16 Q16 (hg16 : Good _ sL (Q16 :: QL :: Q1 :: os)) hax16 hb16
       refine ⟨⟨hg16.at1 (by simp) hQL, (hg16.sh).le (hleL), trivial⟩, ?_⟩
       refine RL.done ?_
       refine RT.both (S := fun w => At1 b4 _ w ∧ In s w ∧ True) (⟨hg16.at1 (by simp) hQL, (hg16.sh).le (hleL), trivial⟩) (RT.end_ (S := fun w => At1 b4 _ w ∧ In s w ∧ True) (⟨hg16.at1 (by simp) hQL, (hg16.sh).le (hleL), trivial⟩) ?_) (RT.end_ (S := fun w => At1 b4 _ w ∧ In s w ∧ True) (⟨hg16.at1 (by simp) hQL, (hg16.sh).le (hleL), trivial⟩) ?_)
       ·
        have hio : InpOk s ins[k] y da dc := hio
        have hif : IFit (ins[k]).size ins[k] := ifit hio (Nat.le_refl _)
        have hst2 := fit_step hF hif (by omega)
        have hgo := go_step (i := ins[k]) hSd hF hio.msg.term (by omega) (by omega)
        have hact := fit_act (n := newN r) hF hif (by omega)
        refine RL.call rfl rfl rfl rfl rfl ca11 (Step_ct hg16 hAL (hio.up (hleL)) (hF.rng (n := newN r)) hact.rng (fit_bears hF hif hc1) (by have := hF.part; omega)) ?_
        rintro v17 s17 B17 w17 hle17 (hg17 : Good _ s17 (B17 :: Q16 :: QL :: Q1 :: os)) hax17 ⟨g1, g2, rfl, hA44, hO44⟩
        have hg17 := hg17.drop
        have hAL := hAL.up hle17
        refine ⟨⟨hg17.at1 (by simp) hQL, (hg17.sh).le ((hleL.trans hle17)), trivial⟩, ?_⟩
        refine RL.pp ?_
        refine RL.pp ?_
        refine RL.allocN rfl rfl rfl rfl ze50 hg17 ?_
        rintro b18 w18 Q18 (hg18 : Good _ s17 (Q18 :: Q16 :: QL :: Q1 :: os)) hax18 hb18
        refine ⟨⟨hg18.at1 (by simp) hQL, (hg18.sh).le ((hleL.trans hle17)), trivial⟩, ?_⟩
        refine RL.sB (b := b16) (i := 1) (j := 0) rfl rfl rfl ty44 rfl rfl hg18 rfl (hb16) rfl rfl ?_
        rintro w19 Q19 (hg19 : Good _ s17 (Q18 :: Q19 :: QL :: Q1 :: os)) hax19 hb19
        refine ⟨⟨hg19.at1 (by simp) hQL, (hg19.sh).le ((hleL.trans hle17)), trivial⟩, ?_⟩
        refine RL.sB (b := b18) (i := 0) (j := 0) rfl rfl rfl ty50 rfl rfl hg19 rfl (hb18) rfl rfl ?_
        rintro w20 Q20 (hg20 : Good _ s17 (Q20 :: Q19 :: QL :: Q1 :: os)) hax20 hb20
        refine ⟨⟨hg20.at1 (by simp) hQL, (hg20.sh).le ((hleL.trans hle17)), trivial⟩, ?_⟩
        refine RL.pd ?_
        exact fun ac ha => ⟨[(2, .slice ia ins.length ic), (8, ptr b4), (10, i64 k), (11, ptr b16)], ha.sub ⟨rfl, rfl, rfl, rfl, trivial⟩, ⟨_, _, b16, g1, rfl, ((((hg20.front 3 rfl).front 3 rfl).front 3 rfl).dropAt 3), (haxL.trans ((Aux.drew _).trans (hax16.trans (hax17.trans (hax18.trans (hax19.trans hax20)))))), (hleL.trans hle17), hb19, hAL, hA44, hst2.mono (by omega), hgo⟩⟩
       ·
        refine RL.allocN rfl rfl rfl rfl ze50 hg16 ?_
        rintro b21 w21 Q21 (hg21 : Good _ sL (Q21 :: Q16 :: QL :: Q1 :: os)) hax21 hb21
        refine ⟨⟨hg21.at1 (by simp) hQL, (hg21.sh).le (hleL), trivial⟩, ?_⟩
        have hio : InpOk s ins[k] y da dc := hio
        have hif : IFit (ins[k]).size ins[k] := ifit hio (Nat.le_refl _)
        have hst2 := fit_step hF hif (by omega)
        have hgo := go_step (i := ins[k]) hSd hF hio.msg.term (by omega) (by omega)
        have hact := fit_act (n := newN r) hF hif (by omega)
        refine RL.call rfl rfl rfl rfl rfl ca11 (Step_ct hg21 hAL (hio.up (hleL)) (hF.rng (n := newN r)) hact.rng (fit_bears hF hif hc1) (by have := hF.part; omega)) ?_
        rintro v22 s22 B22 w22 hle22 (hg22 : Good _ s22 (B22 :: Q21 :: Q16 :: QL :: Q1 :: os)) hax22 ⟨g1, g2, rfl, hA44, hO44⟩
        have hg22 := hg22.drop
        have hAL := hAL.up hle22
        refine ⟨⟨hg22.at1 (by simp) hQL, (hg22.sh).le ((hleL.trans hle22)), trivial⟩, ?_⟩
        refine RL.pp ?_
        refine RL.pp ?_
        refine RL.sB (b := b16) (i := 1) (j := 0) rfl rfl rfl ty44 rfl rfl hg22 rfl (hb16) rfl rfl ?_
        rintro w23 Q23 (hg23 : Good _ s22 (Q21 :: Q23 :: QL :: Q1 :: os)) hax23 hb23
        refine ⟨⟨hg23.at1 (by simp) hQL, (hg23.sh).le ((hleL.trans hle22)), trivial⟩, ?_⟩
        refine RL.sB (b := b21) (i := 0) (j := 0) rfl rfl rfl ty50 rfl rfl hg23 rfl (hb21) rfl rfl ?_
        rintro w24 Q24 (hg24 : Good _ s22 (Q24 :: Q23 :: QL :: Q1 :: os)) hax24 hb24
        refine ⟨⟨hg24.at1 (by simp) hQL, (hg24.sh).le ((hleL.trans hle22)), trivial⟩, ?_⟩
        refine RL.pd ?_
        exact fun ac ha => ⟨[(2, .slice ia ins.length ic), (8, ptr b4), (10, i64 k), (11, ptr b16)], ha.sub ⟨rfl, rfl, rfl, rfl, trivial⟩, ⟨_, _, b16, g1, rfl, ((((hg24.front 3 rfl).front 3 rfl).front 3 rfl).dropAt 3), (haxL.trans ((Aux.drew _).trans (hax16.trans (hax21.trans (hax22.trans (hax23.trans hax24)))))), (hleL.trans hle22), hb23, hAL, hA44, hst2.mono (by omega), hgo⟩⟩
      ·
       refine RL.allocN rfl rfl rfl rfl ze50 hg6 ?_
       rintro b25 w25 Q25 (hg25 : Good _ sL (Q25 :: QL :: Q1 :: os)) hax25 hb25
       refine ⟨⟨hg25.at1 (by simp) hQL, (hg25.sh).le (hleL), trivial⟩, ?_⟩
       refine RL.done ?_
       refine RT.both (S := fun w => At1 b4 _ w ∧ In s w ∧ True) (⟨hg25.at1 (by simp) hQL, (hg25.sh).le (hleL), trivial⟩) (RT.end_ (S := fun w => At1 b4 _ w ∧ In s w ∧ True) (⟨hg25.at1 (by simp) hQL, (hg25.sh).le (hleL), trivial⟩) ?_) (RT.end_ (S := fun w => At1 b4 _ w ∧ In s w ∧ True) (⟨hg25.at1 (by simp) hQL, (hg25.sh).le (hleL), trivial⟩) ?_)
       ·
        have hio : InpOk s ins[k] y da dc := hio
        have hif : IFit (ins[k]).size ins[k] := ifit hio (Nat.le_refl _)
        have hst2 := fit_step hF hif (by omega)
        have hgo := go_step (i := ins[k]) hSd hF hio.msg.term (by omega) (by omega)
        have hact := fit_act (n := newN r) hF hif (by omega)
        refine RL.call rfl rfl rfl rfl rfl ca11 (Step_ct hg25 hAL (hio.up (hleL)) (hF.rng (n := newN r)) hact.rng (fit_bears hF hif hc1) (by have := hF.part; omega)) ?_
        rintro v26 s26 B26 w26 hle26 (hg26 : Good _ s26 (B26 :: Q25 :: QL :: Q1 :: os)) hax26 ⟨g1, g2, rfl, hA44, hO44⟩
        have hg26 := hg26.drop
        have hAL := hAL.up hle26
        refine ⟨⟨hg26.at1 (by simp) hQL, (hg26.sh).le ((hleL.trans hle26)), trivial⟩, ?_⟩
        refine RL.pp ?_
        refine RL.pp ?_
        refine RL.allocN rfl rfl rfl rfl ze44 hg26 ?_
        rintro b27 w27 Q27 (hg27 : Good _ s26 (Q27 :: Q25 :: QL :: Q1 :: os)) hax27 hb27
        refine ⟨⟨hg27.at1 (by simp) hQL, (hg27.sh).le ((hleL.trans hle26)), trivial⟩, ?_⟩
        refine RL.sB (b := b27) (i := 0) (j := 0) rfl rfl rfl ty44 rfl rfl hg27 rfl (hb27) rfl rfl ?_
        rintro w28 Q28 (hg28 : Good _ s26 (Q28 :: Q25 :: QL :: Q1 :: os)) hax28 hb28
        refine ⟨⟨hg28.at1 (by simp) hQL, (hg28.sh).le ((hleL.trans hle26)), trivial⟩, ?_⟩
        refine RL.sB (b := b25) (i := 1) (j := 0) rfl rfl rfl ty50 rfl rfl hg28 rfl (hb25) rfl rfl ?_
        rintro w29 Q29 (hg29 : Good _ s26 (Q28 :: Q29 :: QL :: Q1 :: os)) hax29 hb29
        refine ⟨⟨hg29.at1 (by simp) hQL, (hg29.sh).le ((hleL.trans hle26)), trivial⟩, ?_⟩
        refine RL.pd ?_
        exact fun ac ha => ⟨[(2, .slice ia ins.length ic), (8, ptr b4), (10, i64 k), (11, ptr b27)], ha.sub ⟨rfl, rfl, rfl, rfl, trivial⟩, ⟨_, _, b27, g1, rfl, ((((hg29.front 3 rfl).front 3 rfl).front 2 rfl).dropAt 3), (haxL.trans ((Aux.drew _).trans (hax25.trans (hax26.trans (hax27.trans (hax28.trans hax29)))))), (hleL.trans hle26), hb28, hAL, hA44, hst2.mono (by omega), hgo⟩⟩
       ·
        refine RL.allocN rfl rfl rfl rfl ze44 hg25 ?_
        rintro b30 w30 Q30 (hg30 : Good _ sL (Q30 :: Q25 :: QL :: Q1 :: os)) hax30 hb30
        refine ⟨⟨hg30.at1 (by simp) hQL, (hg30.sh).le (hleL), trivial⟩, ?_⟩
        have hio : InpOk s ins[k] y da dc := hio
        have hif : IFit (ins[k]).size ins[k] := ifit hio (Nat.le_refl _)
        have hst2 := fit_step hF hif (by omega)
        have hgo := go_step (i := ins[k]) hSd hF hio.msg.term (by omega) (by omega)
        have hact := fit_act (n := newN r) hF hif (by omega)
        refine RL.call rfl rfl rfl rfl rfl ca11 (Step_ct hg30 hAL (hio.up (hleL)) (hF.rng (n := newN r)) hact.rng (fit_bears hF hif hc1) (by have := hF.part; omega)) ?_
        rintro v31 s31 B31 w31 hle31 (hg31 : Good _ s31 (B31 :: Q30 :: Q25 :: QL :: Q1 :: os)) hax31 ⟨g1, g2, rfl, hA44, hO44⟩
        have hg31 := hg31.drop
        have hAL := hAL.up hle31
        refine ⟨⟨hg31.at1 (by simp) hQL, (hg31.sh).le ((hleL.trans hle31)), trivial⟩, ?_⟩
        refine RL.pp ?_
        refine RL.pp ?_
        refine RL.sB (b := b30) (i := 0) (j := 0) rfl rfl rfl ty44 rfl rfl hg31 rfl (hb30) rfl rfl ?_
        rintro w32 Q32 (hg32 : Good _ s31 (Q32 :: Q25 :: QL :: Q1 :: os)) hax32 hb32
        refine ⟨⟨hg32.at1 (by simp) hQL, (hg32.sh).le ((hleL.trans hle31)), trivial⟩, ?_⟩
        refine RL.sB (b := b25) (i := 1) (j := 0) rfl rfl rfl ty50 rfl rfl hg32 rfl (hb25) rfl rfl ?_
        rintro w33 Q33 (hg33 : Good _ s31 (Q32 :: Q33 :: QL :: Q1 :: os)) hax33 hb33
        refine ⟨⟨hg33.at1 (by simp) hQL, (hg33.sh).le ((hleL.trans hle31)), trivial⟩, ?_⟩
        refine RL.pd ?_
        exact fun ac ha => ⟨[(2, .slice ia ins.length ic), (8, ptr b4), (10, i64 k), (11, ptr b30)], ha.sub ⟨rfl, rfl, rfl, rfl, trivial⟩, ⟨_, _, b30, g1, rfl, ((((hg33.front 3 rfl).front 3 rfl).front 2 rfl).dropAt 3), (haxL.trans ((Aux.drew _).trans (hax25.trans (hax30.trans (hax31.trans (hax32.trans hax33)))))), (hleL.trans hle31), hb32, hAL, hA44, hst2.mono (by omega), hgo⟩⟩
    rintro E8 w8 ⟨sN, QN, pN, gN, rfl, hgN, haxN, hleN, hQN, hAL, hAN, hst2, hgo⟩
    have hT := hgo.2.term
    have hC := hgo.2.commit
    have hcnt := hF.log.count
    refine CW.meet (fun E' w' => E' = [(2, .slice ia ins.length ic), (8, ptr b4), (10, i64 k), (11, ptr pN)] ∧ Good w' sN (QN :: QL :: Q1 :: os) ∧ Aux w w') ?_ ?_
    ·
     refine CW.seq (CW.plain ?_)
     refine RL.fi fl44_1 ?_
     refine RL.fi fl24_0 ?_
     refine RL.lo 1 ty22 hQN hgN ?_
     refine RL.fi fl44_1 ?_
     refine RL.fi fl24_0 ?_
     refine RL.lo 1 ty22 hQL hgN ?_
     refine RL.pp ?_
     refine RL.part 55 rfl (fun h55 => ?_) (fun h55 => ?_)
     ·
      have := decide_t h55; omega
     ·
      refine RL.fi fl44_1 ?_
      refine RL.fi fl24_2 ?_
      refine RL.lo 3 ty22 hQN hgN ?_
      refine RL.fi fl44_1 ?_
      refine RL.fi fl24_2 ?_
      refine RL.lo 3 ty22 hQL hgN ?_
      refine RL.pp ?_
      refine RL.pu ?_
      refine RL.part 64 rfl (fun h64 => ?_) (fun h64 => ?_)
      ·
       have := decide_t h64; omega
      ·
       refine RL.fi fl44_1 ?_
       refine RL.fi fl24_0 ?_
       refine RL.lo 1 ty22 hQN hgN ?_
       refine RL.fi fl44_1 ?_
       refine RL.fi fl24_0 ?_
       refine RL.lo 1 ty22 hQL hgN ?_
       refine RL.pp ?_
       refine RL.part 72 rfl (fun h72 => ?_) (fun h72 => ?_)
       ·
        refine RL.fi fl44_1 ?_
        refine RL.fi fl24_1 ?_
        refine RL.lo 2 ty3 hQL hgN ?_
        refine RL.pp ?_
        refine RL.pu ?_
        refine RL.part 78 rfl (fun h78 => ?_) (fun h78 => ?_)
        ·
         refine RL.fi fl44_1 ?_
         refine RL.fi fl24_1 ?_
         refine RL.lo 2 ty3 hQN hgN ?_
         refine RL.fi fl44_1 ?_
         refine RL.fi fl24_1 ?_
         refine RL.lo 2 ty3 hQL hgN ?_
         refine RL.pp ?_
         refine RL.pp ?_
         refine RL.part 88 rfl (fun h88 => ?_) (fun h88 => ?_)
         ·
          have hv2 := hgo.2.vote (by simpa using h72) (by simpa using h78); simp [hv2] at h88
         ·
          refine RL.ls 0 ty44 hQN hgN ?_
          refine RL.callV rfl rfl rfl rfl rfl ca12 (sound_ct hgN hAN hgo.1 hst2 (by omega) (by omega)) ?_
          rintro v34 w34 (hg34 : Good _ sN (QN :: QL :: Q1 :: os)) hax34 rfl
          refine ⟨trivial, ?_⟩
          refine RL.pu ?_
          refine RL.pd ?_
          refine CW.cond rfl (fun h92 => ?_) (fun h92 => ?_)
          ·
           simp at h92
          ·
           refine CW.skip ?_
           exact fun ac ha => ⟨[(2, .slice ia ins.length ic), (8, ptr b4), (10, i64 k), (11, ptr pN)], ha.sub ⟨rfl, rfl, rfl, rfl, trivial⟩, ⟨rfl, (((hg34.front 2 rfl).front 2 rfl).front 2 rfl), (haxN.trans hax34)⟩⟩
        ·
         refine RL.qq ?_
         refine RL.qq ?_
         refine RL.qq ?_
         refine RL.pa ?_
         refine RL.pp ?_
         refine RL.pu ?_
         refine RL.ls 0 ty44 hQN hgN ?_
         refine RL.callV rfl rfl rfl rfl rfl ca12 (sound_ct hgN hAN hgo.1 hst2 (by omega) (by omega)) ?_
         rintro v35 w35 (hg35 : Good _ sN (QN :: QL :: Q1 :: os)) hax35 rfl
         refine ⟨trivial, ?_⟩
         refine RL.pu ?_
         refine RL.pd ?_
         refine CW.cond rfl (fun h92 => ?_) (fun h92 => ?_)
         ·
          simp at h92
         ·
          refine CW.skip ?_
          exact fun ac ha => ⟨[(2, .slice ia ins.length ic), (8, ptr b4), (10, i64 k), (11, ptr pN)], ha.sub ⟨rfl, rfl, rfl, rfl, trivial⟩, ⟨rfl, (((hg35.front 2 rfl).front 2 rfl).front 2 rfl), (haxN.trans hax35)⟩⟩
       ·
        refine RL.qq ?_
        refine RL.qq ?_
        refine RL.pp ?_
        refine RL.qq ?_
        refine RL.qq ?_
        refine RL.qq ?_
        refine RL.pa ?_
        refine RL.pp ?_
        refine RL.pu ?_
        refine RL.ls 0 ty44 hQN hgN ?_
        refine RL.callV rfl rfl rfl rfl rfl ca12 (sound_ct hgN hAN hgo.1 hst2 (by omega) (by omega)) ?_
        rintro v36 w36 (hg36 : Good _ sN (QN :: QL :: Q1 :: os)) hax36 rfl
        refine ⟨trivial, ?_⟩
        refine RL.pu ?_
        refine RL.pd ?_
        refine CW.cond rfl (fun h92 => ?_) (fun h92 => ?_)
        ·
         simp at h92
        ·
         refine CW.skip ?_
         exact fun ac ha => ⟨[(2, .slice ia ins.length ic), (8, ptr b4), (10, i64 k), (11, ptr pN)], ha.sub ⟨rfl, rfl, rfl, rfl, trivial⟩, ⟨rfl, (((hg36.front 2 rfl).front 2 rfl).front 2 rfl), (haxN.trans hax36)⟩⟩
    rintro E9 w9 ⟨rfl, hg9, hax9⟩
    refine CW.seq ?_
    refine CW.seq (CW.plain ?_)
    refine RL.pd ?_
    refine CW.block ?_
    refine CW.loop (σ := Nat) (fun j2 E w' => ∃ m : Nat, Good w' sN (QN :: QL :: Q1 :: os) ∧ Aux w w' ∧ E = [(2, .slice ia ins.length ic), (8, ptr b4), (10, i64 k), (11, ptr pN), (14, i64 m)] ∧ m + j2 = r.log.entries.length) (fun j => j) r.log.entries.length [(2, .slice ia ins.length ic), (8, ptr b4), (10, i64 k), (11, ptr pN), (14, i64 0)] ⟨rfl, rfl, rfl, rfl, rfl, trivial⟩ ⟨0, (((hg9.front 2 rfl).front 2 rfl).front 2 rfl), hax9, rfl, by omega⟩ ?_
    rintro j2 E wM ⟨m, hgM, haxM, rfl, hm⟩
    refine CW.seq ?_
    refine CW.seq (CW.plain ?_)
    refine RL.pu ?_
    refine RL.fi fl44_2 ?_
    refine RL.fi fl33_1 ?_
    refine RL.lo 9 ty31 hQL hgM ?_
    refine RL.len rfl rfl rfl rfl sl31 rfl ?_
    refine RL.pd ?_
    refine CW.cond rfl (fun h98 => ?_) (fun h98 => ?_)
    ·
     have hlm : m < r.log.entries.length := by have := decide_t h98; omega
     refine CW.skip ?_
     refine CW.seq ?_
     refine CW.block ?_
     refine CW.seq (CW.plain ?_)
     refine RL.fi fl44_2 ?_
     refine RL.fi fl33_1 ?_
     refine RL.lo 9 ty31 hQL hgM ?_
     refine RL.pu ?_
     refine RL.idxL rfl rfl rfl rfl sl31 rfl rfl hAL.log.entries (by omega) (by omega) ?_
     rintro q vs hvl hH ⟨ea, ec, ea1, ec1, ea2, ec2, rfl, er1, er2, er3, eh1, eh2, eh3⟩
     refine RL.loads (j := 0) (us := _) rfl rfl rfl rfl ty65 rfl (hH) (hgM.sh) rfl rfl ?_
     refine RL.allocN rfl rfl rfl rfl ze65 hgM ?_
     rintro b37 w37 Q37 (hg37 : Good _ sN (Q37 :: QN :: QL :: Q1 :: os)) hax37 hb37
     refine ⟨trivial, ?_⟩
     refine RL.sB (b := b37) (i := 0) (j := 0) rfl rfl rfl ty65 rfl rfl hg37 rfl (hb37) rfl rfl ?_
     rintro w38 Q38 (hg38 : Good _ sN (Q38 :: QN :: QL :: Q1 :: os)) hax38 hb38
     refine ⟨trivial, ?_⟩
     refine RL.done ?_
     refine CW.seq (CW.plain ?_)
     refine RL.fi fl44_2 ?_
     refine RL.ls 4 ty33 hQN hg38 ?_
     refine RL.fi fl65_0 ?_
     refine RL.lo 0 ty22 hb38 hg38 ?_
     refine RL.callV rfl rfl rfl rfl rfl ca13 (RefTerm_ct hg38 hAN.log) ?_
     rintro v39 w39 (hg39 : Good _ sN (Q38 :: QN :: QL :: Q1 :: os)) hax39 rfl
     refine ⟨trivial, ?_⟩
     refine RL.pp ?_
     refine RL.pp ?_
     refine RL.pd ?_
     refine CW.seq (CW.plain ?_)
     refine RL.fi fl65_0 ?_
     refine RL.lo 0 ty22 hb38 hg39 ?_
     refine RL.fi fl44_1 ?_
     refine RL.fi fl24_2 ?_
     refine RL.lo 3 ty22 hQL hg39 ?_
     refine RL.pp ?_
     refine RL.part 121 rfl (fun h121 => ?_) (fun h121 => ?_)
     ·
      refine RL.fi fl65_0 ?_
      refine RL.lo 0 ty22 hb38 hg39 ?_
      refine RL.fi fl44_2 ?_
      refine RL.fi fl33_0 ?_
      refine RL.fi fl30_0 ?_
      refine RL.lo 4 ty22 hQN hg39 ?_
      refine RL.pp ?_
      refine RL.pu ?_
      refine RL.part 130 rfl (fun h130 => ?_) (fun h130 => ?_)
      ·
       refine RL.pp ?_
       refine RL.pu ?_
       refine RL.part 133 rfl (fun h133 => ?_) (fun h133 => ?_)
       ·
        have hz := seek_kept hgo.2 hgo.1 (List.getElem_mem hlm) (by simpa using h121) (by simpa using h130); simp [hz] at h133
       ·
        refine RL.pu ?_
        refine RL.fi fl65_1 ?_
        refine RL.lo 1 ty22 hb38 hg39 ?_
        refine RL.pp ?_
        refine RL.pd ?_
        refine CW.cond rfl (fun h139 => ?_) (fun h139 => ?_)
        ·
         have hz := seek_kept hgo.2 hgo.1 (List.getElem_mem hlm) (by simpa using h121) (by simpa using h130); simp [hz] at h139
        ·
         refine CW.skip (CW.plain ?_)
         refine RL.pu ?_
         refine RL.add rfl rfl rfl rfl rfl rfl ((by simp only [rng]; omega)) ?_
         refine RL.pd ?_
         cases j2 with
         | zero => omega
         | succ j2 => exact fun ac ha => ⟨j2, [(2, .slice ia ins.length ic), (8, ptr b4), (10, i64 k), (11, ptr pN), (14, i64 ((m : Int) + 1))], ha.sub ⟨rfl, rfl, rfl, rfl, rfl, trivial⟩, ⟨m + 1, ((((hg39.front 3 rfl).front 3 rfl).front 3 rfl).dropAt 3), (haxM.trans (hax37.trans (hax38.trans hax39))), rfl, by omega⟩, Nat.lt_succ_self j2⟩
      ·
       refine RL.qq ?_
       refine RL.qq ?_
       refine RL.qq ?_
       refine RL.qq ?_
       refine RL.pd ?_
       refine CW.no (by first | rfl | exact congrArg (fun b => some (Value.bool b)) (by assumption)) ?_
       refine CW.skip (CW.plain ?_)
       refine RL.pu ?_
       refine RL.add rfl rfl rfl rfl rfl rfl ((by simp only [rng]; omega)) ?_
       refine RL.pd ?_
       cases j2 with
       | zero => omega
       | succ j2 => exact fun ac ha => ⟨j2, [(2, .slice ia ins.length ic), (8, ptr b4), (10, i64 k), (11, ptr pN), (14, i64 ((m : Int) + 1))], ha.sub ⟨rfl, rfl, rfl, rfl, rfl, trivial⟩, ⟨m + 1, ((((hg39.front 3 rfl).front 3 rfl).front 3 rfl).dropAt 3), (haxM.trans (hax37.trans (hax38.trans hax39))), rfl, by omega⟩, Nat.lt_succ_self j2⟩
     ·
      refine RL.qq ?_
      refine RL.qq ?_
      refine RL.qq ?_
      refine RL.pa ?_
      refine RL.pp ?_
      refine RL.qq ?_
      refine RL.qq ?_
      refine RL.qq ?_
      refine RL.qq ?_
      refine RL.pd ?_
      refine CW.no (by first | rfl | exact congrArg (fun b => some (Value.bool b)) (by assumption)) ?_
      refine CW.skip (CW.plain ?_)
      refine RL.pu ?_
      refine RL.add rfl rfl rfl rfl rfl rfl ((by simp only [rng]; omega)) ?_
      refine RL.pd ?_
      cases j2 with
      | zero => omega
      | succ j2 => exact fun ac ha => ⟨j2, [(2, .slice ia ins.length ic), (8, ptr b4), (10, i64 k), (11, ptr pN), (14, i64 ((m : Int) + 1))], ha.sub ⟨rfl, rfl, rfl, rfl, rfl, trivial⟩, ⟨m + 1, ((((hg39.front 3 rfl).front 3 rfl).front 3 rfl).dropAt 3), (haxM.trans (hax37.trans (hax38.trans hax39))), rfl, by omega⟩, Nat.lt_succ_self j2⟩
    ·
     refine CW.exit ?_
     refine CW.plain ?_
     refine RL.ls 0 ty44 hQN hgM ?_
     refine RL.sB (b := b4) (i := 1) (j := 0) rfl rfl rfl ty44 rfl rfl hgM rfl (hQL) rfl rfl ?_
     rintro w40 Q40 (hg40 : Good _ sN (QN :: Q40 :: Q1 :: os)) hax40 hb40
     refine ⟨trivial, ?_⟩
     refine RL.done ?_
     refine CW.plain ?_
     refine RL.pu ?_
     refine RL.add rfl rfl rfl rfl rfl rfl ((by simp only [rng]; omega)) ?_
     refine RL.pd ?_
     cases j with
     | zero => omega
     | succ j => exact fun ac ha => ⟨j, [(2, .slice ia ins.length ic), (8, ptr b4), (10, i64 ((k : Int) + 1))], ha.sub ⟨rfl, rfl, rfl, trivial⟩, ⟨_, _, (stepP r ins[k]).1, gN, k + 1, (((hg40.front 2 rfl).front 2 rfl).dropAt 2), (haxM.trans hax40), hleN, rfl, by omega, hb40, hAN, hst2, hgo.1⟩, Nat.lt_succ_self j⟩
   ·
    refine CW.exit ?_
    refine CW.seq (CW.plain ?_)
    refine RL.pd ?_
    refine CW.ret (ret (vs := [_]) ⟨_, _, rfl, rfl, rfl⟩ ?_)
    exact Post.mk hleL ((hgL.drop).drop).nil haxL rfl
theorem RaftcoreGrows_law {w : World} {s : Res} {os : List Res} {id : Int} {v : View} {vs : List Value} {ins : List Inp} {ia : Option Addr} {ic : Nat} (hg : Good w s os) (hid : rng .i64 id) (hv : ∃ h, vs = viewV v h ∧ LogAt s s v.log h ∧ rng .u64 v.hard.term ∧ rng .i64 v.hard.vote ∧ rng .u64 v.hard.commit)
  (hI : Imm RInp 20 s ia ic ins) (hb1 : v.log.size ≤ 1048576) (hb2 : max ins.length (ins.map Inp.size).sum ≤ 1048576) :
  Calls Tryz.prog 3 #[i64 id, .agg vs.toArray, .slice ia ins.length ic] w (Post w s os fun _ _ q => q = .bool true) := by
 obtain ⟨h, rfl, hl, h1, h2, h3⟩ := hv
 exact RaftcoreGrows_ct hg hid hl h1 h2 h3 hI hb1 hb2
end Go.Lw
