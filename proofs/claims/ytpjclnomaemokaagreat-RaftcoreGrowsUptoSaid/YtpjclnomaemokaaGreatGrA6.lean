/-
  Parts of the proof of RaftcoreGrowsUptoSaid: the walk engine: KcH, KcJ, KcK.
-/
import Derived.Test.YtpjclnomaemokaaGreatGrA5

/-
 A node by the program: what it does with messages about votes.
-/
namespace Go.Lw
open Go.Proofs
attribute [local irreducible] RL RA
section
variable {w : World} {s A : Res} {os : List Res} {p : Nat} {h : Hd} {n : Node}
set_option maxRecDepth 100000 in
theorem stands_ct {m : Msg} {y : Lay} {f : FuncId} {won : Node → Node} (hg : Good w s (A :: os)) (nd : Nd s A p h n) (hR : NRng n) (hr : n.roomy) (hbl : n.s.ballots.length ≤ 68719476736) (hm : MsgOk s m y) (hc : callable Tryz.prog f = true)
  (hw : ∀ w' s' A' h', Good w' s' (A' :: os) → Nd s' A' p h' (n.addBallot m.frm (!m.reject)) → Calls Tryz.prog f #[ptr p] w' (NPost w' s' os p (.tuple #[]) (won (n.addBallot m.frm (!m.reject))))) :
  Calls Tryz.prog 105 #[ptr p, .agg (msgV m y).toArray, .func (.func f) #[ptr p] #[]] w (NPost w s os p (.tuple #[]) (n.stands m won)) := by
 obtain ⟨hS, h1, h2, h3, h4⟩ := hr
 have hcs := confP_small hS
 refine enter (l := [ptr p, .agg (msgV m y).toArray, .func (.func f) #[ptr p] #[]]) Tryz.func105 rfl Tryz.ntmps105 rfl ?_
 refine CW.seq (CW.plain ?_)
 refine RL.boxN rfl rfl rfl rfl rfl hg ?_
 rintro b1 w1 Q1 (hg1 : Good _ s (Q1 :: A :: os)) hax1 hb1
 refine ⟨trivial, ?_⟩
 refine RL.done ?_
 refine CW.seq (CW.plain ?_)
 refine RL.pu ?_
 refine RL.fi fl56_1 ?_
 refine RL.lo 1 ty3 hb1 hg1 ?_
 refine RL.fi fl56_8 ?_
 refine RL.lo 8 ty4 hb1 hg1 ?_
 refine RL.pu ?_
 refine RL.call rfl rfl rfl rfl rfl ca128 (ballot_ct (hg1.front 1 rfl) nd hR hS hm.frm hbl hcs.1) ?_
 rintro v2 s2 A2 w2 hle2 (hg2 : Good _ s2 (A2 :: Q1 :: os)) hax2 ⟨rfl, h2, nd2⟩
 refine ⟨trivial, ?_⟩
 refine RL.done ?_
 refine CW.block ?_
 refine CW.seq (CW.plain ?_)
 refine RL.pu ?_
 refine RL.pd ?_
 refine CW.cond rfl (fun h13 => ?_) (fun h13 => ?_)
 ·
  refine CW.plain ?_
  refine RL.pu ?_
  refine RL.callB rfl rfl rfl rfl rfl rfl hc (hw _ _ _ _ (hg2.dropNext) nd2) ?_
  rintro e3 w3 ⟨v3, s3, A3, rfl, hle3, (hg3 : Good _ s3 (A3 :: os)), hax3, ⟨rfl, h3, nd3⟩⟩
  refine ⟨_, rfl, trivial, ?_⟩
  refine RL.done ?_
  refine fall (vs := []) rfl ?_
  refine Post.mk (hle2.trans hle3) hg3 (hax1.trans (hax2.trans hax3)) ⟨rfl, _, nd3.to ?_⟩
  simp only [Node.stands, if_pos (show (n.addBallot m.frm (!m.reject)).tally = 1 by simpa using h13)]
 ·
  refine CW.seq (CW.plain ?_)
  refine RL.pu ?_
  refine RL.pd ?_
  refine CW.cond rfl (fun h17 => ?_) (fun h17 => ?_)
  ·
   refine CW.plain ?_
   refine RL.pp ?_
   refine RL.pu ?_
   refine RL.fi fl109_0 ?_
   refine RL.fi fl44_1 ?_
   refine RL.fi fl24_0 ?_
   refine RL.lo 1 ty22 nd2.cells hg2 ?_
   refine RL.call rfl rfl rfl rfl rfl ca73 (follow_ct hg2 nd2) ?_
   rintro v4 s4 A4 w4 hle4 (hg4 : Good _ s4 (A4 :: Q1 :: os)) hax4 ⟨rfl, h4, nd4⟩
   refine ⟨trivial, ?_⟩
   refine RL.done ?_
   refine fall (vs := []) rfl ?_
   refine Post.mk (hle2.trans hle4) (hg4.dropNext) (hax1.trans (hax2.trans hax4)) ⟨rfl, _, nd4.to ?_⟩
   simp only [Node.stands, if_neg (show ¬ (n.addBallot m.frm (!m.reject)).tally = 1 by simpa using h13), if_pos (show (n.addBallot m.frm (!m.reject)).tally = -1 by simpa using h17)]
  ·
   refine CW.skip ?_
   refine fall (vs := []) rfl ?_
   refine Post.mk hle2 (hg2.dropNext) (hax1.trans hax2) ⟨rfl, _, nd2.to ?_⟩
   simp only [Node.stands, if_neg (show ¬ (n.addBallot m.frm (!m.reject)).tally = 1 by simpa using h13), if_neg (show ¬ (n.addBallot m.frm (!m.reject)).tally = -1 by simpa using h17)]
theorem vote_t {m : Msg} (h1 : n.s.hard.vote = 0 ∨ n.s.hard.vote = m.frm) (h2 : n.s.role = 1) (h3 : newerP n.s.log m.index m.logTerm = true) : n.vote m = ((n.wVote m.frm).wElapsed 0).post { Msg.zero with kind := 4, to := m.frm, reject := !true } := by
 have hy : (decide (n.s.hard.vote = 0 ∨ n.s.hard.vote = m.frm) && decide (n.s.role = 1) && newerP n.s.log m.index m.logTerm) = true := by simp [h1, h2, h3]
 simp only [Node.vote, hy, if_true]; rfl
theorem vote_f {m : Msg} (h0 : ¬ (n.s.hard.vote = 0 ∨ n.s.hard.vote = m.frm) ∨ n.s.role ≠ 1 ∨ newerP n.s.log m.index m.logTerm = false) : n.vote m = n.post { Msg.zero with kind := 4, to := m.frm, reject := !false } := by
 have hy : (decide (n.s.hard.vote = 0 ∨ n.s.hard.vote = m.frm) && decide (n.s.role = 1) && newerP n.s.log m.index m.logTerm) = false := by
  rcases h0 with h | h | h <;> simp [h]
 simp only [Node.vote, hy, Bool.false_eq_true, if_false]
set_option maxRecDepth 100000 in
theorem vote_ct {m : Msg} {y : Lay} (hg : Good w s (A :: os)) (nd : Nd s A p h n) (hR : NRng n) (hr : n.roomy) (hm : MsgOk s m y) :
  Calls Tryz.prog 106 #[ptr p, .agg (msgV m y).toArray] w (NPost w s os p (.tuple #[]) (n.vote m)) := by
 obtain ⟨hS, h1, h2, h3, h4⟩ := hr
 refine enter (l := [ptr p, .agg (msgV m y).toArray]) Tryz.func106 rfl Tryz.ntmps106 rfl ?_
 refine CW.seq (CW.plain ?_)
 refine RL.boxN rfl rfl rfl rfl rfl hg ?_
 rintro b5 w5 Q5 (hg5 : Good _ s (Q5 :: A :: os)) hax5 hb5
 refine ⟨trivial, ?_⟩
 refine RL.done ?_
 refine CW.seq ?_
 have hg6 := hg5.drew
 refine CW.draws [(true, 0), (true, 1), (true, 2), (true, 3), (true, 4), (true, 5), (true, 6), (true, 7), (true, 8), (true, 9), (true, 10), (true, 11), (true, 12), (true, 13), (true, 14), (true, 15), (true, 16), (true, 17), (false, 18)] (fun w => At1 p _ w ∧ At1 b5 _ w ∧ True) mixed (by kernel_rfl) (by kernel_rfl) (by kernel_rfl) (by kernel_rfl) (⟨hg6.at1 (by simp) nd.cells, hg6.at1 (by simp) hb5, trivial⟩) ?_
 refine RL.pp ?_
 refine RL.fi fl109_0 ?_
 refine RL.fi fl44_1 ?_
 refine RL.fi fl24_1 ?_
 refine RL.loadT (ad := ⟨p, 0, none⟩) (j := 2) rfl rfl rfl rfl ty3 rfl (At1.holds) (fun w h => h.1.inn) rfl ?_
 refine RL.pp ?_
 refine RL.part 13 rfl (fun h13 => ?_) (fun h13 => ?_)
 ·
  refine RL.qq ?_
  refine RL.qq ?_
  refine RL.qq ?_
  refine RL.qq ?_
  refine RL.pa ?_
  refine RL.pu ?_
  refine RL.pd ?_
  refine CW.seq ?_
  have hg7 := hg6.drew
  refine CW.draws [(true, 0), (true, 1), (true, 2), (true, 3), (true, 4), (true, 5), (true, 6), (true, 7), (true, 8), (true, 9), (true, 10), (true, 11), (true, 12), (true, 13), (true, 14), (true, 15), (true, 16), (true, 17), (true, 18), (false, 19), (true, 20), (false, 21)] (fun w => At1 p _ w ∧ At1 b5 _ w ∧ True) mixed (by kernel_rfl) (by kernel_rfl) (by kernel_rfl) (by kernel_rfl) (⟨hg7.at1 (by simp) nd.cells, hg7.at1 (by simp) hb5, trivial⟩) ?_
  refine RL.pp ?_
  refine RL.pp ?_
  refine RL.fi fl109_0 ?_
  refine RL.fi fl44_3 ?_
  refine RL.loadT (ad := ⟨p, 0, none⟩) (j := 10) rfl rfl rfl rfl ty38 rfl (At1.holds) (fun w h => h.1.inn) rfl ?_
  refine RL.pp ?_
  refine RL.pu ?_
  refine RL.part 33 rfl (fun h33 => ?_) (fun h33 => ?_)
  ·
   refine RL.pp ?_
   refine RL.fi fl109_0 ?_
   refine RL.fi fl44_2 ?_
   refine RL.loadsT (ad := ⟨p, 0, none⟩) (j := 4) rfl rfl rfl rfl ty33 rfl (At1.holds) (fun w h => h.1.inn) rfl rfl ?_
   refine RL.fi fl56_4 ?_
   refine RL.loadT (ad := ⟨b5, 0, none⟩) (j := 4) rfl rfl rfl rfl ty22 rfl (At1.holds) (fun w h => h.2.1.inn) rfl ?_
   refine RL.fi fl56_5 ?_
   refine RL.loadT (ad := ⟨b5, 0, none⟩) (j := 5) rfl rfl rfl rfl ty22 rfl (At1.holds) (fun w h => h.2.1.inn) rfl ?_
   refine RL.callV rfl rfl rfl rfl rfl ca104 (Newer_ct hg7 (.inr (by simp)) (nd.at_ hR)) ?_
   rintro v8 w8 (hg8 : Good _ s (Q5 :: A :: os)) hax8 rfl
   refine ⟨⟨hg8.at1 (by simp) nd.cells, hg8.at1 (by simp) hb5, trivial⟩, ?_⟩
   refine RL.pu ?_
   refine RL.pd ?_
   refine CW.seq ?_
   refine CW.seq (CW.plain ?_)
   refine RL.pd ?_
   refine CW.cond rfl (fun h45 => ?_) (fun h45 => ?_)
   ·
    have hRv : NRng ((n.wVote m.frm).wElapsed 0) := hR.of rfl hR.2.1 hm.frm hR.2.2.2.1 rfl
    refine CW.plain ?_
    refine RL.pp ?_
    refine RL.fi fl56_1 ?_
    refine RL.lo 1 ty3 hb5 hg8 ?_
    refine RL.pu ?_
    refine RL.fi fl109_0 ?_
    refine RL.fi fl44_1 ?_
    refine RL.fi fl24_1 ?_
    refine RL.storeI (p := p) (i := 1) (j := 2) rfl rfl rfl ty3 rfl rfl hg8 rfl (nd.cells) (NRest.wVote nd.rest) rfl (Nat.le_of_ble_eq_true rfl) rfl ?_
    rintro w9 A9 (hg9 : Good _ s (Q5 :: A9 :: os)) hax9 nd9
    refine ⟨trivial, ?_⟩
    refine RL.pu ?_
    refine RL.fi fl109_0 ?_
    refine RL.fi fl44_7 ?_
    refine RL.storeI (p := p) (i := 1) (j := 14) rfl rfl rfl ty3 rfl rfl hg9 rfl (nd9.cells) (NRest.wElapsed nd9.rest) rfl (Nat.le_of_ble_eq_true rfl) rfl ?_
    rintro w10 A10 (hg10 : Good _ s (Q5 :: A10 :: os)) hax10 nd10
    refine ⟨trivial, ?_⟩
    refine RL.done ?_
    refine CW.plain ?_
    refine RL.pu ?_
    refine RL.fi fl56_1 ?_
    refine RL.lo 1 ty3 hb5 hg10 ?_
    refine RL.pp ?_
    refine RL.build rfl rfl rfl rfl ze56 pl56 rfl rfl ?_
    refine RL.call rfl rfl rfl rfl rfl ca113 (post_ct (m := { Msg.zero with kind := 4, to := m.frm, reject := _ }) (y := Lay.none) (hg10.front 1 rfl) nd10 hRv { MsgOk.zero _ with kind := by simp [rng], to := hm.frm } (by show n.o.msgs.length ≤ _; omega)) ?_
    rintro v11 s11 A11 w11 hle11 (hg11 : Good _ s11 (A11 :: Q5 :: os)) hax11 ⟨rfl, ma11, mc11, nd11⟩
    refine ⟨trivial, ?_⟩
    refine RL.done ?_
    refine fall (vs := []) rfl ?_
    exact Post.mk hle11 (hg11.dropNext) (hax5.trans ((Aux.drew _).trans ((Aux.drew _).trans (hax8.trans (hax9.trans (hax10.trans hax11)))))) ⟨rfl, _, nd11.to (by simp only [h45]; exact (vote_t (.inl (by simpa using h13)) (by simpa using h33) h45).symm)⟩
   ·
    have hRv := hR
    refine CW.skip (CW.plain ?_)
    refine RL.pu ?_
    refine RL.fi fl56_1 ?_
    refine RL.lo 1 ty3 hb5 hg8 ?_
    refine RL.pp ?_
    refine RL.build rfl rfl rfl rfl ze56 pl56 rfl rfl ?_
    refine RL.call rfl rfl rfl rfl rfl ca113 (post_ct (m := { Msg.zero with kind := 4, to := m.frm, reject := _ }) (y := Lay.none) (hg8.front 1 rfl) nd hRv { MsgOk.zero _ with kind := by simp [rng], to := hm.frm } (by show n.o.msgs.length ≤ _; omega)) ?_
    rintro v12 s12 A12 w12 hle12 (hg12 : Good _ s12 (A12 :: Q5 :: os)) hax12 ⟨rfl, ma12, mc12, nd12⟩
    refine ⟨trivial, ?_⟩
    refine RL.done ?_
    refine fall (vs := []) rfl ?_
    exact Post.mk hle12 (hg12.dropNext) (hax5.trans ((Aux.drew _).trans ((Aux.drew _).trans (hax8.trans hax12)))) ⟨rfl, _, nd12.to (by simp only [h45]; exact (vote_f (.inr (.inr h45))).symm)⟩
  ·
   have hRv := hR
   refine RL.qq ?_
   refine RL.qq ?_
   refine RL.qq ?_
   refine RL.qq ?_
   refine RL.qq ?_
   refine RL.pu ?_
   refine RL.pd ?_
   refine CW.seq ?_
   refine CW.seq (CW.plain ?_)
   refine RL.pd ?_
   refine CW.no (by first | rfl | exact congrArg (fun b => some (Value.bool b)) (by assumption)) ?_
   refine CW.skip (CW.plain ?_)
   refine RL.pu ?_
   refine RL.fi fl56_1 ?_
   refine RL.lo 1 ty3 hb5 hg7 ?_
   refine RL.pp ?_
   refine RL.build rfl rfl rfl rfl ze56 pl56 rfl rfl ?_
   refine RL.call rfl rfl rfl rfl rfl ca113 (post_ct (m := { Msg.zero with kind := 4, to := m.frm, reject := _ }) (y := Lay.none) (hg7.front 1 rfl) nd hRv { MsgOk.zero _ with kind := by simp [rng], to := hm.frm } (by show n.o.msgs.length ≤ _; omega)) ?_
   rintro v13 s13 A13 w13 hle13 (hg13 : Good _ s13 (A13 :: Q5 :: os)) hax13 ⟨rfl, ma13, mc13, nd13⟩
   refine ⟨trivial, ?_⟩
   refine RL.done ?_
   refine fall (vs := []) rfl ?_
   exact Post.mk hle13 (hg13.dropNext) (hax5.trans ((Aux.drew _).trans ((Aux.drew _).trans hax13))) ⟨rfl, _, nd13.to (vote_f (.inr (.inl (by simpa using h33)))).symm⟩
 ·
  refine RL.pp ?_
  refine RL.fi fl109_0 ?_
  refine RL.fi fl44_1 ?_
  refine RL.fi fl24_1 ?_
  refine RL.loadT (ad := ⟨p, 0, none⟩) (j := 2) rfl rfl rfl rfl ty3 rfl (At1.holds) (fun w h => h.1.inn) rfl ?_
  refine RL.fi fl56_1 ?_
  refine RL.loadT (ad := ⟨b5, 0, none⟩) (j := 1) rfl rfl rfl rfl ty3 rfl (At1.holds) (fun w h => h.2.1.inn) rfl ?_
  refine RL.pp ?_
  refine RL.pd ?_
  refine CW.seq ?_
  have hg14 := hg6.drew
  refine CW.draws [(true, 0), (true, 1), (true, 2), (true, 3), (true, 4), (true, 5), (true, 6), (true, 7), (true, 8), (true, 9), (true, 10), (true, 11), (true, 12), (true, 13), (true, 14), (true, 15), (true, 16), (true, 17), (true, 18), (false, 19), (true, 20), (false, 21)] (fun w => At1 p _ w ∧ At1 b5 _ w ∧ True) mixed (by kernel_rfl) (by kernel_rfl) (by kernel_rfl) (by kernel_rfl) (⟨hg14.at1 (by simp) nd.cells, hg14.at1 (by simp) hb5, trivial⟩) ?_
  refine RL.pp ?_
  refine RL.part 25 rfl (fun h25 => ?_) (fun h25 => ?_)
  ·
   refine RL.pp ?_
   refine RL.fi fl109_0 ?_
   refine RL.fi fl44_3 ?_
   refine RL.loadT (ad := ⟨p, 0, none⟩) (j := 10) rfl rfl rfl rfl ty38 rfl (At1.holds) (fun w h => h.1.inn) rfl ?_
   refine RL.pp ?_
   refine RL.pu ?_
   refine RL.part 33 rfl (fun h33 => ?_) (fun h33 => ?_)
   ·
    refine RL.pp ?_
    refine RL.fi fl109_0 ?_
    refine RL.fi fl44_2 ?_
    refine RL.loadsT (ad := ⟨p, 0, none⟩) (j := 4) rfl rfl rfl rfl ty33 rfl (At1.holds) (fun w h => h.1.inn) rfl rfl ?_
    refine RL.fi fl56_4 ?_
    refine RL.loadT (ad := ⟨b5, 0, none⟩) (j := 4) rfl rfl rfl rfl ty22 rfl (At1.holds) (fun w h => h.2.1.inn) rfl ?_
    refine RL.fi fl56_5 ?_
    refine RL.loadT (ad := ⟨b5, 0, none⟩) (j := 5) rfl rfl rfl rfl ty22 rfl (At1.holds) (fun w h => h.2.1.inn) rfl ?_
    refine RL.callV rfl rfl rfl rfl rfl ca104 (Newer_ct hg14 (.inr (by simp)) (nd.at_ hR)) ?_
    rintro v15 w15 (hg15 : Good _ s (Q5 :: A :: os)) hax15 rfl
    refine ⟨⟨hg15.at1 (by simp) nd.cells, hg15.at1 (by simp) hb5, trivial⟩, ?_⟩
    refine RL.pu ?_
    refine RL.pd ?_
    refine CW.seq ?_
    refine CW.seq (CW.plain ?_)
    refine RL.pd ?_
    refine CW.cond rfl (fun h45 => ?_) (fun h45 => ?_)
    ·
     have hRv : NRng ((n.wVote m.frm).wElapsed 0) := hR.of rfl hR.2.1 hm.frm hR.2.2.2.1 rfl
     refine CW.plain ?_
     refine RL.pp ?_
     refine RL.fi fl56_1 ?_
     refine RL.lo 1 ty3 hb5 hg15 ?_
     refine RL.pu ?_
     refine RL.fi fl109_0 ?_
     refine RL.fi fl44_1 ?_
     refine RL.fi fl24_1 ?_
     refine RL.storeI (p := p) (i := 1) (j := 2) rfl rfl rfl ty3 rfl rfl hg15 rfl (nd.cells) (NRest.wVote nd.rest) rfl (Nat.le_of_ble_eq_true rfl) rfl ?_
     rintro w16 A16 (hg16 : Good _ s (Q5 :: A16 :: os)) hax16 nd16
     refine ⟨trivial, ?_⟩
     refine RL.pu ?_
     refine RL.fi fl109_0 ?_
     refine RL.fi fl44_7 ?_
     refine RL.storeI (p := p) (i := 1) (j := 14) rfl rfl rfl ty3 rfl rfl hg16 rfl (nd16.cells) (NRest.wElapsed nd16.rest) rfl (Nat.le_of_ble_eq_true rfl) rfl ?_
     rintro w17 A17 (hg17 : Good _ s (Q5 :: A17 :: os)) hax17 nd17
     refine ⟨trivial, ?_⟩
     refine RL.done ?_
     refine CW.plain ?_
     refine RL.pu ?_
     refine RL.fi fl56_1 ?_
     refine RL.lo 1 ty3 hb5 hg17 ?_
     refine RL.pp ?_
     refine RL.build rfl rfl rfl rfl ze56 pl56 rfl rfl ?_
     refine RL.call rfl rfl rfl rfl rfl ca113 (post_ct (m := { Msg.zero with kind := 4, to := m.frm, reject := _ }) (y := Lay.none) (hg17.front 1 rfl) nd17 hRv { MsgOk.zero _ with kind := by simp [rng], to := hm.frm } (by show n.o.msgs.length ≤ _; omega)) ?_
     rintro v18 s18 A18 w18 hle18 (hg18 : Good _ s18 (A18 :: Q5 :: os)) hax18 ⟨rfl, ma18, mc18, nd18⟩
     refine ⟨trivial, ?_⟩
     refine RL.done ?_
     refine fall (vs := []) rfl ?_
     exact Post.mk hle18 (hg18.dropNext) (hax5.trans ((Aux.drew _).trans ((Aux.drew _).trans (hax15.trans (hax16.trans (hax17.trans hax18)))))) ⟨rfl, _, nd18.to (by simp only [h45]; exact (vote_t (.inr (by simpa using h25)) (by simpa using h33) h45).symm)⟩
    ·
     have hRv := hR
     refine CW.skip (CW.plain ?_)
     refine RL.pu ?_
     refine RL.fi fl56_1 ?_
     refine RL.lo 1 ty3 hb5 hg15 ?_
     refine RL.pp ?_
     refine RL.build rfl rfl rfl rfl ze56 pl56 rfl rfl ?_
     refine RL.call rfl rfl rfl rfl rfl ca113 (post_ct (m := { Msg.zero with kind := 4, to := m.frm, reject := _ }) (y := Lay.none) (hg15.front 1 rfl) nd hRv { MsgOk.zero _ with kind := by simp [rng], to := hm.frm } (by show n.o.msgs.length ≤ _; omega)) ?_
     rintro v19 s19 A19 w19 hle19 (hg19 : Good _ s19 (A19 :: Q5 :: os)) hax19 ⟨rfl, ma19, mc19, nd19⟩
     refine ⟨trivial, ?_⟩
     refine RL.done ?_
     refine fall (vs := []) rfl ?_
     exact Post.mk hle19 (hg19.dropNext) (hax5.trans ((Aux.drew _).trans ((Aux.drew _).trans (hax15.trans hax19)))) ⟨rfl, _, nd19.to (by simp only [h45]; exact (vote_f (.inr (.inr h45))).symm)⟩
   ·
    have hRv := hR
    refine RL.qq ?_
    refine RL.qq ?_
    refine RL.qq ?_
    refine RL.qq ?_
    refine RL.qq ?_
    refine RL.pu ?_
    refine RL.pd ?_
    refine CW.seq ?_
    refine CW.seq (CW.plain ?_)
    refine RL.pd ?_
    refine CW.no (by first | rfl | exact congrArg (fun b => some (Value.bool b)) (by assumption)) ?_
    refine CW.skip (CW.plain ?_)
    refine RL.pu ?_
    refine RL.fi fl56_1 ?_
    refine RL.lo 1 ty3 hb5 hg14 ?_
    refine RL.pp ?_
    refine RL.build rfl rfl rfl rfl ze56 pl56 rfl rfl ?_
    refine RL.call rfl rfl rfl rfl rfl ca113 (post_ct (m := { Msg.zero with kind := 4, to := m.frm, reject := _ }) (y := Lay.none) (hg14.front 1 rfl) nd hRv { MsgOk.zero _ with kind := by simp [rng], to := hm.frm } (by show n.o.msgs.length ≤ _; omega)) ?_
    rintro v20 s20 A20 w20 hle20 (hg20 : Good _ s20 (A20 :: Q5 :: os)) hax20 ⟨rfl, ma20, mc20, nd20⟩
    refine ⟨trivial, ?_⟩
    refine RL.done ?_
    refine fall (vs := []) rfl ?_
    exact Post.mk hle20 (hg20.dropNext) (hax5.trans ((Aux.drew _).trans ((Aux.drew _).trans hax20))) ⟨rfl, _, nd20.to (vote_f (.inr (.inl (by simpa using h33)))).symm⟩
  ·
   have hRv := hR
   refine RL.qq ?_
   refine RL.qq ?_
   refine RL.qq ?_
   refine RL.pp ?_
   refine RL.qq ?_
   refine RL.qq ?_
   refine RL.qq ?_
   refine RL.qq ?_
   refine RL.qq ?_
   refine RL.pu ?_
   refine RL.pd ?_
   refine CW.seq ?_
   refine CW.seq (CW.plain ?_)
   refine RL.pd ?_
   refine CW.no (by first | rfl | exact congrArg (fun b => some (Value.bool b)) (by assumption)) ?_
   refine CW.skip (CW.plain ?_)
   refine RL.pu ?_
   refine RL.fi fl56_1 ?_
   refine RL.lo 1 ty3 hb5 hg14 ?_
   refine RL.pp ?_
   refine RL.build rfl rfl rfl rfl ze56 pl56 rfl rfl ?_
   refine RL.call rfl rfl rfl rfl rfl ca113 (post_ct (m := { Msg.zero with kind := 4, to := m.frm, reject := _ }) (y := Lay.none) (hg14.front 1 rfl) nd hRv { MsgOk.zero _ with kind := by simp [rng], to := hm.frm } (by show n.o.msgs.length ≤ _; omega)) ?_
   rintro v21 s21 A21 w21 hle21 (hg21 : Good _ s21 (A21 :: Q5 :: os)) hax21 ⟨rfl, ma21, mc21, nd21⟩
   refine ⟨trivial, ?_⟩
   refine RL.done ?_
   refine fall (vs := []) rfl ?_
   exact Post.mk hle21 (hg21.dropNext) (hax5.trans ((Aux.drew _).trans ((Aux.drew _).trans hax21))) ⟨rfl, _, nd21.to (vote_f (.inl (fun z => z.elim (fun z => by simp [z] at h13) (fun z => by simp [z] at h25)))).symm⟩
set_option maxRecDepth 100000 in
theorem voted_ct {m : Msg} {y : Lay} (hg : Good w s (A :: os)) (nd : Nd s A p h n) (hR : NRng n) (hr : n.roomy) (hbl : n.s.ballots.length ≤ 68719476736) (hm : MsgOk s m y) :
  Calls Tryz.prog 107 #[ptr p, .agg (msgV m y).toArray] w (NPost w s os p (.tuple #[]) (n.voted m)) := by
 refine enter (l := [ptr p, .agg (msgV m y).toArray]) Tryz.func107 rfl Tryz.ntmps107 rfl ?_
 refine CW.seq (CW.plain ?_)
 refine RL.boxN rfl rfl rfl rfl rfl hg ?_
 rintro b22 w22 Q22 (hg22 : Good _ s (Q22 :: A :: os)) hax22 hb22
 refine ⟨trivial, ?_⟩
 refine RL.done ?_
 refine CW.seq (CW.plain ?_)
 refine RL.pp ?_
 refine RL.fi fl109_0 ?_
 refine RL.fi fl44_3 ?_
 refine RL.lo 10 ty38 nd.cells hg22 ?_
 refine RL.pd ?_
 refine CW.cond rfl (fun h9 => ?_) (fun h9 => ?_)
 ·
  refine CW.plain ?_
  refine RL.pu ?_
  refine RL.ls 0 ty56 hb22 hg22 ?_
  refine RL.pu ?_
  refine RL.makeB rfl rfl rfl rfl rfl rfl ?_
  refine RL.call rfl rfl rfl rfl rfl ca105 (stands_ct (won := Node.lead) (hg22.front 1 rfl) nd hR hr hbl hm rfl (fun w' s' A' h' hg' nd' => lead_ct hg' nd' (hR.of rfl hR.2.1 hR.2.2.1 hR.2.2.2.1 rfl) hr)) ?_
  rintro v23 s23 A23 w23 hle23 (hg23 : Good _ s23 (A23 :: Q22 :: os)) hax23 ⟨rfl, h23, nd23⟩
  refine ⟨trivial, ?_⟩
  refine RL.done ?_
  refine fall (vs := []) rfl ?_
  exact Post.mk hle23 (hg23.dropNext) (hax22.trans hax23) ⟨rfl, _, nd23.to (by simp only [Node.voted, if_pos (show n.s.role = 3 by simpa using h9)])⟩
 ·
  refine CW.skip ?_
  refine fall (vs := []) rfl ?_
  exact Post.mk (Le.refl _) ((hg22.front 1 rfl).dropNext) hax22 ⟨rfl, _, nd.to (by simp only [Node.voted, if_neg (show ¬ n.s.role = 3 by simpa using h9)])⟩
theorem now_t (h1 : n.s.role = 1) (h2 : n.votes = true) : n.now = n.stand := by unfold Node.now; rw [if_pos ⟨h1, h2⟩]
theorem now_f (h1 : n.s.role ≠ 1 ∨ n.votes = false) : n.now = n := by
 unfold Node.now; rw [if_neg (fun z => h1.elim (fun k => k z.1) (fun k => by rw [k] at z; cases z.2))]
set_option maxRecDepth 100000 in
theorem now_ct {m : Msg} {y : Lay} (hg : Good w s (A :: os)) (nd : Nd s A p h n) (hR : NRng n) (hr : n.roomy) :
  Calls Tryz.prog 112 #[ptr p, .agg (msgV m y).toArray] w (NPost w s os p (.tuple #[]) n.now) := by
 refine enter (l := [ptr p, .agg (msgV m y).toArray]) Tryz.func112 rfl Tryz.ntmps112 rfl ?_
 refine CW.seq (CW.plain ?_)
 refine RL.boxN rfl rfl rfl rfl rfl hg ?_
 rintro b24 w24 Q24 (hg24 : Good _ s (Q24 :: A :: os)) hax24 hb24
 refine ⟨trivial, ?_⟩
 refine RL.done ?_
 refine CW.seq (CW.plain ?_)
 refine RL.pp ?_
 refine RL.fi fl109_0 ?_
 refine RL.fi fl44_3 ?_
 refine RL.lo 10 ty38 nd.cells hg24 ?_
 refine RL.pp ?_
 refine RL.part 10 rfl (fun h10 => ?_) (fun h10 => ?_)
 ·
  refine RL.pu ?_
  refine RL.call rfl rfl rfl rfl rfl ca67 (votes_ct (hg24.front 1 rfl) nd hR hr.1) ?_
  rintro v25 s25 B25 w25 hle25 (hg25 : Good _ s25 (B25 :: A :: Q24 :: os)) hax25 rfl
  have hg25 := hg25.drop
  have nd26 := nd.up hle25
  refine ⟨trivial, ?_⟩
  refine RL.pd ?_
  refine CW.cond rfl (fun h13 => ?_) (fun h13 => ?_)
  ·
   refine CW.plain ?_
   refine RL.pu ?_
   refine RL.call rfl rfl rfl rfl rfl ca101 (stand_ct hg25 nd26 hR hr) ?_
   rintro v27 s27 A27 w27 hle27 (hg27 : Good _ s27 (A27 :: Q24 :: os)) hax27 ⟨rfl, h27, nd27⟩
   refine ⟨trivial, ?_⟩
   refine RL.done ?_
   refine fall (vs := []) rfl ?_
   exact Post.mk (hle25.trans hle27) (hg27.dropNext) (hax24.trans (hax25.trans hax27)) ⟨rfl, _, nd27.to (now_t (by simpa using h10) h13).symm⟩
  ·
   refine CW.skip ?_
   refine fall (vs := []) rfl ?_
   exact Post.mk hle25 (hg25.dropNext) (hax24.trans hax25) ⟨rfl, _, nd26.to (now_f (.inr h13)).symm⟩
 ·
  refine RL.qq ?_
  refine RL.pd ?_
  refine CW.no (by first | rfl | exact congrArg (fun b => some (Value.bool b)) (by assumption)) ?_
  refine CW.skip ?_
  refine fall (vs := []) rfl ?_
  exact Post.mk (Le.refl _) ((hg24.front 1 rfl).dropNext) hax24 ⟨rfl, _, nd.to (now_f (.inl (by simpa using h10))).symm⟩
set_option maxRecDepth 100000 in
theorem late_ct {m : Msg} {y : Lay} (hg : Good w s (A :: os)) (nd : Nd s A p h n) (hR : NRng n) (hr : n.roomy) (hm : MsgOk s m y) :
  Calls Tryz.prog 74 #[ptr p, .agg (msgV m y).toArray] w (NPost w s os p (.tuple #[]) (n.late m)) := by
 obtain ⟨hS, h1, h2, h3, h4⟩ := hr
 have hl := (nd.at_ hR).last_rng.1
 refine enter (l := [ptr p, .agg (msgV m y).toArray]) Tryz.func74 rfl Tryz.ntmps74 rfl ?_
 refine CW.seq (CW.plain ?_)
 refine RL.boxN rfl rfl rfl rfl rfl hg ?_
 rintro b28 w28 Q28 (hg28 : Good _ s (Q28 :: A :: os)) hax28 hb28
 refine ⟨trivial, ?_⟩
 refine RL.done ?_
 refine CW.seq (CW.plain ?_)
 refine RL.fi fl56_0 ?_
 refine RL.lo 0 ty54 hb28 hg28 ?_
 refine RL.done ?_
 refine CW.block ?_
 refine CW.seq ?_
 refine CW.block ?_
 refine CW.block ?_
 refine CW.seq ?_
 refine CW.block ?_
 refine CW.seq ?_
 refine CW.seq ?_
 refine CW.seq (CW.plain ?_)
 refine RL.pu ?_
 refine RL.pd ?_
 refine CW.cond rfl (fun h6 => ?_) (fun h6 => ?_)
 ·
  refine CW.exit ?_
  refine CW.seq (CW.plain ?_)
  refine RL.pu ?_
  refine RL.fi fl56_1 ?_
  refine RL.lo 1 ty3 hb28 hg28 ?_
  refine RL.build rfl rfl rfl rfl ze56 pl56 rfl rfl ?_
  refine RL.call rfl rfl rfl rfl rfl ca113 (post_ct (m := { Msg.zero with kind := 4, to := m.frm, reject := true }) (y := Lay.none) (hg28.front 1 rfl) nd hR { MsgOk.zero _ with kind := by simp [rng], to := hm.frm } (by omega)) ?_
  rintro v29 s29 A29 w29 hle29 (hg29 : Good _ s29 (A29 :: Q28 :: os)) hax29 ⟨rfl, ma29, mc29, nd29⟩
  refine ⟨trivial, ?_⟩
  refine RL.done ?_
  refine CW.exit ?_
  refine fall (vs := []) rfl ?_
  refine Post.mk hle29 (hg29.dropNext) (hax28.trans hax29) ⟨rfl, _, nd29.to ?_⟩
  simp only [Node.late, if_pos (show m.kind = 3 by simpa using h6)]
 ·
  refine CW.skip ?_
  refine CW.seq ?_
  refine CW.seq (CW.plain ?_)
  refine RL.pu ?_
  refine RL.pd ?_
  refine CW.cond rfl (fun h8 => ?_) (fun h8 => ?_)
  ·
   refine CW.exit ?_
   refine CW.seq ?_
   have hg30 := hg28.drew
   refine CW.draws [(true, 0), (true, 1), (true, 2), (true, 3), (true, 4), (true, 5), (false, 6), (true, 7), (false, 8)] (fun w => At1 b28 _ w ∧ True) mixed (by kernel_rfl) (by kernel_rfl) (by kernel_rfl) (by kernel_rfl) (⟨hg30.at1 (by simp) hb28, trivial⟩) ?_
   refine RL.pu ?_
   refine RL.fi fl56_1 ?_
   refine RL.loadT (ad := ⟨b28, 0, none⟩) (j := 1) rfl rfl rfl rfl ty3 rfl (At1.holds) (fun w h => h.1.inn) rfl ?_
   refine RL.fi fl56_4 ?_
   refine RL.loadT (ad := ⟨b28, 0, none⟩) (j := 4) rfl rfl rfl rfl ty22 rfl (At1.holds) (fun w h => h.1.inn) rfl ?_
   refine RL.pu ?_
   refine RL.callV rfl rfl rfl rfl rfl ca77 (last_ct (hg30.front 1 rfl) nd hR) ?_
   rintro v31 w31 (hg31 : Good _ s (A :: Q28 :: os)) hax31 rfl
   refine ⟨⟨hg31.at1 (by simp) hb28, trivial⟩, ?_⟩
   refine RL.build rfl rfl rfl rfl ze56 pl56 rfl rfl ?_
   refine RL.call rfl rfl rfl rfl rfl ca113 (post_ct (m := { Msg.zero with kind := 6, to := m.frm, reject := true, index := m.index, hint := n.last }) (y := Lay.none) hg31 nd hR { MsgOk.zero _ with kind := by simp [rng], to := hm.frm, index := hm.index, hint := hl } (by omega)) ?_
   rintro v32 s32 A32 w32 hle32 (hg32 : Good _ s32 (A32 :: Q28 :: os)) hax32 ⟨rfl, ma32, mc32, nd32⟩
   refine ⟨⟨hg32.at1 (by simp) hb28, trivial⟩, ?_⟩
   refine RL.done ?_
   refine CW.exit ?_
   refine fall (vs := []) rfl ?_
   refine Post.mk hle32 (hg32.dropNext) (hax28.trans ((Aux.drew _).trans (hax31.trans hax32))) ⟨rfl, _, nd32.to ?_⟩
   simp only [Node.late, if_neg (show ¬ m.kind = 3 by simpa using h6), if_pos (show m.kind = 5 ∨ m.kind = 7 from .inl (by simpa using h8))]
  ·
   refine CW.skip ?_
   refine CW.seq (CW.plain ?_)
   refine RL.pu ?_
   refine RL.pd ?_
   refine CW.cond rfl (fun h10 => ?_) (fun h10 => ?_)
   ·
    refine CW.exit ?_
    refine CW.seq ?_
    have hg33 := hg28.drew
    refine CW.draws [(true, 0), (true, 1), (true, 2), (true, 3), (true, 4), (true, 5), (false, 6), (true, 7), (false, 8)] (fun w => At1 b28 _ w ∧ True) mixed (by kernel_rfl) (by kernel_rfl) (by kernel_rfl) (by kernel_rfl) (⟨hg33.at1 (by simp) hb28, trivial⟩) ?_
    refine RL.pu ?_
    refine RL.fi fl56_1 ?_
    refine RL.loadT (ad := ⟨b28, 0, none⟩) (j := 1) rfl rfl rfl rfl ty3 rfl (At1.holds) (fun w h => h.1.inn) rfl ?_
    refine RL.fi fl56_4 ?_
    refine RL.loadT (ad := ⟨b28, 0, none⟩) (j := 4) rfl rfl rfl rfl ty22 rfl (At1.holds) (fun w h => h.1.inn) rfl ?_
    refine RL.pu ?_
    refine RL.callV rfl rfl rfl rfl rfl ca77 (last_ct (hg33.front 1 rfl) nd hR) ?_
    rintro v34 w34 (hg34 : Good _ s (A :: Q28 :: os)) hax34 rfl
    refine ⟨⟨hg34.at1 (by simp) hb28, trivial⟩, ?_⟩
    refine RL.build rfl rfl rfl rfl ze56 pl56 rfl rfl ?_
    refine RL.call rfl rfl rfl rfl rfl ca113 (post_ct (m := { Msg.zero with kind := 6, to := m.frm, reject := true, index := m.index, hint := n.last }) (y := Lay.none) hg34 nd hR { MsgOk.zero _ with kind := by simp [rng], to := hm.frm, index := hm.index, hint := hl } (by omega)) ?_
    rintro v35 s35 A35 w35 hle35 (hg35 : Good _ s35 (A35 :: Q28 :: os)) hax35 ⟨rfl, ma35, mc35, nd35⟩
    refine ⟨⟨hg35.at1 (by simp) hb28, trivial⟩, ?_⟩
    refine RL.done ?_
    refine CW.exit ?_
    refine fall (vs := []) rfl ?_
    refine Post.mk hle35 (hg35.dropNext) (hax28.trans ((Aux.drew _).trans (hax34.trans hax35))) ⟨rfl, _, nd35.to ?_⟩
    simp only [Node.late, if_neg (show ¬ m.kind = 3 by simpa using h6), if_pos (show m.kind = 5 ∨ m.kind = 7 from .inr (by simpa using h10))]
   ·
    refine CW.skip ?_
    refine CW.exit ?_
    refine fall (vs := []) rfl ?_
    refine Post.mk (Le.refl _) ((hg28.front 1 rfl).dropNext) hax28 ⟨rfl, _, nd.to ?_⟩
    simp only [Node.late, if_neg (show ¬ m.kind = 3 by simpa using h6), if_neg (show ¬ (m.kind = 5 ∨ m.kind = 7) from fun z => z.elim (fun z => by simp [z] at h8) (fun z => by simp [z] at h10))]
theorem preVote_t {m : Msg} (h1 : n.s.role ≠ 4) (h2 : n.s.leader = 0 ∨ 4 ≤ n.s.elapsed) (h3 : n.s.hard.term < m.term) (h4 : newerP n.s.log m.index m.logTerm = true) : n.preVote m = n.send { Msg.zero with kind := 2, frm := n.s.id, to := m.frm, term := m.term, reject := !true } := by
 have hy : (decide (n.s.role ≠ 4 ∧ (n.s.leader = 0 ∨ 4 ≤ n.s.elapsed)) && decide (n.s.hard.term < m.term) && newerP n.s.log m.index m.logTerm) = true := by simp [h1, h2, h3, h4]
 simp only [Node.preVote, hy, if_true]
theorem preVote_f {m : Msg} (h0 : ¬ (n.s.role ≠ 4) ∨ ¬ (n.s.leader = 0 ∨ 4 ≤ n.s.elapsed) ∨ ¬ n.s.hard.term < m.term ∨ newerP n.s.log m.index m.logTerm = false) : n.preVote m = n.send { Msg.zero with kind := 2, frm := n.s.id, to := m.frm, term := n.s.hard.term, reject := !false } := by
 have hy : (decide (n.s.role ≠ 4 ∧ (n.s.leader = 0 ∨ 4 ≤ n.s.elapsed)) && decide (n.s.hard.term < m.term) && newerP n.s.log m.index m.logTerm) = false := by
  rcases h0 with h | h | h | h
  ·
   simp at h; simp [h]
  ·
   have : ¬ (n.s.role ≠ 4 ∧ (n.s.leader = 0 ∨ 4 ≤ n.s.elapsed)) := fun z => h z.2
   rw [decide_eq_false this]; rfl
  ·
   rw [decide_eq_false h]; simp
  ·
   rw [h]; simp
 simp only [Node.preVote, hy, Bool.false_eq_true, if_false]
set_option maxRecDepth 100000 in
set_option maxHeartbeats 1000000 in
theorem preVote_ct {m : Msg} {y : Lay} (hg : Good w s (A :: os)) (nd : Nd s A p h n) (hR : NRng n) (hr : n.roomy) (hm : MsgOk s m y) :
  Calls Tryz.prog 70 #[ptr p, .agg (msgV m y).toArray] w (NPost w s os p (.tuple #[]) (n.preVote m)) := by
 obtain ⟨hS, h1, h2, h3, h4⟩ := hr
 have hmt : ∀ b, MsgOk s { Msg.zero with kind := 2, frm := n.s.id, to := m.frm, term := m.term, reject := b } Lay.none := fun b => { MsgOk.zero _ with kind := by simp [rng], frm := hR.1, to := hm.frm, term := hm.term }
 have hmf : ∀ b, MsgOk s { Msg.zero with kind := 2, frm := n.s.id, to := m.frm, term := n.s.hard.term, reject := b } Lay.none := fun b => { MsgOk.zero _ with kind := by simp [rng], frm := hR.1, to := hm.frm, term := hR.2.1 }
 refine enter (l := [ptr p, .agg (msgV m y).toArray]) Tryz.func70 rfl Tryz.ntmps70 rfl ?_
 refine CW.seq (CW.plain ?_)
 refine RL.boxN rfl rfl rfl rfl rfl hg ?_
 rintro b36 w36 Q36 (hg36 : Good _ s (Q36 :: A :: os)) hax36 hb36
 refine ⟨trivial, ?_⟩
 refine RL.done ?_
 refine CW.seq (CW.plain ?_)
 refine RL.pp ?_
 refine RL.fi fl109_0 ?_
 refine RL.fi fl44_3 ?_
 refine RL.lo 10 ty38 nd.cells hg36 ?_
 refine RL.pp ?_
 refine RL.part 13 rfl (fun h13 => ?_) (fun h13 => ?_)
 ·
  refine RL.pp ?_
  refine RL.fi fl109_0 ?_
  refine RL.fi fl44_4 ?_
  refine RL.lo 11 ty3 nd.cells hg36 ?_
  refine RL.pp ?_
  refine RL.part 20 rfl (fun h20 => ?_) (fun h20 => ?_)
  ·
   refine RL.qq ?_
   refine RL.qq ?_
   refine RL.qq ?_
   refine RL.pp ?_
   refine RL.pd ?_
   refine CW.seq ?_
   have hg37 := hg36.drew
   refine CW.draws [(true, 0), (true, 1), (true, 2), (true, 3), (true, 4), (true, 5), (true, 6), (true, 7), (true, 8), (true, 9), (true, 10), (true, 11), (true, 12), (true, 13), (true, 14), (true, 15), (true, 16), (true, 17), (true, 18), (true, 19), (true, 20), (true, 21), (false, 22), (true, 23), (false, 24)] (fun w => At1 b36 _ w ∧ At1 p _ w ∧ True) mixed (by kernel_rfl) (by kernel_rfl) (by kernel_rfl) (by kernel_rfl) (⟨hg37.at1 (by simp) hb36, hg37.at1 (by simp) nd.cells, trivial⟩) ?_
   refine RL.pp ?_
   refine RL.fi fl56_3 ?_
   refine RL.loadT (ad := ⟨b36, 0, none⟩) (j := 3) rfl rfl rfl rfl ty22 rfl (At1.holds) (fun w h => h.1.inn) rfl ?_
   refine RL.pp ?_
   refine RL.fi fl109_0 ?_
   refine RL.fi fl44_1 ?_
   refine RL.fi fl24_0 ?_
   refine RL.loadT (ad := ⟨p, 0, none⟩) (j := 1) rfl rfl rfl rfl ty22 rfl (At1.holds) (fun w h => h.2.1.inn) rfl ?_
   refine RL.pp ?_
   refine RL.pu ?_
   refine RL.part 41 rfl (fun h41 => ?_) (fun h41 => ?_)
   ·
    refine RL.pp ?_
    refine RL.fi fl109_0 ?_
    refine RL.fi fl44_2 ?_
    refine RL.loadsT (ad := ⟨p, 0, none⟩) (j := 4) rfl rfl rfl rfl ty33 rfl (At1.holds) (fun w h => h.2.1.inn) rfl rfl ?_
    refine RL.fi fl56_4 ?_
    refine RL.loadT (ad := ⟨b36, 0, none⟩) (j := 4) rfl rfl rfl rfl ty22 rfl (At1.holds) (fun w h => h.1.inn) rfl ?_
    refine RL.fi fl56_5 ?_
    refine RL.loadT (ad := ⟨b36, 0, none⟩) (j := 5) rfl rfl rfl rfl ty22 rfl (At1.holds) (fun w h => h.1.inn) rfl ?_
    refine RL.callV rfl rfl rfl rfl rfl ca104 (Newer_ct hg37 (.inr (by simp)) (nd.at_ hR)) ?_
    rintro v38 w38 (hg38 : Good _ s (Q36 :: A :: os)) hax38 rfl
    refine ⟨⟨hg38.at1 (by simp) hb36, hg38.at1 (by simp) nd.cells, trivial⟩, ?_⟩
    refine RL.pu ?_
    refine RL.pd ?_
    refine CW.seq ?_
    have hg39 := hg38.drew
    refine CW.draws [(true, 0), (true, 1), (true, 2), (true, 3), (true, 4), (true, 5), (true, 6), (true, 7), (true, 8), (true, 9), (true, 10), (true, 11), (true, 12), (true, 13), (true, 14), (true, 15), (false, 16), (false, 17)] (fun w => At1 p _ w ∧ At1 b36 _ w ∧ True) mixed (by kernel_rfl) (by kernel_rfl) (by kernel_rfl) (by kernel_rfl) (⟨hg39.at1 (by simp) nd.cells, hg39.at1 (by simp) hb36, trivial⟩) ?_
    refine RL.pp ?_
    refine RL.fi fl109_0 ?_
    refine RL.fi fl44_0 ?_
    refine RL.loadT (ad := ⟨p, 0, none⟩) (j := 0) rfl rfl rfl rfl ty3 rfl (At1.holds) (fun w h => h.1.inn) rfl ?_
    refine RL.fi fl56_1 ?_
    refine RL.loadT (ad := ⟨b36, 0, none⟩) (j := 1) rfl rfl rfl rfl ty3 rfl (At1.holds) (fun w h => h.2.1.inn) rfl ?_
    refine RL.pp ?_
    refine RL.fi fl109_0 ?_
    refine RL.fi fl44_1 ?_
    refine RL.fi fl24_0 ?_
    refine RL.loadT (ad := ⟨p, 0, none⟩) (j := 1) rfl rfl rfl rfl ty22 rfl (At1.holds) (fun w h => h.1.inn) rfl ?_
    refine RL.pp ?_
    refine RL.build rfl rfl rfl rfl ze56 pl56 rfl rfl ?_
    refine RL.allocN rfl rfl rfl rfl ze56 hg39 ?_
    rintro b40 w40 Q40 (hg40 : Good _ s (Q40 :: Q36 :: A :: os)) hax40 hb40
    refine ⟨⟨hg40.at1 (by simp) nd.cells, hg40.at1 (by simp) hb36, trivial⟩, ?_⟩
    refine RL.sB (b := b40) (i := 0) (j := 0) rfl rfl rfl ty56 rfl rfl hg40 rfl (hb40) rfl rfl ?_
    rintro w41 Q41 (hg41 : Good _ s (Q41 :: Q36 :: A :: os)) hax41 hb41
    refine ⟨⟨hg41.at1 (by simp) nd.cells, hg41.at1 (by simp) hb36, trivial⟩, ?_⟩
    refine RL.done ?_
    refine CW.seq ?_
    refine CW.seq (CW.plain ?_)
    refine RL.pd ?_
    refine CW.cond rfl (fun h69 => ?_) (fun h69 => ?_)
    ·
     have hmo := hmt
     refine CW.plain ?_
     refine RL.fi fl56_3 ?_
     refine RL.lo 3 ty22 hb36 hg41 ?_
     refine RL.fi fl56_3 ?_
     refine RL.sB (b := b40) (i := 0) (j := 3) rfl rfl rfl ty22 rfl rfl hg41 rfl (hb41) rfl rfl ?_
     rintro w42 Q42 (hg42 : Good _ s (Q42 :: Q36 :: A :: os)) hax42 hb42
     refine ⟨trivial, ?_⟩
     refine RL.done ?_
     have hg43 := hg42.drew
     refine CW.draws2 [(true, 0), (true, 1), (true, 2), (true, 3), (true, 4), (true, 5), (true, 6), (false, 7), (false, 8), (true, 9), (true, 10), (true, 11)] [(false, 12)] 12 #[true, true, true, true, true, true, true, true, true, true, true, true, false] (fun w => At1 p _ w ∧ At1 b40 _ w ∧ True) mixed (by kernel_rfl) (by kernel_rfl) (by kernel_rfl) (by kernel_rfl) (by kernel_rfl) (⟨hg43.at1 (by simp) nd.cells, hg43.at1 (by simp) hb42, trivial⟩) ?_
     refine RL.pp ?_
     refine RL.pu ?_
     refine RL.fi fl109_1 ?_
     refine RL.fi fl50_4 ?_
     refine RL.loadT (ad := ⟨p, 0, none⟩) (j := 24) rfl rfl rfl rfl ty48 rfl (At1.holds) (fun w h => h.1.inn) rfl ?_
     refine RL.loadsT (ad := ⟨b40, 0, none⟩) (j := 0) rfl rfl rfl rfl ty56 rfl (At1.holds) (fun w h => h.2.1.inn) rfl rfl ?_
     refine RL.buildN rfl rfl rfl rfl sl48 ze56 rfl rfl rfl rfl hg43 ?_
     rintro b44 w44 Q44 (hg44 : Good _ s (Q44 :: Q42 :: Q36 :: A :: os)) hax44 hb44
     refine ⟨⟨hg44.at1 (by simp) nd.cells, hg44.at1 (by simp) hb42, trivial⟩, ?_⟩
     refine RL.append2 (i := 3) (ys := [_]) rfl rfl rfl rfl sl48 ze56 rfl RMsg.one rfl rfl hg44 rfl nd.msgs (one_src sl48 rfl hb44 (hg44.mem (by simp))) (Chunks.single rfl ⟨Lay.none, rfl, hmo _⟩) ((by simp only [List.length_singleton]; omega)) (by omega) ?_
     rintro a45 c45 A45 w45 (hg45 : Good _ s (Q44 :: Q42 :: Q36 :: A45 :: os)) ho45 hax45 hk45 hn45
     obtain ⟨hp45, hr45⟩ := nd.appMsgs ho45 hk45
     refine ⟨⟨hg45.at1 (by simp) hp45, hg45.at1 (by simp) hb42, trivial⟩, ?_⟩
     refine RL.pu ?_
     refine RL.fi fl109_1 ?_
     refine RL.fi fl50_4 ?_
     refine RL.done ?_
     refine RL.next trivial ?_
     refine RL.storeN (p := p) (i := 3) (j := 24) rfl rfl rfl ty48 rfl rfl hg45 rfl (hp45) (hr45) rfl (by first | (simp [Value.cells, Value.oneCell']; done) | simp [Value.cells, Value.oneCell', putL]) (by first | exact Nat.le_of_ble_eq_true rfl | (simp; done) | (simp; omega) | omega) rfl ?_
     rintro w46 A46 (hg46 : Good _ s (Q44 :: Q42 :: Q36 :: A46 :: os)) hax46 nd46
     refine ⟨trivial, ?_⟩
     refine RL.done ?_
     refine fall (vs := []) rfl ?_
     exact Post.mk (Le.refl _) ((((hg46.front 3 rfl).dropNext).dropNext).dropNext) (hax36.trans ((Aux.drew _).trans (hax38.trans ((Aux.drew _).trans (hax40.trans (hax41.trans (hax42.trans ((Aux.drew _).trans (hax44.trans (hax45.trans hax46)))))))))) ⟨rfl, _, nd46.to (by simp only [h69]; exact (preVote_t (by simpa using h13) (.inl (by simpa using h20)) (decide_t h41) h69).symm)⟩
    ·
     have hmo := hmf
     refine CW.skip ?_
     have hg47 := hg41.drew
     refine CW.draws2 [(true, 0), (true, 1), (true, 2), (true, 3), (true, 4), (true, 5), (true, 6), (false, 7), (false, 8), (true, 9), (true, 10), (true, 11)] [(false, 12)] 12 #[true, true, true, true, true, true, true, true, true, true, true, true, false] (fun w => At1 p _ w ∧ At1 b40 _ w ∧ True) mixed (by kernel_rfl) (by kernel_rfl) (by kernel_rfl) (by kernel_rfl) (by kernel_rfl) (⟨hg47.at1 (by simp) nd.cells, hg47.at1 (by simp) hb41, trivial⟩) ?_
     refine RL.pp ?_
     refine RL.pu ?_
     refine RL.fi fl109_1 ?_
     refine RL.fi fl50_4 ?_
     refine RL.loadT (ad := ⟨p, 0, none⟩) (j := 24) rfl rfl rfl rfl ty48 rfl (At1.holds) (fun w h => h.1.inn) rfl ?_
     refine RL.loadsT (ad := ⟨b40, 0, none⟩) (j := 0) rfl rfl rfl rfl ty56 rfl (At1.holds) (fun w h => h.2.1.inn) rfl rfl ?_
     refine RL.buildN rfl rfl rfl rfl sl48 ze56 rfl rfl rfl rfl hg47 ?_
     rintro b48 w48 Q48 (hg48 : Good _ s (Q48 :: Q41 :: Q36 :: A :: os)) hax48 hb48
     refine ⟨⟨hg48.at1 (by simp) nd.cells, hg48.at1 (by simp) hb41, trivial⟩, ?_⟩
     refine RL.append2 (i := 3) (ys := [_]) rfl rfl rfl rfl sl48 ze56 rfl RMsg.one rfl rfl hg48 rfl nd.msgs (one_src sl48 rfl hb48 (hg48.mem (by simp))) (Chunks.single rfl ⟨Lay.none, rfl, hmo _⟩) ((by simp only [List.length_singleton]; omega)) (by omega) ?_
     rintro a49 c49 A49 w49 (hg49 : Good _ s (Q48 :: Q41 :: Q36 :: A49 :: os)) ho49 hax49 hk49 hn49
     obtain ⟨hp49, hr49⟩ := nd.appMsgs ho49 hk49
     refine ⟨⟨hg49.at1 (by simp) hp49, hg49.at1 (by simp) hb41, trivial⟩, ?_⟩
     refine RL.pu ?_
     refine RL.fi fl109_1 ?_
     refine RL.fi fl50_4 ?_
     refine RL.done ?_
     refine RL.next trivial ?_
     refine RL.storeN (p := p) (i := 3) (j := 24) rfl rfl rfl ty48 rfl rfl hg49 rfl (hp49) (hr49) rfl (by first | (simp [Value.cells, Value.oneCell']; done) | simp [Value.cells, Value.oneCell', putL]) (by first | exact Nat.le_of_ble_eq_true rfl | (simp; done) | (simp; omega) | omega) rfl ?_
     rintro w50 A50 (hg50 : Good _ s (Q48 :: Q41 :: Q36 :: A50 :: os)) hax50 nd50
     refine ⟨trivial, ?_⟩
     refine RL.done ?_
     refine fall (vs := []) rfl ?_
     exact Post.mk (Le.refl _) ((((hg50.front 3 rfl).dropNext).dropNext).dropNext) (hax36.trans ((Aux.drew _).trans (hax38.trans ((Aux.drew _).trans (hax40.trans (hax41.trans ((Aux.drew _).trans (hax48.trans (hax49.trans hax50))))))))) ⟨rfl, _, nd50.to (by simp only [h69]; exact (preVote_f (.inr (.inr (.inr h69)))).symm)⟩
   ·
    have hmo := hmf
    refine RL.qq ?_
    refine RL.qq ?_
    refine RL.qq ?_
    refine RL.qq ?_
    refine RL.qq ?_
    refine RL.pu ?_
    refine RL.pd ?_
    refine CW.seq ?_
    have hg51 := hg37.drew
    refine CW.draws [(true, 0), (true, 1), (true, 2), (true, 3), (true, 4), (true, 5), (true, 6), (true, 7), (true, 8), (true, 9), (true, 10), (true, 11), (true, 12), (true, 13), (true, 14), (true, 15), (false, 16), (false, 17)] (fun w => At1 p _ w ∧ At1 b36 _ w ∧ True) mixed (by kernel_rfl) (by kernel_rfl) (by kernel_rfl) (by kernel_rfl) (⟨hg51.at1 (by simp) nd.cells, hg51.at1 (by simp) hb36, trivial⟩) ?_
    refine RL.pp ?_
    refine RL.fi fl109_0 ?_
    refine RL.fi fl44_0 ?_
    refine RL.loadT (ad := ⟨p, 0, none⟩) (j := 0) rfl rfl rfl rfl ty3 rfl (At1.holds) (fun w h => h.1.inn) rfl ?_
    refine RL.fi fl56_1 ?_
    refine RL.loadT (ad := ⟨b36, 0, none⟩) (j := 1) rfl rfl rfl rfl ty3 rfl (At1.holds) (fun w h => h.2.1.inn) rfl ?_
    refine RL.pp ?_
    refine RL.fi fl109_0 ?_
    refine RL.fi fl44_1 ?_
    refine RL.fi fl24_0 ?_
    refine RL.loadT (ad := ⟨p, 0, none⟩) (j := 1) rfl rfl rfl rfl ty22 rfl (At1.holds) (fun w h => h.1.inn) rfl ?_
    refine RL.pp ?_
    refine RL.build rfl rfl rfl rfl ze56 pl56 rfl rfl ?_
    refine RL.allocN rfl rfl rfl rfl ze56 hg51 ?_
    rintro b52 w52 Q52 (hg52 : Good _ s (Q52 :: Q36 :: A :: os)) hax52 hb52
    refine ⟨⟨hg52.at1 (by simp) nd.cells, hg52.at1 (by simp) hb36, trivial⟩, ?_⟩
    refine RL.sB (b := b52) (i := 0) (j := 0) rfl rfl rfl ty56 rfl rfl hg52 rfl (hb52) rfl rfl ?_
    rintro w53 Q53 (hg53 : Good _ s (Q53 :: Q36 :: A :: os)) hax53 hb53
    refine ⟨⟨hg53.at1 (by simp) nd.cells, hg53.at1 (by simp) hb36, trivial⟩, ?_⟩
    refine RL.done ?_
    refine CW.seq ?_
    refine CW.seq (CW.plain ?_)
    refine RL.pd ?_
    refine CW.no (by first | rfl | exact congrArg (fun b => some (Value.bool b)) (by assumption)) ?_
    refine CW.skip ?_
    have hg54 := hg53.drew
    refine CW.draws2 [(true, 0), (true, 1), (true, 2), (true, 3), (true, 4), (true, 5), (true, 6), (false, 7), (false, 8), (true, 9), (true, 10), (true, 11)] [(false, 12)] 12 #[true, true, true, true, true, true, true, true, true, true, true, true, false] (fun w => At1 p _ w ∧ At1 b52 _ w ∧ True) mixed (by kernel_rfl) (by kernel_rfl) (by kernel_rfl) (by kernel_rfl) (by kernel_rfl) (⟨hg54.at1 (by simp) nd.cells, hg54.at1 (by simp) hb53, trivial⟩) ?_
    refine RL.pp ?_
    refine RL.pu ?_
    refine RL.fi fl109_1 ?_
    refine RL.fi fl50_4 ?_
    refine RL.loadT (ad := ⟨p, 0, none⟩) (j := 24) rfl rfl rfl rfl ty48 rfl (At1.holds) (fun w h => h.1.inn) rfl ?_
    refine RL.loadsT (ad := ⟨b52, 0, none⟩) (j := 0) rfl rfl rfl rfl ty56 rfl (At1.holds) (fun w h => h.2.1.inn) rfl rfl ?_
    refine RL.buildN rfl rfl rfl rfl sl48 ze56 rfl rfl rfl rfl hg54 ?_
    rintro b55 w55 Q55 (hg55 : Good _ s (Q55 :: Q53 :: Q36 :: A :: os)) hax55 hb55
    refine ⟨⟨hg55.at1 (by simp) nd.cells, hg55.at1 (by simp) hb53, trivial⟩, ?_⟩
    refine RL.append2 (i := 3) (ys := [_]) rfl rfl rfl rfl sl48 ze56 rfl RMsg.one rfl rfl hg55 rfl nd.msgs (one_src sl48 rfl hb55 (hg55.mem (by simp))) (Chunks.single rfl ⟨Lay.none, rfl, hmo _⟩) ((by simp only [List.length_singleton]; omega)) (by omega) ?_
    rintro a56 c56 A56 w56 (hg56 : Good _ s (Q55 :: Q53 :: Q36 :: A56 :: os)) ho56 hax56 hk56 hn56
    obtain ⟨hp56, hr56⟩ := nd.appMsgs ho56 hk56
    refine ⟨⟨hg56.at1 (by simp) hp56, hg56.at1 (by simp) hb53, trivial⟩, ?_⟩
    refine RL.pu ?_
    refine RL.fi fl109_1 ?_
    refine RL.fi fl50_4 ?_
    refine RL.done ?_
    refine RL.next trivial ?_
    refine RL.storeN (p := p) (i := 3) (j := 24) rfl rfl rfl ty48 rfl rfl hg56 rfl (hp56) (hr56) rfl (by first | (simp [Value.cells, Value.oneCell']; done) | simp [Value.cells, Value.oneCell', putL]) (by first | exact Nat.le_of_ble_eq_true rfl | (simp; done) | (simp; omega) | omega) rfl ?_
    rintro w57 A57 (hg57 : Good _ s (Q55 :: Q53 :: Q36 :: A57 :: os)) hax57 nd57
    refine ⟨trivial, ?_⟩
    refine RL.done ?_
    refine fall (vs := []) rfl ?_
    exact Post.mk (Le.refl _) ((((hg57.front 3 rfl).dropNext).dropNext).dropNext) (hax36.trans ((Aux.drew _).trans ((Aux.drew _).trans (hax52.trans (hax53.trans ((Aux.drew _).trans (hax55.trans (hax56.trans hax57)))))))) ⟨rfl, _, nd57.to ((preVote_f (.inr (.inr (.inl (decide_f h41))))).symm)⟩
  ·
   refine RL.pp ?_
   refine RL.fi fl109_0 ?_
   refine RL.fi fl44_7 ?_
   refine RL.lo 14 ty3 nd.cells hg36 ?_
   refine RL.pp ?_
   refine RL.pu ?_
   refine RL.pd ?_
   refine CW.seq ?_
   have hg58 := hg36.drew
   refine CW.draws [(true, 0), (true, 1), (true, 2), (true, 3), (true, 4), (true, 5), (true, 6), (true, 7), (true, 8), (true, 9), (true, 10), (true, 11), (true, 12), (true, 13), (true, 14), (true, 15), (true, 16), (true, 17), (true, 18), (true, 19), (true, 20), (true, 21), (false, 22), (true, 23), (false, 24)] (fun w => At1 b36 _ w ∧ At1 p _ w ∧ True) mixed (by kernel_rfl) (by kernel_rfl) (by kernel_rfl) (by kernel_rfl) (⟨hg58.at1 (by simp) hb36, hg58.at1 (by simp) nd.cells, trivial⟩) ?_
   refine RL.pp ?_
   refine RL.part 30 rfl (fun h30 => ?_) (fun h30 => ?_)
   ·
    refine RL.fi fl56_3 ?_
    refine RL.loadT (ad := ⟨b36, 0, none⟩) (j := 3) rfl rfl rfl rfl ty22 rfl (At1.holds) (fun w h => h.1.inn) rfl ?_
    refine RL.pp ?_
    refine RL.fi fl109_0 ?_
    refine RL.fi fl44_1 ?_
    refine RL.fi fl24_0 ?_
    refine RL.loadT (ad := ⟨p, 0, none⟩) (j := 1) rfl rfl rfl rfl ty22 rfl (At1.holds) (fun w h => h.2.1.inn) rfl ?_
    refine RL.pp ?_
    refine RL.pu ?_
    refine RL.part 41 rfl (fun h41 => ?_) (fun h41 => ?_)
    ·
     refine RL.pp ?_
     refine RL.fi fl109_0 ?_
     refine RL.fi fl44_2 ?_
     refine RL.loadsT (ad := ⟨p, 0, none⟩) (j := 4) rfl rfl rfl rfl ty33 rfl (At1.holds) (fun w h => h.2.1.inn) rfl rfl ?_
     refine RL.fi fl56_4 ?_
     refine RL.loadT (ad := ⟨b36, 0, none⟩) (j := 4) rfl rfl rfl rfl ty22 rfl (At1.holds) (fun w h => h.1.inn) rfl ?_
     refine RL.fi fl56_5 ?_
     refine RL.loadT (ad := ⟨b36, 0, none⟩) (j := 5) rfl rfl rfl rfl ty22 rfl (At1.holds) (fun w h => h.1.inn) rfl ?_
     refine RL.callV rfl rfl rfl rfl rfl ca104 (Newer_ct hg58 (.inr (by simp)) (nd.at_ hR)) ?_
     rintro v59 w59 (hg59 : Good _ s (Q36 :: A :: os)) hax59 rfl
     refine ⟨⟨hg59.at1 (by simp) hb36, hg59.at1 (by simp) nd.cells, trivial⟩, ?_⟩
     refine RL.pu ?_
     refine RL.pd ?_
     refine CW.seq ?_
     have hg60 := hg59.drew
     refine CW.draws [(true, 0), (true, 1), (true, 2), (true, 3), (true, 4), (true, 5), (true, 6), (true, 7), (true, 8), (true, 9), (true, 10), (true, 11), (true, 12), (true, 13), (true, 14), (true, 15), (false, 16), (false, 17)] (fun w => At1 p _ w ∧ At1 b36 _ w ∧ True) mixed (by kernel_rfl) (by kernel_rfl) (by kernel_rfl) (by kernel_rfl) (⟨hg60.at1 (by simp) nd.cells, hg60.at1 (by simp) hb36, trivial⟩) ?_
     refine RL.pp ?_
     refine RL.fi fl109_0 ?_
     refine RL.fi fl44_0 ?_
     refine RL.loadT (ad := ⟨p, 0, none⟩) (j := 0) rfl rfl rfl rfl ty3 rfl (At1.holds) (fun w h => h.1.inn) rfl ?_
     refine RL.fi fl56_1 ?_
     refine RL.loadT (ad := ⟨b36, 0, none⟩) (j := 1) rfl rfl rfl rfl ty3 rfl (At1.holds) (fun w h => h.2.1.inn) rfl ?_
     refine RL.pp ?_
     refine RL.fi fl109_0 ?_
     refine RL.fi fl44_1 ?_
     refine RL.fi fl24_0 ?_
     refine RL.loadT (ad := ⟨p, 0, none⟩) (j := 1) rfl rfl rfl rfl ty22 rfl (At1.holds) (fun w h => h.1.inn) rfl ?_
     refine RL.pp ?_
     refine RL.build rfl rfl rfl rfl ze56 pl56 rfl rfl ?_
     refine RL.allocN rfl rfl rfl rfl ze56 hg60 ?_
     rintro b61 w61 Q61 (hg61 : Good _ s (Q61 :: Q36 :: A :: os)) hax61 hb61
     refine ⟨⟨hg61.at1 (by simp) nd.cells, hg61.at1 (by simp) hb36, trivial⟩, ?_⟩
     refine RL.sB (b := b61) (i := 0) (j := 0) rfl rfl rfl ty56 rfl rfl hg61 rfl (hb61) rfl rfl ?_
     rintro w62 Q62 (hg62 : Good _ s (Q62 :: Q36 :: A :: os)) hax62 hb62
     refine ⟨⟨hg62.at1 (by simp) nd.cells, hg62.at1 (by simp) hb36, trivial⟩, ?_⟩
     refine RL.done ?_
     refine CW.seq ?_
     refine CW.seq (CW.plain ?_)
     refine RL.pd ?_
     refine CW.cond rfl (fun h69 => ?_) (fun h69 => ?_)
     ·
      have hmo := hmt
      refine CW.plain ?_
      refine RL.fi fl56_3 ?_
      refine RL.lo 3 ty22 hb36 hg62 ?_
      refine RL.fi fl56_3 ?_
      refine RL.sB (b := b61) (i := 0) (j := 3) rfl rfl rfl ty22 rfl rfl hg62 rfl (hb62) rfl rfl ?_
      rintro w63 Q63 (hg63 : Good _ s (Q63 :: Q36 :: A :: os)) hax63 hb63
      refine ⟨trivial, ?_⟩
      refine RL.done ?_
      have hg64 := hg63.drew
      refine CW.draws2 [(true, 0), (true, 1), (true, 2), (true, 3), (true, 4), (true, 5), (true, 6), (false, 7), (false, 8), (true, 9), (true, 10), (true, 11)] [(false, 12)] 12 #[true, true, true, true, true, true, true, true, true, true, true, true, false] (fun w => At1 p _ w ∧ At1 b61 _ w ∧ True) mixed (by kernel_rfl) (by kernel_rfl) (by kernel_rfl) (by kernel_rfl) (by kernel_rfl) (⟨hg64.at1 (by simp) nd.cells, hg64.at1 (by simp) hb63, trivial⟩) ?_
      refine RL.pp ?_
      refine RL.pu ?_
      refine RL.fi fl109_1 ?_
      refine RL.fi fl50_4 ?_
      refine RL.loadT (ad := ⟨p, 0, none⟩) (j := 24) rfl rfl rfl rfl ty48 rfl (At1.holds) (fun w h => h.1.inn) rfl ?_
      refine RL.loadsT (ad := ⟨b61, 0, none⟩) (j := 0) rfl rfl rfl rfl ty56 rfl (At1.holds) (fun w h => h.2.1.inn) rfl rfl ?_
      refine RL.buildN rfl rfl rfl rfl sl48 ze56 rfl rfl rfl rfl hg64 ?_
      rintro b65 w65 Q65 (hg65 : Good _ s (Q65 :: Q63 :: Q36 :: A :: os)) hax65 hb65
      refine ⟨⟨hg65.at1 (by simp) nd.cells, hg65.at1 (by simp) hb63, trivial⟩, ?_⟩
      refine RL.append2 (i := 3) (ys := [_]) rfl rfl rfl rfl sl48 ze56 rfl RMsg.one rfl rfl hg65 rfl nd.msgs (one_src sl48 rfl hb65 (hg65.mem (by simp))) (Chunks.single rfl ⟨Lay.none, rfl, hmo _⟩) ((by simp only [List.length_singleton]; omega)) (by omega) ?_
      rintro a66 c66 A66 w66 (hg66 : Good _ s (Q65 :: Q63 :: Q36 :: A66 :: os)) ho66 hax66 hk66 hn66
      obtain ⟨hp66, hr66⟩ := nd.appMsgs ho66 hk66
      refine ⟨⟨hg66.at1 (by simp) hp66, hg66.at1 (by simp) hb63, trivial⟩, ?_⟩
      refine RL.pu ?_
      refine RL.fi fl109_1 ?_
      refine RL.fi fl50_4 ?_
      refine RL.done ?_
      refine RL.next trivial ?_
      refine RL.storeN (p := p) (i := 3) (j := 24) rfl rfl rfl ty48 rfl rfl hg66 rfl (hp66) (hr66) rfl (by first | (simp [Value.cells, Value.oneCell']; done) | simp [Value.cells, Value.oneCell', putL]) (by first | exact Nat.le_of_ble_eq_true rfl | (simp; done) | (simp; omega) | omega) rfl ?_
      rintro w67 A67 (hg67 : Good _ s (Q65 :: Q63 :: Q36 :: A67 :: os)) hax67 nd67
      refine ⟨trivial, ?_⟩
      refine RL.done ?_
      refine fall (vs := []) rfl ?_
      exact Post.mk (Le.refl _) ((((hg67.front 3 rfl).dropNext).dropNext).dropNext) (hax36.trans ((Aux.drew _).trans (hax59.trans ((Aux.drew _).trans (hax61.trans (hax62.trans (hax63.trans ((Aux.drew _).trans (hax65.trans (hax66.trans hax67)))))))))) ⟨rfl, _, nd67.to (by simp only [h69]; exact (preVote_t (by simpa using h13) (.inr (decide_t h30)) (decide_t h41) h69).symm)⟩
     ·
      have hmo := hmf
      refine CW.skip ?_
      have hg68 := hg62.drew
      refine CW.draws2 [(true, 0), (true, 1), (true, 2), (true, 3), (true, 4), (true, 5), (true, 6), (false, 7), (false, 8), (true, 9), (true, 10), (true, 11)] [(false, 12)] 12 #[true, true, true, true, true, true, true, true, true, true, true, true, false] (fun w => At1 p _ w ∧ At1 b61 _ w ∧ True) mixed (by kernel_rfl) (by kernel_rfl) (by kernel_rfl) (by kernel_rfl) (by kernel_rfl) (⟨hg68.at1 (by simp) nd.cells, hg68.at1 (by simp) hb62, trivial⟩) ?_
      refine RL.pp ?_
      refine RL.pu ?_
      refine RL.fi fl109_1 ?_
      refine RL.fi fl50_4 ?_
      refine RL.loadT (ad := ⟨p, 0, none⟩) (j := 24) rfl rfl rfl rfl ty48 rfl (At1.holds) (fun w h => h.1.inn) rfl ?_
      refine RL.loadsT (ad := ⟨b61, 0, none⟩) (j := 0) rfl rfl rfl rfl ty56 rfl (At1.holds) (fun w h => h.2.1.inn) rfl rfl ?_
      refine RL.buildN rfl rfl rfl rfl sl48 ze56 rfl rfl rfl rfl hg68 ?_
      rintro b69 w69 Q69 (hg69 : Good _ s (Q69 :: Q62 :: Q36 :: A :: os)) hax69 hb69
      refine ⟨⟨hg69.at1 (by simp) nd.cells, hg69.at1 (by simp) hb62, trivial⟩, ?_⟩
      refine RL.append2 (i := 3) (ys := [_]) rfl rfl rfl rfl sl48 ze56 rfl RMsg.one rfl rfl hg69 rfl nd.msgs (one_src sl48 rfl hb69 (hg69.mem (by simp))) (Chunks.single rfl ⟨Lay.none, rfl, hmo _⟩) ((by simp only [List.length_singleton]; omega)) (by omega) ?_
      rintro a70 c70 A70 w70 (hg70 : Good _ s (Q69 :: Q62 :: Q36 :: A70 :: os)) ho70 hax70 hk70 hn70
      obtain ⟨hp70, hr70⟩ := nd.appMsgs ho70 hk70
      refine ⟨⟨hg70.at1 (by simp) hp70, hg70.at1 (by simp) hb62, trivial⟩, ?_⟩
      refine RL.pu ?_
      refine RL.fi fl109_1 ?_
      refine RL.fi fl50_4 ?_
      refine RL.done ?_
      refine RL.next trivial ?_
      refine RL.storeN (p := p) (i := 3) (j := 24) rfl rfl rfl ty48 rfl rfl hg70 rfl (hp70) (hr70) rfl (by first | (simp [Value.cells, Value.oneCell']; done) | simp [Value.cells, Value.oneCell', putL]) (by first | exact Nat.le_of_ble_eq_true rfl | (simp; done) | (simp; omega) | omega) rfl ?_
      rintro w71 A71 (hg71 : Good _ s (Q69 :: Q62 :: Q36 :: A71 :: os)) hax71 nd71
      refine ⟨trivial, ?_⟩
      refine RL.done ?_
      refine fall (vs := []) rfl ?_
      exact Post.mk (Le.refl _) ((((hg71.front 3 rfl).dropNext).dropNext).dropNext) (hax36.trans ((Aux.drew _).trans (hax59.trans ((Aux.drew _).trans (hax61.trans (hax62.trans ((Aux.drew _).trans (hax69.trans (hax70.trans hax71))))))))) ⟨rfl, _, nd71.to (by simp only [h69]; exact (preVote_f (.inr (.inr (.inr h69)))).symm)⟩
    ·
     have hmo := hmf
     refine RL.qq ?_
     refine RL.qq ?_
     refine RL.qq ?_
     refine RL.qq ?_
     refine RL.qq ?_
     refine RL.pu ?_
     refine RL.pd ?_
     refine CW.seq ?_
     have hg72 := hg58.drew
     refine CW.draws [(true, 0), (true, 1), (true, 2), (true, 3), (true, 4), (true, 5), (true, 6), (true, 7), (true, 8), (true, 9), (true, 10), (true, 11), (true, 12), (true, 13), (true, 14), (true, 15), (false, 16), (false, 17)] (fun w => At1 p _ w ∧ At1 b36 _ w ∧ True) mixed (by kernel_rfl) (by kernel_rfl) (by kernel_rfl) (by kernel_rfl) (⟨hg72.at1 (by simp) nd.cells, hg72.at1 (by simp) hb36, trivial⟩) ?_
     refine RL.pp ?_
     refine RL.fi fl109_0 ?_
     refine RL.fi fl44_0 ?_
     refine RL.loadT (ad := ⟨p, 0, none⟩) (j := 0) rfl rfl rfl rfl ty3 rfl (At1.holds) (fun w h => h.1.inn) rfl ?_
     refine RL.fi fl56_1 ?_
     refine RL.loadT (ad := ⟨b36, 0, none⟩) (j := 1) rfl rfl rfl rfl ty3 rfl (At1.holds) (fun w h => h.2.1.inn) rfl ?_
     refine RL.pp ?_
     refine RL.fi fl109_0 ?_
     refine RL.fi fl44_1 ?_
     refine RL.fi fl24_0 ?_
     refine RL.loadT (ad := ⟨p, 0, none⟩) (j := 1) rfl rfl rfl rfl ty22 rfl (At1.holds) (fun w h => h.1.inn) rfl ?_
     refine RL.pp ?_
     refine RL.build rfl rfl rfl rfl ze56 pl56 rfl rfl ?_
     refine RL.allocN rfl rfl rfl rfl ze56 hg72 ?_
     rintro b73 w73 Q73 (hg73 : Good _ s (Q73 :: Q36 :: A :: os)) hax73 hb73
     refine ⟨⟨hg73.at1 (by simp) nd.cells, hg73.at1 (by simp) hb36, trivial⟩, ?_⟩
     refine RL.sB (b := b73) (i := 0) (j := 0) rfl rfl rfl ty56 rfl rfl hg73 rfl (hb73) rfl rfl ?_
     rintro w74 Q74 (hg74 : Good _ s (Q74 :: Q36 :: A :: os)) hax74 hb74
     refine ⟨⟨hg74.at1 (by simp) nd.cells, hg74.at1 (by simp) hb36, trivial⟩, ?_⟩
     refine RL.done ?_
     refine CW.seq ?_
     refine CW.seq (CW.plain ?_)
     refine RL.pd ?_
     refine CW.no (by first | rfl | exact congrArg (fun b => some (Value.bool b)) (by assumption)) ?_
     refine CW.skip ?_
     have hg75 := hg74.drew
     refine CW.draws2 [(true, 0), (true, 1), (true, 2), (true, 3), (true, 4), (true, 5), (true, 6), (false, 7), (false, 8), (true, 9), (true, 10), (true, 11)] [(false, 12)] 12 #[true, true, true, true, true, true, true, true, true, true, true, true, false] (fun w => At1 p _ w ∧ At1 b73 _ w ∧ True) mixed (by kernel_rfl) (by kernel_rfl) (by kernel_rfl) (by kernel_rfl) (by kernel_rfl) (⟨hg75.at1 (by simp) nd.cells, hg75.at1 (by simp) hb74, trivial⟩) ?_
     refine RL.pp ?_
     refine RL.pu ?_
     refine RL.fi fl109_1 ?_
     refine RL.fi fl50_4 ?_
     refine RL.loadT (ad := ⟨p, 0, none⟩) (j := 24) rfl rfl rfl rfl ty48 rfl (At1.holds) (fun w h => h.1.inn) rfl ?_
     refine RL.loadsT (ad := ⟨b73, 0, none⟩) (j := 0) rfl rfl rfl rfl ty56 rfl (At1.holds) (fun w h => h.2.1.inn) rfl rfl ?_
     refine RL.buildN rfl rfl rfl rfl sl48 ze56 rfl rfl rfl rfl hg75 ?_
     rintro b76 w76 Q76 (hg76 : Good _ s (Q76 :: Q74 :: Q36 :: A :: os)) hax76 hb76
     refine ⟨⟨hg76.at1 (by simp) nd.cells, hg76.at1 (by simp) hb74, trivial⟩, ?_⟩
     refine RL.append2 (i := 3) (ys := [_]) rfl rfl rfl rfl sl48 ze56 rfl RMsg.one rfl rfl hg76 rfl nd.msgs (one_src sl48 rfl hb76 (hg76.mem (by simp))) (Chunks.single rfl ⟨Lay.none, rfl, hmo _⟩) ((by simp only [List.length_singleton]; omega)) (by omega) ?_
     rintro a77 c77 A77 w77 (hg77 : Good _ s (Q76 :: Q74 :: Q36 :: A77 :: os)) ho77 hax77 hk77 hn77
     obtain ⟨hp77, hr77⟩ := nd.appMsgs ho77 hk77
     refine ⟨⟨hg77.at1 (by simp) hp77, hg77.at1 (by simp) hb74, trivial⟩, ?_⟩
     refine RL.pu ?_
     refine RL.fi fl109_1 ?_
     refine RL.fi fl50_4 ?_
     refine RL.done ?_
     refine RL.next trivial ?_
     refine RL.storeN (p := p) (i := 3) (j := 24) rfl rfl rfl ty48 rfl rfl hg77 rfl (hp77) (hr77) rfl (by first | (simp [Value.cells, Value.oneCell']; done) | simp [Value.cells, Value.oneCell', putL]) (by first | exact Nat.le_of_ble_eq_true rfl | (simp; done) | (simp; omega) | omega) rfl ?_
     rintro w78 A78 (hg78 : Good _ s (Q76 :: Q74 :: Q36 :: A78 :: os)) hax78 nd78
     refine ⟨trivial, ?_⟩
     refine RL.done ?_
     refine fall (vs := []) rfl ?_
     exact Post.mk (Le.refl _) ((((hg78.front 3 rfl).dropNext).dropNext).dropNext) (hax36.trans ((Aux.drew _).trans ((Aux.drew _).trans (hax73.trans (hax74.trans ((Aux.drew _).trans (hax76.trans (hax77.trans hax78)))))))) ⟨rfl, _, nd78.to ((preVote_f (.inr (.inr (.inl (decide_f h41))))).symm)⟩
   ·
    have hmo := hmf
    refine RL.qq ?_
    refine RL.qq ?_
    refine RL.qq ?_
    refine RL.qq ?_
    refine RL.pa ?_
    refine RL.pp ?_
    refine RL.qq ?_
    refine RL.qq ?_
    refine RL.qq ?_
    refine RL.qq ?_
    refine RL.qq ?_
    refine RL.pu ?_
    refine RL.pd ?_
    refine CW.seq ?_
    have hg79 := hg58.drew
    refine CW.draws [(true, 0), (true, 1), (true, 2), (true, 3), (true, 4), (true, 5), (true, 6), (true, 7), (true, 8), (true, 9), (true, 10), (true, 11), (true, 12), (true, 13), (true, 14), (true, 15), (false, 16), (false, 17)] (fun w => At1 p _ w ∧ At1 b36 _ w ∧ True) mixed (by kernel_rfl) (by kernel_rfl) (by kernel_rfl) (by kernel_rfl) (⟨hg79.at1 (by simp) nd.cells, hg79.at1 (by simp) hb36, trivial⟩) ?_
    refine RL.pp ?_
    refine RL.fi fl109_0 ?_
    refine RL.fi fl44_0 ?_
    refine RL.loadT (ad := ⟨p, 0, none⟩) (j := 0) rfl rfl rfl rfl ty3 rfl (At1.holds) (fun w h => h.1.inn) rfl ?_
    refine RL.fi fl56_1 ?_
    refine RL.loadT (ad := ⟨b36, 0, none⟩) (j := 1) rfl rfl rfl rfl ty3 rfl (At1.holds) (fun w h => h.2.1.inn) rfl ?_
    refine RL.pp ?_
    refine RL.fi fl109_0 ?_
    refine RL.fi fl44_1 ?_
    refine RL.fi fl24_0 ?_
    refine RL.loadT (ad := ⟨p, 0, none⟩) (j := 1) rfl rfl rfl rfl ty22 rfl (At1.holds) (fun w h => h.1.inn) rfl ?_
    refine RL.pp ?_
    refine RL.build rfl rfl rfl rfl ze56 pl56 rfl rfl ?_
    refine RL.allocN rfl rfl rfl rfl ze56 hg79 ?_
    rintro b80 w80 Q80 (hg80 : Good _ s (Q80 :: Q36 :: A :: os)) hax80 hb80
    refine ⟨⟨hg80.at1 (by simp) nd.cells, hg80.at1 (by simp) hb36, trivial⟩, ?_⟩
    refine RL.sB (b := b80) (i := 0) (j := 0) rfl rfl rfl ty56 rfl rfl hg80 rfl (hb80) rfl rfl ?_
    rintro w81 Q81 (hg81 : Good _ s (Q81 :: Q36 :: A :: os)) hax81 hb81
    refine ⟨⟨hg81.at1 (by simp) nd.cells, hg81.at1 (by simp) hb36, trivial⟩, ?_⟩
    refine RL.done ?_
    refine CW.seq ?_
    refine CW.seq (CW.plain ?_)
    refine RL.pd ?_
    refine CW.no (by first | rfl | exact congrArg (fun b => some (Value.bool b)) (by assumption)) ?_
    refine CW.skip ?_
    have hg82 := hg81.drew
    refine CW.draws2 [(true, 0), (true, 1), (true, 2), (true, 3), (true, 4), (true, 5), (true, 6), (false, 7), (false, 8), (true, 9), (true, 10), (true, 11)] [(false, 12)] 12 #[true, true, true, true, true, true, true, true, true, true, true, true, false] (fun w => At1 p _ w ∧ At1 b80 _ w ∧ True) mixed (by kernel_rfl) (by kernel_rfl) (by kernel_rfl) (by kernel_rfl) (by kernel_rfl) (⟨hg82.at1 (by simp) nd.cells, hg82.at1 (by simp) hb81, trivial⟩) ?_
    refine RL.pp ?_
    refine RL.pu ?_
    refine RL.fi fl109_1 ?_
    refine RL.fi fl50_4 ?_
    refine RL.loadT (ad := ⟨p, 0, none⟩) (j := 24) rfl rfl rfl rfl ty48 rfl (At1.holds) (fun w h => h.1.inn) rfl ?_
    refine RL.loadsT (ad := ⟨b80, 0, none⟩) (j := 0) rfl rfl rfl rfl ty56 rfl (At1.holds) (fun w h => h.2.1.inn) rfl rfl ?_
    refine RL.buildN rfl rfl rfl rfl sl48 ze56 rfl rfl rfl rfl hg82 ?_
    rintro b83 w83 Q83 (hg83 : Good _ s (Q83 :: Q81 :: Q36 :: A :: os)) hax83 hb83
    refine ⟨⟨hg83.at1 (by simp) nd.cells, hg83.at1 (by simp) hb81, trivial⟩, ?_⟩
    refine RL.append2 (i := 3) (ys := [_]) rfl rfl rfl rfl sl48 ze56 rfl RMsg.one rfl rfl hg83 rfl nd.msgs (one_src sl48 rfl hb83 (hg83.mem (by simp))) (Chunks.single rfl ⟨Lay.none, rfl, hmo _⟩) ((by simp only [List.length_singleton]; omega)) (by omega) ?_
    rintro a84 c84 A84 w84 (hg84 : Good _ s (Q83 :: Q81 :: Q36 :: A84 :: os)) ho84 hax84 hk84 hn84
    obtain ⟨hp84, hr84⟩ := nd.appMsgs ho84 hk84
    refine ⟨⟨hg84.at1 (by simp) hp84, hg84.at1 (by simp) hb81, trivial⟩, ?_⟩
    refine RL.pu ?_
    refine RL.fi fl109_1 ?_
    refine RL.fi fl50_4 ?_
    refine RL.done ?_
    refine RL.next trivial ?_
    refine RL.storeN (p := p) (i := 3) (j := 24) rfl rfl rfl ty48 rfl rfl hg84 rfl (hp84) (hr84) rfl (by first | (simp [Value.cells, Value.oneCell']; done) | simp [Value.cells, Value.oneCell', putL]) (by first | exact Nat.le_of_ble_eq_true rfl | (simp; done) | (simp; omega) | omega) rfl ?_
    rintro w85 A85 (hg85 : Good _ s (Q83 :: Q81 :: Q36 :: A85 :: os)) hax85 nd85
    refine ⟨trivial, ?_⟩
    refine RL.done ?_
    refine fall (vs := []) rfl ?_
    exact Post.mk (Le.refl _) ((((hg85.front 3 rfl).dropNext).dropNext).dropNext) (hax36.trans ((Aux.drew _).trans ((Aux.drew _).trans (hax80.trans (hax81.trans ((Aux.drew _).trans (hax83.trans (hax84.trans hax85)))))))) ⟨rfl, _, nd85.to ((preVote_f (.inr (.inl (fun z => z.elim (fun z => by simp [z] at h20) (decide_f h30))))).symm)⟩
 ·
  have hmo := hmf
  refine RL.qq ?_
  refine RL.qq ?_
  refine RL.qq ?_
  refine RL.qq ?_
  refine RL.qq ?_
  refine RL.qq ?_
  refine RL.qq ?_
  refine RL.pu ?_
  refine RL.pd ?_
  refine CW.seq ?_
  have hg86 := hg36.drew
  refine CW.draws [(true, 0), (true, 1), (true, 2), (true, 3), (true, 4), (true, 5), (true, 6), (true, 7), (true, 8), (true, 9), (true, 10), (true, 11), (true, 12), (true, 13), (true, 14), (true, 15), (true, 16), (true, 17), (true, 18), (true, 19), (true, 20), (true, 21), (false, 22), (true, 23), (false, 24)] (fun w => At1 b36 _ w ∧ At1 p _ w ∧ True) mixed (by kernel_rfl) (by kernel_rfl) (by kernel_rfl) (by kernel_rfl) (⟨hg86.at1 (by simp) hb36, hg86.at1 (by simp) nd.cells, trivial⟩) ?_
  refine RL.pp ?_
  refine RL.qq ?_
  refine RL.qq ?_
  refine RL.qq ?_
  refine RL.qq ?_
  refine RL.pa ?_
  refine RL.pp ?_
  refine RL.qq ?_
  refine RL.qq ?_
  refine RL.qq ?_
  refine RL.qq ?_
  refine RL.qq ?_
  refine RL.pu ?_
  refine RL.pd ?_
  refine CW.seq ?_
  have hg87 := hg86.drew
  refine CW.draws [(true, 0), (true, 1), (true, 2), (true, 3), (true, 4), (true, 5), (true, 6), (true, 7), (true, 8), (true, 9), (true, 10), (true, 11), (true, 12), (true, 13), (true, 14), (true, 15), (false, 16), (false, 17)] (fun w => At1 p _ w ∧ At1 b36 _ w ∧ True) mixed (by kernel_rfl) (by kernel_rfl) (by kernel_rfl) (by kernel_rfl) (⟨hg87.at1 (by simp) nd.cells, hg87.at1 (by simp) hb36, trivial⟩) ?_
  refine RL.pp ?_
  refine RL.fi fl109_0 ?_
  refine RL.fi fl44_0 ?_
  refine RL.loadT (ad := ⟨p, 0, none⟩) (j := 0) rfl rfl rfl rfl ty3 rfl (At1.holds) (fun w h => h.1.inn) rfl ?_
  refine RL.fi fl56_1 ?_
  refine RL.loadT (ad := ⟨b36, 0, none⟩) (j := 1) rfl rfl rfl rfl ty3 rfl (At1.holds) (fun w h => h.2.1.inn) rfl ?_
  refine RL.pp ?_
  refine RL.fi fl109_0 ?_
  refine RL.fi fl44_1 ?_
  refine RL.fi fl24_0 ?_
  refine RL.loadT (ad := ⟨p, 0, none⟩) (j := 1) rfl rfl rfl rfl ty22 rfl (At1.holds) (fun w h => h.1.inn) rfl ?_
  refine RL.pp ?_
  refine RL.build rfl rfl rfl rfl ze56 pl56 rfl rfl ?_
  refine RL.allocN rfl rfl rfl rfl ze56 hg87 ?_
  rintro b88 w88 Q88 (hg88 : Good _ s (Q88 :: Q36 :: A :: os)) hax88 hb88
  refine ⟨⟨hg88.at1 (by simp) nd.cells, hg88.at1 (by simp) hb36, trivial⟩, ?_⟩
  refine RL.sB (b := b88) (i := 0) (j := 0) rfl rfl rfl ty56 rfl rfl hg88 rfl (hb88) rfl rfl ?_
  rintro w89 Q89 (hg89 : Good _ s (Q89 :: Q36 :: A :: os)) hax89 hb89
  refine ⟨⟨hg89.at1 (by simp) nd.cells, hg89.at1 (by simp) hb36, trivial⟩, ?_⟩
  refine RL.done ?_
  refine CW.seq ?_
  refine CW.seq (CW.plain ?_)
  refine RL.pd ?_
  refine CW.no (by first | rfl | exact congrArg (fun b => some (Value.bool b)) (by assumption)) ?_
  refine CW.skip ?_
  have hg90 := hg89.drew
  refine CW.draws2 [(true, 0), (true, 1), (true, 2), (true, 3), (true, 4), (true, 5), (true, 6), (false, 7), (false, 8), (true, 9), (true, 10), (true, 11)] [(false, 12)] 12 #[true, true, true, true, true, true, true, true, true, true, true, true, false] (fun w => At1 p _ w ∧ At1 b88 _ w ∧ True) mixed (by kernel_rfl) (by kernel_rfl) (by kernel_rfl) (by kernel_rfl) (by kernel_rfl) (⟨hg90.at1 (by simp) nd.cells, hg90.at1 (by simp) hb89, trivial⟩) ?_
  refine RL.pp ?_
  refine RL.pu ?_
  refine RL.fi fl109_1 ?_
  refine RL.fi fl50_4 ?_
  refine RL.loadT (ad := ⟨p, 0, none⟩) (j := 24) rfl rfl rfl rfl ty48 rfl (At1.holds) (fun w h => h.1.inn) rfl ?_
  refine RL.loadsT (ad := ⟨b88, 0, none⟩) (j := 0) rfl rfl rfl rfl ty56 rfl (At1.holds) (fun w h => h.2.1.inn) rfl rfl ?_
  refine RL.buildN rfl rfl rfl rfl sl48 ze56 rfl rfl rfl rfl hg90 ?_
  rintro b91 w91 Q91 (hg91 : Good _ s (Q91 :: Q89 :: Q36 :: A :: os)) hax91 hb91
  refine ⟨⟨hg91.at1 (by simp) nd.cells, hg91.at1 (by simp) hb89, trivial⟩, ?_⟩
  refine RL.append2 (i := 3) (ys := [_]) rfl rfl rfl rfl sl48 ze56 rfl RMsg.one rfl rfl hg91 rfl nd.msgs (one_src sl48 rfl hb91 (hg91.mem (by simp))) (Chunks.single rfl ⟨Lay.none, rfl, hmo _⟩) ((by simp only [List.length_singleton]; omega)) (by omega) ?_
  rintro a92 c92 A92 w92 (hg92 : Good _ s (Q91 :: Q89 :: Q36 :: A92 :: os)) ho92 hax92 hk92 hn92
  obtain ⟨hp92, hr92⟩ := nd.appMsgs ho92 hk92
  refine ⟨⟨hg92.at1 (by simp) hp92, hg92.at1 (by simp) hb89, trivial⟩, ?_⟩
  refine RL.pu ?_
  refine RL.fi fl109_1 ?_
  refine RL.fi fl50_4 ?_
  refine RL.done ?_
  refine RL.next trivial ?_
  refine RL.storeN (p := p) (i := 3) (j := 24) rfl rfl rfl ty48 rfl rfl hg92 rfl (hp92) (hr92) rfl (by first | (simp [Value.cells, Value.oneCell']; done) | simp [Value.cells, Value.oneCell', putL]) (by first | exact Nat.le_of_ble_eq_true rfl | (simp; done) | (simp; omega) | omega) rfl ?_
  rintro w93 A93 (hg93 : Good _ s (Q91 :: Q89 :: Q36 :: A93 :: os)) hax93 nd93
  refine ⟨trivial, ?_⟩
  refine RL.done ?_
  refine fall (vs := []) rfl ?_
  exact Post.mk (Le.refl _) ((((hg93.front 3 rfl).dropNext).dropNext).dropNext) (hax36.trans ((Aux.drew _).trans ((Aux.drew _).trans (hax88.trans (hax89.trans ((Aux.drew _).trans (hax91.trans (hax92.trans hax93)))))))) ⟨rfl, _, nd93.to ((preVote_f (.inl (by simpa using h13))).symm)⟩
theorem preVoted_a {m : Msg} (h1 : m.reject = true) (h2 : n.s.hard.term < m.term) : n.preVoted m = n.follow m.term 0 := by unfold Node.preVoted; rw [if_pos ⟨h1, h2⟩]
theorem preVoted_b {m : Msg} (h0 : ¬ (m.reject = true ∧ n.s.hard.term < m.term)) (h1 : n.s.role = 2) (h2 : m.reject = true ∨ m.term = up1 n.s.hard.term) : n.preVoted m = n.stands m Node.stand := by
 unfold Node.preVoted; rw [if_neg h0, if_pos ⟨h1, h2⟩]
theorem preVoted_c {m : Msg} (h0 : ¬ (m.reject = true ∧ n.s.hard.term < m.term)) (h1 : n.s.role ≠ 2 ∨ ¬ (m.reject = true ∨ m.term = up1 n.s.hard.term)) : n.preVoted m = n := by
 unfold Node.preVoted; rw [if_neg h0, if_neg (fun z => h1.elim (fun k => k z.1) (fun k => k z.2))]
set_option maxRecDepth 100000 in
set_option maxHeartbeats 1000000 in
theorem preVoted_ct {m : Msg} {y : Lay} (hg : Good w s (A :: os)) (nd : Nd s A p h n) (hR : NRng n) (hr : n.roomy) (hbl : n.s.ballots.length ≤ 68719476736) (hm : MsgOk s m y) :
  Calls Tryz.prog 71 #[ptr p, .agg (msgV m y).toArray] w (NPost w s os p (.tuple #[]) (n.preVoted m)) := by
 have hst := fun w' s' A' h' (hg' : Good w' s' (A' :: os)) (nd' : Nd s' A' p h' (n.addBallot m.frm (!m.reject))) => stand_ct hg' nd' (hR.of rfl hR.2.1 hR.2.2.1 hR.2.2.2.1 rfl) hr
 refine enter (l := [ptr p, .agg (msgV m y).toArray]) Tryz.func71 rfl Tryz.ntmps71 rfl ?_
 refine CW.seq (CW.plain ?_)
 refine RL.boxN rfl rfl rfl rfl rfl hg ?_
 rintro b94 w94 Q94 (hg94 : Good _ s (Q94 :: A :: os)) hax94 hb94
 refine ⟨trivial, ?_⟩
 refine RL.done ?_
 refine CW.block ?_
 refine CW.seq ?_
 have hg95 := hg94.drew
 refine CW.draws [(true, 0), (true, 1), (true, 2), (true, 3), (true, 4), (true, 5), (true, 6), (true, 7), (true, 8), (true, 9), (true, 10), (true, 11), (true, 12), (false, 13)] (fun w => At1 b94 _ w ∧ At1 p _ w ∧ True) mixed (by kernel_rfl) (by kernel_rfl) (by kernel_rfl) (by kernel_rfl) (⟨hg95.at1 (by simp) hb94, hg95.at1 (by simp) nd.cells, trivial⟩) ?_
 refine RL.fi fl56_8 ?_
 refine RL.loadT (ad := ⟨b94, 0, none⟩) (j := 8) rfl rfl rfl rfl ty4 rfl (At1.holds) (fun w h => h.1.inn) rfl ?_
 refine RL.pu ?_
 refine RL.part 7 rfl (fun h7 => ?_) (fun h7 => ?_)
 ·
  refine RL.fi fl56_3 ?_
  refine RL.loadT (ad := ⟨b94, 0, none⟩) (j := 3) rfl rfl rfl rfl ty22 rfl (At1.holds) (fun w h => h.1.inn) rfl ?_
  refine RL.pp ?_
  refine RL.fi fl109_0 ?_
  refine RL.fi fl44_1 ?_
  refine RL.fi fl24_0 ?_
  refine RL.loadT (ad := ⟨p, 0, none⟩) (j := 1) rfl rfl rfl rfl ty22 rfl (At1.holds) (fun w h => h.2.1.inn) rfl ?_
  refine RL.pp ?_
  refine RL.pd ?_
  refine CW.cond rfl (fun h4 => ?_) (fun h4 => ?_)
  ·
   refine CW.plain ?_
   refine RL.pu ?_
   refine RL.fi fl56_3 ?_
   refine RL.lo 3 ty22 hb94 hg95 ?_
   refine RL.call rfl rfl rfl rfl rfl ca73 (follow_ct (hg95.front 1 rfl) nd) ?_
   rintro v96 s96 A96 w96 hle96 (hg96 : Good _ s96 (A96 :: Q94 :: os)) hax96 ⟨rfl, h96, nd96⟩
   refine ⟨trivial, ?_⟩
   refine RL.done ?_
   refine fall (vs := []) rfl ?_
   exact Post.mk hle96 (hg96.dropNext) (hax94.trans ((Aux.drew _).trans hax96)) ⟨rfl, _, nd96.to (preVoted_a h7 (decide_t h4)).symm⟩
  ·
   refine CW.seq ?_
   have hg97 := hg95.drew
   refine CW.draws [(true, 0), (true, 1), (true, 2), (true, 3), (true, 4), (true, 5), (true, 6), (true, 7), (true, 8), (true, 9), (true, 10), (true, 11), (true, 12), (true, 13), (true, 14), (true, 15), (true, 16), (true, 17), (true, 18), (true, 19), (true, 20), (true, 21), (false, 22)] (fun w => At1 p _ w ∧ At1 b94 _ w ∧ True) mixed (by kernel_rfl) (by kernel_rfl) (by kernel_rfl) (by kernel_rfl) (⟨hg97.at1 (by simp) nd.cells, hg97.at1 (by simp) hb94, trivial⟩) ?_
   refine RL.pp ?_
   refine RL.fi fl109_0 ?_
   refine RL.fi fl44_3 ?_
   refine RL.loadT (ad := ⟨p, 0, none⟩) (j := 10) rfl rfl rfl rfl ty38 rfl (At1.holds) (fun w h => h.1.inn) rfl ?_
   refine RL.pp ?_
   refine RL.part 29 rfl (fun h29 => ?_) (fun h29 => ?_)
   ·
    refine RL.fi fl56_8 ?_
    refine RL.loadT (ad := ⟨b94, 0, none⟩) (j := 8) rfl rfl rfl rfl ty4 rfl (At1.holds) (fun w h => h.2.1.inn) rfl ?_
    refine RL.pu ?_
    refine RL.part 32 rfl (fun h32 => ?_) (fun h32 => ?_)
    ·
     refine RL.qq ?_
     refine RL.qq ?_
     refine RL.qq ?_
     refine RL.qq ?_
     refine RL.qq ?_
     refine RL.pp ?_
     refine RL.pd ?_
     refine CW.yes (by first | rfl | exact congrArg (fun b => some (Value.bool b)) (by assumption)) ?_
     refine CW.plain ?_
     refine RL.pu ?_
     refine RL.ls 0 ty56 hb94 hg97 ?_
     refine RL.pu ?_
     refine RL.makeB rfl rfl rfl rfl rfl rfl ?_
     refine RL.call rfl rfl rfl rfl rfl ca105 (stands_ct (won := Node.stand) ((hg97.front 1 rfl).dropNext) nd hR hr hbl hm rfl hst) ?_
     rintro v98 s98 A98 w98 hle98 (hg98 : Good _ s98 (A98 :: os)) hax98 ⟨rfl, h98, nd98⟩
     refine ⟨trivial, ?_⟩
     refine RL.done ?_
     refine fall (vs := []) rfl ?_
     exact Post.mk hle98 hg98 (hax94.trans ((Aux.drew _).trans ((Aux.drew _).trans hax98))) ⟨rfl, _, nd98.to (preVoted_b (fun z => decide_f h4 z.2) (by simpa using h29) (.inl h32)).symm⟩
    ·
     refine RL.fi fl56_3 ?_
     refine RL.loadT (ad := ⟨b94, 0, none⟩) (j := 3) rfl rfl rfl rfl ty22 rfl (At1.holds) (fun w h => h.2.1.inn) rfl ?_
     refine RL.pp ?_
     refine RL.fi fl109_0 ?_
     refine RL.fi fl44_1 ?_
     refine RL.fi fl24_0 ?_
     refine RL.loadT (ad := ⟨p, 0, none⟩) (j := 1) rfl rfl rfl rfl ty22 rfl (At1.holds) (fun w h => h.1.inn) rfl ?_
     refine RL.as_ rfl rfl rfl rfl (u64 (up1 n.s.hard.term)) (rfl) ?_
     refine RL.pp ?_
     refine RL.pu ?_
     refine RL.pd ?_
     refine CW.cond rfl (fun h22 => ?_) (fun h22 => ?_)
     ·
      refine CW.plain ?_
      refine RL.pu ?_
      refine RL.ls 0 ty56 hb94 hg97 ?_
      refine RL.pu ?_
      refine RL.makeB rfl rfl rfl rfl rfl rfl ?_
      refine RL.call rfl rfl rfl rfl rfl ca105 (stands_ct (won := Node.stand) ((hg97.front 1 rfl).dropNext) nd hR hr hbl hm rfl hst) ?_
      rintro v99 s99 A99 w99 hle99 (hg99 : Good _ s99 (A99 :: os)) hax99 ⟨rfl, h99, nd99⟩
      refine ⟨trivial, ?_⟩
      refine RL.done ?_
      refine fall (vs := []) rfl ?_
      exact Post.mk hle99 hg99 (hax94.trans ((Aux.drew _).trans ((Aux.drew _).trans hax99))) ⟨rfl, _, nd99.to (preVoted_b (fun z => decide_f h4 z.2) (by simpa using h29) (.inr (by simpa using h22))).symm⟩
     ·
      refine CW.skip ?_
      refine fall (vs := []) rfl ?_
      exact Post.mk (Le.refl _) ((hg97.front 1 rfl).dropNext) (hax94.trans ((Aux.drew _).trans (Aux.drew _))) ⟨rfl, _, nd.to (preVoted_c (fun z => decide_f h4 z.2) (.inr (fun z => z.elim (fun z => by rw [h32] at z; cases z) (fun z => by simp [z] at h22)))).symm⟩
   ·
    refine RL.qq ?_
    refine RL.qq ?_
    refine RL.qq ?_
    refine RL.qq ?_
    refine RL.qq ?_
    refine RL.qq ?_
    refine RL.qq ?_
    refine RL.pu ?_
    refine RL.pd ?_
    refine CW.no (by first | rfl | exact congrArg (fun b => some (Value.bool b)) (by assumption)) ?_
    refine CW.skip ?_
    refine fall (vs := []) rfl ?_
    exact Post.mk (Le.refl _) ((hg97.front 1 rfl).dropNext) (hax94.trans ((Aux.drew _).trans (Aux.drew _))) ⟨rfl, _, nd.to (preVoted_c (fun z => decide_f h4 z.2) (.inl (by simpa using h29))).symm⟩
 ·
  refine RL.qq ?_
  refine RL.qq ?_
  refine RL.qq ?_
  refine RL.qq ?_
  refine RL.pa ?_
  refine RL.pu ?_
  refine RL.pd ?_
  refine CW.no (by first | rfl | exact congrArg (fun b => some (Value.bool b)) (by assumption)) ?_
  refine CW.seq ?_
  have hg100 := hg95.drew
  refine CW.draws [(true, 0), (true, 1), (true, 2), (true, 3), (true, 4), (true, 5), (true, 6), (true, 7), (true, 8), (true, 9), (true, 10), (true, 11), (true, 12), (true, 13), (true, 14), (true, 15), (true, 16), (true, 17), (true, 18), (true, 19), (true, 20), (true, 21), (false, 22)] (fun w => At1 p _ w ∧ At1 b94 _ w ∧ True) mixed (by kernel_rfl) (by kernel_rfl) (by kernel_rfl) (by kernel_rfl) (⟨hg100.at1 (by simp) nd.cells, hg100.at1 (by simp) hb94, trivial⟩) ?_
  refine RL.pp ?_
  refine RL.fi fl109_0 ?_
  refine RL.fi fl44_3 ?_
  refine RL.loadT (ad := ⟨p, 0, none⟩) (j := 10) rfl rfl rfl rfl ty38 rfl (At1.holds) (fun w h => h.1.inn) rfl ?_
  refine RL.pp ?_
  refine RL.part 29 rfl (fun h29 => ?_) (fun h29 => ?_)
  ·
   refine RL.fi fl56_8 ?_
   refine RL.loadT (ad := ⟨b94, 0, none⟩) (j := 8) rfl rfl rfl rfl ty4 rfl (At1.holds) (fun w h => h.2.1.inn) rfl ?_
   refine RL.pu ?_
   refine RL.part 32 rfl (fun h32 => ?_) (fun h32 => ?_)
   ·
    refine RL.qq ?_
    refine RL.qq ?_
    refine RL.qq ?_
    refine RL.qq ?_
    refine RL.qq ?_
    refine RL.pp ?_
    refine RL.pd ?_
    refine CW.yes (by first | rfl | exact congrArg (fun b => some (Value.bool b)) (by assumption)) ?_
    refine CW.plain ?_
    refine RL.pu ?_
    refine RL.ls 0 ty56 hb94 hg100 ?_
    refine RL.pu ?_
    refine RL.makeB rfl rfl rfl rfl rfl rfl ?_
    refine RL.call rfl rfl rfl rfl rfl ca105 (stands_ct (won := Node.stand) ((hg100.front 1 rfl).dropNext) nd hR hr hbl hm rfl hst) ?_
    rintro v101 s101 A101 w101 hle101 (hg101 : Good _ s101 (A101 :: os)) hax101 ⟨rfl, h101, nd101⟩
    refine ⟨trivial, ?_⟩
    refine RL.done ?_
    refine fall (vs := []) rfl ?_
    exact Post.mk hle101 hg101 (hax94.trans ((Aux.drew _).trans ((Aux.drew _).trans hax101))) ⟨rfl, _, nd101.to (preVoted_b (fun z => by rw [h7] at z; cases z.1) (by simpa using h29) (.inl h32)).symm⟩
   ·
    refine RL.fi fl56_3 ?_
    refine RL.loadT (ad := ⟨b94, 0, none⟩) (j := 3) rfl rfl rfl rfl ty22 rfl (At1.holds) (fun w h => h.2.1.inn) rfl ?_
    refine RL.pp ?_
    refine RL.fi fl109_0 ?_
    refine RL.fi fl44_1 ?_
    refine RL.fi fl24_0 ?_
    refine RL.loadT (ad := ⟨p, 0, none⟩) (j := 1) rfl rfl rfl rfl ty22 rfl (At1.holds) (fun w h => h.1.inn) rfl ?_
    refine RL.as_ rfl rfl rfl rfl (u64 (up1 n.s.hard.term)) (rfl) ?_
    refine RL.pp ?_
    refine RL.pu ?_
    refine RL.pd ?_
    refine CW.cond rfl (fun h22 => ?_) (fun h22 => ?_)
    ·
     refine CW.plain ?_
     refine RL.pu ?_
     refine RL.ls 0 ty56 hb94 hg100 ?_
     refine RL.pu ?_
     refine RL.makeB rfl rfl rfl rfl rfl rfl ?_
     refine RL.call rfl rfl rfl rfl rfl ca105 (stands_ct (won := Node.stand) ((hg100.front 1 rfl).dropNext) nd hR hr hbl hm rfl hst) ?_
     rintro v102 s102 A102 w102 hle102 (hg102 : Good _ s102 (A102 :: os)) hax102 ⟨rfl, h102, nd102⟩
     refine ⟨trivial, ?_⟩
     refine RL.done ?_
     refine fall (vs := []) rfl ?_
     exact Post.mk hle102 hg102 (hax94.trans ((Aux.drew _).trans ((Aux.drew _).trans hax102))) ⟨rfl, _, nd102.to (preVoted_b (fun z => by rw [h7] at z; cases z.1) (by simpa using h29) (.inr (by simpa using h22))).symm⟩
    ·
     refine CW.skip ?_
     refine fall (vs := []) rfl ?_
     exact Post.mk (Le.refl _) ((hg100.front 1 rfl).dropNext) (hax94.trans ((Aux.drew _).trans (Aux.drew _))) ⟨rfl, _, nd.to (preVoted_c (fun z => by rw [h7] at z; cases z.1) (.inr (fun z => z.elim (fun z => by rw [h32] at z; cases z) (fun z => by simp [z] at h22)))).symm⟩
  ·
   refine RL.qq ?_
   refine RL.qq ?_
   refine RL.qq ?_
   refine RL.qq ?_
   refine RL.qq ?_
   refine RL.qq ?_
   refine RL.qq ?_
   refine RL.pu ?_
   refine RL.pd ?_
   refine CW.no (by first | rfl | exact congrArg (fun b => some (Value.bool b)) (by assumption)) ?_
   refine CW.skip ?_
   refine fall (vs := []) rfl ?_
   exact Post.mk (Le.refl _) ((hg100.front 1 rfl).dropNext) (hax94.trans ((Aux.drew _).trans (Aux.drew _))) ⟨rfl, _, nd.to (preVoted_c (fun z => by rw [h7] at z; cases z.1) (.inl (by simpa using h29))).symm⟩
end
end Go.Lw

/-
 A node by the program: grow.
-/
namespace Go.Lw
open Go.Proofs
attribute [local irreducible] RL RA
theorem min_if (a b : Int) : (if b < a then b else a) = min a b := by rw [Int.min_def]; split <;> split <;> omega
theorem max_if (a b : Int) : (if b > a then b else a) = max a b := by rw [Int.max_def]; split <;> split <;> omega
def Msg.small (m : Msg) : Prop := (∀ e ∈ m.entries, e.small) ∧ m.entries.length ≤ 1073741824 ∧ m.conf.small ∧ m.data.length ≤ 1073741824
section
variable {w : World} {s A : Res} {os : List Res} {p : Nat} {h : Hd} {n : Node}
theorem Good.shrink {w : World} {s s' : Res} {os : List Res} (h : Good w s' os) (hl : Le s s') : Good w s os := by
 induction os with
 | nil => exact In.le h hl
 | cons q os ih => exact ⟨h.1, (h.2.1.symm.le hl).symm, h.2.2.1, ih h.2.2.2⟩
theorem Calls.val {P : Program} {w : World} {s : Res} {os : List Res} {f : FuncId} {args : Array Value} {Ψ : Value → Prop} (h : Calls P f args w (Post w s os fun _ _ v => Ψ v)) : Calls P f args w (PostV w s os Ψ) :=
 h.mono fun e w' he => by
  obtain ⟨v, s', B, rfl, hle, hg', hax, hv⟩ := he
  exact ⟨v, rfl, hg'.drop.shrink hle, hax, hv⟩
set_option maxRecDepth 100000 in
theorem IndexEB_ct {r : Res} {xs : List Entry} {xa : Option Addr} {xc g : Nat} {bnd cap : Array Value} {q : Entry → Bool} (hg : Good w s os) (hr : r = s ∨ r ∈ os) (hx : Lies REntry 6 r s xa xc xs) (hc : callable Tryz.prog g = true)
  (hp : ∀ x ∈ xs, ∀ vs, REntry s vs x → ∀ w', Good w' s os → Calls Tryz.prog g (bnd ++ #[.agg vs.toArray] ++ cap) w' (PostV w' s os fun v => v = .bool (q x))) :
  Calls Tryz.prog 154 #[.slice xa xs.length xc, .func (.func g) bnd cap] w (PostV w s os fun v => v = i64 (idxP q xs)) := by
 have hlen := hx.le_max
 simp only [maxLen] at hlen
 refine enter (l := [.slice xa xs.length xc, .func (.func g) bnd cap]) Tryz.func154 rfl Tryz.ntmps154 rfl ?_
 refine CW.seq (CW.plain ?_)
 refine RL.pd ?_
 refine CW.seq ?_
 refine CW.seq (CW.plain ?_)
 refine RL.pu ?_
 refine RL.len rfl rfl rfl rfl sl31 rfl ?_
 refine RL.pd ?_
 refine CW.block ?_
 refine CW.loop (σ := Nat) (fun j E w' => Good w' s os ∧ Aux w w' ∧ ∃ k : Nat, E = [(0, .slice xa xs.length xc), (1, .func (.func g) bnd cap), (7, i64 xs.length), (8, i64 k)] ∧ k + j = xs.length ∧ ∀ x ∈ xs.take k, q x = false) (fun j => j) xs.length [(0, .slice xa xs.length xc), (1, .func (.func g) bnd cap), (7, i64 xs.length), (8, i64 0)] ⟨rfl, rfl, rfl, rfl, trivial⟩ ⟨hg, (Aux.refl _), 0, rfl, by omega, by simp⟩ ?_
 rintro j E wL ⟨hgL, haxL, k, rfl, hk, hno⟩
 refine CW.seq (CW.plain ?_)
 refine RL.pd ?_
 refine CW.seq ?_
 refine CW.cond rfl (fun h9 => ?_) (fun h9 => ?_)
 ·
  refine CW.skip ?_
  refine CW.seq ?_
  refine CW.block ?_
  refine CW.seq (CW.plain ?_)
  refine RL.pu ?_
  refine RL.pd ?_
  refine CW.seq (CW.plain ?_)
  refine RL.pp ?_
  refine RL.pu ?_
  have hlt : k < xs.length := by have := decide_t h9; omega
  refine RL.idxL rfl rfl rfl rfl sl31 rfl rfl hx (by omega) (by omega) ?_
  rintro q vs hvl hH hE
  have hE2 := hE
  obtain ⟨ea, ec, ea1, ec1, ea2, ec2, rfl, er1, er2, er3, eh1, eh2, eh3⟩ := hE2
  refine RL.loads (j := 0) (us := _) rfl rfl rfl rfl ty65 rfl (hH) (hgL.has hr) rfl rfl ?_
  refine RL.callB rfl rfl rfl rfl rfl rfl hc (hp _ (List.getElem_mem _) _ hE _ hgL) ?_
  rintro e1 w1 ⟨v1, rfl, hg1, hax1, rfl⟩
  refine ⟨_, rfl, trivial, ?_⟩
  refine RL.done ?_
  refine CW.cond rfl (fun h16 => ?_) (fun h16 => ?_)
  ·
   refine CW.seq (CW.plain ?_)
   refine RL.pu ?_
   refine RL.pd ?_
   refine CW.ret (ret (vs := [_]) ⟨_, _, rfl, rfl, rfl⟩ ?_)
   exact PostV.mk hg1 (haxL.trans hax1) (congrArg i64 (idxP_at hlt h16 hno).symm)
  ·
   refine CW.skip (CW.plain ?_)
   refine RL.add rfl rfl rfl rfl rfl rfl ((by simp only [rng]; omega)) ?_
   refine RL.pd ?_
   have hno2 := takes hlt hno h16
   cases j with
   | zero => omega
   | succ j => exact fun ac ha => ⟨j, [(0, .slice xa xs.length xc), (1, .func (.func g) bnd cap), (7, i64 xs.length), (8, i64 ((k : Int) + 1))], ha.sub ⟨rfl, rfl, rfl, rfl, trivial⟩, ⟨hg1, haxL.trans hax1, k + 1, rfl, by omega, hno2⟩, Nat.lt_succ_self j⟩
 ·
  refine CW.exit ?_
  refine CW.seq (CW.plain ?_)
  refine RL.pd ?_
  refine CW.ret (ret (vs := [_]) ⟨_, _, rfl, rfl, rfl⟩ ?_)
  have hke : k = xs.length := by have := decide_f h9; omega
  rw [hke, List.take_length] at hno
  exact PostV.mk hgL haxL (congrArg i64 (idxP_none hno).symm)
set_option maxRecDepth 100000 in
theorem ContainsEB_ct {r : Res} {xs : List Entry} {xa : Option Addr} {xc g : Nat} {bnd cap : Array Value} {q : Entry → Bool} (hg : Good w s os) (hr : r = s ∨ r ∈ os) (hx : Lies REntry 6 r s xa xc xs) (hc : callable Tryz.prog g = true)
  (hp : ∀ x ∈ xs, ∀ vs, REntry s vs x → ∀ w', Good w' s os → Calls Tryz.prog g (bnd ++ #[.agg vs.toArray] ++ cap) w' (PostV w' s os fun v => v = .bool (q x))) :
  Calls Tryz.prog 133 #[.slice xa xs.length xc, .func (.func g) bnd cap] w (PostV w s os fun v => v = .bool (xs.any q)) := by
 refine enter (l := [.slice xa xs.length xc, .func (.func g) bnd cap]) Tryz.func133 rfl Tryz.ntmps133 rfl ?_
 refine CW.seq (CW.plain ?_)
 refine RL.pd ?_
 refine CW.seq (CW.plain ?_)
 refine RL.pp ?_
 refine RL.callV rfl rfl rfl rfl rfl ca154 (IndexEB_ct hg hr hx hc hp) ?_
 rintro v1 w1 (hg1 : Good _ s (os)) hax1 rfl
 refine ⟨trivial, ?_⟩
 refine RL.pu ?_
 refine RL.pd ?_
 refine CW.ret (ret (vs := [_]) ⟨_, _, rfl, rfl, rfl⟩ ?_)
 exact PostV.mk hg1 hax1 (congrArg Value.bool (idxP_any q xs))
theorem strange_a {t : Int} {e : Entry} (h1 : t < e.term) : Node.strange t e = true := by simp [Node.strange, h1]
theorem strange_b {t : Int} {e : Entry} (h1 : ¬ t < e.term) (h2 : e.kind = 3) : Node.strange t e = (checkP e.conf != 0) := by
 simp only [Node.strange, decide_eq_false h1, Bool.false_or, h2, decide_true, Bool.true_and]
 rw [Bool.eq_iff_iff]; simp
theorem strange_c {t : Int} {e : Entry} (h1 : ¬ t < e.term) (h2 : ¬ e.kind = 3) : Node.strange t e = false := by
 simp only [Node.strange, decide_eq_false h1, Bool.false_or, decide_eq_false h2, Bool.false_and]
set_option maxRecDepth 100000 in
theorem strange_ct {e : Entry} {vs : List Value} (hg : Good w s (A :: os)) (nd : Nd s A p h n) (hE : REntry s vs e) (he : e.small) :
  Calls Tryz.prog 134 #[ptr p, .agg vs.toArray] w (PostV w s (A :: os) fun v => v = .bool (Node.strange n.s.hard.term e)) := by
 obtain ⟨ea, ec, ea1, ec1, ea2, ec2, rfl, er1, er2, er3, eh1, eh2, eh3⟩ := hE
 have hC : RConf s [.slice ea1 e.conf.voters.length ec1, .slice ea2 e.conf.learners.length ec2] e.conf := ⟨_, _, _, _, rfl, eh2, eh3⟩
 refine enter (l := [ptr p, .agg #[u64 e.index, u64 e.term, i64 e.kind, .slice ea e.data.length ec, .slice ea1 e.conf.voters.length ec1, .slice ea2 e.conf.learners.length ec2]]) Tryz.func134 rfl Tryz.ntmps134 rfl ?_
 refine CW.seq (CW.plain ?_)
 refine RL.boxN rfl rfl rfl rfl rfl hg ?_
 rintro b2 w2 Q2 (hg2 : Good _ s (Q2 :: A :: os)) hax2 hb2
 refine ⟨trivial, ?_⟩
 refine RL.pd ?_
 refine CW.seq ?_
 have hg3 := hg2.drew
 refine CW.draws [(true, 0), (true, 1), (true, 2), (true, 3), (true, 4), (true, 5), (true, 6), (true, 7), (true, 8), (true, 9), (true, 10), (true, 11), (true, 12), (true, 13), (true, 14), (true, 15), (false, 16), (true, 17), (true, 18), (true, 19), (false, 20)] (fun w => At1 b2 _ w ∧ At1 p _ w ∧ True) mixed (by kernel_rfl) (by kernel_rfl) (by kernel_rfl) (by kernel_rfl) (⟨hg3.at1 (by simp) hb2, hg3.at1 (by simp) nd.cells, trivial⟩) ?_
 refine RL.fi fl65_1 ?_
 refine RL.loadT (ad := ⟨b2, 0, none⟩) (j := 1) rfl rfl rfl rfl ty22 rfl (At1.holds) (fun w h => h.1.inn) rfl ?_
 refine RL.pp ?_
 refine RL.fi fl109_0 ?_
 refine RL.fi fl44_1 ?_
 refine RL.fi fl24_0 ?_
 refine RL.loadT (ad := ⟨p, 0, none⟩) (j := 1) rfl rfl rfl rfl ty22 rfl (At1.holds) (fun w h => h.2.1.inn) rfl ?_
 refine RL.pp ?_
 refine RL.part 14 rfl (fun h14 => ?_) (fun h14 => ?_)
 ·
  refine RL.qq ?_
  refine RL.qq ?_
  refine RL.qq ?_
  refine RL.qq ?_
  refine RL.pa ?_
  refine RL.pu ?_
  refine RL.pd ?_
  refine CW.ret (ret (vs := [_]) ⟨_, _, rfl, rfl, rfl⟩ ?_)
  exact PostV.mk ((hg3.front 1 rfl).dropNext) (hax2.trans (Aux.drew _)) (congrArg Value.bool (strange_a (decide_t h14)).symm)
 ·
  refine RL.fi fl65_2 ?_
  refine RL.loadT (ad := ⟨b2, 0, none⟩) (j := 2) rfl rfl rfl rfl ty63 rfl (At1.holds) (fun w h => h.1.inn) rfl ?_
  refine RL.pp ?_
  refine RL.part 18 rfl (fun h18 => ?_) (fun h18 => ?_)
  ·
   refine RL.fi fl65_4 ?_
   refine RL.loadsT (ad := ⟨b2, 0, none⟩) (j := 4) rfl rfl rfl rfl ty27 rfl (At1.holds) (fun w h => h.1.inn) rfl rfl ?_
   refine RL.callV rfl rfl rfl rfl rfl ca60 (Calls.val (Ψ := fun v => v = i64 (checkP e.conf)) (Check_ct hg3 hC he.2.fits)) ?_
   rintro v4 w4 (hg4 : Good _ s (Q2 :: A :: os)) hax4 rfl
   refine ⟨⟨hg4.at1 (by simp) hb2, hg4.at1 (by simp) nd.cells, trivial⟩, ?_⟩
   refine RL.pp ?_
   refine RL.pu ?_
   refine RL.pd ?_
   refine CW.ret (ret (vs := [_]) ⟨_, _, rfl, rfl, rfl⟩ ?_)
   exact PostV.mk ((hg4.front 1 rfl).dropNext) (hax2.trans ((Aux.drew _).trans hax4)) (congrArg Value.bool (strange_b (decide_f h14) (by simpa using h18)).symm)
  ·
   refine RL.qq ?_
   refine RL.qq ?_
   refine RL.pp ?_
   refine RL.pd ?_
   refine CW.ret (ret (vs := [_]) ⟨_, _, rfl, rfl, rfl⟩ ?_)
   exact PostV.mk ((hg3.front 1 rfl).dropNext) (hax2.trans (Aux.drew _)) (congrArg Value.bool (strange_c (decide_f h14) (by simpa using h18)).symm)
theorem NRest.putLog {L : Log} {hL : Hd} (k : NRest s A h n) (hl : LogOwn A s L hL) (hd : Dj hL.ea h.oa) : NRest s A { h with va := hL.va, vc := hL.vc, la := hL.la, lc := hL.lc, da := hL.da, dc := hL.dc, ea := hL.ea, ec := hL.ec } (n.wLog L) :=
 let ⟨_, _, _, _, e, f, g, i, j, _⟩ := k
 ⟨hl.voters, hl.learners, hl.data, hl.entries, e, f, g, i, j, hd⟩
theorem NRest.putOuts {l : List Entry} {a : Option Addr} {c : Nat} (k : NRest s A h n) (ho : Own REntry 6 65 s A a c l) (hd : Dj h.ea a) : NRest s A { h with oa := a, oc := c } (n.wOuts l) :=
 let ⟨a', b, c', d, e, f, g, _, j, _⟩ := k
 ⟨a', b, c', d, e, f, g, ho, j, hd⟩
theorem LogOwn_apart {X : Res} {L : Log} {hL : Hd} {l : List Entry} {a : Option Addr} {c : Nat} (hg : Good w s (X :: os)) (hl : LogOwn X s L hL) (ho : Own REntry 6 65 s X a c l) (hd : Dj hL.ea a) :
  ∃ X1 X2, Good w s (X1 :: X2 :: os) ∧ LogOwn X1 s L hL ∧ Own REntry 6 65 s X2 a c l := by
 rcases ho with ⟨h1, h2, h3⟩ | ⟨g, cs, hpa, hA, h4, h5, h6, h7⟩
 ·
  exact ⟨X, Res.nil, hg.nil.front 1 rfl, hl, .inl ⟨h1, h2, h3⟩⟩
 ·
  have hk : ∀ k, X k ≠ none → (∀ ad, a = some ad → ad.block ≠ k) → (fun b => if b = g then none else X b) k = X k := fun k _ hk => by
   have : k ≠ g := fun e => hk _ hpa e.symm
   simp [this]
  exact ⟨_, _, Good.split hg hA, ⟨hl.index, hl.term, hl.voters, hl.learners, hl.data, hl.entries.kept hd.symm hk⟩, .inr ⟨g, cs, hpa, if_pos rfl, h4, h5, h6, h7⟩⟩
def Node.calm (n : Node) (frm : Int) : Node := (n.follow n.s.hard.term frm).wElapsed 0
theorem grow_lead {m : Msg} (h0 : n.s.role = 4) : n.grow m = n := by unfold Node.grow; rw [if_pos h0]
theorem grow_old {m : Msg} (h0 : n.s.role ≠ 4) (h1 : m.index < (n.calm m.frm).s.hard.commit) : n.grow m = (n.calm m.frm).post { Msg.zero with kind := 6, to := m.frm, index := (n.calm m.frm).s.hard.commit } := by
 unfold Node.grow; rw [if_neg h0]; exact if_pos h1
theorem grow_bad {m : Msg} {G : Merged} (h0 : n.s.role ≠ 4) (h1 : ¬ m.index < (n.calm m.frm).s.hard.commit) (hG : mergeP (n.calm m.frm).s.log (n.calm m.frm).s.hard.commit m.index m.logTerm m.entries = G)
  (h2 : G.err = 1 ∨ G.err = 62 ∨ m.entries.any (Node.strange (n.calm m.frm).s.hard.term) = true) : n.grow m = n.calm m.frm := by
 subst hG; unfold Node.grow; rw [if_neg h0]; exact (if_neg h1).trans (if_pos h2)
theorem grow_gap {m : Msg} {G : Merged} (h0 : n.s.role ≠ 4) (h1 : ¬ m.index < (n.calm m.frm).s.hard.commit) (hG : mergeP (n.calm m.frm).s.log (n.calm m.frm).s.hard.commit m.index m.logTerm m.entries = G)
  (h2 : ¬ (G.err = 1 ∨ G.err = 62 ∨ m.entries.any (Node.strange (n.calm m.frm).s.hard.term) = true)) (h3 : G.err = 61) : n.grow m = (n.calm m.frm).post { Msg.zero with kind := 6, to := m.frm, index := m.index, reject := true, hint := min (n.calm m.frm).last (max m.index 1 - 1) } := by
 subst hG; unfold Node.grow; rw [if_neg h0]; exact ((if_neg h1).trans (if_neg h2)).trans (if_pos h3)
theorem grow_ok {m : Msg} {G : Merged} (h0 : n.s.role ≠ 4) (h1 : ¬ m.index < (n.calm m.frm).s.hard.commit) (hG : mergeP (n.calm m.frm).s.log (n.calm m.frm).s.hard.commit m.index m.logTerm m.entries = G)
  (h2 : ¬ (G.err = 1 ∨ G.err = 62 ∨ m.entries.any (Node.strange (n.calm m.frm).s.hard.term) = true)) (h3 : ¬ G.err = 61) :
  n.grow m = (((((n.calm m.frm).wLog G.log).wCut G.cut).wOuts G.came).wCommit (max (n.calm m.frm).s.hard.commit (min m.commit (m.index + m.entries.length)))).post { Msg.zero with kind := 6, to := m.frm, index := m.index + m.entries.length } := by
 subst hG; unfold Node.grow; rw [if_neg h0]; exact ((if_neg h1).trans (if_neg h2)).trans (if_neg h3)
set_option maxRecDepth 100000 in
set_option maxHeartbeats 4000000 in
theorem grow_ct {m : Msg} {y : Lay} (hg : Good w s (A :: os)) (nd : Nd s A p h n) (hR : NRng n) (hr : n.roomy) (hm : MsgOk s m y) (hms : m.small) (hmi : m.index < p61) (hml : n.s.log.entries.length + m.entries.length ≤ 1099511627776) :
  Calls Tryz.prog 108 #[ptr p, .agg (msgV m y).toArray] w (NPost w s os p (.tuple #[]) (n.grow m)) := by
 obtain ⟨hS, h1, h2, h3, h4⟩ := hr
 have hmi0 := hm.index
 simp only [rng] at hmi0
 simp only [p61] at hmi
 have hml0 := hms.2.1
 have hRq : NRng (n.calm m.frm) := hR.follow (term := n.s.hard.term) (leader := m.frm) hR.2.1
 have hRc : ∀ x, rng .u64 x → NRng ((n.calm m.frm).wCommit x) := fun x hx => hRq.of rfl hRq.2.1 hRq.2.2.1 hx rfl
 have hRz : ∀ (z : Node), z.s.id = (n.calm m.frm).s.id → rng .u64 z.s.hard.term → rng .i64 z.s.hard.vote → rng .u64 z.s.hard.commit → rng .u64 z.s.log.base.index → rng .u64 z.s.log.base.term → NRng z := fun z e1 e2 e3 e4 e5 e6 => ⟨by rw [e1]; exact hRq.1, e2, e3, e4, e5, e6⟩
 have hSq : (n.calm m.frm).s.log.small := hS
 have hcr : rng .u64 (max (n.calm m.frm).s.hard.commit (min m.commit (m.index + m.entries.length))) := by
  have h5 := hRq.2.2.2.1
  have h6 := hm.commit
  generalize (n.calm m.frm).s.hard.commit = z at h5 ⊢
  simp only [rng] at h5 h6 ⊢
  rw [Int.min_def, Int.max_def]
  split <;> split <;> omega
 have hgapr : rng .u64 (min (n.calm m.frm).last (max m.index 1 - 1)) := by
  have hl0 : rng .u64 (n.calm m.frm).last := (nd.at_ hR).last_rng.1
  generalize (n.calm m.frm).last = z at hl0 ⊢
  simp only [rng] at hl0 ⊢
  rw [Int.min_def, Int.max_def]
  split <;> split <;> omega
 have hmq : (n.calm m.frm).o.msgs.length ≤ 34359738368 := h3
 have hlq : (n.calm m.frm).s.log.entries.length + m.entries.length ≤ 1099511627776 := hml
 refine enter (l := [ptr p, .agg (msgV m y).toArray]) Tryz.func108 rfl Tryz.ntmps108 rfl ?_
 refine CW.seq (CW.plain ?_)
 refine RL.boxN rfl rfl rfl rfl rfl hg ?_
 rintro b5 w5 Q5 (hg5 : Good _ s (Q5 :: A :: os)) hax5 hb5
 refine ⟨trivial, ?_⟩
 refine RL.done ?_
 refine CW.seq ?_
 refine CW.seq (CW.plain ?_)
 refine RL.pp ?_
 refine RL.fi fl109_0 ?_
 refine RL.fi fl44_3 ?_
 refine RL.lo 10 ty38 nd.cells hg5 ?_
 refine RL.pd ?_
 refine CW.cond rfl (fun h14 => ?_) (fun h14 => ?_)
 ·
  refine CW.ret (ret (vs := []) rfl ?_)
  exact Post.mk (Le.refl _) ((hg5.front 1 rfl).dropNext) hax5 ⟨rfl, _, nd.to (grow_lead (by simpa using h14)).symm⟩
 ·
  have hr4 : n.s.role ≠ 4 := by simpa using h14
  refine CW.skip ?_
  refine CW.seq ?_
  have hg6 := hg5.drew
  refine CW.draws2 [(true, 0), (true, 1), (true, 2), (true, 3), (true, 4), (true, 5), (true, 6), (true, 7), (true, 8)] [(false, 9)] 9 #[true, true, true, true, true, true, true, true, true, false] (fun w => At1 p _ w ∧ At1 b5 _ w ∧ True) mixed (by kernel_rfl) (by kernel_rfl) (by kernel_rfl) (by kernel_rfl) (by kernel_rfl) (⟨hg6.at1 (by simp) nd.cells, hg6.at1 (by simp) hb5, trivial⟩) ?_
  refine RL.pp ?_
  refine RL.pu ?_
  refine RL.fi fl109_0 ?_
  refine RL.fi fl44_1 ?_
  refine RL.fi fl24_0 ?_
  refine RL.loadT (ad := ⟨p, 0, none⟩) (j := 1) rfl rfl rfl rfl ty22 rfl (At1.holds) (fun w h => h.1.inn) rfl ?_
  refine RL.fi fl56_1 ?_
  refine RL.loadT (ad := ⟨b5, 0, none⟩) (j := 1) rfl rfl rfl rfl ty3 rfl (At1.holds) (fun w h => h.2.1.inn) rfl ?_
  refine RL.done ?_
  refine RL.next trivial ?_
  refine RL.call rfl rfl rfl rfl rfl ca73 (follow_ct (hg6.front 1 rfl) nd) ?_
  rintro v7 s7 A7 w7 hle7 (hg7 : Good _ s7 (A7 :: Q5 :: os)) hax7 ⟨rfl, h7, nd7⟩
  have hm := hm.up hle7
  refine ⟨trivial, ?_⟩
  refine RL.done ?_
  refine CW.seq (CW.plain ?_)
  refine RL.pp ?_
  refine RL.fi fl109_0 ?_
  refine RL.fi fl44_7 ?_
  refine RL.storeI (p := p) (i := 0) (j := 14) rfl rfl rfl ty3 rfl rfl hg7 rfl (nd7.cells) (NRest.wElapsed nd7.rest) rfl (Nat.le_of_ble_eq_true rfl) rfl ?_
  rintro w8 A8 (hg8 : Good _ s7 (A8 :: Q5 :: os)) hax8 nd8
  refine ⟨trivial, ?_⟩
  refine RL.done ?_
  refine CW.seq ?_
  have hg9 := hg8.drew
  refine CW.draws [(true, 0), (true, 1), (true, 2), (true, 3), (true, 4), (true, 5), (true, 6), (true, 7), (true, 8), (false, 9), (false, 10)] (fun w => At1 b5 _ w ∧ At1 p _ w ∧ True) mixed (by kernel_rfl) (by kernel_rfl) (by kernel_rfl) (by kernel_rfl) (⟨hg9.at1 (by simp) hb5, hg9.at1 (by simp) nd8.cells, trivial⟩) ?_
  have nq := nd8.to (show _ = n.calm m.frm from rfl)
  refine RL.fi fl56_1 ?_
  refine RL.loadT (ad := ⟨b5, 0, none⟩) (j := 1) rfl rfl rfl rfl ty3 rfl (At1.holds) (fun w h => h.1.inn) rfl ?_
  refine RL.pp ?_
  refine RL.fi fl109_0 ?_
  refine RL.fi fl44_1 ?_
  refine RL.fi fl24_2 ?_
  refine RL.loadT (ad := ⟨p, 0, none⟩) (j := 3) rfl rfl rfl rfl ty22 rfl (At1.holds) (fun w h => h.2.1.inn) rfl ?_
  refine RL.build rfl rfl rfl rfl ze56 pl56 rfl rfl ?_
  refine RL.allocN rfl rfl rfl rfl ze56 hg9 ?_
  rintro b10 w10 Q10 (hg10 : Good _ s7 (Q10 :: A8 :: Q5 :: os)) hax10 hb10
  refine ⟨⟨hg10.at1 (by simp) hb5, hg10.at1 (by simp) nq.cells, trivial⟩, ?_⟩
  refine RL.sB (b := b10) (i := 0) (j := 0) rfl rfl rfl ty56 rfl rfl hg10 rfl (hb10) rfl rfl ?_
  rintro w11 Q11 (hg11 : Good _ s7 (Q11 :: A8 :: Q5 :: os)) hax11 hb11
  refine ⟨⟨hg11.at1 (by simp) hb5, hg11.at1 (by simp) nq.cells, trivial⟩, ?_⟩
  refine RL.done ?_
  refine CW.seq ?_
  refine CW.seq ?_
  have hg12 := hg11.drew
  refine CW.draws [(true, 0), (true, 1), (true, 2), (true, 3), (true, 4), (true, 5), (true, 6), (true, 7), (true, 8)] (fun w => At1 b5 _ w ∧ At1 p _ w ∧ True) mixed (by kernel_rfl) (by kernel_rfl) (by kernel_rfl) (by kernel_rfl) (⟨hg12.at1 (by simp) hb5, hg12.at1 (by simp) nq.cells, trivial⟩) ?_
  refine RL.fi fl56_4 ?_
  refine RL.loadT (ad := ⟨b5, 0, none⟩) (j := 4) rfl rfl rfl rfl ty22 rfl (At1.holds) (fun w h => h.1.inn) rfl ?_
  refine RL.pp ?_
  refine RL.fi fl109_0 ?_
  refine RL.fi fl44_1 ?_
  refine RL.fi fl24_2 ?_
  refine RL.loadT (ad := ⟨p, 0, none⟩) (j := 3) rfl rfl rfl rfl ty22 rfl (At1.holds) (fun w h => h.2.1.inn) rfl ?_
  refine RL.pd ?_
  refine CW.cond rfl (fun h46 => ?_) (fun h46 => ?_)
  ·
   refine CW.seq (CW.plain ?_)
   refine RL.pu ?_
   refine RL.ls 0 ty56 hb11 hg12 ?_
   refine RL.call rfl rfl rfl rfl rfl ca113 (post_ct (m := { Msg.zero with kind := 6, to := m.frm, index := (n.calm m.frm).s.hard.commit }) (y := Lay.none) (hg12.front 1 rfl) nq hRq { MsgOk.zero _ with kind := by simp [rng], to := hm.frm, index := hRq.2.2.2.1 } (by omega)) ?_
   rintro v13 s13 A13 w13 hle13 (hg13 : Good _ s13 (A13 :: Q11 :: Q5 :: os)) hax13 ⟨rfl, ma13, mc13, nd13⟩
   have hm := hm.up hle13
   refine ⟨trivial, ?_⟩
   refine RL.done ?_
   refine CW.ret (ret (vs := []) rfl ?_)
   exact Post.mk (hle7.trans hle13) ((hg13.dropNext).dropNext) (hax5.trans ((Aux.drew _).trans (hax7.trans (hax8.trans ((Aux.drew _).trans (hax10.trans (hax11.trans ((Aux.drew _).trans hax13)))))))) ⟨rfl, _, nd13.to (grow_old hr4 (decide_t h46)).symm⟩
  ·
   have hnl := decide_f h46
   refine CW.skip ?_
   refine CW.seq ?_
   have hg14 := hg12.drew
   refine CW.forks (.fork [(true, 0), (true, 1), (true, 2), (true, 3), (true, 4), (true, 5), (true, 6), (true, 7), (true, 8), (true, 9), (true, 10), (true, 11), (true, 12), (true, 13), (true, 14), (true, 15), (true, 16)] (.line [(false, 17), (true, 18), (true, 19), (true, 20), (true, 21), (true, 22), (false, 23), (false, 24), (false, 25), (false, 26), (false, 27)]) (.line [(false, 23), (false, 17), (true, 18), (true, 19), (true, 20), (true, 21), (true, 22), (false, 24), (false, 25), (false, 26), (false, 27)])) (fun w => At1 p _ w ∧ At1 b5 _ w ∧ True) mixed (by kernel_rfl) (by kernel_rfl) (by kernel_rfl) (by kernel_rfl) (⟨hg14.at1 (by simp) nq.cells, hg14.at1 (by simp) hb5, trivial⟩) ?_
   refine RT.pre (S := fun w => At1 p _ w ∧ At1 b5 _ w ∧ True) (⟨hg14.at1 (by simp) nq.cells, hg14.at1 (by simp) hb5, trivial⟩) ?_
   refine RL.pp ?_
   refine RL.fi fl109_0 ?_
   refine RL.fi fl44_2 ?_
   refine RL.loadsT (ad := ⟨p, 0, none⟩) (j := 4) rfl rfl rfl rfl ty33 rfl (At1.holds) (fun w h => h.1.inn) rfl rfl ?_
   refine RL.pp ?_
   refine RL.fi fl109_0 ?_
   refine RL.fi fl44_1 ?_
   refine RL.fi fl24_2 ?_
   refine RL.loadT (ad := ⟨p, 0, none⟩) (j := 3) rfl rfl rfl rfl ty22 rfl (At1.holds) (fun w h => h.1.inn) rfl ?_
   refine RL.fi fl56_4 ?_
   refine RL.loadT (ad := ⟨b5, 0, none⟩) (j := 4) rfl rfl rfl rfl ty22 rfl (At1.holds) (fun w h => h.2.1.inn) rfl ?_
   refine RL.fi fl56_5 ?_
   refine RL.loadT (ad := ⟨b5, 0, none⟩) (j := 5) rfl rfl rfl rfl ty22 rfl (At1.holds) (fun w h => h.2.1.inn) rfl ?_
   refine RL.fi fl56_6 ?_
   refine RL.loadT (ad := ⟨b5, 0, none⟩) (j := 6) rfl rfl rfl rfl ty31 rfl (At1.holds) (fun w h => h.2.1.inn) rfl ?_
   refine RL.done ?_
   refine RT.both (S := fun w => At1 p _ w ∧ At1 b5 _ w ∧ True) (⟨hg14.at1 (by simp) nq.cells, hg14.at1 (by simp) hb5, trivial⟩) (RT.end_ (S := fun w => At1 p _ w ∧ At1 b5 _ w ∧ True) (⟨hg14.at1 (by simp) nq.cells, hg14.at1 (by simp) hb5, trivial⟩) ?_) (RT.end_ (S := fun w => At1 p _ w ∧ At1 b5 _ w ∧ True) (⟨hg14.at1 (by simp) nq.cells, hg14.at1 (by simp) hb5, trivial⟩) ?_)
   ·
    refine RL.call rfl rfl rfl rfl rfl ca132 (Merge_ct hg14 (.inr (by simp)) (nq.at_ hRq) hSq hm.entries hms.1 hlq hm.index hm.logTerm) ?_
    rintro v15 s15 Q15 w15 hle15 (hg15 : Good _ s15 (Q15 :: Q11 :: A8 :: Q5 :: os)) hax15 ⟨hX, aX, cX, rfl, hoL, hoC, hdj⟩
    have nd16 := nq.up hle15
    have hm := hm.up hle15
    generalize hG : mergeP (n.calm m.frm).s.log (n.calm m.frm).s.hard.commit m.index m.logTerm m.entries = G at hoL hoC ⊢
    refine ⟨⟨hg15.at1 (by simp) nd16.cells, hg15.at1 (by simp) hb5, trivial⟩, ?_⟩
    refine RL.pp ?_
    refine RL.pp ?_
    refine RL.pu ?_
    refine RL.allocN rfl rfl rfl rfl ze33 hg15 ?_
    rintro b17 w17 Q17 (hg17 : Good _ s15 (Q17 :: Q15 :: Q11 :: A8 :: Q5 :: os)) hax17 hb17
    refine ⟨⟨hg17.at1 (by simp) nd16.cells, hg17.at1 (by simp) hb5, trivial⟩, ?_⟩
    refine RL.sB (b := b17) (i := 0) (j := 0) rfl rfl rfl ty33 rfl rfl hg17 rfl (hb17) rfl rfl ?_
    rintro w18 Q18 (hg18 : Good _ s15 (Q18 :: Q15 :: Q11 :: A8 :: Q5 :: os)) hax18 hb18
    refine ⟨⟨hg18.at1 (by simp) nd16.cells, hg18.at1 (by simp) hb5, trivial⟩, ?_⟩
    refine RL.pp ?_
    refine RL.pd ?_
    refine CW.seq ?_
    refine CW.seq (CW.plain ?_)
    refine RL.pp ?_
    refine RL.pu ?_
    refine RL.part 75 rfl (fun h75 => ?_) (fun h75 => ?_)
    ·
     refine RL.qq ?_
     refine RL.pp ?_
     refine RL.qq ?_
     refine RL.qq ?_
     refine RL.pa ?_
     refine RL.pd ?_
     refine CW.yes (by first | rfl | exact congrArg (fun b => some (Value.bool b)) (by assumption)) ?_
     refine CW.ret (ret (vs := []) rfl ?_)
     exact Post.mk (hle7.trans hle15) (((((hg18.front 3 rfl).dropNext).dropNext).dropNext).dropNext) (hax5.trans ((Aux.drew _).trans (hax7.trans (hax8.trans ((Aux.drew _).trans (hax10.trans (hax11.trans ((Aux.drew _).trans ((Aux.drew _).trans (hax15.trans (hax17.trans hax18))))))))))) ⟨rfl, _, nd16.to (grow_bad hr4 hnl hG (.inl (by simpa using h75))).symm⟩
    ·
     refine RL.pp ?_
     refine RL.pp ?_
     refine RL.part 79 rfl (fun h79 => ?_) (fun h79 => ?_)
     ·
      refine RL.qq ?_
      refine RL.qq ?_
      refine RL.pa ?_
      refine RL.pd ?_
      refine CW.yes (by first | rfl | exact congrArg (fun b => some (Value.bool b)) (by assumption)) ?_
      refine CW.ret (ret (vs := []) rfl ?_)
      exact Post.mk (hle7.trans hle15) (((((hg18.front 3 rfl).dropNext).dropNext).dropNext).dropNext) (hax5.trans ((Aux.drew _).trans (hax7.trans (hax8.trans ((Aux.drew _).trans (hax10.trans (hax11.trans ((Aux.drew _).trans ((Aux.drew _).trans (hax15.trans (hax17.trans hax18))))))))))) ⟨rfl, _, nd16.to (grow_bad hr4 hnl hG (.inr (.inl (by simpa using h79)))).symm⟩
     ·
      refine RL.fi fl56_6 ?_
      refine RL.lo 6 ty31 hb5 hg18 ?_
      refine RL.pu ?_
      refine RL.makeB rfl rfl rfl rfl rfl rfl ?_
      refine RL.callV rfl rfl rfl rfl rfl ca133 (ContainsEB_ct (q := Node.strange (n.calm m.frm).s.hard.term) (bnd := #[ptr p]) (cap := #[]) (hg18.front 3 rfl) (.inl rfl) (show Lies REntry 6 _ _ y.ea y.ec m.entries from hm.entries) rfl (fun x hx vs hE w' hg' => strange_ct hg' nd16 hE (hms.1 x hx))) ?_
      rintro v19 w19 (hg19 : Good _ s15 (A8 :: Q18 :: Q15 :: Q11 :: Q5 :: os)) hax19 rfl
      refine ⟨trivial, ?_⟩
      refine RL.pd ?_
      refine CW.cond rfl (fun h85 => ?_) (fun h85 => ?_)
      ·
       refine CW.ret (ret (vs := []) rfl ?_)
       exact Post.mk (hle7.trans hle15) ((((hg19.dropNext).dropNext).dropNext).dropNext) (hax5.trans ((Aux.drew _).trans (hax7.trans (hax8.trans ((Aux.drew _).trans (hax10.trans (hax11.trans ((Aux.drew _).trans ((Aux.drew _).trans (hax15.trans (hax17.trans (hax18.trans hax19)))))))))))) ⟨rfl, _, nd16.to (grow_bad hr4 hnl hG (.inr (.inr h85))).symm⟩
      ·
       have hnb : ¬ (G.err = 1 ∨ G.err = 62 ∨ m.entries.any (Node.strange (n.calm m.frm).s.hard.term) = true) := fun z => z.elim (fun z => by simp [z] at h75) (fun z => z.elim (fun z => by simp [z] at h79) (fun z => by rw [h85] at z; cases z))
       refine CW.skip ?_
       refine CW.seq ?_
       refine CW.seq (CW.plain ?_)
       refine RL.pu ?_
       refine RL.pd ?_
       refine CW.cond rfl (fun h87 => ?_) (fun h87 => ?_)
       ·
        refine CW.seq ?_
        have hg20 := hg19.drew
        refine CW.draws [(true, 0), (true, 1), (true, 2), (true, 4), (true, 5), (true, 6), (true, 7), (true, 9), (false, 3), (true, 8), (false, 10), (true, 11), (false, 12), (true, 13), (false, 14)] (fun w => At1 b5 _ w ∧ True) mixed (by kernel_rfl) (by kernel_rfl) (by kernel_rfl) (by kernel_rfl) (⟨hg20.at1 (by simp) hb5, trivial⟩) ?_
        refine RL.fi fl56_4 ?_
        refine RL.loadT (ad := ⟨b5, 0, none⟩) (j := 4) rfl rfl rfl rfl ty22 rfl (At1.holds) (fun w h => h.1.inn) rfl ?_
        refine RL.pu ?_
        refine RL.fi fl56_4 ?_
        refine RL.loadT (ad := ⟨b5, 0, none⟩) (j := 4) rfl rfl rfl rfl ty22 rfl (At1.holds) (fun w h => h.1.inn) rfl ?_
        refine RL.max rfl rfl rfl rfl rfl rfl ?_
        rw [one_most]
        refine RL.sub rfl rfl rfl rfl rfl rfl (by simp only [rng] at *; omega) ?_
        refine RL.fi fl56_8 ?_
        refine RL.callV rfl rfl rfl rfl rfl ca77 (last_ct hg20 nd16 hRq) ?_
        rintro v21 w21 (hg21 : Good _ s15 (A8 :: Q18 :: Q15 :: Q11 :: Q5 :: os)) hax21 rfl
        refine ⟨⟨hg21.at1 (by simp) hb5, trivial⟩, ?_⟩
        refine RL.min rfl rfl rfl rfl rfl rfl ?_
        rw [min_if]
        refine RL.sB (b := b10) (i := 3) (j := 8) rfl rfl rfl ty4 rfl rfl hg21 rfl (hb11) rfl rfl ?_
        rintro w22 Q22 (hg22 : Good _ s15 (A8 :: Q18 :: Q15 :: Q22 :: Q5 :: os)) hax22 hb22
        refine ⟨⟨hg22.at1 (by simp) hb5, trivial⟩, ?_⟩
        refine RL.fi fl56_4 ?_
        refine RL.sB (b := b10) (i := 3) (j := 4) rfl rfl rfl ty22 rfl rfl hg22 rfl (hb22) rfl rfl ?_
        rintro w23 Q23 (hg23 : Good _ s15 (A8 :: Q18 :: Q15 :: Q23 :: Q5 :: os)) hax23 hb23
        refine ⟨⟨hg23.at1 (by simp) hb5, trivial⟩, ?_⟩
        refine RL.fi fl56_9 ?_
        refine RL.sB (b := b10) (i := 3) (j := 9) rfl rfl rfl ty22 rfl rfl hg23 rfl (hb23) rfl rfl ?_
        rintro w24 Q24 (hg24 : Good _ s15 (A8 :: Q18 :: Q15 :: Q24 :: Q5 :: os)) hax24 hb24
        refine ⟨⟨hg24.at1 (by simp) hb5, trivial⟩, ?_⟩
        refine RL.done ?_
        refine CW.seq (CW.plain ?_)
        refine RL.pu ?_
        refine RL.ls 0 ty56 hb24 hg24 ?_
        refine RL.call rfl rfl rfl rfl rfl ca113 (post_ct (m := { Msg.zero with kind := 6, to := m.frm, index := m.index, reject := true, hint := min (n.calm m.frm).last (max m.index 1 - 1) }) (y := Lay.none) hg24 nd16 hRq { MsgOk.zero _ with kind := by simp [rng], to := hm.frm, index := hm.index, hint := hgapr } (by omega)) ?_
        rintro v25 s25 A25 w25 hle25 (hg25 : Good _ s25 (A25 :: Q18 :: Q15 :: Q24 :: Q5 :: os)) hax25 ⟨rfl, ma25, mc25, nd25⟩
        have hm := hm.up hle25
        refine ⟨trivial, ?_⟩
        refine RL.done ?_
        refine CW.ret (ret (vs := []) rfl ?_)
        exact Post.mk (hle7.trans (hle15.trans hle25)) ((((hg25.dropNext).dropNext).dropNext).dropNext) (hax5.trans ((Aux.drew _).trans (hax7.trans (hax8.trans ((Aux.drew _).trans (hax10.trans (hax11.trans ((Aux.drew _).trans ((Aux.drew _).trans (hax15.trans (hax17.trans (hax18.trans (hax19.trans ((Aux.drew _).trans (hax21.trans (hax22.trans (hax23.trans (hax24.trans hax25)))))))))))))))))) ⟨rfl, _, nd25.to (grow_gap hr4 hnl hG hnb (by simpa using h87)).symm⟩
       ·
        refine CW.skip ?_
        refine CW.seq (CW.plain ?_)
        obtain ⟨X1, X2, hK0, hoL1, hoC2⟩ := LogOwn_apart (((((hg19.front 1 rfl).front 3 rfl).front 4 rfl).front 3 rfl).front 4 rfl) hoL hoC hdj
        have hK := hK0.front 2 rfl
        have hK := hK.front 1 rfl
        obtain ⟨AJ, hAJ⟩ : ∃ Z, Z = Res.join X1 A8 := ⟨_, rfl⟩
        have ndJ := nd16.mem (Res.le_join_right (r := X1) (Apart.of2 hK))
        have hoLJ := hoL1.mem (Res.le_join_left X1 A8)
        have hdL := Dj.apart hoL1.entries nd16.outs (Apart.of2 hK)
        have hgJ := hK.join
        rw [← hAJ] at ndJ hoLJ hgJ
        refine RL.pp ?_
        refine RL.pu ?_
        refine RL.ls 0 ty33 hb18 hgJ ?_
        refine RL.pp ?_
        refine RL.pu ?_
        refine RL.fi fl109_0 ?_
        refine RL.fi fl44_2 ?_
        refine RL.storeN (p := p) (i := 0) (j := 4) (h1 := _) (n1 := _) rfl rfl rfl ty33 rfl rfl hgJ rfl (ndJ.cells) (NRest.putLog ndJ.rest hoLJ hdL) rfl (by first | (simp [Value.cells, Value.oneCell']; done) | simp [Value.cells, Value.oneCell', putL]) (by first | exact Nat.le_of_ble_eq_true rfl | (simp; done) | (simp; omega) | omega) rfl ?_
        rintro w26 A26 (hg26 : Good _ s15 (A26 :: X2 :: Q5 :: Q11 :: Q18 :: os)) hax26 nd26
        refine ⟨trivial, ?_⟩
        refine RL.pu ?_
        refine RL.fi fl109_1 ?_
        refine RL.fi fl50_0 ?_
        refine RL.storeI (p := p) (i := 0) (j := 20) rfl rfl rfl ty22 rfl rfl hg26 rfl (nd26.cells) (NRest.wCut nd26.rest) rfl (Nat.le_of_ble_eq_true rfl) rfl ?_
        rintro w27 A27 (hg27 : Good _ s15 (A27 :: X2 :: Q5 :: Q11 :: Q18 :: os)) hax27 nd27
        refine ⟨trivial, ?_⟩
        have hK2 := hg27.front 1 rfl
        obtain ⟨AK, hAK⟩ : ∃ Z, Z = Res.join X2 A27 := ⟨_, rfl⟩
        have ndK := nd27.mem (Res.le_join_right (r := X2) (Apart.of2 hK2))
        have hoCK := hoC2.mem (Res.le_join_left X2 A27)
        have hgK := hK2.join
        rw [← hAK] at ndK hoCK hgK
        refine RL.pu ?_
        refine RL.fi fl109_1 ?_
        refine RL.fi fl50_1 ?_
        refine RL.storeN (p := p) (i := 0) (j := 21) (h1 := _) (n1 := _) rfl rfl rfl ty31 rfl rfl hgK rfl (ndK.cells) (NRest.putOuts ndK.rest hoCK hdj) rfl (by first | (simp [Value.cells, Value.oneCell']; done) | simp [Value.cells, Value.oneCell', putL]) (by first | exact Nat.le_of_ble_eq_true rfl | (simp; done) | (simp; omega) | omega) rfl ?_
        rintro w28 A28 (hg28 : Good _ s15 (A28 :: Q5 :: Q11 :: Q18 :: os)) hax28 nd28
        refine ⟨trivial, ?_⟩
        refine RL.done ?_
        refine CW.seq (CW.plain ?_)
        refine RL.fi fl56_4 ?_
        refine RL.lo 4 ty22 hb5 hg28 ?_
        refine RL.fi fl56_6 ?_
        refine RL.lo 6 ty31 hb5 hg28 ?_
        refine RL.len rfl rfl rfl rfl sl31 rfl ?_
        refine RL.conv rfl rfl rfl rfl Tryz.underlying3 Tryz.underlying22 rfl ((by simp only [rng]; omega)) ?_
        refine RL.add rfl rfl rfl rfl rfl rfl ((by simp only [rng]; omega)) ?_
        refine RL.fi fl56_4 ?_
        refine RL.sB (b := b10) (i := 2) (j := 4) rfl rfl rfl ty22 rfl rfl hg28 rfl (hb11) rfl rfl ?_
        rintro w29 Q29 (hg29 : Good _ s15 (A28 :: Q5 :: Q29 :: Q18 :: os)) hax29 hb29
        refine ⟨trivial, ?_⟩
        refine RL.done ?_
        refine CW.seq ?_
        have hg30 := hg29.drew
        refine CW.draws2 [(true, 0), (true, 1), (true, 2), (true, 3), (true, 4), (true, 5), (true, 6), (true, 7), (true, 8), (true, 9), (true, 10), (true, 11), (true, 12), (true, 13), (true, 14), (true, 15), (true, 16)] [(false, 17)] 17 #[true, true, true, true, true, true, true, true, true, true, true, true, true, true, true, true, true, false] (fun w => At1 p _ w ∧ At1 b5 _ w ∧ At1 b10 _ w ∧ True) mixed (by kernel_rfl) (by kernel_rfl) (by kernel_rfl) (by kernel_rfl) (by kernel_rfl) (⟨hg30.at1 (by simp) nd28.cells, hg30.at1 (by simp) hb5, hg30.at1 (by simp) hb29, trivial⟩) ?_
        refine RL.pp ?_
        refine RL.pu ?_
        refine RL.fi fl109_0 ?_
        refine RL.fi fl44_1 ?_
        refine RL.fi fl24_2 ?_
        refine RL.loadT (ad := ⟨p, 0, none⟩) (j := 3) rfl rfl rfl rfl ty22 rfl (At1.holds) (fun w h => h.1.inn) rfl ?_
        refine RL.fi fl56_7 ?_
        refine RL.loadT (ad := ⟨b5, 0, none⟩) (j := 7) rfl rfl rfl rfl ty22 rfl (At1.holds) (fun w h => h.2.1.inn) rfl ?_
        refine RL.fi fl56_4 ?_
        refine RL.loadT (ad := ⟨b10, 0, none⟩) (j := 4) rfl rfl rfl rfl ty22 rfl (At1.holds) (fun w h => h.2.2.1.inn) rfl ?_
        refine RL.min rfl rfl rfl rfl rfl rfl ?_
        rw [min_if]
        refine RL.max rfl rfl rfl rfl rfl rfl ?_
        rw [max_if]
        refine RL.pu ?_
        refine RL.fi fl109_0 ?_
        refine RL.fi fl44_1 ?_
        refine RL.fi fl24_2 ?_
        refine RL.done ?_
        refine RL.next trivial ?_
        refine RL.storeI (p := p) (i := 0) (j := 3) rfl rfl rfl ty22 rfl rfl hg30 rfl (nd28.cells) (NRest.wCommit nd28.rest) rfl (Nat.le_of_ble_eq_true rfl) rfl ?_
        rintro w31 A31 (hg31 : Good _ s15 (A31 :: Q5 :: Q29 :: Q18 :: os)) hax31 nd31
        refine ⟨trivial, ?_⟩
        refine RL.done ?_
        refine CW.plain ?_
        refine RL.pu ?_
        refine RL.ls 0 ty56 hb29 hg31 ?_
        refine RL.call rfl rfl rfl rfl rfl ca113 (post_ct (m := { Msg.zero with kind := 6, to := m.frm, index := m.index + m.entries.length }) (y := Lay.none) hg31 nd31 (hRz _ rfl hRq.2.1 hRq.2.2.1 hcr hoL.index hoL.term) { MsgOk.zero _ with kind := by simp [rng], to := hm.frm, index := by simp only [rng]; omega } (by show n.o.msgs.length ≤ _; omega)) ?_
        rintro v32 s32 A32 w32 hle32 (hg32 : Good _ s32 (A32 :: Q5 :: Q29 :: Q18 :: os)) hax32 ⟨rfl, ma32, mc32, nd32⟩
        have hm := hm.up hle32
        refine ⟨trivial, ?_⟩
        refine RL.done ?_
        refine fall (vs := []) rfl ?_
        exact Post.mk (hle7.trans (hle15.trans hle32)) (((hg32.dropNext).dropNext).dropNext) (hax5.trans ((Aux.drew _).trans (hax7.trans (hax8.trans ((Aux.drew _).trans (hax10.trans (hax11.trans ((Aux.drew _).trans ((Aux.drew _).trans (hax15.trans (hax17.trans (hax18.trans (hax19.trans (hax26.trans (hax27.trans (hax28.trans (hax29.trans ((Aux.drew _).trans (hax31.trans hax32))))))))))))))))))) ⟨rfl, _, nd32.to (grow_ok hr4 hnl hG hnb (by simpa using h87)).symm⟩
   ·
    refine RL.allocN rfl rfl rfl rfl ze33 hg14 ?_
    rintro b33 w33 Q33 (hg33 : Good _ s7 (Q33 :: Q11 :: A8 :: Q5 :: os)) hax33 hb33
    refine ⟨⟨hg33.at1 (by simp) nq.cells, hg33.at1 (by simp) hb5, trivial⟩, ?_⟩
    refine RL.call rfl rfl rfl rfl rfl ca132 (Merge_ct hg33 (.inr (by simp)) (nq.at_ hRq) hSq hm.entries hms.1 hlq hm.index hm.logTerm) ?_
    rintro v34 s34 Q34 w34 hle34 (hg34 : Good _ s34 (Q34 :: Q33 :: Q11 :: A8 :: Q5 :: os)) hax34 ⟨hX, aX, cX, rfl, hoL, hoC, hdj⟩
    have nd35 := nq.up hle34
    have hm := hm.up hle34
    generalize hG : mergeP (n.calm m.frm).s.log (n.calm m.frm).s.hard.commit m.index m.logTerm m.entries = G at hoL hoC ⊢
    refine ⟨⟨hg34.at1 (by simp) nd35.cells, hg34.at1 (by simp) hb5, trivial⟩, ?_⟩
    refine RL.pp ?_
    refine RL.pp ?_
    refine RL.pu ?_
    refine RL.sB (b := b33) (i := 1) (j := 0) rfl rfl rfl ty33 rfl rfl hg34 rfl (hb33) rfl rfl ?_
    rintro w36 Q36 (hg36 : Good _ s34 (Q34 :: Q36 :: Q11 :: A8 :: Q5 :: os)) hax36 hb36
    refine ⟨⟨hg36.at1 (by simp) nd35.cells, hg36.at1 (by simp) hb5, trivial⟩, ?_⟩
    refine RL.pp ?_
    refine RL.pd ?_
    refine CW.seq ?_
    refine CW.seq (CW.plain ?_)
    refine RL.pp ?_
    refine RL.pu ?_
    refine RL.part 75 rfl (fun h75 => ?_) (fun h75 => ?_)
    ·
     refine RL.qq ?_
     refine RL.pp ?_
     refine RL.qq ?_
     refine RL.qq ?_
     refine RL.pa ?_
     refine RL.pd ?_
     refine CW.yes (by first | rfl | exact congrArg (fun b => some (Value.bool b)) (by assumption)) ?_
     refine CW.ret (ret (vs := []) rfl ?_)
     exact Post.mk (hle7.trans hle34) (((((hg36.front 3 rfl).dropNext).dropNext).dropNext).dropNext) (hax5.trans ((Aux.drew _).trans (hax7.trans (hax8.trans ((Aux.drew _).trans (hax10.trans (hax11.trans ((Aux.drew _).trans ((Aux.drew _).trans (hax33.trans (hax34.trans hax36))))))))))) ⟨rfl, _, nd35.to (grow_bad hr4 hnl hG (.inl (by simpa using h75))).symm⟩
    ·
     refine RL.pp ?_
     refine RL.pp ?_
     refine RL.part 79 rfl (fun h79 => ?_) (fun h79 => ?_)
     ·
      refine RL.qq ?_
      refine RL.qq ?_
      refine RL.pa ?_
      refine RL.pd ?_
      refine CW.yes (by first | rfl | exact congrArg (fun b => some (Value.bool b)) (by assumption)) ?_
      refine CW.ret (ret (vs := []) rfl ?_)
      exact Post.mk (hle7.trans hle34) (((((hg36.front 3 rfl).dropNext).dropNext).dropNext).dropNext) (hax5.trans ((Aux.drew _).trans (hax7.trans (hax8.trans ((Aux.drew _).trans (hax10.trans (hax11.trans ((Aux.drew _).trans ((Aux.drew _).trans (hax33.trans (hax34.trans hax36))))))))))) ⟨rfl, _, nd35.to (grow_bad hr4 hnl hG (.inr (.inl (by simpa using h79)))).symm⟩
     ·
      refine RL.fi fl56_6 ?_
      refine RL.lo 6 ty31 hb5 hg36 ?_
      refine RL.pu ?_
      refine RL.makeB rfl rfl rfl rfl rfl rfl ?_
      refine RL.callV rfl rfl rfl rfl rfl ca133 (ContainsEB_ct (q := Node.strange (n.calm m.frm).s.hard.term) (bnd := #[ptr p]) (cap := #[]) (hg36.front 3 rfl) (.inl rfl) (show Lies REntry 6 _ _ y.ea y.ec m.entries from hm.entries) rfl (fun x hx vs hE w' hg' => strange_ct hg' nd35 hE (hms.1 x hx))) ?_
      rintro v37 w37 (hg37 : Good _ s34 (A8 :: Q34 :: Q36 :: Q11 :: Q5 :: os)) hax37 rfl
      refine ⟨trivial, ?_⟩
      refine RL.pd ?_
      refine CW.cond rfl (fun h85 => ?_) (fun h85 => ?_)
      ·
       refine CW.ret (ret (vs := []) rfl ?_)
       exact Post.mk (hle7.trans hle34) ((((hg37.dropNext).dropNext).dropNext).dropNext) (hax5.trans ((Aux.drew _).trans (hax7.trans (hax8.trans ((Aux.drew _).trans (hax10.trans (hax11.trans ((Aux.drew _).trans ((Aux.drew _).trans (hax33.trans (hax34.trans (hax36.trans hax37)))))))))))) ⟨rfl, _, nd35.to (grow_bad hr4 hnl hG (.inr (.inr h85))).symm⟩
      ·
       have hnb : ¬ (G.err = 1 ∨ G.err = 62 ∨ m.entries.any (Node.strange (n.calm m.frm).s.hard.term) = true) := fun z => z.elim (fun z => by simp [z] at h75) (fun z => z.elim (fun z => by simp [z] at h79) (fun z => by rw [h85] at z; cases z))
       refine CW.skip ?_
       refine CW.seq ?_
       refine CW.seq (CW.plain ?_)
       refine RL.pu ?_
       refine RL.pd ?_
       refine CW.cond rfl (fun h87 => ?_) (fun h87 => ?_)
       ·
        refine CW.seq ?_
        have hg38 := hg37.drew
        refine CW.draws [(true, 0), (true, 1), (true, 2), (true, 4), (true, 5), (true, 6), (true, 7), (true, 9), (false, 3), (true, 8), (false, 10), (true, 11), (false, 12), (true, 13), (false, 14)] (fun w => At1 b5 _ w ∧ True) mixed (by kernel_rfl) (by kernel_rfl) (by kernel_rfl) (by kernel_rfl) (⟨hg38.at1 (by simp) hb5, trivial⟩) ?_
        refine RL.fi fl56_4 ?_
        refine RL.loadT (ad := ⟨b5, 0, none⟩) (j := 4) rfl rfl rfl rfl ty22 rfl (At1.holds) (fun w h => h.1.inn) rfl ?_
        refine RL.pu ?_
        refine RL.fi fl56_4 ?_
        refine RL.loadT (ad := ⟨b5, 0, none⟩) (j := 4) rfl rfl rfl rfl ty22 rfl (At1.holds) (fun w h => h.1.inn) rfl ?_
        refine RL.max rfl rfl rfl rfl rfl rfl ?_
        rw [one_most]
        refine RL.sub rfl rfl rfl rfl rfl rfl (by simp only [rng] at *; omega) ?_
        refine RL.fi fl56_8 ?_
        refine RL.callV rfl rfl rfl rfl rfl ca77 (last_ct hg38 nd35 hRq) ?_
        rintro v39 w39 (hg39 : Good _ s34 (A8 :: Q34 :: Q36 :: Q11 :: Q5 :: os)) hax39 rfl
        refine ⟨⟨hg39.at1 (by simp) hb5, trivial⟩, ?_⟩
        refine RL.min rfl rfl rfl rfl rfl rfl ?_
        rw [min_if]
        refine RL.sB (b := b10) (i := 3) (j := 8) rfl rfl rfl ty4 rfl rfl hg39 rfl (hb11) rfl rfl ?_
        rintro w40 Q40 (hg40 : Good _ s34 (A8 :: Q34 :: Q36 :: Q40 :: Q5 :: os)) hax40 hb40
        refine ⟨⟨hg40.at1 (by simp) hb5, trivial⟩, ?_⟩
        refine RL.fi fl56_4 ?_
        refine RL.sB (b := b10) (i := 3) (j := 4) rfl rfl rfl ty22 rfl rfl hg40 rfl (hb40) rfl rfl ?_
        rintro w41 Q41 (hg41 : Good _ s34 (A8 :: Q34 :: Q36 :: Q41 :: Q5 :: os)) hax41 hb41
        refine ⟨⟨hg41.at1 (by simp) hb5, trivial⟩, ?_⟩
        refine RL.fi fl56_9 ?_
        refine RL.sB (b := b10) (i := 3) (j := 9) rfl rfl rfl ty22 rfl rfl hg41 rfl (hb41) rfl rfl ?_
        rintro w42 Q42 (hg42 : Good _ s34 (A8 :: Q34 :: Q36 :: Q42 :: Q5 :: os)) hax42 hb42
        refine ⟨⟨hg42.at1 (by simp) hb5, trivial⟩, ?_⟩
        refine RL.done ?_
        refine CW.seq (CW.plain ?_)
        refine RL.pu ?_
        refine RL.ls 0 ty56 hb42 hg42 ?_
        refine RL.call rfl rfl rfl rfl rfl ca113 (post_ct (m := { Msg.zero with kind := 6, to := m.frm, index := m.index, reject := true, hint := min (n.calm m.frm).last (max m.index 1 - 1) }) (y := Lay.none) hg42 nd35 hRq { MsgOk.zero _ with kind := by simp [rng], to := hm.frm, index := hm.index, hint := hgapr } (by omega)) ?_
        rintro v43 s43 A43 w43 hle43 (hg43 : Good _ s43 (A43 :: Q34 :: Q36 :: Q42 :: Q5 :: os)) hax43 ⟨rfl, ma43, mc43, nd43⟩
        have hm := hm.up hle43
        refine ⟨trivial, ?_⟩
        refine RL.done ?_
        refine CW.ret (ret (vs := []) rfl ?_)
        exact Post.mk (hle7.trans (hle34.trans hle43)) ((((hg43.dropNext).dropNext).dropNext).dropNext) (hax5.trans ((Aux.drew _).trans (hax7.trans (hax8.trans ((Aux.drew _).trans (hax10.trans (hax11.trans ((Aux.drew _).trans ((Aux.drew _).trans (hax33.trans (hax34.trans (hax36.trans (hax37.trans ((Aux.drew _).trans (hax39.trans (hax40.trans (hax41.trans (hax42.trans hax43)))))))))))))))))) ⟨rfl, _, nd43.to (grow_gap hr4 hnl hG hnb (by simpa using h87)).symm⟩
       ·
        refine CW.skip ?_
        refine CW.seq (CW.plain ?_)
        obtain ⟨X1, X2, hK0, hoL1, hoC2⟩ := LogOwn_apart (((((hg37.front 2 rfl).front 3 rfl).front 4 rfl).front 3 rfl).front 4 rfl) hoL hoC hdj
        have hK := hK0.front 2 rfl
        have hK := hK.front 1 rfl
        obtain ⟨AJ, hAJ⟩ : ∃ Z, Z = Res.join X1 A8 := ⟨_, rfl⟩
        have ndJ := nd35.mem (Res.le_join_right (r := X1) (Apart.of2 hK))
        have hoLJ := hoL1.mem (Res.le_join_left X1 A8)
        have hdL := Dj.apart hoL1.entries nd35.outs (Apart.of2 hK)
        have hgJ := hK.join
        rw [← hAJ] at ndJ hoLJ hgJ
        refine RL.pp ?_
        refine RL.pu ?_
        refine RL.ls 0 ty33 hb36 hgJ ?_
        refine RL.pp ?_
        refine RL.pu ?_
        refine RL.fi fl109_0 ?_
        refine RL.fi fl44_2 ?_
        refine RL.storeN (p := p) (i := 0) (j := 4) (h1 := _) (n1 := _) rfl rfl rfl ty33 rfl rfl hgJ rfl (ndJ.cells) (NRest.putLog ndJ.rest hoLJ hdL) rfl (by first | (simp [Value.cells, Value.oneCell']; done) | simp [Value.cells, Value.oneCell', putL]) (by first | exact Nat.le_of_ble_eq_true rfl | (simp; done) | (simp; omega) | omega) rfl ?_
        rintro w44 A44 (hg44 : Good _ s34 (A44 :: X2 :: Q5 :: Q11 :: Q36 :: os)) hax44 nd44
        refine ⟨trivial, ?_⟩
        refine RL.pu ?_
        refine RL.fi fl109_1 ?_
        refine RL.fi fl50_0 ?_
        refine RL.storeI (p := p) (i := 0) (j := 20) rfl rfl rfl ty22 rfl rfl hg44 rfl (nd44.cells) (NRest.wCut nd44.rest) rfl (Nat.le_of_ble_eq_true rfl) rfl ?_
        rintro w45 A45 (hg45 : Good _ s34 (A45 :: X2 :: Q5 :: Q11 :: Q36 :: os)) hax45 nd45
        refine ⟨trivial, ?_⟩
        have hK2 := hg45.front 1 rfl
        obtain ⟨AK, hAK⟩ : ∃ Z, Z = Res.join X2 A45 := ⟨_, rfl⟩
        have ndK := nd45.mem (Res.le_join_right (r := X2) (Apart.of2 hK2))
        have hoCK := hoC2.mem (Res.le_join_left X2 A45)
        have hgK := hK2.join
        rw [← hAK] at ndK hoCK hgK
        refine RL.pu ?_
        refine RL.fi fl109_1 ?_
        refine RL.fi fl50_1 ?_
        refine RL.storeN (p := p) (i := 0) (j := 21) (h1 := _) (n1 := _) rfl rfl rfl ty31 rfl rfl hgK rfl (ndK.cells) (NRest.putOuts ndK.rest hoCK hdj) rfl (by first | (simp [Value.cells, Value.oneCell']; done) | simp [Value.cells, Value.oneCell', putL]) (by first | exact Nat.le_of_ble_eq_true rfl | (simp; done) | (simp; omega) | omega) rfl ?_
        rintro w46 A46 (hg46 : Good _ s34 (A46 :: Q5 :: Q11 :: Q36 :: os)) hax46 nd46
        refine ⟨trivial, ?_⟩
        refine RL.done ?_
        refine CW.seq (CW.plain ?_)
        refine RL.fi fl56_4 ?_
        refine RL.lo 4 ty22 hb5 hg46 ?_
        refine RL.fi fl56_6 ?_
        refine RL.lo 6 ty31 hb5 hg46 ?_
        refine RL.len rfl rfl rfl rfl sl31 rfl ?_
        refine RL.conv rfl rfl rfl rfl Tryz.underlying3 Tryz.underlying22 rfl ((by simp only [rng]; omega)) ?_
        refine RL.add rfl rfl rfl rfl rfl rfl ((by simp only [rng]; omega)) ?_
        refine RL.fi fl56_4 ?_
        refine RL.sB (b := b10) (i := 2) (j := 4) rfl rfl rfl ty22 rfl rfl hg46 rfl (hb11) rfl rfl ?_
        rintro w47 Q47 (hg47 : Good _ s34 (A46 :: Q5 :: Q47 :: Q36 :: os)) hax47 hb47
        refine ⟨trivial, ?_⟩
        refine RL.done ?_
        refine CW.seq ?_
        have hg48 := hg47.drew
        refine CW.draws2 [(true, 0), (true, 1), (true, 2), (true, 3), (true, 4), (true, 5), (true, 6), (true, 7), (true, 8), (true, 9), (true, 10), (true, 11), (true, 12), (true, 13), (true, 14), (true, 15), (true, 16)] [(false, 17)] 17 #[true, true, true, true, true, true, true, true, true, true, true, true, true, true, true, true, true, false] (fun w => At1 p _ w ∧ At1 b5 _ w ∧ At1 b10 _ w ∧ True) mixed (by kernel_rfl) (by kernel_rfl) (by kernel_rfl) (by kernel_rfl) (by kernel_rfl) (⟨hg48.at1 (by simp) nd46.cells, hg48.at1 (by simp) hb5, hg48.at1 (by simp) hb47, trivial⟩) ?_
        refine RL.pp ?_
        refine RL.pu ?_
        refine RL.fi fl109_0 ?_
        refine RL.fi fl44_1 ?_
        refine RL.fi fl24_2 ?_
        refine RL.loadT (ad := ⟨p, 0, none⟩) (j := 3) rfl rfl rfl rfl ty22 rfl (At1.holds) (fun w h => h.1.inn) rfl ?_
        refine RL.fi fl56_7 ?_
        refine RL.loadT (ad := ⟨b5, 0, none⟩) (j := 7) rfl rfl rfl rfl ty22 rfl (At1.holds) (fun w h => h.2.1.inn) rfl ?_
        refine RL.fi fl56_4 ?_
        refine RL.loadT (ad := ⟨b10, 0, none⟩) (j := 4) rfl rfl rfl rfl ty22 rfl (At1.holds) (fun w h => h.2.2.1.inn) rfl ?_
        refine RL.min rfl rfl rfl rfl rfl rfl ?_
        rw [min_if]
        refine RL.max rfl rfl rfl rfl rfl rfl ?_
        rw [max_if]
        refine RL.pu ?_
        refine RL.fi fl109_0 ?_
        refine RL.fi fl44_1 ?_
        refine RL.fi fl24_2 ?_
        refine RL.done ?_
        refine RL.next trivial ?_
        refine RL.storeI (p := p) (i := 0) (j := 3) rfl rfl rfl ty22 rfl rfl hg48 rfl (nd46.cells) (NRest.wCommit nd46.rest) rfl (Nat.le_of_ble_eq_true rfl) rfl ?_
        rintro w49 A49 (hg49 : Good _ s34 (A49 :: Q5 :: Q47 :: Q36 :: os)) hax49 nd49
        refine ⟨trivial, ?_⟩
        refine RL.done ?_
        refine CW.plain ?_
        refine RL.pu ?_
        refine RL.ls 0 ty56 hb47 hg49 ?_
        refine RL.call rfl rfl rfl rfl rfl ca113 (post_ct (m := { Msg.zero with kind := 6, to := m.frm, index := m.index + m.entries.length }) (y := Lay.none) hg49 nd49 (hRz _ rfl hRq.2.1 hRq.2.2.1 hcr hoL.index hoL.term) { MsgOk.zero _ with kind := by simp [rng], to := hm.frm, index := by simp only [rng]; omega } (by show n.o.msgs.length ≤ _; omega)) ?_
        rintro v50 s50 A50 w50 hle50 (hg50 : Good _ s50 (A50 :: Q5 :: Q47 :: Q36 :: os)) hax50 ⟨rfl, ma50, mc50, nd50⟩
        have hm := hm.up hle50
        refine ⟨trivial, ?_⟩
        refine RL.done ?_
        refine fall (vs := []) rfl ?_
        exact Post.mk (hle7.trans (hle34.trans hle50)) (((hg50.dropNext).dropNext).dropNext) (hax5.trans ((Aux.drew _).trans (hax7.trans (hax8.trans ((Aux.drew _).trans (hax10.trans (hax11.trans ((Aux.drew _).trans ((Aux.drew _).trans (hax33.trans (hax34.trans (hax36.trans (hax37.trans (hax44.trans (hax45.trans (hax46.trans (hax47.trans ((Aux.drew _).trans (hax49.trans hax50))))))))))))))))))) ⟨rfl, _, nd50.to (grow_ok hr4 hnl hG hnb (by simpa using h87)).symm⟩
end
end Go.Lw

/-
 A node by the program: install, chunk, chunked.
-/
namespace Go.Lw
open Go.Proofs
attribute [local irreducible] RL RA
section
variable {w : World} {s A : Res} {os : List Res} {p : Nat} {h : Hd} {n : Node}
theorem RL.storeX {P : Program} {m : Nat} {ops : Array Oper} {Q : Exit → Act → World → Prop} {S : World → Prop} {rest : List (Bool × Oper)} {E : Env} {o : Oper} {x y : Operand} {h1 : Hd} {n1 : Node} {t : TypeId} {k j : Nat} {i : Nat} {ag : Bool} {cs : Array Value} {u : Value} {ds : List Value} (hg : wants ops E o = some true) (hd : o.dst = none) (ho : o.op = .store t x y) (ht : tyc P t = some (ag, k))
  (hx : ev E x = some (.pointer (some ((⟨p, 0, none⟩ : Addr).add j)))) (hy : ev E y = some u) (hG : Good w s os) (hi : os[i]? = some A) (hA : A p = some (.cells cs 109 (0, 0))) (hr : NRest s A h1 n1) (hk : u.cells.size = k) (ho1 : ∀ z ∈ u.cells.toList, z.oneCell' = true) (hj : j + k ≤ cs.size)
  (he : cs.toList.take j ++ u.cells.toList ++ cs.toList.drop (j + k) = ds)
  (h : ∀ w' A', Good w' s (os.set i A') → Aux w w' → A' p = some (.cells ds.toArray 109 (0, 0)) → NRest s A' h1 n1 → S w' ∧ RL P m ops Q S rest E w') : RL P m ops Q S ((false, o) :: rest) E w :=
 RL.store hg hd ho ht hx hy hG hi hA hk ho1 hj fun w' h2 h3 => by
  rw [he] at h2
  exact h w' _ h2 h3 (put_same _ _ _) (hr.put hA _)
theorem Nd.splitEntries (hg : Good w s (A :: os)) (nd : Nd s A p h n) : ∃ A1 W, Good w s (A1 :: W :: os) ∧ A1 p = some (.cells (nodeV n h).toArray 109 (0, 0)) ∧ NRest s A1 { h with ea := none, ec := 0 } (n.wEntries []) ∧ Own REntry 6 65 s W h.ea h.ec n.s.log.entries := by
 have hp := nd.entries
 rcases hp with ⟨h1, h2, h3⟩ | ⟨g, cs, hpa, hA, h4, h5, h6, h7⟩
 ·
  exact ⟨A, Res.nil, hg.nil.front 1 rfl, nd.cells, nd.rest.noEntries, .inl ⟨h1, h2, h3⟩⟩
 ·
  have hb := nd.entries
  have hk : ∀ k, A k ≠ none → (∀ ad, h.ea = some ad → ad.block ≠ k) → (fun b => if b = g then none else A b) k = A k := fun k _ hk => by
   have : k ≠ g := fun e => hk _ hpa e.symm
   simp [this]
  obtain ⟨a, b, c, d, e, f, g', i, j, l⟩ := nd.rest
  refine ⟨_, _, Good.split hg hA, (nd.apart hb (by decide) hk).trans nd.cells, ⟨a, b, c, Own.nil _ _ _ _ _, e.kept (hb.dj e (by decide)) hk, f.kept (hb.dj f (by decide)) hk, g', i.kept l hk, j.kept (hb.dj j (by decide)) hk, Dj.none_left _⟩, .inr ⟨g, cs, hpa, if_pos rfl, h4, h5, h6, h7⟩⟩
theorem NRest.mem {A' : Res} (k : NRest s A h n) (hl : Le A A') : NRest s A' h n :=
 let ⟨a, b, c, d, e, f, g, i, j, l⟩ := k
 ⟨a, b, c, d.mem hl, e.mem hl, f.mem hl, g, i.mem hl, j.mem hl, l⟩
theorem NRest.putBase {sn : Snap} {va la da : Option Addr} {vc lc dc : Nat} {l : List Entry} (k : NRest s A { h with ea := none, ec := 0 } (n.wEntries [])) (hv : Ints s va vc sn.conf.voters) (hl : Ints s la lc sn.conf.learners) (hd : Imm (RInt .u8) 1 s da dc sn.data) :
  NRest s A { h with va := va, vc := vc, la := la, lc := lc, da := da, dc := dc, ea := none, ec := 0 } ((n.wLog ⟨sn, l⟩).wEntries []) :=
 let ⟨_, _, _, d, e, f, g, i, j, l⟩ := k
 ⟨hv, hl, hd, d, e, f, g, i, j, l⟩
theorem NRest.putEntries {l0 l : List Entry} {a : Option Addr} {c : Nat} (k : NRest s A h (n.wEntries l0)) (ho : Own REntry 6 65 s A a c l) (hd : Dj a h.oa) : NRest s A { h with ea := a, ec := c } (n.wEntries l) :=
 let ⟨a', b, c', _, e, f, g, i, j, _⟩ := k
 ⟨a', b, c', ho, e, f, g, i, j, hd⟩
theorem NRest.outs (k : NRest s A h n) : Own REntry 6 65 s A h.oa h.oc n.o.entries := k.2.2.2.2.2.2.2.1
theorem NRest.putPart {c : Coming} {a : Option Addr} {q : Nat} (k : NRest s A h n) (hc : Imm (RInt .u8) 1 s a q c.data) : NRest s A { h with ta := a, tc := q } (n.wPart c) :=
 let ⟨a', b, c', d, e, f, _, i, j, l⟩ := k
 ⟨a', b, c', d, e, f, hc, i, j, l⟩
def sameEnd (sn : Snap) (e : Entry) : Bool := decide (e.index = sn.index ∧ e.term = sn.term)
theorem install1_ct {e : Entry} {sn : Snap} {vs : List Value} {B : Res} {b : Nat} {va la da : Option Addr} {vc lc dc : Nat} (hg : Good w s os) (hE : REntry s vs e) (hB : B ∈ os) (c1 : B b = some (.cells (snapV sn va vc la lc da dc).toArray 30 (0, 0))) :
  Calls Tryz.prog 155 #[.agg vs.toArray, ptr b] w (PostV w s os fun q => q = .bool (sameEnd sn e)) := by
 obtain ⟨ea, ec, ea1, ec1, ea2, ec2, rfl, er1, er2, er3, eh1, eh2, eh3⟩ := hE
 refine enter (l := [.agg #[u64 e.index, u64 e.term, i64 e.kind, .slice ea e.data.length ec, .slice ea1 e.conf.voters.length ec1, .slice ea2 e.conf.learners.length ec2], ptr b]) Tryz.func155 rfl Tryz.ntmps155 rfl ?_
 refine CW.seq (CW.plain ?_)
 refine RL.boxN rfl rfl rfl rfl rfl hg ?_
 rintro b1 w1 Q1 (hg1 : Good _ s (Q1 :: os)) hax1 hb1
 refine ⟨trivial, ?_⟩
 refine RL.pd ?_
 refine CW.seq (CW.plain ?_)
 refine RL.fi fl65_0 ?_
 refine RL.lo 0 ty22 hb1 hg1 ?_
 refine RL.fi fl30_0 ?_
 refine RL.load (j := 0) rfl rfl rfl rfl ty22 rfl (Holds.of c1) (hg1.mem (List.mem_cons_of_mem _ hB)) rfl ?_
 refine RL.pp ?_
 refine RL.part 9 rfl (fun h9 => ?_) (fun h9 => ?_)
 ·
  refine RL.fi fl65_1 ?_
  refine RL.lo 1 ty22 hb1 hg1 ?_
  refine RL.fi fl30_1 ?_
  refine RL.load (j := 1) rfl rfl rfl rfl ty22 rfl (Holds.of c1) (hg1.mem (List.mem_cons_of_mem _ hB)) rfl ?_
  refine RL.pp ?_
  refine RL.pd ?_
  refine CW.ret (ret (vs := [_]) ⟨_, _, rfl, rfl, rfl⟩ ?_)
  refine PostV.mk (hg1.drop) hax1 (congrArg Value.bool ?_)
  simp_all [sameEnd]
  try (rw [Bool.eq_iff_iff]; simp)
 ·
  refine RL.qq ?_
  refine RL.qq ?_
  refine RL.pa ?_
  refine RL.pu ?_
  refine RL.pd ?_
  refine CW.ret (ret (vs := [_]) ⟨_, _, rfl, rfl, rfl⟩ ?_)
  refine PostV.mk (hg1.drop) hax1 (congrArg Value.bool ?_)
  simp_all [sameEnd]
  try (rw [Bool.eq_iff_iff]; simp)
theorem install_some {sn : Snap} (h0 : 0 ≤ idxP (sameEnd sn) n.s.log.entries) : n.install sn = ⟨{ n.s with log := ⟨sn, n.s.log.entries.drop (idxP (sameEnd sn) n.s.log.entries + 1).toNat⟩, hard := { n.s.hard with commit := sn.index }, part := Coming.zero }, { n.o with install := true }⟩ := by
 have hf : ∃ k, n.s.log.entries.findIdx? (fun e => decide (e.index = sn.index ∧ e.term = sn.term)) = some k ∧ idxP (sameEnd sn) n.s.log.entries = k := by
  unfold idxP at h0 ⊢
  change ∃ k, n.s.log.entries.findIdx? (sameEnd sn) = some k ∧ _
  cases hc : n.s.log.entries.findIdx? (sameEnd sn) with
  | none => rw [hc] at h0; simp at h0
  | some k => exact ⟨k, rfl, rfl⟩
 obtain ⟨k, h1, h2⟩ := hf
 unfold Node.install
 simp only [h1, h2]
 rw [show ((k : Int) + 1).toNat = k + 1 by omega]
theorem install_none {sn : Snap} (h0 : idxP (sameEnd sn) n.s.log.entries < 0) : n.install sn = ⟨{ n.s with log := ⟨sn, []⟩, hard := { n.s.hard with commit := sn.index }, part := Coming.zero }, { n.o with install := true, cut := (n.s.log.entries.head?.map (·.index)).getD n.o.cut }⟩ := by
 have h1 : n.s.log.entries.findIdx? (fun e => decide (e.index = sn.index ∧ e.term = sn.term)) = none := by
  unfold idxP at h0
  change n.s.log.entries.findIdx? (sameEnd sn) = none
  cases hc : n.s.log.entries.findIdx? (sameEnd sn) with
  | none => rfl
  | some k => rw [hc] at h0; simp at h0; omega
 unfold Node.install
 simp only [h1]
set_option maxRecDepth 100000 in
set_option maxHeartbeats 4000000 in
theorem install_ct {sn : Snap} {va la da : Option Addr} {vc lc dc : Nat} (hg : Good w s (A :: os)) (nd : Nd s A p h n) (hS : n.s.log.small) (hv : Ints s va vc sn.conf.voters) (hl : Ints s la lc sn.conf.learners) (hd : Imm (RInt .u8) 1 s da dc sn.data) :
  Calls Tryz.prog 136 #[ptr p, .agg (snapV sn va vc la lc da dc).toArray] w (NPost w s os p (.tuple #[]) (n.install sn)) := by
 have hlen := hS.2.2.2
 have hib : idxP (sameEnd sn) n.s.log.entries + 1 ≤ n.s.log.entries.length := by rcases idxP_rng (sameEnd sn) n.s.log.entries with h | ⟨_, h⟩ <;> omega
 have hib0 : -1 ≤ idxP (sameEnd sn) n.s.log.entries := by rcases idxP_rng (sameEnd sn) n.s.log.entries with h | ⟨_, h⟩ <;> omega
 refine enter (l := [ptr p, .agg (snapV sn va vc la lc da dc).toArray]) Tryz.func136 rfl Tryz.ntmps136 rfl ?_
 refine CW.seq (CW.plain ?_)
 refine RL.boxN rfl rfl rfl rfl rfl hg ?_
 rintro b2 w2 Q2 (hg2 : Good _ s (Q2 :: A :: os)) hax2 hb2
 refine ⟨trivial, ?_⟩
 refine RL.done ?_
 refine CW.seq (CW.plain ?_)
 refine RL.pp ?_
 refine RL.fi fl109_0 ?_
 refine RL.fi fl44_2 ?_
 refine RL.fi fl33_1 ?_
 refine RL.lo 9 ty31 nd.cells hg2 ?_
 refine RL.pd ?_
 refine CW.seq (CW.plain ?_)
 obtain ⟨A1, W1, hgS, hpS, hrS, hW⟩ := Nd.splitEntries (hg2.front 1 rfl) nd
 refine RL.pu ?_
 refine RL.ls 0 ty30 hb2 hgS ?_
 refine RL.pu ?_
 refine RL.build rfl rfl rfl rfl ze33 pl33 rfl rfl ?_
 refine RL.pu ?_
 refine RL.fi fl109_0 ?_
 refine RL.fi fl44_2 ?_
 refine RL.storeX (p := p) (i := 0) (j := 4) rfl rfl rfl ty33 rfl rfl hgS rfl hpS (NRest.putBase (l := []) hrS hv hl hd) rfl (by first | (simp [Value.cells, Value.oneCell']; done) | simp [Value.cells, Value.oneCell', putL]) (Nat.le_of_ble_eq_true rfl) rfl ?_
 intro wX AX hgX haxX hpX hrX
 refine ⟨trivial, ?_⟩
 refine RL.done ?_
 refine CW.seq (CW.plain ?_)
 refine RL.pu ?_
 refine RL.makeF rfl rfl rfl rfl rfl ?_
 refine RL.callV rfl rfl rfl rfl rfl ca154 (IndexE_ct (p := sameEnd sn) hgX (.inr (by simp)) hW.lies rfl (fun x hx vs hE w' hg' => install1_ct hg' hE (B := Q2) (by simp) hb2)) ?_
 rintro v3 w3 (hg3 : Good _ s (AX :: W1 :: Q2 :: os)) hax3 rfl
 refine ⟨trivial, ?_⟩
 refine RL.pd ?_
 refine CW.seq (CW.plain ?_)
 refine RL.pp ?_
 refine RL.pu ?_
 refine RL.add rfl rfl rfl rfl rfl rfl ((by simp only [rng]; omega)) ?_
 refine RL.partL (idxP (sameEnd sn) n.s.log.entries + 1) (n.s.log.entries.length : Int) rfl rfl rfl rfl sl31 rfl (.inr ⟨_, _, rfl, rfl⟩) (.inl ⟨rfl, rfl⟩) hW.lies (by omega) hib (by omega) ?_
 intro a26 c26 hE26
 have e26 : ((n.s.log.entries.take (n.s.log.entries.length : Int).toNat).drop (idxP (sameEnd sn) n.s.log.entries + 1).toNat) = n.s.log.entries.drop (idxP (sameEnd sn) n.s.log.entries + 1).toNat := by simp
 rw [e26] at hE26 ⊢
 refine RL.call rfl rfl rfl rfl rfl ca63 (CloneE_ct hg3 (.inr (by simp)) hE26.2.2 (by simp only [List.length_drop]; omega)) ?_
 rintro v4 s4 Q4 w4 hle4 (hg4 : Good _ s4 (Q4 :: AX :: W1 :: Q2 :: os)) hax4 ⟨hs27, a27, c27, rfl, ho27⟩
 have hrX := hrX.up hle4
 refine ⟨trivial, ?_⟩
 have hK := ((((hg4.front 3 rfl).front 3 rfl).front 3 rfl).front 3 rfl)
 obtain ⟨AJ, hAJ⟩ : ∃ Z, Z = Res.join Q4 AX := ⟨_, rfl⟩
 have hrJ := hrX.mem (Res.le_join_right (r := Q4) (Apart.of2 hK))
 have hpJ := Res.le_join_right (r := Q4) (Apart.of2 hK) _ _ hpX
 have hoJ := ho27.mem (Res.le_join_left Q4 AX)
 have hdJ := Dj.apart ho27 hrX.outs (Apart.of2 hK)
 have hgJ := hK.join
 rw [← hAJ] at hrJ hpJ hoJ hgJ
 have hrE := hrJ.putEntries hoJ hdJ
 refine RL.pu ?_
 refine RL.fi fl109_0 ?_
 refine RL.fi fl44_2 ?_
 refine RL.fi fl33_1 ?_
 refine RL.storeN (p := p) (i := 0) (j := 9) rfl rfl rfl ty31 rfl rfl hgJ rfl (hpJ) (hrE) rfl (by first | (simp [Value.cells, Value.oneCell']; done) | simp [Value.cells, Value.oneCell', putL]) (by first | exact Nat.le_of_ble_eq_true rfl | (simp; done) | (simp; omega) | omega) rfl ?_
 rintro w5 A5 (hg5 : Good _ s4 (A5 :: W1 :: Q2 :: os)) hax5 nd5
 refine ⟨trivial, ?_⟩
 refine RL.done ?_
 refine CW.seq ?_
 refine CW.seq (CW.plain ?_)
 refine RL.pu ?_
 refine RL.pd ?_
 refine CW.cond rfl (fun h33 => ?_) (fun h33 => ?_)
 ·
  refine CW.seq (CW.plain ?_)
  refine RL.pp ?_
  refine RL.fi fl109_0 ?_
  refine RL.fi fl44_2 ?_
  refine RL.fi fl33_1 ?_
  refine RL.storeN (p := p) (i := 0) (j := 9) (h1 := _) (n1 := _) rfl rfl rfl ty31 rfl rfl hg5 rfl (nd5.cells) (nd5.rest.noEntries) rfl (by first | (simp [Value.cells, Value.oneCell']; done) | simp [Value.cells, Value.oneCell', putL]) (by first | exact Nat.le_of_ble_eq_true rfl | (simp; done) | (simp; omega) | omega) rfl ?_
  rintro w6 A6 (hg6 : Good _ s4 (A6 :: W1 :: Q2 :: os)) hax6 nd6
  refine ⟨trivial, ?_⟩
  refine RL.done ?_
  refine CW.seq (CW.plain ?_)
  refine RL.pu ?_
  refine RL.len rfl rfl rfl rfl sl31 rfl ?_
  refine RL.pd ?_
  refine CW.cond rfl (fun h41 => ?_) (fun h41 => ?_)
  ·
   refine CW.plain ?_
   refine RL.pp ?_
   refine RL.idxL rfl rfl rfl rfl sl31 rfl rfl hW.lies (by omega) (by have := decide_t h41; omega) ?_
   rintro q vs hvl hH ⟨ea, ec, ea1, ec1, ea2, ec2, rfl, er1, er2, er3, eh1, eh2, eh3⟩
   refine RL.fi fl65_0 ?_
   refine RL.load (j := 0) rfl rfl rfl rfl ty22 rfl (hH) (hg6.mem (by simp)) rfl ?_
   refine RL.pu ?_
   refine RL.fi fl109_1 ?_
   refine RL.fi fl50_0 ?_
   refine RL.storeI (p := p) (i := 0) (j := 20) rfl rfl rfl ty22 rfl rfl hg6 rfl (nd6.cells) (NRest.wCut nd6.rest) rfl (Nat.le_of_ble_eq_true rfl) rfl ?_
   rintro w7 A7 (hg7 : Good _ s4 (A7 :: W1 :: Q2 :: os)) hax7 nd7
   refine ⟨trivial, ?_⟩
   refine RL.done ?_
   refine CW.plain ?_
   refine RL.pp ?_
   refine RL.pu ?_
   refine RL.fi fl30_0 ?_
   refine RL.lo 0 ty22 hb2 hg7 ?_
   refine RL.build rfl rfl rfl rfl ze42 pl42 rfl rfl ?_
   refine RL.pu ?_
   refine RL.fi fl109_0 ?_
   refine RL.fi fl44_1 ?_
   refine RL.fi fl24_2 ?_
   refine RL.storeI (p := p) (i := 0) (j := 3) rfl rfl rfl ty22 rfl rfl hg7 rfl (nd7.cells) (NRest.wCommit nd7.rest) rfl (Nat.le_of_ble_eq_true rfl) rfl ?_
   rintro w8 A8 (hg8 : Good _ s4 (A8 :: W1 :: Q2 :: os)) hax8 nd8
   refine ⟨trivial, ?_⟩
   refine RL.pu ?_
   refine RL.fi fl109_0 ?_
   refine RL.fi fl44_10 ?_
   refine RL.storeN (p := p) (i := 0) (j := 17) (h1 := _) (n1 := _) rfl rfl rfl ty42 rfl rfl hg8 rfl (nd8.cells) (NRest.putPart (c := Coming.zero) nd8.rest (Imm.nil _ _ _ (Nat.zero_le _))) rfl (by first | (simp [Value.cells, Value.oneCell']; done) | simp [Value.cells, Value.oneCell', putL]) (by first | exact Nat.le_of_ble_eq_true rfl | (simp; done) | (simp; omega) | omega) rfl ?_
   rintro w9 A9 (hg9 : Good _ s4 (A9 :: W1 :: Q2 :: os)) hax9 nd9
   refine ⟨trivial, ?_⟩
   refine RL.pu ?_
   refine RL.fi fl109_1 ?_
   refine RL.fi fl50_3 ?_
   refine RL.storeT (p := p) (i := 0) (j := 23) rfl rfl rfl ty4 rfl rfl hg9 rfl (nd9.cells) (NRest.wInstall nd9.rest) rfl (Nat.le_of_ble_eq_true rfl) rfl ?_
   rintro w10 A10 (hg10 : Good _ s4 (A10 :: W1 :: Q2 :: os)) hax10 nd10
   refine ⟨trivial, ?_⟩
   refine RL.done ?_
   refine fall (vs := []) rfl ?_
   have hh : n.s.log.entries.head? = some (n.s.log.entries[0]'(by have := decide_t h41; omega)) := by rw [List.head?_eq_getElem?, List.getElem?_eq_getElem]
   exact Post.mk hle4 ((hg10.dropNext).dropNext) (hax2.trans (haxX.trans (hax3.trans (hax4.trans (hax5.trans (hax6.trans (hax7.trans (hax8.trans (hax9.trans hax10))))))))) ⟨rfl, _, nd10.to ((install_none (decide_t h33)).trans (by rw [hh]; rfl)).symm⟩
  ·
   refine CW.skip (CW.plain ?_)
   refine RL.pp ?_
   refine RL.pu ?_
   refine RL.fi fl30_0 ?_
   refine RL.lo 0 ty22 hb2 hg6 ?_
   refine RL.build rfl rfl rfl rfl ze42 pl42 rfl rfl ?_
   refine RL.pu ?_
   refine RL.fi fl109_0 ?_
   refine RL.fi fl44_1 ?_
   refine RL.fi fl24_2 ?_
   refine RL.storeI (p := p) (i := 0) (j := 3) rfl rfl rfl ty22 rfl rfl hg6 rfl (nd6.cells) (NRest.wCommit nd6.rest) rfl (Nat.le_of_ble_eq_true rfl) rfl ?_
   rintro w11 A11 (hg11 : Good _ s4 (A11 :: W1 :: Q2 :: os)) hax11 nd11
   refine ⟨trivial, ?_⟩
   refine RL.pu ?_
   refine RL.fi fl109_0 ?_
   refine RL.fi fl44_10 ?_
   refine RL.storeN (p := p) (i := 0) (j := 17) (h1 := _) (n1 := _) rfl rfl rfl ty42 rfl rfl hg11 rfl (nd11.cells) (NRest.putPart (c := Coming.zero) nd11.rest (Imm.nil _ _ _ (Nat.zero_le _))) rfl (by first | (simp [Value.cells, Value.oneCell']; done) | simp [Value.cells, Value.oneCell', putL]) (by first | exact Nat.le_of_ble_eq_true rfl | (simp; done) | (simp; omega) | omega) rfl ?_
   rintro w12 A12 (hg12 : Good _ s4 (A12 :: W1 :: Q2 :: os)) hax12 nd12
   refine ⟨trivial, ?_⟩
   refine RL.pu ?_
   refine RL.fi fl109_1 ?_
   refine RL.fi fl50_3 ?_
   refine RL.storeT (p := p) (i := 0) (j := 23) rfl rfl rfl ty4 rfl rfl hg12 rfl (nd12.cells) (NRest.wInstall nd12.rest) rfl (Nat.le_of_ble_eq_true rfl) rfl ?_
   rintro w13 A13 (hg13 : Good _ s4 (A13 :: W1 :: Q2 :: os)) hax13 nd13
   refine ⟨trivial, ?_⟩
   refine RL.done ?_
   refine fall (vs := []) rfl ?_
   have hh : n.s.log.entries.head? = none := by rw [List.head?_eq_none_iff]; exact List.eq_nil_of_length_eq_zero (by have := decide_f h41; omega)
   exact Post.mk hle4 ((hg13.dropNext).dropNext) (hax2.trans (haxX.trans (hax3.trans (hax4.trans (hax5.trans (hax6.trans (hax11.trans (hax12.trans hax13)))))))) ⟨rfl, _, nd13.to ((install_none (decide_t h33)).trans (by rw [hh]; rfl)).symm⟩
 ·
  refine CW.skip (CW.plain ?_)
  refine RL.pp ?_
  refine RL.pu ?_
  refine RL.fi fl30_0 ?_
  refine RL.lo 0 ty22 hb2 hg5 ?_
  refine RL.build rfl rfl rfl rfl ze42 pl42 rfl rfl ?_
  refine RL.pu ?_
  refine RL.fi fl109_0 ?_
  refine RL.fi fl44_1 ?_
  refine RL.fi fl24_2 ?_
  refine RL.storeI (p := p) (i := 0) (j := 3) rfl rfl rfl ty22 rfl rfl hg5 rfl (nd5.cells) (NRest.wCommit nd5.rest) rfl (Nat.le_of_ble_eq_true rfl) rfl ?_
  rintro w14 A14 (hg14 : Good _ s4 (A14 :: W1 :: Q2 :: os)) hax14 nd14
  refine ⟨trivial, ?_⟩
  refine RL.pu ?_
  refine RL.fi fl109_0 ?_
  refine RL.fi fl44_10 ?_
  refine RL.storeN (p := p) (i := 0) (j := 17) (h1 := _) (n1 := _) rfl rfl rfl ty42 rfl rfl hg14 rfl (nd14.cells) (NRest.putPart (c := Coming.zero) nd14.rest (Imm.nil _ _ _ (Nat.zero_le _))) rfl (by first | (simp [Value.cells, Value.oneCell']; done) | simp [Value.cells, Value.oneCell', putL]) (by first | exact Nat.le_of_ble_eq_true rfl | (simp; done) | (simp; omega) | omega) rfl ?_
  rintro w15 A15 (hg15 : Good _ s4 (A15 :: W1 :: Q2 :: os)) hax15 nd15
  refine ⟨trivial, ?_⟩
  refine RL.pu ?_
  refine RL.fi fl109_1 ?_
  refine RL.fi fl50_3 ?_
  refine RL.storeT (p := p) (i := 0) (j := 23) rfl rfl rfl ty4 rfl rfl hg15 rfl (nd15.cells) (NRest.wInstall nd15.rest) rfl (Nat.le_of_ble_eq_true rfl) rfl ?_
  rintro w16 A16 (hg16 : Good _ s4 (A16 :: W1 :: Q2 :: os)) hax16 nd16
  refine ⟨trivial, ?_⟩
  refine RL.done ?_
  refine fall (vs := []) rfl ?_
  exact Post.mk hle4 ((hg16.dropNext).dropNext) (hax2.trans (haxX.trans (hax3.trans (hax4.trans (hax5.trans (hax14.trans (hax15.trans hax16))))))) ⟨rfl, _, nd16.to (install_some (n := n) (sn := sn) (by have := decide_f h33; omega)).symm⟩
theorem takeP_ix (c : Coming) (m : Msg) : (takeP c m).1.index = m.index ∧ (takeP c m).1.term = m.logTerm := by
 by_cases h : c.index ≠ m.index ∨ c.term ≠ m.logTerm
 ·
  rw [takeP_new h]; split <;> exact ⟨rfl, rfl⟩
 ·
  rw [takeP_old h]
  have h1 : c.index = m.index := Classical.byContradiction fun z => h (.inl z)
  have h2 : c.term = m.logTerm := Classical.byContradiction fun z => h (.inr z)
  split <;> exact ⟨h1, h2⟩
theorem takeP_len (c : Coming) (m : Msg) : (takeP c m).1.data.length ≤ c.data.length + m.data.length := by
 by_cases h : c.index ≠ m.index ∨ c.term ≠ m.logTerm
 ·
  rw [takeP_new h]; split <;> simp
 ·
  rw [takeP_old h]; split <;> simp
theorem install_msgs (sn : Snap) : (n.install sn).o.msgs = n.o.msgs := by unfold Node.install; dsimp only; split <;> rfl
theorem NRng.install (hR : NRng n) {sn : Snap} (h1 : rng .u64 sn.index) (h2 : rng .u64 sn.term) : NRng (n.install sn) := by
 unfold Node.install
 dsimp only
 split
 ·
  exact ⟨hR.1, hR.2.1, hR.2.2.1, h1, h1, h2⟩
 ·
  exact ⟨hR.1, hR.2.1, hR.2.2.1, h1, h1, h2⟩
theorem chunk_no {m : Msg} (h0 : n.s.role = 4 ∨ checkP m.conf ≠ 0 ∨ n.s.hard.term < m.logTerm) : n.chunk m = n := by unfold Node.chunk; rw [if_pos h0]
theorem chunk_old {m : Msg} (h0 : ¬ (n.s.role = 4 ∨ checkP m.conf ≠ 0 ∨ n.s.hard.term < m.logTerm)) (h1 : m.index ≤ (n.calm m.frm).s.hard.commit) : n.chunk m = (n.calm m.frm).post { Msg.zero with kind := 6, to := m.frm, index := (n.calm m.frm).s.hard.commit } := by
 unfold Node.chunk; rw [if_neg h0]; exact if_pos h1
theorem chunk_part {m : Msg} {T : Coming × Bool} (h0 : ¬ (n.s.role = 4 ∨ checkP m.conf ≠ 0 ∨ n.s.hard.term < m.logTerm)) (h1 : ¬ m.index ≤ (n.calm m.frm).s.hard.commit) (hT : takeP (n.calm m.frm).s.part m = T) (h2 : T.2 = false) :
  n.chunk m = ((n.calm m.frm).wPart T.1).post { Msg.zero with kind := 8, to := m.frm, index := m.index, hint := T.1.data.length } := by
 subst hT; unfold Node.chunk; rw [if_neg h0]; exact (if_neg h1).trans (if_pos h2)
theorem chunk_all {m : Msg} {T : Coming × Bool} (h0 : ¬ (n.s.role = 4 ∨ checkP m.conf ≠ 0 ∨ n.s.hard.term < m.logTerm)) (h1 : ¬ m.index ≤ (n.calm m.frm).s.hard.commit) (hT : takeP (n.calm m.frm).s.part m = T) (h2 : ¬ T.2 = false) :
  n.chunk m = ((n.calm m.frm).install (wholeP T.1 m.conf)).post { Msg.zero with kind := 6, to := m.frm, index := m.index } := by
 subst hT; unfold Node.chunk; rw [if_neg h0]; exact (if_neg h1).trans (if_neg h2)
theorem Nd.part (nd : Nd s A p h n) : Imm (RInt .u8) 1 s h.ta h.tc n.s.part.data := nd.rest.2.2.2.2.2.2.1
set_option maxRecDepth 100000 in
set_option maxHeartbeats 4000000 in
theorem chunk_ct {m : Msg} {y : Lay} (hg : Good w s (A :: os)) (nd : Nd s A p h n) (hR : NRng n) (hr : n.roomy) (hm : MsgOk s m y) (hms : m.small) (hpl : n.s.part.data.length + m.data.length ≤ 70368744177664) :
  Calls Tryz.prog 110 #[ptr p, .agg (msgV m y).toArray] w (NPost w s os p (.tuple #[]) (n.chunk m)) := by
 obtain ⟨hS, h1, h2, h3, h4⟩ := hr
 have hRq : NRng (n.calm m.frm) := hR.follow (term := n.s.hard.term) (leader := m.frm) hR.2.1
 have hSq : (n.calm m.frm).s.log.small := hS
 have hmq : (n.calm m.frm).o.msgs.length ≤ 34359738368 := h3
 have htl : (takeP (n.calm m.frm).s.part m).1.data.length ≤ 70368744177664 := Nat.le_trans (takeP_len _ _) hpl
 have htx := takeP_ix (n.calm m.frm).s.part m
 refine enter (l := [ptr p, .agg (msgV m y).toArray]) Tryz.func110 rfl Tryz.ntmps110 rfl ?_
 refine CW.seq (CW.plain ?_)
 refine RL.boxN rfl rfl rfl rfl rfl hg ?_
 rintro b17 w17 Q17 (hg17 : Good _ s (Q17 :: A :: os)) hax17 hb17
 refine ⟨trivial, ?_⟩
 refine RL.done ?_
 refine CW.seq ?_
 refine CW.seq ?_
 have hg18 := hg17.drew
 refine CW.draws [(true, 0), (true, 1), (true, 2), (true, 3), (true, 4), (true, 5), (true, 6), (true, 7), (true, 8), (false, 9), (true, 10), (true, 11), (true, 12), (true, 13), (true, 14), (true, 15), (true, 16), (true, 17), (true, 18), (true, 19), (true, 20), (true, 21), (true, 22)] (fun w => At1 p _ w ∧ At1 b17 _ w ∧ True) mixed (by kernel_rfl) (by kernel_rfl) (by kernel_rfl) (by kernel_rfl) (⟨hg18.at1 (by simp) nd.cells, hg18.at1 (by simp) hb17, trivial⟩) ?_
 refine RL.pp ?_
 refine RL.fi fl109_0 ?_
 refine RL.fi fl44_3 ?_
 refine RL.loadT (ad := ⟨p, 0, none⟩) (j := 10) rfl rfl rfl rfl ty38 rfl (At1.holds) (fun w h => h.1.inn) rfl ?_
 refine RL.pp ?_
 refine RL.part 12 rfl (fun h12 => ?_) (fun h12 => ?_)
 ·
  refine RL.qq ?_
  refine RL.qq ?_
  refine RL.pp ?_
  refine RL.qq ?_
  refine RL.qq ?_
  refine RL.qq ?_
  refine RL.qq ?_
  refine RL.pa ?_
  refine RL.pd ?_
  refine CW.yes (by first | rfl | exact congrArg (fun b => some (Value.bool b)) (by assumption)) ?_
  refine CW.ret (ret (vs := []) rfl ?_)
  exact Post.mk (Le.refl _) ((hg18.front 1 rfl).dropNext) (hax17.trans (Aux.drew _)) ⟨rfl, _, nd.to (chunk_no (.inl (by simpa using h12))).symm⟩
 ·
  refine RL.fi fl56_10 ?_
  refine RL.loadsT (ad := ⟨b17, 0, none⟩) (j := 10) rfl rfl rfl rfl ty27 rfl (At1.holds) (fun w h => h.2.1.inn) rfl rfl ?_
  refine RL.callV rfl rfl rfl rfl rfl ca60 (Calls.val (Ψ := fun v => v = i64 (checkP m.conf)) (Check_ct hg18 hm.conf hms.2.2.1.fits)) ?_
  rintro v19 w19 (hg19 : Good _ s (Q17 :: A :: os)) hax19 rfl
  refine ⟨⟨hg19.at1 (by simp) nd.cells, hg19.at1 (by simp) hb17, trivial⟩, ?_⟩
  refine RL.pp ?_
  refine RL.pu ?_
  refine RL.part 18 rfl (fun h18 => ?_) (fun h18 => ?_)
  ·
   refine RL.qq ?_
   refine RL.qq ?_
   refine RL.qq ?_
   refine RL.qq ?_
   refine RL.pa ?_
   refine RL.pd ?_
   refine CW.yes (by first | rfl | exact congrArg (fun b => some (Value.bool b)) (by assumption)) ?_
   refine CW.ret (ret (vs := []) rfl ?_)
   exact Post.mk (Le.refl _) ((hg19.front 1 rfl).dropNext) (hax17.trans ((Aux.drew _).trans hax19)) ⟨rfl, _, nd.to (chunk_no (.inr (.inl (by simpa using h18)))).symm⟩
  ·
   refine RL.fi fl56_5 ?_
   refine RL.loadT (ad := ⟨b17, 0, none⟩) (j := 5) rfl rfl rfl rfl ty22 rfl (At1.holds) (fun w h => h.2.1.inn) rfl ?_
   refine RL.pp ?_
   refine RL.fi fl109_0 ?_
   refine RL.fi fl44_1 ?_
   refine RL.fi fl24_0 ?_
   refine RL.loadT (ad := ⟨p, 0, none⟩) (j := 1) rfl rfl rfl rfl ty22 rfl (At1.holds) (fun w h => h.1.inn) rfl ?_
   refine RL.pu ?_
   refine RL.pd ?_
   refine CW.cond rfl (fun h28 => ?_) (fun h28 => ?_)
   ·
    refine CW.ret (ret (vs := []) rfl ?_)
    exact Post.mk (Le.refl _) ((hg19.front 1 rfl).dropNext) (hax17.trans ((Aux.drew _).trans hax19)) ⟨rfl, _, nd.to (chunk_no (.inr (.inr (decide_t h28)))).symm⟩
   ·
    have hno : ¬ (n.s.role = 4 ∨ checkP m.conf ≠ 0 ∨ n.s.hard.term < m.logTerm) := fun z => z.elim (fun z => by simp [z] at h12) (fun z => z.elim (fun z => by simp [z] at h18) (decide_f h28))
    refine CW.skip ?_
    refine CW.seq ?_
    have hg20 := hg19.drew
    refine CW.draws2 [(true, 0), (true, 1), (true, 2), (true, 3), (true, 4), (true, 5), (true, 6), (true, 7), (true, 8)] [(false, 9)] 9 #[true, true, true, true, true, true, true, true, true, false] (fun w => At1 p _ w ∧ At1 b17 _ w ∧ True) mixed (by kernel_rfl) (by kernel_rfl) (by kernel_rfl) (by kernel_rfl) (by kernel_rfl) (⟨hg20.at1 (by simp) nd.cells, hg20.at1 (by simp) hb17, trivial⟩) ?_
    refine RL.pp ?_
    refine RL.pu ?_
    refine RL.fi fl109_0 ?_
    refine RL.fi fl44_1 ?_
    refine RL.fi fl24_0 ?_
    refine RL.loadT (ad := ⟨p, 0, none⟩) (j := 1) rfl rfl rfl rfl ty22 rfl (At1.holds) (fun w h => h.1.inn) rfl ?_
    refine RL.fi fl56_1 ?_
    refine RL.loadT (ad := ⟨b17, 0, none⟩) (j := 1) rfl rfl rfl rfl ty3 rfl (At1.holds) (fun w h => h.2.1.inn) rfl ?_
    refine RL.done ?_
    refine RL.next trivial ?_
    refine RL.call rfl rfl rfl rfl rfl ca73 (follow_ct (hg20.front 1 rfl) nd) ?_
    rintro v21 s21 A21 w21 hle21 (hg21 : Good _ s21 (A21 :: Q17 :: os)) hax21 ⟨rfl, h21, nd21⟩
    have hm := hm.up hle21
    refine ⟨trivial, ?_⟩
    refine RL.done ?_
    refine CW.seq (CW.plain ?_)
    refine RL.pp ?_
    refine RL.fi fl109_0 ?_
    refine RL.fi fl44_7 ?_
    refine RL.storeI (p := p) (i := 0) (j := 14) rfl rfl rfl ty3 rfl rfl hg21 rfl (nd21.cells) (NRest.wElapsed nd21.rest) rfl (Nat.le_of_ble_eq_true rfl) rfl ?_
    rintro w22 A22 (hg22 : Good _ s21 (A22 :: Q17 :: os)) hax22 nd22
    refine ⟨trivial, ?_⟩
    refine RL.done ?_
    refine CW.seq ?_
    refine CW.seq ?_
    have hg23 := hg22.drew
    refine CW.draws [(true, 0), (true, 1), (true, 2), (true, 3), (true, 4), (true, 5), (true, 6), (true, 7), (true, 8)] (fun w => At1 b17 _ w ∧ At1 p _ w ∧ True) mixed (by kernel_rfl) (by kernel_rfl) (by kernel_rfl) (by kernel_rfl) (⟨hg23.at1 (by simp) hb17, hg23.at1 (by simp) nd22.cells, trivial⟩) ?_
    have nq := nd22.to (show _ = n.calm m.frm from rfl)
    refine RL.fi fl56_4 ?_
    refine RL.loadT (ad := ⟨b17, 0, none⟩) (j := 4) rfl rfl rfl rfl ty22 rfl (At1.holds) (fun w h => h.1.inn) rfl ?_
    refine RL.pp ?_
    refine RL.fi fl109_0 ?_
    refine RL.fi fl44_1 ?_
    refine RL.fi fl24_2 ?_
    refine RL.loadT (ad := ⟨p, 0, none⟩) (j := 3) rfl rfl rfl rfl ty22 rfl (At1.holds) (fun w h => h.2.1.inn) rfl ?_
    refine RL.pd ?_
    refine CW.cond rfl (fun h51 => ?_) (fun h51 => ?_)
    ·
     refine CW.seq ?_
     have hg24 := hg23.drew
     refine CW.draws2 [(true, 0), (true, 1), (true, 2), (true, 3), (true, 4), (true, 5), (true, 6), (true, 7), (true, 8), (true, 9)] [(false, 10)] 10 #[true, true, true, true, true, true, true, true, true, true, false] (fun w => At1 b17 _ w ∧ At1 p _ w ∧ True) mixed (by kernel_rfl) (by kernel_rfl) (by kernel_rfl) (by kernel_rfl) (by kernel_rfl) (⟨hg24.at1 (by simp) hb17, hg24.at1 (by simp) nq.cells, trivial⟩) ?_
     refine RL.pu ?_
     refine RL.fi fl56_1 ?_
     refine RL.loadT (ad := ⟨b17, 0, none⟩) (j := 1) rfl rfl rfl rfl ty3 rfl (At1.holds) (fun w h => h.1.inn) rfl ?_
     refine RL.pp ?_
     refine RL.fi fl109_0 ?_
     refine RL.fi fl44_1 ?_
     refine RL.fi fl24_2 ?_
     refine RL.loadT (ad := ⟨p, 0, none⟩) (j := 3) rfl rfl rfl rfl ty22 rfl (At1.holds) (fun w h => h.2.1.inn) rfl ?_
     refine RL.build rfl rfl rfl rfl ze56 pl56 rfl rfl ?_
     refine RL.done ?_
     refine RL.next trivial ?_
     refine RL.call rfl rfl rfl rfl rfl ca113 (post_ct (m := { Msg.zero with kind := 6, to := m.frm, index := (n.calm m.frm).s.hard.commit }) (y := Lay.none) hg24 nq hRq { MsgOk.zero _ with kind := by simp [rng], to := hm.frm, index := hRq.2.2.2.1 } (by omega)) ?_
     rintro v25 s25 A25 w25 hle25 (hg25 : Good _ s25 (A25 :: Q17 :: os)) hax25 ⟨rfl, ma25, mc25, nd25⟩
     have hm := hm.up hle25
     refine ⟨trivial, ?_⟩
     refine RL.done ?_
     refine CW.ret (ret (vs := []) rfl ?_)
     exact Post.mk (hle21.trans hle25) (hg25.dropNext) (hax17.trans ((Aux.drew _).trans (hax19.trans ((Aux.drew _).trans (hax21.trans (hax22.trans ((Aux.drew _).trans ((Aux.drew _).trans hax25)))))))) ⟨rfl, _, nd25.to (chunk_old hno (decide_t h51)).symm⟩
    ·
     refine CW.skip ?_
     refine CW.seq ?_
     have hg26 := hg23.drew
     refine CW.forks (.fork [(true, 0), (true, 1), (true, 2), (true, 3), (true, 4), (true, 5)] (.line [(false, 6), (true, 7), (true, 8), (true, 9), (false, 10), (false, 11), (false, 12)]) (.line [(false, 10), (false, 6), (true, 7), (true, 8), (true, 9), (false, 11), (false, 12)])) (fun w => At1 p _ w ∧ At1 b17 _ w ∧ True) mixed (by kernel_rfl) (by kernel_rfl) (by kernel_rfl) (by kernel_rfl) (⟨hg26.at1 (by simp) nq.cells, hg26.at1 (by simp) hb17, trivial⟩) ?_
     refine RT.pre (S := fun w => At1 p _ w ∧ At1 b17 _ w ∧ True) (⟨hg26.at1 (by simp) nq.cells, hg26.at1 (by simp) hb17, trivial⟩) ?_
     refine RL.pp ?_
     refine RL.fi fl109_0 ?_
     refine RL.fi fl44_10 ?_
     refine RL.loadsT (ad := ⟨p, 0, none⟩) (j := 17) rfl rfl rfl rfl ty42 rfl (At1.holds) (fun w h => h.1.inn) rfl rfl ?_
     refine RL.loadsT (ad := ⟨b17, 0, none⟩) (j := 0) rfl rfl rfl rfl ty56 rfl (At1.holds) (fun w h => h.2.1.inn) rfl rfl ?_
     refine RL.done ?_
     refine RT.both (S := fun w => At1 p _ w ∧ At1 b17 _ w ∧ True) (⟨hg26.at1 (by simp) nq.cells, hg26.at1 (by simp) hb17, trivial⟩) (RT.end_ (S := fun w => At1 p _ w ∧ At1 b17 _ w ∧ True) (⟨hg26.at1 (by simp) nq.cells, hg26.at1 (by simp) hb17, trivial⟩) ?_) (RT.end_ (S := fun w => At1 p _ w ∧ At1 b17 _ w ∧ True) (⟨hg26.at1 (by simp) nq.cells, hg26.at1 (by simp) hb17, trivial⟩) ?_)
     ·
      refine RL.call rfl rfl rfl rfl rfl ca135 (Take_ct hg26 nq.part hm hpl) ?_
      rintro v27 s27 B27 w27 hle27 (hg27 : Good _ s27 (B27 :: A22 :: Q17 :: os)) hax27 ⟨a70, c70, rfl, hT⟩
      have hg27 := hg27.drop
      have nd28 := nq.up hle27
      have hm := hm.up hle27
      generalize hTe : takeP (n.calm m.frm).s.part m = T at hT htl htx ⊢
      refine ⟨⟨hg27.at1 (by simp) nd28.cells, hg27.at1 (by simp) hb17, trivial⟩, ?_⟩
      refine RL.pp ?_
      refine RL.pu ?_
      refine RL.allocN rfl rfl rfl rfl ze42 hg27 ?_
      rintro b29 w29 Q29 (hg29 : Good _ s27 (Q29 :: A22 :: Q17 :: os)) hax29 hb29
      refine ⟨⟨hg29.at1 (by simp) nd28.cells, hg29.at1 (by simp) hb17, trivial⟩, ?_⟩
      refine RL.sB (b := b29) (i := 0) (j := 0) rfl rfl rfl ty42 rfl rfl hg29 rfl (hb29) rfl rfl ?_
      rintro w30 Q30 (hg30 : Good _ s27 (Q30 :: A22 :: Q17 :: os)) hax30 hb30
      refine ⟨⟨hg30.at1 (by simp) nd28.cells, hg30.at1 (by simp) hb17, trivial⟩, ?_⟩
      refine RL.pd ?_
      refine CW.seq ?_
      refine CW.seq (CW.plain ?_)
      refine RL.pu ?_
      refine RL.pd ?_
      refine CW.cond rfl (fun h74 => ?_) (fun h74 => ?_)
      ·
       refine CW.seq (CW.plain ?_)
       refine RL.pu ?_
       refine RL.ls 0 ty42 hb30 hg30 ?_
       refine RL.pu ?_
       refine RL.fi fl109_0 ?_
       refine RL.fi fl44_10 ?_
       refine RL.storeN (p := p) (i := 1) (j := 17) (h1 := _) (n1 := _) rfl rfl rfl ty42 rfl rfl hg30 rfl (nd28.cells) (NRest.putPart nd28.rest hT) rfl (by first | (simp [Value.cells, Value.oneCell']; done) | simp [Value.cells, Value.oneCell', putL]) (by first | exact Nat.le_of_ble_eq_true rfl | (simp; done) | (simp; omega) | omega) rfl ?_
       rintro w31 A31 (hg31 : Good _ s27 (Q30 :: A31 :: Q17 :: os)) hax31 nd31
       refine ⟨trivial, ?_⟩
       refine RL.done ?_
       refine CW.seq (CW.plain ?_)
       refine RL.pu ?_
       refine RL.fi fl56_1 ?_
       refine RL.lo 1 ty3 hb17 hg31 ?_
       refine RL.fi fl56_4 ?_
       refine RL.lo 4 ty22 hb17 hg31 ?_
       refine RL.fi fl42_2 ?_
       refine RL.lo 2 ty28 hb30 hg31 ?_
       refine RL.len rfl rfl rfl rfl sl28 rfl ?_
       refine RL.conv rfl rfl rfl rfl Tryz.underlying3 Tryz.underlying22 rfl ((by simp only [rng]; omega)) ?_
       refine RL.build rfl rfl rfl rfl ze56 pl56 rfl rfl ?_
       refine RL.call rfl rfl rfl rfl rfl ca113 (post_ct (m := { Msg.zero with kind := 8, to := m.frm, index := m.index, hint := T.1.data.length }) (y := Lay.none) (hg31.front 1 rfl) nd31 (hRq.of rfl hRq.2.1 hRq.2.2.1 hRq.2.2.2.1 rfl) { MsgOk.zero _ with kind := by simp [rng], to := hm.frm, index := hm.index, hint := by simp only [rng]; omega } (by show n.o.msgs.length ≤ _; omega)) ?_
       rintro v32 s32 A32 w32 hle32 (hg32 : Good _ s32 (A32 :: Q30 :: Q17 :: os)) hax32 ⟨rfl, ma32, mc32, nd32⟩
       have hm := hm.up hle32
       refine ⟨trivial, ?_⟩
       refine RL.done ?_
       refine CW.ret (ret (vs := []) rfl ?_)
       exact Post.mk (hle21.trans (hle27.trans hle32)) ((hg32.dropNext).dropNext) (hax17.trans ((Aux.drew _).trans (hax19.trans ((Aux.drew _).trans (hax21.trans (hax22.trans ((Aux.drew _).trans ((Aux.drew _).trans (hax27.trans (hax29.trans (hax30.trans (hax31.trans hax32)))))))))))) ⟨rfl, _, nd32.to (chunk_part hno (decide_f h51) hTe (by simpa using h74)).symm⟩
      ·
       refine CW.skip ?_
       refine CW.seq (CW.plain ?_)
       refine RL.pu ?_
       refine RL.ls 0 ty42 hb30 hg30 ?_
       refine RL.fi fl56_10 ?_
       refine RL.ls 10 ty27 hb17 hg30 ?_
       refine RL.call rfl rfl rfl rfl rfl ca137 (Whole_ct hg30 hT hm.voters hm.learners hms.2.2.1 (by omega)) ?_
       rintro v33 s33 B33 w33 hle33 (hg33 : Good _ s33 (B33 :: Q30 :: A22 :: Q17 :: os)) hax33 ⟨va, vc, la, lc, da, dc, rfl, hva, hla, hda⟩
       have hg33 := hg33.drop
       have nd34 := nd28.up hle33
       have hm := hm.up hle33
       refine ⟨trivial, ?_⟩
       refine RL.call rfl rfl rfl rfl rfl ca136 (install_ct (hg33.front 1 rfl) nd34 hSq hva hla hda) ?_
       rintro v35 s35 A35 w35 hle35 (hg35 : Good _ s35 (A35 :: Q30 :: Q17 :: os)) hax35 ⟨rfl, h35, nd35⟩
       have hm := hm.up hle35
       refine ⟨trivial, ?_⟩
       refine RL.done ?_
       refine CW.plain ?_
       refine RL.pu ?_
       refine RL.fi fl56_1 ?_
       refine RL.lo 1 ty3 hb17 hg35 ?_
       refine RL.fi fl56_4 ?_
       refine RL.lo 4 ty22 hb17 hg35 ?_
       refine RL.build rfl rfl rfl rfl ze56 pl56 rfl rfl ?_
       refine RL.call rfl rfl rfl rfl rfl ca113 (post_ct (m := { Msg.zero with kind := 6, to := m.frm, index := m.index }) (y := Lay.none) hg35 nd35 (hRq.install (by show rng .u64 T.1.index; rw [htx.1]; exact hm.index) (by show rng .u64 T.1.term; rw [htx.2]; exact hm.logTerm)) { MsgOk.zero _ with kind := by simp [rng], to := hm.frm, index := hm.index } (by rw [install_msgs]; omega)) ?_
       rintro v36 s36 A36 w36 hle36 (hg36 : Good _ s36 (A36 :: Q30 :: Q17 :: os)) hax36 ⟨rfl, ma36, mc36, nd36⟩
       have hm := hm.up hle36
       refine ⟨trivial, ?_⟩
       refine RL.done ?_
       refine fall (vs := []) rfl ?_
       exact Post.mk (hle21.trans (hle27.trans (hle33.trans (hle35.trans hle36)))) ((hg36.dropNext).dropNext) (hax17.trans ((Aux.drew _).trans (hax19.trans ((Aux.drew _).trans (hax21.trans (hax22.trans ((Aux.drew _).trans ((Aux.drew _).trans (hax27.trans (hax29.trans (hax30.trans (hax33.trans (hax35.trans hax36))))))))))))) ⟨rfl, _, nd36.to (chunk_all hno (decide_f h51) hTe (by simpa using h74)).symm⟩
     ·
      refine RL.allocN rfl rfl rfl rfl ze42 hg26 ?_
      rintro b37 w37 Q37 (hg37 : Good _ s21 (Q37 :: A22 :: Q17 :: os)) hax37 hb37
      refine ⟨⟨hg37.at1 (by simp) nq.cells, hg37.at1 (by simp) hb17, trivial⟩, ?_⟩
      refine RL.call rfl rfl rfl rfl rfl ca135 (Take_ct hg37 nq.part hm hpl) ?_
      rintro v38 s38 B38 w38 hle38 (hg38 : Good _ s38 (B38 :: Q37 :: A22 :: Q17 :: os)) hax38 ⟨a70, c70, rfl, hT⟩
      have hg38 := hg38.drop
      have nd39 := nq.up hle38
      have hm := hm.up hle38
      generalize hTe : takeP (n.calm m.frm).s.part m = T at hT htl htx ⊢
      refine ⟨⟨hg38.at1 (by simp) nd39.cells, hg38.at1 (by simp) hb17, trivial⟩, ?_⟩
      refine RL.pp ?_
      refine RL.pu ?_
      refine RL.sB (b := b37) (i := 0) (j := 0) rfl rfl rfl ty42 rfl rfl hg38 rfl (hb37) rfl rfl ?_
      rintro w40 Q40 (hg40 : Good _ s38 (Q40 :: A22 :: Q17 :: os)) hax40 hb40
      refine ⟨⟨hg40.at1 (by simp) nd39.cells, hg40.at1 (by simp) hb17, trivial⟩, ?_⟩
      refine RL.pd ?_
      refine CW.seq ?_
      refine CW.seq (CW.plain ?_)
      refine RL.pu ?_
      refine RL.pd ?_
      refine CW.cond rfl (fun h74 => ?_) (fun h74 => ?_)
      ·
       refine CW.seq (CW.plain ?_)
       refine RL.pu ?_
       refine RL.ls 0 ty42 hb40 hg40 ?_
       refine RL.pu ?_
       refine RL.fi fl109_0 ?_
       refine RL.fi fl44_10 ?_
       refine RL.storeN (p := p) (i := 1) (j := 17) (h1 := _) (n1 := _) rfl rfl rfl ty42 rfl rfl hg40 rfl (nd39.cells) (NRest.putPart nd39.rest hT) rfl (by first | (simp [Value.cells, Value.oneCell']; done) | simp [Value.cells, Value.oneCell', putL]) (by first | exact Nat.le_of_ble_eq_true rfl | (simp; done) | (simp; omega) | omega) rfl ?_
       rintro w41 A41 (hg41 : Good _ s38 (Q40 :: A41 :: Q17 :: os)) hax41 nd41
       refine ⟨trivial, ?_⟩
       refine RL.done ?_
       refine CW.seq (CW.plain ?_)
       refine RL.pu ?_
       refine RL.fi fl56_1 ?_
       refine RL.lo 1 ty3 hb17 hg41 ?_
       refine RL.fi fl56_4 ?_
       refine RL.lo 4 ty22 hb17 hg41 ?_
       refine RL.fi fl42_2 ?_
       refine RL.lo 2 ty28 hb40 hg41 ?_
       refine RL.len rfl rfl rfl rfl sl28 rfl ?_
       refine RL.conv rfl rfl rfl rfl Tryz.underlying3 Tryz.underlying22 rfl ((by simp only [rng]; omega)) ?_
       refine RL.build rfl rfl rfl rfl ze56 pl56 rfl rfl ?_
       refine RL.call rfl rfl rfl rfl rfl ca113 (post_ct (m := { Msg.zero with kind := 8, to := m.frm, index := m.index, hint := T.1.data.length }) (y := Lay.none) (hg41.front 1 rfl) nd41 (hRq.of rfl hRq.2.1 hRq.2.2.1 hRq.2.2.2.1 rfl) { MsgOk.zero _ with kind := by simp [rng], to := hm.frm, index := hm.index, hint := by simp only [rng]; omega } (by show n.o.msgs.length ≤ _; omega)) ?_
       rintro v42 s42 A42 w42 hle42 (hg42 : Good _ s42 (A42 :: Q40 :: Q17 :: os)) hax42 ⟨rfl, ma42, mc42, nd42⟩
       have hm := hm.up hle42
       refine ⟨trivial, ?_⟩
       refine RL.done ?_
       refine CW.ret (ret (vs := []) rfl ?_)
       exact Post.mk (hle21.trans (hle38.trans hle42)) ((hg42.dropNext).dropNext) (hax17.trans ((Aux.drew _).trans (hax19.trans ((Aux.drew _).trans (hax21.trans (hax22.trans ((Aux.drew _).trans ((Aux.drew _).trans (hax37.trans (hax38.trans (hax40.trans (hax41.trans hax42)))))))))))) ⟨rfl, _, nd42.to (chunk_part hno (decide_f h51) hTe (by simpa using h74)).symm⟩
      ·
       refine CW.skip ?_
       refine CW.seq (CW.plain ?_)
       refine RL.pu ?_
       refine RL.ls 0 ty42 hb40 hg40 ?_
       refine RL.fi fl56_10 ?_
       refine RL.ls 10 ty27 hb17 hg40 ?_
       refine RL.call rfl rfl rfl rfl rfl ca137 (Whole_ct hg40 hT hm.voters hm.learners hms.2.2.1 (by omega)) ?_
       rintro v43 s43 B43 w43 hle43 (hg43 : Good _ s43 (B43 :: Q40 :: A22 :: Q17 :: os)) hax43 ⟨va, vc, la, lc, da, dc, rfl, hva, hla, hda⟩
       have hg43 := hg43.drop
       have nd44 := nd39.up hle43
       have hm := hm.up hle43
       refine ⟨trivial, ?_⟩
       refine RL.call rfl rfl rfl rfl rfl ca136 (install_ct (hg43.front 1 rfl) nd44 hSq hva hla hda) ?_
       rintro v45 s45 A45 w45 hle45 (hg45 : Good _ s45 (A45 :: Q40 :: Q17 :: os)) hax45 ⟨rfl, h45, nd45⟩
       have hm := hm.up hle45
       refine ⟨trivial, ?_⟩
       refine RL.done ?_
       refine CW.plain ?_
       refine RL.pu ?_
       refine RL.fi fl56_1 ?_
       refine RL.lo 1 ty3 hb17 hg45 ?_
       refine RL.fi fl56_4 ?_
       refine RL.lo 4 ty22 hb17 hg45 ?_
       refine RL.build rfl rfl rfl rfl ze56 pl56 rfl rfl ?_
       refine RL.call rfl rfl rfl rfl rfl ca113 (post_ct (m := { Msg.zero with kind := 6, to := m.frm, index := m.index }) (y := Lay.none) hg45 nd45 (hRq.install (by show rng .u64 T.1.index; rw [htx.1]; exact hm.index) (by show rng .u64 T.1.term; rw [htx.2]; exact hm.logTerm)) { MsgOk.zero _ with kind := by simp [rng], to := hm.frm, index := hm.index } (by rw [install_msgs]; omega)) ?_
       rintro v46 s46 A46 w46 hle46 (hg46 : Good _ s46 (A46 :: Q40 :: Q17 :: os)) hax46 ⟨rfl, ma46, mc46, nd46⟩
       have hm := hm.up hle46
       refine ⟨trivial, ?_⟩
       refine RL.done ?_
       refine fall (vs := []) rfl ?_
       exact Post.mk (hle21.trans (hle38.trans (hle43.trans (hle45.trans hle46)))) ((hg46.dropNext).dropNext) (hax17.trans ((Aux.drew _).trans (hax19.trans ((Aux.drew _).trans (hax21.trans (hax22.trans ((Aux.drew _).trans ((Aux.drew _).trans (hax37.trans (hax38.trans (hax40.trans (hax43.trans (hax45.trans hax46))))))))))))) ⟨rfl, _, nd46.to (chunk_all hno (decide_f h51) hTe (by simpa using h74)).symm⟩
end
end Go.Lw
