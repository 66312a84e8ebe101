/-
  Parts of the proof of RaftcoreStatusUptoSaid: the walk engine: KdD, KdE, KdB, Open, OpW, OpB, KdF, KdO, KdH, KdG.
-/
import Derived.Test.YtpjclnomaemokaaGreatStA7
import Derived.ProofKit
import Derived.OpenShut
import Derived.Carry
import Derived.Test.YtpjclnomaemokaaGreatRows

/-
 PLAIN: how much a node's state may hold, step by step: messages, inputs.
-/
namespace Go.Lw
section
variable {c d : Nat} {n : Node}
theorem fit_calm {f : Int} (h : Fit c n.s) : Fit c (n.calm f).s := { fit_follow (l := f) h h.term with }
theorem fit_grow {m : Msg} (h : Fit c n.s) (hm : MFit d m) (hc : c + d ≤ 1099511627776) : Fit (c + d) (n.grow m).s := by
 have hw := (fit_calm (f := m.frm) h).mono (Nat.le_add_right c d)
 by_cases h0 : n.s.role = 4
 ·
  unfold Node.grow; rw [if_pos h0]; exact h.mono (Nat.le_add_right c d)
 by_cases h1 : m.index < (n.calm m.frm).s.hard.commit
 ·
  rw [grow_old h0 h1]; exact hw
 obtain ⟨G, hG⟩ : ∃ G, G = mergeP (n.calm m.frm).s.log (n.calm m.frm).s.hard.commit m.index m.logTerm m.entries := ⟨_, rfl⟩
 have hl : LFit (c + d) G.log := by rw [hG]; exact mergeP_fit (fit_calm h).log hm.entries hm.count hc
 by_cases h2 : G.err = 1 ∨ G.err = 62 ∨ m.entries.any (Node.strange (n.calm m.frm).s.hard.term) = true
 ·
  rw [grow_bad h0 h1 hG.symm h2]; exact hw
 by_cases h3 : G.err = 61
 ·
  rw [grow_gap h0 h1 hG.symm h2 h3]; exact hw
 rw [grow_ok h0 h1 hG.symm h2 h3]
 have hc1 := hw.commit
 have hc2 := hm.commit
 have hcz : Lw.rng .u64 (max (n.calm m.frm).s.hard.commit (min m.commit (m.index + m.entries.length))) := by
  simp only [Lw.rng] at hc1 hc2 ⊢
  rw [Int.max_def, Int.min_def]
  split <;> split <;> constructor <;> omega
 exact { hw with log := hl, commit := hcz }
theorem fit_set {k : Nat} {q : Peer} (h : Fit c n.s) (hq : Lw.rng .u64 q.mat) : Fit c (n.raise k q).s :=
 { h with
  peers := by simp only [Node.raise, Node.wPeers, List.length_set]; exact h.peers
  mats := fun p hp => by
   rcases List.mem_or_eq_of_mem_set hp with hp | rfl
   ·
    exact h.mats p hp
   ·
    exact hq }
theorem peer_find {o : Int} {q : Peer} (hp : n.peer o = some q) : ∃ k, n.s.peers.findIdx? (fun p => decide (p.node = o)) = some k := by
 cases hf : n.s.peers.findIdx? (fun p => decide (p.node = o)) with
 | some k => exact ⟨k, rfl⟩
 | none =>
  have h1 := List.findIdx?_eq_none_iff.1 hf
  have h2 := h1 q (List.mem_of_find?_eq_some hp)
  have h3 := List.find?_some hp
  rw [h3] at h2; cases h2
noncomputable def Node.mid (a b : Node) (q : Peer) : Node := if a.s.hard.commit < b.s.hard.commit then b.spread else if q.next ≤ b.last then b.feed q else b
theorem after_fit {a b : Node} {q : Peer} {frm : Int} (h : Fit c (Node.mid a b q).s) : Fit c (Node.after a b q frm).s := by
 have e : Node.after a b q frm = if a.s.transfer = frm ∧ q.mat = (Node.mid a b q).last then (Node.mid a b q).post { Msg.zero with kind := 9, to := frm } else Node.mid a b q := rfl
 rw [e]
 generalize Node.mid a b q = z at h
 split <;> exact h
theorem fit_grown {m : Msg} (h : Fit c n.s) (hm : MFit d m) : Fit c (n.grown m).s := by
 by_cases hno : n.s.role ≠ 4 ∨ n.peer m.frm = none ∨ n.last < m.index
 ·
  rw [grown_no hno]; exact h
 have h0 : n.s.role = 4 := Classical.byContradiction fun z => hno (.inl z)
 have h2 : ¬ n.last < m.index := fun z => hno (.inr (.inr z))
 obtain ⟨q, hq⟩ : ∃ q, n.peer m.frm = some q := by
  cases hp : n.peer m.frm with
  | none => exact absurd (.inr (.inl hp)) hno
  | some q => exact ⟨q, rfl⟩
 obtain ⟨k, hix⟩ := peer_find hq
 have hqm : Lw.rng .u64 q.mat := h.mats q (List.mem_of_find?_eq_some hq)
 by_cases h3 : m.reject = true
 ·
  rw [grown_rej h0 hq h2 h3 hix _ rfl]
  exact fit_feed (fit_set h hqm)
 ·
  rw [grown_yes h0 hq h2 h3 hix]
  have hu : Fit c (n.raise k (q.up m.index)).count.s := fit_count (fit_set h (by
   have h5 := hm.index
   simp only [Peer.up]
   rw [Int.max_def]; split <;> assumption))
  split
  ·
   exact hu
  ·
   refine after_fit ?_
   unfold Node.mid
   split
   ·
    exact fit_spread hu
   ·
    split
    ·
     exact fit_feed hu
    ·
     exact hu
theorem fit_install {s : Snap} (h : Fit c n.s) (hc : c ≤ 1099511627776) (h1 : Lw.rng .u64 s.index) (h2 : Lw.rng .u64 s.term) (h3 : s.data.length ≤ c) (h4 : s.conf.within c) (h5 : s.index < p61) : Fit c (n.install s).s := by
 have hx := h.log.runX hc
 unfold Node.install
 dsimp only
 split
 ·
  rename_i j hj
  have hf := List.findIdx?_eq_some_iff_getElem.1 hj
  obtain ⟨hj0, hj1, _⟩ := hf
  have hj2 : (n.s.log.entries[j]).index = s.index := (of_decide_eq_true hj1).1
  have hj3 := hx j _ (List.getElem?_eq_getElem hj0)
  exact { h with
   commit := h1
   log := ⟨h1, h2, h4, h3, fun e he => h.log.entries e (List.mem_of_mem_drop he), Nat.le_trans (by simp only [List.length_drop]; omega) h.log.count, h5, fun k e hk => by
    simp only [List.getElem?_drop] at hk
    have := hx _ e hk
    have hz := (List.getElem?_eq_some_iff.1 hk).1
    have hcnt := h.log.count
    simp only [Lw.rng, p61] at h1 h5
    rw [wrap_id (by simp only; omega) (by simp only; omega)]
    simp only
    omega⟩
   pindex := by simp [Lw.rng, Coming.zero], pterm := by simp [Lw.rng, Coming.zero], part := Nat.zero_le _ }
 ·
  exact { h with
   commit := h1
   log := ⟨h1, h2, h4, h3, fun e he => (by cases he), Nat.zero_le _, h5, fun k e hk => by simp at hk⟩
   pindex := by simp [Lw.rng, Coming.zero], pterm := by simp [Lw.rng, Coming.zero], part := Nat.zero_le _ }
theorem fit_chunk {m : Msg} (h : Fit c n.s) (hm : MFit d m) (hc : c + d ≤ 1099511627776) (hi61 : m.index < p61) : Fit (c + d) (n.chunk m).s := by
 have hw := (fit_calm (f := m.frm) h).mono (Nat.le_add_right c d)
 by_cases h0 : n.s.role = 4 ∨ checkP m.conf ≠ 0 ∨ n.s.hard.term < m.logTerm
 ·
  rw [chunk_no h0]; exact h.mono (Nat.le_add_right c d)
 by_cases h1 : m.index ≤ (n.calm m.frm).s.hard.commit
 ·
  rw [chunk_old h0 h1]; exact hw
 have hl := takeP_len (n.calm m.frm).s.part m
 have hi := takeP_ix (n.calm m.frm).s.part m
 obtain ⟨T, hT⟩ : ∃ T, T = takeP (n.calm m.frm).s.part m := ⟨_, rfl⟩
 rw [← hT] at hl hi
 have h4 := (fit_calm (f := m.frm) h).part
 have h5 := hm.data
 by_cases h2 : T.2 = false
 ·
  rw [chunk_part h0 h1 hT.symm h2]
  exact { hw with pindex := by show Lw.rng .u64 T.1.index; rw [hi.1]; exact hm.index, pterm := by show Lw.rng .u64 T.1.term; rw [hi.2]; exact hm.logTerm, part := by show T.1.data.length ≤ _; omega }
 ·
  rw [chunk_all h0 h1 hT.symm h2]
  refine fit_install hw hc ?_ ?_ ?_ ?_ ?_
  ·
   show Lw.rng .u64 T.1.index; rw [hi.1]; exact hm.index
  ·
   show Lw.rng .u64 T.1.term; rw [hi.2]; exact hm.logTerm
  ·
   show T.1.data.length ≤ _; omega
  ·
   exact hm.conf.mono (by omega)
  ·
   show T.1.index < p61; rw [hi.1]; exact hi61
theorem fit_chunked {m : Msg} (h : Fit c n.s) : Fit c (n.chunked m).s := by
 unfold Node.chunked
 split
 ·
  exact h
 ·
  split
  ·
   rw [Node.piece_s]; exact h
  ·
   exact h
theorem fit_heard {m : Msg} (h : Fit c n.s) (hm : MFit d m) (hc : c + d ≤ 1099511627776) (hi61 : m.index < p61) : Fit (c + d + 3) (n.heard m).s := by
 unfold Node.heard
 split
 ·
  exact (fit_vote h hm.frm).mono (by omega)
 split
 ·
  exact (fit_voted h).mono (by omega)
 split
 ·
  exact (fit_grow h hm hc).mono (by omega)
 split
 ·
  exact (fit_grown h hm).mono (by omega)
 split
 ·
  exact (fit_chunk h hm hc hi61).mono (by omega)
 split
 ·
  exact (fit_chunked h).mono (by omega)
 ·
  unfold Node.now
  split
  ·
   exact (fit_stand h).mono (by omega)
  ·
   exact h.mono (by omega)
theorem fit_message {m : Msg} (h : Fit c n.s) (hm : MFit d m) (hc : c + d ≤ 1099511627776) : Fit (c + d + 3) (n.message m).s := by
 by_cases h0 : n.deaf m
 ·
  rw [message_deaf h0]; exact h.mono (by omega)
 by_cases h1 : m.kind = 1
 ·
  rw [message_1 h0 h1]; exact h.mono (by omega)
 by_cases h2 : m.kind = 2
 ·
  rw [message_2 h0 h2]; exact (fit_preVoted h hm.term).mono (by omega)
 by_cases h3 : m.kind < 3 ∨ 9 < m.kind
 ·
  rw [message_no h0 h1 h2 h3]; exact h.mono (by omega)
 have hf : Fit c (n.risen m).s := by
  unfold Node.risen
  split
  ·
   exact fit_follow h hm.term
  ·
   exact h
 by_cases h4 : m.term < (n.risen m).s.hard.term
 ·
  rw [message_late h0 h1 h2 h3 h4]; exact (fit_late hf).mono (by omega)
 ·
  rw [message_on h0 h1 h2 h3 h4]; exact fit_heard hf hm hc (Classical.byContradiction fun z => h0 (.inr (.inr (.inr (.inr (.inr (.inl (by omega))))))))
structure IFit (d : Nat) (i : Inp) : Prop where
 msg : MFit d i.msg
 data : i.data.length ≤ d
theorem fit_act {i : Inp} (h : Fit c n.s) (hi : IFit d i) (hc : c + d ≤ 1099511627776) : Fit (c + d + 3) (n.act i).1.s := by
 unfold Node.act
 split
 ·
  exact (fit_tick h).mono (by omega)
 split
 ·
  exact fit_message h hi.msg hc
 split
 ·
  exact (fit_asked (h.mono (Nat.le_add_right c d)) (by have := hi.data; omega)).mono (by omega)
 ·
  exact h.mono (by omega)
theorem fit_step {r : Raft} {i : Inp} (h : Fit c r) (hi : IFit d i) (hc : c + d ≤ 1099511627776) : Fit (c + d + 3) (stepP r i).1 := by
 by_cases he : ((newN r).act i).2 ≠ 0
 ·
  rw [stepP_err he]; exact h.mono (by omega)
 ·
  rw [stepP_ok he]; exact fit_act (n := newN r) h hi hc
theorem Conf.within.small {x : Conf} (h : x.within c) (hc : c ≤ 1073741824) : x.small := ⟨Nat.le_trans h.1 hc, Nat.le_trans h.2 hc⟩
theorem LFit.small {l : Log} (h : LFit c l) (hc : c ≤ 1073741824) : l.small :=
 ⟨h.conf.small hc, Nat.le_trans h.data hc, fun e he => ⟨Nat.le_trans (h.entries e he).2.2.1 hc, (h.entries e he).2.2.2.small hc⟩, Nat.le_trans h.count (by omega)⟩
theorem MFit.small {m : Msg} (h : MFit d m) (hd : d ≤ 1073741824) : m.small := ⟨fun e he => ⟨Nat.le_trans (h.entries e he).2.2.1 hd, (h.entries e he).2.2.2.small hd⟩, Nat.le_trans h.count hd, h.conf.small hd, Nat.le_trans h.data hd⟩
theorem fit_bears {r : Raft} {i : Inp} (h : Fit c r) (hi : IFit d i) (hc : c + d + 3 ≤ 1073741824) : (newN r).bears i := by
 have h1 := h.log.count
 have h2 := h.peers
 have h3 := h.ballots
 have h4 := hi.msg.count
 have h5 := hi.msg.data
 have h6 := h.part
 have h7 := hi.data
 refine ⟨⟨⟨h.log.small (by omega), ?_, ?_, Nat.zero_le _, ?_⟩, ?_, ?_, ?_, hi.msg.small (by omega)⟩, ?_, (fit_changed (n := newN r) h _ _).small (by omega)⟩
 ·
  show r.log.entries.length + 1 ≤ _; omega
 ·
  show r.peers.length ≤ _; omega
 ·
  show 0 + 1 ≤ 1099511627776; omega
 ·
  show r.ballots.length ≤ _; omega
 ·
  show r.log.entries.length + _ ≤ _; omega
 ·
  show r.part.data.length + _ ≤ _; omega
 ·
  omega
end
end Go.Lw

/-
 The reference's log and Status.
-/
namespace Go.Lw
open Go.Proofs
attribute [local irreducible] RL RA
theorem confE_snoc (e : Entry) : ∀ l : List Entry, confE (l ++ [e]) = if e.kind = 3 then some (e.conf, e.index) else confE l
 | [] => by simp only [List.nil_append, confE]
 | x :: l => by
  simp only [List.cons_append, confE, confE_snoc e l]
  by_cases hk : e.kind = 3
  ·
   simp only [if_pos hk]
  ·
   simp only [if_neg hk]
section
variable {w : World} {s : Res} {os : List Res}
set_option maxRecDepth 100000 in
theorem RefLast_ct {l : Log} {h : Hd} (hg : Good w s os) (hl : LogAt s s l h) :
  Calls Tryz.prog 39 #[logA l h] w (PostV w s os fun q => q = .tuple #[u64 (lastP l).1, u64 (lastP l).2]) := by
 have hm := hl.entries.le_max
 simp only [maxLen] at hm
 refine enter (l := [logA l h]) Tryz.func39 rfl Tryz.ntmps39 rfl ?_
 refine CW.seq (CW.plain ?_)
 refine RL.boxN rfl rfl rfl rfl rfl hg ?_
 rintro b1 w1 Q1 (hg1 : Good _ s (Q1 :: os)) hax1 hb1
 refine ⟨trivial, ?_⟩
 refine RL.pu ?_
 refine RL.pu ?_
 refine RL.done ?_
 refine CW.seq ?_
 refine CW.seq (CW.plain ?_)
 refine RL.fi fl33_1 ?_
 refine RL.load (ad := ⟨b1, 0, none⟩) (j := 5) rfl rfl rfl rfl ty31 rfl (Holds.of hb1) (hg1.mem (by simp)) rfl ?_
 refine RL.len rfl rfl rfl rfl sl31 rfl ?_
 refine RL.pu ?_
 refine RL.done ?_
 refine CW.cond rfl (fun h8 => ?_) (fun h8 => ?_)
 ·
  have h0 : l.entries = [] := by simpa using h8
  refine CW.seq ?_
  have hg2 := hg1.drew
  refine CW.draws [(true, 0), (true, 1), (true, 2), (true, 3), (true, 4), (true, 5), (false, 6), (false, 7)] (fun w => At1 b1 _ w ∧ True) mixed (by kernel_rfl) (by kernel_rfl) (by kernel_rfl) (by kernel_rfl) (⟨hg2.at1 (by simp) hb1, trivial⟩) ?_
  refine RL.fi fl33_0 ?_
  refine RL.fi fl30_0 ?_
  refine RL.loadT (ad := ⟨b1, 0, none⟩) (j := 0) rfl rfl rfl rfl ty22 rfl (At1.holds) (fun w h => h.1.inn) rfl ?_
  refine RL.fi fl33_0 ?_
  refine RL.fi fl30_1 ?_
  refine RL.loadT (ad := ⟨b1, 0, none⟩) (j := 1) rfl rfl rfl rfl ty22 rfl (At1.holds) (fun w h => h.1.inn) rfl ?_
  refine RL.pu ?_
  refine RL.pu ?_
  refine RL.done ?_
  refine CW.ret (ret (vs := [_, _]) ⟨_, _, rfl, rfl, _, _, rfl, rfl, rfl⟩ ?_)
  exact PostV.mk (hg2.drop) (hax1.trans (Aux.drew _)) (by simp only [lastP, h0, List.getLast?_nil]; rfl)
 ·
  have h0 : 0 < l.entries.length := List.length_pos_iff.2 (by simpa using h8)
  refine CW.skip ?_
  refine CW.seq (CW.plain ?_)
  refine RL.fi fl33_1 ?_
  refine RL.load (ad := ⟨b1, 0, none⟩) (j := 5) rfl rfl rfl rfl ty31 rfl (Holds.of hb1) (hg1.mem (by simp)) rfl ?_
  refine RL.fi fl33_1 ?_
  refine RL.load (ad := ⟨b1, 0, none⟩) (j := 5) rfl rfl rfl rfl ty31 rfl (Holds.of hb1) (hg1.mem (by simp)) rfl ?_
  refine RL.len rfl rfl rfl rfl sl31 rfl ?_
  refine RL.sub rfl rfl rfl rfl rfl rfl ((by simp only [rng]; omega)) ?_
  refine RL.idxL rfl rfl rfl rfl sl31 rfl rfl hl.entries (by omega) (by omega) ?_
  rintro q vs hvl hH ⟨ea, ec, ea1, ec1, ea2, ec2, rfl, er1, er2, er3, eh1, eh2, eh3⟩
  refine RL.loads (j := 0) (us := _) rfl rfl rfl rfl ty65 rfl (hH) (hg1.sh) rfl rfl ?_
  refine RL.allocN rfl rfl rfl rfl ze65 hg1 ?_
  rintro b3 w3 Q3 (hg3 : Good _ s (Q3 :: Q1 :: os)) hax3 hb3
  refine ⟨trivial, ?_⟩
  refine RL.sB (b := b3) (i := 0) (j := 0) rfl rfl rfl ty65 rfl rfl hg3 rfl (hb3) rfl rfl ?_
  rintro w4 Q4 (hg4 : Good _ s (Q4 :: Q1 :: os)) hax4 hb4
  refine ⟨trivial, ?_⟩
  refine RL.done ?_
  refine CW.seq ?_
  have hg5 := hg4.drew
  refine CW.draws [(true, 0), (true, 1), (true, 2), (true, 3), (false, 4), (false, 5)] (fun w => At1 b3 _ w ∧ True) mixed (by kernel_rfl) (by kernel_rfl) (by kernel_rfl) (by kernel_rfl) (⟨hg5.at1 (by simp) hb4, trivial⟩) ?_
  refine RL.fi fl65_0 ?_
  refine RL.loadT (ad := ⟨b3, 0, none⟩) (j := 0) rfl rfl rfl rfl ty22 rfl (At1.holds) (fun w h => h.1.inn) rfl ?_
  refine RL.fi fl65_1 ?_
  refine RL.loadT (ad := ⟨b3, 0, none⟩) (j := 1) rfl rfl rfl rfl ty22 rfl (At1.holds) (fun w h => h.1.inn) rfl ?_
  refine RL.pu ?_
  refine RL.pu ?_
  refine RL.done ?_
  refine CW.ret (ret (vs := [_, _]) ⟨_, _, rfl, rfl, _, _, rfl, rfl, rfl⟩ ?_)
  have hz : l.entries.getLast? = some l.entries[((l.entries.length : Int) - 1).toNat] := by rw [List.getLast?_eq_getElem?, List.getElem?_eq_getElem (by omega)]; congr 2; omega
  exact PostV.mk ((hg5.drop).drop) (hax1.trans (hax3.trans (hax4.trans (Aux.drew _)))) (by simp only [lastP, hz]; rfl)
set_option maxRecDepth 100000 in
set_option maxHeartbeats 1000000 in
theorem RefUpto_ct {l : Log} {h : Hd} {upto : Int} (hg : Good w s os) (hl : LogAt s s l h) (hS : l.small) (hu : rng .u64 upto) (hle : ∀ e ∈ l.entries, e.index ≤ upto) :
  Calls Tryz.prog 48 #[logA l h, u64 upto] w (Post w s os fun s' _ q => ∃ vs, q = .tuple #[.agg vs.toArray, u64 (confP l).2] ∧ RConf s' vs (confP l).1) := by
 have hlen := hS.2.2.2
 have hcs := confP_small hS
 refine enter (l := [logA l h, u64 upto]) Tryz.func48 rfl Tryz.ntmps48 rfl ?_
 refine CW.seq (CW.plain ?_)
 refine RL.boxN rfl rfl rfl rfl rfl hg ?_
 rintro b6 w6 Q6 (hg6 : Good _ s (Q6 :: os)) hax6 hb6
 refine ⟨trivial, ?_⟩
 refine RL.allocN rfl rfl rfl rfl ze27 hg6 ?_
 rintro b7 w7 Q7 (hg7 : Good _ s (Q7 :: Q6 :: os)) hax7 hb7
 refine ⟨trivial, ?_⟩
 refine RL.pu ?_
 refine RL.done ?_
 refine CW.seq (CW.plain ?_)
 refine RL.fi fl33_0 ?_
 refine RL.fi fl30_2 ?_
 refine RL.loads (ad := ⟨b6, 0, none⟩) (j := 2) rfl rfl rfl rfl ty27 rfl (Holds.of hb6) (hg7.mem (by simp)) rfl rfl ?_
 refine RL.allocN rfl rfl rfl rfl ze27 hg7 ?_
 rintro b8 w8 Q8 (hg8 : Good _ s (Q8 :: Q7 :: Q6 :: os)) hax8 hb8
 refine ⟨trivial, ?_⟩
 refine RL.sB (b := b8) (i := 0) (j := 0) rfl rfl rfl ty27 rfl rfl hg8 rfl (hb8) rfl rfl ?_
 rintro w9 Q9 (hg9 : Good _ s (Q9 :: Q7 :: Q6 :: os)) hax9 hb9
 refine ⟨trivial, ?_⟩
 refine RL.done ?_
 refine CW.seq (CW.plain ?_)
 refine RL.pu ?_
 refine RL.done ?_
 refine CW.seq ?_
 refine CW.seq (CW.plain ?_)
 refine RL.pu ?_
 refine RL.done ?_
 refine CW.block ?_
 refine CW.loop (σ := Nat) (fun j E w' => ∃ Q va vc la lc, ∃ k : Nat, ∃ cur : Conf × Int, Good w' s (Q :: Q7 :: Q6 :: os) ∧ Aux w w' ∧ E = [(1, u64 upto), (2, ptr b6), (4, ptr b7), (6, ptr b8), (7, u64 cur.2), (8, i64 k)] ∧ k + j = l.entries.length ∧ cur = (confE (l.entries.take k)).getD (l.base.conf, 0) ∧ Q b8 = some (.cells #[.slice va cur.1.voters.length vc, .slice la cur.1.learners.length lc] 27 (0, 0)) ∧ RConf s [.slice va cur.1.voters.length vc, .slice la cur.1.learners.length lc] cur.1) (fun j => j) l.entries.length [(1, u64 upto), (2, ptr b6), (4, ptr b7), (6, ptr b8), (7, u64 0), (8, i64 0)] ⟨rfl, rfl, rfl, rfl, rfl, rfl, trivial⟩ ⟨_, _, _, _, _, 0, (l.base.conf, 0), (((hg9.front 2 rfl).front 2 rfl).front 2 rfl), (hax6.trans (hax7.trans (hax8.trans hax9))), rfl, by omega, rfl, hb9, hl.conf⟩ ?_
 rintro j E wL ⟨QL, va, vc, la, lc, k, cur, hgL, haxL, rfl, hk, hcur, hQL, hCL⟩
 refine CW.seq ?_
 refine CW.seq (CW.plain ?_)
 refine RL.pu ?_
 refine RL.fi fl33_1 ?_
 refine RL.load (ad := ⟨b6, 0, none⟩) (j := 5) rfl rfl rfl rfl ty31 rfl (Holds.of hb6) (hgL.mem (by simp)) rfl ?_
 refine RL.len rfl rfl rfl rfl sl31 rfl ?_
 refine RL.pu ?_
 refine RL.done ?_
 refine CW.cond rfl (fun h16 => ?_) (fun h16 => ?_)
 ·
  have hlt : k < l.entries.length := by have := decide_t h16; omega
  have htk : l.entries.take (k + 1) = l.entries.take k ++ [l.entries[k]] := by simp only [List.take_add_one, List.getElem?_eq_getElem hlt]; rfl
  refine CW.skip ?_
  refine CW.seq ?_
  refine CW.block ?_
  refine CW.seq (CW.plain ?_)
  refine RL.fi fl33_1 ?_
  refine RL.load (ad := ⟨b6, 0, none⟩) (j := 5) rfl rfl rfl rfl ty31 rfl (Holds.of hb6) (hgL.mem (by simp)) rfl ?_
  refine RL.pu ?_
  refine RL.idxL rfl rfl rfl rfl sl31 rfl rfl hl.entries (by omega) (by omega) ?_
  rintro q vs hvl hH ⟨ea, ec, ea1, ec1, ea2, ec2, rfl, er1, er2, er3, eh1, eh2, eh3⟩
  refine RL.fi fl65_2 ?_
  refine RL.load (j := 2) rfl rfl rfl rfl ty63 rfl (hH) (hgL.sh) rfl ?_
  refine RL.pu ?_
  refine RL.pu ?_
  refine RL.part 26 rfl (fun h26 => ?_) (fun h26 => ?_)
  ·
   refine RL.fi fl33_1 ?_
   refine RL.load (ad := ⟨b6, 0, none⟩) (j := 5) rfl rfl rfl rfl ty31 rfl (Holds.of hb6) (hgL.mem (by simp)) rfl ?_
   refine RL.pu ?_
   refine RL.idxL rfl rfl rfl rfl sl31 rfl rfl hl.entries (by omega) (by omega) ?_
   rintro q2 vs2 hvl2 hH2 ⟨fa, fc, fa1, fc1, fa2, fc2, rfl, fr1, fr2, fr3, fh1, fh2, fh3⟩
   refine RL.fi fl65_0 ?_
   refine RL.load (j := 0) rfl rfl rfl rfl ty22 rfl (hH2) (hgL.sh) rfl ?_
   refine RL.pu ?_
   refine RL.pu ?_
   refine RL.pu ?_
   refine RL.done ?_
   refine CW.cond rfl (fun h35 => ?_) (fun h35 => ?_)
   ·
    refine CW.seq (CW.plain ?_)
    refine RL.fi fl33_1 ?_
    refine RL.load (ad := ⟨b6, 0, none⟩) (j := 5) rfl rfl rfl rfl ty31 rfl (Holds.of hb6) (hgL.mem (by simp)) rfl ?_
    refine RL.pu ?_
    refine RL.idxL rfl rfl rfl rfl sl31 rfl rfl hl.entries (by omega) (by omega) ?_
    rintro q3 vs3 hvl3 hH3 ⟨ga, gc, ga1, gc1, ga2, gc2, rfl, gr1, gr2, gr3, gh1, gh2, gh3⟩
    refine RL.fi fl65_4 ?_
    refine RL.loads (j := 4) (us := [.slice ga1 l.entries[k].conf.voters.length gc1, .slice ga2 l.entries[k].conf.learners.length gc2]) rfl rfl rfl rfl ty27 rfl (hH3) (hgL.sh) rfl rfl ?_
    refine RL.sB (b := b8) (i := 0) (j := 0) rfl rfl rfl ty27 rfl rfl hgL rfl (hQL) rfl rfl ?_
    rintro w10 Q10 (hg10 : Good _ s (Q10 :: Q7 :: Q6 :: os)) hax10 hb10
    refine ⟨trivial, ?_⟩
    refine RL.done ?_
    refine CW.plain ?_
    refine RL.fi fl33_1 ?_
    refine RL.load (ad := ⟨b6, 0, none⟩) (j := 5) rfl rfl rfl rfl ty31 rfl (Holds.of hb6) (hg10.mem (by simp)) rfl ?_
    refine RL.pu ?_
    refine RL.idxL rfl rfl rfl rfl sl31 rfl rfl hl.entries (by omega) (by omega) ?_
    rintro q4 vs4 hvl4 hH4 ⟨ka, kc, ka1, kc1, ka2, kc2, rfl, kr1, kr2, kr3, kh1, kh2, kh3⟩
    refine RL.fi fl65_0 ?_
    refine RL.load (j := 0) rfl rfl rfl rfl ty22 rfl (hH4) (hg10.sh) rfl ?_
    refine RL.pu ?_
    refine RL.done ?_
    refine CW.plain ?_
    refine RL.pu ?_
    refine RL.add rfl rfl rfl rfl rfl rfl ((by simp only [rng]; omega)) ?_
    refine RL.pu ?_
    refine RL.done ?_
    cases j with
    | zero => omega
    | succ j => exact fun ac ha => ⟨j, [(1, u64 upto), (2, ptr b6), (4, ptr b7), (6, ptr b8), (7, u64 l.entries[k].index), (8, i64 ((k : Int) + 1))], ha.sub ⟨rfl, rfl, rfl, rfl, rfl, rfl, trivial⟩, ⟨_, ga1, gc1, ga2, gc2, k + 1, (l.entries[k].conf, l.entries[k].index), hg10, (haxL.trans hax10), rfl, by omega, by rw [htk, confE_snoc, if_pos (show l.entries[k].kind = 3 by simpa using h26)]; rfl, hb10, ⟨_, _, _, _, rfl, gh2, gh3⟩⟩, Nat.lt_succ_self j⟩
   ·
    exact absurd (hle _ (List.getElem_mem hlt)) (decide_f h35)
  ·
   refine RL.pa ?_
   refine RL.pa ?_
   refine RL.pa ?_
   refine RL.pa ?_
   refine RL.pa ?_
   refine RL.pa ?_
   refine RL.pa ?_
   refine RL.pa ?_
   refine RL.pu ?_
   refine RL.done ?_
   refine CW.no (by first | rfl | exact congrArg (fun b => some (Value.bool b)) (by assumption)) ?_
   refine CW.skip (CW.plain ?_)
   refine RL.pu ?_
   refine RL.add rfl rfl rfl rfl rfl rfl ((by simp only [rng]; omega)) ?_
   refine RL.pu ?_
   refine RL.done ?_
   cases j with
   | zero => omega
   | succ j => exact fun ac ha => ⟨j, [(1, u64 upto), (2, ptr b6), (4, ptr b7), (6, ptr b8), (7, u64 cur.2), (8, i64 ((k : Int) + 1))], ha.sub ⟨rfl, rfl, rfl, rfl, rfl, rfl, trivial⟩, ⟨_, va, vc, la, lc, k + 1, cur, hgL, haxL, rfl, by omega, by rw [htk, confE_snoc, if_neg (show ¬ l.entries[k].kind = 3 by simpa using h26)]; exact hcur, hQL, hCL⟩, Nat.lt_succ_self j⟩
 ·
  have hkl : k = l.entries.length := by have := decide_f h16; omega
  have hcp : cur = confP l := by rw [hcur, hkl, List.take_length]; rfl
  refine CW.exit ?_
  refine CW.seq (CW.plain ?_)
  refine RL.loads (ad := ⟨b8, 0, none⟩) (j := 0) rfl rfl rfl rfl ty27 rfl (Holds.of hQL) (hgL.mem (by simp)) rfl rfl ?_
  refine RL.call rfl rfl rfl rfl rfl ca81 (CloneConf_ct hgL hCL (by rw [hcp]; exact hcs.fits)) ?_
  rintro v11 s11 B11 w11 hle11 (hg11 : Good _ s11 (B11 :: QL :: Q7 :: Q6 :: os)) hax11 ⟨us49, rfl, hU49⟩
  have hg11 := hg11.drop
  rw [hcp] at hU49
  obtain ⟨ua, uc, ub, ud, rfl, hua, hub⟩ := hU49
  refine ⟨trivial, ?_⟩
  refine RL.pu ?_
  refine RL.sB (b := b7) (i := 1) (j := 0) rfl rfl rfl ty27 rfl rfl hg11 rfl (hb7) rfl rfl ?_
  rintro w12 Q12 (hg12 : Good _ s11 (QL :: Q12 :: Q6 :: os)) hax12 hb12
  refine ⟨trivial, ?_⟩
  refine RL.pu ?_
  refine RL.done ?_
  refine CW.ret (ret (vs := [_, _]) ⟨_, _, _, rfl, rfl, loadVar_agg ty27 hb12 (hg12.mem (by simp)) rfl, _, _, rfl, rfl, rfl⟩ ?_)
  exact Post.mk hle11 (((hg12.drop).drop).drop).nil (haxL.trans (hax11.trans hax12)) ⟨_, by rw [hcp]; rfl, ⟨ua, uc, ub, ud, rfl, hua, hub⟩⟩
set_option maxRecDepth 100000 in
theorem RefConf_ct {l : Log} {h : Hd} (hg : Good w s os) (hl : LogAt s s l h) (hS : l.small) (hle : ∀ e ∈ l.entries, e.index ≤ (lastP l).1) :
  Calls Tryz.prog 20 #[logA l h] w (Post w s os fun s' _ q => ∃ vs, q = .tuple #[.agg vs.toArray, u64 (confP l).2] ∧ RConf s' vs (confP l).1) := by
 refine enter (l := [logA l h]) Tryz.func20 rfl Tryz.ntmps20 rfl ?_
 refine CW.seq (CW.plain ?_)
 refine RL.boxN rfl rfl rfl rfl rfl hg ?_
 rintro b13 w13 Q13 (hg13 : Good _ s (Q13 :: os)) hax13 hb13
 refine ⟨trivial, ?_⟩
 refine RL.allocN rfl rfl rfl rfl ze27 hg13 ?_
 rintro b14 w14 Q14 (hg14 : Good _ s (Q14 :: Q13 :: os)) hax14 hb14
 refine ⟨trivial, ?_⟩
 refine RL.pu ?_
 refine RL.done ?_
 refine CW.seq (CW.plain ?_)
 refine RL.loads (ad := ⟨b13, 0, none⟩) (j := 0) rfl rfl rfl rfl ty33 rfl (Holds.of hb13) (hg14.mem (by simp)) rfl rfl ?_
 refine RL.callV rfl rfl rfl rfl rfl ca39 (RefLast_ct hg14 hl) ?_
 rintro v15 w15 (hg15 : Good _ s (Q14 :: Q13 :: os)) hax15 rfl
 refine ⟨trivial, ?_⟩
 refine RL.pu ?_
 refine RL.pu ?_
 refine RL.pu ?_
 refine RL.pu ?_
 refine RL.pu ?_
 refine RL.done ?_
 refine CW.seq (CW.plain ?_)
 refine RL.loads (ad := ⟨b13, 0, none⟩) (j := 0) rfl rfl rfl rfl ty33 rfl (Holds.of hb13) (hg15.mem (by simp)) rfl rfl ?_
 refine RL.pu ?_
 refine RL.call rfl rfl rfl rfl rfl ca48 (RefUpto_ct hg15 hl hS hl.last_rng.1 hle) ?_
 rintro v16 s16 B16 w16 hle16 (hg16 : Good _ s16 (B16 :: Q14 :: Q13 :: os)) hax16 ⟨vs13, rfl, hC13⟩
 have hg16 := hg16.drop
 obtain ⟨ua, uc, ub, ud, rfl, hua, hub⟩ := hC13
 refine ⟨trivial, ?_⟩
 refine RL.pu ?_
 refine RL.pu ?_
 refine RL.sB (b := b14) (i := 0) (j := 0) rfl rfl rfl ty27 rfl rfl hg16 rfl (hb14) rfl rfl ?_
 rintro w17 Q17 (hg17 : Good _ s16 (Q17 :: Q13 :: os)) hax17 hb17
 refine ⟨trivial, ?_⟩
 refine RL.pu ?_
 refine RL.done ?_
 refine CW.ret (ret (vs := [_, _]) ⟨_, _, _, rfl, rfl, loadVar_agg ty27 hb17 (hg17.mem (by simp)) rfl, _, _, rfl, rfl, rfl⟩ ?_)
 exact Post.mk hle16 ((hg17.drop).drop).nil (hax13.trans (hax14.trans (hax15.trans (hax16.trans hax17)))) ⟨_, rfl, ⟨ua, uc, ub, ud, rfl, hua, hub⟩⟩
set_option maxRecDepth 100000 in
set_option maxHeartbeats 1000000 in
theorem RefStatus_ct {r : Raft} {h : Hd} (hg : Good w s os) (hr : RaftAt s r h) (hS : r.log.small) (hle : ∀ e ∈ r.log.entries, e.index ≤ (lastP r.log).1) :
  Calls Tryz.prog 27 #[.agg (raftV r h).toArray] w (Post w s os fun s' _ q => ∃ va vc la lc, q = .agg (statV (statusP r) va la vc lc).toArray ∧ RConf s' [.slice va (statusP r).conf.voters.length vc, .slice la (statusP r).conf.learners.length lc] (statusP r).conf) := by
 have hl := hr.log
 refine enter (l := [.agg (raftV r h).toArray]) Tryz.func27 rfl Tryz.ntmps27 rfl ?_
 refine CW.seq (CW.plain ?_)
 refine RL.boxN rfl rfl rfl rfl rfl hg ?_
 rintro b18 w18 Q18 (hg18 : Good _ s (Q18 :: os)) hax18 hb18
 refine ⟨trivial, ?_⟩
 refine RL.allocN rfl rfl rfl rfl ze99 hg18 ?_
 rintro b19 w19 Q19 (hg19 : Good _ s (Q19 :: Q18 :: os)) hax19 hb19
 refine ⟨trivial, ?_⟩
 refine RL.done ?_
 refine CW.seq (CW.plain ?_)
 refine RL.fi fl44_2 ?_
 refine RL.loads (ad := ⟨b18, 0, none⟩) (j := 4) rfl rfl rfl rfl ty33 rfl (Holds.of hb18) (hg19.mem (by simp)) rfl rfl ?_
 refine RL.call rfl rfl rfl rfl rfl ca20 (RefConf_ct hg19 hl hS hle) ?_
 rintro v20 s20 B20 w20 hle20 (hg20 : Good _ s20 (B20 :: Q19 :: Q18 :: os)) hax20 ⟨vs10, rfl, hC10⟩
 have hg20 := hg20.drop
 obtain ⟨va, vc, la, lc, rfl, hva, hla⟩ := hC10
 have hl := (hl.up hle20).mem hle20
 refine ⟨trivial, ?_⟩
 refine RL.pu ?_
 refine RL.pu ?_
 refine RL.pu ?_
 refine RL.allocN rfl rfl rfl rfl ze27 hg20 ?_
 rintro b21 w21 Q21 (hg21 : Good _ s20 (Q21 :: Q19 :: Q18 :: os)) hax21 hb21
 refine ⟨trivial, ?_⟩
 refine RL.sB (b := b21) (i := 0) (j := 0) rfl rfl rfl ty27 rfl rfl hg21 rfl (hb21) rfl rfl ?_
 rintro w22 Q22 (hg22 : Good _ s20 (Q22 :: Q19 :: Q18 :: os)) hax22 hb22
 refine ⟨trivial, ?_⟩
 refine RL.pu ?_
 refine RL.done ?_
 refine CW.seq (CW.plain ?_)
 refine RL.fi fl44_2 ?_
 refine RL.loads (ad := ⟨b18, 0, none⟩) (j := 4) rfl rfl rfl rfl ty33 rfl (Holds.of hb18) (hg22.mem (by simp)) rfl rfl ?_
 refine RL.callV rfl rfl rfl rfl rfl ca39 (RefLast_ct hg22 hl) ?_
 rintro v23 w23 (hg23 : Good _ s20 (Q22 :: Q19 :: Q18 :: os)) hax23 rfl
 refine ⟨trivial, ?_⟩
 refine RL.pu ?_
 refine RL.pu ?_
 refine RL.pu ?_
 refine RL.pu ?_
 refine RL.pu ?_
 refine RL.done ?_
 refine CW.seq (CW.plain ?_)
 refine RL.fi fl44_3 ?_
 refine RL.load (ad := ⟨b18, 0, none⟩) (j := 10) rfl rfl rfl rfl ty38 rfl (Holds.of hb18) (hg23.mem (by simp)) rfl ?_
 refine RL.fi fl44_4 ?_
 refine RL.load (ad := ⟨b18, 0, none⟩) (j := 11) rfl rfl rfl rfl ty3 rfl (Holds.of hb18) (hg23.mem (by simp)) rfl ?_
 refine RL.fi fl44_1 ?_
 refine RL.loads (ad := ⟨b18, 0, none⟩) (j := 1) rfl rfl rfl rfl ty24 rfl (Holds.of hb18) (hg23.mem (by simp)) rfl rfl ?_
 refine RL.loads (ad := ⟨b21, 0, none⟩) (j := 0) rfl rfl rfl rfl ty27 rfl (Holds.of hb22) (hg23.mem (by simp)) rfl rfl ?_
 refine RL.pu ?_
 refine RL.fi fl44_2 ?_
 refine RL.fi fl33_0 ?_
 refine RL.fi fl30_0 ?_
 refine RL.load (ad := ⟨b18, 0, none⟩) (j := 4) rfl rfl rfl rfl ty22 rfl (Holds.of hb18) (hg23.mem (by simp)) rfl ?_
 refine RL.build rfl rfl rfl rfl ze99 pl99 rfl rfl ?_
 refine RL.sB (b := b19) (i := 1) (j := 0) rfl rfl rfl ty99 rfl rfl hg23 rfl (hb19) rfl rfl ?_
 rintro w24 Q24 (hg24 : Good _ s20 (Q22 :: Q24 :: Q18 :: os)) hax24 hb24
 refine ⟨trivial, ?_⟩
 refine RL.done ?_
 refine CW.ret (ret (vs := [_]) ⟨_, _, _, rfl, rfl, loadVar_agg ty99 hb24 (hg24.mem (by simp)) rfl, rfl⟩ ?_)
 exact Post.mk hle20 (((hg24.drop).drop).drop).nil (hax18.trans (hax19.trans (hax20.trans (hax21.trans (hax22.trans (hax23.trans hax24)))))) ⟨va, vc, la, lc, rfl, ⟨_, _, _, _, rfl, hva, hla⟩⟩
end
end Go.Lw

/-
 raftcore by the program: Step.
-/
namespace Go.Lw
open Go.Proofs
attribute [local irreducible] RL RA
section
variable {w : World} {s : Res} {os : List Res}
set_option maxRecDepth 100000 in
set_option maxHeartbeats 4000000 in
theorem Step_ct {r : Raft} {h : Hd} {i : Inp} {y : Lay} {da : Option Addr} {dc : Nat} (hg : Good w s os) (hr : RaftAt s r h) (hi : InpOk s i y da dc) (hR : NRng (newN r)) (hRz : NRng ((newN r).act i).1) (hb : (newN r).bears i) (htl : r.part.data.length ≤ 70368744177664) :
  Calls Tryz.prog 11 #[.agg (raftV r h).toArray, .agg (inpV i y da dc).toArray] w (Post w s os fun s' _ q => ∃ h1 h2, q = .tuple #[.agg (raftV (stepP r i).1 h1).toArray, .agg (outV (stepP r i).2.1 h2).toArray, i64 (stepP r i).2.2] ∧ RaftAt s' (stepP r i).1 h1 ∧ OutAt s' (stepP r i).2.1 h2) := by
 have hS : r.log.small := hb.1.1.1
 have hbl : r.ballots.length ≤ 68719476736 := hb.1.2.1
 have hpl : r.peers.length ≤ 4294967296 := hb.1.1.2.2.1
 refine enter (l := [.agg (raftV r h).toArray, .agg (inpV i y da dc).toArray]) Tryz.func11 rfl Tryz.ntmps11 rfl ?_
 refine CW.seq (CW.plain ?_)
 refine RL.boxN rfl rfl rfl rfl rfl hg ?_
 rintro b1 w1 Q1 (hg1 : Good _ s (Q1 :: os)) hax1 hb1
 refine ⟨trivial, ?_⟩
 refine RL.boxN rfl rfl rfl rfl rfl hg1 ?_
 rintro b2 w2 Q2 (hg2 : Good _ s (Q2 :: Q1 :: os)) hax2 hb2
 refine ⟨trivial, ?_⟩
 refine RL.allocN rfl rfl rfl rfl ze44 hg2 ?_
 rintro b3 w3 Q3 (hg3 : Good _ s (Q3 :: Q2 :: Q1 :: os)) hax3 hb3
 refine ⟨trivial, ?_⟩
 refine RL.allocN rfl rfl rfl rfl ze50 hg3 ?_
 rintro b4 w4 Q4 (hg4 : Good _ s (Q4 :: Q3 :: Q2 :: Q1 :: os)) hax4 hb4
 refine ⟨trivial, ?_⟩
 refine RL.pu ?_
 refine RL.done ?_
 refine CW.seq (CW.plain ?_)
 refine RL.loads (ad := ⟨b1, 0, none⟩) (j := 0) rfl rfl rfl rfl ty44 rfl (Holds.of hb1) (hg4.mem (by simp)) rfl rfl ?_
 refine RL.call rfl rfl rfl rfl rfl ca33 (copied_ct hg4 hr hS hbl hpl htl) ?_
 rintro v5 s5 Q5 w5 hle5 (hg5 : Good _ s5 (Q5 :: Q4 :: Q3 :: Q2 :: Q1 :: os)) hax5 ⟨hh, rfl, hN0⟩
 have hr := hr.up hle5
 have hi := hi.up hle5
 refine ⟨trivial, ?_⟩
 refine RL.build rfl rfl rfl rfl ze109 pl109 rfl rfl ?_
 refine RL.boxN rfl rfl rfl rfl rfl hg5 ?_
 rintro p wN QN hgN haxN hbN
 have e2 := Res.le_join_right (r := QN) (Apart.of2 hgN)
 have ndN : Nd s5 (QN.join Q5) p { hh with oa := none, oc := 0, ma := none, mc := 0 } (newN r) := ⟨Res.le_join_left _ _ _ _ hbN, let ⟨a, b, c, d, e, f, g, _, _, _⟩ := hN0; ⟨a, b, c, d.mem e2, e.mem e2, f.mem e2, g, Own.nil _ _ _ _ _, Own.nil _ _ _ _ _, Dj.none_right _⟩⟩
 have hgJ := hgN.join
 obtain ⟨AN, hAN⟩ : ∃ Z, Z = QN.join Q5 := ⟨_, rfl⟩
 rw [← hAN] at ndN hgJ
 refine ⟨trivial, ?_⟩
 refine RL.pu ?_
 refine RL.done ?_
 refine CW.seq (CW.plain ?_)
 refine RL.pu ?_
 refine RL.makeB rfl rfl rfl rfl rfl rfl ?_
 refine RL.pu ?_
 refine RL.done ?_
 refine CW.seq ?_
 refine CW.seq (CW.plain ?_)
 refine RL.fi fl61_0 ?_
 refine RL.load (ad := ⟨b2, 0, none⟩) (j := 0) rfl rfl rfl rfl ty53 rfl (Holds.of hb2) (hgJ.mem (by simp)) rfl ?_
 refine RL.done ?_
 refine CW.block ?_
 refine CW.seq (CW.plain ?_)
 refine RL.pu ?_
 refine RL.pu ?_
 refine RL.done ?_
 refine CW.cond rfl (fun h18 => ?_) (fun h18 => ?_)
 ·
  obtain ⟨hcf, hct⟩ : ActsAs 35 (newN r) i y da dc p := acts_tick (by simpa using h18) hR hb
  refine CW.plain ?_
  refine RL.pu ?_
  refine RL.makeB rfl rfl rfl rfl rfl rfl ?_
  refine RL.pu ?_
  refine RL.done ?_
  refine CW.seq ?_
  refine CW.seq (CW.plain ?_)
  refine RL.pu ?_
  refine RL.loads (ad := ⟨b2, 0, none⟩) (j := 0) rfl rfl rfl rfl ty61 rfl (Holds.of hb2) (hgJ.mem (by simp)) rfl rfl ?_
  refine RL.callB rfl rfl rfl rfl rfl rfl hcf (hct hgJ ndN hi) ?_
  rintro e6 w6 ⟨v6, s6, A6, rfl, hle6, (hg6 : Good _ s6 (A6 :: Q4 :: Q3 :: Q2 :: Q1 :: os)), hax6, ⟨rfl, h6, nd6⟩⟩
  have hr := hr.up hle6
  have hi := hi.up hle6
  refine ⟨_, rfl, trivial, ?_⟩
  refine RL.pu ?_
  refine RL.done ?_
  refine CW.seq (CW.plain ?_)
  refine RL.pu ?_
  refine RL.pu ?_
  refine RL.done ?_
  refine CW.cond rfl (fun h36 => ?_) (fun h36 => ?_)
  ·
   refine CW.seq (CW.plain ?_)
   refine RL.loads (ad := ⟨b1, 0, none⟩) (j := 0) rfl rfl rfl rfl ty44 rfl (Holds.of hb1) (hg6.mem (by simp)) rfl rfl ?_
   refine RL.call rfl rfl rfl rfl rfl ca33 (copied_ct hg6 hr hS hbl hpl htl) ?_
   rintro v7 s7 B7 w7 hle7 (hg7 : Good _ s7 (B7 :: A6 :: Q4 :: Q3 :: Q2 :: Q1 :: os)) hax7 ⟨h38, rfl, hN38⟩
   have nd8 := nd6.up hle7
   have hr := hr.up hle7
   have hi := hi.up hle7
   obtain ⟨t7, hgl7, hll7, hml7⟩ := hg7.letgo
   have hg7 : Good _ t7 (A6 :: Q4 :: Q3 :: Q2 :: Q1 :: os) := hgl7
   have nd9 := nd8.up hll7
   have hr := hr.up hll7
   have hi := hi.up hll7
   have hRA := hN38.raftAt (n := newN r) hR hll7 hml7
   refine ⟨trivial, ?_⟩
   refine RL.build rfl rfl rfl rfl ze50 pl50 rfl rfl ?_
   refine RL.pu ?_
   refine RL.sB (b := b3) (i := 2) (j := 0) rfl rfl rfl ty44 rfl rfl hg7 rfl (hb3) rfl rfl ?_
   rintro w10 Q10 (hg10 : Good _ t7 (A6 :: Q4 :: Q10 :: Q2 :: Q1 :: os)) hax10 hb10
   refine ⟨trivial, ?_⟩
   refine RL.sB (b := b4) (i := 1) (j := 0) rfl rfl rfl ty50 rfl rfl hg10 rfl (hb4) rfl rfl ?_
   rintro w11 Q11 (hg11 : Good _ t7 (A6 :: Q11 :: Q10 :: Q2 :: Q1 :: os)) hax11 hb11
   refine ⟨trivial, ?_⟩
   refine RL.pu ?_
   refine RL.done ?_
   refine CW.ret (ret (vs := [_, _, _]) ⟨_, _, _, rfl, rfl, loadVar_agg ty44 hb10 (hg11.mem (by simp)) rfl, _, _, _, rfl, rfl, loadVar_agg ty50 hb11 (hg11.mem (by simp)) rfl, _, _, rfl, rfl, rfl⟩ ?_)
   have hst := stepP_err (r := r) (i := i) (by simpa using h36)
   exact Post.mk (hle5.trans (hle6.trans (hle7.trans hll7))) (((((hg11.drop).drop).drop).drop).drop).nil (hax1.trans (hax2.trans (hax3.trans (hax4.trans (hax5.trans (haxN.trans (hax6.trans (hax7.trans (hax10.trans hax11))))))))) ⟨h38, hd0, by rw [hst]; rfl, by rw [hst]; exact hRA, by rw [hst]; exact ⟨Imm.nil _ _ _ (Nat.zero_le _), Imm.nil _ _ _ (Nat.zero_le _)⟩⟩
  ·
   refine CW.skip ?_
   refine CW.seq ?_
   have hg12 := hg6.drew
   refine CW.draws2 [(true, 0), (true, 1), (true, 2), (true, 3), (true, 4), (true, 5), (true, 6), (true, 7), (true, 8), (true, 9), (true, 10), (true, 11)] [(false, 12)] 12 #[true, true, true, true, true, true, true, true, true, true, true, true, false] (fun w => At1 p _ w ∧ At1 b1 _ w ∧ True) mixed (by kernel_rfl) (by kernel_rfl) (by kernel_rfl) (by kernel_rfl) (by kernel_rfl) (⟨hg12.at1 (by simp) nd6.cells, hg12.at1 (by simp) hb1, trivial⟩) ?_
   refine RL.pu ?_
   refine RL.pu ?_
   refine RL.pu ?_
   refine RL.fi fl109_0 ?_
   refine RL.fi fl44_1 ?_
   refine RL.loadsT (ad := ⟨p, 0, none⟩) (j := 1) rfl rfl rfl rfl ty24 rfl (At1.holds) (fun w h => h.1.inn) rfl rfl ?_
   refine RL.fi fl44_1 ?_
   refine RL.loadsT (ad := ⟨b1, 0, none⟩) (j := 1) rfl rfl rfl rfl ty24 rfl (At1.holds) (fun w h => h.2.1.inn) rfl rfl ?_
   refine RL.stNe rfl rfl rfl rfl (by kernel_rfl) rfl rfl (hard_ne ((newN r).act i).1.s.hard r.hard) ?_
   refine RL.pu ?_
   refine RL.fi fl109_1 ?_
   refine RL.fi fl50_2 ?_
   refine RL.done ?_
   refine RL.next trivial ?_
   refine RL.storeT (p := p) (i := 0) (j := 22) rfl rfl rfl ty4 rfl rfl hg12 rfl (nd6.cells) (NRest.wSave nd6.rest) rfl (Nat.le_of_ble_eq_true rfl) rfl ?_
   rintro w13 A13 (hg13 : Good _ s6 (A13 :: Q4 :: Q3 :: Q2 :: Q1 :: os)) hax13 nd13
   refine ⟨trivial, ?_⟩
   refine RL.done ?_
   refine CW.seq ?_
   have hg14 := hg13.drew
   refine CW.draws [(true, 0), (true, 1), (true, 2), (true, 3), (true, 4), (true, 5), (true, 6), (true, 7), (false, 8), (false, 9), (false, 10)] (fun w => At1 p _ w ∧ True) mixed (by kernel_rfl) (by kernel_rfl) (by kernel_rfl) (by kernel_rfl) (⟨hg14.at1 (by simp) nd13.cells, trivial⟩) ?_
   refine RL.pu ?_
   refine RL.pu ?_
   refine RL.fi fl109_0 ?_
   refine RL.loadsT (ad := ⟨p, 0, none⟩) (j := 0) rfl rfl rfl rfl ty44 rfl (At1.holds) (fun w h => h.1.inn) rfl rfl ?_
   refine RL.pu ?_
   refine RL.pu ?_
   refine RL.fi fl109_1 ?_
   refine RL.loadsT (ad := ⟨p, 0, none⟩) (j := 20) rfl rfl rfl rfl ty50 rfl (At1.holds) (fun w h => h.1.inn) rfl rfl ?_
   refine RL.sB (b := b3) (i := 2) (j := 0) rfl rfl rfl ty44 rfl rfl hg14 rfl (hb3) rfl rfl ?_
   rintro w15 Q15 (hg15 : Good _ s6 (A13 :: Q4 :: Q15 :: Q2 :: Q1 :: os)) hax15 hb15
   refine ⟨⟨hg15.at1 (by simp) nd13.cells, trivial⟩, ?_⟩
   refine RL.sB (b := b4) (i := 1) (j := 0) rfl rfl rfl ty50 rfl rfl hg15 rfl (hb4) rfl rfl ?_
   rintro w16 Q16 (hg16 : Good _ s6 (A13 :: Q16 :: Q15 :: Q2 :: Q1 :: os)) hax16 hb16
   refine ⟨⟨hg16.at1 (by simp) nd13.cells, trivial⟩, ?_⟩
   refine RL.pu ?_
   refine RL.done ?_
   refine CW.ret (ret (vs := [_, _, _]) ⟨_, _, _, rfl, rfl, loadVar_agg ty44 hb15 (hg16.mem (by simp)) rfl, _, _, _, rfl, rfl, loadVar_agg ty50 hb16 (hg16.mem (by simp)) rfl, _, _, rfl, rfl, rfl⟩ ?_)
   have hst := stepP_ok (r := r) (i := i) (by simpa using h36)
   have hz := ((((hg16.dropNext).dropNext).dropNext).dropNext)
   obtain ⟨s1, hgs1, hl1, hm1⟩ := hz.letgo
   exact Post.mk ((hle5.trans hle6).trans hl1) hgs1.nil (hax1.trans (hax2.trans (hax3.trans (hax4.trans (hax5.trans (haxN.trans (hax6.trans ((Aux.drew _).trans (hax13.trans ((Aux.drew _).trans (hax15.trans hax16))))))))))) ⟨_, _, by rw [hst]; rfl, by rw [hst]; exact (nd13).rest.raftAt hRz hl1 hm1, by rw [hst]; exact ⟨(nd13).outs.imm REntry.up hl1 hm1, (nd13).msgs.imm RMsg.up hl1 hm1⟩⟩
 ·
  have hk1 : i.kind ≠ 1 := by simpa using h18
  refine CW.seq (CW.plain ?_)
  refine RL.pu ?_
  refine RL.pu ?_
  refine RL.done ?_
  refine CW.cond rfl (fun h22 => ?_) (fun h22 => ?_)
  ·
   obtain ⟨hcf, hct⟩ : ActsAs 36 (newN r) i y da dc p := acts_message (by simpa using h22) hR hb
   refine CW.plain ?_
   refine RL.pu ?_
   refine RL.makeB rfl rfl rfl rfl rfl rfl ?_
   refine RL.pu ?_
   refine RL.done ?_
   refine CW.seq ?_
   refine CW.seq (CW.plain ?_)
   refine RL.pu ?_
   refine RL.loads (ad := ⟨b2, 0, none⟩) (j := 0) rfl rfl rfl rfl ty61 rfl (Holds.of hb2) (hgJ.mem (by simp)) rfl rfl ?_
   refine RL.callB rfl rfl rfl rfl rfl rfl hcf (hct hgJ ndN hi) ?_
   rintro e17 w17 ⟨v17, s17, A17, rfl, hle17, (hg17 : Good _ s17 (A17 :: Q4 :: Q3 :: Q2 :: Q1 :: os)), hax17, ⟨rfl, h17, nd17⟩⟩
   have hr := hr.up hle17
   have hi := hi.up hle17
   refine ⟨_, rfl, trivial, ?_⟩
   refine RL.pu ?_
   refine RL.done ?_
   refine CW.seq (CW.plain ?_)
   refine RL.pu ?_
   refine RL.pu ?_
   refine RL.done ?_
   refine CW.cond rfl (fun h36 => ?_) (fun h36 => ?_)
   ·
    refine CW.seq (CW.plain ?_)
    refine RL.loads (ad := ⟨b1, 0, none⟩) (j := 0) rfl rfl rfl rfl ty44 rfl (Holds.of hb1) (hg17.mem (by simp)) rfl rfl ?_
    refine RL.call rfl rfl rfl rfl rfl ca33 (copied_ct hg17 hr hS hbl hpl htl) ?_
    rintro v18 s18 B18 w18 hle18 (hg18 : Good _ s18 (B18 :: A17 :: Q4 :: Q3 :: Q2 :: Q1 :: os)) hax18 ⟨h38, rfl, hN38⟩
    have nd19 := nd17.up hle18
    have hr := hr.up hle18
    have hi := hi.up hle18
    obtain ⟨t18, hgl18, hll18, hml18⟩ := hg18.letgo
    have hg18 : Good _ t18 (A17 :: Q4 :: Q3 :: Q2 :: Q1 :: os) := hgl18
    have nd20 := nd19.up hll18
    have hr := hr.up hll18
    have hi := hi.up hll18
    have hRA := hN38.raftAt (n := newN r) hR hll18 hml18
    refine ⟨trivial, ?_⟩
    refine RL.build rfl rfl rfl rfl ze50 pl50 rfl rfl ?_
    refine RL.pu ?_
    refine RL.sB (b := b3) (i := 2) (j := 0) rfl rfl rfl ty44 rfl rfl hg18 rfl (hb3) rfl rfl ?_
    rintro w21 Q21 (hg21 : Good _ t18 (A17 :: Q4 :: Q21 :: Q2 :: Q1 :: os)) hax21 hb21
    refine ⟨trivial, ?_⟩
    refine RL.sB (b := b4) (i := 1) (j := 0) rfl rfl rfl ty50 rfl rfl hg21 rfl (hb4) rfl rfl ?_
    rintro w22 Q22 (hg22 : Good _ t18 (A17 :: Q22 :: Q21 :: Q2 :: Q1 :: os)) hax22 hb22
    refine ⟨trivial, ?_⟩
    refine RL.pu ?_
    refine RL.done ?_
    refine CW.ret (ret (vs := [_, _, _]) ⟨_, _, _, rfl, rfl, loadVar_agg ty44 hb21 (hg22.mem (by simp)) rfl, _, _, _, rfl, rfl, loadVar_agg ty50 hb22 (hg22.mem (by simp)) rfl, _, _, rfl, rfl, rfl⟩ ?_)
    have hst := stepP_err (r := r) (i := i) (by simpa using h36)
    exact Post.mk (hle5.trans (hle17.trans (hle18.trans hll18))) (((((hg22.drop).drop).drop).drop).drop).nil (hax1.trans (hax2.trans (hax3.trans (hax4.trans (hax5.trans (haxN.trans (hax17.trans (hax18.trans (hax21.trans hax22))))))))) ⟨h38, hd0, by rw [hst]; rfl, by rw [hst]; exact hRA, by rw [hst]; exact ⟨Imm.nil _ _ _ (Nat.zero_le _), Imm.nil _ _ _ (Nat.zero_le _)⟩⟩
   ·
    refine CW.skip ?_
    refine CW.seq ?_
    have hg23 := hg17.drew
    refine CW.draws2 [(true, 0), (true, 1), (true, 2), (true, 3), (true, 4), (true, 5), (true, 6), (true, 7), (true, 8), (true, 9), (true, 10), (true, 11)] [(false, 12)] 12 #[true, true, true, true, true, true, true, true, true, true, true, true, false] (fun w => At1 p _ w ∧ At1 b1 _ w ∧ True) mixed (by kernel_rfl) (by kernel_rfl) (by kernel_rfl) (by kernel_rfl) (by kernel_rfl) (⟨hg23.at1 (by simp) nd17.cells, hg23.at1 (by simp) hb1, trivial⟩) ?_
    refine RL.pu ?_
    refine RL.pu ?_
    refine RL.pu ?_
    refine RL.fi fl109_0 ?_
    refine RL.fi fl44_1 ?_
    refine RL.loadsT (ad := ⟨p, 0, none⟩) (j := 1) rfl rfl rfl rfl ty24 rfl (At1.holds) (fun w h => h.1.inn) rfl rfl ?_
    refine RL.fi fl44_1 ?_
    refine RL.loadsT (ad := ⟨b1, 0, none⟩) (j := 1) rfl rfl rfl rfl ty24 rfl (At1.holds) (fun w h => h.2.1.inn) rfl rfl ?_
    refine RL.stNe rfl rfl rfl rfl (by kernel_rfl) rfl rfl (hard_ne ((newN r).act i).1.s.hard r.hard) ?_
    refine RL.pu ?_
    refine RL.fi fl109_1 ?_
    refine RL.fi fl50_2 ?_
    refine RL.done ?_
    refine RL.next trivial ?_
    refine RL.storeT (p := p) (i := 0) (j := 22) rfl rfl rfl ty4 rfl rfl hg23 rfl (nd17.cells) (NRest.wSave nd17.rest) rfl (Nat.le_of_ble_eq_true rfl) rfl ?_
    rintro w24 A24 (hg24 : Good _ s17 (A24 :: Q4 :: Q3 :: Q2 :: Q1 :: os)) hax24 nd24
    refine ⟨trivial, ?_⟩
    refine RL.done ?_
    refine CW.seq ?_
    have hg25 := hg24.drew
    refine CW.draws [(true, 0), (true, 1), (true, 2), (true, 3), (true, 4), (true, 5), (true, 6), (true, 7), (false, 8), (false, 9), (false, 10)] (fun w => At1 p _ w ∧ True) mixed (by kernel_rfl) (by kernel_rfl) (by kernel_rfl) (by kernel_rfl) (⟨hg25.at1 (by simp) nd24.cells, trivial⟩) ?_
    refine RL.pu ?_
    refine RL.pu ?_
    refine RL.fi fl109_0 ?_
    refine RL.loadsT (ad := ⟨p, 0, none⟩) (j := 0) rfl rfl rfl rfl ty44 rfl (At1.holds) (fun w h => h.1.inn) rfl rfl ?_
    refine RL.pu ?_
    refine RL.pu ?_
    refine RL.fi fl109_1 ?_
    refine RL.loadsT (ad := ⟨p, 0, none⟩) (j := 20) rfl rfl rfl rfl ty50 rfl (At1.holds) (fun w h => h.1.inn) rfl rfl ?_
    refine RL.sB (b := b3) (i := 2) (j := 0) rfl rfl rfl ty44 rfl rfl hg25 rfl (hb3) rfl rfl ?_
    rintro w26 Q26 (hg26 : Good _ s17 (A24 :: Q4 :: Q26 :: Q2 :: Q1 :: os)) hax26 hb26
    refine ⟨⟨hg26.at1 (by simp) nd24.cells, trivial⟩, ?_⟩
    refine RL.sB (b := b4) (i := 1) (j := 0) rfl rfl rfl ty50 rfl rfl hg26 rfl (hb4) rfl rfl ?_
    rintro w27 Q27 (hg27 : Good _ s17 (A24 :: Q27 :: Q26 :: Q2 :: Q1 :: os)) hax27 hb27
    refine ⟨⟨hg27.at1 (by simp) nd24.cells, trivial⟩, ?_⟩
    refine RL.pu ?_
    refine RL.done ?_
    refine CW.ret (ret (vs := [_, _, _]) ⟨_, _, _, rfl, rfl, loadVar_agg ty44 hb26 (hg27.mem (by simp)) rfl, _, _, _, rfl, rfl, loadVar_agg ty50 hb27 (hg27.mem (by simp)) rfl, _, _, rfl, rfl, rfl⟩ ?_)
    have hst := stepP_ok (r := r) (i := i) (by simpa using h36)
    have hz := ((((hg27.dropNext).dropNext).dropNext).dropNext)
    obtain ⟨s1, hgs1, hl1, hm1⟩ := hz.letgo
    exact Post.mk ((hle5.trans hle17).trans hl1) hgs1.nil (hax1.trans (hax2.trans (hax3.trans (hax4.trans (hax5.trans (haxN.trans (hax17.trans ((Aux.drew _).trans (hax24.trans ((Aux.drew _).trans (hax26.trans hax27))))))))))) ⟨_, _, by rw [hst]; rfl, by rw [hst]; exact (nd24).rest.raftAt hRz hl1 hm1, by rw [hst]; exact ⟨(nd24).outs.imm REntry.up hl1 hm1, (nd24).msgs.imm RMsg.up hl1 hm1⟩⟩
  ·
   have hk2 : i.kind ≠ 2 := by simpa using h22
   refine CW.seq ?_
   refine CW.seq (CW.plain ?_)
   refine RL.pu ?_
   refine RL.pu ?_
   refine RL.done ?_
   refine CW.cond rfl (fun h26 => ?_) (fun h26 => ?_)
   ·
    obtain ⟨hcf, hct⟩ : ActsAs 37 (newN r) i y da dc p := acts_asked (.inl (by simpa using h26)) hR hb
    refine CW.skip ?_
    refine CW.yes (by first | rfl | exact congrArg (fun b => some (Value.bool b)) (by assumption)) ?_
    refine CW.plain ?_
    refine RL.pu ?_
    refine RL.makeB rfl rfl rfl rfl rfl rfl ?_
    refine RL.pu ?_
    refine RL.done ?_
    refine CW.seq ?_
    refine CW.seq (CW.plain ?_)
    refine RL.pu ?_
    refine RL.loads (ad := ⟨b2, 0, none⟩) (j := 0) rfl rfl rfl rfl ty61 rfl (Holds.of hb2) (hgJ.mem (by simp)) rfl rfl ?_
    refine RL.callB rfl rfl rfl rfl rfl rfl hcf (hct hgJ ndN hi) ?_
    rintro e28 w28 ⟨v28, s28, A28, rfl, hle28, (hg28 : Good _ s28 (A28 :: Q4 :: Q3 :: Q2 :: Q1 :: os)), hax28, ⟨rfl, h28, nd28⟩⟩
    have hr := hr.up hle28
    have hi := hi.up hle28
    refine ⟨_, rfl, trivial, ?_⟩
    refine RL.pu ?_
    refine RL.done ?_
    refine CW.seq (CW.plain ?_)
    refine RL.pu ?_
    refine RL.pu ?_
    refine RL.done ?_
    refine CW.cond rfl (fun h36 => ?_) (fun h36 => ?_)
    ·
     refine CW.seq (CW.plain ?_)
     refine RL.loads (ad := ⟨b1, 0, none⟩) (j := 0) rfl rfl rfl rfl ty44 rfl (Holds.of hb1) (hg28.mem (by simp)) rfl rfl ?_
     refine RL.call rfl rfl rfl rfl rfl ca33 (copied_ct hg28 hr hS hbl hpl htl) ?_
     rintro v29 s29 B29 w29 hle29 (hg29 : Good _ s29 (B29 :: A28 :: Q4 :: Q3 :: Q2 :: Q1 :: os)) hax29 ⟨h38, rfl, hN38⟩
     have nd30 := nd28.up hle29
     have hr := hr.up hle29
     have hi := hi.up hle29
     obtain ⟨t29, hgl29, hll29, hml29⟩ := hg29.letgo
     have hg29 : Good _ t29 (A28 :: Q4 :: Q3 :: Q2 :: Q1 :: os) := hgl29
     have nd31 := nd30.up hll29
     have hr := hr.up hll29
     have hi := hi.up hll29
     have hRA := hN38.raftAt (n := newN r) hR hll29 hml29
     refine ⟨trivial, ?_⟩
     refine RL.build rfl rfl rfl rfl ze50 pl50 rfl rfl ?_
     refine RL.pu ?_
     refine RL.sB (b := b3) (i := 2) (j := 0) rfl rfl rfl ty44 rfl rfl hg29 rfl (hb3) rfl rfl ?_
     rintro w32 Q32 (hg32 : Good _ t29 (A28 :: Q4 :: Q32 :: Q2 :: Q1 :: os)) hax32 hb32
     refine ⟨trivial, ?_⟩
     refine RL.sB (b := b4) (i := 1) (j := 0) rfl rfl rfl ty50 rfl rfl hg32 rfl (hb4) rfl rfl ?_
     rintro w33 Q33 (hg33 : Good _ t29 (A28 :: Q33 :: Q32 :: Q2 :: Q1 :: os)) hax33 hb33
     refine ⟨trivial, ?_⟩
     refine RL.pu ?_
     refine RL.done ?_
     refine CW.ret (ret (vs := [_, _, _]) ⟨_, _, _, rfl, rfl, loadVar_agg ty44 hb32 (hg33.mem (by simp)) rfl, _, _, _, rfl, rfl, loadVar_agg ty50 hb33 (hg33.mem (by simp)) rfl, _, _, rfl, rfl, rfl⟩ ?_)
     have hst := stepP_err (r := r) (i := i) (by simpa using h36)
     exact Post.mk (hle5.trans (hle28.trans (hle29.trans hll29))) (((((hg33.drop).drop).drop).drop).drop).nil (hax1.trans (hax2.trans (hax3.trans (hax4.trans (hax5.trans (haxN.trans (hax28.trans (hax29.trans (hax32.trans hax33))))))))) ⟨h38, hd0, by rw [hst]; rfl, by rw [hst]; exact hRA, by rw [hst]; exact ⟨Imm.nil _ _ _ (Nat.zero_le _), Imm.nil _ _ _ (Nat.zero_le _)⟩⟩
    ·
     refine CW.skip ?_
     refine CW.seq ?_
     have hg34 := hg28.drew
     refine CW.draws2 [(true, 0), (true, 1), (true, 2), (true, 3), (true, 4), (true, 5), (true, 6), (true, 7), (true, 8), (true, 9), (true, 10), (true, 11)] [(false, 12)] 12 #[true, true, true, true, true, true, true, true, true, true, true, true, false] (fun w => At1 p _ w ∧ At1 b1 _ w ∧ True) mixed (by kernel_rfl) (by kernel_rfl) (by kernel_rfl) (by kernel_rfl) (by kernel_rfl) (⟨hg34.at1 (by simp) nd28.cells, hg34.at1 (by simp) hb1, trivial⟩) ?_
     refine RL.pu ?_
     refine RL.pu ?_
     refine RL.pu ?_
     refine RL.fi fl109_0 ?_
     refine RL.fi fl44_1 ?_
     refine RL.loadsT (ad := ⟨p, 0, none⟩) (j := 1) rfl rfl rfl rfl ty24 rfl (At1.holds) (fun w h => h.1.inn) rfl rfl ?_
     refine RL.fi fl44_1 ?_
     refine RL.loadsT (ad := ⟨b1, 0, none⟩) (j := 1) rfl rfl rfl rfl ty24 rfl (At1.holds) (fun w h => h.2.1.inn) rfl rfl ?_
     refine RL.stNe rfl rfl rfl rfl (by kernel_rfl) rfl rfl (hard_ne ((newN r).act i).1.s.hard r.hard) ?_
     refine RL.pu ?_
     refine RL.fi fl109_1 ?_
     refine RL.fi fl50_2 ?_
     refine RL.done ?_
     refine RL.next trivial ?_
     refine RL.storeT (p := p) (i := 0) (j := 22) rfl rfl rfl ty4 rfl rfl hg34 rfl (nd28.cells) (NRest.wSave nd28.rest) rfl (Nat.le_of_ble_eq_true rfl) rfl ?_
     rintro w35 A35 (hg35 : Good _ s28 (A35 :: Q4 :: Q3 :: Q2 :: Q1 :: os)) hax35 nd35
     refine ⟨trivial, ?_⟩
     refine RL.done ?_
     refine CW.seq ?_
     have hg36 := hg35.drew
     refine CW.draws [(true, 0), (true, 1), (true, 2), (true, 3), (true, 4), (true, 5), (true, 6), (true, 7), (false, 8), (false, 9), (false, 10)] (fun w => At1 p _ w ∧ True) mixed (by kernel_rfl) (by kernel_rfl) (by kernel_rfl) (by kernel_rfl) (⟨hg36.at1 (by simp) nd35.cells, trivial⟩) ?_
     refine RL.pu ?_
     refine RL.pu ?_
     refine RL.fi fl109_0 ?_
     refine RL.loadsT (ad := ⟨p, 0, none⟩) (j := 0) rfl rfl rfl rfl ty44 rfl (At1.holds) (fun w h => h.1.inn) rfl rfl ?_
     refine RL.pu ?_
     refine RL.pu ?_
     refine RL.fi fl109_1 ?_
     refine RL.loadsT (ad := ⟨p, 0, none⟩) (j := 20) rfl rfl rfl rfl ty50 rfl (At1.holds) (fun w h => h.1.inn) rfl rfl ?_
     refine RL.sB (b := b3) (i := 2) (j := 0) rfl rfl rfl ty44 rfl rfl hg36 rfl (hb3) rfl rfl ?_
     rintro w37 Q37 (hg37 : Good _ s28 (A35 :: Q4 :: Q37 :: Q2 :: Q1 :: os)) hax37 hb37
     refine ⟨⟨hg37.at1 (by simp) nd35.cells, trivial⟩, ?_⟩
     refine RL.sB (b := b4) (i := 1) (j := 0) rfl rfl rfl ty50 rfl rfl hg37 rfl (hb4) rfl rfl ?_
     rintro w38 Q38 (hg38 : Good _ s28 (A35 :: Q38 :: Q37 :: Q2 :: Q1 :: os)) hax38 hb38
     refine ⟨⟨hg38.at1 (by simp) nd35.cells, trivial⟩, ?_⟩
     refine RL.pu ?_
     refine RL.done ?_
     refine CW.ret (ret (vs := [_, _, _]) ⟨_, _, _, rfl, rfl, loadVar_agg ty44 hb37 (hg38.mem (by simp)) rfl, _, _, _, rfl, rfl, loadVar_agg ty50 hb38 (hg38.mem (by simp)) rfl, _, _, rfl, rfl, rfl⟩ ?_)
     have hst := stepP_ok (r := r) (i := i) (by simpa using h36)
     have hz := ((((hg38.dropNext).dropNext).dropNext).dropNext)
     obtain ⟨s1, hgs1, hl1, hm1⟩ := hz.letgo
     exact Post.mk ((hle5.trans hle28).trans hl1) hgs1.nil (hax1.trans (hax2.trans (hax3.trans (hax4.trans (hax5.trans (haxN.trans (hax28.trans ((Aux.drew _).trans (hax35.trans ((Aux.drew _).trans (hax37.trans hax38))))))))))) ⟨_, _, by rw [hst]; rfl, by rw [hst]; exact (nd35).rest.raftAt hRz hl1 hm1, by rw [hst]; exact ⟨(nd35).outs.imm REntry.up hl1 hm1, (nd35).msgs.imm RMsg.up hl1 hm1⟩⟩
   ·
    have hk3 : i.kind ≠ 3 := by simpa using h26
    refine CW.seq (CW.plain ?_)
    refine RL.pu ?_
    refine RL.pu ?_
    refine RL.done ?_
    refine CW.cond rfl (fun h26 => ?_) (fun h26 => ?_)
    ·
     obtain ⟨hcf, hct⟩ : ActsAs 37 (newN r) i y da dc p := acts_asked (.inr (.inl (by simpa using h26))) hR hb
     refine CW.skip ?_
     refine CW.yes (by first | rfl | exact congrArg (fun b => some (Value.bool b)) (by assumption)) ?_
     refine CW.plain ?_
     refine RL.pu ?_
     refine RL.makeB rfl rfl rfl rfl rfl rfl ?_
     refine RL.pu ?_
     refine RL.done ?_
     refine CW.seq ?_
     refine CW.seq (CW.plain ?_)
     refine RL.pu ?_
     refine RL.loads (ad := ⟨b2, 0, none⟩) (j := 0) rfl rfl rfl rfl ty61 rfl (Holds.of hb2) (hgJ.mem (by simp)) rfl rfl ?_
     refine RL.callB rfl rfl rfl rfl rfl rfl hcf (hct hgJ ndN hi) ?_
     rintro e39 w39 ⟨v39, s39, A39, rfl, hle39, (hg39 : Good _ s39 (A39 :: Q4 :: Q3 :: Q2 :: Q1 :: os)), hax39, ⟨rfl, h39, nd39⟩⟩
     have hr := hr.up hle39
     have hi := hi.up hle39
     refine ⟨_, rfl, trivial, ?_⟩
     refine RL.pu ?_
     refine RL.done ?_
     refine CW.seq (CW.plain ?_)
     refine RL.pu ?_
     refine RL.pu ?_
     refine RL.done ?_
     refine CW.cond rfl (fun h36 => ?_) (fun h36 => ?_)
     ·
      refine CW.seq (CW.plain ?_)
      refine RL.loads (ad := ⟨b1, 0, none⟩) (j := 0) rfl rfl rfl rfl ty44 rfl (Holds.of hb1) (hg39.mem (by simp)) rfl rfl ?_
      refine RL.call rfl rfl rfl rfl rfl ca33 (copied_ct hg39 hr hS hbl hpl htl) ?_
      rintro v40 s40 B40 w40 hle40 (hg40 : Good _ s40 (B40 :: A39 :: Q4 :: Q3 :: Q2 :: Q1 :: os)) hax40 ⟨h38, rfl, hN38⟩
      have nd41 := nd39.up hle40
      have hr := hr.up hle40
      have hi := hi.up hle40
      obtain ⟨t40, hgl40, hll40, hml40⟩ := hg40.letgo
      have hg40 : Good _ t40 (A39 :: Q4 :: Q3 :: Q2 :: Q1 :: os) := hgl40
      have nd42 := nd41.up hll40
      have hr := hr.up hll40
      have hi := hi.up hll40
      have hRA := hN38.raftAt (n := newN r) hR hll40 hml40
      refine ⟨trivial, ?_⟩
      refine RL.build rfl rfl rfl rfl ze50 pl50 rfl rfl ?_
      refine RL.pu ?_
      refine RL.sB (b := b3) (i := 2) (j := 0) rfl rfl rfl ty44 rfl rfl hg40 rfl (hb3) rfl rfl ?_
      rintro w43 Q43 (hg43 : Good _ t40 (A39 :: Q4 :: Q43 :: Q2 :: Q1 :: os)) hax43 hb43
      refine ⟨trivial, ?_⟩
      refine RL.sB (b := b4) (i := 1) (j := 0) rfl rfl rfl ty50 rfl rfl hg43 rfl (hb4) rfl rfl ?_
      rintro w44 Q44 (hg44 : Good _ t40 (A39 :: Q44 :: Q43 :: Q2 :: Q1 :: os)) hax44 hb44
      refine ⟨trivial, ?_⟩
      refine RL.pu ?_
      refine RL.done ?_
      refine CW.ret (ret (vs := [_, _, _]) ⟨_, _, _, rfl, rfl, loadVar_agg ty44 hb43 (hg44.mem (by simp)) rfl, _, _, _, rfl, rfl, loadVar_agg ty50 hb44 (hg44.mem (by simp)) rfl, _, _, rfl, rfl, rfl⟩ ?_)
      have hst := stepP_err (r := r) (i := i) (by simpa using h36)
      exact Post.mk (hle5.trans (hle39.trans (hle40.trans hll40))) (((((hg44.drop).drop).drop).drop).drop).nil (hax1.trans (hax2.trans (hax3.trans (hax4.trans (hax5.trans (haxN.trans (hax39.trans (hax40.trans (hax43.trans hax44))))))))) ⟨h38, hd0, by rw [hst]; rfl, by rw [hst]; exact hRA, by rw [hst]; exact ⟨Imm.nil _ _ _ (Nat.zero_le _), Imm.nil _ _ _ (Nat.zero_le _)⟩⟩
     ·
      refine CW.skip ?_
      refine CW.seq ?_
      have hg45 := hg39.drew
      refine CW.draws2 [(true, 0), (true, 1), (true, 2), (true, 3), (true, 4), (true, 5), (true, 6), (true, 7), (true, 8), (true, 9), (true, 10), (true, 11)] [(false, 12)] 12 #[true, true, true, true, true, true, true, true, true, true, true, true, false] (fun w => At1 p _ w ∧ At1 b1 _ w ∧ True) mixed (by kernel_rfl) (by kernel_rfl) (by kernel_rfl) (by kernel_rfl) (by kernel_rfl) (⟨hg45.at1 (by simp) nd39.cells, hg45.at1 (by simp) hb1, trivial⟩) ?_
      refine RL.pu ?_
      refine RL.pu ?_
      refine RL.pu ?_
      refine RL.fi fl109_0 ?_
      refine RL.fi fl44_1 ?_
      refine RL.loadsT (ad := ⟨p, 0, none⟩) (j := 1) rfl rfl rfl rfl ty24 rfl (At1.holds) (fun w h => h.1.inn) rfl rfl ?_
      refine RL.fi fl44_1 ?_
      refine RL.loadsT (ad := ⟨b1, 0, none⟩) (j := 1) rfl rfl rfl rfl ty24 rfl (At1.holds) (fun w h => h.2.1.inn) rfl rfl ?_
      refine RL.stNe rfl rfl rfl rfl (by kernel_rfl) rfl rfl (hard_ne ((newN r).act i).1.s.hard r.hard) ?_
      refine RL.pu ?_
      refine RL.fi fl109_1 ?_
      refine RL.fi fl50_2 ?_
      refine RL.done ?_
      refine RL.next trivial ?_
      refine RL.storeT (p := p) (i := 0) (j := 22) rfl rfl rfl ty4 rfl rfl hg45 rfl (nd39.cells) (NRest.wSave nd39.rest) rfl (Nat.le_of_ble_eq_true rfl) rfl ?_
      rintro w46 A46 (hg46 : Good _ s39 (A46 :: Q4 :: Q3 :: Q2 :: Q1 :: os)) hax46 nd46
      refine ⟨trivial, ?_⟩
      refine RL.done ?_
      refine CW.seq ?_
      have hg47 := hg46.drew
      refine CW.draws [(true, 0), (true, 1), (true, 2), (true, 3), (true, 4), (true, 5), (true, 6), (true, 7), (false, 8), (false, 9), (false, 10)] (fun w => At1 p _ w ∧ True) mixed (by kernel_rfl) (by kernel_rfl) (by kernel_rfl) (by kernel_rfl) (⟨hg47.at1 (by simp) nd46.cells, trivial⟩) ?_
      refine RL.pu ?_
      refine RL.pu ?_
      refine RL.fi fl109_0 ?_
      refine RL.loadsT (ad := ⟨p, 0, none⟩) (j := 0) rfl rfl rfl rfl ty44 rfl (At1.holds) (fun w h => h.1.inn) rfl rfl ?_
      refine RL.pu ?_
      refine RL.pu ?_
      refine RL.fi fl109_1 ?_
      refine RL.loadsT (ad := ⟨p, 0, none⟩) (j := 20) rfl rfl rfl rfl ty50 rfl (At1.holds) (fun w h => h.1.inn) rfl rfl ?_
      refine RL.sB (b := b3) (i := 2) (j := 0) rfl rfl rfl ty44 rfl rfl hg47 rfl (hb3) rfl rfl ?_
      rintro w48 Q48 (hg48 : Good _ s39 (A46 :: Q4 :: Q48 :: Q2 :: Q1 :: os)) hax48 hb48
      refine ⟨⟨hg48.at1 (by simp) nd46.cells, trivial⟩, ?_⟩
      refine RL.sB (b := b4) (i := 1) (j := 0) rfl rfl rfl ty50 rfl rfl hg48 rfl (hb4) rfl rfl ?_
      rintro w49 Q49 (hg49 : Good _ s39 (A46 :: Q49 :: Q48 :: Q2 :: Q1 :: os)) hax49 hb49
      refine ⟨⟨hg49.at1 (by simp) nd46.cells, trivial⟩, ?_⟩
      refine RL.pu ?_
      refine RL.done ?_
      refine CW.ret (ret (vs := [_, _, _]) ⟨_, _, _, rfl, rfl, loadVar_agg ty44 hb48 (hg49.mem (by simp)) rfl, _, _, _, rfl, rfl, loadVar_agg ty50 hb49 (hg49.mem (by simp)) rfl, _, _, rfl, rfl, rfl⟩ ?_)
      have hst := stepP_ok (r := r) (i := i) (by simpa using h36)
      have hz := ((((hg49.dropNext).dropNext).dropNext).dropNext)
      obtain ⟨s1, hgs1, hl1, hm1⟩ := hz.letgo
      exact Post.mk ((hle5.trans hle39).trans hl1) hgs1.nil (hax1.trans (hax2.trans (hax3.trans (hax4.trans (hax5.trans (haxN.trans (hax39.trans ((Aux.drew _).trans (hax46.trans ((Aux.drew _).trans (hax48.trans hax49))))))))))) ⟨_, _, by rw [hst]; rfl, by rw [hst]; exact (nd46).rest.raftAt hRz hl1 hm1, by rw [hst]; exact ⟨(nd46).outs.imm REntry.up hl1 hm1, (nd46).msgs.imm RMsg.up hl1 hm1⟩⟩
    ·
     have hk4 : i.kind ≠ 4 := by simpa using h26
     refine CW.plain ?_
     refine RL.pu ?_
     refine RL.pu ?_
     refine RL.done ?_
     refine CW.cond rfl (fun h26 => ?_) (fun h26 => ?_)
     ·
      obtain ⟨hcf, hct⟩ : ActsAs 37 (newN r) i y da dc p := acts_asked (.inr (.inr (by simpa using h26))) hR hb
      refine CW.plain ?_
      refine RL.pu ?_
      refine RL.makeB rfl rfl rfl rfl rfl rfl ?_
      refine RL.pu ?_
      refine RL.done ?_
      refine CW.seq ?_
      refine CW.seq (CW.plain ?_)
      refine RL.pu ?_
      refine RL.loads (ad := ⟨b2, 0, none⟩) (j := 0) rfl rfl rfl rfl ty61 rfl (Holds.of hb2) (hgJ.mem (by simp)) rfl rfl ?_
      refine RL.callB rfl rfl rfl rfl rfl rfl hcf (hct hgJ ndN hi) ?_
      rintro e50 w50 ⟨v50, s50, A50, rfl, hle50, (hg50 : Good _ s50 (A50 :: Q4 :: Q3 :: Q2 :: Q1 :: os)), hax50, ⟨rfl, h50, nd50⟩⟩
      have hr := hr.up hle50
      have hi := hi.up hle50
      refine ⟨_, rfl, trivial, ?_⟩
      refine RL.pu ?_
      refine RL.done ?_
      refine CW.seq (CW.plain ?_)
      refine RL.pu ?_
      refine RL.pu ?_
      refine RL.done ?_
      refine CW.cond rfl (fun h36 => ?_) (fun h36 => ?_)
      ·
       refine CW.seq (CW.plain ?_)
       refine RL.loads (ad := ⟨b1, 0, none⟩) (j := 0) rfl rfl rfl rfl ty44 rfl (Holds.of hb1) (hg50.mem (by simp)) rfl rfl ?_
       refine RL.call rfl rfl rfl rfl rfl ca33 (copied_ct hg50 hr hS hbl hpl htl) ?_
       rintro v51 s51 B51 w51 hle51 (hg51 : Good _ s51 (B51 :: A50 :: Q4 :: Q3 :: Q2 :: Q1 :: os)) hax51 ⟨h38, rfl, hN38⟩
       have nd52 := nd50.up hle51
       have hr := hr.up hle51
       have hi := hi.up hle51
       obtain ⟨t51, hgl51, hll51, hml51⟩ := hg51.letgo
       have hg51 : Good _ t51 (A50 :: Q4 :: Q3 :: Q2 :: Q1 :: os) := hgl51
       have nd53 := nd52.up hll51
       have hr := hr.up hll51
       have hi := hi.up hll51
       have hRA := hN38.raftAt (n := newN r) hR hll51 hml51
       refine ⟨trivial, ?_⟩
       refine RL.build rfl rfl rfl rfl ze50 pl50 rfl rfl ?_
       refine RL.pu ?_
       refine RL.sB (b := b3) (i := 2) (j := 0) rfl rfl rfl ty44 rfl rfl hg51 rfl (hb3) rfl rfl ?_
       rintro w54 Q54 (hg54 : Good _ t51 (A50 :: Q4 :: Q54 :: Q2 :: Q1 :: os)) hax54 hb54
       refine ⟨trivial, ?_⟩
       refine RL.sB (b := b4) (i := 1) (j := 0) rfl rfl rfl ty50 rfl rfl hg54 rfl (hb4) rfl rfl ?_
       rintro w55 Q55 (hg55 : Good _ t51 (A50 :: Q55 :: Q54 :: Q2 :: Q1 :: os)) hax55 hb55
       refine ⟨trivial, ?_⟩
       refine RL.pu ?_
       refine RL.done ?_
       refine CW.ret (ret (vs := [_, _, _]) ⟨_, _, _, rfl, rfl, loadVar_agg ty44 hb54 (hg55.mem (by simp)) rfl, _, _, _, rfl, rfl, loadVar_agg ty50 hb55 (hg55.mem (by simp)) rfl, _, _, rfl, rfl, rfl⟩ ?_)
       have hst := stepP_err (r := r) (i := i) (by simpa using h36)
       exact Post.mk (hle5.trans (hle50.trans (hle51.trans hll51))) (((((hg55.drop).drop).drop).drop).drop).nil (hax1.trans (hax2.trans (hax3.trans (hax4.trans (hax5.trans (haxN.trans (hax50.trans (hax51.trans (hax54.trans hax55))))))))) ⟨h38, hd0, by rw [hst]; rfl, by rw [hst]; exact hRA, by rw [hst]; exact ⟨Imm.nil _ _ _ (Nat.zero_le _), Imm.nil _ _ _ (Nat.zero_le _)⟩⟩
      ·
       refine CW.skip ?_
       refine CW.seq ?_
       have hg56 := hg50.drew
       refine CW.draws2 [(true, 0), (true, 1), (true, 2), (true, 3), (true, 4), (true, 5), (true, 6), (true, 7), (true, 8), (true, 9), (true, 10), (true, 11)] [(false, 12)] 12 #[true, true, true, true, true, true, true, true, true, true, true, true, false] (fun w => At1 p _ w ∧ At1 b1 _ w ∧ True) mixed (by kernel_rfl) (by kernel_rfl) (by kernel_rfl) (by kernel_rfl) (by kernel_rfl) (⟨hg56.at1 (by simp) nd50.cells, hg56.at1 (by simp) hb1, trivial⟩) ?_
       refine RL.pu ?_
       refine RL.pu ?_
       refine RL.pu ?_
       refine RL.fi fl109_0 ?_
       refine RL.fi fl44_1 ?_
       refine RL.loadsT (ad := ⟨p, 0, none⟩) (j := 1) rfl rfl rfl rfl ty24 rfl (At1.holds) (fun w h => h.1.inn) rfl rfl ?_
       refine RL.fi fl44_1 ?_
       refine RL.loadsT (ad := ⟨b1, 0, none⟩) (j := 1) rfl rfl rfl rfl ty24 rfl (At1.holds) (fun w h => h.2.1.inn) rfl rfl ?_
       refine RL.stNe rfl rfl rfl rfl (by kernel_rfl) rfl rfl (hard_ne ((newN r).act i).1.s.hard r.hard) ?_
       refine RL.pu ?_
       refine RL.fi fl109_1 ?_
       refine RL.fi fl50_2 ?_
       refine RL.done ?_
       refine RL.next trivial ?_
       refine RL.storeT (p := p) (i := 0) (j := 22) rfl rfl rfl ty4 rfl rfl hg56 rfl (nd50.cells) (NRest.wSave nd50.rest) rfl (Nat.le_of_ble_eq_true rfl) rfl ?_
       rintro w57 A57 (hg57 : Good _ s50 (A57 :: Q4 :: Q3 :: Q2 :: Q1 :: os)) hax57 nd57
       refine ⟨trivial, ?_⟩
       refine RL.done ?_
       refine CW.seq ?_
       have hg58 := hg57.drew
       refine CW.draws [(true, 0), (true, 1), (true, 2), (true, 3), (true, 4), (true, 5), (true, 6), (true, 7), (false, 8), (false, 9), (false, 10)] (fun w => At1 p _ w ∧ True) mixed (by kernel_rfl) (by kernel_rfl) (by kernel_rfl) (by kernel_rfl) (⟨hg58.at1 (by simp) nd57.cells, trivial⟩) ?_
       refine RL.pu ?_
       refine RL.pu ?_
       refine RL.fi fl109_0 ?_
       refine RL.loadsT (ad := ⟨p, 0, none⟩) (j := 0) rfl rfl rfl rfl ty44 rfl (At1.holds) (fun w h => h.1.inn) rfl rfl ?_
       refine RL.pu ?_
       refine RL.pu ?_
       refine RL.fi fl109_1 ?_
       refine RL.loadsT (ad := ⟨p, 0, none⟩) (j := 20) rfl rfl rfl rfl ty50 rfl (At1.holds) (fun w h => h.1.inn) rfl rfl ?_
       refine RL.sB (b := b3) (i := 2) (j := 0) rfl rfl rfl ty44 rfl rfl hg58 rfl (hb3) rfl rfl ?_
       rintro w59 Q59 (hg59 : Good _ s50 (A57 :: Q4 :: Q59 :: Q2 :: Q1 :: os)) hax59 hb59
       refine ⟨⟨hg59.at1 (by simp) nd57.cells, trivial⟩, ?_⟩
       refine RL.sB (b := b4) (i := 1) (j := 0) rfl rfl rfl ty50 rfl rfl hg59 rfl (hb4) rfl rfl ?_
       rintro w60 Q60 (hg60 : Good _ s50 (A57 :: Q60 :: Q59 :: Q2 :: Q1 :: os)) hax60 hb60
       refine ⟨⟨hg60.at1 (by simp) nd57.cells, trivial⟩, ?_⟩
       refine RL.pu ?_
       refine RL.done ?_
       refine CW.ret (ret (vs := [_, _, _]) ⟨_, _, _, rfl, rfl, loadVar_agg ty44 hb59 (hg60.mem (by simp)) rfl, _, _, _, rfl, rfl, loadVar_agg ty50 hb60 (hg60.mem (by simp)) rfl, _, _, rfl, rfl, rfl⟩ ?_)
       have hst := stepP_ok (r := r) (i := i) (by simpa using h36)
       have hz := ((((hg60.dropNext).dropNext).dropNext).dropNext)
       obtain ⟨s1, hgs1, hl1, hm1⟩ := hz.letgo
       exact Post.mk ((hle5.trans hle50).trans hl1) hgs1.nil (hax1.trans (hax2.trans (hax3.trans (hax4.trans (hax5.trans (haxN.trans (hax50.trans ((Aux.drew _).trans (hax57.trans ((Aux.drew _).trans (hax59.trans hax60))))))))))) ⟨_, _, by rw [hst]; rfl, by rw [hst]; exact (nd57).rest.raftAt hRz hl1 hm1, by rw [hst]; exact ⟨(nd57).outs.imm REntry.up hl1 hm1, (nd57).msgs.imm RMsg.up hl1 hm1⟩⟩
     ·
      obtain ⟨hcf, hct⟩ : ActsAs 34 (newN r) i y da dc p := acts_unknown ⟨hk1, hk2, hk3, hk4, by simpa using h26⟩
      refine CW.skip ?_
      refine CW.seq ?_
      refine CW.seq (CW.plain ?_)
      refine RL.pu ?_
      refine RL.loads (ad := ⟨b2, 0, none⟩) (j := 0) rfl rfl rfl rfl ty61 rfl (Holds.of hb2) (hgJ.mem (by simp)) rfl rfl ?_
      refine RL.callB rfl rfl rfl rfl rfl rfl hcf (hct hgJ ndN hi) ?_
      rintro e61 w61 ⟨v61, s61, A61, rfl, hle61, (hg61 : Good _ s61 (A61 :: Q4 :: Q3 :: Q2 :: Q1 :: os)), hax61, ⟨rfl, h61, nd61⟩⟩
      have hr := hr.up hle61
      have hi := hi.up hle61
      refine ⟨_, rfl, trivial, ?_⟩
      refine RL.pu ?_
      refine RL.done ?_
      refine CW.seq (CW.plain ?_)
      refine RL.pu ?_
      refine RL.pu ?_
      refine RL.done ?_
      refine CW.cond rfl (fun h36 => ?_) (fun h36 => ?_)
      ·
       refine CW.seq (CW.plain ?_)
       refine RL.loads (ad := ⟨b1, 0, none⟩) (j := 0) rfl rfl rfl rfl ty44 rfl (Holds.of hb1) (hg61.mem (by simp)) rfl rfl ?_
       refine RL.call rfl rfl rfl rfl rfl ca33 (copied_ct hg61 hr hS hbl hpl htl) ?_
       rintro v62 s62 B62 w62 hle62 (hg62 : Good _ s62 (B62 :: A61 :: Q4 :: Q3 :: Q2 :: Q1 :: os)) hax62 ⟨h38, rfl, hN38⟩
       have nd63 := nd61.up hle62
       have hr := hr.up hle62
       have hi := hi.up hle62
       obtain ⟨t62, hgl62, hll62, hml62⟩ := hg62.letgo
       have hg62 : Good _ t62 (A61 :: Q4 :: Q3 :: Q2 :: Q1 :: os) := hgl62
       have nd64 := nd63.up hll62
       have hr := hr.up hll62
       have hi := hi.up hll62
       have hRA := hN38.raftAt (n := newN r) hR hll62 hml62
       refine ⟨trivial, ?_⟩
       refine RL.build rfl rfl rfl rfl ze50 pl50 rfl rfl ?_
       refine RL.pu ?_
       refine RL.sB (b := b3) (i := 2) (j := 0) rfl rfl rfl ty44 rfl rfl hg62 rfl (hb3) rfl rfl ?_
       rintro w65 Q65 (hg65 : Good _ t62 (A61 :: Q4 :: Q65 :: Q2 :: Q1 :: os)) hax65 hb65
       refine ⟨trivial, ?_⟩
       refine RL.sB (b := b4) (i := 1) (j := 0) rfl rfl rfl ty50 rfl rfl hg65 rfl (hb4) rfl rfl ?_
       rintro w66 Q66 (hg66 : Good _ t62 (A61 :: Q66 :: Q65 :: Q2 :: Q1 :: os)) hax66 hb66
       refine ⟨trivial, ?_⟩
       refine RL.pu ?_
       refine RL.done ?_
       refine CW.ret (ret (vs := [_, _, _]) ⟨_, _, _, rfl, rfl, loadVar_agg ty44 hb65 (hg66.mem (by simp)) rfl, _, _, _, rfl, rfl, loadVar_agg ty50 hb66 (hg66.mem (by simp)) rfl, _, _, rfl, rfl, rfl⟩ ?_)
       have hst := stepP_err (r := r) (i := i) (by simpa using h36)
       exact Post.mk (hle5.trans (hle61.trans (hle62.trans hll62))) (((((hg66.drop).drop).drop).drop).drop).nil (hax1.trans (hax2.trans (hax3.trans (hax4.trans (hax5.trans (haxN.trans (hax61.trans (hax62.trans (hax65.trans hax66))))))))) ⟨h38, hd0, by rw [hst]; rfl, by rw [hst]; exact hRA, by rw [hst]; exact ⟨Imm.nil _ _ _ (Nat.zero_le _), Imm.nil _ _ _ (Nat.zero_le _)⟩⟩
      ·
       refine CW.skip ?_
       refine CW.seq ?_
       have hg67 := hg61.drew
       refine CW.draws2 [(true, 0), (true, 1), (true, 2), (true, 3), (true, 4), (true, 5), (true, 6), (true, 7), (true, 8), (true, 9), (true, 10), (true, 11)] [(false, 12)] 12 #[true, true, true, true, true, true, true, true, true, true, true, true, false] (fun w => At1 p _ w ∧ At1 b1 _ w ∧ True) mixed (by kernel_rfl) (by kernel_rfl) (by kernel_rfl) (by kernel_rfl) (by kernel_rfl) (⟨hg67.at1 (by simp) nd61.cells, hg67.at1 (by simp) hb1, trivial⟩) ?_
       refine RL.pu ?_
       refine RL.pu ?_
       refine RL.pu ?_
       refine RL.fi fl109_0 ?_
       refine RL.fi fl44_1 ?_
       refine RL.loadsT (ad := ⟨p, 0, none⟩) (j := 1) rfl rfl rfl rfl ty24 rfl (At1.holds) (fun w h => h.1.inn) rfl rfl ?_
       refine RL.fi fl44_1 ?_
       refine RL.loadsT (ad := ⟨b1, 0, none⟩) (j := 1) rfl rfl rfl rfl ty24 rfl (At1.holds) (fun w h => h.2.1.inn) rfl rfl ?_
       refine RL.stNe rfl rfl rfl rfl (by kernel_rfl) rfl rfl (hard_ne ((newN r).act i).1.s.hard r.hard) ?_
       refine RL.pu ?_
       refine RL.fi fl109_1 ?_
       refine RL.fi fl50_2 ?_
       refine RL.done ?_
       refine RL.next trivial ?_
       refine RL.storeT (p := p) (i := 0) (j := 22) rfl rfl rfl ty4 rfl rfl hg67 rfl (nd61.cells) (NRest.wSave nd61.rest) rfl (Nat.le_of_ble_eq_true rfl) rfl ?_
       rintro w68 A68 (hg68 : Good _ s61 (A68 :: Q4 :: Q3 :: Q2 :: Q1 :: os)) hax68 nd68
       refine ⟨trivial, ?_⟩
       refine RL.done ?_
       refine CW.seq ?_
       have hg69 := hg68.drew
       refine CW.draws [(true, 0), (true, 1), (true, 2), (true, 3), (true, 4), (true, 5), (true, 6), (true, 7), (false, 8), (false, 9), (false, 10)] (fun w => At1 p _ w ∧ True) mixed (by kernel_rfl) (by kernel_rfl) (by kernel_rfl) (by kernel_rfl) (⟨hg69.at1 (by simp) nd68.cells, trivial⟩) ?_
       refine RL.pu ?_
       refine RL.pu ?_
       refine RL.fi fl109_0 ?_
       refine RL.loadsT (ad := ⟨p, 0, none⟩) (j := 0) rfl rfl rfl rfl ty44 rfl (At1.holds) (fun w h => h.1.inn) rfl rfl ?_
       refine RL.pu ?_
       refine RL.pu ?_
       refine RL.fi fl109_1 ?_
       refine RL.loadsT (ad := ⟨p, 0, none⟩) (j := 20) rfl rfl rfl rfl ty50 rfl (At1.holds) (fun w h => h.1.inn) rfl rfl ?_
       refine RL.sB (b := b3) (i := 2) (j := 0) rfl rfl rfl ty44 rfl rfl hg69 rfl (hb3) rfl rfl ?_
       rintro w70 Q70 (hg70 : Good _ s61 (A68 :: Q4 :: Q70 :: Q2 :: Q1 :: os)) hax70 hb70
       refine ⟨⟨hg70.at1 (by simp) nd68.cells, trivial⟩, ?_⟩
       refine RL.sB (b := b4) (i := 1) (j := 0) rfl rfl rfl ty50 rfl rfl hg70 rfl (hb4) rfl rfl ?_
       rintro w71 Q71 (hg71 : Good _ s61 (A68 :: Q71 :: Q70 :: Q2 :: Q1 :: os)) hax71 hb71
       refine ⟨⟨hg71.at1 (by simp) nd68.cells, trivial⟩, ?_⟩
       refine RL.pu ?_
       refine RL.done ?_
       refine CW.ret (ret (vs := [_, _, _]) ⟨_, _, _, rfl, rfl, loadVar_agg ty44 hb70 (hg71.mem (by simp)) rfl, _, _, _, rfl, rfl, loadVar_agg ty50 hb71 (hg71.mem (by simp)) rfl, _, _, rfl, rfl, rfl⟩ ?_)
       have hst := stepP_ok (r := r) (i := i) (by simpa using h36)
       have hz := ((((hg71.dropNext).dropNext).dropNext).dropNext)
       obtain ⟨s1, hgs1, hl1, hm1⟩ := hz.letgo
       exact Post.mk ((hle5.trans hle61).trans hl1) hgs1.nil (hax1.trans (hax2.trans (hax3.trans (hax4.trans (hax5.trans (haxN.trans (hax61.trans ((Aux.drew _).trans (hax68.trans ((Aux.drew _).trans (hax70.trans hax71))))))))))) ⟨_, _, by rw [hst]; rfl, by rw [hst]; exact (nd68).rest.raftAt hRz hl1 hm1, by rw [hst]; exact ⟨(nd68).outs.imm REntry.up hl1 hm1, (nd68).msgs.imm RMsg.up hl1 hm1⟩⟩
end
end Go.Lw

/-
 A LAW'S FRAME: what the row's reading of an argument gives the walk; how the walk's end gives the row's end. Over any program.
-/
namespace Go.Lw
open Go.ChangeShapes Go.WideShapes Go.ChangeAt Go.RowKit
def all (W : World) : Res := fun b => W.heap[b]?
theorem all_good (W : World) : Good W (all W) [] := fun _ _ h => h
def Opens {α H : Type} (bulk : DataW H → Nat) (enc : TypeId × Value → H) (P : Program) (W : World) (t : TypeId) (R : Res → List Value → α → Prop) (bk : α → Nat) : Prop :=
 ∀ (fuel : Nat) (cs : List Value) (d : DataW H) (ps : List MemPlace), DataW.trod enc P W 0 (fun _ => true) true fuel t cs = some (d, ps) → ∃ x : α, R (all W) cs x ∧ bk x ≤ bulk d
section
variable {α β H : Type} {bulk : DataW H → Nat} {enc : TypeId × Value → H} {P : Program} {W : World} {t e : TypeId} {R : Res → List Value → α → Prop} {bk : α → Nat}
theorem Opens.imp {R' : Res → List Value → β → Prop} {bk' : β → Nat} (h : Opens bulk enc P W t R bk) (g : α → β) (hR : ∀ s vs x, R s vs x → R' s vs (g x)) (hb : ∀ x, bk' (g x) ≤ bk x) : Opens bulk enc P W t R' bk' := fun fuel cs d ps hd => by
 obtain ⟨x, h1, h2⟩ := h fuel cs d ps hd
 exact ⟨g x, hR _ _ _ h1, Nat.le_trans (hb x) h2⟩
theorem wf_rng {k : IntKind} {n : Int} (h : (Lit.int k n).wf = true) : rng k n := by
 simp only [Lit.wf] at h
 cases k <;> simp only [IntKind.signed, IntKind.bits, IntKind.min, IntKind.max] at h <;> simp only [rng] <;> simp at h <;> omega
theorem opens_int {k : IntKind} (ht : P.underlying t = some (.int k)) : Opens bulk enc P W t (RInt k) (fun _ => 0) := fun fuel cs d ps hd => by
 obtain ⟨n, rfl, _, hw⟩ := DataW.trod_int ht hd
 exact ⟨n, ⟨rfl, wf_rng hw⟩, Nat.zero_le _⟩
theorem opens_bool (ht : P.underlying t = some .bool) : Opens bulk enc P W t RBool (fun _ => 0) := fun fuel cs d ps hd => by
 obtain ⟨b, rfl, _⟩ := DataW.trod_bool ht hd
 exact ⟨b, rfl, Nat.zero_le _⟩
theorem cells_holds {a : Addr} {n : Nat} {cs : List Value} (h : W.cells? 0 a n = some cs) : cs.length = n ∧ ∀ j u, cs[j]? = some u → W.cell? (a.add j) = some u := by
 simp only [World.cells?, Nat.zero_le, if_true] at h
 have key : ∀ (n k : Nat) (cs : List Value), (List.range' k n).mapM (fun i => W.cell? (a.add i)) = some cs → cs.length = n ∧ ∀ j u, cs[j]? = some u → W.cell? (a.add (k + j)) = some u := by
  intro n
  induction n with
  | zero => intro k cs h; simp at h; subst h; simp
  | succ n ih =>
   intro k cs h
   rw [List.range'_succ, List.mapM_cons] at h
   cases hc : W.cell? (a.add k) with
   | none => simp [hc] at h
   | some u =>
    cases hr : (List.range' (k + 1) n).mapM (fun i => W.cell? (a.add i)) with
    | none => simp [hc, hr] at h
    | some us =>
     simp [hc, hr] at h
     subst h
     obtain ⟨h1, h2⟩ := ih (k + 1) us hr
     refine ⟨by simp [h1], fun j v hj => ?_⟩
     cases j with
     | zero => simp at hj; subst hj; simpa using hc
     | succ j =>
      have := h2 j v (by simpa using hj)
      rwa [show k + (j + 1) = k + 1 + j by omega]
 have := key n 0 cs (by rw [← List.range_eq_range']; exact h)
 simpa using this
theorem cell_block {a : Addr} {u : Value} (h : W.cell? a = some u) : ∃ cs el fr, W.heap[a.block]? = some (.cells cs el fr) ∧ a.spot = none ∧ cs[a.off]? = some u := by
 simp only [World.cell?] at h
 split at h
 ·
  rename_i cs el fr hh
  split at h
  ·
   cases h
  ·
   rename_i hs
   exact ⟨cs, el, fr, hh, by simpa using hs, h⟩
 ·
  cases h
theorem opens_slice (ht : P.underlying t = some (.slice e)) {sz : Nat} (hsz : P.cellsOf e = sz) (h0 : 0 < sz) (hel : Opens bulk enc P W e R bk)
  (hb : ∀ l r, (l.map bulk).sum ≤ bulk (.slice l r)) (hb1 : ∀ l r : List (DataW H), l.length ≤ bulk (.slice l r)) :
  Opens bulk enc P W t (RSl R sz) (fun xs => max xs.length ((xs.map bk).sum)) := fun fuel cs d ps hd => by
 rcases DataW.trod_slice ht hd with ⟨rfl, hx⟩ | ⟨a, len, cap, elems, rest, n, _, rfl, hx, _, hl, hm, hlen, hall, _, _⟩
 ·
  exact ⟨[], ⟨none, 0, rfl, Imm.nil _ _ _ (Nat.zero_le _)⟩, by simp⟩
 ·
  simp only [Prod.mk.injEq] at hx
  rw [hsz] at hall
  -- element by element
  have key : ∀ m, m ≤ len → ∃ (xs : List α) (vs : List Value), xs.length = m ∧ Chunks R sz (all W) vs xs ∧ (∀ j u, vs[j]? = some u → W.cell? (a.add j) = some u) ∧ (xs.map bk).sum ≤ ((elems.take m).map fun y => bulk y.1).sum := by
   intro m
   induction m with
   | zero => intro _; exact ⟨[], [], rfl, rfl, by simp, by simp⟩
   | succ m ih =>
    intro hm'
    obtain ⟨xs, vs, h1, h2, h3, h4⟩ := ih (by omega)
    have he := hall m (by omega)
    have hme : m < elems.length := by omega
    rw [List.getElem?_eq_getElem hme] at he
    obtain ⟨cs', hc1, hc2⟩ := Option.bind_eq_some_iff.1 he
    obtain ⟨hcl, hcc⟩ := cells_holds hc1
    obtain ⟨x, hR, hbx⟩ := hel n cs' elems[m].1 elems[m].2 hc2
    have hvl := h2.length
    refine ⟨xs ++ [x], vs ++ cs', by simp [h1], h2.append (Chunks.single hcl hR), fun j u hj => ?_, ?_⟩
    ·
     by_cases hj' : j < vs.length
     ·
      exact h3 j u (by rwa [List.getElem?_append_left hj'] at hj)
     ·
      rw [List.getElem?_append_right (by omega)] at hj
      have := hcc _ u hj
      rw [add_add] at this
      rwa [show m * sz + (j - vs.length) = j by rw [hvl, h1] at *; omega] at this
    ·
     rw [List.take_succ_eq_append_getElem hme]
     simp only [List.map_append, List.sum_append, List.map_cons, List.map_nil, List.sum_cons, List.sum_nil]
     omega
  obtain ⟨xs, vs, h1, h2, h3, h4⟩ := key len (Nat.le_refl _)
  refine ⟨xs, ⟨some a, cap, by rw [h1], by rw [h1]; exact hl, hm, ?_⟩, ?_⟩
  ·
   cases xs with
   | nil => exact .inl rfl
   | cons x xs =>
    refine .inr ⟨a, rfl, vs, ?_, h2⟩
    have hvl := h2.length
    have hpos : 0 < vs.length := by rw [hvl]; simp only [List.length_cons]; exact Nat.mul_pos (by omega) h0
    have hc0 := h3 0 vs[0] (by simp [hpos])
    have hz : a.add 0 = a := by unfold Addr.add; simp
    rw [hz] at hc0
    obtain ⟨cb, el, fr, hb', hsp, _⟩ := cell_block hc0
    refine ⟨cb, el, fr, hb', hsp, fun j u hj => ?_⟩
    obtain ⟨cb', el', fr', hb'', _, hcu⟩ := cell_block (h3 j u hj)
    rw [add_block, hb'] at hb''
    cases hb''
    rwa [add_off] at hcu
  ·
   rw [hx.1]
   have hb' := hb (elems.map (·.1)) (rest.map (·.1))
   have hb1' := hb1 (elems.map (·.1)) (rest.map (·.1))
   rw [List.take_of_length_le (by omega)] at h4
   simp only [List.map_map, List.length_map] at hb' hb1'
   have e1 : (elems.map (bulk ∘ fun y => y.1)).sum = (elems.map fun y => bulk y.1).sum := rfl
   rw [e1] at hb'
   show max xs.length ((xs.map bk).sum) ≤ _
   omega
/-! ### structs -/
def RNil : Res → List Value → Unit → Prop := fun _ vs _ => vs = []
def RCons (k : Nat) (R : Res → List Value → α → Prop) (Q : Res → List Value → β → Prop) : Res → List Value → α × β → Prop := fun s vs x =>
 ∃ us rest, vs = us ++ rest ∧ us.length = k ∧ R s us x.1 ∧ Q s rest x.2
def OpensF (bulk : DataW H → Nat) (enc : TypeId × Value → H) (P : Program) (W : World) (fs : List Field) (off : Nat) (R : Res → List Value → α → Prop) (bk : α → Nat) : Prop :=
 ∀ (fuel : Nat) (cs : List Value) (xs : List (DataW H × List MemPlace)), xs.length = fs.length →
  (∀ (i : Nat) (f : Field), fs[i]? = some f → DataW.trod enc P W 0 (fun _ => true) true fuel f.type ((cs.drop f.offset).take (P.cellsOf f.type)) = xs[i]?) → cs.length = off + (fs.map fun f => P.cellsOf f.type).sum →
  ∃ x : α, R (all W) (cs.drop off) x ∧ bk x ≤ (xs.map fun y => bulk y.1).sum
theorem opens_nil (off : Nat) : OpensF bulk enc P W [] off RNil (fun _ => 0) := fun fuel cs xs hl _ hc => by
 refine ⟨(), ?_, Nat.zero_le _⟩
 simp only [List.map_nil, List.sum_nil, Nat.add_zero] at hc
 exact List.drop_eq_nil_of_le (by omega)
theorem opens_cons {f : Field} {fs : List Field} {off k : Nat} {Q : Res → List Value → β → Prop} {bq : β → Nat} (ho : f.offset = off) (hk : P.cellsOf f.type = k) (hf : Opens bulk enc P W f.type R bk) (hr : OpensF bulk enc P W fs (off + k) Q bq) :
  OpensF bulk enc P W (f :: fs) off (RCons k R Q) (fun x => bk x.1 + bq x.2) := fun fuel cs xs hl h hc => by
 cases xs with
 | nil => simp at hl
 | cons y ys =>
  have h0 := h 0 f rfl
  simp only [List.map_cons, List.sum_cons, hk] at hc
  rw [ho, hk] at h0
  obtain ⟨x, hx, hb⟩ := hf fuel _ y.1 y.2 (by simpa using h0)
  obtain ⟨z, hz, hb'⟩ := hr fuel cs ys (by simpa using hl) (fun i g hg => by simpa using h (i + 1) g (by simpa using hg)) (by omega)
  refine ⟨(x, z), ⟨(cs.drop off).take k, cs.drop (off + k), ?_, ?_, hx, hz⟩, ?_⟩
  ·
   rw [← List.drop_drop, List.take_append_drop]
  ·
   simp only [List.length_take, List.length_drop]; omega
  ·
   simp only [List.map_cons, List.sum_cons]; omega
theorem opens_struct {fs : Array Field} (ht : P.underlying t = some (.struct fs)) (hs : P.cellsOf t = (fs.toList.map fun f => P.cellsOf f.type).sum) (h : OpensF bulk enc P W fs.toList 0 R bk)
  (hb : ∀ l, (l.map bulk).sum ≤ bulk (.agg l)) : Opens bulk enc P W t R bk := fun fuel cs d ps hd => by
 obtain ⟨xs, n, _, hx, hcl, hxl, hall⟩ := DataW.trod_struct ht hd
 simp only [Prod.mk.injEq] at hx
 obtain ⟨x, h1, h2⟩ := h n cs xs (by simpa using hxl) (fun i f hi => hall i f (by simpa using hi)) (by rw [hcl, hs]; omega)
 refine ⟨x, by simpa using h1, Nat.le_trans h2 ?_⟩
 rw [hx.1]
 have := hb (xs.map (·.1))
 simpa [List.map_map, Function.comp_def] using this
end
/-! ### the end -/
theorem below_of {W W' : World} {s' : Res} {os : List Res} (hg : Good W' s' os) (hl : Le (all W) s') (ha : Aux W W') : Below W.heap.size W W' :=
 ⟨ha.os, ha.tape, ha.output, ha.size, fun k hk => by
  have h1 : W.heap[k]? = some W.heap[k] := by simp [hk]
  rw [h1]
  exact hg.sh k _ (hl k _ h1)⟩
theorem trodAll_stays {H : Type} {enc : TypeId × Value → H} {P : Program} (hl : laidOutB P = true) {W W' : World} (hb : Below W.heap.size W W') : ∀ {ts : List TypeId} {vs : List Value} {ds : List (DataW H)} {ps : List MemPlace},
  (ts.all fun t => P.readableRec t && decide (t < P.types.size)) = true → DataW.TrodAll enc P W 0 (fun _ => true) true ts vs ds ps → (∀ x ∈ ps, x.block < W.heap.size) →
  DataW.TrodAll enc P W' 0 (fun b => decide (b < W.heap.size)) true ts vs ds ps
 | [], [], [], ps, _, h, _ => h
 | t :: ts, v :: vs, d :: ds, ps, ht, h, hlt => by
  obtain ⟨p, q, h1, h2, rfl⟩ := h
  simp only [List.all_cons, Bool.and_eq_true, decide_eq_true_eq] at ht
  refine ⟨p, q, Below.trod hl ht.1.1 ht.1.2 h1 hb (fun x hx => hlt x (by simp [hx])), trodAll_stays hl hb ?_ h2 (fun x hx => hlt x (by simp [hx])), rfl⟩
  exact ht.2
 | [], _ :: _, _, _, _, h, _ => h.elim
 | [], [], _ :: _, _, _, h, _ => h.elim
 | _ :: _, [], _, _, _, h, _ => h.elim
 | _ :: _, _ :: _, [], _, _, h, _ => h.elim
theorem law_end {H : Type} {enc : TypeId × Value → H} {P : Program} {f : FuncId} {fn : Func} {spec : ChangeSpec} {W : World} {args : Array Value} {ds gs : List (DataW H)} {before : List MemPlace} {tb : TypeId}
  (hl : laidOutB P = true) (hp : (fn.params.toList.all fun t => P.readableRec t && decide (t < P.types.size)) = true) (hv : spec.vars = []) (hr : fn.resultTypes = #[tb]) (hb : P.underlying tb = some .bool)
  (hW : DataW.Whole enc P fn.params.toList spec.vars false W args.toList ds gs before) (hs : (spec.fn H (ds ++ gs)).results = [.lit (.bool true)] ∧ (spec.fn H (ds ++ gs)).args = ds ∧ (spec.fn H (ds ++ gs)).vars = [])
  (hc : Calls P f args W (Post W (all W) [] fun _ _ r => r = .bool true)) :
  Calls P f args W fun e W' => ∃ v, e = .returned v ∧ spec.post enc P fn false true false false W args v W' := by
 refine hc.mono fun e W' ⟨v, s', A, he, hle, hg, ha, hv'⟩ => ⟨v, he, ?_⟩
 have hbl := below_of hg hle ha
 have hlt := hW.lt
 have hW' := hW
 obtain ⟨p, q, hA, hV, rfl, _, _⟩ := hW
 obtain ⟨s1, s2, s3⟩ := hs
 subst hv'
 refine ⟨ds, gs, p ++ q, [], p, [], hW', ?_, ?_, ?_, hbl.frame _, fun h => by cases h⟩
 ·
  rw [s1, hr]
  exact trodAll_mk1 (shut_bool hb _)
 ·
  rw [s2]
  exact trodAll_stays hl hbl hp hA (fun x hx => hlt x (by simp [hx]))
 ·
  rw [s3, hv]
  rfl
end Go.Lw

/-
 The rows' readings of arguments, opened: numbers, texts, lists, configurations.
-/
namespace Go.Lw
open Go.Proofs
section
variable {H : Type} {enc : TypeId × Value → H} {W : World}
abbrev blk : DataW H → Nat := Go.Proofs.YtpjclnomaemokaaGreat.Rows.uptoBulk
theorem blk_all (l : List (DataW H)) : (l.map blk).sum = Go.Proofs.YtpjclnomaemokaaGreat.Rows.uptoBulkAll l := by
 induction l with
 | nil => simp [Go.Proofs.YtpjclnomaemokaaGreat.Rows.uptoBulkAll]
 | cons x l ih => simp only [List.map_cons, List.sum_cons, ih, Go.Proofs.YtpjclnomaemokaaGreat.Rows.uptoBulkAll]
theorem blk_one (d : DataW H) : 1 ≤ blk d := by
 cases d with
 | lit l => cases l <;> simp [blk, Go.Proofs.YtpjclnomaemokaaGreat.Rows.uptoBulk]
 | _ => simp [blk, Go.Proofs.YtpjclnomaemokaaGreat.Rows.uptoBulk]
theorem blk_slice (l r : List (DataW H)) : (l.map blk).sum ≤ blk (.slice l r) := by rw [blk_all]; simp only [blk, Go.Proofs.YtpjclnomaemokaaGreat.Rows.uptoBulk]; omega
theorem blk_len (l r : List (DataW H)) : l.length ≤ blk (.slice l r) := by
 have h : l.length ≤ (l.map blk).sum := by
  induction l with
  | nil => simp
  | cons x l ih => have := blk_one x; simp only [List.map_cons, List.sum_cons, List.length_cons]; omega
 exact Nat.le_trans h (blk_slice l r)
theorem blk_agg (l : List (DataW H)) : (l.map blk).sum ≤ blk (.agg l) := by rw [blk_all]; simp only [blk, Go.Proofs.YtpjclnomaemokaaGreat.Rows.uptoBulk]; omega
abbrev Op {α : Type} (enc : TypeId × Value → H) (W : World) (t : TypeId) (R : Res → List Value → α → Prop) (bk : α → Nat) : Prop := Opens blk enc Tryz.prog W t R bk
theorem op_u64 : Op enc W 22 (RInt .u64) (fun _ => 0) := opens_int Tryz.underlying22
theorem op_int : Op enc W 3 (RInt .i64) (fun _ => 0) := opens_int Tryz.underlying3
theorem op_bool : Op enc W 4 RBool (fun _ => 0) := opens_bool Tryz.underlying4
theorem op_ints : Op enc W 25 (RSl (RInt .i64) 1) (fun xs => xs.length) :=
 (opens_slice Tryz.underlying25 (by kernel_rfl : _ = 1) (by decide) (opens_int Tryz.underlying3) blk_slice blk_len).imp id (fun _ _ _ h => h) (fun _ => Nat.le_max_left _ _)
def Conf.size (x : Conf) : Nat := x.voters.length + x.learners.length
theorem op_conf : Op enc W 27 RConf Conf.size :=
 (opens_struct Tryz.underlying27 (by kernel_rfl) (opens_cons rfl (by kernel_rfl : _ = 1) op_ints (opens_cons rfl (by kernel_rfl : _ = 1) op_ints (opens_nil _))) blk_agg).imp
  (fun x => ⟨x.1, x.2.1⟩) (fun s vs x h => by
   obtain ⟨_, _, rfl, _, ⟨a, c, rfl, h1⟩, _, _, rfl, _, ⟨a', c', rfl, h2⟩, h3⟩ := h
   cases (show _ = [] from h3)
   exact ⟨a, c, a', c', rfl, h1, h2⟩) (fun x => by simp only [Conf.size]; omega)
end
end Go.Lw

/-
 The rows' readings of arguments, opened: bytes.
-/
namespace Go.Lw
open Go.Proofs
section
variable {H : Type} {enc : TypeId × Value → H} {W : World}
theorem op_bytes : Op enc W 28 (RSl (RInt .u8) 1) (fun xs => xs.length) :=
 (opens_slice Tryz.underlying28 (by kernel_rfl : _ = 1) (by decide) (opens_int Tryz.underlying5) blk_slice blk_len).imp id (fun _ _ _ h => h) (fun _ => Nat.le_max_left _ _)
end
end Go.Lw

/-
 Configurations held against the same; the sizes of a law's inputs.
-/
namespace Go.Lw
open Go.Proofs
attribute [local irreducible] RL RA
set_option maxRecDepth 100000 in
theorem sameInts_ct {w : World} {s : Res} {os : List Res} {xs : List Int} {a b : Option Addr} {c d : Nat} (hg : Good w s os) (ha : Imm (RInt .i64) 1 s a c xs) (hb : Imm (RInt .i64) 1 s b d xs) :
  Calls Tryz.prog 53 #[.slice a xs.length c, .slice b xs.length d] w (PostV w s os fun r => r = .bool true) := by
 have hmax := ha.le_max
 simp only [maxLen] at hmax
 refine enter (l := [.slice a xs.length c, .slice b xs.length d]) Tryz.func53 rfl Tryz.ntmps53 rfl ?_
 refine CW.seq (CW.plain ?_)
 refine RL.pu ?_
 refine RL.done ?_
 refine CW.seq (CW.seq (CW.plain ?_))
 refine RL.pu ?_
 refine RL.len rfl rfl rfl rfl sl25 rfl ?_
 refine RL.pu ?_
 refine RL.len rfl rfl rfl rfl sl25 rfl ?_
 refine RL.pu ?_
 refine RL.done ?_
 refine CW.ne rfl (fun h => absurd rfl h) (fun _ => CW.skip ?_)
 refine CW.meet (fun E w' => E = [(0, .slice a xs.length c)] ∧ Good w' s os ∧ Aux w w') ?_ ?_
 ·
  refine CW.seq (CW.plain ?_)
  refine RL.pu ?_
  refine RL.done ?_
  refine CW.block (CW.loop (σ := Nat) (fun j E w' => ∃ k : Nat, E = [(0, .slice a xs.length c), (1, .slice b xs.length d), (5, .int .i64 k)] ∧ Good w' s os ∧ Aux w w' ∧ k + j = xs.length) (fun j => j) xs.length
   [(0, .slice a xs.length c), (1, .slice b xs.length d), (5, .int .i64 0)] ⟨rfl, rfl, rfl, trivial⟩ ⟨0, rfl, hg, Aux.refl _, by omega⟩ ?_)
  rintro j E w1 ⟨k, rfl, hg1, hax1, hk⟩
  refine CW.seq (CW.seq (CW.plain ?_))
  refine RL.pu ?_
  refine RL.pu ?_
  refine RL.len rfl rfl rfl rfl sl25 rfl ?_
  refine RL.pu ?_
  refine RL.done ?_
  refine CW.test rfl (fun h => ?_) (fun h => CW.exit ?_)
  ·
   refine CW.skip (CW.seq (CW.block (CW.seq ?_)))
   refine CW.draws [(true, 0), (true, 1), (true, 2), (true, 3), (true, 4), (true, 5), (true, 6), (true, 7), (true, 8)] (fun w => Good w s os) mixed (by kernel_rfl) (by kernel_rfl) (by kernel_rfl) (by kernel_rfl) (hg1.drew) ?_
   refine RL.pu ?_
   refine RL.pu ?_
   refine RL.idx rfl rfl rfl rfl sl25 rfl rfl (ha) (by omega) ((by omega)) ?_
   rintro q1 vs1 hvl1 hH1 ⟨rfl, hr1⟩
   refine RL.loadT rfl rfl rfl rfl ty3 rfl (hH1) (fun w h => h.sh) rfl ?_
   refine RL.pu ?_
   refine RL.pu ?_
   refine RL.idx rfl rfl rfl rfl sl25 rfl rfl (hb) (by omega) ((by omega)) ?_
   rintro q2 vs2 hvl2 hH2 ⟨rfl, hr2⟩
   refine RL.loadT rfl rfl rfl rfl ty3 rfl (hH2) (fun w h => h.sh) rfl ?_
   refine RL.pu ?_
   refine RL.done ?_
   refine CW.ne rfl (fun h => absurd rfl h) (fun _ => CW.skip (CW.plain ?_))
   refine RL.pu ?_
   refine RL.add rfl rfl rfl rfl rfl rfl (by simp only [rng] at *; omega) ?_
   refine RL.pu ?_
   refine RL.done ?_
   cases j with
   | zero => omega
   | succ j => exact fun ac ha => ⟨j, [(0, .slice a xs.length c), (1, .slice b xs.length d), (5, .int .i64 ((k : Int) + 1))], ha.sub ⟨rfl, rfl, rfl, trivial⟩, ⟨k + 1, rfl, hg1.drew, hax1.trans (Aux.drew _), by omega⟩, Nat.lt_succ_self j⟩
  ·
   exact fun ac ha => ⟨[(0, .slice a xs.length c)], ha.sub ⟨rfl, trivial⟩, rfl, hg1, hax1⟩
 rintro E w1 ⟨rfl, hg1, hax1⟩
 refine CW.seq (CW.plain ?_)
 refine RL.pu ?_
 refine RL.done ?_
 exact CW.ret (ret (vs := [_]) ⟨_, _, rfl, rfl, rfl⟩ (PostV.mk hg1 hax1 rfl))
set_option maxRecDepth 100000 in
theorem SameConf_ct {w : World} {s : Res} {os : List Res} {x : Conf} {us vs : List Value} (hg : Good w s os) (hu : RConf s us x) (hv : RConf s vs x) :
  Calls Tryz.prog 24 #[.agg us.toArray, .agg vs.toArray] w (PostV w s os fun r => r = .bool true) := by
 obtain ⟨a1, c1, b1, d1, rfl, i1, j1⟩ := hu
 obtain ⟨a2, c2, b2, d2, rfl, i2, j2⟩ := hv
 refine enter (l := [.agg #[.slice a1 x.voters.length c1, .slice b1 x.learners.length d1], .agg #[.slice a2 x.voters.length c2, .slice b2 x.learners.length d2]]) Tryz.func24 rfl Tryz.ntmps24 rfl ?_
 refine CW.seq (CW.plain ?_)
 refine RL.box rfl rfl rfl rfl rfl hg ?_
 rintro p2 w2 hg2 hax2
 refine ⟨trivial, ?_⟩
 refine RL.box rfl rfl rfl rfl rfl hg2 ?_
 rintro p3 w3 hg3 hax3
 refine ⟨trivial, ?_⟩
 refine RL.pu ?_
 refine RL.done ?_
 refine CW.seq (CW.plain ?_)
 refine RL.fi fl27_0 ?_
 refine RL.load (j := 0) rfl rfl rfl rfl ty25 rfl (Holds.one p2 _ _) (hg3.drop.1) rfl ?_
 refine RL.fi fl27_0 ?_
 refine RL.load (j := 0) rfl rfl rfl rfl ty25 rfl (Holds.one p3 _ _) (hg3.1) rfl ?_
 refine RL.callV rfl rfl rfl rfl rfl ca53 (sameInts_ct hg3 i1 i2) ?_
 rintro v4 w4 hg4 hax4 rfl
 refine ⟨trivial, ?_⟩
 refine RL.pu ?_
 refine RL.done ?_
 refine CW.seq (CW.plain ?_)
 refine RL.fi fl27_1 ?_
 refine RL.load (j := 1) rfl rfl rfl rfl ty25 rfl (Holds.one p2 _ _) (hg4.drop.1) rfl ?_
 refine RL.fi fl27_1 ?_
 refine RL.load (j := 1) rfl rfl rfl rfl ty25 rfl (Holds.one p3 _ _) (hg4.1) rfl ?_
 refine RL.callV rfl rfl rfl rfl rfl ca53 (sameInts_ct hg4 j1 j2) ?_
 rintro v5 w5 hg5 hax5 rfl
 refine ⟨trivial, ?_⟩
 refine RL.pu ?_
 refine RL.done ?_
 refine CW.seq (CW.plain ?_)
 refine RL.pu ?_
 refine RL.pu ?_
 refine RL.pu ?_
 refine RL.pu ?_
 refine RL.pu ?_
 refine RL.done ?_
 exact CW.ret (ret (vs := [_]) ⟨_, _, rfl, rfl, rfl⟩ (PostV.mk hg5.drop.drop (hax2.trans (hax3.trans (hax4.trans hax5))) rfl))
def RInp : Res → List Value → Inp → Prop := fun s vs i => ∃ y da dc, vs = inpV i y da dc ∧ InpOk s i y da dc
theorem RInp.up : Up RInp := fun _ _ _ _ hl ⟨y, da, dc, h, h1⟩ => ⟨y, da, dc, h, h1.up hl⟩
def Entry.size (x : Entry) : Nat := x.data.length + x.conf.size
def Msg.size (m : Msg) : Nat := max m.entries.length (m.entries.map Entry.size).sum + m.conf.size + m.data.length
def Inp.size (i : Inp) : Nat := i.msg.size + i.data.length
def Log.size (l : Log) : Nat := l.base.conf.size + l.base.data.length + max l.entries.length (l.entries.map Entry.size).sum
theorem Entry.size_mem : ∀ {xs : List Entry} {x : Entry}, x ∈ xs → x.size ≤ (xs.map Entry.size).sum
 | y :: ys, x, h => by
  simp only [List.map_cons, List.sum_cons]
  rcases List.mem_cons.1 h with rfl | h
  ·
   omega
  ·
   have := Entry.size_mem h; omega
theorem mfit {s : Res} {m : Msg} {y : Lay} (h : MsgOk s m y) {d : Nat} (hd : m.size ≤ d) : MFit d m := by
 simp only [Msg.size, Conf.size] at hd
 refine ⟨h.frm, h.term, h.index, h.logTerm, h.commit, fun e he => ?_, by omega, ⟨by omega, by omega⟩, by omega⟩
 have h1 := Entry.size_mem he
 simp only [Entry.size, Conf.size] at h1 hd
 have hs : ∀ n : Nat, n = (m.entries.map Entry.size).sum → e.data.length + (e.conf.voters.length + e.conf.learners.length) ≤ n := fun n hn => by rw [hn]; exact h1
 obtain ⟨vs, hE⟩ := h.entries.lies.all e he
 obtain ⟨ea, ec, ea1, ec1, ea2, ec2, hvs, r1, r2, r3, hrest⟩ := hE
 have := hs _ rfl
 exact ⟨r1, r2, by omega, by omega, by omega⟩
theorem ifit {s : Res} {i : Inp} {y : Lay} {da : Option Addr} {dc d : Nat} (h : InpOk s i y da dc) (hd : i.size ≤ d) : IFit d i := by
 simp only [Inp.size] at hd
 exact ⟨mfit h.msg (by omega), by omega⟩
theorem lfit {r s : Res} {l : Log} {h : Hd} (hl : LogAt r s l h) (hok : logOk l = true) (h61 : (lastP l).1 < p61) {c : Nat} (hc : l.size ≤ c) : LFit c l := by
 have hlast := lastP_index hok
 have hix := hl.index
 simp only [rng, p61] at h61 hix
 simp only [Log.size, Conf.size] at hc
 refine ⟨hl.index, hl.term, ⟨by omega, by omega⟩, by omega, fun e he => ?_, by omega, by simp only [p61]; omega, fun k e hk => ?_⟩
 ·
  have h1 := Entry.size_mem he
  simp only [Entry.size, Conf.size] at h1 hc
  obtain ⟨vs, hE⟩ := hl.entries.all e he
  obtain ⟨ea, ec, ea1, ec1, ea2, ec2, hvs, r1, r2, r3, hrest⟩ := hE
  exact ⟨r1, r2, by omega, by omega, by omega⟩
 ·
  have h1 := logOk_get hok hk
  have h2 := (List.getElem?_eq_some_iff.1 hk).1
  rw [wrap_id (by omega) (by omega)]
  exact h1
theorem LFit.le_last {c : Nat} {l : Log} (h : LFit c l) (hc : c ≤ 1099511627776) : ∀ e ∈ l.entries, e.index ≤ (lastP l).1 := fun e he => by
 have hx := h.runX hc
 obtain ⟨k, hk, rfl⟩ := List.getElem_of_mem he
 have h1 := hx k _ (List.getElem?_eq_getElem hk)
 have h2 := hx.last
 omega
theorem newP_fit {s : Res} {id : Int} {v : View} {h : Hd} (hl : LogAt s s v.log h) (hid : rng .i64 id) (ht : rng .u64 v.hard.term) (hv : rng .i64 v.hard.vote) (hc : rng .u64 v.hard.commit) {c : Nat} (hs : v.log.size ≤ c) (he : ¬ (newP id v.hard v.log v.gone).2 ≠ 0) : Fit c (newP id v.hard v.log v.gone).1 := by
 cases hb : newBad id v.hard v.log v.gone with
 | true => rw [newP_bad hb] at he; exact absurd (by decide) he
 | false =>
  have hn : ∀ z, newBad id v.hard v.log v.gone = true → z := fun z h => by rw [hb] at h; cases h
  rw [newP_ok hb]
  have hok : logOk v.log = true := by
   cases hz : logOk v.log with
   | true => rfl
   | false => exact hn _ (newBad_iff.2 (by simp [hz]))
  have h61 : (lastP v.log).1 < p61 := by
   refine Classical.byContradiction fun hz => hn _ (newBad_iff.2 ?_)
   have : p61 ≤ (lastP v.log).1 := by omega
   simp [this]
  exact ⟨hid, ht, hv, hc, lfit hl hok h61 hs, Nat.zero_le _, Nat.zero_le _, fun p hp => (by cases hp), by simp [newR, rng], by simp [newR, rng], Nat.zero_le _⟩
end Go.Lw

/-
 Raftcore's arguments, opened.
-/
namespace Go.Lw
open Go.Proofs
section
variable {H : Type} {enc : TypeId × Value → H} {W : World}
theorem op_ekind : Op enc W 63 (RInt .i64) (fun _ => 0) := opens_int Tryz.underlying63
theorem op_mkind : Op enc W 54 (RInt .i64) (fun _ => 0) := opens_int Tryz.underlying54
theorem op_ikind : Op enc W 53 (RInt .i64) (fun _ => 0) := opens_int Tryz.underlying53
theorem op_ckind : Op enc W 57 (RInt .i64) (fun _ => 0) := opens_int Tryz.underlying57
theorem op_entry : Op enc W 65 REntry Entry.size :=
 (opens_struct Tryz.underlying65 (by kernel_rfl) (opens_cons rfl (by kernel_rfl : _ = 1) op_u64 (opens_cons rfl (by kernel_rfl : _ = 1) op_u64 (opens_cons rfl (by kernel_rfl : _ = 1) op_ekind
  (opens_cons rfl (by kernel_rfl : _ = 1) op_bytes (opens_cons rfl (by kernel_rfl : _ = 2) op_conf (opens_nil _)))))) blk_agg).imp
  (fun x => ⟨x.1, x.2.1, x.2.2.1, x.2.2.2.1, x.2.2.2.2.1⟩) (fun s vs x h => by
   obtain ⟨_, _, rfl, _, ⟨rfl, r1⟩, _, _, rfl, _, ⟨rfl, r2⟩, _, _, rfl, _, ⟨rfl, r3⟩, _, _, rfl, _, ⟨a, c, rfl, h1⟩, _, _, rfl, _, ⟨p, q, p', q', rfl, h2, h3⟩, h4⟩ := h
   cases (show _ = [] from h4)
   exact ⟨a, c, p, q, p', q', rfl, r1, r2, r3, h1, h2, h3⟩) (fun x => by simp only [Entry.size]; omega)
theorem op_entries : Op enc W 31 (RSl REntry 6) (fun xs => max xs.length (xs.map Entry.size).sum) :=
 (opens_slice Tryz.underlying31 (by kernel_rfl : _ = 6) (by decide) op_entry blk_slice blk_len).imp id (fun _ _ _ h => h) (fun _ => Nat.le_refl _)
theorem op_msg : Op enc W 56 RMsg Msg.size :=
 (opens_struct Tryz.underlying56 (by kernel_rfl) (opens_cons rfl (by kernel_rfl : _ = 1) op_mkind (opens_cons rfl (by kernel_rfl : _ = 1) op_int (opens_cons rfl (by kernel_rfl : _ = 1) op_int (opens_cons rfl (by kernel_rfl : _ = 1) op_u64 (opens_cons rfl (by kernel_rfl : _ = 1) op_u64
  (opens_cons rfl (by kernel_rfl : _ = 1) op_u64 (opens_cons rfl (by kernel_rfl : _ = 1) op_entries (opens_cons rfl (by kernel_rfl : _ = 1) op_u64 (opens_cons rfl (by kernel_rfl : _ = 1) op_bool (opens_cons rfl (by kernel_rfl : _ = 1) op_u64 (opens_cons rfl (by kernel_rfl : _ = 2) op_conf
  (opens_cons rfl (by kernel_rfl : _ = 1) op_bytes (opens_cons rfl (by kernel_rfl : _ = 1) op_bool (opens_nil _)))))))))))))) blk_agg).imp
  (fun x => ⟨x.1, x.2.1, x.2.2.1, x.2.2.2.1, x.2.2.2.2.1, x.2.2.2.2.2.1, x.2.2.2.2.2.2.1, x.2.2.2.2.2.2.2.1, x.2.2.2.2.2.2.2.2.1, x.2.2.2.2.2.2.2.2.2.1, x.2.2.2.2.2.2.2.2.2.2.1, x.2.2.2.2.2.2.2.2.2.2.2.1, x.2.2.2.2.2.2.2.2.2.2.2.2.1⟩) (fun s vs x h => by
   obtain ⟨_, _, rfl, _, ⟨rfl, r1⟩, _, _, rfl, _, ⟨rfl, r2⟩, _, _, rfl, _, ⟨rfl, r3⟩, _, _, rfl, _, ⟨rfl, r4⟩, _, _, rfl, _, ⟨rfl, r5⟩, _, _, rfl, _, ⟨rfl, r6⟩, _, _, rfl, _, ⟨ea, ec, rfl, h1⟩, _, _, rfl, _, ⟨rfl, r7⟩, _, _, rfl, _, rfl, _, _, rfl, _, ⟨rfl, r8⟩,
    _, _, rfl, _, ⟨p, q, p', q', rfl, h2, h3⟩, _, _, rfl, _, ⟨a, c, rfl, h4⟩, _, _, rfl, _, rfl, h5⟩ := h
   cases (show _ = [] from h5)
   exact ⟨⟨ea, ec, p, q, p', q', a, c⟩, rfl, ⟨r1, r2, r3, r4, r5, r6, r7, r8, h1, h2, h3, h4⟩⟩) (fun x => by simp only [Msg.size]; omega)
theorem op_change : Op enc W 59 (fun _ vs (x : Int × Int) => vs = [i64 x.1, i64 x.2] ∧ rng .i64 x.1 ∧ rng .i64 x.2) (fun _ => 0) :=
 (opens_struct Tryz.underlying59 (by kernel_rfl) (opens_cons rfl (by kernel_rfl : _ = 1) op_ckind (opens_cons rfl (by kernel_rfl : _ = 1) op_int (opens_nil _))) blk_agg).imp
  (fun x => (x.1, x.2.1)) (fun s vs x h => by
   obtain ⟨_, _, rfl, _, ⟨rfl, r1⟩, _, _, rfl, _, ⟨rfl, r2⟩, h3⟩ := h
   cases (show _ = [] from h3)
   exact ⟨rfl, r1, r2⟩) (fun _ => Nat.zero_le _)
theorem op_input : Op enc W 61 RInp Inp.size :=
 (opens_struct Tryz.underlying61 (by kernel_rfl) (opens_cons rfl (by kernel_rfl : _ = 1) op_ikind (opens_cons rfl (by kernel_rfl : _ = 1) op_int (opens_cons rfl (by kernel_rfl : _ = 14) op_msg (opens_cons rfl (by kernel_rfl : _ = 1) op_bytes
  (opens_cons rfl (by kernel_rfl : _ = 2) op_change (opens_cons rfl (by kernel_rfl : _ = 1) op_int (opens_nil _))))))) blk_agg).imp
  (fun x => (⟨x.1, x.2.1, x.2.2.1, x.2.2.2.1, x.2.2.2.2.1.1, x.2.2.2.2.1.2, x.2.2.2.2.2.1⟩ : Inp)) (fun s vs x h => by
   obtain ⟨_, _, rfl, _, ⟨rfl, r1⟩, _, _, rfl, _, ⟨rfl, r2⟩, _, _, rfl, _, ⟨y, rfl, hm⟩, _, _, rfl, _, ⟨a, c, rfl, h1⟩, _, _, rfl, _, ⟨rfl, r3, r4⟩, _, _, rfl, _, ⟨rfl, r5⟩, h5⟩ := h
   cases (show _ = [] from h5)
   exact ⟨y, a, c, rfl, ⟨hm, r1, r2, r3, r4, r5, h1⟩⟩) (fun x => by simp only [Inp.size]; omega)
theorem op_inputs : Op enc W 36 (RSl RInp 20) (fun xs => max xs.length (xs.map Inp.size).sum) :=
 (opens_slice Tryz.underlying36 (by kernel_rfl : _ = 20) (by decide) op_input blk_slice blk_len).imp id (fun _ _ _ h => h) (fun _ => Nat.le_refl _)
theorem op_hard : Op enc W 24 (fun _ vs (x : Hard) => vs = [u64 x.term, i64 x.vote, u64 x.commit] ∧ rng .u64 x.term ∧ rng .i64 x.vote ∧ rng .u64 x.commit) (fun _ => 0) :=
 (opens_struct Tryz.underlying24 (by kernel_rfl) (opens_cons rfl (by kernel_rfl : _ = 1) op_u64 (opens_cons rfl (by kernel_rfl : _ = 1) op_int (opens_cons rfl (by kernel_rfl : _ = 1) op_u64 (opens_nil _)))) blk_agg).imp
  (fun x => (⟨x.1, x.2.1, x.2.2.1⟩ : Hard)) (fun s vs x h => by
   obtain ⟨_, _, rfl, _, ⟨rfl, r1⟩, _, _, rfl, _, ⟨rfl, r2⟩, _, _, rfl, _, ⟨rfl, r3⟩, h3⟩ := h
   cases (show _ = [] from h3)
   exact ⟨rfl, r1, r2, r3⟩) (fun _ => Nat.zero_le _)
theorem op_snap : Op enc W 30 (fun s vs (x : Snap) => ∃ va vc la lc da dc, vs = [u64 x.index, u64 x.term, .slice va x.conf.voters.length vc, .slice la x.conf.learners.length lc, .slice da x.data.length dc] ∧ rng .u64 x.index ∧ rng .u64 x.term ∧ Imm (RInt .i64) 1 s va vc x.conf.voters ∧ Imm (RInt .i64) 1 s la lc x.conf.learners ∧ Imm (RInt .u8) 1 s da dc x.data) (fun x => x.conf.size + x.data.length) :=
 (opens_struct Tryz.underlying30 (by kernel_rfl) (opens_cons rfl (by kernel_rfl : _ = 1) op_u64 (opens_cons rfl (by kernel_rfl : _ = 1) op_u64 (opens_cons rfl (by kernel_rfl : _ = 2) op_conf (opens_cons rfl (by kernel_rfl : _ = 1) op_bytes (opens_nil _))))) blk_agg).imp
  (fun x => (⟨x.1, x.2.1, x.2.2.1, x.2.2.2.1⟩ : Snap)) (fun s vs x h => by
   obtain ⟨_, _, rfl, _, ⟨rfl, r1⟩, _, _, rfl, _, ⟨rfl, r2⟩, _, _, rfl, _, ⟨p, q, p', q', rfl, h2, h3⟩, _, _, rfl, _, ⟨a, c, rfl, h1⟩, h4⟩ := h
   cases (show _ = [] from h4)
   exact ⟨p, q, p', q', a, c, rfl, r1, r2, h2, h3, h1⟩) (fun x => by dsimp only; omega)
theorem op_log : Op enc W 33 (fun s vs (x : Log) => ∃ h, vs = logV x h ∧ LogAt s s x h) Log.size :=
 (opens_struct Tryz.underlying33 (by kernel_rfl) (opens_cons rfl (by kernel_rfl : _ = 5) op_snap (opens_cons rfl (by kernel_rfl : _ = 1) op_entries (opens_nil _))) blk_agg).imp
  (fun x => (⟨x.1, x.2.1⟩ : Log)) (fun s vs x h => by
   obtain ⟨_, _, rfl, _, ⟨p, q, p', q', a, c, rfl, r1, r2, h2, h3, h1⟩, _, _, rfl, _, ⟨ea, ec, rfl, h4⟩, h5⟩ := h
   cases (show _ = [] from h5)
   exact ⟨⟨p, q, p', q', a, c, ea, ec, none, 0, none, 0, none, 0, none, 0, none, 0⟩, rfl, ⟨r1, r2, h2, h3, h1, h4⟩⟩) (fun x => by simp only [Log.size]; omega)
theorem op_view : Op enc W 35 (fun s vs (x : View) => ∃ h, vs = viewV x h ∧ LogAt s s x.log h ∧ rng .u64 x.hard.term ∧ rng .i64 x.hard.vote ∧ rng .u64 x.hard.commit) (fun x => x.log.size) :=
 (opens_struct Tryz.underlying35 (by kernel_rfl) (opens_cons rfl (by kernel_rfl : _ = 3) op_hard (opens_cons rfl (by kernel_rfl : _ = 6) op_log (opens_cons rfl (by kernel_rfl : _ = 1) op_bool (opens_nil _)))) blk_agg).imp
  (fun x => (⟨x.1, x.2.1, x.2.2.1⟩ : View)) (fun s vs x h => by
   obtain ⟨_, _, rfl, _, ⟨rfl, r1, r2, r3⟩, _, _, rfl, _, ⟨hh, rfl, hl⟩, _, _, rfl, _, rfl, h5⟩ := h
   cases (show _ = [] from h5)
   exact ⟨hh, rfl, hl, r1, r2, r3⟩) (fun x => by dsimp only; omega)
end
end Go.Lw

/-
 Raftcore: the law's own head.
-/
namespace Go.Lw
open Go.Proofs
attribute [local irreducible] RL RA
def view0 : View := ⟨⟨1, 0, 1⟩, ⟨⟨1, 1, ⟨[1], []⟩, []⟩, []⟩, false⟩
def inp0 : Inp := ⟨1, 1, Msg.zero, [], 0, 0, 0⟩
def r0 : Raft := newR 1 view0
theorem new0 : newP 1 view0.hard view0.log view0.gone = (r0, 0) := newP_ok (by decide)
theorem uniq_one (x : Int) : uniq [x] = [x] := by
 unfold uniq
 rw [show msort [x] = [x] from List.perm_singleton.1 (msort_perm [x])]
 rfl
theorem uniq_none : uniq [] = [] := List.eq_nil_of_length_eq_zero (by have := uniq_le []; simpa using this)
theorem tally_one {n : Node} (h1 : n.voters = [1]) (h2 : n.s.ballots = [(1, true)]) : n.tally = 1 := by
 unfold Node.tally; rw [h1, h2, uniq_one]
 decide
def e0 : Entry := ⟨2, 2, 1, [], ⟨[], []⟩⟩
def n0 : Node := ⟨⟨1, ⟨2, 1, 1⟩, ⟨⟨1, 1, ⟨[1], []⟩, []⟩, [e0]⟩, 4, 1, [], [], 0, 0, 0, ⟨0, 0, []⟩⟩, { Out.zero with entries := [e0] }⟩
theorem com0 : n0.com = 2 := by
 refine Node.com_eq (.inr ⟨?_, ?_⟩)
 ·
  rw [show n0.voters = [1] from rfl, uniq_one]; simp
 ·
  rw [show n0.voters = [1] from rfl, uniq_one]; exact ⟨by decide, by decide, by decide⟩
theorem term0 : termP n0.s.log 2 = (2, true) := by
 have hx : RunX n0.s.log := fun k e hk => by
  cases k with
  | zero => cases hk; rfl
  | succ k => simp [n0] at hk
 have hp := hx.place 2
 have hp0 : placeP n0.s.log 2 = 0 := by
  have e1 : n0.s.log.base.index = 1 := rfl
  have e2 : n0.s.log.entries.length = 1 := rfl
  rw [e1, e2] at hp; omega
 unfold termP
 rw [hp0]
 rfl
theorem count0 : n0.count = n0.wCommit 2 := by
 rw [count_go (by rw [com0, term0]; decide), com0]
 exact if_neg (by decide)
theorem act0 : (newN r0).act inp0 = (n0.wCommit 2, 0) := by
 have h1 : (newN r0).act inp0 = ((newN r0).tick 1, 0) := if_pos rfl
 have hv : (newN r0).votes = true := by decide
 rw [h1, Node.tick_ask 1 (by decide) (by decide) ⟨by decide, hv⟩]
 have h2 : ((newN r0).wElapsed 1).ask = (((newN r0).wElapsed 1).runs 2).stand := if_pos (tally_one rfl rfl)
 rw [h2]
 obtain ⟨m, hm⟩ : ∃ m : Node, m = Node.runs { (((newN r0).wElapsed 1).runs 2) with s := { (((newN r0).wElapsed 1).runs 2).s with hard := ⟨2, 1, 1⟩ } } 3 := ⟨_, rfl⟩
 have h3 : (((newN r0).wElapsed 1).runs 2).stand = m.lead := by
  rw [hm]; exact if_pos (tally_one rfl rfl)
 rw [h3]
 have ho : othersP (confP m.s.log).1 m.s.id = [] := by
  rw [hm]
  show uniq (delP 1 ([1] ++ [])) = []
  rw [show delP 1 ([1] ++ []) = [] by decide, uniq_none]
 have h4 : m.lead = (n0.count).spread := by
  unfold Node.lead
  have e1 : Node.meet { m with s := { m.s with role := 4, leader := m.s.id, ballots := [], elapsed := 0, beat := 0, transfer := 0, peers := [] } } (up1 m.last) = { m with s := { m.s with role := 4, leader := m.s.id, ballots := [], elapsed := 0, beat := 0, transfer := 0, peers := [] } } := by
   unfold Node.meet
   simp only [ho, List.map_nil]
  rw [e1, hm]
  rfl
 rw [h4, count0]
 rfl
def r1 : Raft := ⟨1, ⟨2, 1, 2⟩, ⟨⟨1, 1, ⟨[1], []⟩, []⟩, [e0]⟩, 4, 1, [], [], 0, 0, 0, ⟨0, 0, []⟩⟩
def o1 : Out := ⟨0, [e0], true, false, [], 0, 0⟩
theorem step0 : stepP r0 inp0 = (r1, o1, 0) := by
 rw [stepP_ok (by rw [act0]; decide), act0]
 rfl
theorem inp0_ok (s : Res) : InpOk s inp0 Lay.none none 0 :=
 ⟨MsgOk.zero s, by simp [rng, inp0], by simp [rng, inp0], by simp [rng, inp0], by simp [rng, inp0], by simp [rng, inp0], Imm.nil _ _ _ (Nat.zero_le _)⟩
def hd1 (a : Option Addr) (c : Nat) : Hd := ⟨a, c, none, 0, none, 0, none, 0, none, 0, none, 0, none, 0, none, 0, none, 0⟩
section
variable {w : World} {s : Res} {os : List Res}
set_option maxRecDepth 100000 in
set_option maxHeartbeats 4000000 in
theorem Begin_ct {a : Option Addr} {c : Nat} (hg : Good w s os) :
  Calls Tryz.prog 28 #[.slice a 1 c, .slice none 0 0] w (PostV w s os fun q => q = .agg (viewV view0 (hd1 a c)).toArray) := by
 refine enter (l := [.slice a 1 c, .slice none 0 0]) Tryz.func28 rfl Tryz.ntmps28 rfl ?_
 refine CW.seq (CW.plain ?_)
 refine RL.allocN rfl rfl rfl rfl ze35 hg ?_
 rintro b1 w1 Q1 (hg1 : Good _ s (Q1 :: os)) hax1 hb1
 refine ⟨trivial, ?_⟩
 refine RL.done ?_
 refine CW.seq (CW.plain ?_)
 refine RL.build rfl rfl rfl rfl ze24 pl24 rfl rfl ?_
 refine RL.pu ?_
 refine RL.pu ?_
 refine RL.build rfl rfl rfl rfl ze27 pl27 rfl rfl ?_
 refine RL.build rfl rfl rfl rfl ze30 pl30 rfl rfl ?_
 refine RL.build rfl rfl rfl rfl ze33 pl33 rfl rfl ?_
 refine RL.build rfl rfl rfl rfl ze35 pl35 rfl rfl ?_
 refine RL.sB (b := b1) (i := 0) (j := 0) rfl rfl rfl ty35 rfl rfl hg1 rfl (hb1) rfl rfl ?_
 rintro w2 Q2 (hg2 : Good _ s (Q2 :: os)) hax2 hb2
 refine ⟨trivial, ?_⟩
 refine RL.done ?_
 refine CW.ret (ret (vs := [_]) ⟨_, _, _, rfl, rfl, loadVar_agg ty35 hb2 (hg2.mem (by simp)) rfl, rfl⟩ ?_)
 exact PostV.mk (hg2.drop) (hax1.trans hax2) rfl
theorem view0_at {a : Option Addr} {c : Nat} (h : Imm (RInt .i64) 1 s a c [1]) : LogAt s s view0.log (hd1 a c) :=
 ⟨by simp [rng, view0], by simp [rng, view0], h, Imm.nil _ _ _ (Nat.zero_le _), Imm.nil _ _ _ (Nat.zero_le _), Imm.nil _ _ _ (Nat.zero_le _)⟩
theorem view0_small : view0.log.small := ⟨⟨by decide, by decide⟩, by decide, fun e he => (by cases he), by decide⟩
theorem New0_ct {a : Option Addr} {c : Nat} (hg : Good w s os) (h : Imm (RInt .i64) 1 s a c [1]) :
  Calls Tryz.prog 10 #[i64 1, .agg (viewV view0 (hd1 a c)).toArray] w (Post w s os fun s' _ q => ∃ h', q = .tuple #[.agg (raftV r0 h').toArray, i64 0] ∧ RaftAt s' r0 h') := by
 have := New_ct (id := 1) hg (view0_at h) view0_small (by simp [rng]) (by simp [rng, view0]) (by simp [rng, view0]) (by simp [rng, view0])
 rw [new0] at this
 exact this
theorem r0_fit : Fit 1 r0 :=
 ⟨by simp [rng, r0, newR], by simp [rng, r0, newR, view0], by simp [rng, r0, newR, view0], by simp [rng, r0, newR, view0], ⟨by simp [rng, r0, newR, view0], by simp [rng, r0, newR, view0], ⟨by decide, by decide⟩, by decide, fun e he => (by cases he), by decide, by simp [r0, newR, view0, p61], fun k e hk => (by cases hk)⟩, by decide, by decide, fun p hp => (by cases hp), by simp [rng, r0, newR], by simp [rng, r0, newR], by decide⟩
theorem Step0_ct {h : Hd} (hg : Good w s os) (hr : RaftAt s r0 h) :
  Calls Tryz.prog 11 #[.agg (raftV r0 h).toArray, .agg (inpV inp0 Lay.none none 0).toArray] w (Post w s os fun s' _ q => ∃ h1 h2, q = .tuple #[.agg (raftV r1 h1).toArray, .agg (outV o1 h2).toArray, i64 0] ∧ RaftAt s' r1 h1 ∧ OutAt s' o1 h2) := by
 have hif : IFit 0 inp0 := ifit (inp0_ok s) (by decide)
 have := Step_ct hg hr (inp0_ok s) (r0_fit.rng (n := newN r0)) (fit_act (n := newN r0) r0_fit hif (by decide)).rng (fit_bears r0_fit hif (by decide)) (by decide)
 rw [step0] at this
 exact this
set_option maxRecDepth 100000 in
theorem Head_ct (hg : Good w s os) : Calls Tryz.prog 9 #[] w (Post w s os fun _ _ q => q = .bool true) := by
 refine enter (l := []) Tryz.func9 rfl Tryz.ntmps9 rfl ?_
 refine CW.seq (CW.plain ?_)
 refine RL.pu ?_
 refine RL.done ?_
 refine CW.seq (CW.plain ?_)
 refine RL.buildN rfl rfl rfl rfl sl25 ze3 rfl rfl rfl rfl hg ?_
 rintro b3 w3 Q3 (hg3 : Good _ s (Q3 :: os)) hax3 hb3
 refine ⟨trivial, ?_⟩
 have ho7 : Own (RInt .i64) 1 3 s Q3 (some ⟨b3, 0, none⟩) 1 [1] := .inr ⟨_, _, rfl, hb3, by decide, by decide, rfl, Chunks.single rfl ⟨rfl, by simp [rng]⟩⟩
 obtain ⟨s7, hg7, hle7, hm7⟩ := (hg3).letgo
 have hI7 := ho7.imm (RInt.up _) hle7 hm7
 refine RL.callV rfl rfl rfl rfl rfl ca28 (Begin_ct hg7) ?_
 rintro v4 w4 (hg4 : Good _ s7 (os)) hax4 rfl
 refine ⟨trivial, ?_⟩
 refine RL.call rfl rfl rfl rfl rfl ca10 (New0_ct hg4 hI7) ?_
 rintro v5 s5 B5 w5 hle5 (hg5 : Good _ s5 (B5 :: os)) hax5 ⟨h9, rfl, hA9⟩
 have hg5 := hg5.drop
 refine ⟨trivial, ?_⟩
 refine RL.pu ?_
 refine RL.pu ?_
 refine RL.pu ?_
 refine RL.allocN rfl rfl rfl rfl ze44 hg5 ?_
 rintro b6 w6 Q6 (hg6 : Good _ s5 (Q6 :: os)) hax6 hb6
 refine ⟨trivial, ?_⟩
 refine RL.sB (b := b6) (i := 0) (j := 0) rfl rfl rfl ty44 rfl rfl hg6 rfl (hb6) rfl rfl ?_
 rintro w7 Q7 (hg7 : Good _ s5 (Q7 :: os)) hax7 hb7
 refine ⟨trivial, ?_⟩
 refine RL.pu ?_
 refine RL.done ?_
 refine CW.seq (CW.plain ?_)
 refine RL.loads (ad := ⟨b6, 0, none⟩) (j := 0) rfl rfl rfl rfl ty44 rfl (Holds.of hb7) (hg7.mem (by simp)) rfl rfl ?_
 refine RL.build rfl rfl rfl rfl ze61 pl61 rfl rfl ?_
 refine RL.call rfl rfl rfl rfl rfl ca11 (Step0_ct hg7 hA9) ?_
 rintro v8 s8 B8 w8 hle8 (hg8 : Good _ s8 (B8 :: Q7 :: os)) hax8 ⟨g1, g2, rfl, hA15, hO15⟩
 have hg8 := hg8.drop
 refine ⟨trivial, ?_⟩
 refine RL.pu ?_
 refine RL.pu ?_
 refine RL.pu ?_
 refine RL.pu ?_
 refine RL.allocN rfl rfl rfl rfl ze44 hg8 ?_
 rintro b9 w9 Q9 (hg9 : Good _ s8 (Q9 :: Q7 :: os)) hax9 hb9
 refine ⟨trivial, ?_⟩
 refine RL.allocN rfl rfl rfl rfl ze50 hg9 ?_
 rintro b10 w10 Q10 (hg10 : Good _ s8 (Q10 :: Q9 :: Q7 :: os)) hax10 hb10
 refine ⟨trivial, ?_⟩
 refine RL.sB (b := b9) (i := 1) (j := 0) rfl rfl rfl ty44 rfl rfl hg10 rfl (hb9) rfl rfl ?_
 rintro w11 Q11 (hg11 : Good _ s8 (Q10 :: Q11 :: Q7 :: os)) hax11 hb11
 refine ⟨trivial, ?_⟩
 refine RL.sB (b := b10) (i := 0) (j := 0) rfl rfl rfl ty50 rfl rfl hg11 rfl (hb10) rfl rfl ?_
 rintro w12 Q12 (hg12 : Good _ s8 (Q12 :: Q11 :: Q7 :: os)) hax12 hb12
 refine ⟨trivial, ?_⟩
 refine RL.pu ?_
 refine RL.done ?_
 refine CW.seq (CW.plain ?_)
 refine RL.pu ?_
 refine RL.pu ?_
 refine RL.pu ?_
 refine RL.part 21 rfl (fun h21 => ?_) (fun h21 => ?_)
 ·
  refine RL.pu ?_
  refine RL.pu ?_
  refine RL.pu ?_
  refine RL.pu ?_
  refine RL.part 25 rfl (fun h25 => ?_) (fun h25 => ?_)
  ·
   refine RL.fi fl44_3 ?_
   refine RL.load (ad := ⟨b9, 0, none⟩) (j := 10) rfl rfl rfl rfl ty38 rfl (Holds.of hb11) (hg12.mem (by simp)) rfl ?_
   refine RL.pu ?_
   refine RL.pu ?_
   refine RL.pu ?_
   refine RL.part 30 rfl (fun h30 => ?_) (fun h30 => ?_)
   ·
    refine RL.fi fl44_1 ?_
    refine RL.fi fl24_0 ?_
    refine RL.load (ad := ⟨b9, 0, none⟩) (j := 1) rfl rfl rfl rfl ty22 rfl (Holds.of hb11) (hg12.mem (by simp)) rfl ?_
    refine RL.pu ?_
    refine RL.pu ?_
    refine RL.pu ?_
    refine RL.part 36 rfl (fun h36 => ?_) (fun h36 => ?_)
    ·
     refine RL.fi fl44_1 ?_
     refine RL.fi fl24_2 ?_
     refine RL.load (ad := ⟨b9, 0, none⟩) (j := 3) rfl rfl rfl rfl ty22 rfl (Holds.of hb11) (hg12.mem (by simp)) rfl ?_
     refine RL.pu ?_
     refine RL.pu ?_
     refine RL.pu ?_
     refine RL.part 42 rfl (fun h42 => ?_) (fun h42 => ?_)
     ·
      refine RL.fi fl50_1 ?_
      refine RL.load (ad := ⟨b10, 0, none⟩) (j := 1) rfl rfl rfl rfl ty31 rfl (Holds.of hb12) (hg12.mem (by simp)) rfl ?_
      refine RL.len rfl rfl rfl rfl sl31 rfl ?_
      refine RL.pu ?_
      refine RL.pu ?_
      refine RL.pu ?_
      refine RL.part 48 rfl (fun h48 => ?_) (fun h48 => ?_)
      ·
       refine RL.fi fl50_2 ?_
       refine RL.load (ad := ⟨b10, 0, none⟩) (j := 2) rfl rfl rfl rfl ty4 rfl (Holds.of hb12) (hg12.mem (by simp)) rfl ?_
       refine RL.pu ?_
       refine RL.pu ?_
       refine RL.done ?_
       refine CW.ret (ret (vs := [_]) ⟨_, _, rfl, rfl, rfl⟩ ?_)
       exact Post.mk (hle7.trans (hle5.trans hle8)) (((hg12.drop).drop).drop).nil (hax3.trans (hax4.trans (hax5.trans (hax6.trans (hax7.trans (hax8.trans (hax9.trans (hax10.trans (hax11.trans hax12))))))))) rfl
      ·
       exact absurd h48 (by decide)
     ·
      exact absurd h42 (by decide)
    ·
     exact absurd h36 (by decide)
   ·
    exact absurd h30 (by decide)
  ·
   exact absurd h25 (by decide)
 ·
  exact absurd h21 (by decide)
end
end Go.Lw

/-
 Raftcore: the law RaftcoreStatus, walked.
-/
namespace Go.Lw
open Go.Proofs
attribute [local irreducible] RL RA
theorem sum_take {xs : List Inp} {k : Nat} (hk : k < xs.length) : ((xs.take (k + 1)).map Inp.size).sum = ((xs.take k).map Inp.size).sum + (xs[k]).size := by
 rw [show xs.take (k + 1) = xs.take k ++ [xs[k]] by simp only [List.take_add_one, List.getElem?_eq_getElem hk]; rfl, List.map_append, List.sum_append]
 simp
theorem sum_take_le (xs : List Inp) (k : Nat) : ((xs.take k).map Inp.size).sum ≤ (xs.map Inp.size).sum := by
 conv => rhs; rw [← List.take_append_drop k xs]
 rw [List.map_append, List.sum_append]; omega
set_option maxRecDepth 100000 in
set_option maxHeartbeats 8000000 in
theorem RaftcoreStatus_ct {w : World} {s : Res} {os : List Res} {id : Int} {v : View} {h : Hd} {ins : List Inp} {ia : Option Addr} {ic : Nat} (hg : Good w s os) (hid : rng .i64 id) (hl : LogAt s s v.log h) (ht : rng .u64 v.hard.term) (hv : rng .i64 v.hard.vote) (hc : rng .u64 v.hard.commit)
  (hI : Imm RInp 20 s ia ic ins) (hb1 : v.log.size ≤ 1048576) (hb2 : max ins.length (ins.map Inp.size).sum ≤ 1048576) :
  Calls Tryz.prog 8 #[i64 id, .agg (viewV v h).toArray, .slice ia ins.length ic] w (Post w s os fun _ _ q => q = .bool true) := by
 have hn1 : ins.length ≤ 1048576 := by omega
 have hn2 : (ins.map Inp.size).sum ≤ 1048576 := by omega
 have hS : v.log.small := by
  simp only [Log.size, Conf.size] at hb1
  refine ⟨⟨by omega, by omega⟩, by omega, fun e he => ?_, by omega⟩
  have h1 := Entry.size_mem he
  simp only [Entry.size, Conf.size] at h1 hb1
  exact ⟨by omega, ⟨by omega, by omega⟩⟩
 have hnf := fun he => newP_fit (id := id) hl hid ht hv hc hb1 he
 refine enter (l := [i64 id, .agg (viewV v h).toArray, .slice ia ins.length ic]) Tryz.func8 rfl Tryz.ntmps8 rfl ?_
 refine CW.seq (CW.plain ?_)
 refine RL.boxN rfl rfl rfl rfl rfl hg ?_
 rintro b1 w1 Q1 (hg1 : Good _ s (Q1 :: os)) hax1 hb1
 refine ⟨trivial, ?_⟩
 refine RL.pu ?_
 refine RL.done ?_
 refine CW.seq (CW.plain ?_)
 refine RL.call rfl rfl rfl rfl rfl ca9 (Head_ct hg1) ?_
 rintro v2 s2 B2 w2 hle2 (hg2 : Good _ s2 (B2 :: Q1 :: os)) hax2 rfl
 have hg2 := hg2.drop
 refine ⟨trivial, ?_⟩
 refine RL.pu ?_
 refine RL.done ?_
 refine CW.seq (CW.plain ?_)
 refine RL.pu ?_
 refine RL.loads (ad := ⟨b1, 0, none⟩) (j := 0) rfl rfl rfl rfl ty35 rfl (Holds.of hb1) (hg2.mem (by simp)) rfl rfl ?_
 have hl17 := (hl.up hle2).mem hle2
 refine RL.call rfl rfl rfl rfl rfl ca10 (New_ct hg2 hl17 hS hid ht hv hc) ?_
 rintro v3 s3 B3 w3 hle3 (hg3 : Good _ s3 (B3 :: Q1 :: os)) hax3 ⟨h17, rfl, hA17⟩
 have hg3 := hg3.drop
 refine ⟨trivial, ?_⟩
 refine RL.pu ?_
 refine RL.pu ?_
 refine RL.pu ?_
 refine RL.allocN rfl rfl rfl rfl ze44 hg3 ?_
 rintro b4 w4 Q4 (hg4 : Good _ s3 (Q4 :: Q1 :: os)) hax4 hb4
 refine ⟨trivial, ?_⟩
 refine RL.sB (b := b4) (i := 0) (j := 0) rfl rfl rfl ty44 rfl rfl hg4 rfl (hb4) rfl rfl ?_
 rintro w5 Q5 (hg5 : Good _ s3 (Q5 :: Q1 :: os)) hax5 hb5
 refine ⟨trivial, ?_⟩
 refine RL.pu ?_
 refine RL.done ?_
 refine CW.seq ?_
 refine CW.seq (CW.plain ?_)
 refine RL.pu ?_
 refine RL.pu ?_
 refine RL.pu ?_
 refine RL.part 22 rfl (fun h22 => ?_) (fun h22 => ?_)
 ·
  exact absurd h22 (by decide)
 ·
  refine RL.pu ?_
  refine RL.pu ?_
  refine RL.pu ?_
  refine RL.done ?_
  refine CW.cond rfl (fun h25 => ?_) (fun h25 => ?_)
  ·
   refine CW.seq (CW.plain ?_)
   refine RL.pu ?_
   refine RL.pu ?_
   refine RL.done ?_
   refine CW.ret (ret (vs := [_]) ⟨_, _, rfl, rfl, rfl⟩ ?_)
   exact Post.mk (hle2.trans hle3) ((hg5.drop).drop).nil (hax1.trans (hax2.trans (hax3.trans (hax4.trans hax5)))) rfl
  ·
   have hne : ¬ (newP id v.hard v.log v.gone).2 ≠ 0 := by simpa using h25
   refine CW.skip ?_
   refine CW.seq ?_
   refine CW.seq (CW.plain ?_)
   refine RL.pu ?_
   refine RL.done ?_
   refine CW.block ?_
   refine CW.loop (σ := Nat) (fun j E w' => ∃ s' Q r h2, ∃ k : Nat, Good w' s' (Q :: Q1 :: os) ∧ Aux w w' ∧ Le s s' ∧ E = [(2, .slice ia ins.length ic), (8, ptr b4), (10, i64 k)] ∧ k + j = ins.length ∧ Q b4 = some (.cells (raftV r h2).toArray 44 (0, 0)) ∧ RaftAt s' r h2 ∧ Fit (1048576 + (((ins.take k).map Inp.size).sum + 3 * k)) r) (fun j => j) ins.length [(2, .slice ia ins.length ic), (8, ptr b4), (10, i64 0)] ⟨rfl, rfl, rfl, trivial⟩ ⟨_, _, _, h17, 0, ((hg5.front 1 rfl).front 1 rfl), (hax1.trans (hax2.trans (hax3.trans (hax4.trans hax5)))), (hle2.trans hle3), rfl, by omega, hb5, hA17, by simpa using hnf hne⟩ ?_
   rintro j E wL ⟨sL, QL, r, hh, k, hgL, haxL, hleL, rfl, hk, hQL, hAL, hF⟩
   refine CW.seq ?_
   refine CW.seq (CW.plain ?_)
   refine RL.pu ?_
   refine RL.pu ?_
   refine RL.len rfl rfl rfl rfl sl36 rfl ?_
   refine RL.pu ?_
   refine RL.done ?_
   refine CW.cond rfl (fun h30 => ?_) (fun h30 => ?_)
   ·
    have hlt : k < ins.length := by have := decide_t h30; omega
    have hst := sum_take hlt
    have hsl := sum_take_le ins (k + 1)
    have hc1 : 1048576 + (((ins.take k).map Inp.size).sum + 3 * k) + (ins[k]).size + 3 ≤ 1073741824 := by omega
    refine CW.skip ?_
    refine CW.seq ?_
    refine CW.block ?_
    refine CW.seq ?_
    have hg6 := hgL.drew
    refine CW.draws2 [(true, 0), (true, 1), (true, 2), (true, 3), (true, 4), (false, 5), (true, 6)] [(true, 7), (true, 8), (true, 9), (false, 10)] 7 #[true, true, true, true, true, true, true, false, false, false, false] (fun w => At1 b4 _ w ∧ In s w ∧ True) mixed (by kernel_rfl) (by kernel_rfl) (by kernel_rfl) (by kernel_rfl) (by kernel_rfl) (⟨hg6.at1 (by simp) hQL, (hg6.sh).le (hleL), trivial⟩) ?_
    refine RL.loadsT (ad := ⟨b4, 0, none⟩) (j := 0) rfl rfl rfl rfl ty44 rfl (At1.holds) (fun w h => h.1.inn) rfl rfl ?_
    refine RL.pu ?_
    refine RL.pu ?_
    refine RL.idxL rfl rfl rfl rfl sl36 rfl rfl hI.lies (by omega) (by omega) ?_
    rintro q vs hvl hH ⟨y, da, dc, rfl, hio⟩
    refine RL.loadsT (j := 0) (us := _) rfl rfl rfl rfl ty61 rfl (hH) (fun w h => h.2.1) rfl rfl ?_
    have hio : InpOk s ins[k] y da dc := hio
    have hif : IFit (ins[k]).size ins[k] := ifit hio (Nat.le_refl _)
    have hst2 := fit_step hF hif (by omega)
    have hact := fit_act (n := newN r) hF hif (by omega)
    refine RL.call rfl rfl rfl rfl rfl ca11 (Step_ct hg6 hAL (hio.up (hleL)) (hF.rng (n := newN r)) hact.rng (fit_bears hF hif hc1) (by have := hF.part; omega)) ?_
    rintro v7 s7 B7 w7 hle7 (hg7 : Good _ s7 (B7 :: QL :: Q1 :: os)) hax7 ⟨g1, g2, rfl, hA39, hO39⟩
    have hg7 := hg7.drop
    have hAL := hAL.up hle7
    have hS2 : (stepP r ins[k]).1.log.small := hst2.log.small (by omega)
    have hle2 := hst2.log.le_last (by omega)
    refine ⟨⟨hg7.at1 (by simp) hQL, (hg7.sh).le ((hleL.trans hle7)), trivial⟩, ?_⟩
    refine RL.pu ?_
    refine RL.done ?_
    refine RL.next trivial ?_
    refine RL.pu ?_
    refine RL.pu ?_
    refine RL.pu ?_
    refine RL.sB (b := b4) (i := 0) (j := 0) rfl rfl rfl ty44 rfl rfl hg7 rfl (hQL) rfl rfl ?_
    rintro w8 Q8 (hg8 : Good _ s7 (Q8 :: Q1 :: os)) hax8 hb8
    refine ⟨trivial, ?_⟩
    refine RL.done ?_
    refine CW.seq (CW.plain ?_)
    refine RL.loads (ad := ⟨b4, 0, none⟩) (j := 0) rfl rfl rfl rfl ty44 rfl (Holds.of hb8) (hg8.mem (by simp)) rfl rfl ?_
    refine RL.call rfl rfl rfl rfl rfl ca26 (Status_ct hg8 hA39 hS2) ?_
    rintro v9 s9 B9 w9 hle9 (hg9 : Good _ s9 (B9 :: Q8 :: Q1 :: os)) hax9 ⟨sa, sc, sl, sd, rfl, hC44⟩
    have hg9 := hg9.drop
    have hAL := hAL.up hle9
    have hA39 := hA39.up hle9
    refine ⟨trivial, ?_⟩
    refine RL.allocN rfl rfl rfl rfl ze99 hg9 ?_
    rintro b10 w10 Q10 (hg10 : Good _ s9 (Q10 :: Q8 :: Q1 :: os)) hax10 hb10
    refine ⟨trivial, ?_⟩
    refine RL.sB (b := b10) (i := 0) (j := 0) rfl rfl rfl ty99 rfl rfl hg10 rfl (hb10) rfl rfl ?_
    rintro w11 Q11 (hg11 : Good _ s9 (Q11 :: Q8 :: Q1 :: os)) hax11 hb11
    refine ⟨trivial, ?_⟩
    refine RL.done ?_
    refine CW.seq (CW.plain ?_)
    refine RL.loads (ad := ⟨b4, 0, none⟩) (j := 0) rfl rfl rfl rfl ty44 rfl (Holds.of hb8) (hg11.mem (by simp)) rfl rfl ?_
    refine RL.call rfl rfl rfl rfl rfl ca27 (RefStatus_ct hg11 hA39 hS2 hle2) ?_
    rintro v12 s12 B12 w12 hle12 (hg12 : Good _ s12 (B12 :: Q11 :: Q8 :: Q1 :: os)) hax12 ⟨ra, rc, rl, rd, rfl, hC46⟩
    have hg12 := hg12.drop
    have hAL := hAL.up hle12
    have hC44 := RConf.up _ _ _ _ hle12 hC44
    have hA39 := hA39.up hle12
    refine ⟨trivial, ?_⟩
    refine RL.allocN rfl rfl rfl rfl ze99 hg12 ?_
    rintro b13 w13 Q13 (hg13 : Good _ s12 (Q13 :: Q11 :: Q8 :: Q1 :: os)) hax13 hb13
    refine ⟨trivial, ?_⟩
    refine RL.sB (b := b13) (i := 0) (j := 0) rfl rfl rfl ty99 rfl rfl hg13 rfl (hb13) rfl rfl ?_
    rintro w14 Q14 (hg14 : Good _ s12 (Q14 :: Q11 :: Q8 :: Q1 :: os)) hax14 hb14
    refine ⟨trivial, ?_⟩
    refine RL.done ?_
    refine CW.seq (CW.plain ?_)
    refine RL.fi fl99_0 ?_
    refine RL.load (ad := ⟨b10, 0, none⟩) (j := 0) rfl rfl rfl rfl ty38 rfl (Holds.of hb11) (hg14.mem (by simp)) rfl ?_
    refine RL.fi fl99_0 ?_
    refine RL.load (ad := ⟨b13, 0, none⟩) (j := 0) rfl rfl rfl rfl ty38 rfl (Holds.of hb14) (hg14.mem (by simp)) rfl ?_
    refine RL.pu ?_
    refine RL.pu ?_
    refine RL.part 52 rfl (fun h52 => ?_) (fun h52 => ?_)
    ·
     simp at h52
    ·
     refine RL.fi fl99_1 ?_
     refine RL.load (ad := ⟨b10, 0, none⟩) (j := 1) rfl rfl rfl rfl ty3 rfl (Holds.of hb11) (hg14.mem (by simp)) rfl ?_
     refine RL.fi fl99_1 ?_
     refine RL.load (ad := ⟨b13, 0, none⟩) (j := 1) rfl rfl rfl rfl ty3 rfl (Holds.of hb14) (hg14.mem (by simp)) rfl ?_
     refine RL.pu ?_
     refine RL.pu ?_
     refine RL.pu ?_
     refine RL.part 59 rfl (fun h59 => ?_) (fun h59 => ?_)
     ·
      simp at h59
     ·
      refine RL.fi fl99_2 ?_
      refine RL.loads (ad := ⟨b10, 0, none⟩) (j := 2) rfl rfl rfl rfl ty24 rfl (Holds.of hb11) (hg14.mem (by simp)) rfl rfl ?_
      refine RL.fi fl99_2 ?_
      refine RL.loads (ad := ⟨b13, 0, none⟩) (j := 2) rfl rfl rfl rfl ty24 rfl (Holds.of hb14) (hg14.mem (by simp)) rfl rfl ?_
      refine RL.stNe rfl rfl rfl rfl (by kernel_rfl) rfl rfl (hard_ne (statusP (stepP r ins[k]).1).hard (statusP (stepP r ins[k]).1).hard) ?_
      refine RL.pu ?_
      refine RL.pu ?_
      refine RL.part 66 rfl (fun h66 => ?_) (fun h66 => ?_)
      ·
       simp at h66
      ·
       refine RL.fi fl99_4 ?_
       refine RL.load (ad := ⟨b10, 0, none⟩) (j := 7) rfl rfl rfl rfl ty22 rfl (Holds.of hb11) (hg14.mem (by simp)) rfl ?_
       refine RL.fi fl99_4 ?_
       refine RL.load (ad := ⟨b13, 0, none⟩) (j := 7) rfl rfl rfl rfl ty22 rfl (Holds.of hb14) (hg14.mem (by simp)) rfl ?_
       refine RL.pu ?_
       refine RL.pu ?_
       refine RL.pu ?_
       refine RL.part 73 rfl (fun h73 => ?_) (fun h73 => ?_)
       ·
        simp at h73
       ·
        refine RL.fi fl99_5 ?_
        refine RL.load (ad := ⟨b10, 0, none⟩) (j := 8) rfl rfl rfl rfl ty22 rfl (Holds.of hb11) (hg14.mem (by simp)) rfl ?_
        refine RL.fi fl99_5 ?_
        refine RL.load (ad := ⟨b13, 0, none⟩) (j := 8) rfl rfl rfl rfl ty22 rfl (Holds.of hb14) (hg14.mem (by simp)) rfl ?_
        refine RL.pu ?_
        refine RL.pu ?_
        refine RL.pu ?_
        refine RL.part 80 rfl (fun h80 => ?_) (fun h80 => ?_)
        ·
         simp at h80
        ·
         refine RL.fi fl99_3 ?_
         refine RL.loads (ad := ⟨b10, 0, none⟩) (j := 5) rfl rfl rfl rfl ty27 rfl (Holds.of hb11) (hg14.mem (by simp)) rfl rfl ?_
         refine RL.fi fl99_3 ?_
         refine RL.loads (ad := ⟨b13, 0, none⟩) (j := 5) rfl rfl rfl rfl ty27 rfl (Holds.of hb14) (hg14.mem (by simp)) rfl rfl ?_
         refine RL.callV rfl rfl rfl rfl rfl ca24 (SameConf_ct hg14 hC44 hC46) ?_
         rintro v15 w15 (hg15 : Good _ s12 (Q14 :: Q11 :: Q8 :: Q1 :: os)) hax15 rfl
         refine ⟨trivial, ?_⟩
         refine RL.pu ?_
         refine RL.pu ?_
         refine RL.done ?_
         refine CW.cond rfl (fun h87 => ?_) (fun h87 => ?_)
         ·
          exact absurd h87 (by decide)
         ·
          refine CW.skip (CW.plain ?_)
          refine RL.pu ?_
          refine RL.add rfl rfl rfl rfl rfl rfl ((by simp only [rng]; omega)) ?_
          refine RL.pu ?_
          refine RL.done ?_
          cases j with
          | zero => omega
          | succ j => exact fun ac ha => ⟨j, [(2, .slice ia ins.length ic), (8, ptr b4), (10, i64 ((k : Int) + 1))], ha.sub ⟨rfl, rfl, rfl, trivial⟩, ⟨_, _, (stepP r ins[k]).1, g1, k + 1, ((((hg15.front 3 rfl).front 3 rfl).dropAt 2).dropAt 2), (haxL.trans ((Aux.drew _).trans (hax7.trans (hax8.trans (hax9.trans (hax10.trans (hax11.trans (hax12.trans (hax13.trans (hax14.trans hax15)))))))))), (hleL.trans (hle7.trans (hle9.trans hle12))), rfl, by omega, hb8, hA39, hst2.mono (by omega)⟩, Nat.lt_succ_self j⟩
   ·
    refine CW.exit ?_
    refine CW.seq (CW.plain ?_)
    refine RL.pu ?_
    refine RL.done ?_
    refine CW.ret (ret (vs := [_]) ⟨_, _, rfl, rfl, rfl⟩ ?_)
    exact Post.mk hleL ((hgL.drop).drop).nil haxL rfl
theorem RaftcoreStatus_law {w : World} {s : Res} {os : List Res} {id : Int} {v : View} {vs : List Value} {ins : List Inp} {ia : Option Addr} {ic : Nat} (hg : Good w s os) (hid : rng .i64 id) (hv : ∃ h, vs = viewV v h ∧ LogAt s s v.log h ∧ rng .u64 v.hard.term ∧ rng .i64 v.hard.vote ∧ rng .u64 v.hard.commit)
  (hI : Imm RInp 20 s ia ic ins) (hb1 : v.log.size ≤ 1048576) (hb2 : max ins.length (ins.map Inp.size).sum ≤ 1048576) :
  Calls Tryz.prog 8 #[i64 id, .agg vs.toArray, .slice ia ins.length ic] w (Post w s os fun _ _ q => q = .bool true) := by
 obtain ⟨h, rfl, hl, h1, h2, h3⟩ := hv
 exact RaftcoreStatus_ct hg hid hl h1 h2 h3 hI hb1 hb2
end Go.Lw
