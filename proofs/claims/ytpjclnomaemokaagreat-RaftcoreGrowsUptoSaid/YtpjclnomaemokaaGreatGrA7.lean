/-
  Parts of the proof of RaftcoreGrowsUptoSaid: the walk engine: KcU, KcX, KcY, KcZ, KcV, StEq, KdA, KdC, KdD, KdE.
-/
import Derived.Test.YtpjclnomaemokaaGreatGrA6
import Derived.Laws.StructEq

/-
 A node by the program: one peer read, written; chunked, transfer.
-/
namespace Go.Lw
open Go.Proofs
attribute [local irreducible] RL RA
section
variable {w : World} {s A : Res} {os : List Res} {p : Nat} {h : Hd} {n : Node}
abbrev peerV (q : Peer) : List Value := [i64 q.node, u64 q.next, u64 q.mat]
theorem PeerAt.there {other : Int} {a : Option Addr} (hp : PeerAt h n other a) (hn : a.isNone = false) : ∃ g k, ∃ hk : k < n.s.peers.length, a = some ((⟨g, 0, none⟩ : Addr).add (k * 3)) ∧ h.pa = some ⟨g, 0, none⟩ ∧ n.peer other = some n.s.peers[k] ∧ n.s.peers.findIdx? (fun p => decide (p.node = other)) = some k := by
 rcases hp with ⟨rfl, _⟩ | hp
 ·
  cases hn
 ·
  exact hp
theorem PeerAt.gone {other : Int} {a : Option Addr} (hp : PeerAt h n other a) (hn : a.isNone = true) : n.peer other = none := by
 rcases hp with ⟨_, h0⟩ | ⟨g, k, hk, rfl, _⟩
 ·
  exact h0
 ·
  cases hn
theorem three_at {cs : List Value} {i : Nat} {a b c : Value} (h0 : cs[i]? = some a) (h1 : cs[i + 1]? = some b) (h2 : cs[i + 2]? = some c) : cs.drop i = a :: b :: c :: cs.drop (i + 3) := by
 obtain ⟨l0, e0⟩ := List.getElem?_eq_some_iff.1 h0
 obtain ⟨l1, e1⟩ := List.getElem?_eq_some_iff.1 h1
 obtain ⟨l2, e2⟩ := List.getElem?_eq_some_iff.1 h2
 rw [List.drop_eq_getElem_cons l0, List.drop_eq_getElem_cons l1, List.drop_eq_getElem_cons l2, e0, e1, e2]
theorem Nd.peerRow {g k : Nat} (nd : Nd s A p h n) (hk : k < n.s.peers.length) (hpp : h.pa = some ⟨g, 0, none⟩) :
  ∃ cs, A g = some (.cells cs 136 (0, 0)) ∧ k * 3 + 3 ≤ cs.size ∧ (∀ (j : Nat) u, (peerV n.s.peers[k])[j]? = some u → cs.toList[k * 3 + j]? = some u) ∧ RPeer s (peerV n.s.peers[k]) n.s.peers[k] := by
 rcases nd.peers with ⟨h1, _⟩ | ⟨g', cs, h1, hA, h4, h5, h6, h7⟩
 ·
  rw [hpp] at h1; cases h1
 ·
  rw [hpp] at h1; cases h1
  obtain ⟨vs, hv, hc, hR⟩ := h7.get (List.getElem?_eq_getElem hk)
  have hR2 := hR
  obtain ⟨rfl, _⟩ := hR2
  refine ⟨cs, hA, by rw [h6]; omega, fun j u hu => ?_, hR⟩
  have := hc j u hu
  rw [List.getElem?_take] at this
  split at this
  ·
   exact this
  ·
   cases this
theorem Nd.peerHolds {g k : Nat} (nd : Nd s A p h n) (hk : k < n.s.peers.length) (hpp : h.pa = some ⟨g, 0, none⟩) : Holds A ((⟨g, 0, none⟩ : Addr).add (k * 3)) (peerV n.s.peers[k]) := by
 obtain ⟨cs, hA, _, hc, _⟩ := nd.peerRow hk hpp
 exact Own.place hA hc
theorem RL.storePeer {P : Program} {m : Nat} {ops : Array Oper} {Q : Exit → Act → World → Prop} {S : World → Prop} {rest : List (Bool × Oper)} {E : Env} {o : Oper} {x y : Operand} {t : TypeId} {g k j : Nat} {i : Nat} {v : Int} (q : Peer) (hg : wants ops E o = some true) (hd : o.dst = none) (ho : o.op = .store t x y) (ht : tyc P t = some (false, 1))
  (hk : k < n.s.peers.length) (hpp : h.pa = some ⟨g, 0, none⟩)
  (hx : ev E x = some (.pointer (some (((⟨g, 0, none⟩ : Addr).add (k * 3)).add j)))) (hy : ev E y = some (u64 v)) (hG : Good w s os) (hi : os[i]? = some A) (nd : Nd s A p h n) (hj : j < 3) (hq : peerV q = (peerV n.s.peers[k]).set j (u64 v)) (hr : rng .i64 q.node ∧ rng .u64 q.next ∧ rng .u64 q.mat)
  (hc : ∀ w' A', Good w' s (os.set i A') → Aux w w' → Nd s A' p h (n.wPeers (n.s.peers.set k q)) → S w' ∧ RL P m ops Q S rest E w') : RL P m ops Q S ((false, o) :: rest) E w := by
 obtain ⟨cs, hA, hfit, hcell, _⟩ := nd.peerRow hk hpp
 have hd3 : cs.toList.drop (k * 3) = i64 n.s.peers[k].node :: u64 n.s.peers[k].next :: u64 n.s.peers[k].mat :: cs.toList.drop (k * 3 + 3) := three_at (hcell 0 _ rfl) (hcell 1 _ rfl) (hcell 2 _ rfl)
 have hd1 : cs.toList.drop (k * 3 + 1) = u64 n.s.peers[k].next :: u64 n.s.peers[k].mat :: cs.toList.drop (k * 3 + 3) := by rw [← List.drop_drop, hd3]; rfl
 have hd2 : cs.toList.drop (k * 3 + 2) = u64 n.s.peers[k].mat :: cs.toList.drop (k * 3 + 3) := by rw [← List.drop_drop, hd3]; rfl
 have ht1 : cs.toList.take (k * 3 + 1) = cs.toList.take (k * 3) ++ [i64 n.s.peers[k].node] := by rw [List.take_add, hd3]; rfl
 have ht2 : cs.toList.take (k * 3 + 2) = cs.toList.take (k * 3) ++ [i64 n.s.peers[k].node, u64 n.s.peers[k].next] := by rw [List.take_add, hd3]; rfl
 have hds : cs.toList.take (k * 3 + j) ++ [u64 v] ++ cs.toList.drop (k * 3 + j + 1) = cs.toList.take (k * 3) ++ peerV q ++ cs.toList.drop (k * 3 + 3) := by
  rw [hq]
  rcases j with _ | _ | _ | j
  ·
   show cs.toList.take (k * 3) ++ [u64 v] ++ cs.toList.drop (k * 3 + 1) = _
   rw [hd1]; simp
  ·
   show cs.toList.take (k * 3 + 1) ++ [u64 v] ++ cs.toList.drop (k * 3 + 2) = _
   rw [ht1, hd2]; simp
  ·
   show cs.toList.take (k * 3 + 2) ++ [u64 v] ++ cs.toList.drop (k * 3 + 3) = _
   rw [ht2]; simp
  ·
   omega
 refine RL.store (b := g) (j := k * 3 + j) hg hd ho ht (by rw [hx, add_add]) hy hG hi hA rfl (by simp [Value.cells, Value.oneCell']) (by omega) fun w' h2 h3 => ?_
 rw [show (u64 v).cells.toList = [u64 v] from rfl, hds] at h2
 refine hc w' _ h2 h3 ?_
 have hset := Own.set (x := q) (vs := peerV q) (hpp ▸ nd.peers) hA hk rfl ⟨rfl, hr⟩
 have hpg : p ≠ g := fun e => by
  have h1 := nd.cells
  rw [e, hA] at h1
  injection h1 with h1
  injection h1 with _ h1
  exact absurd h1 (by decide)
 have hpa : ∀ ad, h.pa = some ad → ad.block = g := fun ad he => by rw [hpp] at he; cases he; rfl
 have hb := nd.peers
 obtain ⟨a, b, c, d, e, f, g', i', j', l⟩ := nd.rest
 have hz : nodeV (n.wPeers (n.s.peers.set k q)) h = nodeV n h := by
  have hl : (n.wPeers (n.s.peers.set k q)).s.peers.length = n.s.peers.length := List.length_set ..
  simp only [nodeV, hl]; rfl
 refine ⟨by rw [put_other _ _ hpg, nd.cells, hz], a, b, c, d.put (fun ad he hz => (hb.dj d (by decide)) _ ad hpp he hz.symm) _, e.put (fun ad he hz => (hb.dj e (by decide)) _ ad hpp he hz.symm) _, ?_, g', i'.put (fun ad he hz => (hb.dj i' (by decide)) _ ad hpp he hz.symm) _, j'.put (fun ad he hz => (hb.dj j' (by decide)) _ ad hpp he hz.symm) _, l⟩
 rw [show h.pa = some ⟨g, 0, none⟩ from hpp]
 exact hset
theorem chunked_go {m : Msg} {q : Peer} (h0 : n.peer m.frm = some q) (h1 : n.s.role = 4 ∧ q.next ≤ n.s.log.base.index ∧ m.index = n.s.log.base.index) : n.chunked m = n.piece m.frm m.hint := by
 unfold Node.chunked; rw [h0]; exact if_pos h1
theorem chunked_no {m : Msg} (h0 : n.s.role ≠ 4 ∨ n.peer m.frm = none ∨ ∃ q, n.peer m.frm = some q ∧ ¬ (q.next ≤ n.s.log.base.index ∧ m.index = n.s.log.base.index)) : n.chunked m = n := by
 unfold Node.chunked
 cases hp : n.peer m.frm with
 | none => rfl
 | some q =>
  refine if_neg fun z => ?_
  rcases h0 with h | h | ⟨q', h, h'⟩
  ·
   exact h z.1
  ·
   rw [hp] at h; cases h
  ·
   rw [hp] at h; cases h; exact h' z.2
set_option maxRecDepth 100000 in
set_option maxHeartbeats 1000000 in
theorem chunked_ct {m : Msg} {y : Lay} (hg : Good w s (A :: os)) (nd : Nd s A p h n) (hR : NRng n) (hr : n.roomy) (hm : MsgOk s m y) :
  Calls Tryz.prog 111 #[ptr p, .agg (msgV m y).toArray] w (NPost w s os p (.tuple #[]) (n.chunked m)) := by
 obtain ⟨hS, h1, h2, h3, h4⟩ := hr
 refine enter (l := [ptr p, .agg (msgV m y).toArray]) Tryz.func111 rfl Tryz.ntmps111 rfl ?_
 refine CW.seq (CW.plain ?_)
 refine RL.boxN rfl rfl rfl rfl rfl hg ?_
 rintro b1 w1 Q1 (hg1 : Good _ s (Q1 :: A :: os)) hax1 hb1
 refine ⟨trivial, ?_⟩
 refine RL.done ?_
 refine CW.seq (CW.plain ?_)
 refine RL.pu ?_
 refine RL.fi fl56_1 ?_
 refine RL.lo 1 ty3 hb1 hg1 ?_
 refine RL.callV rfl rfl rfl rfl rfl ca114 (peer_ct (hg1.front 1 rfl) nd) ?_
 rintro v2 w2 (hg2 : Good _ s (A :: Q1 :: os)) hax2 ⟨a8, rfl, hpa⟩
 refine ⟨trivial, ?_⟩
 refine RL.pd ?_
 refine CW.seq ?_
 have hg3 := hg2.drew
 refine CW.draws [(true, 0), (true, 1), (true, 2), (true, 3), (true, 4), (true, 5), (true, 6), (true, 7), (true, 8), (true, 9), (true, 10), (true, 11), (true, 12), (true, 13), (true, 14), (true, 15), (true, 16), (true, 17), (true, 18), (true, 19), (true, 20), (true, 21), (true, 22), (true, 23), (true, 24), (true, 25), (true, 26), (true, 27), (true, 28), (true, 29), (true, 30), (true, 31), (true, 32), (true, 33), (true, 34), (true, 35)] (fun w => At1 p _ w ∧ At1 b1 _ w ∧ In A w ∧ True) mixed (by kernel_rfl) (by kernel_rfl) (by kernel_rfl) (by kernel_rfl) (⟨hg3.at1 (by simp) nd.cells, hg3.at1 (by simp) hb1, hg3.mem (by simp), trivial⟩) ?_
 refine RL.pp ?_
 refine RL.fi fl109_0 ?_
 refine RL.fi fl44_3 ?_
 refine RL.loadT (ad := ⟨p, 0, none⟩) (j := 10) rfl rfl rfl rfl ty38 rfl (At1.holds) (fun w h => h.1.inn) rfl ?_
 refine RL.pp ?_
 refine RL.part 15 rfl (fun h15 => ?_) (fun h15 => ?_)
 ·
  refine RL.pu ?_
  refine RL.ptrNe rfl rfl rfl rfl Tryz.underlying162 rfl rfl ?_
  refine RL.pp ?_
  refine RL.part 19 rfl (fun h19 => ?_) (fun h19 => ?_)
  ·
   obtain ⟨g, k, hk, rfl, hpp, hpr, hix⟩ := hpa.there (by simpa using h19)
   refine RL.pp ?_
   refine RL.fi fl136_1 ?_
   refine RL.loadT (j := 1) rfl rfl rfl rfl ty22 rfl (nd.peerHolds hk hpp) (fun w h => h.2.2.1) rfl ?_
   refine RL.pp ?_
   refine RL.fi fl109_0 ?_
   refine RL.fi fl44_2 ?_
   refine RL.fi fl33_0 ?_
   refine RL.fi fl30_0 ?_
   refine RL.loadT (ad := ⟨p, 0, none⟩) (j := 4) rfl rfl rfl rfl ty22 rfl (At1.holds) (fun w h => h.1.inn) rfl ?_
   refine RL.pp ?_
   refine RL.pu ?_
   refine RL.part 33 rfl (fun h33 => ?_) (fun h33 => ?_)
   ·
    refine RL.fi fl56_4 ?_
    refine RL.loadT (ad := ⟨b1, 0, none⟩) (j := 4) rfl rfl rfl rfl ty22 rfl (At1.holds) (fun w h => h.2.1.inn) rfl ?_
    refine RL.pp ?_
    refine RL.fi fl109_0 ?_
    refine RL.fi fl44_2 ?_
    refine RL.fi fl33_0 ?_
    refine RL.fi fl30_0 ?_
    refine RL.loadT (ad := ⟨p, 0, none⟩) (j := 4) rfl rfl rfl rfl ty22 rfl (At1.holds) (fun w h => h.1.inn) rfl ?_
    refine RL.pu ?_
    refine RL.pd ?_
    refine CW.cond rfl (fun h44 => ?_) (fun h44 => ?_)
    ·
     refine CW.plain ?_
     refine RL.pu ?_
     refine RL.fi fl56_1 ?_
     refine RL.lo 1 ty3 hb1 hg3 ?_
     refine RL.fi fl56_9 ?_
     refine RL.lo 9 ty22 hb1 hg3 ?_
     refine RL.call rfl rfl rfl rfl rfl ca130 (piece_ct hg3 nd hR (Log.small.base hS) hm.frm hm.hint (by omega)) ?_
     rintro v4 s4 A4 w4 hle4 (hg4 : Good _ s4 (A4 :: Q1 :: os)) hax4 ⟨rfl, ma4, mc4, nd4⟩
     refine ⟨trivial, ?_⟩
     refine RL.done ?_
     refine fall (vs := []) rfl ?_
     exact Post.mk hle4 (hg4.dropNext) (hax1.trans (hax2.trans ((Aux.drew _).trans hax4))) ⟨rfl, _, nd4.to (chunked_go hpr ⟨by simpa using h15, decide_t h33, by simpa using h44⟩).symm⟩
    ·
     refine CW.skip ?_
     refine fall (vs := []) rfl ?_
     exact Post.mk (Le.refl _) (hg3.dropNext) (hax1.trans (hax2.trans (Aux.drew _))) ⟨rfl, _, nd.to (chunked_no (.inr (.inr ⟨_, hpr, fun z => by simp [z.2] at h44⟩))).symm⟩
   ·
    refine RL.qq ?_
    refine RL.qq ?_
    refine RL.qq ?_
    refine RL.qq ?_
    refine RL.qq ?_
    refine RL.pd ?_
    refine CW.no (by first | rfl | exact congrArg (fun b => some (Value.bool b)) (by assumption)) ?_
    refine CW.skip ?_
    refine fall (vs := []) rfl ?_
    exact Post.mk (Le.refl _) (hg3.dropNext) (hax1.trans (hax2.trans (Aux.drew _))) ⟨rfl, _, nd.to (chunked_no (.inr (.inr ⟨_, hpr, fun z => decide_f h33 z.1⟩))).symm⟩
  ·
   refine RL.qq ?_
   refine RL.qq ?_
   refine RL.qq ?_
   refine RL.qq ?_
   refine RL.qq ?_
   refine RL.qq ?_
   refine RL.pp ?_
   refine RL.qq ?_
   refine RL.qq ?_
   refine RL.qq ?_
   refine RL.qq ?_
   refine RL.qq ?_
   refine RL.pd ?_
   refine CW.no (by first | rfl | exact congrArg (fun b => some (Value.bool b)) (by assumption)) ?_
   refine CW.skip ?_
   refine fall (vs := []) rfl ?_
   exact Post.mk (Le.refl _) (hg3.dropNext) (hax1.trans (hax2.trans (Aux.drew _))) ⟨rfl, _, nd.to (chunked_no (.inr (.inl (hpa.gone (by simpa using h19))))).symm⟩
 ·
  refine RL.qq ?_
  refine RL.pp ?_
  refine RL.qq ?_
  refine RL.qq ?_
  refine RL.qq ?_
  refine RL.qq ?_
  refine RL.qq ?_
  refine RL.qq ?_
  refine RL.pp ?_
  refine RL.qq ?_
  refine RL.qq ?_
  refine RL.qq ?_
  refine RL.qq ?_
  refine RL.qq ?_
  refine RL.pd ?_
  refine CW.no (by first | rfl | exact congrArg (fun b => some (Value.bool b)) (by assumption)) ?_
  refine CW.skip ?_
  refine fall (vs := []) rfl ?_
  exact Post.mk (Le.refl _) (hg3.dropNext) (hax1.trans (hax2.trans (Aux.drew _))) ⟨rfl, _, nd.to (chunked_no (.inl (by simpa using h15))).symm⟩
theorem transfer_no {to : Int} (h0 : n.peer to = none ∨ to ∉ n.voters) : n.transferTo to = (n, 1) := by
 unfold Node.transferTo
 cases hp : n.peer to with
 | none => rfl
 | some q => exact if_pos (h0.resolve_left (by rw [hp]; simp))
theorem transfer_now {to : Int} {q : Peer} (h0 : n.peer to = some q) (h1 : to ∈ n.voters) (h2 : q.mat = n.last) : n.transferTo to = (((n.wTransfer to).wElapsed 0).post { Msg.zero with kind := 9, to := to }, 0) := by
 unfold Node.transferTo; rw [h0]; simp only [if_neg (show ¬ to ∉ n.voters from fun z => z h1), if_pos h2]; rfl
theorem transfer_feed {to : Int} {q : Peer} (h0 : n.peer to = some q) (h1 : to ∈ n.voters) (h2 : ¬ q.mat = n.last) : n.transferTo to = (((n.wTransfer to).wElapsed 0).feed q, 0) := by
 unfold Node.transferTo; rw [h0]; simp only [if_neg (show ¬ to ∉ n.voters from fun z => z h1), if_neg h2]; rfl
set_option maxRecDepth 100000 in
set_option maxHeartbeats 1000000 in
theorem transfer_ct {to : Int} (hg : Good w s (A :: os)) (nd : Nd s A p h n) (hR : NRng n) (hr : n.roomy) (hto : rng .i64 to) :
  Calls Tryz.prog 75 #[ptr p, i64 to] w (NPost w s os p (i64 (n.transferTo to).2) (n.transferTo to).1) := by
 obtain ⟨hS, h1, h2, h3, h4⟩ := hr
 have hR2 : NRng ((n.wTransfer to).wElapsed 0) := hR
 refine enter (l := [ptr p, i64 to]) Tryz.func75 rfl Tryz.ntmps75 rfl ?_
 refine CW.seq (CW.plain ?_)
 refine RL.pd ?_
 refine CW.seq (CW.plain ?_)
 refine RL.pp ?_
 refine RL.callV rfl rfl rfl rfl rfl ca114 (peer_ct hg nd) ?_
 rintro v5 w5 (hg5 : Good _ s (A :: os)) hax5 ⟨a8, rfl, hpa⟩
 refine ⟨trivial, ?_⟩
 refine RL.pd ?_
 refine CW.seq ?_
 refine CW.seq (CW.plain ?_)
 refine RL.pu ?_
 refine RL.ptrEq rfl rfl rfl rfl Tryz.underlying162 rfl rfl ?_
 refine RL.pu ?_
 refine RL.part 11 rfl (fun h11 => ?_) (fun h11 => ?_)
 ·
  refine RL.qq ?_
  refine RL.qq ?_
  refine RL.pa ?_
  refine RL.pd ?_
  refine CW.yes (by first | rfl | exact congrArg (fun b => some (Value.bool b)) (by assumption)) ?_
  refine CW.seq (CW.plain ?_)
  refine RL.pd ?_
  refine CW.ret (ret (vs := [_]) ⟨_, _, rfl, rfl, rfl⟩ ?_)
  rw [transfer_no (.inl (hpa.gone (by simpa using h11)))]
  exact Post.mk (Le.refl _) hg5 hax5 ⟨rfl, _, nd⟩
 ·
  refine RL.pu ?_
  refine RL.call rfl rfl rfl rfl rfl ca99 (voters_ct hg5 nd hR hS) ?_
  rintro v6 s6 B6 w6 hle6 (hg6 : Good _ s6 (B6 :: A :: os)) hax6 ⟨va, vc, rfl, hvo⟩
  have hg6 := hg6.drop
  have nd7 := nd.up hle6
  refine ⟨trivial, ?_⟩
  refine RL.pu ?_
  refine RL.callV rfl rfl rfl rfl rfl ca98 (Contains_ct hg6 hvo) ?_
  rintro v8 w8 (hg8 : Good _ s6 (A :: os)) hax8 rfl
  refine ⟨trivial, ?_⟩
  refine RL.pu ?_
  refine RL.pd ?_
  refine CW.cond rfl (fun h17 => ?_) (fun h17 => ?_)
  ·
   refine CW.seq (CW.plain ?_)
   refine RL.pd ?_
   refine CW.ret (ret (vs := [_]) ⟨_, _, rfl, rfl, rfl⟩ ?_)
   rw [transfer_no (.inr (by simpa using h17))]
   exact Post.mk hle6 hg8 (hax5.trans (hax6.trans hax8)) ⟨rfl, _, nd7⟩
  ·
   have hin : to ∈ n.voters := by simpa using h17
   obtain ⟨g, k, hk, rfl, hpp, hpr, hix⟩ := hpa.there (by simpa using h11)
   refine CW.skip ?_
   refine CW.seq (CW.plain ?_)
   refine RL.pp ?_
   refine RL.pp ?_
   refine RL.fi fl109_0 ?_
   refine RL.fi fl44_9 ?_
   refine RL.storeI (p := p) (i := 0) (j := 16) rfl rfl rfl ty3 rfl rfl hg8 rfl (nd7.cells) (NRest.wTransfer nd7.rest) rfl (Nat.le_of_ble_eq_true rfl) rfl ?_
   rintro w9 A9 (hg9 : Good _ s6 (A9 :: os)) hax9 nd9
   refine ⟨trivial, ?_⟩
   refine RL.pu ?_
   refine RL.fi fl109_0 ?_
   refine RL.fi fl44_7 ?_
   refine RL.storeI (p := p) (i := 0) (j := 14) rfl rfl rfl ty3 rfl rfl hg9 rfl (nd9.cells) (NRest.wElapsed nd9.rest) rfl (Nat.le_of_ble_eq_true rfl) rfl ?_
   rintro w10 A10 (hg10 : Good _ s6 (A10 :: os)) hax10 nd10
   refine ⟨trivial, ?_⟩
   refine RL.done ?_
   refine CW.seq ?_
   refine CW.seq ?_
   have hg11 := hg10.drew
   refine CW.draws [(true, 0), (true, 1), (true, 2), (true, 3), (true, 4), (false, 5), (true, 6)] (fun w => In A10 w ∧ True) mixed (by kernel_rfl) (by kernel_rfl) (by kernel_rfl) (by kernel_rfl) (⟨hg11.mem (by simp), trivial⟩) ?_
   refine RL.pp ?_
   refine RL.fi fl136_2 ?_
   refine RL.loadT (j := 2) rfl rfl rfl rfl ty22 rfl (nd10.peerHolds hk hpp) (fun w h => h.1) rfl ?_
   refine RL.pu ?_
   refine RL.callV rfl rfl rfl rfl rfl ca77 (last_ct hg11 nd10 hR2) ?_
   rintro v12 w12 (hg12 : Good _ s6 (A10 :: os)) hax12 rfl
   refine ⟨⟨hg12.mem (by simp), trivial⟩, ?_⟩
   refine RL.pd ?_
   refine CW.cond rfl (fun h33 => ?_) (fun h33 => ?_)
   ·
    refine CW.plain ?_
    refine RL.pp ?_
    refine RL.build rfl rfl rfl rfl ze56 pl56 rfl rfl ?_
    refine RL.call rfl rfl rfl rfl rfl ca113 (post_ct (m := { Msg.zero with kind := 9, to := to }) (y := Lay.none) hg12 nd10 hR2 { MsgOk.zero _ with kind := by simp [rng], to := hto } (by show n.o.msgs.length ≤ _; omega)) ?_
    rintro v13 s13 A13 w13 hle13 (hg13 : Good _ s13 (A13 :: os)) hax13 ⟨rfl, ma13, mc13, nd13⟩
    refine ⟨trivial, ?_⟩
    refine RL.done ?_
    refine CW.seq (CW.plain ?_)
    refine RL.pd ?_
    refine CW.ret (ret (vs := [_]) ⟨_, _, rfl, rfl, rfl⟩ ?_)
    rw [transfer_now hpr hin (eq_of_beq h33)]
    exact Post.mk (hle6.trans hle13) hg13 (hax5.trans (hax6.trans (hax8.trans (hax9.trans (hax10.trans ((Aux.drew _).trans (hax12.trans hax13))))))) ⟨rfl, _, nd13⟩
   ·
    refine CW.plain ?_
    refine RL.pp ?_
    refine RL.pu ?_
    refine RL.loads (ad := (⟨g, 0, none⟩ : Addr).add (k * 3)) (j := 0) rfl rfl rfl rfl ty136 rfl (nd10.peerHolds hk hpp) (hg12.mem (by simp)) rfl rfl ?_
    refine RL.call rfl rfl rfl rfl rfl ca103 (feed_ct hg12 nd10 hR2 hS (nd.peers_rng _ (List.getElem_mem hk)).1 (nd.peers_rng _ (List.getElem_mem hk)).2.1 (by show n.o.msgs.length ≤ _; omega)) ?_
    rintro v14 s14 A14 w14 hle14 (hg14 : Good _ s14 (A14 :: os)) hax14 ⟨rfl, ma14, mc14, nd14⟩
    refine ⟨trivial, ?_⟩
    refine RL.done ?_
    refine CW.seq (CW.plain ?_)
    refine RL.pd ?_
    refine CW.ret (ret (vs := [_]) ⟨_, _, rfl, rfl, rfl⟩ ?_)
    rw [transfer_feed hpr hin (ne_of_beq_false h33)]
    exact Post.mk (hle6.trans hle14) hg14 (hax5.trans (hax6.trans (hax8.trans (hax9.trans (hax10.trans ((Aux.drew _).trans (hax12.trans hax14))))))) ⟨rfl, _, nd14⟩
def Node.raise (n : Node) (k : Nat) (q : Peer) : Node := n.wPeers (n.s.peers.set k q)
theorem setPeer_at {other : Int} {k : Nat} {q : Peer} (h0 : n.s.peers.findIdx? (fun p => decide (p.node = other)) = some k) : n.setPeer other (fun _ => q) = n.raise k q := by
 unfold Node.setPeer
 rw [h0]
 simp only [Node.raise, Node.wPeers]
 congr 2
 refine List.ext_getElem? fun j => ?_
 rw [List.getElem?_modify, List.getElem?_set]
 by_cases hj : k = j
 ·
  subst hj
  have hk := (List.findIdx?_eq_some_iff_getElem.1 h0).1
  simp [hk]
 ·
  simp [hj]
theorem grown_no {m : Msg} (h0 : n.s.role ≠ 4 ∨ n.peer m.frm = none ∨ n.last < m.index) : n.grown m = n := by
 unfold Node.grown
 cases hp : n.peer m.frm with
 | none => rfl
 | some q =>
  refine if_pos ?_
  rcases h0 with h | h | h
  ·
   exact .inl h
  ·
   rw [hp] at h; cases h
  ·
   exact .inr h
theorem grown_rej {m : Msg} {q : Peer} {k : Nat} (h0 : n.s.role = 4) (h1 : n.peer m.frm = some q) (h2 : ¬ n.last < m.index) (h3 : m.reject = true) (hix : n.s.peers.findIdx? (fun p => decide (p.node = m.frm)) = some k) (x : Int) (hx : x = if m.hint < m.index then m.hint + 1 else max m.index 1) :
  n.grown m = (n.raise k { q with next := max x (up1 q.mat) }).feed { q with next := max x (up1 q.mat) } := by
 subst hx
 unfold Node.grown; rw [h1]
 refine (if_neg (fun z => z.elim (fun z => z h0) h2)).trans ((if_pos h3).trans ?_)
 dsimp only
 rw [setPeer_at hix]
def Peer.up (q : Peer) (x : Int) : Peer := { q with mat := max q.mat x, next := max q.next (up1 (max q.mat x)) }
noncomputable def Node.after (a b : Node) (q : Peer) (frm : Int) : Node :=
 let c := if a.s.hard.commit < b.s.hard.commit then b.spread else if q.next ≤ b.last then b.feed q else b
 if a.s.transfer = frm ∧ q.mat = c.last then c.post { Msg.zero with kind := 9, to := frm } else c
theorem grown_yes {m : Msg} {q : Peer} {k : Nat} (h0 : n.s.role = 4) (h1 : n.peer m.frm = some q) (h2 : ¬ n.last < m.index) (h3 : ¬ m.reject = true) (hix : n.s.peers.findIdx? (fun p => decide (p.node = m.frm)) = some k) :
  n.grown m = if (n.raise k (q.up m.index)).count.s.role ≠ 4 then (n.raise k (q.up m.index)).count else Node.after (n.raise k (q.up m.index)) (n.raise k (q.up m.index)).count (q.up m.index) m.frm := by
 unfold Node.grown; rw [h1]
 refine (if_neg (fun z => z.elim (fun z => z h0) h2)).trans ((if_neg h3).trans ?_)
 simp only [setPeer_at hix]
 rfl
theorem spread_s : n.spread.s = n.s := Node.feeds_s _ _
set_option maxRecDepth 100000 in
set_option maxHeartbeats 4000000 in
theorem grown_ct {m : Msg} {y : Lay} (hg : Good w s (A :: os)) (nd : Nd s A p h n) (hR : NRng n) (hr : n.roomy) (hm : MsgOk s m y) :
  Calls Tryz.prog 109 #[ptr p, .agg (msgV m y).toArray] w (NPost w s os p (.tuple #[]) (n.grown m)) := by
 obtain ⟨hS, h1, h2, h3, h4⟩ := hr
 have hm1 := hm.index
 have hm2 := hm.hint
 simp only [rng] at hm1 hm2
 refine enter (l := [ptr p, .agg (msgV m y).toArray]) Tryz.func109 rfl Tryz.ntmps109 rfl ?_
 refine CW.seq (CW.plain ?_)
 refine RL.boxN rfl rfl rfl rfl rfl hg ?_
 rintro b15 w15 Q15 (hg15 : Good _ s (Q15 :: A :: os)) hax15 hb15
 refine ⟨trivial, ?_⟩
 refine RL.done ?_
 refine CW.seq (CW.plain ?_)
 refine RL.pu ?_
 refine RL.fi fl56_1 ?_
 refine RL.lo 1 ty3 hb15 hg15 ?_
 refine RL.callV rfl rfl rfl rfl rfl ca114 (peer_ct (hg15.front 1 rfl) nd) ?_
 rintro v16 w16 (hg16 : Good _ s (A :: Q15 :: os)) hax16 ⟨a12, rfl, hpa⟩
 refine ⟨trivial, ?_⟩
 refine RL.pd ?_
 refine CW.seq ?_
 refine CW.seq ?_
 have hg17 := hg16.drew
 refine CW.draws [(true, 0), (true, 1), (true, 2), (true, 3), (true, 4), (true, 5), (true, 6), (true, 7), (true, 8), (true, 9), (true, 10), (true, 11), (true, 12), (true, 13), (false, 14), (true, 15), (true, 16)] (fun w => At1 p _ w ∧ At1 b15 _ w ∧ True) mixed (by kernel_rfl) (by kernel_rfl) (by kernel_rfl) (by kernel_rfl) (⟨hg17.at1 (by simp) nd.cells, hg17.at1 (by simp) hb15, trivial⟩) ?_
 refine RL.pp ?_
 refine RL.fi fl109_0 ?_
 refine RL.fi fl44_3 ?_
 refine RL.loadT (ad := ⟨p, 0, none⟩) (j := 10) rfl rfl rfl rfl ty38 rfl (At1.holds) (fun w h => h.1.inn) rfl ?_
 refine RL.pp ?_
 refine RL.part 19 rfl (fun h19 => ?_) (fun h19 => ?_)
 ·
  refine RL.qq ?_
  refine RL.pp ?_
  refine RL.qq ?_
  refine RL.qq ?_
  refine RL.pa ?_
  refine RL.pd ?_
  refine CW.yes (by first | rfl | exact congrArg (fun b => some (Value.bool b)) (by assumption)) ?_
  refine CW.ret (ret (vs := []) rfl ?_)
  exact Post.mk (Le.refl _) (hg17.dropNext) (hax15.trans (hax16.trans (Aux.drew _))) ⟨rfl, _, nd.to (grown_no (.inl (by simpa using h19))).symm⟩
 ·
  refine RL.pu ?_
  refine RL.ptrEq rfl rfl rfl rfl Tryz.underlying162 rfl rfl ?_
  refine RL.pp ?_
  refine RL.part 23 rfl (fun h23 => ?_) (fun h23 => ?_)
  ·
   refine RL.qq ?_
   refine RL.qq ?_
   refine RL.pa ?_
   refine RL.pd ?_
   refine CW.yes (by first | rfl | exact congrArg (fun b => some (Value.bool b)) (by assumption)) ?_
   refine CW.ret (ret (vs := []) rfl ?_)
   exact Post.mk (Le.refl _) (hg17.dropNext) (hax15.trans (hax16.trans (Aux.drew _))) ⟨rfl, _, nd.to (grown_no (.inr (.inl (hpa.gone (by simpa using h23))))).symm⟩
  ·
   refine RL.fi fl56_4 ?_
   refine RL.loadT (ad := ⟨b15, 0, none⟩) (j := 4) rfl rfl rfl rfl ty22 rfl (At1.holds) (fun w h => h.2.1.inn) rfl ?_
   refine RL.pu ?_
   refine RL.callV rfl rfl rfl rfl rfl ca77 (last_ct hg17 nd hR) ?_
   rintro v18 w18 (hg18 : Good _ s (A :: Q15 :: os)) hax18 rfl
   refine ⟨⟨hg18.at1 (by simp) nd.cells, hg18.at1 (by simp) hb15, trivial⟩, ?_⟩
   refine RL.pu ?_
   refine RL.pd ?_
   refine CW.cond rfl (fun h29 => ?_) (fun h29 => ?_)
   ·
    refine CW.ret (ret (vs := []) rfl ?_)
    exact Post.mk (Le.refl _) (hg18.dropNext) (hax15.trans (hax16.trans ((Aux.drew _).trans hax18))) ⟨rfl, _, nd.to (grown_no (.inr (.inr (decide_t h29)))).symm⟩
   ·
    have hr4 : n.s.role = 4 := by simpa using h19
    have hil := decide_f h29
    obtain ⟨g, k, hk, rfl, hpp, hpr, hix⟩ := hpa.there (by simpa using h23)
    have hqr := nd.peers_rng _ (List.getElem_mem hk)
    refine CW.skip ?_
    refine CW.seq ?_
    refine CW.seq (CW.plain ?_)
    refine RL.fi fl56_8 ?_
    refine RL.lo 8 ty4 hb15 hg18 ?_
    refine RL.done ?_
    refine CW.cond rfl (fun h31 => ?_) (fun h31 => ?_)
    ·
     refine CW.seq (CW.plain ?_)
     refine RL.fi fl56_4 ?_
     refine RL.lo 4 ty22 hb15 hg18 ?_
     refine RL.max rfl rfl rfl rfl rfl rfl ?_
     rw [one_most]
     refine RL.pd ?_
     refine CW.seq ?_
     refine CW.seq (CW.plain ?_)
     refine RL.fi fl56_9 ?_
     refine RL.lo 9 ty22 hb15 hg18 ?_
     refine RL.fi fl56_4 ?_
     refine RL.lo 4 ty22 hb15 hg18 ?_
     refine RL.pd ?_
     refine CW.cond rfl (fun h39 => ?_) (fun h39 => ?_)
     ·
      obtain ⟨x, hx0⟩ : ∃ x, x = m.hint + 1 := ⟨_, rfl⟩
      have hx : x = if m.hint < m.index then m.hint + 1 else max m.index 1 := by rw [hx0, if_pos (decide_t h39)]
      have hxr : rng .u64 x := by have := decide_t h39; rw [hx0]; simp only [rng]; omega
      refine CW.plain ?_
      refine RL.fi fl56_9 ?_
      refine RL.lo 9 ty22 hb15 hg18 ?_
      refine RL.add rfl rfl rfl rfl rfl rfl ((by have := decide_t h39; simp only [rng]; omega)) ?_
      refine RL.pd ?_
      refine CW.seq (CW.plain ?_)
      refine RL.pp ?_
      refine RL.pp ?_
      refine RL.fi fl136_2 ?_
      refine RL.load (j := 2) rfl rfl rfl rfl ty22 rfl (nd.peerHolds hk hpp) (hg18.mem (by simp)) rfl ?_
      refine RL.as_ rfl rfl rfl rfl (u64 (up1 n.s.peers[k].mat)) (rfl) ?_
      refine RL.max rfl rfl rfl rfl rfl rfl ?_
      rw [max_if, ← hx0]
      refine RL.pu ?_
      refine RL.fi fl136_1 ?_
      have hur := up1_rng n.s.peers[k].mat
      have hmr : rng .u64 (max x (up1 n.s.peers[k].mat)) := by rw [Int.max_def]; split <;> assumption
      obtain ⟨q', hq'⟩ : ∃ q' : Peer, q' = { n.s.peers[k] with next := max x (up1 n.s.peers[k].mat) } := ⟨_, rfl⟩
      refine RL.storePeer (k := k) (j := 1) (i := 0) q' rfl rfl rfl ty22 hk hpp rfl rfl hg18 rfl nd (by omega) (by rw [hq']; rfl) (by rw [hq']; exact ⟨hqr.1, hmr, hqr.2.2⟩) ?_
      intro wS AS hgS haxS (ndS : Nd _ AS p _ (n.raise k q'))
      refine ⟨trivial, ?_⟩
      refine RL.done ?_
      refine CW.seq (CW.plain ?_)
      refine RL.pp ?_
      refine RL.pu ?_
      have hk2 : k < (n.raise k q').s.peers.length := by simp only [Node.raise, Node.wPeers, List.length_set]; exact hk
      have hget : (n.raise k q').s.peers[k] = q' := List.getElem_set_self ..
      have hH := ndS.peerHolds hk2 hpp
      rw [show (n.raise k q').s.peers[k] = q' from hget] at hH
      refine RL.loads (ad := (⟨g, 0, none⟩ : Addr).add (k * 3)) (j := 0) rfl rfl rfl rfl ty136 rfl hH (hgS.mem (by simp)) rfl rfl ?_
      refine RL.call rfl rfl rfl rfl rfl ca103 (feed_ct (q := q') hgS ndS hR hS (by rw [hq']; exact hqr.1) (by rw [hq']; exact hmr) (by show n.o.msgs.length ≤ _; omega)) ?_
      rintro v19 s19 A19 w19 hle19 (hg19 : Good _ s19 (A19 :: Q15 :: os)) hax19 ⟨rfl, ma19, mc19, nd19⟩
      have hm := hm.up hle19
      refine ⟨trivial, ?_⟩
      refine RL.done ?_
      refine CW.ret (ret (vs := []) rfl ?_)
      exact Post.mk hle19 (hg19.dropNext) (hax15.trans (hax16.trans ((Aux.drew _).trans (hax18.trans (haxS.trans hax19))))) ⟨rfl, _, nd19.to (by rw [hq']; exact (grown_rej hr4 hpr hil h31 hix x hx).symm)⟩
     ·
      obtain ⟨x, hx0⟩ : ∃ x, x = max m.index 1 := ⟨_, rfl⟩
      have hx : x = if m.hint < m.index then m.hint + 1 else max m.index 1 := by rw [hx0, if_neg (decide_f h39)]
      have hxr : rng .u64 x := by rw [hx0, Int.max_def]; simp only [rng]; split <;> omega
      refine CW.skip ?_
      refine CW.seq (CW.plain ?_)
      refine RL.pp ?_
      refine RL.pp ?_
      refine RL.fi fl136_2 ?_
      refine RL.load (j := 2) rfl rfl rfl rfl ty22 rfl (nd.peerHolds hk hpp) (hg18.mem (by simp)) rfl ?_
      refine RL.as_ rfl rfl rfl rfl (u64 (up1 n.s.peers[k].mat)) (rfl) ?_
      refine RL.max rfl rfl rfl rfl rfl rfl ?_
      rw [max_if, ← hx0]
      refine RL.pu ?_
      refine RL.fi fl136_1 ?_
      have hur := up1_rng n.s.peers[k].mat
      have hmr : rng .u64 (max x (up1 n.s.peers[k].mat)) := by rw [Int.max_def]; split <;> assumption
      obtain ⟨q', hq'⟩ : ∃ q' : Peer, q' = { n.s.peers[k] with next := max x (up1 n.s.peers[k].mat) } := ⟨_, rfl⟩
      refine RL.storePeer (k := k) (j := 1) (i := 0) q' rfl rfl rfl ty22 hk hpp rfl rfl hg18 rfl nd (by omega) (by rw [hq']; rfl) (by rw [hq']; exact ⟨hqr.1, hmr, hqr.2.2⟩) ?_
      intro wS AS hgS haxS (ndS : Nd _ AS p _ (n.raise k q'))
      refine ⟨trivial, ?_⟩
      refine RL.done ?_
      refine CW.seq (CW.plain ?_)
      refine RL.pp ?_
      refine RL.pu ?_
      have hk2 : k < (n.raise k q').s.peers.length := by simp only [Node.raise, Node.wPeers, List.length_set]; exact hk
      have hget : (n.raise k q').s.peers[k] = q' := List.getElem_set_self ..
      have hH := ndS.peerHolds hk2 hpp
      rw [show (n.raise k q').s.peers[k] = q' from hget] at hH
      refine RL.loads (ad := (⟨g, 0, none⟩ : Addr).add (k * 3)) (j := 0) rfl rfl rfl rfl ty136 rfl hH (hgS.mem (by simp)) rfl rfl ?_
      refine RL.call rfl rfl rfl rfl rfl ca103 (feed_ct (q := q') hgS ndS hR hS (by rw [hq']; exact hqr.1) (by rw [hq']; exact hmr) (by show n.o.msgs.length ≤ _; omega)) ?_
      rintro v20 s20 A20 w20 hle20 (hg20 : Good _ s20 (A20 :: Q15 :: os)) hax20 ⟨rfl, ma20, mc20, nd20⟩
      have hm := hm.up hle20
      refine ⟨trivial, ?_⟩
      refine RL.done ?_
      refine CW.ret (ret (vs := []) rfl ?_)
      exact Post.mk hle20 (hg20.dropNext) (hax15.trans (hax16.trans ((Aux.drew _).trans (hax18.trans (haxS.trans hax20))))) ⟨rfl, _, nd20.to (by rw [hq']; exact (grown_rej hr4 hpr hil h31 hix x hx).symm)⟩
    ·
     obtain ⟨q1, hq1⟩ : ∃ q1 : Peer, q1 = { n.s.peers[k] with mat := max n.s.peers[k].mat m.index } := ⟨_, rfl⟩
     have hk1 : k < (n.raise k q1).s.peers.length := by simp only [Node.raise, Node.wPeers, List.length_set]; exact hk
     have hget1 : (n.raise k q1).s.peers[k] = q1 := List.getElem_set_self ..
     have hm1r : rng .u64 q1.mat := by rw [hq1]; show rng .u64 (max n.s.peers[k].mat m.index); rw [Int.max_def]; split; exact hm.index; exact hqr.2.2
     have hq1n : q1.node = n.s.peers[k].node := by rw [hq1]
     have hq1x : q1.next = n.s.peers[k].next := by rw [hq1]
     have hq1m : q1.mat = max n.s.peers[k].mat m.index := by rw [hq1]
     refine CW.skip ?_
     refine CW.seq ?_
     have hg21 := hg18.drew
     refine CW.draws2 [(true, 0), (true, 1), (true, 2), (true, 3), (true, 4), (true, 5), (true, 6), (true, 7), (true, 8), (true, 9)] [(false, 10)] 10 #[true, true, true, true, true, true, true, true, true, true, false] (fun w => At1 b15 _ w ∧ In A w ∧ True) mixed (by kernel_rfl) (by kernel_rfl) (by kernel_rfl) (by kernel_rfl) (by kernel_rfl) (⟨hg21.at1 (by simp) hb15, hg21.mem (by simp), trivial⟩) ?_
     refine RL.pp ?_
     refine RL.pu ?_
     refine RL.fi fl136_2 ?_
     refine RL.loadT (j := 2) rfl rfl rfl rfl ty22 rfl (nd.peerHolds hk hpp) (fun w h => h.2.1) rfl ?_
     refine RL.fi fl56_4 ?_
     refine RL.loadT (ad := ⟨b15, 0, none⟩) (j := 4) rfl rfl rfl rfl ty22 rfl (At1.holds) (fun w h => h.1.inn) rfl ?_
     refine RL.max rfl rfl rfl rfl rfl rfl ?_
     rw [max_if, ← hq1m]
     refine RL.pu ?_
     refine RL.fi fl136_2 ?_
     refine RL.done ?_
     refine RL.next trivial ?_
     refine RL.storePeer (k := k) (j := 2) (i := 0) q1 rfl rfl rfl ty22 hk hpp rfl rfl hg21 rfl nd (by omega) (by rw [hq1]; rfl) ⟨by rw [hq1n]; exact hqr.1, by rw [hq1x]; exact hqr.2.1, hm1r⟩ ?_
     intro wT AT hgT haxT (ndT : Nd _ AT p _ (n.raise k q1))
     refine ⟨trivial, ?_⟩
     refine RL.done ?_
     refine CW.seq ?_
     have hg22 := hgT.drew
     refine CW.draws2 [(true, 0), (true, 1), (true, 2), (true, 3), (true, 4), (true, 5), (true, 6), (true, 7), (true, 8), (true, 9), (true, 10), (true, 11), (true, 12)] [(false, 13)] 13 #[true, true, true, true, true, true, true, true, true, true, true, true, true, false] (fun w => In AT w ∧ True) mixed (by kernel_rfl) (by kernel_rfl) (by kernel_rfl) (by kernel_rfl) (by kernel_rfl) (⟨hg22.mem (by simp), trivial⟩) ?_
     have hH1 := ndT.peerHolds hk1 hpp
     rw [show (n.raise k q1).s.peers[k] = q1 from hget1] at hH1
     refine RL.pp ?_
     refine RL.pu ?_
     refine RL.fi fl136_1 ?_
     refine RL.loadT (j := 1) rfl rfl rfl rfl ty22 rfl (hH1) (fun w h => h.1) rfl ?_
     refine RL.pp ?_
     refine RL.fi fl136_2 ?_
     refine RL.loadT (j := 2) rfl rfl rfl rfl ty22 rfl (hH1) (fun w h => h.1) rfl ?_
     refine RL.as_ rfl rfl rfl rfl (u64 (up1 q1.mat)) (rfl) ?_
     refine RL.max rfl rfl rfl rfl rfl rfl ?_
     rw [max_if]
     refine RL.pu ?_
     refine RL.fi fl136_1 ?_
     refine RL.done ?_
     refine RL.next trivial ?_
     have hur := up1_rng q1.mat
     have hmr : rng .u64 (max q1.next (up1 q1.mat)) := by rw [Int.max_def]; split; assumption; rw [hq1x]; exact hqr.2.1
     have hq2 : n.s.peers[k].up m.index = { q1 with next := max q1.next (up1 q1.mat) } := by rw [hq1]; rfl
     refine RL.storePeer (k := k) (j := 1) (i := 0) (n.s.peers[k].up m.index) rfl rfl rfl ty22 hk1 hpp rfl rfl hg22 rfl ndT (by omega) (by rw [hget1, hq2]; rfl) (by rw [hq2]; exact ⟨by rw [hq1n]; exact hqr.1, hmr, hm1r⟩) ?_
     intro wU AU hgU haxU ndU0
     refine ⟨trivial, ?_⟩
     obtain ⟨u, hu⟩ : ∃ u, u = n.raise k (n.s.peers[k].up m.index) := ⟨_, rfl⟩
     have ndU : Nd _ AU p _ u := ndU0.to (by rw [hu]; simp only [Node.raise, Node.wPeers, List.set_set])
     have hku : k < u.s.peers.length := by rw [hu]; simp only [Node.raise, Node.wPeers, List.length_set]; exact hk
     have hgu : u.s.peers[k] = n.s.peers[k].up m.index := by simp only [hu]; exact List.getElem_set_self ..
     have hH2 := ndU.peerHolds hku hpp
     rw [hgu] at hH2
     have hRu : NRng u := by rw [hu]; exact hR
     have hSu : u.s.log.small := by rw [hu]; exact hS
     have hcs := confP_small hSu
     have hpu : u.s.peers.length ≤ 4294967296 := by rw [hu]; simp only [Node.raise, Node.wPeers, List.length_set]; exact h2
     have hmu : u.o.msgs.length ≤ 34359738368 := by rw [hu]; exact h3
     have hgy := grown_yes hr4 hpr hil (show ¬ m.reject = true by rw [h31]; decide) hix
     rw [← hu] at hgy
     have hur2 := ndU.peers_rng _ (List.getElem_mem hku)
     rw [hgu] at hur2
     refine RL.done ?_
     refine CW.seq ?_
     have hg23 := hgU.drew
     refine CW.draws [(true, 0), (true, 1), (true, 2), (true, 3), (true, 4), (true, 5), (true, 6), (true, 7), (true, 8), (true, 9), (true, 10), (true, 11), (true, 12), (true, 13), (false, 14), (false, 15), (false, 16), (false, 17)] (fun w => At1 p _ w ∧ In AU w ∧ True) mixed (by kernel_rfl) (by kernel_rfl) (by kernel_rfl) (by kernel_rfl) (⟨hg23.at1 (by simp) ndU.cells, hg23.mem (by simp), trivial⟩) ?_
     refine RL.pp ?_
     refine RL.fi fl109_0 ?_
     refine RL.fi fl44_1 ?_
     refine RL.fi fl24_2 ?_
     refine RL.loadT (ad := ⟨p, 0, none⟩) (j := 3) rfl rfl rfl rfl ty22 rfl (At1.holds) (fun w h => h.1.inn) rfl ?_
     refine RL.pp ?_
     refine RL.fi fl109_0 ?_
     refine RL.fi fl44_9 ?_
     refine RL.loadT (ad := ⟨p, 0, none⟩) (j := 16) rfl rfl rfl rfl ty3 rfl (At1.holds) (fun w h => h.1.inn) rfl ?_
     refine RL.pp ?_
     refine RL.loadsT (ad := (⟨g, 0, none⟩ : Addr).add (k * 3)) (j := 0) rfl rfl rfl rfl ty136 rfl hH2 (fun w h => h.2.1) rfl rfl ?_
     refine RL.allocN rfl rfl rfl rfl ze136 hg23 ?_
     rintro b24 w24 Q24 (hg24 : Good _ s (Q24 :: AU :: Q15 :: os)) hax24 hb24
     refine ⟨⟨hg24.at1 (by simp) ndU.cells, hg24.mem (by simp), trivial⟩, ?_⟩
     refine RL.pp ?_
     refine RL.sB (b := b24) (i := 0) (j := 0) rfl rfl rfl ty136 rfl rfl hg24 rfl (hb24) rfl rfl ?_
     rintro w25 Q25 (hg25 : Good _ s (Q25 :: AU :: Q15 :: os)) hax25 hb25
     refine ⟨⟨hg25.at1 (by simp) ndU.cells, hg25.mem (by simp), trivial⟩, ?_⟩
     refine RL.done ?_
     refine CW.seq (CW.plain ?_)
     refine RL.pu ?_
     have hRc := (ndU).count_rng hRu
     have hSc : u.count.s.log.small := by rw [count_log]; exact hSu
     have hpc : u.count.s.peers.length ≤ 4294967296 := by rcases count_peers u with h | h <;> rw [h]; exact hpu; simp
     have hmc : u.count.o.msgs.length ≤ 34359738368 := by rw [count_msgs]; exact hmu
     refine RL.call rfl rfl rfl rfl rfl ca118 (ncount_ct (hg25.front 1 rfl) ndU hRu hSu hcs.1 hpu) ?_
     rintro v26 s26 A26 w26 hle26 (hg26 : Good _ s26 (A26 :: Q25 :: Q15 :: os)) hax26 ⟨rfl, h26, nd26⟩
     have hm := hm.up hle26
     refine ⟨trivial, ?_⟩
     refine RL.done ?_
     refine CW.seq ?_
     refine CW.block ?_
     refine CW.seq (CW.plain ?_)
     refine RL.pp ?_
     refine RL.fi fl109_0 ?_
     refine RL.fi fl44_3 ?_
     refine RL.lo 10 ty38 nd26.cells hg26 ?_
     refine RL.pu ?_
     refine RL.pd ?_
     refine CW.cond rfl (fun h97 => ?_) (fun h97 => ?_)
     ·
      refine CW.ret (ret (vs := []) rfl ?_)
      exact Post.mk hle26 ((hg26.dropNext).dropNext) (hax15.trans (hax16.trans ((Aux.drew _).trans (hax18.trans ((Aux.drew _).trans (haxT.trans ((Aux.drew _).trans (haxU.trans ((Aux.drew _).trans (hax24.trans (hax25.trans hax26))))))))))) ⟨rfl, _, nd26.to (hgy.trans (if_pos (by simpa using h97))).symm⟩
     ·
      have hgy := hgy.trans (if_neg (show ¬ u.count.s.role ≠ 4 by simpa using h97))
      refine CW.seq (CW.plain ?_)
      refine RL.pp ?_
      refine RL.fi fl109_0 ?_
      refine RL.fi fl44_1 ?_
      refine RL.fi fl24_2 ?_
      refine RL.lo 3 ty22 nd26.cells hg26 ?_
      refine RL.pp ?_
      refine RL.pd ?_
      refine CW.cond rfl (fun h104 => ?_) (fun h104 => ?_)
      ·
       obtain ⟨c, hc⟩ : ∃ c, c = u.count.spread := ⟨_, rfl⟩
       have hcc : (if u.s.hard.commit < u.count.s.hard.commit then u.count.spread else if (n.s.peers[k].up m.index).next ≤ u.count.last then u.count.feed (n.s.peers[k].up m.index) else u.count) = c := by rw [hc]; exact if_pos (decide_t h104)
       have hcs2 : c.s = u.count.s := by rw [hc]; exact spread_s
       have hcl : c.o.msgs.length ≤ 68719476736 := by have := Node.feeds_len u.count.s.peers u.count; rw [hc]; show (u.count.feeds u.count.s.peers).o.msgs.length ≤ _; omega
       refine CW.plain ?_
       refine RL.pu ?_
       refine RL.call rfl rfl rfl rfl rfl ca69 (spread_ct hg26 nd26 hRc hSc (by omega)) ?_
       rintro v27 s27 A27 w27 hle27 (hg27 : Good _ s27 (A27 :: Q25 :: Q15 :: os)) hax27 ⟨rfl, ma27, mc27, nd27⟩
       have hm := hm.up hle27
       refine ⟨trivial, ?_⟩
       refine RL.done ?_
       refine CW.seq ?_
       have hg28 := hg27.drew
       refine CW.draws [(true, 0), (true, 1), (true, 2), (true, 3), (true, 4), (true, 5), (true, 6), (true, 7), (false, 8), (true, 9), (true, 10)] (fun w => At1 b15 _ w ∧ At1 b24 _ w ∧ True) mixed (by kernel_rfl) (by kernel_rfl) (by kernel_rfl) (by kernel_rfl) (⟨hg28.at1 (by simp) hb15, hg28.at1 (by simp) hb25, trivial⟩) ?_
       have ndC : Nd _ A27 p _ c := nd27.to hc.symm
       have hRcc : NRng c := hRc.of_s hcs2
       have haf : Node.after u u.count (n.s.peers[k].up m.index) m.frm = if u.s.transfer = m.frm ∧ (n.s.peers[k].up m.index).mat = c.last then c.post { Msg.zero with kind := 9, to := m.frm } else c := by unfold Node.after; simp only [hcc]
       refine RL.pu ?_
       refine RL.fi fl56_1 ?_
       refine RL.loadT (ad := ⟨b15, 0, none⟩) (j := 1) rfl rfl rfl rfl ty3 rfl (At1.holds) (fun w h => h.1.inn) rfl ?_
       refine RL.pp ?_
       refine RL.part 128 rfl (fun h128 => ?_) (fun h128 => ?_)
       ·
        refine RL.fi fl136_2 ?_
        refine RL.loadT (ad := ⟨b24, 0, none⟩) (j := 2) rfl rfl rfl rfl ty22 rfl (At1.holds) (fun w h => h.2.1.inn) rfl ?_
        refine RL.pu ?_
        refine RL.callV rfl rfl rfl rfl rfl ca77 (last_ct hg28 ndC hRcc) ?_
        rintro v29 w29 (hg29 : Good _ s27 (A27 :: Q25 :: Q15 :: os)) hax29 rfl
        refine ⟨⟨hg29.at1 (by simp) hb15, hg29.at1 (by simp) hb25, trivial⟩, ?_⟩
        refine RL.pu ?_
        refine RL.pd ?_
        refine CW.cond rfl (fun h134 => ?_) (fun h134 => ?_)
        ·
         refine CW.plain ?_
         refine RL.pu ?_
         refine RL.fi fl56_1 ?_
         refine RL.lo 1 ty3 hb15 hg29 ?_
         refine RL.build rfl rfl rfl rfl ze56 pl56 rfl rfl ?_
         refine RL.call rfl rfl rfl rfl rfl ca113 (post_ct (m := { Msg.zero with kind := 9, to := m.frm }) (y := Lay.none) hg29 ndC hRcc { MsgOk.zero _ with kind := by simp [rng], to := hm.frm } hcl) ?_
         rintro v30 s30 A30 w30 hle30 (hg30 : Good _ s30 (A30 :: Q25 :: Q15 :: os)) hax30 ⟨rfl, ma30, mc30, nd30⟩
         have hm := hm.up hle30
         refine ⟨trivial, ?_⟩
         refine RL.done ?_
         refine fall (vs := []) rfl ?_
         exact Post.mk (hle26.trans (hle27.trans hle30)) ((hg30.dropNext).dropNext) (hax15.trans (hax16.trans ((Aux.drew _).trans (hax18.trans ((Aux.drew _).trans (haxT.trans ((Aux.drew _).trans (haxU.trans ((Aux.drew _).trans (hax24.trans (hax25.trans (hax26.trans (hax27.trans ((Aux.drew _).trans (hax29.trans hax30))))))))))))))) ⟨rfl, _, nd30.to (hgy.trans (haf.trans (if_pos ⟨by simpa using h128, by simpa using h134⟩))).symm⟩
        ·
         refine CW.skip ?_
         refine fall (vs := []) rfl ?_
         exact Post.mk (hle26.trans hle27) ((hg29.dropNext).dropNext) (hax15.trans (hax16.trans ((Aux.drew _).trans (hax18.trans ((Aux.drew _).trans (haxT.trans ((Aux.drew _).trans (haxU.trans ((Aux.drew _).trans (hax24.trans (hax25.trans (hax26.trans (hax27.trans ((Aux.drew _).trans hax29)))))))))))))) ⟨rfl, _, ndC.to (hgy.trans (haf.trans (if_neg (fun z => by simp [z.2] at h134)))).symm⟩
       ·
        refine RL.qq ?_
        refine RL.qq ?_
        refine RL.pa ?_
        refine RL.pd ?_
        refine CW.no (by first | rfl | exact congrArg (fun b => some (Value.bool b)) (by assumption)) ?_
        refine CW.skip ?_
        refine fall (vs := []) rfl ?_
        exact Post.mk (hle26.trans hle27) ((hg28.dropNext).dropNext) (hax15.trans (hax16.trans ((Aux.drew _).trans (hax18.trans ((Aux.drew _).trans (haxT.trans ((Aux.drew _).trans (haxU.trans ((Aux.drew _).trans (hax24.trans (hax25.trans (hax26.trans (hax27.trans (Aux.drew _)))))))))))))) ⟨rfl, _, ndC.to (hgy.trans (haf.trans (if_neg (fun z => by simp [z.1] at h128)))).symm⟩
      ·
       refine CW.seq ?_
       have hg31 := hg26.drew
       refine CW.draws [(true, 0), (true, 1), (true, 2), (false, 3), (true, 4), (false, 5)] (fun w => At1 b24 _ w ∧ True) mixed (by kernel_rfl) (by kernel_rfl) (by kernel_rfl) (by kernel_rfl) (⟨hg31.at1 (by simp) hb25, trivial⟩) ?_
       refine RL.fi fl136_1 ?_
       refine RL.loadT (ad := ⟨b24, 0, none⟩) (j := 1) rfl rfl rfl rfl ty22 rfl (At1.holds) (fun w h => h.1.inn) rfl ?_
       refine RL.pu ?_
       refine RL.callV rfl rfl rfl rfl rfl ca77 (last_ct hg31 nd26 hRc) ?_
       rintro v32 w32 (hg32 : Good _ s26 (A26 :: Q25 :: Q15 :: os)) hax32 rfl
       refine ⟨⟨hg32.at1 (by simp) hb25, trivial⟩, ?_⟩
       refine RL.pu ?_
       refine RL.pd ?_
       refine CW.cond rfl (fun h115 => ?_) (fun h115 => ?_)
       ·
        obtain ⟨c, hc⟩ : ∃ c, c = u.count.feed (n.s.peers[k].up m.index) := ⟨_, rfl⟩
        have hcc : (if u.s.hard.commit < u.count.s.hard.commit then u.count.spread else if (n.s.peers[k].up m.index).next ≤ u.count.last then u.count.feed (n.s.peers[k].up m.index) else u.count) = c := by rw [hc]; exact (if_neg (decide_f h104)).trans (if_pos (decide_t h115))
        have hcs2 : c.s = u.count.s := by rw [hc]; exact Node.feed_s _ _
        have hcl : c.o.msgs.length ≤ 68719476736 := by have := Node.feed_len u.count (n.s.peers[k].up m.index); rw [hc]; omega
        refine CW.plain ?_
        refine RL.pu ?_
        refine RL.ls 0 ty136 hb25 hg32 ?_
        refine RL.call rfl rfl rfl rfl rfl ca103 (feed_ct (q := n.s.peers[k].up m.index) hg32 nd26 hRc hSc hur2.1 hur2.2.1 (by omega)) ?_
        rintro v33 s33 A33 w33 hle33 (hg33 : Good _ s33 (A33 :: Q25 :: Q15 :: os)) hax33 ⟨rfl, ma33, mc33, nd33⟩
        have hm := hm.up hle33
        refine ⟨trivial, ?_⟩
        refine RL.done ?_
        refine CW.seq ?_
        have hg34 := hg33.drew
        refine CW.draws [(true, 0), (true, 1), (true, 2), (true, 3), (true, 4), (true, 5), (true, 6), (true, 7), (false, 8), (true, 9), (true, 10)] (fun w => At1 b15 _ w ∧ At1 b24 _ w ∧ True) mixed (by kernel_rfl) (by kernel_rfl) (by kernel_rfl) (by kernel_rfl) (⟨hg34.at1 (by simp) hb15, hg34.at1 (by simp) hb25, trivial⟩) ?_
        have ndC : Nd _ A33 p _ c := nd33.to hc.symm
        have hRcc : NRng c := hRc.of_s hcs2
        have haf : Node.after u u.count (n.s.peers[k].up m.index) m.frm = if u.s.transfer = m.frm ∧ (n.s.peers[k].up m.index).mat = c.last then c.post { Msg.zero with kind := 9, to := m.frm } else c := by unfold Node.after; simp only [hcc]
        refine RL.pu ?_
        refine RL.fi fl56_1 ?_
        refine RL.loadT (ad := ⟨b15, 0, none⟩) (j := 1) rfl rfl rfl rfl ty3 rfl (At1.holds) (fun w h => h.1.inn) rfl ?_
        refine RL.pp ?_
        refine RL.part 128 rfl (fun h128 => ?_) (fun h128 => ?_)
        ·
         refine RL.fi fl136_2 ?_
         refine RL.loadT (ad := ⟨b24, 0, none⟩) (j := 2) rfl rfl rfl rfl ty22 rfl (At1.holds) (fun w h => h.2.1.inn) rfl ?_
         refine RL.pu ?_
         refine RL.callV rfl rfl rfl rfl rfl ca77 (last_ct hg34 ndC hRcc) ?_
         rintro v35 w35 (hg35 : Good _ s33 (A33 :: Q25 :: Q15 :: os)) hax35 rfl
         refine ⟨⟨hg35.at1 (by simp) hb15, hg35.at1 (by simp) hb25, trivial⟩, ?_⟩
         refine RL.pu ?_
         refine RL.pd ?_
         refine CW.cond rfl (fun h134 => ?_) (fun h134 => ?_)
         ·
          refine CW.plain ?_
          refine RL.pu ?_
          refine RL.fi fl56_1 ?_
          refine RL.lo 1 ty3 hb15 hg35 ?_
          refine RL.build rfl rfl rfl rfl ze56 pl56 rfl rfl ?_
          refine RL.call rfl rfl rfl rfl rfl ca113 (post_ct (m := { Msg.zero with kind := 9, to := m.frm }) (y := Lay.none) hg35 ndC hRcc { MsgOk.zero _ with kind := by simp [rng], to := hm.frm } hcl) ?_
          rintro v36 s36 A36 w36 hle36 (hg36 : Good _ s36 (A36 :: Q25 :: Q15 :: os)) hax36 ⟨rfl, ma36, mc36, nd36⟩
          have hm := hm.up hle36
          refine ⟨trivial, ?_⟩
          refine RL.done ?_
          refine fall (vs := []) rfl ?_
          exact Post.mk (hle26.trans (hle33.trans hle36)) ((hg36.dropNext).dropNext) (hax15.trans (hax16.trans ((Aux.drew _).trans (hax18.trans ((Aux.drew _).trans (haxT.trans ((Aux.drew _).trans (haxU.trans ((Aux.drew _).trans (hax24.trans (hax25.trans (hax26.trans ((Aux.drew _).trans (hax32.trans (hax33.trans ((Aux.drew _).trans (hax35.trans hax36))))))))))))))))) ⟨rfl, _, nd36.to (hgy.trans (haf.trans (if_pos ⟨by simpa using h128, by simpa using h134⟩))).symm⟩
         ·
          refine CW.skip ?_
          refine fall (vs := []) rfl ?_
          exact Post.mk (hle26.trans hle33) ((hg35.dropNext).dropNext) (hax15.trans (hax16.trans ((Aux.drew _).trans (hax18.trans ((Aux.drew _).trans (haxT.trans ((Aux.drew _).trans (haxU.trans ((Aux.drew _).trans (hax24.trans (hax25.trans (hax26.trans ((Aux.drew _).trans (hax32.trans (hax33.trans ((Aux.drew _).trans hax35)))))))))))))))) ⟨rfl, _, ndC.to (hgy.trans (haf.trans (if_neg (fun z => by simp [z.2] at h134)))).symm⟩
        ·
         refine RL.qq ?_
         refine RL.qq ?_
         refine RL.pa ?_
         refine RL.pd ?_
         refine CW.no (by first | rfl | exact congrArg (fun b => some (Value.bool b)) (by assumption)) ?_
         refine CW.skip ?_
         refine fall (vs := []) rfl ?_
         exact Post.mk (hle26.trans hle33) ((hg34.dropNext).dropNext) (hax15.trans (hax16.trans ((Aux.drew _).trans (hax18.trans ((Aux.drew _).trans (haxT.trans ((Aux.drew _).trans (haxU.trans ((Aux.drew _).trans (hax24.trans (hax25.trans (hax26.trans ((Aux.drew _).trans (hax32.trans (hax33.trans (Aux.drew _)))))))))))))))) ⟨rfl, _, ndC.to (hgy.trans (haf.trans (if_neg (fun z => by simp [z.1] at h128)))).symm⟩
       ·
        obtain ⟨c, hc⟩ : ∃ c, c = u.count := ⟨_, rfl⟩
        have hcc : (if u.s.hard.commit < u.count.s.hard.commit then u.count.spread else if (n.s.peers[k].up m.index).next ≤ u.count.last then u.count.feed (n.s.peers[k].up m.index) else u.count) = c := by rw [hc]; exact (if_neg (decide_f h104)).trans (if_neg (decide_f h115))
        have hcs2 : c.s = u.count.s := by rw [hc]
        have hcl : c.o.msgs.length ≤ 68719476736 := by rw [hc]; omega
        refine CW.skip ?_
        refine CW.seq ?_
        have hg37 := hg32.drew
        refine CW.draws [(true, 0), (true, 1), (true, 2), (true, 3), (true, 4), (true, 5), (true, 6), (true, 7), (false, 8), (true, 9), (true, 10)] (fun w => At1 b15 _ w ∧ At1 b24 _ w ∧ True) mixed (by kernel_rfl) (by kernel_rfl) (by kernel_rfl) (by kernel_rfl) (⟨hg37.at1 (by simp) hb15, hg37.at1 (by simp) hb25, trivial⟩) ?_
        have ndC : Nd _ A26 p _ c := nd26.to hc.symm
        have hRcc : NRng c := hRc.of_s hcs2
        have haf : Node.after u u.count (n.s.peers[k].up m.index) m.frm = if u.s.transfer = m.frm ∧ (n.s.peers[k].up m.index).mat = c.last then c.post { Msg.zero with kind := 9, to := m.frm } else c := by unfold Node.after; simp only [hcc]
        refine RL.pu ?_
        refine RL.fi fl56_1 ?_
        refine RL.loadT (ad := ⟨b15, 0, none⟩) (j := 1) rfl rfl rfl rfl ty3 rfl (At1.holds) (fun w h => h.1.inn) rfl ?_
        refine RL.pp ?_
        refine RL.part 128 rfl (fun h128 => ?_) (fun h128 => ?_)
        ·
         refine RL.fi fl136_2 ?_
         refine RL.loadT (ad := ⟨b24, 0, none⟩) (j := 2) rfl rfl rfl rfl ty22 rfl (At1.holds) (fun w h => h.2.1.inn) rfl ?_
         refine RL.pu ?_
         refine RL.callV rfl rfl rfl rfl rfl ca77 (last_ct hg37 ndC hRcc) ?_
         rintro v38 w38 (hg38 : Good _ s26 (A26 :: Q25 :: Q15 :: os)) hax38 rfl
         refine ⟨⟨hg38.at1 (by simp) hb15, hg38.at1 (by simp) hb25, trivial⟩, ?_⟩
         refine RL.pu ?_
         refine RL.pd ?_
         refine CW.cond rfl (fun h134 => ?_) (fun h134 => ?_)
         ·
          refine CW.plain ?_
          refine RL.pu ?_
          refine RL.fi fl56_1 ?_
          refine RL.lo 1 ty3 hb15 hg38 ?_
          refine RL.build rfl rfl rfl rfl ze56 pl56 rfl rfl ?_
          refine RL.call rfl rfl rfl rfl rfl ca113 (post_ct (m := { Msg.zero with kind := 9, to := m.frm }) (y := Lay.none) hg38 ndC hRcc { MsgOk.zero _ with kind := by simp [rng], to := hm.frm } hcl) ?_
          rintro v39 s39 A39 w39 hle39 (hg39 : Good _ s39 (A39 :: Q25 :: Q15 :: os)) hax39 ⟨rfl, ma39, mc39, nd39⟩
          have hm := hm.up hle39
          refine ⟨trivial, ?_⟩
          refine RL.done ?_
          refine fall (vs := []) rfl ?_
          exact Post.mk (hle26.trans hle39) ((hg39.dropNext).dropNext) (hax15.trans (hax16.trans ((Aux.drew _).trans (hax18.trans ((Aux.drew _).trans (haxT.trans ((Aux.drew _).trans (haxU.trans ((Aux.drew _).trans (hax24.trans (hax25.trans (hax26.trans ((Aux.drew _).trans (hax32.trans ((Aux.drew _).trans (hax38.trans hax39)))))))))))))))) ⟨rfl, _, nd39.to (hgy.trans (haf.trans (if_pos ⟨by simpa using h128, by simpa using h134⟩))).symm⟩
         ·
          refine CW.skip ?_
          refine fall (vs := []) rfl ?_
          exact Post.mk hle26 ((hg38.dropNext).dropNext) (hax15.trans (hax16.trans ((Aux.drew _).trans (hax18.trans ((Aux.drew _).trans (haxT.trans ((Aux.drew _).trans (haxU.trans ((Aux.drew _).trans (hax24.trans (hax25.trans (hax26.trans ((Aux.drew _).trans (hax32.trans ((Aux.drew _).trans hax38))))))))))))))) ⟨rfl, _, ndC.to (hgy.trans (haf.trans (if_neg (fun z => by simp [z.2] at h134)))).symm⟩
        ·
         refine RL.qq ?_
         refine RL.qq ?_
         refine RL.pa ?_
         refine RL.pd ?_
         refine CW.no (by first | rfl | exact congrArg (fun b => some (Value.bool b)) (by assumption)) ?_
         refine CW.skip ?_
         refine fall (vs := []) rfl ?_
         exact Post.mk hle26 ((hg37.dropNext).dropNext) (hax15.trans (hax16.trans ((Aux.drew _).trans (hax18.trans ((Aux.drew _).trans (haxT.trans ((Aux.drew _).trans (haxU.trans ((Aux.drew _).trans (hax24.trans (hax25.trans (hax26.trans ((Aux.drew _).trans (hax32.trans (Aux.drew _))))))))))))))) ⟨rfl, _, ndC.to (hgy.trans (haf.trans (if_neg (fun z => by simp [z.1] at h128)))).symm⟩
end
end Go.Lw

/-
 A node by the program: changed, asked.
-/
namespace Go.Lw
open Go.Proofs
attribute [local irreducible] RL RA
section
variable {w : World} {s A : Res} {os : List Res} {p : Nat} {h : Hd} {n : Node}
theorem changed_busy {k x : Int} (h0 : n.s.hard.commit < (confP n.s.log).2) : n.changed k x = ((confP n.s.log).1, 102) := by unfold Node.changed; rw [if_pos h0]
theorem changed_early {k x : Int} (h0 : ¬ n.s.hard.commit < (confP n.s.log).2) (h1 : (termP n.s.log n.s.hard.commit).1 ≠ n.s.hard.term) : n.changed k x = ((confP n.s.log).1, 104) := by unfold Node.changed; rw [if_neg h0, if_pos h1]
theorem changed_behind {k x : Int} (h0 : ¬ n.s.hard.commit < (confP n.s.log).2) (h1 : ¬ (termP n.s.log n.s.hard.commit).1 ≠ n.s.hard.term) (h2 : (applyP (confP n.s.log).1 k x).2 = 0 ∧ k = 2 ∧ (∀ p, n.peer x = some p → p.mat < n.s.hard.commit)) : n.changed k x = ((confP n.s.log).1, 103) := by
 unfold Node.changed; rw [if_neg h0, if_neg h1, if_pos h2]
theorem changed_to {k x : Int} (h0 : ¬ n.s.hard.commit < (confP n.s.log).2) (h1 : ¬ (termP n.s.log n.s.hard.commit).1 ≠ n.s.hard.term) (h2 : ¬ ((applyP (confP n.s.log).1 k x).2 = 0 ∧ k = 2 ∧ (∀ p, n.peer x = some p → p.mat < n.s.hard.commit))) : n.changed k x = applyP (confP n.s.log).1 k x := by
 unfold Node.changed; rw [if_neg h0, if_neg h1, if_neg h2]
set_option maxRecDepth 100000 in
set_option maxHeartbeats 1000000 in
theorem changed_ct {k x : Int} (hg : Good w s (A :: os)) (nd : Nd s A p h n) (hR : NRng n) (hr : n.roomy) (hk : rng .i64 k) (hx : rng .i64 x) :
  Calls Tryz.prog 76 #[ptr p, .agg #[i64 k, i64 x]] w (Post w s (A :: os) fun s' _ q => ∃ vs, q = .tuple #[.agg vs.toArray, i64 (n.changed k x).2] ∧ RConf s' vs (n.changed k x).1) := by
 obtain ⟨hS, h1, h2, h3, h4⟩ := hr
 have hcs := confP_small hS
 refine enter (l := [ptr p, .agg #[i64 k, i64 x]]) Tryz.func76 rfl Tryz.ntmps76 rfl ?_
 refine CW.seq (CW.plain ?_)
 refine RL.boxN rfl rfl rfl rfl rfl hg ?_
 rintro b1 w1 Q1 (hg1 : Good _ s (Q1 :: A :: os)) hax1 hb1
 refine ⟨trivial, ?_⟩
 refine RL.allocN rfl rfl rfl rfl ze27 hg1 ?_
 rintro b2 w2 Q2 (hg2 : Good _ s (Q2 :: Q1 :: A :: os)) hax2 hb2
 refine ⟨trivial, ?_⟩
 refine RL.pd ?_
 refine CW.seq (CW.plain ?_)
 refine RL.pp ?_
 refine RL.fi fl109_0 ?_
 refine RL.fi fl44_2 ?_
 refine RL.ls 4 ty33 nd.cells hg2 ?_
 refine RL.call rfl rfl rfl rfl rfl ca30 (Conf_ct hg2 (.inr (by simp)) (nd.at_ hR) hS) ?_
 rintro v3 s3 B3 w3 hle3 (hg3 : Good _ s3 (B3 :: Q2 :: Q1 :: A :: os)) hax3 ⟨vs19, rfl, hC⟩
 have hg3 := hg3.drop
 have nd4 := nd.up hle3
 have hC0 := hC
 obtain ⟨va, vc, la, lc, rfl, hva, hla⟩ := hC
 have nc := nd4
 refine ⟨trivial, ?_⟩
 refine RL.pp ?_
 refine RL.pu ?_
 refine RL.allocN rfl rfl rfl rfl ze27 hg3 ?_
 rintro b5 w5 Q5 (hg5 : Good _ s3 (Q5 :: Q2 :: Q1 :: A :: os)) hax5 hb5
 refine ⟨trivial, ?_⟩
 refine RL.sB (b := b5) (i := 0) (j := 0) rfl rfl rfl ty27 rfl rfl hg5 rfl (hb5) rfl rfl ?_
 rintro w6 Q6 (hg6 : Good _ s3 (Q6 :: Q2 :: Q1 :: A :: os)) hax6 hb6
 refine ⟨trivial, ?_⟩
 refine RL.pd ?_
 refine CW.seq ?_
 refine CW.seq (CW.plain ?_)
 refine RL.pp ?_
 refine RL.pu ?_
 refine RL.fi fl109_0 ?_
 refine RL.fi fl44_1 ?_
 refine RL.fi fl24_2 ?_
 refine RL.lo 3 ty22 nd4.cells hg6 ?_
 refine RL.pd ?_
 refine CW.cond rfl (fun h29 => ?_) (fun h29 => ?_)
 ·
  refine CW.seq (CW.plain ?_)
  refine RL.ls 0 ty27 hb6 hg6 ?_
  refine RL.sB (b := b2) (i := 1) (j := 0) rfl rfl rfl ty27 rfl rfl hg6 rfl (hb2) rfl rfl ?_
  rintro w7 Q7 (hg7 : Good _ s3 (Q6 :: Q7 :: Q1 :: A :: os)) hax7 hb7
  refine ⟨trivial, ?_⟩
  refine RL.pd ?_
  refine CW.ret (ret (vs := [_, _]) ⟨_, _, _, rfl, rfl, loadVar_agg ty27 hb7 (hg7.mem (by simp)) rfl, _, _, rfl, rfl, rfl⟩ ?_)
  rw [changed_busy (decide_t h29)]
  exact Post.mk hle3 (((((hg7.front 3 rfl).front 3 rfl).dropAt 2).dropAt 2)) (hax1.trans (hax2.trans (hax3.trans (hax5.trans (hax6.trans hax7))))) ⟨_, rfl, hC0⟩
 ·
  refine CW.skip ?_
  refine CW.seq ?_
  refine CW.seq ?_
  have hg8 := hg6.drew
  refine CW.draws [(true, 0), (true, 1), (true, 2), (true, 3), (true, 4), (true, 5), (true, 6), (true, 7), (true, 8), (true, 9), (true, 10), (false, 11), (true, 12), (true, 13), (true, 14), (false, 15), (false, 16)] (fun w => At1 p _ w ∧ True) mixed (by kernel_rfl) (by kernel_rfl) (by kernel_rfl) (by kernel_rfl) (⟨hg8.at1 (by simp) nd4.cells, trivial⟩) ?_
  refine RL.pp ?_
  refine RL.fi fl109_0 ?_
  refine RL.fi fl44_2 ?_
  refine RL.loadsT (ad := ⟨p, 0, none⟩) (j := 4) rfl rfl rfl rfl ty33 rfl (At1.holds) (fun w h => h.1.inn) rfl rfl ?_
  refine RL.pp ?_
  refine RL.fi fl109_0 ?_
  refine RL.fi fl44_1 ?_
  refine RL.fi fl24_2 ?_
  refine RL.loadT (ad := ⟨p, 0, none⟩) (j := 3) rfl rfl rfl rfl ty22 rfl (At1.holds) (fun w h => h.1.inn) rfl ?_
  refine RL.callV rfl rfl rfl rfl rfl ca115 (Term_ct hg8 (.inr (by simp)) (nc.at_ hR) (by have := hS.2.2.2; omega)) ?_
  rintro v9 w9 (hg9 : Good _ s3 (Q6 :: Q2 :: Q1 :: A :: os)) hax9 rfl
  refine ⟨⟨hg9.at1 (by simp) nd4.cells, trivial⟩, ?_⟩
  refine RL.pp ?_
  refine RL.pp ?_
  refine RL.pd ?_
  refine CW.seq (CW.plain ?_)
  refine RL.pp ?_
  refine RL.pu ?_
  refine RL.fi fl109_0 ?_
  refine RL.fi fl44_1 ?_
  refine RL.fi fl24_0 ?_
  refine RL.lo 1 ty22 nd4.cells hg9 ?_
  refine RL.pd ?_
  refine CW.cond rfl (fun h53 => ?_) (fun h53 => ?_)
  ·
   refine CW.seq (CW.plain ?_)
   refine RL.ls 0 ty27 hb6 hg9 ?_
   refine RL.sB (b := b2) (i := 1) (j := 0) rfl rfl rfl ty27 rfl rfl hg9 rfl (hb2) rfl rfl ?_
   rintro w10 Q10 (hg10 : Good _ s3 (Q6 :: Q10 :: Q1 :: A :: os)) hax10 hb10
   refine ⟨trivial, ?_⟩
   refine RL.pd ?_
   refine CW.ret (ret (vs := [_, _]) ⟨_, _, _, rfl, rfl, loadVar_agg ty27 hb10 (hg10.mem (by simp)) rfl, _, _, rfl, rfl, rfl⟩ ?_)
   rw [changed_early (decide_f h29) (by simpa using h53)]
   exact Post.mk hle3 (((((hg10.front 3 rfl).front 3 rfl).dropAt 2).dropAt 2)) (hax1.trans (hax2.trans (hax3.trans (hax5.trans (hax6.trans ((Aux.drew _).trans (hax9.trans hax10))))))) ⟨_, rfl, hC0⟩
  ·
   have hn1 := decide_f h29
   have hn2 : ¬ (termP n.s.log n.s.hard.commit).1 ≠ n.s.hard.term := by simpa using h53
   refine CW.skip ?_
   refine CW.seq (CW.plain ?_)
   refine RL.ls 0 ty27 hb6 hg9 ?_
   refine RL.ls 0 ty59 hb1 hg9 ?_
   refine RL.callG rfl rfl rfl rfl rfl ca116 (Apply_ct hg9 hC0 hcs.fits hk hx) ?_
   rintro e58 w58 ⟨v58, s58, B58, A58, rfl, hle58, hg58, hax58, aa, ac, ba, bc, rfl, ho1, ho2⟩
   obtain ⟨s59, hg59, hle59, hm59⟩ := hg58.letgo
   obtain ⟨s60, hg60, hle60, hm60⟩ := hg59.letgo
   have hAp : RConf s60 [.slice aa (applyP (confP n.s.log).1 k x).1.voters.length ac, .slice ba (applyP (confP n.s.log).1 k x).1.learners.length bc] (applyP (confP n.s.log).1 k x).1 := ⟨_, _, _, _, rfl, ho1.imm (RInt.up _) (hle59.trans hle60) hm60, ho2.imm (RInt.up _) (hle59.trans hle60) (hm59.trans hle60)⟩
   have nd60 := nc.up (hle58.trans (hle59.trans hle60))
   have hC0 := RConf.up _ _ _ _ (hle58.trans (hle59.trans hle60)) hC0
   refine ⟨_, rfl, trivial, ?_⟩
   refine RL.pp ?_
   refine RL.pu ?_
   refine RL.allocN rfl rfl rfl rfl ze27 hg60 ?_
   rintro b11 w11 Q11 (hg11 : Good _ s60 (Q11 :: Q6 :: Q2 :: Q1 :: A :: os)) hax11 hb11
   refine ⟨trivial, ?_⟩
   refine RL.sB (b := b11) (i := 0) (j := 0) rfl rfl rfl ty27 rfl rfl hg11 rfl (hb11) rfl rfl ?_
   rintro w12 Q12 (hg12 : Good _ s60 (Q12 :: Q6 :: Q2 :: Q1 :: A :: os)) hax12 hb12
   refine ⟨trivial, ?_⟩
   refine RL.pd ?_
   refine CW.seq ?_
   refine CW.seq (CW.plain ?_)
   refine RL.pp ?_
   refine RL.pu ?_
   refine RL.part 63 rfl (fun h63 => ?_) (fun h63 => ?_)
   ·
    refine RL.fi fl59_0 ?_
    refine RL.lo 0 ty57 hb1 hg12 ?_
    refine RL.pu ?_
    refine RL.pd ?_
    refine CW.cond rfl (fun h67 => ?_) (fun h67 => ?_)
    ·
     refine CW.seq (CW.plain ?_)
     refine RL.pu ?_
     refine RL.fi fl59_1 ?_
     refine RL.lo 1 ty3 hb1 hg12 ?_
     refine RL.callV rfl rfl rfl rfl rfl ca114 (peer_ct (hg12.front 4 rfl) nd60) ?_
     rintro v13 w13 (hg13 : Good _ s60 (A :: Q12 :: Q6 :: Q2 :: Q1 :: os)) hax13 ⟨a71, rfl, hpa⟩
     refine ⟨trivial, ?_⟩
     refine RL.pd ?_
     refine CW.seq ?_
     have hg14 := hg13.drew
     refine CW.draws [(true, 0), (true, 1), (true, 2), (true, 3), (true, 4), (true, 5), (true, 6), (true, 7), (true, 8), (true, 9), (true, 10), (true, 11), (true, 12), (true, 13), (true, 14)] (fun w => At1 p _ w ∧ In A w ∧ True) mixed (by kernel_rfl) (by kernel_rfl) (by kernel_rfl) (by kernel_rfl) (⟨hg14.at1 (by simp) nd60.cells, hg14.mem (by simp), trivial⟩) ?_
     refine RL.pu ?_
     refine RL.ptrEq rfl rfl rfl rfl Tryz.underlying162 rfl rfl ?_
     refine RL.pu ?_
     refine RL.part 74 rfl (fun h74 => ?_) (fun h74 => ?_)
     ·
      refine RL.qq ?_
      refine RL.qq ?_
      refine RL.qq ?_
      refine RL.qq ?_
      refine RL.qq ?_
      refine RL.pa ?_
      refine RL.pd ?_
      refine CW.yes (by first | rfl | exact congrArg (fun b => some (Value.bool b)) (by assumption)) ?_
      refine CW.seq (CW.plain ?_)
      refine RL.ls 0 ty27 hb6 hg14 ?_
      refine RL.sB (b := b2) (i := 3) (j := 0) rfl rfl rfl ty27 rfl rfl hg14 rfl (hb2) rfl rfl ?_
      rintro w15 Q15 (hg15 : Good _ s60 (A :: Q12 :: Q6 :: Q15 :: Q1 :: os)) hax15 hb15
      refine ⟨trivial, ?_⟩
      refine RL.pd ?_
      refine CW.ret (ret (vs := [_, _]) ⟨_, _, _, rfl, rfl, loadVar_agg ty27 hb15 (hg15.mem (by simp)) rfl, _, _, rfl, rfl, rfl⟩ ?_)
      rw [changed_behind hn1 hn2 ⟨by simpa using h63, by simpa using h67, fun q hq => by rw [hpa.gone (by simpa using h74)] at hq; cases hq⟩]
      exact Post.mk (hle3.trans (hle58.trans (hle59.trans hle60))) (((((hg15.front 4 rfl).dropAt 2).dropAt 2).dropAt 2)) (hax1.trans (hax2.trans (hax3.trans (hax5.trans (hax6.trans ((Aux.drew _).trans (hax9.trans (hax58.trans (hax11.trans (hax12.trans (hax13.trans ((Aux.drew _).trans hax15)))))))))))) ⟨_, rfl, hC0⟩
     ·
      obtain ⟨g, j, hj, rfl, hpp, hpr, hix⟩ := hpa.there (by simpa using h74)
      refine RL.pp ?_
      refine RL.fi fl136_2 ?_
      refine RL.loadT (j := 2) rfl rfl rfl rfl ty22 rfl (nd60.peerHolds hj hpp) (fun w h => h.2.1) rfl ?_
      refine RL.pp ?_
      refine RL.fi fl109_0 ?_
      refine RL.fi fl44_1 ?_
      refine RL.fi fl24_2 ?_
      refine RL.loadT (ad := ⟨p, 0, none⟩) (j := 3) rfl rfl rfl rfl ty22 rfl (At1.holds) (fun w h => h.1.inn) rfl ?_
      refine RL.pu ?_
      refine RL.pd ?_
      refine CW.cond rfl (fun h86 => ?_) (fun h86 => ?_)
      ·
       refine CW.seq (CW.plain ?_)
       refine RL.ls 0 ty27 hb6 hg14 ?_
       refine RL.sB (b := b2) (i := 3) (j := 0) rfl rfl rfl ty27 rfl rfl hg14 rfl (hb2) rfl rfl ?_
       rintro w16 Q16 (hg16 : Good _ s60 (A :: Q12 :: Q6 :: Q16 :: Q1 :: os)) hax16 hb16
       refine ⟨trivial, ?_⟩
       refine RL.pd ?_
       refine CW.ret (ret (vs := [_, _]) ⟨_, _, _, rfl, rfl, loadVar_agg ty27 hb16 (hg16.mem (by simp)) rfl, _, _, rfl, rfl, rfl⟩ ?_)
       rw [changed_behind hn1 hn2 ⟨by simpa using h63, by simpa using h67, fun q hq => by rw [hpr] at hq; cases hq; exact decide_t h86⟩]
       exact Post.mk (hle3.trans (hle58.trans (hle59.trans hle60))) (((((hg16.front 4 rfl).dropAt 2).dropAt 2).dropAt 2)) (hax1.trans (hax2.trans (hax3.trans (hax5.trans (hax6.trans ((Aux.drew _).trans (hax9.trans (hax58.trans (hax11.trans (hax12.trans (hax13.trans ((Aux.drew _).trans hax16)))))))))))) ⟨_, rfl, hC0⟩
      ·
       refine CW.skip ?_
       refine CW.seq (CW.plain ?_)
       refine RL.ls 0 ty27 hb12 hg14 ?_
       refine RL.pu ?_
       refine RL.sB (b := b2) (i := 3) (j := 0) rfl rfl rfl ty27 rfl rfl hg14 rfl (hb2) rfl rfl ?_
       rintro w17 Q17 (hg17 : Good _ s60 (A :: Q12 :: Q6 :: Q17 :: Q1 :: os)) hax17 hb17
       refine ⟨trivial, ?_⟩
       refine RL.pd ?_
       refine CW.ret (ret (vs := [_, _]) ⟨_, _, _, rfl, rfl, loadVar_agg ty27 hb17 (hg17.mem (by simp)) rfl, _, _, rfl, rfl, rfl⟩ ?_)
       rw [changed_to hn1 hn2 (fun z => decide_f h86 (z.2.2 _ hpr))]
       exact Post.mk (hle3.trans (hle58.trans (hle59.trans hle60))) (((((hg17.front 4 rfl).dropAt 2).dropAt 2).dropAt 2)) (hax1.trans (hax2.trans (hax3.trans (hax5.trans (hax6.trans ((Aux.drew _).trans (hax9.trans (hax58.trans (hax11.trans (hax12.trans (hax13.trans ((Aux.drew _).trans hax17)))))))))))) ⟨_, rfl, hAp⟩
    ·
     refine CW.skip ?_
     refine CW.seq (CW.plain ?_)
     refine RL.ls 0 ty27 hb12 hg12 ?_
     refine RL.pu ?_
     refine RL.sB (b := b2) (i := 2) (j := 0) rfl rfl rfl ty27 rfl rfl hg12 rfl (hb2) rfl rfl ?_
     rintro w18 Q18 (hg18 : Good _ s60 (Q12 :: Q6 :: Q18 :: Q1 :: A :: os)) hax18 hb18
     refine ⟨trivial, ?_⟩
     refine RL.pd ?_
     refine CW.ret (ret (vs := [_, _]) ⟨_, _, _, rfl, rfl, loadVar_agg ty27 hb18 (hg18.mem (by simp)) rfl, _, _, rfl, rfl, rfl⟩ ?_)
     rw [changed_to hn1 hn2 (fun z => by simp [z.2.1] at h67)]
     exact Post.mk (hle3.trans (hle58.trans (hle59.trans hle60))) ((((((hg18.front 4 rfl).front 4 rfl).dropAt 2).dropAt 2).dropAt 2)) (hax1.trans (hax2.trans (hax3.trans (hax5.trans (hax6.trans ((Aux.drew _).trans (hax9.trans (hax58.trans (hax11.trans (hax12.trans hax18)))))))))) ⟨_, rfl, hAp⟩
   ·
    refine RL.qq ?_
    refine RL.pa ?_
    refine RL.pd ?_
    refine CW.no (by first | rfl | exact congrArg (fun b => some (Value.bool b)) (by assumption)) ?_
    refine CW.skip ?_
    refine CW.seq (CW.plain ?_)
    refine RL.ls 0 ty27 hb12 hg12 ?_
    refine RL.pu ?_
    refine RL.sB (b := b2) (i := 2) (j := 0) rfl rfl rfl ty27 rfl rfl hg12 rfl (hb2) rfl rfl ?_
    rintro w19 Q19 (hg19 : Good _ s60 (Q12 :: Q6 :: Q19 :: Q1 :: A :: os)) hax19 hb19
    refine ⟨trivial, ?_⟩
    refine RL.pd ?_
    refine CW.ret (ret (vs := [_, _]) ⟨_, _, _, rfl, rfl, loadVar_agg ty27 hb19 (hg19.mem (by simp)) rfl, _, _, rfl, rfl, rfl⟩ ?_)
    rw [changed_to hn1 hn2 (fun z => by simp [z.1] at h63)]
    exact Post.mk (hle3.trans (hle58.trans (hle59.trans hle60))) ((((((hg19.front 4 rfl).front 4 rfl).dropAt 2).dropAt 2).dropAt 2)) (hax1.trans (hax2.trans (hax3.trans (hax5.trans (hax6.trans ((Aux.drew _).trans (hax9.trans (hax58.trans (hax11.trans (hax12.trans hax19)))))))))) ⟨_, rfl, hAp⟩
def CellAt (p j : Nat) (v : Value) (w : World) : Prop := ∃ r vs, Holds r ⟨p, 0, none⟩ vs ∧ In r w ∧ vs[j]? = some v
theorem RL.loadE {P : Program} {m : Nat} {ops : Array Oper} {Q : Exit → Act → World → Prop} {S : World → Prop} {rest : List (Bool × Oper)} {E : Env} {w : World} {o : Oper} {d : Nat} {x : Operand} {t : TypeId} {q j : Nat} {v : Value} (hg : wants ops E o = some true) (hd : o.dst = some d) (hb : Nat.blt d m = true) (ho : o.op = .load t x) (ht : tyc P t = some (false, 1))
  (hx : ev E x = some (.pointer (some ((⟨q, 0, none⟩ : Addr).add j)))) (hin : ∀ w, S w → CellAt q j v w) (hr : RL P m ops Q S rest ((d, v) :: E) w) : RL P m ops Q S ((true, o) :: rest) E w :=
 RL.take hg hd hb (fun w hS => let ⟨_, _, h1, h2, h3⟩ := hin w hS; Run.load1 ho ht hx h1 h2 h3) hr
theorem asked_follower {i : Inp} (h0 : n.s.role ≠ 4) : n.asked i = (n, 101) := by unfold Node.asked; rw [if_pos h0]
theorem asked_leaving {i : Inp} (h0 : ¬ n.s.role ≠ 4) (h1 : n.s.transfer ≠ 0) : n.asked i = (n, 102) := by unfold Node.asked; rw [if_neg h0, if_pos h1]
theorem asked_transfer {i : Inp} (h0 : ¬ n.s.role ≠ 4) (h1 : ¬ n.s.transfer ≠ 0) (h2 : i.kind = 5) : n.asked i = n.transferTo i.to := by unfold Node.asked; rw [if_neg h0, if_neg h1, if_pos h2]
theorem asked_not {i : Inp} (h0 : ¬ n.s.role ≠ 4) (h1 : ¬ n.s.transfer ≠ 0) (h2 : ¬ i.kind = 5) (h3 : i.kind = 4) (h4 : (n.changed i.chKind i.chNode).2 ≠ 0) : n.asked i = (n, (n.changed i.chKind i.chNode).2) := by
 unfold Node.asked; rw [if_neg h0, if_neg h1, if_neg h2]; simp only [if_pos h3, if_pos h4]
theorem asked_change {i : Inp} (h0 : ¬ n.s.role ≠ 4) (h1 : ¬ n.s.transfer ≠ 0) (h2 : ¬ i.kind = 5) (h3 : i.kind = 4) (h4 : ¬ (n.changed i.chKind i.chNode).2 ≠ 0) : n.asked i = (((n.wIndex (up1 n.last)).wOTerm n.s.hard.term).put ⟨0, 0, 3, [], (n.changed i.chKind i.chNode).1⟩, 0) := by
 unfold Node.asked; rw [if_neg h0, if_neg h1, if_neg h2]; simp only [if_pos h3, if_neg h4]; rfl
theorem asked_data {i : Inp} (h0 : ¬ n.s.role ≠ 4) (h1 : ¬ n.s.transfer ≠ 0) (h2 : ¬ i.kind = 5) (h3 : ¬ i.kind = 4) : n.asked i = (((n.wIndex (up1 n.last)).wOTerm n.s.hard.term).put ⟨0, 0, 2, i.data, ⟨[], []⟩⟩, 0) := by
 unfold Node.asked; rw [if_neg h0, if_neg h1, if_neg h2]; simp only [if_neg h3]; rfl
set_option maxRecDepth 100000 in
set_option maxHeartbeats 2000000 in
theorem asked_ct {i : Inp} {y : Lay} {da : Option Addr} {dc : Nat} (hg : Good w s (A :: os)) (nd : Nd s A p h n) (hR : NRng n) (hr : n.roomy) (hk : rng .i64 i.chKind) (hx : rng .i64 i.chNode) (hto : rng .i64 i.to) (hd : Imm (RInt .u8) 1 s da dc i.data) (hds : i.data.length ≤ 1073741824) (hcn : (n.changed i.chKind i.chNode).1.small) :
  Calls Tryz.prog 37 #[ptr p, .agg (inpV i y da dc).toArray] w (NPost w s os p (i64 (n.asked i).2) (n.asked i).1) := by
 obtain ⟨hS, h1, h2, h3, h4⟩ := hr
 have hlr := (nd.at_ hR).last_rng.1
 have hRo : NRng ((n.wIndex (up1 n.last)).wOTerm n.s.hard.term) := hR
 refine enter (l := [ptr p, .agg (inpV i y da dc).toArray]) Tryz.func37 rfl Tryz.ntmps37 rfl ?_
 refine CW.seq (CW.plain ?_)
 refine RL.boxN rfl rfl rfl rfl rfl hg ?_
 rintro b20 w20 Q20 (hg20 : Good _ s (Q20 :: A :: os)) hax20 hb20
 refine ⟨trivial, ?_⟩
 refine RL.pd ?_
 refine CW.seq ?_
 refine CW.block ?_
 refine CW.seq (CW.plain ?_)
 refine RL.pp ?_
 refine RL.fi fl109_0 ?_
 refine RL.fi fl44_3 ?_
 refine RL.lo 10 ty38 nd.cells hg20 ?_
 refine RL.pu ?_
 refine RL.pd ?_
 refine CW.cond rfl (fun h8 => ?_) (fun h8 => ?_)
 ·
  refine CW.seq (CW.plain ?_)
  refine RL.pd ?_
  refine CW.ret (ret (vs := [_]) ⟨_, _, rfl, rfl, rfl⟩ ?_)
  exact Post.mk (Le.refl _) ((hg20.front 1 rfl).dropNext) hax20 ⟨by rw [asked_follower (by simpa using h8)]; rfl, _, nd.to (by rw [asked_follower (by simpa using h8)])⟩
 ·
  refine CW.seq (CW.plain ?_)
  refine RL.pp ?_
  refine RL.fi fl109_0 ?_
  refine RL.fi fl44_9 ?_
  refine RL.lo 16 ty3 nd.cells hg20 ?_
  refine RL.pu ?_
  refine RL.pd ?_
  refine CW.cond rfl (fun h15 => ?_) (fun h15 => ?_)
  ·
   refine CW.seq (CW.plain ?_)
   refine RL.pd ?_
   refine CW.ret (ret (vs := [_]) ⟨_, _, rfl, rfl, rfl⟩ ?_)
   exact Post.mk (Le.refl _) ((hg20.front 1 rfl).dropNext) hax20 ⟨by rw [asked_leaving (by simpa using h8) (by simpa using h15)]; rfl, _, nd.to (by rw [asked_leaving (by simpa using h8) (by simpa using h15)])⟩
  ·
   refine CW.seq (CW.plain ?_)
   refine RL.fi fl61_0 ?_
   refine RL.lo 0 ty53 hb20 hg20 ?_
   refine RL.pu ?_
   refine RL.pd ?_
   refine CW.cond rfl (fun h22 => ?_) (fun h22 => ?_)
   ·
    refine CW.seq (CW.plain ?_)
    refine RL.pu ?_
    refine RL.fi fl61_5 ?_
    refine RL.lo 19 ty3 hb20 hg20 ?_
    refine RL.call rfl rfl rfl rfl rfl ca75 (transfer_ct (hg20.front 1 rfl) nd hR ⟨hS, h1, h2, h3, h4⟩ hto) ?_
    rintro v21 s21 A21 w21 hle21 (hg21 : Good _ s21 (A21 :: Q20 :: os)) hax21 ⟨rfl, h21, nd21⟩
    refine ⟨trivial, ?_⟩
    refine RL.pd ?_
    refine CW.ret (ret (vs := [_]) ⟨_, _, rfl, rfl, rfl⟩ ?_)
    exact Post.mk hle21 (hg21.dropNext) (hax20.trans hax21) ⟨by rw [asked_transfer (by simpa using h8) (by simpa using h15) (by simpa using h22)]; rfl, _, nd21.to (by rw [asked_transfer (by simpa using h8) (by simpa using h15) (by simpa using h22)])⟩
   ·
    refine CW.skip ?_
    refine CW.seq (CW.plain ?_)
    refine RL.fi fl61_3 ?_
    refine RL.lo 16 ty28 hb20 hg20 ?_
    refine RL.build rfl rfl rfl rfl ze65 pl65 rfl rfl ?_
    refine RL.allocN rfl rfl rfl rfl ze65 hg20 ?_
    rintro b22 w22 Q22 (hg22 : Good _ s (Q22 :: Q20 :: A :: os)) hax22 hb22
    refine ⟨trivial, ?_⟩
    refine RL.sB (b := b22) (i := 0) (j := 0) rfl rfl rfl ty65 rfl rfl hg22 rfl (hb22) rfl rfl ?_
    rintro w23 Q23 (hg23 : Good _ s (Q23 :: Q20 :: A :: os)) hax23 hb23
    refine ⟨trivial, ?_⟩
    refine RL.done ?_
    refine CW.seq ?_
    refine CW.seq (CW.plain ?_)
    refine RL.fi fl61_0 ?_
    refine RL.lo 0 ty53 hb20 hg23 ?_
    refine RL.pd ?_
    refine CW.cond rfl (fun h35 => ?_) (fun h35 => ?_)
    ·
     refine CW.seq (CW.plain ?_)
     refine RL.pu ?_
     refine RL.fi fl61_4 ?_
     refine RL.ls 17 ty59 hb20 hg23 ?_
     refine RL.call rfl rfl rfl rfl rfl ca76 (changed_ct (hg23.front 2 rfl) nd hR ⟨hS, h1, h2, h3, h4⟩ hk hx) ?_
     rintro v24 s24 B24 w24 hle24 (hg24 : Good _ s24 (B24 :: A :: Q23 :: Q20 :: os)) hax24 ⟨vs40, rfl, hC40⟩
     have hg24 := hg24.drop
     have nd25 := nd.up hle24
     obtain ⟨va, vc, la, lc, rfl, hva, hla⟩ := hC40
     refine ⟨trivial, ?_⟩
     refine RL.pp ?_
     refine RL.pu ?_
     refine RL.allocN rfl rfl rfl rfl ze27 hg24 ?_
     rintro b26 w26 Q26 (hg26 : Good _ s24 (Q26 :: A :: Q23 :: Q20 :: os)) hax26 hb26
     refine ⟨trivial, ?_⟩
     refine RL.sB (b := b26) (i := 0) (j := 0) rfl rfl rfl ty27 rfl rfl hg26 rfl (hb26) rfl rfl ?_
     rintro w27 Q27 (hg27 : Good _ s24 (Q27 :: A :: Q23 :: Q20 :: os)) hax27 hb27
     refine ⟨trivial, ?_⟩
     refine RL.pd ?_
     refine CW.seq ?_
     refine CW.seq (CW.plain ?_)
     refine RL.pu ?_
     refine RL.pd ?_
     refine CW.cond rfl (fun h44 => ?_) (fun h44 => ?_)
     ·
      refine CW.seq (CW.plain ?_)
      refine RL.pu ?_
      refine RL.pd ?_
      refine CW.ret (ret (vs := [_]) ⟨_, _, rfl, rfl, rfl⟩ ?_)
      exact Post.mk hle24 ((((hg27.front 1 rfl).dropNext).dropNext).dropNext) (hax20.trans (hax22.trans (hax23.trans (hax24.trans (hax26.trans hax27))))) ⟨by rw [asked_not (by simpa using h8) (by simpa using h15) (by simpa using h22) (by simpa using h35) (by simpa using h44)]; rfl, _, nd25.to (by rw [asked_not (by simpa using h8) (by simpa using h15) (by simpa using h22) (by simpa using h35) (by simpa using h44)])⟩
     ·
      have hE : REntry s24 [u64 0, u64 0, i64 3, .slice none 0 0, .slice va (n.changed i.chKind i.chNode).1.voters.length vc, .slice la (n.changed i.chKind i.chNode).1.learners.length lc] ⟨0, 0, 3, [], (n.changed i.chKind i.chNode).1⟩ := ⟨none, 0, va, vc, la, lc, rfl, by simp [rng], by simp [rng], by simp [rng], Imm.nil _ _ _ (Nat.zero_le _), hva, hla⟩
      have hEs : Entry.small ⟨0, 0, 3, [], (n.changed i.chKind i.chNode).1⟩ := ⟨by simp, hcn⟩
      refine CW.skip (CW.plain ?_)
      refine RL.ls 0 ty27 hb27 hg27 ?_
      refine RL.build rfl rfl rfl rfl ze65 pl65 rfl rfl ?_
      refine RL.sB (b := b22) (i := 2) (j := 0) rfl rfl rfl ty65 rfl rfl hg27 rfl (hb23) rfl rfl ?_
      rintro w28 Q28 (hg28 : Good _ s24 (Q27 :: A :: Q28 :: Q20 :: os)) hax28 hb28
      refine ⟨trivial, ?_⟩
      refine RL.done ?_
      refine CW.seq ?_
      have hg29 := hg28.drew
      refine CW.draws [(true, 0), (true, 1), (true, 2), (true, 5), (true, 6), (true, 7), (true, 8), (true, 9), (true, 10), (false, 3), (true, 4), (true, 11), (true, 12), (true, 13), (false, 14), (true, 15), (true, 16), (true, 17), (false, 18)] (fun w => CellAt p 1 (u64 n.s.hard.term) w ∧ True) mixed (by kernel_rfl) (by kernel_rfl) (by kernel_rfl) (by kernel_rfl) (⟨⟨_, _, Holds.of nd25.cells, hg29.mem (by simp), rfl⟩, trivial⟩) ?_
      refine RL.pp ?_
      refine RL.pp ?_
      refine RL.pu ?_
      refine RL.fi fl109_0 ?_
      refine RL.fi fl44_1 ?_
      refine RL.fi fl24_0 ?_
      refine RL.loadE rfl rfl rfl rfl ty22 rfl (fun w h => h.1) ?_
      refine RL.callV rfl rfl rfl rfl rfl ca77 (last_ct (hg29.front 1 rfl) nd25 hR) ?_
      rintro v30 w30 (hg30 : Good _ s24 (A :: Q27 :: Q28 :: Q20 :: os)) hax30 rfl
      refine ⟨⟨⟨_, _, Holds.of nd25.cells, hg30.mem (by simp), rfl⟩, trivial⟩, ?_⟩
      refine RL.as_ rfl rfl rfl rfl (u64 (up1 n.last)) (rfl) ?_
      refine RL.pu ?_
      refine RL.fi fl109_1 ?_
      refine RL.fi fl50_5 ?_
      refine RL.storeI (p := p) (i := 0) (j := 25) rfl rfl rfl ty22 rfl rfl hg30 rfl (nd25.cells) (NRest.wIndex nd25.rest) rfl (Nat.le_of_ble_eq_true rfl) rfl ?_
      rintro w31 A31 (hg31 : Good _ s24 (A31 :: Q27 :: Q28 :: Q20 :: os)) hax31 nd31
      refine ⟨⟨⟨_, _, Holds.of nd31.cells, hg31.mem (by simp), rfl⟩, trivial⟩, ?_⟩
      refine RL.pu ?_
      refine RL.fi fl109_1 ?_
      refine RL.fi fl50_6 ?_
      refine RL.storeI (p := p) (i := 0) (j := 26) rfl rfl rfl ty22 rfl rfl hg31 rfl (nd31.cells) (NRest.wOTerm nd31.rest) rfl (Nat.le_of_ble_eq_true rfl) rfl ?_
      rintro w32 A32 (hg32 : Good _ s24 (A32 :: Q27 :: Q28 :: Q20 :: os)) hax32 nd32
      refine ⟨⟨⟨_, _, Holds.of nd32.cells, hg32.mem (by simp), rfl⟩, trivial⟩, ?_⟩
      refine RL.done ?_
      refine CW.seq (CW.plain ?_)
      refine RL.pu ?_
      refine RL.ls 0 ty65 hb28 hg32 ?_
      refine RL.call rfl rfl rfl rfl rfl ca78 (nput_ct hg32 nd32 hRo hS hE hEs h1 h2 h3 h4) ?_
      rintro v33 s33 A33 w33 hle33 (hg33 : Good _ s33 (A33 :: Q27 :: Q28 :: Q20 :: os)) hax33 ⟨rfl, h33, nd33⟩
      refine ⟨trivial, ?_⟩
      refine RL.done ?_
      refine CW.seq (CW.plain ?_)
      refine RL.pd ?_
      refine CW.ret (ret (vs := [_]) ⟨_, _, rfl, rfl, rfl⟩ ?_)
      exact Post.mk (hle24.trans hle33) (((hg33.dropNext).dropNext).dropNext) (hax20.trans (hax22.trans (hax23.trans (hax24.trans (hax26.trans (hax27.trans (hax28.trans ((Aux.drew _).trans (hax30.trans (hax31.trans (hax32.trans hax33))))))))))) ⟨by rw [asked_change (by simpa using h8) (by simpa using h15) (by simpa using h22) (by simpa using h35) (by simpa using h44)]; rfl, _, nd33.to (by rw [asked_change (by simpa using h8) (by simpa using h15) (by simpa using h22) (by simpa using h35) (by simpa using h44)])⟩
    ·
     have hE : REntry s [u64 0, u64 0, i64 2, .slice da i.data.length dc, .slice none 0 0, .slice none 0 0] ⟨0, 0, 2, i.data, ⟨[], []⟩⟩ := ⟨da, dc, none, 0, none, 0, rfl, by simp [rng], by simp [rng], by simp [rng], hd, Imm.nil _ _ _ (Nat.zero_le _), Imm.nil _ _ _ (Nat.zero_le _)⟩
     have hEs : Entry.small ⟨0, 0, 2, i.data, ⟨[], []⟩⟩ := ⟨hds, by simp [Conf.small]⟩
     refine CW.skip ?_
     refine CW.seq ?_
     have hg34 := hg23.drew
     refine CW.draws [(true, 0), (true, 1), (true, 2), (true, 5), (true, 6), (true, 7), (true, 8), (true, 9), (true, 10), (false, 3), (true, 4), (true, 11), (true, 12), (true, 13), (false, 14), (true, 15), (true, 16), (true, 17), (false, 18)] (fun w => CellAt p 1 (u64 n.s.hard.term) w ∧ True) mixed (by kernel_rfl) (by kernel_rfl) (by kernel_rfl) (by kernel_rfl) (⟨⟨_, _, Holds.of nd.cells, hg34.mem (by simp), rfl⟩, trivial⟩) ?_
     refine RL.pp ?_
     refine RL.pp ?_
     refine RL.pu ?_
     refine RL.fi fl109_0 ?_
     refine RL.fi fl44_1 ?_
     refine RL.fi fl24_0 ?_
     refine RL.loadE rfl rfl rfl rfl ty22 rfl (fun w h => h.1) ?_
     refine RL.callV rfl rfl rfl rfl rfl ca77 (last_ct (hg34.front 2 rfl) nd hR) ?_
     rintro v35 w35 (hg35 : Good _ s (A :: Q23 :: Q20 :: os)) hax35 rfl
     refine ⟨⟨⟨_, _, Holds.of nd.cells, hg35.mem (by simp), rfl⟩, trivial⟩, ?_⟩
     refine RL.as_ rfl rfl rfl rfl (u64 (up1 n.last)) (rfl) ?_
     refine RL.pu ?_
     refine RL.fi fl109_1 ?_
     refine RL.fi fl50_5 ?_
     refine RL.storeI (p := p) (i := 0) (j := 25) rfl rfl rfl ty22 rfl rfl hg35 rfl (nd.cells) (NRest.wIndex nd.rest) rfl (Nat.le_of_ble_eq_true rfl) rfl ?_
     rintro w36 A36 (hg36 : Good _ s (A36 :: Q23 :: Q20 :: os)) hax36 nd36
     refine ⟨⟨⟨_, _, Holds.of nd36.cells, hg36.mem (by simp), rfl⟩, trivial⟩, ?_⟩
     refine RL.pu ?_
     refine RL.fi fl109_1 ?_
     refine RL.fi fl50_6 ?_
     refine RL.storeI (p := p) (i := 0) (j := 26) rfl rfl rfl ty22 rfl rfl hg36 rfl (nd36.cells) (NRest.wOTerm nd36.rest) rfl (Nat.le_of_ble_eq_true rfl) rfl ?_
     rintro w37 A37 (hg37 : Good _ s (A37 :: Q23 :: Q20 :: os)) hax37 nd37
     refine ⟨⟨⟨_, _, Holds.of nd37.cells, hg37.mem (by simp), rfl⟩, trivial⟩, ?_⟩
     refine RL.done ?_
     refine CW.seq (CW.plain ?_)
     refine RL.pu ?_
     refine RL.ls 0 ty65 hb23 hg37 ?_
     refine RL.call rfl rfl rfl rfl rfl ca78 (nput_ct hg37 nd37 hRo hS hE hEs h1 h2 h3 h4) ?_
     rintro v38 s38 A38 w38 hle38 (hg38 : Good _ s38 (A38 :: Q23 :: Q20 :: os)) hax38 ⟨rfl, h38, nd38⟩
     refine ⟨trivial, ?_⟩
     refine RL.done ?_
     refine CW.seq (CW.plain ?_)
     refine RL.pd ?_
     refine CW.ret (ret (vs := [_]) ⟨_, _, rfl, rfl, rfl⟩ ?_)
     exact Post.mk hle38 ((hg38.dropNext).dropNext) (hax20.trans (hax22.trans (hax23.trans ((Aux.drew _).trans (hax35.trans (hax36.trans (hax37.trans hax38))))))) ⟨by rw [asked_data (by simpa using h8) (by simpa using h15) (by simpa using h22) (by simpa using h35)]; rfl, _, nd38.to (by rw [asked_data (by simpa using h8) (by simpa using h15) (by simpa using h22) (by simpa using h35)])⟩
end
end Go.Lw

/-
 A node's state in new memory.
-/
namespace Go.Lw
open Go.Proofs
attribute [local irreducible] RL RA
structure RaftAt (s : Res) (r : Raft) (h : Hd) : Prop where
 log : LogAt s s r.log h
 ballots : Imm RBallot 2 s h.ba h.bc r.ballots
 peers : Imm RPeer 3 s h.pa h.pc r.peers
 part : Imm (RInt .u8) 1 s h.ta h.tc r.part.data
theorem RaftAt.up {s s' : Res} {r : Raft} {h : Hd} (k : RaftAt s r h) (hl : Le s s') : RaftAt s' r h :=
 ⟨(k.log.up hl).mem hl, k.ballots.up RBallot.up hl, k.peers.up RPeer.up hl, k.part.up (RInt.up _) hl⟩
theorem NRest.raftAt {s A : Res} {h : Hd} {n : Node} (k : NRest s A h n) (hR : NRng n) {s1 : Res} (hl : Le s s1) (hm : Le A s1) : RaftAt s1 n.s h :=
 let ⟨a, b, c, d, e, f, g, _, _, _⟩ := k
 ⟨⟨hR.2.2.2.2.1, hR.2.2.2.2.2, a.up (RInt.up _) hl, b.up (RInt.up _) hl, c.up (RInt.up _) hl, d.imm REntry.up hl hm⟩, e.imm RBallot.up hl hm, f.imm RPeer.up hl hm, g.up (RInt.up _) hl⟩
section
variable {w : World} {s : Res} {os : List Res}
set_option maxRecDepth 100000 in
set_option maxHeartbeats 2000000 in
theorem copied_ct {r : Raft} {h : Hd} (hg : Good w s os) (hr : RaftAt s r h) (hS : r.log.small) (hbl : r.ballots.length ≤ 68719476736) (hpl : r.peers.length ≤ 4294967296) (htl : r.part.data.length ≤ 70368744177664) :
  Calls Tryz.prog 33 #[.agg (raftV r h).toArray] w (Post w s os fun s' A q => ∃ h', q = .agg (raftV r h').toArray ∧ NRest s' A h' ⟨r, Out.zero⟩) := by
 obtain ⟨hS1, hS2, hS3, hS4⟩ := hS
 obtain ⟨hl, hb, hp, ht⟩ := hr
 have hEE : Imm REntry 6 s h.ea h.ec r.log.entries := hl.entries
 refine enter (l := [.agg (raftV r h).toArray]) Tryz.func33 rfl Tryz.ntmps33 rfl ?_
 refine CW.seq (CW.plain ?_)
 refine RL.boxN rfl rfl rfl rfl rfl hg ?_
 rintro b1 w1 Q1 (hg1 : Good _ s (Q1 :: os)) hax1 hb1
 refine ⟨trivial, ?_⟩
 refine RL.allocN rfl rfl rfl rfl ze44 hg1 ?_
 rintro b2 w2 Q2 (hg2 : Good _ s (Q2 :: Q1 :: os)) hax2 hb2
 refine ⟨trivial, ?_⟩
 refine RL.done ?_
 refine CW.seq ?_
 have hg3 := hg2.drew
 refine CW.draws2 [(true, 0), (true, 1), (true, 2), (true, 3), (true, 5), (true, 6), (true, 7), (true, 8), (false, 4), (true, 10), (true, 11), (true, 12), (false, 9)] [(false, 13), (true, 14), (true, 15), (true, 16), (false, 17)] 13 #[true, true, true, true, true, true, true, true, true, true, true, true, true, false, false, false, false, false] (fun w => At1 b1 _ w ∧ True) mixed (by kernel_rfl) (by kernel_rfl) (by kernel_rfl) (by kernel_rfl) (by kernel_rfl) (⟨hg3.at1 (by simp) hb1, trivial⟩) ?_
 refine RL.fi fl44_2 ?_
 refine RL.fi fl33_0 ?_
 refine RL.fi fl30_3 ?_
 refine RL.loadT (ad := ⟨b1, 0, none⟩) (j := 8) rfl rfl rfl rfl ty28 rfl (At1.holds) (fun w h => h.1.inn) rfl ?_
 refine RL.fi fl44_2 ?_
 refine RL.fi fl33_0 ?_
 refine RL.fi fl30_2 ?_
 refine RL.loadsT (ad := ⟨b1, 0, none⟩) (j := 6) rfl rfl rfl rfl ty27 rfl (At1.holds) (fun w h => h.1.inn) rfl rfl ?_
 refine RL.call rfl rfl rfl rfl rfl ca61 (CloneB_ct hg3 (.inl rfl) hl.data.2.2 (by omega)) ?_
 rintro v4 s4 B4 w4 hle4 (hg4 : Good _ s4 (B4 :: Q2 :: Q1 :: os)) hax4 ⟨-, a8, c8, rfl, ho8⟩
 have hl := hl.up hle4
 have hEE := hEE.up REntry.up hle4
 have hb := hb.up RBallot.up hle4
 have hp := hp.up RPeer.up hle4
 have ht := ht.up (RInt.up _) hle4
 obtain ⟨t4, hgl4, hll4, hml4⟩ := hg4.letgo
 have hg4 : Good _ t4 (Q2 :: Q1 :: os) := hgl4
 have hl := hl.up hll4
 have hEE := hEE.up REntry.up hll4
 have hb := hb.up RBallot.up hll4
 have hp := hp.up RPeer.up hll4
 have ht := ht.up (RInt.up _) hll4
 have hd8 := ho8.imm (RInt.up _) hll4 hml4
 refine ⟨⟨hg4.at1 (by simp) hb1, trivial⟩, ?_⟩
 refine RL.fi fl44_2 ?_
 refine RL.fi fl33_0 ?_
 refine RL.fi fl30_3 ?_
 refine RL.call rfl rfl rfl rfl rfl ca62 (conf_core_ct hg4 hl.voters hl.learners hS1) ?_
 rintro v5 s5 B5 w5 hle5 (hg5 : Good _ s5 (B5 :: Q2 :: Q1 :: os)) hax5 ⟨vs13, rfl, hR13⟩
 have hg5 := hg5.drop
 have hl := hl.up hle5
 have hEE := hEE.up REntry.up hle5
 have hb := hb.up RBallot.up hle5
 have hp := hp.up RPeer.up hle5
 have ht := ht.up (RInt.up _) hle5
 have hd8 := hd8.up (RInt.up _) hle5
 obtain ⟨va, vc, la, lc, rfl, hva, hla⟩ := hR13
 refine ⟨⟨hg5.at1 (by simp) hb1, trivial⟩, ?_⟩
 refine RL.done ?_
 refine RL.next trivial ?_
 refine RL.sB (b := b1) (i := 1) (j := 8) rfl rfl rfl ty28 rfl rfl hg5 rfl (hb1) rfl rfl ?_
 rintro w6 Q6 (hg6 : Good _ s5 (Q2 :: Q6 :: os)) hax6 hb6
 refine ⟨trivial, ?_⟩
 refine RL.fi fl44_2 ?_
 refine RL.fi fl33_0 ?_
 refine RL.fi fl30_2 ?_
 refine RL.sB (b := b1) (i := 1) (j := 6) rfl rfl rfl ty27 rfl rfl hg6 rfl (hb6) rfl rfl ?_
 rintro w7 Q7 (hg7 : Good _ s5 (Q2 :: Q7 :: os)) hax7 hb7
 refine ⟨trivial, ?_⟩
 refine RL.done ?_
 refine CW.seq (CW.plain ?_)
 refine RL.fi fl44_2 ?_
 refine RL.fi fl33_1 ?_
 refine RL.lo 9 ty31 hb7 hg7 ?_
 refine RL.call rfl rfl rfl rfl rfl ca63 (CloneE_ct hg7 (.inl rfl) hEE.2.2 (by omega)) ?_
 rintro v8 s8 Q8 w8 hle8 (hg8 : Good _ s8 (Q8 :: Q2 :: Q7 :: os)) hax8 ⟨hs23, a23, c23, rfl, ho23⟩
 have hl := hl.up hle8
 have hEE := hEE.up REntry.up hle8
 have hb := hb.up RBallot.up hle8
 have hp := hp.up RPeer.up hle8
 have ht := ht.up (RInt.up _) hle8
 have hd8 := hd8.up (RInt.up _) hle8
 have hva := hva.up (RInt.up _) hle8
 have hla := hla.up (RInt.up _) hle8
 refine ⟨trivial, ?_⟩
 refine RL.fi fl44_2 ?_
 refine RL.fi fl33_1 ?_
 refine RL.sB (b := b1) (i := 2) (j := 9) rfl rfl rfl ty31 rfl rfl hg8 rfl (hb7) rfl rfl ?_
 rintro w9 Q9 (hg9 : Good _ s8 (Q8 :: Q2 :: Q9 :: os)) hax9 hb9
 refine ⟨trivial, ?_⟩
 refine RL.done ?_
 refine CW.seq ?_
 refine CW.seq (CW.plain ?_)
 refine RL.fi fl44_2 ?_
 refine RL.fi fl33_1 ?_
 refine RL.lo 9 ty31 hb9 hg9 ?_
 refine RL.len rfl rfl rfl rfl sl31 rfl ?_
 refine RL.pd ?_
 refine CW.block ?_
 have hc1 : Q9 b1 = some (.cells (raftV r ⟨va, vc, la, lc, a8, c8, a23, c23, h.ba, h.bc, h.pa, h.pc, h.ta, h.tc, none, 0, none, 0⟩).toArray 44 (0, 0)) := hb9
 refine CW.loop (σ := Nat) (fun j E w' => ∃ s' Y', ∃ k : Nat, Good w' s' (Y' :: Q9 :: Q2 :: os) ∧ Aux w w' ∧ Le s8 s' ∧ E = [(1, ptr b1), (2, ptr b2), (29, i64 r.log.entries.length), (30, i64 k)] ∧ k + j = r.log.entries.length ∧ Own REntry 6 65 s' Y' a23 c23 r.log.entries) (fun j => j) r.log.entries.length [(1, ptr b1), (2, ptr b2), (29, i64 r.log.entries.length), (30, i64 0)] ⟨rfl, rfl, rfl, rfl, trivial⟩ ⟨_, _, 0, (((hg9.front 1 rfl).front 2 rfl).front 2 rfl), (hax1.trans (hax2.trans ((Aux.drew _).trans (hax4.trans (hax5.trans (hax6.trans (hax7.trans (hax8.trans hax9)))))))), Le.refl _, rfl, by omega, ho23⟩ ?_
 rintro j E wL ⟨sL, YL, k, hgL, haxL, hleL, rfl, hk, hoL⟩
 have hl := hl.up hleL
 have hb := hb.up RBallot.up hleL
 have hp := hp.up RPeer.up hleL
 have ht := ht.up (RInt.up _) hleL
 have hd8 := hd8.up (RInt.up _) hleL
 have hva := hva.up (RInt.up _) hleL
 have hla := hla.up (RInt.up _) hleL
 have hleT := ((hle4.trans (hll4.trans (hle5.trans hle8)))).trans hleL
 refine CW.seq (CW.plain ?_)
 refine RL.pd ?_
 refine CW.seq ?_
 refine CW.cond rfl (fun h31 => ?_) (fun h31 => ?_)
 ·
  refine CW.skip ?_
  refine CW.seq ?_
  refine CW.block ?_
  refine CW.seq (CW.plain ?_)
  refine RL.pu ?_
  refine RL.pd ?_
  have hg10 := hgL.drew
  refine CW.draws2 [(true, 0), (true, 1), (true, 2), (true, 3), (true, 4), (true, 5), (true, 6), (true, 7), (true, 8), (true, 9), (false, 10), (true, 11)] [(false, 12)] 12 #[true, true, true, true, true, true, true, true, true, true, true, true, false] (fun w => At1 b1 _ w ∧ In YL w ∧ True) mixed (by kernel_rfl) (by kernel_rfl) (by kernel_rfl) (by kernel_rfl) (by kernel_rfl) (⟨hg10.at1 (by simp) hc1, hg10.mem (by simp), trivial⟩) ?_
  refine RL.fi fl44_2 ?_
  refine RL.fi fl33_1 ?_
  refine RL.loadT (ad := ⟨b1, 0, none⟩) (j := 9) rfl rfl rfl rfl ty31 rfl (At1.holds) (fun w h => h.1.inn) rfl ?_
  refine RL.pu ?_
  refine RL.fi fl44_2 ?_
  refine RL.fi fl33_1 ?_
  have hlt : k < r.log.entries.length := by have := decide_t h31; omega
  refine RL.loadT (ad := ⟨b1, 0, none⟩) (j := 9) rfl rfl rfl rfl ty31 rfl (At1.holds) (fun w h => h.1.inn) rfl ?_
  refine RL.pu ?_
  refine RL.idxL rfl rfl rfl rfl sl31 rfl rfl hoL.lies (by omega) (by omega) ?_
  rintro q vs hvl hH hE
  have hE2 := hE
  obtain ⟨ea, ec, ea1, ec1, ea2, ec2, rfl, er1, er2, er3, eh1, eh2, eh3⟩ := hE2
  refine RL.loadsT (j := 0) (us := _) rfl rfl rfl rfl ty65 rfl (hH) (fun w h => h.2.1) rfl rfl ?_
  refine RL.call rfl rfl rfl rfl rfl ca64 (entry_core_ct hg10 hE (hS3 _ (List.getElem_mem _))) ?_
  rintro v11 s11 B11 w11 hle11 (hg11 : Good _ s11 (B11 :: YL :: Q9 :: Q2 :: os)) hax11 ⟨us, rfl, hU⟩
  have hg11 := hg11.drop
  have hoL := hoL.up REntry.up hle11
  have hul : us.length = 6 := by obtain ⟨_, _, _, _, _, _, rfl, _⟩ := hU; rfl
  refine ⟨⟨hg11.at1 (by simp) hc1, hg11.mem (by simp), trivial⟩, ?_⟩
  refine RL.idxOwn rfl rfl rfl rfl sl31 rfl rfl hoL (by omega) (by omega) ?_
  rintro g' cs vs' hb' hA' hcs hvl' hcell _
  subst hb'
  have hset := hoL.set hA' hlt hul hU
  rw [show r.log.entries.set k r.log.entries[((k : Nat) : Int).toNat] = r.log.entries from List.set_getElem_self hlt] at hset
  have hcs : cs.size = c23 * 6 := hcs
  have hlc : r.log.entries.length ≤ c23 := hoL.lies.1
  have hfit : k * 6 + 6 ≤ cs.size := by rw [hcs]; omega
  refine RL.done ?_
  refine RL.next trivial ?_
  refine RL.store (i := 0) (j := k * 6) rfl rfl rfl ty65 rfl rfl hg11 rfl hA' (by simpa [Value.cells] using hul) (by obtain ⟨_, _, _, _, _, _, rfl, _⟩ := hU; simp [Value.cells, Value.oneCell']) hfit ?_
  intro ws hgs haxs
  refine ⟨trivial, ?_⟩
  refine RL.done ?_
  refine CW.plain ?_
  refine RL.add rfl rfl rfl rfl rfl rfl ((by simp only [rng]; omega)) ?_
  refine RL.pd ?_
  cases j with
  | zero => omega
  | succ j => exact fun ac ha => ⟨j, [(1, ptr b1), (2, ptr b2), (29, i64 r.log.entries.length), (30, i64 ((k : Int) + 1))], ha.sub ⟨rfl, rfl, rfl, rfl, trivial⟩, ⟨_, _, k + 1, hgs, ((haxL.trans ((Aux.drew _).trans hax11))).trans haxs, hleL.trans hle11, rfl, by omega, hset⟩, Nat.lt_succ_self j⟩
 ·
  refine CW.exit ?_
  refine CW.seq ?_
  have hg12 := hgL.drew
  refine CW.draws2 [(true, 0), (true, 1), (true, 3), (true, 4), (true, 6), (true, 7), (true, 8), (false, 2), (true, 10), (false, 5), (false, 9)] [(false, 11), (true, 12), (false, 13), (true, 14), (true, 15), (false, 16)] 11 #[true, true, true, true, true, true, true, true, true, true, true, false, false, false, false, false, false] (fun w => At1 b1 _ w ∧ True) mixed (by kernel_rfl) (by kernel_rfl) (by kernel_rfl) (by kernel_rfl) (by kernel_rfl) (⟨hg12.at1 (by simp) hc1, trivial⟩) ?_
  refine RL.fi fl44_5 ?_
  refine RL.loadT (ad := ⟨b1, 0, none⟩) (j := 12) rfl rfl rfl rfl ty39 rfl (At1.holds) (fun w h => h.1.inn) rfl ?_
  refine RL.fi fl44_6 ?_
  refine RL.loadT (ad := ⟨b1, 0, none⟩) (j := 13) rfl rfl rfl rfl ty40 rfl (At1.holds) (fun w h => h.1.inn) rfl ?_
  refine RL.fi fl44_10 ?_
  refine RL.fi fl42_2 ?_
  refine RL.loadT (ad := ⟨b1, 0, none⟩) (j := 19) rfl rfl rfl rfl ty28 rfl (At1.holds) (fun w h => h.1.inn) rfl ?_
  refine RL.call rfl rfl rfl rfl rfl ca65 (CloneBl_ct hg12 (.inl rfl) hb.2.2 (by omega)) ?_
  rintro v13 s13 Q13 w13 hle13 (hg13 : Good _ s13 (Q13 :: YL :: Q9 :: Q2 :: os)) hax13 ⟨-, a48, c48, rfl, ho48⟩
  have hl := hl.up hle13
  have hb := hb.up RBallot.up hle13
  have hp := hp.up RPeer.up hle13
  have ht := ht.up (RInt.up _) hle13
  have hd8 := hd8.up (RInt.up _) hle13
  have hva := hva.up (RInt.up _) hle13
  have hla := hla.up (RInt.up _) hle13
  have hoL := hoL.up REntry.up hle13
  refine ⟨⟨hg13.at1 (by simp) hc1, trivial⟩, ?_⟩
  refine RL.fi fl44_5 ?_
  refine RL.call rfl rfl rfl rfl rfl ca66 (ClonePe_ct hg13 (.inl rfl) hp.2.2 (by omega)) ?_
  rintro v14 s14 Q14 w14 hle14 (hg14 : Good _ s14 (Q14 :: Q13 :: YL :: Q9 :: Q2 :: os)) hax14 ⟨-, a51, c51, rfl, ho51⟩
  have hl := hl.up hle14
  have hb := hb.up RBallot.up hle14
  have hp := hp.up RPeer.up hle14
  have ht := ht.up (RInt.up _) hle14
  have hd8 := hd8.up (RInt.up _) hle14
  have hva := hva.up (RInt.up _) hle14
  have hla := hla.up (RInt.up _) hle14
  have hoL := hoL.up REntry.up hle14
  have ho48 := ho48.up RBallot.up hle14
  refine ⟨⟨hg14.at1 (by simp) hc1, trivial⟩, ?_⟩
  refine RL.call rfl rfl rfl rfl rfl ca61 (CloneB_ct hg14 (.inl rfl) ht.2.2 (by omega)) ?_
  rintro v15 s15 B15 w15 hle15 (hg15 : Good _ s15 (B15 :: Q14 :: Q13 :: YL :: Q9 :: Q2 :: os)) hax15 ⟨-, a55, c55, rfl, ho55⟩
  have hl := hl.up hle15
  have hb := hb.up RBallot.up hle15
  have hp := hp.up RPeer.up hle15
  have ht := ht.up (RInt.up _) hle15
  have hd8 := hd8.up (RInt.up _) hle15
  have hva := hva.up (RInt.up _) hle15
  have hla := hla.up (RInt.up _) hle15
  have hoL := hoL.up REntry.up hle15
  have ho48 := ho48.up RBallot.up hle15
  have ho51 := ho51.up RPeer.up hle15
  obtain ⟨t15, hgl15, hll15, hml15⟩ := hg15.letgo
  have hg15 : Good _ t15 (Q14 :: Q13 :: YL :: Q9 :: Q2 :: os) := hgl15
  have hl := hl.up hll15
  have hb := hb.up RBallot.up hll15
  have hp := hp.up RPeer.up hll15
  have ht := ht.up (RInt.up _) hll15
  have hd8 := hd8.up (RInt.up _) hll15
  have hva := hva.up (RInt.up _) hll15
  have hla := hla.up (RInt.up _) hll15
  have hoL := hoL.up REntry.up hll15
  have ho48 := ho48.up RBallot.up hll15
  have ho51 := ho51.up RPeer.up hll15
  have ht55 := ho55.imm (RInt.up _) hll15 hml15
  refine ⟨⟨hg15.at1 (by simp) hc1, trivial⟩, ?_⟩
  refine RL.done ?_
  refine RL.next trivial ?_
  refine RL.sB (b := b1) (i := 3) (j := 12) rfl rfl rfl ty39 rfl rfl hg15 rfl (hc1) rfl rfl ?_
  rintro w16 Q16 (hg16 : Good _ t15 (Q14 :: Q13 :: YL :: Q16 :: Q2 :: os)) hax16 hb16
  refine ⟨trivial, ?_⟩
  refine RL.fi fl44_6 ?_
  refine RL.sB (b := b1) (i := 3) (j := 13) rfl rfl rfl ty40 rfl rfl hg16 rfl (hb16) rfl rfl ?_
  rintro w17 Q17 (hg17 : Good _ t15 (Q14 :: Q13 :: YL :: Q17 :: Q2 :: os)) hax17 hb17
  refine ⟨trivial, ?_⟩
  refine RL.fi fl44_10 ?_
  refine RL.fi fl42_2 ?_
  refine RL.sB (b := b1) (i := 3) (j := 19) rfl rfl rfl ty28 rfl rfl hg17 rfl (hb17) rfl rfl ?_
  rintro w18 Q18 (hg18 : Good _ t15 (Q14 :: Q13 :: YL :: Q18 :: Q2 :: os)) hax18 hb18
  refine ⟨trivial, ?_⟩
  refine RL.done ?_
  refine CW.seq (CW.plain ?_)
  refine RL.ls 0 ty44 hb18 hg18 ?_
  refine RL.sB (b := b2) (i := 4) (j := 0) rfl rfl rfl ty44 rfl rfl hg18 rfl (hb2) rfl rfl ?_
  rintro w19 Q19 (hg19 : Good _ t15 (Q14 :: Q13 :: YL :: Q18 :: Q19 :: os)) hax19 hb19
  refine ⟨trivial, ?_⟩
  refine RL.done ?_
  refine CW.ret (ret (vs := [_]) ⟨_, _, _, rfl, rfl, loadVar_agg ty44 hb19 (hg19.mem (by simp)) rfl, rfl⟩ ?_)
  have hK := ((((hg19.front 1 rfl).front 2 rfl).dropAt 3).dropAt 3)
  have hK2 := hK.join
  have e1 := Res.le_join_left YL Q13
  have e2 := Res.le_join_right (r := YL) (Apart.of2 hK)
  have e3 := Res.le_join_left (YL.join Q13) Q14
  have e4 := Res.le_join_right (r := YL.join Q13) (Apart.of2 hK2)
  exact Post.mk (hleT.trans (hle13.trans (hle14.trans (hle15.trans hll15)))) hK2.join (haxL.trans ((Aux.drew _).trans (hax13.trans (hax14.trans (hax15.trans (hax16.trans (hax17.trans (hax18.trans hax19)))))))) ⟨⟨va, vc, la, lc, a8, c8, a23, c23, a48, c48, a51, c51, a55, c55, none, 0, none, 0⟩, rfl, hva, hla, hd8, (hoL.mem e1).mem e3, (ho48.mem e2).mem e3, ho51.mem e4, ht55, Own.nil _ _ _ _ _, Own.nil _ _ _ _ _, Dj.none_right _⟩
end
end Go.Lw

/-
 A node by the program: messages.
-/
namespace Go.Lw
open Go.Proofs
attribute [local irreducible] RL RA
section
variable {P : Program} {n : Nat} {ops : Array Oper} {Q : Exit → Act → World → Prop} {S : World → Prop} {rest : List (Bool × Oper)} {E : Env} {w : World} {o : Oper} {d : Nat} {v : Value} {x y : Operand} {T : Bool}
def IsF (v : Value) : Prop := v = .nilFunc ∨ ∃ f a b, v = .func f a b
def isNilF : Value → Bool
 | .nilFunc => true
 | _ => false
theorem RL.fnEq {t yt : TypeId} {pp rr : Array TypeId} {vd : Bool} (hg : wants ops E o = some true) (hd : o.dst = some d) (hb : Nat.blt d n = true) (ho : o.op = .binOp .eql t x y yt) (ht : P.underlying t = some (.func pp rr vd))
  (hx : ev E x = some v) (hv : IsF v) (hy : ev E y = some .nilFunc) (h : RL P n ops Q S rest ((d, .bool (isNilF v)) :: E) w) : RL P n ops Q S ((T, o) :: rest) E w := by
 refine RL.val hg hd hb (fun w ac ha => ?_) h
 have hgd : (eqGuard .eql t x y v .nilFunc).run P w = .ok () w := by unfold eqGuard; rcases hv with rfl | ⟨f, a, b, rfl⟩ <;> rfl
 unfold execOp
 simp only [ho, ha.ev hx, ha.ev hy, Sem.run_bind, hgd, Result.andThen_ok]
 have h2 : (Op.equal t v .nilFunc).run P w = .ok (isNilF v) w := by
  have h : ∀ d : Nat, (Op.equalIn (d + 1) t v .nilFunc).run P w = .ok (isNilF v) w := fun d => by
   rcases hv with rfl | ⟨f, a, b, rfl⟩ <;> simp [Op.equalIn, run_underlying ht, isNilF]
  simp only [Op.equal, Op.maxDepth]
  exact h 9999
 rcases hv with rfl | ⟨f, a, b, rfl⟩ <;> simp only [binOp] <;> simp [h2]
end
def heardF (k : Int) : Option FuncId :=
 if k = 3 then some 106 else if k = 4 then some 107 else if k = 5 then some 108 else if k = 6 then some 109
 else if k = 7 then some 110 else if k = 8 then some 111 else if k = 9 then some 112 else none
def fnV (p : Nat) : Option FuncId → Value
 | none => .nilFunc
 | some f => .func (.func f) #[ptr p] #[]
theorem fnV_is (p : Nat) (f : Option FuncId) : IsF (fnV p f) := by cases f; exact .inl rfl; exact .inr ⟨_, _, _, rfl⟩
theorem fnV_nil {p : Nat} {f : Option FuncId} (h : isNilF (fnV p f) = true) : f = none := by cases f; rfl; cases h
theorem fnV_not {p : Nat} {f : Option FuncId} (h : isNilF (fnV p f) = false) : ∃ g, f = some g := by cases f; cases h; exact ⟨_, rfl⟩
def Node.takes (n : Node) (m : Msg) : Prop := n.roomy ∧ n.s.ballots.length ≤ 68719476736 ∧ n.s.log.entries.length + m.entries.length ≤ 1099511627776 ∧ n.s.part.data.length + m.data.length ≤ 70368744177664 ∧ m.small
theorem Node.takes.follow {n : Node} {m : Msg} {t l : Int} (h : n.takes m) : (n.follow t l).takes m := by
 obtain ⟨⟨h1, h2, h3, h4, h5⟩, h6, h7, h8, h9⟩ := h
 exact ⟨⟨h1, h2, by simp [Node.follow], h4, h5⟩, by simp [Node.follow], h7, h8, h9⟩
set_option maxRecDepth 100000 in
theorem heard_acts {k : Int} {f : FuncId} (hf : heardF k = some f) : callable Tryz.prog f = true ∧ ∀ {w : World} {s A : Res} {os : List Res} {p : Nat} {h : Hd} {n : Node} {m : Msg} {y : Lay}, m.kind = k → Good w s (A :: os) → Nd s A p h n → NRng n → n.takes m → MsgOk s m y → m.index < p61 →
  Calls Tryz.prog f #[ptr p, .agg (msgV m y).toArray] w (NPost w s os p (.tuple #[]) (n.heard m)) := by
 unfold heardF at hf
 split at hf
 ·
  rename_i hk; cases hf
  exact ⟨rfl, fun {w s A os p h n m y} hm hg nd hR ht hok hi => by
   rw [show n.heard m = n.vote m by unfold Node.heard; rw [if_pos (by omega)]]
   exact vote_ct hg nd hR ht.1 hok⟩
 split at hf
 ·
  rename_i hk; cases hf
  exact ⟨rfl, fun {w s A os p h n m y} hm hg nd hR ht hok hi => by
   rw [show n.heard m = n.voted m by unfold Node.heard; rw [if_neg (by omega), if_pos (by omega)]]
   exact voted_ct hg nd hR ht.1 ht.2.1 hok⟩
 split at hf
 ·
  rename_i hk; cases hf
  exact ⟨rfl, fun {w s A os p h n m y} hm hg nd hR ht hok hi => by
   rw [show n.heard m = n.grow m by unfold Node.heard; rw [if_neg (by omega), if_neg (by omega), if_pos (by omega)]]
   exact grow_ct hg nd hR ht.1 hok ht.2.2.2.2 hi ht.2.2.1⟩
 split at hf
 ·
  rename_i hk; cases hf
  exact ⟨rfl, fun {w s A os p h n m y} hm hg nd hR ht hok hi => by
   rw [show n.heard m = n.grown m by unfold Node.heard; rw [if_neg (by omega), if_neg (by omega), if_neg (by omega), if_pos (by omega)]]
   exact grown_ct hg nd hR ht.1 hok⟩
 split at hf
 ·
  rename_i hk; cases hf
  exact ⟨rfl, fun {w s A os p h n m y} hm hg nd hR ht hok hi => by
   rw [show n.heard m = n.chunk m by unfold Node.heard; rw [if_neg (by omega), if_neg (by omega), if_neg (by omega), if_neg (by omega), if_pos (by omega)]]
   exact chunk_ct hg nd hR ht.1 hok ht.2.2.2.2 ht.2.2.2.1⟩
 split at hf
 ·
  rename_i hk; cases hf
  exact ⟨rfl, fun {w s A os p h n m y} hm hg nd hR ht hok hi => by
   rw [show n.heard m = n.chunked m by unfold Node.heard; rw [if_neg (by omega), if_neg (by omega), if_neg (by omega), if_neg (by omega), if_neg (by omega), if_pos (by omega)]]
   exact chunked_ct hg nd hR ht.1 hok⟩
 split at hf
 ·
  rename_i hk; cases hf
  exact ⟨rfl, fun {w s A os p h n m y} hm hg nd hR ht hok hi => by
   rw [show n.heard m = n.now by unfold Node.heard; rw [if_neg (by omega), if_neg (by omega), if_neg (by omega), if_neg (by omega), if_neg (by omega), if_neg (by omega)]]
   exact now_ct hg nd hR ht.1⟩
 ·
  cases hf
theorem heardF_none {k : Int} (h : heardF k = none) : k < 3 ∨ 9 < k := Classical.byContradiction fun hc => by
 have : k = 3 ∨ k = 4 ∨ k = 5 ∨ k = 6 ∨ k = 7 ∨ k = 8 ∨ k = 9 := by omega
 rcases this with rfl | rfl | rfl | rfl | rfl | rfl | rfl <;> simp [heardF] at h
theorem heardF_some {k : Int} {f : FuncId} (h : heardF k = some f) : ¬ (k < 3 ∨ 9 < k) := by
 unfold heardF at h
 repeat' split at h
 all_goals first | omega | cases h
section
variable {w : World} {s A : Res} {os : List Res} {p : Nat} {h : Hd} {n : Node}
set_option maxRecDepth 100000 in
theorem heard_ct {k : Int} (hg : Good w s os) :
  Calls Tryz.prog 72 #[ptr p, i64 k] w (PostV w s os fun q => q = fnV p (heardF k)) := by
 refine enter (l := [ptr p, i64 k]) Tryz.func72 rfl Tryz.ntmps72 rfl ?_
 refine CW.seq (CW.plain ?_)
 refine RL.pd ?_
 refine CW.seq ?_
 refine CW.seq (CW.plain ?_)
 refine RL.pd ?_
 refine CW.block ?_
 refine CW.seq (CW.plain ?_)
 refine RL.pu ?_
 refine RL.pd ?_
 refine CW.cond rfl (fun h6 => ?_) (fun h6 => ?_)
 ·
  refine CW.seq (CW.plain ?_)
  refine RL.pu ?_
  refine RL.makeB rfl rfl rfl rfl rfl rfl ?_
  refine RL.pd ?_
  refine CW.ret (ret (vs := [_]) ⟨_, _, rfl, rfl, rfl⟩ ?_)
  refine PostV.mk hg (Aux.refl _) ?_
  simp_all [heardF, fnV]
  rfl
 ·
  refine CW.seq (CW.plain ?_)
  refine RL.pu ?_
  refine RL.pd ?_
  refine CW.cond rfl (fun h10 => ?_) (fun h10 => ?_)
  ·
   refine CW.seq (CW.plain ?_)
   refine RL.pu ?_
   refine RL.makeB rfl rfl rfl rfl rfl rfl ?_
   refine RL.pd ?_
   refine CW.ret (ret (vs := [_]) ⟨_, _, rfl, rfl, rfl⟩ ?_)
   refine PostV.mk hg (Aux.refl _) ?_
   simp_all [heardF, fnV]
   rfl
  ·
   refine CW.seq (CW.plain ?_)
   refine RL.pu ?_
   refine RL.pd ?_
   refine CW.cond rfl (fun h14 => ?_) (fun h14 => ?_)
   ·
    refine CW.seq (CW.plain ?_)
    refine RL.pu ?_
    refine RL.makeB rfl rfl rfl rfl rfl rfl ?_
    refine RL.pd ?_
    refine CW.ret (ret (vs := [_]) ⟨_, _, rfl, rfl, rfl⟩ ?_)
    refine PostV.mk hg (Aux.refl _) ?_
    simp_all [heardF, fnV]
    rfl
   ·
    refine CW.seq (CW.plain ?_)
    refine RL.pu ?_
    refine RL.pd ?_
    refine CW.cond rfl (fun h18 => ?_) (fun h18 => ?_)
    ·
     refine CW.seq (CW.plain ?_)
     refine RL.pu ?_
     refine RL.makeB rfl rfl rfl rfl rfl rfl ?_
     refine RL.pd ?_
     refine CW.ret (ret (vs := [_]) ⟨_, _, rfl, rfl, rfl⟩ ?_)
     refine PostV.mk hg (Aux.refl _) ?_
     simp_all [heardF, fnV]
     rfl
    ·
     refine CW.seq (CW.plain ?_)
     refine RL.pu ?_
     refine RL.pd ?_
     refine CW.cond rfl (fun h22 => ?_) (fun h22 => ?_)
     ·
      refine CW.seq (CW.plain ?_)
      refine RL.pu ?_
      refine RL.makeB rfl rfl rfl rfl rfl rfl ?_
      refine RL.pd ?_
      refine CW.ret (ret (vs := [_]) ⟨_, _, rfl, rfl, rfl⟩ ?_)
      refine PostV.mk hg (Aux.refl _) ?_
      simp_all [heardF, fnV]
      rfl
     ·
      refine CW.seq (CW.plain ?_)
      refine RL.pu ?_
      refine RL.pd ?_
      refine CW.cond rfl (fun h26 => ?_) (fun h26 => ?_)
      ·
       refine CW.seq (CW.plain ?_)
       refine RL.pu ?_
       refine RL.makeB rfl rfl rfl rfl rfl rfl ?_
       refine RL.pd ?_
       refine CW.ret (ret (vs := [_]) ⟨_, _, rfl, rfl, rfl⟩ ?_)
       refine PostV.mk hg (Aux.refl _) ?_
       simp_all [heardF, fnV]
       rfl
      ·
       refine CW.seq (CW.plain ?_)
       refine RL.pu ?_
       refine RL.pd ?_
       refine CW.cond rfl (fun h30 => ?_) (fun h30 => ?_)
       ·
        refine CW.seq (CW.plain ?_)
        refine RL.pu ?_
        refine RL.makeB rfl rfl rfl rfl rfl rfl ?_
        refine RL.pd ?_
        refine CW.ret (ret (vs := [_]) ⟨_, _, rfl, rfl, rfl⟩ ?_)
        refine PostV.mk hg (Aux.refl _) ?_
        simp_all [heardF, fnV]
        rfl
       ·
        refine CW.skip ?_
        refine CW.seq (CW.plain ?_)
        refine RL.pd ?_
        refine CW.ret (ret (vs := [_]) ⟨_, _, rfl, rfl, rfl⟩ ?_)
        refine PostV.mk hg (Aux.refl _) ?_
        simp_all [heardF, fnV]
        rfl
def Node.deaf (n : Node) (m : Msg) : Prop := m.to ≠ n.s.id ∨ m.frm = n.s.id ∨ m.frm < 1 ∨ 7 < m.frm ∨ p61 ≤ m.term ∨ p61 ≤ m.index ∨ p61 ≤ m.commit
noncomputable def Node.risen (n : Node) (m : Msg) : Node := if n.s.hard.term < m.term then n.follow m.term 0 else n
theorem message_deaf {m : Msg} (h : n.deaf m) : n.message m = n := by unfold Node.message; exact if_pos h
theorem message_1 {m : Msg} (h : ¬ n.deaf m) (h1 : m.kind = 1) : n.message m = n.preVote m := by unfold Node.message; refine (if_neg h).trans ?_; rw [if_pos h1]
theorem message_2 {m : Msg} (h : ¬ n.deaf m) (h1 : m.kind = 2) : n.message m = n.preVoted m := by unfold Node.message; refine (if_neg h).trans ?_; rw [if_neg (by omega), if_pos h1]
theorem message_no {m : Msg} (h : ¬ n.deaf m) (h1 : m.kind ≠ 1) (h2 : m.kind ≠ 2) (h3 : m.kind < 3 ∨ 9 < m.kind) : n.message m = n := by unfold Node.message; refine (if_neg h).trans ?_; rw [if_neg h1, if_neg h2, if_pos h3]
theorem message_late {m : Msg} (h : ¬ n.deaf m) (h1 : m.kind ≠ 1) (h2 : m.kind ≠ 2) (h3 : ¬ (m.kind < 3 ∨ 9 < m.kind)) (h4 : m.term < (n.risen m).s.hard.term) : n.message m = (n.risen m).late m := by
 unfold Node.message; refine (if_neg h).trans ?_; rw [if_neg h1, if_neg h2, if_neg h3]; exact if_pos h4
theorem message_on {m : Msg} (h : ¬ n.deaf m) (h1 : m.kind ≠ 1) (h2 : m.kind ≠ 2) (h3 : ¬ (m.kind < 3 ∨ 9 < m.kind)) (h4 : ¬ m.term < (n.risen m).s.hard.term) : n.message m = (n.risen m).heard m := by
 unfold Node.message; refine (if_neg h).trans ?_; rw [if_neg h1, if_neg h2, if_neg h3]; exact if_neg h4
set_option maxRecDepth 100000 in
set_option maxHeartbeats 2000000 in
theorem message_ct {m : Msg} {y : Lay} {i : Inp} {da : Option Addr} {dc : Nat} (hi : i.msg = m) (hg : Good w s (A :: os)) (nd : Nd s A p h n) (hR : NRng n) (ht : n.takes m) (hm : MsgOk s m y) :
  Calls Tryz.prog 36 #[ptr p, .agg (inpV i y da dc).toArray] w (NPost w s os p (i64 0) (n.message m)) := by
 subst hi
 have hr := ht.1
 refine enter (l := [ptr p, .agg (inpV i y da dc).toArray]) Tryz.func36 rfl Tryz.ntmps36 rfl ?_
 refine CW.seq (CW.plain ?_)
 refine RL.boxN rfl rfl rfl rfl rfl hg ?_
 rintro b1 w1 Q1 (hg1 : Good _ s (Q1 :: A :: os)) hax1 hb1
 refine ⟨trivial, ?_⟩
 refine RL.pd ?_
 refine CW.seq (CW.plain ?_)
 refine RL.fi fl61_2 ?_
 refine RL.ls 2 ty56 hb1 hg1 ?_
 refine RL.allocN rfl rfl rfl rfl ze56 hg1 ?_
 rintro b2 w2 Q2 (hg2 : Good _ s (Q2 :: Q1 :: A :: os)) hax2 hb2
 refine ⟨trivial, ?_⟩
 refine RL.sB (b := b2) (i := 0) (j := 0) rfl rfl rfl ty56 rfl rfl hg2 rfl (hb2) rfl rfl ?_
 rintro w3 Q3 (hg3 : Good _ s (Q3 :: Q1 :: A :: os)) hax3 hb3
 refine ⟨trivial, ?_⟩
 refine RL.done ?_
 refine CW.seq ?_
 refine CW.block ?_
 refine CW.seq ?_
 refine CW.seq ?_
 have hg4 := hg3.drew
 refine CW.draws [(true, 0), (true, 1), (true, 2), (true, 3), (true, 4), (true, 5), (true, 6), (true, 7), (false, 8)] (fun w => At1 b2 _ w ∧ At1 p _ w ∧ True) mixed (by kernel_rfl) (by kernel_rfl) (by kernel_rfl) (by kernel_rfl) (⟨hg4.at1 (by simp) hb3, hg4.at1 (by simp) nd.cells, trivial⟩) ?_
 refine RL.fi fl56_2 ?_
 refine RL.loadT (ad := ⟨b2, 0, none⟩) (j := 2) rfl rfl rfl rfl ty3 rfl (At1.holds) (fun w h => h.1.inn) rfl ?_
 refine RL.pp ?_
 refine RL.fi fl109_0 ?_
 refine RL.fi fl44_0 ?_
 refine RL.loadT (ad := ⟨p, 0, none⟩) (j := 0) rfl rfl rfl rfl ty3 rfl (At1.holds) (fun w h => h.2.1.inn) rfl ?_
 refine RL.pu ?_
 refine RL.pd ?_
 refine CW.cond rfl (fun h9 => ?_) (fun h9 => ?_)
 ·
  refine CW.skip ?_
  refine CW.yes (by first | rfl | exact congrArg (fun b => some (Value.bool b)) (by assumption)) ?_
  refine CW.seq (CW.plain ?_)
  refine RL.pd ?_
  refine CW.ret (ret (vs := [_]) ⟨_, _, rfl, rfl, rfl⟩ ?_)
  exact Post.mk (Le.refl _) (((hg4.front 2 rfl).dropNext).dropNext) (hax1.trans (hax2.trans (hax3.trans (Aux.drew _)))) ⟨rfl, _, nd.to (message_deaf (.inl (by simpa using h9))).symm⟩
 ·
  have hd0 : ¬ (i.msg.to ≠ n.s.id) := (by simpa using h9)
  refine CW.seq ?_
  have hg5 := hg4.drew
  refine CW.draws [(true, 0), (true, 1), (true, 2), (true, 3), (true, 4), (true, 5), (true, 6), (true, 7), (false, 8)] (fun w => At1 b2 _ w ∧ At1 p _ w ∧ True) mixed (by kernel_rfl) (by kernel_rfl) (by kernel_rfl) (by kernel_rfl) (⟨hg5.at1 (by simp) hb3, hg5.at1 (by simp) nd.cells, trivial⟩) ?_
  refine RL.fi fl56_1 ?_
  refine RL.loadT (ad := ⟨b2, 0, none⟩) (j := 1) rfl rfl rfl rfl ty3 rfl (At1.holds) (fun w h => h.1.inn) rfl ?_
  refine RL.pp ?_
  refine RL.fi fl109_0 ?_
  refine RL.fi fl44_0 ?_
  refine RL.loadT (ad := ⟨p, 0, none⟩) (j := 0) rfl rfl rfl rfl ty3 rfl (At1.holds) (fun w h => h.2.1.inn) rfl ?_
  refine RL.pu ?_
  refine RL.pd ?_
  refine CW.cond rfl (fun h9 => ?_) (fun h9 => ?_)
  ·
   refine CW.skip ?_
   refine CW.yes (by first | rfl | exact congrArg (fun b => some (Value.bool b)) (by assumption)) ?_
   refine CW.seq (CW.plain ?_)
   refine RL.pd ?_
   refine CW.ret (ret (vs := [_]) ⟨_, _, rfl, rfl, rfl⟩ ?_)
   exact Post.mk (Le.refl _) (((hg5.front 2 rfl).dropNext).dropNext) (hax1.trans (hax2.trans (hax3.trans ((Aux.drew _).trans (Aux.drew _))))) ⟨rfl, _, nd.to (message_deaf (.inr (.inl (by simpa using h9)))).symm⟩
  ·
   have hd1 : ¬ (i.msg.frm = n.s.id) := (by simpa using h9)
   refine CW.seq (CW.plain ?_)
   refine RL.fi fl56_1 ?_
   refine RL.lo 1 ty3 hb3 hg5 ?_
   refine RL.pu ?_
   refine RL.pd ?_
   refine CW.cond rfl (fun h9 => ?_) (fun h9 => ?_)
   ·
    refine CW.skip ?_
    refine CW.yes (by first | rfl | exact congrArg (fun b => some (Value.bool b)) (by assumption)) ?_
    refine CW.seq (CW.plain ?_)
    refine RL.pd ?_
    refine CW.ret (ret (vs := [_]) ⟨_, _, rfl, rfl, rfl⟩ ?_)
    exact Post.mk (Le.refl _) (((hg5.front 2 rfl).dropNext).dropNext) (hax1.trans (hax2.trans (hax3.trans ((Aux.drew _).trans (Aux.drew _))))) ⟨rfl, _, nd.to (message_deaf (.inr (.inr (.inl (decide_t h9))))).symm⟩
   ·
    have hd2 : ¬ (i.msg.frm < 1) := (decide_f h9)
    refine CW.seq (CW.plain ?_)
    refine RL.fi fl56_1 ?_
    refine RL.lo 1 ty3 hb3 hg5 ?_
    refine RL.pu ?_
    refine RL.pd ?_
    refine CW.cond rfl (fun h9 => ?_) (fun h9 => ?_)
    ·
     refine CW.skip ?_
     refine CW.yes (by first | rfl | exact congrArg (fun b => some (Value.bool b)) (by assumption)) ?_
     refine CW.seq (CW.plain ?_)
     refine RL.pd ?_
     refine CW.ret (ret (vs := [_]) ⟨_, _, rfl, rfl, rfl⟩ ?_)
     exact Post.mk (Le.refl _) (((hg5.front 2 rfl).dropNext).dropNext) (hax1.trans (hax2.trans (hax3.trans ((Aux.drew _).trans (Aux.drew _))))) ⟨rfl, _, nd.to (message_deaf (.inr (.inr (.inr (.inl (decide_t h9)))))).symm⟩
    ·
     have hd3 : ¬ (7 < i.msg.frm) := (decide_f h9)
     refine CW.seq (CW.plain ?_)
     refine RL.fi fl56_3 ?_
     refine RL.lo 3 ty22 hb3 hg5 ?_
     refine RL.pu ?_
     refine RL.pd ?_
     refine CW.cond rfl (fun h9 => ?_) (fun h9 => ?_)
     ·
      refine CW.skip ?_
      refine CW.yes (by first | rfl | exact congrArg (fun b => some (Value.bool b)) (by assumption)) ?_
      refine CW.seq (CW.plain ?_)
      refine RL.pd ?_
      refine CW.ret (ret (vs := [_]) ⟨_, _, rfl, rfl, rfl⟩ ?_)
      exact Post.mk (Le.refl _) (((hg5.front 2 rfl).dropNext).dropNext) (hax1.trans (hax2.trans (hax3.trans ((Aux.drew _).trans (Aux.drew _))))) ⟨rfl, _, nd.to (message_deaf (.inr (.inr (.inr (.inr (.inl (decide_t h9))))))).symm⟩
     ·
      have hd4 : ¬ (p61 ≤ i.msg.term) := (decide_f h9)
      refine CW.seq (CW.plain ?_)
      refine RL.fi fl56_4 ?_
      refine RL.lo 4 ty22 hb3 hg5 ?_
      refine RL.pu ?_
      refine RL.pd ?_
      refine CW.cond rfl (fun h9 => ?_) (fun h9 => ?_)
      ·
       refine CW.skip ?_
       refine CW.yes (by first | rfl | exact congrArg (fun b => some (Value.bool b)) (by assumption)) ?_
       refine CW.seq (CW.plain ?_)
       refine RL.pd ?_
       refine CW.ret (ret (vs := [_]) ⟨_, _, rfl, rfl, rfl⟩ ?_)
       exact Post.mk (Le.refl _) (((hg5.front 2 rfl).dropNext).dropNext) (hax1.trans (hax2.trans (hax3.trans ((Aux.drew _).trans (Aux.drew _))))) ⟨rfl, _, nd.to (message_deaf (.inr (.inr (.inr (.inr (.inr (.inl (decide_t h9)))))))).symm⟩
      ·
       have hd5 : ¬ (p61 ≤ i.msg.index) := (decide_f h9)
       refine CW.plain ?_
       refine RL.fi fl56_7 ?_
       refine RL.lo 7 ty22 hb3 hg5 ?_
       refine RL.pu ?_
       refine RL.pd ?_
       refine CW.cond rfl (fun h9 => ?_) (fun h9 => ?_)
       ·
        refine CW.seq (CW.plain ?_)
        refine RL.pd ?_
        refine CW.ret (ret (vs := [_]) ⟨_, _, rfl, rfl, rfl⟩ ?_)
        exact Post.mk (Le.refl _) (((hg5.front 2 rfl).dropNext).dropNext) (hax1.trans (hax2.trans (hax3.trans ((Aux.drew _).trans (Aux.drew _))))) ⟨rfl, _, nd.to (message_deaf (.inr (.inr (.inr (.inr (.inr (.inr (decide_t h9)))))))).symm⟩
       ·
        have hd6 : ¬ (p61 ≤ i.msg.commit) := (decide_f h9)
        have hdf : ¬ n.deaf i.msg := fun z => z.elim hd0 fun z => z.elim hd1 fun z => z.elim hd2 fun z => z.elim hd3 fun z => z.elim hd4 fun z => z.elim hd5 hd6
        have hi61 : i.msg.index < p61 := by have : ¬ (p61 ≤ i.msg.index) := hd5; omega
        refine CW.seq (CW.plain ?_)
        refine RL.fi fl56_0 ?_
        refine RL.lo 0 ty54 hb3 hg5 ?_
        refine RL.pu ?_
        refine RL.pd ?_
        refine CW.cond rfl (fun h41 => ?_) (fun h41 => ?_)
        ·
         refine CW.seq (CW.plain ?_)
         refine RL.pu ?_
         refine RL.ls 0 ty56 hb3 hg5 ?_
         refine RL.call rfl rfl rfl rfl rfl ca70 (preVote_ct (hg5.front 2 rfl) nd hR hr hm) ?_
         rintro v6 s6 A6 w6 hle6 (hg6 : Good _ s6 (A6 :: Q3 :: Q1 :: os)) hax6 ⟨rfl, h6, nd6⟩
         have hm := hm.up hle6
         refine ⟨trivial, ?_⟩
         refine RL.done ?_
         refine CW.seq (CW.plain ?_)
         refine RL.pd ?_
         refine CW.ret (ret (vs := [_]) ⟨_, _, rfl, rfl, rfl⟩ ?_)
         exact Post.mk hle6 ((hg6.dropNext).dropNext) (hax1.trans (hax2.trans (hax3.trans ((Aux.drew _).trans ((Aux.drew _).trans hax6))))) ⟨rfl, _, nd6.to (message_1 hdf (by simpa using h41)).symm⟩
        ·
         have hk1 : i.msg.kind ≠ 1 := by simpa using h41
         refine CW.seq (CW.plain ?_)
         refine RL.fi fl56_0 ?_
         refine RL.lo 0 ty54 hb3 hg5 ?_
         refine RL.pu ?_
         refine RL.pd ?_
         refine CW.cond rfl (fun h48 => ?_) (fun h48 => ?_)
         ·
          refine CW.seq (CW.plain ?_)
          refine RL.pu ?_
          refine RL.ls 0 ty56 hb3 hg5 ?_
          refine RL.call rfl rfl rfl rfl rfl ca71 (preVoted_ct (hg5.front 2 rfl) nd hR hr ht.2.1 hm) ?_
          rintro v7 s7 A7 w7 hle7 (hg7 : Good _ s7 (A7 :: Q3 :: Q1 :: os)) hax7 ⟨rfl, h7, nd7⟩
          have hm := hm.up hle7
          refine ⟨trivial, ?_⟩
          refine RL.done ?_
          refine CW.seq (CW.plain ?_)
          refine RL.pd ?_
          refine CW.ret (ret (vs := [_]) ⟨_, _, rfl, rfl, rfl⟩ ?_)
          exact Post.mk hle7 ((hg7.dropNext).dropNext) (hax1.trans (hax2.trans (hax3.trans ((Aux.drew _).trans ((Aux.drew _).trans hax7))))) ⟨rfl, _, nd7.to (message_2 hdf (by simpa using h48)).symm⟩
         ·
          have hk2 : i.msg.kind ≠ 2 := by simpa using h48
          refine CW.skip ?_
          refine CW.seq (CW.plain ?_)
          refine RL.pu ?_
          refine RL.fi fl56_0 ?_
          refine RL.lo 0 ty54 hb3 hg5 ?_
          refine RL.callV rfl rfl rfl rfl rfl ca72 (heard_ct (p := p) (k := i.msg.kind) hg5) ?_
          rintro v8 w8 (hg8 : Good _ s (Q3 :: Q1 :: A :: os)) hax8 rfl
          refine ⟨trivial, ?_⟩
          refine RL.pd ?_
          refine CW.seq ?_
          refine CW.seq (CW.plain ?_)
          refine RL.pu ?_
          refine RL.fnEq rfl rfl rfl rfl Tryz.underlying137 rfl (fnV_is _ _) rfl ?_
          refine RL.done ?_
          refine CW.cond rfl (fun h60 => ?_) (fun h60 => ?_)
          ·
           refine CW.seq (CW.plain ?_)
           refine RL.pd ?_
           refine CW.ret (ret (vs := [_]) ⟨_, _, rfl, rfl, rfl⟩ ?_)
           exact Post.mk (Le.refl _) (((hg8.front 2 rfl).dropNext).dropNext) (hax1.trans (hax2.trans (hax3.trans ((Aux.drew _).trans ((Aux.drew _).trans hax8))))) ⟨rfl, _, nd.to (message_no hdf hk1 hk2 (heardF_none (fnV_nil h60))).symm⟩
          ·
           obtain ⟨f, hf⟩ := fnV_not h60
           have hk3 := heardF_some hf
           rw [show fnV p (heardF i.msg.kind) = .func (.func f) #[ptr p] #[] by rw [hf]; rfl]
           refine CW.skip ?_
           refine CW.seq ?_
           refine CW.seq ?_
           have hg9 := hg8.drew
           refine CW.draws [(true, 0), (true, 1), (true, 2), (true, 3), (true, 4), (true, 5), (true, 6), (true, 7), (true, 8)] (fun w => At1 b2 _ w ∧ At1 p _ w ∧ True) mixed (by kernel_rfl) (by kernel_rfl) (by kernel_rfl) (by kernel_rfl) (⟨hg9.at1 (by simp) hb3, hg9.at1 (by simp) nd.cells, trivial⟩) ?_
           refine RL.fi fl56_3 ?_
           refine RL.loadT (ad := ⟨b2, 0, none⟩) (j := 3) rfl rfl rfl rfl ty22 rfl (At1.holds) (fun w h => h.1.inn) rfl ?_
           refine RL.pp ?_
           refine RL.fi fl109_0 ?_
           refine RL.fi fl44_1 ?_
           refine RL.fi fl24_0 ?_
           refine RL.loadT (ad := ⟨p, 0, none⟩) (j := 1) rfl rfl rfl rfl ty22 rfl (At1.holds) (fun w h => h.2.1.inn) rfl ?_
           refine RL.pd ?_
           refine CW.cond rfl (fun h69 => ?_) (fun h69 => ?_)
           ·
            have hris : n.follow i.msg.term 0 = n.risen i.msg := (if_pos (decide_t h69)).symm
            have hRr : NRng (n.risen i.msg) := by rw [← hris]; exact hR.follow hm.term
            have htr : (n.risen i.msg).takes i.msg := by rw [← hris]; exact ht.follow
            refine CW.plain ?_
            refine RL.pu ?_
            refine RL.fi fl56_3 ?_
            refine RL.lo 3 ty22 hb3 hg9 ?_
            refine RL.call rfl rfl rfl rfl rfl ca73 (follow_ct (hg9.front 2 rfl) nd) ?_
            rintro v10 s10 A10 w10 hle10 (hg10 : Good _ s10 (A10 :: Q3 :: Q1 :: os)) hax10 ⟨rfl, h10, nd10⟩
            have hm := hm.up hle10
            have nd10 := nd10.to hris
            refine ⟨trivial, ?_⟩
            refine RL.done ?_
            refine CW.seq ?_
            refine CW.seq ?_
            have hg11 := hg10.drew
            refine CW.draws [(true, 0), (true, 1), (true, 2), (true, 3), (true, 4), (true, 5), (true, 6), (true, 7), (true, 8)] (fun w => At1 b2 _ w ∧ At1 p _ w ∧ True) mixed (by kernel_rfl) (by kernel_rfl) (by kernel_rfl) (by kernel_rfl) (⟨hg11.at1 (by simp) hb3, hg11.at1 (by simp) nd10.cells, trivial⟩) ?_
            refine RL.fi fl56_3 ?_
            refine RL.loadT (ad := ⟨b2, 0, none⟩) (j := 3) rfl rfl rfl rfl ty22 rfl (At1.holds) (fun w h => h.1.inn) rfl ?_
            refine RL.pp ?_
            refine RL.fi fl109_0 ?_
            refine RL.fi fl44_1 ?_
            refine RL.fi fl24_0 ?_
            refine RL.loadT (ad := ⟨p, 0, none⟩) (j := 1) rfl rfl rfl rfl ty22 rfl (At1.holds) (fun w h => h.2.1.inn) rfl ?_
            refine RL.pd ?_
            refine CW.cond rfl (fun h82 => ?_) (fun h82 => ?_)
            ·
             have hcf : callable Tryz.prog 74 = true := rfl
             have hct : ∀ {w' : World} {s' A' : Res} {h' : Hd}, Good w' s' (A' :: os) → Nd s' A' p h' (n.risen i.msg) → MsgOk s' i.msg y → Calls Tryz.prog 74 #[ptr p, .agg (msgV i.msg y).toArray] w' (NPost w' s' os p (.tuple #[]) ((n.risen i.msg).late i.msg)) := fun h1 h2 h3 => late_ct h1 h2 hRr htr.1 h3
             refine CW.plain ?_
             refine RL.pu ?_
             refine RL.makeB rfl rfl rfl rfl rfl rfl ?_
             refine RL.pd ?_
             refine CW.seq (CW.plain ?_)
             refine RL.pu ?_
             refine RL.ls 0 ty56 hb3 hg11 ?_
             refine RL.callB rfl rfl rfl rfl rfl rfl hcf (hct ((hg11.dropNext).dropNext) nd10 hm) ?_
             rintro e12 w12 ⟨v12, s12, A12, rfl, hle12, (hg12 : Good _ s12 (A12 :: os)), hax12, ⟨rfl, h12, nd12⟩⟩
             have hm := hm.up hle12
             refine ⟨_, rfl, trivial, ?_⟩
             refine RL.done ?_
             refine CW.seq (CW.plain ?_)
             refine RL.pd ?_
             refine CW.ret (ret (vs := [_]) ⟨_, _, rfl, rfl, rfl⟩ ?_)
             exact Post.mk (hle10.trans hle12) hg12 (hax1.trans (hax2.trans (hax3.trans ((Aux.drew _).trans ((Aux.drew _).trans (hax8.trans ((Aux.drew _).trans (hax10.trans ((Aux.drew _).trans hax12))))))))) ⟨rfl, _, nd12.to (message_late hdf hk1 hk2 hk3 (decide_t h82)).symm⟩
            ·
             obtain ⟨hcf, hca⟩ := heard_acts hf
             have hct : ∀ {w' : World} {s' A' : Res} {h' : Hd}, Good w' s' (A' :: os) → Nd s' A' p h' (n.risen i.msg) → MsgOk s' i.msg y → Calls Tryz.prog f #[ptr p, .agg (msgV i.msg y).toArray] w' (NPost w' s' os p (.tuple #[]) ((n.risen i.msg).heard i.msg)) := fun h1 h2 h3 => hca rfl h1 h2 hRr htr h3 hi61
             refine CW.skip ?_
             refine CW.seq (CW.plain ?_)
             refine RL.pu ?_
             refine RL.ls 0 ty56 hb3 hg11 ?_
             refine RL.callB rfl rfl rfl rfl rfl rfl hcf (hct ((hg11.dropNext).dropNext) nd10 hm) ?_
             rintro e13 w13 ⟨v13, s13, A13, rfl, hle13, (hg13 : Good _ s13 (A13 :: os)), hax13, ⟨rfl, h13, nd13⟩⟩
             have hm := hm.up hle13
             refine ⟨_, rfl, trivial, ?_⟩
             refine RL.done ?_
             refine CW.seq (CW.plain ?_)
             refine RL.pd ?_
             refine CW.ret (ret (vs := [_]) ⟨_, _, rfl, rfl, rfl⟩ ?_)
             exact Post.mk (hle10.trans hle13) hg13 (hax1.trans (hax2.trans (hax3.trans ((Aux.drew _).trans ((Aux.drew _).trans (hax8.trans ((Aux.drew _).trans (hax10.trans ((Aux.drew _).trans hax13))))))))) ⟨rfl, _, nd13.to (message_on hdf hk1 hk2 hk3 (decide_f h82)).symm⟩
           ·
            have hris : n = n.risen i.msg := (if_neg (decide_f h69)).symm
            have hRr : NRng (n.risen i.msg) := by rw [← hris]; exact hR
            have htr : (n.risen i.msg).takes i.msg := by rw [← hris]; exact ht
            have nd := nd.to hris
            refine CW.skip ?_
            refine CW.seq ?_
            refine CW.seq ?_
            have hg14 := hg9.drew
            refine CW.draws [(true, 0), (true, 1), (true, 2), (true, 3), (true, 4), (true, 5), (true, 6), (true, 7), (true, 8)] (fun w => At1 b2 _ w ∧ At1 p _ w ∧ True) mixed (by kernel_rfl) (by kernel_rfl) (by kernel_rfl) (by kernel_rfl) (⟨hg14.at1 (by simp) hb3, hg14.at1 (by simp) nd.cells, trivial⟩) ?_
            refine RL.fi fl56_3 ?_
            refine RL.loadT (ad := ⟨b2, 0, none⟩) (j := 3) rfl rfl rfl rfl ty22 rfl (At1.holds) (fun w h => h.1.inn) rfl ?_
            refine RL.pp ?_
            refine RL.fi fl109_0 ?_
            refine RL.fi fl44_1 ?_
            refine RL.fi fl24_0 ?_
            refine RL.loadT (ad := ⟨p, 0, none⟩) (j := 1) rfl rfl rfl rfl ty22 rfl (At1.holds) (fun w h => h.2.1.inn) rfl ?_
            refine RL.pd ?_
            refine CW.cond rfl (fun h82 => ?_) (fun h82 => ?_)
            ·
             have hcf : callable Tryz.prog 74 = true := rfl
             have hct : ∀ {w' : World} {s' A' : Res} {h' : Hd}, Good w' s' (A' :: os) → Nd s' A' p h' (n.risen i.msg) → MsgOk s' i.msg y → Calls Tryz.prog 74 #[ptr p, .agg (msgV i.msg y).toArray] w' (NPost w' s' os p (.tuple #[]) ((n.risen i.msg).late i.msg)) := fun h1 h2 h3 => late_ct h1 h2 hRr htr.1 h3
             refine CW.plain ?_
             refine RL.pu ?_
             refine RL.makeB rfl rfl rfl rfl rfl rfl ?_
             refine RL.pd ?_
             refine CW.seq (CW.plain ?_)
             refine RL.pu ?_
             refine RL.ls 0 ty56 hb3 hg14 ?_
             refine RL.callB rfl rfl rfl rfl rfl rfl hcf (hct (((hg14.front 2 rfl).dropNext).dropNext) nd hm) ?_
             rintro e15 w15 ⟨v15, s15, A15, rfl, hle15, (hg15 : Good _ s15 (A15 :: os)), hax15, ⟨rfl, h15, nd15⟩⟩
             have hm := hm.up hle15
             refine ⟨_, rfl, trivial, ?_⟩
             refine RL.done ?_
             refine CW.seq (CW.plain ?_)
             refine RL.pd ?_
             refine CW.ret (ret (vs := [_]) ⟨_, _, rfl, rfl, rfl⟩ ?_)
             exact Post.mk hle15 hg15 (hax1.trans (hax2.trans (hax3.trans ((Aux.drew _).trans ((Aux.drew _).trans (hax8.trans ((Aux.drew _).trans ((Aux.drew _).trans hax15)))))))) ⟨rfl, _, nd15.to (message_late hdf hk1 hk2 hk3 (decide_t h82)).symm⟩
            ·
             obtain ⟨hcf, hca⟩ := heard_acts hf
             have hct : ∀ {w' : World} {s' A' : Res} {h' : Hd}, Good w' s' (A' :: os) → Nd s' A' p h' (n.risen i.msg) → MsgOk s' i.msg y → Calls Tryz.prog f #[ptr p, .agg (msgV i.msg y).toArray] w' (NPost w' s' os p (.tuple #[]) ((n.risen i.msg).heard i.msg)) := fun h1 h2 h3 => hca rfl h1 h2 hRr htr h3 hi61
             refine CW.skip ?_
             refine CW.seq (CW.plain ?_)
             refine RL.pu ?_
             refine RL.ls 0 ty56 hb3 hg14 ?_
             refine RL.callB rfl rfl rfl rfl rfl rfl hcf (hct (((hg14.front 2 rfl).dropNext).dropNext) nd hm) ?_
             rintro e16 w16 ⟨v16, s16, A16, rfl, hle16, (hg16 : Good _ s16 (A16 :: os)), hax16, ⟨rfl, h16, nd16⟩⟩
             have hm := hm.up hle16
             refine ⟨_, rfl, trivial, ?_⟩
             refine RL.done ?_
             refine CW.seq (CW.plain ?_)
             refine RL.pd ?_
             refine CW.ret (ret (vs := [_]) ⟨_, _, rfl, rfl, rfl⟩ ?_)
             exact Post.mk hle16 hg16 (hax1.trans (hax2.trans (hax3.trans ((Aux.drew _).trans ((Aux.drew _).trans (hax8.trans ((Aux.drew _).trans ((Aux.drew _).trans hax16)))))))) ⟨rfl, _, nd16.to (message_on hdf hk1 hk2 hk3 (decide_f h82)).symm⟩
end
end Go.Lw

/-
 raftcore by the program: New, Status, Step.
-/
namespace Go.Lw
open Go.Proofs
attribute [local irreducible] RL RA
structure View where
 hard : Hard
 log : Log
 gone : Bool
abbrev viewV (v : View) (h : Hd) : List Value := [u64 v.hard.term, i64 v.hard.vote, u64 v.hard.commit, u64 v.log.base.index, u64 v.log.base.term, .slice h.va v.log.base.conf.voters.length h.vc, .slice h.la v.log.base.conf.learners.length h.lc, .slice h.da v.log.base.data.length h.dc, .slice h.ea v.log.entries.length h.ec, .bool v.gone]
section
variable {w : World} {s : Res} {os : List Res}
theorem may_ct {c : Conf} {va la : Option Addr} {vc lc : Nat} (hg : Good w s os) (hC : RConf s [.slice va c.voters.length vc, .slice la c.learners.length lc] c) (hs : c.small) :
  Calls Tryz.prog 32 #[.agg #[.slice va c.voters.length vc, .slice la c.learners.length lc]] w (Post w s os fun _ _ q => q = .bool (mayP c)) := by
 have hv : c.voters.length ≤ maxLen := by have := hs.1; simp only [maxLen]; omega
 have hl : c.learners.length ≤ maxLen := by have := hs.2; simp only [maxLen]; omega
 refine enter (l := [.agg #[.slice va c.voters.length vc, .slice la c.learners.length lc]]) Tryz.func32 rfl Tryz.ntmps32 rfl ?_
 refine CW.seq (CW.plain ?_)
 refine RL.boxN rfl rfl rfl rfl rfl hg ?_
 rintro b1 w1 Q1 (hg1 : Good _ s (Q1 :: os)) hax1 hb1
 refine ⟨trivial, ?_⟩
 refine RL.pd ?_
 refine CW.seq (CW.plain ?_)
 refine RL.ls 0 ty27 hb1 hg1 ?_
 refine RL.callV rfl rfl rfl rfl rfl ca59 (blank_ct hg1 hv hl) ?_
 rintro v2 w2 (hg2 : Good _ s (Q1 :: os)) hax2 rfl
 refine ⟨trivial, ?_⟩
 refine RL.pu ?_
 refine RL.part 5 rfl (fun h5 => ?_) (fun h5 => ?_)
 ·
  refine RL.qq ?_
  refine RL.pa ?_
  refine RL.pu ?_
  refine RL.pd ?_
  refine CW.ret (ret (vs := [_]) ⟨_, _, rfl, rfl, rfl⟩ ?_)
  refine Post.mk (Le.refl _) (hg2.drop).nil (hax1.trans hax2) (congrArg Value.bool ?_)
  have h5 : blankP c = _ := h5
  rw [Bool.eq_iff_iff]; simp [mayP, h5]
 ·
  refine RL.ls 0 ty27 hb1 hg2 ?_
  refine RL.call rfl rfl rfl rfl rfl ca60 (Check_ct hg2 hC hs.fits) ?_
  rintro v3 s3 B3 w3 hle3 (hg3 : Good _ s3 (B3 :: Q1 :: os)) hax3 rfl
  have hg3 := hg3.drop
  refine ⟨trivial, ?_⟩
  refine RL.pp ?_
  refine RL.pd ?_
  refine CW.ret (ret (vs := [_]) ⟨_, _, rfl, rfl, rfl⟩ ?_)
  refine Post.mk hle3 (hg3.drop).nil (hax1.trans (hax2.trans hax3)) (congrArg Value.bool ?_)
  have h5 : blankP c = _ := h5
  rw [Bool.eq_iff_iff]; simp [mayP, h5]
def hd0 : Hd := ⟨none, 0, none, 0, none, 0, none, 0, none, 0, none, 0, none, 0, none, 0, none, 0⟩
theorem RaftAt.zero (s : Res) : RaftAt s Raft.zero hd0 :=
 ⟨⟨by simp [rng, Raft.zero], by simp [rng, Raft.zero], Imm.nil _ _ _ (Nat.zero_le _), Imm.nil _ _ _ (Nat.zero_le _), Imm.nil _ _ _ (Nat.zero_le _), Imm.nil _ _ _ (Nat.zero_le _)⟩, Imm.nil _ _ _ (Nat.zero_le _), Imm.nil _ _ _ (Nat.zero_le _), Imm.nil _ _ _ (Nat.zero_le _)⟩
def newR (id : Int) (v : View) : Raft := ⟨id, v.hard, v.log, 1, 0, [], [], 0, 0, 0, ⟨0, 0, []⟩⟩
theorem newBad_iff {id : Int} {v : View} : newBad id v.hard v.log v.gone = true ↔ (id < 1 ∨ 7 < id ∨ v.gone = true ∨ logOk v.log = false ∨ mayP (confP v.log).1 = false ∨ mayP v.log.base.conf = false ∨ p61 ≤ (lastP v.log).1 ∨ p61 ≤ v.hard.term ∨ v.hard.term < (lastP v.log).2 ∨ v.hard.commit < v.log.base.index ∨ (lastP v.log).1 < v.hard.commit ∨ v.hard.vote < 0 ∨ 7 < v.hard.vote) := by
 unfold newBad; simp [or_assoc]
theorem newP_bad {id : Int} {v : View} (h : newBad id v.hard v.log v.gone = true) : newP id v.hard v.log v.gone = (Raft.zero, 1) := if_pos h
theorem newP_ok {id : Int} {v : View} (h : newBad id v.hard v.log v.gone = false) : newP id v.hard v.log v.gone = (newR id v, 0) := if_neg (by rw [h]; decide)
set_option maxRecDepth 100000 in
set_option maxHeartbeats 4000000 in
theorem New_ct {id : Int} {v : View} {h : Hd} (hg : Good w s os) (hl : LogAt s s v.log h) (hS : v.log.small) (hid : rng .i64 id) (ht : rng .u64 v.hard.term) (hv : rng .i64 v.hard.vote) (hc : rng .u64 v.hard.commit) :
  Calls Tryz.prog 10 #[i64 id, .agg (viewV v h).toArray] w (Post w s os fun s' _ q => ∃ h', q = .tuple #[.agg (raftV (newP id v.hard v.log v.gone).1 h').toArray, i64 (newP id v.hard v.log v.gone).2] ∧ RaftAt s' (newP id v.hard v.log v.gone).1 h') := by
 have hcs := confP_small hS
 refine enter (l := [i64 id, .agg (viewV v h).toArray]) Tryz.func10 rfl Tryz.ntmps10 rfl ?_
 refine CW.seq (CW.plain ?_)
 refine RL.boxN rfl rfl rfl rfl rfl hg ?_
 rintro b11 w11 Q11 (hg11 : Good _ s (Q11 :: os)) hax11 hb11
 refine ⟨trivial, ?_⟩
 refine RL.allocN rfl rfl rfl rfl ze44 hg11 ?_
 rintro b12 w12 Q12 (hg12 : Good _ s (Q12 :: Q11 :: os)) hax12 hb12
 refine ⟨trivial, ?_⟩
 refine RL.pd ?_
 refine CW.seq ?_
 refine CW.seq (CW.plain ?_)
 refine RL.pp ?_
 refine RL.pu ?_
 refine RL.part 13 rfl (fun h13 => ?_) (fun h13 => ?_)
 ·
  refine RL.qq ?_
  refine RL.pp ?_
  refine RL.qq ?_
  refine RL.pp ?_
  refine RL.qq ?_
  refine RL.qq ?_
  refine RL.pd ?_
  refine CW.yes (by first | rfl | exact congrArg (fun b => some (Value.bool b)) (by assumption)) ?_
  refine CW.seq (CW.plain ?_)
  refine RL.build rfl rfl rfl rfl ze44 pl44 rfl rfl ?_
  refine RL.sB (b := b12) (i := 0) (j := 0) rfl rfl rfl ty44 rfl rfl hg12 rfl (hb12) rfl rfl ?_
  rintro w13 Q13 (hg13 : Good _ s (Q13 :: Q11 :: os)) hax13 hb13
  refine ⟨trivial, ?_⟩
  refine RL.pd ?_
  refine CW.ret (ret (vs := [_, _]) ⟨_, _, _, rfl, rfl, loadVar_agg ty44 hb13 (hg13.mem (by simp)) rfl, _, _, rfl, rfl, rfl⟩ ?_)
  have hbad : newBad id v.hard v.log v.gone = true := newBad_iff.2 (.inl (decide_t h13))
  exact Post.mk (Le.refl _) ((hg13.drop).drop).nil (hax11.trans (hax12.trans hax13)) ⟨hd0, by rw [newP_bad hbad]; rfl, by rw [newP_bad hbad]; exact RaftAt.zero _⟩
 ·
  have e0 : ¬ (id < 1) := decide_f h13
  refine RL.pp ?_
  refine RL.pp ?_
  refine RL.part 17 rfl (fun h17 => ?_) (fun h17 => ?_)
  ·
   refine RL.qq ?_
   refine RL.pp ?_
   refine RL.qq ?_
   refine RL.qq ?_
   refine RL.pd ?_
   refine CW.yes (by first | rfl | exact congrArg (fun b => some (Value.bool b)) (by assumption)) ?_
   refine CW.seq (CW.plain ?_)
   refine RL.build rfl rfl rfl rfl ze44 pl44 rfl rfl ?_
   refine RL.sB (b := b12) (i := 0) (j := 0) rfl rfl rfl ty44 rfl rfl hg12 rfl (hb12) rfl rfl ?_
   rintro w14 Q14 (hg14 : Good _ s (Q14 :: Q11 :: os)) hax14 hb14
   refine ⟨trivial, ?_⟩
   refine RL.pd ?_
   refine CW.ret (ret (vs := [_, _]) ⟨_, _, _, rfl, rfl, loadVar_agg ty44 hb14 (hg14.mem (by simp)) rfl, _, _, rfl, rfl, rfl⟩ ?_)
   have hbad : newBad id v.hard v.log v.gone = true := newBad_iff.2 (.inr (.inl (decide_t h17)))
   exact Post.mk (Le.refl _) ((hg14.drop).drop).nil (hax11.trans (hax12.trans hax14)) ⟨hd0, by rw [newP_bad hbad]; rfl, by rw [newP_bad hbad]; exact RaftAt.zero _⟩
  ·
   have e1 : ¬ (7 < id) := decide_f h17
   refine RL.fi fl35_2 ?_
   refine RL.lo 9 ty4 hb11 hg12 ?_
   refine RL.pp ?_
   refine RL.part 21 rfl (fun h21 => ?_) (fun h21 => ?_)
   ·
    refine RL.qq ?_
    refine RL.qq ?_
    refine RL.pd ?_
    refine CW.yes (by first | rfl | exact congrArg (fun b => some (Value.bool b)) (by assumption)) ?_
    refine CW.seq (CW.plain ?_)
    refine RL.build rfl rfl rfl rfl ze44 pl44 rfl rfl ?_
    refine RL.sB (b := b12) (i := 0) (j := 0) rfl rfl rfl ty44 rfl rfl hg12 rfl (hb12) rfl rfl ?_
    rintro w15 Q15 (hg15 : Good _ s (Q15 :: Q11 :: os)) hax15 hb15
    refine ⟨trivial, ?_⟩
    refine RL.pd ?_
    refine CW.ret (ret (vs := [_, _]) ⟨_, _, _, rfl, rfl, loadVar_agg ty44 hb15 (hg15.mem (by simp)) rfl, _, _, rfl, rfl, rfl⟩ ?_)
    have hbad : newBad id v.hard v.log v.gone = true := newBad_iff.2 (.inr (.inr (.inl h21)))
    exact Post.mk (Le.refl _) ((hg15.drop).drop).nil (hax11.trans (hax12.trans hax15)) ⟨hd0, by rw [newP_bad hbad]; rfl, by rw [newP_bad hbad]; exact RaftAt.zero _⟩
   ·
    have e2 : ¬ (v.gone = true) := by rw [h21]; decide
    refine RL.fi fl35_1 ?_
    refine RL.ls 3 ty33 hb11 hg12 ?_
    refine RL.callV rfl rfl rfl rfl rfl ca29 (Check_log_ct hg12 (.inl rfl) hl) ?_
    rintro v16 w16 (hg16 : Good _ s (Q12 :: Q11 :: os)) hax16 rfl
    refine ⟨trivial, ?_⟩
    refine RL.pu ?_
    refine RL.pd ?_
    refine CW.cond rfl (fun h26 => ?_) (fun h26 => ?_)
    ·
     refine CW.seq (CW.plain ?_)
     refine RL.build rfl rfl rfl rfl ze44 pl44 rfl rfl ?_
     refine RL.sB (b := b12) (i := 0) (j := 0) rfl rfl rfl ty44 rfl rfl hg16 rfl (hb12) rfl rfl ?_
     rintro w17 Q17 (hg17 : Good _ s (Q17 :: Q11 :: os)) hax17 hb17
     refine ⟨trivial, ?_⟩
     refine RL.pd ?_
     refine CW.ret (ret (vs := [_, _]) ⟨_, _, _, rfl, rfl, loadVar_agg ty44 hb17 (hg17.mem (by simp)) rfl, _, _, rfl, rfl, rfl⟩ ?_)
     have hbad : newBad id v.hard v.log v.gone = true := newBad_iff.2 (.inr (.inr (.inr (.inl (by simpa using h26)))))
     exact Post.mk (Le.refl _) ((hg17.drop).drop).nil (hax11.trans (hax12.trans (hax16.trans hax17))) ⟨hd0, by rw [newP_bad hbad]; rfl, by rw [newP_bad hbad]; exact RaftAt.zero _⟩
    ·
     have e3 : ¬ (logOk v.log = false) := by simpa using h26
     refine CW.skip ?_
     refine CW.seq (CW.plain ?_)
     refine RL.fi fl35_1 ?_
     refine RL.ls 3 ty33 hb11 hg16 ?_
     refine RL.call rfl rfl rfl rfl rfl ca30 (Conf_ct hg16 (.inl rfl) hl hS) ?_
     rintro v18 s18 B18 w18 hle18 (hg18 : Good _ s18 (B18 :: Q12 :: Q11 :: os)) hax18 ⟨vs31, rfl, hC31⟩
     have hg18 := hg18.drop
     obtain ⟨va, vc, la, lc, rfl, hva, hla⟩ := hC31
     have hC : RConf s18 [.slice va (confP v.log).1.voters.length vc, .slice la (confP v.log).1.learners.length lc] (confP v.log).1 := ⟨_, _, _, _, rfl, hva, hla⟩
     have hl := (hl.up hle18).mem hle18
     refine ⟨trivial, ?_⟩
     refine RL.pp ?_
     refine RL.pu ?_
     refine RL.allocN rfl rfl rfl rfl ze27 hg18 ?_
     rintro b19 w19 Q19 (hg19 : Good _ s18 (Q19 :: Q12 :: Q11 :: os)) hax19 hb19
     refine ⟨trivial, ?_⟩
     refine RL.sB (b := b19) (i := 0) (j := 0) rfl rfl rfl ty27 rfl rfl hg19 rfl (hb19) rfl rfl ?_
     rintro w20 Q20 (hg20 : Good _ s18 (Q20 :: Q12 :: Q11 :: os)) hax20 hb20
     refine ⟨trivial, ?_⟩
     refine RL.pd ?_
     refine CW.seq (CW.plain ?_)
     refine RL.fi fl35_1 ?_
     refine RL.ls 3 ty33 hb11 hg20 ?_
     refine RL.callV rfl rfl rfl rfl rfl ca31 (Last_ct hg20 (.inl rfl) hl) ?_
     rintro v21 w21 (hg21 : Good _ s18 (Q20 :: Q12 :: Q11 :: os)) hax21 rfl
     refine ⟨trivial, ?_⟩
     refine RL.pp ?_
     refine RL.pp ?_
     refine RL.pd ?_
     refine CW.seq ?_
     refine CW.seq (CW.plain ?_)
     refine RL.fi fl35_0 ?_
     refine RL.ls 0 ty24 hb11 hg21 ?_
     refine RL.allocN rfl rfl rfl rfl ze24 hg21 ?_
     rintro b22 w22 Q22 (hg22 : Good _ s18 (Q22 :: Q20 :: Q12 :: Q11 :: os)) hax22 hb22
     refine ⟨trivial, ?_⟩
     refine RL.sB (b := b22) (i := 0) (j := 0) rfl rfl rfl ty24 rfl rfl hg22 rfl (hb22) rfl rfl ?_
     rintro w23 Q23 (hg23 : Good _ s18 (Q23 :: Q20 :: Q12 :: Q11 :: os)) hax23 hb23
     refine ⟨trivial, ?_⟩
     refine RL.done ?_
     refine CW.block ?_
     refine CW.seq ?_
     refine CW.seq (CW.plain ?_)
     refine RL.ls 0 ty27 hb20 hg23 ?_
     refine RL.call rfl rfl rfl rfl rfl ca32 (may_ct hg23 hC hcs) ?_
     rintro v24 s24 B24 w24 hle24 (hg24 : Good _ s24 (B24 :: Q23 :: Q20 :: Q12 :: Q11 :: os)) hax24 rfl
     have hg24 := hg24.drop
     have hl := (hl.up hle24).mem hle24
     refine ⟨trivial, ?_⟩
     refine RL.pp ?_
     refine RL.part 46 rfl (fun h46 => ?_) (fun h46 => ?_)
     ·
      refine RL.qq ?_
      refine RL.qq ?_
      refine RL.qq ?_
      refine RL.pu ?_
      refine RL.pd ?_
      refine CW.yes (by first | rfl | exact congrArg (fun b => some (Value.bool b)) (by assumption)) ?_
      refine CW.skip ?_
      refine CW.yes (by first | rfl | exact congrArg (fun b => some (Value.bool b)) (by assumption)) ?_
      refine CW.seq (CW.plain ?_)
      refine RL.build rfl rfl rfl rfl ze44 pl44 rfl rfl ?_
      refine RL.sB (b := b12) (i := 2) (j := 0) rfl rfl rfl ty44 rfl rfl hg24 rfl (hb12) rfl rfl ?_
      rintro w25 Q25 (hg25 : Good _ s24 (Q23 :: Q20 :: Q25 :: Q11 :: os)) hax25 hb25
      refine ⟨trivial, ?_⟩
      refine RL.pd ?_
      refine CW.ret (ret (vs := [_, _]) ⟨_, _, _, rfl, rfl, loadVar_agg ty44 hb25 (hg25.mem (by simp)) rfl, _, _, rfl, rfl, rfl⟩ ?_)
      have hbad : newBad id v.hard v.log v.gone = true := newBad_iff.2 (.inr (.inr (.inr (.inr (.inl (by simpa using h46))))))
      exact Post.mk (hle18.trans hle24) ((((hg25.drop).drop).drop).drop).nil (hax11.trans (hax12.trans (hax16.trans (hax18.trans (hax19.trans (hax20.trans (hax21.trans (hax22.trans (hax23.trans (hax24.trans hax25)))))))))) ⟨hd0, by rw [newP_bad hbad]; rfl, by rw [newP_bad hbad]; exact RaftAt.zero _⟩
     ·
      have e4 : ¬ (mayP (confP v.log).1 = false) := by simpa using h46
      refine RL.fi fl35_1 ?_
      refine RL.fi fl33_0 ?_
      refine RL.fi fl30_2 ?_
      refine RL.ls 5 ty27 hb11 hg24 ?_
      refine RL.call rfl rfl rfl rfl rfl ca32 (may_ct hg24 hl.conf hS.1) ?_
      rintro v26 s26 B26 w26 hle26 (hg26 : Good _ s26 (B26 :: Q23 :: Q20 :: Q12 :: Q11 :: os)) hax26 rfl
      have hg26 := hg26.drop
      have hl := (hl.up hle26).mem hle26
      refine ⟨trivial, ?_⟩
      refine RL.pp ?_
      refine RL.pd ?_
      refine CW.cond rfl (fun h42 => ?_) (fun h42 => ?_)
      ·
       refine CW.skip ?_
       refine CW.yes (by first | rfl | exact congrArg (fun b => some (Value.bool b)) (by assumption)) ?_
       refine CW.seq (CW.plain ?_)
       refine RL.build rfl rfl rfl rfl ze44 pl44 rfl rfl ?_
       refine RL.sB (b := b12) (i := 2) (j := 0) rfl rfl rfl ty44 rfl rfl hg26 rfl (hb12) rfl rfl ?_
       rintro w27 Q27 (hg27 : Good _ s26 (Q23 :: Q20 :: Q27 :: Q11 :: os)) hax27 hb27
       refine ⟨trivial, ?_⟩
       refine RL.pd ?_
       refine CW.ret (ret (vs := [_, _]) ⟨_, _, _, rfl, rfl, loadVar_agg ty44 hb27 (hg27.mem (by simp)) rfl, _, _, rfl, rfl, rfl⟩ ?_)
       have hbad : newBad id v.hard v.log v.gone = true := newBad_iff.2 (.inr (.inr (.inr (.inr (.inr (.inl (by simpa using h42)))))))
       exact Post.mk (hle18.trans (hle24.trans hle26)) ((((hg27.drop).drop).drop).drop).nil (hax11.trans (hax12.trans (hax16.trans (hax18.trans (hax19.trans (hax20.trans (hax21.trans (hax22.trans (hax23.trans (hax24.trans (hax26.trans hax27))))))))))) ⟨hd0, by rw [newP_bad hbad]; rfl, by rw [newP_bad hbad]; exact RaftAt.zero _⟩
      ·
       have e5 : ¬ (mayP v.log.base.conf = false) := by simpa using h42
       refine CW.seq (CW.plain ?_)
       refine RL.pp ?_
       refine RL.pu ?_
       refine RL.part 56 rfl (fun h56 => ?_) (fun h56 => ?_)
       ·
        refine RL.qq ?_
        refine RL.pa ?_
        refine RL.pp ?_
        refine RL.qq ?_
        refine RL.qq ?_
        refine RL.pu ?_
        refine RL.pd ?_
        refine CW.yes (by first | rfl | exact congrArg (fun b => some (Value.bool b)) (by assumption)) ?_
        refine CW.skip ?_
        refine CW.yes (by first | rfl | exact congrArg (fun b => some (Value.bool b)) (by assumption)) ?_
        refine CW.seq (CW.plain ?_)
        refine RL.build rfl rfl rfl rfl ze44 pl44 rfl rfl ?_
        refine RL.sB (b := b12) (i := 2) (j := 0) rfl rfl rfl ty44 rfl rfl hg26 rfl (hb12) rfl rfl ?_
        rintro w28 Q28 (hg28 : Good _ s26 (Q23 :: Q20 :: Q28 :: Q11 :: os)) hax28 hb28
        refine ⟨trivial, ?_⟩
        refine RL.pd ?_
        refine CW.ret (ret (vs := [_, _]) ⟨_, _, _, rfl, rfl, loadVar_agg ty44 hb28 (hg28.mem (by simp)) rfl, _, _, rfl, rfl, rfl⟩ ?_)
        have hbad : newBad id v.hard v.log v.gone = true := newBad_iff.2 (.inr (.inr (.inr (.inr (.inr (.inr (.inl (decide_t h56))))))))
        exact Post.mk (hle18.trans (hle24.trans hle26)) ((((hg28.drop).drop).drop).drop).nil (hax11.trans (hax12.trans (hax16.trans (hax18.trans (hax19.trans (hax20.trans (hax21.trans (hax22.trans (hax23.trans (hax24.trans (hax26.trans hax28))))))))))) ⟨hd0, by rw [newP_bad hbad]; rfl, by rw [newP_bad hbad]; exact RaftAt.zero _⟩
       ·
        have e6 : ¬ (p61 ≤ (lastP v.log).1) := decide_f h56
        refine RL.fi fl24_0 ?_
        refine RL.lo 0 ty22 hb23 hg26 ?_
        refine RL.pp ?_
        refine RL.pu ?_
        refine RL.part 61 rfl (fun h61 => ?_) (fun h61 => ?_)
        ·
         refine RL.qq ?_
         refine RL.qq ?_
         refine RL.pu ?_
         refine RL.pd ?_
         refine CW.yes (by first | rfl | exact congrArg (fun b => some (Value.bool b)) (by assumption)) ?_
         refine CW.skip ?_
         refine CW.yes (by first | rfl | exact congrArg (fun b => some (Value.bool b)) (by assumption)) ?_
         refine CW.seq (CW.plain ?_)
         refine RL.build rfl rfl rfl rfl ze44 pl44 rfl rfl ?_
         refine RL.sB (b := b12) (i := 2) (j := 0) rfl rfl rfl ty44 rfl rfl hg26 rfl (hb12) rfl rfl ?_
         rintro w29 Q29 (hg29 : Good _ s26 (Q23 :: Q20 :: Q29 :: Q11 :: os)) hax29 hb29
         refine ⟨trivial, ?_⟩
         refine RL.pd ?_
         refine CW.ret (ret (vs := [_, _]) ⟨_, _, _, rfl, rfl, loadVar_agg ty44 hb29 (hg29.mem (by simp)) rfl, _, _, rfl, rfl, rfl⟩ ?_)
         have hbad : newBad id v.hard v.log v.gone = true := newBad_iff.2 (.inr (.inr (.inr (.inr (.inr (.inr (.inr (.inl (decide_t h61)))))))))
         exact Post.mk (hle18.trans (hle24.trans hle26)) ((((hg29.drop).drop).drop).drop).nil (hax11.trans (hax12.trans (hax16.trans (hax18.trans (hax19.trans (hax20.trans (hax21.trans (hax22.trans (hax23.trans (hax24.trans (hax26.trans hax29))))))))))) ⟨hd0, by rw [newP_bad hbad]; rfl, by rw [newP_bad hbad]; exact RaftAt.zero _⟩
        ·
         have e7 : ¬ (p61 ≤ v.hard.term) := decide_f h61
         refine RL.fi fl24_0 ?_
         refine RL.lo 0 ty22 hb23 hg26 ?_
         refine RL.pp ?_
         refine RL.pu ?_
         refine RL.pd ?_
         refine CW.cond rfl (fun h42 => ?_) (fun h42 => ?_)
         ·
          refine CW.skip ?_
          refine CW.yes (by first | rfl | exact congrArg (fun b => some (Value.bool b)) (by assumption)) ?_
          refine CW.seq (CW.plain ?_)
          refine RL.build rfl rfl rfl rfl ze44 pl44 rfl rfl ?_
          refine RL.sB (b := b12) (i := 2) (j := 0) rfl rfl rfl ty44 rfl rfl hg26 rfl (hb12) rfl rfl ?_
          rintro w30 Q30 (hg30 : Good _ s26 (Q23 :: Q20 :: Q30 :: Q11 :: os)) hax30 hb30
          refine ⟨trivial, ?_⟩
          refine RL.pd ?_
          refine CW.ret (ret (vs := [_, _]) ⟨_, _, _, rfl, rfl, loadVar_agg ty44 hb30 (hg30.mem (by simp)) rfl, _, _, rfl, rfl, rfl⟩ ?_)
          have hbad : newBad id v.hard v.log v.gone = true := newBad_iff.2 (.inr (.inr (.inr (.inr (.inr (.inr (.inr (.inr (.inl (decide_t h42))))))))))
          exact Post.mk (hle18.trans (hle24.trans hle26)) ((((hg30.drop).drop).drop).drop).nil (hax11.trans (hax12.trans (hax16.trans (hax18.trans (hax19.trans (hax20.trans (hax21.trans (hax22.trans (hax23.trans (hax24.trans (hax26.trans hax30))))))))))) ⟨hd0, by rw [newP_bad hbad]; rfl, by rw [newP_bad hbad]; exact RaftAt.zero _⟩
         ·
          have e8 : ¬ (v.hard.term < (lastP v.log).2) := decide_f h42
          refine CW.seq (CW.plain ?_)
          refine RL.fi fl24_2 ?_
          refine RL.lo 2 ty22 hb23 hg26 ?_
          refine RL.fi fl35_1 ?_
          refine RL.fi fl33_0 ?_
          refine RL.fi fl30_0 ?_
          refine RL.lo 3 ty22 hb11 hg26 ?_
          refine RL.pp ?_
          refine RL.part 74 rfl (fun h74 => ?_) (fun h74 => ?_)
          ·
           refine RL.qq ?_
           refine RL.qq ?_
           refine RL.pu ?_
           refine RL.pd ?_
           refine CW.yes (by first | rfl | exact congrArg (fun b => some (Value.bool b)) (by assumption)) ?_
           refine CW.skip ?_
           refine CW.yes (by first | rfl | exact congrArg (fun b => some (Value.bool b)) (by assumption)) ?_
           refine CW.seq (CW.plain ?_)
           refine RL.build rfl rfl rfl rfl ze44 pl44 rfl rfl ?_
           refine RL.sB (b := b12) (i := 2) (j := 0) rfl rfl rfl ty44 rfl rfl hg26 rfl (hb12) rfl rfl ?_
           rintro w31 Q31 (hg31 : Good _ s26 (Q23 :: Q20 :: Q31 :: Q11 :: os)) hax31 hb31
           refine ⟨trivial, ?_⟩
           refine RL.pd ?_
           refine CW.ret (ret (vs := [_, _]) ⟨_, _, _, rfl, rfl, loadVar_agg ty44 hb31 (hg31.mem (by simp)) rfl, _, _, rfl, rfl, rfl⟩ ?_)
           have hbad : newBad id v.hard v.log v.gone = true := newBad_iff.2 (.inr (.inr (.inr (.inr (.inr (.inr (.inr (.inr (.inr (.inl (decide_t h74)))))))))))
           exact Post.mk (hle18.trans (hle24.trans hle26)) ((((hg31.drop).drop).drop).drop).nil (hax11.trans (hax12.trans (hax16.trans (hax18.trans (hax19.trans (hax20.trans (hax21.trans (hax22.trans (hax23.trans (hax24.trans (hax26.trans hax31))))))))))) ⟨hd0, by rw [newP_bad hbad]; rfl, by rw [newP_bad hbad]; exact RaftAt.zero _⟩
          ·
           have e9 : ¬ (v.hard.commit < v.log.base.index) := decide_f h74
           refine RL.fi fl24_2 ?_
           refine RL.lo 2 ty22 hb23 hg26 ?_
           refine RL.pp ?_
           refine RL.pu ?_
           refine RL.pd ?_
           refine CW.cond rfl (fun h42 => ?_) (fun h42 => ?_)
           ·
            refine CW.skip ?_
            refine CW.yes (by first | rfl | exact congrArg (fun b => some (Value.bool b)) (by assumption)) ?_
            refine CW.seq (CW.plain ?_)
            refine RL.build rfl rfl rfl rfl ze44 pl44 rfl rfl ?_
            refine RL.sB (b := b12) (i := 2) (j := 0) rfl rfl rfl ty44 rfl rfl hg26 rfl (hb12) rfl rfl ?_
            rintro w32 Q32 (hg32 : Good _ s26 (Q23 :: Q20 :: Q32 :: Q11 :: os)) hax32 hb32
            refine ⟨trivial, ?_⟩
            refine RL.pd ?_
            refine CW.ret (ret (vs := [_, _]) ⟨_, _, _, rfl, rfl, loadVar_agg ty44 hb32 (hg32.mem (by simp)) rfl, _, _, rfl, rfl, rfl⟩ ?_)
            have hbad : newBad id v.hard v.log v.gone = true := newBad_iff.2 (.inr (.inr (.inr (.inr (.inr (.inr (.inr (.inr (.inr (.inr (.inl (decide_t h42))))))))))))
            exact Post.mk (hle18.trans (hle24.trans hle26)) ((((hg32.drop).drop).drop).drop).nil (hax11.trans (hax12.trans (hax16.trans (hax18.trans (hax19.trans (hax20.trans (hax21.trans (hax22.trans (hax23.trans (hax24.trans (hax26.trans hax32))))))))))) ⟨hd0, by rw [newP_bad hbad]; rfl, by rw [newP_bad hbad]; exact RaftAt.zero _⟩
           ·
            have e10 : ¬ ((lastP v.log).1 < v.hard.commit) := decide_f h42
            refine CW.plain ?_
            refine RL.fi fl24_1 ?_
            refine RL.lo 1 ty3 hb23 hg26 ?_
            refine RL.pp ?_
            refine RL.part 83 rfl (fun h83 => ?_) (fun h83 => ?_)
            ·
             refine RL.qq ?_
             refine RL.pa ?_
             refine RL.pu ?_
             refine RL.pd ?_
             refine CW.yes (by first | rfl | exact congrArg (fun b => some (Value.bool b)) (by assumption)) ?_
             refine CW.seq (CW.plain ?_)
             refine RL.build rfl rfl rfl rfl ze44 pl44 rfl rfl ?_
             refine RL.sB (b := b12) (i := 2) (j := 0) rfl rfl rfl ty44 rfl rfl hg26 rfl (hb12) rfl rfl ?_
             rintro w33 Q33 (hg33 : Good _ s26 (Q23 :: Q20 :: Q33 :: Q11 :: os)) hax33 hb33
             refine ⟨trivial, ?_⟩
             refine RL.pd ?_
             refine CW.ret (ret (vs := [_, _]) ⟨_, _, _, rfl, rfl, loadVar_agg ty44 hb33 (hg33.mem (by simp)) rfl, _, _, rfl, rfl, rfl⟩ ?_)
             have hbad : newBad id v.hard v.log v.gone = true := newBad_iff.2 (.inr (.inr (.inr (.inr (.inr (.inr (.inr (.inr (.inr (.inr (.inr (.inl (decide_t h83)))))))))))))
             exact Post.mk (hle18.trans (hle24.trans hle26)) ((((hg33.drop).drop).drop).drop).nil (hax11.trans (hax12.trans (hax16.trans (hax18.trans (hax19.trans (hax20.trans (hax21.trans (hax22.trans (hax23.trans (hax24.trans (hax26.trans hax33))))))))))) ⟨hd0, by rw [newP_bad hbad]; rfl, by rw [newP_bad hbad]; exact RaftAt.zero _⟩
            ·
             have e11 : ¬ (v.hard.vote < 0) := decide_f h83
             refine RL.fi fl24_1 ?_
             refine RL.lo 1 ty3 hb23 hg26 ?_
             refine RL.pp ?_
             refine RL.pd ?_
             refine CW.cond rfl (fun h42 => ?_) (fun h42 => ?_)
             ·
              refine CW.seq (CW.plain ?_)
              refine RL.build rfl rfl rfl rfl ze44 pl44 rfl rfl ?_
              refine RL.sB (b := b12) (i := 2) (j := 0) rfl rfl rfl ty44 rfl rfl hg26 rfl (hb12) rfl rfl ?_
              rintro w34 Q34 (hg34 : Good _ s26 (Q23 :: Q20 :: Q34 :: Q11 :: os)) hax34 hb34
              refine ⟨trivial, ?_⟩
              refine RL.pd ?_
              refine CW.ret (ret (vs := [_, _]) ⟨_, _, _, rfl, rfl, loadVar_agg ty44 hb34 (hg34.mem (by simp)) rfl, _, _, rfl, rfl, rfl⟩ ?_)
              have hbad : newBad id v.hard v.log v.gone = true := newBad_iff.2 (.inr (.inr (.inr (.inr (.inr (.inr (.inr (.inr (.inr (.inr (.inr (.inr (decide_t h42)))))))))))))
              exact Post.mk (hle18.trans (hle24.trans hle26)) ((((hg34.drop).drop).drop).drop).nil (hax11.trans (hax12.trans (hax16.trans (hax18.trans (hax19.trans (hax20.trans (hax21.trans (hax22.trans (hax23.trans (hax24.trans (hax26.trans hax34))))))))))) ⟨hd0, by rw [newP_bad hbad]; rfl, by rw [newP_bad hbad]; exact RaftAt.zero _⟩
             ·
              have e12 : ¬ (7 < v.hard.vote) := decide_f h42
              refine CW.skip ?_
              refine CW.seq (CW.plain ?_)
              refine RL.pu ?_
              refine RL.fi fl35_0 ?_
              refine RL.ls 0 ty24 hb11 hg26 ?_
              refine RL.fi fl35_1 ?_
              refine RL.ls 3 ty33 hb11 hg26 ?_
              refine RL.build rfl rfl rfl rfl ze44 pl44 rfl rfl ?_
              refine RL.call rfl rfl rfl rfl rfl ca33 (copied_ct (r := newR id v) (h := { h with ba := none, bc := 0, pa := none, pc := 0, ta := none, tc := 0 }) hg26 ⟨⟨hl.1, hl.2, hl.3, hl.4, hl.5, hl.6⟩, Imm.nil _ _ _ (Nat.zero_le _), Imm.nil _ _ _ (Nat.zero_le _), Imm.nil _ _ _ (Nat.zero_le _)⟩ hS (Nat.zero_le _) (Nat.zero_le _) (Nat.zero_le _)) ?_
              rintro v35 s35 B35 w35 hle35 (hg35 : Good _ s35 (B35 :: Q23 :: Q20 :: Q12 :: Q11 :: os)) hax35 ⟨h95, rfl, hN95⟩
              obtain ⟨t35, hgl35, hll35, hml35⟩ := hg35.letgo
              have hg35 : Good _ t35 (Q23 :: Q20 :: Q12 :: Q11 :: os) := hgl35
              have hRA := hN95.raftAt (n := ⟨newR id v, Out.zero⟩) ⟨hid, ht, hv, hc, hl.index, hl.term⟩ hll35 hml35
              refine ⟨trivial, ?_⟩
              refine RL.sB (b := b12) (i := 2) (j := 0) rfl rfl rfl ty44 rfl rfl hg35 rfl (hb12) rfl rfl ?_
              rintro w36 Q36 (hg36 : Good _ t35 (Q23 :: Q20 :: Q36 :: Q11 :: os)) hax36 hb36
              refine ⟨trivial, ?_⟩
              refine RL.pd ?_
              refine CW.ret (ret (vs := [_, _]) ⟨_, _, _, rfl, rfl, loadVar_agg ty44 hb36 (hg36.mem (by simp)) rfl, _, _, rfl, rfl, rfl⟩ ?_)
              have hok : newBad id v.hard v.log v.gone = false := Bool.eq_false_iff.2 fun z => (fun z => (z.elim e0 fun z => (z.elim e1 fun z => (z.elim e2 fun z => (z.elim e3 fun z => (z.elim e4 fun z => (z.elim e5 fun z => (z.elim e6 fun z => (z.elim e7 fun z => (z.elim e8 fun z => (z.elim e9 fun z => (z.elim e10 fun z => (z.elim e11 e12))))))))))))) (newBad_iff.1 z)
              exact Post.mk (hle18.trans (hle24.trans (hle26.trans (hle35.trans hll35)))) ((((hg36.drop).drop).drop).drop).nil (hax11.trans (hax12.trans (hax16.trans (hax18.trans (hax19.trans (hax20.trans (hax21.trans (hax22.trans (hax23.trans (hax24.trans (hax26.trans (hax35.trans hax36)))))))))))) ⟨h95, by rw [newP_ok hok]; rfl, by rw [newP_ok hok]; exact hRA⟩
end
end Go.Lw

/-
 The walk engine: structs held against each other.
-/
namespace Go.Lw
section
variable {P : Program} {n : Nat} {ops : Array Oper} {Q : Exit → Act → World → Prop} {S : World → Prop} {rest : List (Bool × Oper)} {E : Env} {w : World} {o : Oper} {d : Nat} {v : Value} {x y : Operand} {T : Bool}
theorem RL.stNe {t yt : TypeId} {us vs : Array Value} (hg : wants ops E o = some true) (hd : o.dst = some d) (hb : Nat.blt d n = true) (ho : o.op = .binOp .neq t x y yt) (hm : P.eqGuardType P.depth t = false)
  (hx : ev E x = some (.agg us)) (hy : ev E y = some (.agg vs)) (hr : ∀ w, (binOp .neq t (.agg us) (.agg vs)).run P w = .ok v w) (h : RL P n ops Q S rest ((d, v) :: E) w) : RL P n ops Q S ((T, o) :: rest) E w := by
 refine RL.val hg hd hb (fun w ac ha => ?_) h
 unfold execOp
 simp only [ho, ha.ev hx, ha.ev hy, Sem.run_bind, run_eqGuard_agg _ _ _ _ _ _ _ hm, Result.andThen_ok]
 simp [hr w]
end
end Go.Lw

/-
 raftcore by the program: Step.
-/
namespace Go.Lw
open Go.Proofs
attribute [local irreducible] RL RA
abbrev hardV (h : Hard) : Array Value := #[u64 h.term, i64 h.vote, u64 h.commit]
theorem hard_ne (a b : Hard) (w : World) : (binOp .neq 24 (.agg (hardV a)) (.agg (hardV b))).run Tryz.prog w = .ok (.bool (decide (a ≠ b))) w := by
 have u1 := Tryz.underlying3
 have a1 := Tryz.isAgg3
 have z1 := Tryz.sizeOf3
 have u2 := Tryz.underlying22
 have a2 := Tryz.isAgg22
 have z2 := Tryz.sizeOf22
 have hS : Tryz.prog.underlying 24 = some (.struct (Tryz.prog.fieldsOf 24)) := by kernel_rfl
 have hp : Tryz.prog.stoodInHeld 24 = false := by kernel_rfl
 rw [run_neq_struct, show (10000 : Nat) = 9999 + 1 from rfl, run_equalIn_agg w 9999 24 _ _ hS hp]
 simp only [Program.fieldsOf, Tryz.underlying24]
 obtain ⟨t, v, c⟩ := a
 obtain ⟨t', v', c'⟩ := b
 by_cases h1 : t = t'
 ·
  subst h1
  by_cases h2 : v = v'
  ·
   subst h2
   by_cases h3 : c = c'
   ·
    subst h3; go_simp
   ·
    go_simp
  ·
   go_simp
 ·
  go_simp
def OutAt (s : Res) (o : Out) (h : Hd) : Prop := Imm REntry 6 s h.oa h.oc o.entries ∧ Imm RMsg 14 s h.ma h.mc o.msgs
theorem OutAt.up {s s' : Res} {o : Out} {h : Hd} (k : OutAt s o h) (hl : Le s s') : OutAt s' o h := ⟨k.1.up REntry.up hl, k.2.up RMsg.up hl⟩
structure InpOk (s : Res) (i : Inp) (y : Lay) (da : Option Addr) (dc : Nat) : Prop where
 msg : MsgOk s i.msg y
 kind : rng .i64 i.kind
 timeout : rng .i64 i.timeout
 chKind : rng .i64 i.chKind
 chNode : rng .i64 i.chNode
 to : rng .i64 i.to
 data : Imm (RInt .u8) 1 s da dc i.data
theorem InpOk.up {s s' : Res} {i : Inp} {y : Lay} {da : Option Addr} {dc : Nat} (k : InpOk s i y da dc) (hl : Le s s') : InpOk s' i y da dc :=
 { k with msg := k.msg.up hl, data := k.data.up (RInt.up _) hl }
noncomputable def Node.act (n : Node) (i : Inp) : Node × Int := if i.kind = 1 then (n.tick i.timeout, 0) else if i.kind = 2 then (n.message i.msg, 0) else if i.kind = 3 ∨ i.kind = 4 ∨ i.kind = 5 then n.asked i else (n, 1)
def Node.bears (n : Node) (i : Inp) : Prop := n.takes i.msg ∧ i.data.length ≤ 1073741824 ∧ (n.changed i.chKind i.chNode).1.small
abbrev newN (r : Raft) : Node := ⟨r, Out.zero⟩
theorem stepP_err {r : Raft} {i : Inp} (h : ((newN r).act i).2 ≠ 0) : stepP r i = (r, Out.zero, ((newN r).act i).2) := by unfold stepP; exact if_pos h
theorem stepP_ok {r : Raft} {i : Inp} (h : ¬ ((newN r).act i).2 ≠ 0) : stepP r i = (((newN r).act i).1.s, (((newN r).act i).1.wSave (decide (((newN r).act i).1.s.hard ≠ r.hard))).o, 0) := by unfold stepP; exact if_neg h
def ActsAs (f : FuncId) (n : Node) (i : Inp) (y : Lay) (da : Option Addr) (dc : Nat) (p : Nat) : Prop :=
 callable Tryz.prog f = true ∧ ∀ {w : World} {s A : Res} {os : List Res} {h : Hd}, Good w s (A :: os) → Nd s A p h n → InpOk s i y da dc →
  Calls Tryz.prog f #[ptr p, .agg (inpV i y da dc).toArray] w (NPost w s os p (i64 (n.act i).2) (n.act i).1)
section
variable {n : Node} {i : Inp} {y : Lay} {da : Option Addr} {dc p : Nat}
set_option maxRecDepth 100000 in
theorem acts_tick (hk : i.kind = 1) (hR : NRng n) (hb : n.bears i) : ActsAs 35 n i y da dc p := by
 refine ⟨rfl, fun hg nd ho => ?_⟩
 rw [show n.act i = (n.tick i.timeout, 0) from if_pos hk]
 exact tick_ct hg nd hR hb.1.1
set_option maxRecDepth 100000 in
theorem acts_message (hk : i.kind = 2) (hR : NRng n) (hb : n.bears i) : ActsAs 36 n i y da dc p := by
 refine ⟨rfl, fun hg nd ho => ?_⟩
 rw [show n.act i = (n.message i.msg, 0) by unfold Node.act; rw [if_neg (by omega), if_pos hk]]
 exact message_ct rfl hg nd hR hb.1 ho.msg
set_option maxRecDepth 100000 in
theorem acts_asked (hk : i.kind = 3 ∨ i.kind = 4 ∨ i.kind = 5) (hR : NRng n) (hb : n.bears i) : ActsAs 37 n i y da dc p := by
 refine ⟨rfl, fun hg nd ho => ?_⟩
 rw [show n.act i = n.asked i by unfold Node.act; rw [if_neg (by omega), if_neg (by omega), if_pos hk]]
 exact asked_ct hg nd hR hb.1.1 ho.chKind ho.chNode ho.to ho.data hb.2.1 hb.2.2
set_option maxRecDepth 100000 in
theorem acts_unknown (hk : i.kind ≠ 1 ∧ i.kind ≠ 2 ∧ i.kind ≠ 3 ∧ i.kind ≠ 4 ∧ i.kind ≠ 5) : ActsAs 34 n i y da dc p := by
 refine ⟨rfl, fun hg nd ho => ?_⟩
 rw [show n.act i = (n, 1) by unfold Node.act; rw [if_neg hk.1, if_neg hk.2.1, if_neg (by omega)]]
 exact unknown_ct hg nd
end
end Go.Lw

/-
 PLAIN: how much a node's state may hold, step by step. No program in sight.
-/
namespace Go.Lw
def Conf.within (c : Nat) (x : Conf) : Prop := x.voters.length ≤ c ∧ x.learners.length ≤ c
def Entry.within (c : Nat) (e : Entry) : Prop := rng .u64 e.index ∧ rng .u64 e.term ∧ e.data.length ≤ c ∧ e.conf.within c
theorem Conf.within.mono {c d : Nat} {x : Conf} (h : x.within c) (hd : c ≤ d) : x.within d := ⟨Nat.le_trans h.1 hd, Nat.le_trans h.2 hd⟩
theorem Entry.within.mono {c d : Nat} {e : Entry} (h : e.within c) (hd : c ≤ d) : e.within d := ⟨h.1, h.2.1, Nat.le_trans h.2.2.1 hd, h.2.2.2.mono hd⟩
theorem Conf.within.none (c : Nat) : Conf.within c ⟨[], []⟩ := ⟨Nat.zero_le _, Nat.zero_le _⟩
structure LFit (c : Nat) (l : Log) : Prop where
 index : rng .u64 l.base.index
 term : rng .u64 l.base.term
 conf : l.base.conf.within c
 data : l.base.data.length ≤ c
 entries : ∀ e ∈ l.entries, e.within c
 count : l.entries.length ≤ c
 low : l.base.index < p61
 run : ∀ (k : Nat) (e : Entry), l.entries[k]? = some e → e.index = IntKind.u64.wrap (l.base.index + 1 + k)
structure Fit (c : Nat) (r : Raft) : Prop where
 id : rng .i64 r.id
 term : rng .u64 r.hard.term
 vote : rng .i64 r.hard.vote
 commit : rng .u64 r.hard.commit
 log : LFit c r.log
 ballots : r.ballots.length ≤ c
 peers : r.peers.length ≤ 2 * c
 mats : ∀ p ∈ r.peers, rng .u64 p.mat
 pindex : rng .u64 r.part.index
 pterm : rng .u64 r.part.term
 part : r.part.data.length ≤ c
structure MFit (d : Nat) (m : Msg) : Prop where
 frm : rng .i64 m.frm
 term : rng .u64 m.term
 index : rng .u64 m.index
 logTerm : rng .u64 m.logTerm
 commit : rng .u64 m.commit
 entries : ∀ e ∈ m.entries, e.within d
 count : m.entries.length ≤ d
 conf : m.conf.within d
 data : m.data.length ≤ d
theorem LFit.mono {c d : Nat} {l : Log} (h : LFit c l) (hd : c ≤ d) : LFit d l :=
 ⟨h.index, h.term, h.conf.mono hd, Nat.le_trans h.data hd, fun e he => (h.entries e he).mono hd, Nat.le_trans h.count hd, h.low, h.run⟩
theorem Fit.mono {c d : Nat} {r : Raft} (h : Fit c r) (hd : c ≤ d) : Fit d r :=
 { h with log := h.log.mono hd, ballots := Nat.le_trans h.ballots hd, peers := Nat.le_trans h.peers (by omega), part := Nat.le_trans h.part hd }
theorem Fit.rng {c : Nat} {n : Node} (h : Fit c n.s) : NRng n := ⟨h.id, h.term, h.vote, h.commit, h.log.index, h.log.term⟩
theorem confE_within {c : Nat} : ∀ {l : List Entry}, (∀ e ∈ l, e.within c) → ∀ x, confE l = some x → x.1.within c
 | [], _, x, h => by cases h
 | e :: l, hs, x, h => by
  simp only [confE] at h
  cases hc : confE l with
  | some r => rw [hc] at h; cases h; exact confE_within (fun y hy => hs y (List.mem_cons_of_mem _ hy)) _ hc
  | none =>
   rw [hc] at h
   simp only at h
   split at h
   ·
    cases h; exact (hs e (List.mem_cons_self ..)).2.2.2
   ·
    cases h
theorem confP_within {c : Nat} {l : Log} (h : LFit c l) : (confP l).1.within c := by
 unfold confP
 cases hc : confE l.entries with
 | none => exact h.conf
 | some r => exact confE_within h.entries _ hc
theorem othersP_within {k : Nat} {c : Conf} (h : c.within k) (x : Int) : (othersP c x).length ≤ 2 * k := by
 have h1 := uniq_le (delP x (c.voters ++ c.learners))
 have h2 := delP_le x (c.voters ++ c.learners)
 have h3 : (c.voters ++ c.learners).length = c.voters.length + c.learners.length := List.length_append
 have h4 := h.1
 have h5 := h.2
 unfold othersP; omega
theorem lastP_rng {c : Nat} {l : Log} (h : LFit c l) : rng .u64 (lastP l).1 ∧ rng .u64 (lastP l).2 := by
 unfold lastP
 cases hc : l.entries.getLast? with
 | none => exact ⟨h.index, h.term⟩
 | some e => exact ⟨(h.entries e (List.mem_of_getLast? hc)).1, (h.entries e (List.mem_of_getLast? hc)).2.1⟩
theorem LFit.none (c : Nat) : LFit c Log.none := ⟨by simp [rng, Log.none, Snap.none], by simp [rng, Log.none, Snap.none], ⟨Nat.zero_le _, Nat.zero_le _⟩, Nat.zero_le _, fun e he => (by cases he), Nat.zero_le _, by simp [Log.none, Snap.none, p61], fun k e hk => by simp [Log.none] at hk⟩
theorem wrap_id {x : Int} (h0 : 0 ≤ x) (h1 : x < 18446744073709551616) : IntKind.u64.wrap x = x := rng.wrap (k := .u64) (by simp only [rng]; omega)
theorem up1_wrap (x : Int) : up1 (IntKind.u64.wrap x) = IntKind.u64.wrap (x + 1) := by
 unfold up1 IntKind.wrap
 simp only [IntKind.bits, IntKind.signed]
 simp
def RunX (l : Log) : Prop := ∀ (k : Nat) (e : Entry), l.entries[k]? = some e → e.index = l.base.index + 1 + k
theorem LFit.runX {c : Nat} {l : Log} (h : LFit c l) (hc : c ≤ 1099511627776) : RunX l := fun k e hk => by
 have h1 := h.run k e hk
 have h2 := (List.getElem?_eq_some_iff.1 hk).1
 have h3 := h.count
 have h4 := h.low
 have h5 := h.index
 simp only [rng, p61] at h4 h5
 rw [wrap_id (by omega) (by omega)] at h1
 exact h1
theorem RunX.place {l : Log} (h : RunX l) (j : Int) : ((placeP l j : Nat) : Int) = max 0 (min (l.entries.length : Int) (j - (l.base.index + 1))) := by
 have hc : placeP l j = (max 0 (min (l.entries.length : Int) (j - (l.base.index + 1)))).toNat := by
  refine searchP_at (n := l.entries.length) (fun k hk => ?_) _ _ _ (Nat.le_refl _) (Nat.zero_le _) (by omega) (Nat.le_refl _)
  have hg := h k _ (List.getElem?_eq_getElem hk)
  unfold notBelow
  rw [List.getElem?_eq_getElem hk]
  simp only [hg, decide_eq_decide]
  omega
 omega
theorem RunX.last {l : Log} (h : RunX l) : (lastP l).1 = l.base.index + l.entries.length := by
 unfold lastP
 cases hl : l.entries.getLast? with
 | none => rw [List.getLast?_eq_none_iff] at hl; simp [hl]
 | some e =>
  rw [List.getLast?_eq_getElem?] at hl
  have h1 := h _ _ hl
  have h2 : 0 < l.entries.length := by
   have := (List.getElem?_eq_some_iff.1 hl).1; omega
  simp only; omega
theorem LFit.last {c : Nat} {l : Log} (h : LFit c l) : (lastP l).1 = IntKind.u64.wrap (l.base.index + l.entries.length) := by
 unfold lastP
 cases hl : l.entries.getLast? with
 | none =>
  rw [List.getLast?_eq_none_iff] at hl
  have h5 := h.index
  simp only [rng] at h5
  rw [hl, wrap_id (by simp; omega) (by simp; omega)]; simp
 | some e =>
  rw [List.getLast?_eq_getElem?] at hl
  have h1 := h.run _ _ hl
  have h2 : 0 < l.entries.length := by
   have := (List.getElem?_eq_some_iff.1 hl).1; omega
  simp only [h1]
  exact congrArg IntKind.u64.wrap (by omega)
theorem RunX.term {l : Log} (h : RunX l) {x : Int} (hx : (termP l x).2 = true) : l.base.index ≤ x ∧ x ≤ l.base.index + l.entries.length := by
 unfold termP at hx
 split at hx
 ·
  omega
 ·
  split at hx
  ·
   rename_i e he
   split at hx
   ·
    rename_i hi
    have h1 := h _ _ he
    have h2 := (List.getElem?_eq_some_iff.1 he).1
    omega
   ·
    cases hx
  ·
   cases hx
theorem mergeP_fit {c d : Nat} {l : Log} {k i t : Int} {more : List Entry} (h : LFit c l) (hm : ∀ e ∈ more, e.within d) (hn : more.length ≤ d) (hc : c + d ≤ 1099511627776) : LFit (c + d) (mergeP l k i t more).log := by
 have hx := h.runX (by omega)
 unfold mergeP
 split
 ·
  exact LFit.none _
 rename_i hrun
 split
 ·
  exact LFit.none _
 rename_i hterm
 split
 ·
  exact LFit.none _
 have hr : runE i t more = true := by
  have : runP i t more = true := by simpa using hrun
  simp only [runP, Bool.and_eq_true] at this
  exact this.2
 cases hf : more.findIdx? (freshP l) with
 | none => exact h.mono (by omega)
 | some j =>
  obtain ⟨hj, hj1, hj2⟩ := List.findIdx?_eq_some_iff_getElem.1 hf
  have hfr : (more[j]?.map (·.index)).getD 0 = i + 1 + j := by
   rw [List.getElem?_eq_getElem hj]
   simp only [Option.map_some, Option.getD_some]
   exact runE_get hr j _ (List.getElem?_eq_getElem hj)
  have hin : l.base.index ≤ i + j ∧ i + j ≤ l.base.index + l.entries.length := by
   rcases Nat.eq_zero_or_pos j with h0 | h0
   ·
    have h1 : (termP l i).2 = true := by
     cases hz : (termP l i).2 with
     | true => rfl
     | false => exact absurd (.inl hz) hterm
    have := hx.term h1
    omega
   ·
    have h1 := hj2 (j - 1) (by omega)
    have h2 := runE_get hr (j - 1) _ (List.getElem?_eq_getElem (by omega))
    have h3 : (termP l more[j - 1].index).2 = true := by
     cases hz : (termP l more[j - 1].index).2 with
     | true => rfl
     | false => simp [freshP, hz] at h1
    have := hx.term h3
    omega
  have hp := hx.place (i + 1 + j)
  have hcnt := h.count
  dsimp only
  rw [hfr]
  refine ⟨h.index, h.term, h.conf.mono (by omega), Nat.le_trans h.data (by omega), fun e he => ?_, ?_, h.low, fun q e hq => ?_⟩
  ·
   rcases List.mem_append.1 he with he | he
   ·
    exact (h.entries e (List.mem_of_mem_take he)).mono (by omega)
   ·
    exact (hm e (List.mem_of_mem_drop he)).mono (by omega)
  ·
   simp only [List.length_append, List.length_take, List.length_drop]; omega
  ·
   have hql := (List.getElem?_eq_some_iff.1 hq).1
   simp only [List.length_append, List.length_take, List.length_drop] at hql
   have hlow := h.low
   have hix := h.index
   simp only [rng, p61] at hlow hix
   rw [wrap_id (by simp only; omega) (by simp only; omega)]
   by_cases hlt : q < placeP l (i + 1 + j)
   ·
    rw [List.getElem?_append_left (by rw [List.length_take]; omega), List.getElem?_take_of_lt hlt] at hq
    exact hx q e hq
   ·
    rw [List.getElem?_append_right (by rw [List.length_take]; omega), List.getElem?_drop] at hq
    have := runE_get hr _ _ hq
    rw [List.length_take] at this
    simp only
    omega
theorem insP_len (n : Int) (l : List Int) : (insP n l).length ≤ l.length + 1 := Nat.le_of_eq (insP_length n l)
theorem applyP_within {k : Nat} {c : Conf} (h : c.within k) (a b : Int) : (applyP c a b).1.within (k + 1) := by
 have h1 := insP_len b c.voters
 have h2 := insP_len b c.learners
 have h3 := delP_le b c.voters
 have h4 := delP_le b c.learners
 have h5 := h.1
 have h6 := h.2
 unfold applyP
 repeat' split
 all_goals exact ⟨by simp [Conf.none]; try omega, by simp [Conf.none]; try omega⟩
/-! ### a node's acts -/
section
variable {c d : Nat} {n : Node}
theorem fit_follow {t l : Int} (h : Fit c n.s) (ht : rng .u64 t) : Fit c (n.follow t l).s := by
 unfold Node.follow
 by_cases hc : n.s.hard.term < t
 ·
  exact { h with term := by simp only [if_pos hc]; exact ht, vote := by simp only [if_pos hc]; simp [Lw.rng], commit := by simp only [if_pos hc]; exact h.commit, ballots := Nat.zero_le _, peers := Nat.zero_le _, mats := fun p hp => by cases hp }
 ·
  exact { h with term := by simp only [if_neg hc]; exact h.term, vote := by simp only [if_neg hc]; exact h.vote, commit := by simp only [if_neg hc]; exact h.commit, ballots := Nat.zero_le _, peers := Nat.zero_le _, mats := fun p hp => by cases hp }
theorem fit_ballot {frm : Int} {yes : Bool} (h : Fit c n.s) : Fit (c + 1) (n.addBallot frm yes).s :=
 { h.mono (Nat.le_add_right c 1) with ballots := by have := h.ballots; simp only [Node.addBallot, List.length_append, List.length_singleton]; omega }
theorem fit_runs {role : Int} (h : Fit c n.s) : Fit (c + 1) (n.runs role).s :=
 { h.mono (Nat.le_add_right c 1) with ballots := by simp [Node.runs, Node.addBallot], peers := Nat.zero_le _, mats := fun p hp => by cases hp }
theorem fit_spread (h : Fit c n.s) : Fit c n.spread.s := by rw [spread_s]; exact h
theorem fit_feed {q : Peer} (h : Fit c n.s) : Fit c (n.feed q).s := by rw [Node.feed_s]; exact h
theorem peerOf_mat {was : List Peer} {o x : Int} (h : ∀ p ∈ was, rng .u64 p.mat) : rng .u64 (Node.peerOf was o x).mat := by
 unfold Node.peerOf
 cases hf : was.find? fun p => decide (p.node = o) with
 | none => simp [rng]
 | some q => exact h q (List.mem_of_find?_eq_some hf)
theorem fit_meet {x : Int} (h : Fit c n.s) : Fit c (n.meet x).s :=
 { h with
  peers := by simp only [Node.meet, List.length_map]; exact othersP_within (confP_within h.log) _
  mats := fun p hp => by
   obtain ⟨o, _, rfl⟩ := List.mem_map.1 hp
   exact peerOf_mat h.mats }
theorem fit_count (h : Fit c n.s) : Fit c n.count.s := by
 by_cases hs : n.com ≤ n.s.hard.commit ∨ (termP n.s.log n.com).1 ≠ n.s.hard.term
 ·
  rw [count_stay hs]; exact h
 ·
  rw [count_go hs]
  have hw : Fit c (n.wCommit n.com).s := { h with commit := Node.com_rng h.mats (lastP_rng h.log).1 }
  split
  ·
   exact fit_follow hw h.term
  ·
   exact hw
theorem fit_put {e : Entry} (h : Fit c n.s) (h1 : e.data.length ≤ c + 1) (h2 : e.conf.within (c + 1)) : Fit (c + 1) (n.put e).s := by
 have hz : Fit (c + 1) (n.putE { e with index := up1 n.last, term := n.s.hard.term }).s :=
  { h.mono (Nat.le_add_right c 1) with
   log := { h.log.mono (Nat.le_add_right c 1) with
    entries := fun x hx => by
     rcases List.mem_append.1 hx with hx | hx
     ·
      exact (h.log.entries x hx).mono (by omega)
     ·
      obtain rfl := List.mem_singleton.1 hx; exact ⟨up1_rng _, h.term, h1, h2⟩
    count := by have := h.log.count; simp only [Node.putE, List.length_append, List.length_singleton]; omega
    run := fun k x hk => by
     by_cases hlt : k < n.s.log.entries.length
     ·
      simp only [Node.putE] at hk
      rw [List.getElem?_append_left hlt] at hk
      exact h.log.run k x hk
     ·
      simp only [Node.putE] at hk
      rw [List.getElem?_append_right (by omega)] at hk
      have hz := (List.getElem?_eq_some_iff.1 hk).1
      simp only [List.length_singleton] at hz
      have hk0 : k = n.s.log.entries.length := by omega
      subst hk0
      simp only [Nat.sub_self, List.getElem?_cons_zero, Option.some.injEq] at hk
      subst hk
      show up1 (lastP n.s.log).1 = _
      rw [h.log.last, up1_wrap]
      exact congrArg IntKind.u64.wrap (by simp only [Node.putE]; omega) } }
 have e0 : n.put e = ((if e.kind = 3 then (n.putE { e with index := up1 n.last, term := n.s.hard.term }).meet (up1 n.last) else n.putE { e with index := up1 n.last, term := n.s.hard.term }).count).spread := rfl
 rw [e0]
 refine fit_spread (fit_count ?_)
 split
 ·
  exact fit_meet hz
 ·
  exact hz
theorem fit_lead (h : Fit c n.s) : Fit (c + 1) n.lead.s := by
 unfold Node.lead
 refine fit_put (fit_meet { h with ballots := Nat.zero_le _, peers := Nat.zero_le _, mats := fun p hp => by cases hp }) (Nat.zero_le _) (Conf.within.none _)
theorem fit_stand (h : Fit c n.s) : Fit (c + 2) n.stand.s := by
 have hz : Fit (c + 1) (Node.runs { n with s := { n.s with hard := { n.s.hard with term := up1 n.s.hard.term, vote := n.s.id } } } 3).s := fit_runs { h with term := up1_rng _, vote := h.id }
 unfold Node.stand
 dsimp only
 split
 ·
  exact fit_lead hz
 ·
  exact hz.mono (by omega)
theorem fit_ask (h : Fit c n.s) : Fit (c + 3) n.ask.s := by
 unfold Node.ask
 dsimp only
 split
 ·
  exact fit_stand (fit_runs h)
 ·
  exact (fit_runs (role := 2) h).mono (by omega)
theorem fit_tick {t : Int} (h : Fit c n.s) : Fit (c + 3) (n.tick t).s := by
 have hm : c ≤ c + 3 := by omega
 obtain ⟨e, he⟩ : ∃ e, e = min (sup1 n.s.elapsed) (max n.s.elapsed 1073741824) := ⟨_, rfl⟩
 have hw : Fit c (n.wElapsed e).s := { h with }
 by_cases hr : n.s.role ≠ 4
 ·
  by_cases hc : max t 1 ≤ e ∧ n.votes = true
  ·
   rw [Node.tick_ask e he hr hc]; exact fit_ask hw
  ·
   rw [Node.tick_no e he hr hc]; exact hw.mono hm
 ·
  obtain ⟨b, hb⟩ : ∃ b, b = if max t 1 ≤ e then ((n.wElapsed e).wElapsed 0).wTransfer 0 else n.wElapsed e := ⟨_, rfl⟩
  have hf : Fit (c + 3) b.s := by
   rw [hb]; split
   ·
    exact { hw.mono hm with }
   ·
    exact hw.mono hm
  rw [Node.tick_lead e he hr b hb]
  split
  ·
   exact fit_spread (n := ((b.wBeat (sup1 b.s.beat)).wBeat 0)) { hf with }
  ·
   exact { hf with }
theorem fit_changed (h : Fit c n.s) (k x : Int) : (n.changed k x).1.within (c + 1) := by
 have h1 : (confP n.s.log).1.within (c + 1) := (confP_within h.log).mono (by omega)
 unfold Node.changed
 repeat' split
 all_goals first | exact h1 | exact applyP_within (confP_within h.log) _ _
theorem fit_transfer {to : Int} (h : Fit c n.s) : Fit c (n.transferTo to).1.s := by
 unfold Node.transferTo
 split
 ·
  exact h
 ·
  split
  ·
   exact h
  ·
   dsimp only
   split
   ·
    exact { h with }
   ·
    exact fit_feed { h with }
theorem fit_asked {i : Inp} (h : Fit c n.s) (hd : i.data.length ≤ c + 1) : Fit (c + 1) (n.asked i).1.s := by
 have hm : c ≤ c + 1 := by omega
 unfold Node.asked
 split
 ·
  exact h.mono hm
 split
 ·
  exact h.mono hm
 split
 ·
  exact (fit_transfer h).mono hm
 dsimp only
 split
 ·
  split
  ·
   exact h.mono hm
  ·
   exact fit_put { h with } (Nat.zero_le _) (fit_changed h _ _)
 ·
  exact fit_put { h with } hd (Conf.within.none _)
theorem fit_stands {m : Msg} {won : Node → Node} {k : Nat} (h : Fit c n.s) (hw : ∀ q : Node, Fit (c + 1) q.s → Fit (c + 1 + k) (won q).s) : Fit (c + 1 + k) (n.stands m won).s := by
 have hb := fit_ballot (frm := m.frm) (yes := !m.reject) h
 unfold Node.stands
 dsimp only
 split
 ·
  exact hw _ hb
 ·
  split
  ·
   exact (fit_follow hb hb.term).mono (by omega)
  ·
   exact hb.mono (by omega)
theorem fit_vote {m : Msg} (h : Fit c n.s) (hm : rng .i64 m.frm) : Fit c (n.vote m).s := by
 unfold Node.vote
 dsimp only
 split
 ·
  exact { h with vote := hm }
 ·
  exact h
theorem fit_voted {m : Msg} (h : Fit c n.s) : Fit (c + 2) (n.voted m).s := by
 unfold Node.voted
 split
 ·
  exact fit_stands (k := 1) h (fun q hq => fit_lead hq)
 ·
  exact h.mono (by omega)
theorem fit_preVoted {m : Msg} (h : Fit c n.s) (hm : rng .u64 m.term) : Fit (c + 3) (n.preVoted m).s := by
 unfold Node.preVoted
 split
 ·
  exact (fit_follow h hm).mono (by omega)
 ·
  split
  ·
   exact fit_stands (k := 2) h (fun q hq => fit_stand hq)
  ·
   exact h.mono (by omega)
theorem fit_late {m : Msg} (h : Fit c n.s) : Fit c (n.late m).s := by
 unfold Node.late
 split
 ·
  exact h
 ·
  split <;> exact h
end
end Go.Lw

/-
 PLAIN: how much a node's state may hold, step by step: messages, inputs.
-/
namespace Go.Lw
section
variable {c d : Nat} {n : Node}
theorem fit_calm {f : Int} (h : Fit c n.s) : Fit c (n.calm f).s := { fit_follow (l := f) h h.term with }
theorem fit_grow {m : Msg} (h : Fit c n.s) (hm : MFit d m) (hc : c + d ≤ 1099511627776) : Fit (c + d) (n.grow m).s := by
 have hw := (fit_calm (f := m.frm) h).mono (Nat.le_add_right c d)
 by_cases h0 : n.s.role = 4
 ·
  unfold Node.grow; rw [if_pos h0]; exact h.mono (Nat.le_add_right c d)
 by_cases h1 : m.index < (n.calm m.frm).s.hard.commit
 ·
  rw [grow_old h0 h1]; exact hw
 obtain ⟨G, hG⟩ : ∃ G, G = mergeP (n.calm m.frm).s.log (n.calm m.frm).s.hard.commit m.index m.logTerm m.entries := ⟨_, rfl⟩
 have hl : LFit (c + d) G.log := by rw [hG]; exact mergeP_fit (fit_calm h).log hm.entries hm.count hc
 by_cases h2 : G.err = 1 ∨ G.err = 62 ∨ m.entries.any (Node.strange (n.calm m.frm).s.hard.term) = true
 ·
  rw [grow_bad h0 h1 hG.symm h2]; exact hw
 by_cases h3 : G.err = 61
 ·
  rw [grow_gap h0 h1 hG.symm h2 h3]; exact hw
 rw [grow_ok h0 h1 hG.symm h2 h3]
 have hc1 := hw.commit
 have hc2 := hm.commit
 have hcz : Lw.rng .u64 (max (n.calm m.frm).s.hard.commit (min m.commit (m.index + m.entries.length))) := by
  simp only [Lw.rng] at hc1 hc2 ⊢
  rw [Int.max_def, Int.min_def]
  split <;> split <;> constructor <;> omega
 exact { hw with log := hl, commit := hcz }
theorem fit_set {k : Nat} {q : Peer} (h : Fit c n.s) (hq : Lw.rng .u64 q.mat) : Fit c (n.raise k q).s :=
 { h with
  peers := by simp only [Node.raise, Node.wPeers, List.length_set]; exact h.peers
  mats := fun p hp => by
   rcases List.mem_or_eq_of_mem_set hp with hp | rfl
   ·
    exact h.mats p hp
   ·
    exact hq }
theorem peer_find {o : Int} {q : Peer} (hp : n.peer o = some q) : ∃ k, n.s.peers.findIdx? (fun p => decide (p.node = o)) = some k := by
 cases hf : n.s.peers.findIdx? (fun p => decide (p.node = o)) with
 | some k => exact ⟨k, rfl⟩
 | none =>
  have h1 := List.findIdx?_eq_none_iff.1 hf
  have h2 := h1 q (List.mem_of_find?_eq_some hp)
  have h3 := List.find?_some hp
  rw [h3] at h2; cases h2
noncomputable def Node.mid (a b : Node) (q : Peer) : Node := if a.s.hard.commit < b.s.hard.commit then b.spread else if q.next ≤ b.last then b.feed q else b
theorem after_fit {a b : Node} {q : Peer} {frm : Int} (h : Fit c (Node.mid a b q).s) : Fit c (Node.after a b q frm).s := by
 have e : Node.after a b q frm = if a.s.transfer = frm ∧ q.mat = (Node.mid a b q).last then (Node.mid a b q).post { Msg.zero with kind := 9, to := frm } else Node.mid a b q := rfl
 rw [e]
 generalize Node.mid a b q = z at h
 split <;> exact h
theorem fit_grown {m : Msg} (h : Fit c n.s) (hm : MFit d m) : Fit c (n.grown m).s := by
 by_cases hno : n.s.role ≠ 4 ∨ n.peer m.frm = none ∨ n.last < m.index
 ·
  rw [grown_no hno]; exact h
 have h0 : n.s.role = 4 := Classical.byContradiction fun z => hno (.inl z)
 have h2 : ¬ n.last < m.index := fun z => hno (.inr (.inr z))
 obtain ⟨q, hq⟩ : ∃ q, n.peer m.frm = some q := by
  cases hp : n.peer m.frm with
  | none => exact absurd (.inr (.inl hp)) hno
  | some q => exact ⟨q, rfl⟩
 obtain ⟨k, hix⟩ := peer_find hq
 have hqm : Lw.rng .u64 q.mat := h.mats q (List.mem_of_find?_eq_some hq)
 by_cases h3 : m.reject = true
 ·
  rw [grown_rej h0 hq h2 h3 hix _ rfl]
  exact fit_feed (fit_set h hqm)
 ·
  rw [grown_yes h0 hq h2 h3 hix]
  have hu : Fit c (n.raise k (q.up m.index)).count.s := fit_count (fit_set h (by
   have h5 := hm.index
   simp only [Peer.up]
   rw [Int.max_def]; split <;> assumption))
  split
  ·
   exact hu
  ·
   refine after_fit ?_
   unfold Node.mid
   split
   ·
    exact fit_spread hu
   ·
    split
    ·
     exact fit_feed hu
    ·
     exact hu
theorem fit_install {s : Snap} (h : Fit c n.s) (hc : c ≤ 1099511627776) (h1 : Lw.rng .u64 s.index) (h2 : Lw.rng .u64 s.term) (h3 : s.data.length ≤ c) (h4 : s.conf.within c) (h5 : s.index < p61) : Fit c (n.install s).s := by
 have hx := h.log.runX hc
 unfold Node.install
 dsimp only
 split
 ·
  rename_i j hj
  have hf := List.findIdx?_eq_some_iff_getElem.1 hj
  obtain ⟨hj0, hj1, _⟩ := hf
  have hj2 : (n.s.log.entries[j]).index = s.index := (of_decide_eq_true hj1).1
  have hj3 := hx j _ (List.getElem?_eq_getElem hj0)
  exact { h with
   commit := h1
   log := ⟨h1, h2, h4, h3, fun e he => h.log.entries e (List.mem_of_mem_drop he), Nat.le_trans (by simp only [List.length_drop]; omega) h.log.count, h5, fun k e hk => by
    simp only [List.getElem?_drop] at hk
    have := hx _ e hk
    have hz := (List.getElem?_eq_some_iff.1 hk).1
    have hcnt := h.log.count
    simp only [Lw.rng, p61] at h1 h5
    rw [wrap_id (by simp only; omega) (by simp only; omega)]
    simp only
    omega⟩
   pindex := by simp [Lw.rng, Coming.zero], pterm := by simp [Lw.rng, Coming.zero], part := Nat.zero_le _ }
 ·
  exact { h with
   commit := h1
   log := ⟨h1, h2, h4, h3, fun e he => (by cases he), Nat.zero_le _, h5, fun k e hk => by simp at hk⟩
   pindex := by simp [Lw.rng, Coming.zero], pterm := by simp [Lw.rng, Coming.zero], part := Nat.zero_le _ }
theorem fit_chunk {m : Msg} (h : Fit c n.s) (hm : MFit d m) (hc : c + d ≤ 1099511627776) (hi61 : m.index < p61) : Fit (c + d) (n.chunk m).s := by
 have hw := (fit_calm (f := m.frm) h).mono (Nat.le_add_right c d)
 by_cases h0 : n.s.role = 4 ∨ checkP m.conf ≠ 0 ∨ n.s.hard.term < m.logTerm
 ·
  rw [chunk_no h0]; exact h.mono (Nat.le_add_right c d)
 by_cases h1 : m.index ≤ (n.calm m.frm).s.hard.commit
 ·
  rw [chunk_old h0 h1]; exact hw
 have hl := takeP_len (n.calm m.frm).s.part m
 have hi := takeP_ix (n.calm m.frm).s.part m
 obtain ⟨T, hT⟩ : ∃ T, T = takeP (n.calm m.frm).s.part m := ⟨_, rfl⟩
 rw [← hT] at hl hi
 have h4 := (fit_calm (f := m.frm) h).part
 have h5 := hm.data
 by_cases h2 : T.2 = false
 ·
  rw [chunk_part h0 h1 hT.symm h2]
  exact { hw with pindex := by show Lw.rng .u64 T.1.index; rw [hi.1]; exact hm.index, pterm := by show Lw.rng .u64 T.1.term; rw [hi.2]; exact hm.logTerm, part := by show T.1.data.length ≤ _; omega }
 ·
  rw [chunk_all h0 h1 hT.symm h2]
  refine fit_install hw hc ?_ ?_ ?_ ?_ ?_
  ·
   show Lw.rng .u64 T.1.index; rw [hi.1]; exact hm.index
  ·
   show Lw.rng .u64 T.1.term; rw [hi.2]; exact hm.logTerm
  ·
   show T.1.data.length ≤ _; omega
  ·
   exact hm.conf.mono (by omega)
  ·
   show T.1.index < p61; rw [hi.1]; exact hi61
theorem fit_chunked {m : Msg} (h : Fit c n.s) : Fit c (n.chunked m).s := by
 unfold Node.chunked
 split
 ·
  exact h
 ·
  split
  ·
   rw [Node.piece_s]; exact h
  ·
   exact h
theorem fit_heard {m : Msg} (h : Fit c n.s) (hm : MFit d m) (hc : c + d ≤ 1099511627776) (hi61 : m.index < p61) : Fit (c + d + 3) (n.heard m).s := by
 unfold Node.heard
 split
 ·
  exact (fit_vote h hm.frm).mono (by omega)
 split
 ·
  exact (fit_voted h).mono (by omega)
 split
 ·
  exact (fit_grow h hm hc).mono (by omega)
 split
 ·
  exact (fit_grown h hm).mono (by omega)
 split
 ·
  exact (fit_chunk h hm hc hi61).mono (by omega)
 split
 ·
  exact (fit_chunked h).mono (by omega)
 ·
  unfold Node.now
  split
  ·
   exact (fit_stand h).mono (by omega)
  ·
   exact h.mono (by omega)
theorem fit_message {m : Msg} (h : Fit c n.s) (hm : MFit d m) (hc : c + d ≤ 1099511627776) : Fit (c + d + 3) (n.message m).s := by
 by_cases h0 : n.deaf m
 ·
  rw [message_deaf h0]; exact h.mono (by omega)
 by_cases h1 : m.kind = 1
 ·
  rw [message_1 h0 h1]; exact h.mono (by omega)
 by_cases h2 : m.kind = 2
 ·
  rw [message_2 h0 h2]; exact (fit_preVoted h hm.term).mono (by omega)
 by_cases h3 : m.kind < 3 ∨ 9 < m.kind
 ·
  rw [message_no h0 h1 h2 h3]; exact h.mono (by omega)
 have hf : Fit c (n.risen m).s := by
  unfold Node.risen
  split
  ·
   exact fit_follow h hm.term
  ·
   exact h
 by_cases h4 : m.term < (n.risen m).s.hard.term
 ·
  rw [message_late h0 h1 h2 h3 h4]; exact (fit_late hf).mono (by omega)
 ·
  rw [message_on h0 h1 h2 h3 h4]; exact fit_heard hf hm hc (Classical.byContradiction fun z => h0 (.inr (.inr (.inr (.inr (.inr (.inl (by omega))))))))
structure IFit (d : Nat) (i : Inp) : Prop where
 msg : MFit d i.msg
 data : i.data.length ≤ d
theorem fit_act {i : Inp} (h : Fit c n.s) (hi : IFit d i) (hc : c + d ≤ 1099511627776) : Fit (c + d + 3) (n.act i).1.s := by
 unfold Node.act
 split
 ·
  exact (fit_tick h).mono (by omega)
 split
 ·
  exact fit_message h hi.msg hc
 split
 ·
  exact (fit_asked (h.mono (Nat.le_add_right c d)) (by have := hi.data; omega)).mono (by omega)
 ·
  exact h.mono (by omega)
theorem fit_step {r : Raft} {i : Inp} (h : Fit c r) (hi : IFit d i) (hc : c + d ≤ 1099511627776) : Fit (c + d + 3) (stepP r i).1 := by
 by_cases he : ((newN r).act i).2 ≠ 0
 ·
  rw [stepP_err he]; exact h.mono (by omega)
 ·
  rw [stepP_ok he]; exact fit_act (n := newN r) h hi hc
theorem Conf.within.small {x : Conf} (h : x.within c) (hc : c ≤ 1073741824) : x.small := ⟨Nat.le_trans h.1 hc, Nat.le_trans h.2 hc⟩
theorem LFit.small {l : Log} (h : LFit c l) (hc : c ≤ 1073741824) : l.small :=
 ⟨h.conf.small hc, Nat.le_trans h.data hc, fun e he => ⟨Nat.le_trans (h.entries e he).2.2.1 hc, (h.entries e he).2.2.2.small hc⟩, Nat.le_trans h.count (by omega)⟩
theorem MFit.small {m : Msg} (h : MFit d m) (hd : d ≤ 1073741824) : m.small := ⟨fun e he => ⟨Nat.le_trans (h.entries e he).2.2.1 hd, (h.entries e he).2.2.2.small hd⟩, Nat.le_trans h.count hd, h.conf.small hd, Nat.le_trans h.data hd⟩
theorem fit_bears {r : Raft} {i : Inp} (h : Fit c r) (hi : IFit d i) (hc : c + d + 3 ≤ 1073741824) : (newN r).bears i := by
 have h1 := h.log.count
 have h2 := h.peers
 have h3 := h.ballots
 have h4 := hi.msg.count
 have h5 := hi.msg.data
 have h6 := h.part
 have h7 := hi.data
 refine ⟨⟨⟨h.log.small (by omega), ?_, ?_, Nat.zero_le _, ?_⟩, ?_, ?_, ?_, hi.msg.small (by omega)⟩, ?_, (fit_changed (n := newN r) h _ _).small (by omega)⟩
 ·
  show r.log.entries.length + 1 ≤ _; omega
 ·
  show r.peers.length ≤ _; omega
 ·
  show 0 + 1 ≤ 1099511627776; omega
 ·
  show r.ballots.length ≤ _; omega
 ·
  show r.log.entries.length + _ ≤ _; omega
 ·
  show r.part.data.length + _ ≤ _; omega
 ·
  omega
end
end Go.Lw

/-
 The reference's log and Status.
-/
namespace Go.Lw
open Go.Proofs
attribute [local irreducible] RL RA
section
variable {w : World} {s : Res} {os : List Res}
set_option maxRecDepth 100000 in
theorem RefLast_ct {l : Log} {h : Hd} (hg : Good w s os) (hl : LogAt s s l h) :
  Calls Tryz.prog 39 #[logA l h] w (PostV w s os fun q => q = .tuple #[u64 (lastP l).1, u64 (lastP l).2]) := by
 have hm := hl.entries.le_max
 simp only [maxLen] at hm
 refine enter (l := [logA l h]) Tryz.func39 rfl Tryz.ntmps39 rfl ?_
 refine CW.seq (CW.plain ?_)
 refine RL.boxN rfl rfl rfl rfl rfl hg ?_
 rintro b1 w1 Q1 (hg1 : Good _ s (Q1 :: os)) hax1 hb1
 refine ⟨trivial, ?_⟩
 refine RL.pu ?_
 refine RL.pd ?_
 refine CW.seq ?_
 refine CW.seq (CW.plain ?_)
 refine RL.fi fl33_1 ?_
 refine RL.lo 5 ty31 hb1 hg1 ?_
 refine RL.len rfl rfl rfl rfl sl31 rfl ?_
 refine RL.pd ?_
 refine CW.cond rfl (fun h8 => ?_) (fun h8 => ?_)
 ·
  have h0 : l.entries = [] := by simpa using h8
  refine CW.seq ?_
  have hg2 := hg1.drew
  refine CW.draws [(true, 0), (true, 1), (true, 2), (true, 3), (true, 4), (true, 5), (false, 6), (false, 7)] (fun w => At1 b1 _ w ∧ True) mixed (by kernel_rfl) (by kernel_rfl) (by kernel_rfl) (by kernel_rfl) (⟨hg2.at1 (by simp) hb1, trivial⟩) ?_
  refine RL.fi fl33_0 ?_
  refine RL.fi fl30_0 ?_
  refine RL.loadT (ad := ⟨b1, 0, none⟩) (j := 0) rfl rfl rfl rfl ty22 rfl (At1.holds) (fun w h => h.1.inn) rfl ?_
  refine RL.fi fl33_0 ?_
  refine RL.fi fl30_1 ?_
  refine RL.loadT (ad := ⟨b1, 0, none⟩) (j := 1) rfl rfl rfl rfl ty22 rfl (At1.holds) (fun w h => h.1.inn) rfl ?_
  refine RL.pu ?_
  refine RL.pd ?_
  refine CW.ret (ret (vs := [_, _]) ⟨_, _, rfl, rfl, _, _, rfl, rfl, rfl⟩ ?_)
  exact PostV.mk (hg2.drop) (hax1.trans (Aux.drew _)) (by simp only [lastP, h0, List.getLast?_nil]; rfl)
 ·
  have h0 : 0 < l.entries.length := List.length_pos_iff.2 (by simpa using h8)
  refine CW.skip ?_
  refine CW.seq (CW.plain ?_)
  refine RL.fi fl33_1 ?_
  refine RL.lo 5 ty31 hb1 hg1 ?_
  refine RL.fi fl33_1 ?_
  refine RL.lo 5 ty31 hb1 hg1 ?_
  refine RL.len rfl rfl rfl rfl sl31 rfl ?_
  refine RL.sub rfl rfl rfl rfl rfl rfl ((by simp only [rng]; omega)) ?_
  refine RL.idxL rfl rfl rfl rfl sl31 rfl rfl hl.entries (by omega) (by omega) ?_
  rintro q vs hvl hH ⟨ea, ec, ea1, ec1, ea2, ec2, rfl, er1, er2, er3, eh1, eh2, eh3⟩
  refine RL.loads (j := 0) (us := _) rfl rfl rfl rfl ty65 rfl (hH) (hg1.sh) rfl rfl ?_
  refine RL.allocN rfl rfl rfl rfl ze65 hg1 ?_
  rintro b3 w3 Q3 (hg3 : Good _ s (Q3 :: Q1 :: os)) hax3 hb3
  refine ⟨trivial, ?_⟩
  refine RL.sB (b := b3) (i := 0) (j := 0) rfl rfl rfl ty65 rfl rfl hg3 rfl (hb3) rfl rfl ?_
  rintro w4 Q4 (hg4 : Good _ s (Q4 :: Q1 :: os)) hax4 hb4
  refine ⟨trivial, ?_⟩
  refine RL.done ?_
  refine CW.seq ?_
  have hg5 := hg4.drew
  refine CW.draws [(true, 0), (true, 1), (true, 2), (true, 3), (false, 4), (false, 5)] (fun w => At1 b3 _ w ∧ True) mixed (by kernel_rfl) (by kernel_rfl) (by kernel_rfl) (by kernel_rfl) (⟨hg5.at1 (by simp) hb4, trivial⟩) ?_
  refine RL.fi fl65_0 ?_
  refine RL.loadT (ad := ⟨b3, 0, none⟩) (j := 0) rfl rfl rfl rfl ty22 rfl (At1.holds) (fun w h => h.1.inn) rfl ?_
  refine RL.fi fl65_1 ?_
  refine RL.loadT (ad := ⟨b3, 0, none⟩) (j := 1) rfl rfl rfl rfl ty22 rfl (At1.holds) (fun w h => h.1.inn) rfl ?_
  refine RL.pu ?_
  refine RL.pd ?_
  refine CW.ret (ret (vs := [_, _]) ⟨_, _, rfl, rfl, _, _, rfl, rfl, rfl⟩ ?_)
  have hz : l.entries.getLast? = some l.entries[((l.entries.length : Int) - 1).toNat] := by rw [List.getLast?_eq_getElem?, List.getElem?_eq_getElem (by omega)]; congr 2; omega
  exact PostV.mk ((hg5.drop).drop) (hax1.trans (hax3.trans (hax4.trans (Aux.drew _)))) (by simp only [lastP, hz]; rfl)
end
end Go.Lw
