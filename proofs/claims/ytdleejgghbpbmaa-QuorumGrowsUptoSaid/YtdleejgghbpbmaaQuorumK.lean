/-
  Quorum: the laws QuorumGrows, QuorumOrder: walked.
-/
import Derived.Test.YtdleejgghbpbmaaQuorumJ
namespace Go.Lw
open Go.Proofs

theorem set3 {cs : List Value} {m N : Nat} {a b n : Value} (hm : m * 3 + 3 ≤ N) (hN : N ≤ cs.length) (h0 : cs[m * 3]? = some a) (h1 : cs[m * 3 + 1]? = some b) :
    (cs.take (m * 3 + 2) ++ [n] ++ cs.drop (m * 3 + 3)).take N = (cs.take N).take (m * 3) ++ [a, b, n] ++ (cs.take N).drop (m * 3 + 3) := by
  apply List.ext_getElem?
  intro j
  by_cases hN2 : j < N
  · rw [List.getElem?_take_of_lt hN2]
    by_cases h2 : j < m * 3 + 2
    · rw [List.getElem?_append_left (by simp; omega), List.getElem?_append_left (by simp; omega), List.getElem?_take_of_lt h2, List.getElem?_append_left (by simp; omega)]
      by_cases h3 : j < m * 3
      · rw [List.getElem?_append_left (by simp; omega), List.getElem?_take_of_lt h3, List.getElem?_take_of_lt hN2]
      · rw [List.getElem?_append_right (by simp; omega)]
        simp only [List.length_take]
        rw [Nat.min_eq_left (by omega : N ≤ cs.length), Nat.min_eq_left (by omega : m * 3 ≤ N)]
        rcases (by omega : j = m * 3 ∨ j = m * 3 + 1) with rfl | rfl
        · rw [Nat.sub_self, h0]; rfl
        · rw [Nat.add_sub_cancel_left, h1]; rfl
    · by_cases h3 : j = m * 3 + 2
      · subst h3
        rw [List.getElem?_append_left (by simp; omega), List.getElem?_append_right (by simp; omega), List.getElem?_append_left (by simp; omega), List.getElem?_append_right (by simp; omega)]
        simp only [List.length_take]
        rw [Nat.min_eq_left (by omega : m * 3 + 2 ≤ cs.length), Nat.min_eq_left (by omega : N ≤ cs.length), Nat.min_eq_left (by omega : m * 3 ≤ N), Nat.sub_self, Nat.add_sub_cancel_left]
        rfl
      · rw [List.getElem?_append_right (by simp; omega), List.getElem?_append_right (by simp; omega), List.getElem?_drop, List.getElem?_drop]
        simp only [List.length_append, List.length_take, List.length_cons, List.length_nil]
        rw [Nat.min_eq_left (by omega : m * 3 + 2 ≤ cs.length), Nat.min_eq_left (by omega : N ≤ cs.length), Nat.min_eq_left (by omega : m * 3 ≤ N)]
        rw [show m * 3 + 3 + (j - (m * 3 + 2 + (0 + 1))) = j by omega]
        first
          | rw [List.getElem?_take_of_lt hN2]
          | rw [show m * 3 + 3 + (j - (m * 3 + (0 + 1 + 1 + 1))) = j by omega, List.getElem?_take_of_lt hN2]
  · rw [List.getElem?_eq_none (by simp; omega), List.getElem?_eq_none (by simp; omega)]


set_option maxHeartbeats 1000000 in
set_option maxRecDepth 100000 in
theorem QuorumGrows_ct {w : World} {s : Res} {os : List Res} {xs : List Int} {l : List Peer} {xa la : Option Addr} {xc lc : Nat} {k n : Int} (hg : Good w s os) (hx : Ints s xa xc xs) (hl : Peers s la lc l) (hn : rng .u64 n) (hb : xs.length * 8 ≤ 140737488355328) (hb2 : l.length * 24 ≤ 140737488355328) :
    Calls Try.prog 8 #[.slice xa xs.length xc, .slice la l.length lc, i64 k, .int .u64 n] w (Post w s os fun _ _ r => r = .bool true) := by
  have hone := RPeer.one
  refine enter (l := [.slice xa xs.length xc, .slice la l.length lc, i64 k, .int .u64 n]) Try.func8 rfl Try.ntmps8 rfl ?_
  refine CW.seq (CW.plain ?_)
  refine RL.pure rfl rfl rfl rfl ?_
  refine RL.done ?_
  refine CW.seq (CW.plain ?_)
  refine RL.call rfl rfl rfl rfl rfl ca10 (head_ct hg) ?_
  rintro v1 s1 A1 w1 hle1 hg1 hax1 rfl
  refine ⟨trivial, ?_⟩
  refine RL.pure rfl rfl rfl rfl ?_
  refine RL.done ?_
  have hx1 := hx.up (RInt.up _) hle1
  have hl1 := hl.up RPeer.up hle1
  refine CW.meet (fun E' w' => w' = w1 ∧ (∃ m : Nat, ∃ h : m < l.length, k = m ∧ l[m].mat ≤ n) ∧ E' = [(0, .slice xa xs.length xc), (1, .slice la l.length lc), (2, i64 k), (3, .int .u64 n)]) ?_ ?_
  · refine CW.seq (CW.plain ?_)
    by_cases h1 : k < 0
    · refine RL.pure rfl rfl rfl rfl ?_
      refine RL.pure rfl rfl rfl rfl ?_
      refine RL.pure rfl rfl rfl rfl ?_
      refine RL.pure rfl rfl rfl rfl ?_
      refine RL.as_ rfl rfl rfl rfl (.bool true) (congrArg Value.bool (decide_eq_true h1)) ?_
      refine RL.pure rfl rfl rfl rfl ?_
      refine RL.pure rfl rfl rfl rfl ?_
      refine RL.pass rfl rfl rfl ?_
      refine RL.pass rfl rfl rfl ?_
      refine RL.pass rfl rfl rfl ?_
      refine RL.pass rfl rfl rfl ?_
      refine RL.pure rfl rfl rfl rfl ?_
      refine RL.pure rfl rfl rfl rfl ?_
      refine RL.pass rfl rfl rfl ?_
      refine RL.pass rfl rfl rfl ?_
      refine RL.pass rfl rfl rfl ?_
      refine RL.pass rfl rfl rfl ?_
      refine RL.pass rfl rfl rfl ?_
      refine RL.pass rfl rfl rfl ?_
      refine RL.pass rfl rfl rfl ?_
      refine RL.pure rfl rfl rfl rfl ?_
      refine RL.done ?_
      refine CW.yes rfl ?_
      refine CW.seq (CW.plain ?_)
      refine RL.pure rfl rfl rfl rfl ?_
      refine RL.pure rfl rfl rfl rfl ?_
      refine RL.done ?_
      exact CW.ret (ret (vs := [_]) ⟨_, _, rfl, rfl, rfl⟩ (Post.mk hle1 hg1 hax1 rfl))
    · by_cases h2 : k ≥ (l.length : Int)
      · refine RL.pure rfl rfl rfl rfl ?_
        refine RL.pure rfl rfl rfl rfl ?_
        refine RL.pure rfl rfl rfl rfl ?_
        refine RL.pure rfl rfl rfl rfl ?_
        refine RL.as_ rfl rfl rfl rfl (.bool false) (congrArg Value.bool (decide_eq_false h1)) ?_
        refine RL.pure rfl rfl rfl rfl ?_
        refine RL.pure rfl rfl rfl rfl ?_
        refine RL.pure rfl rfl rfl rfl ?_
        refine RL.pure rfl rfl rfl rfl ?_
        refine RL.len rfl rfl rfl rfl sl32 rfl ?_
        refine RL.as_ rfl rfl rfl rfl (.bool true) (congrArg Value.bool (decide_eq_true h2)) ?_
        refine RL.pure rfl rfl rfl rfl ?_
        refine RL.pure rfl rfl rfl rfl ?_
        refine RL.pass rfl rfl rfl ?_
        refine RL.pass rfl rfl rfl ?_
        refine RL.pass rfl rfl rfl ?_
        refine RL.pass rfl rfl rfl ?_
        refine RL.pass rfl rfl rfl ?_
        refine RL.pass rfl rfl rfl ?_
        refine RL.pass rfl rfl rfl ?_
        refine RL.pure rfl rfl rfl rfl ?_
        refine RL.done ?_
        refine CW.yes rfl ?_
        refine CW.seq (CW.plain ?_)
        refine RL.pure rfl rfl rfl rfl ?_
        refine RL.pure rfl rfl rfl rfl ?_
        refine RL.done ?_
        exact CW.ret (ret (vs := [_]) ⟨_, _, rfl, rfl, rfl⟩ (Post.mk hle1 hg1 hax1 rfl))
      · obtain ⟨m, hm⟩ : ∃ m : Nat, k = m := ⟨k.toNat, by omega⟩
        subst hm
        have hml : m < l.length := by omega
        refine RL.pure rfl rfl rfl rfl ?_
        refine RL.pure rfl rfl rfl rfl ?_
        refine RL.pure rfl rfl rfl rfl ?_
        refine RL.pure rfl rfl rfl rfl ?_
        refine RL.as_ rfl rfl rfl rfl (.bool false) (congrArg Value.bool (decide_eq_false h1)) ?_
        refine RL.pure rfl rfl rfl rfl ?_
        refine RL.pure rfl rfl rfl rfl ?_
        refine RL.pure rfl rfl rfl rfl ?_
        refine RL.pure rfl rfl rfl rfl ?_
        refine RL.len rfl rfl rfl rfl sl32 rfl ?_
        refine RL.as_ rfl rfl rfl rfl (.bool false) (congrArg Value.bool (decide_eq_false h2)) ?_
        refine RL.pure rfl rfl rfl rfl ?_
        refine RL.pure rfl rfl rfl rfl ?_
        refine RL.pure rfl rfl rfl rfl ?_
        refine RL.pure rfl rfl rfl rfl ?_
        refine RL.pure rfl rfl rfl rfl ?_
        refine RL.idx rfl rfl rfl rfl sl32 rfl rfl (hl1) (by omega) (by omega) ?_
        rintro q vs hvl hH ⟨rfl, hr1, hr2, hr3⟩
        refine RL.field rfl rfl rfl rfl fl36_2 rfl rfl ?_
        refine RL.load rfl rfl rfl rfl ty33 rfl (hH) (hg1.sh) rfl ?_
        refine RL.pure rfl rfl rfl rfl ?_
        refine RL.pure rfl rfl rfl rfl ?_
        refine RL.done ?_
        refine CW.test rfl (fun h3 => ?_) (fun h3 => ?_)
        · refine CW.seq (CW.plain ?_)
          refine RL.pure rfl rfl rfl rfl ?_
          refine RL.pure rfl rfl rfl rfl ?_
          refine RL.done ?_
          exact CW.ret (ret (vs := [_]) ⟨_, _, rfl, rfl, rfl⟩ (Post.mk hle1 hg1 hax1 rfl))
        · have h3' : ¬ n < l[m].mat := h3
          exact CW.skip (fun ac ha => ⟨_, ha.sub (E' := [(0, .slice xa xs.length xc), (1, .slice la l.length lc), (2, i64 (m : Nat)), (3, .int .u64 n)]) ⟨rfl, rfl, rfl, rfl, trivial⟩, rfl, ⟨m, hml, rfl, by omega⟩, rfl⟩)
  rintro E' w' ⟨rfl, ⟨m, hml, rfl, hmat⟩, rfl⟩
  refine CW.seq (CW.plain ?_)
  refine RL.pure rfl rfl rfl rfl ?_
  refine RL.pure rfl rfl rfl rfl ?_
  refine RL.call rfl rfl rfl rfl rfl ca17 (Commit_ct hg1 hx1 hl1 hb) ?_
  rintro v2 s2 A2 w2 hle2 hg2 hax2 ⟨c, rfl, hcom⟩
  refine ⟨trivial, ?_⟩
  refine RL.pure rfl rfl rfl rfl ?_
  refine RL.done ?_
  have hx2 := hx1.up (RInt.up _) hle2
  have hl2 := hl1.up RPeer.up hle2
  refine CW.seq (CW.plain ?_)
  refine RL.buildSlice rfl rfl rfl rfl sl32 ze36 rfl rfl rfl rfl hg2.drop.drop ?_
  rintro b3 w3 hg3 hax3
  refine ⟨trivial, ?_⟩
  refine RL.pure rfl rfl rfl rfl ?_
  obtain ⟨news, hsrc, hch⟩ := Src.row (c := lc) sl32 hl2.2.2 hg3.sh
  refine RL.append (i := 0) (ys := l) rfl rfl rfl rfl sl32 ze36 rfl (by first | exact RInt.one _ | exact RStr.one | exact RBool.one | assumption) rfl rfl hg3 rfl (Own.fresh (R := RPeer) (sz := 3) (el := 36) (s := s2) (b := b3)) (hsrc) (hch) ((by simp; omega)) (by omega) ?_
  rintro a4 c4 A4 w4 hg4 hown4 hax4 hk4
  refine ⟨trivial, ?_⟩
  refine RL.pure rfl rfl rfl rfl ?_
  refine RL.done ?_
  have hown : Own RPeer 3 36 s2 A4 a4 c4 l := by simpa using hown4
  refine CW.seq (CW.plain ?_)
  refine RL.pure rfl rfl rfl rfl ?_
  refine RL.pure rfl rfl rfl rfl ?_
  refine RL.pure rfl rfl rfl rfl ?_
  refine RL.idxOwn rfl rfl rfl rfl sl32 rfl rfl hown (by omega) (by have : ([] ++ l).length = l.length := rfl; omega) ?_
  rintro g cs vs rfl hA hcs hvl hvs ⟨rfl, hr1, hr2, hr3⟩
  refine RL.field rfl rfl rfl rfl fl36_2 rfl rfl ?_
  rw [add_add]
  obtain ⟨hll, hc4, hch4⟩ : l.length ≤ c4 ∧ c4 ≤ maxLen ∧ Chunks RPeer 3 s2 (cs.toList.take (l.length * 3)) l := by
    rcases hown with ⟨h, _⟩ | ⟨g', cs', h, hA', h1, h2, h3, h4⟩
    · cases h
    · cases h; rw [hA] at hA'; cases hA'; exact ⟨h1, h2, h4⟩
  refine RL.store (i := 0) (j := (m : Int).toNat * 3 + 2) rfl rfl rfl ty33 rfl rfl hg4 rfl (hA) rfl (by first | (simp [Value.cells, Value.oneCell']; done) | simp [Value.cells, Value.oneCell', putL]) (by first | exact Nat.le_of_ble_eq_true rfl | (simp; done) | (simp; omega) | omega) ?_
  rintro w5 hg5 hax5
  refine ⟨trivial, ?_⟩
  refine RL.done ?_
  have hset := setMat_set l m n hml
  obtain ⟨A5, hg5', hown5⟩ : ∃ A, Good w5 s2 (A :: os) ∧ Own RPeer 3 36 s2 A (some ⟨g, 0, none⟩) c4 (setMat l m n) := by
    refine ⟨_, hg5, .inr ⟨g, _, rfl, put_same _ _ _, ?_, ?_, ?_, ?_⟩⟩
    · rw [hset, List.length_set]; exact hll
    · exact hc4
    · simp [Value.cells]; omega
    · have h0 : cs.toList[m * 3]? = some (i64 l[m].node) := hvs 0 _ rfl
      have h1 : cs.toList[m * 3 + 1]? = some (.int .u64 l[m].next) := hvs 1 _ rfl
      have hnew := hch4.set (i := m) hml (vs := [i64 l[m].node, .int .u64 l[m].next, .int .u64 n]) (x := { l[m] with mat := n }) rfl ⟨rfl, hr1, hr2, hn⟩
      rw [← set3 (cs := cs.toList) (m := m) (N := l.length * 3) (by omega) (by simp; omega) h0 h1, ← hset] at hnew
      rw [setMat_set l m n hml, List.length_set] at *
      exact hnew
  obtain ⟨s6, hg6, hle6, hA6⟩ := hg5'.letgo
  have hnew : Peers s6 (some ⟨g, 0, none⟩) c4 (setMat l m n) := hown5.imm RPeer.up hle6 hA6
  have hlen2 : l.length = (setMat l m n).length := by rw [hset, List.length_set]
  refine CW.seq (CW.plain ?_)
  refine RL.pure rfl rfl rfl rfl ?_
  refine RL.pure rfl rfl rfl rfl ?_
  have hq : ([] ++ l).length = (setMat l m n).length := by rw [← hlen2]; rfl
  rw [hq]
  refine RL.call rfl rfl rfl rfl rfl ca17 (Commit_ct hg6 (hx2.up (RInt.up _) hle6) hnew hb) ?_
  rintro v7 s7 A7 w7 hle7 hg7 hax7 ⟨c', rfl, hcom'⟩
  refine ⟨trivial, ?_⟩
  refine RL.pure rfl rfl rfl rfl ?_
  refine RL.pure rfl rfl rfl rfl ?_
  refine RL.pure rfl rfl rfl rfl ?_
  refine RL.done ?_
  have hge : c' ≥ c := Com.grows (matchP_grows hml hmat) hcom hcom'
  exact CW.ret (ret (vs := [_]) ⟨_, _, rfl, rfl, rfl⟩ (Post.mk (hle1.trans (hle2.trans (hle6.trans hle7))) hg7 (hax1.trans (hax2.trans (hax3.trans (hax4.trans (hax5.trans hax7))))) (congrArg Value.bool (decide_eq_true hge))))
end Go.Lw
