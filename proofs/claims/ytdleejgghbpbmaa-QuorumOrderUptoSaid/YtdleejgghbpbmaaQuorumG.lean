/-
  Quorum: what a majority has, by the program and by the document.
-/
import Derived.Test.YtdleejgghbpbmaaQuorumF
import Derived.Test.YtdleejgghbpbmaaSortH
import Derived.Laws.MakeOwn
namespace Go.Lw
open Go.Proofs

def RPeer : Res → List Value → Peer → Prop := fun _ vs x => vs = [i64 x.node, .int .u64 x.next, .int .u64 x.mat] ∧ rng .i64 x.node ∧ rng .u64 x.next ∧ rng .u64 x.mat
theorem RPeer.up : Up RPeer := fun _ _ _ _ _ h => h
theorem RPeer.one : One RPeer := fun _ vs x h v hv => by rw [h.1] at hv; simp at hv; rcases hv with rfl | rfl | rfl <;> rfl
abbrev Peers (s : Res) (a : Option Addr) (c : Nat) (xs : List Peer) : Prop := Imm RPeer 3 s a c xs
theorem Peers.rng {s : Res} {a : Option Addr} {c : Nat} {xs : List Peer} (h : Peers s a c xs) : ∀ p ∈ xs, Lw.rng .u64 p.mat := by
  intro p hp
  obtain ⟨i, hi, rfl⟩ := List.getElem_of_mem hp
  rcases h.2.2 with rfl | ⟨ad, rfl, hr⟩
  · simp at hi
  · obtain ⟨vs, _, _, hR⟩ := hr.get (List.getElem?_eq_getElem hi)
    exact hR.2.2.2
theorem matchP_rng {l : List Peer} (h : ∀ p ∈ l, Lw.rng .u64 p.mat) (x : Int) : Lw.rng .u64 (matchP l x) := by
  obtain ⟨h1, h2, h3⟩ := matchP_spec l x
  rcases h3 with h3 | ⟨p, hp, _, he⟩
  · rw [h3]; simp only [Lw.rng]; omega
  · rw [← he]; exact h p hp

set_option maxRecDepth 100000 in
theorem match_ct {w : World} {s : Res} {os : List Res} {l : List Peer} {la : Option Addr} {lc : Nat} {x : Int} (hg : Good w s os) (hl : Peers s la lc l) :
    Calls Try.prog 31 #[.slice la l.length lc, i64 x] w (PostV w s os fun r => r = .int .u64 (matchP l x)) := by
  refine enter (l := [.slice la l.length lc, i64 x]) Try.func31 rfl Try.ntmps31 rfl ?_
  refine CW.seq (CW.plain ?_)
  refine RL.pure rfl rfl rfl rfl ?_
  refine RL.done ?_
  refine CW.seq (CW.plain ?_)
  refine RL.pure rfl rfl rfl rfl ?_
  refine RL.done ?_
  refine CW.seq (CW.seq (CW.plain ?_))
  refine RL.pure rfl rfl rfl rfl ?_
  refine RL.done ?_
  have hlen := hl.le_max
  simp only [maxLen] at hlen
  refine CW.block (CW.loop (σ := Nat) (fun j E w' => w' = w ∧ ∃ k : Nat, E = [(0, .slice la l.length lc), (1, i64 x), (5, .int .u64 (matchP (l.take k) x)), (6, i64 k)] ∧ k + j = l.length)
    (fun j => j) l.length [(0, .slice la l.length lc), (1, i64 x), (5, .int .u64 0), (6, i64 0)] ⟨rfl, rfl, rfl, rfl, trivial⟩ ⟨rfl, 0, rfl, by omega⟩ ?_)
  rintro j E w' ⟨rfl, k, rfl, hk⟩
  refine CW.seq (CW.seq (CW.plain ?_))
  refine RL.pure rfl rfl rfl rfl ?_
  refine RL.pure rfl rfl rfl rfl ?_
  refine RL.len rfl rfl rfl rfl sl32 rfl ?_
  refine RL.pure rfl rfl rfl rfl ?_
  refine RL.done ?_
  refine CW.test rfl (fun h => ?_) (fun h => ?_)
  · refine CW.skip ?_
    have hkl : k < l.length := by omega
    have hst := matchP_take l x k hkl
    refine CW.seq (CW.block (CW.seq (CW.plain ?_)))
    refine RL.pure rfl rfl rfl rfl ?_
    refine RL.pure rfl rfl rfl rfl ?_
    refine RL.idx rfl rfl rfl rfl sl32 rfl rfl (hl) (by omega) (by omega) ?_
    rintro q vs hvl hH ⟨rfl, hr1, hr2, hr3⟩
    refine RL.field rfl rfl rfl rfl fl36_0 rfl rfl ?_
    refine RL.load rfl rfl rfl rfl ty3 rfl (hH) (hg.sh) rfl ?_
    refine RL.pure rfl rfl rfl rfl ?_
    refine RL.pure rfl rfl rfl rfl ?_
    refine RL.done ?_
    refine CW.eq rfl (fun he => ?_) (fun he => ?_)
    · refine CW.plain ?_
      refine RL.pure rfl rfl rfl rfl ?_
      refine RL.pure rfl rfl rfl rfl ?_
      refine RL.pure rfl rfl rfl rfl ?_
      refine RL.idx rfl rfl rfl rfl sl32 rfl rfl (hl) (by omega) (by omega) ?_
      rintro q2 vs2 hvl2 hH2 ⟨rfl, hr4, hr5, hr6⟩
      refine RL.field rfl rfl rfl rfl fl36_2 rfl rfl ?_
      refine RL.load rfl rfl rfl rfl ty33 rfl (hH2) (hg.sh) rfl ?_
      refine RL.max rfl rfl rfl rfl rfl rfl ?_
      refine RL.pure rfl rfl rfl rfl ?_
      refine RL.done ?_
      refine CW.plain ?_
      refine RL.pure rfl rfl rfl rfl ?_
      refine RL.add rfl rfl rfl rfl rfl rfl (by simp only [rng] at *; omega) ?_
      refine RL.pure rfl rfl rfl rfl ?_
      refine RL.done ?_
      cases j with
      | zero => omega
      | succ j =>
        have hb : (l[k].node == x) = true := by simpa using he
        exact fun ac ha => ⟨j, [(0, .slice la l.length lc), (1, i64 x), (5, .int .u64 (matchP (l.take (k + 1)) x)), (6, i64 ((k : Int) + 1))], ha.sub ⟨rfl, rfl, by rw [hst, matF, if_pos hb]; rfl, rfl, trivial⟩, ⟨rfl, k + 1, rfl, by omega⟩, Nat.lt_succ_self j⟩
    · refine CW.skip ?_
      refine CW.plain ?_
      refine RL.pure rfl rfl rfl rfl ?_
      refine RL.add rfl rfl rfl rfl rfl rfl (by simp only [rng] at *; omega) ?_
      refine RL.pure rfl rfl rfl rfl ?_
      refine RL.done ?_
      cases j with
      | zero => omega
      | succ j =>
        have hb : ¬ (l[k].node == x) = true := by simpa using he
        exact fun ac ha => ⟨j, [(0, .slice la l.length lc), (1, i64 x), (5, .int .u64 (matchP (l.take (k + 1)) x)), (6, i64 ((k : Int) + 1))], ha.sub ⟨rfl, rfl, by rw [hst, matF, if_neg hb]; rfl, rfl, trivial⟩, ⟨rfl, k + 1, rfl, by omega⟩, Nat.lt_succ_self j⟩
  · refine CW.exit (CW.seq (CW.plain ?_))
    have hkl : k = l.length := by omega
    refine RL.pure rfl rfl rfl rfl ?_
    refine RL.pure rfl rfl rfl rfl ?_
    refine RL.done ?_
    exact CW.ret (ret (vs := [_]) ⟨_, _, rfl, rfl, rfl⟩ (PostV.mk hg (Aux.refl _) (by rw [hkl, List.take_length]; rfl)))

/-! ### the document's Commit -/
theorem foldl_take {α β : Type} (f : β → α → β) (b : β) (l : List α) (k : Nat) (hk : k < l.length) : (l.take (k + 1)).foldl f b = f ((l.take k).foldl f b) l[k] := by
  rw [List.take_succ_eq_append_getElem hk, List.foldl_append]; rfl
abbrev bestS (v : List Int) (f : Int → Int) (n x : Int) : Int := if decide (most v.length ≤ (v.countP fun y => decide (f x ≤ f y) : Nat)) then mx n (f x) else n


set_option maxRecDepth 100000 in
theorem rCommit_ct {w : World} {s : Res} {os : List Res} {xs : List Int} {l : List Peer} {xa la : Option Addr} {xc lc : Nat} (hg : Good w s os) (hx : Ints s xa xc xs) (hl : Peers s la lc l) (hb : xs.length * 8 ≤ 140737488355328) :
    Calls Try.prog 18 #[.slice xa xs.length xc, .slice la l.length lc] w (Post w s os fun _ _ r => r = .int .u64 (bestF (onceR xs) (matchP l))) := by
  have hul := onceR_le xs
  refine enter (l := [.slice xa xs.length xc, .slice la l.length lc]) Try.func18 rfl Try.ntmps18 rfl ?_
  refine CW.seq (CW.plain ?_)
  refine RL.pure rfl rfl rfl rfl ?_
  refine RL.done ?_
  refine CW.seq (CW.plain ?_)
  refine RL.pure rfl rfl rfl rfl ?_
  refine RL.call rfl rfl rfl rfl rfl ca27 (ronce_ct hg hx hb) ?_
  rintro v2 s2 A2 w2 hle2 hg2 hax2 ⟨rfl, a2, c2, rfl, ho2⟩
  refine ⟨trivial, ?_⟩
  refine RL.pure rfl rfl rfl rfl ?_
  refine RL.done ?_
  obtain ⟨s3, hg3, hle3, hA3⟩ := hg2.letgo
  have hv : Ints s3 a2 c2 (onceR xs) := ho2.imm (RInt.up _) hle3 hA3
  have hl3 : Peers s3 la lc l := hl.up RPeer.up hle3
  generalize hV : onceR xs = V at *
  refine CW.seq (CW.plain ?_)
  refine RL.pure rfl rfl rfl rfl ?_
  refine RL.done ?_
  refine CW.seq (CW.seq (CW.plain ?_))
  refine RL.pure rfl rfl rfl rfl ?_
  refine RL.done ?_
  refine CW.block (CW.loop (σ := Nat) (fun j E w' => Good w' s3 os ∧ Aux w w' ∧ ∃ k : Nat, E = [(1, .slice la l.length lc), (5, .slice a2 V.length c2), (6, .int .u64 ((V.take k).foldl (bestS V (matchP l)) 0)), (7, i64 k)] ∧ k + j = V.length)
    (fun j => j) V.length [(1, .slice la l.length lc), (5, .slice a2 V.length c2), (6, .int .u64 0), (7, i64 0)] ⟨rfl, rfl, rfl, rfl, trivial⟩ ⟨hg3, hax2, 0, rfl, by omega⟩ ?_)
  rintro j E w1 ⟨hg1, hax1, k, rfl, hk⟩
  refine CW.seq (CW.seq (CW.plain ?_))
  refine RL.pure rfl rfl rfl rfl ?_
  refine RL.pure rfl rfl rfl rfl ?_
  refine RL.len rfl rfl rfl rfl sl22 rfl ?_
  refine RL.pure rfl rfl rfl rfl ?_
  refine RL.done ?_
  refine CW.test rfl (fun h => ?_) (fun h => ?_)
  · refine CW.skip ?_
    have hkl : k < V.length := by omega
    have hst := foldl_take (bestS V (matchP l)) 0 V k hkl
    refine CW.seq (CW.block (CW.seq (CW.plain ?_)))
    refine RL.pure rfl rfl rfl rfl ?_
    refine RL.pure rfl rfl rfl rfl ?_
    refine RL.pure rfl rfl rfl rfl ?_
    refine RL.idx rfl rfl rfl rfl sl22 rfl rfl (hv) (by omega) (by omega) ?_
    rintro q vs hvl hH ⟨rfl, hr'⟩
    refine RL.load rfl rfl rfl rfl ty3 rfl (hH) (hg1.sh) rfl ?_
    refine RL.callV rfl rfl rfl rfl rfl ca31 (match_ct (x := V[(k : Int).toNat]) hg1 hl3) ?_
    rintro v4 w4 hg4 hax4 rfl
    refine ⟨trivial, ?_⟩
    refine RL.pure rfl rfl rfl rfl ?_
    refine RL.done ?_
    refine CW.seq (CW.plain ?_)
    refine RL.pure rfl rfl rfl rfl ?_
    refine RL.done ?_
    refine CW.meet (fun E' w' => Good w' s3 os ∧ Aux w w' ∧ E' = [(1, .slice la l.length lc), (5, .slice a2 V.length c2), (6, .int .u64 ((V.take k).foldl (bestS V (matchP l)) 0)), (7, i64 k), (8, .int .u64 (matchP l V[k])), (9, i64 (V.countP fun y => decide (matchP l V[k] ≤ matchP l y) : Nat))]) ?_ ?_
    · refine CW.seq (CW.plain ?_)
      refine RL.pure rfl rfl rfl rfl ?_
      refine RL.done ?_
      refine CW.block (CW.loop (σ := Nat) (fun i E w' => Good w' s3 os ∧ Aux w w' ∧ ∃ m : Nat, E = [(1, .slice la l.length lc), (5, .slice a2 V.length c2), (6, .int .u64 ((V.take k).foldl (bestS V (matchP l)) 0)), (7, i64 k), (8, .int .u64 (matchP l V[k])), (9, i64 ((V.take m).countP fun y => decide (matchP l V[k] ≤ matchP l y) : Nat)), (10, i64 m)] ∧ m + i = V.length)
        (fun i => i) V.length [(1, .slice la l.length lc), (5, .slice a2 V.length c2), (6, .int .u64 ((V.take k).foldl (bestS V (matchP l)) 0)), (7, i64 k), (8, .int .u64 (matchP l V[k])), (9, i64 0), (10, i64 0)] ⟨rfl, rfl, rfl, rfl, rfl, rfl, rfl, trivial⟩ ⟨hg4, hax1.trans hax4, 0, rfl, by omega⟩ ?_)
      rintro i E w5 ⟨hg5, hax5, m, rfl, hm⟩
      refine CW.seq (CW.seq (CW.plain ?_))
      refine RL.pure rfl rfl rfl rfl ?_
      refine RL.pure rfl rfl rfl rfl ?_
      refine RL.len rfl rfl rfl rfl sl22 rfl ?_
      refine RL.pure rfl rfl rfl rfl ?_
      refine RL.done ?_
      refine CW.test rfl (fun h2 => ?_) (fun h2 => ?_)
      · refine CW.skip ?_
        have hml : m < V.length := by omega
        have hcl : (V.take m).countP (fun y => decide (matchP l V[k] ≤ matchP l y)) ≤ m := Nat.le_trans List.countP_le_length (by simp; omega)
        refine CW.seq (CW.block (CW.seq (CW.plain ?_)))
        refine RL.pure rfl rfl rfl rfl ?_
        refine RL.pure rfl rfl rfl rfl ?_
        refine RL.pure rfl rfl rfl rfl ?_
        refine RL.idx rfl rfl rfl rfl sl22 rfl rfl (hv) (by omega) (by omega) ?_
        rintro q3 vs3 hvl3 hH3 ⟨rfl, hr3⟩
        refine RL.load rfl rfl rfl rfl ty3 rfl (hH3) (hg5.sh) rfl ?_
        refine RL.callV rfl rfl rfl rfl rfl ca31 (match_ct (x := V[(m : Int).toNat]) hg5 hl3) ?_
        rintro v6 w6 hg6 hax6 rfl
        refine ⟨trivial, ?_⟩
        refine RL.pure rfl rfl rfl rfl ?_
        refine RL.pure rfl rfl rfl rfl ?_
        refine RL.done ?_
        refine CW.test rfl (fun hge => ?_) (fun hge => ?_)
        · have hge' : decide (matchP l V[k] ≤ matchP l V[m]) = true := decide_eq_true hge
          refine CW.plain ?_
          refine RL.pure rfl rfl rfl rfl ?_
          refine RL.add rfl rfl rfl rfl rfl rfl ((by simp only [rng]; omega)) ?_
          refine RL.pure rfl rfl rfl rfl ?_
          refine RL.done ?_
          refine CW.plain ?_
          refine RL.pure rfl rfl rfl rfl ?_
          refine RL.add rfl rfl rfl rfl rfl rfl (by simp only [rng] at *; omega) ?_
          refine RL.pure rfl rfl rfl rfl ?_
          refine RL.done ?_
          cases i with
          | zero => omega
          | succ i =>
            exact fun ac ha => ⟨i, [(1, .slice la l.length lc), (5, .slice a2 V.length c2), (6, .int .u64 ((V.take k).foldl (bestS V (matchP l)) 0)), (7, i64 k), (8, .int .u64 (matchP l V[k])), (9, i64 ((V.take (m + 1)).countP fun y => decide (matchP l V[k] ≤ matchP l y) : Nat)), (10, i64 ((m : Int) + 1))], ha.sub ⟨rfl, rfl, rfl, rfl, rfl, by rw [countP_take _ V m hml, if_pos hge']; rfl, rfl, trivial⟩, ⟨hg6, hax5.trans hax6, m + 1, rfl, by omega⟩, Nat.lt_succ_self i⟩
        · have hge' : ¬ decide (matchP l V[k] ≤ matchP l V[m]) = true := fun hh => hge (of_decide_eq_true hh)
          refine CW.skip ?_
          refine CW.plain ?_
          refine RL.pure rfl rfl rfl rfl ?_
          refine RL.add rfl rfl rfl rfl rfl rfl (by simp only [rng] at *; omega) ?_
          refine RL.pure rfl rfl rfl rfl ?_
          refine RL.done ?_
          cases i with
          | zero => omega
          | succ i =>
            exact fun ac ha => ⟨i, [(1, .slice la l.length lc), (5, .slice a2 V.length c2), (6, .int .u64 ((V.take k).foldl (bestS V (matchP l)) 0)), (7, i64 k), (8, .int .u64 (matchP l V[k])), (9, i64 ((V.take (m + 1)).countP fun y => decide (matchP l V[k] ≤ matchP l y) : Nat)), (10, i64 ((m : Int) + 1))], ha.sub ⟨rfl, rfl, rfl, rfl, rfl, by rw [countP_take _ V m hml, if_neg hge']; rfl, rfl, trivial⟩, ⟨hg6, hax5.trans hax6, m + 1, rfl, by omega⟩, Nat.lt_succ_self i⟩
      · have hml : m = V.length := by omega
        refine CW.exit (fun ac ha => ⟨_, ha.sub (E' := [(1, .slice la l.length lc), (5, .slice a2 V.length c2), (6, .int .u64 ((V.take k).foldl (bestS V (matchP l)) 0)), (7, i64 k), (8, .int .u64 (matchP l V[k])), (9, i64 (V.countP fun y => decide (matchP l V[k] ≤ matchP l y) : Nat))]) ⟨rfl, rfl, rfl, rfl, rfl, by rw [hml, List.take_length]; rfl, trivial⟩, hg5, hax5, rfl⟩)
    · rintro E' w6 ⟨hg6, hax6, rfl⟩
      refine CW.seq (CW.plain ?_)
      refine RL.pure rfl rfl rfl rfl ?_
      refine RL.pure rfl rfl rfl rfl ?_
      refine RL.len rfl rfl rfl rfl sl22 rfl ?_
      refine RL.callV rfl rfl rfl rfl rfl ca14 (rMost_ct hg6 (rng_len (by omega))) ?_
      rintro v7 w7 hg7 hax7 rfl
      refine ⟨trivial, ?_⟩
      refine RL.pure rfl rfl rfl rfl ?_
      refine RL.done ?_
      refine CW.test rfl (fun hq => ?_) (fun hq => ?_)
      · refine CW.plain ?_
        refine RL.pure rfl rfl rfl rfl ?_
        refine RL.pure rfl rfl rfl rfl ?_
        refine RL.max rfl rfl rfl rfl rfl rfl ?_
        refine RL.pure rfl rfl rfl rfl ?_
        refine RL.done ?_
        refine CW.plain ?_
        refine RL.pure rfl rfl rfl rfl ?_
        refine RL.add rfl rfl rfl rfl rfl rfl (by simp only [rng] at *; omega) ?_
        refine RL.pure rfl rfl rfl rfl ?_
        refine RL.done ?_
        cases j with
        | zero => omega
        | succ j =>
          exact fun ac ha => ⟨j, [(1, .slice la l.length lc), (5, .slice a2 V.length c2), (6, .int .u64 ((V.take (k + 1)).foldl (bestS V (matchP l)) 0)), (7, i64 ((k : Int) + 1))], ha.sub ⟨rfl, rfl, (by rw [hst, bestS, if_pos (decide_eq_true hq)]; rfl), rfl, trivial⟩, ⟨hg7, hax6.trans hax7, k + 1, rfl, by omega⟩, Nat.lt_succ_self j⟩
      · refine CW.skip ?_
        refine CW.plain ?_
        refine RL.pure rfl rfl rfl rfl ?_
        refine RL.add rfl rfl rfl rfl rfl rfl (by simp only [rng] at *; omega) ?_
        refine RL.pure rfl rfl rfl rfl ?_
        refine RL.done ?_
        cases j with
        | zero => omega
        | succ j =>
          exact fun ac ha => ⟨j, [(1, .slice la l.length lc), (5, .slice a2 V.length c2), (6, .int .u64 ((V.take (k + 1)).foldl (bestS V (matchP l)) 0)), (7, i64 ((k : Int) + 1))], ha.sub ⟨rfl, rfl, (by rw [hst, bestS, if_neg (fun hh => hq (of_decide_eq_true hh))]; rfl), rfl, trivial⟩, ⟨hg7, hax6.trans hax7, k + 1, rfl, by omega⟩, Nat.lt_succ_self j⟩
  · refine CW.exit (CW.seq (CW.plain ?_))
    have hkl : k = V.length := by omega
    refine RL.pure rfl rfl rfl rfl ?_
    refine RL.pure rfl rfl rfl rfl ?_
    refine RL.done ?_
    exact CW.ret (ret (vs := [_]) ⟨_, _, rfl, rfl, rfl⟩ (Post.mk hle3 hg1.nil hax1 (by rw [hkl, List.take_length]; rfl)))
end Go.Lw
