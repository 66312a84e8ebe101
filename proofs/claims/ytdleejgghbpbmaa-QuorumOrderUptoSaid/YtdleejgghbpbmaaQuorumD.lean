/-
  Quorum: how a vote stands, by the document; the live question.
-/
import Derived.Test.YtdleejgghbpbmaaQuorumC
namespace Go.Lw
open Go.Proofs

theorem vote_none {l : List Ballot} {n : Int} (h : l.find? (isOf n) = none) (y : Bool) : says l y n = false := by
  rw [says, vote, h]; rfl
theorem vote_some {l : List Ballot} {n : Int} {b : Ballot} (h : l.find? (isOf n) = some b) (y : Bool) : says l y n = (b.2 == y) := by
  rw [says, vote, h]; rfl


set_option maxRecDepth 100000 in
theorem rTally_ct {w : World} {s : Res} {os : List Res} {xs : List Int} {l : List Ballot} {xa la : Option Addr} {xc lc : Nat} (hg : Good w s os) (hx : Ints s xa xc xs) (hl : Ballots s la lc l) (hb : xs.length * 8 ≤ 140737488355328) :
    Calls Try.prog 16 #[.slice xa xs.length xc, .slice la l.length lc] w (Post w s os fun _ _ r => r = i64 (tallyP (onceR xs) l)) := by
  have hul := onceR_le xs
  refine enter (l := [.slice xa xs.length xc, .slice la l.length lc]) Try.func16 rfl Try.ntmps16 rfl ?_
  refine CW.seq (CW.plain ?_)
  refine RL.pure rfl rfl rfl rfl ?_
  refine RL.done ?_
  refine CW.seq (CW.plain ?_)
  refine RL.pure rfl rfl rfl rfl ?_
  refine RL.call rfl rfl rfl rfl rfl ca27 (ronce_ct hg hx hb) ?_
  rintro v2 s2 A2 w2 hle2 hg2 hax2 ⟨rfl, a2, c2, rfl, ho2⟩
  refine ⟨trivial, ?_⟩
  refine RL.pure rfl rfl rfl rfl ?_
  refine RL.done ?_
  obtain ⟨s3, hg3, hle3, hA3⟩ := hg2.letgo
  have hv : Ints s3 a2 c2 (onceR xs) := ho2.imm (RInt.up _) hle3 hA3
  have hl3 : Ballots s3 la lc l := hl.up RBallot.up hle3
  generalize hV : onceR xs = V at *
  refine CW.seq (CW.plain ?_)
  refine RL.pure rfl rfl rfl rfl ?_
  refine RL.done ?_
  refine CW.seq (CW.plain ?_)
  refine RL.pure rfl rfl rfl rfl ?_
  refine RL.done ?_
  refine CW.seq (CW.seq (CW.plain ?_))
  refine RL.pure rfl rfl rfl rfl ?_
  refine RL.done ?_
  have hll := hl.le_max
  simp only [maxLen] at hll
  refine CW.block (CW.loop (σ := Nat) (fun j E w' => Good w' s3 os ∧ Aux w w' ∧ ∃ k : Nat, E = [(1, .slice la l.length lc), (5, .slice a2 V.length c2), (6, i64 ((V.take k).countP (says l true) : Nat)), (7, i64 ((V.take k).countP (says l false) : Nat)), (8, i64 k)] ∧ k + j = V.length)
    (fun j => j) V.length [(1, .slice la l.length lc), (5, .slice a2 V.length c2), (6, i64 0), (7, i64 0), (8, i64 0)] ⟨rfl, rfl, rfl, rfl, rfl, trivial⟩ ⟨hg3, hax2, 0, rfl, by omega⟩ ?_)
  rintro j E w1 ⟨hg1, hax1, k, rfl, hk⟩
  refine CW.seq (CW.seq (CW.plain ?_))
  refine RL.pure rfl rfl rfl rfl ?_
  refine RL.pure rfl rfl rfl rfl ?_
  refine RL.len rfl rfl rfl rfl sl22 rfl ?_
  refine RL.pure rfl rfl rfl rfl ?_
  refine RL.done ?_
  refine CW.test rfl (fun h => ?_) (fun h => ?_)
  · refine CW.skip ?_
    have hkl : k < V.length := by omega
    have hcl : ∀ y, (V.take k).countP (says l y) ≤ k := fun y => Nat.le_trans List.countP_le_length (by simp; omega)
    have hct := hcl true
    have hcf := hcl false
    refine CW.seq (CW.block (CW.seq (CW.plain ?_)))
    refine RL.pure rfl rfl rfl rfl ?_
    refine RL.done ?_
    refine CW.block (CW.loop (σ := Nat) (fun i E w' => Good w' s3 os ∧ Aux w w' ∧ ∃ m : Nat, E = [(1, .slice la l.length lc), (5, .slice a2 V.length c2), (6, i64 ((V.take k).countP (says l true) : Nat)), (7, i64 ((V.take k).countP (says l false) : Nat)), (8, i64 k), (9, i64 m)] ∧ m + i = l.length ∧ (l.take m).find? (isOf V[k]) = none)
      (fun i => i) l.length [(1, .slice la l.length lc), (5, .slice a2 V.length c2), (6, i64 ((V.take k).countP (says l true) : Nat)), (7, i64 ((V.take k).countP (says l false) : Nat)), (8, i64 k), (9, i64 0)] ⟨rfl, rfl, rfl, rfl, rfl, rfl, trivial⟩ ⟨hg1, hax1, 0, rfl, by omega, rfl⟩ ?_)
    rintro i E w4 ⟨hg4, hax4, m, rfl, hm, hno⟩
    refine CW.seq (CW.seq (CW.plain ?_))
    refine RL.pure rfl rfl rfl rfl ?_
    refine RL.pure rfl rfl rfl rfl ?_
    refine RL.len rfl rfl rfl rfl sl23 rfl ?_
    refine RL.pure rfl rfl rfl rfl ?_
    refine RL.done ?_
    refine CW.test rfl (fun hq => ?_) (fun hq => ?_)
    · refine CW.skip ?_
      have hml : m < l.length := by omega
      refine CW.seq (CW.block (CW.seq (CW.seq ?_)))
      refine CW.draws [(true, 0), (true, 1), (true, 2), (true, 3), (true, 4), (true, 5), (true, 6), (true, 7), (true, 8), (true, 9)] (fun w => Good w s3 os) mixed (by kernel_rfl) (by kernel_rfl) (by kernel_rfl) (by kernel_rfl) (hg4.drew) ?_
      refine RL.pure rfl rfl rfl rfl ?_
      refine RL.pure rfl rfl rfl rfl ?_
      refine RL.idx rfl rfl rfl rfl sl23 rfl rfl (hl3) (by omega) (by omega) ?_
      rintro q5 vs5 hvl5 hH5 ⟨rfl, hr5⟩
      refine RL.field rfl rfl rfl rfl fl41_0 rfl rfl ?_
      refine RL.loadT rfl rfl rfl rfl ty3 rfl (hH5) (fun w h => h.sh) rfl ?_
      refine RL.pure rfl rfl rfl rfl ?_
      refine RL.pure rfl rfl rfl rfl ?_
      refine RL.idx rfl rfl rfl rfl sl22 rfl rfl (hv) (by omega) (by omega) ?_
      rintro q6 vs6 hvl6 hH6 ⟨rfl, hr6⟩
      refine RL.loadT rfl rfl rfl rfl ty3 rfl (hH6) (fun w h => h.sh) rfl ?_
      refine RL.pure rfl rfl rfl rfl ?_
      refine RL.done ?_
      refine CW.ne rfl (fun hne => ?_) (fun he => ?_)
      · have hp : isOf V[k] l[m] = false := by simpa [isOf] using hne
        refine CW.exit (CW.plain ?_)
        refine RL.pure rfl rfl rfl rfl ?_
        refine RL.add rfl rfl rfl rfl rfl rfl (by simp only [rng] at *; omega) ?_
        refine RL.pure rfl rfl rfl rfl ?_
        refine RL.done ?_
        cases i with
        | zero => omega
        | succ i =>
          refine fun ac ha => ⟨i, [(1, .slice la l.length lc), (5, .slice a2 V.length c2), (6, i64 ((V.take k).countP (says l true) : Nat)), (7, i64 ((V.take k).countP (says l false) : Nat)), (8, i64 k), (9, i64 ((m : Int) + 1))], ha.sub ⟨rfl, rfl, rfl, rfl, rfl, rfl, trivial⟩, ⟨hg4.drew, hax4.trans (Aux.drew _), m + 1, rfl, by omega, find_take_none hml hno hp⟩, Nat.lt_succ_self i⟩
      · have hp : isOf V[k] l[m] = true := by simpa [isOf] using he
        have hf := find_take_some hml hno hp
        have hT : says l true V[k] = l[m].2 := by rw [vote_some hf]; cases l[m].2 <;> rfl
        have hF : says l false V[k] = !l[m].2 := by rw [vote_some hf]; cases l[m].2 <;> rfl
        refine CW.skip ?_
        refine CW.seq (CW.seq (CW.plain ?_))
        refine RL.pure rfl rfl rfl rfl ?_
        refine RL.pure rfl rfl rfl rfl ?_
        refine RL.idx rfl rfl rfl rfl sl23 rfl rfl (hl3) (by omega) (by omega) ?_
        rintro q7 vs7 hvl7 hH7 ⟨rfl, hr7⟩
        refine RL.field rfl rfl rfl rfl fl41_1 rfl rfl ?_
        refine RL.load rfl rfl rfl rfl ty4 rfl (hH7) (hg4.drew.sh) rfl ?_
        refine RL.done ?_
        refine CW.cond rfl (fun hy => ?_) (fun hy => ?_)
        · have hy' : l[m].2 = true := by simpa using hy
          refine CW.plain ?_
          refine RL.pure rfl rfl rfl rfl ?_
          refine RL.add rfl rfl rfl rfl rfl rfl (by simp only [rng] at *; omega) ?_
          refine RL.pure rfl rfl rfl rfl ?_
          refine RL.done ?_
          refine CW.exit ?_
          refine CW.plain ?_
          refine RL.pure rfl rfl rfl rfl ?_
          refine RL.add rfl rfl rfl rfl rfl rfl (by simp only [rng] at *; omega) ?_
          refine RL.pure rfl rfl rfl rfl ?_
          refine RL.done ?_
          cases j with
          | zero => omega
          | succ j =>
            refine fun ac ha => ⟨j, [(1, .slice la l.length lc), (5, .slice a2 V.length c2), (6, i64 ((V.take (k + 1)).countP (says l true) : Nat)), (7, i64 ((V.take (k + 1)).countP (says l false) : Nat)), (8, i64 ((k : Int) + 1))], ha.sub ⟨rfl, rfl, (by rw [countP_take _ V k hkl, hT, hy']; rfl), (by rw [countP_take _ V k hkl, hF, hy']; rfl), rfl, trivial⟩, ⟨hg4.drew, hax4.trans (Aux.drew _), k + 1, rfl, by omega⟩, Nat.lt_succ_self j⟩
        · have hy' : l[m].2 = false := by simpa using hy
          refine CW.plain ?_
          refine RL.pure rfl rfl rfl rfl ?_
          refine RL.add rfl rfl rfl rfl rfl rfl (by simp only [rng] at *; omega) ?_
          refine RL.pure rfl rfl rfl rfl ?_
          refine RL.done ?_
          refine CW.exit ?_
          refine CW.plain ?_
          refine RL.pure rfl rfl rfl rfl ?_
          refine RL.add rfl rfl rfl rfl rfl rfl (by simp only [rng] at *; omega) ?_
          refine RL.pure rfl rfl rfl rfl ?_
          refine RL.done ?_
          cases j with
          | zero => omega
          | succ j =>
            refine fun ac ha => ⟨j, [(1, .slice la l.length lc), (5, .slice a2 V.length c2), (6, i64 ((V.take (k + 1)).countP (says l true) : Nat)), (7, i64 ((V.take (k + 1)).countP (says l false) : Nat)), (8, i64 ((k : Int) + 1))], ha.sub ⟨rfl, rfl, (by rw [countP_take _ V k hkl, hT, hy']; rfl), (by rw [countP_take _ V k hkl, hF, hy']; rfl), rfl, trivial⟩, ⟨hg4.drew, hax4.trans (Aux.drew _), k + 1, rfl, by omega⟩, Nat.lt_succ_self j⟩
    · have hml : m = l.length := by omega
      rw [hml, List.take_length] at hno
      refine CW.exit ?_
      refine CW.plain ?_
      refine RL.pure rfl rfl rfl rfl ?_
      refine RL.add rfl rfl rfl rfl rfl rfl (by simp only [rng] at *; omega) ?_
      refine RL.pure rfl rfl rfl rfl ?_
      refine RL.done ?_
      cases j with
      | zero => omega
      | succ j =>
        refine fun ac ha => ⟨j, [(1, .slice la l.length lc), (5, .slice a2 V.length c2), (6, i64 ((V.take (k + 1)).countP (says l true) : Nat)), (7, i64 ((V.take (k + 1)).countP (says l false) : Nat)), (8, i64 ((k : Int) + 1))], ha.sub ⟨rfl, rfl, (by rw [countP_take _ V k hkl, vote_none hno]; rfl), (by rw [countP_take _ V k hkl, vote_none hno]; rfl), rfl, trivial⟩, ⟨hg4, hax4, k + 1, rfl, by omega⟩, Nat.lt_succ_self j⟩
  · refine CW.exit ?_
    have hkl : k = V.length := by omega
    subst hkl
    rw [List.take_length]
    have hct : V.countP (says l true) ≤ V.length := List.countP_le_length
    have hcf : V.countP (says l false) ≤ V.length := List.countP_le_length
    refine CW.seq (CW.block (CW.seq (CW.plain ?_)))
    refine RL.pure rfl rfl rfl rfl ?_
    refine RL.len rfl rfl rfl rfl sl22 rfl ?_
    refine RL.pure rfl rfl rfl rfl ?_
    refine RL.pure rfl rfl rfl rfl ?_
    refine RL.done ?_
    refine CW.eq rfl (fun h0 => ?_) (fun h0 => ?_)
    · refine CW.seq (CW.plain ?_)
      refine RL.pure rfl rfl rfl rfl ?_
      refine RL.done ?_
      refine CW.ret (ret (vs := [_]) ⟨_, _, rfl, rfl, rfl⟩ (Post.mk hle3 hg1.nil hax1 (congrArg i64 ?_)))
      have hz : V.length = 0 := by omega
      have : most ((V.length : Nat) : Int) = 0 := by rw [hz]; rfl
      rw [tallyP, if_neg (by omega), if_neg (by omega)]
    · refine CW.seq (CW.plain ?_)
      refine RL.pure rfl rfl rfl rfl ?_
      refine RL.pure rfl rfl rfl rfl ?_
      refine RL.len rfl rfl rfl rfl sl22 rfl ?_
      refine RL.callV rfl rfl rfl rfl rfl ca14 (rMost_ct hg1 (rng_len (by omega))) ?_
      rintro v5 w5 hg5 hax5 rfl
      refine ⟨trivial, ?_⟩
      refine RL.pure rfl rfl rfl rfl ?_
      refine RL.pure rfl rfl rfl rfl ?_
      refine RL.done ?_
      refine CW.test rfl (fun h1 => ?_) (fun h1 => ?_)
      · refine CW.seq (CW.plain ?_)
        refine RL.pure rfl rfl rfl rfl ?_
        refine RL.done ?_
        refine CW.ret (ret (vs := [_]) ⟨_, _, rfl, rfl, rfl⟩ (Post.mk hle3 hg5.nil (hax1.trans hax5) (congrArg i64 ?_)))
        rw [tallyP, if_pos ⟨by omega, by omega⟩]
      · refine CW.seq (CW.plain ?_)
        refine RL.pure rfl rfl rfl rfl ?_
        refine RL.len rfl rfl rfl rfl sl22 rfl ?_
        refine RL.pure rfl rfl rfl rfl ?_
        refine RL.sub rfl rfl rfl rfl rfl rfl ((by simp only [rng]; omega)) ?_
        refine RL.pure rfl rfl rfl rfl ?_
        refine RL.len rfl rfl rfl rfl sl22 rfl ?_
        refine RL.callV rfl rfl rfl rfl rfl ca14 (rMost_ct hg5 (rng_len (by omega))) ?_
        rintro v6 w6 hg6 hax6 rfl
        refine ⟨trivial, ?_⟩
        refine RL.pure rfl rfl rfl rfl ?_
        refine RL.pure rfl rfl rfl rfl ?_
        refine RL.done ?_
        refine CW.test rfl (fun h2 => ?_) (fun h2 => ?_)
        · refine CW.seq (CW.plain ?_)
          refine RL.pure rfl rfl rfl rfl ?_
          refine RL.done ?_
          refine CW.ret (ret (vs := [_]) ⟨_, _, rfl, rfl, rfl⟩ (Post.mk hle3 hg6.nil (hax1.trans (hax5.trans hax6)) (congrArg i64 ?_)))
          rw [tallyP, if_neg (by omega), if_pos (by omega)]
        · refine CW.skip ?_
          refine CW.seq (CW.plain ?_)
          refine RL.pure rfl rfl rfl rfl ?_
          refine RL.done ?_
          refine CW.ret (ret (vs := [_]) ⟨_, _, rfl, rfl, rfl⟩ (Post.mk hle3 hg6.nil (hax1.trans (hax5.trans hax6)) (congrArg i64 ?_)))
          rw [tallyP, if_neg (by omega), if_neg (by omega)]

theorem Has_ct' {w : World} {s : Res} {os : List Res} {xs ys : List Int} {xa ya : Option Addr} {xc yc n m : Nat} (hg : Good w s os) (hx : Ints s xa xc xs) (hy : Ints s ya yc ys) (hl : xs.length * 8 ≤ 140737488355328) (hn : n = xs.length) (hm : m = ys.length) :
    Calls Try.prog 11 #[.slice xa n xc, .slice ya m yc] w (Post w s os fun _ _ r => r = .bool (hasP (uniq xs) ys)) := by
  subst hn hm; exact Has_ct hg hx hy hl
theorem Tally_ct' {w : World} {s : Res} {os : List Res} {xs : List Int} {l : List Ballot} {xa la : Option Addr} {xc lc n m : Nat} (hg : Good w s os) (hx : Ints s xa xc xs) (hl : Ballots s la lc l) (hb : xs.length * 8 ≤ 140737488355328) (hn : n = xs.length) (hm : m = l.length) :
    Calls Try.prog 12 #[.slice xa n xc, .slice la m lc] w (Post w s os fun _ _ r => r = i64 (tallyP (uniq xs) l)) := by
  subst hn hm; exact Tally_ct hg hx hl hb

/-! ### the live question -/
set_option maxRecDepth 100000 in
theorem head_ct {w : World} {s : Res} {os : List Res} (hg : Good w s os) :
    Calls Try.prog 10 #[] w (Post w s os fun _ _ r => r = .bool true) := by
  have hhas : hasP (uniq [1, 2, 3]) [3, 1] = true := by rw [← hasP_perm (once_perm _)]; decide +kernel
  have htal : tallyP (uniq [1, 2, 3]) [(1, true), (3, true)] = 1 := by rw [← tallyP_perm (once_perm _)]; decide +kernel
  refine enter (l := []) Try.func10 rfl Try.ntmps10 rfl ?_
  refine CW.seq (CW.plain ?_)
  refine RL.pure rfl rfl rfl rfl ?_
  refine RL.done ?_
  refine CW.seq (CW.plain ?_)
  refine RL.callV rfl rfl rfl rfl rfl ca13 (Most_ct (n := 4) hg (by simp only [rng]; omega)) ?_
  rintro v1 w1 hg1 hax1 rfl
  refine ⟨trivial, ?_⟩
  refine RL.as_ rfl rfl rfl rfl (.bool true) (by rfl) ?_
  refine RL.pure rfl rfl rfl rfl ?_
  refine RL.buildSlice rfl rfl rfl rfl sl22 ze3 rfl rfl rfl rfl hg1 ?_
  rintro b2 w2 hg2 hax2
  refine ⟨trivial, ?_⟩
  refine RL.buildSlice rfl rfl rfl rfl sl22 ze3 rfl rfl rfl rfl hg2 ?_
  rintro b3 w3 hg3 hax3
  refine ⟨trivial, ?_⟩
  obtain ⟨s4, hg4, hle4, hB4⟩ := hg3.letgo
  obtain ⟨s5, hg5, hle5, hB5⟩ := hg4.letgo
  have hx : Ints s5 (some ⟨b2, 0, none⟩) 3 [1, 2, 3] := ⟨Nat.le_refl _, by decide, .inr ⟨_, rfl, _, (Holds.of (if_pos rfl)).le hB5, ints_chunks (k := .i64) (xs := [1, 2, 3]) (by simp [rng])⟩⟩
  have hy : Ints s5 (some ⟨b3, 0, none⟩) 2 [3, 1] := ⟨Nat.le_refl _, by decide, .inr ⟨_, rfl, _, ((Holds.of (if_pos rfl)).le hB4).le hle5, ints_chunks (k := .i64) (xs := [3, 1]) (by simp [rng])⟩⟩
  refine RL.call rfl rfl rfl rfl rfl ca11 (Has_ct' (xs := [1, 2, 3]) (ys := [3, 1]) hg5 hx hy (by simp) rfl rfl) ?_
  rintro v6 s6 A6 w6 hle6 hg6 hax6 rfl
  refine ⟨trivial, ?_⟩
  refine RL.as_ rfl rfl rfl rfl (.bool true) (congrArg Value.bool hhas) ?_
  refine RL.pure rfl rfl rfl rfl ?_
  refine RL.buildSlice rfl rfl rfl rfl sl22 ze3 rfl rfl rfl rfl hg6 ?_
  rintro b7 w7 hg7 hax7
  refine ⟨trivial, ?_⟩
  refine RL.build rfl rfl rfl rfl ze41 pl41 rfl rfl ?_
  refine RL.build rfl rfl rfl rfl ze41 pl41 rfl rfl ?_
  refine RL.buildSlice rfl rfl rfl rfl sl23 ze41 rfl rfl rfl rfl hg7 ?_
  rintro b8 w8 hg8 hax8
  refine ⟨trivial, ?_⟩
  obtain ⟨s9, hg9, hle9, hB9⟩ := hg8.letgo
  obtain ⟨s10, hg10, hle10, hB10⟩ := hg9.letgo
  have hx2 : Ints s10 (some ⟨b7, 0, none⟩) 3 [1, 2, 3] := ⟨Nat.le_refl _, by decide, .inr ⟨_, rfl, _, (Holds.of (if_pos rfl)).le hB10, ints_chunks (k := .i64) (xs := [1, 2, 3]) (by simp [rng])⟩⟩
  have hl2 : Ballots s10 (some ⟨b8, 0, none⟩) 2 [(1, true), (3, true)] := ⟨Nat.le_refl _, by decide, .inr ⟨_, rfl, _, ((Holds.of (if_pos rfl)).le hB9).le hle10, [i64 1, .bool true], [i64 3, .bool true], rfl, rfl, ⟨rfl, by simp [rng]⟩, [i64 3, .bool true], [], rfl, rfl, ⟨rfl, by simp [rng]⟩, rfl⟩⟩
  refine RL.call rfl rfl rfl rfl rfl ca12 (Tally_ct' (xs := [1, 2, 3]) (l := [(1, true), (3, true)]) hg10 hx2 hl2 (by simp) rfl rfl) ?_
  rintro v11 s11 A11 w11 hle11 hg11 hax11 rfl
  refine ⟨trivial, ?_⟩
  refine RL.pure rfl rfl rfl rfl ?_
  refine RL.pure rfl rfl rfl rfl ?_
  refine RL.pure rfl rfl rfl rfl ?_
  refine RL.done ?_
  have e : (tallyP (uniq [1, 2, 3]) [(1, true), (3, true)] == 1) = true := by rw [htal]; rfl
  refine CW.ret (ret (vs := [_]) ⟨_, _, rfl, rfl, rfl⟩ (Post.mk (hle4.trans (hle5.trans (hle6.trans (hle9.trans (hle10.trans hle11))))) hg11.drop.drop.nil (hax1.trans (hax2.trans (hax3.trans (hax6.trans (hax7.trans (hax8.trans hax11)))))) (congrArg Value.bool e)))
end Go.Lw
