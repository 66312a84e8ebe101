/-
  Quorum: the laws QuorumMost, QuorumTells, QuorumMeets, QuorumStays: walked.
-/
import Derived.Test.YtdleejgghbpbmaaQuorumL
namespace Go.Lw
open Go.Proofs

set_option maxRecDepth 100000 in
theorem QuorumMost_ct {w : World} {s : Res} {os : List Res} {n : Int} (hg : Good w s os) (hn : rng .i64 n) :
    Calls Try.prog 4 #[i64 n] w (Post w s os fun _ _ r => r = .bool true) := by
  refine enter (l := [i64 n]) Try.func4 rfl Try.ntmps4 rfl ?_
  refine CW.seq (CW.plain ?_)
  refine RL.pure rfl rfl rfl rfl ?_
  refine RL.done ?_
  refine CW.seq (CW.plain ?_)
  refine RL.call rfl rfl rfl rfl rfl ca10 (head_ct hg) ?_
  rintro v1 s1 A1 w1 hle1 hg1 hax1 rfl
  refine ⟨trivial, ?_⟩
  refine RL.pure rfl rfl rfl rfl ?_
  refine RL.done ?_
  refine CW.seq (CW.plain ?_)
  refine RL.pure rfl rfl rfl rfl ?_
  refine RL.pure rfl rfl rfl rfl ?_
  refine RL.pure rfl rfl rfl rfl ?_
  refine RL.callV rfl rfl rfl rfl rfl ca13 (Most_ct hg1 hn) ?_
  rintro v2 w2 hg2 hax2 rfl
  refine ⟨trivial, ?_⟩
  refine RL.pure rfl rfl rfl rfl ?_
  refine RL.callV rfl rfl rfl rfl rfl ca14 (rMost_ct hg2 hn) ?_
  rintro v3 w3 hg3 hax3 rfl
  refine ⟨trivial, ?_⟩
  refine RL.pure rfl rfl rfl rfl ?_
  refine RL.pure rfl rfl rfl rfl ?_
  refine RL.pure rfl rfl rfl rfl ?_
  refine RL.done ?_
  exact CW.ret (ret (vs := [_]) ⟨_, _, rfl, rfl, rfl⟩ (Post.mk hle1 hg3 (hax1.trans (hax2.trans hax3)) (congrArg Value.bool (beq_self_eq_true (most n)))))

set_option maxRecDepth 100000 in
theorem QuorumTells_ct {w : World} {s : Res} {os : List Res} {xs ys : List Int} {l : List Ballot} {xa ya la : Option Addr} {xc yc lc : Nat} (hg : Good w s os) (hx : Ints s xa xc xs) (hy : Ints s ya yc ys) (hl : Ballots s la lc l) (hb : (xs.length + 1) * 8 ≤ 140737488355328) :
    Calls Try.prog 3 #[.slice xa xs.length xc, .slice ya ys.length yc, .slice la l.length lc] w (Post w s os fun _ _ r => r = .bool true) := by
  have hup := fun {s s' : Res} {a : Option Addr} {c : Nat} {xs : List Int} (h : Ints s a c xs) (hle : Le s s') => Imm.up (RInt.up .i64) h hle
  refine enter (l := [.slice xa xs.length xc, .slice ya ys.length yc, .slice la l.length lc]) Try.func3 rfl Try.ntmps3 rfl ?_
  refine CW.seq (CW.plain ?_)
  refine RL.pure rfl rfl rfl rfl ?_
  refine RL.done ?_
  refine CW.seq (CW.plain ?_)
  refine RL.call rfl rfl rfl rfl rfl ca10 (head_ct hg) ?_
  rintro v1 s1 A1 w1 hle1 hg1 hax1 rfl
  refine ⟨trivial, ?_⟩
  refine RL.pure rfl rfl rfl rfl ?_
  refine RL.done ?_
  refine CW.seq (CW.plain ?_)
  refine RL.buildSlice rfl rfl rfl rfl sl22 ze3 rfl rfl rfl rfl hg1.drop ?_
  rintro b2 w2 hg2 hax2
  refine ⟨trivial, ?_⟩
  refine RL.pure rfl rfl rfl rfl ?_
  obtain ⟨news, hsrc, hch⟩ := Src.row (c := xc) sl22 (hup hx hle1).2.2 hg2.sh
  refine RL.append (i := 0) (ys := xs) rfl rfl rfl rfl sl22 ze3 rfl (by first | exact RInt.one _ | exact RStr.one | exact RBool.one | assumption) rfl rfl hg2 rfl (Own.fresh (R := RInt .i64) (sz := 1) (el := 3) (s := s1) (b := b2)) (hsrc) (hch) ((by simp; omega)) (by omega) ?_
  rintro a3 c3 A3 w3 hg3 hown3 hax3 hk3
  refine ⟨trivial, ?_⟩
  refine RL.buildSlice rfl rfl rfl rfl sl22 ze3 rfl rfl rfl rfl hg3 ?_
  rintro b4 w4 hg4 hax4
  refine ⟨trivial, ?_⟩
  refine RL.append (i := 1) (ys := [77]) rfl rfl rfl rfl sl22 ze3 rfl (by first | exact RInt.one _ | exact RStr.one | exact RBool.one | assumption) rfl rfl hg4 rfl hown3 ((Src.slice sl22 rfl (.inr ⟨_, rfl, Holds.one b4 _ 3⟩) hg4.1)) ((ints_chunks (k := .i64) (xs := [77]) (by simp [rng]))) ((by simp; omega)) (by omega) ?_
  rintro a5 c5 A5 w5 hg5 hown5 hax5 hk5
  refine ⟨trivial, ?_⟩
  refine RL.pure rfl rfl rfl rfl ?_
  refine RL.len rfl rfl rfl rfl sl22 rfl ?_
  obtain ⟨s6, hg6, hle6, hA6⟩ := (Good.swap hg5).letgo
  refine RL.reslice rfl rfl rfl rfl sl22 rfl rfl (hown5.imm (RInt.up _) hle6 hA6) (by omega) (by simp; omega) ?_
  rintro a7 hI
  refine RL.pure rfl rfl rfl rfl ?_
  refine RL.done ?_
  have hown : Ints s6 a7 c5 xs := by simpa using hI.front
  have hX := hup (hup hx hle1) hle6
  have hY := hup (hup hy hle1) hle6
  have hL := (hl.up RBallot.up hle1).up RBallot.up hle6
  refine CW.seq (CW.plain ?_)
  refine RL.pure rfl rfl rfl rfl ?_
  refine RL.pure rfl rfl rfl rfl ?_
  refine RL.call rfl rfl rfl rfl rfl ca11 (Has_ct (xs := xs) hg6 hown hY (by omega)) ?_
  rintro v8 s8 A8 w8 hle8 hg8 hax8 rfl
  refine ⟨trivial, ?_⟩
  refine RL.pure rfl rfl rfl rfl ?_
  refine RL.done ?_
  refine CW.seq (CW.plain ?_)
  refine RL.pure rfl rfl rfl rfl ?_
  refine RL.pure rfl rfl rfl rfl ?_
  refine RL.call rfl rfl rfl rfl rfl ca12 (Tally_ct (xs := xs) hg8 (hup hown hle8) (hL.up RBallot.up hle8) (by omega)) ?_
  rintro v9 s9 A9 w9 hle9 hg9 hax9 rfl
  refine ⟨trivial, ?_⟩
  refine RL.pure rfl rfl rfl rfl ?_
  refine RL.done ?_
  refine CW.seq (CW.plain ?_)
  refine RL.pure rfl rfl rfl rfl ?_
  refine RL.len rfl rfl rfl rfl sl22 rfl ?_
  refine RL.callV rfl rfl rfl rfl rfl ca13 (Most_ct hg9 (rng_len (by omega))) ?_
  rintro v10 w10 hg10 hax10 rfl
  refine ⟨trivial, ?_⟩
  refine RL.pure rfl rfl rfl rfl ?_
  refine RL.len rfl rfl rfl rfl sl22 rfl ?_
  refine RL.callV rfl rfl rfl rfl rfl ca14 (rMost_ct hg10 (rng_len (by omega))) ?_
  rintro v11 w11 hg11 hax11 rfl
  refine ⟨trivial, ?_⟩
  refine RL.as_ rfl rfl rfl rfl (.bool true) (congrArg Value.bool (beq_self_eq_true (most xs.length))) ?_
  refine RL.pure rfl rfl rfl rfl ?_
  refine RL.done ?_
  have hg12 := hg11.drop.drop.drop
  have hle9' := hle8.trans hle9
  have hX9 := hup hX hle9'
  have hO9 := hup hown hle9'
  refine CW.seq (CW.seq (CW.plain ?_))
  refine RL.pure rfl rfl rfl rfl ?_
  refine RL.done ?_
  refine CW.block (CW.loop (σ := Nat) (fun j E w' => Good w' s9 os ∧ Aux w w' ∧ ∃ k : Nat, E = [(0, .slice xa xs.length xc), (1, .slice ya ys.length yc), (2, .slice la l.length lc), (7, .bool true), (8, .slice a7 xs.length c5), (9, .bool (hasP (uniq xs) ys)), (10, i64 (tallyP (uniq xs) l)), (11, .bool true), (12, i64 k)] ∧ k + j = xs.length)
    (fun j => j) xs.length [(0, .slice xa xs.length xc), (1, .slice ya ys.length yc), (2, .slice la l.length lc), (7, .bool true), (8, .slice a7 xs.length c5), (9, .bool (hasP (uniq xs) ys)), (10, i64 (tallyP (uniq xs) l)), (11, .bool true), (12, i64 0)] ⟨rfl, rfl, rfl, rfl, rfl, rfl, rfl, rfl, rfl, trivial⟩
    ⟨hg12, hax1.trans (hax2.trans (hax3.trans (hax4.trans (hax5.trans (hax8.trans (hax9.trans (hax10.trans hax11))))))), 0, rfl, by omega⟩ ?_)
  rintro j E w13 ⟨hg13, hax13, k, rfl, hk⟩
  refine CW.seq (CW.seq (CW.plain ?_))
  refine RL.pure rfl rfl rfl rfl ?_
  refine RL.pure rfl rfl rfl rfl ?_
  refine RL.len rfl rfl rfl rfl sl22 rfl ?_
  refine RL.pure rfl rfl rfl rfl ?_
  refine RL.done ?_
  refine CW.test rfl (fun h => ?_) (fun h => ?_)
  · refine CW.skip ?_
    have hkl : k < xs.length := by omega
    refine CW.seq (CW.block (CW.seq ?_))
    refine CW.draws [(true, 0), (true, 1), (true, 2), (true, 3), (true, 4), (true, 5), (true, 6), (true, 7), (true, 8)] (fun w => Good w s9 os) mixed (by kernel_rfl) (by kernel_rfl) (by kernel_rfl) (by kernel_rfl) (hg13.drew) ?_
    refine RL.pure rfl rfl rfl rfl ?_
    refine RL.pure rfl rfl rfl rfl ?_
    refine RL.idx rfl rfl rfl rfl sl22 rfl rfl (hO9) (by omega) (by omega) ?_
    rintro q5 vs5 hvl5 hH5 ⟨rfl, hr5⟩
    refine RL.loadT rfl rfl rfl rfl ty3 rfl (hH5) (fun w h => h.sh) rfl ?_
    refine RL.pure rfl rfl rfl rfl ?_
    refine RL.pure rfl rfl rfl rfl ?_
    refine RL.idx rfl rfl rfl rfl sl22 rfl rfl (hX9) (by omega) (by omega) ?_
    rintro q6 vs6 hvl6 hH6 ⟨rfl, hr6⟩
    refine RL.loadT rfl rfl rfl rfl ty3 rfl (hH6) (fun w h => h.sh) rfl ?_
    refine RL.pure rfl rfl rfl rfl ?_
    refine RL.done ?_
    refine CW.ne rfl (fun hne => absurd rfl hne) (fun _ => ?_)
    refine CW.skip ?_
    refine CW.plain ?_
    refine RL.pure rfl rfl rfl rfl ?_
    refine RL.add rfl rfl rfl rfl rfl rfl (by simp only [rng] at *; omega) ?_
    refine RL.pure rfl rfl rfl rfl ?_
    refine RL.done ?_
    cases j with
    | zero => omega
    | succ j =>
      refine fun ac ha => ⟨j, [(0, .slice xa xs.length xc), (1, .slice ya ys.length yc), (2, .slice la l.length lc), (7, .bool true), (8, .slice a7 xs.length c5), (9, .bool (hasP (uniq xs) ys)), (10, i64 (tallyP (uniq xs) l)), (11, .bool true), (12, i64 ((k : Int) + 1))], ha.sub ⟨rfl, rfl, rfl, rfl, rfl, rfl, rfl, rfl, rfl, trivial⟩, ⟨hg13.drew, hax13.trans (Aux.drew _), k + 1, rfl, by omega⟩, Nat.lt_succ_self j⟩
  · refine CW.exit (CW.seq (CW.plain ?_))
    have hE1 : (hasP (uniq xs) ys == hasP (onceR xs) ys) = true := by rw [hasP_perm (once_perm xs)]; exact beq_self_eq_true _
    have hE2 : (tallyP (uniq xs) l == tallyP (onceR xs) l) = true := by rw [tallyP_perm (once_perm xs)]; exact beq_self_eq_true _
    refine RL.pure rfl rfl rfl rfl ?_
    refine RL.pure rfl rfl rfl rfl ?_
    refine RL.pure rfl rfl rfl rfl ?_
    refine RL.pure rfl rfl rfl rfl ?_
    refine RL.pure rfl rfl rfl rfl ?_
    refine RL.pure rfl rfl rfl rfl ?_
    refine RL.pure rfl rfl rfl rfl ?_
    refine RL.pure rfl rfl rfl rfl ?_
    refine RL.call rfl rfl rfl rfl rfl ca15 (rHas_ct hg13 hX9 (hup hY hle9') (by omega)) ?_
    rintro v14 s14 A14 w14 hle14 hg14 hax14 rfl
    refine ⟨trivial, ?_⟩
    refine RL.bEq rfl rfl rfl rfl Try.underlying4 rfl rfl ?_
    rw [hE1]
    refine RL.pure rfl rfl rfl rfl ?_
    refine RL.pure rfl rfl rfl rfl ?_
    refine RL.pure rfl rfl rfl rfl ?_
    refine RL.pure rfl rfl rfl rfl ?_
    refine RL.pure rfl rfl rfl rfl ?_
    refine RL.call rfl rfl rfl rfl rfl ca16 (rTally_ct hg14 (hup hX9 hle14) ((hL.up RBallot.up hle9').up RBallot.up hle14) (by omega)) ?_
    rintro v15 s15 A15 w15 hle15 hg15 hax15 rfl
    refine ⟨trivial, ?_⟩
    refine RL.as_ rfl rfl rfl rfl (.bool true) (congrArg Value.bool hE2) ?_
    refine RL.pure rfl rfl rfl rfl ?_
    refine RL.pure rfl rfl rfl rfl ?_
    refine RL.pure rfl rfl rfl rfl ?_
    refine RL.pure rfl rfl rfl rfl ?_
    refine RL.len rfl rfl rfl rfl sl22 rfl ?_
    refine RL.add rfl rfl rfl rfl rfl rfl (by simp only [rng] at *; omega) ?_
    refine RL.reslice rfl rfl rfl rfl sl22 rfl rfl hI (by omega) (by simp) ?_
    rintro a16 hI2
    rw [show ((xs.length : Int) + 1).toNat = ([] ++ xs ++ [77]).length by simp]
    refine RL.pure rfl rfl rfl rfl ?_
    refine RL.len rfl rfl rfl rfl sl22 rfl ?_
    refine RL.idx rfl rfl rfl rfl sl22 rfl rfl (hI2) (by omega) ((by simp; omega)) ?_
    rintro q7 vs7 hvl7 hH7 ⟨rfl, hr7⟩
    refine RL.load rfl rfl rfl rfl ty3 rfl (hH7) ((hg15.sh.le (hle9'.trans (hle14.trans hle15)))) rfl ?_
    refine RL.pure rfl rfl rfl rfl ?_
    refine RL.pure rfl rfl rfl rfl ?_
    refine RL.pure rfl rfl rfl rfl ?_
    refine RL.done ?_
    refine CW.ret (ret (vs := [_]) ⟨_, _, rfl, rfl, rfl⟩ (Post.mk (hle1.trans (hle6.trans (hle9'.trans (hle14.trans hle15)))) hg15.drop.drop.nil (hax13.trans (hax14.trans hax15)) (congrArg Value.bool ?_)))
    simp

set_option maxRecDepth 100000 in
theorem QuorumStays_ct {w : World} {s : Res} {os : List Res} {xs : List Int} {l m : List Ballot} {xa la ma : Option Addr} {xc lc mc : Nat} (hg : Good w s os) (hx : Ints s xa xc xs) (hl : Ballots s la lc l) (hm : Ballots s ma mc m) (hb : xs.length * 8 ≤ 140737488355328) (hb2 : (l.length + m.length) * 16 ≤ 140737488355328) :
    Calls Try.prog 6 #[.slice xa xs.length xc, .slice la l.length lc, .slice ma m.length mc] w (Post w s os fun _ _ r => r = .bool true) := by
  have hone := RBallot.one
  refine enter (l := [.slice xa xs.length xc, .slice la l.length lc, .slice ma m.length mc]) Try.func6 rfl Try.ntmps6 rfl ?_
  refine CW.seq (CW.plain ?_)
  refine RL.pure rfl rfl rfl rfl ?_
  refine RL.done ?_
  refine CW.seq (CW.plain ?_)
  refine RL.call rfl rfl rfl rfl rfl ca10 (head_ct hg) ?_
  rintro v1 s1 A1 w1 hle1 hg1 hax1 rfl
  refine ⟨trivial, ?_⟩
  refine RL.pure rfl rfl rfl rfl ?_
  refine RL.done ?_
  refine CW.seq (CW.plain ?_)
  refine RL.pure rfl rfl rfl rfl ?_
  refine RL.pure rfl rfl rfl rfl ?_
  refine RL.call rfl rfl rfl rfl rfl ca12 (Tally_ct hg1 (hx.up (RInt.up _) hle1) (hl.up RBallot.up hle1) hb) ?_
  rintro v2 s2 A2 w2 hle2 hg2 hax2 rfl
  refine ⟨trivial, ?_⟩
  refine RL.pure rfl rfl rfl rfl ?_
  refine RL.done ?_
  have hle12 := hle1.trans hle2
  refine CW.seq (CW.plain ?_)
  refine RL.buildSlice rfl rfl rfl rfl sl23 ze41 rfl rfl rfl rfl hg2.drop.drop ?_
  rintro b3 w3 hg3 hax3
  refine ⟨trivial, ?_⟩
  refine RL.pure rfl rfl rfl rfl ?_
  obtain ⟨news, hsrc, hch⟩ := Src.row (c := lc) sl23 (hl.up RBallot.up hle12).2.2 hg3.sh
  refine RL.append (i := 0) (ys := l) rfl rfl rfl rfl sl23 ze41 rfl (by first | exact RInt.one _ | exact RStr.one | exact RBool.one | assumption) rfl rfl hg3 rfl (Own.fresh (R := RBallot) (sz := 2) (el := 41) (s := s2) (b := b3)) (hsrc) (hch) ((by simp; omega)) (by omega) ?_
  rintro a4 c4 A4 w4 hg4 hown4 hax4 hk4
  refine ⟨trivial, ?_⟩
  refine RL.pure rfl rfl rfl rfl ?_
  obtain ⟨news2, hsrc2, hch2⟩ := Src.row (c := mc) sl23 (hm.up RBallot.up hle12).2.2 hg4.sh
  refine RL.append (i := 0) (ys := m) rfl rfl rfl rfl sl23 ze41 rfl (by first | exact RInt.one _ | exact RStr.one | exact RBool.one | assumption) rfl rfl hg4 rfl hown4 (hsrc2) (hch2) ((by simp; omega)) (by omega) ?_
  rintro a5 c5 A5 w5 hg5 hown5 hax5 hk5
  refine ⟨trivial, ?_⟩
  refine RL.pure rfl rfl rfl rfl ?_
  refine RL.done ?_
  obtain ⟨s6, hg6, hle6, hA6⟩ := hg5.letgo
  have hall : Ballots s6 a5 c5 (l ++ m) := hown5.imm RBallot.up hle6 hA6
  have hax := hax1.trans (hax2.trans (hax3.trans (hax4.trans hax5)))
  refine CW.seq (CW.plain ?_)
  by_cases h0 : tallyP (uniq xs) l = 0
  · have h0' : (tallyP (uniq xs) l == 0) = true := by rw [h0]; rfl
    refine RL.pure rfl rfl rfl rfl ?_
    refine RL.pure rfl rfl rfl rfl ?_
    refine RL.pure rfl rfl rfl rfl ?_
    refine RL.as_ rfl rfl rfl rfl (.bool true) (congrArg Value.bool h0') ?_
    refine RL.pure rfl rfl rfl rfl ?_
    refine RL.pass rfl rfl rfl ?_
    refine RL.pass rfl rfl rfl ?_
    refine RL.pass rfl rfl rfl ?_
    refine RL.pass rfl rfl rfl ?_
    refine RL.pass rfl rfl rfl ?_
    refine RL.pure rfl rfl rfl rfl ?_
    refine RL.pure rfl rfl rfl rfl ?_
    refine RL.pure rfl rfl rfl rfl ?_
    refine RL.done ?_
    exact CW.ret (ret (vs := [_]) ⟨_, _, rfl, rfl, rfl⟩ (Post.mk (hle12.trans hle6) hg6.nil hax rfl))
  · have h0' : (tallyP (uniq xs) l == 0) = false := by simpa using h0
    have hst := (stays (uniq xs) l m).resolve_left h0
    refine RL.pure rfl rfl rfl rfl ?_
    refine RL.pure rfl rfl rfl rfl ?_
    refine RL.pure rfl rfl rfl rfl ?_
    refine RL.as_ rfl rfl rfl rfl (.bool false) (congrArg Value.bool h0') ?_
    refine RL.pure rfl rfl rfl rfl ?_
    refine RL.pure rfl rfl rfl rfl ?_
    refine RL.pure rfl rfl rfl rfl ?_
    refine RL.call rfl rfl rfl rfl rfl ca12 (Tally_ct hg6 (hx.up (RInt.up _) (hle12.trans hle6)) hall hb) ?_
    rintro v7 s7 A7 w7 hle7 hg7 hax7 rfl
    refine ⟨trivial, ?_⟩
    refine RL.pure rfl rfl rfl rfl ?_
    refine RL.pure rfl rfl rfl rfl ?_
    refine RL.pure rfl rfl rfl rfl ?_
    refine RL.pure rfl rfl rfl rfl ?_
    refine RL.pure rfl rfl rfl rfl ?_
    refine RL.done ?_
    refine CW.ret (ret (vs := [_]) ⟨_, _, rfl, rfl, rfl⟩ (Post.mk (hle12.trans (hle6.trans hle7)) hg7 (hax.trans hax7) (congrArg Value.bool ?_)))
    exact (beq_iff_eq).2 hst
end Go.Lw
