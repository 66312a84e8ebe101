/-
  Quorum: the law QuorumMeets, walked.
-/
import Derived.Test.YtdleejgghbpbmaaQuorumE
namespace Go.Lw
open Go.Proofs

set_option maxRecDepth 100000 in
theorem QuorumMeets_ct {w : World} {s : Res} {os : List Res} {xs ys zs : List Int} {m : Int} {xa ya za : Option Addr} {xc yc zc : Nat} (hg : Good w s os) (hx : Ints s xa xc xs) (hy : Ints s ya yc ys) (hz : Ints s za zc zs) (hm : rng .i64 m) (hb : (xs.length + 1) * 8 ≤ 140737488355328) :
    Calls Try.prog 5 #[.slice xa xs.length xc, i64 m, .slice ya ys.length yc, .slice za zs.length zc] w (Post w s os fun _ _ r => r = .bool true) := by
  have hup := fun {s s' : Res} {a : Option Addr} {c : Nat} {xs : List Int} (h : Ints s a c xs) (hle : Le s s') => Imm.up (RInt.up .i64) h hle
  refine enter (l := [.slice xa xs.length xc, i64 m, .slice ya ys.length yc, .slice za zs.length zc]) Try.func5 rfl Try.ntmps5 rfl ?_
  refine CW.seq (CW.plain ?_)
  refine RL.pure rfl rfl rfl rfl ?_
  refine RL.done ?_
  refine CW.seq (CW.plain ?_)
  refine RL.call rfl rfl rfl rfl rfl ca10 (head_ct hg) ?_
  rintro v1 s1 A1 w1 hle1 hg1 hax1 rfl
  refine ⟨trivial, ?_⟩
  refine RL.pure rfl rfl rfl rfl ?_
  refine RL.done ?_
  refine CW.seq (CW.plain ?_)
  refine RL.pure rfl rfl rfl rfl ?_
  refine RL.pure rfl rfl rfl rfl ?_
  refine RL.call rfl rfl rfl rfl rfl ca11 (Has_ct hg1 (hup hx hle1) (hup hy hle1) (by omega)) ?_
  rintro v2 s2 A2 w2 hle2 hg2 hax2 rfl
  refine ⟨trivial, ?_⟩
  refine RL.pure rfl rfl rfl rfl ?_
  refine RL.done ?_
  refine CW.seq (CW.plain ?_)
  refine RL.pure rfl rfl rfl rfl ?_
  refine RL.pure rfl rfl rfl rfl ?_
  refine RL.call rfl rfl rfl rfl rfl ca11 (Has_ct hg2 (hup hx (hle1.trans hle2)) (hup hz (hle1.trans hle2)) (by omega)) ?_
  rintro v3 s3 A3 w3 hle3 hg3 hax3 rfl
  refine ⟨trivial, ?_⟩
  refine RL.pure rfl rfl rfl rfl ?_
  refine RL.done ?_
  have h13 := hle1.trans (hle2.trans hle3)
  refine CW.seq (CW.plain ?_)
  refine RL.buildSlice rfl rfl rfl rfl sl22 ze3 rfl rfl rfl rfl hg3.drop.drop.drop ?_
  rintro b4 w4 hg4 hax4
  refine ⟨trivial, ?_⟩
  refine RL.pure rfl rfl rfl rfl ?_
  obtain ⟨news, hsrc, hch⟩ := Src.row (c := xc) sl22 (hup hx h13).2.2 hg4.sh
  refine RL.append (i := 0) (ys := xs) rfl rfl rfl rfl sl22 ze3 rfl (by first | exact RInt.one _ | exact RStr.one | exact RBool.one | assumption) rfl rfl hg4 rfl (Own.fresh (R := RInt .i64) (sz := 1) (el := 3) (s := s3) (b := b4)) (hsrc) (hch) ((by simp; omega)) (by omega) ?_
  rintro a5 c5 A5 w5 hg5 hown5 hax5 hk5
  refine ⟨trivial, ?_⟩
  refine RL.pure rfl rfl rfl rfl ?_
  refine RL.buildSlice rfl rfl rfl rfl sl22 ze3 rfl rfl rfl rfl hg5 ?_
  rintro b6 w6 hg6 hax6
  refine ⟨trivial, ?_⟩
  refine RL.append (i := 1) (ys := [m]) rfl rfl rfl rfl sl22 ze3 rfl (by first | exact RInt.one _ | exact RStr.one | exact RBool.one | assumption) rfl rfl hg6 rfl hown5 ((Src.slice sl22 rfl (.inr ⟨_, rfl, Holds.one b6 _ 3⟩) hg6.1)) ((ints_chunks (k := .i64) (xs := [m]) (by simpa using hm))) ((by simp; omega)) (by omega) ?_
  rintro a7 c7 A7 w7 hg7 hown7 hax7 hk7
  refine ⟨trivial, ?_⟩
  refine RL.pure rfl rfl rfl rfl ?_
  obtain ⟨s8, hg8, hle8, hA8⟩ := (Good.swap hg7).letgo
  have hX : Ints s8 a7 c7 (xs ++ [m]) := hown7.imm (RInt.up _) hle8 hA8
  refine RL.call rfl rfl rfl rfl rfl ca11 (Has_ct' (xs := xs ++ [m]) hg8 hX (hup hz (h13.trans hle8)) (by simp; omega) rfl rfl) ?_
  rintro v9 s9 A9 w9 hle9 hg9 hax9 rfl
  refine ⟨trivial, ?_⟩
  refine RL.pure rfl rfl rfl rfl ?_
  refine RL.done ?_
  have h19 := h13.trans (hle8.trans hle9)
  have hax := hax1.trans (hax2.trans (hax3.trans (hax4.trans (hax5.trans (hax6.trans (hax7.trans hax9))))))
  have hg10 := hg9.drop.drop
  -- true, or they meet
  refine CW.meet (fun E' w' => w' = w9 ∧ (∃ x, x ∈ ys ∧ x ∈ zs) ∧ E' = [(2, .slice ya ys.length yc), (3, .slice za zs.length zc)]) ?_ ?_
  · refine CW.seq (CW.plain ?_)
    cases e1 : hasP (uniq xs) ys with
    | false =>
      refine RL.pure rfl rfl rfl rfl ?_
      refine RL.pure rfl rfl rfl rfl ?_
      refine RL.pure rfl rfl rfl rfl ?_
      refine RL.pure rfl rfl rfl rfl ?_
      refine RL.pure rfl rfl rfl rfl ?_
      refine RL.pure rfl rfl rfl rfl ?_
      refine RL.pure rfl rfl rfl rfl ?_
      refine RL.pass rfl rfl rfl ?_
      refine RL.pass rfl rfl rfl ?_
      refine RL.pass rfl rfl rfl ?_
      refine RL.pass rfl rfl rfl ?_
      refine RL.pass rfl rfl rfl ?_
      refine RL.pass rfl rfl rfl ?_
      refine RL.pure rfl rfl rfl rfl ?_
      refine RL.done ?_
      refine CW.yes rfl ?_
      refine CW.seq (CW.plain ?_)
      refine RL.pure rfl rfl rfl rfl ?_
      refine RL.pure rfl rfl rfl rfl ?_
      refine RL.done ?_
      exact CW.ret (ret (vs := [_]) ⟨_, _, rfl, rfl, rfl⟩ (Post.mk h19 hg10.nil hax rfl))
    | true =>
      cases e2 : hasP (uniq xs) zs with
      | true =>
        refine RL.pure rfl rfl rfl rfl ?_
        refine RL.pure rfl rfl rfl rfl ?_
        refine RL.pure rfl rfl rfl rfl ?_
        refine RL.pure rfl rfl rfl rfl ?_
        refine RL.pure rfl rfl rfl rfl ?_
        refine RL.pure rfl rfl rfl rfl ?_
        refine RL.pure rfl rfl rfl rfl ?_
        refine RL.pure rfl rfl rfl rfl ?_
        refine RL.pure rfl rfl rfl rfl ?_
        refine RL.pure rfl rfl rfl rfl ?_
        refine RL.pass rfl rfl rfl ?_
        refine RL.pass rfl rfl rfl ?_
        refine RL.pure rfl rfl rfl rfl ?_
        refine RL.pure rfl rfl rfl rfl ?_
        refine RL.done ?_
        refine CW.no rfl ?_
        refine CW.skip (fun ac ha => ⟨[(2, .slice ya ys.length yc), (3, .slice za zs.length zc)], ha.sub ⟨rfl, rfl, trivial⟩, ⟨rfl, meets_same e1 e2, rfl⟩⟩)
      | false =>
        cases e3 : hasP (uniq (xs ++ [m])) zs with
        | true =>
          refine RL.pure rfl rfl rfl rfl ?_
          refine RL.pure rfl rfl rfl rfl ?_
          refine RL.pure rfl rfl rfl rfl ?_
          refine RL.pure rfl rfl rfl rfl ?_
          refine RL.pure rfl rfl rfl rfl ?_
          refine RL.pure rfl rfl rfl rfl ?_
          refine RL.pure rfl rfl rfl rfl ?_
          refine RL.pure rfl rfl rfl rfl ?_
          refine RL.pure rfl rfl rfl rfl ?_
          refine RL.pure rfl rfl rfl rfl ?_
          refine RL.pure rfl rfl rfl rfl ?_
          refine RL.pure rfl rfl rfl rfl ?_
          refine RL.pure rfl rfl rfl rfl ?_
          refine RL.pure rfl rfl rfl rfl ?_
          refine RL.done ?_
          refine CW.no rfl ?_
          refine CW.skip (fun ac ha => ⟨[(2, .slice ya ys.length yc), (3, .slice za zs.length zc)], ha.sub ⟨rfl, rfl, trivial⟩, ⟨rfl, meets_more e1 e3, rfl⟩⟩)
        | false =>
          refine RL.pure rfl rfl rfl rfl ?_
          refine RL.pure rfl rfl rfl rfl ?_
          refine RL.pure rfl rfl rfl rfl ?_
          refine RL.pure rfl rfl rfl rfl ?_
          refine RL.pure rfl rfl rfl rfl ?_
          refine RL.pure rfl rfl rfl rfl ?_
          refine RL.pure rfl rfl rfl rfl ?_
          refine RL.pure rfl rfl rfl rfl ?_
          refine RL.pure rfl rfl rfl rfl ?_
          refine RL.pure rfl rfl rfl rfl ?_
          refine RL.pure rfl rfl rfl rfl ?_
          refine RL.pure rfl rfl rfl rfl ?_
          refine RL.pure rfl rfl rfl rfl ?_
          refine RL.pure rfl rfl rfl rfl ?_
          refine RL.done ?_
          refine CW.yes rfl ?_
          refine CW.seq (CW.plain ?_)
          refine RL.pure rfl rfl rfl rfl ?_
          refine RL.pure rfl rfl rfl rfl ?_
          refine RL.done ?_
          exact CW.ret (ret (vs := [_]) ⟨_, _, rfl, rfl, rfl⟩ (Post.mk h19 hg10.nil hax rfl))
  · rintro E' w' ⟨rfl, hmeet, rfl⟩
    have hY := hup hy h19
    have hZ := hup hz h19
    refine CW.seq (CW.seq (CW.plain ?_))
    refine RL.pure rfl rfl rfl rfl ?_
    refine RL.done ?_
    refine CW.block (CW.loop (σ := Nat) (fun j E w' => Good w' s9 os ∧ Aux w w' ∧ ∃ k : Nat, E = [(2, .slice ya ys.length yc), (3, .slice za zs.length zc), (13, i64 k)] ∧ k + j = ys.length ∧ ∀ x ∈ ys.take k, x ∉ zs)
      (fun j => j) ys.length [(2, .slice ya ys.length yc), (3, .slice za zs.length zc), (13, i64 0)] ⟨rfl, rfl, rfl, trivial⟩ ⟨hg10, hax, 0, rfl, by omega, by simp⟩ ?_)
    rintro j E w11 ⟨hg11, hax11, k, rfl, hk, hno⟩
    refine CW.seq (CW.seq (CW.plain ?_))
    refine RL.pure rfl rfl rfl rfl ?_
    refine RL.pure rfl rfl rfl rfl ?_
    refine RL.len rfl rfl rfl rfl sl22 rfl ?_
    refine RL.pure rfl rfl rfl rfl ?_
    refine RL.done ?_
    refine CW.test rfl (fun h => ?_) (fun h => ?_)
    · refine CW.skip ?_
      have hkl : k < ys.length := by omega
      refine CW.seq (CW.block (CW.seq (CW.plain ?_)))
      refine RL.pure rfl rfl rfl rfl ?_
      refine RL.done ?_
      refine CW.block (CW.loop (σ := Nat) (fun i E w' => Good w' s9 os ∧ Aux w w' ∧ ∃ n : Nat, E = [(2, .slice ya ys.length yc), (3, .slice za zs.length zc), (13, i64 k), (14, i64 n)] ∧ n + i = zs.length ∧ ys[k] ∉ zs.take n)
        (fun i => i) zs.length [(2, .slice ya ys.length yc), (3, .slice za zs.length zc), (13, i64 k), (14, i64 0)] ⟨rfl, rfl, rfl, rfl, trivial⟩ ⟨hg11, hax11, 0, rfl, by omega, by simp⟩ ?_)
      rintro i E w12 ⟨hg12, hax12, n, rfl, hn, hno2⟩
      have hly := hy.le_max
      have hlz := hz.le_max
      simp only [maxLen] at hly hlz
      refine CW.seq (CW.seq (CW.plain ?_))
      refine RL.pure rfl rfl rfl rfl ?_
      refine RL.pure rfl rfl rfl rfl ?_
      refine RL.len rfl rfl rfl rfl sl22 rfl ?_
      refine RL.pure rfl rfl rfl rfl ?_
      refine RL.done ?_
      refine CW.test rfl (fun hq => ?_) (fun hq => ?_)
      · refine CW.skip ?_
        have hnl : n < zs.length := by omega
        refine CW.seq (CW.block (CW.seq ?_))
        refine CW.draws [(true, 0), (true, 1), (true, 2), (true, 3), (true, 4), (true, 5), (true, 6), (true, 7), (true, 8)] (fun w => Good w s9 os) mixed (by kernel_rfl) (by kernel_rfl) (by kernel_rfl) (by kernel_rfl) (hg12.drew) ?_
        refine RL.pure rfl rfl rfl rfl ?_
        refine RL.pure rfl rfl rfl rfl ?_
        refine RL.idx rfl rfl rfl rfl sl22 rfl rfl (hY) (by omega) (by omega) ?_
        rintro q5 vs5 hvl5 hH5 ⟨rfl, hr5⟩
        refine RL.loadT rfl rfl rfl rfl ty3 rfl (hH5) (fun w h => h.sh) rfl ?_
        refine RL.pure rfl rfl rfl rfl ?_
        refine RL.pure rfl rfl rfl rfl ?_
        refine RL.idx rfl rfl rfl rfl sl22 rfl rfl (hZ) (by omega) (by omega) ?_
        rintro q6 vs6 hvl6 hH6 ⟨rfl, hr6⟩
        refine RL.loadT rfl rfl rfl rfl ty3 rfl (hH6) (fun w h => h.sh) rfl ?_
        refine RL.pure rfl rfl rfl rfl ?_
        refine RL.done ?_
        refine CW.eq rfl (fun he => ?_) (fun he => ?_)
        · refine CW.seq (CW.plain ?_)
          refine RL.pure rfl rfl rfl rfl ?_
          refine RL.done ?_
          exact CW.ret (ret (vs := [_]) ⟨_, _, rfl, rfl, rfl⟩ (Post.mk h19 hg12.drew.nil (hax12.trans (Aux.drew _)) rfl))
        · refine CW.skip ?_
          refine CW.plain ?_
          refine RL.pure rfl rfl rfl rfl ?_
          refine RL.add rfl rfl rfl rfl rfl rfl (by simp only [rng] at *; omega) ?_
          refine RL.pure rfl rfl rfl rfl ?_
          refine RL.done ?_
          cases i with
          | zero => omega
          | succ i =>
            refine fun ac ha => ⟨i, [(2, .slice ya ys.length yc), (3, .slice za zs.length zc), (13, i64 k), (14, i64 ((n : Int) + 1))], ha.sub ⟨rfl, rfl, rfl, rfl, trivial⟩, ⟨hg12.drew, hax12.trans (Aux.drew _), n + 1, rfl, by omega, ?_⟩, Nat.lt_succ_self i⟩
            rw [List.take_succ_eq_append_getElem hnl]
            simp only [List.mem_append, List.mem_singleton, not_or]
            exact ⟨hno2, he⟩
      · have hnl : n = zs.length := by omega
        rw [hnl, List.take_length] at hno2
        refine CW.exit (CW.plain ?_)
        refine RL.pure rfl rfl rfl rfl ?_
        refine RL.add rfl rfl rfl rfl rfl rfl (by simp only [rng] at *; omega) ?_
        refine RL.pure rfl rfl rfl rfl ?_
        refine RL.done ?_
        cases j with
        | zero => omega
        | succ j =>
          refine fun ac ha => ⟨j, [(2, .slice ya ys.length yc), (3, .slice za zs.length zc), (13, i64 ((k : Int) + 1))], ha.sub ⟨rfl, rfl, rfl, trivial⟩, ⟨hg12, hax12, k + 1, rfl, by omega, ?_⟩, Nat.lt_succ_self j⟩
          rw [List.take_succ_eq_append_getElem hkl]
          intro x hx
          rcases List.mem_append.1 hx with hx | hx
          · exact hno x hx
          · rw [List.mem_singleton] at hx; subst hx; exact hno2
    · have hkl : k = ys.length := by omega
      rw [hkl, List.take_length] at hno
      obtain ⟨x, h1, h2⟩ := hmeet
      exact absurd h2 (hno x h1)
end Go.Lw
