/-
  Configurations: the others; the law RaftconfTells, walked.
-/
import Derived.Test.YthafkinbocdjlaaRcF
import Derived.Test.YthafkinbocdjlaaSlSort
namespace Go.Lw
open Go.Proofs

theorem strict_ext : ∀ {xs ys : List Int}, xs.Pairwise (· < ·) → ys.Pairwise (· < ·) → (∀ x, x ∈ xs ↔ x ∈ ys) → xs = ys
  | [], [], _, _, _ => rfl
  | [], y :: ys, _, _, h => absurd ((h y).2 (by simp)) (by simp)
  | x :: xs, [], _, _, h => absurd ((h x).1 (by simp)) (by simp)
  | x :: xs, y :: ys, hx, hy, h => by
    obtain ⟨h1, h2⟩ := List.pairwise_cons.1 hx
    obtain ⟨k1, k2⟩ := List.pairwise_cons.1 hy
    have hxy : x = y := by
      rcases List.mem_cons.1 ((h x).1 (by simp)) with e | hm
      · exact e
      · rcases List.mem_cons.1 ((h y).2 (by simp)) with e | hm2
        · exact e.symm
        · have := k1 x hm; have := h1 y hm2; omega
    subst hxy
    rw [strict_ext h2 k2 fun z => ?_]
    constructor
    · intro hz
      rcases List.mem_cons.1 ((h z).1 (by simp [hz])) with e | hm
      · have := h1 z hz; omega
      · exact hm
    · intro hz
      rcases List.mem_cons.1 ((h z).2 (by simp [hz])) with e | hm
      · have := k1 z hz; omega
      · exact hm
theorem insP_mem {n x : Int} {l : List Int} : x ∈ insP n l ↔ x = n ∨ x ∈ l := by
  simp only [insP, List.mem_append, List.mem_cons, List.mem_filter, decide_eq_true_eq, Bool.not_eq_true', decide_eq_false_iff_not]
  by_cases h : x < n <;> simp [h]
  · constructor
    · rintro (h1 | h1) <;> simp [h1]
    · rintro (h1 | h1) <;> simp [h1]
theorem insP_strict {n : Int} {l : List Int} (hs : l.Pairwise (· < ·)) (hn : n ∉ l) : (insP n l).Pairwise (· < ·) := by
  rw [insP, List.pairwise_append]
  refine ⟨hs.filter _, ?_, ?_⟩
  · rw [List.pairwise_cons]
    refine ⟨fun x hx => ?_, hs.filter _⟩
    simp only [List.mem_filter, Bool.not_eq_true', decide_eq_false_iff_not] at hx
    have : x ≠ n := fun e => hn (e ▸ hx.1)
    omega
  · intro x hx y hy
    simp only [List.mem_filter, decide_eq_true_eq] at hx
    rcases List.mem_cons.1 hy with rfl | hy
    · exact hx.2
    · simp only [List.mem_filter, Bool.not_eq_true', decide_eq_false_iff_not] at hy
      omega
theorem delP_mem {n x : Int} {l : List Int} : x ∈ delP n l ↔ x ∈ l ∧ x ≠ n := by simp [delP]
def othersP (c : Conf) (n : Int) : List Int := uniq (delP n (c.voters ++ c.learners))

set_option maxRecDepth 100000 in
theorem Others_ct {w : World} {s : Res} {os : List Res} {vs : List Value} {c : Conf} {n : Int} (hg : Good w s os) (hc : RConf s vs c) (hb : c.fits) :
    Calls Try.prog 18 #[.agg vs.toArray, i64 n] w (Post w s os fun s' A v => ∃ a d, v = .slice a (othersP c n).length d ∧ OwnI s' A a d (othersP c n)) := by
  simp only [Conf.fits] at hb
  obtain ⟨a, ac, b, bc, rfl, i1, i2⟩ := hc
  refine enter (l := [.agg #[.slice a c.voters.length ac, .slice b c.learners.length bc], i64 n]) Try.func18 rfl Try.ntmps18 rfl ?_
  refine CW.seq (CW.plain ?_)
  refine RL.box rfl rfl rfl rfl rfl hg ?_
  rintro p w1 hg1 hax1
  refine ⟨trivial, ?_⟩
  refine RL.pure rfl rfl rfl rfl ?_
  refine RL.done ?_
  obtain ⟨s1, hg1, hle1, hq1⟩ := Good.letgo hg1
  have hH : Holds s1 ⟨p, 0, none⟩ [.slice a c.voters.length ac, .slice b c.learners.length bc] := (Holds.one p _ _).le hq1
  have i1 := i1.up (RInt.up _) hle1
  have i2 := i2.up (RInt.up _) hle1
  have hal : (c.voters ++ c.learners).length = c.voters.length + c.learners.length := List.length_append
  refine CW.seq (CW.plain ?_)
  refine RL.field rfl rfl rfl rfl fl24_0 rfl rfl ?_
  refine RL.load (j := 0) rfl rfl rfl rfl ty22 rfl (hH) (hg1.sh) rfl ?_
  refine RL.field rfl rfl rfl rfl fl24_1 rfl rfl ?_
  refine RL.load (j := 1) rfl rfl rfl rfl ty22 rfl (hH) (hg1.sh) rfl ?_
  refine RL.buildSlice rfl rfl rfl rfl sl65 ze22 rfl rfl rfl rfl hg1 ?_
  rintro p2 w2 hg2 hax2
  refine ⟨trivial, ?_⟩
  obtain ⟨s3, hg3, hle3, hq3⟩ := Good.letgo hg2
  refine RL.call rfl rfl rfl rfl rfl ca38 (Concat2_ct hg3 (i1.up (RInt.up _) hle3) (i2.up (RInt.up _) hle3) (if_pos rfl) hq3 (by omega)) ?_
  rintro v4 s4 A4 w4 hle4 hg4 hax4 ⟨rfl, a4, c4, rfl, ho4⟩
  refine ⟨trivial, ?_⟩
  obtain ⟨s5, hg5, hle5, hA5⟩ := Good.letgo hg4
  have him := ho4.imm (RInt.up _) hle5 hA5
  refine RL.pure rfl rfl rfl rfl ?_
  refine RL.call rfl rfl rfl rfl rfl ca27 (without_ct hg5 him (by omega)) ?_
  rintro v6 s6 A6 w6 hle6 hg6 hax6 ⟨a6, c6, rfl, ho6⟩
  refine ⟨trivial, ?_⟩
  refine RL.pure rfl rfl rfl rfl ?_
  refine RL.done ?_
  have hdl := delP_le n (c.voters ++ c.learners)
  refine CW.seq (CW.plain ?_)
  refine RL.pure rfl rfl rfl rfl ?_
  refine RL.call rfl rfl rfl rfl rfl ca43 (Sort_ct hg6 ho6 (by omega)) ?_
  rintro v7 s7 A7 w7 hle7 hg7 hax7 ⟨rfl, rfl, ho7⟩
  refine ⟨trivial, ?_⟩
  refine RL.done ?_
  refine CW.seq (CW.plain ?_)
  refine RL.pure rfl rfl rfl rfl ?_
  refine RL.call rfl rfl rfl rfl rfl ca44 (Compact_ct' hg7 ho7 (msort_length _).symm) ?_
  rintro v8 s8 A8 w8 hle8 hg8 hax8 ⟨rfl, rfl, ho8⟩
  refine ⟨trivial, ?_⟩
  refine RL.pure rfl rfl rfl rfl ?_
  refine RL.done ?_
  exact CW.ret (ret (vs := [_]) ⟨_, _, rfl, rfl, rfl⟩ (Post.mk (hle1.trans (hle3.trans (hle5.trans hle6))) hg8 (hax1.trans (hax2.trans (hax4.trans (hax6.trans (hax7.trans hax8))))) ⟨a6, c6, rfl, ho8⟩))

set_option maxRecDepth 100000 in
theorem rOthers_ct {w : World} {s : Res} {os : List Res} {vs : List Value} {c : Conf} {n : Int} (hg : Good w s os) (hc : RConf s vs c) (hb : c.fits) :
    Calls Try.prog 19 #[.agg vs.toArray, i64 n] w (Post w s os fun s' _ v => ∃ a d, v = .slice a (othersP c n).length d ∧ Ints s' a d (othersP c n)) := by
  simp only [Conf.fits] at hb
  obtain ⟨a, ac, b, bc, rfl, i1, i2⟩ := hc
  refine enter (l := [.agg #[.slice a c.voters.length ac, .slice b c.learners.length bc], i64 n]) Try.func19 rfl Try.ntmps19 rfl ?_
  refine CW.seq (CW.plain ?_)
  refine RL.box rfl rfl rfl rfl rfl hg ?_
  rintro p w1 hg1 hax1
  refine ⟨trivial, ?_⟩
  refine RL.pure rfl rfl rfl rfl ?_
  refine RL.done ?_
  obtain ⟨s1, hg1, hle1, hq1⟩ := Good.letgo hg1
  have hH : Holds s1 ⟨p, 0, none⟩ [.slice a c.voters.length ac, .slice b c.learners.length bc] := (Holds.one p _ _).le hq1
  have i1 := i1.up (RInt.up _) hle1
  have i2 := i2.up (RInt.up _) hle1
  refine CW.seq ?_
  have hgD := hg1.drew
  refine CW.draws [(true, 1), (true, 2), (true, 4), (true, 5), (false, 0), (false, 3), (false, 6), (false, 7)] (fun w => In s1 w) mixed (by kernel_rfl) (by kernel_rfl) (by kernel_rfl) (by kernel_rfl) (hgD.sh) ?_
  refine RL.field rfl rfl rfl rfl fl24_0 rfl rfl ?_
  refine RL.loadT (j := 0) rfl rfl rfl rfl ty22 rfl (hH) (fun w h => h) rfl ?_
  refine RL.field rfl rfl rfl rfl fl24_1 rfl rfl ?_
  refine RL.loadT (j := 1) rfl rfl rfl rfl ty22 rfl (hH) (fun w h => h) rfl ?_
  refine RL.buildSlice rfl rfl rfl rfl sl22 ze3 rfl rfl rfl rfl hgD ?_
  rintro p2 w2 hg2 hax2
  refine ⟨hg2.sh, ?_⟩
  obtain ⟨news, hsrc, hch⟩ := Src.row (c := ac) sl22 i1.2.2 hg2.sh
  refine RL.append (i := 0) (ys := c.voters) rfl rfl rfl rfl sl22 ze3 rfl (by first | exact RInt.one _ | exact RStr.one | exact RBool.one | assumption) rfl rfl hg2 rfl Own.fresh (hsrc) (hch) ((by simp; omega)) (by omega) ?_
  rintro a3 c3 A3 w3 hg3 ho3 hax3 hk3
  refine ⟨hg3.sh, ?_⟩
  obtain ⟨news2, hsrc2, hch2⟩ := Src.row (c := bc) sl22 i2.2.2 hg3.sh
  refine RL.append (i := 0) (ys := c.learners) rfl rfl rfl rfl sl22 ze3 rfl (by first | exact RInt.one _ | exact RStr.one | exact RBool.one | assumption) rfl rfl hg3 rfl ho3 (hsrc2) (hch2) ((by simp; omega)) (by omega) ?_
  rintro a4 c4 A4 w4 hg4 ho4 hax4 hk4
  refine ⟨hg4.sh, ?_⟩
  refine RL.pure rfl rfl rfl rfl ?_
  refine RL.done ?_
  rw [List.nil_append] at ho4 ⊢
  have hx4 := hax1.trans ((Aux.drew _).trans (hax2.trans (hax3.trans hax4)))
  obtain ⟨s5, hg5, hle5, hA5⟩ := Good.letgo hg4
  have him := ho4.imm (RInt.up _) hle5 hA5
  have hal : (c.voters ++ c.learners).length = c.voters.length + c.learners.length := List.length_append
  clear hg1 hg2 hg3 hg4 hgD
  generalize hall : c.voters ++ c.learners = xs at *
  refine CW.seq (CW.plain ?_)
  refine RL.pure rfl rfl rfl rfl ?_
  refine RL.done ?_
  refine CW.meet (fun E w' => ∃ s' a d, E = [(6, .slice a (othersP c n).length d)] ∧ Good w' s' os ∧ Le s5 s' ∧ Aux w w' ∧ Ints s' a d (othersP c n)) ?_ ?_
  · refine CW.seq (CW.plain ?_)
    refine RL.pure rfl rfl rfl rfl ?_
    refine RL.done ?_
    refine CW.block (CW.loop (σ := Nat) (fun j E w' => ∃ s' a d out, ∃ k : Nat, E = [(1, i64 n), (5, .slice a4 xs.length c4), (6, .slice a out.length d), (7, i64 k)] ∧ Good w' s' os ∧ Le s5 s' ∧ Aux w w' ∧ Ints s' a d out ∧ k + j = xs.length ∧ out.Pairwise (· < ·) ∧ out.length ≤ k ∧ ∀ x, x ∈ out ↔ x ∈ xs.take k ∧ x ≠ n)
      (fun j => j) xs.length [(1, i64 n), (5, .slice a4 xs.length c4), (6, .slice none ([] : List Int).length 0), (7, i64 0)] ⟨rfl, rfl, rfl, rfl, trivial⟩ ⟨s5, none, 0, [], 0, rfl, hg5, Le.refl _, hx4, Imm.nil _ _ _ (Nat.zero_le _), by omega, List.Pairwise.nil, Nat.le_refl _, by simp⟩ ?_)
    rintro j E w6 ⟨s6, a6, d6, out, k, rfl, hg6, hle6, hx6, hout, hk, hst, hol, hmem⟩
    refine CW.seq (CW.seq (CW.plain ?_))
    refine RL.pure rfl rfl rfl rfl ?_
    refine RL.pure rfl rfl rfl rfl ?_
    refine RL.len rfl rfl rfl rfl sl22 rfl ?_
    refine RL.pure rfl rfl rfl rfl ?_
    refine RL.done ?_
    refine CW.test rfl (fun h => CW.skip ?_) (fun h => CW.exit ?_)
    · have hkl : k < xs.length := by omega
      have ek : xs[((k : Nat) : Int).toNat]'(by omega) = xs[k] := by simp
      have him6 := him.up (RInt.up _) hle6
      have htk : ∀ x, x ∈ xs.take (k + 1) ↔ x ∈ xs.take k ∨ x = xs[k] := fun x => by rw [List.take_succ_eq_append_getElem hkl, List.mem_append, List.mem_singleton]
      refine CW.seq (CW.block (CW.seq (CW.plain ?_)))
      refine RL.pure rfl rfl rfl rfl ?_
      refine RL.pure rfl rfl rfl rfl ?_
      refine RL.pure rfl rfl rfl rfl ?_
      refine RL.idx rfl rfl rfl rfl sl22 rfl rfl (him6) (by omega) ((by omega)) ?_
      rintro q vs hvl hH2 ⟨rfl, hr⟩
      refine RL.load rfl rfl rfl rfl ty3 rfl (hH2) (hg6.sh) rfl ?_
      refine RL.callV rfl rfl rfl rfl rfl ca21 (rIn_ct hg6 hout) ?_
      rintro v7 w7 hg7 hax7 rfl
      refine ⟨trivial, ?_⟩
      refine RL.pure rfl rfl rfl rfl ?_
      refine RL.done ?_
      rw [ek] at hr ⊢
      refine CW.seq (CW.plain ?_)
      refine RL.pure rfl rfl rfl rfl ?_
      refine RL.pure rfl rfl rfl rfl ?_
      refine RL.idx rfl rfl rfl rfl sl22 rfl rfl (him6) (by omega) ((by omega)) ?_
      rintro q2 vs2 hvl2 hH22 ⟨rfl, hr2⟩
      refine RL.load rfl rfl rfl rfl ty3 rfl (hH22) (hg7.sh) rfl ?_
      refine RL.pure rfl rfl rfl rfl ?_
      refine RL.pure rfl rfl rfl rfl ?_
      refine RL.pure rfl rfl rfl rfl ?_
      rw [ek]
      have stay : ¬ (xs[k] ≠ n ∧ xs[k] ∉ out) → ∀ x, x ∈ out ↔ x ∈ xs.take (k + 1) ∧ x ≠ n := fun hno x => by
        rw [htk x, hmem x]
        constructor
        · rintro ⟨h1, h2⟩; exact ⟨.inl h1, h2⟩
        · rintro ⟨h1 | h1, h2⟩
          · exact ⟨h1, h2⟩
          · subst h1
            by_cases ho : xs[k] ∈ out
            · exact (hmem _).1 ho
            · exact absurd ⟨h2, ho⟩ hno
      refine RL.part 34 rfl (fun h1 => ?_) (fun h1 => ?_)
      · have h1 : xs[k] ≠ n := by simpa using h1
        refine RL.pure rfl rfl rfl rfl ?_
        refine RL.pure rfl rfl rfl rfl ?_
        refine RL.pure rfl rfl rfl rfl ?_
        refine RL.done ?_
        refine CW.cond rfl (fun h2 => ?_) (fun h2 => CW.skip ?_)
        · have h2 : xs[k] ∉ out := by simpa using h2
          refine CW.plain ?_
          refine RL.pure rfl rfl rfl rfl ?_
          refine RL.pure rfl rfl rfl rfl ?_
          refine RL.pure rfl rfl rfl rfl ?_
          refine RL.idx rfl rfl rfl rfl sl22 rfl rfl (him6) (by omega) ((by omega)) ?_
          rintro q3 vs3 hvl3 hH3 ⟨rfl, hr3⟩
          refine RL.load rfl rfl rfl rfl ty3 rfl (hH3) (hg7.sh) rfl ?_
          refine RL.call rfl rfl rfl rfl rfl ca29 (rWith_ct hg7 hout (ek.symm ▸ hr) (by omega)) ?_
          rintro v8 s8 A8 w8 hle8 hg8 hax8 ⟨rfl, a8, c8, rfl, ho8⟩
          refine ⟨trivial, ?_⟩
          refine RL.pure rfl rfl rfl rfl ?_
          refine RL.done ?_
          rw [ek, insR_eq hst h2] at ho8 ⊢
          obtain ⟨s9, hg9, hle9, hA9⟩ := Good.letgo hg8
          refine CW.plain ?_
          refine RL.pure rfl rfl rfl rfl ?_
          refine RL.add rfl rfl rfl rfl rfl rfl (by simp only [rng] at *; omega) ?_
          refine RL.pure rfl rfl rfl rfl ?_
          refine RL.done ?_
          cases j with
          | zero => omega
          | succ j =>
            refine fun ac ha => ⟨j, [(1, i64 n), (5, .slice a4 xs.length c4), (6, .slice a8 (insP xs[k] out).length c8), (7, i64 ((k + 1 : Nat) : Int))], ha.sub ⟨rfl, rfl, rfl, rfl, trivial⟩, ⟨s9, a8, c8, insP xs[k] out, k + 1, rfl, hg9, hle6.trans hle9, hx6.trans (hax7.trans hax8), ho8.imm (RInt.up _) hle9 hA9, by omega, insP_strict hst h2, by rw [insP_length]; omega, fun x => ?_⟩, Nat.lt_succ_self j⟩
            rw [insP_mem, htk x, hmem x]
            constructor
            · rintro (rfl | ⟨h3, h4⟩)
              · exact ⟨.inr rfl, h1⟩
              · exact ⟨.inl h3, h4⟩
            · rintro ⟨h3 | h3, h4⟩
              · exact .inr ⟨h3, h4⟩
              · exact .inl h3
        · have hin : xs[k] ∈ out := by simpa using h2
          refine CW.plain ?_
          refine RL.pure rfl rfl rfl rfl ?_
          refine RL.add rfl rfl rfl rfl rfl rfl (by simp only [rng] at *; omega) ?_
          refine RL.pure rfl rfl rfl rfl ?_
          refine RL.done ?_
          cases j with
          | zero => omega
          | succ j => exact fun ac ha => ⟨j, [(1, i64 n), (5, .slice a4 xs.length c4), (6, .slice a6 out.length d6), (7, i64 ((k + 1 : Nat) : Int))], ha.sub ⟨rfl, rfl, rfl, rfl, trivial⟩, ⟨s6, a6, d6, out, k + 1, rfl, hg7, hle6, hx6.trans hax7, hout, by omega, hst, by omega, stay (fun h => h.2 hin)⟩, Nat.lt_succ_self j⟩
      · have h1 : xs[k] = n := by simpa using h1
        refine RL.pass rfl rfl rfl ?_
        refine RL.pass rfl rfl rfl ?_
        refine RL.pure rfl rfl rfl rfl ?_
        refine RL.done ?_
        refine CW.no rfl (CW.skip ?_)
        refine CW.plain ?_
        refine RL.pure rfl rfl rfl rfl ?_
        refine RL.add rfl rfl rfl rfl rfl rfl (by simp only [rng] at *; omega) ?_
        refine RL.pure rfl rfl rfl rfl ?_
        refine RL.done ?_
        cases j with
        | zero => omega
        | succ j => exact fun ac ha => ⟨j, [(1, i64 n), (5, .slice a4 xs.length c4), (6, .slice a6 out.length d6), (7, i64 ((k + 1 : Nat) : Int))], ha.sub ⟨rfl, rfl, rfl, rfl, trivial⟩, ⟨s6, a6, d6, out, k + 1, rfl, hg7, hle6, hx6.trans hax7, hout, by omega, hst, by omega, stay (fun h => h.1 h1)⟩, Nat.lt_succ_self j⟩
    · have hkl : k = xs.length := by omega
      have hoe : out = othersP c n := strict_ext hst (uniq_strict _) fun x => by
        rw [hmem x, othersP, uniq_mem, delP_mem, hkl, List.take_length, hall]
      rw [← hoe]
      exact fun ac ha => ⟨[(6, .slice a6 out.length d6)], ha.sub ⟨rfl, trivial⟩, s6, a6, d6, rfl, hg6, hle6, hx6, hout⟩
  rintro E w10 ⟨s10, a10, d10, rfl, hg10, hle10, hx10, hout⟩
  refine CW.seq (CW.plain ?_)
  refine RL.pure rfl rfl rfl rfl ?_
  refine RL.pure rfl rfl rfl rfl ?_
  refine RL.done ?_
  exact CW.ret (ret (vs := [_]) ⟨_, _, rfl, rfl, rfl⟩ (Post.mk (hle1.trans (hle5.trans hle10)) hg10.nil hx10 ⟨a10, d10, rfl, hout⟩))
end Go.Lw
