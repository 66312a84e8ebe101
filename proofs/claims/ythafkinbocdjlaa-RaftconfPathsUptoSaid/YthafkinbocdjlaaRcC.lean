/-
  Configurations: the document's In, node, rises, Check, With, Without.
-/
import Derived.Test.YthafkinbocdjlaaRcB
namespace Go.Lw
open Go.Proofs

set_option maxRecDepth 100000 in
theorem rIn_ct {w : World} {s : Res} {os : List Res} {xs : List Int} {xa : Option Addr} {xc : Nat} {v : Int} (hg : Good w s os) (hx : Ints s xa xc xs) :
    Calls Try.prog 21 #[.slice xa xs.length xc, i64 v] w (PostV w s os fun r => r = .bool (decide (v ∈ xs))) := by
  refine enter (l := [.slice xa xs.length xc, i64 v]) Try.func21 rfl Try.ntmps21 rfl ?_
  refine CW.seq (CW.plain ?_)
  refine RL.pure rfl rfl rfl rfl ?_
  refine RL.done ?_
  refine CW.seq (CW.seq (CW.plain ?_))
  refine RL.pure rfl rfl rfl rfl ?_
  refine RL.done ?_
  have hlen := hx.le_max
  simp only [maxLen] at hlen
  refine CW.block (CW.loop (σ := Nat) (fun j E w' => w' = w ∧ ∃ k : Nat, E = [(0, .slice xa xs.length xc), (1, i64 v), (5, i64 k)] ∧ k + j = xs.length ∧ v ∉ xs.take k)
    (fun j => j) xs.length [(0, .slice xa xs.length xc), (1, i64 v), (5, i64 0)] ⟨rfl, rfl, rfl, trivial⟩ ⟨rfl, 0, rfl, by omega, by simp⟩ ?_)
  rintro j E w' ⟨rfl, k, rfl, hk, hno⟩
  refine CW.seq (CW.seq (CW.plain ?_))
  refine RL.pure rfl rfl rfl rfl ?_
  refine RL.pure rfl rfl rfl rfl ?_
  refine RL.len rfl rfl rfl rfl sl22 rfl ?_
  refine RL.pure rfl rfl rfl rfl ?_
  refine RL.done ?_
  refine CW.test rfl (fun h => ?_) (fun h => ?_)
  · refine CW.skip ?_
    have hkl : k < xs.length := by omega
    refine CW.seq (CW.block (CW.seq (CW.plain ?_)))
    refine RL.pure rfl rfl rfl rfl ?_
    refine RL.pure rfl rfl rfl rfl ?_
    refine RL.idx rfl rfl rfl rfl sl22 rfl rfl (hx) (by omega) (by omega) ?_
    rintro q vs hvl hH ⟨rfl, hr'⟩
    refine RL.load rfl rfl rfl rfl ty3 rfl (hH) (hg.sh) rfl ?_
    refine RL.pure rfl rfl rfl rfl ?_
    refine RL.pure rfl rfl rfl rfl ?_
    refine RL.done ?_
    refine CW.eq rfl (fun he => ?_) (fun he => ?_)
    · refine CW.seq (CW.plain ?_)
      refine RL.pure rfl rfl rfl rfl ?_
      refine RL.done ?_
      have hm : v ∈ xs := by subst he; exact List.getElem_mem _
      exact CW.ret (ret (vs := [_]) ⟨_, _, rfl, rfl, rfl⟩ (PostV.mk hg (Aux.refl _) (by simp [hm, whole])))
    · refine CW.skip ?_
      refine CW.plain ?_
      refine RL.pure rfl rfl rfl rfl ?_
      refine RL.add rfl rfl rfl rfl rfl rfl (by simp only [rng] at *; omega) ?_
      refine RL.pure rfl rfl rfl rfl ?_
      refine RL.done ?_
      cases j with
      | zero => omega
      | succ j =>
        refine fun ac ha => ⟨j, [(0, .slice xa xs.length xc), (1, i64 v), (5, i64 ((k : Int) + 1))], ha.sub ⟨rfl, rfl, rfl, trivial⟩, ⟨rfl, k + 1, rfl, by omega, ?_⟩, Nat.lt_succ_self j⟩
        rw [List.take_succ_eq_append_getElem hkl]
        simp only [List.mem_append, List.mem_singleton, not_or]
        exact ⟨hno, fun h => he h.symm⟩
  · refine CW.exit (CW.seq (CW.plain ?_))
    have hkl : k = xs.length := by omega
    refine RL.pure rfl rfl rfl rfl ?_
    refine RL.done ?_
    rw [hkl, List.take_length] at hno
    exact CW.ret (ret (vs := [_]) ⟨_, _, rfl, rfl, rfl⟩ (PostV.mk hg (Aux.refl _) (by simp [hno, whole])))

set_option maxRecDepth 100000 in
theorem rNode_ct {w : World} {s : Res} {os : List Res} {n : Int} (hg : Good w s os) : Calls Try.prog 28 #[i64 n] w (PostV w s os fun r => r = .bool (node7 n)) := by
  refine enter (l := [i64 n]) Try.func28 rfl Try.ntmps28 rfl ?_
  refine CW.seq (CW.plain ?_)
  refine RL.pure rfl rfl rfl rfl ?_
  refine RL.done ?_
  refine CW.seq (CW.plain ?_)
  refine RL.pure rfl rfl rfl rfl ?_
  refine RL.pure rfl rfl rfl rfl ?_
  refine RL.pure rfl rfl rfl rfl ?_
  refine RL.part 5 rfl (fun h => ?_) (fun h => ?_)
  · have h : n ≥ 1 := of_decide_eq_true h
    refine RL.pure rfl rfl rfl rfl ?_
    refine RL.pure rfl rfl rfl rfl ?_
    refine RL.pure rfl rfl rfl rfl ?_
    refine RL.pure rfl rfl rfl rfl ?_
    refine RL.done ?_
    exact CW.ret (ret (vs := [_]) ⟨_, _, rfl, rfl, rfl⟩ (PostV.mk hg (Aux.refl _) (congrArg Value.bool (by simp only [node7]; exact decide_eq_decide.2 ⟨fun h2 => ⟨h, h2⟩, fun h2 => h2.2⟩))))
  · have h : ¬ n ≥ 1 := of_decide_eq_false h
    refine RL.pass rfl rfl rfl ?_
    refine RL.pass rfl rfl rfl ?_
    refine RL.pure rfl rfl rfl rfl ?_
    refine RL.pure rfl rfl rfl rfl ?_
    refine RL.done ?_
    exact CW.ret (ret (vs := [_]) ⟨_, _, rfl, rfl, rfl⟩ (PostV.mk hg (Aux.refl _) (congrArg Value.bool (by rw [node7, decide_eq_false (fun h2 => h h2.1)]))))

theorem strict_of_steps {xs : List Int} (h : ∀ j, (hj : j + 1 < xs.length) → xs[j] < xs[j + 1]) : xs.Pairwise (· < ·) := by
  rw [List.pairwise_iff_getElem]
  intro i j hi hj hij
  obtain ⟨d, rfl⟩ : ∃ d, j = i + 1 + d := ⟨j - (i + 1), by omega⟩
  induction d with
  | zero => exact h i (by omega)
  | succ d ih =>
    have h1 := ih (by omega) (by omega)
    have h2 := h (i + 1 + d) (by omega)
    exact Int.lt_trans h1 h2
set_option maxRecDepth 100000 in
theorem rRises_ct {w : World} {s : Res} {os : List Res} {xs : List Int} {xa : Option Addr} {xc : Nat} (hg : Good w s os) (hx : Ints s xa xc xs) :
    Calls Try.prog 42 #[.slice xa xs.length xc] w (PostV w s os fun r => r = .bool (risesP xs)) := by
  have hlen := hx.le_max
  simp only [maxLen] at hlen
  refine enter (l := [.slice xa xs.length xc]) Try.func42 rfl Try.ntmps42 rfl ?_
  refine CW.seq (CW.plain ?_)
  refine RL.pure rfl rfl rfl rfl ?_
  refine RL.done ?_
  refine CW.seq (CW.seq (CW.plain ?_))
  refine RL.pure rfl rfl rfl rfl ?_
  refine RL.done ?_
  refine CW.block (CW.loop (σ := Nat) (fun j E w' => Good w' s os ∧ Aux w w' ∧ ∃ k : Nat, E = [(0, .slice xa xs.length xc), (3, i64 ((k + 1 : Nat) : Int))] ∧ k + j = xs.length ∧ ∀ i, (hi : i + 1 < xs.length) → i < k → xs[i] < xs[i + 1])
    (fun j => j) xs.length [(0, .slice xa xs.length xc), (3, i64 1)] ⟨rfl, rfl, trivial⟩ ⟨hg, Aux.refl _, 0, rfl, by omega, fun i _ h => by omega⟩ ?_)
  rintro j E w1 ⟨hg1, hax1, k, rfl, hk, hall⟩
  refine CW.seq (CW.seq (CW.plain ?_))
  refine RL.pure rfl rfl rfl rfl ?_
  refine RL.pure rfl rfl rfl rfl ?_
  refine RL.len rfl rfl rfl rfl sl22 rfl ?_
  refine RL.pure rfl rfl rfl rfl ?_
  refine RL.done ?_
  refine CW.test rfl (fun h => CW.skip ?_) (fun h => CW.exit ?_)
  · have hkl : k + 1 < xs.length := by omega
    have hgD := hg1.drew
    refine CW.seq (CW.block (CW.seq ?_))
    refine CW.draws [(true, 0), (true, 1), (true, 2), (true, 3), (true, 4), (true, 5), (true, 6), (true, 7), (true, 8), (true, 9)] (fun w => Good w s os) mixed (by kernel_rfl) (by kernel_rfl) (by kernel_rfl) (by kernel_rfl) (hgD) ?_
    refine RL.pure rfl rfl rfl rfl ?_
    refine RL.pure rfl rfl rfl rfl ?_
    refine RL.sub rfl rfl rfl rfl rfl rfl ((by simp only [rng]; omega)) ?_
    refine RL.idx rfl rfl rfl rfl sl22 rfl rfl (hx) (by omega) ((by omega)) ?_
    rintro q vs hvl hH ⟨rfl, hr⟩
    refine RL.loadT rfl rfl rfl rfl ty3 rfl (hH) (fun w h => h.sh) rfl ?_
    refine RL.pure rfl rfl rfl rfl ?_
    refine RL.pure rfl rfl rfl rfl ?_
    refine RL.idx rfl rfl rfl rfl sl22 rfl rfl (hx) (by omega) ((by omega)) ?_
    rintro q2 vs2 hvl2 hH2 ⟨rfl, hr2⟩
    refine RL.loadT rfl rfl rfl rfl ty3 rfl (hH2) (fun w h => h.sh) rfl ?_
    refine RL.pure rfl rfl rfl rfl ?_
    refine RL.done ?_
    have e1 : xs[((k + 1 : Nat) : Int).toNat]'(by omega) = xs[k + 1] := by simp
    have e2 : xs[(((k + 1 : Nat) : Int) - 1).toNat]'(by omega) = xs[k] := by congr 1; omega
    rw [e1, e2]
    refine CW.test rfl (fun hc => ?_) (fun hc => ?_)
    · refine CW.seq (CW.plain ?_)
      refine RL.pure rfl rfl rfl rfl ?_
      refine RL.done ?_
      have hno : ¬ xs.Pairwise (· < ·) := fun hp => by
        have := List.pairwise_iff_getElem.1 hp k (k + 1) (by omega) hkl (by omega)
        omega
      exact CW.ret (ret (vs := [_]) ⟨_, _, rfl, rfl, rfl⟩ (PostV.mk hgD (hax1.trans (Aux.drew _)) (by rw [risesP, decide_eq_false hno]; rfl)))
    · refine CW.skip (CW.plain ?_)
      refine RL.pure rfl rfl rfl rfl ?_
      refine RL.add rfl rfl rfl rfl rfl rfl (by simp only [rng] at *; omega) ?_
      refine RL.pure rfl rfl rfl rfl ?_
      refine RL.done ?_
      cases j with
      | zero => omega
      | succ j =>
        refine fun ac ha => ⟨j, [(0, .slice xa xs.length xc), (3, i64 ((k + 1 + 1 : Nat) : Int))], ha.sub ⟨rfl, rfl, trivial⟩, ⟨hgD, hax1.trans (Aux.drew _), k + 1, rfl, by omega, fun i hi hlt => ?_⟩, Nat.lt_succ_self j⟩
        by_cases hik : i = k
        · subst hik; omega
        · exact hall i hi (by omega)
  · refine CW.seq (CW.plain ?_)
    refine RL.pure rfl rfl rfl rfl ?_
    refine RL.done ?_
    have hyes : xs.Pairwise (· < ·) := strict_of_steps (fun i hi => hall i hi (by omega))
    exact CW.ret (ret (vs := [_]) ⟨_, _, rfl, rfl, rfl⟩ (PostV.mk hg1 hax1 (by rw [risesP, decide_eq_true hyes]; rfl)))

set_option maxHeartbeats 1000000 in
set_option maxRecDepth 100000 in
theorem rCheck_ct {w : World} {s : Res} {os : List Res} {vs : List Value} {c : Conf} (hg : Good w s os) (hc : RConf s vs c) (hb : c.fits) :
    Calls Try.prog 17 #[.agg vs.toArray] w (Post w s os fun _ _ r => r = i64 (checkP c)) := by
  simp only [Conf.fits] at hb
  obtain ⟨a, ac, b, bc, rfl, i1, i2⟩ := hc
  refine enter (l := [.agg #[.slice a c.voters.length ac, .slice b c.learners.length bc]]) Try.func17 rfl Try.ntmps17 rfl ?_
  refine CW.seq (CW.plain ?_)
  refine RL.box rfl rfl rfl rfl rfl hg ?_
  rintro p w1 hg1 hax1
  refine ⟨trivial, ?_⟩
  refine RL.pure rfl rfl rfl rfl ?_
  refine RL.done ?_
  obtain ⟨s1, hg1, hle1, hq1⟩ := Good.letgo hg1
  have hH : Holds s1 ⟨p, 0, none⟩ [.slice a c.voters.length ac, .slice b c.learners.length bc] := (Holds.one p _ _).le hq1
  have i1 := i1.up (RInt.up _) hle1
  have i2 := i2.up (RInt.up _) hle1
  refine CW.seq ?_
  have hgD := hg1.drew
  refine CW.draws [(true, 1), (true, 2), (true, 4), (true, 5), (false, 0), (false, 3), (false, 6), (false, 7)] (fun w => In s1 w) mixed (by kernel_rfl) (by kernel_rfl) (by kernel_rfl) (by kernel_rfl) (hgD.sh) ?_
  refine RL.field rfl rfl rfl rfl fl24_0 rfl rfl ?_
  refine RL.loadT (j := 0) rfl rfl rfl rfl ty22 rfl (hH) (fun w h => h) rfl ?_
  refine RL.field rfl rfl rfl rfl fl24_1 rfl rfl ?_
  refine RL.loadT (j := 1) rfl rfl rfl rfl ty22 rfl (hH) (fun w h => h) rfl ?_
  refine RL.buildSlice rfl rfl rfl rfl sl22 ze3 rfl rfl rfl rfl hgD ?_
  rintro p2 w2 hg2 hax2
  refine ⟨hg2.sh, ?_⟩
  obtain ⟨news, hsrc, hch⟩ := Src.row (c := ac) sl22 i1.2.2 hg2.sh
  refine RL.append (i := 0) (ys := c.voters) rfl rfl rfl rfl sl22 ze3 rfl (by first | exact RInt.one _ | exact RStr.one | exact RBool.one | assumption) rfl rfl hg2 rfl Own.fresh (hsrc) (hch) ((by simp; omega)) (by omega) ?_
  rintro a3 c3 A3 w3 hg3 ho3 hax3 hk3
  refine ⟨hg3.sh, ?_⟩
  obtain ⟨news2, hsrc2, hch2⟩ := Src.row (c := bc) sl22 i2.2.2 hg3.sh
  refine RL.append (i := 0) (ys := c.learners) rfl rfl rfl rfl sl22 ze3 rfl (by first | exact RInt.one _ | exact RStr.one | exact RBool.one | assumption) rfl rfl hg3 rfl ho3 (hsrc2) (hch2) ((by simp; omega)) (by omega) ?_
  rintro a4 c4 A4 w4 hg4 ho4 hax4 hk4
  refine ⟨hg4.sh, ?_⟩
  refine RL.pure rfl rfl rfl rfl ?_
  refine RL.done ?_
  rw [List.nil_append] at ho4 ⊢
  have hx4 := hax1.trans ((Aux.drew _).trans (hax2.trans (hax3.trans hax4)))
  obtain ⟨s5, hg5, hle5, hA5⟩ := Good.letgo hg4
  have him := ho4.imm (RInt.up _) hle5 hA5
  have hH := hH.le hle5
  have i1 := i1.up (RInt.up _) hle5
  have i2 := i2.up (RInt.up _) hle5
  have hle := hle1.trans hle5
  have hal : (c.voters ++ c.learners).length = c.voters.length + c.learners.length := List.length_append
  clear hg1 hg2 hg3 hg4 hgD
  refine CW.meet (fun E w' => E = [(1, ptr p)] ∧ Good w' s5 os ∧ Aux w w' ∧ ∀ n ∈ c.voters ++ c.learners, node7 n = true) ?_ ?_
  · refine CW.seq (CW.plain ?_)
    refine RL.pure rfl rfl rfl rfl ?_
    refine RL.done ?_
    refine CW.block (CW.loop (σ := Nat) (fun j E w' => Good w' s5 os ∧ Aux w w' ∧ ∃ k : Nat, E = [(1, ptr p), (3, .slice a4 (c.voters ++ c.learners).length c4), (4, i64 k)] ∧ k + j = (c.voters ++ c.learners).length ∧ ∀ n ∈ (c.voters ++ c.learners).take k, node7 n = true)
      (fun j => j) (c.voters ++ c.learners).length [(1, ptr p), (3, .slice a4 (c.voters ++ c.learners).length c4), (4, i64 0)] ⟨rfl, rfl, rfl, trivial⟩ ⟨hg5, hx4, 0, rfl, by omega, by simp⟩ ?_)
    rintro j E w6 ⟨hg6, hax6, k, rfl, hk, hall⟩
    refine CW.seq (CW.seq (CW.plain ?_))
    refine RL.pure rfl rfl rfl rfl ?_
    refine RL.pure rfl rfl rfl rfl ?_
    refine RL.len rfl rfl rfl rfl sl22 rfl ?_
    refine RL.pure rfl rfl rfl rfl ?_
    refine RL.done ?_
    refine CW.test rfl (fun h => CW.skip ?_) (fun h => CW.exit ?_)
    · have hkl : k < (c.voters ++ c.learners).length := by omega
      refine CW.seq (CW.block (CW.seq (CW.plain ?_)))
      refine RL.pure rfl rfl rfl rfl ?_
      refine RL.pure rfl rfl rfl rfl ?_
      refine RL.idx rfl rfl rfl rfl sl22 rfl rfl (him) (by omega) ((by omega)) ?_
      rintro q vs hvl hH2 ⟨rfl, hr⟩
      refine RL.load rfl rfl rfl rfl ty3 rfl (hH2) (hg6.sh) rfl ?_
      refine RL.callV rfl rfl rfl rfl rfl ca28 (rNode_ct hg6) ?_
      rintro v7 w7 hg7 hax7 rfl
      refine ⟨trivial, ?_⟩
      refine RL.pure rfl rfl rfl rfl ?_
      refine RL.done ?_
      have ek : (c.voters ++ c.learners)[((k : Nat) : Int).toNat]'(by omega) = (c.voters ++ c.learners)[k] := by simp
      rw [ek]
      refine CW.seq (CW.plain ?_)
      refine RL.pure rfl rfl rfl rfl ?_
      refine RL.pure rfl rfl rfl rfl ?_
      refine RL.done ?_
      refine CW.cond rfl (fun hb => ?_) (fun hb => CW.skip ?_)
      · refine CW.seq (CW.plain ?_)
        refine RL.pure rfl rfl rfl rfl ?_
        refine RL.done ?_
        have hany : (c.voters ++ c.learners).any (fun n => !node7 n) = true := List.any_eq_true.2 ⟨_, List.getElem_mem hkl, hb⟩
        exact CW.ret (ret (vs := [_]) ⟨_, _, rfl, rfl, rfl⟩ (Post.mk hle hg7.nil (hax6.trans hax7) (by rw [checkP, if_pos hany]; rfl)))
      · refine CW.plain ?_
        refine RL.pure rfl rfl rfl rfl ?_
        refine RL.add rfl rfl rfl rfl rfl rfl (by simp only [rng] at *; omega) ?_
        refine RL.pure rfl rfl rfl rfl ?_
        refine RL.done ?_
        cases j with
        | zero => omega
        | succ j =>
          exact fun ac ha => ⟨j, [(1, ptr p), (3, .slice a4 (c.voters ++ c.learners).length c4), (4, i64 ((k : Int) + 1))], ha.sub ⟨rfl, rfl, rfl, trivial⟩, ⟨hg7, hax6.trans hax7, k + 1, rfl, by omega, take_all hkl hall (by simpa using hb)⟩, Nat.lt_succ_self j⟩
    · have hkl : k = (c.voters ++ c.learners).length := by omega
      rw [hkl, List.take_length] at hall
      exact fun ac ha => ⟨[(1, ptr p)], ha.sub ⟨rfl, trivial⟩, rfl, hg6, hax6, hall⟩
  rintro E w8 ⟨rfl, hg8, hx8, hall⟩
  have hany : ¬ (c.voters ++ c.learners).any (fun n => !node7 n) = true := fun h => by
    obtain ⟨n, hn, hb⟩ := List.any_eq_true.1 h
    rw [hall n hn] at hb; cases hb
  refine CW.seq (CW.plain ?_)
  refine RL.field rfl rfl rfl rfl fl24_0 rfl rfl ?_
  refine RL.load (j := 0) rfl rfl rfl rfl ty22 rfl (hH) (hg8.sh) rfl ?_
  refine RL.callV rfl rfl rfl rfl rfl ca42 (rRises_ct hg8 i1) ?_
  rintro v9 w9 hg9 hax9 rfl
  refine ⟨trivial, ?_⟩
  refine RL.pure rfl rfl rfl rfl ?_
  refine RL.done ?_
  refine CW.seq (CW.plain ?_)
  refine RL.field rfl rfl rfl rfl fl24_1 rfl rfl ?_
  refine RL.load (j := 1) rfl rfl rfl rfl ty22 rfl (hH) (hg9.sh) rfl ?_
  refine RL.callV rfl rfl rfl rfl rfl ca42 (rRises_ct hg9 i2) ?_
  rintro v10 w10 hg10 hax10 rfl
  refine ⟨trivial, ?_⟩
  refine RL.pure rfl rfl rfl rfl ?_
  refine RL.done ?_
  have hx10 := hx8.trans (hax9.trans hax10)
  refine CW.seq (CW.seq (CW.plain ?_))
  refine RL.pure rfl rfl rfl rfl ?_
  refine RL.pure rfl rfl rfl rfl ?_
  refine RL.pure rfl rfl rfl rfl ?_
  refine RL.part 38 rfl (fun h => ?_) (fun h => ?_)
  · refine RL.pass rfl rfl rfl ?_
    refine RL.pass rfl rfl rfl ?_
    refine RL.pure rfl rfl rfl rfl ?_
    refine RL.done ?_
    refine CW.yes rfl (CW.seq (CW.plain ?_))
    refine RL.pure rfl rfl rfl rfl ?_
    refine RL.done ?_
    exact CW.ret (ret (vs := [_]) ⟨_, _, rfl, rfl, rfl⟩ (Post.mk hle hg10.nil hx10 (by rw [checkP, if_neg hany, if_pos (.inl (by simpa using h))]; rfl)))
  have hr1 : risesP c.voters = true := by simpa using h
  refine RL.pure rfl rfl rfl rfl ?_
  refine RL.pure rfl rfl rfl rfl ?_
  refine RL.pure rfl rfl rfl rfl ?_
  refine RL.done ?_
  refine CW.cond rfl (fun h2 => ?_) (fun h2 => CW.skip ?_)
  · refine CW.seq (CW.plain ?_)
    refine RL.pure rfl rfl rfl rfl ?_
    refine RL.done ?_
    exact CW.ret (ret (vs := [_]) ⟨_, _, rfl, rfl, rfl⟩ (Post.mk hle hg10.nil hx10 (by rw [checkP, if_neg hany, if_pos (.inr (by simpa using h2))]; rfl)))
  have hr2 : risesP c.learners = true := by simpa using h2
  have hno : ¬ (risesP c.voters = false ∨ risesP c.learners = false) := by rw [hr1, hr2]; simp
  have hvl0 := i1.le_max
  simp only [maxLen] at hvl0
  refine CW.meet (fun E w' => E = [(1, ptr p)] ∧ Good w' s5 os ∧ Aux w w' ∧ ∀ n ∈ c.voters, n ∉ c.learners) ?_ ?_
  · refine CW.seq (CW.plain ?_)
    refine RL.pure rfl rfl rfl rfl ?_
    refine RL.done ?_
    refine CW.block (CW.loop (σ := Nat) (fun j E w' => Good w' s5 os ∧ Aux w w' ∧ ∃ k : Nat, E = [(1, ptr p), (8, i64 k)] ∧ k + j = c.voters.length ∧ ∀ n ∈ c.voters.take k, n ∉ c.learners)
      (fun j => j) c.voters.length [(1, ptr p), (8, i64 0)] ⟨rfl, rfl, trivial⟩ ⟨hg10, hx10, 0, rfl, by omega, by simp⟩ ?_)
    rintro j E w11 ⟨hg11, hax11, k, rfl, hk, hall2⟩
    refine CW.seq (CW.seq (CW.plain ?_))
    refine RL.pure rfl rfl rfl rfl ?_
    refine RL.field rfl rfl rfl rfl fl24_0 rfl rfl ?_
    refine RL.load (j := 0) rfl rfl rfl rfl ty22 rfl (hH) (hg11.sh) rfl ?_
    refine RL.len rfl rfl rfl rfl sl22 rfl ?_
    refine RL.pure rfl rfl rfl rfl ?_
    refine RL.done ?_
    refine CW.test rfl (fun h => CW.skip ?_) (fun h => CW.exit ?_)
    · have hkl : k < c.voters.length := by omega
      have hgD := hg11.drew
      refine CW.seq (CW.block (CW.seq ?_))
      refine CW.draws [(true, 0), (true, 1), (true, 2), (true, 3), (true, 4), (true, 5), (true, 6), (false, 7), (false, 8)] (fun w => Good w s5 os) mixed (by kernel_rfl) (by kernel_rfl) (by kernel_rfl) (by kernel_rfl) (hgD) ?_
      refine RL.field rfl rfl rfl rfl fl24_1 rfl rfl ?_
      refine RL.loadT (j := 1) rfl rfl rfl rfl ty22 rfl (hH) (fun w h => h.sh) rfl ?_
      refine RL.field rfl rfl rfl rfl fl24_0 rfl rfl ?_
      refine RL.loadT (j := 0) rfl rfl rfl rfl ty22 rfl (hH) (fun w h => h.sh) rfl ?_
      refine RL.pure rfl rfl rfl rfl ?_
      refine RL.idx rfl rfl rfl rfl sl22 rfl rfl (i1) (by omega) ((by omega)) ?_
      rintro q vs hvl hH2 ⟨rfl, hr⟩
      refine RL.loadT rfl rfl rfl rfl ty3 rfl (hH2) (fun w h => h.sh) rfl ?_
      refine RL.callV rfl rfl rfl rfl rfl ca21 (rIn_ct hgD i2) ?_
      rintro v12 w12 hg12 hax12 rfl
      refine ⟨hg12, ?_⟩
      refine RL.pure rfl rfl rfl rfl ?_
      refine RL.done ?_
      have ek : c.voters[((k : Nat) : Int).toNat]'(by omega) = c.voters[k] := by simp
      rw [ek]
      refine CW.seq (CW.plain ?_)
      refine RL.pure rfl rfl rfl rfl ?_
      refine RL.done ?_
      refine CW.cond rfl (fun hb => ?_) (fun hb => CW.skip ?_)
      · refine CW.seq (CW.plain ?_)
        refine RL.pure rfl rfl rfl rfl ?_
        refine RL.done ?_
        have hany2 : c.voters.any (fun n => decide (n ∈ c.learners)) = true := List.any_eq_true.2 ⟨_, List.getElem_mem hkl, hb⟩
        exact CW.ret (ret (vs := [_]) ⟨_, _, rfl, rfl, rfl⟩ (Post.mk hle hg12.nil (hax11.trans ((Aux.drew _).trans hax12)) (by rw [checkP, if_neg hany, if_neg hno, if_pos hany2]; rfl)))
      · refine CW.plain ?_
        refine RL.pure rfl rfl rfl rfl ?_
        refine RL.add rfl rfl rfl rfl rfl rfl (by simp only [rng] at *; omega) ?_
        refine RL.pure rfl rfl rfl rfl ?_
        refine RL.done ?_
        cases j with
        | zero => omega
        | succ j =>
          exact fun ac ha => ⟨j, [(1, ptr p), (8, i64 ((k : Int) + 1))], ha.sub ⟨rfl, rfl, trivial⟩, ⟨hg12, hax11.trans ((Aux.drew _).trans hax12), k + 1, rfl, by omega, take_all hkl hall2 (of_decide_eq_false hb)⟩, Nat.lt_succ_self j⟩
    · have hkl : k = c.voters.length := by omega
      rw [hkl, List.take_length] at hall2
      exact fun ac ha => ⟨[(1, ptr p)], ha.sub ⟨rfl, trivial⟩, rfl, hg11, hax11, hall2⟩
  rintro E w13 ⟨rfl, hg13, hx13, hall2⟩
  have hany2 : ¬ c.voters.any (fun n => decide (n ∈ c.learners)) = true := fun h => by
    obtain ⟨n, hn, hb⟩ := List.any_eq_true.1 h
    exact hall2 n hn (of_decide_eq_true hb)
  refine CW.seq (CW.seq (CW.plain ?_))
  refine RL.field rfl rfl rfl rfl fl24_0 rfl rfl ?_
  refine RL.load (j := 0) rfl rfl rfl rfl ty22 rfl (hH) (hg13.sh) rfl ?_
  refine RL.len rfl rfl rfl rfl sl22 rfl ?_
  refine RL.pure rfl rfl rfl rfl ?_
  refine RL.done ?_
  refine CW.eq rfl (fun h4 => ?_) (fun h4 => CW.skip ?_)
  · refine CW.seq (CW.plain ?_)
    refine RL.pure rfl rfl rfl rfl ?_
    refine RL.done ?_
    exact CW.ret (ret (vs := [_]) ⟨_, _, rfl, rfl, rfl⟩ (Post.mk hle hg13.nil hx13 (by rw [checkP, if_neg hany, if_neg hno, if_neg hany2, if_pos (by omega)]; rfl)))
  refine CW.seq (CW.plain ?_)
  refine RL.pure rfl rfl rfl rfl ?_
  refine RL.done ?_
  exact CW.ret (ret (vs := [_]) ⟨_, _, rfl, rfl, rfl⟩ (Post.mk hle hg13.nil hx13 (by rw [checkP, if_neg hany, if_neg hno, if_neg hany2, if_neg (by omega)]; rfl)))

/-! ### With, Without -/
def insR (n : Int) : List Int → List Int
  | [] => [n]
  | x :: xs => if n < x then n :: x :: xs else x :: insR n xs
theorem insR_length (n : Int) (l : List Int) : (insR n l).length = l.length + 1 := by
  induction l with
  | nil => rfl
  | cons x xs ih => simp only [insR]; split <;> simp [ih]
theorem insR_eq {n : Int} : ∀ {l : List Int}, l.Pairwise (· < ·) → n ∉ l → insR n l = insP n l
  | [], _, _ => rfl
  | x :: xs, hs, hn => by
    simp only [List.mem_cons, not_or] at hn
    obtain ⟨h1, h2⟩ := List.pairwise_cons.1 hs
    simp only [insR]
    by_cases hx : n < x
    · rw [if_pos hx]
      have hall : ∀ y ∈ x :: xs, ¬ y < n := fun y hy => by
        rcases List.mem_cons.1 hy with rfl | hy
        · omega
        · have := h1 y hy; omega
      rw [insP, List.filter_eq_nil_iff.2 (fun y hy => by simpa using hall y hy), List.filter_eq_self.2 (fun y hy => by simpa using hall y hy), List.nil_append]
    · rw [if_neg hx, insR_eq h2 hn.2]
      have hx' : x < n := by omega
      simp [insP, List.filter_cons, hx']

set_option maxHeartbeats 1000000 in
set_option maxRecDepth 100000 in
theorem rWith_ct {w : World} {s : Res} {os : List Res} {xs : List Int} {xa : Option Addr} {xc : Nat} {n : Int} (hg : Good w s os) (hx : Ints s xa xc xs) (hn : rng .i64 n) (hb : (xs.length + 1) * 8 ≤ 140737488355328) :
    Calls Try.prog 29 #[.slice xa xs.length xc, i64 n] w (Post w s os fun s' A v => s' = s ∧ ∃ a c, v = .slice a (insR n xs).length c ∧ OwnI s' A a c (insR n xs)) := by
  have hil := insR_length n xs
  refine enter (l := [.slice xa xs.length xc, i64 n]) Try.func29 rfl Try.ntmps29 rfl ?_
  refine CW.seq (CW.plain ?_)
  refine RL.pure rfl rfl rfl rfl ?_
  refine RL.done ?_
  refine CW.seq (CW.plain ?_)
  refine RL.pure rfl rfl rfl rfl ?_
  refine RL.done ?_
  refine CW.seq (CW.plain ?_)
  refine RL.pure rfl rfl rfl rfl ?_
  refine RL.done ?_
  refine CW.meet (fun E w' => ∃ A a c out put, E = [(1, i64 n), (5, .slice a out.length c), (6, .bool put)] ∧ Good w' s (A :: os) ∧ Aux w w' ∧ OwnI s A a c out ∧ insR n xs = out ++ (if put = true then [] else [n])) ?_ ?_
  · refine CW.seq (CW.plain ?_)
    refine RL.pure rfl rfl rfl rfl ?_
    refine RL.done ?_
    refine CW.block (CW.loop (σ := Nat) (fun j E w' => ∃ A a c out put, ∃ k : Nat, E = [(0, .slice xa xs.length xc), (1, i64 n), (5, .slice a out.length c), (6, .bool put), (7, i64 k)] ∧ Good w' s (A :: os) ∧ Aux w w' ∧ OwnI s A a c out ∧ k + j = xs.length ∧ insR n xs = out ++ (if put = true then xs.drop k else insR n (xs.drop k)))
      (fun j => j) xs.length [(0, .slice xa xs.length xc), (1, i64 n), (5, .slice none 0 0), (6, .bool false), (7, i64 0)] ⟨rfl, rfl, rfl, rfl, rfl, trivial⟩ ⟨Res.nil, none, 0, [], false, 0, rfl, hg.nil, Aux.refl _, .inl ⟨rfl, rfl, rfl⟩, by omega, by simp⟩ ?_)
    rintro j E w1 ⟨A1, a1, c1, out, put, k, rfl, hg1, hax1, ho1, hk, heq⟩
    refine CW.seq (CW.seq (CW.plain ?_))
    refine RL.pure rfl rfl rfl rfl ?_
    refine RL.pure rfl rfl rfl rfl ?_
    refine RL.len rfl rfl rfl rfl sl22 rfl ?_
    refine RL.pure rfl rfl rfl rfl ?_
    refine RL.done ?_
    refine CW.test rfl (fun h => CW.skip ?_) (fun h => CW.exit ?_)
    · have hkl : k < xs.length := by omega
      have hdr : xs.drop k = xs[k] :: xs.drop (k + 1) := List.drop_eq_getElem_cons hkl
      have hrx := hx.rng xs[k] (List.getElem_mem hkl)
      refine CW.seq (CW.block ?_)
      refine CW.meet (fun E w' => ∃ A a c out put, E = [(0, .slice xa xs.length xc), (1, i64 n), (5, .slice a out.length c), (6, .bool put), (7, i64 k)] ∧ Good w' s (A :: os) ∧ Aux w w' ∧ OwnI s A a c out ∧ insR n xs = out ++ xs[k] :: (if put = true then xs.drop (k + 1) else insR n (xs.drop (k + 1)))) ?_ ?_
      · refine CW.seq (CW.plain ?_)
        refine RL.pure rfl rfl rfl rfl ?_
        refine RL.pure rfl rfl rfl rfl ?_
        refine RL.pure rfl rfl rfl rfl ?_
        cases put with
        | true =>
          refine RL.pass rfl rfl rfl ?_
          refine RL.pass rfl rfl rfl ?_
          refine RL.pass rfl rfl rfl ?_
          refine RL.pass rfl rfl rfl ?_
          refine RL.pass rfl rfl rfl ?_
          refine RL.pass rfl rfl rfl ?_
          refine RL.pure rfl rfl rfl rfl ?_
          refine RL.done ?_
          refine CW.no rfl (CW.skip ?_)
          refine fun ac ha => ⟨[(0, .slice xa xs.length xc), (1, i64 n), (5, .slice a1 out.length c1), (6, .bool true), (7, i64 k)], ha.sub ⟨rfl, rfl, rfl, rfl, rfl, trivial⟩, A1, a1, c1, out, true, rfl, hg1, hax1, ho1, ?_⟩
          rw [heq, if_pos rfl, if_pos rfl, hdr]
        | false =>
          refine RL.pure rfl rfl rfl rfl ?_
          refine RL.pure rfl rfl rfl rfl ?_
          refine RL.idx rfl rfl rfl rfl sl22 rfl rfl (hx) (by omega) (by omega) ?_
          rintro q vs hvl hH ⟨rfl, hr'⟩
          refine RL.load rfl rfl rfl rfl ty3 rfl (hH) (hg1.sh) rfl ?_
          refine RL.pure rfl rfl rfl rfl ?_
          refine RL.pure rfl rfl rfl rfl ?_
          refine RL.pure rfl rfl rfl rfl ?_
          refine RL.done ?_
          have ek : xs[((k : Nat) : Int).toNat]'(by omega) = xs[k] := by simp
          rw [ek]
          rw [if_neg (by decide), hdr, insR] at heq
          refine CW.test rfl (fun hgt => ?_) (fun hgt => CW.skip ?_)
          · rw [if_pos (by omega)] at heq
            have hlo : (insR n xs).length = out.length + (1 + (1 + (xs.drop (k + 1)).length)) := by rw [heq]; simp; omega
            refine CW.seq (CW.plain ?_)
            refine RL.pure rfl rfl rfl rfl ?_
            refine RL.pure rfl rfl rfl rfl ?_
            refine RL.buildSlice rfl rfl rfl rfl sl22 ze3 rfl rfl rfl rfl hg1 ?_
            rintro b2 w2 hg2 hax2
            refine ⟨trivial, ?_⟩
            refine RL.append (i := 1) (ys := [n]) rfl rfl rfl rfl sl22 ze3 rfl (by first | exact RInt.one _ | exact RStr.one | exact RBool.one | assumption) rfl rfl hg2 rfl ho1 ((Src.slice sl22 rfl (.inr ⟨_, rfl, Holds.one b2 _ 3⟩) hg2.1)) ((ints_chunks (k := .i64) (xs := [n]) (by simpa using hn))) ((by simp; omega)) (by omega) ?_
            rintro a3 c3 A3 w3 hg3 ho3 hax3 hk3
            refine ⟨trivial, ?_⟩
            refine RL.pure rfl rfl rfl rfl ?_
            refine RL.done ?_
            refine CW.plain ?_
            refine RL.pure rfl rfl rfl rfl ?_
            refine RL.done ?_
            refine fun ac ha => ⟨[(0, .slice xa xs.length xc), (1, i64 n), (5, .slice a3 (out ++ [n]).length c3), (6, .bool true), (7, i64 k)], ha.sub ⟨rfl, rfl, rfl, rfl, rfl, trivial⟩, A3, a3, c3, out ++ [n], true, rfl, hg3.drop, hax1.trans (hax2.trans hax3), ho3, ?_⟩
            rw [heq, if_pos rfl]; simp
          · rw [if_neg (by omega)] at heq
            refine fun ac ha => ⟨[(0, .slice xa xs.length xc), (1, i64 n), (5, .slice a1 out.length c1), (6, .bool false), (7, i64 k)], ha.sub ⟨rfl, rfl, rfl, rfl, rfl, trivial⟩, A1, a1, c1, out, false, rfl, hg1, hax1, ho1, ?_⟩
            rw [heq, if_neg (by decide)]
      rintro E w4 ⟨A4, a4, c4, out4, put4, rfl, hg4, hax4, ho4, heq4⟩
      have hlo : out4.length + 1 ≤ (insR n xs).length := by rw [heq4]; simp
      refine CW.plain ?_
      refine RL.pure rfl rfl rfl rfl ?_
      refine RL.pure rfl rfl rfl rfl ?_
      refine RL.pure rfl rfl rfl rfl ?_
      refine RL.idx rfl rfl rfl rfl sl22 rfl rfl (hx) (by omega) (by omega) ?_
      rintro q vs hvl hH ⟨rfl, hr'⟩
      refine RL.load rfl rfl rfl rfl ty3 rfl (hH) (hg4.sh) rfl ?_
      refine RL.buildSlice rfl rfl rfl rfl sl22 ze3 rfl rfl rfl rfl hg4 ?_
      rintro b5 w5 hg5 hax5
      refine ⟨trivial, ?_⟩
      have ek : xs[((k : Nat) : Int).toNat]'(by omega) = xs[k] := by simp
      refine RL.append (i := 1) (ys := [xs[k]]) rfl rfl rfl rfl sl22 ze3 rfl (by first | exact RInt.one _ | exact RStr.one | exact RBool.one | assumption) rfl rfl hg5 rfl ho4 ((Src.slice sl22 rfl (.inr ⟨_, rfl, Holds.one b5 _ 3⟩) hg5.1)) ((ints_chunks (k := .i64) (xs := [xs[k]]) (by simpa using hrx))) ((by simp; omega)) (by omega) ?_
      rintro a6 c6 A6 w6 hg6 ho6 hax6 hk6
      refine ⟨trivial, ?_⟩
      refine RL.pure rfl rfl rfl rfl ?_
      refine RL.done ?_
      refine CW.plain ?_
      refine RL.pure rfl rfl rfl rfl ?_
      refine RL.add rfl rfl rfl rfl rfl rfl (by simp only [rng] at *; omega) ?_
      refine RL.pure rfl rfl rfl rfl ?_
      refine RL.done ?_
      cases j with
      | zero => omega
      | succ j =>
        refine fun ac ha => ⟨j, [(0, .slice xa xs.length xc), (1, i64 n), (5, .slice a6 (out4 ++ [xs[k]]).length c6), (6, .bool put4), (7, i64 ((k : Int) + 1))], ha.sub ⟨rfl, rfl, rfl, rfl, rfl, trivial⟩, ⟨A6, a6, c6, out4 ++ [xs[k]], put4, k + 1, rfl, hg6.drop, hax4.trans (hax5.trans hax6), ho6, by omega, ?_⟩, Nat.lt_succ_self j⟩
        rw [heq4]; simp
    · have hkl : k = xs.length := by omega
      refine fun ac ha => ⟨[(1, i64 n), (5, .slice a1 out.length c1), (6, .bool put)], ha.sub ⟨rfl, rfl, rfl, trivial⟩, A1, a1, c1, out, put, rfl, hg1, hax1, ho1, ?_⟩
      rw [heq, hkl, List.drop_length]; rfl
  rintro E w7 ⟨A7, a7, c7, out, put, rfl, hg7, hax7, ho7, heq⟩
  refine CW.meet (fun E w' => ∃ A a c, E = [(5, .slice a (insR n xs).length c)] ∧ Good w' s (A :: os) ∧ Aux w w' ∧ OwnI s A a c (insR n xs)) ?_ ?_
  · refine CW.seq (CW.plain ?_)
    refine RL.pure rfl rfl rfl rfl ?_
    refine RL.pure rfl rfl rfl rfl ?_
    refine RL.done ?_
    cases put with
    | true =>
      refine CW.no rfl (CW.skip ?_)
      rw [if_pos rfl, List.append_nil] at heq
      exact fun ac ha => ⟨[(5, .slice a7 (insR n xs).length c7)], ha.sub ⟨by rw [heq]; rfl, trivial⟩, A7, a7, c7, rfl, hg7, hax7, heq ▸ ho7⟩
    | false =>
      rw [if_neg (by decide)] at heq
      have hlo : (insR n xs).length = out.length + 1 := by rw [heq]; simp
      refine CW.yes rfl (CW.plain ?_)
      refine RL.pure rfl rfl rfl rfl ?_
      refine RL.pure rfl rfl rfl rfl ?_
      refine RL.buildSlice rfl rfl rfl rfl sl22 ze3 rfl rfl rfl rfl hg7 ?_
      rintro b8 w8 hg8 hax8
      refine ⟨trivial, ?_⟩
      refine RL.append (i := 1) (ys := [n]) rfl rfl rfl rfl sl22 ze3 rfl (by first | exact RInt.one _ | exact RStr.one | exact RBool.one | assumption) rfl rfl hg8 rfl ho7 ((Src.slice sl22 rfl (.inr ⟨_, rfl, Holds.one b8 _ 3⟩) hg8.1)) ((ints_chunks (k := .i64) (xs := [n]) (by simpa using hn))) ((by simp; omega)) (by omega) ?_
      rintro a9 c9 A9 w9 hg9 ho9 hax9 hk9
      refine ⟨trivial, ?_⟩
      refine RL.pure rfl rfl rfl rfl ?_
      refine RL.done ?_
      exact fun ac ha => ⟨[(5, .slice a9 (insR n xs).length c9)], ha.sub ⟨by rw [heq]; rfl, trivial⟩, A9, a9, c9, rfl, hg9.drop, hax7.trans (hax8.trans hax9), heq ▸ ho9⟩
  rintro E w10 ⟨A10, a10, c10, rfl, hg10, hax10, ho10⟩
  refine CW.seq (CW.plain ?_)
  refine RL.pure rfl rfl rfl rfl ?_
  refine RL.pure rfl rfl rfl rfl ?_
  refine RL.done ?_
  exact CW.ret (ret (vs := [_]) ⟨_, _, rfl, rfl, rfl⟩ (Post.mk (Le.refl _) hg10 hax10 ⟨rfl, a10, c10, rfl, ho10⟩))

theorem delP_take {n : Int} {xs : List Int} {k : Nat} (hk : k < xs.length) : delP n (xs.take (k + 1)) = delP n (xs.take k) ++ if xs[k] = n then [] else [xs[k]] := by
  rw [delP, List.take_succ_eq_append_getElem hk, List.filter_append]
  congr 1
  by_cases h : xs[k] = n <;> simp [h]
theorem delP_le (n : Int) (xs : List Int) : (delP n xs).length ≤ xs.length := List.length_filter_le _ _
set_option maxRecDepth 100000 in
theorem rWithout_ct {w : World} {s : Res} {os : List Res} {xs : List Int} {xa : Option Addr} {xc : Nat} {n : Int} (hg : Good w s os) (hx : Ints s xa xc xs) (hb : xs.length * 8 ≤ 140737488355328) :
    Calls Try.prog 30 #[.slice xa xs.length xc, i64 n] w (Post w s os fun s' A v => s' = s ∧ ∃ a c, v = .slice a (delP n xs).length c ∧ OwnI s' A a c (delP n xs)) := by
  refine enter (l := [.slice xa xs.length xc, i64 n]) Try.func30 rfl Try.ntmps30 rfl ?_
  refine CW.seq (CW.plain ?_)
  refine RL.pure rfl rfl rfl rfl ?_
  refine RL.done ?_
  refine CW.seq (CW.plain ?_)
  refine RL.pure rfl rfl rfl rfl ?_
  refine RL.done ?_
  refine CW.meet (fun E w' => ∃ A a c, E = [(5, .slice a (delP n xs).length c)] ∧ Good w' s (A :: os) ∧ Aux w w' ∧ OwnI s A a c (delP n xs)) ?_ ?_
  · refine CW.seq (CW.plain ?_)
    refine RL.pure rfl rfl rfl rfl ?_
    refine RL.done ?_
    refine CW.block (CW.loop (σ := Nat) (fun j E w' => ∃ A a c, ∃ k : Nat, E = [(0, .slice xa xs.length xc), (1, i64 n), (5, .slice a (delP n (xs.take k)).length c), (6, i64 k)] ∧ Good w' s (A :: os) ∧ Aux w w' ∧ OwnI s A a c (delP n (xs.take k)) ∧ k + j = xs.length)
      (fun j => j) xs.length [(0, .slice xa xs.length xc), (1, i64 n), (5, .slice none 0 0), (6, i64 0)] ⟨rfl, rfl, rfl, rfl, trivial⟩ ⟨Res.nil, none, 0, 0, rfl, hg.nil, Aux.refl _, .inl ⟨rfl, rfl, rfl⟩, by omega⟩ ?_)
    rintro j E w1 ⟨A1, a1, c1, k, rfl, hg1, hax1, ho1, hk⟩
    refine CW.seq (CW.seq (CW.plain ?_))
    refine RL.pure rfl rfl rfl rfl ?_
    refine RL.pure rfl rfl rfl rfl ?_
    refine RL.len rfl rfl rfl rfl sl22 rfl ?_
    refine RL.pure rfl rfl rfl rfl ?_
    refine RL.done ?_
    refine CW.test rfl (fun h => CW.skip ?_) (fun h => CW.exit ?_)
    · have hkl : k < xs.length := by omega
      have hrx := hx.rng xs[k] (List.getElem_mem hkl)
      have hdt := delP_take (n := n) hkl
      have hdl := delP_le n (xs.take k)
      have htl : (xs.take k).length = k := by rw [List.length_take]; omega
      have ek : xs[((k : Nat) : Int).toNat]'(by omega) = xs[k] := by simp
      refine CW.seq (CW.block (CW.seq (CW.plain ?_)))
      refine RL.pure rfl rfl rfl rfl ?_
      refine RL.pure rfl rfl rfl rfl ?_
      refine RL.idx rfl rfl rfl rfl sl22 rfl rfl (hx) (by omega) (by omega) ?_
      rintro q vs hvl hH ⟨rfl, hr'⟩
      refine RL.load rfl rfl rfl rfl ty3 rfl (hH) (hg1.sh) rfl ?_
      refine RL.pure rfl rfl rfl rfl ?_
      refine RL.pure rfl rfl rfl rfl ?_
      refine RL.done ?_
      rw [ek]
      refine CW.ne rfl (fun hne => ?_) (fun he => CW.skip ?_)
      · rw [if_neg hne] at hdt
        refine CW.plain ?_
        refine RL.pure rfl rfl rfl rfl ?_
        refine RL.pure rfl rfl rfl rfl ?_
        refine RL.pure rfl rfl rfl rfl ?_
        refine RL.idx rfl rfl rfl rfl sl22 rfl rfl (hx) (by omega) (by omega) ?_
        rintro q2 vs2 hvl2 hH2 ⟨rfl, hr2'⟩
        refine RL.load rfl rfl rfl rfl ty3 rfl (hH2) (hg1.sh) rfl ?_
        refine RL.buildSlice rfl rfl rfl rfl sl22 ze3 rfl rfl rfl rfl hg1 ?_
        rintro b5 w5 hg5 hax5
        refine ⟨trivial, ?_⟩
        refine RL.append (i := 1) (ys := [xs[k]]) rfl rfl rfl rfl sl22 ze3 rfl (by first | exact RInt.one _ | exact RStr.one | exact RBool.one | assumption) rfl rfl hg5 rfl ho1 ((Src.slice sl22 rfl (.inr ⟨_, rfl, Holds.one b5 _ 3⟩) hg5.1)) ((ints_chunks (k := .i64) (xs := [xs[k]]) (by simpa using hrx))) ((by simp; omega)) (by omega) ?_
        rintro a6 c6 A6 w6 hg6 ho6 hax6 hk6
        refine ⟨trivial, ?_⟩
        refine RL.pure rfl rfl rfl rfl ?_
        refine RL.done ?_
        rw [← hdt] at ho6 ⊢
        refine CW.plain ?_
        refine RL.pure rfl rfl rfl rfl ?_
        refine RL.add rfl rfl rfl rfl rfl rfl (by simp only [rng] at *; omega) ?_
        refine RL.pure rfl rfl rfl rfl ?_
        refine RL.done ?_
        cases j with
        | zero => omega
        | succ j => exact fun ac ha => ⟨j, [(0, .slice xa xs.length xc), (1, i64 n), (5, .slice a6 (delP n (xs.take (k + 1))).length c6), (6, i64 ((k : Int) + 1))], ha.sub ⟨rfl, rfl, rfl, rfl, trivial⟩, ⟨A6, a6, c6, k + 1, rfl, hg6.drop, hax1.trans (hax5.trans hax6), ho6, by omega⟩, Nat.lt_succ_self j⟩
      · rw [if_pos he, List.append_nil] at hdt
        refine CW.plain ?_
        refine RL.pure rfl rfl rfl rfl ?_
        refine RL.add rfl rfl rfl rfl rfl rfl (by simp only [rng] at *; omega) ?_
        refine RL.pure rfl rfl rfl rfl ?_
        refine RL.done ?_
        cases j with
        | zero => omega
        | succ j => exact fun ac ha => ⟨j, [(0, .slice xa xs.length xc), (1, i64 n), (5, .slice a1 (delP n (xs.take (k + 1))).length c1), (6, i64 ((k : Int) + 1))], ha.sub ⟨rfl, rfl, by rw [hdt]; rfl, rfl, trivial⟩, ⟨A1, a1, c1, k + 1, rfl, hg1, hax1, hdt ▸ ho1, by omega⟩, Nat.lt_succ_self j⟩
    · have hkl : k = xs.length := by omega
      rw [hkl, List.take_length] at ho1
      exact fun ac ha => ⟨[(5, .slice a1 (delP n xs).length c1)], ha.sub ⟨by rw [hkl, List.take_length]; rfl, trivial⟩, A1, a1, c1, rfl, hg1, hax1, ho1⟩
  rintro E w10 ⟨A10, a10, c10, rfl, hg10, hax10, ho10⟩
  refine CW.seq (CW.plain ?_)
  refine RL.pure rfl rfl rfl rfl ?_
  refine RL.pure rfl rfl rfl rfl ?_
  refine RL.done ?_
  exact CW.ret (ret (vs := [_]) ⟨_, _, rfl, rfl, rfl⟩ (Post.mk (Le.refl _) hg10 hax10 ⟨rfl, a10, c10, rfl, ho10⟩))
end Go.Lw
