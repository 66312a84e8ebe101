/-
  Beats: is it a beat, by the document; what is too much, by both.
-/
import Derived.Test.YthaomecbklmmdaaDoorOpBxT
namespace Go.Lw
open Go.Proofs
attribute [local irreducible] RL RA

theorem lens_zero (m : Msg) : m.lens = 0 ↔ m.entries = [] ∧ m.data = [] ∧ m.conf.voters = [] ∧ m.conf.learners = [] := by
  simp only [Msg.lens, ← List.length_eq_zero_iff]; omega
theorem conf_zero (c : Conf) : ((c.voters.length : Int) + c.learners.length = 0) ↔ c.voters = [] ∧ c.learners = [] := by
  simp only [← List.length_eq_zero_iff]; omega
def bareP (m : Msg) : Bool := decide (m.lens = 0) && !m.reject && !m.done && decide (m.hint = 0)
theorem isP_bare (m : Msg) : isP m = (bareP m && (decide (m.kind = 5) || (decide (m.kind = 6) && decide (m.logTerm = 0) && decide (m.commit = 0)))) := rfl

set_option maxRecDepth 100000 in
theorem bare_ct {w : World} {s : Res} {os : List Res} {vs : List Value} {m : Msg} (hg : Good w s os) (hm : RMsg s vs m) (hb : m.fits) : Calls Tryd.prog 35 #[.agg vs.toArray] w (PostV w s os fun r => r = .bool (bareP m)) := by
  obtain ⟨y, rfl, ho⟩ := hm
  simp only [Msg.fits, Msg.lens] at hb
  refine enter (l := [.agg (msgV m y).toArray]) Tryd.func35 rfl Tryd.ntmps35 rfl ?_
  refine CW.seq (CW.plain ?_)
  refine RL.box rfl rfl rfl rfl rfl hg ?_
  rintro p w1 hg1 hax1
  refine ⟨trivial, ?_⟩
  refine RL.pure rfl rfl rfl rfl ?_
  refine RL.done ?_
  have hH : Holds (Res.one p _) ⟨p, 0, none⟩ (msgV m y) := Holds.one p _ 42
  have hin := hg1.1
  refine CW.seq (CW.plain ?_)
  refine RL.field rfl rfl rfl rfl fl42_6 rfl rfl ?_
  refine RL.load (j := 6) rfl rfl rfl rfl ty37 rfl (hH) (hin) rfl ?_
  refine RL.len rfl rfl rfl rfl sl37 rfl ?_
  refine RL.pure rfl rfl rfl rfl ?_
  refine RL.pure rfl rfl rfl rfl ?_
  refine RL.part 7 rfl (fun h7 => ?_) (fun h7 => ?_)
  · refine RL.field rfl rfl rfl rfl fl42_8 rfl rfl ?_
    refine RL.load (j := 8) rfl rfl rfl rfl ty4 rfl (hH) (hin) rfl ?_
    refine RL.pure rfl rfl rfl rfl ?_
    refine RL.pure rfl rfl rfl rfl ?_
    refine RL.pure rfl rfl rfl rfl ?_
    refine RL.part 12 rfl (fun h12 => ?_) (fun h12 => ?_)
    · refine RL.field rfl rfl rfl rfl fl42_9 rfl rfl ?_
      refine RL.load (j := 9) rfl rfl rfl rfl ty36 rfl (hH) (hin) rfl ?_
      refine RL.pure rfl rfl rfl rfl ?_
      refine RL.pure rfl rfl rfl rfl ?_
      refine RL.pure rfl rfl rfl rfl ?_
      refine RL.part 17 rfl (fun h17 => ?_) (fun h17 => ?_)
      · refine RL.field rfl rfl rfl rfl fl42_10 rfl rfl ?_
        refine RL.field rfl rfl rfl rfl fl40_0 rfl rfl ?_
        refine RL.load (j := 10) rfl rfl rfl rfl ty38 rfl (hH) (hin) rfl ?_
        refine RL.len rfl rfl rfl rfl sl38 rfl ?_
        refine RL.field rfl rfl rfl rfl fl42_10 rfl rfl ?_
        refine RL.field rfl rfl rfl rfl fl40_1 rfl rfl ?_
        refine RL.load (j := 11) rfl rfl rfl rfl ty38 rfl (hH) (hin) rfl ?_
        refine RL.len rfl rfl rfl rfl sl38 rfl ?_
        refine RL.add rfl rfl rfl rfl rfl rfl (by simp only [rng] at *; omega) ?_
        refine RL.pure rfl rfl rfl rfl ?_
        refine RL.pure rfl rfl rfl rfl ?_
        refine RL.pure rfl rfl rfl rfl ?_
        refine RL.part 29 rfl (fun h29 => ?_) (fun h29 => ?_)
        · refine RL.field rfl rfl rfl rfl fl42_11 rfl rfl ?_
          refine RL.load (j := 12) rfl rfl rfl rfl ty22 rfl (hH) (hin) rfl ?_
          refine RL.len rfl rfl rfl rfl sl22 rfl ?_
          refine RL.pure rfl rfl rfl rfl ?_
          refine RL.pure rfl rfl rfl rfl ?_
          refine RL.pure rfl rfl rfl rfl ?_
          refine RL.part 35 rfl (fun h35 => ?_) (fun h35 => ?_)
          · refine RL.field rfl rfl rfl rfl fl42_12 rfl rfl ?_
            refine RL.load (j := 13) rfl rfl rfl rfl ty4 rfl (hH) (hin) rfl ?_
            refine RL.pure rfl rfl rfl rfl ?_
            refine RL.pure rfl rfl rfl rfl ?_
            refine RL.pure rfl rfl rfl rfl ?_
            refine RL.done ?_
            refine CW.ret (ret (vs := [_]) ⟨_, _, rfl, rfl, rfl⟩ (PostV.mk hg1.drop hax1 (congrArg Value.bool ?_)))
            clear hH hin hg1
            simp_all [bareP, lens_zero, conf_zero]
          · refine RL.pass rfl rfl rfl ?_
            refine RL.pass rfl rfl rfl ?_
            refine RL.pass rfl rfl rfl ?_
            refine RL.pure rfl rfl rfl rfl ?_
            refine RL.pure rfl rfl rfl rfl ?_
            refine RL.done ?_
            refine CW.ret (ret (vs := [_]) ⟨_, _, rfl, rfl, rfl⟩ (PostV.mk hg1.drop hax1 (congrArg Value.bool ?_)))
            clear hH hin hg1
            simp_all [bareP, lens_zero, conf_zero]
        · refine RL.pass rfl rfl rfl ?_
          refine RL.pass rfl rfl rfl ?_
          refine RL.pass rfl rfl rfl ?_
          refine RL.pass rfl rfl rfl ?_
          refine RL.pure rfl rfl rfl rfl ?_
          refine RL.pure rfl rfl rfl rfl ?_
          refine RL.pass rfl rfl rfl ?_
          refine RL.pass rfl rfl rfl ?_
          refine RL.pass rfl rfl rfl ?_
          refine RL.pure rfl rfl rfl rfl ?_
          refine RL.pure rfl rfl rfl rfl ?_
          refine RL.done ?_
          refine CW.ret (ret (vs := [_]) ⟨_, _, rfl, rfl, rfl⟩ (PostV.mk hg1.drop hax1 (congrArg Value.bool ?_)))
          clear hH hin hg1
          simp_all [bareP, lens_zero, conf_zero]
      · refine RL.pass rfl rfl rfl ?_
        refine RL.pass rfl rfl rfl ?_
        refine RL.pass rfl rfl rfl ?_
        refine RL.pass rfl rfl rfl ?_
        refine RL.pass rfl rfl rfl ?_
        refine RL.pass rfl rfl rfl ?_
        refine RL.pass rfl rfl rfl ?_
        refine RL.pass rfl rfl rfl ?_
        refine RL.pass rfl rfl rfl ?_
        refine RL.pass rfl rfl rfl ?_
        refine RL.pure rfl rfl rfl rfl ?_
        refine RL.pure rfl rfl rfl rfl ?_
        refine RL.pass rfl rfl rfl ?_
        refine RL.pass rfl rfl rfl ?_
        refine RL.pass rfl rfl rfl ?_
        refine RL.pass rfl rfl rfl ?_
        refine RL.pure rfl rfl rfl rfl ?_
        refine RL.pure rfl rfl rfl rfl ?_
        refine RL.pass rfl rfl rfl ?_
        refine RL.pass rfl rfl rfl ?_
        refine RL.pass rfl rfl rfl ?_
        refine RL.pure rfl rfl rfl rfl ?_
        refine RL.pure rfl rfl rfl rfl ?_
        refine RL.done ?_
        refine CW.ret (ret (vs := [_]) ⟨_, _, rfl, rfl, rfl⟩ (PostV.mk hg1.drop hax1 (congrArg Value.bool ?_)))
        clear hH hin hg1
        simp_all [bareP, lens_zero, conf_zero]
    · refine RL.pass rfl rfl rfl ?_
      refine RL.pass rfl rfl rfl ?_
      refine RL.pass rfl rfl rfl ?_
      refine RL.pure rfl rfl rfl rfl ?_
      refine RL.pure rfl rfl rfl rfl ?_
      refine RL.pass rfl rfl rfl ?_
      refine RL.pass rfl rfl rfl ?_
      refine RL.pass rfl rfl rfl ?_
      refine RL.pass rfl rfl rfl ?_
      refine RL.pass rfl rfl rfl ?_
      refine RL.pass rfl rfl rfl ?_
      refine RL.pass rfl rfl rfl ?_
      refine RL.pass rfl rfl rfl ?_
      refine RL.pass rfl rfl rfl ?_
      refine RL.pass rfl rfl rfl ?_
      refine RL.pure rfl rfl rfl rfl ?_
      refine RL.pure rfl rfl rfl rfl ?_
      refine RL.pass rfl rfl rfl ?_
      refine RL.pass rfl rfl rfl ?_
      refine RL.pass rfl rfl rfl ?_
      refine RL.pass rfl rfl rfl ?_
      refine RL.pure rfl rfl rfl rfl ?_
      refine RL.pure rfl rfl rfl rfl ?_
      refine RL.pass rfl rfl rfl ?_
      refine RL.pass rfl rfl rfl ?_
      refine RL.pass rfl rfl rfl ?_
      refine RL.pure rfl rfl rfl rfl ?_
      refine RL.pure rfl rfl rfl rfl ?_
      refine RL.done ?_
      refine CW.ret (ret (vs := [_]) ⟨_, _, rfl, rfl, rfl⟩ (PostV.mk hg1.drop hax1 (congrArg Value.bool ?_)))
      clear hH hin hg1
      simp_all [bareP, lens_zero, conf_zero]
  · refine RL.pass rfl rfl rfl ?_
    refine RL.pass rfl rfl rfl ?_
    refine RL.pass rfl rfl rfl ?_
    refine RL.pure rfl rfl rfl rfl ?_
    refine RL.pure rfl rfl rfl rfl ?_
    refine RL.pass rfl rfl rfl ?_
    refine RL.pass rfl rfl rfl ?_
    refine RL.pass rfl rfl rfl ?_
    refine RL.pure rfl rfl rfl rfl ?_
    refine RL.pure rfl rfl rfl rfl ?_
    refine RL.pass rfl rfl rfl ?_
    refine RL.pass rfl rfl rfl ?_
    refine RL.pass rfl rfl rfl ?_
    refine RL.pass rfl rfl rfl ?_
    refine RL.pass rfl rfl rfl ?_
    refine RL.pass rfl rfl rfl ?_
    refine RL.pass rfl rfl rfl ?_
    refine RL.pass rfl rfl rfl ?_
    refine RL.pass rfl rfl rfl ?_
    refine RL.pass rfl rfl rfl ?_
    refine RL.pure rfl rfl rfl rfl ?_
    refine RL.pure rfl rfl rfl rfl ?_
    refine RL.pass rfl rfl rfl ?_
    refine RL.pass rfl rfl rfl ?_
    refine RL.pass rfl rfl rfl ?_
    refine RL.pass rfl rfl rfl ?_
    refine RL.pure rfl rfl rfl rfl ?_
    refine RL.pure rfl rfl rfl rfl ?_
    refine RL.pass rfl rfl rfl ?_
    refine RL.pass rfl rfl rfl ?_
    refine RL.pass rfl rfl rfl ?_
    refine RL.pure rfl rfl rfl rfl ?_
    refine RL.pure rfl rfl rfl rfl ?_
    refine RL.done ?_
    refine CW.ret (ret (vs := [_]) ⟨_, _, rfl, rfl, rfl⟩ (PostV.mk hg1.drop hax1 (congrArg Value.bool ?_)))
    clear hH hin hg1
    simp_all [bareP, lens_zero, conf_zero]

set_option maxRecDepth 100000 in
theorem dIs_ct {w : World} {s : Res} {os : List Res} {vs : List Value} {m : Msg} (hg : Good w s os) (hm : RMsg s vs m) (hb : m.fits) : Calls Tryd.prog 13 #[.agg vs.toArray] w (PostV w s os fun r => r = .bool (isP m)) := by
  have hm0 := hm
  obtain ⟨y, rfl, ho⟩ := hm
  refine enter (l := [.agg (msgV m y).toArray]) Tryd.func13 rfl Tryd.ntmps13 rfl ?_
  refine CW.seq (CW.plain ?_)
  refine RL.box rfl rfl rfl rfl rfl hg ?_
  rintro p w1 hg1 hax1
  refine ⟨trivial, ?_⟩
  refine RL.pure rfl rfl rfl rfl ?_
  refine RL.done ?_
  refine CW.seq (CW.plain ?_)
  refine RL.loads (j := 0) (us := (msgV m y)) rfl rfl rfl rfl ty42 rfl (Holds.one p _ 42) (hg1.1) rfl rfl ?_
  refine RL.callV rfl rfl rfl rfl rfl ca35 (bare_ct hg1 hm0 hb) ?_
  rintro v2 w2 hg2 hax2 rfl
  refine ⟨trivial, ?_⟩
  refine RL.pure rfl rfl rfl rfl ?_
  refine RL.done ?_
  have hH : Holds (Res.one p _) ⟨p, 0, none⟩ (msgV m y) := Holds.one p _ 42
  have hin := hg2.1
  have hax := hax1.trans hax2
  have hisb := isP_bare m
  refine CW.seq (CW.plain ?_)
  refine RL.pure rfl rfl rfl rfl ?_
  refine RL.pure rfl rfl rfl rfl ?_
  refine RL.part 7 rfl (fun h7 => ?_) (fun h7 => ?_)
  · refine RL.field rfl rfl rfl rfl fl42_0 rfl rfl ?_
    refine RL.load (j := 0) rfl rfl rfl rfl ty35 rfl (hH) (hin) rfl ?_
    refine RL.pure rfl rfl rfl rfl ?_
    refine RL.pure rfl rfl rfl rfl ?_
    refine RL.part 11 rfl (fun h11 => ?_) (fun h11 => ?_)
    · refine RL.pass rfl rfl rfl ?_
      refine RL.pass rfl rfl rfl ?_
      refine RL.pass rfl rfl rfl ?_
      refine RL.pass rfl rfl rfl ?_
      refine RL.pass rfl rfl rfl ?_
      refine RL.pass rfl rfl rfl ?_
      refine RL.pass rfl rfl rfl ?_
      refine RL.pass rfl rfl rfl ?_
      refine RL.pass rfl rfl rfl ?_
      refine RL.pass rfl rfl rfl ?_
      refine RL.pass rfl rfl rfl ?_
      refine RL.pass rfl rfl rfl ?_
      refine RL.pass rfl rfl rfl ?_
      refine RL.pure rfl rfl rfl rfl ?_
      refine RL.pure rfl rfl rfl rfl ?_
      refine RL.pure rfl rfl rfl rfl ?_
      refine RL.done ?_
      refine CW.ret (ret (vs := [_]) ⟨_, _, rfl, rfl, rfl⟩ (PostV.mk hg2.drop hax (congrArg Value.bool ?_)))
      clear hH hin hg1
      simp_all
    · refine RL.field rfl rfl rfl rfl fl42_0 rfl rfl ?_
      refine RL.load (j := 0) rfl rfl rfl rfl ty35 rfl (hH) (hin) rfl ?_
      refine RL.pure rfl rfl rfl rfl ?_
      refine RL.pure rfl rfl rfl rfl ?_
      refine RL.part 15 rfl (fun h15 => ?_) (fun h15 => ?_)
      · refine RL.field rfl rfl rfl rfl fl42_5 rfl rfl ?_
        refine RL.load (j := 5) rfl rfl rfl rfl ty36 rfl (hH) (hin) rfl ?_
        refine RL.pure rfl rfl rfl rfl ?_
        refine RL.pure rfl rfl rfl rfl ?_
        refine RL.pure rfl rfl rfl rfl ?_
        refine RL.part 20 rfl (fun h20 => ?_) (fun h20 => ?_)
        · refine RL.field rfl rfl rfl rfl fl42_7 rfl rfl ?_
          refine RL.load (j := 7) rfl rfl rfl rfl ty36 rfl (hH) (hin) rfl ?_
          refine RL.pure rfl rfl rfl rfl ?_
          refine RL.pure rfl rfl rfl rfl ?_
          refine RL.pure rfl rfl rfl rfl ?_
          refine RL.pure rfl rfl rfl rfl ?_
          refine RL.pure rfl rfl rfl rfl ?_
          refine RL.done ?_
          refine CW.ret (ret (vs := [_]) ⟨_, _, rfl, rfl, rfl⟩ (PostV.mk hg2.drop hax (congrArg Value.bool ?_)))
          clear hH hin hg1
          simp_all
          exact Bool.eq_iff_iff.2 (by simp)
        · refine RL.pass rfl rfl rfl ?_
          refine RL.pass rfl rfl rfl ?_
          refine RL.pass rfl rfl rfl ?_
          refine RL.pure rfl rfl rfl rfl ?_
          refine RL.pure rfl rfl rfl rfl ?_
          refine RL.pure rfl rfl rfl rfl ?_
          refine RL.pure rfl rfl rfl rfl ?_
          refine RL.done ?_
          refine CW.ret (ret (vs := [_]) ⟨_, _, rfl, rfl, rfl⟩ (PostV.mk hg2.drop hax (congrArg Value.bool ?_)))
          clear hH hin hg1
          simp_all
      · refine RL.pass rfl rfl rfl ?_
        refine RL.pass rfl rfl rfl ?_
        refine RL.pass rfl rfl rfl ?_
        refine RL.pure rfl rfl rfl rfl ?_
        refine RL.pure rfl rfl rfl rfl ?_
        refine RL.pass rfl rfl rfl ?_
        refine RL.pass rfl rfl rfl ?_
        refine RL.pass rfl rfl rfl ?_
        refine RL.pure rfl rfl rfl rfl ?_
        refine RL.pure rfl rfl rfl rfl ?_
        refine RL.pure rfl rfl rfl rfl ?_
        refine RL.pure rfl rfl rfl rfl ?_
        refine RL.done ?_
        refine CW.ret (ret (vs := [_]) ⟨_, _, rfl, rfl, rfl⟩ (PostV.mk hg2.drop hax (congrArg Value.bool ?_)))
        clear hH hin hg1
        simp_all
  · refine RL.pass rfl rfl rfl ?_
    refine RL.pass rfl rfl rfl ?_
    refine RL.pass rfl rfl rfl ?_
    refine RL.pass rfl rfl rfl ?_
    refine RL.pass rfl rfl rfl ?_
    refine RL.pass rfl rfl rfl ?_
    refine RL.pass rfl rfl rfl ?_
    refine RL.pass rfl rfl rfl ?_
    refine RL.pass rfl rfl rfl ?_
    refine RL.pass rfl rfl rfl ?_
    refine RL.pass rfl rfl rfl ?_
    refine RL.pass rfl rfl rfl ?_
    refine RL.pass rfl rfl rfl ?_
    refine RL.pass rfl rfl rfl ?_
    refine RL.pass rfl rfl rfl ?_
    refine RL.pass rfl rfl rfl ?_
    refine RL.pass rfl rfl rfl ?_
    refine RL.pass rfl rfl rfl ?_
    refine RL.pure rfl rfl rfl rfl ?_
    refine RL.pure rfl rfl rfl rfl ?_
    refine RL.done ?_
    refine CW.ret (ret (vs := [_]) ⟨_, _, rfl, rfl, rfl⟩ (PostV.mk hg2.drop hax (congrArg Value.bool ?_)))
    clear hH hin hg1
    simp_all

/-! ### too much -/
set_option maxRecDepth 100000 in
theorem wide_ct {w : World} {s : Res} {os : List Res} {vs : List Value} {c : Conf} (hg : Good w s os) (hc : RConf s vs c) : Calls Tryd.prog 54 #[.agg vs.toArray] w (PostV w s os fun r => r = .bool (wideP c)) := by
  obtain ⟨a, ac, b, bc, rfl, i1, i2⟩ := hc
  refine enter (l := [.agg #[.slice a c.voters.length ac, .slice b c.learners.length bc]]) Tryd.func54 rfl Tryd.ntmps54 rfl ?_
  refine CW.seq (CW.plain ?_)
  refine RL.box rfl rfl rfl rfl rfl hg ?_
  rintro p w1 hg1 hax1
  refine ⟨trivial, ?_⟩
  refine RL.pure rfl rfl rfl rfl ?_
  refine RL.done ?_
  refine CW.seq (CW.plain ?_)
  refine RL.field rfl rfl rfl rfl fl40_0 rfl rfl ?_
  refine RL.load (j := 0) rfl rfl rfl rfl ty38 rfl (Holds.one p _ 40) (hg1.1) rfl ?_
  refine RL.len rfl rfl rfl rfl sl38 rfl ?_
  refine RL.field rfl rfl rfl rfl fl40_1 rfl rfl ?_
  refine RL.load (j := 1) rfl rfl rfl rfl ty38 rfl (Holds.one p _ 40) (hg1.1) rfl ?_
  refine RL.len rfl rfl rfl rfl sl38 rfl ?_
  refine RL.max rfl rfl rfl rfl rfl rfl ?_
  refine RL.pure rfl rfl rfl rfl ?_
  refine RL.pure rfl rfl rfl rfl ?_
  refine RL.done ?_
  refine CW.ret (ret (vs := [_]) ⟨_, _, rfl, rfl, rfl⟩ (PostV.mk hg1.drop hax1 (congrArg Value.bool ?_)))
  rw [wideP, Bool.eq_iff_iff]
  simp only [Bool.or_eq_true, decide_eq_true_eq]
  omega

abbrev entV (e : Entry) (a : Option Addr) (c : Nat) (a1 : Option Addr) (c1 : Nat) (a2 : Option Addr) (c2 : Nat) : List Value := [u64 e.index, u64 e.term, i64 e.kind, .slice a e.data.length c, .slice a1 e.conf.voters.length c1, .slice a2 e.conf.learners.length c2]
theorem longP_entries {m : Msg} (h1 : ¬ 8 < m.entries.length) (h2 : ¬ 262144 < m.data.length) (h3 : wideP m.conf = false) : longP m = m.entries.any longE := by
  simp only [longP, h3, decide_eq_false h1, decide_eq_false h2, Bool.false_or]
theorem any_at {l : List Entry} {k : Nat} (hk : k < l.length) (h : longE l[k] = true) : l.any longE = true := List.any_eq_true.2 ⟨_, List.getElem_mem hk, h⟩
theorem any_none {l : List Entry} (h : ∀ x ∈ l, longE x = false) : l.any longE = false := by
  cases hb : l.any longE with
  | false => rfl
  | true =>
    obtain ⟨x, hx, h1⟩ := List.any_eq_true.1 hb
    rw [h x hx] at h1; cases h1

set_option maxRecDepth 100000 in
theorem long_ct {w : World} {s : Res} {os : List Res} {vs : List Value} {m : Msg} (hg : Good w s os) (hm : RMsg s vs m) : Calls Tryd.prog 31 #[.agg vs.toArray] w (PostV w s os fun r => r = .bool (longP m)) := by
  obtain ⟨y, rfl, ho⟩ := hm
  have hle := ho.entries.le_max
  simp only [maxLen] at hle
  refine enter (l := [.agg (msgV m y).toArray]) Tryd.func31 rfl Tryd.ntmps31 rfl ?_
  refine CW.seq (CW.plain ?_)
  refine RL.box rfl rfl rfl rfl rfl hg ?_
  rintro p w1 hg1 hax1
  refine ⟨trivial, ?_⟩
  refine RL.pure rfl rfl rfl rfl ?_
  refine RL.done ?_
  have hH : Holds (Res.one p _) ⟨p, 0, none⟩ (msgV m y) := Holds.one p _ 42
  have hin := hg1.1
  refine CW.meet (fun E w' => E = [(1, ptr p)] ∧ Good w' s (Res.one p (.cells (msgV m y).toArray 42) :: os) ∧ Aux w w' ∧ longP m = m.entries.any longE) ?_ ?_
  · refine CW.seq (CW.plain ?_)
    refine RL.field rfl rfl rfl rfl fl42_6 rfl rfl ?_
    refine RL.load (j := 6) rfl rfl rfl rfl ty37 rfl (hH) (hin) rfl ?_
    refine RL.len rfl rfl rfl rfl sl37 rfl ?_
    refine RL.pure rfl rfl rfl rfl ?_
    refine RL.pure rfl rfl rfl rfl ?_
    refine RL.part 9 rfl (fun h9 => ?_) (fun h9 => ?_)
    · refine RL.pass rfl rfl rfl ?_
      refine RL.pass rfl rfl rfl ?_
      refine RL.pass rfl rfl rfl ?_
      refine RL.pass rfl rfl rfl ?_
      refine RL.pure rfl rfl rfl rfl ?_
      refine RL.pure rfl rfl rfl rfl ?_
      refine RL.pass rfl rfl rfl ?_
      refine RL.pass rfl rfl rfl ?_
      refine RL.pass rfl rfl rfl ?_
      refine RL.pure rfl rfl rfl rfl ?_
      refine RL.done ?_
      refine CW.yes rfl (CW.seq (CW.plain ?_))
      refine RL.pure rfl rfl rfl rfl ?_
      refine RL.done ?_
      refine CW.ret (ret (vs := [_]) ⟨_, _, rfl, rfl, rfl⟩ (PostV.mk hg1.drop hax1 (congrArg Value.bool ?_)))
      clear hH hin hg1
      simp_all [longP]; try omega
    · refine RL.field rfl rfl rfl rfl fl42_11 rfl rfl ?_
      refine RL.load (j := 12) rfl rfl rfl rfl ty22 rfl (hH) (hin) rfl ?_
      refine RL.len rfl rfl rfl rfl sl22 rfl ?_
      refine RL.pure rfl rfl rfl rfl ?_
      refine RL.pure rfl rfl rfl rfl ?_
      refine RL.pure rfl rfl rfl rfl ?_
      refine RL.part 15 rfl (fun h15 => ?_) (fun h15 => ?_)
      · refine RL.pass rfl rfl rfl ?_
        refine RL.pass rfl rfl rfl ?_
        refine RL.pass rfl rfl rfl ?_
        refine RL.pure rfl rfl rfl rfl ?_
        refine RL.done ?_
        refine CW.yes rfl (CW.seq (CW.plain ?_))
        refine RL.pure rfl rfl rfl rfl ?_
        refine RL.done ?_
        refine CW.ret (ret (vs := [_]) ⟨_, _, rfl, rfl, rfl⟩ (PostV.mk hg1.drop hax1 (congrArg Value.bool ?_)))
        clear hH hin hg1
        simp_all [longP]; try omega
      · refine RL.field rfl rfl rfl rfl fl42_10 rfl rfl ?_
        refine RL.loads (j := 10) (us := [.slice y.va m.conf.voters.length y.vc, .slice y.la m.conf.learners.length y.lc]) rfl rfl rfl rfl ty40 rfl (hH) (hin) rfl rfl ?_
        refine RL.callV rfl rfl rfl rfl rfl ca54 (wide_ct hg1 ho.conf) ?_
        rintro v2 w2 hg2 hax2 rfl
        refine ⟨trivial, ?_⟩
        refine RL.pure rfl rfl rfl rfl ?_
        refine RL.done ?_
        refine CW.cond rfl (fun hh => CW.seq (CW.plain ?_)) (fun hh => CW.skip ?_)
        · skip
          refine RL.pure rfl rfl rfl rfl ?_
          refine RL.done ?_
          refine CW.ret (ret (vs := [_]) ⟨_, _, rfl, rfl, rfl⟩ (PostV.mk hg2.drop (hax1.trans hax2) (congrArg Value.bool ?_)))
          simp [longP, hh]
        · exact fun ac ha => ⟨[(1, ptr p)], ha.sub ⟨rfl, trivial⟩, rfl, hg2, hax1.trans hax2, longP_entries (by have := of_decide_eq_false h9; omega) (by have := of_decide_eq_false h15; omega) hh⟩
  rintro E w3 ⟨rfl, hg3, hax3, hlong⟩
  have hin := hg3.1
  rw [hlong]
  refine CW.seq (CW.seq (CW.plain ?_))
  refine RL.field rfl rfl rfl rfl fl42_6 rfl rfl ?_
  refine RL.load (j := 6) rfl rfl rfl rfl ty37 rfl (hH) (hin) rfl ?_
  refine RL.len rfl rfl rfl rfl sl37 rfl ?_
  refine RL.pure rfl rfl rfl rfl ?_
  refine RL.done ?_
  refine CW.block (CW.loop (σ := Nat) (fun j E w' => ∃ k : Nat, E = [(1, ptr p), (21, .slice y.ea m.entries.length y.ec), (22, i64 m.entries.length), (23, i64 k)] ∧ Good w' s (Res.one p (.cells (msgV m y).toArray 42) :: os) ∧ Aux w w' ∧ k + j = m.entries.length ∧ ∀ x ∈ m.entries.take k, longE x = false)
    (fun j => j) m.entries.length [(1, ptr p), (21, .slice y.ea m.entries.length y.ec), (22, i64 m.entries.length), (23, i64 0)] ⟨rfl, rfl, rfl, rfl, trivial⟩ ⟨0, rfl, hg3, hax3, by omega, by simp⟩ ?_)
  rintro j E w4 ⟨k, rfl, hg4, hax4, hk, hno⟩
  refine CW.seq (CW.plain ?_)
  refine RL.pure rfl rfl rfl rfl ?_
  refine RL.done ?_
  refine CW.seq (CW.test rfl (fun h => CW.skip ?_) (fun h => CW.exit ?_))
  · have hkl : k < m.entries.length := by omega
    have ek : m.entries[((k : Nat) : Int).toNat]'(by omega) = m.entries[k] := by simp
    refine CW.seq (CW.block (CW.seq (CW.plain ?_)))
    refine RL.idx rfl rfl rfl rfl sl37 rfl rfl (ho.entries) (by omega) (by omega) ?_
    rintro q vs hvl hHe hre
    rw [ek] at hre
    generalize he : m.entries[k] = e at hre
    obtain ⟨a, c, a1, c1, a2, c2, rfl, r1, r2, r3, i1, i2, i3⟩ := id hre
    refine RL.loads (j := 0) (us := (entV e a c a1 c1 a2 c2)) rfl rfl rfl rfl ty84 rfl (hHe) (hg4.sh) rfl rfl ?_
    refine RL.alloc rfl rfl rfl rfl ze84 hg4 ?_
    rintro r w5 hg5 hax5
    refine ⟨trivial, ?_⟩
    refine RL.store (i := 0) (j := 0) rfl rfl rfl ty84 rfl rfl hg5 rfl (if_pos rfl) rfl (by first | (simp [Value.cells, Value.oneCell']; done) | simp [Value.cells, Value.oneCell', putL]) (by first | exact Nat.le_of_ble_eq_true rfl | (simp; done) | (simp; omega) | omega) ?_
    rintro w6 hg6 hax6
    refine ⟨trivial, ?_⟩
    refine RL.done ?_
    obtain ⟨R, hg6, hR⟩ : ∃ R, Good w6 s (R :: Res.one p (.cells (msgV m y).toArray 42) :: os) ∧ Holds R ⟨r, 0, none⟩ (entV e a c a1 c1 a2 c2) := ⟨_, hg6, Holds.of (put_same _ _ _)⟩
    have hinR := hg6.1
    have hconf : RConf s [.slice a1 e.conf.voters.length c1, .slice a2 e.conf.learners.length c2] e.conf := ⟨a1, c1, a2, c2, rfl, i2, i3⟩
    have hax6 := hax4.trans (hax5.trans hax6)
    refine CW.seq (CW.plain ?_)
    refine RL.field rfl rfl rfl rfl fl84_3 rfl rfl ?_
    refine RL.load (j := 3) rfl rfl rfl rfl ty22 rfl (hR) (hinR) rfl ?_
    refine RL.len rfl rfl rfl rfl sl22 rfl ?_
    refine RL.pure rfl rfl rfl rfl ?_
    refine RL.pure rfl rfl rfl rfl ?_
    refine RL.part 31 rfl (fun h31 => ?_) (fun h31 => ?_)
    · refine RL.pass rfl rfl rfl ?_
      refine RL.pass rfl rfl rfl ?_
      refine RL.pass rfl rfl rfl ?_
      refine RL.pure rfl rfl rfl rfl ?_
      refine RL.pure rfl rfl rfl rfl ?_
      refine RL.pass rfl rfl rfl ?_
      refine RL.pass rfl rfl rfl ?_
      refine RL.pass rfl rfl rfl ?_
      refine RL.pure rfl rfl rfl rfl ?_
      refine RL.pure rfl rfl rfl rfl ?_
      refine RL.pass rfl rfl rfl ?_
      refine RL.pass rfl rfl rfl ?_
      refine RL.pass rfl rfl rfl ?_
      refine RL.pure rfl rfl rfl rfl ?_
      refine RL.done ?_
      refine CW.yes rfl (CW.seq (CW.plain ?_))
      refine RL.pure rfl rfl rfl rfl ?_
      refine RL.done ?_
      first
        | refine CW.ret (ret (vs := [_]) ⟨_, _, rfl, rfl, rfl⟩ (PostV.mk hg7.drop.drop (hax6.trans hax7) (congrArg Value.bool (any_at hkl ?_).symm)))
        | refine CW.ret (ret (vs := [_]) ⟨_, _, rfl, rfl, rfl⟩ (PostV.mk hg6.drop.drop hax6 (congrArg Value.bool (any_at hkl ?_).symm)))
      clear hR hinR hH hin hHe
      rw [he]
      simp_all [longE]; try omega
    · refine RL.field rfl rfl rfl rfl fl84_4 rfl rfl ?_
      refine RL.loads (j := 4) (us := [.slice a1 e.conf.voters.length c1, .slice a2 e.conf.learners.length c2]) rfl rfl rfl rfl ty40 rfl (hR) (hinR) rfl rfl ?_
      refine RL.callV rfl rfl rfl rfl rfl ca54 (wide_ct hg6 hconf) ?_
      rintro v7 w7 hg7 hax7 rfl
      refine ⟨trivial, ?_⟩
      refine RL.pure rfl rfl rfl rfl ?_
      refine RL.pure rfl rfl rfl rfl ?_
      refine RL.part 36 rfl (fun h36 => ?_) (fun h36 => ?_)
      · refine RL.pass rfl rfl rfl ?_
        refine RL.pass rfl rfl rfl ?_
        refine RL.pass rfl rfl rfl ?_
        refine RL.pure rfl rfl rfl rfl ?_
        refine RL.pure rfl rfl rfl rfl ?_
        refine RL.pass rfl rfl rfl ?_
        refine RL.pass rfl rfl rfl ?_
        refine RL.pass rfl rfl rfl ?_
        refine RL.pure rfl rfl rfl rfl ?_
        refine RL.done ?_
        refine CW.yes rfl (CW.seq (CW.plain ?_))
        refine RL.pure rfl rfl rfl rfl ?_
        refine RL.done ?_
        first
          | refine CW.ret (ret (vs := [_]) ⟨_, _, rfl, rfl, rfl⟩ (PostV.mk hg7.drop.drop (hax6.trans hax7) (congrArg Value.bool (any_at hkl ?_).symm)))
          | refine CW.ret (ret (vs := [_]) ⟨_, _, rfl, rfl, rfl⟩ (PostV.mk hg6.drop.drop hax6 (congrArg Value.bool (any_at hkl ?_).symm)))
        clear hR hinR hH hin hHe
        rw [he]
        simp_all [longE]; try omega
      · refine RL.field rfl rfl rfl rfl fl84_2 rfl rfl ?_
        have hinR := hg7.1
        refine RL.load (j := 2) rfl rfl rfl rfl ty82 rfl (hR) (hinR) rfl ?_
        refine RL.pure rfl rfl rfl rfl ?_
        refine RL.pure rfl rfl rfl rfl ?_
        refine RL.pure rfl rfl rfl rfl ?_
        refine RL.part 41 rfl (fun h41 => ?_) (fun h41 => ?_)
        · refine RL.pass rfl rfl rfl ?_
          refine RL.pass rfl rfl rfl ?_
          refine RL.pass rfl rfl rfl ?_
          refine RL.pure rfl rfl rfl rfl ?_
          refine RL.done ?_
          refine CW.yes rfl (CW.seq (CW.plain ?_))
          refine RL.pure rfl rfl rfl rfl ?_
          refine RL.done ?_
          first
            | refine CW.ret (ret (vs := [_]) ⟨_, _, rfl, rfl, rfl⟩ (PostV.mk hg7.drop.drop (hax6.trans hax7) (congrArg Value.bool (any_at hkl ?_).symm)))
            | refine CW.ret (ret (vs := [_]) ⟨_, _, rfl, rfl, rfl⟩ (PostV.mk hg6.drop.drop hax6 (congrArg Value.bool (any_at hkl ?_).symm)))
          clear hR hinR hH hin hHe
          rw [he]
          simp_all [longE]; try omega
        · refine RL.field rfl rfl rfl rfl fl84_2 rfl rfl ?_
          refine RL.load (j := 2) rfl rfl rfl rfl ty82 rfl (hR) (hinR) rfl ?_
          refine RL.pure rfl rfl rfl rfl ?_
          refine RL.pure rfl rfl rfl rfl ?_
          refine RL.done ?_
          refine CW.cond rfl (fun hh => CW.seq (CW.plain ?_)) (fun hh => CW.skip ?_)
          · skip
            refine RL.pure rfl rfl rfl rfl ?_
            refine RL.done ?_
            refine CW.ret (ret (vs := [_]) ⟨_, _, rfl, rfl, rfl⟩ (PostV.mk hg7.drop.drop (hax6.trans hax7) (congrArg Value.bool (any_at hkl ?_).symm)))
            rw [he]
            simp [longE, of_decide_eq_true hh]
          have hle' : longE e = false := by
            have h5 := of_decide_eq_false hh
            have h6 := of_decide_eq_false h41
            have h7 := of_decide_eq_false h31
            simp [longE, h36]; omega
          refine CW.plain ?_
          refine RL.add rfl rfl rfl rfl rfl rfl (by simp only [rng] at *; omega) ?_
          refine RL.pure rfl rfl rfl rfl ?_
          refine RL.done ?_
          cases j with
          | zero => omega
          | succ j =>
            refine fun ac ha => ⟨j, [(1, ptr p), (21, .slice y.ea m.entries.length y.ec), (22, i64 m.entries.length), (23, i64 ((k + 1 : Nat) : Int))], ha.sub ⟨rfl, rfl, rfl, rfl, trivial⟩, ⟨k + 1, rfl, hg7.drop, hax6.trans hax7, by omega, fun x hx => ?_⟩, Nat.lt_succ_self j⟩
            rw [List.take_succ_eq_append_getElem hkl] at hx
            rcases List.mem_append.1 hx with hx | hx
            · exact hno x hx
            · rw [List.mem_singleton.1 hx, he]; exact hle'
  · have hkl : k = m.entries.length := by omega
    rw [hkl, List.take_length] at hno
    refine CW.seq (CW.plain ?_)
    refine RL.pure rfl rfl rfl rfl ?_
    refine RL.done ?_
    exact CW.ret (ret (vs := [_]) ⟨_, _, rfl, rfl, rfl⟩ (PostV.mk hg4.drop hax4 (congrArg Value.bool (any_none hno).symm)))
end Go.Lw
