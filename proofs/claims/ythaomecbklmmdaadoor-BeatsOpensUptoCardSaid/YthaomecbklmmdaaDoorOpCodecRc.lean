/-
  The document's bools; counts and texts are read.
-/
import Derived.Test.YthaomecbklmmdaaDoorOpCodecRb
namespace Go.Lw
open Go.Proofs
attribute [local irreducible] RL RA

theorem RrObj.nil {st : RS} {bad : Int} (hv : BadIs st bad) : ((st.err.map (·.1)).getD 0 != 0) = !st.err.isNone := by
  cases hs : st.err with
  | none => rfl
  | some q => obtain ⟨h2, _⟩ := hv.1 q.1 q.2 hs; simp [h2]

set_option maxRecDepth 100000 in
theorem RrBool_ct {w : World} {s A : Res} {os : List Res} {p : Nat} {bs : List Int} {st : RS} (hg : Good w s (A :: os)) (hR : RrObj s A p bs st) :
    Calls Tryd.prog 47 #[ptr p] w (Post w s os fun s' A' r => r = .bool (rdBool bs st).1 ∧ RrObj s' A' p bs (rdBool bs st).2) := by
  have hR' := hR
  obtain ⟨h0, h1, a, c, bad, hp, hI, hv⟩ := hR'
  have hmax := hI.le_max
  simp only [maxLen] at hmax
  have hnil := RrObj.nil hv
  refine enter (l := [ptr p]) Tryd.func47 rfl Tryd.ntmps47 rfl ?_
  refine CW.seq (CW.plain ?_)
  refine RL.pure rfl rfl rfl rfl ?_
  refine RL.done ?_
  refine CW.seq (CW.seq (CW.plain ?_))
  refine RL.pure rfl rfl rfl rfl ?_
  refine RL.pure rfl rfl rfl rfl ?_
  refine RL.field rfl rfl rfl rfl fl65_2 rfl rfl ?_
  refine RL.load rfl rfl rfl rfl ty27 rfl (Holds.of hp) (hg.1) rfl ?_
  refine RL.pure rfl rfl rfl rfl ?_
  refine RL.done ?_
  refine CW.cond rfl (fun hb => ?_) (fun hb => ?_)
  · refine CW.seq (CW.plain ?_)
    refine RL.pure rfl rfl rfl rfl ?_
    refine RL.done ?_
    have hst := rdBool_some (bs := bs) (st := st) (by rw [hnil] at hb; simpa using hb)
    exact CW.ret (ret (vs := [_]) ⟨_, _, rfl, rfl, rfl⟩ (Post.mk (Le.refl _) hg (Aux.refl _) (by rw [hst]; exact ⟨rfl, hR⟩)))
  have herr : st.err.isNone = true := by rw [hnil] at hb; simpa using hb
  refine CW.skip (CW.seq (CW.seq ?_))
  refine CW.draws [(true, 0), (true, 1), (true, 2), (true, 3), (true, 4), (true, 5), (true, 6), (true, 7), (true, 8), (true, 9)] (fun w => Good w s (A :: os)) mixed (by kernel_rfl) (by kernel_rfl) (by kernel_rfl) (by kernel_rfl) (hg.drew) ?_
  refine RL.pure rfl rfl rfl rfl ?_
  refine RL.pure rfl rfl rfl rfl ?_
  refine RL.field rfl rfl rfl rfl fl65_1 rfl rfl ?_
  refine RL.loadT rfl rfl rfl rfl ty3 rfl (Holds.of hp) (fun w h => h.1) rfl ?_
  refine RL.pure rfl rfl rfl rfl ?_
  refine RL.pure rfl rfl rfl rfl ?_
  refine RL.field rfl rfl rfl rfl fl65_0 rfl rfl ?_
  refine RL.loadT rfl rfl rfl rfl ty22 rfl (Holds.of hp) (fun w h => h.1) rfl ?_
  refine RL.len rfl rfl rfl rfl sl22 rfl ?_
  refine RL.pure rfl rfl rfl rfl ?_
  refine RL.done ?_
  refine CW.test rfl (fun hb => ?_) (fun hb => ?_)
  · refine CW.seq (CW.plain ?_)
    refine RL.pure rfl rfl rfl rfl ?_
    refine RL.pure rfl rfl rfl rfl ?_
    refine RL.pure rfl rfl rfl rfl ?_
    refine RL.field rfl rfl rfl rfl fl65_1 rfl rfl ?_
    refine RL.load rfl rfl rfl rfl ty3 rfl (Holds.of hp) (hg.1) rfl ?_
    refine RL.call rfl rfl rfl rfl rfl ca46 (rfailAt_ct hg.drew hR (e := 11) (by simp [rng]) ⟨h0, h1⟩) ?_
    rintro r s1 A1 w1 hle1 hg1 hax1 ⟨_, hA1⟩
    refine ⟨trivial, ?_⟩
    refine RL.done ?_
    refine CW.seq (CW.plain ?_)
    refine RL.pure rfl rfl rfl rfl ?_
    refine RL.done ?_
    have hst := rdBool_end (bs := bs) herr (by omega)
    exact CW.ret (ret (vs := [_]) ⟨_, _, rfl, rfl, rfl⟩ (Post.mk hle1 hg1 ((Aux.drew _).trans hax1) (by rw [hst]; exact ⟨rfl, hA1⟩)))
  have hlt : st.pos.toNat < bs.length := by omega
  have hst := rdBool_at herr hlt
  have hg2 := hg.drew.drew
  refine CW.skip (CW.seq (CW.seq ?_))
  refine CW.draws [(true, 0), (true, 1), (true, 2), (true, 3), (true, 4), (true, 5), (true, 6), (true, 7), (true, 8), (true, 9), (true, 10)] (fun w => Good w s (A :: os)) mixed (by kernel_rfl) (by kernel_rfl) (by kernel_rfl) (by kernel_rfl) (hg2) ?_
  refine RL.pure rfl rfl rfl rfl ?_
  refine RL.pure rfl rfl rfl rfl ?_
  refine RL.field rfl rfl rfl rfl fl65_0 rfl rfl ?_
  refine RL.loadT rfl rfl rfl rfl ty22 rfl (Holds.of hp) (fun w h => h.1) rfl ?_
  refine RL.pure rfl rfl rfl rfl ?_
  refine RL.pure rfl rfl rfl rfl ?_
  refine RL.field rfl rfl rfl rfl fl65_1 rfl rfl ?_
  refine RL.loadT rfl rfl rfl rfl ty3 rfl (Holds.of hp) (fun w h => h.1) rfl ?_
  refine RL.idx rfl rfl rfl rfl sl22 rfl rfl (hI) (h0) (by omega) ?_
  rintro q vs hvl hH ⟨rfl, hr⟩
  refine RL.loadT rfl rfl rfl rfl ty5 rfl (hH) (fun w h => h.sh) rfl ?_
  refine RL.pure rfl rfl rfl rfl ?_
  refine RL.done ?_
  refine CW.test rfl (fun hb1 => ?_) (fun hb1 => ?_)
  · refine CW.seq (CW.plain ?_)
    refine RL.pure rfl rfl rfl rfl ?_
    refine RL.pure rfl rfl rfl rfl ?_
    refine RL.pure rfl rfl rfl rfl ?_
    refine RL.field rfl rfl rfl rfl fl65_1 rfl rfl ?_
    refine RL.load rfl rfl rfl rfl ty3 rfl (Holds.of hp) (hg2.1) rfl ?_
    refine RL.call rfl rfl rfl rfl rfl ca46 (rfailAt_ct hg2 hR (e := 16) (by simp [rng]) ⟨h0, h1⟩) ?_
    rintro r s1 A1 w1 hle1 hg1 hax1 ⟨_, hA1⟩
    refine ⟨trivial, ?_⟩
    refine RL.done ?_
    refine CW.seq (CW.plain ?_)
    refine RL.pure rfl rfl rfl rfl ?_
    refine RL.done ?_
    rw [if_pos (show 1 < bs[st.pos.toNat] from hb1)] at hst
    exact CW.ret (ret (vs := [_]) ⟨_, _, rfl, rfl, rfl⟩ (Post.mk hle1 hg1 ((Aux.drew _).trans ((Aux.drew _).trans hax1)) (by rw [hst]; exact ⟨rfl, hA1⟩)))
  rw [if_neg (show ¬ 1 < bs[st.pos.toNat] from hb1)] at hst
  refine CW.skip (CW.seq (CW.plain ?_))
  refine RL.pure rfl rfl rfl rfl ?_
  refine RL.pure rfl rfl rfl rfl ?_
  refine RL.field rfl rfl rfl rfl fl65_1 rfl rfl ?_
  refine RL.load rfl rfl rfl rfl ty3 rfl (Holds.of hp) (hg2.1) rfl ?_
  refine RL.add rfl rfl rfl rfl rfl rfl ((by simp only [rng]; omega)) ?_
  refine RL.pure rfl rfl rfl rfl ?_
  refine RL.field rfl rfl rfl rfl fl65_1 rfl rfl ?_
  refine RL.store (i := 0) rfl rfl rfl ty3 rfl rfl hg2 rfl (hp) rfl (by first | (simp [Value.cells, Value.oneCell']; done) | simp [Value.cells, Value.oneCell', putL]) (by first | exact Nat.le_of_ble_eq_true rfl | (simp; done) | (simp; omega) | omega) ?_
  rintro w3 hg3 hax3
  refine ⟨trivial, ?_⟩
  refine RL.done ?_
  refine CW.seq ?_
  refine CW.draws [(true, 0), (true, 1), (true, 2), (true, 3), (true, 4), (true, 5), (true, 6), (true, 7), (true, 8), (true, 9), (true, 10), (true, 11), (false, 12)] (fun w => Good w s (A.put p (.cells #[.slice a bs.length c, .int .i64 (st.pos + 1), .int .i64 ((Option.map (fun x : Int × Int => x.1) st.err).getD 0), .int .i64 bad] 65 (0, 0)) :: os)) mixed (by kernel_rfl) (by kernel_rfl) (by kernel_rfl) (by kernel_rfl) (hg3.drew) ?_
  refine RL.pure rfl rfl rfl rfl ?_
  refine RL.pure rfl rfl rfl rfl ?_
  refine RL.field rfl rfl rfl rfl fl65_0 rfl rfl ?_
  refine RL.loadT rfl rfl rfl rfl ty22 rfl ((Holds.of (put_same _ _ _))) (fun w h => h.1) rfl ?_
  refine RL.pure rfl rfl rfl rfl ?_
  refine RL.pure rfl rfl rfl rfl ?_
  refine RL.field rfl rfl rfl rfl fl65_1 rfl rfl ?_
  refine RL.loadT rfl rfl rfl rfl ty3 rfl ((Holds.of (put_same _ _ _))) (fun w h => h.1) rfl ?_
  refine RL.sub rfl rfl rfl rfl rfl rfl ((by simp only [rng]; omega)) ?_
  refine RL.idx rfl rfl rfl rfl sl22 rfl rfl (hI) (by omega) (by omega) ?_
  rintro q vs hvl hH ⟨rfl, hr2⟩
  refine RL.loadT rfl rfl rfl rfl ty5 rfl (hH) (fun w h => h.sh) rfl ?_
  refine RL.pure rfl rfl rfl rfl ?_
  refine RL.pure rfl rfl rfl rfl ?_
  refine RL.done ?_
  have e : (st.pos + 1 - 1).toNat = st.pos.toNat := by omega
  have hn : st.err = none := by
    cases hs : st.err with
    | some q => rw [hs] at herr; cases herr
    | none => rfl
  refine CW.ret (ret (vs := [_]) ⟨_, _, rfl, rfl, rfl⟩ (Post.mk (Le.refl _) hg3.drew ((Aux.drew _).trans ((Aux.drew _).trans (hax3.trans (Aux.drew _)))) ?_))
  rw [hst]
  refine ⟨by simp only [whole, e], ?_, ?_, a, c, bad, by rw [hn]; exact put_same _ _ _, hI, fun e k h => (by cases h), fun _ => hv.2 hn⟩
  · show 0 ≤ st.pos + 1
    omega
  · show st.pos + 1 ≤ bs.length
    omega

/-! ### counts -/
def rdCount (bs : List Int) (st : RS) (most : Int) : Int × RS :=
  if (rdUint bs st).2.err.isNone = false then (0, (rdUint bs st).2)
  else if most < 0 ∨ most < (rdUint bs st).1 then (0, (rdUint bs st).2.failAt 13 st.pos)
  else if bs.length - (rdUint bs st).2.pos < (rdUint bs st).1 then (0, (rdUint bs st).2.failAt 11 st.pos)
  else ((rdUint bs st).1, (rdUint bs st).2)

set_option maxRecDepth 100000 in
theorem RdCount_ct {w : World} {s A : Res} {os : List Res} {p : Nat} {bs : List Int} {st : RS} {most : Int} (hg : Good w s (A :: os)) (hR : RdObj s A p bs st) (hm : rng .i64 most) :
    Calls Tryd.prog 19 #[ptr p, .int .i64 most] w (Post w s os fun s' A' r => r = .int .i64 (rdCount bs st most).1 ∧ RdObj s' A' p bs (rdCount bs st most).2) := by
  have hR' := hR
  obtain ⟨h0, h1, a, c, v, hp, hI, hv⟩ := hR'
  have hmax := hI.le_max
  simp only [maxLen] at hmax
  simp only [rng] at hm
  refine enter (l := [ptr p, .int .i64 most]) Tryd.func19 rfl Tryd.ntmps19 rfl ?_
  refine CW.seq (CW.plain ?_)
  refine RL.pure rfl rfl rfl rfl ?_
  refine RL.done ?_
  refine CW.seq (CW.plain ?_)
  refine RL.pure rfl rfl rfl rfl ?_
  refine RL.pure rfl rfl rfl rfl ?_
  refine RL.field rfl rfl rfl rfl fl92_1 rfl rfl ?_
  refine RL.load rfl rfl rfl rfl ty3 rfl (Holds.of hp) (hg.1) rfl ?_
  refine RL.pure rfl rfl rfl rfl ?_
  refine RL.done ?_
  refine CW.seq (CW.plain ?_)
  refine RL.pure rfl rfl rfl rfl ?_
  refine RL.call rfl rfl rfl rfl rfl ca36 (RdUint_ct hg hR) ?_
  rintro r s1 A1 w1 hle1 hg1 hax1 ⟨rfl, hr, hA1⟩
  refine ⟨trivial, ?_⟩
  refine RL.pure rfl rfl rfl rfl ?_
  refine RL.done ?_
  have hA1' := hA1
  obtain ⟨k0, k1, a1, c1, v1, hp1, hI1, hv1⟩ := hA1'
  have hnil := hv1.nil
  simp only [rng] at hr
  have hc : rdCount bs st most = if (rdUint bs st).2.err.isNone = false then (0, (rdUint bs st).2) else if most < 0 ∨ most < (rdUint bs st).1 then (0, (rdUint bs st).2.failAt 13 st.pos)
    else if bs.length - (rdUint bs st).2.pos < (rdUint bs st).1 then (0, (rdUint bs st).2.failAt 11 st.pos) else ((rdUint bs st).1, (rdUint bs st).2) := rfl
  generalize rdUint bs st = us at hc hr hA1 k0 k1 hp1 hv1 hnil ⊢
  obtain ⟨u, st1⟩ := us
  simp only at hc hr hA1 k0 k1 hp1 hv1 hnil ⊢
  refine CW.seq (CW.block (CW.seq (CW.plain ?_)))
  refine RL.pure rfl rfl rfl rfl ?_
  refine RL.pure rfl rfl rfl rfl ?_
  refine RL.field rfl rfl rfl rfl fl92_2 rfl rfl ?_
  refine RL.load rfl rfl rfl rfl ty90 rfl (Holds.of hp1) (hg1.1) rfl ?_
  refine RL.ifNe rfl rfl rfl rfl Tryd.underlying90 rfl (hv1.isI) ?_
  refine RL.pure rfl rfl rfl rfl ?_
  refine RL.done ?_
  refine CW.cond rfl (fun hb => ?_) (fun hb => ?_)
  · refine CW.seq (CW.plain ?_)
    refine RL.pure rfl rfl rfl rfl ?_
    refine RL.done ?_
    rw [if_pos (by rw [hnil] at hb; simpa using hb)] at hc
    exact CW.ret (ret (vs := [_]) ⟨_, _, rfl, rfl, rfl⟩ (Post.mk hle1 hg1 hax1 (by rw [hc]; exact ⟨rfl, hA1⟩)))
  rw [if_neg (by rw [hnil] at hb; simpa using hb)] at hc
  refine CW.meet (fun E w' => w' = w1 ∧ E = [(0, ptr p), (5, .int .i64 st.pos), (6, .int .u64 u), (19, .bool (decide (most < 0 ∨ most < u)))]) (CW.plain ?_) ?_
  · refine RL.pure rfl rfl rfl rfl ?_
    refine RL.pure rfl rfl rfl rfl ?_
    refine RL.pure rfl rfl rfl rfl ?_
    refine RL.part 22 rfl (fun hb => ?_) (fun hb => ?_)
    · refine RL.pass rfl rfl rfl ?_
      refine RL.pass rfl rfl rfl ?_
      refine RL.pass rfl rfl rfl ?_
      refine RL.pass rfl rfl rfl ?_
      refine RL.pure rfl rfl rfl rfl ?_
      refine RL.pure rfl rfl rfl rfl ?_
      refine RL.done ?_
      have hm0 : most < 0 := by simpa using hb
      exact fun ac ha => ⟨[(0, ptr p), (5, .int .i64 st.pos), (6, .int .u64 u), (19, .bool (decide (most < 0 ∨ most < u)))], ha.sub ⟨rfl, rfl, rfl, by rw [decide_eq_true (Or.inl hm0)]; rfl, trivial⟩, rfl, rfl⟩
    · have hm0 : ¬ most < 0 := by simpa using hb
      refine RL.pure rfl rfl rfl rfl ?_
      refine RL.pure rfl rfl rfl rfl ?_
      refine RL.conv rfl rfl rfl rfl Tryd.underlying3 Tryd.underlying36 rfl ((by simp only [rng]; omega)) ?_
      refine RL.pure rfl rfl rfl rfl ?_
      refine RL.pure rfl rfl rfl rfl ?_
      refine RL.pure rfl rfl rfl rfl ?_
      refine RL.done ?_
      have e : decide (most < 0 ∨ most < u) = decide (u > most) := by
        by_cases h : most < u <;> simp [h, hm0]
      exact fun ac ha => ⟨[(0, ptr p), (5, .int .i64 st.pos), (6, .int .u64 u), (19, .bool (decide (most < 0 ∨ most < u)))], ha.sub ⟨rfl, rfl, rfl, by rw [e]; rfl, trivial⟩, rfl, rfl⟩
  rintro E w' ⟨rfl, rfl⟩
  refine CW.test rfl (fun hb => ?_) (fun hb => ?_)
  · refine CW.seq (CW.plain ?_)
    refine RL.pure rfl rfl rfl rfl ?_
    refine RL.pure rfl rfl rfl rfl ?_
    refine RL.call rfl rfl rfl rfl rfl ca43 (failAt_ct hg1 hA1 (e := 13) (by simp [rng]) ⟨h0, h1⟩) ?_
    rintro r s2 A2 w2 hle2 hg2 hax2 ⟨_, hA2⟩
    refine ⟨trivial, ?_⟩
    refine RL.done ?_
    refine CW.seq (CW.plain ?_)
    refine RL.pure rfl rfl rfl rfl ?_
    refine RL.done ?_
    rw [if_pos hb] at hc
    exact CW.ret (ret (vs := [_]) ⟨_, _, rfl, rfl, rfl⟩ (Post.mk (hle1.trans hle2) hg2 (hax1.trans hax2) (by rw [hc]; exact ⟨rfl, hA2⟩)))
  rw [if_neg hb] at hc
  refine CW.seq ?_
  refine CW.draws [(true, 0), (true, 1), (true, 2), (true, 3), (true, 4), (true, 5), (true, 6), (true, 7), (true, 8), (true, 9), (true, 10), (true, 11), (true, 12), (false, 13)] (fun w => Good w s1 (A1 :: os)) mixed (by kernel_rfl) (by kernel_rfl) (by kernel_rfl) (by kernel_rfl) (hg1.drew) ?_
  refine RL.pure rfl rfl rfl rfl ?_
  refine RL.pure rfl rfl rfl rfl ?_
  refine RL.pure rfl rfl rfl rfl ?_
  refine RL.field rfl rfl rfl rfl fl92_0 rfl rfl ?_
  refine RL.loadT rfl rfl rfl rfl ty22 rfl (Holds.of hp1) (fun w h => h.1) rfl ?_
  refine RL.len rfl rfl rfl rfl sl22 rfl ?_
  refine RL.pure rfl rfl rfl rfl ?_
  refine RL.pure rfl rfl rfl rfl ?_
  refine RL.field rfl rfl rfl rfl fl92_1 rfl rfl ?_
  refine RL.loadT rfl rfl rfl rfl ty3 rfl (Holds.of hp1) (fun w h => h.1) rfl ?_
  refine RL.sub rfl rfl rfl rfl rfl rfl ((by simp only [rng]; omega)) ?_
  refine RL.conv rfl rfl rfl rfl Tryd.underlying3 Tryd.underlying36 rfl ((by simp only [rng]; omega)) ?_
  refine RL.pure rfl rfl rfl rfl ?_
  refine RL.pure rfl rfl rfl rfl ?_
  refine RL.done ?_
  refine CW.test rfl (fun hb2 => ?_) (fun hb2 => ?_)
  · refine CW.seq (CW.plain ?_)
    refine RL.pure rfl rfl rfl rfl ?_
    refine RL.pure rfl rfl rfl rfl ?_
    refine RL.call rfl rfl rfl rfl rfl ca43 (failAt_ct hg1.drew hA1 (e := 11) (by simp [rng]) ⟨h0, h1⟩) ?_
    rintro r s2 A2 w2 hle2 hg2 hax2 ⟨_, hA2⟩
    refine ⟨trivial, ?_⟩
    refine RL.done ?_
    refine CW.seq (CW.plain ?_)
    refine RL.pure rfl rfl rfl rfl ?_
    refine RL.done ?_
    rw [if_pos (by omega)] at hc
    exact CW.ret (ret (vs := [_]) ⟨_, _, rfl, rfl, rfl⟩ (Post.mk (hle1.trans hle2) hg2 (hax1.trans ((Aux.drew _).trans hax2)) (by rw [hc]; exact ⟨rfl, hA2⟩)))
  rw [if_neg (by omega)] at hc
  refine CW.skip (CW.seq (CW.plain ?_))
  refine RL.pure rfl rfl rfl rfl ?_
  refine RL.conv rfl rfl rfl rfl Tryd.underlying36 Tryd.underlying3 rfl ((by simp only [rng]; omega)) ?_
  refine RL.pure rfl rfl rfl rfl ?_
  refine RL.done ?_
  exact CW.ret (ret (vs := [_]) ⟨_, _, rfl, rfl, rfl⟩ (Post.mk hle1 hg1.drew (hax1.trans (Aux.drew _)) (by rw [hc]; exact ⟨rfl, hA1⟩)))
end Go.Lw
