/-
  The document's counts; texts are read.
-/
import Derived.Test.YthaomecbklmmdaaDoorOpCodecRc
namespace Go.Lw
open Go.Proofs
attribute [local irreducible] RL RA

set_option maxRecDepth 100000 in
theorem RrCount_ct {w : World} {s A : Res} {os : List Res} {p : Nat} {bs : List Int} {st : RS} {most : Int} (hg : Good w s (A :: os)) (hR : RrObj s A p bs st) (hm : rng .i64 most) :
    Calls Tryd.prog 24 #[ptr p, .int .i64 most] w (Post w s os fun s' A' r => r = .int .i64 (rdCount bs st most).1 ∧ RrObj s' A' p bs (rdCount bs st most).2) := by
  have hR' := hR
  obtain ⟨h0, h1, a, c, bad, hp, hI, hv⟩ := hR'
  have hmax := hI.le_max
  simp only [maxLen] at hmax
  simp only [rng] at hm
  refine enter (l := [ptr p, .int .i64 most]) Tryd.func24 rfl Tryd.ntmps24 rfl ?_
  refine CW.seq (CW.plain ?_)
  refine RL.pure rfl rfl rfl rfl ?_
  refine RL.done ?_
  refine CW.seq (CW.plain ?_)
  refine RL.pure rfl rfl rfl rfl ?_
  refine RL.pure rfl rfl rfl rfl ?_
  refine RL.field rfl rfl rfl rfl fl65_1 rfl rfl ?_
  refine RL.load rfl rfl rfl rfl ty3 rfl (Holds.of hp) (hg.1) rfl ?_
  refine RL.pure rfl rfl rfl rfl ?_
  refine RL.done ?_
  refine CW.seq (CW.plain ?_)
  refine RL.pure rfl rfl rfl rfl ?_
  refine RL.call rfl rfl rfl rfl rfl ca45 (RrUint_ct hg hR) ?_
  rintro r s1 A1 w1 hle1 hg1 hax1 ⟨rfl, hr, hA1⟩
  refine ⟨trivial, ?_⟩
  refine RL.pure rfl rfl rfl rfl ?_
  refine RL.done ?_
  have hA1' := hA1
  obtain ⟨k0, k1, a1, c1, bad1, hp1, hI1, hv1⟩ := hA1'
  have hnil := RrObj.nil hv1
  simp only [rng] at hr
  have hc : rdCount bs st most = if (rdUint bs st).2.err.isNone = false then (0, (rdUint bs st).2) else if most < 0 ∨ most < (rdUint bs st).1 then (0, (rdUint bs st).2.failAt 13 st.pos)
    else if bs.length - (rdUint bs st).2.pos < (rdUint bs st).1 then (0, (rdUint bs st).2.failAt 11 st.pos) else ((rdUint bs st).1, (rdUint bs st).2) := rfl
  generalize rdUint bs st = us at hc hr hA1 k0 k1 hp1 hv1 hnil ⊢
  obtain ⟨u, st1⟩ := us
  simp only at hc hr hA1 k0 k1 hp1 hv1 hnil ⊢
  refine CW.seq (CW.seq (CW.plain ?_))
  refine RL.pure rfl rfl rfl rfl ?_
  refine RL.pure rfl rfl rfl rfl ?_
  refine RL.field rfl rfl rfl rfl fl65_2 rfl rfl ?_
  refine RL.load rfl rfl rfl rfl ty27 rfl (Holds.of hp1) (hg1.1) rfl ?_
  refine RL.pure rfl rfl rfl rfl ?_
  refine RL.done ?_
  refine CW.cond rfl (fun hb => ?_) (fun hb => ?_)
  · refine CW.seq (CW.plain ?_)
    refine RL.pure rfl rfl rfl rfl ?_
    refine RL.done ?_
    rw [if_pos (by rw [hnil] at hb; simpa using hb)] at hc
    exact CW.ret (ret (vs := [_]) ⟨_, _, rfl, rfl, rfl⟩ (Post.mk hle1 hg1 hax1 (by rw [hc]; exact ⟨rfl, hA1⟩)))
  rw [if_neg (by rw [hnil] at hb; simpa using hb)] at hc
  refine CW.skip (CW.seq ?_)
  refine CW.meet (fun E w' => w' = w1 ∧ E = [(0, ptr p), (5, .int .i64 st.pos), (6, .int .u64 u), (25, .bool (decide (most < 0 ∨ most < u)))]) (CW.plain ?_) ?_
  · refine RL.pure rfl rfl rfl rfl ?_
    refine RL.pure rfl rfl rfl rfl ?_
    refine RL.pure rfl rfl rfl rfl ?_
    refine RL.part 20 rfl (fun hb => ?_) (fun hb => ?_)
    · refine RL.pass rfl rfl rfl ?_
      refine RL.pass rfl rfl rfl ?_
      refine RL.pass rfl rfl rfl ?_
      refine RL.pass rfl rfl rfl ?_
      refine RL.pure rfl rfl rfl rfl ?_
      refine RL.done ?_
      have hm0 : most < 0 := by simpa using hb
      exact fun ac ha => ⟨[(0, ptr p), (5, .int .i64 st.pos), (6, .int .u64 u), (25, .bool (decide (most < 0 ∨ most < u)))], ha.sub ⟨rfl, rfl, rfl, by rw [decide_eq_true (Or.inl hm0)]; rfl, trivial⟩, rfl, rfl⟩
    · have hm0 : ¬ most < 0 := by simpa using hb
      refine RL.pure rfl rfl rfl rfl ?_
      refine RL.pure rfl rfl rfl rfl ?_
      refine RL.conv rfl rfl rfl rfl Tryd.underlying3 Tryd.underlying36 rfl ((by simp only [rng]; omega)) ?_
      refine RL.pure rfl rfl rfl rfl ?_
      refine RL.pure rfl rfl rfl rfl ?_
      refine RL.done ?_
      have e : decide (most < 0 ∨ most < u) = decide (u > most) := by
        by_cases h : most < u <;> simp [h, hm0]
      exact fun ac ha => ⟨[(0, ptr p), (5, .int .i64 st.pos), (6, .int .u64 u), (25, .bool (decide (most < 0 ∨ most < u)))], ha.sub ⟨rfl, rfl, rfl, by rw [e]; rfl, trivial⟩, rfl, rfl⟩
  rintro E w' ⟨rfl, rfl⟩
  refine CW.test rfl (fun hb => ?_) (fun hb => ?_)
  · refine CW.seq (CW.plain ?_)
    refine RL.pure rfl rfl rfl rfl ?_
    refine RL.pure rfl rfl rfl rfl ?_
    refine RL.call rfl rfl rfl rfl rfl ca46 (rfailAt_ct hg1 hA1 (e := 13) (by simp [rng]) ⟨h0, h1⟩) ?_
    rintro r s2 A2 w2 hle2 hg2 hax2 ⟨_, hA2⟩
    refine ⟨trivial, ?_⟩
    refine RL.done ?_
    refine CW.seq (CW.plain ?_)
    refine RL.pure rfl rfl rfl rfl ?_
    refine RL.done ?_
    rw [if_pos hb] at hc
    exact CW.ret (ret (vs := [_]) ⟨_, _, rfl, rfl, rfl⟩ (Post.mk (hle1.trans hle2) hg2 (hax1.trans hax2) (by rw [hc]; exact ⟨rfl, hA2⟩)))
  rw [if_neg hb] at hc
  refine CW.skip (CW.seq (CW.seq ?_))
  refine CW.draws [(true, 0), (true, 1), (true, 2), (true, 3), (true, 4), (true, 5), (true, 6), (true, 7), (true, 8), (true, 9), (true, 10), (true, 11), (true, 12)] (fun w => Good w s1 (A1 :: os)) mixed (by kernel_rfl) (by kernel_rfl) (by kernel_rfl) (by kernel_rfl) (hg1.drew) ?_
  refine RL.pure rfl rfl rfl rfl ?_
  refine RL.pure rfl rfl rfl rfl ?_
  refine RL.pure rfl rfl rfl rfl ?_
  refine RL.field rfl rfl rfl rfl fl65_0 rfl rfl ?_
  refine RL.loadT rfl rfl rfl rfl ty22 rfl (Holds.of hp1) (fun w h => h.1) rfl ?_
  refine RL.len rfl rfl rfl rfl sl22 rfl ?_
  refine RL.pure rfl rfl rfl rfl ?_
  refine RL.pure rfl rfl rfl rfl ?_
  refine RL.field rfl rfl rfl rfl fl65_1 rfl rfl ?_
  refine RL.loadT rfl rfl rfl rfl ty3 rfl (Holds.of hp1) (fun w h => h.1) rfl ?_
  refine RL.sub rfl rfl rfl rfl rfl rfl ((by simp only [rng]; omega)) ?_
  refine RL.conv rfl rfl rfl rfl Tryd.underlying3 Tryd.underlying36 rfl ((by simp only [rng]; omega)) ?_
  refine RL.pure rfl rfl rfl rfl ?_
  refine RL.done ?_
  refine CW.test rfl (fun hb2 => ?_) (fun hb2 => ?_)
  · refine CW.seq (CW.plain ?_)
    refine RL.pure rfl rfl rfl rfl ?_
    refine RL.pure rfl rfl rfl rfl ?_
    refine RL.call rfl rfl rfl rfl rfl ca46 (rfailAt_ct hg1.drew hA1 (e := 11) (by simp [rng]) ⟨h0, h1⟩) ?_
    rintro r s2 A2 w2 hle2 hg2 hax2 ⟨_, hA2⟩
    refine ⟨trivial, ?_⟩
    refine RL.done ?_
    refine CW.seq (CW.plain ?_)
    refine RL.pure rfl rfl rfl rfl ?_
    refine RL.done ?_
    rw [if_pos (by omega)] at hc
    exact CW.ret (ret (vs := [_]) ⟨_, _, rfl, rfl, rfl⟩ (Post.mk (hle1.trans hle2) hg2 (hax1.trans ((Aux.drew _).trans hax2)) (by rw [hc]; exact ⟨rfl, hA2⟩)))
  rw [if_neg (by omega)] at hc
  refine CW.skip (CW.seq (CW.plain ?_))
  refine RL.pure rfl rfl rfl rfl ?_
  refine RL.conv rfl rfl rfl rfl Tryd.underlying36 Tryd.underlying3 rfl ((by simp only [rng]; omega)) ?_
  refine RL.pure rfl rfl rfl rfl ?_
  refine RL.done ?_
  exact CW.ret (ret (vs := [_]) ⟨_, _, rfl, rfl, rfl⟩ (Post.mk hle1 hg1.drew (hax1.trans (Aux.drew _)) (by rw [hc]; exact ⟨rfl, hA1⟩)))

/-! ### texts -/
theorem Good.less {w : World} {s r : Res} {os : List Res} (h : Good w s os) (hl : Le r s) : Good w r os := by
  have hap : ∀ q, Apart q s → Apart q r := fun q hq b hb => by
    cases hr : r b with
    | none => rfl
    | some x => have := hq b hb; rw [hl b x hr] at this; cases this
  induction os with
  | nil => exact fun b x hx => h b x (hl b x hx)
  | cons q os ih => exact ⟨h.1, hap q h.2.1, h.2.2.1, ih h.2.2.2⟩
def rdBytes (bs : List Int) (st : RS) (most : Int) : List Int × RS :=
  if (rdCount bs st most).2.err.isNone = false then ([], (rdCount bs st most).2)
  else ((bs.drop (rdCount bs st most).2.pos.toNat).take (rdCount bs st most).1.toNat, ⟨(rdCount bs st most).2.pos + (rdCount bs st most).1, none⟩)
/-- What a count tells where it stands: as many bytes are there. -/
theorem rdCount_fits {bs : List Int} {st : RS} {most : Int} (h : (rdCount bs st most).2.err.isNone = true) (hu : 0 ≤ (rdUint bs st).1) : 0 ≤ (rdCount bs st most).1 ∧ (rdCount bs st most).2.pos + (rdCount bs st most).1 ≤ bs.length := by
  unfold rdCount at h ⊢
  split at h
  · rename_i h1
    rw [h1] at h
    cases h
  · rename_i h0
    have hn : (rdUint bs st).2.err.isNone = true := by simpa using h0
    split at h
    · simp [RS.failAt, hn] at h
    · split at h
      · simp [RS.failAt, hn] at h
      · rename_i h1 h2
        rw [if_neg h0, if_neg h1, if_neg h2]
        refine ⟨hu, ?_⟩
        show (rdUint bs st).2.pos + (rdUint bs st).1 ≤ bs.length
        omega
theorem rdUint_pos (bs : List Int) (st : RS) : 0 ≤ (rdUint bs st).1 := by
  have key : ∀ (l : List Int) (i : Nat) (v : Int), 0 ≤ v → ∀ x n, decF i v l = .inr (x, n) → 0 ≤ x := by
    intro l
    induction l with
    | nil => intro i v _ x n h; simp [decF] at h
    | cons c l ih =>
      intro i v hv x n h
      have hp : (0 : Int) ≤ 2 ^ (7 * i) := Int.le_of_lt (Int.pow_pos (by omega))
      have hq : 0 ≤ c % 128 * 2 ^ (7 * i) := Int.mul_nonneg (by omega) hp
      simp only [decF] at h
      split at h
      · cases h
      · split at h
        · exact ih _ _ (by omega) x n h
        · split at h
          · cases h
          · cases h; omega
  unfold rdUint
  split
  · simp
  · split
    · simp
    · rename_i x n h
      exact key _ 0 0 (by omega) _ _ h

set_option maxRecDepth 100000 in
theorem RdBytes_ct {w : World} {s A : Res} {os : List Res} {p : Nat} {bs : List Int} {st : RS} {most : Int} (hg : Good w s (A :: os)) (hR : RdObj s A p bs st) (hm : rng .i64 most) (hl : bs.length ≤ 140737488355328) :
    Calls Tryd.prog 41 #[ptr p, .int .i64 most] w (Post2 w s os fun s' B A' r => BOwn s' B r (rdBytes bs st most).1 ∧ RdObj s' A' p bs (rdBytes bs st most).2) := by
  refine enter (l := [ptr p, .int .i64 most]) Tryd.func41 rfl Tryd.ntmps41 rfl ?_
  refine CW.seq (CW.plain ?_)
  refine RL.pure rfl rfl rfl rfl ?_
  refine RL.done ?_
  refine CW.seq (CW.plain ?_)
  refine RL.pure rfl rfl rfl rfl ?_
  refine RL.pure rfl rfl rfl rfl ?_
  refine RL.call rfl rfl rfl rfl rfl ca19 (RdCount_ct hg hR hm) ?_
  rintro r s1 A1 w1 hle1 hg1 hax1 ⟨rfl, hA1⟩
  refine ⟨trivial, ?_⟩
  refine RL.pure rfl rfl rfl rfl ?_
  refine RL.done ?_
  have hA1' := hA1
  obtain ⟨k0, k1, a1, c1, v1, hp1, hI1, hv1⟩ := hA1'
  have hnil := hv1.nil
  have hc : rdBytes bs st most = if (rdCount bs st most).2.err.isNone = false then ([], (rdCount bs st most).2)
    else ((bs.drop (rdCount bs st most).2.pos.toNat).take (rdCount bs st most).1.toNat, ⟨(rdCount bs st most).2.pos + (rdCount bs st most).1, none⟩) := rfl
  have hfit := fun h => rdCount_fits (bs := bs) (st := st) (most := most) h (rdUint_pos bs st)
  generalize rdCount bs st most = us at hc hA1 k0 k1 hp1 hv1 hnil hfit ⊢
  obtain ⟨u, st1⟩ := us
  simp only at hc hA1 k0 k1 hp1 hv1 hnil hfit ⊢
  refine CW.seq (CW.seq (CW.plain ?_))
  refine RL.pure rfl rfl rfl rfl ?_
  refine RL.pure rfl rfl rfl rfl ?_
  refine RL.field rfl rfl rfl rfl fl92_2 rfl rfl ?_
  refine RL.load rfl rfl rfl rfl ty90 rfl (Holds.of hp1) (hg1.1) rfl ?_
  refine RL.ifNe rfl rfl rfl rfl Tryd.underlying90 rfl (hv1.isI) ?_
  refine RL.done ?_
  refine CW.cond rfl (fun hb => ?_) (fun hb => ?_)
  · refine CW.seq (CW.plain ?_)
    refine RL.pure rfl rfl rfl rfl ?_
    refine RL.done ?_
    rw [if_pos (by rw [hnil] at hb; simpa using hb)] at hc
    exact CW.ret (ret (vs := [_]) ⟨_, _, rfl, rfl, rfl⟩ (Post2.mk hle1 hg1.nil hax1 (by rw [hc]; exact ⟨⟨none, 0, rfl, Own.nil _ _ _ _ _⟩, hA1⟩)))
  have herr : st1.err.isNone = true := by rw [hnil] at hb; simpa using hb
  obtain ⟨f0, f1⟩ := hfit herr
  rw [if_neg (by rw [herr]; simp)] at hc
  refine CW.skip (CW.seq (CW.plain ?_))
  refine RL.pure rfl rfl rfl rfl ?_
  refine RL.pure rfl rfl rfl rfl ?_
  refine RL.field rfl rfl rfl rfl fl92_1 rfl rfl ?_
  refine RL.load rfl rfl rfl rfl ty3 rfl (Holds.of hp1) (hg1.1) rfl ?_
  refine RL.pure rfl rfl rfl rfl ?_
  refine RL.add rfl rfl rfl rfl rfl rfl ((by simp only [rng]; omega)) ?_
  refine RL.pure rfl rfl rfl rfl ?_
  refine RL.field rfl rfl rfl rfl fl92_1 rfl rfl ?_
  refine RL.store (i := 0) rfl rfl rfl ty3 rfl rfl hg1 rfl (hp1) rfl (by first | (simp [Value.cells, Value.oneCell']; done) | simp [Value.cells, Value.oneCell', putL]) (by first | exact Nat.le_of_ble_eq_true rfl | (simp; done) | (simp; omega) | omega) ?_
  rintro w2 hg2 hax2
  refine ⟨trivial, ?_⟩
  refine RL.done ?_
  refine CW.seq ?_
  refine CW.draws [(true, 0), (true, 1), (true, 2), (true, 3), (true, 4), (true, 5), (true, 6), (true, 7), (true, 8), (true, 9), (true, 10), (true, 11), (true, 12), (true, 13), (true, 14), (false, 15), (false, 16)] (fun w => Good w s1 (A1.put p (.cells #[.slice a1 bs.length c1, .int .i64 (st1.pos + u), v1] 92 (0, 0)) :: os)) mixed (by kernel_rfl) (by kernel_rfl) (by kernel_rfl) (by kernel_rfl) (hg2.drew) ?_
  refine RL.pure rfl rfl rfl rfl ?_
  refine RL.pure rfl rfl rfl rfl ?_
  refine RL.field rfl rfl rfl rfl fl92_0 rfl rfl ?_
  refine RL.loadT rfl rfl rfl rfl ty22 rfl ((Holds.of (put_same _ _ _))) (fun w h => h.1) rfl ?_
  refine RL.pure rfl rfl rfl rfl ?_
  refine RL.pure rfl rfl rfl rfl ?_
  refine RL.field rfl rfl rfl rfl fl92_1 rfl rfl ?_
  refine RL.loadT rfl rfl rfl rfl ty3 rfl ((Holds.of (put_same _ _ _))) (fun w h => h.1) rfl ?_
  refine RL.pure rfl rfl rfl rfl ?_
  refine RL.sub rfl rfl rfl rfl rfl rfl ((by simp only [rng]; omega)) ?_
  refine RL.pure rfl rfl rfl rfl ?_
  refine RL.pure rfl rfl rfl rfl ?_
  refine RL.field rfl rfl rfl rfl fl92_1 rfl rfl ?_
  refine RL.loadT rfl rfl rfl rfl ty3 rfl ((Holds.of (put_same _ _ _))) (fun w h => h.1) rfl ?_
  refine RL.part_ (st1.pos + u - u) (st1.pos + u) rfl rfl rfl rfl sl22 rfl (.inr ⟨_, _, rfl, rfl⟩) (.inr ⟨_, _, rfl, rfl⟩) (hI1) (by omega) (by omega) (f1) ?_
  rintro a' c' hI'
  refine RL.call rfl rfl rfl rfl rfl ca42 (CloneB_ct (r := s1) hg2.drew (.inl rfl) hI'.2.2 (by simp only [List.length_drop, List.length_take]; omega)) ?_
  rintro r s3 B w3 hle3 hg3 hax3 hB
  refine ⟨hg3.drop.less hle3, ?_⟩
  refine RL.pure rfl rfl rfl rfl ?_
  refine RL.done ?_
  have e : (bs.take (st1.pos + u).toNat).drop (st1.pos + u - u).toNat = (bs.drop st1.pos.toNat).take u.toNat := by
    rw [List.drop_take]
    have e1 : (st1.pos + u - u).toNat = st1.pos.toNat := by omega
    have e2 : (st1.pos + u).toNat - st1.pos.toNat = u.toNat := by omega
    rw [e1, e2]
  rw [e] at hB
  refine CW.ret (ret (vs := [_]) ⟨_, _, rfl, rfl, rfl⟩ (Post2.mk (hle1.trans hle3) hg3 (hax1.trans (hax2.trans ((Aux.drew _).trans hax3))) ?_))
  rw [hc]
  refine ⟨hB, ?_, ?_, a1, c1, v1, put_same _ _ _, hI1.up (RInt.up _) hle3, ?_⟩
  · show 0 ≤ st1.pos + u
    omega
  · exact f1
  · cases hs : st1.err with
    | some q => rw [hs] at herr; cases herr
    | none => rw [hs] at hv1; exact hv1

set_option maxRecDepth 100000 in
theorem RrBytes_ct {w : World} {s A : Res} {os : List Res} {p : Nat} {bs : List Int} {st : RS} {most : Int} (hg : Good w s (A :: os)) (hR : RrObj s A p bs st) (hm : rng .i64 most) (hl : bs.length ≤ 140737488355328) :
    Calls Tryd.prog 51 #[ptr p, .int .i64 most] w (Post2 w s os fun s' B A' r => BOwn s' B r (rdBytes bs st most).1 ∧ RrObj s' A' p bs (rdBytes bs st most).2) := by
  refine enter (l := [ptr p, .int .i64 most]) Tryd.func51 rfl Tryd.ntmps51 rfl ?_
  refine CW.seq (CW.plain ?_)
  refine RL.pure rfl rfl rfl rfl ?_
  refine RL.done ?_
  refine CW.seq (CW.plain ?_)
  refine RL.pure rfl rfl rfl rfl ?_
  refine RL.pure rfl rfl rfl rfl ?_
  refine RL.call rfl rfl rfl rfl rfl ca24 (RrCount_ct hg hR hm) ?_
  rintro r s1 A1 w1 hle1 hg1 hax1 ⟨rfl, hA1⟩
  refine ⟨trivial, ?_⟩
  refine RL.pure rfl rfl rfl rfl ?_
  refine RL.done ?_
  have hA1' := hA1
  obtain ⟨k0, k1, a1, c1, bad1, hp1, hI1, hv1⟩ := hA1'
  have hnil := RrObj.nil hv1
  have hc : rdBytes bs st most = if (rdCount bs st most).2.err.isNone = false then ([], (rdCount bs st most).2)
    else ((bs.drop (rdCount bs st most).2.pos.toNat).take (rdCount bs st most).1.toNat, ⟨(rdCount bs st most).2.pos + (rdCount bs st most).1, none⟩) := rfl
  have hfit := fun h => rdCount_fits (bs := bs) (st := st) (most := most) h (rdUint_pos bs st)
  generalize rdCount bs st most = us at hc hA1 k0 k1 hp1 hv1 hnil hfit ⊢
  obtain ⟨u, st1⟩ := us
  simp only at hc hA1 k0 k1 hp1 hv1 hnil hfit ⊢
  refine CW.seq (CW.seq (CW.plain ?_))
  refine RL.pure rfl rfl rfl rfl ?_
  refine RL.pure rfl rfl rfl rfl ?_
  refine RL.field rfl rfl rfl rfl fl65_2 rfl rfl ?_
  refine RL.load rfl rfl rfl rfl ty27 rfl (Holds.of hp1) (hg1.1) rfl ?_
  refine RL.pure rfl rfl rfl rfl ?_
  refine RL.done ?_
  refine CW.cond rfl (fun hb => ?_) (fun hb => ?_)
  · refine CW.seq (CW.plain ?_)
    refine RL.pure rfl rfl rfl rfl ?_
    refine RL.done ?_
    rw [if_pos (by rw [hnil] at hb; simpa using hb)] at hc
    exact CW.ret (ret (vs := [_]) ⟨_, _, rfl, rfl, rfl⟩ (Post2.mk hle1 hg1.nil hax1 (by rw [hc]; exact ⟨⟨none, 0, rfl, Own.nil _ _ _ _ _⟩, hA1⟩)))
  have herr : st1.err.isNone = true := by rw [hnil] at hb; simpa using hb
  obtain ⟨f0, f1⟩ := hfit herr
  rw [if_neg (by rw [herr]; simp)] at hc
  refine CW.skip (CW.seq (CW.plain ?_))
  refine RL.pure rfl rfl rfl rfl ?_
  refine RL.pure rfl rfl rfl rfl ?_
  refine RL.pure rfl rfl rfl rfl ?_
  refine RL.field rfl rfl rfl rfl fl65_1 rfl rfl ?_
  refine RL.load rfl rfl rfl rfl ty3 rfl (Holds.of hp1) (hg1.1) rfl ?_
  refine RL.pure rfl rfl rfl rfl ?_
  refine RL.add rfl rfl rfl rfl rfl rfl ((by simp only [rng]; omega)) ?_
  refine RL.pure rfl rfl rfl rfl ?_
  refine RL.field rfl rfl rfl rfl fl65_1 rfl rfl ?_
  refine RL.store (i := 0) rfl rfl rfl ty3 rfl rfl hg1 rfl (hp1) rfl (by first | (simp [Value.cells, Value.oneCell']; done) | simp [Value.cells, Value.oneCell', putL]) (by first | exact Nat.le_of_ble_eq_true rfl | (simp; done) | (simp; omega) | omega) ?_
  rintro w2 hg2 hax2
  refine ⟨trivial, ?_⟩
  refine RL.done ?_
  refine CW.seq ?_
  refine CW.draws [(true, 1), (true, 2), (true, 3), (true, 4), (true, 5), (true, 6), (true, 7), (true, 8), (true, 9), (true, 10), (true, 11), (true, 12), (true, 13), (true, 14), (true, 15), (false, 0), (false, 16), (false, 17)] (fun w => Good w s1 (A1.put p (.cells #[.slice a1 bs.length c1, .int .i64 (st1.pos + u), .int .i64 ((Option.map (fun x : Int × Int => x.1) st1.err).getD 0), .int .i64 bad1] 65 (0, 0)) :: os)) mixed (by kernel_rfl) (by kernel_rfl) (by kernel_rfl) (by kernel_rfl) (hg2.drew) ?_
  refine RL.pure rfl rfl rfl rfl ?_
  refine RL.pure rfl rfl rfl rfl ?_
  refine RL.field rfl rfl rfl rfl fl65_0 rfl rfl ?_
  refine RL.loadT rfl rfl rfl rfl ty22 rfl ((Holds.of (put_same _ _ _))) (fun w h => h.1) rfl ?_
  refine RL.pure rfl rfl rfl rfl ?_
  refine RL.pure rfl rfl rfl rfl ?_
  refine RL.field rfl rfl rfl rfl fl65_1 rfl rfl ?_
  refine RL.loadT rfl rfl rfl rfl ty3 rfl ((Holds.of (put_same _ _ _))) (fun w h => h.1) rfl ?_
  refine RL.pure rfl rfl rfl rfl ?_
  refine RL.sub rfl rfl rfl rfl rfl rfl ((by simp only [rng]; omega)) ?_
  refine RL.pure rfl rfl rfl rfl ?_
  refine RL.pure rfl rfl rfl rfl ?_
  refine RL.field rfl rfl rfl rfl fl65_1 rfl rfl ?_
  refine RL.loadT rfl rfl rfl rfl ty3 rfl ((Holds.of (put_same _ _ _))) (fun w h => h.1) rfl ?_
  refine RL.part_ (st1.pos + u - u) (st1.pos + u) rfl rfl rfl rfl sl22 rfl (.inr ⟨_, _, rfl, rfl⟩) (.inr ⟨_, _, rfl, rfl⟩) (hI1) (by omega) (by omega) (f1) ?_
  rintro a' c' hI'
  refine RL.buildSlice rfl rfl rfl rfl sl22 ze5 rfl rfl rfl rfl hg2.drew ?_
  rintro b w3 hg3 hax3
  refine ⟨hg3.drop, ?_⟩
  obtain ⟨news, hsrc, hch⟩ := Src.imm sl22 hI' hg3.sh
  have hown0 : Own (RInt .u8) 1 5 s1 (Res.one b (.cells #[] 5)) (some ⟨b, 0, none⟩) 0 [] := .inr ⟨b, #[], rfl, if_pos rfl, Nat.le_refl _, Nat.zero_le _, rfl, rfl⟩
  refine RL.append (i := 0) (ys := _) rfl rfl rfl rfl sl22 ze5 rfl (by first | exact RInt.one _ | exact RStr.one | exact RBool.one | assumption) rfl rfl hg3 rfl hown0 (hsrc) (hch) ((by simp only [List.length_drop, List.length_take, List.length_nil]; omega)) (by omega) ?_
  rintro a4 c4 A4 w4 hg4 hown4 hax4 hkeep
  refine ⟨hg4.drop, ?_⟩
  refine RL.pure rfl rfl rfl rfl ?_
  refine RL.done ?_
  have e : (bs.take (st1.pos + u).toNat).drop (st1.pos + u - u).toNat = (bs.drop st1.pos.toNat).take u.toNat := by
    rw [List.drop_take]
    have e1 : (st1.pos + u - u).toNat = st1.pos.toNat := by omega
    have e2 : (st1.pos + u).toNat - st1.pos.toNat = u.toNat := by omega
    rw [e1, e2]
  have hn : st1.err = none := by
    cases hs : st1.err with
    | some q => rw [hs] at herr; cases herr
    | none => rfl
  rw [List.nil_append, e] at hown4
  refine CW.ret (ret (vs := [_]) ⟨_, _, rfl, rfl, rfl⟩ (Post2.mk hle1 hg4 (hax1.trans (hax2.trans ((Aux.drew _).trans (hax3.trans hax4)))) ?_))
  rw [hc]
  refine ⟨⟨a4, c4, by rw [List.nil_append, e]; rfl, hown4⟩, ?_, f1, a1, c1, bad1, by rw [hn]; exact put_same _ _ _, hI1, fun e k h => (by cases h), fun _ => hv1.2 hn⟩
  show 0 ≤ st1.pos + u
  omega
end Go.Lw
