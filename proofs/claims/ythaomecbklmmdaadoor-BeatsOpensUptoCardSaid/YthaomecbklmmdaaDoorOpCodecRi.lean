/-
  Lists of numbers are read.
-/
import Derived.Test.YthaomecbklmmdaaDoorOpCodecRn
namespace Go.Lw
open Go.Proofs
attribute [local irreducible] RL RA

def rdIs (bs : List Int) : Nat → RS → List Int → List Int × RS
  | 0, st, xs => (xs, st)
  | n + 1, st, xs => if st.err.isNone then rdIs bs n (rdInt bs st).2 (xs ++ [(rdInt bs st).1]) else (xs, st)
def rdInts (bs : List Int) (st : RS) : List Int × RS :=
  (if (rdIs bs (rdCount bs st 7).1.toNat (rdCount bs st 7).2 []).2.err.isNone then (rdIs bs (rdCount bs st 7).1.toNat (rdCount bs st 7).2 []).1 else [], (rdIs bs (rdCount bs st 7).1.toNat (rdCount bs st 7).2 []).2)
theorem rdCount_rng (bs : List Int) (st : RS) (most : Int) (hm : 0 ≤ most) : 0 ≤ (rdCount bs st most).1 ∧ (rdCount bs st most).1 ≤ most := by
  have := rdUint_pos bs st
  unfold rdCount
  split
  · exact ⟨Int.le_refl _, hm⟩
  · split
    · exact ⟨Int.le_refl _, hm⟩
    · rename_i h
      split
      · exact ⟨Int.le_refl _, hm⟩
      · exact ⟨this, by show (rdUint bs st).1 ≤ most; omega⟩

set_option maxRecDepth 100000 in
theorem wholeInts_ct {w : World} {s A : Res} {os : List Res} {p : Nat} {bs : List Int} {st : RS} {v : Value} (hg : Good w s (A :: os)) (hR : RdObj s A p bs st) :
    Calls Tryd.prog 75 #[ptr p, v] w (PostV w s (A :: os) fun r => r = if st.err.isNone then v else nilSl) := by
  obtain ⟨h0, h1, a, c, ve, hp, hI, hv⟩ := hR
  have hnil := hv.nil
  refine enter (l := [ptr p, v]) Tryd.func75 rfl Tryd.ntmps75 rfl ?_
  refine CW.seq (CW.plain ?_)
  refine RL.pure rfl rfl rfl rfl ?_
  refine RL.done ?_
  refine CW.seq (CW.seq (CW.plain ?_))
  refine RL.pure rfl rfl rfl rfl ?_
  refine RL.pure rfl rfl rfl rfl ?_
  refine RL.field rfl rfl rfl rfl fl92_2 rfl rfl ?_
  refine RL.load rfl rfl rfl rfl ty90 rfl (Holds.of hp) (hg.1) rfl ?_
  refine RL.ifNe rfl rfl rfl rfl Tryd.underlying90 rfl (hv.isI) ?_
  refine RL.done ?_
  refine CW.cond rfl (fun hb => ?_) (fun hb => ?_)
  · refine CW.seq (CW.plain ?_)
    refine RL.pure rfl rfl rfl rfl ?_
    refine RL.done ?_
    refine CW.seq (CW.plain ?_)
    refine RL.pure rfl rfl rfl rfl ?_
    refine RL.pure rfl rfl rfl rfl ?_
    refine RL.done ?_
    have herr : st.err.isNone = false := by rw [hnil] at hb; simpa using hb
    exact CW.ret (ret (vs := [_]) ⟨_, _, rfl, rfl, rfl⟩ (PostV.mk hg (Aux.refl _) (by rw [herr]; rfl)))
  · refine CW.skip (CW.seq (CW.plain ?_))
    refine RL.pure rfl rfl rfl rfl ?_
    refine RL.pure rfl rfl rfl rfl ?_
    refine RL.done ?_
    have herr : st.err.isNone = true := by rw [hnil] at hb; simpa using hb
    exact CW.ret (ret (vs := [_]) ⟨_, _, rfl, rfl, rfl⟩ (PostV.mk hg (Aux.refl _) (by rw [herr]; rfl)))

/-- A list that was read. -/
def IOut (s : Res) (r : Value) (xs : List Int) : Prop := ∃ a c, r = .slice a xs.length c ∧ Imm (RInt .i64) 1 s a c xs

set_option maxRecDepth 100000 in
theorem RdInts_ct {w : World} {s A : Res} {os : List Res} {p : Nat} {bs : List Int} {st : RS} (hg : Good w s (A :: os)) (hR : RdObj s A p bs st) :
    Calls Tryd.prog 64 #[ptr p] w (Post w s os fun s' A' r => IOut s' r (rdInts bs st).1 ∧ RdObj s' A' p bs (rdInts bs st).2) := by
  refine enter (l := [ptr p]) Tryd.func64 rfl Tryd.ntmps64 rfl ?_
  refine CW.seq (CW.plain ?_)
  refine RL.pure rfl rfl rfl rfl ?_
  refine RL.done ?_
  refine CW.seq (CW.plain ?_)
  refine RL.pure rfl rfl rfl rfl ?_
  refine RL.call rfl rfl rfl rfl rfl ca19 (RdCount_ct hg hR (by simp only [rng]; omega)) ?_
  rintro r s1 A1 w1 hle1 hg1 hax1 ⟨rfl, hA1⟩
  refine ⟨trivial, ?_⟩
  refine RL.pure rfl rfl rfl rfl ?_
  refine RL.done ?_
  refine CW.seq (CW.plain ?_)
  refine RL.pure rfl rfl rfl rfl ?_
  refine RL.done ?_
  obtain ⟨hn0, hn7⟩ := rdCount_rng bs st 7 (by omega)
  have hfin : rdInts bs st = (if (rdIs bs (rdCount bs st 7).1.toNat (rdCount bs st 7).2 []).2.err.isNone then (rdIs bs (rdCount bs st 7).1.toNat (rdCount bs st 7).2 []).1 else [], (rdIs bs (rdCount bs st 7).1.toNat (rdCount bs st 7).2 []).2) := rfl
  generalize rdCount bs st 7 = us at hfin hA1 hn0 hn7 ⊢
  obtain ⟨u, st1⟩ := us
  simp only at hfin hA1 hn0 hn7 ⊢
  obtain ⟨n0, rfl⟩ := Int.eq_ofNat_of_zero_le hn0
  rw [Int.toNat_natCast] at hfin
  refine CW.seq (CW.block (CW.loop (σ := Nat) (fun n E w' => ∃ s' A' C a c st' xs, E = [(0, ptr p), (3, .int .i64 (n : Int)), (4, .slice a xs.length c)] ∧ Good w' s' (A' :: C :: os) ∧ Le s s' ∧ Aux w w' ∧ RdObj s' A' p bs st' ∧ Own (RInt .i64) 1 3 s' C a c xs ∧ rdIs bs n st' xs = rdIs bs n0 st1 [] ∧ xs.length + n ≤ 7)
    (fun n => n) n0 [(0, ptr p), (3, .int .i64 (n0 : Int)), (4, nilSl)] ⟨rfl, rfl, rfl, trivial⟩
    ⟨s1, A1, Res.nil, none, 0, st1, [], rfl, (hg1.nil).perm (List.Perm.swap _ _ _), hle1, hax1, hA1, Own.nil _ _ _ _ _, rfl, by simp; omega⟩ ?_))
  rintro n E w2 ⟨s2, A2, C, a, c, st2, xs, rfl, hg2, hle2, hax2, hA2, hown, hrd, hlen⟩
  have hA2' := hA2
  obtain ⟨k0, k1, a2, c2, v2, hp2, hI2, hv2⟩ := hA2'
  have hnil := hv2.nil
  refine CW.seq ?_
  refine CW.meet (fun E w' => w' = w2 ∧ E = [(0, ptr p), (3, .int .i64 (n : Int)), (4, .slice a xs.length c), (15, .bool (decide (0 < n) && st2.err.isNone))]) (CW.plain ?_) ?_
  · refine RL.pure rfl rfl rfl rfl ?_
    refine RL.pure rfl rfl rfl rfl ?_
    refine RL.pure rfl rfl rfl rfl ?_
    refine RL.part 9 rfl (fun hb => ?_) (fun hb => ?_)
    · refine RL.pure rfl rfl rfl rfl ?_
      refine RL.pure rfl rfl rfl rfl ?_
      refine RL.field rfl rfl rfl rfl fl92_2 rfl rfl ?_
      refine RL.load rfl rfl rfl rfl ty90 rfl (Holds.of hp2) (hg2.1) rfl ?_
      refine RL.ifEq rfl rfl rfl rfl Tryd.underlying90 rfl (hv2.isI) ?_
      refine RL.pure rfl rfl rfl rfl ?_
      refine RL.done ?_
      have hn : 0 < n := by simpa using hb
      exact fun ac ha => ⟨[(0, ptr p), (3, .int .i64 (n : Int)), (4, .slice a xs.length c), (15, .bool (decide (0 < n) && st2.err.isNone))], ha.sub ⟨rfl, rfl, rfl, by rw [← hnil, decide_eq_true hn]; rfl, trivial⟩, rfl, rfl⟩
    · refine RL.pass rfl rfl rfl ?_
      refine RL.pass rfl rfl rfl ?_
      refine RL.pass rfl rfl rfl ?_
      refine RL.pass rfl rfl rfl ?_
      refine RL.pass rfl rfl rfl ?_
      refine RL.pure rfl rfl rfl rfl ?_
      refine RL.done ?_
      have hn : ¬ 0 < n := by simpa using hb
      exact fun ac ha => ⟨[(0, ptr p), (3, .int .i64 (n : Int)), (4, .slice a xs.length c), (15, .bool (decide (0 < n) && st2.err.isNone))], ha.sub ⟨rfl, rfl, rfl, by rw [decide_eq_false hn]; rfl, trivial⟩, rfl, rfl⟩
  rintro E w' ⟨rfl, rfl⟩
  refine CW.cond rfl (fun hb => ?_) (fun hb => ?_)
  · simp only [Bool.and_eq_true, decide_eq_true_eq] at hb
    obtain ⟨hn, herr⟩ := hb
    refine CW.skip ?_
    cases n with
    | zero => omega
    | succ n =>
      simp only [rdIs, herr, if_true] at hrd
      refine CW.seq (CW.block (CW.plain ?_))
      refine RL.pure rfl rfl rfl rfl ?_
      refine RL.pure rfl rfl rfl rfl ?_
      refine RL.call rfl rfl rfl rfl rfl ca37 (RdInt_ct hg2 hA2) ?_
      rintro r s3 A3 w3 hle3 hg3 hax3 ⟨rfl, hr3, hA3⟩
      refine ⟨trivial, ?_⟩
      refine RL.buildSlice rfl rfl rfl rfl sl38 ze3 rfl rfl rfl rfl hg3 ?_
      rintro b w4 hg4 hax4
      refine ⟨trivial, ?_⟩
      refine RL.append (i := 2) (ys := [(rdInt bs st2).1]) rfl rfl rfl rfl sl38 ze3 rfl (by first | exact RInt.one _ | exact RStr.one | exact RBool.one | assumption) rfl rfl hg4 rfl (hown.up (RInt.up _) hle3) ((Src.slice sl38 rfl (.inr ⟨_, rfl, Holds.one b _ 3⟩) hg4.1)) (Chunks.single rfl ⟨rfl, hr3⟩) ((by simp; omega)) (by omega) ?_
      rintro a5 c5 C5 w5 hg5 hown5 hax5 hk5
      refine ⟨trivial, ?_⟩
      refine RL.pure rfl rfl rfl rfl ?_
      refine RL.done ?_
      refine CW.plain ?_
      refine RL.pure rfl rfl rfl rfl ?_
      refine RL.as_ rfl rfl rfl rfl (.int .i64 (n : Int)) (congrArg (Value.int .i64) (by rw [wrap_i64 _ (by simp only [rng]; omega)]; omega)) ?_
      refine RL.pure rfl rfl rfl rfl ?_
      refine RL.done ?_
      refine fun ac ha => ⟨n, [(0, ptr p), (3, .int .i64 (n : Int)), (4, .slice a5 (xs ++ [(rdInt bs st2).1]).length c5)], ha.sub ⟨rfl, rfl, rfl, trivial⟩, ⟨s3, A3, C5, a5, c5, _, _, rfl, hg5.drop, hle2.trans hle3, hax2.trans (hax3.trans (hax4.trans hax5)), hA3, hown5, hrd, by simp; omega⟩, Nat.lt_succ_self n⟩
  · refine CW.exit (CW.seq (CW.plain ?_))
    have hrd' : rdIs bs n st2 xs = (xs, st2) := by
      cases n with
      | zero => rfl
      | succ n =>
        have : st2.err.isNone = false := by simpa using hb
        simp [rdIs, this]
    rw [← hrd, hrd'] at hfin
    refine RL.pure rfl rfl rfl rfl ?_
    refine RL.pure rfl rfl rfl rfl ?_
    refine RL.callV rfl rfl rfl rfl rfl ca75 (wholeInts_ct hg2 hA2) ?_
    rintro r w3 hg3 hax3 rfl
    refine ⟨trivial, ?_⟩
    refine RL.pure rfl rfl rfl rfl ?_
    refine RL.done ?_
    obtain ⟨s4, hg4, hle4, hC4⟩ := hg3.shareNext
    refine CW.ret (ret (vs := [_]) ⟨_, _, rfl, rfl, rfl⟩ (Post.mk (hle2.trans hle4) hg4 (hax2.trans hax3) ?_))
    rw [hfin]
    cases he : st2.err.isNone with
    | true => exact ⟨⟨a, c, rfl, hown.imm (RInt.up _) hle4 hC4⟩, k0, k1, a2, c2, v2, hp2, hI2.up (RInt.up _) hle4, hv2.up hle4⟩
    | false => exact ⟨⟨none, 0, rfl, Imm.nil _ _ _ (Nat.zero_le _)⟩, k0, k1, a2, c2, v2, hp2, hI2.up (RInt.up _) hle4, hv2.up hle4⟩
end Go.Lw
