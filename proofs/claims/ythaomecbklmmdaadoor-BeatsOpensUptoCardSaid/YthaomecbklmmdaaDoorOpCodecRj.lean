/-
  Lists of numbers are read by the document's Reader.
-/
import Derived.Test.YthaomecbklmmdaaDoorOpCodecRi
namespace Go.Lw
open Go.Proofs
attribute [local irreducible] RL RA

set_option maxRecDepth 100000 in
theorem RrInts_ct {w : World} {s A : Res} {os : List Res} {p : Nat} {bs : List Int} {st : RS} (hg : Good w s (A :: os)) (hR : RrObj s A p bs st) :
    Calls Tryd.prog 70 #[ptr p] w (Post w s os fun s' A' r => IOut s' r (rdInts bs st).1 ∧ RrObj s' A' p bs (rdInts bs st).2) := by
  refine enter (l := [ptr p]) Tryd.func70 rfl Tryd.ntmps70 rfl ?_
  refine CW.seq (CW.plain ?_)
  refine RL.pure rfl rfl rfl rfl ?_
  refine RL.done ?_
  refine CW.seq (CW.plain ?_)
  refine RL.pure rfl rfl rfl rfl ?_
  refine RL.call rfl rfl rfl rfl rfl ca24 (RrCount_ct hg hR (by simp only [rng]; omega)) ?_
  rintro r s1 A1 w1 hle1 hg1 hax1 ⟨rfl, hA1⟩
  refine ⟨trivial, ?_⟩
  refine RL.pure rfl rfl rfl rfl ?_
  refine RL.done ?_
  refine CW.seq (CW.plain ?_)
  refine RL.pure rfl rfl rfl rfl ?_
  refine RL.done ?_
  obtain ⟨hn0, hn7⟩ := rdCount_rng bs st 7 (by omega)
  have hfin : rdInts bs st = (if (rdIs bs (rdCount bs st 7).1.toNat (rdCount bs st 7).2 []).2.err.isNone then (rdIs bs (rdCount bs st 7).1.toNat (rdCount bs st 7).2 []).1 else [], (rdIs bs (rdCount bs st 7).1.toNat (rdCount bs st 7).2 []).2) := rfl
  generalize rdCount bs st 7 = us at hfin hA1 hn0 hn7 ⊢
  obtain ⟨u, st1⟩ := us
  simp only at hfin hA1 hn0 hn7 ⊢
  obtain ⟨n0, rfl⟩ := Int.eq_ofNat_of_zero_le hn0
  rw [Int.toNat_natCast] at hfin
  refine CW.seq (CW.seq (CW.plain ?_))
  refine RL.pure rfl rfl rfl rfl ?_
  refine RL.done ?_
  refine CW.block (CW.loop (σ := Nat) (fun n E w' => ∃ s' A' C a c st' xs, ∃ i : Nat, E = [(0, ptr p), (3, .int .i64 (n0 : Int)), (4, .slice a xs.length c), (5, .int .i64 (i : Int))] ∧ Good w' s' (A' :: C :: os) ∧ Le s s' ∧ Aux w w' ∧ RrObj s' A' p bs st' ∧ Own (RInt .i64) 1 3 s' C a c xs ∧ rdIs bs n st' xs = rdIs bs n0 st1 [] ∧ xs.length = i ∧ i + n = n0)
    (fun n => n) n0 [(0, ptr p), (3, .int .i64 (n0 : Int)), (4, nilSl), (5, .int .i64 0)] ⟨rfl, rfl, rfl, rfl, trivial⟩
    ⟨s1, A1, Res.nil, none, 0, st1, [], 0, rfl, (hg1.nil).perm (List.Perm.swap _ _ _), hle1, hax1, hA1, Own.nil _ _ _ _ _, rfl, rfl, by omega⟩ ?_)
  rintro n E w2 ⟨s2, A2, C, a, c, st2, xs, i, rfl, hg2, hle2, hax2, hA2, hown, hrd, hlen, hin⟩
  have hA2' := hA2
  obtain ⟨k0, k1, a2, c2, bad2, hp2, hI2, hv2⟩ := hA2'
  have hnil : ((st2.err.map (·.1)).getD 0 == 0) = st2.err.isNone := by
    cases hs : st2.err with
    | none => rfl
    | some q => obtain ⟨h2, _⟩ := hv2.1 q.1 q.2 hs; simp [h2]
  refine CW.seq ?_
  refine CW.meet (fun E w' => w' = w2 ∧ E = [(0, ptr p), (3, .int .i64 (n0 : Int)), (4, .slice a xs.length c), (5, .int .i64 (i : Int)), (17, .bool (decide (0 < n) && st2.err.isNone))]) (CW.plain ?_) ?_
  · refine RL.pure rfl rfl rfl rfl ?_
    refine RL.pure rfl rfl rfl rfl ?_
    refine RL.pure rfl rfl rfl rfl ?_
    refine RL.pure rfl rfl rfl rfl ?_
    refine RL.part 11 rfl (fun hb => ?_) (fun hb => ?_)
    · refine RL.pure rfl rfl rfl rfl ?_
      refine RL.pure rfl rfl rfl rfl ?_
      refine RL.field rfl rfl rfl rfl fl65_2 rfl rfl ?_
      refine RL.load rfl rfl rfl rfl ty27 rfl (Holds.of hp2) (hg2.1) rfl ?_
      refine RL.pure rfl rfl rfl rfl ?_
      refine RL.pure rfl rfl rfl rfl ?_
      refine RL.done ?_
      have hn : 0 < n := by have := of_decide_eq_true hb; omega
      exact fun ac ha => ⟨[(0, ptr p), (3, .int .i64 (n0 : Int)), (4, .slice a xs.length c), (5, .int .i64 (i : Int)), (17, .bool (decide (0 < n) && st2.err.isNone))], ha.sub ⟨rfl, rfl, rfl, rfl, by rw [← hnil, decide_eq_true hn]; rfl, trivial⟩, rfl, rfl⟩
    · refine RL.pass rfl rfl rfl ?_
      refine RL.pass rfl rfl rfl ?_
      refine RL.pass rfl rfl rfl ?_
      refine RL.pass rfl rfl rfl ?_
      refine RL.pass rfl rfl rfl ?_
      refine RL.pure rfl rfl rfl rfl ?_
      refine RL.done ?_
      have hn : ¬ 0 < n := by have := of_decide_eq_false hb; omega
      exact fun ac ha => ⟨[(0, ptr p), (3, .int .i64 (n0 : Int)), (4, .slice a xs.length c), (5, .int .i64 (i : Int)), (17, .bool (decide (0 < n) && st2.err.isNone))], ha.sub ⟨rfl, rfl, rfl, rfl, by rw [decide_eq_false hn]; rfl, trivial⟩, rfl, rfl⟩
  rintro E w' ⟨rfl, rfl⟩
  refine CW.cond rfl (fun hb => ?_) (fun hb => ?_)
  · simp only [Bool.and_eq_true, decide_eq_true_eq] at hb
    obtain ⟨hn, herr⟩ := hb
    refine CW.skip ?_
    cases n with
    | zero => omega
    | succ n =>
      simp only [rdIs, herr, if_true] at hrd
      refine CW.seq (CW.block (CW.plain ?_))
      refine RL.pure rfl rfl rfl rfl ?_
      refine RL.pure rfl rfl rfl rfl ?_
      refine RL.call rfl rfl rfl rfl rfl ca48 (RrInt_ct hg2 hA2) ?_
      rintro r s3 A3 w3 hle3 hg3 hax3 ⟨rfl, hr3, hA3⟩
      refine ⟨trivial, ?_⟩
      refine RL.buildSlice rfl rfl rfl rfl sl38 ze3 rfl rfl rfl rfl hg3 ?_
      rintro b w4 hg4 hax4
      refine ⟨trivial, ?_⟩
      refine RL.append (i := 2) (ys := [(rdInt bs st2).1]) rfl rfl rfl rfl sl38 ze3 rfl (by first | exact RInt.one _ | exact RStr.one | exact RBool.one | assumption) rfl rfl hg4 rfl (hown.up (RInt.up _) hle3) ((Src.slice sl38 rfl (.inr ⟨_, rfl, Holds.one b _ 3⟩) hg4.1)) (Chunks.single rfl ⟨rfl, hr3⟩) ((by simp; omega)) (by omega) ?_
      rintro a5 c5 C5 w5 hg5 hown5 hax5 hk5
      refine ⟨trivial, ?_⟩
      refine RL.pure rfl rfl rfl rfl ?_
      refine RL.done ?_
      refine CW.plain ?_
      refine RL.pure rfl rfl rfl rfl ?_
      refine RL.add rfl rfl rfl rfl rfl rfl ((by simp only [rng]; omega)) ?_
      refine RL.pure rfl rfl rfl rfl ?_
      refine RL.done ?_
      refine fun ac ha => ⟨n, [(0, ptr p), (3, .int .i64 (n0 : Int)), (4, .slice a5 (xs ++ [(rdInt bs st2).1]).length c5), (5, .int .i64 ((i : Int) + 1))], ha.sub ⟨rfl, rfl, rfl, rfl, trivial⟩, ⟨s3, A3, C5, a5, c5, _, _, i + 1, rfl, hg5.drop, hle2.trans hle3, hax2.trans (hax3.trans (hax4.trans hax5)), hA3, hown5, hrd, by simp; omega, by omega⟩, Nat.lt_succ_self n⟩
  · refine CW.exit (CW.seq (CW.seq (CW.plain ?_)))
    have hrd' : rdIs bs n st2 xs = (xs, st2) := by
      cases n with
      | zero => rfl
      | succ n =>
        have : st2.err.isNone = false := by simpa using hb
        simp [rdIs, this]
    rw [← hrd, hrd'] at hfin
    have hnn := RrObj.nil hv2
    refine RL.pure rfl rfl rfl rfl ?_
    refine RL.pure rfl rfl rfl rfl ?_
    refine RL.field rfl rfl rfl rfl fl65_2 rfl rfl ?_
    refine RL.load rfl rfl rfl rfl ty27 rfl (Holds.of hp2) (hg2.1) rfl ?_
    refine RL.pure rfl rfl rfl rfl ?_
    refine RL.done ?_
    obtain ⟨s4, hg4, hle4, hC4⟩ := hg2.shareNext
    refine CW.cond rfl (fun hb' => ?_) (fun hb' => ?_)
    · refine CW.seq (CW.plain ?_)
      refine RL.pure rfl rfl rfl rfl ?_
      refine RL.done ?_
      have herr : st2.err.isNone = false := by rw [hnn] at hb'; simpa using hb'
      refine CW.ret (ret (vs := [_]) ⟨_, _, rfl, rfl, rfl⟩ (Post.mk (hle2.trans hle4) hg4 hax2 ?_))
      rw [hfin, herr]
      exact ⟨⟨none, 0, rfl, Imm.nil _ _ _ (Nat.zero_le _)⟩, k0, k1, a2, c2, bad2, hp2, hI2.up (RInt.up _) hle4, hv2⟩
    · refine CW.skip (CW.seq (CW.plain ?_))
      refine RL.pure rfl rfl rfl rfl ?_
      refine RL.pure rfl rfl rfl rfl ?_
      refine RL.done ?_
      have herr : st2.err.isNone = true := by rw [hnn] at hb'; simpa using hb'
      refine CW.ret (ret (vs := [_]) ⟨_, _, rfl, rfl, rfl⟩ (Post.mk (hle2.trans hle4) hg4 hax2 ?_))
      rw [hfin, herr]
      exact ⟨⟨a, c, rfl, hown.imm (RInt.up _) hle4 hC4⟩, k0, k1, a2, c2, bad2, hp2, hI2.up (RInt.up _) hle4, hv2⟩
end Go.Lw
