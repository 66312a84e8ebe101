/-
  Configurations are read by the document's Reader.
-/
import Derived.Test.YthaomecbklmmdaaDoorOpCodecRk
namespace Go.Lw
open Go.Proofs
attribute [local irreducible] RL RA

set_option maxRecDepth 100000 in
theorem RrConf_ct {w : World} {s A : Res} {os : List Res} {p : Nat} {bs : List Int} {st : RS} (hg : Good w s (A :: os)) (hR : RrObj s A p bs st) :
    Calls Tryd.prog 50 #[ptr p] w (Post w s os fun s' A' r => COut s' r (rdConf bs st).1 ∧ RrObj s' A' p bs (rdConf bs st).2) := by
  refine enter (l := [ptr p]) Tryd.func50 rfl Tryd.ntmps50 rfl ?_
  refine CW.seq (CW.plain ?_)
  refine RL.alloc rfl rfl rfl rfl ze40 hg ?_
  rintro b2 w1 hg1' hax1
  refine ⟨trivial, ?_⟩
  refine RL.done ?_
  have hg1 := hg1'.swap
  refine CW.seq (CW.plain ?_)
  refine RL.pure rfl rfl rfl rfl ?_
  refine RL.call rfl rfl rfl rfl rfl ca70 (RrInts_ct hg1 hR) ?_
  rintro r2 s2 A2 w2 hle2 hg2 hax2 ⟨⟨a1, c1, rfl, hI1⟩, hA2⟩
  refine ⟨trivial, ?_⟩
  refine RL.build rfl rfl rfl rfl ze40 pl40 rfl rfl ?_
  refine RL.alloc rfl rfl rfl rfl ze40 hg2 ?_
  rintro b3 w3 hg3 hax3
  refine ⟨trivial, ?_⟩
  refine RL.store (i := 0) (j := 0) rfl rfl rfl ty40 rfl rfl hg3 rfl (if_pos rfl) rfl (by first | (simp [Value.cells, Value.oneCell']; done) | simp [Value.cells, Value.oneCell', putL]) (by first | exact Nat.le_of_ble_eq_true rfl | (simp; done) | (simp; omega) | omega) ?_
  rintro w4 hg4' hax4
  refine ⟨trivial, ?_⟩
  refine RL.done ?_
  have hg4 := Good.swap hg4'
  refine CW.seq (CW.plain ?_)
  refine RL.pure rfl rfl rfl rfl ?_
  refine RL.call rfl rfl rfl rfl rfl ca70 (RrInts_ct hg4 hA2) ?_
  rintro r5 s5 A5 w5 hle5 hg5 hax5 ⟨⟨a2, c2, rfl, hI2⟩, hA5⟩
  refine ⟨trivial, ?_⟩
  refine RL.field rfl rfl rfl rfl fl40_1 rfl rfl ?_
  refine RL.store (i := 1) rfl rfl rfl ty38 rfl rfl hg5 rfl (put_same _ _ _) rfl (by first | (simp [Value.cells, Value.oneCell']; done) | simp [Value.cells, Value.oneCell', putL]) (by first | exact Nat.le_of_ble_eq_true rfl | (simp; done) | (simp; omega) | omega) ?_
  rintro w6 hg6 hax6
  refine ⟨trivial, ?_⟩
  refine RL.done ?_
  have hA5' := hA5
  obtain ⟨k0, k1, a5, c5, bad5, hp5, hI5, hv5⟩ := hA5'
  have hnil := RrObj.nil hv5
  refine CW.seq (CW.seq (CW.plain ?_))
  refine RL.pure rfl rfl rfl rfl ?_
  refine RL.pure rfl rfl rfl rfl ?_
  refine RL.field rfl rfl rfl rfl fl65_2 rfl rfl ?_
  refine RL.load rfl rfl rfl rfl ty27 rfl (Holds.of hp5) (hg6.1) rfl ?_
  refine RL.pure rfl rfl rfl rfl ?_
  refine RL.done ?_
  refine CW.cond rfl (fun hb => ?_) (fun hb => ?_)
  · have herr : (rdInts bs (rdInts bs st).2).2.err.isNone = false := by rw [hnil] at hb; simpa using hb
    refine CW.seq (CW.plain ?_)
    refine RL.build rfl rfl rfl rfl ze40 pl40 rfl rfl ?_
    refine RL.store (i := 2) (j := 0) rfl rfl rfl ty40 rfl rfl hg6 rfl (if_pos rfl) rfl (by first | (simp [Value.cells, Value.oneCell']; done) | simp [Value.cells, Value.oneCell', putL]) (by first | exact Nat.le_of_ble_eq_true rfl | (simp; done) | (simp; omega) | omega) ?_
    rintro w7 hg7 hax7
    refine ⟨trivial, ?_⟩
    refine RL.done ?_
    refine CW.ret (ret (vs := [_]) ⟨_, _, _, rfl, rfl, loadVar_agg ty40 (put_same _ _ _) hg7.drop.drop.1 rfl, rfl⟩ (Post.mk (hle2.trans hle5) hg7.dropNext.dropNext (hax1.trans (hax2.trans (hax3.trans (hax4.trans (hax5.trans (hax6.trans hax7)))))) ⟨?_, hA5⟩))
    simp only [rdConf, herr, Bool.false_eq_true, if_false]
    exact ⟨_, rfl, RConf.zero _⟩
  · have herr : (rdInts bs (rdInts bs st).2).2.err.isNone = true := by rw [hnil] at hb; simpa using hb
    refine CW.skip (CW.seq (CW.plain ?_))
    refine RL.loads (j := 0) (us := [.slice a1 (rdInts bs st).1.length c1, .slice a2 (rdInts bs (rdInts bs st).2).1.length c2]) rfl rfl rfl rfl ty40 rfl ((Holds.of (put_same _ _ _))) (hg6.drop.1) rfl rfl ?_
    refine RL.store (i := 2) (j := 0) rfl rfl rfl ty40 rfl rfl hg6 rfl (if_pos rfl) rfl (by first | (simp [Value.cells, Value.oneCell']; done) | simp [Value.cells, Value.oneCell', putL]) (by first | exact Nat.le_of_ble_eq_true rfl | (simp; done) | (simp; omega) | omega) ?_
    rintro w7 hg7 hax7
    refine ⟨trivial, ?_⟩
    refine RL.done ?_
    refine CW.ret (ret (vs := [_]) ⟨_, _, _, rfl, rfl, loadVar_agg ty40 (put_same _ _ _) hg7.drop.drop.1 rfl, rfl⟩ (Post.mk (hle2.trans hle5) hg7.dropNext.dropNext (hax1.trans (hax2.trans (hax3.trans (hax4.trans (hax5.trans (hax6.trans hax7)))))) ⟨?_, hA5⟩))
    simp only [rdConf, herr, if_true]
    exact ⟨_, rfl, a1, c1, a2, c2, rfl, hI1.up (RInt.up _) hle5, hI2⟩
end Go.Lw
