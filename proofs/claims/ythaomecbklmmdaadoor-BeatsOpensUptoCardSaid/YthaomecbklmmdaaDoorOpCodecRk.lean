/-
  Configurations are read.
-/
import Derived.Test.YthaomecbklmmdaaDoorOpCodecRj
import Derived.Test.YthaomecbklmmdaaDoorOpA1
namespace Go.Lw
open Go.Proofs
attribute [local irreducible] RL RA

set_option maxRecDepth 100000 in
theorem wholeConf_ct {w : World} {s A : Res} {os : List Res} {p : Nat} {bs : List Int} {st : RS} {a1 a2 : Option Addr} {n1 c1 n2 c2 : Nat} (hg : Good w s (A :: os)) (hR : RdObj s A p bs st) :
    Calls Tryd.prog 65 #[ptr p, .agg #[.slice a1 n1 c1, .slice a2 n2 c2]] w (PostV w s (A :: os) fun r => r = if st.err.isNone then .agg #[.slice a1 n1 c1, .slice a2 n2 c2] else .agg #[nilSl, nilSl]) := by
  obtain ⟨h0, h1, a, c, ve, hp, hI, hv⟩ := hR
  have hnil := hv.nil
  refine enter (l := [ptr p, .agg #[.slice a1 n1 c1, .slice a2 n2 c2]]) Tryd.func65 rfl Tryd.ntmps65 rfl ?_
  refine CW.seq (CW.plain ?_)
  refine RL.box rfl rfl rfl rfl rfl hg ?_
  rintro b3 w1 hg1 hax1
  refine ⟨trivial, ?_⟩
  refine RL.alloc rfl rfl rfl rfl ze40 hg1 ?_
  rintro b4 w2 hg2 hax2
  refine ⟨trivial, ?_⟩
  refine RL.done ?_
  refine CW.seq (CW.seq (CW.plain ?_))
  refine RL.pure rfl rfl rfl rfl ?_
  refine RL.pure rfl rfl rfl rfl ?_
  refine RL.field rfl rfl rfl rfl fl92_2 rfl rfl ?_
  refine RL.load rfl rfl rfl rfl ty90 rfl (Holds.of hp) (hg2.drop.drop.1) rfl ?_
  refine RL.ifNe rfl rfl rfl rfl Tryd.underlying90 rfl (hv.isI) ?_
  refine RL.done ?_
  refine CW.cond rfl (fun hb => ?_) (fun hb => ?_)
  · have herr : st.err.isNone = false := by rw [hnil] at hb; simpa using hb
    refine CW.seq (CW.plain ?_)
    refine RL.alloc rfl rfl rfl rfl ze40 hg2 ?_
    rintro b5 w3 hg3 hax3
    refine ⟨trivial, ?_⟩
    refine RL.done ?_
    refine CW.seq (CW.plain ?_)
    refine RL.loads (j := 0) (us := [nilSl, nilSl]) rfl rfl rfl rfl ty40 rfl (Holds.one b5 _ _) (hg3.1) rfl rfl ?_
    refine RL.store (i := 1) (j := 0) rfl rfl rfl ty40 rfl rfl hg3 rfl (if_pos rfl) rfl (by first | (simp [Value.cells, Value.oneCell']; done) | simp [Value.cells, Value.oneCell', putL]) (by first | exact Nat.le_of_ble_eq_true rfl | (simp; done) | (simp; omega) | omega) ?_
    rintro w4 hg4 hax4
    refine ⟨trivial, ?_⟩
    refine RL.done ?_
    exact CW.ret (ret (vs := [_]) ⟨_, _, _, rfl, rfl, loadVar_agg ty40 (put_same _ _ _) hg4.drop.1 rfl, rfl⟩ (PostV.mk hg4.drop.drop.drop (hax1.trans (hax2.trans (hax3.trans hax4))) (by rw [herr]; rfl)))
  · have herr : st.err.isNone = true := by rw [hnil] at hb; simpa using hb
    refine CW.skip (CW.seq (CW.plain ?_))
    refine RL.loads (j := 0) (us := [.slice a1 n1 c1, .slice a2 n2 c2]) rfl rfl rfl rfl ty40 rfl (Holds.one b3 _ _) (hg2.drop.1) rfl rfl ?_
    refine RL.store (i := 0) (j := 0) rfl rfl rfl ty40 rfl rfl hg2 rfl (if_pos rfl) rfl (by first | (simp [Value.cells, Value.oneCell']; done) | simp [Value.cells, Value.oneCell', putL]) (by first | exact Nat.le_of_ble_eq_true rfl | (simp; done) | (simp; omega) | omega) ?_
    rintro w4 hg4 hax4
    refine ⟨trivial, ?_⟩
    refine RL.done ?_
    exact CW.ret (ret (vs := [_]) ⟨_, _, _, rfl, rfl, loadVar_agg ty40 (put_same _ _ _) hg4.1 rfl, rfl⟩ (PostV.mk hg4.drop.drop (hax1.trans (hax2.trans hax4)) (by rw [herr]; rfl)))

def rdConf (bs : List Int) (st : RS) : Conf × RS :=
  (if (rdInts bs (rdInts bs st).2).2.err.isNone then ⟨(rdInts bs st).1, (rdInts bs (rdInts bs st).2).1⟩ else ⟨[], []⟩, (rdInts bs (rdInts bs st).2).2)
def COut (s : Res) (r : Value) (x : Conf) : Prop := ∃ vs, r = .agg vs.toArray ∧ RConf s vs x
theorem RConf.zero (s : Res) : RConf s [nilSl, nilSl] ⟨[], []⟩ := ⟨none, 0, none, 0, rfl, Imm.nil _ _ _ (Nat.zero_le _), Imm.nil _ _ _ (Nat.zero_le _)⟩

set_option maxRecDepth 100000 in
theorem RdConf_ct {w : World} {s A : Res} {os : List Res} {p : Nat} {bs : List Int} {st : RS} (hg : Good w s (A :: os)) (hR : RdObj s A p bs st) :
    Calls Tryd.prog 40 #[ptr p] w (Post w s os fun s' A' r => COut s' r (rdConf bs st).1 ∧ RdObj s' A' p bs (rdConf bs st).2) := by
  refine enter (l := [ptr p]) Tryd.func40 rfl Tryd.ntmps40 rfl ?_
  refine CW.seq (CW.plain ?_)
  refine RL.alloc rfl rfl rfl rfl ze40 hg ?_
  rintro b2 w1 hg1' hax1
  refine ⟨trivial, ?_⟩
  refine RL.done ?_
  have hg1 := hg1'.swap
  refine CW.seq (CW.plain ?_)
  refine RL.pure rfl rfl rfl rfl ?_
  refine RL.call rfl rfl rfl rfl rfl ca64 (RdInts_ct hg1 hR) ?_
  rintro r2 s2 A2 w2 hle2 hg2 hax2 ⟨⟨a1, c1, rfl, hI1⟩, hA2⟩
  refine ⟨trivial, ?_⟩
  refine RL.pure rfl rfl rfl rfl ?_
  refine RL.done ?_
  refine CW.seq (CW.plain ?_)
  refine RL.pure rfl rfl rfl rfl ?_
  refine RL.pure rfl rfl rfl rfl ?_
  refine RL.pure rfl rfl rfl rfl ?_
  refine RL.call rfl rfl rfl rfl rfl ca64 (RdInts_ct hg2 hA2) ?_
  rintro r3 s3 A3 w3 hle3 hg3 hax3 ⟨⟨a2, c2, rfl, hI2⟩, hA3⟩
  refine ⟨trivial, ?_⟩
  refine RL.build rfl rfl rfl rfl ze40 pl40 rfl rfl ?_
  refine RL.callV rfl rfl rfl rfl rfl ca65 (wholeConf_ct hg3 hA3) ?_
  rintro r4 w4 hg4 hax4 rfl
  refine ⟨trivial, ?_⟩
  have hone : ∀ z ∈ (if (rdInts bs (rdInts bs st).2).2.err.isNone then Value.agg #[.slice a1 (rdInts bs st).1.length c1, .slice a2 (rdInts bs (rdInts bs st).2).1.length c2] else .agg #[nilSl, nilSl]).cells.toList, z.oneCell' = true := by split <;> simp [Value.cells, Value.oneCell']
  have hsz : (if (rdInts bs (rdInts bs st).2).2.err.isNone then Value.agg #[.slice a1 (rdInts bs st).1.length c1, .slice a2 (rdInts bs (rdInts bs st).2).1.length c2] else .agg #[nilSl, nilSl]).cells.size = 2 := by split <;> rfl
  refine RL.store (i := 1) (j := 0) rfl rfl rfl ty40 rfl rfl hg4 rfl (if_pos rfl) hsz hone (by decide) ?_
  rintro w5 hg5 hax5
  refine ⟨trivial, ?_⟩
  refine RL.done ?_
  refine CW.ret (ret (vs := [_]) ⟨_, _, _, rfl, rfl, loadVar_agg ty40 (put_same _ _ _) hg5.drop.1 (by split <;> rfl), rfl⟩ (Post.mk (hle2.trans hle3) hg5.dropNext (hax1.trans (hax2.trans (hax3.trans (hax4.trans hax5)))) ⟨?_, hA3⟩))
  cases he : (rdInts bs (rdInts bs st).2).2.err.isNone with
  | true =>
    simp only [rdConf, he, if_true]
    exact ⟨_, rfl, a1, c1, a2, c2, rfl, hI1.up (RInt.up _) hle3, hI2⟩
  | false =>
    simp only [rdConf, he, Bool.false_eq_true, if_false]
    exact ⟨_, rfl, RConf.zero _⟩
end Go.Lw
