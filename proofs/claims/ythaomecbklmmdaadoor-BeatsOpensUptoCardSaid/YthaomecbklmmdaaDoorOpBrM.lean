/-
  Kinds and whole structs are read (printed by beatsw.py out of the codec texts).
-/
import Derived.Test.YthaomecbklmmdaaDoorOpCodecRo
namespace Go.Lw
open Go.Proofs
attribute [local irreducible] RL RA

theorem Good.third {w : World} {s X Y A : Res} {os : List Res} (h : Good w s (X :: Y :: A :: os)) : Good w s (A :: X :: Y :: os) := h.perm (List.perm_middle (l₁ := [X, Y]))
/-- A struct that is handed out. -/
def SOut {α : Type} (R : Res → List Value → α → Prop) (s : Res) (r : Value) (x : α) : Prop := ∃ vs, r = .agg vs.toArray ∧ R s vs x
def rdKind (bs : List Int) (st : RS) (most : Int) : Int × RS :=
  let st2 := if (rdInt bs st).1 < 1 ∨ most < (rdInt bs st).1 then (rdInt bs st).2.failAt 16 st.pos else (rdInt bs st).2
  (if st2.err.isNone then (rdInt bs st).1 else 0, st2)
set_option maxRecDepth 100000 in
theorem wholeInt_ct {w : World} {s A : Res} {os : List Res} {p : Nat} {bs : List Int} {st : RS} {k : Int} (hg : Good w s (A :: os)) (hR : RdObj s A p bs st) :
    Calls Tryd.prog 74 #[ptr p, .int .i64 k] w (PostV w s (A :: os) fun r => r = .int .i64 (if st.err.isNone then k else 0)) := by
  obtain ⟨h0, h1, a, c, v, hp, hI, hv⟩ := hR
  have hnil := hv.nil
  refine enter (l := [ptr p, .int .i64 k]) Tryd.func74 rfl Tryd.ntmps74 rfl ?_
  refine CW.seq (CW.plain ?_)
  refine RL.pure rfl rfl rfl rfl ?_
  refine RL.done ?_
  refine CW.seq (CW.seq (CW.plain ?_))
  refine RL.pure rfl rfl rfl rfl ?_
  refine RL.pure rfl rfl rfl rfl ?_
  refine RL.field rfl rfl rfl rfl fl92_2 rfl rfl ?_
  refine RL.load rfl rfl rfl rfl ty90 rfl (Holds.of hp) (hg.1) rfl ?_
  refine RL.ifNe rfl rfl rfl rfl Tryd.underlying90 rfl (hv.isI) ?_
  refine RL.done ?_
  refine CW.cond rfl (fun hb => ?_) (fun hb => ?_)
  · have herr : st.err.isNone = false := by rw [hnil] at hb; simpa using hb
    refine CW.seq (CW.plain ?_)
    refine RL.pure rfl rfl rfl rfl ?_
    refine RL.done ?_
    refine CW.seq (CW.plain ?_)
    refine RL.pure rfl rfl rfl rfl ?_
    refine RL.pure rfl rfl rfl rfl ?_
    refine RL.done ?_
    exact CW.ret (ret (vs := [_]) ⟨_, _, rfl, rfl, rfl⟩ (PostV.mk hg (Aux.refl _) (by rw [herr]; rfl)))
  · have herr : st.err.isNone = true := by rw [hnil] at hb; simpa using hb
    refine CW.skip (CW.seq (CW.plain ?_))
    refine RL.pure rfl rfl rfl rfl ?_
    refine RL.pure rfl rfl rfl rfl ?_
    refine RL.done ?_
    exact CW.ret (ret (vs := [_]) ⟨_, _, rfl, rfl, rfl⟩ (PostV.mk hg (Aux.refl _) (by rw [herr]; rfl)))
set_option maxRecDepth 100000 in
theorem RdKind_ct {w : World} {s A : Res} {os : List Res} {p : Nat} {bs : List Int} {st : RS} {most : Int} (hg : Good w s (A :: os)) (hR : RdObj s A p bs st) :
    Calls Tryd.prog 62 #[ptr p, .int .i64 most] w (Post w s os fun s' A' r => r = .int .i64 (rdKind bs st most).1 ∧ rng .i64 (rdKind bs st most).1 ∧ RdObj s' A' p bs (rdKind bs st most).2) := by
  obtain ⟨h0, h1, a, c, v, hp, hI, hv⟩ := id hR
  refine enter (l := [ptr p, .int .i64 most]) Tryd.func62 rfl Tryd.ntmps62 rfl ?_
  refine CW.seq (CW.plain ?_)
  refine RL.pure rfl rfl rfl rfl ?_
  refine RL.done ?_
  refine CW.seq (CW.plain ?_)
  refine RL.pure rfl rfl rfl rfl ?_
  refine RL.pure rfl rfl rfl rfl ?_
  refine RL.field rfl rfl rfl rfl fl92_1 rfl rfl ?_
  refine RL.load rfl rfl rfl rfl ty3 rfl (Holds.of hp) (hg.1) rfl ?_
  refine RL.pure rfl rfl rfl rfl ?_
  refine RL.done ?_
  refine CW.seq (CW.plain ?_)
  refine RL.pure rfl rfl rfl rfl ?_
  refine RL.call rfl rfl rfl rfl rfl ca37 (RdInt_ct hg hR) ?_
  rintro r s1 A1 w1 hle1 hg1 hax1 ⟨rfl, hr1, hA1⟩
  refine ⟨trivial, ?_⟩
  refine RL.pure rfl rfl rfl rfl ?_
  refine RL.done ?_
  have hrd : rdKind bs st most = (if (if (rdInt bs st).1 < 1 ∨ most < (rdInt bs st).1 then (rdInt bs st).2.failAt 16 st.pos else (rdInt bs st).2).err.isNone then (rdInt bs st).1 else 0, if (rdInt bs st).1 < 1 ∨ most < (rdInt bs st).1 then (rdInt bs st).2.failAt 16 st.pos else (rdInt bs st).2) := rfl
  generalize rdInt bs st = us at hrd hr1 hA1 ⊢
  obtain ⟨k, st1⟩ := us
  simp only at hrd hr1 hA1 ⊢
  refine CW.meet (fun E w' => ∃ s' A', E = [(0, ptr p), (6, .int .i64 k)] ∧ Good w' s' (A' :: os) ∧ Le s s' ∧ Aux w w' ∧ RdObj s' A' p bs (if k < 1 ∨ most < k then st1.failAt 16 st.pos else st1)) ?_ ?_
  · have hfail : ∀ {E : Env} {w' : World}, True := trivial
    refine CW.seq (CW.plain ?_)
    refine RL.pure rfl rfl rfl rfl ?_
    refine RL.pure rfl rfl rfl rfl ?_
    refine RL.part 14 rfl (fun hc => ?_) (fun hc => ?_)
    · have hc : k < 1 := by simpa using hc
      refine RL.pure rfl rfl rfl rfl ?_
      refine RL.pass rfl rfl rfl ?_
      refine RL.pass rfl rfl rfl ?_
      refine RL.pass rfl rfl rfl ?_
      refine RL.pure rfl rfl rfl rfl ?_
      refine RL.done ?_
      refine CW.yes rfl (CW.plain ?_)
      refine RL.pure rfl rfl rfl rfl ?_
      refine RL.pure rfl rfl rfl rfl ?_
      refine RL.call rfl rfl rfl rfl rfl ca43 (failAt_ct hg1 hA1 (by simp [rng]) ⟨h0, h1⟩) ?_
      rintro r s2 A2 w2 hle2 hg2 hax2 ⟨_, hA2⟩
      refine ⟨trivial, ?_⟩
      refine RL.done ?_
      rw [if_pos (.inl hc)]
      exact fun ac ha => ⟨[(0, ptr p), (6, .int .i64 k)], ha.sub ⟨rfl, rfl, trivial⟩, s2, A2, rfl, hg2, hle1.trans hle2, hax1.trans hax2, hA2⟩
    · have hc : ¬ k < 1 := by simpa using hc
      refine RL.pure rfl rfl rfl rfl ?_
      refine RL.pure rfl rfl rfl rfl ?_
      refine RL.pure rfl rfl rfl rfl ?_
      refine RL.pure rfl rfl rfl rfl ?_
      refine RL.pure rfl rfl rfl rfl ?_
      refine RL.done ?_
      refine CW.test rfl (fun hd => ?_) (fun hd => ?_)
      · refine CW.plain ?_
        refine RL.pure rfl rfl rfl rfl ?_
        refine RL.pure rfl rfl rfl rfl ?_
        refine RL.call rfl rfl rfl rfl rfl ca43 (failAt_ct hg1 hA1 (by simp [rng]) ⟨h0, h1⟩) ?_
        rintro r s2 A2 w2 hle2 hg2 hax2 ⟨_, hA2⟩
        refine ⟨trivial, ?_⟩
        refine RL.done ?_
        rw [if_pos (.inr hd)]
        exact fun ac ha => ⟨[(0, ptr p), (6, .int .i64 k)], ha.sub ⟨rfl, rfl, trivial⟩, s2, A2, rfl, hg2, hle1.trans hle2, hax1.trans hax2, hA2⟩
      · refine CW.skip ?_
        rw [if_neg (fun z => z.elim hc hd)]
        exact fun ac ha => ⟨[(0, ptr p), (6, .int .i64 k)], ha.sub ⟨rfl, rfl, trivial⟩, s1, A1, rfl, hg1, hle1, hax1, hA1⟩
  rintro E w3 ⟨s3, A3, rfl, hg3, hle3, hax3, hA3⟩
  rw [hrd]
  generalize (if k < 1 ∨ most < k then st1.failAt 16 st.pos else st1) = st2 at hA3 ⊢
  refine CW.seq (CW.plain ?_)
  refine RL.pure rfl rfl rfl rfl ?_
  refine RL.pure rfl rfl rfl rfl ?_
  refine RL.callV rfl rfl rfl rfl rfl ca74 (wholeInt_ct hg3 hA3) ?_
  rintro v4 w4 hg4 hax4 rfl
  refine ⟨trivial, ?_⟩
  refine RL.pure rfl rfl rfl rfl ?_
  refine RL.done ?_
  refine CW.ret (ret (vs := [_]) ⟨_, _, rfl, rfl, rfl⟩ (Post.mk hle3 hg4 (hax3.trans hax4) ⟨rfl, ?_, hA3⟩))
  split
  · exact hr1
  · simp [rng]
set_option maxRecDepth 100000 in
theorem wholeEntry_ct {w : World} {s A : Res} {os : List Res} {p : Nat} {bs : List Int} {st : RS} {i t k : Int} {a1 a2 a3 : Option Addr} {n1 c1 n2 c2 n3 c3 : Nat} (hg : Good w s (A :: os)) (hR : RdObj s A p bs st) :
    Calls Tryd.prog 63 #[ptr p, .agg #[.int .u64 i, .int .u64 t, .int .i64 k, .slice a1 n1 c1, .slice a2 n2 c2, .slice a3 n3 c3]] w (PostV w s (A :: os) fun r => r = if st.err.isNone then .agg #[.int .u64 i, .int .u64 t, .int .i64 k, .slice a1 n1 c1, .slice a2 n2 c2, .slice a3 n3 c3] else .agg #[.int .u64 0, .int .u64 0, .int .i64 0, nilSl, nilSl, nilSl]) := by
  obtain ⟨h0, h1, a, c, ve, hp, hI, hv⟩ := hR
  have hnil := hv.nil
  refine enter (l := [ptr p, .agg #[.int .u64 i, .int .u64 t, .int .i64 k, .slice a1 n1 c1, .slice a2 n2 c2, .slice a3 n3 c3]]) Tryd.func63 rfl Tryd.ntmps63 rfl ?_
  refine CW.seq (CW.plain ?_)
  refine RL.box rfl rfl rfl rfl rfl hg ?_
  rintro b3 w1 hg1 hax1
  refine ⟨trivial, ?_⟩
  refine RL.alloc rfl rfl rfl rfl ze84 hg1 ?_
  rintro b4 w2 hg2 hax2
  refine ⟨trivial, ?_⟩
  refine RL.done ?_
  refine CW.seq (CW.seq (CW.plain ?_))
  refine RL.pure rfl rfl rfl rfl ?_
  refine RL.pure rfl rfl rfl rfl ?_
  refine RL.field rfl rfl rfl rfl fl92_2 rfl rfl ?_
  refine RL.load rfl rfl rfl rfl ty90 rfl (Holds.of hp) (hg2.drop.drop.1) rfl ?_
  refine RL.ifNe rfl rfl rfl rfl Tryd.underlying90 rfl (hv.isI) ?_
  refine RL.done ?_
  refine CW.cond rfl (fun hb => ?_) (fun hb => ?_)
  · have herr : st.err.isNone = false := by rw [hnil] at hb; simpa using hb
    refine CW.seq (CW.plain ?_)
    refine RL.alloc rfl rfl rfl rfl ze84 hg2 ?_
    rintro b5 w3 hg3 hax3
    refine ⟨trivial, ?_⟩
    refine RL.done ?_
    refine CW.seq (CW.plain ?_)
    refine RL.loads (j := 0) (us := [.int .u64 0, .int .u64 0, .int .i64 0, nilSl, nilSl, nilSl]) rfl rfl rfl rfl ty84 rfl (Holds.one b5 _ _) (hg3.1) rfl rfl ?_
    refine RL.store (i := 1) (j := 0) rfl rfl rfl ty84 rfl rfl hg3 rfl (if_pos rfl) rfl (by first | (simp [Value.cells, Value.oneCell']; done) | simp [Value.cells, Value.oneCell', putL]) (by first | exact Nat.le_of_ble_eq_true rfl | (simp; done) | (simp; omega) | omega) ?_
    rintro w4 hg4 hax4
    refine ⟨trivial, ?_⟩
    refine RL.done ?_
    exact CW.ret (ret (vs := [_]) ⟨_, _, _, rfl, rfl, loadVar_agg ty84 (put_same _ _ _) hg4.drop.1 rfl, rfl⟩ (PostV.mk hg4.drop.drop.drop (hax1.trans (hax2.trans (hax3.trans hax4))) (by rw [herr]; rfl)))
  · have herr : st.err.isNone = true := by rw [hnil] at hb; simpa using hb
    refine CW.skip (CW.seq (CW.plain ?_))
    refine RL.loads (j := 0) (us := [.int .u64 i, .int .u64 t, .int .i64 k, .slice a1 n1 c1, .slice a2 n2 c2, .slice a3 n3 c3]) rfl rfl rfl rfl ty84 rfl (Holds.one b3 _ _) (hg2.drop.1) rfl rfl ?_
    refine RL.store (i := 0) (j := 0) rfl rfl rfl ty84 rfl rfl hg2 rfl (if_pos rfl) rfl (by first | (simp [Value.cells, Value.oneCell']; done) | simp [Value.cells, Value.oneCell', putL]) (by first | exact Nat.le_of_ble_eq_true rfl | (simp; done) | (simp; omega) | omega) ?_
    rintro w4 hg4 hax4
    refine ⟨trivial, ?_⟩
    refine RL.done ?_
    exact CW.ret (ret (vs := [_]) ⟨_, _, _, rfl, rfl, loadVar_agg ty84 (put_same _ _ _) hg4.1 rfl, rfl⟩ (PostV.mk hg4.drop.drop (hax1.trans (hax2.trans hax4)) (by rw [herr]; rfl)))
end Go.Lw
