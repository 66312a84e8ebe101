/-
  The codec's Reader, and the document's: their state; how they fail.
-/
import Derived.Test.YthaomecbklmmdaaDoorOpBwW
import Derived.Test.YthaomecbklmmdaaDoorOpA1
namespace Go.Lw
open Go.Proofs
attribute [local irreducible] RL RA

/-- Where a reader is; its first error and that one's place. -/
structure RS where
  pos : Int
  err : Option (Int × Int)
def RS.failAt (st : RS) (e k : Int) : RS := if st.err.isNone && (e != 0) then ⟨k, some (e, k)⟩ else st
def RS.fail (st : RS) (e : Int) : RS := st.failAt e st.pos

/-- The program's error value. -/
def RErr (s : Res) : Value → Option (Int × Int) → Prop
  | v, none => v = .nilIface
  | v, some (e, k) => e ≠ 0 ∧ rng .i64 e ∧ rng .i64 k ∧ ∃ q, v = .iface 94 (ptr q) ∧ Holds s ⟨q, 0, none⟩ [.int .i64 k, .iface 27 (.int .i64 e)]
theorem RErr.up {s s' : Res} {v : Value} {e : Option (Int × Int)} (h : RErr s v e) (hl : Le s s') : RErr s' v e := by
  cases e with
  | none => exact h
  | some p =>
    obtain ⟨e, k⟩ := p
    obtain ⟨h0, h1, h2, q, h3, h4⟩ := h
    exact ⟨h0, h1, h2, q, h3, h4.le hl⟩
theorem RErr.isI {s : Res} {v : Value} {e : Option (Int × Int)} (h : RErr s v e) : IsI v := by
  cases e with
  | none => exact .inl h
  | some p =>
    obtain ⟨_, _, _, q, h3, _⟩ := h
    exact .inr ⟨_, _, h3⟩
theorem RErr.nil {s : Res} {v : Value} {e : Option (Int × Int)} (h : RErr s v e) : isNilI v = e.isNone := by
  cases e with
  | none => rw [show v = .nilIface from h]; rfl
  | some p =>
    obtain ⟨_, _, _, q, h3, _⟩ := h
    rw [h3]; rfl

/-- The program's Reader at block p. -/
def RdObj (s A : Res) (p : Nat) (bs : List Int) (st : RS) : Prop :=
  0 ≤ st.pos ∧ st.pos ≤ bs.length ∧ ∃ a c v, A p = some (.cells #[.slice a bs.length c, .int .i64 st.pos, v] 92 (0, 0)) ∧ Imm (RInt .u8) 1 s a c bs ∧ RErr s v st.err
/-- What the document's Reader notes of the first error. -/
def BadIs (st : RS) (bad : Int) : Prop := (∀ e k, st.err = some (e, k) → e ≠ 0 ∧ rng .i64 e ∧ bad = k) ∧ (st.err = none → bad = 0)
/-- The document's Reader. -/
def RrObj (s A : Res) (p : Nat) (bs : List Int) (st : RS) : Prop :=
  0 ≤ st.pos ∧ st.pos ≤ bs.length ∧ ∃ a c bad, A p = some (.cells #[.slice a bs.length c, .int .i64 st.pos, .int .i64 ((st.err.map (·.1)).getD 0), .int .i64 bad] 65 (0, 0)) ∧ Imm (RInt .u8) 1 s a c bs ∧ BadIs st bad

set_option maxRecDepth 100000 in
theorem failAt_ct {w : World} {s A : Res} {os : List Res} {p : Nat} {bs : List Int} {st : RS} {e k : Int} (hg : Good w s (A :: os)) (hR : RdObj s A p bs st) (he : rng .i64 e) (hk : 0 ≤ k ∧ k ≤ bs.length) :
    Calls Tryd.prog 43 #[ptr p, .int .i64 e, .int .i64 k] w (Post w s os fun s' A' r => r = .tuple #[] ∧ RdObj s' A' p bs (st.failAt e k)) := by
  obtain ⟨h0, h1, a, c, v, hp, hI, hv⟩ := hR
  have hmax := hI.le_max
  simp only [maxLen] at hmax
  refine enter (l := [ptr p, .int .i64 e, .int .i64 k]) Tryd.func43 rfl Tryd.ntmps43 rfl ?_
  refine CW.seq (CW.plain ?_)
  refine RL.pure rfl rfl rfl rfl ?_
  refine RL.pure rfl rfl rfl rfl ?_
  refine RL.field rfl rfl rfl rfl fl92_2 rfl rfl ?_
  refine RL.load rfl rfl rfl rfl ty90 rfl (Holds.of hp) (hg.1) rfl ?_
  refine RL.ifEq rfl rfl rfl rfl Tryd.underlying90 rfl (hv.isI) ?_
  refine RL.pure rfl rfl rfl rfl ?_
  refine RL.part 11 rfl (fun hb => ?_) (fun hb => ?_)
  · refine RL.pure rfl rfl rfl rfl ?_
    refine RL.pure rfl rfl rfl rfl ?_
    refine RL.pure rfl rfl rfl rfl ?_
    refine RL.done ?_
    rw [hv.nil] at hb
    refine CW.ne rfl (fun hne => ?_) (fun heq => ?_)
    · refine CW.seq (CW.plain ?_)
      refine RL.pure rfl rfl rfl rfl ?_
      refine RL.pure rfl rfl rfl rfl ?_
      refine RL.pure rfl rfl rfl rfl ?_
      refine RL.iface rfl rfl rfl rfl (by kernel_rfl) rfl ?_
      refine RL.build rfl rfl rfl rfl ze99 pl99 rfl rfl ?_
      refine RL.box rfl rfl rfl rfl rfl hg ?_
      rintro q w1 hgq hax1
      refine ⟨trivial, ?_⟩
      obtain ⟨s1, hg1, hle1, hH⟩ := boxed hgq
      refine RL.iface rfl rfl rfl rfl (by kernel_rfl) rfl ?_
      refine RL.pure rfl rfl rfl rfl ?_
      refine RL.field rfl rfl rfl rfl fl92_2 rfl rfl ?_
      refine RL.store (i := 0) rfl rfl rfl ty90 rfl rfl hg1 rfl (hp) rfl (by first | (simp [Value.cells, Value.oneCell']; done) | simp [Value.cells, Value.oneCell', putL]) (by first | exact Nat.le_of_ble_eq_true rfl | (simp; done) | (simp; omega) | omega) ?_
      rintro w2 hg2 hax2
      refine ⟨trivial, ?_⟩
      refine RL.done ?_
      refine CW.plain ?_
      refine RL.pure rfl rfl rfl rfl ?_
      refine RL.pure rfl rfl rfl rfl ?_
      refine RL.pure rfl rfl rfl rfl ?_
      refine RL.field rfl rfl rfl rfl fl92_1 rfl rfl ?_
      refine RL.store (i := 0) rfl rfl rfl ty3 rfl rfl hg2 rfl (put_same _ _ _) rfl (by first | (simp [Value.cells, Value.oneCell']; done) | simp [Value.cells, Value.oneCell', putL]) (by first | exact Nat.le_of_ble_eq_true rfl | (simp; done) | (simp; omega) | omega) ?_
      rintro w3 hg3 hax3
      refine ⟨trivial, ?_⟩
      refine RL.done ?_
      refine fall (vs := []) rfl (Post.mk hle1 hg3 (hax1.trans (hax2.trans hax3)) ⟨rfl, ?_⟩)
      have hst : st.failAt e k = ⟨k, some (e, k)⟩ := by simp [RS.failAt, hb, hne]
      rw [hst]
      exact ⟨hk.1, hk.2, a, c, _, put_same _ _ _, hI.up (RInt.up _) hle1, hne, he, by simp only [rng]; omega, q, rfl, hH⟩
    · refine CW.skip ?_
      refine fall (vs := []) rfl (Post.mk (Le.refl _) hg (Aux.refl _) ⟨rfl, ?_⟩)
      have hst : st.failAt e k = st := by simp [RS.failAt, heq]
      rw [hst]
      exact ⟨h0, h1, a, c, v, hp, hI, hv⟩
  · refine RL.pass rfl rfl rfl ?_
    refine RL.pass rfl rfl rfl ?_
    refine RL.pure rfl rfl rfl rfl ?_
    refine RL.done ?_
    rw [hv.nil] at hb
    refine CW.no rfl (CW.skip ?_)
    refine fall (vs := []) rfl (Post.mk (Le.refl _) hg (Aux.refl _) ⟨rfl, ?_⟩)
    have hst : st.failAt e k = st := by simp [RS.failAt, hb]
    rw [hst]
    exact ⟨h0, h1, a, c, v, hp, hI, hv⟩

set_option maxRecDepth 100000 in
theorem Fail_ct {w : World} {s A : Res} {os : List Res} {p : Nat} {bs : List Int} {st : RS} {e : Int} (hg : Good w s (A :: os)) (hR : RdObj s A p bs st) (he : rng .i64 e) :
    Calls Tryd.prog 20 #[ptr p, .int .i64 e] w (Post w s os fun s' A' r => r = .tuple #[] ∧ RdObj s' A' p bs (st.fail e)) := by
  have hR' := hR
  obtain ⟨h0, h1, a, c, v, hp, hI, hv⟩ := hR
  refine enter (l := [ptr p, .int .i64 e]) Tryd.func20 rfl Tryd.ntmps20 rfl ?_
  refine CW.plain ?_
  refine RL.pure rfl rfl rfl rfl ?_
  refine RL.pure rfl rfl rfl rfl ?_
  refine RL.pure rfl rfl rfl rfl ?_
  refine RL.pure rfl rfl rfl rfl ?_
  refine RL.field rfl rfl rfl rfl fl92_1 rfl rfl ?_
  refine RL.load rfl rfl rfl rfl ty3 rfl (Holds.of hp) (hg.1) rfl ?_
  refine RL.call rfl rfl rfl rfl rfl ca43 (failAt_ct hg hR' he ⟨h0, h1⟩) ?_
  rintro r s1 A1 w1 hle1 hg1 hax1 ⟨_, h⟩
  refine ⟨trivial, ?_⟩
  refine RL.done ?_
  exact fall (vs := []) rfl (Post.mk hle1 hg1 hax1 ⟨rfl, h⟩)

set_option maxRecDepth 100000 in
theorem rfailAt_ct {w : World} {s A : Res} {os : List Res} {p : Nat} {bs : List Int} {st : RS} {e k : Int} (hg : Good w s (A :: os)) (hR : RrObj s A p bs st) (he : rng .i64 e) (hk : 0 ≤ k ∧ k ≤ bs.length) :
    Calls Tryd.prog 46 #[ptr p, .int .i64 e, .int .i64 k] w (Post w s os fun s' A' r => r = .tuple #[] ∧ RrObj s' A' p bs (st.failAt e k)) := by
  obtain ⟨h0, h1, a, c, bad, hp, hI, hv⟩ := hR
  refine enter (l := [ptr p, .int .i64 e, .int .i64 k]) Tryd.func46 rfl Tryd.ntmps46 rfl ?_
  refine CW.seq (CW.plain ?_)
  refine RL.pure rfl rfl rfl rfl ?_
  refine RL.pure rfl rfl rfl rfl ?_
  refine RL.field rfl rfl rfl rfl fl65_2 rfl rfl ?_
  refine RL.load rfl rfl rfl rfl ty27 rfl (Holds.of hp) (hg.1) rfl ?_
  refine RL.pure rfl rfl rfl rfl ?_
  refine RL.pure rfl rfl rfl rfl ?_
  have hnil : ((st.err.map (·.1)).getD 0 == 0) = st.err.isNone := by
    cases hs : st.err with
    | none => rfl
    | some q => obtain ⟨h2, _⟩ := hv.1 q.1 q.2 hs; simp [h2]
  refine RL.part 11 rfl (fun hb => ?_) (fun hb => ?_)
  · refine RL.pure rfl rfl rfl rfl ?_
    refine RL.pure rfl rfl rfl rfl ?_
    refine RL.pure rfl rfl rfl rfl ?_
    refine RL.done ?_
    rw [hnil] at hb
    refine CW.ne rfl (fun hne => ?_) (fun heq => ?_)
    · refine CW.seq (CW.plain ?_)
      refine RL.pure rfl rfl rfl rfl ?_
      refine RL.pure rfl rfl rfl rfl ?_
      refine RL.pure rfl rfl rfl rfl ?_
      refine RL.field rfl rfl rfl rfl fl65_2 rfl rfl ?_
      refine RL.store (i := 0) rfl rfl rfl ty27 rfl rfl hg rfl (hp) rfl (by first | (simp [Value.cells, Value.oneCell']; done) | simp [Value.cells, Value.oneCell', putL]) (by first | exact Nat.le_of_ble_eq_true rfl | (simp; done) | (simp; omega) | omega) ?_
      rintro w1 hg1 hax1
      refine ⟨trivial, ?_⟩
      refine RL.done ?_
      refine CW.seq (CW.plain ?_)
      refine RL.pure rfl rfl rfl rfl ?_
      refine RL.pure rfl rfl rfl rfl ?_
      refine RL.pure rfl rfl rfl rfl ?_
      refine RL.field rfl rfl rfl rfl fl65_3 rfl rfl ?_
      refine RL.store (i := 0) rfl rfl rfl ty3 rfl rfl hg1 rfl (put_same _ _ _) rfl (by first | (simp [Value.cells, Value.oneCell']; done) | simp [Value.cells, Value.oneCell', putL]) (by first | exact Nat.le_of_ble_eq_true rfl | (simp; done) | (simp; omega) | omega) ?_
      rintro w2 hg2 hax2
      refine ⟨trivial, ?_⟩
      refine RL.done ?_
      refine CW.plain ?_
      refine RL.pure rfl rfl rfl rfl ?_
      refine RL.pure rfl rfl rfl rfl ?_
      refine RL.pure rfl rfl rfl rfl ?_
      refine RL.field rfl rfl rfl rfl fl65_1 rfl rfl ?_
      refine RL.store (i := 0) rfl rfl rfl ty3 rfl rfl hg2 rfl (put_same _ _ _) rfl (by first | (simp [Value.cells, Value.oneCell']; done) | simp [Value.cells, Value.oneCell', putL]) (by first | exact Nat.le_of_ble_eq_true rfl | (simp; done) | (simp; omega) | omega) ?_
      rintro w3 hg3 hax3
      refine ⟨trivial, ?_⟩
      refine RL.done ?_
      refine fall (vs := []) rfl (Post.mk (Le.refl _) hg3 (hax1.trans (hax2.trans hax3)) ⟨rfl, ?_⟩)
      have hst : st.failAt e k = ⟨k, some (e, k)⟩ := by simp [RS.failAt, hb, hne]
      rw [hst]
      exact ⟨hk.1, hk.2, a, c, k, put_same _ _ _, hI, fun e' k' h => by simp at h; obtain ⟨rfl, rfl⟩ := h; exact ⟨hne, he, rfl⟩, fun h => by cases h⟩
    · refine CW.skip ?_
      refine fall (vs := []) rfl (Post.mk (Le.refl _) hg (Aux.refl _) ⟨rfl, ?_⟩)
      have hst : st.failAt e k = st := by simp [RS.failAt, heq]
      rw [hst]
      exact ⟨h0, h1, a, c, bad, hp, hI, hv⟩
  · refine RL.pass rfl rfl rfl ?_
    refine RL.pass rfl rfl rfl ?_
    refine RL.pure rfl rfl rfl rfl ?_
    refine RL.done ?_
    rw [hnil] at hb
    refine CW.no rfl (CW.skip ?_)
    refine fall (vs := []) rfl (Post.mk (Le.refl _) hg (Aux.refl _) ⟨rfl, ?_⟩)
    have hst : st.failAt e k = st := by simp [RS.failAt, hb]
    rw [hst]
    exact ⟨h0, h1, a, c, bad, hp, hI, hv⟩
end Go.Lw
