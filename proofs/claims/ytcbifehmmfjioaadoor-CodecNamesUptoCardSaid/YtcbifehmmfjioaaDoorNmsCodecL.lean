/-
  What is written: the Writer's end, the live question, the law CodecWrites's own functions.
-/
import Derived.Test.YtcbifehmmfjioaaDoorNmsCodecC
namespace Go.Lw
open Go.Proofs

set_option maxRecDepth 100000 in
theorem CloneB_ct {w : World} {s r : Res} {os : List Res} {xs : List Int} {xa : Option Addr} {xc : Nat} (hg : Good w s os) (hr : r = s ∨ r ∈ os) (hx : xs = [] ∨ ∃ ad, xa = some ad ∧ Row (RInt .u8) 1 r s ad xs) (hl : xs.length ≤ 140737488355328) :
    Calls Tryd.prog 53 #[.slice xa xs.length xc] w (Post w s os fun s' A r => BOwn s' A r xs) := by
  refine enter (l := [.slice xa xs.length xc]) Tryd.func53 rfl Tryd.ntmps53 rfl ?_
  refine CW.seq (CW.plain ?_)
  refine RL.pure rfl rfl rfl rfl ?_
  refine RL.done ?_
  refine CW.seq (CW.seq (CW.plain ?_))
  refine RL.pure rfl rfl rfl rfl ?_
  refine RL.nilEq rfl rfl rfl rfl sl25 rfl rfl ?_
  refine RL.done ?_
  refine CW.cond rfl (fun h => ?_) (fun h => ?_)
  · refine CW.seq (CW.plain ?_)
    refine RL.pure rfl rfl rfl rfl ?_
    refine RL.done ?_
    have hnil : xs = [] := by
      rcases hx with hx | ⟨ad, rfl, _⟩
      · exact hx
      · cases h
    subst hnil
    exact CW.ret (ret (vs := [_]) ⟨_, _, rfl, rfl, rfl⟩ (Post.mk (Le.refl _) hg.nil (Aux.refl _) ⟨none, 0, rfl, Own.nil _ _ _ _ _⟩))
  · refine CW.skip ?_
    refine CW.seq (CW.plain ?_)
    refine RL.buildSlice rfl rfl rfl rfl sl25 ze5 rfl rfl rfl rfl hg ?_
    rintro b w1 hg1 hax1
    refine ⟨trivial, ?_⟩
    refine RL.pure rfl rfl rfl rfl ?_
    obtain ⟨news, hsrc, hch⟩ := Src.row (c := xc) sl25 hx (hg1.drop.has hr)
    have hown0 : Own (RInt .u8) 1 5 s (Res.one b (.cells #[] 5)) (some ⟨b, 0, none⟩) 0 [] := .inr ⟨b, #[], rfl, if_pos rfl, Nat.le_refl _, Nat.zero_le _, rfl, rfl⟩
    refine RL.append (i := 0) (ys := xs) rfl rfl rfl rfl sl25 ze5 rfl (by first | exact RInt.one _ | exact RStr.one | exact RBool.one | assumption) rfl rfl hg1 rfl hown0 (hsrc) (hch) ((by simp; omega)) (by omega) ?_
    rintro a2 c2 A2 w2 hg2 hown2 hax2 hkeep
    refine ⟨trivial, ?_⟩
    refine RL.pure rfl rfl rfl rfl ?_
    refine RL.done ?_
    exact CW.ret (ret (vs := [_]) ⟨_, _, rfl, rfl, rfl⟩ (Post.mk (Le.refl _) hg2 (hax1.trans hax2) ⟨a2, c2, rfl, hown2⟩))

set_option maxRecDepth 100000 in
theorem Done_ct {w : World} {s A : Res} {os : List Res} {p : Nat} {bs : List Int} (hg : Good w s (A :: os)) (hA : WObj s A p bs) (hl : bs.length ≤ 140737488355328) :
    Calls Tryd.prog 13 #[ptr p] w (Post w s (A :: os) fun s' B r => BOwn s' B r bs) := by
  obtain ⟨a, c, hp, hown⟩ := hA
  refine enter (l := [ptr p]) Tryd.func13 rfl Tryd.ntmps13 rfl ?_
  refine CW.seq (CW.plain ?_)
  refine RL.pure rfl rfl rfl rfl ?_
  refine RL.done ?_
  refine CW.seq (CW.plain ?_)
  refine RL.pure rfl rfl rfl rfl ?_
  refine RL.pure rfl rfl rfl rfl ?_
  refine RL.field rfl rfl rfl rfl fl27_0 rfl rfl ?_
  refine RL.load rfl rfl rfl rfl ty25 rfl (Holds.of hp) (hg.1) rfl ?_
  refine RL.call rfl rfl rfl rfl rfl ca53 (CloneB_ct (r := A) hg (.inr (by simp)) hown.row hl) ?_
  rintro v s1 B w1 hle1 hg1 hax1 hB
  refine ⟨trivial, ?_⟩
  refine RL.pure rfl rfl rfl rfl ?_
  refine RL.done ?_
  exact CW.ret (ret (vs := [_]) ⟨_, _, rfl, rfl, rfl⟩ (Post.mk hle1 hg1 hax1 hB))

set_option maxRecDepth 100000 in
theorem lives_ct {w : World} {s : Res} {os : List Res} (hg : Good w s os) (hT : Holds s ⟨0, 0, none⟩ tabVs) :
    Calls Tryd.prog 11 #[] w (Post w s os fun _ _ r => r = .bool true) := by
  refine enter (l := []) Tryd.func11 rfl Tryd.ntmps11 rfl ?_
  refine CW.seq (CW.plain ?_)
  refine RL.pure rfl rfl rfl rfl ?_
  refine RL.done ?_
  refine CW.seq (CW.plain ?_)
  refine RL.build rfl rfl rfl rfl ze27 pl27 rfl rfl ?_
  refine RL.box rfl rfl rfl rfl rfl hg ?_
  rintro p w1 hg1 hax1
  refine ⟨trivial, ?_⟩
  refine RL.pure rfl rfl rfl rfl ?_
  refine RL.done ?_
  have hA1 : WObj s (Res.one p (.cells #[.slice none 0 0] 27)) p [] := ⟨none, 0, if_pos rfl, Own.nil _ _ _ _ _⟩
  refine CW.seq (CW.plain ?_)
  refine RL.pure rfl rfl rfl rfl ?_
  refine RL.call rfl rfl rfl rfl rfl ca14 (Uint_ct hg1 hA1 (by simp only [rng]; omega) (by simp)) ?_
  rintro v2 s2 A2 w2 hle2 hg2 hax2 ⟨_, hA2⟩
  refine ⟨trivial, ?_⟩
  refine RL.done ?_
  refine CW.seq (CW.plain ?_)
  refine RL.pure rfl rfl rfl rfl ?_
  refine RL.call rfl rfl rfl rfl rfl ca35 (String_ct hg2 hA2 (by decide)) ?_
  rintro v3 s3 A3 w3 hle3 hg3 hax3 ⟨_, hA3⟩
  refine ⟨trivial, ?_⟩
  refine RL.done ?_
  refine CW.seq (CW.plain ?_)
  refine RL.pure rfl rfl rfl rfl ?_
  refine RL.call rfl rfl rfl rfl rfl ca13 (Done_ct hg3 hA3 (by decide)) ?_
  rintro v4 s4 B w4 hle4 hg4 hax4 ⟨a, c, rfl, hB⟩
  refine ⟨trivial, ?_⟩
  refine RL.bts rfl rfl rfl rfl sl25 Tryd.underlying5 Tryd.underlying9 rfl (hB.row) (hg4.1) ?_
  refine RL.sEq rfl rfl rfl rfl rfl rfl ?_
  have hq : ((strOfNums (([] ++ encU 300) ++ encT (nums ⟨#[97, 98]⟩))).toList == (⟨#[172, 2, 2, 97, 98]⟩ : ByteArray).toList) = true := by decide +kernel
  rw [hq]
  refine RL.pure rfl rfl rfl rfl ?_
  refine RL.buildSlice rfl rfl rfl rfl sl25 ze5 rfl rfl rfl rfl hg4 ?_
  rintro b5 w5 hg5 hax5
  refine ⟨trivial, ?_⟩
  refine RL.mark (i := 0) rfl rfl rfl rfl sl25 Tryd.underlying5 rfl hg5 rfl (if_pos rfl) ?_
  rintro w6 hg6 hax6
  refine ⟨trivial, ?_⟩
  obtain ⟨s7, hg7, hle7, hH7⟩ := hg6.letgo
  have himm : Imm (RInt .u8) 1 s7 (some ⟨b5, 0, none⟩) 9 [49, 50, 51, 52, 53, 54, 55, 56, 57] := ⟨Nat.le_refl _, by decide, .inr ⟨_, rfl, _, (Holds.of (put_same _ _ _)).le hH7, ints_chunks (k := .u8) (xs := [49, 50, 51, 52, 53, 54, 55, 56, 57]) (by simp [rng])⟩⟩
  refine RL.callV rfl rfl rfl rfl rfl ca22 (Sum_ct (xs := [49, 50, 51, 52, 53, 54, 55, 56, 57]) hg7 himm (hT.le (hle2.trans (hle3.trans (hle4.trans hle7))))) ?_
  rintro v8 w8 hg8 hax8 rfl
  refine ⟨trivial, ?_⟩
  refine RL.pure rfl rfl rfl rfl ?_
  refine RL.pure rfl rfl rfl rfl ?_
  refine RL.pure rfl rfl rfl rfl ?_
  refine RL.done ?_
  have hc : (((crc [49, 50, 51, 52, 53, 54, 55, 56, 57]).toNat : Int) == 3808858755) = true := by decide +kernel
  exact CW.ret (ret (vs := [_]) ⟨_, _, rfl, rfl, rfl⟩ (Post.mk (hle2.trans (hle3.trans (hle4.trans hle7))) hg8.drop.drop.nil (hax1.trans (hax2.trans (hax3.trans (hax4.trans (hax5.trans (hax6.trans hax8)))))) (congrArg Value.bool hc)))

/-! ### the law's things -/
structure Thing where
  kind : Int
  u : Int
  i : Int
  b : Bool
  text : List Int
  conf : Conf
  entry : Entry
  snap : Snap
  range : Range
  record : Record
def RThing : Res → List Value → Thing → Prop := fun s vs x =>
  ∃ a c v1 v2 v3 v4 v5, vs = [.int .i64 x.kind, .int .u64 x.u, .int .i64 x.i, .bool x.b, .slice a x.text.length c] ++ v1 ++ v2 ++ v3 ++ v4 ++ v5 ∧
    rng .i64 x.kind ∧ rng .u64 x.u ∧ rng .i64 x.i ∧ Imm (RInt .u8) 1 s a c x.text ∧ RConf s v1 x.conf ∧ REntry s v2 x.entry ∧ RSnap s v3 x.snap ∧ RRange s v4 x.range ∧ RRecord s v5 x.record
theorem RThing.up : Up RThing := fun _ _ _ _ hl ⟨a, c, v1, v2, v3, v4, v5, h, rk, ru, ri, it, h1, h2, h3, h4, h5⟩ =>
  ⟨a, c, v1, v2, v3, v4, v5, h, rk, ru, ri, it.up (RInt.up _) hl, RConf.up _ _ _ _ hl h1, REntry.up _ _ _ _ hl h2, RSnap.up _ _ _ _ hl h3, RRange.up _ _ _ _ hl h4, RRecord.up _ _ _ _ hl h5⟩
def encThing (x : Thing) : List Int :=
  if x.kind = 0 then encU x.u else if x.kind = 1 then encI x.i else if x.kind = 2 then encB x.b else if x.kind = 3 then encT x.text else if x.kind = 4 then encT x.text
  else if x.kind = 5 then encConf x.conf else if x.kind = 6 then encEntry x.entry else if x.kind = 7 then encSnap x.snap else if x.kind = 8 then encRange x.range else encRecord x.record
/-- More than its bytes can be. -/
def Thing.bulk (x : Thing) : Nat := 100 + x.text.length + 10 * x.conf.voters.length + 10 * x.conf.learners.length + (x.entry.data.length + 10 * x.entry.conf.voters.length + 10 * x.entry.conf.learners.length) +
  (x.snap.data.length + 10 * x.snap.conf.voters.length + 10 * x.snap.conf.learners.length) + (x.range.lo.size + x.range.hi.size) + (x.record.key.size + x.record.value.length)


set_option maxRecDepth 100000 in
theorem writes_ct {w : World} {s A : Res} {os : List Res} {p : Nat} {bs : List Int} {vs : List Value} {x : Thing} (hg : Good w s (A :: os)) (hA : WObj s A p bs) (hx : RThing s vs x) (hl : bs.length + x.bulk ≤ 70368744177664) :
    Calls Tryd.prog 12 #[ptr p, .agg vs.toArray] w (Post2 w s os fun s' B A' r => WObj s' A' p (bs ++ encThing x) ∧ BOwn s' B r (encThing x)) := by
  simp only [Thing.bulk] at hl
  obtain ⟨a, c, v1, v2, v3, v4, v5, rfl, rk, ru, ri, it, h1, h2, h3, h4, h5⟩ := hx
  have k1 := h1
  have k2 := h2
  have k3 := h3
  have k4 := h4
  have k5 := h5
  obtain ⟨_, _, _, _, rfl, _⟩ := h1
  obtain ⟨_, _, _, _, _, _, rfl, _⟩ := h2
  obtain ⟨_, _, _, _, _, _, rfl, _⟩ := h3
  obtain ⟨rfl, _⟩ := h4
  obtain ⟨_, _, rfl, _⟩ := h5
  refine enter (l := [ptr p, .agg _]) Tryd.func12 rfl Tryd.ntmps12 rfl ?_
  refine CW.seq (CW.plain ?_)
  refine RL.box rfl rfl rfl rfl rfl hg ?_
  rintro b w1 hgb hax1
  refine ⟨trivial, ?_⟩
  refine RL.pure rfl rfl rfl rfl ?_
  refine RL.done ?_
  obtain ⟨s1, hg1, hle1, hH⟩ := boxed hgb
  have hA1 := hA.up hle1
  have hup : ∀ {t : Res}, Le s1 t → Le s t := fun h => hle1.trans h
  have it1 := it.up (RInt.up _) hle1
  refine CW.seq (CW.seq (CW.plain ?_))
  refine RL.field rfl rfl rfl rfl fl43_0 rfl rfl ?_
  refine RL.load rfl rfl rfl rfl ty3 rfl (hH) (hg1.sh) rfl ?_
  refine RL.done ?_
  refine CW.block ?_
  refine CW.seq (CW.plain ?_)
  refine RL.pure rfl rfl rfl rfl ?_
  refine RL.pure rfl rfl rfl rfl ?_
  refine RL.done ?_
  refine CW.eq rfl (fun h0 => ?_) (fun h0 => ?_)
  · skip
    refine CW.seq (CW.plain ?_)
    refine RL.pure rfl rfl rfl rfl ?_
    refine RL.field rfl rfl rfl rfl fl43_1 rfl rfl ?_
    refine RL.load rfl rfl rfl rfl ty29 rfl (hH) (hg1.sh) rfl ?_
    refine RL.call rfl rfl rfl rfl rfl ca14 (Uint_ct hg1 hA1 ru (by omega)) ?_
    rintro v2 s2 A2 w2 hle2 hg2 hax2 ⟨_, hA2⟩
    refine ⟨trivial, ?_⟩
    refine RL.done ?_
    refine CW.seq (CW.plain ?_)
    refine RL.field rfl rfl rfl rfl fl43_1 rfl rfl ?_
    refine RL.load rfl rfl rfl rfl ty29 rfl (hH.le hle2) (hg2.sh) rfl ?_
    refine RL.call rfl rfl rfl rfl rfl ca36 (rUint_ct hg2 ru) ?_
    rintro r s3 B w3 hle3 hg3 hax3 hB
    refine ⟨trivial, ?_⟩
    refine RL.pure rfl rfl rfl rfl ?_
    refine RL.done ?_
    have e : encThing x = encU x.u := by simp [encThing, *]
    exact CW.ret (ret (vs := [_]) ⟨_, _, rfl, rfl, rfl⟩ (Post2.mk (hle1.trans (hle2.trans hle3)) hg3 (hax1.trans (hax2.trans hax3)) (by rw [e]; exact ⟨hA2.up hle3, hB⟩)))
  refine CW.seq (CW.plain ?_)
  refine RL.pure rfl rfl rfl rfl ?_
  refine RL.pure rfl rfl rfl rfl ?_
  refine RL.done ?_
  refine CW.eq rfl (fun h1 => ?_) (fun h1 => ?_)
  · skip
    refine CW.seq (CW.plain ?_)
    refine RL.pure rfl rfl rfl rfl ?_
    refine RL.field rfl rfl rfl rfl fl43_2 rfl rfl ?_
    refine RL.load rfl rfl rfl rfl ty3 rfl (hH) (hg1.sh) rfl ?_
    refine RL.call rfl rfl rfl rfl rfl ca37 (Int_ct hg1 hA1 ri (by omega)) ?_
    rintro v2 s2 A2 w2 hle2 hg2 hax2 ⟨_, hA2⟩
    refine ⟨trivial, ?_⟩
    refine RL.done ?_
    refine CW.seq (CW.plain ?_)
    refine RL.field rfl rfl rfl rfl fl43_2 rfl rfl ?_
    refine RL.load rfl rfl rfl rfl ty3 rfl (hH.le hle2) (hg2.sh) rfl ?_
    refine RL.call rfl rfl rfl rfl rfl ca38 (rInt_ct hg2 ri) ?_
    rintro r s3 B w3 hle3 hg3 hax3 hB
    refine ⟨trivial, ?_⟩
    refine RL.pure rfl rfl rfl rfl ?_
    refine RL.done ?_
    have e : encThing x = encI x.i := by simp [encThing, *]
    exact CW.ret (ret (vs := [_]) ⟨_, _, rfl, rfl, rfl⟩ (Post2.mk (hle1.trans (hle2.trans hle3)) hg3 (hax1.trans (hax2.trans hax3)) (by rw [e]; exact ⟨hA2.up hle3, hB⟩)))
  refine CW.seq (CW.plain ?_)
  refine RL.pure rfl rfl rfl rfl ?_
  refine RL.pure rfl rfl rfl rfl ?_
  refine RL.done ?_
  refine CW.eq rfl (fun h2 => ?_) (fun h2 => ?_)
  · skip
    refine CW.seq (CW.plain ?_)
    refine RL.pure rfl rfl rfl rfl ?_
    refine RL.field rfl rfl rfl rfl fl43_3 rfl rfl ?_
    refine RL.load rfl rfl rfl rfl ty4 rfl (hH) (hg1.sh) rfl ?_
    refine RL.call rfl rfl rfl rfl rfl ca39 (Bool_ct hg1 hA1 (by omega)) ?_
    rintro v2 s2 A2 w2 hle2 hg2 hax2 ⟨_, hA2⟩
    refine ⟨trivial, ?_⟩
    refine RL.done ?_
    refine CW.seq (CW.plain ?_)
    refine RL.field rfl rfl rfl rfl fl43_3 rfl rfl ?_
    refine RL.load rfl rfl rfl rfl ty4 rfl (hH.le hle2) (hg2.sh) rfl ?_
    refine RL.call rfl rfl rfl rfl rfl ca40 (rBool_ct hg2) ?_
    rintro r s3 B w3 hle3 hg3 hax3 hB
    refine ⟨trivial, ?_⟩
    refine RL.pure rfl rfl rfl rfl ?_
    refine RL.done ?_
    have e : encThing x = encB x.b := by simp [encThing, *]
    exact CW.ret (ret (vs := [_]) ⟨_, _, rfl, rfl, rfl⟩ (Post2.mk (hle1.trans (hle2.trans hle3)) hg3 (hax1.trans (hax2.trans hax3)) (by rw [e]; exact ⟨hA2.up hle3, hB⟩)))
  refine CW.seq (CW.plain ?_)
  refine RL.pure rfl rfl rfl rfl ?_
  refine RL.pure rfl rfl rfl rfl ?_
  refine RL.done ?_
  refine CW.eq rfl (fun h3 => ?_) (fun h3 => ?_)
  · skip
    refine CW.seq (CW.plain ?_)
    refine RL.pure rfl rfl rfl rfl ?_
    refine RL.field rfl rfl rfl rfl fl43_4 rfl rfl ?_
    refine RL.load rfl rfl rfl rfl ty25 rfl (hH) (hg1.sh) rfl ?_
    refine RL.call rfl rfl rfl rfl rfl ca41 (Bytes_ct hg1 hA1 it1 (by omega)) ?_
    rintro v2 s2 A2 w2 hle2 hg2 hax2 ⟨_, hA2⟩
    refine ⟨trivial, ?_⟩
    refine RL.done ?_
    refine CW.seq (CW.plain ?_)
    refine RL.field rfl rfl rfl rfl fl43_4 rfl rfl ?_
    refine RL.load rfl rfl rfl rfl ty25 rfl (hH.le hle2) (hg2.sh) rfl ?_
    refine RL.call rfl rfl rfl rfl rfl ca42 (rText_ct hg2 (it1.up (RInt.up _) hle2) (by omega)) ?_
    rintro r s3 B w3 hle3 hg3 hax3 hB
    refine ⟨trivial, ?_⟩
    refine RL.pure rfl rfl rfl rfl ?_
    refine RL.done ?_
    have e : encThing x = encT x.text := by simp [encThing, *]
    exact CW.ret (ret (vs := [_]) ⟨_, _, rfl, rfl, rfl⟩ (Post2.mk (hle1.trans (hle2.trans hle3)) hg3 (hax1.trans (hax2.trans hax3)) (by rw [e]; exact ⟨hA2.up hle3, hB⟩)))
  refine CW.seq (CW.plain ?_)
  refine RL.pure rfl rfl rfl rfl ?_
  refine RL.pure rfl rfl rfl rfl ?_
  refine RL.done ?_
  refine CW.eq rfl (fun h4 => ?_) (fun h4 => ?_)
  · refine CW.seq (CW.plain ?_)
    have hnt : nums (strOfNums x.text) = x.text := nums_of (fun z hz => it.rng z hz)
    have hnl := nums_length (strOfNums x.text)
    rw [hnt] at hnl
    refine RL.pure rfl rfl rfl rfl ?_
    refine RL.field rfl rfl rfl rfl fl43_4 rfl rfl ?_
    refine RL.load rfl rfl rfl rfl ty25 rfl (hH) (hg1.sh) rfl ?_
    refine RL.bts rfl rfl rfl rfl sl25 Tryd.underlying5 Tryd.underlying9 rfl (it1.2.2) (hg1.sh) ?_
    refine RL.call rfl rfl rfl rfl rfl ca35 (String_ct hg1 hA1 (by omega)) ?_
    rintro v2 s2 A2 w2 hle2 hg2 hax2 ⟨_, hA2⟩
    refine ⟨trivial, ?_⟩
    refine RL.done ?_
    refine CW.seq (CW.plain ?_)
    refine RL.field rfl rfl rfl rfl fl43_4 rfl rfl ?_
    refine RL.load rfl rfl rfl rfl ty25 rfl (hH.le hle2) (hg2.sh) rfl ?_
    refine RL.call rfl rfl rfl rfl rfl ca42 (rText_ct hg2 (it1.up (RInt.up _) hle2) (by omega)) ?_
    rintro r s3 B w3 hle3 hg3 hax3 hB
    refine ⟨trivial, ?_⟩
    refine RL.pure rfl rfl rfl rfl ?_
    refine RL.done ?_
    have e : encThing x = encT x.text := by simp [encThing, *]
    rw [hnt] at hA2
    exact CW.ret (ret (vs := [_]) ⟨_, _, rfl, rfl, rfl⟩ (Post2.mk (hle1.trans (hle2.trans hle3)) hg3 (hax1.trans (hax2.trans hax3)) (by rw [e]; exact ⟨hA2.up hle3, hB⟩)))
  refine CW.seq (CW.plain ?_)
  refine RL.pure rfl rfl rfl rfl ?_
  refine RL.pure rfl rfl rfl rfl ?_
  refine RL.done ?_
  refine CW.eq rfl (fun h5 => ?_) (fun h5 => ?_)
  · skip
    refine CW.seq (CW.plain ?_)
    refine RL.pure rfl rfl rfl rfl ?_
    refine RL.field rfl rfl rfl rfl fl43_5 rfl rfl ?_
    refine RL.loads rfl rfl rfl rfl ty32 rfl (hH) (hg1.sh) rfl rfl ?_
    refine RL.call rfl rfl rfl rfl rfl ca43 (Conf_ct (x := x.conf) hg1 hA1 (RConf.up _ _ _ _ hle1 k1) (by omega)) ?_
    rintro v2 s2 A2 w2 hle2 hg2 hax2 ⟨_, hA2⟩
    refine ⟨trivial, ?_⟩
    refine RL.done ?_
    refine CW.seq (CW.plain ?_)
    refine RL.field rfl rfl rfl rfl fl43_5 rfl rfl ?_
    refine RL.loads rfl rfl rfl rfl ty32 rfl (hH.le hle2) (hg2.sh) rfl rfl ?_
    refine RL.call rfl rfl rfl rfl rfl ca44 (rConf_ct (x := x.conf) hg2 (RConf.up _ _ _ _ (hup hle2) k1) (by omega)) ?_
    rintro r s3 B w3 hle3 hg3 hax3 hB
    refine ⟨trivial, ?_⟩
    refine RL.pure rfl rfl rfl rfl ?_
    refine RL.done ?_
    have e : encThing x = encConf x.conf := by simp [encThing, *]
    exact CW.ret (ret (vs := [_]) ⟨_, _, rfl, rfl, rfl⟩ (Post2.mk (hle1.trans (hle2.trans hle3)) hg3 (hax1.trans (hax2.trans hax3)) (by rw [e]; exact ⟨hA2.up hle3, hB⟩)))
  refine CW.seq (CW.plain ?_)
  refine RL.pure rfl rfl rfl rfl ?_
  refine RL.pure rfl rfl rfl rfl ?_
  refine RL.done ?_
  refine CW.eq rfl (fun h6 => ?_) (fun h6 => ?_)
  · skip
    refine CW.seq (CW.plain ?_)
    refine RL.pure rfl rfl rfl rfl ?_
    refine RL.field rfl rfl rfl rfl fl43_6 rfl rfl ?_
    refine RL.loads rfl rfl rfl rfl ty35 rfl (hH) (hg1.sh) rfl rfl ?_
    refine RL.call rfl rfl rfl rfl rfl ca45 (Entry_ct (x := x.entry) hg1 hA1 (REntry.up _ _ _ _ hle1 k2) (by omega)) ?_
    rintro v2 s2 A2 w2 hle2 hg2 hax2 ⟨_, hA2⟩
    refine ⟨trivial, ?_⟩
    refine RL.done ?_
    refine CW.seq (CW.plain ?_)
    refine RL.field rfl rfl rfl rfl fl43_6 rfl rfl ?_
    refine RL.loads rfl rfl rfl rfl ty35 rfl (hH.le hle2) (hg2.sh) rfl rfl ?_
    refine RL.call rfl rfl rfl rfl rfl ca46 (rEntry_ct (x := x.entry) hg2 (REntry.up _ _ _ _ (hup hle2) k2) (by omega)) ?_
    rintro r s3 B w3 hle3 hg3 hax3 hB
    refine ⟨trivial, ?_⟩
    refine RL.pure rfl rfl rfl rfl ?_
    refine RL.done ?_
    have e : encThing x = encEntry x.entry := by simp [encThing, *]
    exact CW.ret (ret (vs := [_]) ⟨_, _, rfl, rfl, rfl⟩ (Post2.mk (hle1.trans (hle2.trans hle3)) hg3 (hax1.trans (hax2.trans hax3)) (by rw [e]; exact ⟨hA2.up hle3, hB⟩)))
  refine CW.seq (CW.plain ?_)
  refine RL.pure rfl rfl rfl rfl ?_
  refine RL.pure rfl rfl rfl rfl ?_
  refine RL.done ?_
  refine CW.eq rfl (fun h7 => ?_) (fun h7 => ?_)
  · skip
    refine CW.seq (CW.plain ?_)
    refine RL.pure rfl rfl rfl rfl ?_
    refine RL.field rfl rfl rfl rfl fl43_7 rfl rfl ?_
    refine RL.loads rfl rfl rfl rfl ty37 rfl (hH) (hg1.sh) rfl rfl ?_
    refine RL.call rfl rfl rfl rfl rfl ca47 (Snap_ct (x := x.snap) hg1 hA1 (RSnap.up _ _ _ _ hle1 k3) (by omega)) ?_
    rintro v2 s2 A2 w2 hle2 hg2 hax2 ⟨_, hA2⟩
    refine ⟨trivial, ?_⟩
    refine RL.done ?_
    refine CW.seq (CW.plain ?_)
    refine RL.field rfl rfl rfl rfl fl43_7 rfl rfl ?_
    refine RL.loads rfl rfl rfl rfl ty37 rfl (hH.le hle2) (hg2.sh) rfl rfl ?_
    refine RL.call rfl rfl rfl rfl rfl ca48 (rSnap_ct (x := x.snap) hg2 (RSnap.up _ _ _ _ (hup hle2) k3) (by omega)) ?_
    rintro r s3 B w3 hle3 hg3 hax3 hB
    refine ⟨trivial, ?_⟩
    refine RL.pure rfl rfl rfl rfl ?_
    refine RL.done ?_
    have e : encThing x = encSnap x.snap := by simp [encThing, *]
    exact CW.ret (ret (vs := [_]) ⟨_, _, rfl, rfl, rfl⟩ (Post2.mk (hle1.trans (hle2.trans hle3)) hg3 (hax1.trans (hax2.trans hax3)) (by rw [e]; exact ⟨hA2.up hle3, hB⟩)))
  refine CW.seq (CW.plain ?_)
  refine RL.pure rfl rfl rfl rfl ?_
  refine RL.pure rfl rfl rfl rfl ?_
  refine RL.done ?_
  refine CW.eq rfl (fun h8 => ?_) (fun h8 => ?_)
  · skip
    refine CW.seq (CW.plain ?_)
    refine RL.pure rfl rfl rfl rfl ?_
    refine RL.field rfl rfl rfl rfl fl43_8 rfl rfl ?_
    refine RL.loads rfl rfl rfl rfl ty39 rfl (hH) (hg1.sh) rfl rfl ?_
    refine RL.call rfl rfl rfl rfl rfl ca49 (Range_ct (x := x.range) hg1 hA1 (RRange.up _ _ _ _ hle1 k4) (by omega)) ?_
    rintro v2 s2 A2 w2 hle2 hg2 hax2 ⟨_, hA2⟩
    refine ⟨trivial, ?_⟩
    refine RL.done ?_
    refine CW.seq (CW.plain ?_)
    refine RL.field rfl rfl rfl rfl fl43_8 rfl rfl ?_
    refine RL.loads rfl rfl rfl rfl ty39 rfl (hH.le hle2) (hg2.sh) rfl rfl ?_
    refine RL.call rfl rfl rfl rfl rfl ca50 (rRange_ct (x := x.range) hg2 (RRange.up _ _ _ _ (hup hle2) k4) (by omega)) ?_
    rintro r s3 B w3 hle3 hg3 hax3 hB
    refine ⟨trivial, ?_⟩
    refine RL.pure rfl rfl rfl rfl ?_
    refine RL.done ?_
    have e : encThing x = encRange x.range := by simp [encThing, *]
    exact CW.ret (ret (vs := [_]) ⟨_, _, rfl, rfl, rfl⟩ (Post2.mk (hle1.trans (hle2.trans hle3)) hg3 (hax1.trans (hax2.trans hax3)) (by rw [e]; exact ⟨hA2.up hle3, hB⟩)))
  refine CW.skip ?_
  refine CW.seq (CW.plain ?_)
  refine RL.pure rfl rfl rfl rfl ?_
  refine RL.field rfl rfl rfl rfl fl43_9 rfl rfl ?_
  refine RL.loads rfl rfl rfl rfl ty41 rfl (hH) (hg1.sh) rfl rfl ?_
  refine RL.call rfl rfl rfl rfl rfl ca51 (Record_ct (x := x.record) hg1 hA1 (RRecord.up _ _ _ _ hle1 k5) (by omega)) ?_
  rintro v2 s2 A2 w2 hle2 hg2 hax2 ⟨_, hA2⟩
  refine ⟨trivial, ?_⟩
  refine RL.done ?_
  refine CW.seq (CW.plain ?_)
  refine RL.field rfl rfl rfl rfl fl43_9 rfl rfl ?_
  refine RL.loads rfl rfl rfl rfl ty41 rfl (hH.le hle2) (hg2.sh) rfl rfl ?_
  refine RL.call rfl rfl rfl rfl rfl ca52 (rRecord_ct (x := x.record) hg2 (RRecord.up _ _ _ _ (hup hle2) k5) (by omega)) ?_
  rintro r s3 B w3 hle3 hg3 hax3 hB
  refine ⟨trivial, ?_⟩
  refine RL.pure rfl rfl rfl rfl ?_
  refine RL.done ?_
  have e : encThing x = encRecord x.record := by simp [encThing, *]
  exact CW.ret (ret (vs := [_]) ⟨_, _, rfl, rfl, rfl⟩ (Post2.mk (hle1.trans (hle2.trans hle3)) hg3 (hax1.trans (hax2.trans hax3)) (by rw [e]; exact ⟨hA2.up hle3, hB⟩)))
end Go.Lw
