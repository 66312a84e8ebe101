/-
  The codec's Writer on structures.
-/
import Derived.Test.YtcbifehmmfjioaaDoorNmsCodecP
namespace Go.Lw
open Go.Proofs


set_option maxRecDepth 100000 in
theorem ints_ct {w : World} {s A : Res} {os : List Res} {p : Nat} {bs : List Int} {xs : List Int} {xa : Option Addr} {xc : Nat} (hg : Good w s (A :: os)) (hA : WObj s A p bs) (hx : Imm (RInt .i64) 1 s xa xc xs) (hl : bs.length + 10 + 10 * xs.length ≤ 140737488355328) :
    Calls Tryd.prog 81 #[ptr p, .slice xa xs.length xc] w (Post w s os fun s' A' r => r = .tuple #[] ∧ WObj s' A' p (bs ++ encN xs)) := by
  refine enter (l := [ptr p, .slice xa xs.length xc]) Tryd.func81 rfl Tryd.ntmps81 rfl ?_
  have hu := encU_length (xs.length : Int)
  refine CW.seq (CW.plain ?_)
  refine RL.pure rfl rfl rfl rfl ?_
  refine RL.pure rfl rfl rfl rfl ?_
  refine RL.len rfl rfl rfl rfl sl30 rfl ?_
  refine RL.conv rfl rfl rfl rfl Tryd.underlying3 Tryd.underlying29 rfl ((by simp only [rng]; omega)) ?_
  refine RL.call rfl rfl rfl rfl rfl ca14 (Uint_ct hg hA (by simp only [rng]; omega) (by omega)) ?_
  rintro v s1 A1 w1 hle1 hg1 hax1 ⟨_, hA1⟩
  refine ⟨trivial, ?_⟩
  refine RL.done ?_
  refine CW.seq (CW.plain ?_)
  refine RL.pure rfl rfl rfl rfl ?_
  refine RL.len rfl rfl rfl rfl sl30 rfl ?_
  refine RL.pure rfl rfl rfl rfl ?_
  refine RL.done ?_
  refine CW.block (CW.loop (σ := Nat) (fun j E w' => ∃ s' A' , ∃ k : Nat, E = [(0, ptr p), (11, .slice xa xs.length xc), (12, .int .i64 xs.length), (13, .int .i64 k)] ∧ Good w' s' (A' :: os) ∧ Le s s' ∧ Aux w w' ∧ WObj s' A' p (bs ++ encU xs.length ++ encIs (xs.take k)) ∧ k + j = xs.length)
    (fun j => j) xs.length [(0, ptr p), (11, .slice xa xs.length xc), (12, .int .i64 xs.length), (13, .int .i64 0)] ⟨rfl, rfl, rfl, rfl, trivial⟩ ⟨s1, A1, 0, rfl, hg1, hle1, hax1, by simpa [encIs] using hA1, by omega⟩ ?_)
  rintro j E w2 ⟨s2, A2, k, rfl, hg2, hle2, hax2, hA2, hk⟩
  refine CW.seq (CW.plain ?_)
  refine RL.pure rfl rfl rfl rfl ?_
  refine RL.done ?_
  refine CW.seq (CW.test rfl (fun h => ?_) (fun h => ?_))
  · refine CW.skip ?_
    have hkl : k < xs.length := by omega
    have hxr := hx.rng
    have hlk := encIs_length (xs.take k)
    have hlk' : (xs.take k).length = k := by simp; omega
    refine CW.seq (CW.block (CW.seq (CW.plain ?_)))
    refine RL.idx rfl rfl rfl rfl sl30 rfl rfl (hx.up (RInt.up _) hle2) (by omega) (by omega) ?_
    rintro q vs hvl hH ⟨rfl, hr⟩
    refine RL.load rfl rfl rfl rfl ty3 rfl (hH) (hg2.sh) rfl ?_
    refine RL.pure rfl rfl rfl rfl ?_
    refine RL.done ?_
    refine CW.plain ?_
    refine RL.pure rfl rfl rfl rfl ?_
    refine RL.pure rfl rfl rfl rfl ?_
    refine RL.call rfl rfl rfl rfl rfl ca37 (Int_ct hg2 hA2 hr (by simp only [List.length_append]; omega)) ?_
    rintro v3 s3 A3 w3 hle3 hg3 hax3 ⟨_, hA3⟩
    refine ⟨trivial, ?_⟩
    refine RL.done ?_
    refine CW.plain ?_
    refine RL.add rfl rfl rfl rfl rfl rfl (by simp only [rng] at *; omega) ?_
    refine RL.pure rfl rfl rfl rfl ?_
    refine RL.done ?_
    cases j with
    | zero => omega
    | succ j =>
      refine fun ac ha => ⟨j, [(0, ptr p), (11, .slice xa xs.length xc), (12, .int .i64 xs.length), (13, .int .i64 ((k : Int) + 1))], ha.sub ⟨rfl, rfl, rfl, rfl, trivial⟩, ⟨s3, A3, k + 1, rfl, hg3, hle2.trans hle3, hax2.trans hax3, ?_, by omega⟩, Nat.lt_succ_self j⟩
      rw [encIs_snoc xs k hkl, ← List.append_assoc]
      exact hA3
  · refine CW.exit ?_
    have hkl : k = xs.length := by omega
    subst hkl
    refine fall (vs := []) rfl (Post.mk hle2 hg2 hax2 ⟨rfl, ?_⟩)
    rw [encN, ← List.append_assoc]
    simpa using hA2

set_option maxRecDepth 100000 in
theorem Conf_ct {w : World} {s A : Res} {os : List Res} {p : Nat} {bs : List Int} {vs : List Value} {x : Conf} (hg : Good w s (A :: os)) (hA : WObj s A p bs) (hx : RConf s vs x) (hl : bs.length + 20 + 10 * x.voters.length + 10 * x.learners.length ≤ 140737488355328) :
    Calls Tryd.prog 43 #[ptr p, .agg vs.toArray] w (Post w s os fun s' A' r => r = .tuple #[] ∧ WObj s' A' p (bs ++ encConf x)) := by
  have u1 := encN_length x.voters
  obtain ⟨a, c, a', c', rfl, i1, i2⟩ := hx
  refine enter (l := [ptr p, .agg #[.slice a x.voters.length c, .slice a' x.learners.length c']]) Tryd.func43 rfl Tryd.ntmps43 rfl ?_
  refine CW.seq (CW.plain ?_)
  refine RL.box rfl rfl rfl rfl rfl hg ?_
  rintro b w1 hgb hax1
  refine ⟨trivial, ?_⟩
  refine RL.done ?_
  obtain ⟨s1, hg1, hle1, hH⟩ := boxed hgb
  have hl1 : Le s1 s1 := Le.refl _
  have hx1 := hax1
  have hA1 := hA.up hle1
  refine CW.seq (CW.plain ?_)
  refine RL.pure rfl rfl rfl rfl ?_
  refine RL.field rfl rfl rfl rfl fl32_0 rfl rfl ?_
  refine RL.load rfl rfl rfl rfl ty30 rfl (hH.le hl1) (hg1.sh) rfl ?_
  refine RL.call rfl rfl rfl rfl rfl ca81 (ints_ct hg1 hA1 (i1.up (RInt.up _) hle1) (by omega)) ?_
  rintro v2 s2 A2 w2 hle2 hg2 hax2 ⟨_, hA2⟩
  refine ⟨trivial, ?_⟩
  refine RL.done ?_
  have hl2 := hl1.trans hle2
  have hx2 := hx1.trans hax2
  refine CW.plain ?_
  refine RL.pure rfl rfl rfl rfl ?_
  refine RL.field rfl rfl rfl rfl fl32_1 rfl rfl ?_
  refine RL.load rfl rfl rfl rfl ty30 rfl (hH.le hl2) (hg2.sh) rfl ?_
  refine RL.call rfl rfl rfl rfl rfl ca81 (ints_ct hg2 hA2 (i2.up (RInt.up _) (hle1.trans hl2)) (by simp only [List.length_append]; omega)) ?_
  rintro v3 s3 A3 w3 hle3 hg3 hax3 ⟨_, hA3⟩
  refine ⟨trivial, ?_⟩
  refine RL.done ?_
  have hl3 := hl2.trans hle3
  have hx3 := hx2.trans hax3
  refine fall (vs := []) rfl (Post.mk (hle1.trans hl3) hg3 hx3 ⟨rfl, ?_⟩)
  simpa only [encConf, List.append_assoc] using hA3

set_option maxRecDepth 100000 in
theorem Entry_ct {w : World} {s A : Res} {os : List Res} {p : Nat} {bs : List Int} {vs : List Value} {x : Entry} (hg : Good w s (A :: os)) (hA : WObj s A p bs) (hx : REntry s vs x) (hl : bs.length + 60 + x.data.length + 10 * x.conf.voters.length + 10 * x.conf.learners.length ≤ 140737488355328) :
    Calls Tryd.prog 45 #[ptr p, .agg vs.toArray] w (Post w s os fun s' A' r => r = .tuple #[] ∧ WObj s' A' p (bs ++ encEntry x)) := by
  have u1 := encU_length x.index
  have u2 := encU_length x.term
  have u3 := encI_length x.kind
  have u4 := encT_length x.data
  obtain ⟨a, c, a1, c1, a2, c2, rfl, r1, r2, r3, i1, i2, i3⟩ := hx
  refine enter (l := [ptr p, .agg #[.int .u64 x.index, .int .u64 x.term, .int .i64 x.kind, .slice a x.data.length c, .slice a1 x.conf.voters.length c1, .slice a2 x.conf.learners.length c2]]) Tryd.func45 rfl Tryd.ntmps45 rfl ?_
  refine CW.seq (CW.plain ?_)
  refine RL.box rfl rfl rfl rfl rfl hg ?_
  rintro b w1 hgb hax1
  refine ⟨trivial, ?_⟩
  refine RL.done ?_
  obtain ⟨s1, hg1, hle1, hH⟩ := boxed hgb
  have hl1 : Le s1 s1 := Le.refl _
  have hx1 := hax1
  have hA1 := hA.up hle1
  refine CW.seq (CW.plain ?_)
  refine RL.pure rfl rfl rfl rfl ?_
  refine RL.field rfl rfl rfl rfl fl35_0 rfl rfl ?_
  refine RL.load rfl rfl rfl rfl ty29 rfl (hH.le hl1) (hg1.sh) rfl ?_
  refine RL.call rfl rfl rfl rfl rfl ca14 (Uint_ct hg1 hA1 r1 (by omega)) ?_
  rintro v2 s2 A2 w2 hle2 hg2 hax2 ⟨_, hA2⟩
  refine ⟨trivial, ?_⟩
  refine RL.done ?_
  have hl2 := hl1.trans hle2
  have hx2 := hx1.trans hax2
  refine CW.seq (CW.plain ?_)
  refine RL.pure rfl rfl rfl rfl ?_
  refine RL.field rfl rfl rfl rfl fl35_1 rfl rfl ?_
  refine RL.load rfl rfl rfl rfl ty29 rfl (hH.le hl2) (hg2.sh) rfl ?_
  refine RL.call rfl rfl rfl rfl rfl ca14 (Uint_ct hg2 hA2 r2 (by simp only [List.length_append]; omega)) ?_
  rintro v3 s3 A3 w3 hle3 hg3 hax3 ⟨_, hA3⟩
  refine ⟨trivial, ?_⟩
  refine RL.done ?_
  have hl3 := hl2.trans hle3
  have hx3 := hx2.trans hax3
  refine CW.seq (CW.plain ?_)
  refine RL.pure rfl rfl rfl rfl ?_
  refine RL.field rfl rfl rfl rfl fl35_2 rfl rfl ?_
  refine RL.load rfl rfl rfl rfl ty33 rfl (hH.le hl3) (hg3.sh) rfl ?_
  refine RL.call rfl rfl rfl rfl rfl ca37 (Int_ct hg3 hA3 r3 (by simp only [List.length_append]; omega)) ?_
  rintro v4 s4 A4 w4 hle4 hg4 hax4 ⟨_, hA4⟩
  refine ⟨trivial, ?_⟩
  refine RL.done ?_
  have hl4 := hl3.trans hle4
  have hx4 := hx3.trans hax4
  refine CW.seq (CW.plain ?_)
  refine RL.pure rfl rfl rfl rfl ?_
  refine RL.field rfl rfl rfl rfl fl35_3 rfl rfl ?_
  refine RL.load rfl rfl rfl rfl ty25 rfl (hH.le hl4) (hg4.sh) rfl ?_
  refine RL.call rfl rfl rfl rfl rfl ca41 (Bytes_ct hg4 hA4 (i1.up (RInt.up _) (hle1.trans hl4)) (by simp only [List.length_append]; omega)) ?_
  rintro v5 s5 A5 w5 hle5 hg5 hax5 ⟨_, hA5⟩
  refine ⟨trivial, ?_⟩
  refine RL.done ?_
  have hl5 := hl4.trans hle5
  have hx5 := hx4.trans hax5
  refine CW.plain ?_
  refine RL.pure rfl rfl rfl rfl ?_
  refine RL.field rfl rfl rfl rfl fl35_4 rfl rfl ?_
  refine RL.loads rfl rfl rfl rfl ty32 rfl (hH.le hl5) (hg5.sh) rfl rfl ?_
  refine RL.call rfl rfl rfl rfl rfl ca43 (Conf_ct (x := x.conf) hg5 hA5 ⟨a1, c1, a2, c2, rfl, i2.up (RInt.up _) (hle1.trans hl5), i3.up (RInt.up _) (hle1.trans hl5)⟩ (by simp only [List.length_append]; omega)) ?_
  rintro v6 s6 A6 w6 hle6 hg6 hax6 ⟨_, hA6⟩
  refine ⟨trivial, ?_⟩
  refine RL.done ?_
  have hl6 := hl5.trans hle6
  have hx6 := hx5.trans hax6
  refine fall (vs := []) rfl (Post.mk (hle1.trans hl6) hg6 hx6 ⟨rfl, ?_⟩)
  simpa only [encEntry, List.append_assoc] using hA6

set_option maxRecDepth 100000 in
theorem Snap_ct {w : World} {s A : Res} {os : List Res} {p : Nat} {bs : List Int} {vs : List Value} {x : Snap} (hg : Good w s (A :: os)) (hA : WObj s A p bs) (hx : RSnap s vs x) (hl : bs.length + 60 + x.data.length + 10 * x.conf.voters.length + 10 * x.conf.learners.length ≤ 140737488355328) :
    Calls Tryd.prog 47 #[ptr p, .agg vs.toArray] w (Post w s os fun s' A' r => r = .tuple #[] ∧ WObj s' A' p (bs ++ encSnap x)) := by
  have u1 := encU_length x.index
  have u2 := encU_length x.term
  have u3 := encConf_length x.conf
  obtain ⟨a, c, a1, c1, a2, c2, rfl, r1, r2, i1, i2, i3⟩ := hx
  refine enter (l := [ptr p, .agg #[.int .u64 x.index, .int .u64 x.term, .slice a1 x.conf.voters.length c1, .slice a2 x.conf.learners.length c2, .slice a x.data.length c]]) Tryd.func47 rfl Tryd.ntmps47 rfl ?_
  refine CW.seq (CW.plain ?_)
  refine RL.box rfl rfl rfl rfl rfl hg ?_
  rintro b w1 hgb hax1
  refine ⟨trivial, ?_⟩
  refine RL.done ?_
  obtain ⟨s1, hg1, hle1, hH⟩ := boxed hgb
  have hl1 : Le s1 s1 := Le.refl _
  have hx1 := hax1
  have hA1 := hA.up hle1
  refine CW.seq (CW.plain ?_)
  refine RL.pure rfl rfl rfl rfl ?_
  refine RL.field rfl rfl rfl rfl fl37_0 rfl rfl ?_
  refine RL.load rfl rfl rfl rfl ty29 rfl (hH.le hl1) (hg1.sh) rfl ?_
  refine RL.call rfl rfl rfl rfl rfl ca14 (Uint_ct hg1 hA1 r1 (by omega)) ?_
  rintro v2 s2 A2 w2 hle2 hg2 hax2 ⟨_, hA2⟩
  refine ⟨trivial, ?_⟩
  refine RL.done ?_
  have hl2 := hl1.trans hle2
  have hx2 := hx1.trans hax2
  refine CW.seq (CW.plain ?_)
  refine RL.pure rfl rfl rfl rfl ?_
  refine RL.field rfl rfl rfl rfl fl37_1 rfl rfl ?_
  refine RL.load rfl rfl rfl rfl ty29 rfl (hH.le hl2) (hg2.sh) rfl ?_
  refine RL.call rfl rfl rfl rfl rfl ca14 (Uint_ct hg2 hA2 r2 (by simp only [List.length_append]; omega)) ?_
  rintro v3 s3 A3 w3 hle3 hg3 hax3 ⟨_, hA3⟩
  refine ⟨trivial, ?_⟩
  refine RL.done ?_
  have hl3 := hl2.trans hle3
  have hx3 := hx2.trans hax3
  refine CW.seq (CW.plain ?_)
  refine RL.pure rfl rfl rfl rfl ?_
  refine RL.field rfl rfl rfl rfl fl37_2 rfl rfl ?_
  refine RL.loads rfl rfl rfl rfl ty32 rfl (hH.le hl3) (hg3.sh) rfl rfl ?_
  refine RL.call rfl rfl rfl rfl rfl ca43 (Conf_ct (x := x.conf) hg3 hA3 ⟨a1, c1, a2, c2, rfl, i2.up (RInt.up _) (hle1.trans hl3), i3.up (RInt.up _) (hle1.trans hl3)⟩ (by simp only [List.length_append]; omega)) ?_
  rintro v4 s4 A4 w4 hle4 hg4 hax4 ⟨_, hA4⟩
  refine ⟨trivial, ?_⟩
  refine RL.done ?_
  have hl4 := hl3.trans hle4
  have hx4 := hx3.trans hax4
  refine CW.plain ?_
  refine RL.pure rfl rfl rfl rfl ?_
  refine RL.field rfl rfl rfl rfl fl37_3 rfl rfl ?_
  refine RL.load rfl rfl rfl rfl ty25 rfl (hH.le hl4) (hg4.sh) rfl ?_
  refine RL.call rfl rfl rfl rfl rfl ca41 (Bytes_ct hg4 hA4 (i1.up (RInt.up _) (hle1.trans hl4)) (by simp only [List.length_append]; omega)) ?_
  rintro v5 s5 A5 w5 hle5 hg5 hax5 ⟨_, hA5⟩
  refine ⟨trivial, ?_⟩
  refine RL.done ?_
  have hl5 := hl4.trans hle5
  have hx5 := hx4.trans hax5
  refine fall (vs := []) rfl (Post.mk (hle1.trans hl5) hg5 hx5 ⟨rfl, ?_⟩)
  simpa only [encSnap, List.append_assoc] using hA5

set_option maxRecDepth 100000 in
theorem Range_ct {w : World} {s A : Res} {os : List Res} {p : Nat} {bs : List Int} {vs : List Value} {x : Range} (hg : Good w s (A :: os)) (hA : WObj s A p bs) (hx : RRange s vs x) (hl : bs.length + 20 + x.lo.size + x.hi.size ≤ 140737488355328) :
    Calls Tryd.prog 49 #[ptr p, .agg vs.toArray] w (Post w s os fun s' A' r => r = .tuple #[] ∧ WObj s' A' p (bs ++ encRange x)) := by
  have u1 := encT_length (nums x.lo)
  have n1 := nums_length x.lo
  obtain ⟨rfl, r1, r2⟩ := hx
  refine enter (l := [ptr p, .agg #[.string x.lo, .string x.hi]]) Tryd.func49 rfl Tryd.ntmps49 rfl ?_
  refine CW.seq (CW.plain ?_)
  refine RL.box rfl rfl rfl rfl rfl hg ?_
  rintro b w1 hgb hax1
  refine ⟨trivial, ?_⟩
  refine RL.done ?_
  obtain ⟨s1, hg1, hle1, hH⟩ := boxed hgb
  have hl1 : Le s1 s1 := Le.refl _
  have hx1 := hax1
  have hA1 := hA.up hle1
  refine CW.seq (CW.plain ?_)
  refine RL.pure rfl rfl rfl rfl ?_
  refine RL.field rfl rfl rfl rfl fl39_0 rfl rfl ?_
  refine RL.load rfl rfl rfl rfl ty9 rfl (hH.le hl1) (hg1.sh) rfl ?_
  refine RL.call rfl rfl rfl rfl rfl ca35 (String_ct hg1 hA1 (by omega)) ?_
  rintro v2 s2 A2 w2 hle2 hg2 hax2 ⟨_, hA2⟩
  refine ⟨trivial, ?_⟩
  refine RL.done ?_
  have hl2 := hl1.trans hle2
  have hx2 := hx1.trans hax2
  refine CW.plain ?_
  refine RL.pure rfl rfl rfl rfl ?_
  refine RL.field rfl rfl rfl rfl fl39_1 rfl rfl ?_
  refine RL.load rfl rfl rfl rfl ty9 rfl (hH.le hl2) (hg2.sh) rfl ?_
  refine RL.call rfl rfl rfl rfl rfl ca35 (String_ct hg2 hA2 (by simp only [List.length_append]; omega)) ?_
  rintro v3 s3 A3 w3 hle3 hg3 hax3 ⟨_, hA3⟩
  refine ⟨trivial, ?_⟩
  refine RL.done ?_
  have hl3 := hl2.trans hle3
  have hx3 := hx2.trans hax3
  refine fall (vs := []) rfl (Post.mk (hle1.trans hl3) hg3 hx3 ⟨rfl, ?_⟩)
  simpa only [encRange, List.append_assoc] using hA3

set_option maxRecDepth 100000 in
theorem Record_ct {w : World} {s A : Res} {os : List Res} {p : Nat} {bs : List Int} {vs : List Value} {x : Record} (hg : Good w s (A :: os)) (hA : WObj s A p bs) (hx : RRecord s vs x) (hl : bs.length + 60 + x.key.size + x.value.length ≤ 140737488355328) :
    Calls Tryd.prog 51 #[ptr p, .agg vs.toArray] w (Post w s os fun s' A' r => r = .tuple #[] ∧ WObj s' A' p (bs ++ encRecord x)) := by
  have u1 := encU_length x.offset
  have u2 := encT_length (nums x.key)
  have n2 := nums_length x.key
  have u3 := encT_length x.value
  have u4 := encU_length x.producer
  obtain ⟨a, c, rfl, r1, r2, i1, r3, r4⟩ := hx
  refine enter (l := [ptr p, .agg #[.int .u64 x.offset, .string x.key, .slice a x.value.length c, .int .u64 x.producer, .int .u64 x.seq]]) Tryd.func51 rfl Tryd.ntmps51 rfl ?_
  refine CW.seq (CW.plain ?_)
  refine RL.box rfl rfl rfl rfl rfl hg ?_
  rintro b w1 hgb hax1
  refine ⟨trivial, ?_⟩
  refine RL.done ?_
  obtain ⟨s1, hg1, hle1, hH⟩ := boxed hgb
  have hl1 : Le s1 s1 := Le.refl _
  have hx1 := hax1
  have hA1 := hA.up hle1
  refine CW.seq (CW.plain ?_)
  refine RL.pure rfl rfl rfl rfl ?_
  refine RL.field rfl rfl rfl rfl fl41_0 rfl rfl ?_
  refine RL.load rfl rfl rfl rfl ty29 rfl (hH.le hl1) (hg1.sh) rfl ?_
  refine RL.call rfl rfl rfl rfl rfl ca14 (Uint_ct hg1 hA1 r1 (by omega)) ?_
  rintro v2 s2 A2 w2 hle2 hg2 hax2 ⟨_, hA2⟩
  refine ⟨trivial, ?_⟩
  refine RL.done ?_
  have hl2 := hl1.trans hle2
  have hx2 := hx1.trans hax2
  refine CW.seq (CW.plain ?_)
  refine RL.pure rfl rfl rfl rfl ?_
  refine RL.field rfl rfl rfl rfl fl41_1 rfl rfl ?_
  refine RL.load rfl rfl rfl rfl ty9 rfl (hH.le hl2) (hg2.sh) rfl ?_
  refine RL.call rfl rfl rfl rfl rfl ca35 (String_ct hg2 hA2 (by simp only [List.length_append]; omega)) ?_
  rintro v3 s3 A3 w3 hle3 hg3 hax3 ⟨_, hA3⟩
  refine ⟨trivial, ?_⟩
  refine RL.done ?_
  have hl3 := hl2.trans hle3
  have hx3 := hx2.trans hax3
  refine CW.seq (CW.plain ?_)
  refine RL.pure rfl rfl rfl rfl ?_
  refine RL.field rfl rfl rfl rfl fl41_2 rfl rfl ?_
  refine RL.load rfl rfl rfl rfl ty25 rfl (hH.le hl3) (hg3.sh) rfl ?_
  refine RL.call rfl rfl rfl rfl rfl ca41 (Bytes_ct hg3 hA3 (i1.up (RInt.up _) (hle1.trans hl3)) (by simp only [List.length_append]; omega)) ?_
  rintro v4 s4 A4 w4 hle4 hg4 hax4 ⟨_, hA4⟩
  refine ⟨trivial, ?_⟩
  refine RL.done ?_
  have hl4 := hl3.trans hle4
  have hx4 := hx3.trans hax4
  refine CW.seq (CW.plain ?_)
  refine RL.pure rfl rfl rfl rfl ?_
  refine RL.field rfl rfl rfl rfl fl41_3 rfl rfl ?_
  refine RL.load rfl rfl rfl rfl ty29 rfl (hH.le hl4) (hg4.sh) rfl ?_
  refine RL.call rfl rfl rfl rfl rfl ca14 (Uint_ct hg4 hA4 r3 (by simp only [List.length_append]; omega)) ?_
  rintro v5 s5 A5 w5 hle5 hg5 hax5 ⟨_, hA5⟩
  refine ⟨trivial, ?_⟩
  refine RL.done ?_
  have hl5 := hl4.trans hle5
  have hx5 := hx4.trans hax5
  refine CW.plain ?_
  refine RL.pure rfl rfl rfl rfl ?_
  refine RL.field rfl rfl rfl rfl fl41_4 rfl rfl ?_
  refine RL.load rfl rfl rfl rfl ty29 rfl (hH.le hl5) (hg5.sh) rfl ?_
  refine RL.call rfl rfl rfl rfl rfl ca14 (Uint_ct hg5 hA5 r4 (by simp only [List.length_append]; omega)) ?_
  rintro v6 s6 A6 w6 hle6 hg6 hax6 ⟨_, hA6⟩
  refine ⟨trivial, ?_⟩
  refine RL.done ?_
  have hl6 := hl5.trans hle6
  have hx6 := hx5.trans hax6
  refine fall (vs := []) rfl (Post.mk (hle1.trans hl6) hg6 hx6 ⟨rfl, ?_⟩)
  simpa only [encRecord, List.append_assoc] using hA6
end Go.Lw
