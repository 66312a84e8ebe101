/-
  The document's codec on structures.
-/
import Derived.Test.YtcbifehmmfjioaaDoorNmsCodecS
namespace Go.Lw
open Go.Proofs



set_option maxRecDepth 100000 in
theorem rints_ct {w : World} {s : Res} {os : List Res} {xs : List Int} {xa : Option Addr} {xc : Nat} (hg : Good w s os) (hx : Imm (RInt .i64) 1 s xa xc xs) (hl : 20 + 10 * xs.length ≤ 140737488355328) :
    Calls Tryd.prog 82 #[.slice xa xs.length xc] w (Post w s os fun s' A' r => BOwn s' A' r (encN xs)) := by
  refine enter (l := [.slice xa xs.length xc]) Tryd.func82 rfl Tryd.ntmps82 rfl ?_
  have hu := encU_length (xs.length : Int)
  refine CW.seq (CW.plain ?_)
  refine RL.pure rfl rfl rfl rfl ?_
  refine RL.done ?_
  refine CW.seq (CW.plain ?_)
  refine RL.pure rfl rfl rfl rfl ?_
  refine RL.len rfl rfl rfl rfl sl30 rfl ?_
  refine RL.conv rfl rfl rfl rfl Tryd.underlying3 Tryd.underlying29 rfl ((by simp only [rng]; omega)) ?_
  refine RL.call rfl rfl rfl rfl rfl ca36 (rUint_ct hg (by simp only [rng]; omega)) ?_
  rintro r s1 A1 w1 hle1 hg1 hax1 ⟨a1, c1, rfl, hown1⟩
  refine ⟨trivial, ?_⟩
  refine RL.pure rfl rfl rfl rfl ?_
  refine RL.done ?_
  refine CW.seq (CW.seq (CW.plain ?_))
  refine RL.pure rfl rfl rfl rfl ?_
  refine RL.done ?_
  refine CW.block (CW.loop (σ := Nat) (fun j E w' => ∃ s' A' a c, ∃ k : Nat, E = [(0, .slice xa xs.length xc), (3, .slice a (encU xs.length ++ encIs (xs.take k)).length c), (4, .int .i64 k)] ∧ Good w' s' (A' :: os) ∧ Le s s' ∧ Aux w w' ∧ Own (RInt .u8) 1 5 s' A' a c (encU xs.length ++ encIs (xs.take k)) ∧ k + j = xs.length)
    (fun j => j) xs.length [(0, .slice xa xs.length xc), (3, .slice a1 (encU xs.length ++ encIs (xs.take 0)).length c1), (4, .int .i64 0)] ⟨rfl, by simp [encIs]; rfl, rfl, trivial⟩ ⟨s1, A1, a1, c1, 0, rfl, hg1, hle1, hax1, by simpa [encIs] using hown1, by omega⟩ ?_)
  rintro j E w2 ⟨s2, A2, a, c, k, rfl, hg2, hle2, hax2, hown2, hk⟩
  refine CW.seq (CW.seq (CW.plain ?_))
  refine RL.pure rfl rfl rfl rfl ?_
  refine RL.pure rfl rfl rfl rfl ?_
  refine RL.len rfl rfl rfl rfl sl30 rfl ?_
  refine RL.pure rfl rfl rfl rfl ?_
  refine RL.done ?_
  refine CW.test rfl (fun h => ?_) (fun h => ?_)
  · refine CW.skip ?_
    have hkl : k < xs.length := by omega
    have hxr := hx.rng
    have hlk := encIs_length (xs.take k)
    have hlk' : (xs.take k).length = k := by simp; omega
    have hli := encI_length xs[k]
    refine CW.seq (CW.block (CW.plain ?_))
    refine RL.pure rfl rfl rfl rfl ?_
    refine RL.pure rfl rfl rfl rfl ?_
    refine RL.pure rfl rfl rfl rfl ?_
    refine RL.idx rfl rfl rfl rfl sl30 rfl rfl (hx.up (RInt.up _) hle2) (by omega) (by omega) ?_
    rintro q vs hvl hH ⟨rfl, hr⟩
    refine RL.load rfl rfl rfl rfl ty3 rfl (hH) (hg2.sh) rfl ?_
    refine RL.call rfl rfl rfl rfl rfl ca38 (rInt_ct hg2 hr) ?_
    rintro r3 s3 B3 w3 hle3 hgb3 haxb3 ⟨ab3, cb3, rfl, hB3⟩
    refine ⟨trivial, ?_⟩
    obtain ⟨news3, hsrc3, hch3⟩ := Src.own sl25 hB3 hgb3.1
    refine RL.append (i := 1) (ys := encI xs[k]) rfl rfl rfl rfl sl25 ze5 rfl (by first | exact RInt.one _ | exact RStr.one | exact RBool.one | assumption) rfl rfl hgb3 rfl (hown2.up (RInt.up _) hle3) (hsrc3) (hch3) ((by simp only [List.length_append]; omega)) (by omega) ?_
    rintro a4 c4 A4 w4 hgc4 hown4 hax4 hk4
    refine ⟨trivial, ?_⟩
    refine RL.pure rfl rfl rfl rfl ?_
    refine RL.done ?_
    refine CW.plain ?_
    refine RL.pure rfl rfl rfl rfl ?_
    refine RL.add rfl rfl rfl rfl rfl rfl (by simp only [rng] at *; omega) ?_
    refine RL.pure rfl rfl rfl rfl ?_
    refine RL.done ?_
    cases j with
    | zero => omega
    | succ j =>
      have e : encU xs.length ++ encIs (xs.take (k + 1)) = encU xs.length ++ encIs (xs.take k) ++ encI xs[k] := by rw [encIs_snoc xs k hkl, ← List.append_assoc]
      refine fun ac ha => ⟨j, [(0, .slice xa xs.length xc), (3, .slice a4 (encU xs.length ++ encIs (xs.take (k + 1))).length c4), (4, .int .i64 ((k : Int) + 1))], ha.sub ⟨rfl, by rw [e]; rfl, rfl, trivial⟩, ⟨s3, A4, a4, c4, k + 1, rfl, hgc4.drop, hle2.trans hle3, hax2.trans (haxb3.trans hax4), by rw [e]; exact hown4, by omega⟩, Nat.lt_succ_self j⟩
  · refine CW.exit (CW.seq (CW.plain ?_))
    have hkl : k = xs.length := by omega
    subst hkl
    refine RL.pure rfl rfl rfl rfl ?_
    refine RL.pure rfl rfl rfl rfl ?_
    refine RL.done ?_
    have e : encN xs = encU xs.length ++ encIs (xs.take xs.length) := by simp [encN]
    exact CW.ret (ret (vs := [_]) ⟨_, _, rfl, rfl, rfl⟩ (Post.mk hle2 hg2 hax2 ⟨a, c, by rw [e]; rfl, by rw [e]; exact hown2⟩))

set_option maxRecDepth 100000 in
theorem rConf_ct {w : World} {s : Res} {os : List Res} {vs : List Value} {x : Conf} (hg : Good w s os) (hx : RConf s vs x) (hl : 60 + 10 * x.voters.length + 10 * x.learners.length ≤ 140737488355328) :
    Calls Tryd.prog 44 #[.agg vs.toArray] w (Post w s os fun s' A' r => BOwn s' A' r (encConf x)) := by
  have u1 := encN_length x.voters
  have u2 := encN_length x.learners
  obtain ⟨a, c, a', c', rfl, i1, i2⟩ := hx
  refine enter (l := [.agg #[.slice a x.voters.length c, .slice a' x.learners.length c']]) Tryd.func44 rfl Tryd.ntmps44 rfl ?_
  refine CW.seq (CW.plain ?_)
  refine RL.box rfl rfl rfl rfl rfl hg ?_
  rintro b w1 hgb hax1
  refine ⟨trivial, ?_⟩
  refine RL.pure rfl rfl rfl rfl ?_
  refine RL.done ?_
  obtain ⟨s1, hg1, hle1, hH⟩ := boxed hgb
  have hl1 : Le s1 s1 := Le.refl _
  have hx1 := hax1
  refine CW.seq ?_
  refine CW.draws [(true, 0), (true, 1), (true, 3), (true, 4), (false, 2), (false, 5), (false, 6), (false, 7)] (fun w => In s1 w) mixed (by kernel_rfl) (by kernel_rfl) (by kernel_rfl) (by kernel_rfl) (hg1.drew.sh) ?_
  refine RL.field rfl rfl rfl rfl fl32_0 rfl rfl ?_
  refine RL.loadT rfl rfl rfl rfl ty30 rfl (hH) (fun w h => h) rfl ?_
  refine RL.field rfl rfl rfl rfl fl32_1 rfl rfl ?_
  refine RL.loadT rfl rfl rfl rfl ty30 rfl (hH) (fun w h => h) rfl ?_
  refine RL.call rfl rfl rfl rfl rfl ca82 (rints_ct hg1.drew (i1.up (RInt.up _) hle1) (by omega)) ?_
  rintro r2 s2 A2 w2 hle2 hg2 hax2 ⟨a2, c2, rfl, hown2⟩
  refine ⟨hg2.sh.le hle2, ?_⟩
  refine RL.call rfl rfl rfl rfl rfl ca82 (rints_ct hg2 (i2.up (RInt.up _) (hle1.trans hle2)) (by omega)) ?_
  rintro r3 s3 B3 w3 hle3 hgb3 haxb3 ⟨ab3, cb3, rfl, hB3⟩
  refine ⟨hgb3.sh.le (hle2.trans hle3), ?_⟩
  obtain ⟨news3, hsrc3, hch3⟩ := Src.own sl25 hB3 hgb3.1
  refine RL.append (i := 1) (ys := encN x.learners) rfl rfl rfl rfl sl25 ze5 rfl (by first | exact RInt.one _ | exact RStr.one | exact RBool.one | assumption) rfl rfl hgb3 rfl (hown2.up (RInt.up _) hle3) (hsrc3) (hch3) ((by omega)) (by omega) ?_
  rintro ai3 ci3 A3 wi3 hgc3 hown3 haxc3 hk3
  refine ⟨hgc3.sh.le (hle2.trans hle3), ?_⟩
  refine RL.pure rfl rfl rfl rfl ?_
  refine RL.done ?_
  have hl3 := hle2.trans hle3
  have hx3 := hx1.trans ((Aux.drew _).trans (hax2.trans (haxb3.trans haxc3)))
  have hg3 := hgc3.drop
  exact CW.ret (ret (vs := [_]) ⟨_, _, rfl, rfl, rfl⟩ (Post.mk (hle1.trans hl3) hg3 hx3 ⟨_, _, rfl, hown3⟩))

set_option maxRecDepth 100000 in
theorem rEntry_ct {w : World} {s : Res} {os : List Res} {vs : List Value} {x : Entry} (hg : Good w s os) (hx : REntry s vs x) (hl : 100 + x.data.length + 10 * x.conf.voters.length + 10 * x.conf.learners.length ≤ 70368744177664) :
    Calls Tryd.prog 46 #[.agg vs.toArray] w (Post w s os fun s' A' r => BOwn s' A' r (encEntry x)) := by
  have u1 := encU_length x.index
  have u2 := encU_length x.term
  have u3 := encI_length x.kind
  have u4 := encT_length x.data
  have u5 := encConf_length x.conf
  obtain ⟨a, c, p1, q1, p2, q2, rfl, r1, r2, r3, i1, i2, i3⟩ := hx
  refine enter (l := [.agg #[.int .u64 x.index, .int .u64 x.term, .int .i64 x.kind, .slice a x.data.length c, .slice p1 x.conf.voters.length q1, .slice p2 x.conf.learners.length q2]]) Tryd.func46 rfl Tryd.ntmps46 rfl ?_
  refine CW.seq (CW.plain ?_)
  refine RL.box rfl rfl rfl rfl rfl hg ?_
  rintro b w1 hgb hax1
  refine ⟨trivial, ?_⟩
  refine RL.pure rfl rfl rfl rfl ?_
  refine RL.done ?_
  obtain ⟨s1, hg1, hle1, hH⟩ := boxed hgb
  have hl1 : Le s1 s1 := Le.refl _
  have hx1 := hax1
  refine CW.seq ?_
  refine CW.draws [(true, 0), (true, 1), (true, 3), (true, 4), (false, 2), (false, 5), (false, 6), (false, 7)] (fun w => In s1 w) mixed (by kernel_rfl) (by kernel_rfl) (by kernel_rfl) (by kernel_rfl) (hg1.drew.sh) ?_
  refine RL.field rfl rfl rfl rfl fl35_0 rfl rfl ?_
  refine RL.loadT rfl rfl rfl rfl ty29 rfl (hH) (fun w h => h) rfl ?_
  refine RL.field rfl rfl rfl rfl fl35_1 rfl rfl ?_
  refine RL.loadT rfl rfl rfl rfl ty29 rfl (hH) (fun w h => h) rfl ?_
  refine RL.call rfl rfl rfl rfl rfl ca36 (rUint_ct hg1.drew r1) ?_
  rintro r2 s2 A2 w2 hle2 hg2 hax2 ⟨a2, c2, rfl, hown2⟩
  refine ⟨hg2.sh.le hle2, ?_⟩
  refine RL.call rfl rfl rfl rfl rfl ca36 (rUint_ct hg2 r2) ?_
  rintro r3 s3 B3 w3 hle3 hgb3 haxb3 ⟨ab3, cb3, rfl, hB3⟩
  refine ⟨hgb3.sh.le (hle2.trans hle3), ?_⟩
  obtain ⟨news3, hsrc3, hch3⟩ := Src.own sl25 hB3 hgb3.1
  refine RL.append (i := 1) (ys := encU x.term) rfl rfl rfl rfl sl25 ze5 rfl (by first | exact RInt.one _ | exact RStr.one | exact RBool.one | assumption) rfl rfl hgb3 rfl (hown2.up (RInt.up _) hle3) (hsrc3) (hch3) ((by omega)) (by omega) ?_
  rintro ai3 ci3 A3 wi3 hgc3 hown3 haxc3 hk3
  refine ⟨hgc3.sh.le (hle2.trans hle3), ?_⟩
  refine RL.pure rfl rfl rfl rfl ?_
  refine RL.done ?_
  have hl3 := hle2.trans hle3
  have hx3 := hx1.trans ((Aux.drew _).trans (hax2.trans (haxb3.trans haxc3)))
  have hg3 := hgc3.drop
  refine CW.seq (CW.plain ?_)
  refine RL.pure rfl rfl rfl rfl ?_
  refine RL.field rfl rfl rfl rfl fl35_2 rfl rfl ?_
  refine RL.load rfl rfl rfl rfl ty33 rfl (hH.le hl3) (hg3.sh) rfl ?_
  refine RL.call rfl rfl rfl rfl rfl ca38 (rInt_ct hg3 r3) ?_
  rintro r4 s4 B4 w4 hle4 hgb4 haxb4 ⟨ab4, cb4, rfl, hB4⟩
  refine ⟨trivial, ?_⟩
  obtain ⟨news4, hsrc4, hch4⟩ := Src.own sl25 hB4 hgb4.1
  refine RL.append (i := 1) (ys := encI x.kind) rfl rfl rfl rfl sl25 ze5 rfl (by first | exact RInt.one _ | exact RStr.one | exact RBool.one | assumption) rfl rfl hgb4 rfl (hown3.up (RInt.up _) hle4) (hsrc4) (hch4) ((by simp only [List.length_append]; omega)) (by omega) ?_
  rintro ai4 ci4 A4 wi4 hgc4 hown4 haxc4 hk4
  refine ⟨trivial, ?_⟩
  refine RL.pure rfl rfl rfl rfl ?_
  refine RL.done ?_
  have hl4 := hl3.trans hle4
  have hx4 := hx3.trans (haxb4.trans haxc4)
  have hg4 := hgc4.drop
  refine CW.seq (CW.plain ?_)
  refine RL.pure rfl rfl rfl rfl ?_
  refine RL.field rfl rfl rfl rfl fl35_3 rfl rfl ?_
  refine RL.load rfl rfl rfl rfl ty25 rfl (hH.le hl4) (hg4.sh) rfl ?_
  refine RL.call rfl rfl rfl rfl rfl ca42 (rText_ct hg4 (i1.up (RInt.up _) (hle1.trans hl4)) (by omega)) ?_
  rintro r5 s5 B5 w5 hle5 hgb5 haxb5 ⟨ab5, cb5, rfl, hB5⟩
  refine ⟨trivial, ?_⟩
  obtain ⟨news5, hsrc5, hch5⟩ := Src.own sl25 hB5 hgb5.1
  refine RL.append (i := 1) (ys := encT x.data) rfl rfl rfl rfl sl25 ze5 rfl (by first | exact RInt.one _ | exact RStr.one | exact RBool.one | assumption) rfl rfl hgb5 rfl (hown4.up (RInt.up _) hle5) (hsrc5) (hch5) ((by simp only [List.length_append]; omega)) (by omega) ?_
  rintro ai5 ci5 A5 wi5 hgc5 hown5 haxc5 hk5
  refine ⟨trivial, ?_⟩
  refine RL.pure rfl rfl rfl rfl ?_
  refine RL.done ?_
  have hl5 := hl4.trans hle5
  have hx5 := hx4.trans (haxb5.trans haxc5)
  have hg5 := hgc5.drop
  refine CW.seq (CW.plain ?_)
  refine RL.pure rfl rfl rfl rfl ?_
  refine RL.field rfl rfl rfl rfl fl35_4 rfl rfl ?_
  refine RL.loads rfl rfl rfl rfl ty32 rfl (hH.le hl5) (hg5.sh) rfl rfl ?_
  refine RL.call rfl rfl rfl rfl rfl ca44 (rConf_ct (x := x.conf) hg5 ⟨p1, q1, p2, q2, rfl, i2.up (RInt.up _) (hle1.trans hl5), i3.up (RInt.up _) (hle1.trans hl5)⟩ (by omega)) ?_
  rintro r6 s6 B6 w6 hle6 hgb6 haxb6 ⟨ab6, cb6, rfl, hB6⟩
  refine ⟨trivial, ?_⟩
  obtain ⟨news6, hsrc6, hch6⟩ := Src.own sl25 hB6 hgb6.1
  refine RL.append (i := 1) (ys := encConf x.conf) rfl rfl rfl rfl sl25 ze5 rfl (by first | exact RInt.one _ | exact RStr.one | exact RBool.one | assumption) rfl rfl hgb6 rfl (hown5.up (RInt.up _) hle6) (hsrc6) (hch6) ((by simp only [List.length_append]; omega)) (by omega) ?_
  rintro ai6 ci6 A6 wi6 hgc6 hown6 haxc6 hk6
  refine ⟨trivial, ?_⟩
  refine RL.pure rfl rfl rfl rfl ?_
  refine RL.done ?_
  have hl6 := hl5.trans hle6
  have hx6 := hx5.trans (haxb6.trans haxc6)
  have hg6 := hgc6.drop
  exact CW.ret (ret (vs := [_]) ⟨_, _, rfl, rfl, rfl⟩ (Post.mk (hle1.trans hl6) hg6 hx6 ⟨_, _, rfl, hown6⟩))

set_option maxRecDepth 100000 in
theorem rSnap_ct {w : World} {s : Res} {os : List Res} {vs : List Value} {x : Snap} (hg : Good w s os) (hx : RSnap s vs x) (hl : 100 + x.data.length + 10 * x.conf.voters.length + 10 * x.conf.learners.length ≤ 70368744177664) :
    Calls Tryd.prog 48 #[.agg vs.toArray] w (Post w s os fun s' A' r => BOwn s' A' r (encSnap x)) := by
  have u1 := encU_length x.index
  have u2 := encU_length x.term
  have u3 := encConf_length x.conf
  have u4 := encT_length x.data
  obtain ⟨a, c, p1, q1, p2, q2, rfl, r1, r2, i1, i2, i3⟩ := hx
  refine enter (l := [.agg #[.int .u64 x.index, .int .u64 x.term, .slice p1 x.conf.voters.length q1, .slice p2 x.conf.learners.length q2, .slice a x.data.length c]]) Tryd.func48 rfl Tryd.ntmps48 rfl ?_
  refine CW.seq (CW.plain ?_)
  refine RL.box rfl rfl rfl rfl rfl hg ?_
  rintro b w1 hgb hax1
  refine ⟨trivial, ?_⟩
  refine RL.pure rfl rfl rfl rfl ?_
  refine RL.done ?_
  obtain ⟨s1, hg1, hle1, hH⟩ := boxed hgb
  have hl1 : Le s1 s1 := Le.refl _
  have hx1 := hax1
  refine CW.seq ?_
  refine CW.draws [(true, 0), (true, 1), (true, 3), (true, 4), (false, 2), (false, 5), (false, 6), (false, 7)] (fun w => In s1 w) mixed (by kernel_rfl) (by kernel_rfl) (by kernel_rfl) (by kernel_rfl) (hg1.drew.sh) ?_
  refine RL.field rfl rfl rfl rfl fl37_0 rfl rfl ?_
  refine RL.loadT rfl rfl rfl rfl ty29 rfl (hH) (fun w h => h) rfl ?_
  refine RL.field rfl rfl rfl rfl fl37_1 rfl rfl ?_
  refine RL.loadT rfl rfl rfl rfl ty29 rfl (hH) (fun w h => h) rfl ?_
  refine RL.call rfl rfl rfl rfl rfl ca36 (rUint_ct hg1.drew r1) ?_
  rintro r2 s2 A2 w2 hle2 hg2 hax2 ⟨a2, c2, rfl, hown2⟩
  refine ⟨hg2.sh.le hle2, ?_⟩
  refine RL.call rfl rfl rfl rfl rfl ca36 (rUint_ct hg2 r2) ?_
  rintro r3 s3 B3 w3 hle3 hgb3 haxb3 ⟨ab3, cb3, rfl, hB3⟩
  refine ⟨hgb3.sh.le (hle2.trans hle3), ?_⟩
  obtain ⟨news3, hsrc3, hch3⟩ := Src.own sl25 hB3 hgb3.1
  refine RL.append (i := 1) (ys := encU x.term) rfl rfl rfl rfl sl25 ze5 rfl (by first | exact RInt.one _ | exact RStr.one | exact RBool.one | assumption) rfl rfl hgb3 rfl (hown2.up (RInt.up _) hle3) (hsrc3) (hch3) ((by omega)) (by omega) ?_
  rintro ai3 ci3 A3 wi3 hgc3 hown3 haxc3 hk3
  refine ⟨hgc3.sh.le (hle2.trans hle3), ?_⟩
  refine RL.pure rfl rfl rfl rfl ?_
  refine RL.done ?_
  have hl3 := hle2.trans hle3
  have hx3 := hx1.trans ((Aux.drew _).trans (hax2.trans (haxb3.trans haxc3)))
  have hg3 := hgc3.drop
  refine CW.seq (CW.plain ?_)
  refine RL.pure rfl rfl rfl rfl ?_
  refine RL.field rfl rfl rfl rfl fl37_2 rfl rfl ?_
  refine RL.loads rfl rfl rfl rfl ty32 rfl (hH.le hl3) (hg3.sh) rfl rfl ?_
  refine RL.call rfl rfl rfl rfl rfl ca44 (rConf_ct (x := x.conf) hg3 ⟨p1, q1, p2, q2, rfl, i2.up (RInt.up _) (hle1.trans hl3), i3.up (RInt.up _) (hle1.trans hl3)⟩ (by omega)) ?_
  rintro r4 s4 B4 w4 hle4 hgb4 haxb4 ⟨ab4, cb4, rfl, hB4⟩
  refine ⟨trivial, ?_⟩
  obtain ⟨news4, hsrc4, hch4⟩ := Src.own sl25 hB4 hgb4.1
  refine RL.append (i := 1) (ys := encConf x.conf) rfl rfl rfl rfl sl25 ze5 rfl (by first | exact RInt.one _ | exact RStr.one | exact RBool.one | assumption) rfl rfl hgb4 rfl (hown3.up (RInt.up _) hle4) (hsrc4) (hch4) ((by simp only [List.length_append]; omega)) (by omega) ?_
  rintro ai4 ci4 A4 wi4 hgc4 hown4 haxc4 hk4
  refine ⟨trivial, ?_⟩
  refine RL.pure rfl rfl rfl rfl ?_
  refine RL.done ?_
  have hl4 := hl3.trans hle4
  have hx4 := hx3.trans (haxb4.trans haxc4)
  have hg4 := hgc4.drop
  refine CW.seq (CW.plain ?_)
  refine RL.pure rfl rfl rfl rfl ?_
  refine RL.field rfl rfl rfl rfl fl37_3 rfl rfl ?_
  refine RL.load rfl rfl rfl rfl ty25 rfl (hH.le hl4) (hg4.sh) rfl ?_
  refine RL.call rfl rfl rfl rfl rfl ca42 (rText_ct hg4 (i1.up (RInt.up _) (hle1.trans hl4)) (by omega)) ?_
  rintro r5 s5 B5 w5 hle5 hgb5 haxb5 ⟨ab5, cb5, rfl, hB5⟩
  refine ⟨trivial, ?_⟩
  obtain ⟨news5, hsrc5, hch5⟩ := Src.own sl25 hB5 hgb5.1
  refine RL.append (i := 1) (ys := encT x.data) rfl rfl rfl rfl sl25 ze5 rfl (by first | exact RInt.one _ | exact RStr.one | exact RBool.one | assumption) rfl rfl hgb5 rfl (hown4.up (RInt.up _) hle5) (hsrc5) (hch5) ((by simp only [List.length_append]; omega)) (by omega) ?_
  rintro ai5 ci5 A5 wi5 hgc5 hown5 haxc5 hk5
  refine ⟨trivial, ?_⟩
  refine RL.pure rfl rfl rfl rfl ?_
  refine RL.done ?_
  have hl5 := hl4.trans hle5
  have hx5 := hx4.trans (haxb5.trans haxc5)
  have hg5 := hgc5.drop
  exact CW.ret (ret (vs := [_]) ⟨_, _, rfl, rfl, rfl⟩ (Post.mk (hle1.trans hl5) hg5 hx5 ⟨_, _, rfl, hown5⟩))

set_option maxRecDepth 100000 in
theorem rRange_ct {w : World} {s : Res} {os : List Res} {vs : List Value} {x : Range} (hg : Good w s os) (hx : RRange s vs x) (hl : 100 + x.lo.size + x.hi.size ≤ 70368744177664) :
    Calls Tryd.prog 50 #[.agg vs.toArray] w (Post w s os fun s' A' r => BOwn s' A' r (encRange x)) := by
  have u1 := encT_length (nums x.lo)
  have u2 := encT_length (nums x.hi)
  have n1 := nums_length x.lo
  have n2 := nums_length x.hi
  obtain ⟨rfl, r1, r2⟩ := hx
  refine enter (l := [.agg #[.string x.lo, .string x.hi]]) Tryd.func50 rfl Tryd.ntmps50 rfl ?_
  refine CW.seq (CW.plain ?_)
  refine RL.box rfl rfl rfl rfl rfl hg ?_
  rintro b w1 hgb hax1
  refine ⟨trivial, ?_⟩
  refine RL.pure rfl rfl rfl rfl ?_
  refine RL.done ?_
  obtain ⟨s1, hg1, hle1, hH⟩ := boxed hgb
  have hl1 : Le s1 s1 := Le.refl _
  have hx1 := hax1
  refine CW.seq (CW.forks (.fork [(true, 0), (true, 1), (true, 4), (true, 5)] (.fork [(false, 2)] (.line [(false, 3), (false, 6), (false, 7), (false, 8), (false, 9)]) (.line [(false, 6), (false, 3), (false, 7), (false, 8), (false, 9)])) (.line [(false, 6), (false, 2), (false, 3), (false, 7), (false, 8), (false, 9)])) (fun w => In s1 w) mixed (by kernel_rfl) (by kernel_rfl) (by kernel_rfl) (by kernel_rfl) hg1.drew.sh ?_)
  refine RT.pre hg1.drew.sh ?_
  refine RL.field rfl rfl rfl rfl fl39_0 rfl rfl ?_
  refine RL.loadT rfl rfl rfl rfl ty9 rfl (hH) (fun w h => h) rfl ?_
  refine RL.field rfl rfl rfl rfl fl39_1 rfl rfl ?_
  refine RL.loadT rfl rfl rfl rfl ty9 rfl (hH) (fun w h => h) rfl ?_
  refine RL.done ?_
  refine RT.both hg1.drew.sh (RT.pre hg1.drew.sh ?_) (RT.end_ hg1.drew.sh ?_)
  · refine RL.stb rfl rfl rfl rfl Tryd.underlying9 sl25 Tryd.underlying5 rfl (r1) hg1.drew ?_
    rintro xa xc s2 w2 hg2 hle2 hax2 hi5
    refine ⟨hg2.sh.le hle2, ?_⟩
    refine RL.done ?_
    have hin2 := hg2.sh.le hle2
    refine RT.both hin2 (RT.end_ hin2 ?_) (RT.end_ hin2 ?_)
    · refine RL.call rfl rfl rfl rfl rfl ca42 (rText_ct hg2 hi5 (by omega)) ?_
      rintro r s3 A3 w3 hle3 hg3 hax3 ⟨aa, ca, rfl, hown⟩
      refine ⟨hg3.sh.le (hle2.trans hle3), ?_⟩
      refine RL.stb rfl rfl rfl rfl Tryd.underlying9 sl25 Tryd.underlying5 rfl (r2) hg3 ?_
      rintro ya yc s4 w4 hg4 hle4 hax4 hi9
      refine ⟨hg4.sh.le (hle2.trans (hle3.trans hle4)), ?_⟩
      refine RL.call rfl rfl rfl rfl rfl ca42 (rText_ct hg4 hi9 (by omega)) ?_
      rintro r s5 B5 w5 hle5 hg5 hax5 ⟨ab, cb, rfl, hB⟩
      refine ⟨hg5.sh.le (hle2.trans (hle3.trans (hle4.trans hle5))), ?_⟩
      obtain ⟨news, hsrc, hch⟩ := Src.own sl25 hB hg5.1
      refine RL.append (i := 1) (ys := encT (nums x.hi)) rfl rfl rfl rfl sl25 ze5 rfl (by first | exact RInt.one _ | exact RStr.one | exact RBool.one | assumption) rfl rfl hg5 rfl (hown.up (RInt.up _) (hle4.trans hle5)) (hsrc) (hch) ((by omega)) (by omega) ?_
      rintro a6 c6 A6 w6 hg6 hown6 hax6 hk6
      refine ⟨hg6.sh.le (hle2.trans (hle3.trans (hle4.trans hle5))), ?_⟩
      refine RL.pure rfl rfl rfl rfl ?_
      refine RL.done ?_
      exact CW.ret (ret (vs := [_]) ⟨_, _, rfl, rfl, rfl⟩ (Post.mk (hle1.trans (hle2.trans (hle3.trans (hle4.trans hle5)))) hg6.drop (hax1.trans ((Aux.drew _).trans (hax2.trans (hax3.trans (hax4.trans (hax5.trans hax6)))))) ⟨_, _, rfl, hown6⟩))
    · refine RL.stb rfl rfl rfl rfl Tryd.underlying9 sl25 Tryd.underlying5 rfl (r2) hg2 ?_
      rintro ya yc s3 w3 hg3 hle3 hax3 hi9
      refine ⟨hg3.sh.le (hle2.trans hle3), ?_⟩
      refine RL.call rfl rfl rfl rfl rfl ca42 (rText_ct hg3 (hi5.up (RInt.up _) hle3) (by omega)) ?_
      rintro r s4 A4 w4 hle4 hg4 hax4 ⟨aa, ca, rfl, hown⟩
      refine ⟨hg4.sh.le (hle2.trans (hle3.trans hle4)), ?_⟩
      refine RL.call rfl rfl rfl rfl rfl ca42 (rText_ct hg4 (hi9.up (RInt.up _) hle4) (by omega)) ?_
      rintro r s5 B5 w5 hle5 hg5 hax5 ⟨ab, cb, rfl, hB⟩
      refine ⟨hg5.sh.le (hle2.trans (hle3.trans (hle4.trans hle5))), ?_⟩
      obtain ⟨news, hsrc, hch⟩ := Src.own sl25 hB hg5.1
      refine RL.append (i := 1) (ys := encT (nums x.hi)) rfl rfl rfl rfl sl25 ze5 rfl (by first | exact RInt.one _ | exact RStr.one | exact RBool.one | assumption) rfl rfl hg5 rfl (hown.up (RInt.up _) hle5) (hsrc) (hch) ((by omega)) (by omega) ?_
      rintro a6 c6 A6 w6 hg6 hown6 hax6 hk6
      refine ⟨hg6.sh.le (hle2.trans (hle3.trans (hle4.trans hle5))), ?_⟩
      refine RL.pure rfl rfl rfl rfl ?_
      refine RL.done ?_
      exact CW.ret (ret (vs := [_]) ⟨_, _, rfl, rfl, rfl⟩ (Post.mk (hle1.trans (hle2.trans (hle3.trans (hle4.trans hle5)))) hg6.drop (hax1.trans ((Aux.drew _).trans (hax2.trans (hax3.trans (hax4.trans (hax5.trans hax6)))))) ⟨_, _, rfl, hown6⟩))
  · refine RL.stb rfl rfl rfl rfl Tryd.underlying9 sl25 Tryd.underlying5 rfl (r2) hg1.drew ?_
    rintro ya yc s2 w2 hg2 hle2 hax2 hi9
    refine ⟨hg2.sh.le hle2, ?_⟩
    refine RL.stb rfl rfl rfl rfl Tryd.underlying9 sl25 Tryd.underlying5 rfl (r1) hg2 ?_
    rintro xa xc s3 w3 hg3 hle3 hax3 hi5
    refine ⟨hg3.sh.le (hle2.trans hle3), ?_⟩
    refine RL.call rfl rfl rfl rfl rfl ca42 (rText_ct hg3 hi5 (by omega)) ?_
    rintro r s4 A4 w4 hle4 hg4 hax4 ⟨aa, ca, rfl, hown⟩
    refine ⟨hg4.sh.le (hle2.trans (hle3.trans hle4)), ?_⟩
    refine RL.call rfl rfl rfl rfl rfl ca42 (rText_ct hg4 (hi9.up (RInt.up _) (hle3.trans hle4)) (by omega)) ?_
    rintro r s5 B5 w5 hle5 hg5 hax5 ⟨ab, cb, rfl, hB⟩
    refine ⟨hg5.sh.le (hle2.trans (hle3.trans (hle4.trans hle5))), ?_⟩
    obtain ⟨news, hsrc, hch⟩ := Src.own sl25 hB hg5.1
    refine RL.append (i := 1) (ys := encT (nums x.hi)) rfl rfl rfl rfl sl25 ze5 rfl (by first | exact RInt.one _ | exact RStr.one | exact RBool.one | assumption) rfl rfl hg5 rfl (hown.up (RInt.up _) hle5) (hsrc) (hch) ((by omega)) (by omega) ?_
    rintro a6 c6 A6 w6 hg6 hown6 hax6 hk6
    refine ⟨hg6.sh.le (hle2.trans (hle3.trans (hle4.trans hle5))), ?_⟩
    refine RL.pure rfl rfl rfl rfl ?_
    refine RL.done ?_
    exact CW.ret (ret (vs := [_]) ⟨_, _, rfl, rfl, rfl⟩ (Post.mk (hle1.trans (hle2.trans (hle3.trans (hle4.trans hle5)))) hg6.drop (hax1.trans ((Aux.drew _).trans (hax2.trans (hax3.trans (hax4.trans (hax5.trans hax6)))))) ⟨_, _, rfl, hown6⟩))

set_option maxRecDepth 100000 in
theorem rRecord_ct {w : World} {s : Res} {os : List Res} {vs : List Value} {x : Record} (hg : Good w s os) (hx : RRecord s vs x) (hl : 100 + x.key.size + x.value.length ≤ 70368744177664) :
    Calls Tryd.prog 52 #[.agg vs.toArray] w (Post w s os fun s' A' r => BOwn s' A' r (encRecord x)) := by
  have u1 := encU_length x.offset
  have u2 := encT_length (nums x.key)
  have n2 := nums_length x.key
  have u3 := encT_length x.value
  have u4 := encU_length x.producer
  have u5 := encU_length x.seq
  obtain ⟨a, c, rfl, r1, r2, i1, r3, r4⟩ := hx
  refine enter (l := [.agg #[.int .u64 x.offset, .string x.key, .slice a x.value.length c, .int .u64 x.producer, .int .u64 x.seq]]) Tryd.func52 rfl Tryd.ntmps52 rfl ?_
  refine CW.seq (CW.plain ?_)
  refine RL.box rfl rfl rfl rfl rfl hg ?_
  rintro b w1 hgb hax1
  refine ⟨trivial, ?_⟩
  refine RL.pure rfl rfl rfl rfl ?_
  refine RL.done ?_
  obtain ⟨s1, hg1, hle1, hH⟩ := boxed hgb
  have hl1 : Le s1 s1 := Le.refl _
  have hx1 := hax1
  refine CW.meet (fun E w' => ∃ s3 A3 a3 c3, E = [(1, ptr b), (3, .slice a3 (encU x.offset ++ encT (nums x.key)).length c3)] ∧ Good w' s3 (A3 :: os) ∧ Le s1 s3 ∧ Aux w w' ∧ Own (RInt .u8) 1 5 s3 A3 a3 c3 (encU x.offset ++ encT (nums x.key))) ?_ ?_
  · refine CW.forks (.fork [(true, 0), (true, 1), (true, 3), (true, 4)] (.line [(false, 2), (false, 5), (false, 6), (false, 7), (false, 8)]) (.line [(false, 5), (false, 2), (false, 6), (false, 7), (false, 8)])) (fun w => In s1 w) mixed (by kernel_rfl) (by kernel_rfl) (by kernel_rfl) (by kernel_rfl) hg1.drew.sh ?_
    refine RT.pre hg1.drew.sh ?_
    refine RL.field rfl rfl rfl rfl fl41_0 rfl rfl ?_
    refine RL.loadT rfl rfl rfl rfl ty29 rfl (hH) (fun w h => h) rfl ?_
    refine RL.field rfl rfl rfl rfl fl41_1 rfl rfl ?_
    refine RL.loadT rfl rfl rfl rfl ty9 rfl (hH) (fun w h => h) rfl ?_
    refine RL.done ?_
    refine RT.both hg1.drew.sh (RT.end_ hg1.drew.sh ?_) (RT.end_ hg1.drew.sh ?_)
    · refine RL.call rfl rfl rfl rfl rfl ca36 (rUint_ct hg1.drew r1) ?_
      rintro r s2 A2 w2 hle2 hg2 hax2 ⟨aa, ca, rfl, hown⟩
      refine ⟨hg2.sh.le hle2, ?_⟩
      refine RL.stb rfl rfl rfl rfl Tryd.underlying9 sl25 Tryd.underlying5 rfl (r2) hg2 ?_
      rintro ya yc s3 w3 hg3 hle3 hax3 hi9
      refine ⟨hg3.sh.le (hle2.trans hle3), ?_⟩
      refine RL.call rfl rfl rfl rfl rfl ca42 (rText_ct hg3 hi9 (by omega)) ?_
      rintro r s5 B5 w5 hle5 hg5 hax5 ⟨ab, cb, rfl, hB⟩
      refine ⟨hg5.sh.le (hle2.trans (hle3.trans hle5)), ?_⟩
      obtain ⟨news, hsrc, hch⟩ := Src.own sl25 hB hg5.1
      refine RL.append (i := 1) (ys := encT (nums x.key)) rfl rfl rfl rfl sl25 ze5 rfl (by first | exact RInt.one _ | exact RStr.one | exact RBool.one | assumption) rfl rfl hg5 rfl (hown.up (RInt.up _) (hle3.trans hle5)) (hsrc) (hch) ((by omega)) (by omega) ?_
      rintro a6 c6 A6 w6 hg6 hown6 hax6 hk6
      refine ⟨hg6.sh.le (hle2.trans (hle3.trans hle5)), ?_⟩
      refine RL.pure rfl rfl rfl rfl ?_
      refine RL.done ?_
      exact fun ac ha => ⟨[(1, ptr b), (3, .slice a6 (encU x.offset ++ encT (nums x.key)).length c6)], ha.sub ⟨rfl, rfl, trivial⟩, s5, A6, a6, c6, rfl, hg6.drop, hle2.trans (hle3.trans hle5), hax1.trans ((Aux.drew _).trans (hax2.trans (hax3.trans (hax5.trans hax6)))), hown6⟩
    · refine RL.stb rfl rfl rfl rfl Tryd.underlying9 sl25 Tryd.underlying5 rfl (r2) hg1.drew ?_
      rintro ya yc s2 w2 hg2 hle2 hax2 hi9
      refine ⟨hg2.sh.le hle2, ?_⟩
      refine RL.call rfl rfl rfl rfl rfl ca36 (rUint_ct hg2 r1) ?_
      rintro r s3 A3 w3 hle3 hg3 hax3 ⟨aa, ca, rfl, hown⟩
      refine ⟨hg3.sh.le (hle2.trans hle3), ?_⟩
      refine RL.call rfl rfl rfl rfl rfl ca42 (rText_ct hg3 (hi9.up (RInt.up _) hle3) (by omega)) ?_
      rintro r s5 B5 w5 hle5 hg5 hax5 ⟨ab, cb, rfl, hB⟩
      refine ⟨hg5.sh.le (hle2.trans (hle3.trans hle5)), ?_⟩
      obtain ⟨news, hsrc, hch⟩ := Src.own sl25 hB hg5.1
      refine RL.append (i := 1) (ys := encT (nums x.key)) rfl rfl rfl rfl sl25 ze5 rfl (by first | exact RInt.one _ | exact RStr.one | exact RBool.one | assumption) rfl rfl hg5 rfl (hown.up (RInt.up _) hle5) (hsrc) (hch) ((by omega)) (by omega) ?_
      rintro a6 c6 A6 w6 hg6 hown6 hax6 hk6
      refine ⟨hg6.sh.le (hle2.trans (hle3.trans hle5)), ?_⟩
      refine RL.pure rfl rfl rfl rfl ?_
      refine RL.done ?_
      exact fun ac ha => ⟨[(1, ptr b), (3, .slice a6 (encU x.offset ++ encT (nums x.key)).length c6)], ha.sub ⟨rfl, rfl, trivial⟩, s5, A6, a6, c6, rfl, hg6.drop, hle2.trans (hle3.trans hle5), hax1.trans ((Aux.drew _).trans (hax2.trans (hax3.trans (hax5.trans hax6)))), hown6⟩
  rintro E w3 ⟨s3, A3, a3, c3, rfl, hg3, hl3, hx3, hown3⟩
  refine CW.seq (CW.plain ?_)
  refine RL.pure rfl rfl rfl rfl ?_
  refine RL.field rfl rfl rfl rfl fl41_2 rfl rfl ?_
  refine RL.load rfl rfl rfl rfl ty25 rfl (hH.le hl3) (hg3.sh) rfl ?_
  refine RL.call rfl rfl rfl rfl rfl ca42 (rText_ct hg3 (i1.up (RInt.up _) (hle1.trans hl3)) (by omega)) ?_
  rintro r4 s4 B4 w4 hle4 hgb4 haxb4 ⟨ab4, cb4, rfl, hB4⟩
  refine ⟨trivial, ?_⟩
  obtain ⟨news4, hsrc4, hch4⟩ := Src.own sl25 hB4 hgb4.1
  refine RL.append (i := 1) (ys := encT x.value) rfl rfl rfl rfl sl25 ze5 rfl (by first | exact RInt.one _ | exact RStr.one | exact RBool.one | assumption) rfl rfl hgb4 rfl (hown3.up (RInt.up _) hle4) (hsrc4) (hch4) ((by simp only [List.length_append]; omega)) (by omega) ?_
  rintro ai4 ci4 A4 wi4 hgc4 hown4 haxc4 hk4
  refine ⟨trivial, ?_⟩
  refine RL.pure rfl rfl rfl rfl ?_
  refine RL.done ?_
  have hl4 := hl3.trans hle4
  have hx4 := hx3.trans (haxb4.trans haxc4)
  have hg4 := hgc4.drop
  refine CW.seq (CW.plain ?_)
  refine RL.pure rfl rfl rfl rfl ?_
  refine RL.field rfl rfl rfl rfl fl41_3 rfl rfl ?_
  refine RL.load rfl rfl rfl rfl ty29 rfl (hH.le hl4) (hg4.sh) rfl ?_
  refine RL.call rfl rfl rfl rfl rfl ca36 (rUint_ct hg4 r3) ?_
  rintro r5 s5 B5 w5 hle5 hgb5 haxb5 ⟨ab5, cb5, rfl, hB5⟩
  refine ⟨trivial, ?_⟩
  obtain ⟨news5, hsrc5, hch5⟩ := Src.own sl25 hB5 hgb5.1
  refine RL.append (i := 1) (ys := encU x.producer) rfl rfl rfl rfl sl25 ze5 rfl (by first | exact RInt.one _ | exact RStr.one | exact RBool.one | assumption) rfl rfl hgb5 rfl (hown4.up (RInt.up _) hle5) (hsrc5) (hch5) ((by simp only [List.length_append]; omega)) (by omega) ?_
  rintro ai5 ci5 A5 wi5 hgc5 hown5 haxc5 hk5
  refine ⟨trivial, ?_⟩
  refine RL.pure rfl rfl rfl rfl ?_
  refine RL.done ?_
  have hl5 := hl4.trans hle5
  have hx5 := hx4.trans (haxb5.trans haxc5)
  have hg5 := hgc5.drop
  refine CW.seq (CW.plain ?_)
  refine RL.pure rfl rfl rfl rfl ?_
  refine RL.field rfl rfl rfl rfl fl41_4 rfl rfl ?_
  refine RL.load rfl rfl rfl rfl ty29 rfl (hH.le hl5) (hg5.sh) rfl ?_
  refine RL.call rfl rfl rfl rfl rfl ca36 (rUint_ct hg5 r4) ?_
  rintro r6 s6 B6 w6 hle6 hgb6 haxb6 ⟨ab6, cb6, rfl, hB6⟩
  refine ⟨trivial, ?_⟩
  obtain ⟨news6, hsrc6, hch6⟩ := Src.own sl25 hB6 hgb6.1
  refine RL.append (i := 1) (ys := encU x.seq) rfl rfl rfl rfl sl25 ze5 rfl (by first | exact RInt.one _ | exact RStr.one | exact RBool.one | assumption) rfl rfl hgb6 rfl (hown5.up (RInt.up _) hle6) (hsrc6) (hch6) ((by simp only [List.length_append]; omega)) (by omega) ?_
  rintro ai6 ci6 A6 wi6 hgc6 hown6 haxc6 hk6
  refine ⟨trivial, ?_⟩
  refine RL.pure rfl rfl rfl rfl ?_
  refine RL.done ?_
  have hl6 := hl5.trans hle6
  have hx6 := hx5.trans (haxb6.trans haxc6)
  have hg6 := hgc6.drop
  exact CW.ret (ret (vs := [_]) ⟨_, _, rfl, rfl, rfl⟩ (Post.mk (hle1.trans hl6) hg6 hx6 ⟨_, _, rfl, hown6⟩))
end Go.Lw
