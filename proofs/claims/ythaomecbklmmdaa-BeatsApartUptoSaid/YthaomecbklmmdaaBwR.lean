/-
  The document writes (printed by beatsw.py out of the codec texts).
-/
import Derived.Test.YthaomecbklmmdaaBwW
namespace Go.Lw
open Go.Proofs
attribute [local irreducible] RL RA

set_option maxRecDepth 100000 in
theorem rUint_ct {w : World} {s : Res} {os : List Res} {v : Int} (hg : Good w s os) (hv : rng .u64 v) :
    Calls Try.prog 22 #[.int .u64 v] w (Post w s os fun s' A' r => BOwn s' A' r (encU v)) := by
  refine enter (l := [.int .u64 v]) Try.func22 rfl Try.ntmps22 rfl ?_
  refine CW.seq (CW.plain ?_)
  refine RL.pure rfl rfl rfl rfl ?_
  refine RL.done ?_
  refine CW.seq (CW.plain ?_)
  refine RL.pure rfl rfl rfl rfl ?_
  refine RL.done ?_
  refine CW.seq (CW.block (CW.loop (σ := Nat) (fun k E w' => ∃ A' u bs' a c, E = [(0, .int .u64 u), (3, .slice a bs'.length c)] ∧ Good w' s (A' :: os) ∧ Aux w w' ∧ Own (RInt .u8) 1 5 s A' a c bs' ∧ rng .u64 u ∧ bs' ++ encF k u = encU v ∧ bs'.length + k = 9 ∧ u < 128 ^ (k + 1))
    (fun k => k) 9 [(0, .int .u64 v), (3, nilSl)] ⟨rfl, rfl, trivial⟩ ⟨Res.nil, v, [], none, 0, rfl, hg.nil, Aux.refl _, Own.nil _ _ _ _ _, hv, rfl, rfl, by simp only [rng] at hv; omega⟩ ?_))
  rintro k E w1 ⟨A1, u, bs1, a, c, rfl, hg1, hax1, hown, hu, he, hk, hlt⟩
  refine CW.seq (CW.seq (CW.plain ?_))
  refine RL.pure rfl rfl rfl rfl ?_
  refine RL.pure rfl rfl rfl rfl ?_
  refine RL.done ?_
  refine CW.test rfl (fun h => ?_) (fun h => ?_)
  · refine CW.skip ?_
    refine CW.block (CW.seq (CW.plain ?_))
    refine RL.pure rfl rfl rfl rfl ?_
    refine RL.pure rfl rfl rfl rfl ?_
    refine RL.as_ rfl rfl rfl rfl (.int .u64 (u % 128)) ((by rw [and127 _ hu])) ?_
    refine RL.conv rfl rfl rfl rfl Try.underlying32 Try.underlying5 rfl ((by simp only [rng]; omega)) ?_
    refine RL.add rfl rfl rfl rfl rfl rfl ((by simp only [rng]; omega)) ?_
    refine RL.buildSlice rfl rfl rfl rfl sl38 ze5 rfl rfl rfl rfl hg1 ?_
    rintro b w2 hg2 hax2
    refine ⟨trivial, ?_⟩
    refine RL.append (i := 1) (ys := [u % 128 + 128]) rfl rfl rfl rfl sl38 ze5 rfl (by first | exact RInt.one _ | exact RStr.one | exact RBool.one | assumption) rfl rfl hg2 rfl hown ((Src.slice sl38 rfl (.inr ⟨_, rfl, Holds.one b _ 5⟩) hg2.1)) (Chunks.single rfl ⟨rfl, (by simp only [rng]; omega)⟩) (by (simp; omega)) (by omega) ?_
    rintro a2 c2 A2 w3 hg3 hown3 hax3 hkeep
    refine ⟨trivial, ?_⟩
    refine RL.pure rfl rfl rfl rfl ?_
    refine RL.done ?_
    refine CW.plain ?_
    refine RL.pure rfl rfl rfl rfl ?_
    refine RL.shr 7 rfl rfl rfl rfl rfl rfl rfl (by decide) ?_
    refine RL.pure rfl rfl rfl rfl ?_
    refine RL.done ?_
    cases k with
    | zero => simp only [rng] at *; omega
    | succ k =>
      refine fun ac ha => ⟨k, [(0, .int .u64 (u / 2 ^ 7)), (3, .slice a2 (bs1 ++ [u % 128 + 128]).length c2)], ha.sub ⟨rfl, rfl, trivial⟩, ⟨A2, u / 2 ^ 7, bs1 ++ [u % 128 + 128], a2, c2, rfl, hg3.drop, hax1.trans (hax2.trans hax3), hown3, ?_, ?_, ?_, ?_⟩, Nat.lt_succ_self k⟩
      · simp only [rng] at *; omega
      · rw [← he]; simp only [encF, if_neg (show ¬ u < 128 by omega), List.append_assoc]; rfl
      · simp; omega
      · omega
  · refine CW.exit (CW.seq (CW.plain ?_))
    refine RL.pure rfl rfl rfl rfl ?_
    refine RL.pure rfl rfl rfl rfl ?_
    refine RL.convw rfl rfl rfl rfl Try.underlying32 Try.underlying5 rfl ?_
    refine RL.buildSlice rfl rfl rfl rfl sl38 ze5 rfl rfl rfl rfl hg1 ?_
    rintro b w2 hg2 hax2
    refine ⟨trivial, ?_⟩
    refine RL.append (i := 1) (ys := [IntKind.u8.wrap u]) rfl rfl rfl rfl sl38 ze5 rfl (by first | exact RInt.one _ | exact RStr.one | exact RBool.one | assumption) rfl rfl hg2 rfl hown ((Src.slice sl38 rfl (.inr ⟨_, rfl, Holds.one b _ 5⟩) hg2.1)) (Chunks.single rfl ⟨rfl, rng_wrap _ _⟩) (by (simp; omega)) (by omega) ?_
    rintro a2 c2 A2 w3 hg3 hown3 hax3 hkeep
    refine ⟨trivial, ?_⟩
    refine RL.pure rfl rfl rfl rfl ?_
    refine RL.done ?_
    have h128 : u < 128 := by simpa using h
    have hlast : encF k u = [IntKind.u8.wrap u] := by
      rw [wrap_u8]
      simp only [rng] at hu
      cases k <;> simp [encF, h128] <;> omega
    refine CW.ret (ret (vs := [_]) ⟨_, _, rfl, rfl, rfl⟩ (Post.mk (Le.refl _) hg3.drop (hax1.trans (hax2.trans hax3)) ⟨a2, c2, ?_, ?_⟩))
    · rw [← he, hlast]; rfl
    · rw [← he, hlast]; exact hown3
set_option maxRecDepth 100000 in
theorem rInt_ct {w : World} {s : Res} {os : List Res} {v : Int} (hg : Good w s os) (hv : rng .i64 v) :
    Calls Try.prog 33 #[.int .i64 v] w (Post w s os fun s' A' r => BOwn s' A' r (encI v)) := by
  refine enter (l := [.int .i64 v]) Try.func33 rfl Try.ntmps33 rfl ?_
  refine CW.seq (CW.plain ?_)
  refine RL.pure rfl rfl rfl rfl ?_
  refine RL.done ?_
  refine CW.seq (CW.seq (CW.plain ?_))
  refine RL.pure rfl rfl rfl rfl ?_
  refine RL.pure rfl rfl rfl rfl ?_
  refine RL.done ?_
  refine CW.test rfl (fun h => ?_) (fun h => ?_)
  · refine CW.seq (CW.plain ?_)
    refine RL.pure rfl rfl rfl rfl ?_
    refine RL.add rfl rfl rfl rfl rfl rfl (by simp only [rng] at *; omega) ?_
    refine RL.neg rfl rfl rfl rfl rfl (by simp only [rng] at *; omega) ?_
    refine RL.conv rfl rfl rfl rfl Try.underlying3 Try.underlying32 rfl ((by simp only [rng] at *; omega)) ?_
    refine RL.mul rfl rfl rfl rfl rfl rfl (by simp only [rng] at *; omega) ?_
    refine RL.add rfl rfl rfl rfl rfl rfl (by simp only [rng] at *; omega) ?_
    refine RL.call rfl rfl rfl rfl rfl ca22 (rUint_ct hg (by simp only [rng] at *; omega)) ?_
    rintro r s1 A1 w1 hle1 hg1 hax1 hr
    refine ⟨trivial, ?_⟩
    refine RL.pure rfl rfl rfl rfl ?_
    refine RL.done ?_
    refine CW.ret (ret (vs := [_]) ⟨_, _, rfl, rfl, rfl⟩ (Post.mk hle1 hg1 hax1 ?_))
    have e : encI v = encU (2 * -(v + 1) + 1) := by unfold encI; rw [if_pos h]; congr 1; omega
    rw [e]; exact hr
  · refine CW.skip ?_
    refine CW.seq (CW.plain ?_)
    refine RL.pure rfl rfl rfl rfl ?_
    refine RL.conv rfl rfl rfl rfl Try.underlying3 Try.underlying32 rfl ((by simp only [rng] at *; omega)) ?_
    refine RL.mul rfl rfl rfl rfl rfl rfl (by simp only [rng] at *; omega) ?_
    refine RL.call rfl rfl rfl rfl rfl ca22 (rUint_ct hg (by simp only [rng] at *; omega)) ?_
    rintro r s1 A1 w1 hle1 hg1 hax1 hr
    refine ⟨trivial, ?_⟩
    refine RL.pure rfl rfl rfl rfl ?_
    refine RL.done ?_
    refine CW.ret (ret (vs := [_]) ⟨_, _, rfl, rfl, rfl⟩ (Post.mk hle1 hg1 hax1 ?_))
    have e : encI v = encU (2 * v) := by unfold encI; rw [if_neg h]
    rw [e]; exact hr
set_option maxRecDepth 100000 in
theorem rBool_ct {w : World} {s : Res} {os : List Res} {v : Bool} (hg : Good w s os) :
    Calls Try.prog 32 #[.bool v] w (Post w s os fun s' A' r => BOwn s' A' r (encB v)) := by
  refine enter (l := [.bool v]) Try.func32 rfl Try.ntmps32 rfl ?_
  refine CW.seq (CW.plain ?_)
  refine RL.pure rfl rfl rfl rfl ?_
  refine RL.done ?_
  refine CW.seq (CW.seq (CW.plain ?_))
  refine RL.pure rfl rfl rfl rfl ?_
  refine RL.done ?_
  refine CW.cond rfl (fun h => ?_) (fun h => ?_)
  · refine CW.seq (CW.plain ?_)
    refine RL.buildSlice rfl rfl rfl rfl sl38 ze5 rfl rfl rfl rfl hg ?_
    rintro b w2 hg2 hax2
    refine ⟨trivial, ?_⟩
    refine RL.pure rfl rfl rfl rfl ?_
    refine RL.done ?_
    subst h
    exact CW.ret (ret (vs := [_]) ⟨_, _, rfl, rfl, rfl⟩ (Post.mk (Le.refl _) hg2 hax2 ⟨_, _, rfl, .inr ⟨b, _, rfl, if_pos rfl, Nat.le_refl _, by decide, rfl, Chunks.single rfl ⟨rfl, by simp [rng]⟩⟩⟩))
  · refine CW.skip ?_
    refine CW.seq (CW.plain ?_)
    refine RL.buildSlice rfl rfl rfl rfl sl38 ze5 rfl rfl rfl rfl hg ?_
    rintro b w2 hg2 hax2
    refine ⟨trivial, ?_⟩
    refine RL.pure rfl rfl rfl rfl ?_
    refine RL.done ?_
    subst h
    exact CW.ret (ret (vs := [_]) ⟨_, _, rfl, rfl, rfl⟩ (Post.mk (Le.refl _) hg2 hax2 ⟨_, _, rfl, .inr ⟨b, _, rfl, if_pos rfl, Nat.le_refl _, by decide, rfl, Chunks.single rfl ⟨rfl, by simp [rng]⟩⟩⟩))
set_option maxRecDepth 100000 in
theorem rText_ct {w : World} {s : Res} {os : List Res} {xs : List Int} {xa : Option Addr} {xc : Nat} (hg : Good w s os) (hx : Imm (RInt .u8) 1 s xa xc xs) (hl : xs.length ≤ 70368744177664) :
    Calls Try.prog 36 #[.slice xa xs.length xc] w (Post w s os fun s' A' r => BOwn s' A' r (encT xs)) := by
  refine enter (l := [.slice xa xs.length xc]) Try.func36 rfl Try.ntmps36 rfl ?_
  refine CW.seq (CW.plain ?_)
  refine RL.pure rfl rfl rfl rfl ?_
  refine RL.done ?_
  refine CW.seq (CW.plain ?_)
  have hu := encU_length (xs.length : Int)
  refine RL.pure rfl rfl rfl rfl ?_
  refine RL.len rfl rfl rfl rfl sl38 rfl ?_
  refine RL.conv rfl rfl rfl rfl Try.underlying3 Try.underlying32 rfl ((by simp only [rng]; omega)) ?_
  refine RL.call rfl rfl rfl rfl rfl ca22 (rUint_ct hg (by simp only [rng]; omega)) ?_
  rintro r s1 A1 w1 hle1 hg1 hax1 ⟨a, c, hr, hown⟩
  refine ⟨trivial, ?_⟩
  subst hr
  obtain ⟨news, hsrc, hch⟩ := Src.imm sl38 (hx.up (RInt.up _) hle1) hg1.sh
  refine RL.pure rfl rfl rfl rfl ?_
  refine RL.append (i := 0) (ys := xs) rfl rfl rfl rfl sl38 ze5 rfl (by first | exact RInt.one _ | exact RStr.one | exact RBool.one | assumption) rfl rfl hg1 rfl hown (hsrc) (hch) (by (simp; omega)) (by omega) ?_
  rintro a2 c2 A2 w3 hg3 hown3 hax3 hkeep
  refine ⟨trivial, ?_⟩
  refine RL.pure rfl rfl rfl rfl ?_
  refine RL.done ?_
  exact CW.ret (ret (vs := [_]) ⟨_, _, rfl, rfl, rfl⟩ (Post.mk hle1 hg3 (hax1.trans hax3) ⟨a2, c2, rfl, hown3⟩))
set_option maxRecDepth 100000 in
theorem rints_ct {w : World} {s : Res} {os : List Res} {xs : List Int} {xa : Option Addr} {xc : Nat} (hg : Good w s os) (hx : Imm (RInt .i64) 1 s xa xc xs) (hl : 20 + 10 * xs.length ≤ 140737488355328) :
    Calls Try.prog 39 #[.slice xa xs.length xc] w (Post w s os fun s' A' r => BOwn s' A' r (encN xs)) := by
  refine enter (l := [.slice xa xs.length xc]) Try.func39 rfl Try.ntmps39 rfl ?_
  have hu := encU_length (xs.length : Int)
  refine CW.seq (CW.plain ?_)
  refine RL.pure rfl rfl rfl rfl ?_
  refine RL.done ?_
  refine CW.seq (CW.plain ?_)
  refine RL.pure rfl rfl rfl rfl ?_
  refine RL.len rfl rfl rfl rfl sl35 rfl ?_
  refine RL.conv rfl rfl rfl rfl Try.underlying3 Try.underlying32 rfl ((by simp only [rng]; omega)) ?_
  refine RL.call rfl rfl rfl rfl rfl ca22 (rUint_ct hg (by simp only [rng]; omega)) ?_
  rintro r s1 A1 w1 hle1 hg1 hax1 ⟨a1, c1, rfl, hown1⟩
  refine ⟨trivial, ?_⟩
  refine RL.pure rfl rfl rfl rfl ?_
  refine RL.done ?_
  refine CW.seq (CW.seq (CW.plain ?_))
  refine RL.pure rfl rfl rfl rfl ?_
  refine RL.done ?_
  refine CW.block (CW.loop (σ := Nat) (fun j E w' => ∃ s' A' a c, ∃ k : Nat, E = [(0, .slice xa xs.length xc), (3, .slice a (encU xs.length ++ encIs (xs.take k)).length c), (4, .int .i64 k)] ∧ Good w' s' (A' :: os) ∧ Le s s' ∧ Aux w w' ∧ Own (RInt .u8) 1 5 s' A' a c (encU xs.length ++ encIs (xs.take k)) ∧ k + j = xs.length)
    (fun j => j) xs.length [(0, .slice xa xs.length xc), (3, .slice a1 (encU xs.length ++ encIs (xs.take 0)).length c1), (4, .int .i64 0)] ⟨rfl, by simp [encIs]; rfl, rfl, trivial⟩ ⟨s1, A1, a1, c1, 0, rfl, hg1, hle1, hax1, by simpa [encIs] using hown1, by omega⟩ ?_)
  rintro j E w2 ⟨s2, A2, a, c, k, rfl, hg2, hle2, hax2, hown2, hk⟩
  refine CW.seq (CW.seq (CW.plain ?_))
  refine RL.pure rfl rfl rfl rfl ?_
  refine RL.pure rfl rfl rfl rfl ?_
  refine RL.len rfl rfl rfl rfl sl35 rfl ?_
  refine RL.pure rfl rfl rfl rfl ?_
  refine RL.done ?_
  refine CW.test rfl (fun h => ?_) (fun h => ?_)
  · refine CW.skip ?_
    have hkl : k < xs.length := by omega
    have hxr := hx.rng
    have hlk := encIs_length (xs.take k)
    have hlk' : (xs.take k).length = k := by simp; omega
    have hli := encI_length xs[k]
    refine CW.seq (CW.block (CW.plain ?_))
    refine RL.pure rfl rfl rfl rfl ?_
    refine RL.pure rfl rfl rfl rfl ?_
    refine RL.pure rfl rfl rfl rfl ?_
    refine RL.idx rfl rfl rfl rfl sl35 rfl rfl (hx.up (RInt.up _) hle2) (by omega) (by omega) ?_
    rintro q vs hvl hH ⟨rfl, hr⟩
    refine RL.load rfl rfl rfl rfl ty3 rfl (hH) (hg2.sh) rfl ?_
    refine RL.call rfl rfl rfl rfl rfl ca33 (rInt_ct hg2 hr) ?_
    rintro r3 s3 B3 w3 hle3 hgb3 haxb3 ⟨ab3, cb3, rfl, hB3⟩
    refine ⟨trivial, ?_⟩
    obtain ⟨news3, hsrc3, hch3⟩ := Src.own sl38 hB3 hgb3.1
    refine RL.append (i := 1) (ys := encI xs[k]) rfl rfl rfl rfl sl38 ze5 rfl (by first | exact RInt.one _ | exact RStr.one | exact RBool.one | assumption) rfl rfl hgb3 rfl (hown2.up (RInt.up _) hle3) (hsrc3) (hch3) ((by simp only [List.length_append]; omega)) (by omega) ?_
    rintro a4 c4 A4 w4 hgc4 hown4 hax4 hk4
    refine ⟨trivial, ?_⟩
    refine RL.pure rfl rfl rfl rfl ?_
    refine RL.done ?_
    refine CW.plain ?_
    refine RL.pure rfl rfl rfl rfl ?_
    refine RL.add rfl rfl rfl rfl rfl rfl (by simp only [rng] at *; omega) ?_
    refine RL.pure rfl rfl rfl rfl ?_
    refine RL.done ?_
    cases j with
    | zero => omega
    | succ j =>
      have e : encU xs.length ++ encIs (xs.take (k + 1)) = encU xs.length ++ encIs (xs.take k) ++ encI xs[k] := by rw [encIs_snoc xs k hkl, ← List.append_assoc]
      refine fun ac ha => ⟨j, [(0, .slice xa xs.length xc), (3, .slice a4 (encU xs.length ++ encIs (xs.take (k + 1))).length c4), (4, .int .i64 ((k : Int) + 1))], ha.sub ⟨rfl, by rw [e]; rfl, rfl, trivial⟩, ⟨s3, A4, a4, c4, k + 1, rfl, hgc4.drop, hle2.trans hle3, hax2.trans (haxb3.trans hax4), by rw [e]; exact hown4, by omega⟩, Nat.lt_succ_self j⟩
  · refine CW.exit (CW.seq (CW.plain ?_))
    have hkl : k = xs.length := by omega
    subst hkl
    refine RL.pure rfl rfl rfl rfl ?_
    refine RL.pure rfl rfl rfl rfl ?_
    refine RL.done ?_
    have e : encN xs = encU xs.length ++ encIs (xs.take xs.length) := by simp [encN]
    exact CW.ret (ret (vs := [_]) ⟨_, _, rfl, rfl, rfl⟩ (Post.mk hle2 hg2 hax2 ⟨a, c, by rw [e]; rfl, by rw [e]; exact hown2⟩))
set_option maxRecDepth 100000 in
theorem rConf_ct {w : World} {s : Res} {os : List Res} {vs : List Value} {x : Conf} (hg : Good w s os) (hx : RConf s vs x) (hl : 60 + 10 * x.voters.length + 10 * x.learners.length ≤ 140737488355328) :
    Calls Try.prog 35 #[.agg vs.toArray] w (Post w s os fun s' A' r => BOwn s' A' r (encConf x)) := by
  have u1 := encN_length x.voters
  have u2 := encN_length x.learners
  obtain ⟨a, c, a', c', rfl, i1, i2⟩ := hx
  refine enter (l := [.agg #[.slice a x.voters.length c, .slice a' x.learners.length c']]) Try.func35 rfl Try.ntmps35 rfl ?_
  refine CW.seq (CW.plain ?_)
  refine RL.box rfl rfl rfl rfl rfl hg ?_
  rintro b w1 hgb hax1
  refine ⟨trivial, ?_⟩
  refine RL.pure rfl rfl rfl rfl ?_
  refine RL.done ?_
  obtain ⟨s1, hg1, hle1, hH⟩ := boxed hgb
  have hl1 : Le s1 s1 := Le.refl _
  have hx1 := hax1
  refine CW.seq ?_
  refine CW.draws [(true, 0), (true, 1), (true, 3), (true, 4), (false, 2), (false, 5), (false, 6), (false, 7)] (fun w => In s1 w) mixed (by kernel_rfl) (by kernel_rfl) (by kernel_rfl) (by kernel_rfl) (hg1.drew.sh) ?_
  refine RL.field rfl rfl rfl rfl fl37_0 rfl rfl ?_
  refine RL.loadT rfl rfl rfl rfl ty35 rfl (hH) (fun w h => h) rfl ?_
  refine RL.field rfl rfl rfl rfl fl37_1 rfl rfl ?_
  refine RL.loadT rfl rfl rfl rfl ty35 rfl (hH) (fun w h => h) rfl ?_
  refine RL.call rfl rfl rfl rfl rfl ca39 (rints_ct hg1.drew (i1.up (RInt.up _) hle1) (by omega)) ?_
  rintro r2 s2 A2 w2 hle2 hg2 hax2 ⟨a2, c2, rfl, hown2⟩
  refine ⟨hg2.sh.le hle2, ?_⟩
  refine RL.call rfl rfl rfl rfl rfl ca39 (rints_ct hg2 (i2.up (RInt.up _) (hle1.trans hle2)) (by omega)) ?_
  rintro r3 s3 B3 w3 hle3 hgb3 haxb3 ⟨ab3, cb3, rfl, hB3⟩
  refine ⟨hgb3.sh.le (hle2.trans hle3), ?_⟩
  obtain ⟨news3, hsrc3, hch3⟩ := Src.own sl38 hB3 hgb3.1
  refine RL.append (i := 1) (ys := encN x.learners) rfl rfl rfl rfl sl38 ze5 rfl (by first | exact RInt.one _ | exact RStr.one | exact RBool.one | assumption) rfl rfl hgb3 rfl (hown2.up (RInt.up _) hle3) (hsrc3) (hch3) ((by omega)) (by omega) ?_
  rintro ai3 ci3 A3 wi3 hgc3 hown3 haxc3 hk3
  refine ⟨hgc3.sh.le (hle2.trans hle3), ?_⟩
  refine RL.pure rfl rfl rfl rfl ?_
  refine RL.done ?_
  have hl3 := hle2.trans hle3
  have hx3 := hx1.trans ((Aux.drew _).trans (hax2.trans (haxb3.trans haxc3)))
  have hg3 := hgc3.drop
  exact CW.ret (ret (vs := [_]) ⟨_, _, rfl, rfl, rfl⟩ (Post.mk (hle1.trans hl3) hg3 hx3 ⟨_, _, rfl, hown3⟩))
set_option maxRecDepth 100000 in
theorem rEntry_ct {w : World} {s : Res} {os : List Res} {vs : List Value} {x : Entry} (hg : Good w s os) (hx : REntry s vs x) (hl : 100 + x.data.length + 10 * x.conf.voters.length + 10 * x.conf.learners.length ≤ 70368744177664) :
    Calls Try.prog 34 #[.agg vs.toArray] w (Post w s os fun s' A' r => BOwn s' A' r (encEntry x)) := by
  have u1 := encU_length x.index
  have u2 := encU_length x.term
  have u3 := encI_length x.kind
  have u4 := encT_length x.data
  have u5 := encConf_length x.conf
  obtain ⟨a, c, p1, q1, p2, q2, rfl, r1, r2, r3, i1, i2, i3⟩ := hx
  refine enter (l := [.agg #[.int .u64 x.index, .int .u64 x.term, .int .i64 x.kind, .slice a x.data.length c, .slice p1 x.conf.voters.length q1, .slice p2 x.conf.learners.length q2]]) Try.func34 rfl Try.ntmps34 rfl ?_
  refine CW.seq (CW.plain ?_)
  refine RL.box rfl rfl rfl rfl rfl hg ?_
  rintro b w1 hgb hax1
  refine ⟨trivial, ?_⟩
  refine RL.pure rfl rfl rfl rfl ?_
  refine RL.done ?_
  obtain ⟨s1, hg1, hle1, hH⟩ := boxed hgb
  have hl1 : Le s1 s1 := Le.refl _
  have hx1 := hax1
  refine CW.seq ?_
  refine CW.draws [(true, 0), (true, 1), (true, 3), (true, 4), (false, 2), (false, 5), (false, 6), (false, 7)] (fun w => In s1 w) mixed (by kernel_rfl) (by kernel_rfl) (by kernel_rfl) (by kernel_rfl) (hg1.drew.sh) ?_
  refine RL.field rfl rfl rfl rfl fl66_0 rfl rfl ?_
  refine RL.loadT rfl rfl rfl rfl ty32 rfl (hH) (fun w h => h) rfl ?_
  refine RL.field rfl rfl rfl rfl fl66_1 rfl rfl ?_
  refine RL.loadT rfl rfl rfl rfl ty32 rfl (hH) (fun w h => h) rfl ?_
  refine RL.call rfl rfl rfl rfl rfl ca22 (rUint_ct hg1.drew r1) ?_
  rintro r2 s2 A2 w2 hle2 hg2 hax2 ⟨a2, c2, rfl, hown2⟩
  refine ⟨hg2.sh.le hle2, ?_⟩
  refine RL.call rfl rfl rfl rfl rfl ca22 (rUint_ct hg2 r2) ?_
  rintro r3 s3 B3 w3 hle3 hgb3 haxb3 ⟨ab3, cb3, rfl, hB3⟩
  refine ⟨hgb3.sh.le (hle2.trans hle3), ?_⟩
  obtain ⟨news3, hsrc3, hch3⟩ := Src.own sl38 hB3 hgb3.1
  refine RL.append (i := 1) (ys := encU x.term) rfl rfl rfl rfl sl38 ze5 rfl (by first | exact RInt.one _ | exact RStr.one | exact RBool.one | assumption) rfl rfl hgb3 rfl (hown2.up (RInt.up _) hle3) (hsrc3) (hch3) ((by omega)) (by omega) ?_
  rintro ai3 ci3 A3 wi3 hgc3 hown3 haxc3 hk3
  refine ⟨hgc3.sh.le (hle2.trans hle3), ?_⟩
  refine RL.pure rfl rfl rfl rfl ?_
  refine RL.done ?_
  have hl3 := hle2.trans hle3
  have hx3 := hx1.trans ((Aux.drew _).trans (hax2.trans (haxb3.trans haxc3)))
  have hg3 := hgc3.drop
  refine CW.seq (CW.plain ?_)
  refine RL.pure rfl rfl rfl rfl ?_
  refine RL.field rfl rfl rfl rfl fl66_2 rfl rfl ?_
  refine RL.load rfl rfl rfl rfl ty64 rfl (hH.le hl3) (hg3.sh) rfl ?_
  refine RL.call rfl rfl rfl rfl rfl ca33 (rInt_ct hg3 r3) ?_
  rintro r4 s4 B4 w4 hle4 hgb4 haxb4 ⟨ab4, cb4, rfl, hB4⟩
  refine ⟨trivial, ?_⟩
  obtain ⟨news4, hsrc4, hch4⟩ := Src.own sl38 hB4 hgb4.1
  refine RL.append (i := 1) (ys := encI x.kind) rfl rfl rfl rfl sl38 ze5 rfl (by first | exact RInt.one _ | exact RStr.one | exact RBool.one | assumption) rfl rfl hgb4 rfl (hown3.up (RInt.up _) hle4) (hsrc4) (hch4) ((by simp only [List.length_append]; omega)) (by omega) ?_
  rintro ai4 ci4 A4 wi4 hgc4 hown4 haxc4 hk4
  refine ⟨trivial, ?_⟩
  refine RL.pure rfl rfl rfl rfl ?_
  refine RL.done ?_
  have hl4 := hl3.trans hle4
  have hx4 := hx3.trans (haxb4.trans haxc4)
  have hg4 := hgc4.drop
  refine CW.seq (CW.plain ?_)
  refine RL.pure rfl rfl rfl rfl ?_
  refine RL.field rfl rfl rfl rfl fl66_3 rfl rfl ?_
  refine RL.load rfl rfl rfl rfl ty38 rfl (hH.le hl4) (hg4.sh) rfl ?_
  refine RL.call rfl rfl rfl rfl rfl ca36 (rText_ct hg4 (i1.up (RInt.up _) (hle1.trans hl4)) (by omega)) ?_
  rintro r5 s5 B5 w5 hle5 hgb5 haxb5 ⟨ab5, cb5, rfl, hB5⟩
  refine ⟨trivial, ?_⟩
  obtain ⟨news5, hsrc5, hch5⟩ := Src.own sl38 hB5 hgb5.1
  refine RL.append (i := 1) (ys := encT x.data) rfl rfl rfl rfl sl38 ze5 rfl (by first | exact RInt.one _ | exact RStr.one | exact RBool.one | assumption) rfl rfl hgb5 rfl (hown4.up (RInt.up _) hle5) (hsrc5) (hch5) ((by simp only [List.length_append]; omega)) (by omega) ?_
  rintro ai5 ci5 A5 wi5 hgc5 hown5 haxc5 hk5
  refine ⟨trivial, ?_⟩
  refine RL.pure rfl rfl rfl rfl ?_
  refine RL.done ?_
  have hl5 := hl4.trans hle5
  have hx5 := hx4.trans (haxb5.trans haxc5)
  have hg5 := hgc5.drop
  refine CW.seq (CW.plain ?_)
  refine RL.pure rfl rfl rfl rfl ?_
  refine RL.field rfl rfl rfl rfl fl66_4 rfl rfl ?_
  refine RL.loads rfl rfl rfl rfl ty37 rfl (hH.le hl5) (hg5.sh) rfl rfl ?_
  refine RL.call rfl rfl rfl rfl rfl ca35 (rConf_ct (x := x.conf) hg5 ⟨p1, q1, p2, q2, rfl, i2.up (RInt.up _) (hle1.trans hl5), i3.up (RInt.up _) (hle1.trans hl5)⟩ (by omega)) ?_
  rintro r6 s6 B6 w6 hle6 hgb6 haxb6 ⟨ab6, cb6, rfl, hB6⟩
  refine ⟨trivial, ?_⟩
  obtain ⟨news6, hsrc6, hch6⟩ := Src.own sl38 hB6 hgb6.1
  refine RL.append (i := 1) (ys := encConf x.conf) rfl rfl rfl rfl sl38 ze5 rfl (by first | exact RInt.one _ | exact RStr.one | exact RBool.one | assumption) rfl rfl hgb6 rfl (hown5.up (RInt.up _) hle6) (hsrc6) (hch6) ((by simp only [List.length_append]; omega)) (by omega) ?_
  rintro ai6 ci6 A6 wi6 hgc6 hown6 haxc6 hk6
  refine ⟨trivial, ?_⟩
  refine RL.pure rfl rfl rfl rfl ?_
  refine RL.done ?_
  have hl6 := hl5.trans hle6
  have hx6 := hx5.trans (haxb6.trans haxc6)
  have hg6 := hgc6.drop
  exact CW.ret (ret (vs := [_]) ⟨_, _, rfl, rfl, rfl⟩ (Post.mk (hle1.trans hl6) hg6 hx6 ⟨_, _, rfl, hown6⟩))
end Go.Lw
