/-
  The document's codec: what each function's bytes are.
-/
import Derived.Test.YtcbifehmmfjioaaDoorNmsCodecW
import Derived.Test.YtcbifehmmfjioaaDoorNmsA1
namespace Go.Lw
open Go.Proofs

/-- Bytes in an array of one's own. -/
def BOwn (s A : Res) (r : Value) (bs : List Int) : Prop := ∃ a c, r = .slice a bs.length c ∧ Own (RInt .u8) 1 5 s A a c bs


set_option maxRecDepth 100000 in
theorem rUint_ct {w : World} {s : Res} {os : List Res} {v : Int} (hg : Good w s os) (hv : rng .u64 v) :
    Calls Tryd.prog 36 #[.int .u64 v] w (Post w s os fun s' A' r => BOwn s' A' r (encU v)) := by
  refine enter (l := [.int .u64 v]) Tryd.func36 rfl Tryd.ntmps36 rfl ?_
  refine CW.seq (CW.plain ?_)
  refine RL.pure rfl rfl rfl rfl ?_
  refine RL.done ?_
  refine CW.seq (CW.plain ?_)
  refine RL.pure rfl rfl rfl rfl ?_
  refine RL.done ?_
  refine CW.seq (CW.block (CW.loop (σ := Nat) (fun k E w' => ∃ A' u bs' a c, E = [(0, .int .u64 u), (3, .slice a bs'.length c)] ∧ Good w' s (A' :: os) ∧ Aux w w' ∧ Own (RInt .u8) 1 5 s A' a c bs' ∧ rng .u64 u ∧ bs' ++ encF k u = encU v ∧ bs'.length + k = 9 ∧ u < 128 ^ (k + 1))
    (fun k => k) 9 [(0, .int .u64 v), (3, nilSl)] ⟨rfl, rfl, trivial⟩ ⟨Res.nil, v, [], none, 0, rfl, hg.nil, Aux.refl _, Own.nil _ _ _ _ _, hv, rfl, rfl, by simp only [rng] at hv; omega⟩ ?_))
  rintro k E w1 ⟨A1, u, bs1, a, c, rfl, hg1, hax1, hown, hu, he, hk, hlt⟩
  refine CW.seq (CW.seq (CW.plain ?_))
  refine RL.pure rfl rfl rfl rfl ?_
  refine RL.pure rfl rfl rfl rfl ?_
  refine RL.done ?_
  refine CW.test rfl (fun h => ?_) (fun h => ?_)
  · refine CW.skip ?_
    refine CW.block (CW.seq (CW.plain ?_))
    refine RL.pure rfl rfl rfl rfl ?_
    refine RL.pure rfl rfl rfl rfl ?_
    refine RL.as_ rfl rfl rfl rfl (.int .u64 (u % 128)) ((by rw [and127 _ hu])) ?_
    refine RL.conv rfl rfl rfl rfl Tryd.underlying29 Tryd.underlying5 rfl ((by simp only [rng]; omega)) ?_
    refine RL.add rfl rfl rfl rfl rfl rfl ((by simp only [rng]; omega)) ?_
    refine RL.buildSlice rfl rfl rfl rfl sl25 ze5 rfl rfl rfl rfl hg1 ?_
    rintro b w2 hg2 hax2
    refine ⟨trivial, ?_⟩
    refine RL.append (i := 1) (ys := [u % 128 + 128]) rfl rfl rfl rfl sl25 ze5 rfl (by first | exact RInt.one _ | exact RStr.one | exact RBool.one | assumption) rfl rfl hg2 rfl hown ((Src.slice sl25 rfl (.inr ⟨_, rfl, Holds.one b _ 5⟩) hg2.1)) (Chunks.single rfl ⟨rfl, (by simp only [rng]; omega)⟩) (by (simp; omega)) (by omega) ?_
    rintro a2 c2 A2 w3 hg3 hown3 hax3 hkeep
    refine ⟨trivial, ?_⟩
    refine RL.pure rfl rfl rfl rfl ?_
    refine RL.done ?_
    refine CW.plain ?_
    refine RL.pure rfl rfl rfl rfl ?_
    refine RL.shr 7 rfl rfl rfl rfl rfl rfl rfl (by decide) ?_
    refine RL.pure rfl rfl rfl rfl ?_
    refine RL.done ?_
    cases k with
    | zero => simp only [rng] at *; omega
    | succ k =>
      refine fun ac ha => ⟨k, [(0, .int .u64 (u / 2 ^ 7)), (3, .slice a2 (bs1 ++ [u % 128 + 128]).length c2)], ha.sub ⟨rfl, rfl, trivial⟩, ⟨A2, u / 2 ^ 7, bs1 ++ [u % 128 + 128], a2, c2, rfl, hg3.drop, hax1.trans (hax2.trans hax3), hown3, ?_, ?_, ?_, ?_⟩, Nat.lt_succ_self k⟩
      · simp only [rng] at *; omega
      · rw [← he]; simp only [encF, if_neg (show ¬ u < 128 by omega), List.append_assoc]; rfl
      · simp; omega
      · omega
  · refine CW.exit (CW.seq (CW.plain ?_))
    refine RL.pure rfl rfl rfl rfl ?_
    refine RL.pure rfl rfl rfl rfl ?_
    refine RL.convw rfl rfl rfl rfl Tryd.underlying29 Tryd.underlying5 rfl ?_
    refine RL.buildSlice rfl rfl rfl rfl sl25 ze5 rfl rfl rfl rfl hg1 ?_
    rintro b w2 hg2 hax2
    refine ⟨trivial, ?_⟩
    refine RL.append (i := 1) (ys := [IntKind.u8.wrap u]) rfl rfl rfl rfl sl25 ze5 rfl (by first | exact RInt.one _ | exact RStr.one | exact RBool.one | assumption) rfl rfl hg2 rfl hown ((Src.slice sl25 rfl (.inr ⟨_, rfl, Holds.one b _ 5⟩) hg2.1)) (Chunks.single rfl ⟨rfl, rng_wrap _ _⟩) (by (simp; omega)) (by omega) ?_
    rintro a2 c2 A2 w3 hg3 hown3 hax3 hkeep
    refine ⟨trivial, ?_⟩
    refine RL.pure rfl rfl rfl rfl ?_
    refine RL.done ?_
    have h128 : u < 128 := by simpa using h
    have hlast : encF k u = [IntKind.u8.wrap u] := by
      rw [wrap_u8]
      simp only [rng] at hu
      cases k <;> simp [encF, h128] <;> omega
    refine CW.ret (ret (vs := [_]) ⟨_, _, rfl, rfl, rfl⟩ (Post.mk (Le.refl _) hg3.drop (hax1.trans (hax2.trans hax3)) ⟨a2, c2, ?_, ?_⟩))
    · rw [← he, hlast]; rfl
    · rw [← he, hlast]; exact hown3

/-! ### signed numbers -/
def encI (v : Int) : List Int := encU (if v < 0 then -2 * v - 1 else 2 * v)

set_option maxRecDepth 100000 in
theorem Int_ct {w : World} {s A : Res} {os : List Res} {p : Nat} {bs : List Int} {v : Int} (hg : Good w s (A :: os)) (hA : WObj s A p bs) (hv : rng .i64 v) (hl : bs.length + 10 ≤ 140737488355328) :
    Calls Tryd.prog 37 #[ptr p, .int .i64 v] w (Post w s os fun s' A' r => r = .tuple #[] ∧ WObj s' A' p (bs ++ encI v)) := by
  refine enter (l := [ptr p, .int .i64 v]) Tryd.func37 rfl Tryd.ntmps37 rfl ?_
  refine CW.plain ?_
  refine RL.pure rfl rfl rfl rfl ?_
  refine RL.pure rfl rfl rfl rfl ?_
  refine RL.convw rfl rfl rfl rfl Tryd.underlying3 Tryd.underlying29 rfl ?_
  refine RL.shl 1 rfl rfl rfl rfl rfl rfl rfl (by decide) ?_
  refine RL.pure rfl rfl rfl rfl ?_
  refine RL.shr 63 rfl rfl rfl rfl rfl rfl rfl (by decide) ?_
  refine RL.convw rfl rfl rfl rfl Tryd.underlying3 Tryd.underlying29 rfl ?_
  refine RL.as_ rfl rfl rfl rfl (.int .u64 (if v < 0 then -2 * v - 1 else 2 * v)) (congrArg (Value.int .u64) (zig v hv)) ?_
  refine RL.call rfl rfl rfl rfl rfl ca14 (Uint_ct hg hA (by simp only [rng] at *; split <;> omega) hl) ?_
  rintro v s1 A1 w1 hle1 hg1 hax1 ⟨_, hA1⟩
  refine ⟨trivial, ?_⟩
  refine RL.done ?_
  exact fall (vs := []) rfl (Post.mk hle1 hg1 hax1 ⟨rfl, hA1⟩)

set_option maxRecDepth 100000 in
theorem rInt_ct {w : World} {s : Res} {os : List Res} {v : Int} (hg : Good w s os) (hv : rng .i64 v) :
    Calls Tryd.prog 38 #[.int .i64 v] w (Post w s os fun s' A' r => BOwn s' A' r (encI v)) := by
  refine enter (l := [.int .i64 v]) Tryd.func38 rfl Tryd.ntmps38 rfl ?_
  refine CW.seq (CW.plain ?_)
  refine RL.pure rfl rfl rfl rfl ?_
  refine RL.done ?_
  refine CW.seq (CW.seq (CW.plain ?_))
  refine RL.pure rfl rfl rfl rfl ?_
  refine RL.pure rfl rfl rfl rfl ?_
  refine RL.done ?_
  refine CW.test rfl (fun h => ?_) (fun h => ?_)
  · refine CW.seq (CW.plain ?_)
    refine RL.pure rfl rfl rfl rfl ?_
    refine RL.add rfl rfl rfl rfl rfl rfl (by simp only [rng] at *; omega) ?_
    refine RL.neg rfl rfl rfl rfl rfl (by simp only [rng] at *; omega) ?_
    refine RL.conv rfl rfl rfl rfl Tryd.underlying3 Tryd.underlying29 rfl ((by simp only [rng] at *; omega)) ?_
    refine RL.mul rfl rfl rfl rfl rfl rfl (by simp only [rng] at *; omega) ?_
    refine RL.add rfl rfl rfl rfl rfl rfl (by simp only [rng] at *; omega) ?_
    refine RL.call rfl rfl rfl rfl rfl ca36 (rUint_ct hg (by simp only [rng] at *; omega)) ?_
    rintro r s1 A1 w1 hle1 hg1 hax1 hr
    refine ⟨trivial, ?_⟩
    refine RL.pure rfl rfl rfl rfl ?_
    refine RL.done ?_
    refine CW.ret (ret (vs := [_]) ⟨_, _, rfl, rfl, rfl⟩ (Post.mk hle1 hg1 hax1 ?_))
    have e : encI v = encU (2 * -(v + 1) + 1) := by unfold encI; rw [if_pos h]; congr 1; omega
    rw [e]; exact hr
  · refine CW.skip ?_
    refine CW.seq (CW.plain ?_)
    refine RL.pure rfl rfl rfl rfl ?_
    refine RL.conv rfl rfl rfl rfl Tryd.underlying3 Tryd.underlying29 rfl ((by simp only [rng] at *; omega)) ?_
    refine RL.mul rfl rfl rfl rfl rfl rfl (by simp only [rng] at *; omega) ?_
    refine RL.call rfl rfl rfl rfl rfl ca36 (rUint_ct hg (by simp only [rng] at *; omega)) ?_
    rintro r s1 A1 w1 hle1 hg1 hax1 hr
    refine ⟨trivial, ?_⟩
    refine RL.pure rfl rfl rfl rfl ?_
    refine RL.done ?_
    refine CW.ret (ret (vs := [_]) ⟨_, _, rfl, rfl, rfl⟩ (Post.mk hle1 hg1 hax1 ?_))
    have e : encI v = encU (2 * v) := by unfold encI; rw [if_neg h]
    rw [e]; exact hr

set_option maxRecDepth 100000 in
theorem rBool_ct {w : World} {s : Res} {os : List Res} {v : Bool} (hg : Good w s os) :
    Calls Tryd.prog 40 #[.bool v] w (Post w s os fun s' A' r => BOwn s' A' r (encB v)) := by
  refine enter (l := [.bool v]) Tryd.func40 rfl Tryd.ntmps40 rfl ?_
  refine CW.seq (CW.plain ?_)
  refine RL.pure rfl rfl rfl rfl ?_
  refine RL.done ?_
  refine CW.seq (CW.seq (CW.plain ?_))
  refine RL.pure rfl rfl rfl rfl ?_
  refine RL.done ?_
  refine CW.cond rfl (fun h => ?_) (fun h => ?_)
  · refine CW.seq (CW.plain ?_)
    refine RL.buildSlice rfl rfl rfl rfl sl25 ze5 rfl rfl rfl rfl hg ?_
    rintro b w2 hg2 hax2
    refine ⟨trivial, ?_⟩
    refine RL.pure rfl rfl rfl rfl ?_
    refine RL.done ?_
    subst h
    exact CW.ret (ret (vs := [_]) ⟨_, _, rfl, rfl, rfl⟩ (Post.mk (Le.refl _) hg2 hax2 ⟨_, _, rfl, .inr ⟨b, _, rfl, if_pos rfl, Nat.le_refl _, by decide, rfl, Chunks.single rfl ⟨rfl, by simp [rng]⟩⟩⟩))
  · refine CW.skip ?_
    refine CW.seq (CW.plain ?_)
    refine RL.buildSlice rfl rfl rfl rfl sl25 ze5 rfl rfl rfl rfl hg ?_
    rintro b w2 hg2 hax2
    refine ⟨trivial, ?_⟩
    refine RL.pure rfl rfl rfl rfl ?_
    refine RL.done ?_
    subst h
    exact CW.ret (ret (vs := [_]) ⟨_, _, rfl, rfl, rfl⟩ (Post.mk (Le.refl _) hg2 hax2 ⟨_, _, rfl, .inr ⟨b, _, rfl, if_pos rfl, Nat.le_refl _, by decide, rfl, Chunks.single rfl ⟨rfl, by simp [rng]⟩⟩⟩))

set_option maxRecDepth 100000 in
theorem rText_ct {w : World} {s : Res} {os : List Res} {xs : List Int} {xa : Option Addr} {xc : Nat} (hg : Good w s os) (hx : Imm (RInt .u8) 1 s xa xc xs) (hl : xs.length ≤ 70368744177664) :
    Calls Tryd.prog 42 #[.slice xa xs.length xc] w (Post w s os fun s' A' r => BOwn s' A' r (encT xs)) := by
  refine enter (l := [.slice xa xs.length xc]) Tryd.func42 rfl Tryd.ntmps42 rfl ?_
  refine CW.seq (CW.plain ?_)
  refine RL.pure rfl rfl rfl rfl ?_
  refine RL.done ?_
  refine CW.seq (CW.plain ?_)
  have hu := encU_length (xs.length : Int)
  refine RL.pure rfl rfl rfl rfl ?_
  refine RL.len rfl rfl rfl rfl sl25 rfl ?_
  refine RL.conv rfl rfl rfl rfl Tryd.underlying3 Tryd.underlying29 rfl ((by simp only [rng]; omega)) ?_
  refine RL.call rfl rfl rfl rfl rfl ca36 (rUint_ct hg (by simp only [rng]; omega)) ?_
  rintro r s1 A1 w1 hle1 hg1 hax1 ⟨a, c, hr, hown⟩
  refine ⟨trivial, ?_⟩
  subst hr
  obtain ⟨news, hsrc, hch⟩ := Src.imm sl25 (hx.up (RInt.up _) hle1) hg1.sh
  refine RL.pure rfl rfl rfl rfl ?_
  refine RL.append (i := 0) (ys := xs) rfl rfl rfl rfl sl25 ze5 rfl (by first | exact RInt.one _ | exact RStr.one | exact RBool.one | assumption) rfl rfl hg1 rfl hown (hsrc) (hch) (by (simp; omega)) (by omega) ?_
  rintro a2 c2 A2 w3 hg3 hown3 hax3 hkeep
  refine ⟨trivial, ?_⟩
  refine RL.pure rfl rfl rfl rfl ?_
  refine RL.done ?_
  exact CW.ret (ret (vs := [_]) ⟨_, _, rfl, rfl, rfl⟩ (Post.mk hle1 hg3 (hax1.trans hax3) ⟨a2, c2, rfl, hown3⟩))

end Go.Lw
