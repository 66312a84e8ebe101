/-
  Unframe, of both sides.
-/
import Derived.Test.YtcbifehmmfjioaaDoorNmsCodecRo
import Derived.Test.YtcbifehmmfjioaaDoorNmsCodecF
namespace Go.Lw
open Go.Proofs
attribute [local irreducible] RL RA

/-- Four bytes as a number. -/
def le4 : List Int → Int
  | b0 :: b1 :: b2 :: b3 :: _ => b0 + b1 * 256 + b2 * 65536 + b3 * 16777216
  | _ => 0
def unf (bs : List Int) : List Int × List Int × Int :=
  let n := (rdUint bs ⟨0, none⟩).1
  let st := (rdUint bs ⟨0, none⟩).2
  if st.errno ≠ 0 then ([], [], st.errno)
  else if n > 262144 then ([], [], 13)
  else if ((bs.drop st.pos.toNat).length : Int) < n + 4 then ([], [], 11)
  else if le4 ((bs.drop st.pos.toNat).drop n.toNat) ≠ (crc ((bs.drop st.pos.toNat).take n.toNat)).toNat then ([], [], 14)
  else ((bs.drop st.pos.toNat).take n.toNat, ((bs.drop st.pos.toNat).drop n.toNat).drop 4, 0)

theorem four {l : List Int} (h : 4 ≤ l.length) : ∃ b0 b1 b2 b3 tl, l = b0 :: b1 :: b2 :: b3 :: tl := by
  rcases l with _ | ⟨b0, _ | ⟨b1, _ | ⟨b2, _ | ⟨b3, tl⟩⟩⟩⟩ <;> first | (simp at h; done) | exact ⟨b0, b1, b2, b3, tl, rfl⟩

theorem or32n (hi lo : Int) (i : Nat) (h0 : 0 ≤ hi) (h1 : 0 ≤ lo) (h2 : lo < 2 ^ i) (h3 : hi * 2 ^ i + lo < 4294967296) :
    IntKind.u32.wrap ((BitVec.ofInt 32 (hi * 2 ^ i) ||| BitVec.ofInt 32 lo).toNat) = hi * 2 ^ i + lo := by
  obtain ⟨a, rfl⟩ := Int.eq_ofNat_of_zero_le h0
  obtain ⟨b, rfl⟩ := Int.eq_ofNat_of_zero_le h1
  have e : ((a : Int) * 2 ^ i) = ((a * 2 ^ i : Nat) : Int) := by simp
  rw [e] at h3 ⊢
  have hb : b < 2 ^ i := by
    have : ((2 : Int) ^ i) = ((2 ^ i : Nat) : Int) := by simp
    rw [this] at h2
    omega
  have h3' : a * 2 ^ i + b < 4294967296 := by omega
  have hor : a * 2 ^ i ||| b = a * 2 ^ i + b := by
    rw [Nat.mul_comm a]
    exact (Nat.two_pow_add_eq_or_of_lt hb a).symm
  rw [BitVec.toNat_or, BitVec.toNat_ofInt, BitVec.toNat_ofInt]
  have e1 : (((a * 2 ^ i : Nat) : Int) % ((2 ^ 32 : Nat) : Int)).toNat = a * 2 ^ i := by omega
  have e2 : ((b : Int) % ((2 ^ 32 : Nat) : Int)).toNat = b := by omega
  rw [e1, e2, hor]
  simp [IntKind.wrap, IntKind.bits, IntKind.signed]
  omega

theorem sh32 {x : Int} (i : Nat) (h0 : 0 ≤ x) (h1 : x * 2 ^ i < 4294967296) : IntKind.u32.wrap (x * 2 ^ i) = x * 2 ^ i := by
  have h2 : 0 ≤ x * 2 ^ i := Int.mul_nonneg h0 (Int.le_of_lt (Int.pow_pos (by omega)))
  exact Lw.rng.wrap (k := .u32) (by simp only [rng]; omega)
theorem or32z (x : Int) (h0 : 0 ≤ x) (h1 : x < 4294967296) : IntKind.u32.wrap ((BitVec.ofInt 32 0 ||| BitVec.ofInt 32 x).toNat) = x := by
  have := or32n 0 x 32 (Int.le_refl _) h0 (by simpa using h1) (by simpa using h1)
  simpa using this
theorem Own.none {α : Type} {R : Res → List Value → α → Prop} {sz : Nat} {el : TypeId} {s A : Res} : Own R sz el s A none 0 [] := .inl ⟨rfl, rfl, rfl⟩

/-- How Unframe ends. -/
def UOut (r : List Int × List Int × Int) (s B A : Res) (v : Value) : Prop := ∃ v1 v2, v = .tuple #[v1, v2, .int .i64 r.2.2] ∧ BOwn s A v1 r.1 ∧ BOwn s B v2 r.2.1
theorem UOut.bad {s B A : Res} {e : Int} : UOut ([], [], e) s B A (.tuple #[.slice none 0 0, .slice none 0 0, .int .i64 e]) := ⟨_, _, rfl, ⟨none, 0, rfl, Own.none⟩, none, 0, rfl, Own.none⟩

set_option maxRecDepth 100000 in
theorem Unframe_ct {w : World} {s r : Res} {os : List Res} {xs : List Int} {xa : Option Addr} {xc : Nat} (hg : Good w s os) (het : Et s) (hT : Holds s ⟨0, 0, none⟩ tabVs) (hr : r = s ∨ r ∈ os) (hx : xs = [] ∨ ∃ ad, xa = some ad ∧ Row (RInt .u8) 1 r s ad xs) (hl : xs.length ≤ 140737488355328) :
    Calls Tryd.prog 19 #[.slice xa xs.length xc] w (Post2 w s os (UOut (unf xs))) := by
  refine enter (l := [.slice xa xs.length xc]) Tryd.func19 rfl Tryd.ntmps19 rfl ?_
  refine CW.seq (CW.plain ?_)
  refine RL.pure rfl rfl rfl rfl ?_
  refine RL.pure rfl rfl rfl rfl ?_
  refine RL.pure rfl rfl rfl rfl ?_
  refine RL.done ?_
  refine CW.seq (CW.plain ?_)
  refine RL.pure rfl rfl rfl rfl ?_
  refine RL.call rfl rfl rfl rfl rfl ca15 (NewReader_ct hg hr hx hl) ?_
  rintro v s1 A1 w1 hle1 hg1 hax1 ⟨p, rfl, hR1⟩
  refine ⟨trivial, ?_⟩
  refine RL.pure rfl rfl rfl rfl ?_
  refine RL.done ?_
  refine CW.seq (CW.plain ?_)
  refine RL.pure rfl rfl rfl rfl ?_
  refine RL.call rfl rfl rfl rfl rfl ca16 (RdUint_ct hg1 hR1) ?_
  rintro v s2 A2 w2 hle2 hg2 hax2 ⟨rfl, hn, hR2⟩
  refine ⟨trivial, ?_⟩
  refine RL.pure rfl rfl rfl rfl ?_
  refine RL.done ?_
  refine CW.seq (CW.plain ?_)
  refine RL.pure rfl rfl rfl rfl ?_
  refine RL.callV rfl rfl rfl rfl rfl ca25 (Err_ct hg2 (het.le (hle1.trans hle2)) hR2) ?_
  rintro v3 w3 hg3 hax3 rfl
  refine ⟨trivial, ?_⟩
  refine RL.pure rfl rfl rfl rfl ?_
  refine RL.pure rfl rfl rfl rfl ?_
  refine RL.pure rfl rfl rfl rfl ?_
  refine RL.pure rfl rfl rfl rfl ?_
  refine RL.pure rfl rfl rfl rfl ?_
  refine RL.done ?_
  have hT := hT.le (hle1.trans hle2)
  have hax123 := hax1.trans (hax2.trans hax3)
  have hle12 := hle1.trans hle2
  obtain ⟨h0, h1, a, c, v, hp, hI, hv⟩ := hR2
  have hu : unf xs = unf xs := rfl
  conv at hu => rhs; unfold unf
  simp only at hu
  generalize (rdUint xs ⟨0, none⟩).1 = n at hn hu ⊢
  generalize (rdUint xs ⟨0, none⟩).2 = st at hn hu h0 h1 hp hv hg3 ⊢
  refine CW.seq ?_
  refine CW.draws [(true, 0), (true, 1), (true, 2), (true, 3), (true, 4), (true, 5), (true, 6), (true, 7), (true, 8), (false, 9)] (fun w => Good w s2 (A2 :: os)) mixed (by kernel_rfl) (by kernel_rfl) (by kernel_rfl) (by kernel_rfl) (hg3.drew) ?_
  refine RL.pure rfl rfl rfl rfl ?_
  refine RL.pure rfl rfl rfl rfl ?_
  refine RL.field rfl rfl rfl rfl fl107_0 rfl rfl ?_
  refine RL.loadT (j := 0) rfl rfl rfl rfl ty25 rfl (Holds.of hp) (fun w h => h.1) rfl ?_
  refine RL.pure rfl rfl rfl rfl ?_
  refine RL.pure rfl rfl rfl rfl ?_
  refine RL.field rfl rfl rfl rfl fl107_1 rfl rfl ?_
  refine RL.loadT rfl rfl rfl rfl ty3 rfl (Holds.of hp) (fun w h => h.1) rfl ?_
  refine RL.part_ (st.pos) (xs.length) rfl rfl rfl rfl sl25 rfl (.inr ⟨_, _, rfl, rfl⟩) (.inl ⟨rfl, rfl⟩) (hI) (h0) (h1) (Int.le_refl _) ?_
  rintro a1 c1 hI1
  refine RL.pure rfl rfl rfl rfl ?_
  refine RL.done ?_
  have hrest : (xs.take ((xs.length : Int)).toNat).drop st.pos.toNat = xs.drop st.pos.toNat := by simp
  rw [hrest] at hI1 ⊢
  have hg4 := hg3.drew
  have hax4 := hax123.trans (Aux.drew w3)
  have hrl : (xs.drop st.pos.toNat).length ≤ xs.length := by simp
  generalize xs.drop st.pos.toNat = rest at hI1 hu hrl ⊢
  have hn' := hn
  simp only [rng] at hn'
  refine CW.seq (CW.block (CW.seq (CW.plain ?_)))
  refine RL.pure rfl rfl rfl rfl ?_
  refine RL.pure rfl rfl rfl rfl ?_
  refine RL.pure rfl rfl rfl rfl ?_
  refine RL.done ?_
  refine CW.ne rfl (fun h => ?_) (fun h => ?_)
  · refine CW.seq (CW.plain ?_)
    refine RL.pure rfl rfl rfl rfl ?_
    refine RL.pure rfl rfl rfl rfl ?_
    refine RL.pure rfl rfl rfl rfl ?_
    refine RL.pure rfl rfl rfl rfl ?_
    refine RL.done ?_
    rw [if_pos h] at hu
    exact CW.ret (ret (vs := [_, _, _]) ⟨_, _, rfl, rfl, _, _, rfl, rfl, _, _, rfl, rfl, rfl⟩ (Post2.mk hle12 hg4.drop.nil.nil hax4 (hu ▸ UOut.bad)))
  rw [if_neg (by simpa using h)] at hu
  refine CW.seq (CW.plain ?_)
  refine RL.pure rfl rfl rfl rfl ?_
  refine RL.pure rfl rfl rfl rfl ?_
  refine RL.pure rfl rfl rfl rfl ?_
  refine RL.done ?_
  refine CW.test rfl (fun h => ?_) (fun h => ?_)
  · refine CW.seq (CW.plain ?_)
    refine RL.pure rfl rfl rfl rfl ?_
    refine RL.pure rfl rfl rfl rfl ?_
    refine RL.pure rfl rfl rfl rfl ?_
    refine RL.done ?_
    rw [if_pos h] at hu
    exact CW.ret (ret (vs := [_, _, _]) ⟨_, _, rfl, rfl, _, _, rfl, rfl, _, _, rfl, rfl, rfl⟩ (Post2.mk hle12 hg4.drop.nil.nil hax4 (hu ▸ UOut.bad)))
  rw [if_neg h] at hu
  refine CW.seq (CW.plain ?_)
  refine RL.pure rfl rfl rfl rfl ?_
  refine RL.len rfl rfl rfl rfl sl25 rfl ?_
  refine RL.conv rfl rfl rfl rfl Tryd.underlying3 Tryd.underlying29 rfl ((by simp only [rng]; omega)) ?_
  refine RL.pure rfl rfl rfl rfl ?_
  refine RL.add rfl rfl rfl rfl rfl rfl ((by simp only [rng]; omega)) ?_
  refine RL.pure rfl rfl rfl rfl ?_
  refine RL.pure rfl rfl rfl rfl ?_
  refine RL.done ?_
  refine CW.test rfl (fun h => ?_) (fun h => ?_)
  · refine CW.seq (CW.plain ?_)
    refine RL.pure rfl rfl rfl rfl ?_
    refine RL.pure rfl rfl rfl rfl ?_
    refine RL.pure rfl rfl rfl rfl ?_
    refine RL.done ?_
    rw [if_pos h] at hu
    exact CW.ret (ret (vs := [_, _, _]) ⟨_, _, rfl, rfl, _, _, rfl, rfl, _, _, rfl, rfl, rfl⟩ (Post2.mk hle12 hg4.drop.nil.nil hax4 (hu ▸ UOut.bad)))
  rw [if_neg h] at hu
  refine CW.skip (CW.seq ?_)
  refine CW.draws [(true, 0), (true, 1), (true, 2), (true, 3), (true, 4), (true, 5), (false, 6), (false, 7)] (fun w => Good w s2 (A2 :: os)) mixed (by kernel_rfl) (by kernel_rfl) (by kernel_rfl) (by kernel_rfl) (hg4.drew) ?_
  refine RL.pure rfl rfl rfl rfl ?_
  refine RL.pure rfl rfl rfl rfl ?_
  refine RL.part_ (0) (n) rfl rfl rfl rfl sl25 rfl (.inl ⟨rfl, rfl⟩) (.inr ⟨_, _, rfl, rfl⟩) (hI1) (Int.le_refl _) (hn'.1) ((by omega)) ?_
  rintro a2 c2 hI2
  refine RL.pure rfl rfl rfl rfl ?_
  refine RL.pure rfl rfl rfl rfl ?_
  refine RL.part_ (n) (rest.length) rfl rfl rfl rfl sl25 rfl (.inr ⟨_, _, rfl, rfl⟩) (.inl ⟨rfl, rfl⟩) (hI1) (hn'.1) ((by omega)) (Int.le_refl _) ?_
  rintro a3 c3 hI3
  refine RL.pure rfl rfl rfl rfl ?_
  refine RL.pure rfl rfl rfl rfl ?_
  refine RL.done ?_
  have he2 : (rest.take n.toNat).drop ((0 : Int)).toNat = rest.take n.toNat := by simp
  have he3 : (rest.take ((rest.length : Int)).toNat).drop n.toNat = rest.drop n.toNat := by simp
  rw [he2] at hI2 ⊢
  rw [he3] at hI3 ⊢
  obtain ⟨b0, b1, b2, b3, tl, htl⟩ := four (l := rest.drop n.toNat) (by simp; omega)
  rw [htl] at hI3 hu ⊢
  have hg5 := hg4.drew
  have hax5 := hax4.trans (Aux.drew _)
  have hr0 := hI3.rng b0 (by simp)
  have hr1 := hI3.rng b1 (by simp)
  have hr2 := hI3.rng b2 (by simp)
  have hr3 := hI3.rng b3 (by simp)
  simp only [rng] at hr0 hr1 hr2 hr3
  refine CW.seq (CW.plain ?_)
  refine RL.pure rfl rfl rfl rfl ?_
  refine RL.done ?_
  refine CW.seq (CW.seq (CW.plain ?_))
  refine RL.pure rfl rfl rfl rfl ?_
  refine RL.part_ (0) (4) rfl rfl rfl rfl sl25 rfl (.inl ⟨rfl, rfl⟩) (.inr ⟨_, _, rfl, rfl⟩) (hI3) (Int.le_refl _) (by omega) ((by simp; omega)) ?_
  rintro a4 c4 hI4
  refine RL.len rfl rfl rfl rfl sl25 rfl ?_
  refine RL.done ?_
  refine CW.block (CW.seq (CW.block (CW.seq (CW.block (CW.seq (CW.block (CW.seq (CW.seq (CW.seq (CW.plain ?_))))))))))
  refine RL.pure rfl rfl rfl rfl ?_
  refine RL.pure rfl rfl rfl rfl ?_
  refine RL.done ?_
  refine CW.yes rfl (CW.exit (CW.plain ?_))
  refine RL.pure rfl rfl rfl rfl ?_
  refine RL.pure rfl rfl rfl rfl ?_
  refine RL.idx rfl rfl rfl rfl sl25 rfl rfl (hI3) (by omega) ((by simp; omega)) ?_
  rintro q1 vs1 hvl1 hH1 ⟨rfl, hr1'⟩
  refine RL.load rfl rfl rfl rfl ty5 rfl (hH1) (hg5.sh) rfl ?_
  refine RL.conv rfl rfl rfl rfl Tryd.underlying5 Tryd.underlying58 rfl ((show rng .u32 b3 by simp only [rng]; omega)) ?_
  refine RL.shl 24 rfl rfl rfl rfl rfl rfl rfl (by decide) ?_
  refine RL.as_ rfl rfl rfl rfl (.int .u32 (b3 * 2 ^ 24)) ((congrArg (Value.int .u32) (by rw [show IntKind.u32.bits = 32 from rfl]; exact (congrArg (fun z => IntKind.u32.wrap ((BitVec.ofInt 32 0 ||| BitVec.ofInt 32 z).toNat)) (sh32 24 hr3.1 (by omega))).trans (or32z _ (by omega) (by omega))))) ?_
  refine RL.pure rfl rfl rfl rfl ?_
  refine RL.done ?_
  refine CW.plain ?_
  refine RL.pure rfl rfl rfl rfl ?_
  refine RL.pure rfl rfl rfl rfl ?_
  refine RL.idx rfl rfl rfl rfl sl25 rfl rfl (hI3) (by omega) ((by simp; omega)) ?_
  rintro q2 vs2 hvl2 hH2 ⟨rfl, hr2'⟩
  refine RL.load rfl rfl rfl rfl ty5 rfl (hH2) (hg5.sh) rfl ?_
  refine RL.conv rfl rfl rfl rfl Tryd.underlying5 Tryd.underlying58 rfl ((show rng .u32 b2 by simp only [rng]; omega)) ?_
  refine RL.shl 16 rfl rfl rfl rfl rfl rfl rfl (by decide) ?_
  refine RL.as_ rfl rfl rfl rfl (.int .u32 (b3 * 2 ^ 24 + b2 * 2 ^ 16)) ((congrArg (Value.int .u32) (by rw [show IntKind.u32.bits = 32 from rfl]; exact (congrArg (fun z => IntKind.u32.wrap ((BitVec.ofInt 32 (b3 * 2 ^ 24) ||| BitVec.ofInt 32 z).toNat)) (sh32 16 hr2.1 (by omega))).trans (or32n b3 (b2 * 2 ^ 16) 24 hr3.1 (by omega) (by omega) (by omega))))) ?_
  refine RL.pure rfl rfl rfl rfl ?_
  refine RL.done ?_
  refine CW.seq ?_
  refine CW.draws [(true, 0), (true, 1), (true, 2), (true, 3), (true, 4), (true, 5), (true, 6), (true, 7), (true, 8), (true, 9), (true, 10), (true, 11), (false, 12)] (fun w => Good w s2 (A2 :: os)) mixed (by kernel_rfl) (by kernel_rfl) (by kernel_rfl) (by kernel_rfl) (hg5.drew) ?_
  refine RL.pure rfl rfl rfl rfl ?_
  refine RL.pure rfl rfl rfl rfl ?_
  refine RL.idx rfl rfl rfl rfl sl25 rfl rfl (hI3) (by omega) ((by simp; omega)) ?_
  rintro q3 vs3 hvl3 hH3 ⟨rfl, hr3'⟩
  refine RL.loadT rfl rfl rfl rfl ty5 rfl (hH3) (fun w h => h.sh) rfl ?_
  refine RL.conv rfl rfl rfl rfl Tryd.underlying5 Tryd.underlying58 rfl ((show rng .u32 b1 by simp only [rng]; omega)) ?_
  refine RL.shl 8 rfl rfl rfl rfl rfl rfl rfl (by decide) ?_
  refine RL.pure rfl rfl rfl rfl ?_
  refine RL.idx rfl rfl rfl rfl sl25 rfl rfl (hI3) (by omega) ((by simp; omega)) ?_
  rintro q4 vs4 hvl4 hH4 ⟨rfl, hr4'⟩
  refine RL.loadT rfl rfl rfl rfl ty5 rfl (hH4) (fun w h => h.sh) rfl ?_
  refine RL.conv rfl rfl rfl rfl Tryd.underlying5 Tryd.underlying58 rfl ((show rng .u32 b0 by simp only [rng]; omega)) ?_
  refine RL.as_ rfl rfl rfl rfl (.int .u32 (b1 * 2 ^ 8 + b0)) ((congrArg (Value.int .u32) (by rw [show IntKind.u32.bits = 32 from rfl]; exact (congrArg (fun z => IntKind.u32.wrap ((BitVec.ofInt 32 z ||| BitVec.ofInt 32 b0).toNat)) (sh32 8 hr1.1 (by omega))).trans (or32n b1 b0 8 hr1.1 hr0.1 (by omega) (by omega))))) ?_
  refine RL.as_ rfl rfl rfl rfl (.int .u32 (le4 (b0 :: b1 :: b2 :: b3 :: tl))) ((congrArg (Value.int .u32) (by rw [show IntKind.u32.bits = 32 from rfl]; exact (congrArg (fun z => IntKind.u32.wrap ((BitVec.ofInt 32 z ||| BitVec.ofInt 32 (b1 * 2 ^ 8 + b0)).toNat)) (by omega : b3 * 2 ^ 24 + b2 * 2 ^ 16 = (b3 * 2 ^ 8 + b2) * 2 ^ 16)).trans ((or32n (b3 * 2 ^ 8 + b2) (b1 * 2 ^ 8 + b0) 16 (by omega) (by omega) (by omega) (by omega)).trans (by simp only [le4]; omega))))) ?_
  refine RL.pure rfl rfl rfl rfl ?_
  refine RL.done ?_
  have hg6 := hg5.drew
  have hax6 := hax5.trans (Aux.drew _)
  refine CW.exit (CW.seq (CW.seq (CW.plain ?_)))
  refine RL.pure rfl rfl rfl rfl ?_
  refine RL.pure rfl rfl rfl rfl ?_
  refine RL.callV rfl rfl rfl rfl rfl ca22 (Sum_ct hg6 hI2 hT) ?_
  rintro v7 w7 hg7 hax7 rfl
  refine ⟨trivial, ?_⟩
  refine RL.pure rfl rfl rfl rfl ?_
  refine RL.done ?_
  have hax7 := hax6.trans hax7
  refine CW.ne rfl (fun h => ?_) (fun h => ?_)
  · refine CW.seq (CW.plain ?_)
    refine RL.pure rfl rfl rfl rfl ?_
    refine RL.pure rfl rfl rfl rfl ?_
    refine RL.pure rfl rfl rfl rfl ?_
    refine RL.done ?_
    rw [if_pos h] at hu
    exact CW.ret (ret (vs := [_, _, _]) ⟨_, _, rfl, rfl, _, _, rfl, rfl, _, _, rfl, rfl, rfl⟩ (Post2.mk hle12 hg7.drop.nil.nil hax7 (hu ▸ UOut.bad)))
  rw [if_neg (by simpa using h)] at hu
  refine CW.skip (CW.seq ?_)
  have hr2 : rest.take n.toNat = [] ∨ ∃ ad, a2 = some ad ∧ Row (RInt .u8) 1 s2 s2 ad (rest.take n.toNat) := hI2.2.2
  refine CW.draws [(true, 0), (true, 2), (true, 3), (false, 1), (false, 4), (false, 5), (false, 6), (false, 7)] (fun w => True) mixed (by kernel_rfl) (by kernel_rfl) (by kernel_rfl) (by kernel_rfl) (trivial) ?_
  refine RL.pure rfl rfl rfl rfl ?_
  skip
  refine RL.pure rfl rfl rfl rfl ?_
  refine RL.part_ (4) ((tl.length + 4 : Nat)) rfl rfl rfl rfl sl25 rfl (.inr ⟨_, _, rfl, rfl⟩) (.inl ⟨rfl, rfl⟩) (hI3) ((by omega)) ((by omega)) ((by simp; omega)) ?_
  rintro a5 c5 hI5
  refine RL.call rfl rfl rfl rfl rfl ca53 (CloneB_ct hg7.drew.drop (.inl rfl) hI2.2.2 (by simp; omega)) ?_
  rintro v8 s8 A8 w8 hle8 hg8 hax8 h8
  refine ⟨trivial, ?_⟩
  have he5 : ((b0 :: b1 :: b2 :: b3 :: tl).take (((tl.length + 4 : Nat) : Int)).toNat).drop ((4 : Int)).toNat = tl := by
    have e : (((tl.length + 4 : Nat) : Int)).toNat = tl.length + 4 := by omega
    rw [e]; simp
  rw [he5] at hI5 ⊢
  refine RL.call rfl rfl rfl rfl rfl ca53 (CloneB_ct hg8 (.inl rfl) (hI5.up (RInt.up _) hle8).2.2 (by have := congrArg List.length htl; simp at this; omega)) ?_
  rintro v9 s9 A9 w9 hle9 hg9 hax9 h9
  refine ⟨trivial, ?_⟩
  refine RL.pure rfl rfl rfl rfl ?_
  refine RL.pure rfl rfl rfl rfl ?_
  refine RL.pure rfl rfl rfl rfl ?_
  refine RL.done ?_
  obtain ⟨a8, c8, rfl, h8⟩ := h8
  refine CW.ret (ret (vs := [_, _, _]) ⟨_, _, rfl, rfl, _, _, rfl, rfl, _, _, rfl, rfl, rfl⟩ (Post2.mk (hle12.trans (hle8.trans hle9)) hg9 (hax7.trans ((Aux.drew _).trans (hax8.trans hax9))) ?_))
  rw [hu]
  exact ⟨_, _, rfl, ⟨a8, c8, rfl, h8.up (RInt.up _) hle9⟩, h9⟩

set_option maxRecDepth 100000 in
theorem rUnframe_ct {w : World} {s : Res} {os : List Res} {xs : List Int} {xa : Option Addr} {xc : Nat} (hg : Good w s os) (hx : Imm (RInt .u8) 1 s xa xc xs) (hl : xs.length ≤ 140737488355328) :
    Calls Tryd.prog 20 #[.slice xa xs.length xc] w (Post2 w s os (UOut (unf xs))) := by
  refine enter (l := [.slice xa xs.length xc]) Tryd.func20 rfl Tryd.ntmps20 rfl ?_
  refine CW.seq (CW.plain ?_)
  refine RL.pure rfl rfl rfl rfl ?_
  refine RL.pure rfl rfl rfl rfl ?_
  refine RL.pure rfl rfl rfl rfl ?_
  refine RL.done ?_
  refine CW.seq (CW.plain ?_)
  refine RL.pure rfl rfl rfl rfl ?_
  refine RL.build rfl rfl rfl rfl ze65 pl65 rfl rfl ?_
  refine RL.box rfl rfl rfl rfl rfl hg ?_
  rintro p w1 hg1 hax1
  refine ⟨trivial, ?_⟩
  refine RL.pure rfl rfl rfl rfl ?_
  refine RL.done ?_
  have hR1 : RrObj s (Res.one p (.cells #[.slice xa xs.length xc, .int .i64 0, .int .i64 0, .int .i64 0] 65)) p xs ⟨0, none⟩ := ⟨Int.le_refl _, by simp, xa, xc, 0, if_pos rfl, hx, fun e k h => (nomatch h), fun _ => rfl⟩
  refine CW.seq (CW.plain ?_)
  refine RL.pure rfl rfl rfl rfl ?_
  refine RL.call rfl rfl rfl rfl rfl ca55 (RrUint_ct hg1 hR1) ?_
  rintro v s2 A2 w2 hle2 hg2 hax2 ⟨rfl, hn, hR2⟩
  refine ⟨trivial, ?_⟩
  refine RL.pure rfl rfl rfl rfl ?_
  refine RL.done ?_
  have hax12 := hax1.trans hax2
  have hle12 := hle2
  obtain ⟨h0, h1, a, c, bad, hp, hI, hv⟩ := hR2
  have hu : unf xs = unf xs := rfl
  conv at hu => rhs; unfold unf
  simp only at hu
  generalize (rdUint xs ⟨0, none⟩).1 = n at hn hu ⊢
  generalize (rdUint xs ⟨0, none⟩).2 = st at hn hu h0 h1 hp hv ⊢
  have hn' := hn
  simp only [rng] at hn'
  refine CW.seq (CW.seq (CW.plain ?_))
  refine RL.pure rfl rfl rfl rfl ?_
  refine RL.pure rfl rfl rfl rfl ?_
  refine RL.field rfl rfl rfl rfl fl65_2 rfl rfl ?_
  refine RL.load rfl rfl rfl rfl ty52 rfl (Holds.of hp) (hg2.1) rfl ?_
  refine RL.pure rfl rfl rfl rfl ?_
  refine RL.done ?_
  refine CW.ne rfl (fun h => ?_) (fun h => ?_)
  · refine CW.seq ?_
    refine CW.draws [(true, 0), (true, 1), (true, 2), (true, 3), (false, 4), (false, 5), (false, 6)] (fun w => Good w s2 (A2 :: os)) mixed (by kernel_rfl) (by kernel_rfl) (by kernel_rfl) (by kernel_rfl) (hg2.drew) ?_
    refine RL.pure rfl rfl rfl rfl ?_
    refine RL.pure rfl rfl rfl rfl ?_
    refine RL.field rfl rfl rfl rfl fl65_2 rfl rfl ?_
    refine RL.loadT rfl rfl rfl rfl ty52 rfl (Holds.of hp) (fun w h => h.1) rfl ?_
    refine RL.pure rfl rfl rfl rfl ?_
    refine RL.pure rfl rfl rfl rfl ?_
    refine RL.pure rfl rfl rfl rfl ?_
    refine RL.done ?_
    rw [if_pos (show st.errno ≠ 0 from h)] at hu
    exact CW.ret (ret (vs := [_, _, _]) ⟨_, _, rfl, rfl, _, _, rfl, rfl, _, _, rfl, rfl, rfl⟩ (Post2.mk hle12 hg2.drew.drop.nil.nil (hax12.trans (Aux.drew _)) (hu ▸ UOut.bad)))
  rw [if_neg (show ¬ st.errno ≠ 0 from fun z => z h)] at hu
  refine CW.skip (CW.seq (CW.plain ?_))
  refine RL.pure rfl rfl rfl rfl ?_
  refine RL.pure rfl rfl rfl rfl ?_
  refine RL.pure rfl rfl rfl rfl ?_
  refine RL.field rfl rfl rfl rfl fl65_1 rfl rfl ?_
  refine RL.load rfl rfl rfl rfl ty3 rfl (Holds.of hp) (hg2.1) rfl ?_
  skip
  refine RL.part_ (st.pos) (xs.length) rfl rfl rfl rfl sl25 rfl (.inr ⟨_, _, rfl, rfl⟩) (.inl ⟨rfl, rfl⟩) ((hx.up (RInt.up _) hle12)) (h0) (h1) (Int.le_refl _) ?_
  rintro a1 c1 hI1
  refine RL.pure rfl rfl rfl rfl ?_
  refine RL.done ?_
  have hrest : (xs.take ((xs.length : Int)).toNat).drop st.pos.toNat = xs.drop st.pos.toNat := by simp
  rw [hrest] at hI1 ⊢
  have hrl : (xs.drop st.pos.toNat).length ≤ xs.length := by simp
  generalize xs.drop st.pos.toNat = rest at hI1 hu hrl ⊢
  refine CW.seq (CW.seq (CW.plain ?_))
  refine RL.pure rfl rfl rfl rfl ?_
  refine RL.pure rfl rfl rfl rfl ?_
  refine RL.done ?_
  refine CW.test rfl (fun h => ?_) (fun h => ?_)
  · refine CW.seq (CW.plain ?_)
    refine RL.pure rfl rfl rfl rfl ?_
    refine RL.pure rfl rfl rfl rfl ?_
    refine RL.pure rfl rfl rfl rfl ?_
    refine RL.done ?_
    rw [if_pos h] at hu
    exact CW.ret (ret (vs := [_, _, _]) ⟨_, _, rfl, rfl, _, _, rfl, rfl, _, _, rfl, rfl, rfl⟩ (Post2.mk hle12 hg2.drop.nil.nil hax12 (hu ▸ UOut.bad)))
  rw [if_neg h] at hu
  refine CW.skip (CW.seq (CW.plain ?_))
  refine RL.pure rfl rfl rfl rfl ?_
  refine RL.conv rfl rfl rfl rfl Tryd.underlying29 Tryd.underlying3 rfl ((by simp only [rng]; omega)) ?_
  refine RL.pure rfl rfl rfl rfl ?_
  refine RL.done ?_
  refine CW.seq (CW.seq (CW.plain ?_))
  refine RL.pure rfl rfl rfl rfl ?_
  refine RL.len rfl rfl rfl rfl sl25 rfl ?_
  refine RL.pure rfl rfl rfl rfl ?_
  refine RL.add rfl rfl rfl rfl rfl rfl ((by simp only [rng]; omega)) ?_
  refine RL.pure rfl rfl rfl rfl ?_
  refine RL.done ?_
  refine CW.test rfl (fun h => ?_) (fun h => ?_)
  · refine CW.seq (CW.plain ?_)
    refine RL.pure rfl rfl rfl rfl ?_
    refine RL.pure rfl rfl rfl rfl ?_
    refine RL.pure rfl rfl rfl rfl ?_
    refine RL.done ?_
    rw [if_pos h] at hu
    exact CW.ret (ret (vs := [_, _, _]) ⟨_, _, rfl, rfl, _, _, rfl, rfl, _, _, rfl, rfl, rfl⟩ (Post2.mk hle12 hg2.drop.nil.nil hax12 (hu ▸ UOut.bad)))
  rw [if_neg h] at hu
  obtain ⟨k, rfl⟩ := Int.eq_ofNat_of_zero_le hn'.1
  have hk : ((k : Int)).toNat = k := rfl
  rw [hk] at hu
  obtain ⟨b0, b1, b2, b3, tl, htl⟩ := four (l := rest.drop k) (by simp; omega)
  have hlen : rest.length = k + (tl.length + 4) := by
    have := congrArg List.length htl
    simp at this
    omega
  have g0 : rest[k]'(by omega) = b0 := by have h9 := List.getElem_drop (xs := rest) (i := k) (j := 0) (h := by rw [htl]; simp)
                                          simpa [htl] using h9.symm
  have g1 : rest[k + 1]'(by omega) = b1 := by have h9 := List.getElem_drop (xs := rest) (i := k) (j := 1) (h := by rw [htl]; simp)
                                              simpa [htl] using h9.symm
  have g2 : rest[k + 2]'(by omega) = b2 := by have h9 := List.getElem_drop (xs := rest) (i := k) (j := 2) (h := by rw [htl]; simp)
                                              simpa [htl] using h9.symm
  have g3 : rest[k + 3]'(by omega) = b3 := by have h9 := List.getElem_drop (xs := rest) (i := k) (j := 3) (h := by rw [htl]; simp)
                                              simpa [htl] using h9.symm
  have hr0 := hI1.rng b0 (g0 ▸ List.getElem_mem _)
  have hr1 := hI1.rng b1 (g1 ▸ List.getElem_mem _)
  have hr2 := hI1.rng b2 (g2 ▸ List.getElem_mem _)
  have hr3 := hI1.rng b3 (g3 ▸ List.getElem_mem _)
  simp only [rng] at hr0 hr1 hr2 hr3
  rw [htl] at hu
  refine CW.skip (CW.seq ?_)
  refine CW.draws [(true, 0), (true, 1), (true, 2), (true, 3), (true, 4), (true, 5), (true, 6), (true, 7), (true, 8), (true, 9), (true, 10), (true, 11), (true, 12), (true, 13), (true, 14), (true, 15), (true, 16), (true, 17), (true, 18), (true, 19), (true, 20), (true, 21), (true, 22), (true, 23), (true, 24), (true, 25), (true, 26), (true, 27), (true, 28), (false, 29)] (fun w => Good w s2 (A2 :: os)) mixed (by kernel_rfl) (by kernel_rfl) (by kernel_rfl) (by kernel_rfl) (hg2.drew) ?_
  refine RL.pure rfl rfl rfl rfl ?_
  refine RL.pure rfl rfl rfl rfl ?_
  refine RL.idx rfl rfl rfl rfl sl25 rfl rfl (hI1) (by omega) ((by omega)) ?_
  rintro q0 vs0 hvl0 hH0 ⟨rfl, hr0'⟩
  refine RL.loadT rfl rfl rfl rfl ty5 rfl (hH0) (fun w h => h.sh) rfl ?_
  have z0 : rest[((k : Int)).toNat]'(by omega) = b0 := g0
  rw [z0]
  refine RL.conv rfl rfl rfl rfl Tryd.underlying5 Tryd.underlying58 rfl ((show rng .u32 b0 by simp only [rng]; omega)) ?_
  refine RL.pure rfl rfl rfl rfl ?_
  refine RL.pure rfl rfl rfl rfl ?_
  refine RL.add rfl rfl rfl rfl rfl rfl ((by simp only [rng]; omega)) ?_
  refine RL.idx rfl rfl rfl rfl sl25 rfl rfl (hI1) (by omega) ((by omega)) ?_
  rintro q1 vs1 hvl1 hH1 ⟨rfl, hr1'⟩
  refine RL.loadT rfl rfl rfl rfl ty5 rfl (hH1) (fun w h => h.sh) rfl ?_
  have z1 : rest[((k : Int) + 1).toNat]'(by omega) = b1 := g1
  rw [z1]
  refine RL.conv rfl rfl rfl rfl Tryd.underlying5 Tryd.underlying58 rfl ((show rng .u32 b1 by simp only [rng]; omega)) ?_
  refine RL.shl 8 rfl rfl rfl rfl rfl rfl rfl (by decide) ?_
  rw [sh32 8 hr1.1 (by omega)]
  refine RL.add rfl rfl rfl rfl rfl rfl ((by simp only [rng]; omega)) ?_
  refine RL.pure rfl rfl rfl rfl ?_
  refine RL.pure rfl rfl rfl rfl ?_
  refine RL.add rfl rfl rfl rfl rfl rfl ((by simp only [rng]; omega)) ?_
  refine RL.idx rfl rfl rfl rfl sl25 rfl rfl (hI1) (by omega) ((by omega)) ?_
  rintro q2 vs2 hvl2 hH2 ⟨rfl, hr2'⟩
  refine RL.loadT rfl rfl rfl rfl ty5 rfl (hH2) (fun w h => h.sh) rfl ?_
  have z2 : rest[((k : Int) + 2).toNat]'(by omega) = b2 := g2
  rw [z2]
  refine RL.conv rfl rfl rfl rfl Tryd.underlying5 Tryd.underlying58 rfl ((show rng .u32 b2 by simp only [rng]; omega)) ?_
  refine RL.shl 16 rfl rfl rfl rfl rfl rfl rfl (by decide) ?_
  rw [sh32 16 hr2.1 (by omega)]
  refine RL.add rfl rfl rfl rfl rfl rfl ((by simp only [rng]; omega)) ?_
  refine RL.pure rfl rfl rfl rfl ?_
  refine RL.pure rfl rfl rfl rfl ?_
  refine RL.add rfl rfl rfl rfl rfl rfl ((by simp only [rng]; omega)) ?_
  refine RL.idx rfl rfl rfl rfl sl25 rfl rfl (hI1) (by omega) ((by omega)) ?_
  rintro q3 vs3 hvl3 hH3 ⟨rfl, hr3'⟩
  refine RL.loadT rfl rfl rfl rfl ty5 rfl (hH3) (fun w h => h.sh) rfl ?_
  have z3 : rest[((k : Int) + 3).toNat]'(by omega) = b3 := g3
  rw [z3]
  refine RL.conv rfl rfl rfl rfl Tryd.underlying5 Tryd.underlying58 rfl ((show rng .u32 b3 by simp only [rng]; omega)) ?_
  refine RL.shl 24 rfl rfl rfl rfl rfl rfl rfl (by decide) ?_
  rw [sh32 24 hr3.1 (by omega)]
  refine RL.add rfl rfl rfl rfl rfl rfl ((by simp only [rng]; omega)) ?_
  refine RL.pure rfl rfl rfl rfl ?_
  refine RL.done ?_
  have hg3 := hg2.drew
  have hax3 := hax12.trans (Aux.drew _)
  have hle4 : b0 + b1 * 2 ^ 8 + b2 * 2 ^ 16 + b3 * 2 ^ 24 = le4 (b0 :: b1 :: b2 :: b3 :: tl) := by simp only [le4]; omega
  refine CW.seq (CW.seq (CW.plain ?_))
  refine RL.pure rfl rfl rfl rfl ?_
  refine RL.pure rfl rfl rfl rfl ?_
  refine RL.pure rfl rfl rfl rfl ?_
  refine RL.part_ (0) ((k : Int)) rfl rfl rfl rfl sl25 rfl (.inl ⟨rfl, rfl⟩) (.inr ⟨_, _, rfl, rfl⟩) (hI1) (Int.le_refl _) (by omega) ((by omega)) ?_
  rintro a2 c2 hI2
  have he2 : (rest.take ((k : Int)).toNat).drop ((0 : Int)).toNat = rest.take k := by simp
  rw [he2] at hI2 ⊢
  refine RL.callV rfl rfl rfl rfl rfl ca23 (rSum_ct hg3 hI2) ?_
  rintro v4 w4 hg4 hax4 rfl
  refine ⟨trivial, ?_⟩
  refine RL.pure rfl rfl rfl rfl ?_
  refine RL.done ?_
  have hax4 := hax3.trans hax4
  refine CW.ne rfl (fun h => ?_) (fun h => ?_)
  · refine CW.seq (CW.plain ?_)
    refine RL.pure rfl rfl rfl rfl ?_
    refine RL.pure rfl rfl rfl rfl ?_
    refine RL.pure rfl rfl rfl rfl ?_
    refine RL.done ?_
    rw [if_pos (by rw [← hle4]; exact h)] at hu
    exact CW.ret (ret (vs := [_, _, _]) ⟨_, _, rfl, rfl, _, _, rfl, rfl, _, _, rfl, rfl, rfl⟩ (Post2.mk hle12 hg4.drop.nil.nil hax4 (hu ▸ UOut.bad)))
  rw [if_neg (by rw [← hle4]; simpa using h)] at hu
  have he9 : (rest.take ((rest.length : Int)).toNat).drop (((k : Int) + 4)).toNat = tl := by
    have e : (((k : Int) + 4)).toNat = k + 4 := by omega
    rw [e, show (rest.take ((rest.length : Int)).toNat) = rest by simp, ← List.drop_drop, htl]; rfl
  refine CW.skip (CW.seq ?_)
  have hG := hg4.drew.drop
  refine CW.forks (.fork [(true, 1), (true, 2), (true, 3), (true, 6), (true, 7), (true, 8), (true, 9)] (.fork [(false, 0)] (.line [(false, 4), (false, 5), (false, 10), (false, 11), (false, 12), (false, 13)]) (.line [(false, 5), (false, 4), (false, 10), (false, 11), (false, 12), (false, 13)])) (.line [(false, 5), (false, 0), (false, 4), (false, 10), (false, 11), (false, 12), (false, 13)])) (fun _ => True) mixed (by kernel_rfl) (by kernel_rfl) (by kernel_rfl) (by kernel_rfl) trivial ?_
  refine RT.pre trivial ?_
  refine RL.pure rfl rfl rfl rfl ?_
  refine RL.pure rfl rfl rfl rfl ?_
  refine RL.part_ (0) ((k : Int)) rfl rfl rfl rfl sl25 rfl (.inl ⟨rfl, rfl⟩) (.inr ⟨_, _, rfl, rfl⟩) (hI1) (Int.le_refl _) (by omega) ((by omega)) ?_
  rintro a6 c6 hI6
  rw [he2] at hI6 ⊢
  refine RL.pure rfl rfl rfl rfl ?_
  refine RL.pure rfl rfl rfl rfl ?_
  refine RL.add rfl rfl rfl rfl rfl rfl ((by simp only [rng]; omega)) ?_
  refine RL.part_ ((k : Int) + 4) (rest.length) rfl rfl rfl rfl sl25 rfl (.inr ⟨_, _, rfl, rfl⟩) (.inl ⟨rfl, rfl⟩) (hI1) ((by omega)) ((by omega)) (Int.le_refl _) ?_
  rintro a9 c9 hI9
  refine RL.done ?_
  rw [he9] at hI9 ⊢
  refine RT.both (S := fun _ => True) trivial (RT.pre (S := fun _ => True) trivial ?_) (RT.end_ (S := fun _ => True) trivial ?_)
  · refine RL.buildSlice rfl rfl rfl rfl sl25 ze5 rfl rfl rfl rfl hG ?_
    rintro g5 w5 hg5 hax5
    refine ⟨trivial, ?_⟩
    refine RL.done ?_
    refine RT.both (S := fun _ => True) trivial (RT.end_ (S := fun _ => True) trivial ?_) (RT.end_ (S := fun _ => True) trivial ?_)
    · obtain ⟨news6, hsrc6, hch6⟩ := Src.imm sl25 hI6 hg5.sh
      refine RL.append (i := 0) (ys := rest.take k) rfl rfl rfl rfl sl25 ze5 rfl (by first | exact RInt.one _ | exact RStr.one | exact RBool.one | assumption) rfl rfl hg5 rfl Own.fresh (hsrc6) (hch6) ((by simp; omega)) (by omega) ?_
      rintro a7 c7 A7 w7 hg7 hown7 hax7 hk7
      refine ⟨trivial, ?_⟩
      refine RL.buildSlice rfl rfl rfl rfl sl25 ze5 rfl rfl rfl rfl hg7 ?_
      rintro g8 w8 hg8 hax8
      refine ⟨trivial, ?_⟩
      obtain ⟨news9, hsrc9, hch9⟩ := Src.imm sl25 hI9 hg8.sh
      refine RL.append (i := 0) (ys := tl) rfl rfl rfl rfl sl25 ze5 rfl (by first | exact RInt.one _ | exact RStr.one | exact RBool.one | assumption) rfl rfl hg8 rfl Own.fresh (hsrc9) (hch9) ((by simp; omega)) (by omega) ?_
      rintro a10 c10 A10 w10 hg10 hown10 hax10 hk10
      refine ⟨trivial, ?_⟩
      refine RL.pure rfl rfl rfl rfl ?_
      refine RL.pure rfl rfl rfl rfl ?_
      refine RL.pure rfl rfl rfl rfl ?_
      refine RL.done ?_
      refine CW.ret (ret (vs := [_, _, _]) ⟨_, _, rfl, rfl, _, _, rfl, rfl, _, _, rfl, rfl, rfl⟩ (Post2.mk hle12 hg10 (hax4.trans ((Aux.drew _).trans (hax5.trans (hax7.trans (hax8.trans hax10))))) ?_))
      rw [hu]
      exact ⟨_, _, rfl, ⟨_, _, rfl, hown7⟩, _, _, rfl, hown10⟩
    · refine RL.buildSlice rfl rfl rfl rfl sl25 ze5 rfl rfl rfl rfl hg5 ?_
      rintro g8 w8 hg8 hax8
      refine ⟨trivial, ?_⟩
      obtain ⟨news6, hsrc6, hch6⟩ := Src.imm sl25 hI6 hg8.sh
      refine RL.append (i := 1) (ys := rest.take k) rfl rfl rfl rfl sl25 ze5 rfl (by first | exact RInt.one _ | exact RStr.one | exact RBool.one | assumption) rfl rfl hg8 rfl Own.fresh (hsrc6) (hch6) ((by simp; omega)) (by omega) ?_
      rintro a7 c7 A7 w7 hg7 hown7 hax7 hk7
      refine ⟨trivial, ?_⟩
      obtain ⟨news9, hsrc9, hch9⟩ := Src.imm sl25 hI9 hg7.sh
      refine RL.append (i := 0) (ys := tl) rfl rfl rfl rfl sl25 ze5 rfl (by first | exact RInt.one _ | exact RStr.one | exact RBool.one | assumption) rfl rfl hg7 rfl Own.fresh (hsrc9) (hch9) ((by simp; omega)) (by omega) ?_
      rintro a10 c10 A10 w10 hg10 hown10 hax10 hk10
      refine ⟨trivial, ?_⟩
      refine RL.pure rfl rfl rfl rfl ?_
      refine RL.pure rfl rfl rfl rfl ?_
      refine RL.pure rfl rfl rfl rfl ?_
      refine RL.done ?_
      refine CW.ret (ret (vs := [_, _, _]) ⟨_, _, rfl, rfl, _, _, rfl, rfl, _, _, rfl, rfl, rfl⟩ (Post2.mk hle12 hg10 (hax4.trans ((Aux.drew _).trans (hax5.trans (hax8.trans (hax7.trans hax10))))) ?_))
      rw [hu]
      exact ⟨_, _, rfl, ⟨_, _, rfl, hown7⟩, _, _, rfl, hown10⟩
  · refine RL.buildSlice rfl rfl rfl rfl sl25 ze5 rfl rfl rfl rfl hG ?_
    rintro g8 w8 hg8 hax8
    refine ⟨trivial, ?_⟩
    refine RL.buildSlice rfl rfl rfl rfl sl25 ze5 rfl rfl rfl rfl hg8 ?_
    rintro g5 w5 hg5 hax5
    refine ⟨trivial, ?_⟩
    obtain ⟨news6, hsrc6, hch6⟩ := Src.imm sl25 hI6 hg5.sh
    refine RL.append (i := 0) (ys := rest.take k) rfl rfl rfl rfl sl25 ze5 rfl (by first | exact RInt.one _ | exact RStr.one | exact RBool.one | assumption) rfl rfl hg5 rfl Own.fresh (hsrc6) (hch6) ((by simp; omega)) (by omega) ?_
    rintro a7 c7 A7 w7 hg7 hown7 hax7 hk7
    refine ⟨trivial, ?_⟩
    obtain ⟨news9, hsrc9, hch9⟩ := Src.imm sl25 hI9 hg7.sh
    refine RL.append (i := 1) (ys := tl) rfl rfl rfl rfl sl25 ze5 rfl (by first | exact RInt.one _ | exact RStr.one | exact RBool.one | assumption) rfl rfl hg7 rfl Own.fresh (hsrc9) (hch9) ((by simp; omega)) (by omega) ?_
    rintro a10 c10 A10 w10 hg10 hown10 hax10 hk10
    refine ⟨trivial, ?_⟩
    refine RL.pure rfl rfl rfl rfl ?_
    refine RL.pure rfl rfl rfl rfl ?_
    refine RL.pure rfl rfl rfl rfl ?_
    refine RL.done ?_
    refine CW.ret (ret (vs := [_, _, _]) ⟨_, _, rfl, rfl, _, _, rfl, rfl, _, _, rfl, rfl, rfl⟩ (Post2.mk hle12 (Good.swap hg10) (hax4.trans ((Aux.drew _).trans (hax8.trans (hax5.trans (hax7.trans hax10))))) ?_))
    rw [hu]
    exact ⟨_, _, rfl, ⟨_, _, rfl, hown7⟩, _, _, rfl, hown10⟩
end Go.Lw
