/-
  The law CodecBit, walked.
-/
import Derived.Test.YtcbifehmmfjioaaDoorCodecPl
import Derived.Test.YtcbifehmmfjioaaDoorCodecL
namespace Go.Lw
open Go.Proofs
attribute [local irreducible] RL RA

def flip8 (x : Int) (m : Nat) : Int := IntKind.u8.wrap ((BitVec.ofInt IntKind.u8.bits x ^^^ BitVec.ofInt IntKind.u8.bits (IntKind.u8.wrap (1 * 2 ^ m))).toNat)
theorem flip8_ne {x : Int} {m : Nat} (hx : rng .u8 x) (hm : m < 8) : flip8 x m ≠ x := by
  have key : ∀ n : Nat, n < 256 → ∀ m : Nat, m < 8 → flip8 (n : Int) m ≠ (n : Int) := by decide +kernel
  obtain ⟨n, rfl⟩ := Int.eq_ofNat_of_zero_le hx.1
  have := hx.2
  exact key n (by omega) m hm

set_option maxRecDepth 100000 in
theorem CodecBit_ct {w : World} {s : Res} {os : List Res} {xs : List Int} {xa : Option Addr} {xc : Nat} {at_ : Int} (hg : Good w s os) (hx : Imm (RInt .u8) 1 s xa xc xs) (hat : rng .u32 at_) (het : Et s) (hT : Holds s ⟨0, 0, none⟩ tabVs)
    (hl : xs.length ≤ 1048576) :
    Calls Tryd.prog 6 #[.slice xa xs.length xc, .int .u32 at_] w (Post w s os fun _ _ r => r = .bool true) := by
  have hat' := hat
  simp only [rng] at hat'
  refine enter (l := [.slice xa xs.length xc, .int .u32 at_]) Tryd.func6 rfl Tryd.ntmps6 rfl ?_
  refine CW.seq (CW.plain ?_)
  refine RL.pure rfl rfl rfl rfl ?_
  refine RL.done ?_
  refine CW.seq (CW.plain ?_)
  refine RL.call rfl rfl rfl rfl rfl ca11 (lives_ct hg hT) ?_
  rintro v0 s0 A0 w0 hle0 hg0 hax0 rfl
  refine ⟨trivial, ?_⟩
  refine RL.pure rfl rfl rfl rfl ?_
  refine RL.done ?_
  have hx0 := hx.up (RInt.up _) hle0
  refine CW.seq (CW.plain ?_)
  refine RL.pure rfl rfl rfl rfl ?_
  refine RL.call rfl rfl rfl rfl rfl ca18 (Frame_ct hg0.drop hx0 (hT.le hle0) (by omega)) ?_
  rintro v3 s3 A3 w3 hle3 hg3 hax3 ⟨a3, c3, rfl, hown⟩
  refine ⟨trivial, ?_⟩
  refine RL.pure rfl rfl rfl rfl ?_
  refine RL.done ?_
  have hle := hle0.trans hle3
  have hax := hax0.trans hax3
  have hfl : 5 ≤ (frame xs).length := by
    have := encU_length (xs.length : Int)
    simp [frame, encT, sumBytes]; omega
  have hfl2 : (frame xs).length ≤ 1048590 := by
    have := encU_length (xs.length : Int)
    simp [frame, encT, sumBytes]; omega
  have hFr := hown.rng
  have hxr := hx.rng
  refine CW.seq (CW.seq (CW.plain ?_))
  refine RL.pure rfl rfl rfl rfl ?_
  refine RL.pure rfl rfl rfl rfl ?_
  refine RL.pure rfl rfl rfl rfl ?_
  refine RL.pure rfl rfl rfl rfl ?_
  refine RL.len rfl rfl rfl rfl sl25 rfl ?_
  refine RL.pure rfl rfl rfl rfl ?_
  refine RL.part 19 rfl (fun hc => ?_) (fun hc => ?_)
  · exfalso
    have : ((frame xs).length : Int) = 0 := by simpa using hc
    omega
  refine RL.pure rfl rfl rfl rfl ?_
  refine RL.pure rfl rfl rfl rfl ?_
  refine RL.pure rfl rfl rfl rfl ?_
  refine RL.len rfl rfl rfl rfl sl25 rfl ?_
  refine RL.pure rfl rfl rfl rfl ?_
  refine RL.pure rfl rfl rfl rfl ?_
  refine RL.done ?_
  refine CW.test rfl (fun h => ?_) (fun h => ?_)
  · refine CW.seq (CW.plain ?_)
    refine RL.pure rfl rfl rfl rfl ?_
    refine RL.pure rfl rfl rfl rfl ?_
    refine RL.done ?_
    exact CW.ret (ret (vs := [_]) ⟨_, _, rfl, rfl, rfl⟩ (Post.mk hle hg3 hax rfl))
  refine CW.skip (CW.seq (CW.plain ?_))
  refine RL.pure rfl rfl rfl rfl ?_
  refine RL.conv rfl rfl rfl rfl Tryd.underlying58 Tryd.underlying3 rfl ((by simp only [rng]; omega)) ?_
  refine RL.pure rfl rfl rfl rfl ?_
  refine RL.len rfl rfl rfl rfl sl25 rfl ?_
  refine RL.mul rfl rfl rfl rfl rfl rfl ((by simp only [rng]; omega)) ?_
  refine RL.rem rfl rfl rfl rfl rfl rfl ((by omega)) ((by omega)) ?_
  refine RL.pure rfl rfl rfl rfl ?_
  refine RL.done ?_
  obtain ⟨n, hn⟩ := Int.eq_ofNat_of_zero_le (Int.emod_nonneg at_ (show (8 * ((frame xs).length : Int)) ≠ 0 by omega))
  have hn2 : (n : Int) < 8 * ((frame xs).length : Int) := by rw [← hn]; exact Int.emod_lt_of_pos _ (by omega)
  rw [hn]
  have hdiv : (n : Int) / 8 = ((n / 8 : Nat) : Int) := by omega
  have hmod : (n : Int) % 8 = ((n % 8 : Nat) : Int) := by omega
  have hk : n / 8 < (frame xs).length := by omega
  refine CW.seq ?_
  have hcap := hown.le_cap
  refine CW.draws [(true, 0), (true, 1), (true, 2), (true, 3), (true, 4), (true, 5), (true, 6), (true, 8), (true, 9), (true, 10), (false, 7), (true, 11), (false, 12), (false, 13)] (fun w => True) mixed (by kernel_rfl) (by kernel_rfl) (by kernel_rfl) (by kernel_rfl) (trivial) ?_
  refine RL.pure rfl rfl rfl rfl ?_
  refine RL.pure rfl rfl rfl rfl ?_
  refine RL.quo rfl rfl rfl rfl rfl rfl ((by omega)) ((by omega)) ((by simp only [rng]; omega)) ?_
  refine RL.pure rfl rfl rfl rfl ?_
  refine RL.pure rfl rfl rfl rfl ?_
  refine RL.quo rfl rfl rfl rfl rfl rfl ((by omega)) ((by omega)) ((by simp only [rng]; omega)) ?_
  rw [hdiv]
  refine RL.idxOwn rfl rfl rfl rfl sl25 rfl rfl hown (by omega) (by omega) ?_
  rintro g cs vs hb hC hcs hvl hcell ⟨rfl, hr⟩
  refine RL.pure rfl rfl rfl rfl ?_
  refine RL.rem rfl rfl rfl rfl rfl rfl ((by omega)) ((by omega)) ?_
  rw [hmod]
  refine RL.shl (n % 8) rfl rfl rfl rfl rfl rfl (rfl) ((by simp [IntKind.bits]; omega)) ?_
  refine RL.load rfl rfl rfl rfl ty5 rfl (Holds.of hC) hg3.drew.1 (hcell 0 _ rfl) ?_
  refine RL.pure rfl rfl rfl rfl ?_
  refine RL.idxOwn rfl rfl rfl rfl sl25 rfl rfl hown (by omega) (by omega) ?_
  rintro g' cs' vs' hb' hC' _ _ _ _
  rw [hb] at hb'
  cases hb'
  refine RL.store (i := 0) rfl rfl rfl ty5 rfl rfl hg3.drew rfl (hC) rfl (by first | (simp [Value.cells, Value.oneCell']; done) | simp [Value.cells, Value.oneCell', putL]) (by first | exact Nat.le_of_ble_eq_true rfl | (simp; done) | (simp; omega) | omega) ?_
  rintro w6 hg6 hax6
  refine ⟨trivial, ?_⟩
  refine RL.done ?_
  have hy : rng .u8 (flip8 (frame xs)[n / 8] (n % 8)) := rng_wrap _ _
  have hne := flip8_ne (hFr _ (List.getElem_mem hk)) (show n % 8 < 8 by omega)
  have hset := Own.set (x := flip8 (frame xs)[n / 8] (n % 8)) (vs := [.int .u8 (flip8 (frame xs)[n / 8] (n % 8))]) (hb ▸ hown) hC hk rfl ⟨rfl, hy⟩
  have hlaw := bit_law hxr hFr hk hy hne
  obtain ⟨B, hg6, hB⟩ : ∃ B, Good w6 s3 (B :: os) ∧ Own (RInt .u8) 1 5 s3 B a3 c3 ((frame xs).set (n / 8) (flip8 (frame xs)[n / 8] (n % 8))) := ⟨_, hg6, hb.symm ▸ hset⟩
  have hsl : (frame xs).length = ((frame xs).set (n / 8) (flip8 (frame xs)[n / 8] (n % 8))).length := by rw [List.length_set]
  refine CW.less [(0, .slice xa xs.length xc), (6, .slice a3 (frame xs).length c3)] ⟨rfl, rfl, trivial⟩ ?_
  rw [hsl]
  generalize (frame xs).set (n / 8) (flip8 (frame xs)[n / 8] (n % 8)) = zs at hB hlaw hsl ⊢
  refine CW.seq (CW.plain ?_)
  refine RL.pure rfl rfl rfl rfl ?_
  refine RL.callG rfl rfl rfl rfl rfl ca19 (Unframe_ct hg6 (het.le hle) (hT.le hle) (.inr (List.mem_cons_self)) hB.row (by omega)) ?_
  rintro e7 w7 ⟨v7, s7, B7, A7, rfl, hle7, hg7, hax7, v71, v72, rfl, ⟨a71, c71, rfl, h71⟩, a72, c72, rfl, h72⟩
  refine ⟨_, rfl, trivial, ?_⟩
  refine RL.pure rfl rfl rfl rfl ?_
  refine RL.pure rfl rfl rfl rfl ?_
  refine RL.pure rfl rfl rfl rfl ?_
  refine RL.pure rfl rfl rfl rfl ?_
  refine RL.pure rfl rfl rfl rfl ?_
  refine RL.pure rfl rfl rfl rfl ?_
  refine RL.pure rfl rfl rfl rfl ?_
  refine RL.done ?_
  refine CW.seq (CW.plain ?_)
  refine RL.pure rfl rfl rfl rfl ?_
  refine RL.pure rfl rfl rfl rfl ?_
  have hend : Good w7 s7 (B :: os) ∧ Aux w w7 := ⟨hg7.drop.drop, hax.trans ((Aux.drew _).trans (hax6.trans hax7))⟩
  refine RL.part 53 rfl (fun hc => ?_) (fun hc => ?_)
  · refine RL.pure rfl rfl rfl rfl ?_
    refine RL.pass rfl rfl rfl ?_
    refine RL.pass rfl rfl rfl ?_
    refine RL.pass rfl rfl rfl ?_
    refine RL.pass rfl rfl rfl ?_
    refine RL.pass rfl rfl rfl ?_
    refine RL.pure rfl rfl rfl rfl ?_
    refine RL.pure rfl rfl rfl rfl ?_
    refine RL.pass rfl rfl rfl ?_
    refine RL.pass rfl rfl rfl ?_
    refine RL.pass rfl rfl rfl ?_
    refine RL.pure rfl rfl rfl rfl ?_
    refine RL.pure rfl rfl rfl rfl ?_
    refine RL.done ?_
    exact CW.ret (ret (vs := [_]) ⟨_, _, rfl, rfl, rfl⟩ (Post.mk (hle.trans hle7) hend.1 hend.2 rfl))
  have hc0 : (unf zs).2.2 = 0 := by simpa using hc
  refine RL.pure rfl rfl rfl rfl ?_
  refine RL.pure rfl rfl rfl rfl ?_
  refine RL.len rfl rfl rfl rfl sl25 rfl ?_
  refine RL.pure rfl rfl rfl rfl ?_
  refine RL.len rfl rfl rfl rfl sl25 rfl ?_
  refine RL.pure rfl rfl rfl rfl ?_
  refine RL.part 59 rfl (fun hd => ?_) (fun hd => ?_)
  · refine RL.pure rfl rfl rfl rfl ?_
    refine RL.pure rfl rfl rfl rfl ?_
    refine RL.pass rfl rfl rfl ?_
    refine RL.pass rfl rfl rfl ?_
    refine RL.pass rfl rfl rfl ?_
    refine RL.pure rfl rfl rfl rfl ?_
    refine RL.pure rfl rfl rfl rfl ?_
    refine RL.done ?_
    exact CW.ret (ret (vs := [_]) ⟨_, _, rfl, rfl, rfl⟩ (Post.mk (hle.trans hle7) hend.1 hend.2 rfl))
  have hd0 : (unf zs).1.length = xs.length := by
    have : ((unf zs).1.length : Int) = xs.length := by simpa using hd
    omega
  refine RL.pure rfl rfl rfl rfl ?_
  refine RL.pure rfl rfl rfl rfl ?_
  refine RL.pure rfl rfl rfl rfl ?_
  refine RL.len rfl rfl rfl rfl sl25 rfl ?_
  refine RL.pure rfl rfl rfl rfl ?_
  refine RL.part 64 rfl (fun he => ?_) (fun he => ?_)
  · refine RL.pure rfl rfl rfl rfl ?_
    refine RL.pure rfl rfl rfl rfl ?_
    refine RL.done ?_
    exact CW.ret (ret (vs := [_]) ⟨_, _, rfl, rfl, rfl⟩ (Post.mk (hle.trans hle7) hend.1 hend.2 rfl))
  exfalso
  have he0 : ¬ (0 : Int) < (unf zs).2.1.length := of_decide_eq_false he
  rcases hlaw with h1 | h1 | h1
  · exact h1 hc0
  · exact h1 hd0
  · omega
end Go.Lw
