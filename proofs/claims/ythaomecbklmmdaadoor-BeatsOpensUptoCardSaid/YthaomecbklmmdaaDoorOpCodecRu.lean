/-
  Numbers are read: the program's Reader and the document's.
-/
import Derived.Test.YthaomecbklmmdaaDoorOpCodecRd
namespace Go.Lw
open Go.Proofs
attribute [local irreducible] RL RA

/-- A number's bytes read: an error's number; or the number and how many bytes it took. -/
def decF : Nat → Int → List Int → Int ⊕ (Int × Nat)
  | _, _, [] => .inl 11
  | i, v, c :: r => if i = 9 ∧ c ≠ 1 then .inl 12 else if 128 ≤ c then decF (i + 1) (v + c % 128 * 2 ^ (7 * i)) r else if c = 0 ∧ 0 < i then .inl 12 else .inr (v + c % 128 * 2 ^ (7 * i), i + 1)
def rdUint (bs : List Int) (st : RS) : Int × RS :=
  match st.err with
  | some _ => (0, st)
  | none => match decF 0 0 (bs.drop st.pos.toNat) with
    | .inl e => (0, st.fail e)
    | .inr (v, n) => (v, ⟨st.pos + n, none⟩)

theorem and127b (x : Int) (h : rng .u8 x) : IntKind.u8.wrap ((BitVec.ofInt IntKind.u8.bits x &&& BitVec.ofInt IntKind.u8.bits 127).toNat) = x % 128 := by
  have key : ∀ n : Nat, n < 256 → IntKind.u8.wrap ((BitVec.ofInt IntKind.u8.bits (n : Int) &&& BitVec.ofInt IntKind.u8.bits 127).toNat) = (n : Int) % 128 := by decide +kernel
  simp only [rng] at h
  obtain ⟨n, rfl⟩ := Int.eq_ofNat_of_zero_le h.1
  exact key n (by omega)
theorem pow2c (m : Nat) : (2 : Int) ^ m = ((2 ^ m : Nat) : Int) := by rw [Int.natCast_pow]; rfl
theorem or64 (v x : Int) (m : Nat) (h0 : 0 ≤ v) (h1 : v < 2 ^ m) (h2 : 0 ≤ x) (h3 : v + x * 2 ^ m < 18446744073709551616) :
    IntKind.u64.wrap ((BitVec.ofInt IntKind.u64.bits v ||| BitVec.ofInt IntKind.u64.bits (x * 2 ^ m)).toNat) = v + x * 2 ^ m := by
  change IntKind.u64.wrap ((BitVec.ofInt 64 v ||| BitVec.ofInt 64 (x * 2 ^ m)).toNat) = _
  obtain ⟨a, rfl⟩ := Int.eq_ofNat_of_zero_le h0
  obtain ⟨b, rfl⟩ := Int.eq_ofNat_of_zero_le h2
  have e0 : ((b : Int) * ((2 ^ m : Nat) : Int)) = ((b * 2 ^ m : Nat) : Int) := (Int.natCast_mul _ _).symm
  have h1' : a < 2 ^ m := by rw [pow2c] at h1; omega
  have h3' : a + b * 2 ^ m < 18446744073709551616 := by rw [pow2c, e0] at h3; omega
  have e2 : ((b : Int) * 2 ^ m) = ((b * 2 ^ m : Nat) : Int) := by rw [Int.natCast_mul, Int.natCast_pow]; rfl
  have ha : a < 18446744073709551616 := by omega
  have hb : b * 2 ^ m < 18446744073709551616 := by omega
  rw [e2, BitVec.toNat_or, BitVec.toNat_ofInt, BitVec.toNat_ofInt]
  have e3 : (((a : Int) % (2 ^ 64 : Nat)).toNat) = a := by omega
  have e4 : ((((b * 2 ^ m : Nat) : Int) % (2 ^ 64 : Nat)).toNat) = b * 2 ^ m := by omega
  rw [e3, e4]
  have e5 : a ||| b * 2 ^ m = b * 2 ^ m + a := by
    rw [Nat.or_comm, Nat.mul_comm b]
    exact (Nat.two_pow_add_eq_or_of_lt h1' b).symm
  rw [e5, wrap_u64]
  omega
theorem pow7 (k : Nat) (h : k ≤ 9) : (2 : Int) ^ (7 * k) ≤ 9223372036854775808 := by
  have h1 : 2 ^ (7 * k) ≤ 2 ^ 63 := Nat.pow_le_pow_right (by decide) (by omega)
  have h2 : (2 : Nat) ^ 63 = 9223372036854775808 := by decide
  rw [h2] at h1
  rw [pow2c]
  omega
theorem pow7s (k : Nat) : (2 : Int) ^ (7 * (k + 1)) = 128 * 2 ^ (7 * k) := by
  rw [show 7 * (k + 1) = 7 + 7 * k by omega, Int.pow_add]; rfl
/-- What one more byte makes of a number. -/
theorem step7 (k : Nat) (v c : Int) (hk : k ≤ 9) (h0 : 0 ≤ v) (h1 : v < 2 ^ (7 * k)) (hc : 0 ≤ c ∧ c < 256) (h9 : k = 9 → c = 1) :
    0 ≤ c % 128 * 2 ^ (7 * k) ∧ c % 128 * 2 ^ (7 * k) < 18446744073709551616 ∧ v + c % 128 * 2 ^ (7 * k) < 18446744073709551616 ∧ 0 ≤ v + c % 128 * 2 ^ (7 * k) ∧ (k ≤ 8 → v + c % 128 * 2 ^ (7 * k) < 2 ^ (7 * (k + 1))) := by
  have hp := pow7 k hk
  have hs := pow7s k
  generalize hP : (2 : Int) ^ (7 * k) = p at *
  have hp0 : 0 ≤ p := by omega
  have hc1 : 0 ≤ c % 128 ∧ c % 128 ≤ 127 := by omega
  have hm : c % 128 * p ≤ 127 * p := Int.mul_le_mul_of_nonneg_right hc1.2 hp0
  have hn : 0 ≤ c % 128 * p := Int.mul_nonneg hc1.1 hp0
  rcases Nat.lt_or_ge k 9 with h | h
  · have hp8 : p ≤ 72057594037927936 := by
      have h1 : 2 ^ (7 * k) ≤ 2 ^ 56 := Nat.pow_le_pow_right (by decide) (by omega)
      have h2 : (2 : Nat) ^ 56 = 72057594037927936 := by decide
      rw [h2] at h1
      rw [pow2c] at hP
      omega
    refine ⟨hn, by omega, by omega, by omega, fun _ => by rw [hs]; omega⟩
  · have hk9 : k = 9 := by omega
    have hc' := h9 hk9
    subst hc'
    have e : (1 : Int) % 128 * p = p := by simp
    rw [e] at *
    exact ⟨by omega, by omega, by omega, by omega, fun h => by omega⟩

set_option maxRecDepth 100000 in
theorem RdUint_ct {w : World} {s A : Res} {os : List Res} {p : Nat} {bs : List Int} {st : RS} (hg : Good w s (A :: os)) (hR : RdObj s A p bs st) :
    Calls Tryd.prog 36 #[ptr p] w (Post w s os fun s' A' r => r = .int .u64 (rdUint bs st).1 ∧ rng .u64 (rdUint bs st).1 ∧ RdObj s' A' p bs (rdUint bs st).2) := by
  have hR' := hR
  obtain ⟨h0, h1, a, c, v, hp, hI, hv⟩ := hR
  have hmax := hI.le_max
  simp only [maxLen] at hmax
  refine enter (l := [ptr p]) Tryd.func36 rfl Tryd.ntmps36 rfl ?_
  refine CW.seq (CW.plain ?_)
  refine RL.pure rfl rfl rfl rfl ?_
  refine RL.done ?_
  refine CW.seq (CW.seq (CW.plain ?_))
  refine RL.pure rfl rfl rfl rfl ?_
  refine RL.pure rfl rfl rfl rfl ?_
  refine RL.field rfl rfl rfl rfl fl92_2 rfl rfl ?_
  refine RL.load rfl rfl rfl rfl ty90 rfl (Holds.of hp) (hg.1) rfl ?_
  refine RL.ifNe rfl rfl rfl rfl Tryd.underlying90 rfl (hv.isI) ?_
  refine RL.done ?_
  have hnil := hv.nil
  refine CW.cond rfl (fun hb => ?_) (fun hb => ?_)
  · refine CW.seq (CW.plain ?_)
    refine RL.pure rfl rfl rfl rfl ?_
    refine RL.done ?_
    have hst : rdUint bs st = (0, st) := by
      rw [hnil] at hb
      unfold rdUint
      cases hs : st.err with
      | none => rw [hs] at hb; simp at hb
      | some q => rfl
    exact CW.ret (ret (vs := [_]) ⟨_, _, rfl, rfl, rfl⟩ (Post.mk (Le.refl _) hg (Aux.refl _) (by rw [hst]; exact ⟨rfl, by simp [rng], hR'⟩)))
  refine CW.skip ?_
  have herr : st.err = none := by
    rw [hnil] at hb
    cases hs : st.err with
    | none => rfl
    | some q => rw [hs] at hb; simp at hb
  refine CW.seq (CW.plain ?_)
  refine RL.pure rfl rfl rfl rfl ?_
  refine RL.done ?_
  refine CW.seq (CW.seq ?_)
  refine CW.draws [(true, 0), (true, 1), (true, 2), (true, 3), (true, 4), (true, 5), (true, 6), (true, 7), (true, 8), (true, 9), (true, 10)] (fun w => Good w s (A :: os)) mixed (by kernel_rfl) (by kernel_rfl) (by kernel_rfl) (by kernel_rfl) (hg.drew) ?_
  refine RL.pure rfl rfl rfl rfl ?_
  refine RL.pure rfl rfl rfl rfl ?_
  refine RL.field rfl rfl rfl rfl fl92_0 rfl rfl ?_
  refine RL.loadT rfl rfl rfl rfl ty22 rfl (Holds.of hp) (fun w h => h.1) rfl ?_
  refine RL.pure rfl rfl rfl rfl ?_
  refine RL.pure rfl rfl rfl rfl ?_
  refine RL.field rfl rfl rfl rfl fl92_1 rfl rfl ?_
  refine RL.loadT rfl rfl rfl rfl ty3 rfl (Holds.of hp) (fun w h => h.1) rfl ?_
  refine RL.part_ (st.pos) (bs.length) rfl rfl rfl rfl sl22 rfl (.inr ⟨_, _, rfl, rfl⟩) (.inl ⟨rfl, rfl⟩) (hI) (h0) (h1) (Int.le_refl _) ?_
  rintro a' c' hI'
  refine RL.len rfl rfl rfl rfl sl22 rfl ?_
  refine RL.pure rfl rfl rfl rfl ?_
  refine RL.done ?_
  have hrest : (bs.take ((bs.length : Int)).toNat).drop st.pos.toNat = bs.drop st.pos.toNat := by simp
  rw [hrest] at hI' ⊢
  have hst : rdUint bs st = match decF 0 0 (bs.drop st.pos.toNat) with | .inl e => (0, st.fail e) | .inr (v, n) => (v, ⟨st.pos + n, none⟩) := by simp only [rdUint, herr]
  have hrl : (bs.drop st.pos.toNat).length = bs.length - st.pos.toNat := by simp
  generalize bs.drop st.pos.toNat = rest at hI' hst hrl ⊢
  have hg' := hg.drew
  refine CW.block (CW.loop (σ := Nat) (fun j E w' => w' = w.drew ∧ ∃ k : Nat, ∃ u : Int, E = [(0, ptr p), (3, .int .u64 u), (19, .slice a' rest.length c'), (20, .int .i64 rest.length), (21, .int .i64 k)] ∧ k + j = rest.length ∧ k ≤ 9 ∧ 0 ≤ u ∧ u < 2 ^ (7 * k) ∧ decF k u (rest.drop k) = decF 0 0 rest)
    (fun j => j) rest.length [(0, ptr p), (3, .int .u64 0), (19, .slice a' rest.length c'), (20, .int .i64 rest.length), (21, .int .i64 0)] ⟨rfl, rfl, rfl, rfl, rfl, trivial⟩ ⟨rfl, 0, 0, rfl, by omega, by omega, by omega, by simp, rfl⟩ ?_)
  rintro j E w' ⟨rfl, k, u, rfl, hk, hk9, hu0, hu1, hdec⟩
  refine CW.seq (CW.plain ?_)
  refine RL.pure rfl rfl rfl rfl ?_
  refine RL.done ?_
  refine CW.seq (CW.test rfl (fun h => ?_) (fun h => ?_))
  · refine CW.skip ?_
    have hkl : k < rest.length := by omega
    have hcr' := hI'.rng rest[k] (List.getElem_mem hkl)
    have hcr : 0 ≤ rest[k] ∧ rest[k] < 256 := hcr'
    have hdk : rest.drop k = rest[k] :: rest.drop (k + 1) := List.drop_eq_getElem_cons hkl
    rw [hdk] at hdec
    simp only [decF] at hdec
    refine CW.seq (CW.block (CW.seq (CW.plain ?_)))
    refine RL.pure rfl rfl rfl rfl ?_
    refine RL.idx rfl rfl rfl rfl sl22 rfl rfl (hI') (by omega) (by omega) ?_
    rintro q vs hvl hH ⟨rfl, hr⟩
    refine RL.load rfl rfl rfl rfl ty5 rfl (hH) (hg'.sh) rfl ?_
    refine RL.pure rfl rfl rfl rfl ?_
    refine RL.pure rfl rfl rfl rfl ?_
    refine RL.done ?_
    refine CW.meet (fun E w' => w' = w.drew ∧ ¬ (k = 9 ∧ rest[k] ≠ 1) ∧ E = [(0, ptr p), (3, .int .u64 u), (4, .int .i64 k), (5, .int .u8 rest[k]), (19, .slice a' rest.length c'), (20, .int .i64 rest.length), (21, .int .i64 k)]) (CW.seq (CW.plain ?_)) ?_
    · refine RL.pure rfl rfl rfl rfl ?_
      refine RL.pure rfl rfl rfl rfl ?_
      refine RL.pure rfl rfl rfl rfl ?_
      refine RL.part 28 rfl (fun hb => ?_) (fun hb => ?_)
      · refine RL.pure rfl rfl rfl rfl ?_
        refine RL.pure rfl rfl rfl rfl ?_
        refine RL.pure rfl rfl rfl rfl ?_
        refine RL.done ?_
        refine CW.ne rfl (fun hne => ?_) (fun heq => ?_)
        · refine CW.seq (CW.plain ?_)
          refine RL.pure rfl rfl rfl rfl ?_
          refine RL.call rfl rfl rfl rfl rfl ca20 (Fail_ct hg' hR' (e := 12) (by simp [rng])) ?_
          rintro r s1 A1 w1 hle1 hg1 hax1 ⟨_, hA1⟩
          refine ⟨trivial, ?_⟩
          refine RL.done ?_
          refine CW.seq (CW.plain ?_)
          refine RL.pure rfl rfl rfl rfl ?_
          refine RL.done ?_
          have hst' : rdUint bs st = (0, st.fail 12) := by
            rw [hst, ← hdec, if_pos ⟨by simp at hb; omega, hne⟩]
          exact CW.ret (ret (vs := [_]) ⟨_, _, rfl, rfl, rfl⟩ (Post.mk hle1 hg1 ((Aux.drew _).trans hax1) (by rw [hst']; exact ⟨rfl, by simp [rng], hA1⟩)))
        · exact CW.skip fun ac ha => ⟨[(0, ptr p), (3, .int .u64 u), (4, .int .i64 k), (5, .int .u8 rest[k]), (19, .slice a' rest.length c'), (20, .int .i64 rest.length), (21, .int .i64 k)], ha.sub ⟨rfl, rfl, rfl, rfl, rfl, rfl, rfl, trivial⟩, rfl, fun hh => hh.2 heq, rfl⟩
      · refine RL.pass rfl rfl rfl ?_
        refine RL.pass rfl rfl rfl ?_
        refine RL.pure rfl rfl rfl rfl ?_
        refine RL.done ?_
        refine CW.no rfl (CW.skip ?_)
        exact fun ac ha => ⟨[(0, ptr p), (3, .int .u64 u), (4, .int .i64 k), (5, .int .u8 rest[k]), (19, .slice a' rest.length c'), (20, .int .i64 rest.length), (21, .int .i64 k)], ha.sub ⟨rfl, rfl, rfl, rfl, rfl, rfl, rfl, trivial⟩, rfl, fun hh => by rw [hh.1] at hb; simp at hb, rfl⟩
    rintro E w' ⟨rfl, hn9, rfl⟩
    rw [if_neg hn9] at hdec
    have hs7 := step7 k u rest[k] hk9 hu0 hu1 hcr (fun h9 => Classical.byContradiction fun hc => hn9 ⟨h9, hc⟩)
    have hwrap : IntKind.u64.wrap (rest[k] % 128 * 2 ^ (7 * k)) = rest[k] % 128 * 2 ^ (7 * k) := rng.wrap (by simp only [rng]; omega)
    refine CW.seq (CW.plain ?_)
    refine RL.pure rfl rfl rfl rfl ?_
    refine RL.pure rfl rfl rfl rfl ?_
    refine RL.as_ rfl rfl rfl rfl (.int .u8 (rest[k] % 128)) (congrArg (Value.int .u8) (and127b _ hcr')) ?_
    refine RL.conv rfl rfl rfl rfl Tryd.underlying5 Tryd.underlying36 rfl ((by simp only [rng]; omega)) ?_
    refine RL.pure rfl rfl rfl rfl ?_
    refine RL.mul rfl rfl rfl rfl rfl rfl ((by simp only [rng]; omega)) ?_
    refine RL.shl (7 * k) rfl rfl rfl rfl rfl rfl ((by omega)) ((by simp [IntKind.bits]; omega)) ?_
    rw [hwrap]
    refine RL.as_ rfl rfl rfl rfl (.int .u64 (u + rest[k] % 128 * 2 ^ (7 * k))) (congrArg (Value.int .u64) (or64 _ _ _ hu0 hu1 (by omega) hs7.2.2.1)) ?_
    refine RL.pure rfl rfl rfl rfl ?_
    refine RL.done ?_
    refine CW.seq (CW.seq (CW.plain ?_))
    refine RL.pure rfl rfl rfl rfl ?_
    refine RL.pure rfl rfl rfl rfl ?_
    refine RL.done ?_
    refine CW.test rfl (fun h128 => ?_) (fun h128 => ?_)
    · refine CW.exit (CW.plain ?_)
      refine RL.add rfl rfl rfl rfl rfl rfl (by simp only [rng] at *; omega) ?_
      refine RL.pure rfl rfl rfl rfl ?_
      refine RL.done ?_
      rw [if_pos (show (128 : Int) ≤ rest[k] by simpa using h128)] at hdec
      have hk8 : k ≤ 8 := by
        rcases Nat.lt_or_ge k 9 with h' | h'
        · omega
        · have h9 : k = 9 := by omega
          have : rest[k] = 1 := Classical.byContradiction fun hc => hn9 ⟨h9, hc⟩
          omega
      cases j with
      | zero => omega
      | succ j =>
        refine fun ac ha => ⟨j, [(0, ptr p), (3, .int .u64 (u + rest[k] % 128 * 2 ^ (7 * k))), (19, .slice a' rest.length c'), (20, .int .i64 rest.length), (21, .int .i64 ((k : Int) + 1))], ha.sub ⟨rfl, rfl, rfl, rfl, rfl, trivial⟩, ⟨rfl, k + 1, _, rfl, by omega, by omega, hs7.2.2.2.1, hs7.2.2.2.2 hk8, hdec⟩, Nat.lt_succ_self j⟩
    · refine CW.skip ?_
      rw [if_neg (show ¬ (128 : Int) ≤ rest[k] by simpa using h128)] at hdec
      refine CW.meet (fun E w' => w' = w.drew ∧ ¬ (rest[k] = 0 ∧ 0 < k) ∧ E = [(0, ptr p), (3, .int .u64 (u + rest[k] % 128 * 2 ^ (7 * k))), (4, .int .i64 k)]) (CW.seq (CW.plain ?_)) ?_
      · refine RL.pure rfl rfl rfl rfl ?_
        refine RL.pure rfl rfl rfl rfl ?_
        refine RL.pure rfl rfl rfl rfl ?_
        refine RL.part 46 rfl (fun hb => ?_) (fun hb => ?_)
        · refine RL.pure rfl rfl rfl rfl ?_
          refine RL.pure rfl rfl rfl rfl ?_
          refine RL.pure rfl rfl rfl rfl ?_
          refine RL.done ?_
          refine CW.test rfl (fun hk0 => ?_) (fun hk0 => ?_)
          · refine CW.seq (CW.plain ?_)
            refine RL.pure rfl rfl rfl rfl ?_
            refine RL.call rfl rfl rfl rfl rfl ca20 (Fail_ct hg' hR' (e := 12) (by simp [rng])) ?_
            rintro r s1 A1 w1 hle1 hg1 hax1 ⟨_, hA1⟩
            refine ⟨trivial, ?_⟩
            refine RL.done ?_
            refine CW.seq (CW.plain ?_)
            refine RL.pure rfl rfl rfl rfl ?_
            refine RL.done ?_
            have hst' : rdUint bs st = (0, st.fail 12) := by
              rw [hst, ← hdec, if_pos ⟨by simpa using hb, by omega⟩]
            exact CW.ret (ret (vs := [_]) ⟨_, _, rfl, rfl, rfl⟩ (Post.mk hle1 hg1 ((Aux.drew _).trans hax1) (by rw [hst']; exact ⟨rfl, by simp [rng], hA1⟩)))
          · exact CW.skip fun ac ha => ⟨[(0, ptr p), (3, .int .u64 (u + rest[k] % 128 * 2 ^ (7 * k))), (4, .int .i64 k)], ha.sub ⟨rfl, rfl, rfl, trivial⟩, rfl, fun hh => hk0 (by omega), rfl⟩
        · refine RL.pass rfl rfl rfl ?_
          refine RL.pass rfl rfl rfl ?_
          refine RL.pure rfl rfl rfl rfl ?_
          refine RL.done ?_
          refine CW.no rfl (CW.skip ?_)
          exact fun ac ha => ⟨[(0, ptr p), (3, .int .u64 (u + rest[k] % 128 * 2 ^ (7 * k))), (4, .int .i64 k)], ha.sub ⟨rfl, rfl, rfl, trivial⟩, rfl, fun hh => by rw [hh.1] at hb; simp at hb, rfl⟩
      rintro E w' ⟨rfl, hn0, rfl⟩
      rw [if_neg hn0] at hdec
      have hst' : rdUint bs st = (u + rest[k] % 128 * 2 ^ (7 * k), ⟨st.pos + ((k + 1 : Nat) : Int), none⟩) := by rw [hst, ← hdec]
      refine CW.seq (CW.plain ?_)
      refine RL.pure rfl rfl rfl rfl ?_
      refine RL.pure rfl rfl rfl rfl ?_
      refine RL.field rfl rfl rfl rfl fl92_1 rfl rfl ?_
      refine RL.load rfl rfl rfl rfl ty3 rfl (Holds.of hp) (hg'.1) rfl ?_
      refine RL.pure rfl rfl rfl rfl ?_
      refine RL.add rfl rfl rfl rfl rfl rfl ((by simp only [rng]; omega)) ?_
      refine RL.add rfl rfl rfl rfl rfl rfl ((by simp only [rng]; omega)) ?_
      refine RL.pure rfl rfl rfl rfl ?_
      refine RL.field rfl rfl rfl rfl fl92_1 rfl rfl ?_
      refine RL.store (i := 0) rfl rfl rfl ty3 rfl rfl hg' rfl (hp) rfl (by first | (simp [Value.cells, Value.oneCell']; done) | simp [Value.cells, Value.oneCell', putL]) (by first | exact Nat.le_of_ble_eq_true rfl | (simp; done) | (simp; omega) | omega) ?_
      rintro w2 hg2 hax2
      refine ⟨trivial, ?_⟩
      refine RL.done ?_
      refine CW.seq (CW.plain ?_)
      refine RL.pure rfl rfl rfl rfl ?_
      refine RL.pure rfl rfl rfl rfl ?_
      refine RL.done ?_
      refine CW.ret (ret (vs := [_]) ⟨_, _, rfl, rfl, rfl⟩ (Post.mk (Le.refl _) hg2 ((Aux.drew _).trans hax2) ?_))
      rw [hst']
      refine ⟨rfl, by simp only [rng]; omega, ?_, ?_, a, c, .nilIface, ?_, hI, rfl⟩
      · show 0 ≤ st.pos + ((k + 1 : Nat) : Int)
        omega
      · show st.pos + ((k + 1 : Nat) : Int) ≤ bs.length
        omega
      · have hvn : v = .nilIface := by rw [herr] at hv; exact hv
        rw [put_same, hvn]
        have e : st.pos + ((k + 1 : Nat) : Int) = st.pos + ((k : Int) + 1) := by omega
        show _ = some (Obj.cells #[.slice a bs.length c, .int .i64 (st.pos + ((k + 1 : Nat) : Int)), .nilIface] 92 (0, 0))
        rw [e]
        rfl
  · refine CW.exit (CW.seq (CW.plain ?_))
    have hkl : k = rest.length := by omega
    subst hkl
    rw [List.drop_length] at hdec
    simp only [decF] at hdec
    refine RL.pure rfl rfl rfl rfl ?_
    refine RL.call rfl rfl rfl rfl rfl ca20 (Fail_ct hg' hR' (e := 11) (by simp [rng])) ?_
    rintro r s1 A1 w1 hle1 hg1 hax1 ⟨_, hA1⟩
    refine ⟨trivial, ?_⟩
    refine RL.done ?_
    refine CW.seq (CW.plain ?_)
    refine RL.pure rfl rfl rfl rfl ?_
    refine RL.done ?_
    have hst' : rdUint bs st = (0, st.fail 11) := by rw [hst, ← hdec]
    exact CW.ret (ret (vs := [_]) ⟨_, _, rfl, rfl, rfl⟩ (Post.mk hle1 hg1 ((Aux.drew _).trans hax1) (by rw [hst']; exact ⟨rfl, by simp [rng], hA1⟩)))
end Go.Lw
