/-
  PLAIN: numbers that are read are just those that were written; a byte changed makes another sum; what a frame that is taken is. No program in sight.
-/
import Derived.Test.YtcbifehmmfjioaaDoorBckCodecUn
namespace Go.Lw
/-! ### numbers: what is read is just what is written -/
theorem dec_canon : ∀ (l : List Int) (i : Nat) (acc v : Int) (m : Nat), (∀ x ∈ l, rng .u8 x) → i ≤ 9 → decF i acc l = .inr (v, m) →
    ∃ u : Int, 0 ≤ u ∧ v = acc + u * 2 ^ (7 * i) ∧ i < m ∧ m - i ≤ l.length ∧ l.take (m - i) = encF (9 - i) u ∧ (0 < i → u ≠ 0) ∧ u < 2 ^ (64 - 7 * i)
  | [], _, _, _, _, _, _, h => by simp [decF] at h
  | c :: r, i, acc, v, m, hr, hi, h => by
    have hc := hr c (by simp)
    simp only [rng] at hc
    simp only [decF] at h
    by_cases h1 : i = 9 ∧ c ≠ 1
    · rw [if_pos h1] at h; cases h
    rw [if_neg h1] at h
    by_cases h2 : 128 ≤ c
    · rw [if_pos h2] at h
      have hi9 : i < 9 := by
        rcases Nat.lt_or_ge i 9 with h9 | h9
        · exact h9
        · exact absurd ⟨by omega, by omega⟩ h1
      obtain ⟨u, hu0, hv, him, hml, hta, hne, hub⟩ := dec_canon r (i + 1) _ v m (fun x hx => hr x (by simp [hx])) (by omega) h
      have hne := hne (by omega)
      refine ⟨c % 128 + 128 * u, by omega, ?_, by omega, by simp only [List.length_cons]; omega, ?_, fun _ => by omega, ?_⟩
      · rw [hv, show 7 * (i + 1) = 7 * i + 7 by omega, Int.pow_add]
        have : (2 : Int) ^ 7 = 128 := rfl
        rw [this, Int.add_mul, Int.add_assoc]
        congr 2
        rw [← Int.mul_assoc, Int.mul_right_comm, Int.mul_comm u 128]
      · rw [show m - i = (m - (i + 1)) + 1 by omega, List.take_succ_cons, hta, show 9 - i = (9 - (i + 1)) + 1 by omega]
        simp only [encF]
        rw [if_neg (by omega)]
        congr 1
        · omega
        · congr 1; omega
      · have e : 64 - 7 * i = (64 - 7 * (i + 1)) + 7 := by omega
        rw [e, Int.pow_add]
        have : (2 : Int) ^ 7 = 128 := rfl
        rw [this]
        omega
    · rw [if_neg h2] at h
      by_cases h3 : c = 0 ∧ 0 < i
      · rw [if_pos h3] at h; cases h
      rw [if_neg h3] at h
      simp only [Sum.inr.injEq, Prod.mk.injEq] at h
      obtain ⟨rfl, rfl⟩ := h
      have hcm : c % 128 = c := by omega
      refine ⟨c, hc.1, by rw [hcm], by omega, by simp only [List.length_cons]; omega, ?_, fun h => fun e => h3 ⟨e, h⟩, ?_⟩
      · rw [show i + 1 - i = 0 + 1 by omega, List.take_succ_cons, List.take_zero]
        cases hk : 9 - i with
        | zero => rfl
        | succ k => simp only [encF]; rw [if_pos (by omega)]
      · rcases Nat.lt_or_ge i 9 with h9 | h9
        · have e : 64 - 7 * i = 7 + (57 - 7 * i) := by omega
          rw [e, Int.pow_add]
          have h128 : (2 : Int) ^ 7 = 128 := rfl
          have : (1 : Int) ≤ 2 ^ (57 - 7 * i) := Int.pow_pos (by omega)
          rw [h128]
          omega
        · have : i = 9 := by omega
          subst this
          have : c = 1 := by
            rcases Classical.em (c = 1) with e | e
            · exact e
            · exact absurd ⟨rfl, e⟩ h1
          subst this
          decide
theorem dec_enc : ∀ (k i : Nat) (acc u : Int) (rest : List Int), i + k = 9 → 0 ≤ u → u < 2 ^ (64 - 7 * i) → (0 < i → u ≠ 0) → decF i acc (encF k u ++ rest) = .inr (acc + u * 2 ^ (7 * i), i + (encF k u).length)
  | 0, i, acc, u, rest, hi, h0, h1, h2 => by
    obtain rfl : i = 9 := by omega
    have h2 := h2 (by omega)
    have h1 : u < 2 := by simpa using h1
    obtain rfl : u = 1 := by omega
    simp [encF, decF]
  | k + 1, i, acc, u, rest, hi, h0, h1, h2 => by
    simp only [encF]
    by_cases h : u < 128
    · rw [if_pos h]
      simp only [List.cons_append, List.nil_append, decF]
      rw [if_neg (fun hh => by omega), if_neg (by omega), if_neg (fun hh => h2 hh.2 hh.1)]
      simp only [List.length_cons, List.length_nil]
      rw [show u % 128 = u by omega]
    · rw [if_neg h]
      simp only [List.cons_append, decF]
      rw [if_neg (fun hh => by omega), if_pos (by omega)]
      have e : 64 - 7 * i = (64 - 7 * (i + 1)) + 7 := by omega
      rw [e, Int.pow_add] at h1
      have h128 : (2 : Int) ^ 7 = 128 := rfl
      rw [h128] at h1
      rw [dec_enc k (i + 1) _ (u / 128) rest (by omega) (by omega) (by omega) (fun _ => by omega)]
      simp only [List.length_cons, Sum.inr.injEq, Prod.mk.injEq]
      refine ⟨?_, by omega⟩
      rw [show 7 * (i + 1) = 7 * i + 7 by omega, Int.pow_add, h128]
      have e2 : u = (u % 128 + 128 * (u / 128)) := by omega
      conv => rhs; rw [e2]
      rw [Int.add_mul, Int.add_assoc]
      congr 1
      rw [show (u % 128 + 128) % 128 = u % 128 by omega]
      congr 1
      rw [← Int.mul_assoc, Int.mul_right_comm, Int.mul_comm (u / 128) 128]
/-- Numbers that were written are read. -/
theorem dec_encU (v : Int) (rest : List Int) (h0 : 0 ≤ v) (h1 : v < 18446744073709551616) : decF 0 0 (encU v ++ rest) = .inr (v, (encU v).length) := by
  have := dec_enc 9 0 0 v rest rfl h0 (by simpa using h1) (fun h => absurd h (by omega))
  simpa [encU] using this
/-- Numbers that are read were written. -/
theorem canonU {l : List Int} {v : Int} {m : Nat} (hr : ∀ x ∈ l, rng .u8 x) (h : decF 0 0 l = .inr (v, m)) : 0 ≤ v ∧ v < 18446744073709551616 ∧ m ≤ l.length ∧ l.take m = encU v := by
  obtain ⟨u, h0, hv, _, hml, hta, _, hub⟩ := dec_canon l 0 0 v m hr (by omega) h
  obtain rfl : v = u := by simpa using hv
  exact ⟨h0, by simpa using hub, by simpa using hml, by simpa [encU] using hta⟩

/-! ### the sum: one byte changed, another sum -/
theorem bit1_ne {d : BitVec 32} (h : bit1 d = 0#32) : d = 0#32 := by
  unfold bit1 at h
  have hd : d.toNat < 4294967296 := d.isLt
  split at h
  · rename_i h1
    have : d >>> 1 = 2197175160#32 := by
      have := congrArg (fun z => z ^^^ 2197175160#32) h
      simpa [BitVec.xor_assoc] using this
    have := congrArg BitVec.toNat this
    simp [BitVec.toNat_ushiftRight, Nat.shiftRight_eq_div_pow] at this
    omega
  · rename_i h1
    have h2 := congrArg BitVec.toNat h
    simp [BitVec.toNat_ushiftRight, Nat.shiftRight_eq_div_pow] at h2
    apply BitVec.eq_of_toNat_eq
    have h3 : (d &&& 1#32).toNat ≠ 1 := fun e => h1 (BitVec.eq_of_toNat_eq (by simpa using e))
    rw [BitVec.toNat_and] at h3
    have h4 : d.toNat &&& 1 = d.toNat % 2 := Nat.and_one_is_mod _
    have h5 : (1#32).toNat = 1 := rfl
    rw [h5, h4] at h3
    show d.toNat = 0
    omega
theorem bits_ne : ∀ (n : Nat) {d : BitVec 32}, bits n d = 0#32 → d = 0#32
  | 0, _, h => h
  | n + 1, _, h => bits_ne n (bit1_ne h)
theorem xor_ne {a b : BitVec 32} (h : a ≠ b) : a ^^^ b ≠ 0#32 := fun e => h (by
  have := congrArg (fun z => z ^^^ b) e
  simpa [BitVec.xor_assoc] using this)
theorem updB_xor (c d : BitVec 32) (b : Int) : updB (c ^^^ d) b = updB c b ^^^ bits 8 d := by
  rw [updB_bits, updB_bits, ← bits_xor]
  congr 1
  rw [BitVec.xor_assoc, BitVec.xor_comm d, ← BitVec.xor_assoc]
theorem fold_ne : ∀ (l : List Int) (c d : BitVec 32), d ≠ 0#32 → l.foldl updB (c ^^^ d) ≠ l.foldl updB c
  | [], c, d, h => fun e => h (by
    have := congrArg (fun z => c ^^^ z) e
    simpa [← BitVec.xor_assoc] using this)
  | b :: l, c, d, h => by
    simp only [List.foldl_cons]
    rw [updB_xor]
    exact fold_ne l _ _ (fun e => h (bits_ne 8 e))
theorem ofInt_ne {x y : Int} (hx : rng .u8 x) (hy : rng .u8 y) (h : y ≠ x) : BitVec.ofInt 32 x ^^^ BitVec.ofInt 32 y ≠ 0#32 := by
  simp only [rng] at hx hy
  refine xor_ne fun e => h ?_
  have := congrArg BitVec.toNat e
  rw [BitVec.toNat_ofInt, BitVec.toNat_ofInt] at this
  omega
theorem fold_set : ∀ (l : List Int) (k : Nat) (c : BitVec 32) (y : Int) (hk : k < l.length), (∀ x ∈ l, rng .u8 x) → rng .u8 y → y ≠ l[k] → (l.set k y).foldl updB c ≠ l.foldl updB c
  | x :: l, 0, c, y, _, hr, hy, h => by
    simp only [List.set_cons_zero, List.foldl_cons]
    have hx := hr x (by simp)
    have e : updB c y = updB c x ^^^ bits 8 (BitVec.ofInt 32 x ^^^ BitVec.ofInt 32 y) := by
      rw [updB_bits, updB_bits, ← bits_xor]
      congr 1
      rw [BitVec.xor_assoc, ← BitVec.xor_assoc (BitVec.ofInt 32 x), BitVec.xor_self, BitVec.zero_xor]
    rw [e]
    exact fold_ne l _ _ (fun e => ofInt_ne hx hy (by simpa using h) (bits_ne 8 e))
  | x :: l, k + 1, c, y, hk, hr, hy, h => by
    simp only [List.set_cons_succ, List.foldl_cons]
    exact fold_set l k _ y (by simpa using hk) (fun z hz => hr z (by simp [hz])) hy (by simpa using h)
theorem crc_set {l : List Int} {k : Nat} {y : Int} (hk : k < l.length) (hr : ∀ x ∈ l, rng .u8 x) (hy : rng .u8 y) (h : y ≠ l[k]) : (crc (l.set k y)).toNat ≠ (crc l).toNat := fun e => by
  have e1 : ~~~ crcF (l.set k y) = ~~~ crcF l := BitVec.eq_of_toNat_eq e
  have e2 := congrArg (fun z => ~~~ z) e1
  simp only [BitVec.not_not] at e2
  exact fold_set l k _ y hk hr hy h e2
theorem le4_sum (c : BitVec 32) (tl : List Int) : le4 (sumBytes c ++ tl) = c.toNat := by
  have := c.isLt
  simp only [sumBytes, List.cons_append, List.nil_append, le4, IntKind.wrap_u8]
  omega
theorem le4_set {b0 b1 b2 b3 y : Int} {tl : List Int} {k : Nat} (hk : k < 4) (h : y ≠ (b0 :: b1 :: b2 :: b3 :: tl)[k]'(by simp; omega)) :
    le4 ((b0 :: b1 :: b2 :: b3 :: tl).set k y) ≠ le4 (b0 :: b1 :: b2 :: b3 :: tl) := by
  have : k = 0 ∨ k = 1 ∨ k = 2 ∨ k = 3 := by omega
  rcases this with rfl | rfl | rfl | rfl <;> simp [le4] at h ⊢ <;> omega

/-! ### frames -/
theorem rd_ok {bs : List Int} {v : Int} {m : Nat} (h : decF 0 0 bs = .inr (v, m)) : rdUint bs ⟨0, none⟩ = (v, ⟨m, none⟩) := by
  simp [rdUint, h]
theorem dec_err : ∀ (l : List Int) (i : Nat) (acc e : Int), decF i acc l = .inl e → e = 11 ∨ e = 12
  | [], _, _, _, h => by simp [decF] at h; exact .inl h.symm
  | c :: r, i, acc, e, h => by
    simp only [decF] at h
    split at h
    · cases h; exact .inr rfl
    split at h
    · exact dec_err r _ _ e h
    split at h
    · cases h; exact .inr rfl
    · cases h
/-- What a frame that is taken is. -/
theorem unf_ok {bs : List Int} (hr : ∀ x ∈ bs, rng .u8 x) (h : (unf bs).2.2 = 0) :
    ∃ (m : Nat), m ≤ bs.length ∧ bs.take m = encU (unf bs).1.length ∧ (unf bs).1.length ≤ 262144 ∧ (unf bs).1 = (bs.drop m).take (unf bs).1.length ∧ m + (unf bs).1.length + 4 ≤ bs.length ∧
      (unf bs).2.1 = ((bs.drop m).drop (unf bs).1.length).drop 4 ∧ le4 ((bs.drop m).drop (unf bs).1.length) = (crc (unf bs).1).toNat := by
  have hu : unf bs = unf bs := rfl
  conv at hu => rhs; unfold unf
  simp only at hu
  cases hd : decF 0 0 bs with
  | inl e =>
    have h2 : rdUint bs ⟨0, none⟩ = (0, (⟨0, none⟩ : RS).fail e) := by simp [rdUint, hd]
    have he := dec_err _ _ _ _ hd
    have he0 : e ≠ 0 := by omega
    have hn : ((⟨0, none⟩ : RS).fail e).errno = e := by simp [RS.fail, RS.failAt, RS.errno, he0]
    rw [h2] at hu
    simp only [hn] at hu
    rw [if_pos he0] at hu
    rw [hu] at h
    exact absurd h he0
  | inr q =>
    obtain ⟨v, m⟩ := q
    obtain ⟨h0, h1, hm, ht⟩ := canonU hr hd
    rw [rd_ok hd] at hu
    have hz : (⟨(m : Int), none⟩ : RS).errno = 0 := rfl
    have hmn : ((m : Int)).toNat = m := rfl
    simp only [hz, hmn] at hu
    rw [if_neg (by simp)] at hu
    by_cases c1 : v > 262144
    · rw [if_pos c1] at hu; rw [hu] at h; cases h
    rw [if_neg c1] at hu
    by_cases c2 : ((bs.drop m).length : Int) < v + 4
    · rw [if_pos c2] at hu; rw [hu] at h; cases h
    rw [if_neg c2] at hu
    split at hu
    · rw [hu] at h; cases h
    rename_i c3
    have hlen : ((bs.drop m).take v.toNat).length = v.toNat := by simp at c2 ⊢; omega
    have hdl : (bs.drop m).length = bs.length - m := by simp
    have e1 : (unf bs).1.length = v.toNat := by rw [hu]; exact hlen
    have ev : ((v.toNat : Nat) : Int) = v := by omega
    rw [e1]
    refine ⟨m, hm, by rw [ht, ev], by omega, by rw [hu], by omega, by rw [hu], ?_⟩
    rw [hu]
    simpa using c3
theorem set_take {l : List Int} {k m : Nat} {y : Int} (hk : k < m) (hl : k < l.length) (h : y ≠ l[k]) : (l.set k y).take m ≠ l.take m := fun e => by
  have h2 : ((l.set k y).take m)[k]? = (l.take m)[k]? := by rw [e]
  rw [List.getElem?_take_of_lt hk, List.getElem?_take_of_lt hk, List.getElem?_set_self hl, List.getElem?_eq_getElem hl] at h2
  exact h (Option.some.inj h2)
/-- One byte of a frame is changed: it is no frame of as many bytes. -/
theorem bit_law {b : List Int} {k : Nat} {y : Int} (hb : ∀ x ∈ b, rng .u8 x) (hF : ∀ x ∈ frame b, rng .u8 x) (hk : k < (frame b).length) (hy : rng .u8 y) (h : y ≠ (frame b)[k]) :
    (unf ((frame b).set k y)).2.2 ≠ 0 ∨ (unf ((frame b).set k y)).1.length ≠ b.length ∨ 0 < (unf ((frame b).set k y)).2.1.length := by
  rcases Classical.em ((unf ((frame b).set k y)).2.2 = 0) with h0 | h0
  case inr => exact .inl h0
  rcases Classical.em ((unf ((frame b).set k y)).1.length = b.length) with h1 | h1
  case inr => exact .inr (.inl h1)
  refine .inr (.inr ?_)
  have hr' : ∀ x ∈ (frame b).set k y, rng .u8 x := fun x hx => by
    rcases List.mem_or_eq_of_mem_set hx with hx | rfl
    · exact hF x hx
    · exact hy
  obtain ⟨m, hm, ht, _, hp, hml, hrest, hs⟩ := unf_ok hr' h0
  rw [h1] at ht hp hml hrest hs
  rw [hrest]
  rw [List.length_set] at hm hml
  have hfl : (frame b).length = (encU b.length).length + b.length + 4 := by simp [frame, encT, sumBytes]; omega
  rcases Nat.eq_zero_or_pos ((List.drop 4 (List.drop b.length (List.drop m ((frame b).set k y)))).length) with hz | hz
  case inr => exact hz
  exfalso
  simp only [List.length_drop, List.length_set] at hz
  have htl : m = (encU b.length).length := by
    have := congrArg List.length ht
    rw [List.length_take, List.length_set] at this
    omega
  have hft : (frame b).take m = encU b.length := by
    rw [htl]; simp [frame, encT]
  have hkm : m ≤ k := by
    rcases Nat.lt_or_ge k m with hlt | hge
    · exact absurd (ht.trans hft.symm) (set_take hlt hk h)
    · exact hge
  have hfd : (frame b).drop m = b ++ sumBytes (crc b) := by
    rw [htl]; simp [frame, encT]
  have hsd : ((frame b).set k y).drop m = (b ++ sumBytes (crc b)).set (k - m) y := by
    rw [List.drop_set, if_neg (by omega), hfd]
  have hne : (b ++ sumBytes (crc b))[k - m]? ≠ some y := by
    rw [← hfd, List.getElem?_drop, show m + (k - m) = k by omega, List.getElem?_eq_getElem hk]
    intro e
    exact h (Option.some.inj e).symm
  rw [hsd] at hp hs
  generalize hj : k - m = j at hp hs hne
  have hjl : j < b.length + 4 := by rw [hfl] at hk; omega
  rcases Nat.lt_or_ge j b.length with hjb | hjb
  · have e1 : (b ++ sumBytes (crc b)).set j y = b.set j y ++ sumBytes (crc b) := List.set_append_left _ _ hjb
    rw [e1] at hp hs
    have e2 : (b.set j y ++ sumBytes (crc b)).take b.length = b.set j y := by simp
    have e3 : (b.set j y ++ sumBytes (crc b)).drop b.length = sumBytes (crc b) := by simp
    rw [e2] at hp
    rw [e3, hp] at hs
    have := le4_sum (crc b) []
    rw [List.append_nil] at this
    rw [this] at hs
    exact crc_set hjb hb hy (by rw [List.getElem?_append_left hjb, List.getElem?_eq_getElem hjb] at hne; exact fun e => hne (by rw [e])) (by omega)
  · have e1 : (b ++ sumBytes (crc b)).set j y = b ++ (sumBytes (crc b)).set (j - b.length) y := List.set_append_right _ _ hjb
    rw [e1] at hp hs
    have e2 : (b ++ (sumBytes (crc b)).set (j - b.length) y).take b.length = b := by simp
    have e3 : (b ++ (sumBytes (crc b)).set (j - b.length) y).drop b.length = (sumBytes (crc b)).set (j - b.length) y := by simp
    rw [e2] at hp
    rw [e3, hp] at hs
    have hsum := le4_sum (crc b) []
    rw [List.append_nil] at hsum
    have hj4 : j - b.length < (sumBytes (crc b)).length := by show j - b.length < 4; omega
    rw [List.getElem?_append_right hjb, List.getElem?_eq_getElem hj4] at hne
    rw [← hsum] at hs
    exact le4_set (tl := []) (by omega) (fun e => hne (by rw [e]; rfl)) hs
end Go.Lw
