/-
  What is read without an error is just what was written: plain (printed by beatsw.py out of the codec texts).
-/
import Derived.Test.YthaomecbklmmdaaDoorOpBoT
import Derived.Test.YthaomecbklmmdaaDoorOpCodecRo
namespace Go.Lw
open Go.Proofs
attribute [local irreducible] RL RA

theorem dec_canon : ∀ (l : List Int) (i : Nat) (acc v : Int) (m : Nat), (∀ x ∈ l, rng .u8 x) → i ≤ 9 → decF i acc l = .inr (v, m) →
    ∃ u : Int, 0 ≤ u ∧ v = acc + u * 2 ^ (7 * i) ∧ i < m ∧ m - i ≤ l.length ∧ l.take (m - i) = encF (9 - i) u ∧ (0 < i → u ≠ 0) ∧ u < 2 ^ (64 - 7 * i)
  | [], _, _, _, _, _, _, h => by simp [decF] at h
  | c :: r, i, acc, v, m, hr, hi, h => by
    have hc := hr c (by simp)
    simp only [rng] at hc
    simp only [decF] at h
    by_cases h1 : i = 9 ∧ c ≠ 1
    · rw [if_pos h1] at h; cases h
    rw [if_neg h1] at h
    by_cases h2 : 128 ≤ c
    · rw [if_pos h2] at h
      have hi9 : i < 9 := by
        rcases Nat.lt_or_ge i 9 with h9 | h9
        · exact h9
        · exact absurd ⟨by omega, by omega⟩ h1
      obtain ⟨u, hu0, hv, him, hml, hta, hne, hub⟩ := dec_canon r (i + 1) _ v m (fun x hx => hr x (by simp [hx])) (by omega) h
      have hne := hne (by omega)
      refine ⟨c % 128 + 128 * u, by omega, ?_, by omega, by simp only [List.length_cons]; omega, ?_, fun _ => by omega, ?_⟩
      · rw [hv, show 7 * (i + 1) = 7 * i + 7 by omega, Int.pow_add]
        have : (2 : Int) ^ 7 = 128 := rfl
        rw [this, Int.add_mul, Int.add_assoc]
        congr 2
        rw [← Int.mul_assoc, Int.mul_right_comm, Int.mul_comm u 128]
      · rw [show m - i = (m - (i + 1)) + 1 by omega, List.take_succ_cons, hta, show 9 - i = (9 - (i + 1)) + 1 by omega]
        simp only [encF]
        rw [if_neg (by omega)]
        congr 1
        · omega
        · congr 1; omega
      · have e : 64 - 7 * i = (64 - 7 * (i + 1)) + 7 := by omega
        rw [e, Int.pow_add]
        have : (2 : Int) ^ 7 = 128 := rfl
        rw [this]
        omega
    · rw [if_neg h2] at h
      by_cases h3 : c = 0 ∧ 0 < i
      · rw [if_pos h3] at h; cases h
      rw [if_neg h3] at h
      simp only [Sum.inr.injEq, Prod.mk.injEq] at h
      obtain ⟨rfl, rfl⟩ := h
      have hcm : c % 128 = c := by omega
      refine ⟨c, hc.1, by rw [hcm], by omega, by simp only [List.length_cons]; omega, ?_, fun h => fun e => h3 ⟨e, h⟩, ?_⟩
      · rw [show i + 1 - i = 0 + 1 by omega, List.take_succ_cons, List.take_zero]
        cases hk : 9 - i with
        | zero => rfl
        | succ k => simp only [encF]; rw [if_pos (by omega)]
      · rcases Nat.lt_or_ge i 9 with h9 | h9
        · have e : 64 - 7 * i = 7 + (57 - 7 * i) := by omega
          rw [e, Int.pow_add]
          have h128 : (2 : Int) ^ 7 = 128 := rfl
          have : (1 : Int) ≤ 2 ^ (57 - 7 * i) := Int.pow_pos (by omega)
          rw [h128]
          omega
        · have : i = 9 := by omega
          subst this
          have : c = 1 := by
            rcases Classical.em (c = 1) with e | e
            · exact e
            · exact absurd ⟨rfl, e⟩ h1
          subst this
          decide
theorem dec_enc : ∀ (k i : Nat) (acc u : Int) (rest : List Int), i + k = 9 → 0 ≤ u → u < 2 ^ (64 - 7 * i) → (0 < i → u ≠ 0) → decF i acc (encF k u ++ rest) = .inr (acc + u * 2 ^ (7 * i), i + (encF k u).length)
  | 0, i, acc, u, rest, hi, h0, h1, h2 => by
    obtain rfl : i = 9 := by omega
    have h2 := h2 (by omega)
    have h1 : u < 2 := by simpa using h1
    obtain rfl : u = 1 := by omega
    simp [encF, decF]
  | k + 1, i, acc, u, rest, hi, h0, h1, h2 => by
    simp only [encF]
    by_cases h : u < 128
    · rw [if_pos h]
      simp only [List.cons_append, List.nil_append, decF]
      rw [if_neg (fun hh => by omega), if_neg (by omega), if_neg (fun hh => h2 hh.2 hh.1)]
      simp only [List.length_cons, List.length_nil]
      rw [show u % 128 = u by omega]
    · rw [if_neg h]
      simp only [List.cons_append, decF]
      rw [if_neg (fun hh => by omega), if_pos (by omega)]
      have e : 64 - 7 * i = (64 - 7 * (i + 1)) + 7 := by omega
      rw [e, Int.pow_add] at h1
      have h128 : (2 : Int) ^ 7 = 128 := rfl
      rw [h128] at h1
      rw [dec_enc k (i + 1) _ (u / 128) rest (by omega) (by omega) (by omega) (fun _ => by omega)]
      simp only [List.length_cons, Sum.inr.injEq, Prod.mk.injEq]
      refine ⟨?_, by omega⟩
      rw [show 7 * (i + 1) = 7 * i + 7 by omega, Int.pow_add, h128]
      have e2 : u = (u % 128 + 128 * (u / 128)) := by omega
      conv => rhs; rw [e2]
      rw [Int.add_mul, Int.add_assoc]
      congr 1
      rw [show (u % 128 + 128) % 128 = u % 128 by omega]
      congr 1
      rw [← Int.mul_assoc, Int.mul_right_comm, Int.mul_comm (u / 128) 128]
/-- Numbers that were written are read. -/
theorem dec_encU (v : Int) (rest : List Int) (h0 : 0 ≤ v) (h1 : v < 18446744073709551616) : decF 0 0 (encU v ++ rest) = .inr (v, (encU v).length) := by
  have := dec_enc 9 0 0 v rest rfl h0 (by simpa using h1) (fun h => absurd h (by omega))
  simpa [encU] using this
/-- Numbers that are read were written. -/
theorem canonU {l : List Int} {v : Int} {m : Nat} (hr : ∀ x ∈ l, rng .u8 x) (h : decF 0 0 l = .inr (v, m)) : 0 ≤ v ∧ v < 18446744073709551616 ∧ m ≤ l.length ∧ l.take m = encU v := by
  obtain ⟨u, h0, hv, _, hml, hta, _, hub⟩ := dec_canon l 0 0 v m hr (by omega) h
  obtain rfl : v = u := by simpa using hv
  exact ⟨h0, by simpa using hub, by simpa using hml, by simpa [encU] using hta⟩
theorem dec_err : ∀ (l : List Int) (i : Nat) (acc e : Int), decF i acc l = .inl e → e = 11 ∨ e = 12
  | [], _, _, _, h => by simp [decF] at h; exact .inl h.symm
  | c :: r, i, acc, e, h => by
    simp only [decF] at h
    split at h
    · cases h; exact .inr rfl
    split at h
    · exact dec_err r _ _ e h
    split at h
    · cases h; exact .inr rfl
    · cases h
theorem failAt_some {st : RS} {e k : Int} (he : e ≠ 0) : (st.failAt e k).err.isNone = false := by
  cases hs : st.err with
  | none => simp [RS.failAt, hs, he]
  | some q => simp [RS.failAt, hs]
theorem errno_some {st : RS} (hn : ∀ e k, st.err = some (e, k) → e ≠ 0) (h : st.err.isNone = false) : st.errno ≠ 0 := by
  cases hs : st.err with
  | none => rw [hs] at h; cases h
  | some q => simpa [RS.errno, hs] using hn q.1 q.2 hs
theorem rdUint_nz {bs : List Int} {st : RS} (hn : ∀ e k, st.err = some (e, k) → e ≠ 0) : ∀ e k, (rdUint bs st).2.err = some (e, k) → e ≠ 0 := by
  intro e k h
  cases hs : st.err with
  | some q => simp only [rdUint, hs] at h; rw [hs] at hn; exact hn e k h
  | none =>
    unfold rdUint at h
    simp only [hs] at h
    cases hd : decF 0 0 (bs.drop st.pos.toNat) with
    | inr q => rw [hd] at h; cases h
    | inl x =>
      rw [hd] at h
      by_cases hx : x = 0
      · simp [RS.fail, RS.failAt, hs, hx] at h
      · simp [RS.fail, RS.failAt, hs, hx] at h
        rw [← h.1]; exact hx
/-! ### nothing's bytes begin another one's -/
theorem encU_inj {v u : Int} {r q : List Int} (hv : rng .u64 v) (hu : rng .u64 u) (h : encU v ++ r = encU u ++ q) : v = u ∧ r = q := by
  simp only [rng] at hv hu
  have h1 := dec_encU v r (by omega) (by omega)
  have h2 := dec_encU u q (by omega) (by omega)
  rw [h, h2] at h1
  simp only [Sum.inr.injEq, Prod.mk.injEq] at h1
  obtain ⟨rfl, _⟩ := h1
  exact ⟨rfl, List.append_cancel_left h⟩
theorem zig_rng {v : Int} (hv : rng .i64 v) : rng .u64 (if v < 0 then -2 * v - 1 else 2 * v) := by
  simp only [rng] at hv ⊢
  split <;> omega
theorem encI_inj {v u : Int} {r q : List Int} (hv : rng .i64 v) (hu : rng .i64 u) (h : encI v ++ r = encI u ++ q) : v = u ∧ r = q := by
  obtain ⟨h1, h2⟩ := encU_inj (zig_rng hv) (zig_rng hu) h
  refine ⟨?_, h2⟩
  split at h1 <;> split at h1 <;> omega
theorem encT_inj {a b r q : List Int} (ha : a.length ≤ maxLen) (hb : b.length ≤ maxLen) (h : encT a ++ r = encT b ++ q) : a = b ∧ r = q := by
  simp only [encT, List.append_assoc, maxLen] at h ha hb
  obtain ⟨h1, h2⟩ := encU_inj (by simp only [rng]; omega) (by simp only [rng]; omega) h
  exact List.append_inj h2 (by omega)
theorem encIs_inj : ∀ {xs ys r q : List Int}, xs.length = ys.length → (∀ x ∈ xs, rng .i64 x) → (∀ y ∈ ys, rng .i64 y) → encIs xs ++ r = encIs ys ++ q → xs = ys ∧ r = q
  | [], [], r, q, _, _, _, h => ⟨rfl, by simpa [encIs] using h⟩
  | x :: xs, y :: ys, r, q, hl, hx, hy, h => by
    simp only [encIs, List.flatMap_cons, List.append_assoc] at h
    obtain ⟨rfl, h2⟩ := encI_inj (hx x (by simp)) (hy y (by simp)) h
    obtain ⟨rfl, h3⟩ := encIs_inj (xs := xs) (ys := ys) (by simpa using hl) (fun z hz => hx z (by simp [hz])) (fun z hz => hy z (by simp [hz])) h2
    exact ⟨rfl, h3⟩
  | [], y :: ys, _, _, hl, _, _, _ => by simp at hl
  | x :: xs, [], _, _, hl, _, _, _ => by simp at hl
/-- A list of numbers that may be. -/
def Ns (xs : List Int) : Prop := xs.length ≤ maxLen ∧ ∀ x ∈ xs, rng .i64 x
theorem encN_inj {a b r q : List Int} (ha : Ns a) (hb : Ns b) (h : encN a ++ r = encN b ++ q) : a = b ∧ r = q := by
  have h1 := ha.1
  have h2 := hb.1
  simp only [encN, List.append_assoc, maxLen] at h h1 h2
  obtain ⟨h3, h4⟩ := encU_inj (by simp only [rng]; omega) (by simp only [rng]; omega) h
  exact encIs_inj (by omega) ha.2 hb.2 h4
def Conf.may (c : Conf) : Prop := Ns c.voters ∧ Ns c.learners
theorem encConf_inj {a b : Conf} {r q : List Int} (ha : a.may) (hb : b.may) (h : encConf a ++ r = encConf b ++ q) : a = b ∧ r = q := by
  simp only [encConf, List.append_assoc] at h
  obtain ⟨h1, h2⟩ := encN_inj ha.1 hb.1 h
  obtain ⟨h3, h4⟩ := encN_inj ha.2 hb.2 h2
  cases a; cases b
  simp_all
def Entry.may (e : Entry) : Prop := rng .u64 e.index ∧ rng .u64 e.term ∧ rng .i64 e.kind ∧ e.data.length ≤ maxLen ∧ e.conf.may
theorem encEntry_inj {a b : Entry} {r q : List Int} (ha : a.may) (hb : b.may) (h : encEntry a ++ r = encEntry b ++ q) : a = b ∧ r = q := by
  simp only [encEntry, List.append_assoc] at h
  obtain ⟨h1, h⟩ := encU_inj ha.1 hb.1 h
  obtain ⟨h2, h⟩ := encU_inj ha.2.1 hb.2.1 h
  obtain ⟨h3, h⟩ := encI_inj ha.2.2.1 hb.2.2.1 h
  obtain ⟨h4, h⟩ := encT_inj ha.2.2.2.1 hb.2.2.2.1 h
  obtain ⟨h5, h⟩ := encConf_inj ha.2.2.2.2 hb.2.2.2.2 h
  cases a; cases b
  simp_all
/-! ### what is read without an error is just what was written -/
/-- From here to there these bytes stand. -/
structure Took (bs : List Int) (st st' : RS) (e : List Int) : Prop where
  err : st'.err = none
  lo : 0 ≤ st'.pos
  hi : st'.pos ≤ bs.length
  at_ : st'.pos = st.pos + e.length
  is : bs.drop st.pos.toNat = e ++ bs.drop st'.pos.toNat
def St (bs : List Int) (st : RS) : Prop := 0 ≤ st.pos ∧ st.pos ≤ bs.length
theorem Took.st {bs : List Int} {st st' : RS} {e : List Int} (h : Took bs st st' e) : St bs st' := ⟨h.lo, h.hi⟩
theorem Took.trans {bs : List Int} {a b c : RS} {e f : List Int} (h : Took bs a b e) (k : Took bs b c f) : Took bs a c (e ++ f) := by
  refine ⟨k.err, k.lo, k.hi, ?_, ?_⟩
  · rw [k.at_, h.at_]; simp only [List.length_append]; omega
  · rw [h.is, k.is, List.append_assoc]
theorem isNone_eq {α : Type} {o : Option α} (h : o.isNone = true) : o = none := by cases o with | none => rfl | some _ => cases h
section
variable {bs : List Int} {st : RS}
theorem rdUint_took (hr : ∀ x ∈ bs, rng .u8 x) (hs : St bs st) (h : (rdUint bs st).2.err.isNone = true) : Took bs st (rdUint bs st).2 (encU (rdUint bs st).1) ∧ rng .u64 (rdUint bs st).1 := by
  have hn := isNone_eq (rdUint_err h)
  obtain ⟨s0, s1⟩ := hs
  unfold rdUint at h ⊢
  simp only [hn] at h ⊢
  cases hd : decF 0 0 (bs.drop st.pos.toNat) with
  | inl e =>
    rw [hd] at h
    have he := dec_err _ _ _ _ hd
    have he0 : e ≠ 0 := by omega
    simp [RS.fail, RS.failAt, hn, he0] at h
  | inr q =>
    obtain ⟨v, m⟩ := q
    obtain ⟨h0, h1, h2, h3⟩ := canonU (fun x hx => hr x (List.mem_of_mem_drop hx)) hd
    simp only [List.length_drop] at h2
    have hl : (encU v).length = m := by rw [← h3, List.length_take, List.length_drop]; omega
    refine ⟨⟨rfl, ?_, ?_, ?_, ?_⟩, by simp only [rng]; omega⟩
    · show 0 ≤ st.pos + m
      omega
    · show st.pos + m ≤ bs.length
      omega
    · show st.pos + m = st.pos + (encU v).length
      rw [hl]
    · show bs.drop st.pos.toNat = encU v ++ bs.drop (st.pos + m).toNat
      rw [show (st.pos + (m : Int)).toNat = st.pos.toNat + m by omega, ← List.drop_drop, ← h3, List.take_append_drop]
theorem rdInt_took (hr : ∀ x ∈ bs, rng .u8 x) (hs : St bs st) (h : (rdInt bs st).2.err.isNone = true) : Took bs st (rdInt bs st).2 (encI (rdInt bs st).1) ∧ rng .i64 (rdInt bs st).1 := by
  obtain ⟨h1, h2⟩ := rdUint_took hr hs (show (rdUint bs st).2.err.isNone = true from h)
  refine ⟨?_, rdInt_rng _ _ h2⟩
  have e : encI (rdInt bs st).1 = encU (rdUint bs st).1 := by
    simp only [rng] at h2
    simp only [encI, rdInt]
    congr 1
    split <;> split <;> omega
  rw [e]
  exact h1
theorem rdCount_took {most : Int} (hr : ∀ x ∈ bs, rng .u8 x) (hs : St bs st) (h : (rdCount bs st most).2.err.isNone = true) :
    Took bs st (rdCount bs st most).2 (encU (rdCount bs st most).1) ∧ 0 ≤ (rdCount bs st most).1 ∧ (rdCount bs st most).1 ≤ most ∧ (rdCount bs st most).1 ≤ bs.length - (rdCount bs st most).2.pos := by
  have hu := rdUint_pos bs st
  unfold rdCount at h ⊢
  split at h
  · rename_i h1; rw [h1] at h; cases h
  · rename_i h1
    have hn : (rdUint bs st).2.err.isNone = true := by simpa using h1
    split at h
    · simp [RS.failAt, hn] at h
    · rename_i h2
      split at h
      · simp [RS.failAt, hn] at h
      · rename_i h3
        rw [if_neg h1, if_neg h2, if_neg h3]
        refine ⟨(rdUint_took hr hs hn).1, hu, by omega, ?_⟩
        show (rdUint bs st).1 ≤ bs.length - (rdUint bs st).2.pos
        omega
theorem rdBytes_took {most : Int} (hr : ∀ x ∈ bs, rng .u8 x) (hs : St bs st) (h : (rdBytes bs st most).2.err.isNone = true) :
    Took bs st (rdBytes bs st most).2 (encT (rdBytes bs st most).1) ∧ (rdBytes bs st most).1.length ≤ most ∧ (rdBytes bs st most).1.length ≤ bs.length := by
  unfold rdBytes at h ⊢
  split at h
  · rename_i h1; rw [h1] at h; cases h
  · rename_i h1
    rw [if_neg h1]
    obtain ⟨k, k0, k1, k2⟩ := rdCount_took hr hs (most := most) (by simpa using h1)
    have hlo := k.lo
    have hhi := k.hi
    generalize rdCount bs st most = c at *
    obtain ⟨n, s2⟩ := c
    simp only at *
    have hl : ((bs.drop s2.pos.toNat).take n.toNat).length = n.toNat := by rw [List.length_take, List.length_drop]; omega
    refine ⟨⟨rfl, (show 0 ≤ s2.pos + n by omega), (show s2.pos + n ≤ (bs.length : Int) by omega), ?_, ?_⟩, by omega, by omega⟩
    · show s2.pos + n = st.pos + ((encT ((bs.drop s2.pos.toNat).take n.toNat)).length : Nat)
      rw [encT, List.length_append, hl, show ((n.toNat : Nat) : Int) = n by omega, k.at_]
      omega
    · show bs.drop st.pos.toNat = encT ((bs.drop s2.pos.toNat).take n.toNat) ++ bs.drop (s2.pos + n).toNat
      rw [encT, hl, show ((n.toNat : Nat) : Int) = n by omega, k.is, List.append_assoc, show (s2.pos + n).toNat = s2.pos.toNat + n.toNat by omega, ← List.drop_drop, List.take_append_drop]
theorem rdIs_took (hr : ∀ x ∈ bs, rng .u8 x) : ∀ {n : Nat} {st : RS} {xs : List Int}, St bs st → (rdIs bs n st xs).2.err.isNone = true →
    ∃ ys, (rdIs bs n st xs).1 = xs ++ ys ∧ ys.length = n ∧ Took bs st (rdIs bs n st xs).2 (encIs ys) ∧ ∀ y ∈ ys, rng .i64 y
  | 0, st, xs, hs, h => ⟨[], by simp [rdIs], rfl, ⟨isNone_eq h, hs.1, hs.2, by simp [rdIs, encIs], by simp [rdIs, encIs]⟩, by simp⟩
  | n + 1, st, xs, hs, h => by
    have hn := rdIs_err h
    simp only [rdIs, hn, if_true] at h ⊢
    have h1 := rdIs_err h
    obtain ⟨t, tr⟩ := rdInt_took hr hs h1
    obtain ⟨ys, e1, e2, e3, e4⟩ := rdIs_took hr t.st h
    refine ⟨(rdInt bs st).1 :: ys, by rw [e1]; simp, by simp [e2], ?_, ?_⟩
    · have := t.trans e3
      simpa [encIs] using this
    · intro y hy
      rcases List.mem_cons.1 hy with rfl | hy
      · exact tr
      · exact e4 y hy
theorem rdInts_took (hr : ∀ x ∈ bs, rng .u8 x) (hs : St bs st) (h : (rdInts bs st).2.err.isNone = true) : Took bs st (rdInts bs st).2 (encN (rdInts bs st).1) ∧ (rdInts bs st).1.length ≤ 7 ∧ ∀ x ∈ (rdInts bs st).1, rng .i64 x := by
  have h' : (rdIs bs (rdCount bs st 7).1.toNat (rdCount bs st 7).2 []).2.err.isNone = true := h
  obtain ⟨k, k0, k1, _⟩ := rdCount_took hr hs (rdIs_err h')
  obtain ⟨ys, e1, e2, e3, e4⟩ := rdIs_took hr k.st h'
  have e : (rdInts bs st).1 = ys := by simp only [rdInts, h', if_true, e1, List.nil_append]
  rw [e]
  refine ⟨?_, by omega, e4⟩
  have := k.trans e3
  rw [encN, e2, show (((rdCount bs st 7).1.toNat : Nat) : Int) = (rdCount bs st 7).1 by omega]
  exact this
theorem rdConf_took (hr : ∀ x ∈ bs, rng .u8 x) (hs : St bs st) (h : (rdConf bs st).2.err.isNone = true) :
    Took bs st (rdConf bs st).2 (encConf (rdConf bs st).1) ∧ (rdConf bs st).1.voters.length ≤ 7 ∧ (rdConf bs st).1.learners.length ≤ 7 ∧ (rdConf bs st).1.may := by
  have h2 : (rdInts bs (rdInts bs st).2).2.err.isNone = true := h
  obtain ⟨a1, a2, a3⟩ := rdInts_took hr hs (rdInts_err h2)
  obtain ⟨b1, b2, b3⟩ := rdInts_took hr a1.st h2
  have e : (rdConf bs st).1 = ⟨(rdInts bs st).1, (rdInts bs (rdInts bs st).2).1⟩ := by simp only [rdConf, h2, if_true]
  rw [e]
  exact ⟨a1.trans b1, a2, b2, ⟨⟨by simp only [maxLen]; omega, a3⟩, by simp only [maxLen]; omega, b3⟩⟩
theorem rdKind_err {most : Int} (h : (rdKind bs st most).2.err.isNone = true) : (rdInt bs st).2.err.isNone = true := by
  unfold rdKind at h
  simp only at h
  split at h
  · exact failAt_err h
  · exact h
theorem rdKind_took {most : Int} (hr : ∀ x ∈ bs, rng .u8 x) (hs : St bs st) (h : (rdKind bs st most).2.err.isNone = true) :
    Took bs st (rdKind bs st most).2 (encI (rdKind bs st most).1) ∧ 1 ≤ (rdKind bs st most).1 ∧ (rdKind bs st most).1 ≤ most ∧ rng .i64 (rdKind bs st most).1 := by
  obtain ⟨t, tr⟩ := rdInt_took hr hs (rdKind_err h)
  have hi := rdKind_err h
  unfold rdKind at h ⊢
  simp only at h ⊢
  split at h
  · rw [failAt_some (by decide)] at h; cases h
  · rename_i hb
    rw [if_neg hb]
    simp only [hi, if_true]
    exact ⟨t, by omega, by omega, tr⟩
theorem rdEntry_took (hr : ∀ x ∈ bs, rng .u8 x) (hs : St bs st) (h : (rdEntry bs st).2.err.isNone = true) :
    Took bs st (rdEntry bs st).2 (encEntry (rdEntry bs st).1) ∧ (rdEntry bs st).1.may ∧ (rdEntry bs st).1.data.length ≤ bs.length ∧ (rdEntry bs st).1.conf.voters.length ≤ 7 ∧ (rdEntry bs st).1.conf.learners.length ≤ 7 := by
  unfold rdEntry at h ⊢
  simp only at h ⊢
  have h4 := rdConf_err h
  have h3 := rdBytes_err h4
  have h2 := rdInt_err (rdKind_err h3)
  have h1 := rdUint_err h2
  obtain ⟨a, ar⟩ := rdUint_took hr hs h1
  obtain ⟨b, br⟩ := rdUint_took hr a.st h2
  obtain ⟨c, c1, c2, cr⟩ := rdKind_took hr b.st h3
  obtain ⟨d, d1, d2⟩ := rdBytes_took hr c.st h4
  obtain ⟨e, e1, e2, e3⟩ := rdConf_took hr d.st h
  simp only [h, if_true]
  refine ⟨?_, ⟨ar, br, cr, by simp only [maxLen]; omega, e3⟩, d2, e1, e2⟩
  have := (((a.trans b).trans c).trans d).trans e
  simpa [encEntry] using this
end
/-! ### no error is number 0 -/
def Nz (st : RS) : Prop := ∀ e k, st.err = some (e, k) → e ≠ 0
section
variable {bs : List Int} {st : RS}
theorem Nz.failAt {e k : Int} (h : Nz st) : Nz (st.failAt e k) := fun a b hab => by
  unfold RS.failAt at hab
  split at hab
  · rename_i hc
    simp only [Bool.and_eq_true, bne_iff_ne] at hc
    simp only [Option.some.injEq, Prod.mk.injEq] at hab
    rw [← hab.1]; exact hc.2
  · exact h a b hab
theorem Nz.count {most : Int} (h : Nz st) : Nz (rdCount bs st most).2 := by
  have hu : Nz (rdUint bs st).2 := rdUint_nz h
  unfold rdCount
  split
  · exact hu
  · split
    · exact hu.failAt
    · split
      · exact hu.failAt
      · exact hu
theorem Nz.none {p : Int} : Nz ⟨p, Option.none⟩ := fun _ _ h => by cases h
theorem Nz.bytes {most : Int} (h : Nz st) : Nz (rdBytes bs st most).2 := by
  unfold rdBytes
  split
  · exact h.count
  · exact Nz.none
theorem Nz.is_ : ∀ {n : Nat} {st : RS} {xs : List Int}, Nz st → Nz (rdIs bs n st xs).2
  | 0, _, _, h => h
  | n + 1, st, xs, h => by
    simp only [rdIs]
    split
    · exact Nz.is_ (rdUint_nz h)
    · exact h
theorem Nz.ints (h : Nz st) : Nz (rdInts bs st).2 := Nz.is_ h.count
theorem Nz.conf (h : Nz st) : Nz (rdConf bs st).2 := h.ints.ints
theorem Nz.kind {most : Int} (h : Nz st) : Nz (rdKind bs st most).2 := by
  have hu : Nz (rdInt bs st).2 := rdUint_nz h
  unfold rdKind
  simp only
  split
  · exact hu.failAt
  · exact hu
theorem Nz.uint (h : Nz st) : Nz (rdUint bs st).2 := rdUint_nz h
theorem Nz.int (h : Nz st) : Nz (rdInt bs st).2 := rdUint_nz h
theorem Nz.entry (h : Nz st) : Nz (rdEntry bs st).2 := h.uint.uint.kind.bytes.conf
theorem done_ok (h : Nz st) (hd : doneOf bs st = 0) : st.err.isNone = true ∧ (bs.length : Int) ≤ st.pos := by
  unfold doneOf at hd
  split at hd
  · cases hd
  · rename_i hc
    have he : st.err.isNone = true := by
      cases hs : st.err.isNone with
      | true => rfl
      | false => exact absurd hd (errno_some h hs)
    refine ⟨he, ?_⟩
    rcases Int.lt_or_le st.pos bs.length with hl | hl
    · exact absurd ⟨hd, hl⟩ hc
    · exact hl
end
end Go.Lw
