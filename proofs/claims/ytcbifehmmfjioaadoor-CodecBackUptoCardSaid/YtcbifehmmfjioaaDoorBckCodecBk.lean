/-
  PLAIN: what is written is read; what is read is just what was written. No program in sight.
-/
import Derived.Test.YtcbifehmmfjioaaDoorBckCodecPl
import Derived.Test.YtcbifehmmfjioaaDoorBckCodecIr
namespace Go.Lw

/-! ### nothing's bytes begin another one's -/
theorem encU_inj {v u : Int} {r q : List Int} (hv : rng .u64 v) (hu : rng .u64 u) (h : encU v ++ r = encU u ++ q) : v = u ∧ r = q := by
  simp only [rng] at hv hu
  have h1 := dec_encU v r (by omega) (by omega)
  have h2 := dec_encU u q (by omega) (by omega)
  rw [h, h2] at h1
  simp only [Sum.inr.injEq, Prod.mk.injEq] at h1
  obtain ⟨rfl, _⟩ := h1
  exact ⟨rfl, List.append_cancel_left h⟩
theorem zig_rng {v : Int} (hv : rng .i64 v) : rng .u64 (if v < 0 then -2 * v - 1 else 2 * v) := by
  simp only [rng] at hv ⊢
  split <;> omega
theorem encI_inj {v u : Int} {r q : List Int} (hv : rng .i64 v) (hu : rng .i64 u) (h : encI v ++ r = encI u ++ q) : v = u ∧ r = q := by
  obtain ⟨h1, h2⟩ := encU_inj (zig_rng hv) (zig_rng hu) h
  refine ⟨?_, h2⟩
  split at h1 <;> split at h1 <;> omega
theorem encT_inj {a b r q : List Int} (ha : a.length ≤ maxLen) (hb : b.length ≤ maxLen) (h : encT a ++ r = encT b ++ q) : a = b ∧ r = q := by
  simp only [encT, List.append_assoc, maxLen] at h ha hb
  obtain ⟨h1, h2⟩ := encU_inj (by simp only [rng]; omega) (by simp only [rng]; omega) h
  exact List.append_inj h2 (by omega)
theorem encIs_inj : ∀ {xs ys r q : List Int}, xs.length = ys.length → (∀ x ∈ xs, rng .i64 x) → (∀ y ∈ ys, rng .i64 y) → encIs xs ++ r = encIs ys ++ q → xs = ys ∧ r = q
  | [], [], r, q, _, _, _, h => ⟨rfl, by simpa [encIs] using h⟩
  | x :: xs, y :: ys, r, q, hl, hx, hy, h => by
    simp only [encIs, List.flatMap_cons, List.append_assoc] at h
    obtain ⟨rfl, h2⟩ := encI_inj (hx x (by simp)) (hy y (by simp)) h
    obtain ⟨rfl, h3⟩ := encIs_inj (xs := xs) (ys := ys) (by simpa using hl) (fun z hz => hx z (by simp [hz])) (fun z hz => hy z (by simp [hz])) h2
    exact ⟨rfl, h3⟩
  | [], y :: ys, _, _, hl, _, _, _ => by simp at hl
  | x :: xs, [], _, _, hl, _, _, _ => by simp at hl
/-- A list of numbers that may be. -/
def Ns (xs : List Int) : Prop := xs.length ≤ maxLen ∧ ∀ x ∈ xs, rng .i64 x
theorem encN_inj {a b r q : List Int} (ha : Ns a) (hb : Ns b) (h : encN a ++ r = encN b ++ q) : a = b ∧ r = q := by
  have h1 := ha.1
  have h2 := hb.1
  simp only [encN, List.append_assoc, maxLen] at h h1 h2
  obtain ⟨h3, h4⟩ := encU_inj (by simp only [rng]; omega) (by simp only [rng]; omega) h
  exact encIs_inj (by omega) ha.2 hb.2 h4
def Conf.may (c : Conf) : Prop := Ns c.voters ∧ Ns c.learners
theorem encConf_inj {a b : Conf} {r q : List Int} (ha : a.may) (hb : b.may) (h : encConf a ++ r = encConf b ++ q) : a = b ∧ r = q := by
  simp only [encConf, List.append_assoc] at h
  obtain ⟨h1, h2⟩ := encN_inj ha.1 hb.1 h
  obtain ⟨h3, h4⟩ := encN_inj ha.2 hb.2 h2
  cases a; cases b
  simp_all
def Entry.may (e : Entry) : Prop := rng .u64 e.index ∧ rng .u64 e.term ∧ rng .i64 e.kind ∧ e.data.length ≤ maxLen ∧ e.conf.may
theorem encEntry_inj {a b : Entry} {r q : List Int} (ha : a.may) (hb : b.may) (h : encEntry a ++ r = encEntry b ++ q) : a = b ∧ r = q := by
  simp only [encEntry, List.append_assoc] at h
  obtain ⟨h1, h⟩ := encU_inj ha.1 hb.1 h
  obtain ⟨h2, h⟩ := encU_inj ha.2.1 hb.2.1 h
  obtain ⟨h3, h⟩ := encI_inj ha.2.2.1 hb.2.2.1 h
  obtain ⟨h4, h⟩ := encT_inj ha.2.2.2.1 hb.2.2.2.1 h
  obtain ⟨h5, h⟩ := encConf_inj ha.2.2.2.2 hb.2.2.2.2 h
  cases a; cases b
  simp_all
def Snap.may (e : Snap) : Prop := rng .u64 e.index ∧ rng .u64 e.term ∧ e.conf.may ∧ e.data.length ≤ maxLen
theorem encSnap_inj {a b : Snap} {r q : List Int} (ha : a.may) (hb : b.may) (h : encSnap a ++ r = encSnap b ++ q) : a = b ∧ r = q := by
  simp only [encSnap, List.append_assoc] at h
  obtain ⟨h1, h⟩ := encU_inj ha.1 hb.1 h
  obtain ⟨h2, h⟩ := encU_inj ha.2.1 hb.2.1 h
  obtain ⟨h3, h⟩ := encConf_inj ha.2.2.1 hb.2.2.1 h
  obtain ⟨h4, h⟩ := encT_inj ha.2.2.2 hb.2.2.2 h
  cases a; cases b
  simp_all
def Hard.may (e : Hard) : Prop := rng .u64 e.term ∧ rng .i64 e.vote ∧ rng .u64 e.commit
theorem encHard_inj {a b : Hard} {r q : List Int} (ha : a.may) (hb : b.may) (h : encHard a ++ r = encHard b ++ q) : a = b ∧ r = q := by
  simp only [encHard, List.append_assoc] at h
  obtain ⟨h1, h⟩ := encU_inj ha.1 hb.1 h
  obtain ⟨h2, h⟩ := encI_inj ha.2.1 hb.2.1 h
  obtain ⟨h3, h⟩ := encU_inj ha.2.2 hb.2.2 h
  cases a; cases b
  simp_all

/-! ### what is read without an error is just what was written -/
/-- From here to there these bytes stand. -/
structure Took (bs : List Int) (st st' : RS) (e : List Int) : Prop where
  err : st'.err = none
  lo : 0 ≤ st'.pos
  hi : st'.pos ≤ bs.length
  at_ : st'.pos = st.pos + e.length
  is : bs.drop st.pos.toNat = e ++ bs.drop st'.pos.toNat
def St (bs : List Int) (st : RS) : Prop := 0 ≤ st.pos ∧ st.pos ≤ bs.length
theorem Took.st {bs : List Int} {st st' : RS} {e : List Int} (h : Took bs st st' e) : St bs st' := ⟨h.lo, h.hi⟩
theorem Took.trans {bs : List Int} {a b c : RS} {e f : List Int} (h : Took bs a b e) (k : Took bs b c f) : Took bs a c (e ++ f) := by
  refine ⟨k.err, k.lo, k.hi, ?_, ?_⟩
  · rw [k.at_, h.at_]; simp only [List.length_append]; omega
  · rw [h.is, k.is, List.append_assoc]
theorem isNone_eq {α : Type} {o : Option α} (h : o.isNone = true) : o = none := by cases o with | none => rfl | some _ => cases h

section
variable {bs : List Int} {st : RS}
theorem rdUint_took (hr : ∀ x ∈ bs, rng .u8 x) (hs : St bs st) (h : (rdUint bs st).2.err.isNone = true) : Took bs st (rdUint bs st).2 (encU (rdUint bs st).1) ∧ rng .u64 (rdUint bs st).1 := by
  have hn := isNone_eq (rdUint_err h)
  obtain ⟨s0, s1⟩ := hs
  unfold rdUint at h ⊢
  simp only [hn] at h ⊢
  cases hd : decF 0 0 (bs.drop st.pos.toNat) with
  | inl e =>
    rw [hd] at h
    have he := dec_err _ _ _ _ hd
    have he0 : e ≠ 0 := by omega
    simp [RS.fail, RS.failAt, hn, he0] at h
  | inr q =>
    obtain ⟨v, m⟩ := q
    obtain ⟨h0, h1, h2, h3⟩ := canonU (fun x hx => hr x (List.mem_of_mem_drop hx)) hd
    simp only [List.length_drop] at h2
    have hl : (encU v).length = m := by rw [← h3, List.length_take, List.length_drop]; omega
    refine ⟨⟨rfl, ?_, ?_, ?_, ?_⟩, by simp only [rng]; omega⟩
    · show 0 ≤ st.pos + m
      omega
    · show st.pos + m ≤ bs.length
      omega
    · show st.pos + m = st.pos + (encU v).length
      rw [hl]
    · show bs.drop st.pos.toNat = encU v ++ bs.drop (st.pos + m).toNat
      rw [show (st.pos + (m : Int)).toNat = st.pos.toNat + m by omega, ← List.drop_drop, ← h3, List.take_append_drop]
theorem rdInt_took (hr : ∀ x ∈ bs, rng .u8 x) (hs : St bs st) (h : (rdInt bs st).2.err.isNone = true) : Took bs st (rdInt bs st).2 (encI (rdInt bs st).1) ∧ rng .i64 (rdInt bs st).1 := by
  obtain ⟨h1, h2⟩ := rdUint_took hr hs (show (rdUint bs st).2.err.isNone = true from h)
  refine ⟨?_, rdInt_rng _ _ h2⟩
  have e : encI (rdInt bs st).1 = encU (rdUint bs st).1 := by
    simp only [rng] at h2
    simp only [encI, rdInt]
    congr 1
    split <;> split <;> omega
  rw [e]
  exact h1
theorem rdCount_took {most : Int} (hr : ∀ x ∈ bs, rng .u8 x) (hs : St bs st) (h : (rdCount bs st most).2.err.isNone = true) :
    Took bs st (rdCount bs st most).2 (encU (rdCount bs st most).1) ∧ 0 ≤ (rdCount bs st most).1 ∧ (rdCount bs st most).1 ≤ most ∧ (rdCount bs st most).1 ≤ bs.length - (rdCount bs st most).2.pos := by
  have hu := rdUint_pos bs st
  unfold rdCount at h ⊢
  split at h
  · rename_i h1; rw [h1] at h; cases h
  · rename_i h1
    have hn : (rdUint bs st).2.err.isNone = true := by simpa using h1
    split at h
    · simp [RS.failAt, hn] at h
    · rename_i h2
      split at h
      · simp [RS.failAt, hn] at h
      · rename_i h3
        rw [if_neg h1, if_neg h2, if_neg h3]
        refine ⟨(rdUint_took hr hs hn).1, hu, by omega, ?_⟩
        show (rdUint bs st).1 ≤ bs.length - (rdUint bs st).2.pos
        omega
theorem rdBytes_took {most : Int} (hr : ∀ x ∈ bs, rng .u8 x) (hs : St bs st) (h : (rdBytes bs st most).2.err.isNone = true) :
    Took bs st (rdBytes bs st most).2 (encT (rdBytes bs st most).1) ∧ (rdBytes bs st most).1.length ≤ most ∧ (rdBytes bs st most).1.length ≤ bs.length := by
  unfold rdBytes at h ⊢
  split at h
  · rename_i h1; rw [h1] at h; cases h
  · rename_i h1
    rw [if_neg h1]
    obtain ⟨k, k0, k1, k2⟩ := rdCount_took hr hs (most := most) (by simpa using h1)
    have hlo := k.lo
    have hhi := k.hi
    generalize rdCount bs st most = c at *
    obtain ⟨n, s2⟩ := c
    simp only at *
    have hl : ((bs.drop s2.pos.toNat).take n.toNat).length = n.toNat := by rw [List.length_take, List.length_drop]; omega
    refine ⟨⟨rfl, (show 0 ≤ s2.pos + n by omega), (show s2.pos + n ≤ (bs.length : Int) by omega), ?_, ?_⟩, by omega, by omega⟩
    · show s2.pos + n = st.pos + ((encT ((bs.drop s2.pos.toNat).take n.toNat)).length : Nat)
      rw [encT, List.length_append, hl, show ((n.toNat : Nat) : Int) = n by omega, k.at_]
      omega
    · show bs.drop st.pos.toNat = encT ((bs.drop s2.pos.toNat).take n.toNat) ++ bs.drop (s2.pos + n).toNat
      rw [encT, hl, show ((n.toNat : Nat) : Int) = n by omega, k.is, List.append_assoc, show (s2.pos + n).toNat = s2.pos.toNat + n.toNat by omega, ← List.drop_drop, List.take_append_drop]
theorem rdIs_took (hr : ∀ x ∈ bs, rng .u8 x) : ∀ {n : Nat} {st : RS} {xs : List Int}, St bs st → (rdIs bs n st xs).2.err.isNone = true →
    ∃ ys, (rdIs bs n st xs).1 = xs ++ ys ∧ ys.length = n ∧ Took bs st (rdIs bs n st xs).2 (encIs ys) ∧ ∀ y ∈ ys, rng .i64 y
  | 0, st, xs, hs, h => ⟨[], by simp [rdIs], rfl, ⟨isNone_eq h, hs.1, hs.2, by simp [rdIs, encIs], by simp [rdIs, encIs]⟩, by simp⟩
  | n + 1, st, xs, hs, h => by
    have hn := rdIs_err h
    simp only [rdIs, hn, if_true] at h ⊢
    have h1 := rdIs_err h
    obtain ⟨t, tr⟩ := rdInt_took hr hs h1
    obtain ⟨ys, e1, e2, e3, e4⟩ := rdIs_took hr t.st h
    refine ⟨(rdInt bs st).1 :: ys, by rw [e1]; simp, by simp [e2], ?_, ?_⟩
    · have := t.trans e3
      simpa [encIs] using this
    · intro y hy
      rcases List.mem_cons.1 hy with rfl | hy
      · exact tr
      · exact e4 y hy
theorem rdInts_took (hr : ∀ x ∈ bs, rng .u8 x) (hs : St bs st) (h : (rdInts bs st).2.err.isNone = true) : Took bs st (rdInts bs st).2 (encN (rdInts bs st).1) ∧ (rdInts bs st).1.length ≤ 7 ∧ ∀ x ∈ (rdInts bs st).1, rng .i64 x := by
  have h' : (rdIs bs (rdCount bs st 7).1.toNat (rdCount bs st 7).2 []).2.err.isNone = true := h
  obtain ⟨k, k0, k1, _⟩ := rdCount_took hr hs (rdIs_err h')
  obtain ⟨ys, e1, e2, e3, e4⟩ := rdIs_took hr k.st h'
  have e : (rdInts bs st).1 = ys := by simp only [rdInts, h', if_true, e1, List.nil_append]
  rw [e]
  refine ⟨?_, by omega, e4⟩
  have := k.trans e3
  rw [encN, e2, show (((rdCount bs st 7).1.toNat : Nat) : Int) = (rdCount bs st 7).1 by omega]
  exact this
theorem rdConf_took (hr : ∀ x ∈ bs, rng .u8 x) (hs : St bs st) (h : (rdConf bs st).2.err.isNone = true) :
    Took bs st (rdConf bs st).2 (encConf (rdConf bs st).1) ∧ (rdConf bs st).1.voters.length ≤ 7 ∧ (rdConf bs st).1.learners.length ≤ 7 ∧ (rdConf bs st).1.may := by
  have h2 : (rdInts bs (rdInts bs st).2).2.err.isNone = true := h
  obtain ⟨a1, a2, a3⟩ := rdInts_took hr hs (rdInts_err h2)
  obtain ⟨b1, b2, b3⟩ := rdInts_took hr a1.st h2
  have e : (rdConf bs st).1 = ⟨(rdInts bs st).1, (rdInts bs (rdInts bs st).2).1⟩ := by simp only [rdConf, h2, if_true]
  rw [e]
  exact ⟨a1.trans b1, a2, b2, ⟨⟨by simp only [maxLen]; omega, a3⟩, by simp only [maxLen]; omega, b3⟩⟩
theorem rdKind_err {most : Int} (h : (rdKind bs st most).2.err.isNone = true) : (rdInt bs st).2.err.isNone = true := by
  unfold rdKind at h
  simp only at h
  split at h
  · exact failAt_err h
  · exact h
theorem rdKind_took {most : Int} (hr : ∀ x ∈ bs, rng .u8 x) (hs : St bs st) (h : (rdKind bs st most).2.err.isNone = true) :
    Took bs st (rdKind bs st most).2 (encI (rdKind bs st most).1) ∧ 1 ≤ (rdKind bs st most).1 ∧ (rdKind bs st most).1 ≤ most ∧ rng .i64 (rdKind bs st most).1 := by
  obtain ⟨t, tr⟩ := rdInt_took hr hs (rdKind_err h)
  have hi := rdKind_err h
  unfold rdKind at h ⊢
  simp only at h ⊢
  split at h
  · rw [failAt_some (by decide)] at h; cases h
  · rename_i hb
    rw [if_neg hb]
    simp only [hi, if_true]
    exact ⟨t, by omega, by omega, tr⟩
theorem rdEntry_took (hr : ∀ x ∈ bs, rng .u8 x) (hs : St bs st) (h : (rdEntry bs st).2.err.isNone = true) :
    Took bs st (rdEntry bs st).2 (encEntry (rdEntry bs st).1) ∧ (rdEntry bs st).1.may ∧ (rdEntry bs st).1.data.length ≤ bs.length ∧ (rdEntry bs st).1.conf.voters.length ≤ 7 ∧ (rdEntry bs st).1.conf.learners.length ≤ 7 := by
  unfold rdEntry at h ⊢
  simp only at h ⊢
  have h4 := rdConf_err h
  have h3 := rdBytes_err h4
  have h2 := rdInt_err (rdKind_err h3)
  have h1 := rdUint_err h2
  obtain ⟨a, ar⟩ := rdUint_took hr hs h1
  obtain ⟨b, br⟩ := rdUint_took hr a.st h2
  obtain ⟨c, c1, c2, cr⟩ := rdKind_took hr b.st h3
  obtain ⟨d, d1, d2⟩ := rdBytes_took hr c.st h4
  obtain ⟨e, e1, e2, e3⟩ := rdConf_took hr d.st h
  simp only [h, if_true]
  refine ⟨?_, ⟨ar, br, cr, by simp only [maxLen]; omega, e3⟩, d2, e1, e2⟩
  have := (((a.trans b).trans c).trans d).trans e
  simpa [encEntry] using this
theorem rdSnap_took (hr : ∀ x ∈ bs, rng .u8 x) (hs : St bs st) (h : (rdSnap bs st).2.err.isNone = true) :
    Took bs st (rdSnap bs st).2 (encSnap (rdSnap bs st).1) ∧ (rdSnap bs st).1.may ∧ (rdSnap bs st).1.data.length ≤ bs.length ∧ (rdSnap bs st).1.conf.voters.length ≤ 7 ∧ (rdSnap bs st).1.conf.learners.length ≤ 7 := by
  unfold rdSnap at h ⊢
  simp only at h ⊢
  have h3 := rdBytes_err h
  have h2 := rdConf_err h3
  have h1 := rdUint_err h2
  obtain ⟨a, ar⟩ := rdUint_took hr hs h1
  obtain ⟨b, br⟩ := rdUint_took hr a.st h2
  obtain ⟨e, e1, e2, e3⟩ := rdConf_took hr b.st h3
  obtain ⟨d, d1, d2⟩ := rdBytes_took hr e.st h
  simp only [h, if_true]
  refine ⟨?_, ⟨ar, br, e3, by simp only [maxLen]; omega⟩, d2, e1, e2⟩
  have := ((a.trans b).trans e).trans d
  simpa [encSnap] using this
theorem rdHard_took (hr : ∀ x ∈ bs, rng .u8 x) (hs : St bs st) (h : (rdHard bs st).2.err.isNone = true) : Took bs st (rdHard bs st).2 (encHard (rdHard bs st).1) ∧ (rdHard bs st).1.may := by
  unfold rdHard at h ⊢
  simp only at h ⊢
  have h2 := rdUint_err h
  have h1 := rdInt_err h2
  obtain ⟨a, ar⟩ := rdUint_took hr hs h1
  obtain ⟨b, br⟩ := rdInt_took hr a.st h2
  obtain ⟨c, cr⟩ := rdUint_took hr b.st h
  refine ⟨?_, ar, br, cr⟩
  have := (a.trans b).trans c
  simpa [encHard] using this
end

/-! ### no error is number 0 -/
def Nz (st : RS) : Prop := ∀ e k, st.err = some (e, k) → e ≠ 0
section
variable {bs : List Int} {st : RS}
theorem Nz.failAt {e k : Int} (h : Nz st) : Nz (st.failAt e k) := fun a b hab => by
  unfold RS.failAt at hab
  split at hab
  · rename_i hc
    simp only [Bool.and_eq_true, bne_iff_ne] at hc
    simp only [Option.some.injEq, Prod.mk.injEq] at hab
    rw [← hab.1]; exact hc.2
  · exact h a b hab
theorem Nz.count {most : Int} (h : Nz st) : Nz (rdCount bs st most).2 := by
  have hu : Nz (rdUint bs st).2 := rdUint_nz h
  unfold rdCount
  split
  · exact hu
  · split
    · exact hu.failAt
    · split
      · exact hu.failAt
      · exact hu
theorem Nz.none {p : Int} : Nz ⟨p, Option.none⟩ := fun _ _ h => by cases h
theorem Nz.bytes {most : Int} (h : Nz st) : Nz (rdBytes bs st most).2 := by
  unfold rdBytes
  split
  · exact h.count
  · exact Nz.none
theorem Nz.is_ : ∀ {n : Nat} {st : RS} {xs : List Int}, Nz st → Nz (rdIs bs n st xs).2
  | 0, _, _, h => h
  | n + 1, st, xs, h => by
    simp only [rdIs]
    split
    · exact Nz.is_ (rdUint_nz h)
    · exact h
theorem Nz.ints (h : Nz st) : Nz (rdInts bs st).2 := Nz.is_ h.count
theorem Nz.conf (h : Nz st) : Nz (rdConf bs st).2 := h.ints.ints
theorem Nz.kind {most : Int} (h : Nz st) : Nz (rdKind bs st most).2 := by
  have hu : Nz (rdInt bs st).2 := rdUint_nz h
  unfold rdKind
  simp only
  split
  · exact hu.failAt
  · exact hu
theorem Nz.uint (h : Nz st) : Nz (rdUint bs st).2 := rdUint_nz h
theorem Nz.int (h : Nz st) : Nz (rdInt bs st).2 := rdUint_nz h
theorem Nz.entry (h : Nz st) : Nz (rdEntry bs st).2 := h.uint.uint.kind.bytes.conf
theorem Nz.snap (h : Nz st) : Nz (rdSnap bs st).2 := h.uint.uint.conf.bytes
theorem Nz.hard (h : Nz st) : Nz (rdHard bs st).2 := h.uint.int.uint
theorem Nz.body {k g : Int} (h : Nz st) : Nz (itemBody bs k g st).2 := by
  unfold itemBody
  split
  · exact h.entry
  split
  · exact h.hard
  split
  · exact h.uint
  split
  · exact h.snap
  · exact h
theorem done_ok (h : Nz st) (hd : doneOf bs st = 0) : st.err.isNone = true ∧ (bs.length : Int) ≤ st.pos := by
  unfold doneOf at hd
  split at hd
  · cases hd
  · rename_i hc
    have he : st.err.isNone = true := by
      cases hs : st.err.isNone with
      | true => rfl
      | false => exact absurd hd (errno_some h hs)
    refine ⟨he, ?_⟩
    rcases Int.lt_or_le st.pos bs.length with hl | hl
    · exact absurd ⟨hd, hl⟩ hc
    · exact hl
end

/-! ### items -/
def Item.plain (x : Item) : Item :=
  ⟨x.kind, x.group, if x.kind = 1 then x.entry else Entry.zero, if x.kind = 2 then x.hard else Hard.zero, if x.kind = 3 then x.index else 0, if x.kind = 4 then x.snap else Snap.zero⟩
def Item.may (x : Item) : Prop := rng .i64 x.kind ∧ rng .u64 x.group ∧ x.entry.may ∧ x.hard.may ∧ rng .u64 x.index ∧ x.snap.may
theorem itemBody_err {bs : List Int} {k g : Int} {st : RS} (h : (itemBody bs k g st).2.err.isNone = true) : st.err.isNone = true := by
  unfold itemBody at h
  split at h
  · have h : (rdEntry bs st).2.err.isNone = true := h
    unfold rdEntry at h
    exact rdUint_err (rdUint_err (rdInt_err (rdKind_err (rdBytes_err (rdConf_err h)))))
  split at h
  · have h : (rdHard bs st).2.err.isNone = true := h
    unfold rdHard at h
    exact rdUint_err (rdInt_err (rdUint_err h))
  split at h
  · exact rdUint_err h
  split at h
  · have h : (rdSnap bs st).2.err.isNone = true := h
    unfold rdSnap at h
    exact rdUint_err (rdUint_err (rdConf_err (rdBytes_err h)))
  · exact h
theorem encItem_tail {x : Item} (h1 : 1 ≤ x.kind) (h5 : x.kind ≤ 5) : encItem x = encI x.kind ++ (encU x.group ++ (if x.kind = 1 then encEntry x.entry else if x.kind = 2 then encHard x.hard else if x.kind = 3 then encU x.index else if x.kind = 4 then encSnap x.snap else [])) := by
  unfold encItem
  split
  · rw [List.append_assoc]
  split
  · rw [List.append_assoc]
  split
  · rw [List.append_assoc]
  split
  · rw [List.append_assoc]
  · rw [if_pos (by omega)]; simp
/-- What is read as an item is just what is written of it. -/
theorem rdItem_ok {bs : List Int} (hr : ∀ x ∈ bs, rng .u8 x) (h : (rdItem bs).2 = 0) :
    encItem (rdItem bs).1 = bs ∧ 1 ≤ (rdItem bs).1.kind ∧ (rdItem bs).1.kind ≤ 5 ∧ (rdItem bs).1.plain = (rdItem bs).1 ∧ (rdItem bs).1.bulk ≤ 1000 + 2 * bs.length := by
  have hz : Nz (⟨0, none⟩ : RS) := Nz.none
  have h0 : St bs ⟨0, none⟩ := ⟨Int.le_refl _, by simp⟩
  unfold rdItem at h ⊢
  simp only at h ⊢
  split at h
  · rename_i hd
    exact absurd h hd
  · rename_i hd
    rw [if_neg hd]
    simp only
    have hd : doneOf bs _ = 0 := Decidable.not_not.1 hd
    obtain ⟨he, hp⟩ := done_ok hz.kind.uint.body hd
    have hg := itemBody_err he
    obtain ⟨a, a1, a2, ar⟩ := rdKind_took hr h0 (rdUint_err hg)
    obtain ⟨b, br⟩ := rdUint_took hr a.st hg
    have hab := a.trans b
    generalize rdKind bs ⟨0, none⟩ 5 = k at *
    obtain ⟨k, s1⟩ := k
    simp only at *
    generalize rdUint bs s1 = g at *
    obtain ⟨g, s2⟩ := g
    simp only at *
    have hs2 := b.st
    have fin : ∀ {e : List Int} {st3 : RS}, Took bs s2 st3 e → (bs.length : Int) ≤ st3.pos → encI k ++ (encU g ++ e) = bs := by
      intro e st3 t hle
      have h3 := hab.trans t
      have h4 := h3.is
      have h5 : bs.drop st3.pos.toNat = [] := List.drop_eq_nil_of_le (by have := t.hi; omega)
      rw [h5] at h4
      simpa using h4.symm
    have nil : Took bs s2 s2 [] := ⟨b.err, b.lo, b.hi, by simp, by simp⟩
    unfold itemBody at he hp ⊢
    by_cases q1 : k = 1
    · simp only [if_pos q1] at he hp ⊢
      obtain ⟨t, t1, t2, t3, t4⟩ := rdEntry_took hr hs2 he
      refine ⟨?_, a1, a2, ?_, ?_⟩
      · rw [encItem_tail a1 a2]
        simp only [if_pos q1]
        exact fin t hp
      · simp [Item.plain, q1]
      · simp only [Item.bulk, Snap.zero, List.length_nil]; omega
    simp only [if_neg q1] at he hp ⊢
    by_cases q2 : k = 2
    · simp only [if_pos q2] at he hp ⊢
      obtain ⟨t, t1⟩ := rdHard_took hr hs2 he
      refine ⟨?_, a1, a2, ?_, ?_⟩
      · rw [encItem_tail a1 a2]
        simp only [if_neg q1, if_pos q2]
        exact fin t hp
      · simp [Item.plain, q2]
      · simp only [Item.bulk, Snap.zero, Entry.zero, List.length_nil]; omega
    simp only [if_neg q2] at he hp ⊢
    by_cases q3 : k = 3
    · simp only [if_pos q3] at he hp ⊢
      obtain ⟨t, t1⟩ := rdUint_took hr hs2 he
      refine ⟨?_, a1, a2, ?_, ?_⟩
      · rw [encItem_tail a1 a2]
        simp only [if_neg q1, if_neg q2, if_pos q3]
        exact fin t hp
      · simp [Item.plain, q3]
      · simp only [Item.bulk, Snap.zero, Entry.zero, List.length_nil]; omega
    simp only [if_neg q3] at he hp ⊢
    by_cases q4 : k = 4
    · simp only [if_pos q4] at he hp ⊢
      obtain ⟨t, t1, t2, t3, t4⟩ := rdSnap_took hr hs2 he
      refine ⟨?_, a1, a2, ?_, ?_⟩
      · rw [encItem_tail a1 a2]
        simp only [if_neg q1, if_neg q2, if_neg q3, if_pos q4]
        exact fin t hp
      · simp [Item.plain, q4]
      · simp only [Item.bulk, Entry.zero, List.length_nil]; omega
    simp only [if_neg q4] at he hp ⊢
    refine ⟨?_, a1, a2, ?_, ?_⟩
    · rw [encItem_tail a1 a2]
      simp only [if_neg q1, if_neg q2, if_neg q3, if_neg q4]
      exact fin nil hp
    · simp [Item.plain, q1, q2, q3, q4]
    · simp only [Item.bulk, Snap.zero, Entry.zero, List.length_nil]; omega
theorem encItem_kind {x : Item} (h : encItem x ≠ []) : 1 ≤ x.kind ∧ x.kind ≤ 5 := by
  unfold encItem at h
  split at h
  · omega
  split at h
  · omega
  split at h
  · omega
  split at h
  · omega
  split at h
  · omega
  · exact absurd rfl h
/-- What is written of an item is read as that item. -/
theorem rdItem_back {x : Item} (hx : x.may) (hy : (rdItem (encItem x)).1.may) (hr : ∀ b ∈ encItem x, rng .u8 b) (hn : encItem x ≠ []) (h : (rdItem (encItem x)).2 = 0) : (rdItem (encItem x)).1 = x.plain := by
  obtain ⟨e, k1, k5, hp, _⟩ := rdItem_ok hr h
  obtain ⟨x1, x5⟩ := encItem_kind hn
  generalize (rdItem (encItem x)).1 = y at *
  rw [encItem_tail k1 k5, encItem_tail x1 x5] at e
  obtain ⟨e1, e⟩ := encI_inj hy.1 hx.1 e
  obtain ⟨e2, e⟩ := encU_inj hy.2.1 hx.2.1 e
  rw [← hp]
  unfold Item.plain
  rw [e1, e2]
  rw [e1] at e
  by_cases q1 : x.kind = 1
  · simp only [if_pos q1] at e ⊢
    rw [← List.append_nil (encEntry y.entry), ← List.append_nil (encEntry x.entry)] at e
    rw [(encEntry_inj hy.2.2.1 hx.2.2.1 e).1]
    simp [q1]
  by_cases q2 : x.kind = 2
  · simp only [if_neg q1, if_pos q2] at e ⊢
    rw [← List.append_nil (encHard y.hard), ← List.append_nil (encHard x.hard)] at e
    rw [(encHard_inj hy.2.2.2.1 hx.2.2.2.1 e).1]
    simp [q2]
  by_cases q3 : x.kind = 3
  · simp only [if_neg q1, if_neg q2, if_pos q3] at e ⊢
    rw [← List.append_nil (encU y.index), ← List.append_nil (encU x.index)] at e
    rw [(encU_inj hy.2.2.2.2.1 hx.2.2.2.2.1 e).1]
    simp [q3]
  by_cases q4 : x.kind = 4
  · simp only [if_neg q1, if_neg q2, if_neg q3, if_pos q4] at e ⊢
    rw [← List.append_nil (encSnap y.snap), ← List.append_nil (encSnap x.snap)] at e
    rw [(encSnap_inj hy.2.2.2.2.2 hx.2.2.2.2.2 e).1]
  · simp only [if_neg q1, if_neg q2, if_neg q3, if_neg q4]

/-! ### frames -/
theorem unf_frame {b behind : List Int} (hb : b.length ≤ 262144) : unf (frame b ++ behind) = (b, behind, 0) := by
  have e : frame b ++ behind = encU b.length ++ (b ++ (sumBytes (crc b) ++ behind)) := by simp [frame, encT]
  have hd := dec_encU b.length (b ++ (sumBytes (crc b) ++ behind)) (by omega) (by omega)
  rw [← e] at hd
  unfold unf
  simp only
  rw [rd_ok hd]
  have hz : (⟨((encU b.length).length : Int), none⟩ : RS).errno = 0 := rfl
  have hmn : (((encU b.length).length : Int)).toNat = (encU b.length).length := Int.toNat_natCast _
  have hdr : (frame b ++ behind).drop (encU b.length).length = b ++ (sumBytes (crc b) ++ behind) := by rw [e, List.drop_left]
  have hs4 : (sumBytes (crc b)).length = 4 := rfl
  simp only [hz, hmn, hdr]
  rw [if_neg (by simp), if_neg (by omega), if_neg (by simp only [List.length_append, hs4]; omega)]
  have hbn : ((b.length : Int)).toNat = b.length := Int.toNat_natCast _
  simp only [hbn]
  rw [List.drop_left, List.take_left, le4_sum, if_neg (by simp)]
  have : (sumBytes (crc b) ++ behind).drop 4 = behind := by rw [← hs4, List.drop_left]
  rw [this]
theorem sum_of_le4 {c : BitVec 32} {l : List Int} (h4 : 4 ≤ l.length) (hr : ∀ x ∈ l, rng .u8 x) (h : le4 l = c.toNat) : sumBytes c = l.take 4 := by
  obtain ⟨b0, b1, b2, b3, tl, rfl⟩ := four h4
  have r0 := hr b0 (by simp)
  have r1 := hr b1 (by simp)
  have r2 := hr b2 (by simp)
  have r3 := hr b3 (by simp)
  simp only [rng] at r0 r1 r2 r3
  simp only [le4] at h
  simp only [sumBytes, IntKind.wrap_u8, ← h]
  simp only [List.take_succ_cons, List.take_zero, List.cons.injEq, and_true]
  refine ⟨?_, ?_, ?_, ?_⟩ <;> omega
theorem frame_unf {bs : List Int} (hr : ∀ x ∈ bs, rng .u8 x) (h : (unf bs).2.2 = 0) : frame (unf bs).1 ++ (unf bs).2.1 = bs := by
  obtain ⟨m, hm, ht, hmx, hp, hml, hrest, hs⟩ := unf_ok hr h
  have hl4 : 4 ≤ ((bs.drop m).drop (unf bs).1.length).length := by simp only [List.length_drop]; omega
  have h4 := sum_of_le4 hl4 (fun x hx => hr x (List.mem_of_mem_drop (List.mem_of_mem_drop hx))) hs
  rw [frame, encT, ← ht, h4, hrest]
  have e1 : (unf bs).1 ++ (((bs.drop m).drop (unf bs).1.length).take 4 ++ ((bs.drop m).drop (unf bs).1.length).drop 4) = bs.drop m := by
    rw [List.take_append_drop]
    conv => lhs; lhs; rw [hp]
    exact List.take_append_drop _ _
  rw [List.append_assoc, List.append_assoc, e1, List.take_append_drop]
end Go.Lw
