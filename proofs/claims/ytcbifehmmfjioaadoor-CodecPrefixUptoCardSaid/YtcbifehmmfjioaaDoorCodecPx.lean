/-
  Prefixes: a greater number has no fewer bytes, none's bytes begin another one's; numbers one behind the other are read back. A string's front.
-/
import Derived.Test.YtcbifehmmfjioaaDoorCodecPl
import Derived.Test.YtcbifehmmfjioaaDoorCodecWr
namespace Go.Lw
/-! ### prefixes -/
theorem encF_mono : ∀ (k : Nat) {a b : Int}, 0 ≤ a → a ≤ b → (encF k a).length ≤ (encF k b).length
  | 0, _, _, _, _ => by simp [encF]
  | k + 1, a, b, h0, h => by
    simp only [encF]
    by_cases h1 : a < 128
    · rw [if_pos h1]
      split <;> simp
    · rw [if_neg h1, if_neg (by omega)]
      simp only [List.length_cons]
      have := encF_mono k (a := a / 128) (b := b / 128) (by omega) (by omega)
      omega
theorem enc_mono {a b : Int} (h0 : 0 ≤ a) (h : a ≤ b) : (encU a).length ≤ (encU b).length := encF_mono 9 h0 h
theorem enc_pre {a b : Int} (ha : 0 ≤ a) (ha' : a < 18446744073709551616) (hb : 0 ≤ b) (hb' : b < 18446744073709551616) {n : Nat} (hn : n = min (encU a).length (encU b).length) :
    (encU a).take n = (encU b).take n ↔ a = b := by
  have key : ∀ a b : Int, 0 ≤ a → a < 18446744073709551616 → 0 ≤ b → b < 18446744073709551616 → (encU a).length ≤ (encU b).length → encU a = (encU b).take (encU a).length → a = b := by
    intro a b ha ha' hb hb' _ h
    have h1 := dec_encU a ((encU b).drop (encU a).length) ha ha'
    have h2 : encU a ++ (encU b).drop (encU a).length = encU b := by
      conv => lhs; lhs; rw [h]
      exact List.take_append_drop _ _
    rw [h2] at h1
    have h3 := dec_encU b [] hb hb'
    rw [List.append_nil, h1] at h3
    simp only [Sum.inr.injEq, Prod.mk.injEq] at h3
    exact h3.1
  constructor
  · intro h
    rcases Nat.le_total (encU a).length (encU b).length with hle | hle
    · rw [Nat.min_eq_left hle] at hn
      subst hn
      rw [List.take_length] at h
      exact key a b ha ha' hb hb' hle h
    · rw [Nat.min_eq_right hle] at hn
      subst hn
      rw [List.take_length] at h
      exact (key b a hb hb' ha ha' hle h.symm).symm
  · rintro rfl; rfl
theorem encF_rng (k : Nat) : ∀ {v : Int}, 0 ≤ v → v < 128 ^ k * 256 → ∀ x ∈ encF k v, rng .u8 x := by
  induction k with
  | zero =>
    intro v h0 h x hx
    simp only [encF, List.mem_singleton] at hx
    subst hx
    simp only [rng]; omega
  | succ k ih =>
    intro v h0 h1 x hx
    simp only [encF] at hx
    split at hx
    · simp only [List.mem_singleton] at hx
      subst hx
      simp only [rng]; omega
    · simp only [List.mem_cons] at hx
      rcases hx with rfl | hx
      · simp only [rng]; omega
      · rw [Int.pow_succ] at h1
        have h2 : v / 128 < 128 ^ k * 256 := by
          generalize (128 : Int) ^ k = q at h1 ⊢
          omega
        exact ih (by omega) h2 x hx
theorem encU_rng {v : Int} (h0 : 0 ≤ v) (h1 : v < 18446744073709551616) : ∀ x ∈ encU v, rng .u8 x := encF_rng 9 h0 (by
  rw [show (128 : Int) ^ 9 * 256 = 2361183241434822606848 by decide]
  omega)
theorem strcut (xs : List Int) (n : Nat) : (strOfNums xs).extract 0 n = strOfNums (xs.take n) := by
  have h : ((strOfNums xs).extract 0 n).data = (strOfNums (xs.take n)).data := by
    rw [ByteArray.data_extract]
    apply Array.ext'
    simp [strOfNums, List.map_take]
  exact ByteArray.ext h
theorem str_inj {xs ys : List Int} (hx : ∀ x ∈ xs, rng .u8 x) (hy : ∀ y ∈ ys, rng .u8 y) : strOfNums xs = strOfNums ys ↔ xs = ys :=
  ⟨fun h => by
    have := congrArg nums h
    rwa [nums_of hx, nums_of hy] at this, fun h => by rw [h]⟩
theorem toList_inj {a b : ByteArray} : a.toList = b.toList ↔ a = b := by
  constructor
  · intro h
    rw [ByteArray.toList_eq, ByteArray.toList_eq] at h
    exact ByteArray.ext (Array.ext' h)
  · rintro rfl; rfl
theorem str_beq {xs ys : List Int} (hx : ∀ x ∈ xs, rng .u8 x) (hy : ∀ y ∈ ys, rng .u8 y) : ((strOfNums xs).toList == (strOfNums ys).toList) = decide (xs = ys) := by
  rw [Bool.eq_iff_iff]
  simp only [beq_iff_eq, decide_eq_true_eq, toList_inj, str_inj hx hy]
/-- Numbers one behind the other. -/
def encUs (l : List Int) : List Int := l.flatMap encU
theorem encUs_take {l : List Int} {k : Nat} (hk : k < l.length) : encUs (l.take (k + 1)) = encUs (l.take k) ++ encU l[k] := by
  rw [encUs, List.take_succ_eq_append_getElem hk, List.flatMap_append]
  simp [encUs]
theorem encUs_length (l : List Int) : (encUs l).length ≤ 10 * l.length := by
  induction l with
  | nil => simp [encUs]
  | cons v l ih =>
    have := (encU_length v).2
    simp only [encUs, List.flatMap_cons, List.length_append, List.length_cons] at *
    omega
theorem encUs_split (l : List Int) (k : Nat) : encUs l = encUs (l.take k) ++ encUs (l.drop k) := by
  simp only [encUs, ← List.flatMap_append, List.take_append_drop]
theorem encUs_drop {l : List Int} {k : Nat} (hk : k < l.length) : (encUs l).drop (encUs (l.take k)).length = encU l[k] ++ encUs (l.drop (k + 1)) := by
  conv => lhs; arg 2; rw [encUs_split l k]
  rw [List.drop_left, List.drop_eq_getElem_cons hk]
  rfl
theorem rd_encUs {l : List Int} {k : Nat} (hk : k < l.length) (hr : ∀ x ∈ l, 0 ≤ x ∧ x < 18446744073709551616) :
    rdUint (encUs l) ⟨((encUs (l.take k)).length : Nat), none⟩ = (l[k], ⟨((encUs (l.take (k + 1))).length : Nat), none⟩) := by
  have h := hr l[k] (List.getElem_mem hk)
  have e : (((encUs (l.take k)).length : Nat) : Int).toNat = (encUs (l.take k)).length := rfl
  simp only [rdUint, e, encUs_drop hk, dec_encU _ _ h.1 h.2]
  rw [encUs_take hk, List.length_append]
  simp
section
variable {P : Program} {n : Nat} {ops : Array Oper} {Q : Exit → Act → World → Prop} {S : World → Prop} {rest : List (Bool × Oper)} {E : Env} {w : World} {o : Oper} {d : Nat} {x y : Operand} {T : Bool}
/-- s[:m] of a string. -/
theorem RL.strcut {t : TypeId} {xs : List Int} {k : IntKind} {m : Int} (hg : wants ops E o = some true) (hd : o.dst = some d) (hb : Nat.blt d n = true) (ho : o.op = .slice t x none (some y) none) (ht : P.underlying t = some .string)
    (hx : ev E x = some (.string (strOfNums xs))) (hy : ev E y = some (.int k m)) (h0 : 0 ≤ m) (h1 : m ≤ xs.length) (h : RL P n ops Q S rest ((d, .string (strOfNums (xs.take m.toNat))) :: E) w) : RL P n ops Q S ((T, o) :: rest) E w := by
  refine RL.val hg hd hb (fun w ac ha => ?_) h
  have hs : (strOfNums xs).size = xs.length := strOf_size xs
  have hh : (Instr.sliceBound (.int k m) (strOfNums xs).size .slice3Alen).run P w = .ok m.toNat w ∧ (Instr.sliceBound (.int k m) (strOfNums xs).size .sliceAlen).run P w = .ok m.toNat w := by
    rw [hs]; exact ⟨run_sliceBound w k m _ _ h0 h1, run_sliceBound w k m _ _ h0 h1⟩
  unfold execOp
  simp only [ho, ha.ev hx]
  simp [Instr.sliceAt, Instr.slice, Instr.sliceBounds, run_underlying ht, ha.ev hy, hh.2]
  exact _root_.Go.Lw.strcut xs m.toNat
end
end Go.Lw
