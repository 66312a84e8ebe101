/-
  PLAIN: the codec's numbers as bytes. No program in sight.
-/
import Derived.Test.YthaomecbklmmdaaRules3
namespace Go.Lw

/-- A number's bytes, at most k + 1 of them. -/
def encF : Nat → Int → List Int
  | 0, v => [v]
  | k + 1, v => if v < 128 then [v] else (v % 128 + 128) :: encF k (v / 128)
def encU (v : Int) : List Int := encF 9 v

theorem encF_length (k : Nat) (v : Int) : 1 ≤ (encF k v).length ∧ (encF k v).length ≤ k + 1 := by
  induction k generalizing v with
  | zero => simp [encF]
  | succ k ih =>
    simp only [encF]
    split
    · simp
    · have := ih (v / 128)
      simp only [List.length_cons]
      omega
theorem encU_length (v : Int) : 1 ≤ (encU v).length ∧ (encU v).length ≤ 10 := encF_length 9 v

theorem or128 (x : Int) (h : 0 ≤ x ∧ x < 256) : IntKind.u8.wrap ((BitVec.ofInt IntKind.u8.bits x ||| BitVec.ofInt IntKind.u8.bits 128).toNat) = x % 128 + 128 := by
  have key : ∀ n : Nat, n < 256 → IntKind.u8.wrap ((BitVec.ofInt IntKind.u8.bits (n : Int) ||| BitVec.ofInt IntKind.u8.bits 128).toNat) = (n : Int) % 128 + 128 := by decide +kernel
  obtain ⟨n, rfl⟩ := Int.eq_ofNat_of_zero_le h.1
  exact key n (by omega)
theorem wrap_u8 (v : Int) : IntKind.u8.wrap v = v % 256 := IntKind.wrap_u8 v

theorem and127 (x : Int) (_h : rng .u64 x) : IntKind.u64.wrap ((BitVec.ofInt IntKind.u64.bits x &&& BitVec.ofInt IntKind.u64.bits 127).toNat) = x % 128 := by
  change IntKind.u64.wrap ((BitVec.ofInt 64 x &&& BitVec.ofInt 64 127).toNat) = _
  have e : (BitVec.ofInt 64 127).toNat = 2 ^ 7 - 1 := by decide
  rw [BitVec.toNat_and, e, Nat.and_two_pow_sub_one_eq_mod, BitVec.toNat_ofInt]
  rw [show IntKind.u64.wrap = fun v => v % 18446744073709551616 by funext v; simp [IntKind.wrap, IntKind.bits, IntKind.signed]]
  show (((x % (2 ^ 64 : Nat)).toNat % 2 ^ 7 : Nat) : Int) % 18446744073709551616 = x % 128
  omega

end Go.Lw
