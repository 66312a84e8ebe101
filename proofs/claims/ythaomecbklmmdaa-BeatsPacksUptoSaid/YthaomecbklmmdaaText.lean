/-
  THE WALK ENGINE, part 7: strings as lists of bytes' numbers.
-/
import Derived.Test.YthaomecbklmmdaaRules3
import Derived.Laws.BytesArg
namespace Go.Lw

/-- A string's bytes. -/
def nums (b : ByteArray) : List Int := b.data.toList.map fun x => (x.toNat : Int)
theorem nums_length (b : ByteArray) : (nums b).length = b.size := by unfold nums; rw [List.length_map, Array.length_toList]; rfl
theorem nums_rng (b : ByteArray) : ∀ x ∈ nums b, 0 ≤ x ∧ x < 256 := by
  intro x hx
  simp only [nums, List.mem_map] at hx
  obtain ⟨y, _, rfl⟩ := hx
  have := y.toNat_lt
  omega
theorem nums_of {xs : List Int} (h : ∀ x ∈ xs, 0 ≤ x ∧ x < 256) : nums (strOfNums xs) = xs := by
  simp only [nums, strOfNums, List.map_map]
  rw [List.map_congr_left (g := id)]
  · simp
  · intro x hx
    have := h x hx
    simp only [Function.comp, id]
    rw [UInt8.toNat_ofNat']
    omega
theorem of_nums (b : ByteArray) : strOfNums (nums b) = b := by
  obtain ⟨d⟩ := b
  simp only [strOfNums, nums, List.map_map]
  congr 1
  have : (fun n : Int => UInt8.ofNat n.toNat) ∘ (fun x : UInt8 => (x.toNat : Int)) = id := by
    funext x; simp
  rw [this]; simp
theorem nums_inj {a b : ByteArray} (h : nums a = nums b) : a = b := by rw [← of_nums a, ← of_nums b, h]

theorem ints_chunks {k : IntKind} {s : Res} : ∀ {xs : List Int}, (∀ x ∈ xs, rng k x) → Chunks (RInt k) 1 s (xs.map (Value.int k)) xs
  | [], _ => rfl
  | x :: xs, h => ⟨[.int k x], _, rfl, rfl, ⟨rfl, h x (by simp)⟩, ints_chunks fun y hy => h y (by simp [hy])⟩
theorem nums_chunks (b : ByteArray) (s : Res) : Chunks (RInt .u8) 1 s ((nums b).map (Value.int .u8)) (nums b) := ints_chunks (nums_rng b)
theorem Src.str {P : Program} {w : World} {t : TypeId} {b : ByteArray} (ht : P.underlying t = some .string) : Src P w t 1 (.string b) (nums b).length ((nums b).map (Value.int .u8)) := by
  refine ⟨.inl ht, fun w' => by simp [Builtin.lenOf, nums_length], fun w' _ => ?_, by simp⟩
  have h1 : b.extract 0 (nums b).length = b := by rw [nums_length]; exact ByteArray.extract_zero_size
  simp only [Builtin.firstCells, h1, Sem.run_pure]
  congr 1
  apply Array.ext'
  simp [nums]
theorem Chunks.rng {k : IntKind} {s : Res} {cs : List Value} {xs : List Int} (h : Chunks (RInt k) 1 s cs xs) : cs = xs.map (Value.int k) ∧ ∀ x ∈ xs, Lw.rng k x := by
  induction xs generalizing cs with
  | nil => exact ⟨h, by simp⟩
  | cons x xs ih =>
    obtain ⟨vs, rest, rfl, _, ⟨rfl, hr⟩, h'⟩ := h
    obtain ⟨h1, h2⟩ := ih h'
    refine ⟨by rw [h1]; rfl, fun y hy => ?_⟩
    rcases List.mem_cons.1 hy with rfl | hy
    · exact hr
    · exact h2 y hy
theorem Imm.rng {k : IntKind} {s : Res} {a : Option Addr} {c : Nat} {xs : List Int} (h : Imm (RInt k) 1 s a c xs) : ∀ x ∈ xs, Lw.rng k x := by
  rcases h.2.2 with rfl | ⟨ad, rfl, cs, hh, hc⟩
  · simp
  · exact hc.rng.2
theorem Own.rng {k : IntKind} {s A : Res} {el : TypeId} {a : Option Addr} {c : Nat} {xs : List Int} (h : Own (RInt k) 1 el s A a c xs) : ∀ x ∈ xs, Lw.rng k x := by
  rcases h.row with rfl | ⟨ad, rfl, cs, hh, hc⟩
  · simp
  · exact hc.rng.2
end Go.Lw
