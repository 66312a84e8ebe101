/-
  slices.Compact at []int; sorted and each once.
-/
import Derived.Test.YthafkinbocdjlaaSlInts
import Derived.Test.YthafkinbocdjlaaSlPut
import Derived.Test.YthafkinbocdjlaaSlLayC
import Derived.Shelf.SlicesG.CompactI
namespace Go.Lw
open Go.Proofs

theorem Compact_plain (blk off cap : Nat) (zs : List Int) (w : World) (hH : Go.Sort.Holds (Value.int .i64) w blk off zs.toArray) (hsz : zs.length ≤ 9223372036854775807) (hcap : zs.length ≤ cap) :
    Calls Try.prog 44 #[.slice (some ⟨blk, off, none⟩) zs.length cap] w fun e w' => e = .returned (.slice (some ⟨blk, off, none⟩) (Lib.compact zs).length cap) ∧
      ∃ q, w' = Go.Sort.putRow (Value.int .i64) (Go.Sort.ahead w q) blk off (Lib.compact zs ++ List.replicate (zs.length - (Lib.compact zs).length) 0).toArray :=
  AnyG.slices_Compact_int Try.compactI blk off cap zs w hH hsz hcap

theorem compact_le (xs : List Int) : (Lib.compact xs).length ≤ xs.length := by
  simp only [Lib.compact, Lib.compactUpTo, List.length_map]
  exact Nat.le_trans (List.length_filter_le _ _) (by simp)

theorem compact_mem_imp {xs : List Int} {x : Int} (h : x ∈ Lib.compact xs) : x ∈ xs := by
  simp only [Lib.compact, Lib.compactUpTo, List.mem_map, List.mem_filter, List.mem_range] at h
  obtain ⟨j, ⟨hj, _⟩, rfl⟩ := h
  simp [hj]
theorem compact_mem {xs : List Int} {x : Int} : x ∈ Lib.compact xs ↔ x ∈ xs := by
  refine ⟨compact_mem_imp, fun h => ?_⟩
  have key : ∀ j, (hj : j < xs.length) → ∃ i, i < xs.length ∧ Lib.keeps xs.toArray i = true ∧ xs.toArray[i]! = xs[j] := by
    intro j
    induction j with
    | zero => exact fun hj => ⟨0, hj, by simp [Lib.keeps], by simp [hj]⟩
    | succ j ih =>
      intro hj
      by_cases he : xs.toArray[j + 1]! = xs.toArray[j]!
      · obtain ⟨i, h1, h2, h3⟩ := ih (by omega)
        refine ⟨i, h1, h2, h3.trans ?_⟩
        have hj' : j < xs.length := by omega
        simpa [hj, hj'] using he.symm
      · exact ⟨j + 1, hj, by simpa [Lib.keeps] using he, by simp [hj]⟩
  obtain ⟨j, hj, rfl⟩ := List.getElem_of_mem h
  obtain ⟨i, h1, h2, h3⟩ := key j hj
  simp only [Lib.compact, Lib.compactUpTo, List.mem_map, List.mem_filter, List.mem_range]
  exact ⟨i, ⟨h1, h2⟩, h3⟩
theorem compact_strict {xs : List Int} (h : xs.Pairwise (· ≤ ·)) : (Lib.compact xs).Pairwise (· < ·) := by
  simp only [Lib.compact, Lib.compactUpTo, List.pairwise_map]
  rw [List.pairwise_filter]
  have h0 : (List.range xs.length).Pairwise (· < ·) := List.pairwise_lt_range
  rw [List.pairwise_iff_getElem] at h0 ⊢
  intro i j hi hj hij _ hk
  have hi' : i < xs.length := by simpa using hi
  have hj' : j < xs.length := by simpa using hj
  simp only [List.getElem_range] at *
  have hp := List.pairwise_iff_getElem.1 h
  have h1 : xs[i] ≤ xs[j - 1] := by
    by_cases e : i = j - 1
    · subst e; exact Int.le_refl _
    · exact hp i (j - 1) hi' (by omega) (by omega)
  have h2 : xs[j - 1] ≤ xs[j] := hp (j - 1) j (by omega) hj' (by omega)
  have hj1 : j - 1 < xs.length := by omega
  have h3 : xs[j] ≠ xs[j - 1] := by
    have : ¬ j = 0 := by omega
    simpa [Lib.keeps, this, hj', hj1] using hk
  simp only [List.getElem!_toArray, hi', hj', getElem!_pos]
  omega

/-- Some numbers, each once, in order. -/
def uniq (xs : List Int) : List Int := Lib.compact (msort xs)
theorem uniq_mem {xs : List Int} {x : Int} : x ∈ uniq xs ↔ x ∈ xs := by rw [uniq, compact_mem]; exact (msort_perm xs).mem_iff
theorem uniq_strict (xs : List Int) : (uniq xs).Pairwise (· < ·) := compact_strict (msort_sorted xs)
theorem uniq_nodup (xs : List Int) : (uniq xs).Nodup := (uniq_strict xs).imp (fun h => by omega)
theorem uniq_le (xs : List Int) : (uniq xs).length ≤ xs.length := by
  have := compact_le (msort xs)
  rwa [msort_length] at this

theorem Compact_ct {w : World} {s A : Res} {os : List Res} {xs : List Int} {a : Option Addr} {c : Nat} (hg : Good w s (A :: os)) (ho : OwnI s A a c xs) :
    Calls Try.prog 44 #[.slice a xs.length c] w (Post w s os fun s' A' r => s' = s ∧ r = .slice a (Lib.compact xs).length c ∧ OwnI s' A' a c (Lib.compact xs)) := by
  have hmx := ho.le_max
  simp only [maxLen] at hmx
  rcases ho with ⟨rfl, rfl, rfl⟩ | ⟨g, cs, rfl, hA, hl, hc, hcs, hch⟩
  · refine (AnyG.slices_Compact_int_empty Try.compactI none 0 w).mono ?_
    rintro e w' ⟨rfl, rfl⟩
    exact Post.mk (Le.refl _) hg (Aux.refl _) ⟨rfl, rfl, .inl ⟨rfl, rfl, rfl⟩⟩
  · obtain ⟨h1, h2⟩ := int_chunks hch
    rw [Nat.mul_one] at h1 hcs
    have hw := hg.1 g _ hA
    have hH : Go.Sort.Holds (Value.int .i64) w g 0 xs.toArray := by
      intro j hj
      have hj' : j < xs.length := by simpa using hj
      have e : cs.toList[j]? = (xs.map (Value.int .i64))[j]? := by
        rw [← h1, List.getElem?_take, if_pos hj']
      have e2 : cs[j]? = some (Value.int .i64 xs[j]) := by
        rw [← Array.getElem?_toList, e]; simp [hj']
      have e3 : xs.toArray[j]! = xs[j] := by simp [hj']
      rw [e3]
      exact ⟨by simp [World.cell?, hw, e2], by simp [World.frozen?, hw]⟩
    refine (Compact_plain g 0 c xs w hH (by omega) hl).mono ?_
    rintro e w' ⟨rfl, n, rfl⟩
    have hle := compact_le xs
    obtain ⟨hg', hax⟩ := Good.putRow (n := n) (ts := Lib.compact xs ++ List.replicate (xs.length - (Lib.compact xs).length) 0) (ns := #[]) hg hA
    rw [Go.Sort.grow_empty] at hg' hax
    refine Post.mk (Le.refl _) hg' hax ⟨rfl, rfl, .inr ⟨g, Go.Sort.putCells (Value.int .i64) 0 (Lib.compact xs ++ List.replicate (xs.length - (Lib.compact xs).length) 0).toArray cs, rfl, put_same _ _ _, by omega, hc, by simp [Go.Sort.putCells]; omega, ?_⟩⟩
    have ht := take_put cs (Lib.compact xs ++ List.replicate (xs.length - (Lib.compact xs).length) 0) (by simp; omega)
    have ht2 := congrArg (List.take (Lib.compact xs).length) ht
    rw [List.take_take, Nat.min_eq_left (by simp)] at ht2
    rw [Nat.mul_one, ht2, List.map_append, List.take_left' (by simp)]
    exact chunks_int fun x hx => h2 x (compact_mem_imp hx)
theorem Compact_ct' {w : World} {s A : Res} {os : List Res} {xs : List Int} {a : Option Addr} {c m : Nat} (hg : Good w s (A :: os)) (ho : OwnI s A a c xs) (hm : m = xs.length) :
    Calls Try.prog 44 #[.slice a m c] w (Post w s os fun s' A' r => s' = s ∧ r = .slice a (Lib.compact xs).length c ∧ OwnI s' A' a c (Lib.compact xs)) := by
  subst hm
  exact Compact_ct hg ho
end Go.Lw
