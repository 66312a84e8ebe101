/-
  slices.Sort at []int: the library's contract, in the words of pieces.
-/
import Derived.Test.YthafkinbocdjlaaSlPut
import Derived.Test.YthafkinbocdjlaaSlLay
import Derived.Shelf.SortM.AssemblyIn
import Derived.Shelf.SortM.SortNone
import Derived.Sort.EveryDepth
namespace Go.Lw
open Go.Proofs

theorem Sort_plain (blk off cap : Nat) (zs : List Int) (w : World) (hH : Go.Sort.Holds (Value.int .i64) w blk off zs.toArray) (hblk : blk < w.heap.size) (hsz : zs.length < 4611686018427387904) :
    Calls Try.prog 43 #[.slice (some ⟨blk, off, none⟩) zs.length cap] w fun e w' =>
      e = .returned (.tuple #[]) ∧ ∃ n os, w' = Go.Sort.grow (Go.Sort.putRow (Value.int .i64) (Go.Sort.ahead w n) blk off (msort zs).toArray) os :=
  calls_of_every_depth fun D => AnySM.slices_Sort_int_in Try.sortI D blk off cap zs w hH hblk hsz

theorem Sort_ct {w : World} {s A : Res} {os : List Res} {xs : List Int} {a : Option Addr} {c : Nat} {el : TypeId} (hg : Good w s (A :: os)) (ho : Own (RInt .i64) 1 el s A a c xs) (hsz : xs.length * 8 ≤ 140737488355328) :
    Calls Try.prog 43 #[.slice a xs.length c] w (Post w s os fun s' A' r => r = .tuple #[] ∧ s' = s ∧ Own (RInt .i64) 1 el s' A' a c (msort xs)) := by
  rcases ho with ⟨rfl, rfl, rfl⟩ | ⟨g, cs, rfl, hA, hl, hc, hcs, hch⟩
  · refine (AnyM.slices_Sort_int_none Try.sortI none 0 w).mono ?_
    rintro e w' ⟨rfl, rfl⟩
    exact Post.mk (Le.refl _) hg (Aux.refl _) ⟨rfl, rfl, .inl ⟨rfl, rfl, by simp [msort]⟩⟩
  · obtain ⟨h1, h2⟩ := int_chunks hch
    rw [Nat.mul_one] at h1 hcs
    have hw := hg.1 g _ hA
    have hlt : g < w.heap.size := hg.1.lt (by rw [hA]; simp)
    have hH : Go.Sort.Holds (Value.int .i64) w g 0 xs.toArray := by
      intro j hj
      have hj' : j < xs.length := by simpa using hj
      have e : cs.toList[j]? = (xs.map (Value.int .i64))[j]? := by
        rw [← h1, List.getElem?_take, if_pos hj']
      have e2 : cs[j]? = some (Value.int .i64 xs[j]) := by
        rw [← Array.getElem?_toList, e]; simp [hj']
      have e3 : xs.toArray[j]! = xs[j] := by simp [hj']
      rw [e3]
      exact ⟨by simp [World.cell?, hw, e2], by simp [World.frozen?, hw]⟩
    refine (Sort_plain g 0 c xs w hH hlt (by omega)).mono ?_
    rintro e w' ⟨rfl, n, ns, rfl⟩
    obtain ⟨hg', hax⟩ := Good.putRow (n := n) (ts := msort xs) (ns := ns) hg hA
    refine Post.mk (Le.refl _) hg' hax ⟨rfl, rfl, .inr ⟨g, Go.Sort.putCells (Value.int .i64) 0 (msort xs).toArray cs, rfl, put_same _ _ _, by rw [msort_length]; exact hl, hc, by simp [Go.Sort.putCells]; omega, ?_⟩⟩
    rw [Nat.mul_one, take_put cs (msort xs) (by rw [msort_length]; omega)]
    exact chunks_int fun x hx => h2 x ((msort_perm xs).mem_iff.1 hx)
end Go.Lw
