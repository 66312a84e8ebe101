/-
  slices.Sort at []int: the library's contract, in the words of pieces.
-/
import Derived.Test.YtdleejgghbpbmaaPieces
import Derived.Test.YtdleejgghbpbmaaSlLay
import Derived.Shelf.SortM.AssemblyIn
import Derived.Shelf.SortM.SortNone
import Derived.Sort.EveryDepth
namespace Go.Lw
open Go.Proofs

def msort (xs : List Int) : List Int := xs.mergeSort fun x y => decide (x ≤ y)
theorem msort_perm (xs : List Int) : (msort xs).Perm xs := List.mergeSort_perm _ _
theorem msort_sorted (xs : List Int) : (msort xs).Pairwise (· ≤ ·) := by
  have := List.pairwise_mergeSort (le := fun x y : Int => decide (x ≤ y)) (fun a b c h1 h2 => by simp at *; omega) (fun a b => by simp; omega) xs
  exact this.imp (by simp)
theorem msort_length (xs : List Int) : (msort xs).length = xs.length := (msort_perm xs).length_eq

theorem Sort_plain (blk off cap : Nat) (zs : List Int) (w : World) (hH : Go.Sort.Holds (Value.int .i64) w blk off zs.toArray) (hblk : blk < w.heap.size) (hsz : zs.length < 4611686018427387904) :
    Calls Try.prog 33 #[.slice (some ⟨blk, off, none⟩) zs.length cap] w fun e w' =>
      e = .returned (.tuple #[]) ∧ ∃ n os, w' = Go.Sort.grow (Go.Sort.putRow (Value.int .i64) (Go.Sort.ahead w n) blk off (msort zs).toArray) os :=
  calls_of_every_depth fun D => AnySM.slices_Sort_int_in Try.sortI D blk off cap zs w hH hblk hsz

theorem take_put (cs : Array Value) (ts : List Int) (h : ts.length ≤ cs.size) : (Go.Sort.putCells (Value.int .i64) 0 ts.toArray cs).toList.take ts.length = ts.map (Value.int .i64) := by
  refine List.ext_getElem? fun j => ?_
  by_cases hj : j < ts.length
  · have : j < cs.size := by omega
    simp [Go.Sort.putCells, hj, this]
  · rw [List.getElem?_eq_none (by simp; omega), List.getElem?_eq_none (by simp; omega)]

/-- What such a contract leaves, in pieces. -/
theorem Good.putRow {w : World} {s A : Res} {os : List Res} {g n : Nat} {cs : Array Value} {el : TypeId} {ts : List Int} {ns : Array Obj} (hg : Good w s (A :: os)) (hA : A g = some (.cells cs el (0, 0))) :
    Good (Go.Sort.grow (Go.Sort.putRow (Value.int .i64) (Go.Sort.ahead w n) g 0 ts.toArray) ns) s (A.put g (.cells (Go.Sort.putCells (Value.int .i64) 0 ts.toArray cs) el (0, 0)) :: os) ∧
    Aux w (Go.Sort.grow (Go.Sort.putRow (Value.int .i64) (Go.Sort.ahead w n) g 0 ts.toArray) ns) := by
  have hw := hg.1 g _ hA
  have hlt : g < w.heap.size := hg.1.lt (by rw [hA]; simp)
  refine ⟨hg.write hA ?_ (fun k hk hne => ?_), ⟨rfl, rfl, rfl, ?_⟩⟩
  · show ((w.heap.modify g (Go.Sort.onCells (Go.Sort.putCells (Value.int .i64) 0 ts.toArray))) ++ ns)[g]? = _
    rw [Array.getElem?_append_left (by simpa using hlt), Array.getElem?_modify, if_pos rfl, hw]
    rfl
  · show ((w.heap.modify g (Go.Sort.onCells (Go.Sort.putCells (Value.int .i64) 0 ts.toArray))) ++ ns)[k]? = _
    rw [Array.getElem?_append_left (by simpa using hk), Array.getElem?_modify, if_neg (Ne.symm hne)]
  · simp [Go.Sort.grow, Go.Sort.putRow, Go.Sort.mapBlock, Go.Sort.ahead]

theorem Sort_ct {w : World} {s A : Res} {os : List Res} {xs : List Int} {a : Option Addr} {c : Nat} {el : TypeId} (hg : Good w s (A :: os)) (ho : Own (RInt .i64) 1 el s A a c xs) (hsz : xs.length * 8 ≤ 140737488355328) :
    Calls Try.prog 33 #[.slice a xs.length c] w (Post w s os fun s' A' r => r = .tuple #[] ∧ s' = s ∧ Own (RInt .i64) 1 el s' A' a c (msort xs)) := by
  rcases ho with ⟨rfl, rfl, rfl⟩ | ⟨g, cs, rfl, hA, hl, hc, hcs, hch⟩
  · refine (AnyM.slices_Sort_int_none Try.sortI none 0 w).mono ?_
    rintro e w' ⟨rfl, rfl⟩
    exact Post.mk (Le.refl _) hg (Aux.refl _) ⟨rfl, rfl, .inl ⟨rfl, rfl, by simp [msort]⟩⟩
  · obtain ⟨h1, h2⟩ := int_chunks hch
    rw [Nat.mul_one] at h1 hcs
    have hw := hg.1 g _ hA
    have hlt : g < w.heap.size := hg.1.lt (by rw [hA]; simp)
    have hH : Go.Sort.Holds (Value.int .i64) w g 0 xs.toArray := by
      intro j hj
      have hj' : j < xs.length := by simpa using hj
      have e : cs.toList[j]? = (xs.map (Value.int .i64))[j]? := by
        rw [← h1, List.getElem?_take, if_pos hj']
      have e2 : cs[j]? = some (Value.int .i64 xs[j]) := by
        rw [← Array.getElem?_toList, e]; simp [hj']
      have e3 : xs.toArray[j]! = xs[j] := by simp [hj']
      rw [e3]
      exact ⟨by simp [World.cell?, hw, e2], by simp [World.frozen?, hw]⟩
    refine (Sort_plain g 0 c xs w hH hlt (by omega)).mono ?_
    rintro e w' ⟨rfl, n, ns, rfl⟩
    obtain ⟨hg', hax⟩ := Good.putRow (n := n) (ts := msort xs) (ns := ns) hg hA
    refine Post.mk (Le.refl _) hg' hax ⟨rfl, rfl, .inr ⟨g, Go.Sort.putCells (Value.int .i64) 0 (msort xs).toArray cs, rfl, put_same _ _ _, by rw [msort_length]; exact hl, hc, by simp [Go.Sort.putCells]; omega, ?_⟩⟩
    rw [Nat.mul_one, take_put cs (msort xs) (by rw [msort_length]; omega)]
    exact chunks_int fun x hx => h2 x ((msort_perm xs).mem_iff.1 hx)
end Go.Lw
