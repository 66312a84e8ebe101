/-
  Rows of integers as the library's contracts leave them; numbers sorted.
-/
import Derived.Test.YthafkinbocdjlaaPieces
import Derived.Sort.Grow
import Derived.Sort.Row
import Derived.Sort.AssemblyPlain
namespace Go.Lw


def msort (xs : List Int) : List Int := xs.mergeSort fun x y => decide (x ≤ y)
theorem msort_perm (xs : List Int) : (msort xs).Perm xs := List.mergeSort_perm _ _
theorem msort_sorted (xs : List Int) : (msort xs).Pairwise (· ≤ ·) := by
  have := List.pairwise_mergeSort (le := fun x y : Int => decide (x ≤ y)) (fun a b c h1 h2 => by simp at *; omega) (fun a b => by simp; omega) xs
  exact this.imp (by simp)
theorem msort_length (xs : List Int) : (msort xs).length = xs.length := (msort_perm xs).length_eq

theorem take_put (cs : Array Value) (ts : List Int) (h : ts.length ≤ cs.size) : (Go.Sort.putCells (Value.int .i64) 0 ts.toArray cs).toList.take ts.length = ts.map (Value.int .i64) := by
  refine List.ext_getElem? fun j => ?_
  by_cases hj : j < ts.length
  · have : j < cs.size := by omega
    simp [Go.Sort.putCells, hj, this]
  · rw [List.getElem?_eq_none (by simp; omega), List.getElem?_eq_none (by simp; omega)]

/-- What such a contract leaves, in pieces. -/
theorem Good.putRow {w : World} {s A : Res} {os : List Res} {g n : Nat} {cs : Array Value} {el : TypeId} {ts : List Int} {ns : Array Obj} (hg : Good w s (A :: os)) (hA : A g = some (.cells cs el (0, 0))) :
    Good (Go.Sort.grow (Go.Sort.putRow (Value.int .i64) (Go.Sort.ahead w n) g 0 ts.toArray) ns) s (A.put g (.cells (Go.Sort.putCells (Value.int .i64) 0 ts.toArray cs) el (0, 0)) :: os) ∧
    Aux w (Go.Sort.grow (Go.Sort.putRow (Value.int .i64) (Go.Sort.ahead w n) g 0 ts.toArray) ns) := by
  have hw := hg.1 g _ hA
  have hlt : g < w.heap.size := hg.1.lt (by rw [hA]; simp)
  refine ⟨hg.write hA ?_ (fun k hk hne => ?_), ⟨rfl, rfl, rfl, ?_⟩⟩
  · show ((w.heap.modify g (Go.Sort.onCells (Go.Sort.putCells (Value.int .i64) 0 ts.toArray))) ++ ns)[g]? = _
    rw [Array.getElem?_append_left (by simpa using hlt), Array.getElem?_modify, if_pos rfl, hw]
    rfl
  · show ((w.heap.modify g (Go.Sort.onCells (Go.Sort.putCells (Value.int .i64) 0 ts.toArray))) ++ ns)[k]? = _
    rw [Array.getElem?_append_left (by simpa using hk), Array.getElem?_modify, if_neg (Ne.symm hne)]
  · simp [Go.Sort.grow, Go.Sort.putRow, Go.Sort.mapBlock, Go.Sort.ahead]

end Go.Lw
