/-
  A row of integers of one's own: its cells read, written, two exchanged. (The sort's own words for arrays: Derived/Sort/Defs.)
-/
import Derived.Test.YtdleejgghbpbmaaSlInts
import Derived.Sort.AssemblyPlain
namespace Go.Lw
open Go.Proofs
open Go.Sort (swp size_swp)

abbrev KK : IntKind := .u64
abbrev ET : TypeId := 33
/-- This piece's block g holds the row d, then rest. -/
def RowAt (A : Res) (g : Nat) (rest : List Value) (d : Array Int) : Prop := A g = some (.cells (d.toList.map (Value.int KK) ++ rest).toArray ET (0, 0))
abbrev rowV (g : Nat) (d : Array Int) (c : Nat) : Value := .slice (some ⟨g, 0, none⟩) d.size c
abbrev ltI : Int → Int → Bool := Go.Sort.ltInt
theorem bang (d : Array Int) {m : Nat} (h : m < d.size) : d[m]! = d[m] := getElem!_pos d m h
theorem row_get {d : Array Int} {rest : List Value} {m : Nat} (h : m < d.size) : (d.toList.map (Value.int KK) ++ rest)[m]? = some (Value.int KK d[m]!) := by
  rw [List.getElem?_append_left (by simpa using h)]
  simp [h, bang d h]
theorem row_set {d : Array Int} {rest : List Value} {m : Nat} (h : m < d.size) (x : Int) :
    (d.toList.map (Value.int KK) ++ rest).take m ++ [Value.int KK x] ++ (d.toList.map (Value.int KK) ++ rest).drop (m + 1) = ((d.setIfInBounds m x).toList.map (Value.int KK) ++ rest) := by
  have hl : m < (d.toList.map (Value.int KK)).length := by simpa using h
  rw [Array.toList_setIfInBounds, List.map_set, List.take_append_of_le_length (by omega), List.drop_append_of_le_length (by omega), List.set_eq_take_append_cons_drop, if_pos hl]
  simp

section
variable {P : Program} {n : Nat} {ops : Array Oper} {Q : Exit → Act → World → Prop} {S : World → Prop} {rest' : List (Bool × Oper)} {E : Env} {w : World} {o : Oper} {q : Nat}
variable {s A : Res} {os : List Res} {x y : Operand} {T : Bool} {g : Nat} {rest : List Value} {d : Array Int}
theorem RL.idxR {t e : TypeId} {by_ c k : Nat} {kk : IntKind} {i : Int} (m : Nat) (hg : wants ops E o = some true) (hd : o.dst = some q) (hb : Nat.blt q n = true)
    (ho : o.op = .indexAddr t x y) (ht : slc P t = some (e, 1, by_)) (hx : ev E x = some (.slice (some ⟨g, 0, none⟩) k c)) (hy : ev E y = some (.int kk i)) (hm : i = m) (h1 : m < k)
    (h : RL P n ops Q S rest' ((q, .pointer (some ((⟨g, 0, none⟩ : Addr).add m))) :: E) w) : RL P n ops Q S ((T, o) :: rest') E w := by
  refine RL.val hg hd hb (fun w ac ha => ?_) h
  unfold execOp
  simp only [ho, ha.ev hx, ha.ev hy]
  subst hm
  simp [run_indexAt ht (Int.natCast_nonneg m) (by omega : ((m : Nat) : Int) < k)]
/-- An element is read. -/
theorem RL.loadR {t : TypeId} (m : Nat) (hg : wants ops E o = some true) (hd : o.dst = some q) (hb : Nat.blt q n = true) (ho : o.op = .load t x) (ht : tyc P t = some (false, 1))
    (hx : ev E x = some (.pointer (some ((⟨g, 0, none⟩ : Addr).add m)))) (h : RowAt A g rest d) (hin : In A w) (hm : m < d.size) (hr : RL P n ops Q S rest' ((q, .int KK d[m]!) :: E) w) : RL P n ops Q S ((false, o) :: rest') E w :=
  RL.load hg hd hb ho ht hx (Holds.of h) hin (row_get hm) hr
theorem RL.loadRT {t : TypeId} (m : Nat) (hg : wants ops E o = some true) (hd : o.dst = some q) (hb : Nat.blt q n = true) (ho : o.op = .load t x) (ht : tyc P t = some (false, 1))
    (hx : ev E x = some (.pointer (some ((⟨g, 0, none⟩ : Addr).add m)))) (h : RowAt A g rest d) (hin : ∀ w, S w → In A w) (hm : m < d.size) (hr : RL P n ops Q S rest' ((q, .int KK d[m]!) :: E) w) : RL P n ops Q S ((true, o) :: rest') E w :=
  RL.loadT hg hd hb ho ht hx (Holds.of h) hin (row_get hm) hr
/-- An element is written. -/
theorem RL.storeR {t : TypeId} {v : Int} (m : Nat) (hg : wants ops E o = some true) (hd : o.dst = none) (ho : o.op = .store t x y) (ht : tyc P t = some (false, 1))
    (hx : ev E x = some (.pointer (some ((⟨g, 0, none⟩ : Addr).add m)))) (hy : ev E y = some (.int KK v)) (hG : Good w s (A :: os)) (h : RowAt A g rest d) (hm : m < d.size)
    (hr : ∀ w' A', Good w' s (A' :: os) → Aux w w' → RowAt A' g rest (d.setIfInBounds m v) → S w' ∧ RL P n ops Q S rest' E w') : RL P n ops Q S ((false, o) :: rest') E w := by
  refine RL.store (i := 0) (j := m) hg hd ho ht hx hy hG rfl h rfl (by simp [Value.cells, Value.oneCell']) (by simp; omega) ?_
  intro w' hG' hax
  refine hr w' _ hG' hax ?_
  have e := row_set (rest := rest) hm v
  simp only [RowAt, Res.put, if_true]
  rw [← e]
  rfl
end
end Go.Lw
