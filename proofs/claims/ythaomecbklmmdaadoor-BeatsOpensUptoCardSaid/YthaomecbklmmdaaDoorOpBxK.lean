/-
  Beats: packets: the plain functions.
-/
import Derived.Test.YthaomecbklmmdaaDoorOpBxP
import Derived.Test.YthaomecbklmmdaaDoorOpBxI
namespace Go.Lw
open Go.Proofs

structure Packet where
  frm : Int
  to : Int
  kind : Int
  data : List Int
def RPacket : Res → List Value → Packet → Prop := fun s vs x => ∃ a c, vs = [i64 x.frm, i64 x.to, i64 x.kind, .slice a x.data.length c] ∧ rng .i64 x.frm ∧ rng .i64 x.to ∧ rng .i64 x.kind ∧ Imm (RInt .u8) 1 s a c x.data
theorem RPacket.up : Up RPacket := fun _ _ _ _ hl ⟨a, c, h, r1, r2, r3, h1⟩ => ⟨a, c, h, r1, r2, r3, h1.up (RInt.up _) hl⟩
theorem RPacket.one : One RPacket := fun _ _ _ ⟨a, c, h, _⟩ v hv => by
  subst h
  simp only [List.mem_cons, List.not_mem_nil, or_false] at hv
  rcases hv with rfl | rfl | rfl | rfl <;> rfl

theorem isP_kind {m : Msg} (h : isP m = true) : m.kind = 5 ∨ m.kind = 6 := by
  simp only [isP, Bool.and_eq_true, Bool.or_eq_true, decide_eq_true_eq] at h
  rcases h.2 with h | ⟨⟨h, _⟩, _⟩
  · exact .inl h
  · exact .inr h
abbrev wireV (x : Wire) (y : Lay) : List Value := u64 x.group :: msgV x.msg y
def PackEnd (s A : Res) (v : Value) (r : List Packet × Int) : Prop := ∃ a c, v = .tuple #[.slice a r.1.length c, i64 r.2] ∧ Own RPacket 4 24 s A a c r.1
theorem PackEnd.bad {s A : Res} {e : Int} : PackEnd s A (.tuple #[nilSl, i64 e]) ([], e) := ⟨none, 0, rfl, .inl ⟨rfl, rfl, rfl⟩⟩

def badW (frm : Int) (x : Wire) : Bool := decide (x.msg.frm ≠ frm) || !node7 x.msg.to || decide (x.msg.to = frm) || !known9 x.msg.kind
def kindOf (m : Msg) : Int := if isP m = true then 2 else 1
def mine (to kind : Int) (x : Wire) : Bool := decide (x.msg.to = to) && decide (kindOf x.msg = kind)
def encW (x : Wire) : List Int := if isP x.msg = true then encBeat x else encFull x
def encWs (xs : List Wire) : List Int := xs.flatMap encW
def packTo (frm : Int) (l : List Wire) (to kind : Int) : List Packet :=
  if l.filter (mine to kind) = [] then [] else [⟨frm, to, kind, encU (l.filter (mine to kind)).length ++ encWs (l.filter (mine to kind))⟩]
def packUp (frm : Int) (l : List Wire) : Nat → List Packet
  | 0 => []
  | n + 1 => packUp frm l n ++ (packTo frm l ((n : Int) + 1) 2 ++ packTo frm l ((n : Int) + 1) 1)
def packP (frm : Int) (l : List Wire) : List Packet × Int :=
  if node7 frm = false ∨ l.any (badW frm) = true then ([], 1)
  else if 4096 < l.length ∨ (l.any fun x => longP x.msg) = true then ([], 2)
  else (packUp frm l 7, 0)
def bulkW (l : List Wire) : Nat := (l.map Wire.bulk).sum

theorem encBeat_length (x : Wire) : (encBeat x).length ≤ x.bulk := by
  have u1 := encU_length x.group
  have u2 := encU_length x.msg.term
  have u3 := encU_length x.msg.index
  have u4 := encU_length x.msg.logTerm
  have u5 := encU_length x.msg.commit
  have hb : (encB (decide (x.msg.kind = 6))).length = 1 := rfl
  simp only [encBeat, Wire.bulk, List.length_append]
  split <;> simp only [List.length_append, List.length_nil] <;> omega
theorem encFull_length (x : Wire) : (encFull x).length ≤ x.bulk := by
  have u1 := encU_length x.group
  have u2 := encU_length x.msg.term
  have u3 := encU_length x.msg.index
  have u4 := encU_length x.msg.logTerm
  have u5 := encU_length x.msg.commit
  have u6 := encU_length x.msg.hint
  have u7 := encI_length x.msg.kind
  have u8 := encU_length (x.msg.entries.length : Int)
  have u9 := encEs_length x.msg.entries
  have u10 := encConf_length x.msg.conf
  have u11 := encT_length x.msg.data
  have hb : ∀ b, (encB b).length = 1 := fun b => rfl
  simp only [encFull, Wire.bulk, List.length_append, hb] at *
  omega
theorem encW_length (x : Wire) : (encW x).length ≤ x.bulk := by
  unfold encW
  split
  · exact encBeat_length x
  · exact encFull_length x
theorem encWs_length : ∀ xs : List Wire, (encWs xs).length ≤ bulkW xs
  | [] => Nat.le_refl _
  | x :: xs => by
    have := encWs_length xs
    have := encW_length x
    simp only [encWs, bulkW, List.flatMap_cons, List.length_append, List.map_cons, List.sum_cons] at *; omega
theorem bulkW_filter (p : Wire → Bool) : ∀ xs : List Wire, bulkW (xs.filter p) ≤ bulkW xs
  | [] => Nat.le_refl _
  | x :: xs => by
    have := bulkW_filter p xs
    simp only [bulkW, List.filter_cons, List.map_cons, List.sum_cons] at *
    split
    · simp only [List.map_cons, List.sum_cons]; omega
    · omega
theorem bulkW_take (xs : List Wire) (k : Nat) : bulkW (xs.take k) ≤ bulkW xs := by
  have e : bulkW xs = bulkW (xs.take k) + bulkW (xs.drop k) := by
    conv => lhs; rw [← List.take_append_drop k xs]
    simp only [bulkW, List.map_append, List.sum_append]
  omega
theorem bulkW_at (xs : List Wire) (k : Nat) (hk : k < xs.length) : bulkW (xs.take k) + xs[k].bulk ≤ bulkW xs := by
  have e : xs = xs.take k ++ xs[k] :: xs.drop (k + 1) := by rw [List.getElem_cons_drop]; exact (List.take_append_drop k xs).symm
  have : bulkW xs = bulkW (xs.take k) + (xs[k].bulk + bulkW (xs.drop (k + 1))) := by
    conv => lhs; rw [e]
    simp only [bulkW, List.map_append, List.sum_append, List.map_cons, List.sum_cons]
  omega
theorem filter_take1 {α : Type} (p : α → Bool) (xs : List α) (k : Nat) (hk : k < xs.length) : (xs.take (k + 1)).filter p = (xs.take k).filter p ++ if p xs[k] = true then [xs[k]] else [] := by
  rw [List.take_succ_eq_append_getElem hk, List.filter_append]
  by_cases h : p xs[k] = true <;> simp [h]
theorem any_take1 {α : Type} (p : α → Bool) (xs : List α) (k : Nat) (hk : k < xs.length) : (xs.take (k + 1)).any p = ((xs.take k).any p || p xs[k]) := by
  rw [List.take_succ_eq_append_getElem hk, List.any_append]; simp
theorem encWs_append (xs ys : List Wire) : encWs (xs ++ ys) = encWs xs ++ encWs ys := by simp [encWs]
theorem encWs_one (x : Wire) : encWs [x] = encW x := by simp [encWs]
theorem packTo_le (frm : Int) (l : List Wire) (to kind : Int) : (packTo frm l to kind).length ≤ 1 := by
  unfold packTo; split <;> simp
theorem packUp_le (frm : Int) (l : List Wire) : ∀ n, (packUp frm l n).length ≤ 2 * n
  | 0 => Nat.le_refl _
  | n + 1 => by
    have := packUp_le frm l n
    have := packTo_le frm l ((n : Int) + 1) 2
    have := packTo_le frm l ((n : Int) + 1) 1
    simp only [packUp, List.length_append]; omega
end Go.Lw
