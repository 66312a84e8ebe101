/-
  THE WALK ENGINE, part 14: pieces: order, dropping, sharing; sources of append.
-/
import Derived.Test.YthaomecbklmmdaaRules9
namespace Go.Lw
theorem Good.has {w : World} {s r : Res} {os : List Res} (h : Good w s os) (hr : r = s ∨ r ∈ os) : In r w := by
  rcases hr with rfl | hr
  · exact h.sh
  · exact h.mem hr
theorem Src.row {P : Program} {w : World} {α : Type} {R : Res → List Value → α → Prop} {t e : TypeId} {sz by_ : Nat} {a : Option Addr} {c : Nat} {ys : List α} {r s : Res} (ht : slc P t = some (e, sz, by_)) (h : ys = [] ∨ ∃ ad, a = some ad ∧ Row R sz r s ad ys) (hin : In r w) :
    ∃ news, Src P w t sz (.slice a ys.length c) ys.length news ∧ Chunks R sz s news ys := by
  rcases h with rfl | ⟨ad, rfl, cs, hh, hc⟩
  · exact ⟨[], .slice ht (by simp) (.inl rfl) hin, rfl⟩
  · exact ⟨cs, .slice ht hc.length (.inr ⟨ad, rfl, hh⟩) hin, hc⟩
theorem Good.dropNext {w : World} {s A B : Res} {os : List Res} (h : Good w s (A :: B :: os)) : Good w s (A :: os) :=
  (h.perm (List.Perm.swap _ _ _)).drop
theorem Good.swap {w : World} {s A B : Res} {os : List Res} (h : Good w s (A :: B :: os)) : Good w s (B :: A :: os) := h.perm (List.Perm.swap _ _ _)
theorem Good.shareNext {w : World} {s A B : Res} {os : List Res} (h : Good w s (A :: B :: os)) : ∃ s1, Good w s1 (A :: os) ∧ Le s s1 ∧ Le B s1 := by
  have h2 : Good w s (B :: A :: os) := h.perm (List.Perm.swap _ _ _)
  exact h2.letgo
theorem int_chunks {k : IntKind} {s : Res} : ∀ {cs : List Value} {xs : List Int}, Chunks (RInt k) 1 s cs xs → cs = xs.map (Value.int k) ∧ ∀ x ∈ xs, Lw.rng k x
  | _, [], h => ⟨h, by simp⟩
  | _, x :: xs, ⟨vs, rest, e, _, ⟨hv, hr⟩, h⟩ => by
    obtain ⟨h1, h2⟩ := int_chunks h
    subst e; subst hv
    exact ⟨by simp [h1], by simpa using ⟨hr, h2⟩⟩
theorem chunks_int {k : IntKind} {s : Res} : ∀ {xs : List Int}, (∀ x ∈ xs, Lw.rng k x) → Chunks (RInt k) 1 s (xs.map (Value.int k)) xs
  | [], _ => rfl
  | x :: xs, h => ⟨[.int k x], xs.map (Value.int k), rfl, rfl, ⟨rfl, h x (by simp)⟩, chunks_int fun y hy => h y (by simp [hy])⟩
abbrev ptr (b : Nat) : Value := .pointer (some ⟨b, 0, none⟩)
abbrev i64 (k : Int) : Value := .int .i64 k
theorem Imm.front {α : Type} {R : Res → List Value → α → Prop} {sz c : Nat} {s : Res} {a : Option Addr} {xs ys : List α} (h : Imm R sz s a c (xs ++ ys)) : Imm R sz s a c xs := by
  refine ⟨by have := h.1; simp only [List.length_append] at this; omega, h.2.1, ?_⟩
  rcases h.2.2 with e | ⟨ad, rfl, hr⟩
  · exact .inl (List.append_eq_nil_iff.1 e).1
  · exact .inr ⟨ad, rfl, hr.take⟩
/-- A new empty row of one's own. -/
theorem Own.fresh {α : Type} {R : Res → List Value → α → Prop} {sz : Nat} {el : TypeId} {s : Res} {b : Nat} : Own R sz el s (Res.one b (.cells #[] el)) (some ⟨b, 0, none⟩) 0 [] := .inr ⟨b, #[], rfl, if_pos rfl, Nat.le_refl _, Nat.zero_le _, by simp, by simp [Chunks]⟩
/-- A piece is lent: read as shared, then one's own again. -/
theorem Good.lend {w : World} {s A : Res} {os : List Res} (h : Good w s (A :: os)) : Good w (s.join A) os ∧ Le s (s.join A) ∧ Le A (s.join A) ∧ ∀ w', Good w' (s.join A) os → Good w' s (A :: os) := by
  have hle := Res.le_join_right h.2.1.symm
  refine ⟨h.share, Res.le_join_left _ _, hle, fun w' hg => ?_⟩
  refine (congrArg (fun z => Good w' z (A :: os)) (funext fun b => ?_)).mp (hg.unshare hle)
  cases hA : A b with
  | some x => exact (h.2.1 b (by rw [hA]; simp)).symm
  | none =>
    simp only [Res.join, hA]
    cases s b <;> rfl
end Go.Lw
