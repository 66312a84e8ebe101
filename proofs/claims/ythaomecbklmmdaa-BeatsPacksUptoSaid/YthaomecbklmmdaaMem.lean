/-
  THE WALK ENGINE, part 2: memory as pieces: one piece that is shared and never written, a list of pieces that are owned, each apart from the others; what calls may do to them.
-/
import Derived.Test.YthaomecbklmmdaaBase
namespace Go.Lw
open Go.RowKit

abbrev Res := Nat → Option Obj

def Res.nil : Res := fun _ => none
def Res.one (b : Nat) (x : Obj) : Res := fun k => if k = b then some x else none
def Res.put (r : Res) (b : Nat) (x : Obj) : Res := fun k => if k = b then some x else r k
def Res.join (r q : Res) : Res := fun k => match r k with | some x => some x | none => q k
def Apart (r q : Res) : Prop := ∀ b, r b ≠ none → q b = none
def In (r : Res) (w : World) : Prop := ∀ b x, r b = some x → w.heap[b]? = some x
def Le (s s' : Res) : Prop := ∀ b x, s b = some x → s' b = some x

theorem Le.refl (s : Res) : Le s s := fun _ _ h => h
theorem Le.trans {a b c : Res} (h : Le a b) (k : Le b c) : Le a c := fun i x hx => k i x (h i x hx)
theorem In.le {r q : Res} {w : World} (h : In q w) (hl : Le r q) : In r w := fun b x hx => h b x (hl b x hx)
theorem In.lt {r : Res} {w : World} (h : In r w) {b : Nat} (hb : r b ≠ none) : b < w.heap.size := by
  cases hx : r b with
  | none => exact absurd hx hb
  | some x => exact (Array.getElem?_eq_some_iff.1 (h b x hx)).1
theorem Apart.symm {r q : Res} (h : Apart r q) : Apart q r := fun b hb => by
  cases hr : r b with
  | none => rfl
  | some x => exact absurd (h b (by rw [hr]; simp)) hb
theorem Apart.nil (q : Res) : Apart Res.nil q := fun _ h => absurd rfl h
theorem Apart.le {r r' q : Res} (h : Apart r q) (hl : Le r' r) : Apart r' q := fun b hb => h b (by
  cases hx : r' b with
  | none => exact absurd hx hb
  | some x => rw [hl b x hx]; simp)
theorem Apart.join {r r' q : Res} (h : Apart r q) (h' : Apart r' q) : Apart (r.join r') q := fun b hb => by
  cases hx : r b with
  | some x => exact h b (by rw [hx]; simp)
  | none => exact h' b (by simpa [Res.join, hx] using hb)
theorem Apart.put {r q : Res} (h : Apart r q) {b : Nat} (hb : r b ≠ none) (x : Obj) : Apart (r.put b x) q := fun k hk => by
  by_cases hkb : k = b
  · subst hkb; exact h k hb
  · exact h k (by simpa [Res.put, hkb] using hk)
theorem Res.le_join_left (r q : Res) : Le r (r.join q) := fun b x hx => by simp [Res.join, hx]
theorem Res.le_join_right {r q : Res} (h : Apart r q) : Le q (r.join q) := fun b x hx => by
  have : r b = none := h.symm b (by rw [hx]; simp)
  simp [Res.join, this, hx]

/-- The memory: s is shared, the pieces of os are owned; all apart. -/
def Good (w : World) (s : Res) : List Res → Prop
  | [] => In s w
  | r :: os => In r w ∧ Apart r s ∧ (∀ q ∈ os, Apart r q) ∧ Good w s os

section
variable {w w' : World} {s s' : Res} {r q : Res} {os os' : List Res}

theorem Good.sh (h : Good w s os) : In s w := by
  induction os with
  | nil => exact h
  | cons r os ih => exact ih h.2.2.2
theorem Good.mem (h : Good w s os) (hr : r ∈ os) : In r w := by
  induction os with
  | nil => cases hr
  | cons q os ih =>
    rcases List.mem_cons.1 hr with rfl | hr
    · exact h.1
    · exact ih h.2.2.2 hr
theorem Good.far (h : Good w s os) (hr : r ∈ os) : Apart r s := by
  induction os with
  | nil => cases hr
  | cons q os ih =>
    rcases List.mem_cons.1 hr with rfl | hr
    · exact h.2.1
    · exact ih h.2.2.2 hr
theorem Good.perm (hp : os.Perm os') (h : Good w s os) : Good w s os' := by
  induction hp with
  | nil => exact h
  | cons x hp ih => exact ⟨h.1, h.2.1, fun q hq => h.2.2.1 q (hp.symm.subset hq), ih h.2.2.2⟩
  | swap x y l =>
    obtain ⟨h1, h2, h3, h4, h5, h6, h7⟩ := h
    exact ⟨h4, h5, fun q hq => by
      rcases List.mem_cons.1 hq with rfl | hq
      · exact (h3 _ (by simp)).symm
      · exact h6 q hq, h1, h2, fun q hq => h3 q (by simp [hq]), h7⟩
  | trans _ _ ih1 ih2 => exact ih2 (ih1 h)
theorem perm_pick : ∀ (i : Nat) (os : List Res) (r : Res), os[i]? = some r → os.Perm (r :: os.eraseIdx i)
  | _, [], _, h => by simp at h
  | 0, x :: os, r, h => by simp at h; subst h; exact List.Perm.refl _
  | i + 1, x :: os, r, h => by
    have h' : os[i]? = some r := by simpa using h
    exact ((perm_pick i os r h').cons x).trans (List.Perm.swap r x _)
theorem perm_back : ∀ (i : Nat) (os : List Res) (r r' : Res), os[i]? = some r → (r' :: os.eraseIdx i).Perm (os.set i r')
  | _, [], _, _, h => by simp at h
  | 0, x :: os, r, r', h => by simp
  | i + 1, x :: os, r, r', h => by
    have h' : os[i]? = some r := by simpa using h
    exact (List.Perm.swap x r' _).trans ((perm_back i os r r' h').cons x)
/-- Number i comes to the front. -/
theorem Good.front (h : Good w s os) (i : Nat) (hi : os[i]? = some r) : Good w s (r :: os.eraseIdx i) := h.perm (perm_pick i os r hi)
theorem Good.back {r' : Res} (i : Nat) (hi : os[i]? = some r) (h : Good w s (r' :: os.eraseIdx i)) : Good w s (os.set i r') := h.perm (perm_back i os r r' hi)
theorem Good.drop (h : Good w s (r :: os)) : Good w s os := h.2.2.2
theorem Good.nil (h : Good w s os) : Good w s (Res.nil :: os) := ⟨(fun _ _ h => nomatch h), Apart.nil _, (fun _ _ => Apart.nil _), h⟩
/-- It hangs on the blocks alone. -/
theorem Good.keep (h : Good w s os) (hk : ∀ b, b < w.heap.size → w'.heap[b]? = w.heap[b]?) : Good w' s os := by
  have hin : ∀ q, In q w → In q w' := fun q hq b x hx => (hk b (hq.lt (by rw [hx]; simp))).trans (hq b x hx)
  induction os with
  | nil => exact hin s h
  | cons r os ih => exact ⟨hin r h.1, h.2.1, h.2.2.1, ih h.2.2.2⟩
theorem Good.drew (h : Good w s os) : Good w.drew s os := h.keep fun _ _ => rfl
theorem Good.same (h : Good w s os) (he : w'.heap = w.heap) : Good w' s os := h.keep fun _ _ => by rw [he]
theorem Good.lt_s (h : Good w s os) {b : Nat} {x : Obj} (hb : s b = some x) : b < w.heap.size := h.sh.lt (by rw [hb]; simp)
/-- A new block. -/
theorem Good.alloc (h : Good w s os) (x : Obj) : Good (w.alloc x) s (Res.one w.heap.size x :: os) := by
  have hfar : ∀ q, In q w → Apart (Res.one w.heap.size x) q := fun q hq b hb => by
    by_cases hbw : b = w.heap.size
    · subst hbw
      cases hqb : q w.heap.size with
      | none => rfl
      | some y => exact absurd (hq.lt (by rw [hqb]; simp)) (Nat.lt_irrefl _)
    · exact absurd (by simp [Res.one, hbw]) hb
  refine ⟨fun b y hy => ?_, hfar s h.sh, fun q hq => hfar q (h.mem hq), h.keep fun b hb => Below.heap_alloc w x b hb⟩
  by_cases hbw : b = w.heap.size
  · subst hbw
    simp only [Res.one, if_true] at hy
    cases hy
    exact heap_alloc_new w x
  · simp [Res.one, hbw] at hy
/-- An owned block is written. -/
theorem Good.write (h : Good w s (r :: os)) {b : Nat} {x y : Obj} (hb : r b = some x) (hy : w'.heap[b]? = some y) (hk : ∀ k, k < w.heap.size → k ≠ b → w'.heap[k]? = w.heap[k]?) : Good w' s (r.put b y :: os) := by
  obtain ⟨h1, h2, h3, h4⟩ := h
  have hne : r b ≠ none := by rw [hb]; simp
  have hin : ∀ q, In q w → q b = none → In q w' := fun q hq hqb k z hz => by
    have hkb : k ≠ b := fun e => by subst e; rw [hqb] at hz; cases hz
    exact (hk k (hq.lt (by rw [hz]; simp)) hkb).trans (hq k z hz)
  refine ⟨fun k z hz => ?_, h2.put hne y, fun q hq => (h3 q hq).put hne y, ?_⟩
  · by_cases hkb : k = b
    · subst hkb
      simp only [Res.put, if_true] at hz
      cases hz
      exact hy
    · simp only [Res.put, hkb, if_false] at hz
      exact (hk k (h1.lt (by rw [hz]; simp)) hkb).trans (h1 k z hz)
  · clear h1
    induction os with
    | nil => exact hin s h4 (h2 b hne)
    | cons q os ih => exact ⟨hin q h4.1 (h3 q (by simp) b hne), h4.2.1, h4.2.2.1, ih (fun p hp => h3 p (by simp [hp])) h4.2.2.2⟩
/-- What is owned is shared from now on. -/
theorem Good.share (h : Good w s (r :: os)) : Good w (s.join r) os := by
  obtain ⟨h1, h2, h3, h4⟩ := h
  induction os with
  | nil =>
    intro b x hx
    cases hs : s b with
    | some y => simp only [Res.join, hs] at hx; exact hx ▸ h4 b y hs
    | none => simp only [Res.join, hs] at hx; exact h1 b x hx
  | cons q os ih =>
    refine ⟨h4.1, (Apart.join h4.2.1.symm (h3 q (by simp))).symm, h4.2.2.1, ih (fun p hp => h3 p (by simp [hp])) h4.2.2.2⟩
/-- Two pieces become one. -/
theorem Good.join (h : Good w s (r :: q :: os)) : Good w s (r.join q :: os) := by
  obtain ⟨h1, h2, h3, h4, h5, h6, h7⟩ := h
  refine ⟨fun b x hx => ?_, Apart.join h2 h5, fun p hp => Apart.join (h3 p (by simp [hp])) (h6 p hp), h7⟩
  cases hr : r b with
  | some y => simp only [Res.join, hr] at hx; exact hx ▸ h1 b y hr
  | none => simp only [Res.join, hr] at hx; exact h4 b x hx
/-- What was lent as shared comes back. -/
theorem Good.unshare (h : Good w s os) (hl : Le r s) : Good w (fun b => match r b with | some _ => none | none => s b) (r :: os) := by
  refine ⟨h.sh.le hl, fun b hb => ?_, fun q hq => fun b hb => ?_, ?_⟩
  · cases hr : r b with
    | none => exact absurd hr hb
    | some x => simp only [hr]
  · cases hr : r b with
    | none => exact absurd hr hb
    | some x =>
      have := (h.far hq).symm b (by rw [hl b x hr]; simp)
      exact this
  · have hle : Le (fun b => match r b with | some _ => none | none => s b) s := fun b x hx => by
      cases hr : r b with
      | none => simpa [hr] using hx
      | some y => simp [hr] at hx
    clear hl
    induction os with
    | nil => exact In.le h hle
    | cons q os ih => exact ⟨h.1, (h.2.1.symm.le hle).symm, h.2.2.1, ih h.2.2.2⟩
end

/-- What a call leaves of the rest. -/
structure Aux (w w' : World) : Prop where
  os : w'.os = w.os
  tape : w'.tape = w.tape
  output : w'.output = w.output
  size : w.heap.size ≤ w'.heap.size
theorem Aux.refl (w : World) : Aux w w := ⟨rfl, rfl, rfl, Nat.le_refl _⟩
theorem Aux.trans {a b c : World} (h : Aux a b) (k : Aux b c) : Aux a c := ⟨k.os.trans h.os, k.tape.trans h.tape, k.output.trans h.output, Nat.le_trans h.size k.size⟩
theorem Aux.drew (w : World) : Aux w w.drew := ⟨rfl, rfl, rfl, Nat.le_refl _⟩
theorem Aux.alloc (w : World) (x : Obj) : Aux w (w.alloc x) := ⟨rfl, rfl, rfl, by simp⟩
theorem Aux.grown {w w' : World} {row : Option Nat} (h : w.grownBy w' row) : Aux w w' := ⟨h.os, h.tape, h.output, h.size⟩

/-- How a call ends: a value; more is shared; a piece of its own (or the one that it was handed, as it is now) ahead of the pieces that were not its. -/
def Post (w : World) (s : Res) (os : List Res) (Φ : Res → Res → Value → Prop) : Ending → World → Prop := fun e w' =>
  ∃ v s' A, e = .returned v ∧ Le s s' ∧ Good w' s' (A :: os) ∧ Aux w w' ∧ Φ s' A v

theorem Post.mk {w w' : World} {s s' A : Res} {os : List Res} {Φ : Res → Res → Value → Prop} {v : Value} (hl : Le s s') (hg : Good w' s' (A :: os)) (ha : Aux w w') (h : Φ s' A v) : Post w s os Φ (.returned v) w' :=
  ⟨v, s', A, rfl, hl, hg, ha, h⟩

/-! ### Cells in a piece -/

/-- At this address the piece holds these values. -/
def Holds (r : Res) (ad : Addr) (vs : List Value) : Prop :=
  ∃ cs el fr, r ad.block = some (.cells cs el fr) ∧ ad.spot = none ∧ ∀ j u, vs[j]? = some u → cs[ad.off + j]? = some u

theorem add_block (a : Addr) (n : Nat) : (a.add n).block = a.block := by unfold Addr.add; split <;> rfl
theorem add_off (a : Addr) (n : Nat) : (a.add n).off = a.off + n := by unfold Addr.add; split <;> simp_all
theorem add_spot {a : Addr} (h : a.spot = none) (n : Nat) : (a.add n).spot = none := by unfold Addr.add; split <;> simp_all
theorem add_add (a : Addr) (i j : Nat) : (a.add i).add j = a.add (i + j) := by
  unfold Addr.add
  by_cases hi : i = 0 <;> by_cases hj : j = 0 <;> simp [hi, hj, Nat.add_assoc]

section
variable {r r' : Res} {w : World} {ad : Addr} {vs us : List Value}
theorem Holds.le (h : Holds r ad vs) (hl : Le r r') : Holds r' ad vs :=
  let ⟨cs, el, fr, h1, h2, h3⟩ := h
  ⟨cs, el, fr, hl _ _ h1, h2, h3⟩
theorem Holds.cell (h : Holds r ad vs) (hin : In r w) {j : Nat} {u : Value} (hj : vs[j]? = some u) : w.cell? (ad.add j) = some u := by
  obtain ⟨cs, el, fr, h1, h2, h3⟩ := h
  simp [World.cell?, add_block, hin _ _ h1, add_spot h2, add_off, h3 j u hj]
theorem Holds.part (h : Holds r ad vs) (k : Nat) (hu : ∀ j u, us[j]? = some u → vs[k + j]? = some u) : Holds r (ad.add k) us := by
  obtain ⟨cs, el, fr, h1, h2, h3⟩ := h
  exact ⟨cs, el, fr, by rw [add_block]; exact h1, add_spot h2 k, fun j u hj => by rw [add_off, Nat.add_assoc]; exact h3 _ u (hu j u hj)⟩
theorem Holds.one (b : Nat) (cs : Array Value) (el : TypeId) : Holds (Res.one b (.cells cs el)) ⟨b, 0, none⟩ cs.toList :=
  ⟨cs, el, (0, 0), by simp [Res.one], rfl, fun j u hj => by simpa using hj⟩
end

/-! ### Slices -/
/-- A reading that stays when more is shared. -/
def Up {α : Type} (R : Res → List Value → α → Prop) : Prop := ∀ s s' vs x, Le s s' → R s vs x → R s' vs x
/-- A reading of cells none of which is a tuple or a struct. -/
def One {α : Type} (R : Res → List Value → α → Prop) : Prop := ∀ s vs x, R s vs x → ∀ v ∈ vs, v.oneCell' = true

section
variable {α : Type} (R : Res → List Value → α → Prop) (sz : Nat)

/-- These cells read as these elements, sz cells each. -/
def Chunks (s : Res) : List Value → List α → Prop
  | cs, [] => cs = []
  | cs, x :: xs => ∃ vs rest, cs = vs ++ rest ∧ vs.length = sz ∧ R s vs x ∧ Chunks s rest xs

/-- The elements lie there in the piece r, what they lead to in s. -/
def Row (r s : Res) (ad : Addr) (xs : List α) : Prop := ∃ cs, Holds r ad cs ∧ Chunks R sz s cs xs

/-- A slice that nobody writes: '.slice a xs.length c'. -/
def Imm (s : Res) (a : Option Addr) (c : Nat) (xs : List α) : Prop := xs.length ≤ c ∧ c ≤ maxLen ∧ (xs = [] ∨ ∃ ad, a = some ad ∧ Row R sz s s ad xs)

/-- A slice whose array is this piece's own. -/
def Own (el : TypeId) (s A : Res) (a : Option Addr) (c : Nat) (xs : List α) : Prop :=
  (a = none ∧ c = 0 ∧ xs = []) ∨
  ∃ g cs, a = some ⟨g, 0, none⟩ ∧ A g = some (.cells cs el (0, 0)) ∧ xs.length ≤ c ∧ c ≤ maxLen ∧ cs.size = c * sz ∧ Chunks R sz s (cs.toList.take (xs.length * sz)) xs
end

section
variable {α : Type} {R : Res → List Value → α → Prop} {sz : Nat} {r s s' A A' : Res} {ad : Addr} {a : Option Addr} {c : Nat} {xs ys : List α} {el : TypeId} {cs ds : List Value}

theorem Chunks.length (h : Chunks R sz s cs xs) : cs.length = xs.length * sz := by
  induction xs generalizing cs with
  | nil => rw [show cs = [] from h]; simp
  | cons x xs ih =>
    obtain ⟨vs, rest, rfl, hl, _, hr⟩ := h
    simp [hl, ih hr, Nat.add_mul, Nat.add_comm]
theorem Chunks.up (hR : Up R) (h : Chunks R sz s cs xs) (hl : Le s s') : Chunks R sz s' cs xs := by
  induction xs generalizing cs with
  | nil => exact h
  | cons x xs ih =>
    obtain ⟨vs, rest, e, hv, hx, hr⟩ := h
    exact ⟨vs, rest, e, hv, hR _ _ _ _ hl hx, ih hr⟩
theorem Chunks.append (h : Chunks R sz s cs xs) (k : Chunks R sz s ds ys) : Chunks R sz s (cs ++ ds) (xs ++ ys) := by
  induction xs generalizing cs with
  | nil => rw [show cs = [] from h]; exact k
  | cons x xs ih =>
    obtain ⟨vs, rest, rfl, hv, hx, hr⟩ := h
    exact ⟨vs, rest ++ ds, by simp, hv, hx, ih hr⟩
theorem Chunks.part (h : Chunks R sz s cs (xs ++ ys)) : Chunks R sz s (cs.take (xs.length * sz)) xs ∧ Chunks R sz s (cs.drop (xs.length * sz)) ys := by
  induction xs generalizing cs with
  | nil => simpa [Chunks] using h
  | cons x xs ih =>
    obtain ⟨vs, rest, rfl, hv, hx, hr⟩ := h
    obtain ⟨h1, h2⟩ := ih hr
    have e : (x :: xs).length * sz = vs.length + xs.length * sz := by rw [List.length_cons, Nat.add_mul, hv]; omega
    rw [e, List.take_length_add_append, List.drop_length_add_append]
    exact ⟨⟨vs, _, rfl, hv, hx, h1⟩, h2⟩
theorem Chunks.get (h : Chunks R sz s cs xs) {i : Nat} {x : α} (hi : xs[i]? = some x) : ∃ vs, vs.length = sz ∧ (∀ (j : Nat) u, vs[j]? = some u → cs[i * sz + j]? = some u) ∧ R s vs x := by
  induction xs generalizing cs i with
  | nil => simp at hi
  | cons y xs ih =>
    obtain ⟨vs, rest, rfl, hv, hx, hr⟩ := h
    cases i with
    | zero =>
      simp only [List.getElem?_cons_zero, Option.some.injEq] at hi
      subst hi
      exact ⟨vs, hv, fun j u hu => by
        have hj := (List.getElem?_eq_some_iff.1 hu).1
        rw [Nat.zero_mul, Nat.zero_add, List.getElem?_append_left hj]; exact hu, hx⟩
    | succ i =>
      obtain ⟨us, h1, h2, h3⟩ := ih hr (by simpa using hi)
      refine ⟨us, h1, fun j u hu => ?_, h3⟩
      rw [List.getElem?_append_right (by rw [hv, Nat.add_mul]; omega)]
      rw [← h2 j u hu]
      congr 1
      rw [hv, Nat.add_mul]; omega
theorem Chunks.one (hR : One R) (h : Chunks R sz s cs xs) : ∀ v ∈ cs, v.oneCell' = true := by
  induction xs generalizing cs with
  | nil => rw [show cs = [] from h]; simp
  | cons x xs ih =>
    obtain ⟨vs, rest, rfl, hv, hx, hr⟩ := h
    intro v hm
    rcases List.mem_append.1 hm with hm | hm
    · exact hR _ _ _ hx v hm
    · exact ih hr v hm
theorem Chunks.single {vs : List Value} {x : α} (hv : vs.length = sz) (hx : R s vs x) : Chunks R sz s vs [x] := ⟨vs, [], by simp, hv, hx, rfl⟩
theorem Chunks.set {vs : List Value} {x : α} (h : Chunks R sz s cs xs) {i : Nat} (hi : i < xs.length) (hv : vs.length = sz) (hx : R s vs x) :
    Chunks R sz s (cs.take (i * sz) ++ vs ++ cs.drop (i * sz + sz)) (xs.set i x) := by
  have e : xs = xs.take i ++ (xs[i] :: xs.drop (i + 1)) := by simp
  rw [e] at h
  obtain ⟨h1, h2⟩ := h.part
  obtain ⟨us, rest, h3, hu, _, hr⟩ := h2
  have hli : (xs.take i).length = i := by simp; omega
  rw [hli] at h1 h3
  have hrest : rest = cs.drop (i * sz + sz) := by
    rw [← List.drop_drop, h3, ← hu, List.drop_left]
  rw [← hrest, List.set_eq_take_append_cons_drop, if_pos hi, List.append_assoc]
  exact h1.append ⟨vs, rest, rfl, hv, hx, hr⟩

theorem Row.le (hR : Up R) (h : Row R sz r s ad xs) (hl : Le s s') : Row R sz r s' ad xs :=
  let ⟨cs, h1, h2⟩ := h
  ⟨cs, h1, h2.up hR hl⟩
theorem Row.mem {r' : Res} (h : Row R sz r s ad xs) (hl : Le r r') : Row R sz r' s ad xs :=
  let ⟨cs, h1, h2⟩ := h
  ⟨cs, h1.le hl, h2⟩
theorem Row.get (h : Row R sz r s ad xs) {i : Nat} {x : α} (hi : xs[i]? = some x) : ∃ vs, vs.length = sz ∧ Holds r (ad.add (i * sz)) vs ∧ R s vs x := by
  obtain ⟨cs, h1, h2⟩ := h
  obtain ⟨vs, h3, h4, h5⟩ := h2.get hi
  exact ⟨vs, h3, h1.part _ h4, h5⟩
theorem Row.drop (h : Row R sz r s ad (xs ++ ys)) : Row R sz r s (ad.add (xs.length * sz)) ys := by
  obtain ⟨cs, h1, h2⟩ := h
  refine ⟨_, h1.part _ (fun j u hu => ?_), h2.part.2⟩
  rwa [List.getElem?_drop] at hu
theorem Row.take (h : Row R sz r s ad (xs ++ ys)) : Row R sz r s ad xs := by
  obtain ⟨cs, h1, h2⟩ := h
  have h3 : Holds r (ad.add 0) (cs.take (xs.length * sz)) := h1.part 0 (fun j u hu => by
    rw [List.getElem?_take] at hu
    split at hu
    · rwa [Nat.zero_add]
    · cases hu)
  exact ⟨_, by simpa [Addr.add] using h3, h2.part.1⟩
theorem Imm.up (hR : Up R) (h : Imm R sz s a c xs) (hl : Le s s') : Imm R sz s' a c xs :=
  ⟨h.1, h.2.1, h.2.2.imp id fun ⟨ad, e, hr⟩ => ⟨ad, e, (hr.le hR hl).mem hl⟩⟩
theorem Imm.nil (s : Res) (a : Option Addr) (c : Nat) (hc : c ≤ maxLen) : Imm R sz s a c [] := ⟨by simp, hc, .inl rfl⟩
theorem Imm.le_max (h : Imm R sz s a c xs) : xs.length ≤ maxLen := Nat.le_trans h.1 h.2.1
theorem Own.le_max (h : Own R sz el s A a c xs) : xs.length ≤ maxLen := by
  rcases h with ⟨rfl, rfl, rfl⟩ | ⟨g, cs, rfl, hg, hl, hc, hcs, hr⟩
  · simp
  · exact Nat.le_trans hl hc
theorem Own.up (hR : Up R) (h : Own R sz el s A a c xs) (hl : Le s s') : Own R sz el s' A a c xs :=
  h.imp id fun ⟨g, cs, h1, h2, h3, h4, h5, h6⟩ => ⟨g, cs, h1, h2, h3, h4, h5, h6.up hR hl⟩
theorem Own.mem (h : Own R sz el s A a c xs) (hl : Le A A') : Own R sz el s A' a c xs :=
  h.imp id fun ⟨g, cs, h1, h2, h3, h4, h5, h6⟩ => ⟨g, cs, h1, hl _ _ h2, h3, h4, h5, h6⟩
theorem Own.nil (R : Res → List Value → α → Prop) (sz : Nat) (el : TypeId) (s A : Res) : Own R sz el s A none 0 [] := .inl ⟨rfl, rfl, rfl⟩
theorem Own.row (h : Own R sz el s A a c xs) : xs = [] ∨ ∃ ad, a = some ad ∧ Row R sz A s ad xs := by
  rcases h with ⟨rfl, rfl, rfl⟩ | ⟨g, cs, rfl, hg, hl, hc, hcs, hr⟩
  · exact .inl rfl
  · refine .inr ⟨_, rfl, _, ⟨cs, el, (0, 0), hg, rfl, fun j u hu => ?_⟩, hr⟩
    rw [List.getElem?_take] at hu
    split at hu
    · simpa using hu
    · cases hu
/-- Its array is no block of another element type. -/
theorem Own.far (h : Own R sz el s A a c xs) {p : Nat} {ps : Array Value} {el' : TypeId} {fr : Nat × Nat} (hp : A p = some (.cells ps el' fr)) (hne : el ≠ el') : ∀ ad, a = some ad → ad.block ≠ p := by
  rintro ad rfl rfl
  rcases h with ⟨h, _⟩ | ⟨g, cs, h, hg, _⟩
  · cases h
  · cases h
    rw [hg] at hp
    injection hp with hp
    injection hp with _ h2
    exact hne h2
theorem Own.put (h : Own R sz el s A a c xs) {p : Nat} (hp : ∀ ad, a = some ad → ad.block ≠ p) (x : Obj) : Own R sz el s (A.put p x) a c xs := by
  rcases h with h | ⟨g, cs, rfl, hg, h⟩
  · exact .inl h
  · have : g ≠ p := hp _ rfl
    exact .inr ⟨g, cs, rfl, by simp [Res.put, this, hg], h⟩
theorem put_other (r : Res) {b k : Nat} (x : Obj) (h : k ≠ b) : r.put b x k = r k := by simp [Res.put, h]

/-- It is let go: shared from now on. -/
theorem Own.imm (hR : Up R) (h : Own R sz el s A a c xs) (h1 : Le s s') (h2 : Le A s') : Imm R sz s' a c xs := by
  have hrow := h.row
  rcases h with ⟨rfl, rfl, rfl⟩ | ⟨g, cs, rfl, hg, hl, hc, hcs, hr⟩
  · exact Imm.nil s' none 0 (Nat.zero_le _)
  · exact ⟨hl, hc, hrow.imp id fun ⟨ad, e, hx⟩ => ⟨ad, e, (hx.le hR h1).mem h2⟩⟩
end

/-! ### Readings of one cell -/
/-- The range of a kind, in numerals. -/
def rng : IntKind → Int → Prop
  | .i8, n => -128 ≤ n ∧ n < 128
  | .i16, n => -32768 ≤ n ∧ n < 32768
  | .i32, n => -2147483648 ≤ n ∧ n < 2147483648
  | .i64, n => -9223372036854775808 ≤ n ∧ n < 9223372036854775808
  | .u8, n => 0 ≤ n ∧ n < 256
  | .u16, n => 0 ≤ n ∧ n < 65536
  | .u32, n => 0 ≤ n ∧ n < 4294967296
  | .u64, n => 0 ≤ n ∧ n < 18446744073709551616

theorem rng.wrap {k : IntKind} {n : Int} (h : rng k n) : k.wrap n = n := by
  cases k <;> simp only [rng] at h
  · exact IntWalk.i8_in n (by omega)
  · exact IntWalk.i16_in n (by omega)
  · exact IntWalk.i32_in n (by omega)
  · exact IntWalk.i64_in n (by omega)
  · exact IntWalk.u8_in n (by omega)
  · exact IntWalk.u16_in n (by omega)
  · exact IntWalk.u32_in n (by omega)
  · exact IntWalk.u64_in n (by omega)

theorem rng_wrap (k : IntKind) (n : Int) : rng k (k.wrap n) := by
  cases k <;> simp only [rng, IntKind.wrap, IntKind.bits, IntKind.signed] <;> simp <;> (try split) <;> omega

/-- An integer. -/
def RInt (k : IntKind) : Res → List Value → Int → Prop := fun _ vs x => vs = [.int k x] ∧ rng k x
/-- A bool. -/
def RBool : Res → List Value → Bool → Prop := fun _ vs x => vs = [.bool x]
/-- A string. -/
def RStr : Res → List Value → ByteArray → Prop := fun _ vs x => vs = [.string x] ∧ x.size ≤ maxLen
theorem RInt.one (k : IntKind) : One (RInt k) := fun _ vs x h v hv => by rw [h.1] at hv; simp at hv; subst hv; rfl
theorem RBool.one : One RBool := fun _ vs x h v hv => by rw [show vs = [.bool x] from h] at hv; simp at hv; subst hv; rfl
theorem RStr.one : One RStr := fun _ vs x h v hv => by rw [h.1] at hv; simp at hv; subst hv; rfl
theorem RInt.up (k : IntKind) : Up (RInt k) := fun _ _ _ _ _ h => h
theorem RBool.up : Up RBool := fun _ _ _ _ _ h => h
theorem RStr.up : Up RStr := fun _ _ _ _ _ h => h
/-- A slice in a cell. -/
def RSl {α : Type} (R : Res → List Value → α → Prop) (sz : Nat) : Res → List Value → List α → Prop := fun s vs xs => ∃ a c, vs = [.slice a xs.length c] ∧ Imm R sz s a c xs
theorem RSl.up {α : Type} {R : Res → List Value → α → Prop} (hR : Up R) (sz : Nat) : Up (RSl R sz) := fun _ _ _ _ hl ⟨a, c, h1, h2⟩ => ⟨a, c, h1, h2.up hR hl⟩

end Go.Lw
