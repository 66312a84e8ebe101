/-
  A LAW'S FRAME: what the row's reading of an argument gives the walk; how the walk's end gives the row's end. Over any program.
-/
import Derived.Test.YthaomecbklmmdaaRules5
import Derived.ProofKit
import Derived.OpenShut
import Derived.Carry
namespace Go.Lw
open Go.ChangeShapes Go.WideShapes Go.ChangeAt Go.RowKit

/-- All that there is. -/
def all (W : World) : Res := fun b => W.heap[b]?
theorem all_good (W : World) : Good W (all W) [] := fun _ _ h => h

/-- How many values and letters a reading holds (as the seats' 'uptoBulk'). -/
def Opens {α H : Type} (bulk : DataW H → Nat) (enc : TypeId × Value → H) (P : Program) (W : World) (t : TypeId) (R : Res → List Value → α → Prop) (bk : α → Nat) : Prop :=
  ∀ (fuel : Nat) (cs : List Value) (d : DataW H) (ps : List MemPlace), DataW.trod enc P W 0 (fun _ => true) true fuel t cs = some (d, ps) → ∃ x : α, R (all W) cs x ∧ bk x ≤ bulk d

section
variable {α β H : Type} {bulk : DataW H → Nat} {enc : TypeId × Value → H} {P : Program} {W : World} {t e : TypeId} {R : Res → List Value → α → Prop} {bk : α → Nat}

theorem Opens.imp {R' : Res → List Value → β → Prop} {bk' : β → Nat} (h : Opens bulk enc P W t R bk) (g : α → β) (hR : ∀ s vs x, R s vs x → R' s vs (g x)) (hb : ∀ x, bk' (g x) ≤ bk x) : Opens bulk enc P W t R' bk' := fun fuel cs d ps hd => by
  obtain ⟨x, h1, h2⟩ := h fuel cs d ps hd
  exact ⟨g x, hR _ _ _ h1, Nat.le_trans (hb x) h2⟩

theorem wf_rng {k : IntKind} {n : Int} (h : (Lit.int k n).wf = true) : rng k n := by
  simp only [Lit.wf] at h
  cases k <;> simp only [IntKind.signed, IntKind.bits, IntKind.min, IntKind.max] at h <;> simp only [rng] <;> simp at h <;> omega
theorem opens_int {k : IntKind} (ht : P.underlying t = some (.int k)) : Opens bulk enc P W t (RInt k) (fun _ => 0) := fun fuel cs d ps hd => by
  obtain ⟨n, rfl, _, hw⟩ := DataW.trod_int ht hd
  exact ⟨n, ⟨rfl, wf_rng hw⟩, Nat.zero_le _⟩
theorem opens_bool (ht : P.underlying t = some .bool) : Opens bulk enc P W t RBool (fun _ => 0) := fun fuel cs d ps hd => by
  obtain ⟨b, rfl, _⟩ := DataW.trod_bool ht hd
  exact ⟨b, rfl, Nat.zero_le _⟩
theorem opens_str (ht : P.underlying t = some .string) (hb : ∀ b : List UInt8, b.length ≤ bulk (.lit (.string b))) : Opens bulk enc P W t RStr (fun b => b.size) := fun fuel cs d ps hd => by
  obtain ⟨s, rfl, hx, hl⟩ := DataW.trod_string ht hd
  simp only [Prod.mk.injEq] at hx
  refine ⟨s, ⟨rfl, hl⟩, ?_⟩
  rw [hx.1]
  have := hb s.data.toList
  rw [Array.length_toList] at this
  exact this

theorem cells_holds {a : Addr} {n : Nat} {cs : List Value} (h : W.cells? 0 a n = some cs) : cs.length = n ∧ ∀ j u, cs[j]? = some u → W.cell? (a.add j) = some u := by
  simp only [World.cells?, Nat.zero_le, if_true] at h
  have key : ∀ (n k : Nat) (cs : List Value), (List.range' k n).mapM (fun i => W.cell? (a.add i)) = some cs → cs.length = n ∧ ∀ j u, cs[j]? = some u → W.cell? (a.add (k + j)) = some u := by
    intro n
    induction n with
    | zero => intro k cs h; simp at h; subst h; simp
    | succ n ih =>
      intro k cs h
      rw [List.range'_succ, List.mapM_cons] at h
      cases hc : W.cell? (a.add k) with
      | none => simp [hc] at h
      | some u =>
        cases hr : (List.range' (k + 1) n).mapM (fun i => W.cell? (a.add i)) with
        | none => simp [hc, hr] at h
        | some us =>
          simp [hc, hr] at h
          subst h
          obtain ⟨h1, h2⟩ := ih (k + 1) us hr
          refine ⟨by simp [h1], fun j v hj => ?_⟩
          cases j with
          | zero => simp at hj; subst hj; simpa using hc
          | succ j =>
            have := h2 j v (by simpa using hj)
            rwa [show k + (j + 1) = k + 1 + j by omega]
  have := key n 0 cs (by rw [← List.range_eq_range']; exact h)
  simpa using this
theorem cell_block {a : Addr} {u : Value} (h : W.cell? a = some u) : ∃ cs el fr, W.heap[a.block]? = some (.cells cs el fr) ∧ a.spot = none ∧ cs[a.off]? = some u := by
  simp only [World.cell?] at h
  split at h
  · rename_i cs el fr hh
    split at h
    · cases h
    · rename_i hs
      exact ⟨cs, el, fr, hh, by simpa using hs, h⟩
  · cases h

/-- A slice, its elements opened. -/
theorem opens_slice (ht : P.underlying t = some (.slice e)) {sz : Nat} (hsz : P.cellsOf e = sz) (h0 : 0 < sz) (hel : Opens bulk enc P W e R bk)
    (hb : ∀ l r, (l.map bulk).sum ≤ bulk (.slice l r)) (hb1 : ∀ l r : List (DataW H), l.length ≤ bulk (.slice l r)) :
    Opens bulk enc P W t (RSl R sz) (fun xs => max xs.length ((xs.map bk).sum)) := fun fuel cs d ps hd => by
  rcases DataW.trod_slice ht hd with ⟨rfl, hx⟩ | ⟨a, len, cap, elems, rest, n, _, rfl, hx, _, hl, hm, hlen, hall, _, _⟩
  · exact ⟨[], ⟨none, 0, rfl, Imm.nil _ _ _ (Nat.zero_le _)⟩, by simp⟩
  · simp only [Prod.mk.injEq] at hx
    rw [hsz] at hall
    -- element by element
    have key : ∀ m, m ≤ len → ∃ (xs : List α) (vs : List Value), xs.length = m ∧ Chunks R sz (all W) vs xs ∧ (∀ j u, vs[j]? = some u → W.cell? (a.add j) = some u) ∧ (xs.map bk).sum ≤ ((elems.take m).map fun y => bulk y.1).sum := by
      intro m
      induction m with
      | zero => intro _; exact ⟨[], [], rfl, rfl, by simp, by simp⟩
      | succ m ih =>
        intro hm'
        obtain ⟨xs, vs, h1, h2, h3, h4⟩ := ih (by omega)
        have he := hall m (by omega)
        have hme : m < elems.length := by omega
        rw [List.getElem?_eq_getElem hme] at he
        obtain ⟨cs', hc1, hc2⟩ := Option.bind_eq_some_iff.1 he
        obtain ⟨hcl, hcc⟩ := cells_holds hc1
        obtain ⟨x, hR, hbx⟩ := hel n cs' elems[m].1 elems[m].2 hc2
        have hvl := h2.length
        refine ⟨xs ++ [x], vs ++ cs', by simp [h1], h2.append (Chunks.single hcl hR), fun j u hj => ?_, ?_⟩
        · by_cases hj' : j < vs.length
          · exact h3 j u (by rwa [List.getElem?_append_left hj'] at hj)
          · rw [List.getElem?_append_right (by omega)] at hj
            have := hcc _ u hj
            rw [add_add] at this
            rwa [show m * sz + (j - vs.length) = j by rw [hvl, h1] at *; omega] at this
        · rw [List.take_succ_eq_append_getElem hme]
          simp only [List.map_append, List.sum_append, List.map_cons, List.map_nil, List.sum_cons, List.sum_nil]
          omega
    obtain ⟨xs, vs, h1, h2, h3, h4⟩ := key len (Nat.le_refl _)
    refine ⟨xs, ⟨some a, cap, by rw [h1], by rw [h1]; exact hl, hm, ?_⟩, ?_⟩
    · cases xs with
      | nil => exact .inl rfl
      | cons x xs =>
        refine .inr ⟨a, rfl, vs, ?_, h2⟩
        have hvl := h2.length
        have hpos : 0 < vs.length := by rw [hvl]; simp only [List.length_cons]; exact Nat.mul_pos (by omega) h0
        have hc0 := h3 0 vs[0] (by simp [hpos])
        have hz : a.add 0 = a := by unfold Addr.add; simp
        rw [hz] at hc0
        obtain ⟨cb, el, fr, hb', hsp, _⟩ := cell_block hc0
        refine ⟨cb, el, fr, hb', hsp, fun j u hj => ?_⟩
        obtain ⟨cb', el', fr', hb'', _, hcu⟩ := cell_block (h3 j u hj)
        rw [add_block, hb'] at hb''
        cases hb''
        rwa [add_off] at hcu
    · rw [hx.1]
      have hb' := hb (elems.map (·.1)) (rest.map (·.1))
      have hb1' := hb1 (elems.map (·.1)) (rest.map (·.1))
      rw [List.take_of_length_le (by omega)] at h4
      simp only [List.map_map, List.length_map] at hb' hb1'
      have e1 : (elems.map (bulk ∘ fun y => y.1)).sum = (elems.map fun y => bulk y.1).sum := rfl
      rw [e1] at hb'
      show max xs.length ((xs.map bk).sum) ≤ _
      omega

/-! ### structs -/
def RNil : Res → List Value → Unit → Prop := fun _ vs _ => vs = []
def RCons (k : Nat) (R : Res → List Value → α → Prop) (Q : Res → List Value → β → Prop) : Res → List Value → α × β → Prop := fun s vs x =>
  ∃ us rest, vs = us ++ rest ∧ us.length = k ∧ R s us x.1 ∧ Q s rest x.2
/-- The fields from number i on, from cell off on. -/
def OpensF (bulk : DataW H → Nat) (enc : TypeId × Value → H) (P : Program) (W : World) (fs : List Field) (off : Nat) (R : Res → List Value → α → Prop) (bk : α → Nat) : Prop :=
  ∀ (fuel : Nat) (cs : List Value) (xs : List (DataW H × List MemPlace)), xs.length = fs.length →
    (∀ (i : Nat) (f : Field), fs[i]? = some f → DataW.trod enc P W 0 (fun _ => true) true fuel f.type ((cs.drop f.offset).take (P.cellsOf f.type)) = xs[i]?) → cs.length = off + (fs.map fun f => P.cellsOf f.type).sum →
    ∃ x : α, R (all W) (cs.drop off) x ∧ bk x ≤ (xs.map fun y => bulk y.1).sum
theorem opens_nil (off : Nat) : OpensF bulk enc P W [] off RNil (fun _ => 0) := fun fuel cs xs hl _ hc => by
  refine ⟨(), ?_, Nat.zero_le _⟩
  simp only [List.map_nil, List.sum_nil, Nat.add_zero] at hc
  exact List.drop_eq_nil_of_le (by omega)
theorem opens_cons {f : Field} {fs : List Field} {off k : Nat} {Q : Res → List Value → β → Prop} {bq : β → Nat} (ho : f.offset = off) (hk : P.cellsOf f.type = k) (hf : Opens bulk enc P W f.type R bk) (hr : OpensF bulk enc P W fs (off + k) Q bq) :
    OpensF bulk enc P W (f :: fs) off (RCons k R Q) (fun x => bk x.1 + bq x.2) := fun fuel cs xs hl h hc => by
  cases xs with
  | nil => simp at hl
  | cons y ys =>
    have h0 := h 0 f rfl
    simp only [List.map_cons, List.sum_cons, hk] at hc
    rw [ho, hk] at h0
    obtain ⟨x, hx, hb⟩ := hf fuel _ y.1 y.2 (by simpa using h0)
    obtain ⟨z, hz, hb'⟩ := hr fuel cs ys (by simpa using hl) (fun i g hg => by simpa using h (i + 1) g (by simpa using hg)) (by omega)
    refine ⟨(x, z), ⟨(cs.drop off).take k, cs.drop (off + k), ?_, ?_, hx, hz⟩, ?_⟩
    · rw [← List.drop_drop, List.take_append_drop]
    · simp only [List.length_take, List.length_drop]; omega
    · simp only [List.map_cons, List.sum_cons]; omega
theorem opens_struct {fs : Array Field} (ht : P.underlying t = some (.struct fs)) (hs : P.cellsOf t = (fs.toList.map fun f => P.cellsOf f.type).sum) (h : OpensF bulk enc P W fs.toList 0 R bk)
    (hb : ∀ l, (l.map bulk).sum ≤ bulk (.agg l)) : Opens bulk enc P W t R bk := fun fuel cs d ps hd => by
  obtain ⟨xs, n, _, hx, hcl, hxl, hall⟩ := DataW.trod_struct ht hd
  simp only [Prod.mk.injEq] at hx
  obtain ⟨x, h1, h2⟩ := h n cs xs (by simpa using hxl) (fun i f hi => hall i f (by simpa using hi)) (by rw [hcl, hs]; omega)
  refine ⟨x, by simpa using h1, Nat.le_trans h2 ?_⟩
  rw [hx.1]
  have := hb (xs.map (·.1))
  simpa [List.map_map, Function.comp_def] using this
end

/-! ### the end -/
theorem below_of {W W' : World} {s' : Res} {os : List Res} (hg : Good W' s' os) (hl : Le (all W) s') (ha : Aux W W') : Below W.heap.size W W' :=
  ⟨ha.os, ha.tape, ha.output, ha.size, fun k hk => by
    have h1 : W.heap[k]? = some W.heap[k] := by simp [hk]
    rw [h1]
    exact hg.sh k _ (hl k _ h1)⟩

theorem trodAll_stays {H : Type} {enc : TypeId × Value → H} {P : Program} (hl : laidOutB P = true) {W W' : World} (hb : Below W.heap.size W W') : ∀ {ts : List TypeId} {vs : List Value} {ds : List (DataW H)} {ps : List MemPlace},
    (ts.all fun t => P.readableRec t && decide (t < P.types.size)) = true → DataW.TrodAll enc P W 0 (fun _ => true) true ts vs ds ps → (∀ x ∈ ps, x.block < W.heap.size) →
    DataW.TrodAll enc P W' 0 (fun b => decide (b < W.heap.size)) true ts vs ds ps
  | [], [], [], ps, _, h, _ => h
  | t :: ts, v :: vs, d :: ds, ps, ht, h, hlt => by
    obtain ⟨p, q, h1, h2, rfl⟩ := h
    simp only [List.all_cons, Bool.and_eq_true, decide_eq_true_eq] at ht
    refine ⟨p, q, Below.trod hl ht.1.1 ht.1.2 h1 hb (fun x hx => hlt x (by simp [hx])), trodAll_stays hl hb ?_ h2 (fun x hx => hlt x (by simp [hx])), rfl⟩
    exact ht.2
  | [], _ :: _, _, _, _, h, _ => h.elim
  | [], [], _ :: _, _, _, h, _ => h.elim
  | _ :: _, [], _, _, _, h, _ => h.elim
  | _ :: _, _ :: _, [], _, _, h, _ => h.elim

/-- A law's end: it hands back true, and what was there is there. -/
theorem law_end {H : Type} {enc : TypeId × Value → H} {P : Program} {f : FuncId} {fn : Func} {spec : ChangeSpec} {W : World} {args : Array Value} {ds gs : List (DataW H)} {before : List MemPlace} {tb : TypeId}
    (hl : laidOutB P = true) (hp : (fn.params.toList.all fun t => P.readableRec t && decide (t < P.types.size)) = true) (hv : spec.vars = []) (hr : fn.resultTypes = #[tb]) (hb : P.underlying tb = some .bool)
    (hW : DataW.Whole enc P fn.params.toList spec.vars false W args.toList ds gs before) (hs : (spec.fn H (ds ++ gs)).results = [.lit (.bool true)] ∧ (spec.fn H (ds ++ gs)).args = ds ∧ (spec.fn H (ds ++ gs)).vars = [])
    (hc : Calls P f args W (Post W (all W) [] fun _ _ r => r = .bool true)) :
    Calls P f args W fun e W' => ∃ v, e = .returned v ∧ spec.post enc P fn false true false false W args v W' := by
  refine hc.mono fun e W' ⟨v, s', A, he, hle, hg, ha, hv'⟩ => ⟨v, he, ?_⟩
  have hbl := below_of hg hle ha
  have hlt := hW.lt
  have hW' := hW
  obtain ⟨p, q, hA, hV, rfl, _, _⟩ := hW
  obtain ⟨s1, s2, s3⟩ := hs
  subst hv'
  refine ⟨ds, gs, p ++ q, [], p, [], hW', ?_, ?_, ?_, hbl.frame _, fun h => by cases h⟩
  · rw [s1, hr]
    exact trodAll_mk1 (shut_bool hb _)
  · rw [s2]
    exact trodAll_stays hl hbl hp hA (fun x hx => hlt x (by simp [hx]))
  · rw [s3, hv]
    rfl
end Go.Lw
