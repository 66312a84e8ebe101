/-
  THE WALK ENGINE, part 3: the operations, one law each.
-/
import Derived.Test.YthaomecbklmmdaaMem
namespace Go.Lw
open Go.RowKit

/-! ### Closed facts on types, one kernel reckoning each -/
/-- (is it a struct or an array?, its cells) -/
def tyc (P : Program) (t : TypeId) : Option (Bool × Nat) :=
  match P.underlying t, P.info? t with
  | some d, some i => some (match d with | .struct _ | .array _ _ => true | _ => false, i.size)
  | _, _ => none
/-- a field's (offset, cells) -/
def fld (P : Program) (s : TypeId) (k : Nat) : Option (Nat × Nat) :=
  match P.underlying s with
  | some (.struct fs) =>
    match fs[k]? with
    | some f => (P.info? f.type).map fun i => (f.offset, i.size)
    | none => none
  | _ => none
/-- a slice's (element, its cells, its bytes) -/
def slc (P : Program) (t : TypeId) : Option (TypeId × Nat × Nat) :=
  match P.underlying t with
  | some (.slice e) => (P.info? e).map fun i => (e, i.size, i.bytes)
  | _ => none
/-- an array's (length, element, its cells) -/
def arr (P : Program) (t : TypeId) : Option (Nat × TypeId × Nat) :=
  match P.underlying t with
  | some (.array n e) => (P.info? e).map fun i => (n, e, i.size)
  | _ => none
/-- the zero value's cells -/
def zer (P : Program) (t : TypeId) : Option (List Value) := ((P.info? t).bind (·.zero)).map (·.cells.toList)
/-- may function f be entered? -/
def callable (P : Program) (f : FuncId) : Bool :=
  match P.funcs[f]? with
  | some fn => fn.body.isSome && !(fn.name == "runtime.NumGoroutine")
  | none => false

section
variable {P : Program} {w : World} {t s e : TypeId} {b : Bool} {k n : Nat}
theorem tyc_agg (h : tyc P t = some (b, k)) : (isAgg t).run P w = .ok b w ∧ (sizeOf t).run P w = .ok k w := by
  unfold tyc at h
  split at h
  · rename_i d i hd hi
    simp only [Option.some.injEq, Prod.mk.injEq] at h
    obtain ⟨h1, h2⟩ := h
    constructor
    · simp only [isAgg, Sem.run_bind, run_underlying hd, Result.andThen_ok]
      rw [← h1]
      cases d <;> simp
    · simp [sizeOf, typeInfo, hi, h2]
  · cases h
theorem slc_spec {m : Nat} (h : slc P t = some (e, k, m)) : P.underlying t = some (.slice e) ∧ ∃ i, P.info? e = some i ∧ i.size = k ∧ i.bytes = m := by
  unfold slc at h
  split at h
  · rename_i e' he
    cases hi : P.info? e' with
    | none => simp [hi] at h
    | some i =>
      simp only [hi, Option.map_some, Option.some.injEq, Prod.mk.injEq] at h
      obtain ⟨rfl, h2, h3⟩ := h
      exact ⟨he, i, hi, h2, h3⟩
  · cases h
end

section
variable {P : Program} {n : Nat} {E : Env} {w w' : World} {o : Oper} {v : Value} {x y : Operand}

/-! ### load, fieldAddr -/
theorem Run.load1 {t : TypeId} {ad : Addr} {r : Res} {vs : List Value} {j : Nat} (ho : o.op = .load t x) (ht : tyc P t = some (false, 1)) (hx : ev E x = some (.pointer (some (ad.add j)))) (h : Holds r ad vs) (hin : In r w) (hv : vs[j]? = some v) :
    Run P n o E w v w := fun a ha => by
  have hc := h.cell hin hv
  unfold execOp
  simp only [ho, ha.ev hx]
  simp [Instr.loadAt, Instr.sureAddr, loadVar, (tyc_agg ht).1, load, Sem.run, hc, Sem.run_bind]
theorem Run.loadN {t : TypeId} {ad : Addr} {r : Res} {vs us : List Value} {j k : Nat} (ho : o.op = .load t x) (ht : tyc P t = some (true, k)) (hx : ev E x = some (.pointer (some (ad.add j)))) (h : Holds r ad vs) (hin : In r w)
    (hv : (vs.drop j).take k = us) (hl : us.length = k) : Run P n o E w (.agg us.toArray) w := fun a ha => by
  have hp : Holds r (ad.add j) us := h.part j (fun i u hu => by
    rw [← hv, List.getElem?_take] at hu
    split at hu
    · rwa [List.getElem?_drop] at hu
    · cases hu)
  have hr := run_loadCells_list (P := P) w (ad.add j) us (fun i u hu => hp.cell hin hu)
  rw [hl] at hr
  unfold execOp
  simp only [ho, ha.ev hx]
  simp [Instr.loadAt, Instr.sureAddr, loadVar, (tyc_agg ht).1, (tyc_agg ht).2, hr, Sem.run_bind]
theorem Run.field {s : TypeId} {i k off : Nat} {ad : Addr} (ho : o.op = .fieldAddr s x i) (hf : fld P s i = some (off, k)) (hk : Nat.blt 0 k = true) (hx : ev E x = some (.pointer (some ad))) :
    Run P n o E w (.pointer (some (ad.add off))) w := fun a ha => by
  have hk0 : k ≠ 0 := by intro h; subst h; simp [Nat.blt] at hk
  unfold fld at hf
  split at hf
  · rename_i fs hs
    split at hf
    · rename_i f hfi
      cases hi : P.info? f.type with
      | none => simp [hi] at hf
      | some inf =>
        simp only [hi, Option.map_some, Option.some.injEq, Prod.mk.injEq] at hf
        obtain ⟨h1, h2⟩ := hf
        have hsz : inf.size ≠ 0 := by rw [h2]; exact hk0
        unfold execOp
        simp only [ho, ha.ev hx]
        simp [Instr.fieldAt, Instr.sureAddr, fieldPlace, sizeOf, typeInfo, run_underlying hs, hfi, hi, hsz, h1, Sem.run_bind]
    · cases hf
  · cases hf

/-! ### box: a new block -/
theorem Run.box {t : TypeId} (ho : o.op = .box t x) (hx : ev E x = some v) : Run P n o E w (.pointer (some ⟨w.heap.size, 0, none⟩)) (w.alloc (.cells v.cells t)) := fun a ha => by
  unfold execOp
  simp only [ho, ha.ev hx]
  simp [Instr.box, newVar, newRow]

/-! ### store into an owned block -/
theorem run_store_row {t : TypeId} {g j k : Nat} {cs : Array Value} {el : TypeId} {b : Bool} {u : Value} (hg : w.heap[g]? = some (.cells cs el (0, 0))) (ht : tyc P t = some (b, k)) (hk : u.cells.size = k) (h1 : ∀ z ∈ u.cells.toList, z.oneCell' = true) (hj : j + k ≤ cs.size) :
    (Instr.storeAt t (.pointer (some ((⟨g, 0, none⟩ : Addr).add j))) u).run P w = .ok () (w.setRow g (cs.toList.take j ++ u.cells.toList ++ cs.toList.drop (j + k)).toArray) := by
  have hadd : (⟨g, 0, none⟩ : Addr).add j = ⟨g, j, none⟩ := by unfold Addr.add; split <;> simp_all
  have hst := run_storeCells_at P g j el u.cells.toList 0 cs w hg (by simp [hk]; exact hj) h1
  simp only [Nat.add_zero] at hst
  have hl : u.cells.toList.length = k := by simpa using hk
  rw [hl] at hst
  simp [Instr.storeAt, Instr.sureAddr, storeVar, (tyc_agg ht).2, hk, hadd, hst, Sem.run_bind]

end

/-! ### append -/
/-- What may be appended: m elements, these cells. -/
structure Src (P : Program) (w : World) (t : TypeId) (sz : Nat) (x : Value) (m : Nat) (news : List Value) : Prop where
  und : P.underlying t = some .string ∨ ∃ e, P.underlying t = some (.slice e)
  len : ∀ w', (Builtin.lenOf x).run P w' = .ok m w'
  first : ∀ w' : World, w'.heap = w.heap → (Builtin.firstCells sz m x).run P w' = .ok news.toArray w'
  size : news.length = m * sz

section
variable {P : Program} {w : World} {s A r : Res} {os : List Res}

theorem Src.slice {t e : TypeId} {sz m c : Nat} {by_ : Nat} {a : Option Addr} {news : List Value} (ht : slc P t = some (e, sz, by_)) (hl : news.length = m * sz) (h : m = 0 ∨ ∃ ad, a = some ad ∧ Holds r ad news) (hin : In r w) :
    Src P w t sz (.slice a m c) m news := by
  refine ⟨.inr ⟨_, (slc_spec ht).1⟩, fun w' => by simp [Builtin.lenOf], fun w' hw => ?_, hl⟩
  rcases h with rfl | ⟨ad, rfl, hh⟩
  · have : news = [] := List.eq_nil_of_length_eq_zero (by simpa using hl)
    subst this
    cases a with
    | none => simp [Builtin.firstCells]
    | some ad => simp [Builtin.firstCells, loadCells, loadCellsFrom]
  · exact run_firstCells_some w' sz m ad m c news hl (fun j v hj => by
      have := hh.cell hin hj
      simpa [World.cell?, hw] using this)

theorem Src.imm {α : Type} {R : Res → List Value → α → Prop} {t e : TypeId} {sz by_ : Nat} {a : Option Addr} {c : Nat} {ys : List α} (ht : slc P t = some (e, sz, by_)) (h : Imm R sz s a c ys) (hin : In s w) :
    ∃ news, Src P w t sz (.slice a ys.length c) ys.length news ∧ Chunks R sz s news ys := by
  rcases h.2.2 with rfl | ⟨ad, rfl, cs, hh, hc⟩
  · exact ⟨[], .slice ht (by simp) (.inl rfl) hin, rfl⟩
  · exact ⟨cs, .slice ht hc.length (.inr ⟨ad, rfl, hh⟩) hin, hc⟩

theorem run_append_stay {t t2 ty e : TypeId} {sz by_ m n c : Nat} {x : Value} {news : List Value} {a : Option Addr} (hs : slc P t = some (e, sz, by_)) (hsrc : Src P w t2 sz x m news) (hroom : n + m ≤ c) (hn : a = none → news = []) :
    (Builtin.append_ #[t, t2] ty #[.slice a n c, x]).run P w = match a with
      | none => .ok (.slice none (n + m) c) w
      | some ad => ((storeCells (ad.add (n * sz)) news).run P w).andThen fun _ w' => .ok (.slice (some ad) (n + m) c) w' := by
  obtain ⟨hu, i, hi, rfl, hb⟩ := slc_spec hs
  have hf := hsrc.first w rfl
  rcases hsrc.und with hd | ⟨e', hd⟩
  all_goals cases a with
  | none =>
    rw [hn rfl] at hf
    simp [Builtin.append_, run_underlying hu, run_underlying hd, sizeOf, typeInfo, hi, hsrc.len, hroom, hf]
  | some ad => simp [Builtin.append_, run_underlying hu, run_underlying hd, sizeOf, typeInfo, hi, hsrc.len, hroom, hf]

theorem run_append_move {t t2 ty e : TypeId} {sz by_ m n c : Nat} {x : Value} {olds news z : List Value} {a : Option Addr} (hs : slc P t = some (e, sz, by_)) (hz : zer P e = some z) (hsrc : Src P w t2 sz x m news)
    (hold : ∀ w' : World, w'.heap = w.heap → (Builtin.firstCells sz n (.slice a n c)).run P w' = .ok olds.toArray w') (hroom : c < n + m) (h63 : n + m ≤ 9223372036854775807) (hbytes : (n + m) * by_ ≤ 140737488355328) :
    (Builtin.append_ #[t, t2] ty #[.slice a n c, x]).run P w =
      .ok (.slice (some ⟨w.heap.size, 0, none⟩) (n + m) (grownCap w (n + m) c e)) (w.drew.alloc (.cells (olds.toArray ++ news.toArray ++ Builtin.zeroCells z.toArray (grownCap w (n + m) c e - (n + m))) e)) := by
  obtain ⟨hu, i, hi, rfl, rfl⟩ := slc_spec hs
  have hf := hsrc.first w.drew rfl
  have ho := hold w.drew rfl
  have hn : ¬ (n + m ≤ c) := by omega
  have h63' : ¬ (9223372036854775807 < ((n : Int) + (m : Int))) := by omega
  have hfit := growslice_fits (bytes := i.bytes) hroom hbytes
  have h48' : ¬ (281474976710656 < Builtin.nextslicecap (n + m) c * i.bytes) := by omega
  unfold zer at hz
  simp only [hi, Option.bind_some] at hz
  cases hzi : i.zero with
  | none => simp [hzi] at hz
  | some zv =>
    simp only [hzi, Option.map_some, Option.some.injEq] at hz
    have hze : zv.cells = z.toArray := by rw [← hz]
    rcases hsrc.und with hd | ⟨e', hd⟩
    all_goals simp [Builtin.append_, run_underlying hu, run_underlying hd, sizeOf, typeInfo, zeroValue, hi, hzi, hsrc.len, hn, h63', h48', Question.forced, hf, ho, newRow, grownCap, hze]
    all_goals
      congr 2
      apply Array.ext'
      simp [List.append_assoc]

theorem one_join_same (b : Nat) (x : Obj) (r : Res) : (Res.one b x).join r b = some x := by simp [Res.join, Res.one]
theorem put_same (r : Res) (b : Nat) (x : Obj) : r.put b x b = some x := by simp [Res.put]

/-- append to a slice of one's own: as a whole. -/
theorem append_law {α : Type} {R : Res → List Value → α → Prop} {t t2 ty e : TypeId} {sz by_ c : Nat} {x : Value} {news z : List Value} {a : Option Addr} {xs ys : List α}
    (hg : Good w s (A :: os)) (hs : slc P t = some (e, sz, by_)) (hz : zer P e = some z) (hzl : z.length = sz) (hone : One R)
    (hown : Own R sz e s A a c xs) (hsrc : Src P w t2 sz x ys.length news) (hch : Chunks R sz s news ys) (hbytes : (xs.length + ys.length) * by_ ≤ 140737488355328) (hmax : xs.length + ys.length ≤ maxLen) :
    ∃ a' c' A' w', (Builtin.append_ #[t, t2] ty #[.slice a xs.length c, x]).run P w = .ok (.slice a' (xs ++ ys).length c') w' ∧ Good w' s (A' :: os) ∧ Own R sz e s A' a' c' (xs ++ ys) ∧ Aux w w' ∧
      (∀ b, A b ≠ none → (∀ ad, a = some ad → ad.block ≠ b) → A' b = A b) := by
  have h63 : xs.length + ys.length ≤ 9223372036854775807 := by simp only [maxLen] at hmax; omega
  -- a new block
  have moved : ∀ olds, (∀ w' : World, w'.heap = w.heap → (Builtin.firstCells sz xs.length (.slice a xs.length c)).run P w' = .ok olds.toArray w') → Chunks R sz s olds xs → c < xs.length + ys.length →
      ∃ a' c' A' w', (Builtin.append_ #[t, t2] ty #[.slice a xs.length c, x]).run P w = .ok (.slice a' (xs ++ ys).length c') w' ∧ Good w' s (A' :: os) ∧ Own R sz e s A' a' c' (xs ++ ys) ∧ Aux w w' ∧
        (∀ b, A b ≠ none → (∀ ad, a = some ad → ad.block ≠ b) → A' b = A b) := by
    intro olds hold hco hroom
    have hrun := run_append_move (ty := ty) hs hz hsrc hold hroom h63 hbytes
    have hge := grownCap_ge w (xs.length + ys.length) c e
    have hcm : grownCap w (xs.length + ys.length) c e ≤ maxLen := grownCap_le_maxLen w _ c e hmax
    have hg' := (hg.drew.alloc (.cells (olds.toArray ++ news.toArray ++ Builtin.zeroCells z.toArray (grownCap w (xs.length + ys.length) c e - (xs.length + ys.length))) e)).join
    have hnone : A w.heap.size = none := by
      cases hA : A w.heap.size with
      | none => rfl
      | some o => exact absurd (hg.1.lt (by rw [hA]; simp)) (Nat.lt_irrefl _)
    refine ⟨_, _, _, _, by rw [List.length_append]; exact hrun, hg', .inr ⟨w.heap.size, _, rfl, one_join_same _ _ _, by rw [List.length_append]; exact hge, hcm, ?_, ?_⟩, (Aux.drew w).trans (Aux.alloc _ _), fun b hb _ => ?_⟩
    · have h1 := hco.length
      have h2 := hch.length
      simp only [Array.size_append, List.size_toArray, size_zeroCells, hzl, h1, h2, ← Nat.add_mul]
      congr 1
      omega
    · have h1 := hco.length
      have h2 := hch.length
      have e1 : (olds.toArray ++ news.toArray ++ Builtin.zeroCells z.toArray (grownCap w (xs.length + ys.length) c e - (xs.length + ys.length))).toList.take ((xs ++ ys).length * sz) = olds ++ news := by
        simp only [Array.toList_append, List.length_append, Nat.add_mul, ← h1, ← h2]
        rw [← List.length_append]
        exact List.take_left
      rw [e1]
      exact hco.append hch
    · have hbs : b ≠ w.heap.size := fun h => by subst h; exact hb hnone
      simp [Res.join, Res.one, hbs]
  rcases hown with ⟨rfl, rfl, rfl⟩ | ⟨g, cs, rfl, hAg, hlc, hcm, hcs, hco⟩
  · by_cases hm : ys.length = 0
    · have hy : ys = [] := List.eq_nil_of_length_eq_zero hm
      subst hy
      have hn : news = [] := hch
      subst hn
      exact ⟨none, 0, A, w, run_append_stay (a := none) hs hsrc (by simp) (fun _ => rfl), hg, .inl ⟨rfl, rfl, rfl⟩, Aux.refl w, fun _ _ _ => rfl⟩
    · exact moved [] (fun w' _ => by simp [Builtin.firstCells]) rfl (by simp; omega)
  · have hrow : Holds A ⟨g, 0, none⟩ (cs.toList.take (xs.length * sz)) := ⟨cs, e, (0, 0), hAg, rfl, fun j u hu => by
      rw [List.getElem?_take] at hu
      split at hu
      · simpa using hu
      · cases hu⟩
    by_cases hroom : xs.length + ys.length ≤ c
    · have hwg := hg.1 g _ hAg
      have h1 := hco.length
      have h2 := hch.length
      have hadd : (⟨g, 0, none⟩ : Addr).add (xs.length * sz) = ⟨g, xs.length * sz, none⟩ := by unfold Addr.add; split <;> simp_all
      have hfit : xs.length * sz + news.length ≤ cs.size := by rw [h2, hcs, ← Nat.add_mul]; exact Nat.mul_le_mul_right _ hroom
      have hst := run_storeCells_at P g (xs.length * sz) e news 0 cs w hwg (by simpa using hfit) (hch.one hone)
      simp only [Nat.add_zero] at hst
      have hrun := run_append_stay (ty := ty) (a := some ⟨g, 0, none⟩) hs hsrc hroom (by simp)
      simp only [hadd, hst, Result.andThen_ok] at hrun
      let new := (cs.toList.take (xs.length * sz) ++ news ++ cs.toList.drop (xs.length * sz + news.length)).toArray
      have hput := hg.write (w' := w.setRow g new) hAg (setRow_heap w g cs new e (0, 0) hwg) (fun k _ hk => setRow_other w g k new hk)
      refine ⟨_, _, _, _, by rw [List.length_append]; exact hrun, hput, .inr ⟨g, _, rfl, put_same _ _ _, by rw [List.length_append]; exact hroom, hcm, ?_, ?_⟩, ⟨rfl, rfl, rfl, by simp⟩, fun b _ hb => ?_⟩
      · rw [← hcs]
        simp only [new, List.size_toArray, List.length_append, List.length_take, List.length_drop, Array.length_toList]
        omega
      · have e1 : ((cs.toList.take (xs.length * sz) ++ news ++ cs.toList.drop (xs.length * sz + news.length)).toArray).toList.take ((xs ++ ys).length * sz) = cs.toList.take (xs.length * sz) ++ news := by
          rw [List.length_append, Nat.add_mul, ← h2]
          conv => lhs; arg 1; rw [← h1]
          rw [← List.length_append]
          exact List.take_left
        rw [e1]
        exact hco.append hch
      · have : b ≠ g := fun h => hb ⟨g, 0, none⟩ rfl h.symm
        simp [Res.put, this]
    · exact moved _ (fun w' hw => run_firstCells_some w' sz xs.length ⟨g, 0, none⟩ xs.length c _ hco.length (fun j v hj => by
        have := hrow.cell hg.1 hj
        simpa [World.cell?, hw] using this)) hco (by omega)
end

end Go.Lw
