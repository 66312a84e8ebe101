/-
  THE WALK ENGINE, part 5: the rules for memory, slices, calls; a function's frame.
-/
import Derived.Test.YthaomecbklmmdaaRules
namespace Go.Lw
open Go.RowKit

section
variable {P : Program} {n : Nat} {ops : Array Oper} {Q : Exit → Act → World → Prop} {S : World → Prop} {rest : List (Bool × Oper)} {E : Env} {w : World} {o : Oper} {d : Nat} {v : Value}
variable {s A : Res} {os : List Res} {x y : Operand} {T : Bool}

/-! ### fields, loads -/
theorem RL.field {t : TypeId} {i k off : Nat} {ad : Addr} (hg : wants ops E o = some true) (hd : o.dst = some d) (hb : Nat.blt d n = true) (ho : o.op = .fieldAddr t x i) (hf : fld P t i = some (off, k)) (hk : Nat.blt 0 k = true)
    (hx : ev E x = some (.pointer (some ad))) (h : RL P n ops Q S rest ((d, .pointer (some (ad.add off))) :: E) w) : RL P n ops Q S ((T, o) :: rest) E w :=
  RL.val hg hd hb (fun _ => Run.field ho hf hk hx) h

/-- One cell, read in its place. -/
theorem RL.load {t : TypeId} {ad : Addr} {r : Res} {vs : List Value} {j : Nat} (hg : wants ops E o = some true) (hd : o.dst = some d) (hb : Nat.blt d n = true) (ho : o.op = .load t x) (ht : tyc P t = some (false, 1))
    (hx : ev E x = some (.pointer (some (ad.add j)))) (h : Holds r ad vs) (hin : In r w) (hv : vs[j]? = some v) (hr : RL P n ops Q S rest ((d, v) :: E) w) : RL P n ops Q S ((false, o) :: rest) E w := fun hS =>
  RL.step hg hd hb (Run.load1 ho ht hx h hin hv) hS hr hS
/-- One cell, taken first. -/
theorem RL.loadT {t : TypeId} {ad : Addr} {r : Res} {vs : List Value} {j : Nat} (hg : wants ops E o = some true) (hd : o.dst = some d) (hb : Nat.blt d n = true) (ho : o.op = .load t x) (ht : tyc P t = some (false, 1))
    (hx : ev E x = some (.pointer (some (ad.add j)))) (h : Holds r ad vs) (hin : ∀ w, S w → In r w) (hv : vs[j]? = some v) (hr : RL P n ops Q S rest ((d, v) :: E) w) : RL P n ops Q S ((true, o) :: rest) E w :=
  RL.take hg hd hb (fun w hS => Run.load1 ho ht hx h (hin w hS) hv) hr
/-- A struct, an array. -/
theorem RL.loads {t : TypeId} {ad : Addr} {r : Res} {vs us : List Value} {j k : Nat} (hg : wants ops E o = some true) (hd : o.dst = some d) (hb : Nat.blt d n = true) (ho : o.op = .load t x) (ht : tyc P t = some (true, k))
    (hx : ev E x = some (.pointer (some (ad.add j)))) (h : Holds r ad vs) (hin : In r w) (hv : (vs.drop j).take k = us) (hl : us.length = k) (hr : RL P n ops Q S rest ((d, .agg us.toArray) :: E) w) : RL P n ops Q S ((false, o) :: rest) E w := fun hS =>
  RL.step hg hd hb (Run.loadN ho ht hx h hin hv hl) hS hr hS
theorem RL.loadsT {t : TypeId} {ad : Addr} {r : Res} {vs us : List Value} {j k : Nat} (hg : wants ops E o = some true) (hd : o.dst = some d) (hb : Nat.blt d n = true) (ho : o.op = .load t x) (ht : tyc P t = some (true, k))
    (hx : ev E x = some (.pointer (some (ad.add j)))) (h : Holds r ad vs) (hin : ∀ w, S w → In r w) (hv : (vs.drop j).take k = us) (hl : us.length = k) (hr : RL P n ops Q S rest ((d, .agg us.toArray) :: E) w) : RL P n ops Q S ((true, o) :: rest) E w :=
  RL.take hg hd hb (fun w hS => Run.loadN ho ht hx h (hin w hS) hv hl) hr

theorem Holds.of {b : Nat} {cs : Array Value} {el : TypeId} {fr : Nat × Nat} (h : A b = some (.cells cs el fr)) : Holds A ⟨b, 0, none⟩ cs.toList :=
  ⟨cs, el, fr, h, rfl, fun j u hj => by simpa using hj⟩

/-! ### new blocks -/
theorem RL.box {t : TypeId} (hg : wants ops E o = some true) (hd : o.dst = some d) (hb : Nat.blt d n = true) (ho : o.op = .box t x) (hx : ev E x = some v) (hG : Good w s os)
    (h : ∀ b w', Good w' s (Res.one b (.cells v.cells t) :: os) → Aux w w' → S w' ∧ RL P n ops Q S rest ((d, .pointer (some ⟨b, 0, none⟩)) :: E) w') : RL P n ops Q S ((false, o) :: rest) E w := by
  obtain ⟨h1, h2⟩ := h w.heap.size _ (hG.alloc (.cells v.cells t)) (Aux.alloc w _)
  exact RL.step hg hd hb (Run.box ho hx) h1 h2

/-- The parts of a literal. -/
def parts (E : Env) : List (Nat × Operand) → Option (List (Nat × Value))
  | [] => some []
  | (i, x) :: r =>
    match ev E x, parts E r with
    | some v, some l => some ((i, v) :: l)
    | _, _ => none
theorem At.parts {a : Act} (ha : At n E a) : ∀ {ps : List (Nat × Operand)} {l : List (Nat × Value)}, parts E ps = some l → ps.map (fun p => (p.1, a.eval p.2)) = l
  | [], l, h => by simpa [Lw.parts] using h
  | (i, x) :: r, l, h => by
    simp only [Lw.parts] at h
    split at h
    · rename_i v l' hv hl
      simp only [Option.some.injEq] at h
      subst h
      simp [ha.ev hv, ha.parts hl]
    · cases h
/-- cells into a row of cells -/
def putL (cs : List Value) (off : Nat) (vs : List Value) : List Value := cs.take off ++ (vs ++ cs.drop (off + vs.length))
def fillL (place : Nat → Option (Nat × Nat)) : List Value → List (Nat × Value) → Option (List Value)
  | cs, [] => some cs
  | cs, (i, v) :: r =>
    match place i with
    | none => none
    | some (off, size) => cond (Nat.beq v.cells.toList.length size && Nat.ble (off + size) cs.length) (fillL place (putL cs off v.cells.toList) r) none
def zsL : Nat → List Value → List Value
  | 0, _ => []
  | n + 1, z => z ++ zsL n z

theorem putL_foldl : ∀ (vs cs : List Value) (off k : Nat), off + k + vs.length ≤ cs.length →
    (vs.zipIdx k).foldl (fun (cs : Array Value) (p : Value × Nat) => cs.setIfInBounds (off + p.2) p.1) cs.toArray = (putL cs (off + k) vs).toArray
  | [], cs, off, k, _ => by simp [putL]
  | v :: vs, cs, off, k, h => by
    simp only [List.length_cons] at h
    rw [List.zipIdx_cons, List.foldl_cons, List.setIfInBounds_toArray, putL_foldl vs (cs.set (off + k) v) off (k + 1) (by simp; omega)]
    congr 1
    simp only [putL, List.length_cons]
    rw [show off + (k + 1) = off + k + 1 by omega, List.take_set, List.drop_set_of_lt (by omega)]
    rw [show off + k + (vs.length + 1) = off + k + 1 + vs.length by omega]
    rw [List.take_succ_eq_append_getElem (by omega)]
    rw [List.set_append_right _ _ (by rw [List.length_take]; omega)]
    simp only [List.length_take]
    rw [show off + k - min (off + k) cs.length = 0 by omega]
    simp
theorem fillL_spec (place : Nat → Option (Nat × Nat)) : ∀ (l : List (Nat × Value)) (cs ds : List Value), fillL place cs l = some ds → Instr.fill place cs.toArray l = some ds.toArray
  | [], cs, ds, h => by simp only [fillL, Option.some.injEq] at h; subst h; rfl
  | (i, v) :: r, cs, ds, h => by
    simp only [fillL] at h
    cases hp : place i with
    | none => simp [hp] at h
    | some p =>
      obtain ⟨off, size⟩ := p
      simp only [hp] at h
      by_cases hc : (Nat.beq v.cells.toList.length size && Nat.ble (off + size) cs.length) = true
      · rw [hc, cond_true] at h
        simp only [Bool.and_eq_true] at hc
        have h1 : v.cells.size = size := by simpa using Nat.eq_of_beq_eq_true hc.1
        have h2 := Nat.le_of_ble_eq_true hc.2
        have ih := fillL_spec place r _ ds h
        simp only [Instr.fill, hp]
        rw [if_neg (by simp [h1]; omega)]
        rw [← ih]
        congr 1
        have := putL_foldl v.cells.toList cs off 0 (by simp [h1]; omega)
        simp only [Nat.add_zero] at this
        rw [← this]
        rw [← Array.foldl_toList]
        simp [Array.toList_zipIdx]
      · rw [Bool.not_eq_true] at hc
        rw [hc, cond_false] at h
        cases h
theorem zsL_length : ∀ (n : Nat) (z : List Value), (zsL n z).length = n * z.length
  | 0, z => by simp [zsL]
  | n + 1, z => by simp [zsL, zsL_length n z, Nat.add_mul, Nat.add_comm]
theorem zsL_get : ∀ (n : Nat) (z : List Value) (j : Nat), j < n * z.length → (zsL n z)[j]? = z[j % z.length]?
  | 0, z, j, h => by simp at h
  | n + 1, z, j, h => by
    simp only [zsL]
    by_cases hj : j < z.length
    · rw [List.getElem?_append_left hj, Nat.mod_eq_of_lt hj]
    · rw [List.getElem?_append_right (by omega), zsL_get n z _ (by rw [Nat.add_mul] at h; omega)]
      rw [Nat.mod_eq_sub_mod (by omega : j ≥ z.length)]
theorem zsL_spec (n sz : Nat) (z : List Value) (hz : z.length = sz) : (Array.range (n * sz)).map (fun j => z.toArray[j % z.length]!) = (zsL n z).toArray := by
  subst hz
  apply Array.ext'
  apply List.ext_getElem?
  intro j
  by_cases hj : j < n * z.length
  · have hz0 : 0 < z.length := by
      rcases Nat.eq_zero_or_pos z.length with h | h
      · rw [h, Nat.mul_zero] at hj; omega
      · exact h
    have hm : j % z.length < z.length := Nat.mod_lt _ hz0
    rw [List.toList_toArray, zsL_get n z j hj]
    simp [hj, hm]
  · rw [List.getElem?_eq_none (by simp; omega), List.getElem?_eq_none (by simp [zsL_length]; omega)]

/-- a struct's fields' (offset, cells) -/
def plc (P : Program) (t : TypeId) : Option (List (Nat × Nat)) :=
  match P.underlying t with
  | some (.struct fs) => fs.toList.mapM fun f => (P.info? f.type).map fun i => (f.offset, i.size)
  | _ => none
/-- A struct's literal. -/
theorem RL.build {t : TypeId} {ps : Array (Nat × Operand)} {l : List (Nat × Value)} {pl : List (Nat × Nat)} {z cs : List Value} (hg : wants ops E o = some true) (hd : o.dst = some d) (hb : Nat.blt d n = true)
    (ho : o.op = .build t ps) (hz : zer P t = some z) (hp : plc P t = some pl) (hps : parts E ps.toList = some l) (hf : fillL (fun i => pl[i]?) z l = some cs) (h : RL P n ops Q S rest ((d, .agg cs.toArray) :: E) w) :
    RL P n ops Q S ((T, o) :: rest) E w := by
  refine RL.val hg hd hb (fun w ac ha => ?_) h
  have hps' := ha.parts hps
  have hm : (ps.map fun (i, x) => (i, ac.eval x)).toList = l := by rw [← hps']; simp
  have hbuilt : P.built t (ps.map fun (i, x) => (i, ac.eval x)).toList = some cs.toArray := by
    unfold zer at hz
    unfold plc at hp
    unfold Program.built
    cases hi : P.info? t with
    | none => simp [hi] at hz
    | some i =>
      cases hzi : i.zero with
      | none => simp [hi, hzi] at hz
      | some zv =>
        simp only [hi, Option.bind_some, hzi, Option.map_some, Option.some.injEq] at hz
        have hze : zv.cells = z.toArray := by rw [← hz]
        split at hp
        · rename_i fs hu
          simp only [hu, hzi, hp, hm, hze]
          simpa using fillL_spec _ _ _ _ hf
        · cases hp
  unfold execOp
  simp only [ho, Sem.run_bind, run_build w t _ cs.toArray hbuilt, Result.andThen_ok, Sem.run_pure]

/-- A slice's literal: a new block. -/
theorem RL.buildSlice {t e : TypeId} {sz by_ len : Nat} {ps : Array (Nat × Operand)} {l : List (Nat × Value)} {z cs : List Value} (hg : wants ops E o = some true) (hd : o.dst = some d) (hb : Nat.blt d n = true)
    (ho : o.op = .buildSlice t len ps) (ht : slc P t = some (e, sz, by_)) (hz : zer P e = some z) (hzl : z.length = sz) (hlen : Nat.ble (len * sz) 16777216 = true) (hps : parts E ps.toList = some l)
    (hf0 : fillL (fun i => some (i * sz, sz)) (zsL len z) l = some cs) (hG : Good w s os)
    (h : ∀ b w', Good w' s (Res.one b (.cells cs.toArray e) :: os) → Aux w w' → S w' ∧ RL P n ops Q S rest ((d, .slice (some ⟨b, 0, none⟩) len len) :: E) w') : RL P n ops Q S ((false, o) :: rest) E w := by
  obtain ⟨h1, h2⟩ := h w.heap.size _ (hG.alloc (.cells cs.toArray e)) (Aux.alloc w _)
  have hf := fillL_spec _ _ _ _ hf0
  rw [← zsL_spec len sz z hzl] at hf
  refine RL.step hg hd hb (fun ac ha => ?_) h1 h2
  have hps' := ha.parts hps
  have hm : (ps.map fun (i, x) => (i, ac.eval x)).toList = l := by rw [← hps']; simp
  obtain ⟨hu, i, hi, rfl, _⟩ := slc_spec ht
  have hle : ¬ (len * i.size > 2 ^ 24) := by have := Nat.le_of_ble_eq_true hlen; omega
  unfold zer at hz
  cases hzi : i.zero with
  | none => simp [hi, hzi] at hz
  | some zv =>
    simp only [hi, Option.bind_some, hzi, Option.map_some, Option.some.injEq] at hz
    have hze : zv.cells = z.toArray := by rw [← hz]
    have hsz : (sizeOf e).run P w = .ok i.size w := by simp [sizeOf, typeInfo, hi]
    have hzv : (zeroValue e).run P w = .ok zv w := by simp [zeroValue, typeInfo, hi, hzi]
    unfold execOp
    simp only [ho]
    simp only [Instr.buildSlice, Sem.run_bind, run_underlying hu, Result.andThen_ok, hsz, if_neg hle, hm]
    by_cases h0 : len * i.size = 0
    · have hr : Array.range (len * i.size) = #[] := by rw [h0]; simp
      rw [hr] at hf
      simp only [List.map_toArray, List.map_nil] at hf
      rw [if_pos h0]
      simp only [Sem.run_pure, hr, List.map_toArray, List.map_nil, hf]
      simp [newRow]
    · rw [if_neg h0]
      simp only [Sem.run_bind, hzv, Sem.run_pure, Result.andThen_ok, hze, List.size_toArray, hf]
      simp [newRow]

/-! ### stores -/
theorem RL.store {t : TypeId} {b k j : Nat} {i : Nat} {ag : Bool} {cs : Array Value} {el : TypeId} {u : Value} (hg : wants ops E o = some true) (hd : o.dst = none) (ho : o.op = .store t x y) (ht : tyc P t = some (ag, k))
    (hx : ev E x = some (.pointer (some ((⟨b, 0, none⟩ : Addr).add j)))) (hy : ev E y = some u) (hG : Good w s os) (hi : os[i]? = some A) (hA : A b = some (.cells cs el (0, 0))) (hk : u.cells.size = k) (h1 : ∀ z ∈ u.cells.toList, z.oneCell' = true) (hj : j + k ≤ cs.size)
    (h : ∀ w', Good w' s (os.set i (A.put b (.cells (cs.toList.take j ++ u.cells.toList ++ cs.toList.drop (j + k)).toArray el (0, 0)))) → Aux w w' → S w' ∧ RL P n ops Q S rest E w') : RL P n ops Q S ((false, o) :: rest) E w := by
  have hf := hG.front i hi
  have hwb := hf.1 b _ hA
  have hrun := run_store_row (P := P) hwb ht hk h1 hj
  have hw := hf.write (w' := w.setRow b (cs.toList.take j ++ u.cells.toList ++ cs.toList.drop (j + k)).toArray) hA (setRow_heap w b cs _ el (0, 0) hwb) (fun k' _ hk' => setRow_other w b k' _ hk')
  obtain ⟨h2, h3⟩ := h _ (Good.back i hi hw) ⟨rfl, rfl, rfl, by simp⟩
  refine RL.skip hg hd (fun ac ha => ?_) h2 h3
  unfold execOp
  simp only [ho, ha.ev hx, ha.ev hy]
  simp [hrun]

/-! ### slices: an element's place, a part -/
theorem run_indexAt {t e : TypeId} {sz by_ m c : Nat} {k : IntKind} {ad : Addr} {i : Int} (ht : slc P t = some (e, sz, by_)) (h0 : 0 ≤ i) (h1 : i < m) (w : World) :
    (Instr.indexAt t (.slice (some ad) m c) (.int k i)).run P w = .ok (.pointer (some (ad.add (i.toNat * sz)))) w := by
  obtain ⟨hu, inf, hi, rfl, _⟩ := slc_spec ht
  simp [Instr.indexAt, asIntOf, run_underlying hu, h0, h1, sizeOf, typeInfo, hi]
/-- An element of a slice that nobody writes. -/
theorem RL.idx {α : Type} {R : Res → List Value → α → Prop} {t e : TypeId} {sz by_ c : Nat} {k : IntKind} {a : Option Addr} {xs : List α} {i : Int} (hg : wants ops E o = some true) (hd : o.dst = some d) (hb : Nat.blt d n = true)
    (ho : o.op = .indexAddr t x y) (ht : slc P t = some (e, sz, by_)) (hx : ev E x = some (.slice a xs.length c)) (hy : ev E y = some (.int k i)) (hI : Imm R sz s a c xs) (h0 : 0 ≤ i) (h1 : i < xs.length)
    (h : ∀ q vs, vs.length = sz → Holds s q vs → R s vs (xs[i.toNat]'(by omega)) → RL P n ops Q S rest ((d, .pointer (some (q.add 0))) :: E) w) : RL P n ops Q S ((T, o) :: rest) E w := by
  have hlt : i.toNat < xs.length := by omega
  rcases hI.2.2 with rfl | ⟨ad, rfl, hr⟩
  · simp at hlt
  · obtain ⟨vs, hl, hh, hR⟩ := hr.get (List.getElem?_eq_getElem hlt)
    have e0 : (ad.add (i.toNat * sz)).add 0 = ad.add (i.toNat * sz) := by unfold Addr.add; simp
    have := h _ vs hl hh hR
    rw [e0] at this
    refine RL.val hg hd hb (fun w ac ha => ?_) this
    unfold execOp
    simp only [ho, ha.ev hx, ha.ev hy]
    simp [run_indexAt ht h0 h1]
/-- An element of a slice of one's own. -/
theorem RL.idxOwn {α : Type} {R : Res → List Value → α → Prop} {t e : TypeId} {sz by_ c : Nat} {k : IntKind} {a : Option Addr} {xs : List α} {i : Int} {el : TypeId} (hg : wants ops E o = some true) (hd : o.dst = some d) (hb : Nat.blt d n = true)
    (ho : o.op = .indexAddr t x y) (ht : slc P t = some (e, sz, by_)) (hx : ev E x = some (.slice a xs.length c)) (hy : ev E y = some (.int k i)) (hI : Own R sz el s A a c xs) (h0 : 0 ≤ i) (h1 : i < xs.length)
    (h : ∀ g cs vs, a = some ⟨g, 0, none⟩ → A g = some (.cells cs el (0, 0)) → cs.size = c * sz → vs.length = sz → (∀ (j : Nat) u, vs[j]? = some u → cs.toList[i.toNat * sz + j]? = some u) → R s vs (xs[i.toNat]'(by omega)) →
      RL P n ops Q S rest ((d, .pointer (some ((⟨g, 0, none⟩ : Addr).add (i.toNat * sz)))) :: E) w) : RL P n ops Q S ((T, o) :: rest) E w := by
  have hlt : i.toNat < xs.length := by omega
  rcases hI with ⟨rfl, rfl, rfl⟩ | ⟨g, cs, rfl, hA, hl, hm, hs, hc⟩
  · simp at hlt
  · obtain ⟨vs, hl, hh, hR⟩ := hc.get (List.getElem?_eq_getElem hlt)
    refine RL.val hg hd hb (fun w ac ha => ?_) (h g cs vs rfl hA hs hl (fun j u hu => ?_) hR)
    · unfold execOp
      simp only [ho, ha.ev hx, ha.ev hy]
      simp [run_indexAt ht h0 h1]
    · have := hh j u hu
      rw [List.getElem?_take] at this
      split at this
      · exact this
      · cases this

end
end Go.Lw
