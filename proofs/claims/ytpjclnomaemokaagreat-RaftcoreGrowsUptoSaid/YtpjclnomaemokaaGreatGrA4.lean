/-
  Parts of the proof of RaftcoreGrowsUptoSaid: the walk engine: Phase, Walk, RowM, KcN, KcC, KcL, KcM, KcO, KcI, KcG, Round, Range, KcR.
-/
import Derived.Test.YtpjclnomaemokaaGreatGrA3
import Derived.Laws.MakeOwn
import Derived.RangeFuncLeaves
import Derived.RangeFuncRecord

/-
 THE WALK ENGINE: a region whose order the tape picks, in two phases: what is taken first (loads among it) holds till the first phase is over; then stores, or a call, may change it.
-/
namespace Go.Lw
section
variable {P : Program} {ops : Array Oper} {Q : Exit → Act → World → Prop} {S : World → Prop} {K : Array Bool → Act → World → Prop}
def lows (m : Nat) (listed : Array Bool) : Bool := (List.range m).all fun k => listed.getD k false
def highs (m : Nat) (listed : Array Bool) : Bool := (List.range listed.size).all fun k => Nat.blt k m || !listed.getD k true
def maskL (ops : Array Oper) (m i : Nat) : Nat → List Bool
 | 0 => []
 | j + 1 => maskL ops m i j ++ [Nat.blt j m && !Nat.beq j i && (match ops[j]? with | some o => o.after.all fun e => !(Region.binds .any e) || !(Nat.blt e.on j) || (maskL ops m i j).getD e.on true | none => true)]
def mask (ops : Array Oper) (m i : Nat) : Array Bool := (maskL ops m i ops.size).toArray
def Closed (ops : Array Oper) (listed : Array Bool) : Prop := ∀ j o, ops[j]? = some o → listed.getD j false = true → ∀ e ∈ o.after, Region.binds .any e = true → listed.getD e.on false = true
def closedB (ops : Array Oper) (listed : Array Bool) : Bool := (List.range ops.size).all fun j => !listed.getD j false || (match ops[j]? with | some o => o.after.all fun e => !(Region.binds .any e) || listed.getD e.on false | none => true)
theorem closed_of {listed : Array Bool} (h : closedB ops listed = true) : Closed ops listed := fun j o ho hl e he hb => by
 have hj : j < ops.size := (Array.getElem?_eq_some_iff.1 ho).1
 have h1 := List.all_eq_true.1 h j (List.mem_range.2 hj)
 simp only [hl, Bool.not_true, Bool.false_or, ho] at h1
 have h2 := Array.all_eq_true'.1 h1 e he
 simpa [hb] using h2
theorem closed_set {listed : Array Bool} {i : Nat} (h : Closed ops listed) (hi : i ∈ Region.ready .any ops listed) : Closed ops (listed.setIfInBounds i true) := fun j o ho hl e he hb => by
 have up : ∀ k, listed.getD k false = true → (listed.setIfInBounds i true).getD k false = true := fun k hk => by
  by_cases hki : i = k
  ·
   subst hki
   rcases Nat.lt_or_ge i listed.size with h' | h'
   ·
    simp [h']
   ·
    simp [Array.getElem?_eq_none h'] at hk
  ·
   rw [getD_set_ne false hki]; exact hk
 by_cases hji : i = j
 ·
  subst hji
  obtain ⟨_, o', ho', hall⟩ := mem_ready.1 hi
  rw [ho] at ho'; cases ho'
  exact up _ (hall e he hb)
 ·
  rw [getD_set_ne false hji] at hl
  exact up _ (h j o ho hl e he hb)
theorem maskL_length (m i : Nat) : ∀ k, (maskL ops m i k).length = k
 | 0 => rfl
 | k + 1 => by simp [maskL, maskL_length m i k]
def wpAnyP (P : Program) (ops : Array Oper) (Q : Exit → Act → World → Prop) (S : World → Prop) (m : Nat) (K : Array Bool → Act → World → Prop) : Nat → Array Bool → Act → World → Prop
 | 0, listed, a, w => lows m listed = true ∧ K listed a w
 | fuel + 1, listed, a, w =>
  (lows m listed = true → K listed a w) ∧
  (lows m listed = false → Region.ready .any ops listed ≠ [] ∧ ∀ i ∈ Region.ready .any ops listed, i < m ∧ wpOp P ops Q i (fun a' w' => S w' ∧ wpAnyP P ops Q S m K fuel (listed.setIfInBounds i true) a' w') a w)
theorem lows_get {m k : Nat} {listed : Array Bool} (h : lows m listed = true) (hk : k < m) : listed.getD k false = true := by
 have := List.all_eq_true.1 h k (List.mem_range.2 hk)
 simpa using this
theorem lows_no {m k : Nat} {listed : Array Bool} (h : listed.getD k true = false) (hk : k < m) : lows m listed = false := by
 cases hl : lows m listed with
 | false => rfl
 | true =>
  have h1 := lows_get hl hk
  rcases Nat.lt_or_ge k listed.size with h' | h'
  ·
   simp [h'] at h h1; rw [h] at h1; cases h1
  ·
   simp [Array.getElem?_eq_none h'] at h
theorem highs_get {m k : Nat} {listed : Array Bool} (h : highs m listed = true) (hk : m ≤ k) (hs : k < listed.size) : listed.getD k true = false := by
 have := List.all_eq_true.1 h k (List.mem_range.2 hs)
 simp only [Nat.blt, Bool.or_eq_true, Nat.ble_eq, Bool.not_eq_true'] at this
 rcases this with h1 | h1
 ·
  omega
 ·
  exact h1
theorem highs_set {m i : Nat} {listed : Array Bool} (h : highs m listed = true) (hi : i < m) : highs m (listed.setIfInBounds i true) = true := by
 refine List.all_eq_true.2 fun k hk => ?_
 rw [Array.size_setIfInBounds] at hk
 have hk := List.mem_range.1 hk
 by_cases hkm : k < m
 ·
  simp only [Nat.blt, Bool.or_eq_true, Nat.ble_eq]; exact .inl hkm
 ·
  have : i ≠ k := by omega
  rw [getD_set_ne true this, highs_get h (by omega) hk]
  simp
theorem maskL_get {m i : Nat} {listed : Array Bool} (hcl : Closed ops listed) (hsz : listed.size = ops.size) (hh : highs m listed = true) (hi : listed.getD i true = false) : ∀ k, k ≤ ops.size → ∀ j, j < k → listed.getD j false = true → (maskL ops m i k).getD j false = true
 | 0, _, j, hj, _ => absurd hj (Nat.not_lt_zero j)
 | k + 1, hk, j, hj, hl => by
  have ih := maskL_get hcl hsz hh hi k (by omega)
  rcases Nat.lt_or_ge j k with h | h
  ·
   have := ih j h hl
   simp only [maskL, List.getD_eq_getElem?_getD] at this ⊢
   rw [List.getElem?_append_left (by rw [maskL_length]; exact h)]
   exact this
  ·
   have e : j = k := by omega
   subst e
   simp only [maskL, List.getD_eq_getElem?_getD]
   rw [List.getElem?_append_right (by rw [maskL_length]; exact Nat.le_refl _), maskL_length, Nat.sub_self]
   have hjs : j < listed.size := by omega
   have h1 : Nat.blt j m = true := by
    by_cases hjm : j < m
    ·
     simp [Nat.blt]; omega
    ·
     have := highs_get hh (Nat.le_of_not_lt hjm) hjs
     simp [hjs] at this hl; rw [hl] at this; cases this
   have h2 : Nat.beq j i = false := Bool.eq_false_iff.2 fun hb => by
    have := Nat.eq_of_beq_eq_true hb
    subst this
    simp [hjs] at hi hl; rw [hl] at hi; cases hi
   have h3 : ops[j]? = some (ops[j]'(by omega)) := Array.getElem?_eq_getElem _
   simp only [List.getElem?_cons_zero, Option.getD_some, h1, h2, h3, Bool.not_false, Bool.true_and]
   refine Array.all_eq_true'.2 fun e he => ?_
   cases hb : Region.binds .any e with
   | false => simp
   | true =>
    by_cases hej : e.on < j
    ·
     have h4 := ih e.on hej (hcl j _ h3 hl e he hb)
     have h5 : (maskL ops m i j).getD e.on true = true := by
      rw [List.getD_eq_getElem?_getD] at h4 ⊢
      rw [List.getElem?_eq_getElem (by rw [maskL_length]; exact hej)] at h4 ⊢
      simpa using h4
     rw [List.getD_eq_getElem?_getD] at h5; rw [h5]; simp
    ·
     have hbl : Nat.blt e.on j = false := Bool.eq_false_iff.2 fun hx => hej (by simpa [Nat.blt, Nat.lt_iff_add_one_le] using hx)
     rw [hbl]; simp
theorem no_high {m i j : Nat} {listed : Array Bool} (hsz : listed.size = ops.size) (hcl : Closed ops listed) (hh : highs m listed = true) (hi : listed.getD i true = false) (hm : Region.ready .any ops (mask ops m i) = [i]) (hj : j ∈ Region.ready .any ops listed) : j < m ∨ j = i := by
 by_cases hjm : j < m
 ·
  exact .inl hjm
 ·
  right
  obtain ⟨h0, o, ho, hall⟩ := mem_ready.1 hj
  have hlt : j < ops.size := (Array.getElem?_eq_some_iff.1 ho).1
  have : j ∈ Region.ready .any ops (mask ops m i) := by
   refine mem_ready.2 ⟨?_, o, ho, fun e he hb => ?_⟩
   ·
    have hg : ∀ k, j < k → (maskL ops m i k).getD j true = false := by
     intro k
     induction k with
     | zero => intro h; omega
     | succ k ih =>
      intro h
      simp only [maskL, List.getD_eq_getElem?_getD] at ih ⊢
      rcases Nat.lt_or_ge j k with h' | h'
      ·
       rw [List.getElem?_append_left (by rw [maskL_length]; exact h')]; exact ih h'
      ·
       have e : j = k := by omega
       subst e
       rw [List.getElem?_append_right (by rw [maskL_length]; exact Nat.le_refl _), maskL_length, Nat.sub_self]
       have hbl : Nat.blt j m = false := Bool.eq_false_iff.2 fun hx => hjm (by simpa [Nat.blt, Nat.lt_iff_add_one_le] using hx)
       simp [hbl]
    have := hg ops.size hlt
    simpa [mask, List.getD_eq_getElem?_getD] using this
   ·
    have h1 := hall e he hb
    have h2 : e.on < ops.size := by
     rcases Nat.lt_or_ge e.on listed.size with h' | h'
     ·
      omega
     ·
      simp [Array.getElem?_eq_none h'] at h1
    have := maskL_get hcl hsz hh hi ops.size (Nat.le_refl _) e.on h2 h1
    simpa [mask, List.getD_eq_getElem?_getD] using this
  rw [hm] at this
  simpa using this
theorem wpAnyP_first {m i : Nat} {oi : Oper} {v : Value} (him : i < m) (hi : ops[i]? = some oi) (hsel : ∀ (j : Nat) (o : Oper) cs b, ops[j]? = some o → o.op ≠ .select cs b)
  (hQ : ∀ c a w, Q (.panic c) (a.put oi.dst v) w → Q (.panic c) a w) (hm : Region.ready .any ops (mask ops m i) = [i]) :
  ∀ (fuel : Nat) (listed : Array Bool) (a : Act) (w : World), listed.size = ops.size → Closed ops listed → highs m listed = true →
   (∀ j oj, ops[j]? = some oj → j ≠ i → listed.getD j true = false → (∀ e ∈ oj.after, Region.binds .any e = true → e.on ≠ i) → oi.apart ops oj = true) →
   i ∈ Region.ready .any ops listed → YieldsIf P ops S oi v a → S w →
   wpAnyP P ops Q S m K fuel (listed.setIfInBounds i true) (a.put oi.dst v) w → wpAnyP P ops Q S m K (fuel + 1) listed a w := by
 intro fuel
 induction fuel with
 | zero =>
  intro listed a w hsz hcl hh hfree hr hy hS H
  have hun := (mem_ready.1 hr).1
  refine ⟨fun h => (by rw [lows_no hun him] at h; cases h), fun _ => ⟨fun h => (by rw [h] at hr; cases hr), fun j hj => ?_⟩⟩
  by_cases hji : j = i
  ·
   subst hji; exact ⟨him, hy.wpOp hi hS ⟨hS, H⟩⟩
  ·
   have hjm : j < m := (no_high hsz hcl hh hun hm hj).resolve_right hji
   have h1 := lows_get H.1 hjm
   have h2 := (mem_ready.1 hj).1
   have h3 : (listed.setIfInBounds i true).getD j true = false := by rw [getD_set_ne true (Ne.symm hji)]; exact h2
   have := lows_no h3 hjm
   rw [H.1] at this; cases this
 | succ fuel ih =>
  intro listed a w hsz hcl hh hfree hr hy hS H
  have hun := (mem_ready.1 hr).1
  refine ⟨fun h => (by rw [lows_no hun him] at h; cases h), fun _ => ⟨fun h => (by rw [h] at hr; cases hr), fun j hj => ?_⟩⟩
  by_cases hji : j = i
  ·
   subst hji; exact ⟨him, hy.wpOp hi hS ⟨hS, H⟩⟩
  ·
   have hjm : j < m := (no_high hsz hcl hh hun hm hj).resolve_right hji
   refine ⟨hjm, ?_⟩
   have hlow : lows m (listed.setIfInBounds i true) = false := lows_no (k := j) (by rw [getD_set_ne true (Ne.symm hji)]; exact (mem_ready.1 hj).1) hjm
   have h1 := ((H.2 hlow).2 j (ready_mono hj hji)).2
   obtain ⟨hjun, oj, hoj, hall⟩ := mem_ready.1 hj
   have hnot : ∀ e ∈ oj.after, Region.binds .any e = true → e.on ≠ i := fun e he hb heq => by
    have h1 := hall e he hb
    rw [heq] at h1
    rcases Nat.lt_or_ge i listed.size with h' | h'
    ·
     simp [h'] at hun h1; rw [hun] at h1; cases h1
    ·
     simp [Array.getElem?_eq_none h'] at h1
   have h2 := wpOp_putIf hoj (hfree j oj hoj hji hjun hnot) (fun cs b => hsel i oi cs b hi) (fun cs b => hsel j oj cs b hoj) hQ hy h1
   have hfree' : ∀ k ok, ops[k]? = some ok → k ≠ i → (listed.setIfInBounds j true).getD k true = false →
     (∀ e ∈ ok.after, Region.binds .any e = true → e.on ≠ i) → oi.apart ops ok = true := fun k ok hk hki hun hno => by
    refine hfree k ok hk hki ?_ hno
    by_cases hjk : j = k
    ·
     subst hjk; exact hjun
    ·
     rw [getD_set_ne true hjk] at hun; exact hun
   refine wpOp_mono (fun a' w' h3 => ⟨h3.2.1, ih (listed.setIfInBounds j true) a' w' (by simp [hsz]) (closed_set hcl hj) (highs_set hh hjm) hfree' (ready_mono hr (Ne.symm hji)) h3.1 h3.2.1 ?_⟩) h2
   rw [Array.setIfInBounds_comm _ _ hji]
   exact h3.2.2
def chkP (ops : Array Oper) (m : Nat) (F : Array Bool) : List (Bool × Nat) → Array Bool → Bool
 | [], listed => lows m listed && listed == F
 | (true, i) :: r, listed => Nat.blt i m && Region.free .any ops listed i && (Region.ready .any ops listed).contains i && Region.ready .any ops (mask ops m i) == [i] && closedB ops listed && highs m listed && Nat.beq listed.size ops.size && chkP ops m F r (listed.setIfInBounds i true)
 | (false, i) :: r, listed => Nat.blt i m && Region.ready .any ops listed == [i] && !lows m listed && chkP ops m F r (listed.setIfInBounds i true)
theorem anyP_of_RA (hs : Region.noSelect ops = true) (m : Nat) (F : Array Bool) (K : Act → World → Prop) (Q1 : Exit → Act → World → Prop) (hK : ∀ a w, Q1 .normal a w → K a w) : ∀ (l : List (Bool × Nat)) (listed : Array Bool) (a : Act) (w : World), (∀ x ∈ l, x.2 < ops.size) → chkP ops m F l listed = true → S w →
  RA P ops Q1 S (l.map fun x => (x.1, ops.getD x.2 default)) a w → wpAnyP P ops (noPanic Q) S m (fun z a w => z = F ∧ K a w) l.length listed a w
 | [], listed, a, w, _, hc, _, h => by
  simp only [chkP, Bool.and_eq_true, beq_iff_eq] at hc
  exact ⟨hc.1, hc.2, hK _ _ h⟩
 | (true, i) :: r, listed, a, w, hl, hc, hS, h => by
  simp only [chkP, Bool.and_eq_true, beq_iff_eq] at hc
  obtain ⟨⟨⟨⟨⟨⟨⟨h1, h2⟩, h3⟩, h4⟩, h4c⟩, h5⟩, h6⟩, h7⟩ := hc
  obtain ⟨v, hy, h'⟩ := h
  have hi : i < ops.size := hl (true, i) (by simp)
  have ho : ops[i]? = some (ops.getD i default) := by simp [hi]
  have hlt : i < m := by simpa [Nat.blt, Nat.lt_iff_add_one_le] using h1
  exact wpAnyP_first hlt ho (Region.noSelect_spec hs) (fun _ _ _ hh => hh) h4 _ _ _ _ (Nat.eq_of_beq_eq_true h6) (closed_of h4c) h5 (Region.free_spec ho h2) (by simpa using h3) hy hS (anyP_of_RA hs m F K Q1 hK r _ _ _ (fun x hx => hl x (by simp [hx])) h7 hS h')
 | (false, i) :: r, listed, a, w, hl, hc, hS, h => by
  simp only [chkP, Bool.and_eq_true, beq_iff_eq, Bool.not_eq_true'] at hc
  obtain ⟨⟨⟨h1, h2⟩, h3⟩, h4⟩ := hc
  have hi : i < ops.size := hl (false, i) (by simp)
  have ho : ops[i]? = some (ops.getD i default) := by simp [hi]
  have hlt : i < m := by simpa [Nat.blt, Nat.lt_iff_add_one_le] using h1
  refine ⟨fun hx => (by rw [h3] at hx; cases hx), fun _ => ⟨by rw [h2]; simp, fun j hj => ?_⟩⟩
  rw [h2, List.mem_singleton] at hj
  subst hj
  refine ⟨hlt, ?_⟩
  have ih : ∀ a' w', S w' ∧ RA P ops Q1 S (r.map fun x => (x.1, ops.getD x.2 default)) a' w' → S w' ∧ wpAnyP P ops (noPanic Q) S m (fun z a w => z = F ∧ K a w) r.length (listed.setIfInBounds j true) a' w' :=
   fun a' w' ⟨hS', h'⟩ => ⟨hS', anyP_of_RA hs m F K Q1 hK r _ a' w' (fun x hx => hl x (by simp [hx])) h4 hS' h'⟩
  simp only [List.map_cons, RA] at h
  generalize ops.getD j default = oj at *
  unfold wpOp
  simp only [ho]
  by_cases hw : Region.wanted oj (yielded ops a.tmps) = true
  ·
   rw [if_pos hw] at h ⊢
   exact .inl (Oper.wp_mono ih (wp_never h))
  ·
   rw [if_neg hw] at h ⊢
   exact ih _ _ ⟨hS, h⟩
theorem anyH_of_P {m f2 : Nat} (hK : ∀ listed a w, K listed a w → wpAnyH P .any ops Q (fun _ => True) f2 listed a w) : ∀ (fuel : Nat) (listed : Array Bool) (a : Act) (w : World), wpAnyP P ops Q S m K fuel listed a w → wpAnyH P .any ops Q (fun _ => True) (f2 + fuel) listed a w
 | 0, listed, a, w, h => hK _ _ _ h.2
 | fuel + 1, listed, a, w, h => by
  cases hl : lows m listed with
  | true => exact anyH_le (by omega) (hK _ _ _ (h.1 hl))
  | false =>
   obtain ⟨h1, h2⟩ := h.2 hl
   refine ⟨fun h0 => absurd h0 h1, fun i hi => ?_⟩
   exact wpOp_mono (fun a' w' h3 => ⟨trivial, anyH_of_P hK fuel _ a' w' h3.2⟩) (h2 i hi).2
theorem wp_draws2 {id : Nat} {a : Act} {w : World} (l1 l2 : List (Bool × Nat)) (m : Nat) (F : Array Bool) (hm : P.follows .mixedOrders = true) (hs : Region.noSelect ops = true) (hlen : Nat.beq (l2.length + l1.length) ops.size = true)
  (hl : ((l1 ++ l2).all fun x => Nat.blt x.2 ops.size) = true) (hc1 : chkP ops m F l1 (Array.replicate ops.size false) = true) (hc2 : chk ops l2 F = true) (hS : S w.drew)
  (h : RA P ops (fun _ a w => RA P ops Q (fun _ => True) (l2.map fun x => (x.1, ops.getD x.2 default)) a w) S (l1.map fun x => (x.1, ops.getD x.2 default)) a w.drew) : (Code.region id ops true).wp P Q a w := by
 refine Code.wp_mono noPanic_imp (wp_region_held (S := fun _ => True) hm ?_)
 rw [← Nat.eq_of_beq_eq_true hlen]
 rw [← Nat.eq_of_beq_eq_true hlen] at hc1
 have hin : ∀ x ∈ l1 ++ l2, x.2 < ops.size := fun x hx => by
  have := List.all_eq_true.1 hl x hx
  simpa [Nat.blt, Nat.lt_iff_add_one_le] using this
 refine anyH_of_P (K := fun z a w => z = F ∧ RA P ops Q (fun _ => True) (l2.map fun x => (x.1, ops.getD x.2 default)) a w) (fun z a w hz => ?_) _ _ _ _ (anyP_of_RA hs m F _ _ (fun _ _ hh => hh) l1 _ a _ (fun x hx => hin x (by simp [hx])) hc1 hS h)
 obtain ⟨rfl, hz⟩ := hz
 exact anyH_of_RA hs l2 _ a _ (fun x hx => hin x (by simp [hx])) hc2 trivial hz
end
section
variable {P : Program} {n : Nat} {Q : Exit → Act → World → Prop} {E : Env} {w : World}
theorem CW.draws2 {id : Nat} {l : List Oper} (l1 l2 : List (Bool × Nat)) (m : Nat) (F : Array Bool) (S : World → Prop) (hm : P.follows .mixedOrders = true) (hs : Region.noSelect l.toArray = true) (hlen : Nat.beq (l2.length + l1.length) l.toArray.size = true)
  (hl : ((l1 ++ l2).all fun x => Nat.blt x.2 l.toArray.size) = true) (hc1 : chkP l.toArray m F l1 (Array.replicate l.toArray.size false) = true) (hc2 : chk l.toArray l2 F = true) (hS : S w.drew)
  (h : RL P n l.toArray (fun _ a w => RA P l.toArray Q (fun _ => True) (l2.map fun x => (x.1, l.toArray.getD x.2 default)) a w) S (l1.map fun x => (x.1, l.toArray.getD x.2 default)) E w.drew) : CW P n (.region id l.toArray true) Q E w :=
 fun a ha => wp_draws2 l1 l2 m F hm hs hlen hl hc1 hc2 hS (h hS a ha)
theorem RL.next {ops : Array Oper} {S2 : World → Prop} {l2 : List (Bool × Oper)} (hS : S2 w) (h : RL P n ops Q S2 l2 E w) : ∀ a, At n E a → RA P ops Q S2 l2 a w := fun a ha => h hS a ha
end
end Go.Lw

/-
 THE WALK ENGINE: pieces by name: a new block, a block written; what holds of the world while a region's order is picked.
-/
namespace Go.Lw
def At1 (b : Nat) (x : Obj) (w : World) : Prop := w.heap[b]? = some x
theorem At1.inn {b : Nat} {x : Obj} {w : World} (h : At1 b x w) : In (Res.one b x) w := fun k y hk => by
 simp only [Res.one] at hk
 split at hk
 ·
  rename_i e; cases hk; rw [e]; exact h
 ·
  cases hk
theorem At1.holds {b : Nat} {cs : Array Value} {el : TypeId} {fr : Nat × Nat} : Holds (Res.one b (.cells cs el fr)) ⟨b, 0, none⟩ cs.toList := Holds.of (if_pos rfl)
theorem Good.at1 {w : World} {s r : Res} {os : List Res} {b : Nat} {x : Obj} (hg : Good w s os) (hr : r ∈ os) (h : r b = some x) : At1 b x w := hg.mem hr b x h
section
variable {P : Program} {n : Nat} {ops : Array Oper} {Q : Exit → Act → World → Prop} {S : World → Prop} {rest : List (Bool × Oper)} {E : Env} {w : World} {o : Oper} {d : Nat} {v : Value}
variable {s A : Res} {os : List Res} {x y : Operand} {T : Bool}
theorem RL.boxN {t : TypeId} (hg : wants ops E o = some true) (hd : o.dst = some d) (hb : Nat.blt d n = true) (ho : o.op = .box t x) (hx : ev E x = some v) (hG : Good w s os)
  (h : ∀ b w' B, Good w' s (B :: os) → Aux w w' → B b = some (.cells v.cells t (0, 0)) → S w' ∧ RL P n ops Q S rest ((d, .pointer (some ⟨b, 0, none⟩)) :: E) w') : RL P n ops Q S ((false, o) :: rest) E w :=
 RL.box hg hd hb ho hx hG fun b w' h1 h2 => h b w' _ h1 h2 (if_pos rfl)
theorem RL.allocN {t : TypeId} {z : List Value} (hg : wants ops E o = some true) (hd : o.dst = some d) (hb : Nat.blt d n = true) (ho : o.op = .alloc t) (hz : zer P t = some z) (hG : Good w s os)
  (h : ∀ b w' B, Good w' s (B :: os) → Aux w w' → B b = some (.cells z.toArray t (0, 0)) → S w' ∧ RL P n ops Q S rest ((d, .pointer (some ⟨b, 0, none⟩)) :: E) w') : RL P n ops Q S ((false, o) :: rest) E w :=
 RL.alloc hg hd hb ho hz hG fun b w' h1 h2 => h b w' _ h1 h2 (if_pos rfl)
theorem RL.buildN {t e : TypeId} {sz by_ len : Nat} {ps : Array (Nat × Operand)} {l : List (Nat × Value)} {z cs : List Value} (hg : wants ops E o = some true) (hd : o.dst = some d) (hb : Nat.blt d n = true)
  (ho : o.op = .buildSlice t len ps) (ht : slc P t = some (e, sz, by_)) (hz : zer P e = some z) (hzl : z.length = sz) (hlen : Nat.ble (len * sz) 16777216 = true) (hps : parts E ps.toList = some l)
  (hf0 : fillL (fun i => some (i * sz, sz)) (zsL len z) l = some cs) (hG : Good w s os)
  (h : ∀ b w' B, Good w' s (B :: os) → Aux w w' → B b = some (.cells cs.toArray e (0, 0)) → S w' ∧ RL P n ops Q S rest ((d, .slice (some ⟨b, 0, none⟩) len len) :: E) w') : RL P n ops Q S ((false, o) :: rest) E w :=
 RL.buildSlice hg hd hb ho ht hz hzl hlen hps hf0 hG fun b w' h1 h2 => h b w' _ h1 h2 (if_pos rfl)
theorem RL.storeB {t : TypeId} {b k j : Nat} {i : Nat} {ag : Bool} {cs : Array Value} {el : TypeId} {u : Value} {ds : List Value} (hg : wants ops E o = some true) (hd : o.dst = none) (ho : o.op = .store t x y) (ht : tyc P t = some (ag, k))
  (hx : ev E x = some (.pointer (some ((⟨b, 0, none⟩ : Addr).add j)))) (hy : ev E y = some u) (hG : Good w s os) (hi : os[i]? = some A) (hA : A b = some (.cells cs el (0, 0))) (hk : u.cells.size = k) (h1 : ∀ z ∈ u.cells.toList, z.oneCell' = true) (hj : j + k ≤ cs.size)
  (he : cs.toList.take j ++ u.cells.toList ++ cs.toList.drop (j + k) = ds)
  (h : ∀ w' A', Good w' s (os.set i A') → Aux w w' → A' b = some (.cells ds.toArray el (0, 0)) → S w' ∧ RL P n ops Q S rest E w') : RL P n ops Q S ((false, o) :: rest) E w :=
 RL.store hg hd ho ht hx hy hG hi hA hk h1 hj fun w' h2 h3 => by
  rw [he] at h2
  exact h w' _ h2 h3 (put_same _ _ _)
theorem one_src {t e : TypeId} {sz by_ b len : Nat} {cs : List Value} {B : Res} (ht : slc P t = some (e, sz, by_)) (hl : cs.length = len * sz) (hB : B b = some (.cells cs.toArray e (0, 0))) (hin : In B w) : Src P w t sz (.slice (some ⟨b, 0, none⟩) len len) len cs :=
 Src.slice ht hl (.inr ⟨_, rfl, Holds.of hB⟩) hin
end
section
variable {P : Program} {n : Nat} {ops : Array Oper} {Q : Exit → Act → World → Prop} {S : World → Prop} {rest : List (Bool × Oper)} {E : Env} {w : World} {o : Oper} {d : Nat} {v : Value} {x y : Operand} {T : Bool} {A s : Res} {os : List Res}
theorem RL.sB {t : TypeId} {b k j : Nat} {i : Nat} {ag : Bool} {cs : Array Value} {el : TypeId} {u : Value} {ds : List Value} (hg : wants ops E o = some true) (hd : o.dst = none) (ho : o.op = .store t x y) (ht : tyc P t = some (ag, k)) (hx : ev E x = some (.pointer (some ((⟨b, 0, none⟩ : Addr).add j)))) (hy : ev E y = some u) (hG : Good w s os) (hi : os[i]? = some A) (hA : A b = some (.cells cs el (0, 0))) (hk : u.cells.size = k) (he : cs.toList.take j ++ u.cells.toList ++ cs.toList.drop (j + k) = ds) (h : ∀ w' A', Good w' s (os.set i A') → Aux w w' → A' b = some (.cells ds.toArray el (0, 0)) → S w' ∧ RL P n ops Q S rest E w') (h1 : ∀ z ∈ u.cells.toList, z.oneCell' = true := by first | (simp [Value.cells, Value.oneCell']; done) | simp [Value.cells, Value.oneCell', putL]) (hj : j + k ≤ cs.size := by first | exact Nat.le_of_ble_eq_true rfl | (simp; done) | (simp; omega) | omega) : RL P n ops Q S ((false, o) :: rest) E w := RL.storeB hg hd ho ht hx hy hG hi hA hk h1 hj he h
end
end Go.Lw

/-
 THE WALK ENGINE: a new row of zeros; an element of a row of one's own is read, is written.
-/
namespace Go.Lw
section
variable {P : Program} {n : Nat} {ops : Array Oper} {Q : Exit → Act → World → Prop} {S : World → Prop} {rest : List (Bool × Oper)} {E : Env} {w : World} {o : Oper} {d : Nat} {v : Value}
variable {s A : Res} {os : List Res} {x y : Operand} {T : Bool}
theorem made_zs (m sz : Nat) (z : Value) (zl : List Value) (hz : z.cells = zl.toArray) (hl : zl.length = sz) : madeCells z.cells (m * sz) = (zsL m zl).toArray := by
 rw [← zsL_spec m sz zl hl]
 unfold madeCells
 rw [hz]
 simp
theorem RL.makeN {t e : TypeId} {sz by_ m : Nat} {z : List Value} (hg : wants ops E o = some true) (hd : o.dst = some d) (hb : Nat.blt d n = true) (ho : o.op = .makeSlice t x y) (ht : slc P t = some (e, sz, by_)) (hz : zer P e = some z) (hzl : z.length = sz)
  (hx : ev E x = some (.int .i64 (m : Nat))) (hy : ev E y = some (.int .i64 (m : Nat))) (hm : by_ * m ≤ 281474976710656) (h63 : m ≤ 9223372036854775807) (hG : Good w s os)
  (h : ∀ b A w', Good w' s (A :: os) → Aux w w' → A b = some (.cells (zsL m z).toArray e (0, 0)) → S w' ∧ RL P n ops Q S rest ((d, .slice (some ⟨b, 0, none⟩) m m) :: E) w') : RL P n ops Q S ((false, o) :: rest) E w := by
 obtain ⟨hu, inf, hi, hsz, hby⟩ := slc_spec ht
 unfold zer at hz
 cases hzz : inf.zero with
 | none => simp [hi, hzz] at hz
 | some u =>
  simp [hi, hzz] at hz
  have hrun := run_make (P := P) w t e inf u hu hi hzz .i64 .i64 (m : Int) (m : Int) (by omega) (Int.le_refl _) (by rw [hby]; omega) (by omega)
  have hcells : madeCells u.cells ((m : Int).toNat * inf.size) = (zsL m z).toArray := by
   rw [hsz, Int.toNat_natCast]
   exact made_zs m sz u z (by rw [← hz]) hzl
  rw [hcells] at hrun
  obtain ⟨h1, h2⟩ := h w.heap.size _ _ (hG.alloc _) (Aux.alloc w _) (if_pos rfl)
  refine RL.step hg hd hb (fun ac ha => ?_) h1 h2
  unfold execOp
  simp only [ho, ha.ev hx, ha.ev hy]
  simp [hrun]
theorem Own.filled {α : Type} {R : Res → List Value → α → Prop} {sz g : Nat} {el : TypeId} {cs : Array Value} {news : List Value} {xs : List α} (hs : cs.size = xs.length * sz) (hch : Chunks R sz s news xs) (hm : xs.length ≤ maxLen) :
  Own R sz el s (A.put g (.cells (spl cs 0 news) el (0, 0))) (some ⟨g, 0, none⟩) xs.length xs := by
 have hl := hch.length
 refine .inr ⟨g, _, rfl, put_same _ _ _, Nat.le_refl _, hm, ?_, ?_⟩
 ·
  rw [spl_size (by omega), hs]
 ·
  simp only [spl, List.take_zero, List.nil_append]
  rw [List.take_left' hl]
  exact hch
theorem Own.place {g : Nat} {el : TypeId} {cs : Array Value} {vs : List Value} {i : Nat} (hA : A g = some (.cells cs el (0, 0))) (h : ∀ (j : Nat) u, vs[j]? = some u → cs.toList[i + j]? = some u) : Holds A ((⟨g, 0, none⟩ : Addr).add i) vs :=
 (Holds.of hA).part i h
theorem RL.makeB {fn : Fn} {bnd cap : Array Operand} {l l2 : List Value} (hg : wants ops E o = some true) (hd : o.dst = some d) (hb : Nat.blt d n = true) (ho : o.op = .makeFunc fn bnd cap) (hl : evs E bnd.toList = some l) (hl2 : evs E cap.toList = some l2)
  (h : RL P n ops Q S rest ((d, .func fn l.toArray l2.toArray) :: E) w) : RL P n ops Q S ((T, o) :: rest) E w := by
 refine RL.val hg hd hb (fun w ac ha => ?_) h
 have hargs : (bnd.map ac.eval) = l.toArray := by
  rw [← Array.toArray_toList (xs := bnd), List.map_toArray, ha.evs hl]
 have hargs2 : (cap.map ac.eval) = l2.toArray := by
  rw [← Array.toArray_toList (xs := cap), List.map_toArray, ha.evs hl2]
 unfold execOp
 simp only [ho, hargs, hargs2]
 simp [Instr.makeFunc]
theorem RL.callB {f : FuncId} {args : Array Operand} {ats : Array TypeId} {l : List Value} {bnd cap : Array Value} {R : Ending → World → Prop} (hg : wants ops E o = some true) (hd : o.dst = some d) (hb : Nat.blt d n = true)
  (ho : o.op = .call { callee := .value x, args := args, argTypes := ats }) (hx : ev E x = some (.func (.func f) bnd cap)) (hl : evs E args.toList = some l) (hc : callable P f = true) (hct : Calls P f (bnd ++ l.toArray ++ cap) w R)
  (h : ∀ e w', R e w' → ∃ v, e = .returned v ∧ S w' ∧ RL P n ops Q S rest ((d, v) :: E) w') : RL P n ops Q S ((false, o) :: rest) E w := fun _ ac ha => by
 have hargs : (args.map ac.eval) = l.toArray := by
  rw [← Array.toArray_toList (xs := args), List.map_toArray, ha.evs hl]
 have hev : ac.eval x = .func (.func f) bnd cap := ha.ev hx
 simp only [RA, ha.wants hg, if_true]
 unfold Oper.wp
 have hrun : (execOp ac.eval o).run P w = .ok (.enter f (bnd ++ l.toArray ++ cap)) w := by
  unfold execOp
  simp only [ho]
  simp only [resolve, hargs, hev, Deferred.ofValue, invoke, Sem.run_bind, Sem.run_pure, Result.andThen_ok, run_callFunc hc]
 rw [hrun]
 simp only [Oper.upon]
 refine hct.mono fun e w' hp => ?_
 obtain ⟨v, rfl, h5, h6⟩ := h e w' hp
 simp only [hd]
 exact ⟨h5, h6 h5 _ (ha.put hb v)⟩
end
end Go.Lw

/-
 A node in memory: what a store, an append to one of its lists leaves.
-/
namespace Go.Lw
open Go.Proofs
namespace Node
def wTerm (n : Node) (v : Int) : Node := { n with s := { n.s with hard := { n.s.hard with term := v } } }
def wVote (n : Node) (v : Int) : Node := { n with s := { n.s with hard := { n.s.hard with vote := v } } }
def wCommit (n : Node) (v : Int) : Node := { n with s := { n.s with hard := { n.s.hard with commit := v } } }
def wLog (n : Node) (v : Log) : Node := { n with s := { n.s with log := v } }
def wEntries (n : Node) (v : List Entry) : Node := { n with s := { n.s with log := { n.s.log with entries := v } } }
def wRole (n : Node) (v : Int) : Node := { n with s := { n.s with role := v } }
def wLeader (n : Node) (v : Int) : Node := { n with s := { n.s with leader := v } }
def wBallots (n : Node) (v : List Ballot) : Node := { n with s := { n.s with ballots := v } }
def wPeers (n : Node) (v : List Peer) : Node := { n with s := { n.s with peers := v } }
def wElapsed (n : Node) (v : Int) : Node := { n with s := { n.s with elapsed := v } }
def wBeat (n : Node) (v : Int) : Node := { n with s := { n.s with beat := v } }
def wTransfer (n : Node) (v : Int) : Node := { n with s := { n.s with transfer := v } }
def wPart (n : Node) (v : Coming) : Node := { n with s := { n.s with part := v } }
def wCut (n : Node) (v : Int) : Node := { n with o := { n.o with cut := v } }
def wOuts (n : Node) (v : List Entry) : Node := { n with o := { n.o with entries := v } }
def wSave (n : Node) (v : Bool) : Node := { n with o := { n.o with save := v } }
def wInstall (n : Node) (v : Bool) : Node := { n with o := { n.o with install := v } }
def wMsgs (n : Node) (v : List Msg) : Node := { n with o := { n.o with msgs := v } }
def wIndex (n : Node) (v : Int) : Node := { n with o := { n.o with index := v } }
def wOTerm (n : Node) (v : Int) : Node := { n with o := { n.o with term := v } }
end Node
section
variable {s A A' : Res} {p c' : Nat} {h : Hd} {n : Node} {a' : Option Addr}
theorem Nd.to {n' : Node} (k : Nd s A p h n) (e : n = n') : Nd s A p h n' := e ▸ k
theorem NRest.wTerm (k : NRest s A h n) (v : Int) : NRest s A h (n.wTerm v) := k
theorem NRest.wVote (k : NRest s A h n) (v : Int) : NRest s A h (n.wVote v) := k
theorem NRest.wCommit (k : NRest s A h n) (v : Int) : NRest s A h (n.wCommit v) := k
theorem NRest.wRole (k : NRest s A h n) (v : Int) : NRest s A h (n.wRole v) := k
theorem NRest.wLeader (k : NRest s A h n) (v : Int) : NRest s A h (n.wLeader v) := k
theorem NRest.wElapsed (k : NRest s A h n) (v : Int) : NRest s A h (n.wElapsed v) := k
theorem NRest.wBeat (k : NRest s A h n) (v : Int) : NRest s A h (n.wBeat v) := k
theorem NRest.wTransfer (k : NRest s A h n) (v : Int) : NRest s A h (n.wTransfer v) := k
theorem NRest.wCut (k : NRest s A h n) (v : Int) : NRest s A h (n.wCut v) := k
theorem NRest.wIndex (k : NRest s A h n) (v : Int) : NRest s A h (n.wIndex v) := k
theorem NRest.wOTerm (k : NRest s A h n) (v : Int) : NRest s A h (n.wOTerm v) := k
theorem NRest.wSave (k : NRest s A h n) (v : Bool) : NRest s A h (n.wSave v) := k
theorem NRest.wInstall (k : NRest s A h n) (v : Bool) : NRest s A h (n.wInstall v) := k
theorem NRest.noBallots (k : NRest s A h n) : NRest s A { h with ba := none, bc := 0 } (n.wBallots []) :=
 let ⟨a, b, c, d, _, f, g, i, j, l⟩ := k
 ⟨a, b, c, d, Own.nil _ _ _ _ _, f, g, i, j, l⟩
theorem NRest.noPeers (k : NRest s A h n) : NRest s A { h with pa := none, pc := 0 } (n.wPeers []) :=
 let ⟨a, b, c, d, e, _, g, i, j, l⟩ := k
 ⟨a, b, c, d, e, Own.nil _ _ _ _ _, g, i, j, l⟩
theorem NRest.noEntries (k : NRest s A h n) : NRest s A { h with ea := none, ec := 0 } (n.wEntries []) :=
 let ⟨a, b, c, _, e, f, g, i, j, _⟩ := k
 ⟨a, b, c, Own.nil _ _ _ _ _, e, f, g, i, j, Dj.none_left _⟩
theorem Nd.entries (k : Nd s A p h n) : Own REntry 6 65 s A h.ea h.ec n.s.log.entries := k.rest.2.2.2.1
theorem Nd.ballots (k : Nd s A p h n) : Own RBallot 2 133 s A h.ba h.bc n.s.ballots := k.rest.2.2.2.2.1
theorem Nd.peers (k : Nd s A p h n) : Own RPeer 3 136 s A h.pa h.pc n.s.peers := k.rest.2.2.2.2.2.1
theorem Nd.outs (k : Nd s A p h n) : Own REntry 6 65 s A h.oa h.oc n.o.entries := k.rest.2.2.2.2.2.2.2.1
theorem Nd.msgs (k : Nd s A p h n) : Own RMsg 14 56 s A h.ma h.mc n.o.msgs := k.rest.2.2.2.2.2.2.2.2.1
theorem Nd.apart {α : Type} {R : Res → List Value → α → Prop} {sz c : Nat} {el : TypeId} {a : Option Addr} {xs : List α} (k : Nd s A p h n) (ho : Own R sz el s A a c xs) (hne : el ≠ 109) (hk : ∀ b, A b ≠ none → (∀ ad, a = some ad → ad.block ≠ b) → A' b = A b) : A' p = A p :=
 hk p (by rw [k.cells]; simp) (ho.far k.cells hne)
theorem Nd.appBallots {ys : List Ballot} (k : Nd s A p h n) (ho : Own RBallot 2 133 s A' a' c' (n.s.ballots ++ ys)) (hk : ∀ b, A b ≠ none → (∀ ad, h.ba = some ad → ad.block ≠ b) → A' b = A b) :
  A' p = some (.cells (nodeV n h).toArray 109 (0, 0)) ∧ NRest s A' { h with ba := a', bc := c' } (n.wBallots (n.s.ballots ++ ys)) := by
 refine ⟨(k.apart k.ballots (by decide) hk).trans k.cells, ?_⟩
 have hb := k.ballots
 obtain ⟨a, b, c, d, e, f, g, i, j, l⟩ := k.rest
 exact ⟨a, b, c, d.kept (hb.dj d (by decide)) hk, ho, f.kept (hb.dj f (by decide)) hk, g, i.kept (hb.dj i (by decide)) hk, j.kept (hb.dj j (by decide)) hk, l⟩
theorem Nd.appPeers {ys : List Peer} (k : Nd s A p h n) (ho : Own RPeer 3 136 s A' a' c' (n.s.peers ++ ys)) (hk : ∀ b, A b ≠ none → (∀ ad, h.pa = some ad → ad.block ≠ b) → A' b = A b) :
  A' p = some (.cells (nodeV n h).toArray 109 (0, 0)) ∧ NRest s A' { h with pa := a', pc := c' } (n.wPeers (n.s.peers ++ ys)) := by
 refine ⟨(k.apart k.peers (by decide) hk).trans k.cells, ?_⟩
 have hb := k.peers
 obtain ⟨a, b, c, d, e, f, g, i, j, l⟩ := k.rest
 exact ⟨a, b, c, d.kept (hb.dj d (by decide)) hk, e.kept (hb.dj e (by decide)) hk, ho, g, i.kept (hb.dj i (by decide)) hk, j.kept (hb.dj j (by decide)) hk, l⟩
theorem Nd.appMsgs {ys : List Msg} (k : Nd s A p h n) (ho : Own RMsg 14 56 s A' a' c' (n.o.msgs ++ ys)) (hk : ∀ b, A b ≠ none → (∀ ad, h.ma = some ad → ad.block ≠ b) → A' b = A b) :
  A' p = some (.cells (nodeV n h).toArray 109 (0, 0)) ∧ NRest s A' { h with ma := a', mc := c' } (n.wMsgs (n.o.msgs ++ ys)) := by
 refine ⟨(k.apart k.msgs (by decide) hk).trans k.cells, ?_⟩
 have hb := k.msgs
 obtain ⟨a, b, c, d, e, f, g, i, j, l⟩ := k.rest
 exact ⟨a, b, c, d.kept (hb.dj d (by decide)) hk, e.kept (hb.dj e (by decide)) hk, f.kept (hb.dj f (by decide)) hk, g, i.kept (hb.dj i (by decide)) hk, ho, l⟩
theorem Dj.grow {B : Res} {a b : Option Addr} {α : Type} {R : Res → List Value → α → Prop} {sz c : Nat} {el : TypeId} {xs : List α} (hd : Dj a b) (ho : Own R sz el s A b c xs) (hn : ∀ ad, a' = some ad → a = some ad ∨ A ad.block = none) : Dj a' b := by
 intro x y hx hy e
 rcases hn x hx with h1 | h1
 ·
  exact hd x y h1 hy e
 ·
  rw [e] at h1
  exact ho.addr hy h1
theorem Nd.appEntries {ys : List Entry} (k : Nd s A p h n) (ho : Own REntry 6 65 s A' a' c' (n.s.log.entries ++ ys)) (hk : ∀ b, A b ≠ none → (∀ ad, h.ea = some ad → ad.block ≠ b) → A' b = A b) (hn : ∀ ad, a' = some ad → h.ea = some ad ∨ A ad.block = none) :
  A' p = some (.cells (nodeV n h).toArray 109 (0, 0)) ∧ NRest s A' { h with ea := a', ec := c' } (n.wEntries (n.s.log.entries ++ ys)) := by
 refine ⟨(k.apart k.entries (by decide) hk).trans k.cells, ?_⟩
 have hb := k.entries
 obtain ⟨a, b, c, d, e, f, g, i, j, l⟩ := k.rest
 exact ⟨a, b, c, ho, e.kept (hb.dj e (by decide)) hk, f.kept (hb.dj f (by decide)) hk, g, i.kept l hk, j.kept (hb.dj j (by decide)) hk, l.grow (B := A) i hn⟩
theorem Nd.appOuts {ys : List Entry} (k : Nd s A p h n) (ho : Own REntry 6 65 s A' a' c' (n.o.entries ++ ys)) (hk : ∀ b, A b ≠ none → (∀ ad, h.oa = some ad → ad.block ≠ b) → A' b = A b) (hn : ∀ ad, a' = some ad → h.oa = some ad ∨ A ad.block = none) :
  A' p = some (.cells (nodeV n h).toArray 109 (0, 0)) ∧ NRest s A' { h with oa := a', oc := c' } (n.wOuts (n.o.entries ++ ys)) := by
 refine ⟨(k.apart k.outs (by decide) hk).trans k.cells, ?_⟩
 have hb := k.outs
 obtain ⟨a, b, c, d, e, f, g, i, j, l⟩ := k.rest
 exact ⟨a, b, c, d.kept l.symm hk, e.kept (hb.dj e (by decide)) hk, f.kept (hb.dj f (by decide)) hk, g, ho, j.kept (hb.dj j (by decide)) hk, (l.symm.grow (B := A) d hn).symm⟩
end
section
variable {P : Program} {m : Nat} {ops : Array Oper} {Q : Exit → Act → World → Prop} {S : World → Prop} {rest : List (Bool × Oper)} {E : Env} {w : World} {o : Oper} {d : Nat} {v : Value}
variable {s A : Res} {os : List Res} {x y : Operand} {T : Bool} {p : Nat} {h1 : Hd} {n1 : Node}
theorem RL.storeN {t : TypeId} {k j : Nat} {i : Nat} {ag : Bool} {cs : Array Value} {u : Value} (hg : wants ops E o = some true) (hd : o.dst = none) (ho : o.op = .store t x y) (ht : tyc P t = some (ag, k))
  (hx : ev E x = some (.pointer (some ((⟨p, 0, none⟩ : Addr).add j)))) (hy : ev E y = some u) (hG : Good w s os) (hi : os[i]? = some A) (hA : A p = some (.cells cs 109 (0, 0))) (hr : NRest s A h1 n1) (hk : u.cells.size = k) (ho1 : ∀ z ∈ u.cells.toList, z.oneCell' = true) (hj : j + k ≤ cs.size)
  (he : cs.toList.take j ++ u.cells.toList ++ cs.toList.drop (j + k) = nodeV n1 h1)
  (h : ∀ w' A', Good w' s (os.set i A') → Aux w w' → Nd s A' p h1 n1 → S w' ∧ RL P m ops Q S rest E w') : RL P m ops Q S ((false, o) :: rest) E w :=
 RL.store hg hd ho ht hx hy hG hi hA hk ho1 hj fun w' h2 h3 => by
  rw [he] at h2
  exact h w' _ h2 h3 ⟨put_same _ _ _, hr.put hA _⟩
theorem RL.storeI {t : TypeId} {k j : Nat} {i : Nat} {ag : Bool} {cs : Array Value} {kk : IntKind} {v : Int} {n1 : Int → Node} (hg : wants ops E o = some true) (hd : o.dst = none) (ho : o.op = .store t x y) (ht : tyc P t = some (ag, k))
  (hx : ev E x = some (.pointer (some ((⟨p, 0, none⟩ : Addr).add j)))) (hy : ev E y = some (.int kk v)) (hG : Good w s os) (hi : os[i]? = some A) (hA : A p = some (.cells cs 109 (0, 0))) (hr : ∀ v, NRest s A h1 (n1 v)) (hk : 1 = k) (hj : j + k ≤ cs.size)
  (he : cs.toList.take j ++ [.int kk v] ++ cs.toList.drop (j + k) = nodeV (n1 v) h1)
  (h : ∀ w' A', Good w' s (os.set i A') → Aux w w' → Nd s A' p h1 (n1 v) → S w' ∧ RL P m ops Q S rest E w') : RL P m ops Q S ((false, o) :: rest) E w :=
 RL.storeN hg hd ho ht hx hy hG hi hA (hr v) hk (by simp [Value.cells, Value.oneCell']) hj he h
theorem RL.storeT {t : TypeId} {k j : Nat} {i : Nat} {ag : Bool} {cs : Array Value} {v : Bool} {n1 : Bool → Node} (hg : wants ops E o = some true) (hd : o.dst = none) (ho : o.op = .store t x y) (ht : tyc P t = some (ag, k))
  (hx : ev E x = some (.pointer (some ((⟨p, 0, none⟩ : Addr).add j)))) (hy : ev E y = some (.bool v)) (hG : Good w s os) (hi : os[i]? = some A) (hA : A p = some (.cells cs 109 (0, 0))) (hr : ∀ v, NRest s A h1 (n1 v)) (hk : 1 = k) (hj : j + k ≤ cs.size)
  (he : cs.toList.take j ++ [.bool v] ++ cs.toList.drop (j + k) = nodeV (n1 v) h1)
  (h : ∀ w' A', Good w' s (os.set i A') → Aux w w' → Nd s A' p h1 (n1 v) → S w' ∧ RL P m ops Q S rest E w') : RL P m ops Q S ((false, o) :: rest) E w :=
 RL.storeN hg hd ho ht hx hy hG hi hA (hr v) hk (by simp [Value.cells, Value.oneCell']) hj he h
end
end Go.Lw

/-
 Clones: bytes, entries, ballots, peers; a configuration, an entry, a log in new memory.
-/
namespace Go.Lw
open Go.Proofs
attribute [local irreducible] RL RA
set_option maxRecDepth 100000 in
theorem CloneB_ct {w : World} {s r : Res} {os : List Res} {xs : List Int} {xa : Option Addr} {xc : Nat} (hg : Good w s os) (hr : r = s ∨ r ∈ os) (hx : xs = [] ∨ ∃ ad, xa = some ad ∧ Row (RInt .u8) 1 r s ad xs) (hl : xs.length * 1 ≤ 140737488355328) :
  Calls Tryz.prog 61 #[.slice xa xs.length xc] w (Post w s os fun s' A v => s' = s ∧ ∃ a c, v = .slice a xs.length c ∧ Own (RInt .u8) 1 5 s' A a c xs) := by
 have hone := RInt.one .u8
 refine enter (l := [.slice xa xs.length xc]) Tryz.func61 rfl Tryz.ntmps61 rfl ?_
 refine CW.seq (CW.plain ?_)
 refine RL.pd ?_
 refine CW.seq (CW.seq (CW.plain ?_))
 refine RL.pu ?_
 refine RL.nilEq rfl rfl rfl rfl sl28 rfl rfl ?_
 refine RL.done ?_
 refine CW.cond rfl (fun h => ?_) (fun h => ?_)
 ·
  refine CW.seq (CW.plain ?_)
  refine RL.pd ?_
  have hnil : xs = [] := by
   rcases hx with hx | ⟨ad, rfl, _⟩
   ·
    exact hx
   ·
    cases h
  subst hnil
  exact CW.ret (ret (vs := [_]) ⟨_, _, rfl, rfl, rfl⟩ (Post.mk (Le.refl _) hg.nil (Aux.refl _) ⟨rfl, none, 0, rfl, Own.nil _ _ _ _ _⟩))
 ·
  refine CW.skip ?_
  refine CW.seq (CW.plain ?_)
  refine RL.buildSlice rfl rfl rfl rfl sl28 ze5 rfl rfl rfl rfl hg ?_
  rintro b w1 hg1 hax1
  refine ⟨trivial, ?_⟩
  refine RL.pu ?_
  obtain ⟨news, hsrc, hch⟩ := Src.row (c := xc) sl28 hx (hg1.drop.has hr)
  refine RL.append (i := 0) (ys := xs) rfl rfl rfl rfl sl28 ze5 rfl (by first | exact RInt.one _ | exact RStr.one | exact RBool.one | assumption) rfl rfl hg1 rfl (Own.fresh (R := (RInt .u8)) (sz := 1) (el := 5) (s := s) (b := b)) (hsrc) (hch) ((by simp; omega)) (by omega) ?_
  rintro a2 c2 A2 w2 hg2 hown2 hax2 hkeep
  refine ⟨trivial, ?_⟩
  refine RL.pd ?_
  exact CW.ret (ret (vs := [_]) ⟨_, _, rfl, rfl, rfl⟩ (Post.mk (Le.refl _) hg2 (hax1.trans hax2) ⟨rfl, a2, c2, rfl, hown2⟩))
set_option maxRecDepth 100000 in
theorem CloneE_ct {w : World} {s r : Res} {os : List Res} {xs : List Entry} {xa : Option Addr} {xc : Nat} (hg : Good w s os) (hr : r = s ∨ r ∈ os) (hx : xs = [] ∨ ∃ ad, xa = some ad ∧ Row REntry 6 r s ad xs) (hl : xs.length * 96 ≤ 140737488355328) :
  Calls Tryz.prog 63 #[.slice xa xs.length xc] w (Post w s os fun s' A v => s' = s ∧ ∃ a c, v = .slice a xs.length c ∧ Own REntry 6 65 s' A a c xs) := by
 have hone := REntry.one
 refine enter (l := [.slice xa xs.length xc]) Tryz.func63 rfl Tryz.ntmps63 rfl ?_
 refine CW.seq (CW.plain ?_)
 refine RL.pd ?_
 refine CW.seq (CW.seq (CW.plain ?_))
 refine RL.pu ?_
 refine RL.nilEq rfl rfl rfl rfl sl31 rfl rfl ?_
 refine RL.done ?_
 refine CW.cond rfl (fun h => ?_) (fun h => ?_)
 ·
  refine CW.seq (CW.plain ?_)
  refine RL.pd ?_
  have hnil : xs = [] := by
   rcases hx with hx | ⟨ad, rfl, _⟩
   ·
    exact hx
   ·
    cases h
  subst hnil
  exact CW.ret (ret (vs := [_]) ⟨_, _, rfl, rfl, rfl⟩ (Post.mk (Le.refl _) hg.nil (Aux.refl _) ⟨rfl, none, 0, rfl, Own.nil _ _ _ _ _⟩))
 ·
  refine CW.skip ?_
  refine CW.seq (CW.plain ?_)
  refine RL.buildSlice rfl rfl rfl rfl sl31 ze65 rfl rfl rfl rfl hg ?_
  rintro b w1 hg1 hax1
  refine ⟨trivial, ?_⟩
  refine RL.pu ?_
  obtain ⟨news, hsrc, hch⟩ := Src.row (c := xc) sl31 hx (hg1.drop.has hr)
  refine RL.append (i := 0) (ys := xs) rfl rfl rfl rfl sl31 ze65 rfl (by first | exact RInt.one _ | exact RStr.one | exact RBool.one | assumption) rfl rfl hg1 rfl (Own.fresh (R := REntry) (sz := 6) (el := 65) (s := s) (b := b)) (hsrc) (hch) ((by simp; omega)) (by omega) ?_
  rintro a2 c2 A2 w2 hg2 hown2 hax2 hkeep
  refine ⟨trivial, ?_⟩
  refine RL.pd ?_
  exact CW.ret (ret (vs := [_]) ⟨_, _, rfl, rfl, rfl⟩ (Post.mk (Le.refl _) hg2 (hax1.trans hax2) ⟨rfl, a2, c2, rfl, hown2⟩))
set_option maxRecDepth 100000 in
theorem CloneBl_ct {w : World} {s r : Res} {os : List Res} {xs : List Ballot} {xa : Option Addr} {xc : Nat} (hg : Good w s os) (hr : r = s ∨ r ∈ os) (hx : xs = [] ∨ ∃ ad, xa = some ad ∧ Row RBallot 2 r s ad xs) (hl : xs.length * 16 ≤ 140737488355328) :
  Calls Tryz.prog 65 #[.slice xa xs.length xc] w (Post w s os fun s' A v => s' = s ∧ ∃ a c, v = .slice a xs.length c ∧ Own RBallot 2 133 s' A a c xs) := by
 have hone := RBallot.one
 refine enter (l := [.slice xa xs.length xc]) Tryz.func65 rfl Tryz.ntmps65 rfl ?_
 refine CW.seq (CW.plain ?_)
 refine RL.pd ?_
 refine CW.seq (CW.seq (CW.plain ?_))
 refine RL.pu ?_
 refine RL.nilEq rfl rfl rfl rfl sl39 rfl rfl ?_
 refine RL.done ?_
 refine CW.cond rfl (fun h => ?_) (fun h => ?_)
 ·
  refine CW.seq (CW.plain ?_)
  refine RL.pd ?_
  have hnil : xs = [] := by
   rcases hx with hx | ⟨ad, rfl, _⟩
   ·
    exact hx
   ·
    cases h
  subst hnil
  exact CW.ret (ret (vs := [_]) ⟨_, _, rfl, rfl, rfl⟩ (Post.mk (Le.refl _) hg.nil (Aux.refl _) ⟨rfl, none, 0, rfl, Own.nil _ _ _ _ _⟩))
 ·
  refine CW.skip ?_
  refine CW.seq (CW.plain ?_)
  refine RL.buildSlice rfl rfl rfl rfl sl39 ze133 rfl rfl rfl rfl hg ?_
  rintro b w1 hg1 hax1
  refine ⟨trivial, ?_⟩
  refine RL.pu ?_
  obtain ⟨news, hsrc, hch⟩ := Src.row (c := xc) sl39 hx (hg1.drop.has hr)
  refine RL.append (i := 0) (ys := xs) rfl rfl rfl rfl sl39 ze133 rfl (by first | exact RInt.one _ | exact RStr.one | exact RBool.one | assumption) rfl rfl hg1 rfl (Own.fresh (R := RBallot) (sz := 2) (el := 133) (s := s) (b := b)) (hsrc) (hch) ((by simp; omega)) (by omega) ?_
  rintro a2 c2 A2 w2 hg2 hown2 hax2 hkeep
  refine ⟨trivial, ?_⟩
  refine RL.pd ?_
  exact CW.ret (ret (vs := [_]) ⟨_, _, rfl, rfl, rfl⟩ (Post.mk (Le.refl _) hg2 (hax1.trans hax2) ⟨rfl, a2, c2, rfl, hown2⟩))
set_option maxRecDepth 100000 in
theorem ClonePe_ct {w : World} {s r : Res} {os : List Res} {xs : List Peer} {xa : Option Addr} {xc : Nat} (hg : Good w s os) (hr : r = s ∨ r ∈ os) (hx : xs = [] ∨ ∃ ad, xa = some ad ∧ Row RPeer 3 r s ad xs) (hl : xs.length * 24 ≤ 140737488355328) :
  Calls Tryz.prog 66 #[.slice xa xs.length xc] w (Post w s os fun s' A v => s' = s ∧ ∃ a c, v = .slice a xs.length c ∧ Own RPeer 3 136 s' A a c xs) := by
 have hone := RPeer.one
 refine enter (l := [.slice xa xs.length xc]) Tryz.func66 rfl Tryz.ntmps66 rfl ?_
 refine CW.seq (CW.plain ?_)
 refine RL.pd ?_
 refine CW.seq (CW.seq (CW.plain ?_))
 refine RL.pu ?_
 refine RL.nilEq rfl rfl rfl rfl sl40 rfl rfl ?_
 refine RL.done ?_
 refine CW.cond rfl (fun h => ?_) (fun h => ?_)
 ·
  refine CW.seq (CW.plain ?_)
  refine RL.pd ?_
  have hnil : xs = [] := by
   rcases hx with hx | ⟨ad, rfl, _⟩
   ·
    exact hx
   ·
    cases h
  subst hnil
  exact CW.ret (ret (vs := [_]) ⟨_, _, rfl, rfl, rfl⟩ (Post.mk (Le.refl _) hg.nil (Aux.refl _) ⟨rfl, none, 0, rfl, Own.nil _ _ _ _ _⟩))
 ·
  refine CW.skip ?_
  refine CW.seq (CW.plain ?_)
  refine RL.buildSlice rfl rfl rfl rfl sl40 ze136 rfl rfl rfl rfl hg ?_
  rintro b w1 hg1 hax1
  refine ⟨trivial, ?_⟩
  refine RL.pu ?_
  obtain ⟨news, hsrc, hch⟩ := Src.row (c := xc) sl40 hx (hg1.drop.has hr)
  refine RL.append (i := 0) (ys := xs) rfl rfl rfl rfl sl40 ze136 rfl (by first | exact RInt.one _ | exact RStr.one | exact RBool.one | assumption) rfl rfl hg1 rfl (Own.fresh (R := RPeer) (sz := 3) (el := 136) (s := s) (b := b)) (hsrc) (hch) ((by simp; omega)) (by omega) ?_
  rintro a2 c2 A2 w2 hg2 hown2 hax2 hkeep
  refine ⟨trivial, ?_⟩
  refine RL.pd ?_
  exact CW.ret (ret (vs := [_]) ⟨_, _, rfl, rfl, rfl⟩ (Post.mk (Le.refl _) hg2 (hax1.trans hax2) ⟨rfl, a2, c2, rfl, hown2⟩))
end Go.Lw

/-
 raftlog, what is read: empty, follows, run, Check, Last, place, Term, Newer.
-/
namespace Go.Lw
open Go.Proofs
attribute [local irreducible] RL RA
theorem decide_t {p : Prop} [Decidable p] (h : decide p = true) : p := of_decide_eq_true h
theorem decide_f {p : Prop} [Decidable p] (h : decide p = false) : ¬ p := of_decide_eq_false h
theorem len0 {α : Type} (l : List α) : (((l.length : Nat) : Int) == 0) = decide (l = []) := by cases l <;> simp <;> omega
section
variable {w : World} {s r : Res} {os : List Res}
theorem empty_sum {a b : Nat} (ha : a ≤ maxLen) (hb : b ≤ maxLen) : (IntKind.i64.wrap ((a : Int) + (b : Int)) == 0) = decide (a + b = 0) := by
 simp only [maxLen] at ha hb
 rw [Bool.eq_iff_iff, beq_iff_eq, decide_eq_true_eq]
 simp only [IntKind.wrap, IntKind.bits, IntKind.signed]
 simp
 split <;> omega
theorem empty_ct {c : Conf} {va la : Option Addr} {vc lc : Nat} (hg : Good w s os) (hv : c.voters.length ≤ maxLen) (hl : c.learners.length ≤ maxLen) :
  Calls Tryz.prog 122 #[.agg #[.slice va c.voters.length vc, .slice la c.learners.length lc]] w (PostV w s os fun q => q = .bool (emptyC c)) := by
 refine enter (l := [.agg #[.slice va c.voters.length vc, .slice la c.learners.length lc]]) Tryz.func122 rfl Tryz.ntmps122 rfl ?_
 refine CW.seq (CW.plain ?_)
 refine RL.boxN rfl rfl rfl rfl rfl hg ?_
 rintro b1 w1 Q1 (hg1 : Good _ s (Q1 :: os)) hax1 hb1
 refine ⟨trivial, ?_⟩
 refine RL.pd ?_
 refine CW.seq (CW.plain ?_)
 refine RL.fi fl27_0 ?_
 refine RL.lo 0 ty25 hb1 hg1 ?_
 refine RL.len rfl rfl rfl rfl sl25 rfl ?_
 refine RL.fi fl27_1 ?_
 refine RL.lo 1 ty25 hb1 hg1 ?_
 refine RL.len rfl rfl rfl rfl sl25 rfl ?_
 refine RL.pu ?_
 refine RL.as_ rfl rfl rfl rfl (.bool (emptyC c)) (congrArg Value.bool (empty_sum hv hl)) ?_
 refine RL.pd ?_
 refine CW.ret (ret (vs := [_]) ⟨_, _, rfl, rfl, rfl⟩ ?_)
 exact PostV.mk (hg1.drop) hax1 rfl
theorem blank_ct {c : Conf} {va la : Option Addr} {vc lc : Nat} (hg : Good w s os) (hv : c.voters.length ≤ maxLen) (hl : c.learners.length ≤ maxLen) :
  Calls Tryz.prog 59 #[.agg #[.slice va c.voters.length vc, .slice la c.learners.length lc]] w (PostV w s os fun q => q = .bool (emptyC c)) := by
 refine enter (l := [.agg #[.slice va c.voters.length vc, .slice la c.learners.length lc]]) Tryz.func59 rfl Tryz.ntmps59 rfl ?_
 refine CW.seq (CW.plain ?_)
 refine RL.boxN rfl rfl rfl rfl rfl hg ?_
 rintro b2 w2 Q2 (hg2 : Good _ s (Q2 :: os)) hax2 hb2
 refine ⟨trivial, ?_⟩
 refine RL.pd ?_
 refine CW.seq (CW.plain ?_)
 refine RL.fi fl27_0 ?_
 refine RL.lo 0 ty25 hb2 hg2 ?_
 refine RL.len rfl rfl rfl rfl sl25 rfl ?_
 refine RL.fi fl27_1 ?_
 refine RL.lo 1 ty25 hb2 hg2 ?_
 refine RL.len rfl rfl rfl rfl sl25 rfl ?_
 refine RL.pu ?_
 refine RL.as_ rfl rfl rfl rfl (.bool (emptyC c)) (congrArg Value.bool (empty_sum hv hl)) ?_
 refine RL.pd ?_
 refine CW.ret (ret (vs := [_]) ⟨_, _, rfl, rfl, rfl⟩ ?_)
 exact PostV.mk (hg2.drop) hax2 rfl
theorem follows_ct {e : Entry} {vs : List Value} {i t : Int} (hg : Good w s os) (hE : REntry s vs e) (h0 : 0 ≤ i) (hi : i < p62) (ht : rng .u64 t) :
  Calls Tryz.prog 88 #[.agg vs.toArray, u64 i, u64 t] w (PostV w s os fun q => q = .bool (followsP e i t)) := by
 obtain ⟨a, c, a1, c1, a2, c2, rfl, r1, r2, r3, h1, h2, h3⟩ := hE
 simp only [p62] at hi
 have hm1 := h1.le_max
 refine enter (l := [.agg #[u64 e.index, u64 e.term, i64 e.kind, .slice a e.data.length c, .slice a1 e.conf.voters.length c1, .slice a2 e.conf.learners.length c2], u64 i, u64 t]) Tryz.func88 rfl Tryz.ntmps88 rfl ?_
 refine CW.seq (CW.plain ?_)
 refine RL.boxN rfl rfl rfl rfl rfl hg ?_
 rintro b3 w3 Q3 (hg3 : Good _ s (Q3 :: os)) hax3 hb3
 refine ⟨trivial, ?_⟩
 refine RL.pd ?_
 refine CW.seq ?_
 refine CW.seq (CW.plain ?_)
 refine RL.fi fl65_0 ?_
 refine RL.lo 0 ty22 hb3 hg3 ?_
 refine RL.pu ?_
 refine RL.add rfl rfl rfl rfl rfl rfl ((by simp only [rng]; omega)) ?_
 refine RL.pp ?_
 refine RL.part 12 rfl (fun h12 => ?_) (fun h12 => ?_)
 ·
  refine RL.qq ?_
  refine RL.qq ?_
  refine RL.pp ?_
  refine RL.qq ?_
  refine RL.pa ?_
  refine RL.pd ?_
  refine CW.yes (by first | rfl | exact congrArg (fun b => some (Value.bool b)) (by assumption)) ?_
  refine CW.seq (CW.plain ?_)
  refine RL.pd ?_
  refine CW.ret (ret (vs := [_]) ⟨_, _, rfl, rfl, rfl⟩ ?_)
  refine PostV.mk (hg3.drop) hax3 (congrArg Value.bool ?_)
  simp_all [followsP, kindOk, emptyC, p62, len0]
  try (intro hx; first | omega | exact absurd (of_decide_eq_true hx) (by omega))
 ·
  refine RL.fi fl65_1 ?_
  refine RL.lo 1 ty22 hb3 hg3 ?_
  refine RL.pp ?_
  refine RL.pp ?_
  refine RL.part 18 rfl (fun h18 => ?_) (fun h18 => ?_)
  ·
   refine RL.qq ?_
   refine RL.pa ?_
   refine RL.pd ?_
   refine CW.yes (by first | rfl | exact congrArg (fun b => some (Value.bool b)) (by assumption)) ?_
   refine CW.seq (CW.plain ?_)
   refine RL.pd ?_
   refine CW.ret (ret (vs := [_]) ⟨_, _, rfl, rfl, rfl⟩ ?_)
   refine PostV.mk (hg3.drop) hax3 (congrArg Value.bool ?_)
   simp_all [followsP, kindOk, emptyC, p62, len0]
   try (intro hx; first | omega | exact absurd (of_decide_eq_true hx) (by omega))
  ·
   refine RL.fi fl65_1 ?_
   refine RL.lo 1 ty22 hb3 hg3 ?_
   refine RL.pu ?_
   refine RL.pd ?_
   refine CW.cond rfl (fun h22 => ?_) (fun h22 => ?_)
   ·
    refine CW.seq (CW.plain ?_)
    refine RL.pd ?_
    refine CW.ret (ret (vs := [_]) ⟨_, _, rfl, rfl, rfl⟩ ?_)
    refine PostV.mk (hg3.drop) hax3 (congrArg Value.bool ?_)
    simp_all [followsP, kindOk, emptyC, p62, len0]
    try (intro hx; first | omega | exact absurd (of_decide_eq_true hx) (by omega))
   ·
    refine CW.skip ?_
    refine CW.seq ?_
    refine CW.seq (CW.plain ?_)
    refine RL.fi fl65_2 ?_
    refine RL.lo 2 ty63 hb3 hg3 ?_
    refine RL.done ?_
    refine CW.block ?_
    refine CW.seq (CW.plain ?_)
    refine RL.pu ?_
    refine RL.pd ?_
    refine CW.cond rfl (fun h25 => ?_) (fun h25 => ?_)
    ·
     refine CW.seq (CW.plain ?_)
     refine RL.fi fl65_4 ?_
     refine RL.ls 4 ty27 hb3 hg3 ?_
     refine RL.callV rfl rfl rfl rfl rfl ca122 (empty_ct hg3 h2.le_max h3.le_max) ?_
     rintro v4 w4 (hg4 : Good _ s (Q3 :: os)) hax4 rfl
     refine ⟨trivial, ?_⟩
     refine RL.pu ?_
     refine RL.part 30 rfl (fun h30 => ?_) (fun h30 => ?_)
     ·
      refine RL.fi fl65_3 ?_
      refine RL.lo 3 ty28 hb3 hg4 ?_
      refine RL.len rfl rfl rfl rfl sl28 rfl ?_
      refine RL.pp ?_
      refine RL.pd ?_
      refine CW.ret (ret (vs := [_]) ⟨_, _, rfl, rfl, rfl⟩ ?_)
      refine PostV.mk (hg4.drop) (hax3.trans hax4) (congrArg Value.bool ?_)
      simp_all [followsP, kindOk, emptyC, p62, len0]
      try (intro hx; first | omega | exact absurd (of_decide_eq_true hx) (by omega))
     ·
      refine RL.qq ?_
      refine RL.qq ?_
      refine RL.pu ?_
      refine RL.pd ?_
      refine CW.ret (ret (vs := [_]) ⟨_, _, rfl, rfl, rfl⟩ ?_)
      refine PostV.mk (hg4.drop) (hax3.trans hax4) (congrArg Value.bool ?_)
      simp_all [followsP, kindOk, emptyC, p62, len0]
      try (intro hx; first | omega | exact absurd (of_decide_eq_true hx) (by omega))
    ·
     refine CW.seq (CW.plain ?_)
     refine RL.pu ?_
     refine RL.pd ?_
     refine CW.cond rfl (fun h36 => ?_) (fun h36 => ?_)
     ·
      refine CW.seq (CW.plain ?_)
      refine RL.fi fl65_4 ?_
      refine RL.ls 4 ty27 hb3 hg3 ?_
      refine RL.callV rfl rfl rfl rfl rfl ca122 (empty_ct hg3 h2.le_max h3.le_max) ?_
      rintro v5 w5 (hg5 : Good _ s (Q3 :: os)) hax5 rfl
      refine ⟨trivial, ?_⟩
      refine RL.pd ?_
      refine CW.ret (ret (vs := [_]) ⟨_, _, rfl, rfl, rfl⟩ ?_)
      refine PostV.mk (hg5.drop) (hax3.trans hax5) (congrArg Value.bool ?_)
      simp_all [followsP, kindOk, emptyC, p62, len0]
      try (intro hx; first | omega | exact absurd (of_decide_eq_true hx) (by omega))
     ·
      refine CW.seq (CW.plain ?_)
      refine RL.pu ?_
      refine RL.pd ?_
      refine CW.cond rfl (fun h41 => ?_) (fun h41 => ?_)
      ·
       refine CW.seq (CW.plain ?_)
       refine RL.fi fl65_3 ?_
       refine RL.lo 3 ty28 hb3 hg3 ?_
       refine RL.len rfl rfl rfl rfl sl28 rfl ?_
       refine RL.pu ?_
       refine RL.pd ?_
       refine CW.ret (ret (vs := [_]) ⟨_, _, rfl, rfl, rfl⟩ ?_)
       refine PostV.mk (hg3.drop) hax3 (congrArg Value.bool ?_)
       simp_all [followsP, kindOk, emptyC, p62, len0]
       try (intro hx; first | omega | exact absurd (of_decide_eq_true hx) (by omega))
      ·
       refine CW.skip ?_
       refine CW.seq (CW.plain ?_)
       refine RL.pd ?_
       refine CW.ret (ret (vs := [_]) ⟨_, _, rfl, rfl, rfl⟩ ?_)
       refine PostV.mk (hg3.drop) hax3 (congrArg Value.bool ?_)
       simp_all [followsP, kindOk, emptyC, p62, len0]
       try (intro hx; first | omega | exact absurd (of_decide_eq_true hx) (by omega))
theorem runE_step {i t : Int} {xs : List Entry} {k : Nat} {i' t' : Int} (hk : k < xs.length) (h : runE i t xs = runE i' t' (xs.drop k)) (hf : followsP xs[k] i' t' = true) : runE i t xs = runE xs[k].index xs[k].term (xs.drop (k + 1)) := by
 rw [h, List.drop_eq_getElem_cons hk]
 simp only [runE, hf, Bool.true_and]
theorem run_ct {xs : List Entry} {a : Option Addr} {c : Nat} {i t : Int} (hg : Good w s os) (hr : r = s ∨ r ∈ os) (hl : Lies REntry 6 r s a c xs) (hi : rng .u64 i) (ht : rng .u64 t) :
  Calls Tryz.prog 56 #[u64 i, u64 t, .slice a xs.length c] w (PostV w s os fun q => q = .bool (runP i t xs)) := by
 have hm := hl.le_max
 simp only [maxLen] at hm
 simp only [rng] at hi
 refine enter (l := [u64 i, u64 t, .slice a xs.length c]) Tryz.func56 rfl Tryz.ntmps56 rfl ?_
 refine CW.seq (CW.plain ?_)
 refine RL.pd ?_
 refine CW.seq ?_
 refine CW.seq (CW.plain ?_)
 refine RL.pp ?_
 refine RL.pu ?_
 refine RL.part 11 rfl (fun h11 => ?_) (fun h11 => ?_)
 ·
  refine RL.qq ?_
  refine RL.qq ?_
  refine RL.qq ?_
  refine RL.pd ?_
  refine CW.yes (by first | rfl | exact congrArg (fun b => some (Value.bool b)) (by assumption)) ?_
  refine CW.seq (CW.plain ?_)
  refine RL.pd ?_
  refine CW.ret (ret (vs := [_]) ⟨_, _, rfl, rfl, rfl⟩ ?_)
  exact PostV.mk hg (Aux.refl _) (congrArg Value.bool (by have := decide_t h11; simp only [runP]; rw [decide_eq_false (by simp only [p62]; omega)]; rfl))
 ·
  refine RL.pu ?_
  refine RL.len rfl rfl rfl rfl sl31 rfl ?_
  refine RL.conv rfl rfl rfl rfl Tryz.underlying3 Tryz.underlying22 rfl ((by simp only [rng]; omega)) ?_
  refine RL.pu ?_
  refine RL.sub rfl rfl rfl rfl rfl rfl ((by have := decide_f h11; simp only [rng]; omega)) ?_
  refine RL.pu ?_
  refine RL.pd ?_
  refine CW.cond rfl (fun h18 => ?_) (fun h18 => ?_)
  ·
   refine CW.seq (CW.plain ?_)
   refine RL.pd ?_
   refine CW.ret (ret (vs := [_]) ⟨_, _, rfl, rfl, rfl⟩ ?_)
   exact PostV.mk hg (Aux.refl _) (congrArg Value.bool (by have := decide_t h18; simp only [runP]; rw [decide_eq_false (show ¬ (xs.length : Int) < p62 - i by simp only [p62]; omega)]; simp))
  ·
   refine CW.skip ?_
   refine CW.seq ?_
   refine CW.seq (CW.plain ?_)
   refine RL.pu ?_
   refine RL.len rfl rfl rfl rfl sl31 rfl ?_
   refine RL.pd ?_
   refine CW.block ?_
   have hb1 : i < p62 := by have := decide_f h11; simp only [p62]; omega
   have hb2 : i + xs.length < p62 := by have := decide_f h18; simp only [p62]; omega
   have hr0 : runP i t xs = runE i t xs := by simp only [runP, decide_eq_true hb1, Bool.true_and, decide_eq_true (show (xs.length : Int) < p62 - i by omega)]
   refine CW.loop (σ := Nat) (fun j E w' => Good w' s os ∧ Aux w w' ∧ ∃ (k : Nat) (i' t' : Int), E = [(0, u64 i'), (1, u64 t'), (19, .slice a xs.length c), (20, i64 xs.length), (21, i64 k)] ∧ k + j = xs.length ∧ i' = i + k ∧ rng .u64 t' ∧ runE i t xs = runE i' t' (xs.drop k)) (fun j => j) xs.length [(0, u64 i), (1, u64 t), (19, .slice a xs.length c), (20, i64 xs.length), (21, i64 0)] ⟨rfl, rfl, rfl, rfl, rfl, trivial⟩ ⟨hg, (Aux.refl _), 0, i, t, rfl, by omega, by simp, ht, rfl⟩ ?_
   rintro j E wL ⟨hgL, haxL, k, i', t', rfl, hk, hi', ht', hrr⟩
   refine CW.seq (CW.plain ?_)
   refine RL.pd ?_
   refine CW.seq ?_
   refine CW.cond rfl (fun h22 => ?_) (fun h22 => ?_)
   ·
    refine CW.skip ?_
    refine CW.seq ?_
    refine CW.block ?_
    refine CW.seq (CW.plain ?_)
    have hlt : k < xs.length := by have := decide_t h22; omega
    refine RL.idxL rfl rfl rfl rfl sl31 rfl rfl hl (by omega) (by omega) ?_
    rintro q vs hvl hH hE
    have hE2 := hE
    obtain ⟨ea, ec, ea1, ec1, ea2, ec2, rfl, er1, er2, er3, eh1, eh2, eh3⟩ := hE2
    refine RL.loads (j := 0) (us := _) rfl rfl rfl rfl ty65 rfl (hH) (hgL.has hr) rfl rfl ?_
    refine RL.allocN rfl rfl rfl rfl ze65 hgL ?_
    rintro b6 w6 Q6 (hg6 : Good _ s (Q6 :: os)) hax6 hb6
    refine ⟨trivial, ?_⟩
    refine RL.sB (b := b6) (i := 0) (j := 0) rfl rfl rfl ty65 rfl rfl hg6 rfl (hb6) rfl rfl ?_
    rintro w7 Q7 (hg7 : Good _ s (Q7 :: os)) hax7 hb7
    refine ⟨trivial, ?_⟩
    refine RL.done ?_
    refine CW.seq ?_
    refine CW.seq (CW.plain ?_)
    refine RL.ls 0 ty65 hb7 hg7 ?_
    refine RL.pp ?_
    refine RL.callV rfl rfl rfl rfl rfl ca88 (follows_ct hg7 hE (by omega) (by omega) ht') ?_
    rintro v8 w8 (hg8 : Good _ s (Q7 :: os)) hax8 rfl
    refine ⟨trivial, ?_⟩
    refine RL.pd ?_
    refine CW.cond rfl (fun h29 => ?_) (fun h29 => ?_)
    ·
     refine CW.seq (CW.plain ?_)
     refine RL.pd ?_
     refine CW.ret (ret (vs := [_]) ⟨_, _, rfl, rfl, rfl⟩ ?_)
     refine PostV.mk (hg8.drop) (haxL.trans (hax6.trans (hax7.trans hax8))) (congrArg Value.bool ?_)
     rw [hr0, hrr, List.drop_eq_getElem_cons hlt]
     simp only [Int.toNat_natCast, Bool.not_eq_true'] at h29
     simp [runE, h29]
    ·
     refine CW.skip ?_
     have hg9 := hg8.drew
     refine CW.draws [(true, 0), (true, 1), (true, 2), (true, 3), (false, 4), (false, 5)] (fun w => At1 b6 _ w ∧ True) mixed (by kernel_rfl) (by kernel_rfl) (by kernel_rfl) (by kernel_rfl) (⟨hg9.at1 (by simp) hb7, trivial⟩) ?_
     refine RL.fi fl65_0 ?_
     refine RL.loadT (ad := ⟨b6, 0, none⟩) (j := 0) rfl rfl rfl rfl ty22 rfl (At1.holds) (fun w h => h.1.inn) rfl ?_
     refine RL.fi fl65_1 ?_
     refine RL.loadT (ad := ⟨b6, 0, none⟩) (j := 1) rfl rfl rfl rfl ty22 rfl (At1.holds) (fun w h => h.1.inn) rfl ?_
     refine RL.pu ?_
     refine RL.pd ?_
     refine CW.plain ?_
     refine RL.add rfl rfl rfl rfl rfl rfl ((by simp only [rng]; omega)) ?_
     refine RL.pd ?_
     simp only [Int.toNat_natCast, Bool.not_eq_false'] at h29
     have hrr2 := runE_step hlt hrr h29
     have hix : xs[k].index = i' + 1 := by simp only [followsP, Bool.and_eq_true, decide_eq_true_eq] at h29; exact h29.1.1.1
     cases j with
     | zero => omega
     | succ j => exact fun ac ha => ⟨j, [(0, u64 xs[k].index), (1, u64 xs[k].term), (19, .slice a xs.length c), (20, i64 xs.length), (21, i64 ((k : Int) + 1))], ha.sub ⟨rfl, rfl, rfl, rfl, rfl, trivial⟩, ⟨(hg9.drop), (haxL.trans (hax6.trans (hax7.trans (hax8.trans (Aux.drew _))))), k + 1, _, _, rfl, by omega, by rw [hix, hi']; omega, er2, hrr2⟩, Nat.lt_succ_self j⟩
   ·
    refine CW.exit ?_
    refine CW.seq (CW.plain ?_)
    refine RL.pd ?_
    refine CW.ret (ret (vs := [_]) ⟨_, _, rfl, rfl, rfl⟩ ?_)
    have hke : k = xs.length := by have := decide_f h22; omega
    refine PostV.mk hgL haxL (congrArg Value.bool ?_)
    rw [hr0, hrr, hke, List.drop_length]; rfl
abbrev logA (l : Log) (h : Hd) : Value := .agg (logV l h).toArray
theorem Check_log_ct {l : Log} {h : Hd} (hg : Good w s os) (hr : r = s ∨ r ∈ os) (hl : LogAt r s l h) :
  Calls Tryz.prog 29 #[logA l h] w (PostV w s os fun q => q = .bool (logOk l)) := by
 refine enter (l := [logA l h]) Tryz.func29 rfl Tryz.ntmps29 rfl ?_
 refine CW.seq (CW.plain ?_)
 refine RL.boxN rfl rfl rfl rfl rfl hg ?_
 rintro b10 w10 Q10 (hg10 : Good _ s (Q10 :: os)) hax10 hb10
 refine ⟨trivial, ?_⟩
 refine RL.pd ?_
 refine CW.seq (CW.plain ?_)
 refine RL.fi fl33_0 ?_
 refine RL.fi fl30_1 ?_
 refine RL.lo 1 ty22 hb10 hg10 ?_
 refine RL.pp ?_
 refine RL.part 7 rfl (fun h7 => ?_) (fun h7 => ?_)
 ·
  refine RL.fi fl33_0 ?_
  refine RL.fi fl30_0 ?_
  refine RL.lo 0 ty22 hb10 hg10 ?_
  refine RL.fi fl33_0 ?_
  refine RL.fi fl30_1 ?_
  refine RL.lo 1 ty22 hb10 hg10 ?_
  refine RL.fi fl33_1 ?_
  refine RL.lo 5 ty31 hb10 hg10 ?_
  refine RL.callV rfl rfl rfl rfl rfl ca56 (run_ct hg10 (hr.imp id (List.mem_cons_of_mem _)) hl.entries hl.index hl.term) ?_
  rintro v11 w11 (hg11 : Good _ s (Q10 :: os)) hax11 rfl
  refine ⟨trivial, ?_⟩
  refine RL.pu ?_
  refine RL.pd ?_
  refine CW.ret (ret (vs := [_]) ⟨_, _, rfl, rfl, rfl⟩ ?_)
  refine PostV.mk (hg11.drop) (hax10.trans hax11) (congrArg Value.bool ?_)
  simp_all [logOk, p62]
  try (intro hx; first | omega | exact absurd (of_decide_eq_true hx) (by omega))
 ·
  refine RL.qq ?_
  refine RL.qq ?_
  refine RL.qq ?_
  refine RL.qq ?_
  refine RL.pa ?_
  refine RL.pu ?_
  refine RL.pd ?_
  refine CW.ret (ret (vs := [_]) ⟨_, _, rfl, rfl, rfl⟩ ?_)
  refine PostV.mk (hg10.drop) hax10 (congrArg Value.bool ?_)
  simp_all [logOk, p62]
  try (intro hx; first | omega | exact absurd (of_decide_eq_true hx) (by omega))
theorem Search_ct {n g : Nat} {cap : Array Value} {p : Nat → Bool} (hg : Good w s os) (hn : n < 4611686018427387904) (hc : callable Tryz.prog g = true) (hp : ∀ k, k < n → ∀ w', Good w' s os → Calls Tryz.prog g (#[i64 k] ++ cap) w' (PostV w' s os fun q => q = .bool (p k))) :
  Calls Tryz.prog 157 #[i64 n, .func (.func g) #[] cap] w (PostV w s os fun q => q = i64 (searchP p 0 n)) := by
 refine enter (l := [i64 n, .func (.func g) #[] cap]) Tryz.func157 rfl Tryz.ntmps157 rfl ?_
 refine CW.seq (CW.plain ?_)
 refine RL.pd ?_
 refine CW.seq (CW.plain ?_)
 refine RL.pp ?_
 refine RL.pd ?_
 refine CW.seq ?_
 refine CW.block ?_
 refine CW.loop (σ := Nat) (fun j E w' => Good w' s os ∧ Aux w w' ∧ ∃ (a b : Nat), E = [(1, .func (.func g) #[] cap), (5, i64 a), (6, i64 b)] ∧ a ≤ b ∧ b ≤ n ∧ j = b - a ∧ searchP p 0 n = searchP p a b) (fun j => j) n [(1, .func (.func g) #[] cap), (5, i64 0), (6, i64 n)] ⟨rfl, rfl, rfl, trivial⟩ ⟨hg, (Aux.refl _), 0, n, rfl, by omega, by omega, by omega, rfl⟩ ?_
 rintro j E wL ⟨hgL, haxL, a, b, rfl, hab, hbn, hj, hs⟩
 refine CW.seq ?_
 refine CW.seq (CW.plain ?_)
 refine RL.pp ?_
 refine RL.pd ?_
 refine CW.cond rfl (fun h11 => ?_) (fun h11 => ?_)
 ·
  refine CW.skip ?_
  refine CW.block ?_
  refine CW.seq (CW.plain ?_)
  refine RL.pp ?_
  have hlt : a < b := by have := decide_t h11; omega
  refine RL.add rfl rfl rfl rfl rfl rfl ((by simp only [rng]; omega)) ?_
  refine RL.conv rfl rfl rfl rfl Tryz.underlying3 Tryz.underlying200 rfl ((by simp only [rng]; omega)) ?_
  refine RL.shr 1 rfl rfl rfl rfl rfl rfl rfl (by decide) ?_
  refine RL.conv rfl rfl rfl rfl Tryz.underlying200 Tryz.underlying3 rfl ((by simp only [rng]; omega)) ?_
  refine RL.pd ?_
  refine CW.seq (CW.plain ?_)
  refine RL.pp ?_
  have hm : ((a : Int) + (b : Int)) / 2 ^ 1 = (((a + b) / 2 : Nat) : Int) := by omega
  simp only [hm]
  refine RL.callF rfl rfl rfl rfl rfl rfl hc (hp ((a + b) / 2) (by omega) _ hgL) ?_
  rintro e1 w1 ⟨v1, rfl, hg1, hax1, rfl⟩
  refine ⟨_, rfl, trivial, ?_⟩
  refine RL.pd ?_
  refine CW.cond rfl (fun h21 => ?_) (fun h21 => ?_)
  ·
   refine CW.plain ?_
   refine RL.pu ?_
   refine RL.add rfl rfl rfl rfl rfl rfl ((by simp only [rng]; omega)) ?_
   refine RL.pd ?_
   have hs : searchP p 0 n = searchP p ((a + b) / 2 + 1) b := hs.trans (by rw [searchP, dif_pos hlt, if_neg (by simpa using h21)])
   exact fun ac ha => ⟨b - ((a + b) / 2 + 1), [(1, .func (.func g) #[] cap), (5, i64 ((((a + b) / 2 : Nat) : Int) + 1)), (6, i64 b)], ha.sub ⟨rfl, rfl, rfl, trivial⟩, ⟨hg1, haxL.trans hax1, (a + b) / 2 + 1, b, rfl, by omega, by omega, rfl, hs⟩, by omega⟩
  ·
   refine CW.plain ?_
   refine RL.pu ?_
   refine RL.pd ?_
   have hs : searchP p 0 n = searchP p a ((a + b) / 2) := hs.trans (by rw [searchP, dif_pos hlt, if_pos (by simpa using h21)])
   exact fun ac ha => ⟨(a + b) / 2 - a, [(1, .func (.func g) #[] cap), (5, i64 a), (6, i64 (((a + b) / 2 : Nat) : Int))], ha.sub ⟨rfl, rfl, rfl, trivial⟩, ⟨hg1, haxL.trans hax1, a, (a + b) / 2, rfl, by omega, by omega, rfl, hs⟩, by omega⟩
 ·
  refine CW.exit ?_
  refine CW.seq (CW.plain ?_)
  refine RL.pu ?_
  refine RL.pd ?_
  refine CW.ret (ret (vs := [_]) ⟨_, _, rfl, rfl, rfl⟩ ?_)
  have hnl : ¬ a < b := by have := decide_f h11; omega
  have hs : searchP p 0 n = a := hs.trans (by rw [searchP, dif_neg hnl])
  exact PostV.mk hgL haxL (by rw [hs]; rfl)
theorem place1_ct {l : Log} {h : Hd} {i : Int} {b1 b2 k : Nat} {B1 B2 : Res} (hg : Good w s (B2 :: B1 :: os)) (hr : r = s ∨ r ∈ B2 :: B1 :: os) (hl : LogAt r s l h) (c1 : B1 b1 = some (.cells (logV l h).toArray 33 (0, 0))) (c2 : B2 b2 = some (.cells #[u64 i] 22 (0, 0))) (hk : k < l.entries.length) :
  Calls Tryz.prog 158 #[i64 k, ptr b1, ptr b2] w (PostV w s (B2 :: B1 :: os) fun q => q = .bool (notBelow l.entries i k)) := by
 refine enter (l := [i64 k, ptr b1, ptr b2]) Tryz.func158 rfl Tryz.ntmps158 rfl ?_
 refine CW.seq (CW.plain ?_)
 refine RL.pd ?_
 refine CW.seq ?_
 have hg12 := hg.drew
 refine CW.draws [(true, 0), (true, 1), (true, 2), (true, 3), (true, 4), (true, 5), (true, 6), (true, 7), (false, 8)] (fun w => At1 b1 _ w ∧ At1 b2 _ w ∧ In r w ∧ True) mixed (by kernel_rfl) (by kernel_rfl) (by kernel_rfl) (by kernel_rfl) (⟨hg12.at1 (by simp) c1, hg12.at1 (by simp) c2, hg12.has hr, trivial⟩) ?_
 refine RL.fi fl33_1 ?_
 refine RL.loadT (ad := ⟨b1, 0, none⟩) (j := 5) rfl rfl rfl rfl ty31 rfl (At1.holds) (fun w h => h.1.inn) rfl ?_
 refine RL.pu ?_
 refine RL.idxL rfl rfl rfl rfl sl31 rfl rfl hl.entries (by omega) (by omega) ?_
 rintro q vs hvl hH ⟨ea, ec, ea1, ec1, ea2, ec2, rfl, er1, er2, er3, eh1, eh2, eh3⟩
 refine RL.fi fl65_0 ?_
 refine RL.loadT (j := 0) rfl rfl rfl rfl ty22 rfl (hH) (fun w h => h.2.2.1) rfl ?_
 refine RL.loadT (ad := ⟨b2, 0, none⟩) (j := 0) rfl rfl rfl rfl ty22 rfl (At1.holds) (fun w h => h.2.1.inn) rfl ?_
 refine RL.pu ?_
 refine RL.pd ?_
 refine CW.ret (ret (vs := [_]) ⟨_, _, rfl, rfl, rfl⟩ ?_)
 refine PostV.mk hg12 (Aux.drew _) (congrArg Value.bool ?_)
 simp only [notBelow, List.getElem?_eq_getElem hk, Int.toNat_natCast, ge_iff_le]
set_option maxRecDepth 100000 in
theorem place_ct {l : Log} {h : Hd} {i : Int} (hg : Good w s os) (hr : r = s ∨ r ∈ os) (hl : LogAt r s l h) (hn : l.entries.length < 4611686018427387904) :
  Calls Tryz.prog 138 #[logA l h, u64 i] w (PostV w s os fun q => q = i64 (placeP l i)) := by
 refine enter (l := [logA l h, u64 i]) Tryz.func138 rfl Tryz.ntmps138 rfl ?_
 refine CW.seq (CW.plain ?_)
 refine RL.boxN rfl rfl rfl rfl rfl hg ?_
 rintro b13 w13 Q13 (hg13 : Good _ s (Q13 :: os)) hax13 hb13
 refine ⟨trivial, ?_⟩
 refine RL.boxN rfl rfl rfl rfl rfl hg13 ?_
 rintro b14 w14 Q14 (hg14 : Good _ s (Q14 :: Q13 :: os)) hax14 hb14
 refine ⟨trivial, ?_⟩
 refine RL.pd ?_
 refine CW.seq (CW.plain ?_)
 refine RL.fi fl33_1 ?_
 refine RL.lo 5 ty31 hb13 hg14 ?_
 refine RL.len rfl rfl rfl rfl sl31 rfl ?_
 refine RL.makeF rfl rfl rfl rfl rfl ?_
 refine RL.callV rfl rfl rfl rfl rfl ca157 (Search_ct hg14 hn rfl (fun k hk w' hg' => place1_ct hg' (hr.imp id fun z => List.mem_cons_of_mem _ (List.mem_cons_of_mem _ z)) hl hb13 hb14 hk)) ?_
 rintro v15 w15 (hg15 : Good _ s (Q14 :: Q13 :: os)) hax15 rfl
 refine ⟨trivial, ?_⟩
 refine RL.pd ?_
 refine CW.ret (ret (vs := [_]) ⟨_, _, rfl, rfl, rfl⟩ ?_)
 exact PostV.mk ((hg15.drop).drop) (hax13.trans (hax14.trans hax15)) rfl
theorem getLast_get {l : List Entry} (h : 0 < l.length) : l.getLast? = some (l[l.length - 1]'(by omega)) := by
 rw [List.getLast?_eq_getElem?, List.getElem?_eq_getElem]
set_option maxRecDepth 100000 in
theorem Last_ct {l : Log} {h : Hd} (hg : Good w s os) (hr : r = s ∨ r ∈ os) (hl : LogAt r s l h) :
  Calls Tryz.prog 31 #[logA l h] w (PostV w s os fun q => q = .tuple #[u64 (lastP l).1, u64 (lastP l).2]) := by
 have hm := hl.entries.le_max
 simp only [maxLen] at hm
 refine enter (l := [logA l h]) Tryz.func31 rfl Tryz.ntmps31 rfl ?_
 refine CW.seq (CW.plain ?_)
 refine RL.boxN rfl rfl rfl rfl rfl hg ?_
 rintro b16 w16 Q16 (hg16 : Good _ s (Q16 :: os)) hax16 hb16
 refine ⟨trivial, ?_⟩
 refine RL.pu ?_
 refine RL.pd ?_
 refine CW.seq ?_
 refine CW.seq (CW.plain ?_)
 refine RL.fi fl33_1 ?_
 refine RL.lo 5 ty31 hb16 hg16 ?_
 refine RL.len rfl rfl rfl rfl sl31 rfl ?_
 refine RL.pd ?_
 refine CW.seq (CW.plain ?_)
 refine RL.pu ?_
 refine RL.pd ?_
 refine CW.cond rfl (fun h9 => ?_) (fun h9 => ?_)
 ·
  refine CW.seq ?_
  have hg17 := hg16.drew
  refine CW.draws [(true, 0), (true, 1), (true, 2), (true, 3), (true, 4), (true, 5), (true, 6), (true, 7), (true, 8), (true, 9), (true, 10), (true, 11), (true, 12), (true, 13), (false, 14), (false, 15)] (fun w => At1 b16 _ w ∧ In r w ∧ True) mixed (by kernel_rfl) (by kernel_rfl) (by kernel_rfl) (by kernel_rfl) (⟨hg17.at1 (by simp) hb16, hg17.has (hr.imp id (List.mem_cons_of_mem _)), trivial⟩) ?_
  refine RL.fi fl33_1 ?_
  refine RL.loadT (ad := ⟨b16, 0, none⟩) (j := 5) rfl rfl rfl rfl ty31 rfl (At1.holds) (fun w h => h.1.inn) rfl ?_
  refine RL.pu ?_
  have hp : 0 < l.entries.length := by have := decide_t h9; omega
  refine RL.sub rfl rfl rfl rfl rfl rfl ((by simp only [rng]; omega)) ?_
  refine RL.idxL rfl rfl rfl rfl sl31 rfl rfl hl.entries (by omega) (by omega) ?_
  rintro q vs hvl hH ⟨ea, ec, ea1, ec1, ea2, ec2, rfl, er1, er2, er3, eh1, eh2, eh3⟩
  refine RL.fi fl65_0 ?_
  refine RL.loadT (j := 0) rfl rfl rfl rfl ty22 rfl (hH) (fun w h => h.2.1) rfl ?_
  refine RL.fi fl33_1 ?_
  refine RL.loadT (ad := ⟨b16, 0, none⟩) (j := 5) rfl rfl rfl rfl ty31 rfl (At1.holds) (fun w h => h.1.inn) rfl ?_
  refine RL.pu ?_
  refine RL.sub rfl rfl rfl rfl rfl rfl ((by simp only [rng]; omega)) ?_
  refine RL.idxL rfl rfl rfl rfl sl31 rfl rfl hl.entries (by omega) (by omega) ?_
  rintro q2 vs2 hvl2 hH2 ⟨fa, fc, fa1, fc1, fa2, fc2, rfl, fr1, fr2, fr3, fh1, fh2, fh3⟩
  refine RL.fi fl65_1 ?_
  refine RL.loadT (j := 1) rfl rfl rfl rfl ty22 rfl (hH2) (fun w h => h.2.1) rfl ?_
  refine RL.pu ?_
  refine RL.pd ?_
  refine CW.ret (ret (vs := [_, _]) ⟨_, _, rfl, rfl, _, _, rfl, rfl, rfl⟩ ?_)
  have he : ((l.entries.length : Int) - 1).toNat = l.entries.length - 1 := by omega
  refine PostV.mk (hg17.drop) (hax16.trans (Aux.drew _)) ?_
  simp only [whole, he]
  simp only [lastP, getLast_get hp]
 ·
  refine CW.skip ?_
  refine CW.seq ?_
  have hg18 := hg16.drew
  refine CW.draws [(true, 0), (true, 1), (true, 2), (true, 3), (true, 4), (true, 5), (false, 6), (false, 7)] (fun w => At1 b16 _ w ∧ True) mixed (by kernel_rfl) (by kernel_rfl) (by kernel_rfl) (by kernel_rfl) (⟨hg18.at1 (by simp) hb16, trivial⟩) ?_
  refine RL.fi fl33_0 ?_
  refine RL.fi fl30_0 ?_
  refine RL.loadT (ad := ⟨b16, 0, none⟩) (j := 0) rfl rfl rfl rfl ty22 rfl (At1.holds) (fun w h => h.1.inn) rfl ?_
  refine RL.fi fl33_0 ?_
  refine RL.fi fl30_1 ?_
  refine RL.loadT (ad := ⟨b16, 0, none⟩) (j := 1) rfl rfl rfl rfl ty22 rfl (At1.holds) (fun w h => h.1.inn) rfl ?_
  refine RL.pu ?_
  refine RL.pd ?_
  refine CW.ret (ret (vs := [_, _]) ⟨_, _, rfl, rfl, _, _, rfl, rfl, rfl⟩ ?_)
  have h0 : l.entries = [] := List.eq_nil_of_length_eq_zero (by have := decide_f h9; omega)
  refine PostV.mk (hg18.drop) (hax16.trans (Aux.drew _)) ?_
  simp only [whole, lastP, h0, List.getLast?_nil]
theorem termP_no {l : Log} {i : Int} (h : i ≠ l.base.index) (hk : ¬ placeP l i < l.entries.length) : termP l i = (0, false) := by
 unfold termP; rw [if_neg h, List.getElem?_eq_none (by omega)]
theorem termP_at {l : Log} {i : Int} (h : i ≠ l.base.index) (hk : placeP l i < l.entries.length) : termP l i = if l.entries[placeP l i].index = i then (l.entries[placeP l i].term, true) else (0, false) := by
 unfold termP; rw [if_neg h, List.getElem?_eq_getElem hk]
set_option maxRecDepth 100000 in
theorem Term_ct {l : Log} {h : Hd} {i : Int} (hg : Good w s os) (hr : r = s ∨ r ∈ os) (hl : LogAt r s l h) (hn : l.entries.length < 4611686018427387904) :
  Calls Tryz.prog 115 #[logA l h, u64 i] w (PostV w s os fun q => q = .tuple #[u64 (termP l i).1, .bool (termP l i).2]) := by
 refine enter (l := [logA l h, u64 i]) Tryz.func115 rfl Tryz.ntmps115 rfl ?_
 refine CW.seq (CW.plain ?_)
 refine RL.boxN rfl rfl rfl rfl rfl hg ?_
 rintro b19 w19 Q19 (hg19 : Good _ s (Q19 :: os)) hax19 hb19
 refine ⟨trivial, ?_⟩
 refine RL.pu ?_
 refine RL.pd ?_
 refine CW.seq ?_
 refine CW.seq (CW.plain ?_)
 refine RL.pu ?_
 refine RL.fi fl33_0 ?_
 refine RL.fi fl30_0 ?_
 refine RL.lo 0 ty22 hb19 hg19 ?_
 refine RL.pd ?_
 refine CW.cond rfl (fun h11 => ?_) (fun h11 => ?_)
 ·
  refine CW.seq (CW.plain ?_)
  refine RL.fi fl33_0 ?_
  refine RL.fi fl30_1 ?_
  refine RL.lo 1 ty22 hb19 hg19 ?_
  refine RL.pu ?_
  refine RL.pd ?_
  refine CW.ret (ret (vs := [_, _]) ⟨_, _, rfl, rfl, _, _, rfl, rfl, rfl⟩ ?_)
  have hi : i = l.base.index := by simpa using h11
  exact PostV.mk (hg19.drop) hax19 (by simp only [whole, termP, if_pos hi])
 ·
  refine CW.skip ?_
  refine CW.seq ?_
  refine CW.seq (CW.plain ?_)
  refine RL.ls 0 ty33 hb19 hg19 ?_
  refine RL.pu ?_
  refine RL.callV rfl rfl rfl rfl rfl ca138 (place_ct hg19 (hr.imp id (List.mem_cons_of_mem _)) hl hn) ?_
  rintro v20 w20 (hg20 : Good _ s (Q19 :: os)) hax20 rfl
  refine ⟨trivial, ?_⟩
  refine RL.pd ?_
  refine CW.seq (CW.plain ?_)
  refine RL.pu ?_
  refine RL.fi fl33_1 ?_
  refine RL.lo 5 ty31 hb19 hg20 ?_
  refine RL.len rfl rfl rfl rfl sl31 rfl ?_
  refine RL.pp ?_
  refine RL.part 23 rfl (fun h23 => ?_) (fun h23 => ?_)
  ·
   refine RL.fi fl33_1 ?_
   refine RL.lo 5 ty31 hb19 hg20 ?_
   refine RL.pu ?_
   refine RL.idxL rfl rfl rfl rfl sl31 rfl rfl hl.entries (by omega) (by have := decide_t h23; omega) ?_
   rintro q vs hvl hH ⟨ea, ec, ea1, ec1, ea2, ec2, rfl, er1, er2, er3, eh1, eh2, eh3⟩
   refine RL.fi fl65_0 ?_
   refine RL.load (j := 0) rfl rfl rfl rfl ty22 rfl (hH) (hg20.has (hr.imp id (List.mem_cons_of_mem _))) rfl ?_
   refine RL.pp ?_
   refine RL.pd ?_
   refine CW.cond rfl (fun h32 => ?_) (fun h32 => ?_)
   ·
    refine CW.seq (CW.plain ?_)
    refine RL.fi fl33_1 ?_
    refine RL.lo 5 ty31 hb19 hg20 ?_
    refine RL.pu ?_
    refine RL.idxL rfl rfl rfl rfl sl31 rfl rfl hl.entries (by omega) (by have := decide_t h23; omega) ?_
    rintro q2 vs2 hvl2 hH2 ⟨fa, fc, fa1, fc1, fa2, fc2, rfl, fr1, fr2, fr3, fh1, fh2, fh3⟩
    refine RL.fi fl65_1 ?_
    refine RL.load (j := 1) rfl rfl rfl rfl ty22 rfl (hH2) (hg20.has (hr.imp id (List.mem_cons_of_mem _))) rfl ?_
    refine RL.pu ?_
    refine RL.pd ?_
    refine CW.ret (ret (vs := [_, _]) ⟨_, _, rfl, rfl, _, _, rfl, rfl, rfl⟩ ?_)
    have hi : i ≠ l.base.index := by simpa using h11
    have hk : placeP l i < l.entries.length := by have := decide_t h23; omega
    simp only [Int.toNat_natCast, beq_iff_eq] at h32
    exact PostV.mk (hg20.drop) (hax19.trans hax20) (by simp only [whole, termP_at hi hk, if_pos h32, Int.toNat_natCast])
   ·
    refine CW.skip ?_
    refine CW.seq (CW.plain ?_)
    refine RL.pu ?_
    refine RL.pd ?_
    refine CW.ret (ret (vs := [_, _]) ⟨_, _, rfl, rfl, _, _, rfl, rfl, rfl⟩ ?_)
    have hi : i ≠ l.base.index := by simpa using h11
    have hk : placeP l i < l.entries.length := by have := decide_t h23; omega
    simp only [Int.toNat_natCast, beq_eq_false_iff_ne, ne_eq] at h32
    exact PostV.mk (hg20.drop) (hax19.trans hax20) (by simp only [whole, termP_at hi hk, if_neg h32])
  ·
   refine RL.qq ?_
   refine RL.qq ?_
   refine RL.qq ?_
   refine RL.qq ?_
   refine RL.pd ?_
   refine CW.no (by first | rfl | exact congrArg (fun b => some (Value.bool b)) (by assumption)) ?_
   refine CW.skip ?_
   refine CW.seq (CW.plain ?_)
   refine RL.pu ?_
   refine RL.pd ?_
   refine CW.ret (ret (vs := [_, _]) ⟨_, _, rfl, rfl, _, _, rfl, rfl, rfl⟩ ?_)
   have hi : i ≠ l.base.index := by simpa using h11
   have hk : ¬ placeP l i < l.entries.length := by have := decide_f h23; omega
   exact PostV.mk (hg20.drop) (hax19.trans hax20) (by simp only [whole, termP_no hi hk])
theorem Newer_ct {l : Log} {h : Hd} {i t : Int} (hg : Good w s os) (hr : r = s ∨ r ∈ os) (hl : LogAt r s l h) :
  Calls Tryz.prog 104 #[logA l h, u64 i, u64 t] w (PostV w s os fun q => q = .bool (newerP l i t)) := by
 refine enter (l := [logA l h, u64 i, u64 t]) Tryz.func104 rfl Tryz.ntmps104 rfl ?_
 refine CW.seq (CW.plain ?_)
 refine RL.boxN rfl rfl rfl rfl rfl hg ?_
 rintro b21 w21 Q21 (hg21 : Good _ s (Q21 :: os)) hax21 hb21
 refine ⟨trivial, ?_⟩
 refine RL.pd ?_
 refine CW.seq (CW.plain ?_)
 refine RL.ls 0 ty33 hb21 hg21 ?_
 refine RL.callV rfl rfl rfl rfl rfl ca31 (Last_ct hg21 (hr.imp id (List.mem_cons_of_mem _)) hl) ?_
 rintro v22 w22 (hg22 : Good _ s (Q21 :: os)) hax22 rfl
 refine ⟨trivial, ?_⟩
 refine RL.pp ?_
 refine RL.pp ?_
 refine RL.pd ?_
 refine CW.seq ?_
 refine CW.seq (CW.plain ?_)
 refine RL.pp ?_
 refine RL.pd ?_
 refine CW.cond rfl (fun h16 => ?_) (fun h16 => ?_)
 ·
  refine CW.seq (CW.plain ?_)
  refine RL.pp ?_
  refine RL.pu ?_
  refine RL.pd ?_
  refine CW.ret (ret (vs := [_]) ⟨_, _, rfl, rfl, rfl⟩ ?_)
  refine PostV.mk (hg22.drop) (hax21.trans hax22) (congrArg Value.bool ?_)
  simp_all [newerP]
 ·
  refine CW.skip ?_
  refine CW.seq (CW.plain ?_)
  refine RL.pp ?_
  refine RL.pu ?_
  refine RL.pd ?_
  refine CW.ret (ret (vs := [_]) ⟨_, _, rfl, rfl, rfl⟩ ?_)
  refine PostV.mk (hg22.drop) (hax21.trans hax22) (congrArg Value.bool ?_)
  simp_all [newerP]
end
end Go.Lw

/-
 A configuration, an entry, entries, a log in new memory.
-/
namespace Go.Lw
open Go.Proofs
attribute [local irreducible] RL RA
def Conf.small (c : Conf) : Prop := c.voters.length ≤ 1073741824 ∧ c.learners.length ≤ 1073741824
def Entry.small (e : Entry) : Prop := e.data.length ≤ 1073741824 ∧ e.conf.small
theorem Own.empty {α : Type} {R : Res → List Value → α → Prop} {sz : Nat} {el : TypeId} {s A : Res} {b : Nat} (h : A b = some (.cells #[] el (0, 0))) : Own R sz el s A (some ⟨b, 0, none⟩) 0 [] := .inr ⟨b, #[], rfl, h, Nat.le_refl _, Nat.zero_le _, by simp, by simp [Chunks]⟩
theorem Lies.grow {α : Type} {R : Res → List Value → α → Prop} {sz c : Nat} {r s s' : Res} {os : List Res} {a : Option Addr} {xs : List α} (hR : Up R) (hr : r = s ∨ r ∈ os) (h : Lies R sz r s a c xs) (hl : Le s s') : ∃ r', (r' = s' ∨ r' ∈ os) ∧ Lies R sz r' s' a c xs := by
 rcases hr with rfl | hr
 ·
  exact ⟨s', .inl rfl, (h.mem hl).up hR hl⟩
 ·
  exact ⟨r, .inr hr, h.up hR hl⟩
section
variable {w : World} {s r : Res} {os : List Res}
set_option maxRecDepth 100000 in
theorem conf_log_ct {c : Conf} {va la : Option Addr} {vc lc : Nat} (hg : Good w s os) (hv : Ints s va vc c.voters) (hl : Ints s la lc c.learners) (hb : c.small) :
  Calls Tryz.prog 58 #[.agg #[.slice va c.voters.length vc, .slice la c.learners.length lc]] w (Post w s os fun s' _ q => ∃ vs, q = .agg vs.toArray ∧ RConf s' vs c) := by
 obtain ⟨hb1, hb2⟩ := hb
 refine enter (l := [.agg #[.slice va c.voters.length vc, .slice la c.learners.length lc]]) Tryz.func58 rfl Tryz.ntmps58 rfl ?_
 refine CW.seq (CW.plain ?_)
 refine RL.boxN rfl rfl rfl rfl rfl hg ?_
 rintro b1 w1 Q1 (hg1 : Good _ s (Q1 :: os)) hax1 hb1
 refine ⟨trivial, ?_⟩
 refine RL.allocN rfl rfl rfl rfl ze27 hg1 ?_
 rintro b2 w2 Q2 (hg2 : Good _ s (Q2 :: Q1 :: os)) hax2 hb2
 refine ⟨trivial, ?_⟩
 refine RL.done ?_
 refine CW.seq ?_
 have hg3 := hg2.drew
 refine CW.draws [(true, 0), (true, 1), (true, 3), (true, 4), (false, 2), (false, 5), (true, 6), (false, 7)] (fun w => At1 b1 _ w ∧ True) mixed (by kernel_rfl) (by kernel_rfl) (by kernel_rfl) (by kernel_rfl) (⟨hg3.at1 (by simp) hb1, trivial⟩) ?_
 refine RL.fi fl27_0 ?_
 refine RL.loadT (ad := ⟨b1, 0, none⟩) (j := 0) rfl rfl rfl rfl ty25 rfl (At1.holds) (fun w h => h.1.inn) rfl ?_
 refine RL.fi fl27_1 ?_
 refine RL.loadT (ad := ⟨b1, 0, none⟩) (j := 1) rfl rfl rfl rfl ty25 rfl (At1.holds) (fun w h => h.1.inn) rfl ?_
 refine RL.call rfl rfl rfl rfl rfl ca90 (Clone_ct hg3 (.inl rfl) hv.2.2 (by omega)) ?_
 rintro v4 s4 Q4 w4 hle4 (hg4 : Good _ s4 (Q4 :: Q2 :: Q1 :: os)) hax4 ⟨-, a5, c5, rfl, ho5⟩
 have hl := hl.up (RInt.up _) hle4
 have hv := hv.up (RInt.up _) hle4
 refine ⟨⟨hg4.at1 (by simp) hb1, trivial⟩, ?_⟩
 refine RL.call rfl rfl rfl rfl rfl ca90 (Clone_ct hg4 (.inl rfl) hl.2.2 (by omega)) ?_
 rintro v5 s5 Q5 w5 hle5 (hg5 : Good _ s5 (Q5 :: Q4 :: Q2 :: Q1 :: os)) hax5 ⟨-, a8, c8, rfl, ho8⟩
 have hl := hl.up (RInt.up _) hle5
 have hv := hv.up (RInt.up _) hle5
 refine ⟨⟨hg5.at1 (by simp) hb1, trivial⟩, ?_⟩
 refine RL.build rfl rfl rfl rfl ze27 pl27 rfl rfl ?_
 refine RL.sB (b := b2) (i := 2) (j := 0) rfl rfl rfl ty27 rfl rfl hg5 rfl (hb2) rfl rfl ?_
 rintro w6 Q6 (hg6 : Good _ s5 (Q5 :: Q4 :: Q6 :: Q1 :: os)) hax6 hb6
 refine ⟨⟨hg6.at1 (by simp) hb1, trivial⟩, ?_⟩
 refine RL.done ?_
 refine CW.ret (ret (vs := [_]) ⟨_, _, _, rfl, rfl, loadVar_agg ty27 hb6 (hg6.mem (by simp)) rfl, rfl⟩ ?_)
 obtain ⟨s1, hs1, hl1, hm1⟩ := (hg6.front 1 rfl).letgo
 obtain ⟨s2, hs2, hl2, hm2⟩ := hs1.letgo
 exact Post.mk (((hle4.trans hle5).trans hl1).trans hl2) hs2.drop.drop.nil (hax1.trans (hax2.trans ((Aux.drew _).trans (hax4.trans (hax5.trans hax6))))) ⟨_, rfl, a5, c5, a8, c8, rfl, ho5.imm (RInt.up _) ((hle5.trans hl1).trans hl2) (hm1.trans hl2), ho8.imm (RInt.up _) (((Le.refl _).trans hl1).trans hl2) hm2⟩
set_option maxRecDepth 100000 in
theorem conf_core_ct {c : Conf} {va la : Option Addr} {vc lc : Nat} (hg : Good w s os) (hv : Ints s va vc c.voters) (hl : Ints s la lc c.learners) (hb : c.small) :
  Calls Tryz.prog 62 #[.agg #[.slice va c.voters.length vc, .slice la c.learners.length lc]] w (Post w s os fun s' _ q => ∃ vs, q = .agg vs.toArray ∧ RConf s' vs c) := by
 obtain ⟨hb1, hb2⟩ := hb
 refine enter (l := [.agg #[.slice va c.voters.length vc, .slice la c.learners.length lc]]) Tryz.func62 rfl Tryz.ntmps62 rfl ?_
 refine CW.seq (CW.plain ?_)
 refine RL.boxN rfl rfl rfl rfl rfl hg ?_
 rintro b7 w7 Q7 (hg7 : Good _ s (Q7 :: os)) hax7 hb7
 refine ⟨trivial, ?_⟩
 refine RL.allocN rfl rfl rfl rfl ze27 hg7 ?_
 rintro b8 w8 Q8 (hg8 : Good _ s (Q8 :: Q7 :: os)) hax8 hb8
 refine ⟨trivial, ?_⟩
 refine RL.done ?_
 refine CW.seq ?_
 have hg9 := hg8.drew
 refine CW.draws [(true, 0), (true, 1), (true, 3), (true, 4), (false, 2), (false, 5), (true, 6), (false, 7)] (fun w => At1 b7 _ w ∧ True) mixed (by kernel_rfl) (by kernel_rfl) (by kernel_rfl) (by kernel_rfl) (⟨hg9.at1 (by simp) hb7, trivial⟩) ?_
 refine RL.fi fl27_0 ?_
 refine RL.loadT (ad := ⟨b7, 0, none⟩) (j := 0) rfl rfl rfl rfl ty25 rfl (At1.holds) (fun w h => h.1.inn) rfl ?_
 refine RL.fi fl27_1 ?_
 refine RL.loadT (ad := ⟨b7, 0, none⟩) (j := 1) rfl rfl rfl rfl ty25 rfl (At1.holds) (fun w h => h.1.inn) rfl ?_
 refine RL.call rfl rfl rfl rfl rfl ca90 (Clone_ct hg9 (.inl rfl) hv.2.2 (by omega)) ?_
 rintro v10 s10 Q10 w10 hle10 (hg10 : Good _ s10 (Q10 :: Q8 :: Q7 :: os)) hax10 ⟨-, a5, c5, rfl, ho5⟩
 have hl := hl.up (RInt.up _) hle10
 have hv := hv.up (RInt.up _) hle10
 refine ⟨⟨hg10.at1 (by simp) hb7, trivial⟩, ?_⟩
 refine RL.call rfl rfl rfl rfl rfl ca90 (Clone_ct hg10 (.inl rfl) hl.2.2 (by omega)) ?_
 rintro v11 s11 Q11 w11 hle11 (hg11 : Good _ s11 (Q11 :: Q10 :: Q8 :: Q7 :: os)) hax11 ⟨-, a8, c8, rfl, ho8⟩
 have hl := hl.up (RInt.up _) hle11
 have hv := hv.up (RInt.up _) hle11
 refine ⟨⟨hg11.at1 (by simp) hb7, trivial⟩, ?_⟩
 refine RL.build rfl rfl rfl rfl ze27 pl27 rfl rfl ?_
 refine RL.sB (b := b8) (i := 2) (j := 0) rfl rfl rfl ty27 rfl rfl hg11 rfl (hb8) rfl rfl ?_
 rintro w12 Q12 (hg12 : Good _ s11 (Q11 :: Q10 :: Q12 :: Q7 :: os)) hax12 hb12
 refine ⟨⟨hg12.at1 (by simp) hb7, trivial⟩, ?_⟩
 refine RL.done ?_
 refine CW.ret (ret (vs := [_]) ⟨_, _, _, rfl, rfl, loadVar_agg ty27 hb12 (hg12.mem (by simp)) rfl, rfl⟩ ?_)
 obtain ⟨s1, hs1, hl1, hm1⟩ := (hg12.front 1 rfl).letgo
 obtain ⟨s2, hs2, hl2, hm2⟩ := hs1.letgo
 exact Post.mk (((hle10.trans hle11).trans hl1).trans hl2) hs2.drop.drop.nil (hax7.trans (hax8.trans ((Aux.drew _).trans (hax10.trans (hax11.trans hax12))))) ⟨_, rfl, a5, c5, a8, c8, rfl, ho5.imm (RInt.up _) ((hle11.trans hl1).trans hl2) (hm1.trans hl2), ho8.imm (RInt.up _) (((Le.refl _).trans hl1).trans hl2) hm2⟩
set_option maxRecDepth 100000 in
theorem conf_snap_ct {c : Conf} {va la : Option Addr} {vc lc : Nat} (hg : Good w s os) (hv : Ints s va vc c.voters) (hl : Ints s la lc c.learners) (hb : c.small) :
  Calls Tryz.prog 156 #[.agg #[.slice va c.voters.length vc, .slice la c.learners.length lc]] w (Post w s os fun s' _ q => ∃ vs, q = .agg vs.toArray ∧ RConf s' vs c) := by
 obtain ⟨hb1, hb2⟩ := hb
 refine enter (l := [.agg #[.slice va c.voters.length vc, .slice la c.learners.length lc]]) Tryz.func156 rfl Tryz.ntmps156 rfl ?_
 refine CW.seq (CW.plain ?_)
 refine RL.boxN rfl rfl rfl rfl rfl hg ?_
 rintro b13 w13 Q13 (hg13 : Good _ s (Q13 :: os)) hax13 hb13
 refine ⟨trivial, ?_⟩
 refine RL.allocN rfl rfl rfl rfl ze27 hg13 ?_
 rintro b14 w14 Q14 (hg14 : Good _ s (Q14 :: Q13 :: os)) hax14 hb14
 refine ⟨trivial, ?_⟩
 refine RL.done ?_
 refine CW.seq ?_
 have hg15 := hg14.drew
 refine CW.draws [(true, 0), (true, 1), (true, 3), (true, 4), (false, 2), (false, 5), (true, 6), (false, 7)] (fun w => At1 b13 _ w ∧ True) mixed (by kernel_rfl) (by kernel_rfl) (by kernel_rfl) (by kernel_rfl) (⟨hg15.at1 (by simp) hb13, trivial⟩) ?_
 refine RL.fi fl27_0 ?_
 refine RL.loadT (ad := ⟨b13, 0, none⟩) (j := 0) rfl rfl rfl rfl ty25 rfl (At1.holds) (fun w h => h.1.inn) rfl ?_
 refine RL.fi fl27_1 ?_
 refine RL.loadT (ad := ⟨b13, 0, none⟩) (j := 1) rfl rfl rfl rfl ty25 rfl (At1.holds) (fun w h => h.1.inn) rfl ?_
 refine RL.call rfl rfl rfl rfl rfl ca90 (Clone_ct hg15 (.inl rfl) hv.2.2 (by omega)) ?_
 rintro v16 s16 Q16 w16 hle16 (hg16 : Good _ s16 (Q16 :: Q14 :: Q13 :: os)) hax16 ⟨-, a5, c5, rfl, ho5⟩
 have hl := hl.up (RInt.up _) hle16
 have hv := hv.up (RInt.up _) hle16
 refine ⟨⟨hg16.at1 (by simp) hb13, trivial⟩, ?_⟩
 refine RL.call rfl rfl rfl rfl rfl ca90 (Clone_ct hg16 (.inl rfl) hl.2.2 (by omega)) ?_
 rintro v17 s17 Q17 w17 hle17 (hg17 : Good _ s17 (Q17 :: Q16 :: Q14 :: Q13 :: os)) hax17 ⟨-, a8, c8, rfl, ho8⟩
 have hl := hl.up (RInt.up _) hle17
 have hv := hv.up (RInt.up _) hle17
 refine ⟨⟨hg17.at1 (by simp) hb13, trivial⟩, ?_⟩
 refine RL.build rfl rfl rfl rfl ze27 pl27 rfl rfl ?_
 refine RL.sB (b := b14) (i := 2) (j := 0) rfl rfl rfl ty27 rfl rfl hg17 rfl (hb14) rfl rfl ?_
 rintro w18 Q18 (hg18 : Good _ s17 (Q17 :: Q16 :: Q18 :: Q13 :: os)) hax18 hb18
 refine ⟨⟨hg18.at1 (by simp) hb13, trivial⟩, ?_⟩
 refine RL.done ?_
 refine CW.ret (ret (vs := [_]) ⟨_, _, _, rfl, rfl, loadVar_agg ty27 hb18 (hg18.mem (by simp)) rfl, rfl⟩ ?_)
 obtain ⟨s1, hs1, hl1, hm1⟩ := (hg18.front 1 rfl).letgo
 obtain ⟨s2, hs2, hl2, hm2⟩ := hs1.letgo
 exact Post.mk (((hle16.trans hle17).trans hl1).trans hl2) hs2.drop.drop.nil (hax13.trans (hax14.trans ((Aux.drew _).trans (hax16.trans (hax17.trans hax18))))) ⟨_, rfl, a5, c5, a8, c8, rfl, ho5.imm (RInt.up _) ((hle17.trans hl1).trans hl2) (hm1.trans hl2), ho8.imm (RInt.up _) (((Le.refl _).trans hl1).trans hl2) hm2⟩
set_option maxRecDepth 100000 in
theorem entry_log_ct {e : Entry} {vs : List Value} (hg : Good w s os) (hE : REntry s vs e) (hb : e.small) :
  Calls Tryz.prog 173 #[.agg vs.toArray] w (Post w s os fun s' _ q => ∃ us, q = .agg us.toArray ∧ REntry s' us e) := by
 obtain ⟨a, c, a1, c1, a2, c2, rfl, r1, r2, r3, h1, h2, h3⟩ := hE
 obtain ⟨hb1, hb2⟩ := hb
 refine enter (l := [.agg #[u64 e.index, u64 e.term, i64 e.kind, .slice a e.data.length c, .slice a1 e.conf.voters.length c1, .slice a2 e.conf.learners.length c2]]) Tryz.func173 rfl Tryz.ntmps173 rfl ?_
 refine CW.seq (CW.plain ?_)
 refine RL.boxN rfl rfl rfl rfl rfl hg ?_
 rintro b19 w19 Q19 (hg19 : Good _ s (Q19 :: os)) hax19 hb19
 refine ⟨trivial, ?_⟩
 refine RL.allocN rfl rfl rfl rfl ze65 hg19 ?_
 rintro b20 w20 Q20 (hg20 : Good _ s (Q20 :: Q19 :: os)) hax20 hb20
 refine ⟨trivial, ?_⟩
 refine RL.done ?_
 refine CW.seq ?_
 have hg21 := hg20.drew
 refine CW.draws2 [(true, 0), (true, 1), (true, 3), (true, 4), (false, 2), (true, 6), (false, 5)] [(false, 7), (true, 8), (false, 9)] 7 #[true, true, true, true, true, true, true, false, false, false] (fun w => At1 b19 _ w ∧ True) mixed (by kernel_rfl) (by kernel_rfl) (by kernel_rfl) (by kernel_rfl) (by kernel_rfl) (⟨hg21.at1 (by simp) hb19, trivial⟩) ?_
 refine RL.fi fl65_3 ?_
 refine RL.loadT (ad := ⟨b19, 0, none⟩) (j := 3) rfl rfl rfl rfl ty28 rfl (At1.holds) (fun w h => h.1.inn) rfl ?_
 refine RL.fi fl65_4 ?_
 refine RL.loadsT (ad := ⟨b19, 0, none⟩) (j := 4) rfl rfl rfl rfl ty27 rfl (At1.holds) (fun w h => h.1.inn) rfl rfl ?_
 refine RL.call rfl rfl rfl rfl rfl ca61 (CloneB_ct hg21 (.inl rfl) h1.2.2 (by omega)) ?_
 rintro v22 s22 Q22 w22 hle22 (hg22 : Good _ s22 (Q22 :: Q20 :: Q19 :: os)) hax22 ⟨-, a5, c5, rfl, ho5⟩
 have h1 := h1.up (RInt.up _) hle22
 have h2 := h2.up (RInt.up _) hle22
 have h3 := h3.up (RInt.up _) hle22
 refine ⟨⟨hg22.at1 (by simp) hb19, trivial⟩, ?_⟩
 refine RL.fi fl65_3 ?_
 refine RL.call rfl rfl rfl rfl rfl ca58 (conf_log_ct hg22 h2 h3 hb2) ?_
 rintro v23 s23 B23 w23 hle23 (hg23 : Good _ s23 (B23 :: Q22 :: Q20 :: Q19 :: os)) hax23 ⟨vs8, rfl, hR8⟩
 have hg23 := hg23.drop
 have h1 := h1.up (RInt.up _) hle23
 have h2 := h2.up (RInt.up _) hle23
 have h3 := h3.up (RInt.up _) hle23
 obtain ⟨va8, vc8, la8, lc8, rfl, hv8, hl8⟩ := hR8
 refine ⟨⟨hg23.at1 (by simp) hb19, trivial⟩, ?_⟩
 refine RL.done ?_
 refine RL.next trivial ?_
 refine RL.sB (b := b19) (i := 2) (j := 3) rfl rfl rfl ty28 rfl rfl hg23 rfl (hb19) rfl rfl ?_
 rintro w24 Q24 (hg24 : Good _ s23 (Q22 :: Q20 :: Q24 :: os)) hax24 hb24
 refine ⟨trivial, ?_⟩
 refine RL.fi fl65_4 ?_
 refine RL.sB (b := b19) (i := 2) (j := 4) rfl rfl rfl ty27 rfl rfl hg24 rfl (hb24) rfl rfl ?_
 rintro w25 Q25 (hg25 : Good _ s23 (Q22 :: Q20 :: Q25 :: os)) hax25 hb25
 refine ⟨trivial, ?_⟩
 refine RL.done ?_
 refine CW.seq (CW.plain ?_)
 refine RL.ls 0 ty65 hb25 hg25 ?_
 refine RL.sB (b := b20) (i := 1) (j := 0) rfl rfl rfl ty65 rfl rfl hg25 rfl (hb20) rfl rfl ?_
 rintro w26 Q26 (hg26 : Good _ s23 (Q22 :: Q26 :: Q25 :: os)) hax26 hb26
 refine ⟨trivial, ?_⟩
 refine RL.done ?_
 refine CW.ret (ret (vs := [_]) ⟨_, _, _, rfl, rfl, loadVar_agg ty65 hb26 (hg26.mem (by simp)) rfl, rfl⟩ ?_)
 obtain ⟨s1, hs1, hl1, hm1⟩ := hg26.letgo
 exact Post.mk ((hle22.trans hle23).trans hl1) hs1.drop.drop.nil (hax19.trans (hax20.trans ((Aux.drew _).trans (hax22.trans (hax23.trans (hax24.trans (hax25.trans hax26))))))) ⟨_, rfl, a5, c5, va8, vc8, la8, lc8, rfl, r1, r2, r3, ho5.imm (RInt.up _) (hle23.trans hl1) hm1, hv8.up (RInt.up _) ((Le.refl _).trans hl1), hl8.up (RInt.up _) ((Le.refl _).trans hl1)⟩
set_option maxRecDepth 100000 in
theorem entry_core_ct {e : Entry} {vs : List Value} (hg : Good w s os) (hE : REntry s vs e) (hb : e.small) :
  Calls Tryz.prog 64 #[.agg vs.toArray] w (Post w s os fun s' _ q => ∃ us, q = .agg us.toArray ∧ REntry s' us e) := by
 obtain ⟨a, c, a1, c1, a2, c2, rfl, r1, r2, r3, h1, h2, h3⟩ := hE
 obtain ⟨hb1, hb2⟩ := hb
 refine enter (l := [.agg #[u64 e.index, u64 e.term, i64 e.kind, .slice a e.data.length c, .slice a1 e.conf.voters.length c1, .slice a2 e.conf.learners.length c2]]) Tryz.func64 rfl Tryz.ntmps64 rfl ?_
 refine CW.seq (CW.plain ?_)
 refine RL.boxN rfl rfl rfl rfl rfl hg ?_
 rintro b27 w27 Q27 (hg27 : Good _ s (Q27 :: os)) hax27 hb27
 refine ⟨trivial, ?_⟩
 refine RL.allocN rfl rfl rfl rfl ze65 hg27 ?_
 rintro b28 w28 Q28 (hg28 : Good _ s (Q28 :: Q27 :: os)) hax28 hb28
 refine ⟨trivial, ?_⟩
 refine RL.done ?_
 refine CW.seq ?_
 have hg29 := hg28.drew
 refine CW.draws2 [(true, 0), (true, 1), (true, 3), (true, 4), (false, 2), (true, 6), (false, 5)] [(false, 7), (true, 8), (false, 9)] 7 #[true, true, true, true, true, true, true, false, false, false] (fun w => At1 b27 _ w ∧ True) mixed (by kernel_rfl) (by kernel_rfl) (by kernel_rfl) (by kernel_rfl) (by kernel_rfl) (⟨hg29.at1 (by simp) hb27, trivial⟩) ?_
 refine RL.fi fl65_3 ?_
 refine RL.loadT (ad := ⟨b27, 0, none⟩) (j := 3) rfl rfl rfl rfl ty28 rfl (At1.holds) (fun w h => h.1.inn) rfl ?_
 refine RL.fi fl65_4 ?_
 refine RL.loadsT (ad := ⟨b27, 0, none⟩) (j := 4) rfl rfl rfl rfl ty27 rfl (At1.holds) (fun w h => h.1.inn) rfl rfl ?_
 refine RL.call rfl rfl rfl rfl rfl ca61 (CloneB_ct hg29 (.inl rfl) h1.2.2 (by omega)) ?_
 rintro v30 s30 Q30 w30 hle30 (hg30 : Good _ s30 (Q30 :: Q28 :: Q27 :: os)) hax30 ⟨-, a5, c5, rfl, ho5⟩
 have h1 := h1.up (RInt.up _) hle30
 have h2 := h2.up (RInt.up _) hle30
 have h3 := h3.up (RInt.up _) hle30
 refine ⟨⟨hg30.at1 (by simp) hb27, trivial⟩, ?_⟩
 refine RL.fi fl65_3 ?_
 refine RL.call rfl rfl rfl rfl rfl ca62 (conf_core_ct hg30 h2 h3 hb2) ?_
 rintro v31 s31 B31 w31 hle31 (hg31 : Good _ s31 (B31 :: Q30 :: Q28 :: Q27 :: os)) hax31 ⟨vs8, rfl, hR8⟩
 have hg31 := hg31.drop
 have h1 := h1.up (RInt.up _) hle31
 have h2 := h2.up (RInt.up _) hle31
 have h3 := h3.up (RInt.up _) hle31
 obtain ⟨va8, vc8, la8, lc8, rfl, hv8, hl8⟩ := hR8
 refine ⟨⟨hg31.at1 (by simp) hb27, trivial⟩, ?_⟩
 refine RL.done ?_
 refine RL.next trivial ?_
 refine RL.sB (b := b27) (i := 2) (j := 3) rfl rfl rfl ty28 rfl rfl hg31 rfl (hb27) rfl rfl ?_
 rintro w32 Q32 (hg32 : Good _ s31 (Q30 :: Q28 :: Q32 :: os)) hax32 hb32
 refine ⟨trivial, ?_⟩
 refine RL.fi fl65_4 ?_
 refine RL.sB (b := b27) (i := 2) (j := 4) rfl rfl rfl ty27 rfl rfl hg32 rfl (hb32) rfl rfl ?_
 rintro w33 Q33 (hg33 : Good _ s31 (Q30 :: Q28 :: Q33 :: os)) hax33 hb33
 refine ⟨trivial, ?_⟩
 refine RL.done ?_
 refine CW.seq (CW.plain ?_)
 refine RL.ls 0 ty65 hb33 hg33 ?_
 refine RL.sB (b := b28) (i := 1) (j := 0) rfl rfl rfl ty65 rfl rfl hg33 rfl (hb28) rfl rfl ?_
 rintro w34 Q34 (hg34 : Good _ s31 (Q30 :: Q34 :: Q33 :: os)) hax34 hb34
 refine ⟨trivial, ?_⟩
 refine RL.done ?_
 refine CW.ret (ret (vs := [_]) ⟨_, _, _, rfl, rfl, loadVar_agg ty65 hb34 (hg34.mem (by simp)) rfl, rfl⟩ ?_)
 obtain ⟨s1, hs1, hl1, hm1⟩ := hg34.letgo
 exact Post.mk ((hle30.trans hle31).trans hl1) hs1.drop.drop.nil (hax27.trans (hax28.trans ((Aux.drew _).trans (hax30.trans (hax31.trans (hax32.trans (hax33.trans hax34))))))) ⟨_, rfl, a5, c5, va8, vc8, la8, lc8, rfl, r1, r2, r3, ho5.imm (RInt.up _) (hle31.trans hl1) hm1, hv8.up (RInt.up _) ((Le.refl _).trans hl1), hl8.up (RInt.up _) ((Le.refl _).trans hl1)⟩
set_option maxRecDepth 100000 in
theorem entries_ct {xs : List Entry} {a : Option Addr} {c : Nat} (hg : Good w s os) (hr : r = s ∨ r ∈ os) (hl : Lies REntry 6 r s a c xs) (hsm : ∀ e ∈ xs, e.small) (hb : xs.length ≤ 1099511627776) :
  Calls Tryz.prog 149 #[.slice a xs.length c] w (Post w s os fun s' A q => ∃ a' c', q = .slice a' xs.length c' ∧ Own REntry 6 65 s' A a' c' xs) := by
 refine enter (l := [.slice a xs.length c]) Tryz.func149 rfl Tryz.ntmps149 rfl ?_
 refine CW.seq (CW.plain ?_)
 refine RL.pd ?_
 refine CW.seq (CW.plain ?_)
 refine RL.pu ?_
 refine RL.len rfl rfl rfl rfl sl31 rfl ?_
 refine RL.makeN rfl rfl rfl rfl sl31 ze65 rfl rfl rfl (by omega) (by omega) hg ?_
 rintro g A7 w7 hgm haxm hA7
 refine ⟨trivial, ?_⟩
 refine RL.pd ?_
 refine CW.seq (CW.plain ?_)
 refine RL.pp ?_
 obtain ⟨news, hsrc, hch⟩ := Src.lies (t := 31) sl31 hl (hgm.has (hr.imp id (List.mem_cons_of_mem _)))
 have hnl := hch.length
 have hzl : (zsL xs.length [Value.int IntKind.u64 0, Value.int IntKind.u64 0, Value.int IntKind.i64 0, Value.slice none 0 0, Value.slice none 0 0, Value.slice none 0 0]).toArray.size = xs.length * 6 := by rw [List.size_toArray, zsL_length]; rfl
 refine RL.copy (i := 0) xs.length rfl rfl rfl rfl sl31 rfl rfl hsrc.len (Nat.min_self _) (hsrc.first _ rfl) hgm rfl hA7 (by rw [hzl]; omega) (hch.one REntry.one) ?_
 intro wc hgc haxc
 refine ⟨trivial, ?_⟩
 have hown := Own.filled (A := A7) (el := 65) (g := g) hzl hch (by simp only [maxLen]; omega)
 generalize (A7.put g (.cells (spl (zsL xs.length [Value.int IntKind.u64 0, Value.int IntKind.u64 0, Value.int IntKind.i64 0, Value.slice none 0 0, Value.slice none 0 0, Value.slice none 0 0]).toArray 0 news) 65 (0, 0))) = AC at hgc hown
 refine RL.done ?_
 refine CW.seq ?_
 refine CW.seq (CW.plain ?_)
 refine RL.pu ?_
 refine RL.len rfl rfl rfl rfl sl31 rfl ?_
 refine RL.pd ?_
 refine CW.block ?_
 refine CW.loop (σ := Nat) (fun j E w' => ∃ s' A' k, Good w' s' (A' :: os) ∧ Aux w w' ∧ Le s s' ∧ E = [(3, .slice (some ⟨g, 0, none⟩) xs.length xs.length), (12, i64 xs.length), (13, i64 (k : Nat))] ∧ k + j = xs.length ∧ Own REntry 6 65 s' A' (some ⟨g, 0, none⟩) xs.length xs) (fun j => j) xs.length [(3, .slice (some ⟨g, 0, none⟩) xs.length xs.length), (12, i64 xs.length), (13, i64 0)] ⟨rfl, rfl, rfl, trivial⟩ ⟨s, AC, 0, hgc, (haxm.trans haxc), Le.refl _, rfl, by omega, hown⟩ ?_
 rintro j E wL ⟨sL, AL, k, hgL, haxL, hleL, rfl, hk, hoL⟩
 refine CW.seq (CW.plain ?_)
 refine RL.pd ?_
 refine CW.seq ?_
 refine CW.cond rfl (fun h14 => ?_) (fun h14 => ?_)
 ·
  refine CW.skip ?_
  refine CW.seq ?_
  refine CW.block ?_
  refine CW.seq (CW.plain ?_)
  refine RL.pu ?_
  refine RL.pd ?_
  refine CW.plain ?_
  refine RL.pp ?_
  refine RL.pp ?_
  have hlt : k < xs.length := by have := decide_t h14; omega
  refine RL.idxL rfl rfl rfl rfl sl31 rfl rfl hoL.lies (by omega) (by omega) ?_
  rintro q vs hvl hH hE
  have hE2 := hE
  obtain ⟨ea, ec, ea1, ec1, ea2, ec2, rfl, er1, er2, er3, eh1, eh2, eh3⟩ := hE2
  refine RL.loads (j := 0) (us := _) rfl rfl rfl rfl ty65 rfl (hH) (hgL.mem (by simp)) rfl rfl ?_
  refine RL.call rfl rfl rfl rfl rfl ca173 (entry_log_ct hgL hE (hsm _ (List.getElem_mem _))) ?_
  rintro v35 s35 B35 w35 hle35 (hg35 : Good _ s35 (B35 :: AL :: os)) hax35 ⟨us, rfl, hU⟩
  have hg35 := hg35.drop
  have hoL := hoL.up REntry.up hle35
  have hul : us.length = 6 := by obtain ⟨_, _, _, _, _, _, rfl, _⟩ := hU; rfl
  refine ⟨trivial, ?_⟩
  refine RL.idxOwn rfl rfl rfl rfl sl31 rfl rfl hoL (by omega) (by omega) ?_
  rintro g' cs vs' hb' hA' hcs hvl' hcell _
  cases hb'
  have hset := hoL.set hA' hlt hul hU
  rw [show xs.set k xs[((k : Nat) : Int).toNat] = xs from List.set_getElem_self hlt] at hset
  have hfit : k * 6 + 6 ≤ cs.size := by rw [hcs]; omega
  refine RL.store (i := 0) (j := k * 6) rfl rfl rfl ty65 rfl rfl hg35 rfl hA' (by simpa [Value.cells] using hul) (by obtain ⟨_, _, _, _, _, _, rfl, _⟩ := hU; simp [Value.cells, Value.oneCell']) hfit ?_
  intro ws hgs haxs
  refine ⟨trivial, ?_⟩
  refine RL.done ?_
  refine CW.plain ?_
  refine RL.add rfl rfl rfl rfl rfl rfl ((by simp only [rng]; omega)) ?_
  refine RL.pd ?_
  cases j with
  | zero => omega
  | succ j => exact fun ac ha => ⟨j, [(3, .slice (some ⟨g, 0, none⟩) xs.length xs.length), (12, i64 xs.length), (13, i64 ((k : Int) + 1))], ha.sub ⟨rfl, rfl, rfl, trivial⟩, ⟨_, _, k + 1, hgs, ((haxL.trans hax35)).trans haxs, (hleL.trans hle35), rfl, by omega, hset⟩, Nat.lt_succ_self j⟩
 ·
  refine CW.exit ?_
  refine CW.seq (CW.plain ?_)
  refine RL.pu ?_
  refine RL.pd ?_
  refine CW.ret (ret (vs := [_]) ⟨_, _, rfl, rfl, rfl⟩ ?_)
  exact Post.mk hleL hgL haxL ⟨_, _, rfl, hoL⟩
end
end Go.Lw

/-
 raftlog, what makes new memory: a log's copy, Slice.
-/
namespace Go.Lw
open Go.Proofs
attribute [local irreducible] RL RA
def Log.small (l : Log) : Prop := l.base.conf.small ∧ l.base.data.length ≤ 1073741824 ∧ (∀ e ∈ l.entries, e.small) ∧ l.entries.length ≤ 1099511627776
structure LogOwn (A s : Res) (l : Log) (h : Hd) : Prop where
 index : rng .u64 l.base.index
 term : rng .u64 l.base.term
 voters : Imm (RInt .i64) 1 s h.va h.vc l.base.conf.voters
 learners : Imm (RInt .i64) 1 s h.la h.lc l.base.conf.learners
 data : Imm (RInt .u8) 1 s h.da h.dc l.base.data
 entries : Own REntry 6 65 s A h.ea h.ec l.entries
theorem LogOwn.at {A s : Res} {l : Log} {h : Hd} (k : LogOwn A s l h) : LogAt A s l h := ⟨k.index, k.term, k.voters, k.learners, k.data, k.entries.lies⟩
theorem LogOwn.up {A s s' : Res} {l : Log} {h : Hd} (k : LogOwn A s l h) (hl : Le s s') : LogOwn A s' l h :=
 ⟨k.index, k.term, k.voters.up (RInt.up _) hl, k.learners.up (RInt.up _) hl, k.data.up (RInt.up _) hl, k.entries.up REntry.up hl⟩
theorem LogOwn.mem {A A' s : Res} {l : Log} {h : Hd} (k : LogOwn A s l h) (hl : Le A A') : LogOwn A' s l h := { k with entries := k.entries.mem hl }
theorem Dj.apart {α β : Type} {R : Res → List Value → α → Prop} {R' : Res → List Value → β → Prop} {sz sz' c c' : Nat} {el el' : TypeId} {s s' A B : Res} {a b : Option Addr} {xs : List α} {ys : List β} (h : Own R sz el s A a c xs) (k : Own R' sz' el' s' B b c' ys) (hab : Apart A B) : Dj a b := fun x y hx hy e => by
 have h1 := h.addr hx
 have h2 := k.addr hy
 exact h2 (e ▸ hab _ h1)
def Hd.log (va : Option Addr) (vc : Nat) (la : Option Addr) (lc : Nat) (da : Option Addr) (dc : Nat) (ea : Option Addr) (ec : Nat) : Hd := ⟨va, vc, la, lc, da, dc, ea, ec, none, 0, none, 0, none, 0, none, 0, none, 0⟩
theorem take_min {α : Type} (xs : List α) (most : Int) : ((xs.take (if (if 0 > most then (0 : Int) else most) < (xs.length : Int) then (if 0 > most then (0 : Int) else most) else (xs.length : Int)).toNat).drop (0 : Int).toNat) = xs.take most.toNat := by
 rw [show (0 : Int).toNat = 0 from rfl, List.drop_zero, List.take_eq_take_iff]
 split <;> split <;> omega
section
variable {w : World} {s r : Res} {os : List Res}
set_option maxRecDepth 100000 in
theorem copied_log_ct {l : Log} {h : Hd} (hg : Good w s os) (hr : r = s ∨ r ∈ os) (hl : LogAt r s l h) (hs : l.small) :
  Calls Tryz.prog 153 #[logA l h] w (Post w s os fun s' A q => ∃ h', q = logA l h' ∧ LogOwn A s' l h') := by
 obtain ⟨hs1, hs2, hs3, hs4⟩ := hs
 have hE0 := hl.entries
 refine enter (l := [logA l h]) Tryz.func153 rfl Tryz.ntmps153 rfl ?_
 refine CW.seq (CW.plain ?_)
 refine RL.boxN rfl rfl rfl rfl rfl hg ?_
 rintro b1 w1 Q1 (hg1 : Good _ s (Q1 :: os)) hax1 hb1
 refine ⟨trivial, ?_⟩
 refine RL.allocN rfl rfl rfl rfl ze33 hg1 ?_
 rintro b2 w2 Q2 (hg2 : Good _ s (Q2 :: Q1 :: os)) hax2 hb2
 refine ⟨trivial, ?_⟩
 refine RL.done ?_
 refine CW.seq (CW.plain ?_)
 refine RL.fi fl33_0 ?_
 refine RL.ls 0 ty30 hb1 hg2 ?_
 refine RL.allocN rfl rfl rfl rfl ze30 hg2 ?_
 rintro b3 w3 Q3 (hg3 : Good _ s (Q3 :: Q2 :: Q1 :: os)) hax3 hb3
 refine ⟨trivial, ?_⟩
 refine RL.sB (b := b3) (i := 0) (j := 0) rfl rfl rfl ty30 rfl rfl hg3 rfl (hb3) rfl rfl ?_
 rintro w4 Q4 (hg4 : Good _ s (Q4 :: Q2 :: Q1 :: os)) hax4 hb4
 refine ⟨trivial, ?_⟩
 refine RL.done ?_
 refine CW.seq ?_
 have hg5 := hg4.drew
 refine CW.draws2 [(true, 0), (true, 1), (true, 3), (true, 4), (false, 2), (true, 6), (false, 5)] [(false, 7), (true, 8), (false, 9)] 7 #[true, true, true, true, true, true, true, false, false, false] (fun w => At1 b3 _ w ∧ True) mixed (by kernel_rfl) (by kernel_rfl) (by kernel_rfl) (by kernel_rfl) (by kernel_rfl) (⟨hg5.at1 (by simp) hb4, trivial⟩) ?_
 refine RL.fi fl30_2 ?_
 refine RL.loadsT (ad := ⟨b3, 0, none⟩) (j := 2) rfl rfl rfl rfl ty27 rfl (At1.holds) (fun w h => h.1.inn) rfl rfl ?_
 refine RL.fi fl30_3 ?_
 refine RL.loadT (ad := ⟨b3, 0, none⟩) (j := 4) rfl rfl rfl rfl ty28 rfl (At1.holds) (fun w h => h.1.inn) rfl ?_
 refine RL.call rfl rfl rfl rfl rfl ca58 (conf_log_ct hg5 hl.voters hl.learners hs1) ?_
 rintro v6 s6 B6 w6 hle6 (hg6 : Good _ s6 (B6 :: Q4 :: Q2 :: Q1 :: os)) hax6 ⟨vs8, rfl, hR8⟩
 have hg6 := hg6.drop
 have hl := hl.up hle6
 obtain ⟨va8, vc8, la8, lc8, rfl, hv8, hl8⟩ := hR8
 refine ⟨⟨hg6.at1 (by simp) hb4, trivial⟩, ?_⟩
 refine RL.fi fl30_2 ?_
 refine RL.call rfl rfl rfl rfl rfl ca61 (CloneB_ct hg6 (.inl rfl) hl.data.2.2 (by omega)) ?_
 rintro v7 s7 Q7 w7 hle7 (hg7 : Good _ s7 (Q7 :: Q4 :: Q2 :: Q1 :: os)) hax7 ⟨-, a11, c11, rfl, ho11⟩
 have hl := hl.up hle7
 refine ⟨⟨hg7.at1 (by simp) hb4, trivial⟩, ?_⟩
 refine RL.done ?_
 refine RL.next trivial ?_
 refine RL.sB (b := b3) (i := 1) (j := 2) rfl rfl rfl ty27 rfl rfl hg7 rfl (hb4) rfl rfl ?_
 rintro w8 Q8 (hg8 : Good _ s7 (Q7 :: Q8 :: Q2 :: Q1 :: os)) hax8 hb8
 refine ⟨trivial, ?_⟩
 refine RL.fi fl30_3 ?_
 refine RL.sB (b := b3) (i := 1) (j := 4) rfl rfl rfl ty28 rfl rfl hg8 rfl (hb8) rfl rfl ?_
 rintro w9 Q9 (hg9 : Good _ s7 (Q7 :: Q9 :: Q2 :: Q1 :: os)) hax9 hb9
 refine ⟨trivial, ?_⟩
 refine RL.done ?_
 refine CW.seq ?_
 have hg10 := hg9.drew
 refine CW.draws [(true, 0), (true, 1), (true, 2), (false, 3), (true, 4), (false, 5)] (fun w => At1 b3 _ w ∧ At1 b1 _ w ∧ True) mixed (by kernel_rfl) (by kernel_rfl) (by kernel_rfl) (by kernel_rfl) (⟨hg10.at1 (by simp) hb9, hg10.at1 (by simp) hb1, trivial⟩) ?_
 refine RL.loadsT (ad := ⟨b3, 0, none⟩) (j := 0) rfl rfl rfl rfl ty30 rfl (At1.holds) (fun w h => h.1.inn) rfl rfl ?_
 refine RL.fi fl33_1 ?_
 refine RL.loadT (ad := ⟨b1, 0, none⟩) (j := 5) rfl rfl rfl rfl ty31 rfl (At1.holds) (fun w h => h.2.1.inn) rfl ?_
 obtain ⟨r17, hr17, hE17⟩ := Lies.grow REntry.up hr hE0 (hle6.trans hle7)
 refine RL.call rfl rfl rfl rfl rfl ca149 (entries_ct hg10 (hr17.imp id fun z => by simp [z]) hE17 hs3 hs4) ?_
 rintro v11 s11 Q11 w11 hle11 (hg11 : Good _ s11 (Q11 :: Q7 :: Q9 :: Q2 :: Q1 :: os)) hax11 ⟨a17, c17, rfl, ho17⟩
 have hl := hl.up hle11
 refine ⟨⟨hg11.at1 (by simp) hb9, hg11.at1 (by simp) hb1, trivial⟩, ?_⟩
 refine RL.build rfl rfl rfl rfl ze33 pl33 rfl rfl ?_
 refine RL.sB (b := b2) (i := 3) (j := 0) rfl rfl rfl ty33 rfl rfl hg11 rfl (hb2) rfl rfl ?_
 rintro w12 Q12 (hg12 : Good _ s11 (Q11 :: Q7 :: Q9 :: Q12 :: Q1 :: os)) hax12 hb12
 refine ⟨⟨hg12.at1 (by simp) hb9, hg12.at1 (by simp) hb1, trivial⟩, ?_⟩
 refine RL.done ?_
 refine CW.ret (ret (vs := [_]) ⟨_, _, _, rfl, rfl, loadVar_agg ty33 hb12 (hg12.mem (by simp)) rfl, rfl⟩ ?_)
 obtain ⟨s1, hs1, hl1, hm1⟩ := (hg12.front 1 rfl).letgo
 have hl := hl.up hl1
 exact Post.mk ((hle6.trans (hle7.trans hle11)).trans hl1) hs1.dropNext.dropNext.dropNext (hax1.trans (hax2.trans (hax3.trans (hax4.trans ((Aux.drew _).trans (hax6.trans (hax7.trans (hax8.trans (hax9.trans ((Aux.drew _).trans (hax11.trans hax12))))))))))) ⟨Hd.log va8 vc8 la8 lc8 a11 c11 a17 c17, rfl, hl.index, hl.term, hv8.up (RInt.up _) ((hle7.trans hle11).trans hl1), hl8.up (RInt.up _) ((hle7.trans hle11).trans hl1), ho11.imm (RInt.up _) (hle11.trans hl1) hm1, ho17.up REntry.up hl1⟩
set_option maxRecDepth 100000 in
theorem Slice_ct {l : Log} {h : Hd} {frm most : Int} (hg : Good w s os) (hr : r = s ∨ r ∈ os) (hl : LogAt r s l h) (hs : l.small) (hfr : rng .u64 frm) (hmo : rng .i64 most) :
  Calls Tryz.prog 131 #[logA l h, u64 frm, i64 most] w (Post w s os fun s' A q => ∃ a c, q = .tuple #[.slice a (sliceP l frm most).1.length c, i64 (sliceP l frm most).2] ∧ Own REntry 6 65 s' A a c (sliceP l frm most).1) := by
 obtain ⟨hs1, hs2, hs3, hs4⟩ := hs
 refine enter (l := [logA l h, u64 frm, i64 most]) Tryz.func131 rfl Tryz.ntmps131 rfl ?_
 refine CW.seq (CW.plain ?_)
 refine RL.boxN rfl rfl rfl rfl rfl hg ?_
 rintro b13 w13 Q13 (hg13 : Good _ s (Q13 :: os)) hax13 hb13
 refine ⟨trivial, ?_⟩
 refine RL.pu ?_
 refine RL.pd ?_
 refine CW.seq ?_
 refine CW.seq (CW.plain ?_)
 refine RL.ls 0 ty33 hb13 hg13 ?_
 refine RL.callV rfl rfl rfl rfl rfl ca31 (Last_ct hg13 (hr.imp id fun z => by simp [z]) hl) ?_
 rintro v14 w14 (hg14 : Good _ s (Q13 :: os)) hax14 rfl
 refine ⟨trivial, ?_⟩
 refine RL.pp ?_
 refine RL.pp ?_
 refine RL.pd ?_
 refine CW.seq (CW.plain ?_)
 refine RL.pu ?_
 refine RL.fi fl33_0 ?_
 refine RL.fi fl30_0 ?_
 refine RL.lo 0 ty22 hb13 hg14 ?_
 refine RL.pp ?_
 refine RL.part 21 rfl (fun h21 => ?_) (fun h21 => ?_)
 ·
  refine RL.qq ?_
  refine RL.qq ?_
  refine RL.pd ?_
  refine CW.yes (by first | rfl | exact congrArg (fun b => some (Value.bool b)) (by assumption)) ?_
  refine CW.seq (CW.plain ?_)
  refine RL.pu ?_
  refine RL.pd ?_
  refine CW.ret (ret (vs := [_, _]) ⟨_, _, rfl, rfl, _, _, rfl, rfl, rfl⟩ ?_)
  have hc : frm ≤ l.base.index := decide_t h21
  exact Post.mk (Le.refl _) (hg14.drop).nil (hax13.trans hax14) ⟨none, 0, by simp only [sliceP, if_pos (Or.inl hc)]; rfl, by simp only [sliceP, if_pos (Or.inl hc)]; exact Own.nil _ _ _ _ _⟩
 ·
  refine RL.pp ?_
  refine RL.as_ rfl rfl rfl rfl (u64 (up1 (lastP l).1)) (rfl) ?_
  refine RL.pu ?_
  refine RL.pd ?_
  refine CW.cond rfl (fun h26 => ?_) (fun h26 => ?_)
  ·
   refine CW.seq (CW.plain ?_)
   refine RL.pu ?_
   refine RL.pd ?_
   refine CW.ret (ret (vs := [_, _]) ⟨_, _, rfl, rfl, _, _, rfl, rfl, rfl⟩ ?_)
   have hc : up1 (lastP l).1 < frm := decide_t h26
   exact Post.mk (Le.refl _) (hg14.drop).nil (hax13.trans hax14) ⟨none, 0, by simp only [sliceP, if_pos (Or.inr hc)]; rfl, by simp only [sliceP, if_pos (Or.inr hc)]; exact Own.nil _ _ _ _ _⟩
  ·
   refine CW.skip ?_
   refine CW.seq ?_
   have hg15 := hg14.drew
   refine CW.draws [(true, 0), (true, 1), (true, 2), (true, 3), (false, 4), (true, 5), (false, 6)] (fun w => At1 b13 _ w ∧ True) mixed (by kernel_rfl) (by kernel_rfl) (by kernel_rfl) (by kernel_rfl) (⟨hg15.at1 (by simp) hb13, trivial⟩) ?_
   refine RL.fi fl33_1 ?_
   refine RL.loadT (ad := ⟨b13, 0, none⟩) (j := 5) rfl rfl rfl rfl ty31 rfl (At1.holds) (fun w h => h.1.inn) rfl ?_
   refine RL.loadsT (ad := ⟨b13, 0, none⟩) (j := 0) rfl rfl rfl rfl ty33 rfl (At1.holds) (fun w h => h.1.inn) rfl rfl ?_
   refine RL.pu ?_
   refine RL.callV rfl rfl rfl rfl rfl ca138 (place_ct hg15 (hr.imp id fun z => by simp [z]) hl (by omega)) ?_
   rintro v16 w16 (hg16 : Good _ s (Q13 :: os)) hax16 rfl
   refine ⟨⟨hg16.at1 (by simp) hb13, trivial⟩, ?_⟩
   have hpl := placeP_le l frm
   refine RL.partL (placeP l frm : Int) (l.entries.length : Int) rfl rfl rfl rfl sl31 rfl (.inr ⟨_, _, rfl, rfl⟩) (.inl ⟨rfl, rfl⟩) hl.entries (by omega) (by omega) (by omega) ?_
   intro a32 c32 hE32
   have e32 : ((l.entries.take (l.entries.length : Int).toNat).drop ((placeP l frm : Nat) : Int).toNat) = l.entries.drop (placeP l frm) := by simp
   rw [e32] at hE32 ⊢
   refine RL.pd ?_
   refine CW.seq (CW.plain ?_)
   refine RL.pp ?_
   refine RL.len rfl rfl rfl rfl sl31 rfl ?_
   refine RL.pu ?_
   refine RL.max rfl rfl rfl rfl rfl rfl ?_
   refine RL.min rfl rfl rfl rfl rfl rfl ?_
   refine RL.partL (0 : Int) (if (if 0 > most then (0 : Int) else most) < ((l.entries.drop (placeP l frm)).length : Int) then (if 0 > most then (0 : Int) else most) else ((l.entries.drop (placeP l frm)).length : Int)) rfl rfl rfl rfl sl31 rfl (.inl ⟨rfl, rfl⟩) (.inr ⟨_, _, rfl, rfl⟩) hE32 (by omega) (by split <;> split <;> omega) (by split <;> omega) ?_
   intro a39 c39 hE39
   rw [take_min] at hE39 ⊢
   refine RL.call rfl rfl rfl rfl rfl ca149 (entries_ct hg16 (hr.imp id fun z => by simp [z]) hE39 (fun e he => hs3 e (List.mem_of_mem_drop (List.mem_of_mem_take he))) (by simp only [List.length_take, List.length_drop]; omega)) ?_
   rintro v17 s17 Q17 w17 hle17 (hg17 : Good _ s17 (Q17 :: Q13 :: os)) hax17 ⟨a40, c40, rfl, ho40⟩
   refine ⟨trivial, ?_⟩
   refine RL.pu ?_
   refine RL.pd ?_
   refine CW.ret (ret (vs := [_, _]) ⟨_, _, rfl, rfl, _, _, rfl, rfl, rfl⟩ ?_)
   have hc : ¬ (frm ≤ l.base.index ∨ up1 (lastP l).1 < frm) := fun h => h.elim (decide_f h21) (decide_f h26)
   exact Post.mk hle17 hg17.dropNext (hax13.trans (hax14.trans ((Aux.drew _).trans (hax16.trans hax17)))) ⟨a40, c40, by simp only [sliceP, if_neg hc]; rfl, by simp only [sliceP, if_neg hc]; exact ho40⟩
end
end Go.Lw

/-
 IndexFunc, ContainsFunc at entries, at peers.
-/
namespace Go.Lw
open Go.Proofs
attribute [local irreducible] RL RA
def idxP {α : Type} (p : α → Bool) (xs : List α) : Int := match xs.findIdx? p with | some k => (k : Int) | none => -1
theorem idxP_at {α : Type} {p : α → Bool} {xs : List α} {k : Nat} (hk : k < xs.length) (hp : p xs[k] = true) (hn : ∀ x ∈ xs.take k, p x = false) : idxP p xs = k := by
 unfold idxP
 have : xs.findIdx? p = some k := by
  rw [List.findIdx?_eq_some_iff_getElem]
  refine ⟨hk, hp, fun j hj => ?_⟩
  have := hn (xs[j]'(by omega)) (by rw [List.mem_take_iff_getElem]; exact ⟨j, by omega, rfl⟩)
  simpa using this
 rw [this]
theorem idxP_none {α : Type} {p : α → Bool} {xs : List α} (hn : ∀ x ∈ xs, p x = false) : idxP p xs = -1 := by
 unfold idxP
 have : xs.findIdx? p = none := by rw [List.findIdx?_eq_none_iff]; exact hn
 rw [this]
theorem idxP_any {α : Type} (p : α → Bool) (xs : List α) : decide (idxP p xs ≥ 0) = xs.any p := by
 unfold idxP
 cases h : xs.findIdx? p with
 | none =>
  rw [List.findIdx?_eq_none_iff] at h
  have : xs.any p = false := List.any_eq_false.2 (fun x hx => by simp [h x hx])
  rw [this]; rfl
 | some k =>
  rw [List.findIdx?_eq_some_iff_getElem] at h
  obtain ⟨hk, hp, _⟩ := h
  have : xs.any p = true := List.any_eq_true.2 ⟨_, List.getElem_mem hk, hp⟩
  rw [this]; simp
theorem idxP_rng {α : Type} (p : α → Bool) (xs : List α) : -1 ≤ idxP p xs ∧ idxP p xs < xs.length ∨ xs = [] ∧ idxP p xs = -1 := by
 unfold idxP
 cases h : xs.findIdx? p with
 | none => cases xs with
  | nil => exact .inr ⟨rfl, rfl⟩
  | cons x xs => left; simp; omega
 | some k =>
  rw [List.findIdx?_eq_some_iff_getElem] at h
  obtain ⟨hk, _⟩ := h
  left; simp only; omega
theorem takes {α : Type} {p : α → Bool} {xs : List α} {k : Nat} (hk : k < xs.length) (hn : ∀ x ∈ xs.take k, p x = false) (hp : p xs[k] = false) : ∀ x ∈ xs.take (k + 1), p x = false := by
 intro x hx
 rw [List.take_succ_eq_append_getElem hk] at hx
 rcases List.mem_append.1 hx with hx | hx
 ·
  exact hn x hx
 ·
  obtain rfl := List.mem_singleton.1 hx; exact hp
section
variable {w : World} {s r : Res} {os : List Res}
set_option maxRecDepth 100000 in
theorem IndexE_ct {xs : List Entry} {xa : Option Addr} {xc g : Nat} {cap : Array Value} {p : Entry → Bool} (hg : Good w s os) (hr : r = s ∨ r ∈ os) (hx : Lies REntry 6 r s xa xc xs) (hc : callable Tryz.prog g = true)
  (hp : ∀ x ∈ xs, ∀ vs, REntry s vs x → ∀ w', Good w' s os → Calls Tryz.prog g (#[.agg vs.toArray] ++ cap) w' (PostV w' s os fun q => q = .bool (p x))) :
  Calls Tryz.prog 154 #[.slice xa xs.length xc, .func (.func g) #[] cap] w (PostV w s os fun q => q = i64 (idxP p xs)) := by
 have hlen := hx.le_max
 simp only [maxLen] at hlen
 refine enter (l := [.slice xa xs.length xc, .func (.func g) #[] cap]) Tryz.func154 rfl Tryz.ntmps154 rfl ?_
 refine CW.seq (CW.plain ?_)
 refine RL.pd ?_
 refine CW.seq ?_
 refine CW.seq (CW.plain ?_)
 refine RL.pu ?_
 refine RL.len rfl rfl rfl rfl sl31 rfl ?_
 refine RL.pd ?_
 refine CW.block ?_
 refine CW.loop (σ := Nat) (fun j E w' => Good w' s os ∧ Aux w w' ∧ ∃ k : Nat, E = [(0, .slice xa xs.length xc), (1, .func (.func g) #[] cap), (7, i64 xs.length), (8, i64 k)] ∧ k + j = xs.length ∧ ∀ x ∈ xs.take k, p x = false) (fun j => j) xs.length [(0, .slice xa xs.length xc), (1, .func (.func g) #[] cap), (7, i64 xs.length), (8, i64 0)] ⟨rfl, rfl, rfl, rfl, trivial⟩ ⟨hg, (Aux.refl _), 0, rfl, by omega, by simp⟩ ?_
 rintro j E wL ⟨hgL, haxL, k, rfl, hk, hno⟩
 refine CW.seq (CW.plain ?_)
 refine RL.pd ?_
 refine CW.seq ?_
 refine CW.cond rfl (fun h9 => ?_) (fun h9 => ?_)
 ·
  refine CW.skip ?_
  refine CW.seq ?_
  refine CW.block ?_
  refine CW.seq (CW.plain ?_)
  refine RL.pu ?_
  refine RL.pd ?_
  refine CW.seq (CW.plain ?_)
  refine RL.pp ?_
  refine RL.pu ?_
  have hlt : k < xs.length := by have := decide_t h9; omega
  refine RL.idxL rfl rfl rfl rfl sl31 rfl rfl hx (by omega) (by omega) ?_
  rintro q vs hvl hH hE
  have hE2 := hE
  obtain ⟨ea, ec, ea1, ec1, ea2, ec2, rfl, er1, er2, er3, eh1, eh2, eh3⟩ := hE2
  refine RL.loads (j := 0) (us := _) rfl rfl rfl rfl ty65 rfl (hH) (hgL.has hr) rfl rfl ?_
  refine RL.callF rfl rfl rfl rfl rfl rfl hc (hp _ (List.getElem_mem _) _ hE _ hgL) ?_
  rintro e1 w1 ⟨v1, rfl, hg1, hax1, rfl⟩
  refine ⟨_, rfl, trivial, ?_⟩
  refine RL.done ?_
  refine CW.cond rfl (fun h16 => ?_) (fun h16 => ?_)
  ·
   refine CW.seq (CW.plain ?_)
   refine RL.pu ?_
   refine RL.pd ?_
   refine CW.ret (ret (vs := [_]) ⟨_, _, rfl, rfl, rfl⟩ ?_)
   exact PostV.mk hg1 (haxL.trans hax1) (congrArg i64 (idxP_at hlt h16 hno).symm)
  ·
   refine CW.skip (CW.plain ?_)
   refine RL.add rfl rfl rfl rfl rfl rfl ((by simp only [rng]; omega)) ?_
   refine RL.pd ?_
   have hno2 := takes hlt hno h16
   cases j with
   | zero => omega
   | succ j => exact fun ac ha => ⟨j, [(0, .slice xa xs.length xc), (1, .func (.func g) #[] cap), (7, i64 xs.length), (8, i64 ((k : Int) + 1))], ha.sub ⟨rfl, rfl, rfl, rfl, trivial⟩, ⟨hg1, haxL.trans hax1, k + 1, rfl, by omega, hno2⟩, Nat.lt_succ_self j⟩
 ·
  refine CW.exit ?_
  refine CW.seq (CW.plain ?_)
  refine RL.pd ?_
  refine CW.ret (ret (vs := [_]) ⟨_, _, rfl, rfl, rfl⟩ ?_)
  have hke : k = xs.length := by have := decide_f h9; omega
  rw [hke, List.take_length] at hno
  exact PostV.mk hgL haxL (congrArg i64 (idxP_none hno).symm)
set_option maxRecDepth 100000 in
theorem IndexPe_ct {xs : List Peer} {xa : Option Addr} {xc g : Nat} {cap : Array Value} {p : Peer → Bool} (hg : Good w s os) (hr : r = s ∨ r ∈ os) (hx : Lies RPeer 3 r s xa xc xs) (hc : callable Tryz.prog g = true)
  (hp : ∀ x ∈ xs, ∀ vs, RPeer s vs x → ∀ w', Good w' s os → Calls Tryz.prog g (#[.agg vs.toArray] ++ cap) w' (PostV w' s os fun q => q = .bool (p x))) :
  Calls Tryz.prog 143 #[.slice xa xs.length xc, .func (.func g) #[] cap] w (PostV w s os fun q => q = i64 (idxP p xs)) := by
 have hlen := hx.le_max
 simp only [maxLen] at hlen
 refine enter (l := [.slice xa xs.length xc, .func (.func g) #[] cap]) Tryz.func143 rfl Tryz.ntmps143 rfl ?_
 refine CW.seq (CW.plain ?_)
 refine RL.pd ?_
 refine CW.seq ?_
 refine CW.seq (CW.plain ?_)
 refine RL.pu ?_
 refine RL.len rfl rfl rfl rfl sl40 rfl ?_
 refine RL.pd ?_
 refine CW.block ?_
 refine CW.loop (σ := Nat) (fun j E w' => Good w' s os ∧ Aux w w' ∧ ∃ k : Nat, E = [(0, .slice xa xs.length xc), (1, .func (.func g) #[] cap), (7, i64 xs.length), (8, i64 k)] ∧ k + j = xs.length ∧ ∀ x ∈ xs.take k, p x = false) (fun j => j) xs.length [(0, .slice xa xs.length xc), (1, .func (.func g) #[] cap), (7, i64 xs.length), (8, i64 0)] ⟨rfl, rfl, rfl, rfl, trivial⟩ ⟨hg, (Aux.refl _), 0, rfl, by omega, by simp⟩ ?_
 rintro j E wL ⟨hgL, haxL, k, rfl, hk, hno⟩
 refine CW.seq (CW.plain ?_)
 refine RL.pd ?_
 refine CW.seq ?_
 refine CW.cond rfl (fun h9 => ?_) (fun h9 => ?_)
 ·
  refine CW.skip ?_
  refine CW.seq ?_
  refine CW.block ?_
  refine CW.seq (CW.plain ?_)
  refine RL.pu ?_
  refine RL.pd ?_
  refine CW.seq (CW.plain ?_)
  refine RL.pp ?_
  refine RL.pu ?_
  have hlt : k < xs.length := by have := decide_t h9; omega
  refine RL.idxL rfl rfl rfl rfl sl40 rfl rfl hx (by omega) (by omega) ?_
  rintro q vs hvl hH hE
  have hE2 := hE
  obtain ⟨rfl, er1⟩ := hE2
  refine RL.loads (j := 0) (us := _) rfl rfl rfl rfl ty136 rfl (hH) (hgL.has hr) rfl rfl ?_
  refine RL.callF rfl rfl rfl rfl rfl rfl hc (hp _ (List.getElem_mem _) _ hE _ hgL) ?_
  rintro e1 w1 ⟨v1, rfl, hg1, hax1, rfl⟩
  refine ⟨_, rfl, trivial, ?_⟩
  refine RL.done ?_
  refine CW.cond rfl (fun h16 => ?_) (fun h16 => ?_)
  ·
   refine CW.seq (CW.plain ?_)
   refine RL.pu ?_
   refine RL.pd ?_
   refine CW.ret (ret (vs := [_]) ⟨_, _, rfl, rfl, rfl⟩ ?_)
   exact PostV.mk hg1 (haxL.trans hax1) (congrArg i64 (idxP_at hlt h16 hno).symm)
  ·
   refine CW.skip (CW.plain ?_)
   refine RL.add rfl rfl rfl rfl rfl rfl ((by simp only [rng]; omega)) ?_
   refine RL.pd ?_
   have hno2 := takes hlt hno h16
   cases j with
   | zero => omega
   | succ j => exact fun ac ha => ⟨j, [(0, .slice xa xs.length xc), (1, .func (.func g) #[] cap), (7, i64 xs.length), (8, i64 ((k : Int) + 1))], ha.sub ⟨rfl, rfl, rfl, rfl, trivial⟩, ⟨hg1, haxL.trans hax1, k + 1, rfl, by omega, hno2⟩, Nat.lt_succ_self j⟩
 ·
  refine CW.exit ?_
  refine CW.seq (CW.plain ?_)
  refine RL.pd ?_
  refine CW.ret (ret (vs := [_]) ⟨_, _, rfl, rfl, rfl⟩ ?_)
  have hke : k = xs.length := by have := decide_f h9; omega
  rw [hke, List.take_length] at hno
  exact PostV.mk hgL haxL (congrArg i64 (idxP_none hno).symm)
set_option maxRecDepth 100000 in
theorem ContainsE_ct {xs : List Entry} {xa : Option Addr} {xc g : Nat} {cap : Array Value} {p : Entry → Bool} (hg : Good w s os) (hr : r = s ∨ r ∈ os) (hx : Lies REntry 6 r s xa xc xs) (hc : callable Tryz.prog g = true)
  (hp : ∀ x ∈ xs, ∀ vs, REntry s vs x → ∀ w', Good w' s os → Calls Tryz.prog g (#[.agg vs.toArray] ++ cap) w' (PostV w' s os fun q => q = .bool (p x))) :
  Calls Tryz.prog 133 #[.slice xa xs.length xc, .func (.func g) #[] cap] w (PostV w s os fun q => q = .bool (xs.any p)) := by
 refine enter (l := [.slice xa xs.length xc, .func (.func g) #[] cap]) Tryz.func133 rfl Tryz.ntmps133 rfl ?_
 refine CW.seq (CW.plain ?_)
 refine RL.pd ?_
 refine CW.seq (CW.plain ?_)
 refine RL.pp ?_
 refine RL.callV rfl rfl rfl rfl rfl ca154 (IndexE_ct hg hr hx hc hp) ?_
 rintro v1 w1 (hg1 : Good _ s (os)) hax1 rfl
 refine ⟨trivial, ?_⟩
 refine RL.pu ?_
 refine RL.pd ?_
 refine CW.ret (ret (vs := [_]) ⟨_, _, rfl, rfl, rfl⟩ ?_)
 exact PostV.mk hg1 hax1 (congrArg Value.bool (idxP_any p xs))
end
end Go.Lw

/-
 raftlog: Merge.
-/
namespace Go.Lw
open Go.Proofs
attribute [local irreducible] RL RA
section
variable {w : World} {s r : Res} {os : List Res}
theorem LogAt.grow {s' : Res} {l : Log} {h : Hd} (hr : r = s ∨ r ∈ os) (hl : LogAt r s l h) (hle : Le s s') : ∃ r', (r' = s' ∨ r' ∈ os) ∧ LogAt r' s' l h := by
 obtain ⟨r', h1, h2⟩ := Lies.grow REntry.up hr hl.entries hle
 exact ⟨r', h1, { hl.up hle with entries := h2 }⟩
theorem LogAt.none (r s : Res) : LogAt r s Log.none (Hd.log .none 0 .none 0 .none 0 .none 0) :=
 ⟨by simp [rng, Log.none, Snap.none], by simp [rng, Log.none, Snap.none], Imm.nil _ _ _ (Nat.zero_le _), Imm.nil _ _ _ (Nat.zero_le _), Imm.nil _ _ _ (Nat.zero_le _), Lies.nil _ _ _ _ (Nat.zero_le _)⟩
theorem LogOwn.none (A s : Res) : LogOwn A s Log.none (Hd.log .none 0 .none 0 .none 0 .none 0) :=
 ⟨by simp [rng, Log.none, Snap.none], by simp [rng, Log.none, Snap.none], Imm.nil _ _ _ (Nat.zero_le _), Imm.nil _ _ _ (Nat.zero_le _), Imm.nil _ _ _ (Nat.zero_le _), Own.nil _ _ _ _ _⟩
set_option maxRecDepth 100000 in
theorem other_ct {l : Log} {h : Hd} {e : Entry} {vs : List Value} {B : Res} {b1 : Nat} (hg : Good w s os) (hr : r = s ∨ r ∈ os) (hl : LogAt r s l h) (hB : B ∈ os) (c1 : B b1 = some (.cells (logV l h).toArray 33 (0, 0))) (hE : REntry s vs e) (hn : l.entries.length < 4611686018427387904) :
  Calls Tryz.prog 150 #[.agg vs.toArray, ptr b1] w (PostV w s os fun q => q = .bool (otherP l e)) := by
 obtain ⟨ea, ec, ea1, ec1, ea2, ec2, rfl, er1, er2, er3, eh1, eh2, eh3⟩ := hE
 refine enter (l := [.agg #[u64 e.index, u64 e.term, i64 e.kind, .slice ea e.data.length ec, .slice ea1 e.conf.voters.length ec1, .slice ea2 e.conf.learners.length ec2], ptr b1]) Tryz.func150 rfl Tryz.ntmps150 rfl ?_
 refine CW.seq (CW.plain ?_)
 refine RL.boxN rfl rfl rfl rfl rfl hg ?_
 rintro b1 w1 Q1 (hg1 : Good _ s (Q1 :: os)) hax1 hb1
 refine ⟨trivial, ?_⟩
 refine RL.pd ?_
 refine CW.seq (CW.plain ?_)
 refine RL.loads (j := 0) (us := _) rfl rfl rfl rfl ty33 rfl (Holds.of c1) (hg1.mem (List.mem_cons_of_mem _ hB)) rfl rfl ?_
 refine RL.fi fl65_0 ?_
 refine RL.lo 0 ty22 hb1 hg1 ?_
 refine RL.callV rfl rfl rfl rfl rfl ca115 (Term_ct hg1 (hr.imp id fun z => by simp [z]) hl hn) ?_
 rintro v2 w2 (hg2 : Good _ s (Q1 :: os)) hax2 rfl
 refine ⟨trivial, ?_⟩
 refine RL.pp ?_
 refine RL.pp ?_
 refine RL.pd ?_
 refine CW.seq (CW.plain ?_)
 refine RL.pp ?_
 refine RL.part 14 rfl (fun h14 => ?_) (fun h14 => ?_)
 ·
  refine RL.pu ?_
  refine RL.fi fl65_1 ?_
  refine RL.lo 1 ty22 hb1 hg2 ?_
  refine RL.pp ?_
  refine RL.pd ?_
  refine CW.ret (ret (vs := [_]) ⟨_, _, rfl, rfl, rfl⟩ ?_)
  refine PostV.mk (hg2.drop) (hax1.trans hax2) (congrArg Value.bool ?_)
  simp_all [otherP]
  try (rw [Bool.eq_iff_iff]; simp)
 ·
  refine RL.qq ?_
  refine RL.qq ?_
  refine RL.pu ?_
  refine RL.pd ?_
  refine CW.ret (ret (vs := [_]) ⟨_, _, rfl, rfl, rfl⟩ ?_)
  refine PostV.mk (hg2.drop) (hax1.trans hax2) (congrArg Value.bool ?_)
  simp_all [otherP]
  try (rw [Bool.eq_iff_iff]; simp)
set_option maxRecDepth 100000 in
theorem fresh_ct {l : Log} {h : Hd} {e : Entry} {vs : List Value} {B C : Res} {b1 b2 : Nat} (hg : Good w s os) (hr : r = s ∨ r ∈ os) (hl : LogAt r s l h) (hB : B ∈ os) (c1 : B b1 = some (.cells (logV l h).toArray 33 (0, 0))) (hC : C ∈ os) (c2 : C b2 = some (.cells #[.func (.func 150) #[] #[ptr b1]] 175 (0, 0))) (hE : REntry s vs e) (hn : l.entries.length < 4611686018427387904) :
  Calls Tryz.prog 151 #[.agg vs.toArray, ptr b1, ptr b2] w (PostV w s os fun q => q = .bool (freshP l e)) := by
 have hE0 := hE
 obtain ⟨ea, ec, ea1, ec1, ea2, ec2, rfl, er1, er2, er3, eh1, eh2, eh3⟩ := hE
 refine enter (l := [.agg #[u64 e.index, u64 e.term, i64 e.kind, .slice ea e.data.length ec, .slice ea1 e.conf.voters.length ec1, .slice ea2 e.conf.learners.length ec2], ptr b1, ptr b2]) Tryz.func151 rfl Tryz.ntmps151 rfl ?_
 refine CW.seq (CW.plain ?_)
 refine RL.boxN rfl rfl rfl rfl rfl hg ?_
 rintro b3 w3 Q3 (hg3 : Good _ s (Q3 :: os)) hax3 hb3
 refine ⟨trivial, ?_⟩
 refine RL.pd ?_
 refine CW.seq (CW.plain ?_)
 refine RL.loads (j := 0) (us := _) rfl rfl rfl rfl ty33 rfl (Holds.of c1) (hg3.mem (List.mem_cons_of_mem _ hB)) rfl rfl ?_
 refine RL.fi fl65_0 ?_
 refine RL.lo 0 ty22 hb3 hg3 ?_
 refine RL.callV rfl rfl rfl rfl rfl ca115 (Term_ct hg3 (hr.imp id fun z => by simp [z]) hl hn) ?_
 rintro v4 w4 (hg4 : Good _ s (Q3 :: os)) hax4 rfl
 refine ⟨trivial, ?_⟩
 refine RL.pp ?_
 refine RL.pp ?_
 refine RL.pd ?_
 refine CW.seq (CW.plain ?_)
 refine RL.pp ?_
 refine RL.pu ?_
 refine RL.part 16 rfl (fun h16 => ?_) (fun h16 => ?_)
 ·
  refine RL.qq ?_
  refine RL.pa ?_
  refine RL.pu ?_
  refine RL.pd ?_
  refine CW.ret (ret (vs := [_]) ⟨_, _, rfl, rfl, rfl⟩ ?_)
  refine PostV.mk (hg4.drop) (hax3.trans hax4) (congrArg Value.bool ?_)
  simp_all [freshP]
 ·
  refine RL.load (j := 0) rfl rfl rfl rfl ty175 rfl (Holds.of c2) (hg4.mem (List.mem_cons_of_mem _ hC)) rfl ?_
  refine RL.ls 0 ty65 hb3 hg4 ?_
  refine RL.callF rfl rfl rfl rfl rfl rfl rfl (other_ct hg4 (hr.imp id fun z => by simp [z]) hl (List.mem_cons_of_mem _ hB) c1 hE0 hn) ?_
  rintro e5 w5 ⟨v5, rfl, (hg5 : Good _ s (Q3 :: os)), hax5, rfl⟩
  refine ⟨_, rfl, trivial, ?_⟩
  refine RL.pu ?_
  refine RL.pd ?_
  refine CW.ret (ret (vs := [_]) ⟨_, _, rfl, rfl, rfl⟩ ?_)
  refine PostV.mk (hg5.drop) (hax3.trans (hax4.trans hax5)) (congrArg Value.bool ?_)
  simp_all [freshP]
set_option maxRecDepth 100000 in
theorem held_ct {l : Log} {h : Hd} {e : Entry} {vs : List Value} {B C D : Res} {b1 b2 b3 : Nat} {commit : Int} (hg : Good w s os) (hr : r = s ∨ r ∈ os) (hl : LogAt r s l h) (hB : B ∈ os) (c1 : B b1 = some (.cells (logV l h).toArray 33 (0, 0))) (hC : C ∈ os) (c2 : C b2 = some (.cells #[.func (.func 150) #[] #[ptr b1]] 175 (0, 0))) (hD : D ∈ os) (c3 : D b3 = some (.cells #[u64 commit] 22 (0, 0))) (hE : REntry s vs e) (hn : l.entries.length < 4611686018427387904) :
  Calls Tryz.prog 152 #[.agg vs.toArray, ptr b3, ptr b2] w (PostV w s os fun q => q = .bool (decide (e.index ≤ commit) && otherP l e)) := by
 have hE0 := hE
 obtain ⟨ea, ec, ea1, ec1, ea2, ec2, rfl, er1, er2, er3, eh1, eh2, eh3⟩ := hE
 refine enter (l := [.agg #[u64 e.index, u64 e.term, i64 e.kind, .slice ea e.data.length ec, .slice ea1 e.conf.voters.length ec1, .slice ea2 e.conf.learners.length ec2], ptr b3, ptr b2]) Tryz.func152 rfl Tryz.ntmps152 rfl ?_
 refine CW.seq (CW.plain ?_)
 refine RL.boxN rfl rfl rfl rfl rfl hg ?_
 rintro b6 w6 Q6 (hg6 : Good _ s (Q6 :: os)) hax6 hb6
 refine ⟨trivial, ?_⟩
 refine RL.pd ?_
 refine CW.seq (CW.plain ?_)
 refine RL.fi fl65_0 ?_
 refine RL.lo 0 ty22 hb6 hg6 ?_
 refine RL.load (j := 0) rfl rfl rfl rfl ty22 rfl (Holds.of c3) (hg6.mem (List.mem_cons_of_mem _ hD)) rfl ?_
 refine RL.pp ?_
 refine RL.part 9 rfl (fun h9 => ?_) (fun h9 => ?_)
 ·
  refine RL.load (j := 0) rfl rfl rfl rfl ty175 rfl (Holds.of c2) (hg6.mem (List.mem_cons_of_mem _ hC)) rfl ?_
  refine RL.ls 0 ty65 hb6 hg6 ?_
  refine RL.callF rfl rfl rfl rfl rfl rfl rfl (other_ct hg6 (hr.imp id fun z => by simp [z]) hl (List.mem_cons_of_mem _ hB) c1 hE0 hn) ?_
  rintro e7 w7 ⟨v7, rfl, (hg7 : Good _ s (Q6 :: os)), hax7, rfl⟩
  refine ⟨_, rfl, trivial, ?_⟩
  refine RL.pu ?_
  refine RL.pd ?_
  refine CW.ret (ret (vs := [_]) ⟨_, _, rfl, rfl, rfl⟩ ?_)
  refine PostV.mk (hg7.drop) (hax6.trans hax7) (congrArg Value.bool ?_)
  simp_all
  try (intro hx; omega)
 ·
  refine RL.qq ?_
  refine RL.pa ?_
  refine RL.pu ?_
  refine RL.pd ?_
  refine CW.ret (ret (vs := [_]) ⟨_, _, rfl, rfl, rfl⟩ ?_)
  refine PostV.mk (hg6.drop) hax6 (congrArg Value.bool ?_)
  simp_all
  try (intro hx; omega)
theorem Apart.of2 {q1 q2 : Res} {s : Res} {w : World} (h : Good w s (q1 :: q2 :: os)) : Apart q1 q2 := h.2.2.1 q2 (by simp)
theorem mergeP_some {l : Log} {commit i t : Int} {more : List Entry} {k : Nat} (h1 : runP i t more = true) (h2 : ¬ ((termP l i).2 = false ∨ (termP l i).1 ≠ t)) (h3 : (more.any fun e => decide (e.index ≤ commit) && otherP l e) = false) (hk : k < more.length) (h4 : idxP (freshP l) more = k) :
  mergeP l commit i t more = ⟨⟨l.base, l.entries.take (placeP l more[k].index) ++ more.drop k⟩, if placeP l more[k].index < l.entries.length then more[k].index else 0, more.drop k, 0⟩ := by
 have h5 : more.findIdx? (freshP l) = some k := by
  unfold idxP at h4
  cases hf : more.findIdx? (freshP l) with
  | none => rw [hf] at h4; simp only at h4; omega
  | some j => rw [hf] at h4; simp only at h4; congr 1; omega
 unfold mergeP
 rw [if_neg (by simp [h1]), if_neg h2, if_neg (by simp [h3]), h5]
 simp only [List.getElem?_eq_getElem hk, Option.map_some, Option.getD_some]
theorem mergeP_none {l : Log} {commit i t : Int} {more : List Entry} (h1 : runP i t more = true) (h2 : ¬ ((termP l i).2 = false ∨ (termP l i).1 ≠ t)) (h3 : (more.any fun e => decide (e.index ≤ commit) && otherP l e) = false) (h4 : idxP (freshP l) more < 0) :
  mergeP l commit i t more = ⟨l, 0, [], 0⟩ := by
 have h5 : more.findIdx? (freshP l) = none := by
  unfold idxP at h4
  cases hf : more.findIdx? (freshP l) with
  | none => rfl
  | some j => rw [hf] at h4; simp only at h4; omega
 unfold mergeP
 rw [if_neg (by simp [h1]), if_neg h2, if_neg (by simp [h3]), h5]
set_option maxRecDepth 100000 in
set_option maxHeartbeats 1000000 in
theorem Merge_ct {l : Log} {h : Hd} {commit i t : Int} {more : List Entry} {ma : Option Addr} {mc : Nat} (hg : Good w s os) (hr : r = s ∨ r ∈ os) (hl : LogAt r s l h) (hs : l.small) (hm : Imm REntry 6 s ma mc more) (hms : ∀ e ∈ more, e.small) (hn : l.entries.length + more.length ≤ 1099511627776) (hi : rng .u64 i) (ht : rng .u64 t) :
  Calls Tryz.prog 132 #[logA l h, u64 commit, u64 i, u64 t, .slice ma more.length mc] w (Post w s os fun s' A q => ∃ h' a c, q = .tuple #[logA (mergeP l commit i t more).log h', u64 (mergeP l commit i t more).cut, .slice a (mergeP l commit i t more).came.length c, i64 (mergeP l commit i t more).err] ∧
   LogOwn A s' (mergeP l commit i t more).log h' ∧ Own REntry 6 65 s' A a c (mergeP l commit i t more).came ∧ Dj h'.ea a) := by
 have hnl : l.entries.length < 4611686018427387904 := by omega
 have hm0 : Lies REntry 6 s s ma mc more := hm
 refine enter (l := [logA l h, u64 commit, u64 i, u64 t, .slice ma more.length mc]) Tryz.func132 rfl Tryz.ntmps132 rfl ?_
 refine CW.seq (CW.plain ?_)
 refine RL.boxN rfl rfl rfl rfl rfl hg ?_
 rintro b8 w8 Q8 (hg8 : Good _ s (Q8 :: os)) hax8 hb8
 refine ⟨trivial, ?_⟩
 refine RL.boxN rfl rfl rfl rfl rfl hg8 ?_
 rintro b9 w9 Q9 (hg9 : Good _ s (Q9 :: Q8 :: os)) hax9 hb9
 refine ⟨trivial, ?_⟩
 refine RL.allocN rfl rfl rfl rfl ze33 hg9 ?_
 rintro b10 w10 Q10 (hg10 : Good _ s (Q10 :: Q9 :: Q8 :: os)) hax10 hb10
 refine ⟨trivial, ?_⟩
 refine RL.pp ?_
 refine RL.pd ?_
 refine CW.seq ?_
 refine CW.seq (CW.plain ?_)
 refine RL.pp ?_
 refine RL.pu ?_
 refine RL.callV rfl rfl rfl rfl rfl ca56 (run_ct hg10 (.inl rfl) hm0 hi ht) ?_
 rintro v11 w11 (hg11 : Good _ s (Q10 :: Q9 :: Q8 :: os)) hax11 rfl
 refine ⟨trivial, ?_⟩
 refine RL.pd ?_
 refine CW.cond rfl (fun h27 => ?_) (fun h27 => ?_)
 ·
  refine CW.seq (CW.plain ?_)
  refine RL.build rfl rfl rfl rfl ze33 pl33 rfl rfl ?_
  refine RL.sB (b := b10) (i := 0) (j := 0) rfl rfl rfl ty33 rfl rfl hg11 rfl (hb10) rfl rfl ?_
  rintro w12 Q12 (hg12 : Good _ s (Q12 :: Q9 :: Q8 :: os)) hax12 hb12
  refine ⟨trivial, ?_⟩
  refine RL.pp ?_
  refine RL.pd ?_
  refine CW.ret (ret (vs := [_, _, _, _]) ⟨_, _, _, rfl, rfl, loadVar_agg ty33 hb12 (hg12.mem (by simp)) rfl, _, _, rfl, rfl, _, _, rfl, rfl, _, _, rfl, rfl, rfl⟩ ?_)
  have hc : runP i t more = false := by simpa using h27
  exact Post.mk (Le.refl _) (((hg12.drop).drop).drop).nil (hax8.trans (hax9.trans (hax10.trans (hax11.trans hax12)))) ⟨Hd.log none 0 none 0 none 0 none 0, none, 0, by simp only [mergeP, if_pos hc]; rfl, by simp only [mergeP, if_pos hc]; exact LogOwn.none _ _, by simp only [mergeP, if_pos hc]; exact Own.nil _ _ _ _ _, Dj.none_right _⟩
 ·
  refine CW.skip ?_
  refine CW.seq ?_
  refine CW.seq (CW.plain ?_)
  refine RL.ls 0 ty33 hb8 hg11 ?_
  refine RL.pu ?_
  refine RL.callV rfl rfl rfl rfl rfl ca115 (Term_ct hg11 (hr.imp id fun z => by simp [z]) hl hnl) ?_
  rintro v13 w13 (hg13 : Good _ s (Q10 :: Q9 :: Q8 :: os)) hax13 rfl
  refine ⟨trivial, ?_⟩
  refine RL.pp ?_
  refine RL.pp ?_
  refine RL.pd ?_
  refine CW.seq (CW.plain ?_)
  refine RL.pp ?_
  refine RL.pu ?_
  refine RL.part 37 rfl (fun h37 => ?_) (fun h37 => ?_)
  ·
   refine RL.qq ?_
   refine RL.pa ?_
   refine RL.pd ?_
   refine CW.yes (by first | rfl | exact congrArg (fun b => some (Value.bool b)) (by assumption)) ?_
   refine CW.seq (CW.plain ?_)
   refine RL.build rfl rfl rfl rfl ze33 pl33 rfl rfl ?_
   refine RL.sB (b := b10) (i := 0) (j := 0) rfl rfl rfl ty33 rfl rfl hg13 rfl (hb10) rfl rfl ?_
   rintro w14 Q14 (hg14 : Good _ s (Q14 :: Q9 :: Q8 :: os)) hax14 hb14
   refine ⟨trivial, ?_⟩
   refine RL.pp ?_
   refine RL.pd ?_
   refine CW.ret (ret (vs := [_, _, _, _]) ⟨_, _, _, rfl, rfl, loadVar_agg ty33 hb14 (hg14.mem (by simp)) rfl, _, _, rfl, rfl, _, _, rfl, rfl, _, _, rfl, rfl, rfl⟩ ?_)
   have hc1 : runP i t more = true := by simpa using h27
   have hc2 : (termP l i).2 = false ∨ (termP l i).1 ≠ t := .inl (by simpa using h37)
   exact Post.mk (Le.refl _) (((hg14.drop).drop).drop).nil (hax8.trans (hax9.trans (hax10.trans (hax11.trans (hax13.trans hax14))))) ⟨Hd.log none 0 none 0 none 0 none 0, none, 0, by simp only [mergeP, hc1, if_pos hc2]; rfl, by simp only [mergeP, hc1, if_pos hc2]; exact LogOwn.none _ _, by simp only [mergeP, hc1, if_pos hc2]; exact Own.nil _ _ _ _ _, Dj.none_right _⟩
  ·
   refine RL.pp ?_
   refine RL.pu ?_
   refine RL.pd ?_
   refine CW.cond rfl (fun h41 => ?_) (fun h41 => ?_)
   ·
    refine CW.seq (CW.plain ?_)
    refine RL.build rfl rfl rfl rfl ze33 pl33 rfl rfl ?_
    refine RL.sB (b := b10) (i := 0) (j := 0) rfl rfl rfl ty33 rfl rfl hg13 rfl (hb10) rfl rfl ?_
    rintro w15 Q15 (hg15 : Good _ s (Q15 :: Q9 :: Q8 :: os)) hax15 hb15
    refine ⟨trivial, ?_⟩
    refine RL.pp ?_
    refine RL.pd ?_
    refine CW.ret (ret (vs := [_, _, _, _]) ⟨_, _, _, rfl, rfl, loadVar_agg ty33 hb15 (hg15.mem (by simp)) rfl, _, _, rfl, rfl, _, _, rfl, rfl, _, _, rfl, rfl, rfl⟩ ?_)
    have hc1 : runP i t more = true := by simpa using h27
    have hc2 : (termP l i).2 = false ∨ (termP l i).1 ≠ t := .inr (by simpa using h41)
    exact Post.mk (Le.refl _) (((hg15.drop).drop).drop).nil (hax8.trans (hax9.trans (hax10.trans (hax11.trans (hax13.trans hax15))))) ⟨Hd.log none 0 none 0 none 0 none 0, none, 0, by simp only [mergeP, hc1, if_pos hc2]; rfl, by simp only [mergeP, hc1, if_pos hc2]; exact LogOwn.none _ _, by simp only [mergeP, hc1, if_pos hc2]; exact Own.nil _ _ _ _ _, Dj.none_right _⟩
   ·
    refine CW.skip ?_
    refine CW.seq (CW.plain ?_)
    refine RL.makeF rfl rfl rfl rfl rfl ?_
    refine RL.allocN rfl rfl rfl rfl ze175 hg13 ?_
    rintro b16 w16 Q16 (hg16 : Good _ s (Q16 :: Q10 :: Q9 :: Q8 :: os)) hax16 hb16
    refine ⟨trivial, ?_⟩
    refine RL.sB (b := b16) (i := 0) (j := 0) rfl rfl rfl ty175 rfl rfl hg16 rfl (hb16) rfl rfl ?_
    rintro w17 Q17 (hg17 : Good _ s (Q17 :: Q10 :: Q9 :: Q8 :: os)) hax17 hb17
    refine ⟨trivial, ?_⟩
    refine RL.done ?_
    refine CW.seq (CW.plain ?_)
    refine RL.makeF rfl rfl rfl rfl rfl ?_
    refine RL.pd ?_
    refine CW.seq ?_
    refine CW.seq (CW.plain ?_)
    refine RL.pu ?_
    refine RL.makeF rfl rfl rfl rfl rfl ?_
    have hc1 : runP i t more = true := by simpa using h27
    have hc2 : ¬ ((termP l i).2 = false ∨ (termP l i).1 ≠ t) := fun z => z.elim (fun z => by simp [z] at h37) (fun z => by simp [z] at h41)
    refine RL.callV rfl rfl rfl rfl rfl ca133 (ContainsE_ct (p := fun e => decide (e.index ≤ commit) && otherP l e) hg17 (.inl rfl) hm0 rfl (fun x hx vs hE w' hg' => held_ct hg' (hr.imp id fun z => by simp [z]) hl (B := Q8) (by simp) hb8 (C := Q17) (by simp) hb17 (D := Q9) (by simp) hb9 hE hnl)) ?_
    rintro v18 w18 (hg18 : Good _ s (Q17 :: Q10 :: Q9 :: Q8 :: os)) hax18 rfl
    refine ⟨trivial, ?_⟩
    refine RL.done ?_
    refine CW.cond rfl (fun h47 => ?_) (fun h47 => ?_)
    ·
     refine CW.seq (CW.plain ?_)
     refine RL.build rfl rfl rfl rfl ze33 pl33 rfl rfl ?_
     refine RL.sB (b := b10) (i := 1) (j := 0) rfl rfl rfl ty33 rfl rfl hg18 rfl (hb10) rfl rfl ?_
     rintro w19 Q19 (hg19 : Good _ s (Q17 :: Q19 :: Q9 :: Q8 :: os)) hax19 hb19
     refine ⟨trivial, ?_⟩
     refine RL.pp ?_
     refine RL.pd ?_
     refine CW.ret (ret (vs := [_, _, _, _]) ⟨_, _, _, rfl, rfl, loadVar_agg ty33 hb19 (hg19.mem (by simp)) rfl, _, _, rfl, rfl, _, _, rfl, rfl, _, _, rfl, rfl, rfl⟩ ?_)
     exact Post.mk (Le.refl _) ((((hg19.drop).drop).drop).drop).nil (hax8.trans (hax9.trans (hax10.trans (hax11.trans (hax13.trans (hax16.trans (hax17.trans (hax18.trans hax19)))))))) ⟨Hd.log none 0 none 0 none 0 none 0, none, 0, by simp only [mergeP, hc1, if_neg hc2, h47]; rfl, by simp only [mergeP, hc1, if_neg hc2, h47]; exact LogOwn.none _ _, by simp only [mergeP, hc1, if_neg hc2, h47]; exact Own.nil _ _ _ _ _, Dj.none_right _⟩
    ·
     refine CW.skip ?_
     refine CW.seq (CW.plain ?_)
     refine RL.ls 0 ty33 hb8 hg18 ?_
     refine RL.call rfl rfl rfl rfl rfl ca153 (copied_log_ct hg18 (hr.imp id fun z => by simp [z]) hl hs) ?_
     rintro v20 s20 Q20 w20 hle20 (hg20 : Good _ s20 (Q20 :: Q17 :: Q10 :: Q9 :: Q8 :: os)) hax20 ⟨hX, rfl, hoX⟩
     have hm := hm.up REntry.up hle20
     refine ⟨trivial, ?_⟩
     refine RL.allocN rfl rfl rfl rfl ze33 hg20 ?_
     rintro b21 w21 Q21 (hg21 : Good _ s20 (Q21 :: Q20 :: Q17 :: Q10 :: Q9 :: Q8 :: os)) hax21 hb21
     refine ⟨trivial, ?_⟩
     refine RL.sB (b := b21) (i := 0) (j := 0) rfl rfl rfl ty33 rfl rfl hg21 rfl (hb21) rfl rfl ?_
     rintro w22 Q22 (hg22 : Good _ s20 (Q22 :: Q20 :: Q17 :: Q10 :: Q9 :: Q8 :: os)) hax22 hb22
     refine ⟨trivial, ?_⟩
     refine RL.done ?_
     refine CW.seq (CW.plain ?_)
     refine RL.pp ?_
     obtain ⟨r', hr', hl'⟩ := LogAt.grow hr hl hle20
     have hm1 : Lies REntry 6 _ _ ma mc more := hm
     refine RL.callV rfl rfl rfl rfl rfl ca154 (IndexE_ct (p := freshP l) hg22 (.inl rfl) hm1 rfl (fun x hx vs hE w' hg' => fresh_ct hg' (hr'.imp id fun z => by simp [z]) hl' (B := Q8) (by simp) hb8 (C := Q17) (by simp) hb17 hE hnl)) ?_
     rintro v23 w23 (hg23 : Good _ s20 (Q22 :: Q20 :: Q17 :: Q10 :: Q9 :: Q8 :: os)) hax23 rfl
     refine ⟨trivial, ?_⟩
     refine RL.pd ?_
     refine CW.seq ?_
     refine CW.seq (CW.plain ?_)
     refine RL.pu ?_
     refine RL.pd ?_
     refine CW.cond rfl (fun h55 => ?_) (fun h55 => ?_)
     ·
      refine CW.seq (CW.plain ?_)
      refine RL.ls 0 ty33 hb22 hg23 ?_
      refine RL.sB (b := b10) (i := 3) (j := 0) rfl rfl rfl ty33 rfl rfl hg23 rfl (hb10) rfl rfl ?_
      rintro w24 Q24 (hg24 : Good _ s20 (Q22 :: Q20 :: Q17 :: Q24 :: Q9 :: Q8 :: os)) hax24 hb24
      refine ⟨trivial, ?_⟩
      refine RL.pp ?_
      refine RL.pd ?_
      refine CW.ret (ret (vs := [_, _, _, _]) ⟨_, _, _, rfl, rfl, loadVar_agg ty33 hb24 (hg24.mem (by simp)) rfl, _, _, rfl, rfl, _, _, rfl, rfl, _, _, rfl, rfl, rfl⟩ ?_)
      exact Post.mk hle20 (hg24.front 1 rfl).dropNext.dropNext.dropNext.dropNext.dropNext (hax8.trans (hax9.trans (hax10.trans (hax11.trans (hax13.trans (hax16.trans (hax17.trans (hax18.trans (hax20.trans (hax21.trans (hax22.trans (hax23.trans hax24)))))))))))) ⟨hX, none, 0, by simp only [mergeP_none hc1 hc2 h47 (decide_t h55)]; rfl, by simp only [mergeP_none hc1 hc2 h47 (decide_t h55)]; exact hoX, by simp only [mergeP_none hc1 hc2 h47 (decide_t h55)]; exact Own.nil _ _ _ _ _, Dj.none_right _⟩
     ·
      refine CW.skip ?_
      refine CW.seq (CW.plain ?_)
      refine RL.pp ?_
      have hi0 : 0 ≤ idxP (freshP l) more := by have := decide_f h55; omega
      have hi1 : idxP (freshP l) more < more.length := by rcases idxP_rng (freshP l) more with h | h <;> omega
      have hkl : (idxP (freshP l) more).toNat < more.length := by omega
      refine RL.idxL rfl rfl rfl rfl sl31 rfl rfl hm1 hi0 hi1 ?_
      rintro q vs hvl hH ⟨ea, ec, ea1, ec1, ea2, ec2, rfl, er1, er2, er3, eh1, eh2, eh3⟩
      refine RL.fi fl65_0 ?_
      refine RL.load (j := 0) rfl rfl rfl rfl ty22 rfl (hH) (hg23.sh) rfl ?_
      refine RL.pu ?_
      refine RL.pd ?_
      refine CW.seq (CW.plain ?_)
      refine RL.ls 0 ty33 hb8 hg23 ?_
      refine RL.pu ?_
      refine RL.callV rfl rfl rfl rfl rfl ca138 (place_ct hg23 (hr'.imp id fun z => by simp [z]) hl' hnl) ?_
      rintro v25 w25 (hg25 : Good _ s20 (Q22 :: Q20 :: Q17 :: Q10 :: Q9 :: Q8 :: os)) hax25 rfl
      refine ⟨trivial, ?_⟩
      refine RL.pd ?_
      refine CW.seq ?_
      refine CW.seq (CW.plain ?_)
      refine RL.pu ?_
      refine RL.fi fl33_1 ?_
      refine RL.lo 5 ty31 hb8 hg25 ?_
      refine RL.len rfl rfl rfl rfl sl31 rfl ?_
      refine RL.pd ?_
      refine CW.cond rfl (fun h69 => ?_) (fun h69 => ?_)
      ·
       refine CW.plain ?_
       refine RL.pu ?_
       refine RL.pd ?_
       refine CW.seq ?_
       have hg26 := hg25.drew
       refine CW.draws2 [(true, 0), (true, 1), (true, 2), (true, 3), (true, 4), (true, 5), (true, 6), (false, 7), (false, 8), (true, 9)] [(false, 10)] 10 #[true, true, true, true, true, true, true, true, true, true, false] (fun w => At1 b21 _ w ∧ True) mixed (by kernel_rfl) (by kernel_rfl) (by kernel_rfl) (by kernel_rfl) (by kernel_rfl) (⟨hg26.at1 (by simp) hb22, trivial⟩) ?_
       refine RL.fi fl33_1 ?_
       refine RL.loadT (ad := ⟨b21, 0, none⟩) (j := 5) rfl rfl rfl rfl ty31 rfl (At1.holds) (fun w h => h.1.inn) rfl ?_
       refine RL.pu ?_
       have hpl := placeP_le l (more[(idxP (freshP l) more).toNat].index)
       refine RL.cutHi (placeP l more[(idxP (freshP l) more).toNat].index) rfl rfl rfl rfl sl31 rfl rfl rfl (by have := hoX.entries.le_cap; omega) ?_
       refine RL.pp ?_
       refine RL.partL (idxP (freshP l) more) (more.length : Int) rfl rfl rfl rfl sl31 rfl (.inr ⟨_, _, rfl, rfl⟩) (.inl ⟨rfl, rfl⟩) hm1 hi0 (by omega) (by omega) ?_
       intro a77 c77 hE77
       have e77 : ((more.take (more.length : Int).toNat).drop (idxP (freshP l) more).toNat) = more.drop (idxP (freshP l) more).toNat := by simp
       rw [e77] at hE77 ⊢
       refine RL.call rfl rfl rfl rfl rfl ca149 (entries_ct hg26 (.inl rfl) hE77 (fun e he => hms e (List.mem_of_mem_drop he)) (by simp only [List.length_drop]; omega)) ?_
       rintro v27 s27 Q27 w27 hle27 (hg27 : Good _ s27 (Q27 :: Q22 :: Q20 :: Q17 :: Q10 :: Q9 :: Q8 :: os)) hax27 ⟨a78, c78, rfl, ho78⟩
       have hm := hm.up REntry.up hle27
       have hoX := hoX.up hle27
       refine ⟨⟨hg27.at1 (by simp) hb22, trivial⟩, ?_⟩
       have hfr : Own REntry 6 65 _ _ hX.ea hX.ec (l.entries.take (placeP l more[(idxP (freshP l) more).toNat].index)) := Own.front (ys := l.entries.drop (placeP l more[(idxP (freshP l) more).toNat].index)) (by rw [List.take_append_drop]; exact hoX.entries)
       have hln : (l.entries.take (placeP l more[(idxP (freshP l) more).toNat].index)).length = (placeP l more[(idxP (freshP l) more).toNat].index) := by rw [List.length_take]; omega
       have hval : some (Value.slice hX.ea (placeP l more[(idxP (freshP l) more).toNat].index) hX.ec) = some (Value.slice hX.ea (l.entries.take (placeP l more[(idxP (freshP l) more).toNat].index)).length hX.ec) := by rw [hln]
       obtain ⟨news28, hsrc28, hch28⟩ := Src.own sl31 ho78 (hg27.mem (by simp))
       refine RL.append2 (i := 2) (xs := l.entries.take (placeP l more[(idxP (freshP l) more).toNat].index)) (ys := more.drop (idxP (freshP l) more).toNat) rfl rfl rfl rfl sl31 ze65 rfl REntry.one (hval) rfl hg27 rfl (hfr) hsrc28 hch28 ((by rw [hln, List.length_drop]; omega)) (by omega) ?_
       rintro a28 c28 A28 w28 (hg28 : Good _ s27 (Q27 :: Q22 :: A28 :: Q17 :: Q10 :: Q9 :: Q8 :: os)) ho28 hax28 hk28 hn28
       have hoE := ho28
       refine ⟨⟨hg28.at1 (by simp) hb22, trivial⟩, ?_⟩
       refine RL.fi fl33_1 ?_
       refine RL.done ?_
       refine RL.next trivial ?_
       refine RL.sB (b := b21) (i := 1) (j := 5) rfl rfl rfl ty31 rfl rfl hg28 rfl (hb22) rfl rfl ?_
       rintro w29 Q29 (hg29 : Good _ s27 (Q27 :: Q29 :: A28 :: Q17 :: Q10 :: Q9 :: Q8 :: os)) hax29 hb29
       refine ⟨trivial, ?_⟩
       refine RL.done ?_
       refine CW.seq ?_
       have hg30 := hg29.drew
       refine CW.draws [(true, 0), (true, 1), (true, 2), (true, 3), (true, 4), (false, 5), (false, 6), (false, 7), (false, 8), (false, 9)] (fun w => At1 b21 _ w ∧ True) mixed (by kernel_rfl) (by kernel_rfl) (by kernel_rfl) (by kernel_rfl) (⟨hg30.at1 (by simp) hb29, trivial⟩) ?_
       refine RL.loadsT (ad := ⟨b21, 0, none⟩) (j := 0) rfl rfl rfl rfl ty33 rfl (At1.holds) (fun w h => h.1.inn) rfl rfl ?_
       refine RL.pp ?_
       refine RL.pu ?_
       refine RL.partL (idxP (freshP l) more) (more.length : Int) rfl rfl rfl rfl sl31 rfl (.inr ⟨_, _, rfl, rfl⟩) (.inl ⟨rfl, rfl⟩) (show Lies REntry 6 _ _ ma mc more from hm) hi0 (by omega) (by omega) ?_
       intro a85 c85 hE85
       rw [e77] at hE85 ⊢
       refine RL.call rfl rfl rfl rfl rfl ca149 (entries_ct hg30 (.inl rfl) hE85 (fun e he => hms e (List.mem_of_mem_drop he)) (by simp only [List.length_drop]; omega)) ?_
       rintro v31 s31 Q31 w31 hle31 (hg31 : Good _ s31 (Q31 :: Q27 :: Q29 :: A28 :: Q17 :: Q10 :: Q9 :: Q8 :: os)) hax31 ⟨a86, c86, rfl, ho86⟩
       have hm := hm.up REntry.up hle31
       have hoX := hoX.up hle31
       have hoE := hoE.up REntry.up hle31
       refine ⟨⟨hg31.at1 (by simp) hb29, trivial⟩, ?_⟩
       refine RL.sB (b := b10) (i := 5) (j := 0) rfl rfl rfl ty33 rfl rfl hg31 rfl (hb10) rfl rfl ?_
       rintro w32 Q32 (hg32 : Good _ s31 (Q31 :: Q27 :: Q29 :: A28 :: Q17 :: Q32 :: Q9 :: Q8 :: os)) hax32 hb32
       refine ⟨⟨hg32.at1 (by simp) hb29, trivial⟩, ?_⟩
       refine RL.pp ?_
       refine RL.pd ?_
       refine CW.ret (ret (vs := [_, _, _, _]) ⟨_, _, _, rfl, rfl, loadVar_agg ty33 hb32 (hg32.mem (by simp)) rfl, _, _, rfl, rfl, _, _, rfl, rfl, _, _, rfl, rfl, rfl⟩ ?_)
       have hcut := decide_t h69
       have hms := mergeP_some hc1 hc2 h47 hkl (by omega)
       rw [if_pos (by omega)] at hms
       have hgz := (hg32.front 3 rfl).front 1 rfl
       exact Post.mk (hle20.trans (hle27.trans hle31)) hgz.join.dropNext.dropNext.dropNext.dropNext.dropNext.dropNext (hax8.trans (hax9.trans (hax10.trans (hax11.trans (hax13.trans (hax16.trans (hax17.trans (hax18.trans (hax20.trans (hax21.trans (hax22.trans (hax23.trans (hax25.trans ((Aux.drew _).trans (hax27.trans (hax28.trans (hax29.trans ((Aux.drew _).trans (hax31.trans hax32))))))))))))))))))) ⟨{ hX with ea := _, ec := _ }, a86, c86, by rw [hms]; rfl, by rw [hms]; exact ⟨hoX.index, hoX.term, hoX.voters, hoX.learners, hoX.data, hoE.mem (Res.le_join_right (Apart.of2 hgz))⟩, by rw [hms]; exact ho86.mem (Res.le_join_left _ _), Dj.apart hoE ho86 (Apart.of2 hgz).symm⟩
      ·
       refine CW.skip ?_
       refine CW.seq ?_
       have hg33 := hg25.drew
       refine CW.draws2 [(true, 0), (true, 1), (true, 2), (true, 3), (true, 4), (true, 5), (true, 6), (false, 7), (false, 8), (true, 9)] [(false, 10)] 10 #[true, true, true, true, true, true, true, true, true, true, false] (fun w => At1 b21 _ w ∧ True) mixed (by kernel_rfl) (by kernel_rfl) (by kernel_rfl) (by kernel_rfl) (by kernel_rfl) (⟨hg33.at1 (by simp) hb22, trivial⟩) ?_
       refine RL.fi fl33_1 ?_
       refine RL.loadT (ad := ⟨b21, 0, none⟩) (j := 5) rfl rfl rfl rfl ty31 rfl (At1.holds) (fun w h => h.1.inn) rfl ?_
       refine RL.pu ?_
       have hpl := placeP_le l (more[(idxP (freshP l) more).toNat].index)
       refine RL.cutHi (placeP l more[(idxP (freshP l) more).toNat].index) rfl rfl rfl rfl sl31 rfl rfl rfl (by have := hoX.entries.le_cap; omega) ?_
       refine RL.pp ?_
       refine RL.partL (idxP (freshP l) more) (more.length : Int) rfl rfl rfl rfl sl31 rfl (.inr ⟨_, _, rfl, rfl⟩) (.inl ⟨rfl, rfl⟩) hm1 hi0 (by omega) (by omega) ?_
       intro a77 c77 hE77
       have e77 : ((more.take (more.length : Int).toNat).drop (idxP (freshP l) more).toNat) = more.drop (idxP (freshP l) more).toNat := by simp
       rw [e77] at hE77 ⊢
       refine RL.call rfl rfl rfl rfl rfl ca149 (entries_ct hg33 (.inl rfl) hE77 (fun e he => hms e (List.mem_of_mem_drop he)) (by simp only [List.length_drop]; omega)) ?_
       rintro v34 s34 Q34 w34 hle34 (hg34 : Good _ s34 (Q34 :: Q22 :: Q20 :: Q17 :: Q10 :: Q9 :: Q8 :: os)) hax34 ⟨a78, c78, rfl, ho78⟩
       have hm := hm.up REntry.up hle34
       have hoX := hoX.up hle34
       refine ⟨⟨hg34.at1 (by simp) hb22, trivial⟩, ?_⟩
       have hfr : Own REntry 6 65 _ _ hX.ea hX.ec (l.entries.take (placeP l more[(idxP (freshP l) more).toNat].index)) := Own.front (ys := l.entries.drop (placeP l more[(idxP (freshP l) more).toNat].index)) (by rw [List.take_append_drop]; exact hoX.entries)
       have hln : (l.entries.take (placeP l more[(idxP (freshP l) more).toNat].index)).length = (placeP l more[(idxP (freshP l) more).toNat].index) := by rw [List.length_take]; omega
       have hval : some (Value.slice hX.ea (placeP l more[(idxP (freshP l) more).toNat].index) hX.ec) = some (Value.slice hX.ea (l.entries.take (placeP l more[(idxP (freshP l) more).toNat].index)).length hX.ec) := by rw [hln]
       obtain ⟨news35, hsrc35, hch35⟩ := Src.own sl31 ho78 (hg34.mem (by simp))
       refine RL.append2 (i := 2) (xs := l.entries.take (placeP l more[(idxP (freshP l) more).toNat].index)) (ys := more.drop (idxP (freshP l) more).toNat) rfl rfl rfl rfl sl31 ze65 rfl REntry.one (hval) rfl hg34 rfl (hfr) hsrc35 hch35 ((by rw [hln, List.length_drop]; omega)) (by omega) ?_
       rintro a35 c35 A35 w35 (hg35 : Good _ s34 (Q34 :: Q22 :: A35 :: Q17 :: Q10 :: Q9 :: Q8 :: os)) ho35 hax35 hk35 hn35
       have hoE := ho35
       refine ⟨⟨hg35.at1 (by simp) hb22, trivial⟩, ?_⟩
       refine RL.fi fl33_1 ?_
       refine RL.done ?_
       refine RL.next trivial ?_
       refine RL.sB (b := b21) (i := 1) (j := 5) rfl rfl rfl ty31 rfl rfl hg35 rfl (hb22) rfl rfl ?_
       rintro w36 Q36 (hg36 : Good _ s34 (Q34 :: Q36 :: A35 :: Q17 :: Q10 :: Q9 :: Q8 :: os)) hax36 hb36
       refine ⟨trivial, ?_⟩
       refine RL.done ?_
       refine CW.seq ?_
       have hg37 := hg36.drew
       refine CW.draws [(true, 0), (true, 1), (true, 2), (true, 3), (true, 4), (false, 5), (false, 6), (false, 7), (false, 8), (false, 9)] (fun w => At1 b21 _ w ∧ True) mixed (by kernel_rfl) (by kernel_rfl) (by kernel_rfl) (by kernel_rfl) (⟨hg37.at1 (by simp) hb36, trivial⟩) ?_
       refine RL.loadsT (ad := ⟨b21, 0, none⟩) (j := 0) rfl rfl rfl rfl ty33 rfl (At1.holds) (fun w h => h.1.inn) rfl rfl ?_
       refine RL.pp ?_
       refine RL.pu ?_
       refine RL.partL (idxP (freshP l) more) (more.length : Int) rfl rfl rfl rfl sl31 rfl (.inr ⟨_, _, rfl, rfl⟩) (.inl ⟨rfl, rfl⟩) (show Lies REntry 6 _ _ ma mc more from hm) hi0 (by omega) (by omega) ?_
       intro a85 c85 hE85
       rw [e77] at hE85 ⊢
       refine RL.call rfl rfl rfl rfl rfl ca149 (entries_ct hg37 (.inl rfl) hE85 (fun e he => hms e (List.mem_of_mem_drop he)) (by simp only [List.length_drop]; omega)) ?_
       rintro v38 s38 Q38 w38 hle38 (hg38 : Good _ s38 (Q38 :: Q34 :: Q36 :: A35 :: Q17 :: Q10 :: Q9 :: Q8 :: os)) hax38 ⟨a86, c86, rfl, ho86⟩
       have hm := hm.up REntry.up hle38
       have hoX := hoX.up hle38
       have hoE := hoE.up REntry.up hle38
       refine ⟨⟨hg38.at1 (by simp) hb36, trivial⟩, ?_⟩
       refine RL.sB (b := b10) (i := 5) (j := 0) rfl rfl rfl ty33 rfl rfl hg38 rfl (hb10) rfl rfl ?_
       rintro w39 Q39 (hg39 : Good _ s38 (Q38 :: Q34 :: Q36 :: A35 :: Q17 :: Q39 :: Q9 :: Q8 :: os)) hax39 hb39
       refine ⟨⟨hg39.at1 (by simp) hb36, trivial⟩, ?_⟩
       refine RL.pp ?_
       refine RL.pd ?_
       refine CW.ret (ret (vs := [_, _, _, _]) ⟨_, _, _, rfl, rfl, loadVar_agg ty33 hb39 (hg39.mem (by simp)) rfl, _, _, rfl, rfl, _, _, rfl, rfl, _, _, rfl, rfl, rfl⟩ ?_)
       have hcut := decide_f h69
       have hms := mergeP_some hc1 hc2 h47 hkl (by omega)
       rw [if_neg (by omega)] at hms
       have hgz := (hg39.front 3 rfl).front 1 rfl
       exact Post.mk (hle20.trans (hle34.trans hle38)) hgz.join.dropNext.dropNext.dropNext.dropNext.dropNext.dropNext (hax8.trans (hax9.trans (hax10.trans (hax11.trans (hax13.trans (hax16.trans (hax17.trans (hax18.trans (hax20.trans (hax21.trans (hax22.trans (hax23.trans (hax25.trans ((Aux.drew _).trans (hax34.trans (hax35.trans (hax36.trans ((Aux.drew _).trans (hax38.trans hax39))))))))))))))))))) ⟨{ hX with ea := _, ec := _ }, a86, c86, by rw [hms]; rfl, by rw [hms]; exact ⟨hoX.index, hoX.term, hoX.voters, hoX.learners, hoX.data, hoE.mem (Res.le_join_right (Apart.of2 hgz))⟩, by rw [hms]; exact ho86.mem (Res.le_join_left _ _), Dj.apart hoE ho86 (Apart.of2 hgz).symm⟩
end
end Go.Lw

/-
 THE WALK ENGINE, part 14: a range over a function: its rounds, the function that is ranged over, what comes behind.
-/
namespace Go.Lw
open Go.RowKit
abbrev FO (ro : Option Nat) : Fence := ⟨fun _ => True, none, false, ro⟩
section
variable {P : Program} {ro : Option Nat} {m : Nat}
theorem calls_in {f : FuncId} {args : Array Value} {w : World} {R : Ending → World → Prop} (h : Calls P f args w R) : CallsIn (FO ro) m P f args w R := by
 have h' : CallsIn Fence.wide m P f args w R := callsIn_wide.2 h
 refine ⟨trivial, fun cs hr => ?_⟩
 exact h'.2 cs (room_wide _)
theorem calls_of {f : FuncId} {args : Array Value} {w : World} {R : Ending → World → Prop} (h : CallsIn (FO none) m P f args w R) : Calls P f args w R := (callsIn_wide (n := m)).1 h
theorem rows_in {row : String} {args : Array Value} {w : World} {R : Value → World → Prop} (h : Rows P row args w R) : RowsIn (FO ro) m P row args w R := fun c cs _ => by
 obtain ⟨v, w', hR, hs⟩ := h c cs
 refine ⟨v, w', hR, ?_⟩
 have : StepsIn (Machine.fenced P Fence.wide) P _ _ := stepsIn_wide.2 hs
 exact this
theorem ra_mono {ops : Array Oper} {Q Q' : Exit → Act → World → Prop} {S : World → Prop} (hq : ∀ a w, Q .normal a w → Q' .normal a w) : ∀ {l : List (Bool × Oper)} {a : Act} {w : World}, RA P ops Q S l a w → RA P ops Q' S l a w
 | [], a, w, h => hq a w h
 | (true, o) :: r, a, w, h => by
  simp only [RA] at h ⊢
  obtain ⟨v, h1, h2⟩ := h
  exact ⟨v, h1, ra_mono hq h2⟩
 | (false, o) :: r, a, w, h => by
  simp only [RA] at h ⊢
  split
  ·
   rename_i hw
   rw [if_pos hw] at h
   exact Oper.wp_mono (fun a' w' h' => ⟨h'.1, ra_mono hq h'.2⟩) h
  ·
   rename_i hw
   rw [if_neg hw] at h
   exact ra_mono hq h
structure Calm (Q : Exit → Act → World → Prop) : Prop where
 panic : ∀ c a w, ¬ Q (.panic c) a w
 room : ¬ LetsOut Q
theorem calm_never : Calm never := ⟨fun _ _ _ h => h, fun ⟨_, _, h⟩ => h⟩
def only (K : Act → World → Prop) : Exit → Act → World → Prop
 | .normal, a, w => K a w
 | _, _, _ => False
theorem calm_only (K : Act → World → Prop) : Calm (only K) := ⟨fun _ _ _ h => h, fun ⟨_, _, h⟩ => h⟩
theorem noPanic_only (K : Act → World → Prop) : noPanic (only K) = only K := by
 funext e a w
 cases e <;> rfl
theorem oper_in {o : Oper} {a : Act} {w : World} {next : Act → World → Prop} {Q Q0 : Exit → Act → World → Prop} (hd : ∀ c, o.op ≠ .defer c) (hc : Calm Q0) (h : o.wp P a w next Q0) : o.wpIn (FO ro) m P a w next Q := by
 refine ⟨fun _ _ => trivial, ?_⟩
 have hs : o.semAt (FO ro).round a.eval = execOp a.eval o := Oper.semAt_eq _ _ _ hd
 rw [hs]
 unfold Oper.wp at h
 generalize (execOp a.eval o).run P w = r at *
 cases r with
 | ok nx w' =>
  cases nx with
  | enter f args =>
   simp only [Oper.upon] at h
   simp only [Oper.uponIn]
   refine ⟨fun hh => (by simp at hh), ?_⟩
   refine (calls_in (ro := ro) (m := m - 1) h).mono fun e w'' he => ?_
   cases e with
   | returned v => exact he
   | panicked c => exact absurd he (hc.panic _ _ _)
   | outgrown => exact absurd he hc.room
  | row row args =>
   simp only [Oper.upon] at h
   simp only [Oper.uponIn]
   exact ⟨fun hh => (by simp at hh), rows_in h⟩
  | value v => exact h
  | skip => exact h
  | defer d => exact h
  | _ => exact (h : False).elim
 | halt x w' =>
  cases x with
  | panic v => exact absurd h (hc.panic _ _ _)
  | _ => exact (h : False).elim
def noDefer (l : List Oper) : Bool := l.all fun o => match o.op with
 | .defer _ => false
 | _ => true
theorem noDefer_spec {l : List Oper} (h : noDefer l = true) {o : Oper} (ho : o ∈ l) : ∀ c, o.op ≠ .defer c := fun c e => by
 have := List.all_eq_true.1 h o ho
 simp [e] at this
theorem list_in {ops : Array Oper} {S : World → Prop} {Q : Exit → Act → World → Prop} (l2 : List Oper) : ∀ {l1 : List Oper} {a : Act} {w : World}, noDefer l1 = true →
  RA P ops (fun _ a w => wpListIn (FO ro) m P ops Q l2 a w) S (l1.map fun o => (false, o)) a w → wpListIn (FO ro) m P ops Q (l1 ++ l2) a w
 | [], a, w, _, h => h
 | o :: r, a, w, hn, h => by
  have hn' : noDefer r = true := by simp only [noDefer, List.all_cons, Bool.and_eq_true] at hn; exact hn.2
  simp only [List.map_cons, RA] at h
  simp only [List.cons_append]
  unfold wpListIn
  split
  ·
   rename_i hw
   rw [if_pos hw] at h
   refine oper_in (noDefer_spec hn (by simp)) calm_never ?_
   refine Oper.wp_mono ?_ h
   exact fun a' w' h' => list_in l2 hn' h'.2
  ·
   rename_i hw
   rw [if_neg hw] at h
   exact ⟨fun _ _ => trivial, list_in l2 hn' h⟩
theorem ops_in {ops : Array Oper} {K : Act → World → Prop} {Q : Exit → Act → World → Prop} (hn : noDefer ops.toList = true) (hq : ∀ a w, K a w → Q .normal a w) : ∀ {l : List Nat} {a : Act} {w : World}, wpOps P ops (only K) l a w → wpOpsIn (FO ro) m P ops Q l a w
 | [], a, w, h => hq a w h
 | i :: r, a, w, h => by
  unfold wpOps at h
  unfold wpOpsIn
  cases ho : ops[i]? with
  | none => rw [ho] at h; exact ops_in hn hq h
  | some o =>
   rw [ho] at h
   simp only at h ⊢
   split
   ·
    rename_i hw
    rw [if_pos hw] at h
    rcases h with h | ⟨_, h⟩
    ·
     refine oper_in (Q0 := only K) (noDefer_spec hn (by have := Array.mem_of_getElem? ho; simpa using this)) (calm_only K) ?_
     exact Oper.wp_mono (fun a' w' h' => ops_in hn hq h') h
    ·
     exact absurd h (calm_only K).room
   ·
    rename_i hw
    rw [if_neg hw] at h
    exact ⟨fun _ _ => trivial, ops_in hn hq h⟩
theorem draws_in {ops : Array Oper} {S : World → Prop} {Q : Exit → Act → World → Prop} {id : Nat} {a : Act} {w : World} (l : List (Bool × Nat)) (hm : P.follows .mixedOrders = true) (hs : Region.noSelect ops = true) (hlen : l.length = ops.size)
  (hl : (l.all fun x => decide (x.2 < ops.size)) = true) (hc : chk ops l (Array.replicate ops.size false) = true) (hnd : noDefer ops.toList = true) (hS : S w.drew)
  (h : RA P ops Q S (l.map fun x => (x.1, ops.getD x.2 default)) a w.drew) : (Code.region id ops true).wpIn (FO ro) m P Q a w := by
 refine wpIn_region_draw fun t => ?_
 refine ops_in (K := fun a w => Q .normal a w) hnd (fun a w hh => hh) ?_
 simp only [Region.schedule, hm, Bool.true_or, if_true]
 refine wpAny_sound ops.size t _ a _ ?_
 have h1 : RA P ops (only fun a w => Q .normal a w) S (l.map fun x => (x.1, ops.getD x.2 default)) a w.drew := by
  refine ra_mono (Q := Q) ?_ h
  intro a w hh
  exact hh
 have h2 := anyH_of_RA hs l _ a _ (fun x hx => by have := List.all_eq_true.1 hl x hx; simpa using this) hc hS h1
 rw [hlen, noPanic_only] at h2
 exact wpAny_of_held _ _ _ _ h2
end
def CF (ro : Option Nat) (P : Program) (n : Nat) (c : Code) (Q : Exit → Act → World → Prop) (E : Env) (w : World) : Prop := ∀ a, At n E a → c.wpIn (FO ro) 0 P Q a w
def LF (ro : Option Nat) (P : Program) (n : Nat) (ops : Array Oper) (Q : Exit → Act → World → Prop) (l : List Oper) (E : Env) (w : World) : Prop := ∀ a, At n E a → wpListIn (FO ro) 0 P ops Q l a w
section
variable {P : Program} {ro : Option Nat} {n : Nat} {Q : Exit → Act → World → Prop} {E : Env} {w : World} {ops : Array Oper}
theorem CF.plain {id : Nat} {l : List Oper} (hn : noDefer l = true) (h : RL P n l.toArray Q (fun _ => True) (l.map fun o => (false, o)) E w) : CF ro P n (.region id l.toArray false) Q E w :=
 fun a ha => wpIn_region_lit (by
  have := list_in (ro := ro) (m := 0) (P := P) (ops := l.toArray) (Q := Q) (S := fun _ => True) [] (l1 := l) (a := a) (w := w) hn (by
   have h2 : RA P l.toArray Q (fun _ => True) (l.map fun o => (false, o)) a w := h trivial a ha
   refine ra_mono (Q := Q) ?_ h2
   intro a w hh
   exact hh)
  rw [List.append_nil] at this
  exact this)
theorem CF.draws {id : Nat} {l : List Oper} (order : List (Bool × Nat)) (S : World → Prop) (hm : P.follows .mixedOrders = true) (hs : Region.noSelect l.toArray = true) (hlen : order.length = l.toArray.size)
  (hl : (order.all fun x => decide (x.2 < l.toArray.size)) = true) (hc : chk l.toArray order (Array.replicate l.toArray.size false) = true) (hnd : noDefer l = true) (hS : S w.drew)
  (h : RL P n l.toArray Q S (order.map fun x => (x.1, l.toArray.getD x.2 default)) E w.drew) : CF ro P n (.region id l.toArray true) Q E w :=
 fun a ha => draws_in order hm hs hlen hl hc (by simpa using hnd) hS (h hS a ha)
theorem CF.list {id : Nat} {l : List Oper} (h : LF ro P n l.toArray Q l E w) : CF ro P n (.region id l.toArray false) Q E w := fun a ha => wpIn_region_lit (h a ha)
theorem LF.upto (l1 l2 : List Oper) (hn : noDefer l1 = true) (h : RL P n ops (fun _ a w => wpListIn (FO ro) 0 P ops Q l2 a w) (fun _ => True) (l1.map fun o => (false, o)) E w) : LF ro P n ops Q (l1 ++ l2) E w :=
 fun a ha => list_in l2 hn (h trivial a ha)
theorem CF.seq {x y : Code} (h : CF ro P n x (Exit.then (fun a w => y.wpIn (FO ro) 0 P Q a w) Q) E w) : CF ro P n (.seq x y) Q E w := fun a ha => wpIn_seq (h a ha)
theorem CF.skip (h : ∀ a, At n E a → Q .normal a w) : CF ro P n .skip Q E w := fun a ha => wpIn_skip (h a ha)
theorem CF.exit {id : Nat} (h : ∀ a, At n E a → Q (.exit id) a w) : CF ro P n (.exit id) Q E w := fun a ha => wpIn_exit (h a ha)
theorem CF.ret (h : ∀ a, At n E a → Q .ret a w) : CF ro P n .ret Q E w := fun a ha => wpIn_ret (h a ha)
theorem CF.block {id : Nat} {c : Code} (h : CF ro P n c (Exit.inBlock id Q) E w) : CF ro P n (.block id c) Q E w := fun a ha => wpIn_block (h a ha)
theorem CF.cond {c : Operand} {x y : Code} {b : Bool} (hc : ev E c = some (.bool b)) (ht : b = true → CF ro P n x Q E w) (hf : b = false → CF ro P n y Q E w) : CF ro P n (.cond c x y) Q E w :=
 fun a ha => wpIn_cond_split (ha.ev hc) (fun hb => ht hb a ha) (fun hb => hf hb a ha)
theorem CF.test {c : Operand} {x y : Code} {p : Prop} [Decidable p] (hc : ev E c = some (.bool (decide p))) (ht : p → CF ro P n x Q E w) (hf : ¬ p → CF ro P n y Q E w) : CF ro P n (.cond c x y) Q E w :=
 CF.cond hc (fun h => ht (of_decide_eq_true h)) (fun h => hf (of_decide_eq_false h))
theorem CF.eq {c : Operand} {x y : Code} {i j : Int} (hc : ev E c = some (.bool (i == j))) (ht : i = j → CF ro P n x Q E w) (hf : i ≠ j → CF ro P n y Q E w) : CF ro P n (.cond c x y) Q E w :=
 CF.cond hc (fun h => ht (by simpa using h)) (fun h => hf (by simpa using h))
theorem CF.yes {c : Operand} {x y : Code} (hc : ev E c = some (.bool true)) (h : CF ro P n x Q E w) : CF ro P n (.cond c x y) Q E w := fun a ha => wpIn_cond_true (ha.ev hc) (h a ha)
theorem CF.no {c : Operand} {x y : Code} (hc : ev E c = some (.bool false)) (h : CF ro P n y Q E w) : CF ro P n (.cond c x y) Q E w := fun a ha => wpIn_cond_false (ha.ev hc) (h a ha)
theorem CF.less {c : Code} (E' : Env) (hs : Sub E' E) (h : CF ro P n c Q E' w) : CF ro P n c Q E w := fun a ha => h a (ha.sub hs)
theorem wpIn_loop_ghost {σ : Type} {c : Code} {a : Act} (I : σ → Act → World → Prop) (μ : σ → Nat) (x : σ) (h₀ : I x a w)
  (round : ∀ x a w, I x a w → c.wpIn (FO ro) 0 P (Exit.then (fun a' w' => ∃ x', I x' a' w' ∧ μ x' < μ x) Q) a w) : (Code.loop c).wpIn (FO ro) 0 P Q a w := by
 intro b k cs hro hb hr
 have key : ∀ j x a w, μ x = j → I x a w →
   ∃ e a' w', Q e a' w' ∧ ArrivesIn (Machine.fenced P (FO ro)) P (lone (b.atR a (.code c :: .inLoop c :: k)) cs w) b k cs e a' w' := by
  intro j
  induction j using Nat.strongRecOn with
  | _ j ih =>
   intro x a w hn hI
   obtain ⟨e, a₁, w₁, hq, harr⟩ := round x a w hI b (.inLoop c :: k) cs hro hb hr
   cases e with
   | normal =>
    obtain ⟨x₁, hI₁, hlt⟩ := hq
    obtain ⟨e₂, a₂, w₂, hq₂, harr₂⟩ := ih (μ x₁) (hn ▸ hlt) x₁ a₁ w₁ rfl hI₁
    exact ⟨e₂, a₂, w₂, hq₂, .of_steps (StepsIn.trans harr (.one (fenced_calm hb hr rfl) stepR_inLoop)) harr₂⟩
   | exit id => exact ⟨_, a₁, w₁, hq, .pass (x := .inLoop c) rfl (fun _ _ => .inl (by simp)) harr⟩
   | goto l => exact ⟨_, a₁, w₁, hq, .pass (x := .inLoop c) rfl (fun _ _ => .inl (by simp)) harr⟩
   | ret => exact ⟨_, a₁, w₁, hq, .pass (x := .inLoop c) rfl (fun _ _ => .inl (by simp)) harr⟩
   | panic ch => exact ⟨_, a₁, w₁, hq, .pass (x := .inLoop c) rfl (fun _ _ => .inl (by simp)) harr⟩
   | outgrown => exact ⟨_, a₁, w₁, hq, .pass (x := .inLoop c) rfl (fun _ _ => .inl (by simp)) harr⟩
 obtain ⟨e, a', w', hq, harr⟩ := key _ x a w rfl h₀
 exact ⟨e, a', w', hq, .of_steps (.one (fenced_calm hb hr rfl) stepR_loop) harr⟩
theorem CF.loop {σ : Type} {c : Code} (J : σ → Env → World → Prop) (μ : σ → Nat) (x0 : σ) (E0 : Env) (hsub : Sub E0 E) (h0 : J x0 E0 w)
  (round : ∀ x E w, J x E w → CF ro P n c (Exit.then (fun a' w' => ∃ x' E', At n E' a' ∧ J x' E' w' ∧ μ x' < μ x) Q) E w) : CF ro P n (.loop c) Q E w := fun a ha => by
 refine wpIn_loop_ghost (fun x a w => ∃ E, At n E a ∧ J x E w) μ x0 ⟨E0, ha.sub hsub, h0⟩ ?_
 rintro x a w ⟨E, hE, hJ⟩
 exact wpIn_mono (round x E w hJ a hE) fun e a' w' h => by
  cases e <;> first | exact h | (obtain ⟨x', E', h1, h2, h3⟩ := h; exact ⟨x', ⟨E', h1, h2⟩, h3⟩)
end
end Go.Lw

/-
 THE WALK ENGINE, part 15: a range over a function: the statement, yield, what comes behind.
-/
namespace Go.Lw
open Go.RowKit
abbrev mark (D : Nat) : Deferred := { target := .collected D, args := #[] }
def plus (a : Act) (D : Nat) : Act := { a with defers := a.defers ++ [mark D] }
abbrev rec0 (fn : FuncId) (tmps : Array Value) (ps : Array Tmp) (assign body : Code) (D : Nat) : Loop := { state := .ready, pending := none, fn, tmps, params := ps, assign, body, defers := D }
theorem Good.setLoop {w : World} {s A : Res} {os : List Res} {l : Nat} {r : Loop} (h : Good w s (A :: os)) (hl : A l = some (.loop r)) (r2 : Loop) : Good (w.putObj l (.loop r2)) s (A.put l (.loop r2) :: os) ∧ Aux w (w.putObj l (.loop r2)) := by
 have hw := h.1 l _ hl
 have hlt : l < w.heap.size := h.1.lt (by rw [hl]; simp)
 exact ⟨h.write hl (World.putObj_heap_same hlt) (fun k _ hk => World.putObj_heap_other hk), ⟨rfl, rfl, rfl, by simp⟩⟩
section
variable {P : Program} {n : Nat} {Q : Exit → Act → World → Prop} {E : Env} {w : World} {ops : Array Oper} {s : Res} {os : List Res}
theorem CF.range {g : Operand} {ps : Array Tmp} {assign body : Code} {gf : FuncId} {cap : Array Value} (hx : ev E g = some (.func (.func gf) #[] cap)) (hc : callable P gf = true) (hg : Good w s os)
  (h : ∀ (a : Act) (fn : FuncId) (l D : Nat) (w1 : World), At n E a → Good w1 s (Res.one l (.loop (rec0 fn a.tmps ps assign body D)) :: Res.one D (.deferred (some [])) :: os) → Aux w w1 →
   CallsIn (FO none) 0 P gf (#[.func (.yield l) #[] #[]] ++ cap) w1 (fun e w3 => ∃ v r', e = .returned v ∧ w3.heap[l]? = some (.loop r') ∧ r'.state ≠ .busy ∧
    match r'.pending with
    | none => Q .normal (plus a D) (w3.putObj l (.loop { r' with state := .exhausted }))
    | some c => c.wpIn (FO none) 0 P Q (plus a D) (w3.putObj l (.loop { r' with state := .exhausted })))) :
  CF none P n (.rangeFunc g ps assign body) Q E w := fun a ha => by
 have hev : a.eval g = .func (.func gf) #[] cap := ha.ev hx
 refine wpIn_rangeFunc fun fn _ => ?_
 have hg2 := (hg.alloc (.deferred (some []))).alloc (.loop (rec0 fn a.tmps ps assign body w.heap.size))
 have hsz : (w.alloc (.deferred (some []))).heap.size = w.heap.size + 1 := by simp
 rw [hsz] at hg2
 obtain ⟨W1, hW1⟩ : ∃ W1, W1 = (w.alloc (.deferred (some []))).alloc (.loop (rec0 fn a.tmps ps assign body w.heap.size)) := ⟨_, rfl⟩
 rw [← hW1] at hg2
 refine ⟨w.heap.size + 1, [mark w.heap.size], W1, { target := .fn (.func gf) cap, args := #[.func (.yield (w.heap.size + 1)) #[] #[]] }, W1, gf, #[.func (.yield (w.heap.size + 1)) #[] #[]] ++ cap, W1,
  by rw [hW1]; exact run_enterLoop_outer _ _ _ _ _, ?_, fun _ _ => trivial, ?_, fun hh => (by simp at hh), ?_⟩
 ·
  simp only [resolve, hev]
  simp [go_sem, Deferred.ofValue]
 ·
  simp [invoke, run_callFunc hc]
 ·
  refine (h a fn _ _ _ ha hg2 (by rw [hW1]; exact (Aux.alloc _ _).trans (Aux.alloc _ _))).mono fun e w3 he => ?_
  obtain ⟨v, r', rfl, h1, h2, h3⟩ := he
  refine ⟨r'.pending, _, run_endLoop h1 h2, ?_⟩
  have hp : ({ a with defers := [mark w.heap.size] ++ a.defers } : Act) = plus a w.heap.size := by unfold plus; rw [ha.dfr]; rfl
  rw [hp]
  exact h3
/-! ### yield -/
theorem yield_run {l : Nat} {r : Loop} {o : Oper} {x : Operand} {args : Array Operand} {ats : Array TypeId} {vals : List Value} {a : Act} (ha : At n E a) (ho : o.op = .call { callee := .value x, args := args, argTypes := ats })
  (hx : ev E x = some (.func (.yield l) #[] #[])) (hl : evs E args.toList = some vals) (hr : w.heap[l]? = some (.loop r)) (hsz : vals.length = r.params.size) :
  (execOp a.eval o).run P w = .ok (.round l r.fn ((r.params.zip vals.toArray).foldl (fun tmps (t, a) => tmps.setIfInBounds t a) r.tmps) r.assign r.body) w := by
 have hargs : (args.map a.eval) = vals.toArray := by
  rw [← Array.toArray_toList (xs := args), List.map_toArray, ha.evs hl]
 have hev : a.eval x = .func (.yield l) #[] #[] := ha.ev hx
 unfold execOp
 simp only [ho]
 simp only [resolve, hargs, hev, Deferred.ofValue, invoke, Sem.run_bind, Sem.run_pure, Result.andThen_ok, Array.empty_append, Array.append_empty]
 exact run_yield hr (by simpa using hsz)
theorem LF.yield {rest : List Oper} {o : Oper} {d l : Nat} {r : Loop} {x : Operand} {args : Array Operand} {ats : Array TypeId} {vals : List Value} (hg : wants ops E o = some true) (hd : o.dst = some d) (hb : Nat.blt d n = true)
  (ho : o.op = .call { callee := .value x, args := args, argTypes := ats }) (hx : ev E x = some (.func (.yield l) #[] #[])) (hl : evs E args.toList = some vals) (hr : w.heap[l]? = some (.loop r)) (hsz : vals.length = r.params.size)
  (h : RoundIn (FO none) 0 P l r.fn ((r.params.zip vals.toArray).foldl (fun tmps (t, a) => tmps.setIfInBounds t a) r.tmps) r.assign r.body w (fun e w' => ∃ b, e = .returned (.bool b) ∧ LF none P n ops Q rest ((d, .bool b) :: E) w')) :
  LF none P n ops Q (o :: rest) E w := fun a ha => by
 unfold wpListIn
 rw [ha.wants hg]
 simp only [if_true]
 refine ⟨fun _ _ => trivial, ?_⟩
 rw [show o.semAt (FO none).round a.eval = execOp a.eval o from rfl, yield_run (P := P) ha ho hx hl hr hsz, Oper.uponIn_round]
 refine ⟨fun hh => (by simp at hh), h.mono fun e w' he => ?_⟩
 obtain ⟨b, rfl, hk⟩ := he
 simp only [hd]
 exact hk _ (ha.put hb _)
def RP (l : Nat) (K : Bool → World → Prop) : Exit → Act → World → Prop
 | .normal, _, w => ∃ r, w.heap[l]? = some (.loop r) ∧ K true (w.putObj l (.loop { r with state := .ready, pending := none }))
 | .ret, _, w => ∃ r, w.heap[l]? = some (.loop r) ∧ K false (w.putObj l (.loop { r with state := .done, pending := some .ret }))
 | _, _, _ => False
theorem round_ok {l : Nat} {f : FuncId} {tmps : Array Value} {assign body : Code} {K : Bool → World → Prop} (J : Env → World → Prop) (ha : At n E { tmps := tmps, defers := [] })
  (h1 : CF (some l) P n assign (Exit.then (fun a1 w1 => ∃ E1, At n E1 a1 ∧ J E1 w1) (fun _ _ _ => False)) E w)
  (h2 : ∀ E1 w1, J E1 w1 → ∃ r, w1.heap[l]? = some (.loop r) ∧ r.state = .ready ∧ CF (some l) P n body (RP l K) E1 (w1.putObj l (.loop { r with state := .busy }))) :
  RoundIn (FO none) 0 P l f tmps assign body w (fun e w' => ∃ b, e = .returned (.bool b) ∧ K b w') := by
 refine roundIn_of_wpIn trivial ?_
 refine wpIn_mono (h1 _ ha) fun e a1 w1 he => ?_
 cases e with
 | normal =>
  obtain ⟨E1, hA, hJ⟩ := he
  obtain ⟨r, hr, hst, hb⟩ := h2 E1 w1 hJ
  refine ⟨_, run_beginRound hr hst, ?_⟩
  refine wpIn_mono (hb _ hA) fun e2 a2 w2 he2 => ?_
  cases e2 with
  | normal =>
   obtain ⟨r2, h3, h4⟩ := he2
   exact ⟨_, _, run_endRound none h3, _, rfl, h4⟩
  | ret =>
   obtain ⟨r2, h3, h4⟩ := he2
   exact ⟨_, _, run_endRound (some .ret) h3, _, rfl, h4⟩
  | exit id => exact (he2 : False).elim
  | goto t => exact (he2 : False).elim
  | panic c => exact (he2 : False).elim
  | outgrown => exact (he2 : False).elim
 | exit id => exact (he : False).elim
 | goto t => exact (he : False).elim
 | ret => exact (he : False).elim
 | panic c => exact (he : False).elim
 | outgrown => exact (he : False).elim
theorem At.bare {a : Act} (ha : At n E a) : At n E { tmps := a.tmps, defers := [] } := ⟨ha.size, rfl, ha.get⟩
theorem At.params2 {a : Act} {p q : Nat} {u v : Value} (ha : At n E a) (hp : Nat.blt p n = true) (hq : Nat.blt q n = true) : At n ((q, v) :: (p, u) :: E) { tmps := (#[p, q].zip #[u, v]).foldl (fun tmps (t, a) => tmps.setIfInBounds t a) a.tmps, defers := [] } := by
 have := (ha.bare.put hp u).put hq v
 simpa [Act.put] using this
/-! ### behind it -/
theorem plus_eval (a : Act) (D : Nat) : (plus a D).eval = a.eval := by
 funext x
 cases x <;> rfl
theorem plus_put (a : Act) (D : Nat) (d : Option Nat) (v : Value) : (plus a D).put d v = plus (a.put d v) D := by cases d <;> rfl
theorem oper_plus {o : Oper} {a : Act} {next next' : Act → World → Prop} {Q : Exit → Act → World → Prop} {D m : Nat} (hn : ∀ a w, next a w → next' (plus a D) w) (h : o.wp P a w next never) : o.wpIn (FO none) m P (plus a D) w next' Q := by
 refine ⟨fun _ _ => trivial, ?_⟩
 rw [show o.semAt (FO none).round (plus a D).eval = execOp (plus a D).eval o from rfl, plus_eval]
 unfold Oper.wp at h
 generalize (execOp a.eval o).run P w = r at *
 cases r with
 | ok nx w' =>
  cases nx with
  | enter f args =>
   simp only [Oper.upon] at h
   simp only [Oper.uponIn]
   refine ⟨fun hh => (by simp at hh), ?_⟩
   refine (calls_in (ro := none) (m := m - 1) h).mono fun e w'' he => ?_
   cases e with
   | returned v => (show next' _ _); rw [plus_put]; exact hn _ _ he
   | panicked c => exact (he : False).elim
   | outgrown => exact absurd he (by simp [LetsOut, never])
  | row row args =>
   simp only [Oper.upon] at h
   simp only [Oper.uponIn]
   refine ⟨fun hh => (by simp at hh), rows_in (h.mono fun v w'' he => ?_)⟩
   (show next' _ _); rw [plus_put]; exact hn _ _ he
  | value v => simp only [Oper.upon] at h; simp only [Oper.uponIn]; rw [plus_put]; exact hn _ _ h
  | skip => simp only [Oper.upon] at h; simp only [Oper.uponIn]; rw [plus_put]; exact hn _ _ h
  | defer d =>
   simp only [Oper.upon] at h; simp only [Oper.uponIn]
   have e : ({ plus a D with defers := d :: (plus a D).defers } : Act) = plus { a with defers := d :: a.defers } D := rfl
   rw [e, plus_put]; exact hn _ _ h
  | _ => exact (h : False).elim
 | halt x w' =>
  cases x with
  | panic v => exact (h : False).elim
  | _ => exact (h : False).elim
theorem list_plus {S : World → Prop} {D : Nat} : ∀ {l : List Oper} {a : Act} {w : World}, RA P ops (fun _ a w => Q .normal (plus a D) w) S (l.map fun o => (false, o)) a w → wpListIn (FO none) 0 P ops Q l (plus a D) w
 | [], a, w, h => h
 | o :: r, a, w, h => by
  simp only [List.map_cons, RA] at h
  unfold wpListIn
  have hy : yielded ops (plus a D).tmps = yielded ops a.tmps := rfl
  rw [hy]
  split
  ·
   rename_i hw
   rw [if_pos hw] at h
   exact oper_plus (fun a' w' h' => list_plus h'.2) h
  ·
   rename_i hw
   rw [if_neg hw] at h
   refine ⟨fun _ _ => trivial, ?_⟩
   rw [plus_put]
   exact list_plus h
def CD (D : Nat) (P : Program) (n : Nat) (c : Code) (Q : Exit → Act → World → Prop) (E : Env) (w : World) : Prop := ∀ a, At n E a → c.wpIn (FO none) 0 P Q (plus a D) w
theorem CD.plain {D id : Nat} {l : List Oper} (h : RL P n l.toArray (fun _ a w => Q .normal (plus a D) w) (fun _ => True) (l.map fun o => (false, o)) E w) : CD D P n (.region id l.toArray false) Q E w :=
 fun a ha => wpIn_region_lit (list_plus (h trivial a ha))
theorem CD.seq {D : Nat} {x y : Code} (h : CD D P n x (Exit.then (fun a w => y.wpIn (FO none) 0 P Q a w) Q) E w) : CD D P n (.seq x y) Q E w := fun a ha => wpIn_seq (h a ha)
theorem CD.ret {D : Nat} (h : ∀ a, At n E a → Q .ret (plus a D) w) : CD D P n .ret Q E w := fun a ha => wpIn_ret (h a ha)
theorem enterM {f : FuncId} {fn : Func} {c : Code} {l : List Value} {R : Ending → World → Prop} {m : Nat} (hf : P.funcs[f]? = some fn) (hb : fn.body = some c) (hm : fn.ntmps = m) (hl : Nat.ble l.length m = true)
  (h : CF none P m c (bodyPostM (FO none) 0 P fn R) (envOf 0 l) w) : Calls P f l.toArray w R := by
 refine calls_of (m := 0) (callsIn_of_wp_marks hf hb trivial (h _ ⟨?_, rfl, fun t v ht => ?_⟩))
 ·
  have := Nat.le_of_ble_eq_true hl
  simp [hm]; omega
 ·
  obtain ⟨_, h2⟩ := look_envOf l 0 t v ht
  simp only [Nat.sub_zero] at h2
  have hlt := (List.getElem?_eq_some_iff.1 h2).1
  rw [Array.getElem?_append_left (by simpa using hlt)]
  simpa using h2
theorem retM {fn : Func} {R : Ending → World → Prop} {vs : List Value} {D : Nat} (hD : w.heap[D]? = some (.deferred (some []))) (hv : Gives P (w.putObj D (.deferred none)) E fn.results.toList vs) (h : R (.returned (whole vs)) (w.putObj D (.deferred none))) :
  ∀ a, At n E a → bodyPostM (FO none) 0 P fn R .ret (plus a D) w := fun a ha => by
 have e : (plus a D).defers = [mark D] := by unfold plus; rw [ha.dfr]; rfl
 show LeavesInM (FO none) 0 P fn (plus a D).tmps R (plus a D).defers .returning w
 rw [e]
 exact ⟨by simp, .inl ⟨D, _, rfl, run_takeDeferred hD, _, gives_run ha _ fn hv, h⟩⟩
theorem Good.unmark {A : Res} {D : Nat} {o : Obj} (h : Good w s (A :: os)) (hA : A D ≠ none) : Good (w.putObj D o) s os := by
 have hk : ∀ k, k ≠ D → (w.putObj D o).heap[k]? = w.heap[k]? := fun k hk => World.putObj_heap_other hk
 have hin : ∀ q, In q w → q D = none → In q (w.putObj D o) := fun q hq hqb k z hz => by
  have hkb : k ≠ D := fun e => by subst e; rw [hqb] at hz; cases hz
  exact (hk k hkb).trans (hq k z hz)
 obtain ⟨h1, h2, h3, h4⟩ := h
 clear h1
 induction os with
 | nil => exact hin s h4 (h2 D hA)
 | cons q os ih => exact ⟨hin q h4.1 (h3 q (by simp) D hA), h4.2.1, h4.2.2.1, ih (fun p hp => h3 p (by simp [hp])) h4.2.2.2⟩
theorem Aux.putObj (w : World) (D : Nat) (o : Obj) : Aux w (w.putObj D o) := ⟨rfl, rfl, rfl, by simp⟩
end
end Go.Lw

/-
 raftlog: Conf, which goes back over the entries by a range over a function.
-/
namespace Go.Lw
open Go.Proofs
attribute [local irreducible] RL RA
theorem enterIn {P : Program} {w : World} {f : FuncId} {fn : Func} {c : Code} {l : List Value} {R : Ending → World → Prop} {m : Nat} (hf : P.funcs[f]? = some fn) (hb : fn.body = some c) (hm : fn.ntmps = m) (hl : Nat.ble l.length m = true)
  (h : CF none P m c (bodyPost P fn R) (envOf 0 l) w) : CallsIn (FO none) 0 P f l.toArray w R := by
 refine callsIn_of_wp hf hb trivial (h _ ⟨?_, rfl, fun t v ht => ?_⟩)
 ·
  have := Nat.le_of_ble_eq_true hl
  simp [hm]; omega
 ·
  obtain ⟨_, h2⟩ := look_envOf l 0 t v ht
  simp only [Nat.sub_zero] at h2
  have hlt := (List.getElem?_eq_some_iff.1 h2).1
  rw [Array.getElem?_append_left (by simpa using hlt)]
  simpa using h2
theorem CF.range2 {P : Program} {n : Nat} {Q : Exit → Act → World → Prop} {E : Env} {w : World} {s : Res} {os : List Res} {g : Operand} {ps : Array Tmp} {assign body : Code} {gf : FuncId} {cap : Array Value} (hx : ev E g = some (.func (.func gf) #[] cap)) (hc : callable P gf = true) (hg : Good w s os)
  (h : ∀ (a : Act) (rr : Loop) (l D : Nat) (w1 : World), At n E a → rr.params = ps → rr.assign = assign → rr.body = body → rr.tmps = a.tmps → rr.state = .ready → rr.pending = none → Good w1 s (Res.one l (.loop rr) :: Res.one D (.deferred (some [])) :: os) → Aux w w1 →
   CallsIn (FO none) 0 P gf (#[.func (.yield l) #[] #[]] ++ cap) w1 (fun e w3 => ∃ v r', e = .returned v ∧ w3.heap[l]? = some (.loop r') ∧ r'.state ≠ .busy ∧
    match r'.pending with
    | none => Q .normal (plus a D) (w3.putObj l (.loop { r' with state := .exhausted }))
    | some c => c.wpIn (FO none) 0 P Q (plus a D) (w3.putObj l (.loop { r' with state := .exhausted })))) :
  CF none P n (.rangeFunc g ps assign body) Q E w :=
 CF.range hx hc hg fun a fn l D w1 ha h1 h2 => h a _ l D w1 ha rfl rfl rfl rfl rfl rfl h1 h2
section
variable {w : World} {s r : Res} {os : List Res}
theorem Backward_ct {a : Option Addr} {n c : Nat} (hg : Good w s os) :
  Calls Tryz.prog 57 #[.slice a n c] w (Post w s os fun s' B q => s' = s ∧ ∃ b, q = .func (.func 89) #[] #[ptr b] ∧ B b = some (.cells #[.slice a n c] 31 (0, 0))) := by
 refine enter (l := [.slice a n c]) Tryz.func57 rfl Tryz.ntmps57 rfl ?_
 refine CW.seq (CW.plain ?_)
 refine RL.boxN rfl rfl rfl rfl rfl hg ?_
 rintro b1 w1 Q1 (hg1 : Good _ s (Q1 :: os)) hax1 hb1
 refine ⟨trivial, ?_⟩
 refine RL.pd ?_
 refine CW.seq (CW.plain ?_)
 refine RL.makeF rfl rfl rfl rfl rfl ?_
 refine RL.pd ?_
 refine CW.ret (ret (vs := [_]) ⟨_, _, rfl, rfl, rfl⟩ ?_)
 exact Post.mk (Le.refl _) hg1 hax1 ⟨rfl, _, rfl, hb1⟩
theorem backward_walk {R : Ending → World → Prop} {xs : List Entry} {a : Option Addr} {c b l : Nat} {B : Res} (I : Nat → World → Prop) (hlen : xs.length < 4611686018427387904) (hB : B b = some (.cells #[.slice a xs.length c] 31 (0, 0))) (hx : Lies REntry 6 r s a c xs)
  (hIB : ∀ k w, I k w → In B w) (hIr : ∀ k w, I k w → In r w) (h0 : I xs.length w)
  (hround : ∀ k (hk : k < xs.length) w vs, I (k + 1) w → REntry s vs xs[k] → ∃ r, w.heap[l]? = some (.loop r) ∧ r.params = #[9, 10] ∧ RoundIn (FO none) 0 Tryz.prog l r.fn ((r.params.zip [i64 k, .agg vs.toArray].toArray).foldl (fun tmps (t, a) => tmps.setIfInBounds t a) r.tmps) r.assign r.body w
   (fun e w' => ∃ q, e = .returned (.bool q) ∧ (q = true → I k w') ∧ (q = false → R (.returned (.tuple #[])) w')))
  (hend : ∀ w, I 0 w → R (.returned (.tuple #[])) w) :
  CallsIn (FO none) 0 Tryz.prog 89 #[.func (.yield l) #[] #[], ptr b] w R := by
 refine enterIn (l := [.func (.yield l) #[] #[], ptr b]) Tryz.func89 rfl Tryz.ntmps89 rfl ?_
 refine CF.seq (CF.plain rfl ?_)
 refine RL.load (j := 0) rfl rfl rfl rfl ty31 rfl (Holds.of hB) (hIB _ _ h0) rfl ?_
 refine RL.len rfl rfl rfl rfl sl31 rfl ?_
 refine RL.sub rfl rfl rfl rfl rfl rfl ((by simp only [rng]; omega)) ?_
 refine RL.pd ?_
 refine CF.block (CF.loop (σ := Nat) (fun j E w' => I j w' ∧ j ≤ xs.length ∧ E = [(0, .func (.yield l) #[] #[]), (1, ptr b), (3, i64 ((j : Int) - 1))]) (fun j => j) xs.length [(0, .func (.yield l) #[] #[]), (1, ptr b), (3, i64 ((xs.length : Int) - 1))] ⟨rfl, rfl, rfl, trivial⟩ ⟨h0, Nat.le_refl _, rfl⟩ ?_)
 rintro j E w1 ⟨hI, hj, rfl⟩
 refine CF.seq (CF.seq (CF.plain rfl ?_))
 refine RL.pu ?_
 refine RL.pd ?_
 refine CF.cond rfl (fun h8 => ?_) (fun h8 => ?_)
 ·
  refine CF.skip ?_
  have hpos : 0 < j := by have := decide_t h8; omega
  obtain ⟨k, rfl⟩ : ∃ k, j = k + 1 := ⟨j - 1, by omega⟩
  refine CF.seq (CF.block (CF.seq (CF.list (LF.upto [_, _, _, _, _, _] [_, _] rfl ?_))))
  refine RL.pp ?_
  refine RL.load (j := 0) rfl rfl rfl rfl ty31 rfl (Holds.of hB) (hIB _ _ hI) rfl ?_
  refine RL.pu ?_
  refine RL.idxL rfl rfl rfl rfl sl31 rfl rfl hx (by omega) (by omega) ?_
  rintro q vs hvl hH hE
  have hE2 := hE
  obtain ⟨ea, ec, ea1, ec1, ea2, ec2, rfl, er1, er2, er3, eh1, eh2, eh3⟩ := hE2
  refine RL.loads (j := 0) (us := _) rfl rfl rfl rfl ty65 rfl (hH) (hIr _ _ hI) rfl rfl ?_
  refine RL.done ?_
  have hk1 : (((k + 1 : Nat) : Int) - 1) = (k : Int) := by omega
  simp only [hk1, Int.toNat_natCast] at hE hH ⊢
  obtain ⟨rr, hr1, hr2, hr3⟩ := hround k (by omega) w1 _ hI hE
  refine LF.yield rfl rfl rfl rfl rfl rfl hr1 (by rw [hr2]; rfl) (hr3.mono fun e w2 he => ?_)
  obtain ⟨q2, rfl, hq1, hq0⟩ := he
  refine ⟨q2, rfl, LF.upto [_] [] rfl ?_⟩
  refine RL.pd ?_
  refine CF.cond rfl (fun h18 => ?_) (fun h18 => ?_)
  ·
   have hq : q2 = false := by simpa using h18
   exact CF.ret (ret (vs := []) rfl (hq0 hq))
  ·
   have hq : q2 = true := by simpa using h18
   refine CF.skip ?_
   refine CF.plain rfl ?_
   refine RL.pu ?_
   refine RL.sub rfl rfl rfl rfl rfl rfl ((by simp only [rng]; omega)) ?_
   refine RL.pd ?_
   exact fun ac ha => ⟨k, [(0, .func (.yield l) #[] #[]), (1, ptr b), (3, i64 ((k : Int) - 1))], ha.sub ⟨rfl, rfl, rfl, trivial⟩, ⟨hq1 hq, by omega, rfl⟩, Nat.lt_succ_self k⟩
 ·
  have hz : j = 0 := by have := decide_f h8; omega
  subst hz
  refine CF.exit ?_
  exact fall (vs := []) rfl (hend _ hI)
theorem confE_drop {xs : List Entry} {k : Nat} (hk : k < xs.length) (h : confE (xs.drop (k + 1)) = none) : confE (xs.drop k) = if xs[k].kind = 3 then some (xs[k].conf, xs[k].index) else none := by
 rw [List.drop_eq_getElem_cons hk]
 simp only [confE, h]
theorem confE_found : ∀ {xs : List Entry} {k : Nat} {z : Conf × Int}, confE (xs.drop k) = some z → confE xs = some z
 | xs, 0, z, h => by simpa using h
 | [], k + 1, z, h => by simpa using h
 | x :: xs, k + 1, z, h => by
  have := confE_found (xs := xs) (k := k) (z := z) (by simpa using h)
  simp only [confE, this]
set_option maxRecDepth 100000 in
set_option maxHeartbeats 1000000 in
theorem Conf_ct {l : Log} {h : Hd} (hg : Good w s os) (hr : r = s ∨ r ∈ os) (hl : LogAt r s l h) (hs : l.small) :
  Calls Tryz.prog 30 #[logA l h] w (Post w s os fun s' _ q => ∃ vs, q = .tuple #[.agg vs.toArray, u64 (confP l).2] ∧ RConf s' vs (confP l).1) := by
 obtain ⟨hs1, hs2, hs3, hs4⟩ := hs
 refine enterM (l := [logA l h]) Tryz.func30 rfl Tryz.ntmps30 rfl ?_
 refine CF.seq (CF.plain rfl ?_)
 refine RL.boxN rfl rfl rfl rfl rfl hg ?_
 rintro b1 w1 Q1 (hg1 : Good _ s (Q1 :: os)) hax1 hb1
 refine ⟨trivial, ?_⟩
 refine RL.allocN rfl rfl rfl rfl ze27 hg1 ?_
 rintro b2 w2 Q2 (hg2 : Good _ s (Q2 :: Q1 :: os)) hax2 hb2
 refine ⟨trivial, ?_⟩
 refine RL.allocN rfl rfl rfl rfl ze22 hg2 ?_
 rintro b3 w3 Q3 (hg3 : Good _ s (Q3 :: Q2 :: Q1 :: os)) hax3 hb3
 refine ⟨trivial, ?_⟩
 refine RL.done ?_
 refine CF.seq (CF.seq (CF.plain rfl ?_))
 refine RL.fi fl33_1 ?_
 refine RL.load (j := 5) rfl rfl rfl rfl ty31 rfl (Holds.of hb1) (hg3.mem (by simp)) rfl ?_
 refine RL.call rfl rfl rfl rfl rfl ca57 (Backward_ct hg3) ?_
 rintro v4 s4 QB w4 hle4 hg4 hax4 ⟨hs4, b4, rfl, hb4⟩
 refine ⟨trivial, ?_⟩
 refine RL.done ?_
 have hs4' := hs4.symm
 subst hs4'
 refine CF.block (CF.range2 rfl rfl hg4 ?_)
 intro a rr lo D w5 ha hrp hra hrb hrt hrs hrn hg5 hax5
 refine backward_walk (fun k w' => ∃ L, Good w' s (L :: Res.one D (.deferred (some [])) :: QB :: Q3 :: Q2 :: Q1 :: os) ∧ Aux w w' ∧ L lo = some (.loop rr) ∧ confE (l.entries.drop k) = none) (by omega) hb4 hl.entries
  (fun k w' hI => ?_) (fun k w' hI => ?_) ⟨_, hg5, hax1.trans (hax2.trans (hax3.trans (hax4.trans hax5))), if_pos rfl, by rw [List.drop_length]; rfl⟩ (fun k hk w' vs hI hE => ?_) (fun w' hI => ?_)
 ·
  obtain ⟨L, hgL, _⟩ := hI; exact hgL.mem (by simp)
 ·
  obtain ⟨L, hgL, _⟩ := hI; exact hgL.has (hr.imp id fun z => by simp [z])
 ·
  obtain ⟨L, hgL, haxL, hL, hno⟩ := hI
  refine ⟨_, hgL.mem (List.mem_cons_self ..) _ _ hL, hrp, ?_⟩
  obtain ⟨ea, ec, ea1, ec1, ea2, ec2, rfl, er1, er2, er3, eh1, eh2, eh3⟩ := hE
  rw [hrp, hrt, hra, hrb]
  refine round_ok (fun E1 w1 => ∃ b5 Q5 L, E1 = [(5, ptr b5), (2, ptr b2), (3, ptr b3)] ∧ Good w1 s (Q5 :: L :: Res.one D (.deferred (some [])) :: QB :: Q3 :: Q2 :: Q1 :: os) ∧ Aux w w1 ∧ L lo = some (.loop rr) ∧
   Q5 b5 = some (.cells #[u64 l.entries[k].index, u64 l.entries[k].term, i64 l.entries[k].kind, .slice ea l.entries[k].data.length ec, .slice ea1 l.entries[k].conf.voters.length ec1, .slice ea2 l.entries[k].conf.learners.length ec2] 65 (0, 0))) (At.params2 ha rfl rfl) (CF.plain rfl ?_) ?_
  ·
   refine RL.allocN rfl rfl rfl rfl ze65 hgL ?_
   rintro b5 w6 Q5 (hg6 : Good _ s (Q5 :: L :: Res.one D (.deferred (some [])) :: QB :: Q3 :: Q2 :: Q1 :: os)) hax6 hb5
   refine ⟨trivial, ?_⟩
   refine RL.storeB (b := b5) (i := 0) (j := 0) rfl rfl rfl ty65 rfl rfl hg6 rfl hb5 rfl (by simp [Value.cells, Value.oneCell']) (Nat.le_of_ble_eq_true rfl) rfl ?_
   rintro w7 Q7 (hg7 : Good _ s (Q7 :: L :: Res.one D (.deferred (some [])) :: QB :: Q3 :: Q2 :: Q1 :: os)) hax7 hb7
   refine ⟨trivial, ?_⟩
   refine RL.done ?_
   exact fun a1 ha1 => ⟨_, ha1.sub (E' := [(5, ptr b5), (2, ptr b2), (3, ptr b3)]) ⟨rfl, rfl, rfl, trivial⟩, b5, Q7, L, rfl, hg7, haxL.trans (hax6.trans hax7), hL, hb7⟩
  ·
   rintro E1 w8 ⟨b5, Q5, L2, rfl, hg8, hax8, hL2, hb5⟩
   refine ⟨_, hg8.mem (by simp) _ _ hL2, hrs, ?_⟩
   obtain ⟨hg9, hax9⟩ := Good.setLoop (hg8.front 1 rfl) hL2 { rr with state := .busy }
   have hL9 := put_same L2 lo (.loop { rr with state := .busy })
   revert hg9 hL9
   generalize L2.put lo (.loop { rr with state := .busy }) = L9
   intro (hg9 : Good _ s (L9 :: Q5 :: Res.one D (.deferred (some [])) :: QB :: Q3 :: Q2 :: Q1 :: os)) hL9
   generalize w8.putObj lo (.loop { rr with state := .busy }) = w9 at hg9 hax9 ⊢
   refine CF.block (CF.seq (CF.plain rfl ?_))
   refine RL.fi fl65_2 ?_
   refine RL.load (j := 2) rfl rfl rfl rfl ty63 rfl (Holds.of hb5) (hg9.mem (by simp)) rfl ?_
   refine RL.pd ?_
   refine CF.cond rfl (fun h13 => ?_) (fun h13 => ?_)
   ·
    have hk3 : l.entries[k].kind = 3 := by simpa using h13
    have hcf := confE_drop hk hno
    rw [if_pos hk3] at hcf
    have hcf := confE_found hcf
    have hcp : confP l = (l.entries[k].conf, l.entries[k].index) := by unfold confP; rw [hcf]; rfl
    have hsm := (hs3 _ (List.getElem_mem hk)).2
    have hg10 := hg9.drew
    refine CF.seq (CF.draws [(true, 0), (true, 1), (true, 3), (true, 4), (false, 2), (false, 5), (false, 6)] (fun w => At1 b5 _ w ∧ True) mixed (by kernel_rfl) (by kernel_rfl) (by kernel_rfl) (by kernel_rfl) rfl (⟨hg10.at1 (by simp) hb5, trivial⟩) ?_)
    refine RL.fi fl65_4 ?_
    refine RL.loadsT (j := 4) (us := _) rfl rfl rfl rfl ty27 rfl (At1.holds) ((fun w h => h.1.inn)) rfl rfl ?_
    refine RL.fi fl65_0 ?_
    refine RL.loadT (j := 0) rfl rfl rfl rfl ty22 rfl (At1.holds) ((fun w h => h.1.inn)) rfl ?_
    refine RL.call rfl rfl rfl rfl rfl ca58 (conf_log_ct hg10 eh2 eh3 hsm) ?_
    rintro v11 s11 A11 w11 hle11 hg11 hax11 ⟨us, rfl, hU⟩
    refine ⟨⟨hg11.at1 (by simp) hb5, trivial⟩, ?_⟩
    have hg11' := hg11.drop
    obtain ⟨va, vc, la, lc, rfl, hva, hla⟩ := hU
    refine RL.storeB (b := b2) (i := 5) (j := 0) rfl rfl rfl ty27 rfl rfl hg11' rfl hb2 rfl (by simp [Value.cells, Value.oneCell']) (Nat.le_of_ble_eq_true rfl) rfl ?_
    rintro w12 Q12 (hg12 : Good _ s11 (L9 :: Q5 :: Res.one D (.deferred (some [])) :: QB :: Q3 :: Q12 :: Q1 :: os)) hax12 hb12
    refine ⟨⟨hg12.at1 (by simp) hb5, trivial⟩, ?_⟩
    refine RL.storeB (b := b3) (i := 4) (j := 0) rfl rfl rfl ty22 rfl rfl hg12 rfl hb3 rfl (by simp [Value.cells, Value.oneCell']) (Nat.le_of_ble_eq_true rfl) rfl ?_
    rintro w13 Q13 (hg13 : Good _ s11 (L9 :: Q5 :: Res.one D (.deferred (some [])) :: QB :: Q13 :: Q12 :: Q1 :: os)) hax13 hb13
    refine ⟨⟨hg13.at1 (by simp) hb5, trivial⟩, ?_⟩
    refine RL.done ?_
    refine CF.ret ?_
    intro a2 ha2
    refine ⟨_, hg13.mem (by simp) _ _ hL9, fun z => (by cases z), fun _ => ?_⟩
    obtain ⟨hg14, hax14⟩ := Good.setLoop hg13 hL9 { { rr with state := .busy } with state := .done, pending := some .ret }
    have hL14 := put_same L9 lo (.loop { { rr with state := .busy } with state := .done, pending := some .ret })
    refine ⟨_, _, rfl, hg14.mem (List.mem_cons_self ..) _ _ hL14, by simp, ?_⟩
    obtain ⟨hg15, hax15⟩ := Good.setLoop hg14 hL14 { { { rr with state := .busy } with state := .done, pending := some .ret } with state := .exhausted }
    have hu := (hg15.front 2 rfl).unmark (D := D) (o := .deferred none) (by simp [Res.one])
    refine CD.ret ?_ a ha
    refine retM (vs := [_, _]) (hg15.mem (r := Res.one D (.deferred (some []))) (List.mem_cons_of_mem _ (List.mem_cons_of_mem _ (List.mem_cons_self ..))) D _ (if_pos rfl)) ⟨_, _, _, rfl, rfl, loadVar_agg ty27 hb12 (hu.mem (by simp)) rfl, _, _, _, rfl, rfl, loadVar_one ty22 hb13 (hu.mem (by simp)) rfl, rfl⟩ ?_
    refine Post.mk hle11 hu.dropNext.dropNext.dropNext.dropNext.dropNext (hax8.trans (hax9.trans ((Aux.drew _).trans (hax11.trans (hax12.trans (hax13.trans (hax14.trans (hax15.trans (Aux.putObj _ _ _))))))))) ?_
    rw [hcp]
    exact ⟨_, rfl, va, vc, la, lc, rfl, hva, hla⟩
   ·
    have hk3 : l.entries[k].kind ≠ 3 := by simpa using h13
    have hcf := confE_drop hk hno
    rw [if_neg hk3] at hcf
    refine CF.skip ?_
    intro a2 ha2
    obtain ⟨hg10, hax10⟩ := Good.setLoop hg9 hL9 { { rr with state := .busy } with state := .ready, pending := none }
    have hL10 := put_same L9 lo (.loop { { rr with state := .busy } with state := .ready, pending := none })
    have hsame : ({ { rr with state := .busy } with state := .ready, pending := none } : Loop) = rr := by cases rr; simp_all
    refine ⟨_, hg9.mem (by simp) _ _ hL9, fun _ => ⟨_, hg10.dropNext, hax8.trans (hax9.trans hax10), ?_, hcf⟩, fun z => (by cases z)⟩
    rw [hL10, hsame]
 ·
  obtain ⟨L, hgL, haxL, hL, hno⟩ := hI
  have hcp : confP l = (l.base.conf, 0) := by unfold confP; rw [show confE l.entries = none from by simpa using hno]; rfl
  refine ⟨_, rr, rfl, hgL.mem (List.mem_cons_self ..) _ _ hL, by rw [hrs]; simp, ?_⟩
  rw [hrn]
  obtain ⟨hg6, hax6⟩ := Good.setLoop hgL hL { rr with state := .exhausted }
  rw [hrn] at hg6 hax6
  generalize L.put lo _ = L6 at hg6
  generalize w'.putObj lo _ = w6 at hg6 hax6 ⊢
  refine CD.seq (CD.plain ?_) a ha
  refine RL.fi fl33_0 ?_
  refine RL.fi fl30_2 ?_
  refine RL.loads (j := 2) (us := _) rfl rfl rfl rfl ty27 rfl (Holds.of hb1) (hg6.mem (by simp)) rfl rfl ?_
  refine RL.call rfl rfl rfl rfl rfl ca58 (conf_log_ct hg6 hl.voters hl.learners hs1) ?_
  rintro v11 s11 A11 w11 hle11 hg11 hax11 ⟨us, rfl, hU⟩
  refine ⟨trivial, ?_⟩
  have hg11' := hg11.drop
  obtain ⟨va, vc, la, lc, rfl, hva, hla⟩ := hU
  refine RL.storeB (b := b2) (i := 4) (j := 0) rfl rfl rfl ty27 rfl rfl hg11' rfl hb2 rfl (by simp [Value.cells, Value.oneCell']) (Nat.le_of_ble_eq_true rfl) rfl ?_
  rintro w12 Q12 (hg12 : Good _ s11 (L6 :: Res.one D (.deferred (some [])) :: QB :: Q3 :: Q12 :: Q1 :: os)) hax12 hb12
  refine ⟨trivial, ?_⟩
  refine RL.storeB (b := b3) (i := 3) (j := 0) rfl rfl rfl ty22 rfl rfl hg12 rfl hb3 rfl (by simp [Value.cells, Value.oneCell']) (Nat.le_of_ble_eq_true rfl) rfl ?_
  rintro w13 Q13 (hg13 : Good _ s11 (L6 :: Res.one D (.deferred (some [])) :: QB :: Q13 :: Q12 :: Q1 :: os)) hax13 hb13
  refine ⟨trivial, ?_⟩
  refine RL.done ?_
  intro a7 ha7
  have hu := (hg13.front 1 rfl).unmark (D := D) (o := .deferred none) (by simp [Res.one])
  refine CD.ret ?_ a7 ha7
  refine retM (vs := [_, _]) (hg13.mem (r := Res.one D (.deferred (some []))) (List.mem_cons_of_mem _ (List.mem_cons_self ..)) D _ (if_pos rfl)) ⟨_, _, _, rfl, rfl, loadVar_agg ty27 hb12 (hu.mem (by simp)) rfl, _, _, _, rfl, rfl, loadVar_one ty22 hb13 (hu.mem (by simp)) rfl, rfl⟩ ?_
  refine Post.mk hle11 hu.dropNext.dropNext.dropNext.dropNext (haxL.trans (hax6.trans (hax11.trans (hax12.trans (hax13.trans (Aux.putObj _ _ _)))))) ?_
  rw [hcp]
  exact ⟨_, rfl, va, vc, la, lc, rfl, hva, hla⟩
end
end Go.Lw
