/-
  THE WALK ENGINE, part 1: a frame as a short list of slots with values; lists of operations over it; what a pure operation yields, computed. No program in sight: all over any program P.
-/
import Derived.WalkKit
import Derived.OrdersHeld
namespace Go.Lw

abbrev Env := List (Nat × Value)

def look : Env → Nat → Option Value
  | [], _ => none
  | p :: r, t => cond (Nat.beq p.1 t) (some p.2) (look r t)

/-- The frame has n slots, nothing deferred, and what the list names. -/
structure At (n : Nat) (E : Env) (a : Act) : Prop where
  size : a.tmps.size = n
  dfr : a.defers = []
  get : ∀ t v, look E t = some v → a.tmps[t]? = some v

theorem At.put {n : Nat} {E : Env} {a : Act} (h : At n E a) {d : Nat} (hd : Nat.blt d n = true) (v : Value) : At n ((d, v) :: E) (a.put (some d) v) := by
  have hlt : d < n := by simpa [Nat.blt, Nat.lt_iff_add_one_le] using hd
  refine ⟨by simp [Act.put, h.size], by simp [Act.put, h.dfr], fun t u ht => ?_⟩
  simp only [look] at ht
  by_cases hdt : d = t
  · subst hdt
    rw [show Nat.beq d d = true from Nat.beq_refl d] at ht
    simp at ht
    subst ht
    simp [Act.put, h.size, hlt]
  · have : Nat.beq d t = false := Bool.eq_false_iff.2 (fun h => hdt (Nat.eq_of_beq_eq_true h))
    rw [this] at ht
    simp only [cond_false] at ht
    simp [Act.put, Array.getElem?_setIfInBounds_ne hdt, h.get t u ht]

theorem At.getD {n : Nat} {E : Env} {a : Act} (h : At n E a) {t : Nat} {v : Value} (ht : look E t = some v) : a.tmps.getD t undef = v := by
  simp [Array.getD_eq_getD_getElem?, h.get t v ht]

/-- Every slot that E names E' names with the same value. -/
def Sub : Env → Env → Prop
  | [], _ => True
  | p :: r, E' => look E' p.1 = some p.2 ∧ Sub r E'

theorem Sub.look {E E' : Env} (h : Sub E E') : ∀ t v, look E t = some v → look E' t = some v := by
  induction E with
  | nil => intro t v ht; simp [Lw.look] at ht
  | cons p r ih =>
    intro t v ht
    simp only [Lw.look] at ht
    by_cases hp : Nat.beq p.1 t = true
    · rw [hp] at ht
      simp at ht
      have : p.1 = t := Nat.eq_of_beq_eq_true hp
      subst this
      rw [← ht]
      exact h.1
    · rw [Bool.not_eq_true] at hp
      rw [hp] at ht
      exact ih h.2 t v ht

theorem At.more {n : Nat} {E : Env} {a : Act} (h : At n E a) {t : Nat} {v : Value} (ht : Lw.look E t = some v) : At n ((t, v) :: E) a := by
  refine ⟨h.size, h.dfr, fun s u hs => ?_⟩
  simp only [Lw.look] at hs
  by_cases hp : Nat.beq t s = true
  · rw [hp] at hs
    simp at hs
    have : t = s := Nat.eq_of_beq_eq_true hp
    subst this
    rw [← hs]
    exact h.get _ _ ht
  · rw [Bool.not_eq_true] at hp
    rw [hp] at hs
    exact h.get _ _ hs

theorem At.sub {n : Nat} {E E' : Env} {a : Act} (h : At n E a) (hs : Sub E' E) : At n E' a := ⟨h.size, h.dfr, fun t v ht => h.get t v (hs.look t v ht)⟩

/-- What an operand is. -/
def ev (E : Env) : Operand → Option Value
  | .tmp t => look E t
  | .const v => some v
  | .global g => some (.pointer (some ⟨g, 0, none⟩))
  | .func f => some (.func (.func f) #[] #[])

theorem At.ev {n : Nat} {E : Env} {a : Act} (h : At n E a) {x : Operand} {v : Value} (hx : ev E x = some v) : a.eval x = v := by
  cases x with
  | tmp t => exact h.getD hx
  | const u => exact Option.some.inj hx
  | global g => exact Option.some.inj hx
  | func f => exact Option.some.inj hx

/-- Is it wanted? -/
def wants (ops : Array Oper) (E : Env) (o : Oper) : Option Bool :=
  match o.guard with
  | none => some true
  | some (j, want) =>
    match (ops[j]?).bind (·.dst) with
    | none => none
    | some d =>
      match look E d with
      | some (.bool b) => some (b == want)
      | some (.tuple _) => some false
      | _ => none

theorem At.wants {n : Nat} {E : Env} {a : Act} (h : At n E a) {ops : Array Oper} {o : Oper} {b : Bool} (hb : wants ops E o = some b) : Region.wanted o (yielded ops a.tmps) = b := by
  unfold Lw.wants at hb
  unfold Region.wanted
  split at hb
  · rename_i hg
    simp only [hg]
    simpa using hb
  · rename_i j want hg
    simp only [hg]
    split at hb
    · cases hb
    · rename_i d hd
      split at hb
      · rename_i c hc
        have := h.get d _ hc
        simp only [yielded, hd, Option.bind_some, this]
        simp only [Option.some.injEq] at hb
        subst hb
        cases c <;> cases want <;> rfl
      · rename_i c hc
        have := h.get d _ hc
        simp only [yielded, hd, Option.bind_some, this]
        simp only [Option.some.injEq] at hb
        subst hb
        cases want <;> rfl
      · cases hb

/-! ### Pure operations: what they yield, in whatever world -/

def intOp (op : BinOp) (k : IntKind) (x y : Int) : Option Value :=
  match op with
  | .add => some (.int k (k.wrap (x + y)))
  | .sub => some (.int k (k.wrap (x - y)))
  | .mul => some (.int k (k.wrap (x * y)))
  | .and => some (.int k (k.wrap ((BitVec.ofInt k.bits x &&& BitVec.ofInt k.bits y).toNat)))
  | .or => some (.int k (k.wrap ((BitVec.ofInt k.bits x ||| BitVec.ofInt k.bits y).toNat)))
  | .xor => some (.int k (k.wrap ((BitVec.ofInt k.bits x ^^^ BitVec.ofInt k.bits y).toNat)))
  | .eql => some (.bool (x == y))
  | .neq => some (.bool (x != y))
  | .lss => some (.bool (x < y))
  | .leq => some (.bool (x ≤ y))
  | .gtr => some (.bool (x > y))
  | .geq => some (.bool (x ≥ y))
  | _ => none

/-- The value of a pure operation that needs no proof. -/
def pv (ρ : Operand → Option Value) : Op → Option Value
  | .move x | .assign x => ρ x
  | .pick c a b =>
    match ρ c with
    | some (.bool true) => ρ a
    | some (.bool false) => ρ b
    | _ => none
  | .binOp op _ x y _ =>
    match ρ x, ρ y with
    | some (.int k a), some (.int j b) => if k = j then intOp op k a b else none
    | _, _ => none
  | .unOp .not _ x =>
    match ρ x with
    | some (.bool b) => some (.bool (!b))
    | _ => none
  | .nilCheck x =>
    match ρ x with
    | some (.pointer (some a)) => some (.pointer (some a))
    | _ => none
  | .extract x i =>
    match ρ x with
    | some (.tuple vs) => vs[i]?
    | _ => none
  | _ => none

theorem run_eqGuard_int (P : Program) (op : BinOp) (t : TypeId) (x y : Operand) (k j : IntKind) (a b : Int) (w : World) :
    (eqGuard op t x y (.int k a) (.int j b)).run P w = .ok () w := by
  unfold eqGuard
  cases op <;> rfl

theorem run_intOp {P : Program} {op : BinOp} {t : TypeId} {k : IntKind} {a b : Int} {v : Value} (w : World) (h : intOp op k a b = some v) :
    (binOp op t (.int k a) (.int k b)).run P w = .ok v w := by
  unfold intOp at h
  cases op <;> simp only [Option.some.injEq, reduceCtorEq] at h <;> subst h <;> simp [binOp, Op.intArith, Op.intBits, Op.intCmp, Sem.run_pure]

theorem pv_run {P : Program} {n : Nat} {E : Env} {o : Oper} {v : Value} (h : pv (ev E) o.op = some v) (a : Act) (ha : At n E a) (w : World) :
    (execOp a.eval o).run P w = .ok (.value v) w := by
  obtain ⟨dst, op, type, pos, after, guard⟩ := o
  cases op <;> simp only [pv] at h <;> try (cases h; done)
  case move x => simp [execOp, ha.ev h, Sem.run_pure]
  case assign x => simp [execOp, ha.ev h, Sem.run_pure]
  case pick c x y =>
    split at h
    · rename_i hc; simp [execOp, ha.ev hc, ha.ev h, asBool, Sem.run_pure]
    · rename_i hc; simp [execOp, ha.ev hc, ha.ev h, asBool, Sem.run_pure]
    · cases h
  case nilCheck x =>
    split at h
    · rename_i b hx
      simp only [Option.some.injEq] at h
      subst h
      simp [execOp, ha.ev hx, Sem.run_pure]
    · cases h
  case binOp op t x y yt =>
    split at h
    · rename_i k a' j b' hx hy
      split at h
      · rename_i hkj
        subst hkj
        simp [execOp, ha.ev hx, ha.ev hy, Sem.run_bind, run_eqGuard_int, run_intOp w h]
      · cases h
    · cases h
  case unOp op t x =>
    cases op <;> simp only at h <;> try (cases h; done)
    split at h
    · rename_i b hx
      simp only [Option.some.injEq] at h
      subst h
      simp [execOp, ha.ev hx, Op.unary, Sem.run_pure]
    · cases h
  case extract x i =>
    split at h
    · rename_i vs hx
      simp [execOp, ha.ev hx, Instr.extract, h, Sem.run_pure]
    · cases h

/-! ### Runs: operations one behind the other. 'true': taken first, whatever world of S; 'false': carried out in its place, S shown anew. -/

def noPanic (Q : Exit → Act → World → Prop) : Exit → Act → World → Prop
  | .panic _, _, _ => False
  | e, a, w => Q e a w

theorem noPanic_imp {Q : Exit → Act → World → Prop} : ∀ e a w, noPanic Q e a w → Q e a w := fun e a w h => by
  cases e <;> first | exact h | exact (h : False).elim

def never : Exit → Act → World → Prop := fun _ _ _ => False
theorem wp_never {P : Program} {o : Oper} {a : Act} {w : World} {next : Act → World → Prop} {Q : Exit → Act → World → Prop} (h : o.wp P a w next never) : o.wp P a w next Q := by
  unfold Oper.wp at *
  generalize (execOp a.eval o).run P w = r at *
  cases r with
  | ok n w' =>
    cases n with
    | enter f args =>
      simp only [Oper.upon] at h ⊢
      refine Calls.mono h (fun e w'' he => ?_)
      cases e with
      | returned v => exact he
      | panicked c => exact (he : False).elim
      | outgrown => exact absurd he (by simp [LetsOut, never])
    | _ => exact h
  | halt x w' =>
    cases x with
    | panic v => exact (h : False).elim
    | _ => exact h

section
variable (P : Program) (ops : Array Oper) (Q : Exit → Act → World → Prop) (S : World → Prop)

def RA : List (Bool × Oper) → Act → World → Prop
  | [], a, w => Q .normal a w
  | (true, o) :: rest, a, w => ∃ v, YieldsIf P ops S o v a ∧ RA rest (a.put o.dst v) w
  | (false, o) :: rest, a, w =>
    if Region.wanted o (yielded ops a.tmps) = true then o.wp P a w (fun a' w' => S w' ∧ RA rest a' w') never else RA rest (a.put o.dst undef) w

/-- Is this order (number, taken first or not) one that serves whatever order the tape picks? -/
def chk (ops : Array Oper) : List (Bool × Nat) → Array Bool → Bool
  | [], listed => (Region.ready .any ops listed).isEmpty
  | (true, i) :: r, listed => Region.free .any ops listed i && (Region.ready .any ops listed).contains i && chk ops r (listed.setIfInBounds i true)
  | (false, i) :: r, listed => Region.ready .any ops listed == [i] && chk ops r (listed.setIfInBounds i true)

end

section
variable {P : Program} {ops : Array Oper} {Q : Exit → Act → World → Prop} {S : World → Prop}

theorem anyH_of_RA (hs : Region.noSelect ops = true) : ∀ (l : List (Bool × Nat)) (listed : Array Bool) (a : Act) (w : World), (∀ x ∈ l, x.2 < ops.size) → chk ops l listed = true → S w →
    RA P ops Q S (l.map fun x => (x.1, ops.getD x.2 default)) a w → wpAnyH P .any ops (noPanic Q) S l.length listed a w
  | [], listed, a, w, _, hc, _, h => wpAnyH_done (P := P) (S := S) (Q := noPanic Q) (by simpa [chk] using hc) h 0
  | (true, i) :: r, listed, a, w, hl, hc, hS, h => by
    simp only [chk, Bool.and_eq_true] at hc
    obtain ⟨v, hy, h'⟩ := h
    have hi : i < ops.size := hl (true, i) (by simp)
    have ho : ops[i]? = some (ops.getD i default) := by simp [hi]
    exact wpAnyH_take ho hs hc.1.1 hc.1.2 (fun _ _ _ hh => hh) hy hS (anyH_of_RA hs r _ _ _ (fun x hx => hl x (by simp [hx])) hc.2 hS h')
  | (false, i) :: r, listed, a, w, hl, hc, hS, h => by
    simp only [chk, Bool.and_eq_true, beq_iff_eq] at hc
    have hi : i < ops.size := hl (false, i) (by simp)
    have ho : ops[i]? = some (ops.getD i default) := by simp [hi]
    refine wpAnyH_all hc.1 (by simp) fun j hj => ?_
    simp only [List.mem_singleton] at hj
    subst hj
    have ih : ∀ a' w', S w' ∧ RA P ops Q S (r.map fun x => (x.1, ops.getD x.2 default)) a' w' → S w' ∧ wpAnyH P .any ops (noPanic Q) S r.length (listed.setIfInBounds j true) a' w' :=
      fun a' w' ⟨hS', h'⟩ => ⟨hS', anyH_of_RA hs r _ a' w' (fun x hx => hl x (by simp [hx])) hc.2 hS' h'⟩
    simp only [List.map_cons, RA] at h
    generalize ops.getD j default = oj at *
    unfold wpOp
    simp only [ho]
    by_cases hw : Region.wanted oj (yielded ops a.tmps) = true
    · rw [if_pos hw] at h ⊢
      exact .inl (Oper.wp_mono ih (wp_never h))
    · rw [if_neg hw] at h ⊢
      exact ih _ _ ⟨hS, h⟩

theorem wp_draws {id : Nat} {a : Act} {w : World} (l : List (Bool × Nat)) (hm : P.follows .mixedOrders = true) (hs : Region.noSelect ops = true) (hlen : l.length = ops.size)
    (hl : (l.all fun x => decide (x.2 < ops.size)) = true) (hc : chk ops l (Array.replicate ops.size false) = true) (hS : S w.drew)
    (h : RA P ops Q S (l.map fun x => (x.1, ops.getD x.2 default)) a w.drew) : (Code.region id ops true).wp P Q a w := by
  refine Code.wp_mono noPanic_imp (wp_region_held (S := S) hm ?_)
  rw [← hlen]
  rw [← hlen] at hc
  refine anyH_of_RA hs l _ a _ (fun x hx => ?_) hc hS h
  have := List.all_eq_true.1 hl x hx
  simpa using this

/-! #### where the tape may pick between several -/
inductive Tree where
  | line (l : List (Bool × Nat))
  | fork (l : List (Bool × Nat)) (x y : Tree)
def Tree.heads : Tree → List Nat
  | .line ((false, i) :: _) => [i]
  | .line _ => []
  | .fork ((false, i) :: _) _ _ => [i]
  | .fork ((true, _) :: _) _ _ => []
  | .fork [] x y => x.heads ++ y.heads
def Tree.len : Tree → Nat
  | .line l => l.length
  | .fork l x y => l.length + max x.len y.len
/-- After these, and then whatever k says. b: the first may be one of several. -/
def chkK (ops : Array Oper) (k : Array Bool → Bool) : Bool → List (Bool × Nat) → Array Bool → Bool
  | _, [], listed => k listed
  | _, (true, i) :: r, listed => Region.free .any ops listed i && (Region.ready .any ops listed).contains i && chkK ops k false r (listed.setIfInBounds i true)
  | false, (false, i) :: r, listed => Region.ready .any ops listed == [i] && chkK ops k false r (listed.setIfInBounds i true)
  | true, (false, i) :: r, listed => chkK ops k false r (listed.setIfInBounds i true)
def chkT (ops : Array Oper) : Bool → Tree → Array Bool → Bool
  | b, .line l, listed => (!b || !l.isEmpty) && chkK ops (fun z => (Region.ready .any ops z).isEmpty) b l listed
  | true, .fork [] x y, listed => chkT ops true x listed && chkT ops true y listed
  | b, .fork l x y, listed => chkK ops (fun z => !(Region.ready .any ops z).isEmpty && (Region.ready .any ops z).all (fun j => (x.heads ++ y.heads).contains j) && chkT ops true x z && chkT ops true y z) b l listed
def RT (P : Program) (ops : Array Oper) (Q : Exit → Act → World → Prop) (S : World → Prop) : Tree → Act → World → Prop
  | .line l, a, w => RA P ops Q S (l.map fun x => (x.1, ops.getD x.2 default)) a w
  | .fork l x y, a, w => RA P ops (fun _ a w => S w ∧ RT P ops Q S x a w ∧ RT P ops Q S y a w) S (l.map fun x => (x.1, ops.getD x.2 default)) a w

theorem wpOp_some {i : Nat} {o : Oper} {a : Act} {w : World} {next : Act → World → Prop} (ho : ops[i]? = some o) :
    (if Region.wanted o (yielded ops a.tmps) = true then o.wp P a w next never else next (a.put o.dst undef) w) → wpOp P ops Q i next a w := fun h => by
  unfold wpOp
  simp only [ho]
  by_cases hw : Region.wanted o (yielded ops a.tmps) = true
  · rw [if_pos hw] at h ⊢
    exact .inl (wp_never h)
  · rw [if_neg hw] at h ⊢
    exact h

theorem anyH_of_K (hs : Region.noSelect ops = true) (k : Array Bool → Bool) (K : Exit → Act → World → Prop) (m : Nat) (hk : ∀ listed a w, k listed = true → S w → K .normal a w → wpAnyH P .any ops (noPanic Q) S m listed a w) :
    ∀ (l : List (Bool × Nat)) (listed : Array Bool) (a : Act) (w : World), (∀ x ∈ l, x.2 < ops.size) → chkK ops k false l listed = true → S w →
      RA P ops K S (l.map fun x => (x.1, ops.getD x.2 default)) a w → wpAnyH P .any ops (noPanic Q) S (m + l.length) listed a w
  | [], listed, a, w, _, hc, hS, h => hk listed a w (by simpa [chkK] using hc) hS h
  | (true, i) :: r, listed, a, w, hl, hc, hS, h => by
    simp only [chkK, Bool.and_eq_true] at hc
    obtain ⟨v, hy, h'⟩ := h
    have hi : i < ops.size := hl (true, i) (by simp)
    have ho : ops[i]? = some (ops.getD i default) := by simp [hi]
    exact wpAnyH_take ho hs hc.1.1 hc.1.2 (fun _ _ _ hh => hh) hy hS (anyH_of_K hs k K m hk r _ _ _ (fun x hx => hl x (by simp [hx])) hc.2 hS h')
  | (false, i) :: r, listed, a, w, hl, hc, hS, h => by
    simp only [chkK, Bool.and_eq_true, beq_iff_eq] at hc
    have hi : i < ops.size := hl (false, i) (by simp)
    have ho : ops[i]? = some (ops.getD i default) := by simp [hi]
    refine wpAnyH_all hc.1 (by simp) fun j hj => ?_
    simp only [List.mem_singleton] at hj
    subst hj
    have ih : ∀ a' w', S w' ∧ RA P ops K S (r.map fun x => (x.1, ops.getD x.2 default)) a' w' → S w' ∧ wpAnyH P .any ops (noPanic Q) S (m + r.length) (listed.setIfInBounds j true) a' w' :=
      fun a' w' ⟨hS', h'⟩ => ⟨hS', anyH_of_K hs k K m hk r _ a' w' (fun x hx => hl x (by simp [hx])) hc.2 hS' h'⟩
    refine wpOp_some ho ?_
    simp only [List.map_cons, RA] at h
    by_cases hw : Region.wanted (ops.getD j default) (yielded ops a.tmps) = true
    · rw [if_pos hw] at h ⊢
      exact Oper.wp_mono ih h
    · rw [if_neg hw] at h ⊢
      exact ih _ _ ⟨hS, h⟩

theorem anyH_more : ∀ (m : Nat) (listed : Array Bool) (a : Act) (w : World), wpAnyH P .any ops Q S m listed a w → wpAnyH P .any ops Q S (m + 1) listed a w
  | 0, listed, a, w, h => ⟨fun _ => h.2, by rw [h.1]; simp⟩
  | m + 1, listed, a, w, h => ⟨h.1, fun i hi => wpOp_mono (fun a' w' h' => ⟨h'.1, anyH_more m _ a' w' h'.2⟩) (h.2 i hi)⟩
theorem anyH_le {m k : Nat} (hk : m ≤ k) {listed : Array Bool} {a : Act} {w : World} (h : wpAnyH P .any ops Q S m listed a w) : wpAnyH P .any ops Q S k listed a w := by
  induction hk with
  | refl => exact h
  | step _ ih => exact anyH_more _ _ _ _ ih

def Tree.all (p : Nat → Bool) : Tree → Bool
  | .line l => l.all fun x => p x.2
  | .fork l x y => l.all (fun x => p x.2) && x.all p && y.all p

theorem anyH_of_T (hs : Region.noSelect ops = true) : ∀ (t : Tree) (listed : Array Bool) (a : Act) (w : World), t.all (fun i => decide (i < ops.size)) = true → S w → RT P ops Q S t a w →
    (chkT ops false t listed = true → wpAnyH P .any ops (noPanic Q) S t.len listed a w) ∧
    (chkT ops true t listed = true → ∀ m, t.len ≤ m + 1 → ∀ j ∈ t.heads, wpOp P ops (noPanic Q) j (fun a' w' => S w' ∧ wpAnyH P .any ops (noPanic Q) S m (listed.setIfInBounds j true) a' w') a w) := by
  intro t
  induction t with
  | line l =>
    intro listed a w hl hS h
    have hl' : ∀ x ∈ l, x.2 < ops.size := fun x hx => by simpa using List.all_eq_true.1 hl x hx
    have hk : ∀ (listed : Array Bool) (a : Act) (w : World), (Region.ready .any ops listed).isEmpty = true → S w → Q .normal a w → wpAnyH P .any ops (noPanic Q) S 0 listed a w :=
      fun listed a w h1 _ h2 => wpAnyH_done (P := P) (S := S) (Q := noPanic Q) (by simpa using h1) h2 0
    refine ⟨fun hc => ?_, fun hc m hm j hj => ?_⟩
    · simp only [chkT, Bool.not_false, Bool.true_or, Bool.true_and] at hc
      have := anyH_of_K hs _ Q 0 hk l listed a w hl' hc hS h
      simpa [Tree.len] using this
    · cases l with
      | nil => simp [Tree.heads] at hj
      | cons x r =>
        obtain ⟨b, i⟩ := x
        cases b with
        | true => simp [Tree.heads] at hj
        | false =>
          simp only [Tree.heads, List.mem_singleton] at hj
          subst hj
          simp only [chkT, chkK, Bool.and_eq_true] at hc
          have hi : j < ops.size := hl' (false, j) (by simp)
          have ho : ops[j]? = some (ops.getD j default) := by simp [hi]
          have ih : ∀ a' w', S w' ∧ RA P ops Q S (r.map fun x => (x.1, ops.getD x.2 default)) a' w' → S w' ∧ wpAnyH P .any ops (noPanic Q) S m (listed.setIfInBounds j true) a' w' :=
            fun a' w' ⟨hS', h'⟩ => ⟨hS', anyH_le (by simp only [Tree.len, List.length_cons] at hm; omega) (anyH_of_K hs _ Q 0 hk r _ a' w' (fun x hx => hl' x (by simp [hx])) hc.2 hS' h')⟩
          refine wpOp_some ho ?_
          simp only [RT, List.map_cons, RA] at h
          by_cases hw : Region.wanted (ops.getD j default) (yielded ops a.tmps) = true
          · rw [if_pos hw] at h ⊢
            exact Oper.wp_mono ih h
          · rw [if_neg hw] at h ⊢
            exact ih _ _ ⟨hS, h⟩
  | fork l x y ihx ihy =>
    intro listed a w hl hS h
    simp only [Tree.all, Bool.and_eq_true] at hl
    have hl' : ∀ x ∈ l, x.2 < ops.size := fun x hx => by simpa using List.all_eq_true.1 hl.1.1 x hx
    -- what follows behind the list
    have hk : ∀ (listed : Array Bool) (a : Act) (w : World), (!(Region.ready .any ops listed).isEmpty && (Region.ready .any ops listed).all (fun j => (x.heads ++ y.heads).contains j) && chkT ops true x listed && chkT ops true y listed) = true → S w →
        (S w ∧ RT P ops Q S x a w ∧ RT P ops Q S y a w) → wpAnyH P .any ops (noPanic Q) S (max x.len y.len) listed a w := by
      intro listed a w hc _ ⟨hS, hx, hy⟩
      simp only [Bool.and_eq_true] at hc
      obtain ⟨⟨⟨h0, h1⟩, h2⟩, h3⟩ := hc
      have hpos : ∃ m, max x.len y.len = m + 1 := by
        cases hm : max x.len y.len with
        | succ m => exact ⟨m, rfl⟩
        | zero =>
          exfalso
          have : ∀ t : Tree, t.len = 0 → t.heads = [] := by
            intro t
            induction t with
            | line l => intro h; simp only [Tree.len, List.length_eq_zero_iff] at h; subst h; rfl
            | fork l x y ix iy =>
              intro h
              simp only [Tree.len] at h
              have hl0 : l = [] := List.eq_nil_of_length_eq_zero (by omega)
              subst hl0
              simp only [Tree.heads, ix (by omega), iy (by omega), List.append_nil]
          have hx0 := this x (by omega)
          have hy0 := this y (by omega)
          rw [hx0, hy0] at h1
          cases hr : Region.ready .any ops listed with
          | nil => rw [hr] at h0; simp at h0
          | cons j r => rw [hr] at h1; simp at h1
      obtain ⟨m, hm⟩ := hpos
      rw [hm]
      refine wpAnyH_all rfl (by intro he; rw [he] at h0; simp at h0) fun j hj => ?_
      have hjm := List.all_eq_true.1 h1 j hj
      simp only [List.contains_eq_mem, List.mem_append, decide_eq_true_eq] at hjm
      rcases hjm with hjm | hjm
      · exact (ihx listed a w hl.1.2 hS hx).2 h2 m (by omega) j hjm
      · exact (ihy listed a w hl.2 hS hy).2 h3 m (by omega) j hjm
    refine ⟨fun hc => ?_, fun hc m hm j hj => ?_⟩
    · have hc' : chkK ops (fun z => !(Region.ready .any ops z).isEmpty && (Region.ready .any ops z).all (fun j => (x.heads ++ y.heads).contains j) && chkT ops true x z && chkT ops true y z) false l listed = true := by
        cases l <;> simpa [chkT] using hc
      have := anyH_of_K hs _ _ (max x.len y.len) hk l listed a w hl' hc' hS h
      simpa [Tree.len, Nat.add_comm] using this
    · cases l with
      | nil =>
        simp only [Tree.heads, List.mem_append] at hj
        simp only [chkT, Bool.and_eq_true] at hc
        obtain ⟨_, hx, hy⟩ := h
        simp only [Tree.len, List.length_nil, Nat.zero_add] at hm
        rcases hj with hj | hj
        · exact (ihx listed a w hl.1.2 hS hx).2 hc.1 m (by omega) j hj
        · exact (ihy listed a w hl.2 hS hy).2 hc.2 m (by omega) j hj
      | cons z r =>
        obtain ⟨b, i⟩ := z
        cases b with
        | true => simp [Tree.heads] at hj
        | false =>
          simp only [Tree.heads, List.mem_singleton] at hj
          subst hj
          simp only [chkT, chkK] at hc
          have hi : j < ops.size := hl' (false, j) (by simp)
          have ho : ops[j]? = some (ops.getD j default) := by simp [hi]
          have ih : ∀ a' w', S w' ∧ RA P ops (fun _ a w => S w ∧ RT P ops Q S x a w ∧ RT P ops Q S y a w) S (r.map fun x => (x.1, ops.getD x.2 default)) a' w' → S w' ∧ wpAnyH P .any ops (noPanic Q) S m (listed.setIfInBounds j true) a' w' :=
            fun a' w' ⟨hS', h'⟩ => ⟨hS', anyH_le (by simp only [Tree.len, List.length_cons] at hm; omega) (anyH_of_K hs _ _ (max x.len y.len) hk r _ a' w' (fun x hx => hl' x (by simp [hx])) hc hS' h')⟩
          refine wpOp_some ho ?_
          simp only [RT, List.map_cons, RA] at h
          by_cases hw : Region.wanted (ops.getD j default) (yielded ops a.tmps) = true
          · rw [if_pos hw] at h ⊢
            exact Oper.wp_mono ih h
          · rw [if_neg hw] at h ⊢
            exact ih _ _ ⟨hS, h⟩

theorem wp_forks {id : Nat} {a : Act} {w : World} (t : Tree) (hm : P.follows .mixedOrders = true) (hs : Region.noSelect ops = true) (hlen : Nat.ble t.len ops.size = true)
    (hl : t.all (fun i => decide (i < ops.size)) = true) (hc : chkT ops false t (Array.replicate ops.size false) = true) (hS : S w.drew)
    (h : RT P ops Q S t a w.drew) : (Code.region id ops true).wp P Q a w :=
  Code.wp_mono noPanic_imp (wp_region_held (S := S) hm (anyH_le (Nat.le_of_ble_eq_true hlen) ((anyH_of_T hs t _ a _ hl hS h).1 hc)))

theorem wp_plain {id : Nat} {a : Act} {w : World} {l : List Oper} (h : RA P l.toArray Q S (l.map fun o => (false, o)) a w) : (Code.region id l.toArray false).wp P Q a w := by
  refine Code.wp_mono noPanic_imp (wp_region_lit ?_)
  have key : ∀ (l' : List Oper) (a : Act) (w : World), RA P l.toArray Q S (l'.map fun o => (false, o)) a w → wpList P l.toArray (noPanic Q) l' a w := by
    intro l'
    induction l' with
    | nil => intro a w h; exact h
    | cons o r ih =>
      intro a w h
      simp only [List.map_cons, RA] at h
      unfold wpList
      split
      · rename_i hw
        rw [if_pos hw] at h
        exact .inl (Oper.wp_mono (fun a' w' h' => ih a' w' h'.2) (wp_never h))
      · rename_i hw
        rw [if_neg hw] at h
        exact ih _ _ h
  exact key l a w h

/-- A loop with a ghost: what holds at each round's head hangs on x; each round lowers x's measure. -/
theorem wp_loop_ghost {σ : Type} {c : Code} {w : World} {a : Act} (I : σ → Act → World → Prop) (μ : σ → Nat) (x : σ) (h₀ : I x a w)
    (round : ∀ x a w, I x a w → c.wp P (Exit.then (fun a' w' => ∃ x', I x' a' w' ∧ μ x' < μ x) Q) a w) : (Code.loop c).wp P Q a w := by
  intro b k cs
  have key : ∀ n x a w, μ x = n → I x a w →
      ∃ e a' w', Q e a' w' ∧ Arrives P (lone (b.at a (.code c :: .inLoop c :: k)) cs w) b k cs e a' w' := by
    intro n
    induction n using Nat.strongRecOn with
    | _ n ih =>
      intro x a w hn hI
      obtain ⟨e, a₁, w₁, hq, harr⟩ := round x a w hI b (.inLoop c :: k) cs
      cases e with
      | normal =>
        obtain ⟨x₁, hI₁, hlt⟩ := hq
        obtain ⟨e₂, a₂, w₂, hq₂, harr₂⟩ := ih (μ x₁) (hn ▸ hlt) x₁ a₁ w₁ rfl hI₁
        exact ⟨e₂, a₂, w₂, hq₂, .of_steps (Steps.trans harr (.one step_inLoop)) harr₂⟩
      | exit id => exact ⟨_, a₁, w₁, hq, .pass (x := .inLoop c) rfl (fun _ _ => .inl (by simp)) harr⟩
      | goto l => exact ⟨_, a₁, w₁, hq, .pass (x := .inLoop c) rfl (fun _ _ => .inl (by simp)) harr⟩
      | ret => exact ⟨_, a₁, w₁, hq, .pass (x := .inLoop c) rfl (fun _ _ => .inl (by simp)) harr⟩
      | panic ch => exact ⟨_, a₁, w₁, hq, .pass (x := .inLoop c) rfl (fun _ _ => .inl (by simp)) harr⟩
      | outgrown => exact ⟨_, a₁, w₁, hq, .pass (x := .inLoop c) rfl (fun _ _ => .inl (by simp)) harr⟩
  obtain ⟨e, a', w', hq, harr⟩ := key _ x a w rfl h₀
  exact ⟨e, a', w', hq, .of_steps (.one step_loop) harr⟩
end

/-! ### Runs over a list of slots -/
section
variable (P : Program) (n : Nat) (ops : Array Oper) (Q : Exit → Act → World → Prop) (S : World → Prop)

def RL (l : List (Bool × Oper)) (E : Env) (w : World) : Prop := S w → ∀ a, At n E a → RA P ops Q S l a w

def CW (c : Code) (Q : Exit → Act → World → Prop) (E : Env) (w : World) : Prop := ∀ a, At n E a → c.wp P Q a w

/-- What an operation does that yields v and leaves w'. -/
def Run (o : Oper) (E : Env) (w : World) (v : Value) (w' : World) : Prop := ∀ a, At n E a → (execOp a.eval o).run P w = .ok (.value v) w'
end

section
variable {P : Program} {n : Nat} {ops : Array Oper} {Q : Exit → Act → World → Prop} {S : World → Prop} {rest : List (Bool × Oper)} {E : Env} {w w' : World} {o : Oper} {d : Nat} {v : Value}

theorem RL.done (h : ∀ a, At n E a → Q .normal a w) : RL P n ops Q S [] E w := fun _ a ha => h a ha

theorem RL.step (hg : wants ops E o = some true) (hd : o.dst = some d) (hb : Nat.blt d n = true) (hr : Run P n o E w v w') (hS : S w') (h : RL P n ops Q S rest ((d, v) :: E) w') :
    RL P n ops Q S ((false, o) :: rest) E w := fun _ a ha => by
  simp only [RA, ha.wants hg, if_true]
  unfold Oper.wp
  rw [hr a ha]
  simp only [Oper.upon, hd]
  exact ⟨hS, h hS _ (ha.put hb v)⟩

/-- An operation that stores: it yields nothing. -/
theorem RL.skip (hg : wants ops E o = some true) (hd : o.dst = none) (hr : ∀ a, At n E a → (execOp a.eval o).run P w = .ok .skip w') (hS : S w') (h : RL P n ops Q S rest E w') :
    RL P n ops Q S ((false, o) :: rest) E w := fun _ a ha => by
  simp only [RA, ha.wants hg, if_true]
  unfold Oper.wp
  rw [hr a ha]
  simp only [Oper.upon, hd, Act.put]
  exact ⟨hS, h hS _ ha⟩

theorem RL.take (hg : wants ops E o = some true) (hd : o.dst = some d) (hb : Nat.blt d n = true) (hr : ∀ w, S w → Run P n o E w v w) (h : RL P n ops Q S rest ((d, v) :: E) w) :
    RL P n ops Q S ((true, o) :: rest) E w := fun hS a ha =>
  ⟨v, .inl ⟨ha.wants hg, fun w' hw' => hr w' hw' a ha⟩, by rw [hd]; exact h hS _ (ha.put hb v)⟩

/-- Its guard says no. -/
theorem RL.pass {t : Bool} (hg : wants ops E o = some false) (hd : o.dst = some d) (hb : Nat.blt d n = true) (h : RL P n ops Q S rest ((d, undef) :: E) w) :
    RL P n ops Q S ((t, o) :: rest) E w := fun hS a ha => by
  cases t with
  | false => simp only [RA, ha.wants hg, Bool.false_eq_true, if_false, hd]; exact h hS _ (ha.put hb _)
  | true => exact ⟨undef, .inr ⟨ha.wants hg, rfl⟩, by rw [hd]; exact h hS _ (ha.put hb _)⟩

theorem RL.pure {t : Bool} (hg : wants ops E o = some true) (hd : o.dst = some d) (hb : Nat.blt d n = true) (hp : pv (ev E) o.op = some v) (h : RL P n ops Q S rest ((d, v) :: E) w) :
    RL P n ops Q S ((t, o) :: rest) E w := by
  cases t with
  | false => exact fun hS => RL.step hg hd hb (fun a ha => pv_run hp a ha w) hS h hS
  | true => exact RL.take hg hd hb (fun w _ a ha => pv_run hp a ha w) h

/-- A slot's truth is parted: it is written down again as 'true', as 'false'. -/
theorem RL.part {b : Bool} {l : List (Bool × Oper)} (t : Nat) (ht : look E t = some (.bool b)) (h1 : b = true → RL P n ops Q S l ((t, .bool true) :: E) w) (h0 : b = false → RL P n ops Q S l ((t, .bool false) :: E) w) :
    RL P n ops Q S l E w := fun hS a ha => by
  cases b with
  | true => exact h1 rfl hS a (ha.more ht)
  | false => exact h0 rfl hS a (ha.more ht)

/-! ### Code -/
theorem CW.plain {id : Nat} {l : List Oper} (h : RL P n l.toArray Q (fun _ => True) (l.map fun o => (false, o)) E w) : CW P n (.region id l.toArray false) Q E w :=
  fun a ha => wp_plain (S := fun _ => True) (h trivial a ha)

theorem CW.draws {id : Nat} {l : List Oper} (order : List (Bool × Nat)) (S : World → Prop) (hm : P.follows .mixedOrders = true) (hs : Region.noSelect l.toArray = true) (hlen : order.length = l.toArray.size)
    (hl : (order.all fun x => decide (x.2 < l.toArray.size)) = true) (hc : chk l.toArray order (Array.replicate l.toArray.size false) = true) (hS : S w.drew)
    (h : RL P n l.toArray Q S (order.map fun x => (x.1, l.toArray.getD x.2 default)) E w.drew) : CW P n (.region id l.toArray true) Q E w :=
  fun a ha => wp_draws order hm hs hlen hl hc hS (h hS a ha)

theorem CW.forks {id : Nat} {l : List Oper} (t : Tree) (S : World → Prop) (hm : P.follows .mixedOrders = true) (hs : Region.noSelect l.toArray = true) (hlen : Nat.ble t.len l.toArray.size = true)
    (hl : (t.all fun i => decide (i < l.toArray.size)) = true) (hc : chkT l.toArray false t (Array.replicate l.toArray.size false) = true) (hS : S w.drew)
    (h : ∀ a, At n E a → RT P l.toArray Q S t a w.drew) : CW P n (.region id l.toArray true) Q E w :=
  fun a ha => wp_forks t hm hs hlen hl hc hS (h a ha)
/-- Those ahead of a fork. -/
theorem RT.pre {l : List (Bool × Nat)} {x y : Tree} (hS : S w) (h : RL P n ops (fun _ a w => S w ∧ RT P ops Q S x a w ∧ RT P ops Q S y a w) S (l.map fun z => (z.1, ops.getD z.2 default)) E w) : ∀ a, At n E a → RT P ops Q S (.fork l x y) a w :=
  fun a ha => h hS a ha
theorem RT.end_ {l : List (Bool × Nat)} (hS : S w) (h : RL P n ops Q S (l.map fun z => (z.1, ops.getD z.2 default)) E w) : ∀ a, At n E a → RT P ops Q S (.line l) a w := fun a ha => h hS a ha
/-- The fork itself. -/
theorem RT.both {x y : Tree} (hS : S w) (hx : ∀ a, At n E a → RT P ops Q S x a w) (hy : ∀ a, At n E a → RT P ops Q S y a w) : ∀ a, At n E a → S w ∧ RT P ops Q S x a w ∧ RT P ops Q S y a w :=
  fun a ha => ⟨hS, hx a ha, hy a ha⟩

theorem CW.seq {x y : Code} (h : CW P n x (Exit.then (fun a w => y.wp P Q a w) Q) E w) : CW P n (.seq x y) Q E w := fun a ha => wp_seq (h a ha)
theorem CW.block {id : Nat} {c : Code} (h : CW P n c (Exit.inBlock id Q) E w) : CW P n (.block id c) Q E w := fun a ha => wp_block (h a ha)
theorem CW.skip (h : ∀ a, At n E a → Q .normal a w) : CW P n .skip Q E w := fun a ha => wp_skip (h a ha)
theorem CW.exit {id : Nat} (h : ∀ a, At n E a → Q (.exit id) a w) : CW P n (.exit id) Q E w := fun a ha => wp_exit (h a ha)
theorem CW.ret (h : ∀ a, At n E a → Q .ret a w) : CW P n .ret Q E w := fun a ha => wp_ret (h a ha)
theorem CW.cond {c : Operand} {x y : Code} {b : Bool} (hc : ev E c = some (.bool b)) (ht : b = true → CW P n x Q E w) (hf : b = false → CW P n y Q E w) : CW P n (.cond c x y) Q E w :=
  fun a ha => wp_cond_split (ha.ev hc) (fun hb => ht hb a ha) (fun hb => hf hb a ha)
theorem CW.yes {c : Operand} {x y : Code} (hc : ev E c = some (.bool true)) (h : CW P n x Q E w) : CW P n (.cond c x y) Q E w := fun a ha => wp_cond_true (ha.ev hc) (h a ha)
theorem CW.no {c : Operand} {x y : Code} (hc : ev E c = some (.bool false)) (h : CW P n y Q E w) : CW P n (.cond c x y) Q E w := fun a ha => wp_cond_false (ha.ev hc) (h a ha)
/-- A test over a proposition. -/
theorem CW.test {c : Operand} {x y : Code} {p : Prop} [Decidable p] (hc : ev E c = some (.bool (decide p))) (ht : p → CW P n x Q E w) (hf : ¬ p → CW P n y Q E w) : CW P n (.cond c x y) Q E w :=
  CW.cond hc (fun h => ht (of_decide_eq_true h)) (fun h => hf (of_decide_eq_false h))
theorem CW.eq {c : Operand} {x y : Code} {i j : Int} (hc : ev E c = some (.bool (i == j))) (ht : i = j → CW P n x Q E w) (hf : i ≠ j → CW P n y Q E w) : CW P n (.cond c x y) Q E w :=
  CW.cond hc (fun h => ht (by simpa using h)) (fun h => hf (by simpa using h))
theorem CW.ne {c : Operand} {x y : Code} {i j : Int} (hc : ev E c = some (.bool (i != j))) (ht : i ≠ j → CW P n x Q E w) (hf : i = j → CW P n y Q E w) : CW P n (.cond c x y) Q E w :=
  CW.cond hc (fun h => ht (by simpa using h)) (fun h => hf (by simpa using h))
/-- Fewer slots. -/
theorem CW.less {c : Code} (E' : Env) (hs : Sub E' E) (h : CW P n c Q E' w) : CW P n c Q E w := fun a ha => h a (ha.sub hs)
/-- The ways through x meet again: what they have in common is J. -/
theorem CW.meet {x y : Code} (J : Env → World → Prop) (hx : CW P n x (Exit.then (fun a w' => ∃ E', At n E' a ∧ J E' w') Q) E w) (hy : ∀ E' w', J E' w' → CW P n y Q E' w') : CW P n (.seq x y) Q E w :=
  fun a ha => wp_seq (wp_mono (hx a ha) fun e a' w' h => by
    cases e <;> first | exact h | (obtain ⟨E', h1, h2⟩ := h; exact hy E' w' h2 a' h1))
/-- The end of one way: it comes to what the ways have in common. -/
theorem comes {a : Act} {J : Env → World → Prop} (E' : Env) (hs : Sub E' E) (hJ : J E' w) (ha : At n E a) : ∃ E'', At n E'' a ∧ J E'' w := ⟨E', ha.sub hs, hJ⟩

theorem CW.loop {σ : Type} {c : Code} (J : σ → Env → World → Prop) (μ : σ → Nat) (x0 : σ) (E0 : Env) (hsub : Sub E0 E) (h0 : J x0 E0 w)
    (round : ∀ x E w, J x E w → CW P n c (Exit.then (fun a' w' => ∃ x' E', At n E' a' ∧ J x' E' w' ∧ μ x' < μ x) Q) E w) : CW P n (.loop c) Q E w := fun a ha => by
  refine wp_loop_ghost (fun x a w => ∃ E, At n E a ∧ J x E w) μ x0 ⟨E0, ha.sub hsub, h0⟩ ?_
  rintro x a w ⟨E, hE, hJ⟩
  exact wp_mono (round x E w hJ a hE) fun e a' w' h => by
    cases e <;> first | exact h | (obtain ⟨x', E', h1, h2, h3⟩ := h; exact ⟨x', ⟨E', h1, h2⟩, h3⟩)
/-- The end of a round. -/
theorem again {σ : Type} {a : Act} {J : σ → Env → World → Prop} {μ : σ → Nat} {x : σ} (x' : σ) (E' : Env) (hs : Sub E' E) (hJ : J x' E' w) (hμ : μ x' < μ x) (ha : At n E a) :
    ∃ x' E', At n E' a ∧ J x' E' w ∧ μ x' < μ x := ⟨x', E', ha.sub hs, hJ, hμ⟩
end

end Go.Lw
