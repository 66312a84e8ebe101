/-
  Parts of the proof of BeatsOpensUptoCardSaid: the walk engine: Base, Mem, Ops, Rules, Rules2, Rules3, Text, Rules4, Rules5, Rules6, Rules7, Rules8, Enc.
-/
import Derived.WalkKit
import Derived.OrdersHeld
import Derived.Laws.BytesArg
import Derived.Lib.ConvBytes
import Derived.WalkSpells
import Derived.Laws.Externs

/-
  THE WALK ENGINE, part 1: a frame as a short list of slots with values; lists of operations over it; what a pure operation yields, computed. No program in sight: all over any program P.
-/
namespace Go.Lw

abbrev Env := List (Nat × Value)

def look : Env → Nat → Option Value
  | [], _ => none
  | p :: r, t => cond (Nat.beq p.1 t) (some p.2) (look r t)

/-- The frame has n slots, nothing deferred, and what the list names. -/
structure At (n : Nat) (E : Env) (a : Act) : Prop where
  size : a.tmps.size = n
  dfr : a.defers = []
  get : ∀ t v, look E t = some v → a.tmps[t]? = some v

theorem At.put {n : Nat} {E : Env} {a : Act} (h : At n E a) {d : Nat} (hd : Nat.blt d n = true) (v : Value) : At n ((d, v) :: E) (a.put (some d) v) := by
  have hlt : d < n := by simpa [Nat.blt, Nat.lt_iff_add_one_le] using hd
  refine ⟨by simp [Act.put, h.size], by simp [Act.put, h.dfr], fun t u ht => ?_⟩
  simp only [look] at ht
  by_cases hdt : d = t
  · subst hdt
    rw [show Nat.beq d d = true from Nat.beq_refl d] at ht
    simp at ht
    subst ht
    simp [Act.put, h.size, hlt]
  · have : Nat.beq d t = false := Bool.eq_false_iff.2 (fun h => hdt (Nat.eq_of_beq_eq_true h))
    rw [this] at ht
    simp only [cond_false] at ht
    simp [Act.put, Array.getElem?_setIfInBounds_ne hdt, h.get t u ht]

theorem At.getD {n : Nat} {E : Env} {a : Act} (h : At n E a) {t : Nat} {v : Value} (ht : look E t = some v) : a.tmps.getD t undef = v := by
  simp [Array.getD_eq_getD_getElem?, h.get t v ht]

/-- Every slot that E names E' names with the same value. -/
def Sub : Env → Env → Prop
  | [], _ => True
  | p :: r, E' => look E' p.1 = some p.2 ∧ Sub r E'

theorem Sub.look {E E' : Env} (h : Sub E E') : ∀ t v, look E t = some v → look E' t = some v := by
  induction E with
  | nil => intro t v ht; simp [Lw.look] at ht
  | cons p r ih =>
    intro t v ht
    simp only [Lw.look] at ht
    by_cases hp : Nat.beq p.1 t = true
    · rw [hp] at ht
      simp at ht
      have : p.1 = t := Nat.eq_of_beq_eq_true hp
      subst this
      rw [← ht]
      exact h.1
    · rw [Bool.not_eq_true] at hp
      rw [hp] at ht
      exact ih h.2 t v ht

theorem At.more {n : Nat} {E : Env} {a : Act} (h : At n E a) {t : Nat} {v : Value} (ht : Lw.look E t = some v) : At n ((t, v) :: E) a := by
  refine ⟨h.size, h.dfr, fun s u hs => ?_⟩
  simp only [Lw.look] at hs
  by_cases hp : Nat.beq t s = true
  · rw [hp] at hs
    simp at hs
    have : t = s := Nat.eq_of_beq_eq_true hp
    subst this
    rw [← hs]
    exact h.get _ _ ht
  · rw [Bool.not_eq_true] at hp
    rw [hp] at hs
    exact h.get _ _ hs

theorem At.sub {n : Nat} {E E' : Env} {a : Act} (h : At n E a) (hs : Sub E' E) : At n E' a := ⟨h.size, h.dfr, fun t v ht => h.get t v (hs.look t v ht)⟩

/-- What an operand is. -/
def ev (E : Env) : Operand → Option Value
  | .tmp t => look E t
  | .const v => some v
  | .global g => some (.pointer (some ⟨g, 0, none⟩))
  | .func f => some (.func (.func f) #[] #[])

theorem At.ev {n : Nat} {E : Env} {a : Act} (h : At n E a) {x : Operand} {v : Value} (hx : ev E x = some v) : a.eval x = v := by
  cases x with
  | tmp t => exact h.getD hx
  | const u => exact Option.some.inj hx
  | global g => exact Option.some.inj hx
  | func f => exact Option.some.inj hx

/-- Is it wanted? -/
def wants (ops : Array Oper) (E : Env) (o : Oper) : Option Bool :=
  match o.guard with
  | none => some true
  | some (j, want) =>
    match (ops[j]?).bind (·.dst) with
    | none => none
    | some d =>
      match look E d with
      | some (.bool b) => some (b == want)
      | some (.tuple _) => some false
      | _ => none

theorem At.wants {n : Nat} {E : Env} {a : Act} (h : At n E a) {ops : Array Oper} {o : Oper} {b : Bool} (hb : wants ops E o = some b) : Region.wanted o (yielded ops a.tmps) = b := by
  unfold Lw.wants at hb
  unfold Region.wanted
  split at hb
  · rename_i hg
    simp only [hg]
    simpa using hb
  · rename_i j want hg
    simp only [hg]
    split at hb
    · cases hb
    · rename_i d hd
      split at hb
      · rename_i c hc
        have := h.get d _ hc
        simp only [yielded, hd, Option.bind_some, this]
        simp only [Option.some.injEq] at hb
        subst hb
        cases c <;> cases want <;> rfl
      · rename_i c hc
        have := h.get d _ hc
        simp only [yielded, hd, Option.bind_some, this]
        simp only [Option.some.injEq] at hb
        subst hb
        cases want <;> rfl
      · cases hb

/-! ### Pure operations: what they yield, in whatever world -/

def intOp (op : BinOp) (k : IntKind) (x y : Int) : Option Value :=
  match op with
  | .add => some (.int k (k.wrap (x + y)))
  | .sub => some (.int k (k.wrap (x - y)))
  | .mul => some (.int k (k.wrap (x * y)))
  | .and => some (.int k (k.wrap ((BitVec.ofInt k.bits x &&& BitVec.ofInt k.bits y).toNat)))
  | .or => some (.int k (k.wrap ((BitVec.ofInt k.bits x ||| BitVec.ofInt k.bits y).toNat)))
  | .xor => some (.int k (k.wrap ((BitVec.ofInt k.bits x ^^^ BitVec.ofInt k.bits y).toNat)))
  | .eql => some (.bool (x == y))
  | .neq => some (.bool (x != y))
  | .lss => some (.bool (x < y))
  | .leq => some (.bool (x ≤ y))
  | .gtr => some (.bool (x > y))
  | .geq => some (.bool (x ≥ y))
  | _ => none

/-- The value of a pure operation that needs no proof. -/
def pv (ρ : Operand → Option Value) : Op → Option Value
  | .move x | .assign x => ρ x
  | .pick c a b =>
    match ρ c with
    | some (.bool true) => ρ a
    | some (.bool false) => ρ b
    | _ => none
  | .binOp op _ x y _ =>
    match ρ x, ρ y with
    | some (.int k a), some (.int j b) => if k = j then intOp op k a b else none
    | _, _ => none
  | .unOp .not _ x =>
    match ρ x with
    | some (.bool b) => some (.bool (!b))
    | _ => none
  | .nilCheck x =>
    match ρ x with
    | some (.pointer (some a)) => some (.pointer (some a))
    | _ => none
  | .extract x i =>
    match ρ x with
    | some (.tuple vs) => vs[i]?
    | _ => none
  | _ => none

theorem run_eqGuard_int (P : Program) (op : BinOp) (t : TypeId) (x y : Operand) (k j : IntKind) (a b : Int) (w : World) :
    (eqGuard op t x y (.int k a) (.int j b)).run P w = .ok () w := by
  unfold eqGuard
  cases op <;> rfl

theorem run_intOp {P : Program} {op : BinOp} {t : TypeId} {k : IntKind} {a b : Int} {v : Value} (w : World) (h : intOp op k a b = some v) :
    (binOp op t (.int k a) (.int k b)).run P w = .ok v w := by
  unfold intOp at h
  cases op <;> simp only [Option.some.injEq, reduceCtorEq] at h <;> subst h <;> simp [binOp, Op.intArith, Op.intBits, Op.intCmp, Sem.run_pure]

theorem pv_run {P : Program} {n : Nat} {E : Env} {o : Oper} {v : Value} (h : pv (ev E) o.op = some v) (a : Act) (ha : At n E a) (w : World) :
    (execOp a.eval o).run P w = .ok (.value v) w := by
  obtain ⟨dst, op, type, pos, after, guard⟩ := o
  cases op <;> simp only [pv] at h <;> try (cases h; done)
  case move x => simp [execOp, ha.ev h, Sem.run_pure]
  case assign x => simp [execOp, ha.ev h, Sem.run_pure]
  case pick c x y =>
    split at h
    · rename_i hc; simp [execOp, ha.ev hc, ha.ev h, asBool, Sem.run_pure]
    · rename_i hc; simp [execOp, ha.ev hc, ha.ev h, asBool, Sem.run_pure]
    · cases h
  case nilCheck x =>
    split at h
    · rename_i b hx
      simp only [Option.some.injEq] at h
      subst h
      simp [execOp, ha.ev hx, Sem.run_pure]
    · cases h
  case binOp op t x y yt =>
    split at h
    · rename_i k a' j b' hx hy
      split at h
      · rename_i hkj
        subst hkj
        simp [execOp, ha.ev hx, ha.ev hy, Sem.run_bind, run_eqGuard_int, run_intOp w h]
      · cases h
    · cases h
  case unOp op t x =>
    cases op <;> simp only at h <;> try (cases h; done)
    split at h
    · rename_i b hx
      simp only [Option.some.injEq] at h
      subst h
      simp [execOp, ha.ev hx, Op.unary, Sem.run_pure]
    · cases h
  case extract x i =>
    split at h
    · rename_i vs hx
      simp [execOp, ha.ev hx, Instr.extract, h, Sem.run_pure]
    · cases h

/-! ### Runs: operations one behind the other. 'true': taken first, whatever world of S; 'false': carried out in its place, S shown anew. -/

def noPanic (Q : Exit → Act → World → Prop) : Exit → Act → World → Prop
  | .panic _, _, _ => False
  | e, a, w => Q e a w

theorem noPanic_imp {Q : Exit → Act → World → Prop} : ∀ e a w, noPanic Q e a w → Q e a w := fun e a w h => by
  cases e <;> first | exact h | exact (h : False).elim

def never : Exit → Act → World → Prop := fun _ _ _ => False
theorem wp_never {P : Program} {o : Oper} {a : Act} {w : World} {next : Act → World → Prop} {Q : Exit → Act → World → Prop} (h : o.wp P a w next never) : o.wp P a w next Q := by
  unfold Oper.wp at *
  generalize (execOp a.eval o).run P w = r at *
  cases r with
  | ok n w' =>
    cases n with
    | enter f args =>
      simp only [Oper.upon] at h ⊢
      refine Calls.mono h (fun e w'' he => ?_)
      cases e with
      | returned v => exact he
      | panicked c => exact (he : False).elim
      | outgrown => exact absurd he (by simp [LetsOut, never])
    | _ => exact h
  | halt x w' =>
    cases x with
    | panic v => exact (h : False).elim
    | _ => exact h

section
variable (P : Program) (ops : Array Oper) (Q : Exit → Act → World → Prop) (S : World → Prop)

def RA : List (Bool × Oper) → Act → World → Prop
  | [], a, w => Q .normal a w
  | (true, o) :: rest, a, w => ∃ v, YieldsIf P ops S o v a ∧ RA rest (a.put o.dst v) w
  | (false, o) :: rest, a, w =>
    if Region.wanted o (yielded ops a.tmps) = true then o.wp P a w (fun a' w' => S w' ∧ RA rest a' w') never else RA rest (a.put o.dst undef) w

/-- Is this order (number, taken first or not) one that serves whatever order the tape picks? -/
def chk (ops : Array Oper) : List (Bool × Nat) → Array Bool → Bool
  | [], listed => (Region.ready .any ops listed).isEmpty
  | (true, i) :: r, listed => Region.free .any ops listed i && (Region.ready .any ops listed).contains i && chk ops r (listed.setIfInBounds i true)
  | (false, i) :: r, listed => Region.ready .any ops listed == [i] && chk ops r (listed.setIfInBounds i true)

end

section
variable {P : Program} {ops : Array Oper} {Q : Exit → Act → World → Prop} {S : World → Prop}

theorem anyH_of_RA (hs : Region.noSelect ops = true) : ∀ (l : List (Bool × Nat)) (listed : Array Bool) (a : Act) (w : World), (∀ x ∈ l, x.2 < ops.size) → chk ops l listed = true → S w →
    RA P ops Q S (l.map fun x => (x.1, ops.getD x.2 default)) a w → wpAnyH P .any ops (noPanic Q) S l.length listed a w
  | [], listed, a, w, _, hc, _, h => wpAnyH_done (P := P) (S := S) (Q := noPanic Q) (by simpa [chk] using hc) h 0
  | (true, i) :: r, listed, a, w, hl, hc, hS, h => by
    simp only [chk, Bool.and_eq_true] at hc
    obtain ⟨v, hy, h'⟩ := h
    have hi : i < ops.size := hl (true, i) (by simp)
    have ho : ops[i]? = some (ops.getD i default) := by simp [hi]
    exact wpAnyH_take ho hs hc.1.1 hc.1.2 (fun _ _ _ hh => hh) hy hS (anyH_of_RA hs r _ _ _ (fun x hx => hl x (by simp [hx])) hc.2 hS h')
  | (false, i) :: r, listed, a, w, hl, hc, hS, h => by
    simp only [chk, Bool.and_eq_true, beq_iff_eq] at hc
    have hi : i < ops.size := hl (false, i) (by simp)
    have ho : ops[i]? = some (ops.getD i default) := by simp [hi]
    refine wpAnyH_all hc.1 (by simp) fun j hj => ?_
    simp only [List.mem_singleton] at hj
    subst hj
    have ih : ∀ a' w', S w' ∧ RA P ops Q S (r.map fun x => (x.1, ops.getD x.2 default)) a' w' → S w' ∧ wpAnyH P .any ops (noPanic Q) S r.length (listed.setIfInBounds j true) a' w' :=
      fun a' w' ⟨hS', h'⟩ => ⟨hS', anyH_of_RA hs r _ a' w' (fun x hx => hl x (by simp [hx])) hc.2 hS' h'⟩
    simp only [List.map_cons, RA] at h
    generalize ops.getD j default = oj at *
    unfold wpOp
    simp only [ho]
    by_cases hw : Region.wanted oj (yielded ops a.tmps) = true
    · rw [if_pos hw] at h ⊢
      exact .inl (Oper.wp_mono ih (wp_never h))
    · rw [if_neg hw] at h ⊢
      exact ih _ _ ⟨hS, h⟩

theorem wp_draws {id : Nat} {a : Act} {w : World} (l : List (Bool × Nat)) (hm : P.follows .mixedOrders = true) (hs : Region.noSelect ops = true) (hlen : l.length = ops.size)
    (hl : (l.all fun x => decide (x.2 < ops.size)) = true) (hc : chk ops l (Array.replicate ops.size false) = true) (hS : S w.drew)
    (h : RA P ops Q S (l.map fun x => (x.1, ops.getD x.2 default)) a w.drew) : (Code.region id ops true).wp P Q a w := by
  refine Code.wp_mono noPanic_imp (wp_region_held (S := S) hm ?_)
  rw [← hlen]
  rw [← hlen] at hc
  refine anyH_of_RA hs l _ a _ (fun x hx => ?_) hc hS h
  have := List.all_eq_true.1 hl x hx
  simpa using this

/-! #### where the tape may pick between several -/
inductive Tree where
  | line (l : List (Bool × Nat))
  | fork (l : List (Bool × Nat)) (x y : Tree)
def Tree.heads : Tree → List Nat
  | .line ((false, i) :: _) => [i]
  | .line _ => []
  | .fork ((false, i) :: _) _ _ => [i]
  | .fork ((true, _) :: _) _ _ => []
  | .fork [] x y => x.heads ++ y.heads
def Tree.len : Tree → Nat
  | .line l => l.length
  | .fork l x y => l.length + max x.len y.len
/-- After these, and then whatever k says. b: the first may be one of several. -/
def chkK (ops : Array Oper) (k : Array Bool → Bool) : Bool → List (Bool × Nat) → Array Bool → Bool
  | _, [], listed => k listed
  | _, (true, i) :: r, listed => Region.free .any ops listed i && (Region.ready .any ops listed).contains i && chkK ops k false r (listed.setIfInBounds i true)
  | false, (false, i) :: r, listed => Region.ready .any ops listed == [i] && chkK ops k false r (listed.setIfInBounds i true)
  | true, (false, i) :: r, listed => chkK ops k false r (listed.setIfInBounds i true)
def chkT (ops : Array Oper) : Bool → Tree → Array Bool → Bool
  | b, .line l, listed => (!b || !l.isEmpty) && chkK ops (fun z => (Region.ready .any ops z).isEmpty) b l listed
  | true, .fork [] x y, listed => chkT ops true x listed && chkT ops true y listed
  | b, .fork l x y, listed => chkK ops (fun z => !(Region.ready .any ops z).isEmpty && (Region.ready .any ops z).all (fun j => (x.heads ++ y.heads).contains j) && chkT ops true x z && chkT ops true y z) b l listed
def RT (P : Program) (ops : Array Oper) (Q : Exit → Act → World → Prop) (S : World → Prop) : Tree → Act → World → Prop
  | .line l, a, w => RA P ops Q S (l.map fun x => (x.1, ops.getD x.2 default)) a w
  | .fork l x y, a, w => RA P ops (fun _ a w => S w ∧ RT P ops Q S x a w ∧ RT P ops Q S y a w) S (l.map fun x => (x.1, ops.getD x.2 default)) a w

theorem wpOp_some {i : Nat} {o : Oper} {a : Act} {w : World} {next : Act → World → Prop} (ho : ops[i]? = some o) :
    (if Region.wanted o (yielded ops a.tmps) = true then o.wp P a w next never else next (a.put o.dst undef) w) → wpOp P ops Q i next a w := fun h => by
  unfold wpOp
  simp only [ho]
  by_cases hw : Region.wanted o (yielded ops a.tmps) = true
  · rw [if_pos hw] at h ⊢
    exact .inl (wp_never h)
  · rw [if_neg hw] at h ⊢
    exact h

theorem anyH_of_K (hs : Region.noSelect ops = true) (k : Array Bool → Bool) (K : Exit → Act → World → Prop) (m : Nat) (hk : ∀ listed a w, k listed = true → S w → K .normal a w → wpAnyH P .any ops (noPanic Q) S m listed a w) :
    ∀ (l : List (Bool × Nat)) (listed : Array Bool) (a : Act) (w : World), (∀ x ∈ l, x.2 < ops.size) → chkK ops k false l listed = true → S w →
      RA P ops K S (l.map fun x => (x.1, ops.getD x.2 default)) a w → wpAnyH P .any ops (noPanic Q) S (m + l.length) listed a w
  | [], listed, a, w, _, hc, hS, h => hk listed a w (by simpa [chkK] using hc) hS h
  | (true, i) :: r, listed, a, w, hl, hc, hS, h => by
    simp only [chkK, Bool.and_eq_true] at hc
    obtain ⟨v, hy, h'⟩ := h
    have hi : i < ops.size := hl (true, i) (by simp)
    have ho : ops[i]? = some (ops.getD i default) := by simp [hi]
    exact wpAnyH_take ho hs hc.1.1 hc.1.2 (fun _ _ _ hh => hh) hy hS (anyH_of_K hs k K m hk r _ _ _ (fun x hx => hl x (by simp [hx])) hc.2 hS h')
  | (false, i) :: r, listed, a, w, hl, hc, hS, h => by
    simp only [chkK, Bool.and_eq_true, beq_iff_eq] at hc
    have hi : i < ops.size := hl (false, i) (by simp)
    have ho : ops[i]? = some (ops.getD i default) := by simp [hi]
    refine wpAnyH_all hc.1 (by simp) fun j hj => ?_
    simp only [List.mem_singleton] at hj
    subst hj
    have ih : ∀ a' w', S w' ∧ RA P ops K S (r.map fun x => (x.1, ops.getD x.2 default)) a' w' → S w' ∧ wpAnyH P .any ops (noPanic Q) S (m + r.length) (listed.setIfInBounds j true) a' w' :=
      fun a' w' ⟨hS', h'⟩ => ⟨hS', anyH_of_K hs k K m hk r _ a' w' (fun x hx => hl x (by simp [hx])) hc.2 hS' h'⟩
    refine wpOp_some ho ?_
    simp only [List.map_cons, RA] at h
    by_cases hw : Region.wanted (ops.getD j default) (yielded ops a.tmps) = true
    · rw [if_pos hw] at h ⊢
      exact Oper.wp_mono ih h
    · rw [if_neg hw] at h ⊢
      exact ih _ _ ⟨hS, h⟩

theorem anyH_more : ∀ (m : Nat) (listed : Array Bool) (a : Act) (w : World), wpAnyH P .any ops Q S m listed a w → wpAnyH P .any ops Q S (m + 1) listed a w
  | 0, listed, a, w, h => ⟨fun _ => h.2, by rw [h.1]; simp⟩
  | m + 1, listed, a, w, h => ⟨h.1, fun i hi => wpOp_mono (fun a' w' h' => ⟨h'.1, anyH_more m _ a' w' h'.2⟩) (h.2 i hi)⟩
theorem anyH_le {m k : Nat} (hk : m ≤ k) {listed : Array Bool} {a : Act} {w : World} (h : wpAnyH P .any ops Q S m listed a w) : wpAnyH P .any ops Q S k listed a w := by
  induction hk with
  | refl => exact h
  | step _ ih => exact anyH_more _ _ _ _ ih

def Tree.all (p : Nat → Bool) : Tree → Bool
  | .line l => l.all fun x => p x.2
  | .fork l x y => l.all (fun x => p x.2) && x.all p && y.all p

theorem anyH_of_T (hs : Region.noSelect ops = true) : ∀ (t : Tree) (listed : Array Bool) (a : Act) (w : World), t.all (fun i => decide (i < ops.size)) = true → S w → RT P ops Q S t a w →
    (chkT ops false t listed = true → wpAnyH P .any ops (noPanic Q) S t.len listed a w) ∧
    (chkT ops true t listed = true → ∀ m, t.len ≤ m + 1 → ∀ j ∈ t.heads, wpOp P ops (noPanic Q) j (fun a' w' => S w' ∧ wpAnyH P .any ops (noPanic Q) S m (listed.setIfInBounds j true) a' w') a w) := by
  intro t
  induction t with
  | line l =>
    intro listed a w hl hS h
    have hl' : ∀ x ∈ l, x.2 < ops.size := fun x hx => by simpa using List.all_eq_true.1 hl x hx
    have hk : ∀ (listed : Array Bool) (a : Act) (w : World), (Region.ready .any ops listed).isEmpty = true → S w → Q .normal a w → wpAnyH P .any ops (noPanic Q) S 0 listed a w :=
      fun listed a w h1 _ h2 => wpAnyH_done (P := P) (S := S) (Q := noPanic Q) (by simpa using h1) h2 0
    refine ⟨fun hc => ?_, fun hc m hm j hj => ?_⟩
    · simp only [chkT, Bool.not_false, Bool.true_or, Bool.true_and] at hc
      have := anyH_of_K hs _ Q 0 hk l listed a w hl' hc hS h
      simpa [Tree.len] using this
    · cases l with
      | nil => simp [Tree.heads] at hj
      | cons x r =>
        obtain ⟨b, i⟩ := x
        cases b with
        | true => simp [Tree.heads] at hj
        | false =>
          simp only [Tree.heads, List.mem_singleton] at hj
          subst hj
          simp only [chkT, chkK, Bool.and_eq_true] at hc
          have hi : j < ops.size := hl' (false, j) (by simp)
          have ho : ops[j]? = some (ops.getD j default) := by simp [hi]
          have ih : ∀ a' w', S w' ∧ RA P ops Q S (r.map fun x => (x.1, ops.getD x.2 default)) a' w' → S w' ∧ wpAnyH P .any ops (noPanic Q) S m (listed.setIfInBounds j true) a' w' :=
            fun a' w' ⟨hS', h'⟩ => ⟨hS', anyH_le (by simp only [Tree.len, List.length_cons] at hm; omega) (anyH_of_K hs _ Q 0 hk r _ a' w' (fun x hx => hl' x (by simp [hx])) hc.2 hS' h')⟩
          refine wpOp_some ho ?_
          simp only [RT, List.map_cons, RA] at h
          by_cases hw : Region.wanted (ops.getD j default) (yielded ops a.tmps) = true
          · rw [if_pos hw] at h ⊢
            exact Oper.wp_mono ih h
          · rw [if_neg hw] at h ⊢
            exact ih _ _ ⟨hS, h⟩
  | fork l x y ihx ihy =>
    intro listed a w hl hS h
    simp only [Tree.all, Bool.and_eq_true] at hl
    have hl' : ∀ x ∈ l, x.2 < ops.size := fun x hx => by simpa using List.all_eq_true.1 hl.1.1 x hx
    -- what follows behind the list
    have hk : ∀ (listed : Array Bool) (a : Act) (w : World), (!(Region.ready .any ops listed).isEmpty && (Region.ready .any ops listed).all (fun j => (x.heads ++ y.heads).contains j) && chkT ops true x listed && chkT ops true y listed) = true → S w →
        (S w ∧ RT P ops Q S x a w ∧ RT P ops Q S y a w) → wpAnyH P .any ops (noPanic Q) S (max x.len y.len) listed a w := by
      intro listed a w hc _ ⟨hS, hx, hy⟩
      simp only [Bool.and_eq_true] at hc
      obtain ⟨⟨⟨h0, h1⟩, h2⟩, h3⟩ := hc
      have hpos : ∃ m, max x.len y.len = m + 1 := by
        cases hm : max x.len y.len with
        | succ m => exact ⟨m, rfl⟩
        | zero =>
          exfalso
          have : ∀ t : Tree, t.len = 0 → t.heads = [] := by
            intro t
            induction t with
            | line l => intro h; simp only [Tree.len, List.length_eq_zero_iff] at h; subst h; rfl
            | fork l x y ix iy =>
              intro h
              simp only [Tree.len] at h
              have hl0 : l = [] := List.eq_nil_of_length_eq_zero (by omega)
              subst hl0
              simp only [Tree.heads, ix (by omega), iy (by omega), List.append_nil]
          have hx0 := this x (by omega)
          have hy0 := this y (by omega)
          rw [hx0, hy0] at h1
          cases hr : Region.ready .any ops listed with
          | nil => rw [hr] at h0; simp at h0
          | cons j r => rw [hr] at h1; simp at h1
      obtain ⟨m, hm⟩ := hpos
      rw [hm]
      refine wpAnyH_all rfl (by intro he; rw [he] at h0; simp at h0) fun j hj => ?_
      have hjm := List.all_eq_true.1 h1 j hj
      simp only [List.contains_eq_mem, List.mem_append, decide_eq_true_eq] at hjm
      rcases hjm with hjm | hjm
      · exact (ihx listed a w hl.1.2 hS hx).2 h2 m (by omega) j hjm
      · exact (ihy listed a w hl.2 hS hy).2 h3 m (by omega) j hjm
    refine ⟨fun hc => ?_, fun hc m hm j hj => ?_⟩
    · have hc' : chkK ops (fun z => !(Region.ready .any ops z).isEmpty && (Region.ready .any ops z).all (fun j => (x.heads ++ y.heads).contains j) && chkT ops true x z && chkT ops true y z) false l listed = true := by
        cases l <;> simpa [chkT] using hc
      have := anyH_of_K hs _ _ (max x.len y.len) hk l listed a w hl' hc' hS h
      simpa [Tree.len, Nat.add_comm] using this
    · cases l with
      | nil =>
        simp only [Tree.heads, List.mem_append] at hj
        simp only [chkT, Bool.and_eq_true] at hc
        obtain ⟨_, hx, hy⟩ := h
        simp only [Tree.len, List.length_nil, Nat.zero_add] at hm
        rcases hj with hj | hj
        · exact (ihx listed a w hl.1.2 hS hx).2 hc.1 m (by omega) j hj
        · exact (ihy listed a w hl.2 hS hy).2 hc.2 m (by omega) j hj
      | cons z r =>
        obtain ⟨b, i⟩ := z
        cases b with
        | true => simp [Tree.heads] at hj
        | false =>
          simp only [Tree.heads, List.mem_singleton] at hj
          subst hj
          simp only [chkT, chkK] at hc
          have hi : j < ops.size := hl' (false, j) (by simp)
          have ho : ops[j]? = some (ops.getD j default) := by simp [hi]
          have ih : ∀ a' w', S w' ∧ RA P ops (fun _ a w => S w ∧ RT P ops Q S x a w ∧ RT P ops Q S y a w) S (r.map fun x => (x.1, ops.getD x.2 default)) a' w' → S w' ∧ wpAnyH P .any ops (noPanic Q) S m (listed.setIfInBounds j true) a' w' :=
            fun a' w' ⟨hS', h'⟩ => ⟨hS', anyH_le (by simp only [Tree.len, List.length_cons] at hm; omega) (anyH_of_K hs _ _ (max x.len y.len) hk r _ a' w' (fun x hx => hl' x (by simp [hx])) hc hS' h')⟩
          refine wpOp_some ho ?_
          simp only [RT, List.map_cons, RA] at h
          by_cases hw : Region.wanted (ops.getD j default) (yielded ops a.tmps) = true
          · rw [if_pos hw] at h ⊢
            exact Oper.wp_mono ih h
          · rw [if_neg hw] at h ⊢
            exact ih _ _ ⟨hS, h⟩

theorem wp_forks {id : Nat} {a : Act} {w : World} (t : Tree) (hm : P.follows .mixedOrders = true) (hs : Region.noSelect ops = true) (hlen : Nat.ble t.len ops.size = true)
    (hl : t.all (fun i => decide (i < ops.size)) = true) (hc : chkT ops false t (Array.replicate ops.size false) = true) (hS : S w.drew)
    (h : RT P ops Q S t a w.drew) : (Code.region id ops true).wp P Q a w :=
  Code.wp_mono noPanic_imp (wp_region_held (S := S) hm (anyH_le (Nat.le_of_ble_eq_true hlen) ((anyH_of_T hs t _ a _ hl hS h).1 hc)))

theorem wp_plain {id : Nat} {a : Act} {w : World} {l : List Oper} (h : RA P l.toArray Q S (l.map fun o => (false, o)) a w) : (Code.region id l.toArray false).wp P Q a w := by
  refine Code.wp_mono noPanic_imp (wp_region_lit ?_)
  have key : ∀ (l' : List Oper) (a : Act) (w : World), RA P l.toArray Q S (l'.map fun o => (false, o)) a w → wpList P l.toArray (noPanic Q) l' a w := by
    intro l'
    induction l' with
    | nil => intro a w h; exact h
    | cons o r ih =>
      intro a w h
      simp only [List.map_cons, RA] at h
      unfold wpList
      split
      · rename_i hw
        rw [if_pos hw] at h
        exact .inl (Oper.wp_mono (fun a' w' h' => ih a' w' h'.2) (wp_never h))
      · rename_i hw
        rw [if_neg hw] at h
        exact ih _ _ h
  exact key l a w h

/-- A loop with a ghost: what holds at each round's head hangs on x; each round lowers x's measure. -/
theorem wp_loop_ghost {σ : Type} {c : Code} {w : World} {a : Act} (I : σ → Act → World → Prop) (μ : σ → Nat) (x : σ) (h₀ : I x a w)
    (round : ∀ x a w, I x a w → c.wp P (Exit.then (fun a' w' => ∃ x', I x' a' w' ∧ μ x' < μ x) Q) a w) : (Code.loop c).wp P Q a w := by
  intro b k cs
  have key : ∀ n x a w, μ x = n → I x a w →
      ∃ e a' w', Q e a' w' ∧ Arrives P (lone (b.at a (.code c :: .inLoop c :: k)) cs w) b k cs e a' w' := by
    intro n
    induction n using Nat.strongRecOn with
    | _ n ih =>
      intro x a w hn hI
      obtain ⟨e, a₁, w₁, hq, harr⟩ := round x a w hI b (.inLoop c :: k) cs
      cases e with
      | normal =>
        obtain ⟨x₁, hI₁, hlt⟩ := hq
        obtain ⟨e₂, a₂, w₂, hq₂, harr₂⟩ := ih (μ x₁) (hn ▸ hlt) x₁ a₁ w₁ rfl hI₁
        exact ⟨e₂, a₂, w₂, hq₂, .of_steps (Steps.trans harr (.one step_inLoop)) harr₂⟩
      | exit id => exact ⟨_, a₁, w₁, hq, .pass (x := .inLoop c) rfl (fun _ _ => .inl (by simp)) harr⟩
      | goto l => exact ⟨_, a₁, w₁, hq, .pass (x := .inLoop c) rfl (fun _ _ => .inl (by simp)) harr⟩
      | ret => exact ⟨_, a₁, w₁, hq, .pass (x := .inLoop c) rfl (fun _ _ => .inl (by simp)) harr⟩
      | panic ch => exact ⟨_, a₁, w₁, hq, .pass (x := .inLoop c) rfl (fun _ _ => .inl (by simp)) harr⟩
      | outgrown => exact ⟨_, a₁, w₁, hq, .pass (x := .inLoop c) rfl (fun _ _ => .inl (by simp)) harr⟩
  obtain ⟨e, a', w', hq, harr⟩ := key _ x a w rfl h₀
  exact ⟨e, a', w', hq, .of_steps (.one step_loop) harr⟩
end

/-! ### Runs over a list of slots -/
section
variable (P : Program) (n : Nat) (ops : Array Oper) (Q : Exit → Act → World → Prop) (S : World → Prop)

def RL (l : List (Bool × Oper)) (E : Env) (w : World) : Prop := S w → ∀ a, At n E a → RA P ops Q S l a w

def CW (c : Code) (Q : Exit → Act → World → Prop) (E : Env) (w : World) : Prop := ∀ a, At n E a → c.wp P Q a w

/-- What an operation does that yields v and leaves w'. -/
def Run (o : Oper) (E : Env) (w : World) (v : Value) (w' : World) : Prop := ∀ a, At n E a → (execOp a.eval o).run P w = .ok (.value v) w'
end

section
variable {P : Program} {n : Nat} {ops : Array Oper} {Q : Exit → Act → World → Prop} {S : World → Prop} {rest : List (Bool × Oper)} {E : Env} {w w' : World} {o : Oper} {d : Nat} {v : Value}

theorem RL.done (h : ∀ a, At n E a → Q .normal a w) : RL P n ops Q S [] E w := fun _ a ha => h a ha

theorem RL.step (hg : wants ops E o = some true) (hd : o.dst = some d) (hb : Nat.blt d n = true) (hr : Run P n o E w v w') (hS : S w') (h : RL P n ops Q S rest ((d, v) :: E) w') :
    RL P n ops Q S ((false, o) :: rest) E w := fun _ a ha => by
  simp only [RA, ha.wants hg, if_true]
  unfold Oper.wp
  rw [hr a ha]
  simp only [Oper.upon, hd]
  exact ⟨hS, h hS _ (ha.put hb v)⟩

/-- An operation that stores: it yields nothing. -/
theorem RL.skip (hg : wants ops E o = some true) (hd : o.dst = none) (hr : ∀ a, At n E a → (execOp a.eval o).run P w = .ok .skip w') (hS : S w') (h : RL P n ops Q S rest E w') :
    RL P n ops Q S ((false, o) :: rest) E w := fun _ a ha => by
  simp only [RA, ha.wants hg, if_true]
  unfold Oper.wp
  rw [hr a ha]
  simp only [Oper.upon, hd, Act.put]
  exact ⟨hS, h hS _ ha⟩

theorem RL.take (hg : wants ops E o = some true) (hd : o.dst = some d) (hb : Nat.blt d n = true) (hr : ∀ w, S w → Run P n o E w v w) (h : RL P n ops Q S rest ((d, v) :: E) w) :
    RL P n ops Q S ((true, o) :: rest) E w := fun hS a ha =>
  ⟨v, .inl ⟨ha.wants hg, fun w' hw' => hr w' hw' a ha⟩, by rw [hd]; exact h hS _ (ha.put hb v)⟩

/-- Its guard says no. -/
theorem RL.pass {t : Bool} (hg : wants ops E o = some false) (hd : o.dst = some d) (hb : Nat.blt d n = true) (h : RL P n ops Q S rest ((d, undef) :: E) w) :
    RL P n ops Q S ((t, o) :: rest) E w := fun hS a ha => by
  cases t with
  | false => simp only [RA, ha.wants hg, Bool.false_eq_true, if_false, hd]; exact h hS _ (ha.put hb _)
  | true => exact ⟨undef, .inr ⟨ha.wants hg, rfl⟩, by rw [hd]; exact h hS _ (ha.put hb _)⟩

theorem RL.pure {t : Bool} (hg : wants ops E o = some true) (hd : o.dst = some d) (hb : Nat.blt d n = true) (hp : pv (ev E) o.op = some v) (h : RL P n ops Q S rest ((d, v) :: E) w) :
    RL P n ops Q S ((t, o) :: rest) E w := by
  cases t with
  | false => exact fun hS => RL.step hg hd hb (fun a ha => pv_run hp a ha w) hS h hS
  | true => exact RL.take hg hd hb (fun w _ a ha => pv_run hp a ha w) h

/-- A slot's truth is parted: it is written down again as 'true', as 'false'. -/
theorem RL.part {b : Bool} {l : List (Bool × Oper)} (t : Nat) (ht : look E t = some (.bool b)) (h1 : b = true → RL P n ops Q S l ((t, .bool true) :: E) w) (h0 : b = false → RL P n ops Q S l ((t, .bool false) :: E) w) :
    RL P n ops Q S l E w := fun hS a ha => by
  cases b with
  | true => exact h1 rfl hS a (ha.more ht)
  | false => exact h0 rfl hS a (ha.more ht)

/-! ### Code -/
theorem CW.plain {id : Nat} {l : List Oper} (h : RL P n l.toArray Q (fun _ => True) (l.map fun o => (false, o)) E w) : CW P n (.region id l.toArray false) Q E w :=
  fun a ha => wp_plain (S := fun _ => True) (h trivial a ha)

theorem CW.draws {id : Nat} {l : List Oper} (order : List (Bool × Nat)) (S : World → Prop) (hm : P.follows .mixedOrders = true) (hs : Region.noSelect l.toArray = true) (hlen : order.length = l.toArray.size)
    (hl : (order.all fun x => decide (x.2 < l.toArray.size)) = true) (hc : chk l.toArray order (Array.replicate l.toArray.size false) = true) (hS : S w.drew)
    (h : RL P n l.toArray Q S (order.map fun x => (x.1, l.toArray.getD x.2 default)) E w.drew) : CW P n (.region id l.toArray true) Q E w :=
  fun a ha => wp_draws order hm hs hlen hl hc hS (h hS a ha)

theorem CW.forks {id : Nat} {l : List Oper} (t : Tree) (S : World → Prop) (hm : P.follows .mixedOrders = true) (hs : Region.noSelect l.toArray = true) (hlen : Nat.ble t.len l.toArray.size = true)
    (hl : (t.all fun i => decide (i < l.toArray.size)) = true) (hc : chkT l.toArray false t (Array.replicate l.toArray.size false) = true) (hS : S w.drew)
    (h : ∀ a, At n E a → RT P l.toArray Q S t a w.drew) : CW P n (.region id l.toArray true) Q E w :=
  fun a ha => wp_forks t hm hs hlen hl hc hS (h a ha)
/-- Those ahead of a fork. -/
theorem RT.pre {l : List (Bool × Nat)} {x y : Tree} (hS : S w) (h : RL P n ops (fun _ a w => S w ∧ RT P ops Q S x a w ∧ RT P ops Q S y a w) S (l.map fun z => (z.1, ops.getD z.2 default)) E w) : ∀ a, At n E a → RT P ops Q S (.fork l x y) a w :=
  fun a ha => h hS a ha
theorem RT.end_ {l : List (Bool × Nat)} (hS : S w) (h : RL P n ops Q S (l.map fun z => (z.1, ops.getD z.2 default)) E w) : ∀ a, At n E a → RT P ops Q S (.line l) a w := fun a ha => h hS a ha
/-- The fork itself. -/
theorem RT.both {x y : Tree} (hS : S w) (hx : ∀ a, At n E a → RT P ops Q S x a w) (hy : ∀ a, At n E a → RT P ops Q S y a w) : ∀ a, At n E a → S w ∧ RT P ops Q S x a w ∧ RT P ops Q S y a w :=
  fun a ha => ⟨hS, hx a ha, hy a ha⟩

theorem CW.seq {x y : Code} (h : CW P n x (Exit.then (fun a w => y.wp P Q a w) Q) E w) : CW P n (.seq x y) Q E w := fun a ha => wp_seq (h a ha)
theorem CW.block {id : Nat} {c : Code} (h : CW P n c (Exit.inBlock id Q) E w) : CW P n (.block id c) Q E w := fun a ha => wp_block (h a ha)
theorem CW.skip (h : ∀ a, At n E a → Q .normal a w) : CW P n .skip Q E w := fun a ha => wp_skip (h a ha)
theorem CW.exit {id : Nat} (h : ∀ a, At n E a → Q (.exit id) a w) : CW P n (.exit id) Q E w := fun a ha => wp_exit (h a ha)
theorem CW.ret (h : ∀ a, At n E a → Q .ret a w) : CW P n .ret Q E w := fun a ha => wp_ret (h a ha)
theorem CW.cond {c : Operand} {x y : Code} {b : Bool} (hc : ev E c = some (.bool b)) (ht : b = true → CW P n x Q E w) (hf : b = false → CW P n y Q E w) : CW P n (.cond c x y) Q E w :=
  fun a ha => wp_cond_split (ha.ev hc) (fun hb => ht hb a ha) (fun hb => hf hb a ha)
theorem CW.yes {c : Operand} {x y : Code} (hc : ev E c = some (.bool true)) (h : CW P n x Q E w) : CW P n (.cond c x y) Q E w := fun a ha => wp_cond_true (ha.ev hc) (h a ha)
theorem CW.no {c : Operand} {x y : Code} (hc : ev E c = some (.bool false)) (h : CW P n y Q E w) : CW P n (.cond c x y) Q E w := fun a ha => wp_cond_false (ha.ev hc) (h a ha)
/-- A test over a proposition. -/
theorem CW.test {c : Operand} {x y : Code} {p : Prop} [Decidable p] (hc : ev E c = some (.bool (decide p))) (ht : p → CW P n x Q E w) (hf : ¬ p → CW P n y Q E w) : CW P n (.cond c x y) Q E w :=
  CW.cond hc (fun h => ht (of_decide_eq_true h)) (fun h => hf (of_decide_eq_false h))
theorem CW.eq {c : Operand} {x y : Code} {i j : Int} (hc : ev E c = some (.bool (i == j))) (ht : i = j → CW P n x Q E w) (hf : i ≠ j → CW P n y Q E w) : CW P n (.cond c x y) Q E w :=
  CW.cond hc (fun h => ht (by simpa using h)) (fun h => hf (by simpa using h))
theorem CW.ne {c : Operand} {x y : Code} {i j : Int} (hc : ev E c = some (.bool (i != j))) (ht : i ≠ j → CW P n x Q E w) (hf : i = j → CW P n y Q E w) : CW P n (.cond c x y) Q E w :=
  CW.cond hc (fun h => ht (by simpa using h)) (fun h => hf (by simpa using h))
/-- Fewer slots. -/
theorem CW.less {c : Code} (E' : Env) (hs : Sub E' E) (h : CW P n c Q E' w) : CW P n c Q E w := fun a ha => h a (ha.sub hs)
/-- The ways through x meet again: what they have in common is J. -/
theorem CW.meet {x y : Code} (J : Env → World → Prop) (hx : CW P n x (Exit.then (fun a w' => ∃ E', At n E' a ∧ J E' w') Q) E w) (hy : ∀ E' w', J E' w' → CW P n y Q E' w') : CW P n (.seq x y) Q E w :=
  fun a ha => wp_seq (wp_mono (hx a ha) fun e a' w' h => by
    cases e <;> first | exact h | (obtain ⟨E', h1, h2⟩ := h; exact hy E' w' h2 a' h1))
/-- The end of one way: it comes to what the ways have in common. -/
theorem comes {a : Act} {J : Env → World → Prop} (E' : Env) (hs : Sub E' E) (hJ : J E' w) (ha : At n E a) : ∃ E'', At n E'' a ∧ J E'' w := ⟨E', ha.sub hs, hJ⟩

theorem CW.loop {σ : Type} {c : Code} (J : σ → Env → World → Prop) (μ : σ → Nat) (x0 : σ) (E0 : Env) (hsub : Sub E0 E) (h0 : J x0 E0 w)
    (round : ∀ x E w, J x E w → CW P n c (Exit.then (fun a' w' => ∃ x' E', At n E' a' ∧ J x' E' w' ∧ μ x' < μ x) Q) E w) : CW P n (.loop c) Q E w := fun a ha => by
  refine wp_loop_ghost (fun x a w => ∃ E, At n E a ∧ J x E w) μ x0 ⟨E0, ha.sub hsub, h0⟩ ?_
  rintro x a w ⟨E, hE, hJ⟩
  exact wp_mono (round x E w hJ a hE) fun e a' w' h => by
    cases e <;> first | exact h | (obtain ⟨x', E', h1, h2, h3⟩ := h; exact ⟨x', ⟨E', h1, h2⟩, h3⟩)
/-- The end of a round. -/
theorem again {σ : Type} {a : Act} {J : σ → Env → World → Prop} {μ : σ → Nat} {x : σ} (x' : σ) (E' : Env) (hs : Sub E' E) (hJ : J x' E' w) (hμ : μ x' < μ x) (ha : At n E a) :
    ∃ x' E', At n E' a ∧ J x' E' w ∧ μ x' < μ x := ⟨x', E', ha.sub hs, hJ, hμ⟩
end

end Go.Lw

/-
  THE WALK ENGINE, part 2: memory as pieces: one piece that is shared and never written, a list of pieces that are owned, each apart from the others; what calls may do to them.
-/
namespace Go.Lw
open Go.RowKit

abbrev Res := Nat → Option Obj

def Res.nil : Res := fun _ => none
def Res.one (b : Nat) (x : Obj) : Res := fun k => if k = b then some x else none
def Res.put (r : Res) (b : Nat) (x : Obj) : Res := fun k => if k = b then some x else r k
def Res.join (r q : Res) : Res := fun k => match r k with | some x => some x | none => q k
def Apart (r q : Res) : Prop := ∀ b, r b ≠ none → q b = none
def In (r : Res) (w : World) : Prop := ∀ b x, r b = some x → w.heap[b]? = some x
def Le (s s' : Res) : Prop := ∀ b x, s b = some x → s' b = some x

theorem Le.refl (s : Res) : Le s s := fun _ _ h => h
theorem Le.trans {a b c : Res} (h : Le a b) (k : Le b c) : Le a c := fun i x hx => k i x (h i x hx)
theorem In.le {r q : Res} {w : World} (h : In q w) (hl : Le r q) : In r w := fun b x hx => h b x (hl b x hx)
theorem In.lt {r : Res} {w : World} (h : In r w) {b : Nat} (hb : r b ≠ none) : b < w.heap.size := by
  cases hx : r b with
  | none => exact absurd hx hb
  | some x => exact (Array.getElem?_eq_some_iff.1 (h b x hx)).1
theorem Apart.symm {r q : Res} (h : Apart r q) : Apart q r := fun b hb => by
  cases hr : r b with
  | none => rfl
  | some x => exact absurd (h b (by rw [hr]; simp)) hb
theorem Apart.nil (q : Res) : Apart Res.nil q := fun _ h => absurd rfl h
theorem Apart.le {r r' q : Res} (h : Apart r q) (hl : Le r' r) : Apart r' q := fun b hb => h b (by
  cases hx : r' b with
  | none => exact absurd hx hb
  | some x => rw [hl b x hx]; simp)
theorem Apart.join {r r' q : Res} (h : Apart r q) (h' : Apart r' q) : Apart (r.join r') q := fun b hb => by
  cases hx : r b with
  | some x => exact h b (by rw [hx]; simp)
  | none => exact h' b (by simpa [Res.join, hx] using hb)
theorem Apart.put {r q : Res} (h : Apart r q) {b : Nat} (hb : r b ≠ none) (x : Obj) : Apart (r.put b x) q := fun k hk => by
  by_cases hkb : k = b
  · subst hkb; exact h k hb
  · exact h k (by simpa [Res.put, hkb] using hk)
theorem Res.le_join_left (r q : Res) : Le r (r.join q) := fun b x hx => by simp [Res.join, hx]
theorem Res.le_join_right {r q : Res} (h : Apart r q) : Le q (r.join q) := fun b x hx => by
  have : r b = none := h.symm b (by rw [hx]; simp)
  simp [Res.join, this, hx]

/-- The memory: s is shared, the pieces of os are owned; all apart. -/
def Good (w : World) (s : Res) : List Res → Prop
  | [] => In s w
  | r :: os => In r w ∧ Apart r s ∧ (∀ q ∈ os, Apart r q) ∧ Good w s os

section
variable {w w' : World} {s s' : Res} {r q : Res} {os os' : List Res}

theorem Good.sh (h : Good w s os) : In s w := by
  induction os with
  | nil => exact h
  | cons r os ih => exact ih h.2.2.2
theorem Good.mem (h : Good w s os) (hr : r ∈ os) : In r w := by
  induction os with
  | nil => cases hr
  | cons q os ih =>
    rcases List.mem_cons.1 hr with rfl | hr
    · exact h.1
    · exact ih h.2.2.2 hr
theorem Good.far (h : Good w s os) (hr : r ∈ os) : Apart r s := by
  induction os with
  | nil => cases hr
  | cons q os ih =>
    rcases List.mem_cons.1 hr with rfl | hr
    · exact h.2.1
    · exact ih h.2.2.2 hr
theorem Good.perm (hp : os.Perm os') (h : Good w s os) : Good w s os' := by
  induction hp with
  | nil => exact h
  | cons x hp ih => exact ⟨h.1, h.2.1, fun q hq => h.2.2.1 q (hp.symm.subset hq), ih h.2.2.2⟩
  | swap x y l =>
    obtain ⟨h1, h2, h3, h4, h5, h6, h7⟩ := h
    exact ⟨h4, h5, fun q hq => by
      rcases List.mem_cons.1 hq with rfl | hq
      · exact (h3 _ (by simp)).symm
      · exact h6 q hq, h1, h2, fun q hq => h3 q (by simp [hq]), h7⟩
  | trans _ _ ih1 ih2 => exact ih2 (ih1 h)
theorem perm_pick : ∀ (i : Nat) (os : List Res) (r : Res), os[i]? = some r → os.Perm (r :: os.eraseIdx i)
  | _, [], _, h => by simp at h
  | 0, x :: os, r, h => by simp at h; subst h; exact List.Perm.refl _
  | i + 1, x :: os, r, h => by
    have h' : os[i]? = some r := by simpa using h
    exact ((perm_pick i os r h').cons x).trans (List.Perm.swap r x _)
theorem perm_back : ∀ (i : Nat) (os : List Res) (r r' : Res), os[i]? = some r → (r' :: os.eraseIdx i).Perm (os.set i r')
  | _, [], _, _, h => by simp at h
  | 0, x :: os, r, r', h => by simp
  | i + 1, x :: os, r, r', h => by
    have h' : os[i]? = some r := by simpa using h
    exact (List.Perm.swap x r' _).trans ((perm_back i os r r' h').cons x)
/-- Number i comes to the front. -/
theorem Good.front (h : Good w s os) (i : Nat) (hi : os[i]? = some r) : Good w s (r :: os.eraseIdx i) := h.perm (perm_pick i os r hi)
theorem Good.back {r' : Res} (i : Nat) (hi : os[i]? = some r) (h : Good w s (r' :: os.eraseIdx i)) : Good w s (os.set i r') := h.perm (perm_back i os r r' hi)
theorem Good.drop (h : Good w s (r :: os)) : Good w s os := h.2.2.2
theorem Good.nil (h : Good w s os) : Good w s (Res.nil :: os) := ⟨(fun _ _ h => nomatch h), Apart.nil _, (fun _ _ => Apart.nil _), h⟩
/-- It hangs on the blocks alone. -/
theorem Good.keep (h : Good w s os) (hk : ∀ b, b < w.heap.size → w'.heap[b]? = w.heap[b]?) : Good w' s os := by
  have hin : ∀ q, In q w → In q w' := fun q hq b x hx => (hk b (hq.lt (by rw [hx]; simp))).trans (hq b x hx)
  induction os with
  | nil => exact hin s h
  | cons r os ih => exact ⟨hin r h.1, h.2.1, h.2.2.1, ih h.2.2.2⟩
theorem Good.drew (h : Good w s os) : Good w.drew s os := h.keep fun _ _ => rfl
theorem Good.same (h : Good w s os) (he : w'.heap = w.heap) : Good w' s os := h.keep fun _ _ => by rw [he]
theorem Good.lt_s (h : Good w s os) {b : Nat} {x : Obj} (hb : s b = some x) : b < w.heap.size := h.sh.lt (by rw [hb]; simp)
/-- A new block. -/
theorem Good.alloc (h : Good w s os) (x : Obj) : Good (w.alloc x) s (Res.one w.heap.size x :: os) := by
  have hfar : ∀ q, In q w → Apart (Res.one w.heap.size x) q := fun q hq b hb => by
    by_cases hbw : b = w.heap.size
    · subst hbw
      cases hqb : q w.heap.size with
      | none => rfl
      | some y => exact absurd (hq.lt (by rw [hqb]; simp)) (Nat.lt_irrefl _)
    · exact absurd (by simp [Res.one, hbw]) hb
  refine ⟨fun b y hy => ?_, hfar s h.sh, fun q hq => hfar q (h.mem hq), h.keep fun b hb => Below.heap_alloc w x b hb⟩
  by_cases hbw : b = w.heap.size
  · subst hbw
    simp only [Res.one, if_true] at hy
    cases hy
    exact heap_alloc_new w x
  · simp [Res.one, hbw] at hy
/-- An owned block is written. -/
theorem Good.write (h : Good w s (r :: os)) {b : Nat} {x y : Obj} (hb : r b = some x) (hy : w'.heap[b]? = some y) (hk : ∀ k, k < w.heap.size → k ≠ b → w'.heap[k]? = w.heap[k]?) : Good w' s (r.put b y :: os) := by
  obtain ⟨h1, h2, h3, h4⟩ := h
  have hne : r b ≠ none := by rw [hb]; simp
  have hin : ∀ q, In q w → q b = none → In q w' := fun q hq hqb k z hz => by
    have hkb : k ≠ b := fun e => by subst e; rw [hqb] at hz; cases hz
    exact (hk k (hq.lt (by rw [hz]; simp)) hkb).trans (hq k z hz)
  refine ⟨fun k z hz => ?_, h2.put hne y, fun q hq => (h3 q hq).put hne y, ?_⟩
  · by_cases hkb : k = b
    · subst hkb
      simp only [Res.put, if_true] at hz
      cases hz
      exact hy
    · simp only [Res.put, hkb, if_false] at hz
      exact (hk k (h1.lt (by rw [hz]; simp)) hkb).trans (h1 k z hz)
  · clear h1
    induction os with
    | nil => exact hin s h4 (h2 b hne)
    | cons q os ih => exact ⟨hin q h4.1 (h3 q (by simp) b hne), h4.2.1, h4.2.2.1, ih (fun p hp => h3 p (by simp [hp])) h4.2.2.2⟩
/-- What is owned is shared from now on. -/
theorem Good.share (h : Good w s (r :: os)) : Good w (s.join r) os := by
  obtain ⟨h1, h2, h3, h4⟩ := h
  induction os with
  | nil =>
    intro b x hx
    cases hs : s b with
    | some y => simp only [Res.join, hs] at hx; exact hx ▸ h4 b y hs
    | none => simp only [Res.join, hs] at hx; exact h1 b x hx
  | cons q os ih =>
    refine ⟨h4.1, (Apart.join h4.2.1.symm (h3 q (by simp))).symm, h4.2.2.1, ih (fun p hp => h3 p (by simp [hp])) h4.2.2.2⟩
/-- Two pieces become one. -/
theorem Good.join (h : Good w s (r :: q :: os)) : Good w s (r.join q :: os) := by
  obtain ⟨h1, h2, h3, h4, h5, h6, h7⟩ := h
  refine ⟨fun b x hx => ?_, Apart.join h2 h5, fun p hp => Apart.join (h3 p (by simp [hp])) (h6 p hp), h7⟩
  cases hr : r b with
  | some y => simp only [Res.join, hr] at hx; exact hx ▸ h1 b y hr
  | none => simp only [Res.join, hr] at hx; exact h4 b x hx
/-- What was lent as shared comes back. -/
theorem Good.unshare (h : Good w s os) (hl : Le r s) : Good w (fun b => match r b with | some _ => none | none => s b) (r :: os) := by
  refine ⟨h.sh.le hl, fun b hb => ?_, fun q hq => fun b hb => ?_, ?_⟩
  · cases hr : r b with
    | none => exact absurd hr hb
    | some x => simp only [hr]
  · cases hr : r b with
    | none => exact absurd hr hb
    | some x =>
      have := (h.far hq).symm b (by rw [hl b x hr]; simp)
      exact this
  · have hle : Le (fun b => match r b with | some _ => none | none => s b) s := fun b x hx => by
      cases hr : r b with
      | none => simpa [hr] using hx
      | some y => simp [hr] at hx
    clear hl
    induction os with
    | nil => exact In.le h hle
    | cons q os ih => exact ⟨h.1, (h.2.1.symm.le hle).symm, h.2.2.1, ih h.2.2.2⟩
end

/-- What a call leaves of the rest. -/
structure Aux (w w' : World) : Prop where
  os : w'.os = w.os
  tape : w'.tape = w.tape
  output : w'.output = w.output
  size : w.heap.size ≤ w'.heap.size
theorem Aux.refl (w : World) : Aux w w := ⟨rfl, rfl, rfl, Nat.le_refl _⟩
theorem Aux.trans {a b c : World} (h : Aux a b) (k : Aux b c) : Aux a c := ⟨k.os.trans h.os, k.tape.trans h.tape, k.output.trans h.output, Nat.le_trans h.size k.size⟩
theorem Aux.drew (w : World) : Aux w w.drew := ⟨rfl, rfl, rfl, Nat.le_refl _⟩
theorem Aux.alloc (w : World) (x : Obj) : Aux w (w.alloc x) := ⟨rfl, rfl, rfl, by simp⟩
theorem Aux.grown {w w' : World} {row : Option Nat} (h : w.grownBy w' row) : Aux w w' := ⟨h.os, h.tape, h.output, h.size⟩

/-- How a call ends: a value; more is shared; a piece of its own (or the one that it was handed, as it is now) ahead of the pieces that were not its. -/
def Post (w : World) (s : Res) (os : List Res) (Φ : Res → Res → Value → Prop) : Ending → World → Prop := fun e w' =>
  ∃ v s' A, e = .returned v ∧ Le s s' ∧ Good w' s' (A :: os) ∧ Aux w w' ∧ Φ s' A v

theorem Post.mk {w w' : World} {s s' A : Res} {os : List Res} {Φ : Res → Res → Value → Prop} {v : Value} (hl : Le s s') (hg : Good w' s' (A :: os)) (ha : Aux w w') (h : Φ s' A v) : Post w s os Φ (.returned v) w' :=
  ⟨v, s', A, rfl, hl, hg, ha, h⟩

/-! ### Cells in a piece -/

/-- At this address the piece holds these values. -/
def Holds (r : Res) (ad : Addr) (vs : List Value) : Prop :=
  ∃ cs el fr, r ad.block = some (.cells cs el fr) ∧ ad.spot = none ∧ ∀ j u, vs[j]? = some u → cs[ad.off + j]? = some u

theorem add_block (a : Addr) (n : Nat) : (a.add n).block = a.block := by unfold Addr.add; split <;> rfl
theorem add_off (a : Addr) (n : Nat) : (a.add n).off = a.off + n := by unfold Addr.add; split <;> simp_all
theorem add_spot {a : Addr} (h : a.spot = none) (n : Nat) : (a.add n).spot = none := by unfold Addr.add; split <;> simp_all
theorem add_add (a : Addr) (i j : Nat) : (a.add i).add j = a.add (i + j) := by
  unfold Addr.add
  by_cases hi : i = 0 <;> by_cases hj : j = 0 <;> simp [hi, hj, Nat.add_assoc]

section
variable {r r' : Res} {w : World} {ad : Addr} {vs us : List Value}
theorem Holds.le (h : Holds r ad vs) (hl : Le r r') : Holds r' ad vs :=
  let ⟨cs, el, fr, h1, h2, h3⟩ := h
  ⟨cs, el, fr, hl _ _ h1, h2, h3⟩
theorem Holds.cell (h : Holds r ad vs) (hin : In r w) {j : Nat} {u : Value} (hj : vs[j]? = some u) : w.cell? (ad.add j) = some u := by
  obtain ⟨cs, el, fr, h1, h2, h3⟩ := h
  simp [World.cell?, add_block, hin _ _ h1, add_spot h2, add_off, h3 j u hj]
theorem Holds.part (h : Holds r ad vs) (k : Nat) (hu : ∀ j u, us[j]? = some u → vs[k + j]? = some u) : Holds r (ad.add k) us := by
  obtain ⟨cs, el, fr, h1, h2, h3⟩ := h
  exact ⟨cs, el, fr, by rw [add_block]; exact h1, add_spot h2 k, fun j u hj => by rw [add_off, Nat.add_assoc]; exact h3 _ u (hu j u hj)⟩
theorem Holds.one (b : Nat) (cs : Array Value) (el : TypeId) : Holds (Res.one b (.cells cs el)) ⟨b, 0, none⟩ cs.toList :=
  ⟨cs, el, (0, 0), by simp [Res.one], rfl, fun j u hj => by simpa using hj⟩
end

/-! ### Slices -/
/-- A reading that stays when more is shared. -/
def Up {α : Type} (R : Res → List Value → α → Prop) : Prop := ∀ s s' vs x, Le s s' → R s vs x → R s' vs x
/-- A reading of cells none of which is a tuple or a struct. -/
def One {α : Type} (R : Res → List Value → α → Prop) : Prop := ∀ s vs x, R s vs x → ∀ v ∈ vs, v.oneCell' = true

section
variable {α : Type} (R : Res → List Value → α → Prop) (sz : Nat)

/-- These cells read as these elements, sz cells each. -/
def Chunks (s : Res) : List Value → List α → Prop
  | cs, [] => cs = []
  | cs, x :: xs => ∃ vs rest, cs = vs ++ rest ∧ vs.length = sz ∧ R s vs x ∧ Chunks s rest xs

/-- The elements lie there in the piece r, what they lead to in s. -/
def Row (r s : Res) (ad : Addr) (xs : List α) : Prop := ∃ cs, Holds r ad cs ∧ Chunks R sz s cs xs

/-- A slice that nobody writes: '.slice a xs.length c'. -/
def Imm (s : Res) (a : Option Addr) (c : Nat) (xs : List α) : Prop := xs.length ≤ c ∧ c ≤ maxLen ∧ (xs = [] ∨ ∃ ad, a = some ad ∧ Row R sz s s ad xs)

/-- A slice whose array is this piece's own. -/
def Own (el : TypeId) (s A : Res) (a : Option Addr) (c : Nat) (xs : List α) : Prop :=
  (a = none ∧ c = 0 ∧ xs = []) ∨
  ∃ g cs, a = some ⟨g, 0, none⟩ ∧ A g = some (.cells cs el (0, 0)) ∧ xs.length ≤ c ∧ c ≤ maxLen ∧ cs.size = c * sz ∧ Chunks R sz s (cs.toList.take (xs.length * sz)) xs
end

section
variable {α : Type} {R : Res → List Value → α → Prop} {sz : Nat} {r s s' A A' : Res} {ad : Addr} {a : Option Addr} {c : Nat} {xs ys : List α} {el : TypeId} {cs ds : List Value}

theorem Chunks.length (h : Chunks R sz s cs xs) : cs.length = xs.length * sz := by
  induction xs generalizing cs with
  | nil => rw [show cs = [] from h]; simp
  | cons x xs ih =>
    obtain ⟨vs, rest, rfl, hl, _, hr⟩ := h
    simp [hl, ih hr, Nat.add_mul, Nat.add_comm]
theorem Chunks.up (hR : Up R) (h : Chunks R sz s cs xs) (hl : Le s s') : Chunks R sz s' cs xs := by
  induction xs generalizing cs with
  | nil => exact h
  | cons x xs ih =>
    obtain ⟨vs, rest, e, hv, hx, hr⟩ := h
    exact ⟨vs, rest, e, hv, hR _ _ _ _ hl hx, ih hr⟩
theorem Chunks.append (h : Chunks R sz s cs xs) (k : Chunks R sz s ds ys) : Chunks R sz s (cs ++ ds) (xs ++ ys) := by
  induction xs generalizing cs with
  | nil => rw [show cs = [] from h]; exact k
  | cons x xs ih =>
    obtain ⟨vs, rest, rfl, hv, hx, hr⟩ := h
    exact ⟨vs, rest ++ ds, by simp, hv, hx, ih hr⟩
theorem Chunks.part (h : Chunks R sz s cs (xs ++ ys)) : Chunks R sz s (cs.take (xs.length * sz)) xs ∧ Chunks R sz s (cs.drop (xs.length * sz)) ys := by
  induction xs generalizing cs with
  | nil => simpa [Chunks] using h
  | cons x xs ih =>
    obtain ⟨vs, rest, rfl, hv, hx, hr⟩ := h
    obtain ⟨h1, h2⟩ := ih hr
    have e : (x :: xs).length * sz = vs.length + xs.length * sz := by rw [List.length_cons, Nat.add_mul, hv]; omega
    rw [e, List.take_length_add_append, List.drop_length_add_append]
    exact ⟨⟨vs, _, rfl, hv, hx, h1⟩, h2⟩
theorem Chunks.get (h : Chunks R sz s cs xs) {i : Nat} {x : α} (hi : xs[i]? = some x) : ∃ vs, vs.length = sz ∧ (∀ (j : Nat) u, vs[j]? = some u → cs[i * sz + j]? = some u) ∧ R s vs x := by
  induction xs generalizing cs i with
  | nil => simp at hi
  | cons y xs ih =>
    obtain ⟨vs, rest, rfl, hv, hx, hr⟩ := h
    cases i with
    | zero =>
      simp only [List.getElem?_cons_zero, Option.some.injEq] at hi
      subst hi
      exact ⟨vs, hv, fun j u hu => by
        have hj := (List.getElem?_eq_some_iff.1 hu).1
        rw [Nat.zero_mul, Nat.zero_add, List.getElem?_append_left hj]; exact hu, hx⟩
    | succ i =>
      obtain ⟨us, h1, h2, h3⟩ := ih hr (by simpa using hi)
      refine ⟨us, h1, fun j u hu => ?_, h3⟩
      rw [List.getElem?_append_right (by rw [hv, Nat.add_mul]; omega)]
      rw [← h2 j u hu]
      congr 1
      rw [hv, Nat.add_mul]; omega
theorem Chunks.one (hR : One R) (h : Chunks R sz s cs xs) : ∀ v ∈ cs, v.oneCell' = true := by
  induction xs generalizing cs with
  | nil => rw [show cs = [] from h]; simp
  | cons x xs ih =>
    obtain ⟨vs, rest, rfl, hv, hx, hr⟩ := h
    intro v hm
    rcases List.mem_append.1 hm with hm | hm
    · exact hR _ _ _ hx v hm
    · exact ih hr v hm
theorem Chunks.single {vs : List Value} {x : α} (hv : vs.length = sz) (hx : R s vs x) : Chunks R sz s vs [x] := ⟨vs, [], by simp, hv, hx, rfl⟩
theorem Chunks.set {vs : List Value} {x : α} (h : Chunks R sz s cs xs) {i : Nat} (hi : i < xs.length) (hv : vs.length = sz) (hx : R s vs x) :
    Chunks R sz s (cs.take (i * sz) ++ vs ++ cs.drop (i * sz + sz)) (xs.set i x) := by
  have e : xs = xs.take i ++ (xs[i] :: xs.drop (i + 1)) := by simp
  rw [e] at h
  obtain ⟨h1, h2⟩ := h.part
  obtain ⟨us, rest, h3, hu, _, hr⟩ := h2
  have hli : (xs.take i).length = i := by simp; omega
  rw [hli] at h1 h3
  have hrest : rest = cs.drop (i * sz + sz) := by
    rw [← List.drop_drop, h3, ← hu, List.drop_left]
  rw [← hrest, List.set_eq_take_append_cons_drop, if_pos hi, List.append_assoc]
  exact h1.append ⟨vs, rest, rfl, hv, hx, hr⟩

theorem Row.le (hR : Up R) (h : Row R sz r s ad xs) (hl : Le s s') : Row R sz r s' ad xs :=
  let ⟨cs, h1, h2⟩ := h
  ⟨cs, h1, h2.up hR hl⟩
theorem Row.mem {r' : Res} (h : Row R sz r s ad xs) (hl : Le r r') : Row R sz r' s ad xs :=
  let ⟨cs, h1, h2⟩ := h
  ⟨cs, h1.le hl, h2⟩
theorem Row.get (h : Row R sz r s ad xs) {i : Nat} {x : α} (hi : xs[i]? = some x) : ∃ vs, vs.length = sz ∧ Holds r (ad.add (i * sz)) vs ∧ R s vs x := by
  obtain ⟨cs, h1, h2⟩ := h
  obtain ⟨vs, h3, h4, h5⟩ := h2.get hi
  exact ⟨vs, h3, h1.part _ h4, h5⟩
theorem Row.drop (h : Row R sz r s ad (xs ++ ys)) : Row R sz r s (ad.add (xs.length * sz)) ys := by
  obtain ⟨cs, h1, h2⟩ := h
  refine ⟨_, h1.part _ (fun j u hu => ?_), h2.part.2⟩
  rwa [List.getElem?_drop] at hu
theorem Row.take (h : Row R sz r s ad (xs ++ ys)) : Row R sz r s ad xs := by
  obtain ⟨cs, h1, h2⟩ := h
  have h3 : Holds r (ad.add 0) (cs.take (xs.length * sz)) := h1.part 0 (fun j u hu => by
    rw [List.getElem?_take] at hu
    split at hu
    · rwa [Nat.zero_add]
    · cases hu)
  exact ⟨_, by simpa [Addr.add] using h3, h2.part.1⟩
theorem Imm.up (hR : Up R) (h : Imm R sz s a c xs) (hl : Le s s') : Imm R sz s' a c xs :=
  ⟨h.1, h.2.1, h.2.2.imp id fun ⟨ad, e, hr⟩ => ⟨ad, e, (hr.le hR hl).mem hl⟩⟩
theorem Imm.nil (s : Res) (a : Option Addr) (c : Nat) (hc : c ≤ maxLen) : Imm R sz s a c [] := ⟨by simp, hc, .inl rfl⟩
theorem Imm.le_max (h : Imm R sz s a c xs) : xs.length ≤ maxLen := Nat.le_trans h.1 h.2.1
theorem Own.le_max (h : Own R sz el s A a c xs) : xs.length ≤ maxLen := by
  rcases h with ⟨rfl, rfl, rfl⟩ | ⟨g, cs, rfl, hg, hl, hc, hcs, hr⟩
  · simp
  · exact Nat.le_trans hl hc
theorem Own.up (hR : Up R) (h : Own R sz el s A a c xs) (hl : Le s s') : Own R sz el s' A a c xs :=
  h.imp id fun ⟨g, cs, h1, h2, h3, h4, h5, h6⟩ => ⟨g, cs, h1, h2, h3, h4, h5, h6.up hR hl⟩
theorem Own.mem (h : Own R sz el s A a c xs) (hl : Le A A') : Own R sz el s A' a c xs :=
  h.imp id fun ⟨g, cs, h1, h2, h3, h4, h5, h6⟩ => ⟨g, cs, h1, hl _ _ h2, h3, h4, h5, h6⟩
theorem Own.nil (R : Res → List Value → α → Prop) (sz : Nat) (el : TypeId) (s A : Res) : Own R sz el s A none 0 [] := .inl ⟨rfl, rfl, rfl⟩
theorem Own.row (h : Own R sz el s A a c xs) : xs = [] ∨ ∃ ad, a = some ad ∧ Row R sz A s ad xs := by
  rcases h with ⟨rfl, rfl, rfl⟩ | ⟨g, cs, rfl, hg, hl, hc, hcs, hr⟩
  · exact .inl rfl
  · refine .inr ⟨_, rfl, _, ⟨cs, el, (0, 0), hg, rfl, fun j u hu => ?_⟩, hr⟩
    rw [List.getElem?_take] at hu
    split at hu
    · simpa using hu
    · cases hu
/-- Its array is no block of another element type. -/
theorem Own.far (h : Own R sz el s A a c xs) {p : Nat} {ps : Array Value} {el' : TypeId} {fr : Nat × Nat} (hp : A p = some (.cells ps el' fr)) (hne : el ≠ el') : ∀ ad, a = some ad → ad.block ≠ p := by
  rintro ad rfl rfl
  rcases h with ⟨h, _⟩ | ⟨g, cs, h, hg, _⟩
  · cases h
  · cases h
    rw [hg] at hp
    injection hp with hp
    injection hp with _ h2
    exact hne h2
theorem Own.put (h : Own R sz el s A a c xs) {p : Nat} (hp : ∀ ad, a = some ad → ad.block ≠ p) (x : Obj) : Own R sz el s (A.put p x) a c xs := by
  rcases h with h | ⟨g, cs, rfl, hg, h⟩
  · exact .inl h
  · have : g ≠ p := hp _ rfl
    exact .inr ⟨g, cs, rfl, by simp [Res.put, this, hg], h⟩
theorem put_other (r : Res) {b k : Nat} (x : Obj) (h : k ≠ b) : r.put b x k = r k := by simp [Res.put, h]

/-- It is let go: shared from now on. -/
theorem Own.imm (hR : Up R) (h : Own R sz el s A a c xs) (h1 : Le s s') (h2 : Le A s') : Imm R sz s' a c xs := by
  have hrow := h.row
  rcases h with ⟨rfl, rfl, rfl⟩ | ⟨g, cs, rfl, hg, hl, hc, hcs, hr⟩
  · exact Imm.nil s' none 0 (Nat.zero_le _)
  · exact ⟨hl, hc, hrow.imp id fun ⟨ad, e, hx⟩ => ⟨ad, e, (hx.le hR h1).mem h2⟩⟩
end

/-! ### Readings of one cell -/
/-- The range of a kind, in numerals. -/
def rng : IntKind → Int → Prop
  | .i8, n => -128 ≤ n ∧ n < 128
  | .i16, n => -32768 ≤ n ∧ n < 32768
  | .i32, n => -2147483648 ≤ n ∧ n < 2147483648
  | .i64, n => -9223372036854775808 ≤ n ∧ n < 9223372036854775808
  | .u8, n => 0 ≤ n ∧ n < 256
  | .u16, n => 0 ≤ n ∧ n < 65536
  | .u32, n => 0 ≤ n ∧ n < 4294967296
  | .u64, n => 0 ≤ n ∧ n < 18446744073709551616

theorem rng.wrap {k : IntKind} {n : Int} (h : rng k n) : k.wrap n = n := by
  cases k <;> simp only [rng] at h
  · exact IntWalk.i8_in n (by omega)
  · exact IntWalk.i16_in n (by omega)
  · exact IntWalk.i32_in n (by omega)
  · exact IntWalk.i64_in n (by omega)
  · exact IntWalk.u8_in n (by omega)
  · exact IntWalk.u16_in n (by omega)
  · exact IntWalk.u32_in n (by omega)
  · exact IntWalk.u64_in n (by omega)

theorem rng_wrap (k : IntKind) (n : Int) : rng k (k.wrap n) := by
  cases k <;> simp only [rng, IntKind.wrap, IntKind.bits, IntKind.signed] <;> simp <;> (try split) <;> omega

/-- An integer. -/
def RInt (k : IntKind) : Res → List Value → Int → Prop := fun _ vs x => vs = [.int k x] ∧ rng k x
/-- A bool. -/
def RBool : Res → List Value → Bool → Prop := fun _ vs x => vs = [.bool x]
/-- A string. -/
def RStr : Res → List Value → ByteArray → Prop := fun _ vs x => vs = [.string x] ∧ x.size ≤ maxLen
theorem RInt.one (k : IntKind) : One (RInt k) := fun _ vs x h v hv => by rw [h.1] at hv; simp at hv; subst hv; rfl
theorem RBool.one : One RBool := fun _ vs x h v hv => by rw [show vs = [.bool x] from h] at hv; simp at hv; subst hv; rfl
theorem RStr.one : One RStr := fun _ vs x h v hv => by rw [h.1] at hv; simp at hv; subst hv; rfl
theorem RInt.up (k : IntKind) : Up (RInt k) := fun _ _ _ _ _ h => h
theorem RBool.up : Up RBool := fun _ _ _ _ _ h => h
theorem RStr.up : Up RStr := fun _ _ _ _ _ h => h
/-- A slice in a cell. -/
def RSl {α : Type} (R : Res → List Value → α → Prop) (sz : Nat) : Res → List Value → List α → Prop := fun s vs xs => ∃ a c, vs = [.slice a xs.length c] ∧ Imm R sz s a c xs
theorem RSl.up {α : Type} {R : Res → List Value → α → Prop} (hR : Up R) (sz : Nat) : Up (RSl R sz) := fun _ _ _ _ hl ⟨a, c, h1, h2⟩ => ⟨a, c, h1, h2.up hR hl⟩

end Go.Lw

/-
  THE WALK ENGINE, part 3: the operations, one law each.
-/
namespace Go.Lw
open Go.RowKit

/-! ### Closed facts on types, one kernel reckoning each -/
/-- (is it a struct or an array?, its cells) -/
def tyc (P : Program) (t : TypeId) : Option (Bool × Nat) :=
  match P.underlying t, P.info? t with
  | some d, some i => some (match d with | .struct _ | .array _ _ => true | _ => false, i.size)
  | _, _ => none
/-- a field's (offset, cells) -/
def fld (P : Program) (s : TypeId) (k : Nat) : Option (Nat × Nat) :=
  match P.underlying s with
  | some (.struct fs) =>
    match fs[k]? with
    | some f => (P.info? f.type).map fun i => (f.offset, i.size)
    | none => none
  | _ => none
/-- a slice's (element, its cells, its bytes) -/
def slc (P : Program) (t : TypeId) : Option (TypeId × Nat × Nat) :=
  match P.underlying t with
  | some (.slice e) => (P.info? e).map fun i => (e, i.size, i.bytes)
  | _ => none
/-- an array's (length, element, its cells) -/
def arr (P : Program) (t : TypeId) : Option (Nat × TypeId × Nat) :=
  match P.underlying t with
  | some (.array n e) => (P.info? e).map fun i => (n, e, i.size)
  | _ => none
/-- the zero value's cells -/
def zer (P : Program) (t : TypeId) : Option (List Value) := ((P.info? t).bind (·.zero)).map (·.cells.toList)
/-- may function f be entered? -/
def callable (P : Program) (f : FuncId) : Bool :=
  match P.funcs[f]? with
  | some fn => fn.body.isSome && !(fn.name == "runtime.NumGoroutine")
  | none => false

section
variable {P : Program} {w : World} {t s e : TypeId} {b : Bool} {k n : Nat}
theorem tyc_agg (h : tyc P t = some (b, k)) : (isAgg t).run P w = .ok b w ∧ (sizeOf t).run P w = .ok k w := by
  unfold tyc at h
  split at h
  · rename_i d i hd hi
    simp only [Option.some.injEq, Prod.mk.injEq] at h
    obtain ⟨h1, h2⟩ := h
    constructor
    · simp only [isAgg, Sem.run_bind, run_underlying hd, Result.andThen_ok]
      rw [← h1]
      cases d <;> simp
    · simp [sizeOf, typeInfo, hi, h2]
  · cases h
theorem slc_spec {m : Nat} (h : slc P t = some (e, k, m)) : P.underlying t = some (.slice e) ∧ ∃ i, P.info? e = some i ∧ i.size = k ∧ i.bytes = m := by
  unfold slc at h
  split at h
  · rename_i e' he
    cases hi : P.info? e' with
    | none => simp [hi] at h
    | some i =>
      simp only [hi, Option.map_some, Option.some.injEq, Prod.mk.injEq] at h
      obtain ⟨rfl, h2, h3⟩ := h
      exact ⟨he, i, hi, h2, h3⟩
  · cases h
end

section
variable {P : Program} {n : Nat} {E : Env} {w w' : World} {o : Oper} {v : Value} {x y : Operand}

/-! ### load, fieldAddr -/
theorem Run.load1 {t : TypeId} {ad : Addr} {r : Res} {vs : List Value} {j : Nat} (ho : o.op = .load t x) (ht : tyc P t = some (false, 1)) (hx : ev E x = some (.pointer (some (ad.add j)))) (h : Holds r ad vs) (hin : In r w) (hv : vs[j]? = some v) :
    Run P n o E w v w := fun a ha => by
  have hc := h.cell hin hv
  unfold execOp
  simp only [ho, ha.ev hx]
  simp [Instr.loadAt, Instr.sureAddr, loadVar, (tyc_agg ht).1, load, Sem.run, hc, Sem.run_bind]
theorem Run.loadN {t : TypeId} {ad : Addr} {r : Res} {vs us : List Value} {j k : Nat} (ho : o.op = .load t x) (ht : tyc P t = some (true, k)) (hx : ev E x = some (.pointer (some (ad.add j)))) (h : Holds r ad vs) (hin : In r w)
    (hv : (vs.drop j).take k = us) (hl : us.length = k) : Run P n o E w (.agg us.toArray) w := fun a ha => by
  have hp : Holds r (ad.add j) us := h.part j (fun i u hu => by
    rw [← hv, List.getElem?_take] at hu
    split at hu
    · rwa [List.getElem?_drop] at hu
    · cases hu)
  have hr := run_loadCells_list (P := P) w (ad.add j) us (fun i u hu => hp.cell hin hu)
  rw [hl] at hr
  unfold execOp
  simp only [ho, ha.ev hx]
  simp [Instr.loadAt, Instr.sureAddr, loadVar, (tyc_agg ht).1, (tyc_agg ht).2, hr, Sem.run_bind]
theorem Run.field {s : TypeId} {i k off : Nat} {ad : Addr} (ho : o.op = .fieldAddr s x i) (hf : fld P s i = some (off, k)) (hk : Nat.blt 0 k = true) (hx : ev E x = some (.pointer (some ad))) :
    Run P n o E w (.pointer (some (ad.add off))) w := fun a ha => by
  have hk0 : k ≠ 0 := by intro h; subst h; simp [Nat.blt] at hk
  unfold fld at hf
  split at hf
  · rename_i fs hs
    split at hf
    · rename_i f hfi
      cases hi : P.info? f.type with
      | none => simp [hi] at hf
      | some inf =>
        simp only [hi, Option.map_some, Option.some.injEq, Prod.mk.injEq] at hf
        obtain ⟨h1, h2⟩ := hf
        have hsz : inf.size ≠ 0 := by rw [h2]; exact hk0
        unfold execOp
        simp only [ho, ha.ev hx]
        simp [Instr.fieldAt, Instr.sureAddr, fieldPlace, sizeOf, typeInfo, run_underlying hs, hfi, hi, hsz, h1, Sem.run_bind]
    · cases hf
  · cases hf

/-! ### box: a new block -/
theorem Run.box {t : TypeId} (ho : o.op = .box t x) (hx : ev E x = some v) : Run P n o E w (.pointer (some ⟨w.heap.size, 0, none⟩)) (w.alloc (.cells v.cells t)) := fun a ha => by
  unfold execOp
  simp only [ho, ha.ev hx]
  simp [Instr.box, newVar, newRow]

/-! ### store into an owned block -/
theorem run_store_row {t : TypeId} {g j k : Nat} {cs : Array Value} {el : TypeId} {b : Bool} {u : Value} (hg : w.heap[g]? = some (.cells cs el (0, 0))) (ht : tyc P t = some (b, k)) (hk : u.cells.size = k) (h1 : ∀ z ∈ u.cells.toList, z.oneCell' = true) (hj : j + k ≤ cs.size) :
    (Instr.storeAt t (.pointer (some ((⟨g, 0, none⟩ : Addr).add j))) u).run P w = .ok () (w.setRow g (cs.toList.take j ++ u.cells.toList ++ cs.toList.drop (j + k)).toArray) := by
  have hadd : (⟨g, 0, none⟩ : Addr).add j = ⟨g, j, none⟩ := by unfold Addr.add; split <;> simp_all
  have hst := run_storeCells_at P g j el u.cells.toList 0 cs w hg (by simp [hk]; exact hj) h1
  simp only [Nat.add_zero] at hst
  have hl : u.cells.toList.length = k := by simpa using hk
  rw [hl] at hst
  simp [Instr.storeAt, Instr.sureAddr, storeVar, (tyc_agg ht).2, hk, hadd, hst, Sem.run_bind]

end

/-! ### append -/
/-- What may be appended: m elements, these cells. -/
structure Src (P : Program) (w : World) (t : TypeId) (sz : Nat) (x : Value) (m : Nat) (news : List Value) : Prop where
  und : P.underlying t = some .string ∨ ∃ e, P.underlying t = some (.slice e)
  len : ∀ w', (Builtin.lenOf x).run P w' = .ok m w'
  first : ∀ w' : World, w'.heap = w.heap → (Builtin.firstCells sz m x).run P w' = .ok news.toArray w'
  size : news.length = m * sz

section
variable {P : Program} {w : World} {s A r : Res} {os : List Res}

theorem Src.slice {t e : TypeId} {sz m c : Nat} {by_ : Nat} {a : Option Addr} {news : List Value} (ht : slc P t = some (e, sz, by_)) (hl : news.length = m * sz) (h : m = 0 ∨ ∃ ad, a = some ad ∧ Holds r ad news) (hin : In r w) :
    Src P w t sz (.slice a m c) m news := by
  refine ⟨.inr ⟨_, (slc_spec ht).1⟩, fun w' => by simp [Builtin.lenOf], fun w' hw => ?_, hl⟩
  rcases h with rfl | ⟨ad, rfl, hh⟩
  · have : news = [] := List.eq_nil_of_length_eq_zero (by simpa using hl)
    subst this
    cases a with
    | none => simp [Builtin.firstCells]
    | some ad => simp [Builtin.firstCells, loadCells, loadCellsFrom]
  · exact run_firstCells_some w' sz m ad m c news hl (fun j v hj => by
      have := hh.cell hin hj
      simpa [World.cell?, hw] using this)

theorem Src.imm {α : Type} {R : Res → List Value → α → Prop} {t e : TypeId} {sz by_ : Nat} {a : Option Addr} {c : Nat} {ys : List α} (ht : slc P t = some (e, sz, by_)) (h : Imm R sz s a c ys) (hin : In s w) :
    ∃ news, Src P w t sz (.slice a ys.length c) ys.length news ∧ Chunks R sz s news ys := by
  rcases h.2.2 with rfl | ⟨ad, rfl, cs, hh, hc⟩
  · exact ⟨[], .slice ht (by simp) (.inl rfl) hin, rfl⟩
  · exact ⟨cs, .slice ht hc.length (.inr ⟨ad, rfl, hh⟩) hin, hc⟩

theorem run_append_stay {t t2 ty e : TypeId} {sz by_ m n c : Nat} {x : Value} {news : List Value} {a : Option Addr} (hs : slc P t = some (e, sz, by_)) (hsrc : Src P w t2 sz x m news) (hroom : n + m ≤ c) (hn : a = none → news = []) :
    (Builtin.append_ #[t, t2] ty #[.slice a n c, x]).run P w = match a with
      | none => .ok (.slice none (n + m) c) w
      | some ad => ((storeCells (ad.add (n * sz)) news).run P w).andThen fun _ w' => .ok (.slice (some ad) (n + m) c) w' := by
  obtain ⟨hu, i, hi, rfl, hb⟩ := slc_spec hs
  have hf := hsrc.first w rfl
  rcases hsrc.und with hd | ⟨e', hd⟩
  all_goals cases a with
  | none =>
    rw [hn rfl] at hf
    simp [Builtin.append_, run_underlying hu, run_underlying hd, sizeOf, typeInfo, hi, hsrc.len, hroom, hf]
  | some ad => simp [Builtin.append_, run_underlying hu, run_underlying hd, sizeOf, typeInfo, hi, hsrc.len, hroom, hf]

theorem run_append_move {t t2 ty e : TypeId} {sz by_ m n c : Nat} {x : Value} {olds news z : List Value} {a : Option Addr} (hs : slc P t = some (e, sz, by_)) (hz : zer P e = some z) (hsrc : Src P w t2 sz x m news)
    (hold : ∀ w' : World, w'.heap = w.heap → (Builtin.firstCells sz n (.slice a n c)).run P w' = .ok olds.toArray w') (hroom : c < n + m) (h63 : n + m ≤ 9223372036854775807) (hbytes : (n + m) * by_ ≤ 140737488355328) :
    (Builtin.append_ #[t, t2] ty #[.slice a n c, x]).run P w =
      .ok (.slice (some ⟨w.heap.size, 0, none⟩) (n + m) (grownCap w (n + m) c e)) (w.drew.alloc (.cells (olds.toArray ++ news.toArray ++ Builtin.zeroCells z.toArray (grownCap w (n + m) c e - (n + m))) e)) := by
  obtain ⟨hu, i, hi, rfl, rfl⟩ := slc_spec hs
  have hf := hsrc.first w.drew rfl
  have ho := hold w.drew rfl
  have hn : ¬ (n + m ≤ c) := by omega
  have h63' : ¬ (9223372036854775807 < ((n : Int) + (m : Int))) := by omega
  have hfit := growslice_fits (bytes := i.bytes) hroom hbytes
  have h48' : ¬ (281474976710656 < Builtin.nextslicecap (n + m) c * i.bytes) := by omega
  unfold zer at hz
  simp only [hi, Option.bind_some] at hz
  cases hzi : i.zero with
  | none => simp [hzi] at hz
  | some zv =>
    simp only [hzi, Option.map_some, Option.some.injEq] at hz
    have hze : zv.cells = z.toArray := by rw [← hz]
    rcases hsrc.und with hd | ⟨e', hd⟩
    all_goals simp [Builtin.append_, run_underlying hu, run_underlying hd, sizeOf, typeInfo, zeroValue, hi, hzi, hsrc.len, hn, h63', h48', Question.forced, hf, ho, newRow, grownCap, hze]
    all_goals
      congr 2
      apply Array.ext'
      simp [List.append_assoc]

theorem one_join_same (b : Nat) (x : Obj) (r : Res) : (Res.one b x).join r b = some x := by simp [Res.join, Res.one]
theorem put_same (r : Res) (b : Nat) (x : Obj) : r.put b x b = some x := by simp [Res.put]

/-- append to a slice of one's own: as a whole. -/
theorem append_law {α : Type} {R : Res → List Value → α → Prop} {t t2 ty e : TypeId} {sz by_ c : Nat} {x : Value} {news z : List Value} {a : Option Addr} {xs ys : List α}
    (hg : Good w s (A :: os)) (hs : slc P t = some (e, sz, by_)) (hz : zer P e = some z) (hzl : z.length = sz) (hone : One R)
    (hown : Own R sz e s A a c xs) (hsrc : Src P w t2 sz x ys.length news) (hch : Chunks R sz s news ys) (hbytes : (xs.length + ys.length) * by_ ≤ 140737488355328) (hmax : xs.length + ys.length ≤ maxLen) :
    ∃ a' c' A' w', (Builtin.append_ #[t, t2] ty #[.slice a xs.length c, x]).run P w = .ok (.slice a' (xs ++ ys).length c') w' ∧ Good w' s (A' :: os) ∧ Own R sz e s A' a' c' (xs ++ ys) ∧ Aux w w' ∧
      (∀ b, A b ≠ none → (∀ ad, a = some ad → ad.block ≠ b) → A' b = A b) := by
  have h63 : xs.length + ys.length ≤ 9223372036854775807 := by simp only [maxLen] at hmax; omega
  -- a new block
  have moved : ∀ olds, (∀ w' : World, w'.heap = w.heap → (Builtin.firstCells sz xs.length (.slice a xs.length c)).run P w' = .ok olds.toArray w') → Chunks R sz s olds xs → c < xs.length + ys.length →
      ∃ a' c' A' w', (Builtin.append_ #[t, t2] ty #[.slice a xs.length c, x]).run P w = .ok (.slice a' (xs ++ ys).length c') w' ∧ Good w' s (A' :: os) ∧ Own R sz e s A' a' c' (xs ++ ys) ∧ Aux w w' ∧
        (∀ b, A b ≠ none → (∀ ad, a = some ad → ad.block ≠ b) → A' b = A b) := by
    intro olds hold hco hroom
    have hrun := run_append_move (ty := ty) hs hz hsrc hold hroom h63 hbytes
    have hge := grownCap_ge w (xs.length + ys.length) c e
    have hcm : grownCap w (xs.length + ys.length) c e ≤ maxLen := grownCap_le_maxLen w _ c e hmax
    have hg' := (hg.drew.alloc (.cells (olds.toArray ++ news.toArray ++ Builtin.zeroCells z.toArray (grownCap w (xs.length + ys.length) c e - (xs.length + ys.length))) e)).join
    have hnone : A w.heap.size = none := by
      cases hA : A w.heap.size with
      | none => rfl
      | some o => exact absurd (hg.1.lt (by rw [hA]; simp)) (Nat.lt_irrefl _)
    refine ⟨_, _, _, _, by rw [List.length_append]; exact hrun, hg', .inr ⟨w.heap.size, _, rfl, one_join_same _ _ _, by rw [List.length_append]; exact hge, hcm, ?_, ?_⟩, (Aux.drew w).trans (Aux.alloc _ _), fun b hb _ => ?_⟩
    · have h1 := hco.length
      have h2 := hch.length
      simp only [Array.size_append, List.size_toArray, size_zeroCells, hzl, h1, h2, ← Nat.add_mul]
      congr 1
      omega
    · have h1 := hco.length
      have h2 := hch.length
      have e1 : (olds.toArray ++ news.toArray ++ Builtin.zeroCells z.toArray (grownCap w (xs.length + ys.length) c e - (xs.length + ys.length))).toList.take ((xs ++ ys).length * sz) = olds ++ news := by
        simp only [Array.toList_append, List.length_append, Nat.add_mul, ← h1, ← h2]
        rw [← List.length_append]
        exact List.take_left
      rw [e1]
      exact hco.append hch
    · have hbs : b ≠ w.heap.size := fun h => by subst h; exact hb hnone
      simp [Res.join, Res.one, hbs]
  rcases hown with ⟨rfl, rfl, rfl⟩ | ⟨g, cs, rfl, hAg, hlc, hcm, hcs, hco⟩
  · by_cases hm : ys.length = 0
    · have hy : ys = [] := List.eq_nil_of_length_eq_zero hm
      subst hy
      have hn : news = [] := hch
      subst hn
      exact ⟨none, 0, A, w, run_append_stay (a := none) hs hsrc (by simp) (fun _ => rfl), hg, .inl ⟨rfl, rfl, rfl⟩, Aux.refl w, fun _ _ _ => rfl⟩
    · exact moved [] (fun w' _ => by simp [Builtin.firstCells]) rfl (by simp; omega)
  · have hrow : Holds A ⟨g, 0, none⟩ (cs.toList.take (xs.length * sz)) := ⟨cs, e, (0, 0), hAg, rfl, fun j u hu => by
      rw [List.getElem?_take] at hu
      split at hu
      · simpa using hu
      · cases hu⟩
    by_cases hroom : xs.length + ys.length ≤ c
    · have hwg := hg.1 g _ hAg
      have h1 := hco.length
      have h2 := hch.length
      have hadd : (⟨g, 0, none⟩ : Addr).add (xs.length * sz) = ⟨g, xs.length * sz, none⟩ := by unfold Addr.add; split <;> simp_all
      have hfit : xs.length * sz + news.length ≤ cs.size := by rw [h2, hcs, ← Nat.add_mul]; exact Nat.mul_le_mul_right _ hroom
      have hst := run_storeCells_at P g (xs.length * sz) e news 0 cs w hwg (by simpa using hfit) (hch.one hone)
      simp only [Nat.add_zero] at hst
      have hrun := run_append_stay (ty := ty) (a := some ⟨g, 0, none⟩) hs hsrc hroom (by simp)
      simp only [hadd, hst, Result.andThen_ok] at hrun
      let new := (cs.toList.take (xs.length * sz) ++ news ++ cs.toList.drop (xs.length * sz + news.length)).toArray
      have hput := hg.write (w' := w.setRow g new) hAg (setRow_heap w g cs new e (0, 0) hwg) (fun k _ hk => setRow_other w g k new hk)
      refine ⟨_, _, _, _, by rw [List.length_append]; exact hrun, hput, .inr ⟨g, _, rfl, put_same _ _ _, by rw [List.length_append]; exact hroom, hcm, ?_, ?_⟩, ⟨rfl, rfl, rfl, by simp⟩, fun b _ hb => ?_⟩
      · rw [← hcs]
        simp only [new, List.size_toArray, List.length_append, List.length_take, List.length_drop, Array.length_toList]
        omega
      · have e1 : ((cs.toList.take (xs.length * sz) ++ news ++ cs.toList.drop (xs.length * sz + news.length)).toArray).toList.take ((xs ++ ys).length * sz) = cs.toList.take (xs.length * sz) ++ news := by
          rw [List.length_append, Nat.add_mul, ← h2]
          conv => lhs; arg 1; rw [← h1]
          rw [← List.length_append]
          exact List.take_left
        rw [e1]
        exact hco.append hch
      · have : b ≠ g := fun h => hb ⟨g, 0, none⟩ rfl h.symm
        simp [Res.put, this]
    · exact moved _ (fun w' hw => run_firstCells_some w' sz xs.length ⟨g, 0, none⟩ xs.length c _ hco.length (fun j v hj => by
        have := hrow.cell hg.1 hj
        simpa [World.cell?, hw] using this)) hco (by omega)
end

end Go.Lw

/-
  THE WALK ENGINE, part 4: the rules by which a list of operations is gone through; code; calls.
-/
namespace Go.Lw
open Go.RowKit

section
variable {P : Program} {n : Nat} {ops : Array Oper} {Q : Exit → Act → World → Prop} {S : World → Prop} {rest : List (Bool × Oper)} {E : Env} {w : World} {o : Oper} {d : Nat} {v : Value}
variable {s : Res} {os : List Res} {A : Res} {x y : Operand} {T : Bool}

/-! ### integers -/
theorem run_pure_binop {op : BinOp} {t yt : TypeId} {k j : IntKind} {a b : Int} {v : Value} (ho : o.op = .binOp op t x y yt) (hx : ev E x = some (.int k a)) (hy : ev E y = some (.int j b))
    (hr : ∀ w : World, (binOp op t (.int k a) (.int j b)).run P w = .ok v w) : ∀ w, Run P n o E w v w := fun w ac ha => by
  unfold execOp
  simp only [ho, ha.ev hx, ha.ev hy]
  simp [Sem.run_bind, run_eqGuard_int, hr w]

/-- Whatever yields a value in every world. -/
theorem RL.val (hg : wants ops E o = some true) (hd : o.dst = some d) (hb : Nat.blt d n = true) (hr : ∀ w, Run P n o E w v w) (h : RL P n ops Q S rest ((d, v) :: E) w) :
    RL P n ops Q S ((T, o) :: rest) E w := by
  cases T with
  | false => exact fun hS => RL.step hg hd hb (hr w) hS h hS
  | true => exact RL.take hg hd hb (fun w _ => hr w) h

theorem RL.add {k : IntKind} {a b : Int} {t yt : TypeId} (hg : wants ops E o = some true) (hd : o.dst = some d) (hb : Nat.blt d n = true) (ho : o.op = .binOp .add t x y yt) (hx : ev E x = some (.int k a)) (hy : ev E y = some (.int k b))
    (hr : rng k (a + b)) (h : RL P n ops Q S rest ((d, .int k (a + b)) :: E) w) : RL P n ops Q S ((T, o) :: rest) E w :=
  RL.val hg hd hb (run_pure_binop ho hx hy fun w => by rw [run_intOp (v := .int k (a + b)) w (by simp [intOp, hr.wrap])]) h
theorem RL.sub {k : IntKind} {a b : Int} {t yt : TypeId} (hg : wants ops E o = some true) (hd : o.dst = some d) (hb : Nat.blt d n = true) (ho : o.op = .binOp .sub t x y yt) (hx : ev E x = some (.int k a)) (hy : ev E y = some (.int k b))
    (hr : rng k (a - b)) (h : RL P n ops Q S rest ((d, .int k (a - b)) :: E) w) : RL P n ops Q S ((T, o) :: rest) E w :=
  RL.val hg hd hb (run_pure_binop ho hx hy fun w => by rw [run_intOp (v := .int k (a - b)) w (by simp [intOp, hr.wrap])]) h
theorem RL.mul {k : IntKind} {a b : Int} {t yt : TypeId} (hg : wants ops E o = some true) (hd : o.dst = some d) (hb : Nat.blt d n = true) (ho : o.op = .binOp .mul t x y yt) (hx : ev E x = some (.int k a)) (hy : ev E y = some (.int k b))
    (hr : rng k (a * b)) (h : RL P n ops Q S rest ((d, .int k (a * b)) :: E) w) : RL P n ops Q S ((T, o) :: rest) E w :=
  RL.val hg hd hb (run_pure_binop ho hx hy fun w => by rw [run_intOp (v := .int k (a * b)) w (by simp [intOp, hr.wrap])]) h
/-- The value as one would write it. -/
theorem RL.as_ {v0 : Value} (hg : wants ops E o = some true) (hd : o.dst = some d) (hb : Nat.blt d n = true) (hp : pv (ev E) o.op = some v0) (v : Value) (hv : v0 = v) (h : RL P n ops Q S rest ((d, v) :: E) w) :
    RL P n ops Q S ((T, o) :: rest) E w := by
  subst hv
  exact RL.pure hg hd hb hp h
theorem RL.quo {k : IntKind} {a b : Int} {t yt : TypeId} (hg : wants ops E o = some true) (hd : o.dst = some d) (hb : Nat.blt d n = true) (ho : o.op = .binOp .quo t x y yt) (hx : ev E x = some (.int k a)) (hy : ev E y = some (.int k b))
    (h0 : 0 ≤ a) (h1 : 0 < b) (hr : rng k a) (h : RL P n ops Q S rest ((d, .int k (a / b)) :: E) w) : RL P n ops Q S ((T, o) :: rest) E w := by
  refine RL.val hg hd hb (run_pure_binop ho hx hy fun w => ?_) h
  have hb0 : b ≠ 0 := by omega
  have hle : 0 ≤ a / b ∧ a / b ≤ a := IntWalk.tdiv_le a b h0 (by omega)
  have hw : rng k (a / b) := by cases k <;> simp only [rng] at hr ⊢ <;> omega
  simp [binOp, Op.intDiv, hb0, Int.tdiv_eq_ediv_of_nonneg h0, hw.wrap]
theorem RL.rem {k : IntKind} {a b : Int} {t yt : TypeId} (hg : wants ops E o = some true) (hd : o.dst = some d) (hb : Nat.blt d n = true) (ho : o.op = .binOp .rem t x y yt) (hx : ev E x = some (.int k a)) (hy : ev E y = some (.int k b))
    (h0 : 0 ≤ a) (h1 : 0 < b) (h : RL P n ops Q S rest ((d, .int k (a % b)) :: E) w) : RL P n ops Q S ((T, o) :: rest) E w := by
  refine RL.val hg hd hb (run_pure_binop ho hx hy fun w => ?_) h
  have hb0 : b ≠ 0 := by omega
  simp [binOp, Op.intDiv, hb0, Int.tmod_eq_emod_of_nonneg h0]
theorem RL.shr {k j : IntKind} {a b : Int} {t yt : TypeId} (m : Nat) (hg : wants ops E o = some true) (hd : o.dst = some d) (hb : Nat.blt d n = true) (ho : o.op = .binOp .shr t x y yt) (hx : ev E x = some (.int k a)) (hy : ev E y = some (.int j b))
    (hm : b = (m : Int)) (hk : m ≤ k.bits) (h : RL P n ops Q S rest ((d, .int k (a / 2 ^ m)) :: E) w) : RL P n ops Q S ((T, o) :: rest) E w := by
  refine RL.val hg hd hb (run_pure_binop ho hx hy fun w => ?_) h
  subst hm
  have h0 : ¬ ((m : Int) < 0) := by omega
  have hmin : min m k.bits = m := Nat.min_eq_left hk
  have hp : (0 : Int) ≤ 2 ^ m := Int.le_of_lt (Int.pow_pos (by omega))
  simp [binOp, Op.shift, h0, hmin, Int.fdiv_eq_ediv_of_nonneg a hp]
theorem RL.shl {k j : IntKind} {a b : Int} {t yt : TypeId} (m : Nat) (hg : wants ops E o = some true) (hd : o.dst = some d) (hb : Nat.blt d n = true) (ho : o.op = .binOp .shl t x y yt) (hx : ev E x = some (.int k a)) (hy : ev E y = some (.int j b))
    (hm : b = (m : Int)) (hk : m ≤ k.bits) (h : RL P n ops Q S rest ((d, .int k (k.wrap (a * 2 ^ m))) :: E) w) : RL P n ops Q S ((T, o) :: rest) E w := by
  refine RL.val hg hd hb (run_pure_binop ho hx hy fun w => ?_) h
  subst hm
  have h0 : ¬ ((m : Int) < 0) := by omega
  have hmin : min m k.bits = m := Nat.min_eq_left hk
  simp [binOp, Op.shift, h0, hmin]
theorem run_conv_int {src dst : TypeId} {k j : IntKind} {a : Int} {u : TypeDesc} (hs : P.underlying src = some u) (ht : P.underlying dst = some (.int k)) (w : World) : (convert src dst (.int j a)).run P w = .ok (.int k (k.wrap a)) w := by
  cases u <;> simp [convert, run_underlying hs, run_underlying ht, Conv.intToInt]
/-- A conversion that changes nothing. -/
theorem RL.conv {k j : IntKind} {a : Int} {src dst : TypeId} {u : TypeDesc} (hg : wants ops E o = some true) (hd : o.dst = some d) (hb : Nat.blt d n = true) (ho : o.op = .convert src dst x) (hs : P.underlying src = some u) (ht : P.underlying dst = some (.int k))
    (hx : ev E x = some (.int j a)) (hr : rng k a) (h : RL P n ops Q S rest ((d, .int k a) :: E) w) : RL P n ops Q S ((T, o) :: rest) E w := by
  refine RL.val hg hd hb (fun w ac ha => ?_) h
  unfold execOp
  simp only [ho, ha.ev hx]
  simp [run_conv_int hs ht, hr.wrap]
theorem RL.convw {k j : IntKind} {a : Int} {src dst : TypeId} {u : TypeDesc} (hg : wants ops E o = some true) (hd : o.dst = some d) (hb : Nat.blt d n = true) (ho : o.op = .convert src dst x) (hs : P.underlying src = some u) (ht : P.underlying dst = some (.int k))
    (hx : ev E x = some (.int j a)) (h : RL P n ops Q S rest ((d, .int k (k.wrap a)) :: E) w) : RL P n ops Q S ((T, o) :: rest) E w := by
  refine RL.val hg hd hb (fun w ac ha => ?_) h
  unfold execOp
  simp only [ho, ha.ev hx]
  simp [run_conv_int hs ht]

/-! ### len, min, max -/
theorem RL.len {t : TypeId} {e : TypeId} {sz by_ m c : Nat} {a : Option Addr} (hg : wants ops E o = some true) (hd : o.dst = some d) (hb : Nat.blt d n = true)
    (ho : o.op = .call { callee := .builtin .len, args := #[x], argTypes := #[t] }) (ht : slc P t = some (e, sz, by_)) (hx : ev E x = some (.slice a m c)) (h : RL P n ops Q S rest ((d, .int .i64 m) :: E) w) : RL P n ops Q S ((T, o) :: rest) E w := by
  refine RL.val hg hd hb (fun w ac ha => ?_) h
  unfold execOp
  simp only [ho]
  simp [resolve, invoke, builtin, Builtin.len_, ha.ev hx, run_underlying (slc_spec ht).1, goInt]
theorem RL.lens {t : TypeId} {b : ByteArray} (hg : wants ops E o = some true) (hd : o.dst = some d) (hb : Nat.blt d n = true)
    (ho : o.op = .call { callee := .builtin .len, args := #[x], argTypes := #[t] }) (ht : P.underlying t = some .string) (hx : ev E x = some (.string b)) (h : RL P n ops Q S rest ((d, .int .i64 b.size) :: E) w) : RL P n ops Q S ((T, o) :: rest) E w := by
  refine RL.val hg hd hb (fun w ac ha => ?_) h
  unfold execOp
  simp only [ho]
  simp [resolve, invoke, builtin, Builtin.len_, ha.ev hx, run_underlying ht, goInt]
theorem RL.min {t t' : TypeId} {k j : IntKind} {a b : Int} (hg : wants ops E o = some true) (hd : o.dst = some d) (hb : Nat.blt d n = true)
    (ho : o.op = .call { callee := .builtin .min, args := #[x, y], argTypes := #[t, t'] }) (hx : ev E x = some (.int k a)) (hy : ev E y = some (.int j b)) (h : RL P n ops Q S rest ((d, .int k (if b < a then b else a)) :: E) w) : RL P n ops Q S ((T, o) :: rest) E w := by
  refine RL.val hg hd hb (fun w ac ha => ?_) h
  unfold execOp
  simp only [ho]
  simp [resolve, invoke, builtin, Builtin.min_, Builtin.min2, ha.ev hx, ha.ev hy]
theorem RL.max {t t' : TypeId} {k j : IntKind} {a b : Int} (hg : wants ops E o = some true) (hd : o.dst = some d) (hb : Nat.blt d n = true)
    (ho : o.op = .call { callee := .builtin .max, args := #[x, y], argTypes := #[t, t'] }) (hx : ev E x = some (.int k a)) (hy : ev E y = some (.int j b)) (h : RL P n ops Q S rest ((d, .int k (if b > a then b else a)) :: E) w) : RL P n ops Q S ((T, o) :: rest) E w := by
  refine RL.val hg hd hb (fun w ac ha => ?_) h
  unfold execOp
  simp only [ho]
  simp [resolve, invoke, builtin, Builtin.max_, Builtin.max2, ha.ev hx, ha.ev hy]

/-! ### strings -/
theorem run_eqGuard_str (P : Program) (op : BinOp) (t : TypeId) (x y : Operand) (a b : ByteArray) (w : World) : (eqGuard op t x y (.string a) (.string b)).run P w = .ok () w := by
  unfold eqGuard
  cases op <;> rfl
theorem RL.sEq {t yt : TypeId} {a b : ByteArray} (hg : wants ops E o = some true) (hd : o.dst = some d) (hb : Nat.blt d n = true) (ho : o.op = .binOp .eql t x y yt) (hx : ev E x = some (.string a)) (hy : ev E y = some (.string b))
    (h : RL P n ops Q S rest ((d, .bool (a.toList == b.toList)) :: E) w) : RL P n ops Q S ((T, o) :: rest) E w := by
  refine RL.val hg hd hb (fun w ac ha => ?_) h
  unfold execOp
  simp only [ho, ha.ev hx, ha.ev hy]
  simp [run_eqGuard_str, binOp_string_eql]
theorem RL.sNe {t yt : TypeId} {a b : ByteArray} (hg : wants ops E o = some true) (hd : o.dst = some d) (hb : Nat.blt d n = true) (ho : o.op = .binOp .neq t x y yt) (hx : ev E x = some (.string a)) (hy : ev E y = some (.string b))
    (h : RL P n ops Q S rest ((d, .bool (!(a.toList == b.toList))) :: E) w) : RL P n ops Q S ((T, o) :: rest) E w := by
  refine RL.val hg hd hb (fun w ac ha => ?_) h
  unfold execOp
  simp only [ho, ha.ev hx, ha.ev hy]
  simp [run_eqGuard_str, binOp_string_neq]
theorem RL.sAdd {t yt : TypeId} {a b : ByteArray} (hg : wants ops E o = some true) (hd : o.dst = some d) (hb : Nat.blt d n = true) (ho : o.op = .binOp .add t x y yt) (hx : ev E x = some (.string a)) (hy : ev E y = some (.string b))
    (hl : a.size + b.size ≤ 9223372036854775807) (h : RL P n ops Q S rest ((d, .string (a ++ b)) :: E) w) : RL P n ops Q S ((T, o) :: rest) E w := by
  refine RL.val hg hd hb (fun w ac ha => ?_) h
  have hl' : ¬ ((((a.size + b.size : Nat)) : Int) > IntKind.i64.max) := by
    have : IntKind.i64.max = 9223372036854775807 := by decide
    omega
  unfold execOp
  simp only [ho, ha.ev hx, ha.ev hy]
  simp only [Sem.run_bind, run_eqGuard_str, Result.andThen_ok, binOp_string_add, Op.stringOp, if_neg hl', Sem.run_pure]

/-! ### bools -/
theorem run_eqGuard_bool (P : Program) (op : BinOp) (t : TypeId) (x y : Operand) (a b : Bool) (w : World) : (eqGuard op t x y (.bool a) (.bool b)).run P w = .ok () w := by
  unfold eqGuard
  cases op <;> rfl
theorem run_equalIn_bool {t : TypeId} (ht : P.underlying t = some .bool) (a b : Bool) (d : Nat) (w : World) : (Op.equalIn (d + 1) t (.bool a) (.bool b)).run P w = .ok (a == b) w := by
  simp [Op.equalIn, run_underlying ht]
theorem run_equal_bool {t : TypeId} (ht : P.underlying t = some .bool) (a b : Bool) (w : World) : (Op.equal t (.bool a) (.bool b)).run P w = .ok (a == b) w := run_equalIn_bool ht a b 9999 w
theorem RL.bEq {t yt : TypeId} {a b : Bool} (hg : wants ops E o = some true) (hd : o.dst = some d) (hb : Nat.blt d n = true) (ho : o.op = .binOp .eql t x y yt) (ht : P.underlying t = some .bool) (hx : ev E x = some (.bool a)) (hy : ev E y = some (.bool b))
    (h : RL P n ops Q S rest ((d, .bool (a == b)) :: E) w) : RL P n ops Q S ((T, o) :: rest) E w := by
  refine RL.val hg hd hb (fun w ac ha => ?_) h
  unfold execOp
  simp only [ho, ha.ev hx, ha.ev hy]
  simp only [Sem.run_bind, run_eqGuard_bool, Result.andThen_ok, binOp, run_equal_bool ht, Sem.run_pure]
theorem RL.bNe {t yt : TypeId} {a b : Bool} (hg : wants ops E o = some true) (hd : o.dst = some d) (hb : Nat.blt d n = true) (ho : o.op = .binOp .neq t x y yt) (ht : P.underlying t = some .bool) (hx : ev E x = some (.bool a)) (hy : ev E y = some (.bool b))
    (h : RL P n ops Q S rest ((d, .bool (a != b)) :: E) w) : RL P n ops Q S ((T, o) :: rest) E w := by
  refine RL.val hg hd hb (fun w ac ha => ?_) h
  unfold execOp
  simp only [ho, ha.ev hx, ha.ev hy]
  simp only [Sem.run_bind, run_eqGuard_bool, Result.andThen_ok, binOp, run_equal_bool ht, Sem.run_pure, bne]

end
end Go.Lw

/-
  THE WALK ENGINE, part 5: the rules for memory, slices, calls; a function's frame.
-/
namespace Go.Lw
open Go.RowKit

section
variable {P : Program} {n : Nat} {ops : Array Oper} {Q : Exit → Act → World → Prop} {S : World → Prop} {rest : List (Bool × Oper)} {E : Env} {w : World} {o : Oper} {d : Nat} {v : Value}
variable {s A : Res} {os : List Res} {x y : Operand} {T : Bool}

/-! ### fields, loads -/
theorem RL.field {t : TypeId} {i k off : Nat} {ad : Addr} (hg : wants ops E o = some true) (hd : o.dst = some d) (hb : Nat.blt d n = true) (ho : o.op = .fieldAddr t x i) (hf : fld P t i = some (off, k)) (hk : Nat.blt 0 k = true)
    (hx : ev E x = some (.pointer (some ad))) (h : RL P n ops Q S rest ((d, .pointer (some (ad.add off))) :: E) w) : RL P n ops Q S ((T, o) :: rest) E w :=
  RL.val hg hd hb (fun _ => Run.field ho hf hk hx) h

/-- One cell, read in its place. -/
theorem RL.load {t : TypeId} {ad : Addr} {r : Res} {vs : List Value} {j : Nat} (hg : wants ops E o = some true) (hd : o.dst = some d) (hb : Nat.blt d n = true) (ho : o.op = .load t x) (ht : tyc P t = some (false, 1))
    (hx : ev E x = some (.pointer (some (ad.add j)))) (h : Holds r ad vs) (hin : In r w) (hv : vs[j]? = some v) (hr : RL P n ops Q S rest ((d, v) :: E) w) : RL P n ops Q S ((false, o) :: rest) E w := fun hS =>
  RL.step hg hd hb (Run.load1 ho ht hx h hin hv) hS hr hS
/-- One cell, taken first. -/
theorem RL.loadT {t : TypeId} {ad : Addr} {r : Res} {vs : List Value} {j : Nat} (hg : wants ops E o = some true) (hd : o.dst = some d) (hb : Nat.blt d n = true) (ho : o.op = .load t x) (ht : tyc P t = some (false, 1))
    (hx : ev E x = some (.pointer (some (ad.add j)))) (h : Holds r ad vs) (hin : ∀ w, S w → In r w) (hv : vs[j]? = some v) (hr : RL P n ops Q S rest ((d, v) :: E) w) : RL P n ops Q S ((true, o) :: rest) E w :=
  RL.take hg hd hb (fun w hS => Run.load1 ho ht hx h (hin w hS) hv) hr
/-- A struct, an array. -/
theorem RL.loads {t : TypeId} {ad : Addr} {r : Res} {vs us : List Value} {j k : Nat} (hg : wants ops E o = some true) (hd : o.dst = some d) (hb : Nat.blt d n = true) (ho : o.op = .load t x) (ht : tyc P t = some (true, k))
    (hx : ev E x = some (.pointer (some (ad.add j)))) (h : Holds r ad vs) (hin : In r w) (hv : (vs.drop j).take k = us) (hl : us.length = k) (hr : RL P n ops Q S rest ((d, .agg us.toArray) :: E) w) : RL P n ops Q S ((false, o) :: rest) E w := fun hS =>
  RL.step hg hd hb (Run.loadN ho ht hx h hin hv hl) hS hr hS
theorem RL.loadsT {t : TypeId} {ad : Addr} {r : Res} {vs us : List Value} {j k : Nat} (hg : wants ops E o = some true) (hd : o.dst = some d) (hb : Nat.blt d n = true) (ho : o.op = .load t x) (ht : tyc P t = some (true, k))
    (hx : ev E x = some (.pointer (some (ad.add j)))) (h : Holds r ad vs) (hin : ∀ w, S w → In r w) (hv : (vs.drop j).take k = us) (hl : us.length = k) (hr : RL P n ops Q S rest ((d, .agg us.toArray) :: E) w) : RL P n ops Q S ((true, o) :: rest) E w :=
  RL.take hg hd hb (fun w hS => Run.loadN ho ht hx h (hin w hS) hv hl) hr

theorem Holds.of {b : Nat} {cs : Array Value} {el : TypeId} {fr : Nat × Nat} (h : A b = some (.cells cs el fr)) : Holds A ⟨b, 0, none⟩ cs.toList :=
  ⟨cs, el, fr, h, rfl, fun j u hj => by simpa using hj⟩

/-! ### new blocks -/
theorem RL.box {t : TypeId} (hg : wants ops E o = some true) (hd : o.dst = some d) (hb : Nat.blt d n = true) (ho : o.op = .box t x) (hx : ev E x = some v) (hG : Good w s os)
    (h : ∀ b w', Good w' s (Res.one b (.cells v.cells t) :: os) → Aux w w' → S w' ∧ RL P n ops Q S rest ((d, .pointer (some ⟨b, 0, none⟩)) :: E) w') : RL P n ops Q S ((false, o) :: rest) E w := by
  obtain ⟨h1, h2⟩ := h w.heap.size _ (hG.alloc (.cells v.cells t)) (Aux.alloc w _)
  exact RL.step hg hd hb (Run.box ho hx) h1 h2

/-- The parts of a literal. -/
def parts (E : Env) : List (Nat × Operand) → Option (List (Nat × Value))
  | [] => some []
  | (i, x) :: r =>
    match ev E x, parts E r with
    | some v, some l => some ((i, v) :: l)
    | _, _ => none
theorem At.parts {a : Act} (ha : At n E a) : ∀ {ps : List (Nat × Operand)} {l : List (Nat × Value)}, parts E ps = some l → ps.map (fun p => (p.1, a.eval p.2)) = l
  | [], l, h => by simpa [Lw.parts] using h
  | (i, x) :: r, l, h => by
    simp only [Lw.parts] at h
    split at h
    · rename_i v l' hv hl
      simp only [Option.some.injEq] at h
      subst h
      simp [ha.ev hv, ha.parts hl]
    · cases h
/-- cells into a row of cells -/
def putL (cs : List Value) (off : Nat) (vs : List Value) : List Value := cs.take off ++ (vs ++ cs.drop (off + vs.length))
def fillL (place : Nat → Option (Nat × Nat)) : List Value → List (Nat × Value) → Option (List Value)
  | cs, [] => some cs
  | cs, (i, v) :: r =>
    match place i with
    | none => none
    | some (off, size) => cond (Nat.beq v.cells.toList.length size && Nat.ble (off + size) cs.length) (fillL place (putL cs off v.cells.toList) r) none
def zsL : Nat → List Value → List Value
  | 0, _ => []
  | n + 1, z => z ++ zsL n z

theorem putL_foldl : ∀ (vs cs : List Value) (off k : Nat), off + k + vs.length ≤ cs.length →
    (vs.zipIdx k).foldl (fun (cs : Array Value) (p : Value × Nat) => cs.setIfInBounds (off + p.2) p.1) cs.toArray = (putL cs (off + k) vs).toArray
  | [], cs, off, k, _ => by simp [putL]
  | v :: vs, cs, off, k, h => by
    simp only [List.length_cons] at h
    rw [List.zipIdx_cons, List.foldl_cons, List.setIfInBounds_toArray, putL_foldl vs (cs.set (off + k) v) off (k + 1) (by simp; omega)]
    congr 1
    simp only [putL, List.length_cons]
    rw [show off + (k + 1) = off + k + 1 by omega, List.take_set, List.drop_set_of_lt (by omega)]
    rw [show off + k + (vs.length + 1) = off + k + 1 + vs.length by omega]
    rw [List.take_succ_eq_append_getElem (by omega)]
    rw [List.set_append_right _ _ (by rw [List.length_take]; omega)]
    simp only [List.length_take]
    rw [show off + k - min (off + k) cs.length = 0 by omega]
    simp
theorem fillL_spec (place : Nat → Option (Nat × Nat)) : ∀ (l : List (Nat × Value)) (cs ds : List Value), fillL place cs l = some ds → Instr.fill place cs.toArray l = some ds.toArray
  | [], cs, ds, h => by simp only [fillL, Option.some.injEq] at h; subst h; rfl
  | (i, v) :: r, cs, ds, h => by
    simp only [fillL] at h
    cases hp : place i with
    | none => simp [hp] at h
    | some p =>
      obtain ⟨off, size⟩ := p
      simp only [hp] at h
      by_cases hc : (Nat.beq v.cells.toList.length size && Nat.ble (off + size) cs.length) = true
      · rw [hc, cond_true] at h
        simp only [Bool.and_eq_true] at hc
        have h1 : v.cells.size = size := by simpa using Nat.eq_of_beq_eq_true hc.1
        have h2 := Nat.le_of_ble_eq_true hc.2
        have ih := fillL_spec place r _ ds h
        simp only [Instr.fill, hp]
        rw [if_neg (by simp [h1]; omega)]
        rw [← ih]
        congr 1
        have := putL_foldl v.cells.toList cs off 0 (by simp [h1]; omega)
        simp only [Nat.add_zero] at this
        rw [← this]
        rw [← Array.foldl_toList]
        simp [Array.toList_zipIdx]
      · rw [Bool.not_eq_true] at hc
        rw [hc, cond_false] at h
        cases h
theorem zsL_length : ∀ (n : Nat) (z : List Value), (zsL n z).length = n * z.length
  | 0, z => by simp [zsL]
  | n + 1, z => by simp [zsL, zsL_length n z, Nat.add_mul, Nat.add_comm]
theorem zsL_get : ∀ (n : Nat) (z : List Value) (j : Nat), j < n * z.length → (zsL n z)[j]? = z[j % z.length]?
  | 0, z, j, h => by simp at h
  | n + 1, z, j, h => by
    simp only [zsL]
    by_cases hj : j < z.length
    · rw [List.getElem?_append_left hj, Nat.mod_eq_of_lt hj]
    · rw [List.getElem?_append_right (by omega), zsL_get n z _ (by rw [Nat.add_mul] at h; omega)]
      rw [Nat.mod_eq_sub_mod (by omega : j ≥ z.length)]
theorem zsL_spec (n sz : Nat) (z : List Value) (hz : z.length = sz) : (Array.range (n * sz)).map (fun j => z.toArray[j % z.length]!) = (zsL n z).toArray := by
  subst hz
  apply Array.ext'
  apply List.ext_getElem?
  intro j
  by_cases hj : j < n * z.length
  · have hz0 : 0 < z.length := by
      rcases Nat.eq_zero_or_pos z.length with h | h
      · rw [h, Nat.mul_zero] at hj; omega
      · exact h
    have hm : j % z.length < z.length := Nat.mod_lt _ hz0
    rw [List.toList_toArray, zsL_get n z j hj]
    simp [hj, hm]
  · rw [List.getElem?_eq_none (by simp; omega), List.getElem?_eq_none (by simp [zsL_length]; omega)]

/-- a struct's fields' (offset, cells) -/
def plc (P : Program) (t : TypeId) : Option (List (Nat × Nat)) :=
  match P.underlying t with
  | some (.struct fs) => fs.toList.mapM fun f => (P.info? f.type).map fun i => (f.offset, i.size)
  | _ => none
/-- A struct's literal. -/
theorem RL.build {t : TypeId} {ps : Array (Nat × Operand)} {l : List (Nat × Value)} {pl : List (Nat × Nat)} {z cs : List Value} (hg : wants ops E o = some true) (hd : o.dst = some d) (hb : Nat.blt d n = true)
    (ho : o.op = .build t ps) (hz : zer P t = some z) (hp : plc P t = some pl) (hps : parts E ps.toList = some l) (hf : fillL (fun i => pl[i]?) z l = some cs) (h : RL P n ops Q S rest ((d, .agg cs.toArray) :: E) w) :
    RL P n ops Q S ((T, o) :: rest) E w := by
  refine RL.val hg hd hb (fun w ac ha => ?_) h
  have hps' := ha.parts hps
  have hm : (ps.map fun (i, x) => (i, ac.eval x)).toList = l := by rw [← hps']; simp
  have hbuilt : P.built t (ps.map fun (i, x) => (i, ac.eval x)).toList = some cs.toArray := by
    unfold zer at hz
    unfold plc at hp
    unfold Program.built
    cases hi : P.info? t with
    | none => simp [hi] at hz
    | some i =>
      cases hzi : i.zero with
      | none => simp [hi, hzi] at hz
      | some zv =>
        simp only [hi, Option.bind_some, hzi, Option.map_some, Option.some.injEq] at hz
        have hze : zv.cells = z.toArray := by rw [← hz]
        split at hp
        · rename_i fs hu
          simp only [hu, hzi, hp, hm, hze]
          simpa using fillL_spec _ _ _ _ hf
        · cases hp
  unfold execOp
  simp only [ho, Sem.run_bind, run_build w t _ cs.toArray hbuilt, Result.andThen_ok, Sem.run_pure]

/-- A slice's literal: a new block. -/
theorem RL.buildSlice {t e : TypeId} {sz by_ len : Nat} {ps : Array (Nat × Operand)} {l : List (Nat × Value)} {z cs : List Value} (hg : wants ops E o = some true) (hd : o.dst = some d) (hb : Nat.blt d n = true)
    (ho : o.op = .buildSlice t len ps) (ht : slc P t = some (e, sz, by_)) (hz : zer P e = some z) (hzl : z.length = sz) (hlen : Nat.ble (len * sz) 16777216 = true) (hps : parts E ps.toList = some l)
    (hf0 : fillL (fun i => some (i * sz, sz)) (zsL len z) l = some cs) (hG : Good w s os)
    (h : ∀ b w', Good w' s (Res.one b (.cells cs.toArray e) :: os) → Aux w w' → S w' ∧ RL P n ops Q S rest ((d, .slice (some ⟨b, 0, none⟩) len len) :: E) w') : RL P n ops Q S ((false, o) :: rest) E w := by
  obtain ⟨h1, h2⟩ := h w.heap.size _ (hG.alloc (.cells cs.toArray e)) (Aux.alloc w _)
  have hf := fillL_spec _ _ _ _ hf0
  rw [← zsL_spec len sz z hzl] at hf
  refine RL.step hg hd hb (fun ac ha => ?_) h1 h2
  have hps' := ha.parts hps
  have hm : (ps.map fun (i, x) => (i, ac.eval x)).toList = l := by rw [← hps']; simp
  obtain ⟨hu, i, hi, rfl, _⟩ := slc_spec ht
  have hle : ¬ (len * i.size > 2 ^ 24) := by have := Nat.le_of_ble_eq_true hlen; omega
  unfold zer at hz
  cases hzi : i.zero with
  | none => simp [hi, hzi] at hz
  | some zv =>
    simp only [hi, Option.bind_some, hzi, Option.map_some, Option.some.injEq] at hz
    have hze : zv.cells = z.toArray := by rw [← hz]
    have hsz : (sizeOf e).run P w = .ok i.size w := by simp [sizeOf, typeInfo, hi]
    have hzv : (zeroValue e).run P w = .ok zv w := by simp [zeroValue, typeInfo, hi, hzi]
    unfold execOp
    simp only [ho]
    simp only [Instr.buildSlice, Sem.run_bind, run_underlying hu, Result.andThen_ok, hsz, if_neg hle, hm]
    by_cases h0 : len * i.size = 0
    · have hr : Array.range (len * i.size) = #[] := by rw [h0]; simp
      rw [hr] at hf
      simp only [List.map_toArray, List.map_nil] at hf
      rw [if_pos h0]
      simp only [Sem.run_pure, hr, List.map_toArray, List.map_nil, hf]
      simp [newRow]
    · rw [if_neg h0]
      simp only [Sem.run_bind, hzv, Sem.run_pure, Result.andThen_ok, hze, List.size_toArray, hf]
      simp [newRow]

/-! ### stores -/
theorem RL.store {t : TypeId} {b k j : Nat} {i : Nat} {ag : Bool} {cs : Array Value} {el : TypeId} {u : Value} (hg : wants ops E o = some true) (hd : o.dst = none) (ho : o.op = .store t x y) (ht : tyc P t = some (ag, k))
    (hx : ev E x = some (.pointer (some ((⟨b, 0, none⟩ : Addr).add j)))) (hy : ev E y = some u) (hG : Good w s os) (hi : os[i]? = some A) (hA : A b = some (.cells cs el (0, 0))) (hk : u.cells.size = k) (h1 : ∀ z ∈ u.cells.toList, z.oneCell' = true) (hj : j + k ≤ cs.size)
    (h : ∀ w', Good w' s (os.set i (A.put b (.cells (cs.toList.take j ++ u.cells.toList ++ cs.toList.drop (j + k)).toArray el (0, 0)))) → Aux w w' → S w' ∧ RL P n ops Q S rest E w') : RL P n ops Q S ((false, o) :: rest) E w := by
  have hf := hG.front i hi
  have hwb := hf.1 b _ hA
  have hrun := run_store_row (P := P) hwb ht hk h1 hj
  have hw := hf.write (w' := w.setRow b (cs.toList.take j ++ u.cells.toList ++ cs.toList.drop (j + k)).toArray) hA (setRow_heap w b cs _ el (0, 0) hwb) (fun k' _ hk' => setRow_other w b k' _ hk')
  obtain ⟨h2, h3⟩ := h _ (Good.back i hi hw) ⟨rfl, rfl, rfl, by simp⟩
  refine RL.skip hg hd (fun ac ha => ?_) h2 h3
  unfold execOp
  simp only [ho, ha.ev hx, ha.ev hy]
  simp [hrun]

/-! ### slices: an element's place, a part -/
theorem run_indexAt {t e : TypeId} {sz by_ m c : Nat} {k : IntKind} {ad : Addr} {i : Int} (ht : slc P t = some (e, sz, by_)) (h0 : 0 ≤ i) (h1 : i < m) (w : World) :
    (Instr.indexAt t (.slice (some ad) m c) (.int k i)).run P w = .ok (.pointer (some (ad.add (i.toNat * sz)))) w := by
  obtain ⟨hu, inf, hi, rfl, _⟩ := slc_spec ht
  simp [Instr.indexAt, asIntOf, run_underlying hu, h0, h1, sizeOf, typeInfo, hi]
/-- An element of a slice that nobody writes. -/
theorem RL.idx {α : Type} {R : Res → List Value → α → Prop} {t e : TypeId} {sz by_ c : Nat} {k : IntKind} {a : Option Addr} {xs : List α} {i : Int} (hg : wants ops E o = some true) (hd : o.dst = some d) (hb : Nat.blt d n = true)
    (ho : o.op = .indexAddr t x y) (ht : slc P t = some (e, sz, by_)) (hx : ev E x = some (.slice a xs.length c)) (hy : ev E y = some (.int k i)) (hI : Imm R sz s a c xs) (h0 : 0 ≤ i) (h1 : i < xs.length)
    (h : ∀ q vs, vs.length = sz → Holds s q vs → R s vs (xs[i.toNat]'(by omega)) → RL P n ops Q S rest ((d, .pointer (some (q.add 0))) :: E) w) : RL P n ops Q S ((T, o) :: rest) E w := by
  have hlt : i.toNat < xs.length := by omega
  rcases hI.2.2 with rfl | ⟨ad, rfl, hr⟩
  · simp at hlt
  · obtain ⟨vs, hl, hh, hR⟩ := hr.get (List.getElem?_eq_getElem hlt)
    have e0 : (ad.add (i.toNat * sz)).add 0 = ad.add (i.toNat * sz) := by unfold Addr.add; simp
    have := h _ vs hl hh hR
    rw [e0] at this
    refine RL.val hg hd hb (fun w ac ha => ?_) this
    unfold execOp
    simp only [ho, ha.ev hx, ha.ev hy]
    simp [run_indexAt ht h0 h1]
/-- An element of a slice of one's own. -/
theorem RL.idxOwn {α : Type} {R : Res → List Value → α → Prop} {t e : TypeId} {sz by_ c : Nat} {k : IntKind} {a : Option Addr} {xs : List α} {i : Int} {el : TypeId} (hg : wants ops E o = some true) (hd : o.dst = some d) (hb : Nat.blt d n = true)
    (ho : o.op = .indexAddr t x y) (ht : slc P t = some (e, sz, by_)) (hx : ev E x = some (.slice a xs.length c)) (hy : ev E y = some (.int k i)) (hI : Own R sz el s A a c xs) (h0 : 0 ≤ i) (h1 : i < xs.length)
    (h : ∀ g cs vs, a = some ⟨g, 0, none⟩ → A g = some (.cells cs el (0, 0)) → cs.size = c * sz → vs.length = sz → (∀ (j : Nat) u, vs[j]? = some u → cs.toList[i.toNat * sz + j]? = some u) → R s vs (xs[i.toNat]'(by omega)) →
      RL P n ops Q S rest ((d, .pointer (some ((⟨g, 0, none⟩ : Addr).add (i.toNat * sz)))) :: E) w) : RL P n ops Q S ((T, o) :: rest) E w := by
  have hlt : i.toNat < xs.length := by omega
  rcases hI with ⟨rfl, rfl, rfl⟩ | ⟨g, cs, rfl, hA, hl, hm, hs, hc⟩
  · simp at hlt
  · obtain ⟨vs, hl, hh, hR⟩ := hc.get (List.getElem?_eq_getElem hlt)
    refine RL.val hg hd hb (fun w ac ha => ?_) (h g cs vs rfl hA hs hl (fun j u hu => ?_) hR)
    · unfold execOp
      simp only [ho, ha.ev hx, ha.ev hy]
      simp [run_indexAt ht h0 h1]
    · have := hh j u hu
      rw [List.getElem?_take] at this
      split at this
      · exact this
      · cases this

end
end Go.Lw

/-
  THE WALK ENGINE, part 6: slices' parts, append, bytes to a string, interface values against nil, calls, a function's frame.
-/
namespace Go.Lw
open Go.RowKit

section
variable {P : Program} {n : Nat} {ops : Array Oper} {Q : Exit → Act → World → Prop} {S : World → Prop} {rest : List (Bool × Oper)} {E : Env} {w : World} {o : Oper} {d : Nat} {v : Value}
variable {s A : Res} {os : List Res} {x y : Operand} {T : Bool}

/-! ### x[lo:hi] of a slice that nobody writes -/
/-- A bound: absent, or a number. -/
def bnd (E : Env) (dflt : Nat) : Option Operand → Option Nat
  | none => some dflt
  | some x =>
    match ev E x with
    | some (.int _ i) => some i.toNat
    | _ => none

theorem Imm.part {α : Type} {R : Res → List Value → α → Prop} {sz c l h : Nat} {a : Option Addr} {xs : List α} (hI : Imm R sz s a c xs) (hl : l ≤ h) (hh : h ≤ xs.length) :
    Imm R sz s (if c = l then a else a.map (·.add (l * sz))) (c - l) ((xs.take h).drop l) ∧ ((xs.take h).drop l).length = h - l := by
  have hlen : ((xs.take h).drop l).length = h - l := by simp; omega
  refine ⟨⟨by rw [hlen]; have := hI.1; omega, by have := hI.2.1; omega, ?_⟩, hlen⟩
  by_cases he : h - l = 0
  · exact .inl (List.eq_nil_of_length_eq_zero (by rw [hlen]; exact he))
  · refine .inr ?_
    have hc := hI.1
    rcases hI.2.2 with rfl | ⟨ad, rfl, hr⟩
    · simp at hh; omega
    · have hne : ¬ c = l := by omega
      have e1 : xs = (xs.take h).take l ++ ((xs.take h).drop l ++ xs.drop h) := by rw [← List.append_assoc, List.take_append_drop, List.take_append_drop]
      rw [e1] at hr
      have hr2 := hr.drop
      have e2 : ((xs.take h).take l).length = l := by simp; omega
      rw [e2] at hr2
      exact ⟨ad.add (l * sz), by simp [hne], hr2.take⟩

theorem RL.part_ {α : Type} {R : Res → List Value → α → Prop} {t e : TypeId} {sz by_ c : Nat} {a : Option Addr} {xs : List α} {lo hi : Option Operand} (l h : Int) (hg : wants ops E o = some true) (hd : o.dst = some d) (hb : Nat.blt d n = true)
    (ho : o.op = .slice t x lo hi none) (ht : slc P t = some (e, sz, by_)) (hx : ev E x = some (.slice a xs.length c))
    (hlo : (lo = none ∧ l = 0) ∨ ∃ k z, lo = some z ∧ ev E z = some (.int k l)) (hhi : (hi = none ∧ h = xs.length) ∨ ∃ k z, hi = some z ∧ ev E z = some (.int k h))
    (hI : Imm R sz s a c xs) (h0 : 0 ≤ l) (h1 : l ≤ h) (h2 : h ≤ xs.length)
    (hK : ∀ a' c', Imm R sz s a' c' ((xs.take h.toNat).drop l.toNat) → RL P n ops Q S rest ((d, .slice a' ((xs.take h.toNat).drop l.toNat).length c') :: E) w) : RL P n ops Q S ((T, o) :: rest) E w := by
  obtain ⟨hI', hlen⟩ := hI.part (l := l.toNat) (h := h.toNat) (by omega) (by omega)
  refine RL.val hg hd hb (fun w ac ha => ?_) (hK _ _ hI')
  obtain ⟨hu, inf, hi', rfl, _⟩ := slc_spec ht
  have hsz : ∀ w : World, (sizeOf e).run P w = .ok inf.size w := fun w => by simp [sizeOf, typeInfo, hi']
  have hcap := hI.1
  have hl' : ∀ k (y : Nat) code, l ≤ y → (Instr.sliceBound (.int k l) y code).run P w = .ok l.toNat w := fun k y code hy => run_sliceBound w k l y code h0 hy
  have hh' : ∀ k (y : Nat) code, h ≤ y → (Instr.sliceBound (.int k h) y code).run P w = .ok h.toNat w := fun k y code hy => run_sliceBound w k h y code (by omega) hy
  rw [hlen]
  unfold execOp
  simp only [ho, ha.ev hx]
  rcases hlo with ⟨rfl, rfl⟩ | ⟨kl, zl, rfl, hzl⟩ <;> rcases hhi with ⟨rfl, rfl⟩ | ⟨kh, zh, rfl, hzh⟩
  · simp [Instr.sliceAt, Instr.slice, Instr.sliceBounds, run_underlying hu, hsz]
  · simp [Instr.sliceAt, Instr.slice, Instr.sliceBounds, run_underlying hu, hsz, ha.ev hzh, hh' kh c .sliceAcap (by omega)]
  · simp [Instr.sliceAt, Instr.slice, Instr.sliceBounds, run_underlying hu, hsz, ha.ev hzl, hl' kl xs.length .sliceB (by omega)]
  · simp [Instr.sliceAt, Instr.slice, Instr.sliceBounds, run_underlying hu, hsz, ha.ev hzl, ha.ev hzh, hh' kh c .sliceAcap (by omega), hl' kl h.toNat .sliceB (by omega)]

/-! ### append to a slice of one's own -/
theorem RL.append {α : Type} {R : Res → List Value → α → Prop} {t t2 e : TypeId} {sz by_ c : Nat} {i : Nat} {src : Value} {news z : List Value} {a : Option Addr} {xs ys : List α} (hg : wants ops E o = some true) (hd : o.dst = some d) (hb : Nat.blt d n = true)
    (ho : o.op = .call { callee := .builtin .append, args := #[x, y], argTypes := #[t, t2] }) (ht : slc P t = some (e, sz, by_)) (hz : zer P e = some z) (hzl : z.length = sz) (hone : One R)
    (hx : ev E x = some (.slice a xs.length c)) (hy : ev E y = some src) (hG : Good w s os) (hi : os[i]? = some A) (hown : Own R sz e s A a c xs) (hsrc : Src P w t2 sz src ys.length news) (hch : Chunks R sz s news ys)
    (hbytes : (xs.length + ys.length) * by_ ≤ 140737488355328) (hby : 0 < by_)
    (h : ∀ a' c' A' w', Good w' s (os.set i A') → Own R sz e s A' a' c' (xs ++ ys) → Aux w w' → (∀ b, A b ≠ none → (∀ ad, a = some ad → ad.block ≠ b) → A' b = A b) → S w' ∧ RL P n ops Q S rest ((d, .slice a' (xs ++ ys).length c') :: E) w') : RL P n ops Q S ((false, o) :: rest) E w := by
  have hmax : xs.length + ys.length ≤ maxLen := by
    have : (xs.length + ys.length) * 1 ≤ (xs.length + ys.length) * by_ := Nat.mul_le_mul_left _ hby
    simp only [maxLen]; omega
  obtain ⟨a', c', A', w', hrun, hG', hO', hA', hk⟩ := append_law (ty := o.type) (hG.front i hi) ht hz hzl hone hown hsrc hch hbytes hmax
  obtain ⟨h1, h2⟩ := h a' c' A' w' (Good.back i hi hG') hO' hA' hk
  refine RL.step hg hd hb (fun ac ha => ?_) h1 h2
  unfold execOp
  simp only [ho]
  simp only [resolve, invoke, builtin, Sem.run_bind, Sem.run_pure, Result.andThen_ok, List.map_toArray, List.map_cons, List.map_nil, ha.ev hx, ha.ev hy, hrun]

theorem Src.own {α : Type} {R : Res → List Value → α → Prop} {t e el : TypeId} {sz by_ : Nat} {a : Option Addr} {c : Nat} {ys : List α} (ht : slc P t = some (e, sz, by_)) (h : Own R sz el s A a c ys) (hin : In A w) :
    ∃ news, Src P w t sz (.slice a ys.length c) ys.length news ∧ Chunks R sz s news ys := by
  rcases h.row with rfl | ⟨ad, rfl, cs, hh, hc⟩
  · exact ⟨[], .slice ht (by simp) (.inl rfl) hin, rfl⟩
  · exact ⟨cs, .slice ht hc.length (.inr ⟨ad, rfl, hh⟩) hin, hc⟩

/-! ### bytes to a string -/
theorem bytes_cells {r : Res} {xs : List Int} {cs : List Value} (h : Chunks (RInt .u8) 1 r cs xs) : cs = xs.map (Value.int .u8) ∧ ∀ x ∈ xs, 0 ≤ x ∧ x < 256 := by
  induction xs generalizing cs with
  | nil => exact ⟨h, by simp⟩
  | cons x xs ih =>
    obtain ⟨vs, rest, rfl, _, ⟨rfl, hr⟩, h'⟩ := h
    obtain ⟨h1, h2⟩ := ih h'
    refine ⟨by rw [h1]; rfl, fun y hy => ?_⟩
    rcases List.mem_cons.1 hy with rfl | hy
    · exact hr
    · exact h2 y hy
theorem run_bts {t e st : TypeId} {by_ c : Nat} {a : Option Addr} {xs : List Int} {r s : Res} (ht : slc P t = some (e, 1, by_)) (he : P.underlying e = some (.int .u8)) (hst : P.underlying st = some .string)
    (hrow : xs = [] ∨ ∃ ad, a = some ad ∧ Row (RInt .u8) 1 r s ad xs) (hin : In r w) : (convert t st (.slice a xs.length c)).run P w = .ok (.string (strOfNums xs)) w := by
  have hu := (slc_spec ht).1
  rw [run_convert_bytes_string w t st e a xs.length c hu he hst]
  have key : ∀ ad, (loadCells ad xs.length).run P w = .ok (xs.map (Value.int .u8)).toArray w → (Conv.bytesToString (.slice (some ad) xs.length c)).run P w = .ok (.string (strOfNums xs)) w := fun ad hl => by
    rw [run_bytesToString w ad xs.length c xs hl, foldl_push_bytes]
    simp [strOfNums]
  cases a with
  | none =>
    rcases hrow with rfl | ⟨ad, h, _⟩
    · simp [Conv.bytesToString, strOfNums]; rfl
    · cases h
  | some ad =>
    refine key ad ?_
    rcases hrow with rfl | ⟨ad', h, cs, hh, hc⟩
    · simp [loadCells, loadCellsFrom]
    · cases h
      have := run_loadCells_list (P := P) w ad cs (fun j v hj => hh.cell hin hj)
      have hl := hc.length
      rw [Nat.mul_one] at hl
      rw [hl, (bytes_cells hc).1] at this
      exact this
theorem RL.bts {t e st : TypeId} {by_ c : Nat} {a : Option Addr} {xs : List Int} {r s : Res} (hg : wants ops E o = some true) (hd : o.dst = some d) (hb : Nat.blt d n = true) (ho : o.op = .convert t st x) (ht : slc P t = some (e, 1, by_)) (he : P.underlying e = some (.int .u8)) (hst : P.underlying st = some .string)
    (hx : ev E x = some (.slice a xs.length c)) (hrow : xs = [] ∨ ∃ ad, a = some ad ∧ Row (RInt .u8) 1 r s ad xs) (hin : In r w) (h : RL P n ops Q S rest ((d, .string (strOfNums xs)) :: E) w) : RL P n ops Q S ((false, o) :: rest) E w := fun hS =>
  RL.step hg hd hb (fun ac ha => by
    unfold execOp
    simp only [ho, ha.ev hx]
    simp [run_bts ht he hst hrow hin]) hS h hS
theorem RL.btsT {t e st : TypeId} {by_ c : Nat} {a : Option Addr} {xs : List Int} {r s : Res} (hg : wants ops E o = some true) (hd : o.dst = some d) (hb : Nat.blt d n = true) (ho : o.op = .convert t st x) (ht : slc P t = some (e, 1, by_)) (he : P.underlying e = some (.int .u8)) (hst : P.underlying st = some .string)
    (hx : ev E x = some (.slice a xs.length c)) (hrow : xs = [] ∨ ∃ ad, a = some ad ∧ Row (RInt .u8) 1 r s ad xs) (hin : ∀ w, S w → In r w) (h : RL P n ops Q S rest ((d, .string (strOfNums xs)) :: E) w) : RL P n ops Q S ((true, o) :: rest) E w :=
  RL.take hg hd hb (fun w hS ac ha => by
    unfold execOp
    simp only [ho, ha.ev hx]
    simp [run_bts ht he hst hrow (hin w hS)]) h

/-! ### calls -/
def evs (E : Env) : List Operand → Option (List Value)
  | [] => some []
  | x :: r =>
    match ev E x, evs E r with
    | some v, some l => some (v :: l)
    | _, _ => none
theorem At.evs {a : Act} (ha : At n E a) : ∀ {xs : List Operand} {l : List Value}, evs E xs = some l → xs.map a.eval = l
  | [], l, h => by simpa [Lw.evs] using h
  | x :: r, l, h => by
    simp only [Lw.evs] at h
    split at h
    · rename_i v l' hv hl
      simp only [Option.some.injEq] at h
      subst h
      simp [ha.ev hv, ha.evs hl]
    · cases h
theorem run_callFunc {f : FuncId} {args : Array Value} (h : callable P f = true) (w : World) : (callFunc f args).run P w = .ok (.enter f args) w := by
  unfold callable at h
  split at h
  · rename_i fn hf
    simp only [Bool.and_eq_true, Bool.not_eq_true'] at h
    obtain ⟨h1, h2⟩ := h
    have h3 : fn.body.isNone = false := by cases hb : fn.body <;> simp_all
    simp only [callFunc, Sem.run_bind, run_program, Result.andThen_ok, hf, h2, h3, Bool.false_eq_true, if_false, Sem.run_pure]
  · cases h

theorem RL.call {f : FuncId} {args : Array Operand} {ats : Array TypeId} {l : List Value} {w0 : World} {s0 : Res} {os0 : List Res} {Φ : Res → Res → Value → Prop} (hg : wants ops E o = some true) (hd : o.dst = some d) (hb : Nat.blt d n = true)
    (ho : o.op = .call { callee := .value (.func f), args := args, argTypes := ats }) (hl : evs E args.toList = some l) (hc : callable P f = true) (hct : Calls P f l.toArray w (Post w0 s0 os0 Φ))
    (h : ∀ v s' A w', Le s0 s' → Good w' s' (A :: os0) → Aux w0 w' → Φ s' A v → S w' ∧ RL P n ops Q S rest ((d, v) :: E) w') : RL P n ops Q S ((false, o) :: rest) E w := fun _ ac ha => by
  have hargs : (args.map ac.eval) = l.toArray := by
    rw [← Array.toArray_toList (xs := args), List.map_toArray, ha.evs hl]
  have hev : ac.eval (.func f) = .func (.func f) #[] #[] := rfl
  simp only [RA, ha.wants hg, if_true]
  unfold Oper.wp
  have hrun : (execOp ac.eval o).run P w = .ok (.enter f l.toArray) w := by
    unfold execOp
    simp only [ho]
    simp only [resolve, hargs, hev, Deferred.ofValue, invoke, Sem.run_bind, Sem.run_pure, Result.andThen_ok, Array.append_empty, Array.empty_append, run_callFunc hc]
  rw [hrun]
  simp only [Oper.upon]
  refine hct.mono fun e w' hp => ?_
  obtain ⟨v, s', A, rfl, h1, h2, h3, h4⟩ := hp
  obtain ⟨h5, h6⟩ := h v s' A w' h1 h2 h3 h4
  simp only [hd]
  exact ⟨h5, h6 h5 _ (ha.put hb v)⟩

/-! ### a function's frame -/
def envOf : Nat → List Value → Env
  | _, [] => []
  | k, v :: r => (k, v) :: envOf (k + 1) r
theorem look_envOf : ∀ (l : List Value) (k t : Nat) (v : Value), look (envOf k l) t = some v → k ≤ t ∧ l[t - k]? = some v
  | [], k, t, v, h => by simp [envOf, look] at h
  | u :: r, k, t, v, h => by
    simp only [envOf, look] at h
    by_cases hk : Nat.beq k t = true
    · rw [hk] at h
      have hkt : k = t := Nat.eq_of_beq_eq_true hk
      subst hkt
      simpa using h
    · rw [Bool.not_eq_true] at hk
      rw [hk] at h
      simp only [cond_false] at h
      obtain ⟨h1, h2⟩ := look_envOf r (k + 1) t v h
      refine ⟨by omega, ?_⟩
      rw [show t - k = (t - (k + 1)) + 1 by omega]
      simpa using h2

theorem enter {f : FuncId} {fn : Func} {c : Code} {l : List Value} {R : Ending → World → Prop} {m : Nat} (hf : P.funcs[f]? = some fn) (hb : fn.body = some c) (hm : fn.ntmps = m) (hl : Nat.ble l.length m = true)
    (h : CW P m c (bodyPost P fn R) (envOf 0 l) w) : Calls P f l.toArray w R := by
  refine calls_of_wp hf hb (h _ ⟨?_, rfl, fun t v ht => ?_⟩)
  · have := Nat.le_of_ble_eq_true hl
    simp [hm]; omega
  · obtain ⟨_, h2⟩ := look_envOf l 0 t v ht
    simp only [Nat.sub_zero] at h2
    have hlt := (List.getElem?_eq_some_iff.1 h2).1
    rw [Array.getElem?_append_left (by simpa using hlt)]
    simpa using h2

/-- What the function hands back. -/
def Gives (P : Program) (w : World) (E : Env) : List ResultVar → List Value → Prop
  | [], vs => vs = []
  | .tmp t :: r, vs => ∃ v us, vs = v :: us ∧ look E t = some v ∧ Gives P w E r us
  | .cell t ty :: r, vs => ∃ v us ad, vs = v :: us ∧ look E t = some (.pointer (some ad)) ∧ (loadVar ty ad).run P w = .ok v w ∧ Gives P w E r us
def whole : List Value → Value
  | [v] => v
  | vs => .tuple vs.toArray
def resFn (tmps : Array Value) : ResultVar → Sem Value
  | .tmp t => pure (tmps.getD t undef)
  | .cell c t => do loadVar t (← asAddr (tmps.getD c undef))
theorem results_eq (fn : Func) (tmps : Array Value) : results fn tmps = (do let vs ← fn.results.mapM (resFn tmps); pure (if h : vs.size = 1 then vs[0] else .tuple vs)) := by
  rfl
theorem gives_list {a : Act} (ha : At n E a) (w : World) : ∀ (rs : List ResultVar) (vs : List Value), Gives P w E rs vs → (rs.mapM (resFn a.tmps)).run P w = Result.ok vs w
  | [], vs, h => by rw [show vs = [] from h]; simp
  | .tmp t :: r, vs, h => by
    obtain ⟨v, us, rfl, hv, h'⟩ := h
    have ih := gives_list ha w r us h'
    simp only [List.mapM_cons, resFn, Sem.run_bind, Sem.run_pure, Result.andThen_ok, ha.getD hv]
    rw [ih]
    rfl
  | .cell t ty :: r, vs, h => by
    obtain ⟨v, us, ad, rfl, hv, hl, h'⟩ := h
    have ih := gives_list ha w r us h'
    simp only [List.mapM_cons, resFn, Sem.run_bind, ha.getD hv, asAddr, Sem.run_pure, Result.andThen_ok, hl]
    rw [ih]
    rfl
theorem gives_run {a : Act} (ha : At n E a) (w : World) (fn : Func) {vs : List Value} (h : Gives P w E fn.results.toList vs) : (results fn a.tmps).run P w = .ok (whole vs) w := by
  have hk := gives_list ha w _ vs h
  rw [results_eq, ← Array.toArray_toList (xs := fn.results), List.mapM_toArray]
  rw [Sem.run_bind, Sem.run_map, hk]
  simp only [Result.andThen_ok, Sem.run_pure]
  match vs with
  | [] => simp [whole]
  | [v] => simp [whole]
  | u :: v :: r => simp [whole]

/-- The function's end. -/
theorem ret {fn : Func} {R : Ending → World → Prop} {vs : List Value} (hv : Gives P w E fn.results.toList vs) (h : R (.returned (whole vs)) w) : ∀ a, At n E a → bodyPost P fn R .ret a w :=
  fun _ ha => ⟨ha.dfr, _, gives_run ha w fn hv, h⟩
theorem fall {fn : Func} {R : Ending → World → Prop} {vs : List Value} (hv : Gives P w E fn.results.toList vs) (h : R (.returned (whole vs)) w) : ∀ a, At n E a → bodyPost P fn R .normal a w :=
  fun _ ha => ⟨ha.dfr, _, gives_run ha w fn hv, h⟩
end
end Go.Lw

/-
  THE WALK ENGINE, part 7: strings as lists of bytes' numbers.
-/
namespace Go.Lw

/-- A string's bytes. -/
def nums (b : ByteArray) : List Int := b.data.toList.map fun x => (x.toNat : Int)
theorem nums_length (b : ByteArray) : (nums b).length = b.size := by unfold nums; rw [List.length_map, Array.length_toList]; rfl
theorem nums_rng (b : ByteArray) : ∀ x ∈ nums b, 0 ≤ x ∧ x < 256 := by
  intro x hx
  simp only [nums, List.mem_map] at hx
  obtain ⟨y, _, rfl⟩ := hx
  have := y.toNat_lt
  omega
theorem nums_of {xs : List Int} (h : ∀ x ∈ xs, 0 ≤ x ∧ x < 256) : nums (strOfNums xs) = xs := by
  simp only [nums, strOfNums, List.map_map]
  rw [List.map_congr_left (g := id)]
  · simp
  · intro x hx
    have := h x hx
    simp only [Function.comp, id]
    rw [UInt8.toNat_ofNat']
    omega
theorem of_nums (b : ByteArray) : strOfNums (nums b) = b := by
  obtain ⟨d⟩ := b
  simp only [strOfNums, nums, List.map_map]
  congr 1
  have : (fun n : Int => UInt8.ofNat n.toNat) ∘ (fun x : UInt8 => (x.toNat : Int)) = id := by
    funext x; simp
  rw [this]; simp
theorem nums_inj {a b : ByteArray} (h : nums a = nums b) : a = b := by rw [← of_nums a, ← of_nums b, h]

theorem ints_chunks {k : IntKind} {s : Res} : ∀ {xs : List Int}, (∀ x ∈ xs, rng k x) → Chunks (RInt k) 1 s (xs.map (Value.int k)) xs
  | [], _ => rfl
  | x :: xs, h => ⟨[.int k x], _, rfl, rfl, ⟨rfl, h x (by simp)⟩, ints_chunks fun y hy => h y (by simp [hy])⟩
theorem nums_chunks (b : ByteArray) (s : Res) : Chunks (RInt .u8) 1 s ((nums b).map (Value.int .u8)) (nums b) := ints_chunks (nums_rng b)
theorem Src.str {P : Program} {w : World} {t : TypeId} {b : ByteArray} (ht : P.underlying t = some .string) : Src P w t 1 (.string b) (nums b).length ((nums b).map (Value.int .u8)) := by
  refine ⟨.inl ht, fun w' => by simp [Builtin.lenOf, nums_length], fun w' _ => ?_, by simp⟩
  have h1 : b.extract 0 (nums b).length = b := by rw [nums_length]; exact ByteArray.extract_zero_size
  simp only [Builtin.firstCells, h1, Sem.run_pure]
  congr 1
  apply Array.ext'
  simp [nums]
theorem Chunks.rng {k : IntKind} {s : Res} {cs : List Value} {xs : List Int} (h : Chunks (RInt k) 1 s cs xs) : cs = xs.map (Value.int k) ∧ ∀ x ∈ xs, Lw.rng k x := by
  induction xs generalizing cs with
  | nil => exact ⟨h, by simp⟩
  | cons x xs ih =>
    obtain ⟨vs, rest, rfl, _, ⟨rfl, hr⟩, h'⟩ := h
    obtain ⟨h1, h2⟩ := ih h'
    refine ⟨by rw [h1]; rfl, fun y hy => ?_⟩
    rcases List.mem_cons.1 hy with rfl | hy
    · exact hr
    · exact h2 y hy
theorem Imm.rng {k : IntKind} {s : Res} {a : Option Addr} {c : Nat} {xs : List Int} (h : Imm (RInt k) 1 s a c xs) : ∀ x ∈ xs, Lw.rng k x := by
  rcases h.2.2 with rfl | ⟨ad, rfl, cs, hh, hc⟩
  · simp
  · exact hc.rng.2
theorem Own.rng {k : IntKind} {s A : Res} {el : TypeId} {a : Option Addr} {c : Nat} {xs : List Int} (h : Own (RInt k) 1 el s A a c xs) : ∀ x ∈ xs, Lw.rng k x := by
  rcases h.row with rfl | ⟨ad, rfl, cs, hh, hc⟩
  · simp
  · exact hc.rng.2
end Go.Lw

/-
  THE WALK ENGINE, part 8: nil slices, signs, texts to bytes, marks.
-/
namespace Go.Lw

section
variable {P : Program} {n : Nat} {ops : Array Oper} {Q : Exit → Act → World → Prop} {S : World → Prop} {rest : List (Bool × Oper)} {E : Env} {w : World} {o : Oper} {d : Nat} {v : Value}
variable {s A : Res} {os : List Res} {x y : Operand} {T : Bool}

theorem run_eqGuard_slice (P : Program) (op : BinOp) (t : TypeId) (x y : Operand) (a a' : Option Addr) (n c n' c' : Nat) (w : World) : (eqGuard op t x y (.slice a n c) (.slice a' n' c')).run P w = .ok () w := by
  unfold eqGuard
  cases op <;> rfl
/-- xs == nil -/
theorem RL.nilEq {t e : TypeId} {yt : TypeId} {sz by_ m c m' c' : Nat} {a : Option Addr} (hg : wants ops E o = some true) (hd : o.dst = some d) (hb : Nat.blt d n = true) (ho : o.op = .binOp .eql t x y yt) (ht : slc P t = some (e, sz, by_))
    (hx : ev E x = some (.slice a m c)) (hy : ev E y = some (.slice none m' c')) (h : RL P n ops Q S rest ((d, .bool a.isNone) :: E) w) : RL P n ops Q S ((T, o) :: rest) E w := by
  refine RL.val hg hd hb (fun w ac ha => ?_) h
  unfold execOp
  simp only [ho, ha.ev hx, ha.ev hy, Sem.run_bind, run_eqGuard_slice, Result.andThen_ok]
  have := Lib.run_equalIn_slice_nil (P := P) w 9999 t e a m c m' c' (slc_spec ht).1
  simp [binOp, Op.equal, Op.maxDepth, this]
theorem RL.nilNe {t e : TypeId} {yt : TypeId} {sz by_ m c m' c' : Nat} {a : Option Addr} (hg : wants ops E o = some true) (hd : o.dst = some d) (hb : Nat.blt d n = true) (ho : o.op = .binOp .neq t x y yt) (ht : slc P t = some (e, sz, by_))
    (hx : ev E x = some (.slice a m c)) (hy : ev E y = some (.slice none m' c')) (h : RL P n ops Q S rest ((d, .bool (!a.isNone)) :: E) w) : RL P n ops Q S ((T, o) :: rest) E w := by
  refine RL.val hg hd hb (fun w ac ha => ?_) h
  unfold execOp
  simp only [ho, ha.ev hx, ha.ev hy, Sem.run_bind, run_eqGuard_slice, Result.andThen_ok]
  simp [run_neq_slice_nil_any (P := P) w t e a m c m' c' (slc_spec ht).1]

theorem RL.neg {k : IntKind} {a : Int} {t : TypeId} (hg : wants ops E o = some true) (hd : o.dst = some d) (hb : Nat.blt d n = true) (ho : o.op = .unOp .neg t x) (hx : ev E x = some (.int k a)) (hr : rng k (-a)) (h : RL P n ops Q S rest ((d, .int k (-a)) :: E) w) : RL P n ops Q S ((T, o) :: rest) E w := by
  refine RL.val hg hd hb (fun w ac ha => ?_) h
  unfold execOp
  simp only [ho, ha.ev hx]
  simp [Op.unary, Op.intArith, hr.wrap]

/-- []byte(s) -/
theorem RL.stb {src t e : TypeId} {sz by_ : Nat} {b : ByteArray} (hg : wants ops E o = some true) (hd : o.dst = some d) (hb : Nat.blt d n = true) (ho : o.op = .convert src t x) (hs : P.underlying src = some .string) (ht : slc P t = some (e, sz, by_)) (he : P.underlying e = some (.int .u8))
    (hx : ev E x = some (.string b)) (hsz : b.size ≤ maxLen) (hG : Good w s os)
    (h : ∀ a c s' w', Good w' s' os → Le s s' → Aux w w' → Imm (RInt .u8) 1 s' (some a) c (nums b) → S w' ∧ RL P n ops Q S rest ((d, .slice (some a) (nums b).length c) :: E) w') : RL P n ops Q S ((false, o) :: rest) E w := by
  have hrun := Lib.run_convert_string_bytes (P := P) w src t e b hs (slc_spec ht).1 he
  have hsz' : (Lib.bytesWorld w e b).heap.size = w.heap.size + 1 := Lib.bytesWorld_size w e b
  let x0 : Obj := .cells (Lib.bytesCells w e b) e ((Lib.bytesCells w e b).size, (Lib.bytesCells w e b).size + 1)
  have hk : ∀ k, k < w.heap.size → (Lib.bytesWorld w e b).heap[k]? = w.heap[k]? := fun k hk => Lib.bytesWorld_at_old w e b k hk
  have hfar : ∀ q, In q w → Apart (Res.one w.heap.size x0) q := fun q hq k hk0 => by
    by_cases hkb : k = w.heap.size
    · subst hkb
      cases hqb : q w.heap.size with
      | none => rfl
      | some y => exact absurd (hq.lt (by rw [hqb]; simp)) (Nat.lt_irrefl _)
    · simp [Res.one, hkb] at hk0
  have hgood : Good (Lib.bytesWorld w e b) s (Res.one w.heap.size x0 :: os) := by
    refine ⟨fun k y hy => ?_, hfar s hG.sh, fun q hq => hfar q (hG.mem hq), hG.keep hk⟩
    by_cases hkb : k = w.heap.size
    · subst hkb
      simp [Res.one] at hy
      subst hy
      exact Lib.bytesWorld_at_new w e b
    · simp [Res.one, hkb] at hy
  have hax : Aux w (Lib.bytesWorld w e b) := ⟨rfl, rfl, rfl, by rw [hsz']; omega⟩
  have hap := hgood.2.1
  have hn := nums_length b
  have himm : Imm (RInt .u8) 1 (s.join (Res.one w.heap.size x0)) (some ⟨w.heap.size, 0, none⟩) (grownCap w b.size 0 e) (nums b) := by
    refine ⟨by rw [hn]; exact grownCap_ge w b.size 0 e, grownCap_le_maxLen w _ 0 e hsz, .inr ⟨_, rfl, _, ?_, nums_chunks b _⟩⟩
    refine Holds.le (r := Res.one w.heap.size x0) ⟨Lib.bytesCells w e b, e, ((Lib.bytesCells w e b).size, (Lib.bytesCells w e b).size + 1), by simp [Res.one, x0], rfl, fun j u hu => ?_⟩ (Res.le_join_right hap.symm)
    have hlt : j < b.data.size := by
      have := (List.getElem?_eq_some_iff.1 hu).1
      simpa [nums] using this
    simp only [nums, List.map_map, List.getElem?_map, Array.getElem?_toList] at hu
    simp only [Lib.bytesCells, Nat.zero_add]
    rw [Array.getElem?_append_left (by simpa using hlt), Array.getElem?_map]
    exact hu
  obtain ⟨h1, h2⟩ := h _ _ _ _ hgood.share (Res.le_join_left _ _) hax himm
  refine RL.step hg hd hb (fun ac ha => ?_) h1 h2
  unfold execOp
  simp only [ho, ha.ev hx, hn]
  simp [hrun]

/-- A new block, shared from the start. -/
theorem boxed {b : Nat} {cs : Array Value} {el : TypeId} {fr : Nat × Nat} (h : Good w s (Res.one b (.cells cs el fr) :: os)) : ∃ s1, Good w s1 os ∧ Le s s1 ∧ Holds s1 ⟨b, 0, none⟩ cs.toList :=
  ⟨_, h.share, Res.le_join_left _ _, (show Holds (Res.one b (.cells cs el fr)) ⟨b, 0, none⟩ cs.toList from ⟨cs, el, fr, by simp [Res.one], rfl, fun j u hj => by simpa using hj⟩).le (Res.le_join_right h.2.1.symm)⟩
/-- A piece that is let go, shared from now on. -/
theorem Good.letgo (h : Good w s (A :: os)) : ∃ s1, Good w s1 os ∧ Le s s1 ∧ Le A s1 := ⟨_, h.share, Res.le_join_left _ _, Res.le_join_right h.2.1.symm⟩
end

/-! ### signs in a number -/
theorem wrap_u64 (v : Int) : IntKind.u64.wrap v = v % 18446744073709551616 := by simp [IntKind.wrap, IntKind.bits, IntKind.signed]
theorem zig (v : Int) (hv : rng .i64 v) : IntKind.u64.wrap ((BitVec.ofInt IntKind.u64.bits (IntKind.u64.wrap (IntKind.u64.wrap v * 2 ^ 1)) ^^^ BitVec.ofInt IntKind.u64.bits (IntKind.u64.wrap (v / 2 ^ 63))).toNat) = if v < 0 then -2 * v - 1 else 2 * v := by
  simp only [rng] at hv
  change IntKind.u64.wrap ((BitVec.ofInt 64 _ ^^^ BitVec.ofInt 64 _).toNat) = _
  simp only [wrap_u64]
  by_cases h : v < 0
  · rw [if_pos h]
    have e1 : v / 2 ^ 63 % 18446744073709551616 = 18446744073709551615 := by omega
    have e2 : v % 18446744073709551616 * 2 ^ 1 % 18446744073709551616 = 18446744073709551616 + 2 * v := by omega
    rw [e1, e2]
    have e3 : BitVec.ofInt 64 18446744073709551615 = BitVec.allOnes 64 := by decide
    rw [e3, BitVec.xor_allOnes, BitVec.toNat_not, BitVec.toNat_ofInt]
    omega
  · rw [if_neg h]
    have e1 : v / 2 ^ 63 % 18446744073709551616 = 0 := by omega
    have e2 : v % 18446744073709551616 * 2 ^ 1 % 18446744073709551616 = 2 * v := by omega
    rw [e1, e2]
    have e3 : BitVec.ofInt 64 0 = 0#64 := by decide
    rw [e3, BitVec.xor_zero, BitVec.toNat_ofInt]
    omega
end Go.Lw

/-
  THE WALK ENGINE, part 9: arrays by pointer, complements, 32-bit numbers as bits.
-/
namespace Go.Lw

theorem arr_spec {P : Program} {t e : TypeId} {m sz : Nat} (h : arr P t = some (m, e, sz)) : P.underlying t = some (.array m e) ∧ ∃ i, P.info? e = some i ∧ i.size = sz := by
  unfold arr at h
  split at h
  · rename_i m' e' he
    cases hi : P.info? e' with
    | none => simp [hi] at h
    | some i =>
      simp only [hi, Option.map_some, Option.some.injEq, Prod.mk.injEq] at h
      obtain ⟨rfl, rfl, h3⟩ := h
      exact ⟨he, i, hi, h3⟩
  · cases h

section
variable {P : Program} {n : Nat} {ops : Array Oper} {Q : Exit → Act → World → Prop} {S : World → Prop} {rest : List (Bool × Oper)} {E : Env} {w : World} {o : Oper} {d : Nat} {v : Value}
variable {s A : Res} {os : List Res} {x y : Operand} {T : Bool}

/-- An element of an array, by the array's address. -/
theorem RL.idxA {t e : TypeId} {m sz : Nat} {k : IntKind} {i : Int} {ad : Addr} (hg : wants ops E o = some true) (hd : o.dst = some d) (hb : Nat.blt d n = true) (ho : o.op = .indexAddr t x y) (ht : arr P t = some (m, e, sz))
    (hx : ev E x = some (.pointer (some ad))) (hy : ev E y = some (.int k i)) (h0 : 0 ≤ i) (h1 : i < m) (h : RL P n ops Q S rest ((d, .pointer (some (ad.add (i.toNat * sz)))) :: E) w) : RL P n ops Q S ((T, o) :: rest) E w := by
  refine RL.val hg hd hb (fun w ac ha => ?_) h
  obtain ⟨hu, inf, hi, rfl⟩ := arr_spec ht
  unfold execOp
  simp only [ho, ha.ev hx, ha.ev hy]
  simp [Instr.indexAt, Instr.sureAddr, asIntOf, run_underlying hu, h0, h1, sizeOf, typeInfo, hi]

/-- []byte(xs) of bytes of one's own: the array bears a mark. -/
theorem RL.mark {t e : TypeId} {sz by_ m c b i : Nat} {cs : Array Value} {el : TypeId} (hg : wants ops E o = some true) (hd : o.dst = some d) (hb : Nat.blt d n = true) (ho : o.op = .convert t t x) (ht : slc P t = some (e, sz, by_)) (he : P.underlying e = some (.int .u8))
    (hx : ev E x = some (.slice (some ⟨b, 0, none⟩) m c)) (hG : Good w s os) (hi : os[i]? = some A) (hA : A b = some (.cells cs el (0, 0)))
    (h : ∀ w', Good w' s (os.set i (A.put b (.cells cs el (cs.size, cs.size + 1)))) → Aux w w' → S w' ∧ RL P n ops Q S rest ((d, .slice (some ⟨b, 0, none⟩) m c) :: E) w') : RL P n ops Q S ((false, o) :: rest) E w := by
  have hf := hG.front i hi
  have hwb := hf.1 b _ hA
  obtain ⟨hu, _⟩ := slc_spec ht
  have hsh : w.shape? b = some (el, cs.size) := by simp [World.shape?, hwb]
  have hat : (w.freeze ⟨b, cs.size, none⟩ 1).heap[b]? = some (.cells cs el (cs.size, cs.size + 1)) := by
    simp only [World.freeze, Nat.one_ne_zero, if_false, Array.getElem?_modify, if_true, hwb, Option.map_some, beq_self_eq_true]
  have hot : ∀ k, k < w.heap.size → k ≠ b → (w.freeze ⟨b, cs.size, none⟩ 1).heap[k]? = w.heap[k]? := fun k _ hk => by
    simp [World.freeze, Array.getElem?_modify, Ne.symm hk]
  obtain ⟨h1, h2⟩ := h (w.freeze ⟨b, cs.size, none⟩ 1) (Good.back i hi (hf.write hA hat hot)) ⟨rfl, rfl, rfl, by simp [World.freeze]⟩
  refine RL.step hg hd hb (fun ac ha => ?_) h1 h2
  unfold execOp
  simp only [ho, ha.ev hx]
  simp [convert, run_underlying hu, run_underlying he, markStringish, hsh]

/-- A call's end: a value; memory as it was, or more of it that nobody speaks of. -/
def PostV (w : World) (s : Res) (os : List Res) (Φ : Value → Prop) : Ending → World → Prop := fun e w' => ∃ v, e = .returned v ∧ Good w' s os ∧ Aux w w' ∧ Φ v
theorem PostV.mk {w w' : World} {s : Res} {os : List Res} {Φ : Value → Prop} {v : Value} (hg : Good w' s os) (ha : Aux w w') (h : Φ v) : PostV w s os Φ (.returned v) w' := ⟨v, rfl, hg, ha, h⟩
theorem RL.callV {f : FuncId} {args : Array Operand} {ats : Array TypeId} {l : List Value} {w0 : World} {s0 : Res} {os0 : List Res} {Φ : Value → Prop} (hg : wants ops E o = some true) (hd : o.dst = some d) (hb : Nat.blt d n = true)
    (ho : o.op = .call { callee := .value (.func f), args := args, argTypes := ats }) (hl : evs E args.toList = some l) (hc : callable P f = true) (hct : Calls P f l.toArray w (PostV w0 s0 os0 Φ))
    (h : ∀ v w', Good w' s0 os0 → Aux w0 w' → Φ v → S w' ∧ RL P n ops Q S rest ((d, v) :: E) w') : RL P n ops Q S ((false, o) :: rest) E w :=
  RL.call (w0 := w0) (s0 := s0) (os0 := os0) (Φ := fun s' A v => s' = s0 ∧ A = Res.nil ∧ Φ v) hg hd hb ho hl hc
    (hct.mono fun e w' ⟨v, he, hgd, hax, hv⟩ => ⟨v, s0, Res.nil, he, Le.refl _, hgd.nil, hax, rfl, rfl, hv⟩)
    (fun v s' A w' _ hgd hax ⟨hs, hA, hv⟩ => by subst hs; subst hA; exact h v w' hgd.drop hax hv)

/-- A call, whatever is known of its end. -/
theorem RL.callG {f : FuncId} {args : Array Operand} {ats : Array TypeId} {l : List Value} {R : Ending → World → Prop} (hg : wants ops E o = some true) (hd : o.dst = some d) (hb : Nat.blt d n = true)
    (ho : o.op = .call { callee := .value (.func f), args := args, argTypes := ats }) (hl : evs E args.toList = some l) (hc : callable P f = true) (hct : Calls P f l.toArray w R)
    (h : ∀ e w', R e w' → ∃ v, e = .returned v ∧ S w' ∧ RL P n ops Q S rest ((d, v) :: E) w') : RL P n ops Q S ((false, o) :: rest) E w := fun _ ac ha => by
  have hargs : (args.map ac.eval) = l.toArray := by
    rw [← Array.toArray_toList (xs := args), List.map_toArray, ha.evs hl]
  have hev : ac.eval (.func f) = .func (.func f) #[] #[] := rfl
  simp only [RA, ha.wants hg, if_true]
  unfold Oper.wp
  have hrun : (execOp ac.eval o).run P w = .ok (.enter f l.toArray) w := by
    unfold execOp
    simp only [ho]
    simp only [resolve, hargs, hev, Deferred.ofValue, invoke, Sem.run_bind, Sem.run_pure, Result.andThen_ok, Array.append_empty, Array.empty_append, run_callFunc hc]
  rw [hrun]
  simp only [Oper.upon]
  refine hct.mono fun e w' hp => ?_
  obtain ⟨v, rfl, h5, h6⟩ := h e w' hp
  simp only [hd]
  exact ⟨h5, h6 h5 _ (ha.put hb v)⟩
/-- Two pieces of one's own at the end. -/
def Post2 (w : World) (s : Res) (os : List Res) (Φ : Res → Res → Res → Value → Prop) : Ending → World → Prop := fun e w' =>
  ∃ v s' B A, e = .returned v ∧ Le s s' ∧ Good w' s' (B :: A :: os) ∧ Aux w w' ∧ Φ s' B A v
theorem Post2.mk {w w' : World} {s s' A B : Res} {os : List Res} {Φ : Res → Res → Res → Value → Prop} {v : Value} (hl : Le s s') (hg : Good w' s' (B :: A :: os)) (ha : Aux w w') (h : Φ s' B A v) : Post2 w s os Φ (.returned v) w' :=
  ⟨v, s', B, A, rfl, hl, hg, ha, h⟩

theorem RL.compl {k : IntKind} {a : Int} {t : TypeId} (hg : wants ops E o = some true) (hd : o.dst = some d) (hb : Nat.blt d n = true) (ho : o.op = .unOp .xor t x) (hx : ev E x = some (.int k a))
    (h : RL P n ops Q S rest ((d, .int k (k.wrap ((BitVec.ofInt k.bits (if k.signed then -1 else k.max) ^^^ BitVec.ofInt k.bits a).toNat))) :: E) w) : RL P n ops Q S ((T, o) :: rest) E w := by
  refine RL.val hg hd hb (fun w ac ha => ?_) h
  unfold execOp
  simp only [ho, ha.ev hx]
  simp [Op.unary, Op.intBits]
end

theorem Own.le_cap {α : Type} {R : Res → List Value → α → Prop} {sz c : Nat} {el : TypeId} {s A : Res} {a : Option Addr} {xs : List α} (h : Own R sz el s A a c xs) : xs.length ≤ c := by
  rcases h with ⟨_, rfl, rfl⟩ | ⟨_, _, _, _, h, _⟩
  · simp
  · exact h
/-- An element of one's own slice is written. -/
theorem Own.set {α : Type} {R : Res → List Value → α → Prop} {sz g c i : Nat} {el : TypeId} {s A : Res} {xs : List α} {cs : Array Value} {vs : List Value} {x : α} (h : Own R sz el s A (some ⟨g, 0, none⟩) c xs) (hA : A g = some (.cells cs el (0, 0)))
    (hi : i < xs.length) (hv : vs.length = sz) (hx : R s vs x) :
    Own R sz el s (A.put g (.cells (cs.toList.take (i * sz) ++ vs ++ cs.toList.drop (i * sz + sz)).toArray el (0, 0))) (some ⟨g, 0, none⟩) c (xs.set i x) := by
  rcases h with ⟨h, _⟩ | ⟨g', cs', h, hg, hl, hc, hcs, hch⟩
  · cases h
  · cases h
    rw [hA] at hg
    cases hg
    have hle : xs.length * sz ≤ cs.size := by rw [hcs]; exact Nat.mul_le_mul_right _ hl
    have hi' : i * sz + sz ≤ xs.length * sz := by
      have := Nat.mul_le_mul_right sz (Nat.succ_le_of_lt hi)
      rwa [Nat.succ_mul] at this
    refine .inr ⟨g, _, rfl, put_same _ _ _, by simpa using hl, hc, ?_, ?_⟩
    · rw [← hcs]
      simp only [List.size_toArray, List.length_append, List.length_take, List.length_drop, Array.length_toList, hv]
      omega
    · have := Chunks.set hch hi hv hx
      rw [List.length_set]
      have e : (cs.toList.take (i * sz) ++ vs ++ cs.toList.drop (i * sz + sz)).take (xs.length * sz) = (cs.toList.take (xs.length * sz)).take (i * sz) ++ vs ++ (cs.toList.take (xs.length * sz)).drop (i * sz + sz) := by
        have h1 : (cs.toList.take (xs.length * sz)).take (i * sz) = cs.toList.take (i * sz) := by rw [List.take_take]; congr 1; omega
        have h2 : (cs.toList.take (i * sz) ++ vs).length = i * sz + sz := by simp [hv]; omega
        rw [h1, List.take_append, List.take_of_length_le (by rw [h2]; exact hi'), h2]
        congr 1
        rw [List.drop_take]
      simp only [e]
      exact this

/-! ### 32 bits -/
abbrev u32 (c : BitVec 32) : Value := .int .u32 c.toNat
theorem wrap_u32 (c : BitVec 32) : IntKind.u32.wrap c.toNat = c.toNat := by
  have := c.isLt
  simp [IntKind.wrap, IntKind.bits, IntKind.signed]; omega
theorem ofInt32 (c : BitVec 32) : BitVec.ofInt 32 (c.toNat : Int) = c := by
  rw [BitVec.ofInt_natCast, BitVec.ofNat_toNat]; simp
theorem xor32 (a b : BitVec 32) : Value.int .u32 (IntKind.u32.wrap ((BitVec.ofInt IntKind.u32.bits (a.toNat : Int) ^^^ BitVec.ofInt IntKind.u32.bits (b.toNat : Int)).toNat)) = u32 (a ^^^ b) := by
  change Value.int .u32 (IntKind.u32.wrap ((BitVec.ofInt 32 _ ^^^ BitVec.ofInt 32 _).toNat)) = _
  rw [ofInt32, ofInt32, wrap_u32]
theorem and32 (a b : BitVec 32) : Value.int .u32 (IntKind.u32.wrap ((BitVec.ofInt IntKind.u32.bits (a.toNat : Int) &&& BitVec.ofInt IntKind.u32.bits (b.toNat : Int)).toNat)) = u32 (a &&& b) := by
  change Value.int .u32 (IntKind.u32.wrap ((BitVec.ofInt 32 _ &&& BitVec.ofInt 32 _).toNat)) = _
  rw [ofInt32, ofInt32, wrap_u32]
theorem or32 (a b : BitVec 32) : Value.int .u32 (IntKind.u32.wrap ((BitVec.ofInt IntKind.u32.bits (a.toNat : Int) ||| BitVec.ofInt IntKind.u32.bits (b.toNat : Int)).toNat)) = u32 (a ||| b) := by
  change Value.int .u32 (IntKind.u32.wrap ((BitVec.ofInt 32 _ ||| BitVec.ofInt 32 _).toNat)) = _
  rw [ofInt32, ofInt32, wrap_u32]
theorem xor32i (a : BitVec 32) (b : Int) : Value.int .u32 (IntKind.u32.wrap ((BitVec.ofInt IntKind.u32.bits (a.toNat : Int) ^^^ BitVec.ofInt IntKind.u32.bits b).toNat)) = u32 (a ^^^ BitVec.ofInt 32 b) := by
  change Value.int .u32 (IntKind.u32.wrap ((BitVec.ofInt 32 _ ^^^ BitVec.ofInt 32 _).toNat)) = _
  rw [ofInt32, wrap_u32]
theorem and32i (a : BitVec 32) (b : Int) : Value.int .u32 (IntKind.u32.wrap ((BitVec.ofInt IntKind.u32.bits (a.toNat : Int) &&& BitVec.ofInt IntKind.u32.bits b).toNat)) = u32 (a &&& BitVec.ofInt 32 b) := by
  change Value.int .u32 (IntKind.u32.wrap ((BitVec.ofInt 32 _ &&& BitVec.ofInt 32 _).toNat)) = _
  rw [ofInt32, wrap_u32]
theorem shr32n (a : BitVec 32) (m : Nat) : (a.toNat : Int) / 2 ^ m = ((a >>> m).toNat : Int) := by
  rw [BitVec.toNat_ushiftRight, Nat.shiftRight_eq_div_pow]
  simp
theorem shr32 (a : BitVec 32) (m : Nat) : Value.int .u32 ((a.toNat : Int) / 2 ^ m) = u32 (a >>> m) := by
  rw [u32, BitVec.toNat_ushiftRight, Nat.shiftRight_eq_div_pow]
  simp
theorem u32_ofInt (v : Int) (h : rng .u32 v) : Value.int .u32 v = u32 (BitVec.ofInt 32 v) := by
  simp only [rng] at h
  rw [u32, BitVec.toNat_ofInt]
  congr 1
  omega
theorem u32_num (m : Nat) (h : m < 4294967296) : Value.int .u32 (m : Int) = u32 (BitVec.ofNat 32 m) := by
  rw [u32, BitVec.toNat_ofNat, Nat.mod_eq_of_lt h]
theorem compl32 (a : BitVec 32) : Value.int .u32 (IntKind.u32.wrap ((BitVec.ofInt IntKind.u32.bits (if IntKind.u32.signed then -1 else IntKind.u32.max) ^^^ BitVec.ofInt IntKind.u32.bits (a.toNat : Int)).toNat)) = u32 (~~~a) := by
  change Value.int .u32 (IntKind.u32.wrap ((BitVec.ofInt 32 _ ^^^ BitVec.ofInt 32 _).toNat)) = _
  have e : BitVec.ofInt 32 (if IntKind.u32.signed then -1 else IntKind.u32.max) = BitVec.allOnes 32 := by decide
  rw [e, ofInt32, wrap_u32, BitVec.allOnes_xor]
end Go.Lw

/-
  THE WALK ENGINE, part 10: interface values against nil, pointers against nil, makeInterface, new zero variables.
-/
namespace Go.Lw

def isNilI : Value → Bool
  | .nilIface => true
  | _ => false
/-- An interface's value. -/
def IsI (v : Value) : Prop := v = .nilIface ∨ ∃ t x, v = .iface t x

section
variable {P : Program} {n : Nat} {ops : Array Oper} {Q : Exit → Act → World → Prop} {S : World → Prop} {rest : List (Bool × Oper)} {E : Env} {w : World} {o : Oper} {d : Nat} {v : Value}
variable {s A : Res} {os : List Res} {x y : Operand} {T : Bool}

theorem run_eq_nilI {t : TypeId} {ms : Array (String × TypeId)} (hi : P.underlying t = some (.interface ms)) (hv : IsI v) (w : World) : (Op.equal t v .nilIface).run P w = .ok (isNilI v) w := by
  have h : ∀ d : Nat, (Op.equalIn (d + 1) t v .nilIface).run P w = .ok (isNilI v) w := fun d => by
    rcases hv with rfl | ⟨u, z, rfl⟩ <;> simp [Op.equalIn, run_underlying hi, isNilI]
  simp only [Op.equal, Op.maxDepth]
  exact h 9999
theorem run_eq_nilP {t e : TypeId} {a : Option Addr} (ht : P.underlying t = some (.pointer e)) (w : World) : (Op.equal t (.pointer a) (.pointer none)).run P w = .ok a.isNone w := by
  have h : ∀ d : Nat, (Op.equalIn (d + 1) t (.pointer a) (.pointer none)).run P w = .ok a.isNone w := fun d => by
    cases a <;> simp [Op.equalIn, run_underlying ht]
  simp only [Op.equal, Op.maxDepth]
  exact h 9999
theorem guard_nilI {op : BinOp} {t : TypeId} {x : Operand} (hv : IsI v) (w : World) : (eqGuard op t x (.const .nilIface) v .nilIface).run P w = .ok () w := by
  unfold eqGuard
  rcases hv with rfl | ⟨u, z, rfl⟩ <;> cases op <;> simp
/-- e == nil, e != nil -/
theorem RL.ifEq {t yt : TypeId} {ms : Array (String × TypeId)} (hg : wants ops E o = some true) (hd : o.dst = some d) (hb : Nat.blt d n = true) (ho : o.op = .binOp .eql t x (.const .nilIface) yt) (hi : P.underlying t = some (.interface ms))
    (hx : ev E x = some v) (hv : IsI v) (h : RL P n ops Q S rest ((d, .bool (isNilI v)) :: E) w) : RL P n ops Q S ((T, o) :: rest) E w := by
  refine RL.val hg hd hb (fun w ac ha => ?_) h
  have hc : ac.eval (.const .nilIface) = .nilIface := rfl
  unfold execOp
  simp only [ho, ha.ev hx, hc, Sem.run_bind, guard_nilI hv, Result.andThen_ok]
  have h2 := run_eq_nilI (P := P) hi hv w
  rcases hv with rfl | ⟨u, z, rfl⟩ <;> simp only [binOp] <;> simp [h2]
theorem RL.ifNe {t yt : TypeId} {ms : Array (String × TypeId)} (hg : wants ops E o = some true) (hd : o.dst = some d) (hb : Nat.blt d n = true) (ho : o.op = .binOp .neq t x (.const .nilIface) yt) (hi : P.underlying t = some (.interface ms))
    (hx : ev E x = some v) (hv : IsI v) (h : RL P n ops Q S rest ((d, .bool (!isNilI v)) :: E) w) : RL P n ops Q S ((T, o) :: rest) E w := by
  refine RL.val hg hd hb (fun w ac ha => ?_) h
  have hc : ac.eval (.const .nilIface) = .nilIface := rfl
  unfold execOp
  simp only [ho, ha.ev hx, hc, Sem.run_bind, guard_nilI hv, Result.andThen_ok]
  have h2 := run_eq_nilI (P := P) hi hv w
  rcases hv with rfl | ⟨u, z, rfl⟩ <;> simp only [binOp] <;> simp [h2]

/-- p == nil -/
theorem RL.ptrEq {t e yt : TypeId} {a : Option Addr} (hg : wants ops E o = some true) (hd : o.dst = some d) (hb : Nat.blt d n = true) (ho : o.op = .binOp .eql t x y yt) (ht : P.underlying t = some (.pointer e))
    (hx : ev E x = some (.pointer a)) (hy : ev E y = some (.pointer none)) (h : RL P n ops Q S rest ((d, .bool a.isNone) :: E) w) : RL P n ops Q S ((T, o) :: rest) E w := by
  refine RL.val hg hd hb (fun w ac ha => ?_) h
  have hgd : (eqGuard .eql t x y (.pointer a) (.pointer none)).run P w = .ok () w := by unfold eqGuard; rfl
  unfold execOp
  simp only [ho, ha.ev hx, ha.ev hy, Sem.run_bind, hgd, Result.andThen_ok]
  have h2 := run_eq_nilP (P := P) (a := a) ht w
  simp only [binOp]
  simp [h2]
theorem RL.ptrNe {t e yt : TypeId} {a : Option Addr} (hg : wants ops E o = some true) (hd : o.dst = some d) (hb : Nat.blt d n = true) (ho : o.op = .binOp .neq t x y yt) (ht : P.underlying t = some (.pointer e))
    (hx : ev E x = some (.pointer a)) (hy : ev E y = some (.pointer none)) (h : RL P n ops Q S rest ((d, .bool (!a.isNone)) :: E) w) : RL P n ops Q S ((T, o) :: rest) E w := by
  refine RL.val hg hd hb (fun w ac ha => ?_) h
  have hgd : (eqGuard .neq t x y (.pointer a) (.pointer none)).run P w = .ok () w := by unfold eqGuard; rfl
  unfold execOp
  simp only [ho, ha.ev hx, ha.ev hy, Sem.run_bind, hgd, Result.andThen_ok]
  have h2 := run_eq_nilP (P := P) (a := a) ht w
  simp only [binOp]
  simp [h2]

/-- a concrete type's value as an interface's -/
def concrete (P : Program) (t : TypeId) : Bool :=
  match P.underlying t with
  | some (.interface _) => false
  | some _ => true
  | none => false
theorem RL.iface {t : TypeId} (hg : wants ops E o = some true) (hd : o.dst = some d) (hb : Nat.blt d n = true) (ho : o.op = .makeInterface t x) (ht : concrete P t = true)
    (hx : ev E x = some v) (h : RL P n ops Q S rest ((d, .iface t v) :: E) w) : RL P n ops Q S ((T, o) :: rest) E w := by
  refine RL.val hg hd hb (fun w ac ha => ?_) h
  unfold execOp
  simp only [ho, ha.ev hx]
  unfold concrete at ht
  cases hu : P.underlying t with
  | none => rw [hu] at ht; cases ht
  | some u =>
    rw [hu] at ht
    cases u <;> first | (cases ht; done) | simp [Instr.makeInterface, run_underlying hu]

/-- A new zero variable of one cell, or of several. -/
theorem RL.alloc {t : TypeId} {z : List Value} (hg : wants ops E o = some true) (hd : o.dst = some d) (hb : Nat.blt d n = true) (ho : o.op = .alloc t) (hz : zer P t = some z) (hG : Good w s os)
    (h : ∀ b w', Good w' s (Res.one b (.cells z.toArray t) :: os) → Aux w w' → S w' ∧ RL P n ops Q S rest ((d, .pointer (some ⟨b, 0, none⟩)) :: E) w') : RL P n ops Q S ((false, o) :: rest) E w := by
  obtain ⟨h1, h2⟩ := h w.heap.size _ (hG.alloc (.cells z.toArray t)) (Aux.alloc w _)
  refine RL.step hg hd hb (fun ac ha => ?_) h1 h2
  unfold zer at hz
  cases hi : P.info? t with
  | none => simp [hi] at hz
  | some i =>
    cases hzz : i.zero with
    | none => simp [hi, hzz] at hz
    | some u =>
      simp [hi, hzz] at hz
      unfold execOp
      simp only [ho]
      have hzv : (zeroValue t).run P w = .ok u w := by simp [zeroValue, typeInfo, hi, hzz]
      have e : u.cells = z.toArray := by rw [← hz]
      simp [Instr.alloc, hzv, newVar, newRow, e]
end
end Go.Lw

/-
  THE WALK ENGINE, part 11: results that lie in a variable.
-/
namespace Go.Lw
theorem loadVar_agg {P : Program} {w : World} {t : TypeId} {k b : Nat} {A : Res} {cs : Array Value} {el : TypeId} {fr : Nat × Nat} (ht : tyc P t = some (true, k)) (hA : A b = some (.cells cs el fr)) (hin : In A w) (hk : cs.size = k) :
    (loadVar t ⟨b, 0, none⟩).run P w = .ok (.agg cs) w := by
  have hr := run_loadCells_list (P := P) w ⟨b, 0, none⟩ cs.toList (fun i u hu => (Holds.of hA).cell hin hu)
  have hl : cs.toList.length = k := by simpa using hk
  rw [hl] at hr
  simp [loadVar, (tyc_agg ht).1, (tyc_agg ht).2, hr]
theorem loadVar_one {P : Program} {w : World} {t : TypeId} {b : Nat} {A : Res} {cs : Array Value} {el : TypeId} {fr : Nat × Nat} {v : Value} (ht : tyc P t = some (false, 1)) (hA : A b = some (.cells cs el fr)) (hin : In A w) (hv : cs[0]? = some v) :
    (loadVar t ⟨b, 0, none⟩).run P w = .ok v w := by
  have hc := (Holds.of hA).cell hin (j := 0) (u := v) (by simpa using hv)
  have hz : (⟨b, 0, none⟩ : Addr).add 0 = ⟨b, 0, none⟩ := rfl
  rw [hz] at hc
  simp [loadVar, (tyc_agg ht).1, load, Sem.run, hc, Sem.run_bind]
end Go.Lw

/-
  THE WALK ENGINE, part 12: calls of functions that the model itself answers, by name or by an interface's method; methods of the program's own by an interface.
-/
namespace Go.Lw
section
variable {P : Program} {n : Nat} {ops : Array Oper} {Q : Exit → Act → World → Prop} {S : World → Prop} {rest : List (Bool × Oper)} {E : Env} {w w' : World} {o : Oper} {d : Nat} {v : Value}
variable {s A : Res} {os : List Res} {x y : Operand} {T : Bool}

theorem call_func_run {f : FuncId} {args : Array Operand} {ats : Array TypeId} {l : List Value} {nx : Result Next} (ho : o.op = .call { callee := .value (.func f), args := args, argTypes := ats }) (hl : evs E args.toList = some l)
    (h : (callFunc f l.toArray).run P w = nx) (ac : Act) (ha : At n E ac) : (execOp ac.eval o).run P w = nx := by
  have hargs : (args.map ac.eval) = l.toArray := by
    rw [← Array.toArray_toList (xs := args), List.map_toArray, ha.evs hl]
  have hev : ac.eval (.func f) = .func (.func f) #[] #[] := rfl
  unfold execOp
  simp only [ho]
  simp only [resolve, hargs, hev, Deferred.ofValue, invoke, Sem.run_bind, Sem.run_pure, Result.andThen_ok, Array.append_empty, Array.empty_append, h]
theorem call_invoke_run {name : String} {args : Array Operand} {ats : Array TypeId} {l : List Value} {nx : Result Next} (ho : o.op = .call { callee := .invoke x name, args := args, argTypes := ats }) (hx : ev E x = some v) (hl : evs E args.toList = some l)
    (h : (callMethod v name l.toArray).run P w = nx) (ac : Act) (ha : At n E ac) : (execOp ac.eval o).run P w = nx := by
  have hargs : (args.map ac.eval) = l.toArray := by
    rw [← Array.toArray_toList (xs := args), List.map_toArray, ha.evs hl]
  have hz : (#[v] ++ l.toArray)[0]? = some v := by simp
  have he : (#[v] ++ l.toArray).extract 1 (#[v] ++ l.toArray).size = l.toArray := by
    apply Array.ext'
    simp
  unfold execOp
  simp only [ho]
  simp only [resolve, hargs, ha.ev hx, invoke, Sem.run_bind, Sem.run_pure, Result.andThen_ok, hz, he, h]

/-- A function of the model's own, whose answer hangs on its arguments alone. -/
theorem RL.ext {f : FuncId} {args : Array Operand} {ats : Array TypeId} {l : List Value} (hg : wants ops E o = some true) (hd : o.dst = some d) (hb : Nat.blt d n = true)
    (ho : o.op = .call { callee := .value (.func f), args := args, argTypes := ats }) (hl : evs E args.toList = some l) (hc : (callFunc f l.toArray).run P w = .ok (.value v) w')
    (h : S w' ∧ RL P n ops Q S rest ((d, v) :: E) w') : RL P n ops Q S ((false, o) :: rest) E w :=
  RL.step hg hd hb (fun ac ha => call_func_run ho hl hc ac ha) h.1 h.2
/-- A method of the model's own, by an interface. -/
theorem RL.extI {name : String} {u : Value} {args : Array Operand} {ats : Array TypeId} {l : List Value} (hg : wants ops E o = some true) (hd : o.dst = some d) (hb : Nat.blt d n = true)
    (ho : o.op = .call { callee := .invoke x name, args := args, argTypes := ats }) (hx : ev E x = some u) (hl : evs E args.toList = some l) (hc : (callMethod u name l.toArray).run P w = .ok (.value v) w')
    (h : S w' ∧ RL P n ops Q S rest ((d, v) :: E) w') : RL P n ops Q S ((false, o) :: rest) E w :=
  RL.step hg hd hb (fun ac ha => call_invoke_run ho hx hl hc ac ha) h.1 h.2
/-- A method of the program's own, by an interface. -/
theorem RL.callI {name : String} {u : Value} {f : FuncId} {args : Array Operand} {ats : Array TypeId} {l l' : List Value} {R : Ending → World → Prop} (hg : wants ops E o = some true) (hd : o.dst = some d) (hb : Nat.blt d n = true)
    (ho : o.op = .call { callee := .invoke x name, args := args, argTypes := ats }) (hx : ev E x = some u) (hl : evs E args.toList = some l) (hc : (callMethod u name l.toArray).run P w = .ok (.enter f l'.toArray) w) (hct : Calls P f l'.toArray w R)
    (h : ∀ e w', R e w' → ∃ v, e = .returned v ∧ S w' ∧ RL P n ops Q S rest ((d, v) :: E) w') : RL P n ops Q S ((false, o) :: rest) E w := fun _ ac ha => by
  simp only [RA, ha.wants hg, if_true]
  unfold Oper.wp
  rw [call_invoke_run ho hx hl hc ac ha]
  simp only [Oper.upon]
  refine hct.mono fun e w' hp => ?_
  obtain ⟨v, rfl, h5, h6⟩ := h e w' hp
  simp only [hd]
  exact ⟨h5, h6 h5 _ (ha.put hb v)⟩
/-- x.(T), whatever it answers. -/
theorem RL.tassert {ti ta : TypeId} {ok : Bool} {u : Value} (hg : wants ops E o = some true) (hd : o.dst = some d) (hb : Nat.blt d n = true) (ho : o.op = .typeAssert x ti ta ok) (hx : ev E x = some u) (hc : ∀ w, (Instr.typeAssert u ti ta ok).run P w = .ok v w)
    (h : RL P n ops Q S rest ((d, v) :: E) w) : RL P n ops Q S ((T, o) :: rest) E w := by
  refine RL.val hg hd hb (fun w ac ha => ?_) h
  unfold execOp
  simp only [ho, ha.ev hx]
  simp [hc w]
end
/-- A variable of one cell is set. -/
theorem Good.setOne {w : World} {s A : Res} {os : List Res} {t : Nat} {old v : Value} {el : TypeId} (h : Good w s (A :: os)) (hA : A t = some (.cells #[old] el (0, 0))) (_hv : v.oneCell' = true) :
    Good (w.setCell ⟨t, 0, none⟩ v) s (A.put t (.cells #[v] el (0, 0)) :: os) ∧ Aux w (w.setCell ⟨t, 0, none⟩ v) ∧ w.cell? ⟨t, 0, none⟩ = some old ∧ w.frozen? ⟨t, 0, none⟩ = false := by
  have hw := h.1 t _ hA
  refine ⟨h.write hA ?_ ?_, ⟨rfl, rfl, rfl, by simp [World.setCell]⟩, by simp [World.cell?, hw], by simp [World.frozen?, hw]⟩
  · simp only [World.setCell, Array.getElem?_modify, if_true, hw, Option.map_some]
    rfl
  · intro k _ hk
    simp [World.setCell, Array.getElem?_modify, Ne.symm hk]
end Go.Lw

/-
  PLAIN: the codec's numbers as bytes. No program in sight.
-/
namespace Go.Lw

/-- A number's bytes, at most k + 1 of them. -/
def encF : Nat → Int → List Int
  | 0, v => [v]
  | k + 1, v => if v < 128 then [v] else (v % 128 + 128) :: encF k (v / 128)
def encU (v : Int) : List Int := encF 9 v

theorem encF_length (k : Nat) (v : Int) : 1 ≤ (encF k v).length ∧ (encF k v).length ≤ k + 1 := by
  induction k generalizing v with
  | zero => simp [encF]
  | succ k ih =>
    simp only [encF]
    split
    · simp
    · have := ih (v / 128)
      simp only [List.length_cons]
      omega
theorem encU_length (v : Int) : 1 ≤ (encU v).length ∧ (encU v).length ≤ 10 := encF_length 9 v

theorem or128 (x : Int) (h : 0 ≤ x ∧ x < 256) : IntKind.u8.wrap ((BitVec.ofInt IntKind.u8.bits x ||| BitVec.ofInt IntKind.u8.bits 128).toNat) = x % 128 + 128 := by
  have key : ∀ n : Nat, n < 256 → IntKind.u8.wrap ((BitVec.ofInt IntKind.u8.bits (n : Int) ||| BitVec.ofInt IntKind.u8.bits 128).toNat) = (n : Int) % 128 + 128 := by decide +kernel
  obtain ⟨n, rfl⟩ := Int.eq_ofNat_of_zero_le h.1
  exact key n (by omega)
theorem wrap_u8 (v : Int) : IntKind.u8.wrap v = v % 256 := IntKind.wrap_u8 v

theorem and127 (x : Int) (_h : rng .u64 x) : IntKind.u64.wrap ((BitVec.ofInt IntKind.u64.bits x &&& BitVec.ofInt IntKind.u64.bits 127).toNat) = x % 128 := by
  change IntKind.u64.wrap ((BitVec.ofInt 64 x &&& BitVec.ofInt 64 127).toNat) = _
  have e : (BitVec.ofInt 64 127).toNat = 2 ^ 7 - 1 := by decide
  rw [BitVec.toNat_and, e, Nat.and_two_pow_sub_one_eq_mod, BitVec.toNat_ofInt]
  rw [show IntKind.u64.wrap = fun v => v % 18446744073709551616 by funext v; simp [IntKind.wrap, IntKind.bits, IntKind.signed]]
  show (((x % (2 ^ 64 : Nat)).toNat % 2 ^ 7 : Nat) : Int) % 18446744073709551616 = x % 128
  omega

end Go.Lw
