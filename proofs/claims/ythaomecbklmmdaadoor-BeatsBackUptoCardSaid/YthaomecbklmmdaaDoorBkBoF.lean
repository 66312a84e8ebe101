/-
  PLAIN: what was packed is opened as it was. No program in sight.
-/
import Derived.Test.YthaomecbklmmdaaDoorBkBoK
import Derived.Test.YthaomecbklmmdaaDoorBkBoR
namespace Go.Lw

/-- What stands ahead of the reader. -/
structure AtR (bs : List Int) (st : RS) (r : List Int) : Prop where
  err : st.err = none
  lo : 0 ≤ st.pos
  hi : st.pos ≤ bs.length
  is : bs.drop st.pos.toNat = r
section
variable {bs r : List Int} {st : RS}
theorem AtR.len (h : AtR bs st r) : (bs.length : Int) - st.pos = r.length := by
  have h1 := h.lo
  have h2 := h.hi
  have h3 := congrArg List.length h.is
  rw [List.length_drop] at h3
  omega
theorem AtR.step {e : List Int} {st' : RS} (h : AtR bs st (e ++ r)) (he : st'.err = none) (hp : st'.pos = st.pos + e.length) : AtR bs st' r := by
  have h1 := h.lo
  have h2 := h.len
  rw [List.length_append] at h2
  refine ⟨he, by omega, by omega, ?_⟩
  rw [hp, show (st.pos + (e.length : Int)).toNat = st.pos.toNat + e.length by omega, ← List.drop_drop, h.is, List.drop_left]
theorem rdUint_put {v : Int} (h : AtR bs st (encU v ++ r)) (hv : rng .u64 v) : (rdUint bs st).1 = v ∧ AtR bs (rdUint bs st).2 r := by
  simp only [rng] at hv
  have e : rdUint bs st = (v, ⟨st.pos + (encU v).length, none⟩) := by
    unfold rdUint
    simp only [h.err]
    rw [h.is, dec_encU v r (by omega) (by omega)]
  rw [e]
  exact ⟨rfl, h.step rfl rfl⟩
theorem rdInt_put {v : Int} (h : AtR bs st (encI v ++ r)) (hv : rng .i64 v) : (rdInt bs st).1 = v ∧ AtR bs (rdInt bs st).2 r := by
  obtain ⟨h1, h2⟩ := rdUint_put h (zig_rng hv)
  refine ⟨?_, h2⟩
  unfold rdInt
  rw [h1]
  simp only
  split <;> split at * <;> omega
theorem rdBool_put {b : Bool} (h : AtR bs st (encB b ++ r)) : (rdBool bs st).1 = b ∧ AtR bs (rdBool bs st).2 r := by
  have e : rdBool bs st = (b, ⟨st.pos + 1, none⟩) := by
    unfold rdBool
    simp only [h.err]
    rw [h.is]
    cases b <;> rfl
  rw [e]
  exact ⟨rfl, h.step rfl rfl⟩
theorem rdCount_put {n most : Int} (h : AtR bs st (encU n ++ r)) (h0 : 0 ≤ n) (h1 : n ≤ most) (hm : most ≤ 4611686018427387904) (hr : n ≤ r.length) : (rdCount bs st most).1 = n ∧ AtR bs (rdCount bs st most).2 r := by
  obtain ⟨h2, h3⟩ := rdUint_put h (by simp only [rng]; omega)
  have h4 := h3.len
  unfold rdCount
  rw [if_neg (by rw [h3.err]; decide), if_neg (by omega), if_neg (by omega)]
  exact ⟨h2, h3⟩
theorem rdBytes_put {xs : List Int} {most : Int} (h : AtR bs st (encT xs ++ r)) (h1 : xs.length ≤ most) (hm : most ≤ 4611686018427387904) : (rdBytes bs st most).1 = xs ∧ AtR bs (rdBytes bs st most).2 r := by
  rw [encT, List.append_assoc] at h
  obtain ⟨h2, h3⟩ := rdCount_put h (by omega) h1 hm (by simp only [List.length_append]; omega)
  unfold rdBytes
  rw [if_neg (by rw [h3.err]; decide), h2, h3.is]
  refine ⟨?_, h3.step rfl rfl⟩
  simp
theorem rdIs_put : ∀ {ys xs : List Int} {st : RS}, AtR bs st (encIs ys ++ r) → (∀ y ∈ ys, rng .i64 y) → (rdIs bs ys.length st xs).1 = xs ++ ys ∧ AtR bs (rdIs bs ys.length st xs).2 r
  | [], xs, st, h, _ => by simpa [rdIs, encIs] using h
  | y :: ys, xs, st, h, hy => by
    simp only [encIs, List.flatMap_cons, List.append_assoc] at h
    obtain ⟨h1, h2⟩ := rdInt_put h (hy y (by simp))
    obtain ⟨h3, h4⟩ := rdIs_put (xs := xs ++ [y]) (ys := ys) h2 (fun z hz => hy z (by simp [hz]))
    simp only [List.length_cons, rdIs, show st.err.isNone = true by rw [h.err]; rfl, if_true, h1]
    exact ⟨by rw [h3]; simp, h4⟩
theorem rdInts_put {ys : List Int} (h : AtR bs st (encN ys ++ r)) (hl : ys.length ≤ 7) (hy : ∀ y ∈ ys, rng .i64 y) : (rdInts bs st).1 = ys ∧ AtR bs (rdInts bs st).2 r := by
  rw [encN, List.append_assoc] at h
  have hge := encIs_ge ys
  obtain ⟨h1, h2⟩ := rdCount_put (most := 7) h (by omega) (by omega) (by decide) (by simp only [List.length_append]; omega)
  obtain ⟨h3, h4⟩ := rdIs_put (xs := []) h2 hy
  simp only [rdInts, h1, Int.toNat_natCast, h4.err, Option.isNone_none, if_true]
  exact ⟨by rw [h3]; simp, h4⟩
def Conf.ok (c : Conf) : Prop := (∀ v ∈ c.voters, rng .i64 v) ∧ ∀ v ∈ c.learners, rng .i64 v
theorem rdConf_put {c : Conf} (h : AtR bs st (encConf c ++ r)) (hl : wideP c = false) (hc : c.ok) : (rdConf bs st).1 = c ∧ AtR bs (rdConf bs st).2 r := by
  simp only [wideP, Bool.or_eq_false_iff, decide_eq_false_iff_not] at hl
  rw [encConf, List.append_assoc] at h
  obtain ⟨h1, h2⟩ := rdInts_put h (by omega) hc.1
  obtain ⟨h3, h4⟩ := rdInts_put h2 (by omega) hc.2
  simp only [rdConf, h1, h3, h4.err, Option.isNone_none, if_true]
  exact ⟨trivial, h4⟩
theorem rdKind_put {k most : Int} (h : AtR bs st (encI k ++ r)) (hk : rng .i64 k) (h1 : 1 ≤ k) (h2 : k ≤ most) : (rdKind bs st most).1 = k ∧ AtR bs (rdKind bs st most).2 r := by
  obtain ⟨h3, h4⟩ := rdInt_put h hk
  have e : (if (rdInt bs st).1 < 1 ∨ most < (rdInt bs st).1 then (rdInt bs st).2.failAt 16 st.pos else (rdInt bs st).2) = (rdInt bs st).2 := if_neg (by rw [h3]; omega)
  simp only [rdKind, e, h4.err, Option.isNone_none, if_true]
  exact ⟨h3, h4⟩
def Entry.ok (e : Entry) : Prop := rng .u64 e.index ∧ rng .u64 e.term ∧ rng .i64 e.kind ∧ e.conf.ok
theorem rdEntry_put {e : Entry} (h : AtR bs st (encEntry e ++ r)) (hl : longE e = false) (he : e.ok) : (rdEntry bs st).1 = e ∧ AtR bs (rdEntry bs st).2 r := by
  obtain ⟨o1, o2, o3, o4⟩ := he
  simp only [longE, Bool.or_eq_false_iff, decide_eq_false_iff_not] at hl
  obtain ⟨⟨⟨l1, l2⟩, l3⟩, l4⟩ := hl
  simp only [encEntry, List.append_assoc] at h
  obtain ⟨a1, a2⟩ := rdUint_put h o1
  obtain ⟨b1, b2⟩ := rdUint_put a2 o2
  obtain ⟨c1, c2⟩ := rdKind_put (most := 3) b2 o3 (by omega) (by omega)
  obtain ⟨d1, d2⟩ := rdBytes_put (most := 262144) c2 (by omega) (by decide)
  obtain ⟨e1, e2⟩ := rdConf_put d2 l2 o4
  simp only [rdEntry, a1, b1, c1, d1, e1, e2.err, Option.isNone_none, if_true]
  exact ⟨trivial, e2⟩
theorem rdEs_put : ∀ {ys xs : List Entry} {st : RS}, AtR bs st (encEs ys ++ r) → (∀ y ∈ ys, longE y = false ∧ y.ok) → (rdEs bs ys.length st xs).1 = xs ++ ys ∧ AtR bs (rdEs bs ys.length st xs).2 r
  | [], xs, st, h, _ => by simpa [rdEs, encEs] using h
  | y :: ys, xs, st, h, hy => by
    simp only [encEs, List.flatMap_cons, List.append_assoc] at h
    obtain ⟨h1, h2⟩ := rdEntry_put h (hy y (by simp)).1 (hy y (by simp)).2
    obtain ⟨h3, h4⟩ := rdEs_put (xs := xs ++ [y]) (ys := ys) h2 (fun z hz => hy z (by simp [hz]))
    simp only [List.length_cons, rdEs, h1]
    exact ⟨by rw [h3]; simp, h4⟩
structure Wire.ok (x : Wire) : Prop where
  group : rng .u64 x.group
  kind : rng .i64 x.msg.kind
  term : rng .u64 x.msg.term
  index : rng .u64 x.msg.index
  logTerm : rng .u64 x.msg.logTerm
  commit : rng .u64 x.msg.commit
  hint : rng .u64 x.msg.hint
  entries : ∀ e ∈ x.msg.entries, e.ok
  conf : x.msg.conf.ok
/-- A message without its nodes. -/
def Wire.bareNodes (x : Wire) : Wire := ⟨x.group, { x.msg with frm := 0, to := 0 }⟩
theorem bare_set {x : Wire} {frm to : Int} (h1 : x.msg.frm = frm) (h2 : x.msg.to = to) : setFT frm to x.bareNodes = x := by
  subst h1; subst h2; rfl
theorem isP_bareN (x : Wire) : isP x.bareNodes.msg = isP x.msg := rfl
theorem rdFull_put {x : Wire} (h : AtR bs st (encFull x ++ r)) (hp : isP x.msg = false) (hk : known9 x.msg.kind = true) (hl : longP x.msg = false) (hx : x.ok) : (rdFull bs st).1 = x.bareNodes ∧ AtR bs (rdFull bs st).2 r := by
  simp only [longP, Bool.or_eq_false_iff, decide_eq_false_iff_not, List.any_eq_false, Bool.not_eq_true] at hl
  obtain ⟨⟨⟨l1, l2⟩, l3⟩, l4⟩ := hl
  simp only [encFull, List.append_assoc] at h
  have hge := encEs_ge x.msg.entries
  obtain ⟨a1, a2⟩ := rdUint_put h hx.group
  obtain ⟨b1, b2⟩ := rdInt_put a2 hx.kind
  obtain ⟨c1, c2⟩ := rdUint_put b2 hx.term
  obtain ⟨d1, d2⟩ := rdUint_put c2 hx.index
  obtain ⟨e1, e2⟩ := rdUint_put d2 hx.logTerm
  obtain ⟨f1, f2⟩ := rdCount_put (most := 8) e2 (by omega) (by omega) (by decide) (by simp only [List.length_append]; omega)
  obtain ⟨g1, g2⟩ := rdEs_put (xs := []) f2 (fun y hy => ⟨l4 y hy, hx.entries y hy⟩)
  obtain ⟨i1, i2⟩ := rdUint_put g2 hx.commit
  obtain ⟨j1, j2⟩ := rdBool_put i2
  obtain ⟨k1, k2⟩ := rdUint_put j2 hx.hint
  obtain ⟨m1, m2⟩ := rdConf_put k2 l3 hx.conf
  obtain ⟨n1, n2⟩ := rdBytes_put (most := 262144) m2 (by omega) (by decide)
  obtain ⟨o1, o2⟩ := rdBool_put n2
  have e0 : rdFull0 bs st = (x.bareNodes, (rdFull0 bs st).2) ∧ AtR bs (rdFull0 bs st).2 r := by
    simp only [rdFull0, a1, b1, c1, d1, e1, f1, Int.toNat_natCast, g1, i1, j1, k1, m1, n1, o1]
    exact ⟨rfl, o2⟩
  have ho : oddP (rdFull0 bs st).1.msg = false := by
    rw [e0.1]
    simp only [oddP, isP_bareN, hp, Bool.false_or]
    exact (by rw [show known9 x.bareNodes.msg.kind = known9 x.msg.kind from rfl, hk]; rfl)
  unfold rdFull
  simp only [ho, Bool.false_eq_true, if_false]
  exact ⟨congrArg Prod.fst e0.1, e0.2⟩
theorem isP_full {m : Msg} (h : isP m = true) : m.entries = [] ∧ m.data = [] ∧ m.conf = ⟨[], []⟩ ∧ m.reject = false ∧ m.done = false ∧ m.hint = 0 ∧ (m.kind = 5 ∨ m.kind = 6 ∧ m.logTerm = 0 ∧ m.commit = 0) := by
  simp only [isP, Bool.and_eq_true, decide_eq_true_eq, Bool.not_eq_true', Bool.or_eq_true] at h
  obtain ⟨⟨⟨⟨h1, h2⟩, h3⟩, h4⟩, h5⟩ := h
  simp only [Msg.lens] at h1
  have e1 : m.entries = [] := List.eq_nil_of_length_eq_zero (by omega)
  have e2 : m.data = [] := List.eq_nil_of_length_eq_zero (by omega)
  have e3 : m.conf.voters = [] := List.eq_nil_of_length_eq_zero (by omega)
  have e4 : m.conf.learners = [] := List.eq_nil_of_length_eq_zero (by omega)
  refine ⟨e1, e2, ?_, h2, h3, h4, ?_⟩
  · cases hc : m.conf with
    | mk v l => rw [hc] at e3 e4; simp only at e3 e4; rw [e3, e4]
  · rcases h5 with h5 | ⟨⟨h5, h6⟩, h7⟩
    · exact .inl h5
    · exact .inr ⟨h5, h6, h7⟩
theorem rdBeat_put {x : Wire} (h : AtR bs st (encBeat x ++ r)) (hp : isP x.msg = true) (hx : x.ok) : (rdBeat bs st).1 = x.bareNodes ∧ AtR bs (rdBeat bs st).2 r := by
  obtain ⟨p1, p2, p3, p4, p5, p6, p7⟩ := isP_full hp
  have hb : ∀ kd lt cm, x.msg.kind = kd → x.msg.logTerm = lt → x.msg.commit = cm → x.bareNodes = ⟨x.group, mkMsg kd x.msg.term x.msg.index lt [] cm false 0 ⟨[], []⟩ [] false⟩ := by
    intro kd lt cm h1 h2 h3
    simp only [Wire.bareNodes, mkMsg, p1, p2, p3, p4, p5, p6, h1, h2, h3]
  simp only [encBeat, List.append_assoc] at h
  obtain ⟨a1, a2⟩ := rdUint_put h hx.group
  obtain ⟨b1, b2⟩ := rdBool_put a2
  obtain ⟨c1, c2⟩ := rdUint_put b2 hx.term
  obtain ⟨d1, d2⟩ := rdUint_put c2 hx.index
  unfold rdBeat
  simp only [a1, b1, c1, d1]
  rcases p7 with p7 | ⟨p7, p8, p9⟩
  · rw [if_pos p7, List.append_assoc] at d2
    obtain ⟨e1, e2⟩ := rdUint_put d2 hx.logTerm
    obtain ⟨f1, f2⟩ := rdUint_put e2 hx.commit
    rw [if_neg (by rw [p7]; decide)]
    simp only [e1, f1]
    exact ⟨(hb _ _ _ p7 rfl rfl).symm, f2⟩
  · rw [if_neg (by rw [p7]; decide), List.nil_append] at d2
    rw [if_pos (by rw [p7]; decide)]
    exact ⟨(hb _ _ _ p7 p8 p9).symm, d2⟩
theorem rdW_put {k : Int} {x : Wire} (h : AtR bs st (encW x ++ r)) (hf : Fine k x) (hx : x.ok) : (rdW k bs st).1 = x.bareNodes ∧ AtR bs (rdW k bs st).2 r := by
  obtain ⟨f1, f2, f3⟩ := hf
  unfold encW at h
  unfold rdW
  by_cases hp : isP x.msg = true
  · rw [if_pos hp] at h
    rw [if_pos (by rw [← f1, kindOf, if_pos hp])]
    exact rdBeat_put h hp hx
  · rw [if_neg hp] at h
    rw [if_neg (by rw [← f1, kindOf, if_neg hp]; decide)]
    exact rdFull_put h (by simpa using hp) f2 f3 hx
theorem rdWs_put {k frm to : Int} : ∀ {ys xs : List Wire} {st : RS}, AtR bs st (encWs ys ++ r) → (∀ y ∈ ys, Fine k y ∧ y.ok ∧ y.msg.frm = frm ∧ y.msg.to = to) → (rdWs k frm to bs ys.length st xs).1 = xs ++ ys ∧ AtR bs (rdWs k frm to bs ys.length st xs).2 r
  | [], xs, st, h, _ => by simpa [rdWs, encWs] using h
  | y :: ys, xs, st, h, hy => by
    simp only [encWs, List.flatMap_cons, List.append_assoc] at h
    obtain ⟨y1, y2, y3, y4⟩ := hy y (by simp)
    obtain ⟨h1, h2⟩ := rdW_put h y1 y2
    obtain ⟨h3, h4⟩ := rdWs_put (k := k) (frm := frm) (to := to) (xs := xs ++ [y]) (ys := ys) h2 (fun z hz => hy z (by simp [hz]))
    simp only [List.length_cons, rdWs, show st.err.isNone = true by rw [h.err]; rfl, if_true, h1, bare_set y3 y4]
    exact ⟨by rw [h3]; simp, h4⟩
end
theorem encWs_len : ∀ xs : List Wire, xs.length ≤ (encWs xs).length
  | [] => Nat.le_refl _
  | x :: xs => by
    have := encWs_len xs
    have h1 := encU_length x.group
    have h2 : 1 ≤ (encW x).length := by
      unfold encW
      split
      · simp only [encBeat, List.length_append]; omega
      · simp only [encFull, List.length_append]; omega
    simp only [encWs, List.flatMap_cons, List.length_append, List.length_cons] at *; omega
/-- What was packed is opened. -/
theorem open_sub {frm to kind : Int} {ys : List Wire} (hf : node7 frm = true) (ht : node7 to = true) (hne : frm ≠ to) (hk : kind = 1 ∨ kind = 2) (h0 : ys ≠ []) (hl : ys.length ≤ 4096) (hy : ∀ y ∈ ys, Fine kind y ∧ y.ok ∧ y.msg.frm = frm ∧ y.msg.to = to) :
    openP ⟨frm, to, kind, encU ys.length ++ encWs ys⟩ = (ys, 0) := by
  have hlen : 0 < ys.length := by cases ys with | nil => exact absurd rfl h0 | cons _ _ => simp
  have hge := encWs_len ys
  have hs : AtR (encU ys.length ++ encWs ys) ⟨0, none⟩ (encU ys.length ++ (encWs ys ++ [])) := ⟨rfl, Int.le_refl 0, (by show (0 : Int) ≤ _; omega), by simp⟩
  obtain ⟨c1, c2⟩ := rdCount_put (most := 4096) hs (by omega) (by omega) (by decide) (by simp only [List.append_nil]; omega)
  obtain ⟨w1, w2⟩ := rdWs_put (k := kind) (frm := frm) (to := to) (xs := []) c2 hy
  have hst : st0P (encU ys.length ++ encWs ys) = (rdCount (encU ys.length ++ encWs ys) ⟨0, none⟩ 4096).2 := by unfold st0P; rw [if_neg (by omega)]
  have hbad : badP ⟨frm, to, kind, encU ys.length ++ encWs ys⟩ = false := by
    simp only [badP, hf, ht, Bool.not_true, Bool.or_false, Bool.false_or, Bool.or_eq_false_iff, decide_eq_false_iff_not, Bool.and_eq_false_iff, Decidable.not_not]
    exact ⟨hne, hk⟩
  unfold openP
  simp only [hbad, Bool.false_eq_true, if_false, c1, Int.toNat_natCast, hst]
  have hd : doneOf (encU ys.length ++ encWs ys) (rdWs kind frm to (encU ys.length ++ encWs ys) ys.length (rdCount (encU ys.length ++ encWs ys) ⟨0, none⟩ 4096).2 []).2 = 0 := by
    have h3 := w2.len
    simp only [List.length_nil] at h3
    unfold doneOf
    rw [if_neg (by omega)]
    simp [RS.errno, w2.err]
  rw [if_neg (by rw [hd]; decide), w1]
  rfl

theorem Chunks.all {α : Type} {R : Res → List Value → α → Prop} {sz : Nat} {s : Res} {P : α → Prop} (h : ∀ vs x, R s vs x → P x) : ∀ {cs : List Value} {xs : List α}, Chunks R sz s cs xs → ∀ x ∈ xs, P x
  | _, [], _ => by simp
  | _, y :: ys, ⟨vs, rest, _, _, h1, h2⟩ => by
    intro x hx
    rcases List.mem_cons.1 hx with rfl | hx
    · exact h _ _ h1
    · exact Chunks.all h h2 x hx
theorem Imm.all {α : Type} {R : Res → List Value → α → Prop} {sz c : Nat} {s : Res} {a : Option Addr} {xs : List α} {P : α → Prop} (h : ∀ vs x, R s vs x → P x) (hi : Imm R sz s a c xs) : ∀ x ∈ xs, P x := by
  rcases hi.2.2 with rfl | ⟨ad, _, cs, _, hc⟩
  · simp
  · exact hc.all h
theorem REntry.ok {s : Res} {vs : List Value} {e : Entry} (h : REntry s vs e) : e.ok := by
  obtain ⟨_, _, _, _, _, _, _, r1, r2, r3, _, i2, i3⟩ := h
  exact ⟨r1, r2, r3, i2.rng, i3.rng⟩
theorem RWire.ok {s : Res} {vs : List Value} {x : Wire} (h : RWire s vs x) : x.ok := by
  obtain ⟨y, _, hg, ho⟩ := h
  exact ⟨hg, ho.kind, ho.term, ho.index, ho.logTerm, ho.commit, ho.hint, ho.entries.all (fun _ _ => REntry.ok), ho.voters.rng, ho.learners.rng⟩
end Go.Lw
