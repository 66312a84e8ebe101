/-
  Beats: messages; their readings in memory; what is a beat, what is too much.
-/
import Derived.Test.YthaomecbklmmdaaDoorOpBwB
import Derived.Test.YthaomecbklmmdaaDoorOpA1
namespace Go.Lw
open Go.Proofs
attribute [local irreducible] RL RA

structure Msg where
  kind : Int
  frm : Int
  to : Int
  term : Int
  index : Int
  logTerm : Int
  entries : List Entry
  commit : Int
  reject : Bool
  hint : Int
  conf : Conf
  data : List Int
  done : Bool
structure Wire where
  group : Int
  msg : Msg
abbrev u64 (n : Int) : Value := .int .u64 n
abbrev sl8 (a : Option Addr) (n c : Nat) : Value := .slice a n c
/-- Where a message's slices lie. -/
structure Lay where
  ea : Option Addr
  ec : Nat
  va : Option Addr
  vc : Nat
  la : Option Addr
  lc : Nat
  da : Option Addr
  dc : Nat
abbrev msgV (m : Msg) (y : Lay) : List Value := [i64 m.kind, i64 m.frm, i64 m.to, u64 m.term, u64 m.index, u64 m.logTerm, .slice y.ea m.entries.length y.ec, u64 m.commit, .bool m.reject, u64 m.hint, .slice y.va m.conf.voters.length y.vc, .slice y.la m.conf.learners.length y.lc, .slice y.da m.data.length y.dc, .bool m.done]
structure MsgOk (s : Res) (m : Msg) (y : Lay) : Prop where
  kind : rng .i64 m.kind
  frm : rng .i64 m.frm
  to : rng .i64 m.to
  term : rng .u64 m.term
  index : rng .u64 m.index
  logTerm : rng .u64 m.logTerm
  commit : rng .u64 m.commit
  hint : rng .u64 m.hint
  entries : Imm REntry 6 s y.ea y.ec m.entries
  voters : Imm (RInt .i64) 1 s y.va y.vc m.conf.voters
  learners : Imm (RInt .i64) 1 s y.la y.lc m.conf.learners
  data : Imm (RInt .u8) 1 s y.da y.dc m.data
theorem MsgOk.up {s s' : Res} {m : Msg} {y : Lay} (h : MsgOk s m y) (hl : Le s s') : MsgOk s' m y :=
  { h with entries := h.entries.up REntry.up hl, voters := h.voters.up (RInt.up _) hl, learners := h.learners.up (RInt.up _) hl, data := h.data.up (RInt.up _) hl }
theorem MsgOk.conf {s : Res} {m : Msg} {y : Lay} (h : MsgOk s m y) : RConf s [.slice y.va m.conf.voters.length y.vc, .slice y.la m.conf.learners.length y.lc] m.conf := ⟨_, _, _, _, rfl, h.voters, h.learners⟩
def RMsg : Res → List Value → Msg → Prop := fun s vs m => ∃ y, vs = msgV m y ∧ MsgOk s m y
def RWire : Res → List Value → Wire → Prop := fun s vs x => ∃ y, vs = u64 x.group :: msgV x.msg y ∧ rng .u64 x.group ∧ MsgOk s x.msg y
theorem RWire.up : Up RWire := fun _ _ _ _ hl ⟨y, h, h1, h2⟩ => ⟨y, h, h1, h2.up hl⟩
theorem RWire.one : One RWire := fun _ _ _ ⟨y, h, _, _⟩ v hv => by
  subst h
  simp only [List.mem_cons, List.not_mem_nil, or_false] at hv
  rcases hv with rfl | rfl | rfl | rfl | rfl | rfl | rfl | rfl | rfl | rfl | rfl | rfl | rfl | rfl | rfl <;> rfl

/-- How much a message has of lists. -/
def Msg.lens (m : Msg) : Nat := m.entries.length + m.data.length + m.conf.voters.length + m.conf.learners.length
def isP (m : Msg) : Bool := decide (m.lens = 0) && !m.reject && !m.done && decide (m.hint = 0) && (decide (m.kind = 5) || (decide (m.kind = 6) && decide (m.logTerm = 0) && decide (m.commit = 0)))
def node7 (n : Int) : Bool := decide (1 ≤ n ∧ n ≤ 7)
def known9 (n : Int) : Bool := decide (1 ≤ n ∧ n ≤ 9)
def wideP (c : Conf) : Bool := decide (7 < c.voters.length) || decide (7 < c.learners.length)
def longE (e : Entry) : Bool := decide (262144 < e.data.length) || wideP e.conf || decide (e.kind < 1) || decide (3 < e.kind)
def longP (m : Msg) : Bool := decide (8 < m.entries.length) || decide (262144 < m.data.length) || wideP m.conf || m.entries.any longE

theorem or64_zero {a b : Int} (ha : rng .u64 a) (hb : rng .u64 b) : (IntKind.u64.wrap ((BitVec.ofInt IntKind.u64.bits a ||| BitVec.ofInt IntKind.u64.bits b).toNat) == 0) = (decide (a = 0) && decide (b = 0)) := by
  have hz : ∀ {c : Int}, rng .u64 c → (BitVec.ofInt 64 c = 0#64 ↔ c = 0) := fun {c} hc => by
    simp only [rng] at hc
    constructor
    · intro h
      have h1 := congrArg BitVec.toNat h
      simp only [BitVec.toNat_ofInt, BitVec.toNat_ofNat] at h1
      omega
    · rintro rfl; rfl
  have hw : ∀ x : BitVec 64, IntKind.u64.wrap (x.toNat : Int) = x.toNat := fun x => by
    have := x.isLt
    exact rng.wrap (by simp only [rng]; omega)
  have h1 : IntKind.u64.wrap ((BitVec.ofInt IntKind.u64.bits a ||| BitVec.ofInt IntKind.u64.bits b).toNat) = ((BitVec.ofInt 64 a ||| BitVec.ofInt 64 b : BitVec 64).toNat : Int) := hw _
  rw [h1, Bool.eq_iff_iff]
  simp only [beq_iff_eq, Bool.and_eq_true, decide_eq_true_eq]
  rw [← hz ha, ← hz hb, ← BitVec.or_eq_zero_iff]
  constructor
  · intro h
    apply BitVec.eq_of_toNat_eq
    simpa using h
  · intro h; rw [h]; rfl

set_option maxRecDepth 100000 in
theorem bNode_ct {w : World} {s : Res} {os : List Res} {n : Int} (hg : Good w s os) : Calls Tryd.prog 16 #[i64 n] w (PostV w s os fun r => r = .bool (node7 n)) := by
  refine enter (l := [i64 n]) Tryd.func16 rfl Tryd.ntmps16 rfl ?_
  refine CW.seq (CW.plain ?_)
  refine RL.pure rfl rfl rfl rfl ?_
  refine RL.done ?_
  refine CW.seq (CW.plain ?_)
  refine RL.pure rfl rfl rfl rfl ?_
  refine RL.pure rfl rfl rfl rfl ?_
  refine RL.pure rfl rfl rfl rfl ?_
  refine RL.part 5 rfl (fun h5 => ?_) (fun h5 => ?_)
  · refine RL.pure rfl rfl rfl rfl ?_
    refine RL.pure rfl rfl rfl rfl ?_
    refine RL.pure rfl rfl rfl rfl ?_
    refine RL.pure rfl rfl rfl rfl ?_
    refine RL.done ?_
    exact CW.ret (ret (vs := [_]) ⟨_, _, rfl, rfl, rfl⟩ (PostV.mk hg (Aux.refl _) (congrArg Value.bool (by have h5 := of_decide_eq_true h5; simp [node7, known9, h5]; try omega))))
  · refine RL.pass rfl rfl rfl ?_
    refine RL.pass rfl rfl rfl ?_
    refine RL.pure rfl rfl rfl rfl ?_
    refine RL.pure rfl rfl rfl rfl ?_
    refine RL.done ?_
    exact CW.ret (ret (vs := [_]) ⟨_, _, rfl, rfl, rfl⟩ (PostV.mk hg (Aux.refl _) (congrArg Value.bool (by have h5 := of_decide_eq_false h5; simp [node7, known9, h5]; try omega))))
set_option maxRecDepth 100000 in
theorem dNode_ct {w : World} {s : Res} {os : List Res} {n : Int} (hg : Good w s os) : Calls Tryd.prog 23 #[i64 n] w (PostV w s os fun r => r = .bool (node7 n)) := by
  refine enter (l := [i64 n]) Tryd.func23 rfl Tryd.ntmps23 rfl ?_
  refine CW.seq (CW.plain ?_)
  refine RL.pure rfl rfl rfl rfl ?_
  refine RL.done ?_
  refine CW.seq (CW.plain ?_)
  refine RL.pure rfl rfl rfl rfl ?_
  refine RL.pure rfl rfl rfl rfl ?_
  refine RL.pure rfl rfl rfl rfl ?_
  refine RL.part 5 rfl (fun h5 => ?_) (fun h5 => ?_)
  · refine RL.pure rfl rfl rfl rfl ?_
    refine RL.pure rfl rfl rfl rfl ?_
    refine RL.pure rfl rfl rfl rfl ?_
    refine RL.pure rfl rfl rfl rfl ?_
    refine RL.done ?_
    exact CW.ret (ret (vs := [_]) ⟨_, _, rfl, rfl, rfl⟩ (PostV.mk hg (Aux.refl _) (congrArg Value.bool (by have h5 := of_decide_eq_true h5; simp [node7, known9, h5]; try omega))))
  · refine RL.pass rfl rfl rfl ?_
    refine RL.pass rfl rfl rfl ?_
    refine RL.pure rfl rfl rfl rfl ?_
    refine RL.pure rfl rfl rfl rfl ?_
    refine RL.done ?_
    exact CW.ret (ret (vs := [_]) ⟨_, _, rfl, rfl, rfl⟩ (PostV.mk hg (Aux.refl _) (congrArg Value.bool (by have h5 := of_decide_eq_false h5; simp [node7, known9, h5]; try omega))))
set_option maxRecDepth 100000 in
theorem bKnown_ct {w : World} {s : Res} {os : List Res} {n : Int} (hg : Good w s os) : Calls Tryd.prog 30 #[i64 n] w (PostV w s os fun r => r = .bool (known9 n)) := by
  refine enter (l := [i64 n]) Tryd.func30 rfl Tryd.ntmps30 rfl ?_
  refine CW.seq (CW.plain ?_)
  refine RL.pure rfl rfl rfl rfl ?_
  refine RL.done ?_
  refine CW.seq (CW.plain ?_)
  refine RL.pure rfl rfl rfl rfl ?_
  refine RL.pure rfl rfl rfl rfl ?_
  refine RL.pure rfl rfl rfl rfl ?_
  refine RL.part 5 rfl (fun h5 => ?_) (fun h5 => ?_)
  · refine RL.pure rfl rfl rfl rfl ?_
    refine RL.pure rfl rfl rfl rfl ?_
    refine RL.pure rfl rfl rfl rfl ?_
    refine RL.pure rfl rfl rfl rfl ?_
    refine RL.done ?_
    exact CW.ret (ret (vs := [_]) ⟨_, _, rfl, rfl, rfl⟩ (PostV.mk hg (Aux.refl _) (congrArg Value.bool (by have h5 := of_decide_eq_true h5; simp [node7, known9, h5]; try omega))))
  · refine RL.pass rfl rfl rfl ?_
    refine RL.pass rfl rfl rfl ?_
    refine RL.pure rfl rfl rfl rfl ?_
    refine RL.pure rfl rfl rfl rfl ?_
    refine RL.done ?_
    exact CW.ret (ret (vs := [_]) ⟨_, _, rfl, rfl, rfl⟩ (PostV.mk hg (Aux.refl _) (congrArg Value.bool (by have h5 := of_decide_eq_false h5; simp [node7, known9, h5]; try omega))))
set_option maxRecDepth 100000 in
theorem dKnown_ct {w : World} {s : Res} {os : List Res} {n : Int} (hg : Good w s os) : Calls Tryd.prog 27 #[i64 n] w (PostV w s os fun r => r = .bool (known9 n)) := by
  refine enter (l := [i64 n]) Tryd.func27 rfl Tryd.ntmps27 rfl ?_
  refine CW.seq (CW.plain ?_)
  refine RL.pure rfl rfl rfl rfl ?_
  refine RL.done ?_
  refine CW.seq (CW.plain ?_)
  refine RL.pure rfl rfl rfl rfl ?_
  refine RL.pure rfl rfl rfl rfl ?_
  refine RL.pure rfl rfl rfl rfl ?_
  refine RL.part 5 rfl (fun h5 => ?_) (fun h5 => ?_)
  · refine RL.pure rfl rfl rfl rfl ?_
    refine RL.pure rfl rfl rfl rfl ?_
    refine RL.pure rfl rfl rfl rfl ?_
    refine RL.pure rfl rfl rfl rfl ?_
    refine RL.done ?_
    exact CW.ret (ret (vs := [_]) ⟨_, _, rfl, rfl, rfl⟩ (PostV.mk hg (Aux.refl _) (congrArg Value.bool (by have h5 := of_decide_eq_true h5; simp [node7, known9, h5]; try omega))))
  · refine RL.pass rfl rfl rfl ?_
    refine RL.pass rfl rfl rfl ?_
    refine RL.pure rfl rfl rfl rfl ?_
    refine RL.pure rfl rfl rfl rfl ?_
    refine RL.done ?_
    exact CW.ret (ret (vs := [_]) ⟨_, _, rfl, rfl, rfl⟩ (PostV.mk hg (Aux.refl _) (congrArg Value.bool (by have h5 := of_decide_eq_false h5; simp [node7, known9, h5]; try omega))))

/-! ### a beat? -/
def Msg.fits (m : Msg) : Prop := m.lens ≤ 70368744177664
set_option maxRecDepth 100000 in
theorem Is_ct {w : World} {s : Res} {os : List Res} {vs : List Value} {m : Msg} (hg : Good w s os) (hm : RMsg s vs m) (hb : m.fits) : Calls Tryd.prog 32 #[.agg vs.toArray] w (PostV w s os fun r => r = .bool (isP m)) := by
  obtain ⟨y, rfl, ho⟩ := hm
  simp only [Msg.fits, Msg.lens] at hb
  refine enter (l := [.agg (msgV m y).toArray]) Tryd.func32 rfl Tryd.ntmps32 rfl ?_
  refine CW.seq (CW.plain ?_)
  refine RL.box rfl rfl rfl rfl rfl hg ?_
  rintro p w1 hg1 hax1
  refine ⟨trivial, ?_⟩
  refine RL.pure rfl rfl rfl rfl ?_
  refine RL.done ?_
  have hH : Holds (Res.one p _) ⟨p, 0, none⟩ (msgV m y) := Holds.one p _ 42
  have hin := hg1.1
  refine CW.meet (fun E w' => w' = w1 ∧ E = [(1, ptr p)] ∧ m.lens = 0 ∧ m.reject = false ∧ m.done = false ∧ m.hint = 0) ?_ ?_
  · refine CW.seq (CW.plain ?_)
    refine RL.field rfl rfl rfl rfl fl42_6 rfl rfl ?_
    refine RL.load (j := 6) rfl rfl rfl rfl ty37 rfl (hH) (hin) rfl ?_
    refine RL.len rfl rfl rfl rfl sl37 rfl ?_
    refine RL.field rfl rfl rfl rfl fl42_11 rfl rfl ?_
    refine RL.load (j := 12) rfl rfl rfl rfl ty22 rfl (hH) (hin) rfl ?_
    refine RL.len rfl rfl rfl rfl sl22 rfl ?_
    refine RL.add rfl rfl rfl rfl rfl rfl (by simp only [rng] at *; omega) ?_
    refine RL.field rfl rfl rfl rfl fl42_10 rfl rfl ?_
    refine RL.field rfl rfl rfl rfl fl40_0 rfl rfl ?_
    refine RL.load (j := 10) rfl rfl rfl rfl ty38 rfl (hH) (hin) rfl ?_
    refine RL.len rfl rfl rfl rfl sl38 rfl ?_
    refine RL.add rfl rfl rfl rfl rfl rfl (by simp only [rng] at *; omega) ?_
    refine RL.field rfl rfl rfl rfl fl42_10 rfl rfl ?_
    refine RL.field rfl rfl rfl rfl fl40_1 rfl rfl ?_
    refine RL.load (j := 11) rfl rfl rfl rfl ty38 rfl (hH) (hin) rfl ?_
    refine RL.len rfl rfl rfl rfl sl38 rfl ?_
    refine RL.add rfl rfl rfl rfl rfl rfl (by simp only [rng] at *; omega) ?_
    refine RL.pure rfl rfl rfl rfl ?_
    refine RL.pure rfl rfl rfl rfl ?_
    refine RL.part 21 rfl (fun h21 => ?_) (fun h21 => ?_)
    · refine RL.pass rfl rfl rfl ?_
      refine RL.pass rfl rfl rfl ?_
      refine RL.pure rfl rfl rfl rfl ?_
      refine RL.pure rfl rfl rfl rfl ?_
      refine RL.pass rfl rfl rfl ?_
      refine RL.pass rfl rfl rfl ?_
      refine RL.pure rfl rfl rfl rfl ?_
      refine RL.pure rfl rfl rfl rfl ?_
      refine RL.pass rfl rfl rfl ?_
      refine RL.pass rfl rfl rfl ?_
      refine RL.pass rfl rfl rfl ?_
      refine RL.pure rfl rfl rfl rfl ?_
      refine RL.done ?_
      refine CW.yes rfl (CW.seq (CW.plain ?_))
      refine RL.pure rfl rfl rfl rfl ?_
      refine RL.done ?_
      refine CW.ret (ret (vs := [_]) ⟨_, _, rfl, rfl, rfl⟩ (PostV.mk hg1.drop hax1 (congrArg Value.bool ?_)))
      first
        | (have h21 : m.lens ≠ 0 := by (have := of_decide_eq_true h21; simp only [Msg.lens]; omega)
           simp [isP, h21])
        | simp_all [isP]
    · refine RL.field rfl rfl rfl rfl fl42_8 rfl rfl ?_
      refine RL.load (j := 8) rfl rfl rfl rfl ty4 rfl (hH) (hin) rfl ?_
      refine RL.pure rfl rfl rfl rfl ?_
      refine RL.pure rfl rfl rfl rfl ?_
      refine RL.part 25 rfl (fun h25 => ?_) (fun h25 => ?_)
      · refine RL.pass rfl rfl rfl ?_
        refine RL.pass rfl rfl rfl ?_
        refine RL.pure rfl rfl rfl rfl ?_
        refine RL.pure rfl rfl rfl rfl ?_
        refine RL.pass rfl rfl rfl ?_
        refine RL.pass rfl rfl rfl ?_
        refine RL.pass rfl rfl rfl ?_
        refine RL.pure rfl rfl rfl rfl ?_
        refine RL.done ?_
        refine CW.yes rfl (CW.seq (CW.plain ?_))
        refine RL.pure rfl rfl rfl rfl ?_
        refine RL.done ?_
        refine CW.ret (ret (vs := [_]) ⟨_, _, rfl, rfl, rfl⟩ (PostV.mk hg1.drop hax1 (congrArg Value.bool ?_)))
        first
          | (have h21 : m.lens ≠ 0 := by (have := of_decide_eq_true h21; simp only [Msg.lens]; omega)
             simp [isP, h21])
          | simp_all [isP]
      · refine RL.field rfl rfl rfl rfl fl42_12 rfl rfl ?_
        refine RL.load (j := 13) rfl rfl rfl rfl ty4 rfl (hH) (hin) rfl ?_
        refine RL.pure rfl rfl rfl rfl ?_
        refine RL.pure rfl rfl rfl rfl ?_
        refine RL.part 29 rfl (fun h29 => ?_) (fun h29 => ?_)
        · refine RL.pass rfl rfl rfl ?_
          refine RL.pass rfl rfl rfl ?_
          refine RL.pass rfl rfl rfl ?_
          refine RL.pure rfl rfl rfl rfl ?_
          refine RL.done ?_
          refine CW.yes rfl (CW.seq (CW.plain ?_))
          refine RL.pure rfl rfl rfl rfl ?_
          refine RL.done ?_
          refine CW.ret (ret (vs := [_]) ⟨_, _, rfl, rfl, rfl⟩ (PostV.mk hg1.drop hax1 (congrArg Value.bool ?_)))
          first
            | (have h21 : m.lens ≠ 0 := by (have := of_decide_eq_true h21; simp only [Msg.lens]; omega)
               simp [isP, h21])
            | simp_all [isP]
        · refine RL.field rfl rfl rfl rfl fl42_9 rfl rfl ?_
          refine RL.load (j := 9) rfl rfl rfl rfl ty36 rfl (hH) (hin) rfl ?_
          refine RL.pure rfl rfl rfl rfl ?_
          refine RL.pure rfl rfl rfl rfl ?_
          refine RL.done ?_
          refine CW.cond rfl (fun hh => CW.seq (CW.plain ?_)) (fun hh => CW.skip ?_)
          · skip
            refine RL.pure rfl rfl rfl rfl ?_
            refine RL.done ?_
            refine CW.ret (ret (vs := [_]) ⟨_, _, rfl, rfl, rfl⟩ (PostV.mk hg1.drop hax1 (congrArg Value.bool ?_)))
            simp_all [isP, Msg.lens]
          · exact fun ac ha => ⟨[(1, ptr p)], ha.sub ⟨rfl, trivial⟩, rfl, rfl, by (have := of_decide_eq_false h21; simp only [Msg.lens]; omega), h25, h29, by simpa using hh⟩
  rintro E w' ⟨rfl, rfl, e1, e2, e3, e4⟩
  refine CW.seq (CW.plain ?_)
  refine RL.field rfl rfl rfl rfl fl42_0 rfl rfl ?_
  refine RL.load (j := 0) rfl rfl rfl rfl ty35 rfl (hH) (hin) rfl ?_
  refine RL.pure rfl rfl rfl rfl ?_
  refine RL.pure rfl rfl rfl rfl ?_
  refine RL.part 37 rfl (fun h37 => ?_) (fun h37 => ?_)
  · refine RL.pass rfl rfl rfl ?_
    refine RL.pass rfl rfl rfl ?_
    refine RL.pass rfl rfl rfl ?_
    refine RL.pass rfl rfl rfl ?_
    refine RL.pass rfl rfl rfl ?_
    refine RL.pass rfl rfl rfl ?_
    refine RL.pass rfl rfl rfl ?_
    refine RL.pass rfl rfl rfl ?_
    refine RL.pass rfl rfl rfl ?_
    refine RL.pass rfl rfl rfl ?_
    refine RL.pass rfl rfl rfl ?_
    refine RL.pure rfl rfl rfl rfl ?_
    refine RL.pure rfl rfl rfl rfl ?_
    refine RL.done ?_
    refine CW.ret (ret (vs := [_]) ⟨_, _, rfl, rfl, rfl⟩ (PostV.mk hg1.drop hax1 (congrArg Value.bool ?_)))
    simp_all [isP]
  · refine RL.field rfl rfl rfl rfl fl42_0 rfl rfl ?_
    refine RL.load (j := 0) rfl rfl rfl rfl ty35 rfl (hH) (hin) rfl ?_
    refine RL.pure rfl rfl rfl rfl ?_
    refine RL.pure rfl rfl rfl rfl ?_
    refine RL.part 41 rfl (fun h41 => ?_) (fun h41 => ?_)
    · refine RL.field rfl rfl rfl rfl fl42_5 rfl rfl ?_
      refine RL.load (j := 5) rfl rfl rfl rfl ty36 rfl (hH) (hin) rfl ?_
      refine RL.field rfl rfl rfl rfl fl42_7 rfl rfl ?_
      refine RL.load (j := 7) rfl rfl rfl rfl ty36 rfl (hH) (hin) rfl ?_
      refine RL.pure rfl rfl rfl rfl ?_
      refine RL.as_ rfl rfl rfl rfl (.bool (decide (m.logTerm = 0) && decide (m.commit = 0))) ((congrArg Value.bool (or64_zero ho.logTerm ho.commit))) ?_
      refine RL.pure rfl rfl rfl rfl ?_
      refine RL.pure rfl rfl rfl rfl ?_
      refine RL.pure rfl rfl rfl rfl ?_
      refine RL.done ?_
      refine CW.ret (ret (vs := [_]) ⟨_, _, rfl, rfl, rfl⟩ (PostV.mk hg1.drop hax1 (congrArg Value.bool ?_)))
      simp_all [isP]
    · refine RL.pass rfl rfl rfl ?_
      refine RL.pass rfl rfl rfl ?_
      refine RL.pass rfl rfl rfl ?_
      refine RL.pass rfl rfl rfl ?_
      refine RL.pass rfl rfl rfl ?_
      refine RL.pass rfl rfl rfl ?_
      refine RL.pure rfl rfl rfl rfl ?_
      refine RL.pure rfl rfl rfl rfl ?_
      refine RL.pure rfl rfl rfl rfl ?_
      refine RL.done ?_
      refine CW.ret (ret (vs := [_]) ⟨_, _, rfl, rfl, rfl⟩ (PostV.mk hg1.drop hax1 (congrArg Value.bool ?_)))
      simp_all [isP]
end Go.Lw
