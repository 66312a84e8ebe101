/-
  Beats: what is read: plain.
-/
import Derived.Test.YthaomecbklmmdaaDoorOpBrE
import Derived.Test.YthaomecbklmmdaaDoorOpBxK
namespace Go.Lw
open Go.Proofs

def mkMsg (kind term index logTerm : Int) (es : List Entry) (commit : Int) (reject : Bool) (hint : Int) (conf : Conf) (data : List Int) (done : Bool) : Msg := ⟨kind, 0, 0, term, index, logTerm, es, commit, reject, hint, conf, data, done⟩
def rdBeat (bs : List Int) (st : RS) : Wire × RS :=
  let g := rdUint bs st
  let a := rdBool bs g.2
  let t := rdUint bs a.2
  let i := rdUint bs t.2
  if a.1 = true then (⟨g.1, mkMsg 6 t.1 i.1 0 [] 0 false 0 ⟨[], []⟩ [] false⟩, i.2)
  else
    let lt := rdUint bs i.2
    let cm := rdUint bs lt.2
    (⟨g.1, mkMsg 5 t.1 i.1 lt.1 [] cm.1 false 0 ⟨[], []⟩ [] false⟩, cm.2)
def rdEs (bs : List Int) : Nat → RS → List Entry → List Entry × RS
  | 0, st, xs => (xs, st)
  | n + 1, st, xs => rdEs bs n (rdEntry bs st).2 (xs ++ [(rdEntry bs st).1])
def rdFull0 (bs : List Int) (st : RS) : Wire × RS :=
  let g := rdUint bs st
  let k := rdInt bs g.2
  let t := rdUint bs k.2
  let i := rdUint bs t.2
  let lt := rdUint bs i.2
  let n := rdCount bs lt.2 8
  let es := rdEs bs n.1.toNat n.2 []
  let cm := rdUint bs es.2
  let rj := rdBool bs cm.2
  let hi := rdUint bs rj.2
  let cf := rdConf bs hi.2
  let da := rdBytes bs cf.2 262144
  let dn := rdBool bs da.2
  (⟨g.1, mkMsg k.1 t.1 i.1 lt.1 es.1 cm.1 rj.1 hi.1 cf.1 da.1 dn.1⟩, dn.2)
def oddP (m : Msg) : Bool := isP m || !known9 m.kind
def rdFull (bs : List Int) (st : RS) : Wire × RS :=
  ((rdFull0 bs st).1, if oddP (rdFull0 bs st).1.msg = true then (rdFull0 bs st).2.fail 111 else (rdFull0 bs st).2)
def rdW (k : Int) (bs : List Int) (st : RS) : Wire × RS := if k = 2 then rdBeat bs st else rdFull bs st
def setFT (frm to : Int) (x : Wire) : Wire := ⟨x.group, { x.msg with frm := frm, to := to }⟩
def rdWs (k frm to : Int) (bs : List Int) : Nat → RS → List Wire → List Wire × RS
  | 0, st, xs => (xs, st)
  | n + 1, st, xs => if st.err.isNone then rdWs k frm to bs n (rdW k bs st).2 (xs ++ [setFT frm to (rdW k bs st).1]) else (xs, st)
def doneOf (bs : List Int) (st : RS) : Int := if st.errno = 0 ∧ st.pos < bs.length then 15 else st.errno
def badP (p : Packet) : Bool := !node7 p.frm || !node7 p.to || decide (p.frm = p.to) || (decide (p.kind ≠ 1) && decide (p.kind ≠ 2))
def st0P (bs : List Int) : RS := if (rdCount bs ⟨0, none⟩ 4096).1 = 0 then (rdCount bs ⟨0, none⟩ 4096).2.fail 111 else (rdCount bs ⟨0, none⟩ 4096).2
def openP (p : Packet) : List Wire × Int :=
  if badP p = true then ([], 1)
  else
    let r := rdWs p.kind p.frm p.to p.data (rdCount p.data ⟨0, none⟩ 4096).1.toNat (st0P p.data) []
    if doneOf p.data r.2 ≠ 0 then ([], doneOf p.data r.2) else (r.1, 0)

/-- A row of bytes that did not lie in s0. -/
def Fresh (s0 s : Res) (a : Option Addr) (c : Nat) (xs : List Int) : Prop := xs = [] ∨ ∃ b cs, a = some ⟨b, 0, none⟩ ∧ s0 b = none ∧ s b = some (.cells cs 5 (0, 0)) ∧ cs.size = c
theorem Fresh.up {s0 s s' : Res} {a : Option Addr} {c : Nat} {xs : List Int} (h : Fresh s0 s a c xs) (hl : Le s s') : Fresh s0 s' a c xs := by
  rcases h with h | ⟨b, cs, h1, h2, h3, h4⟩
  · exact .inl h
  · exact .inr ⟨b, cs, h1, h2, hl _ _ h3, h4⟩
theorem Fresh.old {s0 s1 s : Res} {a : Option Addr} {c : Nat} {xs : List Int} (h : Fresh s1 s a c xs) (hl : Le s0 s1) : Fresh s0 s a c xs := by
  rcases h with h | ⟨b, cs, h1, h2, h3, h4⟩
  · exact .inl h
  · refine .inr ⟨b, cs, h1, ?_, h3, h4⟩
    cases hb : s0 b with
    | none => rfl
    | some x => rw [hl _ _ hb] at h2; cases h2
theorem Own.newRow {w : World} {s0 s s' A : Res} {os : List Res} {a : Option Addr} {c : Nat} {xs : List Int} (h : Own (RInt .u8) 1 5 s A a c xs) (hg : Good w s (A :: os)) (h0 : Le s0 s) (hA : Le A s') : Fresh s0 s' a c xs := by
  rcases h with ⟨_, _, h⟩ | ⟨g, cs, h1, h2, h3, h4, h5, h6⟩
  · exact .inl h
  · refine .inr ⟨g, cs, h1, ?_, hA _ _ h2, by omega⟩
    have hs : s g = none := hg.2.1 g (by rw [h2]; simp)
    cases hb : s0 g with
    | none => rfl
    | some x => rw [h0 _ _ hb] at hs; cases hs
/-- A message whose bytes did not lie in s0. -/
def RWireF (s0 : Res) : Res → List Value → Wire → Prop := fun s vs x => ∃ y, vs = u64 x.group :: msgV x.msg y ∧ rng .u64 x.group ∧ MsgOk s x.msg y ∧ Fresh s0 s y.da y.dc x.msg.data
theorem RWireF.up (s0 : Res) : Up (RWireF s0) := fun _ _ _ _ hl ⟨y, h, h1, h2, h3⟩ => ⟨y, h, h1, h2.up hl, h3.up hl⟩
theorem RWireF.old {s0 s1 s : Res} {vs : List Value} {x : Wire} (h : RWireF s1 s vs x) (hl : Le s0 s1) : RWireF s0 s vs x := let ⟨y, h, h1, h2, h3⟩ := h; ⟨y, h, h1, h2, h3.old hl⟩
theorem RWireF.wire {s0 s : Res} {vs : List Value} {x : Wire} (h : RWireF s0 s vs x) : RWire s vs x := let ⟨y, h, h1, h2, _⟩ := h; ⟨y, h, h1, h2⟩
/-- A message's cells, one by one. -/
abbrev wv (g k f t te i lt : Int) (es : Value) (cm : Int) (rj : Bool) (hi : Int) (vs ls da : Value) (dn : Bool) : List Value :=
  [u64 g, i64 k, i64 f, i64 t, u64 te, u64 i, u64 lt, es, u64 cm, .bool rj, u64 hi, vs, ls, da, .bool dn]
end Go.Lw
