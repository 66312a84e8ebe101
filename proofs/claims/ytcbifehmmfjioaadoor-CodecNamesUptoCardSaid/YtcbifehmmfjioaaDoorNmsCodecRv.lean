/-
  PLAIN: an error stays; what structs are read.
-/
import Derived.Test.YtcbifehmmfjioaaDoorNmsCodecRm
import Derived.Test.YtcbifehmmfjioaaDoorNmsCodecRl
namespace Go.Lw
open Go.Proofs

theorem RdObj.up {s s' A : Res} {p : Nat} {bs : List Int} {st : RS} (h : RdObj s A p bs st) (hl : Le s s') : RdObj s' A p bs st := by
  obtain ⟨h0, h1, a, c, v, hp, hI, hv⟩ := h
  exact ⟨h0, h1, a, c, v, hp, hI.up (RInt.up _) hl, hv.up hl⟩
theorem RrObj.up {s s' A : Res} {p : Nat} {bs : List Int} {st : RS} (h : RrObj s A p bs st) (hl : Le s s') : RrObj s' A p bs st := by
  obtain ⟨h0, h1, a, c, bad, hp, hI, hv⟩ := h
  exact ⟨h0, h1, a, c, bad, hp, hI.up (RInt.up _) hl, hv⟩

theorem failAt_err {st : RS} {e k : Int} (h : (st.failAt e k).err.isNone = true) : st.err.isNone = true := by
  cases hs : st.err with
  | none => rfl
  | some q => simp [RS.failAt, hs] at h
theorem rdUint_err {bs : List Int} {st : RS} (h : (rdUint bs st).2.err.isNone = true) : st.err.isNone = true := by
  cases hs : st.err with
  | none => rfl
  | some q => simp [rdUint, hs] at h
theorem rdInt_err {bs : List Int} {st : RS} (h : (rdInt bs st).2.err.isNone = true) : st.err.isNone = true := rdUint_err h
theorem rdCount_err {bs : List Int} {st : RS} {most : Int} (h : (rdCount bs st most).2.err.isNone = true) : st.err.isNone = true := by
  unfold rdCount at h
  split at h
  · exact rdUint_err h
  split at h
  · exact rdUint_err (failAt_err h)
  split at h
  · exact rdUint_err (failAt_err h)
  · exact rdUint_err h
theorem rdBytes_err {bs : List Int} {st : RS} {most : Int} (h : (rdBytes bs st most).2.err.isNone = true) : st.err.isNone = true := by
  unfold rdBytes at h
  split at h
  · exact rdCount_err h
  · rename_i h'
    exact rdCount_err (by simpa using h')
theorem rdIs_err {bs : List Int} : ∀ {n : Nat} {st : RS} {xs : List Int}, (rdIs bs n st xs).2.err.isNone = true → st.err.isNone = true
  | 0, _, _, h => h
  | n + 1, st, xs, h => by
    unfold rdIs at h
    split at h
    · assumption
    · exact h
theorem rdInts_err {bs : List Int} {st : RS} (h : (rdInts bs st).2.err.isNone = true) : st.err.isNone = true := rdCount_err (rdIs_err h)
theorem rdConf_err {bs : List Int} {st : RS} (h : (rdConf bs st).2.err.isNone = true) : st.err.isNone = true := rdInts_err (rdInts_err h)

def Entry.zero : Entry := ⟨0, 0, 0, [], ⟨[], []⟩⟩
def Snap.zero : Snap := ⟨0, 0, ⟨[], []⟩, []⟩
def Range.zero : Range := ⟨⟨#[]⟩, ⟨#[]⟩⟩
def Record.zero : Record := ⟨0, ⟨#[]⟩, [], 0, 0⟩
theorem nilB (s : Res) : Imm (RInt .u8) 1 s none 0 [] := Imm.nil _ _ _ (Nat.zero_le _)
theorem nilI (s : Res) : Imm (RInt .i64) 1 s none 0 [] := Imm.nil _ _ _ (Nat.zero_le _)
theorem REntry.zero (s : Res) : REntry s [.int .u64 0, .int .u64 0, .int .i64 0, nilSl, nilSl, nilSl] Entry.zero := ⟨none, 0, none, 0, none, 0, rfl, by simp [Entry.zero, rng], by simp [Entry.zero, rng], by simp [Entry.zero, rng], nilB s, nilI s, nilI s⟩
theorem RSnap.zero (s : Res) : RSnap s [.int .u64 0, .int .u64 0, nilSl, nilSl, nilSl] Snap.zero := ⟨none, 0, none, 0, none, 0, rfl, by simp [Snap.zero, rng], by simp [Snap.zero, rng], nilB s, nilI s, nilI s⟩
theorem RRange.zero (s : Res) : RRange s [.string ⟨#[]⟩, .string ⟨#[]⟩] Range.zero := ⟨rfl, Nat.zero_le _, Nat.zero_le _⟩
theorem RRecord.zero (s : Res) : RRecord s [.int .u64 0, .string ⟨#[]⟩, nilSl, .int .u64 0, .int .u64 0] Record.zero := ⟨none, 0, rfl, by simp [Record.zero, rng], Nat.zero_le _, nilB s, by simp [Record.zero, rng], by simp [Record.zero, rng]⟩

def rdEntry (bs : List Int) (st : RS) : Entry × RS :=
  let i := rdUint bs st
  let t := rdUint bs i.2
  let k := rdKind bs t.2 3
  let d := rdBytes bs k.2 262144
  let c := rdConf bs d.2
  (if c.2.err.isNone then ⟨i.1, t.1, k.1, d.1, c.1⟩ else Entry.zero, c.2)
def rdSnap (bs : List Int) (st : RS) : Snap × RS :=
  let i := rdUint bs st
  let t := rdUint bs i.2
  let c := rdConf bs t.2
  let d := rdBytes bs c.2 262144
  (if d.2.err.isNone then ⟨i.1, t.1, c.1, d.1⟩ else Snap.zero, d.2)
def rdRange (bs : List Int) (st : RS) : Range × RS :=
  let l := rdBytes bs st 32
  let h := rdBytes bs l.2 32
  (if h.2.err.isNone then ⟨strOfNums l.1, strOfNums h.1⟩ else Range.zero, h.2)
def rdRecord (bs : List Int) (st : RS) : Record × RS :=
  let o := rdUint bs st
  let k := rdBytes bs o.2 32
  let v := rdBytes bs k.2 256
  let p := rdUint bs v.2
  let q := rdUint bs p.2
  (if q.2.err.isNone then ⟨o.1, strOfNums k.1, v.1, p.1, q.1⟩ else Record.zero, q.2)
end Go.Lw
