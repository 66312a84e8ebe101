/-
  An error stays; entries are read: plain (printed by beatsw.py out of the codec texts).
-/
import Derived.Test.YthaomecbklmmdaaDoorOpBrM
import Derived.Test.YthaomecbklmmdaaDoorOpCodecRl
namespace Go.Lw
open Go.Proofs
attribute [local irreducible] RL RA

theorem RdObj.up {s s' A : Res} {p : Nat} {bs : List Int} {st : RS} (h : RdObj s A p bs st) (hl : Le s s') : RdObj s' A p bs st := by
  obtain ⟨h0, h1, a, c, v, hp, hI, hv⟩ := h
  exact ⟨h0, h1, a, c, v, hp, hI.up (RInt.up _) hl, hv.up hl⟩
theorem RrObj.up {s s' A : Res} {p : Nat} {bs : List Int} {st : RS} (h : RrObj s A p bs st) (hl : Le s s') : RrObj s' A p bs st := by
  obtain ⟨h0, h1, a, c, bad, hp, hI, hv⟩ := h
  exact ⟨h0, h1, a, c, bad, hp, hI.up (RInt.up _) hl, hv⟩
theorem failAt_err {st : RS} {e k : Int} (h : (st.failAt e k).err.isNone = true) : st.err.isNone = true := by
  cases hs : st.err with
  | none => rfl
  | some q => simp [RS.failAt, hs] at h
theorem rdUint_err {bs : List Int} {st : RS} (h : (rdUint bs st).2.err.isNone = true) : st.err.isNone = true := by
  cases hs : st.err with
  | none => rfl
  | some q => simp [rdUint, hs] at h
theorem rdInt_err {bs : List Int} {st : RS} (h : (rdInt bs st).2.err.isNone = true) : st.err.isNone = true := rdUint_err h
theorem rdCount_err {bs : List Int} {st : RS} {most : Int} (h : (rdCount bs st most).2.err.isNone = true) : st.err.isNone = true := by
  unfold rdCount at h
  split at h
  · exact rdUint_err h
  split at h
  · exact rdUint_err (failAt_err h)
  split at h
  · exact rdUint_err (failAt_err h)
  · exact rdUint_err h
theorem rdBytes_err {bs : List Int} {st : RS} {most : Int} (h : (rdBytes bs st most).2.err.isNone = true) : st.err.isNone = true := by
  unfold rdBytes at h
  split at h
  · exact rdCount_err h
  · rename_i h'
    exact rdCount_err (by simpa using h')
theorem rdIs_err {bs : List Int} : ∀ {n : Nat} {st : RS} {xs : List Int}, (rdIs bs n st xs).2.err.isNone = true → st.err.isNone = true
  | 0, _, _, h => h
  | n + 1, st, xs, h => by
    unfold rdIs at h
    split at h
    · assumption
    · exact h
theorem rdInts_err {bs : List Int} {st : RS} (h : (rdInts bs st).2.err.isNone = true) : st.err.isNone = true := rdCount_err (rdIs_err h)
theorem rdConf_err {bs : List Int} {st : RS} (h : (rdConf bs st).2.err.isNone = true) : st.err.isNone = true := rdInts_err (rdInts_err h)
def Entry.zero : Entry := ⟨0, 0, 0, [], ⟨[], []⟩⟩
theorem nilB (s : Res) : Imm (RInt .u8) 1 s none 0 [] := Imm.nil _ _ _ (Nat.zero_le _)
theorem nilI (s : Res) : Imm (RInt .i64) 1 s none 0 [] := Imm.nil _ _ _ (Nat.zero_le _)
theorem REntry.zero (s : Res) : REntry s [.int .u64 0, .int .u64 0, .int .i64 0, nilSl, nilSl, nilSl] Entry.zero := ⟨none, 0, none, 0, none, 0, rfl, by simp [Entry.zero, rng], by simp [Entry.zero, rng], by simp [Entry.zero, rng], nilB s, nilI s, nilI s⟩
def rdEntry (bs : List Int) (st : RS) : Entry × RS :=
  let i := rdUint bs st
  let t := rdUint bs i.2
  let k := rdKind bs t.2 3
  let d := rdBytes bs k.2 262144
  let c := rdConf bs d.2
  (if c.2.err.isNone then ⟨i.1, t.1, k.1, d.1, c.1⟩ else Entry.zero, c.2)
end Go.Lw
