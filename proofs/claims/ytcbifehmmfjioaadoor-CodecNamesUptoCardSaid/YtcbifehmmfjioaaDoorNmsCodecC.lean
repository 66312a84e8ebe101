/-
  The sum of bytes: by a table of sixteen, and bit by bit.
-/
import Derived.Test.YtcbifehmmfjioaaDoorNmsCodecT
import Derived.Test.YtcbifehmmfjioaaDoorNmsA1
namespace Go.Lw
open Go.Proofs

def tabs : List Nat := [0, 274646895, 549293790, 820201905, 1098587580, 1361435347, 1640403810, 1905808397, 2197175160, 2460548119, 2722870694, 2987750089, 3280807620, 3553878443, 3811616794, 4084100981]
def tabAt (i : Nat) : BitVec 32 := BitVec.ofNat 32 (tabs.getD i 0)
def nib (c : BitVec 32) : BitVec 32 := (c >>> 4) ^^^ tabAt (c &&& 15#32).toNat
def updB (c : BitVec 32) (b : Int) : BitVec 32 := nib (nib (c ^^^ BitVec.ofInt 32 b))
def crcF (xs : List Int) : BitVec 32 := xs.foldl updB 4294967295#32
def crc (xs : List Int) : BitVec 32 := ~~~ crcF xs

def bit1 (c : BitVec 32) : BitVec 32 := if c &&& 1#32 = 1#32 then (c >>> 1) ^^^ 2197175160#32 else c >>> 1

theorem bit1_xor (a b : BitVec 32) : bit1 (a ^^^ b) = bit1 a ^^^ bit1 b := by
  have h1 : ∀ c : BitVec 32, c &&& 1#32 = if c[0] then 1#32 else 0#32 := by
    intro c
    apply BitVec.eq_of_getLsbD_eq
    intro i hi
    cases i with
    | zero => cases h : c[0] <;> simp [h]
    | succ i => cases h : c[0] <;> simp
  have h2 : (a ^^^ b)[0] = (a[0] ^^ b[0]) := by simp
  have hc : ∀ x y p : BitVec 32, (x ^^^ y) ^^^ p = (x ^^^ p) ^^^ y := fun x y p => by rw [BitVec.xor_assoc, BitVec.xor_comm y p, ← BitVec.xor_assoc]
  have hs : ∀ p : BitVec 32, p ^^^ p = 0#32 := fun p => BitVec.xor_self
  simp only [bit1, h1, h2, BitVec.ushiftRight_xor_distrib]
  cases ha : a[0] <;> cases hb : b[0] <;> simp
  · rw [BitVec.xor_assoc]
  · rw [hc]
  · rw [← BitVec.xor_assoc, hc (a >>> 1) 2197175160#32 (b >>> 1), BitVec.xor_assoc, hs]; simp

def bits (n : Nat) (c : BitVec 32) : BitVec 32 := n.repeat bit1 c
theorem bits_xor (n : Nat) (a b : BitVec 32) : bits n (a ^^^ b) = bits n a ^^^ bits n b := by
  induction n with
  | zero => rfl
  | succ n ih => simp only [bits, Nat.repeat] at *; rw [ih, bit1_xor]

theorem bit1_even (c : BitVec 32) (h : c[0] = false) : bit1 c = c >>> 1 := by
  have : ¬ c &&& 1#32 = 1#32 := fun e => by
    have := congrArg (fun x : BitVec 32 => x[0]) e
    simp [h] at this
  simp [bit1, this]
theorem bits4_high (c : BitVec 32) (h : ∀ i < 4, c.getLsbD i = false) : bits 4 c = c >>> 4 := by
  simp only [bits, Nat.repeat]
  rw [bit1_even c (by simpa using h 0 (by omega)), bit1_even (c >>> 1) (by simpa using h 1 (by omega)), bit1_even (c >>> 1 >>> 1) (by simpa using h 2 (by omega)), bit1_even (c >>> 1 >>> 1 >>> 1) (by simpa using h 3 (by omega))]
  simp only [← BitVec.shiftRight_add]
theorem bits4_low : ∀ i : Nat, i < 16 → bits 4 (BitVec.ofNat 32 i) = tabAt i := by decide +kernel

theorem nib_bits (c : BitVec 32) : nib c = bits 4 c := by
  have e : c = (c &&& ~~~15#32) ^^^ (c &&& 15#32) := by
    apply BitVec.eq_of_getLsbD_eq
    intro i hi
    simp only [BitVec.getLsbD_xor, BitVec.getLsbD_and, BitVec.getLsbD_not, hi]
    cases c.getLsbD i <;> cases (15#32).getLsbD i <;> rfl
  have h15 : ∀ i, i < 4 → (15#32).getLsbD i = true := by decide
  have hh : bits 4 (c &&& ~~~15#32) = c >>> 4 := by
    rw [bits4_high _ (fun i hi => by rw [BitVec.getLsbD_and, BitVec.getLsbD_not, h15 i hi]; simp)]
    apply BitVec.eq_of_getLsbD_eq
    intro i hi
    have h16 : ∀ i : Nat, 4 ≤ i → (15#32).getLsbD i = false := by
      intro i hi
      simp only [BitVec.getLsbD_ofNat]
      have : Nat.testBit 15 i = false := by
        apply Nat.testBit_lt_two_pow
        calc 15 < 2 ^ 4 := by decide
          _ ≤ 2 ^ i := Nat.pow_le_pow_right (by decide) hi
      simp [this]
    simp only [BitVec.getLsbD_ushiftRight, BitVec.getLsbD_and, BitVec.getLsbD_not, h16 (4 + i) (by omega)]
    by_cases hl : 4 + i < 32
    · simp [hl]
    · simp [BitVec.getLsbD_of_ge c (4 + i) (by omega)]
  have hlt : (c &&& 15#32).toNat < 16 := by
    rw [BitVec.toNat_and]
    exact Nat.lt_of_le_of_lt Nat.and_le_right (by decide)
  have hl : bits 4 (c &&& 15#32) = tabAt (c &&& 15#32).toNat := by
    rw [← bits4_low _ hlt, BitVec.ofNat_toNat]; simp
  conv => rhs; rw [e, bits_xor, hh, hl]
  rfl
theorem updB_bits (c : BitVec 32) (b : Int) : updB c b = bits 8 (c ^^^ BitVec.ofInt 32 b) := by
  rw [updB, nib_bits, nib_bits]; rfl

def tabVs : List Value := tabs.map fun n : Nat => Value.int .u32 (n : Int)
theorem tab_get (k : Nat) (h : k < 16) : tabVs[((k : Int)).toNat * 1]? = some (u32 (tabAt k)) := by
  have h1 : ∀ k, k < 16 → tabs[k]? = some (tabs.getD k 0) ∧ tabs.getD k 0 < 4294967296 := by decide
  obtain ⟨h2, h3⟩ := h1 k h
  rw [show ((k : Int)).toNat * 1 = k by simp, tabVs, List.getElem?_map, h2]
  simp only [Option.map_some]
  rw [u32_num _ h3]
  rfl
theorem and15_lt (c : BitVec 32) : (c &&& 15#32).toNat < 16 := by
  rw [BitVec.toNat_and]
  exact Nat.lt_of_le_of_lt Nat.and_le_right (by decide)
theorem crcF_snoc (xs : List Int) (k : Nat) (hk : k < xs.length) : crcF (xs.take (k + 1)) = updB (crcF (xs.take k)) xs[k] := by
  rw [← List.take_append_getElem hk, crcF, List.foldl_append]
  rfl


set_option maxRecDepth 100000 in
theorem Sum_ct {w : World} {s : Res} {os : List Res} {xs : List Int} {xa : Option Addr} {xc : Nat} (hg : Good w s os) (hx : Imm (RInt .u8) 1 s xa xc xs) (hT : Holds s ⟨0, 0, none⟩ tabVs) :
    Calls Tryd.prog 22 #[.slice xa xs.length xc] w (PostV w s os fun r => r = u32 (crc xs)) := by
  refine enter (l := [.slice xa xs.length xc]) Tryd.func22 rfl Tryd.ntmps22 rfl ?_
  refine CW.seq (CW.plain ?_)
  refine RL.pure rfl rfl rfl rfl ?_
  refine RL.done ?_
  refine CW.seq (CW.plain ?_)
  refine RL.pure rfl rfl rfl rfl ?_
  refine RL.done ?_
  refine CW.seq (CW.seq (CW.plain ?_))
  refine RL.pure rfl rfl rfl rfl ?_
  refine RL.len rfl rfl rfl rfl sl25 rfl ?_
  refine RL.pure rfl rfl rfl rfl ?_
  refine RL.done ?_
  have hlen := hx.le_max
  simp only [maxLen] at hlen
  refine CW.block (CW.loop (σ := Nat) (fun j E w' => w' = w ∧ ∃ k : Nat, E = [(3, u32 (crcF (xs.take k))), (6, .slice xa xs.length xc), (7, .int .i64 xs.length), (8, .int .i64 k)] ∧ k + j = xs.length)
    (fun j => j) xs.length [(3, u32 (crcF (xs.take 0))), (6, .slice xa xs.length xc), (7, .int .i64 xs.length), (8, .int .i64 0)] ⟨rfl, rfl, rfl, rfl, trivial⟩ ⟨rfl, 0, rfl, by omega⟩ ?_)
  rintro j E w' ⟨rfl, k, rfl, hk⟩
  refine CW.seq (CW.plain ?_)
  refine RL.pure rfl rfl rfl rfl ?_
  refine RL.done ?_
  refine CW.seq (CW.test rfl (fun h => ?_) (fun h => ?_))
  · refine CW.skip ?_
    have hkl : k < xs.length := by omega
    have hr := hx.rng xs[k] (List.getElem_mem hkl)
    refine CW.seq (CW.block (CW.seq (CW.plain ?_)))
    refine RL.idx rfl rfl rfl rfl sl25 rfl rfl (hx) (by omega) (by omega) ?_
    rintro q vs hvl hH ⟨rfl, hr'⟩
    refine RL.load rfl rfl rfl rfl ty5 rfl (hH) (hg.sh) rfl ?_
    refine RL.pure rfl rfl rfl rfl ?_
    refine RL.done ?_
    refine CW.seq (CW.plain ?_)
    refine RL.pure rfl rfl rfl rfl ?_
    refine RL.pure rfl rfl rfl rfl ?_
    refine RL.conv rfl rfl rfl rfl Tryd.underlying5 Tryd.underlying58 rfl ((by simp only [rng] at *; simp only [Int.toNat_natCast]; omega)) ?_
    refine RL.as_ rfl rfl rfl rfl (u32 (crcF (xs.take k) ^^^ BitVec.ofInt 32 xs[k])) (xor32i _ _) ?_
    refine RL.pure rfl rfl rfl rfl ?_
    refine RL.done ?_
    refine CW.seq (CW.plain ?_)
    refine RL.pure rfl rfl rfl rfl ?_
    refine RL.shr 4 rfl rfl rfl rfl rfl rfl rfl (by decide) ?_
    refine RL.pure rfl rfl rfl rfl ?_
    refine RL.as_ rfl rfl rfl rfl (u32 ((crcF (xs.take k) ^^^ BitVec.ofInt 32 xs[k]) &&& 15#32)) (and32i _ 15) ?_
    refine RL.idxA rfl rfl rfl rfl ar109 rfl rfl (by omega) (by have := and15_lt (crcF (xs.take k) ^^^ BitVec.ofInt 32 xs[k]); omega) ?_
    refine RL.load (v := u32 (tabAt ((crcF (xs.take k) ^^^ BitVec.ofInt 32 xs[k]) &&& 15#32).toNat)) rfl rfl rfl rfl ty58 rfl hT hg.sh (tab_get _ (and15_lt _)) ?_
    refine RL.as_ rfl rfl rfl rfl (u32 (nib (crcF (xs.take k) ^^^ BitVec.ofInt 32 xs[k]))) ((by rw [shr32n]; exact xor32 _ _)) ?_
    refine RL.pure rfl rfl rfl rfl ?_
    refine RL.done ?_
    refine CW.plain ?_
    refine RL.pure rfl rfl rfl rfl ?_
    refine RL.shr 4 rfl rfl rfl rfl rfl rfl rfl (by decide) ?_
    refine RL.pure rfl rfl rfl rfl ?_
    refine RL.as_ rfl rfl rfl rfl (u32 ((nib (crcF (xs.take k) ^^^ BitVec.ofInt 32 xs[k])) &&& 15#32)) (and32i _ 15) ?_
    refine RL.idxA rfl rfl rfl rfl ar109 rfl rfl (by omega) (by have := and15_lt (nib (crcF (xs.take k) ^^^ BitVec.ofInt 32 xs[k])); omega) ?_
    refine RL.load (v := u32 (tabAt ((nib (crcF (xs.take k) ^^^ BitVec.ofInt 32 xs[k])) &&& 15#32).toNat)) rfl rfl rfl rfl ty58 rfl hT hg.sh (tab_get _ (and15_lt _)) ?_
    refine RL.as_ rfl rfl rfl rfl (u32 (nib (nib (crcF (xs.take k) ^^^ BitVec.ofInt 32 xs[k])))) ((by rw [shr32n]; exact xor32 _ _)) ?_
    refine RL.pure rfl rfl rfl rfl ?_
    refine RL.done ?_
    refine CW.plain ?_
    refine RL.add rfl rfl rfl rfl rfl rfl (by simp only [rng] at *; omega) ?_
    refine RL.pure rfl rfl rfl rfl ?_
    refine RL.done ?_
    cases j with
    | zero => omega
    | succ j =>
      refine fun ac ha => ⟨j, [(3, u32 (crcF (xs.take (k + 1)))), (6, .slice xa xs.length xc), (7, .int .i64 xs.length), (8, .int .i64 ((k : Int) + 1))], ha.sub ⟨by rw [crcF_snoc xs k hkl]; rfl, rfl, rfl, rfl, trivial⟩, ⟨rfl, k + 1, rfl, by omega⟩, Nat.lt_succ_self j⟩
  · refine CW.exit (CW.seq (CW.plain ?_))
    have hkl : k = xs.length := by omega
    subst hkl
    refine RL.pure rfl rfl rfl rfl ?_
    refine RL.compl rfl rfl rfl rfl rfl ?_
    rw [compl32, List.take_length]
    refine RL.pure rfl rfl rfl rfl ?_
    refine RL.done ?_
    exact CW.ret (ret (vs := [_]) ⟨_, _, rfl, rfl, rfl⟩ (PostV.mk hg (Aux.refl _) rfl))
end Go.Lw
