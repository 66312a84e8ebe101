/-
  Frames: a text's bytes and their sum.
-/
import Derived.Test.YtcbifehmmfjioaaDoorNmsCodecRl
namespace Go.Lw
open Go.Proofs

/-- A sum's four bytes. -/
def sumBytes (c : BitVec 32) : List Int := [IntKind.u8.wrap (c.toNat : Int), IntKind.u8.wrap ((c.toNat : Int) / 2 ^ 8), IntKind.u8.wrap ((c.toNat : Int) / 2 ^ 16), IntKind.u8.wrap ((c.toNat : Int) / 2 ^ 24)]
theorem sumBytes_rng (c : BitVec 32) : ∀ x ∈ sumBytes c, rng .u8 x := by
  intro x hx
  simp only [sumBytes, List.mem_cons, List.not_mem_nil, or_false] at hx
  rcases hx with rfl | rfl | rfl | rfl <;> exact rng_wrap _ _
def frame (xs : List Int) : List Int := encT xs ++ sumBytes (crc xs)

set_option maxRecDepth 100000 in
theorem Frame_ct {w : World} {s : Res} {os : List Res} {xs : List Int} {xa : Option Addr} {xc : Nat} (hg : Good w s os) (hx : Imm (RInt .u8) 1 s xa xc xs) (hT : Holds s ⟨0, 0, none⟩ tabVs) (hl : xs.length ≤ 70368744177664) :
    Calls Tryd.prog 18 #[.slice xa xs.length xc] w (Post w s os fun s' A r => BOwn s' A r (frame xs)) := by
  have hlt := encT_length xs
  refine enter (l := [.slice xa xs.length xc]) Tryd.func18 rfl Tryd.ntmps18 rfl ?_
  refine CW.seq (CW.plain ?_)
  refine RL.pure rfl rfl rfl rfl ?_
  refine RL.done ?_
  refine CW.seq (CW.plain ?_)
  refine RL.build rfl rfl rfl rfl ze27 pl27 rfl rfl ?_
  refine RL.box rfl rfl rfl rfl rfl hg ?_
  rintro p w1 hg1 hax1
  refine ⟨trivial, ?_⟩
  refine RL.pure rfl rfl rfl rfl ?_
  refine RL.done ?_
  have hA1 : WObj s (Res.one p (.cells #[.slice none 0 0] 27)) p [] := ⟨none, 0, if_pos rfl, Own.nil _ _ _ _ _⟩
  refine CW.seq (CW.plain ?_)
  refine RL.pure rfl rfl rfl rfl ?_
  refine RL.pure rfl rfl rfl rfl ?_
  refine RL.call rfl rfl rfl rfl rfl ca41 (Bytes_ct hg1 hA1 hx (by simp; omega)) ?_
  rintro v s2 A2 w2 hle2 hg2 hax2 ⟨_, hA2⟩
  refine ⟨trivial, ?_⟩
  refine RL.done ?_
  refine CW.seq (CW.plain ?_)
  refine RL.pure rfl rfl rfl rfl ?_
  refine RL.callV rfl rfl rfl rfl rfl ca22 (Sum_ct hg2 (hx.up (RInt.up _) hle2) (hT.le hle2)) ?_
  rintro v3 w3 hg3 hax3 rfl
  refine ⟨trivial, ?_⟩
  refine RL.pure rfl rfl rfl rfl ?_
  refine RL.done ?_
  obtain ⟨a, c, hp, hown⟩ := hA2
  refine CW.seq (CW.plain ?_)
  refine RL.pure rfl rfl rfl rfl ?_
  refine RL.pure rfl rfl rfl rfl ?_
  refine RL.field rfl rfl rfl rfl fl27_0 rfl rfl ?_
  refine RL.load rfl rfl rfl rfl ty25 rfl (Holds.of hp) (hg3.1) rfl ?_
  refine RL.pure rfl rfl rfl rfl ?_
  refine RL.convw rfl rfl rfl rfl Tryd.underlying58 Tryd.underlying5 rfl ?_
  refine RL.pure rfl rfl rfl rfl ?_
  refine RL.shr 8 rfl rfl rfl rfl rfl rfl rfl (by decide) ?_
  refine RL.convw rfl rfl rfl rfl Tryd.underlying58 Tryd.underlying5 rfl ?_
  refine RL.pure rfl rfl rfl rfl ?_
  refine RL.shr 16 rfl rfl rfl rfl rfl rfl rfl (by decide) ?_
  refine RL.convw rfl rfl rfl rfl Tryd.underlying58 Tryd.underlying5 rfl ?_
  refine RL.pure rfl rfl rfl rfl ?_
  refine RL.shr 24 rfl rfl rfl rfl rfl rfl rfl (by decide) ?_
  refine RL.convw rfl rfl rfl rfl Tryd.underlying58 Tryd.underlying5 rfl ?_
  refine RL.buildSlice rfl rfl rfl rfl sl25 ze5 rfl rfl rfl rfl hg3 ?_
  rintro b w4 hg4 hax4
  refine ⟨trivial, ?_⟩
  refine RL.append (i := 1) (ys := sumBytes (crc xs)) rfl rfl rfl rfl sl25 ze5 rfl (by first | exact RInt.one _ | exact RStr.one | exact RBool.one | assumption) rfl rfl hg4 rfl hown ((Src.slice sl25 rfl (.inr ⟨_, rfl, Holds.one b _ 5⟩) hg4.1)) (ints_chunks (sumBytes_rng _)) ((by simp only [List.nil_append, sumBytes, List.length_cons, List.length_nil]; omega)) (by omega) ?_
  rintro a5 c5 A5 w5 hg5 hown5 hax5 hk5
  refine ⟨trivial, ?_⟩
  refine RL.pure rfl rfl rfl rfl ?_
  refine RL.done ?_
  exact CW.ret (ret (vs := [_]) ⟨_, _, rfl, rfl, rfl⟩ (Post.mk hle2 hg5.drop (hax1.trans (hax2.trans (hax3.trans (hax4.trans hax5)))) ⟨a5, c5, rfl, hown5⟩))

theorem bit1_yes {c : BitVec 32} (h : ((c &&& 1#32).toNat : Int) = 1) : bit1 c = (c >>> 1) ^^^ 2197175160#32 := by
  have : c &&& 1#32 = 1#32 := BitVec.eq_of_toNat_eq (by simpa using (by omega : (c &&& 1#32).toNat = 1))
  simp [bit1, this]
theorem bit1_no {c : BitVec 32} (h : ((c &&& 1#32).toNat : Int) ≠ 1) : bit1 c = c >>> 1 := by
  have : ¬ c &&& 1#32 = 1#32 := fun e => h (by rw [e]; rfl)
  simp [bit1, this]

set_option maxRecDepth 100000 in
theorem rSum_ct {w : World} {s : Res} {os : List Res} {xs : List Int} {xa : Option Addr} {xc : Nat} (hg : Good w s os) (hx : Imm (RInt .u8) 1 s xa xc xs) :
    Calls Tryd.prog 23 #[.slice xa xs.length xc] w (PostV w s os fun r => r = u32 (crc xs)) := by
  refine enter (l := [.slice xa xs.length xc]) Tryd.func23 rfl Tryd.ntmps23 rfl ?_
  refine CW.seq (CW.plain ?_)
  refine RL.pure rfl rfl rfl rfl ?_
  refine RL.done ?_
  refine CW.seq (CW.plain ?_)
  refine RL.pure rfl rfl rfl rfl ?_
  refine RL.done ?_
  refine CW.seq (CW.seq (CW.plain ?_))
  refine RL.pure rfl rfl rfl rfl ?_
  refine RL.done ?_
  have hlen := hx.le_max
  simp only [maxLen] at hlen
  refine CW.block (CW.loop (σ := Nat) (fun j E w' => w' = w ∧ ∃ k : Nat, E = [(0, .slice xa xs.length xc), (3, u32 (crcF (xs.take k))), (4, .int .i64 k)] ∧ k + j = xs.length)
    (fun j => j) xs.length [(0, .slice xa xs.length xc), (3, u32 (crcF (xs.take 0))), (4, .int .i64 0)] ⟨rfl, rfl, rfl, trivial⟩ ⟨rfl, 0, rfl, by omega⟩ ?_)
  rintro j E w' ⟨rfl, k, rfl, hk⟩
  refine CW.seq (CW.seq (CW.plain ?_))
  refine RL.pure rfl rfl rfl rfl ?_
  refine RL.pure rfl rfl rfl rfl ?_
  refine RL.len rfl rfl rfl rfl sl25 rfl ?_
  refine RL.pure rfl rfl rfl rfl ?_
  refine RL.done ?_
  refine CW.test rfl (fun h => ?_) (fun h => ?_)
  · refine CW.skip ?_
    have hkl : k < xs.length := by omega
    have hr := hx.rng xs[k] (List.getElem_mem hkl)
    refine CW.seq (CW.block (CW.seq (CW.plain ?_)))
    refine RL.pure rfl rfl rfl rfl ?_
    refine RL.pure rfl rfl rfl rfl ?_
    refine RL.pure rfl rfl rfl rfl ?_
    refine RL.idx rfl rfl rfl rfl sl25 rfl rfl (hx) (by omega) (by omega) ?_
    rintro q vs hvl hH ⟨rfl, hr'⟩
    refine RL.load rfl rfl rfl rfl ty5 rfl (hH) (hg.sh) rfl ?_
    refine RL.conv rfl rfl rfl rfl Tryd.underlying5 Tryd.underlying58 rfl ((by simp only [rng] at *; simp only [Int.toNat_natCast]; omega)) ?_
    refine RL.as_ rfl rfl rfl rfl (u32 (crcF (xs.take k) ^^^ BitVec.ofInt 32 xs[k])) (xor32i _ _) ?_
    refine RL.pure rfl rfl rfl rfl ?_
    refine RL.done ?_
    refine CW.seq (CW.plain ?_)
    refine RL.pure rfl rfl rfl rfl ?_
    refine RL.done ?_
    refine CW.block (CW.loop (σ := Nat) (fun j' E w'' => w'' = w' ∧ ∃ m : Nat, E = [(0, .slice xa xs.length xc), (3, u32 (bits m (crcF (xs.take k) ^^^ BitVec.ofInt 32 xs[k]))), (4, .int .i64 k), (5, .int .i64 m)] ∧ m + j' = 8)
      (fun j' => j') 8 [(0, .slice xa xs.length xc), (3, u32 (crcF (xs.take k) ^^^ BitVec.ofInt 32 xs[k])), (4, .int .i64 k), (5, .int .i64 0)] ⟨rfl, rfl, rfl, rfl, trivial⟩ ⟨rfl, 0, rfl, rfl⟩ ?_)
    rintro j' E w'' ⟨rfl, m, rfl, hm⟩
    refine CW.seq (CW.seq (CW.plain ?_))
    refine RL.pure rfl rfl rfl rfl ?_
    refine RL.pure rfl rfl rfl rfl ?_
    refine RL.done ?_
    refine CW.test rfl (fun h' => ?_) (fun h' => ?_)
    · refine CW.skip ?_
      generalize hc : bits m (crcF (xs.take k) ^^^ BitVec.ofInt 32 xs[k]) = cc
      refine CW.meet (fun E w3 => w3 = w'' ∧ E = [(0, .slice xa xs.length xc), (3, u32 (bit1 cc)), (4, .int .i64 k), (5, .int .i64 m)]) (CW.block (CW.seq (CW.plain ?_))) ?_
      · refine RL.pure rfl rfl rfl rfl ?_
        refine RL.as_ rfl rfl rfl rfl (u32 (cc &&& 1#32)) (and32i _ 1) ?_
        refine RL.pure rfl rfl rfl rfl ?_
        refine RL.done ?_
        refine CW.eq rfl (fun hb => CW.plain ?_) (fun hb => CW.plain ?_)
        · refine RL.pure rfl rfl rfl rfl ?_
          refine RL.shr 1 rfl rfl rfl rfl rfl rfl rfl (by decide) ?_
          refine RL.as_ rfl rfl rfl rfl (u32 (bit1 cc)) ((by rw [shr32n, bit1_yes hb]; exact xor32i _ 2197175160)) ?_
          refine RL.pure rfl rfl rfl rfl ?_
          refine RL.done ?_
          exact fun ac ha => ⟨[(0, .slice xa xs.length xc), (3, u32 (bit1 cc)), (4, .int .i64 k), (5, .int .i64 m)], ha.sub ⟨rfl, rfl, rfl, rfl, trivial⟩, rfl, rfl⟩
        · refine RL.pure rfl rfl rfl rfl ?_
          refine RL.shr 1 rfl rfl rfl rfl rfl rfl rfl (by decide) ?_
          refine RL.pure rfl rfl rfl rfl ?_
          refine RL.done ?_
          exact fun ac ha => ⟨[(0, .slice xa xs.length xc), (3, u32 (bit1 cc)), (4, .int .i64 k), (5, .int .i64 m)], ha.sub ⟨rfl, by rw [bit1_no hb, ← shr32]; rfl, rfl, rfl, trivial⟩, rfl, rfl⟩
      rintro E w3 ⟨rfl, rfl⟩
      refine CW.plain ?_
      refine RL.pure rfl rfl rfl rfl ?_
      refine RL.add rfl rfl rfl rfl rfl rfl ((by simp only [rng]; omega)) ?_
      refine RL.pure rfl rfl rfl rfl ?_
      refine RL.done ?_
      cases j' with
      | zero => omega
      | succ j' =>
        subst hc
        exact fun ac ha => ⟨j', [(0, .slice xa xs.length xc), (3, u32 (bits (m + 1) (crcF (xs.take k) ^^^ BitVec.ofInt 32 xs[k]))), (4, .int .i64 k), (5, .int .i64 ((m : Int) + 1))], ha.sub ⟨rfl, rfl, rfl, rfl, trivial⟩, ⟨rfl, m + 1, rfl, by omega⟩, Nat.lt_succ_self j'⟩
    · refine CW.exit (CW.plain ?_)
      have hm8 : m = 8 := by omega
      subst hm8
      refine RL.pure rfl rfl rfl rfl ?_
      refine RL.add rfl rfl rfl rfl rfl rfl ((by simp only [rng]; omega)) ?_
      refine RL.pure rfl rfl rfl rfl ?_
      refine RL.done ?_
      cases j with
      | zero => omega
      | succ j =>
        exact fun ac ha => ⟨j, [(0, .slice xa xs.length xc), (3, u32 (crcF (xs.take (k + 1)))), (4, .int .i64 ((k : Int) + 1))], ha.sub ⟨rfl, by rw [crcF_snoc xs k hkl, updB_bits]; rfl, rfl, trivial⟩, ⟨rfl, k + 1, rfl, by omega⟩, Nat.lt_succ_self j⟩
  · refine CW.exit (CW.seq (CW.plain ?_))
    have hkl : k = xs.length := by omega
    subst hkl
    have hall : BitVec.ofInt 32 4294967295 = BitVec.allOnes 32 := by decide
    refine RL.pure rfl rfl rfl rfl ?_
    refine RL.as_ rfl rfl rfl rfl (u32 (crc xs)) ((by rw [List.take_length]; refine (xor32i _ 4294967295).trans ?_; rw [hall, BitVec.xor_allOnes]; rfl)) ?_
    refine RL.pure rfl rfl rfl rfl ?_
    refine RL.done ?_
    exact CW.ret (ret (vs := [_]) ⟨_, _, rfl, rfl, rfl⟩ (PostV.mk hg (Aux.refl _) rfl))

set_option maxRecDepth 100000 in
theorem rFrame_ct {w : World} {s : Res} {os : List Res} {xs : List Int} {xa : Option Addr} {xc : Nat} (hg : Good w s os) (hx : Imm (RInt .u8) 1 s xa xc xs) (hl : xs.length ≤ 70368744177664) :
    Calls Tryd.prog 21 #[.slice xa xs.length xc] w (Post w s os fun s' A r => BOwn s' A r (frame xs)) := by
  have hlt := encT_length xs
  have hu := encU_length (xs.length : Int)
  refine enter (l := [.slice xa xs.length xc]) Tryd.func21 rfl Tryd.ntmps21 rfl ?_
  refine CW.seq (CW.plain ?_)
  refine RL.pure rfl rfl rfl rfl ?_
  refine RL.done ?_
  refine CW.seq (CW.plain ?_)
  refine RL.pure rfl rfl rfl rfl ?_
  refine RL.len rfl rfl rfl rfl sl25 rfl ?_
  refine RL.conv rfl rfl rfl rfl Tryd.underlying3 Tryd.underlying29 rfl ((by simp only [rng]; omega)) ?_
  refine RL.call rfl rfl rfl rfl rfl ca36 (rUint_ct hg (by simp only [rng]; omega)) ?_
  rintro r s1 A1 w1 hle1 hg1 hax1 ⟨a, c, rfl, hown⟩
  refine ⟨trivial, ?_⟩
  refine RL.pure rfl rfl rfl rfl ?_
  obtain ⟨news, hsrc, hch⟩ := Src.imm sl25 (hx.up (RInt.up _) hle1) hg1.sh
  refine RL.append (i := 0) (ys := xs) rfl rfl rfl rfl sl25 ze5 rfl (by first | exact RInt.one _ | exact RStr.one | exact RBool.one | assumption) rfl rfl hg1 rfl hown (hsrc) (hch) ((by simp; omega)) (by omega) ?_
  rintro a2 c2 A2 w2 hg2 hown2 hax2 hk2
  refine ⟨trivial, ?_⟩
  refine RL.pure rfl rfl rfl rfl ?_
  refine RL.done ?_
  refine CW.seq (CW.plain ?_)
  refine RL.pure rfl rfl rfl rfl ?_
  refine RL.callV rfl rfl rfl rfl rfl ca23 (rSum_ct hg2 (hx.up (RInt.up _) hle1)) ?_
  rintro v3 w3 hg3 hax3 rfl
  refine ⟨trivial, ?_⟩
  refine RL.pure rfl rfl rfl rfl ?_
  refine RL.done ?_
  refine CW.seq (CW.plain ?_)
  refine RL.pure rfl rfl rfl rfl ?_
  refine RL.pure rfl rfl rfl rfl ?_
  refine RL.convw rfl rfl rfl rfl Tryd.underlying58 Tryd.underlying5 rfl ?_
  refine RL.pure rfl rfl rfl rfl ?_
  refine RL.shr 8 rfl rfl rfl rfl rfl rfl rfl (by decide) ?_
  refine RL.convw rfl rfl rfl rfl Tryd.underlying58 Tryd.underlying5 rfl ?_
  refine RL.pure rfl rfl rfl rfl ?_
  refine RL.shr 16 rfl rfl rfl rfl rfl rfl rfl (by decide) ?_
  refine RL.convw rfl rfl rfl rfl Tryd.underlying58 Tryd.underlying5 rfl ?_
  refine RL.pure rfl rfl rfl rfl ?_
  refine RL.shr 24 rfl rfl rfl rfl rfl rfl rfl (by decide) ?_
  refine RL.convw rfl rfl rfl rfl Tryd.underlying58 Tryd.underlying5 rfl ?_
  refine RL.buildSlice rfl rfl rfl rfl sl25 ze5 rfl rfl rfl rfl hg3 ?_
  rintro b w4 hg4 hax4
  refine ⟨trivial, ?_⟩
  refine RL.append (i := 1) (ys := sumBytes (crc xs)) rfl rfl rfl rfl sl25 ze5 rfl (by first | exact RInt.one _ | exact RStr.one | exact RBool.one | assumption) rfl rfl hg4 rfl hown2 ((Src.slice sl25 rfl (.inr ⟨_, rfl, Holds.one b _ 5⟩) hg4.1)) (ints_chunks (sumBytes_rng _)) ((by simp only [List.length_append, sumBytes, List.length_cons, List.length_nil]; omega)) (by omega) ?_
  rintro a5 c5 A5 w5 hg5 hown5 hax5 hk5
  refine ⟨trivial, ?_⟩
  refine RL.pure rfl rfl rfl rfl ?_
  refine RL.done ?_
  exact CW.ret (ret (vs := [_]) ⟨_, _, rfl, rfl, rfl⟩ (Post.mk hle1 hg5.drop (hax1.trans (hax2.trans (hax3.trans (hax4.trans hax5)))) ⟨a5, c5, rfl, hown5⟩))
end Go.Lw
