/-
  BeatsRead: what Open reads makes the packet again.
-/
import Derived.Test.YthaomecbklmmdaaDoorOpBoC
import Derived.Test.YthaomecbklmmdaaDoorOpBoK
import Derived.Test.YthaomecbklmmdaaDoorOpBxS
import Derived.Test.YthaomecbklmmdaaDoorOpBxOpen
namespace Go.Lw
open Go.Proofs
attribute [local irreducible] RL RA

theorem Chunks.imp {α : Type} {R R' : Res → List Value → α → Prop} {sz : Nat} {s : Res} (h : ∀ vs x, R s vs x → R' s vs x) : ∀ {cs : List Value} {xs : List α}, Chunks R sz s cs xs → Chunks R' sz s cs xs
  | _, [], hc => hc
  | _, _ :: _, ⟨vs, rest, h1, h2, h3, h4⟩ => ⟨vs, rest, h1, h2, h _ _ h3, Chunks.imp h h4⟩
theorem Own.imp {α : Type} {R R' : Res → List Value → α → Prop} {sz c : Nat} {el : TypeId} {s A : Res} {a : Option Addr} {xs : List α} (h : ∀ vs x, R s vs x → R' s vs x) (ho : Own R sz el s A a c xs) : Own R' sz el s A a c xs := by
  rcases ho with ho | ⟨g, cs, h1, h2, h3, h4, h5, h6⟩
  · exact .inl ho
  · exact .inr ⟨g, cs, h1, h2, h3, h4, h5, h6.imp h⟩
theorem Own.wire {s0 s A : Res} {a : Option Addr} {c : Nat} {xs : List Wire} (ho : Own (RWireF s0) 15 44 s A a c xs) : Own RWire 15 44 s A a c xs := ho.imp fun _ _ h => h.wire

/-! ### a message is no longer than its bytes -/
theorem encIs_ge : ∀ xs : List Int, xs.length ≤ (encIs xs).length
  | [] => Nat.le_refl _
  | x :: xs => by
    have := encIs_ge xs
    have h1 := encU_length (if x < 0 then -2 * x - 1 else 2 * x)
    simp only [encIs, List.flatMap_cons, List.length_append, List.length_cons] at *
    have h2 : (encI x).length = (encU (if x < 0 then -2 * x - 1 else 2 * x)).length := rfl
    omega
theorem encConf_ge (c : Conf) : c.size ≤ (encConf c).length := by
  have h1 := encIs_ge c.voters
  have h2 := encIs_ge c.learners
  simp only [encConf, encN, Conf.size, List.length_append]; omega
theorem encEntry_ge (e : Entry) : e.size + 1 ≤ (encEntry e).length := by
  have h1 := encU_length e.index
  have h2 := encConf_ge e.conf
  simp only [encEntry, encT, Entry.size, List.length_append]; omega
theorem encEs_ge : ∀ xs : List Entry, xs.length + (xs.map Entry.size).sum ≤ (encEs xs).length
  | [] => Nat.le_refl _
  | x :: xs => by
    have := encEs_ge xs
    have := encEntry_ge x
    simp only [encEs, List.flatMap_cons, List.length_append, List.map_cons, List.sum_cons, List.length_cons] at *; omega
theorem encW_ge (x : Wire) : x.size ≤ (encW x).length := by
  unfold encW
  split
  · rename_i h
    simp only [isP, Bool.and_eq_true, decide_eq_true_eq] at h
    have h0 := h.1.1.1.1
    simp only [Msg.lens] at h0
    have he : x.msg.entries = [] := List.eq_nil_of_length_eq_zero (by omega)
    simp only [Wire.size, Msg.size, Conf.size, he, List.map_nil, List.sum_nil, List.length_nil]; omega
  · have h1 := encEs_ge x.msg.entries
    have h2 := encConf_ge x.msg.conf
    simp only [encFull, encT, Wire.size, Msg.size, List.length_append]; omega
theorem encWs_ge : ∀ xs : List Wire, (xs.map Wire.size).sum ≤ (encWs xs).length
  | [] => Nat.le_refl _
  | x :: xs => by
    have := encWs_ge xs
    have := encW_ge x
    simp only [encWs, List.flatMap_cons, List.length_append, List.map_cons, List.sum_cons] at *; omega
theorem openP_bad {p : Packet} {l : List Wire} {e : Int} (h : openP p = (l, e)) (he : e ≠ 0) : l = [] := by
  unfold openP at h
  split at h
  · cases h; rfl
  simp only at h
  split at h
  · cases h; rfl
  · cases h; exact absurd rfl he

set_option maxHeartbeats 1000000 in
set_option maxRecDepth 100000 in
theorem BeatsRead_ct {w : World} {s : Res} {os : List Res} {vs : List Value} {x : Packet} (hg : Good w s os) (het : Et s) (hx : RPacket s vs x) (hl : x.data.length ≤ 1048576) :
    Calls Tryd.prog 5 #[.agg vs.toArray] w (Post w s os fun _ _ r => r = .bool true) := by
  have hx0 := hx
  obtain ⟨da, dc, rfl, hr1, hr2, hr3, hI⟩ := hx
  have hr := hI.rng
  refine enter (l := [.agg (pkV x da dc).toArray]) Tryd.func5 rfl Tryd.ntmps5 rfl ?_
  refine CW.seq (CW.plain ?_)
  refine RL.box rfl rfl rfl rfl rfl hg ?_
  rintro b1 w1 hg1 hax1
  refine ⟨trivial, ?_⟩
  refine RL.pure rfl rfl rfl rfl ?_
  refine RL.done ?_
  obtain ⟨B, hB⟩ : ∃ B : Res, B = Res.one b1 (.cells (pkV x da dc).toArray 24) := ⟨_, rfl⟩
  have hH : Holds B ⟨b1, 0, none⟩ (pkV x da dc) := by rw [hB]; exact Holds.one b1 _ 24
  replace hg1 : Good w1 s (B :: os) := by rw [hB]; exact hg1
  refine CW.seq (CW.plain ?_)
  refine RL.call rfl rfl rfl rfl rfl ca6 (head11_ct hg1) ?_
  rintro v2 s2 A2 w2 hle2 hg2_ hax2 rfl
  refine ⟨trivial, ?_⟩
  refine RL.pure rfl rfl rfl rfl ?_
  refine RL.done ?_
  have hg2 := hg2_.drop
  rcases ho : openP x with ⟨l, e⟩
  refine CW.seq (CW.plain ?_)
  refine RL.loads (j := 0) (us := (pkV x da dc)) rfl rfl rfl rfl ty24 rfl (hH) (hg2.1) rfl rfl ?_
  refine RL.call rfl rfl rfl rfl rfl ca7 (Open_ct hg2 (het.le hle2) (RPacket.up _ _ _ _ hle2 hx0) (by omega)) ?_
  rintro v3 s3 A3 w3 hle3 hg3 hax3 ⟨a3, c3, rfl, ho3⟩
  refine ⟨trivial, ?_⟩
  refine RL.pure rfl rfl rfl rfl ?_
  rw [ho] at ho3 ⊢
  refine RL.pure rfl rfl rfl rfl ?_
  refine RL.pure rfl rfl rfl rfl ?_
  refine RL.pure rfl rfl rfl rfl ?_
  refine RL.pure rfl rfl rfl rfl ?_
  refine RL.done ?_
  have hx3 := hax1.trans (hax2.trans hax3)
  have hl3 := hle2.trans hle3
  have hgo : (ho : openP x = (l, e)) → True := fun _ => trivial
  refine CW.meet (fun E w' => w' = w3 ∧ E = [(1, ptr b1), (3, .bool true), (4, .slice a3 l.length c3)] ∧ e = 0) ?_ ?_
  · refine CW.seq (CW.plain ?_)
    refine RL.pure rfl rfl rfl rfl ?_
    refine RL.pure rfl rfl rfl rfl ?_
    refine RL.pure rfl rfl rfl rfl ?_
    refine RL.part 16 rfl (fun h16 => ?_) (fun h16 => ?_)
    · refine RL.pass rfl rfl rfl ?_
      refine RL.pass rfl rfl rfl ?_
      refine RL.pure rfl rfl rfl rfl ?_
      refine RL.done ?_
      exact absurd h16 (by decide)
    · refine RL.pure rfl rfl rfl rfl ?_
      refine RL.pure rfl rfl rfl rfl ?_
      refine RL.pure rfl rfl rfl rfl ?_
      refine RL.done ?_
      refine CW.cond rfl (fun hh => CW.seq (CW.plain ?_)) (fun hh => CW.skip ?_)
      · skip
        have he : e ≠ 0 := by simpa using hh
        have hl0 := openP_bad ho he
        subst hl0
        refine RL.pure rfl rfl rfl rfl ?_
        refine RL.pure rfl rfl rfl rfl ?_
        refine RL.part 21 rfl (fun h21 => ?_) (fun h21 => ?_)
        · refine RL.pure rfl rfl rfl rfl ?_
          refine RL.len rfl rfl rfl rfl sl26 rfl ?_
          refine RL.pure rfl rfl rfl rfl ?_
          refine RL.pure rfl rfl rfl rfl ?_
          refine RL.pure rfl rfl rfl rfl ?_
          refine RL.done ?_
          exact CW.ret (ret (vs := [_]) ⟨_, _, rfl, rfl, rfl⟩ (Post.mk hl3 hg3.dropNext hx3 rfl))
        · refine RL.pass rfl rfl rfl ?_
          refine RL.pass rfl rfl rfl ?_
          refine RL.pass rfl rfl rfl ?_
          refine RL.pure rfl rfl rfl rfl ?_
          refine RL.pure rfl rfl rfl rfl ?_
          refine RL.done ?_
          exact absurd h21 (by decide)
      · have he : e = 0 := by simpa using hh
        exact fun ac ha => ⟨[(1, ptr b1), (3, .bool true), (4, .slice a3 l.length c3)], ha.sub ⟨rfl, rfl, rfl, trivial⟩, rfl, rfl, he⟩
  rintro E w3 ⟨rfl, rfl, rfl⟩
  obtain ⟨hpk, hlen, hbl, hlong⟩ := open_pack hr ho
  obtain ⟨s4, hg4, hle4, hq4⟩ := Good.letgo hg3
  have im3 : Imm RWire 15 s4 a3 c3 l := ho3.wire.imm RWire.up hle4 hq4
  have hsum := encWs_ge l
  have hok := wires_ok (xs := l) (n := 1048576) (by omega) (Nat.le_refl _)
  refine CW.seq (CW.plain ?_)
  refine RL.field rfl rfl rfl rfl fl24_0 rfl rfl ?_
  refine RL.load (j := 0) rfl rfl rfl rfl ty3 rfl (hH) (hg4.1) rfl ?_
  refine RL.pure rfl rfl rfl rfl ?_
  refine RL.call rfl rfl rfl rfl rfl ca11 (Pack_ct hg4 im3 hr1 (by omega) hok.2) ?_
  rintro v5 s5 A5 w5 hle5 hg5 hax5 ⟨a5, c5, rfl, ho5⟩
  refine ⟨trivial, ?_⟩
  refine RL.pure rfl rfl rfl rfl ?_
  rw [hpk] at ho5 ⊢
  refine RL.pure rfl rfl rfl rfl ?_
  refine RL.pure rfl rfl rfl rfl ?_
  refine RL.pure rfl rfl rfl rfl ?_
  refine RL.pure rfl rfl rfl rfl ?_
  refine RL.done ?_
  obtain ⟨s6, hg6, hle6, hq6⟩ := Good.letgo hg5
  have im5 : Imm RPacket 4 s6 a5 c5 [x] := ho5.imm RPacket.up hle6 hq6
  refine CW.seq (CW.plain ?_)
  refine RL.pure rfl rfl rfl rfl ?_
  refine RL.pure rfl rfl rfl rfl ?_
  refine RL.pure rfl rfl rfl rfl ?_
  refine RL.pure rfl rfl rfl rfl ?_
  refine RL.len rfl rfl rfl rfl sl46 rfl ?_
  refine RL.pure rfl rfl rfl rfl ?_
  refine RL.pure rfl rfl rfl rfl ?_
  refine RL.pure rfl rfl rfl rfl ?_
  refine RL.pure rfl rfl rfl rfl ?_
  refine RL.loads (j := 0) (us := (pkV x da dc)) rfl rfl rfl rfl ty24 rfl (hH) (hg6.1) rfl rfl ?_
  refine RL.buildSlice rfl rfl rfl rfl sl46 ze24 rfl rfl rfl rfl hg6 ?_
  rintro b7 w7 hg7 hax7
  refine ⟨trivial, ?_⟩
  have hle06 := hl3.trans (hle4.trans (hle5.trans hle6))
  have hown : Own RPacket 4 24 s6 (Res.one b7 (.cells (pkV x da dc).toArray 24)) (some ⟨b7, 0, none⟩) 1 [x] := .inr ⟨b7, _, rfl, if_pos rfl, Nat.le_refl _, by decide, rfl, Chunks.single rfl (RPacket.up _ _ _ _ hle06 hx0)⟩
  obtain ⟨s8, hg8, hle8, hq8⟩ := Good.letgo hg7
  have im7 : Imm RPacket 4 s8 (some ⟨b7, 0, none⟩) 1 [x] := hown.imm RPacket.up hle8 hq8
  refine RL.callV rfl rfl rfl rfl rfl ca14 (Same_ct (l := [x]) hg8 (im5.up RPacket.up hle8) im7) ?_
  rintro v9 w9 hg9 hax9 rfl
  refine ⟨trivial, ?_⟩
  refine RL.pure rfl rfl rfl rfl ?_
  refine RL.pure rfl rfl rfl rfl ?_
  refine RL.done ?_
  exact CW.ret (ret (vs := [_]) ⟨_, _, rfl, rfl, rfl⟩ (Post.mk (hle06.trans hle8) hg9 (hx3.trans (hax5.trans (hax7.trans hax9))) rfl))
end Go.Lw
