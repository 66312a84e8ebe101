/-
  Parts of the proof of RaftcoreGrowsUptoSaid: the walk engine: KcS, KcA, KcB, KcD, KcE, KcF.
-/
import Derived.Test.YtpjclnomaemokaaGreatGrA4

/-
 raftsnap: a snapshot's pieces.
-/
namespace Go.Lw
open Go.Proofs
attribute [local irreducible] RL RA
section
variable {P : Program} {n : Nat} {ops : Array Oper} {Q : Exit → Act → World → Prop} {S : World → Prop} {rest : List (Bool × Oper)} {E : Env} {w : World} {o : Oper} {d : Nat}
variable {s A r : Res} {os : List Res} {x y z : Operand} {T : Bool}
theorem RL.top {α : Type} {R : Res → List Value → α → Prop} {t e : TypeId} {sz by_ c : Nat} {k k' : IntKind} {a : Option Addr} {xs : List α} (h : Nat) (hg : wants ops E o = some true) (hd : o.dst = some d) (hb : Nat.blt d n = true)
  (ho : o.op = .slice t x none (some y) (some z)) (ht : slc P t = some (e, sz, by_)) (hx : ev E x = some (.slice a xs.length c)) (hy : ev E y = some (.int k (h : Nat))) (hz : ev E z = some (.int k' (h : Nat)))
  (hI : Lies R sz r s a c xs) (h2 : h ≤ xs.length) (hK : Lies R sz r s a h (xs.take h) → RL P n ops Q S rest ((d, .slice a (xs.take h).length h) :: E) w) : RL P n ops Q S ((T, o) :: rest) E w := by
 have hcap := hI.1
 have hI2 : Lies R sz r s a h (xs.take h) := by
  refine ⟨by rw [List.length_take]; omega, by have := hI.2.1; omega, ?_⟩
  rcases hI.2.2 with rfl | ⟨ad, rfl, hr⟩
  ·
   left; simp
  ·
   right
   refine ⟨ad, rfl, ?_⟩
   rw [← List.take_append_drop h xs] at hr
   exact hr.take
 refine RL.val hg hd hb (fun w ac ha => ?_) (hK hI2)
 obtain ⟨hu, inf, hi', rfl, _⟩ := slc_spec ht
 have hsz : ∀ w : World, (sizeOf e).run P w = .ok inf.size w := fun w => by simp [sizeOf, typeInfo, hi']
 have hh' : ∀ k (y : Nat) code, h ≤ y → (Instr.sliceBound (.int k (h : Nat)) y code).run P w = .ok h w := fun k y code hy => by
  have := run_sliceBound (P := P) w k (h : Nat) y code (by omega) (by omega)
  simpa using this
 unfold execOp
 simp only [ho, ha.ev hx]
 have hm : (xs.take h).length = h := by rw [List.length_take]; omega
 have ha0 : (if h = 0 then a else a.map (·.add (0 * inf.size))) = a := by rw [add0]; split <;> rfl
 simp [Instr.sliceAt, Instr.slice, Instr.sliceBounds, run_underlying hu, hsz, ha.ev hy, ha.ev hz, hh' k' c .slice3Acap (by omega), hh' k h .slice3B (Nat.le_refl _), hm]
 have hadd0 : ∀ ad : Addr, ad.add 0 = ad := fun ad => by unfold Addr.add; simp
 first
  | done
  | (cases a <;> simp [hadd0])
end
section
variable {w : World} {s r : Res} {os : List Res}
def Snap.small (p : Snap) : Prop := p.conf.small ∧ p.data.length ≤ 1099511627776
abbrev snapV (p : Snap) (va : Option Addr) (vc : Nat) (la : Option Addr) (lc : Nat) (da : Option Addr) (dc : Nat) : List Value := [u64 p.index, u64 p.term, .slice va p.conf.voters.length vc, .slice la p.conf.learners.length lc, .slice da p.data.length dc]
def Lay.none : Lay := ⟨.none, 0, .none, 0, .none, 0, .none, 0⟩
theorem MsgOk.zero (s : Res) : MsgOk s Msg.zero Lay.none :=
 ⟨by simp [rng, Msg.zero], by simp [rng, Msg.zero], by simp [rng, Msg.zero], by simp [rng, Msg.zero], by simp [rng, Msg.zero], by simp [rng, Msg.zero], by simp [rng, Msg.zero], by simp [rng, Msg.zero], Imm.nil _ _ _ (Nat.zero_le _), Imm.nil _ _ _ (Nat.zero_le _), Imm.nil _ _ _ (Nat.zero_le _), Imm.nil _ _ _ (Nat.zero_le _)⟩
set_option maxRecDepth 100000 in
theorem Piece_ct {p : Snap} {frm : Int} {va la da : Option Addr} {vc lc dc : Nat} (hg : Good w s os) (hs : p.small) (hi : rng .u64 p.index) (ht : rng .u64 p.term) (hv : Ints s va vc p.conf.voters) (hl : Ints s la lc p.conf.learners) (hd : Imm (RInt .u8) 1 s da dc p.data) (hf : rng .u64 frm) :
  Calls Tryz.prog 148 #[.agg (snapV p va vc la lc da dc).toArray, u64 frm] w (Post w s os fun s' _ q => ∃ y, q = .tuple #[.agg (msgV (pieceP p frm).1 y).toArray, i64 (pieceP p frm).2] ∧ MsgOk s' (pieceP p frm).1 y) := by
 obtain ⟨hs1, hs2⟩ := hs
 have hf' := hf
 simp only [rng] at hf'
 have hd0 : Lies (RInt .u8) 1 s s da dc p.data := hd
 refine enter (l := [.agg (snapV p va vc la lc da dc).toArray, u64 frm]) Tryz.func148 rfl Tryz.ntmps148 rfl ?_
 refine CW.seq (CW.plain ?_)
 refine RL.boxN rfl rfl rfl rfl rfl hg ?_
 rintro b1 w1 Q1 (hg1 : Good _ s (Q1 :: os)) hax1 hb1
 refine ⟨trivial, ?_⟩
 refine RL.allocN rfl rfl rfl rfl ze56 hg1 ?_
 rintro b2 w2 Q2 (hg2 : Good _ s (Q2 :: Q1 :: os)) hax2 hb2
 refine ⟨trivial, ?_⟩
 refine RL.pd ?_
 refine CW.seq ?_
 refine CW.seq (CW.plain ?_)
 refine RL.pu ?_
 refine RL.fi fl30_3 ?_
 refine RL.lo 4 ty28 hb1 hg2 ?_
 refine RL.len rfl rfl rfl rfl sl28 rfl ?_
 refine RL.conv rfl rfl rfl rfl Tryz.underlying3 Tryz.underlying22 rfl ((by simp only [rng]; omega)) ?_
 refine RL.pd ?_
 refine CW.cond rfl (fun h14 => ?_) (fun h14 => ?_)
 ·
  refine CW.seq (CW.plain ?_)
  refine RL.build rfl rfl rfl rfl ze56 pl56 rfl rfl ?_
  refine RL.sB (b := b2) (i := 0) (j := 0) rfl rfl rfl ty56 rfl rfl hg2 rfl (hb2) rfl rfl ?_
  rintro w3 Q3 (hg3 : Good _ s (Q3 :: Q1 :: os)) hax3 hb3
  refine ⟨trivial, ?_⟩
  refine RL.pd ?_
  refine CW.ret (ret (vs := [_, _]) ⟨_, _, _, rfl, rfl, loadVar_agg ty56 hb3 (hg3.mem (by simp)) rfl, _, _, rfl, rfl, rfl⟩ ?_)
  have hc : (p.data.length : Int) < frm := decide_t h14
  exact Post.mk (Le.refl _) ((hg3.drop).drop).nil (hax1.trans (hax2.trans hax3)) ⟨Lay.none, by simp only [pieceP, if_pos hc]; rfl, by simp only [pieceP, if_pos hc]; exact MsgOk.zero _⟩
 ·
  refine CW.skip ?_
  refine CW.seq (CW.plain ?_)
  refine RL.fi fl30_3 ?_
  refine RL.lo 4 ty28 hb1 hg2 ?_
  refine RL.pu ?_
  have hc : ¬ (p.data.length : Int) < frm := decide_f h14
  refine RL.partL frm (p.data.length : Int) rfl rfl rfl rfl sl28 rfl (.inr ⟨_, _, rfl, rfl⟩) (.inl ⟨rfl, rfl⟩) hd0 (by omega) (by omega) (by omega) ?_
  intro a19 c19 hE19
  have e19 : ((p.data.take (p.data.length : Int).toNat).drop frm.toNat) = p.data.drop frm.toNat := by simp
  rw [e19] at hE19 ⊢
  refine RL.pd ?_
  refine CW.seq (CW.plain ?_)
  refine RL.pu ?_
  refine RL.len rfl rfl rfl rfl sl28 rfl ?_
  refine RL.min rfl rfl rfl rfl rfl rfl ?_
  have hmin : (if (64 : Int) < ((p.data.drop frm.toNat).length : Int) then (64 : Int) else ((p.data.drop frm.toNat).length : Int)) = ((min (p.data.drop frm.toNat).length 64 : Nat) : Int) := by split <;> omega
  rw [hmin]
  have hkl : min (p.data.drop frm.toNat).length 64 ≤ (p.data.drop frm.toNat).length := Nat.min_le_left _ _
  have hk64 : min (p.data.drop frm.toNat).length 64 ≤ 64 := Nat.min_le_right _ _
  have hkd : (p.data.drop frm.toNat).take (min (p.data.drop frm.toNat).length 64) = (p.data.drop frm.toNat).take 64 := by rw [List.take_eq_take_iff]; omega
  have hkr : decide ((p.data.drop frm.toNat).length ≤ 64) = (((min (p.data.drop frm.toNat).length 64 : Nat) : Int) == ((p.data.drop frm.toNat).length : Int)) := by rw [Bool.eq_iff_iff, beq_iff_eq, decide_eq_true_eq]; omega
  generalize min (p.data.drop frm.toNat).length 64 = k at hkl hk64 hkd hkr ⊢
  refine RL.pd ?_
  refine CW.seq (CW.plain ?_)
  refine RL.pu ?_
  refine RL.makeN rfl rfl rfl rfl sl28 ze5 rfl rfl rfl (by omega) (by omega) hg2 ?_
  rintro b24 A24 wm hgm haxm hA24
  refine ⟨trivial, ?_⟩
  refine RL.pd ?_
  refine CW.seq (CW.plain ?_)
  refine RL.pp ?_
  refine RL.pp ?_
  refine RL.top k rfl rfl rfl rfl sl28 rfl rfl rfl hE19 hkl ?_
  intro hE29
  obtain ⟨news, hsrc, hch⟩ := Src.lies (t := 28) sl28 hE29 hgm.sh
  have hnl := hch.length
  have hkk : ((p.data.drop frm.toNat).take k).length = k := by rw [List.length_take]; omega
  have hzl : (zsL k [Value.int IntKind.u8 0]).toArray.size = ((p.data.drop frm.toNat).take k).length * 1 := by rw [List.size_toArray, zsL_length, hkk]; rfl
  refine RL.copy (i := 0) k rfl rfl rfl rfl sl28 rfl rfl hsrc.len (by rw [hkk]; exact Nat.min_self _) (by have := hsrc.first _ rfl; simpa only [hkk] using this) hgm rfl hA24 (by rw [hzl]; omega) (hch.one (RInt.one .u8)) ?_
  intro wc hgc haxc
  refine ⟨trivial, ?_⟩
  have hown := Own.filled (A := A24) (el := 5) (g := b24) hzl hch (by simp only [maxLen]; omega)
  revert hgc hown
  generalize (A24.put b24 (.cells (spl (zsL k [Value.int IntKind.u8 0]).toArray 0 news) 5 (0, 0))) = AC
  intro hgc hown
  refine RL.done ?_
  refine CW.seq ?_
  have hg4 := hgc.drew
  refine CW.draws [(true, 0), (true, 1), (true, 2), (true, 3), (true, 4), (true, 5), (true, 7), (true, 8), (true, 9), (true, 10), (true, 11), (true, 12), (false, 6), (true, 13), (false, 14), (false, 15)] (fun w => At1 b1 _ w ∧ True) mixed (by kernel_rfl) (by kernel_rfl) (by kernel_rfl) (by kernel_rfl) (⟨hg4.at1 (by simp) hb1, trivial⟩) ?_
  refine RL.fi fl30_0 ?_
  refine RL.loadT (ad := ⟨b1, 0, none⟩) (j := 0) rfl rfl rfl rfl ty22 rfl (At1.holds) (fun w h => h.1.inn) rfl ?_
  refine RL.fi fl30_1 ?_
  refine RL.loadT (ad := ⟨b1, 0, none⟩) (j := 1) rfl rfl rfl rfl ty22 rfl (At1.holds) (fun w h => h.1.inn) rfl ?_
  refine RL.fi fl30_2 ?_
  refine RL.loadsT (ad := ⟨b1, 0, none⟩) (j := 2) rfl rfl rfl rfl ty27 rfl (At1.holds) (fun w h => h.1.inn) rfl rfl ?_
  refine RL.pp ?_
  refine RL.pp ?_
  refine RL.len rfl rfl rfl rfl sl28 rfl ?_
  refine RL.pu ?_
  refine RL.call rfl rfl rfl rfl rfl ca156 (conf_snap_ct hg4 hv hl hs1) ?_
  rintro v5 s5 B5 w5 hle5 (hg5 : Good _ s5 (B5 :: AC :: Q2 :: Q1 :: os)) hax5 ⟨vs37, rfl, hR37⟩
  have hg5 := hg5.drop
  have hv := hv.up (RInt.up _) hle5
  have hl := hl.up (RInt.up _) hle5
  have hd := hd.up (RInt.up _) hle5
  obtain ⟨va37, vc37, la37, lc37, rfl, hv37, hl37⟩ := hR37
  refine ⟨⟨hg5.at1 (by simp) hb1, trivial⟩, ?_⟩
  refine RL.build rfl rfl rfl rfl ze56 pl56 rfl rfl ?_
  refine RL.sB (b := b2) (i := 1) (j := 0) rfl rfl rfl ty56 rfl rfl hg5 rfl (hb2) rfl rfl ?_
  rintro w6 Q6 (hg6 : Good _ s5 (AC :: Q6 :: Q1 :: os)) hax6 hb6
  refine ⟨⟨hg6.at1 (by simp) hb1, trivial⟩, ?_⟩
  refine RL.pd ?_
  refine CW.ret (ret (vs := [_, _]) ⟨_, _, _, rfl, rfl, loadVar_agg ty56 hb6 (hg6.mem (by simp)) rfl, _, _, rfl, rfl, rfl⟩ ?_)
  obtain ⟨s1, hs1, hl1, hm1⟩ := hg6.letgo
  have him := hown.imm (RInt.up _) (hle5.trans hl1) hm1
  rw [hkk, hkd] at him
  refine Post.mk (hle5.trans hl1) hs1.dropNext (hax1.trans (hax2.trans (haxm.trans (haxc.trans ((Aux.drew _).trans (hax5.trans hax6)))))) ⟨⟨none, 0, va37, vc37, la37, lc37, some ⟨b24, 0, none⟩, k⟩, ?_, ?_⟩
  ·
   simp only [pieceP, if_neg hc, msgV, Msg.zero, hkr]
   rw [← hkd, hkk]; rfl
  ·
   simp only [pieceP, if_neg hc]
   exact { MsgOk.zero _ with kind := by simp [rng], index := hi, logTerm := ht, hint := hf, voters := hv37.up (RInt.up _) hl1, learners := hl37.up (RInt.up _) hl1, data := him }
abbrev comV (p : Coming) (a : Option Addr) (c : Nat) : List Value := [u64 p.index, u64 p.term, .slice a p.data.length c]
theorem takeP_new {p : Coming} {m : Msg} (h : p.index ≠ m.index ∨ p.term ≠ m.logTerm) : takeP p m = if m.hint ≠ 0 then (⟨m.index, m.logTerm, []⟩, false) else (⟨m.index, m.logTerm, m.data⟩, m.done) := by
 simp only [takeP, if_pos h, List.length_nil, List.nil_append]; rfl
theorem takeP_old {p : Coming} {m : Msg} (h : ¬ (p.index ≠ m.index ∨ p.term ≠ m.logTerm)) : takeP p m = if m.hint ≠ p.data.length then (p, false) else (⟨p.index, p.term, p.data ++ m.data⟩, m.done) := by
 simp only [takeP, if_neg h]
set_option maxRecDepth 100000 in
theorem Take_ct {p : Coming} {m : Msg} {y : Lay} {da : Option Addr} {dc : Nat} (hg : Good w s os) (hp : Imm (RInt .u8) 1 s da dc p.data) (hm : MsgOk s m y) (hn : p.data.length + m.data.length ≤ 70368744177664) :
  Calls Tryz.prog 135 #[.agg (comV p da dc).toArray, .agg (msgV m y).toArray] w (Post w s os fun s' _ q => ∃ a c, q = .tuple #[.agg (comV (takeP p m).1 a c).toArray, .bool (takeP p m).2] ∧ Imm (RInt .u8) 1 s' a c (takeP p m).1.data) := by
 have hp0 : Lies (RInt .u8) 1 s s da dc p.data := hp
 have hM0 : Lies (RInt .u8) 1 s s y.da y.dc m.data := hm.data
 have hnil : Lies (RInt .u8) 1 s s none 0 ([] : List Int) := Lies.nil _ _ _ _ (Nat.zero_le _)
 refine enter (l := [.agg (comV p da dc).toArray, .agg (msgV m y).toArray]) Tryz.func135 rfl Tryz.ntmps135 rfl ?_
 refine CW.seq (CW.plain ?_)
 refine RL.boxN rfl rfl rfl rfl rfl hg ?_
 rintro b7 w7 Q7 (hg7 : Good _ s (Q7 :: os)) hax7 hb7
 refine ⟨trivial, ?_⟩
 refine RL.boxN rfl rfl rfl rfl rfl hg7 ?_
 rintro b8 w8 Q8 (hg8 : Good _ s (Q8 :: Q7 :: os)) hax8 hb8
 refine ⟨trivial, ?_⟩
 refine RL.allocN rfl rfl rfl rfl ze42 hg8 ?_
 rintro b9 w9 Q9 (hg9 : Good _ s (Q9 :: Q8 :: Q7 :: os)) hax9 hb9
 refine ⟨trivial, ?_⟩
 refine RL.pd ?_
 refine CW.seq ?_
 refine CW.seq (CW.plain ?_)
 refine RL.fi fl42_0 ?_
 refine RL.lo 0 ty22 hb7 hg9 ?_
 refine RL.fi fl56_4 ?_
 refine RL.lo 4 ty22 hb8 hg9 ?_
 refine RL.pp ?_
 refine RL.part 12 rfl (fun h12 => ?_) (fun h12 => ?_)
 ·
  have hq := takeP_new (p := p) (m := m) (.inl (by simpa using h12))
  have hD := hnil
  have hL : ([] : List Int).length + m.data.length ≤ 70368744177664 := by simp only [List.length_nil]; omega
  refine RL.qq ?_
  refine RL.qq ?_
  refine RL.pa ?_
  refine RL.pd ?_
  refine CW.yes (by first | rfl | exact congrArg (fun b => some (Value.bool b)) (by assumption)) ?_
  refine CW.plain ?_
  refine RL.fi fl56_4 ?_
  refine RL.lo 4 ty22 hb8 hg9 ?_
  refine RL.fi fl56_5 ?_
  refine RL.lo 5 ty22 hb8 hg9 ?_
  refine RL.build rfl rfl rfl rfl ze42 pl42 rfl rfl ?_
  refine RL.sB (b := b7) (i := 2) (j := 0) rfl rfl rfl ty42 rfl rfl hg9 rfl (hb7) rfl rfl ?_
  rintro w10 Q10 (hg10 : Good _ s (Q9 :: Q8 :: Q10 :: os)) hax10 hb10
  refine ⟨trivial, ?_⟩
  refine RL.done ?_
  refine CW.seq (CW.plain ?_)
  refine RL.fi fl42_2 ?_
  refine RL.lo 2 ty28 hb10 hg10 ?_
  refine RL.fi fl42_2 ?_
  refine RL.lo 2 ty28 hb10 hg10 ?_
  refine RL.len rfl rfl rfl rfl sl28 rfl ?_
  refine RL.fi fl42_2 ?_
  refine RL.lo 2 ty28 hb10 hg10 ?_
  refine RL.len rfl rfl rfl rfl sl28 rfl ?_
  refine RL.top _ rfl rfl rfl rfl sl28 rfl rfl rfl hD (Nat.le_refl _) ?_
  intro hE32
  simp only [List.take_length, List.take_nil] at hE32 ⊢
  refine RL.pd ?_
  refine CW.seq (CW.plain ?_)
  refine RL.pu ?_
  refine RL.call rfl rfl rfl rfl rfl ca61 (CloneB_ct hg10 (.inl rfl) hE32.2.2 (by omega)) ?_
  rintro v11 s11 Q11 w11 hle11 (hg11 : Good _ s11 (Q11 :: Q9 :: Q8 :: Q10 :: os)) hax11 ⟨hs34, a34, c34, rfl, ho34⟩
  have hm := hm.up hle11
  refine ⟨trivial, ?_⟩
  refine RL.fi fl42_2 ?_
  refine RL.sB (b := b7) (i := 3) (j := 2) rfl rfl rfl ty28 rfl rfl hg11 rfl (hb10) rfl rfl ?_
  rintro w12 Q12 (hg12 : Good _ s11 (Q11 :: Q9 :: Q8 :: Q12 :: os)) hax12 hb12
  refine ⟨trivial, ?_⟩
  refine RL.done ?_
  refine CW.seq ?_
  refine CW.seq (CW.plain ?_)
  refine RL.fi fl56_9 ?_
  refine RL.lo 9 ty22 hb8 hg12 ?_
  refine RL.pu ?_
  refine RL.len rfl rfl rfl rfl sl28 rfl ?_
  refine RL.conv rfl rfl rfl rfl Tryz.underlying3 Tryz.underlying22 rfl ((by have := ho34.le_max; simp only [maxLen] at this; simp only [rng]; omega)) ?_
  refine RL.pd ?_
  refine CW.cond rfl (fun h41 => ?_) (fun h41 => ?_)
  ·
   refine CW.seq (CW.plain ?_)
   refine RL.ls 0 ty42 hb12 hg12 ?_
   refine RL.sB (b := b9) (i := 1) (j := 0) rfl rfl rfl ty42 rfl rfl hg12 rfl (hb9) rfl rfl ?_
   rintro w13 Q13 (hg13 : Good _ s11 (Q11 :: Q13 :: Q8 :: Q12 :: os)) hax13 hb13
   refine ⟨trivial, ?_⟩
   refine RL.pd ?_
   refine CW.ret (ret (vs := [_, _]) ⟨_, _, _, rfl, rfl, loadVar_agg ty42 hb13 (hg13.mem (by simp)) rfl, _, _, rfl, rfl, rfl⟩ ?_)
   obtain ⟨s1, hs1, hl1, hm1⟩ := hg13.letgo
   have him := ho34.imm (RInt.up _) ((Le.refl _).trans hl1) hm1
   rw [if_pos (by simpa using h41)] at hq
   exact Post.mk (hle11.trans hl1) hs1.dropNext.dropNext (hax7.trans (hax8.trans (hax9.trans (hax10.trans (hax11.trans (hax12.trans hax13)))))) ⟨a34, c34, by rw [hq]; rfl, by rw [hq]; exact him⟩
  ·
   refine CW.skip ?_
   refine CW.seq (CW.plain ?_)
   refine RL.fi fl42_2 ?_
   refine RL.lo 2 ty28 hb12 hg12 ?_
   refine RL.fi fl56_11 ?_
   refine RL.lo 12 ty28 hb8 hg12 ?_
   have hM1 := hM0.up (RInt.up _) hle11
   obtain ⟨news14, hsrc14, hch14⟩ := (Src.row (r := s) (c := y.dc) sl28 hM1.2.2 (hg12.sh.le hle11))
   refine RL.append2 (i := 0) (xs := _) (ys := m.data) rfl rfl rfl rfl sl28 ze5 rfl (RInt.one .u8) (rfl) rfl hg12 rfl (ho34) hsrc14 hch14 ((by omega)) (by omega) ?_
   rintro a14 c14 A14 w14 (hg14 : Good _ s11 (A14 :: Q9 :: Q8 :: Q12 :: os)) ho14 hax14 hk14 hn14
   refine ⟨trivial, ?_⟩
   refine RL.fi fl42_2 ?_
   refine RL.sB (b := b7) (i := 3) (j := 2) rfl rfl rfl ty28 rfl rfl hg14 rfl (hb12) rfl rfl ?_
   rintro w15 Q15 (hg15 : Good _ s11 (A14 :: Q9 :: Q8 :: Q15 :: os)) hax15 hb15
   refine ⟨trivial, ?_⟩
   refine RL.done ?_
   refine CW.seq ?_
   have hg16 := hg15.drew
   refine CW.draws [(true, 0), (true, 1), (true, 2), (false, 3), (false, 4)] (fun w => At1 b7 _ w ∧ At1 b8 _ w ∧ True) mixed (by kernel_rfl) (by kernel_rfl) (by kernel_rfl) (by kernel_rfl) (⟨hg16.at1 (by simp) hb15, hg16.at1 (by simp) hb8, trivial⟩) ?_
   refine RL.loadsT (ad := ⟨b7, 0, none⟩) (j := 0) rfl rfl rfl rfl ty42 rfl (At1.holds) (fun w h => h.1.inn) rfl rfl ?_
   refine RL.fi fl56_12 ?_
   refine RL.loadT (ad := ⟨b8, 0, none⟩) (j := 13) rfl rfl rfl rfl ty4 rfl (At1.holds) (fun w h => h.2.1.inn) rfl ?_
   refine RL.sB (b := b9) (i := 1) (j := 0) rfl rfl rfl ty42 rfl rfl hg16 rfl (hb9) rfl rfl ?_
   rintro w17 Q17 (hg17 : Good _ s11 (A14 :: Q17 :: Q8 :: Q15 :: os)) hax17 hb17
   refine ⟨⟨hg17.at1 (by simp) hb15, hg17.at1 (by simp) hb8, trivial⟩, ?_⟩
   refine RL.pd ?_
   refine CW.ret (ret (vs := [_, _]) ⟨_, _, _, rfl, rfl, loadVar_agg ty42 hb17 (hg17.mem (by simp)) rfl, _, _, rfl, rfl, rfl⟩ ?_)
   obtain ⟨s1, hs1, hl1, hm1⟩ := hg17.letgo
   have him := ho14.imm (RInt.up _) hl1 hm1
   rw [if_neg (by simpa using h41)] at hq
   exact Post.mk (hle11.trans hl1) hs1.dropNext.dropNext (hax7.trans (hax8.trans (hax9.trans (hax10.trans (hax11.trans (hax12.trans (hax14.trans (hax15.trans ((Aux.drew _).trans hax17))))))))) ⟨a14, c14, by rw [hq]; rfl, by rw [hq]; exact him⟩
 ·
  refine RL.fi fl42_1 ?_
  refine RL.lo 1 ty22 hb7 hg9 ?_
  refine RL.fi fl56_5 ?_
  refine RL.lo 5 ty22 hb8 hg9 ?_
  refine RL.pu ?_
  refine RL.pd ?_
  refine CW.cond rfl (fun h18 => ?_) (fun h18 => ?_)
  ·
   have hq := takeP_new (p := p) (m := m) (.inr (by simpa using h18))
   have hD := hnil
   have hL : ([] : List Int).length + m.data.length ≤ 70368744177664 := by simp only [List.length_nil]; omega
   refine CW.plain ?_
   refine RL.fi fl56_4 ?_
   refine RL.lo 4 ty22 hb8 hg9 ?_
   refine RL.fi fl56_5 ?_
   refine RL.lo 5 ty22 hb8 hg9 ?_
   refine RL.build rfl rfl rfl rfl ze42 pl42 rfl rfl ?_
   refine RL.sB (b := b7) (i := 2) (j := 0) rfl rfl rfl ty42 rfl rfl hg9 rfl (hb7) rfl rfl ?_
   rintro w18 Q18 (hg18 : Good _ s (Q9 :: Q8 :: Q18 :: os)) hax18 hb18
   refine ⟨trivial, ?_⟩
   refine RL.done ?_
   refine CW.seq (CW.plain ?_)
   refine RL.fi fl42_2 ?_
   refine RL.lo 2 ty28 hb18 hg18 ?_
   refine RL.fi fl42_2 ?_
   refine RL.lo 2 ty28 hb18 hg18 ?_
   refine RL.len rfl rfl rfl rfl sl28 rfl ?_
   refine RL.fi fl42_2 ?_
   refine RL.lo 2 ty28 hb18 hg18 ?_
   refine RL.len rfl rfl rfl rfl sl28 rfl ?_
   refine RL.top _ rfl rfl rfl rfl sl28 rfl rfl rfl hD (Nat.le_refl _) ?_
   intro hE32
   simp only [List.take_length, List.take_nil] at hE32 ⊢
   refine RL.pd ?_
   refine CW.seq (CW.plain ?_)
   refine RL.pu ?_
   refine RL.call rfl rfl rfl rfl rfl ca61 (CloneB_ct hg18 (.inl rfl) hE32.2.2 (by omega)) ?_
   rintro v19 s19 Q19 w19 hle19 (hg19 : Good _ s19 (Q19 :: Q9 :: Q8 :: Q18 :: os)) hax19 ⟨hs34, a34, c34, rfl, ho34⟩
   have hm := hm.up hle19
   refine ⟨trivial, ?_⟩
   refine RL.fi fl42_2 ?_
   refine RL.sB (b := b7) (i := 3) (j := 2) rfl rfl rfl ty28 rfl rfl hg19 rfl (hb18) rfl rfl ?_
   rintro w20 Q20 (hg20 : Good _ s19 (Q19 :: Q9 :: Q8 :: Q20 :: os)) hax20 hb20
   refine ⟨trivial, ?_⟩
   refine RL.done ?_
   refine CW.seq ?_
   refine CW.seq (CW.plain ?_)
   refine RL.fi fl56_9 ?_
   refine RL.lo 9 ty22 hb8 hg20 ?_
   refine RL.pu ?_
   refine RL.len rfl rfl rfl rfl sl28 rfl ?_
   refine RL.conv rfl rfl rfl rfl Tryz.underlying3 Tryz.underlying22 rfl ((by have := ho34.le_max; simp only [maxLen] at this; simp only [rng]; omega)) ?_
   refine RL.pd ?_
   refine CW.cond rfl (fun h41 => ?_) (fun h41 => ?_)
   ·
    refine CW.seq (CW.plain ?_)
    refine RL.ls 0 ty42 hb20 hg20 ?_
    refine RL.sB (b := b9) (i := 1) (j := 0) rfl rfl rfl ty42 rfl rfl hg20 rfl (hb9) rfl rfl ?_
    rintro w21 Q21 (hg21 : Good _ s19 (Q19 :: Q21 :: Q8 :: Q20 :: os)) hax21 hb21
    refine ⟨trivial, ?_⟩
    refine RL.pd ?_
    refine CW.ret (ret (vs := [_, _]) ⟨_, _, _, rfl, rfl, loadVar_agg ty42 hb21 (hg21.mem (by simp)) rfl, _, _, rfl, rfl, rfl⟩ ?_)
    obtain ⟨s1, hs1, hl1, hm1⟩ := hg21.letgo
    have him := ho34.imm (RInt.up _) ((Le.refl _).trans hl1) hm1
    rw [if_pos (by simpa using h41)] at hq
    exact Post.mk (hle19.trans hl1) hs1.dropNext.dropNext (hax7.trans (hax8.trans (hax9.trans (hax18.trans (hax19.trans (hax20.trans hax21)))))) ⟨a34, c34, by rw [hq]; rfl, by rw [hq]; exact him⟩
   ·
    refine CW.skip ?_
    refine CW.seq (CW.plain ?_)
    refine RL.fi fl42_2 ?_
    refine RL.lo 2 ty28 hb20 hg20 ?_
    refine RL.fi fl56_11 ?_
    refine RL.lo 12 ty28 hb8 hg20 ?_
    have hM1 := hM0.up (RInt.up _) hle19
    obtain ⟨news22, hsrc22, hch22⟩ := (Src.row (r := s) (c := y.dc) sl28 hM1.2.2 (hg20.sh.le hle19))
    refine RL.append2 (i := 0) (xs := _) (ys := m.data) rfl rfl rfl rfl sl28 ze5 rfl (RInt.one .u8) (rfl) rfl hg20 rfl (ho34) hsrc22 hch22 ((by omega)) (by omega) ?_
    rintro a22 c22 A22 w22 (hg22 : Good _ s19 (A22 :: Q9 :: Q8 :: Q20 :: os)) ho22 hax22 hk22 hn22
    refine ⟨trivial, ?_⟩
    refine RL.fi fl42_2 ?_
    refine RL.sB (b := b7) (i := 3) (j := 2) rfl rfl rfl ty28 rfl rfl hg22 rfl (hb20) rfl rfl ?_
    rintro w23 Q23 (hg23 : Good _ s19 (A22 :: Q9 :: Q8 :: Q23 :: os)) hax23 hb23
    refine ⟨trivial, ?_⟩
    refine RL.done ?_
    refine CW.seq ?_
    have hg24 := hg23.drew
    refine CW.draws [(true, 0), (true, 1), (true, 2), (false, 3), (false, 4)] (fun w => At1 b7 _ w ∧ At1 b8 _ w ∧ True) mixed (by kernel_rfl) (by kernel_rfl) (by kernel_rfl) (by kernel_rfl) (⟨hg24.at1 (by simp) hb23, hg24.at1 (by simp) hb8, trivial⟩) ?_
    refine RL.loadsT (ad := ⟨b7, 0, none⟩) (j := 0) rfl rfl rfl rfl ty42 rfl (At1.holds) (fun w h => h.1.inn) rfl rfl ?_
    refine RL.fi fl56_12 ?_
    refine RL.loadT (ad := ⟨b8, 0, none⟩) (j := 13) rfl rfl rfl rfl ty4 rfl (At1.holds) (fun w h => h.2.1.inn) rfl ?_
    refine RL.sB (b := b9) (i := 1) (j := 0) rfl rfl rfl ty42 rfl rfl hg24 rfl (hb9) rfl rfl ?_
    rintro w25 Q25 (hg25 : Good _ s19 (A22 :: Q25 :: Q8 :: Q23 :: os)) hax25 hb25
    refine ⟨⟨hg25.at1 (by simp) hb23, hg25.at1 (by simp) hb8, trivial⟩, ?_⟩
    refine RL.pd ?_
    refine CW.ret (ret (vs := [_, _]) ⟨_, _, _, rfl, rfl, loadVar_agg ty42 hb25 (hg25.mem (by simp)) rfl, _, _, rfl, rfl, rfl⟩ ?_)
    obtain ⟨s1, hs1, hl1, hm1⟩ := hg25.letgo
    have him := ho22.imm (RInt.up _) hl1 hm1
    rw [if_neg (by simpa using h41)] at hq
    exact Post.mk (hle19.trans hl1) hs1.dropNext.dropNext (hax7.trans (hax8.trans (hax9.trans (hax18.trans (hax19.trans (hax20.trans (hax22.trans (hax23.trans ((Aux.drew _).trans hax25))))))))) ⟨a22, c22, by rw [hq]; rfl, by rw [hq]; exact him⟩
  ·
   have hq := takeP_old (p := p) (m := m) (fun z => z.elim (fun z => by simp [z] at h12) (fun z => by simp [z] at h18))
   have hD := hp0
   have hL := hn
   refine CW.skip ?_
   refine CW.seq (CW.plain ?_)
   refine RL.fi fl42_2 ?_
   refine RL.lo 2 ty28 hb7 hg9 ?_
   refine RL.fi fl42_2 ?_
   refine RL.lo 2 ty28 hb7 hg9 ?_
   refine RL.len rfl rfl rfl rfl sl28 rfl ?_
   refine RL.fi fl42_2 ?_
   refine RL.lo 2 ty28 hb7 hg9 ?_
   refine RL.len rfl rfl rfl rfl sl28 rfl ?_
   refine RL.top _ rfl rfl rfl rfl sl28 rfl rfl rfl hD (Nat.le_refl _) ?_
   intro hE32
   simp only [List.take_length, List.take_nil] at hE32 ⊢
   refine RL.pd ?_
   refine CW.seq (CW.plain ?_)
   refine RL.pu ?_
   refine RL.call rfl rfl rfl rfl rfl ca61 (CloneB_ct hg9 (.inl rfl) hE32.2.2 (by omega)) ?_
   rintro v26 s26 Q26 w26 hle26 (hg26 : Good _ s26 (Q26 :: Q9 :: Q8 :: Q7 :: os)) hax26 ⟨hs34, a34, c34, rfl, ho34⟩
   have hm := hm.up hle26
   refine ⟨trivial, ?_⟩
   refine RL.fi fl42_2 ?_
   refine RL.sB (b := b7) (i := 3) (j := 2) rfl rfl rfl ty28 rfl rfl hg26 rfl (hb7) rfl rfl ?_
   rintro w27 Q27 (hg27 : Good _ s26 (Q26 :: Q9 :: Q8 :: Q27 :: os)) hax27 hb27
   refine ⟨trivial, ?_⟩
   refine RL.done ?_
   refine CW.seq ?_
   refine CW.seq (CW.plain ?_)
   refine RL.fi fl56_9 ?_
   refine RL.lo 9 ty22 hb8 hg27 ?_
   refine RL.pu ?_
   refine RL.len rfl rfl rfl rfl sl28 rfl ?_
   refine RL.conv rfl rfl rfl rfl Tryz.underlying3 Tryz.underlying22 rfl ((by have := ho34.le_max; simp only [maxLen] at this; simp only [rng]; omega)) ?_
   refine RL.pd ?_
   refine CW.cond rfl (fun h41 => ?_) (fun h41 => ?_)
   ·
    refine CW.seq (CW.plain ?_)
    refine RL.ls 0 ty42 hb27 hg27 ?_
    refine RL.sB (b := b9) (i := 1) (j := 0) rfl rfl rfl ty42 rfl rfl hg27 rfl (hb9) rfl rfl ?_
    rintro w28 Q28 (hg28 : Good _ s26 (Q26 :: Q28 :: Q8 :: Q27 :: os)) hax28 hb28
    refine ⟨trivial, ?_⟩
    refine RL.pd ?_
    refine CW.ret (ret (vs := [_, _]) ⟨_, _, _, rfl, rfl, loadVar_agg ty42 hb28 (hg28.mem (by simp)) rfl, _, _, rfl, rfl, rfl⟩ ?_)
    obtain ⟨s1, hs1, hl1, hm1⟩ := hg28.letgo
    have him := ho34.imm (RInt.up _) ((Le.refl _).trans hl1) hm1
    rw [if_pos (by simpa using h41)] at hq
    exact Post.mk (hle26.trans hl1) hs1.dropNext.dropNext (hax7.trans (hax8.trans (hax9.trans (hax26.trans (hax27.trans hax28))))) ⟨a34, c34, by rw [hq]; rfl, by rw [hq]; exact him⟩
   ·
    refine CW.skip ?_
    refine CW.seq (CW.plain ?_)
    refine RL.fi fl42_2 ?_
    refine RL.lo 2 ty28 hb27 hg27 ?_
    refine RL.fi fl56_11 ?_
    refine RL.lo 12 ty28 hb8 hg27 ?_
    have hM1 := hM0.up (RInt.up _) hle26
    obtain ⟨news29, hsrc29, hch29⟩ := (Src.row (r := s) (c := y.dc) sl28 hM1.2.2 (hg27.sh.le hle26))
    refine RL.append2 (i := 0) (xs := _) (ys := m.data) rfl rfl rfl rfl sl28 ze5 rfl (RInt.one .u8) (rfl) rfl hg27 rfl (ho34) hsrc29 hch29 ((by omega)) (by omega) ?_
    rintro a29 c29 A29 w29 (hg29 : Good _ s26 (A29 :: Q9 :: Q8 :: Q27 :: os)) ho29 hax29 hk29 hn29
    refine ⟨trivial, ?_⟩
    refine RL.fi fl42_2 ?_
    refine RL.sB (b := b7) (i := 3) (j := 2) rfl rfl rfl ty28 rfl rfl hg29 rfl (hb27) rfl rfl ?_
    rintro w30 Q30 (hg30 : Good _ s26 (A29 :: Q9 :: Q8 :: Q30 :: os)) hax30 hb30
    refine ⟨trivial, ?_⟩
    refine RL.done ?_
    refine CW.seq ?_
    have hg31 := hg30.drew
    refine CW.draws [(true, 0), (true, 1), (true, 2), (false, 3), (false, 4)] (fun w => At1 b7 _ w ∧ At1 b8 _ w ∧ True) mixed (by kernel_rfl) (by kernel_rfl) (by kernel_rfl) (by kernel_rfl) (⟨hg31.at1 (by simp) hb30, hg31.at1 (by simp) hb8, trivial⟩) ?_
    refine RL.loadsT (ad := ⟨b7, 0, none⟩) (j := 0) rfl rfl rfl rfl ty42 rfl (At1.holds) (fun w h => h.1.inn) rfl rfl ?_
    refine RL.fi fl56_12 ?_
    refine RL.loadT (ad := ⟨b8, 0, none⟩) (j := 13) rfl rfl rfl rfl ty4 rfl (At1.holds) (fun w h => h.2.1.inn) rfl ?_
    refine RL.sB (b := b9) (i := 1) (j := 0) rfl rfl rfl ty42 rfl rfl hg31 rfl (hb9) rfl rfl ?_
    rintro w32 Q32 (hg32 : Good _ s26 (A29 :: Q32 :: Q8 :: Q30 :: os)) hax32 hb32
    refine ⟨⟨hg32.at1 (by simp) hb30, hg32.at1 (by simp) hb8, trivial⟩, ?_⟩
    refine RL.pd ?_
    refine CW.ret (ret (vs := [_, _]) ⟨_, _, _, rfl, rfl, loadVar_agg ty42 hb32 (hg32.mem (by simp)) rfl, _, _, rfl, rfl, rfl⟩ ?_)
    obtain ⟨s1, hs1, hl1, hm1⟩ := hg32.letgo
    have him := ho29.imm (RInt.up _) hl1 hm1
    rw [if_neg (by simpa using h41)] at hq
    exact Post.mk (hle26.trans hl1) hs1.dropNext.dropNext (hax7.trans (hax8.trans (hax9.trans (hax26.trans (hax27.trans (hax29.trans (hax30.trans ((Aux.drew _).trans hax32)))))))) ⟨a29, c29, by rw [hq]; rfl, by rw [hq]; exact him⟩
set_option maxRecDepth 100000 in
theorem Whole_ct {p : Coming} {c : Conf} {va la da : Option Addr} {vc lc dc : Nat} (hg : Good w s os) (hp : Imm (RInt .u8) 1 s da dc p.data) (hv : Ints s va vc c.voters) (hl : Ints s la lc c.learners) (hs : c.small) (hn : p.data.length ≤ 140737488355328) :
  Calls Tryz.prog 137 #[.agg (comV p da dc).toArray, .agg #[.slice va c.voters.length vc, .slice la c.learners.length lc]] w (Post w s os fun s' _ q => ∃ va vc la lc da dc, q = .agg (snapV (wholeP p c) va vc la lc da dc).toArray ∧ Ints s' va vc (wholeP p c).conf.voters ∧ Ints s' la lc (wholeP p c).conf.learners ∧ Imm (RInt .u8) 1 s' da dc (wholeP p c).data) := by
 refine enter (l := [.agg (comV p da dc).toArray, .agg #[.slice va c.voters.length vc, .slice la c.learners.length lc]]) Tryz.func137 rfl Tryz.ntmps137 rfl ?_
 refine CW.seq (CW.plain ?_)
 refine RL.boxN rfl rfl rfl rfl rfl hg ?_
 rintro b33 w33 Q33 (hg33 : Good _ s (Q33 :: os)) hax33 hb33
 refine ⟨trivial, ?_⟩
 refine RL.boxN rfl rfl rfl rfl rfl hg33 ?_
 rintro b34 w34 Q34 (hg34 : Good _ s (Q34 :: Q33 :: os)) hax34 hb34
 refine ⟨trivial, ?_⟩
 refine RL.allocN rfl rfl rfl rfl ze30 hg34 ?_
 rintro b35 w35 Q35 (hg35 : Good _ s (Q35 :: Q34 :: Q33 :: os)) hax35 hb35
 refine ⟨trivial, ?_⟩
 refine RL.done ?_
 refine CW.seq ?_
 have hg36 := hg35.drew
 refine CW.draws [(true, 0), (true, 1), (true, 2), (true, 3), (true, 4), (true, 6), (true, 7), (false, 5), (false, 8), (true, 9), (false, 10)] (fun w => At1 b33 _ w ∧ At1 b34 _ w ∧ True) mixed (by kernel_rfl) (by kernel_rfl) (by kernel_rfl) (by kernel_rfl) (⟨hg36.at1 (by simp) hb33, hg36.at1 (by simp) hb34, trivial⟩) ?_
 refine RL.fi fl42_0 ?_
 refine RL.loadT (ad := ⟨b33, 0, none⟩) (j := 0) rfl rfl rfl rfl ty22 rfl (At1.holds) (fun w h => h.1.inn) rfl ?_
 refine RL.fi fl42_1 ?_
 refine RL.loadT (ad := ⟨b33, 0, none⟩) (j := 1) rfl rfl rfl rfl ty22 rfl (At1.holds) (fun w h => h.1.inn) rfl ?_
 refine RL.loadsT (ad := ⟨b34, 0, none⟩) (j := 0) rfl rfl rfl rfl ty27 rfl (At1.holds) (fun w h => h.2.1.inn) rfl rfl ?_
 refine RL.fi fl42_2 ?_
 refine RL.loadT (ad := ⟨b33, 0, none⟩) (j := 2) rfl rfl rfl rfl ty28 rfl (At1.holds) (fun w h => h.1.inn) rfl ?_
 refine RL.call rfl rfl rfl rfl rfl ca156 (conf_snap_ct hg36 hv hl hs) ?_
 rintro v37 s37 B37 w37 hle37 (hg37 : Good _ s37 (B37 :: Q35 :: Q34 :: Q33 :: os)) hax37 ⟨vs10, rfl, hR10⟩
 have hg37 := hg37.drop
 have hp := hp.up (RInt.up _) hle37
 obtain ⟨va10, vc10, la10, lc10, rfl, hv10, hl10⟩ := hR10
 refine ⟨⟨hg37.at1 (by simp) hb33, hg37.at1 (by simp) hb34, trivial⟩, ?_⟩
 refine RL.call rfl rfl rfl rfl rfl ca61 (CloneB_ct hg37 (.inl rfl) hp.2.2 (by omega)) ?_
 rintro v38 s38 Q38 w38 hle38 (hg38 : Good _ s38 (Q38 :: Q35 :: Q34 :: Q33 :: os)) hax38 ⟨hs13, a13, c13, rfl, ho13⟩
 have hp := hp.up (RInt.up _) hle38
 refine ⟨⟨hg38.at1 (by simp) hb33, hg38.at1 (by simp) hb34, trivial⟩, ?_⟩
 refine RL.build rfl rfl rfl rfl ze30 pl30 rfl rfl ?_
 refine RL.sB (b := b35) (i := 1) (j := 0) rfl rfl rfl ty30 rfl rfl hg38 rfl (hb35) rfl rfl ?_
 rintro w39 Q39 (hg39 : Good _ s38 (Q38 :: Q39 :: Q34 :: Q33 :: os)) hax39 hb39
 refine ⟨⟨hg39.at1 (by simp) hb33, hg39.at1 (by simp) hb34, trivial⟩, ?_⟩
 refine RL.done ?_
 refine CW.ret (ret (vs := [_]) ⟨_, _, _, rfl, rfl, loadVar_agg ty30 hb39 (hg39.mem (by simp)) rfl, rfl⟩ ?_)
 obtain ⟨s1, hs1, hl1, hm1⟩ := hg39.letgo
 exact Post.mk ((hle37.trans hle38).trans hl1) hs1.dropNext.dropNext (hax33.trans (hax34.trans (hax35.trans ((Aux.drew _).trans (hax37.trans (hax38.trans hax39)))))) ⟨va10, vc10, la10, lc10, a13, c13, rfl, hv10.up (RInt.up _) (hle38.trans hl1), hl10.up (RInt.up _) (hle38.trans hl1), ho13.imm (RInt.up _) ((Le.refl _).trans hl1) hm1⟩
end
end Go.Lw

/-
 A node by the program: follow, post, ballot.
-/
namespace Go.Lw
open Go.Proofs
attribute [local irreducible] RL RA
abbrev NPost (w : World) (s : Res) (os : List Res) (p : Nat) (v : Value) (n : Node) : Ending → World → Prop := Post w s os fun s' A r => r = v ∧ ∃ h, Nd s' A p h n
theorem Calls.lend {P : Program} {w : World} {s A : Res} {os : List Res} {f : FuncId} {args : Array Value} {Ψ : Value → Prop} (hg : Good w s (A :: os)) (h : Calls P f args w (Post w (s.join A) os fun _ _ v => Ψ v)) : Calls P f args w (Post w s (A :: os) fun _ _ v => Ψ v) :=
 h.mono fun e w' he => by
  obtain ⟨v, s', B, rfl, hle, hg', hax, hv⟩ := he
  have hA : Le A s' := (Res.le_join_right hg.2.1.symm).trans hle
  have hu := (hg'.unshare hA).front 1 rfl
  refine ⟨v, _, B, rfl, fun b x hb => ?_, hu, hax, hv⟩
  cases hr : A b with
  | some y =>
   have := hg.2.1 b (by rw [hr]; simp)
   rw [hb] at this; cases this
  | none =>
   simp only
   exact hle b x (Res.le_join_left _ _ b x hb)
abbrev MPost (w : World) (s : Res) (os : List Res) (p : Nat) (h : Hd) (v : Value) (n : Node) : Ending → World → Prop := Post w s os fun s' A r => r = v ∧ ∃ a c, Nd s' A p { h with ma := a, mc := c } n
section
variable {w : World} {s A : Res} {os : List Res} {p : Nat} {h : Hd} {n : Node}
theorem follow_ct {term leader : Int} (hg : Good w s (A :: os)) (nd : Nd s A p h n) :
  Calls Tryz.prog 73 #[ptr p, u64 term, i64 leader] w (NPost w s os p (.tuple #[]) (n.follow term leader)) := by
 refine enter (l := [ptr p, u64 term, i64 leader]) Tryz.func73 rfl Tryz.ntmps73 rfl ?_
 refine CW.seq ?_
 refine CW.seq (CW.plain ?_)
 refine RL.pp ?_
 refine RL.pu ?_
 refine RL.fi fl109_0 ?_
 refine RL.fi fl44_1 ?_
 refine RL.fi fl24_0 ?_
 refine RL.lo 1 ty22 nd.cells hg ?_
 refine RL.pd ?_
 refine CW.cond rfl (fun h13 => ?_) (fun h13 => ?_)
 ·
  refine CW.plain ?_
  refine RL.pp ?_
  refine RL.pp ?_
  refine RL.fi fl109_0 ?_
  refine RL.fi fl44_1 ?_
  refine RL.fi fl24_0 ?_
  refine RL.storeI (p := p) (i := 0) (j := 1) rfl rfl rfl ty22 rfl rfl hg rfl (nd.cells) (NRest.wTerm nd.rest) rfl (Nat.le_of_ble_eq_true rfl) rfl ?_
  rintro w1 A1 (hg1 : Good _ s (A1 :: os)) hax1 nd1
  refine ⟨trivial, ?_⟩
  refine RL.pu ?_
  refine RL.fi fl109_0 ?_
  refine RL.fi fl44_1 ?_
  refine RL.fi fl24_1 ?_
  refine RL.storeI (p := p) (i := 0) (j := 2) rfl rfl rfl ty3 rfl rfl hg1 rfl (nd1.cells) (NRest.wVote nd1.rest) rfl (Nat.le_of_ble_eq_true rfl) rfl ?_
  rintro w2 A2 (hg2 : Good _ s (A2 :: os)) hax2 nd2
  refine ⟨trivial, ?_⟩
  refine RL.done ?_
  refine CW.seq (CW.plain ?_)
  refine RL.pp ?_
  refine RL.pp ?_
  refine RL.fi fl109_0 ?_
  refine RL.fi fl44_3 ?_
  refine RL.storeI (p := p) (i := 0) (j := 10) rfl rfl rfl ty38 rfl rfl hg2 rfl (nd2.cells) (NRest.wRole nd2.rest) rfl (Nat.le_of_ble_eq_true rfl) rfl ?_
  rintro w3 A3 (hg3 : Good _ s (A3 :: os)) hax3 nd3
  refine ⟨trivial, ?_⟩
  refine RL.pu ?_
  refine RL.fi fl109_0 ?_
  refine RL.fi fl44_4 ?_
  refine RL.storeI (p := p) (i := 0) (j := 11) rfl rfl rfl ty3 rfl rfl hg3 rfl (nd3.cells) (NRest.wLeader nd3.rest) rfl (Nat.le_of_ble_eq_true rfl) rfl ?_
  rintro w4 A4 (hg4 : Good _ s (A4 :: os)) hax4 nd4
  refine ⟨trivial, ?_⟩
  refine RL.done ?_
  refine CW.plain ?_
  refine RL.pp ?_
  refine RL.pp ?_
  refine RL.pu ?_
  refine RL.fi fl109_0 ?_
  refine RL.fi fl44_5 ?_
  refine RL.storeN (p := p) (i := 0) (j := 12) (h1 := _) (n1 := _) rfl rfl rfl ty39 rfl rfl hg4 rfl (nd4.cells) (nd4.rest.noBallots) rfl (by first | (simp [Value.cells, Value.oneCell']; done) | simp [Value.cells, Value.oneCell', putL]) (by first | exact Nat.le_of_ble_eq_true rfl | (simp; done) | (simp; omega) | omega) rfl ?_
  rintro w5 A5 (hg5 : Good _ s (A5 :: os)) hax5 nd5
  refine ⟨trivial, ?_⟩
  refine RL.pu ?_
  refine RL.fi fl109_0 ?_
  refine RL.fi fl44_6 ?_
  refine RL.storeN (p := p) (i := 0) (j := 13) (h1 := _) (n1 := _) rfl rfl rfl ty40 rfl rfl hg5 rfl (nd5.cells) (nd5.rest.noPeers) rfl (by first | (simp [Value.cells, Value.oneCell']; done) | simp [Value.cells, Value.oneCell', putL]) (by first | exact Nat.le_of_ble_eq_true rfl | (simp; done) | (simp; omega) | omega) rfl ?_
  rintro w6 A6 (hg6 : Good _ s (A6 :: os)) hax6 nd6
  refine ⟨trivial, ?_⟩
  refine RL.pu ?_
  refine RL.fi fl109_0 ?_
  refine RL.fi fl44_8 ?_
  refine RL.storeI (p := p) (i := 0) (j := 15) rfl rfl rfl ty3 rfl rfl hg6 rfl (nd6.cells) (NRest.wBeat nd6.rest) rfl (Nat.le_of_ble_eq_true rfl) rfl ?_
  rintro w7 A7 (hg7 : Good _ s (A7 :: os)) hax7 nd7
  refine ⟨trivial, ?_⟩
  refine RL.pu ?_
  refine RL.fi fl109_0 ?_
  refine RL.fi fl44_9 ?_
  refine RL.storeI (p := p) (i := 0) (j := 16) rfl rfl rfl ty3 rfl rfl hg7 rfl (nd7.cells) (NRest.wTransfer nd7.rest) rfl (Nat.le_of_ble_eq_true rfl) rfl ?_
  rintro w8 A8 (hg8 : Good _ s (A8 :: os)) hax8 nd8
  refine ⟨trivial, ?_⟩
  refine RL.done ?_
  refine fall (vs := []) rfl ?_
  refine Post.mk (Le.refl _) hg8 (hax1.trans (hax2.trans (hax3.trans (hax4.trans (hax5.trans (hax6.trans (hax7.trans hax8))))))) ⟨rfl, _, nd8.to ?_⟩
  simp only [decide_eq_true_eq, decide_eq_false_iff_not, gt_iff_lt] at h13
  simp [Node.follow, Node.wTerm, Node.wVote, Node.wRole, Node.wLeader, Node.wBallots, Node.wPeers, Node.wBeat, Node.wTransfer, h13]
 ·
  refine CW.skip ?_
  refine CW.seq (CW.plain ?_)
  refine RL.pp ?_
  refine RL.pp ?_
  refine RL.fi fl109_0 ?_
  refine RL.fi fl44_3 ?_
  refine RL.storeI (p := p) (i := 0) (j := 10) rfl rfl rfl ty38 rfl rfl hg rfl (nd.cells) (NRest.wRole nd.rest) rfl (Nat.le_of_ble_eq_true rfl) rfl ?_
  rintro w9 A9 (hg9 : Good _ s (A9 :: os)) hax9 nd9
  refine ⟨trivial, ?_⟩
  refine RL.pu ?_
  refine RL.fi fl109_0 ?_
  refine RL.fi fl44_4 ?_
  refine RL.storeI (p := p) (i := 0) (j := 11) rfl rfl rfl ty3 rfl rfl hg9 rfl (nd9.cells) (NRest.wLeader nd9.rest) rfl (Nat.le_of_ble_eq_true rfl) rfl ?_
  rintro w10 A10 (hg10 : Good _ s (A10 :: os)) hax10 nd10
  refine ⟨trivial, ?_⟩
  refine RL.done ?_
  refine CW.plain ?_
  refine RL.pp ?_
  refine RL.pp ?_
  refine RL.pu ?_
  refine RL.fi fl109_0 ?_
  refine RL.fi fl44_5 ?_
  refine RL.storeN (p := p) (i := 0) (j := 12) (h1 := _) (n1 := _) rfl rfl rfl ty39 rfl rfl hg10 rfl (nd10.cells) (nd10.rest.noBallots) rfl (by first | (simp [Value.cells, Value.oneCell']; done) | simp [Value.cells, Value.oneCell', putL]) (by first | exact Nat.le_of_ble_eq_true rfl | (simp; done) | (simp; omega) | omega) rfl ?_
  rintro w11 A11 (hg11 : Good _ s (A11 :: os)) hax11 nd11
  refine ⟨trivial, ?_⟩
  refine RL.pu ?_
  refine RL.fi fl109_0 ?_
  refine RL.fi fl44_6 ?_
  refine RL.storeN (p := p) (i := 0) (j := 13) (h1 := _) (n1 := _) rfl rfl rfl ty40 rfl rfl hg11 rfl (nd11.cells) (nd11.rest.noPeers) rfl (by first | (simp [Value.cells, Value.oneCell']; done) | simp [Value.cells, Value.oneCell', putL]) (by first | exact Nat.le_of_ble_eq_true rfl | (simp; done) | (simp; omega) | omega) rfl ?_
  rintro w12 A12 (hg12 : Good _ s (A12 :: os)) hax12 nd12
  refine ⟨trivial, ?_⟩
  refine RL.pu ?_
  refine RL.fi fl109_0 ?_
  refine RL.fi fl44_8 ?_
  refine RL.storeI (p := p) (i := 0) (j := 15) rfl rfl rfl ty3 rfl rfl hg12 rfl (nd12.cells) (NRest.wBeat nd12.rest) rfl (Nat.le_of_ble_eq_true rfl) rfl ?_
  rintro w13 A13 (hg13 : Good _ s (A13 :: os)) hax13 nd13
  refine ⟨trivial, ?_⟩
  refine RL.pu ?_
  refine RL.fi fl109_0 ?_
  refine RL.fi fl44_9 ?_
  refine RL.storeI (p := p) (i := 0) (j := 16) rfl rfl rfl ty3 rfl rfl hg13 rfl (nd13.cells) (NRest.wTransfer nd13.rest) rfl (Nat.le_of_ble_eq_true rfl) rfl ?_
  rintro w14 A14 (hg14 : Good _ s (A14 :: os)) hax14 nd14
  refine ⟨trivial, ?_⟩
  refine RL.done ?_
  refine fall (vs := []) rfl ?_
  refine Post.mk (Le.refl _) hg14 (hax9.trans (hax10.trans (hax11.trans (hax12.trans (hax13.trans hax14))))) ⟨rfl, _, nd14.to ?_⟩
  simp only [decide_eq_true_eq, decide_eq_false_iff_not, gt_iff_lt] at h13
  simp [Node.follow, Node.wTerm, Node.wVote, Node.wRole, Node.wLeader, Node.wBallots, Node.wPeers, Node.wBeat, Node.wTransfer, h13]
theorem Nd.at_ (nd : Nd s A p h n) (hR : NRng n) : LogAt A s n.s.log h := nd.log hR.2.2.2.2.1 hR.2.2.2.2.2
theorem last_ct (hg : Good w s (A :: os)) (nd : Nd s A p h n) (hR : NRng n) :
  Calls Tryz.prog 77 #[ptr p] w (PostV w s (A :: os) fun q => q = u64 n.last) := by
 refine enter (l := [ptr p]) Tryz.func77 rfl Tryz.ntmps77 rfl ?_
 refine CW.seq (CW.plain ?_)
 refine RL.pd ?_
 refine CW.seq (CW.plain ?_)
 refine RL.pp ?_
 refine RL.fi fl109_0 ?_
 refine RL.fi fl44_2 ?_
 refine RL.ls 4 ty33 nd.cells hg ?_
 refine RL.callV rfl rfl rfl rfl rfl ca31 (Last_ct hg (.inr (by simp)) (nd.at_ hR)) ?_
 rintro v15 w15 (hg15 : Good _ s (A :: os)) hax15 rfl
 refine ⟨trivial, ?_⟩
 refine RL.pp ?_
 refine RL.pp ?_
 refine RL.pd ?_
 refine CW.seq (CW.plain ?_)
 refine RL.pu ?_
 refine RL.pd ?_
 refine CW.ret (ret (vs := [_]) ⟨_, _, rfl, rfl, rfl⟩ ?_)
 exact PostV.mk hg15 hax15 rfl
set_option maxRecDepth 100000 in
theorem voters_ct (hg : Good w s (A :: os)) (nd : Nd s A p h n) (hR : NRng n) (hS : n.s.log.small) :
  Calls Tryz.prog 99 #[ptr p] w (Post w s (A :: os) fun s' _ q => ∃ a c, q = .slice a n.voters.length c ∧ Ints s' a c n.voters) := by
 refine enter (l := [ptr p]) Tryz.func99 rfl Tryz.ntmps99 rfl ?_
 refine CW.seq (CW.plain ?_)
 refine RL.pd ?_
 refine CW.seq (CW.plain ?_)
 refine RL.pp ?_
 refine RL.fi fl109_0 ?_
 refine RL.fi fl44_2 ?_
 refine RL.ls 4 ty33 nd.cells hg ?_
 refine RL.call rfl rfl rfl rfl rfl ca30 (Conf_ct hg (.inr (by simp)) (nd.at_ hR) hS) ?_
 rintro v16 s16 B16 w16 hle16 (hg16 : Good _ s16 (B16 :: A :: os)) hax16 ⟨vs11, rfl, hC⟩
 have hg16 := hg16.drop
 have nd17 := nd.up hle16
 obtain ⟨va, vc, la, lc, rfl, hva, hla⟩ := hC
 refine ⟨trivial, ?_⟩
 refine RL.pp ?_
 refine RL.pu ?_
 refine RL.allocN rfl rfl rfl rfl ze27 hg16 ?_
 rintro b18 w18 Q18 (hg18 : Good _ s16 (Q18 :: A :: os)) hax18 hb18
 refine ⟨trivial, ?_⟩
 refine RL.sB (b := b18) (i := 0) (j := 0) rfl rfl rfl ty27 rfl rfl hg18 rfl (hb18) rfl rfl ?_
 rintro w19 Q19 (hg19 : Good _ s16 (Q19 :: A :: os)) hax19 hb19
 refine ⟨trivial, ?_⟩
 refine RL.pd ?_
 refine CW.seq (CW.plain ?_)
 refine RL.fi fl27_0 ?_
 refine RL.lo 0 ty25 hb19 hg19 ?_
 refine RL.pd ?_
 refine CW.ret (ret (vs := [_]) ⟨_, _, rfl, rfl, rfl⟩ ?_)
 exact Post.mk hle16 hg19 (hax16.trans (hax18.trans hax19)) ⟨_, _, rfl, hva⟩
set_option maxRecDepth 100000 in
theorem votes_ct (hg : Good w s (A :: os)) (nd : Nd s A p h n) (hR : NRng n) (hS : n.s.log.small) :
  Calls Tryz.prog 67 #[ptr p] w (Post w s (A :: os) fun _ _ q => q = .bool n.votes) := by
 refine enter (l := [ptr p]) Tryz.func67 rfl Tryz.ntmps67 rfl ?_
 refine CW.seq (CW.plain ?_)
 refine RL.pd ?_
 refine CW.seq ?_
 have hg20 := hg.drew
 refine CW.draws [(true, 0), (true, 2), (true, 3), (true, 4), (true, 5), (true, 6), (false, 1), (false, 7), (false, 8)] (fun w => At1 p _ w ∧ True) mixed (by kernel_rfl) (by kernel_rfl) (by kernel_rfl) (by kernel_rfl) (⟨hg20.at1 (by simp) nd.cells, trivial⟩) ?_
 refine RL.pp ?_
 refine RL.pu ?_
 refine RL.fi fl109_0 ?_
 refine RL.fi fl44_0 ?_
 refine RL.loadT (ad := ⟨p, 0, none⟩) (j := 0) rfl rfl rfl rfl ty3 rfl (At1.holds) (fun w h => h.1.inn) rfl ?_
 refine RL.call rfl rfl rfl rfl rfl ca99 (voters_ct hg20 nd hR hS) ?_
 rintro v21 s21 B21 w21 hle21 (hg21 : Good _ s21 (B21 :: A :: os)) hax21 ⟨va, vc, rfl, hv⟩
 have hg21 := hg21.drop
 have nd22 := nd.up hle21
 refine ⟨⟨hg21.at1 (by simp) nd22.cells, trivial⟩, ?_⟩
 refine RL.callV rfl rfl rfl rfl rfl ca98 (Contains_ct hg21 hv) ?_
 rintro v23 w23 (hg23 : Good _ s21 (A :: os)) hax23 rfl
 refine ⟨⟨hg23.at1 (by simp) nd22.cells, trivial⟩, ?_⟩
 refine RL.pd ?_
 refine CW.ret (ret (vs := [_]) ⟨_, _, rfl, rfl, rfl⟩ ?_)
 exact Post.mk hle21 hg23.nil ((Aux.drew _).trans (hax21.trans hax23)) rfl
set_option maxRecDepth 100000 in
theorem post_ct {m : Msg} {y : Lay} (hg : Good w s (A :: os)) (nd : Nd s A p h n) (hR : NRng n) (hm : MsgOk s m y) (hb : n.o.msgs.length ≤ 68719476736) :
  Calls Tryz.prog 113 #[ptr p, .agg (msgV m y).toArray] w (MPost w s os p h (.tuple #[]) (n.post m)) := by
 refine enter (l := [ptr p, .agg (msgV m y).toArray]) Tryz.func113 rfl Tryz.ntmps113 rfl ?_
 refine CW.seq (CW.plain ?_)
 refine RL.boxN rfl rfl rfl rfl rfl hg ?_
 rintro b24 w24 Q24 (hg24 : Good _ s (Q24 :: A :: os)) hax24 hb24
 refine ⟨trivial, ?_⟩
 refine RL.done ?_
 refine CW.seq (CW.plain ?_)
 refine RL.pp ?_
 refine RL.fi fl109_0 ?_
 refine RL.fi fl44_0 ?_
 refine RL.lo 0 ty3 nd.cells hg24 ?_
 refine RL.fi fl56_1 ?_
 refine RL.sB (b := b24) (i := 0) (j := 1) rfl rfl rfl ty3 rfl rfl hg24 rfl (hb24) rfl rfl ?_
 rintro w25 Q25 (hg25 : Good _ s (Q25 :: A :: os)) hax25 hb25
 refine ⟨trivial, ?_⟩
 refine RL.done ?_
 refine CW.seq ?_
 refine CW.seq (CW.plain ?_)
 refine RL.fi fl56_3 ?_
 refine RL.lo 3 ty22 hb25 hg25 ?_
 refine RL.pd ?_
 refine CW.cond rfl (fun h12 => ?_) (fun h12 => ?_)
 ·
  have hif : (if m.term = 0 then n.s.hard.term else m.term) = n.s.hard.term := if_pos (by simpa using h12)
  have hmo : MsgOk s { m with frm := n.s.id, term := n.s.hard.term } y := { hm with frm := hR.1, term := hR.2.1 }
  refine CW.plain ?_
  refine RL.pp ?_
  refine RL.fi fl109_0 ?_
  refine RL.fi fl44_1 ?_
  refine RL.fi fl24_0 ?_
  refine RL.lo 1 ty22 nd.cells hg25 ?_
  refine RL.fi fl56_3 ?_
  refine RL.sB (b := b24) (i := 0) (j := 3) rfl rfl rfl ty22 rfl rfl hg25 rfl (hb25) rfl rfl ?_
  rintro w26 Q26 (hg26 : Good _ s (Q26 :: A :: os)) hax26 hb26
  refine ⟨trivial, ?_⟩
  refine RL.done ?_
  have hg27 := hg26.drew
  refine CW.draws2 [(true, 0), (true, 1), (true, 2), (true, 3), (true, 4), (true, 5), (true, 6), (false, 7), (false, 8), (true, 9), (true, 10), (true, 11)] [(false, 12)] 12 #[true, true, true, true, true, true, true, true, true, true, true, true, false] (fun w => At1 p _ w ∧ At1 b24 _ w ∧ True) mixed (by kernel_rfl) (by kernel_rfl) (by kernel_rfl) (by kernel_rfl) (by kernel_rfl) (⟨hg27.at1 (by simp) nd.cells, hg27.at1 (by simp) hb26, trivial⟩) ?_
  refine RL.pp ?_
  refine RL.pu ?_
  refine RL.fi fl109_1 ?_
  refine RL.fi fl50_4 ?_
  refine RL.loadT (ad := ⟨p, 0, none⟩) (j := 24) rfl rfl rfl rfl ty48 rfl (At1.holds) (fun w h => h.1.inn) rfl ?_
  refine RL.loadsT (ad := ⟨b24, 0, none⟩) (j := 0) rfl rfl rfl rfl ty56 rfl (At1.holds) (fun w h => h.2.1.inn) rfl rfl ?_
  refine RL.buildN rfl rfl rfl rfl sl48 ze56 rfl rfl rfl rfl hg27 ?_
  rintro b28 w28 Q28 (hg28 : Good _ s (Q28 :: Q26 :: A :: os)) hax28 hb28
  refine ⟨⟨hg28.at1 (by simp) nd.cells, hg28.at1 (by simp) hb26, trivial⟩, ?_⟩
  refine RL.append2 (i := 2) (ys := [_]) rfl rfl rfl rfl sl48 ze56 rfl RMsg.one rfl rfl hg28 rfl nd.msgs (one_src sl48 rfl hb28 (hg28.mem (by simp))) (Chunks.single rfl ⟨y, rfl, hmo⟩) ((by simp only [List.length_singleton]; omega)) (by omega) ?_
  rintro a29 c29 A29 w29 (hg29 : Good _ s (Q28 :: Q26 :: A29 :: os)) ho29 hax29 hk29 hn29
  obtain ⟨hp29, hr29⟩ := nd.appMsgs ho29 hk29
  refine ⟨⟨hg29.at1 (by simp) hp29, hg29.at1 (by simp) hb26, trivial⟩, ?_⟩
  refine RL.pu ?_
  refine RL.fi fl109_1 ?_
  refine RL.fi fl50_4 ?_
  refine RL.done ?_
  refine RL.next trivial ?_
  refine RL.storeN (p := p) (i := 2) (j := 24) rfl rfl rfl ty48 rfl rfl hg29 rfl (hp29) (hr29) rfl (by first | (simp [Value.cells, Value.oneCell']; done) | simp [Value.cells, Value.oneCell', putL]) (by first | exact Nat.le_of_ble_eq_true rfl | (simp; done) | (simp; omega) | omega) rfl ?_
  rintro w30 A30 (hg30 : Good _ s (Q28 :: Q26 :: A30 :: os)) hax30 nd30
  refine ⟨trivial, ?_⟩
  refine RL.done ?_
  refine fall (vs := []) rfl ?_
  refine Post.mk (Le.refl _) (((hg30.front 2 rfl).dropNext).dropNext) (hax24.trans (hax25.trans (hax26.trans ((Aux.drew _).trans (hax28.trans (hax29.trans hax30)))))) ⟨rfl, _, _, nd30.to ?_⟩
  simp only [Node.post, Node.send, Node.wMsgs, hif]
 ·
  have hif : (if m.term = 0 then n.s.hard.term else m.term) = m.term := if_neg (by simpa using h12)
  have hmo : MsgOk s { m with frm := n.s.id } y := { hm with frm := hR.1 }
  refine CW.skip ?_
  have hg31 := hg25.drew
  refine CW.draws2 [(true, 0), (true, 1), (true, 2), (true, 3), (true, 4), (true, 5), (true, 6), (false, 7), (false, 8), (true, 9), (true, 10), (true, 11)] [(false, 12)] 12 #[true, true, true, true, true, true, true, true, true, true, true, true, false] (fun w => At1 p _ w ∧ At1 b24 _ w ∧ True) mixed (by kernel_rfl) (by kernel_rfl) (by kernel_rfl) (by kernel_rfl) (by kernel_rfl) (⟨hg31.at1 (by simp) nd.cells, hg31.at1 (by simp) hb25, trivial⟩) ?_
  refine RL.pp ?_
  refine RL.pu ?_
  refine RL.fi fl109_1 ?_
  refine RL.fi fl50_4 ?_
  refine RL.loadT (ad := ⟨p, 0, none⟩) (j := 24) rfl rfl rfl rfl ty48 rfl (At1.holds) (fun w h => h.1.inn) rfl ?_
  refine RL.loadsT (ad := ⟨b24, 0, none⟩) (j := 0) rfl rfl rfl rfl ty56 rfl (At1.holds) (fun w h => h.2.1.inn) rfl rfl ?_
  refine RL.buildN rfl rfl rfl rfl sl48 ze56 rfl rfl rfl rfl hg31 ?_
  rintro b32 w32 Q32 (hg32 : Good _ s (Q32 :: Q25 :: A :: os)) hax32 hb32
  refine ⟨⟨hg32.at1 (by simp) nd.cells, hg32.at1 (by simp) hb25, trivial⟩, ?_⟩
  refine RL.append2 (i := 2) (ys := [_]) rfl rfl rfl rfl sl48 ze56 rfl RMsg.one rfl rfl hg32 rfl nd.msgs (one_src sl48 rfl hb32 (hg32.mem (by simp))) (Chunks.single rfl ⟨y, rfl, hmo⟩) ((by simp only [List.length_singleton]; omega)) (by omega) ?_
  rintro a33 c33 A33 w33 (hg33 : Good _ s (Q32 :: Q25 :: A33 :: os)) ho33 hax33 hk33 hn33
  obtain ⟨hp33, hr33⟩ := nd.appMsgs ho33 hk33
  refine ⟨⟨hg33.at1 (by simp) hp33, hg33.at1 (by simp) hb25, trivial⟩, ?_⟩
  refine RL.pu ?_
  refine RL.fi fl109_1 ?_
  refine RL.fi fl50_4 ?_
  refine RL.done ?_
  refine RL.next trivial ?_
  refine RL.storeN (p := p) (i := 2) (j := 24) rfl rfl rfl ty48 rfl rfl hg33 rfl (hp33) (hr33) rfl (by first | (simp [Value.cells, Value.oneCell']; done) | simp [Value.cells, Value.oneCell', putL]) (by first | exact Nat.le_of_ble_eq_true rfl | (simp; done) | (simp; omega) | omega) rfl ?_
  rintro w34 A34 (hg34 : Good _ s (Q32 :: Q25 :: A34 :: os)) hax34 nd34
  refine ⟨trivial, ?_⟩
  refine RL.done ?_
  refine fall (vs := []) rfl ?_
  refine Post.mk (Le.refl _) (((hg34.front 2 rfl).dropNext).dropNext) (hax24.trans (hax25.trans ((Aux.drew _).trans (hax32.trans (hax33.trans hax34))))) ⟨rfl, _, _, nd34.to ?_⟩
  simp only [Node.post, Node.send, Node.wMsgs, hif]
set_option maxRecDepth 100000 in
theorem ballot_ct {frm : Int} {yes : Bool} (hg : Good w s (A :: os)) (nd : Nd s A p h n) (hR : NRng n) (hS : n.s.log.small) (hf : rng .i64 frm) (hb : n.s.ballots.length ≤ 68719476736) (hv : n.voters.length ≤ 1073741824) :
  Calls Tryz.prog 128 #[ptr p, i64 frm, .bool yes] w (NPost w s os p (i64 (n.addBallot frm yes).tally) (n.addBallot frm yes)) := by
 refine enter (l := [ptr p, i64 frm, .bool yes]) Tryz.func128 rfl Tryz.ntmps128 rfl ?_
 refine CW.seq (CW.plain ?_)
 refine RL.pd ?_
 refine CW.seq (CW.plain ?_)
 refine RL.pp ?_
 refine RL.pu ?_
 refine RL.fi fl109_0 ?_
 refine RL.fi fl44_5 ?_
 refine RL.lo 12 ty39 nd.cells hg ?_
 refine RL.pp ?_
 refine RL.build rfl rfl rfl rfl ze133 pl133 rfl rfl ?_
 refine RL.buildN rfl rfl rfl rfl sl39 ze133 rfl rfl rfl rfl hg ?_
 rintro b35 w35 Q35 (hg35 : Good _ s (Q35 :: A :: os)) hax35 hb35
 refine ⟨trivial, ?_⟩
 refine RL.append2 (i := 1) (ys := [(frm, yes)]) rfl rfl rfl rfl sl39 ze133 rfl RBallot.one rfl rfl hg35 rfl nd.ballots (one_src sl39 rfl hb35 (hg35.mem (by simp))) (Chunks.single rfl ⟨rfl, hf⟩) ((by simp only [List.length_singleton]; omega)) (by omega) ?_
 rintro a36 c36 A36 w36 (hg36 : Good _ s (Q35 :: A36 :: os)) ho36 hax36 hk36 hn36
 obtain ⟨hp36, hr36⟩ := nd.appBallots ho36 hk36
 refine ⟨trivial, ?_⟩
 refine RL.pu ?_
 refine RL.fi fl109_0 ?_
 refine RL.fi fl44_5 ?_
 refine RL.storeN (p := p) (i := 1) (j := 12) rfl rfl rfl ty39 rfl rfl hg36 rfl (hp36) (hr36) rfl (by first | (simp [Value.cells, Value.oneCell']; done) | simp [Value.cells, Value.oneCell', putL]) (by first | exact Nat.le_of_ble_eq_true rfl | (simp; done) | (simp; omega) | omega) rfl ?_
 rintro w37 A37 (hg37 : Good _ s (Q35 :: A37 :: os)) hax37 nd37
 refine ⟨trivial, ?_⟩
 refine RL.done ?_
 refine CW.seq ?_
 have hg38 := hg37.drew
 refine CW.draws [(true, 0), (true, 2), (true, 3), (true, 4), (true, 5), (true, 6), (false, 1), (false, 7), (false, 8)] (fun w => At1 p _ w ∧ True) mixed (by kernel_rfl) (by kernel_rfl) (by kernel_rfl) (by kernel_rfl) (⟨hg38.at1 (by simp) nd37.cells, trivial⟩) ?_
 refine RL.pp ?_
 refine RL.pu ?_
 refine RL.fi fl109_0 ?_
 refine RL.fi fl44_5 ?_
 refine RL.loadT (ad := ⟨p, 0, none⟩) (j := 12) rfl rfl rfl rfl ty39 rfl (At1.holds) (fun w h => h.1.inn) rfl ?_
 refine RL.call rfl rfl rfl rfl rfl ca99 (voters_ct ((hg38.front 1 rfl).dropNext) nd37 hR hS) ?_
 rintro v39 s39 B39 w39 hle39 (hg39 : Good _ s39 (B39 :: A37 :: os)) hax39 ⟨va, vc, rfl, hvo⟩
 have hg39 := hg39.drop
 have nd40 := nd37.up hle39
 refine ⟨⟨hg39.at1 (by simp) nd40.cells, trivial⟩, ?_⟩
 have hbl := nd40.ballots.lies
 obtain ⟨hL1, hL2, hL3, hL4⟩ := hg39.lend
 refine RL.call rfl rfl rfl rfl rfl ca147 (Calls.lend hg39 (Tally_ct hL1 (hvo.up (RInt.up _) hL2) (nd40.ballots.imm RBallot.up hL2 hL3) (by show n.voters.length * 8 ≤ _; omega))) ?_
 rintro v41 s41 B41 w41 hle41 (hg41 : Good _ s41 (B41 :: A37 :: os)) hax41 rfl
 have hg41 := hg41.drop
 have nd42 := nd40.up hle41
 refine ⟨⟨hg41.at1 (by simp) nd42.cells, trivial⟩, ?_⟩
 refine RL.pd ?_
 refine CW.ret (ret (vs := [_]) ⟨_, _, rfl, rfl, rfl⟩ ?_)
 exact Post.mk (hle39.trans hle41) hg41 (hax35.trans (hax36.trans (hax37.trans ((Aux.drew _).trans (hax39.trans hax41))))) ⟨rfl, _, nd42⟩
end
end Go.Lw

/-
 A node by the program: runs, question, piece, feed, spread.
-/
namespace Go.Lw
open Go.Proofs
attribute [local irreducible] RL RA
section
variable {w : World} {s A : Res} {os : List Res} {p : Nat} {h : Hd} {n : Node}
theorem NRng.of (hR : NRng n) {m : Node} (h1 : m.s.id = n.s.id) (h2 : rng .u64 m.s.hard.term) (h3 : rng .i64 m.s.hard.vote) (h4 : rng .u64 m.s.hard.commit) (h5 : m.s.log.base = n.s.log.base) : NRng m :=
 ⟨h1 ▸ hR.1, h2, h3, h4, h5 ▸ hR.2.2.2.2.1, h5 ▸ hR.2.2.2.2.2⟩
set_option maxRecDepth 100000 in
theorem runs_ct {role : Int} (hg : Good w s (A :: os)) (nd : Nd s A p h n) (hR : NRng n) (hS : n.s.log.small) (hv : n.voters.length ≤ 1073741824) :
  Calls Tryz.prog 100 #[ptr p, i64 role] w (NPost w s os p (i64 (n.runs role).tally) (n.runs role)) := by
 refine enter (l := [ptr p, i64 role]) Tryz.func100 rfl Tryz.ntmps100 rfl ?_
 refine CW.seq (CW.plain ?_)
 refine RL.pd ?_
 refine CW.seq (CW.plain ?_)
 refine RL.pp ?_
 refine RL.pp ?_
 refine RL.pp ?_
 refine RL.pu ?_
 refine RL.fi fl109_0 ?_
 refine RL.fi fl44_3 ?_
 refine RL.storeI (p := p) (i := 0) (j := 10) rfl rfl rfl ty38 rfl rfl hg rfl (nd.cells) (NRest.wRole nd.rest) rfl (Nat.le_of_ble_eq_true rfl) rfl ?_
 rintro w1 A1 (hg1 : Good _ s (A1 :: os)) hax1 nd1
 refine ⟨trivial, ?_⟩
 refine RL.pu ?_
 refine RL.fi fl109_0 ?_
 refine RL.fi fl44_4 ?_
 refine RL.storeI (p := p) (i := 0) (j := 11) rfl rfl rfl ty3 rfl rfl hg1 rfl (nd1.cells) (NRest.wLeader nd1.rest) rfl (Nat.le_of_ble_eq_true rfl) rfl ?_
 rintro w2 A2 (hg2 : Good _ s (A2 :: os)) hax2 nd2
 refine ⟨trivial, ?_⟩
 refine RL.pu ?_
 refine RL.fi fl109_0 ?_
 refine RL.fi fl44_7 ?_
 refine RL.storeI (p := p) (i := 0) (j := 14) rfl rfl rfl ty3 rfl rfl hg2 rfl (nd2.cells) (NRest.wElapsed nd2.rest) rfl (Nat.le_of_ble_eq_true rfl) rfl ?_
 rintro w3 A3 (hg3 : Good _ s (A3 :: os)) hax3 nd3
 refine ⟨trivial, ?_⟩
 refine RL.pu ?_
 refine RL.fi fl109_0 ?_
 refine RL.fi fl44_9 ?_
 refine RL.storeI (p := p) (i := 0) (j := 16) rfl rfl rfl ty3 rfl rfl hg3 rfl (nd3.cells) (NRest.wTransfer nd3.rest) rfl (Nat.le_of_ble_eq_true rfl) rfl ?_
 rintro w4 A4 (hg4 : Good _ s (A4 :: os)) hax4 nd4
 refine ⟨trivial, ?_⟩
 refine RL.pu ?_
 refine RL.fi fl109_0 ?_
 refine RL.fi fl44_6 ?_
 refine RL.storeN (p := p) (i := 0) (j := 13) (h1 := _) (n1 := _) rfl rfl rfl ty40 rfl rfl hg4 rfl (nd4.cells) (nd4.rest.noPeers) rfl (by first | (simp [Value.cells, Value.oneCell']; done) | simp [Value.cells, Value.oneCell', putL]) (by first | exact Nat.le_of_ble_eq_true rfl | (simp; done) | (simp; omega) | omega) rfl ?_
 rintro w5 A5 (hg5 : Good _ s (A5 :: os)) hax5 nd5
 refine ⟨trivial, ?_⟩
 refine RL.done ?_
 refine CW.seq (CW.plain ?_)
 refine RL.pp ?_
 refine RL.fi fl109_0 ?_
 refine RL.fi fl44_5 ?_
 refine RL.storeN (p := p) (i := 0) (j := 12) (h1 := _) (n1 := _) rfl rfl rfl ty39 rfl rfl hg5 rfl (nd5.cells) (nd5.rest.noBallots) rfl (by first | (simp [Value.cells, Value.oneCell']; done) | simp [Value.cells, Value.oneCell', putL]) (by first | exact Nat.le_of_ble_eq_true rfl | (simp; done) | (simp; omega) | omega) rfl ?_
 rintro w6 A6 (hg6 : Good _ s (A6 :: os)) hax6 nd6
 refine ⟨trivial, ?_⟩
 refine RL.done ?_
 refine CW.seq (CW.plain ?_)
 refine RL.pp ?_
 refine RL.pu ?_
 refine RL.fi fl109_0 ?_
 refine RL.fi fl44_0 ?_
 refine RL.lo 0 ty3 nd6.cells hg6 ?_
 refine RL.call rfl rfl rfl rfl rfl ca128 (ballot_ct hg6 nd6 (hR.of rfl hR.2.1 hR.2.2.1 hR.2.2.2.1 rfl) hS hR.1 (by simp [Node.wBallots]) hv) ?_
 rintro v7 s7 A7 w7 hle7 (hg7 : Good _ s7 (A7 :: os)) hax7 ⟨rfl, h7, nd7⟩
 refine ⟨trivial, ?_⟩
 refine RL.pd ?_
 refine CW.ret (ret (vs := [_]) ⟨_, _, rfl, rfl, rfl⟩ ?_)
 exact Post.mk hle7 hg7 (hax1.trans (hax2.trans (hax3.trans (hax4.trans (hax5.trans (hax6.trans hax7)))))) ⟨rfl, _, nd7.to rfl⟩
set_option maxRecDepth 100000 in
theorem piece_ct {to frm : Int} (hg : Good w s (A :: os)) (nd : Nd s A p h n) (hR : NRng n) (hS : n.s.log.base.small) (hto : rng .i64 to) (hf : rng .u64 frm) (hb : n.o.msgs.length ≤ 68719476736) :
  Calls Tryz.prog 130 #[ptr p, i64 to, u64 frm] w (MPost w s os p h (.tuple #[]) (n.piece to frm)) := by
 refine enter (l := [ptr p, i64 to, u64 frm]) Tryz.func130 rfl Tryz.ntmps130 rfl ?_
 refine CW.seq (CW.plain ?_)
 refine RL.pp ?_
 refine RL.fi fl109_0 ?_
 refine RL.fi fl44_2 ?_
 refine RL.fi fl33_0 ?_
 refine RL.ls 4 ty30 nd.cells hg ?_
 refine RL.pu ?_
 refine RL.call rfl rfl rfl rfl rfl ca148 (Piece_ct hg hS hR.2.2.2.2.1 hR.2.2.2.2.2 nd.rest.1 nd.rest.2.1 nd.rest.2.2.1 hf) ?_
 rintro v8 s8 B8 w8 hle8 (hg8 : Good _ s8 (B8 :: A :: os)) hax8 ⟨y, rfl, hmk⟩
 have hg8 := hg8.drop
 have nd9 := nd.up hle8
 refine ⟨trivial, ?_⟩
 refine RL.pp ?_
 refine RL.pu ?_
 refine RL.allocN rfl rfl rfl rfl ze56 hg8 ?_
 rintro b10 w10 Q10 (hg10 : Good _ s8 (Q10 :: A :: os)) hax10 hb10
 refine ⟨trivial, ?_⟩
 refine RL.sB (b := b10) (i := 0) (j := 0) rfl rfl rfl ty56 rfl rfl hg10 rfl (hb10) rfl rfl ?_
 rintro w11 Q11 (hg11 : Good _ s8 (Q11 :: A :: os)) hax11 hb11
 refine ⟨trivial, ?_⟩
 refine RL.pd ?_
 refine CW.seq (CW.plain ?_)
 refine RL.pu ?_
 refine RL.pd ?_
 refine CW.cond rfl (fun h20 => ?_) (fun h20 => ?_)
 ·
  refine CW.seq (CW.plain ?_)
  refine RL.pu ?_
  refine RL.fi fl56_2 ?_
  refine RL.sB (b := b10) (i := 0) (j := 2) rfl rfl rfl ty3 rfl rfl hg11 rfl (hb11) rfl rfl ?_
  rintro w12 Q12 (hg12 : Good _ s8 (Q12 :: A :: os)) hax12 hb12
  refine ⟨trivial, ?_⟩
  refine RL.done ?_
  refine CW.plain ?_
  refine RL.pu ?_
  refine RL.ls 0 ty56 hb12 hg12 ?_
  refine RL.call rfl rfl rfl rfl rfl ca113 (post_ct (hg12.front 1 rfl) nd9 hR (m := { (pieceP n.s.log.base frm).1 with to := to }) (y := y) { hmk with to := hto } hb) ?_
  rintro v13 s13 A13 w13 hle13 (hg13 : Good _ s13 (A13 :: Q12 :: os)) hax13 ⟨rfl, ma13, mc13, nd13⟩
  refine ⟨trivial, ?_⟩
  refine RL.done ?_
  refine fall (vs := []) rfl ?_
  refine Post.mk (hle8.trans hle13) (hg13.dropNext) (hax8.trans (hax10.trans (hax11.trans (hax12.trans hax13)))) ⟨rfl, _, _, nd13.to ?_⟩
  simp only [Node.piece, if_pos (show (pieceP n.s.log.base frm).2 = 0 by simpa using h20)]
 ·
  refine CW.skip ?_
  refine fall (vs := []) rfl ?_
  refine Post.mk hle8 ((hg11.front 1 rfl).dropNext) (hax8.trans (hax10.trans hax11)) ⟨rfl, _, _, nd9.to ?_⟩
  simp only [Node.piece, if_neg (show ¬ (pieceP n.s.log.base frm).2 = 0 by simpa using h20)]
theorem Lies.all {α : Type} {R : Res → List Value → α → Prop} {sz c : Nat} {r s : Res} {a : Option Addr} {xs : List α} (h : Lies R sz r s a c xs) : ∀ x ∈ xs, ∃ vs, R s vs x := by
 intro x hx
 rcases h.2.2 with rfl | ⟨ad, rfl, hr⟩
 ·
  cases hx
 ·
  obtain ⟨i, hi, rfl⟩ := List.getElem_of_mem hx
  obtain ⟨vs, _, _, hR⟩ := hr.get (List.getElem?_eq_getElem hi)
  exact ⟨vs, hR⟩
theorem LogAt.entry {r : Res} {l : Log} (hl : LogAt r s l h) {e : Entry} (he : e ∈ l.entries) : rng .u64 e.index ∧ rng .u64 e.term ∧ rng .i64 e.kind := by
 obtain ⟨vs, ea, ec, ea1, ec1, ea2, ec2, _, h1, h2, h3, _⟩ := hl.entries.all e he
 exact ⟨h1, h2, h3⟩
theorem LogAt.term_rng {r : Res} {l : Log} (hl : LogAt r s l h) (i : Int) : rng .u64 (termP l i).1 := by
 unfold termP
 split
 ·
  exact hl.term
 ·
  split
  ·
   rename_i e he
   split
   ·
    exact (hl.entry (List.mem_of_getElem? he)).2.1
   ·
    simp [rng]
  ·
   simp [rng]
theorem LogAt.last_rng {r : Res} {l : Log} (hl : LogAt r s l h) : rng .u64 (lastP l).1 ∧ rng .u64 (lastP l).2 := by
 unfold lastP
 split
 ·
  rename_i e he
  have := hl.entry (List.mem_of_getLast? he)
  exact ⟨this.1, this.2.1⟩
 ·
  exact ⟨hl.index, hl.term⟩
theorem NRng.of_s (hR : NRng n) {m : Node} (e : m.s = n.s) : NRng m := by
 unfold NRng at *; rw [e]; exact hR
theorem Node.piece_s (n : Node) (to frm : Int) : (n.piece to frm).s = n.s := by unfold Node.piece; split <;> rfl
theorem Node.feed_s (n : Node) (q : Peer) : (n.feed q).s = n.s := by
 unfold Node.feed
 split
 ·
  exact Node.piece_s n _ _
 ·
  rfl
theorem Node.feeds_s (l : List Peer) : ∀ n : Node, (n.feeds l).s = n.s := by
 induction l with
 | nil => intro n; rfl
 | cons q l ih => intro n; show ((n.feed q).feeds l).s = _; rw [ih, Node.feed_s]
theorem Node.feeds_snoc (l : List Peer) (q : Peer) : ∀ n : Node, n.feeds (l ++ [q]) = (n.feeds l).feed q := by
 induction l with
 | nil => intro n; rfl
 | cons x l ih => intro n; exact ih (n.feed x)
theorem Node.feed_len (n : Node) (q : Peer) : (n.feed q).o.msgs.length ≤ n.o.msgs.length + 1 := by
 unfold Node.feed
 split
 ·
  unfold Node.piece
  split
  ·
   simp [Node.post, Node.send]
  ·
   omega
 ·
  simp [Node.post, Node.send]
theorem Node.feeds_len (l : List Peer) : ∀ n : Node, (n.feeds l).o.msgs.length ≤ n.o.msgs.length + l.length := by
 induction l with
 | nil => intro n; exact Nat.le_refl _
 | cons q l ih =>
  intro n
  have h1 := ih (n.feed q)
  have h2 := Node.feed_len n q
  show ((n.feed q).feeds l).o.msgs.length ≤ _
  rw [List.length_cons]; omega
theorem Log.small.base {l : Log} (h : l.small) : l.base.small := ⟨h.1, by have := h.2.1; omega⟩
set_option maxRecDepth 100000 in
theorem feed_ct {q : Peer} (hg : Good w s (A :: os)) (nd : Nd s A p h n) (hR : NRng n) (hS : n.s.log.small) (hq1 : rng .i64 q.node) (hq2 : rng .u64 q.next) (hb : n.o.msgs.length ≤ 68719476736) :
  Calls Tryz.prog 103 #[ptr p, .agg #[i64 q.node, u64 q.next, u64 q.mat]] w (MPost w s os p h (.tuple #[]) (n.feed q)) := by
 have hbr := hR.2.2.2.2.1
 have hq2' := hq2
 simp only [rng] at hbr hq2'
 refine enter (l := [ptr p, .agg #[i64 q.node, u64 q.next, u64 q.mat]]) Tryz.func103 rfl Tryz.ntmps103 rfl ?_
 refine CW.seq (CW.plain ?_)
 refine RL.boxN rfl rfl rfl rfl rfl hg ?_
 rintro b14 w14 Q14 (hg14 : Good _ s (Q14 :: A :: os)) hax14 hb14
 refine ⟨trivial, ?_⟩
 refine RL.done ?_
 refine CW.seq ?_
 refine CW.seq ?_
 have hg15 := hg14.drew
 refine CW.draws [(true, 0), (true, 1), (true, 2), (true, 3), (true, 4), (true, 5), (true, 6), (true, 7), (true, 8), (true, 9)] (fun w => At1 b14 _ w ∧ At1 p _ w ∧ True) mixed (by kernel_rfl) (by kernel_rfl) (by kernel_rfl) (by kernel_rfl) (⟨hg15.at1 (by simp) hb14, hg15.at1 (by simp) nd.cells, trivial⟩) ?_
 refine RL.fi fl136_1 ?_
 refine RL.loadT (ad := ⟨b14, 0, none⟩) (j := 1) rfl rfl rfl rfl ty22 rfl (At1.holds) (fun w h => h.1.inn) rfl ?_
 refine RL.pp ?_
 refine RL.fi fl109_0 ?_
 refine RL.fi fl44_2 ?_
 refine RL.fi fl33_0 ?_
 refine RL.fi fl30_0 ?_
 refine RL.loadT (ad := ⟨p, 0, none⟩) (j := 4) rfl rfl rfl rfl ty22 rfl (At1.holds) (fun w h => h.2.1.inn) rfl ?_
 refine RL.pd ?_
 refine CW.cond rfl (fun h17 => ?_) (fun h17 => ?_)
 ·
  refine CW.seq (CW.plain ?_)
  refine RL.pu ?_
  refine RL.fi fl136_0 ?_
  refine RL.lo 0 ty3 hb14 hg15 ?_
  refine RL.call rfl rfl rfl rfl rfl ca130 (piece_ct (hg15.front 1 rfl) nd hR (Log.small.base hS) hq1 (by simp [rng]) hb) ?_
  rintro v16 s16 A16 w16 hle16 (hg16 : Good _ s16 (A16 :: Q14 :: os)) hax16 ⟨rfl, ma16, mc16, nd16⟩
  refine ⟨trivial, ?_⟩
  refine RL.done ?_
  refine CW.ret (ret (vs := []) rfl ?_)
  refine Post.mk hle16 (hg16.dropNext) (hax14.trans ((Aux.drew _).trans hax16)) ⟨rfl, _, _, nd16.to ?_⟩
  simp only [Node.feed, if_pos (decide_t h17)]
 ·
  refine CW.skip ?_
  refine CW.seq ?_
  have hg17 := hg15.drew
  refine CW.draws [(true, 0), (true, 1), (true, 2), (true, 3), (true, 4), (true, 5), (true, 6), (true, 7), (false, 8), (true, 9), (true, 10), (true, 11), (false, 12), (false, 13)] (fun w => At1 p _ w ∧ At1 b14 _ w ∧ True) mixed (by kernel_rfl) (by kernel_rfl) (by kernel_rfl) (by kernel_rfl) (⟨hg17.at1 (by simp) nd.cells, hg17.at1 (by simp) hb14, trivial⟩) ?_
  refine RL.pp ?_
  refine RL.fi fl109_0 ?_
  refine RL.fi fl44_2 ?_
  refine RL.loadsT (ad := ⟨p, 0, none⟩) (j := 4) rfl rfl rfl rfl ty33 rfl (At1.holds) (fun w h => h.1.inn) rfl rfl ?_
  refine RL.fi fl136_1 ?_
  refine RL.loadT (ad := ⟨b14, 0, none⟩) (j := 1) rfl rfl rfl rfl ty22 rfl (At1.holds) (fun w h => h.2.1.inn) rfl ?_
  have hlt := decide_f h17
  refine RL.sub rfl rfl rfl rfl rfl rfl ((by simp only [rng]; omega)) ?_
  refine RL.callV rfl rfl rfl rfl rfl ca115 (Term_ct hg17 (.inr (by simp)) (nd.at_ hR) (by have := hS.2.2.2; omega)) ?_
  rintro v18 w18 (hg18 : Good _ s (Q14 :: A :: os)) hax18 rfl
  refine ⟨⟨hg18.at1 (by simp) nd.cells, hg18.at1 (by simp) hb14, trivial⟩, ?_⟩
  refine RL.pp ?_
  refine RL.pp ?_
  refine RL.pd ?_
  refine CW.seq ?_
  have hg19 := hg18.drew
  refine CW.draws [(true, 0), (true, 1), (true, 2), (true, 3), (true, 4), (true, 5), (true, 6), (false, 7), (true, 8), (true, 9), (true, 10), (false, 11), (false, 12)] (fun w => At1 p _ w ∧ At1 b14 _ w ∧ True) mixed (by kernel_rfl) (by kernel_rfl) (by kernel_rfl) (by kernel_rfl) (⟨hg19.at1 (by simp) nd.cells, hg19.at1 (by simp) hb14, trivial⟩) ?_
  refine RL.pp ?_
  refine RL.fi fl109_0 ?_
  refine RL.fi fl44_2 ?_
  refine RL.loadsT (ad := ⟨p, 0, none⟩) (j := 4) rfl rfl rfl rfl ty33 rfl (At1.holds) (fun w h => h.1.inn) rfl rfl ?_
  refine RL.fi fl136_1 ?_
  refine RL.loadT (ad := ⟨b14, 0, none⟩) (j := 1) rfl rfl rfl rfl ty22 rfl (At1.holds) (fun w h => h.2.1.inn) rfl ?_
  refine RL.call rfl rfl rfl rfl rfl ca131 (Slice_ct hg19 (.inr (by simp)) (nd.at_ hR) hS hq2 (by simp [rng])) ?_
  rintro v20 s20 B20 w20 hle20 (hg20 : Good _ s20 (B20 :: Q14 :: A :: os)) hax20 ⟨a42, c42, rfl, ho42⟩
  have nd21 := nd.up hle20
  obtain ⟨t20, hgl20, hll20, hml20⟩ := hg20.letgo
  have hg20 : Good _ t20 (Q14 :: A :: os) := hgl20
  have nd22 := nd21.up hll20
  have hI42 := ho42.imm REntry.up hll20 hml20
  refine ⟨⟨hg20.at1 (by simp) nd22.cells, hg20.at1 (by simp) hb14, trivial⟩, ?_⟩
  refine RL.pp ?_
  refine RL.pp ?_
  refine RL.pd ?_
  have hg23 := hg20.drew
  refine CW.draws2 [(true, 0), (true, 1), (true, 2), (true, 3), (true, 4), (true, 5), (true, 6), (true, 7), (true, 8), (true, 9), (true, 10), (true, 11), (true, 12), (true, 13), (true, 14)] [(false, 15)] 15 #[true, true, true, true, true, true, true, true, true, true, true, true, true, true, true, false] (fun w => At1 b14 _ w ∧ At1 p _ w ∧ True) mixed (by kernel_rfl) (by kernel_rfl) (by kernel_rfl) (by kernel_rfl) (by kernel_rfl) (⟨hg23.at1 (by simp) hb14, hg23.at1 (by simp) nd22.cells, trivial⟩) ?_
  refine RL.pu ?_
  refine RL.fi fl136_0 ?_
  refine RL.loadT (ad := ⟨b14, 0, none⟩) (j := 0) rfl rfl rfl rfl ty3 rfl (At1.holds) (fun w h => h.1.inn) rfl ?_
  refine RL.fi fl136_1 ?_
  refine RL.loadT (ad := ⟨b14, 0, none⟩) (j := 1) rfl rfl rfl rfl ty22 rfl (At1.holds) (fun w h => h.1.inn) rfl ?_
  refine RL.sub rfl rfl rfl rfl rfl rfl ((by simp only [rng]; omega)) ?_
  refine RL.pp ?_
  refine RL.pp ?_
  refine RL.fi fl109_0 ?_
  refine RL.fi fl44_1 ?_
  refine RL.fi fl24_2 ?_
  refine RL.loadT (ad := ⟨p, 0, none⟩) (j := 3) rfl rfl rfl rfl ty22 rfl (At1.holds) (fun w h => h.2.1.inn) rfl ?_
  refine RL.build rfl rfl rfl rfl ze56 pl56 rfl rfl ?_
  refine RL.done ?_
  refine RL.next trivial ?_
  have htr := (nd22.at_ hR).term_rng (q.next - 1)
  refine RL.call rfl rfl rfl rfl rfl ca113 (post_ct (hg23.front 1 rfl) nd22 hR (m := { Msg.zero with kind := 5, to := q.node, index := q.next - 1, logTerm := (termP n.s.log (q.next - 1)).1, entries := (sliceP n.s.log q.next 8).1, commit := n.s.hard.commit }) (y := { Lay.none with ea := a42, ec := c42 }) { MsgOk.zero _ with kind := by simp [rng], to := hq1, index := by simp only [rng]; omega, logTerm := htr, entries := hI42, commit := hR.2.2.2.1 } hb) ?_
  rintro v24 s24 A24 w24 hle24 (hg24 : Good _ s24 (A24 :: Q14 :: os)) hax24 ⟨rfl, ma24, mc24, nd24⟩
  refine ⟨trivial, ?_⟩
  refine RL.done ?_
  refine fall (vs := []) rfl ?_
  refine Post.mk (hle20.trans (hll20.trans hle24)) (hg24.dropNext) (hax14.trans ((Aux.drew _).trans ((Aux.drew _).trans (hax18.trans ((Aux.drew _).trans (hax20.trans ((Aux.drew _).trans hax24))))))) ⟨rfl, _, _, nd24.to ?_⟩
  simp only [Node.feed, if_neg (decide_f h17)]
set_option maxRecDepth 100000 in
theorem spread_ct (hg : Good w s (A :: os)) (nd : Nd s A p h n) (hR : NRng n) (hS : n.s.log.small) (hb : n.o.msgs.length + n.s.peers.length ≤ 68719476736) :
  Calls Tryz.prog 69 #[ptr p] w (MPost w s os p h (.tuple #[]) n.spread) := by
 have hlen := nd.peers.le_max
 simp only [maxLen] at hlen
 refine enter (l := [ptr p]) Tryz.func69 rfl Tryz.ntmps69 rfl ?_
 refine CW.seq (CW.plain ?_)
 refine RL.pp ?_
 refine RL.fi fl109_0 ?_
 refine RL.fi fl44_6 ?_
 refine RL.lo 13 ty40 nd.cells hg ?_
 refine RL.len rfl rfl rfl rfl sl40 rfl ?_
 refine RL.pd ?_
 refine CW.block ?_
 refine CW.loop (σ := Nat) (fun j E w' => ∃ s' A' ma mc m, ∃ k : Nat, Good w' s' (A' :: os) ∧ Le s s' ∧ Aux w w' ∧ Nd s' A' p { h with ma := ma, mc := mc } m ∧ m = n.feeds (n.s.peers.take k) ∧ E = [(0, ptr p), (8, .slice h.pa n.s.peers.length h.pc), (9, i64 n.s.peers.length), (10, i64 k)] ∧ k + j = n.s.peers.length) (fun j => j) n.s.peers.length [(0, ptr p), (8, .slice h.pa n.s.peers.length h.pc), (9, i64 n.s.peers.length), (10, i64 0)] ⟨rfl, rfl, rfl, rfl, trivial⟩ ⟨s, A, h.ma, h.mc, n, 0, hg, Le.refl _, (Aux.refl _), nd, by simp [Node.feeds], rfl, by omega⟩ ?_
 rintro j E wL ⟨sL, AL, maL, mcL, m, k, hgL, hleL, haxL, ndL, hm, rfl, hk⟩
 have hms : m.s = n.s := by rw [hm]; exact Node.feeds_s _ _
 have hRm := hR.of_s hms
 have hml : m.o.msgs.length ≤ n.o.msgs.length + k := by have := Node.feeds_len (n.s.peers.take k) n; rw [← hm, List.length_take] at this; omega
 have hpL : Lies RPeer 3 AL sL h.pa h.pc n.s.peers := by have := ndL.peers.lies; rwa [hms] at this
 refine CW.seq (CW.plain ?_)
 refine RL.pd ?_
 refine CW.seq ?_
 refine CW.cond rfl (fun h11 => ?_) (fun h11 => ?_)
 ·
  refine CW.skip ?_
  refine CW.seq ?_
  refine CW.block ?_
  refine CW.seq (CW.plain ?_)
  have hlt : k < n.s.peers.length := by have := decide_t h11; omega
  refine RL.idxL rfl rfl rfl rfl sl40 rfl rfl hpL (by omega) (by omega) ?_
  rintro q vs hvl hH hE
  obtain ⟨rfl, er1, er2, er3⟩ := hE
  refine RL.loads (j := 0) (us := _) rfl rfl rfl rfl ty136 rfl (hH) (hgL.mem (by simp)) rfl rfl ?_
  refine RL.allocN rfl rfl rfl rfl ze136 hgL ?_
  rintro b25 w25 Q25 (hg25 : Good _ sL (Q25 :: AL :: os)) hax25 hb25
  refine ⟨trivial, ?_⟩
  refine RL.sB (b := b25) (i := 0) (j := 0) rfl rfl rfl ty136 rfl rfl hg25 rfl (hb25) rfl rfl ?_
  rintro w26 Q26 (hg26 : Good _ sL (Q26 :: AL :: os)) hax26 hb26
  refine ⟨trivial, ?_⟩
  refine RL.done ?_
  refine CW.plain ?_
  refine RL.pu ?_
  refine RL.ls 0 ty136 hb26 hg26 ?_
  refine RL.call rfl rfl rfl rfl rfl ca103 (feed_ct (hg26.front 1 rfl) ndL hRm (by rw [hms]; exact hS) er1 er2 (by omega)) ?_
  rintro v27 s27 A27 w27 hle27 (hg27 : Good _ s27 (A27 :: Q26 :: os)) hax27 ⟨rfl, ma27, mc27, nd27⟩
  refine ⟨trivial, ?_⟩
  refine RL.done ?_
  refine CW.plain ?_
  refine RL.add rfl rfl rfl rfl rfl rfl ((by simp only [rng]; omega)) ?_
  refine RL.pd ?_
  cases j with
  | zero => omega
  | succ j =>
   refine fun ac ha => ⟨j, [(0, ptr p), (8, .slice h.pa n.s.peers.length h.pc), (9, i64 n.s.peers.length), (10, i64 ((k : Int) + 1))], ha.sub ⟨rfl, rfl, rfl, rfl, trivial⟩, ⟨_, _, _, _, _, k + 1, (hg27.dropNext), (hleL.trans hle27), (haxL.trans (hax25.trans (hax26.trans hax27))), nd27, ?_, rfl, by omega⟩, Nat.lt_succ_self j⟩
   rw [List.take_succ_eq_append_getElem hlt, Node.feeds_snoc, ← hm]; rfl
 ·
  refine CW.exit ?_
  refine fall (vs := []) rfl ?_
  have hke : k = n.s.peers.length := by have := decide_f h11; omega
  refine Post.mk hleL hgL haxL ⟨rfl, _, _, ndL.to ?_⟩
  rw [hm, hke, List.take_length]; rfl
end
end Go.Lw

/-
 A node by the program: question, meet.
-/
namespace Go.Lw
open Go.Proofs
attribute [local irreducible] RL RA
section
variable {w : World} {s A : Res} {os : List Res} {p : Nat} {h : Hd} {n : Node}
def Node.asks (n : Node) (kind term to : Int) : Msg := { Msg.zero with kind := kind, frm := n.s.id, to := to, term := term, index := (lastP n.s.log).1, logTerm := (lastP n.s.log).2 }
theorem questions_yes {kind term : Int} {l : List Int} {v : Int} (hv : v ≠ n.s.id) : n.questions kind term (l ++ [v]) = n.questions kind term l ++ [n.asks kind term v] := by
 simp [Node.questions, Node.asks, hv]
theorem questions_no {kind term : Int} {l : List Int} {v : Int} (hv : v = n.s.id) : n.questions kind term (l ++ [v]) = n.questions kind term l := by
 simp [Node.questions, hv]
theorem questions_len (kind term : Int) (l : List Int) : (n.questions kind term l).length ≤ l.length := by
 simp only [Node.questions, List.length_map]; exact List.length_filter_le _ _
theorem asks_ok {kind term to : Int} (nd : Nd s A p h n) (hR : NRng n) (hk : rng .i64 kind) (ht : rng .u64 term) (hto : rng .i64 to) (s' : Res) : MsgOk s' (n.asks kind term to) Lay.none := by
 have h1 := (nd.at_ hR).last_rng
 exact { MsgOk.zero s' with kind := hk, frm := hR.1, to := hto, term := ht, index := h1.1, logTerm := h1.2 }
set_option maxRecDepth 100000 in
theorem question_ct {kind term : Int} (hg : Good w s (A :: os)) (nd : Nd s A p h n) (hR : NRng n) (hS : n.s.log.small) (hk : rng .i64 kind) (ht : rng .u64 term) (hv : n.voters.length ≤ 1073741824) (hb : n.o.msgs.length ≤ 34359738368) :
  Calls Tryz.prog 102 #[ptr p, i64 kind, u64 term] w (MPost w s os p h (.tuple #[]) (n.question kind term)) := by
 refine enter (l := [ptr p, i64 kind, u64 term]) Tryz.func102 rfl Tryz.ntmps102 rfl ?_
 refine CW.seq (CW.plain ?_)
 refine RL.pp ?_
 refine RL.fi fl109_0 ?_
 refine RL.fi fl44_2 ?_
 refine RL.ls 4 ty33 nd.cells hg ?_
 refine RL.callV rfl rfl rfl rfl rfl ca31 (Last_ct hg (.inr (by simp)) (nd.at_ hR)) ?_
 rintro v1 w1 (hg1 : Good _ s (A :: os)) hax1 rfl
 refine ⟨trivial, ?_⟩
 refine RL.pp ?_
 refine RL.pp ?_
 refine RL.pd ?_
 refine CW.seq (CW.plain ?_)
 refine RL.pu ?_
 refine RL.call rfl rfl rfl rfl rfl ca99 (voters_ct hg1 nd hR hS) ?_
 rintro v2 s2 B2 w2 hle2 (hg2 : Good _ s2 (B2 :: A :: os)) hax2 ⟨va, vc, rfl, hvo⟩
 have hg2 := hg2.drop
 have nd3 := nd.up hle2
 refine ⟨trivial, ?_⟩
 refine RL.len rfl rfl rfl rfl sl25 rfl ?_
 refine RL.pd ?_
 refine CW.block ?_
 refine CW.loop (σ := Nat) (fun j E w' => ∃ A' ma mc m, ∃ k : Nat, Good w' s2 (A' :: os) ∧ Aux w w' ∧ Nd s2 A' p { h with ma := ma, mc := mc } m ∧ m = { n with o := { n.o with msgs := n.o.msgs ++ n.questions kind term (n.voters.take k) } } ∧ E = [(0, ptr p), (1, i64 kind), (2, u64 term), (6, u64 (lastP n.s.log).1), (7, u64 (lastP n.s.log).2), (20, .slice va n.voters.length vc), (21, i64 n.voters.length), (22, i64 k)] ∧ k + j = n.voters.length) (fun j => j) n.voters.length
  [(0, ptr p), (1, i64 kind), (2, u64 term), (6, u64 (lastP n.s.log).1), (7, u64 (lastP n.s.log).2), (20, .slice va n.voters.length vc), (21, i64 n.voters.length), (22, i64 0)] ⟨rfl, rfl, rfl, rfl, rfl, rfl, rfl, rfl, trivial⟩ ⟨A, h.ma, h.mc, n, 0, hg2, (hax1.trans hax2), nd3, by simp [Node.questions], rfl, by omega⟩ ?_
 rintro j E wL ⟨AL, maL, mcL, m, k, hgL, haxL, ndL, hm, rfl, hk'⟩
 have hid : m.s.id = n.s.id := by rw [hm]
 have hml : m.o.msgs.length ≤ n.o.msgs.length + k := by rw [hm]; simp only [List.length_append]; have := questions_len (n := n) kind term (n.voters.take k); rw [List.length_take] at this; omega
 refine CW.seq (CW.plain ?_)
 refine RL.pd ?_
 refine CW.seq ?_
 refine CW.cond rfl (fun h23 => ?_) (fun h23 => ?_)
 ·
  refine CW.skip ?_
  refine CW.seq ?_
  refine CW.block ?_
  refine CW.seq (CW.plain ?_)
  have hlt : k < n.voters.length := by have := decide_t h23; omega
  refine RL.idx rfl rfl rfl rfl sl25 rfl rfl hvo (by omega) (by omega) ?_
  rintro q vs hvl hH ⟨rfl, er1⟩
  refine RL.load (j := 0) rfl rfl rfl rfl ty3 rfl (hH) (hgL.sh) rfl ?_
  refine RL.pd ?_
  refine CW.seq (CW.plain ?_)
  refine RL.pp ?_
  refine RL.pu ?_
  refine RL.fi fl109_0 ?_
  refine RL.fi fl44_0 ?_
  refine RL.lo 0 ty3 ndL.cells hgL ?_
  refine RL.pd ?_
  refine CW.cond rfl (fun h32 => ?_) (fun h32 => ?_)
  ·
   have hg4 := hgL.drew
   refine CW.draws2 [(true, 0), (true, 1), (true, 2), (true, 3), (true, 4), (true, 5), (true, 6), (true, 7), (true, 8), (true, 9), (true, 10), (true, 11), (true, 12), (true, 13), (true, 14), (true, 15), (true, 16), (false, 17), (false, 18), (true, 19), (true, 20), (true, 21)] [(false, 22)] 22 #[true, true, true, true, true, true, true, true, true, true, true, true, true, true, true, true, true, true, true, true, true, true, false] (fun w => At1 p _ w ∧ True) mixed (by kernel_rfl) (by kernel_rfl) (by kernel_rfl) (by kernel_rfl) (by kernel_rfl) (⟨hg4.at1 (by simp) ndL.cells, trivial⟩) ?_
   refine RL.pp ?_
   refine RL.pu ?_
   refine RL.fi fl109_1 ?_
   refine RL.fi fl50_4 ?_
   refine RL.loadT (ad := ⟨p, 0, none⟩) (j := 24) rfl rfl rfl rfl ty48 rfl (At1.holds) (fun w h => h.1.inn) rfl ?_
   refine RL.pp ?_
   refine RL.pu ?_
   refine RL.fi fl109_0 ?_
   refine RL.fi fl44_0 ?_
   refine RL.loadT (ad := ⟨p, 0, none⟩) (j := 0) rfl rfl rfl rfl ty3 rfl (At1.holds) (fun w h => h.1.inn) rfl ?_
   refine RL.pp ?_
   refine RL.pp ?_
   refine RL.build rfl rfl rfl rfl ze56 pl56 rfl rfl ?_
   refine RL.buildN rfl rfl rfl rfl sl48 ze56 rfl rfl rfl rfl hg4 ?_
   rintro b5 w5 Q5 (hg5 : Good _ s2 (Q5 :: AL :: os)) hax5 hb5
   refine ⟨⟨hg5.at1 (by simp) ndL.cells, trivial⟩, ?_⟩
   refine RL.append2 (i := 1) (ys := [n.asks kind term n.voters[k]]) rfl rfl rfl rfl sl48 ze56 rfl RMsg.one rfl rfl hg5 rfl ndL.msgs (one_src sl48 rfl hb5 (hg5.mem (by simp))) (Chunks.single rfl ⟨Lay.none, by rw [hid]; rfl, asks_ok nd hR hk ht er1 _⟩) ((by simp only [List.length_singleton]; omega)) (by omega) ?_
   rintro a6 c6 A6 w6 (hg6 : Good _ s2 (Q5 :: A6 :: os)) ho6 hax6 hk6 hn6
   obtain ⟨hp6, hr6⟩ := ndL.appMsgs ho6 hk6
   refine ⟨⟨hg6.at1 (by simp) hp6, trivial⟩, ?_⟩
   refine RL.pu ?_
   refine RL.fi fl109_1 ?_
   refine RL.fi fl50_4 ?_
   refine RL.done ?_
   refine RL.next trivial ?_
   refine RL.storeN (p := p) (i := 1) (j := 24) rfl rfl rfl ty48 rfl rfl hg6 rfl (hp6) (hr6) rfl (by first | (simp [Value.cells, Value.oneCell']; done) | simp [Value.cells, Value.oneCell', putL]) (by first | exact Nat.le_of_ble_eq_true rfl | (simp; done) | (simp; omega) | omega) rfl ?_
   rintro w7 A7 (hg7 : Good _ s2 (Q5 :: A7 :: os)) hax7 nd7
   refine ⟨trivial, ?_⟩
   refine RL.done ?_
   refine CW.plain ?_
   refine RL.add rfl rfl rfl rfl rfl rfl ((by simp only [rng]; omega)) ?_
   refine RL.pd ?_
   have hne : n.voters[k] ≠ n.s.id := by rw [hid] at h32; simpa using h32
   cases j with
   | zero => omega
   | succ j =>
    refine fun ac ha => ⟨j, [(0, ptr p), (1, i64 kind), (2, u64 term), (6, u64 (lastP n.s.log).1), (7, u64 (lastP n.s.log).2), (20, .slice va n.voters.length vc), (21, i64 n.voters.length), (22, i64 ((k : Int) + 1))], ha.sub ⟨rfl, rfl, rfl, rfl, rfl, rfl, rfl, rfl, trivial⟩, ⟨_, _, _, _, k + 1, ((hg7.front 1 rfl).dropNext), (haxL.trans ((Aux.drew _).trans (hax5.trans (hax6.trans hax7)))), nd7, ?_, rfl, by omega⟩, Nat.lt_succ_self j⟩
    rw [List.take_succ_eq_append_getElem hlt, questions_yes hne, hm]; simp [Node.wMsgs]
  ·
   refine CW.skip (CW.plain ?_)
   refine RL.add rfl rfl rfl rfl rfl rfl ((by simp only [rng]; omega)) ?_
   refine RL.pd ?_
   have hne : n.voters[k] = n.s.id := by rw [hid] at h32; simpa using h32
   cases j with
   | zero => omega
   | succ j =>
    refine fun ac ha => ⟨j, [(0, ptr p), (1, i64 kind), (2, u64 term), (6, u64 (lastP n.s.log).1), (7, u64 (lastP n.s.log).2), (20, .slice va n.voters.length vc), (21, i64 n.voters.length), (22, i64 ((k : Int) + 1))], ha.sub ⟨rfl, rfl, rfl, rfl, rfl, rfl, rfl, rfl, trivial⟩, ⟨_, _, _, _, k + 1, hgL, haxL, ndL, ?_, rfl, by omega⟩, Nat.lt_succ_self j⟩
    rw [List.take_succ_eq_append_getElem hlt, questions_no hne, hm]
 ·
  refine CW.exit ?_
  refine fall (vs := []) rfl ?_
  have hke : k = n.voters.length := by have := decide_f h23; omega
  refine Post.mk hle2 hgL haxL ⟨rfl, _, _, ndL.to ?_⟩
  rw [hm, hke, List.take_length]; rfl
theorem Good.dropAt {w : World} {s : Res} : ∀ {os : List Res} (k : Nat), Good w s os → Good w s (os.eraseIdx k)
 | [], _, h => h
 | _ :: _, 0, h => h.drop
 | r :: os, k + 1, ⟨h1, h2, h3, h4⟩ => ⟨h1, h2, fun q hq => h3 q (List.mem_of_mem_eraseIdx hq), Good.dropAt k h4⟩
theorem Good.split {A : Res} {g : Nat} {x : Obj} (hg : Good w s (A :: os)) (hx : A g = some x) : Good w s ((fun b => if b = g then none else A b) :: Res.one g x :: os) := by
 obtain ⟨h1, h2, h3, h4⟩ := hg
 have hne : A g ≠ none := by rw [hx]; simp
 have hl : Le (fun b => if b = g then none else A b) A := fun b y hy => by
  by_cases hb : b = g
  ·
   simp [hb] at hy
  ·
   simpa [hb] using hy
 have hl2 : Le (Res.one g x) A := fun b y hy => by
  simp only [Res.one] at hy
  split at hy
  ·
   rename_i e; cases hy; rw [e]; exact hx
  ·
   cases hy
 refine ⟨h1.le hl, h2.le hl, fun q hq => ?_, h1.le hl2, h2.le hl2, fun q hq => (h3 q hq).le hl2, h4⟩
 rcases List.mem_cons.1 hq with rfl | hq
 ·
  intro b hb
  simp only [Res.one]
  by_cases hbg : b = g
  ·
   simp [hbg] at hb
  ·
   simp [hbg]
 ·
  exact (h3 q hq).le hl
theorem Nd.splitPeers (hg : Good w s (A :: os)) (nd : Nd s A p h n) : ∃ A1 W, Good w s (A1 :: W :: os) ∧ A1 p = some (.cells (nodeV n h).toArray 109 (0, 0)) ∧ NRest s A1 { h with pa := none, pc := 0 } (n.wPeers []) ∧ Own RPeer 3 136 s W h.pa h.pc n.s.peers := by
 have hp := nd.peers
 rcases hp with ⟨h1, h2, h3⟩ | ⟨g, cs, hpa, hA, h4, h5, h6, h7⟩
 ·
  exact ⟨A, Res.nil, hg.nil.front 1 rfl, nd.cells, nd.rest.noPeers, .inl ⟨h1, h2, h3⟩⟩
 ·
  have hb := nd.peers
  have hk : ∀ k, A k ≠ none → (∀ ad, h.pa = some ad → ad.block ≠ k) → (fun b => if b = g then none else A b) k = A k := fun k _ hk => by
   have : k ≠ g := fun e => hk _ hpa e.symm
   simp [this]
  obtain ⟨a, b, c, d, e, f, g', i, j, l⟩ := nd.rest
  refine ⟨_, _, Good.split hg hA, (nd.apart hb (by decide) hk).trans nd.cells, ⟨a, b, c, d.kept (hb.dj d (by decide)) hk, e.kept (hb.dj e (by decide)) hk, Own.nil _ _ _ _ _, g', i.kept (hb.dj i (by decide)) hk, j.kept (hb.dj j (by decide)) hk, l⟩, .inr ⟨g, cs, hpa, if_pos rfl, h4, h5, h6, h7⟩⟩
theorem find_at' {α : Type} {q : α → Bool} {xs : List α} (h0 : 0 ≤ idxP q xs) : xs.find? q = xs[(idxP q xs).toNat]? := by
 cases hf : xs.findIdx? q with
 | none => unfold idxP at h0; rw [hf] at h0; simp at h0
 | some k =>
  have hk : idxP q xs = k := by unfold idxP; rw [hf]
  rw [List.findIdx?_eq_some_iff_getElem] at hf
  obtain ⟨hkl, hp, hn⟩ := hf
  rw [hk, Int.toNat_natCast, List.getElem?_eq_getElem hkl, List.find?_eq_some_iff_getElem]
  exact ⟨hp, k, hkl, rfl, fun j hj => by simpa using hn j hj⟩
theorem find_at {α : Type} {q : α → Bool} {xs : List α} (h0 : 0 ≤ idxP q xs) (hl : (idxP q xs).toNat < xs.length) : xs.find? q = some xs[(idxP q xs).toNat] := by
 rw [find_at' h0, List.getElem?_eq_getElem hl]
theorem find_no {α : Type} {q : α → Bool} {xs : List α} (h0 : idxP q xs < 0) : xs.find? q = none := by
 unfold idxP at h0
 cases hf : xs.findIdx? q with
 | none => rw [List.findIdx?_eq_none_iff] at hf; rw [List.find?_eq_none]; intro x hx; simp [hf x hx]
 | some k => rw [hf] at h0; simp at h0; omega
theorem meet1_ct {q : Peer} {other : Int} {B : Res} {b : Nat} {vs : List Value} (hg : Good w s os) (hq : RPeer s vs q) (hB : B ∈ os) (c1 : B b = some (.cells #[i64 other] 3 (0, 0))) :
  Calls Tryz.prog 144 #[.agg vs.toArray, ptr b] w (PostV w s os fun r => r = .bool (decide (q.node = other))) := by
 obtain ⟨rfl, _⟩ := hq
 refine enter (l := [.agg #[i64 q.node, u64 q.next, u64 q.mat], ptr b]) Tryz.func144 rfl Tryz.ntmps144 rfl ?_
 refine CW.seq (CW.plain ?_)
 refine RL.boxN rfl rfl rfl rfl rfl hg ?_
 rintro b8 w8 Q8 (hg8 : Good _ s (Q8 :: os)) hax8 hb8
 refine ⟨trivial, ?_⟩
 refine RL.pd ?_
 refine CW.seq (CW.plain ?_)
 refine RL.fi fl136_0 ?_
 refine RL.lo 0 ty3 hb8 hg8 ?_
 refine RL.load (j := 0) rfl rfl rfl rfl ty3 rfl (Holds.of c1) (hg8.mem (by simp [hB])) rfl ?_
 refine RL.pu ?_
 refine RL.pd ?_
 refine CW.ret (ret (vs := [_]) ⟨_, _, rfl, rfl, rfl⟩ ?_)
 exact PostV.mk (hg8.drop) hax8 rfl
set_option maxRecDepth 100000 in
set_option maxHeartbeats 1000000 in
theorem meet_ct {next : Int} (hg : Good w s (A :: os)) (nd : Nd s A p h n) (hR : NRng n) (hS : n.s.log.small) (hn : rng .u64 next) (hcf : (confP n.s.log).1.fits) (hol : (othersP (confP n.s.log).1 n.s.id).length ≤ 4294967296) :
  Calls Tryz.prog 117 #[ptr p, u64 next] w (NPost w s os p (.tuple #[]) (n.meet next)) := by
 generalize hO : othersP (confP n.s.log).1 n.s.id = O at hol
 refine enter (l := [ptr p, u64 next]) Tryz.func117 rfl Tryz.ntmps117 rfl ?_
 refine CW.seq (CW.plain ?_)
 refine RL.pp ?_
 refine RL.fi fl109_0 ?_
 refine RL.fi fl44_2 ?_
 refine RL.ls 4 ty33 nd.cells hg ?_
 refine RL.call rfl rfl rfl rfl rfl ca30 (Conf_ct hg (.inr (by simp)) (nd.at_ hR) hS) ?_
 rintro v9 s9 B9 w9 hle9 (hg9 : Good _ s9 (B9 :: A :: os)) hax9 ⟨vs17, rfl, hC⟩
 have hg9 := hg9.drop
 have nd10 := nd.up hle9
 have hC0 := hC
 obtain ⟨va, vc, la, lc, rfl, hva, hla⟩ := hC
 refine ⟨trivial, ?_⟩
 refine RL.pp ?_
 refine RL.pu ?_
 refine RL.allocN rfl rfl rfl rfl ze27 hg9 ?_
 rintro b11 w11 Q11 (hg11 : Good _ s9 (Q11 :: A :: os)) hax11 hb11
 refine ⟨trivial, ?_⟩
 refine RL.sB (b := b11) (i := 0) (j := 0) rfl rfl rfl ty27 rfl rfl hg11 rfl (hb11) rfl rfl ?_
 rintro w12 Q12 (hg12 : Good _ s9 (Q12 :: A :: os)) hax12 hb12
 refine ⟨trivial, ?_⟩
 refine RL.pd ?_
 refine CW.seq (CW.plain ?_)
 refine RL.pp ?_
 refine RL.fi fl109_0 ?_
 refine RL.fi fl44_6 ?_
 refine RL.lo 13 ty40 nd10.cells hg12 ?_
 refine RL.pd ?_
 refine CW.seq (CW.plain ?_)
 obtain ⟨A1, W1, hgS, hpS, hrS, hW⟩ := Nd.splitPeers (hg12.front 1 rfl) nd10
 refine RL.pp ?_
 refine RL.fi fl109_0 ?_
 refine RL.fi fl44_6 ?_
 refine RL.storeN (p := p) (i := 0) (j := 13) rfl rfl rfl ty40 rfl rfl hgS rfl (hpS) (hrS) rfl (by first | (simp [Value.cells, Value.oneCell']; done) | simp [Value.cells, Value.oneCell', putL]) (by first | exact Nat.le_of_ble_eq_true rfl | (simp; done) | (simp; omega) | omega) rfl ?_
 rintro w13 A13 (hg13 : Good _ s9 (A13 :: W1 :: Q12 :: os)) hax13 nd13
 refine ⟨trivial, ?_⟩
 refine RL.done ?_
 refine CW.seq ?_
 have hg14 := hg13.drew
 refine CW.draws [(true, 0), (true, 1), (true, 2), (true, 3), (true, 4), (true, 5), (true, 8), (false, 6), (true, 7)] (fun w => At1 b11 _ w ∧ At1 p _ w ∧ True) mixed (by kernel_rfl) (by kernel_rfl) (by kernel_rfl) (by kernel_rfl) (⟨hg14.at1 (by simp) hb12, hg14.at1 (by simp) nd13.cells, trivial⟩) ?_
 refine RL.loadsT (ad := ⟨b11, 0, none⟩) (j := 0) rfl rfl rfl rfl ty27 rfl (At1.holds) (fun w h => h.1.inn) rfl rfl ?_
 refine RL.pp ?_
 refine RL.fi fl109_0 ?_
 refine RL.fi fl44_0 ?_
 refine RL.loadT (ad := ⟨p, 0, none⟩) (j := 0) rfl rfl rfl rfl ty3 rfl (At1.holds) (fun w h => h.2.1.inn) rfl ?_
 refine RL.pu ?_
 refine RL.call rfl rfl rfl rfl rfl ca142 (Others_ct hg14 hC0 hcf) ?_
 rintro v15 s15 B15 w15 hle15 (hg15 : Good _ s15 (B15 :: A13 :: W1 :: Q12 :: os)) hax15 ⟨a35, c35, rfl, ho35⟩
 have nd16 := nd13.up hle15
 obtain ⟨t15, hgl15, hll15, hml15⟩ := hg15.letgo
 have hg15 : Good _ t15 (A13 :: W1 :: Q12 :: os) := hgl15
 have nd17 := nd16.up hll15
 have hI35 := ho35.imm (RInt.up _) hll15 hml15
 rw [show othersP (confP n.s.log).1 (n.wPeers []).s.id = O from hO] at hI35 ⊢
 have hW := hW.up RPeer.up (hle15.trans hll15)
 refine ⟨⟨hg15.at1 (by simp) hb12, hg15.at1 (by simp) nd17.cells, trivial⟩, ?_⟩
 refine RL.len rfl rfl rfl rfl sl25 rfl ?_
 refine RL.done ?_
 refine CW.block ?_
 refine CW.loop (σ := Nat) (fun j E w' => ∃ A' pa pc m, ∃ k : Nat, Good w' t15 (A' :: W1 :: Q12 :: os) ∧ Aux w w' ∧ Nd t15 A' p { h with pa := pa, pc := pc } m ∧ m = n.wPeers ((O.take k).map fun o => Node.peerOf n.s.peers o next) ∧ E = [(0, ptr p), (1, u64 next), (6, .slice h.pa n.s.peers.length h.pc), (35, .slice a35 O.length c35), (36, i64 O.length), (37, i64 k)] ∧ k + j = O.length) (fun j => j) O.length
  [(0, ptr p), (1, u64 next), (6, .slice h.pa n.s.peers.length h.pc), (35, .slice a35 O.length c35), (36, i64 O.length), (37, i64 0)] ⟨rfl, rfl, rfl, rfl, rfl, rfl, trivial⟩ ⟨_, _, _, _, 0, hg15, (hax9.trans (hax11.trans (hax12.trans (hax13.trans ((Aux.drew _).trans hax15))))), nd17, by simp, rfl, by omega⟩ ?_
 rintro j E wL ⟨AL, paL, pcL, m, k, hgL, haxL, ndL, hm, rfl, hk⟩
 have hpl : m.s.peers.length = k := by rw [hm]; simp only [Node.wPeers, List.length_map, List.length_take]; omega
 refine CW.seq (CW.plain ?_)
 refine RL.pd ?_
 refine CW.seq ?_
 refine CW.cond rfl (fun h38 => ?_) (fun h38 => ?_)
 ·
  refine CW.skip ?_
  refine CW.seq ?_
  refine CW.block ?_
  refine CW.seq (CW.plain ?_)
  have hlt : k < O.length := by have := decide_t h38; omega
  refine RL.idx rfl rfl rfl rfl sl25 rfl rfl hI35 (by omega) (by omega) ?_
  rintro q vs hvl hH ⟨rfl, er1⟩
  refine RL.load (j := 0) rfl rfl rfl rfl ty3 rfl (hH) (hgL.sh) rfl ?_
  refine RL.allocN rfl rfl rfl rfl ze3 hgL ?_
  rintro b18 w18 Q18 (hg18 : Good _ t15 (Q18 :: AL :: W1 :: Q12 :: os)) hax18 hb18
  refine ⟨trivial, ?_⟩
  refine RL.sB (b := b18) (i := 0) (j := 0) rfl rfl rfl ty3 rfl rfl hg18 rfl (hb18) rfl rfl ?_
  rintro w19 Q19 (hg19 : Good _ t15 (Q19 :: AL :: W1 :: Q12 :: os)) hax19 hb19
  refine ⟨trivial, ?_⟩
  refine RL.done ?_
  refine CW.seq (CW.plain ?_)
  refine RL.lo 0 ty3 hb19 hg19 ?_
  refine RL.pu ?_
  refine RL.build rfl rfl rfl rfl ze136 pl136 rfl rfl ?_
  refine RL.allocN rfl rfl rfl rfl ze136 hg19 ?_
  rintro b20 w20 Q20 (hg20 : Good _ t15 (Q20 :: Q19 :: AL :: W1 :: Q12 :: os)) hax20 hb20
  refine ⟨trivial, ?_⟩
  refine RL.sB (b := b20) (i := 0) (j := 0) rfl rfl rfl ty136 rfl rfl hg20 rfl (hb20) rfl rfl ?_
  rintro w21 Q21 (hg21 : Good _ t15 (Q21 :: Q19 :: AL :: W1 :: Q12 :: os)) hax21 hb21
  refine ⟨trivial, ?_⟩
  refine RL.done ?_
  refine CW.seq ?_
  refine CW.seq (CW.plain ?_)
  refine RL.pu ?_
  refine RL.makeF rfl rfl rfl rfl rfl ?_
  refine RL.callV rfl rfl rfl rfl rfl ca143 (IndexPe_ct (p := fun q => decide (q.node = O[k])) hg21 (r := W1) (.inr (by simp)) hW.lies rfl (fun x _ vs hE w' hg' => meet1_ct hg' hE (B := Q19) (by simp) hb19)) ?_
  rintro v22 w22 (hg22 : Good _ t15 (Q21 :: Q19 :: AL :: W1 :: Q12 :: os)) hax22 rfl
  refine ⟨trivial, ?_⟩
  refine RL.pd ?_
  refine CW.seq (CW.plain ?_)
  refine RL.pu ?_
  refine RL.pd ?_
  refine CW.cond rfl (fun h48 => ?_) (fun h48 => ?_)
  ·
   have h0 : 0 ≤ idxP (fun q : Peer => decide (q.node = O[k])) n.s.peers := decide_t h48
   have h1 : idxP (fun q : Peer => decide (q.node = O[k])) n.s.peers < n.s.peers.length := by rcases idxP_rng (fun q : Peer => decide (q.node = O[k])) n.s.peers with h | h <;> omega
   have hpo : Node.peerOf n.s.peers O[k] next = n.s.peers[(idxP (fun q : Peer => decide (q.node = O[k])) n.s.peers).toNat]'(by omega) := by simp only [Node.peerOf, find_at h0 (by omega), Option.getD_some]
   refine CW.plain ?_
   refine RL.pp ?_
   refine RL.idxL rfl rfl rfl rfl sl40 rfl rfl hW.lies h0 h1 ?_
   rintro q2 vs2 hvl2 hH2 ⟨rfl, fr1⟩
   have hpe : ∀ s, RPeer s [i64 _, u64 _, u64 _] _ := fun s => ⟨rfl, fr1⟩
   refine RL.loads (j := 0) (us := _) rfl rfl rfl rfl ty136 rfl (hH2) (hg22.mem (by simp)) rfl rfl ?_
   refine RL.sB (b := b20) (i := 0) (j := 0) rfl rfl rfl ty136 rfl rfl hg22 rfl (hb21) rfl rfl ?_
   rintro w23 Q23 (hg23 : Good _ t15 (Q23 :: Q19 :: AL :: W1 :: Q12 :: os)) hax23 hb23
   refine ⟨trivial, ?_⟩
   refine RL.done ?_
   have hg24 := hg23.drew
   refine CW.draws2 [(true, 0), (true, 1), (true, 2), (true, 3), (true, 4), (true, 5), (true, 6), (false, 7), (false, 8), (true, 9), (true, 10), (true, 11)] [(false, 12)] 12 #[true, true, true, true, true, true, true, true, true, true, true, true, false] (fun w => At1 p _ w ∧ At1 b20 _ w ∧ True) mixed (by kernel_rfl) (by kernel_rfl) (by kernel_rfl) (by kernel_rfl) (by kernel_rfl) (⟨hg24.at1 (by simp) ndL.cells, hg24.at1 (by simp) hb23, trivial⟩) ?_
   refine RL.pp ?_
   refine RL.pu ?_
   refine RL.fi fl109_0 ?_
   refine RL.fi fl44_6 ?_
   refine RL.loadT (ad := ⟨p, 0, none⟩) (j := 13) rfl rfl rfl rfl ty40 rfl (At1.holds) (fun w h => h.1.inn) rfl ?_
   refine RL.loadsT (ad := ⟨b20, 0, none⟩) (j := 0) rfl rfl rfl rfl ty136 rfl (At1.holds) (fun w h => h.2.1.inn) rfl rfl ?_
   refine RL.buildN rfl rfl rfl rfl sl40 ze136 rfl rfl rfl rfl hg24 ?_
   rintro b25 w25 Q25 (hg25 : Good _ t15 (Q25 :: Q23 :: Q19 :: AL :: W1 :: Q12 :: os)) hax25 hb25
   refine ⟨⟨hg25.at1 (by simp) ndL.cells, hg25.at1 (by simp) hb23, trivial⟩, ?_⟩
   refine RL.append2 (i := 3) (ys := [_]) rfl rfl rfl rfl sl40 ze136 rfl RPeer.one rfl rfl hg25 rfl ndL.peers (one_src sl40 rfl hb25 (hg25.mem (by simp))) (Chunks.single rfl (hpe _)) ((by simp only [List.length_singleton]; omega)) (by omega) ?_
   rintro a26 c26 A26 w26 (hg26 : Good _ t15 (Q25 :: Q23 :: Q19 :: A26 :: W1 :: Q12 :: os)) ho26 hax26 hk26 hn26
   obtain ⟨hp26, hr26⟩ := ndL.appPeers ho26 hk26
   refine ⟨⟨hg26.at1 (by simp) hp26, hg26.at1 (by simp) hb23, trivial⟩, ?_⟩
   refine RL.pu ?_
   refine RL.fi fl109_0 ?_
   refine RL.fi fl44_6 ?_
   refine RL.done ?_
   refine RL.next trivial ?_
   refine RL.storeN (p := p) (i := 3) (j := 13) rfl rfl rfl ty40 rfl rfl hg26 rfl (hp26) (hr26) rfl (by first | (simp [Value.cells, Value.oneCell']; done) | simp [Value.cells, Value.oneCell', putL]) (by first | exact Nat.le_of_ble_eq_true rfl | (simp; done) | (simp; omega) | omega) rfl ?_
   rintro w27 A27 (hg27 : Good _ t15 (Q25 :: Q23 :: Q19 :: A27 :: W1 :: Q12 :: os)) hax27 nd27
   refine ⟨trivial, ?_⟩
   refine RL.done ?_
   refine CW.plain ?_
   refine RL.add rfl rfl rfl rfl rfl rfl ((by simp only [rng]; omega)) ?_
   refine RL.pd ?_
   cases j with
   | zero => omega
   | succ j =>
    refine fun ac ha => ⟨j, [(0, ptr p), (1, u64 next), (6, .slice h.pa n.s.peers.length h.pc), (35, .slice a35 O.length c35), (36, i64 O.length), (37, i64 ((k : Int) + 1))], ha.sub ⟨rfl, rfl, rfl, rfl, rfl, rfl, trivial⟩, ⟨_, _, _, _, k + 1, ((((((hg27.front 5 rfl).front 5 rfl).front 5 rfl).dropAt 3).dropAt 3).dropAt 3), (haxL.trans (hax18.trans (hax19.trans (hax20.trans (hax21.trans (hax22.trans (hax23.trans ((Aux.drew _).trans (hax25.trans (hax26.trans hax27)))))))))), nd27, ?_, rfl, by omega⟩, Nat.lt_succ_self j⟩
    rw [List.take_succ_eq_append_getElem hlt, List.map_append, hm]
    simp only [List.map_cons, List.map_nil, hpo]; rfl
  ·
   have hpo : Node.peerOf n.s.peers O[k] next = ⟨O[k], next, 0⟩ := by simp only [Node.peerOf, find_no (q := fun q : Peer => decide (q.node = O[k])) (xs := n.s.peers) (by have := decide_f h48; omega), Option.getD_none]
   have hpe : ∀ s, RPeer s [i64 O[k], u64 next, u64 0] ⟨O[k], next, 0⟩ := fun s => ⟨rfl, er1, hn, by simp [rng]⟩
   refine CW.skip ?_
   have hg28 := hg22.drew
   refine CW.draws2 [(true, 0), (true, 1), (true, 2), (true, 3), (true, 4), (true, 5), (true, 6), (false, 7), (false, 8), (true, 9), (true, 10), (true, 11)] [(false, 12)] 12 #[true, true, true, true, true, true, true, true, true, true, true, true, false] (fun w => At1 p _ w ∧ At1 b20 _ w ∧ True) mixed (by kernel_rfl) (by kernel_rfl) (by kernel_rfl) (by kernel_rfl) (by kernel_rfl) (⟨hg28.at1 (by simp) ndL.cells, hg28.at1 (by simp) hb21, trivial⟩) ?_
   refine RL.pp ?_
   refine RL.pu ?_
   refine RL.fi fl109_0 ?_
   refine RL.fi fl44_6 ?_
   refine RL.loadT (ad := ⟨p, 0, none⟩) (j := 13) rfl rfl rfl rfl ty40 rfl (At1.holds) (fun w h => h.1.inn) rfl ?_
   refine RL.loadsT (ad := ⟨b20, 0, none⟩) (j := 0) rfl rfl rfl rfl ty136 rfl (At1.holds) (fun w h => h.2.1.inn) rfl rfl ?_
   refine RL.buildN rfl rfl rfl rfl sl40 ze136 rfl rfl rfl rfl hg28 ?_
   rintro b29 w29 Q29 (hg29 : Good _ t15 (Q29 :: Q21 :: Q19 :: AL :: W1 :: Q12 :: os)) hax29 hb29
   refine ⟨⟨hg29.at1 (by simp) ndL.cells, hg29.at1 (by simp) hb21, trivial⟩, ?_⟩
   refine RL.append2 (i := 3) (ys := [_]) rfl rfl rfl rfl sl40 ze136 rfl RPeer.one rfl rfl hg29 rfl ndL.peers (one_src sl40 rfl hb29 (hg29.mem (by simp))) (Chunks.single rfl (hpe _)) ((by simp only [List.length_singleton]; omega)) (by omega) ?_
   rintro a30 c30 A30 w30 (hg30 : Good _ t15 (Q29 :: Q21 :: Q19 :: A30 :: W1 :: Q12 :: os)) ho30 hax30 hk30 hn30
   obtain ⟨hp30, hr30⟩ := ndL.appPeers ho30 hk30
   refine ⟨⟨hg30.at1 (by simp) hp30, hg30.at1 (by simp) hb21, trivial⟩, ?_⟩
   refine RL.pu ?_
   refine RL.fi fl109_0 ?_
   refine RL.fi fl44_6 ?_
   refine RL.done ?_
   refine RL.next trivial ?_
   refine RL.storeN (p := p) (i := 3) (j := 13) rfl rfl rfl ty40 rfl rfl hg30 rfl (hp30) (hr30) rfl (by first | (simp [Value.cells, Value.oneCell']; done) | simp [Value.cells, Value.oneCell', putL]) (by first | exact Nat.le_of_ble_eq_true rfl | (simp; done) | (simp; omega) | omega) rfl ?_
   rintro w31 A31 (hg31 : Good _ t15 (Q29 :: Q21 :: Q19 :: A31 :: W1 :: Q12 :: os)) hax31 nd31
   refine ⟨trivial, ?_⟩
   refine RL.done ?_
   refine CW.plain ?_
   refine RL.add rfl rfl rfl rfl rfl rfl ((by simp only [rng]; omega)) ?_
   refine RL.pd ?_
   cases j with
   | zero => omega
   | succ j =>
    refine fun ac ha => ⟨j, [(0, ptr p), (1, u64 next), (6, .slice h.pa n.s.peers.length h.pc), (35, .slice a35 O.length c35), (36, i64 O.length), (37, i64 ((k : Int) + 1))], ha.sub ⟨rfl, rfl, rfl, rfl, rfl, rfl, trivial⟩, ⟨_, _, _, _, k + 1, ((((((hg31.front 5 rfl).front 5 rfl).front 5 rfl).dropAt 3).dropAt 3).dropAt 3), (haxL.trans (hax18.trans (hax19.trans (hax20.trans (hax21.trans (hax22.trans ((Aux.drew _).trans (hax29.trans (hax30.trans hax31))))))))), nd31, ?_, rfl, by omega⟩, Nat.lt_succ_self j⟩
    rw [List.take_succ_eq_append_getElem hlt, List.map_append, hm]
    simp only [List.map_cons, List.map_nil, hpo]; rfl
 ·
  refine CW.exit ?_
  refine fall (vs := []) rfl ?_
  have hke : k = O.length := by have := decide_f h38; omega
  refine Post.mk (hle9.trans (hle15.trans hll15)) ((hgL.dropNext).dropNext) haxL ⟨rfl, _, ndL.to ?_⟩
  rw [hm, hke, List.take_length]; simp only [Node.meet, Node.wPeers, hO]
end
end Go.Lw

/-
 A node by the program: count, put, lead, stand, ask.
-/
namespace Go.Lw
open Go.Proofs
attribute [local irreducible] RL RA
section
variable {w : World} {s A : Res} {os : List Res} {p : Nat} {h : Hd} {n : Node}
theorem one_news {α : Type} {P : Program} {R : Res → List Value → α → Prop} {sz b by_ : Nat} {t e : TypeId} {B : Res} {cs : List Value} {xs : List α} (ht : slc P t = some (e, sz, by_)) (hB : B b = some (.cells cs.toArray e (0, 0))) (hin : In B w) (hch : Chunks R sz s cs xs) : ∃ news, Src P w t sz (.slice (some ⟨b, 0, none⟩) xs.length xs.length) xs.length news ∧ Chunks R sz s news xs :=
 ⟨cs, one_src ht hch.length hB hin, hch⟩
theorem count_stay (h : n.com ≤ n.s.hard.commit ∨ (termP n.s.log n.com).1 ≠ n.s.hard.term) : n.count = n := by unfold Node.count; rw [if_pos h]
theorem count_go (h : ¬ (n.com ≤ n.s.hard.commit ∨ (termP n.s.log n.com).1 ≠ n.s.hard.term)) : n.count = if (confP n.s.log).2 ≤ n.com ∧ n.s.id ∉ n.voters then (n.wCommit n.com).follow n.s.hard.term 0 else n.wCommit n.com := by
 unfold Node.count; rw [if_neg h]; rfl
set_option maxRecDepth 100000 in
set_option maxHeartbeats 1000000 in
theorem ncount_ct (hg : Good w s (A :: os)) (nd : Nd s A p h n) (hR : NRng n) (hS : n.s.log.small) (hv : n.voters.length ≤ 1073741824) (hb : n.s.peers.length ≤ 4294967296) :
  Calls Tryz.prog 118 #[ptr p] w (NPost w s os p (.tuple #[]) n.count) := by
 refine enter (l := [ptr p]) Tryz.func118 rfl Tryz.ntmps118 rfl ?_
 refine CW.seq (CW.plain ?_)
 refine RL.pp ?_
 refine RL.fi fl109_0 ?_
 refine RL.fi fl44_2 ?_
 refine RL.ls 4 ty33 nd.cells hg ?_
 refine RL.call rfl rfl rfl rfl rfl ca30 (Conf_ct hg (.inr (by simp)) (nd.at_ hR) hS) ?_
 rintro v1 s1 B1 w1 hle1 (hg1 : Good _ s1 (B1 :: A :: os)) hax1 ⟨vs13, rfl, hC⟩
 have hg1 := hg1.drop
 have nd2 := nd.up hle1
 have hC0 := hC
 obtain ⟨va, vc, la, lc, rfl, hva, hla⟩ := hC
 refine ⟨trivial, ?_⟩
 refine RL.pp ?_
 refine RL.pu ?_
 refine RL.allocN rfl rfl rfl rfl ze27 hg1 ?_
 rintro b3 w3 Q3 (hg3 : Good _ s1 (Q3 :: A :: os)) hax3 hb3
 refine ⟨trivial, ?_⟩
 refine RL.sB (b := b3) (i := 0) (j := 0) rfl rfl rfl ty27 rfl rfl hg3 rfl (hb3) rfl rfl ?_
 rintro w4 Q4 (hg4 : Good _ s1 (Q4 :: A :: os)) hax4 hb4
 refine ⟨trivial, ?_⟩
 refine RL.pd ?_
 refine CW.seq ?_
 have hg5 := hg4.drew
 refine CW.draws [(true, 0), (true, 1), (true, 2), (true, 3), (true, 4), (true, 5), (true, 6), (true, 8), (true, 9), (true, 10), (true, 11), (true, 12), (true, 13), (false, 7), (false, 14), (true, 15), (false, 16), (false, 17), (false, 18), (false, 19)] (fun w => At1 b3 _ w ∧ At1 p _ w ∧ True) mixed (by kernel_rfl) (by kernel_rfl) (by kernel_rfl) (by kernel_rfl) (⟨hg5.at1 (by simp) hb4, hg5.at1 (by simp) nd2.cells, trivial⟩) ?_
 refine RL.fi fl27_0 ?_
 refine RL.loadT (ad := ⟨b3, 0, none⟩) (j := 0) rfl rfl rfl rfl ty25 rfl (At1.holds) (fun w h => h.1.inn) rfl ?_
 refine RL.pp ?_
 refine RL.fi fl109_0 ?_
 refine RL.fi fl44_6 ?_
 refine RL.loadT (ad := ⟨p, 0, none⟩) (j := 13) rfl rfl rfl rfl ty40 rfl (At1.holds) (fun w h => h.2.1.inn) rfl ?_
 refine RL.pp ?_
 refine RL.fi fl109_0 ?_
 refine RL.fi fl44_0 ?_
 refine RL.loadT (ad := ⟨p, 0, none⟩) (j := 0) rfl rfl rfl rfl ty3 rfl (At1.holds) (fun w h => h.2.1.inn) rfl ?_
 refine RL.pu ?_
 refine RL.call rfl rfl rfl rfl rfl ca66 (ClonePe_ct hg5 (.inr (by simp)) nd2.peers.lies.2.2 (by omega)) ?_
 rintro v6 s6 Q6 w6 hle6 (hg6 : Good _ s6 (Q6 :: Q4 :: A :: os)) hax6 ⟨hs23, a23, c23, rfl, ho23⟩
 have nd7 := nd2.up hle6
 have hC0 := RConf.up _ _ _ _ hle6 hC0
 have hva := hva.up (RInt.up _) hle6
 refine ⟨⟨hg6.at1 (by simp) hb4, hg6.at1 (by simp) nd7.cells, trivial⟩, ?_⟩
 refine RL.callV rfl rfl rfl rfl rfl ca77 (last_ct (hg6.front 2 rfl) nd7 hR) ?_
 rintro v8 w8 (hg8 : Good _ s6 (A :: Q6 :: Q4 :: os)) hax8 rfl
 refine ⟨⟨hg8.at1 (by simp) hb4, hg8.at1 (by simp) nd7.cells, trivial⟩, ?_⟩
 refine RL.build rfl rfl rfl rfl ze136 pl136 rfl rfl ?_
 refine RL.buildN rfl rfl rfl rfl sl40 ze136 rfl rfl rfl rfl hg8 ?_
 rintro b9 w9 Q9 (hg9 : Good _ s6 (Q9 :: A :: Q6 :: Q4 :: os)) hax9 hb9
 refine ⟨⟨hg9.at1 (by simp) hb4, hg9.at1 (by simp) nd7.cells, trivial⟩, ?_⟩
 obtain ⟨news10, hsrc10, hch10⟩ := (one_news (R := RPeer) (xs := [⟨n.s.id, 0, n.last⟩]) sl40 hb9 (hg9.mem (by simp)) (Chunks.single rfl ⟨rfl, hR.1, by simp [rng], (nd.at_ hR).last_rng.1⟩))
 refine RL.append2 (i := 2) (xs := n.s.peers) (ys := [⟨n.s.id, 0, n.last⟩]) rfl rfl rfl rfl sl40 ze136 rfl RPeer.one (rfl) rfl hg9 rfl (ho23) hsrc10 hch10 ((by simp only [List.length_singleton]; omega)) (by omega) ?_
 rintro a10 c10 A10 w10 (hg10 : Good _ s6 (Q9 :: A :: A10 :: Q4 :: os)) ho10 hax10 hk10 hn10
 have hoP := ho10
 refine ⟨⟨hg10.at1 (by simp) hb4, hg10.at1 (by simp) nd7.cells, trivial⟩, ?_⟩
 obtain ⟨hL1, hL2, hL3, hL4⟩ := (hg10.front 2 rfl).lend
 refine RL.call rfl rfl rfl rfl rfl ca145 (Calls.lend (Ψ := fun v => ∃ c, v = .int .u64 c ∧ Com ((uniq n.voters).map (matchP (n.s.peers ++ [⟨n.s.id, 0, n.last⟩]))) c) (hg10.front 2 rfl) (Commit_ct hL1 (hva.up (RInt.up _) hL2) (hoP.imm RPeer.up hL2 hL3) (by show n.voters.length * 8 ≤ _; omega))) ?_
 rintro v11 s11 B11 w11 hle11 (hg11 : Good _ s11 (B11 :: A10 :: Q9 :: A :: Q4 :: os)) hax11 ⟨c34, rfl, hCom⟩
 have hg11 := hg11.drop
 have nd12 := nd7.up hle11
 have hC0 := RConf.up _ _ _ _ hle11 hC0
 obtain rfl := Node.com_eq (n := n) hCom
 refine ⟨⟨hg11.at1 (by simp) hb4, hg11.at1 (by simp) nd12.cells, trivial⟩, ?_⟩
 refine RL.pd ?_
 refine CW.seq ?_
 refine CW.seq (CW.plain ?_)
 refine RL.pp ?_
 refine RL.fi fl109_0 ?_
 refine RL.fi fl44_2 ?_
 refine RL.ls 4 ty33 nd12.cells hg11 ?_
 refine RL.pu ?_
 refine RL.callV rfl rfl rfl rfl rfl ca115 (Term_ct hg11 (.inr (by simp)) (nd12.at_ hR) (by have := hS.2.2.2; omega)) ?_
 rintro v13 w13 (hg13 : Good _ s11 (A10 :: Q9 :: A :: Q4 :: os)) hax13 rfl
 refine ⟨trivial, ?_⟩
 refine RL.pp ?_
 refine RL.pp ?_
 refine RL.pd ?_
 refine CW.seq (CW.plain ?_)
 refine RL.pp ?_
 refine RL.pu ?_
 refine RL.fi fl109_0 ?_
 refine RL.fi fl44_1 ?_
 refine RL.fi fl24_2 ?_
 refine RL.lo 3 ty22 nd12.cells hg13 ?_
 refine RL.pp ?_
 refine RL.part 53 rfl (fun h53 => ?_) (fun h53 => ?_)
 ·
  refine RL.qq ?_
  refine RL.qq ?_
  refine RL.qq ?_
  refine RL.qq ?_
  refine RL.pd ?_
  refine CW.yes (by first | rfl | exact congrArg (fun b => some (Value.bool b)) (by assumption)) ?_
  refine CW.ret (ret (vs := []) rfl ?_)
  exact Post.mk (hle1.trans (hle6.trans hle11)) ((((hg13.front 2 rfl).dropNext).dropNext).dropNext) (hax1.trans (hax3.trans (hax4.trans ((Aux.drew _).trans (hax6.trans (hax8.trans (hax9.trans (hax10.trans (hax11.trans hax13))))))))) ⟨rfl, _, nd12.to (count_stay (.inl (decide_t h53))).symm⟩
 ·
  refine RL.pp ?_
  refine RL.pu ?_
  refine RL.fi fl109_0 ?_
  refine RL.fi fl44_1 ?_
  refine RL.fi fl24_0 ?_
  refine RL.lo 1 ty22 nd12.cells hg13 ?_
  refine RL.pu ?_
  refine RL.pd ?_
  refine CW.cond rfl (fun h62 => ?_) (fun h62 => ?_)
  ·
   refine CW.ret (ret (vs := []) rfl ?_)
   exact Post.mk (hle1.trans (hle6.trans hle11)) ((((hg13.front 2 rfl).dropNext).dropNext).dropNext) (hax1.trans (hax3.trans (hax4.trans ((Aux.drew _).trans (hax6.trans (hax8.trans (hax9.trans (hax10.trans (hax11.trans hax13))))))))) ⟨rfl, _, nd12.to (count_stay (.inr (by simpa using h62))).symm⟩
  ·
   have hcg := count_go (n := n) (fun z => z.elim (decide_f h53) (fun z => by simp [z] at h62))
   refine CW.skip ?_
   refine CW.seq (CW.plain ?_)
   refine RL.pp ?_
   refine RL.pu ?_
   refine RL.fi fl109_0 ?_
   refine RL.fi fl44_1 ?_
   refine RL.fi fl24_2 ?_
   refine RL.storeI (p := p) (i := 2) (j := 3) rfl rfl rfl ty22 rfl rfl hg13 rfl (nd12.cells) (NRest.wCommit nd12.rest) rfl (Nat.le_of_ble_eq_true rfl) rfl ?_
   rintro w14 A14 (hg14 : Good _ s11 (A10 :: Q9 :: A14 :: Q4 :: os)) hax14 nd14
   refine ⟨trivial, ?_⟩
   refine RL.done ?_
   refine CW.seq ?_
   have hg15 := hg14.drew
   refine CW.draws [(true, 0), (true, 1), (true, 2), (true, 3), (true, 4), (true, 5), (true, 6), (true, 7), (true, 8), (true, 9), (false, 10), (true, 11), (true, 12)] (fun w => At1 b3 _ w ∧ At1 p _ w ∧ True) mixed (by kernel_rfl) (by kernel_rfl) (by kernel_rfl) (by kernel_rfl) (⟨hg15.at1 (by simp) hb4, hg15.at1 (by simp) nd14.cells, trivial⟩) ?_
   refine RL.pp ?_
   refine RL.pp ?_
   refine RL.part 72 rfl (fun h72 => ?_) (fun h72 => ?_)
   ·
    refine RL.loadsT (ad := ⟨b3, 0, none⟩) (j := 0) rfl rfl rfl rfl ty27 rfl (At1.holds) (fun w h => h.1.inn) rfl rfl ?_
    refine RL.pp ?_
    refine RL.fi fl109_0 ?_
    refine RL.fi fl44_0 ?_
    refine RL.loadT (ad := ⟨p, 0, none⟩) (j := 0) rfl rfl rfl rfl ty3 rfl (At1.holds) (fun w h => h.2.1.inn) rfl ?_
    refine RL.callV rfl rfl rfl rfl rfl ca139 (Votes_ct hg15 hC0) ?_
    rintro v16 w16 (hg16 : Good _ s11 (A10 :: Q9 :: A14 :: Q4 :: os)) hax16 rfl
    refine ⟨⟨hg16.at1 (by simp) hb4, hg16.at1 (by simp) nd14.cells, trivial⟩, ?_⟩
    refine RL.pu ?_
    refine RL.pd ?_
    refine CW.cond rfl (fun h81 => ?_) (fun h81 => ?_)
    ·
     refine CW.plain ?_
     refine RL.pp ?_
     refine RL.pu ?_
     refine RL.fi fl109_0 ?_
     refine RL.fi fl44_1 ?_
     refine RL.fi fl24_0 ?_
     refine RL.lo 1 ty22 nd14.cells hg16 ?_
     refine RL.call rfl rfl rfl rfl rfl ca73 (follow_ct (hg16.front 2 rfl) nd14) ?_
     rintro v17 s17 A17 w17 hle17 (hg17 : Good _ s17 (A17 :: A10 :: Q9 :: Q4 :: os)) hax17 ⟨rfl, h17, nd17⟩
     refine ⟨trivial, ?_⟩
     refine RL.done ?_
     refine fall (vs := []) rfl ?_
     refine Post.mk (hle1.trans (hle6.trans (hle11.trans hle17))) (((hg17.dropNext).dropNext).dropNext) (hax1.trans (hax3.trans (hax4.trans ((Aux.drew _).trans (hax6.trans (hax8.trans (hax9.trans (hax10.trans (hax11.trans (hax13.trans (hax14.trans ((Aux.drew _).trans (hax16.trans hax17))))))))))))) ⟨rfl, _, nd17.to ?_⟩
     rw [hcg, if_pos ⟨decide_t h72, of_decide_eq_false (Bool.not_eq_true' _ ▸ h81)⟩]; rfl
    ·
     refine CW.skip ?_
     refine fall (vs := []) rfl ?_
     refine Post.mk (hle1.trans (hle6.trans hle11)) ((((hg16.front 2 rfl).dropNext).dropNext).dropNext) (hax1.trans (hax3.trans (hax4.trans ((Aux.drew _).trans (hax6.trans (hax8.trans (hax9.trans (hax10.trans (hax11.trans (hax13.trans (hax14.trans ((Aux.drew _).trans hax16)))))))))))) ⟨rfl, _, nd14.to ?_⟩
     rw [hcg, if_neg (fun z => z.2 (of_decide_eq_true (Bool.not_eq_false' _ ▸ h81)))]
   ·
    refine RL.qq ?_
    refine RL.qq ?_
    refine RL.qq ?_
    refine RL.qq ?_
    refine RL.pd ?_
    refine CW.no (by first | rfl | exact congrArg (fun b => some (Value.bool b)) (by assumption)) ?_
    refine CW.skip ?_
    refine fall (vs := []) rfl ?_
    refine Post.mk (hle1.trans (hle6.trans hle11)) ((((hg15.front 2 rfl).dropNext).dropNext).dropNext) (hax1.trans (hax3.trans (hax4.trans ((Aux.drew _).trans (hax6.trans (hax8.trans (hax9.trans (hax10.trans (hax11.trans (hax13.trans (hax14.trans (Aux.drew _)))))))))))) ⟨rfl, _, nd14.to ?_⟩
    rw [hcg, if_neg (fun z => decide_f h72 z.1)]
theorem Node.com_rng (hp : ∀ q ∈ n.s.peers, rng .u64 q.mat) (hl : rng .u64 n.last) : rng .u64 n.com := by
 unfold Node.com
 split
 ·
  rename_i hk
  have hm : ∀ q ∈ n.s.peers ++ [⟨n.s.id, 0, n.last⟩], rng .u64 q.mat := by
   intro q hq
   rcases List.mem_append.1 hq with hq | hq
   ·
    exact hp q hq
   ·
    obtain rfl := List.mem_singleton.1 hq; exact hl
  rcases hk.choose_spec with ⟨_, h0⟩ | ⟨_, h1, _⟩
  ·
   rw [h0]; simp [rng]
  ·
   obtain ⟨v, _, hv⟩ := List.mem_map.1 h1
   rw [← hv]; exact matchP_rng hm v
 ·
  simp [rng]
theorem Nd.peers_rng (nd : Nd s A p h n) : ∀ q ∈ n.s.peers, rng .i64 q.node ∧ rng .u64 q.next ∧ rng .u64 q.mat := by
 intro q hq
 obtain ⟨vs, _, h1⟩ := nd.peers.lies.all q hq
 exact h1
theorem NRng.follow {term leader : Int} (hR : NRng n) (ht : rng .u64 term) : NRng (n.follow term leader) := by
 unfold Node.follow
 by_cases hc : n.s.hard.term < term
 ·
  exact hR.of rfl (by simp only [if_pos hc]; exact ht) (by simp only [if_pos hc]; simp [rng]) (by simp only [if_pos hc]; exact hR.2.2.2.1) rfl
 ·
  exact hR.of rfl (by simp only [if_neg hc]; exact hR.2.1) (by simp only [if_neg hc]; exact hR.2.2.1) (by simp only [if_neg hc]; exact hR.2.2.2.1) rfl
theorem NRng.count (hR : NRng n) (hc : rng .u64 n.com) : NRng n.count := by
 by_cases hs : n.com ≤ n.s.hard.commit ∨ (termP n.s.log n.com).1 ≠ n.s.hard.term
 ·
  rw [count_stay hs]; exact hR
 ·
  rw [count_go hs]
  have hw : NRng (n.wCommit n.com) := hR.of rfl hR.2.1 hR.2.2.1 hc rfl
  split
  ·
   exact hw.follow hR.2.1
  ·
   exact hw
theorem Nd.count_rng (nd : Nd s A p h n) (hR : NRng n) : NRng n.count := hR.count (Node.com_rng (fun q hq => (nd.peers_rng q hq).2.2) (nd.at_ hR).last_rng.1)
theorem count_log (n : Node) : n.count.s.log = n.s.log := by
 unfold Node.count; split
 ·
  rfl
 ·
  dsimp only; split <;> rfl
theorem count_peers (n : Node) : n.count.s.peers = n.s.peers ∨ n.count.s.peers = [] := by
 unfold Node.count; split
 ·
  exact .inl rfl
 ·
  dsimp only; split
  ·
   exact .inr rfl
  ·
   exact .inl rfl
theorem count_msgs (n : Node) : n.count.o = n.o := by
 unfold Node.count; split
 ·
  rfl
 ·
  dsimp only; split <;> rfl
theorem confE_small : ∀ {l : List Entry}, (∀ e ∈ l, e.small) → ∀ c, confE l = some c → c.1.small
 | [], _, c, h => by cases h
 | e :: l, hs, c, h => by
  simp only [confE] at h
  cases hc : confE l with
  | some r => rw [hc] at h; cases h; exact confE_small (fun x hx => hs x (List.mem_cons_of_mem _ hx)) _ hc
  | none =>
   rw [hc] at h
   simp only at h
   split at h
   ·
    cases h; exact (hs e (List.mem_cons_self ..)).2
   ·
    cases h
theorem confP_small {l : Log} (h : l.small) : (confP l).1.small := by
 unfold confP
 cases hc : confE l.entries with
 | none => exact h.1
 | some r => exact confE_small h.2.2.1 _ hc
theorem Conf.small.fits {c : Conf} (h : c.small) : c.fits := by
 obtain ⟨h1, h2⟩ := h; simp only [Conf.fits]; omega
theorem othersP_small {c : Conf} (h : c.small) (x : Int) : (othersP c x).length ≤ 4294967296 := by
 have h1 := uniq_le (delP x (c.voters ++ c.learners))
 have h2 := delP_le x (c.voters ++ c.learners)
 have h3 : (c.voters ++ c.learners).length = c.voters.length + c.learners.length := List.length_append
 have h4 := h.1
 have h5 := h.2
 unfold othersP; omega
def Node.putE (n : Node) (x : Entry) : Node := ⟨{ n.s with log := ⟨n.s.log.base, n.s.log.entries ++ [x]⟩ }, { n.o with entries := n.o.entries ++ [x] }⟩
theorem Log.small.snoc {l : Log} (hS : l.small) {x : Entry} (hx : x.small) (hn : l.entries.length + 1 ≤ 1099511627776) : Log.small ⟨l.base, l.entries ++ [x]⟩ := by
 refine ⟨hS.1, hS.2.1, fun e he => ?_, by simp only [List.length_append, List.length_singleton]; exact hn⟩
 rcases List.mem_append.1 he with he | he
 ·
  exact hS.2.2.1 e he
 ·
  obtain rfl := List.mem_singleton.1 he; exact hx
set_option maxRecDepth 100000 in
set_option maxHeartbeats 1000000 in
theorem nput_ct {e : Entry} {vs : List Value} (hg : Good w s (A :: os)) (nd : Nd s A p h n) (hR : NRng n) (hS : n.s.log.small) (hE : REntry s vs e) (he : e.small) (hn : n.s.log.entries.length + 1 ≤ 1099511627776) (hp : n.s.peers.length ≤ 4294967296) (hm : n.o.msgs.length ≤ 34359738368) (ho : n.o.entries.length + 1 ≤ 1099511627776) :
  Calls Tryz.prog 78 #[ptr p, .agg vs.toArray] w (NPost w s os p (.tuple #[]) (n.put e)) := by
 obtain ⟨ea, ec, ea1, ec1, ea2, ec2, rfl, er1, er2, er3, eh1, eh2, eh3⟩ := hE
 obtain ⟨x, hx⟩ : ∃ x : Entry, x = { e with index := up1 n.last, term := n.s.hard.term } := ⟨_, rfl⟩
 have hxs : x.small := by rw [hx]; exact he
 have hS2 : Log.small (n.putE x).s.log := hS.snoc hxs hn
 have hcs := confP_small hS2
 have hR2 : NRng (n.putE x) := hR.of rfl hR.2.1 hR.2.2.1 hR.2.2.2.1 rfl
 have hxi : x.index = up1 n.last := by rw [hx]
 have hput : n.put e = ((if e.kind = 3 then (n.putE x).meet x.index else n.putE x).count).spread := by rw [hx]; rfl
 have hxE : ∀ s', Le s s' → REntry s' [u64 (up1 n.last), u64 n.s.hard.term, i64 e.kind, .slice ea e.data.length ec, .slice ea1 e.conf.voters.length ec1, .slice ea2 e.conf.learners.length ec2] x := fun s' hl => by
  rw [hx]; exact ⟨ea, ec, ea1, ec1, ea2, ec2, rfl, up1_rng _, hR.2.1, er3, eh1.up (RInt.up _) hl, eh2.up (RInt.up _) hl, eh3.up (RInt.up _) hl⟩
 refine enter (l := [ptr p, .agg #[u64 e.index, u64 e.term, i64 e.kind, .slice ea e.data.length ec, .slice ea1 e.conf.voters.length ec1, .slice ea2 e.conf.learners.length ec2]]) Tryz.func78 rfl Tryz.ntmps78 rfl ?_
 refine CW.seq (CW.plain ?_)
 refine RL.boxN rfl rfl rfl rfl rfl hg ?_
 rintro b18 w18 Q18 (hg18 : Good _ s (Q18 :: A :: os)) hax18 hb18
 refine ⟨trivial, ?_⟩
 refine RL.done ?_
 refine CW.seq ?_
 have hg19 := hg18.drew
 refine CW.draws [(true, 0), (true, 3), (true, 4), (true, 5), (true, 6), (true, 7), (true, 8), (false, 1), (true, 2), (true, 9), (false, 10), (true, 11), (false, 12)] (fun w => At1 p _ w ∧ True) mixed (by kernel_rfl) (by kernel_rfl) (by kernel_rfl) (by kernel_rfl) (⟨hg19.at1 (by simp) nd.cells, trivial⟩) ?_
 refine RL.pp ?_
 refine RL.pu ?_
 refine RL.fi fl109_0 ?_
 refine RL.fi fl44_1 ?_
 refine RL.fi fl24_0 ?_
 refine RL.loadT (ad := ⟨p, 0, none⟩) (j := 1) rfl rfl rfl rfl ty22 rfl (At1.holds) (fun w h => h.1.inn) rfl ?_
 refine RL.callV rfl rfl rfl rfl rfl ca77 (last_ct (hg19.front 1 rfl) nd hR) ?_
 rintro v20 w20 (hg20 : Good _ s (A :: Q18 :: os)) hax20 rfl
 refine ⟨⟨hg20.at1 (by simp) nd.cells, trivial⟩, ?_⟩
 refine RL.as_ rfl rfl rfl rfl (u64 (up1 n.last)) (rfl) ?_
 refine RL.fi fl65_0 ?_
 refine RL.sB (b := b18) (i := 1) (j := 0) rfl rfl rfl ty22 rfl rfl hg20 rfl (hb18) rfl rfl ?_
 rintro w21 Q21 (hg21 : Good _ s (A :: Q21 :: os)) hax21 hb21
 refine ⟨⟨hg21.at1 (by simp) nd.cells, trivial⟩, ?_⟩
 refine RL.fi fl65_1 ?_
 refine RL.sB (b := b18) (i := 1) (j := 1) rfl rfl rfl ty22 rfl rfl hg21 rfl (hb21) rfl rfl ?_
 rintro w22 Q22 (hg22 : Good _ s (A :: Q22 :: os)) hax22 hb22
 refine ⟨⟨hg22.at1 (by simp) nd.cells, trivial⟩, ?_⟩
 refine RL.done ?_
 refine CW.seq ?_
 have hg23 := hg22.drew
 refine CW.draws2 [(true, 0), (true, 1), (true, 2), (true, 3), (true, 4), (true, 5), (true, 6), (true, 7), (false, 8), (false, 9), (false, 10), (true, 11), (true, 12), (true, 13), (true, 14)] [(false, 15)] 15 #[true, true, true, true, true, true, true, true, true, true, true, true, true, true, true, false] (fun w => At1 p _ w ∧ At1 b18 _ w ∧ True) mixed (by kernel_rfl) (by kernel_rfl) (by kernel_rfl) (by kernel_rfl) (by kernel_rfl) (⟨hg23.at1 (by simp) nd.cells, hg23.at1 (by simp) hb22, trivial⟩) ?_
 refine RL.pp ?_
 refine RL.pu ?_
 refine RL.fi fl109_0 ?_
 refine RL.fi fl44_2 ?_
 refine RL.fi fl33_1 ?_
 refine RL.loadT (ad := ⟨p, 0, none⟩) (j := 9) rfl rfl rfl rfl ty31 rfl (At1.holds) (fun w h => h.1.inn) rfl ?_
 refine RL.loadsT (ad := ⟨b18, 0, none⟩) (j := 0) rfl rfl rfl rfl ty65 rfl (At1.holds) (fun w h => h.2.1.inn) rfl rfl ?_
 refine RL.call rfl rfl rfl rfl rfl ca64 (entry_core_ct hg23 (hxE _ (Le.refl _)) hxs) ?_
 rintro v24 s24 B24 w24 hle24 (hg24 : Good _ s24 (B24 :: A :: Q22 :: os)) hax24 ⟨us23, rfl, hU23⟩
 have hg24 := hg24.drop
 have nd25 := nd.up hle24
 have hU := hU23
 obtain ⟨fa, fc, fa1, fc1, fa2, fc2, rfl, fr1, fr2, fr3, fh1, fh2, fh3⟩ := hU23
 refine ⟨⟨hg24.at1 (by simp) nd25.cells, hg24.at1 (by simp) hb22, trivial⟩, ?_⟩
 refine RL.buildN rfl rfl rfl rfl sl31 ze65 rfl rfl rfl rfl hg24 ?_
 rintro b26 w26 Q26 (hg26 : Good _ s24 (Q26 :: A :: Q22 :: os)) hax26 hb26
 refine ⟨⟨hg26.at1 (by simp) nd25.cells, hg26.at1 (by simp) hb22, trivial⟩, ?_⟩
 refine RL.append2 (i := 1) (ys := [x]) rfl rfl rfl rfl sl31 ze65 rfl REntry.one rfl rfl hg26 rfl nd25.entries (one_src sl31 rfl hb26 (hg26.mem (by simp))) (Chunks.single rfl hU) ((by simp only [List.length_singleton]; omega)) (by omega) ?_
 rintro a27 c27 A27 w27 (hg27 : Good _ s24 (Q26 :: A27 :: Q22 :: os)) ho27 hax27 hk27 hn27
 obtain ⟨hp27, hr27⟩ := nd25.appEntries ho27 hk27 hn27
 refine ⟨⟨hg27.at1 (by simp) hp27, hg27.at1 (by simp) hb22, trivial⟩, ?_⟩
 refine RL.pu ?_
 refine RL.fi fl109_0 ?_
 refine RL.fi fl44_2 ?_
 refine RL.fi fl33_1 ?_
 refine RL.done ?_
 refine RL.next trivial ?_
 refine RL.storeN (p := p) (i := 1) (j := 9) rfl rfl rfl ty31 rfl rfl hg27 rfl (hp27) (hr27) rfl (by first | (simp [Value.cells, Value.oneCell']; done) | simp [Value.cells, Value.oneCell', putL]) (by first | exact Nat.le_of_ble_eq_true rfl | (simp; done) | (simp; omega) | omega) rfl ?_
 rintro w28 A28 (hg28 : Good _ s24 (Q26 :: A28 :: Q22 :: os)) hax28 nd28
 refine ⟨trivial, ?_⟩
 refine RL.done ?_
 refine CW.seq ?_
 have hg29 := hg28.drew
 refine CW.draws2 [(true, 0), (true, 1), (true, 2), (true, 3), (true, 4), (true, 5), (true, 6), (false, 7), (false, 8), (false, 9), (true, 10), (true, 11), (true, 12)] [(false, 13)] 13 #[true, true, true, true, true, true, true, true, true, true, true, true, true, false] (fun w => At1 p _ w ∧ At1 b18 _ w ∧ True) mixed (by kernel_rfl) (by kernel_rfl) (by kernel_rfl) (by kernel_rfl) (by kernel_rfl) (⟨hg29.at1 (by simp) nd28.cells, hg29.at1 (by simp) hb22, trivial⟩) ?_
 refine RL.pp ?_
 refine RL.pu ?_
 refine RL.fi fl109_1 ?_
 refine RL.fi fl50_1 ?_
 refine RL.loadT (ad := ⟨p, 0, none⟩) (j := 21) rfl rfl rfl rfl ty31 rfl (At1.holds) (fun w h => h.1.inn) rfl ?_
 refine RL.loadsT (ad := ⟨b18, 0, none⟩) (j := 0) rfl rfl rfl rfl ty65 rfl (At1.holds) (fun w h => h.2.1.inn) rfl rfl ?_
 refine RL.call rfl rfl rfl rfl rfl ca64 (entry_core_ct hg29 (hxE _ hle24) hxs) ?_
 rintro v30 s30 B30 w30 hle30 (hg30 : Good _ s30 (B30 :: Q26 :: A28 :: Q22 :: os)) hax30 ⟨us37, rfl, hU37⟩
 have hg30 := hg30.drop
 have nd31 := nd28.up hle30
 have hV := hU37
 obtain ⟨ga, gc, ga1, gc1, ga2, gc2, rfl, gr1, gr2, gr3, gh1, gh2, gh3⟩ := hU37
 refine ⟨⟨hg30.at1 (by simp) nd31.cells, hg30.at1 (by simp) hb22, trivial⟩, ?_⟩
 refine RL.buildN rfl rfl rfl rfl sl31 ze65 rfl rfl rfl rfl hg30 ?_
 rintro b32 w32 Q32 (hg32 : Good _ s30 (Q32 :: Q26 :: A28 :: Q22 :: os)) hax32 hb32
 refine ⟨⟨hg32.at1 (by simp) nd31.cells, hg32.at1 (by simp) hb22, trivial⟩, ?_⟩
 refine RL.append2 (i := 2) (ys := [x]) rfl rfl rfl rfl sl31 ze65 rfl REntry.one rfl rfl hg32 rfl nd31.outs (one_src sl31 rfl hb32 (hg32.mem (by simp))) (Chunks.single rfl hV) ((by simp only [List.length_singleton]; show (n.o.entries.length + 1) * 96 ≤ _; omega)) (by omega) ?_
 rintro a33 c33 A33 w33 (hg33 : Good _ s30 (Q32 :: Q26 :: A33 :: Q22 :: os)) ho33 hax33 hk33 hn33
 obtain ⟨hp33, hr33⟩ := nd31.appOuts ho33 hk33 hn33
 refine ⟨⟨hg33.at1 (by simp) hp33, hg33.at1 (by simp) hb22, trivial⟩, ?_⟩
 refine RL.pu ?_
 refine RL.fi fl109_1 ?_
 refine RL.fi fl50_1 ?_
 refine RL.done ?_
 refine RL.next trivial ?_
 refine RL.storeN (p := p) (i := 2) (j := 21) rfl rfl rfl ty31 rfl rfl hg33 rfl (hp33) (hr33) rfl (by first | (simp [Value.cells, Value.oneCell']; done) | simp [Value.cells, Value.oneCell', putL]) (by first | exact Nat.le_of_ble_eq_true rfl | (simp; done) | (simp; omega) | omega) rfl ?_
 rintro w34 A34 (hg34 : Good _ s30 (Q32 :: Q26 :: A34 :: Q22 :: os)) hax34 nd34
 refine ⟨trivial, ?_⟩
 refine RL.done ?_
 refine CW.seq ?_
 refine CW.seq (CW.plain ?_)
 refine RL.fi fl65_2 ?_
 refine RL.lo 2 ty63 hb22 hg34 ?_
 refine RL.pd ?_
 refine CW.cond rfl (fun h45 => ?_) (fun h45 => ?_)
 ·
  have hRm : NRng ((n.putE x).meet x.index) := hR2.of rfl hR2.2.1 hR2.2.2.1 hR2.2.2.2.1 rfl
  have hpm : ((n.putE x).meet x.index).s.peers.length ≤ 4294967296 := by simp only [Node.meet, List.length_map]; exact othersP_small hcs _
  have hmm : ((n.putE x).meet x.index).o.msgs.length ≤ 34359738368 := hm
  have hlm : Log.small ((n.putE x).meet x.index).s.log := hS2
  refine CW.plain ?_
  refine RL.pu ?_
  refine RL.fi fl65_0 ?_
  refine RL.lo 0 ty22 hb22 hg34 ?_
  rw [← hxi]
  refine RL.call rfl rfl rfl rfl rfl ca117 (meet_ct (hg34.front 2 rfl) nd34 hR2 hS2 (by rw [hxi]; exact up1_rng _) hcs.fits (othersP_small hcs _)) ?_
  rintro v35 s35 A35 w35 hle35 (hg35 : Good _ s35 (A35 :: Q32 :: Q26 :: Q22 :: os)) hax35 ⟨rfl, h35, nd35⟩
  refine ⟨trivial, ?_⟩
  refine RL.done ?_
  refine CW.seq (CW.plain ?_)
  refine RL.pu ?_
  have hRc := (nd35).count_rng hRm
  refine RL.call rfl rfl rfl rfl rfl ca118 (ncount_ct hg35 nd35 hRm hlm hcs.1 hpm) ?_
  rintro v36 s36 A36 w36 hle36 (hg36 : Good _ s36 (A36 :: Q32 :: Q26 :: Q22 :: os)) hax36 ⟨rfl, h36, nd36⟩
  refine ⟨trivial, ?_⟩
  refine RL.done ?_
  refine CW.plain ?_
  refine RL.pu ?_
  have hcb := fun z : Node => count_peers z
  refine RL.call rfl rfl rfl rfl rfl ca69 (spread_ct hg36 nd36 hRc (by rw [count_log]; exact hlm) (by rw [count_msgs]; rcases count_peers _ with h | h <;> rw [h]; exact Nat.le_trans (Nat.add_le_add hmm hpm) (by decide); simp only [List.length_nil]; exact Nat.le_trans hmm (by decide))) ?_
  rintro v37 s37 A37 w37 hle37 (hg37 : Good _ s37 (A37 :: Q32 :: Q26 :: Q22 :: os)) hax37 ⟨rfl, ma37, mc37, nd37⟩
  refine ⟨trivial, ?_⟩
  refine RL.done ?_
  refine fall (vs := []) rfl ?_
  refine Post.mk (hle24.trans (hle30.trans (hle35.trans (hle36.trans hle37)))) (((hg37.dropNext).dropNext).dropNext) (hax18.trans ((Aux.drew _).trans (hax20.trans (hax21.trans (hax22.trans ((Aux.drew _).trans (hax24.trans (hax26.trans (hax27.trans (hax28.trans ((Aux.drew _).trans (hax30.trans (hax32.trans (hax33.trans (hax34.trans (hax35.trans (hax36.trans hax37))))))))))))))))) ⟨rfl, _, nd37.to ?_⟩
  rw [hput, if_pos (by simpa using h45)]; rfl
 ·
  have hRm := hR2
  have hpm : (n.putE x).s.peers.length ≤ 4294967296 := hp
  have hmm : (n.putE x).o.msgs.length ≤ 34359738368 := hm
  have hlm := hS2
  refine CW.skip ?_
  refine CW.seq (CW.plain ?_)
  refine RL.pu ?_
  have hRc := (nd34).count_rng hRm
  refine RL.call rfl rfl rfl rfl rfl ca118 (ncount_ct (hg34.front 2 rfl) nd34 hRm hlm hcs.1 hpm) ?_
  rintro v38 s38 A38 w38 hle38 (hg38 : Good _ s38 (A38 :: Q32 :: Q26 :: Q22 :: os)) hax38 ⟨rfl, h38, nd38⟩
  refine ⟨trivial, ?_⟩
  refine RL.done ?_
  refine CW.plain ?_
  refine RL.pu ?_
  have hcb := fun z : Node => count_peers z
  refine RL.call rfl rfl rfl rfl rfl ca69 (spread_ct hg38 nd38 hRc (by rw [count_log]; exact hlm) (by rw [count_msgs]; rcases count_peers _ with h | h <;> rw [h]; exact Nat.le_trans (Nat.add_le_add hmm hpm) (by decide); simp only [List.length_nil]; exact Nat.le_trans hmm (by decide))) ?_
  rintro v39 s39 A39 w39 hle39 (hg39 : Good _ s39 (A39 :: Q32 :: Q26 :: Q22 :: os)) hax39 ⟨rfl, ma39, mc39, nd39⟩
  refine ⟨trivial, ?_⟩
  refine RL.done ?_
  refine fall (vs := []) rfl ?_
  refine Post.mk (hle24.trans (hle30.trans (hle38.trans hle39))) (((hg39.dropNext).dropNext).dropNext) (hax18.trans ((Aux.drew _).trans (hax20.trans (hax21.trans (hax22.trans ((Aux.drew _).trans (hax24.trans (hax26.trans (hax27.trans (hax28.trans ((Aux.drew _).trans (hax30.trans (hax32.trans (hax33.trans (hax34.trans (hax38.trans hax39)))))))))))))))) ⟨rfl, _, nd39.to ?_⟩
  rw [hput, if_neg (by simpa using h45)]; rfl
def Node.roomy (n : Node) : Prop := n.s.log.small ∧ n.s.log.entries.length + 1 ≤ 1099511627776 ∧ n.s.peers.length ≤ 4294967296 ∧ n.o.msgs.length ≤ 34359738368 ∧ n.o.entries.length + 1 ≤ 1099511627776
def blankE : Entry := ⟨0, 0, 1, [], ⟨[], []⟩⟩
theorem blankE_ok (s : Res) : REntry s [u64 0, u64 0, i64 1, .slice none 0 0, .slice none 0 0, .slice none 0 0] blankE :=
 ⟨none, 0, none, 0, none, 0, rfl, by simp [rng, blankE], by simp [rng, blankE], by simp [rng, blankE], Imm.nil _ _ _ (Nat.zero_le _), Imm.nil _ _ _ (Nat.zero_le _), Imm.nil _ _ _ (Nat.zero_le _)⟩
theorem blankE_small : blankE.small := ⟨by simp [blankE], by simp [blankE, Conf.small]⟩
def Node.crown (n : Node) : Node := { n with s := { n.s with role := 4, leader := n.s.id, ballots := [], elapsed := 0, beat := 0, transfer := 0, peers := [] } }
set_option maxRecDepth 100000 in
set_option maxHeartbeats 4000000 in
theorem lead_ct (hg : Good w s (A :: os)) (nd : Nd s A p h n) (hR : NRng n) (hr : n.roomy) :
  Calls Tryz.prog 129 #[ptr p] w (NPost w s os p (.tuple #[]) n.lead) := by
 obtain ⟨hS, h1, h2, h3, h4⟩ := hr
 have hcs := confP_small hS
 have hR2 : NRng n.crown := hR.of rfl hR.2.1 hR.2.2.1 hR.2.2.2.1 rfl
 have hR3 : NRng (n.crown.meet (up1 n.last)) := hR.of rfl hR.2.1 hR.2.2.1 hR.2.2.2.1 rfl
 have hp3 : (n.crown.meet (up1 n.last)).s.peers.length ≤ 4294967296 := by simp only [Node.meet, List.length_map]; exact othersP_small hcs _
 refine enter (l := [ptr p]) Tryz.func129 rfl Tryz.ntmps129 rfl ?_
 refine CW.seq (CW.plain ?_)
 refine RL.pp ?_
 refine RL.pp ?_
 refine RL.fi fl109_0 ?_
 refine RL.fi fl44_0 ?_
 refine RL.lo 0 ty3 nd.cells hg ?_
 refine RL.pu ?_
 refine RL.fi fl109_0 ?_
 refine RL.fi fl44_3 ?_
 refine RL.storeI (p := p) (i := 0) (j := 10) rfl rfl rfl ty38 rfl rfl hg rfl (nd.cells) (NRest.wRole nd.rest) rfl (Nat.le_of_ble_eq_true rfl) rfl ?_
 rintro w40 A40 (hg40 : Good _ s (A40 :: os)) hax40 nd40
 refine ⟨trivial, ?_⟩
 refine RL.pu ?_
 refine RL.fi fl109_0 ?_
 refine RL.fi fl44_4 ?_
 refine RL.storeI (p := p) (i := 0) (j := 11) rfl rfl rfl ty3 rfl rfl hg40 rfl (nd40.cells) (NRest.wLeader nd40.rest) rfl (Nat.le_of_ble_eq_true rfl) rfl ?_
 rintro w41 A41 (hg41 : Good _ s (A41 :: os)) hax41 nd41
 refine ⟨trivial, ?_⟩
 refine RL.done ?_
 refine CW.seq (CW.plain ?_)
 refine RL.pp ?_
 refine RL.pp ?_
 refine RL.pp ?_
 refine RL.fi fl109_0 ?_
 refine RL.fi fl44_5 ?_
 refine RL.storeN (p := p) (i := 0) (j := 12) (h1 := _) (n1 := _) rfl rfl rfl ty39 rfl rfl hg41 rfl (nd41.cells) (nd41.rest.noBallots) rfl (by first | (simp [Value.cells, Value.oneCell']; done) | simp [Value.cells, Value.oneCell', putL]) (by first | exact Nat.le_of_ble_eq_true rfl | (simp; done) | (simp; omega) | omega) rfl ?_
 rintro w42 A42 (hg42 : Good _ s (A42 :: os)) hax42 nd42
 refine ⟨trivial, ?_⟩
 refine RL.pu ?_
 refine RL.fi fl109_0 ?_
 refine RL.fi fl44_7 ?_
 refine RL.storeI (p := p) (i := 0) (j := 14) rfl rfl rfl ty3 rfl rfl hg42 rfl (nd42.cells) (NRest.wElapsed nd42.rest) rfl (Nat.le_of_ble_eq_true rfl) rfl ?_
 rintro w43 A43 (hg43 : Good _ s (A43 :: os)) hax43 nd43
 refine ⟨trivial, ?_⟩
 refine RL.pu ?_
 refine RL.fi fl109_0 ?_
 refine RL.fi fl44_8 ?_
 refine RL.storeI (p := p) (i := 0) (j := 15) rfl rfl rfl ty3 rfl rfl hg43 rfl (nd43.cells) (NRest.wBeat nd43.rest) rfl (Nat.le_of_ble_eq_true rfl) rfl ?_
 rintro w44 A44 (hg44 : Good _ s (A44 :: os)) hax44 nd44
 refine ⟨trivial, ?_⟩
 refine RL.pu ?_
 refine RL.fi fl109_0 ?_
 refine RL.fi fl44_9 ?_
 refine RL.storeI (p := p) (i := 0) (j := 16) rfl rfl rfl ty3 rfl rfl hg44 rfl (nd44.cells) (NRest.wTransfer nd44.rest) rfl (Nat.le_of_ble_eq_true rfl) rfl ?_
 rintro w45 A45 (hg45 : Good _ s (A45 :: os)) hax45 nd45
 refine ⟨trivial, ?_⟩
 refine RL.pu ?_
 refine RL.fi fl109_0 ?_
 refine RL.fi fl44_6 ?_
 refine RL.storeN (p := p) (i := 0) (j := 13) (h1 := _) (n1 := _) rfl rfl rfl ty40 rfl rfl hg45 rfl (nd45.cells) (nd45.rest.noPeers) rfl (by first | (simp [Value.cells, Value.oneCell']; done) | simp [Value.cells, Value.oneCell', putL]) (by first | exact Nat.le_of_ble_eq_true rfl | (simp; done) | (simp; omega) | omega) rfl ?_
 rintro w46 A46 (hg46 : Good _ s (A46 :: os)) hax46 nd46
 refine ⟨trivial, ?_⟩
 refine RL.done ?_
 refine CW.seq (CW.plain ?_)
 refine RL.pp ?_
 refine RL.callV rfl rfl rfl rfl rfl ca77 (last_ct hg46 nd46 hR2) ?_
 rintro v47 w47 (hg47 : Good _ s (A46 :: os)) hax47 rfl
 refine ⟨trivial, ?_⟩
 refine RL.as_ rfl rfl rfl rfl (u64 (up1 n.last)) (rfl) ?_
 refine RL.call rfl rfl rfl rfl rfl ca117 (meet_ct hg47 nd46 hR2 hS (up1_rng _) hcs.fits (othersP_small hcs _)) ?_
 rintro v48 s48 A48 w48 hle48 (hg48 : Good _ s48 (A48 :: os)) hax48 ⟨rfl, h48, nd48⟩
 refine ⟨trivial, ?_⟩
 refine RL.done ?_
 refine CW.plain ?_
 refine RL.pu ?_
 refine RL.build rfl rfl rfl rfl ze65 pl65 rfl rfl ?_
 refine RL.call rfl rfl rfl rfl rfl ca78 (nput_ct hg48 nd48 hR3 hS (blankE_ok _) blankE_small h1 hp3 h3 h4) ?_
 rintro v49 s49 A49 w49 hle49 (hg49 : Good _ s49 (A49 :: os)) hax49 ⟨rfl, h49, nd49⟩
 refine ⟨trivial, ?_⟩
 refine RL.done ?_
 refine fall (vs := []) rfl ?_
 exact Post.mk (hle48.trans hle49) hg49 (hax40.trans (hax41.trans (hax42.trans (hax43.trans (hax44.trans (hax45.trans (hax46.trans (hax47.trans (hax48.trans hax49))))))))) ⟨rfl, _, nd49⟩
set_option maxRecDepth 100000 in
theorem stand_ct (hg : Good w s (A :: os)) (nd : Nd s A p h n) (hR : NRng n) (hr : n.roomy) :
  Calls Tryz.prog 101 #[ptr p] w (NPost w s os p (.tuple #[]) n.stand) := by
 obtain ⟨hS, h1, h2, h3, h4⟩ := hr
 have hcs := confP_small hS
 obtain ⟨m0, hm0⟩ : ∃ m0 : Node, m0 = { n with s := { n.s with hard := { n.s.hard with term := up1 n.s.hard.term, vote := n.s.id } } } := ⟨_, rfl⟩
 have hR2 : NRng m0 := by rw [hm0]; exact hR.of rfl (up1_rng _) hR.1 hR.2.2.2.1 rfl
 have hR3 : NRng (m0.runs 3) := hR2.of rfl hR2.2.1 hR2.2.2.1 hR2.2.2.2.1 rfl
 have hstand : n.stand = if (m0.runs 3).tally = 1 then (m0.runs 3).lead else (m0.runs 3).question 3 (m0.runs 3).s.hard.term := by rw [hm0]; rfl
 have hro : (m0.runs 3).roomy := by rw [hm0]; exact ⟨hS, h1, by simp [Node.runs, Node.addBallot], h3, h4⟩
 have hS2 : m0.s.log.small := by rw [hm0]; exact hS
 have hv2 : m0.voters.length ≤ 1073741824 := by rw [hm0]; exact hcs.1
 have hm2 : m0.o.msgs.length ≤ 34359738368 := by rw [hm0]; exact h3
 refine enter (l := [ptr p]) Tryz.func101 rfl Tryz.ntmps101 rfl ?_
 refine CW.seq (CW.plain ?_)
 refine RL.pp ?_
 refine RL.fi fl109_0 ?_
 refine RL.fi fl44_1 ?_
 refine RL.fi fl24_0 ?_
 refine RL.lo 1 ty22 nd.cells hg ?_
 refine RL.as_ rfl rfl rfl rfl (u64 (up1 n.s.hard.term)) (rfl) ?_
 refine RL.pu ?_
 refine RL.fi fl109_0 ?_
 refine RL.fi fl44_1 ?_
 refine RL.fi fl24_0 ?_
 refine RL.storeI (p := p) (i := 0) (j := 1) rfl rfl rfl ty22 rfl rfl hg rfl (nd.cells) (NRest.wTerm nd.rest) rfl (Nat.le_of_ble_eq_true rfl) rfl ?_
 rintro w50 A50 (hg50 : Good _ s (A50 :: os)) hax50 nd50
 refine ⟨trivial, ?_⟩
 refine RL.done ?_
 refine CW.seq (CW.plain ?_)
 refine RL.pp ?_
 refine RL.pu ?_
 refine RL.fi fl109_0 ?_
 refine RL.fi fl44_0 ?_
 refine RL.lo 0 ty3 nd50.cells hg50 ?_
 refine RL.pu ?_
 refine RL.fi fl109_0 ?_
 refine RL.fi fl44_1 ?_
 refine RL.fi fl24_1 ?_
 refine RL.storeI (p := p) (i := 0) (j := 2) rfl rfl rfl ty3 rfl rfl hg50 rfl (nd50.cells) (NRest.wVote nd50.rest) rfl (Nat.le_of_ble_eq_true rfl) rfl ?_
 rintro w51 A51 (hg51 : Good _ s (A51 :: os)) hax51 nd51
 refine ⟨trivial, ?_⟩
 refine RL.done ?_
 refine CW.seq ?_
 refine CW.seq (CW.plain ?_)
 refine RL.pu ?_
 refine RL.call rfl rfl rfl rfl rfl ca100 (runs_ct (n := m0) hg51 (nd51.to (by rw [hm0]; rfl)) hR2 hS2 hv2) ?_
 rintro v52 s52 A52 w52 hle52 (hg52 : Good _ s52 (A52 :: os)) hax52 ⟨rfl, h52, nd52⟩
 refine ⟨trivial, ?_⟩
 refine RL.pd ?_
 refine CW.cond rfl (fun h25 => ?_) (fun h25 => ?_)
 ·
  refine CW.seq (CW.plain ?_)
  refine RL.pu ?_
  refine RL.call rfl rfl rfl rfl rfl ca129 (lead_ct hg52 nd52 hR3 hro) ?_
  rintro v53 s53 A53 w53 hle53 (hg53 : Good _ s53 (A53 :: os)) hax53 ⟨rfl, h53, nd53⟩
  refine ⟨trivial, ?_⟩
  refine RL.done ?_
  refine CW.ret (ret (vs := []) rfl ?_)
  refine Post.mk (hle52.trans hle53) hg53 (hax50.trans (hax51.trans (hax52.trans hax53))) ⟨rfl, _, nd53.to ?_⟩
  rw [hstand, if_pos (by simpa using h25)]
 ·
  refine CW.skip (CW.plain ?_)
  refine RL.pp ?_
  refine RL.pu ?_
  refine RL.fi fl109_0 ?_
  refine RL.fi fl44_1 ?_
  refine RL.fi fl24_0 ?_
  refine RL.lo 1 ty22 nd52.cells hg52 ?_
  refine RL.call rfl rfl rfl rfl rfl ca102 (question_ct hg52 nd52 hR3 hS2 (by simp [rng]) hR3.2.1 hv2 hm2) ?_
  rintro v54 s54 A54 w54 hle54 (hg54 : Good _ s54 (A54 :: os)) hax54 ⟨rfl, ma54, mc54, nd54⟩
  refine ⟨trivial, ?_⟩
  refine RL.done ?_
  refine fall (vs := []) rfl ?_
  refine Post.mk (hle52.trans hle54) hg54 (hax50.trans (hax51.trans (hax52.trans hax54))) ⟨rfl, _, nd54.to ?_⟩
  rw [hstand, if_neg (by simpa using h25)]
set_option maxRecDepth 100000 in
theorem ask_ct (hg : Good w s (A :: os)) (nd : Nd s A p h n) (hR : NRng n) (hr : n.roomy) :
  Calls Tryz.prog 68 #[ptr p] w (NPost w s os p (.tuple #[]) n.ask) := by
 obtain ⟨hS, h1, h2, h3, h4⟩ := hr
 have hcs := confP_small hS
 have hR3 : NRng (n.runs 2) := hR.of rfl hR.2.1 hR.2.2.1 hR.2.2.2.1 rfl
 have hask : n.ask = if (n.runs 2).tally = 1 then (n.runs 2).stand else (n.runs 2).question 1 (up1 (n.runs 2).s.hard.term) := rfl
 have hro : (n.runs 2).roomy := ⟨hS, h1, by simp [Node.runs, Node.addBallot], h3, h4⟩
 refine enter (l := [ptr p]) Tryz.func68 rfl Tryz.ntmps68 rfl ?_
 refine CW.seq ?_
 refine CW.seq (CW.plain ?_)
 refine RL.pu ?_
 refine RL.call rfl rfl rfl rfl rfl ca100 (runs_ct hg nd hR hS hcs.1) ?_
 rintro v55 s55 A55 w55 hle55 (hg55 : Good _ s55 (A55 :: os)) hax55 ⟨rfl, h55, nd55⟩
 refine ⟨trivial, ?_⟩
 refine RL.pd ?_
 refine CW.cond rfl (fun h4 => ?_) (fun h4 => ?_)
 ·
  refine CW.seq (CW.plain ?_)
  refine RL.pu ?_
  refine RL.call rfl rfl rfl rfl rfl ca101 (stand_ct hg55 nd55 hR3 hro) ?_
  rintro v56 s56 A56 w56 hle56 (hg56 : Good _ s56 (A56 :: os)) hax56 ⟨rfl, h56, nd56⟩
  refine ⟨trivial, ?_⟩
  refine RL.done ?_
  refine CW.ret (ret (vs := []) rfl ?_)
  refine Post.mk (hle55.trans hle56) hg56 (hax55.trans hax56) ⟨rfl, _, nd56.to ?_⟩
  rw [hask, if_pos (by simpa using h4)]
 ·
  refine CW.skip (CW.plain ?_)
  refine RL.pp ?_
  refine RL.pu ?_
  refine RL.fi fl109_0 ?_
  refine RL.fi fl44_1 ?_
  refine RL.fi fl24_0 ?_
  refine RL.lo 1 ty22 nd55.cells hg55 ?_
  refine RL.as_ rfl rfl rfl rfl (u64 (up1 (n.runs 2).s.hard.term)) (rfl) ?_
  refine RL.call rfl rfl rfl rfl rfl ca102 (question_ct hg55 nd55 hR3 hS (by simp [rng]) (up1_rng _) hcs.1 h3) ?_
  rintro v57 s57 A57 w57 hle57 (hg57 : Good _ s57 (A57 :: os)) hax57 ⟨rfl, ma57, mc57, nd57⟩
  refine ⟨trivial, ?_⟩
  refine RL.done ?_
  refine fall (vs := []) rfl ?_
  refine Post.mk (hle55.trans hle57) hg57 (hax55.trans hax57) ⟨rfl, _, nd57.to ?_⟩
  rw [hask, if_neg (by simpa using h4)]
end
end Go.Lw

/-
 A node by the program: tick, peer.
-/
namespace Go.Lw
open Go.Proofs
attribute [local irreducible] RL RA
abbrev inpV (i : Inp) (y : Lay) (da : Option Addr) (dc : Nat) : List Value := [i64 i.kind, i64 i.timeout, i64 i.msg.kind, i64 i.msg.frm, i64 i.msg.to, u64 i.msg.term, u64 i.msg.index, u64 i.msg.logTerm, .slice y.ea i.msg.entries.length y.ec, u64 i.msg.commit, .bool i.msg.reject, u64 i.msg.hint, .slice y.va i.msg.conf.voters.length y.vc, .slice y.la i.msg.conf.learners.length y.lc, .slice y.da i.msg.data.length y.dc, .bool i.msg.done,
 .slice da i.data.length dc, i64 i.chKind, i64 i.chNode, i64 i.to]
theorem most_least (x y : Int) : (if (if (1073741824 : Int) > x then (1073741824 : Int) else x) < y then (if (1073741824 : Int) > x then (1073741824 : Int) else x) else y) = min y (max x 1073741824) := by
 rw [Int.min_def, Int.max_def]; split <;> split <;> split <;> omega
theorem one_most (x : Int) : (if (1 : Int) > x then (1 : Int) else x) = max x 1 := by
 rw [Int.max_def]; split <;> split <;> omega
section
variable {w : World} {s A : Res} {os : List Res} {p : Nat} {h : Hd} {n : Node}
theorem Node.tick_no {t : Int} (e : Int) (he : e = min (sup1 n.s.elapsed) (max n.s.elapsed 1073741824)) (hr : n.s.role ≠ 4) (hc : ¬ (max t 1 ≤ e ∧ n.votes = true)) : n.tick t = n.wElapsed e := by
 subst he; unfold Node.tick; simp only [if_pos hr]; exact if_neg hc
theorem Node.tick_ask {t : Int} (e : Int) (he : e = min (sup1 n.s.elapsed) (max n.s.elapsed 1073741824)) (hr : n.s.role ≠ 4) (hc : max t 1 ≤ e ∧ n.votes = true) : n.tick t = (n.wElapsed e).ask := by
 subst he; unfold Node.tick; simp only [if_pos hr]; exact if_pos hc
theorem Node.tick_lead {t : Int} (e : Int) (he : e = min (sup1 n.s.elapsed) (max n.s.elapsed 1073741824)) (hr : ¬ n.s.role ≠ 4) (b : Node) (hb : b = if max t 1 ≤ e then ((n.wElapsed e).wElapsed 0).wTransfer 0 else n.wElapsed e) :
  n.tick t = if 2 ≤ (sup1 b.s.beat) then ((b.wBeat (sup1 b.s.beat)).wBeat 0).spread else b.wBeat (sup1 b.s.beat) := by
 subst he hb; unfold Node.tick; simp only [if_neg hr]; rfl
set_option maxRecDepth 100000 in
set_option maxHeartbeats 1000000 in
theorem tick_ct {i : Inp} {y : Lay} {da : Option Addr} {dc : Nat} (hg : Good w s (A :: os)) (nd : Nd s A p h n) (hR : NRng n) (hr : n.roomy) :
  Calls Tryz.prog 35 #[ptr p, .agg (inpV i y da dc).toArray] w (NPost w s os p (i64 0) (n.tick i.timeout)) := by
 obtain ⟨hS, h1, h2, h3, h4⟩ := hr
 obtain ⟨e, he⟩ : ∃ e, e = min (sup1 n.s.elapsed) (max n.s.elapsed 1073741824) := ⟨_, rfl⟩
 have hR2 : NRng (n.wElapsed e) := hR
 refine enter (l := [ptr p, .agg (inpV i y da dc).toArray]) Tryz.func35 rfl Tryz.ntmps35 rfl ?_
 refine CW.seq (CW.plain ?_)
 refine RL.boxN rfl rfl rfl rfl rfl hg ?_
 rintro b1 w1 Q1 (hg1 : Good _ s (Q1 :: A :: os)) hax1 hb1
 refine ⟨trivial, ?_⟩
 refine RL.pd ?_
 refine CW.seq ?_
 have hg2 := hg1.drew
 refine CW.draws2 [(true, 0), (true, 1), (true, 2), (true, 3), (true, 4), (true, 5), (true, 6), (true, 7), (true, 8), (true, 9), (true, 10), (true, 11), (true, 12), (true, 13), (true, 14), (true, 15), (true, 16)] [(false, 17)] 17 #[true, true, true, true, true, true, true, true, true, true, true, true, true, true, true, true, true, false] (fun w => At1 p _ w ∧ True) mixed (by kernel_rfl) (by kernel_rfl) (by kernel_rfl) (by kernel_rfl) (by kernel_rfl) (⟨hg2.at1 (by simp) nd.cells, trivial⟩) ?_
 refine RL.pp ?_
 refine RL.pu ?_
 refine RL.fi fl109_0 ?_
 refine RL.fi fl44_7 ?_
 refine RL.loadT (ad := ⟨p, 0, none⟩) (j := 14) rfl rfl rfl rfl ty3 rfl (At1.holds) (fun w h => h.1.inn) rfl ?_
 refine RL.as_ rfl rfl rfl rfl (i64 (sup1 n.s.elapsed)) (rfl) ?_
 refine RL.pp ?_
 refine RL.fi fl109_0 ?_
 refine RL.fi fl44_7 ?_
 refine RL.loadT (ad := ⟨p, 0, none⟩) (j := 14) rfl rfl rfl rfl ty3 rfl (At1.holds) (fun w h => h.1.inn) rfl ?_
 refine RL.max rfl rfl rfl rfl rfl rfl ?_
 refine RL.min rfl rfl rfl rfl rfl rfl ?_
 rw [most_least, ← he]
 refine RL.pu ?_
 refine RL.fi fl109_0 ?_
 refine RL.fi fl44_7 ?_
 refine RL.done ?_
 refine RL.next trivial ?_
 refine RL.storeI (p := p) (i := 1) (j := 14) rfl rfl rfl ty3 rfl rfl hg2 rfl (nd.cells) (NRest.wElapsed nd.rest) rfl (Nat.le_of_ble_eq_true rfl) rfl ?_
 rintro w3 A3 (hg3 : Good _ s (Q1 :: A3 :: os)) hax3 nd3
 refine ⟨trivial, ?_⟩
 refine RL.done ?_
 refine CW.seq ?_
 have hg4 := hg3.drew
 refine CW.draws [(true, 0), (true, 1), (true, 2), (true, 3), (true, 4), (true, 5), (true, 6), (true, 7), (true, 8), (false, 9)] (fun w => At1 p _ w ∧ At1 b1 _ w ∧ True) mixed (by kernel_rfl) (by kernel_rfl) (by kernel_rfl) (by kernel_rfl) (⟨hg4.at1 (by simp) nd3.cells, hg4.at1 (by simp) hb1, trivial⟩) ?_
 refine RL.pp ?_
 refine RL.fi fl109_0 ?_
 refine RL.fi fl44_7 ?_
 refine RL.loadT (ad := ⟨p, 0, none⟩) (j := 14) rfl rfl rfl rfl ty3 rfl (At1.holds) (fun w h => h.1.inn) rfl ?_
 refine RL.fi fl61_1 ?_
 refine RL.loadT (ad := ⟨b1, 0, none⟩) (j := 1) rfl rfl rfl rfl ty3 rfl (At1.holds) (fun w h => h.2.1.inn) rfl ?_
 refine RL.max rfl rfl rfl rfl rfl rfl ?_
 rw [one_most]
 refine RL.pu ?_
 refine RL.pd ?_
 refine CW.seq ?_
 refine CW.block ?_
 refine CW.seq ?_
 refine CW.block ?_
 refine CW.seq ?_
 refine CW.block ?_
 refine CW.seq ?_
 refine CW.block ?_
 refine CW.seq ?_
 refine CW.block ?_
 refine CW.seq ?_
 refine CW.seq ?_
 refine CW.seq (CW.plain ?_)
 refine RL.pp ?_
 refine RL.fi fl109_0 ?_
 refine RL.fi fl44_3 ?_
 refine RL.lo 10 ty38 nd3.cells hg4 ?_
 refine RL.pp ?_
 refine RL.part 39 rfl (fun h39 => ?_) (fun h39 => ?_)
 ·
  refine RL.pp ?_
  refine RL.pu ?_
  refine RL.part 42 rfl (fun h42 => ?_) (fun h42 => ?_)
  ·
   refine RL.pu ?_
   refine RL.call rfl rfl rfl rfl rfl ca67 (votes_ct (hg4.front 1 rfl) nd3 hR2 hS) ?_
   rintro v5 s5 B5 w5 hle5 (hg5 : Good _ s5 (B5 :: A3 :: Q1 :: os)) hax5 rfl
   have hg5 := hg5.drop
   have nd6 := nd3.up hle5
   refine ⟨trivial, ?_⟩
   refine RL.pu ?_
   refine RL.pd ?_
   refine CW.cond rfl (fun h32 => ?_) (fun h32 => ?_)
   ·
    refine CW.exit ?_
    refine CW.seq ?_
    refine CW.seq (CW.plain ?_)
    refine RL.pu ?_
    refine RL.call rfl rfl rfl rfl rfl ca68 (ask_ct hg5 nd6 hR2 ⟨hS, h1, h2, h3, h4⟩) ?_
    rintro v7 s7 A7 w7 hle7 (hg7 : Good _ s7 (A7 :: Q1 :: os)) hax7 ⟨rfl, h7, nd7⟩
    refine ⟨trivial, ?_⟩
    refine RL.done ?_
    refine CW.seq (CW.plain ?_)
    refine RL.pd ?_
    refine CW.ret (ret (vs := [_]) ⟨_, _, rfl, rfl, rfl⟩ ?_)
    exact Post.mk (hle5.trans hle7) (hg7.dropNext) (hax1.trans ((Aux.drew _).trans (hax3.trans ((Aux.drew _).trans (hax5.trans hax7))))) ⟨rfl, _, nd7.to (Node.tick_ask e he (by simpa [Node.wElapsed] using h39) ⟨decide_t h42, h32⟩).symm⟩
   ·
    refine CW.skip ?_
    refine CW.seq ?_
    refine CW.seq (CW.plain ?_)
    refine RL.pp ?_
    refine RL.fi fl109_0 ?_
    refine RL.fi fl44_3 ?_
    refine RL.lo 10 ty38 nd6.cells hg5 ?_
    refine RL.pu ?_
    refine RL.pd ?_
    refine CW.cond rfl (fun h46 => ?_) (fun h46 => ?_)
    ·
     refine CW.exit ?_
     refine CW.seq ?_
     refine CW.seq (CW.plain ?_)
     refine RL.pd ?_
     refine CW.ret (ret (vs := [_]) ⟨_, _, rfl, rfl, rfl⟩ ?_)
     exact Post.mk hle5 (hg5.dropNext) (hax1.trans ((Aux.drew _).trans (hax3.trans ((Aux.drew _).trans hax5)))) ⟨rfl, _, nd6.to (Node.tick_no e he (by simpa [Node.wElapsed] using h39) (fun z => by have := z.2; rw [show n.votes = false from h32] at this; cases this)).symm⟩
    ·
     exact absurd h46 (by rw [h39]; decide)
  ·
   refine RL.qq ?_
   refine RL.pu ?_
   refine RL.pd ?_
   refine CW.no (by first | rfl | exact congrArg (fun b => some (Value.bool b)) (by assumption)) ?_
   refine CW.skip ?_
   refine CW.seq ?_
   refine CW.seq (CW.plain ?_)
   refine RL.pp ?_
   refine RL.fi fl109_0 ?_
   refine RL.fi fl44_3 ?_
   refine RL.lo 10 ty38 nd3.cells hg4 ?_
   refine RL.pu ?_
   refine RL.pd ?_
   refine CW.cond rfl (fun h46 => ?_) (fun h46 => ?_)
   ·
    refine CW.exit ?_
    refine CW.seq ?_
    refine CW.seq (CW.plain ?_)
    refine RL.pd ?_
    refine CW.ret (ret (vs := [_]) ⟨_, _, rfl, rfl, rfl⟩ ?_)
    exact Post.mk (Le.refl _) ((hg4.front 1 rfl).dropNext) (hax1.trans ((Aux.drew _).trans (hax3.trans (Aux.drew _)))) ⟨rfl, _, nd3.to (Node.tick_no e he (by simpa [Node.wElapsed] using h39) (fun z => decide_f h42 z.1)).symm⟩
   ·
    exact absurd h46 (by rw [h39]; decide)
 ·
  refine RL.pa ?_
  refine RL.pp ?_
  refine RL.qq ?_
  refine RL.pu ?_
  refine RL.pd ?_
  refine CW.no (by first | rfl | exact congrArg (fun b => some (Value.bool b)) (by assumption)) ?_
  refine CW.skip ?_
  refine CW.seq ?_
  refine CW.seq (CW.plain ?_)
  refine RL.pp ?_
  refine RL.fi fl109_0 ?_
  refine RL.fi fl44_3 ?_
  refine RL.lo 10 ty38 nd3.cells hg4 ?_
  refine RL.pu ?_
  refine RL.pd ?_
  refine CW.cond rfl (fun h46 => ?_) (fun h46 => ?_)
  ·
   exact absurd h46 (by rw [h39]; decide)
  ·
   have hro : ¬ n.s.role ≠ 4 := by simpa [Node.wElapsed] using h39
   refine CW.skip ?_
   refine CW.seq (CW.plain ?_)
   refine RL.pu ?_
   refine RL.pd ?_
   refine CW.cond rfl (fun h53 => ?_) (fun h53 => ?_)
   ·
    have hb : ((n.wElapsed e).wElapsed 0).wTransfer 0 = if max i.timeout 1 ≤ e then ((n.wElapsed e).wElapsed 0).wTransfer 0 else n.wElapsed e := (if_pos (decide_t h53)).symm
    refine CW.exit ?_
    refine CW.plain ?_
    refine RL.pp ?_
    refine RL.pu ?_
    refine RL.fi fl109_0 ?_
    refine RL.fi fl44_7 ?_
    refine RL.storeI (p := p) (i := 1) (j := 14) rfl rfl rfl ty3 rfl rfl hg4 rfl (nd3.cells) (NRest.wElapsed nd3.rest) rfl (Nat.le_of_ble_eq_true rfl) rfl ?_
    rintro w8 A8 (hg8 : Good _ s (Q1 :: A8 :: os)) hax8 nd8
    refine ⟨trivial, ?_⟩
    refine RL.pu ?_
    refine RL.fi fl109_0 ?_
    refine RL.fi fl44_9 ?_
    refine RL.storeI (p := p) (i := 1) (j := 16) rfl rfl rfl ty3 rfl rfl hg8 rfl (nd8.cells) (NRest.wTransfer nd8.rest) rfl (Nat.le_of_ble_eq_true rfl) rfl ?_
    rintro w9 A9 (hg9 : Good _ s (Q1 :: A9 :: os)) hax9 nd9
    refine ⟨trivial, ?_⟩
    refine RL.done ?_
    refine CW.seq (CW.plain ?_)
    refine RL.pp ?_
    refine RL.fi fl109_0 ?_
    refine RL.fi fl44_8 ?_
    refine RL.lo 15 ty3 nd9.cells hg9 ?_
    refine RL.as_ rfl rfl rfl rfl (i64 (sup1 n.s.beat)) (rfl) ?_
    refine RL.pu ?_
    refine RL.fi fl109_0 ?_
    refine RL.fi fl44_8 ?_
    refine RL.storeI (p := p) (i := 1) (j := 15) rfl rfl rfl ty3 rfl rfl hg9 rfl (nd9.cells) (NRest.wBeat nd9.rest) rfl (Nat.le_of_ble_eq_true rfl) rfl ?_
    rintro w10 A10 (hg10 : Good _ s (Q1 :: A10 :: os)) hax10 nd10
    refine ⟨trivial, ?_⟩
    refine RL.done ?_
    refine CW.exit ?_
    refine CW.seq ?_
    refine CW.seq (CW.plain ?_)
    refine RL.pp ?_
    refine RL.fi fl109_0 ?_
    refine RL.fi fl44_8 ?_
    refine RL.lo 15 ty3 nd10.cells hg10 ?_
    refine RL.pd ?_
    refine CW.cond rfl (fun h79 => ?_) (fun h79 => ?_)
    ·
     refine CW.seq (CW.plain ?_)
     refine RL.pp ?_
     refine RL.fi fl109_0 ?_
     refine RL.fi fl44_8 ?_
     refine RL.storeI (p := p) (i := 1) (j := 15) rfl rfl rfl ty3 rfl rfl hg10 rfl (nd10.cells) (NRest.wBeat nd10.rest) rfl (Nat.le_of_ble_eq_true rfl) rfl ?_
     rintro w11 A11 (hg11 : Good _ s (Q1 :: A11 :: os)) hax11 nd11
     refine ⟨trivial, ?_⟩
     refine RL.done ?_
     refine CW.plain ?_
     refine RL.pu ?_
     refine RL.call rfl rfl rfl rfl rfl ca69 (spread_ct (hg11.front 1 rfl) nd11 (hR.of rfl hR.2.1 hR.2.2.1 hR.2.2.2.1 rfl) hS (by show n.o.msgs.length + n.s.peers.length ≤ _; omega)) ?_
     rintro v12 s12 A12 w12 hle12 (hg12 : Good _ s12 (A12 :: Q1 :: os)) hax12 ⟨rfl, ma12, mc12, nd12⟩
     refine ⟨trivial, ?_⟩
     refine RL.done ?_
     refine CW.seq (CW.plain ?_)
     refine RL.pd ?_
     refine CW.ret (ret (vs := [_]) ⟨_, _, rfl, rfl, rfl⟩ ?_)
     exact Post.mk hle12 (hg12.dropNext) (hax1.trans ((Aux.drew _).trans (hax3.trans ((Aux.drew _).trans (hax8.trans (hax9.trans (hax10.trans (hax11.trans hax12)))))))) ⟨rfl, _, nd12.to ((Node.tick_lead e he hro _ hb).trans (if_pos (decide_t h79))).symm⟩
    ·
     refine CW.skip ?_
     refine CW.seq (CW.plain ?_)
     refine RL.pd ?_
     refine CW.ret (ret (vs := [_]) ⟨_, _, rfl, rfl, rfl⟩ ?_)
     exact Post.mk (Le.refl _) ((hg10.front 1 rfl).dropNext) (hax1.trans ((Aux.drew _).trans (hax3.trans ((Aux.drew _).trans (hax8.trans (hax9.trans hax10)))))) ⟨rfl, _, nd10.to ((Node.tick_lead e he hro _ hb).trans (if_neg (decide_f h79))).symm⟩
   ·
    have hb : n.wElapsed e = if max i.timeout 1 ≤ e then ((n.wElapsed e).wElapsed 0).wTransfer 0 else n.wElapsed e := (if_neg (decide_f h53)).symm
    refine CW.skip ?_
    refine CW.exit ?_
    refine CW.seq (CW.plain ?_)
    refine RL.pp ?_
    refine RL.fi fl109_0 ?_
    refine RL.fi fl44_8 ?_
    refine RL.lo 15 ty3 nd3.cells hg4 ?_
    refine RL.as_ rfl rfl rfl rfl (i64 (sup1 n.s.beat)) (rfl) ?_
    refine RL.pu ?_
    refine RL.fi fl109_0 ?_
    refine RL.fi fl44_8 ?_
    refine RL.storeI (p := p) (i := 1) (j := 15) rfl rfl rfl ty3 rfl rfl hg4 rfl (nd3.cells) (NRest.wBeat nd3.rest) rfl (Nat.le_of_ble_eq_true rfl) rfl ?_
    rintro w13 A13 (hg13 : Good _ s (Q1 :: A13 :: os)) hax13 nd13
    refine ⟨trivial, ?_⟩
    refine RL.done ?_
    refine CW.exit ?_
    refine CW.seq ?_
    refine CW.seq (CW.plain ?_)
    refine RL.pp ?_
    refine RL.fi fl109_0 ?_
    refine RL.fi fl44_8 ?_
    refine RL.lo 15 ty3 nd13.cells hg13 ?_
    refine RL.pd ?_
    refine CW.cond rfl (fun h79 => ?_) (fun h79 => ?_)
    ·
     refine CW.seq (CW.plain ?_)
     refine RL.pp ?_
     refine RL.fi fl109_0 ?_
     refine RL.fi fl44_8 ?_
     refine RL.storeI (p := p) (i := 1) (j := 15) rfl rfl rfl ty3 rfl rfl hg13 rfl (nd13.cells) (NRest.wBeat nd13.rest) rfl (Nat.le_of_ble_eq_true rfl) rfl ?_
     rintro w14 A14 (hg14 : Good _ s (Q1 :: A14 :: os)) hax14 nd14
     refine ⟨trivial, ?_⟩
     refine RL.done ?_
     refine CW.plain ?_
     refine RL.pu ?_
     refine RL.call rfl rfl rfl rfl rfl ca69 (spread_ct (hg14.front 1 rfl) nd14 (hR.of rfl hR.2.1 hR.2.2.1 hR.2.2.2.1 rfl) hS (by show n.o.msgs.length + n.s.peers.length ≤ _; omega)) ?_
     rintro v15 s15 A15 w15 hle15 (hg15 : Good _ s15 (A15 :: Q1 :: os)) hax15 ⟨rfl, ma15, mc15, nd15⟩
     refine ⟨trivial, ?_⟩
     refine RL.done ?_
     refine CW.seq (CW.plain ?_)
     refine RL.pd ?_
     refine CW.ret (ret (vs := [_]) ⟨_, _, rfl, rfl, rfl⟩ ?_)
     exact Post.mk hle15 (hg15.dropNext) (hax1.trans ((Aux.drew _).trans (hax3.trans ((Aux.drew _).trans (hax13.trans (hax14.trans hax15)))))) ⟨rfl, _, nd15.to ((Node.tick_lead e he hro _ hb).trans (if_pos (decide_t h79))).symm⟩
    ·
     refine CW.skip ?_
     refine CW.seq (CW.plain ?_)
     refine RL.pd ?_
     refine CW.ret (ret (vs := [_]) ⟨_, _, rfl, rfl, rfl⟩ ?_)
     exact Post.mk (Le.refl _) ((hg13.front 1 rfl).dropNext) (hax1.trans ((Aux.drew _).trans (hax3.trans ((Aux.drew _).trans hax13)))) ⟨rfl, _, nd13.to ((Node.tick_lead e he hro _ hb).trans (if_neg (decide_f h79))).symm⟩
def PeerAt (h : Hd) (n : Node) (other : Int) (a : Option Addr) : Prop :=
 (a = none ∧ n.peer other = none) ∨
 ∃ g k, ∃ hk : k < n.s.peers.length, a = some ((⟨g, 0, none⟩ : Addr).add (k * 3)) ∧ h.pa = some ⟨g, 0, none⟩ ∧ n.peer other = some n.s.peers[k] ∧ n.s.peers.findIdx? (fun p => decide (p.node = other)) = some k
theorem peer_here {l : List Peer} {other : Int} {k : Nat} (hk : k < l.length) (hp : l[k].node = other) (hn : ∀ x ∈ l.take k, decide (x.node = other) = false) : l.find? (fun p => decide (p.node = other)) = some l[k] ∧ l.findIdx? (fun p => decide (p.node = other)) = some k := by
 have hj : ∀ j (hj : j < k), decide ((l[j]'(by omega)).node = other) = false := fun j hj => hn _ (by rw [List.mem_take_iff_getElem]; exact ⟨j, by omega, rfl⟩)
 constructor
 ·
  rw [List.find?_eq_some_iff_getElem]
  exact ⟨by simpa using hp, k, hk, rfl, fun j hjk => by simpa using hj j hjk⟩
 ·
  rw [List.findIdx?_eq_some_iff_getElem]
  exact ⟨hk, by simpa using hp, fun j hjk => by simpa using hj j hjk⟩
set_option maxRecDepth 100000 in
theorem peer_ct {other : Int} (hg : Good w s (A :: os)) (nd : Nd s A p h n) :
  Calls Tryz.prog 114 #[ptr p, i64 other] w (PostV w s (A :: os) fun q => ∃ a, q = .pointer a ∧ PeerAt h n other a) := by
 have hlen := nd.peers.le_max
 simp only [maxLen] at hlen
 refine enter (l := [ptr p, i64 other]) Tryz.func114 rfl Tryz.ntmps114 rfl ?_
 refine CW.seq (CW.plain ?_)
 refine RL.pd ?_
 refine CW.seq ?_
 refine CW.seq (CW.plain ?_)
 refine RL.pp ?_
 refine RL.fi fl109_0 ?_
 refine RL.fi fl44_6 ?_
 refine RL.lo 13 ty40 nd.cells hg ?_
 refine RL.len rfl rfl rfl rfl sl40 rfl ?_
 refine RL.pd ?_
 refine CW.block ?_
 refine CW.loop (σ := Nat) (fun j E w' => Good w' s (A :: os) ∧ Aux w w' ∧ ∃ k : Nat, E = [(0, ptr p), (1, i64 other), (11, i64 n.s.peers.length), (12, i64 k)] ∧ k + j = n.s.peers.length ∧ ∀ x ∈ n.s.peers.take k, decide (x.node = other) = false) (fun j => j) n.s.peers.length [(0, ptr p), (1, i64 other), (11, i64 n.s.peers.length), (12, i64 0)] ⟨rfl, rfl, rfl, rfl, trivial⟩ ⟨hg, (Aux.refl _), 0, rfl, by omega, by simp⟩ ?_
 rintro j E wL ⟨hgL, haxL, k, rfl, hk, hno⟩
 refine CW.seq (CW.plain ?_)
 refine RL.pd ?_
 refine CW.seq ?_
 refine CW.cond rfl (fun h13 => ?_) (fun h13 => ?_)
 ·
  refine CW.skip ?_
  refine CW.seq ?_
  refine CW.block ?_
  refine CW.seq (CW.plain ?_)
  refine RL.pu ?_
  refine RL.pd ?_
  refine CW.seq (CW.plain ?_)
  refine RL.pp ?_
  refine RL.fi fl109_0 ?_
  refine RL.fi fl44_6 ?_
  refine RL.lo 13 ty40 nd.cells hgL ?_
  refine RL.pu ?_
  have hlt : k < n.s.peers.length := by have := decide_t h13; omega
  refine RL.idxL rfl rfl rfl rfl sl40 rfl rfl nd.peers.lies (by omega) (by omega) ?_
  rintro q vs hvl hH ⟨rfl, er1⟩
  refine RL.fi fl136_0 ?_
  refine RL.load (j := 0) rfl rfl rfl rfl ty3 rfl (hH) (hgL.mem (by simp)) rfl ?_
  refine RL.pu ?_
  refine RL.pd ?_
  refine CW.cond rfl (fun h25 => ?_) (fun h25 => ?_)
  ·
   refine CW.seq (CW.plain ?_)
   refine RL.pp ?_
   refine RL.fi fl109_0 ?_
   refine RL.fi fl44_6 ?_
   refine RL.lo 13 ty40 nd.cells hgL ?_
   refine RL.pu ?_
   refine RL.idxOwn rfl rfl rfl rfl sl40 rfl rfl nd.peers (by omega) (by omega) ?_
   rintro g cs vs hb hA hcs hvl2 hcell hE2
   refine RL.pd ?_
   refine CW.ret (ret (vs := [_]) ⟨_, _, rfl, rfl, rfl⟩ ?_)
   have hpn : n.s.peers[k].node = other := by simpa using h25
   obtain ⟨hf1, hf2⟩ := peer_here hlt hpn hno
   exact PostV.mk hgL haxL ⟨_, rfl, .inr ⟨g, k, hlt, rfl, hb, hf1, hf2⟩⟩
  ·
   refine CW.skip (CW.plain ?_)
   refine RL.add rfl rfl rfl rfl rfl rfl ((by simp only [rng]; omega)) ?_
   refine RL.pd ?_
   have hpn : decide (n.s.peers[k].node = other) = false := by simpa using h25
   have hno2 := takes hlt hno hpn
   cases j with
   | zero => omega
   | succ j => exact fun ac ha => ⟨j, [(0, ptr p), (1, i64 other), (11, i64 n.s.peers.length), (12, i64 ((k : Int) + 1))], ha.sub ⟨rfl, rfl, rfl, rfl, trivial⟩, ⟨hgL, haxL, k + 1, rfl, by omega, hno2⟩, Nat.lt_succ_self j⟩
 ·
  refine CW.exit ?_
  refine CW.seq (CW.plain ?_)
  refine RL.pd ?_
  refine CW.ret (ret (vs := [_]) ⟨_, _, rfl, rfl, rfl⟩ ?_)
  have hke : k = n.s.peers.length := by have := decide_f h13; omega
  rw [hke, List.take_length] at hno
  exact PostV.mk hgL haxL ⟨none, rfl, .inl ⟨rfl, List.find?_eq_none.2 fun x hx => by simpa using hno x hx⟩⟩
set_option maxRecDepth 100000 in
theorem unknown_ct {a : Value} (hg : Good w s (A :: os)) (nd : Nd s A p h n) :
  Calls Tryz.prog 34 #[ptr p, a] w (NPost w s os p (i64 1) n) := by
 refine enter (l := [ptr p, a]) Tryz.func34 rfl Tryz.ntmps34 rfl ?_
 refine CW.seq (CW.plain ?_)
 refine RL.boxN rfl rfl rfl rfl rfl hg ?_
 rintro b16 w16 Q16 (hg16 : Good _ s (Q16 :: A :: os)) hax16 hb16
 refine ⟨trivial, ?_⟩
 refine RL.pd ?_
 refine CW.seq (CW.plain ?_)
 refine RL.pd ?_
 refine CW.ret (ret (vs := [_]) ⟨_, _, rfl, rfl, rfl⟩ ?_)
 exact Post.mk (Le.refl _) ((hg16.front 1 rfl).dropNext) hax16 ⟨rfl, _, nd⟩
end
end Go.Lw
