/-
  Beats: Open, by the program.
-/
import Derived.Test.YthaomecbklmmdaaDoorOpBoB
import Derived.Test.YthaomecbklmmdaaDoorOpCodecRn
import Derived.Test.YthaomecbklmmdaaDoorOpCodecRo
namespace Go.Lw
open Go.Proofs
attribute [local irreducible] RL RA

abbrev rdF (k : Int) : Nat := if k = 2 then 17 else 15
theorem rdF_ok (k : Int) : callable Tryd.prog (rdF k) = true := by
  unfold rdF; split
  · exact (by kernel_rfl : callable Tryd.prog 17 = true)
  · exact (by kernel_rfl : callable Tryd.prog 15 = true)
theorem rdW_ct {w : World} {s A : Res} {os : List Res} {p : Nat} {bs : List Int} {st : RS} {k : Int} (hg : Good w s (A :: os)) (hR : RdObj s A p bs st) (hl : bs.length ≤ 35184372088832) :
    Calls Tryd.prog (rdF k) #[ptr p] w (Post w s os fun s' A' r => SOut (RWireF s) s' r (rdW k bs st).1 ∧ RdObj s' A' p bs (rdW k bs st).2) := by
  unfold rdF rdW
  split
  · exact beat_ct hg hR (by omega)
  · exact full_ct hg hR hl
theorem RdObj.bad {s A : Res} {p : Nat} {bs : List Int} {st : RS} (h : RdObj s A p bs st) : (st.err.isNone = true ↔ st.errno = 0) := by
  obtain ⟨_, _, a, c, v, _, _, hv⟩ := h
  cases he : st.err with
  | none => simp [RS.errno, he]
  | some q => rw [he] at hv; obtain ⟨h0, _⟩ := hv; simp [RS.errno, he]; exact h0
def OpenEnd (s0 s A : Res) (v : Value) (r : List Wire × Int) : Prop := ∃ a c, v = .tuple #[.slice a r.1.length c, i64 r.2] ∧ Own (RWireF s0) 15 44 s A a c r.1
theorem OpenEnd.bad {s0 s A : Res} {e : Int} : OpenEnd s0 s A (.tuple #[nilSl, i64 e]) ([], e) := ⟨none, 0, rfl, .inl ⟨rfl, rfl, rfl⟩⟩
abbrev pkV (x : Packet) (a : Option Addr) (c : Nat) : List Value := [i64 x.frm, i64 x.to, i64 x.kind, .slice a x.data.length c]
theorem rdWs_stop {k frm to : Int} {bs : List Int} {n : Nat} {st : RS} {xs : List Wire} (h : ¬ st.err.isNone = true) : rdWs k frm to bs n st xs = (xs, st) := by
  cases n with
  | zero => rfl
  | succ n => rw [rdWs, if_neg h]
theorem openP_end {x : Packet} {r : List Wire × RS} {n : Int} {st1 : RS} (hb : badP x = false) (e0 : rdCount x.data ⟨0, none⟩ 4096 = (n, st1)) (hr : rdWs x.kind x.frm x.to x.data n.toNat (if n = 0 then st1.fail 111 else st1) [] = r) :
    openP x = if doneOf x.data r.2 ≠ 0 then ([], doneOf x.data r.2) else (r.1, 0) := by
  simp only [openP, hb, st0P, e0, hr, Bool.false_eq_true, if_false]

set_option maxHeartbeats 2000000 in
set_option maxRecDepth 100000 in
theorem Open_ct {w : World} {s : Res} {os : List Res} {vs : List Value} {x : Packet} (hg : Good w s os) (het : Et s) (hx : RPacket s vs x) (hl : x.data.length ≤ 35184372088832) :
    Calls Tryd.prog 7 #[.agg vs.toArray] w (Post w s os fun s' A' r => OpenEnd s s' A' r (openP x)) := by
  obtain ⟨da, dc, rfl, hr1, hr2, hr3, hI⟩ := hx
  have hone : One (RWireF s) := fun s vs x h => RWire.one s vs x h.wire
  refine enter (l := [.agg (pkV x da dc).toArray]) Tryd.func7 rfl Tryd.ntmps7 rfl ?_
  refine CW.seq (CW.plain ?_)
  refine RL.box rfl rfl rfl rfl rfl hg ?_
  rintro b1 w1 hg1 hax1
  refine ⟨trivial, ?_⟩
  refine RL.pure rfl rfl rfl rfl ?_
  refine RL.pure rfl rfl rfl rfl ?_
  refine RL.done ?_
  obtain ⟨B, hB⟩ : ∃ B : Res, B = Res.one b1 (.cells (pkV x da dc).toArray 24) := ⟨_, rfl⟩
  have hH : Holds B ⟨b1, 0, none⟩ (pkV x da dc) := by rw [hB]; exact Holds.one b1 _ 24
  replace hg1 : Good w1 s (B :: os) := by rw [hB]; exact hg1
  have hin := hg1.1
  refine CW.seq (CW.plain ?_)
  refine RL.pure rfl rfl rfl rfl ?_
  refine RL.done ?_
  refine CW.meet (fun E w' => E = [(1, ptr b1), (4, .func (.func (rdF x.kind)) #[] #[])] ∧ Good w' s (B :: os) ∧ Aux w w' ∧ badP x = false) ?_ ?_
  · refine CW.block (CW.seq (CW.plain ?_))
    refine RL.field rfl rfl rfl rfl fl24_0 rfl rfl ?_
    refine RL.load (j := 0) rfl rfl rfl rfl ty3 rfl (hH) (hin) rfl ?_
    refine RL.callV rfl rfl rfl rfl rfl ca16 (bNode_ct hg1) ?_
    rintro v2 w2 hg2 hax2 rfl
    refine ⟨trivial, ?_⟩
    refine RL.pure rfl rfl rfl rfl ?_
    refine RL.pure rfl rfl rfl rfl ?_
    refine RL.part 17 rfl (fun h17 => ?_) (fun h17 => ?_)
    · refine RL.pass rfl rfl rfl ?_
      refine RL.pass rfl rfl rfl ?_
      refine RL.pass rfl rfl rfl ?_
      refine RL.pass rfl rfl rfl ?_
      refine RL.pure rfl rfl rfl rfl ?_
      refine RL.pure rfl rfl rfl rfl ?_
      refine RL.pass rfl rfl rfl ?_
      refine RL.pass rfl rfl rfl ?_
      refine RL.pass rfl rfl rfl ?_
      refine RL.pass rfl rfl rfl ?_
      refine RL.pass rfl rfl rfl ?_
      refine RL.pure rfl rfl rfl rfl ?_
      refine RL.pure rfl rfl rfl rfl ?_
      refine RL.done ?_
      refine CW.yes rfl (CW.seq (CW.plain ?_))
      refine RL.pure rfl rfl rfl rfl ?_
      refine RL.pure rfl rfl rfl rfl ?_
      refine RL.done ?_
      first
        | (rw [show openP x = ([], 1) from by simp_all [openP, badP]]
           exact CW.ret (ret (vs := [_, _]) ⟨_, _, rfl, rfl, _, _, rfl, rfl, rfl⟩ (Post.mk (Le.refl _) (Good.nil hg3.drop) (hax1.trans (hax2.trans hax3)) OpenEnd.bad)))
        | (rw [show openP x = ([], 1) from by simp_all [openP, badP]]
           exact CW.ret (ret (vs := [_, _]) ⟨_, _, rfl, rfl, _, _, rfl, rfl, rfl⟩ (Post.mk (Le.refl _) (Good.nil hg2.drop) (hax1.trans hax2) OpenEnd.bad)))
    · refine RL.field rfl rfl rfl rfl fl24_1 rfl rfl ?_
      refine RL.load (j := 1) rfl rfl rfl rfl ty3 rfl (hH) (hg2.1) rfl ?_
      refine RL.callV rfl rfl rfl rfl rfl ca16 (bNode_ct hg2) ?_
      rintro v3 w3 hg3 hax3 rfl
      refine ⟨trivial, ?_⟩
      refine RL.pure rfl rfl rfl rfl ?_
      refine RL.pure rfl rfl rfl rfl ?_
      refine RL.pure rfl rfl rfl rfl ?_
      refine RL.part 23 rfl (fun h23 => ?_) (fun h23 => ?_)
      · refine RL.pass rfl rfl rfl ?_
        refine RL.pass rfl rfl rfl ?_
        refine RL.pass rfl rfl rfl ?_
        refine RL.pass rfl rfl rfl ?_
        refine RL.pass rfl rfl rfl ?_
        refine RL.pure rfl rfl rfl rfl ?_
        refine RL.pure rfl rfl rfl rfl ?_
        refine RL.done ?_
        refine CW.yes rfl (CW.seq (CW.plain ?_))
        refine RL.pure rfl rfl rfl rfl ?_
        refine RL.pure rfl rfl rfl rfl ?_
        refine RL.done ?_
        first
          | (rw [show openP x = ([], 1) from by simp_all [openP, badP]]
             exact CW.ret (ret (vs := [_, _]) ⟨_, _, rfl, rfl, _, _, rfl, rfl, rfl⟩ (Post.mk (Le.refl _) (Good.nil hg3.drop) (hax1.trans (hax2.trans hax3)) OpenEnd.bad)))
          | (rw [show openP x = ([], 1) from by simp_all [openP, badP]]
             exact CW.ret (ret (vs := [_, _]) ⟨_, _, rfl, rfl, _, _, rfl, rfl, rfl⟩ (Post.mk (Le.refl _) (Good.nil hg2.drop) (hax1.trans hax2) OpenEnd.bad)))
      · refine RL.field rfl rfl rfl rfl fl24_0 rfl rfl ?_
        refine RL.load (j := 0) rfl rfl rfl rfl ty3 rfl (hH) (hg3.1) rfl ?_
        refine RL.field rfl rfl rfl rfl fl24_1 rfl rfl ?_
        refine RL.load (j := 1) rfl rfl rfl rfl ty3 rfl (hH) (hg3.1) rfl ?_
        refine RL.pure rfl rfl rfl rfl ?_
        refine RL.pure rfl rfl rfl rfl ?_
        refine RL.pure rfl rfl rfl rfl ?_
        refine RL.done ?_
        refine CW.cond rfl (fun hh => CW.seq (CW.plain ?_)) (fun hh => CW.seq (CW.plain ?_))
        · skip
          refine RL.pure rfl rfl rfl rfl ?_
          refine RL.pure rfl rfl rfl rfl ?_
          refine RL.done ?_
          rw [show openP x = ([], 1) from by simp_all [openP, badP]]
          exact CW.ret (ret (vs := [_, _]) ⟨_, _, rfl, rfl, _, _, rfl, rfl, rfl⟩ (Post.mk (Le.refl _) (Good.nil hg3.drop) (hax1.trans (hax2.trans hax3)) OpenEnd.bad))
        · skip
          refine RL.field rfl rfl rfl rfl fl24_2 rfl rfl ?_
          refine RL.load (j := 2) rfl rfl rfl rfl ty3 rfl (hH) (hg3.1) rfl ?_
          refine RL.pure rfl rfl rfl rfl ?_
          refine RL.pure rfl rfl rfl rfl ?_
          refine RL.done ?_
          refine CW.eq rfl (fun hk => CW.plain ?_) (fun hk => CW.seq (CW.plain ?_))
          · skip
            refine RL.pure rfl rfl rfl rfl ?_
            refine RL.done ?_
            exact fun ac ha => ⟨[(1, ptr b1), (4, .func (.func (rdF x.kind)) #[] #[])], ha.sub ⟨rfl, by simp only [rdF]; rw [if_pos hk]; rfl, trivial⟩, rfl, hg3, hax1.trans (hax2.trans hax3), by simp_all [badP]⟩
          · skip
            refine RL.field rfl rfl rfl rfl fl24_2 rfl rfl ?_
            refine RL.load (j := 2) rfl rfl rfl rfl ty3 rfl (hH) (hg3.1) rfl ?_
            refine RL.pure rfl rfl rfl rfl ?_
            refine RL.pure rfl rfl rfl rfl ?_
            refine RL.done ?_
            refine CW.cond rfl (fun h1 => CW.seq (CW.plain ?_)) (fun h1 => CW.skip ?_)
            · skip
              refine RL.pure rfl rfl rfl rfl ?_
              refine RL.pure rfl rfl rfl rfl ?_
              refine RL.done ?_
              rw [show openP x = ([], 1) from by simp_all [openP, badP]]
              exact CW.ret (ret (vs := [_, _]) ⟨_, _, rfl, rfl, _, _, rfl, rfl, rfl⟩ (Post.mk (Le.refl _) (Good.nil hg3.drop) (hax1.trans (hax2.trans hax3)) OpenEnd.bad))
            · exact fun ac ha => ⟨[(1, ptr b1), (4, .func (.func (rdF x.kind)) #[] #[])], ha.sub ⟨rfl, by simp only [rdF]; rw [if_neg hk]; rfl, trivial⟩, rfl, hg3, hax1.trans (hax2.trans hax3), by simp_all [badP]⟩
  rintro E w3 ⟨rfl, hg3, hx3, hbad⟩
  rcases e0 : rdCount x.data ⟨0, none⟩ 4096 with ⟨n, st1⟩
  have hn := rdCount_le (bs := x.data) (st := ⟨0, none⟩) (most := 4096) (by decide)
  rw [e0] at hn
  simp only at hn
  rcases e1 : rdWs x.kind x.frm x.to x.data n.toNat (if n = 0 then st1.fail 111 else st1) [] with ⟨ws, stE⟩
  rw [openP_end hbad e0 e1]
  dsimp only
  clear hg1 hin
  refine CW.seq (CW.plain ?_)
  refine RL.field rfl rfl rfl rfl fl24_3 rfl rfl ?_
  refine RL.load (j := 3) rfl rfl rfl rfl ty22 rfl (hH) (hg3.1) rfl ?_
  refine RL.call rfl rfl rfl rfl rfl ca18 (NewReader_ct hg3 (.inl rfl) hI.2.2 (by omega)) ?_
  rintro v4 s4 A4 w4 hle4 hg4 hax4 ⟨rp, rfl, hR4⟩
  refine ⟨trivial, ?_⟩
  refine RL.pure rfl rfl rfl rfl ?_
  refine RL.done ?_
  refine CW.seq (CW.plain ?_)
  refine RL.pure rfl rfl rfl rfl ?_
  refine RL.call rfl rfl rfl rfl rfl ca19 ((by have hh := RdCount_ct (most := 4096) hg4 hR4 (by simp [rng]); rw [e0] at hh; exact hh)) ?_
  rintro v5 s5 A5 w5 hle5 hg5 hax5 ⟨rfl, hA5⟩
  refine ⟨trivial, ?_⟩
  refine RL.pure rfl rfl rfl rfl ?_
  refine RL.done ?_
  have hx5 := hx3.trans (hax4.trans hax5)
  have hle45 := hle4.trans hle5
  refine CW.meet (fun E w' => ∃ s' A', E = [(1, ptr b1), (4, .func (.func (rdF x.kind)) #[] #[]), (5, ptr rp), (6, i64 n)] ∧ Good w' s' (A' :: B :: os) ∧ Le s s' ∧ Aux w w' ∧ RdObj s' A' rp x.data (if n = 0 then st1.fail 111 else st1)) ?_ ?_
  · refine CW.seq (CW.plain ?_)
    refine RL.pure rfl rfl rfl rfl ?_
    refine RL.pure rfl rfl rfl rfl ?_
    refine RL.done ?_
    refine CW.eq rfl (fun h0 => CW.plain ?_) (fun h0 => CW.skip ?_)
    · refine RL.pure rfl rfl rfl rfl ?_
      refine RL.call rfl rfl rfl rfl rfl ca20 (Fail_ct (e := 111) hg5 hA5 (by simp [rng])) ?_
      rintro v6 s6 A6 w6 hle6 hg6 hax6 ⟨_, hA6⟩
      refine ⟨trivial, ?_⟩
      refine RL.done ?_
      exact fun ac ha => ⟨[(1, ptr b1), (4, .func (.func (rdF x.kind)) #[] #[]), (5, ptr rp), (6, i64 n)], ha.sub ⟨rfl, rfl, rfl, rfl, trivial⟩, s6, A6, rfl, hg6, hle45.trans hle6, hx5.trans hax6, by rw [if_pos h0]; exact hA6⟩
    · exact fun ac ha => ⟨[(1, ptr b1), (4, .func (.func (rdF x.kind)) #[] #[]), (5, ptr rp), (6, i64 n)], ha.sub ⟨rfl, rfl, rfl, rfl, trivial⟩, s5, A5, rfl, hg5, hle45, hx5, by rw [if_neg h0]; exact hA5⟩
  clear hg3 hg4 hg5 hR4 hA5 hx5 hx3
  rintro E w6 ⟨s6, A6, rfl, hg6, hle6, hx6, hA6⟩
  refine CW.seq (CW.plain ?_)
  refine RL.pure rfl rfl rfl rfl ?_
  refine RL.done ?_
  refine CW.meet (fun E w' => ∃ s' A' L a c, E = [(5, ptr rp), (7, .slice a ws.length c)] ∧ Good w' s' (A' :: L :: B :: os) ∧ Le s s' ∧ Aux w w' ∧ RdObj s' A' rp x.data stE ∧ Own (RWireF s) 15 44 s' L a c ws) ?_ ?_
  · refine CW.seq (CW.plain ?_)
    refine RL.pure rfl rfl rfl rfl ?_
    refine RL.pure rfl rfl rfl rfl ?_
    refine RL.done ?_
    have hgL : Good w6 s6 (A6 :: Res.nil :: B :: os) := (Good.nil hg6).swap
    refine CW.block (CW.loop (σ := Nat) (fun j E w' => ∃ s' A' L a c stc xs, ∃ q : Nat, E = [(1, ptr b1), (4, .func (.func (rdF x.kind)) #[] #[]), (5, ptr rp), (7, .slice a xs.length c), (47, i64 n), (48, i64 q)] ∧ Good w' s' (A' :: L :: B :: os) ∧ Le s s' ∧ Aux w w' ∧ RdObj s' A' rp x.data stc ∧
        Own (RWireF s) 15 44 s' L a c xs ∧ rdWs x.kind x.frm x.to x.data j stc xs = (ws, stE) ∧ q + j = n.toNat ∧ xs.length = q)
      (fun j => j) n.toNat [(1, ptr b1), (4, .func (.func (rdF x.kind)) #[] #[]), (5, ptr rp), (7, nilSl), (47, i64 n), (48, i64 0)] ⟨rfl, rfl, rfl, rfl, rfl, rfl, trivial⟩ ⟨s6, A6, Res.nil, none, 0, _, [], 0, rfl, hgL, hle6, hx6, hA6, .inl ⟨rfl, rfl, rfl⟩, e1, by omega, rfl⟩ ?_)
    clear hg6 hgL hA6 hx6 hle6
    rintro j E w7 ⟨s7, A7, L7, a, c, stc, xs, q, rfl, hg7, hle7, hx7, hA7, ho7, hrest, hq, hxl⟩
    refine CW.seq (CW.plain ?_)
    refine RL.pure rfl rfl rfl rfl ?_
    refine RL.done ?_
    refine CW.seq (CW.test rfl (fun h => CW.skip ?_) (fun h => CW.exit ?_))
    · cases j with
      | zero => omega
      | succ j =>
        refine CW.seq (CW.block ?_)
        refine CW.seq (CW.seq (CW.plain ?_))
        refine RL.pure rfl rfl rfl rfl ?_
        refine RL.callV rfl rfl rfl rfl rfl ca21 (Err_ct hg7 (het.le hle7) hA7) ?_
        rintro v8 w8 hg8 hax8 rfl
        refine ⟨trivial, ?_⟩
        refine RL.pure rfl rfl rfl rfl ?_
        refine RL.pure rfl rfl rfl rfl ?_
        refine RL.pure rfl rfl rfl rfl ?_
        refine RL.pure rfl rfl rfl rfl ?_
        refine RL.pure rfl rfl rfl rfl ?_
        refine RL.done ?_
        refine CW.seq (CW.plain ?_)
        refine RL.pure rfl rfl rfl rfl ?_
        refine RL.pure rfl rfl rfl rfl ?_
        refine RL.done ?_
        refine CW.cond rfl (fun hh => CW.seq (CW.plain ?_)) (fun hh => CW.skip ?_)
        · have hh : stc.errno ≠ 0 := by simpa using hh
          refine RL.pure rfl rfl rfl rfl ?_
          refine RL.pure rfl rfl rfl rfl ?_
          refine RL.pure rfl rfl rfl rfl ?_
          refine RL.done ?_
          rw [rdWs_stop (fun h => hh (hA7.bad.1 h))] at hrest
          obtain ⟨rfl, rfl⟩ := Prod.mk.inj hrest
          rw [show doneOf x.data stc = stc.errno from by simp [doneOf, hh], if_pos hh]
          exact CW.ret (ret (vs := [_, _]) ⟨_, _, rfl, rfl, _, _, rfl, rfl, rfl⟩ (Post.mk hle7 (Good.nil hg8.drop.drop.drop) (hx7.trans hax8) OpenEnd.bad))
        · have hh : stc.errno = 0 := by simpa using hh
          rw [rdWs, if_pos (hA7.bad.2 hh)] at hrest
          refine CW.seq (CW.plain ?_)
          refine RL.pure rfl rfl rfl rfl ?_
          refine RL.pure rfl rfl rfl rfl ?_
          refine RL.callF rfl rfl rfl rfl rfl rfl (rdF_ok x.kind) (rdW_ct (k := x.kind) hg8 hA7 hl) ?_
          rintro e9 w9 ⟨v9, s9, A9, rfl, hle9, hg9, hax9, ⟨vw, rfl, y, rfl, hW1, hW2, hW3⟩, hA9⟩
          refine ⟨_, rfl, trivial, ?_⟩
          refine RL.alloc rfl rfl rfl rfl ze44 hg9 ?_
          rintro b10 w10 hg10 hax10
          refine ⟨trivial, ?_⟩
          refine RL.store (i := 0) (j := 0) rfl rfl rfl ty44 rfl rfl hg10 rfl (if_pos rfl) rfl (by first | (simp [Value.cells, Value.oneCell']; done) | simp [Value.cells, Value.oneCell', putL]) (by first | exact Nat.le_of_ble_eq_true rfl | (simp; done) | (simp; omega) | omega) ?_
          rintro w11 hg11 hax11
          refine ⟨trivial, ?_⟩
          refine RL.done ?_
          obtain ⟨X, hX⟩ : ∃ X : Wire, X = (rdW x.kind x.data stc).1 := ⟨_, rfl⟩
          rw [← hX] at hW1 hW2 hW3 hrest hg11
          obtain ⟨T, hg12, hT⟩ : ∃ T, Good w11 s9 (T :: A9 :: L7 :: B :: os) ∧ T b10 = some (.cells (wv X.group X.msg.kind X.msg.frm X.msg.to X.msg.term X.msg.index X.msg.logTerm (.slice y.ea X.msg.entries.length y.ec) X.msg.commit X.msg.reject X.msg.hint (.slice y.va X.msg.conf.voters.length y.vc) (.slice y.la X.msg.conf.learners.length y.lc) (.slice y.da X.msg.data.length y.dc) X.msg.done).toArray 44 (0, 0)) := ⟨_, hg11, put_same _ _ _⟩
          refine CW.seq ?_
          refine CW.draws [(true, 0), (true, 1), (true, 2), (true, 3), (true, 4), (true, 5), (false, 6), (true, 7), (true, 8), (false, 9)] (fun w => In B w) mixed (by kernel_rfl) (by kernel_rfl) (by kernel_rfl) (by kernel_rfl) (hg12.drew.mem (by simp)) ?_
          refine RL.field rfl rfl rfl rfl fl24_0 rfl rfl ?_
          refine RL.loadT (j := 0) rfl rfl rfl rfl ty3 rfl (hH) (fun w h => h) rfl ?_
          refine RL.field rfl rfl rfl rfl fl24_1 rfl rfl ?_
          refine RL.loadT (j := 1) rfl rfl rfl rfl ty3 rfl (hH) (fun w h => h) rfl ?_
          refine RL.field rfl rfl rfl rfl fl44_1 rfl rfl ?_
          refine RL.field rfl rfl rfl rfl fl42_1 rfl rfl ?_
          refine RL.store (i := 0) (j := 2) rfl rfl rfl ty3 rfl rfl hg12.drew rfl (hT) rfl (by first | (simp [Value.cells, Value.oneCell']; done) | simp [Value.cells, Value.oneCell', putL]) (by first | exact Nat.le_of_ble_eq_true rfl | (simp; done) | (simp; omega) | omega) ?_
          rintro w13 hg13 hax13
          refine ⟨hg13.mem (by simp), ?_⟩
          refine RL.field rfl rfl rfl rfl fl44_1 rfl rfl ?_
          refine RL.field rfl rfl rfl rfl fl42_2 rfl rfl ?_
          refine RL.store (i := 0) (j := 3) rfl rfl rfl ty3 rfl rfl hg13 rfl (put_same _ _ _) rfl (by first | (simp [Value.cells, Value.oneCell']; done) | simp [Value.cells, Value.oneCell', putL]) (by first | exact Nat.le_of_ble_eq_true rfl | (simp; done) | (simp; omega) | omega) ?_
          rintro w14 hg14 hax14
          refine ⟨hg14.mem (by simp), ?_⟩
          refine RL.done ?_
          have hx14 := hx7.trans (hax8.trans (hax9.trans (hax10.trans (hax11.trans ((Aux.drew _).trans (hax13.trans hax14))))))
          obtain ⟨Z, hZ⟩ : ∃ Z : Wire, Z = setFT x.frm x.to X := ⟨_, rfl⟩
          obtain ⟨T', hg15, hT'⟩ : ∃ T, Good w14 s9 (T :: A9 :: L7 :: B :: os) ∧ T b10 = some (.cells (wireV Z y).toArray 44 (0, 0)) := by
            subst hZ; exact ⟨_, hg14, put_same _ _ _⟩
          have hWZ : RWireF s s9 (wireV Z y) Z := by
            subst hZ
            exact RWireF.old ⟨y, rfl, hW1, { hW2 with frm := hr1, to := hr2 }, hW3⟩ hle7
          rw [← hZ] at hrest
          refine CW.plain ?_
          refine RL.pure rfl rfl rfl rfl ?_
          refine RL.loads (j := 0) (us := (wireV Z y)) rfl rfl rfl rfl ty44 rfl (Holds.of hT') (hg15.1) rfl rfl ?_
          refine RL.buildSlice rfl rfl rfl rfl sl26 ze44 rfl rfl rfl rfl hg15 ?_
          rintro p71 w16 hg16 hax16
          refine ⟨trivial, ?_⟩
          refine RL.append (i := 3) (ys := [Z]) rfl rfl rfl rfl sl26 ze44 rfl (by first | exact RInt.one _ | exact RStr.one | exact RBool.one | assumption) rfl rfl hg16 rfl (ho7.up (RWireF.up s) hle9) ((Src.slice sl26 rfl (.inr ⟨_, rfl, Holds.one p71 _ 44⟩) hg16.1)) ((Chunks.single rfl hWZ)) ((by simp only [List.length_singleton]; omega)) (by omega) ?_
          rintro a17 c17 L17 w17 hg17 ho17 hax17 hk17
          refine ⟨trivial, ?_⟩
          refine RL.pure rfl rfl rfl rfl ?_
          refine RL.done ?_
          refine CW.plain ?_
          refine RL.add rfl rfl rfl rfl rfl rfl (by simp only [rng] at *; omega) ?_
          refine RL.pure rfl rfl rfl rfl ?_
          refine RL.done ?_
          exact fun ac ha => ⟨j, [(1, ptr b1), (4, .func (.func (rdF x.kind)) #[] #[]), (5, ptr rp), (7, .slice a17 (xs ++ [Z]).length c17), (47, i64 n), (48, i64 ((q + 1 : Nat) : Int))], ha.sub ⟨rfl, rfl, rfl, rfl, rfl, rfl, trivial⟩, ⟨s9, A9, L17, a17, c17, _, _, q + 1, rfl, hg17.drop.drop, hle7.trans hle9, hx14.trans (hax16.trans hax17), hA9, ho17, hrest, by omega, by simp [hxl]⟩, Nat.lt_succ_self j⟩
    · have hj : j = 0 := by omega
      subst hj
      obtain ⟨rfl, rfl⟩ := Prod.mk.inj (show (xs, stc) = (ws, stE) from hrest)
      exact fun ac ha => ⟨[(5, ptr rp), (7, .slice a xs.length c)], ha.sub ⟨rfl, rfl, trivial⟩, s7, A7, L7, a, c, rfl, hg7, hle7, hx7, hA7, ho7⟩
  clear hg6 hA6
  rintro E w8 ⟨s8, A8, L8, a8, c8, rfl, hg8, hle8, hx8, hA8, ho8⟩
  refine CW.seq (CW.seq (CW.plain ?_))
  refine RL.pure rfl rfl rfl rfl ?_
  refine RL.callV rfl rfl rfl rfl rfl ca22 (RDone_ct hg8 (het.le hle8) hA8) ?_
  rintro v9 w9 hg9 hax9 rfl
  refine ⟨trivial, ?_⟩
  refine RL.pure rfl rfl rfl rfl ?_
  refine RL.done ?_
  refine CW.seq (CW.plain ?_)
  refine RL.pure rfl rfl rfl rfl ?_
  refine RL.pure rfl rfl rfl rfl ?_
  refine RL.done ?_
  refine CW.cond rfl (fun hh => CW.seq (CW.plain ?_)) (fun hh => CW.skip (CW.seq (CW.plain ?_)))
  · have hh : doneOf x.data stE ≠ 0 := by simpa [doneOf] using hh
    refine RL.pure rfl rfl rfl rfl ?_
    refine RL.pure rfl rfl rfl rfl ?_
    refine RL.pure rfl rfl rfl rfl ?_
    refine RL.done ?_
    rw [if_pos hh]
    exact CW.ret (ret (vs := [_, _]) ⟨_, _, rfl, rfl, _, _, rfl, rfl, rfl⟩ (Post.mk hle8 (Good.nil hg9.drop.drop.drop) (hx8.trans hax9) OpenEnd.bad))
  · have hh : doneOf x.data stE = 0 := by simpa [doneOf] using hh
    refine RL.pure rfl rfl rfl rfl ?_
    refine RL.pure rfl rfl rfl rfl ?_
    refine RL.pure rfl rfl rfl rfl ?_
    refine RL.done ?_
    rw [show (if doneOf x.data stE ≠ 0 then (([], doneOf x.data stE) : List Wire × Int) else (ws, 0)) = (ws, 0) from if_neg (fun h => h hh)]
    exact CW.ret (ret (vs := [_, _]) ⟨_, _, rfl, rfl, _, _, rfl, rfl, rfl⟩ (Post.mk hle8 hg9.drop.dropNext (hx8.trans hax9) ⟨a8, c8, rfl, ho8⟩))
end Go.Lw
