/-
  Beats: Open, by the document.
-/
import Derived.Test.YthaomecbklmmdaaDoorOpBoC
import Derived.Test.YthaomecbklmmdaaDoorOpBoD
import Derived.Test.YthaomecbklmmdaaDoorOpBxI
import Derived.Test.YthaomecbklmmdaaDoorOpBoP
namespace Go.Lw
open Go.Proofs
attribute [local irreducible] RL RA

def DOpenEnd (s A : Res) (v : Value) (r : List Wire × Int) : Prop := ∃ a c, v = .tuple #[.slice a r.1.length c, i64 r.2] ∧ Own RWire 15 51 s A a c r.1
theorem DOpenEnd.bad {s A : Res} {e : Int} : DOpenEnd s A (.tuple #[nilSl, i64 e]) ([], e) := ⟨none, 0, rfl, .inl ⟨rfl, rfl, rfl⟩⟩
theorem rdFull0_fits {bs : List Int} {st : RS} (hl : bs.length ≤ 35184372088832) : (rdFull0 bs st).1.msg.fits := by
  unfold rdFull0
  simp only [Msg.fits, Msg.lens, mkMsg]
  rw [rdEs_len]
  have h1 := rdCount_le (bs := bs) (st := (rdUint bs (rdUint bs (rdUint bs (rdInt bs (rdUint bs st).2).2).2).2).2) (most := 8) (by decide)
  have h2 := rdConf_len bs (rdUint bs (rdBool bs (rdUint bs (rdEs bs (rdCount bs (rdUint bs (rdUint bs (rdUint bs (rdInt bs (rdUint bs st).2).2).2).2).2 8).1.toNat (rdCount bs (rdUint bs (rdUint bs (rdUint bs (rdInt bs (rdUint bs st).2).2).2).2).2 8).2 []).2).2).2).2
  have h3 := rdBytes_len bs (rdConf bs (rdUint bs (rdBool bs (rdUint bs (rdEs bs (rdCount bs (rdUint bs (rdUint bs (rdUint bs (rdInt bs (rdUint bs st).2).2).2).2).2 8).1.toNat (rdCount bs (rdUint bs (rdUint bs (rdUint bs (rdInt bs (rdUint bs st).2).2).2).2).2 8).2 []).2).2).2).2).2 262144
  simp only [List.length_nil]
  omega
theorem fail_some {st : RS} {e : Int} (h : ¬ st.err.isNone = true) : st.fail e = st := by
  unfold RS.fail RS.failAt
  rw [if_neg]
  intro hh
  simp only [Bool.and_eq_true] at hh
  exact h hh.1
theorem RrObj.bad {s A : Res} {p : Nat} {bs : List Int} {st : RS} (h : RrObj s A p bs st) : (st.err.isNone = true ↔ st.errno = 0) := by
  obtain ⟨_, _, a, c, b, _, _, hv⟩ := h
  cases he : st.err with
  | none => simp [RS.errno, he]
  | some q => obtain ⟨h0, _⟩ := hv.1 q.1 q.2 he; simp [RS.errno, he]; exact h0
theorem rdW_one (bs : List Int) (st : RS) : rdW 1 bs st = ((rdW0 1 bs st).1, if oddP (rdW0 1 bs st).1.msg = true then (rdW0 1 bs st).2.fail 111 else (rdW0 1 bs st).2) := rfl
theorem rdW_fst (k : Int) (bs : List Int) (st : RS) : (rdW0 k bs st).1 = (rdW k bs st).1 := by
  unfold rdW0 rdW
  split <;> rfl

set_option maxHeartbeats 2000000 in
set_option maxRecDepth 100000 in
theorem dOpen_ct {w : World} {s : Res} {os : List Res} {vs : List Value} {x : Packet} (hg : Good w s os) (hx : RPacket s vs x) (hl : x.data.length ≤ 35184372088832) :
    Calls Tryd.prog 8 #[.agg vs.toArray] w (Post w s os fun s' A' r => DOpenEnd s' A' r (openP x)) := by
  obtain ⟨da, dc, rfl, hr1, hr2, hr3, hI⟩ := hx
  have hone := RWire.one
  refine enter (l := [.agg (pkV x da dc).toArray]) Tryd.func8 rfl Tryd.ntmps8 rfl ?_
  refine CW.seq (CW.plain ?_)
  refine RL.box rfl rfl rfl rfl rfl hg ?_
  rintro b1 w1 hg1 hax1
  refine ⟨trivial, ?_⟩
  refine RL.pure rfl rfl rfl rfl ?_
  refine RL.pure rfl rfl rfl rfl ?_
  refine RL.done ?_
  obtain ⟨B, hB⟩ : ∃ B : Res, B = Res.one b1 (.cells (pkV x da dc).toArray 24) := ⟨_, rfl⟩
  have hH : Holds B ⟨b1, 0, none⟩ (pkV x da dc) := by rw [hB]; exact Holds.one b1 _ 24
  replace hg1 : Good w1 s (B :: os) := by rw [hB]; exact hg1
  refine CW.seq (CW.plain ?_)
  refine RL.field rfl rfl rfl rfl fl24_0 rfl rfl ?_
  refine RL.load (j := 0) rfl rfl rfl rfl ty3 rfl (hH) (hg1.1) rfl ?_
  refine RL.callV rfl rfl rfl rfl rfl ca23 (dNode_ct hg1) ?_
  rintro v2 w2 hg2 hax2 rfl
  refine ⟨trivial, ?_⟩
  refine RL.pure rfl rfl rfl rfl ?_
  refine RL.done ?_
  refine CW.seq (CW.plain ?_)
  refine RL.field rfl rfl rfl rfl fl24_1 rfl rfl ?_
  refine RL.load (j := 1) rfl rfl rfl rfl ty3 rfl (hH) (hg2.1) rfl ?_
  refine RL.callV rfl rfl rfl rfl rfl ca23 (dNode_ct hg2) ?_
  rintro v3 w3 hg3 hax3 rfl
  refine ⟨trivial, ?_⟩
  refine RL.pure rfl rfl rfl rfl ?_
  refine RL.done ?_
  have hx3 := hax1.trans (hax2.trans hax3)
  refine CW.meet (fun E w' => E = [(1, ptr b1)] ∧ w' = w3 ∧ badP x = false) ?_ ?_
  · refine CW.seq (CW.plain ?_)
    refine RL.field rfl rfl rfl rfl fl24_2 rfl rfl ?_
    refine RL.load (j := 2) rfl rfl rfl rfl ty3 rfl (hH) (hg3.1) rfl ?_
    refine RL.pure rfl rfl rfl rfl ?_
    refine RL.pure rfl rfl rfl rfl ?_
    refine RL.part 23 rfl (fun h23 => ?_) (fun h23 => ?_)
    · refine RL.field rfl rfl rfl rfl fl24_2 rfl rfl ?_
      refine RL.load (j := 2) rfl rfl rfl rfl ty3 rfl (hH) (hg3.1) rfl ?_
      refine RL.pure rfl rfl rfl rfl ?_
      refine RL.pure rfl rfl rfl rfl ?_
      refine RL.pure rfl rfl rfl rfl ?_
      refine RL.part 28 rfl (fun h28 => ?_) (fun h28 => ?_)
      · refine RL.pass rfl rfl rfl ?_
        refine RL.pass rfl rfl rfl ?_
        refine RL.pure rfl rfl rfl rfl ?_
        refine RL.pure rfl rfl rfl rfl ?_
        refine RL.pass rfl rfl rfl ?_
        refine RL.pass rfl rfl rfl ?_
        refine RL.pure rfl rfl rfl rfl ?_
        refine RL.pure rfl rfl rfl rfl ?_
        refine RL.pass rfl rfl rfl ?_
        refine RL.pass rfl rfl rfl ?_
        refine RL.pass rfl rfl rfl ?_
        refine RL.pass rfl rfl rfl ?_
        refine RL.pass rfl rfl rfl ?_
        refine RL.pure rfl rfl rfl rfl ?_
        refine RL.done ?_
        refine CW.yes rfl (CW.seq (CW.plain ?_))
        refine RL.pure rfl rfl rfl rfl ?_
        refine RL.pure rfl rfl rfl rfl ?_
        refine RL.done ?_
        rw [show openP x = ([], 1) from by simp_all [openP, badP]]
        exact CW.ret (ret (vs := [_, _]) ⟨_, _, rfl, rfl, _, _, rfl, rfl, rfl⟩ (Post.mk (Le.refl _) (Good.nil hg3.drop) hx3 DOpenEnd.bad))
      · refine RL.pure rfl rfl rfl rfl ?_
        refine RL.pure rfl rfl rfl rfl ?_
        refine RL.pure rfl rfl rfl rfl ?_
        refine RL.pure rfl rfl rfl rfl ?_
        refine RL.part 32 rfl (fun h32 => ?_) (fun h32 => ?_)
        · refine RL.pass rfl rfl rfl ?_
          refine RL.pass rfl rfl rfl ?_
          refine RL.pure rfl rfl rfl rfl ?_
          refine RL.pure rfl rfl rfl rfl ?_
          refine RL.pass rfl rfl rfl ?_
          refine RL.pass rfl rfl rfl ?_
          refine RL.pass rfl rfl rfl ?_
          refine RL.pass rfl rfl rfl ?_
          refine RL.pass rfl rfl rfl ?_
          refine RL.pure rfl rfl rfl rfl ?_
          refine RL.done ?_
          refine CW.yes rfl (CW.seq (CW.plain ?_))
          refine RL.pure rfl rfl rfl rfl ?_
          refine RL.pure rfl rfl rfl rfl ?_
          refine RL.done ?_
          rw [show openP x = ([], 1) from by simp_all [openP, badP]]
          exact CW.ret (ret (vs := [_, _]) ⟨_, _, rfl, rfl, _, _, rfl, rfl, rfl⟩ (Post.mk (Le.refl _) (Good.nil hg3.drop) hx3 DOpenEnd.bad))
        · refine RL.pure rfl rfl rfl rfl ?_
          refine RL.pure rfl rfl rfl rfl ?_
          refine RL.pure rfl rfl rfl rfl ?_
          refine RL.pure rfl rfl rfl rfl ?_
          refine RL.part 36 rfl (fun h36 => ?_) (fun h36 => ?_)
          · refine RL.pass rfl rfl rfl ?_
            refine RL.pass rfl rfl rfl ?_
            refine RL.pass rfl rfl rfl ?_
            refine RL.pass rfl rfl rfl ?_
            refine RL.pass rfl rfl rfl ?_
            refine RL.pure rfl rfl rfl rfl ?_
            refine RL.done ?_
            refine CW.yes rfl (CW.seq (CW.plain ?_))
            refine RL.pure rfl rfl rfl rfl ?_
            refine RL.pure rfl rfl rfl rfl ?_
            refine RL.done ?_
            rw [show openP x = ([], 1) from by simp_all [openP, badP]]
            exact CW.ret (ret (vs := [_, _]) ⟨_, _, rfl, rfl, _, _, rfl, rfl, rfl⟩ (Post.mk (Le.refl _) (Good.nil hg3.drop) hx3 DOpenEnd.bad))
          · refine RL.field rfl rfl rfl rfl fl24_0 rfl rfl ?_
            refine RL.load (j := 0) rfl rfl rfl rfl ty3 rfl (hH) (hg3.1) rfl ?_
            refine RL.field rfl rfl rfl rfl fl24_1 rfl rfl ?_
            refine RL.load (j := 1) rfl rfl rfl rfl ty3 rfl (hH) (hg3.1) rfl ?_
            refine RL.pure rfl rfl rfl rfl ?_
            refine RL.pure rfl rfl rfl rfl ?_
            refine RL.done ?_
            refine CW.cond rfl (fun hh => CW.seq (CW.plain ?_)) (fun hh => CW.skip ?_)
            · skip
              refine RL.pure rfl rfl rfl rfl ?_
              refine RL.pure rfl rfl rfl rfl ?_
              refine RL.done ?_
              rw [show openP x = ([], 1) from by simp_all [openP, badP]]
              exact CW.ret (ret (vs := [_, _]) ⟨_, _, rfl, rfl, _, _, rfl, rfl, rfl⟩ (Post.mk (Le.refl _) (Good.nil hg3.drop) hx3 DOpenEnd.bad))
            · exact fun ac ha => ⟨[(1, ptr b1)], ha.sub ⟨rfl, trivial⟩, rfl, rfl, by simp_all [badP]⟩
    · refine RL.pass rfl rfl rfl ?_
      refine RL.pass rfl rfl rfl ?_
      refine RL.pass rfl rfl rfl ?_
      refine RL.pure rfl rfl rfl rfl ?_
      refine RL.pure rfl rfl rfl rfl ?_
      refine RL.pure rfl rfl rfl rfl ?_
      refine RL.pure rfl rfl rfl rfl ?_
      refine RL.pure rfl rfl rfl rfl ?_
      refine RL.pure rfl rfl rfl rfl ?_
      refine RL.part 32 rfl (fun h32 => ?_) (fun h32 => ?_)
      · refine RL.pass rfl rfl rfl ?_
        refine RL.pass rfl rfl rfl ?_
        refine RL.pure rfl rfl rfl rfl ?_
        refine RL.pure rfl rfl rfl rfl ?_
        refine RL.pass rfl rfl rfl ?_
        refine RL.pass rfl rfl rfl ?_
        refine RL.pass rfl rfl rfl ?_
        refine RL.pass rfl rfl rfl ?_
        refine RL.pass rfl rfl rfl ?_
        refine RL.pure rfl rfl rfl rfl ?_
        refine RL.done ?_
        refine CW.yes rfl (CW.seq (CW.plain ?_))
        refine RL.pure rfl rfl rfl rfl ?_
        refine RL.pure rfl rfl rfl rfl ?_
        refine RL.done ?_
        rw [show openP x = ([], 1) from by simp_all [openP, badP]]
        exact CW.ret (ret (vs := [_, _]) ⟨_, _, rfl, rfl, _, _, rfl, rfl, rfl⟩ (Post.mk (Le.refl _) (Good.nil hg3.drop) hx3 DOpenEnd.bad))
      · refine RL.pure rfl rfl rfl rfl ?_
        refine RL.pure rfl rfl rfl rfl ?_
        refine RL.pure rfl rfl rfl rfl ?_
        refine RL.pure rfl rfl rfl rfl ?_
        refine RL.part 36 rfl (fun h36 => ?_) (fun h36 => ?_)
        · refine RL.pass rfl rfl rfl ?_
          refine RL.pass rfl rfl rfl ?_
          refine RL.pass rfl rfl rfl ?_
          refine RL.pass rfl rfl rfl ?_
          refine RL.pass rfl rfl rfl ?_
          refine RL.pure rfl rfl rfl rfl ?_
          refine RL.done ?_
          refine CW.yes rfl (CW.seq (CW.plain ?_))
          refine RL.pure rfl rfl rfl rfl ?_
          refine RL.pure rfl rfl rfl rfl ?_
          refine RL.done ?_
          rw [show openP x = ([], 1) from by simp_all [openP, badP]]
          exact CW.ret (ret (vs := [_, _]) ⟨_, _, rfl, rfl, _, _, rfl, rfl, rfl⟩ (Post.mk (Le.refl _) (Good.nil hg3.drop) hx3 DOpenEnd.bad))
        · refine RL.field rfl rfl rfl rfl fl24_0 rfl rfl ?_
          refine RL.load (j := 0) rfl rfl rfl rfl ty3 rfl (hH) (hg3.1) rfl ?_
          refine RL.field rfl rfl rfl rfl fl24_1 rfl rfl ?_
          refine RL.load (j := 1) rfl rfl rfl rfl ty3 rfl (hH) (hg3.1) rfl ?_
          refine RL.pure rfl rfl rfl rfl ?_
          refine RL.pure rfl rfl rfl rfl ?_
          refine RL.done ?_
          refine CW.cond rfl (fun hh => CW.seq (CW.plain ?_)) (fun hh => CW.skip ?_)
          · skip
            refine RL.pure rfl rfl rfl rfl ?_
            refine RL.pure rfl rfl rfl rfl ?_
            refine RL.done ?_
            rw [show openP x = ([], 1) from by simp_all [openP, badP]]
            exact CW.ret (ret (vs := [_, _]) ⟨_, _, rfl, rfl, _, _, rfl, rfl, rfl⟩ (Post.mk (Le.refl _) (Good.nil hg3.drop) hx3 DOpenEnd.bad))
          · exact fun ac ha => ⟨[(1, ptr b1)], ha.sub ⟨rfl, trivial⟩, rfl, rfl, by simp_all [badP]⟩
  rintro E w3 ⟨rfl, rfl, hbad⟩
  have hkind : x.kind = 1 ∨ x.kind = 2 := by
    simp only [badP, Bool.or_eq_false_iff, Bool.and_eq_false_iff, decide_eq_false_iff_not, Decidable.not_not] at hbad
    exact hbad.2
  rcases e0 : rdCount x.data ⟨0, none⟩ 4096 with ⟨n, st1⟩
  have hn := rdCount_le (bs := x.data) (st := ⟨0, none⟩) (most := 4096) (by decide)
  rw [e0] at hn
  simp only at hn
  rcases e1 : rdWs x.kind x.frm x.to x.data n.toNat (if n = 0 then st1.fail 111 else st1) [] with ⟨ws, stE⟩
  rw [openP_end hbad e0 e1]
  dsimp only
  refine CW.seq (CW.plain ?_)
  refine RL.field rfl rfl rfl rfl fl24_3 rfl rfl ?_
  refine RL.load (j := 3) rfl rfl rfl rfl ty22 rfl (hH) (hg3.1) rfl ?_
  refine RL.build rfl rfl rfl rfl ze65 pl65 rfl rfl ?_
  refine RL.box rfl rfl rfl rfl rfl hg3 ?_
  rintro rp w4 hg4 hax4
  refine ⟨trivial, ?_⟩
  refine RL.pure rfl rfl rfl rfl ?_
  refine RL.done ?_
  have hR4 : RrObj s (Res.one rp (.cells #[.slice da x.data.length dc, i64 0, i64 0, i64 0] 65)) rp x.data ⟨0, none⟩ := ⟨Int.le_refl 0, (by show (0 : Int) ≤ x.data.length; omega), da, dc, 0, if_pos rfl, hI, ⟨fun _ _ h => (by cases h), fun _ => rfl⟩⟩
  refine CW.seq (CW.plain ?_)
  refine RL.pure rfl rfl rfl rfl ?_
  refine RL.call rfl rfl rfl rfl rfl ca24 ((by have hh := RrCount_ct (most := 4096) hg4 hR4 (by simp [rng]); rw [e0] at hh; exact hh)) ?_
  rintro v5 s5 A5 w5 hle5 hg5 hax5 ⟨rfl, hA5⟩
  refine ⟨trivial, ?_⟩
  refine RL.pure rfl rfl rfl rfl ?_
  refine RL.done ?_
  have hx5 := hx3.trans (hax4.trans hax5)
  refine CW.meet (fun E w' => ∃ s' A', E = [(1, ptr b1), (6, ptr rp), (7, i64 n)] ∧ Good w' s' (A' :: B :: os) ∧ Le s s' ∧ Aux w w' ∧ RrObj s' A' rp x.data (if n = 0 then st1.fail 111 else st1)) ?_ ?_
  · refine CW.seq (CW.plain ?_)
    refine RL.pure rfl rfl rfl rfl ?_
    refine RL.pure rfl rfl rfl rfl ?_
    refine RL.done ?_
    refine CW.eq rfl (fun h0 => CW.plain ?_) (fun h0 => CW.skip ?_)
    · refine RL.pure rfl rfl rfl rfl ?_
      refine RL.call rfl rfl rfl rfl rfl ca25 (rFail_ct (e := 111) hg5 hA5 (by simp [rng])) ?_
      rintro v6 s6 A6 w6 hle6 hg6 hax6 ⟨_, hA6⟩
      refine ⟨trivial, ?_⟩
      refine RL.done ?_
      exact fun ac ha => ⟨[(1, ptr b1), (6, ptr rp), (7, i64 n)], ha.sub ⟨rfl, rfl, rfl, trivial⟩, s6, A6, rfl, hg6, hle5.trans hle6, hx5.trans hax6, by rw [if_pos h0]; exact hA6⟩
    · exact fun ac ha => ⟨[(1, ptr b1), (6, ptr rp), (7, i64 n)], ha.sub ⟨rfl, rfl, rfl, trivial⟩, s5, A5, rfl, hg5, hle5, hx5, by rw [if_neg h0]; exact hA5⟩
  clear hg1 hg2 hg3 hg4 hg5 hR4 hA5 hx5 hx3
  rintro E w6 ⟨s6, A6, rfl, hg6, hle6, hx6, hA6⟩
  refine CW.seq (CW.plain ?_)
  refine RL.pure rfl rfl rfl rfl ?_
  refine RL.done ?_
  refine CW.meet (fun E w' => ∃ s' A' L a c, E = [(6, ptr rp), (8, .slice a ws.length c)] ∧ Good w' s' (A' :: L :: B :: os) ∧ Le s s' ∧ Aux w w' ∧ RrObj s' A' rp x.data stE ∧ Own RWire 15 51 s' L a c ws) ?_ ?_
  · refine CW.seq (CW.plain ?_)
    refine RL.pure rfl rfl rfl rfl ?_
    refine RL.done ?_
    have hgL : Good w6 s6 (A6 :: Res.nil :: B :: os) := (Good.nil hg6).swap
    refine CW.block (CW.loop (σ := Nat) (fun j E w' => ∃ s' A' L a c stc xs, ∃ q : Nat, E = [(1, ptr b1), (6, ptr rp), (7, i64 n), (8, .slice a xs.length c), (9, i64 q)] ∧ Good w' s' (A' :: L :: B :: os) ∧ Le s s' ∧ Aux w w' ∧ RrObj s' A' rp x.data stc ∧
        Own RWire 15 51 s' L a c xs ∧ rdWs x.kind x.frm x.to x.data j stc xs = (ws, stE) ∧ q + j = n.toNat ∧ xs.length = q)
      (fun j => j) n.toNat [(1, ptr b1), (6, ptr rp), (7, i64 n), (8, nilSl), (9, i64 0)] ⟨rfl, rfl, rfl, rfl, rfl, trivial⟩ ⟨s6, A6, Res.nil, none, 0, _, [], 0, rfl, hgL, hle6, hx6, hA6, .inl ⟨rfl, rfl, rfl⟩, e1, by omega, rfl⟩ ?_)
    clear hg6 hgL hA6 hx6 hle6
    rintro j E w7 ⟨s7, A7, L7, a, c, stc, xs, q, rfl, hg7, hle7, hx7, hA7, ho7, hrest, hq, hxl⟩
    obtain ⟨_, _, ra, rc, bd, hp7, _, _⟩ := id hA7
    refine CW.meet (fun E w' => E = [(1, ptr b1), (6, ptr rp), (7, i64 n), (8, .slice a xs.length c), (9, i64 q)] ∧ w' = w7 ∧ stc.errno = 0 ∧ (q : Int) < n) ?_ ?_
    · refine CW.seq (CW.plain ?_)
      refine RL.pure rfl rfl rfl rfl ?_
      refine RL.pure rfl rfl rfl rfl ?_
      refine RL.pure rfl rfl rfl rfl ?_
      refine RL.pure rfl rfl rfl rfl ?_
      refine RL.part 56 rfl (fun h56 => ?_) (fun h56 => ?_)
      · refine RL.pure rfl rfl rfl rfl ?_
        refine RL.pure rfl rfl rfl rfl ?_
        refine RL.field rfl rfl rfl rfl fl65_2 rfl rfl ?_
        refine RL.load (j := 2) rfl rfl rfl rfl ty27 rfl (Holds.of hp7) (hg7.1) rfl ?_
        refine RL.pure rfl rfl rfl rfl ?_
        refine RL.pure rfl rfl rfl rfl ?_
        refine RL.done ?_
        refine CW.cond rfl (fun hh => CW.skip ?_) (fun hh => CW.exit ?_)
        · have hh : stc.errno = 0 := by simpa [RS.errno] using hh
          exact fun ac ha => ⟨[(1, ptr b1), (6, ptr rp), (7, i64 n), (8, .slice a xs.length c), (9, i64 q)], ha.sub ⟨rfl, rfl, rfl, rfl, rfl, trivial⟩, rfl, rfl, hh, of_decide_eq_true h56⟩
        · have hh : stc.errno ≠ 0 := by simpa [RS.errno] using hh
          rw [rdWs_stop (fun h => hh (hA7.bad.1 h))] at hrest
          obtain ⟨rfl, rfl⟩ := Prod.mk.inj hrest
          exact fun ac ha => ⟨[(6, ptr rp), (8, .slice a xs.length c)], ha.sub ⟨rfl, rfl, trivial⟩, s7, A7, L7, a, c, rfl, hg7, hle7, hx7, hA7, ho7⟩
      · refine RL.pass rfl rfl rfl ?_
        refine RL.pass rfl rfl rfl ?_
        refine RL.pass rfl rfl rfl ?_
        refine RL.pass rfl rfl rfl ?_
        refine RL.pass rfl rfl rfl ?_
        refine RL.pure rfl rfl rfl rfl ?_
        refine RL.done ?_
        refine CW.no rfl (CW.exit ?_)
        have hj : j = 0 := by have := of_decide_eq_false h56; omega
        subst hj
        obtain ⟨rfl, rfl⟩ := Prod.mk.inj (show (xs, stc) = (ws, stE) from hrest)
        exact fun ac ha => ⟨[(6, ptr rp), (8, .slice a xs.length c)], ha.sub ⟨rfl, rfl, trivial⟩, s7, A7, L7, a, c, rfl, hg7, hle7, hx7, hA7, ho7⟩
    rintro E w7 ⟨rfl, rfl, hh, hqn⟩
    cases j with
    | zero => omega
    | succ j =>
      rw [rdWs, if_pos (hA7.bad.2 hh)] at hrest
      refine CW.seq (CW.block ?_)
      refine CW.seq (CW.plain ?_)
      refine RL.pure rfl rfl rfl rfl ?_
      refine RL.field rfl rfl rfl rfl fl24_2 rfl rfl ?_
      refine RL.load (j := 2) rfl rfl rfl rfl ty3 rfl (hH) (hg7.mem (by simp)) rfl ?_
      refine RL.call rfl rfl rfl rfl rfl ca26 (dRead_ct (kk := x.kind) hg7 hA7 hl) ?_
      rintro v9 s9 A9 w9 hle9 hg9 hax9 ⟨⟨vw, rfl, y, rfl, hW1, hW2⟩, hA9⟩
      refine ⟨trivial, ?_⟩
      refine RL.alloc rfl rfl rfl rfl ze51 hg9 ?_
      rintro b10 w10 hg10 hax10
      refine ⟨trivial, ?_⟩
      refine RL.store (i := 0) (j := 0) rfl rfl rfl ty51 rfl rfl hg10 rfl (if_pos rfl) rfl (by first | (simp [Value.cells, Value.oneCell']; done) | simp [Value.cells, Value.oneCell', putL]) (by first | exact Nat.le_of_ble_eq_true rfl | (simp; done) | (simp; omega) | omega) ?_
      rintro w11 hg11 hax11
      refine ⟨trivial, ?_⟩
      refine RL.done ?_
      obtain ⟨X, hX⟩ : ∃ X : Wire, X = (rdW x.kind x.data stc).1 := ⟨_, rfl⟩
      have hX0 : (rdW0 x.kind x.data stc).1 = X := (rdW_fst _ _ _).trans hX.symm
      rw [← hX] at hrest
      rw [hX0] at hW1 hW2 hg11
      obtain ⟨T, hg12, hT⟩ : ∃ T, Good w11 s9 (T :: A9 :: L7 :: B :: os) ∧ T b10 = some (.cells (wv X.group X.msg.kind X.msg.frm X.msg.to X.msg.term X.msg.index X.msg.logTerm (.slice y.ea X.msg.entries.length y.ec) X.msg.commit X.msg.reject X.msg.hint (.slice y.va X.msg.conf.voters.length y.vc) (.slice y.la X.msg.conf.learners.length y.lc) (.slice y.da X.msg.data.length y.dc) X.msg.done).toArray 51 (0, 0)) := ⟨_, hg11, put_same _ _ _⟩
      have hx12 := hx7.trans (hax9.trans (hax10.trans hax11))
      have hl9 := hle7.trans hle9
      obtain ⟨_, _, ra9, rc9, bd9, hp9, _, _⟩ := id hA9
      refine CW.meet (fun E w' => ∃ s' A', E = [(1, ptr b1), (6, ptr rp), (7, i64 n), (8, .slice a xs.length c), (9, i64 q), (10, ptr b10)] ∧ Good w' s' (T :: A' :: L7 :: B :: os) ∧ Le s9 s' ∧ Aux w w' ∧ RrObj s' A' rp x.data (rdW x.kind x.data stc).2) ?_ ?_
      · refine CW.seq (CW.plain ?_)
        refine RL.field rfl rfl rfl rfl fl24_2 rfl rfl ?_
        refine RL.load (j := 2) rfl rfl rfl rfl ty3 rfl (hH) (hg12.mem (by simp)) rfl ?_
        refine RL.pure rfl rfl rfl rfl ?_
        refine RL.pure rfl rfl rfl rfl ?_
        refine RL.part 72 rfl (fun h72 => ?_) (fun h72 => ?_)
        · refine RL.pure rfl rfl rfl rfl ?_
          refine RL.pure rfl rfl rfl rfl ?_
          refine RL.field rfl rfl rfl rfl fl65_2 rfl rfl ?_
          refine RL.load (j := 2) rfl rfl rfl rfl ty27 rfl (Holds.of hp9) (hg12.mem (by simp)) rfl ?_
          refine RL.pure rfl rfl rfl rfl ?_
          refine RL.pure rfl rfl rfl rfl ?_
          refine RL.done ?_
          have hk1 : x.kind = 1 := of_decide_eq_true h72
          refine CW.cond rfl (fun hz => ?_) (fun hz => CW.skip ?_)
          · skip
            have hfit : X.msg.fits := by rw [← hX0, hk1]; exact rdFull0_fits hl
            have hst : (rdW x.kind x.data stc).2 = if oddP X.msg = true then (rdW0 x.kind x.data stc).2.fail 111 else (rdW0 x.kind x.data stc).2 := by
              rw [← hX0, hk1, rdW_one]
            rw [hst]
            refine CW.seq (CW.plain ?_)
            refine RL.field rfl rfl rfl rfl fl51_1 rfl rfl ?_
            refine RL.loads (j := 1) (us := (msgV X.msg y)) rfl rfl rfl rfl ty42 rfl (Holds.of hT) (hg12.1) rfl rfl ?_
            refine RL.callV rfl rfl rfl rfl rfl ca13 (dIs_ct hg12 ⟨y, rfl, hW2⟩ hfit) ?_
            rintro v13 w13 hg13 hax13 rfl
            refine ⟨trivial, ?_⟩
            refine RL.pure rfl rfl rfl rfl ?_
            refine RL.done ?_
            refine CW.seq (CW.plain ?_)
            refine RL.field rfl rfl rfl rfl fl51_1 rfl rfl ?_
            refine RL.field rfl rfl rfl rfl fl42_0 rfl rfl ?_
            refine RL.load (j := 1) rfl rfl rfl rfl ty35 rfl (Holds.of hT) (hg13.1) rfl ?_
            refine RL.callV rfl rfl rfl rfl rfl ca27 (dKnown_ct hg13) ?_
            rintro v14 w14 hg14 hax14 rfl
            refine ⟨trivial, ?_⟩
            refine RL.pure rfl rfl rfl rfl ?_
            refine RL.done ?_
            have hx14 := hx12.trans (hax13.trans hax14)
            refine CW.seq (CW.plain ?_)
            refine RL.pure rfl rfl rfl rfl ?_
            refine RL.pure rfl rfl rfl rfl ?_
            refine RL.part 87 rfl (fun h87 => ?_) (fun h87 => ?_)
            · refine RL.pass rfl rfl rfl ?_
              refine RL.pass rfl rfl rfl ?_
              refine RL.pure rfl rfl rfl rfl ?_
              refine RL.done ?_
              refine CW.yes rfl (CW.plain ?_)
              refine RL.pure rfl rfl rfl rfl ?_
              refine RL.call rfl rfl rfl rfl rfl ca25 (rFail_ct (e := 111) hg14.swap hA9 (by simp [rng])) ?_
              rintro v15 s15 A15 w15 hle15 hg15 hax15 ⟨_, hA15⟩
              refine ⟨trivial, ?_⟩
              refine RL.done ?_
              rw [if_pos (by simp [oddP, h87])]
              exact fun ac ha => ⟨[(1, ptr b1), (6, ptr rp), (7, i64 n), (8, .slice a xs.length c), (9, i64 q), (10, ptr b10)], ha.sub ⟨rfl, rfl, rfl, rfl, rfl, rfl, trivial⟩, s15, A15, rfl, hg15.swap, hle15, hx14.trans hax15, hA15⟩
            · refine RL.pure rfl rfl rfl rfl ?_
              refine RL.pure rfl rfl rfl rfl ?_
              refine RL.pure rfl rfl rfl rfl ?_
              refine RL.done ?_
              refine CW.cond rfl (fun hz => CW.plain ?_) (fun hz => CW.skip ?_)
              · skip
                refine RL.pure rfl rfl rfl rfl ?_
                refine RL.call rfl rfl rfl rfl rfl ca25 (rFail_ct (e := 111) hg14.swap hA9 (by simp [rng])) ?_
                rintro v15 s15 A15 w15 hle15 hg15 hax15 ⟨_, hA15⟩
                refine ⟨trivial, ?_⟩
                refine RL.done ?_
                rw [if_pos (by simp only [oddP]; rw [h87]; exact hz)]
                exact fun ac ha => ⟨[(1, ptr b1), (6, ptr rp), (7, i64 n), (8, .slice a xs.length c), (9, i64 q), (10, ptr b10)], ha.sub ⟨rfl, rfl, rfl, rfl, rfl, rfl, trivial⟩, s15, A15, rfl, hg15.swap, hle15, hx14.trans hax15, hA15⟩
              · rw [if_neg (by simp only [oddP]; rw [h87, show (!known9 X.msg.kind) = false from hz]; decide)]
                exact fun ac ha => ⟨[(1, ptr b1), (6, ptr rp), (7, i64 n), (8, .slice a xs.length c), (9, i64 q), (10, ptr b10)], ha.sub ⟨rfl, rfl, rfl, rfl, rfl, rfl, trivial⟩, s9, A9, rfl, hg14, Le.refl _, hx14, hA9⟩
          · have hz : (rdW0 x.kind x.data stc).2.errno ≠ 0 := by simpa [RS.errno] using hz
            have hst : (rdW x.kind x.data stc).2 = (rdW0 x.kind x.data stc).2 := by
              rw [hk1] at hz hA9 ⊢
              rw [rdW_one]
              simp only
              rw [fail_some (fun h => hz (hA9.bad.1 h)), ite_self]
            exact fun ac ha => ⟨[(1, ptr b1), (6, ptr rp), (7, i64 n), (8, .slice a xs.length c), (9, i64 q), (10, ptr b10)], ha.sub ⟨rfl, rfl, rfl, rfl, rfl, rfl, trivial⟩, s9, A9, rfl, hg12, Le.refl _, hx12, by rw [hst]; exact hA9⟩
        · refine RL.pass rfl rfl rfl ?_
          refine RL.pass rfl rfl rfl ?_
          refine RL.pass rfl rfl rfl ?_
          refine RL.pass rfl rfl rfl ?_
          refine RL.pass rfl rfl rfl ?_
          refine RL.pure rfl rfl rfl rfl ?_
          refine RL.done ?_
          refine CW.no rfl (CW.skip ?_)
          have hk2 : x.kind = 2 := by have := of_decide_eq_false h72; omega
          rw [hk2] at hA9
          exact fun ac ha => ⟨[(1, ptr b1), (6, ptr rp), (7, i64 n), (8, .slice a xs.length c), (9, i64 q), (10, ptr b10)], ha.sub ⟨rfl, rfl, rfl, rfl, rfl, rfl, trivial⟩, s9, A9, rfl, hg12, Le.refl _, hx12, by rw [hk2]; exact hA9⟩
      clear hA9 hg12 hg11 hg10 hg9
      rintro E w15 ⟨s15, A15, rfl, hg15, hle15, hx15, hA15⟩
      refine CW.seq (CW.plain ?_)
      refine RL.field rfl rfl rfl rfl fl24_0 rfl rfl ?_
      refine RL.load (j := 0) rfl rfl rfl rfl ty3 rfl (hH) (hg15.mem (by simp)) rfl ?_
      refine RL.field rfl rfl rfl rfl fl51_1 rfl rfl ?_
      refine RL.field rfl rfl rfl rfl fl42_1 rfl rfl ?_
      refine RL.store (i := 0) (j := 2) rfl rfl rfl ty3 rfl rfl hg15 rfl (hT) rfl (by first | (simp [Value.cells, Value.oneCell']; done) | simp [Value.cells, Value.oneCell', putL]) (by first | exact Nat.le_of_ble_eq_true rfl | (simp; done) | (simp; omega) | omega) ?_
      rintro w16 hg16 hax16
      refine ⟨trivial, ?_⟩
      refine RL.done ?_
      refine CW.seq (CW.plain ?_)
      refine RL.field rfl rfl rfl rfl fl24_1 rfl rfl ?_
      refine RL.load (j := 1) rfl rfl rfl rfl ty3 rfl (hH) (hg16.mem (by simp)) rfl ?_
      refine RL.field rfl rfl rfl rfl fl51_1 rfl rfl ?_
      refine RL.field rfl rfl rfl rfl fl42_2 rfl rfl ?_
      refine RL.store (i := 0) (j := 3) rfl rfl rfl ty3 rfl rfl hg16 rfl (put_same _ _ _) rfl (by first | (simp [Value.cells, Value.oneCell']; done) | simp [Value.cells, Value.oneCell', putL]) (by first | exact Nat.le_of_ble_eq_true rfl | (simp; done) | (simp; omega) | omega) ?_
      rintro w17 hg17 hax17
      refine ⟨trivial, ?_⟩
      refine RL.done ?_
      obtain ⟨Z, hZ⟩ : ∃ Z : Wire, Z = setFT x.frm x.to X := ⟨_, rfl⟩
      obtain ⟨T', hg18, hT'⟩ : ∃ T, Good w17 s15 (T :: A15 :: L7 :: B :: os) ∧ T b10 = some (.cells (wireV Z y).toArray 51 (0, 0)) := by
        subst hZ; exact ⟨_, hg17, put_same _ _ _⟩
      have hWZ : RWire s15 (wireV Z y) Z := by
        subst hZ
        exact RWire.up _ _ _ _ hle15 ⟨y, rfl, hW1, { hW2 with frm := hr1, to := hr2 }⟩
      rw [← hZ] at hrest
      refine CW.plain ?_
      refine RL.pure rfl rfl rfl rfl ?_
      refine RL.loads (j := 0) (us := (wireV Z y)) rfl rfl rfl rfl ty51 rfl (Holds.of hT') (hg18.1) rfl rfl ?_
      refine RL.buildSlice rfl rfl rfl rfl sl30 ze51 rfl rfl rfl rfl hg18 ?_
      rintro p71 w19 hg19 hax19
      refine ⟨trivial, ?_⟩
      refine RL.append (i := 3) (ys := [Z]) rfl rfl rfl rfl sl30 ze51 rfl (by first | exact RInt.one _ | exact RStr.one | exact RBool.one | assumption) rfl rfl hg19 rfl (ho7.up RWire.up (hle9.trans hle15)) ((Src.slice sl30 rfl (.inr ⟨_, rfl, Holds.one p71 _ 51⟩) hg19.1)) ((Chunks.single rfl hWZ)) ((by simp only [List.length_singleton]; omega)) (by omega) ?_
      rintro a20 c20 L20 w20 hg20 ho20 hax20 hk20
      refine ⟨trivial, ?_⟩
      refine RL.pure rfl rfl rfl rfl ?_
      refine RL.done ?_
      refine CW.plain ?_
      refine RL.pure rfl rfl rfl rfl ?_
      refine RL.add rfl rfl rfl rfl rfl rfl (by simp only [rng] at *; omega) ?_
      refine RL.pure rfl rfl rfl rfl ?_
      refine RL.done ?_
      exact fun ac ha => ⟨j, [(1, ptr b1), (6, ptr rp), (7, i64 n), (8, .slice a20 (xs ++ [Z]).length c20), (9, i64 ((q + 1 : Nat) : Int))], ha.sub ⟨rfl, rfl, rfl, rfl, rfl, trivial⟩, ⟨s15, A15, L20, a20, c20, _, _, q + 1, rfl, hg20.drop.drop, hl9.trans hle15, hx15.trans (hax16.trans (hax17.trans (hax19.trans hax20))), hA15, ho20, hrest, by omega, by simp [hxl]⟩, Nat.lt_succ_self j⟩
  clear hg6 hA6
  rintro E w8 ⟨s8, A8, L8, a8, c8, rfl, hg8, hle8, hx8, hA8, ho8⟩
  refine CW.seq (CW.plain ?_)
  refine RL.pure rfl rfl rfl rfl ?_
  refine RL.callV rfl rfl rfl rfl rfl ca28 (rRDone_ct hg8 hA8) ?_
  rintro v9 w9 hg9 hax9 rfl
  refine ⟨trivial, ?_⟩
  refine RL.pure rfl rfl rfl rfl ?_
  refine RL.done ?_
  refine CW.seq (CW.seq (CW.plain ?_))
  refine RL.pure rfl rfl rfl rfl ?_
  refine RL.pure rfl rfl rfl rfl ?_
  refine RL.done ?_
  refine CW.cond rfl (fun hh => CW.seq (CW.plain ?_)) (fun hh => CW.skip (CW.seq (CW.plain ?_)))
  · have hh : doneOf x.data stE ≠ 0 := by simpa [doneOf] using hh
    refine RL.pure rfl rfl rfl rfl ?_
    refine RL.pure rfl rfl rfl rfl ?_
    refine RL.pure rfl rfl rfl rfl ?_
    refine RL.done ?_
    rw [if_pos hh]
    exact CW.ret (ret (vs := [_, _]) ⟨_, _, rfl, rfl, _, _, rfl, rfl, rfl⟩ (Post.mk hle8 (Good.nil hg9.drop.drop.drop) (hx8.trans hax9) DOpenEnd.bad))
  · have hh : doneOf x.data stE = 0 := by simpa [doneOf] using hh
    refine RL.pure rfl rfl rfl rfl ?_
    refine RL.pure rfl rfl rfl rfl ?_
    refine RL.pure rfl rfl rfl rfl ?_
    refine RL.done ?_
    rw [show (if doneOf x.data stE ≠ 0 then (([], doneOf x.data stE) : List Wire × Int) else (ws, 0)) = (ws, 0) from if_neg (fun h => h hh)]
    exact CW.ret (ret (vs := [_, _]) ⟨_, _, rfl, rfl, _, _, rfl, rfl, rfl⟩ (Post.mk hle8 hg9.drop.dropNext (hx8.trans hax9) ⟨a8, c8, rfl, ho8⟩))
end Go.Lw
