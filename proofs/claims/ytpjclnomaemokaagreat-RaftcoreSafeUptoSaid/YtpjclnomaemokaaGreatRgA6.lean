/-
  Parts of the proof of the laws RaftcoreSafeUptoSaid, RaftcoreOnceUptoSaid: KfJ, KfK, KfL, KfM, KdO, KfN, KfO.
-/
import Derived.Test.YtpjclnomaemokaaGreatRgA5
set_option maxRecDepth 100000
set_option maxHeartbeats 16000000
set_option linter.all false
namespace Go.Lw
open Go.Proofs
open Safe (Wd WInv MInv G takenT)
attribute [local irreducible] RL RA
section
variable {P:Program} {n:Nat} {ops:Array Oper} {Q:Exit→Act→World→Prop} {S:World→Prop} {rest:List (Bool × Oper)} {E:Env} {w:World} {o:Oper} {d:Nat}
variable {x y:Operand} {T:Bool}
theorem RL.remT {k:IntKind} {a b:Int} {t yt:TypeId} (hg:wants ops E o=some true) (hd:o.dst=some d) (hb:Nat.blt d n=true) (ho:o.op = .binOp .rem t x y yt) (hx:ev E x=some (.int k a)) (hy:ev E y=some (.int k b))
  (hb0:b≠0) (h:RL P n ops Q S rest ((d,.int k (a.tmod b))::E) w):RL P n ops Q S ((T,o)::rest) E w:=by
 refine RL.val hg hd hb (run_pure_binop ho hx hy fun w=>?_) h
 simp[binOp,Op.intDiv,hb0]
end
structure RawAct where
 what:Int
 node:Int
 place:Int
 n:Int
 data:List Int
abbrev actV (x:RawAct) (a:Option Addr) (c:Nat):List Value:=[i64 x.what,i64 x.node,i64 x.place,i64 x.n,.slice a x.data.length c]
structure ActOk (s:Res) (x:RawAct) (a:Option Addr) (c:Nat):Prop where
 what:rng .i64 x.what
 node:rng .i64 x.node
 place:rng .i64 x.place
 n:rng .i64 x.n
 data:Imm (RInt .u8) 1 s a c x.data
def RAct:Res→List Value→RawAct→Prop:=fun s vs x=>∃ a c,vs=actV x a c∧ActOk s x a c
theorem RAct.up:Up RAct:=fun _ _ _ _ hl ⟨a,c,h,k⟩=>⟨a,c,h,{ k with data:=k.data.up (RInt.up _) hl }⟩
theorem Did.sub {n c:Nat} {c0:Conf} {g g':G} {w w1 w':Wd} (h:Did n c0 g g' c w1 w') (hb:w1.bag.length≤w.bag.length) (ht:w1.told=w.told) (hm:w1.term=w.term) (hs:w1.snap=w.snap):Did n c0 g g' c w w':=by
 obtain⟨old,news,h1,h2,h3⟩:=h.bag
 exact { h with bag:=⟨old,news,h1,Nat.le_trans h2 hb,h3⟩,told:=by have:=h.told;rw[ht] at this;exact this,term:=by have:=h.term;rw[hm] at this;exact this,snap:=by have:=h.snap;rw[hs] at this;exact this }
theorem inp_ok {s:Res} {x:Inp} {da:Option Addr} {dc:Nat} (hm:x.msg=Msg.zero) (h1:rng .i64 x.kind) (h2:rng .i64 x.timeout) (h3:rng .i64 x.chKind) (h4:rng .i64 x.chNode) (h5:rng .i64 x.to) (h6:Imm (RInt .u8) 1 s da dc x.data):InpOk s x Lay.none da dc :=
 ⟨by rw[hm];exact MsgOk.zero s,h1,h2,h3,h4,h5,h6⟩
theorem inp_fit {x:Inp} (hm:x.msg=Msg.zero) (hd:x.data.length≤100):IFit 200 x :=
 ⟨by rw[hm];exact⟨by simp[rng,Msg.zero],by simp[rng,Msg.zero],by simp[rng,Msg.zero],by simp[rng,Msg.zero],by simp[rng,Msg.zero],fun e he=>(by cases he),Nat.zero_le _,⟨Nat.zero_le _,Nat.zero_le _⟩,Nat.zero_le _⟩,by omega⟩
section
variable {w:World} {s:Res} {os:List Res}
theorem pick2_ct {c:Int} {n:Nat} (hg:Good w s os) (hc:rng .i64 c) (hn:0<n) (hn2:n≤1000) :
  Calls Tryz.prog 14 #[i64 c,i64 (n:Int)] w (PostV w s os fun q=>∃ k:Nat,k<n∧q=i64 (k:Int)) :=
 (pick_ct hg hc (by omega) (by omega)).mono fun e w' ⟨v,he,hgd,hax,hv⟩=>⟨v,he,hgd,hax,(pickP c n).toNat,by
  have:=pickP_rng (n:=(n:Int)) hc (by omega);omega,by
  have:=pickP_rng (n:=(n:Int)) hc (by omega)
  rw[hv,Int.toNat_of_nonneg this.1]⟩
theorem Do_ct {n c:Nat} {c0:Conf} {g:G} {P:WP} {p:Nat} {W:Wd} {a:WA} {x:RawAct} {da:Option Addr} {dc:Nat} (hg:Good w s (P.os++os)) (hw:WAt s P p W a) (hW:WInv n c0 g c W) (hn:0<n) (hx:ActOk s x da dc) (hc:c≤900)
  (hb:W.told.length≤1073741824∧W.term.length≤1073741824) (hsn:W.snap.length≤1073741824) :
  Calls Tryz.prog 16 #[ptr p,.agg (actV x da dc).toArray] w (DidPost n c0 g c w s os p W):=by
 obtain⟨hx1,hx2,hx3,hx4,hx5⟩:=hx
 have hsl:=hW.len
 have hs7:=hW.seven
 have hbl:=hW.blen
 have hc0:=hw.cells
 have hd0:∀ {X:Inp},X.kind≠2→X.kind=2→MInv c0 g X.msg∧(takenT X.msg→X.msg.term≤1+c):=fun h k=>absurd k h
 refine enter (l:=[ptr p,.agg (actV x da dc).toArray]) Tryz.func16 rfl Tryz.ntmps16 rfl ?_
 refine go 3 ?_
 rintro b1 w1 Q1 (hg1:Good _ s (Q1::P.W::P.S::P.K::P.B::P.L::P.T::P.D::P.X::(P.E++os))) hax1 hb1
 refine go 4 ?_
 have hg2:=hg1.drew
 refine CW.dw [1,3,5,7,9,11,13,14,16] (fun w=>At1 b1 _ w∧At1 p _ w∧True) ?_
 refine go 8 ?_
 refine zw (pick2_ct (n:=W.s.length) hg2 hx2 (by omega) (by omega)) ?_
 rintro v3 w3 (hg3:Good _ s (Q1::P.W::P.S::P.K::P.B::P.L::P.T::P.D::P.X::(P.E++os))) hax3 ⟨i,hi,rfl⟩
 refine go 10 ?_
 refine CW.meet (fun E' w'=>∃ Q3 dt ea ec,E'=[(0,ptr p),(3,ptr b1),(5,i64 i),(6,.bool (decide (x.what<0)))]∧Good w' s (Q3::P.W::P.S::P.K::P.B::P.L::P.T::P.D::P.X::(P.E++os))∧Aux w w'∧Q3 b1=some (.cells (actV { x with data:=dt } ea ec).toArray 76 (0,0))∧Imm (RInt .u8) 1 s ea ec dt∧dt.length≤100) ?_ ?_
 ·
  refine go 7 ?_
  refine CW.cond rfl (fun h25=>?_) (fun h25=>?_)
  ·
   refine go 3 ?_
   refine RL.part_ 0 100 rfl rfl rfl rfl sl28.out rfl (.inl ⟨rfl,rfl⟩) (.inr ⟨_,_,rfl,rfl⟩) hx5 (by omega) (by omega) (by have h9:(x.data.length:Int)>100:=decide_t h25;omega) ?_
   rintro ea ec hIc
   refine go 2 ?_
   rintro w4 Q4 (hg4:Good _ s (Q4::P.W::P.S::P.K::P.B::P.L::P.T::P.D::P.X::(P.E++os))) hax4 hb4
   refine go 2 ?_
   exact fun ac ha=>⟨[(0,ptr p),(3,ptr b1),(5,i64 i),(6,.bool (decide (x.what<0)))],ha.sub ⟨rfl,rfl,rfl,rfl,trivial⟩,⟨_,(x.data.take (100:Int).toNat).drop (0:Int).toNat,ea,ec,rfl,(((((((((hg4.front 8 rfl).front 8 rfl).front 8 rfl).front 8 rfl).front 8 rfl).front 8 rfl).front 8 rfl).front 8 rfl).front 8 rfl),(hax1.trans ((Aux.drew _).trans (hax3.trans hax4))),hb4,hIc,by simp only[List.length_drop,List.length_take];omega⟩⟩
  ·
   refine go 1 ?_
   exact fun ac ha=>⟨[(0,ptr p),(3,ptr b1),(5,i64 i),(6,.bool (decide (x.what<0)))],ha.sub ⟨rfl,rfl,rfl,rfl,trivial⟩,⟨_,x.data,da,dc,rfl,(((((((((hg3.front 8 rfl).front 8 rfl).front 8 rfl).front 8 rfl).front 8 rfl).front 8 rfl).front 8 rfl).front 8 rfl).front 8 rfl),(hax1.trans ((Aux.drew _).trans hax3)),hb1,hx5,by have h9:¬ ((x.data.length:Int)>100):=decide_f h25;omega⟩⟩
 rintro E3 w3 ⟨Q3,dt,ea,ec,rfl,hgM3,haxM3,hQ3,hdt,hdl⟩
 refine go 6 ?_
 refine zw (pick2_ct (n:=12) hgM3 hx1 (by omega) (by omega)) ?_
 rintro v5 w5 (hg5:Good _ s (Q3::P.W::P.S::P.K::P.B::P.L::P.T::P.D::P.X::(P.E++os))) hax5 ⟨k32,hk32,rfl⟩
 refine go 3 ?_
 refine CW.meet (fun E' w'=>∃ b,E'=[(0,ptr p),(3,ptr b1),(5,i64 i),(6,.bool (decide (x.what<0))),(32,i64 k32),(33,.bool b)]∧Good w' s (Q3::P.W::P.S::P.K::P.B::P.L::P.T::P.D::P.X::(P.E++os))∧Aux w w') ?_ ?_
 ·
  refine go 5 ?_
  refine CW.cond rfl (fun h33=>?_) (fun h33=>?_)
  ·
   refine go 1 ?_
   exact fun ac ha=>⟨[(0,ptr p),(3,ptr b1),(5,i64 i),(6,.bool (decide (x.what<0))),(32,i64 k32),(33,.bool _)],ha.sub ⟨rfl,rfl,rfl,rfl,rfl,rfl,trivial⟩,⟨_,rfl,(((((((((hg5.front 8 rfl).front 8 rfl).front 8 rfl).front 8 rfl).front 8 rfl).front 8 rfl).front 8 rfl).front 8 rfl).front 8 rfl),(haxM3.trans hax5)⟩⟩
  ·
   refine go 4 ?_
   exact fun ac ha=>⟨[(0,ptr p),(3,ptr b1),(5,i64 i),(6,.bool (decide (x.what<0))),(32,i64 k32),(33,.bool _)],ha.sub ⟨rfl,rfl,rfl,rfl,rfl,rfl,trivial⟩,⟨_,rfl,(((((((((hg5.front 8 rfl).front 8 rfl).front 8 rfl).front 8 rfl).front 8 rfl).front 8 rfl).front 8 rfl).front 8 rfl).front 8 rfl),(haxM3.trans hax5)⟩⟩
 rintro E6 w6 ⟨b6,rfl,hgM6,haxM6⟩
 refine CW.cond rfl (fun h33=>?_) (fun h33=>?_)
 ·
  refine go 7 ?_
  refine zw (pick2_ct (n:=8) hgM6 hx4 (by omega) (by omega)) ?_
  rintro v6 w6 (hg6:Good _ s (Q3::P.W::P.S::P.K::P.B::P.L::P.T::P.D::P.X::(P.E++os))) hax6 ⟨k40,hk40,rfl⟩
  refine go 4 ?_
  have hgk:Good _ s (P.os++([Q3]++os)):=WP.rot (bs:=[Q3]) (P:=P) hg6
  refine RL.callG rfl rfl rfl rfl rfl ca25.out (give_ct (x:=⟨1,1+(k40:Int),Msg.zero,[],0,0,0⟩) (y:=Lay.none) (da:=none) (dc:=0) hgk hw hW (List.getElem?_eq_getElem hi) (hd0 (show (1:Int)≠2 by decide)) (by simp) (inp_fit rfl (by simp)) (inp_ok rfl (by simp[rng]) (by simp only[rng];omega) (by simp[rng]) (by simp[rng]) (by simp[rng]) (Imm.nil _ _ _ (Nat.zero_le _))) hc hb) ?_
  rintro e3 w3 ⟨W3,g3,hd3,s3,P3,a3,rfl,hle3,hgk3,haxE,hw3⟩
  have hgE:Good w3 s3 (Q3::P3.W::P3.S::P3.K::P3.B::P3.L::P3.T::P3.D::P3.X::(P3.E++os)):=WP.unrot (bs:=[Q3]) hgk3
  refine⟨_,rfl,trivial,?_⟩
  refine go 2 ?_
  refine CW.ret (zr1 ?_)
  exact⟨W3,g3,hd3,s3,P3,a3,rfl,hle3,(((((((((hgE.front 8 rfl).front 8 rfl).front 8 rfl).front 8 rfl).front 8 rfl).front 8 rfl).front 8 rfl).front 8 rfl).dropAt 8),(haxM6.trans (hax6.trans haxE)),hw3⟩
 ·
  refine CW.meet (fun E' w'=>∃ b,E'=[(0,ptr p),(3,ptr b1),(5,i64 i),(6,.bool (decide (x.what<0))),(32,i64 k32),(45,.bool b)]∧Good w' s (Q3::P.W::P.S::P.K::P.B::P.L::P.T::P.D::P.X::(P.E++os))∧Aux w w') ?_ ?_
  ·
   refine go 5 ?_
   refine CW.cond rfl (fun h45=>?_) (fun h45=>?_)
   ·
    refine go 1 ?_
    exact fun ac ha=>⟨[(0,ptr p),(3,ptr b1),(5,i64 i),(6,.bool (decide (x.what<0))),(32,i64 k32),(45,.bool _)],ha.sub ⟨rfl,rfl,rfl,rfl,rfl,rfl,trivial⟩,⟨_,rfl,(((((((((hgM6.front 8 rfl).front 8 rfl).front 8 rfl).front 8 rfl).front 8 rfl).front 8 rfl).front 8 rfl).front 8 rfl).front 8 rfl),haxM6⟩⟩
   ·
    refine go 5 ?_
    refine CW.cond rfl (fun h45=>?_) (fun h45=>?_)
    ·
     refine go 1 ?_
     exact fun ac ha=>⟨[(0,ptr p),(3,ptr b1),(5,i64 i),(6,.bool (decide (x.what<0))),(32,i64 k32),(45,.bool _)],ha.sub ⟨rfl,rfl,rfl,rfl,rfl,rfl,trivial⟩,⟨_,rfl,(((((((((hgM6.front 8 rfl).front 8 rfl).front 8 rfl).front 8 rfl).front 8 rfl).front 8 rfl).front 8 rfl).front 8 rfl).front 8 rfl),haxM6⟩⟩
    ·
     refine go 5 ?_
     refine CW.cond rfl (fun h45=>?_) (fun h45=>?_)
     ·
      refine go 1 ?_
      exact fun ac ha=>⟨[(0,ptr p),(3,ptr b1),(5,i64 i),(6,.bool (decide (x.what<0))),(32,i64 k32),(45,.bool _)],ha.sub ⟨rfl,rfl,rfl,rfl,rfl,rfl,trivial⟩,⟨_,rfl,(((((((((hgM6.front 8 rfl).front 8 rfl).front 8 rfl).front 8 rfl).front 8 rfl).front 8 rfl).front 8 rfl).front 8 rfl).front 8 rfl),haxM6⟩⟩
     ·
      refine go 4 ?_
      exact fun ac ha=>⟨[(0,ptr p),(3,ptr b1),(5,i64 i),(6,.bool (decide (x.what<0))),(32,i64 k32),(45,.bool _)],ha.sub ⟨rfl,rfl,rfl,rfl,rfl,rfl,trivial⟩,⟨_,rfl,(((((((((hgM6.front 8 rfl).front 8 rfl).front 8 rfl).front 8 rfl).front 8 rfl).front 8 rfl).front 8 rfl).front 8 rfl).front 8 rfl),haxM6⟩⟩
  rintro E9 w9 ⟨b9,rfl,hgM9,haxM9⟩
  refine CW.cond rfl (fun h45=>?_) (fun h45=>?_)
  ·
   refine go 10 ?_
   refine CW.cond rfl (fun h55=>?_) (fun h55=>?_)
   ·
    refine go 4 ?_
    refine CW.ret (zr1 ?_)
    exact⟨W,g,.calm hW (Nat.le_refl _) rfl rfl (by omega),_,P,_,rfl,(Le.refl _),(((((((((hgM9.front 8 rfl).front 8 rfl).front 8 rfl).front 8 rfl).front 8 rfl).front 8 rfl).front 8 rfl).front 8 rfl).dropAt 8),haxM9,hw⟩
   ·
    have hb0:W.bag.length≠0:=fun z=>by simp[z] at h55
    refine go 2 ?_
    have hg7:=hgM9.drew
    refine CW.dw [1,3,5,7,9,11,13,14,16] (fun w=>At1 b1 _ w∧At1 p _ w∧True) ?_
    refine go 8 ?_
    refine zw (pick2_ct (n:=W.bag.length) hg7 hx3 (by omega) (by omega)) ?_
    rintro v8 w8 (hg8:Good _ s (Q3::P.W::P.S::P.K::P.B::P.L::P.T::P.D::P.X::(P.E++os))) hax8 ⟨kb,hkb,rfl⟩
    refine go 10 ?_
    refine RL.idxL rfl rfl rfl rfl sl48.out rfl rfl hw.B.lies (by omega) (by omega) ?_
    rintro q vs hvl hH ⟨y,rfl,hm⟩
    have hm:MsgOk s W.bag[kb] y:=hm
    have hH:Holds P.B q (msgV W.bag[kb] y):=hH
    have hmb:=hW.bag _ (List.getElem_mem hkb)
    refine RL.loads (j:=0) (us:=_) rfl rfl rfl rfl ty56.out rfl (hH) (hg8.mem (by simp)) rfl rfl ?_
    refine go 1 ?_
    rintro b9 w9 Q9 (hg9:Good _ s (Q9::Q3::P.W::P.S::P.K::P.B::P.L::P.T::P.D::P.X::(P.E++os))) hax9 hb9
    refine go 2 ?_
    rintro w10 Q10 (hg10:Good _ s (Q10::Q3::P.W::P.S::P.K::P.B::P.L::P.T::P.D::P.X::(P.E++os))) hax10 hb10
    refine go 2 ?_
    have hc8:=hb10
    refine CW.meet (fun E' w'=>∃ WN BN b' a',E'=[(0,ptr p),(6,.bool (decide (x.what<0))),(8,ptr b9)]∧Good w' s (Q10::WN::P.S::P.K::BN::P.L::P.T::P.D::P.X::(P.E++os))∧Aux w w'∧WAt s { P with W:=WN,B:=BN } p { W with bag:=b' } a'∧(∀ m∈b',m∈W.bag)∧b'.length≤W.bag.length) ?_ ?_
    ·
     refine go 4 ?_
     refine RL.remT rfl rfl rfl rfl rfl rfl (by decide) ?_
     refine go 2 ?_
     refine CW.cond rfl (fun h74=>?_) (fun h74=>?_)
     ·
      refine go 3 ?_
      rintro b11 w11 Q11 (hg11:Good _ s (Q11::Q10::Q3::P.W::P.S::P.K::P.B::P.L::P.T::P.D::P.X::(P.E++os))) hax11 hb11
      refine go 6 ?_
      refine RL.partL 0 (kb:Int) rfl rfl rfl rfl sl48.out rfl (.inl ⟨rfl,rfl⟩) (.inr ⟨_,_,rfl,rfl⟩) hw.B.lies (by omega) (by omega) (by omega) ?_
      rintro pa pc hPa
      obtain⟨news12,hsrc12,hch12⟩:=(Src.lies sl48.out hPa (hg11.mem (by simp)))
      refine RL.append2 (i:=0) (xs:=[]) (ys:=((W.bag.take (kb:Int).toNat).drop (0:Int).toNat)) rfl rfl rfl rfl sl48.out ze56.out rfl RMsg.one (rfl) rfl hg11 rfl (Own.empty hb11) hsrc12 hch12 ((by simp only[List.length_nil,List.length_drop,List.length_take];omega)) (by omega) ?_
      rintro a12 c12 A12 w12 (hg12:Good _ s (A12::Q10::Q3::P.W::P.S::P.K::P.B::P.L::P.T::P.D::P.X::(P.E++os))) ho12 hax12 hk12 hn12
      have hoR:=ho12
      refine go 12 ?_
      refine RL.partL ((kb:Int)+1) (W.bag.length:Int) rfl rfl rfl rfl sl48.out rfl (.inr ⟨_,_,rfl,rfl⟩) (.inl ⟨rfl,rfl⟩) hw.B.lies (by omega) (by omega) (by omega) ?_
      rintro pb pd hPb
      obtain⟨news13,hsrc13,hch13⟩:=(Src.lies sl48.out hPb (hg12.mem (by simp)))
      refine RL.append2 (i:=0) (xs:=_) (ys:=((W.bag.take (W.bag.length:Int).toNat).drop ((kb:Int)+1).toNat)) rfl rfl rfl rfl sl48.out ze56.out rfl RMsg.one (rfl) rfl hg12 rfl (hoR) hsrc13 hch13 ((by simp only[List.length_append,List.length_nil,List.length_drop,List.length_take];omega)) (by omega) ?_
      rintro a13 c13 A13 w13 (hg13:Good _ s (A13::Q10::Q3::P.W::P.S::P.K::P.B::P.L::P.T::P.D::P.X::(P.E++os))) ho13 hax13 hk13 hn13
      have hoB:=ho13
      refine go 4 ?_
      rintro w14 Q14 (hg14:Good _ s (A13::Q10::Q3::Q14::P.S::P.K::P.B::P.L::P.T::P.D::P.X::(P.E++os))) hax14 hb14
      refine go 2 ?_
      have hwB:=hw.setB hoB hb14 rfl
      exact fun ac ha=>⟨[(0,ptr p),(6,.bool (decide (x.what<0))),(8,ptr b9)],ha.sub ⟨rfl,rfl,rfl,trivial⟩,⟨_,_,_,_,rfl,(((((((((((hg14.front 10 rfl).front 10 rfl).front 10 rfl).front 10 rfl).front 4 rfl).front 9 rfl).front 9 rfl).front 9 rfl).front 8 rfl).dropAt 9).dropAt 9),(haxM9.trans ((Aux.drew _).trans (hax8.trans (hax9.trans (hax10.trans (hax11.trans (hax12.trans (hax13.trans hax14)))))))),hwB,fun m hm=>by
       rcases List.mem_append.1 hm with hm | hm
       ·
        exact List.mem_of_mem_take (List.mem_of_mem_drop ((List.nil_append _▸hm)))
       ·
        exact List.mem_of_mem_take (List.mem_of_mem_drop hm),by simp only[List.length_append,List.length_nil,List.length_drop,List.length_take];omega⟩⟩
     ·
      refine go 1 ?_
      exact fun ac ha=>⟨[(0,ptr p),(6,.bool (decide (x.what<0))),(8,ptr b9)],ha.sub ⟨rfl,rfl,rfl,trivial⟩,⟨P.W,P.B,W.bag,a,rfl,((((((((((hg10.front 9 rfl).front 9 rfl).front 9 rfl).front 9 rfl).front 9 rfl).front 9 rfl).front 9 rfl).front 9 rfl).front 8 rfl).dropAt 9),(haxM9.trans ((Aux.drew _).trans (hax8.trans (hax9.trans hax10)))),hw,fun m hm=>hm,Nat.le_refl _⟩⟩
    rintro E17 w17 ⟨WN,BN,bN,aN,rfl,hgM17,haxM17,hwN,hsub,hlN⟩
    have hWN:=hW.sub hsub (by omega)
    have hcN:=hwN.cells
    refine go 2 ?_
    have hg15:=hgM17.drew
    refine CW.dw [1,3,5,7,9,11,13,15,17,19,21,23,25] (fun w=>At1 b9 _ w∧At1 p _ w∧True) ?_
    refine go 4 ?_
    refine RL.part 98 rfl (fun h98=>?_) (fun h98=>?_)
    ·
     refine go 15 ?_
     refine CW.ret (zr1 ?_)
     exact⟨_,g,((Did.calm hWN (Nat.le_refl _) rfl rfl (by simp)).sub hlN rfl rfl rfl),_,{ P with W:=WN,B:=BN },_,rfl,(Le.refl _),(((((((((hg15.front 8 rfl).front 8 rfl).front 8 rfl).front 8 rfl).front 8 rfl).front 8 rfl).front 8 rfl).front 8 rfl).dropAt 8),(haxM17.trans (Aux.drew _)),hwN⟩
    ·
     refine go 10 ?_
     refine CW.cond rfl (fun h107=>?_) (fun h107=>?_)
     ·
      refine go 4 ?_
      refine CW.ret (zr1 ?_)
      exact⟨_,g,((Did.calm hWN (Nat.le_refl _) rfl rfl (by simp)).sub hlN rfl rfl rfl),_,{ P with W:=WN,B:=BN },_,rfl,(Le.refl _),(((((((((hg15.front 8 rfl).front 8 rfl).front 8 rfl).front 8 rfl).front 8 rfl).front 8 rfl).front 8 rfl).front 8 rfl).dropAt 8),(haxM17.trans (Aux.drew _)),hwN⟩
     ·
      obtain⟨i2,hi2,hi3⟩:∃ i2:Nat,W.bag[kb].to=i2+1∧i2<W.s.length:=by
       have h9:¬ (W.bag[kb].to<1):=decide_f h98
       have h10:¬ (W.bag[kb].to>(W.s.length:Int)):=decide_f h107
       exact⟨(W.bag[kb].to-1).toNat,by omega,by omega⟩
      refine go 2 ?_
      have hg16:=hg15.drew
      refine CW.dx [1,3,5,7,9,15,10,13] [16,18] 8 2 (fun w=>At1 b9 _ w∧True) ?_
      refine go 3 ?_
      refine RL.sub rfl rfl rfl rfl rfl rfl (by rw[hi2];simp only[rng];omega) ?_
      rw[show W.bag[kb].to-1=(i2:Int) by omega]
      refine go 3 ?_
      refine zc (cloneMsg_ct hg16 hm ((minv_fit hm hmb.1).small (by omega))) ?_
      rintro v17 s17 B17 w17 hle17 (hg17:Good _ s17 (B17::Q10::WN::P.S::P.K::BN::P.L::P.T::P.D::P.X::(P.E++os))) hax17 ⟨y2,rfl,hm2⟩
      have hg17:=hg17.drop
      have hwN:=hwN.up hle17
      refine go 4 ?_
      have hgk:Good _ s17 (({ P with W:=WN,B:=BN }:WP).os++([Q10]++os)):=WP.rot (bs:=[Q10]) (P:=({ P with W:=WN,B:=BN }:WP)) hg17
      refine RL.callG rfl rfl rfl rfl rfl ca25.out (give_ct (x:=⟨2,0,W.bag[kb],[],0,0,0⟩) (y:=y2) (da:=none) (dc:=0) hgk hwN hWN (List.getElem?_eq_getElem hi3) (fun _=>hmb) (by simp) ⟨minv_fit hm hmb.1,by simp⟩ ⟨hm2,by simp[rng],by simp[rng],by simp[rng],by simp[rng],by simp[rng],Imm.nil _ _ _ (Nat.zero_le _)⟩ hc hb) ?_
      rintro e3 w3 ⟨W3,g3,hd3,s3,P3,a3,rfl,hle3,hgk3,haxE,hw3⟩
      have hgE:Good w3 s3 (Q10::P3.W::P3.S::P3.K::P3.B::P3.L::P3.T::P3.D::P3.X::(P3.E++os)):=WP.unrot (bs:=[Q10]) hgk3
      refine⟨_,rfl,trivial,?_⟩
      refine go 2 ?_
      refine CW.ret (zr1 ?_)
      exact⟨W3,g3,(hd3.sub hlN rfl rfl rfl),s3,P3,a3,rfl,(hle17.trans hle3),(((((((((hgE.front 8 rfl).front 8 rfl).front 8 rfl).front 8 rfl).front 8 rfl).front 8 rfl).front 8 rfl).front 8 rfl).dropAt 8),(haxM17.trans ((Aux.drew _).trans ((Aux.drew _).trans (hax17.trans haxE)))),hw3⟩
  ·
   refine CW.meet (fun E' w'=>∃ b,E'=[(0,ptr p),(3,ptr b1),(5,i64 i),(6,.bool (decide (x.what<0))),(32,i64 k32),(117,.bool b)]∧Good w' s (Q3::P.W::P.S::P.K::P.B::P.L::P.T::P.D::P.X::(P.E++os))∧Aux w w') ?_ ?_
   ·
    refine go 5 ?_
    refine CW.cond rfl (fun h117=>?_) (fun h117=>?_)
    ·
     refine go 1 ?_
     exact fun ac ha=>⟨[(0,ptr p),(3,ptr b1),(5,i64 i),(6,.bool (decide (x.what<0))),(32,i64 k32),(117,.bool _)],ha.sub ⟨rfl,rfl,rfl,rfl,rfl,rfl,trivial⟩,⟨_,rfl,(((((((((hgM9.front 8 rfl).front 8 rfl).front 8 rfl).front 8 rfl).front 8 rfl).front 8 rfl).front 8 rfl).front 8 rfl).front 8 rfl),haxM9⟩⟩
    ·
     refine go 4 ?_
     exact fun ac ha=>⟨[(0,ptr p),(3,ptr b1),(5,i64 i),(6,.bool (decide (x.what<0))),(32,i64 k32),(117,.bool _)],ha.sub ⟨rfl,rfl,rfl,rfl,rfl,rfl,trivial⟩,⟨_,rfl,(((((((((hgM9.front 8 rfl).front 8 rfl).front 8 rfl).front 8 rfl).front 8 rfl).front 8 rfl).front 8 rfl).front 8 rfl).front 8 rfl),haxM9⟩⟩
   rintro E23 w23 ⟨b23,rfl,hgM23,haxM23⟩
   refine CW.cond rfl (fun h117=>?_) (fun h117=>?_)
   ·
    refine go 8 ?_
    have hgk:Good _ s (P.os++([Q3]++os)):=WP.rot (bs:=[Q3]) (P:=P) hgM23
    refine RL.callG rfl rfl rfl rfl rfl ca25.out (give_ct (x:=⟨3,0,Msg.zero,dt,0,0,0⟩) (y:=Lay.none) (da:=ea) (dc:=ec) hgk hw hW (List.getElem?_eq_getElem hi) (hd0 (show (3:Int)≠2 by decide)) hdl (inp_fit rfl hdl) (inp_ok rfl (by simp[rng]) (by simp[rng]) (by simp[rng]) (by simp[rng]) (by simp[rng]) hdt) hc hb) ?_
    rintro e3 w3 ⟨W3,g3,hd3,s3,P3,a3,rfl,hle3,hgk3,haxE,hw3⟩
    have hgE:Good w3 s3 (Q3::P3.W::P3.S::P3.K::P3.B::P3.L::P3.T::P3.D::P3.X::(P3.E++os)):=WP.unrot (bs:=[Q3]) hgk3
    refine⟨_,rfl,trivial,?_⟩
    refine go 2 ?_
    refine CW.ret (zr1 ?_)
    exact⟨W3,g3,hd3,s3,P3,a3,rfl,hle3,(((((((((hgE.front 8 rfl).front 8 rfl).front 8 rfl).front 8 rfl).front 8 rfl).front 8 rfl).front 8 rfl).front 8 rfl).dropAt 8),(haxM23.trans haxE),hw3⟩
   ·
    refine go 5 ?_
    refine CW.cond rfl (fun h127=>?_) (fun h127=>?_)
    ·
     refine CW.meet (fun E' w'=>∃ QN pN,∃ k131 k140:Nat,E'=[(0,ptr p),(5,i64 i),(6,.bool (decide (x.what<0))),(10,ptr pN)]∧Good w' s (QN::Q3::P.W::P.S::P.K::P.B::P.L::P.T::P.D::P.X::(P.E++os))∧Aux w w'∧k131<3∧k140<W.s.length∧QN pN=some (.cells #[i64 (1+(k131:Int)),i64 (1+(k140:Int))] 59 (0,0))) ?_ ?_
     ·
      have hg18:=hgM23.drew
      refine CW.forks (.fork [(true,0),(true,1),(true,4),(true,5),(true,6),(true,7),(true,8),(true,9),(true,10)] (.fork [(false,2),(true,3)] (.line [(false,11),(true,12),(true,13),(false,14),(false,15)]) (.line [(false,14),(false,11),(true,12),(true,13),(false,15)])) (.line [(false,14),(false,2),(true,3),(false,11),(true,12),(true,13),(false,15)])) (fun w=>At1 b1 _ w∧At1 p _ w∧True) mixed (by kernel_rfl) (by kernel_rfl) (by kernel_rfl) (by kernel_rfl) (⟨hg18.at1 (by simp) hQ3,hg18.at1 (by simp) hc0,trivial⟩) ?_
      refine RT.pre (S:=fun w=>At1 b1 _ w∧At1 p _ w∧True) (⟨hg18.at1 (by simp) hQ3,hg18.at1 (by simp) hc0,trivial⟩) ?_
      refine go 10 ?_
      refine RT.both (S:=fun w=>At1 b1 _ w∧At1 p _ w∧True) (⟨hg18.at1 (by simp) hQ3,hg18.at1 (by simp) hc0,trivial⟩) (RT.pre (S:=fun w=>At1 b1 _ w∧At1 p _ w∧True) (⟨hg18.at1 (by simp) hQ3,hg18.at1 (by simp) hc0,trivial⟩) ?_) (RT.end_ (S:=fun w=>At1 b1 _ w∧At1 p _ w∧True) (⟨hg18.at1 (by simp) hQ3,hg18.at1 (by simp) hc0,trivial⟩) ?_)
      ·
       refine go 1 ?_
       refine zw (pick2_ct (n:=3) hg18 hx4 (by omega) (by omega)) ?_
       rintro v19 w19 (hg19:Good _ s (Q3::P.W::P.S::P.K::P.B::P.L::P.T::P.D::P.X::(P.E++os))) hax19 ⟨k131,hk131,rfl⟩
       refine go 3 ?_
       refine RT.both (S:=fun w=>At1 b1 _ w∧At1 p _ w∧True) (⟨hg19.at1 (by simp) hQ3,hg19.at1 (by simp) hc0,trivial⟩) (RT.end_ (S:=fun w=>At1 b1 _ w∧At1 p _ w∧True) (⟨hg19.at1 (by simp) hQ3,hg19.at1 (by simp) hc0,trivial⟩) ?_) (RT.end_ (S:=fun w=>At1 b1 _ w∧At1 p _ w∧True) (⟨hg19.at1 (by simp) hQ3,hg19.at1 (by simp) hc0,trivial⟩) ?_)
       ·
        refine go 1 ?_
        refine zw (pick2_ct (n:=W.s.length) hg19 hx3 (by omega) (by omega)) ?_
        rintro v20 w20 (hg20:Good _ s (Q3::P.W::P.S::P.K::P.B::P.L::P.T::P.D::P.X::(P.E++os))) hax20 ⟨k140,hk140,rfl⟩
        refine go 4 ?_
        rintro b21 w21 Q21 (hg21:Good _ s (Q21::Q3::P.W::P.S::P.K::P.B::P.L::P.T::P.D::P.X::(P.E++os))) hax21 hb21
        refine go 2 ?_
        rintro w22 Q22 (hg22:Good _ s (Q22::Q3::P.W::P.S::P.K::P.B::P.L::P.T::P.D::P.X::(P.E++os))) hax22 hb22
        refine go 2 ?_
        exact fun ac ha=>⟨[(0,ptr p),(5,i64 i),(6,.bool (decide (x.what<0))),(10,ptr b21)],ha.sub ⟨rfl,rfl,rfl,rfl,trivial⟩,⟨_,b21,k131,k140,rfl,((((((((((hg22.front 9 rfl).front 9 rfl).front 9 rfl).front 9 rfl).front 9 rfl).front 9 rfl).front 9 rfl).front 9 rfl).front 9 rfl).front 9 rfl),(haxM23.trans ((Aux.drew _).trans (hax19.trans (hax20.trans (hax21.trans hax22))))),hk131,hk140,hb22⟩⟩
       ·
        refine go 1 ?_
        rintro b23 w23 Q23 (hg23:Good _ s (Q23::Q3::P.W::P.S::P.K::P.B::P.L::P.T::P.D::P.X::(P.E++os))) hax23 hb23
        refine go 2 ?_
        refine zw (pick2_ct (n:=W.s.length) hg23 hx3 (by omega) (by omega)) ?_
        rintro v24 w24 (hg24:Good _ s (Q23::Q3::P.W::P.S::P.K::P.B::P.L::P.T::P.D::P.X::(P.E++os))) hax24 ⟨k140,hk140,rfl⟩
        refine go 4 ?_
        rintro w25 Q25 (hg25:Good _ s (Q25::Q3::P.W::P.S::P.K::P.B::P.L::P.T::P.D::P.X::(P.E++os))) hax25 hb25
        refine go 2 ?_
        exact fun ac ha=>⟨[(0,ptr p),(5,i64 i),(6,.bool (decide (x.what<0))),(10,ptr b23)],ha.sub ⟨rfl,rfl,rfl,rfl,trivial⟩,⟨_,b23,k131,k140,rfl,((((((((((hg25.front 9 rfl).front 9 rfl).front 9 rfl).front 9 rfl).front 9 rfl).front 9 rfl).front 9 rfl).front 9 rfl).front 9 rfl).front 9 rfl),(haxM23.trans ((Aux.drew _).trans (hax19.trans (hax23.trans (hax24.trans hax25))))),hk131,hk140,hb25⟩⟩
      ·
       refine go 1 ?_
       rintro b26 w26 Q26 (hg26:Good _ s (Q26::Q3::P.W::P.S::P.K::P.B::P.L::P.T::P.D::P.X::(P.E++os))) hax26 hb26
       refine go 2 ?_
       refine zw (pick2_ct (n:=3) hg26 hx4 (by omega) (by omega)) ?_
       rintro v27 w27 (hg27:Good _ s (Q26::Q3::P.W::P.S::P.K::P.B::P.L::P.T::P.D::P.X::(P.E++os))) hax27 ⟨k131,hk131,rfl⟩
       refine go 3 ?_
       refine zw (pick2_ct (n:=W.s.length) hg27 hx3 (by omega) (by omega)) ?_
       rintro v28 w28 (hg28:Good _ s (Q26::Q3::P.W::P.S::P.K::P.B::P.L::P.T::P.D::P.X::(P.E++os))) hax28 ⟨k140,hk140,rfl⟩
       refine go 4 ?_
       rintro w29 Q29 (hg29:Good _ s (Q29::Q3::P.W::P.S::P.K::P.B::P.L::P.T::P.D::P.X::(P.E++os))) hax29 hb29
       refine go 2 ?_
       exact fun ac ha=>⟨[(0,ptr p),(5,i64 i),(6,.bool (decide (x.what<0))),(10,ptr b26)],ha.sub ⟨rfl,rfl,rfl,rfl,trivial⟩,⟨_,b26,k131,k140,rfl,((((((((((hg29.front 9 rfl).front 9 rfl).front 9 rfl).front 9 rfl).front 9 rfl).front 9 rfl).front 9 rfl).front 9 rfl).front 9 rfl).front 9 rfl),(haxM23.trans ((Aux.drew _).trans (hax26.trans (hax27.trans (hax28.trans hax29))))),hk131,hk140,hb29⟩⟩
     rintro E27 w27 ⟨QN,pN,k131,k140,rfl,hgM27,haxM27,hk131,hk140,hQN⟩
     refine go 7 ?_
     have hgk:Good _ s (P.os++([QN,Q3]++os)):=WP.rot (bs:=[QN,Q3]) (P:=P) hgM27
     refine RL.callG rfl rfl rfl rfl rfl ca25.out (give_ct (x:=⟨4,0,Msg.zero,[],1+(k131:Int),1+(k140:Int),0⟩) (y:=Lay.none) (da:=none) (dc:=0) hgk hw hW (List.getElem?_eq_getElem hi) (hd0 (show (4:Int)≠2 by decide)) (by simp) (inp_fit rfl (by simp)) (inp_ok rfl (by simp[rng]) (by simp[rng]) (by simp only[rng];omega) (by simp only[rng];omega) (by simp[rng]) (Imm.nil _ _ _ (Nat.zero_le _))) hc hb) ?_
     rintro e3 w3 ⟨W3,g3,hd3,s3,P3,a3,rfl,hle3,hgk3,haxE,hw3⟩
     have hgE:Good w3 s3 (QN::Q3::P3.W::P3.S::P3.K::P3.B::P3.L::P3.T::P3.D::P3.X::(P3.E++os)):=WP.unrot (bs:=[QN,Q3]) hgk3
     refine⟨_,rfl,trivial,?_⟩
     refine go 2 ?_
     refine CW.ret (zr1 ?_)
     exact⟨W3,g3,hd3,s3,P3,a3,rfl,hle3,((((((((((hgE.front 9 rfl).front 9 rfl).front 9 rfl).front 9 rfl).front 9 rfl).front 9 rfl).front 9 rfl).front 9 rfl).dropAt 8).dropAt 8),(haxM27.trans haxE),hw3⟩
    ·
     refine go 5 ?_
     refine CW.cond rfl (fun h149=>?_) (fun h149=>?_)
     ·
      refine go 1 ?_
      have hg30:=hgM23.drew
      refine CW.dx [1,3,5,7,9,11,13,15,17,25,18,21,23] [26,28] 13 2 (fun w=>At1 b1 _ w∧At1 p _ w∧True) ?_
      refine go 11 ?_
      refine zw (pick2_ct (n:=W.s.length) hg30 hx3 (by omega) (by omega)) ?_
      rintro v31 w31 (hg31:Good _ s (Q3::P.W::P.S::P.K::P.B::P.L::P.T::P.D::P.X::(P.E++os))) hax31 ⟨k160,hk160,rfl⟩
      refine go 5 ?_
      have hgk:Good _ s (P.os++([Q3]++os)):=WP.rot (bs:=[Q3]) (P:=P) hg31
      refine RL.callG rfl rfl rfl rfl rfl ca25.out (give_ct (x:=⟨5,0,Msg.zero,[],0,0,1+(k160:Int)⟩) (y:=Lay.none) (da:=none) (dc:=0) hgk hw hW (List.getElem?_eq_getElem hi) (hd0 (show (5:Int)≠2 by decide)) (by simp) (inp_fit rfl (by simp)) (inp_ok rfl (by simp[rng]) (by simp[rng]) (by simp[rng]) (by simp[rng]) (by simp only[rng];omega) (Imm.nil _ _ _ (Nat.zero_le _))) hc hb) ?_
      rintro e3 w3 ⟨W3,g3,hd3,s3,P3,a3,rfl,hle3,hgk3,haxE,hw3⟩
      have hgE:Good w3 s3 (Q3::P3.W::P3.S::P3.K::P3.B::P3.L::P3.T::P3.D::P3.X::(P3.E++os)):=WP.unrot (bs:=[Q3]) hgk3
      refine⟨_,rfl,trivial,?_⟩
      refine go 2 ?_
      refine CW.ret (zr1 ?_)
      exact⟨W3,g3,hd3,s3,P3,a3,rfl,hle3,(((((((((hgE.front 8 rfl).front 8 rfl).front 8 rfl).front 8 rfl).front 8 rfl).front 8 rfl).front 8 rfl).front 8 rfl).dropAt 8),(haxM23.trans ((Aux.drew _).trans (hax31.trans haxE))),hw3⟩
     ·
      refine go 5 ?_
      refine CW.cond rfl (fun h165=>?_) (fun h165=>?_)
      ·
       refine go 4 ?_
       have hiW:W.s[i]?=some W.s[i]:=List.getElem?_eq_getElem hi
       have hnd:=hW.node i _ hiW
       obtain⟨hNr,hWr⟩:=hW.rise hiW (kept_some hW hiW) (by omega)
       have hgk:Good _ s (P.os++([Q3]++os)):=WP.rot (bs:=[Q3]) hgM23
       refine RL.callG rfl rfl rfl rfl rfl ca41.out (rise_ct hgk hw hiW (kept_some hW hiW) hNr (hnd.fit.log.small (by omega)) hnd.fit.id) ?_
       rintro e3 w3 ⟨s3,P3,a3,rfl,hle3,hgk3,haxE,hw3⟩
       have hgE:Good w3 s3 (Q3::P3.W::P3.S::P3.K::P3.B::P3.L::P3.T::P3.D::P3.X::(P3.E++os)):=WP.unrot (bs:=[Q3]) hgk3
       refine⟨_,rfl,trivial,?_⟩
       refine go 2 ?_
       refine CW.ret (zr1 ?_)
       exact⟨_,g,.calm hWr (Nat.le_refl _) rfl rfl (by simp),s3,P3,a3,rfl,hle3,(((((((((hgE.front 8 rfl).front 8 rfl).front 8 rfl).front 8 rfl).front 8 rfl).front 8 rfl).front 8 rfl).front 8 rfl).dropAt 8),(haxM23.trans haxE),hw3⟩
      ·
       refine go 7 ?_
       have hiW:W.s[i]?=some W.s[i]:=List.getElem?_eq_getElem hi
       have hgk:Good _ s (P.os++([Q3]++os)):=WP.rot (bs:=[Q3]) hgM23
       refine RL.callG rfl rfl rfl rfl rfl ca42.out (compact_ct hgk hw hW hiW hdt hdl hc hsn) ?_
       rintro e3 w3 ⟨W3,g3,hd3,s3,P3,a3,rfl,hle3,hgk3,haxE,hw3⟩
       have hgE:Good w3 s3 (Q3::P3.W::P3.S::P3.K::P3.B::P3.L::P3.T::P3.D::P3.X::(P3.E++os)):=WP.unrot (bs:=[Q3]) hgk3
       refine⟨_,rfl,trivial,?_⟩
       refine go 2 ?_
       refine CW.ret (zr1 ?_)
       exact⟨W3,g3,hd3,s3,P3,a3,rfl,hle3,(((((((((hgE.front 8 rfl).front 8 rfl).front 8 rfl).front 8 rfl).front 8 rfl).front 8 rfl).front 8 rfl).front 8 rfl).dropAt 8),(haxM23.trans haxE),hw3⟩
end
end Go.Lw
namespace Go.Lw
open Go.Proofs
attribute [local irreducible] RL RA
def First (l:List Entry) (i:Int) (y:Entry):Prop:=∃ k:Nat,l[k]?=some y∧i≤y.index∧∀ (j:Nat) z,j<k→l[j]?=some z→z.index<i
def Fnd (l:List Entry) (i:Int) (k:Nat) (ys:List Entry):Prop:=ys.length≤1∧(ys=[]→∀ (j:Nat) z,j<k→l[j]?=some z→z.index<i)∧∀ y∈ys,First l i y
theorem Fnd.none (l:List Entry) (i:Int):Fnd l i 0 []:=⟨Nat.zero_le _,fun _ j z hj=>absurd hj (Nat.not_lt_zero _),fun y hy=>(by cases hy)⟩
theorem Fnd.over {l:List Entry} {i:Int} {k:Nat} (h:Fnd l i k []) (hk:k<l.length) (hi:¬ l[k].index≥i):Fnd l i (k+1) []:=⟨Nat.zero_le _,fun _ j z hj hz=>by
 by_cases hjk:j<k
 ·
  exact h.2.1 rfl j z hjk hz
 ·
  have:j=k:=by omega
  subst this
  rw[List.getElem?_eq_getElem hk] at hz
  have:=Option.some.inj hz
  subst this;omega,fun y hy=>(by cases hy)⟩
section
variable {w:World} {s r:Res} {os:List Res}
end
end Go.Lw
namespace Go.Lw
open Go.Proofs
open Safe (Wd WInv MInv G takenT)
attribute [local irreducible] RL RA
section
variable {w:World} {s:Res} {os:List Res}
end
end Go.Lw
namespace Go.Lw
open Go.Proofs
open Safe (Wd WInv MInv G takenT beginV blankV g0)
attribute [local irreducible] RL RA
def seqL (n:Nat):List Int:=(List.range n).map fun x:Nat=>(x:Int)+1
theorem seqL_len (n:Nat):(seqL n).length=n:=by simp[seqL]
theorem seqL_succ (n:Nat):seqL n++[(n:Int)+1]=seqL (n+1):=by simp[seqL,List.range_succ]
theorem seqL_take {n m:Nat} (h:m≤n):((seqL n).take (m:Int).toNat).drop (0:Int).toNat=seqL m:=by
 show ((seqL n).take m).drop 0=seqL m
 rw[List.drop_zero,seqL,← List.map_take,List.take_range,Nat.min_eq_left h];rfl
abbrev cN (m:Nat):Conf:=⟨seqL m,[]⟩
theorem cN_ok {m:Nat} (h1:1≤m) (h5:m≤5):checkP (cN m)=0:=by
 have:m=1∨m=2∨m=3∨m=4∨m=5:=by omega
 rcases this with rfl | rfl | rfl | rfl | rfl<;>decide
structure MadeP (m k:Nat) (W:Wd):Prop where
 slen:W.s.length=k
 klen:W.kept.length=k
 node:∀ (i:Nat) r v,W.s[i]?=some r→W.kept[i]?=some v→(v=beginV (cN m)∨v=blankV)∧r=newR (i+1) v
 rest:W.bag=[]∧W.lead=[]∧W.term=[]∧W.told=[]∧W.snap=[]
theorem MadeP.more {m k:Nat} {W:Wd} (h:MadeP m k W) {v:View} (hv:v=beginV (cN m)∨v=blankV):MadeP m (k+1) { W with s:=W.s++[newR (k+1) v],kept:=W.kept++[v] }:=by
 refine⟨by simp[h.slen],by simp[h.klen],fun i r u hi hu=>?_,h.rest⟩
 by_cases hk:i<k
 ·
  rw[List.getElem?_append_left (by rw[h.slen];exact hk)] at hi
  rw[List.getElem?_append_left (by rw[h.klen];exact hk)] at hu
  exact h.node i r u hi hu
 ·
  have h1:=(List.getElem?_eq_some_iff.1 hi).1
  simp only[List.length_append,List.length_singleton,h.slen] at h1
  have:i=k:=by omega
  subst this
  rw[List.getElem?_append_right (by rw[h.slen];exact Nat.le_refl _),h.slen] at hi
  rw[List.getElem?_append_right (by rw[h.klen];exact Nat.le_refl _),h.klen] at hu
  simp at hi hu
  subst hi hu
  exact⟨hv,rfl⟩
theorem MadeP.inv {n m:Nat} {W:Wd} (h:MadeP m n W) (h1:1≤m) (h5:m≤5) (hn:n≤5):WInv n (cN m) g0 0 W:=by
 have h0:=cN_ok h1 h5
 obtain⟨r1,r2,r3,r4,r5⟩:=h.rest
 have hv:∀ (i:Nat) r,W.s[i]?=some r→∃ v,(v=beginV (cN m)∨v=blankV)∧r=newR (i+1) v:=fun i r hi=>by
  have h1:=(List.getElem?_eq_some_iff.1 hi).1
  have h2:=List.getElem?_eq_getElem (l:=W.kept) (i:=i) (by rw[h.klen,← h.slen];exact h1)
  exact⟨_,h.node i r _ hi h2⟩
 refine⟨h.slen,h.klen,by omega,Safe.g0_inv h0,fun i r hi=>?_,fun i r v hi hu=>?_,fun m hm=>?_,by rw[r1];exact Nat.zero_le _,⟨by rw[r2,r3],fun k t b hk=>?_⟩,fun x hx=>?_,fun x hx=>?_,fun t=>Nat.le_refl _⟩
 ·
  obtain⟨v,h2,rfl⟩:=hv i r hi
  have h3:=(List.getElem?_eq_some_iff.1 hi).1
  rw[h.slen] at h3
  exact (Safe.start_node (by omega) (by omega) h2 h0).2
 ·
  obtain⟨h2,rfl⟩:=h.node i r v hi hu
  rcases h2 with rfl | rfl<;>rfl
 ·
  rw[r1] at hm;cases hm
 ·
  rw[r3] at hk;cases hk
 ·
  rw[r4] at hx;cases hx
 ·
  rw[r5] at hx;cases hx
theorem WAt.more {s:Res} {P:WP} {p:Nat} {w:Wd} {a:WA} (k:WAt s P p w a) {W' S' K':Res} {sa ka:Option Addr} {sc kc:Nat} {r:Raft} {v:View} {h:Hd} (hS:Own RRaft 20 44 s S' sa sc (w.s++[r])) (hK:Own RView 10 35 s K' ka kc (a.vk++[(v,h)])) (he:v.log.entries=[]) (ha:h.ea=none) (hc:h.ec=0) {cs:List Value}
  (hW:W' p=some (.cells cs.toArray 85 (0,0))) (hcs:cs=worldV { w with s:=w.s++[r],kept:=w.kept++[v] } { a with sa:=sa,sc:=sc,ka:=ka,kc:=kc,vk:=a.vk++[(v,h)] }) :
  WAt s { P with W:=W',S:=S',K:=K',E:=P.E++[Res.nil] } p { w with s:=w.s++[r],kept:=w.kept++[v] } { a with sa:=sa,sc:=sc,ka:=ka,kc:=kc,vk:=a.vk++[(v,h)] } :=
 { k with
  cells:=hcs▸hW
  S:=hS
  K:=hK
  kept:=by show w.kept++[v]=(a.vk++[(v,h)]).map (·.1);rw[k.kept];simp
  elen:=by show (P.E++[Res.nil]).length=(a.vk++[(v,h)]).length;simp[k.elen]
  E:=fun i u e h1 h2=>by
   have h1:(a.vk++[(v,h)])[i]?=some u:=h1
   have h2:(P.E++[Res.nil])[i]?=some e:=h2
   by_cases hi:i<a.vk.length
   ·
    rw[List.getElem?_append_left hi] at h1
    rw[List.getElem?_append_left (by rw[k.elen];exact hi)] at h2
    exact k.E i u e h1 h2
   ·
    rw[List.getElem?_append_right (by omega)] at h1
    rw[List.getElem?_append_right (by rw[k.elen];omega)] at h2
    have h3:=List.mem_singleton.1 (List.mem_of_getElem? h1)
    have h4:=List.mem_singleton.1 (List.mem_of_getElem? h2)
    subst h3 h4
    show Own REntry 6 _ s Res.nil h.ea h.ec v.log.entries
    rw[he,ha,hc]
    exact Own.nil _ _ _ _ _ }
theorem WP.grow {w:World} {s A W S K B L T D X:Res} {Es os:List Res} (h:Good w s (A::W::S::K::B::L::T::D::X::(Es++os))):Good w s (A::W::S::K::B::L::T::D::X::((Es++[Res.nil])++os)):=by
 refine h.nil.perm ?_
 have h1:(Res.nil::(([A,W,S,K,B,L,T,D,X]++Es)++os)).Perm (([A,W,S,K,B,L,T,D,X]++Es)++Res.nil::os):=List.perm_middle.symm
 simpa using h1
theorem Good.nilNext {w:World} {s A:Res} {os:List Res} (h:Good w s (A::os)):Good w s (A::Res.nil::os):=h.nil.swap
def MadePost (n m:Nat) (w0:World) (s:Res) (os:List Res):Ending→World→Prop:=fun e w' =>
 ∃ s' P p a W,e = .returned (.tuple #[ptr p,.bool true])∧Le s s'∧Good w' s' (P.os++os)∧Aux w0 w'∧WAt s' P p W a∧WInv n (cN m) g0 0 W∧W.told=[]∧W.term=[]∧W.snap=[]
section
variable {w:World} {s:Res} {os:List Res}
theorem BeginN_ct {a:Option Addr} {k c:Nat} (hg:Good w s os) :
  Calls Tryz.prog 28 #[.slice a k c,.slice none 0 0] w (PostV w s os fun q=>q = .agg #[u64 1,i64 0,u64 1,u64 1,u64 1,.slice a k c,.slice none 0 0,.slice none 0 0,.slice none 0 0,.bool false]):=by
 refine enter (l:=[.slice a k c,.slice none 0 0]) Tryz.func28 rfl Tryz.ntmps28 rfl ?_
 refine go 3 ?_
 rintro b1 w1 Q1 (hg1:Good _ s (Q1::os)) hax1 hb1
 refine go 12 ?_
 rintro w2 Q2 (hg2:Good _ s (Q2::os)) hax2 hb2
 refine go 2 ?_
 refine CW.ret (ret (vs:=[_]) ⟨_,_,_,rfl,rfl,zl hb2,rfl⟩ ?_)
 exact PostV.mq (hg2.drop) rfl
theorem Made_ct {n m:Nat} (hg:Good w s os) (hm1:1≤m) (hmn:m≤n) (hn5:n≤5) :
  Calls Tryz.prog 15 #[i64 (n:Int),i64 (m:Int)] w (MadePost n m w s os):=by
 have h0:=cN_ok hm1 (by omega:m≤5)
 refine enter (l:=[i64 (n:Int),i64 (m:Int)]) Tryz.func15 rfl Tryz.ntmps15 rfl ?_
 refine go 9 ?_
 rintro b3 w3 Q3 (hg3:Good _ s (Q3::os)) hax3 hb3
 refine go 13 ?_
 obtain⟨p,hp⟩:∃ z,z=b3:=⟨_,rfl⟩
 have hcp:=hb3
 rw[←hp] at hcp ⊢
 refine CW.loop (σ:=Nat) (fun j E w'=>∃ A' a' c',∃ k:Nat,Good w' s (A'::Q3::os)∧Aux w w'∧E=[(0,i64 (n:Int)),(1,i64 (m:Int)),(6,ptr p),(7,.slice a' (seqL k).length c'),(8,i64 ((k:Int)+1))]∧k+j=n∧Own (RInt .i64) 1 3 s A' a' c' (seqL k)) (fun j=>j) n [(0,i64 (n:Int)),(1,i64 (m:Int)),(6,ptr p),(7,.slice none 0 0),(8,i64 1)] ⟨rfl,rfl,rfl,rfl,rfl,trivial⟩ ⟨Res.nil,none,0,0,hg3.nil,hax3,rfl,by omega,Own.nil _ _ _ _ _⟩ ?_
 rintro j E wL ⟨AL,al,cl,k,hgL,haxL,rfl,hk,hoA⟩
 refine go 7 ?_
 refine CW.cond rfl (fun h17=>?_) (fun h17=>?_)
 ·
  have hlt:k+1≤n:=by have h9:((k:Int)+1)≤(n:Int):=decide_t h17;omega
  refine go 7 ?_
  rintro b4 w4 Q4 (hg4:Good _ s (Q4::AL::Q3::os)) hax4 hb4
  refine go 1 ?_
  obtain⟨news5,hsrc5,hch5⟩:=(one_news (R:=RInt .i64) (xs:=[(k:Int)+1]) sl25.out hb4 (hg4.mem (by simp)) (Chunks.single rfl ⟨rfl,by simp only[rng];omega⟩))
  refine RL.append2 (i:=1) (xs:=(seqL k)) (ys:=[(k:Int)+1]) rfl rfl rfl rfl sl25.out ze3.out rfl (RInt.one .i64) (rfl) rfl hg4 rfl (hoA) hsrc5 hch5 ((by rw[seqL_len];simp only[List.length_singleton];omega)) (by omega) ?_
  rintro a5 c5 A5 w5 (hg5:Good _ s (Q4::A5::Q3::os)) ho5 hax5 hk5 hn5
  rw[seqL_succ] at ho5 ⊢
  have hoN:=ho5
  refine go 8 ?_
  cases j with
  | zero=>omega
  | succ j=>exact fun ac ha=>⟨j,[(0,i64 (n:Int)),(1,i64 (m:Int)),(6,ptr p),(7,.slice _ (seqL (k+1)).length _),(8,i64 ((k:Int)+1+1))],ha.sub ⟨rfl,rfl,rfl,rfl,rfl,trivial⟩,⟨_,_,_,k+1,(((hg5.front 2 rfl).front 2 rfl).dropAt 2),(haxL.trans (hax4.trans hax5)),rfl,by omega,hoN⟩,Nat.lt_succ_self j⟩
 ·
  have hkn:k=n:=by have h9:¬ (((k:Int)+1)≤(n:Int)):=decide_f h17;omega
  subst hkn
  refine go 7 ?_
  have hgZ:=(show Good wL s (Q3::AL::os) from (hgL.front 1 rfl)).nilNext.nilNext.nilNext.nilNext.nilNext.nilNext.nilNext
  obtain⟨P0,hP0⟩:∃ P:WP,P=⟨Q3,Res.nil,Res.nil,Res.nil,Res.nil,Res.nil,Res.nil,Res.nil,[]⟩:=⟨_,rfl⟩
  have hgY:Good wL s (AL::P0.W::P0.S::P0.K::P0.B::P0.L::P0.T::P0.D::P0.X::(P0.E++os)):=by rw[hP0];exact hgZ.front 8 rfl
  have hw0:WAt s P0 p ⟨[],[],[],[],[],[],[]⟩ ⟨none,0,none,0,none,0,none,0,none,0,none,0,none,0,[]⟩:=by rw[hP0];exact⟨hcp,rfl,Own.nil _ _ _ _ _,Own.nil _ _ _ _ _,Own.nil _ _ _ _ _,Own.nil _ _ _ _ _,Own.nil _ _ _ _ _,Own.nil _ _ _ _ _,Own.nil _ _ _ _ _,rfl,fun i v e h=>(by cases h)⟩
  refine CW.loop (σ:=Nat) (fun j E w'=>∃ s' P a W,∃ q:Nat,Good w' s' (AL::P.W::P.S::P.K::P.B::P.L::P.T::P.D::P.X::(P.E++os))∧Aux w w'∧Le s s'∧E=[(0,i64 (k:Int)),(1,i64 (m:Int)),(6,ptr p),(7,.slice al (seqL k).length cl),(9,i64 ((q:Int)+1))]∧q+j=k∧WAt s' P p W a∧MadeP m q W) (fun j=>j) k [(0,i64 (k:Int)),(1,i64 (m:Int)),(6,ptr p),(7,.slice al (seqL k).length cl),(9,i64 1)] ⟨rfl,rfl,rfl,rfl,rfl,trivial⟩ ⟨s,P0,_,_,0,hgY,haxL,(Le.refl _),rfl,by omega,hw0,⟨rfl,rfl,fun i r v h=>(by cases h),rfl,rfl,rfl,rfl,rfl⟩⟩ ?_
  rintro j2 E wM ⟨sM,P,a,W,q,hgM,haxM,hleM,rfl,hq,hw,hM⟩
  have hoA:=hoA.up (RInt.up _) hleM
  have hcW:=hw.cells
  refine go 7 ?_
  refine CW.cond rfl (fun h26=>?_) (fun h26=>?_)
  ·
   have hlq:q+1≤k:=by have h9:((q:Int)+1)≤(k:Int):=decide_t h26;omega
   refine go 6 ?_
   rintro b6 w6 Q6 (hg6:Good _ sM (Q6::AL::P.W::P.S::P.K::P.B::P.L::P.T::P.D::P.X::(P.E++os))) hax6 hb6
   refine go 3 ?_
   refine RL.partL 0 (m:Int) rfl rfl rfl rfl sl25.out rfl (.inl ⟨rfl,rfl⟩) (.inr ⟨_,_,rfl,rfl⟩) hoA.lies (by omega) (by omega) (by rw[seqL_len];omega) ?_
   rintro pa pc hPa
   obtain⟨news7,hsrc7,hch7⟩:=(Src.lies sl25.out hPa (hg6.mem (by simp)))
   refine RL.append2 (i:=0) (xs:=[]) (ys:=(((seqL k).take (m:Int).toNat).drop (0:Int).toNat)) rfl rfl rfl rfl sl25.out ze3.out rfl (RInt.one .i64) (rfl) rfl hg6 rfl (Own.empty hb6) hsrc7 hch7 ((by simp only[List.length_nil,List.length_drop,List.length_take,seqL_len];omega)) (by omega) ?_
   rintro a7 c7 A7 w7 (hg7:Good _ sM (A7::AL::P.W::P.S::P.K::P.B::P.L::P.T::P.D::P.X::(P.E++os))) ho7 hax7 hk7 hn7
   rw[List.nil_append,seqL_take hmn] at ho7 ⊢
   have hoV:=ho7
   refine go 1 ?_
   obtain⟨s7,hg7,hle7,hm7⟩:=(hg7).letgo
   have hI7:=hoV.imm (RInt.up _) hle7 hm7
   have hw:=hw.up hle7
   have hoA:=hoA.up (RInt.up _) hle7
   refine go 1 ?_
   refine zw (BeginN_ct hg7) ?_
   rintro v8 w8 (hg8:Good _ s7 (AL::P.W::P.S::P.K::P.B::P.L::P.T::P.D::P.X::(P.E++os))) hax8 rfl
   refine go 2 ?_
   rintro b9 w9 Q9 (hg9:Good _ s7 (Q9::AL::P.W::P.S::P.K::P.B::P.L::P.T::P.D::P.X::(P.E++os))) hax9 hb9
   refine go 2 ?_
   rintro w10 Q10 (hg10:Good _ s7 (Q10::AL::P.W::P.S::P.K::P.B::P.L::P.T::P.D::P.X::(P.E++os))) hax10 hb10
   refine go 2 ?_
   refine CW.meet (fun E' w'=>∃ Q10 v hv0,E'=[(0,i64 (k:Int)),(1,i64 (m:Int)),(6,ptr p),(7,.slice al (seqL k).length cl),(10,ptr b9),(9,i64 ((q:Int)+1))]∧Good w' s7 (Q10::AL::P.W::P.S::P.K::P.B::P.L::P.T::P.D::P.X::(P.E++os))∧Aux w w'∧Q10 b9=some (.cells (viewV v hv0).toArray 35 (0,0))∧(v=beginV (cN m)∨v=blankV)∧LogAt s7 s7 v.log hv0∧hv0.ea=none∧hv0.ec=0) ?_ ?_
   ·
    refine go 6 ?_
    refine CW.cond rfl (fun h37=>?_) (fun h37=>?_)
    ·
     refine go 3 ?_
     rintro w11 Q11 (hg11:Good _ s7 (Q11::AL::P.W::P.S::P.K::P.B::P.L::P.T::P.D::P.X::(P.E++os))) hax11 hb11
     refine go 2 ?_
     exact fun ac ha=>⟨[(0,i64 (k:Int)),(1,i64 (m:Int)),(6,ptr p),(7,.slice al (seqL k).length cl),(10,ptr b9),(9,i64 ((q:Int)+1))],ha.sub ⟨rfl,rfl,rfl,rfl,rfl,rfl,trivial⟩,⟨_,blankV,Hd.log none 0 none 0 none 0 none 0,rfl,((((((((((hg11.front 9 rfl).front 9 rfl).front 9 rfl).front 9 rfl).front 9 rfl).front 9 rfl).front 9 rfl).front 9 rfl).front 9 rfl).front 9 rfl),(haxM.trans (hax6.trans (hax7.trans (hax8.trans (hax9.trans (hax10.trans hax11)))))),hb11,.inr rfl,LogAt.none _ _,rfl,rfl⟩⟩
    ·
     refine go 1 ?_
     exact fun ac ha=>⟨[(0,i64 (k:Int)),(1,i64 (m:Int)),(6,ptr p),(7,.slice al (seqL k).length cl),(10,ptr b9),(9,i64 ((q:Int)+1))],ha.sub ⟨rfl,rfl,rfl,rfl,rfl,rfl,trivial⟩,⟨_,beginV (cN m),hd1 _ _,rfl,((((((((((hg10.front 9 rfl).front 9 rfl).front 9 rfl).front 9 rfl).front 9 rfl).front 9 rfl).front 9 rfl).front 9 rfl).front 9 rfl).front 9 rfl),(haxM.trans (hax6.trans (hax7.trans (hax8.trans (hax9.trans hax10))))),hb10,.inl rfl,⟨by simp[rng,beginV],by simp[rng,beginV],hI7,Imm.nil _ _ _ (Nat.zero_le _),Imm.nil _ _ _ (Nat.zero_le _),Imm.nil _ _ _ (Nat.zero_le _)⟩,rfl,rfl⟩⟩
   rintro E11 w11 ⟨Q10,v,hv0,rfl,hgE,haxE,hQ10,hvv,hlv,hea,hec⟩
   have hvs:v.log.small∧rng .u64 v.hard.term∧rng .i64 v.hard.vote∧rng .u64 v.hard.commit∧v.log.entries=[]:=by
    rcases hvv with rfl | rfl
    ·
     exact⟨⟨⟨by show (seqL m).length≤_;rw[seqL_len];omega,Nat.zero_le _⟩,Nat.zero_le _,fun e he=>(by cases he),Nat.zero_le _⟩,by simp[rng,beginV],by simp[rng,beginV],by simp[rng,beginV],rfl⟩
    ·
     exact⟨⟨⟨Nat.zero_le _,Nat.zero_le _⟩,Nat.zero_le _,fun e he=>(by cases he),Nat.zero_le _⟩,by simp[rng,blankV],by simp[rng,blankV],by simp[rng,blankV],rfl⟩
   refine go 4 ?_
   have hct:=New_ct (id:=(q:Int)+1) hgE hlv hvs.1 (by simp only[rng];omega) hvs.2.1 hvs.2.2.1 hvs.2.2.2.1
   rw[(Safe.start_node (i:=(q:Int)+1) (by omega) (by omega) hvv h0).1] at hct
   refine go 1 ?_
   refine zc (hct) ?_
   rintro v12 s12 B12 w12 hle12 (hg12:Good _ s12 (B12::Q10::AL::P.W::P.S::P.K::P.B::P.L::P.T::P.D::P.X::(P.E++os))) hax12 ⟨h42,rfl,hA42⟩
   have hg12:=hg12.drop
   have hw:=hw.up hle12
   have hoA:=hoA.up (RInt.up _) hle12
   have hlv:=hlv.up hle12
   have hvl:a.vk.length=q:=by have h1:=hM.klen;rw[hw.kept,List.length_map] at h1;exact h1
   refine go 5 ?_
   rintro b13 w13 Q13 (hg13:Good _ s12 (Q13::Q10::AL::P.W::P.S::P.K::P.B::P.L::P.T::P.D::P.X::(P.E++os))) hax13 hb13
   refine go 2 ?_
   rintro w14 Q14 (hg14:Good _ s12 (Q14::Q10::AL::P.W::P.S::P.K::P.B::P.L::P.T::P.D::P.X::(P.E++os))) hax14 hb14
   refine go 9 ?_
   refine CW.cond rfl (fun h46=>?_) (fun h46=>?_)
   ·
    refine go 6 ?_
    refine CW.ret (zr2 ?_)
    simp at h46
   ·
    refine go 2 ?_
    have hg15:=hg14.drew
    refine CW.dx [1,3,5,7,9,11,12,14,17,19] [20] 10 1 (fun w=>At1 p _ w∧At1 b13 _ w∧True) ?_
    refine go 7 ?_
    rintro b16 w16 Q16 (hg16:Good _ s12 (Q16::Q14::Q10::AL::P.W::P.S::P.K::P.B::P.L::P.T::P.D::P.X::(P.E++os))) hax16 hb16
    refine go 1 ?_
    obtain⟨news17,hsrc17,hch17⟩:=(one_news (R:=RRaft) (xs:=[newR ((q:Int)+1) v]) sl81.out hb16 (hg16.mem (by simp)) (Chunks.single rfl ⟨h42,rfl,hA42⟩))
    refine RL.append2 (i:=5) (xs:=W.s) (ys:=[newR ((q:Int)+1) v]) rfl rfl rfl rfl sl81.out ze44.out rfl RRaft.one (rfl) rfl hg16 rfl (hw.S) hsrc17 hch17 ((by rw[hM.slen];simp only[List.length_singleton];omega)) (by omega) ?_
    rintro a17 c17 A17 w17 (hg17:Good _ s12 (Q16::Q14::Q10::AL::P.W::A17::P.K::P.B::P.L::P.T::P.D::P.X::(P.E++os))) ho17 hax17 hk17 hn17
    have hoS:=ho17
    refine go 6 ?_
    rintro w18 Q18 (hg18:Good _ s12 (Q16::Q14::Q10::AL::Q18::A17::P.K::P.B::P.L::P.T::P.D::P.X::(P.E++os))) hax18 hb18
    refine go 2 ?_
    have hg19:=hg18.drew
    refine CW.dx [1,3,5,7,9,11,12,14,17,19] [20] 10 1 (fun w=>At1 p _ w∧At1 b9 _ w∧True) ?_
    refine go 7 ?_
    rintro b20 w20 Q20 (hg20:Good _ s12 (Q20::Q16::Q14::Q10::AL::Q18::A17::P.K::P.B::P.L::P.T::P.D::P.X::(P.E++os))) hax20 hb20
    refine go 1 ?_
    obtain⟨news21,hsrc21,hch21⟩:=(one_news (R:=RView) (xs:=[(v,hv0)]) sl82.out hb20 (hg20.mem (by simp)) (Chunks.single rfl ⟨rfl,⟨hvs.2.1,hvs.2.2.1,hvs.2.2.2.1,hlv.index,hlv.term,hlv.voters,hlv.learners,hlv.data⟩⟩))
    refine RL.append2 (i:=7) (xs:=a.vk) (ys:=[(v,hv0)]) rfl rfl rfl rfl sl82.out ze35.out rfl RView.one (rfl) rfl hg20 rfl (hw.K) hsrc21 hch21 ((by rw[hvl];simp only[List.length_singleton];omega)) (by omega) ?_
    rintro a21 c21 A21 w21 (hg21:Good _ s12 (Q20::Q16::Q14::Q10::AL::Q18::A17::A21::P.B::P.L::P.T::P.D::P.X::(P.E++os))) ho21 hax21 hk21 hn21
    have hoK:=ho21
    refine go 6 ?_
    rintro w22 Q22 (hg22:Good _ s12 (Q20::Q16::Q14::Q10::AL::Q22::A17::A21::P.B::P.L::P.T::P.D::P.X::(P.E++os))) hax22 hb22
    refine go 7 ?_
    cases j2 with
    | zero=>omega
    | succ j2=>exact fun ac ha=>⟨j2,[(0,i64 (k:Int)),(1,i64 (m:Int)),(6,ptr p),(7,.slice al (seqL k).length cl),(9,i64 ((q:Int)+1+1))],ha.sub ⟨rfl,rfl,rfl,rfl,rfl,trivial⟩,⟨_,_,_,_,q+1,WP.grow (((((((((((((hg22.front 12 rfl).front 12 rfl).front 12 rfl).front 12 rfl).front 12 rfl).front 12 rfl).front 12 rfl).front 12 rfl).front 12 rfl).dropAt 9).dropAt 9).dropAt 9).dropAt 9),(haxE.trans (hax12.trans (hax13.trans (hax14.trans ((Aux.drew _).trans (hax16.trans (hax17.trans (hax18.trans ((Aux.drew _).trans (hax20.trans (hax21.trans hax22))))))))))),(hleM.trans (hle7.trans hle12)),rfl,by omega,hw.more hoS hoK hvs.2.2.2.2 hea hec hb22 rfl,hM.more hvv⟩,Nat.lt_succ_self j2⟩
  ·
   refine go 7 ?_
   refine CW.ret (zr2 ?_)
   have hqk:q=k:=by have h9:¬ (((q:Int)+1)≤(k:Int)):=decide_f h26;omega
   subst hqk
   exact⟨_,P,p,a,W,rfl,hleM,(((((((((hgM.front 8 rfl).front 8 rfl).front 8 rfl).front 8 rfl).front 8 rfl).front 8 rfl).front 8 rfl).front 8 rfl).dropAt 8),haxM,hw,hM.inv hm1 (by omega) (by omega),hM.rest.2.2.2.1,hM.rest.2.2.1,hM.rest.2.2.2.2⟩
end
end Go.Lw
namespace Go.Lw
open Go.Proofs
section
variable {H:Type} {enc:TypeId × Value→H} {W:World}
end
end Go.Lw
namespace Go.Lw
open Go.Proofs
open Safe (Wd WInv MInv G takenT)
attribute [local irreducible] RL RA
def RawAct.size (x:RawAct):Nat:=x.data.length
theorem RAct.one:One RAct:=fun _ _ _ ⟨a,c,h1,_⟩ v hv=>by
 subst h1
 simp only[List.mem_cons,List.not_mem_nil,or_false] at hv
 rcases hv with rfl | rfl | rfl | rfl | rfl<;>rfl
theorem Good.dropL {w:World} {s:Res} {os:List Res}:∀ {Es:List Res},Good w s (Es++os)→Good w s os
 | [],h=>h
 | _::_,h=>Good.dropL (Good.drop h)
section
variable {w:World} {s:Res} {os:List Res}
end
section
variable {H:Type} {enc:TypeId × Value→H} {W:World}
theorem op_act:Op enc W 76 RAct RawAct.size :=
 (opens_struct Tryz.underlying76 (by kernel_rfl) (opens_cons rfl (by kernel_rfl:_=1) op_int (opens_cons rfl (by kernel_rfl:_=1) op_int (opens_cons rfl (by kernel_rfl:_=1) op_int
  (opens_cons rfl (by kernel_rfl:_=1) op_int (opens_cons rfl (by kernel_rfl:_=1) op_bytes (opens_nil _)))))) blk_agg).imp
  (fun x=>(⟨x.1,x.2.1,x.2.2.1,x.2.2.2.1,x.2.2.2.2.1⟩:RawAct)) (fun s vs x h=>by
   obtain⟨_,_,rfl,_,⟨rfl,r1⟩,_,_,rfl,_,⟨rfl,r2⟩,_,_,rfl,_,⟨rfl,r3⟩,_,_,rfl,_,⟨rfl,r4⟩,_,_,rfl,_,⟨a,c,rfl,h1⟩,h5⟩:=h
   cases (show _=[] from h5)
   exact⟨a,c,rfl,⟨r1,r2,r3,r4,h1⟩⟩) (fun x=>by simp only[RawAct.size];omega)
theorem op_acts:Op enc W 69 (RSl RAct 5) (fun xs=>max xs.length (xs.map RawAct.size).sum) :=
 (opens_slice Tryz.underlying69 (by kernel_rfl:_=5) (by decide) op_act blk_slice blk_len).imp id (fun _ _ _ h=>h) (fun _=>Nat.le_refl _)
end
end Go.Lw

