/-
  Parts of the proof of the laws RaftcoreChangesUptoSaid: KcX, KcY, KcZ, KcV, StEq, KdA, KdC, KdD, KdE, KdI, KdB, Open, OpW, OpB, KdF, KdJ, KdK, KfA, KfB, KfC, KeA, KeB, KeC, KeD, KeE, KeF, KeG, KeH, KeI, KeJ.
-/
import Derived.Test.YtpjclnomaemokaaGreatRhA3
import Derived.Laws.StructEq
import Derived.ProofKit
import Derived.OpenShut
import Derived.Carry
import Derived.Test.YtpjclnomaemokaaGreatRows
set_option maxRecDepth 100000
set_option maxHeartbeats 16000000
set_option linter.all false
namespace Go.Lw
open Go.Proofs
attribute [local irreducible] RL RA
section
variable {w:World} {s A:aj} {os:List aj} {p:Nat} {h:Hd} {n:ai}
theorem Tx {k x:Int} (h0:n.s.af.aB<(ce n.s.ah).2):n.gG k x=((ce n.s.ah).1,102):=by unfold ai.gG;rw[if_pos h0]
theorem Ty {k x:Int} (h0:¬ n.s.af.aB<(ce n.s.ah).2) (h1:(cE n.s.ah n.s.af.aB).1≠n.s.af.ab):n.gG k x=((ce n.s.ah).1,104):=by unfold ai.gG;rw[if_neg h0,if_pos h1]
theorem Tw {k x:Int} (h0:¬ n.s.af.aB<(ce n.s.ah).2) (h1:¬ (cE n.s.ah n.s.af.aB).1≠n.s.af.ab) (h2:(gb (ce n.s.ah).1 k x).2=0∧k=2∧(∀ p,n.gu x=some p→p.cA<n.s.af.aB)):n.gG k x=((ce n.s.ah).1,103):=by
 unfold ai.gG;rw[if_neg h0,if_neg h1,if_pos h2]
theorem MB {k x:Int} (h0:¬ n.s.af.aB<(ce n.s.ah).2) (h1:¬ (cE n.s.ah n.s.af.aB).1≠n.s.af.ab) (h2:¬ ((gb (ce n.s.ah).1 k x).2=0∧k=2∧(∀ p,n.gu x=some p→p.cA<n.s.af.aB))):n.gG k x=gb (ce n.s.ah).1 k x:=by
 unfold ai.gG;rw[if_neg h0,if_neg h1,if_neg h2]
theorem abH {k x:Int} (hg:ak w s (A::os)) (nd:Nd s A p h n) (hR:cJ n) (hr:n.mX) (hk:aq .i64 k) (hx:aq .i64 x) :
  Calls Tryz.prog 76 #[ptr p,.agg #[i64 k,i64 x]] w (aw w s (A::os) fun s' _ q=>∃ vs,q = .tuple #[.agg vs.toArray,i64 (n.gG k x).2]∧fH s' vs (n.gG k x).1):=by
 obtain⟨hS,h1,h2,h3,h4⟩:=hr
 have dr:=vY hS
 refine enter (l:=[ptr p,.agg #[i64 k,i64 x]]) Tryz.func76 rfl Tryz.ntmps76 rfl ?_
 refine go 3 ?_
 rintro b1 w1 Q1 aH aN cz
 refine go 2 ?_
 rintro b2 w2 Q2 aS aR gj
 refine go 11 ?_
 refine zc (FA aS (.inr (by simp)) (nd.lO hR) hS) ?_
 rintro v3 s3 B3 w3 cO aP bw ⟨vs19,rfl,hC⟩
 have aP:=aP.drop
 have vB:=nd.up cO
 have qr:=hC
 obtain⟨va,vc,la,lc,rfl,fN,gl⟩:=hC
 have nc:=vB
 refine go 5 ?_
 rintro b5 w5 Q5 bh bQ mm
 refine go 2 ?_
 rintro w6 Q6 bx bM mn
 refine go 15 ?_
 refine CW.cond rfl (fun iB=>?_) (fun iB=>?_)
 refine go 4 ?_
 rintro w7 Q7 bO cj qu
 refine go 3 ?_
 refine CW.ret (ret (vs:=[_,_]) ⟨_,_,_,rfl,rfl,zl qu,_,_,rfl,rfl,rfl⟩ ?_)
 rw[Tx (bU iB)]
 exact aw.mq (((((bO.ae 3 rfl).ae 3 rfl).cC 2).cC 2)) ⟨_,rfl,qr⟩
 refine go 3 ?_
 have bD:=bx.drew
 refine CW.dw [1,3,5,7,9,11,13,15,17,19,21,22,25,27,29,30,32] (fun w=>ay p _ w∧True) ?_
 refine go 12 ?_
 refine zw (Dm bD (.inr (by simp)) (nc.lO hR) (by have:=hS.2.2.2;omega)) ?_
 rintro v9 w9 bA cu rfl
 refine go 18 ?_
 refine CW.cond rfl (fun tp=>?_) (fun tp=>?_)
 refine go 4 ?_
 rintro eX mE bj cm fS
 refine go 3 ?_
 refine CW.ret (ret (vs:=[_,_]) ⟨_,_,_,rfl,rfl,zl fS,_,_,rfl,rfl,rfl⟩ ?_)
 rw[Ty (ct iB) (by simpa using tp)]
 exact aw.mq (((((bj.ae 3 rfl).ae 3 rfl).cC 2).cC 2)) ⟨_,rfl,qr⟩
 have fm:=ct iB
 have sl:¬ (cE n.s.ah n.s.af.aB).1≠n.s.af.ab:=by simpa using tp
 refine go 5 ?_
 refine RL.rP rfl rfl rfl rfl rfl abw.out (Z_ bA qr dr.ic hk hx) ?_
 rintro e58 w58 ⟨v58,s58,B58,A58,rfl,BT,D9,Gv,aa,ac,ba,bc,rfl,nU,mO⟩
 obtain⟨s59,JY,xT,afB⟩:=D9.bY
 obtain⟨s60,OM,ww,afC⟩:=JY.bY
 have Nt:fH s60 [.slice aa (gb (ce n.s.ah).1 k x).1.av.length ac,.slice ba (gb (ce n.s.ah).1 k x).1.aD.length bc] (gb (ce n.s.ah).1 k x).1:=⟨_,_,_,_,rfl,nU.ci (ax.up _) (xT.trans ww) afC,mO.ci (ax.up _) (xT.trans ww) (afB.trans ww)⟩
 have XI:=nc.up (BT.trans (xT.trans ww))
 have qr:=fH.up _ _ _ _ (BT.trans (xT.trans ww)) qr
 refine⟨_,rfl,trivial,?_⟩
 refine go 4 ?_
 rintro Dx iS rJ cy dH rX
 refine go 2 ?_
 rintro jA me cw dK ml
 refine go 9 ?_
 refine RL.part 63 rfl (fun qY=>?_) (fun qY=>?_)
 refine go 5 ?_
 refine CW.cond rfl (fun Jt=>?_) (fun Jt=>?_)
 refine go 6 ?_
 refine zw (KZ (cw.ae 4 rfl) XI) ?_
 rintro yC ji dd eh ⟨a71,rfl,mP⟩
 refine go 4 ?_
 have ck:=dd.drew
 refine CW.dw [1,3,5,7,9,11,13,15,17,19,21,23,25,27,29] (fun w=>ay p _ w∧In A w∧True) ?_
 refine go 1 ?_
 refine RL.Rf rfl rfl rfl rfl Tryz.underlying162 rfl rfl ?_
 refine go 1 ?_
 refine RL.part 74 rfl (fun qo=>?_) (fun qo=>?_)
 refine go 18 ?_
 rintro n_ xj dt iW q_
 refine go 3 ?_
 refine CW.ret (ret (vs:=[_,_]) ⟨_,_,_,rfl,rfl,zl q_,_,_,rfl,rfl,rfl⟩ ?_)
 rw[Tw fm sl ⟨by simpa using qY,by simpa using Jt,fun q hq=>by rw[mP.eR (by simpa using qo)] at hq;cases hq⟩]
 exact aw.mk (cO.trans (BT.trans (xT.trans ww))) (((((dt.ae 4 rfl).cC 2).cC 2).cC 2)) (aN.trans (aR.trans (bw.trans (bQ.trans (bM.trans ((ar.drew _).trans (cu.trans (Gv.trans (dH.trans (dK.trans (eh.trans ((ar.drew _).trans iW)))))))))))) ⟨_,rfl,qr⟩
 obtain⟨g,j,hj,rfl,ip,ss,eG⟩:=mP.Fo (by simpa using qo)
 refine go 3 ?_
 refine RL.fV (j:=2) rfl rfl rfl rfl aV.out rfl (XI.vD hj ip) (fun w h=>h.2.1) rfl ?_
 refine go 9 ?_
 refine CW.cond rfl (fun Bk=>?_) (fun Bk=>?_)
 refine go 4 ?_
 rintro md vT eC ie qt
 refine go 3 ?_
 refine CW.ret (ret (vs:=[_,_]) ⟨_,_,_,rfl,rfl,zl qt,_,_,rfl,rfl,rfl⟩ ?_)
 rw[Tw fm sl ⟨by simpa using qY,by simpa using Jt,fun q hq=>by rw[ss] at hq;cases hq;exact bU Bk⟩]
 exact aw.mk (cO.trans (BT.trans (xT.trans ww))) (((((eC.ae 4 rfl).cC 2).cC 2).cC 2)) (aN.trans (aR.trans (bw.trans (bQ.trans (bM.trans ((ar.drew _).trans (cu.trans (Gv.trans (dH.trans (dK.trans (eh.trans ((ar.drew _).trans ie)))))))))))) ⟨_,rfl,qr⟩
 refine go 6 ?_
 rintro ny qn eZ hY nb
 refine go 3 ?_
 refine CW.ret (ret (vs:=[_,_]) ⟨_,_,_,rfl,rfl,zl nb,_,_,rfl,rfl,rfl⟩ ?_)
 rw[MB fm sl (fun z=>ct Bk (z.2.2 _ ss))]
 exact aw.mk (cO.trans (BT.trans (xT.trans ww))) (((((eZ.ae 4 rfl).cC 2).cC 2).cC 2)) (aN.trans (aR.trans (bw.trans (bQ.trans (bM.trans ((ar.drew _).trans (cu.trans (Gv.trans (dH.trans (dK.trans (eh.trans ((ar.drew _).trans hY)))))))))))) ⟨_,rfl,Nt⟩
 refine go 6 ?_
 rintro oM vU fd iC rY
 refine go 3 ?_
 refine CW.ret (ret (vs:=[_,_]) ⟨_,_,_,rfl,rfl,zl rY,_,_,rfl,rfl,rfl⟩ ?_)
 rw[MB fm sl (fun z=>by simp[z.2.1] at Jt)]
 exact aw.mk (cO.trans (BT.trans (xT.trans ww))) ((((((fd.ae 4 rfl).ae 4 rfl).cC 2).cC 2).cC 2)) (aN.trans (aR.trans (bw.trans (bQ.trans (bM.trans ((ar.drew _).trans (cu.trans (Gv.trans (dH.trans (dK.trans iC)))))))))) ⟨_,rfl,Nt⟩
 refine go 12 ?_
 rintro pF qS fU jr o0
 refine go 3 ?_
 refine CW.ret (ret (vs:=[_,_]) ⟨_,_,_,rfl,rfl,zl o0,_,_,rfl,rfl,rfl⟩ ?_)
 rw[MB fm sl (fun z=>by simp[z.1] at qY)]
 exact aw.mk (cO.trans (BT.trans (xT.trans ww))) ((((((fU.ae 4 rfl).ae 4 rfl).cC 2).cC 2).cC 2)) (aN.trans (aR.trans (bw.trans (bQ.trans (bM.trans ((ar.drew _).trans (cu.trans (Gv.trans (dH.trans (dK.trans jr)))))))))) ⟨_,rfl,Nt⟩
def LZ (p j:Nat) (v:Value) (w:World):Prop:=∃ r vs,Holds r ⟨p,0,none⟩ vs∧In r w∧vs[j]?=some v
theorem RL.Xo {P:Program} {m:Nat} {ops:Array Oper} {Q:Exit→Act→World→Prop} {S:World→Prop} {au:List (Bool × Oper)} {E:dE} {w:World} {o:Oper} {d:Nat} {x:Operand} {t:TypeId} {q j:Nat} {v:Value} (hg:bR ops E o=some true) (hd:o.dst=some d) (hb:Nat.blt d m=true) (ho:o.op = .load t x) (ht:dD P t=some (false,1))
  (hx:ev E x=some (.pointer (some ((⟨q,0,none⟩:Addr).add j)))) (cq:∀ w,S w→LZ q j v w) (hr:RL P m ops Q S au ((d,v)::E) w):RL P m ops Q S ((true,o)::au) E w :=
 RL.take hg hd hb (fun w hS=>let ⟨_,_,h1,h2,h3⟩:=cq w hS;nG.QD ho ht hx h1 h2 h3) hr
theorem S1 {i:ez} (h0:n.s.aO≠4):n.gd i=(n,101):=by unfold ai.gd;rw[if_pos h0]
theorem S3 {i:ez} (h0:¬ n.s.aO≠4) (h1:n.s.eW≠0):n.gd i=(n,102):=by unfold ai.gd;rw[if_neg h0,if_pos h1]
theorem S5 {i:ez} (h0:¬ n.s.aO≠4) (h1:¬ n.s.eW≠0) (h2:i.ao=5):n.gd i=n.nt i.to:=by unfold ai.gd;rw[if_neg h0,if_neg h1,if_pos h2]
theorem S4 {i:ez} (h0:¬ n.s.aO≠4) (h1:¬ n.s.eW≠0) (h2:¬ i.ao=5) (h3:i.ao=4) (h4:(n.gG i.kZ i.k9).2≠0):n.gd i=(n,(n.gG i.kZ i.k9).2):=by
 unfold ai.gd;rw[if_neg h0,if_neg h1,if_neg h2];simp only[if_pos h3,if_pos h4]
theorem SZ {i:ez} (h0:¬ n.s.aO≠4) (h1:¬ n.s.eW≠0) (h2:¬ i.ao=5) (h3:i.ao=4) (h4:¬ (n.gG i.kZ i.k9).2≠0):n.gd i=(((n.C9 (bF n.aZ)).Da n.s.af.ab).put ⟨0,0,3,[],(n.gG i.kZ i.k9).1⟩,0):=by
 unfold ai.gd;rw[if_neg h0,if_neg h1,if_neg h2];simp only[if_pos h3,if_neg h4];rfl
theorem S0 {i:ez} (h0:¬ n.s.aO≠4) (h1:¬ n.s.eW≠0) (h2:¬ i.ao=5) (h3:¬ i.ao=4):n.gd i=(((n.C9 (bF n.aZ)).Da n.s.af.ab).put ⟨0,0,2,i.data,⟨[],[]⟩⟩,0):=by
 unfold ai.gd;rw[if_neg h0,if_neg h1,if_neg h2];simp only[if_neg h3];rfl
theorem abg {i:ez} {y:cG} {da:Option Addr} {dc:Nat} (hg:ak w s (A::os)) (nd:Nd s A p h n) (hR:cJ n) (hr:n.mX) (hk:aq .i64 i.kZ) (hx:aq .i64 i.k9) (ew:aq .i64 i.to) (hd:bm (ax .u8) 1 s da dc i.data) (Oy:i.data.length≤1073741824) (Oq:(n.gG i.kZ i.k9).1.bL) :
  Calls Tryz.prog 37 #[ptr p,.agg (sw i y da dc).toArray] w (iw w s os p (i64 (n.gd i).2) (n.gd i).1):=by
 obtain⟨hS,h1,h2,h3,h4⟩:=hr
 have hlr:=(nd.lO hR).Cz.1
 have US:cJ ((n.C9 (bF n.aZ)).Da n.s.af.ab):=hR
 refine enter (l:=[ptr p,.agg (sw i y da dc).toArray]) Tryz.func37 rfl Tryz.ntmps37 rfl ?_
 refine go 3 ?_
 rintro th qh vV e_ jE uR
 refine go 15 ?_
 refine CW.cond rfl (fun h8=>?_) (fun h8=>?_)
 refine go 4 ?_
 refine CW.ret (bP ?_)
 exact aw.mq ((e_.ae 1 rfl).aE) ⟨by rw[S1 (by simpa using h8)];rfl,_,nd.to (by rw[S1 (by simpa using h8)])⟩
 refine go 10 ?_
 refine CW.cond rfl (fun mG=>?_) (fun mG=>?_)
 refine go 4 ?_
 refine CW.ret (bP ?_)
 exact aw.mq ((e_.ae 1 rfl).aE) ⟨by rw[S3 (by simpa using h8) (by simpa using mG)];rfl,_,nd.to (by rw[S3 (by simpa using h8) (by simpa using mG)])⟩
 refine go 7 ?_
 refine CW.cond rfl (fun iJ=>?_) (fun iJ=>?_)
 refine go 6 ?_
 refine zc (akq (e_.ae 1 rfl) nd hR ⟨hS,h1,h2,h3,h4⟩ ew) ?_
 rintro Fs Ro IJ oN G1 fv iX ⟨rfl,m_,z8⟩
 refine go 3 ?_
 refine CW.ret (bP ?_)
 exact aw.mq (fv.aE) ⟨by rw[S5 (by simpa using h8) (by simpa using mG) (by simpa using iJ)];rfl,_,z8.to (by rw[S5 (by simpa using h8) (by simpa using mG) (by simpa using iJ)])⟩
 refine go 7 ?_
 rintro S6 qN vW iL lh rZ
 refine go 2 ?_
 rintro xe Ar iM pR D2
 refine go 9 ?_
 refine CW.cond rfl (fun pN=>?_) (fun pN=>?_)
 refine go 6 ?_
 refine zc (abH (iM.ae 2 rfl) nd hR ⟨hS,h1,h2,h3,h4⟩ hk hx) ?_
 rintro RO Lf B24 uk xR gB nP ⟨vs40,rfl,adl⟩
 have gB:=gB.drop
 have sF:=nd.up xR
 obtain⟨va,vc,la,lc,rfl,fN,gl⟩:=adl
 refine go 5 ?_
 rintro FM un yP gk mJ wh
 refine go 2 ?_
 rintro rH Di iN mj zp
 refine go 9 ?_
 refine CW.cond rfl (fun xA=>?_) (fun xA=>?_)
 refine go 5 ?_
 refine CW.ret (bP ?_)
 exact aw.mq ((((iN.ae 1 rfl).aE).aE).aE) ⟨by rw[S4 (by simpa using h8) (by simpa using mG) (by simpa using iJ) (by simpa using pN) (by simpa using xA)];rfl,_,sF.to (by rw[S4 (by simpa using h8) (by simpa using mG) (by simpa using iJ) (by simpa using pN) (by simpa using xA)])⟩
 have hE:bg Lf [u64 0,u64 0,i64 3,.slice none 0 0,.slice va (n.gG i.kZ i.k9).1.av.length vc,.slice la (n.gG i.kZ i.k9).1.aD.length lc] ⟨0,0,3,[],(n.gG i.kZ i.k9).1⟩:=⟨none,0,va,vc,la,lc,rfl,by simp[aq],by simp[aq],by simp[aq],bm.nil _ _ _ (Nat.zero_le _),fN,gl⟩
 have NC:aA.bL ⟨0,0,3,[],(n.gG i.kZ i.k9).1⟩:=⟨by simp,Oq⟩
 refine go 5 ?_
 rintro vH Av jG oZ uT
 refine go 3 ?_
 have i_:=jG.drew
 refine CW.iA [(true,0),(true,1),(true,2),(true,5),(true,6),(true,7),(true,8),(true,9),(true,10),(false,3),(true,4),(true,11),(true,12),(true,13),(false,14),(true,15),(true,16),(true,17),(false,18)] (fun w=>LZ p 1 (u64 n.s.af.ab) w∧True) mixed (by kernel_rfl) (by kernel_rfl) (by kernel_rfl) (by kernel_rfl) (⟨⟨_,_,Holds.of sF.cells,i_.mem (by simp),rfl⟩,trivial⟩) ?_
 refine go 8 ?_
 refine RL.Xo rfl rfl rfl rfl aV.out rfl (fun w h=>h.1) ?_
 refine go 1 ?_
 refine zw (qI (i_.ae 1 rfl) sF hR) ?_
 rintro LA yG ja rV rfl
 refine⟨⟨⟨_,_,Holds.of sF.cells,ja.mem (by simp),rfl⟩,trivial⟩,?_⟩
 refine RL.nH rfl rfl rfl rfl (u64 (bF n.aZ)) (rfl) ?_
 refine go 3 ?_
 refine RL.sI (p:=p) (i:=0) (j:=25) ja (sF.cells) (bb.C9 sF.au) ?_
 rintro Ah LV kQ uO sG
 refine⟨⟨⟨_,_,Holds.of sG.cells,kQ.mem (by simp),rfl⟩,trivial⟩,?_⟩
 refine go 3 ?_
 refine RL.sI (p:=p) (i:=0) (j:=26) kQ (sG.cells) (bb.Da sG.au) ?_
 rintro sW LW iD ov z_
 refine⟨⟨⟨_,_,Holds.of z_.cells,iD.mem (by simp),rfl⟩,trivial⟩,?_⟩
 refine go 6 ?_
 refine zc (QU iD z_ US hS hE NC h1 h2 h3 h4) ?_
 rintro Zt Yx IM qi G3 c_ gR ⟨rfl,iV,QM⟩
 refine go 6 ?_
 refine CW.ret (bP ?_)
 exact aw.mq (((c_.aE).aE).aE) ⟨by rw[SZ (by simpa using h8) (by simpa using mG) (by simpa using iJ) (by simpa using pN) (by simpa using xA)];rfl,_,QM.to (by rw[SZ (by simpa using h8) (by simpa using mG) (by simpa using iJ) (by simpa using pN) (by simpa using xA)])⟩
 have hE:bg s [u64 0,u64 0,i64 2,.slice da i.data.length dc,.slice none 0 0,.slice none 0 0] ⟨0,0,2,i.data,⟨[],[]⟩⟩:=⟨da,dc,none,0,none,0,rfl,by simp[aq],by simp[aq],by simp[aq],hd,bm.nil _ _ _ (Nat.zero_le _),bm.nil _ _ _ (Nat.zero_le _)⟩
 have NC:aA.bL ⟨0,0,2,i.data,⟨[],[]⟩⟩:=⟨Oy,by simp[aY.bL]⟩
 refine go 2 ?_
 have jt:=iM.drew
 refine CW.iA [(true,0),(true,1),(true,2),(true,5),(true,6),(true,7),(true,8),(true,9),(true,10),(false,3),(true,4),(true,11),(true,12),(true,13),(false,14),(true,15),(true,16),(true,17),(false,18)] (fun w=>LZ p 1 (u64 n.s.af.ab) w∧True) mixed (by kernel_rfl) (by kernel_rfl) (by kernel_rfl) (by kernel_rfl) (⟨⟨_,_,Holds.of nd.cells,jt.mem (by simp),rfl⟩,trivial⟩) ?_
 refine go 8 ?_
 refine RL.Xo rfl rfl rfl rfl aV.out rfl (fun w h=>h.1) ?_
 refine go 1 ?_
 refine zw (qI (jt.ae 2 rfl) nd hR) ?_
 rintro v35 uo jH ow rfl
 refine⟨⟨⟨_,_,Holds.of nd.cells,jH.mem (by simp),rfl⟩,trivial⟩,?_⟩
 refine RL.nH rfl rfl rfl rfl (u64 (bF n.aZ)) (rfl) ?_
 refine go 3 ?_
 refine RL.sI (p:=p) (i:=0) (j:=25) jH (nd.cells) (bb.C9 nd.au) ?_
 rintro nz qk cS gS yv
 refine⟨⟨⟨_,_,Holds.of yv.cells,cS.mem (by simp),rfl⟩,trivial⟩,?_⟩
 refine go 3 ?_
 refine RL.sI (p:=p) (i:=0) (j:=26) cS (yv.cells) (bb.Da yv.au) ?_
 rintro qj R6 dh im CH
 refine⟨⟨⟨_,_,Holds.of CH.cells,dh.mem (by simp),rfl⟩,trivial⟩,?_⟩
 refine go 6 ?_
 refine zc (QU dh CH US hS hE NC h1 h2 h3 h4) ?_
 rintro Ft Lh Z3 Ai sg mM uP ⟨rfl,lU,QP⟩
 refine go 6 ?_
 refine CW.ret (bP ?_)
 exact aw.mq ((mM.aE).aE) ⟨by rw[S0 (by simpa using h8) (by simpa using mG) (by simpa using iJ) (by simpa using pN)];rfl,_,QP.to (by rw[S0 (by simpa using h8) (by simpa using mG) (by simpa using iJ) (by simpa using pN)])⟩
end
end Go.Lw
namespace Go.Lw
open Go.Proofs
attribute [local irreducible] RL RA
structure fZ (s:aj) (r:aU) (h:Hd):Prop where
 ah:d_ s s r.ah h
 cB:bm g8 2 s h.ba h.bc r.cB
 aK:bm fI 3 s h.pa h.pc r.aK
 part:bm (ax .u8) 1 s h.ta h.tc r.part.data
theorem fZ.up {s s':aj} {r:aU} {h:Hd} (k:fZ s r h) (hl:Le s s'):fZ s' r h :=
 ⟨(k.ah.up hl).mem hl,k.cB.up g8.up hl,k.aK.up fI.up hl,k.part.up (ax.up _) hl⟩
theorem bb.sK {s A:aj} {h:Hd} {n:ai} (k:bb s A h n) (hR:cJ n) {s1:aj} (hl:Le s s1) (hm:Le A s1):fZ s1 n.s h :=
 let ⟨a,b,c,d,e,f,g,_,_,_⟩:=k
 ⟨⟨hR.2.2.2.2.1,hR.2.2.2.2.2,a.up (ax.up _) hl,b.up (ax.up _) hl,c.up (ax.up _) hl,d.ci bg.up hl hm⟩,e.ci g8.up hl hm,f.ci fI.up hl hm,g.up (ax.up _) hl⟩
section
variable {w:World} {s:aj} {os:List aj}
theorem TR {q:aj} {r:aU} {h:Hd} (hg:ak w s os) (hq:q=s∨q∈os) (hl:d_ q s r.ah h) (hb:bm g8 2 s h.ba h.bc r.cB) (hp:bm fI 3 s h.pa h.pc r.aK) (ht:bm (ax .u8) 1 s h.ta h.tc r.part.data) (hS:r.ah.bL) (io:r.cB.length≤68719476736) (iO:r.aK.length≤4294967296) (p8:r.part.data.length≤70368744177664) :
  Calls Tryz.prog 33 #[.agg (jR r h).toArray] w (aw w s os fun s' A q=>∃ h',q = .agg (jR r h').toArray∧bb s' A h' ⟨r,bz.zero⟩):=by
 obtain⟨Gh,zk,hS3,hS4⟩:=hS
 have Bp:=hl.entries
 refine enter (l:=[.agg (jR r h).toArray]) Tryz.func33 rfl Tryz.ntmps33 rfl ?_
 refine go 3 ?_
 rintro b1 w1 Q1 aH aN cz
 refine go 2 ?_
 rintro b2 w2 Q2 aS aR gj
 refine go 3 ?_
 have aP:=aS.drew
 refine CW.dx [1,3,5,7,11,13,15,17,8,21,23,25,18] [26,29,31,33,34] 13 5 (fun w=>ay b1 _ w∧True) ?_
 refine go 9 ?_
 refine zc (xg aP (.inl rfl) hl.data.2.2 (by omega)) ?_
 rintro v4 s4 B4 w4 fL bp bJ ⟨-,a8,c8,rfl,pf⟩
 have hl:=hl.up fL
 have hb:=hb.up g8.up fL
 have hp:=hp.up fI.up fL
 have ht:=ht.up (ax.up _) fL
 obtain⟨t4,aeZ,BW,afL⟩:=bp.bY
 have bp:ak _ t4 (Q2::Q1::os):=aeZ
 have hl:=hl.up BW
 have hb:=hb.up g8.up BW
 have hp:=hp.up fI.up BW
 have ht:=ht.up (ax.up _) BW
 have qv:=pf.ci (ax.up _) BW afL
 refine go 5 ?_
 refine zc (TO bp hl.av hl.aD Gh) ?_
 rintro v5 s5 B5 w5 dz bh bQ ⟨vs13,rfl,ady⟩
 have bh:=bh.drop
 have hl:=hl.up dz
 have hb:=hb.up g8.up dz
 have hp:=hp.up fI.up dz
 have ht:=ht.up (ax.up _) dz
 have qv:=qv.up (ax.up _) dz
 obtain⟨va,vc,la,lc,rfl,fN,gl⟩:=ady
 refine go 4 ?_
 rintro w6 Q6 bx bM mn
 refine go 5 ?_
 rintro w7 Q7 bO cj qu
 refine go 7 ?_
 obtain⟨qq,hqq,hEE⟩:=Bp.grow bg.up hq ((fL.trans (BW.trans dz)))
 refine go 1 ?_
 refine zc (Sb bO (hqq.imp id fun z=>by simp[z]) hEE.2.2 (by omega)) ?_
 rintro v8 s8 Q8 w8 kw bD cM ⟨agV,a23,Dz,rfl,Pp⟩
 have hl:=hl.up kw
 have hb:=hb.up g8.up kw
 have hp:=hp.up fI.up kw
 have ht:=ht.up (ax.up _) kw
 have qv:=qv.up (ax.up _) kw
 have fN:=fN.up (ax.up _) kw
 have gl:=gl.up (ax.up _) kw
 refine go 4 ?_
 rintro w9 Q9 bA cu rb
 refine go 12 ?_
 have fJ:Q9 b1=some (.cells (jR r ⟨va,vc,la,lc,a8,c8,a23,Dz,h.ba,h.bc,h.pa,h.pc,h.ta,h.tc,none,0,none,0⟩).toArray 44 (0,0)):=rb
 refine CW.loop (σ:=Nat) (fun j E w'=>∃ s' Y',∃ k:Nat,ak w' s' (Y'::Q9::Q2::os)∧ar w w'∧Le s8 s'∧E=[(1,ptr b1),(2,ptr b2),(29,i64 r.ah.entries.length),(30,i64 k)]∧k+j=r.ah.entries.length∧aW bg 6 65 s' Y' a23 Dz r.ah.entries) (fun j=>j) r.ah.entries.length [(1,ptr b1),(2,ptr b2),(29,i64 r.ah.entries.length),(30,i64 0)] ⟨rfl,rfl,rfl,rfl,trivial⟩ ⟨_,_,0,(((bA.ae 1 rfl).ae 2 rfl).ae 2 rfl),(aN.trans (aR.trans ((ar.drew _).trans (bJ.trans (bQ.trans (bM.trans (cj.trans (cM.trans cu)))))))),Le.refl _,rfl,by omega,Pp⟩ ?_
 rintro j E wL ⟨sL,YL,k,cd,cQ,fk,rfl,hk,gp⟩
 have hl:=hl.up fk
 have hb:=hb.up g8.up fk
 have hp:=hp.up fI.up fk
 have ht:=ht.up (ax.up _) fk
 have qv:=qv.up (ax.up _) fk
 have fN:=fN.up (ax.up _) fk
 have gl:=gl.up (ax.up _) fk
 have afw:=((fL.trans (BW.trans (dz.trans kw)))).trans fk
 refine go 5 ?_
 refine CW.cond rfl (fun Bb=>?_) (fun Bb=>?_)
 refine go 8 ?_
 have bj:=cd.drew
 refine CW.dx [1,3,5,7,9,11,13,15,17,19,20,23] [24] 12 1 (fun w=>ay b1 _ w∧In YL w∧True) ?_
 refine go 6 ?_
 have be:k<r.ah.entries.length:=by have:=bU Bb;omega
 refine go 2 ?_
 refine RL.dX rfl rfl rfl rfl de.out rfl rfl gp.eU (by omega) (by omega) ?_
 rintro q vs eH hH hE
 have mi:=hE
 obtain⟨ea,ec,ea1,ec1,ea2,ec2,rfl,er1,er2,er3,eh1,eh2,eh3⟩:=mi
 refine RL.rB (j:=0) (us:=_) rfl rfl rfl rfl nv.out rfl (hH) (fun w h=>h.2.1) rfl rfl ?_
 refine go 1 ?_
 refine zc (MO bj hE (hS3 _ (List.getElem_mem _))) ?_
 rintro uh mA B11 iS dy cy dH ⟨us,rfl,hU⟩
 have cy:=cy.drop
 have gp:=gp.up bg.up dy
 have Cq:us.length=6:=by obtain⟨_,_,_,_,_,_,rfl,_⟩:=hU;rfl
 refine go 1 ?_
 refine RL.Cy rfl rfl rfl rfl de.out rfl rfl gp (by omega) (by omega) ?_
 rintro g' cs vs' li oV dr Kr wi _
 subst li
 have pk:=gp.set oV be Cq hU
 rw[show r.ah.entries.set k r.ah.entries[((k:Nat):Int).toNat]=r.ah.entries from List.set_getElem_self be] at pk
 have dr:cs.size=Dz*6:=dr
 have El:r.ah.entries.length≤Dz:=gp.eU.1
 have j5:k*6+6≤cs.size:=by rw[dr];omega
 refine go 2 ?_
 refine RL.store (i:=0) (j:=k*6) rfl rfl rfl nv.out rfl rfl cy rfl oV (by simpa [Value.cells] using Cq) (by obtain⟨_,_,_,_,_,_,rfl,_⟩:=hU;simp[Value.cells,Value.oneCell']) j5 ?_
 intro ws BL Bw
 refine go 6 ?_
 cases j with
 | zero=>omega
 | succ j=>exact fun ac ha=>⟨j,[(1,ptr b1),(2,ptr b2),(29,i64 r.ah.entries.length),(30,i64 ((k:Int)+1))],ha.sub ⟨rfl,rfl,rfl,rfl,trivial⟩,⟨_,_,k+1,BL,((cQ.trans ((ar.drew _).trans dH))).trans Bw,fk.trans dy,rfl,by omega,pk⟩,Nat.lt_succ_self j⟩
 refine go 2 ?_
 have cw:=cd.drew
 refine CW.dx [1,3,7,9,13,15,17,4,21,10,18] [22,25,26,29,31,32] 11 6 (fun w=>ay b1 _ w∧True) ?_
 refine go 8 ?_
 refine zc (aae cw (.inl rfl) hb.2.2 (by omega)) ?_
 rintro yC Fc m7 ji nR dd eh ⟨-,a48,c48,rfl,Cg⟩
 have hl:=hl.up nR
 have hb:=hb.up g8.up nR
 have hp:=hp.up fI.up nR
 have ht:=ht.up (ax.up _) nR
 have qv:=qv.up (ax.up _) nR
 have fN:=fN.up (ax.up _) nR
 have gl:=gl.up (ax.up _) nR
 have gp:=gp.up bg.up nR
 refine go 3 ?_
 refine zc (Sc dd (.inl rfl) hp.2.2 (by omega)) ?_
 rintro Iw vE rK nw gm ck g_ ⟨-,a51,c51,rfl,Hl⟩
 have hl:=hl.up gm
 have hb:=hb.up g8.up gm
 have hp:=hp.up fI.up gm
 have ht:=ht.up (ax.up _) gm
 have qv:=qv.up (ax.up _) gm
 have fN:=fN.up (ax.up _) gm
 have gl:=gl.up (ax.up _) gm
 have gp:=gp.up bg.up gm
 have Cg:=Cg.up g8.up gm
 refine go 2 ?_
 refine zc (xg ck (.inl rfl) ht.2.2 (by omega)) ?_
 rintro yD CT B15 n_ gn dt iW ⟨-,a55,c55,rfl,af_⟩
 have hl:=hl.up gn
 have hb:=hb.up g8.up gn
 have hp:=hp.up fI.up gn
 have ht:=ht.up (ax.up _) gn
 have qv:=qv.up (ax.up _) gn
 have fN:=fN.up (ax.up _) gn
 have gl:=gl.up (ax.up _) gn
 have gp:=gp.up bg.up gn
 have Cg:=Cg.up g8.up gn
 have Hl:=Hl.up fI.up gn
 obtain⟨t15,O0,o9,Pj⟩:=dt.bY
 have dt:ak _ t15 (rK::m7::YL::Q9::Q2::os):=O0
 have hl:=hl.up o9
 have hb:=hb.up g8.up o9
 have hp:=hp.up fI.up o9
 have ht:=ht.up (ax.up _) o9
 have qv:=qv.up (ax.up _) o9
 have fN:=fN.up (ax.up _) o9
 have gl:=gl.up (ax.up _) o9
 have gp:=gp.up bg.up o9
 have Cg:=Cg.up g8.up o9
 have Hl:=Hl.up fI.up o9
 have aha:=af_.ci (ax.up _) o9 Pj
 refine go 4 ?_
 rintro md vT eC ie qt
 refine go 3 ?_
 rintro ny qn eZ hY nb
 refine go 4 ?_
 rintro oM vU fd iC rY
 refine go 6 ?_
 rintro pF qS fU jr o0
 refine go 2 ?_
 refine CW.ret (ret (vs:=[_]) ⟨_,_,_,rfl,rfl,zl o0,rfl⟩ ?_)
 have hK:=((((fU.ae 1 rfl).ae 2 rfl).cC 3).cC 3)
 have zd:=hK.eN
 have e1:=aj.sD YL m7
 have e2:=aj.rA (r:=YL) (fC.qc hK)
 have e3:=aj.sD (YL.eN m7) rK
 have e4:=aj.rA (r:=YL.eN m7) (fC.qc zd)
 exact aw.mk (afw.trans (nR.trans (gm.trans (gn.trans o9)))) zd.eN (cQ.trans ((ar.drew _).trans (eh.trans (g_.trans (iW.trans (ie.trans (hY.trans (iC.trans jr)))))))) ⟨⟨va,vc,la,lc,a8,c8,a23,Dz,a48,c48,a51,c51,a55,c55,none,0,none,0⟩,rfl,fN,gl,qv,(gp.mem e1).mem e3,(Cg.mem e2).mem e3,Hl.mem e4,aha,aW.nil _ _ _ _ _,aW.nil _ _ _ _ _,Dj.CN _⟩
theorem AH {r:aU} {h:Hd} (hg:ak w s os) (hr:fZ s r h) (hS:r.ah.bL) (io:r.cB.length≤68719476736) (iO:r.aK.length≤4294967296) (p8:r.part.data.length≤70368744177664) :
  Calls Tryz.prog 33 #[.agg (jR r h).toArray] w (aw w s os fun s' A q=>∃ h',q = .agg (jR r h').toArray∧bb s' A h' ⟨r,bz.zero⟩) :=
 TR hg (.inl rfl) hr.ah hr.cB hr.aK hr.part hS io iO p8
end
end Go.Lw
namespace Go.Lw
open Go.Proofs
attribute [local irreducible] RL RA
section
variable {P:Program} {n:Nat} {ops:Array Oper} {Q:Exit→Act→World→Prop} {S:World→Prop} {au:List (Bool × Oper)} {E:dE} {w:World} {o:Oper} {d:Nat} {v:Value} {x y:Operand} {T:Bool}
def Sj (v:Value):Prop:=v = .nilFunc∨∃ f a b,v = .func f a b
def EN:Value→Bool
 | .nilFunc=>true
 | _=>false
theorem RL.acI {t yt:TypeId} {pp rr:Array TypeId} {vd:Bool} (hg:bR ops E o=some true) (hd:o.dst=some d) (hb:Nat.blt d n=true) (ho:o.op = .binOp .eql t x y yt) (ht:P.underlying t=some (.func pp rr vd))
  (hx:ev E x=some v) (hv:Sj v) (hy:ev E y=some .nilFunc) (h:RL P n ops Q S au ((d,.bool (EN v))::E) w):RL P n ops Q S ((T,o)::au) E w:=by
 refine RL.ij hg hd hb (fun w ac ha=>?_) h
 have uX:(eqGuard .eql t x y v .nilFunc).run P w = .ok () w:=by unfold eqGuard;rcases hv with rfl | ⟨f,a,b,rfl⟩<;>rfl
 unfold execOp
 simp only[ho,ha.ev hx,ha.ev hy,Sem.run_bind,uX,Result.andThen_ok]
 have h2:(Op.equal t v .nilFunc).run P w = .ok (EN v) w:=by
  have h:∀ d:Nat,(Op.equalIn (d+1) t v .nilFunc).run P w = .ok (EN v) w:=fun d=>by
   rcases hv with rfl | ⟨f,a,b,rfl⟩<;>simp[Op.equalIn,run_underlying ht,EN]
  simp only[Op.equal,Op.maxDepth]
  exact h 9999
 rcases hv with rfl | ⟨f,a,b,rfl⟩<;>simp only[binOp]<;>simp[h2]
end
def pV (k:Int):Option FuncId :=
 if k=3 then some 106 else if k=4 then some 107 else if k=5 then some 108 else if k=6 then some 109
 else if k=7 then some 110 else if k=8 then some 111 else if k=9 then some 112 else none
def rS (p:Nat):Option FuncId→Value
 | none=> .nilFunc
 | some f=> .func (.func f) #[ptr p] #[]
theorem acJ (p:Nat) (f:Option FuncId):Sj (rS p f):=by cases f;exact .inl rfl;exact .inr ⟨_,_,_,rfl⟩
theorem acK {p:Nat} {f:Option FuncId} (h:EN (rS p f)=true):f=none:=by cases f;rfl;cases h
theorem acL {p:Nat} {f:Option FuncId} (h:EN (rS p f)=false):∃ g,f=some g:=by cases f;cases h;exact⟨_,rfl⟩
def ai.takes (n:ai) (m:az):Prop:=n.mX∧n.s.cB.length≤68719476736∧n.s.ah.entries.length+m.entries.length≤1099511627776∧n.s.part.data.length+m.data.length≤70368744177664∧m.bL
theorem ai.takes.follow {n:ai} {m:az} {t l:Int} (h:n.takes m):(n.follow t l).takes m:=by
 obtain⟨⟨h1,h2,h3,h4,h5⟩,h6,h7,h8,h9⟩:=h
 exact⟨⟨h1,h2,by simp[ai.follow],h4,h5⟩,by simp[ai.follow],h7,h8,h9⟩
theorem Vp {k:Int} {f:FuncId} (hf:pV k=some f):km Tryz.prog f=true∧∀ {w:World} {s A:aj} {os:List aj} {p:Nat} {h:Hd} {n:ai} {m:az} {y:cG},m.ao=k→ak w s (A::os)→Nd s A p h n→cJ n→n.takes m→du s m y→m.index<eo →
  Calls Tryz.prog f #[ptr p,.agg (gZ m y).toArray] w (iw w s os p (.tuple #[]) (n.dW m)):=by
 unfold pV at hf
 split at hf
 rename_i hk;cases hf
 exact⟨rfl,fun {w s A os p h n m y} hm hg nd hR ht qE hi=>by
  rw[show n.dW m=n.aT m by unfold ai.dW;rw[if_pos (by omega)]]
  exact akF hg nd hR ht.1 qE⟩
 split at hf
 rename_i hk;cases hf
 exact⟨rfl,fun {w s A os p h n m y} hm hg nd hR ht qE hi=>by
  rw[show n.dW m=n.lK m by unfold ai.dW;rw[if_neg (by omega),if_pos (by omega)]]
  exact akG hg nd hR ht.1 ht.2.1 qE⟩
 split at hf
 rename_i hk;cases hf
 exact⟨rfl,fun {w s A os p h n m y} hm hg nd hR ht qE hi=>by
  rw[show n.dW m=n.grow m by unfold ai.dW;rw[if_neg (by omega),if_neg (by omega),if_pos (by omega)]]
  exact adb hg nd hR ht.1 qE ht.2.2.2.2 hi ht.2.2.1⟩
 split at hf
 rename_i hk;cases hf
 exact⟨rfl,fun {w s A os p h n m y} hm hg nd hR ht qE hi=>by
  rw[show n.dW m=n.kM m by unfold ai.dW;rw[if_neg (by omega),if_neg (by omega),if_neg (by omega),if_pos (by omega)]]
  exact ade hg nd hR ht.1 qE⟩
 split at hf
 rename_i hk;cases hf
 exact⟨rfl,fun {w s A os p h n m y} hm hg nd hR ht qE hi=>by
  rw[show n.dW m=n.lR m by unfold ai.dW;rw[if_neg (by omega),if_neg (by omega),if_neg (by omega),if_neg (by omega),if_pos (by omega)]]
  exact abJ hg nd hR ht.1 qE ht.2.2.2.2 ht.2.2.2.1⟩
 split at hf
 rename_i hk;cases hf
 exact⟨rfl,fun {w s A os p h n m y} hm hg nd hR ht qE hi=>by
  rw[show n.dW m=n.oT m by unfold ai.dW;rw[if_neg (by omega),if_neg (by omega),if_neg (by omega),if_neg (by omega),if_neg (by omega),if_pos (by omega)]]
  exact abK hg nd hR ht.1 qE⟩
 split at hf
 rename_i hk;cases hf
 exact⟨rfl,fun {w s A os p h n m y} hm hg nd hR ht qE hi=>by
  rw[show n.dW m=n.qb by unfold ai.dW;rw[if_neg (by omega),if_neg (by omega),if_neg (by omega),if_neg (by omega),if_neg (by omega),if_neg (by omega)]]
  exact aiz hg nd hR ht.1⟩
 cases hf
theorem aer {k:Int} (h:pV k=none):k<3∨9<k:=Classical.byContradiction fun hc=>by
 have:k=3∨k=4∨k=5∨k=6∨k=7∨k=8∨k=9:=by omega
 rcases this with rfl | rfl | rfl | rfl | rfl | rfl | rfl<;>simp[pV] at h
theorem aes {k:Int} {f:FuncId} (h:pV k=some f):¬ (k<3∨9<k):=by
 unfold pV at h
 repeat' split at h
 all_goals first | omega | cases h
section
variable {w:World} {s A:aj} {os:List aj} {p:Nat} {h:Hd} {n:ai}
theorem aet {k:Int} (hg:ak w s os) :
  Calls Tryz.prog 72 #[ptr p,i64 k] w (aQ w s os fun q=>q=rS p (pV k)):=by
 refine enter (l:=[ptr p,i64 k]) Tryz.func72 rfl Tryz.ntmps72 rfl ?_
 refine go 15 ?_
 refine CW.cond rfl (fun h6=>?_) (fun h6=>?_)
 refine go 3 ?_
 refine RL.my rfl rfl rfl rfl rfl rfl ?_
 refine go 2 ?_
 refine CW.ret (bP ?_)
 refine aQ.mq hg ?_
 simp_all [pV,rS]
 rfl
 refine go 5 ?_
 refine CW.cond rfl (fun uD=>?_) (fun uD=>?_)
 refine go 3 ?_
 refine RL.my rfl rfl rfl rfl rfl rfl ?_
 refine go 2 ?_
 refine CW.ret (bP ?_)
 refine aQ.mq hg ?_
 simp_all [pV,rS]
 rfl
 refine go 5 ?_
 refine CW.cond rfl (fun lS=>?_) (fun lS=>?_)
 refine go 3 ?_
 refine RL.my rfl rfl rfl rfl rfl rfl ?_
 refine go 2 ?_
 refine CW.ret (bP ?_)
 refine aQ.mq hg ?_
 simp_all [pV,rS]
 rfl
 refine go 5 ?_
 refine CW.cond rfl (fun jC=>?_) (fun jC=>?_)
 refine go 3 ?_
 refine RL.my rfl rfl rfl rfl rfl rfl ?_
 refine go 2 ?_
 refine CW.ret (bP ?_)
 refine aQ.mq hg ?_
 simp_all [pV,rS]
 rfl
 refine go 5 ?_
 refine CW.cond rfl (fun iJ=>?_) (fun iJ=>?_)
 refine go 3 ?_
 refine RL.my rfl rfl rfl rfl rfl rfl ?_
 refine go 2 ?_
 refine CW.ret (bP ?_)
 refine aQ.mq hg ?_
 simp_all [pV,rS]
 rfl
 refine go 5 ?_
 refine CW.cond rfl (fun il=>?_) (fun il=>?_)
 refine go 3 ?_
 refine RL.my rfl rfl rfl rfl rfl rfl ?_
 refine go 2 ?_
 refine CW.ret (bP ?_)
 refine aQ.mq hg ?_
 simp_all [pV,rS]
 rfl
 refine go 5 ?_
 refine CW.cond rfl (fun v_=>?_) (fun v_=>?_)
 refine go 3 ?_
 refine RL.my rfl rfl rfl rfl rfl rfl ?_
 refine go 2 ?_
 refine CW.ret (bP ?_)
 refine aQ.mq hg ?_
 simp_all [pV,rS]
 rfl
 refine go 5 ?_
 refine CW.ret (bP ?_)
 refine aQ.mq hg ?_
 simp_all [pV,rS]
 rfl
def ai.nK (n:ai) (m:az):Prop:=m.to≠n.s.id∨m.am=n.s.id∨m.am<1∨7<m.am∨eo≤m.ab∨eo≤m.index∨eo≤m.aB
noncomputable def ai.gC (n:ai) (m:az):ai:=if n.s.af.ab<m.ab then n.follow m.ab 0 else n
theorem tQ {m:az} (h:n.nK m):n.iQ m=n:=by unfold ai.iQ;exact if_pos h
theorem EU {m:az} (h:¬ n.nK m) (h1:m.ao=1):n.iQ m=n.oK m:=by unfold ai.iQ;refine (if_neg h).trans ?_;rw[if_pos h1]
theorem EV {m:az} (h:¬ n.nK m) (h1:m.ao=2):n.iQ m=n.kW m:=by unfold ai.iQ;refine (if_neg h).trans ?_;rw[if_neg (by omega),if_pos h1]
theorem EW {m:az} (h:¬ n.nK m) (h1:m.ao≠1) (h2:m.ao≠2) (h3:m.ao<3∨9<m.ao):n.iQ m=n:=by unfold ai.iQ;refine (if_neg h).trans ?_;rw[if_neg h1,if_neg h2,if_pos h3]
theorem CC {m:az} (h:¬ n.nK m) (h1:m.ao≠1) (h2:m.ao≠2) (h3:¬ (m.ao<3∨9<m.ao)) (h4:m.ab<(n.gC m).s.af.ab):n.iQ m=(n.gC m).j6 m:=by
 unfold ai.iQ;refine (if_neg h).trans ?_;rw[if_neg h1,if_neg h2,if_neg h3];exact if_pos h4
theorem CE {m:az} (h:¬ n.nK m) (h1:m.ao≠1) (h2:m.ao≠2) (h3:¬ (m.ao<3∨9<m.ao)) (h4:¬ m.ab<(n.gC m).s.af.ab):n.iQ m=(n.gC m).dW m:=by
 unfold ai.iQ;refine (if_neg h).trans ?_;rw[if_neg h1,if_neg h2,if_neg h3];exact if_neg h4
theorem ahZ {m:az} {y:cG} {i:ez} {da:Option Addr} {dc:Nat} (hi:i.cr=m) (hg:ak w s (A::os)) (nd:Nd s A p h n) (hR:cJ n) (ht:n.takes m) (hm:du s m y) :
  Calls Tryz.prog 36 #[ptr p,.agg (sw i y da dc).toArray] w (iw w s os p (i64 0) (n.iQ m)):=by
 subst hi
 have hr:=ht.1
 refine enter (l:=[ptr p,.agg (sw i y da dc).toArray]) Tryz.func36 rfl Tryz.ntmps36 rfl ?_
 refine go 3 ?_
 rintro b1 w1 Q1 aH aN cz
 refine go 8 ?_
 rintro b2 w2 Q2 aS aR gj
 refine go 2 ?_
 rintro w3 Q3 aP bw ks
 refine go 6 ?_
 have bp:=aP.drew
 refine CW.dw [1,3,5,7,9,11,13,15,16] (fun w=>ay b2 _ w∧ay p _ w∧True) ?_
 refine go 10 ?_
 refine CW.cond rfl (fun h9=>?_) (fun h9=>?_)
 refine go 6 ?_
 refine CW.ret (bP ?_)
 exact aw.mq (((bp.ae 2 rfl).aE).aE) ⟨rfl,_,nd.to (tQ (.inl (by simpa using h9))).symm⟩
 have lj:¬ (i.cr.to≠n.s.id):=(by simpa using h9)
 refine go 1 ?_
 have bh:=bp.drew
 refine CW.dw [1,3,5,7,9,11,13,15,16] (fun w=>ay b2 _ w∧ay p _ w∧True) ?_
 refine go 10 ?_
 refine CW.cond rfl (fun h9=>?_) (fun h9=>?_)
 refine go 6 ?_
 refine CW.ret (bP ?_)
 exact aw.mq (((bh.ae 2 rfl).aE).aE) ⟨rfl,_,nd.to (tQ (.inr (.inl (by simpa using h9)))).symm⟩
 have tw:¬ (i.cr.am=n.s.id):=(by simpa using h9)
 refine go 7 ?_
 refine CW.cond rfl (fun h9=>?_) (fun h9=>?_)
 refine go 6 ?_
 refine CW.ret (bP ?_)
 exact aw.mq (((bh.ae 2 rfl).aE).aE) ⟨rfl,_,nd.to (tQ (.inr (.inr (.inl (bU h9))))).symm⟩
 have Ov:¬ (i.cr.am<1):=(ct h9)
 refine go 7 ?_
 refine CW.cond rfl (fun h9=>?_) (fun h9=>?_)
 refine go 6 ?_
 refine CW.ret (bP ?_)
 exact aw.mq (((bh.ae 2 rfl).aE).aE) ⟨rfl,_,nd.to (tQ (.inr (.inr (.inr (.inl (bU h9)))))).symm⟩
 have D5:¬ (7<i.cr.am):=(ct h9)
 refine go 7 ?_
 refine CW.cond rfl (fun h9=>?_) (fun h9=>?_)
 refine go 6 ?_
 refine CW.ret (bP ?_)
 exact aw.mq (((bh.ae 2 rfl).aE).aE) ⟨rfl,_,nd.to (tQ (.inr (.inr (.inr (.inr (.inl (bU h9))))))).symm⟩
 have hd4:¬ (eo≤i.cr.ab):=(ct h9)
 refine go 7 ?_
 refine CW.cond rfl (fun h9=>?_) (fun h9=>?_)
 refine go 6 ?_
 refine CW.ret (bP ?_)
 exact aw.mq (((bh.ae 2 rfl).aE).aE) ⟨rfl,_,nd.to (tQ (.inr (.inr (.inr (.inr (.inr (.inl (bU h9)))))))).symm⟩
 have JV:¬ (eo≤i.cr.index):=(ct h9)
 refine go 6 ?_
 refine CW.cond rfl (fun h9=>?_) (fun h9=>?_)
 refine go 4 ?_
 refine CW.ret (bP ?_)
 exact aw.mq (((bh.ae 2 rfl).aE).aE) ⟨rfl,_,nd.to (tQ (.inr (.inr (.inr (.inr (.inr (.inr (bU h9)))))))).symm⟩
 have hd6:¬ (eo≤i.cr.aB):=(ct h9)
 have BC:¬ n.nK i.cr:=fun z=>z.elim lj fun z=>z.elim tw fun z=>z.elim Ov fun z=>z.elim D5 fun z=>z.elim hd4 fun z=>z.elim JV hd6
 have Ed:i.cr.index<eo:=by have:¬ (eo≤i.cr.index):=JV;omega
 refine go 7 ?_
 refine CW.cond rfl (fun gi=>?_) (fun gi=>?_)
 refine go 5 ?_
 refine zc (ai3 (bh.ae 2 rfl) nd hR hr hm) ?_
 rintro v6 s6 A6 w6 jv bx bM ⟨rfl,h6,oG⟩
 have hm:=hm.up jv
 refine go 6 ?_
 refine CW.ret (bP ?_)
 exact aw.mq ((bx.aE).aE) ⟨rfl,_,oG.to (EU BC (by simpa using gi)).symm⟩
 have mo:i.cr.ao≠1:=by simpa using gi
 refine go 7 ?_
 refine CW.cond rfl (fun om=>?_) (fun om=>?_)
 refine go 5 ?_
 refine zc (ai5 (bh.ae 2 rfl) nd hR hr ht.2.1 hm) ?_
 rintro v7 s7 A7 w7 jK bO cj ⟨rfl,h7,l7⟩
 have hm:=hm.up jK
 refine go 6 ?_
 refine CW.ret (bP ?_)
 exact aw.mq ((bO.aE).aE) ⟨rfl,_,l7.to (EV BC (by simpa using om)).symm⟩
 have o6:i.cr.ao≠2:=by simpa using om
 refine go 7 ?_
 refine zw (aet (p:=p) (k:=i.cr.ao) bh) ?_
 rintro v8 w8 bD cM rfl
 refine go 7 ?_
 refine RL.acI rfl rfl rfl rfl Tryz.underlying137 rfl (acJ _ _) rfl ?_
 refine go 1 ?_
 refine CW.cond rfl (fun Nj=>?_) (fun Nj=>?_)
 refine go 4 ?_
 refine CW.ret (bP ?_)
 exact aw.mq (((bD.ae 2 rfl).aE).aE) ⟨rfl,_,nd.to (EW BC mo o6 (aer (acK Nj))).symm⟩
 obtain⟨f,hf⟩:=acL Nj
 have pY:=aes hf
 rw[show rS p (pV i.cr.ao) = .func (.func f) #[ptr p] #[] by rw[hf];rfl]
 refine go 3 ?_
 have bA:=bD.drew
 refine CW.dw [1,3,5,7,9,11,13,15,17] (fun w=>ay b2 _ w∧ay p _ w∧True) ?_
 refine go 10 ?_
 refine CW.cond rfl (fun nN=>?_) (fun nN=>?_)
 have Cl:n.follow i.cr.ab 0=n.gC i.cr:=(if_pos (bU nN)).symm
 have Gg:cJ (n.gC i.cr):=by rw[←Cl];exact hR.follow hm.ab
 have tK:(n.gC i.cr).takes i.cr:=by rw[←Cl];exact ht.follow
 refine go 5 ?_
 refine zc (DI (bA.ae 2 rfl) nd) ?_
 rintro C4 Fb ob eX o8 bj cm ⟨rfl,uD,lZ⟩
 have hm:=hm.up o8
 have lZ:=lZ.to Cl
 refine go 4 ?_
 have cy:=bj.drew
 refine CW.dw [1,3,5,7,9,11,13,15,17] (fun w=>ay b2 _ w∧ay p _ w∧True) ?_
 refine go 10 ?_
 refine CW.cond rfl (fun Bh=>?_) (fun Bh=>?_)
 have fT:km Tryz.prog 74=true:=rfl
 have eK:∀ {w':World} {s' A':aj} {h':Hd},ak w' s' (A'::os)→Nd s' A' p h' (n.gC i.cr)→du s' i.cr y→Calls Tryz.prog 74 #[ptr p,.agg (gZ i.cr y).toArray] w' (iw w' s' os p (.tuple #[]) ((n.gC i.cr).j6 i.cr)):=fun h1 h2 h3=>W8 h1 h2 Gg tK.1 h3
 refine go 2 ?_
 refine RL.my rfl rfl rfl rfl rfl rfl ?_
 refine go 6 ?_
 refine RL.ti rfl rfl rfl rfl rfl rfl fT (eK ((cy.aE).aE) lZ hm) ?_
 rintro e12 jA ⟨ui,t_,An,rfl,nh,cw,dK,⟨rfl,lB,pw⟩⟩
 have hm:=hm.up nh
 refine⟨_,rfl,trivial,?_⟩
 refine go 5 ?_
 refine CW.ret (bP ?_)
 exact aw.mq cw ⟨rfl,_,pw.to (CC BC mo o6 pY (bU Bh)).symm⟩
 obtain⟨fT,Og⟩:=Vp hf
 have eK:∀ {w':World} {s' A':aj} {h':Hd},ak w' s' (A'::os)→Nd s' A' p h' (n.gC i.cr)→du s' i.cr y→Calls Tryz.prog f #[ptr p,.agg (gZ i.cr y).toArray] w' (iw w' s' os p (.tuple #[]) ((n.gC i.cr).dW i.cr)):=fun h1 h2 h3=>Og rfl h1 h2 Gg tK h3 Ed
 refine go 5 ?_
 refine RL.ti rfl rfl rfl rfl rfl rfl fT (eK ((cy.aE).aE) lZ hm) ?_
 rintro e13 ji ⟨yC,Fc,vK,rfl,nR,dd,eh,⟨rfl,gJ,lF⟩⟩
 have hm:=hm.up nR
 refine⟨_,rfl,trivial,?_⟩
 refine go 5 ?_
 refine CW.ret (bP ?_)
 exact aw.mq dd ⟨rfl,_,lF.to (CE BC mo o6 pY (ct Bh)).symm⟩
 have Cl:n=n.gC i.cr:=(if_neg (ct nN)).symm
 have Gg:cJ (n.gC i.cr):=by rw[←Cl];exact hR
 have tK:(n.gC i.cr).takes i.cr:=by rw[←Cl];exact ht
 have nd:=nd.to Cl
 refine go 3 ?_
 have ck:=bA.drew
 refine CW.dw [1,3,5,7,9,11,13,15,17] (fun w=>ay b2 _ w∧ay p _ w∧True) ?_
 refine go 10 ?_
 refine CW.cond rfl (fun Bh=>?_) (fun Bh=>?_)
 have fT:km Tryz.prog 74=true:=rfl
 have eK:∀ {w':World} {s' A':aj} {h':Hd},ak w' s' (A'::os)→Nd s' A' p h' (n.gC i.cr)→du s' i.cr y→Calls Tryz.prog 74 #[ptr p,.agg (gZ i.cr y).toArray] w' (iw w' s' os p (.tuple #[]) ((n.gC i.cr).j6 i.cr)):=fun h1 h2 h3=>W8 h1 h2 Gg tK.1 h3
 refine go 2 ?_
 refine RL.my rfl rfl rfl rfl rfl rfl ?_
 refine go 6 ?_
 refine RL.ti rfl rfl rfl rfl rfl rfl fT (eK (((ck.ae 2 rfl).aE).aE) nd hm) ?_
 rintro e15 n_ ⟨yD,CT,R0,rfl,gn,dt,iW,⟨rfl,mG,EY⟩⟩
 have hm:=hm.up gn
 refine⟨_,rfl,trivial,?_⟩
 refine go 5 ?_
 refine CW.ret (bP ?_)
 exact aw.mq dt ⟨rfl,_,EY.to (CC BC mo o6 pY (bU Bh)).symm⟩
 obtain⟨fT,Og⟩:=Vp hf
 have eK:∀ {w':World} {s' A':aj} {h':Hd},ak w' s' (A'::os)→Nd s' A' p h' (n.gC i.cr)→du s' i.cr y→Calls Tryz.prog f #[ptr p,.agg (gZ i.cr y).toArray] w' (iw w' s' os p (.tuple #[]) ((n.gC i.cr).dW i.cr)):=fun h1 h2 h3=>Og rfl h1 h2 Gg tK h3 Ed
 refine go 5 ?_
 refine RL.ti rfl rfl rfl rfl rfl rfl fT (eK (((ck.ae 2 rfl).aE).aE) nd hm) ?_
 rintro e16 md ⟨w_,Ih,LS,rfl,xQ,eC,ie,⟨rfl,mH,nY⟩⟩
 have hm:=hm.up xQ
 refine⟨_,rfl,trivial,?_⟩
 refine go 5 ?_
 refine CW.ret (bP ?_)
 exact aw.mq eC ⟨rfl,_,nY.to (CE BC mo o6 pY (ct Bh)).symm⟩
end
end Go.Lw
namespace Go.Lw
open Go.Proofs
attribute [local irreducible] RL RA
structure jl where
 af:xh
 ah:br
 eR:Bool
abbrev uj (v:jl) (h:Hd):List Value:=[u64 v.af.ab,i64 v.af.aT,u64 v.af.aB,u64 v.ah.aF.index,u64 v.ah.aF.ab,.slice h.va v.ah.aF.aJ.av.length h.vc,.slice h.la v.ah.aF.aJ.aD.length h.lc,.slice h.da v.ah.aF.data.length h.dc,.slice h.ea v.ah.entries.length h.ec,.bool v.eR]
section
variable {w:World} {s:aj} {os:List aj}
theorem Xy {c:aY} {va la:Option Addr} {vc lc:Nat} (hg:ak w s os) (hC:fH s [.slice va c.av.length vc,.slice la c.aD.length lc] c) (hs:c.bL) :
  Calls Tryz.prog 32 #[.agg #[.slice va c.av.length vc,.slice la c.aD.length lc]] w (aw w s os fun _ _ q=>q = .bool (tP c)):=by
 have hv:c.av.length≤maxLen:=by have:=hs.1;simp only[maxLen];omega
 have hl:c.aD.length≤maxLen:=by have:=hs.2;simp only[maxLen];omega
 refine enter (l:=[.agg #[.slice va c.av.length vc,.slice la c.aD.length lc]]) Tryz.func32 rfl Tryz.ntmps32 rfl ?_
 refine go 3 ?_
 rintro b1 w1 Q1 aH aN cz
 refine go 7 ?_
 refine zw (abo aH hv hl) ?_
 rintro v2 w2 aS aR rfl
 refine go 2 ?_
 refine RL.part 5 rfl (fun h5=>?_) (fun h5=>?_)
 refine go 6 ?_
 refine CW.ret (bP ?_)
 refine aw.mq (aS.drop).nil (congrArg Value.bool ?_)
 have h5:Jb c=_:=h5
 rw[Bool.eq_iff_iff];simp[tP,h5]
 refine go 2 ?_
 refine zc (IU aS hC hs.ic) ?_
 rintro v3 s3 B3 w3 cO aP bw rfl
 have aP:=aP.drop
 refine go 5 ?_
 refine CW.ret (bP ?_)
 refine aw.mq (aP.drop).nil (congrArg Value.bool ?_)
 have h5:Jb c=_:=h5
 rw[Bool.eq_iff_iff];simp[tP,h5]
def lj:Hd:=⟨none,0,none,0,none,0,none,0,none,0,none,0,none,0,none,0,none,0⟩
theorem fZ.zero (s:aj):fZ s aU.zero lj :=
 ⟨⟨by simp[aq,aU.zero],by simp[aq,aU.zero],bm.nil _ _ _ (Nat.zero_le _),bm.nil _ _ _ (Nat.zero_le _),bm.nil _ _ _ (Nat.zero_le _),bm.nil _ _ _ (Nat.zero_le _)⟩,bm.nil _ _ _ (Nat.zero_le _),bm.nil _ _ _ (Nat.zero_le _),bm.nil _ _ _ (Nat.zero_le _)⟩
def jQ (id:Int) (v:jl):aU:=⟨id,v.af,v.ah,1,0,[],[],0,0,0,⟨0,0,[]⟩⟩
theorem rC {id:Int} {v:jl}:mV id v.af v.ah v.eR=true↔(id<1∨7<id∨v.eR=true∨wH v.ah=false∨tP (ce v.ah).1=false∨tP v.ah.aF.aJ=false∨eo≤(bX v.ah).1∨eo≤v.af.ab∨v.af.ab<(bX v.ah).2∨v.af.aB<v.ah.aF.index∨(bX v.ah).1<v.af.aB∨v.af.aT<0∨7<v.af.aT):=by
 unfold mV;simp[or_assoc]
theorem kU {id:Int} {v:jl} (h:mV id v.af v.ah v.eR=true):wQ id v.af v.ah v.eR=(aU.zero,1):=if_pos h
theorem KP {id:Int} {v:jl} (h:mV id v.af v.ah v.eR=false):wQ id v.af v.ah v.eR=(jQ id v,0):=if_neg (by rw[h];decide)
theorem aay {q:aj} {id:Int} {v:jl} {h:Hd} (hg:ak w s os) (hq:q=s∨q∈os) (hl:d_ q s v.ah h) (hS:v.ah.bL) (gK:aq .i64 id) (ht:aq .u64 v.af.ab) (hv:aq .i64 v.af.aT) (hc:aq .u64 v.af.aB) :
  Calls Tryz.prog 10 #[i64 id,.agg (uj v h).toArray] w (aw w s os fun s' _ q=>∃ h',q = .tuple #[.agg (jR (wQ id v.af v.ah v.eR).1 h').toArray,i64 (wQ id v.af v.ah v.eR).2]∧fZ s' (wQ id v.af v.ah v.eR).1 h'):=by
 have dr:=vY hS
 refine enter (l:=[i64 id,.agg (uj v h).toArray]) Tryz.func10 rfl Tryz.ntmps10 rfl ?_
 refine go 3 ?_
 rintro Dx iS rJ cy dH rX
 refine go 2 ?_
 rintro kJ jA me cw dK ml
 refine go 9 ?_
 refine RL.part 13 rfl (fun gJ=>?_) (fun gJ=>?_)
 refine go 19 ?_
 rintro ji m7 dd eh nQ
 refine go 3 ?_
 refine CW.ret (ret (vs:=[_,_]) ⟨_,_,_,rfl,rfl,zl nQ,_,_,rfl,rfl,rfl⟩ ?_)
 have fu:mV id v.af v.ah v.eR=true:=rC.2 (.inl (bU gJ))
 exact aw.mq ((dd.drop).drop).nil ⟨lj,by rw[kU fu];rfl,by rw[kU fu];exact fZ.zero _⟩
 have e0:¬ (id<1):=ct gJ
 refine go 4 ?_
 refine RL.part 17 rfl (fun mf=>?_) (fun mf=>?_)
 refine go 15 ?_
 rintro nw rK ck g_ tt
 refine go 3 ?_
 refine CW.ret (ret (vs:=[_,_]) ⟨_,_,_,rfl,rfl,zl tt,_,_,rfl,rfl,rfl⟩ ?_)
 have fu:mV id v.af v.ah v.eR=true:=rC.2 (.inr (.inl (bU mf)))
 exact aw.mq ((ck.drop).drop).nil ⟨lj,by rw[kU fu];rfl,by rw[kU fu];exact fZ.zero _⟩
 have e1:¬ (7<id):=ct mf
 refine go 4 ?_
 refine RL.part 21 rfl (fun m_=>?_) (fun m_=>?_)
 refine go 11 ?_
 rintro n_ xj dt iW q_
 refine go 3 ?_
 refine CW.ret (ret (vs:=[_,_]) ⟨_,_,_,rfl,rfl,zl q_,_,_,rfl,rfl,rfl⟩ ?_)
 have fu:mV id v.af v.ah v.eR=true:=rC.2 (.inr (.inr (.inl m_)))
 exact aw.mq ((dt.drop).drop).nil ⟨lj,by rw[kU fu];rfl,by rw[kU fu];exact fZ.zero _⟩
 have e2:¬ (v.eR=true):=by rw[m_];decide
 refine go 3 ?_
 refine zw (aad cw (hq.imp (fun z=>z) fun z=>by simp[z]) hl) ?_
 rintro w_ md eC ie rfl
 refine go 4 ?_
 refine CW.cond rfl (fun il=>?_) (fun il=>?_)
 refine go 4 ?_
 rintro ny qn eZ hY nb
 refine go 3 ?_
 refine CW.ret (ret (vs:=[_,_]) ⟨_,_,_,rfl,rfl,zl nb,_,_,rfl,rfl,rfl⟩ ?_)
 have fu:mV id v.af v.ah v.eR=true:=rC.2 (.inr (.inr (.inr (.inl (by simpa using il)))))
 exact aw.mq ((eZ.drop).drop).nil ⟨lj,by rw[kU fu];rfl,by rw[kU fu];exact fZ.zero _⟩
 have e3:¬ (wH v.ah=false):=by simpa using il
 refine go 6 ?_
 refine zc (FA eC (hq.imp (fun z=>z) fun z=>by simp[z]) hl hS) ?_
 rintro Fr Lc B18 oM u0 fd iC ⟨vs31,rfl,adk⟩
 have fd:=fd.drop
 obtain⟨va,vc,la,lc,rfl,fN,gl⟩:=adk
 have hC:fH Lc [.slice va (ce v.ah).1.av.length vc,.slice la (ce v.ah).1.aD.length lc] (ce v.ah).1:=⟨_,_,_,_,rfl,fN,gl⟩
 obtain⟨q,hq,hl⟩:=d_.grow hq hl u0
 refine go 5 ?_
 rintro Mr pF qS fU jr o0
 refine go 2 ?_
 rintro qh vV e_ jE uR
 refine go 8 ?_
 refine zw (FB e_ (hq.imp (fun z=>z) fun z=>by simp[z]) hl) ?_
 rintro Fs oN fv iX rfl
 refine go 13 ?_
 rintro S6 qN vW iL lh rZ
 refine go 2 ?_
 rintro xe Ar iM pR D2
 refine go 8 ?_
 refine zc (Xy iM hC dr) ?_
 rintro RO Lf B24 uk xR gB nP rfl
 have gB:=gB.drop
 obtain⟨q,hq,hl⟩:=d_.grow hq hl xR
 refine go 3 ?_
 refine RL.part 46 rfl (fun mh=>?_) (fun mh=>?_)
 refine go 16 ?_
 rintro ul Au js ou uS
 refine go 3 ?_
 refine CW.ret (ret (vs:=[_,_]) ⟨_,_,_,rfl,rfl,zl uS,_,_,rfl,rfl,rfl⟩ ?_)
 have fu:mV id v.af v.ah v.eR=true:=rC.2 (.inr (.inr (.inr (.inr (.inl (by simpa using mh))))))
 exact aw.mq ((((js.drop).drop).drop).drop).nil ⟨lj,by rw[kU fu];rfl,by rw[kU fu];exact fZ.zero _⟩
 have e4:¬ (tP (ce v.ah).1=false):=by simpa using mh
 refine go 5 ?_
 refine zc (Xy gB hl.aJ hS.1) ?_
 rintro Zq Yw B26 un wu gk mJ rfl
 have gk:=gk.drop
 obtain⟨q,hq,hl⟩:=d_.grow hq hl wu
 refine go 5 ?_
 refine CW.cond rfl (fun j0=>?_) (fun j0=>?_)
 refine go 6 ?_
 rintro rH Di iN mj zp
 refine go 3 ?_
 refine CW.ret (ret (vs:=[_,_]) ⟨_,_,_,rfl,rfl,zl zp,_,_,rfl,rfl,rfl⟩ ?_)
 have fu:mV id v.af v.ah v.eR=true:=rC.2 (.inr (.inr (.inr (.inr (.inr (.inl (by simpa using j0)))))))
 exact aw.mq ((((iN.drop).drop).drop).drop).nil ⟨lj,by rw[kU fu];rfl,by rw[kU fu];exact fZ.zero _⟩
 have e5:¬ (tP v.ah.aF.aJ=false):=by simpa using j0
 refine go 5 ?_
 refine RL.part 56 rfl (fun za=>?_) (fun za=>?_)
 refine go 19 ?_
 rintro vH Av jG oZ uT
 refine go 3 ?_
 refine CW.ret (ret (vs:=[_,_]) ⟨_,_,_,rfl,rfl,zl uT,_,_,rfl,rfl,rfl⟩ ?_)
 have fu:mV id v.af v.ah v.eR=true:=rC.2 (.inr (.inr (.inr (.inr (.inr (.inr (.inl (bU za))))))))
 exact aw.mq ((((jG.drop).drop).drop).drop).nil ⟨lj,by rw[kU fu];rfl,by rw[kU fu];exact fZ.zero _⟩
 have e6:¬ (eo≤(bX v.ah).1):=ct za
 refine go 5 ?_
 refine RL.part 61 rfl (fun Js=>?_) (fun Js=>?_)
 refine go 14 ?_
 rintro vI Dk i_ pS xH
 refine go 3 ?_
 refine CW.ret (ret (vs:=[_,_]) ⟨_,_,_,rfl,rfl,zl xH,_,_,rfl,rfl,rfl⟩ ?_)
 have fu:mV id v.af v.ah v.eR=true:=rC.2 (.inr (.inr (.inr (.inr (.inr (.inr (.inr (.inl (bU Js)))))))))
 exact aw.mq ((((i_.drop).drop).drop).drop).nil ⟨lj,by rw[kU fu];rfl,by rw[kU fu];exact fZ.zero _⟩
 have e7:¬ (eo≤v.af.ab):=ct Js
 refine go 7 ?_
 refine CW.cond rfl (fun j0=>?_) (fun j0=>?_)
 refine go 6 ?_
 rintro yG L7 ja rV N7
 refine go 3 ?_
 refine CW.ret (ret (vs:=[_,_]) ⟨_,_,_,rfl,rfl,zl N7,_,_,rfl,rfl,rfl⟩ ?_)
 have fu:mV id v.af v.ah v.eR=true:=rC.2 (.inr (.inr (.inr (.inr (.inr (.inr (.inr (.inr (.inl (bU j0))))))))))
 exact aw.mq ((((ja.drop).drop).drop).drop).nil ⟨lj,by rw[kU fu];rfl,by rw[kU fu];exact fZ.zero _⟩
 have e8:¬ (v.af.ab<(bX v.ah).2):=ct j0
 refine go 10 ?_
 refine RL.part 74 rfl (fun qo=>?_) (fun qo=>?_)
 refine go 14 ?_
 rintro Ah Ss kQ uO N8
 refine go 3 ?_
 refine CW.ret (ret (vs:=[_,_]) ⟨_,_,_,rfl,rfl,zl N8,_,_,rfl,rfl,rfl⟩ ?_)
 have fu:mV id v.af v.ah v.eR=true:=rC.2 (.inr (.inr (.inr (.inr (.inr (.inr (.inr (.inr (.inr (.inl (bU qo)))))))))))
 exact aw.mq ((((kQ.drop).drop).drop).drop).nil ⟨lj,by rw[kU fu];rfl,by rw[kU fu];exact fZ.zero _⟩
 have e9:¬ (v.af.aB<v.ah.aF.index):=ct qo
 refine go 7 ?_
 refine CW.cond rfl (fun j0=>?_) (fun j0=>?_)
 refine go 6 ?_
 rintro sW Aw iD ov r6
 refine go 3 ?_
 refine CW.ret (ret (vs:=[_,_]) ⟨_,_,_,rfl,rfl,zl r6,_,_,rfl,rfl,rfl⟩ ?_)
 have fu:mV id v.af v.ah v.eR=true:=rC.2 (.inr (.inr (.inr (.inr (.inr (.inr (.inr (.inr (.inr (.inr (.inl (bU j0))))))))))))
 exact aw.mq ((((iD.drop).drop).drop).drop).nil ⟨lj,by rw[kU fu];rfl,by rw[kU fu];exact fZ.zero _⟩
 have e10:¬ ((bX v.ah).1<v.af.aB):=ct j0
 refine go 5 ?_
 refine RL.part 83 rfl (fun Bi=>?_) (fun Bi=>?_)
 refine go 11 ?_
 rintro qi Dl c_ gR xI
 refine go 3 ?_
 refine CW.ret (ret (vs:=[_,_]) ⟨_,_,_,rfl,rfl,zl xI,_,_,rfl,rfl,rfl⟩ ?_)
 have fu:mV id v.af v.ah v.eR=true:=rC.2 (.inr (.inr (.inr (.inr (.inr (.inr (.inr (.inr (.inr (.inr (.inr (.inl (bU Bi)))))))))))))
 exact aw.mq ((((c_.drop).drop).drop).drop).nil ⟨lj,by rw[kU fu];rfl,by rw[kU fu];exact fZ.zero _⟩
 have e11:¬ (v.af.aT<0):=ct Bi
 refine go 6 ?_
 refine CW.cond rfl (fun j0=>?_) (fun j0=>?_)
 refine go 4 ?_
 rintro yH I1 jt rW JN
 refine go 3 ?_
 refine CW.ret (ret (vs:=[_,_]) ⟨_,_,_,rfl,rfl,zl JN,_,_,rfl,rfl,rfl⟩ ?_)
 have fu:mV id v.af v.ah v.eR=true:=rC.2 (.inr (.inr (.inr (.inr (.inr (.inr (.inr (.inr (.inr (.inr (.inr (.inr (bU j0)))))))))))))
 exact aw.mq ((((jt.drop).drop).drop).drop).nil ⟨lj,by rw[kU fu];rfl,by rw[kU fu];exact fZ.zero _⟩
 have e12:¬ (7<v.af.aT):=ct j0
 refine go 10 ?_
 refine zc (TR (q:=q) (r:=jQ id v) (h:={ h with ba:=none,bc:=0,pa:=none,pc:=0,ta:=none,tc:=0 }) gk (hq.imp (fun z=>z) fun z=>by simp[z]) ⟨hl.1,hl.2,hl.3,hl.4,hl.5,hl.6⟩ (bm.nil _ _ _ (Nat.zero_le _)) (bm.nil _ _ _ (Nat.zero_le _)) (bm.nil _ _ _ (Nat.zero_le _)) hS (Nat.zero_le _) (Nat.zero_le _) (Nat.zero_le _)) ?_
 rintro v35 Lg B35 uo zH jH ow ⟨Np,rfl,adw⟩
 obtain⟨t35,aeY,V1,afK⟩:=jH.bY
 have jH:ak _ t35 (Ar::vV::me::rJ::os):=aeY
 have eA:=adw.sK (n:=⟨jQ id v,bz.zero⟩) ⟨gK,ht,hv,hc,hl.index,hl.ab⟩ V1 afK
 refine go 2 ?_
 rintro nz I2 cS gS D3
 refine go 3 ?_
 refine CW.ret (ret (vs:=[_,_]) ⟨_,_,_,rfl,rfl,zl D3,_,_,rfl,rfl,rfl⟩ ?_)
 have qE:mV id v.af v.ah v.eR=false:=Bool.eq_false_iff.2 fun z=>(fun z=>(z.elim e0 fun z=>(z.elim e1 fun z=>(z.elim e2 fun z=>(z.elim e3 fun z=>(z.elim e4 fun z=>(z.elim e5 fun z=>(z.elim e6 fun z=>(z.elim e7 fun z=>(z.elim e8 fun z=>(z.elim e9 fun z=>(z.elim e10 fun z=>(z.elim e11 e12))))))))))))) (rC.1 z)
 exact aw.mk (u0.trans (xR.trans (wu.trans (zH.trans V1)))) ((((cS.drop).drop).drop).drop).nil (dH.trans (dK.trans (ie.trans (iC.trans (jr.trans (jE.trans (iX.trans (lh.trans (pR.trans (nP.trans (mJ.trans (ow.trans gS)))))))))))) ⟨Np,by rw[KP qE];rfl,by rw[KP qE];exact eA⟩
theorem Sr {id:Int} {v:jl} {h:Hd} (hg:ak w s os) (hl:d_ s s v.ah h) (hS:v.ah.bL) (gK:aq .i64 id) (ht:aq .u64 v.af.ab) (hv:aq .i64 v.af.aT) (hc:aq .u64 v.af.aB) :
  Calls Tryz.prog 10 #[i64 id,.agg (uj v h).toArray] w (aw w s os fun s' _ q=>∃ h',q = .tuple #[.agg (jR (wQ id v.af v.ah v.eR).1 h').toArray,i64 (wQ id v.af v.ah v.eR).2]∧fZ s' (wQ id v.af v.ah v.eR).1 h') :=
 aay hg (.inl rfl) hl hS gK ht hv hc
end
end Go.Lw
namespace Go.Lw
section
variable {P:Program} {n:Nat} {ops:Array Oper} {Q:Exit→Act→World→Prop} {S:World→Prop} {au:List (Bool × Oper)} {E:dE} {w:World} {o:Oper} {d:Nat} {v:Value} {x y:Operand} {T:Bool}
theorem RL.aj3 {t yt:TypeId} {us vs:Array Value} (hg:bR ops E o=some true) (hd:o.dst=some d) (hb:Nat.blt d n=true) (ho:o.op = .binOp .eql t x y yt) (hm:P.eqGuardType P.depth t=false)
  (hx:ev E x=some (.agg us)) (hy:ev E y=some (.agg vs)) (hr:∀ w,(binOp .eql t (.agg us) (.agg vs)).run P w = .ok v w) (h:RL P n ops Q S au ((d,v)::E) w):RL P n ops Q S ((T,o)::au) E w:=by
 refine RL.ij hg hd hb (fun w ac ha=>?_) h
 unfold execOp
 simp only[ho,ha.ev hx,ha.ev hy,Sem.run_bind,run_eqGuard_agg _ _ _ _ _ _ _ hm,Result.andThen_ok]
 simp[hr w]
theorem RL.Fj {t yt:TypeId} {us vs:Array Value} (hg:bR ops E o=some true) (hd:o.dst=some d) (hb:Nat.blt d n=true) (ho:o.op = .binOp .neq t x y yt) (hm:P.eqGuardType P.depth t=false)
  (hx:ev E x=some (.agg us)) (hy:ev E y=some (.agg vs)) (hr:∀ w,(binOp .neq t (.agg us) (.agg vs)).run P w = .ok v w) (h:RL P n ops Q S au ((d,v)::E) w):RL P n ops Q S ((T,o)::au) E w:=by
 refine RL.ij hg hd hb (fun w ac ha=>?_) h
 unfold execOp
 simp only[ho,ha.ev hx,ha.ev hy,Sem.run_bind,run_eqGuard_agg _ _ _ _ _ _ _ hm,Result.andThen_ok]
 simp[hr w]
end
end Go.Lw
namespace Go.Lw
open Go.Proofs
attribute [local irreducible] RL RA
abbrev JI (h:xh):Array Value:= #[u64 h.ab,i64 h.aT,u64 h.aB]
theorem DX (a b:xh) (w:World):(binOp .neq 24 (.agg (JI a)) (.agg (JI b))).run Tryz.prog w = .ok (.bool (decide (a≠b))) w:=by
 have u1:=Tryz.underlying3
 have a1:=Tryz.isAgg3
 have z1:=Tryz.sizeOf3
 have u2:=Tryz.underlying22
 have a2:=Tryz.isAgg22
 have z2:=Tryz.sizeOf22
 have hS:Tryz.prog.underlying 24=some (.struct (Tryz.prog.fieldsOf 24)):=by kernel_rfl
 have hp:Tryz.prog.stoodInHeld 24=false:=by kernel_rfl
 rw[run_neq_struct,show (10000:Nat)=9999+1 from rfl,run_equalIn_agg w 9999 24 _ _ hS hp]
 simp only[Program.fieldsOf,Tryz.underlying24]
 obtain⟨t,v,c⟩:=a
 obtain⟨t',v',c'⟩:=b
 by_cases h1:t=t'
 subst h1
 by_cases h2:v=v'
 subst h2
 by_cases h3:c=c'
 subst h3;go_simp
 go_simp
 go_simp
 go_simp
def Ap (s:aj) (o:bz) (h:Hd):Prop:=bm bg 6 s h.oa h.oc o.entries∧bm iH 14 s h.ma h.mc o.aG
theorem Ap.up {s s':aj} {o:bz} {h:Hd} (k:Ap s o h) (hl:Le s s'):Ap s' o h:=⟨k.1.up bg.up hl,k.2.up iH.up hl⟩
structure ux (s:aj) (i:ez) (y:cG) (da:Option Addr) (dc:Nat):Prop where
 cr:du s i.cr y
 ao:aq .i64 i.ao
 sS:aq .i64 i.sS
 kZ:aq .i64 i.kZ
 k9:aq .i64 i.k9
 to:aq .i64 i.to
 data:bm (ax .u8) 1 s da dc i.data
theorem ux.up {s s':aj} {i:ez} {y:cG} {da:Option Addr} {dc:Nat} (k:ux s i y da dc) (hl:Le s s'):ux s' i y da dc :=
 { k with cr:=k.cr.up hl,data:=k.data.up (ax.up _) hl }
noncomputable def ai.fz (n:ai) (i:ez):ai × Int:=if i.ao=1 then (n.tick i.sS,0) else if i.ao=2 then (n.iQ i.cr,0) else if i.ao=3∨i.ao=4∨i.ao=5 then n.gd i else (n,1)
def ai.FN (n:ai) (i:ez):Prop:=n.takes i.cr∧i.data.length≤1073741824∧(n.gG i.kZ i.k9).1.bL
abbrev dA (r:aU):ai:=⟨r,bz.zero⟩
theorem uf {r:aU} {i:ez} (h:((dA r).fz i).2≠0):bI r i=(r,bz.zero,((dA r).fz i).2):=by unfold bI;exact if_pos h
theorem sQ {r:aU} {i:ez} (h:¬ ((dA r).fz i).2≠0):bI r i=(((dA r).fz i).1.s,(((dA r).fz i).1.yI (decide (((dA r).fz i).1.s.af≠r.af))).o,0):=by unfold bI;exact if_neg h
def vM (f:FuncId) (n:ai) (i:ez) (y:cG) (da:Option Addr) (dc:Nat) (p:Nat):Prop :=
 km Tryz.prog f=true∧∀ {w:World} {s A:aj} {os:List aj} {h:Hd},ak w s (A::os)→Nd s A p h n→ux s i y da dc →
  Calls Tryz.prog f #[ptr p,.agg (sw i y da dc).toArray] w (iw w s os p (i64 (n.fz i).2) (n.fz i).1)
section
variable {n:ai} {i:ez} {y:cG} {da:Option Addr} {dc p:Nat}
theorem aaZ (hk:i.ao=1) (hR:cJ n) (hb:n.FN i):vM 35 n i y da dc p:=by
 refine⟨rfl,fun hg nd ho=>?_⟩
 rw[show n.fz i=(n.tick i.sS,0) from if_pos hk]
 exact ako hg nd hR hb.1.1
theorem aaY (hk:i.ao=2) (hR:cJ n) (hb:n.FN i):vM 36 n i y da dc p:=by
 refine⟨rfl,fun hg nd ho=>?_⟩
 rw[show n.fz i=(n.iQ i.cr,0) by unfold ai.fz;rw[if_neg (by omega),if_pos hk]]
 exact ahZ rfl hg nd hR hb.1 ho.cr
theorem Mm (hk:i.ao=3∨i.ao=4∨i.ao=5) (hR:cJ n) (hb:n.FN i):vM 37 n i y da dc p:=by
 refine⟨rfl,fun hg nd ho=>?_⟩
 rw[show n.fz i=n.gd i by unfold ai.fz;rw[if_neg (by omega),if_neg (by omega),if_pos hk]]
 exact abg hg nd hR hb.1.1 ho.kZ ho.k9 ho.to ho.data hb.2.1 hb.2.2
theorem aa0 (hk:i.ao≠1∧i.ao≠2∧i.ao≠3∧i.ao≠4∧i.ao≠5):vM 34 n i y da dc p:=by
 refine⟨rfl,fun hg nd ho=>?_⟩
 rw[show n.fz i=(n,1) by unfold ai.fz;rw[if_neg hk.1,if_neg hk.2.1,if_neg (by omega)]]
 exact akz hg nd
end
end Go.Lw
namespace Go.Lw
def aY.jU (c:Nat) (x:aY):Prop:=x.av.length≤c∧x.aD.length≤c
def aA.jU (c:Nat) (e:aA):Prop:=aq .u64 e.index∧aq .u64 e.ab∧e.data.length≤c∧e.aJ.jU c
theorem aY.jU.mono {c d:Nat} {x:aY} (h:x.jU c) (hd:c≤d):x.jU d:=⟨Nat.le_trans h.1 hd,Nat.le_trans h.2 hd⟩
theorem aA.jU.mono {c d:Nat} {e:aA} (h:e.jU c) (hd:c≤d):e.jU d:=⟨h.1,h.2.1,Nat.le_trans h.2.2.1 hd,h.2.2.2.mono hd⟩
theorem aY.jU.none (c:Nat):aY.jU c ⟨[],[]⟩:=⟨Nat.zero_le _,Nat.zero_le _⟩
structure lL (c:Nat) (l:br):Prop where
 index:aq .u64 l.aF.index
 ab:aq .u64 l.aF.ab
 aJ:l.aF.aJ.jU c
 data:l.aF.data.length≤c
 entries:∀ e∈l.entries,e.jU c
 count:l.entries.length≤c
 ff:l.aF.index<eo
 run:∀ (k:Nat) (e:aA),l.entries[k]?=some e→e.index=IntKind.u64.wrap (l.aF.index+1+k)
structure cp (c:Nat) (r:aU):Prop where
 id:aq .i64 r.id
 ab:aq .u64 r.af.ab
 aT:aq .i64 r.af.aT
 aB:aq .u64 r.af.aB
 ah:lL c r.ah
 cB:r.cB.length≤c
 aK:r.aK.length≤2*c
 vy:∀ p∈r.aK,aq .u64 p.cA
 Rb:aq .u64 r.part.index
 Re:aq .u64 r.part.ab
 part:r.part.data.length≤c
structure vR (d:Nat) (m:az):Prop where
 am:aq .i64 m.am
 ab:aq .u64 m.ab
 index:aq .u64 m.index
 cn:aq .u64 m.cn
 aB:aq .u64 m.aB
 entries:∀ e∈m.entries,e.jU d
 count:m.entries.length≤d
 aJ:m.aJ.jU d
 data:m.data.length≤d
theorem lL.mono {c d:Nat} {l:br} (h:lL c l) (hd:c≤d):lL d l :=
 ⟨h.index,h.ab,h.aJ.mono hd,Nat.le_trans h.data hd,fun e he=>(h.entries e he).mono hd,Nat.le_trans h.count hd,h.ff,h.run⟩
theorem cp.mono {c d:Nat} {r:aU} (h:cp c r) (hd:c≤d):cp d r :=
 { h with ah:=h.ah.mono hd,cB:=Nat.le_trans h.cB hd,aK:=Nat.le_trans h.aK (by omega),part:=Nat.le_trans h.part hd }
theorem cp.aq {c:Nat} {n:ai} (h:cp c n.s):cJ n:=⟨h.id,h.ab,h.aT,h.aB,h.ah.index,h.ah.ab⟩
theorem TM {c:Nat}:∀ {l:List aA},(∀ e∈l,e.jU c)→∀ x,jB l=some x→x.1.jU c
 | [],_,x,h=>by cases h
 | e::l,hs,x,h=>by
  simp only[jB] at h
  cases hc:jB l with
  | some r=>rw[hc] at h;cases h;exact TM (fun y hy=>hs y (List.mem_cons_of_mem _ hy)) _ hc
  | none =>
   rw[hc] at h
   simp only at h
   split at h
   cases h;exact (hs e (List.mem_cons_self ..)).2.2.2
   cases h
theorem ME {c:Nat} {l:br} (h:lL c l):(ce l).1.jU c:=by
 unfold ce
 cases hc:jB l.entries with
 | none=>exact h.aJ
 | some r=>exact TM h.entries _ hc
theorem aiK {k:Nat} {c:aY} (h:c.jU k) (x:Int):(oI c x).length≤2*k:=by
 have h1:=It (dU x (c.av++c.aD))
 have h2:=DD x (c.av++c.aD)
 have h3:(c.av++c.aD).length=c.av.length+c.aD.length:=List.length_append
 have h4:=h.1
 have h5:=h.2
 unfold oI;omega
theorem ahA {c:Nat} {l:br} (h:lL c l):aq .u64 (bX l).1∧aq .u64 (bX l).2:=by
 unfold bX
 cases hc:l.entries.getLast? with
 | none=>exact⟨h.index,h.ab⟩
 | some e=>exact⟨(h.entries e (List.mem_of_getLast? hc)).1,(h.entries e (List.mem_of_getLast? hc)).2.1⟩
theorem lL.none (c:Nat):lL c br.none:=⟨by simp[aq,br.none,gE.none],by simp[aq,br.none,gE.none],⟨Nat.zero_le _,Nat.zero_le _⟩,Nat.zero_le _,fun e he=>(by cases he),Nat.zero_le _,by simp[br.none,gE.none,eo],fun k e hk=>by simp[br.none] at hk⟩
theorem Fw {x:Int} (h0:0≤x) (h1:x<18446744073709551616):IntKind.u64.wrap x=x:=aq.wrap (k:= .u64) (by simp only[aq];omega)
theorem akA (x:Int):bF (IntKind.u64.wrap x)=IntKind.u64.wrap (x+1):=by
 unfold bF IntKind.wrap
 simp only[IntKind.bits,IntKind.signed]
 simp
def lA (l:br):Prop:=∀ (k:Nat) (e:aA),l.entries[k]?=some e→e.index=l.aF.index+1+k
theorem lL.pD {c:Nat} {l:br} (h:lL c l) (hc:c≤1099511627776):lA l:=fun k e hk=>by
 have h1:=h.run k e hk
 have h2:=(List.getElem?_eq_some_iff.1 hk).1
 have h3:=h.count
 have h4:=h.ff
 have h5:=h.index
 simp only[aq,eo] at h4 h5
 rw[Fw (by omega) (by omega)] at h1
 exact h1
theorem lA.lG {l:br} (h:lA l) (j:Int):((eI l j:Nat):Int)=max 0 (min (l.entries.length:Int) (j-(l.aF.index+1))):=by
 have hc:eI l j=(max 0 (min (l.entries.length:Int) (j-(l.aF.index+1)))).toNat:=by
  refine Rw (n:=l.entries.length) (fun k hk=>?_) _ _ _ (Nat.le_refl _) (Nat.zero_le _) (by omega) (Nat.le_refl _)
  have hg:=h k _ (List.getElem?_eq_getElem hk)
  unfold KS
  rw[List.getElem?_eq_getElem hk]
  simp only[hg,decide_eq_decide]
  omega
 omega
theorem lA.aZ {l:br} (h:lA l):(bX l).1=l.aF.index+l.entries.length:=by
 unfold bX
 cases hl:l.entries.getLast? with
 | none=>rw[List.getLast?_eq_none_iff] at hl;simp[hl]
 | some e =>
  rw[List.getLast?_eq_getElem?] at hl
  have h1:=h _ _ hl
  have h2:0<l.entries.length:=by
   have:=(List.getElem?_eq_some_iff.1 hl).1;omega
  simp only;omega
theorem lL.aZ {c:Nat} {l:br} (h:lL c l):(bX l).1=IntKind.u64.wrap (l.aF.index+l.entries.length):=by
 unfold bX
 cases hl:l.entries.getLast? with
 | none =>
  rw[List.getLast?_eq_none_iff] at hl
  have h5:=h.index
  simp only[aq] at h5
  rw[hl,Fw (by simp;omega) (by simp;omega)];simp
 | some e =>
  rw[List.getLast?_eq_getElem?] at hl
  have h1:=h.run _ _ hl
  have h2:0<l.entries.length:=by
   have:=(List.getElem?_eq_some_iff.1 hl).1;omega
  simp only[h1]
  exact congrArg IntKind.u64.wrap (by omega)
theorem lA.ab {l:br} (h:lA l) {x:Int} (hx:(cE l x).2=true):l.aF.index≤x∧x≤l.aF.index+l.entries.length:=by
 unfold cE at hx
 split at hx
 omega
 split at hx
 rename_i e he
 split at hx
 rename_i hi
 have h1:=h _ _ he
 have h2:=(List.getElem?_eq_some_iff.1 he).1
 omega
 cases hx
 cases hx
theorem ahW {c d:Nat} {l:br} {k i t:Int} {more:List aA} (h:lL c l) (hm:∀ e∈more,e.jU d) (hn:more.length≤d) (hc:c+d≤1099511627776):lL (c+d) (fb l k i t more).ah:=by
 have hx:=h.pD (by omega)
 unfold fb
 split
 exact lL.none _
 rename_i fo
 split
 exact lL.none _
 rename_i qG
 split
 exact lL.none _
 have hr:fx i t more=true:=by
  have:lI i t more=true:=by simpa using fo
  simp only[lI,Bool.and_eq_true] at this
  exact this.2
 cases hf:more.findIdx? (ed l) with
 | none=>exact h.mono (by omega)
 | some j =>
  obtain⟨hj,rf,r_⟩:=List.findIdx?_eq_some_iff_getElem.1 hf
  have rd:(more[j]?.map (·.index)).getD 0=i+1+j:=by
   rw[List.getElem?_eq_getElem hj]
   simp only[Option.map_some,Option.getD_some]
   exact sP hr j _ (List.getElem?_eq_getElem hj)
  have cq:l.aF.index≤i+j∧i+j≤l.aF.index+l.entries.length:=by
   rcases Nat.eq_zero_or_pos j with h0 | h0
   have h1:(cE l i).2=true:=by
    cases hz:(cE l i).2 with
    | true=>rfl
    | false=>exact absurd (.inl hz) qG
   have:=hx.ab h1
   omega
   have h1:=r_ (j-1) (by omega)
   have h2:=sP hr (j-1) _ (List.getElem?_eq_getElem (by omega))
   have h3:(cE l more[j-1].index).2=true:=by
    cases hz:(cE l more[j-1].index).2 with
    | true=>rfl
    | false=>simp[ed,hz] at h1
   have:=hx.ab h3
   omega
  have hp:=hx.lG (i+1+j)
  have Vk:=h.count
  dsimp only
  rw[rd]
  refine⟨h.index,h.ab,h.aJ.mono (by omega),Nat.le_trans h.data (by omega),fun e he=>?_,?_,h.ff,fun q e hq=>?_⟩
  rcases List.mem_append.1 he with he | he
  exact (h.entries e (List.mem_of_mem_take he)).mono (by omega)
  exact (hm e (List.mem_of_mem_drop he)).mono (by omega)
  simp only[List.length_append,List.length_take,List.length_drop];omega
  have zP:=(List.getElem?_eq_some_iff.1 hq).1
  simp only[List.length_append,List.length_take,List.length_drop] at zP
  have Ep:=h.ff
  have eG:=h.index
  simp only[aq,eo] at Ep eG
  rw[Fw (by simp only;omega) (by simp only;omega)]
  by_cases be:q<eI l (i+1+j)
  rw[List.getElem?_append_left (by rw[List.length_take];omega),List.getElem?_take_of_lt be] at hq
  exact hx q e hq
  rw[List.getElem?_append_right (by rw[List.length_take];omega),List.getElem?_drop] at hq
  have:=sP hr _ _ hq
  rw[List.length_take] at this
  simp only
  omega
theorem WT (n:Int) (l:List Int):(lp n l).length≤l.length+1:=Nat.le_of_eq (WU n l)
theorem abd {k:Nat} {c:aY} (h:c.jU k) (a b:Int):(gb c a b).1.jU (k+1):=by
 have h1:=WT b c.av
 have h2:=WT b c.aD
 have h3:=DD b c.av
 have h4:=DD b c.aD
 have h5:=h.1
 have h6:=h.2
 unfold gb
 repeat' split
 all_goals exact⟨by simp[aY.none];try omega,by simp[aY.none];try omega⟩
section
variable {c d:Nat} {n:ai}
theorem DH {t l:Int} (h:cp c n.s) (ht:aq .u64 t):cp c (n.follow t l).s:=by
 unfold ai.follow
 by_cases hc:n.s.af.ab<t
 exact { h with ab:=by simp only[if_pos hc];exact ht,aT:=by simp only[if_pos hc];simp[Lw.aq],aB:=by simp only[if_pos hc];exact h.aB,cB:=Nat.zero_le _,aK:=Nat.zero_le _,vy:=fun p hp=>by cases hp }
 exact { h with ab:=by simp only[if_neg hc];exact h.ab,aT:=by simp only[if_neg hc];exact h.aT,aB:=by simp only[if_neg hc];exact h.aB,cB:=Nat.zero_le _,aK:=Nat.zero_le _,vy:=fun p hp=>by cases hp }
theorem MV {am:Int} {dZ:Bool} (h:cp c n.s):cp (c+1) (n.jm am dZ).s :=
 { h.mono (Nat.le_add_right c 1) with cB:=by have:=h.cB;simp only[ai.jm,List.length_append,List.length_singleton];omega }
theorem FZ {aO:Int} (h:cp c n.s):cp (c+1) (n.dM aO).s :=
 { h.mono (Nat.le_add_right c 1) with cB:=by simp[ai.dM,ai.jm],aK:=Nat.zero_le _,vy:=fun p hp=>by cases hp }
theorem MZ (h:cp c n.s):cp c n.gD.s:=by rw[Lq];exact h
theorem MW {q:cK} (h:cp c n.s):cp c (n.fA q).s:=by rw[ai.DG];exact h
theorem aiU {was:List cK} {o x:Int} (h:∀ p∈was,aq .u64 p.cA):aq .u64 (ai.tY was o x).cA:=by
 unfold ai.tY
 cases hf:was.find? fun p=>decide (p.node=o) with
 | none=>simp[aq]
 | some q=>exact h q (List.mem_of_find?_eq_some hf)
theorem MX {x:Int} (h:cp c n.s):cp c (n.cx x).s :=
 { h with
  aK:=by simp only[ai.cx,List.length_map];exact aiK (ME h.ah) _
  vy:=fun p hp=>by
   obtain⟨o,_,rfl⟩:=List.mem_map.1 hp
   exact aiU h.vy }
theorem T9 (h:cp c n.s):cp c n.count.s:=by
 by_cases hs:n.b_≤n.s.af.aB∨(cE n.s.ah n.b_).1≠n.s.af.ab
 rw[yY hs];exact h
 rw[yX hs]
 have hw:cp c (n.lz n.b_).s:={ h with aB:=ai.TB h.vy (ahA h.ah).1 }
 split
 exact DH hw h.ab
 exact hw
theorem MY {e:aA} (h:cp c n.s) (h1:e.data.length≤c+1) (h2:e.aJ.jU (c+1)):cp (c+1) (n.put e).s:=by
 have hz:cp (c+1) (n.fE { e with index:=bF n.aZ,ab:=n.s.af.ab }).s :=
  { h.mono (Nat.le_add_right c 1) with
   ah:={ h.ah.mono (Nat.le_add_right c 1) with
    entries:=fun x hx=>by
     rcases List.mem_append.1 hx with hx | hx
     exact (h.ah.entries x hx).mono (by omega)
     obtain rfl:=List.mem_singleton.1 hx;exact⟨vG _,h.ab,h1,h2⟩
    count:=by have:=h.ah.count;simp only[ai.fE,List.length_append,List.length_singleton];omega
    run:=fun k x hk=>by
     by_cases be:k<n.s.ah.entries.length
     simp only[ai.fE] at hk
     rw[List.getElem?_append_left be] at hk
     exact h.ah.run k x hk
     simp only[ai.fE] at hk
     rw[List.getElem?_append_right (by omega)] at hk
     have hz:=(List.getElem?_eq_some_iff.1 hk).1
     simp only[List.length_singleton] at hz
     have ng:k=n.s.ah.entries.length:=by omega
     subst ng
     simp only[Nat.sub_self,List.getElem?_cons_zero,Option.some.injEq] at hk
     subst hk
     show bF (bX n.s.ah).1=_
     rw[h.ah.aZ,akA]
     exact congrArg IntKind.u64.wrap (by simp only[ai.fE];omega) } }
 have e0:n.put e=((if e.ao=3 then (n.fE { e with index:=bF n.aZ,ab:=n.s.af.ab }).cx (bF n.aZ) else n.fE { e with index:=bF n.aZ,ab:=n.s.af.ab }).count).gD:=rfl
 rw[e0]
 refine MZ (T9 ?_)
 split
 exact MX hz
 exact hz
theorem T_ (h:cp c n.s):cp (c+1) n.cI.s:=by
 unfold ai.cI
 refine MY (MX { h with cB:=Nat.zero_le _,aK:=Nat.zero_le _,vy:=fun p hp=>by cases hp }) (Nat.zero_le _) (aY.jU.none _)
theorem M0 (h:cp c n.s):cp (c+2) n.fp.s:=by
 have hz:cp (c+1) (ai.dM { n with s:={ n.s with af:={ n.s.af with ab:=bF n.s.af.ab,aT:=n.s.id } } } 3).s:=FZ { h with ab:=vG _,aT:=h.id }
 unfold ai.fp
 dsimp only
 split
 exact T_ hz
 exact hz.mono (by omega)
theorem acs (h:cp c n.s):cp (c+3) n.eD.s:=by
 unfold ai.eD
 dsimp only
 split
 exact M0 (FZ h)
 exact (FZ (aO:=2) h).mono (by omega)
theorem acE {t:Int} (h:cp c n.s):cp (c+3) (n.tick t).s:=by
 have hm:c≤c+3:=by omega
 obtain⟨e,he⟩:∃ e,e=min (jT n.s.bi) (max n.s.bi 1073741824):=⟨_,rfl⟩
 have hw:cp c (n.dN e).s:={ h with }
 by_cases hr:n.s.aO≠4
 by_cases hc:max t 1≤e∧n.jz=true
 rw[ai.CY e he hr hc];exact acs hw
 rw[ai.CZ e he hr hc];exact hw.mono hm
 obtain⟨b,hb⟩:∃ b,b=if max t 1≤e then ((n.dN e).dN 0).mC 0 else n.dN e:=⟨_,rfl⟩
 have hf:cp (c+3) b.s:=by
  rw[hb];split
  exact { hw.mono hm with }
  exact hw.mono hm
 rw[ai.yA e he hr b hb]
 split
 exact MZ (n:=((b.kD (jT b.s.fQ)).kD 0)) { hf with }
 exact { hf with }
theorem T7 (h:cp c n.s) (k x:Int):(n.gG k x).1.jU (c+1):=by
 have h1:(ce n.s.ah).1.jU (c+1):=(ME h.ah).mono (by omega)
 unfold ai.gG
 repeat' split
 all_goals first | exact h1 | exact abd (ME h.ah) _ _
theorem acF {to:Int} (h:cp c n.s):cp c (n.nt to).1.s:=by
 unfold ai.nt
 split
 exact h
 split
 exact h
 dsimp only
 split
 exact { h with }
 exact MW { h with }
theorem acu {i:ez} (h:cp c n.s) (hd:i.data.length≤c+1):cp (c+1) (n.gd i).1.s:=by
 have hm:c≤c+1:=by omega
 unfold ai.gd
 split
 exact h.mono hm
 split
 exact h.mono hm
 split
 exact (acF h).mono hm
 dsimp only
 split
 split
 exact h.mono hm
 exact MY { h with } (Nat.zero_le _) (T7 h _ _)
 exact MY { h with } hd (aY.jU.none _)
theorem Ub {m:az} {nB:ai→ai} {k:Nat} (h:cp c n.s) (hw:∀ q:ai,cp (c+1) q.s→cp (c+1+k) (nB q).s):cp (c+1+k) (n.jS m nB).s:=by
 have hb:=MV (am:=m.am) (dZ:= !m.bT) h
 unfold ai.jS
 dsimp only
 split
 exact hw _ hb
 split
 exact (DH hb hb.ab).mono (by omega)
 exact hb.mono (by omega)
theorem acG {m:az} (h:cp c n.s) (hm:aq .i64 m.am):cp c (n.aT m).s:=by
 unfold ai.aT
 dsimp only
 split
 exact { h with aT:=hm }
 exact h
theorem acH {m:az} (h:cp c n.s):cp (c+2) (n.lK m).s:=by
 unfold ai.lK
 split
 exact Ub (k:=1) h (fun q hq=>T_ hq)
 exact h.mono (by omega)
theorem acD {m:az} (h:cp c n.s) (hm:aq .u64 m.ab):cp (c+3) (n.kW m).s:=by
 unfold ai.kW
 split
 exact (DH h hm).mono (by omega)
 split
 exact Ub (k:=2) h (fun q hq=>M0 hq)
 exact h.mono (by omega)
theorem acB {m:az} (h:cp c n.s):cp c (n.j6 m).s:=by
 unfold ai.j6
 split
 exact h
 split<;>exact h
end
end Go.Lw
namespace Go.Lw
section
variable {c d:Nat} {n:ai}
theorem Jo {f:Int} (h:cp c n.s):cp c (n.calm f).s:={ DH (l:=f) h h.ab with }
theorem acx {m:az} (h:cp c n.s) (hm:vR d m) (hc:c+d≤1099511627776):cp (c+d) (n.grow m).s:=by
 have hw:=(Jo (f:=m.am) h).mono (Nat.le_add_right c d)
 by_cases h0:n.s.aO=4
 unfold ai.grow;rw[if_pos h0];exact h.mono (Nat.le_add_right c d)
 by_cases h1:m.index<(n.calm m.am).s.af.aB
 rw[AW h0 h1];exact hw
 obtain⟨G,hG⟩:∃ G,G=fb (n.calm m.am).s.ah (n.calm m.am).s.af.aB m.index m.cn m.entries:=⟨_,rfl⟩
 have hl:lL (c+d) G.ah:=by rw[hG];exact ahW (Jo h).ah hm.entries hm.count hc
 by_cases h2:G.gH=1∨G.gH=62∨m.entries.any (ai.l_ (n.calm m.am).s.af.ab)=true
 rw[uC h0 h1 hG.symm h2];exact hw
 by_cases h3:G.gH=61
 rw[y6 h0 h1 hG.symm h2 h3];exact hw
 rw[y7 h0 h1 hG.symm h2 h3]
 have fJ:=hw.aB
 have gA:=hm.aB
 have Ou:Lw.aq .u64 (max (n.calm m.am).s.af.aB (min m.aB (m.index+m.entries.length))):=by
  simp only[Lw.aq] at fJ gA ⊢
  rw[Int.max_def,Int.min_def]
  split<;>split<;>constructor<;>omega
 exact { hw with ah:=hl,aB:=Ou }
theorem Ua {k:Nat} {q:cK} (h:cp c n.s) (hq:Lw.aq .u64 q.cA):cp c (n.db k q).s :=
 { h with
  aK:=by simp only[ai.db,ai.mZ,List.length_set];exact h.aK
  vy:=fun p hp=>by
   rcases List.mem_or_eq_of_mem_set hp with hp | rfl
   exact h.vy p hp
   exact hq }
theorem H7 {o:Int} {q:cK} (hp:n.gu o=some q):∃ k,n.s.aK.findIdx? (fun p=>decide (p.node=o))=some k:=by
 cases hf:n.s.aK.findIdx? (fun p=>decide (p.node=o)) with
 | some k=>exact⟨k,rfl⟩
 | none =>
  have h1:=List.findIdx?_eq_none_iff.1 hf
  have h2:=h1 q (List.mem_of_find?_eq_some hp)
  have h3:=List.find?_some hp
  rw[h3] at h2;cases h2
noncomputable def ai.fO (a b:ai) (q:cK):ai:=if a.s.af.aB<b.s.af.aB then b.gD else if q.next≤b.aZ then b.fA q else b
theorem aa2 {a b:ai} {q:cK} {am:Int} (h:cp c (ai.fO a b q).s):cp c (ai.after a b q am).s:=by
 have e:ai.after a b q am=if a.s.eW=am∧q.cA=(ai.fO a b q).aZ then (ai.fO a b q).post { az.zero with ao:=9,to:=am } else ai.fO a b q:=rfl
 rw[e]
 generalize ai.fO a b q=z at h
 split<;>exact h
theorem acy {m:az} (h:cp c n.s) (hm:vR d m):cp c (n.kM m).s:=by
 by_cases bW:n.s.aO≠4∨n.gu m.am=none∨n.aZ<m.index
 rw[y8 bW];exact h
 have h0:n.s.aO=4:=Classical.byContradiction fun z=>bW (.inl z)
 have h2:¬ n.aZ<m.index:=fun z=>bW (.inr (.inr z))
 obtain⟨q,hq⟩:∃ q,n.gu m.am=some q:=by
  cases hp:n.gu m.am with
  | none=>exact absurd (.inr (.inl hp)) bW
  | some q=>exact⟨q,rfl⟩
 obtain⟨k,eG⟩:=H7 hq
 have hqm:Lw.aq .u64 q.cA:=h.vy q (List.mem_of_find?_eq_some hq)
 by_cases h3:m.bT=true
 rw[y9 h0 hq h2 h3 eG _ rfl]
 exact MW (Ua h hqm)
 rw[AY h0 hq h2 h3 eG]
 have hu:cp c (n.db k (q.up m.index)).count.s:=T9 (Ua h (by
  have h5:=hm.index
  simp only[cK.up]
  rw[Int.max_def];split<;>assumption))
 split
 exact hu
 refine aa2 ?_
 unfold ai.fO
 split
 exact MZ hu
 split
 exact MW hu
 exact hu
theorem acA {s:gE} (h:cp c n.s) (hc:c≤1099511627776) (h1:Lw.aq .u64 s.index) (h2:Lw.aq .u64 s.ab) (h3:s.data.length≤c) (h4:s.aJ.jU c) (h5:s.index<eo):cp c (n.dY s).s:=by
 have hx:=h.ah.pD hc
 unfold ai.dY
 dsimp only
 split
 rename_i j hj
 have hf:=List.findIdx?_eq_some_iff_getElem.1 hj
 obtain⟨re,rf,_⟩:=hf
 have r_:(n.s.ah.entries[j]).index=s.index:=(of_decide_eq_true rf).1
 have VP:=hx j _ (List.getElem?_eq_getElem re)
 exact { h with
  aB:=h1
  ah:=⟨h1,h2,h4,h3,fun e he=>h.ah.entries e (List.mem_of_mem_drop he),Nat.le_trans (by simp only[List.length_drop];omega) h.ah.count,h5,fun k e hk=>by
   simp only[List.getElem?_drop] at hk
   have:=hx _ e hk
   have hz:=(List.getElem?_eq_some_iff.1 hk).1
   have Vk:=h.ah.count
   simp only[Lw.aq,eo] at h1 h5
   rw[Fw (by simp only;omega) (by simp only;omega)]
   simp only
   omega⟩
  Rb:=by simp[Lw.aq,fG.zero],Re:=by simp[Lw.aq,fG.zero],part:=Nat.zero_le _ }
 exact { h with
  aB:=h1
  ah:=⟨h1,h2,h4,h3,fun e he=>(by cases he),Nat.zero_le _,h5,fun k e hk=>by simp at hk⟩
  Rb:=by simp[Lw.aq,fG.zero],Re:=by simp[Lw.aq,fG.zero],part:=Nat.zero_le _ }
theorem acv {m:az} (h:cp c n.s) (hm:vR d m) (hc:c+d≤1099511627776) (Ed:m.index<eo):cp (c+d) (n.lR m).s:=by
 have hw:=(Jo (f:=m.am) h).mono (Nat.le_add_right c d)
 by_cases h0:n.s.aO=4∨eg m.aJ≠0∨n.s.af.ab<m.cn
 rw[yW h0];exact h.mono (Nat.le_add_right c d)
 by_cases h1:m.index≤(n.calm m.am).s.af.aB
 rw[AE h0 h1];exact hw
 have hl:=Y1 (n.calm m.am).s.part m
 have hi:=Lt (n.calm m.am).s.part m
 obtain⟨T,hT⟩:∃ T,T=mb (n.calm m.am).s.part m:=⟨_,rfl⟩
 rw[←hT] at hl hi
 have h4:=(Jo (f:=m.am) h).part
 have h5:=hm.data
 by_cases h2:T.2=false
 rw[AF h0 h1 hT.symm h2]
 exact { hw with Rb:=by show Lw.aq .u64 T.1.index;rw[hi.1];exact hm.index,Re:=by show Lw.aq .u64 T.1.ab;rw[hi.2];exact hm.cn,part:=by show T.1.data.length≤_;omega }
 rw[yV h0 h1 hT.symm h2]
 refine acA hw hc ?_ ?_ ?_ ?_ ?_
 show Lw.aq .u64 T.1.index;rw[hi.1];exact hm.index
 show Lw.aq .u64 T.1.ab;rw[hi.2];exact hm.cn
 show T.1.data.length≤_;omega
 exact hm.aJ.mono (by omega)
 show T.1.index<eo;rw[hi.1];exact Ed
theorem acw {m:az} (h:cp c n.s):cp c (n.oT m).s:=by
 unfold ai.oT
 split
 exact h
 split
 rw[ai.Ra];exact h
 exact h
theorem acz {m:az} (h:cp c n.s) (hm:vR d m) (hc:c+d≤1099511627776) (Ed:m.index<eo):cp (c+d+3) (n.dW m).s:=by
 unfold ai.dW
 split
 exact (acG h hm.am).mono (by omega)
 split
 exact (acH h).mono (by omega)
 split
 exact (acx h hm hc).mono (by omega)
 split
 exact (acy h hm).mono (by omega)
 split
 exact (acv h hm hc Ed).mono (by omega)
 split
 exact (acw h).mono (by omega)
 unfold ai.qb
 split
 exact (M0 h).mono (by omega)
 exact h.mono (by omega)
theorem acC {m:az} (h:cp c n.s) (hm:vR d m) (hc:c+d≤1099511627776):cp (c+d+3) (n.iQ m).s:=by
 by_cases h0:n.nK m
 rw[tQ h0];exact h.mono (by omega)
 by_cases h1:m.ao=1
 rw[EU h0 h1];exact h.mono (by omega)
 by_cases h2:m.ao=2
 rw[EV h0 h2];exact (acD h hm.ab).mono (by omega)
 by_cases h3:m.ao<3∨9<m.ao
 rw[EW h0 h1 h2 h3];exact h.mono (by omega)
 have hf:cp c (n.gC m).s:=by
  unfold ai.gC
  split
  exact DH h hm.ab
  exact h
 by_cases h4:m.ab<(n.gC m).s.af.ab
 rw[CC h0 h1 h2 h3 h4];exact (acB hf).mono (by omega)
 rw[CE h0 h1 h2 h3 h4];exact acz hf hm hc (Classical.byContradiction fun z=>h0 (.inr (.inr (.inr (.inr (.inr (.inl (by omega))))))))
structure vQ (d:Nat) (i:ez):Prop where
 cr:vR d i.cr
 data:i.data.length≤d
theorem Jn {i:ez} (h:cp c n.s) (hi:vQ d i) (hc:c+d≤1099511627776):cp (c+d+3) (n.fz i).1.s:=by
 unfold ai.fz
 split
 exact (acE h).mono (by omega)
 split
 exact acC h hi.cr hc
 split
 exact (acu (h.mono (Nat.le_add_right c d)) (by have:=hi.data;omega)).mono (by omega)
 exact h.mono (by omega)
theorem M3 {r:aU} {i:ez} (h:cp c r) (hi:vQ d i) (hc:c+d≤1099511627776):cp (c+d+3) (bI r i).1:=by
 by_cases he:((dA r).fz i).2≠0
 rw[uf he];exact h.mono (by omega)
 rw[sQ he];exact Jn (n:=dA r) h hi hc
theorem aY.jU.bL {x:aY} (h:x.jU c) (hc:c≤1073741824):x.bL:=⟨Nat.le_trans h.1 hc,Nat.le_trans h.2 hc⟩
theorem lL.bL {l:br} (h:lL c l) (hc:c≤1073741824):l.bL :=
 ⟨h.aJ.bL hc,Nat.le_trans h.data hc,fun e he=>⟨Nat.le_trans (h.entries e he).2.2.1 hc,(h.entries e he).2.2.2.bL hc⟩,Nat.le_trans h.count (by omega)⟩
theorem vR.bL {m:az} (h:vR d m) (hd:d≤1073741824):m.bL:=⟨fun e he=>⟨Nat.le_trans (h.entries e he).2.2.1 hd,(h.entries e he).2.2.2.bL hd⟩,Nat.le_trans h.count hd,h.aJ.bL hd,Nat.le_trans h.data hd⟩
theorem AV {r:aU} {i:ez} (h:cp c r) (hi:vQ d i) (hc:c+d+3≤1073741824):(dA r).FN i:=by
 have h1:=h.ah.count
 have h2:=h.aK
 have h3:=h.cB
 have h4:=hi.cr.count
 have h5:=hi.cr.data
 have h6:=h.part
 have h7:=hi.data
 refine⟨⟨⟨h.ah.bL (by omega),?_,?_,Nat.zero_le _,?_⟩,?_,?_,?_,hi.cr.bL (by omega)⟩,?_,(T7 (n:=dA r) h _ _).bL (by omega)⟩
 show r.ah.entries.length+1≤_;omega
 show r.aK.length≤_;omega
 show 0+1≤1099511627776;omega
 show r.cB.length≤_;omega
 show r.ah.entries.length+_≤_;omega
 show r.part.data.length+_≤_;omega
 omega
end
end Go.Lw
namespace Go.Lw
open Go.Proofs
attribute [local irreducible] RL RA
theorem DB (e:aA):∀ l:List aA,jB (l++[e])=if e.ao=3 then some (e.aJ,e.index) else jB l
 | []=>by simp only[List.nil_append,jB]
 | x::l=>by
  simp only[List.cons_append,jB,DB e l]
  by_cases hk:e.ao=3
  simp only[if_pos hk]
  simp only[if_neg hk]
def Fq (l:br) (upto:Int):br:=⟨l.aF,l.entries.filter fun e=>decide (e.index≤upto)⟩
theorem akC {l:br} {upto:Int} (h:l.bL):(Fq l upto).bL :=
 ⟨h.1,h.2.1,fun e he=>h.2.2.1 e (List.mem_filter.1 he).1,Nat.le_trans (List.length_filter_le _ _) h.2.2.2⟩
theorem akB {l:br} {upto:Int} (h:∀ e∈l.entries,e.index≤upto):Fq l upto=l:=by
 unfold Fq
 rw[List.filter_eq_self.2 fun e he=>by simpa using h e he]
theorem acg {l:List aA} {upto:Int} {k:Nat} (hk:k<l.length) (h:l[k].index≤upto):((l.take (k+1)).filter fun e=>decide (e.index≤upto))=((l.take k).filter fun e=>decide (e.index≤upto))++[l[k]]:=by
 rw[List.take_succ_eq_append_getElem hk,List.filter_append];simp[h]
theorem ach {l:List aA} {upto:Int} {k:Nat} (hk:k<l.length) (h:¬ l[k].index≤upto):((l.take (k+1)).filter fun e=>decide (e.index≤upto))=((l.take k).filter fun e=>decide (e.index≤upto)):=by
 rw[List.take_succ_eq_append_getElem hk,List.filter_append];simp[h]
section
variable {w:World} {s:aj} {os:List aj}
theorem Me {l:br} {h:Hd} (hg:ak w s os) (hl:d_ s s l h) :
  Calls Tryz.prog 39 #[gY l h] w (aQ w s os fun q=>q = .tuple #[u64 (bX l).1,u64 (bX l).2]):=by
 have hm:=hl.entries.gL
 simp only[maxLen] at hm
 refine enter (l:=[gY l h]) Tryz.func39 rfl Tryz.ntmps39 rfl ?_
 refine go 3 ?_
 rintro b1 w1 Q1 aH aN cz
 refine go 12 ?_
 refine CW.cond rfl (fun h8=>?_) (fun h8=>?_)
 have h0:l.entries=[]:=by simpa using h8
 refine go 1 ?_
 have aS:=aH.drew
 refine CW.dw [1,3,5,7,9,11,12,14] (fun w=>ay b1 _ w∧True) ?_
 refine go 9 ?_
 refine CW.ret (nC ?_)
 exact aQ.mq (aS.drop) (by simp only[bX,h0,List.getLast?_nil];rfl)
 have h0:0<l.entries.length:=List.length_pos_iff.2 (by simpa using h8)
 refine go 9 ?_
 refine RL.dX rfl rfl rfl rfl de.out rfl rfl hl.entries (by omega) (by omega) ?_
 rintro q vs eH hH ⟨ea,ec,ea1,ec1,ea2,ec2,rfl,er1,er2,er3,eh1,eh2,eh3⟩
 refine RL.gX (j:=0) (us:=_) rfl rfl rfl rfl nv.out rfl (hH) (aH.sh) rfl rfl ?_
 refine go 1 ?_
 rintro b3 w3 Q3 aP bw ks
 refine go 2 ?_
 rintro w4 Q4 bp bJ o3
 refine go 3 ?_
 have bh:=bp.drew
 refine CW.dw [1,3,5,7,8,10] (fun w=>ay b3 _ w∧True) ?_
 refine go 7 ?_
 refine CW.ret (nC ?_)
 have hz:l.entries.getLast?=some l.entries[((l.entries.length:Int)-1).toNat]:=by rw[List.getLast?_eq_getElem?,List.getElem?_eq_getElem (by omega)];congr 2;omega
 exact aQ.mq ((bh.drop).drop) (by simp only[bX,hz];rfl)
theorem aaO {l:br} {h:Hd} {upto:Int} (hg:ak w s os) (hl:d_ s s l h) (hS:l.bL) :
  Calls Tryz.prog 48 #[gY l h,u64 upto] w (aw w s os fun s' _ q=>∃ vs,q = .tuple #[.agg vs.toArray,u64 (ce (Fq l upto)).2]∧fH s' vs (ce (Fq l upto)).1):=by
 have bV:=hS.2.2.2
 have dr:=vY (akC (upto:=upto) hS)
 refine enter (l:=[gY l h,u64 upto]) Tryz.func48 rfl Tryz.ntmps48 rfl ?_
 refine go 3 ?_
 rintro b6 w6 Q6 bx bM mn
 refine go 2 ?_
 rintro b7 w7 Q7 bO cj qu
 refine go 9 ?_
 rintro b8 w8 Q8 bD cM ra
 refine go 2 ?_
 rintro w9 Q9 bA cu rb
 refine go 12 ?_
 refine CW.loop (σ:=Nat) (fun j E w'=>∃ Q va vc la lc,∃ k:Nat,∃ cur:aY × Int,ak w' s (Q::Q7::Q6::os)∧ar w w'∧E=[(1,u64 upto),(2,ptr b6),(4,ptr b7),(6,ptr b8),(7,u64 cur.2),(8,i64 k)]∧k+j=l.entries.length∧cur=(jB (l.entries.take k |>.filter fun e=>decide (e.index≤upto))).getD (l.aF.aJ,0)∧Q b8=some (.cells #[.slice va cur.1.av.length vc,.slice la cur.1.aD.length lc] 27 (0,0))∧fH s [.slice va cur.1.av.length vc,.slice la cur.1.aD.length lc] cur.1) (fun j=>j) l.entries.length [(1,u64 upto),(2,ptr b6),(4,ptr b7),(6,ptr b8),(7,u64 0),(8,i64 0)] ⟨rfl,rfl,rfl,rfl,rfl,rfl,trivial⟩ ⟨_,_,_,_,_,0,(l.aF.aJ,0),(((bA.ae 2 rfl).ae 2 rfl).ae 2 rfl),(bM.trans (cj.trans (cM.trans cu))),rfl,by omega,rfl,rb,hl.aJ⟩ ?_
 rintro j E wL ⟨QL,va,vc,la,lc,k,cur,cd,cQ,rfl,hk,JT,UQ,Ny⟩
 refine go 9 ?_
 refine CW.cond rfl (fun mH=>?_) (fun mH=>?_)
 have be:k<l.entries.length:=by have:=bU mH;omega
 have uV:=acg (upto:=upto) be
 have Vu:=ach (upto:=upto) be
 refine go 8 ?_
 refine RL.dX rfl rfl rfl rfl de.out rfl rfl hl.entries (by omega) (by omega) ?_
 rintro q vs eH hH ⟨ea,ec,ea1,ec1,ea2,ec2,rfl,er1,er2,er3,eh1,eh2,eh3⟩
 refine go 1 ?_
 refine RL.load (j:=2) rfl rfl rfl rfl Zj.out rfl (hH) (cd.sh) rfl ?_
 refine go 2 ?_
 refine RL.part 26 rfl (fun il=>?_) (fun il=>?_)
 refine go 3 ?_
 refine RL.dX rfl rfl rfl rfl de.out rfl rfl hl.entries (by omega) (by omega) ?_
 rintro q2 vs2 oE eS ⟨fa,fc,fa1,fc1,fa2,fc2,rfl,fr1,fr2,fr3,fh1,fh2,fh3⟩
 refine go 1 ?_
 refine RL.load (j:=0) rfl rfl rfl rfl aV.out rfl (eS) (cd.sh) rfl ?_
 refine go 4 ?_
 refine CW.cond rfl (fun pN=>?_) (fun pN=>?_)
 refine go 5 ?_
 refine RL.dX rfl rfl rfl rfl de.out rfl rfl hl.entries (by omega) (by omega) ?_
 rintro q3 vs3 HL pP ⟨ga,gc,ga1,gc1,ga2,gc2,rfl,gr1,gr2,gr3,gh1,gh2,gh3⟩
 refine go 1 ?_
 refine RL.gX (j:=4) (us:=[.slice ga1 l.entries[k].aJ.av.length gc1,.slice ga2 l.entries[k].aJ.aD.length gc2]) rfl rfl rfl rfl iR.out rfl (pP) (cd.sh) rfl rfl ?_
 refine go 1 ?_
 rintro eX mE bj cm fS
 refine go 6 ?_
 refine RL.dX rfl rfl rfl rfl de.out rfl rfl hl.entries (by omega) (by omega) ?_
 rintro q4 vs4 Kt uI ⟨ka,kc,ka1,kc1,ka2,kc2,rfl,kr1,kr2,kr3,kh1,kh2,kh3⟩
 refine go 1 ?_
 refine RL.load (j:=0) rfl rfl rfl rfl aV.out rfl (uI) (bj.sh) rfl ?_
 refine go 7 ?_
 cases j with
 | zero=>omega
 | succ j=>exact fun ac ha=>⟨j,[(1,u64 upto),(2,ptr b6),(4,ptr b7),(6,ptr b8),(7,u64 l.entries[k].index),(8,i64 ((k:Int)+1))],ha.sub ⟨rfl,rfl,rfl,rfl,rfl,rfl,trivial⟩,⟨_,ga1,gc1,ga2,gc2,k+1,(l.entries[k].aJ,l.entries[k].index),bj,(cQ.trans cm),rfl,by omega,by rw[uV (bU pN),DB,if_pos (show l.entries[k].ao=3 by simpa using il)];rfl,fS,⟨_,_,_,_,rfl,gh2,gh3⟩⟩,Nat.lt_succ_self j⟩
 refine go 6 ?_
 cases j with
 | zero=>omega
 | succ j=>exact fun ac ha=>⟨j,[(1,u64 upto),(2,ptr b6),(4,ptr b7),(6,ptr b8),(7,u64 cur.2),(8,i64 ((k:Int)+1))],ha.sub ⟨rfl,rfl,rfl,rfl,rfl,rfl,trivial⟩,⟨_,va,vc,la,lc,k+1,cur,cd,cQ,rfl,by omega,by rw[Vu (ct pN)];exact JT,UQ,Ny⟩,Nat.lt_succ_self j⟩
 refine go 17 ?_
 cases j with
 | zero=>omega
 | succ j=>exact fun ac ha=>⟨j,[(1,u64 upto),(2,ptr b6),(4,ptr b7),(6,ptr b8),(7,u64 cur.2),(8,i64 ((k:Int)+1))],ha.sub ⟨rfl,rfl,rfl,rfl,rfl,rfl,trivial⟩,⟨_,va,vc,la,lc,k+1,cur,cd,cQ,rfl,by omega,(by by_cases hi:l.entries[k].index≤upto;rw[uV hi,DB,if_neg (show ¬ l.entries[k].ao=3 by simpa using il)];exact JT;rw[Vu hi];exact JT),UQ,Ny⟩,Nat.lt_succ_self j⟩
 have cv:k=l.entries.length:=by have:=ct mH;omega
 have wj:cur=ce (Fq l upto):=by rw[JT,cv,List.take_length];rfl
 refine go 5 ?_
 refine zc (IV cd Ny (by rw[wj];exact dr.ic)) ?_
 rintro uh mA B11 iS dy cy dH ⟨us49,rfl,UZ⟩
 have cy:=cy.drop
 rw[wj] at UZ
 obtain⟨ua,uc,ub,ud,rfl,HI,yl⟩:=UZ
 refine go 3 ?_
 rintro jA me cw dK ml
 refine go 3 ?_
 refine CW.ret (ret (vs:=[_,_]) ⟨_,_,_,rfl,rfl,zl ml,_,_,rfl,rfl,rfl⟩ ?_)
 exact aw.mq (((cw.drop).drop).drop).nil ⟨_,by rw[wj];rfl,⟨ua,uc,ub,ud,rfl,HI,yl⟩⟩
theorem aaP {l:br} {h:Hd} {upto:Int} (hg:ak w s os) (hl:d_ s s l h) (hS:l.bL) (_:aq .u64 upto) (cg:∀ e∈l.entries,e.index≤upto) :
  Calls Tryz.prog 48 #[gY l h,u64 upto] w (aw w s os fun s' _ q=>∃ vs,q = .tuple #[.agg vs.toArray,u64 (ce l).2]∧fH s' vs (ce l).1):=by
 have:=aaO (upto:=upto) hg hl hS
 rwa[akB cg] at this
theorem SC {l:br} {h:Hd} (hg:ak w s os) (hl:d_ s s l h) (hS:l.bL) (cg:∀ e∈l.entries,e.index≤(bX l).1) :
  Calls Tryz.prog 20 #[gY l h] w (aw w s os fun s' _ q=>∃ vs,q = .tuple #[.agg vs.toArray,u64 (ce l).2]∧fH s' vs (ce l).1):=by
 refine enter (l:=[gY l h]) Tryz.func20 rfl Tryz.ntmps20 rfl ?_
 refine go 3 ?_
 rintro oP ji m7 dd eh nQ
 refine go 2 ?_
 rintro te nw rK ck g_ tt
 refine go 7 ?_
 refine zw (Me ck hl) ?_
 rintro yD n_ dt iW rfl
 refine go 12 ?_
 refine zc (aaP dt hl hS hl.Cz.1 cg) ?_
 rintro w_ Ih B16 md xQ eC ie ⟨vs13,rfl,adi⟩
 have eC:=eC.drop
 obtain⟨ua,uc,ub,ud,rfl,HI,yl⟩:=adi
 refine go 4 ?_
 rintro ny qn eZ hY nb
 refine go 3 ?_
 refine CW.ret (ret (vs:=[_,_]) ⟨_,_,_,rfl,rfl,zl nb,_,_,rfl,rfl,rfl⟩ ?_)
 exact aw.mq ((eZ.drop).drop).nil ⟨_,rfl,⟨ua,uc,ub,ud,rfl,HI,yl⟩⟩
end
end Go.Lw
namespace Go.Lw
structure fP (c:Nat) (r:aU):Prop where
 run:fx r.ah.aF.index r.ah.aF.ab r.ah.entries=true
 bt:r.ah.aF.ab≤r.af.ab
 ff:r.ah.aF.index≤r.af.aB
 xO:r.af.aB≤(bX r.ah).1
 lt:(bX r.ah).2≤r.af.ab
 tb:r.af.ab≤eo+c
 aT:0≤r.af.aT∧r.af.aT≤7
 aO:1≤r.aO∧r.aO≤4
 id:1≤r.id∧r.id≤7
 cI:3≤r.aO→1≤r.af.ab
 t0:0≤r.af.ab
structure kH (r q:aU):Prop where
 ab:r.af.ab≤q.af.ab
 aB:r.af.aB≤q.af.aB
 aT:q.af.ab=r.af.ab→r.af.aT≠0→q.af.aT=r.af.aT
 aF:r.ah.aF.index≤q.ah.aF.index
 cR:∀ e∈r.ah.entries,e.index≤r.af.aB→e∈q.ah.entries∨e.index<q.ah.aF.index
theorem kH.refl (r:aU):kH r r:=⟨Int.le_refl _,Int.le_refl _,fun _ _=>rfl,Int.le_refl _,fun _ he _=> .inl he⟩
theorem kH.trans {r q p:aU} (h:kH r q) (k:kH q p):kH r p :=
 ⟨Int.le_trans h.ab k.ab,Int.le_trans h.aB k.aB,fun ht hv=>by
  have h1:=h.ab;have h2:=k.ab
  have h3:=h.aT (by omega) hv
  exact (k.aT (by omega) (by rw[h3];exact hv)).trans h3,Int.le_trans h.aF k.aF,fun e he hc=>by
  rcases h.cR e he hc with h1 | h1
  exact k.cR e h1 (Int.le_trans hc h.aB)
  exact .inr (Int.lt_of_lt_of_le h1 k.aF)⟩
theorem fP.mono {c d:Nat} {r:aU} (h:fP c r) (hd:c≤d):fP d r:={ h with tb:=by have:=h.tb;omega }
section
variable {c d:Nat} {n:ai}
def cT (d:Nat) (r q:aU):Prop:=fP d q∧kH r q
theorem cT.lJ {r:aU} (h:fP c r):cT c r r:=⟨h,kH.refl r⟩
theorem cT.mono {r q:aU} (h:cT c r q) (hd:c≤d):cT d r q:=⟨h.1.mono hd,h.2⟩
theorem Ug {t l:Int} (h:fP c n.s) (ht:t≤eo):cT c n.s (n.follow t l).s:=by
 have h0:=h.t0
 unfold ai.follow
 by_cases hc:n.s.af.ab<t
 simp only[if_pos hc]
 refine⟨⟨h.run,Int.le_trans h.bt (Int.le_of_lt hc),h.ff,h.xO,Int.le_trans h.lt (Int.le_of_lt hc),by dsimp only;omega,by dsimp only;omega,by dsimp only;omega,h.id,fun z=>by dsimp only at z;omega,by dsimp only;omega⟩,⟨Int.le_of_lt hc,Int.le_refl _,fun he=>?_,Int.le_refl _,fun _ he _=> .inl he⟩⟩
 dsimp only at he;omega
 simp only[if_neg hc]
 exact⟨{ h with aO:=by dsimp only;omega,cI:=fun z=>by dsimp only at z;omega },⟨Int.le_refl _,Int.le_refl _,fun _ _=>rfl,Int.le_refl _,fun _ he _=> .inl he⟩⟩
theorem Ud {am:Int} {dZ:Bool} (h:fP c n.s):cT c n.s (n.jm am dZ).s:=⟨{ h with },{ kH.refl n.s with }⟩
theorem Ui {aO:Int} (h:fP c n.s) (hr:1≤aO∧aO≤4) (hl:3≤aO→1≤n.s.af.ab):cT c n.s (n.dM aO).s:=⟨{ h with aO:=hr,cI:=hl },{ kH.refl n.s with }⟩
theorem M_ {x:Int} (h:fP c n.s):cT c n.s (n.cx x).s:=⟨{ h with },{ kH.refl n.s with }⟩
theorem K9:∀ {l m:List aA} {i t:Int},fx i t l=true→fx ((l.getLast?.map (·.index)).getD i) ((l.getLast?.map (·.ab)).getD t) m=true→fx i t (l++m)=true
 | [],m,i,t,_,h=>by simpa using h
 | e::l,m,i,t,h,k=>by
  simp only[fx,Bool.and_eq_true] at h
  simp only[List.cons_append,fx,Bool.and_eq_true]
  refine⟨h.1,K9 h.2 ?_⟩
  cases l with
  | nil=>simpa using k
  | cons x l =>
   obtain⟨z,hz⟩:∃ z,(x::l).getLast?=some z:=⟨_,List.getLast?_cons⟩
   rw[List.getLast?_cons_cons,hz] at k
   rw[hz]
   exact k
theorem Qx (l:br):bX l=((l.entries.getLast?.map (·.index)).getD l.aF.index,(l.entries.getLast?.map (·.ab)).getD l.aF.ab):=by
 unfold bX
 cases l.entries.getLast?<;>rfl
theorem Y6 {l:br} {i:Int} (h:(cE l i).1≠0):(cE l i).2=true:=by
 unfold cE at h ⊢
 split
 rfl
 rename_i hi
 rw[if_neg hi] at h
 split
 rename_i e he
 rw[he] at h
 simp only at h
 split
 rfl
 rename_i hz;rw[if_neg hz] at h;exact absurd rfl h
 rename_i he
 rw[he] at h;exact absurd rfl h
theorem fP.pD {r:aU} (h:fP c r):lA r.ah:=fun k e hk=>sP h.run k e hk
theorem M9 (h:fP c n.s) (ht:1≤n.s.af.ab):cT c n.s n.count.s:=by
 by_cases hs:n.b_≤n.s.af.aB∨(cE n.s.ah n.b_).1≠n.s.af.ab
 rw[yY hs];exact cT.lJ h
 rw[yX hs]
 have h1:n.s.af.aB<n.b_:=by omega
 have h2:(cE n.s.ah n.b_).1=n.s.af.ab:=Classical.byContradiction fun z=>hs (.inr z)
 have h3:=h.pD.ab (Y6 (l:=n.s.ah) (i:=n.b_) (by omega))
 have h4:=h.pD.aZ
 have hw:cT c n.s (n.lz n.b_).s:=⟨{ h with ff:=by have:=h.ff;show n.s.ah.aF.index≤n.b_;omega,xO:=by show n.b_≤(bX n.s.ah).1;omega },⟨Int.le_refl _,Int.le_of_lt h1,fun _ _=>rfl,Int.le_refl _,fun _ he _=> .inl he⟩⟩
 split
 refine⟨?_,?_⟩
 unfold ai.follow
 simp only[show ¬ (n.lz n.b_).s.af.ab<n.s.af.ab from Int.lt_irrefl _,if_false]
 exact { hw.1 with aO:=by dsimp only;omega,cI:=fun z=>by dsimp only at z;omega }
 unfold ai.follow
 simp only[show ¬ (n.lz n.b_).s.af.ab<n.s.af.ab from Int.lt_irrefl _,if_false]
 exact { hw.2 with }
 exact hw
theorem Nb {r:aU} (h:cT d r n.s):cT d r n.gD.s:=by rw[Lq];exact h
theorem ac5 {e:aA} (h:fP c n.s) (hf:cp d n.s) (hd:d≤1099511627776) (hk:sx e=true) (hc:c≤1099511627776):cT c n.s (n.fE { e with index:=bF n.aZ,ab:=n.s.af.ab }).s:=by
 have hl:=h.pD.aZ
 have Vk:=hf.ah.count
 have Ep:=hf.ah.ff
 have eG:=hf.ah.index
 have Qc:=h.tb
 simp only[aq,eo] at Ep eG Qc
 have hu:bF n.aZ=n.aZ+1:=qg (by show 0≤(bX n.s.ah).1;omega) (by show (bX n.s.ah).1<_;omega)
 have qB:bX (n.fE { e with index:=bF n.aZ,ab:=n.s.af.ab }).s.ah=(bF n.aZ,n.s.af.ab):=by
  unfold bX ai.fE;simp
 refine⟨{ h with
  run:=?_
  xO:=by rw[qB,hu];have:=h.xO;show n.s.af.aB≤(bX n.s.ah).1+1;omega
  lt:=by rw[qB];exact Int.le_refl _ },{ kH.refl n.s with cR:=fun x hx _=> .inl (List.mem_append_left _ hx) }⟩
 refine K9 h.run ?_
 have he:=Qx n.s.ah
 have h1:(n.s.ah.entries.getLast?.map (·.index)).getD n.s.ah.aF.index=n.aZ:=by unfold ai.aZ;rw[he]
 have h2:(n.s.ah.entries.getLast?.map (·.ab)).getD n.s.ah.aF.ab=(bX n.s.ah).2:=by rw[he]
 show fx ((n.s.ah.entries.getLast?.map (·.index)).getD n.s.ah.aF.index) ((n.s.ah.entries.getLast?.map (·.ab)).getD n.s.ah.aF.ab) _=true
 rw[h1,h2]
 have h3:=h.lt
 have h4:sx { e with index:=bF n.aZ,ab:=n.s.af.ab }=true:=hk
 simp only[fx,pL,Bool.and_true,Bool.and_eq_true,decide_eq_true_eq]
 exact⟨⟨⟨hu,h3⟩,by simp only[iv];omega⟩,h4⟩
theorem cT.nr {r q p:aU} {c d:Nat} (h:cT c r q) (k:cT d q p):cT d r p:=⟨k.1,h.2.trans k.2⟩
theorem Na {e:aA} (h:fP c n.s) (hf:cp d n.s) (hd:d≤1099511627776) (hc:c≤1099511627776) (hk:sx e=true) (ht:1≤n.s.af.ab):cT c n.s (n.put e).s:=by
 have hz:=ac5 h hf hd hk hc
 have e0:n.put e=((if e.ao=3 then (n.fE { e with index:=bF n.aZ,ab:=n.s.af.ab }).cx (bF n.aZ) else n.fE { e with index:=bF n.aZ,ab:=n.s.af.ab }).count).gD:=rfl
 rw[e0]
 refine Nb ?_
 split
 exact (hz.nr (M_ hz.1)).nr (M9 (M_ (x:=bF n.aZ) hz.1).1 ht)
 exact hz.nr (M9 hz.1 ht)
theorem Uh (h:fP c n.s) (hf:cp d n.s) (hd:d≤1099511627776) (hc:c≤1099511627776) (ht:1≤n.s.af.ab):cT c n.s n.cI.s:=by
 unfold ai.cI
 have h1:cT c n.s (ai.mk { n.s with aO:=4,gq:=n.s.id,cB:=[],bi:=0,fQ:=0,eW:=0,aK:=[] } n.o).s:=⟨{ h with aO:=by dsimp only;omega,cI:=fun _=>ht },{ kH.refl n.s with }⟩
 have h2:=M_ (n:=ai.mk { n.s with aO:=4,gq:=n.s.id,cB:=[],bi:=0,fQ:=0,eW:=0,aK:=[] } n.o) (x:=bF n.aZ) h1.1
 exact (h1.nr h2).nr (Na h2.1 (MX { hf with cB:=Nat.zero_le _,aK:=Nat.zero_le _,vy:=fun p hp=>by cases hp }) hd hc (by decide) ht)
theorem ac6 (h:fP c n.s) (hc:c≤1099511627776):cT (c+1) n.s (ai.mk { n.s with af:={ n.s.af with ab:=bF n.s.af.ab,aT:=n.s.id } } n.o).s∧1≤bF n.s.af.ab:=by
 have Qc:=h.tb
 have h0:=h.t0
 simp only[eo] at Qc
 have hu:bF n.s.af.ab=n.s.af.ab+1:=qg (by omega) (by omega)
 have gK:=h.id
 have hbt:=h.bt
 have be:=h.lt
 refine⟨⟨{ h with bt:=by dsimp only;omega,lt:=by dsimp only;omega,tb:=by dsimp only;simp only[eo];omega,aT:=by dsimp only;omega,cI:=fun _=>by dsimp only;omega,t0:=by dsimp only;omega },⟨by dsimp only;omega,Int.le_refl _,fun he=>by dsimp only at he;omega,Int.le_refl _,fun _ he _=> .inl he⟩⟩,by omega⟩
theorem Nc (h:fP c n.s) (hf:cp d n.s) (hd:d+1≤1099511627776) (hc:c+1≤1099511627776):cT (c+1) n.s n.fp.s:=by
 obtain⟨h1,h2⟩:=ac6 h (by omega)
 obtain⟨m,hm⟩:∃ m:ai,m=ai.mk { n.s with af:={ n.s.af with ab:=bF n.s.af.ab,aT:=n.s.id } } n.o:=⟨_,rfl⟩
 have ht:1≤m.s.af.ab:=by rw[hm];exact h2
 have hfm:cp d m.s:=by rw[hm];exact { hf with ab:=vG _,aT:=hf.id }
 rw[←hm] at h1
 have h3:=Ui (aO:=3) h1.1 (by omega) (fun _=>ht)
 have e:n.fp=if (m.dM 3).gM=1 then (m.dM 3).cI else (m.dM 3).l8 3 (m.dM 3).s.af.ab:=by rw[hm];rfl
 rw[e]
 split
 exact (h1.nr h3).nr (Uh h3.1 (FZ hfm) hd hc ht)
 exact h1.nr h3
theorem acT (h:fP c n.s) (hf:cp d n.s) (hd:d+2≤1099511627776) (hc:c+1≤1099511627776):cT (c+1) n.s n.eD.s:=by
 have h1:=Ui (aO:=2) h (by omega) (fun z=>by omega)
 have e:n.eD=if (n.dM 2).gM=1 then (n.dM 2).fp else (n.dM 2).l8 1 (bF (n.dM 2).s.af.ab):=rfl
 rw[e]
 split
 exact h1.nr (Nc h1.1 (FZ hf) (by omega) hc)
 exact h1.mono (by omega)
theorem ac8 {t:Int} (h:fP c n.s) (hf:cp d n.s) (hd:d+2≤1099511627776) (hc:c+1≤1099511627776):cT (c+1) n.s (n.tick t).s:=by
 obtain⟨e,he⟩:∃ e,e=min (jT n.s.bi) (max n.s.bi 1073741824):=⟨_,rfl⟩
 have hw:cT c n.s (n.dN e).s:=⟨{ h with },{ kH.refl n.s with }⟩
 by_cases hr:n.s.aO≠4
 by_cases hv:max t 1≤e∧n.jz=true
 rw[ai.CY e he hr hv];exact hw.nr (acT hw.1 { hf with } hd hc)
 rw[ai.CZ e he hr hv];exact hw.mono (by omega)
 obtain⟨b,hb⟩:∃ b,b=if max t 1≤e then ((n.dN e).dN 0).mC 0 else n.dN e:=⟨_,rfl⟩
 have hg:cT (c+1) n.s b.s:=by
  rw[hb];split
  exact⟨{ h.mono (Nat.le_add_right c 1) with },{ kH.refl n.s with }⟩
  exact hw.mono (by omega)
 rw[ai.yA e he hr b hb]
 split
 exact Nb (n:=((b.kD (jT b.s.fQ)).kD 0)) ⟨{ hg.1 with },{ hg.2 with }⟩
 exact⟨{ hg.1 with },{ hg.2 with }⟩
theorem ac_ {m:az} (h:fP c n.s) (hm:1≤m.am∧m.am≤7):cT c n.s (n.aT m).s:=by
 unfold ai.aT
 dsimp only
 split
 rename_i hy
 have hv:n.s.af.aT=0∨n.s.af.aT=m.am:=by
  simp only[Bool.and_eq_true,decide_eq_true_eq] at hy;exact hy.1.1
 exact⟨{ h with aT:=by show 0≤m.am∧m.am≤7;omega },{ kH.refl n.s with aT:=fun _ hz=>by show m.am=n.s.af.aT;rcases hv with hv | hv;exact absurd hv hz;exact hv.symm }⟩
 exact cT.lJ h
theorem ada {m:az} (h:fP c n.s) (hf:cp d n.s) (hd:d+1≤1099511627776) (hc:c≤1099511627776):cT (c+1) n.s (n.lK m).s:=by
 have hw:∀ q:ai,cp (d+1) q.s→fP c q.s→3≤q.s.aO→cT (c+1) q.s q.cI.s:=fun q h1 h2 h3=>(Uh h2 h1 hd hc (h2.cI h3)).mono (by omega)
 have hb:=Ud (am:=m.am) (dZ:= !m.bT) h
 have OE:=MV (am:=m.am) (dZ:= !m.bT) hf
 unfold ai.lK
 split
 rename_i hr
 unfold ai.jS
 dsimp only
 split
 exact hb.nr (hw _ OE hb.1 (by show 3≤n.s.aO;omega))
 split
 refine hb.nr (cT.mono (?_:cT c _ _) (by omega))
 unfold ai.follow
 simp only[Int.lt_irrefl,if_false]
 exact⟨{ hb.1 with aO:=by dsimp only;omega,cI:=fun z=>by dsimp only at z;omega },{ kH.refl _ with }⟩
 exact hb.mono (by omega)
 exact (cT.lJ h).mono (by omega)
theorem ac1 {m:az} (h:fP c n.s):cT c n.s (n.j6 m).s:=by
 unfold ai.j6
 split
 exact cT.lJ h
 split<;>exact cT.lJ h
theorem ac9 {to:Int} (h:fP c n.s):cT c n.s (n.nt to).1.s:=by
 unfold ai.nt
 split
 exact cT.lJ h
 split
 exact cT.lJ h
 dsimp only
 split
 exact⟨{ h with },{ kH.refl n.s with }⟩
 rw[ai.DG];exact⟨{ h with },{ kH.refl n.s with }⟩
theorem acU {i:ez} (h:fP c n.s) (hf:cp d n.s) (hd:d≤1099511627776) (hc:c≤1099511627776):cT c n.s (n.gd i).1.s:=by
 unfold ai.gd
 split
 exact cT.lJ h
 rename_i hr
 have h4:n.s.aO=4:=Classical.byContradiction fun z=>hr z
 have ht:=h.cI (by omega)
 split
 exact cT.lJ h
 split
 exact ac9 h
 dsimp only
 split
 split
 exact cT.lJ h
 exact Na (n:=ai.mk n.s { n.o with index:=bF n.aZ,ab:=n.s.af.ab }) h hf hd hc rfl ht
 exact Na (n:=ai.mk n.s { n.o with index:=bF n.aZ,ab:=n.s.af.ab }) h hf hd hc rfl ht
theorem ac4 {m:az} (h:fP c n.s) (hf:cp d n.s) (hd:d+2≤1099511627776) (hc:c+1≤1099511627776) (hm:m.ab≤eo):cT (c+1) n.s (n.kW m).s:=by
 unfold ai.kW
 split
 exact (Ug h hm).mono (by omega)
 split
 have hb:=Ud (am:=m.am) (dZ:= !m.bT) h
 have OE:=MV (am:=m.am) (dZ:= !m.bT) hf
 unfold ai.jS
 dsimp only
 split
 exact hb.nr (Nc hb.1 OE (by omega) hc)
 split
 refine hb.nr (cT.mono (?_:cT c _ _) (by omega))
 unfold ai.follow
 simp only[Int.lt_irrefl,if_false]
 exact⟨{ hb.1 with aO:=by dsimp only;omega,cI:=fun z=>by dsimp only at z;omega },{ kH.refl _ with }⟩
 exact hb.mono (by omega)
 exact (cT.lJ h).mono (by omega)
theorem ac3 (h:fP c n.s) (hf:cp d n.s) (hd:d+1≤1099511627776) (hc:c+1≤1099511627776):cT (c+1) n.s n.qb.s:=by
 unfold ai.qb
 split
 exact Nc h hf hd hc
 exact (cT.lJ h).mono (by omega)
theorem Uf {r:aU} {q:cK} (h:cT d r n.s):cT d r (n.fA q).s:=by rw[ai.DG];exact h
theorem Uj {k:Nat} {q:cK} (h:fP c n.s):cT c n.s (n.db k q).s:=⟨{ h with },{ kH.refl n.s with }⟩
theorem acY {m:az} (h:fP c n.s):cT c n.s (n.kM m).s:=by
 by_cases bW:n.s.aO≠4∨n.gu m.am=none∨n.aZ<m.index
 rw[y8 bW];exact cT.lJ h
 have h0:n.s.aO=4:=Classical.byContradiction fun z=>bW (.inl z)
 have h2:¬ n.aZ<m.index:=fun z=>bW (.inr (.inr z))
 have ht:=h.cI (by omega)
 obtain⟨q,hq⟩:∃ q,n.gu m.am=some q:=by
  cases hp:n.gu m.am with
  | none=>exact absurd (.inr (.inl hp)) bW
  | some q=>exact⟨q,rfl⟩
 obtain⟨k,eG⟩:=H7 hq
 by_cases h3:m.bT=true
 rw[y9 h0 hq h2 h3 eG _ rfl]
 exact Uf (Uj h)
 rw[AY h0 hq h2 h3 eG]
 have hs:=Uj (k:=k) (q:=q.up m.index) h
 have hu:cT c n.s (n.db k (q.up m.index)).count.s:=hs.nr (M9 hs.1 ht)
 split
 exact hu
 have e:(ai.after (n.db k (q.up m.index)) (n.db k (q.up m.index)).count (q.up m.index) m.am).s=(ai.fO (n.db k (q.up m.index)) (n.db k (q.up m.index)).count (q.up m.index)).s:=by
  have e0:∀ a b:ai,∀ q:cK,∀ f:Int,(ai.after a b q f).s=(ai.fO a b q).s:=fun a b q f=>by
   have e:ai.after a b q f=if a.s.eW=f∧q.cA=(ai.fO a b q).aZ then (ai.fO a b q).post { az.zero with ao:=9,to:=f } else ai.fO a b q:=rfl
   rw[e]
   generalize ai.fO a b q=z
   split<;>rfl
  exact e0 _ _ _ _
 rw[e]
 unfold ai.fO
 split
 exact Nb hu
 split
 exact Uf hu
 exact hu
theorem K_:∀ {l:List aA} {i t:Int} (k:Nat) (hk:k<l.length),fx i t l=true→fx l[k].index l[k].ab (l.drop (k+1))=true
 | e::l,i,t,0,_,h=>by
  simp only[fx,Bool.and_eq_true] at h
  simpa using h.2
 | e::l,i,t,k+1,hk,h=>by
  simp only[fx,Bool.and_eq_true] at h
  simpa using K_ k (by simpa using hk) h.2
theorem Rl:∀ {l:List aA} {i t:Int} (k:Nat),fx i t l=true→fx i t (l.take k)=true
 | [],_,_,_,_=>by simp[fx]
 | e::l,i,t,0,_=>by simp[fx]
 | e::l,i,t,k+1,h=>by
  simp only[fx,Bool.and_eq_true] at h
  simp only[List.take_succ_cons,fx,Bool.and_eq_true]
  exact⟨h.1,Rl k h.2⟩
end
end Go.Lw
namespace Go.Lw
open Go.Proofs
attribute [local irreducible] RL RA
section
variable {w:World} {s:aj} {os:List aj}
theorem uA {r:aU} {h:Hd} {i:ez} {y:cG} {da:Option Addr} {dc:Nat} (hg:ak w s os) (hr:fZ s r h) (hi:ux s i y da dc) (hR:cJ (dA r)) (xE:cJ ((dA r).fz i).1) (hb:(dA r).FN i) (p8:r.part.data.length≤70368744177664) :
  Calls Tryz.prog 11 #[.agg (jR r h).toArray,.agg (sw i y da dc).toArray] w (aw w s os fun s' _ q=>∃ h1 h2,q = .tuple #[.agg (jR (bI r i).1 h1).toArray,.agg (H6 (bI r i).2.1 h2).toArray,i64 (bI r i).2.2]∧fZ s' (bI r i).1 h1∧Ap s' (bI r i).2.1 h2):=by
 have hS:r.ah.bL:=hb.1.1.1
 have io:r.cB.length≤68719476736:=hb.1.2.1
 have iO:r.aK.length≤4294967296:=hb.1.1.2.2.1
 refine enter (l:=[.agg (jR r h).toArray,.agg (sw i y da dc).toArray]) Tryz.func11 rfl Tryz.ntmps11 rfl ?_
 refine go 3 ?_
 rintro b1 w1 Q1 aH aN cz
 refine go 2 ?_
 rintro b2 w2 Q2 aS aR gj
 refine go 2 ?_
 rintro b3 w3 Q3 aP bw ks
 refine go 2 ?_
 rintro b4 w4 Q4 bp bJ o3
 refine go 7 ?_
 refine zc (AH bp hr hS io iO p8) ?_
 rintro v5 s5 Q5 w5 dz bh bQ ⟨hh,rfl,hN0⟩
 have hr:=hr.up dz
 have hi:=hi.up dz
 refine go 3 ?_
 rintro p wN QN zy na hbN
 have e2:=aj.rA (r:=QN) (fC.qc zy)
 have ndN:Nd s5 (QN.eN Q5) p { hh with oa:=none,oc:=0,ma:=none,mc:=0 } (dA r):=⟨aj.sD _ _ _ _ hbN,let ⟨a,b,c,d,e,f,g,_,_,_⟩:=hN0;⟨a,b,c,d.mem e2,e.mem e2,f.mem e2,g,aW.nil _ _ _ _ _,aW.nil _ _ _ _ _,Dj.CN _⟩⟩
 have pX:=zy.eN
 obtain⟨AN,hAN⟩:∃ Z,Z=QN.eN Q5:=⟨_,rfl⟩
 rw[←hAN] at ndN pX
 refine go 6 ?_
 refine RL.my rfl rfl rfl rfl rfl rfl ?_
 refine go 14 ?_
 refine CW.cond rfl (fun jC=>?_) (fun jC=>?_)
 obtain⟨fT,eK⟩:vM 35 (dA r) i y da dc p:=aaZ (by simpa using jC) hR hb
 refine go 2 ?_
 refine RL.my rfl rfl rfl rfl rfl rfl ?_
 refine go 7 ?_
 refine RL.ti rfl rfl rfl rfl rfl rfl fT (eK pX ndN hi) ?_
 rintro e6 w6 ⟨v6,s6,A6,rfl,jv,bx,bM,⟨rfl,h6,oG⟩⟩
 have hr:=hr.up jv
 have hi:=hi.up jv
 refine⟨_,rfl,trivial,?_⟩
 refine go 7 ?_
 refine CW.cond rfl (fun jD=>?_) (fun jD=>?_)
 refine go 4 ?_
 refine zc (AH bx hr hS io iO p8) ?_
 rintro v7 s7 B7 w7 jK bO cj ⟨lU,rfl,uJ⟩
 have vC:=oG.up jK
 have hr:=hr.up jK
 have hi:=hi.up jK
 obtain⟨t7,ae3,Ha,afP⟩:=bO.bY
 have bO:ak _ t7 (A6::Q4::Q3::Q2::Q1::os):=ae3
 have oH:=vC.up Ha
 have hr:=hr.up Ha
 have hi:=hi.up Ha
 have eA:=uJ.sK (n:=dA r) hR Ha afP
 refine go 4 ?_
 rintro eX mE bj cm fS
 refine go 2 ?_
 rintro iS rJ cy dH rX
 refine go 3 ?_
 refine CW.ret (ret (vs:=[_,_,_]) ⟨_,_,_,rfl,rfl,zl fS,_,_,_,rfl,rfl,zl rX,_,_,rfl,rfl,rfl⟩ ?_)
 have cc:=uf (r:=r) (i:=i) (by simpa using jD)
 exact aw.mk (dz.trans (jv.trans (jK.trans Ha))) (((((cy.drop).drop).drop).drop).drop).nil (aN.trans (aR.trans (bw.trans (bJ.trans (bQ.trans (na.trans (bM.trans (cj.trans (cm.trans dH))))))))) ⟨lU,lj,by rw[cc];rfl,by rw[cc];exact eA,by rw[cc];exact⟨bm.nil _ _ _ (Nat.zero_le _),bm.nil _ _ _ (Nat.zero_le _)⟩⟩
 refine go 2 ?_
 have cw:=bx.drew
 refine CW.dx [1,3,5,7,9,11,13,15,17,19,21,23] [24] 12 1 (fun w=>ay p _ w∧ay b1 _ w∧True) ?_
 refine go 8 ?_
 refine RL.Fj rfl rfl rfl rfl (by kernel_rfl) rfl rfl (DX ((dA r).fz i).1.s.af r.af) ?_
 refine go 5 ?_
 refine RL.sT (p:=p) (i:=0) (j:=22) cw (oG.cells) (bb.yI oG.au) ?_
 rintro ji vK dd eh lF
 refine go 3 ?_
 have ck:=dd.drew
 refine CW.dw [1,3,5,7,9,11,13,15,16,18,20] (fun w=>ay p _ w∧True) ?_
 refine go 9 ?_
 rintro n_ xj dt iW q_
 refine go 2 ?_
 rintro md vT eC ie qt
 refine go 3 ?_
 refine CW.ret (ret (vs:=[_,_,_]) ⟨_,_,_,rfl,rfl,zl q_,_,_,_,rfl,rfl,zl qt,_,_,rfl,rfl,rfl⟩ ?_)
 have cc:=sQ (r:=r) (i:=i) (by simpa using jD)
 have hz:=((((eC.aE).aE).aE).aE)
 obtain⟨s1,dp,bN,cH⟩:=hz.bY
 exact aw.mk ((dz.trans jv).trans bN) dp.nil (aN.trans (aR.trans (bw.trans (bJ.trans (bQ.trans (na.trans (bM.trans ((ar.drew _).trans (eh.trans ((ar.drew _).trans (iW.trans ie))))))))))) ⟨_,_,by rw[cc];rfl,by rw[cc];exact (lF).au.sK xE bN cH,by rw[cc];exact⟨(lF).qL.ci bg.up bN cH,(lF).aG.ci iH.up bN cH⟩⟩
 have mo:i.ao≠1:=by simpa using jC
 refine go 5 ?_
 refine CW.cond rfl (fun iJ=>?_) (fun iJ=>?_)
 obtain⟨fT,eK⟩:vM 36 (dA r) i y da dc p:=aaY (by simpa using iJ) hR hb
 refine go 2 ?_
 refine RL.my rfl rfl rfl rfl rfl rfl ?_
 refine go 7 ?_
 refine RL.ti rfl rfl rfl rfl rfl rfl fT (eK pX ndN hi) ?_
 rintro e17 ny ⟨C5,CU,Fy,rfl,oC,eZ,hY,⟨rfl,mf,wJ⟩⟩
 have hr:=hr.up oC
 have hi:=hi.up oC
 refine⟨_,rfl,trivial,?_⟩
 refine go 7 ?_
 refine CW.cond rfl (fun jD=>?_) (fun jD=>?_)
 refine go 4 ?_
 refine zc (AH eZ hr hS io iO p8) ?_
 rintro Fr Lc B18 oM u0 fd iC ⟨lU,rfl,uJ⟩
 have H0:=wJ.up u0
 have hr:=hr.up u0
 have hi:=hi.up u0
 obtain⟨t18,aeV,G6,afH⟩:=fd.bY
 have fd:ak _ t18 (Fy::Q4::Q3::Q2::Q1::os):=aeV
 have KL:=H0.up G6
 have hr:=hr.up G6
 have hi:=hi.up G6
 have eA:=uJ.sK (n:=dA r) hR G6 afH
 refine go 4 ?_
 rintro oN Aq fv iX xF
 refine go 2 ?_
 rintro qN vW iL lh rZ
 refine go 3 ?_
 refine CW.ret (ret (vs:=[_,_,_]) ⟨_,_,_,rfl,rfl,zl xF,_,_,_,rfl,rfl,zl rZ,_,_,rfl,rfl,rfl⟩ ?_)
 have cc:=uf (r:=r) (i:=i) (by simpa using jD)
 exact aw.mk (dz.trans (oC.trans (u0.trans G6))) (((((iL.drop).drop).drop).drop).drop).nil (aN.trans (aR.trans (bw.trans (bJ.trans (bQ.trans (na.trans (hY.trans (iC.trans (iX.trans lh))))))))) ⟨lU,lj,by rw[cc];rfl,by rw[cc];exact eA,by rw[cc];exact⟨bm.nil _ _ _ (Nat.zero_le _),bm.nil _ _ _ (Nat.zero_le _)⟩⟩
 refine go 2 ?_
 have iM:=eZ.drew
 refine CW.dx [1,3,5,7,9,11,13,15,17,19,21,23] [24] 12 1 (fun w=>ay p _ w∧ay b1 _ w∧True) ?_
 refine go 8 ?_
 refine RL.Fj rfl rfl rfl rfl (by kernel_rfl) rfl rfl (DX ((dA r).fz i).1.s.af r.af) ?_
 refine go 5 ?_
 refine RL.sT (p:=p) (i:=0) (j:=22) iM (wJ.cells) (bb.yI wJ.au) ?_
 rintro uk IK gB nP H2
 refine go 3 ?_
 have js:=gB.drew
 refine CW.dw [1,3,5,7,9,11,13,15,16,18,20] (fun w=>ay p _ w∧True) ?_
 refine go 9 ?_
 rintro un yP gk mJ wh
 refine go 2 ?_
 rintro rH Di iN mj zp
 refine go 3 ?_
 refine CW.ret (ret (vs:=[_,_,_]) ⟨_,_,_,rfl,rfl,zl wh,_,_,_,rfl,rfl,zl zp,_,_,rfl,rfl,rfl⟩ ?_)
 have cc:=sQ (r:=r) (i:=i) (by simpa using jD)
 have hz:=((((iN.aE).aE).aE).aE)
 obtain⟨s1,dp,bN,cH⟩:=hz.bY
 exact aw.mk ((dz.trans oC).trans bN) dp.nil (aN.trans (aR.trans (bw.trans (bJ.trans (bQ.trans (na.trans (hY.trans ((ar.drew _).trans (nP.trans ((ar.drew _).trans (mJ.trans mj))))))))))) ⟨_,_,by rw[cc];rfl,by rw[cc];exact (H2).au.sK xE bN cH,by rw[cc];exact⟨(H2).qL.ci bg.up bN cH,(H2).aG.ci iH.up bN cH⟩⟩
 have o6:i.ao≠2:=by simpa using iJ
 refine go 6 ?_
 refine CW.cond rfl (fun il=>?_) (fun il=>?_)
 obtain⟨fT,eK⟩:vM 37 (dA r) i y da dc p:=Mm (.inl (by simpa using il)) hR hb
 refine go 4 ?_
 refine RL.my rfl rfl rfl rfl rfl rfl ?_
 refine go 7 ?_
 refine RL.ti rfl rfl rfl rfl rfl rfl fT (eK pX ndN hi) ?_
 rintro e28 vH ⟨v28,s28,IL,rfl,J5,jG,oZ,⟨rfl,oU,tU⟩⟩
 have hr:=hr.up J5
 have hi:=hi.up J5
 refine⟨_,rfl,trivial,?_⟩
 refine go 7 ?_
 refine CW.cond rfl (fun jD=>?_) (fun jD=>?_)
 refine go 4 ?_
 refine zc (AH jG hr hS io iO p8) ?_
 rintro Zr s29 B29 vI G2 i_ pS ⟨lU,rfl,uJ⟩
 have H3:=tU.up G2
 have hr:=hr.up G2
 have hi:=hi.up G2
 obtain⟨t29,aeX,G7,afJ⟩:=i_.bY
 have i_:ak _ t29 (IL::Q4::Q3::Q2::Q1::os):=aeX
 have sG:=H3.up G7
 have hr:=hr.up G7
 have hi:=hi.up G7
 have eA:=uJ.sK (n:=dA r) hR G7 afJ
 refine go 4 ?_
 rintro sW Aw iD ov r6
 refine go 2 ?_
 rintro qi Dl c_ gR xI
 refine go 3 ?_
 refine CW.ret (ret (vs:=[_,_,_]) ⟨_,_,_,rfl,rfl,zl r6,_,_,_,rfl,rfl,zl xI,_,_,rfl,rfl,rfl⟩ ?_)
 have cc:=uf (r:=r) (i:=i) (by simpa using jD)
 exact aw.mk (dz.trans (J5.trans (G2.trans G7))) (((((c_.drop).drop).drop).drop).drop).nil (aN.trans (aR.trans (bw.trans (bJ.trans (bQ.trans (na.trans (oZ.trans (pS.trans (ov.trans gR))))))))) ⟨lU,lj,by rw[cc];rfl,by rw[cc];exact eA,by rw[cc];exact⟨bm.nil _ _ _ (Nat.zero_le _),bm.nil _ _ _ (Nat.zero_le _)⟩⟩
 refine go 2 ?_
 have jt:=jG.drew
 refine CW.dx [1,3,5,7,9,11,13,15,17,19,21,23] [24] 12 1 (fun w=>ay p _ w∧ay b1 _ w∧True) ?_
 refine go 8 ?_
 refine RL.Fj rfl rfl rfl rfl (by kernel_rfl) rfl rfl (DX ((dA r).fz i).1.s.af r.af) ?_
 refine go 5 ?_
 refine RL.sT (p:=p) (i:=0) (j:=22) jt (tU.cells) (bb.yI tU.au) ?_
 rintro uo IO jH ow nZ
 refine go 3 ?_
 have cS:=jH.drew
 refine CW.dw [1,3,5,7,9,11,13,15,16,18,20] (fun w=>ay p _ w∧True) ?_
 refine go 9 ?_
 rintro qj Su dh im N9
 refine go 2 ?_
 rintro Ai L_ mM uP Vb
 refine go 3 ?_
 refine CW.ret (ret (vs:=[_,_,_]) ⟨_,_,_,rfl,rfl,zl N9,_,_,_,rfl,rfl,zl Vb,_,_,rfl,rfl,rfl⟩ ?_)
 have cc:=sQ (r:=r) (i:=i) (by simpa using jD)
 have hz:=((((mM.aE).aE).aE).aE)
 obtain⟨s1,dp,bN,cH⟩:=hz.bY
 exact aw.mk ((dz.trans J5).trans bN) dp.nil (aN.trans (aR.trans (bw.trans (bJ.trans (bQ.trans (na.trans (oZ.trans ((ar.drew _).trans (ow.trans ((ar.drew _).trans (im.trans uP))))))))))) ⟨_,_,by rw[cc];rfl,by rw[cc];exact (nZ).au.sK xE bN cH,by rw[cc];exact⟨(nZ).qL.ci bg.up bN cH,(nZ).aG.ci iH.up bN cH⟩⟩
 have pY:i.ao≠3:=by simpa using il
 refine go 5 ?_
 refine CW.cond rfl (fun il=>?_) (fun il=>?_)
 obtain⟨fT,eK⟩:vM 37 (dA r) i y da dc p:=Mm (.inr (.inl (by simpa using il))) hR hb
 refine go 4 ?_
 refine RL.my rfl rfl rfl rfl rfl rfl ?_
 refine go 7 ?_
 refine RL.ti rfl rfl rfl rfl rfl rfl fT (eK pX ndN hi) ?_
 rintro e39 C7 ⟨ID,Li,LX,rfl,rh,nf,uQ,⟨rfl,nM,vA⟩⟩
 have hr:=hr.up rh
 have hi:=hi.up rh
 refine⟨_,rfl,trivial,?_⟩
 refine go 7 ?_
 refine CW.cond rfl (fun jD=>?_) (fun jD=>?_)
 refine go 4 ?_
 refine zc (AH nf hr hS io iO p8) ?_
 rintro v40 s40 B40 nA J7 en gT ⟨lU,rfl,uJ⟩
 have E4:=vA.up J7
 have hr:=hr.up J7
 have hi:=hi.up J7
 obtain⟨t40,ae0,G8,afM⟩:=en.bY
 have en:ak _ t40 (LX::Q4::Q3::Q2::Q1::os):=ae0
 have CI:=E4.up G8
 have hr:=hr.up G8
 have hi:=hi.up G8
 have eA:=uJ.sK (n:=dA r) hR G8 afM
 refine go 4 ?_
 rintro LG Q43 wl DZ Vd
 refine go 2 ?_
 rintro LH Sw wn D0 JP
 refine go 3 ?_
 refine CW.ret (ret (vs:=[_,_,_]) ⟨_,_,_,rfl,rfl,zl Vd,_,_,_,rfl,rfl,zl JP,_,_,rfl,rfl,rfl⟩ ?_)
 have cc:=uf (r:=r) (i:=i) (by simpa using jD)
 exact aw.mk (dz.trans (rh.trans (J7.trans G8))) (((((wn.drop).drop).drop).drop).drop).nil (aN.trans (aR.trans (bw.trans (bJ.trans (bQ.trans (na.trans (uQ.trans (gT.trans (DZ.trans D0))))))))) ⟨lU,lj,by rw[cc];rfl,by rw[cc];exact eA,by rw[cc];exact⟨bm.nil _ _ _ (Nat.zero_le _),bm.nil _ _ _ (Nat.zero_le _)⟩⟩
 refine go 2 ?_
 have uW:=nf.drew
 refine CW.dx [1,3,5,7,9,11,13,15,17,19,21,23] [24] 12 1 (fun w=>ay p _ w∧ay b1 _ w∧True) ?_
 refine go 8 ?_
 refine RL.Fj rfl rfl rfl rfl (by kernel_rfl) rfl rfl (DX ((dA r).fz i).1.s.af r.af) ?_
 refine go 5 ?_
 refine RL.sT (p:=p) (i:=0) (j:=22) uW (vA.cells) (bb.yI vA.au) ?_
 rintro LJ IP zu Gt sH
 refine go 3 ?_
 have GK:=zu.drew
 refine CW.dw [1,3,5,7,9,11,13,15,16,18,20] (fun w=>ay p _ w∧True) ?_
 refine go 9 ?_
 rintro Zx Q48 BG N0 Oa
 refine go 2 ?_
 rintro RU Q49 BH JM adT
 refine go 3 ?_
 refine CW.ret (ret (vs:=[_,_,_]) ⟨_,_,_,rfl,rfl,zl Oa,_,_,_,rfl,rfl,zl adT,_,_,rfl,rfl,rfl⟩ ?_)
 have cc:=sQ (r:=r) (i:=i) (by simpa using jD)
 have hz:=((((BH.aE).aE).aE).aE)
 obtain⟨s1,dp,bN,cH⟩:=hz.bY
 exact aw.mk ((dz.trans rh).trans bN) dp.nil (aN.trans (aR.trans (bw.trans (bJ.trans (bQ.trans (na.trans (uQ.trans ((ar.drew _).trans (Gt.trans ((ar.drew _).trans (N0.trans JM))))))))))) ⟨_,_,by rw[cc];rfl,by rw[cc];exact (sH).au.sK xE bN cH,by rw[cc];exact⟨(sH).qL.ci bg.up bN cH,(sH).aG.ci iH.up bN cH⟩⟩
 have J3:i.ao≠4:=by simpa using il
 refine go 4 ?_
 refine CW.cond rfl (fun il=>?_) (fun il=>?_)
 obtain⟨fT,eK⟩:vM 37 (dA r) i y da dc p:=Mm (.inr (.inr (by simpa using il))) hR hb
 refine go 2 ?_
 refine RL.my rfl rfl rfl rfl rfl rfl ?_
 refine go 7 ?_
 refine RL.ti rfl rfl rfl rfl rfl rfl fT (eK pX ndN hi) ?_
 rintro e50 RV ⟨v50,s50,IQ,rfl,Eo,zx,Gu,⟨rfl,Us,wP⟩⟩
 have hr:=hr.up Eo
 have hi:=hi.up Eo
 refine⟨_,rfl,trivial,?_⟩
 refine go 7 ?_
 refine CW.cond rfl (fun jD=>?_) (fun jD=>?_)
 refine go 4 ?_
 refine zc (AH zx hr hS io iO p8) ?_
 rintro v51 s51 B51 w51 J9 GL U3 ⟨lU,rfl,uJ⟩
 have KO:=wP.up J9
 have hr:=hr.up J9
 have hi:=hi.up J9
 obtain⟨t51,ae1,G9,afN⟩:=GL.bY
 have GL:ak _ t51 (IQ::Q4::Q3::Q2::Q1::os):=ae1
 have XG:=KO.up G9
 have hr:=hr.up G9
 have hi:=hi.up G9
 have eA:=uJ.sK (n:=dA r) hR G9 afN
 refine go 4 ?_
 rintro w54 Q54 OL U4 adU
 refine go 2 ?_
 rintro Zy Q55 BI N1 Ob
 refine go 3 ?_
 refine CW.ret (ret (vs:=[_,_,_]) ⟨_,_,_,rfl,rfl,zl adU,_,_,_,rfl,rfl,zl Ob,_,_,rfl,rfl,rfl⟩ ?_)
 have cc:=uf (r:=r) (i:=i) (by simpa using jD)
 exact aw.mk (dz.trans (Eo.trans (J9.trans G9))) (((((BI.drop).drop).drop).drop).drop).nil (aN.trans (aR.trans (bw.trans (bJ.trans (bQ.trans (na.trans (Gu.trans (U3.trans (U4.trans N1))))))))) ⟨lU,lj,by rw[cc];rfl,by rw[cc];exact eA,by rw[cc];exact⟨bm.nil _ _ _ (Nat.zero_le _),bm.nil _ _ _ (Nat.zero_le _)⟩⟩
 refine go 2 ?_
 have GM:=zx.drew
 refine CW.dx [1,3,5,7,9,11,13,15,17,19,21,23] [24] 12 1 (fun w=>ay p _ w∧ay b1 _ w∧True) ?_
 refine go 8 ?_
 refine RL.Fj rfl rfl rfl rfl (by kernel_rfl) rfl rfl (DX ((dA r).fz i).1.s.af r.af) ?_
 refine go 5 ?_
 refine RL.sT (p:=p) (i:=0) (j:=22) GM (wP.cells) (bb.yI wP.au) ?_
 rintro Zz R8 GN N2 CK
 refine go 3 ?_
 have D9:=GN.drew
 refine CW.dw [1,3,5,7,9,11,13,15,16,18,20] (fun w=>ay p _ w∧True) ?_
 refine go 9 ?_
 rintro w59 Q59 JY U5 adV
 refine go 2 ?_
 rintro w60 Q60 OM adM adW
 refine go 3 ?_
 refine CW.ret (ret (vs:=[_,_,_]) ⟨_,_,_,rfl,rfl,zl adV,_,_,_,rfl,rfl,zl adW,_,_,rfl,rfl,rfl⟩ ?_)
 have cc:=sQ (r:=r) (i:=i) (by simpa using jD)
 have hz:=((((OM.aE).aE).aE).aE)
 obtain⟨s1,dp,bN,cH⟩:=hz.bY
 exact aw.mk ((dz.trans Eo).trans bN) dp.nil (aN.trans (aR.trans (bw.trans (bJ.trans (bQ.trans (na.trans (Gu.trans ((ar.drew _).trans (N2.trans ((ar.drew _).trans (U5.trans adM))))))))))) ⟨_,_,by rw[cc];rfl,by rw[cc];exact (CK).au.sK xE bN cH,by rw[cc];exact⟨(CK).qL.ci bg.up bN cH,(CK).aG.ci iH.up bN cH⟩⟩
 obtain⟨fT,eK⟩:vM 34 (dA r) i y da dc p:=aa0 ⟨mo,o6,pY,J3,by simpa using il⟩
 refine go 6 ?_
 refine RL.ti rfl rfl rfl rfl rfl rfl fT (eK pX ndN hi) ?_
 rintro e61 w61 ⟨v61,s61,Z9,rfl,J_,ON,N3,⟨rfl,Js,QR⟩⟩
 have hr:=hr.up J_
 have hi:=hi.up J_
 refine⟨_,rfl,trivial,?_⟩
 refine go 7 ?_
 refine CW.cond rfl (fun jD=>?_) (fun jD=>?_)
 refine go 4 ?_
 refine zc (AH ON hr hS io iO p8) ?_
 rintro v62 s62 B62 w62 Ka JZ U6 ⟨lU,rfl,uJ⟩
 have aie:=QR.up Ka
 have hr:=hr.up Ka
 have hi:=hi.up Ka
 obtain⟨t62,ae2,G_,afO⟩:=JZ.bY
 have JZ:ak _ t62 (Z9::Q4::Q3::Q2::Q1::os):=ae2
 have aqh:=aie.up G_
 have hr:=hr.up G_
 have hi:=hi.up G_
 have eA:=uJ.sK (n:=dA r) hR G_ afO
 refine go 4 ?_
 rintro w65 Q65 OO U7 Oc
 refine go 2 ?_
 rintro w66 Q66 OP U8 adX
 refine go 3 ?_
 refine CW.ret (ret (vs:=[_,_,_]) ⟨_,_,_,rfl,rfl,zl Oc,_,_,_,rfl,rfl,zl adX,_,_,rfl,rfl,rfl⟩ ?_)
 have cc:=uf (r:=r) (i:=i) (by simpa using jD)
 exact aw.mk (dz.trans (J_.trans (Ka.trans G_))) (((((OP.drop).drop).drop).drop).drop).nil (aN.trans (aR.trans (bw.trans (bJ.trans (bQ.trans (na.trans (N3.trans (U6.trans (U7.trans U8))))))))) ⟨lU,lj,by rw[cc];rfl,by rw[cc];exact eA,by rw[cc];exact⟨bm.nil _ _ _ (Nat.zero_le _),bm.nil _ _ _ (Nat.zero_le _)⟩⟩
 refine go 2 ?_
 have OQ:=ON.drew
 refine CW.dx [1,3,5,7,9,11,13,15,17,19,21,23] [24] 12 1 (fun w=>ay p _ w∧ay b1 _ w∧True) ?_
 refine go 8 ?_
 refine RL.Fj rfl rfl rfl rfl (by kernel_rfl) rfl rfl (DX ((dA r).fz i).1.s.af r.af) ?_
 refine go 5 ?_
 refine RL.sT (p:=p) (i:=0) (j:=22) OQ (QR.cells) (bb.yI QR.au) ?_
 rintro w68 A68 Vx adN QS
 refine go 3 ?_
 have OR:=Vx.drew
 refine CW.dw [1,3,5,7,9,11,13,15,16,18,20] (fun w=>ay p _ w∧True) ?_
 refine go 9 ?_
 rintro w70 Q70 Vz U9 adZ
 refine go 2 ?_
 rintro w71 Q71 OS U_ ad5
 refine go 3 ?_
 refine CW.ret (ret (vs:=[_,_,_]) ⟨_,_,_,rfl,rfl,zl adZ,_,_,_,rfl,rfl,zl ad5,_,_,rfl,rfl,rfl⟩ ?_)
 have cc:=sQ (r:=r) (i:=i) (by simpa using jD)
 have hz:=((((OS.aE).aE).aE).aE)
 obtain⟨s1,dp,bN,cH⟩:=hz.bY
 exact aw.mk ((dz.trans J_).trans bN) dp.nil (aN.trans (aR.trans (bw.trans (bJ.trans (bQ.trans (na.trans (N3.trans ((ar.drew _).trans (adN.trans ((ar.drew _).trans (U9.trans U_))))))))))) ⟨_,_,by rw[cc];rfl,by rw[cc];exact (QS).au.sK xE bN cH,by rw[cc];exact⟨(QS).qL.ci bg.up bN cH,(QS).aG.ci iH.up bN cH⟩⟩
end
end Go.Lw
namespace Go.Lw
open Go.ChangeShapes Go.WideShapes Go.ChangeAt Go.RowKit
def all (W:World):aj:=fun b=>W.heap[b]?
theorem aa4 (W:World):ak W (all W) []:=fun _ _ h=>h
def xi {α H:Type} (bulk:DataW H→Nat) (enc:TypeId × Value→H) (P:Program) (W:World) (t:TypeId) (R:aj→List Value→α→Prop) (bk:α→Nat):Prop :=
 ∀ (fuel:Nat) (cs:List Value) (d:DataW H) (ps:List MemPlace),DataW.trod enc P W 0 (fun _=>true) true fuel t cs=some (d,ps)→∃ x:α,R (all W) cs x∧bk x≤bulk d
section
variable {α β H:Type} {bulk:DataW H→Nat} {enc:TypeId × Value→H} {P:Program} {W:World} {t e:TypeId} {R:aj→List Value→α→Prop} {bk:α→Nat}
theorem xi.imp {R':aj→List Value→β→Prop} {bk':β→Nat} (h:xi bulk enc P W t R bk) (g:α→β) (hR:∀ s vs x,R s vs x→R' s vs (g x)) (hb:∀ x,bk' (g x)≤bk x):xi bulk enc P W t R' bk':=fun fuel cs d ps hd=>by
 obtain⟨x,h1,h2⟩:=h fuel cs d ps hd
 exact⟨g x,hR _ _ _ h1,Nat.le_trans (hb x) h2⟩
theorem akJ {k:IntKind} {n:Int} (h:(Lit.int k n).wf=true):aq k n:=by
 simp only[Lit.wf] at h
 cases k<;>simp only[IntKind.signed,IntKind.bits,IntKind.min,IntKind.max] at h<;>simp only[aq]<;>simp at h<;>omega
theorem XW {k:IntKind} (ht:P.underlying t=some (.int k)):xi bulk enc P W t (ax k) (fun _=>0):=fun fuel cs d ps hd=>by
 obtain⟨n,rfl,_,hw⟩:=DataW.trod_int ht hd
 exact⟨n,⟨rfl,akJ hw⟩,Nat.zero_le _⟩
theorem abG {a:Addr} {n:Nat} {cs:List Value} (h:W.cells? 0 a n=some cs):cs.length=n∧∀ j u,cs[j]?=some u→W.cell? (a.add j)=some u:=by
 simp only[World.cells?,Nat.zero_le,if_true] at h
 have mT:∀ (n k:Nat) (cs:List Value),(List.range' k n).mapM (fun i=>W.cell? (a.add i))=some cs→cs.length=n∧∀ j u,cs[j]?=some u→W.cell? (a.add (k+j))=some u:=by
  intro n
  induction n with
  | zero=>intro k cs h;simp at h;subst h;simp
  | succ n ih =>
   intro k cs h
   rw[List.range'_succ,List.mapM_cons] at h
   cases hc:W.cell? (a.add k) with
   | none=>simp[hc] at h
   | some u =>
    cases hr:(List.range' (k+1) n).mapM (fun i=>W.cell? (a.add i)) with
    | none=>simp[hc,hr] at h
    | some us =>
     simp[hc,hr] at h
     subst h
     obtain⟨h1,h2⟩:=ih (k+1) us hr
     refine⟨by simp[h1],fun j v hj=>?_⟩
     cases j with
     | zero=>simp at hj;subst hj;simpa using hc
     | succ j =>
      have:=h2 j v (by simpa using hj)
      rwa[show k+(j+1)=k+1+j by omega]
 have:=mT n 0 cs (by rw[←List.range_eq_range'];exact h)
 simpa using this
theorem Tt {a:Addr} {u:Value} (h:W.cell? a=some u):∃ cs el fr,W.heap[a.block]?=some (.cells cs el fr)∧a.spot=none∧cs[a.off]?=some u:=by
 simp only[World.cell?] at h
 split at h
 rename_i cs el fr hh
 split at h
 cases h
 rename_i hs
 exact⟨cs,el,fr,hh,by simpa using hs,h⟩
 cases h
theorem aiF (ht:P.underlying t=some (.slice e)) {sz:Nat} (cV:P.cellsOf e=sz) (h0:0<sz) (pW:xi bulk enc P W e R bk)
  (hb:∀ l r,(l.map bulk).sum≤bulk (.slice l r)) (cz:∀ l r:List (DataW H),l.length≤bulk (.slice l r)) :
  xi bulk enc P W t (Mb R sz) (fun xs=>max xs.length ((xs.map bk).sum)):=fun fuel cs d ps hd=>by
 rcases DataW.trod_slice ht hd with ⟨rfl,hx⟩ | ⟨a,len,cap,elems,au,n,_,rfl,hx,_,hl,hm,bV,gx,_,_⟩
 exact⟨[],⟨none,0,rfl,bm.nil _ _ _ (Nat.zero_le _)⟩,by simp⟩
 simp only[Prod.mk.injEq] at hx
 rw[cV] at gx
 -- element by element
 have mT:∀ m,m≤len→∃ (xs:List α) (vs:List Value),xs.length=m∧cF R sz (all W) vs xs∧(∀ j u,vs[j]?=some u→W.cell? (a.add j)=some u)∧(xs.map bk).sum≤((elems.take m).map fun y=>bulk y.1).sum:=by
  intro m
  induction m with
  | zero=>intro _;exact⟨[],[],rfl,rfl,by simp,by simp⟩
  | succ m ih =>
   intro hm'
   obtain⟨xs,vs,h1,h2,h3,h4⟩:=ih (by omega)
   have he:=gx m (by omega)
   have V2:m<elems.length:=by omega
   rw[List.getElem?_eq_getElem V2] at he
   obtain⟨cs',fJ,gA⟩:=Option.bind_eq_some_iff.1 he
   obtain⟨kO,Bz⟩:=abG fJ
   obtain⟨x,hR,hbx⟩:=pW n cs' elems[m].1 elems[m].2 gA
   have eH:=h2.length
   refine⟨xs++[x],vs++cs',by simp[h1],h2.append (cF.jy kO hR),fun j u hj=>?_,?_⟩
   by_cases kR:j<vs.length
   exact h3 j u (by rwa[List.getElem?_append_left kR] at hj)
   rw[List.getElem?_append_right (by omega)] at hj
   have:=Bz _ u hj
   rw[SR] at this
   rwa[show m*sz+(j-vs.length)=j by rw[eH,h1] at *;omega] at this
   rw[List.take_succ_eq_append_getElem V2]
   simp only[List.map_append,List.sum_append,List.map_cons,List.map_nil,List.sum_cons,List.sum_nil]
   omega
 obtain⟨xs,vs,h1,h2,h3,h4⟩:=mT len (Nat.le_refl _)
 refine⟨xs,⟨some a,cap,by rw[h1],by rw[h1];exact hl,hm,?_⟩,?_⟩
 cases xs with
 | nil=>exact .inl rfl
 | cons x xs =>
  refine .inr ⟨a,rfl,vs,?_,h2⟩
  have eH:=h2.length
  have tF:0<vs.length:=by rw[eH];simp only[List.length_cons];exact Nat.mul_pos (by omega) h0
  have iK:=h3 0 vs[0] (by simp[tF])
  have hz:a.add 0=a:=by unfold Addr.add;simp
  rw[hz] at iK
  obtain⟨cb,el,fr,li,Co,_⟩:=Tt iK
  refine⟨cb,el,fr,li,Co,fun j u hj=>?_⟩
  obtain⟨cb',el',fr',hb'',_,hcu⟩:=Tt (h3 j u hj)
  rw[Mn,li] at hb''
  cases hb''
  rwa[Mo] at hcu
 rw[hx.1]
 have li:=hb (elems.map (·.1)) (au.map (·.1))
 have adR:=cz (elems.map (·.1)) (au.map (·.1))
 rw[List.take_of_length_le (by omega)] at h4
 simp only[List.map_map,List.length_map] at li adR
 have e1:(elems.map (bulk ∘ fun y=>y.1)).sum=(elems.map fun y=>bulk y.1).sum:=rfl
 rw[e1] at li
 show max xs.length ((xs.map bk).sum)≤_
 omega
def aaD:aj→List Value→Unit→Prop:=fun _ vs _=>vs=[]
def aaC (k:Nat) (R:aj→List Value→α→Prop) (Q:aj→List Value→β→Prop):aj→List Value→α × β→Prop:=fun s vs x =>
 ∃ us au,vs=us++au∧us.length=k∧R s us x.1∧Q s au x.2
def IZ (bulk:DataW H→Nat) (enc:TypeId × Value→H) (P:Program) (W:World) (fs:List Field) (off:Nat) (R:aj→List Value→α→Prop) (bk:α→Nat):Prop :=
 ∀ (fuel:Nat) (cs:List Value) (xs:List (DataW H × List MemPlace)),xs.length=fs.length →
  (∀ (i:Nat) (f:Field),fs[i]?=some f→DataW.trod enc P W 0 (fun _=>true) true fuel f.type ((cs.drop f.offset).take (P.cellsOf f.type))=xs[i]?)→cs.length=off+(fs.map fun f=>P.cellsOf f.type).sum →
  ∃ x:α,R (all W) (cs.drop off) x∧bk x≤(xs.map fun y=>bulk y.1).sum
theorem aiE (off:Nat):IZ bulk enc P W [] off aaD (fun _=>0):=fun fuel cs xs hl _ hc=>by
 refine⟨(),?_,Nat.zero_le _⟩
 simp only[List.map_nil,List.sum_nil,Nat.add_zero] at hc
 exact List.drop_eq_nil_of_le (by omega)
theorem XV {f:Field} {fs:List Field} {off k:Nat} {Q:aj→List Value→β→Prop} {bq:β→Nat} (ho:f.offset=off) (hk:P.cellsOf f.type=k) (hf:xi bulk enc P W f.type R bk) (hr:IZ bulk enc P W fs (off+k) Q bq) :
  IZ bulk enc P W (f::fs) off (aaC k R Q) (fun x=>bk x.1+bq x.2):=fun fuel cs xs hl h hc=>by
 cases xs with
 | nil=>simp at hl
 | cons y ys =>
  have h0:=h 0 f rfl
  simp only[List.map_cons,List.sum_cons,hk] at hc
  rw[ho,hk] at h0
  obtain⟨x,hx,hb⟩:=hf fuel _ y.1 y.2 (by simpa using h0)
  obtain⟨z,hz,li⟩:=hr fuel cs ys (by simpa using hl) (fun i g hg=>by simpa using h (i+1) g (by simpa using hg)) (by omega)
  refine⟨(x,z),⟨(cs.drop off).take k,cs.drop (off+k),?_,?_,hx,hz⟩,?_⟩
  rw[←List.drop_drop,List.take_append_drop]
  simp only[List.length_take,List.length_drop];omega
  simp only[List.map_cons,List.sum_cons];omega
theorem aiG {fs:Array Field} (ht:P.underlying t=some (.struct fs)) (hs:P.cellsOf t=(fs.toList.map fun f=>P.cellsOf f.type).sum) (h:IZ bulk enc P W fs.toList 0 R bk)
  (hb:∀ l,(l.map bulk).sum≤bulk (.agg l)):xi bulk enc P W t R bk:=fun fuel cs d ps hd=>by
 obtain⟨xs,n,_,hx,kO,Qp,gx⟩:=DataW.trod_struct ht hd
 simp only[Prod.mk.injEq] at hx
 obtain⟨x,h1,h2⟩:=h n cs xs (by simpa using Qp) (fun i f hi=>gx i f (by simpa using hi)) (by rw[kO,hs];omega)
 refine⟨x,by simpa using h1,Nat.le_trans h2 ?_⟩
 rw[hx.1]
 have:=hb (xs.map (·.1))
 simpa [List.map_map,Function.comp_def] using this
end
theorem abk {W W':World} {s':aj} {os:List aj} (hg:ak W' s' os) (hl:Le (all W) s') (ha:ar W W'):Below W.heap.size W W' :=
 ⟨ha.os,ha.tape,ha.output,ha.size,fun k hk=>by
  have h1:W.heap[k]?=some W.heap[k]:=by simp[hk]
  rw[h1]
  exact hg.sh k _ (hl k _ h1)⟩
theorem Zc {H:Type} {enc:TypeId × Value→H} {P:Program} (hl:laidOutB P=true) {W W':World} (hb:Below W.heap.size W W'):∀ {ts:List TypeId} {vs:List Value} {ds:List (DataW H)} {ps:List MemPlace},
  (ts.all fun t=>P.readableRec t && decide (t<P.types.size))=true→DataW.TrodAll enc P W 0 (fun _=>true) true ts vs ds ps→(∀ x∈ps,x.block<W.heap.size) →
  DataW.TrodAll enc P W' 0 (fun b=>decide (b<W.heap.size)) true ts vs ds ps
 | [],[],[],ps,_,h,_=>h
 | t::ts,v::vs,d::ds,ps,ht,h,be=>by
  obtain⟨p,q,h1,h2,rfl⟩:=h
  simp only[List.all_cons,Bool.and_eq_true,decide_eq_true_eq] at ht
  refine⟨p,q,Below.trod hl ht.1.1 ht.1.2 h1 hb (fun x hx=>be x (by simp[hx])),Zc hl hb ?_ h2 (fun x hx=>be x (by simp[hx])),rfl⟩
  exact ht.2
 | [],_::_,_,_,_,h,_=>h.elim
 | [],[],_::_,_,_,h,_=>h.elim
 | _::_,[],_,_,_,h,_=>h.elim
 | _::_,_::_,[],_,_,h,_=>h.elim
theorem ahC {H:Type} {enc:TypeId × Value→H} {P:Program} {f:FuncId} {fn:Func} {spec:ChangeSpec} {W:World} {args:Array Value} {ds gs:List (DataW H)} {before:List MemPlace} {tb:TypeId}
  (hl:laidOutB P=true) (hp:(fn.params.toList.all fun t=>P.readableRec t && decide (t<P.types.size))=true) (hv:spec.vars=[]) (hr:fn.resultTypes = #[tb]) (hb:P.underlying tb=some .bool)
  (hW:DataW.Whole enc P fn.params.toList spec.vars false W args.toList ds gs before) (hs:(spec.fn H (ds++gs)).results=[.lit (.bool true)]∧(spec.fn H (ds++gs)).args=ds∧(spec.fn H (ds++gs)).vars=[])
  (hc:Calls P f args W (aw W (all W) [] fun _ _ r=>r = .bool true)) :
  Calls P f args W fun e W'=>∃ v,e = .returned v∧spec.post enc P fn false true false false W args v W':=by
 refine hc.mono fun e W' ⟨v,s',A,he,cg,hg,ha,pm⟩=>⟨v,he,?_⟩
 have io:=abk hg cg ha
 have be:=hW.lt
 have DW:=hW
 obtain⟨p,q,hA,hV,rfl,_,_⟩:=hW
 obtain⟨s1,s2,s3⟩:=hs
 subst pm
 refine⟨ds,gs,p++q,[],p,[],DW,?_,?_,?_,io.frame _,fun h=>by cases h⟩
 rw[s1,hr]
 exact trodAll_mk1 (shut_bool hb _)
 rw[s2]
 exact Zc hl io hp hA (fun x hx=>be x (by simp[hx]))
 rw[s3,hv]
 rfl
end Go.Lw
namespace Go.Lw
open Go.Proofs
section
variable {H:Type} {enc:TypeId × Value→H} {W:World}
abbrev kK:DataW H→Nat:=Go.Proofs.YtpjclnomaemokaaGreat.Rows.uptoBulk
theorem Td (l:List (DataW H)):(l.map kK).sum=Go.Proofs.YtpjclnomaemokaaGreat.Rows.uptoBulkAll l:=by
 induction l with
 | nil=>simp[Go.Proofs.YtpjclnomaemokaaGreat.Rows.uptoBulkAll]
 | cons x l ih=>simp only[List.map_cons,List.sum_cons,ih,Go.Proofs.YtpjclnomaemokaaGreat.Rows.uptoBulkAll]
theorem abr (d:DataW H):1≤kK d:=by
 cases d with
 | lit l=>cases l<;>simp[kK,Go.Proofs.YtpjclnomaemokaaGreat.Rows.uptoBulk]
 | _=>simp[kK,Go.Proofs.YtpjclnomaemokaaGreat.Rows.uptoBulk]
theorem Te (l r:List (DataW H)):(l.map kK).sum≤kK (.slice l r):=by rw[Td];simp only[kK,Go.Proofs.YtpjclnomaemokaaGreat.Rows.uptoBulk];omega
theorem abq (l r:List (DataW H)):l.length≤kK (.slice l r):=by
 have h:l.length≤(l.map kK).sum:=by
  induction l with
  | nil=>simp
  | cons x l ih=>have:=abr x;simp only[List.map_cons,List.sum_cons,List.length_cons];omega
 exact Nat.le_trans h (Te l r)
theorem abp (l:List (DataW H)):(l.map kK).sum≤kK (.agg l):=by rw[Td];simp only[kK,Go.Proofs.YtpjclnomaemokaaGreat.Rows.uptoBulk];omega
abbrev Op {α:Type} (enc:TypeId × Value→H) (W:World) (t:TypeId) (R:aj→List Value→α→Prop) (bk:α→Nat):Prop:=xi kK enc Tryz.prog W t R bk
theorem QW:Op enc W 3 (ax .i64) (fun _=>0):=XW Tryz.underlying3
def aY.size (x:aY):Nat:=x.av.length+x.aD.length
end
end Go.Lw
namespace Go.Lw
open Go.Proofs
section
variable {H:Type} {enc:TypeId × Value→H} {W:World}
end
end Go.Lw
namespace Go.Lw
open Go.Proofs
attribute [local irreducible] RL RA
theorem YD {w:World} {s:aj} {os:List aj} {xs:List Int} {a b:Option Addr} {c d:Nat} (hg:ak w s os) (ha:bm (ax .i64) 1 s a c xs) (hb:bm (ax .i64) 1 s b d xs) :
  Calls Tryz.prog 53 #[.slice a xs.length c,.slice b xs.length d] w (aQ w s os fun r=>r = .bool true):=by
 have ni:=ha.gL
 simp only[maxLen] at ni
 refine enter (l:=[.slice a xs.length c,.slice b xs.length d]) Tryz.func53 rfl Tryz.ntmps53 rfl ?_
 refine go 4 ?_
 refine CW.seq (CW.seq (CW.plain ?_))
 refine go 6 ?_
 refine CW.ne rfl (fun h=>absurd rfl h) (fun _=>CW.skip ?_)
 refine CW.cx (fun E w'=>E=[(0,.slice a xs.length c)]∧ak w' s os∧ar w w') ?_ ?_
 refine CW.seq (CW.plain ?_)
 refine go 2 ?_
 refine CW.block (CW.loop (σ:=Nat) (fun j E w'=>∃ k:Nat,E=[(0,.slice a xs.length c),(1,.slice b xs.length d),(5,.int .i64 k)]∧ak w' s os∧ar w w'∧k+j=xs.length) (fun j=>j) xs.length
  [(0,.slice a xs.length c),(1,.slice b xs.length d),(5,.int .i64 0)] ⟨rfl,rfl,rfl,trivial⟩ ⟨0,rfl,hg,ar.refl _,by omega⟩ ?_)
 rintro j E w1 ⟨k,rfl,aH,aN,hk⟩
 refine CW.seq (CW.seq (CW.plain ?_))
 refine go 5 ?_
 refine CW.test rfl (fun h=>?_) (fun h=>CW.exit ?_)
 refine CW.skip (CW.seq (CW.block (CW.seq ?_)))
 refine CW.iA [(true,0),(true,1),(true,2),(true,3),(true,4),(true,5),(true,6),(true,7),(true,8)] (fun w=>ak w s os) mixed (by kernel_rfl) (by kernel_rfl) (by kernel_rfl) (by kernel_rfl) (aH.drew) ?_
 refine go 2 ?_
 refine RL.cW rfl rfl rfl rfl bC.out rfl rfl (ha) (by omega) ((by omega)) ?_
 rintro q1 vs1 Ks oo ⟨rfl,zQ⟩
 refine RL.fV rfl rfl rfl rfl ey.out rfl (oo) (fun w h=>h.sh) rfl ?_
 refine go 2 ?_
 refine RL.cW rfl rfl rfl rfl bC.out rfl rfl (hb) (by omega) ((by omega)) ?_
 rintro q2 vs2 oE eS ⟨rfl,ph⟩
 refine RL.fV rfl rfl rfl rfl ey.out rfl (eS) (fun w h=>h.sh) rfl ?_
 refine go 2 ?_
 refine CW.ne rfl (fun h=>absurd rfl h) (fun _=>CW.skip (CW.plain ?_))
 refine go 4 ?_
 cases j with
 | zero=>omega
 | succ j=>exact fun ac ha=>⟨j,[(0,.slice a xs.length c),(1,.slice b xs.length d),(5,.int .i64 ((k:Int)+1))],ha.sub ⟨rfl,rfl,rfl,trivial⟩,⟨k+1,rfl,aH.drew,aN.trans (ar.drew _),by omega⟩,Nat.lt_succ_self j⟩
 exact fun ac ha=>⟨[(0,.slice a xs.length c)],ha.sub ⟨rfl,trivial⟩,rfl,aH,aN⟩
 rintro E w1 ⟨rfl,aH,aN⟩
 refine go 4 ?_
 exact CW.ret (ret (vs:=[_]) ⟨_,_,rfl,rfl,rfl⟩ (aQ.mk aH aN rfl))
theorem Mg {w:World} {s:aj} {os:List aj} {x:aY} {us vs:List Value} (hg:ak w s os) (hu:fH s us x) (hv:fH s vs x) :
  Calls Tryz.prog 24 #[.agg us.toArray,.agg vs.toArray] w (aQ w s os fun r=>r = .bool true):=by
 obtain⟨a1,c1,b1,d1,rfl,i1,j1⟩:=hu
 obtain⟨a2,c2,b2,d2,rfl,i2,j2⟩:=hv
 refine enter (l:=[.agg #[.slice a1 x.av.length c1,.slice b1 x.aD.length d1],.agg #[.slice a2 x.av.length c2,.slice b2 x.aD.length d2]]) Tryz.func24 rfl Tryz.ntmps24 rfl ?_
 refine go 2 ?_
 refine RL.box rfl rfl rfl rfl rfl hg ?_
 rintro p2 w2 aS aR
 refine go 1 ?_
 refine RL.box rfl rfl rfl rfl rfl aS ?_
 rintro p3 w3 aP bw
 refine go 6 ?_
 refine RL.load (j:=0) rfl rfl rfl rfl fq.out rfl (Holds.one p2 _ _) (aP.drop.1) rfl ?_
 refine go 1 ?_
 refine RL.load (j:=0) rfl rfl rfl rfl fq.out rfl (Holds.one p3 _ _) (aP.1) rfl ?_
 refine go 1 ?_
 refine zw (YD aP i1 i2) ?_
 rintro v4 w4 bp bJ rfl
 refine go 6 ?_
 refine RL.load (j:=1) rfl rfl rfl rfl fq.out rfl (Holds.one p2 _ _) (bp.drop.1) rfl ?_
 refine go 1 ?_
 refine RL.load (j:=1) rfl rfl rfl rfl fq.out rfl (Holds.one p3 _ _) (bp.1) rfl ?_
 refine go 1 ?_
 refine zw (YD bp j1 j2) ?_
 rintro v5 w5 bh bQ rfl
 refine go 11 ?_
 exact CW.ret (ret (vs:=[_]) ⟨_,_,rfl,rfl,rfl⟩ (aQ.mk bh.drop.drop (aR.trans (bw.trans (bJ.trans bQ))) rfl))
def aA.size (x:aA):Nat:=x.data.length+x.aJ.size
def az.size (m:az):Nat:=max m.entries.length (m.entries.map aA.size).sum+m.aJ.size+m.data.length
def ez.size (i:ez):Nat:=i.cr.size+i.data.length
def br.size (l:br):Nat:=l.aF.aJ.size+l.aF.data.length+max l.entries.length (l.entries.map aA.size).sum
theorem aA.YQ:∀ {xs:List aA} {x:aA},x∈xs→x.size≤(xs.map aA.size).sum
 | y::ys,x,h=>by
  simp only[List.map_cons,List.sum_cons]
  rcases List.mem_cons.1 h with rfl | h
  omega
  have:=aA.YQ h;omega
theorem ah0 {s:aj} {m:az} {y:cG} (h:du s m y) {d:Nat} (hd:m.size≤d):vR d m:=by
 simp only[az.size,aY.size] at hd
 refine⟨h.am,h.ab,h.index,h.cn,h.aB,fun e he=>?_,by omega,⟨by omega,by omega⟩,by omega⟩
 have h1:=aA.YQ he
 simp only[aA.size,aY.size] at h1 hd
 have hs:∀ n:Nat,n=(m.entries.map aA.size).sum→e.data.length+(e.aJ.av.length+e.aJ.aD.length)≤n:=fun n hn=>by rw[hn];exact h1
 obtain⟨vs,hE⟩:=h.entries.eU.all e he
 obtain⟨ea,ec,ea1,ec1,ea2,ec2,wC,r1,r2,r3,pi⟩:=hE
 have:=hs _ rfl
 exact⟨r1,r2,by omega,by omega,by omega⟩
theorem ahk {s:aj} {i:ez} {y:cG} {da:Option Addr} {dc d:Nat} (h:ux s i y da dc) (hd:i.size≤d):vQ d i:=by
 simp only[ez.size] at hd
 exact⟨ah0 h.cr (by omega),by omega⟩
theorem lL.Xd {c:Nat} {l:br} (h:lL c l) (hc:c≤1099511627776):∀ e∈l.entries,e.index≤(bX l).1:=fun e he=>by
 have hx:=h.pD hc
 obtain⟨k,hk,rfl⟩:=List.getElem_of_mem he
 have h1:=hx k _ (List.getElem?_eq_getElem hk)
 have h2:=hx.aZ
 omega
end Go.Lw
namespace Go.Lw
section
variable {c d:Nat} {n:ai}
theorem Ue {f:Int} (h:fP c n.s):cT c n.s (n.calm f).s:=by
 unfold ai.calm ai.follow
 simp only[Int.lt_irrefl,if_false]
 exact⟨{ h with aO:=by show (1:Int)≤1∧(1:Int)≤4;omega,cI:=fun z=>by have:(3:Int)≤1:=z;omega },{ kH.refl n.s with }⟩
theorem lA.Y4 {l:br} (h:lA l) {k:Nat} (hk:k<l.entries.length):cE l (l.aF.index+1+k)=(l.entries[k].ab,true):=by
 have hp:=h.lG (l.aF.index+1+k)
 have zM:eI l (l.aF.index+1+k)=k:=by omega
 unfold cE
 rw[if_neg (by omega),zM,List.getElem?_eq_getElem hk]
 simp only
 rw[if_pos (h k _ (List.getElem?_eq_getElem hk))]
theorem lA.cut {l:br} (h:lA l) {x t:Int} (hx:cE l x=(t,true)) {p:Nat} (hp:(p:Int)=x-l.aF.index) :
  ((l.entries.take p).getLast?.map (·.index)).getD l.aF.index=x∧((l.entries.take p).getLast?.map (·.ab)).getD l.aF.ab=t∧p≤l.entries.length:=by
 have hr:=h.ab (x:=x) (by rw[hx])
 cases p with
 | zero =>
  have tL:x=l.aF.index:=by omega
  subst tL
  unfold cE at hx
  rw[if_pos rfl] at hx
  cases hx
  exact⟨rfl,rfl,Nat.zero_le _⟩
 | succ p =>
  have be:p<l.entries.length:=by omega
  have h1:=h.Y4 be
  have hxe:l.aF.index+1+p=x:=by omega
  rw[hxe,hx] at h1
  have h2:=h p _ (List.getElem?_eq_getElem be)
  have h3:(l.entries.take (p+1)).getLast?=some l.entries[p]:=by
   rw[List.getLast?_eq_getElem?,List.length_take,show min (p+1) l.entries.length-1=p by omega,List.getElem?_take_of_lt (by omega),List.getElem?_eq_getElem be]
  rw[h3]
  exact⟨by simp only[Option.map_some,Option.getD_some];omega,by simp only[Option.map_some,Option.getD_some];exact (congrArg Prod.fst h1).symm,by omega⟩
theorem ahX {l:br} {k i t T:Int} {more:List aA} (hr:fx l.aF.index l.aF.ab l.entries=true) (hk:k≤i) (cv:k≤(bX l).1) (hT:(bX l).2≤T) (Ph:∀ e∈more,e.ab≤T)
  {G:Dh} (hG:fb l k i t more=G) (h1:G.gH≠1) (h2:G.gH≠61) (h3:G.gH≠62) :
  G.ah.aF=l.aF∧fx l.aF.index l.aF.ab G.ah.entries=true∧k≤(bX G.ah).1∧i+more.length≤(bX G.ah).1∧(bX G.ah).2≤T∧∀ e∈l.entries,e.index≤k→e∈G.ah.entries:=by
 have hx:lA l:=fun q e hq=>sP hr q e hq
 unfold fb at hG
 split at hG
 subst hG;exact absurd rfl h1
 rename_i fo
 split at hG
 subst hG;exact absurd rfl h2
 rename_i qG
 split at hG
 subst hG;exact absurd rfl h3
 have rq:fx i t more=true:=by
  have:lI i t more=true:=by simpa using fo
  simp only[lI,Bool.and_eq_true] at this
  exact this.2
 have ED:cE l i=(t,true):=by
  have ha:(cE l i).2=true:=by
   cases hz:(cE l i).2 with
   | true=>rfl
   | false=>exact absurd (.inl hz) qG
  have hb:(cE l i).1=t:=Classical.byContradiction fun z=>qG (.inr z)
  rw[←ha,← hb]
 have hold:∀ e∈more,ed l e=false→cE l e.index=(e.ab,true):=fun e _ hf=>by
  simp only[ed,sJ,Bool.or_eq_false_iff,Bool.and_eq_false_iff,decide_eq_false_iff_not,Bool.not_eq_false'] at hf
  have ha:=hf.1
  have hb:(cE l e.index).1=e.ab:=by
   rcases hf.2 with z | z
   rw[ha] at z;cases z
   exact Classical.byContradiction fun y=>z y
  rw[←ha,← hb]
 cases hf:more.findIdx? (ed l) with
 | none =>
  rw[hf] at hG
  subst hG
  refine⟨rfl,hr,cv,?_,hT,fun e he _=>he⟩
  have hl:=hx.aZ
  cases hm:more.length with
  | zero =>
   have:=hx.ab (x:=i) (by rw[ED])
   simp only;omega
  | succ q =>
   have hq:q<more.length:=by omega
   have hn:=List.findIdx?_eq_none_iff.1 hf _ (List.getElem_mem hq)
   have ht:=hold _ (List.getElem_mem hq) hn
   have:=hx.ab (x:=more[q].index) (by rw[ht])
   have hi:=sP rq q _ (List.getElem?_eq_getElem hq)
   simp only;omega
 | some j =>
  rw[hf] at hG
  obtain⟨hj,rf,r_⟩:=List.findIdx?_eq_some_iff_getElem.1 hf
  have rd:(more[j]?.map (·.index)).getD 0=i+1+j:=by
   rw[List.getElem?_eq_getElem hj]
   simp only[Option.map_some,Option.getD_some]
   exact sP rq j _ (List.getElem?_eq_getElem hj)
  dsimp only at hG
  rw[rd] at hG
  obtain⟨t',qF,hd'⟩:∃ t',cE l (i+j)=(t',true)∧fx (i+j) t' (more.drop j)=true:=by
   cases j with
   | zero=>exact⟨t,by simpa using ED,by simpa using rq⟩
   | succ j =>
    have hb:=sP rq j _ (List.getElem?_eq_getElem (by omega))
    have ha:=hold _ (List.getElem_mem (by omega:j<more.length)) (by simpa using r_ j (by omega))
    have he:more[j].index=i+((j+1:Nat):Int):=by omega
    have hc:=K_ j (by omega) rq
    rw[he] at ha hc
    exact⟨_,ha,hc⟩
  have cq:=hx.ab (x:=i+j) (by rw[qF])
  have hp:=hx.lG (i+1+j)
  have hc:=hx.cut qF (p:=eI l (i+1+j)) (by omega)
  subst hG
  have Wn:fx l.aF.index l.aF.ab (l.entries.take (eI l (i+1+j))++more.drop j)=true:=by
   refine K9 (Rl _ hr) ?_
   rw[hc.1,hc.2.1];exact hd'
  have yn:lA ⟨l.aF,l.entries.take (eI l (i+1+j))++more.drop j⟩:=fun q e hq=>sP Wn q e hq
  have gV:=yn.aZ
  simp only[List.length_append,List.length_take,List.length_drop] at gV
  refine⟨rfl,Wn,?_,?_,?_,fun e he xL=>?_⟩
  show k≤(bX (⟨l.aF,l.entries.take (eI l (i+1+j))++more.drop j⟩:br)).1;omega
  show i+more.length≤(bX (⟨l.aF,l.entries.take (eI l (i+1+j))++more.drop j⟩:br)).1;omega
  obtain⟨z,hz⟩:∃ z,(more.drop j).getLast?=some z:=by
   cases hd:more.drop j with
   | nil=>have:=List.drop_eq_nil_iff.1 hd;omega
   | cons a b=>exact⟨_,List.getLast?_cons⟩
  have oF:(l.entries.take (eI l (i+1+j))++more.drop j).getLast?=some z:=by rw[List.getLast?_append,hz];rfl
  unfold bX
  simp only[oF]
  exact Ph z (List.mem_of_mem_drop (List.mem_of_getLast? hz))
  obtain⟨q,hq,rfl⟩:=List.getElem_of_mem he
  have hqi:=hx q _ (List.getElem?_eq_getElem hq)
  refine List.mem_append_left _ ?_
  rw[List.mem_take_iff_getElem]
  exact⟨q,by omega,rfl⟩
theorem acX {m:az} (h:fP c n.s):cT c n.s (n.grow m).s:=by
 have hw:=Ue (f:=m.am) h
 by_cases h0:n.s.aO=4
 unfold ai.grow;rw[if_pos h0];exact cT.lJ h
 by_cases h1:m.index<(n.calm m.am).s.af.aB
 rw[AW h0 h1];exact hw
 obtain⟨G,hG⟩:∃ G,G=fb (n.calm m.am).s.ah (n.calm m.am).s.af.aB m.index m.cn m.entries:=⟨_,rfl⟩
 by_cases h2:G.gH=1∨G.gH=62∨m.entries.any (ai.l_ (n.calm m.am).s.af.ab)=true
 rw[uC h0 h1 hG.symm h2];exact hw
 by_cases h3:G.gH=61
 rw[y6 h0 h1 hG.symm h2 h3];exact hw
 rw[y7 h0 h1 hG.symm h2 h3]
 have Ph:∀ e∈m.entries,e.ab≤(n.calm m.am).s.af.ab:=fun e he=>by
  refine Classical.byContradiction fun z=>h2 (.inr (.inr (List.any_eq_true.2 ⟨e,he,?_⟩)))
  have:(n.calm m.am).s.af.ab<e.ab:=by omega
  simp[ai.l_,this]
 have hs:=hw.1
 obtain⟨g1,g2,g3,g4,g5,g6⟩:=ahX hs.run (by omega) hs.xO hs.lt Ph hG.symm (fun z=>h2 (.inl z)) h3 (fun z=>h2 (.inr (.inl z)))
 refine hw.nr ⟨{ hs with
  run:=by show fx G.ah.aF.index G.ah.aF.ab G.ah.entries=true;rw[g1];exact g2
  bt:=by show G.ah.aF.ab≤_;rw[g1];exact hs.bt
  ff:=by show G.ah.aF.index≤max _ _;rw[g1];have:=hs.ff;omega
  xO:=by show max _ _≤(bX G.ah).1;omega
  lt:=g5 },{ kH.refl (n.calm m.am).s with
  aB:=by show (n.calm m.am).s.af.aB≤max _ _;omega
  aF:=by show (n.calm m.am).s.ah.aF.index≤G.ah.aF.index;rw[g1];exact Int.le_refl _
  cR:=fun e he hk=> .inl (g6 e he hk) }⟩
theorem ac0 {s:gE} (h:fP c n.s) (h1:n.s.af.aB<s.index) (h2:s.ab≤n.s.af.ab):cT c n.s (n.dY s).s:=by
 have hx:=h.pD
 have Ep:=h.ff
 have VV:∀ e∈n.s.ah.entries,e.index≤n.s.af.aB→e.index<s.index:=fun e _ hk=>by omega
 unfold ai.dY
 dsimp only
 split
 rename_i j hj
 obtain⟨re,rf,_⟩:=List.findIdx?_eq_some_iff_getElem.1 hj
 have r_:=of_decide_eq_true rf
 have hd:=K_ j re h.run
 rw[r_.1,r_.2] at hd
 have yn:lA ⟨s,n.s.ah.entries.drop (j+1)⟩:=fun q e hq=>sP hd q e hq
 have gV:=yn.aZ
 refine⟨{ h with run:=hd,bt:=h2,ff:=Int.le_refl _,xO:=?_,lt:=?_ },{ kH.refl n.s with aB:=Int.le_of_lt h1,aF:=by show _≤s.index;omega,cR:=fun e he hk=> .inr (VV e he hk) }⟩
 show s.index≤(bX ⟨s,n.s.ah.entries.drop (j+1)⟩).1
 rw[gV];simp only;omega
 show (bX ⟨s,n.s.ah.entries.drop (j+1)⟩).2≤_
 have be:=h.lt
 rw[Qx] at be ⊢
 simp only at be ⊢
 cases hz:(n.s.ah.entries.drop (j+1)).getLast? with
 | none=>exact h2
 | some z =>
  have bH:¬ n.s.ah.entries.length≤j+1:=fun y=>by rw[List.drop_eq_nil_of_le y] at hz;cases hz
  have he:n.s.ah.entries.getLast?=some z:=by
   rw[List.getLast?_drop,if_neg bH] at hz;exact hz
  rw[he] at be
  exact be
 exact⟨{ h with run:=rfl,bt:=h2,ff:=Int.le_refl _,xO:=Int.le_refl _,lt:=h2 },{ kH.refl n.s with aB:=Int.le_of_lt h1,aF:=by show _≤s.index;omega,cR:=fun e he hk=> .inr (VV e he hk) }⟩
theorem acV {m:az} (h:fP c n.s):cT c n.s (n.lR m).s:=by
 have hw:=Ue (f:=m.am) h
 by_cases h0:n.s.aO=4∨eg m.aJ≠0∨n.s.af.ab<m.cn
 rw[yW h0];exact cT.lJ h
 by_cases h1:m.index≤(n.calm m.am).s.af.aB
 rw[AE h0 h1];exact hw
 have hi:=Lt (n.calm m.am).s.part m
 obtain⟨T,hT⟩:∃ T,T=mb (n.calm m.am).s.part m:=⟨_,rfl⟩
 rw[←hT] at hi
 by_cases h2:T.2=false
 rw[AF h0 h1 hT.symm h2]
 exact hw.nr ⟨{ hw.1 with },{ kH.refl (n.calm m.am).s with }⟩
 rw[yV h0 h1 hT.symm h2]
 have ht:¬ n.s.af.ab<m.cn:=fun z=>h0 (.inr (.inr z))
 have hh:n.s.af.ab≤(n.calm m.am).s.af.ab:=hw.2.ab
 exact hw.nr (ac0 hw.1 (by show _<T.1.index;rw[hi.1];omega) (by show T.1.ab≤_;rw[hi.2];omega))
theorem acW {m:az} (h:fP c n.s):cT c n.s (n.oT m).s:=by
 unfold ai.oT
 split
 exact cT.lJ h
 split
 rw[ai.Ra];exact cT.lJ h
 exact cT.lJ h
theorem acZ {m:az} (h:fP c n.s) (hf:cp d n.s) (hd:d+1≤1099511627776) (hc:c+1≤1099511627776) (hm:1≤m.am∧m.am≤7):cT (c+1) n.s (n.dW m).s:=by
 unfold ai.dW
 split
 exact (ac_ h hm).mono (by omega)
 split
 exact ada h hf hd (by omega)
 split
 exact (acX h).mono (by omega)
 split
 exact (acY h).mono (by omega)
 split
 exact (acV h).mono (by omega)
 split
 exact (acW h).mono (by omega)
 exact ac3 h hf hd hc
theorem ac2 {m:az} (h:fP c n.s) (hf:cp d n.s) (nT:aq .u64 m.ab) (hd:d+2≤1099511627776) (hc:c+1≤1099511627776):cT (c+1) n.s (n.iQ m).s:=by
 by_cases h0:n.nK m
 rw[tQ h0];exact (cT.lJ h).mono (by omega)
 have aeD:1≤m.am∧m.am≤7:=by
  constructor
  exact Classical.byContradiction fun z=>h0 (.inr (.inr (.inl (by omega))))
  exact Classical.byContradiction fun z=>h0 (.inr (.inr (.inr (.inl (by omega)))))
 have qG:m.ab≤eo:=Classical.byContradiction fun z=>h0 (.inr (.inr (.inr (.inr (.inl (by omega))))))
 by_cases h1:m.ao=1
 rw[EU h0 h1];exact (cT.lJ h).mono (by omega)
 by_cases h2:m.ao=2
 rw[EV h0 h2];exact ac4 h hf hd hc qG
 by_cases h3:m.ao<3∨9<m.ao
 rw[EW h0 h1 h2 h3];exact (cT.lJ h).mono (by omega)
 have hg:cT c n.s (n.gC m).s:=by
  unfold ai.gC
  split
  exact Ug h qG
  exact cT.lJ h
 have rd:cp d (n.gC m).s:=by
  unfold ai.gC
  split
  exact DH hf nT
  exact hf
 by_cases h4:m.ab<(n.gC m).s.af.ab
 rw[CC h0 h1 h2 h3 h4];exact (hg.nr (ac1 hg.1)).mono (by omega)
 rw[CE h0 h1 h2 h3 h4];exact hg.nr (acZ hg.1 rd (by omega) hc aeD)
theorem acS {i:ez} (h:fP c n.s) (hf:cp d n.s) (nT:aq .u64 i.cr.ab) (hd:d+2≤1099511627776) (hc:c+1≤1099511627776):cT (c+1) n.s (n.fz i).1.s:=by
 unfold ai.fz
 split
 exact ac8 h hf hd hc
 split
 exact ac2 h hf nT hd hc
 split
 exact (acU h hf (by omega) (by omega)).mono (by omega)
 exact (cT.lJ h).mono (by omega)
theorem ac7 {r:aU} {i:ez} (h:fP c r) (hf:cp d r) (nT:aq .u64 i.cr.ab) (hd:d+2≤1099511627776) (hc:c+1≤1099511627776):cT (c+1) r (bI r i).1:=by
 by_cases he:((dA r).fz i).2≠0
 rw[uf he];exact (cT.lJ h).mono (by omega)
 rw[sQ he];exact acS (n:=dA r) h hf nT hd hc
theorem fP.ok {r:aU} (h:fP c r) (hf:cp d r) (hd:d≤1099511627776) (hc:c≤1099511627776):wH r.ah=true:=by
 have h1:=h.bt
 have h2:=h.tb
 have h3:=hf.ah.ff
 have h4:=hf.ah.count
 have h5:=h.run
 simp only[eo] at h2 h3
 simp only[wH,lI,Bool.and_eq_true]
 refine⟨decide_eq_true ?_,⟨decide_eq_true ?_,decide_eq_true ?_⟩,h5⟩<;>simp only[iv]<;>omega
end
end Go.Lw
namespace Go.Lw
open Go.Proofs
attribute [local irreducible] RL RA
def ue (l:br) (i:Int):Int × Bool:=if i=l.aF.index then (l.aF.ab,true) else match l.entries.find? fun e=>decide (e.index=i) with
 | some e=>(e.ab,true)
 | none=>(0,false)
theorem acm {p:aA→Bool} {l:List aA} {k:Nat} (hk:k<l.length) (h:(l.take k).find? p=none) (hp:p l[k]=true):l.find? p=some l[k]:=by
 conv=>lhs;rw[←List.take_append_drop k l]
 rw[List.find?_append,h,Option.none_or,List.drop_eq_getElem_cons hk]
 exact List.find?_cons_of_pos hp
theorem acp {p:aA→Bool} {l:List aA} {k:Nat} (hk:k<l.length) (h:(l.take k).find? p=none) (hp:p l[k]=false):(l.take (k+1)).find? p=none:=by
 rw[show l.take (k+1)=l.take k++[l[k]] by simp only[List.take_add_one,List.getElem?_eq_getElem hk];rfl,List.find?_append,h]
 simp[hp]
section
variable {w:World} {s:aj} {os:List aj}
theorem aaN {l:br} {h:Hd} {i:Int} (hg:ak w s os) (hl:d_ s s l h) :
  Calls Tryz.prog 13 #[gY l h,u64 i] w (aQ w s os fun q=>q = .tuple #[u64 (ue l i).1,.bool (ue l i).2]):=by
 have hm:=hl.entries.gL
 simp only[maxLen] at hm
 refine enter (l:=[gY l h,u64 i]) Tryz.func13 rfl Tryz.ntmps13 rfl ?_
 refine go 3 ?_
 rintro b1 w1 Q1 aH aN cz
 refine go 13 ?_
 refine CW.cond rfl (fun jo=>?_) (fun jo=>?_)
 refine go 8 ?_
 refine CW.ret (nC ?_)
 have h0:i=l.aF.index:=by simpa using jo
 exact aQ.mq (aH.drop) (by simp only[ue,if_pos h0];rfl)
 have h0:¬ i=l.aF.index:=by simpa using jo
 refine go 7 ?_
 refine CW.loop (σ:=Nat) (fun j E w'=>∃ k:Nat,ak w' s (Q1::os)∧ar w w'∧E=[(1,u64 i),(2,ptr b1),(6,i64 k)]∧k+j=l.entries.length∧(l.entries.take k).find? (fun e=>decide (e.index=i))=none) (fun j=>j) l.entries.length [(1,u64 i),(2,ptr b1),(6,i64 0)] ⟨rfl,rfl,rfl,trivial⟩ ⟨0,aH,aN,rfl,by omega,rfl⟩ ?_
 rintro j E wL ⟨k,cd,cQ,rfl,hk,hn⟩
 refine go 9 ?_
 refine CW.cond rfl (fun oh=>?_) (fun oh=>?_)
 have be:k<l.entries.length:=by have:=bU oh;omega
 refine go 8 ?_
 refine RL.dX rfl rfl rfl rfl de.out rfl rfl hl.entries (by omega) (by omega) ?_
 rintro q vs eH hH ⟨ea,ec,ea1,ec1,ea2,ec2,rfl,er1,er2,er3,eh1,eh2,eh3⟩
 refine go 1 ?_
 refine RL.load (j:=0) rfl rfl rfl rfl aV.out rfl (hH) (cd.sh) rfl ?_
 refine go 3 ?_
 refine CW.cond rfl (fun iB=>?_) (fun iB=>?_)
 refine go 5 ?_
 refine RL.dX rfl rfl rfl rfl de.out rfl rfl hl.entries (by omega) (by omega) ?_
 rintro q2 vs2 oE eS ⟨fa,fc,fa1,fc1,fa2,fc2,rfl,fr1,fr2,fr3,fh1,fh2,fh3⟩
 refine go 1 ?_
 refine RL.load (j:=1) rfl rfl rfl rfl aV.out rfl (eS) (cd.sh) rfl ?_
 refine go 3 ?_
 refine CW.ret (nC ?_)
 have hf:=acm (p:=fun e=>decide (e.index=i)) be hn (by simpa using iB)
 exact aQ.mq (cd.drop) (by simp only[ue,if_neg h0,hf];rfl)
 refine go 6 ?_
 have hf:=acp (p:=fun e=>decide (e.index=i)) be hn (by simpa using iB)
 cases j with
 | zero=>omega
 | succ j=>exact fun ac ha=>⟨j,[(1,u64 i),(2,ptr b1),(6,i64 ((k:Int)+1))],ha.sub ⟨rfl,rfl,rfl,trivial⟩,⟨k+1,cd,cQ,rfl,by omega,hf⟩,Nat.lt_succ_self j⟩
 refine go 6 ?_
 refine CW.ret (nC ?_)
 have cv:k=l.entries.length:=by have:=ct oh;omega
 rw[cv,List.take_length] at hn
 exact aQ.mq (cd.drop) (by simp only[ue,if_neg h0,hn];rfl)
end
end Go.Lw
namespace Go.Lw
open Go.Proofs
attribute [local irreducible] RL RA
section
variable {w:World} {s:aj} {os:List aj}
theorem Mf {x:aA} {us vs:List Value} (hg:ak w s os) (hu:bg s us x) (hv:bg s vs x) :
  Calls Tryz.prog 44 #[.agg us.toArray,.agg vs.toArray] w (aQ w s os fun r=>r = .bool true):=by
 obtain⟨a1,c1,a2,c2,a3,c3,rfl,r1,r2,r3,i1,i2,i3⟩:=hu
 obtain⟨b1,d1,b2,d2,b3,d3,rfl,_,_,_,j1,j2,j3⟩:=hv
 refine enter (l:=[.agg #[u64 x.index,u64 x.ab,i64 x.ao,.slice a1 x.data.length c1,.slice a2 x.aJ.av.length c2,.slice a3 x.aJ.aD.length c3],.agg #[u64 x.index,u64 x.ab,i64 x.ao,.slice b1 x.data.length d1,.slice b2 x.aJ.av.length d2,.slice b3 x.aJ.aD.length d3]]) Tryz.func44 rfl Tryz.ntmps44 rfl ?_
 refine go 3 ?_
 rintro b1 w1 Q1 aH aN cz
 refine go 2 ?_
 rintro b2 w2 Q2 aS aR gj
 refine go 10 ?_
 refine zw (Mg aS ⟨_,_,_,_,rfl,i2,i3⟩ ⟨_,_,_,_,rfl,j2,j3⟩) ?_
 rintro v3 w3 aP bw rfl
 refine go 7 ?_
 refine RL.part 12 rfl (fun lB=>?_) (fun lB=>?_)
 refine go 7 ?_
 refine RL.part 19 rfl (fun oh=>?_) (fun oh=>?_)
 refine go 7 ?_
 refine RL.part 26 rfl (fun il=>?_) (fun il=>?_)
 refine go 7 ?_
 refine RL.part 33 rfl (fun iV=>?_) (fun iV=>?_)
 refine go 2 ?_
 refine RL.Jd rfl rfl rfl rfl j_.out Tryz.underlying5 Tryz.underlying9 rfl (i1.2.2) (aP.sh) ?_
 refine go 2 ?_
 refine RL.Jd rfl rfl rfl rfl j_.out Tryz.underlying5 Tryz.underlying9 rfl (j1.2.2) (aP.sh) ?_
 refine RL.YB rfl rfl rfl rfl rfl rfl ?_
 refine go 3 ?_
 refine CW.ret (bP ?_)
 refine aQ.mq ((aP.drop).drop) (congrArg Value.bool ?_)
 simp_all
 refine go 10 ?_
 refine CW.ret (bP ?_)
 refine aQ.mq ((aP.drop).drop) (congrArg Value.bool ?_)
 simp_all
 refine go 17 ?_
 refine CW.ret (bP ?_)
 refine aQ.mq ((aP.drop).drop) (congrArg Value.bool ?_)
 simp_all
 refine go 24 ?_
 refine CW.ret (bP ?_)
 refine aQ.mq ((aP.drop).drop) (congrArg Value.bool ?_)
 simp_all
 refine go 31 ?_
 refine CW.ret (bP ?_)
 refine aQ.mq ((aP.drop).drop) (congrArg Value.bool ?_)
 simp_all
theorem aaL {x:gE} {a1 c1 a2 c2 a3 c3 b1 d1 b2 d2 b3 d3} (hg:ak w s os) (i1:bm (ax .i64) 1 s a1 c1 x.aJ.av) (i2:bm (ax .i64) 1 s a2 c2 x.aJ.aD) (i3:bm (ax .u8) 1 s a3 c3 x.data) (j1:bm (ax .i64) 1 s b1 d1 x.aJ.av) (j2:bm (ax .i64) 1 s b2 d2 x.aJ.aD) (j3:bm (ax .u8) 1 s b3 d3 x.data) :
  Calls Tryz.prog 120 #[.agg #[u64 x.index,u64 x.ab,.slice a1 x.aJ.av.length c1,.slice a2 x.aJ.aD.length c2,.slice a3 x.data.length c3],.agg #[u64 x.index,u64 x.ab,.slice b1 x.aJ.av.length d1,.slice b2 x.aJ.aD.length d2,.slice b3 x.data.length d3]] w (aQ w s os fun r=>r = .bool true):=by
 refine enter (l:=[.agg #[u64 x.index,u64 x.ab,.slice a1 x.aJ.av.length c1,.slice a2 x.aJ.aD.length c2,.slice a3 x.data.length c3],.agg #[u64 x.index,u64 x.ab,.slice b1 x.aJ.av.length d1,.slice b2 x.aJ.aD.length d2,.slice b3 x.data.length d3]]) Tryz.func120 rfl Tryz.ntmps120 rfl ?_
 refine go 3 ?_
 rintro b4 w4 Q4 bp bJ o3
 refine go 2 ?_
 rintro b5 w5 Q5 bh bQ mm
 refine go 10 ?_
 refine zw (Mg bh ⟨_,_,_,_,rfl,i1,i2⟩ ⟨_,_,_,_,rfl,j1,j2⟩) ?_
 rintro v6 w6 bx bM rfl
 refine go 7 ?_
 refine RL.part 12 rfl (fun lB=>?_) (fun lB=>?_)
 refine go 7 ?_
 refine RL.part 19 rfl (fun oh=>?_) (fun oh=>?_)
 refine go 7 ?_
 refine RL.part 26 rfl (fun il=>?_) (fun il=>?_)
 refine go 2 ?_
 refine RL.Jd rfl rfl rfl rfl j_.out Tryz.underlying5 Tryz.underlying9 rfl (i3.2.2) (bx.sh) ?_
 refine go 2 ?_
 refine RL.Jd rfl rfl rfl rfl j_.out Tryz.underlying5 Tryz.underlying9 rfl (j3.2.2) (bx.sh) ?_
 refine RL.YB rfl rfl rfl rfl rfl rfl ?_
 refine go 3 ?_
 refine CW.ret (bP ?_)
 refine aQ.mq ((bx.drop).drop) (congrArg Value.bool ?_)
 simp_all
 refine go 10 ?_
 refine CW.ret (bP ?_)
 refine aQ.mq ((bx.drop).drop) (congrArg Value.bool ?_)
 simp_all
 refine go 17 ?_
 refine CW.ret (bP ?_)
 refine aQ.mq ((bx.drop).drop) (congrArg Value.bool ?_)
 simp_all
 refine go 24 ?_
 refine CW.ret (bP ?_)
 refine aQ.mq ((bx.drop).drop) (congrArg Value.bool ?_)
 simp_all
theorem aaI {r1 r2:aj} {xs:List aA} {a b:Option Addr} {c d:Nat} (hg:ak w s os) (h1:r1=s∨r1∈os) (h2:r2=s∨r2∈os) (ha:ee bg 6 r1 s a c xs) (hb:ee bg 6 r2 s b d xs) :
  Calls Tryz.prog 121 #[.slice a xs.length c,.slice b xs.length d] w (aQ w s os fun r=>r = .bool true):=by
 have ni:=ha.gL
 simp only[maxLen] at ni
 refine enter (l:=[.slice a xs.length c,.slice b xs.length d]) Tryz.func121 rfl Tryz.ntmps121 rfl ?_
 refine go 13 ?_
 refine CW.cond rfl (fun jo=>?_) (fun jo=>?_)
 simp at jo
 refine go 7 ?_
 refine CW.loop (σ:=Nat) (fun j E w'=>∃ k:Nat,E=[(0,.slice a xs.length c),(1,.slice b xs.length d),(5,i64 k)]∧ak w' s os∧ar w w'∧k+j=xs.length) (fun j=>j) xs.length [(0,.slice a xs.length c),(1,.slice b xs.length d),(5,i64 0)] ⟨rfl,rfl,rfl,trivial⟩ ⟨0,rfl,hg,(ar.refl _),by omega⟩ ?_
 rintro j E wL ⟨k,rfl,cd,cQ,hk⟩
 refine go 8 ?_
 refine CW.cond rfl (fun mG=>?_) (fun mG=>?_)
 have be:k<xs.length:=by have:=bU mG;omega
 refine go 4 ?_
 have bO:=cd.drew
 refine CW.iA [(true,0),(true,1),(true,2),(true,3),(true,4),(true,5),(true,6),(true,7),(false,8),(false,9)] (fun w=>ak w s os∧True) mixed (by kernel_rfl) (by kernel_rfl) (by kernel_rfl) (by kernel_rfl) (⟨bO,trivial⟩) ?_
 refine go 2 ?_
 refine RL.dX rfl rfl rfl rfl de.out rfl rfl ha (by omega) (by omega) ?_
 rintro q1 vs1 Ks oo UC
 have adn:=UC
 obtain⟨ea1,ec1,ea2,ec2,ea3,ec3,rfl,er1,er2,er3,eh1,eh2,eh3⟩:=adn
 refine RL.rB (j:=0) (us:=_) rfl rfl rfl rfl nv.out rfl (oo) (fun w h=>h.1.mI h1) rfl rfl ?_
 refine go 2 ?_
 refine RL.dX rfl rfl rfl rfl de.out rfl rfl hb (by omega) (by omega) ?_
 rintro q2 vs2 oE eS mi
 have Nz:=mi
 obtain⟨fa1,fc1,fa2,fc2,fa3,fc3,rfl,fr1,fr2,fr3,fh1,fh2,fh3⟩:=Nz
 refine RL.rB (j:=0) (us:=_) rfl rfl rfl rfl nv.out rfl (eS) (fun w h=>h.1.mI h2) rfl rfl ?_
 refine go 1 ?_
 refine zw (Mf bO UC mi) ?_
 rintro v8 w8 bD cM rfl
 refine⟨⟨bD,trivial⟩,?_⟩
 refine go 7 ?_
 refine CW.cond rfl (fun oU=>?_) (fun oU=>?_)
 simp at oU
 refine go 6 ?_
 cases j with
 | zero=>omega
 | succ j=>exact fun ac ha=>⟨j,[(0,.slice a xs.length c),(1,.slice b xs.length d),(5,i64 ((k:Int)+1))],ha.sub ⟨rfl,rfl,rfl,trivial⟩,⟨k+1,rfl,bD,(cQ.trans ((ar.drew _).trans cM)),by omega⟩,Nat.lt_succ_self j⟩
 refine go 5 ?_
 refine CW.ret (bP ?_)
 exact aQ.mq cd rfl
theorem aaK {r1 r2:aj} {l:br} {h k:Hd} (hg:ak w s os) (h1:r1=s∨r1∈os) (h2:r2=s∨r2∈os) (hl:d_ r1 s l h) (hk:d_ r2 s l k) :
  Calls Tryz.prog 87 #[gY l h,gY l k] w (aQ w s os fun r=>r = .bool true):=by
 refine enter (l:=[gY l h,gY l k]) Tryz.func87 rfl Tryz.ntmps87 rfl ?_
 refine go 3 ?_
 rintro b9 w9 Q9 bA cu rb
 refine go 2 ?_
 rintro qU eX mE bj cm fS
 refine go 10 ?_
 refine zw (aaL bj hl.av hl.aD hl.data hk.av hk.aD hk.data) ?_
 rintro uh iS cy dH rfl
 refine go 10 ?_
 refine zw (aaI cy (h1.imp id fun z=>by simp[z]) (h2.imp id fun z=>by simp[z]) hl.entries hk.entries) ?_
 rintro ui jA cw dK rfl
 refine go 7 ?_
 refine RL.part 18 rfl (fun jC=>?_) (fun jC=>?_)
 refine go 4 ?_
 refine CW.ret (bP ?_)
 refine aQ.mq ((cw.drop).drop) (congrArg Value.bool ?_)
 simp_all
 refine go 4 ?_
 refine CW.ret (bP ?_)
 refine aQ.mq ((cw.drop).drop) (congrArg Value.bool ?_)
 simp_all
end
end Go.Lw
namespace Go.Lw
open Go.Proofs
attribute [local irreducible] RL RA
section
variable {w:World} {s r:aj} {os:List aj}
theorem Md {e:aA} {vs:List Value} (hg:ak w s os) (hE:bg s vs e) (hb:e.bL) :
  Calls Tryz.prog 84 #[.agg vs.toArray] w (aw w s os fun s' _ q=>∃ us,q = .agg us.toArray∧bg s' us e):=by
 obtain⟨a,c,a1,c1,a2,c2,rfl,r1,r2,r3,h1,h2,h3⟩:=hE
 have cz:=hb.1
 refine enter (l:=[.agg #[u64 e.index,u64 e.ab,i64 e.ao,.slice a e.data.length c,.slice a1 e.aJ.av.length c1,.slice a2 e.aJ.aD.length c2]]) Tryz.func84 rfl Tryz.ntmps84 rfl ?_
 refine go 3 ?_
 rintro b1 w1 Q1 aH aN cz
 refine go 2 ?_
 rintro b2 w2 Q2 aS aR gj
 refine go 5 ?_
 rintro b3 w3 Q3 aP bw ks
 refine go 3 ?_
 obtain⟨aqp,ag5,aek⟩:=(cU.row (r:=s) (c:=c) j_.out h1.2.2 aP.sh)
 refine RL.gQ (i:=0) (xs:=[]) (ys:=e.data) rfl rfl rfl rfl j_.out yK.out rfl (ax.one .u8) (rfl) rfl aP rfl (aW.empty ks) ag5 aek ((by simp only[List.length_nil];omega)) (by omega) ?_
 rintro a4 c4 A4 w4 bp rl bJ J3 Cd
 rw[List.nil_append] at rl
 have je:=rl
 refine go 3 ?_
 rintro w5 Q5 bh bQ mm
 refine go 7 ?_
 refine zc (IV bh ⟨_,_,_,_,rfl,h2,h3⟩ hb.2.ic) ?_
 rintro v6 s6 B6 w6 jv bx bM ⟨us10,rfl,NO⟩
 have bx:=bx.drop
 have h1:=h1.up (ax.up _) jv
 have h2:=h2.up (ax.up _) jv
 have h3:=h3.up (ax.up _) jv
 obtain⟨va,vc,la,lc,rfl,fN,gl⟩:=NO
 have je:=je.up (ax.up _) jv
 refine go 3 ?_
 rintro w7 Q7 bO cj qu
 refine go 6 ?_
 rintro w8 Q8 bD cM ra
 refine go 2 ?_
 refine CW.ret (ret (vs:=[_]) ⟨_,_,_,rfl,rfl,zl ra,rfl⟩ ?_)
 obtain⟨s1,fw,bN,cH⟩:=bD.bY
 exact aw.mk (jv.trans bN) fw.drop.drop.nil (aN.trans (aR.trans (bw.trans (bJ.trans (bQ.trans (bM.trans (cj.trans cM))))))) ⟨_,rfl,_,_,va,vc,la,lc,rfl,r1,r2,r3,je.ci (ax.up _) bN cH,fN.up (ax.up _) bN,gl.up (ax.up _) bN⟩
theorem SB {xs:List aA} {a:Option Addr} {c:Nat} (hg:ak w s os) (hr:r=s∨r∈os) (hl:ee bg 6 r s a c xs) (tG:∀ e∈xs,e.bL) (hb:xs.length≤1099511627776) :
  Calls Tryz.prog 80 #[.slice a xs.length c] w (aw w s os fun s' A q=>∃ a' c',q = .slice a' xs.length c'∧aW bg 6 65 s' A a' c' xs):=by
 refine enter (l:=[.slice a xs.length c]) Tryz.func80 rfl Tryz.ntmps80 rfl ?_
 refine go 14 ?_
 refine CW.loop (σ:=Nat) (fun j E w'=>∃ s' A' a' c',∃ k:Nat,ak w' s' (A'::os)∧ar w w'∧Le s s'∧E=[(0,.slice a xs.length c),(3,.slice a' (xs.take k).length c'),(4,i64 k)]∧k+j=xs.length∧aW bg 6 65 s' A' a' c' (xs.take k)) (fun j=>j) xs.length [(0,.slice a xs.length c),(3,.slice none 0 0),(4,i64 0)] ⟨rfl,rfl,rfl,trivial⟩ ⟨s,aj.nil,none,0,0,hg.nil,(ar.refl _),(Le.refl _),rfl,by omega,aW.nil _ _ _ _ _⟩ ?_
 rintro j E wL ⟨sL,AL,aL,cL,k,cd,cQ,fk,rfl,hk,gp⟩
 refine go 8 ?_
 refine CW.cond rfl (fun h8=>?_) (fun h8=>?_)
 have be:k<xs.length:=by have:=bU h8;omega
 obtain⟨rL,hrL,hlL⟩:=hl.grow bg.up hr fk
 refine go 7 ?_
 refine RL.dX rfl rfl rfl rfl de.out rfl rfl hlL (by omega) (by omega) ?_
 rintro q vs eH hH hE
 have mi:=hE
 obtain⟨ea,ec,ea1,ec1,ea2,ec2,rfl,er1,er2,er3,eh1,eh2,eh3⟩:=mi
 refine RL.gX (j:=0) (us:=_) rfl rfl rfl rfl nv.out rfl (hH) (cd.mI (hrL.imp id (List.mem_cons_of_mem _))) rfl rfl ?_
 refine go 1 ?_
 refine zc (Md cd hE (tG _ (List.getElem_mem _))) ?_
 rintro v9 s9 B9 w9 jc bA cu ⟨us,rfl,hU⟩
 have bA:=bA.drop
 have gp:=gp.up bg.up jc
 obtain⟨ua,uc,ua1,uc1,ua2,uc2,rfl,Gk⟩:=hU
 refine go 2 ?_
 rintro qU eX mE bj cm fS
 refine go 1 ?_
 obtain⟨aip,PX,Ok⟩:=(tX (R:=bg) (xs:=[xs[k]]) de.out fS (bj.mem (by simp)) (cF.jy rfl ⟨_,_,_,_,_,_,rfl,Gk⟩))
 refine RL.gQ (i:=1) (xs:=xs.take k) (ys:=[xs[k]]) rfl rfl rfl rfl de.out rI.out rfl bg.one (rfl) rfl bj rfl (gp) PX Ok ((by rw[List.length_take,List.length_singleton];omega)) (by omega) ?_
 rintro Mi Mt Am iS cy Hk dH ae8 afS
 have qD:=Hk
 rw[←List.take_succ_eq_append_getElem be] at qD
 refine go 8 ?_
 rw[←List.take_succ_eq_append_getElem be]
 cases j with
 | zero=>omega
 | succ j=>exact fun ac ha=>⟨j,[(0,.slice a xs.length c),(3,.slice _ (xs.take (k+1)).length _),(4,i64 ((k:Int)+1))],ha.sub ⟨rfl,rfl,rfl,trivial⟩,⟨_,_,_,_,k+1,((cy.ae 1 rfl).cC 1),(cQ.trans (cu.trans (cm.trans dH))),(fk.trans jc),rfl,by omega,qD⟩,Nat.lt_succ_self j⟩
 refine go 6 ?_
 refine CW.ret (bP ?_)
 have cv:k=xs.length:=by have:=ct h8;omega
 rw[cv,List.take_length] at gp ⊢
 exact aw.mq cd ⟨_,_,rfl,gp⟩
theorem aaH {x:gE} {a1 c1 a2 c2 a3 c3} (hg:ak w s os) (i1:bm (ax .i64) 1 s a1 c1 x.aJ.av) (i2:bm (ax .i64) 1 s a2 c2 x.aJ.aD) (i3:bm (ax .u8) 1 s a3 c3 x.data) (hb:x.data.length≤1073741824) (hc:x.aJ.bL) :
  Calls Tryz.prog 86 #[.agg #[u64 x.index,u64 x.ab,.slice a1 x.aJ.av.length c1,.slice a2 x.aJ.aD.length c2,.slice a3 x.data.length c3]] w (aw w s os fun s' _ q=>∃ b1 d1 b2 d2 b3 d3,q = .agg #[u64 x.index,u64 x.ab,.slice b1 x.aJ.av.length d1,.slice b2 x.aJ.aD.length d2,.slice b3 x.data.length d3]∧bm (ax .i64) 1 s' b1 d1 x.aJ.av∧bm (ax .i64) 1 s' b2 d2 x.aJ.aD∧bm (ax .u8) 1 s' b3 d3 x.data):=by
 refine enter (l:=[.agg #[u64 x.index,u64 x.ab,.slice a1 x.aJ.av.length c1,.slice a2 x.aJ.aD.length c2,.slice a3 x.data.length c3]]) Tryz.func86 rfl Tryz.ntmps86 rfl ?_
 refine go 3 ?_
 rintro kJ jA me cw dK ml
 refine go 2 ?_
 rintro oP ji m7 dd eh nQ
 refine go 7 ?_
 refine zc (IV dd ⟨_,_,_,_,rfl,i1,i2⟩ hc.ic) ?_
 rintro Iw vE B14 nw gm ck g_ ⟨us10,rfl,NO⟩
 have ck:=ck.drop
 have i1:=i1.up (ax.up _) gm
 have i2:=i2.up (ax.up _) gm
 have i3:=i3.up (ax.up _) gm
 obtain⟨va,vc,la,lc,rfl,fN,gl⟩:=NO
 refine go 3 ?_
 rintro n_ xj dt iW q_
 refine go 5 ?_
 rintro xm md vT eC ie qt
 refine go 3 ?_
 obtain⟨air,PZ,Om⟩:=(cU.row (r:=vE) (c:=c3) j_.out i3.2.2 eC.sh)
 refine RL.gQ (i:=0) (xs:=[]) (ys:=x.data) rfl rfl rfl rfl j_.out yK.out rfl (ax.one .u8) (rfl) rfl eC rfl (aW.empty qt) PZ Om ((by simp only[List.length_nil];omega)) (by omega) ?_
 rintro Mj Mu Fy ny eZ Eu hY ae_ afU
 rw[List.nil_append] at Eu
 have je:=Eu
 refine go 3 ?_
 rintro oM vU fd iC rY
 refine go 6 ?_
 rintro pF qS fU jr o0
 refine go 2 ?_
 refine CW.ret (ret (vs:=[_]) ⟨_,_,_,rfl,rfl,zl o0,rfl⟩ ?_)
 obtain⟨s1,fw,bN,cH⟩:=fU.bY
 exact aw.mk (gm.trans bN) fw.drop.drop.nil (dK.trans (eh.trans (g_.trans (iW.trans (ie.trans (hY.trans (iC.trans jr))))))) ⟨va,vc,la,lc,_,_,rfl,fN.up (ax.up _) bN,gl.up (ax.up _) bN,je.ci (ax.up _) bN cH⟩
end
end Go.Lw
namespace Go.Lw
open Go.Proofs
attribute [local irreducible] RL RA
section
variable {w:World} {s r:aj} {os:List aj}
theorem abN {m:az} {y:cG} (hg:ak w s os) (hm:du s m y) (hs:m.bL) :
  Calls Tryz.prog 40 #[.agg (gZ m y).toArray] w (aw w s os fun s' _ q=>∃ y',q = .agg (gZ m y').toArray∧du s' m y'):=by
 obtain⟨fw,nV,nW,Ez⟩:=hs
 refine enter (l:=[.agg (gZ m y).toArray]) Tryz.func40 rfl Tryz.ntmps40 rfl ?_
 refine go 3 ?_
 rintro b1 w1 Q1 aH aN cz
 refine go 2 ?_
 rintro b2 w2 Q2 aS aR gj
 refine go 7 ?_
 refine zc (SB aS (.inl rfl) hm.entries fw (by omega)) ?_
 rintro v3 s3 Q3 w3 cO aP bw ⟨a5,c5,rfl,ms⟩
 have hm:=hm.up cO
 refine go 3 ?_
 rintro w4 Q4 bp bJ o3
 refine go 7 ?_
 refine zc (IV bp hm.aJ nW.ic) ?_
 rintro v5 s5 B5 w5 dz bh bQ ⟨us9,rfl,hU9⟩
 have bh:=bh.drop
 have hm:=hm.up dz
 obtain⟨va,vc,la,lc,rfl,fN,gl⟩:=hU9
 have ms:=ms.up bg.up dz
 refine go 3 ?_
 rintro w6 Q6 bx bM mn
 refine go 5 ?_
 rintro b7 w7 Q7 bO cj qu
 refine go 3 ?_
 obtain⟨aqq,ag6,ael⟩:=(cU.row (r:=s5) (c:=y.dc) j_.out hm.data.2.2 bO.sh)
 refine RL.gQ (i:=0) (xs:=[]) (ys:=m.data) rfl rfl rfl rfl j_.out yK.out rfl (ax.one .u8) (rfl) rfl bO rfl (aW.empty qu) ag6 ael ((by simp only[List.length_nil];omega)) (by omega) ?_
 rintro a8 c8 A8 w8 bD pf cM hk8 hn8
 rw[List.nil_append] at pf
 have je:=pf
 refine go 3 ?_
 rintro w9 Q9 bA cu rb
 refine go 6 ?_
 rintro eX mE bj cm fS
 refine go 2 ?_
 refine CW.ret (ret (vs:=[_]) ⟨_,_,_,rfl,rfl,zl fS,rfl⟩ ?_)
 obtain⟨s1,fw,bN,cH⟩:=(bj.ae 1 rfl).bY
 obtain⟨s2,nV,gV,mN⟩:=fw.bY
 exact aw.mk (((cO.trans dz).trans bN).trans gV) nV.drop.drop.nil (aN.trans (aR.trans (bw.trans (bJ.trans (bQ.trans (bM.trans (cj.trans (cM.trans (cu.trans cm))))))))) ⟨⟨a5,c5,va,vc,la,lc,_,_⟩,rfl,hm.ao,hm.am,hm.to,hm.ab,hm.index,hm.cn,hm.aB,hm.hint,ms.ci bg.up (bN.trans gV) (cH.trans gV),fN.up (ax.up _) (bN.trans gV),gl.up (ax.up _) (bN.trans gV),je.ci (ax.up _) (bN.trans gV) mN⟩
end
end Go.Lw
namespace Go.Lw.dF
section lists
variable {E:Type}
theorem tZ {a b:List E} (h:a <+: b):a=b.take a.length:=List.prefix_iff_eq_take.1 h
theorem j8 {a b:List E} (h:a <+: b) {k:Nat} {e:E} (hk:a[k]?=some e):b[k]?=some e:=by
 obtain⟨t,rfl⟩:=h
 rw[List.getElem?_append_left (List.getElem?_eq_some_iff.1 hk).1];exact hk
theorem Ac {a b c:List E} (h:a <+: c) (k:b <+: c) (hl:a.length≤b.length):a <+: b:=List.prefix_of_prefix_length_le h k hl
theorem gI {a:List E} {k:Nat} {e:E} (h:a[k]?=some e):k<a.length:=(List.getElem?_eq_some_iff.1 h).1
theorem y5 {a:List E} {k:Nat} (h:k<a.length):∃ e,a[k]?=some e:=⟨a[k],List.getElem?_eq_getElem h⟩
theorem rF {a:List E} {n k:Nat} {e:E} (h:(a.take n)[k]?=some e):a[k]?=some e∧k<n:=by
 have h1:=gI h
 rw[List.length_take] at h1
 rw[List.getElem?_take_of_lt (by omega)] at h
 exact⟨h,by omega⟩
theorem jZ {a:List E} {n k:Nat} {e:E} (h:a[k]?=some e) (hn:k<n):(a.take n)[k]?=some e:=by rw[List.getElem?_take_of_lt hn];exact h
end lists
section
variable {E C:Type} (tm:E→Int) (cf:E→Option C) (c0:C) (Q:C→(Int→Prop)→Prop)
def aJ (l:List E):C:=l.foldl (fun a e=>(cf e).getD a) c0
theorem MF (l:List E) (e:E):aJ cf c0 (l++[e])=(cf e).getD (aJ cf c0 l):=by unfold aJ;rw[List.foldl_append];rfl
theorem ab4 (l m:List E) (h:∀ e∈m,cf e=none):aJ cf c0 (l++m)=aJ cf c0 l:=by
 unfold aJ;rw[List.foldl_append]
 generalize List.foldl (fun a e=>(cf e).getD a) c0 l=z
 induction m generalizing z with
 | nil=>rfl
 | cons x m ih=>rw[List.foldl_cons,h x (List.mem_cons_self ..)];exact ih (fun e he=>h e (List.mem_cons_of_mem _ he)) z
def m9 (l:List E) (i j:Nat):Prop:=∀ q,i≤q→q<j→∀ e,l[q]?=some e→cf e=none
theorem DC {l:List E} {i j:Nat} (h:m9 cf l i j) (iE:i≤j):aJ cf c0 (l.take j)=aJ cf c0 (l.take i):=by
 have e:l.take j=l.take i++(l.drop i).take (j-i):=by
  rw[show j=i+(j-i) by omega,List.take_add];congr 2;omega
 rw[e]
 refine ab4 _ _ _ _ fun x hx=>?_
 obtain⟨q,hq,rfl⟩:=List.getElem_of_mem hx
 have h1:q<j-i:=by rw[List.length_take] at hq;omega
 rw[List.length_take,List.length_drop] at hq
 refine h (i+q) (by omega) (by omega) _ ?_
 rw[List.getElem?_eq_getElem (by omega),List.getElem_take,List.getElem_drop]
theorem EO (l:List E):m9 cf l 0 l.length∧aJ cf c0 l=c0∨∃ p e,l[p]?=some e∧cf e=some (aJ cf c0 l)∧m9 cf l (p+1) l.length:=by
 obtain⟨n,hn⟩:∃ n,n=l.length:=⟨_,rfl⟩
 induction n generalizing l with
 | zero =>
  have:l=[]:=List.eq_nil_of_length_eq_zero hn.symm
  subst this
  exact .inl ⟨fun q _ h=>absurd h (Nat.not_lt_zero _),rfl⟩
 | succ n ih =>
  obtain⟨m,x,rfl⟩:∃ m x,l=m++[x]:=by
   have:l≠[]:=fun h=>by rw[h] at hn;cases hn
   exact⟨l.dropLast,l.getLast this,(List.dropLast_concat_getLast this).symm⟩
  have hm:n=m.length:=by simp at hn;exact hn
  rw[MF]
  cases hx:cf x with
  | some c=>exact .inr ⟨m.length,x,by simp,by simpa using hx,fun q h1 h2=>by simp at h2;omega⟩
  | none =>
   have hq:∀ i,m9 cf m i m.length→m9 cf (m++[x]) i (m++[x]).length:=fun i h q h1 h2 e he=>by
    by_cases be:q<m.length
    rw[List.getElem?_append_left be] at he;exact h q h1 be e he
    have:q=m.length:=by simp at h2;omega
    subst this
    simp at he;subst he;exact hx
   rcases ih m hm with ⟨h1,h2⟩ | ⟨p,e,h1,h2,h3⟩
   exact .inl ⟨hq 0 h1,h2⟩
   exact .inr ⟨p,e,by rw[List.getElem?_append_left (gI h1)];exact h1,h2,hq _ h3⟩
structure Rec (E:Type) where
 aI:Int→List E
 dv:Int→Int→Nat
 ev:Int→Nat→Nat→Prop
 aT:Int→Int→Int
variable (g:Rec E)
def jW (l:List E):Prop:=∀ k e,l[k]?=some e→l.take (k+1) <+: g.aI (tm e)
def E7 (l v:List E):Prop:=v=[]∨∃ a b,v.getLast?=some a∧l.getLast?=some b∧(tm a<tm b∨tm a=tm b∧v.length≤l.length)
def parts (t u:Int) (k:Nat):Prop:=∃ q,q<k∧∃ a b,(g.aI t)[q]?=some a∧(g.aI u)[q]?=some b∧a≠b
theorem parts.not {g:Rec E} {t u:Int} {k:Nat} (h:parts g t u k):¬ (g.aI t).take k <+: g.aI u:=fun hp=>by
 obtain⟨q,hq,a,b,ha,hb,lf⟩:=h
 have:=j8 hp (jZ ha hq)
 rw[hb] at this
 exact lf (Option.some.inj this).symm
def keeps (j T:Int) (v:List E):Prop:=∀ t k,0<k→k≤g.dv j t→t<T→(g.aI t).take k <+: v∨∃ u,t<u∧u<T∧parts g t u k
structure qm (T:Int) (l:List E):Prop where
 gw:jW tm g l
 ff:∀ e∈l,tm e<T
 Ad:Q (aJ cf c0 l) fun j=>g.aT j T≠0∧∃ v,jW tm g v∧E7 tm l v∧keeps g j T v
structure vL (T:Int) (l:List E):Prop where
 gw:jW tm g l
 ff:∀ e∈l,tm e<T
 Ad:Q (aJ cf c0 l) fun j=>∃ v,jW tm g v∧E7 tm l v∧∀ t k n,g.ev t k n→k≤g.dv j t→t<T→(g.aI t).take k <+: v∨∃ u,t<u∧u<T∧parts g t u k
variable (near:C→C→Prop)
structure oO:Prop where
 gw:∀ t,jW tm g (g.aI t)
 mono:∀ (t:Int) (i j:Nat) (a b:E),i≤j→(g.aI t)[i]?=some a→(g.aI t)[j]?=some b→tm a≤tm b
 le:∀ t e,e∈g.aI t→tm e≤t
 kA:∀ t,g.aI t≠[]→0≤t
 change:∀ t p e c,(g.aI t)[p]?=some e→tm e=t→cf e=some c→∃ k n,g.ev t k n∧n≤p∧m9 cf (g.aI t) k p∧near (aJ cf c0 ((g.aI t).take p)) c
 rR:∀ t k n,g.ev t k n→0<k∧k≤n∧n≤(g.aI t).length∧(∃ e,(g.aI t)[k-1]?=some e∧tm e=t)∧Q (aJ cf c0 ((g.aI t).take n)) fun j=>k≤g.dv j t
 FX:∀ t,g.aI t≠[]→∃ l,l <+: g.aI t∧qm tm cf c0 Q g t l
variable {tm cf c0 Q g near}
theorem jW.aZ {l:List E} (h:jW tm g l) {b:E} (hb:l.getLast?=some b):l <+: g.aI (tm b):=by
 rw[List.getLast?_eq_getElem?] at hb
 have h1:=h _ _ hb
 have h2:=gI hb
 rwa[show l.length-1+1=l.length by omega,List.take_length] at h1
theorem jW.mono {l:List E} (h:jW tm g l) (hg:oO tm cf c0 Q g near) {i j:Nat} {a b:E} (iE:i≤j) (ha:l[i]?=some a) (hb:l[j]?=some b):tm a≤tm b :=
 hg.mono _ i j a b iE (j8 (h j b hb) (jZ ha (by omega))) (j8 (h j b hb) (jZ hb (by omega)))
structure vS (Q:C→(Int→Prop)→Prop) (near:C→C→Prop):Prop where
 one:∀ c S S',Q c S→Q c S'→∃ j,S j∧S' j
 wZ:∀ c d S S',near c d→Q c S→Q d S'→∃ j,S j∧S' j
 mono:∀ c S S',Q c S→(∀ j,S j→S' j)→Q c S'
theorem qm.SO (hg:oO tm cf c0 Q g near) (hm:vS Q near) {T:Int} {l:List E} (h:qm tm cf c0 Q g T l):vL tm cf c0 Q g T l :=
 ⟨h.gw,h.ff,hm.mono _ _ _ h.Ad fun j ⟨_,v,h1,h2,h3⟩=>⟨v,h1,h2,fun t k n he hk ht=>h3 t k (hg.rR t k n he).1 hk ht⟩⟩
theorem MD (hg:oO tm cf c0 Q g near) (hm:vS Q near) {T:Int} {l:List E} (he:vL tm cf c0 Q g T l)
  (ih:∀ u,u<T→g.aI u≠[]→∀ t k n,g.ev t k n→t<u→(g.aI t).take k <+: g.aI u) :
  ∀ (t:Int) (k n:Nat),g.ev t k n→t<T→(g.aI t).take k <+: l:=by
 intro t k n iZ ht
 obtain⟨ng,o7,mr,⟨ek,xL,aeu⟩,hQ⟩:=hg.rR t k n iZ
 have bH:g.aI t≠[]:=fun h=>by rw[h] at xL;cases xL
 have fin:(∀ S S',Q (aJ cf c0 ((g.aI t).take n)) S→Q (aJ cf c0 l) S'→∃ j,S j∧S' j)→(g.aI t).take k <+: l:=fun Ht=>by
  obtain⟨j,NV,v,j5,pb,wq⟩:=Ht _ _ hQ he.Ad
  have hv:(g.aI t).take k <+: v:=by
   rcases wq t k n iZ NV ht with h | ⟨u,h1,h2,h4⟩
   exact h
   refine absurd (ih u h2 (fun hz=>?_) t k n iZ h1) h4.not
   obtain⟨q,-,a,b,-,hb,-⟩:=h4
   rw[hz] at hb;cases hb
  have Qh:=j8 hv (jZ xL (by omega))
  rcases pb with rfl | ⟨a,b,ha,hb,lf⟩
  cases Qh
  have fN:=j5.aZ ha
  have Ek:=he.gw.aZ hb
  have qB:v[v.length-1]?=some a:=by rwa[←List.getLast?_eq_getElem?]
  have lm:t≤tm a:=by rw[←aeu];exact j5.mono hg (by have:=gI Qh;omega) Qh qB
  rcases lf with lf | ⟨lf,bV⟩
  have hbT:=he.ff b (List.mem_of_getLast? hb)
  have aea:g.aI (tm b)≠[]:=fun h=>by
   rw[h] at Ek;have:=List.prefix_nil.1 Ek;rw[this] at hb;cases hb
  have h1:=ih (tm b) hbT aea t k n iZ (by omega)
  refine Ac h1 Ek ?_
  rw[List.length_take]
  refine Classical.byContradiction fun hc=>?_
  have io:l[l.length-1]?=some b:=by rwa[←List.getLast?_eq_getElem?]
  have:=hg.mono (tm b) (l.length-1) (k-1) b ek (by omega) (j8 Ek io) (j8 h1 (jZ xL (by omega)))
  omega
  rw[lf] at fN
  exact hv.trans (Ac fN Ek bV)
 -- where the leader's own configuration jS, and what was committed ahead of it
 have anchor:∃ κ:Nat,(g.aI t).take κ <+: l∧(aJ cf c0 ((g.aI t).take κ)=aJ cf c0 ((g.aI t).take n)∨near (aJ cf c0 ((g.aI t).take κ)) (aJ cf c0 ((g.aI t).take n))) ∧
   (m9 cf (g.aI t) 0 n∧κ=0∨∃ p e,p<n∧κ≤p∧(g.aI t)[p]?=some e∧cf e=some (aJ cf c0 ((g.aI t).take n))∧m9 cf (g.aI t) (p+1) n∧m9 cf (g.aI t) κ p∧(0<κ∧∃ x,(g.aI t)[κ-1]?=some x∧tm x=tm e)):=by
  rcases EO cf c0 ((g.aI t).take n) with ⟨h1,h2⟩ | ⟨p,e,h1,h2,h3⟩
  refine⟨0,by simp,.inl ?_,.inl ⟨fun q h0 hq x hx=>h1 q h0 (by rw[List.length_take];omega) x (jZ hx hq),rfl⟩⟩
  rw[h2];rfl
  obtain⟨hp,rp⟩:=rF h1
  have hs:(g.aI t).take (p+1) <+: g.aI (tm e):=hg.gw t p e hp
  have vh:=j8 hs (jZ hp (by omega))
  obtain⟨κ,n',GH,xV,oy,Ke⟩:=hg.change (tm e) p e _ vh rfl h2
  obtain⟨hκ0,hκn,hn'l,⟨ex,xM,aez⟩,-⟩:=hg.rR _ _ _ GH
  have cc:tm e≤t:=hg.le t e (List.mem_of_getElem? hp)
  have EB:(g.aI (tm e)).take κ=(g.aI t).take κ:=by
   have h4:=tZ hs
   rw[List.length_take,show min (p+1) (g.aI t).length=p+1 by have:=gI hp;omega] at h4
   have h5:=congrArg (List.take κ) h4
   rw[List.take_take,List.take_take,show min κ (p+1)=κ by omega] at h5
   exact h5.symm
  have ag9:(g.aI (tm e)).take p=(g.aI t).take p:=by
   have h4:=tZ hs
   rw[List.length_take,show min (p+1) (g.aI t).length=p+1 by have:=gI hp;omega] at h4
   have h5:=congrArg (List.take p) h4
   rw[List.take_take,List.take_take,show min p (p+1)=p by omega] at h5
   exact h5.symm
  have aeo:(tm e).toNat<t.toNat∨(tm e).toNat=t.toNat∧n'<n:=by
   have:=hg.kA t bH
   have:=hg.kA (tm e) fun h=>by rw[h] at vh;cases vh
   rcases Int.lt_or_eq_of_le cc with h | h
   exact .inl (by omega)
   exact .inr ⟨by rw[h],by omega⟩
  have Wk:(g.aI (tm e)).take κ <+: l:=by
   exact MD hg hm he ih (tm e) κ n' GH (by omega)
  rw[EB] at Wk
  have Vw:m9 cf (g.aI t) κ p:=fun q h4 h5 x hx=>oy q h4 h5 x (j8 hs (jZ hx (by omega)))
  refine⟨κ,Wk,.inr ?_,.inr ⟨p,e,rp,by omega,hp,h2,fun q h4 h5 x hx=>h3 q h4 (by rw[List.length_take];omega) x (jZ hx h5),Vw,hκ0,ex,?_,aez⟩⟩
  rw[←DC cf c0 Vw (by omega),← ag9];exact Ke
  have:=jZ xM (show κ-1<κ by omega)
  rw[EB] at this
  exact (rF this).1
 obtain⟨κ,hκl,hκc,hκp⟩:=anchor
 -- the candidate's configuration is what jS at the anchor
 have qe:m9 cf l κ l.length→(g.aI t).take k <+: l:=fun hf=>by
  have h1:aJ cf c0 l=aJ cf c0 ((g.aI t).take κ):=by
   by_cases hz:κ≤l.length
   have h2:=DC cf c0 hf hz
   rw[List.take_length] at h2
   rw[h2]
   have h3:=tZ hκl
   rcases hκp with ⟨-,rfl⟩ | ⟨p,e,rp,hκp',hp,-⟩
   rfl
   rw[List.length_take,show min κ (g.aI t).length=κ by have:=gI hp;omega] at h3
   rw[←h3]
   rcases hκp with ⟨-,rfl⟩ | ⟨p,e,rp,hκp',hp,-⟩
   omega
   have:=hκl.length_le
   rw[List.length_take] at this
   have:=gI hp
   omega
  rw[h1] at fin
  rcases hκc with h | h
  exact fin fun S S' a b=>hm.one _ S S' a (by rw[←h];exact b)
  exact fin fun S S' a b=>by
   obtain⟨j,x,y⟩:=hm.wZ _ _ S' S h b a
   exact⟨j,y,x⟩
 rcases EO cf c0 l with ⟨h1,-⟩ | ⟨p',e',h1,h2,h3⟩
 exact qe fun q _ hq x hx=>h1 q (Nat.zero_le _) hq x hx
 by_cases hpκ:p'<κ
 exact qe fun q h4 h5 x hx=>h3 q (by omega) h5 x hx
 have zS:l.take (p'+1) <+: g.aI (tm e'):=he.gw p' e' h1
 have wz:=j8 zS (jZ h1 (by omega))
 have afY:g.aI (tm e')≠[]:=fun h=>by rw[h] at wz;cases wz
 have Pe:=he.ff e' (List.mem_of_getElem? h1)
 obtain⟨κ',n',GH,xV,rc,V7⟩:=hg.change (tm e') p' e' _ wz rfl h2
 obtain⟨hκ0',hκn',hn'l',⟨ex',aey,aeA⟩,-⟩:=hg.rR _ _ _ GH
 rcases Int.lt_trichotomy t (tm e') with be | dO | GS
 -- the candidate's configuration is of a sy gq, RW mI it
 have h4:=ih (tm e') Pe afY t k n iZ be
 have h5:k≤p':=Classical.byContradiction fun hc=>by
  have:=hg.mono (tm e') p' (k-1) e' ek (by omega) wz (j8 h4 (jZ xL (by omega)))
  omega
 refine (Ac h4 zS ?_).trans (List.take_prefix _ _)
 rw[List.length_take,List.length_take];have:=gI h1;omega
 by_cases hkp:k≤p'+1
 refine (Ac (List.take_prefix _ _) (dO▸zS) ?_).trans (List.take_prefix _ _)
 rw[List.length_take,List.length_take];have:=gI h1;omega
 have oD:(g.aI t)[p']?=some e':=by rw[dO];exact wz
 rcases hκp with ⟨hf,-⟩ | ⟨p,e,rp,hκp',hp,zN,lV,BE,-⟩
 rw[hf p' (Nat.zero_le _) (by omega) e' oD] at h2;cases h2
 have h6:p'=p:=by
  rcases Nat.lt_trichotomy p' p with h | h | h
  rw[BE p' (by omega) h e' oD] at h2;cases h2
  exact h
  rw[lV p' (by omega) (by omega) e' oD] at h2;cases h2
 subst h6
 rw[oD] at hp
 cases hp
 rw[h2] at zN
 have h7:aJ cf c0 l=aJ cf c0 ((g.aI t).take n):=Option.some.inj zN
 exact fin fun S S' a b=>hm.one _ S S' a (by rw[←h7];exact b)
 have h4:=ih t ht bH (tm e') κ' n' GH GS
 have Vs:(g.aI t)[κ'-1]?=some ex':=j8 h4 (jZ aey (by omega))
 have h5:κ'<k:=Classical.byContradiction fun hc=>by
  have:=hg.mono t (k-1) (κ'-1) ek ex' (by omega) xL Vs
  omega
 have hκt:(g.aI (tm e')).take κ'=(g.aI t).take κ':=by
  have h6:=tZ h4
  rw[List.length_take,show min κ' (g.aI (tm e')).length=κ' by omega] at h6
  exact h6
 -- what jS Fo is the leader's own configuration
 have near1:m9 cf (g.aI t) κ' n→(g.aI t).take k <+: l:=fun hf=>by
  have h6:aJ cf c0 ((g.aI (tm e')).take p')=aJ cf c0 ((g.aI t).take n):=by
   rw[DC cf c0 rc (by omega),hκt,← DC cf c0 hf (by omega)]
  rw[h6] at V7
  exact fin fun S S' a b=>hm.wZ _ _ S S' V7 a b
 rcases hκp with ⟨hf,-⟩ | ⟨p,e,rp,hκp',hp,zN,lV,BE,hκ0,x,hx,HQ⟩
 exact near1 fun q _ hq y hy=>hf q (Nat.zero_le _) hq y hy
 by_cases hκp2:p<κ'
 exact near1 fun q h6 hq y hy=>lV q (by omega) hq y hy
 have h6:tm e'≤tm e:=by rw[←aeA];exact hg.mono t (κ'-1) p ex' e (by omega) Vs hp
 have Qp:l[κ-1]?=some x:=j8 hκl (jZ hx (by omega))
 have h7:tm e≤tm e':=by rw[←HQ];exact he.gw.mono hg (by omega) Qp h1
 have h8:tm e'=tm e:=by omega
 have yg:(g.aI (tm e'))[p]?=some e:=by rw[h8];exact j8 (hg.gw t p e hp) (jZ hp (by omega))
 have nV:=hg.gw t p e hp
 have h9:p'=p:=by
  rcases Nat.lt_trichotomy p' p with h | h | h
  have hq:(g.aI t)[p']?=some e':=by
   have hz:=tZ nV
   rw[List.length_take,show min (p+1) (g.aI t).length=p+1 by have:=gI hp;omega,← h8] at hz
   have:=jZ wz (show p'<p+1 by omega)
   rw[←hz] at this
   exact (rF this).1
  rw[BE p' (by omega) h e' hq] at h2;cases h2
  exact h
  rw[rc p (by omega) h e yg] at zN;cases zN
 subst h9
 rw[yg] at wz
 cases wz
 rw[h2] at zN
 have h7:aJ cf c0 l=aJ cf c0 ((g.aI t).take n):=Option.some.inj zN
 exact fin fun S S' a b=>hm.one _ S S' a (by rw[←h7];exact b)
termination_by t _ n=>(t.toNat,n)
decreasing_by
 rcases aeo with h | ⟨h,h'⟩
 exact Prod.Lex.left _ _ h
 rw[h];exact Prod.Lex.right _ h'
theorem TF (hg:oO tm cf c0 Q g near) (hm:vS Q near):∀ (m:Nat) (u:Int),u<m→g.aI u≠[]→∀ t k n,g.ev t k n→t<u→(g.aI t).take k <+: g.aI u
 | 0,u,hu,bH,_,_,_,_,_=>by have:=hg.kA u bH;omega
 | m+1,u,hu,bH,t,k,n,iZ,ht=>by
  obtain⟨l,hl,he⟩:=hg.FX u bH
  exact (MD hg hm (he.SO hg hm) (fun v hv hvn t k n h1 h2=>TF hg hm m v (by omega) hvn t k n h1 h2) t k n iZ ht).trans hl
theorem oO.leads (hg:oO tm cf c0 Q g near) (hm:vS Q near) {u t:Int} {k n:Nat} (bH:g.aI u≠[]) (iZ:g.ev t k n) (ht:t≤u):(g.aI t).take k <+: g.aI u:=by
 rcases Int.lt_or_eq_of_le ht with h | rfl
 exact TF hg hm (u+1).toNat u (by omega) bH t k n iZ h
 exact List.take_prefix _ _
theorem oO.acb (hg:oO tm cf c0 Q g near) (hm:vS Q near) {T:Int} {l:List E} (he:vL tm cf c0 Q g T l) {t:Int} {k n:Nat} (iZ:g.ev t k n) (ht:t<T):(g.aI t).take k <+: l :=
 MD hg hm he (fun _ _ hn _ _ _ h1 h2=>hg.leads hm hn h1 (Int.le_of_lt h2)) t k n iZ ht
theorem oO.aa3 (hg:oO tm cf c0 Q g near) (hm:vS Q near) {t u:Int} {k n k' n':Nat} (h1:g.ev t k n) (h2:g.ev u k' n'):(g.aI t).take k <+: (g.aI u).take k'∨(g.aI u).take k' <+: (g.aI t).take k:=by
 have mT:∀ {t u:Int} {k n k' n':Nat},g.ev t k n→g.ev u k' n'→t≤u→(g.aI t).take k <+: (g.aI u).take k'∨(g.aI u).take k' <+: (g.aI t).take k:=fun {t u k n k' n'} h1 h2 h=>by
  have bH:g.aI u≠[]:=fun hz=>by
   obtain⟨-,-,-,⟨e,he,-⟩,-⟩:=hg.rR _ _ _ h2
   rw[hz] at he;cases he
  have h3:=hg.leads hm bH h1 h
  have h4:=List.take_prefix k' (g.aI u)
  rcases Nat.le_total ((g.aI t).take k).length ((g.aI u).take k').length with hl | hl
  exact .inl (Ac h3 h4 hl)
  exact .inr (Ac h4 h3 hl)
 rcases Int.le_total t u with h | h
 exact mT h1 h2 h
 exact (mT h2 h1 h).symm
theorem oO.Jq (hg:oO tm cf c0 Q g near) (hm:vS Q near) {T:Int} {l l':List E} (he:vL tm cf c0 Q g T l) (qw:vL tm cf c0 Q g T l') {p':Nat} {e':E} (h1:l'[p']?=some e') (h2:cf e'=some (aJ cf c0 l')) :
  ∃ (k:Nat) (x:E),k≤p'∧0<k∧l[k-1]?=some x∧tm x=tm e'∧m9 cf (g.aI (tm e')) k p'∧(m9 cf l k l.length→near (aJ cf c0 l) (aJ cf c0 l')):=by
 have zS:l'.take (p'+1) <+: g.aI (tm e'):=qw.gw p' e' h1
 have wz:=j8 zS (jZ h1 (by omega))
 have Pe:=qw.ff e' (List.mem_of_getElem? h1)
 obtain⟨k,n,iZ,hn,oy,Ke⟩:=hg.change (tm e') p' e' _ wz rfl h2
 obtain⟨ng,o7,mr,⟨x,hx,HQ⟩,-⟩:=hg.rR _ _ _ iZ
 have h3:=hg.acb hm he iZ Pe
 refine⟨k,x,by omega,ng,j8 h3 (jZ hx (by omega)),HQ,oy,fun hf=>?_⟩
 rw[DC cf c0 oy (by omega)] at Ke
 have h4:=tZ h3
 rw[List.length_take,show min k (g.aI (tm e')).length=k by omega] at h4
 have h5:=DC cf c0 hf (show k≤l.length by have:=h3.length_le;rw[List.length_take] at this;omega)
 rw[List.take_length] at h5
 rw[h5,← h4];exact Ke
theorem oO.abl (hg:oO tm cf c0 Q g near) (hm:vS Q near) {T:Int} {l l':List E} (he:vL tm cf c0 Q g T l) (qw:vL tm cf c0 Q g T l') :
  aJ cf c0 l=aJ cf c0 l'∨near (aJ cf c0 l) (aJ cf c0 l')∨near (aJ cf c0 l') (aJ cf c0 l):=by
 rcases EO cf c0 l with ⟨h1,hz⟩ | ⟨p,e,h1,h2,h3⟩<;>rcases EO cf c0 l' with ⟨AZ,hz'⟩ | ⟨p',e',AZ,DK,xz⟩
 exact .inl (hz.trans hz'.symm)
 obtain⟨k,x,-,-,-,-,-,h⟩:=hg.Jq hm he qw AZ DK
 exact .inr (.inl (h fun q _ hq y hy=>h1 q (Nat.zero_le _) hq y hy))
 obtain⟨k,x,-,-,-,-,-,h⟩:=hg.Jq hm qw he h1 h2
 exact .inr (.inr (h fun q _ hq y hy=>AZ q (Nat.zero_le _) hq y hy))
 obtain⟨k,x,hk,ng,hx,HQ,oy,h⟩:=hg.Jq hm he qw AZ DK
 obtain⟨k',x',BP,apr,Cv,ahh,rc,h'⟩:=hg.Jq hm qw he h1 h2
 by_cases hp:p<k
 exact .inr (.inl (h fun q hq zP y hy=>h3 q (by omega) zP y hy))
 by_cases hp':p'<k'
 exact .inr (.inr (h' fun q hq zP y hy=>xz q (by omega) zP y hy))
 have EC:tm e'≤tm e:=by rw[←HQ];exact he.gw.mono hg (by omega) hx h1
 have iP:tm e≤tm e':=by rw[←ahh];exact qw.gw.mono hg (by omega) Cv AZ
 have ht:tm e=tm e':=by omega
 have yg:(g.aI (tm e'))[p]?=some e:=by rw[←ht];exact j8 (he.gw p e h1) (jZ h1 (by omega))
 have PF:(g.aI (tm e'))[p']?=some e':=j8 (qw.gw p' e' AZ) (jZ AZ (by omega))
 rw[ht] at rc
 have ip:p=p':=by
  rcases Nat.lt_trichotomy p p' with be | dO | GS
  rw[oy p (by omega) be e yg] at h2;cases h2
  exact dO
  rw[rc p' (by omega) GS e' PF] at DK;cases DK
 subst ip
 rw[yg] at PF
 cases PF
 rw[h2] at DK
 exact .inl (Option.some.inj DK)
theorem oO.akH (hg:oO tm cf c0 Q g near) (hm:vS Q near) {T:Int} {l l':List E} (he:vL tm cf c0 Q g T l) (qw:vL tm cf c0 Q g T l') {S S':Int→Prop} (hS:Q (aJ cf c0 l) S) (oq:Q (aJ cf c0 l') S'):∃ j,S j∧S' j:=by
 rcases hg.abl hm he qw with h | h | h
 exact hm.one _ S S' hS (by rw[h];exact oq)
 exact hm.wZ _ _ S S' h hS oq
 obtain⟨j,a,b⟩:=hm.wZ _ _ S' S h oq hS
 exact⟨j,b,a⟩
end
end Go.Lw.dF
namespace Go.Lw.dF
theorem Jh {c:aY} (h1:∀ n∈c.av++c.aD,nm n=true) (h2:c.av.Pairwise (· < ·)) (h3:c.aD.Pairwise (· < ·)) (h4:∀ n∈c.av,n∉c.aD) (h5:c.av≠[]):eg c=0:=by
 unfold eg
 rw[if_neg,if_neg,if_neg,if_neg]
 intro h;exact h5 (List.length_eq_zero_iff.1 h)
 intro h
 obtain⟨n,hn,hl⟩:=List.any_eq_true.1 h
 exact h4 n hn (of_decide_eq_true hl)
 simp only[pC,h2,h3,decide_true];simp
 intro h
 obtain⟨n,hn,hl⟩:=List.any_eq_true.1 h
 rw[h1 n hn] at hl;cases hl
theorem Jl {n:Int} {l:List Int} (h:l.Pairwise (· < ·)):(dU n l).Pairwise (· < ·):=h.filter _
def Sq (v d:List Int) (n:Int):Prop:=d=v∨(n∉v∧d=lp n v)∨(n∈v∧d=dU n v)
theorem I7 {c d:aY} {k n:Int} (h:gb c k n=(d,0)):eg d=0∧Sq c.av d.av n:=by
 unfold gb at h
 split at h
 rename_i h0;exact absurd (Prod.mk.inj h).2 h0
 rename_i h0
 have h0:eg c=0:=by simpa using h0
 obtain⟨z1,z2,z3,z4,z5⟩:=yU h0
 split at h
 exact absurd (Prod.mk.inj h).2 (by decide)
 rename_i hn
 have hn:nm n=true:=by simpa using hn
 split at h
 split at h
 exact absurd (Prod.mk.inj h).2 (by decide)
 rename_i h1
 obtain⟨e,_⟩:=Prod.mk.inj h;subst e
 refine⟨Jh (fun m hm=>?_) z2 (WV z3 fun hl=>h1 (.inr hl)) (fun m hm hl=>?_) z5,.inl rfl⟩
 simp only[List.mem_append,wF] at hm
 rcases hm with hm | rfl | hm
 exact z1 m (List.mem_append_left _ hm)
 exact hn
 exact z1 m (List.mem_append_right _ hm)
 rcases wF.1 hl with rfl | hl
 exact h1 (.inl hm)
 exact z4 m hm hl
 split at h
 split at h
 rename_i h1
 obtain⟨e,_⟩:=Prod.mk.inj h;subst e
 have hv:n∉c.av:=fun hv=>z4 n hv h1
 refine⟨Jh (fun m hm=>?_) (WV z2 hv) (Jl z3) (fun m hm hl=>?_) (fun e=>?_),.inr (.inl ⟨hv,rfl⟩)⟩
 simp only[List.mem_append,wF,m8] at hm
 rcases hm with (rfl | hm) | ⟨hm,_⟩
 exact hn
 exact z1 m (List.mem_append_left _ hm)
 exact z1 m (List.mem_append_right _ hm)
 obtain⟨hl,bH⟩:=m8.1 hl
 rcases wF.1 hm with rfl | hm
 exact bH rfl
 exact z4 m hm hl
 have:=WU n c.av
 simp only at e;rw[e] at this;simp at this
 exact absurd (Prod.mk.inj h).2 (by decide)
 split at h
 split at h
 exact absurd (Prod.mk.inj h).2 (by decide)
 rename_i h1
 split at h
 rename_i h2
 obtain⟨e,_⟩:=Prod.mk.inj h;subst e
 refine⟨Jh (fun m hm=>?_) (Jl z2) (Jl z3) (fun m hm hl=>z4 m (m8.1 hm).1 (m8.1 hl).1) (fun e=>?_),.inr (.inr ⟨h2,rfl⟩)⟩
 simp only[List.mem_append,m8] at hm
 rcases hm with ⟨hm,_⟩ | ⟨hm,_⟩
 exact z1 m (List.mem_append_left _ hm)
 exact z1 m (List.mem_append_right _ hm)
 have gx:∀ x∈c.av,x=n:=fun x hx=>by
  by_cases WG:x=n
  exact WG
  have:x∈dU n c.av:=m8.2 ⟨hx,WG⟩
  simp only at e;rw[e] at this;cases this
 have hl:c.av.length≠1:=fun hl=>h1 ⟨h2,hl⟩
 match hc:c.av with
 | []=>exact z5 hc
 | [x]=>exact hl (by rw[hc];rfl)
 | x::y::t =>
  have e1:=gx x (by rw[hc];simp)
  have e2:=gx y (by rw[hc];simp)
  rw[hc] at z2
  have:=(List.pairwise_cons.1 z2).1 y (by simp)
  omega
 split at h
 obtain⟨e,_⟩:=Prod.mk.inj h;subst e
 refine⟨Jh (fun m hm=>?_) z2 (Jl z3) (fun m hm hl=>z4 m hm (m8.1 hl).1) z5,.inl rfl⟩
 simp only[List.mem_append,m8] at hm
 rcases hm with hm | ⟨hm,_⟩
 exact z1 m (List.mem_append_left _ hm)
 exact z1 m (List.mem_append_right _ hm)
 exact absurd (Prod.mk.inj h).2 (by decide)
 exact absurd (Prod.mk.inj h).2 (by decide)
theorem Zl {xs ys:List Int} (h:∀ x,x∈xs↔x∈ys):cZ xs=cZ ys:=YX (Iu _) (Iu _) fun x=>by rw[sU,sU,h]
theorem ain {v d us zs:List Int} {n:Int} (h:Sq v d n) (h1:oY (cZ v) us=true) (h2:oY (cZ d) zs=true):∃ x,x∈us∧x∈zs:=by
 rcases h with rfl | ⟨hn,rfl⟩ | ⟨hn,rfl⟩
 exact QH h1 h2
 rw[Zl (ys:=v++[n]) fun x=>by rw[wF,List.mem_append,List.mem_singleton];exact Or.comm] at h2
 exact XB h1 h2
 rw[Zl (ys:=dU n v++[n]) fun x=>by
  rw[List.mem_append,List.mem_singleton,m8]
  by_cases hx:x=n
  subst hx;simp[hn]
  simp[hx]] at h1
 obtain⟨x,a,b⟩:=XB h2 h1
 exact⟨x,b,a⟩
def gF (e:aA):Option aY:=if e.ao=3 then some e.aJ else none
def kG (c:aY) (S:Int→Prop):Prop:=∃ ys:List Int,oY (cZ c.av) ys=true∧∀ j∈ys,S j
def next (c d:aY):Prop:=∃ k n,gb c k n=(d,0)
theorem kG.mono {c:aY} {S S':Int→Prop} (h:kG c S) (hs:∀ j,S j→S' j):kG c S':=by
 obtain⟨ys,h1,h2⟩:=h
 exact⟨ys,h1,fun j hj=>hs j (h2 j hj)⟩
theorem QE:vS kG next:=⟨fun c S S' ⟨us,h1,h2⟩ ⟨zs,h3,h4⟩=>by
  obtain⟨x,a,b⟩:=QH h1 h3
  exact⟨x,h2 x a,h4 x b⟩,fun c d S S' ⟨k,n,hn⟩ ⟨us,h1,h2⟩ ⟨zs,h3,h4⟩=>by
  obtain⟨x,a,b⟩:=ain (I7 hn).2 h1 h3
  exact⟨x,h2 x a,h4 x b⟩,fun _ _ _ h k=>h.mono k⟩
structure G extends Rec aA where
 yE:Int→Int→List aA
 jn:Int→Int→List aA
 ii:Int→Int
 full:Int→List aA
def fy (l:List aA) (k:Nat):Int:=if k=0 then 1 else (l[k-1]?.map (·.ab)).getD 0
def pH (l:List aA):Prop:=∀ (k:Nat) (e:aA),l[k]?=some e→e.index=k+2
abbrev ik (c0:aY) (l:List aA):aY:=aJ gF c0 l
structure gv (c0:aY) (F:List aA) (L:br) (b:Nat):Prop where
 le:b≤F.length
 index:L.aF.index=1+b
 ab:L.aF.ab=fy F b
 aJ:L.aF.aJ=ik c0 (F.take b)
 entries:L.entries=F.drop b
def yN (L:br):Prop:=L.aF.index=0∧L.aF.ab=0∧L.aF.aJ=⟨[],[]⟩∧L.entries=[]
def m6 (g:G) (T:Int) (l:List aA):Prop:=l=[]∨∃ t k n,g.ev t k n∧t≤T∧l <+: (g.aI t).take k
section
variable (c0:aY)
abbrev aaQ (g:G):Prop:=oO aA.ab gF c0 kG g.toRec next
structure Ay (e:aA):Prop where
 data:e.data.length≤100
 av:e.aJ.av.length≤7
 aD:e.aJ.aD.length≤7
 right:e.ao=3→eg e.aJ=0
structure ia (g:G):Prop where
 aF:eg c0=0
 C0:∀ t,∀ e∈g.aI t,Ay e
 right:aaQ c0 g
 cW:∀ t,pH (g.aI t)
 rN:∀ j t,g.dv j t≤(g.aI t).length
 own:∀ t,g.aI t≠[]→g.ii t≠0∧g.aT (g.ii t) t=g.ii t∧∃ l e r,g.aI t=l++e::r∧(∀ x∈l,x.ab<t)∧(∀ x∈e::r,x.ab=t)∧(kG (ik c0 l) fun j=>g.aT j t=g.ii t)∧qm aA.ab gF c0 kG g.toRec t l
 one:∀ t,g.aI t≠[]→2≤t
 jz:∀ j t,g.aT j t≠0→g.aT (g.aT j t) t=g.aT j t∧jW aA.ab g.toRec (g.yE j t)∧E7 aA.ab (g.jn (g.aT j t) t) (g.yE j t) ∧
  ∀ t' k,0<k→k≤g.dv j t'→t'<t→(g.aI t').take k <+: g.yE j t∨∃ u,t'<u∧u≤t∧parts g.toRec t' u k
structure iG (g:G) (i:Int) (r:aU):Prop where
 id:r.id=i
 kA:i≠0
 j9:jW aA.ab g.toRec (g.full i)
 cW:pH (g.full i)
 ff:∀ e∈g.full i,e.ab≤r.af.ab
 ah:(yN r.ah∧g.full i=[]∧r.af.aB=0)∨∃ b κ:Nat,gv c0 (g.full i) r.ah b∧r.af.aB=1+κ∧b≤κ∧κ≤(g.full i).length∧m6 g r.af.ab ((g.full i).take κ)∧1≤r.af.ab
 real:r.aO≠1→∃ b,gv c0 (g.full i) r.ah b
 pre:r.aO=2→i∈(ik c0 (g.full i)).av
 aT:g.aT i r.af.ab=r.af.aT
 sy:∀ T,r.af.ab<T→g.aT i T=0
 vX:∀ t k,0<k→k≤g.dv i t→t≤r.af.ab∧((g.aI t).take k <+: g.full i∨∃ u,t<u∧u≤r.af.ab∧parts g.toRec t u k)
 cI:r.aO=4→g.ii r.af.ab=i∧g.aI r.af.ab=g.full i∧g.full i≠[]∧g.dv i r.af.ab=(g.full i).length∧∀ p∈r.aK,0≤p.cA∧p.cA≤1+g.dv p.node r.af.ab∧p.next≤2+(g.full i).length
 xp:r.aO=3→g.aT i r.af.ab=i∧g.jn i r.af.ab=g.full i∧2≤r.af.ab∧(∀ e∈g.full i,e.ab<r.af.ab)∧(g.aI r.af.ab≠[]→g.ii r.af.ab≠i)∧∀ j,(j,true)∈r.cB→g.aT j r.af.ab=i
structure dG (g:G) (m:az):Prop where
 ic:(∀ e∈m.entries,Ay e)∧m.entries.length≤8∧m.aJ.av.length≤7∧m.aJ.aD.length≤7∧m.data.length≤64
 asks:m.ao=3→g.aT m.am m.ab=m.am∧m.am≠0∧m.index=1+(g.jn m.am m.ab).length∧m.cn=fy (g.jn m.am m.ab) (g.jn m.am m.ab).length
 lK:m.ao=4→m.bT=false→g.aT m.am m.ab=m.to∧m.to≠0
 grow:m.ao=5→∃ i κ:Nat,g.aI m.ab≠[]∧i≤(g.aI m.ab).length∧m.index=1+i∧m.cn=fy (g.aI m.ab) i∧m.entries <+: (g.aI m.ab).drop i∧m.aB=1+κ∧κ≤(g.aI m.ab).length∧m6 g m.ab ((g.aI m.ab).take κ)
 kM:m.ao=6→m.bT=false→m.index≤1+g.dv m.am m.ab
 lq:m.ao=7→∃ s:Nat,g.aI m.ab≠[]∧s≤(g.aI m.ab).length∧m.index=1+s∧m.cn=fy (g.aI m.ab) s∧m.aJ=ik c0 ((g.aI m.ab).take s)∧m6 g m.ab ((g.aI m.ab).take s)
structure h_ (i:Int) (d:Nat) (g g':G):Prop where
 aI:∀ t,g.aI t <+: g'.aI t
 ev:∀ t k n,g.ev t k n→g'.ev t k n
 aT:∀ j t,g.aT j t≠0→g'.aT j t=g.aT j t
 jn:∀ c t,c≠0→g.aT c t=c→g'.jn c t=g.jn c t
 ii:∀ t,g.aI t≠[]→g'.ii t=g.ii t
 dv:∀ j t,g.dv j t≤g'.dv j t
 CO:∀ j,j≠i→g'.full j=g.full j∧g'.aT j=g.aT j∧g'.dv j=g.dv j
 QJ:∀ t,g.aI t≠[]→g.ii t≠i→g'.aI t=g.aI t
 fresh:∀ t,g.aI t=[]→g'.aI t≠[]→g'.ii t=i
 size:∀ L,(∀ t,(g.aI t).length≤L)→∀ t,(g'.aI t).length≤L+d
variable {c0} {g g' g'':G} {i j:Int} {d d':Nat}
theorem h_.refl (i:Int) (g:G):h_ i 0 g g:=⟨fun _=>List.prefix_rfl,fun _ _ _ h=>h,fun _ _ _=>rfl,fun _ _ _ _=>rfl,fun _ _=>rfl,fun _ _=>Nat.le_refl _,fun _ _=>⟨rfl,rfl,rfl⟩,fun _ _ _=>rfl,fun _ h k=>absurd h k,fun _ h=>h⟩
theorem h_.mono (h:h_ i d g g') (hd:d≤d'):h_ i d' g g':={ h with size:=fun L hL t=>Nat.le_trans (h.size L hL t) (by omega) }
theorem h_.some (h:h_ i d g g') {t:Int} (hn:g.aI t≠[]):g'.aI t≠[]:=fun hz=>by
 have:=h.aI t
 rw[hz] at this
 exact hn (List.prefix_nil.1 this)
theorem h_.trans (h:h_ i d g g') (k:h_ i d' g' g''):h_ i (d+d') g g'' :=
 ⟨fun t=>(h.aI t).trans (k.aI t),fun t a b e=>k.ev t a b (h.ev t a b e),fun j t hv=>by rw[k.aT j t (by rw[h.aT j t hv];exact hv),h.aT j t hv],
  fun c t hc hv=>by rw[k.jn c t hc (by rw[h.aT c t (by rw[hv];exact hc)];exact hv),h.jn c t hc hv],fun t hn=>by rw[k.ii t (h.some hn),h.ii t hn],
  fun j t=>Nat.le_trans (h.dv j t) (k.dv j t),fun j hj=>⟨(k.CO j hj).1.trans (h.CO j hj).1,(k.CO j hj).2.1.trans (h.CO j hj).2.1,(k.CO j hj).2.2.trans (h.CO j hj).2.2⟩,
  fun t hn ho=>by rw[k.QJ t (h.some hn) (by rw[h.ii t hn];exact ho),h.QJ t hn ho],fun t hn xV=>by
   by_cases hz:g'.aI t=[]
   exact k.fresh t hz xV
   rw[k.ii t hz];exact h.fresh t hn hz,fun L hL t=>by
   have:=k.size (L+d) (h.size L hL) t;omega⟩
theorem h_.take (h:h_ i d g g') {t:Int} {k:Nat} (hk:k≤(g.aI t).length):(g'.aI t).take k=(g.aI t).take k:=by
 obtain⟨r,hr⟩:=h.aI t
 rw[←hr,List.take_append_of_le_length hk]
theorem h_.j9 (h:h_ i d g g') {l:List aA} (hl:jW aA.ab g.toRec l):jW aA.ab g'.toRec l:=fun k e hk=>(hl k e hk).trans (h.aI _)
theorem h_.parts (h:h_ i d g g') {t u:Int} {k:Nat} (hp:parts g.toRec t u k):parts g'.toRec t u k:=by
 obtain⟨q,hq,a,b,ha,hb,lf⟩:=hp
 exact⟨q,hq,a,b,j8 (h.aI t) ha,j8 (h.aI u) hb,lf⟩
theorem ia.TZ (hI:ia c0 g) {t:Int} {k n:Nat} (h:g.ev t k n):k≤(g.aI t).length:=by
 have:=hI.right.rR t k n h;omega
theorem h_.comm (hI:ia c0 g) (h:h_ i d g g') {T:Int} {l:List aA} (hc:m6 g T l):m6 g' T l:=by
 rcases hc with rfl | ⟨t,k,n,h1,h2,h3⟩
 exact .inl rfl
 exact .inr ⟨t,k,n,h.ev _ _ _ h1,h2,by rw[h.take (hI.TZ h1)];exact h3⟩
theorem m6.mono {T T':Int} {l:List aA} (h:m6 g T l) (hT:T≤T'):m6 g T' l:=by
 rcases h with rfl | ⟨t,k,n,h1,h2,h3⟩
 exact .inl rfl
 exact .inr ⟨t,k,n,h1,Int.le_trans h2 hT,h3⟩
theorem Iq {l:List aA} {k n:Nat} (h:k≤n):fy (l.take n) k=fy l k:=by
 unfold fy
 split
 rfl
 rw[List.getElem?_take_of_lt (by omega)]
theorem Ip {l m:List aA} (h:l <+: m) {k:Nat} (hk:k≤l.length):fy m k=fy l k:=by
 rw[tZ h,Iq hk]
theorem iG.eV (hI:ia c0 g) (h:h_ i d g g') (hj:j≠i) {r:aU} (hn:iG c0 g j r):iG c0 g' j r:=by
 obtain⟨e1,e2,e3⟩:=h.CO j hj
 refine⟨hn.id,hn.kA,by rw[e1];exact h.j9 hn.j9,by rw[e1];exact hn.cW,by rw[e1];exact hn.ff,?_,?_,by rw[e1];exact hn.pre,by rw[e2];exact hn.aT,by rw[e2];exact hn.sy,fun t k h0 hk=>?_,fun hr=>?_,fun hr=>?_⟩
 rw[e1]
 rcases hn.ah with h1 | ⟨b,κ,h1,h2,h3,h4,h5,h6⟩
 exact .inl h1
 exact .inr ⟨b,κ,h1,h2,h3,h4,h.comm hI h5,h6⟩
 rw[e1];exact hn.real
 rw[e3] at hk
 obtain⟨h1,h2⟩:=hn.vX t k h0 hk
 refine⟨h1,?_⟩
 rw[e1,h.take (Nat.le_trans hk (hI.rN j t))]
 rcases h2 with h2 | ⟨u,h3,h4,h5⟩
 exact .inl h2
 exact .inr ⟨u,h3,h4,h.parts h5⟩
 obtain⟨h1,h2,h3,h4,h5⟩:=hn.cI hr
 have bH:g.aI r.af.ab≠[]:=by rw[h2];exact h3
 rw[e1,e3,h.ii _ bH,h.QJ _ bH (by rw[h1];exact hj)]
 refine⟨h1,h2,h3,h4,fun p hp=>⟨(h5 p hp).1,?_,(h5 p hp).2.2⟩⟩
 have:=(h5 p hp).2.1
 have:=h.dv p.node r.af.ab
 omega
 obtain⟨h1,h2,h0,h3,h4,h5⟩:=hn.xp hr
 rw[e1,e2,h.jn j _ hn.kA h1]
 refine⟨h1,h2,h0,h3,fun bH=>?_,fun k hk=>?_⟩
 by_cases hz:g.aI r.af.ab=[]
 rw[h.fresh _ hz bH];exact fun e=>hj e.symm
 rw[h.ii _ hz];exact h4 hz
 have h6:=h5 k hk
 rw[h.aT k _ (by rw[h6];exact hn.kA)];exact h6
theorem dG.xx (hI:ia c0 g) (h:h_ i d g g') {m:az} (hm:dG c0 g m):dG c0 g' m:=by
 refine⟨hm.ic,fun hk=>?_,fun hk hr=>?_,fun hk=>?_,fun hk hr=>?_,fun hk=>?_⟩
 obtain⟨h1,h2,h3,h4⟩:=hm.asks hk
 rw[h.jn _ _ h2 h1,h.aT _ _ (by rw[h1];exact h2)]
 exact⟨h1,h2,h3,h4⟩
 obtain⟨h1,h2⟩:=hm.lK hk hr
 exact⟨by rw[h.aT _ _ (by rw[h1];exact h2)];exact h1,h2⟩
 obtain⟨i,κ,h1,h2,h3,h4,h5,h6,h7,h8⟩:=hm.grow hk
 have hp:=h.aI m.ab
 refine⟨i,κ,h.some h1,Nat.le_trans h2 hp.length_le,h3,by rw[Ip hp h2];exact h4,?_,h6,Nat.le_trans h7 hp.length_le,by rw[h.take h7];exact h.comm hI h8⟩
 obtain⟨r,hr⟩:=hp
 rw[←hr,List.drop_append_of_le_length h2]
 exact h5.trans (List.prefix_append _ _)
 have:=hm.kM hk hr
 have:=h.dv m.am m.ab
 omega
 obtain⟨s,h1,h2,h3,h4,h5,h6⟩:=hm.lq hk
 have hp:=h.aI m.ab
 exact⟨s,h.some h1,Nat.le_trans h2 hp.length_le,h3,by rw[Ip hp h2];exact h4,by rw[h.take h2];exact h5,by rw[h.take h2];exact h.comm hI h6⟩
theorem YY:∀ {l:List Int} {a:Int},l.Pairwise (· < ·)→(∀ x∈l,a≤x∧x≤7)→l=[]∨(l.length:Int)≤8-a
 | [],_,_,_=> .inl rfl
 | x::t,a,h,hb=>by
  obtain⟨h1,h2⟩:=List.pairwise_cons.1 h
  have hx:=hb x (by simp)
  right
  rcases YY (a:=x+1) h2 fun y hy=>⟨h1 y hy,(hb y (List.mem_cons_of_mem _ hy)).2⟩ with rfl | hl
  simp only[List.length_singleton];omega
  simp only[List.length_cons];omega
theorem Ji {c:aY} (h:eg c=0):c.av.length≤7∧c.aD.length≤7:=by
 obtain⟨z1,z2,z3,-,-⟩:=yU h
 have hs:∀ l:List Int,l.Pairwise (· < ·)→(∀ x∈l,nm x=true)→l.length≤7:=fun l h1 h2=>by
  rcases YY (a:=1) h1 fun x hx=>of_decide_eq_true (h2 x hx) with rfl | hl
  simp
  omega
 exact⟨hs _ z2 fun x hx=>z1 x (List.mem_append_left _ hx),hs _ z3 fun x hx=>z1 x (List.mem_append_right _ hx)⟩
theorem ab5 (h0:eg c0=0) {l:List aA} (h:∀ e∈l,Ay e):eg (ik c0 l)=0:=by
 rcases EO gF c0 l with ⟨-,h1⟩ | ⟨p,e,h1,h2,-⟩
 rw[show ik c0 l=c0 from h1];exact h0
 have h3:=(h e (List.mem_of_getElem? h1)).right
 have h4:e.ao=3→ik c0 l=e.aJ:=fun hk=>by
  have:gF e=some e.aJ:=if_pos hk
  rw[this] at h2;exact (Option.some.inj h2).symm
 by_cases hk:e.ao=3
 rw[h4 hk];exact h3 hk
 have:gF e=none:=if_neg hk
 rw[this] at h2;cases h2
end
end Go.Lw.dF
namespace Go.Lw.dF
section
variable {c0:aY} {g:G} {i:Int}
def G.cast (g:G) (i T c:Int) (v:List aA):G :=
 { g with
  aT:=fun j t=>if j=i∧t=T then c else g.aT j t
  yE:=fun j t=>if j=i∧t=T then v else g.yE j t
  jn:=fun a t=>if a=i∧t=T∧c=i then v else g.jn a t }
theorem qm.cast {T c:Int} {v:List aA} (hz:g.aT i T=0) (hc:c≠0) {t:Int} {l:List aA} (h:qm aA.ab gF c0 kG g.toRec t l):qm aA.ab gF c0 kG (g.cast i T c v).toRec t l :=
 ⟨h.gw,h.ff,h.Ad.mono fun j hj=>⟨by
  show (if j=i∧t=T then c else g.aT j t)≠0
  split
  exact hc
  exact hj.1,hj.2⟩⟩
theorem XL (l:List aA):E7 aA.ab l l:=by
 cases h:l.getLast? with
 | none=>exact .inl (List.getLast?_eq_none_iff.1 h)
 | some a=>exact .inr ⟨a,a,h,h,.inr ⟨rfl,Nat.le_refl _⟩⟩
theorem ia.cast (hI:ia c0 g) {T c:Int} {v:List aA} (hz:g.aT i T=0) (hc:c≠0) (hs:jW aA.ab g.toRec v) (hw:c=i∨g.aT c T=c∧E7 aA.ab (g.jn c T) v)
  (hk:∀ t' k,0<k→k≤g.dv i t'→t'<T→(g.aI t').take k <+: v∨∃ u,t'<u∧u≤T∧parts g.toRec t' u k):ia c0 (g.cast i T c v)∧h_ i 0 g (g.cast i T c v):=by
 have hv:∀ j t,g.aT j t≠0→(g.cast i T c v).aT j t=g.aT j t:=fun j t h=>by
  show (if j=i∧t=T then c else g.aT j t)=_
  rw[if_neg]
  rintro⟨rfl,rfl⟩
  exact h hz
 refine⟨⟨hI.aF,hI.C0,⟨hI.right.gw,hI.right.mono,hI.right.le,hI.right.kA,hI.right.change,hI.right.rR,fun t ht=>?_⟩,hI.cW,hI.rN,fun t ht=>?_,hI.one,fun j t hj=>?_⟩,?_⟩
 obtain⟨l,h1,h2⟩:=hI.right.FX t ht
 exact⟨l,h1,h2.cast hz hc⟩
 obtain⟨h1,h2,l,e,r,h3,h4,h5,h6,h7⟩:=hI.own t ht
 refine⟨h1,?_,l,e,r,h3,h4,h5,h6.mono fun j hj=>?_,h7.cast hz hc⟩
 show (g.cast i T c v).aT (g.ii t) t=g.ii t
 rw[hv _ _ (by rw[h2];exact h1)];exact h2
 show (g.cast i T c v).aT j t=g.ii t
 rw[hv _ _ (by rw[hj];exact h1)];exact hj
 by_cases he:j=i∧t=T
 obtain⟨rfl,rfl⟩:=he
 have e1:(g.cast j t c v).aT j t=c:=if_pos ⟨rfl,rfl⟩
 have e2:(g.cast j t c v).yE j t=v:=if_pos ⟨rfl,rfl⟩
 rw[e1,e2]
 refine⟨?_,hs,?_,hk⟩
 rcases hw with rfl | ⟨h1,-⟩
 exact e1
 rw[hv _ _ (by rw[h1];exact hc)];exact h1
 rcases hw with rfl | ⟨h1,h2⟩
 rw[show (g.cast c t c v).jn c t=v from if_pos ⟨rfl,rfl,rfl⟩];exact XL v
 by_cases Vj:c=j
 subst Vj;rw[show (g.cast c t c v).jn c t=v from if_pos ⟨rfl,rfl,rfl⟩];exact XL v
 rw[show (g.cast j t c v).jn c t=g.jn c t from if_neg fun h=>Vj h.1];exact h2
 have e1:(g.cast i T c v).aT j t=g.aT j t:=if_neg he
 have e2:(g.cast i T c v).yE j t=g.yE j t:=if_neg he
 rw[e1] at hj ⊢
 rw[e2]
 obtain⟨h1,h2,h3,h4⟩:=hI.jz j t hj
 refine⟨by rw[hv _ _ (by rw[h1];exact hj)];exact h1,h2,?_,h4⟩
 rw[show (g.cast i T c v).jn (g.aT j t) t=g.jn (g.aT j t) t from if_neg fun h=>by
  obtain⟨h5,rfl,-⟩:=h
  rw[h5,hz] at h1
  exact hj (h5.trans h1.symm)]
 exact h3
 refine⟨fun _=>List.prefix_rfl,fun _ _ _ h=>h,hv,fun a t ha h=>?_,fun _ _=>rfl,fun _ _=>Nat.le_refl _,fun j hj=>⟨rfl,?_,rfl⟩,fun _ _ _=>rfl,fun _ h k=>absurd h k,fun _ h=>h⟩
 refine if_neg fun h5=>?_
 obtain⟨rfl,rfl,-⟩:=h5
 rw[hz] at h;exact ha h.symm
 funext t
 exact if_neg fun h=>hj h.1
def G.told (g:G) (i T:Int) (a:Nat) (F:List aA):G :=
 { g with
  dv:=fun j t=>if j=i∧t=T then a else g.dv j t
  full:=fun j=>if j=i then F else g.full j }
theorem ia.told (hI:ia c0 g) {T:Int} {a:Nat} {F:List aA} (h1:g.dv i T≤a) (h2:a≤(g.aI T).length) (hl:∀ t,T<t→g.aT i t=0):ia c0 (g.told i T a F)∧h_ i 0 g (g.told i T a F):=by
 have ha:∀ j t,g.dv j t≤(g.told i T a F).dv j t:=fun j t=>by
  show _≤if j=i∧t=T then a else g.dv j t
  split
  rename_i h;obtain⟨rfl,rfl⟩:=h;exact h1
  exact Nat.le_refl _
 have EA:∀ j t t',g.aT j t≠0→t'<t→(g.told i T a F).dv j t'=g.dv j t':=fun j t t' hv ht=>by
  refine if_neg fun h=>?_
  obtain⟨rfl,rfl⟩:=h
  exact hv (hl t ht)
 have hE:∀ t l,qm aA.ab gF c0 kG g.toRec t l→qm aA.ab gF c0 kG (g.told i T a F).toRec t l:=fun t l e2=>by
  refine⟨e2.gw,e2.ff,e2.Ad.mono fun j hj=>⟨hj.1,?_⟩⟩
  obtain⟨v,e3,e4,e5⟩:=hj.2
  refine⟨v,e3,e4,fun t' k h0 hk qF=>?_⟩
  rw[EA j t t' hj.1 qF] at hk
  exact e5 t' k h0 hk qF
 refine⟨⟨hI.aF,hI.C0,⟨hI.right.gw,hI.right.mono,hI.right.le,hI.right.kA,hI.right.change,fun t k n h=>?_,fun t ht=>?_⟩,hI.cW,fun j t=>?_,fun t ht=>?_,hI.one,fun j t hj=>?_⟩,?_⟩
 obtain⟨e1,e2,e3,e4,e5⟩:=hI.right.rR t k n h
 exact⟨e1,e2,e3,e4,e5.mono fun j hj=>Nat.le_trans hj (ha j t)⟩
 obtain⟨l,e1,e2⟩:=hI.right.FX t ht
 exact⟨l,e1,hE t l e2⟩
 show (if j=i∧t=T then a else g.dv j t)≤_
 split
 rename_i h;obtain⟨rfl,rfl⟩:=h;exact h2
 exact hI.rN j t
 obtain⟨h1,h2,l,e,r,h3,h4,h5,h6,h7⟩:=hI.own t ht
 exact⟨h1,h2,l,e,r,h3,h4,h5,h6,hE t l h7⟩
 obtain⟨e1,e2,e3,e4⟩:=hI.jz j t hj
 refine⟨e1,e2,e3,fun t' k h0 hk qF=>?_⟩
 rw[EA j t t' hj qF] at hk
 exact e4 t' k h0 hk qF
 refine⟨fun _=>List.prefix_rfl,fun _ _ _ h=>h,fun _ _ _=>rfl,fun _ _ _ _=>rfl,fun _ _=>rfl,ha,fun j hj=>⟨if_neg hj,rfl,?_⟩,fun _ _ _=>rfl,fun _ h k=>absurd h k,fun _ h=>h⟩
 funext t
 exact if_neg fun h=>hj h.1
def G.aB (g:G) (T:Int) (k n:Nat):G:={ g with ev:=fun t k' n'=>g.ev t k' n'∨(t=T∧k'=k∧n'=n) }
theorem ia.aB (hI:ia c0 g) {T:Int} {k n:Nat} (h0:0<k) (o7:k≤n) (hn:n≤(g.aI T).length) (he:∃ e,(g.aI T)[k-1]?=some e∧e.ab=T) (hq:kG (ik c0 ((g.aI T).take n)) fun j=>k≤g.dv j T) :
  ia c0 (g.aB T k n)∧h_ i 0 g (g.aB T k n):=by
 refine⟨⟨hI.aF,hI.C0,⟨hI.right.gw,hI.right.mono,hI.right.le,hI.right.kA,fun t p e c a1 a2 a3=>?_,fun t k' n' h=>?_,fun t ht=>?_⟩,hI.cW,hI.rN,fun t ht=>?_,hI.one,hI.jz⟩,⟨fun _=>List.prefix_rfl,fun _ _ _ h=> .inl h,fun _ _ _=>rfl,fun _ _ _ _=>rfl,fun _ _=>rfl,fun _ _=>Nat.le_refl _,fun _ _=>⟨rfl,rfl,rfl⟩,fun _ _ _=>rfl,fun _ h k=>absurd h k,fun _ h=>h⟩⟩
 obtain⟨k',n',e1,e2,e3,e4⟩:=hI.right.change t p e c a1 a2 a3
 exact⟨k',n',.inl e1,e2,e3,e4⟩
 rcases h with h | ⟨rfl,rfl,rfl⟩
 exact hI.right.rR t k' n' h
 exact⟨h0,o7,hn,he,hq⟩
 obtain⟨l,h1,h2⟩:=hI.right.FX t ht
 exact⟨l,h1,h2.gw,h2.ff,h2.Ad⟩
 obtain⟨h1,h2,l,e,r,h3,h4,h5,h6,h7⟩:=hI.own t ht
 exact⟨h1,h2,l,e,r,h3,h4,h5,h6,h7.gw,h7.ff,h7.Ad⟩
def G.put (g:G) (i T:Int) (l:List aA):G :=
 { g with
  aI:=fun t=>if t=T then l else g.aI t
  ii:=fun t=>if t=T then i else g.ii t }
theorem F1 {l:List aA} {x e:aA} {k:Nat} (h:(l++[x])[k]?=some e):l[k]?=some e∨k=l.length∧e=x:=by
 by_cases hk:k<l.length
 rw[List.getElem?_append_left hk] at h;exact .inl h
 have:=gI h
 simp at this
 have hk:k=l.length:=by omega
 subst hk
 simp at h
 exact .inr ⟨rfl,h.symm⟩
theorem ia.put (hI:ia c0 g) {T:Int} {F:List aA} {x:aA} (hs:jW aA.ab g.toRec F) (eG:pH F) (hx:x.index=F.length+2) (ht:x.ab=T) (HG:Ay x) (h0:2≤T) (cg:∀ e∈F,e.ab≤T) (tz:i≠0)
  (hold:(g.aI T=F∧F≠[]∧g.ii T=i)∨(g.aI T=[]∧(∀ e∈F,e.ab<T)∧g.aT i T=i∧qm aA.ab gF c0 kG g.toRec T F∧kG (ik c0 F) fun j=>g.aT j T=i))
  (cD:∀ c,gF x=some c→∃ k n,g.ev T k n∧n≤F.length∧m9 gF F k F.length∧next (ik c0 F) c∧g.aI T=F):ia c0 (g.put i T (F++[x]))∧h_ i 1 g (g.put i T (F++[x])):=by
 have eT:(g.put i T (F++[x])).aI T=F++[x]:=if_pos rfl
 have eO:∀ t,t≠T→(g.put i T (F++[x])).aI t=g.aI t:=fun t h=>if_neg h
 have Ck:∀ t,g.aI t <+: (g.put i T (F++[x])).aI t:=fun t=>by
  by_cases h:t=T
  subst h
  rw[eT]
  rcases hold with ⟨h1,-,-⟩ | ⟨h1,-⟩
  rw[h1];exact List.prefix_append _ _
  rw[h1];exact List.nil_prefix
  rw[eO t h];exact List.prefix_rfl
 have xN:h_ i 1 g (g.put i T (F++[x])):=by
  refine⟨Ck,fun _ _ _ h=>h,fun _ _ _=>rfl,fun _ _ _ _=>rfl,fun t hn=>?_,fun _ _=>Nat.le_refl _,fun _ _=>⟨rfl,rfl,rfl⟩,fun t hn ho=>?_,fun t hn xV=>?_,fun L hL t=>?_⟩
  show (if t=T then i else g.ii t)=g.ii t
  split
  rename_i h;subst h
  rcases hold with ⟨-,-,h1⟩ | ⟨h1,-⟩
  exact h1.symm
  exact absurd h1 hn
  rfl
  refine eO t fun h=>?_
  subst h
  rcases hold with ⟨-,-,h1⟩ | ⟨h1,-⟩
  exact ho h1
  exact absurd h1 hn
  by_cases h:t=T
  exact if_pos h
  rw[eO t h] at xV;exact absurd hn xV
  by_cases h:t=T
  subst h
  rw[eT,List.length_append,List.length_singleton]
  have hF:F.length≤L:=by
   cases hz:F.getLast? with
   | none=>rw[List.getLast?_eq_none_iff.1 hz];exact Nat.zero_le _
   | some y=>exact Nat.le_trans (hs.aZ hz).length_le (hL _)
  omega
  rw[eO t h];have:=hL t;omega
 have zL:∀ t k e,((g.put i T (F++[x])).aI t)[k]?=some e→(t=T∧k=F.length∧e=x)∨(t=T∧F[k]?=some e)∨(t≠T∧(g.aI t)[k]?=some e):=fun t k e h=>by
  by_cases hT:t=T
  subst hT
  rw[eT] at h
  rcases F1 h with h | ⟨h1,h2⟩
  exact .inr (.inl ⟨rfl,h⟩)
  exact .inl ⟨rfl,h1,h2⟩
  rw[eO t hT] at h;exact .inr (.inr ⟨hT,h⟩)
 have afR:∀ (i j:Nat) (a b:aA),i≤j→F[i]?=some a→F[j]?=some b→a.ab≤b.ab:=fun i j a b iE ha hb=>hs.mono hI.right iE ha hb
 have Qb:∀ k,k≤F.length→(F++[x]).take k=F.take k:=fun k hk=>List.take_append_of_le_length hk
 have hE:∀ t l,qm aA.ab gF c0 kG g.toRec t l→qm aA.ab gF c0 kG (g.put i T (F++[x])).toRec t l:=fun t l h=>by
  refine⟨xN.j9 h.gw,h.ff,h.Ad.mono fun j hj=>⟨hj.1,?_⟩⟩
  obtain⟨v,e3,e4,e5⟩:=hj.2
  refine⟨v,xN.j9 e3,e4,fun t' k h0 hk qF=>?_⟩
  rw[xN.take (Nat.le_trans hk (hI.rN j t'))]
  rcases e5 t' k h0 hk qF with h | ⟨u,h1,h2,h3⟩
  exact .inl h
  exact .inr ⟨u,h1,h2,xN.parts h3⟩
 refine⟨⟨hI.aF,fun t e he=>?_,⟨fun t k e h=>?_,fun t k j a b J4 ha hb=>?_,fun t e he=>?_,fun t hn=>?_,fun t p e c h1 h2 h3=>?_,fun t k n h=>?_,fun t hn=>?_⟩,fun t k e h=>?_,fun j t=>?_,fun t hn=>?_,fun t hn=>?_,fun j t hj=>?_⟩,xN⟩
 obtain⟨k,hk,rfl⟩:=List.getElem_of_mem he
 rcases zL t k _ (List.getElem?_eq_getElem hk) with ⟨rfl,-,h2⟩ | ⟨rfl,h1⟩ | ⟨hT,h1⟩
 rw[h2];exact HG
 exact hI.C0 _ _ (List.mem_of_getElem? (j8 (hs k _ h1) (jZ h1 (Nat.lt_succ_self k))))
 exact hI.C0 t _ (List.mem_of_getElem? h1)
 rcases zL t k e h with ⟨rfl,rfl,rfl⟩ | ⟨rfl,h1⟩ | ⟨hT,h1⟩
 rw[eT,ht,eT,List.take_of_length_le (by simp)];exact List.prefix_rfl
 rw[eT,Qb _ (by have:=gI h1;omega)]
 exact (hs k e h1).trans (Ck _)
 rw[eO t hT];exact (hI.right.gw t k e h1).trans (Ck _)
 rcases zL t j b hb with ⟨rfl,rfl,rfl⟩ | ⟨rfl,h1⟩ | ⟨hT,h1⟩
 rcases zL _ k a ha with ⟨-,-,rfl⟩ | ⟨-,h1⟩ | ⟨h1,-⟩
 exact Int.le_refl _
 rw[ht];exact cg a (List.mem_of_getElem? h1)
 exact absurd rfl h1
 rcases zL _ k a ha with ⟨-,h2,-⟩ | ⟨-,h2⟩ | ⟨h2,-⟩
 have:=gI h1;omega
 exact afR k j a b J4 h2 h1
 exact absurd rfl h2
 rw[eO t hT] at ha;exact hI.right.mono t k j a b J4 ha h1
 obtain⟨k,hk,rfl⟩:=List.getElem_of_mem he
 rcases zL t k _ (List.getElem?_eq_getElem hk) with ⟨rfl,-,h2⟩ | ⟨rfl,h1⟩ | ⟨hT,h1⟩
 rw[h2,ht];exact Int.le_refl _
 exact cg _ (List.mem_of_getElem? h1)
 exact hI.right.le t _ (List.mem_of_getElem? h1)
 by_cases hT:t=T
 omega
 rw[eO t hT] at hn;exact hI.right.kA t hn
 rcases zL t p e h1 with ⟨rfl,rfl,rfl⟩ | ⟨rfl,h4⟩ | ⟨hT,h4⟩
 obtain⟨k,n,e1,e2,e3,e4,-⟩:=cD c h3
 refine⟨k,n,e1,e2,fun q iq pg y hy=>?_,?_⟩
 rw[eT,List.getElem?_append_left pg] at hy
 exact e3 q iq pg y hy
 rw[eT,Qb _ (Nat.le_refl _),List.take_length];exact e4
 have hF:g.aI t=F:=by
  rcases hold with ⟨h5,-,-⟩ | ⟨-,h5,-⟩
  exact h5
  have:=h5 e (List.mem_of_getElem? h4);omega
 obtain⟨k,n,e1,e2,e3,e4⟩:=hI.right.change t p e c (by rw[hF];exact h4) h2 h3
 have hp:=gI h4
 refine⟨k,n,e1,e2,fun q iq pg y hy=>?_,?_⟩
 rw[eT,List.getElem?_append_left (by omega)] at hy
 exact e3 q iq pg y (by rw[hF];exact hy)
 rw[eT,Qb _ (by omega),← hF];exact e4
 rw[eO t hT];exact hI.right.change t p e c h4 h2 h3
 obtain⟨e1,e2,e3,⟨y,e4,e5⟩,e6⟩:=hI.right.rR t k n h
 refine⟨e1,e2,Nat.le_trans e3 (Ck t).length_le,⟨y,j8 (Ck t) e4,e5⟩,?_⟩
 rw[xN.take e3];exact e6
 by_cases hz:g.aI t=[]
 have hT:t=T:=Classical.byContradiction fun h=>by rw[eO t h] at hn;exact hn hz
 subst hT
 rcases hold with ⟨h1,h2,-⟩ | ⟨-,-,-,h1,-⟩
 rw[h1] at hz;exact absurd hz h2
 exact⟨F,by rw[eT];exact List.prefix_append _ _,hE _ _ h1⟩
 obtain⟨l,h1,h2⟩:=hI.right.FX t hz
 exact⟨l,h1.trans (Ck t),hE _ _ h2⟩
 rcases zL t k e h with ⟨rfl,rfl,rfl⟩ | ⟨rfl,h1⟩ | ⟨hT,h1⟩
 exact hx
 exact eG k e h1
 exact hI.cW t k e h1
 exact Nat.le_trans (hI.rN j t) (Ck t).length_le
 by_cases hT:t=T
 subst hT
 rw[eT,show (g.put i t (F++[x])).ii t=i from if_pos rfl]
 rcases hold with ⟨h1,h2,h3⟩ | ⟨h1,h2,h3,h4,h5⟩
 obtain⟨a1,a2,l,e,r,a3,a4,a5,a6,a7⟩:=hI.own t (by rw[h1];exact h2)
 rw[h3] at a2 a6
 refine⟨tz,a2,l,e,r++[x],?_,a4,fun y hy=>?_,a6,hE _ _ a7⟩
 rw[←h1,a3];simp
 rw[←List.cons_append] at hy
 rcases List.mem_append.1 hy with hy | hy
 exact a5 y hy
 rw[List.mem_singleton.1 hy];exact ht
 exact⟨tz,h3,F,x,[],rfl,h2,fun y hy=>by rw[List.mem_singleton.1 hy];exact ht,h5,hE _ _ h4⟩
 rw[eO t hT,show (g.put i T (F++[x])).ii t=g.ii t from if_neg hT]
 rw[eO t hT] at hn
 obtain⟨a1,a2,l,e,r,a3,a4,a5,a6,a7⟩:=hI.own t hn
 exact⟨a1,a2,l,e,r,a3,a4,a5,a6,hE _ _ a7⟩
 by_cases hT:t=T
 rw[hT];exact h0
 rw[eO t hT] at hn;exact hI.one t hn
 obtain⟨e1,e2,e3,e4⟩:=hI.jz j t hj
 refine⟨e1,xN.j9 e2,e3,fun t' k h0 hk qF=>?_⟩
 rw[xN.take (Nat.le_trans hk (hI.rN j t'))]
 rcases e4 t' k h0 hk qF with h | ⟨u,h1,h2,h3⟩
 exact .inl h
 exact .inr ⟨u,h1,h2,xN.parts h3⟩
end
end Go.Lw.dF
namespace Go.Lw.dF
theorem ab3 (l:List aA) (c:aY):aJ gF c l=((jB l).map (·.1)).getD c:=by
 obtain⟨n,hn⟩:∃ n,n=l.length:=⟨_,rfl⟩
 induction n generalizing l with
 | zero=>rw[List.eq_nil_of_length_eq_zero hn.symm];rfl
 | succ n ih =>
  obtain⟨m,x,rfl⟩:∃ m x,l=m++[x]:=by
   have:l≠[]:=fun h=>by rw[h] at hn;cases hn
   exact⟨l.dropLast,l.getLast this,(List.dropLast_concat_getLast this).symm⟩
  rw[MF,DB]
  unfold gF
  split
  rfl
  exact ih m (by simp at hn;exact hn)
theorem TL {l:List aA} {c:aY} {x:Int} (h:jB l=some (c,x)):∃ k e,l[k]?=some e∧e.index=x∧m9 gF l (k+1) l.length:=by
 obtain⟨n,hn⟩:∃ n,n=l.length:=⟨_,rfl⟩
 induction n generalizing l with
 | zero=>rw[List.eq_nil_of_length_eq_zero hn.symm] at h;cases h
 | succ n ih =>
  obtain⟨m,y,rfl⟩:∃ m x,l=m++[x]:=by
   have:l≠[]:=fun h=>by rw[h] at hn;cases hn
   exact⟨l.dropLast,l.getLast this,(List.dropLast_concat_getLast this).symm⟩
  rw[DB] at h
  split at h
  cases h
  exact⟨m.length,y,by simp,rfl,fun q h1 h2=>by simp at h2;omega⟩
  rename_i hk
  obtain⟨k,e,h1,h2,h3⟩:=ih h (by simp at hn;exact hn)
  refine⟨k,e,by rw[List.getElem?_append_left (gI h1)];exact h1,h2,fun q h4 h5 z hz=>?_⟩
  rcases F1 hz with hz | ⟨-,rfl⟩
  exact h3 q h4 (gI hz) z hz
  unfold gF;rw[if_neg hk]
theorem ab1 {l:List aA} (h:jB l=none):m9 gF l 0 l.length:=by
 obtain⟨n,hn⟩:∃ n,n=l.length:=⟨_,rfl⟩
 induction n generalizing l with
 | zero=>rw[List.eq_nil_of_length_eq_zero hn.symm];exact fun q _ h=>absurd h (Nat.not_lt_zero _)
 | succ n ih =>
  obtain⟨m,y,rfl⟩:∃ m x,l=m++[x]:=by
   have:l≠[]:=fun h=>by rw[h] at hn;cases hn
   exact⟨l.dropLast,l.getLast this,(List.dropLast_concat_getLast this).symm⟩
  rw[DB] at h
  split at h
  cases h
  rename_i hk
  have:=ih h (by simp at hn;exact hn)
  intro q h4 h5 z hz
  rcases F1 hz with hz | ⟨-,rfl⟩
  exact this q h4 (gI hz) z hz
  unfold gF;rw[if_neg hk]
section
variable {c0:aY} {F:List aA} {L:br} {b:Nat}
theorem gv.get (h:gv c0 F L b) {k:Nat} {e:aA}:L.entries[k]?=some e↔F[b+k]?=some e:=by rw[h.entries,List.getElem?_drop]
theorem gv.len (h:gv c0 F L b):L.entries.length=F.length-b:=by rw[h.entries,List.length_drop]
theorem gv.pD (h:gv c0 F L b) (hi:pH F):lA L:=fun k e hk=>by
 have:=hi _ e (h.get.1 hk)
 rw[h.index];omega
theorem gv.aZ (h:gv c0 F L b) (hi:pH F):bX L=(1+(F.length:Int),fy F F.length):=by
 have h1:=(h.pD hi).aZ
 have h2:=h.len
 have h3:=h.le
 have h4:=h.index
 refine Prod.ext (by simp only;omega) ?_
 rw[Qx]
 simp only
 rw[h.entries,List.getLast?_drop]
 split
 have:b=F.length:=by omega
 rw[h.ab,this];rfl
 rename_i hb
 unfold fy
 rw[if_neg (by omega),← List.getLast?_eq_getElem?]
 cases hz:F.getLast? with
 | none=>rw[List.getLast?_eq_none_iff.1 hz] at hb;simp at hb
 | some z=>rfl
theorem gv.xr (h:gv c0 F L b):(ce L).1=ik c0 F:=by
 have e:ik c0 F=dF.aJ gF (ik c0 (F.take b)) (F.drop b):=by
  unfold ik dF.aJ
  rw[←List.foldl_append,List.take_append_drop]
 rw[e,ab3,← h.aJ,← h.entries]
 unfold ce
 cases jB L.entries<;>rfl
theorem gv.ab2 (h:gv c0 F L b) (hi:pH F) {κ:Nat} (hb:b≤κ) (hc:(ce L).2≤1+κ):m9 gF F κ F.length:=by
 have hl:=h.le
 intro q h1 h2 e he
 have hq:L.entries[q-b]?=some e:=by rw[h.get,show b+(q-b)=q by omega];exact he
 unfold ce at hc
 cases hz:jB L.entries with
 | none=>exact ab1 hz _ (Nat.zero_le _) (gI hq) e hq
 | some r =>
  obtain⟨c,x⟩:=r
  rw[hz] at hc
  simp only[Option.getD_some] at hc
  obtain⟨k,y,h3,h4,h5⟩:=TL hz
  have h6:=hi _ y (h.get.1 h3)
  exact h5 _ (by omega) (gI hq) e hq
theorem gv.Ir (h:gv c0 F L b) (hi:pH F) {k:Nat} (h1:b≤k) (h2:k≤F.length):cE L (1+k)=(fy F k,true):=by
 by_cases hk:k=b
 subst hk
 unfold cE
 rw[if_pos h.index.symm,h.ab]
 have h3:=h.len
 have h4:=(h.pD hi).Y4 (k:=k-b-1) (by omega)
 have h5:=h.index
 rw[show L.aF.index+1+((k-b-1:Nat):Int)=1+k by omega] at h4
 rw[h4]
 have h6:F[k-1]?=some L.entries[k-b-1]:=by
  rw[show k-1=b+(k-b-1) by omega,← h.get]
  exact List.getElem?_eq_getElem _
 unfold fy
 rw[if_neg (by omega),h6];rfl
theorem gv.Lx (h:gv c0 F L b) (hi:pH F) {x:Int} (hx:(cE L x).2=true):∃ k:Nat,x=1+k∧b≤k∧k≤F.length∧(cE L x).1=fy F k:=by
 have h1:=(h.pD hi).ab hx
 have h2:=h.index
 have h3:=h.len
 have h4:=h.le
 refine⟨(x-1).toNat,by omega,by omega,by omega,?_⟩
 have:=h.Ir hi (k:=(x-1).toNat) (by omega) (by omega)
 rw[show (1:Int)+((x-1).toNat:Int)=x by omega] at this
 rw[this]
theorem gv.CV (h:gv c0 F L b) (x:aA):gv c0 (F++[x]) ⟨L.aF,L.entries++[x]⟩ b :=
 ⟨by have:=h.le;simp;omega,h.index,by rw[Ip (List.prefix_append _ _) h.le];exact h.ab,by rw[List.take_append_of_le_length h.le];exact h.aJ,by rw[List.drop_append_of_le_length h.le,← h.entries]⟩
theorem yN.aZ (h:yN L):bX L=(0,0):=by
 obtain⟨h1,h2,-,h4⟩:=h
 unfold bX;rw[h4];simp[h1,h2]
theorem yN.xr (h:yN L):(ce L).1=⟨[],[]⟩:=by
 obtain⟨-,-,h3,h4⟩:=h
 unfold ce;rw[h4];exact h3
theorem yN.Jp (h:yN L) {x:Int} (hx:(cE L x).2=true):x=0∧(cE L x).1=0:=by
 obtain⟨h1,h2,h3,h4⟩:=h
 unfold cE at hx ⊢
 by_cases hz:x=L.aF.index
 rw[if_pos hz];exact⟨by omega,h2⟩
 rw[if_neg hz,h4] at hx;simp at hx
end
end Go.Lw.dF
namespace Go.Lw.dF
section
variable {c0:aY} {g g' g'':G} {i:Int} {n n' n'':ai}
structure St (c0:aY) (g:G) (i:Int) (n:ai):Prop where
 cY:ia c0 g
 node:iG c0 g i n.s
 aG:∀ m∈n.o.aG,dG c0 g m
def To (c0:aY) (g:G) (i:Int) (n:ai):Prop:=∃ g',h_ i 1 g g'∧St c0 g' i n
theorem St.to (h:St c0 g i n):To c0 g i n:=⟨g,(h_.refl i g).mono (Nat.zero_le _),h⟩
def vN (m:az):Prop:=m.entries=[]∧m.aJ=⟨[],[]⟩∧m.data=[]
theorem vN.ic {m:az} (h:vN m):(∀ e∈m.entries,Ay e)∧m.entries.length≤8∧m.aJ.av.length≤7∧m.aJ.aD.length≤7∧m.data.length≤64:=by
 obtain⟨h1,h2,h3⟩:=h
 rw[h1,h2,h3]
 exact⟨fun e he=>(by cases he),Nat.zero_le _,Nat.zero_le _,Nat.zero_le _,Nat.zero_le _⟩
theorem dG.eV {m:az} (b:vN m) (h:m.ao<3∨7<m.ao):dG c0 g m:=⟨b.ic,fun z=>by omega,fun z=>by omega,fun z=>by omega,fun z=>by omega,fun z=>by omega⟩
theorem dG.WY {m:az} (b:vN m) (k:m.ao=4) (h:m.bT=false→g.aT m.am m.ab=m.to∧m.to≠0):dG c0 g m:=⟨b.ic,fun z=>by omega,fun _=>h,fun z=>by omega,fun z=>by omega,fun z=>by omega⟩
theorem dG.KA {m:az} (b:vN m) (k:m.ao=6) (h:m.bT=false→m.index≤1+g.dv m.am m.ab):dG c0 g m:=⟨b.ic,fun z=>by omega,fun z=>by omega,fun z=>by omega,fun _=>h,fun z=>by omega⟩
theorem dG.is3 {m:az} (b:vN m) (k:m.ao=3) (h:g.aT m.am m.ab=m.am∧m.am≠0∧m.index=1+(g.jn m.am m.ab).length∧m.cn=fy (g.jn m.am m.ab) (g.jn m.am m.ab).length):dG c0 g m:=⟨b.ic,fun _=>h,fun z=>by omega,fun z=>by omega,fun z=>by omega,fun z=>by omega⟩
theorem dG.is5 {m:az} (hI:ia c0 g) (k:m.ao=5) (b:m.entries.length≤8∧m.aJ=⟨[],[]⟩∧m.data=[]) (h:∃ i κ:Nat,g.aI m.ab≠[]∧i≤(g.aI m.ab).length∧m.index=1+i∧m.cn=fy (g.aI m.ab) i∧m.entries <+: (g.aI m.ab).drop i∧m.aB=1+κ∧κ≤(g.aI m.ab).length∧m6 g m.ab ((g.aI m.ab).take κ)):dG c0 g m:=by
 obtain⟨b1,b2,b3⟩:=b
 refine⟨⟨fun e he=>?_,b1,by rw[b2];exact Nat.zero_le _,by rw[b2];exact Nat.zero_le _,by rw[b3];exact Nat.zero_le _⟩,fun z=>by omega,fun z=>by omega,fun _=>h,fun z=>by omega,fun z=>by omega⟩
 obtain⟨i,κ,-,-,-,-,h5,-⟩:=h
 exact hI.C0 _ e (List.mem_of_mem_drop (h5.subset he))
theorem dG.is7 {m:az} (hI:ia c0 g) (k:m.ao=7) (b:m.entries=[]∧m.data.length≤64) (h:∃ s:Nat,g.aI m.ab≠[]∧s≤(g.aI m.ab).length∧m.index=1+s∧m.cn=fy (g.aI m.ab) s∧m.aJ=ik c0 ((g.aI m.ab).take s)∧m6 g m.ab ((g.aI m.ab).take s)):dG c0 g m:=by
 have hs:m.aJ.av.length≤7∧m.aJ.aD.length≤7:=by
  obtain⟨s,-,-,-,-,h5,-⟩:=h
  rw[h5]
  exact Ji (ab5 hI.aF fun e he=>hI.C0 _ e (List.mem_of_mem_take he))
 exact⟨⟨by rw[b.1];exact fun e he=>(by cases he),by rw[b.1];exact Nat.zero_le _,hs.1,hs.2,b.2⟩,fun z=>by omega,fun z=>by omega,fun z=>by omega,fun z=>by omega,fun _=>h⟩
theorem dG.no {m:az} (b:vN m) (h:m.ao=4∨m.ao=6) (hr:m.bT=true):dG c0 g m:=by
 rcases h with h | h
 exact dG.WY b h fun z=>by rw[hr] at z;cases z
 exact dG.KA b h fun z=>by rw[hr] at z;cases z
theorem bare {m:az} (h1:m.entries=[]:=by rfl) (h2:m.aJ=⟨[],[]⟩:=by rfl) (h3:m.data=[]:=by rfl):vN m:=⟨h1,h2,h3⟩
theorem St.send (h:St c0 g i n) {m:az} (hm:dG c0 g m):St c0 g i (n.send m):=⟨h.cY,h.node,fun x hx=>by
 rcases List.mem_append.1 hx with hx | hx
 exact h.aG x hx
 rw[List.mem_singleton.1 hx];exact hm⟩
theorem St.post (h:St c0 g i n) {m:az} (hm:dG c0 g { m with am:=n.s.id,ab:=if m.ab=0 then n.s.af.ab else m.ab }):St c0 g i (n.post m):=h.send hm
theorem iG.qe {r r':aU} (h:iG c0 g i r) (e1:r'.id=r.id) (e2:r'.af=r.af) (e3:r'.ah=r.ah) (e4:r'.aO=r.aO) (e5:r'.aK=r.aK) (e6:r'.cB=r.cB):iG c0 g i r' :=
 ⟨e1.trans h.id,h.kA,h.j9,h.cW,by rw[e2];exact h.ff,by rw[e2,e3];exact h.ah,by rw[e3,e4];exact h.real,by rw[e4];exact h.pre,by rw[e2];exact h.aT,by rw[e2];exact h.sy,by rw[e2];exact h.vX,by rw[e2,e4,e5];exact h.cI,by rw[e2,e4,e6];exact h.xp⟩
theorem St.qe (h:St c0 g i n) {r:aU} (e1:r.id=n.s.id) (e2:r.af=n.s.af) (e3:r.ah=n.s.ah) (e4:r.aO=n.s.aO) (e5:r.aK=n.s.aK) (e6:r.cB=n.s.cB):St c0 g i ⟨r,n.o⟩ :=
 ⟨h.cY,h.node.qe e1 e2 e3 e4 e5 e6,h.aG⟩
theorem iG.down {r r':aU} (h:iG c0 g i r) (e1:r'.id=r.id) (e3:r'.ah=r.ah) (e4:r'.aO≠3∧r'.aO≠4) (e5:r'.aO≠1→∃ b,gv c0 (g.full i) r.ah b) (e8:r'.aO≠1→i∈(ik c0 (g.full i)).av) (e6:r'.af.aB=r.af.aB)
  (e7:r'.af=r.af∨(r.af.ab<r'.af.ab∧r'.af.aT=0)):iG c0 g i r':=by
 have hT:r.af.ab≤r'.af.ab:=by
  rcases e7 with e7 | ⟨e7,-⟩
  rw[e7];exact Int.le_refl _
  exact Int.le_of_lt e7
 refine⟨e1.trans h.id,h.kA,h.j9,h.cW,fun e he=>Int.le_trans (h.ff e he) hT,?_,by rw[e3];exact e5,fun z=>e8 (by rw[z];decide),?_,fun T be=>h.sy T (by omega),fun t k h0 hk=>?_,fun hr=>absurd hr e4.2,fun hr=>absurd hr e4.1⟩
 rw[e3,e6]
 rcases h.ah with h1 | ⟨b,κ,h1,h2,h3,h4,h5,h6⟩
 exact .inl h1
 exact .inr ⟨b,κ,h1,h2,h3,h4,h5.mono hT,Int.le_trans h6 hT⟩
 rcases e7 with e7 | ⟨e7,e8⟩
 rw[e7];exact h.aT
 rw[e8];exact h.sy _ e7
 obtain⟨h1,h2⟩:=h.vX t k h0 hk
 refine⟨by omega,?_⟩
 rcases h2 with h2 | ⟨u,h3,h4,h5⟩
 exact .inl h2
 exact .inr ⟨u,h3,by omega,h5⟩
theorem St.follow (h:St c0 g i n) (t l:Int):St c0 g i (n.follow t l):=by
 refine⟨h.cY,h.node.down rfl rfl ⟨by show (1:Int)≠3;decide,by show (1:Int)≠4;decide⟩ (fun z=>absurd rfl z) (fun z=>absurd rfl z) ?_ ?_,h.aG⟩
 unfold ai.follow
 by_cases hc:n.s.af.ab<t
 simp only[if_pos hc]
 simp only[if_neg hc]
 unfold ai.follow
 by_cases hc:n.s.af.ab<t
 simp only[if_pos hc];exact .inr ⟨hc,trivial⟩
 simp only[if_neg hc];exact .inl trivial
theorem St.calm (h:St c0 g i n) (f:Int):St c0 g i (n.calm f):=(h.follow n.s.af.ab f).qe rfl rfl rfl rfl rfl rfl
theorem iG.cut {r:aU} (h:iG c0 g i r) (hv:∃ x,x∈(ce r.ah).1.av):∃ b,gv c0 (g.full i) r.ah b:=by
 rcases h.ah with ⟨h1,-⟩ | ⟨b,κ,h1,-⟩
 obtain⟨x,hx⟩:=hv
 rw[h1.xr] at hx;cases hx
 exact⟨b,h1⟩
theorem St.j6 (h:St c0 g i n) (m:az):St c0 g i (n.j6 m):=by
 unfold ai.j6
 split
 exact h.post (dG.no bare (.inl rfl) rfl)
 split
 exact h.post (dG.no bare (.inr rfl) rfl)
 exact h
theorem St.oK (h:St c0 g i n) (m:az):St c0 g i (n.oK m):=h.send (dG.eV bare (.inl (by show (2:Int)<3;decide)))
theorem St.l8 (h:St c0 g i n) (k t:Int) (hm:∀ to:Int,dG c0 g { az.zero with ao:=k,am:=n.s.id,to:=to,ab:=t,index:=(bX n.s.ah).1,cn:=(bX n.s.ah).2 }):St c0 g i (n.l8 k t):=⟨h.cY,h.node,fun x hx=>by
 rcases List.mem_append.1 hx with hx | hx
 exact h.aG x hx
 obtain⟨to,-,rfl⟩:=List.mem_map.1 hx
 exact hm to⟩
theorem Y0 {l:List aA} {a:aA} (h:l.getLast?=some a):fy l l.length=a.ab:=by
 unfold fy
 rw[if_neg (fun hz=>by rw[List.eq_nil_of_length_eq_zero hz] at h;cases h),← List.getLast?_eq_getElem?,h];rfl
theorem iG.one {r:aU} (h:iG c0 g i r) (hI:ia c0 g) {e:aA} (he:e∈g.full i):2≤e.ab:=by
 obtain⟨k,hk,rfl⟩:=List.getElem_of_mem he
 have h1:=h.j9 k _ (List.getElem?_eq_getElem hk)
 exact hI.one _ fun hz=>by
  rw[hz] at h1
  have:=List.prefix_nil.1 h1
  rw[List.take_eq_nil_iff] at this
  rcases this with h | h
  omega
  rw[h] at hk;cases hk
theorem St.aT (h:St c0 g i n) {m:az} (hm:dG c0 g m) (hk:m.ao=3) (ht:m.ab=n.s.af.ab):To c0 g i (n.aT m):=by
 obtain⟨h1,h2,h3,h4⟩:=hm.asks hk
 unfold ai.aT
 dsimp only
 have hp:∀ (g':G) (q:ai) (dZ:Bool),St c0 g' i q→q.s.af.ab=n.s.af.ab→(dZ=true→g'.aT i n.s.af.ab=m.am)→St c0 g' i (q.post { az.zero with ao:=4,to:=m.am,bT:= !dZ }):=fun g' q dZ hq e1 e2=>by
  refine hq.post (dG.WY bare rfl fun z=>?_)
  have hy:dZ=true:=by cases dZ<;>first | rfl | (cases z)
  refine⟨?_,h2⟩
  show g'.aT q.s.id q.s.af.ab=m.am
  rw[hq.node.id,e1];exact e2 hy
 obtain⟨dZ,rz⟩:∃ dZ,dZ=(decide (n.s.af.aT=0∨n.s.af.aT=m.am) && decide (n.s.aO=1) && mz n.s.ah m.index m.cn):=⟨_,rfl⟩
 rw[←rz]
 cases dZ with
 | false=>exact (hp g n false h rfl (fun z=>by cases z)).to
 | true =>
  have hy:=rz.symm
  simp only[Bool.and_eq_true,decide_eq_true_eq] at hy
  obtain⟨⟨hv,hr⟩,pb⟩:=hy
  simp only[if_true]
  by_cases vj:n.s.af.aT=m.am
  refine (hp g ⟨{ n.s with af:={ n.s.af with aT:=m.am },bi:=0 },n.o⟩ true ⟨h.cY,h.node.qe rfl ?_ rfl rfl rfl rfl,h.aG⟩ rfl fun _=>by rw[h.node.aT];exact vj).to
  show ({ n.s.af with aT:=m.am }:xh)=n.s.af
  rw[←vj]
  have hv:n.s.af.aT=0:=hv.resolve_right vj
  have hz:g.aT i n.s.af.ab=0:=by rw[h.node.aT];exact hv
  have Hj:E7 aA.ab (g.jn m.am n.s.af.ab) (g.full i):=by
   rw[ht] at h3 h4
   rcases h.node.ah with ⟨-,h5,-⟩ | ⟨b,κ,h5,-⟩
   exact .inl h5
   unfold mz at pb
   rw[h5.aZ h.node.cW] at pb
   simp only at pb
   cases ha:(g.full i).getLast? with
   | none=>exact .inl (List.getLast?_eq_none_iff.1 ha)
   | some a =>
    have h6:=Y0 ha
    have h7:=h.node.one h.cY (List.mem_of_getLast? ha)
    rw[h6,h4,h3] at pb
    cases hb:(g.jn m.am n.s.af.ab).getLast? with
    | none =>
     have h8:=List.getLast?_eq_none_iff.1 hb
     rw[h8] at pb
     have h9:0<(g.full i).length:=List.length_pos_iff.2 fun z=>by rw[z] at ha;cases ha
     simp only[fy,List.length_nil,if_true] at pb
     split at pb
     have:=of_decide_eq_true pb;omega
     have:=of_decide_eq_true pb;omega
    | some x =>
     rw[Y0 hb] at pb
     refine .inr ⟨a,x,ha,hb,?_⟩
     split at pb
     exact .inl (of_decide_eq_true pb)
     rename_i bH
     have:=of_decide_eq_true pb
     exact .inr ⟨by omega,by omega⟩
  obtain⟨hI,hG⟩:=h.cY.cast (c:=m.am) (v:=g.full i) hz h2 h.node.j9 (.inr ⟨ht▸h1,Hj⟩) fun t' k h0 hk qF=>by
   obtain⟨-,h6⟩:=h.node.vX t' k h0 hk
   exact h6
  refine⟨_,hG.mono (Nat.zero_le _),hp _ ⟨{ n.s with af:={ n.s.af with aT:=m.am },bi:=0 },n.o⟩ true ⟨hI,?_,fun x hx=>(h.aG x hx).xx h.cY hG⟩ rfl fun _=>if_pos ⟨rfl,rfl⟩⟩
  refine⟨h.node.id,h.node.kA,hG.j9 h.node.j9,h.node.cW,h.node.ff,h.node.ah,h.node.real,h.node.pre,if_pos ⟨rfl,rfl⟩,fun T hT=>?_,h.node.vX,fun z=>?_,fun z=>?_⟩
  refine (if_neg fun z=>?_).trans (h.node.sy T hT)
  have:=z.2;simp only at hT;omega
  exact absurd (hr.symm.trans z) (by decide)
  exact absurd (hr.symm.trans z) (by decide)
end
end Go.Lw.dF
namespace Go.Lw.dF
section
variable {c0:aY} {g g' g'':G} {i:Int} {n n' n'':ai}
theorem m6.sub {T:Int} {l m:List aA} (h:m6 g T l) (hm:m <+: l):m6 g T m:=by
 rcases h with rfl | ⟨t,k,n,h1,h2,h3⟩
 exact .inl (List.prefix_nil.1 hm)
 exact .inr ⟨t,k,n,h1,h2,hm.trans h3⟩
theorem RG {l:List aA} {a b:Nat} (h:a≤b):l.take a <+: l.take b:=by
 rw[show l.take a=(l.take b).take a by rw[List.take_take,Nat.min_eq_left h]]
 exact List.take_prefix _ _
theorem iG.leads {r:aU} (h:iG c0 g i r) (hr:r.aO=4):∃ b κ:Nat,gv c0 (g.full i) r.ah b∧r.af.aB=1+κ∧b≤κ∧κ≤(g.full i).length∧m6 g r.af.ab ((g.full i).take κ)∧1≤r.af.ab:=by
 rcases h.ah with ⟨h1,h2,-⟩ | h1
 exact absurd h2 (h.cI hr).2.2.1
 exact h1
theorem St.lq (h:St c0 g i n) (hr:n.s.aO=4) (to am:Int):St c0 g i (n.lq to am):=by
 unfold ai.lq
 split
 rename_i hz
 obtain⟨b,κ,h1,h2,h3,h4,h5,h6⟩:=h.node.leads hr
 obtain⟨l1,l2,l3,-⟩:=h.node.cI hr
 have e:mW n.s.ah.aF am=({ az.zero with ao:=7,index:=n.s.ah.aF.index,cn:=n.s.ah.aF.ab,aJ:=n.s.ah.aF.aJ,hint:=am,data:=(n.s.ah.aF.data.drop am.toNat).take 64,done:=decide ((n.s.ah.aF.data.drop am.toNat).length≤64) },0):=by
  unfold mW at hz ⊢
  split
  rename_i hc;rw[if_pos hc] at hz;cases hz
  rfl
 rw[e]
 refine h.post (dG.is7 h.cY rfl ⟨rfl,by show ((n.s.ah.aF.data.drop am.toNat).take 64).length≤64;rw[List.length_take];omega⟩ ⟨b,?_⟩)
 show g.aI n.s.af.ab≠[]∧b≤(g.aI n.s.af.ab).length∧n.s.ah.aF.index=1+b∧n.s.ah.aF.ab=fy (g.aI n.s.af.ab) b∧n.s.ah.aF.aJ=ik c0 ((g.aI n.s.af.ab).take b)∧m6 g n.s.af.ab ((g.aI n.s.af.ab).take b)
 rw[l2]
 exact⟨l3,h1.le,h1.index,h1.ab,h1.aJ,h5.sub (RG h3)⟩
 exact h
theorem St.fA (h:St c0 g i n) (hr:n.s.aO=4) {p:cK} (hp:p.next≤2+(g.full i).length):St c0 g i (n.fA p):=by
 unfold ai.fA
 split
 exact h.lq hr _ _
 rename_i hb
 obtain⟨b,κ,h1,h2,h3,h4,h5,h6⟩:=h.node.leads hr
 obtain⟨l1,l2,l3,-⟩:=h.node.cI hr
 have hi:=h1.index
 refine h.post (dG.is5 h.cY rfl ⟨?_,rfl,rfl⟩ ⟨(p.next-2).toNat,κ,?_⟩)
 show (oL n.s.ah p.next 8).1.length≤8
 unfold oL
 split
 exact Nat.zero_le _
 rw[List.length_take];omega
 show g.aI n.s.af.ab≠[]∧(p.next-2).toNat≤(g.aI n.s.af.ab).length∧p.next-1=1+((p.next-2).toNat:Int)∧(cE n.s.ah (p.next-1)).1=fy (g.aI n.s.af.ab) (p.next-2).toNat∧(oL n.s.ah p.next 8).1 <+: (g.aI n.s.af.ab).drop (p.next-2).toNat∧n.s.af.aB=1+(κ:Int)∧κ≤(g.aI n.s.af.ab).length∧m6 g n.s.af.ab ((g.aI n.s.af.ab).take κ)
 rw[l2]
 have hx:=h1.Ir h.node.cW (k:=(p.next-2).toNat) (by omega) (by omega)
 rw[show (1:Int)+((p.next-2).toNat:Int)=p.next-1 by omega] at hx
 refine⟨l3,by omega,by omega,by rw[hx],?_,h2,h4,h5⟩
 unfold oL
 split
 exact List.nil_prefix
 have iO:=(h1.pD h.node.cW).lG p.next
 have hl:=h1.len
 rw[h1.entries,List.drop_drop,show b+eI n.s.ah p.next=(p.next-2).toNat by omega]
 exact List.take_prefix _ _
theorem St.mF {l:List cK}:∀ {n:ai},St c0 g i n→n.s.aO=4→(∀ p∈l,p.next≤2+(g.full i).length)→St c0 g i (n.mF l):=by
 induction l with
 | nil=>exact fun h _ _=>h
 | cons p l ih =>
  intro n h hr hp
  exact ih (h.fA hr (hp p (List.mem_cons_self ..))) (by rw[ai.DG];exact hr) (fun q hq=>hp q (List.mem_cons_of_mem _ hq))
theorem St.gD (h:St c0 g i n) (hr:n.s.aO=4∨n.s.aK=[]):St c0 g i n.gD:=by
 unfold ai.gD
 rcases hr with hr | hr
 exact h.mF hr fun p hp=>(((h.node.cI hr).2.2.2.2 p hp).2.2)
 rw[hr];exact h
theorem St.cx (h:St c0 g i n) (hr:n.s.aO=4) {x:Int} (hx:x≤2+(g.full i).length):St c0 g i (n.cx x):=by
 obtain⟨l1,l2,l3,l4,l5⟩:=h.node.cI hr
 refine⟨h.cY,{ h.node with cI:=fun _=>⟨l1,l2,l3,l4,fun p hp=>?_⟩,xp:=fun z=>absurd (hr.symm.trans z) (by decide) },h.aG⟩
 obtain⟨o,-,rfl⟩:=List.mem_map.1 hp
 unfold ai.tY
 cases hf:n.s.aK.find? fun p=>decide (p.node=o) with
 | none=>exact⟨Int.le_refl _,by show (0:Int)≤1+_;omega,hx⟩
 | some q=>exact l5 q (List.mem_of_find?_eq_some hf)
theorem ahT {l:List cK} {x c:Int} (h:c≤fW l x) (h0:0<c):∃ p∈l,p.node=x∧c≤p.cA:=by
 have h1:=M5 (fun p:cK=>p.node==x) (·.cA) l 0
 rcases h1.2.2 with h2 | ⟨p,hp,h3,h4⟩
 have:fW l x=0:=h2
 omega
 refine⟨p,hp,by simpa using h3,?_⟩
 have:p.cA=fW l x:=h4
 omega
theorem abT (h0:0<n.b_):kG (ce n.s.ah).1 fun j=>∃ p∈n.s.aK++[⟨n.s.id,0,n.aZ⟩],p.node=j∧n.b_≤p.cA:=by
 have hk:n.AG n.b_:=by
  unfold ai.b_ at h0 ⊢
  split
  rename_i hk;exact hk.choose_spec
  rename_i hk;rw[dif_neg hk] at h0;omega
 rcases hk with ⟨-,h1⟩ | ⟨h1,h2,h3,-⟩
 omega
 refine⟨(cZ n.av).filter fun v=>decide (n.b_≤fW (n.s.aK++[⟨n.s.id,0,n.aZ⟩]) v),?_,fun j hj=>ahT (of_decide_eq_true (List.mem_filter.1 hj).2) h0⟩
 have bH:0<(cZ n.av).length:=by
  rcases Nat.eq_zero_or_pos (cZ n.av).length with hz | hz
  rw[List.eq_nil_of_length_eq_zero hz] at h1;exact absurd rfl h1
  exact hz
 rw[List.length_map,List.countP_map] at h3
 show oY (cZ n.av) _=true
 simp only[oY,Bool.and_eq_true,decide_eq_true_eq]
 refine⟨bH,Int.le_trans h3 (Int.ofNat_le.2 ?_)⟩
 rw[List.countP_eq_length_filter,List.countP_eq_length_filter]
 refine Nat.le_of_eq (congrArg List.length (List.filter_congr fun x hx=>?_))
 simp[hx]
theorem St.count (h:St c0 g i n) (hr:n.s.aO=4):∃ g',h_ i 0 g g'∧St c0 g' i n.count∧(n.count.s.aO=4∨n.count.s.aK=[])∧g'.full=g.full∧n.count.s.ah=n.s.ah:=by
 by_cases hs:n.b_≤n.s.af.aB∨(cE n.s.ah n.b_).1≠n.s.af.ab
 rw[yY hs];exact⟨g,h_.refl i g,h,.inl hr,rfl,rfl⟩
 obtain⟨b,κ,h1,h2,h3,h4,h5,h6⟩:=h.node.leads hr
 obtain⟨l1,l2,l3,l4,l5⟩:=h.node.cI hr
 have hT:=h.cY.one n.s.af.ab (by rw[l2];exact l3)
 have fJ:n.s.af.aB<n.b_:=by omega
 have gA:(cE n.s.ah n.b_).1=n.s.af.ab:=Classical.byContradiction fun z=>hs (.inr z)
 obtain⟨k,k1,k2,k3,k4⟩:=h1.Lx h.node.cW (Y6 (l:=n.s.ah) (i:=n.b_) (by omega))
 rw[gA] at k4
 have qB:=h1.aZ h.node.cW
 have ng:0<k:=by omega
 have afD:kG (ik c0 ((g.aI n.s.af.ab).take (g.full i).length)) fun j=>k≤g.dv j n.s.af.ab:=by
  rw[l2,List.take_length,← h1.xr]
  refine (abT (n:=n) (by omega)).mono fun j hj=>?_
  obtain⟨p,hp,e1,e2⟩:=hj
  rcases List.mem_append.1 hp with hp | hp
  have:=(l5 p hp).2.1
  rw[e1] at this;omega
  rw[List.mem_singleton.1 hp] at e1 e2
  have:j=i:=by rw[←e1];exact h.node.id
  rw[this,l4];exact k3
 have xL:∃ e,(g.aI n.s.af.ab)[k-1]?=some e∧e.ab=n.s.af.ab:=by
  obtain⟨e,he⟩:=y5 (a:=g.full i) (k:=k-1) (by omega)
  refine⟨e,by rw[l2];exact he,?_⟩
  unfold fy at k4
  rw[if_neg (by omega),he] at k4
  exact k4.symm
 obtain⟨hI,hG⟩:=h.cY.aB ng k3 (by rw[l2];exact Nat.le_refl _) xL afD
 have cc:St c0 (g.aB n.s.af.ab k (g.full i).length) i (n.lz n.b_):=by
  refine⟨hI,⟨h.node.id,h.node.kA,h.node.j9,h.node.cW,h.node.ff,.inr ⟨b,k,h1,k1,by omega,k3,.inr ⟨n.s.af.ab,k,(g.full i).length,.inr ⟨rfl,rfl,rfl⟩,Int.le_refl _,?_⟩,h6⟩,h.node.real,h.node.pre,h.node.aT,h.node.sy,h.node.vX,h.node.cI,h.node.xp⟩,fun m hm=>(h.aG m hm).xx h.cY hG⟩
  show (g.full i).take k <+: (g.aI n.s.af.ab).take k
  rw[l2];exact List.prefix_rfl
 rw[yX hs]
 split
 exact⟨_,hG,cc.follow _ _,.inr rfl,rfl,rfl⟩
 exact⟨_,hG,cc,.inl hr,rfl,rfl⟩
theorem Xg {r r':aU} (hI:ia c0 g) (h:iG c0 g i r) {x:aA} {b:Nat} (D4:gv c0 (g.full i) r.ah b) (HG:Ay x) (hx:x.index=(g.full i).length+2) (ht:x.ab=r.af.ab)
  (hold:(g.aI r.af.ab=g.full i∧g.full i≠[]∧g.ii r.af.ab=i)∨(g.aI r.af.ab=[]∧2≤r.af.ab∧(∀ e∈g.full i,e.ab<r.af.ab)∧g.aT i r.af.ab=i∧qm aA.ab gF c0 kG g.toRec r.af.ab (g.full i)∧kG (ik c0 (g.full i)) fun j=>g.aT j r.af.ab=i))
  (cD:∀ c,gF x=some c→∃ k n,g.ev r.af.ab k n∧n≤(g.full i).length∧m9 gF (g.full i) k (g.full i).length∧next (ik c0 (g.full i)) c∧g.aI r.af.ab=g.full i)
  (e1:r'.id=r.id) (e2:r'.af=r.af) (e3:r'.ah=⟨r.ah.aF,r.ah.entries++[x]⟩) (e4:r'.aO=4) (e5:∀ p∈r'.aK,0≤p.cA∧p.cA≤1+g.dv p.node r.af.ab∧p.next≤2+(g.full i).length) :
  ∃ g',h_ i 1 g g'∧ia c0 g'∧iG c0 g' i r'∧g'.full i=g.full i++[x]:=by
 have hT:2≤r.af.ab:=by
  rcases hold with ⟨a,b,-⟩ | ⟨-,a,-⟩
  exact hI.one _ (by rw[a];exact b)
  exact a
 have agh:(g.aI r.af.ab=g.full i∧g.full i≠[]∧g.ii r.af.ab=i)∨(g.aI r.af.ab=[]∧(∀ e∈g.full i,e.ab<r.af.ab)∧g.aT i r.af.ab=i∧qm aA.ab gF c0 kG g.toRec r.af.ab (g.full i)∧kG (ik c0 (g.full i)) fun j=>g.aT j r.af.ab=i):=by
  rcases hold with h | ⟨a,-,b⟩
  exact .inl h
  exact .inr ⟨a,b⟩
 obtain⟨zb,hG1⟩:=hI.put (i:=i) (x:=x) h.j9 h.cW hx ht HG hT h.ff h.kA agh cD
 have UJ:(g.put i r.af.ab (g.full i++[x])).aI r.af.ab=g.full i++[x]:=if_pos rfl
 have NV:g.dv i r.af.ab≤(g.full i).length+1:=by
  have:=hI.rN i r.af.ab
  rcases hold with ⟨a,-⟩ | ⟨a,-⟩
  rw[a] at this;omega
  rw[a] at this;simp at this;omega
 obtain⟨qZ,hG2⟩:=zb.told (i:=i) (T:=r.af.ab) (a:=(g.full i).length+1) (F:=g.full i++[x]) NV (by rw[UJ];simp) (fun t ht=>h.sy t ht)
 have hG:=hG1.trans hG2
 have hF:((g.put i r.af.ab (g.full i++[x])).told i r.af.ab ((g.full i).length+1) (g.full i++[x])).full i=g.full i++[x]:=if_pos rfl
 have hA:((g.put i r.af.ab (g.full i++[x])).told i r.af.ab ((g.full i).length+1) (g.full i++[x])).dv i r.af.ab=(g.full i).length+1:=if_pos ⟨rfl,rfl⟩
 have hO:((g.put i r.af.ab (g.full i++[x])).told i r.af.ab ((g.full i).length+1) (g.full i++[x])).ii r.af.ab=i:=if_pos rfl
 generalize OX:(g.put i r.af.ab (g.full i++[x])).told i r.af.ab ((g.full i).length+1) (g.full i++[x])=g2 at *
 have eS:g2.aI r.af.ab=g.full i++[x]:=by rw[←OX];exact UJ
 have hV:∀ t,g2.aT i t=g.aT i t:=fun t=>by rw[←OX];rfl
 have hAo:∀ t,t≠r.af.ab→g2.dv i t=g.dv i t:=fun t bH=>by rw[←OX];exact if_neg fun z=>bH z.2
 refine⟨g2,hG,qZ,⟨e1.trans h.id,h.kA,?_,?_,?_,?_,fun _=>⟨b,?_⟩,fun z=>absurd (e4.symm.trans z) (by decide),?_,fun T be=>?_,fun t k h0 hk=>?_,fun _=>?_,fun z=>absurd (e4.symm.trans z) (by decide)⟩,hF⟩
 rw[hF]
 intro k e hk
 rcases F1 hk with hk | ⟨rfl,rfl⟩
 rw[List.take_append_of_le_length (by have:=gI hk;omega)]
 exact hG.j9 h.j9 k e hk
 rw[ht,eS,List.take_of_length_le (by simp)];exact List.prefix_rfl
 rw[hF]
 intro k e hk
 rcases F1 hk with hk | ⟨rfl,rfl⟩
 exact h.cW k e hk
 exact hx
 rw[hF,e2]
 intro e he
 rcases List.mem_append.1 he with he | he
 exact h.ff e he
 rw[List.mem_singleton.1 he,ht];exact Int.le_refl _
 rcases h.ah with ⟨hb,hn,-⟩ | ⟨b',κ,c1,c2,c3,c4,c5,c6⟩
 have:=D4.index;rw[hb.1] at this;omega
 refine .inr ⟨b',κ,by rw[hF,e3];exact c1.CV x,by rw[e2];exact c2,c3,by rw[hF];simp;omega,?_,by rw[e2];exact c6⟩
 rw[hF,e2,List.take_append_of_le_length c4]
 exact hG.comm hI c5
 rw[hF,e3];exact D4.CV x
 rw[e2,hV];exact h.aT
 rw[e2] at be;rw[hV];exact h.sy T be
 rw[hF,e2]
 by_cases UW:t=r.af.ab
 subst UW
 rw[hA] at hk
 exact⟨Int.le_refl _,.inl (by rw[eS];exact List.take_prefix _ _)⟩
 rw[hAo t UW] at hk
 obtain⟨a1,a2⟩:=h.vX t k h0 hk
 refine⟨a1,?_⟩
 rw[hG.take (Nat.le_trans hk (hI.rN i t))]
 rcases a2 with a2 | ⟨u,a3,a4,a5⟩
 exact .inl (a2.trans (List.prefix_append _ _))
 exact .inr ⟨u,a3,a4,hG.parts a5⟩
 rw[e2,hF,hO,hA,eS]
 refine⟨rfl,rfl,by simp,by simp,fun p hp=>?_⟩
 obtain⟨a0,a1,a2⟩:=e5 p hp
 have:=hG.dv p.node r.af.ab
 exact⟨a0,by omega,by simp;omega⟩
end
end Go.Lw.dF
namespace Go.Lw.dF
section
variable {c0:aY} {g g' g'':G} {i:Int} {n n' n'':ai}
structure Bd (r:aU):Prop where
 t0:0≤r.af.ab
 ab:r.af.ab<4611686018427387904
 aZ:(bX r.ah).1<4611686018427387904
theorem gv.up {F:List aA} {L:br} {b:Nat} (h:gv c0 F L b) (hi:pH F) (hl:(bX L).1<4611686018427387904):bF (bX L).1=F.length+2:=by
 have:=congrArg Prod.fst (h.aZ hi)
 simp only at this
 rw[qg (by omega) (by omega)];omega
theorem Yb {x:aA} {G0:G} (hG:h_ i 1 g G0) (h:St c0 G0 i (n.fE x)) (hr:n.s.aO=4) {y:Int} (hy:y≤2+(G0.full i).length):To c0 g i ((if x.ao=3 then (n.fE x).cx y else n.fE x).count).gD:=by
 have h2:St c0 G0 i (if x.ao=3 then (n.fE x).cx y else n.fE x):=by
  split
  exact h.cx hr hy
  exact h
 have ph:(if x.ao=3 then (n.fE x).cx y else n.fE x).s.aO=4:=by split<;>exact hr
 obtain⟨g',h3,h4,h5,-,-⟩:=h2.count ph
 exact⟨g',hG.trans h3,h4.gD h5⟩
theorem K4 (e:aA):n.put e=((if ({ e with index:=bF n.aZ,ab:=n.s.af.ab }:aA).ao=3 then (n.fE { e with index:=bF n.aZ,ab:=n.s.af.ab }).cx (bF n.aZ) else n.fE { e with index:=bF n.aZ,ab:=n.s.af.ab }).count).gD:=rfl
theorem St.put (h:St c0 g i n) (hr:n.s.aO=4) (hb:(bX n.s.ah).1<4611686018427387904) {e:aA} (hd:e.data.length≤100) (Ou:e.ao≠3→e.aJ=⟨[],[]⟩) (cD:e.ao=3→∃ k n',g.ev n.s.af.ab k n'∧n'≤(g.full i).length∧m9 gF (g.full i) k (g.full i).length∧next (ik c0 (g.full i)) e.aJ):To c0 g i (n.put e):=by
 obtain⟨b,κ,h1,h2,h3,h4,h5,h6⟩:=h.node.leads hr
 obtain⟨l1,l2,l3,l4,l5⟩:=h.node.cI hr
 have hu:bF n.aZ=(g.full i).length+2:=h1.up h.node.cW hb
 have HG:Ay { e with index:=bF n.aZ,ab:=n.s.af.ab }:=by
  by_cases hk:e.ao=3
  obtain⟨k,n',-,-,-,a,b,lf⟩:=cD hk
  have hr:=(I7 lf).1
  exact⟨hd,(Ji hr).1,(Ji hr).2,fun _=>hr⟩
  have fT:=Ou hk
  exact⟨hd,by show e.aJ.av.length≤7;rw[fT];exact Nat.zero_le _,by show e.aJ.aD.length≤7;rw[fT];exact Nat.zero_le _,fun z=>absurd z hk⟩
 obtain⟨g',hG,hI,hN,hF⟩:=Xg (r':=(n.fE { e with index:=bF n.aZ,ab:=n.s.af.ab }).s) h.cY h.node h1 (x:={ e with index:=bF n.aZ,ab:=n.s.af.ab }) HG hu rfl (.inl ⟨l2,l3,l1⟩) (fun c hc=>by
  unfold gF at hc
  split at hc
  rename_i hk
  cases hc
  obtain⟨k,n',a1,a2,a3,a4⟩:=cD hk
  exact⟨k,n',a1,a2,a3,a4,l2⟩
  cases hc) rfl rfl rfl hr l5
 rw[K4]
 refine Yb hG ⟨hI,hN,fun m hm=>(h.aG m hm).xx h.cY hG⟩ hr ?_
 rw[hu,hF];simp;omega
theorem aki (ht:n.gM=1):kG (ce n.s.ah).1 fun j=>(j,true)∈n.s.cB:=by
 unfold ai.gM kC at ht
 split at ht
 rename_i hh
 refine⟨(cZ n.av).filter (says n.s.cB true),?_,fun j hj=>?_⟩
 show oY (cZ n.av) _=true
 simp only[oY,Bool.and_eq_true,decide_eq_true_eq]
 refine⟨hh.1,Int.le_trans hh.2 (Int.ofNat_le.2 ?_)⟩
 rw[List.countP_eq_length_filter,List.countP_eq_length_filter]
 refine Nat.le_of_eq (congrArg List.length (List.filter_congr fun x hx=>?_))
 simp[hx]
 have h1:=(List.mem_filter.1 hj).2
 unfold says Lw.aT at h1
 cases hf:n.s.cB.find? (vr j) with
 | none=>rw[hf] at h1;simp at h1
 | some p =>
  rw[hf] at h1
  have h2:p.2=true:=by simpa using h1
  have h3:p.1=j:=by have:=List.find?_some hf;simpa [vr] using this
  have h4:=List.mem_of_find?_eq_some hf
  rw[show p=(j,true) from Prod.ext h3 h2] at h4
  exact h4
 split at ht<;>simp at ht
theorem St.cI (h:St c0 g i n) (hr:n.s.aO=3) (hb:(bX n.s.ah).1<4611686018427387904) (ht:n.gM=1):To c0 g i n.cI:=by
 obtain⟨v1,v2,v3,v4,v5,v6⟩:=h.node.xp hr
 obtain⟨b,h1⟩:=h.node.real (by rw[hr];decide)
 have hu:bF n.aZ=(g.full i).length+2:=h1.up h.node.cW hb
 have hm:=aki ht
 rw[h1.xr] at hm
 have Et:kG (ik c0 (g.full i)) fun j=>g.aT j n.s.af.ab=i:=hm.mono v6
 have Pi:=QE
 -- nobody leads in this ab yet
 have wy:g.aI n.s.af.ab=[]:=by
  refine Classical.byContradiction fun bH=>v5 bH ?_
  obtain⟨-,-,l,e,r,a3,a4,a5,a6,a7⟩:=h.cY.own _ bH
  have lf:vL aA.ab gF c0 kG g.toRec n.s.af.ab (g.full i):=⟨h.node.j9,v4,Et.mono fun j hj=>by
   have re:g.aT j n.s.af.ab≠0:=by rw[hj];exact h.node.kA
   obtain⟨-,b2,b3,b4⟩:=h.cY.jz j _ re
   rw[hj,v2] at b3
   refine⟨_,b2,b3,fun t k m iZ hk Kq=>?_⟩
   rcases b4 t k (h.cY.right.rR t k m iZ).1 hk Kq with c1 | ⟨u,c1,c2,c3⟩
   exact .inl c1
   rcases Int.lt_or_eq_of_le c2 with c2 | c2
   exact .inr ⟨u,c1,c2,c3⟩
   subst c2
   exact absurd (h.cY.right.leads Pi bH iZ (Int.le_of_lt Kq)) c3.not⟩
  obtain⟨j,j1,j2⟩:=h.cY.right.akH Pi (a7.SO h.cY.right Pi) lf a6 Et
  exact j1.symm.trans j2
 have pW:qm aA.ab gF c0 kG g.toRec n.s.af.ab (g.full i):=⟨h.node.j9,v4,Et.mono fun j hj=>by
  have re:g.aT j n.s.af.ab≠0:=by rw[hj];exact h.node.kA
  obtain⟨-,b2,b3,b4⟩:=h.cY.jz j _ re
  rw[hj,v2] at b3
  refine⟨re,_,b2,b3,fun t k h0 hk Kq=>?_⟩
  rcases b4 t k h0 hk Kq with c1 | ⟨u,c1,c2,c3⟩
  exact .inl c1
  rcases Int.lt_or_eq_of_le c2 with c2 | c2
  exact .inr ⟨u,c1,c2,c3⟩
  subst c2
  obtain⟨q,-,a,z,-,hz,-⟩:=c3
  rw[wy] at hz;cases hz⟩
 obtain⟨m,B_⟩:∃ m:ai,m=ai.cx { n with s:={ n.s with aO:=4,gq:=n.s.id,cB:=[],bi:=0,fQ:=0,eW:=0,aK:=[] } } (bF n.aZ):=⟨_,rfl⟩
 have nT:m.s.aO=4:=by rw[B_];rfl
 have tD:m.s.ah=n.s.ah:=by rw[B_];rfl
 have V3:m.s.af=n.s.af:=by rw[B_];rfl
 have si:m.s.id=n.s.id:=by rw[B_];rfl
 have jL:m.o=n.o:=by rw[B_];rfl
 have hmp:∀ p∈m.s.aK,0≤p.cA∧p.cA≤1+g.dv p.node n.s.af.ab∧p.next≤2+(g.full i).length:=fun p hp=>by
  rw[B_] at hp
  obtain⟨o,-,rfl⟩:=List.mem_map.1 hp
  exact⟨Int.le_refl _,by show (0:Int)≤1+_;omega,by show bF n.aZ≤_;rw[hu];omega⟩
 have V4:m.aZ=n.aZ:=by unfold ai.aZ;rw[tD]
 obtain⟨g',hG,hI,hN,hF⟩:=Xg (r':=(m.fE { (⟨0,0,1,[],⟨[],[]⟩⟩:aA) with index:=bF m.aZ,ab:=m.s.af.ab }).s) h.cY h.node h1 (x:={ (⟨0,0,1,[],⟨[],[]⟩⟩:aA) with index:=bF m.aZ,ab:=m.s.af.ab }) ⟨Nat.zero_le _,Nat.zero_le _,Nat.zero_le _,fun z=>(by cases (show (1:Int)=3 from z))⟩ (by rw[V4];exact hu) (by show m.s.af.ab=_;rw[V3])
  (.inr ⟨wy,v3,v4,v1,pW,Et⟩) (fun c hc=>by unfold gF at hc;rw[if_neg (by show ¬ (1:Int)=3;decide)] at hc;cases hc) si V3 (by show (⟨m.s.ah.aF,m.s.ah.entries++_⟩:br)=_;rw[tD]) nT hmp
 have e:n.cI=m.put ⟨0,0,1,[],⟨[],[]⟩⟩:=by rw[B_];rfl
 rw[e,K4]
 refine Yb hG ⟨hI,hN,fun x hx=>(h.aG x (by rw[←jL];exact hx)).xx h.cY hG⟩ nT ?_
 rw[V4,hu,hF];simp;omega
theorem iG.t1 {r:aU} (h:iG c0 g i r) {b:Nat} (hc:gv c0 (g.full i) r.ah b):1≤r.af.ab:=by
 rcases h.ah with ⟨h1,-⟩ | ⟨b,κ,h1,h2,h3,h4,h5,h6⟩
 have:=hc.index;rw[h1.1] at this;omega
 exact h6
theorem St.fp (h:St c0 g i n) (hb:Bd n.s) {b:Nat} (hc:gv c0 (g.full i) n.s.ah b):To c0 g i n.fp:=by
 have hu:bF n.s.af.ab=n.s.af.ab+1:=qg hb.t0 (by have:=hb.ab;omega)
 have hz:g.aT i (n.s.af.ab+1)=0:=h.node.sy _ (by omega)
 obtain⟨hI,hG⟩:=h.cY.cast (c:=i) (v:=g.full i) hz h.node.kA h.node.j9 (.inl rfl) fun t k h0 hk ht=>by
  obtain⟨h1,h2⟩:=h.node.vX t k h0 hk
  rcases h2 with h2 | ⟨u,a1,a2,a3⟩
  exact .inl h2
  exact .inr ⟨u,a1,by omega,a3⟩
 obtain⟨m,hm⟩:∃ m:ai,m=ai.dM { n with s:={ n.s with af:={ n.s.af with ab:=bF n.s.af.ab,aT:=n.s.id } } } 3:=⟨_,rfl⟩
 have nk:m.s.af.ab=n.s.af.ab+1:=by rw[hm];exact hu
 have nT:m.s.aO=3:=by rw[hm];rfl
 have gK:=h.node.id
 have h1t:=h.node.t1 hc
 have cc:St c0 (g.cast i (n.s.af.ab+1) i (g.full i)) i m:=by
  refine⟨hI,⟨by rw[hm];exact gK,h.node.kA,hG.j9 h.node.j9,h.node.cW,fun e he=>by have:=h.node.ff e he;omega,?_,fun _=>⟨b,by rw[hm];exact hc⟩,fun z=>(by rw[nT] at z;cases z),?_,fun T hT=>?_,fun t k h0 hk=>?_,fun z=>(by rw[nT] at z;cases z),fun _=>?_⟩,fun x hx=>(h.aG x (by rw[hm] at hx;exact hx)).xx h.cY hG⟩
  rcases h.node.ah with ⟨h1,-⟩ | ⟨b',κ,h1,h2,h3,h4,h5,h6⟩
  have:=hc.index;rw[h1.1] at this;omega
  exact .inr ⟨b',κ,by rw[hm];exact h1,by rw[hm];exact h2,h3,h4,(hG.comm h.cY h5).mono (by omega),by omega⟩
  rw[nk,hm];exact (if_pos ⟨rfl,rfl⟩:_=i).trans gK.symm
  rw[nk] at hT
  exact (if_neg fun z=>by have:=z.2;omega).trans (h.node.sy T (by omega))
  obtain⟨h1,h2⟩:=h.node.vX t k h0 hk
  refine⟨by omega,?_⟩
  rcases h2 with h2 | ⟨u,a1,a2,a3⟩
  exact .inl h2
  exact .inr ⟨u,a1,by omega,hG.parts a3⟩
  rw[nk]
  refine⟨if_pos ⟨rfl,rfl⟩,if_pos ⟨rfl,rfl,rfl⟩,by omega,fun e he=>by have:=h.node.ff e he;omega,fun bH ho=>?_,fun j hj=>?_⟩
  obtain⟨-,a2,-⟩:=h.cY.own _ bH
  have sp:g.ii (n.s.af.ab+1)=i:=ho
  rw[sp,hz] at a2
  exact h.node.kA a2.symm
  rw[hm] at hj
  have:(j,true)=(n.s.id,true):=List.mem_singleton.1 hj
  cases this
  rw[gK];exact if_pos ⟨rfl,rfl⟩
 have Hc:(bX m.s.ah).1<4611686018427387904:=by rw[hm];exact hb.aZ
 have e:n.fp=if m.gM=1 then m.cI else m.l8 3 m.s.af.ab:=by rw[hm];rfl
 rw[e]
 split
 rename_i ht
 obtain⟨g',a1,a2⟩:=cc.cI (by rw[hm];rfl) Hc ht
 exact⟨g',hG.trans a1,a2⟩
 refine⟨_,hG.mono (Nat.zero_le _),cc.l8 _ _ fun to=>dG.is3 bare rfl ?_⟩
 have tD:m.s.ah=n.s.ah:=by rw[hm];rfl
 have si:m.s.id=i:=by rw[hm];exact gK
 show (g.cast i (n.s.af.ab+1) i (g.full i)).aT m.s.id m.s.af.ab=m.s.id∧m.s.id≠0∧(bX m.s.ah).1=1+(((g.cast i (n.s.af.ab+1) i (g.full i)).jn m.s.id m.s.af.ab).length:Int)∧(bX m.s.ah).2=fy ((g.cast i (n.s.af.ab+1) i (g.full i)).jn m.s.id m.s.af.ab) _
 rw[tD,si,nk]
 have e2:(g.cast i (n.s.af.ab+1) i (g.full i)).jn i (n.s.af.ab+1)=g.full i:=if_pos ⟨rfl,rfl,rfl⟩
 rw[e2,hc.aZ h.node.cW]
 exact⟨if_pos ⟨rfl,rfl⟩,h.node.kA,rfl,rfl⟩
end
end Go.Lw.dF
namespace Go.Lw.dF
section
variable {c0:aY} {g g' g'':G} {i:Int} {n n' n'':ai}
theorem St.real (h:St c0 g i n) (hv:n.jz=true):∃ b,gv c0 (g.full i) n.s.ah b:=h.node.cut ⟨_,of_decide_eq_true hv⟩
theorem St.qL (h:St c0 g i n) {o:bz} (e:o.aG=n.o.aG):St c0 g i ⟨n.s,o⟩:=⟨h.cY,h.node,fun m hm=>h.aG m (e▸hm)⟩
theorem St.eD (h:St c0 g i n) (hb:Bd n.s) {b:Nat} (hc:gv c0 (g.full i) n.s.ah b) (hv:n.jz=true):To c0 g i n.eD:=by
 have h2:St c0 g i (n.dM 2):=⟨h.cY,h.node.down rfl rfl ⟨by show (2:Int)≠3;decide,by show (2:Int)≠4;decide⟩ (fun _=>⟨b,hc⟩) (fun _=>by have:=of_decide_eq_true hv;unfold ai.av at this;rw[hc.xr,h.node.id] at this;exact this) rfl (.inl rfl),h.aG⟩
 have e:n.eD=if (n.dM 2).gM=1 then (n.dM 2).fp else (n.dM 2).l8 1 (bF (n.dM 2).s.af.ab):=rfl
 rw[e]
 split
 exact h2.fp ⟨hb.t0,hb.ab,hb.aZ⟩ hc
 exact (h2.l8 _ _ fun to=>dG.eV bare (.inl (by show (1:Int)<3;decide))).to
theorem St.tick (h:St c0 g i n) (hb:Bd n.s) (t:Int):To c0 g i (n.tick t):=by
 obtain⟨e,he⟩:∃ e,e=min (jT n.s.bi) (max n.s.bi 1073741824):=⟨_,rfl⟩
 have hw:St c0 g i (n.dN e):=h.qe rfl rfl rfl rfl rfl rfl
 by_cases hr:n.s.aO≠4
 by_cases hv:max t 1≤e∧n.jz=true
 rw[ai.CY e he hr hv]
 obtain⟨b,hc⟩:=h.real hv.2
 exact hw.eD ⟨hb.t0,hb.ab,hb.aZ⟩ hc hv.2
 rw[ai.CZ e he hr hv];exact hw.to
 have jM:n.s.aO=4:=Classical.byContradiction hr
 obtain⟨b,Ve⟩:∃ b,b=if max t 1≤e then ((n.dN e).dN 0).mC 0 else n.dN e:=⟨_,rfl⟩
 have hs:St c0 g i b∧b.s.aO=4:=by
  rw[Ve];split
  exact⟨hw.qe rfl rfl rfl rfl rfl rfl,jM⟩
  exact⟨hw,jM⟩
 rw[ai.yA e he hr b Ve]
 split
 exact (St.gD (n:=(b.kD (jT b.s.fQ)).kD 0) (hs.1.qe rfl rfl rfl rfl rfl rfl) (.inl hs.2)).to
 exact (show St c0 g i (b.kD (jT b.s.fQ)) from hs.1.qe (r:=(b.kD (jT b.s.fQ)).s) rfl rfl rfl rfl rfl rfl).to
theorem St.lK (h:St c0 g i n) (hb:Bd n.s) {m:az} (hm:dG c0 g m) (hk:m.ao=4) (ht:m.ab=n.s.af.ab) (ew:m.to=i):To c0 g i (n.lK m):=by
 unfold ai.lK
 split
 rename_i hr
 have h2:St c0 g i (n.jm m.am (!m.bT)):=by
  refine⟨h.cY,{ h.node with cI:=fun z=>absurd (hr.symm.trans z) (by decide),xp:=fun _=>?_ },h.aG⟩
  obtain⟨v1,v2,v3,v4,v5,v6⟩:=h.node.xp hr
  refine⟨v1,v2,v3,v4,v5,fun j hj=>?_⟩
  rcases List.mem_append.1 hj with hj | hj
  exact v6 j hj
  have e:=List.mem_singleton.1 hj
  have e1:j=m.am:=congrArg Prod.fst e
  have e2:true = !m.bT:=congrArg Prod.snd e
  have:=hm.lK hk (by cases hx:m.bT with | false=>rfl | true=>rw[hx] at e2;cases e2)
  rw[e1]
  show g.aT m.am n.s.af.ab=i
  rw[←ht,this.1,ew]
 unfold ai.jS
 dsimp only
 split
 rename_i p8
 exact h2.cI hr hb.aZ p8
 split
 exact (h2.follow _ _).to
 exact h2.to
 exact h.to
theorem St.kW (h:St c0 g i n) (hb:Bd n.s) (m:az):To c0 g i (n.kW m):=by
 unfold ai.kW
 split
 exact (h.follow _ _).to
 split
 rename_i hr
 have h2:St c0 g i (n.jm m.am (!m.bT)):=⟨h.cY,{ h.node with cI:=fun z=>absurd (hr.1.symm.trans z) (by decide),xp:=fun z=>absurd (hr.1.symm.trans z) (by decide) },h.aG⟩
 obtain⟨b,hc⟩:=h.node.real (by rw[hr.1];decide)
 unfold ai.jS
 dsimp only
 split
 exact h2.fp ⟨hb.t0,hb.ab,hb.aZ⟩ hc
 split
 exact (h2.follow _ _).to
 exact h2.to
 exact h.to
theorem St.qb (h:St c0 g i n) (hb:Bd n.s):To c0 g i n.qb:=by
 unfold ai.qb
 split
 rename_i hv
 obtain⟨b,hc⟩:=h.real hv.2
 exact h.fp hb hc
 exact h.to
theorem St.eW (h:St c0 g i n) (hr:n.s.aO=4) (to:Int):St c0 g i (n.nt to).1:=by
 unfold ai.nt
 split
 exact h
 rename_i p hp
 split
 exact h
 dsimp only
 have h2:St c0 g i ⟨{ n.s with eW:=to,bi:=0 },n.o⟩:=h.qe rfl rfl rfl rfl rfl rfl
 split
 exact h2.post (dG.eV bare (.inr (by show (7:Int)<9;decide)))
 exact h2.fA hr (((h.node.cI hr).2.2.2.2 p (List.mem_of_find?_eq_some hp)).2.2)
theorem St.gd (h:St c0 g i n) (hb:Bd n.s) (x:ez) (hd:x.data.length≤100):To c0 g i (n.gd x).1:=by
 unfold ai.gd
 split
 exact h.to
 rename_i hr
 have jM:n.s.aO=4:=Classical.byContradiction hr
 split
 exact h.to
 split
 exact (h.eW jM _).to
 dsimp only
 have h2:St c0 g i ⟨n.s,{ n.o with index:=bF n.aZ,ab:=n.s.af.ab }⟩:=h.qL rfl
 split
 split
 exact h.to
 rename_i hz
 refine h2.put jM hb.aZ (Nat.zero_le _) (fun z=>absurd rfl z) fun _=>?_
 have oF:(n.gG x.kZ x.k9).2=0:=Classical.byContradiction fun y=>hz y
 by_cases c1:n.s.af.aB<(ce n.s.ah).2
 rw[Tx c1] at oF;cases oF
 by_cases c2:(cE n.s.ah n.s.af.aB).1≠n.s.af.ab
 rw[Ty c1 c2] at oF;cases oF
 have e:n.gG x.kZ x.k9=gb (ce n.s.ah).1 x.kZ x.k9:=by
  unfold ai.gG at oF ⊢
  rw[if_neg c1,if_neg c2] at oF ⊢
  split
  rename_i c3;rw[if_pos c3] at oF;cases oF
  rfl
 obtain⟨b,κ,h1,k1,k2,k3,k4,k5⟩:=h.node.leads jM
 obtain⟨l1,l2,l3,-⟩:=h.node.cI jM
 have hT:=h.cY.one n.s.af.ab (by rw[l2];exact l3)
 have Ko:=h1.Ir h.node.cW k2 k3
 rw[←k1] at Ko
 have tJ:fy (g.full i) κ=n.s.af.ab:=by
  have:=Classical.byContradiction fun y=>c2 y
  rw[Ko] at this;exact this
 have hκ:κ≠0:=fun hz=>by rw[hz] at tJ;simp only[fy,if_true] at tJ;omega
 have qB:∃ y,(g.full i)[κ-1]?=some y∧y.ab=n.s.af.ab:=by
  obtain⟨y,hy⟩:=y5 (a:=g.full i) (k:=κ-1) (by omega)
  refine⟨y,hy,?_⟩
  unfold fy at tJ
  rw[if_neg hκ,hy] at tJ;exact tJ
 obtain⟨y,hy,yp⟩:=qB
 rcases k4 with k4 | ⟨t,k,m,k6,k7,k8⟩
 have:=congrArg List.length k4
 rw[List.length_take,List.length_nil] at this;omega
 have ahi:=(rF (j8 k8 (jZ hy (by omega)))).1
 have cg:=h.cY.right.le t y (List.mem_of_getElem? ahi)
 have HE:t=n.s.af.ab:=by omega
 subst HE
 have hkκ:κ≤k:=by
  have:=k8.length_le
  rw[List.length_take,List.length_take] at this
  omega
 obtain⟨-,-,q3,-⟩:=h.cY.right.rR _ _ _ k6
 rw[l2] at q3
 have oy:=h1.ab2 h.node.cW k2 (by rw[k1] at c1;omega)
 refine⟨k,m,k6,q3,fun q a1 a2 z hz=>oy q (by omega) a2 z hz,x.kZ,x.k9,?_⟩
 show gb (ik c0 (g.full i)) x.kZ x.k9=((n.gG x.kZ x.k9).1,0)
 rw[←h1.xr,← e]
 exact Prod.ext rfl oF
 exact h2.put jM hb.aZ hd (fun _=>rfl) fun hz=>by cases (show (2:Int)=3 from hz)
theorem St.db (h:St c0 g i n) (hr:n.s.aO=4) {k:Nat} {q:cK} (hq:0≤q.cA∧q.cA≤1+g.dv q.node n.s.af.ab∧q.next≤2+(g.full i).length):St c0 g i (n.db k q):=by
 obtain⟨l1,l2,l3,l4,l5⟩:=h.node.cI hr
 refine⟨h.cY,{ h.node with cI:=fun _=>⟨l1,l2,l3,l4,fun p hp=>?_⟩,xp:=fun z=>absurd (hr.symm.trans z) (by decide) },h.aG⟩
 rcases List.mem_or_eq_of_mem_set hp with hp | rfl
 exact l5 p hp
 exact hq
theorem St.kM (h:St c0 g i n) (hb:Bd n.s) {m:az} (hm:dG c0 g m) (hk:m.ao=6) (ht:m.ab=n.s.af.ab):To c0 g i (n.kM m):=by
 by_cases bW:n.s.aO≠4∨n.gu m.am=none∨n.aZ<m.index
 rw[y8 bW];exact h.to
 have h0:n.s.aO=4:=Classical.byContradiction fun z=>bW (.inl z)
 have h2:¬ n.aZ<m.index:=fun z=>bW (.inr (.inr z))
 obtain⟨q,hq⟩:∃ q,n.gu m.am=some q:=by
  cases hp:n.gu m.am with
  | none=>exact absurd (.inr (.inl hp)) bW
  | some q=>exact⟨q,rfl⟩
 obtain⟨k,eG⟩:=H7 hq
 obtain⟨l1,l2,l3,l4,l5⟩:=h.node.cI h0
 obtain⟨b,κ,c1,-⟩:=h.node.leads h0
 have qB:n.aZ=1+(g.full i).length:=congrArg Prod.fst (c1.aZ h.node.cW)
 have Ek:n.aZ<4611686018427387904:=hb.aZ
 obtain⟨q0,q1,q2⟩:=l5 q (List.mem_of_find?_eq_some hq)
 have hqn:q.node=m.am:=of_decide_eq_true (List.find?_some (p:=fun p:cK=>decide (p.node=m.am)) hq)
 have Gn:∀ j,(g.dv j n.s.af.ab:Int)≤(g.full i).length:=fun j=>by
  have:=h.cY.rN j n.s.af.ab
  rw[l2] at this;omega
 have ha:=Gn q.node
 by_cases h3:m.bT=true
 rw[y9 h0 hq h2 h3 eG _ rfl]
 have hn:max (if m.hint<m.index then m.hint+1 else max m.index 1) (bF q.cA)≤2+(g.full i).length:=by
  rw[qg q0 (by omega)]
  split<;>omega
 exact ((h.db h0 (q:={ q with next:=max (if m.hint<m.index then m.hint+1 else max m.index 1) (bF q.cA) }) ⟨q0,q1,hn⟩).fA h0 hn).to
 rw[AY h0 hq h2 h3 eG]
 have si:=hm.kM hk (by cases hx:m.bT with | false=>rfl | true=>exact absurd hx h3)
 rw[ht,← hqn] at si
 have iu:0≤(q.up m.index).cA∧(q.up m.index).cA≤1+g.dv (q.up m.index).node n.s.af.ab∧(q.up m.index).next≤2+(g.full i).length:=by
  show 0≤max q.cA m.index∧max q.cA m.index≤1+(g.dv q.node n.s.af.ab:Int)∧max q.next (bF (max q.cA m.index))≤2+_
  rw[qg (by omega) (by omega)]
  omega
 have Hz:=h.db h0 (k:=k) iu
 obtain⟨g',hG,hS,hR,hF,-⟩:=Hz.count h0
 split
 exact⟨g',hG.mono (Nat.zero_le _),hS⟩
 rename_i jM
 have jM:(n.db k (q.up m.index)).count.s.aO=4:=Classical.byContradiction fun z=>jM z
 refine⟨g',hG.mono (Nat.zero_le _),?_⟩
 have e:ai.after (n.db k (q.up m.index)) (n.db k (q.up m.index)).count (q.up m.index) m.am=if (n.db k (q.up m.index)).s.eW=m.am∧(q.up m.index).cA=(ai.fO (n.db k (q.up m.index)) (n.db k (q.up m.index)).count (q.up m.index)).aZ then (ai.fO (n.db k (q.up m.index)) (n.db k (q.up m.index)).count (q.up m.index)).post { az.zero with ao:=9,to:=m.am } else ai.fO (n.db k (q.up m.index)) (n.db k (q.up m.index)).count (q.up m.index):=rfl
 have nj:St c0 g' i (ai.fO (n.db k (q.up m.index)) (n.db k (q.up m.index)).count (q.up m.index)):=by
  unfold ai.fO
  split
  exact hS.gD (.inl jM)
  split
  exact hS.fA jM (by rw[hF];exact iu.2.2)
  exact hS
 rw[e]
 split
 exact nj.post (dG.eV bare (.inr (by show (7:Int)<9;decide)))
 exact nj
end
end Go.Lw.dF
namespace Go.Lw.dF
section
variable {c0:aY} {g g' g'':G} {i:Int} {n n' n'':ai}
theorem ai6 {l m:List aA} (hl:l.length≤m.length) (h:∀ q a b,q<l.length→l[q]?=some a→m[q]?=some b→a=b):l <+: m:=by
 rw[List.prefix_iff_getElem?]
 intro q hq
 rw[List.getElem?_eq_getElem (by omega)]
 exact congrArg some (h q _ _ hq (List.getElem?_eq_getElem hq) (List.getElem?_eq_getElem (by omega))).symm
theorem ia.KH (hI:ia c0 g) {l m:List aA} (hl:jW aA.ab g.toRec l) (hm:jW aA.ab g.toRec m) {k:Nat} (h1:k≤l.length) (h2:k≤m.length) (ht:fy l k=fy m k):l.take k=m.take k:=by
 rcases Nat.eq_zero_or_pos k with rfl | h0
 rfl
 obtain⟨a,ha⟩:=y5 (a:=l) (k:=k-1) (by omega)
 obtain⟨b,hb⟩:=y5 (a:=m) (k:=k-1) (by omega)
 unfold fy at ht
 rw[if_neg (by omega),if_neg (by omega),ha,hb] at ht
 have ht:a.ab=b.ab:=ht
 have h3:=hl _ _ ha
 have h4:=hm _ _ hb
 rw[show k-1+1=k by omega] at h3 h4
 rw[←ht] at h4
 refine List.IsPrefix.eq_of_length (Ac h3 h4 ?_) ?_<;>rw[List.length_take,List.length_take]<;>omega
theorem jW.take {l:List aA} (h:jW aA.ab g.toRec l) (k:Nat):jW aA.ab g.toRec (l.take k):=fun q e hq=>by
 obtain⟨h1,h2⟩:=rF hq
 rw[List.take_take,show min (q+1) k=q+1 by omega]
 exact h q e h1
theorem RH (hI:ia c0 g) {r r':aU} (h:iG c0 g i r) (bH:g.aI r.af.ab≠[]) {F':List aA} {N:Nat} (hN:N≤(g.aI r.af.ab).length)
  (e1:r'.id=r.id) (e2:r'.af.ab=r.af.ab) (e3:r'.af.aT=r.af.aT) (e4:r'.aO=1)
  (hs:jW aA.ab g.toRec F') (hx:pH F') (hl:∀ e∈F',e.ab≤r.af.ab)
  (ri:∃ b κ:Nat,gv c0 F' r'.ah b∧r'.af.aB=1+κ∧b≤κ∧κ≤F'.length∧m6 g r.af.ab (F'.take κ))
  (hNF:(g.aI r.af.ab).take N <+: F')
  (hk:∀ t k,0<k→k≤g.dv i t→t≤r.af.ab→(g.aI t).take k <+: g.full i→(g.aI t).take k <+: F'∨(t<r.af.ab∧parts g.toRec t r.af.ab k)) :
  ∃ g',h_ i 0 g g'∧ia c0 g'∧iG c0 g' i r'∧N≤g'.dv i r.af.ab:=by
 obtain⟨qZ,hG⟩:=hI.told (i:=i) (T:=r.af.ab) (a:=max (g.dv i r.af.ab) N) (F:=F') (Nat.le_max_left _ _) (Nat.max_le.2 ⟨hI.rN i _,hN⟩) h.sy
 have hF:(g.told i r.af.ab (max (g.dv i r.af.ab) N) F').full i=F':=if_pos rfl
 have hA:(g.told i r.af.ab (max (g.dv i r.af.ab) N) F').dv i r.af.ab=max (g.dv i r.af.ab) N:=if_pos ⟨rfl,rfl⟩
 refine⟨_,hG,qZ,⟨e1.trans h.id,h.kA,by rw[hF];exact hs,by rw[hF];exact hx,by rw[hF,e2];exact hl,.inr ?_,fun z=>absurd e4 z,fun z=>absurd (e4.symm.trans z) (by decide),by rw[e2,e3];exact h.aT,by rw[e2];exact h.sy,fun t k h0 oB=>?_,fun z=>absurd (e4.symm.trans z) (by decide),fun z=>absurd (e4.symm.trans z) (by decide)⟩,by rw[hA];exact Nat.le_max_right _ _⟩
 obtain⟨b,κ,a1,a2,a3,a4,a5⟩:=ri
 rw[hF,e2]
 exact⟨b,κ,a1,a2,a3,a4,hG.comm hI a5,by have:=hI.one _ bH;omega⟩
 rw[hF,e2]
 have hold:∀ t k,0<k→k≤g.dv i t→t≤r.af.ab∧((g.aI t).take k <+: F'∨∃ u,t<u∧u≤r.af.ab∧parts g.toRec t u k):=fun t k h0 oB=>by
  obtain⟨a1,a2⟩:=h.vX t k h0 oB
  refine⟨a1,?_⟩
  rcases a2 with a2 | a2
  rcases hk t k h0 oB a1 a2 with a3 | ⟨a3,a4⟩
  exact .inl a3
  exact .inr ⟨_,a3,Int.le_refl _,a4⟩
  exact .inr a2
 by_cases hT:t=r.af.ab
 subst hT
 rw[hA] at oB
 by_cases O6:k≤N
 exact⟨Int.le_refl _,.inl ((RG O6).trans hNF)⟩
 exact hold _ k h0 (by omega)
 rw[show (g.told i r.af.ab (max (g.dv i r.af.ab) N) F').dv i t=g.dv i t from if_neg fun z=>hT z.2] at oB
 exact hold t k h0 oB
theorem iG.told {r:aU} (hI:ia c0 g) (h:iG c0 g i r) (bH:g.aI r.af.ab≠[]) {b κ:Nat} (hκ:κ≤(g.full i).length) (hc:m6 g r.af.ab ((g.full i).take κ)):(g.full i).take κ <+: g.aI r.af.ab:=by
 rcases hc with hc | ⟨t,k,m,h1,h2,h3⟩
 rw[hc];exact List.nil_prefix
 exact h3.trans (hI.right.leads QE bH h1 h2)
theorem St.Y3 (h:St c0 g i n) (hr:n.s.aO=1) (bH:g.aI n.s.af.ab≠[]) (hx:0<n.s.af.aB) {m:az} (xJ:vN m) (hm:m.ao=6∧m.ab=0∧m.index=n.s.af.aB):To c0 g i (n.post m):=by
 rcases h.node.ah with ⟨-,-,h1⟩ | ⟨b,κ,h1,h2,h3,h4,h5,h6⟩
 omega
 have hp:=h.node.told (b:=b) h.cY bH h4 h5
 have bV:((g.full i).take κ).length=κ:=by rw[List.length_take];omega
 have hN:κ≤(g.aI n.s.af.ab).length:=by have:=hp.length_le;omega
 obtain⟨g',hG,hI,Gb,hA⟩:=RH (r':=n.s) h.cY h.node bH (F':=g.full i) hN rfl rfl rfl hr h.node.j9 h.node.cW h.node.ff ⟨b,κ,h1,h2,h3,h4,h5⟩
  (by have:=tZ hp;rw[bV] at this;rw[←this];exact List.take_prefix _ _) (fun t k _ _ _ hk=> .inl hk)
 refine⟨g',hG.mono (Nat.zero_le _),St.post (n:=n) ⟨hI,Gb,fun x hx=>(h.aG x hx).xx h.cY hG⟩ (dG.KA ⟨xJ.1,xJ.2.1,xJ.2.2⟩ hm.1 fun _=>?_)⟩
 show m.index≤1+(g'.dv n.s.id (if m.ab=0 then n.s.af.ab else m.ab):Int)
 rw[if_pos hm.2.1,hm.2.2,h2,h.node.id]
 omega
theorem aca {l m:List aA} {d q:Nat} {e:aA} (h:m <+: l.drop d) (hq:m[q]?=some e):l[d+q]?=some e:=by
 have:=j8 h hq
 rwa[List.getElem?_drop] at this
theorem ahY (hI:ia c0 g) {F:List aA} {L:br} {b i0:Nat} {T k lt:Int} {more:List aA} (hc:gv c0 F L b) (hs:jW aA.ab g.toRec F) (hx:pH F) (tz:i0≤(g.aI T).length) (be:lt=fy (g.aI T) i0) (Kd:more <+: (g.aI T).drop i0)
  {M:Dh} (hM:fb L k (1+i0) lt more=M) (h1:M.gH≠1) (h2:M.gH≠61) (h3:M.gH≠62) :
  b≤i0∧i0≤F.length∧i0+more.length≤(g.aI T).length∧∃ F',gv c0 F' M.ah b∧jW aA.ab g.toRec F'∧pH F'∧(∀ e∈F',e∈F∨e∈g.aI T)∧(g.aI T).take (i0+more.length) <+: F'∧F'.take i0=F.take i0 ∧
   ∀ t k,t≤T→(g.aI t).take k <+: F→k≤(g.aI t).length→(g.aI t).take k <+: F'∨(t<T∧parts g.toRec t T k):=by
 have DT:jW aA.ab g.toRec (g.aI T):=hI.right.gw T
 have hN:i0+more.length≤(g.aI T).length:=by have:=Kd.length_le;rw[List.length_drop] at this;omega
 unfold fb at hM
 split at hM
 subst hM;exact absurd rfl h1
 split at hM
 subst hM;exact absurd rfl h2
 rename_i qG
 split at hM
 subst hM;exact absurd rfl h3
 have ED:(cE L (1+i0)).2=true:=by
  cases hz:(cE L (1+i0)).2 with
  | true=>rfl
  | false=>exact absurd (.inl hz) qG
 have Ws:(cE L (1+i0)).1=lt:=Classical.byContradiction fun z=>qG (.inr z)
 obtain⟨k0,a1,a2,a3,a4⟩:=hc.Lx hx ED
 have ng:k0=i0:=by omega
 subst ng
 have JQ:F.take k0=(g.aI T).take k0:=hI.KH hs DT a3 tz (by rw[←a4,Ws,be])
 -- as long as nothing is fresh, eE are one
 have si:∀ q e,more[q]?=some e→e.index=1+((k0+q+1:Nat):Int)∧(g.aI T)[k0+q]?=some e:=fun q e hq=>by
  have h4:=aca Kd hq
  have:=hI.cW T _ e h4
  exact⟨by omega,h4⟩
 have fo:∀ j,j≤more.length→(∀ q e,q<j→more[q]?=some e→ed L e=false)→F.take (k0+j)=(g.aI T).take (k0+j)∧k0+j≤F.length:=fun j hj hf=>by
  cases j with
  | zero=>exact⟨JQ,a3⟩
  | succ j =>
   obtain⟨e,he⟩:=y5 (a:=more) (k:=j) (by omega)
   obtain⟨b1,b2⟩:=si j e he
   have JW:=hf j e (by omega) he
   simp only[ed,sJ,Bool.or_eq_false_iff,Bool.and_eq_false_iff,decide_eq_false_iff_not,Bool.not_eq_false'] at JW
   obtain⟨kk,c1,c2,c3,c4⟩:=hc.Lx hx JW.1
   have oB:kk=k0+(j+1):=by omega
   subst oB
   have HF:(cE L e.index).1=e.ab:=by
    rcases JW.2 with z | z
    rw[JW.1] at z;cases z
    exact Classical.byContradiction fun y=>z y
   refine⟨hI.KH hs DT c3 (by omega) ?_,c3⟩
   rw[←c4,HF]
   unfold fy
   rw[if_neg (by omega),show k0+(j+1)-1=k0+j by omega,b2];rfl
 refine⟨a2,a3,hN,?_⟩
 cases hf:more.findIdx? (ed L) with
 | none =>
  rw[hf] at hM
  subst hM
  have gx:=fo more.length (Nat.le_refl _) fun q e _ hq=>List.findIdx?_eq_none_iff.1 hf e (List.mem_of_getElem? hq)
  exact⟨F,hc,hs,hx,fun e he=> .inl he,by rw[←gx.1];exact List.take_prefix _ _,rfl,fun t k _ hk _=> .inl hk⟩
 | some j =>
  rw[hf] at hM
  obtain⟨hj,rf,r_⟩:=List.findIdx?_eq_some_iff_getElem.1 hf
  have Eg:more[j]?=some more[j]:=List.getElem?_eq_getElem hj
  obtain⟨d1,d2⟩:=si j _ Eg
  obtain⟨p1,p2⟩:=fo j (by omega) fun q e hq he=>by
   have:=r_ q hq
   rw[List.getElem?_eq_getElem (by omega)] at he
   cases he
   simpa using this
  have rd:(more[j]?.map (·.index)).getD 0=1+((k0+j+1:Nat):Int):=by rw[Eg];exact d1
  dsimp only at hM
  rw[rd] at hM
  have iO:=(hc.pD hx).lG (1+((k0+j+1:Nat):Int))
  have hci:=hc.index
  have kO:=hc.len
  have hp:eI L (1+((k0+j+1:Nat):Int))=k0+j-b:=by omega
  rw[hp] at hM
  subst hM
  have oW:(g.aI T).take (k0+more.length)=F.take (k0+j)++more.drop j:=by
   have e1:(g.aI T).take (k0+more.length)=(g.aI T).take k0++more:=by
    rw[List.take_add]
    congr 1
    exact (tZ Kd).symm
   have e2:F.take (k0+j)=(g.aI T).take k0++more.take j:=by
    rw[p1,List.take_add]
    congr 1
    have:=congrArg (List.take j) (tZ Kd)
    rw[List.take_take,show min j more.length=j by omega] at this
    exact this.symm
   rw[e1,e2,List.append_assoc,List.take_append_drop]
  have afy:(F.take (k0+j)).length=k0+j:=by rw[List.length_take];omega
  refine⟨(g.aI T).take (k0+more.length),⟨?_,hci,?_,?_,?_⟩,jW.take DT _,fun q e hq=>hI.cW T q e (rF hq).1,fun e he=> .inr (List.mem_of_mem_take he),List.prefix_rfl,?_,fun t k HE hk cv=>?_⟩
  rw[List.length_take];omega
  rw[hc.ab,oW,← Iq (l:=F) (k:=b) (n:=k0+j) (by omega)]
  exact (Ip (List.prefix_append _ _) (by omega)).symm
  rw[hc.aJ,oW,List.take_append_of_le_length (by omega),List.take_take,show min b (k0+j)=b by omega]
  show L.entries.take (k0+j-b)++more.drop j=((g.aI T).take (k0+more.length)).drop b
  rw[oW,List.drop_append_of_le_length (by omega),hc.entries,List.drop_take]
  rw[List.take_take,show min k0 (k0+more.length)=k0 by omega];exact JQ.symm
  by_cases hkP:k≤k0+j
  left
  have e3:(g.aI t).take k <+: F.take (k0+j):=Ac hk (List.take_prefix _ _) (by rw[afy,List.length_take];omega)
  rw[oW];exact e3.trans (List.prefix_append _ _)
  right
  obtain⟨a,ha⟩:=y5 (a:=g.aI t) (k:=k0+j) (by omega)
  have Gm:=j8 hk (jZ ha (by omega))
  have hlF:=gI Gm
  have lm:=hc.Ir hx (k:=k0+j+1) (by omega) (by omega)
  rw[←d1] at lm
  have afZ:a.ab≠more[j].ab:=fun he=>by
   simp only[ed,sJ,lm,Bool.not_true,Bool.false_or,Bool.true_and,decide_eq_true_eq] at rf
   refine rf ?_
   unfold fy
   rw[if_neg (by omega),show k0+j+1-1=k0+j by omega,Gm]
   exact he
  have JF:a≠more[j]:=fun he=>afZ (by rw[he])
  refine⟨?_,k0+j,by omega,a,more[j],ha,d2,JF⟩
  rcases Int.lt_or_eq_of_le HE with Pf | rfl
  exact Pf
  rw[ha] at d2;exact absurd (Option.some.inj d2) JF
theorem St.grow (h:St c0 g i n) {m:az} (hm:dG c0 g m) (hk:m.ao=5) (ht:m.ab=n.s.af.ab):To c0 g i (n.grow m):=by
 obtain⟨i0,κm,q1,q2,q3,q4,q5,q6,q7,q8⟩:=hm.grow hk
 rw[ht] at q1 q2 q4 q5 q7 q8
 by_cases h0:n.s.aO=4
 unfold ai.grow;rw[if_pos h0];exact h.to
 have hw:=h.calm m.am
 have BB:(n.calm m.am).s.aO=1:=rfl
 have eK:(n.calm m.am).s.af=n.s.af:=by
  unfold ai.calm ai.follow
  simp only[Int.lt_irrefl,if_false];rfl
 have kO:(n.calm m.am).s.ah=n.s.ah:=rfl
 by_cases h1:m.index<(n.calm m.am).s.af.aB
 rw[AW h0 h1]
 exact hw.Y3 BB (by rw[eK];exact q1) (by omega) bare ⟨rfl,rfl,rfl⟩
 obtain⟨M,hM⟩:∃ M,M=fb (n.calm m.am).s.ah (n.calm m.am).s.af.aB m.index m.cn m.entries:=⟨_,rfl⟩
 by_cases h2:M.gH=1∨M.gH=62∨m.entries.any (ai.l_ (n.calm m.am).s.af.ab)=true
 rw[uC h0 h1 hM.symm h2];exact hw.to
 by_cases h3:M.gH=61
 rw[y6 h0 h1 hM.symm h2 h3];exact (hw.post (dG.no bare (.inr rfl) rfl)).to
 rw[y7 h0 h1 hM.symm h2 h3]
 have ap8:=hw.node
 have ot:(n.calm m.am).s.af.ab=n.s.af.ab:=by rw[eK]
 rcases h.node.ah with ⟨b1,-⟩ | ⟨b,κ,c1,c2,c3,c4,c5,c6⟩
 -- a blank ah mI no such index
 have ED:(cE n.s.ah (1+i0)).2=false:=by
  cases hz:(cE n.s.ah (1+i0)).2 with
  | false=>rfl
  | true=>have:=(b1.Jp hz).1;omega
 rw[kO,q3] at hM
 unfold fb at hM
 split at hM
 exact absurd (.inl (by rw[hM])) h2
 rw[if_pos (.inl ED)] at hM
 exact absurd (by rw[hM]) h3
 rw[kO,q3] at hM
 obtain⟨d1,d2,d3,F',e1,e2,e3,e4,e5,e6,e7⟩:=ahY (T:=n.s.af.ab) h.cY c1 h.node.j9 h.node.cW q2 q4 q5 hM.symm (fun z=>h2 (.inl z)) h3 (fun z=>h2 (.inr (.inl z)))
 rw[eK] at h1
 have hκi:κ≤i0:=by omega
 have apO:i0+m.entries.length≤F'.length:=by
  have:=e5.length_le
  rw[List.length_take] at this;omega
 obtain⟨κ',hκ'⟩:∃ κ':Nat,κ'=max κ (min κm (i0+m.entries.length)):=⟨_,rfl⟩
 have Ot:max (n.calm m.am).s.af.aB (min m.aB (m.index+m.entries.length))=1+(κ':Int):=by
  rw[eK];omega
 have hC:m6 g n.s.af.ab (F'.take κ'):=by
  by_cases cg:κ'≤κ
  have:κ'=κ:=by omega
  rw[this]
  have e8:F'.take κ=(g.full i).take κ:=by
   have:=congrArg (List.take κ) e6
   rw[List.take_take,List.take_take,show min κ i0=κ by omega] at this
   exact this
  rw[e8];exact c5
  have mo:κ'≤κm∧κ'≤i0+m.entries.length:=by omega
  have e8:F'.take κ'=(g.aI n.s.af.ab).take κ':=by
   have h9:=tZ e5
   rw[List.length_take,show min (i0+m.entries.length) (g.aI n.s.af.ab).length=i0+m.entries.length by omega] at h9
   have:=congrArg (List.take κ') h9
   rw[List.take_take,List.take_take,show min κ' (i0+m.entries.length)=κ' by omega] at this
   exact this.symm
  rw[e8];exact q8.sub (RG mo.1)
 obtain⟨g',hG,F_,Gb,hA⟩:=RH (r':=(((((n.calm m.am).C_ M.ah).xf M.cut).Db M.came).lz (max (n.calm m.am).s.af.aB (min m.aB (m.index+m.entries.length)))).s) (F':=F') h.cY h.node q1 d3 rfl (by show (n.calm m.am).s.af.ab=_;rw[eK]) (by show (n.calm m.am).s.af.aT=_;rw[eK]) rfl e2 e3
  (fun e he=>by
   rcases e4 e he with h9 | h9
   exact h.node.ff e h9
   exact h.cY.right.le _ e h9)
  ⟨b,κ',e1,Ot,by omega,by omega,hC⟩ e5 (fun t k _ hk HE hp=>e7 t k HE hp (Nat.le_trans hk (h.cY.rN i t)))
 refine⟨g',hG.mono (Nat.zero_le _),St.post ⟨F_,Gb,fun x hx=>(h.aG x hx).xx h.cY hG⟩ (dG.KA bare rfl fun _=>?_)⟩
 show m.index+m.entries.length≤1+(g'.dv n.s.id (n.calm m.am).s.af.ab:Int)
 rw[eK,h.node.id]
 omega
end
end Go.Lw.dF
namespace Go.Lw.dF
section
variable {c0:aY} {g g' g'':G} {i:Int} {n n' n'':ai}
theorem ai7 {l m:List aA} (hl:l.length≤m.length) (h:¬ l <+: m):∃ q a b,q<l.length∧l[q]?=some a∧m[q]?=some b∧a≠b:=by
 refine Classical.byContradiction fun hz=>h (ai6 hl fun q a b hq ha hb=>Classical.byContradiction fun lf=>hz ⟨q,a,b,hq,ha,hb,lf⟩)
theorem ajU {s:gE} {H:List aA} {k:Nat} (hk:k≤H.length) (h1:s.index=1+k) (h2:s.ab=fy H k) (h3:s.aJ=ik c0 (H.take k)):gv c0 (H.take k) ⟨s,[]⟩ k :=
 ⟨by rw[List.length_take];omega,h1,by rw[Iq (Nat.le_refl _)];exact h2,by rw[List.take_take,Nat.min_self];exact h3,by rw[List.drop_eq_nil_of_le (by rw[List.length_take];omega)]⟩
theorem St.dY (h:St c0 g i n) (hr:n.s.aO=1) (bH:g.aI n.s.af.ab≠[]) {s:gE} {k:Nat} (hk:k≤(g.aI n.s.af.ab).length) (h1:s.index=1+k) (h2:s.ab=fy (g.aI n.s.af.ab) k) (h3:s.aJ=ik c0 ((g.aI n.s.af.ab).take k))
  (hC:m6 g n.s.af.ab ((g.aI n.s.af.ab).take k)) (be:n.s.af.aB<s.index) {m:az} (xJ:vN m) (hm:m.ao=6∧m.ab=0∧m.index=s.index):To c0 g i ((n.dY s).post m):=by
 have DT:jW aA.ab g.toRec (g.aI n.s.af.ab):=h.cY.right.gw _
 -- whatever the ah is: either it goes on behind the snapshot, or it is the snapshot alone
 have zt:∀ (r':aU) (o':bz) (F':List aA),n.dY s=⟨r',o'⟩→r'.id=n.s.id→r'.af={ n.s.af with aB:=s.index }→r'.aO=1→o'.aG=n.o.aG→jW aA.ab g.toRec F'→pH F'→(∀ e∈F',e.ab≤n.s.af.ab)→gv c0 F' r'.ah k→(g.aI n.s.af.ab).take k <+: F' →
   (∀ t q,0<q→q≤g.dv i t→t≤n.s.af.ab→(g.aI t).take q <+: g.full i→(g.aI t).take q <+: F'∨(t<n.s.af.ab∧parts g.toRec t n.s.af.ab q))→To c0 g i ((n.dY s).post m):=by
  intro r' o' F' e0 e1 e2 e3 e4 f1 f2 f3 f4 f5 f6
  have bV:k≤F'.length:=by have:=f5.length_le;rw[List.length_take] at this;omega
  have tJ:F'.take k=(g.aI n.s.af.ab).take k:=by
   have:=tZ f5
   rw[List.length_take,show min k (g.aI n.s.af.ab).length=k by omega] at this
   exact this.symm
  obtain⟨g',hG,F_,Gb,hA⟩:=RH (r':=r') (F':=F') h.cY h.node bH hk e1 (by rw[e2]) (by rw[e2]) e3 f1 f2 f3 ⟨k,k,f4,by rw[e2];exact h1,Nat.le_refl _,bV,by rw[tJ];exact hC⟩ f5 f6
  rw[e0]
  refine⟨g',hG.mono (Nat.zero_le _),St.post (n:=⟨r',o'⟩) ⟨F_,Gb,fun x hx=>(h.aG x (by rw[←e4];exact hx)).xx h.cY hG⟩ (dG.KA ⟨xJ.1,xJ.2.1,xJ.2.2⟩ hm.1 fun _=>?_)⟩
  show m.index≤1+(g'.dv r'.id (if m.ab=0 then r'.af.ab else m.ab):Int)
  rw[if_pos hm.2.1,hm.2.2,h1,e1,e2,h.node.id]
  show 1+(k:Int)≤1+(g'.dv i n.s.af.ab:Int)
  omega
 rcases hf:n.s.ah.entries.findIdx? (fun e=>decide (e.index=s.index∧e.ab=s.ab)) with _ | j
 -- the snapshot alone
 refine zt { n.s with ah:=⟨s,[]⟩,af:={ n.s.af with aB:=s.index },part:=fG.zero } { n.o with dY:=true,cut:=(n.s.ah.entries.head?.map (·.index)).getD n.o.cut } ((g.aI n.s.af.ab).take k) (by unfold ai.dY;dsimp only;rw[hf]) rfl rfl hr rfl (jW.take DT k) (fun q e hq=>h.cY.cW _ q e (rF hq).1) (fun e he=>h.cY.right.le _ e (List.mem_of_mem_take he)) (ajU hk h1 h2 h3) List.prefix_rfl ?_
 intro t q Kj hq ht hp
 have zP:=Nat.le_trans hq (h.cY.rN i t)
 have BZ:((g.aI t).take q).length=q:=by rw[List.length_take];omega
 by_cases cq:(g.aI t).take q <+: (g.aI n.s.af.ab).take k
 exact .inl cq
 right
 -- Fo is a lG where they part
 have PG:∃ p a b,p<q∧(g.aI t)[p]?=some a∧(g.aI n.s.af.ab)[p]?=some b∧a≠b:=by
  by_cases Wf:q≤k
  obtain⟨p,a,b,p1,p2,p3,p4⟩:=ai7 (by rw[BZ,List.length_take];omega) cq
  rw[BZ] at p1
  exact⟨p,a,b,p1,(rF p2).1,(rF p3).1,p4⟩
  -- the ah goes beyond the snapshot, so it must differ at its end
  rcases h.node.ah with ⟨-,b2,-⟩ | ⟨b,κ,c1,c2,c3,c4,-⟩
  rw[b2] at hp
  have:=hp.length_le
  rw[BZ] at this;simp at this;omega
  have mo:0<k:=by omega
  obtain⟨a,ha⟩:=y5 (a:=g.aI t) (k:=k-1) (by omega)
  obtain⟨z,hz⟩:=y5 (a:=g.aI n.s.af.ab) (k:=k-1) (by omega)
  refine⟨k-1,a,z,by omega,ha,hz,fun Va=>?_⟩
  have Gm:=j8 hp (jZ ha (by omega))
  have JF:n.s.ah.entries[k-1-b]?=some a:=by rw[c1.get,show b+(k-1-b)=k-1 by omega];exact Gm
  have:=List.findIdx?_eq_none_iff.1 hf a (List.mem_of_getElem? JF)
  have JG:=h.node.cW _ _ Gm
  have JL:a.ab=s.ab:=by
   rw[h2,Va];unfold fy;rw[if_neg (by omega),hz];rfl
  rw[decide_eq_false_iff_not] at this
  exact this ⟨by omega,JL⟩
 obtain⟨p,a,b,p1,p2,p3,p4⟩:=PG
 refine⟨?_,p,p1,a,b,p2,p3,p4⟩
 rcases Int.lt_or_eq_of_le ht with Pf | rfl
 exact Pf
 rw[p2] at p3;exact absurd (Option.some.inj p3) p4
 -- the ah mI the snapshot's end
 obtain⟨re,rf,-⟩:=List.findIdx?_eq_some_iff_getElem.1 hf
 have r_:=of_decide_eq_true rf
 have Eg:=List.getElem?_eq_getElem re
 rcases h.node.ah with ⟨b1,-⟩ | ⟨b,κ,c1,c2,c3,c4,-⟩
 rw[b1.2.2.2] at re;simp at re
 have hF:=c1.get.1 Eg
 have apn:=h.node.cW _ _ hF
 have hbj:b+j+1=k:=by have:=r_.1;omega
 have VU:k≤(g.full i).length:=by have:=gI hF;omega
 have Wr:fy (g.full i) k=fy (g.aI n.s.af.ab) k:=by
  rw[←h2,← r_.2]
  unfold fy
  rw[if_neg (by omega),show k-1=b+j by omega,hF];rfl
 have nk:=h.cY.KH h.node.j9 DT VU hk Wr
 refine zt { n.s with ah:=⟨s,n.s.ah.entries.drop (j+1)⟩,af:={ n.s.af with aB:=s.index },part:=fG.zero } { n.o with dY:=true } (g.full i) (by unfold ai.dY;dsimp only;rw[hf]) rfl rfl hr rfl h.node.j9 h.node.cW h.node.ff ⟨VU,h1,by rw[Wr];exact h2,by rw[nk];exact h3,?_⟩ (by rw[←nk];exact List.take_prefix _ _) (fun t q _ _ _ hp=> .inl hp)
 show n.s.ah.entries.drop (j+1)=(g.full i).drop k
 rw[c1.entries,List.drop_drop,show b+(j+1)=k by omega]
theorem St.lR (h:St c0 g i n) {m:az} (hm:dG c0 g m) (hk:m.ao=7) (ht:m.ab=n.s.af.ab):To c0 g i (n.lR m):=by
 obtain⟨k,q1,q2,q3,q4,q5,q6⟩:=hm.lq hk
 rw[ht] at q1 q2 q4 q5 q6
 by_cases h0:n.s.aO=4∨eg m.aJ≠0∨n.s.af.ab<m.cn
 rw[yW h0];exact h.to
 have hw:=h.calm m.am
 have BB:(n.calm m.am).s.aO=1:=rfl
 have eK:(n.calm m.am).s.af=n.s.af:=by
  unfold ai.calm ai.follow
  simp only[Int.lt_irrefl,if_false];rfl
 by_cases h1:m.index≤(n.calm m.am).s.af.aB
 rw[AE h0 h1]
 exact hw.Y3 BB (by rw[eK];exact q1) (by omega) bare ⟨rfl,rfl,rfl⟩
 have hi:=Lt (n.calm m.am).s.part m
 obtain⟨T,hT⟩:∃ T,T=mb (n.calm m.am).s.part m:=⟨_,rfl⟩
 rw[←hT] at hi
 by_cases h2:T.2=false
 rw[AF h0 h1 hT.symm h2]
 exact (St.post (n:=(n.calm m.am).LL T.1) (hw.qe rfl rfl rfl rfl rfl rfl) (dG.eV bare (.inr (by show (7:Int)<8;decide)))).to
 rw[yV h0 h1 hT.symm h2]
 exact hw.dY BB (by rw[eK];exact q1) (by rw[eK];exact q2) (by show T.1.index=_;rw[hi.1];exact q3) (by show T.1.ab=_;rw[hi.2,eK];exact q4) (by rw[eK];exact q5) (by rw[eK];exact q6) (by show _<T.1.index;rw[hi.1];omega) bare ⟨rfl,rfl,hi.1.symm⟩
theorem St.oT (h:St c0 g i n) (m:az):St c0 g i (n.oT m):=by
 unfold ai.oT
 split
 exact h
 split
 rename_i hr;exact h.lq hr.1 _ _
 exact h
theorem St.dW (h:St c0 g i n) (hb:Bd n.s) {m:az} (hm:dG c0 g m) (ht:m.ab=n.s.af.ab) (ew:m.to=i):To c0 g i (n.dW m):=by
 unfold ai.dW
 split
 rename_i hk;exact h.aT hm hk ht
 split
 rename_i hk;exact h.lK hb hm hk ht ew
 split
 rename_i hk;exact h.grow hm hk ht
 split
 rename_i hk;exact h.kM hb hm hk ht
 split
 rename_i hk;exact h.lR hm hk ht
 split
 exact (h.oT m).to
 exact h.qb hb
theorem St.iQ (h:St c0 g i n) (hb:Bd n.s) {m:az} (hm:dG c0 g m):To c0 g i (n.iQ m):=by
 by_cases h0:n.nK m
 rw[tQ h0];exact h.to
 have ew:m.to=i:=by rw[←h.node.id];exact Classical.byContradiction fun z=>h0 (.inl z)
 have qG:m.ab<eo:=Classical.byContradiction fun z=>h0 (.inr (.inr (.inr (.inr (.inl (by omega))))))
 simp only[eo] at qG
 by_cases h1:m.ao=1
 rw[EU h0 h1];exact (h.oK m).to
 by_cases h2:m.ao=2
 rw[EV h0 h2];exact h.kW hb m
 by_cases h3:m.ao<3∨9<m.ao
 rw[EW h0 h1 h2 h3];exact h.to
 have hr:St c0 g i (n.gC m)∧Bd (n.gC m).s∧(m.ab=(n.gC m).s.af.ab∨m.ab<(n.gC m).s.af.ab):=by
  unfold ai.gC
  split
  rename_i be
  have e:(n.follow m.ab 0).s.af.ab=m.ab:=by unfold ai.follow;simp only[if_pos be]
  exact⟨h.follow _ _,⟨by rw[e];have:=hb.t0;omega,by rw[e];omega,hb.aZ⟩,.inl e.symm⟩
  exact⟨h,hb,by omega⟩
 by_cases h4:m.ab<(n.gC m).s.af.ab
 rw[CC h0 h1 h2 h3 h4];exact (hr.1.j6 m).to
 rw[CE h0 h1 h2 h3 h4];exact hr.1.dW hr.2.1 hm (by rcases hr.2.2 with z | z;exact z;exact absurd z h4) ew
theorem St.fz (h:St c0 g i n) (hb:Bd n.s) {x:ez} (hx:x.ao=2→dG c0 g x.cr) (hd:x.data.length≤100):To c0 g i (n.fz x).1:=by
 unfold ai.fz
 split
 exact h.tick hb _
 split
 rename_i hk;exact h.iQ hb (hx hk)
 split
 exact h.gd hb x hd
 exact h.to
theorem aj7 {r:aU} {x:ez} (hI:ia c0 g) (hn:iG c0 g i r) (hb:Bd r) (hx:x.ao=2→dG c0 g x.cr) (hd:x.data.length≤100) :
  ∃ g',h_ i 1 g g'∧ia c0 g'∧iG c0 g' i (bI r x).1∧∀ m∈(bI r x).2.1.aG,dG c0 g' m:=by
 have h:St c0 g i (dA r):=⟨hI,hn,fun m hm=>by cases hm⟩
 by_cases he:((dA r).fz x).2≠0
 rw[uf he];exact⟨g,(h_.refl i g).mono (Nat.zero_le _),hI,hn,fun m hm=>by cases hm⟩
 obtain⟨g',hG,h1⟩:=h.fz hb hx hd
 rw[sQ he]
 exact⟨g',hG,h1.cY,h1.node,h1.aG⟩
end
end Go.Lw.dF
