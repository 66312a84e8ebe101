/-
  Parts of the proof of the laws RaftcoreSafeUptoSaid, RaftcoreOnceUptoSaid: KcK, KcU, KcX, KcY, KcZ, KcV, StEq, KdA, KdC, KdD, KdE, KdI, KdB, Open, OpW, OpB, KdF, KdJ, KdK, KfA, KfB, KfC, KeA.
-/
import Derived.Test.YtpjclnomaemokaaGreatRgA3
import Derived.Laws.StructEq
import Derived.ProofKit
import Derived.OpenShut
import Derived.Carry
import Derived.Test.YtpjclnomaemokaaGreatRows
set_option maxRecDepth 100000
set_option maxHeartbeats 16000000
set_option linter.all false
namespace Go.Lw
open Go.Proofs
attribute [local irreducible] RL RA
section
variable {w:World} {s A:Res} {os:List Res} {p:Nat} {h:Hd} {n:Node}
theorem RL.storeX {P:Program} {m:Nat} {ops:Array Oper} {Q:Exit→Act→World→Prop} {S:World→Prop} {rest:List (Bool × Oper)} {E:Env} {o:Oper} {x y:Operand} {h1:Hd} {n1:Node} {t:TypeId} {k j:Nat} {i:Nat} {ag:Bool} {cs:Array Value} {u:Value} {ds:List Value} (hg:wants ops E o=some true) (hd:o.dst=none) (ho:o.op = .store t x y) (ht:tyc P t=some (ag,k))
  (hx:ev E x=some (.pointer (some ((⟨p,0,none⟩:Addr).add j)))) (hy:ev E y=some u) (hG:Good w s os) (hi:os[i]?=some A) (hA:A p=some (.cells cs 109 (0,0))) (hr:NRest s A h1 n1) (hk:u.cells.size=k) (ho1:∀ z∈u.cells.toList,z.oneCell'=true) (hj:j+k≤cs.size)
  (he:cs.toList.take j++u.cells.toList++cs.toList.drop (j+k)=ds)
  (h:∀ w' A',Good w' s (os.set i A')→Aux w w'→A' p=some (.cells ds.toArray 109 (0,0))→NRest s A' h1 n1→S w'∧RL P m ops Q S rest E w'):RL P m ops Q S ((false,o)::rest) E w :=
 RL.store hg hd ho ht hx hy hG hi hA hk ho1 hj fun w' h2 h3=>by
  rw[he] at h2
  exact h w' _ h2 h3 (put_same _ _ _) (hr.put hA _)
theorem Nd.splitEntries (hg:Good w s (A::os)) (nd:Nd s A p h n):∃ A1 W,Good w s (A1::W::os)∧A1 p=some (.cells (nodeV n h).toArray 109 (0,0))∧NRest s A1 { h with ea:=none,ec:=0 } (n.wEntries [])∧Own REntry 6 65 s W h.ea h.ec n.s.log.entries:=by
 have hp:=nd.entries
 rcases hp with ⟨h1,h2,h3⟩ | ⟨g,cs,hpa,hA,h4,h5,h6,h7⟩
 ·
  exact⟨A,Res.nil,hg.nil.front 1 rfl,nd.cells,nd.rest.noEntries,.inl ⟨h1,h2,h3⟩⟩
 ·
  have hb:=nd.entries
  have hk:∀ k,A k≠none→(∀ ad,h.ea=some ad→ad.block≠k)→(fun b=>if b=g then none else A b) k=A k:=fun k _ hk=>by
   have:k≠g:=fun e=>hk _ hpa e.symm
   simp[this]
  obtain⟨a,b,c,d,e,f,g',i,j,l⟩:=nd.rest
  refine⟨_,_,Good.split hg hA,(nd.apart hb (by decide) hk).trans nd.cells,⟨a,b,c,Own.nil _ _ _ _ _,e.kept (hb.dj e (by decide)) hk,f.kept (hb.dj f (by decide)) hk,g',i.kept l hk,j.kept (hb.dj j (by decide)) hk,Dj.none_left _⟩,.inr ⟨g,cs,hpa,if_pos rfl,h4,h5,h6,h7⟩⟩
theorem NRest.mem {A':Res} (k:NRest s A h n) (hl:Le A A'):NRest s A' h n :=
 let ⟨a,b,c,d,e,f,g,i,j,l⟩:=k
 ⟨a,b,c,d.mem hl,e.mem hl,f.mem hl,g,i.mem hl,j.mem hl,l⟩
theorem NRest.putBase {sn:Snap} {va la da:Option Addr} {vc lc dc:Nat} {l:List Entry} (k:NRest s A { h with ea:=none,ec:=0 } (n.wEntries [])) (hv:Ints s va vc sn.conf.voters) (hl:Ints s la lc sn.conf.learners) (hd:Imm (RInt .u8) 1 s da dc sn.data) :
  NRest s A { h with va:=va,vc:=vc,la:=la,lc:=lc,da:=da,dc:=dc,ea:=none,ec:=0 } ((n.wLog ⟨sn,l⟩).wEntries []) :=
 let ⟨_,_,_,d,e,f,g,i,j,l⟩:=k
 ⟨hv,hl,hd,d,e,f,g,i,j,l⟩
theorem NRest.putEntries {l0 l:List Entry} {a:Option Addr} {c:Nat} (k:NRest s A h (n.wEntries l0)) (ho:Own REntry 6 65 s A a c l) (hd:Dj a h.oa):NRest s A { h with ea:=a,ec:=c } (n.wEntries l) :=
 let ⟨a',b,c',_,e,f,g,i,j,_⟩:=k
 ⟨a',b,c',ho,e,f,g,i,j,hd⟩
theorem NRest.outs (k:NRest s A h n):Own REntry 6 65 s A h.oa h.oc n.o.entries:=k.2.2.2.2.2.2.2.1
theorem NRest.putPart {c:Coming} {a:Option Addr} {q:Nat} (k:NRest s A h n) (hc:Imm (RInt .u8) 1 s a q c.data):NRest s A { h with ta:=a,tc:=q } (n.wPart c) :=
 let ⟨a',b,c',d,e,f,_,i,j,l⟩:=k
 ⟨a',b,c',d,e,f,hc,i,j,l⟩
def sameEnd (sn:Snap) (e:Entry):Bool:=decide (e.index=sn.index∧e.term=sn.term)
theorem install1_ct {e:Entry} {sn:Snap} {vs:List Value} {B:Res} {b:Nat} {va la da:Option Addr} {vc lc dc:Nat} (hg:Good w s os) (hE:REntry s vs e) (hB:B∈os) (c1:B b=some (.cells (snapV sn va vc la lc da dc).toArray 30 (0,0))) :
  Calls Tryz.prog 155 #[.agg vs.toArray,ptr b] w (PostV w s os fun q=>q = .bool (sameEnd sn e)):=by
 obtain⟨ea,ec,ea1,ec1,ea2,ec2,rfl,er1,er2,er3,eh1,eh2,eh3⟩:=hE
 refine enter (l:=[.agg #[u64 e.index,u64 e.term,i64 e.kind,.slice ea e.data.length ec,.slice ea1 e.conf.voters.length ec1,.slice ea2 e.conf.learners.length ec2],ptr b]) Tryz.func155 rfl Tryz.ntmps155 rfl ?_
 refine go 3 ?_
 rintro b1 w1 Q1 (hg1:Good _ s (Q1::os)) hax1 hb1
 refine go 8 ?_
 refine RL.load (j:=0) rfl rfl rfl rfl ty22.out rfl (Holds.of c1) (hg1.mem (List.mem_cons_of_mem _ hB)) rfl ?_
 refine go 2 ?_
 refine RL.part 9 rfl (fun h9=>?_) (fun h9=>?_)
 ·
  refine go 3 ?_
  refine RL.load (j:=1) rfl rfl rfl rfl ty22.out rfl (Holds.of c1) (hg1.mem (List.mem_cons_of_mem _ hB)) rfl ?_
  refine go 4 ?_
  refine CW.ret (zr1 ?_)
  refine PostV.mq (hg1.drop) (congrArg Value.bool ?_)
  simp_all [sameEnd]
  try (rw[Bool.eq_iff_iff];simp)
 ·
  refine go 8 ?_
  refine CW.ret (zr1 ?_)
  refine PostV.mq (hg1.drop) (congrArg Value.bool ?_)
  simp_all [sameEnd]
  try (rw[Bool.eq_iff_iff];simp)
theorem install_some {sn:Snap} (h0:0≤idxP (sameEnd sn) n.s.log.entries):n.install sn=⟨{ n.s with log:=⟨sn,n.s.log.entries.drop (idxP (sameEnd sn) n.s.log.entries+1).toNat⟩,hard:={ n.s.hard with commit:=sn.index },part:=Coming.zero },{ n.o with install:=true }⟩:=by
 have hf:∃ k,n.s.log.entries.findIdx? (fun e=>decide (e.index=sn.index∧e.term=sn.term))=some k∧idxP (sameEnd sn) n.s.log.entries=k:=by
  unfold idxP at h0 ⊢
  change ∃ k,n.s.log.entries.findIdx? (sameEnd sn)=some k∧_
  cases hc:n.s.log.entries.findIdx? (sameEnd sn) with
  | none=>rw[hc] at h0;simp at h0
  | some k=>exact⟨k,rfl,rfl⟩
 obtain⟨k,h1,h2⟩:=hf
 unfold Node.install
 simp only[h1,h2]
 rw[show ((k:Int)+1).toNat=k+1 by omega]
theorem install_none {sn:Snap} (h0:idxP (sameEnd sn) n.s.log.entries<0):n.install sn=⟨{ n.s with log:=⟨sn,[]⟩,hard:={ n.s.hard with commit:=sn.index },part:=Coming.zero },{ n.o with install:=true,cut:=(n.s.log.entries.head?.map (·.index)).getD n.o.cut }⟩:=by
 have h1:n.s.log.entries.findIdx? (fun e=>decide (e.index=sn.index∧e.term=sn.term))=none:=by
  unfold idxP at h0
  change n.s.log.entries.findIdx? (sameEnd sn)=none
  cases hc:n.s.log.entries.findIdx? (sameEnd sn) with
  | none=>rfl
  | some k=>rw[hc] at h0;simp at h0;omega
 unfold Node.install
 simp only[h1]
theorem install_ct {sn:Snap} {va la da:Option Addr} {vc lc dc:Nat} (hg:Good w s (A::os)) (nd:Nd s A p h n) (hS:n.s.log.small) (hv:Ints s va vc sn.conf.voters) (hl:Ints s la lc sn.conf.learners) (hd:Imm (RInt .u8) 1 s da dc sn.data) :
  Calls Tryz.prog 136 #[ptr p,.agg (snapV sn va vc la lc da dc).toArray] w (NPost w s os p (.tuple #[]) (n.install sn)):=by
 have hlen:=hS.2.2.2
 have hib:idxP (sameEnd sn) n.s.log.entries+1≤n.s.log.entries.length:=by rcases idxP_rng (sameEnd sn) n.s.log.entries with h | ⟨_,h⟩<;>omega
 have hib0 : -1≤idxP (sameEnd sn) n.s.log.entries:=by rcases idxP_rng (sameEnd sn) n.s.log.entries with h | ⟨_,h⟩<;>omega
 refine enter (l:=[ptr p,.agg (snapV sn va vc la lc da dc).toArray]) Tryz.func136 rfl Tryz.ntmps136 rfl ?_
 refine go 3 ?_
 rintro b2 w2 Q2 (hg2:Good _ s (Q2::A::os)) hax2 hb2
 refine go 14 ?_
 obtain⟨A1,W1,hgS,hpS,hrS,hW⟩:=Nd.splitEntries (hg2.front 1 rfl) nd
 refine go 7 ?_
 refine RL.storeX (p:=p) (i:=0) (j:=4) rfl rfl rfl ty33.out rfl rfl hgS rfl hpS (NRest.putBase (l:=[]) hrS hv hl hd) rfl (by first | (simp[Value.cells,Value.oneCell'];done) | simp[Value.cells,Value.oneCell',putL]) (Nat.le_of_ble_eq_true rfl) rfl ?_
 intro wX AX hgX haxX hpX hrX
 refine go 5 ?_
 refine RL.makeF rfl rfl rfl rfl rfl ?_
 refine go 1 ?_
 refine zw (IndexE_ct (p:=sameEnd sn) hgX (.inr (by simp)) hW.lies rfl (fun x hx vs hE w' hg'=>install1_ct hg' hE (B:=Q2) (by simp) hb2)) ?_
 rintro v3 w3 (hg3:Good _ s (AX::W1::Q2::os)) hax3 rfl
 refine go 9 ?_
 refine RL.partL (idxP (sameEnd sn) n.s.log.entries+1) (n.s.log.entries.length:Int) rfl rfl rfl rfl sl31.out rfl (.inr ⟨_,_,rfl,rfl⟩) (.inl ⟨rfl,rfl⟩) hW.lies (by omega) hib (by omega) ?_
 intro a26 c26 hE26
 have e26:((n.s.log.entries.take (n.s.log.entries.length:Int).toNat).drop (idxP (sameEnd sn) n.s.log.entries+1).toNat)=n.s.log.entries.drop (idxP (sameEnd sn) n.s.log.entries+1).toNat:=by simp
 rw[e26] at hE26 ⊢
 refine go 1 ?_
 refine zc (CloneE_ct hg3 (.inr (by simp)) hE26.2.2 (by simp only[List.length_drop];omega)) ?_
 rintro v4 s4 Q4 w4 hle4 (hg4:Good _ s4 (Q4::AX::W1::Q2::os)) hax4 ⟨hs27,a27,c27,rfl,ho27⟩
 have hrX:=hrX.up hle4
 refine go 1 ?_
 have hK:=((((hg4.front 3 rfl).front 3 rfl).front 3 rfl).front 3 rfl)
 obtain⟨AJ,hAJ⟩:∃ Z,Z=Res.join Q4 AX:=⟨_,rfl⟩
 have hrJ:=hrX.mem (Res.le_join_right (r:=Q4) (Apart.of2 hK))
 have hpJ:=Res.le_join_right (r:=Q4) (Apart.of2 hK) _ _ hpX
 have hoJ:=ho27.mem (Res.le_join_left Q4 AX)
 have hdJ:=Dj.apart ho27 hrX.outs (Apart.of2 hK)
 have hgJ:=hK.join
 rw[←hAJ] at hrJ hpJ hoJ hgJ
 have hrE:=hrJ.putEntries hoJ hdJ
 refine go 4 ?_
 refine RL.sN (p:=p) (i:=0) (j:=9) hgJ (hpJ) (hrE) ?_
 rintro w5 A5 (hg5:Good _ s4 (A5::W1::Q2::os)) hax5 nd5
 refine go 8 ?_
 refine CW.cond rfl (fun h33=>?_) (fun h33=>?_)
 ·
  refine go 7 ?_
  refine RL.sN (p:=p) (i:=0) (j:=9) (h1:=_) (n1:=_) hg5 (nd5.cells) (nd5.rest.noEntries) ?_
  rintro w6 A6 (hg6:Good _ s4 (A6::W1::Q2::os)) hax6 nd6
  refine go 8 ?_
  refine CW.cond rfl (fun h41=>?_) (fun h41=>?_)
  ·
   refine go 3 ?_
   refine RL.idxL rfl rfl rfl rfl sl31.out rfl rfl hW.lies (by omega) (by have:=decide_t h41;omega) ?_
   rintro q vs hvl hH ⟨ea,ec,ea1,ec1,ea2,ec2,rfl,er1,er2,er3,eh1,eh2,eh3⟩
   refine go 1 ?_
   refine RL.load (j:=0) rfl rfl rfl rfl ty22.out rfl (hH) (hg6.mem (by simp)) rfl ?_
   refine go 3 ?_
   refine RL.sI (p:=p) (i:=0) (j:=20) hg6 (nd6.cells) (NRest.wCut nd6.rest) ?_
   rintro w7 A7 (hg7:Good _ s4 (A7::W1::Q2::os)) hax7 nd7
   refine go 13 ?_
   refine RL.sI (p:=p) (i:=0) (j:=3) hg7 (nd7.cells) (NRest.wCommit nd7.rest) ?_
   rintro w8 A8 (hg8:Good _ s4 (A8::W1::Q2::os)) hax8 nd8
   refine go 4 ?_
   refine RL.sN (p:=p) (i:=0) (j:=17) (h1:=_) (n1:=_) hg8 (nd8.cells) (NRest.putPart (c:=Coming.zero) nd8.rest (Imm.nil _ _ _ (Nat.zero_le _))) ?_
   rintro w9 A9 (hg9:Good _ s4 (A9::W1::Q2::os)) hax9 nd9
   refine go 4 ?_
   refine RL.sT (p:=p) (i:=0) (j:=23) hg9 (nd9.cells) (NRest.wInstall nd9.rest) ?_
   rintro w10 A10 (hg10:Good _ s4 (A10::W1::Q2::os)) hax10 nd10
   refine go 2 ?_
   refine fall (vs:=[]) rfl ?_
   have hh:n.s.log.entries.head?=some (n.s.log.entries[0]'(by have:=decide_t h41;omega)):=by rw[List.head?_eq_getElem?,List.getElem?_eq_getElem]
   exact Post.mq ((hg10.dropNext).dropNext) ⟨rfl,_,nd10.to ((install_none (decide_t h33)).trans (by rw[hh];rfl)).symm⟩
  ·
   refine go 12 ?_
   refine RL.sI (p:=p) (i:=0) (j:=3) hg6 (nd6.cells) (NRest.wCommit nd6.rest) ?_
   rintro w11 A11 (hg11:Good _ s4 (A11::W1::Q2::os)) hax11 nd11
   refine go 4 ?_
   refine RL.sN (p:=p) (i:=0) (j:=17) (h1:=_) (n1:=_) hg11 (nd11.cells) (NRest.putPart (c:=Coming.zero) nd11.rest (Imm.nil _ _ _ (Nat.zero_le _))) ?_
   rintro w12 A12 (hg12:Good _ s4 (A12::W1::Q2::os)) hax12 nd12
   refine go 4 ?_
   refine RL.sT (p:=p) (i:=0) (j:=23) hg12 (nd12.cells) (NRest.wInstall nd12.rest) ?_
   rintro w13 A13 (hg13:Good _ s4 (A13::W1::Q2::os)) hax13 nd13
   refine go 2 ?_
   refine fall (vs:=[]) rfl ?_
   have hh:n.s.log.entries.head?=none:=by rw[List.head?_eq_none_iff];exact List.eq_nil_of_length_eq_zero (by have:=decide_f h41;omega)
   exact Post.mq ((hg13.dropNext).dropNext) ⟨rfl,_,nd13.to ((install_none (decide_t h33)).trans (by rw[hh];rfl)).symm⟩
 ·
  refine go 12 ?_
  refine RL.sI (p:=p) (i:=0) (j:=3) hg5 (nd5.cells) (NRest.wCommit nd5.rest) ?_
  rintro w14 A14 (hg14:Good _ s4 (A14::W1::Q2::os)) hax14 nd14
  refine go 4 ?_
  refine RL.sN (p:=p) (i:=0) (j:=17) (h1:=_) (n1:=_) hg14 (nd14.cells) (NRest.putPart (c:=Coming.zero) nd14.rest (Imm.nil _ _ _ (Nat.zero_le _))) ?_
  rintro w15 A15 (hg15:Good _ s4 (A15::W1::Q2::os)) hax15 nd15
  refine go 4 ?_
  refine RL.sT (p:=p) (i:=0) (j:=23) hg15 (nd15.cells) (NRest.wInstall nd15.rest) ?_
  rintro w16 A16 (hg16:Good _ s4 (A16::W1::Q2::os)) hax16 nd16
  refine go 2 ?_
  refine fall (vs:=[]) rfl ?_
  exact Post.mq ((hg16.dropNext).dropNext) ⟨rfl,_,nd16.to (install_some (n:=n) (sn:=sn) (by have:=decide_f h33;omega)).symm⟩
theorem takeP_ix (c:Coming) (m:Msg):(takeP c m).1.index=m.index∧(takeP c m).1.term=m.logTerm:=by
 by_cases h:c.index≠m.index∨c.term≠m.logTerm
 ·
  rw[takeP_new h];split<;>exact⟨rfl,rfl⟩
 ·
  rw[takeP_old h]
  have h1:c.index=m.index:=Classical.byContradiction fun z=>h (.inl z)
  have h2:c.term=m.logTerm:=Classical.byContradiction fun z=>h (.inr z)
  split<;>exact⟨h1,h2⟩
theorem takeP_len (c:Coming) (m:Msg):(takeP c m).1.data.length≤c.data.length+m.data.length:=by
 by_cases h:c.index≠m.index∨c.term≠m.logTerm
 ·
  rw[takeP_new h];split<;>simp
 ·
  rw[takeP_old h];split<;>simp
theorem install_msgs (sn:Snap):(n.install sn).o.msgs=n.o.msgs:=by unfold Node.install;dsimp only;split<;>rfl
theorem NRng.install (hR:NRng n) {sn:Snap} (h1:rng .u64 sn.index) (h2:rng .u64 sn.term):NRng (n.install sn):=by
 unfold Node.install
 dsimp only
 split
 ·
  exact⟨hR.1,hR.2.1,hR.2.2.1,h1,h1,h2⟩
 ·
  exact⟨hR.1,hR.2.1,hR.2.2.1,h1,h1,h2⟩
theorem chunk_no {m:Msg} (h0:n.s.role=4∨checkP m.conf≠0∨n.s.hard.term<m.logTerm):n.chunk m=n:=by unfold Node.chunk;rw[if_pos h0]
theorem chunk_old {m:Msg} (h0:¬ (n.s.role=4∨checkP m.conf≠0∨n.s.hard.term<m.logTerm)) (h1:m.index≤(n.calm m.frm).s.hard.commit):n.chunk m=(n.calm m.frm).post { Msg.zero with kind:=6,to:=m.frm,index:=(n.calm m.frm).s.hard.commit }:=by
 unfold Node.chunk;rw[if_neg h0];exact if_pos h1
theorem chunk_part {m:Msg} {T:Coming × Bool} (h0:¬ (n.s.role=4∨checkP m.conf≠0∨n.s.hard.term<m.logTerm)) (h1:¬ m.index≤(n.calm m.frm).s.hard.commit) (hT:takeP (n.calm m.frm).s.part m=T) (h2:T.2=false) :
  n.chunk m=((n.calm m.frm).wPart T.1).post { Msg.zero with kind:=8,to:=m.frm,index:=m.index,hint:=T.1.data.length }:=by
 subst hT;unfold Node.chunk;rw[if_neg h0];exact (if_neg h1).trans (if_pos h2)
theorem chunk_all {m:Msg} {T:Coming × Bool} (h0:¬ (n.s.role=4∨checkP m.conf≠0∨n.s.hard.term<m.logTerm)) (h1:¬ m.index≤(n.calm m.frm).s.hard.commit) (hT:takeP (n.calm m.frm).s.part m=T) (h2:¬ T.2=false) :
  n.chunk m=((n.calm m.frm).install (wholeP T.1 m.conf)).post { Msg.zero with kind:=6,to:=m.frm,index:=m.index }:=by
 subst hT;unfold Node.chunk;rw[if_neg h0];exact (if_neg h1).trans (if_neg h2)
theorem Nd.part (nd:Nd s A p h n):Imm (RInt .u8) 1 s h.ta h.tc n.s.part.data:=nd.rest.2.2.2.2.2.2.1
theorem chunk_ct {m:Msg} {y:Lay} (hg:Good w s (A::os)) (nd:Nd s A p h n) (hR:NRng n) (hr:n.roomy) (hm:MsgOk s m y) (hms:m.small) (hpl:n.s.part.data.length+m.data.length≤70368744177664) :
  Calls Tryz.prog 110 #[ptr p,.agg (msgV m y).toArray] w (NPost w s os p (.tuple #[]) (n.chunk m)):=by
 obtain⟨hS,h1,h2,h3,h4⟩:=hr
 have hRq:NRng (n.calm m.frm):=hR.follow (term:=n.s.hard.term) (leader:=m.frm) hR.2.1
 have hSq:(n.calm m.frm).s.log.small:=hS
 have hmq:(n.calm m.frm).o.msgs.length≤34359738368:=h3
 have htl:(takeP (n.calm m.frm).s.part m).1.data.length≤70368744177664:=Nat.le_trans (takeP_len _ _) hpl
 have htx:=takeP_ix (n.calm m.frm).s.part m
 refine enter (l:=[ptr p,.agg (msgV m y).toArray]) Tryz.func110 rfl Tryz.ntmps110 rfl ?_
 refine go 3 ?_
 rintro b17 w17 Q17 (hg17:Good _ s (Q17::A::os)) hax17 hb17
 refine go 4 ?_
 have hg18:=hg17.drew
 refine CW.dw [1,3,5,7,9,11,13,15,17,18,21,23,25,27,29,31,33,35,37,39,41,43,45] (fun w=>At1 p _ w∧At1 b17 _ w∧True) ?_
 refine go 7 ?_
 refine RL.part 12 rfl (fun h12=>?_) (fun h12=>?_)
 ·
  refine go 18 ?_
  refine CW.ret (zr0 ?_)
  exact Post.mq ((hg18.front 1 rfl).dropNext) ⟨rfl,_,nd.to (chunk_no (.inl (by simpa using h12))).symm⟩
 ·
  refine go 3 ?_
  refine zw (Calls.val (Ψ:=fun v=>v=i64 (checkP m.conf)) (Check_ct hg18 hm.conf hms.2.2.1.fits)) ?_
  rintro v19 w19 (hg19:Good _ s (Q17::A::os)) hax19 rfl
  refine go 4 ?_
  refine RL.part 18 rfl (fun h18=>?_) (fun h18=>?_)
  ·
   refine go 12 ?_
   refine CW.ret (zr0 ?_)
   exact Post.mq ((hg19.front 1 rfl).dropNext) ⟨rfl,_,nd.to (chunk_no (.inr (.inl (by simpa using h18)))).symm⟩
  ·
   refine go 11 ?_
   refine CW.cond rfl (fun h28=>?_) (fun h28=>?_)
   ·
    refine CW.ret (zr0 ?_)
    exact Post.mq ((hg19.front 1 rfl).dropNext) ⟨rfl,_,nd.to (chunk_no (.inr (.inr (decide_t h28)))).symm⟩
   ·
    have hno:¬ (n.s.role=4∨checkP m.conf≠0∨n.s.hard.term<m.logTerm):=fun z=>z.elim (fun z=>by simp[z] at h12) (fun z=>z.elim (fun z=>by simp[z] at h18) (decide_f h28))
    refine go 2 ?_
    have hg20:=hg19.drew
    refine CW.dx [1,3,5,7,9,11,13,15,17] [18] 9 1 (fun w=>At1 p _ w∧At1 b17 _ w∧True) ?_
    refine go 12 ?_
    refine zc (follow_ct (hg20.front 1 rfl) nd) ?_
    rintro v21 s21 A21 w21 hle21 (hg21:Good _ s21 (A21::Q17::os)) hax21 ⟨rfl,h21,nd21⟩
    have hm:=hm.up hle21
    refine go 8 ?_
    refine RL.sI (p:=p) (i:=0) (j:=14) hg21 (nd21.cells) (NRest.wElapsed nd21.rest) ?_
    rintro w22 A22 (hg22:Good _ s21 (A22::Q17::os)) hax22 nd22
    refine go 4 ?_
    have hg23:=hg22.drew
    refine CW.dw [1,3,5,7,9,11,13,15,17] (fun w=>At1 b17 _ w∧At1 p _ w∧True) ?_
    have nq:=nd22.to (show _=n.calm m.frm from rfl)
    refine go 10 ?_
    refine CW.cond rfl (fun h51=>?_) (fun h51=>?_)
    ·
     refine go 1 ?_
     have hg24:=hg23.drew
     refine CW.dx [1,3,5,7,9,11,13,15,17,19] [20] 10 1 (fun w=>At1 b17 _ w∧At1 p _ w∧True) ?_
     refine go 13 ?_
     refine zc (post_ct (m:={ Msg.zero with kind:=6,to:=m.frm,index:=(n.calm m.frm).s.hard.commit }) (y:=Lay.none) hg24 nq hRq { MsgOk.zero _ with kind:=by simp[rng],to:=hm.frm,index:=hRq.2.2.2.1 } (by omega)) ?_
     rintro v25 s25 A25 w25 hle25 (hg25:Good _ s25 (A25::Q17::os)) hax25 ⟨rfl,ma25,mc25,nd25⟩
     have hm:=hm.up hle25
     refine go 2 ?_
     refine CW.ret (zr0 ?_)
     exact Post.mq (hg25.dropNext) ⟨rfl,_,nd25.to (chunk_old hno (decide_t h51)).symm⟩
    ·
     refine go 2 ?_
     have hg26:=hg23.drew
     refine CW.forks (.fork [(true,0),(true,1),(true,2),(true,3),(true,4),(true,5)] (.line [(false,6),(true,7),(true,8),(true,9),(false,10),(false,11),(false,12)]) (.line [(false,10),(false,6),(true,7),(true,8),(true,9),(false,11),(false,12)])) (fun w=>At1 p _ w∧At1 b17 _ w∧True) mixed (by kernel_rfl) (by kernel_rfl) (by kernel_rfl) (by kernel_rfl) (⟨hg26.at1 (by simp) nq.cells,hg26.at1 (by simp) hb17,trivial⟩) ?_
     refine RT.pre (S:=fun w=>At1 p _ w∧At1 b17 _ w∧True) (⟨hg26.at1 (by simp) nq.cells,hg26.at1 (by simp) hb17,trivial⟩) ?_
     refine go 7 ?_
     refine RT.both (S:=fun w=>At1 p _ w∧At1 b17 _ w∧True) (⟨hg26.at1 (by simp) nq.cells,hg26.at1 (by simp) hb17,trivial⟩) (RT.end_ (S:=fun w=>At1 p _ w∧At1 b17 _ w∧True) (⟨hg26.at1 (by simp) nq.cells,hg26.at1 (by simp) hb17,trivial⟩) ?_) (RT.end_ (S:=fun w=>At1 p _ w∧At1 b17 _ w∧True) (⟨hg26.at1 (by simp) nq.cells,hg26.at1 (by simp) hb17,trivial⟩) ?_)
     ·
      refine go 1 ?_
      refine zc (Take_ct hg26 nq.part hm hpl) ?_
      rintro v27 s27 B27 w27 hle27 (hg27:Good _ s27 (B27::A22::Q17::os)) hax27 ⟨a70,c70,rfl,hT⟩
      have hg27:=hg27.drop
      have nd28:=nq.up hle27
      have hm:=hm.up hle27
      generalize hTe:takeP (n.calm m.frm).s.part m=T at hT htl htx ⊢
      refine go 5 ?_
      rintro b29 w29 Q29 (hg29:Good _ s27 (Q29::A22::Q17::os)) hax29 hb29
      refine go 2 ?_
      rintro w30 Q30 (hg30:Good _ s27 (Q30::A22::Q17::os)) hax30 hb30
      refine go 9 ?_
      refine CW.cond rfl (fun h74=>?_) (fun h74=>?_)
      ·
       refine go 7 ?_
       refine RL.sN (p:=p) (i:=1) (j:=17) (h1:=_) (n1:=_) hg30 (nd28.cells) (NRest.putPart nd28.rest hT) ?_
       rintro w31 A31 (hg31:Good _ s27 (Q30::A31::Q17::os)) hax31 nd31
       refine go 12 ?_
       refine RL.conv rfl rfl rfl rfl Tryz.underlying3 Tryz.underlying22 rfl ((by simp only[rng];omega)) ?_
       refine go 2 ?_
       refine zc (post_ct (m:={ Msg.zero with kind:=8,to:=m.frm,index:=m.index,hint:=T.1.data.length }) (y:=Lay.none) (hg31.front 1 rfl) nd31 (hRq.of rfl hRq.2.1 hRq.2.2.1 hRq.2.2.2.1 rfl) { MsgOk.zero _ with kind:=by simp[rng],to:=hm.frm,index:=hm.index,hint:=by simp only[rng];omega } (by show n.o.msgs.length≤_;omega)) ?_
       rintro v32 s32 A32 w32 hle32 (hg32:Good _ s32 (A32::Q30::Q17::os)) hax32 ⟨rfl,ma32,mc32,nd32⟩
       have hm:=hm.up hle32
       refine go 2 ?_
       refine CW.ret (zr0 ?_)
       exact Post.mq ((hg32.dropNext).dropNext) ⟨rfl,_,nd32.to (chunk_part hno (decide_f h51) hTe (by simpa using h74)).symm⟩
      ·
       refine go 8 ?_
       refine zc (Whole_ct hg30 hT hm.voters hm.learners hms.2.2.1 (by omega)) ?_
       rintro v33 s33 B33 w33 hle33 (hg33:Good _ s33 (B33::Q30::A22::Q17::os)) hax33 ⟨va,vc,la,lc,da,dc,rfl,hva,hla,hda⟩
       have hg33:=hg33.drop
       have nd34:=nd28.up hle33
       have hm:=hm.up hle33
       refine go 2 ?_
       refine zc (install_ct (hg33.front 1 rfl) nd34 hSq hva hla hda) ?_
       rintro v35 s35 A35 w35 hle35 (hg35:Good _ s35 (A35::Q30::Q17::os)) hax35 ⟨rfl,h35,nd35⟩
       have hm:=hm.up hle35
       refine go 10 ?_
       refine zc (post_ct (m:={ Msg.zero with kind:=6,to:=m.frm,index:=m.index }) (y:=Lay.none) hg35 nd35 (hRq.install (by show rng .u64 T.1.index;rw[htx.1];exact hm.index) (by show rng .u64 T.1.term;rw[htx.2];exact hm.logTerm)) { MsgOk.zero _ with kind:=by simp[rng],to:=hm.frm,index:=hm.index } (by rw[install_msgs];omega)) ?_
       rintro v36 s36 A36 w36 hle36 (hg36:Good _ s36 (A36::Q30::Q17::os)) hax36 ⟨rfl,ma36,mc36,nd36⟩
       have hm:=hm.up hle36
       refine go 2 ?_
       refine fall (vs:=[]) rfl ?_
       exact Post.mq ((hg36.dropNext).dropNext) ⟨rfl,_,nd36.to (chunk_all hno (decide_f h51) hTe (by simpa using h74)).symm⟩
     ·
      refine go 1 ?_
      rintro b37 w37 Q37 (hg37:Good _ s21 (Q37::A22::Q17::os)) hax37 hb37
      refine go 2 ?_
      refine zc (Take_ct hg37 nq.part hm hpl) ?_
      rintro v38 s38 B38 w38 hle38 (hg38:Good _ s38 (B38::Q37::A22::Q17::os)) hax38 ⟨a70,c70,rfl,hT⟩
      have hg38:=hg38.drop
      have nd39:=nq.up hle38
      have hm:=hm.up hle38
      generalize hTe:takeP (n.calm m.frm).s.part m=T at hT htl htx ⊢
      refine go 5 ?_
      rintro w40 Q40 (hg40:Good _ s38 (Q40::A22::Q17::os)) hax40 hb40
      refine go 9 ?_
      refine CW.cond rfl (fun h74=>?_) (fun h74=>?_)
      ·
       refine go 7 ?_
       refine RL.sN (p:=p) (i:=1) (j:=17) (h1:=_) (n1:=_) hg40 (nd39.cells) (NRest.putPart nd39.rest hT) ?_
       rintro w41 A41 (hg41:Good _ s38 (Q40::A41::Q17::os)) hax41 nd41
       refine go 12 ?_
       refine RL.conv rfl rfl rfl rfl Tryz.underlying3 Tryz.underlying22 rfl ((by simp only[rng];omega)) ?_
       refine go 2 ?_
       refine zc (post_ct (m:={ Msg.zero with kind:=8,to:=m.frm,index:=m.index,hint:=T.1.data.length }) (y:=Lay.none) (hg41.front 1 rfl) nd41 (hRq.of rfl hRq.2.1 hRq.2.2.1 hRq.2.2.2.1 rfl) { MsgOk.zero _ with kind:=by simp[rng],to:=hm.frm,index:=hm.index,hint:=by simp only[rng];omega } (by show n.o.msgs.length≤_;omega)) ?_
       rintro v42 s42 A42 w42 hle42 (hg42:Good _ s42 (A42::Q40::Q17::os)) hax42 ⟨rfl,ma42,mc42,nd42⟩
       have hm:=hm.up hle42
       refine go 2 ?_
       refine CW.ret (zr0 ?_)
       exact Post.mq ((hg42.dropNext).dropNext) ⟨rfl,_,nd42.to (chunk_part hno (decide_f h51) hTe (by simpa using h74)).symm⟩
      ·
       refine go 8 ?_
       refine zc (Whole_ct hg40 hT hm.voters hm.learners hms.2.2.1 (by omega)) ?_
       rintro v43 s43 B43 w43 hle43 (hg43:Good _ s43 (B43::Q40::A22::Q17::os)) hax43 ⟨va,vc,la,lc,da,dc,rfl,hva,hla,hda⟩
       have hg43:=hg43.drop
       have nd44:=nd39.up hle43
       have hm:=hm.up hle43
       refine go 2 ?_
       refine zc (install_ct (hg43.front 1 rfl) nd44 hSq hva hla hda) ?_
       rintro v45 s45 A45 w45 hle45 (hg45:Good _ s45 (A45::Q40::Q17::os)) hax45 ⟨rfl,h45,nd45⟩
       have hm:=hm.up hle45
       refine go 10 ?_
       refine zc (post_ct (m:={ Msg.zero with kind:=6,to:=m.frm,index:=m.index }) (y:=Lay.none) hg45 nd45 (hRq.install (by show rng .u64 T.1.index;rw[htx.1];exact hm.index) (by show rng .u64 T.1.term;rw[htx.2];exact hm.logTerm)) { MsgOk.zero _ with kind:=by simp[rng],to:=hm.frm,index:=hm.index } (by rw[install_msgs];omega)) ?_
       rintro v46 s46 A46 w46 hle46 (hg46:Good _ s46 (A46::Q40::Q17::os)) hax46 ⟨rfl,ma46,mc46,nd46⟩
       have hm:=hm.up hle46
       refine go 2 ?_
       refine fall (vs:=[]) rfl ?_
       exact Post.mq ((hg46.dropNext).dropNext) ⟨rfl,_,nd46.to (chunk_all hno (decide_f h51) hTe (by simpa using h74)).symm⟩
end
end Go.Lw
namespace Go.Lw
open Go.Proofs
attribute [local irreducible] RL RA
section
variable {w:World} {s A:Res} {os:List Res} {p:Nat} {h:Hd} {n:Node}
abbrev peerV (q:Peer):List Value:=[i64 q.node,u64 q.next,u64 q.mat]
theorem PeerAt.there {other:Int} {a:Option Addr} (hp:PeerAt h n other a) (hn:a.isNone=false):∃ g k,∃ hk:k<n.s.peers.length,a=some ((⟨g,0,none⟩:Addr).add (k*3))∧h.pa=some ⟨g,0,none⟩∧n.peer other=some n.s.peers[k]∧n.s.peers.findIdx? (fun p=>decide (p.node=other))=some k:=by
 rcases hp with ⟨rfl,_⟩ | hp
 ·
  cases hn
 ·
  exact hp
theorem PeerAt.gone {other:Int} {a:Option Addr} (hp:PeerAt h n other a) (hn:a.isNone=true):n.peer other=none:=by
 rcases hp with ⟨_,h0⟩ | ⟨g,k,hk,rfl,_⟩
 ·
  exact h0
 ·
  cases hn
theorem three_at {cs:List Value} {i:Nat} {a b c:Value} (h0:cs[i]?=some a) (h1:cs[i+1]?=some b) (h2:cs[i+2]?=some c):cs.drop i=a::b::c::cs.drop (i+3):=by
 obtain⟨l0,e0⟩:=List.getElem?_eq_some_iff.1 h0
 obtain⟨l1,e1⟩:=List.getElem?_eq_some_iff.1 h1
 obtain⟨l2,e2⟩:=List.getElem?_eq_some_iff.1 h2
 rw[List.drop_eq_getElem_cons l0,List.drop_eq_getElem_cons l1,List.drop_eq_getElem_cons l2,e0,e1,e2]
theorem Nd.peerRow {g k:Nat} (nd:Nd s A p h n) (hk:k<n.s.peers.length) (hpp:h.pa=some ⟨g,0,none⟩) :
  ∃ cs,A g=some (.cells cs 136 (0,0))∧k*3+3≤cs.size∧(∀ (j:Nat) u,(peerV n.s.peers[k])[j]?=some u→cs.toList[k*3+j]?=some u)∧RPeer s (peerV n.s.peers[k]) n.s.peers[k]:=by
 rcases nd.peers with ⟨h1,_⟩ | ⟨g',cs,h1,hA,h4,h5,h6,h7⟩
 ·
  rw[hpp] at h1;cases h1
 ·
  rw[hpp] at h1;cases h1
  obtain⟨vs,hv,hc,hR⟩:=h7.get (List.getElem?_eq_getElem hk)
  have hR2:=hR
  obtain⟨rfl,_⟩:=hR2
  refine⟨cs,hA,by rw[h6];omega,fun j u hu=>?_,hR⟩
  have:=hc j u hu
  rw[List.getElem?_take] at this
  split at this
  ·
   exact this
  ·
   cases this
theorem Nd.peerHolds {g k:Nat} (nd:Nd s A p h n) (hk:k<n.s.peers.length) (hpp:h.pa=some ⟨g,0,none⟩):Holds A ((⟨g,0,none⟩:Addr).add (k*3)) (peerV n.s.peers[k]):=by
 obtain⟨cs,hA,_,hc,_⟩:=nd.peerRow hk hpp
 exact Own.place hA hc
theorem RL.storePeer {P:Program} {m:Nat} {ops:Array Oper} {Q:Exit→Act→World→Prop} {S:World→Prop} {rest:List (Bool × Oper)} {E:Env} {o:Oper} {x y:Operand} {t:TypeId} {g k j:Nat} {i:Nat} {v:Int} (q:Peer) (hg:wants ops E o=some true) (hd:o.dst=none) (ho:o.op = .store t x y) (ht:tyc P t=some (false,1))
  (hk:k<n.s.peers.length) (hpp:h.pa=some ⟨g,0,none⟩)
  (hx:ev E x=some (.pointer (some (((⟨g,0,none⟩:Addr).add (k*3)).add j)))) (hy:ev E y=some (u64 v)) (hG:Good w s os) (hi:os[i]?=some A) (nd:Nd s A p h n) (hj:j<3) (hq:peerV q=(peerV n.s.peers[k]).set j (u64 v)) (hr:rng .i64 q.node∧rng .u64 q.next∧rng .u64 q.mat)
  (hc:∀ w' A',Good w' s (os.set i A')→Aux w w'→Nd s A' p h (n.wPeers (n.s.peers.set k q))→S w'∧RL P m ops Q S rest E w'):RL P m ops Q S ((false,o)::rest) E w:=by
 obtain⟨cs,hA,hfit,hcell,_⟩:=nd.peerRow hk hpp
 have hd3:cs.toList.drop (k*3)=i64 n.s.peers[k].node::u64 n.s.peers[k].next::u64 n.s.peers[k].mat::cs.toList.drop (k*3+3):=three_at (hcell 0 _ rfl) (hcell 1 _ rfl) (hcell 2 _ rfl)
 have hd1:cs.toList.drop (k*3+1)=u64 n.s.peers[k].next::u64 n.s.peers[k].mat::cs.toList.drop (k*3+3):=by rw[←List.drop_drop,hd3];rfl
 have hd2:cs.toList.drop (k*3+2)=u64 n.s.peers[k].mat::cs.toList.drop (k*3+3):=by rw[←List.drop_drop,hd3];rfl
 have ht1:cs.toList.take (k*3+1)=cs.toList.take (k*3)++[i64 n.s.peers[k].node]:=by rw[List.take_add,hd3];rfl
 have ht2:cs.toList.take (k*3+2)=cs.toList.take (k*3)++[i64 n.s.peers[k].node,u64 n.s.peers[k].next]:=by rw[List.take_add,hd3];rfl
 have hds:cs.toList.take (k*3+j)++[u64 v]++cs.toList.drop (k*3+j+1)=cs.toList.take (k*3)++peerV q++cs.toList.drop (k*3+3):=by
  rw[hq]
  rcases j with _ | _ | _ | j
  ·
   show cs.toList.take (k*3)++[u64 v]++cs.toList.drop (k*3+1)=_
   rw[hd1];simp
  ·
   show cs.toList.take (k*3+1)++[u64 v]++cs.toList.drop (k*3+2)=_
   rw[ht1,hd2];simp
  ·
   show cs.toList.take (k*3+2)++[u64 v]++cs.toList.drop (k*3+3)=_
   rw[ht2];simp
  ·
   omega
 refine RL.store (b:=g) (j:=k*3+j) hg hd ho ht (by rw[hx,add_add]) hy hG hi hA rfl (by simp[Value.cells,Value.oneCell']) (by omega) fun w' h2 h3=>?_
 rw[show (u64 v).cells.toList=[u64 v] from rfl,hds] at h2
 refine hc w' _ h2 h3 ?_
 have hset:=Own.set (x:=q) (vs:=peerV q) (hpp▸nd.peers) hA hk rfl ⟨rfl,hr⟩
 have hpg:p≠g:=fun e=>by
  have h1:=nd.cells
  rw[e,hA] at h1
  injection h1 with h1
  injection h1 with _ h1
  exact absurd h1 (by decide)
 have hpa:∀ ad,h.pa=some ad→ad.block=g:=fun ad he=>by rw[hpp] at he;cases he;rfl
 have hb:=nd.peers
 obtain⟨a,b,c,d,e,f,g',i',j',l⟩:=nd.rest
 have hz:nodeV (n.wPeers (n.s.peers.set k q)) h=nodeV n h:=by
  have hl:(n.wPeers (n.s.peers.set k q)).s.peers.length=n.s.peers.length:=List.length_set ..
  simp only[nodeV,hl];rfl
 refine⟨by rw[put_other _ _ hpg,nd.cells,hz],a,b,c,d.put (fun ad he hz=>(hb.dj d (by decide)) _ ad hpp he hz.symm) _,e.put (fun ad he hz=>(hb.dj e (by decide)) _ ad hpp he hz.symm) _,?_,g',i'.put (fun ad he hz=>(hb.dj i' (by decide)) _ ad hpp he hz.symm) _,j'.put (fun ad he hz=>(hb.dj j' (by decide)) _ ad hpp he hz.symm) _,l⟩
 rw[show h.pa=some ⟨g,0,none⟩ from hpp]
 exact hset
theorem chunked_go {m:Msg} {q:Peer} (h0:n.peer m.frm=some q) (h1:n.s.role=4∧q.next≤n.s.log.base.index∧m.index=n.s.log.base.index):n.chunked m=n.piece m.frm m.hint:=by
 unfold Node.chunked;rw[h0];exact if_pos h1
theorem chunked_no {m:Msg} (h0:n.s.role≠4∨n.peer m.frm=none∨∃ q,n.peer m.frm=some q∧¬ (q.next≤n.s.log.base.index∧m.index=n.s.log.base.index)):n.chunked m=n:=by
 unfold Node.chunked
 cases hp:n.peer m.frm with
 | none=>rfl
 | some q =>
  refine if_neg fun z=>?_
  rcases h0 with h | h | ⟨q',h,h'⟩
  ·
   exact h z.1
  ·
   rw[hp] at h;cases h
  ·
   rw[hp] at h;cases h;exact h' z.2
theorem chunked_ct {m:Msg} {y:Lay} (hg:Good w s (A::os)) (nd:Nd s A p h n) (hR:NRng n) (hr:n.roomy) (hm:MsgOk s m y) :
  Calls Tryz.prog 111 #[ptr p,.agg (msgV m y).toArray] w (NPost w s os p (.tuple #[]) (n.chunked m)):=by
 obtain⟨hS,h1,h2,h3,h4⟩:=hr
 refine enter (l:=[ptr p,.agg (msgV m y).toArray]) Tryz.func111 rfl Tryz.ntmps111 rfl ?_
 refine go 3 ?_
 rintro b1 w1 Q1 (hg1:Good _ s (Q1::A::os)) hax1 hb1
 refine go 8 ?_
 refine zw (peer_ct (hg1.front 1 rfl) nd) ?_
 rintro v2 w2 (hg2:Good _ s (A::Q1::os)) hax2 ⟨a8,rfl,hpa⟩
 refine go 4 ?_
 have hg3:=hg2.drew
 refine CW.dw [1,3,5,7,9,11,13,15,17,19,21,23,25,27,29,31,33,35,37,39,41,43,45,47,49,51,53,55,57,59,61,63,65,67,69,71] (fun w=>At1 p _ w∧At1 b1 _ w∧In A w∧True) ?_
 refine go 7 ?_
 refine RL.part 15 rfl (fun h15=>?_) (fun h15=>?_)
 ·
  refine go 1 ?_
  refine RL.ptrNe rfl rfl rfl rfl Tryz.underlying162 rfl rfl ?_
  refine go 2 ?_
  refine RL.part 19 rfl (fun h19=>?_) (fun h19=>?_)
  ·
   obtain⟨g,k,hk,rfl,hpp,hpr,hix⟩:=hpa.there (by simpa using h19)
   refine go 3 ?_
   refine RL.loadT (j:=1) rfl rfl rfl rfl ty22.out rfl (nd.peerHolds hk hpp) (fun w h=>h.2.2.1) rfl ?_
   refine go 10 ?_
   refine RL.part 33 rfl (fun h33=>?_) (fun h33=>?_)
   ·
    refine go 12 ?_
    refine CW.cond rfl (fun h44=>?_) (fun h44=>?_)
    ·
     refine go 7 ?_
     refine zc (piece_ct hg3 nd hR (Log.small.base hS) hm.frm hm.hint (by omega)) ?_
     rintro v4 s4 A4 w4 hle4 (hg4:Good _ s4 (A4::Q1::os)) hax4 ⟨rfl,ma4,mc4,nd4⟩
     refine go 2 ?_
     refine fall (vs:=[]) rfl ?_
     exact Post.mq (hg4.dropNext) ⟨rfl,_,nd4.to (chunked_go hpr ⟨by simpa using h15,decide_t h33,by simpa using h44⟩).symm⟩
    ·
     refine go 1 ?_
     refine fall (vs:=[]) rfl ?_
     exact Post.mq (hg3.dropNext) ⟨rfl,_,nd.to (chunked_no (.inr (.inr ⟨_,hpr,fun z=>by simp[z.2] at h44⟩))).symm⟩
   ·
    refine go 14 ?_
    refine fall (vs:=[]) rfl ?_
    exact Post.mq (hg3.dropNext) ⟨rfl,_,nd.to (chunked_no (.inr (.inr ⟨_,hpr,fun z=>decide_f h33 z.1⟩))).symm⟩
  ·
   refine go 28 ?_
   refine fall (vs:=[]) rfl ?_
   exact Post.mq (hg3.dropNext) ⟨rfl,_,nd.to (chunked_no (.inr (.inl (hpa.gone (by simpa using h19))))).symm⟩
 ·
  refine go 32 ?_
  refine fall (vs:=[]) rfl ?_
  exact Post.mq (hg3.dropNext) ⟨rfl,_,nd.to (chunked_no (.inl (by simpa using h15))).symm⟩
theorem transfer_no {to:Int} (h0:n.peer to=none∨to∉n.voters):n.transferTo to=(n,1):=by
 unfold Node.transferTo
 cases hp:n.peer to with
 | none=>rfl
 | some q=>exact if_pos (h0.resolve_left (by rw[hp];simp))
theorem transfer_now {to:Int} {q:Peer} (h0:n.peer to=some q) (h1:to∈n.voters) (h2:q.mat=n.last):n.transferTo to=(((n.wTransfer to).wElapsed 0).post { Msg.zero with kind:=9,to:=to },0):=by
 unfold Node.transferTo;rw[h0];simp only[if_neg (show ¬ to∉n.voters from fun z=>z h1),if_pos h2];rfl
theorem transfer_feed {to:Int} {q:Peer} (h0:n.peer to=some q) (h1:to∈n.voters) (h2:¬ q.mat=n.last):n.transferTo to=(((n.wTransfer to).wElapsed 0).feed q,0):=by
 unfold Node.transferTo;rw[h0];simp only[if_neg (show ¬ to∉n.voters from fun z=>z h1),if_neg h2];rfl
theorem transfer_ct {to:Int} (hg:Good w s (A::os)) (nd:Nd s A p h n) (hR:NRng n) (hr:n.roomy) (hto:rng .i64 to) :
  Calls Tryz.prog 75 #[ptr p,i64 to] w (NPost w s os p (i64 (n.transferTo to).2) (n.transferTo to).1):=by
 obtain⟨hS,h1,h2,h3,h4⟩:=hr
 have hR2:NRng ((n.wTransfer to).wElapsed 0):=hR
 refine enter (l:=[ptr p,i64 to]) Tryz.func75 rfl Tryz.ntmps75 rfl ?_
 refine go 9 ?_
 refine zw (peer_ct hg nd) ?_
 rintro v5 w5 (hg5:Good _ s (A::os)) hax5 ⟨a8,rfl,hpa⟩
 refine go 7 ?_
 refine RL.ptrEq rfl rfl rfl rfl Tryz.underlying162 rfl rfl ?_
 refine go 1 ?_
 refine RL.part 11 rfl (fun h11=>?_) (fun h11=>?_)
 ·
  refine go 12 ?_
  refine CW.ret (zr1 ?_)
  rw[transfer_no (.inl (hpa.gone (by simpa using h11)))]
  exact Post.mq hg5 ⟨rfl,_,nd⟩
 ·
  refine go 2 ?_
  refine zc (voters_ct hg5 nd hR hS) ?_
  rintro v6 s6 B6 w6 hle6 (hg6:Good _ s6 (B6::A::os)) hax6 ⟨va,vc,rfl,hvo⟩
  have hg6:=hg6.drop
  have nd7:=nd.up hle6
  refine go 3 ?_
  refine zw (Contains_ct hg6 hvo) ?_
  rintro v8 w8 (hg8:Good _ s6 (A::os)) hax8 rfl
  refine go 4 ?_
  refine CW.cond rfl (fun h17=>?_) (fun h17=>?_)
  ·
   refine go 4 ?_
   refine CW.ret (zr1 ?_)
   rw[transfer_no (.inr (by simpa using h17))]
   exact Post.mq hg8 ⟨rfl,_,nd7⟩
  ·
   have hin:to∈n.voters:=by simpa using h17
   obtain⟨g,k,hk,rfl,hpp,hpr,hix⟩:=hpa.there (by simpa using h11)
   refine go 9 ?_
   refine RL.sI (p:=p) (i:=0) (j:=16) hg8 (nd7.cells) (NRest.wTransfer nd7.rest) ?_
   rintro w9 A9 (hg9:Good _ s6 (A9::os)) hax9 nd9
   refine go 4 ?_
   refine RL.sI (p:=p) (i:=0) (j:=14) hg9 (nd9.cells) (NRest.wElapsed nd9.rest) ?_
   rintro w10 A10 (hg10:Good _ s6 (A10::os)) hax10 nd10
   refine go 4 ?_
   have hg11:=hg10.drew
   refine CW.dw [1,3,5,7,9,10,13] (fun w=>In A10 w∧True) ?_
   refine go 3 ?_
   refine RL.loadT (j:=2) rfl rfl rfl rfl ty22.out rfl (nd10.peerHolds hk hpp) (fun w h=>h.1) rfl ?_
   refine go 2 ?_
   refine zw (last_ct hg11 nd10 hR2) ?_
   rintro v12 w12 (hg12:Good _ s6 (A10::os)) hax12 rfl
   refine go 3 ?_
   refine CW.cond rfl (fun h33=>?_) (fun h33=>?_)
   ·
    refine go 5 ?_
    refine zc (post_ct (m:={ Msg.zero with kind:=9,to:=to }) (y:=Lay.none) hg12 nd10 hR2 { MsgOk.zero _ with kind:=by simp[rng],to:=hto } (by show n.o.msgs.length≤_;omega)) ?_
    rintro v13 s13 A13 w13 hle13 (hg13:Good _ s13 (A13::os)) hax13 ⟨rfl,ma13,mc13,nd13⟩
    refine go 6 ?_
    refine CW.ret (zr1 ?_)
    rw[transfer_now hpr hin (eq_of_beq h33)]
    exact Post.mq hg13 ⟨rfl,_,nd13⟩
   ·
    refine go 4 ?_
    refine RL.loads (ad:=(⟨g,0,none⟩:Addr).add (k*3)) (j:=0) rfl rfl rfl rfl ty136.out rfl (nd10.peerHolds hk hpp) (hg12.mem (by simp)) rfl rfl ?_
    refine go 1 ?_
    refine zc (feed_ct hg12 nd10 hR2 hS (nd.peers_rng _ (List.getElem_mem hk)).1 (nd.peers_rng _ (List.getElem_mem hk)).2.1 (by show n.o.msgs.length≤_;omega)) ?_
    rintro v14 s14 A14 w14 hle14 (hg14:Good _ s14 (A14::os)) hax14 ⟨rfl,ma14,mc14,nd14⟩
    refine go 6 ?_
    refine CW.ret (zr1 ?_)
    rw[transfer_feed hpr hin (ne_of_beq_false h33)]
    exact Post.mq hg14 ⟨rfl,_,nd14⟩
def Node.raise (n:Node) (k:Nat) (q:Peer):Node:=n.wPeers (n.s.peers.set k q)
theorem setPeer_at {other:Int} {k:Nat} {q:Peer} (h0:n.s.peers.findIdx? (fun p=>decide (p.node=other))=some k):n.setPeer other (fun _=>q)=n.raise k q:=by
 unfold Node.setPeer
 rw[h0]
 simp only[Node.raise,Node.wPeers]
 congr 2
 refine List.ext_getElem? fun j=>?_
 rw[List.getElem?_modify,List.getElem?_set]
 by_cases hj:k=j
 ·
  subst hj
  have hk:=(List.findIdx?_eq_some_iff_getElem.1 h0).1
  simp[hk]
 ·
  simp[hj]
theorem grown_no {m:Msg} (h0:n.s.role≠4∨n.peer m.frm=none∨n.last<m.index):n.grown m=n:=by
 unfold Node.grown
 cases hp:n.peer m.frm with
 | none=>rfl
 | some q =>
  refine if_pos ?_
  rcases h0 with h | h | h
  ·
   exact .inl h
  ·
   rw[hp] at h;cases h
  ·
   exact .inr h
theorem grown_rej {m:Msg} {q:Peer} {k:Nat} (h0:n.s.role=4) (h1:n.peer m.frm=some q) (h2:¬ n.last<m.index) (h3:m.reject=true) (hix:n.s.peers.findIdx? (fun p=>decide (p.node=m.frm))=some k) (x:Int) (hx:x=if m.hint<m.index then m.hint+1 else max m.index 1) :
  n.grown m=(n.raise k { q with next:=max x (up1 q.mat) }).feed { q with next:=max x (up1 q.mat) }:=by
 subst hx
 unfold Node.grown;rw[h1]
 refine (if_neg (fun z=>z.elim (fun z=>z h0) h2)).trans ((if_pos h3).trans ?_)
 dsimp only
 rw[setPeer_at hix]
def Peer.up (q:Peer) (x:Int):Peer:={ q with mat:=max q.mat x,next:=max q.next (up1 (max q.mat x)) }
noncomputable def Node.after (a b:Node) (q:Peer) (frm:Int):Node :=
 let c:=if a.s.hard.commit<b.s.hard.commit then b.spread else if q.next≤b.last then b.feed q else b
 if a.s.transfer=frm∧q.mat=c.last then c.post { Msg.zero with kind:=9,to:=frm } else c
theorem grown_yes {m:Msg} {q:Peer} {k:Nat} (h0:n.s.role=4) (h1:n.peer m.frm=some q) (h2:¬ n.last<m.index) (h3:¬ m.reject=true) (hix:n.s.peers.findIdx? (fun p=>decide (p.node=m.frm))=some k) :
  n.grown m=if (n.raise k (q.up m.index)).count.s.role≠4 then (n.raise k (q.up m.index)).count else Node.after (n.raise k (q.up m.index)) (n.raise k (q.up m.index)).count (q.up m.index) m.frm:=by
 unfold Node.grown;rw[h1]
 refine (if_neg (fun z=>z.elim (fun z=>z h0) h2)).trans ((if_neg h3).trans ?_)
 simp only[setPeer_at hix]
 rfl
theorem spread_s:n.spread.s=n.s:=Node.feeds_s _ _
theorem grown_ct {m:Msg} {y:Lay} (hg:Good w s (A::os)) (nd:Nd s A p h n) (hR:NRng n) (hr:n.roomy) (hm:MsgOk s m y) :
  Calls Tryz.prog 109 #[ptr p,.agg (msgV m y).toArray] w (NPost w s os p (.tuple #[]) (n.grown m)):=by
 obtain⟨hS,h1,h2,h3,h4⟩:=hr
 have hm1:=hm.index
 have hm2:=hm.hint
 simp only[rng] at hm1 hm2
 refine enter (l:=[ptr p,.agg (msgV m y).toArray]) Tryz.func109 rfl Tryz.ntmps109 rfl ?_
 refine go 3 ?_
 rintro b15 w15 Q15 (hg15:Good _ s (Q15::A::os)) hax15 hb15
 refine go 8 ?_
 refine zw (peer_ct (hg15.front 1 rfl) nd) ?_
 rintro v16 w16 (hg16:Good _ s (A::Q15::os)) hax16 ⟨a12,rfl,hpa⟩
 refine go 5 ?_
 have hg17:=hg16.drew
 refine CW.dw [1,3,5,7,9,11,13,15,17,19,21,23,25,27,28,31,33] (fun w=>At1 p _ w∧At1 b15 _ w∧True) ?_
 refine go 7 ?_
 refine RL.part 19 rfl (fun h19=>?_) (fun h19=>?_)
 ·
  refine go 12 ?_
  refine CW.ret (zr0 ?_)
  exact Post.mq (hg17.dropNext) ⟨rfl,_,nd.to (grown_no (.inl (by simpa using h19))).symm⟩
 ·
  refine go 1 ?_
  refine RL.ptrEq rfl rfl rfl rfl Tryz.underlying162 rfl rfl ?_
  refine go 2 ?_
  refine RL.part 23 rfl (fun h23=>?_) (fun h23=>?_)
  ·
   refine go 8 ?_
   refine CW.ret (zr0 ?_)
   exact Post.mq (hg17.dropNext) ⟨rfl,_,nd.to (grown_no (.inr (.inl (hpa.gone (by simpa using h23))))).symm⟩
  ·
   refine go 4 ?_
   refine zw (last_ct hg17 nd hR) ?_
   rintro v18 w18 (hg18:Good _ s (A::Q15::os)) hax18 rfl
   refine go 4 ?_
   refine CW.cond rfl (fun h29=>?_) (fun h29=>?_)
   ·
    refine CW.ret (zr0 ?_)
    exact Post.mq (hg18.dropNext) ⟨rfl,_,nd.to (grown_no (.inr (.inr (decide_t h29)))).symm⟩
   ·
    have hr4:n.s.role=4:=by simpa using h19
    have hil:=decide_f h29
    obtain⟨g,k,hk,rfl,hpp,hpr,hix⟩:=hpa.there (by simpa using h23)
    have hqr:=nd.peers_rng _ (List.getElem_mem hk)
    refine go 7 ?_
    refine CW.cond rfl (fun h31=>?_) (fun h31=>?_)
    ·
     refine go 4 ?_
     refine RL.max rfl rfl rfl rfl rfl rfl ?_
     rw[one_most]
     refine go 11 ?_
     refine CW.cond rfl (fun h39=>?_) (fun h39=>?_)
     ·
      obtain⟨x,hx0⟩:∃ x,x=m.hint+1:=⟨_,rfl⟩
      have hx:x=if m.hint<m.index then m.hint+1 else max m.index 1:=by rw[hx0,if_pos (decide_t h39)]
      have hxr:rng .u64 x:=by have:=decide_t h39;rw[hx0];simp only[rng];omega
      refine go 3 ?_
      refine RL.add rfl rfl rfl rfl rfl rfl ((by have:=decide_t h39;simp only[rng];omega)) ?_
      refine go 9 ?_
      refine RL.load (j:=2) rfl rfl rfl rfl ty22.out rfl (nd.peerHolds hk hpp) (hg18.mem (by simp)) rfl ?_
      refine RL.as_ rfl rfl rfl rfl (u64 (up1 n.s.peers[k].mat)) (rfl) ?_
      refine RL.max rfl rfl rfl rfl rfl rfl ?_
      rw[max_if,← hx0]
      refine go 2 ?_
      have hur:=up1_rng n.s.peers[k].mat
      have hmr:rng .u64 (max x (up1 n.s.peers[k].mat)):=by rw[Int.max_def];split<;>assumption
      obtain⟨q',hq'⟩:∃ q':Peer,q'={ n.s.peers[k] with next:=max x (up1 n.s.peers[k].mat) }:=⟨_,rfl⟩
      refine RL.storePeer (k:=k) (j:=1) (i:=0) q' rfl rfl rfl ty22.out hk hpp rfl rfl hg18 rfl nd (by omega) (by rw[hq'];rfl) (by rw[hq'];exact⟨hqr.1,hmr,hqr.2.2⟩) ?_
      intro wS AS hgS haxS (ndS:Nd _ AS p _ (n.raise k q'))
      refine go 7 ?_
      have hk2:k<(n.raise k q').s.peers.length:=by simp only[Node.raise,Node.wPeers,List.length_set];exact hk
      have hget:(n.raise k q').s.peers[k]=q':=List.getElem_set_self ..
      have hH:=ndS.peerHolds hk2 hpp
      rw[show (n.raise k q').s.peers[k]=q' from hget] at hH
      refine RL.loads (ad:=(⟨g,0,none⟩:Addr).add (k*3)) (j:=0) rfl rfl rfl rfl ty136.out rfl hH (hgS.mem (by simp)) rfl rfl ?_
      refine go 1 ?_
      refine zc (feed_ct (q:=q') hgS ndS hR hS (by rw[hq'];exact hqr.1) (by rw[hq'];exact hmr) (by show n.o.msgs.length≤_;omega)) ?_
      rintro v19 s19 A19 w19 hle19 (hg19:Good _ s19 (A19::Q15::os)) hax19 ⟨rfl,ma19,mc19,nd19⟩
      have hm:=hm.up hle19
      refine go 2 ?_
      refine CW.ret (zr0 ?_)
      exact Post.mq (hg19.dropNext) ⟨rfl,_,nd19.to (by rw[hq'];exact (grown_rej hr4 hpr hil h31 hix x hx).symm)⟩
     ·
      obtain⟨x,hx0⟩:∃ x,x=max m.index 1:=⟨_,rfl⟩
      have hx:x=if m.hint<m.index then m.hint+1 else max m.index 1:=by rw[hx0,if_neg (decide_f h39)]
      have hxr:rng .u64 x:=by rw[hx0,Int.max_def];simp only[rng];split<;>omega
      refine go 8 ?_
      refine RL.load (j:=2) rfl rfl rfl rfl ty22.out rfl (nd.peerHolds hk hpp) (hg18.mem (by simp)) rfl ?_
      refine RL.as_ rfl rfl rfl rfl (u64 (up1 n.s.peers[k].mat)) (rfl) ?_
      refine RL.max rfl rfl rfl rfl rfl rfl ?_
      rw[max_if,← hx0]
      refine go 2 ?_
      have hur:=up1_rng n.s.peers[k].mat
      have hmr:rng .u64 (max x (up1 n.s.peers[k].mat)):=by rw[Int.max_def];split<;>assumption
      obtain⟨q',hq'⟩:∃ q':Peer,q'={ n.s.peers[k] with next:=max x (up1 n.s.peers[k].mat) }:=⟨_,rfl⟩
      refine RL.storePeer (k:=k) (j:=1) (i:=0) q' rfl rfl rfl ty22.out hk hpp rfl rfl hg18 rfl nd (by omega) (by rw[hq'];rfl) (by rw[hq'];exact⟨hqr.1,hmr,hqr.2.2⟩) ?_
      intro wS AS hgS haxS (ndS:Nd _ AS p _ (n.raise k q'))
      refine go 7 ?_
      have hk2:k<(n.raise k q').s.peers.length:=by simp only[Node.raise,Node.wPeers,List.length_set];exact hk
      have hget:(n.raise k q').s.peers[k]=q':=List.getElem_set_self ..
      have hH:=ndS.peerHolds hk2 hpp
      rw[show (n.raise k q').s.peers[k]=q' from hget] at hH
      refine RL.loads (ad:=(⟨g,0,none⟩:Addr).add (k*3)) (j:=0) rfl rfl rfl rfl ty136.out rfl hH (hgS.mem (by simp)) rfl rfl ?_
      refine go 1 ?_
      refine zc (feed_ct (q:=q') hgS ndS hR hS (by rw[hq'];exact hqr.1) (by rw[hq'];exact hmr) (by show n.o.msgs.length≤_;omega)) ?_
      rintro v20 s20 A20 w20 hle20 (hg20:Good _ s20 (A20::Q15::os)) hax20 ⟨rfl,ma20,mc20,nd20⟩
      have hm:=hm.up hle20
      refine go 2 ?_
      refine CW.ret (zr0 ?_)
      exact Post.mq (hg20.dropNext) ⟨rfl,_,nd20.to (by rw[hq'];exact (grown_rej hr4 hpr hil h31 hix x hx).symm)⟩
    ·
     obtain⟨q1,hq1⟩:∃ q1:Peer,q1={ n.s.peers[k] with mat:=max n.s.peers[k].mat m.index }:=⟨_,rfl⟩
     have hk1:k<(n.raise k q1).s.peers.length:=by simp only[Node.raise,Node.wPeers,List.length_set];exact hk
     have hget1:(n.raise k q1).s.peers[k]=q1:=List.getElem_set_self ..
     have hm1r:rng .u64 q1.mat:=by rw[hq1];show rng .u64 (max n.s.peers[k].mat m.index);rw[Int.max_def];split;exact hm.index;exact hqr.2.2
     have hq1n:q1.node=n.s.peers[k].node:=by rw[hq1]
     have hq1x:q1.next=n.s.peers[k].next:=by rw[hq1]
     have hq1m:q1.mat=max n.s.peers[k].mat m.index:=by rw[hq1]
     refine go 2 ?_
     have hg21:=hg18.drew
     refine CW.dx [1,3,5,7,9,11,13,15,17,19] [20] 10 1 (fun w=>At1 b15 _ w∧In A w∧True) ?_
     refine go 4 ?_
     refine RL.loadT (j:=2) rfl rfl rfl rfl ty22.out rfl (nd.peerHolds hk hpp) (fun w h=>h.2.1) rfl ?_
     refine go 2 ?_
     refine RL.max rfl rfl rfl rfl rfl rfl ?_
     rw[max_if,← hq1m]
     refine go 4 ?_
     refine RL.storePeer (k:=k) (j:=2) (i:=0) q1 rfl rfl rfl ty22.out hk hpp rfl rfl hg21 rfl nd (by omega) (by rw[hq1];rfl) ⟨by rw[hq1n];exact hqr.1,by rw[hq1x];exact hqr.2.1,hm1r⟩ ?_
     intro wT AT hgT haxT (ndT:Nd _ AT p _ (n.raise k q1))
     refine go 3 ?_
     have hg22:=hgT.drew
     refine CW.dx [1,3,5,7,9,11,13,15,17,19,21,23,25] [26] 13 1 (fun w=>In AT w∧True) ?_
     have hH1:=ndT.peerHolds hk1 hpp
     rw[show (n.raise k q1).s.peers[k]=q1 from hget1] at hH1
     refine go 4 ?_
     refine RL.loadT (j:=1) rfl rfl rfl rfl ty22.out rfl (hH1) (fun w h=>h.1) rfl ?_
     refine go 3 ?_
     refine RL.loadT (j:=2) rfl rfl rfl rfl ty22.out rfl (hH1) (fun w h=>h.1) rfl ?_
     refine RL.as_ rfl rfl rfl rfl (u64 (up1 q1.mat)) (rfl) ?_
     refine RL.max rfl rfl rfl rfl rfl rfl ?_
     rw[max_if]
     refine go 4 ?_
     have hur:=up1_rng q1.mat
     have hmr:rng .u64 (max q1.next (up1 q1.mat)):=by rw[Int.max_def];split;assumption;rw[hq1x];exact hqr.2.1
     have hq2:n.s.peers[k].up m.index={ q1 with next:=max q1.next (up1 q1.mat) }:=by rw[hq1];rfl
     refine RL.storePeer (k:=k) (j:=1) (i:=0) (n.s.peers[k].up m.index) rfl rfl rfl ty22.out hk1 hpp rfl rfl hg22 rfl ndT (by omega) (by rw[hget1,hq2];rfl) (by rw[hq2];exact⟨by rw[hq1n];exact hqr.1,hmr,hm1r⟩) ?_
     intro wU AU hgU haxU ndU0
     refine go 1 ?_
     obtain⟨u,hu⟩:∃ u,u=n.raise k (n.s.peers[k].up m.index):=⟨_,rfl⟩
     have ndU:Nd _ AU p _ u:=ndU0.to (by rw[hu];simp only[Node.raise,Node.wPeers,List.set_set])
     have hku:k<u.s.peers.length:=by rw[hu];simp only[Node.raise,Node.wPeers,List.length_set];exact hk
     have hgu:u.s.peers[k]=n.s.peers[k].up m.index:=by simp only[hu];exact List.getElem_set_self ..
     have hH2:=ndU.peerHolds hku hpp
     rw[hgu] at hH2
     have hRu:NRng u:=by rw[hu];exact hR
     have hSu:u.s.log.small:=by rw[hu];exact hS
     have hcs:=confP_small hSu
     have hpu:u.s.peers.length≤4294967296:=by rw[hu];simp only[Node.raise,Node.wPeers,List.length_set];exact h2
     have hmu:u.o.msgs.length≤34359738368:=by rw[hu];exact h3
     have hgy:=grown_yes hr4 hpr hil (show ¬ m.reject=true by rw[h31];decide) hix
     rw[←hu] at hgy
     have hur2:=ndU.peers_rng _ (List.getElem_mem hku)
     rw[hgu] at hur2
     refine go 2 ?_
     have hg23:=hgU.drew
     refine CW.dw [1,3,5,7,9,11,13,15,17,19,21,23,25,27,28,30,32,34] (fun w=>At1 p _ w∧In AU w∧True) ?_
     refine go 13 ?_
     refine RL.loadsT (ad:=(⟨g,0,none⟩:Addr).add (k*3)) (j:=0) rfl rfl rfl rfl ty136.out rfl hH2 (fun w h=>h.2.1) rfl rfl ?_
     refine go 1 ?_
     rintro b24 w24 Q24 (hg24:Good _ s (Q24::AU::Q15::os)) hax24 hb24
     refine go 4 ?_
     rintro w25 Q25 (hg25:Good _ s (Q25::AU::Q15::os)) hax25 hb25
     refine go 5 ?_
     have hRc:=(ndU).count_rng hRu
     have hSc:u.count.s.log.small:=by rw[count_log];exact hSu
     have hpc:u.count.s.peers.length≤4294967296:=by rcases count_peers u with h | h<;>rw[h];exact hpu;simp
     have hmc:u.count.o.msgs.length≤34359738368:=by rw[count_msgs];exact hmu
     refine go 1 ?_
     refine zc (ncount_ct (hg25.front 1 rfl) ndU hRu hSu hcs.1 hpu) ?_
     rintro v26 s26 A26 w26 hle26 (hg26:Good _ s26 (A26::Q25::Q15::os)) hax26 ⟨rfl,h26,nd26⟩
     have hm:=hm.up hle26
     refine go 14 ?_
     refine CW.cond rfl (fun h97=>?_) (fun h97=>?_)
     ·
      refine CW.ret (zr0 ?_)
      exact Post.mq ((hg26.dropNext).dropNext) ⟨rfl,_,nd26.to (hgy.trans (if_pos (by simpa using h97))).symm⟩
     ·
      have hgy:=hgy.trans (if_neg (show ¬ u.count.s.role≠4 by simpa using h97))
      refine go 12 ?_
      refine CW.cond rfl (fun h104=>?_) (fun h104=>?_)
      ·
       obtain⟨c,hc⟩:∃ c,c=u.count.spread:=⟨_,rfl⟩
       have hcc:(if u.s.hard.commit<u.count.s.hard.commit then u.count.spread else if (n.s.peers[k].up m.index).next≤u.count.last then u.count.feed (n.s.peers[k].up m.index) else u.count)=c:=by rw[hc];exact if_pos (decide_t h104)
       have hcs2:c.s=u.count.s:=by rw[hc];exact spread_s
       have hcl:c.o.msgs.length≤68719476736:=by have:=Node.feeds_len u.count.s.peers u.count;rw[hc];show (u.count.feeds u.count.s.peers).o.msgs.length≤_;omega
       refine go 3 ?_
       refine zc (spread_ct hg26 nd26 hRc hSc (by omega)) ?_
       rintro v27 s27 A27 w27 hle27 (hg27:Good _ s27 (A27::Q25::Q15::os)) hax27 ⟨rfl,ma27,mc27,nd27⟩
       have hm:=hm.up hle27
       refine go 3 ?_
       have hg28:=hg27.drew
       refine CW.dw [1,3,5,7,9,11,13,15,16,19,21] (fun w=>At1 b15 _ w∧At1 b24 _ w∧True) ?_
       have ndC:Nd _ A27 p _ c:=nd27.to hc.symm
       have hRcc:NRng c:=hRc.of_s hcs2
       have haf:Node.after u u.count (n.s.peers[k].up m.index) m.frm=if u.s.transfer=m.frm∧(n.s.peers[k].up m.index).mat=c.last then c.post { Msg.zero with kind:=9,to:=m.frm } else c:=by unfold Node.after;simp only[hcc]
       refine go 5 ?_
       refine RL.part 128 rfl (fun h128=>?_) (fun h128=>?_)
       ·
        refine go 4 ?_
        refine zw (last_ct hg28 ndC hRcc) ?_
        rintro v29 w29 (hg29:Good _ s27 (A27::Q25::Q15::os)) hax29 rfl
        refine go 4 ?_
        refine CW.cond rfl (fun h134=>?_) (fun h134=>?_)
        ·
         refine go 6 ?_
         refine zc (post_ct (m:={ Msg.zero with kind:=9,to:=m.frm }) (y:=Lay.none) hg29 ndC hRcc { MsgOk.zero _ with kind:=by simp[rng],to:=hm.frm } hcl) ?_
         rintro v30 s30 A30 w30 hle30 (hg30:Good _ s30 (A30::Q25::Q15::os)) hax30 ⟨rfl,ma30,mc30,nd30⟩
         have hm:=hm.up hle30
         refine go 2 ?_
         refine fall (vs:=[]) rfl ?_
         exact Post.mq ((hg30.dropNext).dropNext) ⟨rfl,_,nd30.to (hgy.trans (haf.trans (if_pos ⟨by simpa using h128,by simpa using h134⟩))).symm⟩
        ·
         refine go 1 ?_
         refine fall (vs:=[]) rfl ?_
         exact Post.mq ((hg29.dropNext).dropNext) ⟨rfl,_,ndC.to (hgy.trans (haf.trans (if_neg (fun z=>by simp[z.2] at h134)))).symm⟩
       ·
        refine go 9 ?_
        refine fall (vs:=[]) rfl ?_
        exact Post.mq ((hg28.dropNext).dropNext) ⟨rfl,_,ndC.to (hgy.trans (haf.trans (if_neg (fun z=>by simp[z.1] at h128)))).symm⟩
      ·
       refine go 1 ?_
       have hg31:=hg26.drew
       refine CW.dw [1,3,5,6,9,10] (fun w=>At1 b24 _ w∧True) ?_
       refine go 4 ?_
       refine zw (last_ct hg31 nd26 hRc) ?_
       rintro v32 w32 (hg32:Good _ s26 (A26::Q25::Q15::os)) hax32 rfl
       refine go 4 ?_
       refine CW.cond rfl (fun h115=>?_) (fun h115=>?_)
       ·
        obtain⟨c,hc⟩:∃ c,c=u.count.feed (n.s.peers[k].up m.index):=⟨_,rfl⟩
        have hcc:(if u.s.hard.commit<u.count.s.hard.commit then u.count.spread else if (n.s.peers[k].up m.index).next≤u.count.last then u.count.feed (n.s.peers[k].up m.index) else u.count)=c:=by rw[hc];exact (if_neg (decide_f h104)).trans (if_pos (decide_t h115))
        have hcs2:c.s=u.count.s:=by rw[hc];exact Node.feed_s _ _
        have hcl:c.o.msgs.length≤68719476736:=by have:=Node.feed_len u.count (n.s.peers[k].up m.index);rw[hc];omega
        refine go 4 ?_
        refine zc (feed_ct (q:=n.s.peers[k].up m.index) hg32 nd26 hRc hSc hur2.1 hur2.2.1 (by omega)) ?_
        rintro v33 s33 A33 w33 hle33 (hg33:Good _ s33 (A33::Q25::Q15::os)) hax33 ⟨rfl,ma33,mc33,nd33⟩
        have hm:=hm.up hle33
        refine go 3 ?_
        have hg34:=hg33.drew
        refine CW.dw [1,3,5,7,9,11,13,15,16,19,21] (fun w=>At1 b15 _ w∧At1 b24 _ w∧True) ?_
        have ndC:Nd _ A33 p _ c:=nd33.to hc.symm
        have hRcc:NRng c:=hRc.of_s hcs2
        have haf:Node.after u u.count (n.s.peers[k].up m.index) m.frm=if u.s.transfer=m.frm∧(n.s.peers[k].up m.index).mat=c.last then c.post { Msg.zero with kind:=9,to:=m.frm } else c:=by unfold Node.after;simp only[hcc]
        refine go 5 ?_
        refine RL.part 128 rfl (fun h128=>?_) (fun h128=>?_)
        ·
         refine go 4 ?_
         refine zw (last_ct hg34 ndC hRcc) ?_
         rintro v35 w35 (hg35:Good _ s33 (A33::Q25::Q15::os)) hax35 rfl
         refine go 4 ?_
         refine CW.cond rfl (fun h134=>?_) (fun h134=>?_)
         ·
          refine go 6 ?_
          refine zc (post_ct (m:={ Msg.zero with kind:=9,to:=m.frm }) (y:=Lay.none) hg35 ndC hRcc { MsgOk.zero _ with kind:=by simp[rng],to:=hm.frm } hcl) ?_
          rintro v36 s36 A36 w36 hle36 (hg36:Good _ s36 (A36::Q25::Q15::os)) hax36 ⟨rfl,ma36,mc36,nd36⟩
          have hm:=hm.up hle36
          refine go 2 ?_
          refine fall (vs:=[]) rfl ?_
          exact Post.mq ((hg36.dropNext).dropNext) ⟨rfl,_,nd36.to (hgy.trans (haf.trans (if_pos ⟨by simpa using h128,by simpa using h134⟩))).symm⟩
         ·
          refine go 1 ?_
          refine fall (vs:=[]) rfl ?_
          exact Post.mq ((hg35.dropNext).dropNext) ⟨rfl,_,ndC.to (hgy.trans (haf.trans (if_neg (fun z=>by simp[z.2] at h134)))).symm⟩
        ·
         refine go 9 ?_
         refine fall (vs:=[]) rfl ?_
         exact Post.mq ((hg34.dropNext).dropNext) ⟨rfl,_,ndC.to (hgy.trans (haf.trans (if_neg (fun z=>by simp[z.1] at h128)))).symm⟩
       ·
        obtain⟨c,hc⟩:∃ c,c=u.count:=⟨_,rfl⟩
        have hcc:(if u.s.hard.commit<u.count.s.hard.commit then u.count.spread else if (n.s.peers[k].up m.index).next≤u.count.last then u.count.feed (n.s.peers[k].up m.index) else u.count)=c:=by rw[hc];exact (if_neg (decide_f h104)).trans (if_neg (decide_f h115))
        have hcs2:c.s=u.count.s:=by rw[hc]
        have hcl:c.o.msgs.length≤68719476736:=by rw[hc];omega
        refine go 2 ?_
        have hg37:=hg32.drew
        refine CW.dw [1,3,5,7,9,11,13,15,16,19,21] (fun w=>At1 b15 _ w∧At1 b24 _ w∧True) ?_
        have ndC:Nd _ A26 p _ c:=nd26.to hc.symm
        have hRcc:NRng c:=hRc.of_s hcs2
        have haf:Node.after u u.count (n.s.peers[k].up m.index) m.frm=if u.s.transfer=m.frm∧(n.s.peers[k].up m.index).mat=c.last then c.post { Msg.zero with kind:=9,to:=m.frm } else c:=by unfold Node.after;simp only[hcc]
        refine go 5 ?_
        refine RL.part 128 rfl (fun h128=>?_) (fun h128=>?_)
        ·
         refine go 4 ?_
         refine zw (last_ct hg37 ndC hRcc) ?_
         rintro v38 w38 (hg38:Good _ s26 (A26::Q25::Q15::os)) hax38 rfl
         refine go 4 ?_
         refine CW.cond rfl (fun h134=>?_) (fun h134=>?_)
         ·
          refine go 6 ?_
          refine zc (post_ct (m:={ Msg.zero with kind:=9,to:=m.frm }) (y:=Lay.none) hg38 ndC hRcc { MsgOk.zero _ with kind:=by simp[rng],to:=hm.frm } hcl) ?_
          rintro v39 s39 A39 w39 hle39 (hg39:Good _ s39 (A39::Q25::Q15::os)) hax39 ⟨rfl,ma39,mc39,nd39⟩
          have hm:=hm.up hle39
          refine go 2 ?_
          refine fall (vs:=[]) rfl ?_
          exact Post.mq ((hg39.dropNext).dropNext) ⟨rfl,_,nd39.to (hgy.trans (haf.trans (if_pos ⟨by simpa using h128,by simpa using h134⟩))).symm⟩
         ·
          refine go 1 ?_
          refine fall (vs:=[]) rfl ?_
          exact Post.mq ((hg38.dropNext).dropNext) ⟨rfl,_,ndC.to (hgy.trans (haf.trans (if_neg (fun z=>by simp[z.2] at h134)))).symm⟩
        ·
         refine go 9 ?_
         refine fall (vs:=[]) rfl ?_
         exact Post.mq ((hg37.dropNext).dropNext) ⟨rfl,_,ndC.to (hgy.trans (haf.trans (if_neg (fun z=>by simp[z.1] at h128)))).symm⟩
end
end Go.Lw
namespace Go.Lw
open Go.Proofs
attribute [local irreducible] RL RA
section
variable {w:World} {s A:Res} {os:List Res} {p:Nat} {h:Hd} {n:Node}
theorem changed_busy {k x:Int} (h0:n.s.hard.commit<(confP n.s.log).2):n.changed k x=((confP n.s.log).1,102):=by unfold Node.changed;rw[if_pos h0]
theorem changed_early {k x:Int} (h0:¬ n.s.hard.commit<(confP n.s.log).2) (h1:(termP n.s.log n.s.hard.commit).1≠n.s.hard.term):n.changed k x=((confP n.s.log).1,104):=by unfold Node.changed;rw[if_neg h0,if_pos h1]
theorem changed_behind {k x:Int} (h0:¬ n.s.hard.commit<(confP n.s.log).2) (h1:¬ (termP n.s.log n.s.hard.commit).1≠n.s.hard.term) (h2:(applyP (confP n.s.log).1 k x).2=0∧k=2∧(∀ p,n.peer x=some p→p.mat<n.s.hard.commit)):n.changed k x=((confP n.s.log).1,103):=by
 unfold Node.changed;rw[if_neg h0,if_neg h1,if_pos h2]
theorem changed_to {k x:Int} (h0:¬ n.s.hard.commit<(confP n.s.log).2) (h1:¬ (termP n.s.log n.s.hard.commit).1≠n.s.hard.term) (h2:¬ ((applyP (confP n.s.log).1 k x).2=0∧k=2∧(∀ p,n.peer x=some p→p.mat<n.s.hard.commit))):n.changed k x=applyP (confP n.s.log).1 k x:=by
 unfold Node.changed;rw[if_neg h0,if_neg h1,if_neg h2]
theorem changed_ct {k x:Int} (hg:Good w s (A::os)) (nd:Nd s A p h n) (hR:NRng n) (hr:n.roomy) (hk:rng .i64 k) (hx:rng .i64 x) :
  Calls Tryz.prog 76 #[ptr p,.agg #[i64 k,i64 x]] w (Post w s (A::os) fun s' _ q=>∃ vs,q = .tuple #[.agg vs.toArray,i64 (n.changed k x).2]∧RConf s' vs (n.changed k x).1):=by
 obtain⟨hS,h1,h2,h3,h4⟩:=hr
 have hcs:=confP_small hS
 refine enter (l:=[ptr p,.agg #[i64 k,i64 x]]) Tryz.func76 rfl Tryz.ntmps76 rfl ?_
 refine go 3 ?_
 rintro b1 w1 Q1 (hg1:Good _ s (Q1::A::os)) hax1 hb1
 refine go 2 ?_
 rintro b2 w2 Q2 (hg2:Good _ s (Q2::Q1::A::os)) hax2 hb2
 refine go 11 ?_
 refine zc (Conf_ct hg2 (.inr (by simp)) (nd.at_ hR) hS) ?_
 rintro v3 s3 B3 w3 hle3 (hg3:Good _ s3 (B3::Q2::Q1::A::os)) hax3 ⟨vs19,rfl,hC⟩
 have hg3:=hg3.drop
 have nd4:=nd.up hle3
 have hC0:=hC
 obtain⟨va,vc,la,lc,rfl,hva,hla⟩:=hC
 have nc:=nd4
 refine go 5 ?_
 rintro b5 w5 Q5 (hg5:Good _ s3 (Q5::Q2::Q1::A::os)) hax5 hb5
 refine go 2 ?_
 rintro w6 Q6 (hg6:Good _ s3 (Q6::Q2::Q1::A::os)) hax6 hb6
 refine go 15 ?_
 refine CW.cond rfl (fun h29=>?_) (fun h29=>?_)
 ·
  refine go 4 ?_
  rintro w7 Q7 (hg7:Good _ s3 (Q6::Q7::Q1::A::os)) hax7 hb7
  refine go 3 ?_
  refine CW.ret (ret (vs:=[_,_]) ⟨_,_,_,rfl,rfl,zl hb7,_,_,rfl,rfl,rfl⟩ ?_)
  rw[changed_busy (decide_t h29)]
  exact Post.mq (((((hg7.front 3 rfl).front 3 rfl).dropAt 2).dropAt 2)) ⟨_,rfl,hC0⟩
 ·
  refine go 3 ?_
  have hg8:=hg6.drew
  refine CW.dw [1,3,5,7,9,11,13,15,17,19,21,22,25,27,29,30,32] (fun w=>At1 p _ w∧True) ?_
  refine go 12 ?_
  refine zw (Term_ct hg8 (.inr (by simp)) (nc.at_ hR) (by have:=hS.2.2.2;omega)) ?_
  rintro v9 w9 (hg9:Good _ s3 (Q6::Q2::Q1::A::os)) hax9 rfl
  refine go 18 ?_
  refine CW.cond rfl (fun h53=>?_) (fun h53=>?_)
  ·
   refine go 4 ?_
   rintro w10 Q10 (hg10:Good _ s3 (Q6::Q10::Q1::A::os)) hax10 hb10
   refine go 3 ?_
   refine CW.ret (ret (vs:=[_,_]) ⟨_,_,_,rfl,rfl,zl hb10,_,_,rfl,rfl,rfl⟩ ?_)
   rw[changed_early (decide_f h29) (by simpa using h53)]
   exact Post.mq (((((hg10.front 3 rfl).front 3 rfl).dropAt 2).dropAt 2)) ⟨_,rfl,hC0⟩
  ·
   have hn1:=decide_f h29
   have hn2:¬ (termP n.s.log n.s.hard.commit).1≠n.s.hard.term:=by simpa using h53
   refine go 5 ?_
   refine RL.callG rfl rfl rfl rfl rfl ca116.out (Apply_ct hg9 hC0 hcs.fits hk hx) ?_
   rintro e58 w58 ⟨v58,s58,B58,A58,rfl,hle58,hg58,hax58,aa,ac,ba,bc,rfl,ho1,ho2⟩
   obtain⟨s59,hg59,hle59,hm59⟩:=hg58.letgo
   obtain⟨s60,hg60,hle60,hm60⟩:=hg59.letgo
   have hAp:RConf s60 [.slice aa (applyP (confP n.s.log).1 k x).1.voters.length ac,.slice ba (applyP (confP n.s.log).1 k x).1.learners.length bc] (applyP (confP n.s.log).1 k x).1:=⟨_,_,_,_,rfl,ho1.imm (RInt.up _) (hle59.trans hle60) hm60,ho2.imm (RInt.up _) (hle59.trans hle60) (hm59.trans hle60)⟩
   have nd60:=nc.up (hle58.trans (hle59.trans hle60))
   have hC0:=RConf.up _ _ _ _ (hle58.trans (hle59.trans hle60)) hC0
   refine⟨_,rfl,trivial,?_⟩
   refine go 4 ?_
   rintro b11 w11 Q11 (hg11:Good _ s60 (Q11::Q6::Q2::Q1::A::os)) hax11 hb11
   refine go 2 ?_
   rintro w12 Q12 (hg12:Good _ s60 (Q12::Q6::Q2::Q1::A::os)) hax12 hb12
   refine go 9 ?_
   refine RL.part 63 rfl (fun h63=>?_) (fun h63=>?_)
   ·
    refine go 5 ?_
    refine CW.cond rfl (fun h67=>?_) (fun h67=>?_)
    ·
     refine go 6 ?_
     refine zw (peer_ct (hg12.front 4 rfl) nd60) ?_
     rintro v13 w13 (hg13:Good _ s60 (A::Q12::Q6::Q2::Q1::os)) hax13 ⟨a71,rfl,hpa⟩
     refine go 4 ?_
     have hg14:=hg13.drew
     refine CW.dw [1,3,5,7,9,11,13,15,17,19,21,23,25,27,29] (fun w=>At1 p _ w∧In A w∧True) ?_
     refine go 1 ?_
     refine RL.ptrEq rfl rfl rfl rfl Tryz.underlying162 rfl rfl ?_
     refine go 1 ?_
     refine RL.part 74 rfl (fun h74=>?_) (fun h74=>?_)
     ·
      refine go 18 ?_
      rintro w15 Q15 (hg15:Good _ s60 (A::Q12::Q6::Q15::Q1::os)) hax15 hb15
      refine go 3 ?_
      refine CW.ret (ret (vs:=[_,_]) ⟨_,_,_,rfl,rfl,zl hb15,_,_,rfl,rfl,rfl⟩ ?_)
      rw[changed_behind hn1 hn2 ⟨by simpa using h63,by simpa using h67,fun q hq=>by rw[hpa.gone (by simpa using h74)] at hq;cases hq⟩]
      exact Post.mk (hle3.trans (hle58.trans (hle59.trans hle60))) (((((hg15.front 4 rfl).dropAt 2).dropAt 2).dropAt 2)) (hax1.trans (hax2.trans (hax3.trans (hax5.trans (hax6.trans ((Aux.drew _).trans (hax9.trans (hax58.trans (hax11.trans (hax12.trans (hax13.trans ((Aux.drew _).trans hax15)))))))))))) ⟨_,rfl,hC0⟩
     ·
      obtain⟨g,j,hj,rfl,hpp,hpr,hix⟩:=hpa.there (by simpa using h74)
      refine go 3 ?_
      refine RL.loadT (j:=2) rfl rfl rfl rfl ty22.out rfl (nd60.peerHolds hj hpp) (fun w h=>h.2.1) rfl ?_
      refine go 9 ?_
      refine CW.cond rfl (fun h86=>?_) (fun h86=>?_)
      ·
       refine go 4 ?_
       rintro w16 Q16 (hg16:Good _ s60 (A::Q12::Q6::Q16::Q1::os)) hax16 hb16
       refine go 3 ?_
       refine CW.ret (ret (vs:=[_,_]) ⟨_,_,_,rfl,rfl,zl hb16,_,_,rfl,rfl,rfl⟩ ?_)
       rw[changed_behind hn1 hn2 ⟨by simpa using h63,by simpa using h67,fun q hq=>by rw[hpr] at hq;cases hq;exact decide_t h86⟩]
       exact Post.mk (hle3.trans (hle58.trans (hle59.trans hle60))) (((((hg16.front 4 rfl).dropAt 2).dropAt 2).dropAt 2)) (hax1.trans (hax2.trans (hax3.trans (hax5.trans (hax6.trans ((Aux.drew _).trans (hax9.trans (hax58.trans (hax11.trans (hax12.trans (hax13.trans ((Aux.drew _).trans hax16)))))))))))) ⟨_,rfl,hC0⟩
      ·
       refine go 6 ?_
       rintro w17 Q17 (hg17:Good _ s60 (A::Q12::Q6::Q17::Q1::os)) hax17 hb17
       refine go 3 ?_
       refine CW.ret (ret (vs:=[_,_]) ⟨_,_,_,rfl,rfl,zl hb17,_,_,rfl,rfl,rfl⟩ ?_)
       rw[changed_to hn1 hn2 (fun z=>decide_f h86 (z.2.2 _ hpr))]
       exact Post.mk (hle3.trans (hle58.trans (hle59.trans hle60))) (((((hg17.front 4 rfl).dropAt 2).dropAt 2).dropAt 2)) (hax1.trans (hax2.trans (hax3.trans (hax5.trans (hax6.trans ((Aux.drew _).trans (hax9.trans (hax58.trans (hax11.trans (hax12.trans (hax13.trans ((Aux.drew _).trans hax17)))))))))))) ⟨_,rfl,hAp⟩
    ·
     refine go 6 ?_
     rintro w18 Q18 (hg18:Good _ s60 (Q12::Q6::Q18::Q1::A::os)) hax18 hb18
     refine go 3 ?_
     refine CW.ret (ret (vs:=[_,_]) ⟨_,_,_,rfl,rfl,zl hb18,_,_,rfl,rfl,rfl⟩ ?_)
     rw[changed_to hn1 hn2 (fun z=>by simp[z.2.1] at h67)]
     exact Post.mk (hle3.trans (hle58.trans (hle59.trans hle60))) ((((((hg18.front 4 rfl).front 4 rfl).dropAt 2).dropAt 2).dropAt 2)) (hax1.trans (hax2.trans (hax3.trans (hax5.trans (hax6.trans ((Aux.drew _).trans (hax9.trans (hax58.trans (hax11.trans (hax12.trans hax18)))))))))) ⟨_,rfl,hAp⟩
   ·
    refine go 12 ?_
    rintro w19 Q19 (hg19:Good _ s60 (Q12::Q6::Q19::Q1::A::os)) hax19 hb19
    refine go 3 ?_
    refine CW.ret (ret (vs:=[_,_]) ⟨_,_,_,rfl,rfl,zl hb19,_,_,rfl,rfl,rfl⟩ ?_)
    rw[changed_to hn1 hn2 (fun z=>by simp[z.1] at h63)]
    exact Post.mk (hle3.trans (hle58.trans (hle59.trans hle60))) ((((((hg19.front 4 rfl).front 4 rfl).dropAt 2).dropAt 2).dropAt 2)) (hax1.trans (hax2.trans (hax3.trans (hax5.trans (hax6.trans ((Aux.drew _).trans (hax9.trans (hax58.trans (hax11.trans (hax12.trans hax19)))))))))) ⟨_,rfl,hAp⟩
def CellAt (p j:Nat) (v:Value) (w:World):Prop:=∃ r vs,Holds r ⟨p,0,none⟩ vs∧In r w∧vs[j]?=some v
theorem RL.loadE {P:Program} {m:Nat} {ops:Array Oper} {Q:Exit→Act→World→Prop} {S:World→Prop} {rest:List (Bool × Oper)} {E:Env} {w:World} {o:Oper} {d:Nat} {x:Operand} {t:TypeId} {q j:Nat} {v:Value} (hg:wants ops E o=some true) (hd:o.dst=some d) (hb:Nat.blt d m=true) (ho:o.op = .load t x) (ht:tyc P t=some (false,1))
  (hx:ev E x=some (.pointer (some ((⟨q,0,none⟩:Addr).add j)))) (hin:∀ w,S w→CellAt q j v w) (hr:RL P m ops Q S rest ((d,v)::E) w):RL P m ops Q S ((true,o)::rest) E w :=
 RL.take hg hd hb (fun w hS=>let ⟨_,_,h1,h2,h3⟩:=hin w hS;Run.load1 ho ht hx h1 h2 h3) hr
theorem asked_follower {i:Inp} (h0:n.s.role≠4):n.asked i=(n,101):=by unfold Node.asked;rw[if_pos h0]
theorem asked_leaving {i:Inp} (h0:¬ n.s.role≠4) (h1:n.s.transfer≠0):n.asked i=(n,102):=by unfold Node.asked;rw[if_neg h0,if_pos h1]
theorem asked_transfer {i:Inp} (h0:¬ n.s.role≠4) (h1:¬ n.s.transfer≠0) (h2:i.kind=5):n.asked i=n.transferTo i.to:=by unfold Node.asked;rw[if_neg h0,if_neg h1,if_pos h2]
theorem asked_not {i:Inp} (h0:¬ n.s.role≠4) (h1:¬ n.s.transfer≠0) (h2:¬ i.kind=5) (h3:i.kind=4) (h4:(n.changed i.chKind i.chNode).2≠0):n.asked i=(n,(n.changed i.chKind i.chNode).2):=by
 unfold Node.asked;rw[if_neg h0,if_neg h1,if_neg h2];simp only[if_pos h3,if_pos h4]
theorem asked_change {i:Inp} (h0:¬ n.s.role≠4) (h1:¬ n.s.transfer≠0) (h2:¬ i.kind=5) (h3:i.kind=4) (h4:¬ (n.changed i.chKind i.chNode).2≠0):n.asked i=(((n.wIndex (up1 n.last)).wOTerm n.s.hard.term).put ⟨0,0,3,[],(n.changed i.chKind i.chNode).1⟩,0):=by
 unfold Node.asked;rw[if_neg h0,if_neg h1,if_neg h2];simp only[if_pos h3,if_neg h4];rfl
theorem asked_data {i:Inp} (h0:¬ n.s.role≠4) (h1:¬ n.s.transfer≠0) (h2:¬ i.kind=5) (h3:¬ i.kind=4):n.asked i=(((n.wIndex (up1 n.last)).wOTerm n.s.hard.term).put ⟨0,0,2,i.data,⟨[],[]⟩⟩,0):=by
 unfold Node.asked;rw[if_neg h0,if_neg h1,if_neg h2];simp only[if_neg h3];rfl
theorem asked_ct {i:Inp} {y:Lay} {da:Option Addr} {dc:Nat} (hg:Good w s (A::os)) (nd:Nd s A p h n) (hR:NRng n) (hr:n.roomy) (hk:rng .i64 i.chKind) (hx:rng .i64 i.chNode) (hto:rng .i64 i.to) (hd:Imm (RInt .u8) 1 s da dc i.data) (hds:i.data.length≤1073741824) (hcn:(n.changed i.chKind i.chNode).1.small) :
  Calls Tryz.prog 37 #[ptr p,.agg (inpV i y da dc).toArray] w (NPost w s os p (i64 (n.asked i).2) (n.asked i).1):=by
 obtain⟨hS,h1,h2,h3,h4⟩:=hr
 have hlr:=(nd.at_ hR).last_rng.1
 have hRo:NRng ((n.wIndex (up1 n.last)).wOTerm n.s.hard.term):=hR
 refine enter (l:=[ptr p,.agg (inpV i y da dc).toArray]) Tryz.func37 rfl Tryz.ntmps37 rfl ?_
 refine go 3 ?_
 rintro b20 w20 Q20 (hg20:Good _ s (Q20::A::os)) hax20 hb20
 refine go 15 ?_
 refine CW.cond rfl (fun h8=>?_) (fun h8=>?_)
 ·
  refine go 4 ?_
  refine CW.ret (zr1 ?_)
  exact Post.mq ((hg20.front 1 rfl).dropNext) ⟨by rw[asked_follower (by simpa using h8)];rfl,_,nd.to (by rw[asked_follower (by simpa using h8)])⟩
 ·
  refine go 10 ?_
  refine CW.cond rfl (fun h15=>?_) (fun h15=>?_)
  ·
   refine go 4 ?_
   refine CW.ret (zr1 ?_)
   exact Post.mq ((hg20.front 1 rfl).dropNext) ⟨by rw[asked_leaving (by simpa using h8) (by simpa using h15)];rfl,_,nd.to (by rw[asked_leaving (by simpa using h8) (by simpa using h15)])⟩
  ·
   refine go 7 ?_
   refine CW.cond rfl (fun h22=>?_) (fun h22=>?_)
   ·
    refine go 6 ?_
    refine zc (transfer_ct (hg20.front 1 rfl) nd hR ⟨hS,h1,h2,h3,h4⟩ hto) ?_
    rintro v21 s21 A21 w21 hle21 (hg21:Good _ s21 (A21::Q20::os)) hax21 ⟨rfl,h21,nd21⟩
    refine go 3 ?_
    refine CW.ret (zr1 ?_)
    exact Post.mq (hg21.dropNext) ⟨by rw[asked_transfer (by simpa using h8) (by simpa using h15) (by simpa using h22)];rfl,_,nd21.to (by rw[asked_transfer (by simpa using h8) (by simpa using h15) (by simpa using h22)])⟩
   ·
    refine go 7 ?_
    rintro b22 w22 Q22 (hg22:Good _ s (Q22::Q20::A::os)) hax22 hb22
    refine go 2 ?_
    rintro w23 Q23 (hg23:Good _ s (Q23::Q20::A::os)) hax23 hb23
    refine go 9 ?_
    refine CW.cond rfl (fun h35=>?_) (fun h35=>?_)
    ·
     refine go 6 ?_
     refine zc (changed_ct (hg23.front 2 rfl) nd hR ⟨hS,h1,h2,h3,h4⟩ hk hx) ?_
     rintro v24 s24 B24 w24 hle24 (hg24:Good _ s24 (B24::A::Q23::Q20::os)) hax24 ⟨vs40,rfl,hC40⟩
     have hg24:=hg24.drop
     have nd25:=nd.up hle24
     obtain⟨va,vc,la,lc,rfl,hva,hla⟩:=hC40
     refine go 5 ?_
     rintro b26 w26 Q26 (hg26:Good _ s24 (Q26::A::Q23::Q20::os)) hax26 hb26
     refine go 2 ?_
     rintro w27 Q27 (hg27:Good _ s24 (Q27::A::Q23::Q20::os)) hax27 hb27
     refine go 9 ?_
     refine CW.cond rfl (fun h44=>?_) (fun h44=>?_)
     ·
      refine go 5 ?_
      refine CW.ret (zr1 ?_)
      exact Post.mq ((((hg27.front 1 rfl).dropNext).dropNext).dropNext) ⟨by rw[asked_not (by simpa using h8) (by simpa using h15) (by simpa using h22) (by simpa using h35) (by simpa using h44)];rfl,_,nd25.to (by rw[asked_not (by simpa using h8) (by simpa using h15) (by simpa using h22) (by simpa using h35) (by simpa using h44)])⟩
     ·
      have hE:REntry s24 [u64 0,u64 0,i64 3,.slice none 0 0,.slice va (n.changed i.chKind i.chNode).1.voters.length vc,.slice la (n.changed i.chKind i.chNode).1.learners.length lc] ⟨0,0,3,[],(n.changed i.chKind i.chNode).1⟩:=⟨none,0,va,vc,la,lc,rfl,by simp[rng],by simp[rng],by simp[rng],Imm.nil _ _ _ (Nat.zero_le _),hva,hla⟩
      have hEs:Entry.small ⟨0,0,3,[],(n.changed i.chKind i.chNode).1⟩:=⟨by simp,hcn⟩
      refine go 5 ?_
      rintro w28 Q28 (hg28:Good _ s24 (Q27::A::Q28::Q20::os)) hax28 hb28
      refine go 3 ?_
      have hg29:=hg28.drew
      refine CW.draws [(true,0),(true,1),(true,2),(true,5),(true,6),(true,7),(true,8),(true,9),(true,10),(false,3),(true,4),(true,11),(true,12),(true,13),(false,14),(true,15),(true,16),(true,17),(false,18)] (fun w=>CellAt p 1 (u64 n.s.hard.term) w∧True) mixed (by kernel_rfl) (by kernel_rfl) (by kernel_rfl) (by kernel_rfl) (⟨⟨_,_,Holds.of nd25.cells,hg29.mem (by simp),rfl⟩,trivial⟩) ?_
      refine go 8 ?_
      refine RL.loadE rfl rfl rfl rfl ty22.out rfl (fun w h=>h.1) ?_
      refine go 1 ?_
      refine zw (last_ct (hg29.front 1 rfl) nd25 hR) ?_
      rintro v30 w30 (hg30:Good _ s24 (A::Q27::Q28::Q20::os)) hax30 rfl
      refine⟨⟨⟨_,_,Holds.of nd25.cells,hg30.mem (by simp),rfl⟩,trivial⟩,?_⟩
      refine RL.as_ rfl rfl rfl rfl (u64 (up1 n.last)) (rfl) ?_
      refine go 3 ?_
      refine RL.sI (p:=p) (i:=0) (j:=25) hg30 (nd25.cells) (NRest.wIndex nd25.rest) ?_
      rintro w31 A31 (hg31:Good _ s24 (A31::Q27::Q28::Q20::os)) hax31 nd31
      refine⟨⟨⟨_,_,Holds.of nd31.cells,hg31.mem (by simp),rfl⟩,trivial⟩,?_⟩
      refine go 3 ?_
      refine RL.sI (p:=p) (i:=0) (j:=26) hg31 (nd31.cells) (NRest.wOTerm nd31.rest) ?_
      rintro w32 A32 (hg32:Good _ s24 (A32::Q27::Q28::Q20::os)) hax32 nd32
      refine⟨⟨⟨_,_,Holds.of nd32.cells,hg32.mem (by simp),rfl⟩,trivial⟩,?_⟩
      refine go 6 ?_
      refine zc (nput_ct hg32 nd32 hRo hS hE hEs h1 h2 h3 h4) ?_
      rintro v33 s33 A33 w33 hle33 (hg33:Good _ s33 (A33::Q27::Q28::Q20::os)) hax33 ⟨rfl,h33,nd33⟩
      refine go 6 ?_
      refine CW.ret (zr1 ?_)
      exact Post.mq (((hg33.dropNext).dropNext).dropNext) ⟨by rw[asked_change (by simpa using h8) (by simpa using h15) (by simpa using h22) (by simpa using h35) (by simpa using h44)];rfl,_,nd33.to (by rw[asked_change (by simpa using h8) (by simpa using h15) (by simpa using h22) (by simpa using h35) (by simpa using h44)])⟩
    ·
     have hE:REntry s [u64 0,u64 0,i64 2,.slice da i.data.length dc,.slice none 0 0,.slice none 0 0] ⟨0,0,2,i.data,⟨[],[]⟩⟩:=⟨da,dc,none,0,none,0,rfl,by simp[rng],by simp[rng],by simp[rng],hd,Imm.nil _ _ _ (Nat.zero_le _),Imm.nil _ _ _ (Nat.zero_le _)⟩
     have hEs:Entry.small ⟨0,0,2,i.data,⟨[],[]⟩⟩:=⟨hds,by simp[Conf.small]⟩
     refine go 2 ?_
     have hg34:=hg23.drew
     refine CW.draws [(true,0),(true,1),(true,2),(true,5),(true,6),(true,7),(true,8),(true,9),(true,10),(false,3),(true,4),(true,11),(true,12),(true,13),(false,14),(true,15),(true,16),(true,17),(false,18)] (fun w=>CellAt p 1 (u64 n.s.hard.term) w∧True) mixed (by kernel_rfl) (by kernel_rfl) (by kernel_rfl) (by kernel_rfl) (⟨⟨_,_,Holds.of nd.cells,hg34.mem (by simp),rfl⟩,trivial⟩) ?_
     refine go 8 ?_
     refine RL.loadE rfl rfl rfl rfl ty22.out rfl (fun w h=>h.1) ?_
     refine go 1 ?_
     refine zw (last_ct (hg34.front 2 rfl) nd hR) ?_
     rintro v35 w35 (hg35:Good _ s (A::Q23::Q20::os)) hax35 rfl
     refine⟨⟨⟨_,_,Holds.of nd.cells,hg35.mem (by simp),rfl⟩,trivial⟩,?_⟩
     refine RL.as_ rfl rfl rfl rfl (u64 (up1 n.last)) (rfl) ?_
     refine go 3 ?_
     refine RL.sI (p:=p) (i:=0) (j:=25) hg35 (nd.cells) (NRest.wIndex nd.rest) ?_
     rintro w36 A36 (hg36:Good _ s (A36::Q23::Q20::os)) hax36 nd36
     refine⟨⟨⟨_,_,Holds.of nd36.cells,hg36.mem (by simp),rfl⟩,trivial⟩,?_⟩
     refine go 3 ?_
     refine RL.sI (p:=p) (i:=0) (j:=26) hg36 (nd36.cells) (NRest.wOTerm nd36.rest) ?_
     rintro w37 A37 (hg37:Good _ s (A37::Q23::Q20::os)) hax37 nd37
     refine⟨⟨⟨_,_,Holds.of nd37.cells,hg37.mem (by simp),rfl⟩,trivial⟩,?_⟩
     refine go 6 ?_
     refine zc (nput_ct hg37 nd37 hRo hS hE hEs h1 h2 h3 h4) ?_
     rintro v38 s38 A38 w38 hle38 (hg38:Good _ s38 (A38::Q23::Q20::os)) hax38 ⟨rfl,h38,nd38⟩
     refine go 6 ?_
     refine CW.ret (zr1 ?_)
     exact Post.mq ((hg38.dropNext).dropNext) ⟨by rw[asked_data (by simpa using h8) (by simpa using h15) (by simpa using h22) (by simpa using h35)];rfl,_,nd38.to (by rw[asked_data (by simpa using h8) (by simpa using h15) (by simpa using h22) (by simpa using h35)])⟩
end
end Go.Lw
namespace Go.Lw
open Go.Proofs
attribute [local irreducible] RL RA
structure RaftAt (s:Res) (r:Raft) (h:Hd):Prop where
 log:LogAt s s r.log h
 ballots:Imm RBallot 2 s h.ba h.bc r.ballots
 peers:Imm RPeer 3 s h.pa h.pc r.peers
 part:Imm (RInt .u8) 1 s h.ta h.tc r.part.data
theorem RaftAt.up {s s':Res} {r:Raft} {h:Hd} (k:RaftAt s r h) (hl:Le s s'):RaftAt s' r h :=
 ⟨(k.log.up hl).mem hl,k.ballots.up RBallot.up hl,k.peers.up RPeer.up hl,k.part.up (RInt.up _) hl⟩
theorem NRest.raftAt {s A:Res} {h:Hd} {n:Node} (k:NRest s A h n) (hR:NRng n) {s1:Res} (hl:Le s s1) (hm:Le A s1):RaftAt s1 n.s h :=
 let ⟨a,b,c,d,e,f,g,_,_,_⟩:=k
 ⟨⟨hR.2.2.2.2.1,hR.2.2.2.2.2,a.up (RInt.up _) hl,b.up (RInt.up _) hl,c.up (RInt.up _) hl,d.imm REntry.up hl hm⟩,e.imm RBallot.up hl hm,f.imm RPeer.up hl hm,g.up (RInt.up _) hl⟩
section
variable {w:World} {s:Res} {os:List Res}
theorem copiedR_ct {q:Res} {r:Raft} {h:Hd} (hg:Good w s os) (hq:q=s∨q∈os) (hl:LogAt q s r.log h) (hb:Imm RBallot 2 s h.ba h.bc r.ballots) (hp:Imm RPeer 3 s h.pa h.pc r.peers) (ht:Imm (RInt .u8) 1 s h.ta h.tc r.part.data) (hS:r.log.small) (hbl:r.ballots.length≤68719476736) (hpl:r.peers.length≤4294967296) (htl:r.part.data.length≤70368744177664) :
  Calls Tryz.prog 33 #[.agg (raftV r h).toArray] w (Post w s os fun s' A q=>∃ h',q = .agg (raftV r h').toArray∧NRest s' A h' ⟨r,Out.zero⟩):=by
 obtain⟨hS1,hS2,hS3,hS4⟩:=hS
 have hE0:=hl.entries
 refine enter (l:=[.agg (raftV r h).toArray]) Tryz.func33 rfl Tryz.ntmps33 rfl ?_
 refine go 3 ?_
 rintro b1 w1 Q1 (hg1:Good _ s (Q1::os)) hax1 hb1
 refine go 2 ?_
 rintro b2 w2 Q2 (hg2:Good _ s (Q2::Q1::os)) hax2 hb2
 refine go 3 ?_
 have hg3:=hg2.drew
 refine CW.dx [1,3,5,7,11,13,15,17,8,21,23,25,18] [26,29,31,33,34] 13 5 (fun w=>At1 b1 _ w∧True) ?_
 refine go 9 ?_
 refine zc (CloneB_ct hg3 (.inl rfl) hl.data.2.2 (by omega)) ?_
 rintro v4 s4 B4 w4 hle4 (hg4:Good _ s4 (B4::Q2::Q1::os)) hax4 ⟨-,a8,c8,rfl,ho8⟩
 have hl:=hl.up hle4
 have hb:=hb.up RBallot.up hle4
 have hp:=hp.up RPeer.up hle4
 have ht:=ht.up (RInt.up _) hle4
 obtain⟨t4,hgl4,hll4,hml4⟩:=hg4.letgo
 have hg4:Good _ t4 (Q2::Q1::os):=hgl4
 have hl:=hl.up hll4
 have hb:=hb.up RBallot.up hll4
 have hp:=hp.up RPeer.up hll4
 have ht:=ht.up (RInt.up _) hll4
 have hd8:=ho8.imm (RInt.up _) hll4 hml4
 refine go 5 ?_
 refine zc (conf_core_ct hg4 hl.voters hl.learners hS1) ?_
 rintro v5 s5 B5 w5 hle5 (hg5:Good _ s5 (B5::Q2::Q1::os)) hax5 ⟨vs13,rfl,hR13⟩
 have hg5:=hg5.drop
 have hl:=hl.up hle5
 have hb:=hb.up RBallot.up hle5
 have hp:=hp.up RPeer.up hle5
 have ht:=ht.up (RInt.up _) hle5
 have hd8:=hd8.up (RInt.up _) hle5
 obtain⟨va,vc,la,lc,rfl,hva,hla⟩:=hR13
 refine go 4 ?_
 rintro w6 Q6 (hg6:Good _ s5 (Q2::Q6::os)) hax6 hb6
 refine go 5 ?_
 rintro w7 Q7 (hg7:Good _ s5 (Q2::Q7::os)) hax7 hb7
 refine go 7 ?_
 obtain⟨qq,hqq,hEE⟩:=hE0.grow REntry.up hq ((hle4.trans (hll4.trans hle5)))
 refine go 1 ?_
 refine zc (CloneE_ct hg7 (hqq.imp id fun z=>by simp[z]) hEE.2.2 (by omega)) ?_
 rintro v8 s8 Q8 w8 hle8 (hg8:Good _ s8 (Q8::Q2::Q7::os)) hax8 ⟨hs23,a23,c23,rfl,ho23⟩
 have hl:=hl.up hle8
 have hb:=hb.up RBallot.up hle8
 have hp:=hp.up RPeer.up hle8
 have ht:=ht.up (RInt.up _) hle8
 have hd8:=hd8.up (RInt.up _) hle8
 have hva:=hva.up (RInt.up _) hle8
 have hla:=hla.up (RInt.up _) hle8
 refine go 4 ?_
 rintro w9 Q9 (hg9:Good _ s8 (Q8::Q2::Q9::os)) hax9 hb9
 refine go 12 ?_
 have hc1:Q9 b1=some (.cells (raftV r ⟨va,vc,la,lc,a8,c8,a23,c23,h.ba,h.bc,h.pa,h.pc,h.ta,h.tc,none,0,none,0⟩).toArray 44 (0,0)):=hb9
 refine CW.loop (σ:=Nat) (fun j E w'=>∃ s' Y',∃ k:Nat,Good w' s' (Y'::Q9::Q2::os)∧Aux w w'∧Le s8 s'∧E=[(1,ptr b1),(2,ptr b2),(29,i64 r.log.entries.length),(30,i64 k)]∧k+j=r.log.entries.length∧Own REntry 6 65 s' Y' a23 c23 r.log.entries) (fun j=>j) r.log.entries.length [(1,ptr b1),(2,ptr b2),(29,i64 r.log.entries.length),(30,i64 0)] ⟨rfl,rfl,rfl,rfl,trivial⟩ ⟨_,_,0,(((hg9.front 1 rfl).front 2 rfl).front 2 rfl),(hax1.trans (hax2.trans ((Aux.drew _).trans (hax4.trans (hax5.trans (hax6.trans (hax7.trans (hax8.trans hax9)))))))),Le.refl _,rfl,by omega,ho23⟩ ?_
 rintro j E wL ⟨sL,YL,k,hgL,haxL,hleL,rfl,hk,hoL⟩
 have hl:=hl.up hleL
 have hb:=hb.up RBallot.up hleL
 have hp:=hp.up RPeer.up hleL
 have ht:=ht.up (RInt.up _) hleL
 have hd8:=hd8.up (RInt.up _) hleL
 have hva:=hva.up (RInt.up _) hleL
 have hla:=hla.up (RInt.up _) hleL
 have hleT:=((hle4.trans (hll4.trans (hle5.trans hle8)))).trans hleL
 refine go 5 ?_
 refine CW.cond rfl (fun h31=>?_) (fun h31=>?_)
 ·
  refine go 8 ?_
  have hg10:=hgL.drew
  refine CW.dx [1,3,5,7,9,11,13,15,17,19,20,23] [24] 12 1 (fun w=>At1 b1 _ w∧In YL w∧True) ?_
  refine go 6 ?_
  have hlt:k<r.log.entries.length:=by have:=decide_t h31;omega
  refine go 2 ?_
  refine RL.idxL rfl rfl rfl rfl sl31.out rfl rfl hoL.lies (by omega) (by omega) ?_
  rintro q vs hvl hH hE
  have hE2:=hE
  obtain⟨ea,ec,ea1,ec1,ea2,ec2,rfl,er1,er2,er3,eh1,eh2,eh3⟩:=hE2
  refine RL.loadsT (j:=0) (us:=_) rfl rfl rfl rfl ty65.out rfl (hH) (fun w h=>h.2.1) rfl rfl ?_
  refine go 1 ?_
  refine zc (entry_core_ct hg10 hE (hS3 _ (List.getElem_mem _))) ?_
  rintro v11 s11 B11 w11 hle11 (hg11:Good _ s11 (B11::YL::Q9::Q2::os)) hax11 ⟨us,rfl,hU⟩
  have hg11:=hg11.drop
  have hoL:=hoL.up REntry.up hle11
  have hul:us.length=6:=by obtain⟨_,_,_,_,_,_,rfl,_⟩:=hU;rfl
  refine go 1 ?_
  refine RL.idxOwn rfl rfl rfl rfl sl31.out rfl rfl hoL (by omega) (by omega) ?_
  rintro g' cs vs' hb' hA' hcs hvl' hcell _
  subst hb'
  have hset:=hoL.set hA' hlt hul hU
  rw[show r.log.entries.set k r.log.entries[((k:Nat):Int).toNat]=r.log.entries from List.set_getElem_self hlt] at hset
  have hcs:cs.size=c23*6:=hcs
  have hlc:r.log.entries.length≤c23:=hoL.lies.1
  have hfit:k*6+6≤cs.size:=by rw[hcs];omega
  refine go 2 ?_
  refine RL.store (i:=0) (j:=k*6) rfl rfl rfl ty65.out rfl rfl hg11 rfl hA' (by simpa [Value.cells] using hul) (by obtain⟨_,_,_,_,_,_,rfl,_⟩:=hU;simp[Value.cells,Value.oneCell']) hfit ?_
  intro ws hgs haxs
  refine go 6 ?_
  cases j with
  | zero=>omega
  | succ j=>exact fun ac ha=>⟨j,[(1,ptr b1),(2,ptr b2),(29,i64 r.log.entries.length),(30,i64 ((k:Int)+1))],ha.sub ⟨rfl,rfl,rfl,rfl,trivial⟩,⟨_,_,k+1,hgs,((haxL.trans ((Aux.drew _).trans hax11))).trans haxs,hleL.trans hle11,rfl,by omega,hset⟩,Nat.lt_succ_self j⟩
 ·
  refine go 2 ?_
  have hg12:=hgL.drew
  refine CW.dx [1,3,7,9,13,15,17,4,21,10,18] [22,25,26,29,31,32] 11 6 (fun w=>At1 b1 _ w∧True) ?_
  refine go 8 ?_
  refine zc (CloneBl_ct hg12 (.inl rfl) hb.2.2 (by omega)) ?_
  rintro v13 s13 Q13 w13 hle13 (hg13:Good _ s13 (Q13::YL::Q9::Q2::os)) hax13 ⟨-,a48,c48,rfl,ho48⟩
  have hl:=hl.up hle13
  have hb:=hb.up RBallot.up hle13
  have hp:=hp.up RPeer.up hle13
  have ht:=ht.up (RInt.up _) hle13
  have hd8:=hd8.up (RInt.up _) hle13
  have hva:=hva.up (RInt.up _) hle13
  have hla:=hla.up (RInt.up _) hle13
  have hoL:=hoL.up REntry.up hle13
  refine go 3 ?_
  refine zc (ClonePe_ct hg13 (.inl rfl) hp.2.2 (by omega)) ?_
  rintro v14 s14 Q14 w14 hle14 (hg14:Good _ s14 (Q14::Q13::YL::Q9::Q2::os)) hax14 ⟨-,a51,c51,rfl,ho51⟩
  have hl:=hl.up hle14
  have hb:=hb.up RBallot.up hle14
  have hp:=hp.up RPeer.up hle14
  have ht:=ht.up (RInt.up _) hle14
  have hd8:=hd8.up (RInt.up _) hle14
  have hva:=hva.up (RInt.up _) hle14
  have hla:=hla.up (RInt.up _) hle14
  have hoL:=hoL.up REntry.up hle14
  have ho48:=ho48.up RBallot.up hle14
  refine go 2 ?_
  refine zc (CloneB_ct hg14 (.inl rfl) ht.2.2 (by omega)) ?_
  rintro v15 s15 B15 w15 hle15 (hg15:Good _ s15 (B15::Q14::Q13::YL::Q9::Q2::os)) hax15 ⟨-,a55,c55,rfl,ho55⟩
  have hl:=hl.up hle15
  have hb:=hb.up RBallot.up hle15
  have hp:=hp.up RPeer.up hle15
  have ht:=ht.up (RInt.up _) hle15
  have hd8:=hd8.up (RInt.up _) hle15
  have hva:=hva.up (RInt.up _) hle15
  have hla:=hla.up (RInt.up _) hle15
  have hoL:=hoL.up REntry.up hle15
  have ho48:=ho48.up RBallot.up hle15
  have ho51:=ho51.up RPeer.up hle15
  obtain⟨t15,hgl15,hll15,hml15⟩:=hg15.letgo
  have hg15:Good _ t15 (Q14::Q13::YL::Q9::Q2::os):=hgl15
  have hl:=hl.up hll15
  have hb:=hb.up RBallot.up hll15
  have hp:=hp.up RPeer.up hll15
  have ht:=ht.up (RInt.up _) hll15
  have hd8:=hd8.up (RInt.up _) hll15
  have hva:=hva.up (RInt.up _) hll15
  have hla:=hla.up (RInt.up _) hll15
  have hoL:=hoL.up REntry.up hll15
  have ho48:=ho48.up RBallot.up hll15
  have ho51:=ho51.up RPeer.up hll15
  have ht55:=ho55.imm (RInt.up _) hll15 hml15
  refine go 4 ?_
  rintro w16 Q16 (hg16:Good _ t15 (Q14::Q13::YL::Q16::Q2::os)) hax16 hb16
  refine go 3 ?_
  rintro w17 Q17 (hg17:Good _ t15 (Q14::Q13::YL::Q17::Q2::os)) hax17 hb17
  refine go 4 ?_
  rintro w18 Q18 (hg18:Good _ t15 (Q14::Q13::YL::Q18::Q2::os)) hax18 hb18
  refine go 6 ?_
  rintro w19 Q19 (hg19:Good _ t15 (Q14::Q13::YL::Q18::Q19::os)) hax19 hb19
  refine go 2 ?_
  refine CW.ret (ret (vs:=[_]) ⟨_,_,_,rfl,rfl,zl hb19,rfl⟩ ?_)
  have hK:=((((hg19.front 1 rfl).front 2 rfl).dropAt 3).dropAt 3)
  have hK2:=hK.join
  have e1:=Res.le_join_left YL Q13
  have e2:=Res.le_join_right (r:=YL) (Apart.of2 hK)
  have e3:=Res.le_join_left (YL.join Q13) Q14
  have e4:=Res.le_join_right (r:=YL.join Q13) (Apart.of2 hK2)
  exact Post.mk (hleT.trans (hle13.trans (hle14.trans (hle15.trans hll15)))) hK2.join (haxL.trans ((Aux.drew _).trans (hax13.trans (hax14.trans (hax15.trans (hax16.trans (hax17.trans (hax18.trans hax19)))))))) ⟨⟨va,vc,la,lc,a8,c8,a23,c23,a48,c48,a51,c51,a55,c55,none,0,none,0⟩,rfl,hva,hla,hd8,(hoL.mem e1).mem e3,(ho48.mem e2).mem e3,ho51.mem e4,ht55,Own.nil _ _ _ _ _,Own.nil _ _ _ _ _,Dj.none_right _⟩
theorem copied_ct {r:Raft} {h:Hd} (hg:Good w s os) (hr:RaftAt s r h) (hS:r.log.small) (hbl:r.ballots.length≤68719476736) (hpl:r.peers.length≤4294967296) (htl:r.part.data.length≤70368744177664) :
  Calls Tryz.prog 33 #[.agg (raftV r h).toArray] w (Post w s os fun s' A q=>∃ h',q = .agg (raftV r h').toArray∧NRest s' A h' ⟨r,Out.zero⟩) :=
 copiedR_ct hg (.inl rfl) hr.log hr.ballots hr.peers hr.part hS hbl hpl htl
end
end Go.Lw
namespace Go.Lw
open Go.Proofs
attribute [local irreducible] RL RA
section
variable {P:Program} {n:Nat} {ops:Array Oper} {Q:Exit→Act→World→Prop} {S:World→Prop} {rest:List (Bool × Oper)} {E:Env} {w:World} {o:Oper} {d:Nat} {v:Value} {x y:Operand} {T:Bool}
def IsF (v:Value):Prop:=v = .nilFunc∨∃ f a b,v = .func f a b
def isNilF:Value→Bool
 | .nilFunc=>true
 | _=>false
theorem RL.fnEq {t yt:TypeId} {pp rr:Array TypeId} {vd:Bool} (hg:wants ops E o=some true) (hd:o.dst=some d) (hb:Nat.blt d n=true) (ho:o.op = .binOp .eql t x y yt) (ht:P.underlying t=some (.func pp rr vd))
  (hx:ev E x=some v) (hv:IsF v) (hy:ev E y=some .nilFunc) (h:RL P n ops Q S rest ((d,.bool (isNilF v))::E) w):RL P n ops Q S ((T,o)::rest) E w:=by
 refine RL.val hg hd hb (fun w ac ha=>?_) h
 have hgd:(eqGuard .eql t x y v .nilFunc).run P w = .ok () w:=by unfold eqGuard;rcases hv with rfl | ⟨f,a,b,rfl⟩<;>rfl
 unfold execOp
 simp only[ho,ha.ev hx,ha.ev hy,Sem.run_bind,hgd,Result.andThen_ok]
 have h2:(Op.equal t v .nilFunc).run P w = .ok (isNilF v) w:=by
  have h:∀ d:Nat,(Op.equalIn (d+1) t v .nilFunc).run P w = .ok (isNilF v) w:=fun d=>by
   rcases hv with rfl | ⟨f,a,b,rfl⟩<;>simp[Op.equalIn,run_underlying ht,isNilF]
  simp only[Op.equal,Op.maxDepth]
  exact h 9999
 rcases hv with rfl | ⟨f,a,b,rfl⟩<;>simp only[binOp]<;>simp[h2]
end
def heardF (k:Int):Option FuncId :=
 if k=3 then some 106 else if k=4 then some 107 else if k=5 then some 108 else if k=6 then some 109
 else if k=7 then some 110 else if k=8 then some 111 else if k=9 then some 112 else none
def fnV (p:Nat):Option FuncId→Value
 | none=> .nilFunc
 | some f=> .func (.func f) #[ptr p] #[]
theorem fnV_is (p:Nat) (f:Option FuncId):IsF (fnV p f):=by cases f;exact .inl rfl;exact .inr ⟨_,_,_,rfl⟩
theorem fnV_nil {p:Nat} {f:Option FuncId} (h:isNilF (fnV p f)=true):f=none:=by cases f;rfl;cases h
theorem fnV_not {p:Nat} {f:Option FuncId} (h:isNilF (fnV p f)=false):∃ g,f=some g:=by cases f;cases h;exact⟨_,rfl⟩
def Node.takes (n:Node) (m:Msg):Prop:=n.roomy∧n.s.ballots.length≤68719476736∧n.s.log.entries.length+m.entries.length≤1099511627776∧n.s.part.data.length+m.data.length≤70368744177664∧m.small
theorem Node.takes.follow {n:Node} {m:Msg} {t l:Int} (h:n.takes m):(n.follow t l).takes m:=by
 obtain⟨⟨h1,h2,h3,h4,h5⟩,h6,h7,h8,h9⟩:=h
 exact⟨⟨h1,h2,by simp[Node.follow],h4,h5⟩,by simp[Node.follow],h7,h8,h9⟩
theorem heard_acts {k:Int} {f:FuncId} (hf:heardF k=some f):callable Tryz.prog f=true∧∀ {w:World} {s A:Res} {os:List Res} {p:Nat} {h:Hd} {n:Node} {m:Msg} {y:Lay},m.kind=k→Good w s (A::os)→Nd s A p h n→NRng n→n.takes m→MsgOk s m y→m.index<p61 →
  Calls Tryz.prog f #[ptr p,.agg (msgV m y).toArray] w (NPost w s os p (.tuple #[]) (n.heard m)):=by
 unfold heardF at hf
 split at hf
 ·
  rename_i hk;cases hf
  exact⟨rfl,fun {w s A os p h n m y} hm hg nd hR ht hok hi=>by
   rw[show n.heard m=n.vote m by unfold Node.heard;rw[if_pos (by omega)]]
   exact vote_ct hg nd hR ht.1 hok⟩
 split at hf
 ·
  rename_i hk;cases hf
  exact⟨rfl,fun {w s A os p h n m y} hm hg nd hR ht hok hi=>by
   rw[show n.heard m=n.voted m by unfold Node.heard;rw[if_neg (by omega),if_pos (by omega)]]
   exact voted_ct hg nd hR ht.1 ht.2.1 hok⟩
 split at hf
 ·
  rename_i hk;cases hf
  exact⟨rfl,fun {w s A os p h n m y} hm hg nd hR ht hok hi=>by
   rw[show n.heard m=n.grow m by unfold Node.heard;rw[if_neg (by omega),if_neg (by omega),if_pos (by omega)]]
   exact grow_ct hg nd hR ht.1 hok ht.2.2.2.2 hi ht.2.2.1⟩
 split at hf
 ·
  rename_i hk;cases hf
  exact⟨rfl,fun {w s A os p h n m y} hm hg nd hR ht hok hi=>by
   rw[show n.heard m=n.grown m by unfold Node.heard;rw[if_neg (by omega),if_neg (by omega),if_neg (by omega),if_pos (by omega)]]
   exact grown_ct hg nd hR ht.1 hok⟩
 split at hf
 ·
  rename_i hk;cases hf
  exact⟨rfl,fun {w s A os p h n m y} hm hg nd hR ht hok hi=>by
   rw[show n.heard m=n.chunk m by unfold Node.heard;rw[if_neg (by omega),if_neg (by omega),if_neg (by omega),if_neg (by omega),if_pos (by omega)]]
   exact chunk_ct hg nd hR ht.1 hok ht.2.2.2.2 ht.2.2.2.1⟩
 split at hf
 ·
  rename_i hk;cases hf
  exact⟨rfl,fun {w s A os p h n m y} hm hg nd hR ht hok hi=>by
   rw[show n.heard m=n.chunked m by unfold Node.heard;rw[if_neg (by omega),if_neg (by omega),if_neg (by omega),if_neg (by omega),if_neg (by omega),if_pos (by omega)]]
   exact chunked_ct hg nd hR ht.1 hok⟩
 split at hf
 ·
  rename_i hk;cases hf
  exact⟨rfl,fun {w s A os p h n m y} hm hg nd hR ht hok hi=>by
   rw[show n.heard m=n.now by unfold Node.heard;rw[if_neg (by omega),if_neg (by omega),if_neg (by omega),if_neg (by omega),if_neg (by omega),if_neg (by omega)]]
   exact now_ct hg nd hR ht.1⟩
 ·
  cases hf
theorem heardF_none {k:Int} (h:heardF k=none):k<3∨9<k:=Classical.byContradiction fun hc=>by
 have:k=3∨k=4∨k=5∨k=6∨k=7∨k=8∨k=9:=by omega
 rcases this with rfl | rfl | rfl | rfl | rfl | rfl | rfl<;>simp[heardF] at h
theorem heardF_some {k:Int} {f:FuncId} (h:heardF k=some f):¬ (k<3∨9<k):=by
 unfold heardF at h
 repeat' split at h
 all_goals first | omega | cases h
section
variable {w:World} {s A:Res} {os:List Res} {p:Nat} {h:Hd} {n:Node}
theorem heard_ct {k:Int} (hg:Good w s os) :
  Calls Tryz.prog 72 #[ptr p,i64 k] w (PostV w s os fun q=>q=fnV p (heardF k)):=by
 refine enter (l:=[ptr p,i64 k]) Tryz.func72 rfl Tryz.ntmps72 rfl ?_
 refine go 15 ?_
 refine CW.cond rfl (fun h6=>?_) (fun h6=>?_)
 ·
  refine go 3 ?_
  refine RL.makeB rfl rfl rfl rfl rfl rfl ?_
  refine go 2 ?_
  refine CW.ret (zr1 ?_)
  refine PostV.mq hg ?_
  simp_all [heardF,fnV]
  rfl
 ·
  refine go 5 ?_
  refine CW.cond rfl (fun h10=>?_) (fun h10=>?_)
  ·
   refine go 3 ?_
   refine RL.makeB rfl rfl rfl rfl rfl rfl ?_
   refine go 2 ?_
   refine CW.ret (zr1 ?_)
   refine PostV.mq hg ?_
   simp_all [heardF,fnV]
   rfl
  ·
   refine go 5 ?_
   refine CW.cond rfl (fun h14=>?_) (fun h14=>?_)
   ·
    refine go 3 ?_
    refine RL.makeB rfl rfl rfl rfl rfl rfl ?_
    refine go 2 ?_
    refine CW.ret (zr1 ?_)
    refine PostV.mq hg ?_
    simp_all [heardF,fnV]
    rfl
   ·
    refine go 5 ?_
    refine CW.cond rfl (fun h18=>?_) (fun h18=>?_)
    ·
     refine go 3 ?_
     refine RL.makeB rfl rfl rfl rfl rfl rfl ?_
     refine go 2 ?_
     refine CW.ret (zr1 ?_)
     refine PostV.mq hg ?_
     simp_all [heardF,fnV]
     rfl
    ·
     refine go 5 ?_
     refine CW.cond rfl (fun h22=>?_) (fun h22=>?_)
     ·
      refine go 3 ?_
      refine RL.makeB rfl rfl rfl rfl rfl rfl ?_
      refine go 2 ?_
      refine CW.ret (zr1 ?_)
      refine PostV.mq hg ?_
      simp_all [heardF,fnV]
      rfl
     ·
      refine go 5 ?_
      refine CW.cond rfl (fun h26=>?_) (fun h26=>?_)
      ·
       refine go 3 ?_
       refine RL.makeB rfl rfl rfl rfl rfl rfl ?_
       refine go 2 ?_
       refine CW.ret (zr1 ?_)
       refine PostV.mq hg ?_
       simp_all [heardF,fnV]
       rfl
      ·
       refine go 5 ?_
       refine CW.cond rfl (fun h30=>?_) (fun h30=>?_)
       ·
        refine go 3 ?_
        refine RL.makeB rfl rfl rfl rfl rfl rfl ?_
        refine go 2 ?_
        refine CW.ret (zr1 ?_)
        refine PostV.mq hg ?_
        simp_all [heardF,fnV]
        rfl
       ·
        refine go 5 ?_
        refine CW.ret (zr1 ?_)
        refine PostV.mq hg ?_
        simp_all [heardF,fnV]
        rfl
def Node.deaf (n:Node) (m:Msg):Prop:=m.to≠n.s.id∨m.frm=n.s.id∨m.frm<1∨7<m.frm∨p61≤m.term∨p61≤m.index∨p61≤m.commit
noncomputable def Node.risen (n:Node) (m:Msg):Node:=if n.s.hard.term<m.term then n.follow m.term 0 else n
theorem message_deaf {m:Msg} (h:n.deaf m):n.message m=n:=by unfold Node.message;exact if_pos h
theorem message_1 {m:Msg} (h:¬ n.deaf m) (h1:m.kind=1):n.message m=n.preVote m:=by unfold Node.message;refine (if_neg h).trans ?_;rw[if_pos h1]
theorem message_2 {m:Msg} (h:¬ n.deaf m) (h1:m.kind=2):n.message m=n.preVoted m:=by unfold Node.message;refine (if_neg h).trans ?_;rw[if_neg (by omega),if_pos h1]
theorem message_no {m:Msg} (h:¬ n.deaf m) (h1:m.kind≠1) (h2:m.kind≠2) (h3:m.kind<3∨9<m.kind):n.message m=n:=by unfold Node.message;refine (if_neg h).trans ?_;rw[if_neg h1,if_neg h2,if_pos h3]
theorem message_late {m:Msg} (h:¬ n.deaf m) (h1:m.kind≠1) (h2:m.kind≠2) (h3:¬ (m.kind<3∨9<m.kind)) (h4:m.term<(n.risen m).s.hard.term):n.message m=(n.risen m).late m:=by
 unfold Node.message;refine (if_neg h).trans ?_;rw[if_neg h1,if_neg h2,if_neg h3];exact if_pos h4
theorem message_on {m:Msg} (h:¬ n.deaf m) (h1:m.kind≠1) (h2:m.kind≠2) (h3:¬ (m.kind<3∨9<m.kind)) (h4:¬ m.term<(n.risen m).s.hard.term):n.message m=(n.risen m).heard m:=by
 unfold Node.message;refine (if_neg h).trans ?_;rw[if_neg h1,if_neg h2,if_neg h3];exact if_neg h4
theorem message_ct {m:Msg} {y:Lay} {i:Inp} {da:Option Addr} {dc:Nat} (hi:i.msg=m) (hg:Good w s (A::os)) (nd:Nd s A p h n) (hR:NRng n) (ht:n.takes m) (hm:MsgOk s m y) :
  Calls Tryz.prog 36 #[ptr p,.agg (inpV i y da dc).toArray] w (NPost w s os p (i64 0) (n.message m)):=by
 subst hi
 have hr:=ht.1
 refine enter (l:=[ptr p,.agg (inpV i y da dc).toArray]) Tryz.func36 rfl Tryz.ntmps36 rfl ?_
 refine go 3 ?_
 rintro b1 w1 Q1 (hg1:Good _ s (Q1::A::os)) hax1 hb1
 refine go 8 ?_
 rintro b2 w2 Q2 (hg2:Good _ s (Q2::Q1::A::os)) hax2 hb2
 refine go 2 ?_
 rintro w3 Q3 (hg3:Good _ s (Q3::Q1::A::os)) hax3 hb3
 refine go 6 ?_
 have hg4:=hg3.drew
 refine CW.dw [1,3,5,7,9,11,13,15,16] (fun w=>At1 b2 _ w∧At1 p _ w∧True) ?_
 refine go 10 ?_
 refine CW.cond rfl (fun h9=>?_) (fun h9=>?_)
 ·
  refine go 6 ?_
  refine CW.ret (zr1 ?_)
  exact Post.mq (((hg4.front 2 rfl).dropNext).dropNext) ⟨rfl,_,nd.to (message_deaf (.inl (by simpa using h9))).symm⟩
 ·
  have hd0:¬ (i.msg.to≠n.s.id):=(by simpa using h9)
  refine go 1 ?_
  have hg5:=hg4.drew
  refine CW.dw [1,3,5,7,9,11,13,15,16] (fun w=>At1 b2 _ w∧At1 p _ w∧True) ?_
  refine go 10 ?_
  refine CW.cond rfl (fun h9=>?_) (fun h9=>?_)
  ·
   refine go 6 ?_
   refine CW.ret (zr1 ?_)
   exact Post.mq (((hg5.front 2 rfl).dropNext).dropNext) ⟨rfl,_,nd.to (message_deaf (.inr (.inl (by simpa using h9)))).symm⟩
  ·
   have hd1:¬ (i.msg.frm=n.s.id):=(by simpa using h9)
   refine go 7 ?_
   refine CW.cond rfl (fun h9=>?_) (fun h9=>?_)
   ·
    refine go 6 ?_
    refine CW.ret (zr1 ?_)
    exact Post.mq (((hg5.front 2 rfl).dropNext).dropNext) ⟨rfl,_,nd.to (message_deaf (.inr (.inr (.inl (decide_t h9))))).symm⟩
   ·
    have hd2:¬ (i.msg.frm<1):=(decide_f h9)
    refine go 7 ?_
    refine CW.cond rfl (fun h9=>?_) (fun h9=>?_)
    ·
     refine go 6 ?_
     refine CW.ret (zr1 ?_)
     exact Post.mq (((hg5.front 2 rfl).dropNext).dropNext) ⟨rfl,_,nd.to (message_deaf (.inr (.inr (.inr (.inl (decide_t h9)))))).symm⟩
    ·
     have hd3:¬ (7<i.msg.frm):=(decide_f h9)
     refine go 7 ?_
     refine CW.cond rfl (fun h9=>?_) (fun h9=>?_)
     ·
      refine go 6 ?_
      refine CW.ret (zr1 ?_)
      exact Post.mq (((hg5.front 2 rfl).dropNext).dropNext) ⟨rfl,_,nd.to (message_deaf (.inr (.inr (.inr (.inr (.inl (decide_t h9))))))).symm⟩
     ·
      have hd4:¬ (p61≤i.msg.term):=(decide_f h9)
      refine go 7 ?_
      refine CW.cond rfl (fun h9=>?_) (fun h9=>?_)
      ·
       refine go 6 ?_
       refine CW.ret (zr1 ?_)
       exact Post.mq (((hg5.front 2 rfl).dropNext).dropNext) ⟨rfl,_,nd.to (message_deaf (.inr (.inr (.inr (.inr (.inr (.inl (decide_t h9)))))))).symm⟩
      ·
       have hd5:¬ (p61≤i.msg.index):=(decide_f h9)
       refine go 6 ?_
       refine CW.cond rfl (fun h9=>?_) (fun h9=>?_)
       ·
        refine go 4 ?_
        refine CW.ret (zr1 ?_)
        exact Post.mq (((hg5.front 2 rfl).dropNext).dropNext) ⟨rfl,_,nd.to (message_deaf (.inr (.inr (.inr (.inr (.inr (.inr (decide_t h9)))))))).symm⟩
       ·
        have hd6:¬ (p61≤i.msg.commit):=(decide_f h9)
        have hdf:¬ n.deaf i.msg:=fun z=>z.elim hd0 fun z=>z.elim hd1 fun z=>z.elim hd2 fun z=>z.elim hd3 fun z=>z.elim hd4 fun z=>z.elim hd5 hd6
        have hi61:i.msg.index<p61:=by have:¬ (p61≤i.msg.index):=hd5;omega
        refine go 7 ?_
        refine CW.cond rfl (fun h41=>?_) (fun h41=>?_)
        ·
         refine go 5 ?_
         refine zc (preVote_ct (hg5.front 2 rfl) nd hR hr hm) ?_
         rintro v6 s6 A6 w6 hle6 (hg6:Good _ s6 (A6::Q3::Q1::os)) hax6 ⟨rfl,h6,nd6⟩
         have hm:=hm.up hle6
         refine go 6 ?_
         refine CW.ret (zr1 ?_)
         exact Post.mq ((hg6.dropNext).dropNext) ⟨rfl,_,nd6.to (message_1 hdf (by simpa using h41)).symm⟩
        ·
         have hk1:i.msg.kind≠1:=by simpa using h41
         refine go 7 ?_
         refine CW.cond rfl (fun h48=>?_) (fun h48=>?_)
         ·
          refine go 5 ?_
          refine zc (preVoted_ct (hg5.front 2 rfl) nd hR hr ht.2.1 hm) ?_
          rintro v7 s7 A7 w7 hle7 (hg7:Good _ s7 (A7::Q3::Q1::os)) hax7 ⟨rfl,h7,nd7⟩
          have hm:=hm.up hle7
          refine go 6 ?_
          refine CW.ret (zr1 ?_)
          exact Post.mq ((hg7.dropNext).dropNext) ⟨rfl,_,nd7.to (message_2 hdf (by simpa using h48)).symm⟩
         ·
          have hk2:i.msg.kind≠2:=by simpa using h48
          refine go 7 ?_
          refine zw (heard_ct (p:=p) (k:=i.msg.kind) hg5) ?_
          rintro v8 w8 (hg8:Good _ s (Q3::Q1::A::os)) hax8 rfl
          refine go 7 ?_
          refine RL.fnEq rfl rfl rfl rfl Tryz.underlying137 rfl (fnV_is _ _) rfl ?_
          refine go 1 ?_
          refine CW.cond rfl (fun h60=>?_) (fun h60=>?_)
          ·
           refine go 4 ?_
           refine CW.ret (zr1 ?_)
           exact Post.mq (((hg8.front 2 rfl).dropNext).dropNext) ⟨rfl,_,nd.to (message_no hdf hk1 hk2 (heardF_none (fnV_nil h60))).symm⟩
          ·
           obtain⟨f,hf⟩:=fnV_not h60
           have hk3:=heardF_some hf
           rw[show fnV p (heardF i.msg.kind) = .func (.func f) #[ptr p] #[] by rw[hf];rfl]
           refine go 3 ?_
           have hg9:=hg8.drew
           refine CW.dw [1,3,5,7,9,11,13,15,17] (fun w=>At1 b2 _ w∧At1 p _ w∧True) ?_
           refine go 10 ?_
           refine CW.cond rfl (fun h69=>?_) (fun h69=>?_)
           ·
            have hris:n.follow i.msg.term 0=n.risen i.msg:=(if_pos (decide_t h69)).symm
            have hRr:NRng (n.risen i.msg):=by rw[←hris];exact hR.follow hm.term
            have htr:(n.risen i.msg).takes i.msg:=by rw[←hris];exact ht.follow
            refine go 5 ?_
            refine zc (follow_ct (hg9.front 2 rfl) nd) ?_
            rintro v10 s10 A10 w10 hle10 (hg10:Good _ s10 (A10::Q3::Q1::os)) hax10 ⟨rfl,h10,nd10⟩
            have hm:=hm.up hle10
            have nd10:=nd10.to hris
            refine go 4 ?_
            have hg11:=hg10.drew
            refine CW.dw [1,3,5,7,9,11,13,15,17] (fun w=>At1 b2 _ w∧At1 p _ w∧True) ?_
            refine go 10 ?_
            refine CW.cond rfl (fun h82=>?_) (fun h82=>?_)
            ·
             have hcf:callable Tryz.prog 74=true:=rfl
             have hct:∀ {w':World} {s' A':Res} {h':Hd},Good w' s' (A'::os)→Nd s' A' p h' (n.risen i.msg)→MsgOk s' i.msg y→Calls Tryz.prog 74 #[ptr p,.agg (msgV i.msg y).toArray] w' (NPost w' s' os p (.tuple #[]) ((n.risen i.msg).late i.msg)):=fun h1 h2 h3=>late_ct h1 h2 hRr htr.1 h3
             refine go 2 ?_
             refine RL.makeB rfl rfl rfl rfl rfl rfl ?_
             refine go 6 ?_
             refine RL.callB rfl rfl rfl rfl rfl rfl hcf (hct ((hg11.dropNext).dropNext) nd10 hm) ?_
             rintro e12 w12 ⟨v12,s12,A12,rfl,hle12,(hg12:Good _ s12 (A12::os)),hax12,⟨rfl,h12,nd12⟩⟩
             have hm:=hm.up hle12
             refine⟨_,rfl,trivial,?_⟩
             refine go 5 ?_
             refine CW.ret (zr1 ?_)
             exact Post.mq hg12 ⟨rfl,_,nd12.to (message_late hdf hk1 hk2 hk3 (decide_t h82)).symm⟩
            ·
             obtain⟨hcf,hca⟩:=heard_acts hf
             have hct:∀ {w':World} {s' A':Res} {h':Hd},Good w' s' (A'::os)→Nd s' A' p h' (n.risen i.msg)→MsgOk s' i.msg y→Calls Tryz.prog f #[ptr p,.agg (msgV i.msg y).toArray] w' (NPost w' s' os p (.tuple #[]) ((n.risen i.msg).heard i.msg)):=fun h1 h2 h3=>hca rfl h1 h2 hRr htr h3 hi61
             refine go 5 ?_
             refine RL.callB rfl rfl rfl rfl rfl rfl hcf (hct ((hg11.dropNext).dropNext) nd10 hm) ?_
             rintro e13 w13 ⟨v13,s13,A13,rfl,hle13,(hg13:Good _ s13 (A13::os)),hax13,⟨rfl,h13,nd13⟩⟩
             have hm:=hm.up hle13
             refine⟨_,rfl,trivial,?_⟩
             refine go 5 ?_
             refine CW.ret (zr1 ?_)
             exact Post.mq hg13 ⟨rfl,_,nd13.to (message_on hdf hk1 hk2 hk3 (decide_f h82)).symm⟩
           ·
            have hris:n=n.risen i.msg:=(if_neg (decide_f h69)).symm
            have hRr:NRng (n.risen i.msg):=by rw[←hris];exact hR
            have htr:(n.risen i.msg).takes i.msg:=by rw[←hris];exact ht
            have nd:=nd.to hris
            refine go 3 ?_
            have hg14:=hg9.drew
            refine CW.dw [1,3,5,7,9,11,13,15,17] (fun w=>At1 b2 _ w∧At1 p _ w∧True) ?_
            refine go 10 ?_
            refine CW.cond rfl (fun h82=>?_) (fun h82=>?_)
            ·
             have hcf:callable Tryz.prog 74=true:=rfl
             have hct:∀ {w':World} {s' A':Res} {h':Hd},Good w' s' (A'::os)→Nd s' A' p h' (n.risen i.msg)→MsgOk s' i.msg y→Calls Tryz.prog 74 #[ptr p,.agg (msgV i.msg y).toArray] w' (NPost w' s' os p (.tuple #[]) ((n.risen i.msg).late i.msg)):=fun h1 h2 h3=>late_ct h1 h2 hRr htr.1 h3
             refine go 2 ?_
             refine RL.makeB rfl rfl rfl rfl rfl rfl ?_
             refine go 6 ?_
             refine RL.callB rfl rfl rfl rfl rfl rfl hcf (hct (((hg14.front 2 rfl).dropNext).dropNext) nd hm) ?_
             rintro e15 w15 ⟨v15,s15,A15,rfl,hle15,(hg15:Good _ s15 (A15::os)),hax15,⟨rfl,h15,nd15⟩⟩
             have hm:=hm.up hle15
             refine⟨_,rfl,trivial,?_⟩
             refine go 5 ?_
             refine CW.ret (zr1 ?_)
             exact Post.mq hg15 ⟨rfl,_,nd15.to (message_late hdf hk1 hk2 hk3 (decide_t h82)).symm⟩
            ·
             obtain⟨hcf,hca⟩:=heard_acts hf
             have hct:∀ {w':World} {s' A':Res} {h':Hd},Good w' s' (A'::os)→Nd s' A' p h' (n.risen i.msg)→MsgOk s' i.msg y→Calls Tryz.prog f #[ptr p,.agg (msgV i.msg y).toArray] w' (NPost w' s' os p (.tuple #[]) ((n.risen i.msg).heard i.msg)):=fun h1 h2 h3=>hca rfl h1 h2 hRr htr h3 hi61
             refine go 5 ?_
             refine RL.callB rfl rfl rfl rfl rfl rfl hcf (hct (((hg14.front 2 rfl).dropNext).dropNext) nd hm) ?_
             rintro e16 w16 ⟨v16,s16,A16,rfl,hle16,(hg16:Good _ s16 (A16::os)),hax16,⟨rfl,h16,nd16⟩⟩
             have hm:=hm.up hle16
             refine⟨_,rfl,trivial,?_⟩
             refine go 5 ?_
             refine CW.ret (zr1 ?_)
             exact Post.mq hg16 ⟨rfl,_,nd16.to (message_on hdf hk1 hk2 hk3 (decide_f h82)).symm⟩
end
end Go.Lw
namespace Go.Lw
open Go.Proofs
attribute [local irreducible] RL RA
structure View where
 hard:Hard
 log:Log
 gone:Bool
abbrev viewV (v:View) (h:Hd):List Value:=[u64 v.hard.term,i64 v.hard.vote,u64 v.hard.commit,u64 v.log.base.index,u64 v.log.base.term,.slice h.va v.log.base.conf.voters.length h.vc,.slice h.la v.log.base.conf.learners.length h.lc,.slice h.da v.log.base.data.length h.dc,.slice h.ea v.log.entries.length h.ec,.bool v.gone]
section
variable {w:World} {s:Res} {os:List Res}
theorem may_ct {c:Conf} {va la:Option Addr} {vc lc:Nat} (hg:Good w s os) (hC:RConf s [.slice va c.voters.length vc,.slice la c.learners.length lc] c) (hs:c.small) :
  Calls Tryz.prog 32 #[.agg #[.slice va c.voters.length vc,.slice la c.learners.length lc]] w (Post w s os fun _ _ q=>q = .bool (mayP c)):=by
 have hv:c.voters.length≤maxLen:=by have:=hs.1;simp only[maxLen];omega
 have hl:c.learners.length≤maxLen:=by have:=hs.2;simp only[maxLen];omega
 refine enter (l:=[.agg #[.slice va c.voters.length vc,.slice la c.learners.length lc]]) Tryz.func32 rfl Tryz.ntmps32 rfl ?_
 refine go 3 ?_
 rintro b1 w1 Q1 (hg1:Good _ s (Q1::os)) hax1 hb1
 refine go 7 ?_
 refine zw (blank_ct hg1 hv hl) ?_
 rintro v2 w2 (hg2:Good _ s (Q1::os)) hax2 rfl
 refine go 2 ?_
 refine RL.part 5 rfl (fun h5=>?_) (fun h5=>?_)
 ·
  refine go 6 ?_
  refine CW.ret (zr1 ?_)
  refine Post.mq (hg2.drop).nil (congrArg Value.bool ?_)
  have h5:blankP c=_:=h5
  rw[Bool.eq_iff_iff];simp[mayP,h5]
 ·
  refine go 2 ?_
  refine zc (Check_ct hg2 hC hs.fits) ?_
  rintro v3 s3 B3 w3 hle3 (hg3:Good _ s3 (B3::Q1::os)) hax3 rfl
  have hg3:=hg3.drop
  refine go 5 ?_
  refine CW.ret (zr1 ?_)
  refine Post.mq (hg3.drop).nil (congrArg Value.bool ?_)
  have h5:blankP c=_:=h5
  rw[Bool.eq_iff_iff];simp[mayP,h5]
def hd0:Hd:=⟨none,0,none,0,none,0,none,0,none,0,none,0,none,0,none,0,none,0⟩
theorem RaftAt.zero (s:Res):RaftAt s Raft.zero hd0 :=
 ⟨⟨by simp[rng,Raft.zero],by simp[rng,Raft.zero],Imm.nil _ _ _ (Nat.zero_le _),Imm.nil _ _ _ (Nat.zero_le _),Imm.nil _ _ _ (Nat.zero_le _),Imm.nil _ _ _ (Nat.zero_le _)⟩,Imm.nil _ _ _ (Nat.zero_le _),Imm.nil _ _ _ (Nat.zero_le _),Imm.nil _ _ _ (Nat.zero_le _)⟩
def newR (id:Int) (v:View):Raft:=⟨id,v.hard,v.log,1,0,[],[],0,0,0,⟨0,0,[]⟩⟩
theorem newBad_iff {id:Int} {v:View}:newBad id v.hard v.log v.gone=true↔(id<1∨7<id∨v.gone=true∨logOk v.log=false∨mayP (confP v.log).1=false∨mayP v.log.base.conf=false∨p61≤(lastP v.log).1∨p61≤v.hard.term∨v.hard.term<(lastP v.log).2∨v.hard.commit<v.log.base.index∨(lastP v.log).1<v.hard.commit∨v.hard.vote<0∨7<v.hard.vote):=by
 unfold newBad;simp[or_assoc]
theorem newP_bad {id:Int} {v:View} (h:newBad id v.hard v.log v.gone=true):newP id v.hard v.log v.gone=(Raft.zero,1):=if_pos h
theorem newP_ok {id:Int} {v:View} (h:newBad id v.hard v.log v.gone=false):newP id v.hard v.log v.gone=(newR id v,0):=if_neg (by rw[h];decide)
theorem NewR_ct {q:Res} {id:Int} {v:View} {h:Hd} (hg:Good w s os) (hq:q=s∨q∈os) (hl:LogAt q s v.log h) (hS:v.log.small) (hid:rng .i64 id) (ht:rng .u64 v.hard.term) (hv:rng .i64 v.hard.vote) (hc:rng .u64 v.hard.commit) :
  Calls Tryz.prog 10 #[i64 id,.agg (viewV v h).toArray] w (Post w s os fun s' _ q=>∃ h',q = .tuple #[.agg (raftV (newP id v.hard v.log v.gone).1 h').toArray,i64 (newP id v.hard v.log v.gone).2]∧RaftAt s' (newP id v.hard v.log v.gone).1 h'):=by
 have hcs:=confP_small hS
 refine enter (l:=[i64 id,.agg (viewV v h).toArray]) Tryz.func10 rfl Tryz.ntmps10 rfl ?_
 refine go 3 ?_
 rintro b11 w11 Q11 (hg11:Good _ s (Q11::os)) hax11 hb11
 refine go 2 ?_
 rintro b12 w12 Q12 (hg12:Good _ s (Q12::Q11::os)) hax12 hb12
 refine go 9 ?_
 refine RL.part 13 rfl (fun h13=>?_) (fun h13=>?_)
 ·
  refine go 19 ?_
  rintro w13 Q13 (hg13:Good _ s (Q13::Q11::os)) hax13 hb13
  refine go 3 ?_
  refine CW.ret (ret (vs:=[_,_]) ⟨_,_,_,rfl,rfl,zl hb13,_,_,rfl,rfl,rfl⟩ ?_)
  have hbad:newBad id v.hard v.log v.gone=true:=newBad_iff.2 (.inl (decide_t h13))
  exact Post.mq ((hg13.drop).drop).nil ⟨hd0,by rw[newP_bad hbad];rfl,by rw[newP_bad hbad];exact RaftAt.zero _⟩
 ·
  have e0:¬ (id<1):=decide_f h13
  refine go 4 ?_
  refine RL.part 17 rfl (fun h17=>?_) (fun h17=>?_)
  ·
   refine go 15 ?_
   rintro w14 Q14 (hg14:Good _ s (Q14::Q11::os)) hax14 hb14
   refine go 3 ?_
   refine CW.ret (ret (vs:=[_,_]) ⟨_,_,_,rfl,rfl,zl hb14,_,_,rfl,rfl,rfl⟩ ?_)
   have hbad:newBad id v.hard v.log v.gone=true:=newBad_iff.2 (.inr (.inl (decide_t h17)))
   exact Post.mq ((hg14.drop).drop).nil ⟨hd0,by rw[newP_bad hbad];rfl,by rw[newP_bad hbad];exact RaftAt.zero _⟩
  ·
   have e1:¬ (7<id):=decide_f h17
   refine go 4 ?_
   refine RL.part 21 rfl (fun h21=>?_) (fun h21=>?_)
   ·
    refine go 11 ?_
    rintro w15 Q15 (hg15:Good _ s (Q15::Q11::os)) hax15 hb15
    refine go 3 ?_
    refine CW.ret (ret (vs:=[_,_]) ⟨_,_,_,rfl,rfl,zl hb15,_,_,rfl,rfl,rfl⟩ ?_)
    have hbad:newBad id v.hard v.log v.gone=true:=newBad_iff.2 (.inr (.inr (.inl h21)))
    exact Post.mq ((hg15.drop).drop).nil ⟨hd0,by rw[newP_bad hbad];rfl,by rw[newP_bad hbad];exact RaftAt.zero _⟩
   ·
    have e2:¬ (v.gone=true):=by rw[h21];decide
    refine go 3 ?_
    refine zw (Check_log_ct hg12 (hq.imp (fun z=>z) fun z=>by simp[z]) hl) ?_
    rintro v16 w16 (hg16:Good _ s (Q12::Q11::os)) hax16 rfl
    refine go 4 ?_
    refine CW.cond rfl (fun h26=>?_) (fun h26=>?_)
    ·
     refine go 4 ?_
     rintro w17 Q17 (hg17:Good _ s (Q17::Q11::os)) hax17 hb17
     refine go 3 ?_
     refine CW.ret (ret (vs:=[_,_]) ⟨_,_,_,rfl,rfl,zl hb17,_,_,rfl,rfl,rfl⟩ ?_)
     have hbad:newBad id v.hard v.log v.gone=true:=newBad_iff.2 (.inr (.inr (.inr (.inl (by simpa using h26)))))
     exact Post.mq ((hg17.drop).drop).nil ⟨hd0,by rw[newP_bad hbad];rfl,by rw[newP_bad hbad];exact RaftAt.zero _⟩
    ·
     have e3:¬ (logOk v.log=false):=by simpa using h26
     refine go 6 ?_
     refine zc (Conf_ct hg16 (hq.imp (fun z=>z) fun z=>by simp[z]) hl hS) ?_
     rintro v18 s18 B18 w18 hle18 (hg18:Good _ s18 (B18::Q12::Q11::os)) hax18 ⟨vs31,rfl,hC31⟩
     have hg18:=hg18.drop
     obtain⟨va,vc,la,lc,rfl,hva,hla⟩:=hC31
     have hC:RConf s18 [.slice va (confP v.log).1.voters.length vc,.slice la (confP v.log).1.learners.length lc] (confP v.log).1:=⟨_,_,_,_,rfl,hva,hla⟩
     obtain⟨q,hq,hl⟩:=LogAt.grow hq hl hle18
     refine go 5 ?_
     rintro b19 w19 Q19 (hg19:Good _ s18 (Q19::Q12::Q11::os)) hax19 hb19
     refine go 2 ?_
     rintro w20 Q20 (hg20:Good _ s18 (Q20::Q12::Q11::os)) hax20 hb20
     refine go 8 ?_
     refine zw (Last_ct hg20 (hq.imp (fun z=>z) fun z=>by simp[z]) hl) ?_
     rintro v21 w21 (hg21:Good _ s18 (Q20::Q12::Q11::os)) hax21 rfl
     refine go 13 ?_
     rintro b22 w22 Q22 (hg22:Good _ s18 (Q22::Q20::Q12::Q11::os)) hax22 hb22
     refine go 2 ?_
     rintro w23 Q23 (hg23:Good _ s18 (Q23::Q20::Q12::Q11::os)) hax23 hb23
     refine go 8 ?_
     refine zc (may_ct hg23 hC hcs) ?_
     rintro v24 s24 B24 w24 hle24 (hg24:Good _ s24 (B24::Q23::Q20::Q12::Q11::os)) hax24 rfl
     have hg24:=hg24.drop
     obtain⟨q,hq,hl⟩:=LogAt.grow hq hl hle24
     refine go 3 ?_
     refine RL.part 46 rfl (fun h46=>?_) (fun h46=>?_)
     ·
      refine go 16 ?_
      rintro w25 Q25 (hg25:Good _ s24 (Q23::Q20::Q25::Q11::os)) hax25 hb25
      refine go 3 ?_
      refine CW.ret (ret (vs:=[_,_]) ⟨_,_,_,rfl,rfl,zl hb25,_,_,rfl,rfl,rfl⟩ ?_)
      have hbad:newBad id v.hard v.log v.gone=true:=newBad_iff.2 (.inr (.inr (.inr (.inr (.inl (by simpa using h46))))))
      exact Post.mq ((((hg25.drop).drop).drop).drop).nil ⟨hd0,by rw[newP_bad hbad];rfl,by rw[newP_bad hbad];exact RaftAt.zero _⟩
     ·
      have e4:¬ (mayP (confP v.log).1=false):=by simpa using h46
      refine go 5 ?_
      refine zc (may_ct hg24 hl.conf hS.1) ?_
      rintro v26 s26 B26 w26 hle26 (hg26:Good _ s26 (B26::Q23::Q20::Q12::Q11::os)) hax26 rfl
      have hg26:=hg26.drop
      obtain⟨q,hq,hl⟩:=LogAt.grow hq hl hle26
      refine go 5 ?_
      refine CW.cond rfl (fun h42=>?_) (fun h42=>?_)
      ·
       refine go 6 ?_
       rintro w27 Q27 (hg27:Good _ s26 (Q23::Q20::Q27::Q11::os)) hax27 hb27
       refine go 3 ?_
       refine CW.ret (ret (vs:=[_,_]) ⟨_,_,_,rfl,rfl,zl hb27,_,_,rfl,rfl,rfl⟩ ?_)
       have hbad:newBad id v.hard v.log v.gone=true:=newBad_iff.2 (.inr (.inr (.inr (.inr (.inr (.inl (by simpa using h42)))))))
       exact Post.mq ((((hg27.drop).drop).drop).drop).nil ⟨hd0,by rw[newP_bad hbad];rfl,by rw[newP_bad hbad];exact RaftAt.zero _⟩
      ·
       have e5:¬ (mayP v.log.base.conf=false):=by simpa using h42
       refine go 5 ?_
       refine RL.part 56 rfl (fun h56=>?_) (fun h56=>?_)
       ·
        refine go 19 ?_
        rintro w28 Q28 (hg28:Good _ s26 (Q23::Q20::Q28::Q11::os)) hax28 hb28
        refine go 3 ?_
        refine CW.ret (ret (vs:=[_,_]) ⟨_,_,_,rfl,rfl,zl hb28,_,_,rfl,rfl,rfl⟩ ?_)
        have hbad:newBad id v.hard v.log v.gone=true:=newBad_iff.2 (.inr (.inr (.inr (.inr (.inr (.inr (.inl (decide_t h56))))))))
        exact Post.mq ((((hg28.drop).drop).drop).drop).nil ⟨hd0,by rw[newP_bad hbad];rfl,by rw[newP_bad hbad];exact RaftAt.zero _⟩
       ·
        have e6:¬ (p61≤(lastP v.log).1):=decide_f h56
        refine go 5 ?_
        refine RL.part 61 rfl (fun h61=>?_) (fun h61=>?_)
        ·
         refine go 14 ?_
         rintro w29 Q29 (hg29:Good _ s26 (Q23::Q20::Q29::Q11::os)) hax29 hb29
         refine go 3 ?_
         refine CW.ret (ret (vs:=[_,_]) ⟨_,_,_,rfl,rfl,zl hb29,_,_,rfl,rfl,rfl⟩ ?_)
         have hbad:newBad id v.hard v.log v.gone=true:=newBad_iff.2 (.inr (.inr (.inr (.inr (.inr (.inr (.inr (.inl (decide_t h61)))))))))
         exact Post.mq ((((hg29.drop).drop).drop).drop).nil ⟨hd0,by rw[newP_bad hbad];rfl,by rw[newP_bad hbad];exact RaftAt.zero _⟩
        ·
         have e7:¬ (p61≤v.hard.term):=decide_f h61
         refine go 7 ?_
         refine CW.cond rfl (fun h42=>?_) (fun h42=>?_)
         ·
          refine go 6 ?_
          rintro w30 Q30 (hg30:Good _ s26 (Q23::Q20::Q30::Q11::os)) hax30 hb30
          refine go 3 ?_
          refine CW.ret (ret (vs:=[_,_]) ⟨_,_,_,rfl,rfl,zl hb30,_,_,rfl,rfl,rfl⟩ ?_)
          have hbad:newBad id v.hard v.log v.gone=true:=newBad_iff.2 (.inr (.inr (.inr (.inr (.inr (.inr (.inr (.inr (.inl (decide_t h42))))))))))
          exact Post.mq ((((hg30.drop).drop).drop).drop).nil ⟨hd0,by rw[newP_bad hbad];rfl,by rw[newP_bad hbad];exact RaftAt.zero _⟩
         ·
          have e8:¬ (v.hard.term<(lastP v.log).2):=decide_f h42
          refine go 10 ?_
          refine RL.part 74 rfl (fun h74=>?_) (fun h74=>?_)
          ·
           refine go 14 ?_
           rintro w31 Q31 (hg31:Good _ s26 (Q23::Q20::Q31::Q11::os)) hax31 hb31
           refine go 3 ?_
           refine CW.ret (ret (vs:=[_,_]) ⟨_,_,_,rfl,rfl,zl hb31,_,_,rfl,rfl,rfl⟩ ?_)
           have hbad:newBad id v.hard v.log v.gone=true:=newBad_iff.2 (.inr (.inr (.inr (.inr (.inr (.inr (.inr (.inr (.inr (.inl (decide_t h74)))))))))))
           exact Post.mq ((((hg31.drop).drop).drop).drop).nil ⟨hd0,by rw[newP_bad hbad];rfl,by rw[newP_bad hbad];exact RaftAt.zero _⟩
          ·
           have e9:¬ (v.hard.commit<v.log.base.index):=decide_f h74
           refine go 7 ?_
           refine CW.cond rfl (fun h42=>?_) (fun h42=>?_)
           ·
            refine go 6 ?_
            rintro w32 Q32 (hg32:Good _ s26 (Q23::Q20::Q32::Q11::os)) hax32 hb32
            refine go 3 ?_
            refine CW.ret (ret (vs:=[_,_]) ⟨_,_,_,rfl,rfl,zl hb32,_,_,rfl,rfl,rfl⟩ ?_)
            have hbad:newBad id v.hard v.log v.gone=true:=newBad_iff.2 (.inr (.inr (.inr (.inr (.inr (.inr (.inr (.inr (.inr (.inr (.inl (decide_t h42))))))))))))
            exact Post.mq ((((hg32.drop).drop).drop).drop).nil ⟨hd0,by rw[newP_bad hbad];rfl,by rw[newP_bad hbad];exact RaftAt.zero _⟩
           ·
            have e10:¬ ((lastP v.log).1<v.hard.commit):=decide_f h42
            refine go 5 ?_
            refine RL.part 83 rfl (fun h83=>?_) (fun h83=>?_)
            ·
             refine go 11 ?_
             rintro w33 Q33 (hg33:Good _ s26 (Q23::Q20::Q33::Q11::os)) hax33 hb33
             refine go 3 ?_
             refine CW.ret (ret (vs:=[_,_]) ⟨_,_,_,rfl,rfl,zl hb33,_,_,rfl,rfl,rfl⟩ ?_)
             have hbad:newBad id v.hard v.log v.gone=true:=newBad_iff.2 (.inr (.inr (.inr (.inr (.inr (.inr (.inr (.inr (.inr (.inr (.inr (.inl (decide_t h83)))))))))))))
             exact Post.mq ((((hg33.drop).drop).drop).drop).nil ⟨hd0,by rw[newP_bad hbad];rfl,by rw[newP_bad hbad];exact RaftAt.zero _⟩
            ·
             have e11:¬ (v.hard.vote<0):=decide_f h83
             refine go 6 ?_
             refine CW.cond rfl (fun h42=>?_) (fun h42=>?_)
             ·
              refine go 4 ?_
              rintro w34 Q34 (hg34:Good _ s26 (Q23::Q20::Q34::Q11::os)) hax34 hb34
              refine go 3 ?_
              refine CW.ret (ret (vs:=[_,_]) ⟨_,_,_,rfl,rfl,zl hb34,_,_,rfl,rfl,rfl⟩ ?_)
              have hbad:newBad id v.hard v.log v.gone=true:=newBad_iff.2 (.inr (.inr (.inr (.inr (.inr (.inr (.inr (.inr (.inr (.inr (.inr (.inr (decide_t h42)))))))))))))
              exact Post.mq ((((hg34.drop).drop).drop).drop).nil ⟨hd0,by rw[newP_bad hbad];rfl,by rw[newP_bad hbad];exact RaftAt.zero _⟩
             ·
              have e12:¬ (7<v.hard.vote):=decide_f h42
              refine go 10 ?_
              refine zc (copiedR_ct (q:=q) (r:=newR id v) (h:={ h with ba:=none,bc:=0,pa:=none,pc:=0,ta:=none,tc:=0 }) hg26 (hq.imp (fun z=>z) fun z=>by simp[z]) ⟨hl.1,hl.2,hl.3,hl.4,hl.5,hl.6⟩ (Imm.nil _ _ _ (Nat.zero_le _)) (Imm.nil _ _ _ (Nat.zero_le _)) (Imm.nil _ _ _ (Nat.zero_le _)) hS (Nat.zero_le _) (Nat.zero_le _) (Nat.zero_le _)) ?_
              rintro v35 s35 B35 w35 hle35 (hg35:Good _ s35 (B35::Q23::Q20::Q12::Q11::os)) hax35 ⟨h95,rfl,hN95⟩
              obtain⟨t35,hgl35,hll35,hml35⟩:=hg35.letgo
              have hg35:Good _ t35 (Q23::Q20::Q12::Q11::os):=hgl35
              have hRA:=hN95.raftAt (n:=⟨newR id v,Out.zero⟩) ⟨hid,ht,hv,hc,hl.index,hl.term⟩ hll35 hml35
              refine go 2 ?_
              rintro w36 Q36 (hg36:Good _ t35 (Q23::Q20::Q36::Q11::os)) hax36 hb36
              refine go 3 ?_
              refine CW.ret (ret (vs:=[_,_]) ⟨_,_,_,rfl,rfl,zl hb36,_,_,rfl,rfl,rfl⟩ ?_)
              have hok:newBad id v.hard v.log v.gone=false:=Bool.eq_false_iff.2 fun z=>(fun z=>(z.elim e0 fun z=>(z.elim e1 fun z=>(z.elim e2 fun z=>(z.elim e3 fun z=>(z.elim e4 fun z=>(z.elim e5 fun z=>(z.elim e6 fun z=>(z.elim e7 fun z=>(z.elim e8 fun z=>(z.elim e9 fun z=>(z.elim e10 fun z=>(z.elim e11 e12))))))))))))) (newBad_iff.1 z)
              exact Post.mk (hle18.trans (hle24.trans (hle26.trans (hle35.trans hll35)))) ((((hg36.drop).drop).drop).drop).nil (hax11.trans (hax12.trans (hax16.trans (hax18.trans (hax19.trans (hax20.trans (hax21.trans (hax22.trans (hax23.trans (hax24.trans (hax26.trans (hax35.trans hax36)))))))))))) ⟨h95,by rw[newP_ok hok];rfl,by rw[newP_ok hok];exact hRA⟩
theorem New_ct {id:Int} {v:View} {h:Hd} (hg:Good w s os) (hl:LogAt s s v.log h) (hS:v.log.small) (hid:rng .i64 id) (ht:rng .u64 v.hard.term) (hv:rng .i64 v.hard.vote) (hc:rng .u64 v.hard.commit) :
  Calls Tryz.prog 10 #[i64 id,.agg (viewV v h).toArray] w (Post w s os fun s' _ q=>∃ h',q = .tuple #[.agg (raftV (newP id v.hard v.log v.gone).1 h').toArray,i64 (newP id v.hard v.log v.gone).2]∧RaftAt s' (newP id v.hard v.log v.gone).1 h') :=
 NewR_ct hg (.inl rfl) hl hS hid ht hv hc
end
end Go.Lw
namespace Go.Lw
section
variable {P:Program} {n:Nat} {ops:Array Oper} {Q:Exit→Act→World→Prop} {S:World→Prop} {rest:List (Bool × Oper)} {E:Env} {w:World} {o:Oper} {d:Nat} {v:Value} {x y:Operand} {T:Bool}
theorem RL.stEq {t yt:TypeId} {us vs:Array Value} (hg:wants ops E o=some true) (hd:o.dst=some d) (hb:Nat.blt d n=true) (ho:o.op = .binOp .eql t x y yt) (hm:P.eqGuardType P.depth t=false)
  (hx:ev E x=some (.agg us)) (hy:ev E y=some (.agg vs)) (hr:∀ w,(binOp .eql t (.agg us) (.agg vs)).run P w = .ok v w) (h:RL P n ops Q S rest ((d,v)::E) w):RL P n ops Q S ((T,o)::rest) E w:=by
 refine RL.val hg hd hb (fun w ac ha=>?_) h
 unfold execOp
 simp only[ho,ha.ev hx,ha.ev hy,Sem.run_bind,run_eqGuard_agg _ _ _ _ _ _ _ hm,Result.andThen_ok]
 simp[hr w]
theorem RL.stNe {t yt:TypeId} {us vs:Array Value} (hg:wants ops E o=some true) (hd:o.dst=some d) (hb:Nat.blt d n=true) (ho:o.op = .binOp .neq t x y yt) (hm:P.eqGuardType P.depth t=false)
  (hx:ev E x=some (.agg us)) (hy:ev E y=some (.agg vs)) (hr:∀ w,(binOp .neq t (.agg us) (.agg vs)).run P w = .ok v w) (h:RL P n ops Q S rest ((d,v)::E) w):RL P n ops Q S ((T,o)::rest) E w:=by
 refine RL.val hg hd hb (fun w ac ha=>?_) h
 unfold execOp
 simp only[ho,ha.ev hx,ha.ev hy,Sem.run_bind,run_eqGuard_agg _ _ _ _ _ _ _ hm,Result.andThen_ok]
 simp[hr w]
end
end Go.Lw
namespace Go.Lw
open Go.Proofs
attribute [local irreducible] RL RA
abbrev hardV (h:Hard):Array Value:= #[u64 h.term,i64 h.vote,u64 h.commit]
theorem hard_ne (a b:Hard) (w:World):(binOp .neq 24 (.agg (hardV a)) (.agg (hardV b))).run Tryz.prog w = .ok (.bool (decide (a≠b))) w:=by
 have u1:=Tryz.underlying3
 have a1:=Tryz.isAgg3
 have z1:=Tryz.sizeOf3
 have u2:=Tryz.underlying22
 have a2:=Tryz.isAgg22
 have z2:=Tryz.sizeOf22
 have hS:Tryz.prog.underlying 24=some (.struct (Tryz.prog.fieldsOf 24)):=by kernel_rfl
 have hp:Tryz.prog.stoodInHeld 24=false:=by kernel_rfl
 rw[run_neq_struct,show (10000:Nat)=9999+1 from rfl,run_equalIn_agg w 9999 24 _ _ hS hp]
 simp only[Program.fieldsOf,Tryz.underlying24]
 obtain⟨t,v,c⟩:=a
 obtain⟨t',v',c'⟩:=b
 by_cases h1:t=t'
 ·
  subst h1
  by_cases h2:v=v'
  ·
   subst h2
   by_cases h3:c=c'
   ·
    subst h3;go_simp
   ·
    go_simp
  ·
   go_simp
 ·
  go_simp
def OutAt (s:Res) (o:Out) (h:Hd):Prop:=Imm REntry 6 s h.oa h.oc o.entries∧Imm RMsg 14 s h.ma h.mc o.msgs
theorem OutAt.up {s s':Res} {o:Out} {h:Hd} (k:OutAt s o h) (hl:Le s s'):OutAt s' o h:=⟨k.1.up REntry.up hl,k.2.up RMsg.up hl⟩
structure InpOk (s:Res) (i:Inp) (y:Lay) (da:Option Addr) (dc:Nat):Prop where
 msg:MsgOk s i.msg y
 kind:rng .i64 i.kind
 timeout:rng .i64 i.timeout
 chKind:rng .i64 i.chKind
 chNode:rng .i64 i.chNode
 to:rng .i64 i.to
 data:Imm (RInt .u8) 1 s da dc i.data
theorem InpOk.up {s s':Res} {i:Inp} {y:Lay} {da:Option Addr} {dc:Nat} (k:InpOk s i y da dc) (hl:Le s s'):InpOk s' i y da dc :=
 { k with msg:=k.msg.up hl,data:=k.data.up (RInt.up _) hl }
noncomputable def Node.act (n:Node) (i:Inp):Node × Int:=if i.kind=1 then (n.tick i.timeout,0) else if i.kind=2 then (n.message i.msg,0) else if i.kind=3∨i.kind=4∨i.kind=5 then n.asked i else (n,1)
def Node.bears (n:Node) (i:Inp):Prop:=n.takes i.msg∧i.data.length≤1073741824∧(n.changed i.chKind i.chNode).1.small
abbrev newN (r:Raft):Node:=⟨r,Out.zero⟩
theorem stepP_err {r:Raft} {i:Inp} (h:((newN r).act i).2≠0):stepP r i=(r,Out.zero,((newN r).act i).2):=by unfold stepP;exact if_pos h
theorem stepP_ok {r:Raft} {i:Inp} (h:¬ ((newN r).act i).2≠0):stepP r i=(((newN r).act i).1.s,(((newN r).act i).1.wSave (decide (((newN r).act i).1.s.hard≠r.hard))).o,0):=by unfold stepP;exact if_neg h
def ActsAs (f:FuncId) (n:Node) (i:Inp) (y:Lay) (da:Option Addr) (dc:Nat) (p:Nat):Prop :=
 callable Tryz.prog f=true∧∀ {w:World} {s A:Res} {os:List Res} {h:Hd},Good w s (A::os)→Nd s A p h n→InpOk s i y da dc →
  Calls Tryz.prog f #[ptr p,.agg (inpV i y da dc).toArray] w (NPost w s os p (i64 (n.act i).2) (n.act i).1)
section
variable {n:Node} {i:Inp} {y:Lay} {da:Option Addr} {dc p:Nat}
theorem acts_tick (hk:i.kind=1) (hR:NRng n) (hb:n.bears i):ActsAs 35 n i y da dc p:=by
 refine⟨rfl,fun hg nd ho=>?_⟩
 rw[show n.act i=(n.tick i.timeout,0) from if_pos hk]
 exact tick_ct hg nd hR hb.1.1
theorem acts_message (hk:i.kind=2) (hR:NRng n) (hb:n.bears i):ActsAs 36 n i y da dc p:=by
 refine⟨rfl,fun hg nd ho=>?_⟩
 rw[show n.act i=(n.message i.msg,0) by unfold Node.act;rw[if_neg (by omega),if_pos hk]]
 exact message_ct rfl hg nd hR hb.1 ho.msg
theorem acts_asked (hk:i.kind=3∨i.kind=4∨i.kind=5) (hR:NRng n) (hb:n.bears i):ActsAs 37 n i y da dc p:=by
 refine⟨rfl,fun hg nd ho=>?_⟩
 rw[show n.act i=n.asked i by unfold Node.act;rw[if_neg (by omega),if_neg (by omega),if_pos hk]]
 exact asked_ct hg nd hR hb.1.1 ho.chKind ho.chNode ho.to ho.data hb.2.1 hb.2.2
theorem acts_unknown (hk:i.kind≠1∧i.kind≠2∧i.kind≠3∧i.kind≠4∧i.kind≠5):ActsAs 34 n i y da dc p:=by
 refine⟨rfl,fun hg nd ho=>?_⟩
 rw[show n.act i=(n,1) by unfold Node.act;rw[if_neg hk.1,if_neg hk.2.1,if_neg (by omega)]]
 exact unknown_ct hg nd
end
end Go.Lw
namespace Go.Lw
def Conf.within (c:Nat) (x:Conf):Prop:=x.voters.length≤c∧x.learners.length≤c
def Entry.within (c:Nat) (e:Entry):Prop:=rng .u64 e.index∧rng .u64 e.term∧e.data.length≤c∧e.conf.within c
theorem Conf.within.mono {c d:Nat} {x:Conf} (h:x.within c) (hd:c≤d):x.within d:=⟨Nat.le_trans h.1 hd,Nat.le_trans h.2 hd⟩
theorem Entry.within.mono {c d:Nat} {e:Entry} (h:e.within c) (hd:c≤d):e.within d:=⟨h.1,h.2.1,Nat.le_trans h.2.2.1 hd,h.2.2.2.mono hd⟩
theorem Conf.within.none (c:Nat):Conf.within c ⟨[],[]⟩:=⟨Nat.zero_le _,Nat.zero_le _⟩
structure LFit (c:Nat) (l:Log):Prop where
 index:rng .u64 l.base.index
 term:rng .u64 l.base.term
 conf:l.base.conf.within c
 data:l.base.data.length≤c
 entries:∀ e∈l.entries,e.within c
 count:l.entries.length≤c
 low:l.base.index<p61
 run:∀ (k:Nat) (e:Entry),l.entries[k]?=some e→e.index=IntKind.u64.wrap (l.base.index+1+k)
structure Fit (c:Nat) (r:Raft):Prop where
 id:rng .i64 r.id
 term:rng .u64 r.hard.term
 vote:rng .i64 r.hard.vote
 commit:rng .u64 r.hard.commit
 log:LFit c r.log
 ballots:r.ballots.length≤c
 peers:r.peers.length≤2*c
 mats:∀ p∈r.peers,rng .u64 p.mat
 pindex:rng .u64 r.part.index
 pterm:rng .u64 r.part.term
 part:r.part.data.length≤c
structure MFit (d:Nat) (m:Msg):Prop where
 frm:rng .i64 m.frm
 term:rng .u64 m.term
 index:rng .u64 m.index
 logTerm:rng .u64 m.logTerm
 commit:rng .u64 m.commit
 entries:∀ e∈m.entries,e.within d
 count:m.entries.length≤d
 conf:m.conf.within d
 data:m.data.length≤d
theorem LFit.mono {c d:Nat} {l:Log} (h:LFit c l) (hd:c≤d):LFit d l :=
 ⟨h.index,h.term,h.conf.mono hd,Nat.le_trans h.data hd,fun e he=>(h.entries e he).mono hd,Nat.le_trans h.count hd,h.low,h.run⟩
theorem Fit.mono {c d:Nat} {r:Raft} (h:Fit c r) (hd:c≤d):Fit d r :=
 { h with log:=h.log.mono hd,ballots:=Nat.le_trans h.ballots hd,peers:=Nat.le_trans h.peers (by omega),part:=Nat.le_trans h.part hd }
theorem Fit.rng {c:Nat} {n:Node} (h:Fit c n.s):NRng n:=⟨h.id,h.term,h.vote,h.commit,h.log.index,h.log.term⟩
theorem confE_within {c:Nat}:∀ {l:List Entry},(∀ e∈l,e.within c)→∀ x,confE l=some x→x.1.within c
 | [],_,x,h=>by cases h
 | e::l,hs,x,h=>by
  simp only[confE] at h
  cases hc:confE l with
  | some r=>rw[hc] at h;cases h;exact confE_within (fun y hy=>hs y (List.mem_cons_of_mem _ hy)) _ hc
  | none =>
   rw[hc] at h
   simp only at h
   split at h
   ·
    cases h;exact (hs e (List.mem_cons_self ..)).2.2.2
   ·
    cases h
theorem confP_within {c:Nat} {l:Log} (h:LFit c l):(confP l).1.within c:=by
 unfold confP
 cases hc:confE l.entries with
 | none=>exact h.conf
 | some r=>exact confE_within h.entries _ hc
theorem othersP_within {k:Nat} {c:Conf} (h:c.within k) (x:Int):(othersP c x).length≤2*k:=by
 have h1:=uniq_le (delP x (c.voters++c.learners))
 have h2:=delP_le x (c.voters++c.learners)
 have h3:(c.voters++c.learners).length=c.voters.length+c.learners.length:=List.length_append
 have h4:=h.1
 have h5:=h.2
 unfold othersP;omega
theorem lastP_rng {c:Nat} {l:Log} (h:LFit c l):rng .u64 (lastP l).1∧rng .u64 (lastP l).2:=by
 unfold lastP
 cases hc:l.entries.getLast? with
 | none=>exact⟨h.index,h.term⟩
 | some e=>exact⟨(h.entries e (List.mem_of_getLast? hc)).1,(h.entries e (List.mem_of_getLast? hc)).2.1⟩
theorem LFit.none (c:Nat):LFit c Log.none:=⟨by simp[rng,Log.none,Snap.none],by simp[rng,Log.none,Snap.none],⟨Nat.zero_le _,Nat.zero_le _⟩,Nat.zero_le _,fun e he=>(by cases he),Nat.zero_le _,by simp[Log.none,Snap.none,p61],fun k e hk=>by simp[Log.none] at hk⟩
theorem wrap_id {x:Int} (h0:0≤x) (h1:x<18446744073709551616):IntKind.u64.wrap x=x:=rng.wrap (k:= .u64) (by simp only[rng];omega)
theorem up1_wrap (x:Int):up1 (IntKind.u64.wrap x)=IntKind.u64.wrap (x+1):=by
 unfold up1 IntKind.wrap
 simp only[IntKind.bits,IntKind.signed]
 simp
def RunX (l:Log):Prop:=∀ (k:Nat) (e:Entry),l.entries[k]?=some e→e.index=l.base.index+1+k
theorem LFit.runX {c:Nat} {l:Log} (h:LFit c l) (hc:c≤1099511627776):RunX l:=fun k e hk=>by
 have h1:=h.run k e hk
 have h2:=(List.getElem?_eq_some_iff.1 hk).1
 have h3:=h.count
 have h4:=h.low
 have h5:=h.index
 simp only[rng,p61] at h4 h5
 rw[wrap_id (by omega) (by omega)] at h1
 exact h1
theorem RunX.place {l:Log} (h:RunX l) (j:Int):((placeP l j:Nat):Int)=max 0 (min (l.entries.length:Int) (j-(l.base.index+1))):=by
 have hc:placeP l j=(max 0 (min (l.entries.length:Int) (j-(l.base.index+1)))).toNat:=by
  refine searchP_at (n:=l.entries.length) (fun k hk=>?_) _ _ _ (Nat.le_refl _) (Nat.zero_le _) (by omega) (Nat.le_refl _)
  have hg:=h k _ (List.getElem?_eq_getElem hk)
  unfold notBelow
  rw[List.getElem?_eq_getElem hk]
  simp only[hg,decide_eq_decide]
  omega
 omega
theorem RunX.last {l:Log} (h:RunX l):(lastP l).1=l.base.index+l.entries.length:=by
 unfold lastP
 cases hl:l.entries.getLast? with
 | none=>rw[List.getLast?_eq_none_iff] at hl;simp[hl]
 | some e =>
  rw[List.getLast?_eq_getElem?] at hl
  have h1:=h _ _ hl
  have h2:0<l.entries.length:=by
   have:=(List.getElem?_eq_some_iff.1 hl).1;omega
  simp only;omega
theorem LFit.last {c:Nat} {l:Log} (h:LFit c l):(lastP l).1=IntKind.u64.wrap (l.base.index+l.entries.length):=by
 unfold lastP
 cases hl:l.entries.getLast? with
 | none =>
  rw[List.getLast?_eq_none_iff] at hl
  have h5:=h.index
  simp only[rng] at h5
  rw[hl,wrap_id (by simp;omega) (by simp;omega)];simp
 | some e =>
  rw[List.getLast?_eq_getElem?] at hl
  have h1:=h.run _ _ hl
  have h2:0<l.entries.length:=by
   have:=(List.getElem?_eq_some_iff.1 hl).1;omega
  simp only[h1]
  exact congrArg IntKind.u64.wrap (by omega)
theorem RunX.term {l:Log} (h:RunX l) {x:Int} (hx:(termP l x).2=true):l.base.index≤x∧x≤l.base.index+l.entries.length:=by
 unfold termP at hx
 split at hx
 ·
  omega
 ·
  split at hx
  ·
   rename_i e he
   split at hx
   ·
    rename_i hi
    have h1:=h _ _ he
    have h2:=(List.getElem?_eq_some_iff.1 he).1
    omega
   ·
    cases hx
  ·
   cases hx
theorem mergeP_fit {c d:Nat} {l:Log} {k i t:Int} {more:List Entry} (h:LFit c l) (hm:∀ e∈more,e.within d) (hn:more.length≤d) (hc:c+d≤1099511627776):LFit (c+d) (mergeP l k i t more).log:=by
 have hx:=h.runX (by omega)
 unfold mergeP
 split
 ·
  exact LFit.none _
 rename_i hrun
 split
 ·
  exact LFit.none _
 rename_i hterm
 split
 ·
  exact LFit.none _
 have hr:runE i t more=true:=by
  have:runP i t more=true:=by simpa using hrun
  simp only[runP,Bool.and_eq_true] at this
  exact this.2
 cases hf:more.findIdx? (freshP l) with
 | none=>exact h.mono (by omega)
 | some j =>
  obtain⟨hj,hj1,hj2⟩:=List.findIdx?_eq_some_iff_getElem.1 hf
  have hfr:(more[j]?.map (·.index)).getD 0=i+1+j:=by
   rw[List.getElem?_eq_getElem hj]
   simp only[Option.map_some,Option.getD_some]
   exact runE_get hr j _ (List.getElem?_eq_getElem hj)
  have hin:l.base.index≤i+j∧i+j≤l.base.index+l.entries.length:=by
   rcases Nat.eq_zero_or_pos j with h0 | h0
   ·
    have h1:(termP l i).2=true:=by
     cases hz:(termP l i).2 with
     | true=>rfl
     | false=>exact absurd (.inl hz) hterm
    have:=hx.term h1
    omega
   ·
    have h1:=hj2 (j-1) (by omega)
    have h2:=runE_get hr (j-1) _ (List.getElem?_eq_getElem (by omega))
    have h3:(termP l more[j-1].index).2=true:=by
     cases hz:(termP l more[j-1].index).2 with
     | true=>rfl
     | false=>simp[freshP,hz] at h1
    have:=hx.term h3
    omega
  have hp:=hx.place (i+1+j)
  have hcnt:=h.count
  dsimp only
  rw[hfr]
  refine⟨h.index,h.term,h.conf.mono (by omega),Nat.le_trans h.data (by omega),fun e he=>?_,?_,h.low,fun q e hq=>?_⟩
  ·
   rcases List.mem_append.1 he with he | he
   ·
    exact (h.entries e (List.mem_of_mem_take he)).mono (by omega)
   ·
    exact (hm e (List.mem_of_mem_drop he)).mono (by omega)
  ·
   simp only[List.length_append,List.length_take,List.length_drop];omega
  ·
   have hql:=(List.getElem?_eq_some_iff.1 hq).1
   simp only[List.length_append,List.length_take,List.length_drop] at hql
   have hlow:=h.low
   have hix:=h.index
   simp only[rng,p61] at hlow hix
   rw[wrap_id (by simp only;omega) (by simp only;omega)]
   by_cases hlt:q<placeP l (i+1+j)
   ·
    rw[List.getElem?_append_left (by rw[List.length_take];omega),List.getElem?_take_of_lt hlt] at hq
    exact hx q e hq
   ·
    rw[List.getElem?_append_right (by rw[List.length_take];omega),List.getElem?_drop] at hq
    have:=runE_get hr _ _ hq
    rw[List.length_take] at this
    simp only
    omega
theorem insP_len (n:Int) (l:List Int):(insP n l).length≤l.length+1:=Nat.le_of_eq (insP_length n l)
theorem applyP_within {k:Nat} {c:Conf} (h:c.within k) (a b:Int):(applyP c a b).1.within (k+1):=by
 have h1:=insP_len b c.voters
 have h2:=insP_len b c.learners
 have h3:=delP_le b c.voters
 have h4:=delP_le b c.learners
 have h5:=h.1
 have h6:=h.2
 unfold applyP
 repeat' split
 all_goals exact⟨by simp[Conf.none];try omega,by simp[Conf.none];try omega⟩
section
variable {c d:Nat} {n:Node}
theorem fit_follow {t l:Int} (h:Fit c n.s) (ht:rng .u64 t):Fit c (n.follow t l).s:=by
 unfold Node.follow
 by_cases hc:n.s.hard.term<t
 ·
  exact { h with term:=by simp only[if_pos hc];exact ht,vote:=by simp only[if_pos hc];simp[Lw.rng],commit:=by simp only[if_pos hc];exact h.commit,ballots:=Nat.zero_le _,peers:=Nat.zero_le _,mats:=fun p hp=>by cases hp }
 ·
  exact { h with term:=by simp only[if_neg hc];exact h.term,vote:=by simp only[if_neg hc];exact h.vote,commit:=by simp only[if_neg hc];exact h.commit,ballots:=Nat.zero_le _,peers:=Nat.zero_le _,mats:=fun p hp=>by cases hp }
theorem fit_ballot {frm:Int} {yes:Bool} (h:Fit c n.s):Fit (c+1) (n.addBallot frm yes).s :=
 { h.mono (Nat.le_add_right c 1) with ballots:=by have:=h.ballots;simp only[Node.addBallot,List.length_append,List.length_singleton];omega }
theorem fit_runs {role:Int} (h:Fit c n.s):Fit (c+1) (n.runs role).s :=
 { h.mono (Nat.le_add_right c 1) with ballots:=by simp[Node.runs,Node.addBallot],peers:=Nat.zero_le _,mats:=fun p hp=>by cases hp }
theorem fit_spread (h:Fit c n.s):Fit c n.spread.s:=by rw[spread_s];exact h
theorem fit_feed {q:Peer} (h:Fit c n.s):Fit c (n.feed q).s:=by rw[Node.feed_s];exact h
theorem peerOf_mat {was:List Peer} {o x:Int} (h:∀ p∈was,rng .u64 p.mat):rng .u64 (Node.peerOf was o x).mat:=by
 unfold Node.peerOf
 cases hf:was.find? fun p=>decide (p.node=o) with
 | none=>simp[rng]
 | some q=>exact h q (List.mem_of_find?_eq_some hf)
theorem fit_meet {x:Int} (h:Fit c n.s):Fit c (n.meet x).s :=
 { h with
  peers:=by simp only[Node.meet,List.length_map];exact othersP_within (confP_within h.log) _
  mats:=fun p hp=>by
   obtain⟨o,_,rfl⟩:=List.mem_map.1 hp
   exact peerOf_mat h.mats }
theorem fit_count (h:Fit c n.s):Fit c n.count.s:=by
 by_cases hs:n.com≤n.s.hard.commit∨(termP n.s.log n.com).1≠n.s.hard.term
 ·
  rw[count_stay hs];exact h
 ·
  rw[count_go hs]
  have hw:Fit c (n.wCommit n.com).s:={ h with commit:=Node.com_rng h.mats (lastP_rng h.log).1 }
  split
  ·
   exact fit_follow hw h.term
  ·
   exact hw
theorem fit_put {e:Entry} (h:Fit c n.s) (h1:e.data.length≤c+1) (h2:e.conf.within (c+1)):Fit (c+1) (n.put e).s:=by
 have hz:Fit (c+1) (n.putE { e with index:=up1 n.last,term:=n.s.hard.term }).s :=
  { h.mono (Nat.le_add_right c 1) with
   log:={ h.log.mono (Nat.le_add_right c 1) with
    entries:=fun x hx=>by
     rcases List.mem_append.1 hx with hx | hx
     ·
      exact (h.log.entries x hx).mono (by omega)
     ·
      obtain rfl:=List.mem_singleton.1 hx;exact⟨up1_rng _,h.term,h1,h2⟩
    count:=by have:=h.log.count;simp only[Node.putE,List.length_append,List.length_singleton];omega
    run:=fun k x hk=>by
     by_cases hlt:k<n.s.log.entries.length
     ·
      simp only[Node.putE] at hk
      rw[List.getElem?_append_left hlt] at hk
      exact h.log.run k x hk
     ·
      simp only[Node.putE] at hk
      rw[List.getElem?_append_right (by omega)] at hk
      have hz:=(List.getElem?_eq_some_iff.1 hk).1
      simp only[List.length_singleton] at hz
      have hk0:k=n.s.log.entries.length:=by omega
      subst hk0
      simp only[Nat.sub_self,List.getElem?_cons_zero,Option.some.injEq] at hk
      subst hk
      show up1 (lastP n.s.log).1=_
      rw[h.log.last,up1_wrap]
      exact congrArg IntKind.u64.wrap (by simp only[Node.putE];omega) } }
 have e0:n.put e=((if e.kind=3 then (n.putE { e with index:=up1 n.last,term:=n.s.hard.term }).meet (up1 n.last) else n.putE { e with index:=up1 n.last,term:=n.s.hard.term }).count).spread:=rfl
 rw[e0]
 refine fit_spread (fit_count ?_)
 split
 ·
  exact fit_meet hz
 ·
  exact hz
theorem fit_lead (h:Fit c n.s):Fit (c+1) n.lead.s:=by
 unfold Node.lead
 refine fit_put (fit_meet { h with ballots:=Nat.zero_le _,peers:=Nat.zero_le _,mats:=fun p hp=>by cases hp }) (Nat.zero_le _) (Conf.within.none _)
theorem fit_stand (h:Fit c n.s):Fit (c+2) n.stand.s:=by
 have hz:Fit (c+1) (Node.runs { n with s:={ n.s with hard:={ n.s.hard with term:=up1 n.s.hard.term,vote:=n.s.id } } } 3).s:=fit_runs { h with term:=up1_rng _,vote:=h.id }
 unfold Node.stand
 dsimp only
 split
 ·
  exact fit_lead hz
 ·
  exact hz.mono (by omega)
theorem fit_ask (h:Fit c n.s):Fit (c+3) n.ask.s:=by
 unfold Node.ask
 dsimp only
 split
 ·
  exact fit_stand (fit_runs h)
 ·
  exact (fit_runs (role:=2) h).mono (by omega)
theorem fit_tick {t:Int} (h:Fit c n.s):Fit (c+3) (n.tick t).s:=by
 have hm:c≤c+3:=by omega
 obtain⟨e,he⟩:∃ e,e=min (sup1 n.s.elapsed) (max n.s.elapsed 1073741824):=⟨_,rfl⟩
 have hw:Fit c (n.wElapsed e).s:={ h with }
 by_cases hr:n.s.role≠4
 ·
  by_cases hc:max t 1≤e∧n.votes=true
  ·
   rw[Node.tick_ask e he hr hc];exact fit_ask hw
  ·
   rw[Node.tick_no e he hr hc];exact hw.mono hm
 ·
  obtain⟨b,hb⟩:∃ b,b=if max t 1≤e then ((n.wElapsed e).wElapsed 0).wTransfer 0 else n.wElapsed e:=⟨_,rfl⟩
  have hf:Fit (c+3) b.s:=by
   rw[hb];split
   ·
    exact { hw.mono hm with }
   ·
    exact hw.mono hm
  rw[Node.tick_lead e he hr b hb]
  split
  ·
   exact fit_spread (n:=((b.wBeat (sup1 b.s.beat)).wBeat 0)) { hf with }
  ·
   exact { hf with }
theorem fit_changed (h:Fit c n.s) (k x:Int):(n.changed k x).1.within (c+1):=by
 have h1:(confP n.s.log).1.within (c+1):=(confP_within h.log).mono (by omega)
 unfold Node.changed
 repeat' split
 all_goals first | exact h1 | exact applyP_within (confP_within h.log) _ _
theorem fit_transfer {to:Int} (h:Fit c n.s):Fit c (n.transferTo to).1.s:=by
 unfold Node.transferTo
 split
 ·
  exact h
 ·
  split
  ·
   exact h
  ·
   dsimp only
   split
   ·
    exact { h with }
   ·
    exact fit_feed { h with }
theorem fit_asked {i:Inp} (h:Fit c n.s) (hd:i.data.length≤c+1):Fit (c+1) (n.asked i).1.s:=by
 have hm:c≤c+1:=by omega
 unfold Node.asked
 split
 ·
  exact h.mono hm
 split
 ·
  exact h.mono hm
 split
 ·
  exact (fit_transfer h).mono hm
 dsimp only
 split
 ·
  split
  ·
   exact h.mono hm
  ·
   exact fit_put { h with } (Nat.zero_le _) (fit_changed h _ _)
 ·
  exact fit_put { h with } hd (Conf.within.none _)
theorem fit_stands {m:Msg} {won:Node→Node} {k:Nat} (h:Fit c n.s) (hw:∀ q:Node,Fit (c+1) q.s→Fit (c+1+k) (won q).s):Fit (c+1+k) (n.stands m won).s:=by
 have hb:=fit_ballot (frm:=m.frm) (yes:= !m.reject) h
 unfold Node.stands
 dsimp only
 split
 ·
  exact hw _ hb
 ·
  split
  ·
   exact (fit_follow hb hb.term).mono (by omega)
  ·
   exact hb.mono (by omega)
theorem fit_vote {m:Msg} (h:Fit c n.s) (hm:rng .i64 m.frm):Fit c (n.vote m).s:=by
 unfold Node.vote
 dsimp only
 split
 ·
  exact { h with vote:=hm }
 ·
  exact h
theorem fit_voted {m:Msg} (h:Fit c n.s):Fit (c+2) (n.voted m).s:=by
 unfold Node.voted
 split
 ·
  exact fit_stands (k:=1) h (fun q hq=>fit_lead hq)
 ·
  exact h.mono (by omega)
theorem fit_preVoted {m:Msg} (h:Fit c n.s) (hm:rng .u64 m.term):Fit (c+3) (n.preVoted m).s:=by
 unfold Node.preVoted
 split
 ·
  exact (fit_follow h hm).mono (by omega)
 ·
  split
  ·
   exact fit_stands (k:=2) h (fun q hq=>fit_stand hq)
  ·
   exact h.mono (by omega)
theorem fit_late {m:Msg} (h:Fit c n.s):Fit c (n.late m).s:=by
 unfold Node.late
 split
 ·
  exact h
 ·
  split<;>exact h
end
end Go.Lw
namespace Go.Lw
section
variable {c d:Nat} {n:Node}
theorem fit_calm {f:Int} (h:Fit c n.s):Fit c (n.calm f).s:={ fit_follow (l:=f) h h.term with }
theorem fit_grow {m:Msg} (h:Fit c n.s) (hm:MFit d m) (hc:c+d≤1099511627776):Fit (c+d) (n.grow m).s:=by
 have hw:=(fit_calm (f:=m.frm) h).mono (Nat.le_add_right c d)
 by_cases h0:n.s.role=4
 ·
  unfold Node.grow;rw[if_pos h0];exact h.mono (Nat.le_add_right c d)
 by_cases h1:m.index<(n.calm m.frm).s.hard.commit
 ·
  rw[grow_old h0 h1];exact hw
 obtain⟨G,hG⟩:∃ G,G=mergeP (n.calm m.frm).s.log (n.calm m.frm).s.hard.commit m.index m.logTerm m.entries:=⟨_,rfl⟩
 have hl:LFit (c+d) G.log:=by rw[hG];exact mergeP_fit (fit_calm h).log hm.entries hm.count hc
 by_cases h2:G.err=1∨G.err=62∨m.entries.any (Node.strange (n.calm m.frm).s.hard.term)=true
 ·
  rw[grow_bad h0 h1 hG.symm h2];exact hw
 by_cases h3:G.err=61
 ·
  rw[grow_gap h0 h1 hG.symm h2 h3];exact hw
 rw[grow_ok h0 h1 hG.symm h2 h3]
 have hc1:=hw.commit
 have hc2:=hm.commit
 have hcz:Lw.rng .u64 (max (n.calm m.frm).s.hard.commit (min m.commit (m.index+m.entries.length))):=by
  simp only[Lw.rng] at hc1 hc2 ⊢
  rw[Int.max_def,Int.min_def]
  split<;>split<;>constructor<;>omega
 exact { hw with log:=hl,commit:=hcz }
theorem fit_set {k:Nat} {q:Peer} (h:Fit c n.s) (hq:Lw.rng .u64 q.mat):Fit c (n.raise k q).s :=
 { h with
  peers:=by simp only[Node.raise,Node.wPeers,List.length_set];exact h.peers
  mats:=fun p hp=>by
   rcases List.mem_or_eq_of_mem_set hp with hp | rfl
   ·
    exact h.mats p hp
   ·
    exact hq }
theorem peer_find {o:Int} {q:Peer} (hp:n.peer o=some q):∃ k,n.s.peers.findIdx? (fun p=>decide (p.node=o))=some k:=by
 cases hf:n.s.peers.findIdx? (fun p=>decide (p.node=o)) with
 | some k=>exact⟨k,rfl⟩
 | none =>
  have h1:=List.findIdx?_eq_none_iff.1 hf
  have h2:=h1 q (List.mem_of_find?_eq_some hp)
  have h3:=List.find?_some hp
  rw[h3] at h2;cases h2
noncomputable def Node.mid (a b:Node) (q:Peer):Node:=if a.s.hard.commit<b.s.hard.commit then b.spread else if q.next≤b.last then b.feed q else b
theorem after_fit {a b:Node} {q:Peer} {frm:Int} (h:Fit c (Node.mid a b q).s):Fit c (Node.after a b q frm).s:=by
 have e:Node.after a b q frm=if a.s.transfer=frm∧q.mat=(Node.mid a b q).last then (Node.mid a b q).post { Msg.zero with kind:=9,to:=frm } else Node.mid a b q:=rfl
 rw[e]
 generalize Node.mid a b q=z at h
 split<;>exact h
theorem fit_grown {m:Msg} (h:Fit c n.s) (hm:MFit d m):Fit c (n.grown m).s:=by
 by_cases hno:n.s.role≠4∨n.peer m.frm=none∨n.last<m.index
 ·
  rw[grown_no hno];exact h
 have h0:n.s.role=4:=Classical.byContradiction fun z=>hno (.inl z)
 have h2:¬ n.last<m.index:=fun z=>hno (.inr (.inr z))
 obtain⟨q,hq⟩:∃ q,n.peer m.frm=some q:=by
  cases hp:n.peer m.frm with
  | none=>exact absurd (.inr (.inl hp)) hno
  | some q=>exact⟨q,rfl⟩
 obtain⟨k,hix⟩:=peer_find hq
 have hqm:Lw.rng .u64 q.mat:=h.mats q (List.mem_of_find?_eq_some hq)
 by_cases h3:m.reject=true
 ·
  rw[grown_rej h0 hq h2 h3 hix _ rfl]
  exact fit_feed (fit_set h hqm)
 ·
  rw[grown_yes h0 hq h2 h3 hix]
  have hu:Fit c (n.raise k (q.up m.index)).count.s:=fit_count (fit_set h (by
   have h5:=hm.index
   simp only[Peer.up]
   rw[Int.max_def];split<;>assumption))
  split
  ·
   exact hu
  ·
   refine after_fit ?_
   unfold Node.mid
   split
   ·
    exact fit_spread hu
   ·
    split
    ·
     exact fit_feed hu
    ·
     exact hu
theorem fit_install {s:Snap} (h:Fit c n.s) (hc:c≤1099511627776) (h1:Lw.rng .u64 s.index) (h2:Lw.rng .u64 s.term) (h3:s.data.length≤c) (h4:s.conf.within c) (h5:s.index<p61):Fit c (n.install s).s:=by
 have hx:=h.log.runX hc
 unfold Node.install
 dsimp only
 split
 ·
  rename_i j hj
  have hf:=List.findIdx?_eq_some_iff_getElem.1 hj
  obtain⟨hj0,hj1,_⟩:=hf
  have hj2:(n.s.log.entries[j]).index=s.index:=(of_decide_eq_true hj1).1
  have hj3:=hx j _ (List.getElem?_eq_getElem hj0)
  exact { h with
   commit:=h1
   log:=⟨h1,h2,h4,h3,fun e he=>h.log.entries e (List.mem_of_mem_drop he),Nat.le_trans (by simp only[List.length_drop];omega) h.log.count,h5,fun k e hk=>by
    simp only[List.getElem?_drop] at hk
    have:=hx _ e hk
    have hz:=(List.getElem?_eq_some_iff.1 hk).1
    have hcnt:=h.log.count
    simp only[Lw.rng,p61] at h1 h5
    rw[wrap_id (by simp only;omega) (by simp only;omega)]
    simp only
    omega⟩
   pindex:=by simp[Lw.rng,Coming.zero],pterm:=by simp[Lw.rng,Coming.zero],part:=Nat.zero_le _ }
 ·
  exact { h with
   commit:=h1
   log:=⟨h1,h2,h4,h3,fun e he=>(by cases he),Nat.zero_le _,h5,fun k e hk=>by simp at hk⟩
   pindex:=by simp[Lw.rng,Coming.zero],pterm:=by simp[Lw.rng,Coming.zero],part:=Nat.zero_le _ }
theorem fit_chunk {m:Msg} (h:Fit c n.s) (hm:MFit d m) (hc:c+d≤1099511627776) (hi61:m.index<p61):Fit (c+d) (n.chunk m).s:=by
 have hw:=(fit_calm (f:=m.frm) h).mono (Nat.le_add_right c d)
 by_cases h0:n.s.role=4∨checkP m.conf≠0∨n.s.hard.term<m.logTerm
 ·
  rw[chunk_no h0];exact h.mono (Nat.le_add_right c d)
 by_cases h1:m.index≤(n.calm m.frm).s.hard.commit
 ·
  rw[chunk_old h0 h1];exact hw
 have hl:=takeP_len (n.calm m.frm).s.part m
 have hi:=takeP_ix (n.calm m.frm).s.part m
 obtain⟨T,hT⟩:∃ T,T=takeP (n.calm m.frm).s.part m:=⟨_,rfl⟩
 rw[←hT] at hl hi
 have h4:=(fit_calm (f:=m.frm) h).part
 have h5:=hm.data
 by_cases h2:T.2=false
 ·
  rw[chunk_part h0 h1 hT.symm h2]
  exact { hw with pindex:=by show Lw.rng .u64 T.1.index;rw[hi.1];exact hm.index,pterm:=by show Lw.rng .u64 T.1.term;rw[hi.2];exact hm.logTerm,part:=by show T.1.data.length≤_;omega }
 ·
  rw[chunk_all h0 h1 hT.symm h2]
  refine fit_install hw hc ?_ ?_ ?_ ?_ ?_
  ·
   show Lw.rng .u64 T.1.index;rw[hi.1];exact hm.index
  ·
   show Lw.rng .u64 T.1.term;rw[hi.2];exact hm.logTerm
  ·
   show T.1.data.length≤_;omega
  ·
   exact hm.conf.mono (by omega)
  ·
   show T.1.index<p61;rw[hi.1];exact hi61
theorem fit_chunked {m:Msg} (h:Fit c n.s):Fit c (n.chunked m).s:=by
 unfold Node.chunked
 split
 ·
  exact h
 ·
  split
  ·
   rw[Node.piece_s];exact h
  ·
   exact h
theorem fit_heard {m:Msg} (h:Fit c n.s) (hm:MFit d m) (hc:c+d≤1099511627776) (hi61:m.index<p61):Fit (c+d+3) (n.heard m).s:=by
 unfold Node.heard
 split
 ·
  exact (fit_vote h hm.frm).mono (by omega)
 split
 ·
  exact (fit_voted h).mono (by omega)
 split
 ·
  exact (fit_grow h hm hc).mono (by omega)
 split
 ·
  exact (fit_grown h hm).mono (by omega)
 split
 ·
  exact (fit_chunk h hm hc hi61).mono (by omega)
 split
 ·
  exact (fit_chunked h).mono (by omega)
 ·
  unfold Node.now
  split
  ·
   exact (fit_stand h).mono (by omega)
  ·
   exact h.mono (by omega)
theorem fit_message {m:Msg} (h:Fit c n.s) (hm:MFit d m) (hc:c+d≤1099511627776):Fit (c+d+3) (n.message m).s:=by
 by_cases h0:n.deaf m
 ·
  rw[message_deaf h0];exact h.mono (by omega)
 by_cases h1:m.kind=1
 ·
  rw[message_1 h0 h1];exact h.mono (by omega)
 by_cases h2:m.kind=2
 ·
  rw[message_2 h0 h2];exact (fit_preVoted h hm.term).mono (by omega)
 by_cases h3:m.kind<3∨9<m.kind
 ·
  rw[message_no h0 h1 h2 h3];exact h.mono (by omega)
 have hf:Fit c (n.risen m).s:=by
  unfold Node.risen
  split
  ·
   exact fit_follow h hm.term
  ·
   exact h
 by_cases h4:m.term<(n.risen m).s.hard.term
 ·
  rw[message_late h0 h1 h2 h3 h4];exact (fit_late hf).mono (by omega)
 ·
  rw[message_on h0 h1 h2 h3 h4];exact fit_heard hf hm hc (Classical.byContradiction fun z=>h0 (.inr (.inr (.inr (.inr (.inr (.inl (by omega))))))))
structure IFit (d:Nat) (i:Inp):Prop where
 msg:MFit d i.msg
 data:i.data.length≤d
theorem fit_act {i:Inp} (h:Fit c n.s) (hi:IFit d i) (hc:c+d≤1099511627776):Fit (c+d+3) (n.act i).1.s:=by
 unfold Node.act
 split
 ·
  exact (fit_tick h).mono (by omega)
 split
 ·
  exact fit_message h hi.msg hc
 split
 ·
  exact (fit_asked (h.mono (Nat.le_add_right c d)) (by have:=hi.data;omega)).mono (by omega)
 ·
  exact h.mono (by omega)
theorem fit_step {r:Raft} {i:Inp} (h:Fit c r) (hi:IFit d i) (hc:c+d≤1099511627776):Fit (c+d+3) (stepP r i).1:=by
 by_cases he:((newN r).act i).2≠0
 ·
  rw[stepP_err he];exact h.mono (by omega)
 ·
  rw[stepP_ok he];exact fit_act (n:=newN r) h hi hc
theorem Conf.within.small {x:Conf} (h:x.within c) (hc:c≤1073741824):x.small:=⟨Nat.le_trans h.1 hc,Nat.le_trans h.2 hc⟩
theorem LFit.small {l:Log} (h:LFit c l) (hc:c≤1073741824):l.small :=
 ⟨h.conf.small hc,Nat.le_trans h.data hc,fun e he=>⟨Nat.le_trans (h.entries e he).2.2.1 hc,(h.entries e he).2.2.2.small hc⟩,Nat.le_trans h.count (by omega)⟩
theorem MFit.small {m:Msg} (h:MFit d m) (hd:d≤1073741824):m.small:=⟨fun e he=>⟨Nat.le_trans (h.entries e he).2.2.1 hd,(h.entries e he).2.2.2.small hd⟩,Nat.le_trans h.count hd,h.conf.small hd,Nat.le_trans h.data hd⟩
theorem fit_bears {r:Raft} {i:Inp} (h:Fit c r) (hi:IFit d i) (hc:c+d+3≤1073741824):(newN r).bears i:=by
 have h1:=h.log.count
 have h2:=h.peers
 have h3:=h.ballots
 have h4:=hi.msg.count
 have h5:=hi.msg.data
 have h6:=h.part
 have h7:=hi.data
 refine⟨⟨⟨h.log.small (by omega),?_,?_,Nat.zero_le _,?_⟩,?_,?_,?_,hi.msg.small (by omega)⟩,?_,(fit_changed (n:=newN r) h _ _).small (by omega)⟩
 ·
  show r.log.entries.length+1≤_;omega
 ·
  show r.peers.length≤_;omega
 ·
  show 0+1≤1099511627776;omega
 ·
  show r.ballots.length≤_;omega
 ·
  show r.log.entries.length+_≤_;omega
 ·
  show r.part.data.length+_≤_;omega
 ·
  omega
end
end Go.Lw
namespace Go.Lw
open Go.Proofs
attribute [local irreducible] RL RA
theorem confE_snoc (e:Entry):∀ l:List Entry,confE (l++[e])=if e.kind=3 then some (e.conf,e.index) else confE l
 | []=>by simp only[List.nil_append,confE]
 | x::l=>by
  simp only[List.cons_append,confE,confE_snoc e l]
  by_cases hk:e.kind=3
  ·
   simp only[if_pos hk]
  ·
   simp only[if_neg hk]
def uptoL (l:Log) (upto:Int):Log:=⟨l.base,l.entries.filter fun e=>decide (e.index≤upto)⟩
theorem uptoL_small {l:Log} {upto:Int} (h:l.small):(uptoL l upto).small :=
 ⟨h.1,h.2.1,fun e he=>h.2.2.1 e (List.mem_filter.1 he).1,Nat.le_trans (List.length_filter_le _ _) h.2.2.2⟩
theorem filt_in {l:List Entry} {upto:Int} {k:Nat} (hk:k<l.length) (h:l[k].index≤upto):((l.take (k+1)).filter fun e=>decide (e.index≤upto))=((l.take k).filter fun e=>decide (e.index≤upto))++[l[k]]:=by
 rw[List.take_succ_eq_append_getElem hk,List.filter_append];simp[h]
theorem filt_out {l:List Entry} {upto:Int} {k:Nat} (hk:k<l.length) (h:¬ l[k].index≤upto):((l.take (k+1)).filter fun e=>decide (e.index≤upto))=((l.take k).filter fun e=>decide (e.index≤upto)):=by
 rw[List.take_succ_eq_append_getElem hk,List.filter_append];simp[h]
section
variable {w:World} {s:Res} {os:List Res}
theorem RefLast_ct {l:Log} {h:Hd} (hg:Good w s os) (hl:LogAt s s l h) :
  Calls Tryz.prog 39 #[logA l h] w (PostV w s os fun q=>q = .tuple #[u64 (lastP l).1,u64 (lastP l).2]):=by
 have hm:=hl.entries.le_max
 simp only[maxLen] at hm
 refine enter (l:=[logA l h]) Tryz.func39 rfl Tryz.ntmps39 rfl ?_
 refine go 3 ?_
 rintro b1 w1 Q1 (hg1:Good _ s (Q1::os)) hax1 hb1
 refine go 12 ?_
 refine CW.cond rfl (fun h8=>?_) (fun h8=>?_)
 ·
  have h0:l.entries=[]:=by simpa using h8
  refine go 1 ?_
  have hg2:=hg1.drew
  refine CW.dw [1,3,5,7,9,11,12,14] (fun w=>At1 b1 _ w∧True) ?_
  refine go 9 ?_
  refine CW.ret (zr2 ?_)
  exact PostV.mq (hg2.drop) (by simp only[lastP,h0,List.getLast?_nil];rfl)
 ·
  have h0:0<l.entries.length:=List.length_pos_iff.2 (by simpa using h8)
  refine go 9 ?_
  refine RL.idxL rfl rfl rfl rfl sl31.out rfl rfl hl.entries (by omega) (by omega) ?_
  rintro q vs hvl hH ⟨ea,ec,ea1,ec1,ea2,ec2,rfl,er1,er2,er3,eh1,eh2,eh3⟩
  refine RL.loads (j:=0) (us:=_) rfl rfl rfl rfl ty65.out rfl (hH) (hg1.sh) rfl rfl ?_
  refine go 1 ?_
  rintro b3 w3 Q3 (hg3:Good _ s (Q3::Q1::os)) hax3 hb3
  refine go 2 ?_
  rintro w4 Q4 (hg4:Good _ s (Q4::Q1::os)) hax4 hb4
  refine go 3 ?_
  have hg5:=hg4.drew
  refine CW.dw [1,3,5,7,8,10] (fun w=>At1 b3 _ w∧True) ?_
  refine go 7 ?_
  refine CW.ret (zr2 ?_)
  have hz:l.entries.getLast?=some l.entries[((l.entries.length:Int)-1).toNat]:=by rw[List.getLast?_eq_getElem?,List.getElem?_eq_getElem (by omega)];congr 2;omega
  exact PostV.mq ((hg5.drop).drop) (by simp only[lastP,hz];rfl)
theorem RefUptoX_ct {l:Log} {h:Hd} {upto:Int} (hg:Good w s os) (hl:LogAt s s l h) (hS:l.small) :
  Calls Tryz.prog 48 #[logA l h,u64 upto] w (Post w s os fun s' _ q=>∃ vs,q = .tuple #[.agg vs.toArray,u64 (confP (uptoL l upto)).2]∧RConf s' vs (confP (uptoL l upto)).1):=by
 have hlen:=hS.2.2.2
 have hcs:=confP_small (uptoL_small (upto:=upto) hS)
 refine enter (l:=[logA l h,u64 upto]) Tryz.func48 rfl Tryz.ntmps48 rfl ?_
 refine go 3 ?_
 rintro b6 w6 Q6 (hg6:Good _ s (Q6::os)) hax6 hb6
 refine go 2 ?_
 rintro b7 w7 Q7 (hg7:Good _ s (Q7::Q6::os)) hax7 hb7
 refine go 9 ?_
 rintro b8 w8 Q8 (hg8:Good _ s (Q8::Q7::Q6::os)) hax8 hb8
 refine go 2 ?_
 rintro w9 Q9 (hg9:Good _ s (Q9::Q7::Q6::os)) hax9 hb9
 refine go 12 ?_
 refine CW.loop (σ:=Nat) (fun j E w'=>∃ Q va vc la lc,∃ k:Nat,∃ cur:Conf × Int,Good w' s (Q::Q7::Q6::os)∧Aux w w'∧E=[(1,u64 upto),(2,ptr b6),(4,ptr b7),(6,ptr b8),(7,u64 cur.2),(8,i64 k)]∧k+j=l.entries.length∧cur=(confE (l.entries.take k |>.filter fun e=>decide (e.index≤upto))).getD (l.base.conf,0)∧Q b8=some (.cells #[.slice va cur.1.voters.length vc,.slice la cur.1.learners.length lc] 27 (0,0))∧RConf s [.slice va cur.1.voters.length vc,.slice la cur.1.learners.length lc] cur.1) (fun j=>j) l.entries.length [(1,u64 upto),(2,ptr b6),(4,ptr b7),(6,ptr b8),(7,u64 0),(8,i64 0)] ⟨rfl,rfl,rfl,rfl,rfl,rfl,trivial⟩ ⟨_,_,_,_,_,0,(l.base.conf,0),(((hg9.front 2 rfl).front 2 rfl).front 2 rfl),(hax6.trans (hax7.trans (hax8.trans hax9))),rfl,by omega,rfl,hb9,hl.conf⟩ ?_
 rintro j E wL ⟨QL,va,vc,la,lc,k,cur,hgL,haxL,rfl,hk,hcur,hQL,hCL⟩
 refine go 9 ?_
 refine CW.cond rfl (fun h16=>?_) (fun h16=>?_)
 ·
  have hlt:k<l.entries.length:=by have:=decide_t h16;omega
  have hft:=filt_in (upto:=upto) hlt
  have hff:=filt_out (upto:=upto) hlt
  refine go 8 ?_
  refine RL.idxL rfl rfl rfl rfl sl31.out rfl rfl hl.entries (by omega) (by omega) ?_
  rintro q vs hvl hH ⟨ea,ec,ea1,ec1,ea2,ec2,rfl,er1,er2,er3,eh1,eh2,eh3⟩
  refine go 1 ?_
  refine RL.load (j:=2) rfl rfl rfl rfl ty63.out rfl (hH) (hgL.sh) rfl ?_
  refine go 2 ?_
  refine RL.part 26 rfl (fun h26=>?_) (fun h26=>?_)
  ·
   refine go 3 ?_
   refine RL.idxL rfl rfl rfl rfl sl31.out rfl rfl hl.entries (by omega) (by omega) ?_
   rintro q2 vs2 hvl2 hH2 ⟨fa,fc,fa1,fc1,fa2,fc2,rfl,fr1,fr2,fr3,fh1,fh2,fh3⟩
   refine go 1 ?_
   refine RL.load (j:=0) rfl rfl rfl rfl ty22.out rfl (hH2) (hgL.sh) rfl ?_
   refine go 4 ?_
   refine CW.cond rfl (fun h35=>?_) (fun h35=>?_)
   ·
    refine go 5 ?_
    refine RL.idxL rfl rfl rfl rfl sl31.out rfl rfl hl.entries (by omega) (by omega) ?_
    rintro q3 vs3 hvl3 hH3 ⟨ga,gc,ga1,gc1,ga2,gc2,rfl,gr1,gr2,gr3,gh1,gh2,gh3⟩
    refine go 1 ?_
    refine RL.loads (j:=4) (us:=[.slice ga1 l.entries[k].conf.voters.length gc1,.slice ga2 l.entries[k].conf.learners.length gc2]) rfl rfl rfl rfl ty27.out rfl (hH3) (hgL.sh) rfl rfl ?_
    refine go 1 ?_
    rintro w10 Q10 (hg10:Good _ s (Q10::Q7::Q6::os)) hax10 hb10
    refine go 6 ?_
    refine RL.idxL rfl rfl rfl rfl sl31.out rfl rfl hl.entries (by omega) (by omega) ?_
    rintro q4 vs4 hvl4 hH4 ⟨ka,kc,ka1,kc1,ka2,kc2,rfl,kr1,kr2,kr3,kh1,kh2,kh3⟩
    refine go 1 ?_
    refine RL.load (j:=0) rfl rfl rfl rfl ty22.out rfl (hH4) (hg10.sh) rfl ?_
    refine go 7 ?_
    cases j with
    | zero=>omega
    | succ j=>exact fun ac ha=>⟨j,[(1,u64 upto),(2,ptr b6),(4,ptr b7),(6,ptr b8),(7,u64 l.entries[k].index),(8,i64 ((k:Int)+1))],ha.sub ⟨rfl,rfl,rfl,rfl,rfl,rfl,trivial⟩,⟨_,ga1,gc1,ga2,gc2,k+1,(l.entries[k].conf,l.entries[k].index),hg10,(haxL.trans hax10),rfl,by omega,by rw[hft (decide_t h35),confE_snoc,if_pos (show l.entries[k].kind=3 by simpa using h26)];rfl,hb10,⟨_,_,_,_,rfl,gh2,gh3⟩⟩,Nat.lt_succ_self j⟩
   ·
    refine go 6 ?_
    cases j with
    | zero=>omega
    | succ j=>exact fun ac ha=>⟨j,[(1,u64 upto),(2,ptr b6),(4,ptr b7),(6,ptr b8),(7,u64 cur.2),(8,i64 ((k:Int)+1))],ha.sub ⟨rfl,rfl,rfl,rfl,rfl,rfl,trivial⟩,⟨_,va,vc,la,lc,k+1,cur,hgL,haxL,rfl,by omega,by rw[hff (decide_f h35)];exact hcur,hQL,hCL⟩,Nat.lt_succ_self j⟩
  ·
   refine go 17 ?_
   cases j with
   | zero=>omega
   | succ j=>exact fun ac ha=>⟨j,[(1,u64 upto),(2,ptr b6),(4,ptr b7),(6,ptr b8),(7,u64 cur.2),(8,i64 ((k:Int)+1))],ha.sub ⟨rfl,rfl,rfl,rfl,rfl,rfl,trivial⟩,⟨_,va,vc,la,lc,k+1,cur,hgL,haxL,rfl,by omega,(by by_cases hi:l.entries[k].index≤upto;rw[hft hi,confE_snoc,if_neg (show ¬ l.entries[k].kind=3 by simpa using h26)];exact hcur;rw[hff hi];exact hcur),hQL,hCL⟩,Nat.lt_succ_self j⟩
 ·
  have hkl:k=l.entries.length:=by have:=decide_f h16;omega
  have hcp:cur=confP (uptoL l upto):=by rw[hcur,hkl,List.take_length];rfl
  refine go 5 ?_
  refine zc (CloneConf_ct hgL hCL (by rw[hcp];exact hcs.fits)) ?_
  rintro v11 s11 B11 w11 hle11 (hg11:Good _ s11 (B11::QL::Q7::Q6::os)) hax11 ⟨us49,rfl,hU49⟩
  have hg11:=hg11.drop
  rw[hcp] at hU49
  obtain⟨ua,uc,ub,ud,rfl,hua,hub⟩:=hU49
  refine go 3 ?_
  rintro w12 Q12 (hg12:Good _ s11 (QL::Q12::Q6::os)) hax12 hb12
  refine go 3 ?_
  refine CW.ret (ret (vs:=[_,_]) ⟨_,_,_,rfl,rfl,zl hb12,_,_,rfl,rfl,rfl⟩ ?_)
  exact Post.mq (((hg12.drop).drop).drop).nil ⟨_,by rw[hcp];rfl,⟨ua,uc,ub,ud,rfl,hua,hub⟩⟩
end
end Go.Lw
namespace Go.Lw
structure Sound (c:Nat) (r:Raft):Prop where
 run:runE r.log.base.index r.log.base.term r.log.entries=true
 bt:r.log.base.term≤r.hard.term
 low:r.log.base.index≤r.hard.commit
 high:r.hard.commit≤(lastP r.log).1
 lt:(lastP r.log).2≤r.hard.term
 tb:r.hard.term≤p61+c
 vote:0≤r.hard.vote∧r.hard.vote≤7
 role:1≤r.role∧r.role≤4
 id:1≤r.id∧r.id≤7
 lead:3≤r.role→1≤r.hard.term
 t0:0≤r.hard.term
structure Rel (r q:Raft):Prop where
 term:r.hard.term≤q.hard.term
 commit:r.hard.commit≤q.hard.commit
 vote:q.hard.term=r.hard.term→r.hard.vote≠0→q.hard.vote=r.hard.vote
 base:r.log.base.index≤q.log.base.index
 kept:∀ e∈r.log.entries,e.index≤r.hard.commit→e∈q.log.entries∨e.index<q.log.base.index
theorem Rel.refl (r:Raft):Rel r r:=⟨Int.le_refl _,Int.le_refl _,fun _ _=>rfl,Int.le_refl _,fun _ he _=> .inl he⟩
theorem Rel.trans {r q p:Raft} (h:Rel r q) (k:Rel q p):Rel r p :=
 ⟨Int.le_trans h.term k.term,Int.le_trans h.commit k.commit,fun ht hv=>by
  have h1:=h.term;have h2:=k.term
  have h3:=h.vote (by omega) hv
  exact (k.vote (by omega) (by rw[h3];exact hv)).trans h3,Int.le_trans h.base k.base,fun e he hc=>by
  rcases h.kept e he hc with h1 | h1
  ·
   exact k.kept e h1 (Int.le_trans hc h.commit)
  ·
   exact .inr (Int.lt_of_lt_of_le h1 k.base)⟩
theorem Sound.mono {c d:Nat} {r:Raft} (h:Sound c r) (hd:c≤d):Sound d r:={ h with tb:=by have:=h.tb;omega }
section
variable {c d:Nat} {n:Node}
def Goes (d:Nat) (r q:Raft):Prop:=Sound d q∧Rel r q
theorem Goes.self {r:Raft} (h:Sound c r):Goes c r r:=⟨h,Rel.refl r⟩
theorem Goes.mono {r q:Raft} (h:Goes c r q) (hd:c≤d):Goes d r q:=⟨h.1.mono hd,h.2⟩
theorem go_follow {t l:Int} (h:Sound c n.s) (ht:t≤p61):Goes c n.s (n.follow t l).s:=by
 have h0:=h.t0
 unfold Node.follow
 by_cases hc:n.s.hard.term<t
 ·
  simp only[if_pos hc]
  refine⟨⟨h.run,Int.le_trans h.bt (Int.le_of_lt hc),h.low,h.high,Int.le_trans h.lt (Int.le_of_lt hc),by dsimp only;omega,by dsimp only;omega,by dsimp only;omega,h.id,fun z=>by dsimp only at z;omega,by dsimp only;omega⟩,⟨Int.le_of_lt hc,Int.le_refl _,fun he=>?_,Int.le_refl _,fun _ he _=> .inl he⟩⟩
  dsimp only at he;omega
 ·
  simp only[if_neg hc]
  exact⟨{ h with role:=by dsimp only;omega,lead:=fun z=>by dsimp only at z;omega },⟨Int.le_refl _,Int.le_refl _,fun _ _=>rfl,Int.le_refl _,fun _ he _=> .inl he⟩⟩
theorem go_ballot {frm:Int} {yes:Bool} (h:Sound c n.s):Goes c n.s (n.addBallot frm yes).s:=⟨{ h with },{ Rel.refl n.s with }⟩
theorem go_runs {role:Int} (h:Sound c n.s) (hr:1≤role∧role≤4) (hl:3≤role→1≤n.s.hard.term):Goes c n.s (n.runs role).s:=⟨{ h with role:=hr,lead:=hl },{ Rel.refl n.s with }⟩
theorem go_meet {x:Int} (h:Sound c n.s):Goes c n.s (n.meet x).s:=⟨{ h with },{ Rel.refl n.s with }⟩
theorem runE_append:∀ {l m:List Entry} {i t:Int},runE i t l=true→runE ((l.getLast?.map (·.index)).getD i) ((l.getLast?.map (·.term)).getD t) m=true→runE i t (l++m)=true
 | [],m,i,t,_,h=>by simpa using h
 | e::l,m,i,t,h,k=>by
  simp only[runE,Bool.and_eq_true] at h
  simp only[List.cons_append,runE,Bool.and_eq_true]
  refine⟨h.1,runE_append h.2 ?_⟩
  cases l with
  | nil=>simpa using k
  | cons x l =>
   obtain⟨z,hz⟩:∃ z,(x::l).getLast?=some z:=⟨_,List.getLast?_cons⟩
   rw[List.getLast?_cons_cons,hz] at k
   rw[hz]
   exact k
theorem lastP_eq (l:Log):lastP l=((l.entries.getLast?.map (·.index)).getD l.base.index,(l.entries.getLast?.map (·.term)).getD l.base.term):=by
 unfold lastP
 cases l.entries.getLast?<;>rfl
theorem termP_found {l:Log} {i:Int} (h:(termP l i).1≠0):(termP l i).2=true:=by
 unfold termP at h ⊢
 split
 ·
  rfl
 ·
  rename_i hi
  rw[if_neg hi] at h
  split
  ·
   rename_i e he
   rw[he] at h
   simp only at h
   split
   ·
    rfl
   ·
    rename_i hz;rw[if_neg hz] at h;exact absurd rfl h
  ·
   rename_i he
   rw[he] at h;exact absurd rfl h
theorem Sound.runX {r:Raft} (h:Sound c r):RunX r.log:=fun k e hk=>runE_get h.run k e hk
theorem go_count (h:Sound c n.s) (ht:1≤n.s.hard.term):Goes c n.s n.count.s:=by
 by_cases hs:n.com≤n.s.hard.commit∨(termP n.s.log n.com).1≠n.s.hard.term
 ·
  rw[count_stay hs];exact Goes.self h
 ·
  rw[count_go hs]
  have h1:n.s.hard.commit<n.com:=by omega
  have h2:(termP n.s.log n.com).1=n.s.hard.term:=Classical.byContradiction fun z=>hs (.inr z)
  have h3:=h.runX.term (termP_found (l:=n.s.log) (i:=n.com) (by omega))
  have h4:=h.runX.last
  have hw:Goes c n.s (n.wCommit n.com).s:=⟨{ h with low:=by have:=h.low;show n.s.log.base.index≤n.com;omega,high:=by show n.com≤(lastP n.s.log).1;omega },⟨Int.le_refl _,Int.le_of_lt h1,fun _ _=>rfl,Int.le_refl _,fun _ he _=> .inl he⟩⟩
  split
  ·
   refine⟨?_,?_⟩
   ·
    unfold Node.follow
    simp only[show ¬ (n.wCommit n.com).s.hard.term<n.s.hard.term from Int.lt_irrefl _,if_false]
    exact { hw.1 with role:=by dsimp only;omega,lead:=fun z=>by dsimp only at z;omega }
   ·
    unfold Node.follow
    simp only[show ¬ (n.wCommit n.com).s.hard.term<n.s.hard.term from Int.lt_irrefl _,if_false]
    exact { hw.2 with }
  ·
   exact hw
theorem go_spread {r:Raft} (h:Goes d r n.s):Goes d r n.spread.s:=by rw[spread_s];exact h
theorem go_putE {e:Entry} (h:Sound c n.s) (hf:Fit d n.s) (hd:d≤1099511627776) (hk:kindOk e=true) (hc:c≤1099511627776):Goes c n.s (n.putE { e with index:=up1 n.last,term:=n.s.hard.term }).s:=by
 have hl:=h.runX.last
 have hcnt:=hf.log.count
 have hlow:=hf.log.low
 have hix:=hf.log.index
 have htb:=h.tb
 simp only[rng,p61] at hlow hix htb
 have hu:up1 n.last=n.last+1:=up1_eq (by show 0≤(lastP n.s.log).1;omega) (by show (lastP n.s.log).1<_;omega)
 have hlast:lastP (n.putE { e with index:=up1 n.last,term:=n.s.hard.term }).s.log=(up1 n.last,n.s.hard.term):=by
  unfold lastP Node.putE;simp
 refine⟨{ h with
  run:=?_
  high:=by rw[hlast,hu];have:=h.high;show n.s.hard.commit≤(lastP n.s.log).1+1;omega
  lt:=by rw[hlast];exact Int.le_refl _ },{ Rel.refl n.s with kept:=fun x hx _=> .inl (List.mem_append_left _ hx) }⟩
 refine runE_append h.run ?_
 have he:=lastP_eq n.s.log
 have h1:(n.s.log.entries.getLast?.map (·.index)).getD n.s.log.base.index=n.last:=by unfold Node.last;rw[he]
 have h2:(n.s.log.entries.getLast?.map (·.term)).getD n.s.log.base.term=(lastP n.s.log).2:=by rw[he]
 show runE ((n.s.log.entries.getLast?.map (·.index)).getD n.s.log.base.index) ((n.s.log.entries.getLast?.map (·.term)).getD n.s.log.base.term) _=true
 rw[h1,h2]
 have h3:=h.lt
 have h4:kindOk { e with index:=up1 n.last,term:=n.s.hard.term }=true:=hk
 simp only[runE,followsP,Bool.and_true,Bool.and_eq_true,decide_eq_true_eq]
 exact⟨⟨⟨hu,h3⟩,by simp only[p62];omega⟩,h4⟩
theorem Goes.then_ {r q p:Raft} {c d:Nat} (h:Goes c r q) (k:Goes d q p):Goes d r p:=⟨k.1,h.2.trans k.2⟩
theorem go_put {e:Entry} (h:Sound c n.s) (hf:Fit d n.s) (hd:d≤1099511627776) (hc:c≤1099511627776) (hk:kindOk e=true) (ht:1≤n.s.hard.term):Goes c n.s (n.put e).s:=by
 have hz:=go_putE h hf hd hk hc
 have e0:n.put e=((if e.kind=3 then (n.putE { e with index:=up1 n.last,term:=n.s.hard.term }).meet (up1 n.last) else n.putE { e with index:=up1 n.last,term:=n.s.hard.term }).count).spread:=rfl
 rw[e0]
 refine go_spread ?_
 split
 ·
  exact (hz.then_ (go_meet hz.1)).then_ (go_count (go_meet (x:=up1 n.last) hz.1).1 ht)
 ·
  exact hz.then_ (go_count hz.1 ht)
theorem go_lead (h:Sound c n.s) (hf:Fit d n.s) (hd:d≤1099511627776) (hc:c≤1099511627776) (ht:1≤n.s.hard.term):Goes c n.s n.lead.s:=by
 unfold Node.lead
 have h1:Goes c n.s (Node.mk { n.s with role:=4,leader:=n.s.id,ballots:=[],elapsed:=0,beat:=0,transfer:=0,peers:=[] } n.o).s:=⟨{ h with role:=by dsimp only;omega,lead:=fun _=>ht },{ Rel.refl n.s with }⟩
 have h2:=go_meet (n:=Node.mk { n.s with role:=4,leader:=n.s.id,ballots:=[],elapsed:=0,beat:=0,transfer:=0,peers:=[] } n.o) (x:=up1 n.last) h1.1
 exact (h1.then_ h2).then_ (go_put h2.1 (fit_meet { hf with ballots:=Nat.zero_le _,peers:=Nat.zero_le _,mats:=fun p hp=>by cases hp }) hd hc (by decide) ht)
theorem go_rise (h:Sound c n.s) (hc:c≤1099511627776):Goes (c+1) n.s (Node.mk { n.s with hard:={ n.s.hard with term:=up1 n.s.hard.term,vote:=n.s.id } } n.o).s∧1≤up1 n.s.hard.term:=by
 have htb:=h.tb
 have h0:=h.t0
 simp only[p61] at htb
 have hu:up1 n.s.hard.term=n.s.hard.term+1:=up1_eq (by omega) (by omega)
 have hid:=h.id
 have hbt:=h.bt
 have hlt:=h.lt
 refine⟨⟨{ h with bt:=by dsimp only;omega,lt:=by dsimp only;omega,tb:=by dsimp only;simp only[p61];omega,vote:=by dsimp only;omega,lead:=fun _=>by dsimp only;omega,t0:=by dsimp only;omega },⟨by dsimp only;omega,Int.le_refl _,fun he=>by dsimp only at he;omega,Int.le_refl _,fun _ he _=> .inl he⟩⟩,by omega⟩
theorem go_stand (h:Sound c n.s) (hf:Fit d n.s) (hd:d+1≤1099511627776) (hc:c+1≤1099511627776):Goes (c+1) n.s n.stand.s:=by
 obtain⟨h1,h2⟩:=go_rise h (by omega)
 obtain⟨m,hm⟩:∃ m:Node,m=Node.mk { n.s with hard:={ n.s.hard with term:=up1 n.s.hard.term,vote:=n.s.id } } n.o:=⟨_,rfl⟩
 have ht:1≤m.s.hard.term:=by rw[hm];exact h2
 have hfm:Fit d m.s:=by rw[hm];exact { hf with term:=up1_rng _,vote:=hf.id }
 rw[←hm] at h1
 have h3:=go_runs (role:=3) h1.1 (by omega) (fun _=>ht)
 have e:n.stand=if (m.runs 3).tally=1 then (m.runs 3).lead else (m.runs 3).question 3 (m.runs 3).s.hard.term:=by rw[hm];rfl
 rw[e]
 split
 ·
  exact (h1.then_ h3).then_ (go_lead h3.1 (fit_runs hfm) hd hc ht)
 ·
  exact h1.then_ h3
theorem go_ask (h:Sound c n.s) (hf:Fit d n.s) (hd:d+2≤1099511627776) (hc:c+1≤1099511627776):Goes (c+1) n.s n.ask.s:=by
 have h1:=go_runs (role:=2) h (by omega) (fun z=>by omega)
 have e:n.ask=if (n.runs 2).tally=1 then (n.runs 2).stand else (n.runs 2).question 1 (up1 (n.runs 2).s.hard.term):=rfl
 rw[e]
 split
 ·
  exact h1.then_ (go_stand h1.1 (fit_runs hf) (by omega) hc)
 ·
  exact h1.mono (by omega)
theorem go_tick {t:Int} (h:Sound c n.s) (hf:Fit d n.s) (hd:d+2≤1099511627776) (hc:c+1≤1099511627776):Goes (c+1) n.s (n.tick t).s:=by
 obtain⟨e,he⟩:∃ e,e=min (sup1 n.s.elapsed) (max n.s.elapsed 1073741824):=⟨_,rfl⟩
 have hw:Goes c n.s (n.wElapsed e).s:=⟨{ h with },{ Rel.refl n.s with }⟩
 by_cases hr:n.s.role≠4
 ·
  by_cases hv:max t 1≤e∧n.votes=true
  ·
   rw[Node.tick_ask e he hr hv];exact hw.then_ (go_ask hw.1 { hf with } hd hc)
  ·
   rw[Node.tick_no e he hr hv];exact hw.mono (by omega)
 ·
  obtain⟨b,hb⟩:∃ b,b=if max t 1≤e then ((n.wElapsed e).wElapsed 0).wTransfer 0 else n.wElapsed e:=⟨_,rfl⟩
  have hg:Goes (c+1) n.s b.s:=by
   rw[hb];split
   ·
    exact⟨{ h.mono (Nat.le_add_right c 1) with },{ Rel.refl n.s with }⟩
   ·
    exact hw.mono (by omega)
  rw[Node.tick_lead e he hr b hb]
  split
  ·
   exact go_spread (n:=((b.wBeat (sup1 b.s.beat)).wBeat 0)) ⟨{ hg.1 with },{ hg.2 with }⟩
  ·
   exact⟨{ hg.1 with },{ hg.2 with }⟩
theorem go_vote {m:Msg} (h:Sound c n.s) (hm:1≤m.frm∧m.frm≤7):Goes c n.s (n.vote m).s:=by
 unfold Node.vote
 dsimp only
 split
 ·
  rename_i hy
  have hv:n.s.hard.vote=0∨n.s.hard.vote=m.frm:=by
   simp only[Bool.and_eq_true,decide_eq_true_eq] at hy;exact hy.1.1
  exact⟨{ h with vote:=by show 0≤m.frm∧m.frm≤7;omega },{ Rel.refl n.s with vote:=fun _ hz=>by show m.frm=n.s.hard.vote;rcases hv with hv | hv;exact absurd hv hz;exact hv.symm }⟩
 ·
  exact Goes.self h
theorem go_voted {m:Msg} (h:Sound c n.s) (hf:Fit d n.s) (hd:d+1≤1099511627776) (hc:c≤1099511627776):Goes (c+1) n.s (n.voted m).s:=by
 have hw:∀ q:Node,Fit (d+1) q.s→Sound c q.s→3≤q.s.role→Goes (c+1) q.s q.lead.s:=fun q h1 h2 h3=>(go_lead h2 h1 hd hc (h2.lead h3)).mono (by omega)
 have hb:=go_ballot (frm:=m.frm) (yes:= !m.reject) h
 have hfb:=fit_ballot (frm:=m.frm) (yes:= !m.reject) hf
 unfold Node.voted
 split
 ·
  rename_i hr
  unfold Node.stands
  dsimp only
  split
  ·
   exact hb.then_ (hw _ hfb hb.1 (by show 3≤n.s.role;omega))
  ·
   split
   ·
    refine hb.then_ (Goes.mono (?_:Goes c _ _) (by omega))
    unfold Node.follow
    simp only[Int.lt_irrefl,if_false]
    exact⟨{ hb.1 with role:=by dsimp only;omega,lead:=fun z=>by dsimp only at z;omega },{ Rel.refl _ with }⟩
   ·
    exact hb.mono (by omega)
 ·
  exact (Goes.self h).mono (by omega)
theorem go_late {m:Msg} (h:Sound c n.s):Goes c n.s (n.late m).s:=by
 unfold Node.late
 split
 ·
  exact Goes.self h
 ·
  split<;>exact Goes.self h
theorem go_transfer {to:Int} (h:Sound c n.s):Goes c n.s (n.transferTo to).1.s:=by
 unfold Node.transferTo
 split
 ·
  exact Goes.self h
 ·
  split
  ·
   exact Goes.self h
  ·
   dsimp only
   split
   ·
    exact⟨{ h with },{ Rel.refl n.s with }⟩
   ·
    rw[Node.feed_s];exact⟨{ h with },{ Rel.refl n.s with }⟩
theorem go_asked {i:Inp} (h:Sound c n.s) (hf:Fit d n.s) (hd:d≤1099511627776) (hc:c≤1099511627776):Goes c n.s (n.asked i).1.s:=by
 unfold Node.asked
 split
 ·
  exact Goes.self h
 rename_i hr
 have h4:n.s.role=4:=Classical.byContradiction fun z=>hr z
 have ht:=h.lead (by omega)
 split
 ·
  exact Goes.self h
 split
 ·
  exact go_transfer h
 dsimp only
 split
 ·
  split
  ·
   exact Goes.self h
  ·
   exact go_put (n:=Node.mk n.s { n.o with index:=up1 n.last,term:=n.s.hard.term }) h hf hd hc rfl ht
 ·
  exact go_put (n:=Node.mk n.s { n.o with index:=up1 n.last,term:=n.s.hard.term }) h hf hd hc rfl ht
theorem go_preVoted {m:Msg} (h:Sound c n.s) (hf:Fit d n.s) (hd:d+2≤1099511627776) (hc:c+1≤1099511627776) (hm:m.term≤p61):Goes (c+1) n.s (n.preVoted m).s:=by
 unfold Node.preVoted
 split
 ·
  exact (go_follow h hm).mono (by omega)
 ·
  split
  ·
   have hb:=go_ballot (frm:=m.frm) (yes:= !m.reject) h
   have hfb:=fit_ballot (frm:=m.frm) (yes:= !m.reject) hf
   unfold Node.stands
   dsimp only
   split
   ·
    exact hb.then_ (go_stand hb.1 hfb (by omega) hc)
   ·
    split
    ·
     refine hb.then_ (Goes.mono (?_:Goes c _ _) (by omega))
     unfold Node.follow
     simp only[Int.lt_irrefl,if_false]
     exact⟨{ hb.1 with role:=by dsimp only;omega,lead:=fun z=>by dsimp only at z;omega },{ Rel.refl _ with }⟩
    ·
     exact hb.mono (by omega)
  ·
   exact (Goes.self h).mono (by omega)
theorem go_now (h:Sound c n.s) (hf:Fit d n.s) (hd:d+1≤1099511627776) (hc:c+1≤1099511627776):Goes (c+1) n.s n.now.s:=by
 unfold Node.now
 split
 ·
  exact go_stand h hf hd hc
 ·
  exact (Goes.self h).mono (by omega)
theorem go_feed {r:Raft} {q:Peer} (h:Goes d r n.s):Goes d r (n.feed q).s:=by rw[Node.feed_s];exact h
theorem go_set {k:Nat} {q:Peer} (h:Sound c n.s):Goes c n.s (n.raise k q).s:=⟨{ h with },{ Rel.refl n.s with }⟩
theorem go_grown {m:Msg} (h:Sound c n.s):Goes c n.s (n.grown m).s:=by
 by_cases hno:n.s.role≠4∨n.peer m.frm=none∨n.last<m.index
 ·
  rw[grown_no hno];exact Goes.self h
 have h0:n.s.role=4:=Classical.byContradiction fun z=>hno (.inl z)
 have h2:¬ n.last<m.index:=fun z=>hno (.inr (.inr z))
 have ht:=h.lead (by omega)
 obtain⟨q,hq⟩:∃ q,n.peer m.frm=some q:=by
  cases hp:n.peer m.frm with
  | none=>exact absurd (.inr (.inl hp)) hno
  | some q=>exact⟨q,rfl⟩
 obtain⟨k,hix⟩:=peer_find hq
 by_cases h3:m.reject=true
 ·
  rw[grown_rej h0 hq h2 h3 hix _ rfl]
  exact go_feed (go_set h)
 ·
  rw[grown_yes h0 hq h2 h3 hix]
  have hs:=go_set (k:=k) (q:=q.up m.index) h
  have hu:Goes c n.s (n.raise k (q.up m.index)).count.s:=hs.then_ (go_count hs.1 ht)
  split
  ·
   exact hu
  ·
   have e:(Node.after (n.raise k (q.up m.index)) (n.raise k (q.up m.index)).count (q.up m.index) m.frm).s=(Node.mid (n.raise k (q.up m.index)) (n.raise k (q.up m.index)).count (q.up m.index)).s:=by
    have e0:∀ a b:Node,∀ q:Peer,∀ f:Int,(Node.after a b q f).s=(Node.mid a b q).s:=fun a b q f=>by
     have e:Node.after a b q f=if a.s.transfer=f∧q.mat=(Node.mid a b q).last then (Node.mid a b q).post { Msg.zero with kind:=9,to:=f } else Node.mid a b q:=rfl
     rw[e]
     generalize Node.mid a b q=z
     split<;>rfl
    exact e0 _ _ _ _
   rw[e]
   unfold Node.mid
   split
   ·
    exact go_spread hu
   ·
    split
    ·
     exact go_feed hu
    ·
     exact hu
theorem runE_drop:∀ {l:List Entry} {i t:Int} (k:Nat) (hk:k<l.length),runE i t l=true→runE l[k].index l[k].term (l.drop (k+1))=true
 | e::l,i,t,0,_,h=>by
  simp only[runE,Bool.and_eq_true] at h
  simpa using h.2
 | e::l,i,t,k+1,hk,h=>by
  simp only[runE,Bool.and_eq_true] at h
  simpa using runE_drop k (by simpa using hk) h.2
theorem runE_take:∀ {l:List Entry} {i t:Int} (k:Nat),runE i t l=true→runE i t (l.take k)=true
 | [],_,_,_,_=>by simp[runE]
 | e::l,i,t,0,_=>by simp[runE]
 | e::l,i,t,k+1,h=>by
  simp only[runE,Bool.and_eq_true] at h
  simp only[List.take_succ_cons,runE,Bool.and_eq_true]
  exact⟨h.1,runE_take k h.2⟩
end
end Go.Lw
namespace Go.Lw
open Go.Proofs
attribute [local irreducible] RL RA
section
variable {w:World} {s:Res} {os:List Res}
theorem Step_ct {r:Raft} {h:Hd} {i:Inp} {y:Lay} {da:Option Addr} {dc:Nat} (hg:Good w s os) (hr:RaftAt s r h) (hi:InpOk s i y da dc) (hR:NRng (newN r)) (hRz:NRng ((newN r).act i).1) (hb:(newN r).bears i) (htl:r.part.data.length≤70368744177664) :
  Calls Tryz.prog 11 #[.agg (raftV r h).toArray,.agg (inpV i y da dc).toArray] w (Post w s os fun s' _ q=>∃ h1 h2,q = .tuple #[.agg (raftV (stepP r i).1 h1).toArray,.agg (outV (stepP r i).2.1 h2).toArray,i64 (stepP r i).2.2]∧RaftAt s' (stepP r i).1 h1∧OutAt s' (stepP r i).2.1 h2):=by
 have hS:r.log.small:=hb.1.1.1
 have hbl:r.ballots.length≤68719476736:=hb.1.2.1
 have hpl:r.peers.length≤4294967296:=hb.1.1.2.2.1
 refine enter (l:=[.agg (raftV r h).toArray,.agg (inpV i y da dc).toArray]) Tryz.func11 rfl Tryz.ntmps11 rfl ?_
 refine go 3 ?_
 rintro b1 w1 Q1 (hg1:Good _ s (Q1::os)) hax1 hb1
 refine go 2 ?_
 rintro b2 w2 Q2 (hg2:Good _ s (Q2::Q1::os)) hax2 hb2
 refine go 2 ?_
 rintro b3 w3 Q3 (hg3:Good _ s (Q3::Q2::Q1::os)) hax3 hb3
 refine go 2 ?_
 rintro b4 w4 Q4 (hg4:Good _ s (Q4::Q3::Q2::Q1::os)) hax4 hb4
 refine go 7 ?_
 refine zc (copied_ct hg4 hr hS hbl hpl htl) ?_
 rintro v5 s5 Q5 w5 hle5 (hg5:Good _ s5 (Q5::Q4::Q3::Q2::Q1::os)) hax5 ⟨hh,rfl,hN0⟩
 have hr:=hr.up hle5
 have hi:=hi.up hle5
 refine go 3 ?_
 rintro p wN QN hgN haxN hbN
 have e2:=Res.le_join_right (r:=QN) (Apart.of2 hgN)
 have ndN:Nd s5 (QN.join Q5) p { hh with oa:=none,oc:=0,ma:=none,mc:=0 } (newN r):=⟨Res.le_join_left _ _ _ _ hbN,let ⟨a,b,c,d,e,f,g,_,_,_⟩:=hN0;⟨a,b,c,d.mem e2,e.mem e2,f.mem e2,g,Own.nil _ _ _ _ _,Own.nil _ _ _ _ _,Dj.none_right _⟩⟩
 have hgJ:=hgN.join
 obtain⟨AN,hAN⟩:∃ Z,Z=QN.join Q5:=⟨_,rfl⟩
 rw[←hAN] at ndN hgJ
 refine go 6 ?_
 refine RL.makeB rfl rfl rfl rfl rfl rfl ?_
 refine go 14 ?_
 refine CW.cond rfl (fun h18=>?_) (fun h18=>?_)
 ·
  obtain⟨hcf,hct⟩:ActsAs 35 (newN r) i y da dc p:=acts_tick (by simpa using h18) hR hb
  refine go 2 ?_
  refine RL.makeB rfl rfl rfl rfl rfl rfl ?_
  refine go 7 ?_
  refine RL.callB rfl rfl rfl rfl rfl rfl hcf (hct hgJ ndN hi) ?_
  rintro e6 w6 ⟨v6,s6,A6,rfl,hle6,(hg6:Good _ s6 (A6::Q4::Q3::Q2::Q1::os)),hax6,⟨rfl,h6,nd6⟩⟩
  have hr:=hr.up hle6
  have hi:=hi.up hle6
  refine⟨_,rfl,trivial,?_⟩
  refine go 7 ?_
  refine CW.cond rfl (fun h36=>?_) (fun h36=>?_)
  ·
   refine go 4 ?_
   refine zc (copied_ct hg6 hr hS hbl hpl htl) ?_
   rintro v7 s7 B7 w7 hle7 (hg7:Good _ s7 (B7::A6::Q4::Q3::Q2::Q1::os)) hax7 ⟨h38,rfl,hN38⟩
   have nd8:=nd6.up hle7
   have hr:=hr.up hle7
   have hi:=hi.up hle7
   obtain⟨t7,hgl7,hll7,hml7⟩:=hg7.letgo
   have hg7:Good _ t7 (A6::Q4::Q3::Q2::Q1::os):=hgl7
   have nd9:=nd8.up hll7
   have hr:=hr.up hll7
   have hi:=hi.up hll7
   have hRA:=hN38.raftAt (n:=newN r) hR hll7 hml7
   refine go 4 ?_
   rintro w10 Q10 (hg10:Good _ t7 (A6::Q4::Q10::Q2::Q1::os)) hax10 hb10
   refine go 2 ?_
   rintro w11 Q11 (hg11:Good _ t7 (A6::Q11::Q10::Q2::Q1::os)) hax11 hb11
   refine go 3 ?_
   refine CW.ret (ret (vs:=[_,_,_]) ⟨_,_,_,rfl,rfl,zl hb10,_,_,_,rfl,rfl,zl hb11,_,_,rfl,rfl,rfl⟩ ?_)
   have hst:=stepP_err (r:=r) (i:=i) (by simpa using h36)
   exact Post.mk (hle5.trans (hle6.trans (hle7.trans hll7))) (((((hg11.drop).drop).drop).drop).drop).nil (hax1.trans (hax2.trans (hax3.trans (hax4.trans (hax5.trans (haxN.trans (hax6.trans (hax7.trans (hax10.trans hax11))))))))) ⟨h38,hd0,by rw[hst];rfl,by rw[hst];exact hRA,by rw[hst];exact⟨Imm.nil _ _ _ (Nat.zero_le _),Imm.nil _ _ _ (Nat.zero_le _)⟩⟩
  ·
   refine go 2 ?_
   have hg12:=hg6.drew
   refine CW.dx [1,3,5,7,9,11,13,15,17,19,21,23] [24] 12 1 (fun w=>At1 p _ w∧At1 b1 _ w∧True) ?_
   refine go 8 ?_
   refine RL.stNe rfl rfl rfl rfl (by kernel_rfl) rfl rfl (hard_ne ((newN r).act i).1.s.hard r.hard) ?_
   refine go 5 ?_
   refine RL.sT (p:=p) (i:=0) (j:=22) hg12 (nd6.cells) (NRest.wSave nd6.rest) ?_
   rintro w13 A13 (hg13:Good _ s6 (A13::Q4::Q3::Q2::Q1::os)) hax13 nd13
   refine go 3 ?_
   have hg14:=hg13.drew
   refine CW.dw [1,3,5,7,9,11,13,15,16,18,20] (fun w=>At1 p _ w∧True) ?_
   refine go 9 ?_
   rintro w15 Q15 (hg15:Good _ s6 (A13::Q4::Q15::Q2::Q1::os)) hax15 hb15
   refine go 2 ?_
   rintro w16 Q16 (hg16:Good _ s6 (A13::Q16::Q15::Q2::Q1::os)) hax16 hb16
   refine go 3 ?_
   refine CW.ret (ret (vs:=[_,_,_]) ⟨_,_,_,rfl,rfl,zl hb15,_,_,_,rfl,rfl,zl hb16,_,_,rfl,rfl,rfl⟩ ?_)
   have hst:=stepP_ok (r:=r) (i:=i) (by simpa using h36)
   have hz:=((((hg16.dropNext).dropNext).dropNext).dropNext)
   obtain⟨s1,hgs1,hl1,hm1⟩:=hz.letgo
   exact Post.mk ((hle5.trans hle6).trans hl1) hgs1.nil (hax1.trans (hax2.trans (hax3.trans (hax4.trans (hax5.trans (haxN.trans (hax6.trans ((Aux.drew _).trans (hax13.trans ((Aux.drew _).trans (hax15.trans hax16))))))))))) ⟨_,_,by rw[hst];rfl,by rw[hst];exact (nd13).rest.raftAt hRz hl1 hm1,by rw[hst];exact⟨(nd13).outs.imm REntry.up hl1 hm1,(nd13).msgs.imm RMsg.up hl1 hm1⟩⟩
 ·
  have hk1:i.kind≠1:=by simpa using h18
  refine go 5 ?_
  refine CW.cond rfl (fun h22=>?_) (fun h22=>?_)
  ·
   obtain⟨hcf,hct⟩:ActsAs 36 (newN r) i y da dc p:=acts_message (by simpa using h22) hR hb
   refine go 2 ?_
   refine RL.makeB rfl rfl rfl rfl rfl rfl ?_
   refine go 7 ?_
   refine RL.callB rfl rfl rfl rfl rfl rfl hcf (hct hgJ ndN hi) ?_
   rintro e17 w17 ⟨v17,s17,A17,rfl,hle17,(hg17:Good _ s17 (A17::Q4::Q3::Q2::Q1::os)),hax17,⟨rfl,h17,nd17⟩⟩
   have hr:=hr.up hle17
   have hi:=hi.up hle17
   refine⟨_,rfl,trivial,?_⟩
   refine go 7 ?_
   refine CW.cond rfl (fun h36=>?_) (fun h36=>?_)
   ·
    refine go 4 ?_
    refine zc (copied_ct hg17 hr hS hbl hpl htl) ?_
    rintro v18 s18 B18 w18 hle18 (hg18:Good _ s18 (B18::A17::Q4::Q3::Q2::Q1::os)) hax18 ⟨h38,rfl,hN38⟩
    have nd19:=nd17.up hle18
    have hr:=hr.up hle18
    have hi:=hi.up hle18
    obtain⟨t18,hgl18,hll18,hml18⟩:=hg18.letgo
    have hg18:Good _ t18 (A17::Q4::Q3::Q2::Q1::os):=hgl18
    have nd20:=nd19.up hll18
    have hr:=hr.up hll18
    have hi:=hi.up hll18
    have hRA:=hN38.raftAt (n:=newN r) hR hll18 hml18
    refine go 4 ?_
    rintro w21 Q21 (hg21:Good _ t18 (A17::Q4::Q21::Q2::Q1::os)) hax21 hb21
    refine go 2 ?_
    rintro w22 Q22 (hg22:Good _ t18 (A17::Q22::Q21::Q2::Q1::os)) hax22 hb22
    refine go 3 ?_
    refine CW.ret (ret (vs:=[_,_,_]) ⟨_,_,_,rfl,rfl,zl hb21,_,_,_,rfl,rfl,zl hb22,_,_,rfl,rfl,rfl⟩ ?_)
    have hst:=stepP_err (r:=r) (i:=i) (by simpa using h36)
    exact Post.mk (hle5.trans (hle17.trans (hle18.trans hll18))) (((((hg22.drop).drop).drop).drop).drop).nil (hax1.trans (hax2.trans (hax3.trans (hax4.trans (hax5.trans (haxN.trans (hax17.trans (hax18.trans (hax21.trans hax22))))))))) ⟨h38,hd0,by rw[hst];rfl,by rw[hst];exact hRA,by rw[hst];exact⟨Imm.nil _ _ _ (Nat.zero_le _),Imm.nil _ _ _ (Nat.zero_le _)⟩⟩
   ·
    refine go 2 ?_
    have hg23:=hg17.drew
    refine CW.dx [1,3,5,7,9,11,13,15,17,19,21,23] [24] 12 1 (fun w=>At1 p _ w∧At1 b1 _ w∧True) ?_
    refine go 8 ?_
    refine RL.stNe rfl rfl rfl rfl (by kernel_rfl) rfl rfl (hard_ne ((newN r).act i).1.s.hard r.hard) ?_
    refine go 5 ?_
    refine RL.sT (p:=p) (i:=0) (j:=22) hg23 (nd17.cells) (NRest.wSave nd17.rest) ?_
    rintro w24 A24 (hg24:Good _ s17 (A24::Q4::Q3::Q2::Q1::os)) hax24 nd24
    refine go 3 ?_
    have hg25:=hg24.drew
    refine CW.dw [1,3,5,7,9,11,13,15,16,18,20] (fun w=>At1 p _ w∧True) ?_
    refine go 9 ?_
    rintro w26 Q26 (hg26:Good _ s17 (A24::Q4::Q26::Q2::Q1::os)) hax26 hb26
    refine go 2 ?_
    rintro w27 Q27 (hg27:Good _ s17 (A24::Q27::Q26::Q2::Q1::os)) hax27 hb27
    refine go 3 ?_
    refine CW.ret (ret (vs:=[_,_,_]) ⟨_,_,_,rfl,rfl,zl hb26,_,_,_,rfl,rfl,zl hb27,_,_,rfl,rfl,rfl⟩ ?_)
    have hst:=stepP_ok (r:=r) (i:=i) (by simpa using h36)
    have hz:=((((hg27.dropNext).dropNext).dropNext).dropNext)
    obtain⟨s1,hgs1,hl1,hm1⟩:=hz.letgo
    exact Post.mk ((hle5.trans hle17).trans hl1) hgs1.nil (hax1.trans (hax2.trans (hax3.trans (hax4.trans (hax5.trans (haxN.trans (hax17.trans ((Aux.drew _).trans (hax24.trans ((Aux.drew _).trans (hax26.trans hax27))))))))))) ⟨_,_,by rw[hst];rfl,by rw[hst];exact (nd24).rest.raftAt hRz hl1 hm1,by rw[hst];exact⟨(nd24).outs.imm REntry.up hl1 hm1,(nd24).msgs.imm RMsg.up hl1 hm1⟩⟩
  ·
   have hk2:i.kind≠2:=by simpa using h22
   refine go 6 ?_
   refine CW.cond rfl (fun h26=>?_) (fun h26=>?_)
   ·
    obtain⟨hcf,hct⟩:ActsAs 37 (newN r) i y da dc p:=acts_asked (.inl (by simpa using h26)) hR hb
    refine go 4 ?_
    refine RL.makeB rfl rfl rfl rfl rfl rfl ?_
    refine go 7 ?_
    refine RL.callB rfl rfl rfl rfl rfl rfl hcf (hct hgJ ndN hi) ?_
    rintro e28 w28 ⟨v28,s28,A28,rfl,hle28,(hg28:Good _ s28 (A28::Q4::Q3::Q2::Q1::os)),hax28,⟨rfl,h28,nd28⟩⟩
    have hr:=hr.up hle28
    have hi:=hi.up hle28
    refine⟨_,rfl,trivial,?_⟩
    refine go 7 ?_
    refine CW.cond rfl (fun h36=>?_) (fun h36=>?_)
    ·
     refine go 4 ?_
     refine zc (copied_ct hg28 hr hS hbl hpl htl) ?_
     rintro v29 s29 B29 w29 hle29 (hg29:Good _ s29 (B29::A28::Q4::Q3::Q2::Q1::os)) hax29 ⟨h38,rfl,hN38⟩
     have nd30:=nd28.up hle29
     have hr:=hr.up hle29
     have hi:=hi.up hle29
     obtain⟨t29,hgl29,hll29,hml29⟩:=hg29.letgo
     have hg29:Good _ t29 (A28::Q4::Q3::Q2::Q1::os):=hgl29
     have nd31:=nd30.up hll29
     have hr:=hr.up hll29
     have hi:=hi.up hll29
     have hRA:=hN38.raftAt (n:=newN r) hR hll29 hml29
     refine go 4 ?_
     rintro w32 Q32 (hg32:Good _ t29 (A28::Q4::Q32::Q2::Q1::os)) hax32 hb32
     refine go 2 ?_
     rintro w33 Q33 (hg33:Good _ t29 (A28::Q33::Q32::Q2::Q1::os)) hax33 hb33
     refine go 3 ?_
     refine CW.ret (ret (vs:=[_,_,_]) ⟨_,_,_,rfl,rfl,zl hb32,_,_,_,rfl,rfl,zl hb33,_,_,rfl,rfl,rfl⟩ ?_)
     have hst:=stepP_err (r:=r) (i:=i) (by simpa using h36)
     exact Post.mk (hle5.trans (hle28.trans (hle29.trans hll29))) (((((hg33.drop).drop).drop).drop).drop).nil (hax1.trans (hax2.trans (hax3.trans (hax4.trans (hax5.trans (haxN.trans (hax28.trans (hax29.trans (hax32.trans hax33))))))))) ⟨h38,hd0,by rw[hst];rfl,by rw[hst];exact hRA,by rw[hst];exact⟨Imm.nil _ _ _ (Nat.zero_le _),Imm.nil _ _ _ (Nat.zero_le _)⟩⟩
    ·
     refine go 2 ?_
     have hg34:=hg28.drew
     refine CW.dx [1,3,5,7,9,11,13,15,17,19,21,23] [24] 12 1 (fun w=>At1 p _ w∧At1 b1 _ w∧True) ?_
     refine go 8 ?_
     refine RL.stNe rfl rfl rfl rfl (by kernel_rfl) rfl rfl (hard_ne ((newN r).act i).1.s.hard r.hard) ?_
     refine go 5 ?_
     refine RL.sT (p:=p) (i:=0) (j:=22) hg34 (nd28.cells) (NRest.wSave nd28.rest) ?_
     rintro w35 A35 (hg35:Good _ s28 (A35::Q4::Q3::Q2::Q1::os)) hax35 nd35
     refine go 3 ?_
     have hg36:=hg35.drew
     refine CW.dw [1,3,5,7,9,11,13,15,16,18,20] (fun w=>At1 p _ w∧True) ?_
     refine go 9 ?_
     rintro w37 Q37 (hg37:Good _ s28 (A35::Q4::Q37::Q2::Q1::os)) hax37 hb37
     refine go 2 ?_
     rintro w38 Q38 (hg38:Good _ s28 (A35::Q38::Q37::Q2::Q1::os)) hax38 hb38
     refine go 3 ?_
     refine CW.ret (ret (vs:=[_,_,_]) ⟨_,_,_,rfl,rfl,zl hb37,_,_,_,rfl,rfl,zl hb38,_,_,rfl,rfl,rfl⟩ ?_)
     have hst:=stepP_ok (r:=r) (i:=i) (by simpa using h36)
     have hz:=((((hg38.dropNext).dropNext).dropNext).dropNext)
     obtain⟨s1,hgs1,hl1,hm1⟩:=hz.letgo
     exact Post.mk ((hle5.trans hle28).trans hl1) hgs1.nil (hax1.trans (hax2.trans (hax3.trans (hax4.trans (hax5.trans (haxN.trans (hax28.trans ((Aux.drew _).trans (hax35.trans ((Aux.drew _).trans (hax37.trans hax38))))))))))) ⟨_,_,by rw[hst];rfl,by rw[hst];exact (nd35).rest.raftAt hRz hl1 hm1,by rw[hst];exact⟨(nd35).outs.imm REntry.up hl1 hm1,(nd35).msgs.imm RMsg.up hl1 hm1⟩⟩
   ·
    have hk3:i.kind≠3:=by simpa using h26
    refine go 5 ?_
    refine CW.cond rfl (fun h26=>?_) (fun h26=>?_)
    ·
     obtain⟨hcf,hct⟩:ActsAs 37 (newN r) i y da dc p:=acts_asked (.inr (.inl (by simpa using h26))) hR hb
     refine go 4 ?_
     refine RL.makeB rfl rfl rfl rfl rfl rfl ?_
     refine go 7 ?_
     refine RL.callB rfl rfl rfl rfl rfl rfl hcf (hct hgJ ndN hi) ?_
     rintro e39 w39 ⟨v39,s39,A39,rfl,hle39,(hg39:Good _ s39 (A39::Q4::Q3::Q2::Q1::os)),hax39,⟨rfl,h39,nd39⟩⟩
     have hr:=hr.up hle39
     have hi:=hi.up hle39
     refine⟨_,rfl,trivial,?_⟩
     refine go 7 ?_
     refine CW.cond rfl (fun h36=>?_) (fun h36=>?_)
     ·
      refine go 4 ?_
      refine zc (copied_ct hg39 hr hS hbl hpl htl) ?_
      rintro v40 s40 B40 w40 hle40 (hg40:Good _ s40 (B40::A39::Q4::Q3::Q2::Q1::os)) hax40 ⟨h38,rfl,hN38⟩
      have nd41:=nd39.up hle40
      have hr:=hr.up hle40
      have hi:=hi.up hle40
      obtain⟨t40,hgl40,hll40,hml40⟩:=hg40.letgo
      have hg40:Good _ t40 (A39::Q4::Q3::Q2::Q1::os):=hgl40
      have nd42:=nd41.up hll40
      have hr:=hr.up hll40
      have hi:=hi.up hll40
      have hRA:=hN38.raftAt (n:=newN r) hR hll40 hml40
      refine go 4 ?_
      rintro w43 Q43 (hg43:Good _ t40 (A39::Q4::Q43::Q2::Q1::os)) hax43 hb43
      refine go 2 ?_
      rintro w44 Q44 (hg44:Good _ t40 (A39::Q44::Q43::Q2::Q1::os)) hax44 hb44
      refine go 3 ?_
      refine CW.ret (ret (vs:=[_,_,_]) ⟨_,_,_,rfl,rfl,zl hb43,_,_,_,rfl,rfl,zl hb44,_,_,rfl,rfl,rfl⟩ ?_)
      have hst:=stepP_err (r:=r) (i:=i) (by simpa using h36)
      exact Post.mk (hle5.trans (hle39.trans (hle40.trans hll40))) (((((hg44.drop).drop).drop).drop).drop).nil (hax1.trans (hax2.trans (hax3.trans (hax4.trans (hax5.trans (haxN.trans (hax39.trans (hax40.trans (hax43.trans hax44))))))))) ⟨h38,hd0,by rw[hst];rfl,by rw[hst];exact hRA,by rw[hst];exact⟨Imm.nil _ _ _ (Nat.zero_le _),Imm.nil _ _ _ (Nat.zero_le _)⟩⟩
     ·
      refine go 2 ?_
      have hg45:=hg39.drew
      refine CW.dx [1,3,5,7,9,11,13,15,17,19,21,23] [24] 12 1 (fun w=>At1 p _ w∧At1 b1 _ w∧True) ?_
      refine go 8 ?_
      refine RL.stNe rfl rfl rfl rfl (by kernel_rfl) rfl rfl (hard_ne ((newN r).act i).1.s.hard r.hard) ?_
      refine go 5 ?_
      refine RL.sT (p:=p) (i:=0) (j:=22) hg45 (nd39.cells) (NRest.wSave nd39.rest) ?_
      rintro w46 A46 (hg46:Good _ s39 (A46::Q4::Q3::Q2::Q1::os)) hax46 nd46
      refine go 3 ?_
      have hg47:=hg46.drew
      refine CW.dw [1,3,5,7,9,11,13,15,16,18,20] (fun w=>At1 p _ w∧True) ?_
      refine go 9 ?_
      rintro w48 Q48 (hg48:Good _ s39 (A46::Q4::Q48::Q2::Q1::os)) hax48 hb48
      refine go 2 ?_
      rintro w49 Q49 (hg49:Good _ s39 (A46::Q49::Q48::Q2::Q1::os)) hax49 hb49
      refine go 3 ?_
      refine CW.ret (ret (vs:=[_,_,_]) ⟨_,_,_,rfl,rfl,zl hb48,_,_,_,rfl,rfl,zl hb49,_,_,rfl,rfl,rfl⟩ ?_)
      have hst:=stepP_ok (r:=r) (i:=i) (by simpa using h36)
      have hz:=((((hg49.dropNext).dropNext).dropNext).dropNext)
      obtain⟨s1,hgs1,hl1,hm1⟩:=hz.letgo
      exact Post.mk ((hle5.trans hle39).trans hl1) hgs1.nil (hax1.trans (hax2.trans (hax3.trans (hax4.trans (hax5.trans (haxN.trans (hax39.trans ((Aux.drew _).trans (hax46.trans ((Aux.drew _).trans (hax48.trans hax49))))))))))) ⟨_,_,by rw[hst];rfl,by rw[hst];exact (nd46).rest.raftAt hRz hl1 hm1,by rw[hst];exact⟨(nd46).outs.imm REntry.up hl1 hm1,(nd46).msgs.imm RMsg.up hl1 hm1⟩⟩
    ·
     have hk4:i.kind≠4:=by simpa using h26
     refine go 4 ?_
     refine CW.cond rfl (fun h26=>?_) (fun h26=>?_)
     ·
      obtain⟨hcf,hct⟩:ActsAs 37 (newN r) i y da dc p:=acts_asked (.inr (.inr (by simpa using h26))) hR hb
      refine go 2 ?_
      refine RL.makeB rfl rfl rfl rfl rfl rfl ?_
      refine go 7 ?_
      refine RL.callB rfl rfl rfl rfl rfl rfl hcf (hct hgJ ndN hi) ?_
      rintro e50 w50 ⟨v50,s50,A50,rfl,hle50,(hg50:Good _ s50 (A50::Q4::Q3::Q2::Q1::os)),hax50,⟨rfl,h50,nd50⟩⟩
      have hr:=hr.up hle50
      have hi:=hi.up hle50
      refine⟨_,rfl,trivial,?_⟩
      refine go 7 ?_
      refine CW.cond rfl (fun h36=>?_) (fun h36=>?_)
      ·
       refine go 4 ?_
       refine zc (copied_ct hg50 hr hS hbl hpl htl) ?_
       rintro v51 s51 B51 w51 hle51 (hg51:Good _ s51 (B51::A50::Q4::Q3::Q2::Q1::os)) hax51 ⟨h38,rfl,hN38⟩
       have nd52:=nd50.up hle51
       have hr:=hr.up hle51
       have hi:=hi.up hle51
       obtain⟨t51,hgl51,hll51,hml51⟩:=hg51.letgo
       have hg51:Good _ t51 (A50::Q4::Q3::Q2::Q1::os):=hgl51
       have nd53:=nd52.up hll51
       have hr:=hr.up hll51
       have hi:=hi.up hll51
       have hRA:=hN38.raftAt (n:=newN r) hR hll51 hml51
       refine go 4 ?_
       rintro w54 Q54 (hg54:Good _ t51 (A50::Q4::Q54::Q2::Q1::os)) hax54 hb54
       refine go 2 ?_
       rintro w55 Q55 (hg55:Good _ t51 (A50::Q55::Q54::Q2::Q1::os)) hax55 hb55
       refine go 3 ?_
       refine CW.ret (ret (vs:=[_,_,_]) ⟨_,_,_,rfl,rfl,zl hb54,_,_,_,rfl,rfl,zl hb55,_,_,rfl,rfl,rfl⟩ ?_)
       have hst:=stepP_err (r:=r) (i:=i) (by simpa using h36)
       exact Post.mk (hle5.trans (hle50.trans (hle51.trans hll51))) (((((hg55.drop).drop).drop).drop).drop).nil (hax1.trans (hax2.trans (hax3.trans (hax4.trans (hax5.trans (haxN.trans (hax50.trans (hax51.trans (hax54.trans hax55))))))))) ⟨h38,hd0,by rw[hst];rfl,by rw[hst];exact hRA,by rw[hst];exact⟨Imm.nil _ _ _ (Nat.zero_le _),Imm.nil _ _ _ (Nat.zero_le _)⟩⟩
      ·
       refine go 2 ?_
       have hg56:=hg50.drew
       refine CW.dx [1,3,5,7,9,11,13,15,17,19,21,23] [24] 12 1 (fun w=>At1 p _ w∧At1 b1 _ w∧True) ?_
       refine go 8 ?_
       refine RL.stNe rfl rfl rfl rfl (by kernel_rfl) rfl rfl (hard_ne ((newN r).act i).1.s.hard r.hard) ?_
       refine go 5 ?_
       refine RL.sT (p:=p) (i:=0) (j:=22) hg56 (nd50.cells) (NRest.wSave nd50.rest) ?_
       rintro w57 A57 (hg57:Good _ s50 (A57::Q4::Q3::Q2::Q1::os)) hax57 nd57
       refine go 3 ?_
       have hg58:=hg57.drew
       refine CW.dw [1,3,5,7,9,11,13,15,16,18,20] (fun w=>At1 p _ w∧True) ?_
       refine go 9 ?_
       rintro w59 Q59 (hg59:Good _ s50 (A57::Q4::Q59::Q2::Q1::os)) hax59 hb59
       refine go 2 ?_
       rintro w60 Q60 (hg60:Good _ s50 (A57::Q60::Q59::Q2::Q1::os)) hax60 hb60
       refine go 3 ?_
       refine CW.ret (ret (vs:=[_,_,_]) ⟨_,_,_,rfl,rfl,zl hb59,_,_,_,rfl,rfl,zl hb60,_,_,rfl,rfl,rfl⟩ ?_)
       have hst:=stepP_ok (r:=r) (i:=i) (by simpa using h36)
       have hz:=((((hg60.dropNext).dropNext).dropNext).dropNext)
       obtain⟨s1,hgs1,hl1,hm1⟩:=hz.letgo
       exact Post.mk ((hle5.trans hle50).trans hl1) hgs1.nil (hax1.trans (hax2.trans (hax3.trans (hax4.trans (hax5.trans (haxN.trans (hax50.trans ((Aux.drew _).trans (hax57.trans ((Aux.drew _).trans (hax59.trans hax60))))))))))) ⟨_,_,by rw[hst];rfl,by rw[hst];exact (nd57).rest.raftAt hRz hl1 hm1,by rw[hst];exact⟨(nd57).outs.imm REntry.up hl1 hm1,(nd57).msgs.imm RMsg.up hl1 hm1⟩⟩
     ·
      obtain⟨hcf,hct⟩:ActsAs 34 (newN r) i y da dc p:=acts_unknown ⟨hk1,hk2,hk3,hk4,by simpa using h26⟩
      refine go 6 ?_
      refine RL.callB rfl rfl rfl rfl rfl rfl hcf (hct hgJ ndN hi) ?_
      rintro e61 w61 ⟨v61,s61,A61,rfl,hle61,(hg61:Good _ s61 (A61::Q4::Q3::Q2::Q1::os)),hax61,⟨rfl,h61,nd61⟩⟩
      have hr:=hr.up hle61
      have hi:=hi.up hle61
      refine⟨_,rfl,trivial,?_⟩
      refine go 7 ?_
      refine CW.cond rfl (fun h36=>?_) (fun h36=>?_)
      ·
       refine go 4 ?_
       refine zc (copied_ct hg61 hr hS hbl hpl htl) ?_
       rintro v62 s62 B62 w62 hle62 (hg62:Good _ s62 (B62::A61::Q4::Q3::Q2::Q1::os)) hax62 ⟨h38,rfl,hN38⟩
       have nd63:=nd61.up hle62
       have hr:=hr.up hle62
       have hi:=hi.up hle62
       obtain⟨t62,hgl62,hll62,hml62⟩:=hg62.letgo
       have hg62:Good _ t62 (A61::Q4::Q3::Q2::Q1::os):=hgl62
       have nd64:=nd63.up hll62
       have hr:=hr.up hll62
       have hi:=hi.up hll62
       have hRA:=hN38.raftAt (n:=newN r) hR hll62 hml62
       refine go 4 ?_
       rintro w65 Q65 (hg65:Good _ t62 (A61::Q4::Q65::Q2::Q1::os)) hax65 hb65
       refine go 2 ?_
       rintro w66 Q66 (hg66:Good _ t62 (A61::Q66::Q65::Q2::Q1::os)) hax66 hb66
       refine go 3 ?_
       refine CW.ret (ret (vs:=[_,_,_]) ⟨_,_,_,rfl,rfl,zl hb65,_,_,_,rfl,rfl,zl hb66,_,_,rfl,rfl,rfl⟩ ?_)
       have hst:=stepP_err (r:=r) (i:=i) (by simpa using h36)
       exact Post.mk (hle5.trans (hle61.trans (hle62.trans hll62))) (((((hg66.drop).drop).drop).drop).drop).nil (hax1.trans (hax2.trans (hax3.trans (hax4.trans (hax5.trans (haxN.trans (hax61.trans (hax62.trans (hax65.trans hax66))))))))) ⟨h38,hd0,by rw[hst];rfl,by rw[hst];exact hRA,by rw[hst];exact⟨Imm.nil _ _ _ (Nat.zero_le _),Imm.nil _ _ _ (Nat.zero_le _)⟩⟩
      ·
       refine go 2 ?_
       have hg67:=hg61.drew
       refine CW.dx [1,3,5,7,9,11,13,15,17,19,21,23] [24] 12 1 (fun w=>At1 p _ w∧At1 b1 _ w∧True) ?_
       refine go 8 ?_
       refine RL.stNe rfl rfl rfl rfl (by kernel_rfl) rfl rfl (hard_ne ((newN r).act i).1.s.hard r.hard) ?_
       refine go 5 ?_
       refine RL.sT (p:=p) (i:=0) (j:=22) hg67 (nd61.cells) (NRest.wSave nd61.rest) ?_
       rintro w68 A68 (hg68:Good _ s61 (A68::Q4::Q3::Q2::Q1::os)) hax68 nd68
       refine go 3 ?_
       have hg69:=hg68.drew
       refine CW.dw [1,3,5,7,9,11,13,15,16,18,20] (fun w=>At1 p _ w∧True) ?_
       refine go 9 ?_
       rintro w70 Q70 (hg70:Good _ s61 (A68::Q4::Q70::Q2::Q1::os)) hax70 hb70
       refine go 2 ?_
       rintro w71 Q71 (hg71:Good _ s61 (A68::Q71::Q70::Q2::Q1::os)) hax71 hb71
       refine go 3 ?_
       refine CW.ret (ret (vs:=[_,_,_]) ⟨_,_,_,rfl,rfl,zl hb70,_,_,_,rfl,rfl,zl hb71,_,_,rfl,rfl,rfl⟩ ?_)
       have hst:=stepP_ok (r:=r) (i:=i) (by simpa using h36)
       have hz:=((((hg71.dropNext).dropNext).dropNext).dropNext)
       obtain⟨s1,hgs1,hl1,hm1⟩:=hz.letgo
       exact Post.mk ((hle5.trans hle61).trans hl1) hgs1.nil (hax1.trans (hax2.trans (hax3.trans (hax4.trans (hax5.trans (haxN.trans (hax61.trans ((Aux.drew _).trans (hax68.trans ((Aux.drew _).trans (hax70.trans hax71))))))))))) ⟨_,_,by rw[hst];rfl,by rw[hst];exact (nd68).rest.raftAt hRz hl1 hm1,by rw[hst];exact⟨(nd68).outs.imm REntry.up hl1 hm1,(nd68).msgs.imm RMsg.up hl1 hm1⟩⟩
end
end Go.Lw
namespace Go.Lw
open Go.ChangeShapes Go.WideShapes Go.ChangeAt Go.RowKit
def all (W:World):Res:=fun b=>W.heap[b]?
theorem all_good (W:World):Good W (all W) []:=fun _ _ h=>h
def Opens {α H:Type} (bulk:DataW H→Nat) (enc:TypeId × Value→H) (P:Program) (W:World) (t:TypeId) (R:Res→List Value→α→Prop) (bk:α→Nat):Prop :=
 ∀ (fuel:Nat) (cs:List Value) (d:DataW H) (ps:List MemPlace),DataW.trod enc P W 0 (fun _=>true) true fuel t cs=some (d,ps)→∃ x:α,R (all W) cs x∧bk x≤bulk d
section
variable {α β H:Type} {bulk:DataW H→Nat} {enc:TypeId × Value→H} {P:Program} {W:World} {t e:TypeId} {R:Res→List Value→α→Prop} {bk:α→Nat}
theorem Opens.imp {R':Res→List Value→β→Prop} {bk':β→Nat} (h:Opens bulk enc P W t R bk) (g:α→β) (hR:∀ s vs x,R s vs x→R' s vs (g x)) (hb:∀ x,bk' (g x)≤bk x):Opens bulk enc P W t R' bk':=fun fuel cs d ps hd=>by
 obtain⟨x,h1,h2⟩:=h fuel cs d ps hd
 exact⟨g x,hR _ _ _ h1,Nat.le_trans (hb x) h2⟩
theorem wf_rng {k:IntKind} {n:Int} (h:(Lit.int k n).wf=true):rng k n:=by
 simp only[Lit.wf] at h
 cases k<;>simp only[IntKind.signed,IntKind.bits,IntKind.min,IntKind.max] at h<;>simp only[rng]<;>simp at h<;>omega
theorem opens_int {k:IntKind} (ht:P.underlying t=some (.int k)):Opens bulk enc P W t (RInt k) (fun _=>0):=fun fuel cs d ps hd=>by
 obtain⟨n,rfl,_,hw⟩:=DataW.trod_int ht hd
 exact⟨n,⟨rfl,wf_rng hw⟩,Nat.zero_le _⟩
theorem cells_holds {a:Addr} {n:Nat} {cs:List Value} (h:W.cells? 0 a n=some cs):cs.length=n∧∀ j u,cs[j]?=some u→W.cell? (a.add j)=some u:=by
 simp only[World.cells?,Nat.zero_le,if_true] at h
 have key:∀ (n k:Nat) (cs:List Value),(List.range' k n).mapM (fun i=>W.cell? (a.add i))=some cs→cs.length=n∧∀ j u,cs[j]?=some u→W.cell? (a.add (k+j))=some u:=by
  intro n
  induction n with
  | zero=>intro k cs h;simp at h;subst h;simp
  | succ n ih =>
   intro k cs h
   rw[List.range'_succ,List.mapM_cons] at h
   cases hc:W.cell? (a.add k) with
   | none=>simp[hc] at h
   | some u =>
    cases hr:(List.range' (k+1) n).mapM (fun i=>W.cell? (a.add i)) with
    | none=>simp[hc,hr] at h
    | some us =>
     simp[hc,hr] at h
     subst h
     obtain⟨h1,h2⟩:=ih (k+1) us hr
     refine⟨by simp[h1],fun j v hj=>?_⟩
     cases j with
     | zero=>simp at hj;subst hj;simpa using hc
     | succ j =>
      have:=h2 j v (by simpa using hj)
      rwa[show k+(j+1)=k+1+j by omega]
 have:=key n 0 cs (by rw[←List.range_eq_range'];exact h)
 simpa using this
theorem cell_block {a:Addr} {u:Value} (h:W.cell? a=some u):∃ cs el fr,W.heap[a.block]?=some (.cells cs el fr)∧a.spot=none∧cs[a.off]?=some u:=by
 simp only[World.cell?] at h
 split at h
 ·
  rename_i cs el fr hh
  split at h
  ·
   cases h
  ·
   rename_i hs
   exact⟨cs,el,fr,hh,by simpa using hs,h⟩
 ·
  cases h
theorem opens_slice (ht:P.underlying t=some (.slice e)) {sz:Nat} (hsz:P.cellsOf e=sz) (h0:0<sz) (hel:Opens bulk enc P W e R bk)
  (hb:∀ l r,(l.map bulk).sum≤bulk (.slice l r)) (hb1:∀ l r:List (DataW H),l.length≤bulk (.slice l r)) :
  Opens bulk enc P W t (RSl R sz) (fun xs=>max xs.length ((xs.map bk).sum)):=fun fuel cs d ps hd=>by
 rcases DataW.trod_slice ht hd with ⟨rfl,hx⟩ | ⟨a,len,cap,elems,rest,n,_,rfl,hx,_,hl,hm,hlen,hall,_,_⟩
 ·
  exact⟨[],⟨none,0,rfl,Imm.nil _ _ _ (Nat.zero_le _)⟩,by simp⟩
 ·
  simp only[Prod.mk.injEq] at hx
  rw[hsz] at hall
  -- element by element
  have key:∀ m,m≤len→∃ (xs:List α) (vs:List Value),xs.length=m∧Chunks R sz (all W) vs xs∧(∀ j u,vs[j]?=some u→W.cell? (a.add j)=some u)∧(xs.map bk).sum≤((elems.take m).map fun y=>bulk y.1).sum:=by
   intro m
   induction m with
   | zero=>intro _;exact⟨[],[],rfl,rfl,by simp,by simp⟩
   | succ m ih =>
    intro hm'
    obtain⟨xs,vs,h1,h2,h3,h4⟩:=ih (by omega)
    have he:=hall m (by omega)
    have hme:m<elems.length:=by omega
    rw[List.getElem?_eq_getElem hme] at he
    obtain⟨cs',hc1,hc2⟩:=Option.bind_eq_some_iff.1 he
    obtain⟨hcl,hcc⟩:=cells_holds hc1
    obtain⟨x,hR,hbx⟩:=hel n cs' elems[m].1 elems[m].2 hc2
    have hvl:=h2.length
    refine⟨xs++[x],vs++cs',by simp[h1],h2.append (Chunks.single hcl hR),fun j u hj=>?_,?_⟩
    ·
     by_cases hj':j<vs.length
     ·
      exact h3 j u (by rwa[List.getElem?_append_left hj'] at hj)
     ·
      rw[List.getElem?_append_right (by omega)] at hj
      have:=hcc _ u hj
      rw[add_add] at this
      rwa[show m*sz+(j-vs.length)=j by rw[hvl,h1] at *;omega] at this
    ·
     rw[List.take_succ_eq_append_getElem hme]
     simp only[List.map_append,List.sum_append,List.map_cons,List.map_nil,List.sum_cons,List.sum_nil]
     omega
  obtain⟨xs,vs,h1,h2,h3,h4⟩:=key len (Nat.le_refl _)
  refine⟨xs,⟨some a,cap,by rw[h1],by rw[h1];exact hl,hm,?_⟩,?_⟩
  ·
   cases xs with
   | nil=>exact .inl rfl
   | cons x xs =>
    refine .inr ⟨a,rfl,vs,?_,h2⟩
    have hvl:=h2.length
    have hpos:0<vs.length:=by rw[hvl];simp only[List.length_cons];exact Nat.mul_pos (by omega) h0
    have hc0:=h3 0 vs[0] (by simp[hpos])
    have hz:a.add 0=a:=by unfold Addr.add;simp
    rw[hz] at hc0
    obtain⟨cb,el,fr,hb',hsp,_⟩:=cell_block hc0
    refine⟨cb,el,fr,hb',hsp,fun j u hj=>?_⟩
    obtain⟨cb',el',fr',hb'',_,hcu⟩:=cell_block (h3 j u hj)
    rw[add_block,hb'] at hb''
    cases hb''
    rwa[add_off] at hcu
  ·
   rw[hx.1]
   have hb':=hb (elems.map (·.1)) (rest.map (·.1))
   have hb1':=hb1 (elems.map (·.1)) (rest.map (·.1))
   rw[List.take_of_length_le (by omega)] at h4
   simp only[List.map_map,List.length_map] at hb' hb1'
   have e1:(elems.map (bulk ∘ fun y=>y.1)).sum=(elems.map fun y=>bulk y.1).sum:=rfl
   rw[e1] at hb'
   show max xs.length ((xs.map bk).sum)≤_
   omega
def RNil:Res→List Value→Unit→Prop:=fun _ vs _=>vs=[]
def RCons (k:Nat) (R:Res→List Value→α→Prop) (Q:Res→List Value→β→Prop):Res→List Value→α × β→Prop:=fun s vs x =>
 ∃ us rest,vs=us++rest∧us.length=k∧R s us x.1∧Q s rest x.2
def OpensF (bulk:DataW H→Nat) (enc:TypeId × Value→H) (P:Program) (W:World) (fs:List Field) (off:Nat) (R:Res→List Value→α→Prop) (bk:α→Nat):Prop :=
 ∀ (fuel:Nat) (cs:List Value) (xs:List (DataW H × List MemPlace)),xs.length=fs.length →
  (∀ (i:Nat) (f:Field),fs[i]?=some f→DataW.trod enc P W 0 (fun _=>true) true fuel f.type ((cs.drop f.offset).take (P.cellsOf f.type))=xs[i]?)→cs.length=off+(fs.map fun f=>P.cellsOf f.type).sum →
  ∃ x:α,R (all W) (cs.drop off) x∧bk x≤(xs.map fun y=>bulk y.1).sum
theorem opens_nil (off:Nat):OpensF bulk enc P W [] off RNil (fun _=>0):=fun fuel cs xs hl _ hc=>by
 refine⟨(),?_,Nat.zero_le _⟩
 simp only[List.map_nil,List.sum_nil,Nat.add_zero] at hc
 exact List.drop_eq_nil_of_le (by omega)
theorem opens_cons {f:Field} {fs:List Field} {off k:Nat} {Q:Res→List Value→β→Prop} {bq:β→Nat} (ho:f.offset=off) (hk:P.cellsOf f.type=k) (hf:Opens bulk enc P W f.type R bk) (hr:OpensF bulk enc P W fs (off+k) Q bq) :
  OpensF bulk enc P W (f::fs) off (RCons k R Q) (fun x=>bk x.1+bq x.2):=fun fuel cs xs hl h hc=>by
 cases xs with
 | nil=>simp at hl
 | cons y ys =>
  have h0:=h 0 f rfl
  simp only[List.map_cons,List.sum_cons,hk] at hc
  rw[ho,hk] at h0
  obtain⟨x,hx,hb⟩:=hf fuel _ y.1 y.2 (by simpa using h0)
  obtain⟨z,hz,hb'⟩:=hr fuel cs ys (by simpa using hl) (fun i g hg=>by simpa using h (i+1) g (by simpa using hg)) (by omega)
  refine⟨(x,z),⟨(cs.drop off).take k,cs.drop (off+k),?_,?_,hx,hz⟩,?_⟩
  ·
   rw[←List.drop_drop,List.take_append_drop]
  ·
   simp only[List.length_take,List.length_drop];omega
  ·
   simp only[List.map_cons,List.sum_cons];omega
theorem opens_struct {fs:Array Field} (ht:P.underlying t=some (.struct fs)) (hs:P.cellsOf t=(fs.toList.map fun f=>P.cellsOf f.type).sum) (h:OpensF bulk enc P W fs.toList 0 R bk)
  (hb:∀ l,(l.map bulk).sum≤bulk (.agg l)):Opens bulk enc P W t R bk:=fun fuel cs d ps hd=>by
 obtain⟨xs,n,_,hx,hcl,hxl,hall⟩:=DataW.trod_struct ht hd
 simp only[Prod.mk.injEq] at hx
 obtain⟨x,h1,h2⟩:=h n cs xs (by simpa using hxl) (fun i f hi=>hall i f (by simpa using hi)) (by rw[hcl,hs];omega)
 refine⟨x,by simpa using h1,Nat.le_trans h2 ?_⟩
 rw[hx.1]
 have:=hb (xs.map (·.1))
 simpa [List.map_map,Function.comp_def] using this
end
theorem below_of {W W':World} {s':Res} {os:List Res} (hg:Good W' s' os) (hl:Le (all W) s') (ha:Aux W W'):Below W.heap.size W W' :=
 ⟨ha.os,ha.tape,ha.output,ha.size,fun k hk=>by
  have h1:W.heap[k]?=some W.heap[k]:=by simp[hk]
  rw[h1]
  exact hg.sh k _ (hl k _ h1)⟩
theorem trodAll_stays {H:Type} {enc:TypeId × Value→H} {P:Program} (hl:laidOutB P=true) {W W':World} (hb:Below W.heap.size W W'):∀ {ts:List TypeId} {vs:List Value} {ds:List (DataW H)} {ps:List MemPlace},
  (ts.all fun t=>P.readableRec t && decide (t<P.types.size))=true→DataW.TrodAll enc P W 0 (fun _=>true) true ts vs ds ps→(∀ x∈ps,x.block<W.heap.size) →
  DataW.TrodAll enc P W' 0 (fun b=>decide (b<W.heap.size)) true ts vs ds ps
 | [],[],[],ps,_,h,_=>h
 | t::ts,v::vs,d::ds,ps,ht,h,hlt=>by
  obtain⟨p,q,h1,h2,rfl⟩:=h
  simp only[List.all_cons,Bool.and_eq_true,decide_eq_true_eq] at ht
  refine⟨p,q,Below.trod hl ht.1.1 ht.1.2 h1 hb (fun x hx=>hlt x (by simp[hx])),trodAll_stays hl hb ?_ h2 (fun x hx=>hlt x (by simp[hx])),rfl⟩
  exact ht.2
 | [],_::_,_,_,_,h,_=>h.elim
 | [],[],_::_,_,_,h,_=>h.elim
 | _::_,[],_,_,_,h,_=>h.elim
 | _::_,_::_,[],_,_,h,_=>h.elim
theorem law_end {H:Type} {enc:TypeId × Value→H} {P:Program} {f:FuncId} {fn:Func} {spec:ChangeSpec} {W:World} {args:Array Value} {ds gs:List (DataW H)} {before:List MemPlace} {tb:TypeId}
  (hl:laidOutB P=true) (hp:(fn.params.toList.all fun t=>P.readableRec t && decide (t<P.types.size))=true) (hv:spec.vars=[]) (hr:fn.resultTypes = #[tb]) (hb:P.underlying tb=some .bool)
  (hW:DataW.Whole enc P fn.params.toList spec.vars false W args.toList ds gs before) (hs:(spec.fn H (ds++gs)).results=[.lit (.bool true)]∧(spec.fn H (ds++gs)).args=ds∧(spec.fn H (ds++gs)).vars=[])
  (hc:Calls P f args W (Post W (all W) [] fun _ _ r=>r = .bool true)) :
  Calls P f args W fun e W'=>∃ v,e = .returned v∧spec.post enc P fn false true false false W args v W':=by
 refine hc.mono fun e W' ⟨v,s',A,he,hle,hg,ha,hv'⟩=>⟨v,he,?_⟩
 have hbl:=below_of hg hle ha
 have hlt:=hW.lt
 have hW':=hW
 obtain⟨p,q,hA,hV,rfl,_,_⟩:=hW
 obtain⟨s1,s2,s3⟩:=hs
 subst hv'
 refine⟨ds,gs,p++q,[],p,[],hW',?_,?_,?_,hbl.frame _,fun h=>by cases h⟩
 ·
  rw[s1,hr]
  exact trodAll_mk1 (shut_bool hb _)
 ·
  rw[s2]
  exact trodAll_stays hl hbl hp hA (fun x hx=>hlt x (by simp[hx]))
 ·
  rw[s3,hv]
  rfl
end Go.Lw
namespace Go.Lw
open Go.Proofs
section
variable {H:Type} {enc:TypeId × Value→H} {W:World}
abbrev blk:DataW H→Nat:=Go.Proofs.YtpjclnomaemokaaGreat.Rows.uptoBulk
theorem blk_all (l:List (DataW H)):(l.map blk).sum=Go.Proofs.YtpjclnomaemokaaGreat.Rows.uptoBulkAll l:=by
 induction l with
 | nil=>simp[Go.Proofs.YtpjclnomaemokaaGreat.Rows.uptoBulkAll]
 | cons x l ih=>simp only[List.map_cons,List.sum_cons,ih,Go.Proofs.YtpjclnomaemokaaGreat.Rows.uptoBulkAll]
theorem blk_one (d:DataW H):1≤blk d:=by
 cases d with
 | lit l=>cases l<;>simp[blk,Go.Proofs.YtpjclnomaemokaaGreat.Rows.uptoBulk]
 | _=>simp[blk,Go.Proofs.YtpjclnomaemokaaGreat.Rows.uptoBulk]
theorem blk_slice (l r:List (DataW H)):(l.map blk).sum≤blk (.slice l r):=by rw[blk_all];simp only[blk,Go.Proofs.YtpjclnomaemokaaGreat.Rows.uptoBulk];omega
theorem blk_len (l r:List (DataW H)):l.length≤blk (.slice l r):=by
 have h:l.length≤(l.map blk).sum:=by
  induction l with
  | nil=>simp
  | cons x l ih=>have:=blk_one x;simp only[List.map_cons,List.sum_cons,List.length_cons];omega
 exact Nat.le_trans h (blk_slice l r)
theorem blk_agg (l:List (DataW H)):(l.map blk).sum≤blk (.agg l):=by rw[blk_all];simp only[blk,Go.Proofs.YtpjclnomaemokaaGreat.Rows.uptoBulk];omega
abbrev Op {α:Type} (enc:TypeId × Value→H) (W:World) (t:TypeId) (R:Res→List Value→α→Prop) (bk:α→Nat):Prop:=Opens blk enc Tryz.prog W t R bk
theorem op_int:Op enc W 3 (RInt .i64) (fun _=>0):=opens_int Tryz.underlying3
def Conf.size (x:Conf):Nat:=x.voters.length+x.learners.length
end
end Go.Lw
namespace Go.Lw
open Go.Proofs
section
variable {H:Type} {enc:TypeId × Value→H} {W:World}
theorem op_bytes:Op enc W 28 (RSl (RInt .u8) 1) (fun xs=>xs.length) :=
 (opens_slice Tryz.underlying28 (by kernel_rfl:_=1) (by decide) (opens_int Tryz.underlying5) blk_slice blk_len).imp id (fun _ _ _ h=>h) (fun _=>Nat.le_max_left _ _)
end
end Go.Lw
namespace Go.Lw
open Go.Proofs
attribute [local irreducible] RL RA
theorem sameInts_ct {w:World} {s:Res} {os:List Res} {xs:List Int} {a b:Option Addr} {c d:Nat} (hg:Good w s os) (ha:Imm (RInt .i64) 1 s a c xs) (hb:Imm (RInt .i64) 1 s b d xs) :
  Calls Tryz.prog 53 #[.slice a xs.length c,.slice b xs.length d] w (PostV w s os fun r=>r = .bool true):=by
 have hmax:=ha.le_max
 simp only[maxLen] at hmax
 refine enter (l:=[.slice a xs.length c,.slice b xs.length d]) Tryz.func53 rfl Tryz.ntmps53 rfl ?_
 refine go 4 ?_
 refine CW.seq (CW.seq (CW.plain ?_))
 refine go 6 ?_
 refine CW.ne rfl (fun h=>absurd rfl h) (fun _=>CW.skip ?_)
 refine CW.meet (fun E w'=>E=[(0,.slice a xs.length c)]∧Good w' s os∧Aux w w') ?_ ?_
 ·
  refine CW.seq (CW.plain ?_)
  refine go 2 ?_
  refine CW.block (CW.loop (σ:=Nat) (fun j E w'=>∃ k:Nat,E=[(0,.slice a xs.length c),(1,.slice b xs.length d),(5,.int .i64 k)]∧Good w' s os∧Aux w w'∧k+j=xs.length) (fun j=>j) xs.length
   [(0,.slice a xs.length c),(1,.slice b xs.length d),(5,.int .i64 0)] ⟨rfl,rfl,rfl,trivial⟩ ⟨0,rfl,hg,Aux.refl _,by omega⟩ ?_)
  rintro j E w1 ⟨k,rfl,hg1,hax1,hk⟩
  refine CW.seq (CW.seq (CW.plain ?_))
  refine go 5 ?_
  refine CW.test rfl (fun h=>?_) (fun h=>CW.exit ?_)
  ·
   refine CW.skip (CW.seq (CW.block (CW.seq ?_)))
   refine CW.draws [(true,0),(true,1),(true,2),(true,3),(true,4),(true,5),(true,6),(true,7),(true,8)] (fun w=>Good w s os) mixed (by kernel_rfl) (by kernel_rfl) (by kernel_rfl) (by kernel_rfl) (hg1.drew) ?_
   refine go 2 ?_
   refine RL.idx rfl rfl rfl rfl sl25.out rfl rfl (ha) (by omega) ((by omega)) ?_
   rintro q1 vs1 hvl1 hH1 ⟨rfl,hr1⟩
   refine RL.loadT rfl rfl rfl rfl ty3.out rfl (hH1) (fun w h=>h.sh) rfl ?_
   refine go 2 ?_
   refine RL.idx rfl rfl rfl rfl sl25.out rfl rfl (hb) (by omega) ((by omega)) ?_
   rintro q2 vs2 hvl2 hH2 ⟨rfl,hr2⟩
   refine RL.loadT rfl rfl rfl rfl ty3.out rfl (hH2) (fun w h=>h.sh) rfl ?_
   refine go 2 ?_
   refine CW.ne rfl (fun h=>absurd rfl h) (fun _=>CW.skip (CW.plain ?_))
   refine go 4 ?_
   cases j with
   | zero=>omega
   | succ j=>exact fun ac ha=>⟨j,[(0,.slice a xs.length c),(1,.slice b xs.length d),(5,.int .i64 ((k:Int)+1))],ha.sub ⟨rfl,rfl,rfl,trivial⟩,⟨k+1,rfl,hg1.drew,hax1.trans (Aux.drew _),by omega⟩,Nat.lt_succ_self j⟩
  ·
   exact fun ac ha=>⟨[(0,.slice a xs.length c)],ha.sub ⟨rfl,trivial⟩,rfl,hg1,hax1⟩
 rintro E w1 ⟨rfl,hg1,hax1⟩
 refine go 4 ?_
 exact CW.ret (ret (vs:=[_]) ⟨_,_,rfl,rfl,rfl⟩ (PostV.mk hg1 hax1 rfl))
theorem SameConf_ct {w:World} {s:Res} {os:List Res} {x:Conf} {us vs:List Value} (hg:Good w s os) (hu:RConf s us x) (hv:RConf s vs x) :
  Calls Tryz.prog 24 #[.agg us.toArray,.agg vs.toArray] w (PostV w s os fun r=>r = .bool true):=by
 obtain⟨a1,c1,b1,d1,rfl,i1,j1⟩:=hu
 obtain⟨a2,c2,b2,d2,rfl,i2,j2⟩:=hv
 refine enter (l:=[.agg #[.slice a1 x.voters.length c1,.slice b1 x.learners.length d1],.agg #[.slice a2 x.voters.length c2,.slice b2 x.learners.length d2]]) Tryz.func24 rfl Tryz.ntmps24 rfl ?_
 refine go 2 ?_
 refine RL.box rfl rfl rfl rfl rfl hg ?_
 rintro p2 w2 hg2 hax2
 refine go 1 ?_
 refine RL.box rfl rfl rfl rfl rfl hg2 ?_
 rintro p3 w3 hg3 hax3
 refine go 6 ?_
 refine RL.load (j:=0) rfl rfl rfl rfl ty25.out rfl (Holds.one p2 _ _) (hg3.drop.1) rfl ?_
 refine go 1 ?_
 refine RL.load (j:=0) rfl rfl rfl rfl ty25.out rfl (Holds.one p3 _ _) (hg3.1) rfl ?_
 refine go 1 ?_
 refine zw (sameInts_ct hg3 i1 i2) ?_
 rintro v4 w4 hg4 hax4 rfl
 refine go 6 ?_
 refine RL.load (j:=1) rfl rfl rfl rfl ty25.out rfl (Holds.one p2 _ _) (hg4.drop.1) rfl ?_
 refine go 1 ?_
 refine RL.load (j:=1) rfl rfl rfl rfl ty25.out rfl (Holds.one p3 _ _) (hg4.1) rfl ?_
 refine go 1 ?_
 refine zw (sameInts_ct hg4 j1 j2) ?_
 rintro v5 w5 hg5 hax5 rfl
 refine go 11 ?_
 exact CW.ret (ret (vs:=[_]) ⟨_,_,rfl,rfl,rfl⟩ (PostV.mk hg5.drop.drop (hax2.trans (hax3.trans (hax4.trans hax5))) rfl))
def RInp:Res→List Value→Inp→Prop:=fun s vs i=>∃ y da dc,vs=inpV i y da dc∧InpOk s i y da dc
theorem RInp.up:Up RInp:=fun _ _ _ _ hl ⟨y,da,dc,h,h1⟩=>⟨y,da,dc,h,h1.up hl⟩
def Entry.size (x:Entry):Nat:=x.data.length+x.conf.size
def Msg.size (m:Msg):Nat:=max m.entries.length (m.entries.map Entry.size).sum+m.conf.size+m.data.length
def Inp.size (i:Inp):Nat:=i.msg.size+i.data.length
def Log.size (l:Log):Nat:=l.base.conf.size+l.base.data.length+max l.entries.length (l.entries.map Entry.size).sum
theorem Entry.size_mem:∀ {xs:List Entry} {x:Entry},x∈xs→x.size≤(xs.map Entry.size).sum
 | y::ys,x,h=>by
  simp only[List.map_cons,List.sum_cons]
  rcases List.mem_cons.1 h with rfl | h
  ·
   omega
  ·
   have:=Entry.size_mem h;omega
theorem mfit {s:Res} {m:Msg} {y:Lay} (h:MsgOk s m y) {d:Nat} (hd:m.size≤d):MFit d m:=by
 simp only[Msg.size,Conf.size] at hd
 refine⟨h.frm,h.term,h.index,h.logTerm,h.commit,fun e he=>?_,by omega,⟨by omega,by omega⟩,by omega⟩
 have h1:=Entry.size_mem he
 simp only[Entry.size,Conf.size] at h1 hd
 have hs:∀ n:Nat,n=(m.entries.map Entry.size).sum→e.data.length+(e.conf.voters.length+e.conf.learners.length)≤n:=fun n hn=>by rw[hn];exact h1
 obtain⟨vs,hE⟩:=h.entries.lies.all e he
 obtain⟨ea,ec,ea1,ec1,ea2,ec2,hvs,r1,r2,r3,hrest⟩:=hE
 have:=hs _ rfl
 exact⟨r1,r2,by omega,by omega,by omega⟩
theorem ifit {s:Res} {i:Inp} {y:Lay} {da:Option Addr} {dc d:Nat} (h:InpOk s i y da dc) (hd:i.size≤d):IFit d i:=by
 simp only[Inp.size] at hd
 exact⟨mfit h.msg (by omega),by omega⟩
end Go.Lw
namespace Go.Lw
section
variable {c d:Nat} {n:Node}
theorem go_calm {f:Int} (h:Sound c n.s):Goes c n.s (n.calm f).s:=by
 unfold Node.calm Node.follow
 simp only[Int.lt_irrefl,if_false]
 exact⟨{ h with role:=by show (1:Int)≤1∧(1:Int)≤4;omega,lead:=fun z=>by have:(3:Int)≤1:=z;omega },{ Rel.refl n.s with }⟩
theorem RunX.termAt {l:Log} (h:RunX l) {k:Nat} (hk:k<l.entries.length):termP l (l.base.index+1+k)=(l.entries[k].term,true):=by
 have hp:=h.place (l.base.index+1+k)
 have hp2:placeP l (l.base.index+1+k)=k:=by omega
 unfold termP
 rw[if_neg (by omega),hp2,List.getElem?_eq_getElem hk]
 simp only
 rw[if_pos (h k _ (List.getElem?_eq_getElem hk))]
theorem RunX.cut {l:Log} (h:RunX l) {x t:Int} (hx:termP l x=(t,true)) {p:Nat} (hp:(p:Int)=x-l.base.index) :
  ((l.entries.take p).getLast?.map (·.index)).getD l.base.index=x∧((l.entries.take p).getLast?.map (·.term)).getD l.base.term=t∧p≤l.entries.length:=by
 have hr:=h.term (x:=x) (by rw[hx])
 cases p with
 | zero =>
  have hxb:x=l.base.index:=by omega
  subst hxb
  unfold termP at hx
  rw[if_pos rfl] at hx
  cases hx
  exact⟨rfl,rfl,Nat.zero_le _⟩
 | succ p =>
  have hlt:p<l.entries.length:=by omega
  have h1:=h.termAt hlt
  have hxe:l.base.index+1+p=x:=by omega
  rw[hxe,hx] at h1
  have h2:=h p _ (List.getElem?_eq_getElem hlt)
  have h3:(l.entries.take (p+1)).getLast?=some l.entries[p]:=by
   rw[List.getLast?_eq_getElem?,List.length_take,show min (p+1) l.entries.length-1=p by omega,List.getElem?_take_of_lt (by omega),List.getElem?_eq_getElem hlt]
  rw[h3]
  exact⟨by simp only[Option.map_some,Option.getD_some];omega,by simp only[Option.map_some,Option.getD_some];exact (congrArg Prod.fst h1).symm,by omega⟩
theorem merge_sound {l:Log} {k i t T:Int} {more:List Entry} (hr:runE l.base.index l.base.term l.entries=true) (hk:k≤i) (hkl:k≤(lastP l).1) (hT:(lastP l).2≤T) (hmT:∀ e∈more,e.term≤T)
  {G:Merged} (hG:mergeP l k i t more=G) (h1:G.err≠1) (h2:G.err≠61) (h3:G.err≠62) :
  G.log.base=l.base∧runE l.base.index l.base.term G.log.entries=true∧k≤(lastP G.log).1∧i+more.length≤(lastP G.log).1∧(lastP G.log).2≤T∧∀ e∈l.entries,e.index≤k→e∈G.log.entries:=by
 have hx:RunX l:=fun q e hq=>runE_get hr q e hq
 unfold mergeP at hG
 split at hG
 ·
  subst hG;exact absurd rfl h1
 rename_i hrun
 split at hG
 ·
  subst hG;exact absurd rfl h2
 rename_i hterm
 split at hG
 ·
  subst hG;exact absurd rfl h3
 have hrm:runE i t more=true:=by
  have:runP i t more=true:=by simpa using hrun
  simp only[runP,Bool.and_eq_true] at this
  exact this.2
 have hti:termP l i=(t,true):=by
  have ha:(termP l i).2=true:=by
   cases hz:(termP l i).2 with
   | true=>rfl
   | false=>exact absurd (.inl hz) hterm
  have hb:(termP l i).1=t:=Classical.byContradiction fun z=>hterm (.inr z)
  rw[←ha,← hb]
 have hold:∀ e∈more,freshP l e=false→termP l e.index=(e.term,true):=fun e _ hf=>by
  simp only[freshP,otherP,Bool.or_eq_false_iff,Bool.and_eq_false_iff,decide_eq_false_iff_not,Bool.not_eq_false'] at hf
  have ha:=hf.1
  have hb:(termP l e.index).1=e.term:=by
   rcases hf.2 with z | z
   ·
    rw[ha] at z;cases z
   ·
    exact Classical.byContradiction fun y=>z y
  rw[←ha,← hb]
 cases hf:more.findIdx? (freshP l) with
 | none =>
  rw[hf] at hG
  subst hG
  refine⟨rfl,hr,hkl,?_,hT,fun e he _=>he⟩
  have hl:=hx.last
  cases hm:more.length with
  | zero =>
   have:=hx.term (x:=i) (by rw[hti])
   simp only;omega
  | succ q =>
   have hq:q<more.length:=by omega
   have hn:=List.findIdx?_eq_none_iff.1 hf _ (List.getElem_mem hq)
   have ht:=hold _ (List.getElem_mem hq) hn
   have:=hx.term (x:=more[q].index) (by rw[ht])
   have hi:=runE_get hrm q _ (List.getElem?_eq_getElem hq)
   simp only;omega
 | some j =>
  rw[hf] at hG
  obtain⟨hj,hj1,hj2⟩:=List.findIdx?_eq_some_iff_getElem.1 hf
  have hfr:(more[j]?.map (·.index)).getD 0=i+1+j:=by
   rw[List.getElem?_eq_getElem hj]
   simp only[Option.map_some,Option.getD_some]
   exact runE_get hrm j _ (List.getElem?_eq_getElem hj)
  dsimp only at hG
  rw[hfr] at hG
  obtain⟨t',ht',hd'⟩:∃ t',termP l (i+j)=(t',true)∧runE (i+j) t' (more.drop j)=true:=by
   cases j with
   | zero=>exact⟨t,by simpa using hti,by simpa using hrm⟩
   | succ j =>
    have hb:=runE_get hrm j _ (List.getElem?_eq_getElem (by omega))
    have ha:=hold _ (List.getElem_mem (by omega:j<more.length)) (by simpa using hj2 j (by omega))
    have he:more[j].index=i+((j+1:Nat):Int):=by omega
    have hc:=runE_drop j (by omega) hrm
    rw[he] at ha hc
    exact⟨_,ha,hc⟩
  have hin:=hx.term (x:=i+j) (by rw[ht'])
  have hp:=hx.place (i+1+j)
  have hc:=hx.cut ht' (p:=placeP l (i+1+j)) (by omega)
  subst hG
  have hrun':runE l.base.index l.base.term (l.entries.take (placeP l (i+1+j))++more.drop j)=true:=by
   refine runE_append (runE_take _ hr) ?_
   rw[hc.1,hc.2.1];exact hd'
  have hx2:RunX ⟨l.base,l.entries.take (placeP l (i+1+j))++more.drop j⟩:=fun q e hq=>runE_get hrun' q e hq
  have hl2:=hx2.last
  simp only[List.length_append,List.length_take,List.length_drop] at hl2
  refine⟨rfl,hrun',?_,?_,?_,fun e he hek=>?_⟩
  ·
   show k≤(lastP (⟨l.base,l.entries.take (placeP l (i+1+j))++more.drop j⟩:Log)).1;omega
  ·
   show i+more.length≤(lastP (⟨l.base,l.entries.take (placeP l (i+1+j))++more.drop j⟩:Log)).1;omega
  ·
   obtain⟨z,hz⟩:∃ z,(more.drop j).getLast?=some z:=by
    cases hd:more.drop j with
    | nil=>have:=List.drop_eq_nil_iff.1 hd;omega
    | cons a b=>exact⟨_,List.getLast?_cons⟩
   have hz2:(l.entries.take (placeP l (i+1+j))++more.drop j).getLast?=some z:=by rw[List.getLast?_append,hz];rfl
   unfold lastP
   simp only[hz2]
   exact hmT z (List.mem_of_mem_drop (List.mem_of_getLast? hz))
  ·
   obtain⟨q,hq,rfl⟩:=List.getElem_of_mem he
   have hqi:=hx q _ (List.getElem?_eq_getElem hq)
   refine List.mem_append_left _ ?_
   rw[List.mem_take_iff_getElem]
   exact⟨q,by omega,rfl⟩
theorem go_grow {m:Msg} (h:Sound c n.s):Goes c n.s (n.grow m).s:=by
 have hw:=go_calm (f:=m.frm) h
 by_cases h0:n.s.role=4
 ·
  unfold Node.grow;rw[if_pos h0];exact Goes.self h
 by_cases h1:m.index<(n.calm m.frm).s.hard.commit
 ·
  rw[grow_old h0 h1];exact hw
 obtain⟨G,hG⟩:∃ G,G=mergeP (n.calm m.frm).s.log (n.calm m.frm).s.hard.commit m.index m.logTerm m.entries:=⟨_,rfl⟩
 by_cases h2:G.err=1∨G.err=62∨m.entries.any (Node.strange (n.calm m.frm).s.hard.term)=true
 ·
  rw[grow_bad h0 h1 hG.symm h2];exact hw
 by_cases h3:G.err=61
 ·
  rw[grow_gap h0 h1 hG.symm h2 h3];exact hw
 rw[grow_ok h0 h1 hG.symm h2 h3]
 have hmT:∀ e∈m.entries,e.term≤(n.calm m.frm).s.hard.term:=fun e he=>by
  refine Classical.byContradiction fun z=>h2 (.inr (.inr (List.any_eq_true.2 ⟨e,he,?_⟩)))
  have:(n.calm m.frm).s.hard.term<e.term:=by omega
  simp[Node.strange,this]
 have hs:=hw.1
 obtain⟨g1,g2,g3,g4,g5,g6⟩:=merge_sound hs.run (by omega) hs.high hs.lt hmT hG.symm (fun z=>h2 (.inl z)) h3 (fun z=>h2 (.inr (.inl z)))
 refine hw.then_ ⟨{ hs with
  run:=by show runE G.log.base.index G.log.base.term G.log.entries=true;rw[g1];exact g2
  bt:=by show G.log.base.term≤_;rw[g1];exact hs.bt
  low:=by show G.log.base.index≤max _ _;rw[g1];have:=hs.low;omega
  high:=by show max _ _≤(lastP G.log).1;omega
  lt:=g5 },{ Rel.refl (n.calm m.frm).s with
  commit:=by show (n.calm m.frm).s.hard.commit≤max _ _;omega
  base:=by show (n.calm m.frm).s.log.base.index≤G.log.base.index;rw[g1];exact Int.le_refl _
  kept:=fun e he hk=> .inl (g6 e he hk) }⟩
theorem go_install {s:Snap} (h:Sound c n.s) (h1:n.s.hard.commit<s.index) (h2:s.term≤n.s.hard.term):Goes c n.s (n.install s).s:=by
 have hx:=h.runX
 have hlow:=h.low
 have hkept:∀ e∈n.s.log.entries,e.index≤n.s.hard.commit→e.index<s.index:=fun e _ hk=>by omega
 unfold Node.install
 dsimp only
 split
 ·
  rename_i j hj
  obtain⟨hj0,hj1,_⟩:=List.findIdx?_eq_some_iff_getElem.1 hj
  have hj2:=of_decide_eq_true hj1
  have hd:=runE_drop j hj0 h.run
  rw[hj2.1,hj2.2] at hd
  have hx2:RunX ⟨s,n.s.log.entries.drop (j+1)⟩:=fun q e hq=>runE_get hd q e hq
  have hl2:=hx2.last
  refine⟨{ h with run:=hd,bt:=h2,low:=Int.le_refl _,high:=?_,lt:=?_ },{ Rel.refl n.s with commit:=Int.le_of_lt h1,base:=by show _≤s.index;omega,kept:=fun e he hk=> .inr (hkept e he hk) }⟩
  ·
   show s.index≤(lastP ⟨s,n.s.log.entries.drop (j+1)⟩).1
   rw[hl2];simp only;omega
  ·
   show (lastP ⟨s,n.s.log.entries.drop (j+1)⟩).2≤_
   have hlt:=h.lt
   rw[lastP_eq] at hlt ⊢
   simp only at hlt ⊢
   cases hz:(n.s.log.entries.drop (j+1)).getLast? with
   | none=>exact h2
   | some z =>
    have hne:¬ n.s.log.entries.length≤j+1:=fun y=>by rw[List.drop_eq_nil_of_le y] at hz;cases hz
    have he:n.s.log.entries.getLast?=some z:=by
     rw[List.getLast?_drop,if_neg hne] at hz;exact hz
    rw[he] at hlt
    exact hlt
 ·
  exact⟨{ h with run:=rfl,bt:=h2,low:=Int.le_refl _,high:=Int.le_refl _,lt:=h2 },{ Rel.refl n.s with commit:=Int.le_of_lt h1,base:=by show _≤s.index;omega,kept:=fun e he hk=> .inr (hkept e he hk) }⟩
theorem go_chunk {m:Msg} (h:Sound c n.s):Goes c n.s (n.chunk m).s:=by
 have hw:=go_calm (f:=m.frm) h
 by_cases h0:n.s.role=4∨checkP m.conf≠0∨n.s.hard.term<m.logTerm
 ·
  rw[chunk_no h0];exact Goes.self h
 by_cases h1:m.index≤(n.calm m.frm).s.hard.commit
 ·
  rw[chunk_old h0 h1];exact hw
 have hi:=takeP_ix (n.calm m.frm).s.part m
 obtain⟨T,hT⟩:∃ T,T=takeP (n.calm m.frm).s.part m:=⟨_,rfl⟩
 rw[←hT] at hi
 by_cases h2:T.2=false
 ·
  rw[chunk_part h0 h1 hT.symm h2]
  exact hw.then_ ⟨{ hw.1 with },{ Rel.refl (n.calm m.frm).s with }⟩
 ·
  rw[chunk_all h0 h1 hT.symm h2]
  have ht:¬ n.s.hard.term<m.logTerm:=fun z=>h0 (.inr (.inr z))
  have hh:n.s.hard.term≤(n.calm m.frm).s.hard.term:=hw.2.term
  exact hw.then_ (go_install hw.1 (by show _<T.1.index;rw[hi.1];omega) (by show T.1.term≤_;rw[hi.2];omega))
theorem go_chunked {m:Msg} (h:Sound c n.s):Goes c n.s (n.chunked m).s:=by
 unfold Node.chunked
 split
 ·
  exact Goes.self h
 ·
  split
  ·
   rw[Node.piece_s];exact Goes.self h
  ·
   exact Goes.self h
theorem go_heard {m:Msg} (h:Sound c n.s) (hf:Fit d n.s) (hd:d+1≤1099511627776) (hc:c+1≤1099511627776) (hm:1≤m.frm∧m.frm≤7):Goes (c+1) n.s (n.heard m).s:=by
 unfold Node.heard
 split
 ·
  exact (go_vote h hm).mono (by omega)
 split
 ·
  exact go_voted h hf hd (by omega)
 split
 ·
  exact (go_grow h).mono (by omega)
 split
 ·
  exact (go_grown h).mono (by omega)
 split
 ·
  exact (go_chunk h).mono (by omega)
 split
 ·
  exact (go_chunked h).mono (by omega)
 ·
  exact go_now h hf hd hc
theorem go_message {m:Msg} (h:Sound c n.s) (hf:Fit d n.s) (hmr:rng .u64 m.term) (hd:d+2≤1099511627776) (hc:c+1≤1099511627776):Goes (c+1) n.s (n.message m).s:=by
 by_cases h0:n.deaf m
 ·
  rw[message_deaf h0];exact (Goes.self h).mono (by omega)
 have hfrm:1≤m.frm∧m.frm≤7:=by
  constructor
  ·
   exact Classical.byContradiction fun z=>h0 (.inr (.inr (.inl (by omega))))
  ·
   exact Classical.byContradiction fun z=>h0 (.inr (.inr (.inr (.inl (by omega)))))
 have hterm:m.term≤p61:=Classical.byContradiction fun z=>h0 (.inr (.inr (.inr (.inr (.inl (by omega))))))
 by_cases h1:m.kind=1
 ·
  rw[message_1 h0 h1];exact (Goes.self h).mono (by omega)
 by_cases h2:m.kind=2
 ·
  rw[message_2 h0 h2];exact go_preVoted h hf hd hc hterm
 by_cases h3:m.kind<3∨9<m.kind
 ·
  rw[message_no h0 h1 h2 h3];exact (Goes.self h).mono (by omega)
 have hg:Goes c n.s (n.risen m).s:=by
  unfold Node.risen
  split
  ·
   exact go_follow h hterm
  ·
   exact Goes.self h
 have hfr:Fit d (n.risen m).s:=by
  unfold Node.risen
  split
  ·
   exact fit_follow hf hmr
  ·
   exact hf
 by_cases h4:m.term<(n.risen m).s.hard.term
 ·
  rw[message_late h0 h1 h2 h3 h4];exact (hg.then_ (go_late hg.1)).mono (by omega)
 ·
  rw[message_on h0 h1 h2 h3 h4];exact hg.then_ (go_heard hg.1 hfr (by omega) hc hfrm)
theorem go_act {i:Inp} (h:Sound c n.s) (hf:Fit d n.s) (hmr:rng .u64 i.msg.term) (hd:d+2≤1099511627776) (hc:c+1≤1099511627776):Goes (c+1) n.s (n.act i).1.s:=by
 unfold Node.act
 split
 ·
  exact go_tick h hf hd hc
 split
 ·
  exact go_message h hf hmr hd hc
 split
 ·
  exact (go_asked h hf (by omega) (by omega)).mono (by omega)
 ·
  exact (Goes.self h).mono (by omega)
theorem go_step {r:Raft} {i:Inp} (h:Sound c r) (hf:Fit d r) (hmr:rng .u64 i.msg.term) (hd:d+2≤1099511627776) (hc:c+1≤1099511627776):Goes (c+1) r (stepP r i).1:=by
 by_cases he:((newN r).act i).2≠0
 ·
  rw[stepP_err he];exact (Goes.self h).mono (by omega)
 ·
  rw[stepP_ok he];exact go_act (n:=newN r) h hf hmr hd hc
theorem Sound.ok {r:Raft} (h:Sound c r) (hf:Fit d r) (hd:d≤1099511627776) (hc:c≤1099511627776):logOk r.log=true:=by
 have h1:=h.bt
 have h2:=h.tb
 have h3:=hf.log.low
 have h4:=hf.log.count
 have h5:=h.run
 simp only[p61] at h2 h3
 simp only[logOk,runP,Bool.and_eq_true]
 refine⟨decide_eq_true ?_,⟨decide_eq_true ?_,decide_eq_true ?_⟩,h5⟩<;>simp only[p62]<;>omega
end
end Go.Lw
namespace Go.Lw
open Go.Proofs
attribute [local irreducible] RL RA
def seekP (l:Log) (i:Int):Int × Bool:=if i=l.base.index then (l.base.term,true) else match l.entries.find? fun e=>decide (e.index=i) with
 | some e=>(e.term,true)
 | none=>(0,false)
theorem find_take {p:Entry→Bool} {l:List Entry} {k:Nat} (hk:k<l.length) (h:(l.take k).find? p=none) (hp:p l[k]=true):l.find? p=some l[k]:=by
 conv=>lhs;rw[←List.take_append_drop k l]
 rw[List.find?_append,h,Option.none_or,List.drop_eq_getElem_cons hk]
 exact List.find?_cons_of_pos hp
theorem find_take_succ {p:Entry→Bool} {l:List Entry} {k:Nat} (hk:k<l.length) (h:(l.take k).find? p=none) (hp:p l[k]=false):(l.take (k+1)).find? p=none:=by
 rw[show l.take (k+1)=l.take k++[l[k]] by simp only[List.take_add_one,List.getElem?_eq_getElem hk];rfl,List.find?_append,h]
 simp[hp]
theorem seek_in {l:Log} (hx:RunX l) {e:Entry} (he:e∈l.entries):seekP l e.index=(e.term,true):=by
 obtain⟨k,hk,rfl⟩:=List.getElem_of_mem he
 have h1:=hx k _ (List.getElem?_eq_getElem hk)
 unfold seekP
 rw[if_neg (by omega)]
 cases hf:l.entries.find? fun e=>decide (e.index=l.entries[k].index) with
 | none =>
  have:=List.find?_eq_none.1 hf _ he
  simp at this
 | some z =>
  have hz:=List.find?_some hf
  obtain⟨j,hj,hjz⟩:=List.getElem_of_mem (List.mem_of_find?_eq_some hf)
  have h2:=hx j _ (List.getElem?_eq_getElem hj)
  have h3:z.index=l.entries[k].index:=of_decide_eq_true hz
  have hjk:j=k:=by rw[hjz] at h2;omega
  subst hjk
  rw[←hjz]
section
variable {w:World} {s:Res} {os:List Res}
theorem RefTerm_ct {l:Log} {h:Hd} {i:Int} (hg:Good w s os) (hl:LogAt s s l h) :
  Calls Tryz.prog 13 #[logA l h,u64 i] w (PostV w s os fun q=>q = .tuple #[u64 (seekP l i).1,.bool (seekP l i).2]):=by
 have hm:=hl.entries.le_max
 simp only[maxLen] at hm
 refine enter (l:=[logA l h,u64 i]) Tryz.func13 rfl Tryz.ntmps13 rfl ?_
 refine go 3 ?_
 rintro b1 w1 Q1 (hg1:Good _ s (Q1::os)) hax1 hb1
 refine go 13 ?_
 refine CW.cond rfl (fun h11=>?_) (fun h11=>?_)
 ·
  refine go 8 ?_
  refine CW.ret (zr2 ?_)
  have h0:i=l.base.index:=by simpa using h11
  exact PostV.mq (hg1.drop) (by simp only[seekP,if_pos h0];rfl)
 ·
  have h0:¬ i=l.base.index:=by simpa using h11
  refine go 7 ?_
  refine CW.loop (σ:=Nat) (fun j E w'=>∃ k:Nat,Good w' s (Q1::os)∧Aux w w'∧E=[(1,u64 i),(2,ptr b1),(6,i64 k)]∧k+j=l.entries.length∧(l.entries.take k).find? (fun e=>decide (e.index=i))=none) (fun j=>j) l.entries.length [(1,u64 i),(2,ptr b1),(6,i64 0)] ⟨rfl,rfl,rfl,trivial⟩ ⟨0,hg1,hax1,rfl,by omega,rfl⟩ ?_
  rintro j E wL ⟨k,hgL,haxL,rfl,hk,hn⟩
  refine go 9 ?_
  refine CW.cond rfl (fun h19=>?_) (fun h19=>?_)
  ·
   have hlt:k<l.entries.length:=by have:=decide_t h19;omega
   refine go 8 ?_
   refine RL.idxL rfl rfl rfl rfl sl31.out rfl rfl hl.entries (by omega) (by omega) ?_
   rintro q vs hvl hH ⟨ea,ec,ea1,ec1,ea2,ec2,rfl,er1,er2,er3,eh1,eh2,eh3⟩
   refine go 1 ?_
   refine RL.load (j:=0) rfl rfl rfl rfl ty22.out rfl (hH) (hgL.sh) rfl ?_
   refine go 3 ?_
   refine CW.cond rfl (fun h29=>?_) (fun h29=>?_)
   ·
    refine go 5 ?_
    refine RL.idxL rfl rfl rfl rfl sl31.out rfl rfl hl.entries (by omega) (by omega) ?_
    rintro q2 vs2 hvl2 hH2 ⟨fa,fc,fa1,fc1,fa2,fc2,rfl,fr1,fr2,fr3,fh1,fh2,fh3⟩
    refine go 1 ?_
    refine RL.load (j:=1) rfl rfl rfl rfl ty22.out rfl (hH2) (hgL.sh) rfl ?_
    refine go 3 ?_
    refine CW.ret (zr2 ?_)
    have hf:=find_take (p:=fun e=>decide (e.index=i)) hlt hn (by simpa using h29)
    exact PostV.mq (hgL.drop) (by simp only[seekP,if_neg h0,hf];rfl)
   ·
    refine go 6 ?_
    have hf:=find_take_succ (p:=fun e=>decide (e.index=i)) hlt hn (by simpa using h29)
    cases j with
    | zero=>omega
    | succ j=>exact fun ac ha=>⟨j,[(1,u64 i),(2,ptr b1),(6,i64 ((k:Int)+1))],ha.sub ⟨rfl,rfl,rfl,trivial⟩,⟨k+1,hgL,haxL,rfl,by omega,hf⟩,Nat.lt_succ_self j⟩
  ·
   refine go 6 ?_
   refine CW.ret (zr2 ?_)
   have hkl:k=l.entries.length:=by have:=decide_f h19;omega
   rw[hkl,List.take_length] at hn
   exact PostV.mq (hgL.drop) (by simp only[seekP,if_neg h0,hn];rfl)
end
end Go.Lw
namespace Go.Lw
open Go.Proofs
attribute [local irreducible] RL RA
section
variable {w:World} {s:Res} {os:List Res}
theorem RefSame_ct {x:Entry} {us vs:List Value} (hg:Good w s os) (hu:REntry s us x) (hv:REntry s vs x) :
  Calls Tryz.prog 44 #[.agg us.toArray,.agg vs.toArray] w (PostV w s os fun r=>r = .bool true):=by
 obtain⟨a1,c1,a2,c2,a3,c3,rfl,r1,r2,r3,i1,i2,i3⟩:=hu
 obtain⟨b1,d1,b2,d2,b3,d3,rfl,_,_,_,j1,j2,j3⟩:=hv
 refine enter (l:=[.agg #[u64 x.index,u64 x.term,i64 x.kind,.slice a1 x.data.length c1,.slice a2 x.conf.voters.length c2,.slice a3 x.conf.learners.length c3],.agg #[u64 x.index,u64 x.term,i64 x.kind,.slice b1 x.data.length d1,.slice b2 x.conf.voters.length d2,.slice b3 x.conf.learners.length d3]]) Tryz.func44 rfl Tryz.ntmps44 rfl ?_
 refine go 3 ?_
 rintro b1 w1 Q1 (hg1:Good _ s (Q1::os)) hax1 hb1
 refine go 2 ?_
 rintro b2 w2 Q2 (hg2:Good _ s (Q2::Q1::os)) hax2 hb2
 refine go 10 ?_
 refine zw (SameConf_ct hg2 ⟨_,_,_,_,rfl,i2,i3⟩ ⟨_,_,_,_,rfl,j2,j3⟩) ?_
 rintro v3 w3 (hg3:Good _ s (Q2::Q1::os)) hax3 rfl
 refine go 7 ?_
 refine RL.part 12 rfl (fun h12=>?_) (fun h12=>?_)
 ·
  refine go 7 ?_
  refine RL.part 19 rfl (fun h19=>?_) (fun h19=>?_)
  ·
   refine go 7 ?_
   refine RL.part 26 rfl (fun h26=>?_) (fun h26=>?_)
   ·
    refine go 7 ?_
    refine RL.part 33 rfl (fun h33=>?_) (fun h33=>?_)
    ·
     refine go 2 ?_
     refine RL.bts rfl rfl rfl rfl sl28.out Tryz.underlying5 Tryz.underlying9 rfl (i1.2.2) (hg3.sh) ?_
     refine go 2 ?_
     refine RL.bts rfl rfl rfl rfl sl28.out Tryz.underlying5 Tryz.underlying9 rfl (j1.2.2) (hg3.sh) ?_
     refine RL.sEq rfl rfl rfl rfl rfl rfl ?_
     refine go 3 ?_
     refine CW.ret (zr1 ?_)
     refine PostV.mq ((hg3.drop).drop) (congrArg Value.bool ?_)
     simp_all
    ·
     refine go 10 ?_
     refine CW.ret (zr1 ?_)
     refine PostV.mq ((hg3.drop).drop) (congrArg Value.bool ?_)
     simp_all
   ·
    refine go 17 ?_
    refine CW.ret (zr1 ?_)
    refine PostV.mq ((hg3.drop).drop) (congrArg Value.bool ?_)
    simp_all
  ·
   refine go 24 ?_
   refine CW.ret (zr1 ?_)
   refine PostV.mq ((hg3.drop).drop) (congrArg Value.bool ?_)
   simp_all
 ·
  refine go 31 ?_
  refine CW.ret (zr1 ?_)
  refine PostV.mq ((hg3.drop).drop) (congrArg Value.bool ?_)
  simp_all
theorem RefSameSnap_ct {x:Snap} {a1 c1 a2 c2 a3 c3 b1 d1 b2 d2 b3 d3} (hg:Good w s os) (i1:Imm (RInt .i64) 1 s a1 c1 x.conf.voters) (i2:Imm (RInt .i64) 1 s a2 c2 x.conf.learners) (i3:Imm (RInt .u8) 1 s a3 c3 x.data) (j1:Imm (RInt .i64) 1 s b1 d1 x.conf.voters) (j2:Imm (RInt .i64) 1 s b2 d2 x.conf.learners) (j3:Imm (RInt .u8) 1 s b3 d3 x.data) :
  Calls Tryz.prog 120 #[.agg #[u64 x.index,u64 x.term,.slice a1 x.conf.voters.length c1,.slice a2 x.conf.learners.length c2,.slice a3 x.data.length c3],.agg #[u64 x.index,u64 x.term,.slice b1 x.conf.voters.length d1,.slice b2 x.conf.learners.length d2,.slice b3 x.data.length d3]] w (PostV w s os fun r=>r = .bool true):=by
 refine enter (l:=[.agg #[u64 x.index,u64 x.term,.slice a1 x.conf.voters.length c1,.slice a2 x.conf.learners.length c2,.slice a3 x.data.length c3],.agg #[u64 x.index,u64 x.term,.slice b1 x.conf.voters.length d1,.slice b2 x.conf.learners.length d2,.slice b3 x.data.length d3]]) Tryz.func120 rfl Tryz.ntmps120 rfl ?_
 refine go 3 ?_
 rintro b4 w4 Q4 (hg4:Good _ s (Q4::os)) hax4 hb4
 refine go 2 ?_
 rintro b5 w5 Q5 (hg5:Good _ s (Q5::Q4::os)) hax5 hb5
 refine go 10 ?_
 refine zw (SameConf_ct hg5 ⟨_,_,_,_,rfl,i1,i2⟩ ⟨_,_,_,_,rfl,j1,j2⟩) ?_
 rintro v6 w6 (hg6:Good _ s (Q5::Q4::os)) hax6 rfl
 refine go 7 ?_
 refine RL.part 12 rfl (fun h12=>?_) (fun h12=>?_)
 ·
  refine go 7 ?_
  refine RL.part 19 rfl (fun h19=>?_) (fun h19=>?_)
  ·
   refine go 7 ?_
   refine RL.part 26 rfl (fun h26=>?_) (fun h26=>?_)
   ·
    refine go 2 ?_
    refine RL.bts rfl rfl rfl rfl sl28.out Tryz.underlying5 Tryz.underlying9 rfl (i3.2.2) (hg6.sh) ?_
    refine go 2 ?_
    refine RL.bts rfl rfl rfl rfl sl28.out Tryz.underlying5 Tryz.underlying9 rfl (j3.2.2) (hg6.sh) ?_
    refine RL.sEq rfl rfl rfl rfl rfl rfl ?_
    refine go 3 ?_
    refine CW.ret (zr1 ?_)
    refine PostV.mq ((hg6.drop).drop) (congrArg Value.bool ?_)
    simp_all
   ·
    refine go 10 ?_
    refine CW.ret (zr1 ?_)
    refine PostV.mq ((hg6.drop).drop) (congrArg Value.bool ?_)
    simp_all
  ·
   refine go 17 ?_
   refine CW.ret (zr1 ?_)
   refine PostV.mq ((hg6.drop).drop) (congrArg Value.bool ?_)
   simp_all
 ·
  refine go 24 ?_
  refine CW.ret (zr1 ?_)
  refine PostV.mq ((hg6.drop).drop) (congrArg Value.bool ?_)
  simp_all
theorem RefSameEntries_ct {r1 r2:Res} {xs:List Entry} {a b:Option Addr} {c d:Nat} (hg:Good w s os) (h1:r1=s∨r1∈os) (h2:r2=s∨r2∈os) (ha:Lies REntry 6 r1 s a c xs) (hb:Lies REntry 6 r2 s b d xs) :
  Calls Tryz.prog 121 #[.slice a xs.length c,.slice b xs.length d] w (PostV w s os fun r=>r = .bool true):=by
 have hmax:=ha.le_max
 simp only[maxLen] at hmax
 refine enter (l:=[.slice a xs.length c,.slice b xs.length d]) Tryz.func121 rfl Tryz.ntmps121 rfl ?_
 refine go 13 ?_
 refine CW.cond rfl (fun h11=>?_) (fun h11=>?_)
 ·
  simp at h11
 ·
  refine go 7 ?_
  refine CW.loop (σ:=Nat) (fun j E w'=>∃ k:Nat,E=[(0,.slice a xs.length c),(1,.slice b xs.length d),(5,i64 k)]∧Good w' s os∧Aux w w'∧k+j=xs.length) (fun j=>j) xs.length [(0,.slice a xs.length c),(1,.slice b xs.length d),(5,i64 0)] ⟨rfl,rfl,rfl,trivial⟩ ⟨0,rfl,hg,(Aux.refl _),by omega⟩ ?_
  rintro j E wL ⟨k,rfl,hgL,haxL,hk⟩
  refine go 8 ?_
  refine CW.cond rfl (fun h15=>?_) (fun h15=>?_)
  ·
   have hlt:k<xs.length:=by have:=decide_t h15;omega
   refine go 4 ?_
   have hg7:=hgL.drew
   refine CW.draws [(true,0),(true,1),(true,2),(true,3),(true,4),(true,5),(true,6),(true,7),(false,8),(false,9)] (fun w=>Good w s os∧True) mixed (by kernel_rfl) (by kernel_rfl) (by kernel_rfl) (by kernel_rfl) (⟨hg7,trivial⟩) ?_
   refine go 2 ?_
   refine RL.idxL rfl rfl rfl rfl sl31.out rfl rfl ha (by omega) (by omega) ?_
   rintro q1 vs1 hvl1 hH1 hE1
   have hE1':=hE1
   obtain⟨ea1,ec1,ea2,ec2,ea3,ec3,rfl,er1,er2,er3,eh1,eh2,eh3⟩:=hE1'
   refine RL.loadsT (j:=0) (us:=_) rfl rfl rfl rfl ty65.out rfl (hH1) (fun w h=>h.1.has h1) rfl rfl ?_
   refine go 2 ?_
   refine RL.idxL rfl rfl rfl rfl sl31.out rfl rfl hb (by omega) (by omega) ?_
   rintro q2 vs2 hvl2 hH2 hE2
   have hE2':=hE2
   obtain⟨fa1,fc1,fa2,fc2,fa3,fc3,rfl,fr1,fr2,fr3,fh1,fh2,fh3⟩:=hE2'
   refine RL.loadsT (j:=0) (us:=_) rfl rfl rfl rfl ty65.out rfl (hH2) (fun w h=>h.1.has h2) rfl rfl ?_
   refine go 1 ?_
   refine zw (RefSame_ct hg7 hE1 hE2) ?_
   rintro v8 w8 (hg8:Good _ s (os)) hax8 rfl
   refine⟨⟨hg8,trivial⟩,?_⟩
   refine go 7 ?_
   refine CW.cond rfl (fun h28=>?_) (fun h28=>?_)
   ·
    simp at h28
   ·
    refine go 6 ?_
    cases j with
    | zero=>omega
    | succ j=>exact fun ac ha=>⟨j,[(0,.slice a xs.length c),(1,.slice b xs.length d),(5,i64 ((k:Int)+1))],ha.sub ⟨rfl,rfl,rfl,trivial⟩,⟨k+1,rfl,hg8,(haxL.trans ((Aux.drew _).trans hax8)),by omega⟩,Nat.lt_succ_self j⟩
  ·
   refine go 5 ?_
   refine CW.ret (zr1 ?_)
   exact PostV.mq hgL rfl
theorem RefSameLog_ct {r1 r2:Res} {l:Log} {h k:Hd} (hg:Good w s os) (h1:r1=s∨r1∈os) (h2:r2=s∨r2∈os) (hl:LogAt r1 s l h) (hk:LogAt r2 s l k) :
  Calls Tryz.prog 87 #[logA l h,logA l k] w (PostV w s os fun r=>r = .bool true):=by
 refine enter (l:=[logA l h,logA l k]) Tryz.func87 rfl Tryz.ntmps87 rfl ?_
 refine go 3 ?_
 rintro b9 w9 Q9 (hg9:Good _ s (Q9::os)) hax9 hb9
 refine go 2 ?_
 rintro b10 w10 Q10 (hg10:Good _ s (Q10::Q9::os)) hax10 hb10
 refine go 10 ?_
 refine zw (RefSameSnap_ct hg10 hl.voters hl.learners hl.data hk.voters hk.learners hk.data) ?_
 rintro v11 w11 (hg11:Good _ s (Q10::Q9::os)) hax11 rfl
 refine go 10 ?_
 refine zw (RefSameEntries_ct hg11 (h1.imp id fun z=>by simp[z]) (h2.imp id fun z=>by simp[z]) hl.entries hk.entries) ?_
 rintro v12 w12 (hg12:Good _ s (Q10::Q9::os)) hax12 rfl
 refine go 7 ?_
 refine RL.part 18 rfl (fun h18=>?_) (fun h18=>?_)
 ·
  refine go 4 ?_
  refine CW.ret (zr1 ?_)
  refine PostV.mq ((hg12.drop).drop) (congrArg Value.bool ?_)
  simp_all
 ·
  refine go 4 ?_
  refine CW.ret (zr1 ?_)
  refine PostV.mq ((hg12.drop).drop) (congrArg Value.bool ?_)
  simp_all
end
end Go.Lw
namespace Go.Lw
open Go.Proofs
attribute [local irreducible] RL RA
section
variable {w:World} {s r:Res} {os:List Res}
theorem RefClone_ct {e:Entry} {vs:List Value} (hg:Good w s os) (hE:REntry s vs e) (hb:e.small) :
  Calls Tryz.prog 84 #[.agg vs.toArray] w (Post w s os fun s' _ q=>∃ us,q = .agg us.toArray∧REntry s' us e):=by
 obtain⟨a,c,a1,c1,a2,c2,rfl,r1,r2,r3,h1,h2,h3⟩:=hE
 have hb1:=hb.1
 refine enter (l:=[.agg #[u64 e.index,u64 e.term,i64 e.kind,.slice a e.data.length c,.slice a1 e.conf.voters.length c1,.slice a2 e.conf.learners.length c2]]) Tryz.func84 rfl Tryz.ntmps84 rfl ?_
 refine go 3 ?_
 rintro b1 w1 Q1 (hg1:Good _ s (Q1::os)) hax1 hb1
 refine go 2 ?_
 rintro b2 w2 Q2 (hg2:Good _ s (Q2::Q1::os)) hax2 hb2
 refine go 5 ?_
 rintro b3 w3 Q3 (hg3:Good _ s (Q3::Q2::Q1::os)) hax3 hb3
 refine go 3 ?_
 obtain⟨news4,hsrc4,hch4⟩:=(Src.row (r:=s) (c:=c) sl28.out h1.2.2 hg3.sh)
 refine RL.append2 (i:=0) (xs:=[]) (ys:=e.data) rfl rfl rfl rfl sl28.out ze5.out rfl (RInt.one .u8) (rfl) rfl hg3 rfl (Own.empty hb3) hsrc4 hch4 ((by simp only[List.length_nil];omega)) (by omega) ?_
 rintro a4 c4 A4 w4 (hg4:Good _ s (A4::Q2::Q1::os)) ho4 hax4 hk4 hn4
 rw[List.nil_append] at ho4
 have hoX:=ho4
 refine go 3 ?_
 rintro w5 Q5 (hg5:Good _ s (A4::Q2::Q5::os)) hax5 hb5
 refine go 7 ?_
 refine zc (CloneConf_ct hg5 ⟨_,_,_,_,rfl,h2,h3⟩ hb.2.fits) ?_
 rintro v6 s6 B6 w6 hle6 (hg6:Good _ s6 (B6::A4::Q2::Q5::os)) hax6 ⟨us10,rfl,hU10⟩
 have hg6:=hg6.drop
 have h1:=h1.up (RInt.up _) hle6
 have h2:=h2.up (RInt.up _) hle6
 have h3:=h3.up (RInt.up _) hle6
 obtain⟨va,vc,la,lc,rfl,hva,hla⟩:=hU10
 have hoX:=hoX.up (RInt.up _) hle6
 refine go 3 ?_
 rintro w7 Q7 (hg7:Good _ s6 (A4::Q2::Q7::os)) hax7 hb7
 refine go 6 ?_
 rintro w8 Q8 (hg8:Good _ s6 (A4::Q8::Q7::os)) hax8 hb8
 refine go 2 ?_
 refine CW.ret (ret (vs:=[_]) ⟨_,_,_,rfl,rfl,zl hb8,rfl⟩ ?_)
 obtain⟨s1,hs1,hl1,hm1⟩:=hg8.letgo
 exact Post.mk (hle6.trans hl1) hs1.drop.drop.nil (hax1.trans (hax2.trans (hax3.trans (hax4.trans (hax5.trans (hax6.trans (hax7.trans hax8))))))) ⟨_,rfl,_,_,va,vc,la,lc,rfl,r1,r2,r3,hoX.imm (RInt.up _) hl1 hm1,hva.up (RInt.up _) hl1,hla.up (RInt.up _) hl1⟩
theorem RefClones_ct {xs:List Entry} {a:Option Addr} {c:Nat} (hg:Good w s os) (hr:r=s∨r∈os) (hl:Lies REntry 6 r s a c xs) (hsm:∀ e∈xs,e.small) (hb:xs.length≤1099511627776) :
  Calls Tryz.prog 80 #[.slice a xs.length c] w (Post w s os fun s' A q=>∃ a' c',q = .slice a' xs.length c'∧Own REntry 6 65 s' A a' c' xs):=by
 refine enter (l:=[.slice a xs.length c]) Tryz.func80 rfl Tryz.ntmps80 rfl ?_
 refine go 14 ?_
 refine CW.loop (σ:=Nat) (fun j E w'=>∃ s' A' a' c',∃ k:Nat,Good w' s' (A'::os)∧Aux w w'∧Le s s'∧E=[(0,.slice a xs.length c),(3,.slice a' (xs.take k).length c'),(4,i64 k)]∧k+j=xs.length∧Own REntry 6 65 s' A' a' c' (xs.take k)) (fun j=>j) xs.length [(0,.slice a xs.length c),(3,.slice none 0 0),(4,i64 0)] ⟨rfl,rfl,rfl,trivial⟩ ⟨s,Res.nil,none,0,0,hg.nil,(Aux.refl _),(Le.refl _),rfl,by omega,Own.nil _ _ _ _ _⟩ ?_
 rintro j E wL ⟨sL,AL,aL,cL,k,hgL,haxL,hleL,rfl,hk,hoL⟩
 refine go 8 ?_
 refine CW.cond rfl (fun h8=>?_) (fun h8=>?_)
 ·
  have hlt:k<xs.length:=by have:=decide_t h8;omega
  obtain⟨rL,hrL,hlL⟩:=hl.grow REntry.up hr hleL
  refine go 7 ?_
  refine RL.idxL rfl rfl rfl rfl sl31.out rfl rfl hlL (by omega) (by omega) ?_
  rintro q vs hvl hH hE
  have hE2:=hE
  obtain⟨ea,ec,ea1,ec1,ea2,ec2,rfl,er1,er2,er3,eh1,eh2,eh3⟩:=hE2
  refine RL.loads (j:=0) (us:=_) rfl rfl rfl rfl ty65.out rfl (hH) (hgL.has (hrL.imp id (List.mem_cons_of_mem _))) rfl rfl ?_
  refine go 1 ?_
  refine zc (RefClone_ct hgL hE (hsm _ (List.getElem_mem _))) ?_
  rintro v9 s9 B9 w9 hle9 (hg9:Good _ s9 (B9::AL::os)) hax9 ⟨us,rfl,hU⟩
  have hg9:=hg9.drop
  have hoL:=hoL.up REntry.up hle9
  obtain⟨ua,uc,ua1,uc1,ua2,uc2,rfl,hU2⟩:=hU
  refine go 2 ?_
  rintro b10 w10 Q10 (hg10:Good _ s9 (Q10::AL::os)) hax10 hb10
  refine go 1 ?_
  obtain⟨news11,hsrc11,hch11⟩:=(one_news (R:=REntry) (xs:=[xs[k]]) sl31.out hb10 (hg10.mem (by simp)) (Chunks.single rfl ⟨_,_,_,_,_,_,rfl,hU2⟩))
  refine RL.append2 (i:=1) (xs:=xs.take k) (ys:=[xs[k]]) rfl rfl rfl rfl sl31.out ze65.out rfl REntry.one (rfl) rfl hg10 rfl (hoL) hsrc11 hch11 ((by rw[List.length_take,List.length_singleton];omega)) (by omega) ?_
  rintro a11 c11 A11 w11 (hg11:Good _ s9 (Q10::A11::os)) ho11 hax11 hk11 hn11
  have hoN:=ho11
  rw[←List.take_succ_eq_append_getElem hlt] at hoN
  refine go 8 ?_
  rw[←List.take_succ_eq_append_getElem hlt]
  cases j with
  | zero=>omega
  | succ j=>exact fun ac ha=>⟨j,[(0,.slice a xs.length c),(3,.slice _ (xs.take (k+1)).length _),(4,i64 ((k:Int)+1))],ha.sub ⟨rfl,rfl,rfl,trivial⟩,⟨_,_,_,_,k+1,((hg11.front 1 rfl).dropAt 1),(haxL.trans (hax9.trans (hax10.trans hax11))),(hleL.trans hle9),rfl,by omega,hoN⟩,Nat.lt_succ_self j⟩
 ·
  refine go 6 ?_
  refine CW.ret (zr1 ?_)
  have hkl:k=xs.length:=by have:=decide_f h8;omega
  rw[hkl,List.take_length] at hoL ⊢
  exact Post.mq hgL ⟨_,_,rfl,hoL⟩
theorem RefCloneSnap_ct {x:Snap} {a1 c1 a2 c2 a3 c3} (hg:Good w s os) (i1:Imm (RInt .i64) 1 s a1 c1 x.conf.voters) (i2:Imm (RInt .i64) 1 s a2 c2 x.conf.learners) (i3:Imm (RInt .u8) 1 s a3 c3 x.data) (hb:x.data.length≤1073741824) (hc:x.conf.small) :
  Calls Tryz.prog 86 #[.agg #[u64 x.index,u64 x.term,.slice a1 x.conf.voters.length c1,.slice a2 x.conf.learners.length c2,.slice a3 x.data.length c3]] w (Post w s os fun s' _ q=>∃ b1 d1 b2 d2 b3 d3,q = .agg #[u64 x.index,u64 x.term,.slice b1 x.conf.voters.length d1,.slice b2 x.conf.learners.length d2,.slice b3 x.data.length d3]∧Imm (RInt .i64) 1 s' b1 d1 x.conf.voters∧Imm (RInt .i64) 1 s' b2 d2 x.conf.learners∧Imm (RInt .u8) 1 s' b3 d3 x.data):=by
 refine enter (l:=[.agg #[u64 x.index,u64 x.term,.slice a1 x.conf.voters.length c1,.slice a2 x.conf.learners.length c2,.slice a3 x.data.length c3]]) Tryz.func86 rfl Tryz.ntmps86 rfl ?_
 refine go 3 ?_
 rintro b12 w12 Q12 (hg12:Good _ s (Q12::os)) hax12 hb12
 refine go 2 ?_
 rintro b13 w13 Q13 (hg13:Good _ s (Q13::Q12::os)) hax13 hb13
 refine go 7 ?_
 refine zc (CloneConf_ct hg13 ⟨_,_,_,_,rfl,i1,i2⟩ hc.fits) ?_
 rintro v14 s14 B14 w14 hle14 (hg14:Good _ s14 (B14::Q13::Q12::os)) hax14 ⟨us10,rfl,hU10⟩
 have hg14:=hg14.drop
 have i1:=i1.up (RInt.up _) hle14
 have i2:=i2.up (RInt.up _) hle14
 have i3:=i3.up (RInt.up _) hle14
 obtain⟨va,vc,la,lc,rfl,hva,hla⟩:=hU10
 refine go 3 ?_
 rintro w15 Q15 (hg15:Good _ s14 (Q13::Q15::os)) hax15 hb15
 refine go 5 ?_
 rintro b16 w16 Q16 (hg16:Good _ s14 (Q16::Q13::Q15::os)) hax16 hb16
 refine go 3 ?_
 obtain⟨news17,hsrc17,hch17⟩:=(Src.row (r:=s14) (c:=c3) sl28.out i3.2.2 hg16.sh)
 refine RL.append2 (i:=0) (xs:=[]) (ys:=x.data) rfl rfl rfl rfl sl28.out ze5.out rfl (RInt.one .u8) (rfl) rfl hg16 rfl (Own.empty hb16) hsrc17 hch17 ((by simp only[List.length_nil];omega)) (by omega) ?_
 rintro a17 c17 A17 w17 (hg17:Good _ s14 (A17::Q13::Q15::os)) ho17 hax17 hk17 hn17
 rw[List.nil_append] at ho17
 have hoX:=ho17
 refine go 3 ?_
 rintro w18 Q18 (hg18:Good _ s14 (A17::Q13::Q18::os)) hax18 hb18
 refine go 6 ?_
 rintro w19 Q19 (hg19:Good _ s14 (A17::Q19::Q18::os)) hax19 hb19
 refine go 2 ?_
 refine CW.ret (ret (vs:=[_]) ⟨_,_,_,rfl,rfl,zl hb19,rfl⟩ ?_)
 obtain⟨s1,hs1,hl1,hm1⟩:=hg19.letgo
 exact Post.mk (hle14.trans hl1) hs1.drop.drop.nil (hax12.trans (hax13.trans (hax14.trans (hax15.trans (hax16.trans (hax17.trans (hax18.trans hax19))))))) ⟨va,vc,la,lc,_,_,rfl,hva.up (RInt.up _) hl1,hla.up (RInt.up _) hl1,hoX.imm (RInt.up _) hl1 hm1⟩
end
end Go.Lw
namespace Go.Lw
open Go.Proofs
attribute [local irreducible] RL RA
section
variable {w:World} {s r:Res} {os:List Res}
theorem cloneMsg_ct {m:Msg} {y:Lay} (hg:Good w s os) (hm:MsgOk s m y) (hs:m.small) :
  Calls Tryz.prog 40 #[.agg (msgV m y).toArray] w (Post w s os fun s' _ q=>∃ y',q = .agg (msgV m y').toArray∧MsgOk s' m y'):=by
 obtain⟨hs1,hs2,hs3,hs4⟩:=hs
 refine enter (l:=[.agg (msgV m y).toArray]) Tryz.func40 rfl Tryz.ntmps40 rfl ?_
 refine go 3 ?_
 rintro b1 w1 Q1 (hg1:Good _ s (Q1::os)) hax1 hb1
 refine go 2 ?_
 rintro b2 w2 Q2 (hg2:Good _ s (Q2::Q1::os)) hax2 hb2
 refine go 7 ?_
 refine zc (RefClones_ct hg2 (.inl rfl) hm.entries hs1 (by omega)) ?_
 rintro v3 s3 Q3 w3 hle3 (hg3:Good _ s3 (Q3::Q2::Q1::os)) hax3 ⟨a5,c5,rfl,ho5⟩
 have hm:=hm.up hle3
 refine go 3 ?_
 rintro w4 Q4 (hg4:Good _ s3 (Q3::Q2::Q4::os)) hax4 hb4
 refine go 7 ?_
 refine zc (CloneConf_ct hg4 hm.conf hs3.fits) ?_
 rintro v5 s5 B5 w5 hle5 (hg5:Good _ s5 (B5::Q3::Q2::Q4::os)) hax5 ⟨us9,rfl,hU9⟩
 have hg5:=hg5.drop
 have hm:=hm.up hle5
 obtain⟨va,vc,la,lc,rfl,hva,hla⟩:=hU9
 have ho5:=ho5.up REntry.up hle5
 refine go 3 ?_
 rintro w6 Q6 (hg6:Good _ s5 (Q3::Q2::Q6::os)) hax6 hb6
 refine go 5 ?_
 rintro b7 w7 Q7 (hg7:Good _ s5 (Q7::Q3::Q2::Q6::os)) hax7 hb7
 refine go 3 ?_
 obtain⟨news8,hsrc8,hch8⟩:=(Src.row (r:=s5) (c:=y.dc) sl28.out hm.data.2.2 hg7.sh)
 refine RL.append2 (i:=0) (xs:=[]) (ys:=m.data) rfl rfl rfl rfl sl28.out ze5.out rfl (RInt.one .u8) (rfl) rfl hg7 rfl (Own.empty hb7) hsrc8 hch8 ((by simp only[List.length_nil];omega)) (by omega) ?_
 rintro a8 c8 A8 w8 (hg8:Good _ s5 (A8::Q3::Q2::Q6::os)) ho8 hax8 hk8 hn8
 rw[List.nil_append] at ho8
 have hoX:=ho8
 refine go 3 ?_
 rintro w9 Q9 (hg9:Good _ s5 (A8::Q3::Q2::Q9::os)) hax9 hb9
 refine go 6 ?_
 rintro w10 Q10 (hg10:Good _ s5 (A8::Q3::Q10::Q9::os)) hax10 hb10
 refine go 2 ?_
 refine CW.ret (ret (vs:=[_]) ⟨_,_,_,rfl,rfl,zl hb10,rfl⟩ ?_)
 obtain⟨s1,hs1,hl1,hm1⟩:=(hg10.front 1 rfl).letgo
 obtain⟨s2,hs2,hl2,hm2⟩:=hs1.letgo
 exact Post.mk (((hle3.trans hle5).trans hl1).trans hl2) hs2.drop.drop.nil (hax1.trans (hax2.trans (hax3.trans (hax4.trans (hax5.trans (hax6.trans (hax7.trans (hax8.trans (hax9.trans hax10))))))))) ⟨⟨a5,c5,va,vc,la,lc,_,_⟩,rfl,hm.kind,hm.frm,hm.to,hm.term,hm.index,hm.logTerm,hm.commit,hm.hint,ho5.imm REntry.up (hl1.trans hl2) (hm1.trans hl2),hva.up (RInt.up _) (hl1.trans hl2),hla.up (RInt.up _) (hl1.trans hl2),hoX.imm (RInt.up _) (hl1.trans hl2) hm2⟩
theorem RefCloneLog_ct {l:Log} {h:Hd} (hg:Good w s os) (hr:r=s∨r∈os) (hl:LogAt r s l h) (hS:l.small) :
  Calls Tryz.prog 83 #[logA l h] w (Post w s os fun s' _ q=>∃ h',q=logA l h'∧LogAt s' s' l h'):=by
 obtain⟨hs1,hs2,hs3,hs4⟩:=hS
 refine enter (l:=[logA l h]) Tryz.func83 rfl Tryz.ntmps83 rfl ?_
 refine go 3 ?_
 rintro b11 w11 Q11 (hg11:Good _ s (Q11::os)) hax11 hb11
 refine go 2 ?_
 rintro b12 w12 Q12 (hg12:Good _ s (Q12::Q11::os)) hax12 hb12
 refine go 3 ?_
 have hg13:=hg12.drew
 refine CW.dw [1,3,7,9,4,10,13,14] (fun w=>At1 b11 _ w∧True) ?_
 refine go 5 ?_
 refine zc (RefCloneSnap_ct (x:=l.base) hg13 hl.voters hl.learners hl.data hs2 hs1) ?_
 rintro v14 s14 B14 w14 hle14 (hg14:Good _ s14 (B14::Q12::Q11::os)) hax14 ⟨b1,d1,b2,d2,b3,d3,rfl,j1,j2,j3⟩
 have hg14:=hg14.drop
 refine go 1 ?_
 obtain⟨r',hr',hl'⟩:=LogAt.grow hr hl (hle14)
 refine go 1 ?_
 refine zc (RefClones_ct hg14 (hr'.imp (fun z=>z) fun z=>by simp[z]) hl'.entries hs3 hs4) ?_
 rintro v15 s15 Q15 w15 hle15 (hg15:Good _ s15 (Q15::Q12::Q11::os)) hax15 ⟨a8,c8,rfl,ho8⟩
 have hj:Imm (RInt .i64) 1 s15 b1 d1 l.base.conf.voters∧Imm (RInt .i64) 1 s15 b2 d2 l.base.conf.learners∧Imm (RInt .u8) 1 s15 b3 d3 l.base.data:=⟨j1.up (RInt.up _) hle15,j2.up (RInt.up _) hle15,j3.up (RInt.up _) hle15⟩
 refine go 3 ?_
 rintro w16 Q16 (hg16:Good _ s15 (Q15::Q16::Q11::os)) hax16 hb16
 refine go 2 ?_
 refine CW.ret (ret (vs:=[_]) ⟨_,_,_,rfl,rfl,zl hb16,rfl⟩ ?_)
 obtain⟨s1,hs1,hl1,hm1⟩:=hg16.letgo
 exact Post.mk ((hle14.trans hle15).trans hl1) hs1.drop.drop.nil (hax11.trans (hax12.trans ((Aux.drew _).trans (hax14.trans (hax15.trans hax16))))) ⟨⟨b1,d1,b2,d2,b3,d3,a8,c8,none,0,none,0,none,0,none,0,none,0⟩,rfl,hl.index,hl.term,hj.1.up (RInt.up _) hl1,hj.2.1.up (RInt.up _) hl1,hj.2.2.up (RInt.up _) hl1,ho8.imm REntry.up hl1 hm1⟩
end
end Go.Lw
namespace Go.Lw.Safe
section lists
variable {E:Type}
theorem pre_take {a b:List E} (h:a <+: b):a=b.take a.length:=List.prefix_iff_eq_take.1 h
theorem pre_get {a b:List E} (h:a <+: b) {k:Nat} {e:E} (hk:a[k]?=some e):b[k]?=some e:=by
 obtain⟨t,rfl⟩:=h
 rw[List.getElem?_append_left (List.getElem?_eq_some_iff.1 hk).1];exact hk
theorem pre_le {a b c:List E} (h:a <+: c) (k:b <+: c) (hl:a.length≤b.length):a <+: b:=List.prefix_of_prefix_length_le h k hl
theorem get_lt {a:List E} {k:Nat} {e:E} (h:a[k]?=some e):k<a.length:=(List.getElem?_eq_some_iff.1 h).1
theorem get_some {a:List E} {k:Nat} (h:k<a.length):∃ e,a[k]?=some e:=⟨a[k],List.getElem?_eq_getElem h⟩
theorem take_get {a:List E} {n k:Nat} {e:E} (h:(a.take n)[k]?=some e):a[k]?=some e∧k<n:=by
 have h1:=get_lt h
 rw[List.length_take] at h1
 rw[List.getElem?_take_of_lt (by omega)] at h
 exact⟨h,by omega⟩
theorem get_take {a:List E} {n k:Nat} {e:E} (h:a[k]?=some e) (hn:k<n):(a.take n)[k]?=some e:=by rw[List.getElem?_take_of_lt hn];exact h
end lists
section
variable {E C:Type} (tm:E→Int) (cf:E→Option C) (c0:C) (Q:C→(Int→Prop)→Prop)
def conf (l:List E):C:=l.foldl (fun a e=>(cf e).getD a) c0
theorem conf_snoc (l:List E) (e:E):conf cf c0 (l++[e])=(cf e).getD (conf cf c0 l):=by unfold conf;rw[List.foldl_append];rfl
theorem conf_none (l m:List E) (h:∀ e∈m,cf e=none):conf cf c0 (l++m)=conf cf c0 l:=by
 unfold conf;rw[List.foldl_append]
 generalize List.foldl (fun a e=>(cf e).getD a) c0 l=z
 induction m generalizing z with
 | nil=>rfl
 | cons x m ih=>rw[List.foldl_cons,h x (List.mem_cons_self ..)];exact ih (fun e he=>h e (List.mem_cons_of_mem _ he)) z
def flat (l:List E) (i j:Nat):Prop:=∀ q,i≤q→q<j→∀ e,l[q]?=some e→cf e=none
theorem conf_flat {l:List E} {i j:Nat} (h:flat cf l i j) (hij:i≤j):conf cf c0 (l.take j)=conf cf c0 (l.take i):=by
 have e:l.take j=l.take i++(l.drop i).take (j-i):=by
  rw[show j=i+(j-i) by omega,List.take_add];congr 2;omega
 rw[e]
 refine conf_none _ _ _ _ fun x hx=>?_
 obtain⟨q,hq,rfl⟩:=List.getElem_of_mem hx
 have h1:q<j-i:=by rw[List.length_take] at hq;omega
 rw[List.length_take,List.length_drop] at hq
 refine h (i+q) (by omega) (by omega) _ ?_
 rw[List.getElem?_eq_getElem (by omega),List.getElem_take,List.getElem_drop]
theorem last_conf (l:List E):flat cf l 0 l.length∧conf cf c0 l=c0∨∃ p e,l[p]?=some e∧cf e=some (conf cf c0 l)∧flat cf l (p+1) l.length:=by
 obtain⟨n,hn⟩:∃ n,n=l.length:=⟨_,rfl⟩
 induction n generalizing l with
 | zero =>
  have:l=[]:=List.eq_nil_of_length_eq_zero hn.symm
  subst this
  exact .inl ⟨fun q _ h=>absurd h (Nat.not_lt_zero _),rfl⟩
 | succ n ih =>
  obtain⟨m,x,rfl⟩:∃ m x,l=m++[x]:=by
   have:l≠[]:=fun h=>by rw[h] at hn;cases hn
   exact⟨l.dropLast,l.getLast this,(List.dropLast_concat_getLast this).symm⟩
  have hm:n=m.length:=by simp at hn;exact hn
  rw[conf_snoc]
  cases hx:cf x with
  | some c=>exact .inr ⟨m.length,x,by simp,by simpa using hx,fun q h1 h2=>by simp at h2;omega⟩
  | none =>
   have hq:∀ i,flat cf m i m.length→flat cf (m++[x]) i (m++[x]).length:=fun i h q h1 h2 e he=>by
    by_cases hlt:q<m.length
    ·
     rw[List.getElem?_append_left hlt] at he;exact h q h1 hlt e he
    ·
     have:q=m.length:=by simp at h2;omega
     subst this
     simp at he;subst he;exact hx
   rcases ih m hm with ⟨h1,h2⟩ | ⟨p,e,h1,h2,h3⟩
   ·
    exact .inl ⟨hq 0 h1,h2⟩
   ·
    exact .inr ⟨p,e,by rw[List.getElem?_append_left (get_lt h1)];exact h1,h2,hq _ h3⟩
structure Rec (E:Type) where
 hist:Int→List E
 ack:Int→Int→Nat
 ev:Int→Nat→Nat→Prop
 vote:Int→Int→Int
variable (g:Rec E)
def Sits (l:List E):Prop:=∀ k e,l[k]?=some e→l.take (k+1) <+: g.hist (tm e)
def newer (l v:List E):Prop:=v=[]∨∃ a b,v.getLast?=some a∧l.getLast?=some b∧(tm a<tm b∨tm a=tm b∧v.length≤l.length)
def parts (t u:Int) (k:Nat):Prop:=∃ q,q<k∧∃ a b,(g.hist t)[q]?=some a∧(g.hist u)[q]?=some b∧a≠b
theorem parts.not {g:Rec E} {t u:Int} {k:Nat} (h:parts g t u k):¬ (g.hist t).take k <+: g.hist u:=fun hp=>by
 obtain⟨q,hq,a,b,ha,hb,hab⟩:=h
 have:=pre_get hp (get_take ha hq)
 rw[hb] at this
 exact hab (Option.some.inj this).symm
def keeps (j T:Int) (v:List E):Prop:=∀ t k,0<k→k≤g.ack j t→t<T→(g.hist t).take k <+: v∨∃ u,t<u∧u<T∧parts g t u k
structure Elect (T:Int) (l:List E):Prop where
 fit:Sits tm g l
 low:∀ e∈l,tm e<T
 quorum:Q (conf cf c0 l) fun j=>g.vote j T≠0∧∃ v,Sits tm g v∧newer tm l v∧keeps g j T v
structure Able (T:Int) (l:List E):Prop where
 fit:Sits tm g l
 low:∀ e∈l,tm e<T
 quorum:Q (conf cf c0 l) fun j=>∃ v,Sits tm g v∧newer tm l v∧∀ t k n,g.ev t k n→k≤g.ack j t→t<T→(g.hist t).take k <+: v∨∃ u,t<u∧u<T∧parts g t u k
variable (near:C→C→Prop)
structure Right:Prop where
 fit:∀ t,Sits tm g (g.hist t)
 mono:∀ (t:Int) (i j:Nat) (a b:E),i≤j→(g.hist t)[i]?=some a→(g.hist t)[j]?=some b→tm a≤tm b
 le:∀ t e,e∈g.hist t→tm e≤t
 pos:∀ t,g.hist t≠[]→0≤t
 change:∀ t p e c,(g.hist t)[p]?=some e→tm e=t→cf e=some c→∃ k n,g.ev t k n∧n≤p∧flat cf (g.hist t) k p∧near (conf cf c0 ((g.hist t).take p)) c
 event:∀ t k n,g.ev t k n→0<k∧k≤n∧n≤(g.hist t).length∧(∃ e,(g.hist t)[k-1]?=some e∧tm e=t)∧Q (conf cf c0 ((g.hist t).take n)) fun j=>k≤g.ack j t
 elect:∀ t,g.hist t≠[]→∃ l,l <+: g.hist t∧Elect tm cf c0 Q g t l
variable {tm cf c0 Q g near}
theorem Sits.last {l:List E} (h:Sits tm g l) {b:E} (hb:l.getLast?=some b):l <+: g.hist (tm b):=by
 rw[List.getLast?_eq_getElem?] at hb
 have h1:=h _ _ hb
 have h2:=get_lt hb
 rwa[show l.length-1+1=l.length by omega,List.take_length] at h1
theorem Sits.mono {l:List E} (h:Sits tm g l) (hg:Right tm cf c0 Q g near) {i j:Nat} {a b:E} (hij:i≤j) (ha:l[i]?=some a) (hb:l[j]?=some b):tm a≤tm b :=
 hg.mono _ i j a b hij (pre_get (h j b hb) (get_take ha (by omega))) (pre_get (h j b hb) (get_take hb (by omega)))
structure Meets (Q:C→(Int→Prop)→Prop) (near:C→C→Prop):Prop where
 one:∀ c S S',Q c S→Q c S'→∃ j,S j∧S' j
 two:∀ c d S S',near c d→Q c S→Q d S'→∃ j,S j∧S' j
 mono:∀ c S S',Q c S→(∀ j,S j→S' j)→Q c S'
theorem Elect.able (hg:Right tm cf c0 Q g near) (hm:Meets Q near) {T:Int} {l:List E} (h:Elect tm cf c0 Q g T l):Able tm cf c0 Q g T l :=
 ⟨h.fit,h.low,hm.mono _ _ _ h.quorum fun j ⟨_,v,h1,h2,h3⟩=>⟨v,h1,h2,fun t k n he hk ht=>h3 t k (hg.event t k n he).1 hk ht⟩⟩
theorem complete_one (hg:Right tm cf c0 Q g near) (hm:Meets Q near) {T:Int} {l:List E} (he:Able tm cf c0 Q g T l)
  (ih:∀ u,u<T→g.hist u≠[]→∀ t k n,g.ev t k n→t<u→(g.hist t).take k <+: g.hist u) :
  ∀ (t:Int) (k n:Nat),g.ev t k n→t<T→(g.hist t).take k <+: l:=by
 intro t k n hev ht
 obtain⟨hk0,hkn,hnl,⟨ek,hek,hekt⟩,hQ⟩:=hg.event t k n hev
 have hne:g.hist t≠[]:=fun h=>by rw[h] at hek;cases hek
 have fin:(∀ S S',Q (conf cf c0 ((g.hist t).take n)) S→Q (conf cf c0 l) S'→∃ j,S j∧S' j)→(g.hist t).take k <+: l:=fun hov=>by
  obtain⟨j,hack,v,hfit,hnew,hkeep⟩:=hov _ _ hQ he.quorum
  have hv:(g.hist t).take k <+: v:=by
   rcases hkeep t k n hev hack ht with h | ⟨u,h1,h2,h4⟩
   ·
    exact h
   ·
    refine absurd (ih u h2 (fun hz=>?_) t k n hev h1) h4.not
    obtain⟨q,-,a,b,-,hb,-⟩:=h4
    rw[hz] at hb;cases hb
  have hvk:=pre_get hv (get_take hek (by omega))
  rcases hnew with rfl | ⟨a,b,ha,hb,hab⟩
  ·
   cases hvk
  ·
   have hva:=hfit.last ha
   have hlb:=he.fit.last hb
   have hlast:v[v.length-1]?=some a:=by rwa[←List.getLast?_eq_getElem?]
   have hta:t≤tm a:=by rw[←hekt];exact hfit.mono hg (by have:=get_lt hvk;omega) hvk hlast
   rcases hab with hab | ⟨hab,hlen⟩
   ·
    have hbT:=he.low b (List.mem_of_getLast? hb)
    have hbne:g.hist (tm b)≠[]:=fun h=>by
     rw[h] at hlb;have:=List.prefix_nil.1 hlb;rw[this] at hb;cases hb
    have h1:=ih (tm b) hbT hbne t k n hev (by omega)
    refine pre_le h1 hlb ?_
    rw[List.length_take]
    refine Classical.byContradiction fun hc=>?_
    have hbl:l[l.length-1]?=some b:=by rwa[←List.getLast?_eq_getElem?]
    have:=hg.mono (tm b) (l.length-1) (k-1) b ek (by omega) (pre_get hlb hbl) (pre_get h1 (get_take hek (by omega)))
    omega
   ·
    rw[hab] at hva
    exact hv.trans (pre_le hva hlb hlen)
 -- where the leader's own configuration stands, and what was committed ahead of it
 have anchor:∃ κ:Nat,(g.hist t).take κ <+: l∧(conf cf c0 ((g.hist t).take κ)=conf cf c0 ((g.hist t).take n)∨near (conf cf c0 ((g.hist t).take κ)) (conf cf c0 ((g.hist t).take n))) ∧
   (flat cf (g.hist t) 0 n∧κ=0∨∃ p e,p<n∧κ≤p∧(g.hist t)[p]?=some e∧cf e=some (conf cf c0 ((g.hist t).take n))∧flat cf (g.hist t) (p+1) n∧flat cf (g.hist t) κ p∧(0<κ∧∃ x,(g.hist t)[κ-1]?=some x∧tm x=tm e)):=by
  rcases last_conf cf c0 ((g.hist t).take n) with ⟨h1,h2⟩ | ⟨p,e,h1,h2,h3⟩
  ·
   refine⟨0,by simp,.inl ?_,.inl ⟨fun q h0 hq x hx=>h1 q h0 (by rw[List.length_take];omega) x (get_take hx hq),rfl⟩⟩
   rw[h2];rfl
  ·
   obtain⟨hp,hpn⟩:=take_get h1
   have hs:(g.hist t).take (p+1) <+: g.hist (tm e):=hg.fit t p e hp
   have hpe:=pre_get hs (get_take hp (by omega))
   obtain⟨κ,n',hev',hn',hfl,hnear⟩:=hg.change (tm e) p e _ hpe rfl h2
   obtain⟨hκ0,hκn,hn'l,⟨ex,hex,hext⟩,-⟩:=hg.event _ _ _ hev'
   have hst:tm e≤t:=hg.le t e (List.mem_of_getElem? hp)
   have hsub:(g.hist (tm e)).take κ=(g.hist t).take κ:=by
    have h4:=pre_take hs
    rw[List.length_take,show min (p+1) (g.hist t).length=p+1 by have:=get_lt hp;omega] at h4
    have h5:=congrArg (List.take κ) h4
    rw[List.take_take,List.take_take,show min κ (p+1)=κ by omega] at h5
    exact h5.symm
   have hsubp:(g.hist (tm e)).take p=(g.hist t).take p:=by
    have h4:=pre_take hs
    rw[List.length_take,show min (p+1) (g.hist t).length=p+1 by have:=get_lt hp;omega] at h4
    have h5:=congrArg (List.take p) h4
    rw[List.take_take,List.take_take,show min p (p+1)=p by omega] at h5
    exact h5.symm
   have hdec:(tm e).toNat<t.toNat∨(tm e).toNat=t.toNat∧n'<n:=by
    have:=hg.pos t hne
    have:=hg.pos (tm e) fun h=>by rw[h] at hpe;cases hpe
    rcases Int.lt_or_eq_of_le hst with h | h
    ·
     exact .inl (by omega)
    ·
     exact .inr ⟨by rw[h],by omega⟩
   have hrec:(g.hist (tm e)).take κ <+: l:=by
    exact complete_one hg hm he ih (tm e) κ n' hev' (by omega)
   rw[hsub] at hrec
   have hfl2:flat cf (g.hist t) κ p:=fun q h4 h5 x hx=>hfl q h4 h5 x (pre_get hs (get_take hx (by omega)))
   refine⟨κ,hrec,.inr ?_,.inr ⟨p,e,hpn,by omega,hp,h2,fun q h4 h5 x hx=>h3 q h4 (by rw[List.length_take];omega) x (get_take hx h5),hfl2,hκ0,ex,?_,hext⟩⟩
   ·
    rw[←conf_flat cf c0 hfl2 (by omega),← hsubp];exact hnear
   ·
    have:=get_take hex (show κ-1<κ by omega)
    rw[hsub] at this
    exact (take_get this).1
 obtain⟨κ,hκl,hκc,hκp⟩:=anchor
 -- the candidate's configuration is what stands at the anchor
 have same:flat cf l κ l.length→(g.hist t).take k <+: l:=fun hf=>by
  have h1:conf cf c0 l=conf cf c0 ((g.hist t).take κ):=by
   by_cases hz:κ≤l.length
   ·
    have h2:=conf_flat cf c0 hf hz
    rw[List.take_length] at h2
    rw[h2]
    have h3:=pre_take hκl
    rcases hκp with ⟨-,rfl⟩ | ⟨p,e,hpn,hκp',hp,-⟩
    ·
     rfl
    ·
     rw[List.length_take,show min κ (g.hist t).length=κ by have:=get_lt hp;omega] at h3
     rw[←h3]
   ·
    rcases hκp with ⟨-,rfl⟩ | ⟨p,e,hpn,hκp',hp,-⟩
    ·
     omega
    ·
     have:=hκl.length_le
     rw[List.length_take] at this
     have:=get_lt hp
     omega
  rw[h1] at fin
  rcases hκc with h | h
  ·
   exact fin fun S S' a b=>hm.one _ S S' a (by rw[←h];exact b)
  ·
   exact fin fun S S' a b=>by
    obtain⟨j,x,y⟩:=hm.two _ _ S' S h b a
    exact⟨j,y,x⟩
 rcases last_conf cf c0 l with ⟨h1,-⟩ | ⟨p',e',h1,h2,h3⟩
 ·
  exact same fun q _ hq x hx=>h1 q (Nat.zero_le _) hq x hx
 by_cases hpκ:p'<κ
 ·
  exact same fun q h4 h5 x hx=>h3 q (by omega) h5 x hx
 have hs':l.take (p'+1) <+: g.hist (tm e'):=he.fit p' e' h1
 have hpe':=pre_get hs' (get_take h1 (by omega))
 have hne':g.hist (tm e')≠[]:=fun h=>by rw[h] at hpe';cases hpe'
 have hlowe:=he.low e' (List.mem_of_getElem? h1)
 obtain⟨κ',n',hev',hn',hfl',hnear'⟩:=hg.change (tm e') p' e' _ hpe' rfl h2
 obtain⟨hκ0',hκn',hn'l',⟨ex',hex',hext'⟩,-⟩:=hg.event _ _ _ hev'
 rcases Int.lt_trichotomy t (tm e') with hlt | heq | hgt
 ·
  -- the candidate's configuration is of a later leader, who has it
  have h4:=ih (tm e') hlowe hne' t k n hev hlt
  have h5:k≤p':=Classical.byContradiction fun hc=>by
   have:=hg.mono (tm e') p' (k-1) e' ek (by omega) hpe' (pre_get h4 (get_take hek (by omega)))
   omega
  refine (pre_le h4 hs' ?_).trans (List.take_prefix _ _)
  rw[List.length_take,List.length_take];have:=get_lt h1;omega
 ·
  by_cases hkp:k≤p'+1
  ·
   refine (pre_le (List.take_prefix _ _) (heq▸hs') ?_).trans (List.take_prefix _ _)
   rw[List.length_take,List.length_take];have:=get_lt h1;omega
  ·
   have hpt:(g.hist t)[p']?=some e':=by rw[heq];exact hpe'
   rcases hκp with ⟨hf,-⟩ | ⟨p,e,hpn,hκp',hp,hpc,hf1,hf2,-⟩
   ·
    rw[hf p' (Nat.zero_le _) (by omega) e' hpt] at h2;cases h2
   ·
    have h6:p'=p:=by
     rcases Nat.lt_trichotomy p' p with h | h | h
     ·
      rw[hf2 p' (by omega) h e' hpt] at h2;cases h2
     ·
      exact h
     ·
      rw[hf1 p' (by omega) (by omega) e' hpt] at h2;cases h2
    subst h6
    rw[hpt] at hp
    cases hp
    rw[h2] at hpc
    have h7:conf cf c0 l=conf cf c0 ((g.hist t).take n):=Option.some.inj hpc
    exact fin fun S S' a b=>hm.one _ S S' a (by rw[←h7];exact b)
 ·
  have h4:=ih t ht hne (tm e') κ' n' hev' hgt
  have hexH:(g.hist t)[κ'-1]?=some ex':=pre_get h4 (get_take hex' (by omega))
  have h5:κ'<k:=Classical.byContradiction fun hc=>by
   have:=hg.mono t (k-1) (κ'-1) ek ex' (by omega) hek hexH
   omega
  have hκt:(g.hist (tm e')).take κ'=(g.hist t).take κ':=by
   have h6:=pre_take h4
   rw[List.length_take,show min κ' (g.hist (tm e')).length=κ' by omega] at h6
   exact h6
  -- what stands there is the leader's own configuration
  have near1:flat cf (g.hist t) κ' n→(g.hist t).take k <+: l:=fun hf=>by
   have h6:conf cf c0 ((g.hist (tm e')).take p')=conf cf c0 ((g.hist t).take n):=by
    rw[conf_flat cf c0 hfl' (by omega),hκt,← conf_flat cf c0 hf (by omega)]
   rw[h6] at hnear'
   exact fin fun S S' a b=>hm.two _ _ S S' hnear' a b
  rcases hκp with ⟨hf,-⟩ | ⟨p,e,hpn,hκp',hp,hpc,hf1,hf2,hκ0,x,hx,hxt⟩
  ·
   exact near1 fun q _ hq y hy=>hf q (Nat.zero_le _) hq y hy
  by_cases hκp2:p<κ'
  ·
   exact near1 fun q h6 hq y hy=>hf1 q (by omega) hq y hy
  have h6:tm e'≤tm e:=by rw[←hext'];exact hg.mono t (κ'-1) p ex' e (by omega) hexH hp
  have hxl:l[κ-1]?=some x:=pre_get hκl (get_take hx (by omega))
  have h7:tm e≤tm e':=by rw[←hxt];exact he.fit.mono hg (by omega) hxl h1
  have h8:tm e'=tm e:=by omega
  have hpS:(g.hist (tm e'))[p]?=some e:=by rw[h8];exact pre_get (hg.fit t p e hp) (get_take hp (by omega))
  have hs2:=hg.fit t p e hp
  have h9:p'=p:=by
   rcases Nat.lt_trichotomy p' p with h | h | h
   ·
    have hq:(g.hist t)[p']?=some e':=by
     have hz:=pre_take hs2
     rw[List.length_take,show min (p+1) (g.hist t).length=p+1 by have:=get_lt hp;omega,← h8] at hz
     have:=get_take hpe' (show p'<p+1 by omega)
     rw[←hz] at this
     exact (take_get this).1
    rw[hf2 p' (by omega) h e' hq] at h2;cases h2
   ·
    exact h
   ·
    rw[hfl' p (by omega) h e hpS] at hpc;cases hpc
  subst h9
  rw[hpS] at hpe'
  cases hpe'
  rw[h2] at hpc
  have h7:conf cf c0 l=conf cf c0 ((g.hist t).take n):=Option.some.inj hpc
  exact fin fun S S' a b=>hm.one _ S S' a (by rw[←h7];exact b)
termination_by t _ n=>(t.toNat,n)
decreasing_by
 rcases hdec with h | ⟨h,h'⟩
 ·
  exact Prod.Lex.left _ _ h
 ·
  rw[h];exact Prod.Lex.right _ h'
theorem complete (hg:Right tm cf c0 Q g near) (hm:Meets Q near):∀ (m:Nat) (u:Int),u<m→g.hist u≠[]→∀ t k n,g.ev t k n→t<u→(g.hist t).take k <+: g.hist u
 | 0,u,hu,hne,_,_,_,_,_=>by have:=hg.pos u hne;omega
 | m+1,u,hu,hne,t,k,n,hev,ht=>by
  obtain⟨l,hl,he⟩:=hg.elect u hne
  exact (complete_one hg hm (he.able hg hm) (fun v hv hvn t k n h1 h2=>complete hg hm m v (by omega) hvn t k n h1 h2) t k n hev ht).trans hl
theorem Right.leads (hg:Right tm cf c0 Q g near) (hm:Meets Q near) {u t:Int} {k n:Nat} (hne:g.hist u≠[]) (hev:g.ev t k n) (ht:t≤u):(g.hist t).take k <+: g.hist u:=by
 rcases Int.lt_or_eq_of_le ht with h | rfl
 ·
  exact complete hg hm (u+1).toNat u (by omega) hne t k n hev h
 ·
  exact List.take_prefix _ _
theorem Right.elected (hg:Right tm cf c0 Q g near) (hm:Meets Q near) {T:Int} {l:List E} (he:Able tm cf c0 Q g T l) {t:Int} {k n:Nat} (hev:g.ev t k n) (ht:t<T):(g.hist t).take k <+: l :=
 complete_one hg hm he (fun _ _ hn _ _ _ h1 h2=>hg.leads hm hn h1 (Int.le_of_lt h2)) t k n hev ht
theorem Right.agree (hg:Right tm cf c0 Q g near) (hm:Meets Q near) {t u:Int} {k n k' n':Nat} (h1:g.ev t k n) (h2:g.ev u k' n'):(g.hist t).take k <+: (g.hist u).take k'∨(g.hist u).take k' <+: (g.hist t).take k:=by
 have key:∀ {t u:Int} {k n k' n':Nat},g.ev t k n→g.ev u k' n'→t≤u→(g.hist t).take k <+: (g.hist u).take k'∨(g.hist u).take k' <+: (g.hist t).take k:=fun {t u k n k' n'} h1 h2 h=>by
  have hne:g.hist u≠[]:=fun hz=>by
   obtain⟨-,-,-,⟨e,he,-⟩,-⟩:=hg.event _ _ _ h2
   rw[hz] at he;cases he
  have h3:=hg.leads hm hne h1 h
  have h4:=List.take_prefix k' (g.hist u)
  rcases Nat.le_total ((g.hist t).take k).length ((g.hist u).take k').length with hl | hl
  ·
   exact .inl (pre_le h3 h4 hl)
  ·
   exact .inr (pre_le h4 h3 hl)
 rcases Int.le_total t u with h | h
 ·
  exact key h1 h2 h
 ·
  exact (key h2 h1 h).symm
theorem Right.from_ (hg:Right tm cf c0 Q g near) (hm:Meets Q near) {T:Int} {l l':List E} (he:Able tm cf c0 Q g T l) (he':Able tm cf c0 Q g T l') {p':Nat} {e':E} (h1:l'[p']?=some e') (h2:cf e'=some (conf cf c0 l')) :
  ∃ (k:Nat) (x:E),k≤p'∧0<k∧l[k-1]?=some x∧tm x=tm e'∧flat cf (g.hist (tm e')) k p'∧(flat cf l k l.length→near (conf cf c0 l) (conf cf c0 l')):=by
 have hs':l'.take (p'+1) <+: g.hist (tm e'):=he'.fit p' e' h1
 have hpe':=pre_get hs' (get_take h1 (by omega))
 have hlowe:=he'.low e' (List.mem_of_getElem? h1)
 obtain⟨k,n,hev,hn,hfl,hnear⟩:=hg.change (tm e') p' e' _ hpe' rfl h2
 obtain⟨hk0,hkn,hnl,⟨x,hx,hxt⟩,-⟩:=hg.event _ _ _ hev
 have h3:=hg.elected hm he hev hlowe
 refine⟨k,x,by omega,hk0,pre_get h3 (get_take hx (by omega)),hxt,hfl,fun hf=>?_⟩
 rw[conf_flat cf c0 hfl (by omega)] at hnear
 have h4:=pre_take h3
 rw[List.length_take,show min k (g.hist (tm e')).length=k by omega] at h4
 have h5:=conf_flat cf c0 hf (show k≤l.length by have:=h3.length_le;rw[List.length_take] at this;omega)
 rw[List.take_length] at h5
 rw[h5,← h4];exact hnear
theorem Right.beside (hg:Right tm cf c0 Q g near) (hm:Meets Q near) {T:Int} {l l':List E} (he:Able tm cf c0 Q g T l) (he':Able tm cf c0 Q g T l') :
  conf cf c0 l=conf cf c0 l'∨near (conf cf c0 l) (conf cf c0 l')∨near (conf cf c0 l') (conf cf c0 l):=by
 rcases last_conf cf c0 l with ⟨h1,hz⟩ | ⟨p,e,h1,h2,h3⟩<;>rcases last_conf cf c0 l' with ⟨h1',hz'⟩ | ⟨p',e',h1',h2',h3'⟩
 ·
  exact .inl (hz.trans hz'.symm)
 ·
  obtain⟨k,x,-,-,-,-,-,h⟩:=hg.from_ hm he he' h1' h2'
  exact .inr (.inl (h fun q _ hq y hy=>h1 q (Nat.zero_le _) hq y hy))
 ·
  obtain⟨k,x,-,-,-,-,-,h⟩:=hg.from_ hm he' he h1 h2
  exact .inr (.inr (h fun q _ hq y hy=>h1' q (Nat.zero_le _) hq y hy))
 ·
  obtain⟨k,x,hk,hk0,hx,hxt,hfl,h⟩:=hg.from_ hm he he' h1' h2'
  obtain⟨k',x',hk',hk0',hx',hxt',hfl',h'⟩:=hg.from_ hm he' he h1 h2
  by_cases hp:p<k
  ·
   exact .inr (.inl (h fun q hq hql y hy=>h3 q (by omega) hql y hy))
  by_cases hp':p'<k'
  ·
   exact .inr (.inr (h' fun q hq hql y hy=>h3' q (by omega) hql y hy))
  have ht1:tm e'≤tm e:=by rw[←hxt];exact he.fit.mono hg (by omega) hx h1
  have ht2:tm e≤tm e':=by rw[←hxt'];exact he'.fit.mono hg (by omega) hx' h1'
  have ht:tm e=tm e':=by omega
  have hpS:(g.hist (tm e'))[p]?=some e:=by rw[←ht];exact pre_get (he.fit p e h1) (get_take h1 (by omega))
  have hpS':(g.hist (tm e'))[p']?=some e':=pre_get (he'.fit p' e' h1') (get_take h1' (by omega))
  rw[ht] at hfl'
  have hpp:p=p':=by
   rcases Nat.lt_trichotomy p p' with hlt | heq | hgt
   ·
    rw[hfl p (by omega) hlt e hpS] at h2;cases h2
   ·
    exact heq
   ·
    rw[hfl' p' (by omega) hgt e' hpS'] at h2';cases h2'
  subst hpp
  rw[hpS] at hpS'
  cases hpS'
  rw[h2] at h2'
  exact .inl (Option.some.inj h2')
theorem Right.voter (hg:Right tm cf c0 Q g near) (hm:Meets Q near) {T:Int} {l l':List E} (he:Able tm cf c0 Q g T l) (he':Able tm cf c0 Q g T l') {S S':Int→Prop} (hS:Q (conf cf c0 l) S) (hS':Q (conf cf c0 l') S'):∃ j,S j∧S' j:=by
 rcases hg.beside hm he he' with h | h | h
 ·
  exact hm.one _ S S' hS (by rw[h];exact hS')
 ·
  exact hm.two _ _ S S' h hS hS'
 ·
  obtain⟨j,a,b⟩:=hm.two _ _ S' S h hS' hS
  exact⟨j,b,a⟩
end
end Go.Lw.Safe
