/-
  Parts of the proof of the laws RaftcoreSafeUptoSaid, RaftcoreOnceUptoSaid: KeB, KeC, KeD, KeE, KeF, KeG, KeH, KeI, KeJ, KeK, KeM, KeN, KeO, KfD, KdH, KfE, KfF, KfG, KfH, KfI.
-/
import Derived.Test.YtpjclnomaemokaaGreatRgA4
set_option maxRecDepth 100000
set_option maxHeartbeats 16000000
set_option linter.all false
namespace Go.Lw.Safe
theorem check_of {c:Conf} (h1:∀ n∈c.voters++c.learners,node7 n=true) (h2:c.voters.Pairwise (· < ·)) (h3:c.learners.Pairwise (· < ·)) (h4:∀ n∈c.voters,n∉c.learners) (h5:c.voters≠[]):checkP c=0:=by
 unfold checkP
 rw[if_neg,if_neg,if_neg,if_neg]
 ·
  intro h;exact h5 (List.length_eq_zero_iff.1 h)
 ·
  intro h
  obtain⟨n,hn,hl⟩:=List.any_eq_true.1 h
  exact h4 n hn (of_decide_eq_true hl)
 ·
  simp only[risesP,h2,h3,decide_true];simp
 ·
  intro h
  obtain⟨n,hn,hl⟩:=List.any_eq_true.1 h
  rw[h1 n hn] at hl;cases hl
theorem delP_strict {n:Int} {l:List Int} (h:l.Pairwise (· < ·)):(delP n l).Pairwise (· < ·):=h.filter _
def Near (v d:List Int) (n:Int):Prop:=d=v∨(n∉v∧d=insP n v)∨(n∈v∧d=delP n v)
theorem apply_right {c d:Conf} {k n:Int} (h:applyP c k n=(d,0)):checkP d=0∧Near c.voters d.voters n:=by
 unfold applyP at h
 split at h
 ·
  rename_i h0;exact absurd (Prod.mk.inj h).2 h0
 rename_i h0
 have h0:checkP c=0:=by simpa using h0
 obtain⟨z1,z2,z3,z4,z5⟩:=check_zero h0
 split at h
 ·
  exact absurd (Prod.mk.inj h).2 (by decide)
 rename_i hn
 have hn:node7 n=true:=by simpa using hn
 split at h
 ·
  split at h
  ·
   exact absurd (Prod.mk.inj h).2 (by decide)
  rename_i h1
  obtain⟨e,_⟩:=Prod.mk.inj h;subst e
  refine⟨check_of (fun m hm=>?_) z2 (insP_strict z3 fun hl=>h1 (.inr hl)) (fun m hm hl=>?_) z5,.inl rfl⟩
  ·
   simp only[List.mem_append,insP_mem] at hm
   rcases hm with hm | rfl | hm
   ·
    exact z1 m (List.mem_append_left _ hm)
   ·
    exact hn
   ·
    exact z1 m (List.mem_append_right _ hm)
  ·
   rcases insP_mem.1 hl with rfl | hl
   ·
    exact h1 (.inl hm)
   ·
    exact z4 m hm hl
 split at h
 ·
  split at h
  ·
   rename_i h1
   obtain⟨e,_⟩:=Prod.mk.inj h;subst e
   have hv:n∉c.voters:=fun hv=>z4 n hv h1
   refine⟨check_of (fun m hm=>?_) (insP_strict z2 hv) (delP_strict z3) (fun m hm hl=>?_) (fun e=>?_),.inr (.inl ⟨hv,rfl⟩)⟩
   ·
    simp only[List.mem_append,insP_mem,delP_mem] at hm
    rcases hm with (rfl | hm) | ⟨hm,_⟩
    ·
     exact hn
    ·
     exact z1 m (List.mem_append_left _ hm)
    ·
     exact z1 m (List.mem_append_right _ hm)
   ·
    obtain⟨hl,hne⟩:=delP_mem.1 hl
    rcases insP_mem.1 hm with rfl | hm
    ·
     exact hne rfl
    ·
     exact z4 m hm hl
   ·
    have:=insP_length n c.voters
    simp only at e;rw[e] at this;simp at this
  ·
   exact absurd (Prod.mk.inj h).2 (by decide)
 split at h
 ·
  split at h
  ·
   exact absurd (Prod.mk.inj h).2 (by decide)
  rename_i h1
  split at h
  ·
   rename_i h2
   obtain⟨e,_⟩:=Prod.mk.inj h;subst e
   refine⟨check_of (fun m hm=>?_) (delP_strict z2) (delP_strict z3) (fun m hm hl=>z4 m (delP_mem.1 hm).1 (delP_mem.1 hl).1) (fun e=>?_),.inr (.inr ⟨h2,rfl⟩)⟩
   ·
    simp only[List.mem_append,delP_mem] at hm
    rcases hm with ⟨hm,_⟩ | ⟨hm,_⟩
    ·
     exact z1 m (List.mem_append_left _ hm)
    ·
     exact z1 m (List.mem_append_right _ hm)
   ·
    have hall:∀ x∈c.voters,x=n:=fun x hx=>by
     by_cases hxn:x=n
     ·
      exact hxn
     ·
      have:x∈delP n c.voters:=delP_mem.2 ⟨hx,hxn⟩
      simp only at e;rw[e] at this;cases this
    have hl:c.voters.length≠1:=fun hl=>h1 ⟨h2,hl⟩
    match hc:c.voters with
    | []=>exact z5 hc
    | [x]=>exact hl (by rw[hc];rfl)
    | x::y::t =>
     have e1:=hall x (by rw[hc];simp)
     have e2:=hall y (by rw[hc];simp)
     rw[hc] at z2
     have:=(List.pairwise_cons.1 z2).1 y (by simp)
     omega
  split at h
  ·
   obtain⟨e,_⟩:=Prod.mk.inj h;subst e
   refine⟨check_of (fun m hm=>?_) z2 (delP_strict z3) (fun m hm hl=>z4 m hm (delP_mem.1 hl).1) z5,.inl rfl⟩
   simp only[List.mem_append,delP_mem] at hm
   rcases hm with hm | ⟨hm,_⟩
   ·
    exact z1 m (List.mem_append_left _ hm)
   ·
    exact z1 m (List.mem_append_right _ hm)
  ·
   exact absurd (Prod.mk.inj h).2 (by decide)
 ·
  exact absurd (Prod.mk.inj h).2 (by decide)
theorem uniq_ext {xs ys:List Int} (h:∀ x,x∈xs↔x∈ys):uniq xs=uniq ys:=strict_ext (uniq_strict _) (uniq_strict _) fun x=>by rw[uniq_mem,uniq_mem,h]
theorem near_meets {v d us zs:List Int} {n:Int} (h:Near v d n) (h1:hasP (uniq v) us=true) (h2:hasP (uniq d) zs=true):∃ x,x∈us∧x∈zs:=by
 rcases h with rfl | ⟨hn,rfl⟩ | ⟨hn,rfl⟩
 ·
  exact meets_same h1 h2
 ·
  rw[uniq_ext (ys:=v++[n]) fun x=>by rw[insP_mem,List.mem_append,List.mem_singleton];exact Or.comm] at h2
  exact meets_more h1 h2
 ·
  rw[uniq_ext (ys:=delP n v++[n]) fun x=>by
   rw[List.mem_append,List.mem_singleton,delP_mem]
   by_cases hx:x=n
   ·
    subst hx;simp[hn]
   ·
    simp[hx]] at h1
  obtain⟨x,a,b⟩:=meets_more h2 h1
  exact⟨x,b,a⟩
def cfE (e:Entry):Option Conf:=if e.kind=3 then some e.conf else none
def Maj (c:Conf) (S:Int→Prop):Prop:=∃ ys:List Int,hasP (uniq c.voters) ys=true∧∀ j∈ys,S j
def next (c d:Conf):Prop:=∃ k n,applyP c k n=(d,0)
theorem Maj.mono {c:Conf} {S S':Int→Prop} (h:Maj c S) (hs:∀ j,S j→S' j):Maj c S':=by
 obtain⟨ys,h1,h2⟩:=h
 exact⟨ys,h1,fun j hj=>hs j (h2 j hj)⟩
theorem maj_meets:Meets Maj next:=⟨fun c S S' ⟨us,h1,h2⟩ ⟨zs,h3,h4⟩=>by
  obtain⟨x,a,b⟩:=meets_same h1 h3
  exact⟨x,h2 x a,h4 x b⟩,fun c d S S' ⟨k,n,hn⟩ ⟨us,h1,h2⟩ ⟨zs,h3,h4⟩=>by
  obtain⟨x,a,b⟩:=near_meets (apply_right hn).2 h1 h3
  exact⟨x,h2 x a,h4 x b⟩,fun _ _ _ h k=>h.mono k⟩
structure G extends Rec Entry where
 vlog:Int→Int→List Entry
 clog:Int→Int→List Entry
 owner:Int→Int
 full:Int→List Entry
def tAt (l:List Entry) (k:Nat):Int:=if k=0 then 1 else (l[k-1]?.map (·.term)).getD 0
def Idx (l:List Entry):Prop:=∀ (k:Nat) (e:Entry),l[k]?=some e→e.index=k+2
abbrev cOf (c0:Conf) (l:List Entry):Conf:=conf cfE c0 l
structure CutAt (c0:Conf) (F:List Entry) (L:Log) (b:Nat):Prop where
 le:b≤F.length
 index:L.base.index=1+b
 term:L.base.term=tAt F b
 conf:L.base.conf=cOf c0 (F.take b)
 entries:L.entries=F.drop b
def Blank (L:Log):Prop:=L.base.index=0∧L.base.term=0∧L.base.conf=⟨[],[]⟩∧L.entries=[]
def Comm (g:G) (T:Int) (l:List Entry):Prop:=l=[]∨∃ t k n,g.ev t k n∧t≤T∧l <+: (g.hist t).take k
section
variable (c0:Conf)
abbrev Rights (g:G):Prop:=Right Entry.term cfE c0 Maj g.toRec next
structure Tiny (e:Entry):Prop where
 data:e.data.length≤100
 voters:e.conf.voters.length≤7
 learners:e.conf.learners.length≤7
 right:e.kind=3→checkP e.conf=0
structure Inv (g:G):Prop where
 base:checkP c0=0
 tiny:∀ t,∀ e∈g.hist t,Tiny e
 right:Rights c0 g
 idx:∀ t,Idx (g.hist t)
 acks:∀ j t,g.ack j t≤(g.hist t).length
 own:∀ t,g.hist t≠[]→g.owner t≠0∧g.vote (g.owner t) t=g.owner t∧∃ l e r,g.hist t=l++e::r∧(∀ x∈l,x.term<t)∧(∀ x∈e::r,x.term=t)∧(Maj (cOf c0 l) fun j=>g.vote j t=g.owner t)∧Elect Entry.term cfE c0 Maj g.toRec t l
 one:∀ t,g.hist t≠[]→2≤t
 votes:∀ j t,g.vote j t≠0→g.vote (g.vote j t) t=g.vote j t∧Sits Entry.term g.toRec (g.vlog j t)∧newer Entry.term (g.clog (g.vote j t) t) (g.vlog j t) ∧
  ∀ t' k,0<k→k≤g.ack j t'→t'<t→(g.hist t').take k <+: g.vlog j t∨∃ u,t'<u∧u≤t∧parts g.toRec t' u k
structure NInv (g:G) (i:Int) (r:Raft):Prop where
 id:r.id=i
 pos:i≠0
 sits:Sits Entry.term g.toRec (g.full i)
 idx:Idx (g.full i)
 low:∀ e∈g.full i,e.term≤r.hard.term
 log:(Blank r.log∧g.full i=[]∧r.hard.commit=0)∨∃ b κ:Nat,CutAt c0 (g.full i) r.log b∧r.hard.commit=1+κ∧b≤κ∧κ≤(g.full i).length∧Comm g r.hard.term ((g.full i).take κ)∧1≤r.hard.term
 real:r.role≠1→∃ b,CutAt c0 (g.full i) r.log b
 pre:r.role=2→i∈(cOf c0 (g.full i)).voters
 vote:g.vote i r.hard.term=r.hard.vote
 later:∀ T,r.hard.term<T→g.vote i T=0
 acked:∀ t k,0<k→k≤g.ack i t→t≤r.hard.term∧((g.hist t).take k <+: g.full i∨∃ u,t<u∧u≤r.hard.term∧parts g.toRec t u k)
 lead:r.role=4→g.owner r.hard.term=i∧g.hist r.hard.term=g.full i∧g.full i≠[]∧g.ack i r.hard.term=(g.full i).length∧∀ p∈r.peers,0≤p.mat∧p.mat≤1+g.ack p.node r.hard.term∧p.next≤2+(g.full i).length
 cand:r.role=3→g.vote i r.hard.term=i∧g.clog i r.hard.term=g.full i∧2≤r.hard.term∧(∀ e∈g.full i,e.term<r.hard.term)∧(g.hist r.hard.term≠[]→g.owner r.hard.term≠i)∧∀ j,(j,true)∈r.ballots→g.vote j r.hard.term=i
structure MInv (g:G) (m:Msg):Prop where
 fits:(∀ e∈m.entries,Tiny e)∧m.entries.length≤8∧m.conf.voters.length≤7∧m.conf.learners.length≤7∧m.data.length≤64
 asks:m.kind=3→g.vote m.frm m.term=m.frm∧m.frm≠0∧m.index=1+(g.clog m.frm m.term).length∧m.logTerm=tAt (g.clog m.frm m.term) (g.clog m.frm m.term).length
 voted:m.kind=4→m.reject=false→g.vote m.frm m.term=m.to∧m.to≠0
 grow:m.kind=5→∃ i κ:Nat,g.hist m.term≠[]∧i≤(g.hist m.term).length∧m.index=1+i∧m.logTerm=tAt (g.hist m.term) i∧m.entries <+: (g.hist m.term).drop i∧m.commit=1+κ∧κ≤(g.hist m.term).length∧Comm g m.term ((g.hist m.term).take κ)
 grown:m.kind=6→m.reject=false→m.index≤1+g.ack m.frm m.term
 piece:m.kind=7→∃ s:Nat,g.hist m.term≠[]∧s≤(g.hist m.term).length∧m.index=1+s∧m.logTerm=tAt (g.hist m.term) s∧m.conf=cOf c0 ((g.hist m.term).take s)∧Comm g m.term ((g.hist m.term).take s)
structure Grow (i:Int) (d:Nat) (g g':G):Prop where
 hist:∀ t,g.hist t <+: g'.hist t
 ev:∀ t k n,g.ev t k n→g'.ev t k n
 vote:∀ j t,g.vote j t≠0→g'.vote j t=g.vote j t
 clog:∀ c t,c≠0→g.vote c t=c→g'.clog c t=g.clog c t
 owner:∀ t,g.hist t≠[]→g'.owner t=g.owner t
 ack:∀ j t,g.ack j t≤g'.ack j t
 others:∀ j,j≠i→g'.full j=g.full j∧g'.vote j=g.vote j∧g'.ack j=g.ack j
 mine:∀ t,g.hist t≠[]→g.owner t≠i→g'.hist t=g.hist t
 fresh:∀ t,g.hist t=[]→g'.hist t≠[]→g'.owner t=i
 size:∀ L,(∀ t,(g.hist t).length≤L)→∀ t,(g'.hist t).length≤L+d
variable {c0} {g g' g'':G} {i j:Int} {d d':Nat}
theorem Grow.refl (i:Int) (g:G):Grow i 0 g g:=⟨fun _=>List.prefix_rfl,fun _ _ _ h=>h,fun _ _ _=>rfl,fun _ _ _ _=>rfl,fun _ _=>rfl,fun _ _=>Nat.le_refl _,fun _ _=>⟨rfl,rfl,rfl⟩,fun _ _ _=>rfl,fun _ h k=>absurd h k,fun _ h=>h⟩
theorem Grow.mono (h:Grow i d g g') (hd:d≤d'):Grow i d' g g':={ h with size:=fun L hL t=>Nat.le_trans (h.size L hL t) (by omega) }
theorem Grow.some (h:Grow i d g g') {t:Int} (hn:g.hist t≠[]):g'.hist t≠[]:=fun hz=>by
 have:=h.hist t
 rw[hz] at this
 exact hn (List.prefix_nil.1 this)
theorem Grow.trans (h:Grow i d g g') (k:Grow i d' g' g''):Grow i (d+d') g g'' :=
 ⟨fun t=>(h.hist t).trans (k.hist t),fun t a b e=>k.ev t a b (h.ev t a b e),fun j t hv=>by rw[k.vote j t (by rw[h.vote j t hv];exact hv),h.vote j t hv],
  fun c t hc hv=>by rw[k.clog c t hc (by rw[h.vote c t (by rw[hv];exact hc)];exact hv),h.clog c t hc hv],fun t hn=>by rw[k.owner t (h.some hn),h.owner t hn],
  fun j t=>Nat.le_trans (h.ack j t) (k.ack j t),fun j hj=>⟨(k.others j hj).1.trans (h.others j hj).1,(k.others j hj).2.1.trans (h.others j hj).2.1,(k.others j hj).2.2.trans (h.others j hj).2.2⟩,
  fun t hn ho=>by rw[k.mine t (h.some hn) (by rw[h.owner t hn];exact ho),h.mine t hn ho],fun t hn hn'=>by
   by_cases hz:g'.hist t=[]
   ·
    exact k.fresh t hz hn'
   ·
    rw[k.owner t hz];exact h.fresh t hn hz,fun L hL t=>by
   have:=k.size (L+d) (h.size L hL) t;omega⟩
theorem Grow.take (h:Grow i d g g') {t:Int} {k:Nat} (hk:k≤(g.hist t).length):(g'.hist t).take k=(g.hist t).take k:=by
 obtain⟨r,hr⟩:=h.hist t
 rw[←hr,List.take_append_of_le_length hk]
theorem Grow.sits (h:Grow i d g g') {l:List Entry} (hl:Sits Entry.term g.toRec l):Sits Entry.term g'.toRec l:=fun k e hk=>(hl k e hk).trans (h.hist _)
theorem Grow.parts (h:Grow i d g g') {t u:Int} {k:Nat} (hp:parts g.toRec t u k):parts g'.toRec t u k:=by
 obtain⟨q,hq,a,b,ha,hb,hab⟩:=hp
 exact⟨q,hq,a,b,pre_get (h.hist t) ha,pre_get (h.hist u) hb,hab⟩
theorem Inv.ev_le (hI:Inv c0 g) {t:Int} {k n:Nat} (h:g.ev t k n):k≤(g.hist t).length:=by
 have:=hI.right.event t k n h;omega
theorem Grow.comm (hI:Inv c0 g) (h:Grow i d g g') {T:Int} {l:List Entry} (hc:Comm g T l):Comm g' T l:=by
 rcases hc with rfl | ⟨t,k,n,h1,h2,h3⟩
 ·
  exact .inl rfl
 ·
  exact .inr ⟨t,k,n,h.ev _ _ _ h1,h2,by rw[h.take (hI.ev_le h1)];exact h3⟩
theorem Comm.mono {T T':Int} {l:List Entry} (h:Comm g T l) (hT:T≤T'):Comm g T' l:=by
 rcases h with rfl | ⟨t,k,n,h1,h2,h3⟩
 ·
  exact .inl rfl
 ·
  exact .inr ⟨t,k,n,h1,Int.le_trans h2 hT,h3⟩
theorem tAt_take {l:List Entry} {k n:Nat} (h:k≤n):tAt (l.take n) k=tAt l k:=by
 unfold tAt
 split
 ·
  rfl
 ·
  rw[List.getElem?_take_of_lt (by omega)]
theorem tAt_pre {l m:List Entry} (h:l <+: m) {k:Nat} (hk:k≤l.length):tAt m k=tAt l k:=by
 rw[pre_take h,tAt_take hk]
theorem NInv.other (hI:Inv c0 g) (h:Grow i d g g') (hj:j≠i) {r:Raft} (hn:NInv c0 g j r):NInv c0 g' j r:=by
 obtain⟨e1,e2,e3⟩:=h.others j hj
 refine⟨hn.id,hn.pos,by rw[e1];exact h.sits hn.sits,by rw[e1];exact hn.idx,by rw[e1];exact hn.low,?_,?_,by rw[e1];exact hn.pre,by rw[e2];exact hn.vote,by rw[e2];exact hn.later,fun t k h0 hk=>?_,fun hr=>?_,fun hr=>?_⟩
 ·
  rw[e1]
  rcases hn.log with h1 | ⟨b,κ,h1,h2,h3,h4,h5,h6⟩
  ·
   exact .inl h1
  ·
   exact .inr ⟨b,κ,h1,h2,h3,h4,h.comm hI h5,h6⟩
 ·
  rw[e1];exact hn.real
 ·
  rw[e3] at hk
  obtain⟨h1,h2⟩:=hn.acked t k h0 hk
  refine⟨h1,?_⟩
  rw[e1,h.take (Nat.le_trans hk (hI.acks j t))]
  rcases h2 with h2 | ⟨u,h3,h4,h5⟩
  ·
   exact .inl h2
  ·
   exact .inr ⟨u,h3,h4,h.parts h5⟩
 ·
  obtain⟨h1,h2,h3,h4,h5⟩:=hn.lead hr
  have hne:g.hist r.hard.term≠[]:=by rw[h2];exact h3
  rw[e1,e3,h.owner _ hne,h.mine _ hne (by rw[h1];exact hj)]
  refine⟨h1,h2,h3,h4,fun p hp=>⟨(h5 p hp).1,?_,(h5 p hp).2.2⟩⟩
  have:=(h5 p hp).2.1
  have:=h.ack p.node r.hard.term
  omega
 ·
  obtain⟨h1,h2,h0,h3,h4,h5⟩:=hn.cand hr
  rw[e1,e2,h.clog j _ hn.pos h1]
  refine⟨h1,h2,h0,h3,fun hne=>?_,fun k hk=>?_⟩
  ·
   by_cases hz:g.hist r.hard.term=[]
   ·
    rw[h.fresh _ hz hne];exact fun e=>hj e.symm
   ·
    rw[h.owner _ hz];exact h4 hz
  ·
   have h6:=h5 k hk
   rw[h.vote k _ (by rw[h6];exact hn.pos)];exact h6
theorem MInv.grow_ (hI:Inv c0 g) (h:Grow i d g g') {m:Msg} (hm:MInv c0 g m):MInv c0 g' m:=by
 refine⟨hm.fits,fun hk=>?_,fun hk hr=>?_,fun hk=>?_,fun hk hr=>?_,fun hk=>?_⟩
 ·
  obtain⟨h1,h2,h3,h4⟩:=hm.asks hk
  rw[h.clog _ _ h2 h1,h.vote _ _ (by rw[h1];exact h2)]
  exact⟨h1,h2,h3,h4⟩
 ·
  obtain⟨h1,h2⟩:=hm.voted hk hr
  exact⟨by rw[h.vote _ _ (by rw[h1];exact h2)];exact h1,h2⟩
 ·
  obtain⟨i,κ,h1,h2,h3,h4,h5,h6,h7,h8⟩:=hm.grow hk
  have hp:=h.hist m.term
  refine⟨i,κ,h.some h1,Nat.le_trans h2 hp.length_le,h3,by rw[tAt_pre hp h2];exact h4,?_,h6,Nat.le_trans h7 hp.length_le,by rw[h.take h7];exact h.comm hI h8⟩
  obtain⟨r,hr⟩:=hp
  rw[←hr,List.drop_append_of_le_length h2]
  exact h5.trans (List.prefix_append _ _)
 ·
  have:=hm.grown hk hr
  have:=h.ack m.frm m.term
  omega
 ·
  obtain⟨s,h1,h2,h3,h4,h5,h6⟩:=hm.piece hk
  have hp:=h.hist m.term
  exact⟨s,h.some h1,Nat.le_trans h2 hp.length_le,h3,by rw[tAt_pre hp h2];exact h4,by rw[h.take h2];exact h5,by rw[h.take h2];exact h.comm hI h6⟩
theorem strict_seven:∀ {l:List Int} {a:Int},l.Pairwise (· < ·)→(∀ x∈l,a≤x∧x≤7)→l=[]∨(l.length:Int)≤8-a
 | [],_,_,_=> .inl rfl
 | x::t,a,h,hb=>by
  obtain⟨h1,h2⟩:=List.pairwise_cons.1 h
  have hx:=hb x (by simp)
  right
  rcases strict_seven (a:=x+1) h2 fun y hy=>⟨h1 y hy,(hb y (List.mem_cons_of_mem _ hy)).2⟩ with rfl | hl
  ·
   simp only[List.length_singleton];omega
  ·
   simp only[List.length_cons];omega
theorem check_seven {c:Conf} (h:checkP c=0):c.voters.length≤7∧c.learners.length≤7:=by
 obtain⟨z1,z2,z3,-,-⟩:=check_zero h
 have hs:∀ l:List Int,l.Pairwise (· < ·)→(∀ x∈l,node7 x=true)→l.length≤7:=fun l h1 h2=>by
  rcases strict_seven (a:=1) h1 fun x hx=>of_decide_eq_true (h2 x hx) with rfl | hl
  ·
   simp
  ·
   omega
 exact⟨hs _ z2 fun x hx=>z1 x (List.mem_append_left _ hx),hs _ z3 fun x hx=>z1 x (List.mem_append_right _ hx)⟩
theorem conf_right (h0:checkP c0=0) {l:List Entry} (h:∀ e∈l,Tiny e):checkP (cOf c0 l)=0:=by
 rcases last_conf cfE c0 l with ⟨-,h1⟩ | ⟨p,e,h1,h2,-⟩
 ·
  rw[show cOf c0 l=c0 from h1];exact h0
 ·
  have h3:=(h e (List.mem_of_getElem? h1)).right
  have h4:e.kind=3→cOf c0 l=e.conf:=fun hk=>by
   have:cfE e=some e.conf:=if_pos hk
   rw[this] at h2;exact (Option.some.inj h2).symm
  by_cases hk:e.kind=3
  ·
   rw[h4 hk];exact h3 hk
  ·
   have:cfE e=none:=if_neg hk
   rw[this] at h2;cases h2
end
end Go.Lw.Safe
namespace Go.Lw.Safe
section
variable {c0:Conf} {g:G} {i:Int}
def G.cast (g:G) (i T c:Int) (v:List Entry):G :=
 { g with
  vote:=fun j t=>if j=i∧t=T then c else g.vote j t
  vlog:=fun j t=>if j=i∧t=T then v else g.vlog j t
  clog:=fun a t=>if a=i∧t=T∧c=i then v else g.clog a t }
theorem Elect.cast {T c:Int} {v:List Entry} (hz:g.vote i T=0) (hc:c≠0) {t:Int} {l:List Entry} (h:Elect Entry.term cfE c0 Maj g.toRec t l):Elect Entry.term cfE c0 Maj (g.cast i T c v).toRec t l :=
 ⟨h.fit,h.low,h.quorum.mono fun j hj=>⟨by
  show (if j=i∧t=T then c else g.vote j t)≠0
  split
  ·
   exact hc
  ·
   exact hj.1,hj.2⟩⟩
theorem newer_self (l:List Entry):newer Entry.term l l:=by
 cases h:l.getLast? with
 | none=>exact .inl (List.getLast?_eq_none_iff.1 h)
 | some a=>exact .inr ⟨a,a,h,h,.inr ⟨rfl,Nat.le_refl _⟩⟩
theorem Inv.cast (hI:Inv c0 g) {T c:Int} {v:List Entry} (hz:g.vote i T=0) (hc:c≠0) (hs:Sits Entry.term g.toRec v) (hw:c=i∨g.vote c T=c∧newer Entry.term (g.clog c T) v)
  (hk:∀ t' k,0<k→k≤g.ack i t'→t'<T→(g.hist t').take k <+: v∨∃ u,t'<u∧u≤T∧parts g.toRec t' u k):Inv c0 (g.cast i T c v)∧Grow i 0 g (g.cast i T c v):=by
 have hv:∀ j t,g.vote j t≠0→(g.cast i T c v).vote j t=g.vote j t:=fun j t h=>by
  show (if j=i∧t=T then c else g.vote j t)=_
  rw[if_neg]
  rintro⟨rfl,rfl⟩
  exact h hz
 refine⟨⟨hI.base,hI.tiny,⟨hI.right.fit,hI.right.mono,hI.right.le,hI.right.pos,hI.right.change,hI.right.event,fun t ht=>?_⟩,hI.idx,hI.acks,fun t ht=>?_,hI.one,fun j t hj=>?_⟩,?_⟩
 ·
  obtain⟨l,h1,h2⟩:=hI.right.elect t ht
  exact⟨l,h1,h2.cast hz hc⟩
 ·
  obtain⟨h1,h2,l,e,r,h3,h4,h5,h6,h7⟩:=hI.own t ht
  refine⟨h1,?_,l,e,r,h3,h4,h5,h6.mono fun j hj=>?_,h7.cast hz hc⟩
  ·
   show (g.cast i T c v).vote (g.owner t) t=g.owner t
   rw[hv _ _ (by rw[h2];exact h1)];exact h2
  ·
   show (g.cast i T c v).vote j t=g.owner t
   rw[hv _ _ (by rw[hj];exact h1)];exact hj
 ·
  by_cases he:j=i∧t=T
  ·
   obtain⟨rfl,rfl⟩:=he
   have e1:(g.cast j t c v).vote j t=c:=if_pos ⟨rfl,rfl⟩
   have e2:(g.cast j t c v).vlog j t=v:=if_pos ⟨rfl,rfl⟩
   rw[e1,e2]
   refine⟨?_,hs,?_,hk⟩
   ·
    rcases hw with rfl | ⟨h1,-⟩
    ·
     exact e1
    ·
     rw[hv _ _ (by rw[h1];exact hc)];exact h1
   ·
    rcases hw with rfl | ⟨h1,h2⟩
    ·
     rw[show (g.cast c t c v).clog c t=v from if_pos ⟨rfl,rfl,rfl⟩];exact newer_self v
    ·
     by_cases hcj:c=j
     ·
      subst hcj;rw[show (g.cast c t c v).clog c t=v from if_pos ⟨rfl,rfl,rfl⟩];exact newer_self v
     ·
      rw[show (g.cast j t c v).clog c t=g.clog c t from if_neg fun h=>hcj h.1];exact h2
  ·
   have e1:(g.cast i T c v).vote j t=g.vote j t:=if_neg he
   have e2:(g.cast i T c v).vlog j t=g.vlog j t:=if_neg he
   rw[e1] at hj ⊢
   rw[e2]
   obtain⟨h1,h2,h3,h4⟩:=hI.votes j t hj
   refine⟨by rw[hv _ _ (by rw[h1];exact hj)];exact h1,h2,?_,h4⟩
   rw[show (g.cast i T c v).clog (g.vote j t) t=g.clog (g.vote j t) t from if_neg fun h=>by
    obtain⟨h5,rfl,-⟩:=h
    rw[h5,hz] at h1
    exact hj (h5.trans h1.symm)]
   exact h3
 ·
  refine⟨fun _=>List.prefix_rfl,fun _ _ _ h=>h,hv,fun a t ha h=>?_,fun _ _=>rfl,fun _ _=>Nat.le_refl _,fun j hj=>⟨rfl,?_,rfl⟩,fun _ _ _=>rfl,fun _ h k=>absurd h k,fun _ h=>h⟩
  ·
   refine if_neg fun h5=>?_
   obtain⟨rfl,rfl,-⟩:=h5
   rw[hz] at h;exact ha h.symm
  ·
   funext t
   exact if_neg fun h=>hj h.1
def G.told (g:G) (i T:Int) (a:Nat) (F:List Entry):G :=
 { g with
  ack:=fun j t=>if j=i∧t=T then a else g.ack j t
  full:=fun j=>if j=i then F else g.full j }
theorem Inv.told (hI:Inv c0 g) {T:Int} {a:Nat} {F:List Entry} (h1:g.ack i T≤a) (h2:a≤(g.hist T).length) (hl:∀ t,T<t→g.vote i t=0):Inv c0 (g.told i T a F)∧Grow i 0 g (g.told i T a F):=by
 have ha:∀ j t,g.ack j t≤(g.told i T a F).ack j t:=fun j t=>by
  show _≤if j=i∧t=T then a else g.ack j t
  split
  ·
   rename_i h;obtain⟨rfl,rfl⟩:=h;exact h1
  ·
   exact Nat.le_refl _
 have hsame:∀ j t t',g.vote j t≠0→t'<t→(g.told i T a F).ack j t'=g.ack j t':=fun j t t' hv ht=>by
  refine if_neg fun h=>?_
  obtain⟨rfl,rfl⟩:=h
  exact hv (hl t ht)
 have hE:∀ t l,Elect Entry.term cfE c0 Maj g.toRec t l→Elect Entry.term cfE c0 Maj (g.told i T a F).toRec t l:=fun t l e2=>by
  refine⟨e2.fit,e2.low,e2.quorum.mono fun j hj=>⟨hj.1,?_⟩⟩
  obtain⟨v,e3,e4,e5⟩:=hj.2
  refine⟨v,e3,e4,fun t' k h0 hk ht'=>?_⟩
  rw[hsame j t t' hj.1 ht'] at hk
  exact e5 t' k h0 hk ht'
 refine⟨⟨hI.base,hI.tiny,⟨hI.right.fit,hI.right.mono,hI.right.le,hI.right.pos,hI.right.change,fun t k n h=>?_,fun t ht=>?_⟩,hI.idx,fun j t=>?_,fun t ht=>?_,hI.one,fun j t hj=>?_⟩,?_⟩
 ·
  obtain⟨e1,e2,e3,e4,e5⟩:=hI.right.event t k n h
  exact⟨e1,e2,e3,e4,e5.mono fun j hj=>Nat.le_trans hj (ha j t)⟩
 ·
  obtain⟨l,e1,e2⟩:=hI.right.elect t ht
  exact⟨l,e1,hE t l e2⟩
 ·
  show (if j=i∧t=T then a else g.ack j t)≤_
  split
  ·
   rename_i h;obtain⟨rfl,rfl⟩:=h;exact h2
  ·
   exact hI.acks j t
 ·
  obtain⟨h1,h2,l,e,r,h3,h4,h5,h6,h7⟩:=hI.own t ht
  exact⟨h1,h2,l,e,r,h3,h4,h5,h6,hE t l h7⟩
 ·
  obtain⟨e1,e2,e3,e4⟩:=hI.votes j t hj
  refine⟨e1,e2,e3,fun t' k h0 hk ht'=>?_⟩
  rw[hsame j t t' hj ht'] at hk
  exact e4 t' k h0 hk ht'
 ·
  refine⟨fun _=>List.prefix_rfl,fun _ _ _ h=>h,fun _ _ _=>rfl,fun _ _ _ _=>rfl,fun _ _=>rfl,ha,fun j hj=>⟨if_neg hj,rfl,?_⟩,fun _ _ _=>rfl,fun _ h k=>absurd h k,fun _ h=>h⟩
  funext t
  exact if_neg fun h=>hj h.1
def G.commit (g:G) (T:Int) (k n:Nat):G:={ g with ev:=fun t k' n'=>g.ev t k' n'∨(t=T∧k'=k∧n'=n) }
theorem Inv.commit (hI:Inv c0 g) {T:Int} {k n:Nat} (h0:0<k) (hkn:k≤n) (hn:n≤(g.hist T).length) (he:∃ e,(g.hist T)[k-1]?=some e∧e.term=T) (hq:Maj (cOf c0 ((g.hist T).take n)) fun j=>k≤g.ack j T) :
  Inv c0 (g.commit T k n)∧Grow i 0 g (g.commit T k n):=by
 refine⟨⟨hI.base,hI.tiny,⟨hI.right.fit,hI.right.mono,hI.right.le,hI.right.pos,fun t p e c a1 a2 a3=>?_,fun t k' n' h=>?_,fun t ht=>?_⟩,hI.idx,hI.acks,fun t ht=>?_,hI.one,hI.votes⟩,⟨fun _=>List.prefix_rfl,fun _ _ _ h=> .inl h,fun _ _ _=>rfl,fun _ _ _ _=>rfl,fun _ _=>rfl,fun _ _=>Nat.le_refl _,fun _ _=>⟨rfl,rfl,rfl⟩,fun _ _ _=>rfl,fun _ h k=>absurd h k,fun _ h=>h⟩⟩
 ·
  obtain⟨k',n',e1,e2,e3,e4⟩:=hI.right.change t p e c a1 a2 a3
  exact⟨k',n',.inl e1,e2,e3,e4⟩
 ·
  rcases h with h | ⟨rfl,rfl,rfl⟩
  ·
   exact hI.right.event t k' n' h
  ·
   exact⟨h0,hkn,hn,he,hq⟩
 ·
  obtain⟨l,h1,h2⟩:=hI.right.elect t ht
  exact⟨l,h1,h2.fit,h2.low,h2.quorum⟩
 ·
  obtain⟨h1,h2,l,e,r,h3,h4,h5,h6,h7⟩:=hI.own t ht
  exact⟨h1,h2,l,e,r,h3,h4,h5,h6,h7.fit,h7.low,h7.quorum⟩
def G.put (g:G) (i T:Int) (l:List Entry):G :=
 { g with
  hist:=fun t=>if t=T then l else g.hist t
  owner:=fun t=>if t=T then i else g.owner t }
theorem get_snoc {l:List Entry} {x e:Entry} {k:Nat} (h:(l++[x])[k]?=some e):l[k]?=some e∨k=l.length∧e=x:=by
 by_cases hk:k<l.length
 ·
  rw[List.getElem?_append_left hk] at h;exact .inl h
 ·
  have:=get_lt h
  simp at this
  have hk:k=l.length:=by omega
  subst hk
  simp at h
  exact .inr ⟨rfl,h.symm⟩
theorem Inv.put (hI:Inv c0 g) {T:Int} {F:List Entry} {x:Entry} (hs:Sits Entry.term g.toRec F) (hix:Idx F) (hx:x.index=F.length+2) (ht:x.term=T) (htiny:Tiny x) (h0:2≤T) (hle:∀ e∈F,e.term≤T) (hi0:i≠0)
  (hold:(g.hist T=F∧F≠[]∧g.owner T=i)∨(g.hist T=[]∧(∀ e∈F,e.term<T)∧g.vote i T=i∧Elect Entry.term cfE c0 Maj g.toRec T F∧Maj (cOf c0 F) fun j=>g.vote j T=i))
  (hch:∀ c,cfE x=some c→∃ k n,g.ev T k n∧n≤F.length∧flat cfE F k F.length∧next (cOf c0 F) c∧g.hist T=F):Inv c0 (g.put i T (F++[x]))∧Grow i 1 g (g.put i T (F++[x])):=by
 have eT:(g.put i T (F++[x])).hist T=F++[x]:=if_pos rfl
 have eO:∀ t,t≠T→(g.put i T (F++[x])).hist t=g.hist t:=fun t h=>if_neg h
 have hpre:∀ t,g.hist t <+: (g.put i T (F++[x])).hist t:=fun t=>by
  by_cases h:t=T
  ·
   subst h
   rw[eT]
   rcases hold with ⟨h1,-,-⟩ | ⟨h1,-⟩
   ·
    rw[h1];exact List.prefix_append _ _
   ·
    rw[h1];exact List.nil_prefix
  ·
   rw[eO t h];exact List.prefix_rfl
 have hgr:Grow i 1 g (g.put i T (F++[x])):=by
  refine⟨hpre,fun _ _ _ h=>h,fun _ _ _=>rfl,fun _ _ _ _=>rfl,fun t hn=>?_,fun _ _=>Nat.le_refl _,fun _ _=>⟨rfl,rfl,rfl⟩,fun t hn ho=>?_,fun t hn hn'=>?_,fun L hL t=>?_⟩
  ·
   show (if t=T then i else g.owner t)=g.owner t
   split
   ·
    rename_i h;subst h
    rcases hold with ⟨-,-,h1⟩ | ⟨h1,-⟩
    ·
     exact h1.symm
    ·
     exact absurd h1 hn
   ·
    rfl
  ·
   refine eO t fun h=>?_
   subst h
   rcases hold with ⟨-,-,h1⟩ | ⟨h1,-⟩
   ·
    exact ho h1
   ·
    exact absurd h1 hn
  ·
   by_cases h:t=T
   ·
    exact if_pos h
   ·
    rw[eO t h] at hn';exact absurd hn hn'
  ·
   by_cases h:t=T
   ·
    subst h
    rw[eT,List.length_append,List.length_singleton]
    have hF:F.length≤L:=by
     cases hz:F.getLast? with
     | none=>rw[List.getLast?_eq_none_iff.1 hz];exact Nat.zero_le _
     | some y=>exact Nat.le_trans (hs.last hz).length_le (hL _)
    omega
   ·
    rw[eO t h];have:=hL t;omega
 have hold':∀ t k e,((g.put i T (F++[x])).hist t)[k]?=some e→(t=T∧k=F.length∧e=x)∨(t=T∧F[k]?=some e)∨(t≠T∧(g.hist t)[k]?=some e):=fun t k e h=>by
  by_cases hT:t=T
  ·
   subst hT
   rw[eT] at h
   rcases get_snoc h with h | ⟨h1,h2⟩
   ·
    exact .inr (.inl ⟨rfl,h⟩)
   ·
    exact .inl ⟨rfl,h1,h2⟩
  ·
   rw[eO t hT] at h;exact .inr (.inr ⟨hT,h⟩)
 have hmonoF:∀ (i j:Nat) (a b:Entry),i≤j→F[i]?=some a→F[j]?=some b→a.term≤b.term:=fun i j a b hij ha hb=>hs.mono hI.right hij ha hb
 have htake:∀ k,k≤F.length→(F++[x]).take k=F.take k:=fun k hk=>List.take_append_of_le_length hk
 have hE:∀ t l,Elect Entry.term cfE c0 Maj g.toRec t l→Elect Entry.term cfE c0 Maj (g.put i T (F++[x])).toRec t l:=fun t l h=>by
  refine⟨hgr.sits h.fit,h.low,h.quorum.mono fun j hj=>⟨hj.1,?_⟩⟩
  obtain⟨v,e3,e4,e5⟩:=hj.2
  refine⟨v,hgr.sits e3,e4,fun t' k h0 hk ht'=>?_⟩
  rw[hgr.take (Nat.le_trans hk (hI.acks j t'))]
  rcases e5 t' k h0 hk ht' with h | ⟨u,h1,h2,h3⟩
  ·
   exact .inl h
  ·
   exact .inr ⟨u,h1,h2,hgr.parts h3⟩
 refine⟨⟨hI.base,fun t e he=>?_,⟨fun t k e h=>?_,fun t k j a b hkj ha hb=>?_,fun t e he=>?_,fun t hn=>?_,fun t p e c h1 h2 h3=>?_,fun t k n h=>?_,fun t hn=>?_⟩,fun t k e h=>?_,fun j t=>?_,fun t hn=>?_,fun t hn=>?_,fun j t hj=>?_⟩,hgr⟩
 ·
  obtain⟨k,hk,rfl⟩:=List.getElem_of_mem he
  rcases hold' t k _ (List.getElem?_eq_getElem hk) with ⟨rfl,-,h2⟩ | ⟨rfl,h1⟩ | ⟨hT,h1⟩
  ·
   rw[h2];exact htiny
  ·
   exact hI.tiny _ _ (List.mem_of_getElem? (pre_get (hs k _ h1) (get_take h1 (Nat.lt_succ_self k))))
  ·
   exact hI.tiny t _ (List.mem_of_getElem? h1)
 ·
  rcases hold' t k e h with ⟨rfl,rfl,rfl⟩ | ⟨rfl,h1⟩ | ⟨hT,h1⟩
  ·
   rw[eT,ht,eT,List.take_of_length_le (by simp)];exact List.prefix_rfl
  ·
   rw[eT,htake _ (by have:=get_lt h1;omega)]
   exact (hs k e h1).trans (hpre _)
  ·
   rw[eO t hT];exact (hI.right.fit t k e h1).trans (hpre _)
 ·
  rcases hold' t j b hb with ⟨rfl,rfl,rfl⟩ | ⟨rfl,h1⟩ | ⟨hT,h1⟩
  ·
   rcases hold' _ k a ha with ⟨-,-,rfl⟩ | ⟨-,h1⟩ | ⟨h1,-⟩
   ·
    exact Int.le_refl _
   ·
    rw[ht];exact hle a (List.mem_of_getElem? h1)
   ·
    exact absurd rfl h1
  ·
   rcases hold' _ k a ha with ⟨-,h2,-⟩ | ⟨-,h2⟩ | ⟨h2,-⟩
   ·
    have:=get_lt h1;omega
   ·
    exact hmonoF k j a b hkj h2 h1
   ·
    exact absurd rfl h2
  ·
   rw[eO t hT] at ha;exact hI.right.mono t k j a b hkj ha h1
 ·
  obtain⟨k,hk,rfl⟩:=List.getElem_of_mem he
  rcases hold' t k _ (List.getElem?_eq_getElem hk) with ⟨rfl,-,h2⟩ | ⟨rfl,h1⟩ | ⟨hT,h1⟩
  ·
   rw[h2,ht];exact Int.le_refl _
  ·
   exact hle _ (List.mem_of_getElem? h1)
  ·
   exact hI.right.le t _ (List.mem_of_getElem? h1)
 ·
  by_cases hT:t=T
  ·
   omega
  ·
   rw[eO t hT] at hn;exact hI.right.pos t hn
 ·
  rcases hold' t p e h1 with ⟨rfl,rfl,rfl⟩ | ⟨rfl,h4⟩ | ⟨hT,h4⟩
  ·
   obtain⟨k,n,e1,e2,e3,e4,-⟩:=hch c h3
   refine⟨k,n,e1,e2,fun q hq1 hq2 y hy=>?_,?_⟩
   ·
    rw[eT,List.getElem?_append_left hq2] at hy
    exact e3 q hq1 hq2 y hy
   ·
    rw[eT,htake _ (Nat.le_refl _),List.take_length];exact e4
  ·
   have hF:g.hist t=F:=by
    rcases hold with ⟨h5,-,-⟩ | ⟨-,h5,-⟩
    ·
     exact h5
    ·
     have:=h5 e (List.mem_of_getElem? h4);omega
   obtain⟨k,n,e1,e2,e3,e4⟩:=hI.right.change t p e c (by rw[hF];exact h4) h2 h3
   have hp:=get_lt h4
   refine⟨k,n,e1,e2,fun q hq1 hq2 y hy=>?_,?_⟩
   ·
    rw[eT,List.getElem?_append_left (by omega)] at hy
    exact e3 q hq1 hq2 y (by rw[hF];exact hy)
   ·
    rw[eT,htake _ (by omega),← hF];exact e4
  ·
   rw[eO t hT];exact hI.right.change t p e c h4 h2 h3
 ·
  obtain⟨e1,e2,e3,⟨y,e4,e5⟩,e6⟩:=hI.right.event t k n h
  refine⟨e1,e2,Nat.le_trans e3 (hpre t).length_le,⟨y,pre_get (hpre t) e4,e5⟩,?_⟩
  rw[hgr.take e3];exact e6
 ·
  by_cases hz:g.hist t=[]
  ·
   have hT:t=T:=Classical.byContradiction fun h=>by rw[eO t h] at hn;exact hn hz
   subst hT
   rcases hold with ⟨h1,h2,-⟩ | ⟨-,-,-,h1,-⟩
   ·
    rw[h1] at hz;exact absurd hz h2
   ·
    exact⟨F,by rw[eT];exact List.prefix_append _ _,hE _ _ h1⟩
  ·
   obtain⟨l,h1,h2⟩:=hI.right.elect t hz
   exact⟨l,h1.trans (hpre t),hE _ _ h2⟩
 ·
  rcases hold' t k e h with ⟨rfl,rfl,rfl⟩ | ⟨rfl,h1⟩ | ⟨hT,h1⟩
  ·
   exact hx
  ·
   exact hix k e h1
  ·
   exact hI.idx t k e h1
 ·
  exact Nat.le_trans (hI.acks j t) (hpre t).length_le
 ·
  by_cases hT:t=T
  ·
   subst hT
   rw[eT,show (g.put i t (F++[x])).owner t=i from if_pos rfl]
   rcases hold with ⟨h1,h2,h3⟩ | ⟨h1,h2,h3,h4,h5⟩
   ·
    obtain⟨a1,a2,l,e,r,a3,a4,a5,a6,a7⟩:=hI.own t (by rw[h1];exact h2)
    rw[h3] at a2 a6
    refine⟨hi0,a2,l,e,r++[x],?_,a4,fun y hy=>?_,a6,hE _ _ a7⟩
    ·
     rw[←h1,a3];simp
    ·
     rw[←List.cons_append] at hy
     rcases List.mem_append.1 hy with hy | hy
     ·
      exact a5 y hy
     ·
      rw[List.mem_singleton.1 hy];exact ht
   ·
    exact⟨hi0,h3,F,x,[],rfl,h2,fun y hy=>by rw[List.mem_singleton.1 hy];exact ht,h5,hE _ _ h4⟩
  ·
   rw[eO t hT,show (g.put i T (F++[x])).owner t=g.owner t from if_neg hT]
   rw[eO t hT] at hn
   obtain⟨a1,a2,l,e,r,a3,a4,a5,a6,a7⟩:=hI.own t hn
   exact⟨a1,a2,l,e,r,a3,a4,a5,a6,hE _ _ a7⟩
 ·
  by_cases hT:t=T
  ·
   rw[hT];exact h0
  ·
   rw[eO t hT] at hn;exact hI.one t hn
 ·
  obtain⟨e1,e2,e3,e4⟩:=hI.votes j t hj
  refine⟨e1,hgr.sits e2,e3,fun t' k h0 hk ht'=>?_⟩
  rw[hgr.take (Nat.le_trans hk (hI.acks j t'))]
  rcases e4 t' k h0 hk ht' with h | ⟨u,h1,h2,h3⟩
  ·
   exact .inl h
  ·
   exact .inr ⟨u,h1,h2,hgr.parts h3⟩
end
end Go.Lw.Safe
namespace Go.Lw.Safe
theorem conf_confE (l:List Entry) (c:Conf):conf cfE c l=((confE l).map (·.1)).getD c:=by
 obtain⟨n,hn⟩:∃ n,n=l.length:=⟨_,rfl⟩
 induction n generalizing l with
 | zero=>rw[List.eq_nil_of_length_eq_zero hn.symm];rfl
 | succ n ih =>
  obtain⟨m,x,rfl⟩:∃ m x,l=m++[x]:=by
   have:l≠[]:=fun h=>by rw[h] at hn;cases hn
   exact⟨l.dropLast,l.getLast this,(List.dropLast_concat_getLast this).symm⟩
  rw[conf_snoc,confE_snoc]
  unfold cfE
  split
  ·
   rfl
  ·
   exact ih m (by simp at hn;exact hn)
theorem confE_some {l:List Entry} {c:Conf} {x:Int} (h:confE l=some (c,x)):∃ k e,l[k]?=some e∧e.index=x∧flat cfE l (k+1) l.length:=by
 obtain⟨n,hn⟩:∃ n,n=l.length:=⟨_,rfl⟩
 induction n generalizing l with
 | zero=>rw[List.eq_nil_of_length_eq_zero hn.symm] at h;cases h
 | succ n ih =>
  obtain⟨m,y,rfl⟩:∃ m x,l=m++[x]:=by
   have:l≠[]:=fun h=>by rw[h] at hn;cases hn
   exact⟨l.dropLast,l.getLast this,(List.dropLast_concat_getLast this).symm⟩
  rw[confE_snoc] at h
  split at h
  ·
   cases h
   exact⟨m.length,y,by simp,rfl,fun q h1 h2=>by simp at h2;omega⟩
  ·
   rename_i hk
   obtain⟨k,e,h1,h2,h3⟩:=ih h (by simp at hn;exact hn)
   refine⟨k,e,by rw[List.getElem?_append_left (get_lt h1)];exact h1,h2,fun q h4 h5 z hz=>?_⟩
   rcases get_snoc hz with hz | ⟨-,rfl⟩
   ·
    exact h3 q h4 (get_lt hz) z hz
   ·
    unfold cfE;rw[if_neg hk]
theorem confE_none {l:List Entry} (h:confE l=none):flat cfE l 0 l.length:=by
 obtain⟨n,hn⟩:∃ n,n=l.length:=⟨_,rfl⟩
 induction n generalizing l with
 | zero=>rw[List.eq_nil_of_length_eq_zero hn.symm];exact fun q _ h=>absurd h (Nat.not_lt_zero _)
 | succ n ih =>
  obtain⟨m,y,rfl⟩:∃ m x,l=m++[x]:=by
   have:l≠[]:=fun h=>by rw[h] at hn;cases hn
   exact⟨l.dropLast,l.getLast this,(List.dropLast_concat_getLast this).symm⟩
  rw[confE_snoc] at h
  split at h
  ·
   cases h
  ·
   rename_i hk
   have:=ih h (by simp at hn;exact hn)
   intro q h4 h5 z hz
   rcases get_snoc hz with hz | ⟨-,rfl⟩
   ·
    exact this q h4 (get_lt hz) z hz
   ·
    unfold cfE;rw[if_neg hk]
section
variable {c0:Conf} {F:List Entry} {L:Log} {b:Nat}
theorem CutAt.get (h:CutAt c0 F L b) {k:Nat} {e:Entry}:L.entries[k]?=some e↔F[b+k]?=some e:=by rw[h.entries,List.getElem?_drop]
theorem CutAt.len (h:CutAt c0 F L b):L.entries.length=F.length-b:=by rw[h.entries,List.length_drop]
theorem CutAt.runX (h:CutAt c0 F L b) (hi:Idx F):RunX L:=fun k e hk=>by
 have:=hi _ e (h.get.1 hk)
 rw[h.index];omega
theorem CutAt.last (h:CutAt c0 F L b) (hi:Idx F):lastP L=(1+(F.length:Int),tAt F F.length):=by
 have h1:=(h.runX hi).last
 have h2:=h.len
 have h3:=h.le
 have h4:=h.index
 refine Prod.ext (by simp only;omega) ?_
 rw[lastP_eq]
 simp only
 rw[h.entries,List.getLast?_drop]
 split
 ·
  have:b=F.length:=by omega
  rw[h.term,this];rfl
 ·
  rename_i hb
  unfold tAt
  rw[if_neg (by omega),← List.getLast?_eq_getElem?]
  cases hz:F.getLast? with
  | none=>rw[List.getLast?_eq_none_iff.1 hz] at hb;simp at hb
  | some z=>rfl
theorem CutAt.conf_ (h:CutAt c0 F L b):(confP L).1=cOf c0 F:=by
 have e:cOf c0 F=Safe.conf cfE (cOf c0 (F.take b)) (F.drop b):=by
  unfold cOf Safe.conf
  rw[←List.foldl_append,List.take_append_drop]
 rw[e,conf_confE,← h.conf,← h.entries]
 unfold confP
 cases confE L.entries<;>rfl
theorem CutAt.conf_at (h:CutAt c0 F L b) (hi:Idx F) {κ:Nat} (hb:b≤κ) (hc:(confP L).2≤1+κ):flat cfE F κ F.length:=by
 have hl:=h.le
 intro q h1 h2 e he
 have hq:L.entries[q-b]?=some e:=by rw[h.get,show b+(q-b)=q by omega];exact he
 unfold confP at hc
 cases hz:confE L.entries with
 | none=>exact confE_none hz _ (Nat.zero_le _) (get_lt hq) e hq
 | some r =>
  obtain⟨c,x⟩:=r
  rw[hz] at hc
  simp only[Option.getD_some] at hc
  obtain⟨k,y,h3,h4,h5⟩:=confE_some hz
  have h6:=hi _ y (h.get.1 h3)
  exact h5 _ (by omega) (get_lt hq) e hq
theorem CutAt.term_at (h:CutAt c0 F L b) (hi:Idx F) {k:Nat} (h1:b≤k) (h2:k≤F.length):termP L (1+k)=(tAt F k,true):=by
 by_cases hk:k=b
 ·
  subst hk
  unfold termP
  rw[if_pos h.index.symm,h.term]
 ·
  have h3:=h.len
  have h4:=(h.runX hi).termAt (k:=k-b-1) (by omega)
  have h5:=h.index
  rw[show L.base.index+1+((k-b-1:Nat):Int)=1+k by omega] at h4
  rw[h4]
  have h6:F[k-1]?=some L.entries[k-b-1]:=by
   rw[show k-1=b+(k-b-1) by omega,← h.get]
   exact List.getElem?_eq_getElem _
  unfold tAt
  rw[if_neg (by omega),h6];rfl
theorem CutAt.term_found (h:CutAt c0 F L b) (hi:Idx F) {x:Int} (hx:(termP L x).2=true):∃ k:Nat,x=1+k∧b≤k∧k≤F.length∧(termP L x).1=tAt F k:=by
 have h1:=(h.runX hi).term hx
 have h2:=h.index
 have h3:=h.len
 have h4:=h.le
 refine⟨(x-1).toNat,by omega,by omega,by omega,?_⟩
 have:=h.term_at hi (k:=(x-1).toNat) (by omega) (by omega)
 rw[show (1:Int)+((x-1).toNat:Int)=x by omega] at this
 rw[this]
theorem CutAt.snoc (h:CutAt c0 F L b) (x:Entry):CutAt c0 (F++[x]) ⟨L.base,L.entries++[x]⟩ b :=
 ⟨by have:=h.le;simp;omega,h.index,by rw[tAt_pre (List.prefix_append _ _) h.le];exact h.term,by rw[List.take_append_of_le_length h.le];exact h.conf,by rw[List.drop_append_of_le_length h.le,← h.entries]⟩
theorem Blank.last (h:Blank L):lastP L=(0,0):=by
 obtain⟨h1,h2,-,h4⟩:=h
 unfold lastP;rw[h4];simp[h1,h2]
theorem Blank.conf_ (h:Blank L):(confP L).1=⟨[],[]⟩:=by
 obtain⟨-,-,h3,h4⟩:=h
 unfold confP;rw[h4];exact h3
theorem Blank.found (h:Blank L) {x:Int} (hx:(termP L x).2=true):x=0∧(termP L x).1=0:=by
 obtain⟨h1,h2,h3,h4⟩:=h
 unfold termP at hx ⊢
 by_cases hz:x=L.base.index
 ·
  rw[if_pos hz];exact⟨by omega,h2⟩
 ·
  rw[if_neg hz,h4] at hx;simp at hx
end
end Go.Lw.Safe
namespace Go.Lw.Safe
section
variable {c0:Conf} {g g' g'':G} {i:Int} {n n' n'':Node}
structure St (c0:Conf) (g:G) (i:Int) (n:Node):Prop where
 inv:Inv c0 g
 node:NInv c0 g i n.s
 msgs:∀ m∈n.o.msgs,MInv c0 g m
def To (c0:Conf) (g:G) (i:Int) (n:Node):Prop:=∃ g',Grow i 1 g g'∧St c0 g' i n
theorem St.to (h:St c0 g i n):To c0 g i n:=⟨g,(Grow.refl i g).mono (Nat.zero_le _),h⟩
def Bare (m:Msg):Prop:=m.entries=[]∧m.conf=⟨[],[]⟩∧m.data=[]
theorem Bare.fits {m:Msg} (h:Bare m):(∀ e∈m.entries,Tiny e)∧m.entries.length≤8∧m.conf.voters.length≤7∧m.conf.learners.length≤7∧m.data.length≤64:=by
 obtain⟨h1,h2,h3⟩:=h
 rw[h1,h2,h3]
 exact⟨fun e he=>(by cases he),Nat.zero_le _,Nat.zero_le _,Nat.zero_le _,Nat.zero_le _⟩
theorem MInv.other {m:Msg} (b:Bare m) (h:m.kind<3∨7<m.kind):MInv c0 g m:=⟨b.fits,fun z=>by omega,fun z=>by omega,fun z=>by omega,fun z=>by omega,fun z=>by omega⟩
theorem MInv.is4 {m:Msg} (b:Bare m) (k:m.kind=4) (h:m.reject=false→g.vote m.frm m.term=m.to∧m.to≠0):MInv c0 g m:=⟨b.fits,fun z=>by omega,fun _=>h,fun z=>by omega,fun z=>by omega,fun z=>by omega⟩
theorem MInv.is6 {m:Msg} (b:Bare m) (k:m.kind=6) (h:m.reject=false→m.index≤1+g.ack m.frm m.term):MInv c0 g m:=⟨b.fits,fun z=>by omega,fun z=>by omega,fun z=>by omega,fun _=>h,fun z=>by omega⟩
theorem MInv.is3 {m:Msg} (b:Bare m) (k:m.kind=3) (h:g.vote m.frm m.term=m.frm∧m.frm≠0∧m.index=1+(g.clog m.frm m.term).length∧m.logTerm=tAt (g.clog m.frm m.term) (g.clog m.frm m.term).length):MInv c0 g m:=⟨b.fits,fun _=>h,fun z=>by omega,fun z=>by omega,fun z=>by omega,fun z=>by omega⟩
theorem MInv.is5 {m:Msg} (hI:Inv c0 g) (k:m.kind=5) (b:m.entries.length≤8∧m.conf=⟨[],[]⟩∧m.data=[]) (h:∃ i κ:Nat,g.hist m.term≠[]∧i≤(g.hist m.term).length∧m.index=1+i∧m.logTerm=tAt (g.hist m.term) i∧m.entries <+: (g.hist m.term).drop i∧m.commit=1+κ∧κ≤(g.hist m.term).length∧Comm g m.term ((g.hist m.term).take κ)):MInv c0 g m:=by
 obtain⟨b1,b2,b3⟩:=b
 refine⟨⟨fun e he=>?_,b1,by rw[b2];exact Nat.zero_le _,by rw[b2];exact Nat.zero_le _,by rw[b3];exact Nat.zero_le _⟩,fun z=>by omega,fun z=>by omega,fun _=>h,fun z=>by omega,fun z=>by omega⟩
 obtain⟨i,κ,-,-,-,-,h5,-⟩:=h
 exact hI.tiny _ e (List.mem_of_mem_drop (h5.subset he))
theorem MInv.is7 {m:Msg} (hI:Inv c0 g) (k:m.kind=7) (b:m.entries=[]∧m.data.length≤64) (h:∃ s:Nat,g.hist m.term≠[]∧s≤(g.hist m.term).length∧m.index=1+s∧m.logTerm=tAt (g.hist m.term) s∧m.conf=cOf c0 ((g.hist m.term).take s)∧Comm g m.term ((g.hist m.term).take s)):MInv c0 g m:=by
 have hs:m.conf.voters.length≤7∧m.conf.learners.length≤7:=by
  obtain⟨s,-,-,-,-,h5,-⟩:=h
  rw[h5]
  exact check_seven (conf_right hI.base fun e he=>hI.tiny _ e (List.mem_of_mem_take he))
 exact⟨⟨by rw[b.1];exact fun e he=>(by cases he),by rw[b.1];exact Nat.zero_le _,hs.1,hs.2,b.2⟩,fun z=>by omega,fun z=>by omega,fun z=>by omega,fun z=>by omega,fun _=>h⟩
theorem MInv.no {m:Msg} (b:Bare m) (h:m.kind=4∨m.kind=6) (hr:m.reject=true):MInv c0 g m:=by
 rcases h with h | h
 ·
  exact MInv.is4 b h fun z=>by rw[hr] at z;cases z
 ·
  exact MInv.is6 b h fun z=>by rw[hr] at z;cases z
theorem bare {m:Msg} (h1:m.entries=[]:=by rfl) (h2:m.conf=⟨[],[]⟩:=by rfl) (h3:m.data=[]:=by rfl):Bare m:=⟨h1,h2,h3⟩
theorem St.send (h:St c0 g i n) {m:Msg} (hm:MInv c0 g m):St c0 g i (n.send m):=⟨h.inv,h.node,fun x hx=>by
 rcases List.mem_append.1 hx with hx | hx
 ·
  exact h.msgs x hx
 ·
  rw[List.mem_singleton.1 hx];exact hm⟩
theorem St.post (h:St c0 g i n) {m:Msg} (hm:MInv c0 g { m with frm:=n.s.id,term:=if m.term=0 then n.s.hard.term else m.term }):St c0 g i (n.post m):=h.send hm
theorem NInv.same {r r':Raft} (h:NInv c0 g i r) (e1:r'.id=r.id) (e2:r'.hard=r.hard) (e3:r'.log=r.log) (e4:r'.role=r.role) (e5:r'.peers=r.peers) (e6:r'.ballots=r.ballots):NInv c0 g i r' :=
 ⟨e1.trans h.id,h.pos,h.sits,h.idx,by rw[e2];exact h.low,by rw[e2,e3];exact h.log,by rw[e3,e4];exact h.real,by rw[e4];exact h.pre,by rw[e2];exact h.vote,by rw[e2];exact h.later,by rw[e2];exact h.acked,by rw[e2,e4,e5];exact h.lead,by rw[e2,e4,e6];exact h.cand⟩
theorem St.same (h:St c0 g i n) {r:Raft} (e1:r.id=n.s.id) (e2:r.hard=n.s.hard) (e3:r.log=n.s.log) (e4:r.role=n.s.role) (e5:r.peers=n.s.peers) (e6:r.ballots=n.s.ballots):St c0 g i ⟨r,n.o⟩ :=
 ⟨h.inv,h.node.same e1 e2 e3 e4 e5 e6,h.msgs⟩
theorem NInv.down {r r':Raft} (h:NInv c0 g i r) (e1:r'.id=r.id) (e3:r'.log=r.log) (e4:r'.role≠3∧r'.role≠4) (e5:r'.role≠1→∃ b,CutAt c0 (g.full i) r.log b) (e8:r'.role≠1→i∈(cOf c0 (g.full i)).voters) (e6:r'.hard.commit=r.hard.commit)
  (e7:r'.hard=r.hard∨(r.hard.term<r'.hard.term∧r'.hard.vote=0)):NInv c0 g i r':=by
 have hT:r.hard.term≤r'.hard.term:=by
  rcases e7 with e7 | ⟨e7,-⟩
  ·
   rw[e7];exact Int.le_refl _
  ·
   exact Int.le_of_lt e7
 refine⟨e1.trans h.id,h.pos,h.sits,h.idx,fun e he=>Int.le_trans (h.low e he) hT,?_,by rw[e3];exact e5,fun z=>e8 (by rw[z];decide),?_,fun T hlt=>h.later T (by omega),fun t k h0 hk=>?_,fun hr=>absurd hr e4.2,fun hr=>absurd hr e4.1⟩
 ·
  rw[e3,e6]
  rcases h.log with h1 | ⟨b,κ,h1,h2,h3,h4,h5,h6⟩
  ·
   exact .inl h1
  ·
   exact .inr ⟨b,κ,h1,h2,h3,h4,h5.mono hT,Int.le_trans h6 hT⟩
 ·
  rcases e7 with e7 | ⟨e7,e8⟩
  ·
   rw[e7];exact h.vote
  ·
   rw[e8];exact h.later _ e7
 ·
  obtain⟨h1,h2⟩:=h.acked t k h0 hk
  refine⟨by omega,?_⟩
  rcases h2 with h2 | ⟨u,h3,h4,h5⟩
  ·
   exact .inl h2
  ·
   exact .inr ⟨u,h3,by omega,h5⟩
theorem St.follow (h:St c0 g i n) (t l:Int):St c0 g i (n.follow t l):=by
 refine⟨h.inv,h.node.down rfl rfl ⟨by show (1:Int)≠3;decide,by show (1:Int)≠4;decide⟩ (fun z=>absurd rfl z) (fun z=>absurd rfl z) ?_ ?_,h.msgs⟩
 ·
  unfold Node.follow
  by_cases hc:n.s.hard.term<t
  ·
   simp only[if_pos hc]
  ·
   simp only[if_neg hc]
 ·
  unfold Node.follow
  by_cases hc:n.s.hard.term<t
  ·
   simp only[if_pos hc];exact .inr ⟨hc,trivial⟩
  ·
   simp only[if_neg hc];exact .inl trivial
theorem St.calm (h:St c0 g i n) (f:Int):St c0 g i (n.calm f):=(h.follow n.s.hard.term f).same rfl rfl rfl rfl rfl rfl
theorem NInv.cut {r:Raft} (h:NInv c0 g i r) (hv:∃ x,x∈(confP r.log).1.voters):∃ b,CutAt c0 (g.full i) r.log b:=by
 rcases h.log with ⟨h1,-⟩ | ⟨b,κ,h1,-⟩
 ·
  obtain⟨x,hx⟩:=hv
  rw[h1.conf_] at hx;cases hx
 ·
  exact⟨b,h1⟩
theorem St.late (h:St c0 g i n) (m:Msg):St c0 g i (n.late m):=by
 unfold Node.late
 split
 ·
  exact h.post (MInv.no bare (.inl rfl) rfl)
 ·
  split
  ·
   exact h.post (MInv.no bare (.inr rfl) rfl)
  ·
   exact h
theorem St.preVote (h:St c0 g i n) (m:Msg):St c0 g i (n.preVote m):=h.send (MInv.other bare (.inl (by show (2:Int)<3;decide)))
theorem St.question (h:St c0 g i n) (k t:Int) (hm:∀ to:Int,MInv c0 g { Msg.zero with kind:=k,frm:=n.s.id,to:=to,term:=t,index:=(lastP n.s.log).1,logTerm:=(lastP n.s.log).2 }):St c0 g i (n.question k t):=⟨h.inv,h.node,fun x hx=>by
 rcases List.mem_append.1 hx with hx | hx
 ·
  exact h.msgs x hx
 ·
  obtain⟨to,-,rfl⟩:=List.mem_map.1 hx
  exact hm to⟩
theorem tAt_last {l:List Entry} {a:Entry} (h:l.getLast?=some a):tAt l l.length=a.term:=by
 unfold tAt
 rw[if_neg (fun hz=>by rw[List.eq_nil_of_length_eq_zero hz] at h;cases h),← List.getLast?_eq_getElem?,h];rfl
theorem NInv.one {r:Raft} (h:NInv c0 g i r) (hI:Inv c0 g) {e:Entry} (he:e∈g.full i):2≤e.term:=by
 obtain⟨k,hk,rfl⟩:=List.getElem_of_mem he
 have h1:=h.sits k _ (List.getElem?_eq_getElem hk)
 exact hI.one _ fun hz=>by
  rw[hz] at h1
  have:=List.prefix_nil.1 h1
  rw[List.take_eq_nil_iff] at this
  rcases this with h | h
  ·
   omega
  ·
   rw[h] at hk;cases hk
theorem St.vote (h:St c0 g i n) {m:Msg} (hm:MInv c0 g m) (hk:m.kind=3) (ht:m.term=n.s.hard.term):To c0 g i (n.vote m):=by
 obtain⟨h1,h2,h3,h4⟩:=hm.asks hk
 unfold Node.vote
 dsimp only
 have hp:∀ (g':G) (q:Node) (yes:Bool),St c0 g' i q→q.s.hard.term=n.s.hard.term→(yes=true→g'.vote i n.s.hard.term=m.frm)→St c0 g' i (q.post { Msg.zero with kind:=4,to:=m.frm,reject:= !yes }):=fun g' q yes hq e1 e2=>by
  refine hq.post (MInv.is4 bare rfl fun z=>?_)
  have hy:yes=true:=by cases yes<;>first | rfl | (cases z)
  refine⟨?_,h2⟩
  show g'.vote q.s.id q.s.hard.term=m.frm
  rw[hq.node.id,e1];exact e2 hy
 obtain⟨yes,hyes⟩:∃ yes,yes=(decide (n.s.hard.vote=0∨n.s.hard.vote=m.frm) && decide (n.s.role=1) && newerP n.s.log m.index m.logTerm):=⟨_,rfl⟩
 rw[←hyes]
 cases yes with
 | false=>exact (hp g n false h rfl (fun z=>by cases z)).to
 | true =>
  have hy:=hyes.symm
  simp only[Bool.and_eq_true,decide_eq_true_eq] at hy
  obtain⟨⟨hv,hr⟩,hnew⟩:=hy
  simp only[if_true]
  by_cases hv0:n.s.hard.vote=m.frm
  ·
   refine (hp g ⟨{ n.s with hard:={ n.s.hard with vote:=m.frm },elapsed:=0 },n.o⟩ true ⟨h.inv,h.node.same rfl ?_ rfl rfl rfl rfl,h.msgs⟩ rfl fun _=>by rw[h.node.vote];exact hv0).to
   show ({ n.s.hard with vote:=m.frm }:Hard)=n.s.hard
   rw[←hv0]
  have hv:n.s.hard.vote=0:=hv.resolve_right hv0
  have hz:g.vote i n.s.hard.term=0:=by rw[h.node.vote];exact hv
  have hnw:newer Entry.term (g.clog m.frm n.s.hard.term) (g.full i):=by
   rw[ht] at h3 h4
   rcases h.node.log with ⟨-,h5,-⟩ | ⟨b,κ,h5,-⟩
   ·
    exact .inl h5
   ·
    unfold newerP at hnew
    rw[h5.last h.node.idx] at hnew
    simp only at hnew
    cases ha:(g.full i).getLast? with
    | none=>exact .inl (List.getLast?_eq_none_iff.1 ha)
    | some a =>
     have h6:=tAt_last ha
     have h7:=h.node.one h.inv (List.mem_of_getLast? ha)
     rw[h6,h4,h3] at hnew
     cases hb:(g.clog m.frm n.s.hard.term).getLast? with
     | none =>
      have h8:=List.getLast?_eq_none_iff.1 hb
      rw[h8] at hnew
      have h9:0<(g.full i).length:=List.length_pos_iff.2 fun z=>by rw[z] at ha;cases ha
      simp only[tAt,List.length_nil,if_true] at hnew
      split at hnew
      ·
       have:=of_decide_eq_true hnew;omega
      ·
       have:=of_decide_eq_true hnew;omega
     | some x =>
      rw[tAt_last hb] at hnew
      refine .inr ⟨a,x,ha,hb,?_⟩
      split at hnew
      ·
       exact .inl (of_decide_eq_true hnew)
      ·
       rename_i hne
       have:=of_decide_eq_true hnew
       exact .inr ⟨by omega,by omega⟩
  obtain⟨hI,hG⟩:=h.inv.cast (c:=m.frm) (v:=g.full i) hz h2 h.node.sits (.inr ⟨ht▸h1,hnw⟩) fun t' k h0 hk ht'=>by
   obtain⟨-,h6⟩:=h.node.acked t' k h0 hk
   exact h6
  refine⟨_,hG.mono (Nat.zero_le _),hp _ ⟨{ n.s with hard:={ n.s.hard with vote:=m.frm },elapsed:=0 },n.o⟩ true ⟨hI,?_,fun x hx=>(h.msgs x hx).grow_ h.inv hG⟩ rfl fun _=>if_pos ⟨rfl,rfl⟩⟩
  refine⟨h.node.id,h.node.pos,hG.sits h.node.sits,h.node.idx,h.node.low,h.node.log,h.node.real,h.node.pre,if_pos ⟨rfl,rfl⟩,fun T hT=>?_,h.node.acked,fun z=>?_,fun z=>?_⟩
  ·
   refine (if_neg fun z=>?_).trans (h.node.later T hT)
   have:=z.2;simp only at hT;omega
  ·
   exact absurd (hr.symm.trans z) (by decide)
  ·
   exact absurd (hr.symm.trans z) (by decide)
end
end Go.Lw.Safe
namespace Go.Lw.Safe
section
variable {c0:Conf} {g g' g'':G} {i:Int} {n n' n'':Node}
theorem Comm.sub {T:Int} {l m:List Entry} (h:Comm g T l) (hm:m <+: l):Comm g T m:=by
 rcases h with rfl | ⟨t,k,n,h1,h2,h3⟩
 ·
  exact .inl (List.prefix_nil.1 hm)
 ·
  exact .inr ⟨t,k,n,h1,h2,hm.trans h3⟩
theorem take_pre {l:List Entry} {a b:Nat} (h:a≤b):l.take a <+: l.take b:=by
 rw[show l.take a=(l.take b).take a by rw[List.take_take,Nat.min_eq_left h]]
 exact List.take_prefix _ _
theorem NInv.leads {r:Raft} (h:NInv c0 g i r) (hr:r.role=4):∃ b κ:Nat,CutAt c0 (g.full i) r.log b∧r.hard.commit=1+κ∧b≤κ∧κ≤(g.full i).length∧Comm g r.hard.term ((g.full i).take κ)∧1≤r.hard.term:=by
 rcases h.log with ⟨h1,h2,-⟩ | h1
 ·
  exact absurd h2 (h.lead hr).2.2.1
 ·
  exact h1
theorem St.piece (h:St c0 g i n) (hr:n.s.role=4) (to frm:Int):St c0 g i (n.piece to frm):=by
 unfold Node.piece
 split
 ·
  rename_i hz
  obtain⟨b,κ,h1,h2,h3,h4,h5,h6⟩:=h.node.leads hr
  obtain⟨l1,l2,l3,-⟩:=h.node.lead hr
  have e:pieceP n.s.log.base frm=({ Msg.zero with kind:=7,index:=n.s.log.base.index,logTerm:=n.s.log.base.term,conf:=n.s.log.base.conf,hint:=frm,data:=(n.s.log.base.data.drop frm.toNat).take 64,done:=decide ((n.s.log.base.data.drop frm.toNat).length≤64) },0):=by
   unfold pieceP at hz ⊢
   split
   ·
    rename_i hc;rw[if_pos hc] at hz;cases hz
   ·
    rfl
  rw[e]
  refine h.post (MInv.is7 h.inv rfl ⟨rfl,by show ((n.s.log.base.data.drop frm.toNat).take 64).length≤64;rw[List.length_take];omega⟩ ⟨b,?_⟩)
  show g.hist n.s.hard.term≠[]∧b≤(g.hist n.s.hard.term).length∧n.s.log.base.index=1+b∧n.s.log.base.term=tAt (g.hist n.s.hard.term) b∧n.s.log.base.conf=cOf c0 ((g.hist n.s.hard.term).take b)∧Comm g n.s.hard.term ((g.hist n.s.hard.term).take b)
  rw[l2]
  exact⟨l3,h1.le,h1.index,h1.term,h1.conf,h5.sub (take_pre h3)⟩
 ·
  exact h
theorem St.feed (h:St c0 g i n) (hr:n.s.role=4) {p:Peer} (hp:p.next≤2+(g.full i).length):St c0 g i (n.feed p):=by
 unfold Node.feed
 split
 ·
  exact h.piece hr _ _
 ·
  rename_i hb
  obtain⟨b,κ,h1,h2,h3,h4,h5,h6⟩:=h.node.leads hr
  obtain⟨l1,l2,l3,-⟩:=h.node.lead hr
  have hi:=h1.index
  refine h.post (MInv.is5 h.inv rfl ⟨?_,rfl,rfl⟩ ⟨(p.next-2).toNat,κ,?_⟩)
  ·
   show (sliceP n.s.log p.next 8).1.length≤8
   unfold sliceP
   split
   ·
    exact Nat.zero_le _
   ·
    rw[List.length_take];omega
  show g.hist n.s.hard.term≠[]∧(p.next-2).toNat≤(g.hist n.s.hard.term).length∧p.next-1=1+((p.next-2).toNat:Int)∧(termP n.s.log (p.next-1)).1=tAt (g.hist n.s.hard.term) (p.next-2).toNat∧(sliceP n.s.log p.next 8).1 <+: (g.hist n.s.hard.term).drop (p.next-2).toNat∧n.s.hard.commit=1+(κ:Int)∧κ≤(g.hist n.s.hard.term).length∧Comm g n.s.hard.term ((g.hist n.s.hard.term).take κ)
  rw[l2]
  have hx:=h1.term_at h.node.idx (k:=(p.next-2).toNat) (by omega) (by omega)
  rw[show (1:Int)+((p.next-2).toNat:Int)=p.next-1 by omega] at hx
  refine⟨l3,by omega,by omega,by rw[hx],?_,h2,h4,h5⟩
  unfold sliceP
  split
  ·
   exact List.nil_prefix
  ·
   have hpl:=(h1.runX h.node.idx).place p.next
   have hl:=h1.len
   rw[h1.entries,List.drop_drop,show b+placeP n.s.log p.next=(p.next-2).toNat by omega]
   exact List.take_prefix _ _
theorem St.feeds {l:List Peer}:∀ {n:Node},St c0 g i n→n.s.role=4→(∀ p∈l,p.next≤2+(g.full i).length)→St c0 g i (n.feeds l):=by
 induction l with
 | nil=>exact fun h _ _=>h
 | cons p l ih =>
  intro n h hr hp
  exact ih (h.feed hr (hp p (List.mem_cons_self ..))) (by rw[Node.feed_s];exact hr) (fun q hq=>hp q (List.mem_cons_of_mem _ hq))
theorem St.spread (h:St c0 g i n) (hr:n.s.role=4∨n.s.peers=[]):St c0 g i n.spread:=by
 unfold Node.spread
 rcases hr with hr | hr
 ·
  exact h.feeds hr fun p hp=>(((h.node.lead hr).2.2.2.2 p hp).2.2)
 ·
  rw[hr];exact h
theorem St.meet (h:St c0 g i n) (hr:n.s.role=4) {x:Int} (hx:x≤2+(g.full i).length):St c0 g i (n.meet x):=by
 obtain⟨l1,l2,l3,l4,l5⟩:=h.node.lead hr
 refine⟨h.inv,{ h.node with lead:=fun _=>⟨l1,l2,l3,l4,fun p hp=>?_⟩,cand:=fun z=>absurd (hr.symm.trans z) (by decide) },h.msgs⟩
 obtain⟨o,-,rfl⟩:=List.mem_map.1 hp
 unfold Node.peerOf
 cases hf:n.s.peers.find? fun p=>decide (p.node=o) with
 | none=>exact⟨Int.le_refl _,by show (0:Int)≤1+_;omega,hx⟩
 | some q=>exact l5 q (List.mem_of_find?_eq_some hf)
theorem match_le {l:List Peer} {x c:Int} (h:c≤matchP l x) (h0:0<c):∃ p∈l,p.node=x∧c≤p.mat:=by
 have h1:=fold_best (fun p:Peer=>p.node==x) (·.mat) l 0
 rcases h1.2.2 with h2 | ⟨p,hp,h3,h4⟩
 ·
  have:matchP l x=0:=h2
  omega
 ·
  refine⟨p,hp,by simpa using h3,?_⟩
  have:p.mat=matchP l x:=h4
  omega
theorem com_maj (h0:0<n.com):Maj (confP n.s.log).1 fun j=>∃ p∈n.s.peers++[⟨n.s.id,0,n.last⟩],p.node=j∧n.com≤p.mat:=by
 have hk:n.comK n.com:=by
  unfold Node.com at h0 ⊢
  split
  ·
   rename_i hk;exact hk.choose_spec
  ·
   rename_i hk;rw[dif_neg hk] at h0;omega
 rcases hk with ⟨-,h1⟩ | ⟨h1,h2,h3,-⟩
 ·
  omega
 ·
  refine⟨(uniq n.voters).filter fun v=>decide (n.com≤matchP (n.s.peers++[⟨n.s.id,0,n.last⟩]) v),?_,fun j hj=>match_le (of_decide_eq_true (List.mem_filter.1 hj).2) h0⟩
  have hne:0<(uniq n.voters).length:=by
   rcases Nat.eq_zero_or_pos (uniq n.voters).length with hz | hz
   ·
    rw[List.eq_nil_of_length_eq_zero hz] at h1;exact absurd rfl h1
   ·
    exact hz
  rw[List.length_map,List.countP_map] at h3
  show hasP (uniq n.voters) _=true
  simp only[hasP,Bool.and_eq_true,decide_eq_true_eq]
  refine⟨hne,Int.le_trans h3 (Int.ofNat_le.2 ?_)⟩
  rw[List.countP_eq_length_filter,List.countP_eq_length_filter]
  refine Nat.le_of_eq (congrArg List.length (List.filter_congr fun x hx=>?_))
  simp[hx]
theorem St.count (h:St c0 g i n) (hr:n.s.role=4):∃ g',Grow i 0 g g'∧St c0 g' i n.count∧(n.count.s.role=4∨n.count.s.peers=[])∧g'.full=g.full∧n.count.s.log=n.s.log:=by
 by_cases hs:n.com≤n.s.hard.commit∨(termP n.s.log n.com).1≠n.s.hard.term
 ·
  rw[count_stay hs];exact⟨g,Grow.refl i g,h,.inl hr,rfl,rfl⟩
 obtain⟨b,κ,h1,h2,h3,h4,h5,h6⟩:=h.node.leads hr
 obtain⟨l1,l2,l3,l4,l5⟩:=h.node.lead hr
 have hT:=h.inv.one n.s.hard.term (by rw[l2];exact l3)
 have hc1:n.s.hard.commit<n.com:=by omega
 have hc2:(termP n.s.log n.com).1=n.s.hard.term:=Classical.byContradiction fun z=>hs (.inr z)
 obtain⟨k,k1,k2,k3,k4⟩:=h1.term_found h.node.idx (termP_found (l:=n.s.log) (i:=n.com) (by omega))
 rw[hc2] at k4
 have hlast:=h1.last h.node.idx
 have hk0:0<k:=by omega
 have hmaj:Maj (cOf c0 ((g.hist n.s.hard.term).take (g.full i).length)) fun j=>k≤g.ack j n.s.hard.term:=by
  rw[l2,List.take_length,← h1.conf_]
  refine (com_maj (n:=n) (by omega)).mono fun j hj=>?_
  obtain⟨p,hp,e1,e2⟩:=hj
  rcases List.mem_append.1 hp with hp | hp
  ·
   have:=(l5 p hp).2.1
   rw[e1] at this;omega
  ·
   rw[List.mem_singleton.1 hp] at e1 e2
   have:j=i:=by rw[←e1];exact h.node.id
   rw[this,l4];exact k3
 have hek:∃ e,(g.hist n.s.hard.term)[k-1]?=some e∧e.term=n.s.hard.term:=by
  obtain⟨e,he⟩:=get_some (a:=g.full i) (k:=k-1) (by omega)
  refine⟨e,by rw[l2];exact he,?_⟩
  unfold tAt at k4
  rw[if_neg (by omega),he] at k4
  exact k4.symm
 obtain⟨hI,hG⟩:=h.inv.commit hk0 k3 (by rw[l2];exact Nat.le_refl _) hek hmaj
 have hst:St c0 (g.commit n.s.hard.term k (g.full i).length) i (n.wCommit n.com):=by
  refine⟨hI,⟨h.node.id,h.node.pos,h.node.sits,h.node.idx,h.node.low,.inr ⟨b,k,h1,k1,by omega,k3,.inr ⟨n.s.hard.term,k,(g.full i).length,.inr ⟨rfl,rfl,rfl⟩,Int.le_refl _,?_⟩,h6⟩,h.node.real,h.node.pre,h.node.vote,h.node.later,h.node.acked,h.node.lead,h.node.cand⟩,fun m hm=>(h.msgs m hm).grow_ h.inv hG⟩
  show (g.full i).take k <+: (g.hist n.s.hard.term).take k
  rw[l2];exact List.prefix_rfl
 rw[count_go hs]
 split
 ·
  exact⟨_,hG,hst.follow _ _,.inr rfl,rfl,rfl⟩
 ·
  exact⟨_,hG,hst,.inl hr,rfl,rfl⟩
theorem lead_put {r r':Raft} (hI:Inv c0 g) (h:NInv c0 g i r) {x:Entry} {b:Nat} (hcut:CutAt c0 (g.full i) r.log b) (htiny:Tiny x) (hx:x.index=(g.full i).length+2) (ht:x.term=r.hard.term)
  (hold:(g.hist r.hard.term=g.full i∧g.full i≠[]∧g.owner r.hard.term=i)∨(g.hist r.hard.term=[]∧2≤r.hard.term∧(∀ e∈g.full i,e.term<r.hard.term)∧g.vote i r.hard.term=i∧Elect Entry.term cfE c0 Maj g.toRec r.hard.term (g.full i)∧Maj (cOf c0 (g.full i)) fun j=>g.vote j r.hard.term=i))
  (hch:∀ c,cfE x=some c→∃ k n,g.ev r.hard.term k n∧n≤(g.full i).length∧flat cfE (g.full i) k (g.full i).length∧next (cOf c0 (g.full i)) c∧g.hist r.hard.term=g.full i)
  (e1:r'.id=r.id) (e2:r'.hard=r.hard) (e3:r'.log=⟨r.log.base,r.log.entries++[x]⟩) (e4:r'.role=4) (e5:∀ p∈r'.peers,0≤p.mat∧p.mat≤1+g.ack p.node r.hard.term∧p.next≤2+(g.full i).length) :
  ∃ g',Grow i 1 g g'∧Inv c0 g'∧NInv c0 g' i r'∧g'.full i=g.full i++[x]:=by
 have hT:2≤r.hard.term:=by
  rcases hold with ⟨a,b,-⟩ | ⟨-,a,-⟩
  ·
   exact hI.one _ (by rw[a];exact b)
  ·
   exact a
 have hold2:(g.hist r.hard.term=g.full i∧g.full i≠[]∧g.owner r.hard.term=i)∨(g.hist r.hard.term=[]∧(∀ e∈g.full i,e.term<r.hard.term)∧g.vote i r.hard.term=i∧Elect Entry.term cfE c0 Maj g.toRec r.hard.term (g.full i)∧Maj (cOf c0 (g.full i)) fun j=>g.vote j r.hard.term=i):=by
  rcases hold with h | ⟨a,-,b⟩
  ·
   exact .inl h
  ·
   exact .inr ⟨a,b⟩
 obtain⟨hI1,hG1⟩:=hI.put (i:=i) (x:=x) h.sits h.idx hx ht htiny hT h.low h.pos hold2 hch
 have hHT:(g.put i r.hard.term (g.full i++[x])).hist r.hard.term=g.full i++[x]:=if_pos rfl
 have hack:g.ack i r.hard.term≤(g.full i).length+1:=by
  have:=hI.acks i r.hard.term
  rcases hold with ⟨a,-⟩ | ⟨a,-⟩
  ·
   rw[a] at this;omega
  ·
   rw[a] at this;simp at this;omega
 obtain⟨hI2,hG2⟩:=hI1.told (i:=i) (T:=r.hard.term) (a:=(g.full i).length+1) (F:=g.full i++[x]) hack (by rw[hHT];simp) (fun t ht=>h.later t ht)
 have hG:=hG1.trans hG2
 have hF:((g.put i r.hard.term (g.full i++[x])).told i r.hard.term ((g.full i).length+1) (g.full i++[x])).full i=g.full i++[x]:=if_pos rfl
 have hA:((g.put i r.hard.term (g.full i++[x])).told i r.hard.term ((g.full i).length+1) (g.full i++[x])).ack i r.hard.term=(g.full i).length+1:=if_pos ⟨rfl,rfl⟩
 have hO:((g.put i r.hard.term (g.full i++[x])).told i r.hard.term ((g.full i).length+1) (g.full i++[x])).owner r.hard.term=i:=if_pos rfl
 generalize hgg:(g.put i r.hard.term (g.full i++[x])).told i r.hard.term ((g.full i).length+1) (g.full i++[x])=g2 at *
 have hH2:g2.hist r.hard.term=g.full i++[x]:=by rw[←hgg];exact hHT
 have hV:∀ t,g2.vote i t=g.vote i t:=fun t=>by rw[←hgg];rfl
 have hAo:∀ t,t≠r.hard.term→g2.ack i t=g.ack i t:=fun t hne=>by rw[←hgg];exact if_neg fun z=>hne z.2
 refine⟨g2,hG,hI2,⟨e1.trans h.id,h.pos,?_,?_,?_,?_,fun _=>⟨b,?_⟩,fun z=>absurd (e4.symm.trans z) (by decide),?_,fun T hlt=>?_,fun t k h0 hk=>?_,fun _=>?_,fun z=>absurd (e4.symm.trans z) (by decide)⟩,hF⟩
 ·
  rw[hF]
  intro k e hk
  rcases get_snoc hk with hk | ⟨rfl,rfl⟩
  ·
   rw[List.take_append_of_le_length (by have:=get_lt hk;omega)]
   exact hG.sits h.sits k e hk
  ·
   rw[ht,hH2,List.take_of_length_le (by simp)];exact List.prefix_rfl
 ·
  rw[hF]
  intro k e hk
  rcases get_snoc hk with hk | ⟨rfl,rfl⟩
  ·
   exact h.idx k e hk
  ·
   exact hx
 ·
  rw[hF,e2]
  intro e he
  rcases List.mem_append.1 he with he | he
  ·
   exact h.low e he
  ·
   rw[List.mem_singleton.1 he,ht];exact Int.le_refl _
 ·
  rcases h.log with ⟨hb,hn,-⟩ | ⟨b',κ,c1,c2,c3,c4,c5,c6⟩
  ·
   have:=hcut.index;rw[hb.1] at this;omega
  ·
   refine .inr ⟨b',κ,by rw[hF,e3];exact c1.snoc x,by rw[e2];exact c2,c3,by rw[hF];simp;omega,?_,by rw[e2];exact c6⟩
   rw[hF,e2,List.take_append_of_le_length c4]
   exact hG.comm hI c5
 ·
  rw[hF,e3];exact hcut.snoc x
 ·
  rw[e2,hV];exact h.vote
 ·
  rw[e2] at hlt;rw[hV];exact h.later T hlt
 ·
  rw[hF,e2]
  by_cases hTt:t=r.hard.term
  ·
   subst hTt
   rw[hA] at hk
   exact⟨Int.le_refl _,.inl (by rw[hH2];exact List.take_prefix _ _)⟩
  ·
   rw[hAo t hTt] at hk
   obtain⟨a1,a2⟩:=h.acked t k h0 hk
   refine⟨a1,?_⟩
   rw[hG.take (Nat.le_trans hk (hI.acks i t))]
   rcases a2 with a2 | ⟨u,a3,a4,a5⟩
   ·
    exact .inl (a2.trans (List.prefix_append _ _))
   ·
    exact .inr ⟨u,a3,a4,hG.parts a5⟩
 ·
  rw[e2,hF,hO,hA,hH2]
  refine⟨rfl,rfl,by simp,by simp,fun p hp=>?_⟩
  obtain⟨a0,a1,a2⟩:=e5 p hp
  have:=hG.ack p.node r.hard.term
  exact⟨a0,by omega,by simp;omega⟩
end
end Go.Lw.Safe
namespace Go.Lw.Safe
section
variable {c0:Conf} {g g' g'':G} {i:Int} {n n' n'':Node}
structure Bd (r:Raft):Prop where
 t0:0≤r.hard.term
 term:r.hard.term<4611686018427387904
 last:(lastP r.log).1<4611686018427387904
theorem CutAt.up {F:List Entry} {L:Log} {b:Nat} (h:CutAt c0 F L b) (hi:Idx F) (hl:(lastP L).1<4611686018427387904):up1 (lastP L).1=F.length+2:=by
 have:=congrArg Prod.fst (h.last hi)
 simp only at this
 rw[up1_eq (by omega) (by omega)];omega
theorem put_end {x:Entry} {G0:G} (hG:Grow i 1 g G0) (h:St c0 G0 i (n.putE x)) (hr:n.s.role=4) {y:Int} (hy:y≤2+(G0.full i).length):To c0 g i ((if x.kind=3 then (n.putE x).meet y else n.putE x).count).spread:=by
 have h2:St c0 G0 i (if x.kind=3 then (n.putE x).meet y else n.putE x):=by
  split
  ·
   exact h.meet hr hy
  ·
   exact h
 have hr2:(if x.kind=3 then (n.putE x).meet y else n.putE x).s.role=4:=by split<;>exact hr
 obtain⟨g',h3,h4,h5,-,-⟩:=h2.count hr2
 exact⟨g',hG.trans h3,h4.spread h5⟩
theorem put_eq (e:Entry):n.put e=((if ({ e with index:=up1 n.last,term:=n.s.hard.term }:Entry).kind=3 then (n.putE { e with index:=up1 n.last,term:=n.s.hard.term }).meet (up1 n.last) else n.putE { e with index:=up1 n.last,term:=n.s.hard.term }).count).spread:=rfl
theorem St.put (h:St c0 g i n) (hr:n.s.role=4) (hb:(lastP n.s.log).1<4611686018427387904) {e:Entry} (hd:e.data.length≤100) (hcz:e.kind≠3→e.conf=⟨[],[]⟩) (hch:e.kind=3→∃ k n',g.ev n.s.hard.term k n'∧n'≤(g.full i).length∧flat cfE (g.full i) k (g.full i).length∧next (cOf c0 (g.full i)) e.conf):To c0 g i (n.put e):=by
 obtain⟨b,κ,h1,h2,h3,h4,h5,h6⟩:=h.node.leads hr
 obtain⟨l1,l2,l3,l4,l5⟩:=h.node.lead hr
 have hu:up1 n.last=(g.full i).length+2:=h1.up h.node.idx hb
 have htiny:Tiny { e with index:=up1 n.last,term:=n.s.hard.term }:=by
  by_cases hk:e.kind=3
  ·
   obtain⟨k,n',-,-,-,a,b,hab⟩:=hch hk
   have hr:=(apply_right hab).1
   exact⟨hd,(check_seven hr).1,(check_seven hr).2,fun _=>hr⟩
  ·
   have hcf:=hcz hk
   exact⟨hd,by show e.conf.voters.length≤7;rw[hcf];exact Nat.zero_le _,by show e.conf.learners.length≤7;rw[hcf];exact Nat.zero_le _,fun z=>absurd z hk⟩
 obtain⟨g',hG,hI,hN,hF⟩:=lead_put (r':=(n.putE { e with index:=up1 n.last,term:=n.s.hard.term }).s) h.inv h.node h1 (x:={ e with index:=up1 n.last,term:=n.s.hard.term }) htiny hu rfl (.inl ⟨l2,l3,l1⟩) (fun c hc=>by
  unfold cfE at hc
  split at hc
  ·
   rename_i hk
   cases hc
   obtain⟨k,n',a1,a2,a3,a4⟩:=hch hk
   exact⟨k,n',a1,a2,a3,a4,l2⟩
  ·
   cases hc) rfl rfl rfl hr l5
 rw[put_eq]
 refine put_end hG ⟨hI,hN,fun m hm=>(h.msgs m hm).grow_ h.inv hG⟩ hr ?_
 rw[hu,hF];simp;omega
theorem tally_maj (ht:n.tally=1):Maj (confP n.s.log).1 fun j=>(j,true)∈n.s.ballots:=by
 unfold Node.tally tallyP at ht
 split at ht
 ·
  rename_i hh
  refine⟨(uniq n.voters).filter (says n.s.ballots true),?_,fun j hj=>?_⟩
  ·
   show hasP (uniq n.voters) _=true
   simp only[hasP,Bool.and_eq_true,decide_eq_true_eq]
   refine⟨hh.1,Int.le_trans hh.2 (Int.ofNat_le.2 ?_)⟩
   rw[List.countP_eq_length_filter,List.countP_eq_length_filter]
   refine Nat.le_of_eq (congrArg List.length (List.filter_congr fun x hx=>?_))
   simp[hx]
  ·
   have h1:=(List.mem_filter.1 hj).2
   unfold says Lw.vote at h1
   cases hf:n.s.ballots.find? (isOf j) with
   | none=>rw[hf] at h1;simp at h1
   | some p =>
    rw[hf] at h1
    have h2:p.2=true:=by simpa using h1
    have h3:p.1=j:=by have:=List.find?_some hf;simpa [isOf] using this
    have h4:=List.mem_of_find?_eq_some hf
    rw[show p=(j,true) from Prod.ext h3 h2] at h4
    exact h4
 ·
  split at ht<;>simp at ht
theorem St.lead (h:St c0 g i n) (hr:n.s.role=3) (hb:(lastP n.s.log).1<4611686018427387904) (ht:n.tally=1):To c0 g i n.lead:=by
 obtain⟨v1,v2,v3,v4,v5,v6⟩:=h.node.cand hr
 obtain⟨b,h1⟩:=h.node.real (by rw[hr];decide)
 have hu:up1 n.last=(g.full i).length+2:=h1.up h.node.idx hb
 have hm:=tally_maj ht
 rw[h1.conf_] at hm
 have hmv:Maj (cOf c0 (g.full i)) fun j=>g.vote j n.s.hard.term=i:=hm.mono v6
 have hmeets:=maj_meets
 -- nobody leads in this term yet
 have hnone:g.hist n.s.hard.term=[]:=by
  refine Classical.byContradiction fun hne=>v5 hne ?_
  obtain⟨-,-,l,e,r,a3,a4,a5,a6,a7⟩:=h.inv.own _ hne
  have hab:Able Entry.term cfE c0 Maj g.toRec n.s.hard.term (g.full i):=⟨h.node.sits,v4,hmv.mono fun j hj=>by
   have hj0:g.vote j n.s.hard.term≠0:=by rw[hj];exact h.node.pos
   obtain⟨-,b2,b3,b4⟩:=h.inv.votes j _ hj0
   rw[hj,v2] at b3
   refine⟨_,b2,b3,fun t k m hev hk htt=>?_⟩
   rcases b4 t k (h.inv.right.event t k m hev).1 hk htt with c1 | ⟨u,c1,c2,c3⟩
   ·
    exact .inl c1
   ·
    rcases Int.lt_or_eq_of_le c2 with c2 | c2
    ·
     exact .inr ⟨u,c1,c2,c3⟩
    ·
     subst c2
     exact absurd (h.inv.right.leads hmeets hne hev (Int.le_of_lt htt)) c3.not⟩
  obtain⟨j,j1,j2⟩:=h.inv.right.voter hmeets (a7.able h.inv.right hmeets) hab a6 hmv
  exact j1.symm.trans j2
 have hel:Elect Entry.term cfE c0 Maj g.toRec n.s.hard.term (g.full i):=⟨h.node.sits,v4,hmv.mono fun j hj=>by
  have hj0:g.vote j n.s.hard.term≠0:=by rw[hj];exact h.node.pos
  obtain⟨-,b2,b3,b4⟩:=h.inv.votes j _ hj0
  rw[hj,v2] at b3
  refine⟨hj0,_,b2,b3,fun t k h0 hk htt=>?_⟩
  rcases b4 t k h0 hk htt with c1 | ⟨u,c1,c2,c3⟩
  ·
   exact .inl c1
  ·
   rcases Int.lt_or_eq_of_le c2 with c2 | c2
   ·
    exact .inr ⟨u,c1,c2,c3⟩
   ·
    subst c2
    obtain⟨q,-,a,z,-,hz,-⟩:=c3
    rw[hnone] at hz;cases hz⟩
 obtain⟨m,hmdef⟩:∃ m:Node,m=Node.meet { n with s:={ n.s with role:=4,leader:=n.s.id,ballots:=[],elapsed:=0,beat:=0,transfer:=0,peers:=[] } } (up1 n.last):=⟨_,rfl⟩
 have hmr:m.s.role=4:=by rw[hmdef];rfl
 have hml:m.s.log=n.s.log:=by rw[hmdef];rfl
 have hmh:m.s.hard=n.s.hard:=by rw[hmdef];rfl
 have hmi:m.s.id=n.s.id:=by rw[hmdef];rfl
 have hmo:m.o=n.o:=by rw[hmdef];rfl
 have hmp:∀ p∈m.s.peers,0≤p.mat∧p.mat≤1+g.ack p.node n.s.hard.term∧p.next≤2+(g.full i).length:=fun p hp=>by
  rw[hmdef] at hp
  obtain⟨o,-,rfl⟩:=List.mem_map.1 hp
  exact⟨Int.le_refl _,by show (0:Int)≤1+_;omega,by show up1 n.last≤_;rw[hu];omega⟩
 have hmlast:m.last=n.last:=by unfold Node.last;rw[hml]
 obtain⟨g',hG,hI,hN,hF⟩:=lead_put (r':=(m.putE { (⟨0,0,1,[],⟨[],[]⟩⟩:Entry) with index:=up1 m.last,term:=m.s.hard.term }).s) h.inv h.node h1 (x:={ (⟨0,0,1,[],⟨[],[]⟩⟩:Entry) with index:=up1 m.last,term:=m.s.hard.term }) ⟨Nat.zero_le _,Nat.zero_le _,Nat.zero_le _,fun z=>(by cases (show (1:Int)=3 from z))⟩ (by rw[hmlast];exact hu) (by show m.s.hard.term=_;rw[hmh])
  (.inr ⟨hnone,v3,v4,v1,hel,hmv⟩) (fun c hc=>by unfold cfE at hc;rw[if_neg (by show ¬ (1:Int)=3;decide)] at hc;cases hc) hmi hmh (by show (⟨m.s.log.base,m.s.log.entries++_⟩:Log)=_;rw[hml]) hmr hmp
 have e:n.lead=m.put ⟨0,0,1,[],⟨[],[]⟩⟩:=by rw[hmdef];rfl
 rw[e,put_eq]
 refine put_end hG ⟨hI,hN,fun x hx=>(h.msgs x (by rw[←hmo];exact hx)).grow_ h.inv hG⟩ hmr ?_
 rw[hmlast,hu,hF];simp;omega
theorem NInv.t1 {r:Raft} (h:NInv c0 g i r) {b:Nat} (hc:CutAt c0 (g.full i) r.log b):1≤r.hard.term:=by
 rcases h.log with ⟨h1,-⟩ | ⟨b,κ,h1,h2,h3,h4,h5,h6⟩
 ·
  have:=hc.index;rw[h1.1] at this;omega
 ·
  exact h6
theorem St.stand (h:St c0 g i n) (hb:Bd n.s) {b:Nat} (hc:CutAt c0 (g.full i) n.s.log b):To c0 g i n.stand:=by
 have hu:up1 n.s.hard.term=n.s.hard.term+1:=up1_eq hb.t0 (by have:=hb.term;omega)
 have hz:g.vote i (n.s.hard.term+1)=0:=h.node.later _ (by omega)
 obtain⟨hI,hG⟩:=h.inv.cast (c:=i) (v:=g.full i) hz h.node.pos h.node.sits (.inl rfl) fun t k h0 hk ht=>by
  obtain⟨h1,h2⟩:=h.node.acked t k h0 hk
  rcases h2 with h2 | ⟨u,a1,a2,a3⟩
  ·
   exact .inl h2
  ·
   exact .inr ⟨u,a1,by omega,a3⟩
 obtain⟨m,hm⟩:∃ m:Node,m=Node.runs { n with s:={ n.s with hard:={ n.s.hard with term:=up1 n.s.hard.term,vote:=n.s.id } } } 3:=⟨_,rfl⟩
 have hmt:m.s.hard.term=n.s.hard.term+1:=by rw[hm];exact hu
 have hmr:m.s.role=3:=by rw[hm];rfl
 have hid:=h.node.id
 have h1t:=h.node.t1 hc
 have hst:St c0 (g.cast i (n.s.hard.term+1) i (g.full i)) i m:=by
  refine⟨hI,⟨by rw[hm];exact hid,h.node.pos,hG.sits h.node.sits,h.node.idx,fun e he=>by have:=h.node.low e he;omega,?_,fun _=>⟨b,by rw[hm];exact hc⟩,fun z=>(by rw[hmr] at z;cases z),?_,fun T hT=>?_,fun t k h0 hk=>?_,fun z=>(by rw[hmr] at z;cases z),fun _=>?_⟩,fun x hx=>(h.msgs x (by rw[hm] at hx;exact hx)).grow_ h.inv hG⟩
  ·
   rcases h.node.log with ⟨h1,-⟩ | ⟨b',κ,h1,h2,h3,h4,h5,h6⟩
   ·
    have:=hc.index;rw[h1.1] at this;omega
   ·
    exact .inr ⟨b',κ,by rw[hm];exact h1,by rw[hm];exact h2,h3,h4,(hG.comm h.inv h5).mono (by omega),by omega⟩
  ·
   rw[hmt,hm];exact (if_pos ⟨rfl,rfl⟩:_=i).trans hid.symm
  ·
   rw[hmt] at hT
   exact (if_neg fun z=>by have:=z.2;omega).trans (h.node.later T (by omega))
  ·
   obtain⟨h1,h2⟩:=h.node.acked t k h0 hk
   refine⟨by omega,?_⟩
   rcases h2 with h2 | ⟨u,a1,a2,a3⟩
   ·
    exact .inl h2
   ·
    exact .inr ⟨u,a1,by omega,hG.parts a3⟩
  ·
   rw[hmt]
   refine⟨if_pos ⟨rfl,rfl⟩,if_pos ⟨rfl,rfl,rfl⟩,by omega,fun e he=>by have:=h.node.low e he;omega,fun hne ho=>?_,fun j hj=>?_⟩
   ·
    obtain⟨-,a2,-⟩:=h.inv.own _ hne
    have ho':g.owner (n.s.hard.term+1)=i:=ho
    rw[ho',hz] at a2
    exact h.node.pos a2.symm
   ·
    rw[hm] at hj
    have:(j,true)=(n.s.id,true):=List.mem_singleton.1 hj
    cases this
    rw[hid];exact if_pos ⟨rfl,rfl⟩
 have hmb:(lastP m.s.log).1<4611686018427387904:=by rw[hm];exact hb.last
 have e:n.stand=if m.tally=1 then m.lead else m.question 3 m.s.hard.term:=by rw[hm];rfl
 rw[e]
 split
 ·
  rename_i ht
  obtain⟨g',a1,a2⟩:=hst.lead (by rw[hm];rfl) hmb ht
  exact⟨g',hG.trans a1,a2⟩
 ·
  refine⟨_,hG.mono (Nat.zero_le _),hst.question _ _ fun to=>MInv.is3 bare rfl ?_⟩
  have hml:m.s.log=n.s.log:=by rw[hm];rfl
  have hmi:m.s.id=i:=by rw[hm];exact hid
  show (g.cast i (n.s.hard.term+1) i (g.full i)).vote m.s.id m.s.hard.term=m.s.id∧m.s.id≠0∧(lastP m.s.log).1=1+(((g.cast i (n.s.hard.term+1) i (g.full i)).clog m.s.id m.s.hard.term).length:Int)∧(lastP m.s.log).2=tAt ((g.cast i (n.s.hard.term+1) i (g.full i)).clog m.s.id m.s.hard.term) _
  rw[hml,hmi,hmt]
  have e2:(g.cast i (n.s.hard.term+1) i (g.full i)).clog i (n.s.hard.term+1)=g.full i:=if_pos ⟨rfl,rfl,rfl⟩
  rw[e2,hc.last h.node.idx]
  exact⟨if_pos ⟨rfl,rfl⟩,h.node.pos,rfl,rfl⟩
end
end Go.Lw.Safe
namespace Go.Lw.Safe
section
variable {c0:Conf} {g g' g'':G} {i:Int} {n n' n'':Node}
theorem St.real (h:St c0 g i n) (hv:n.votes=true):∃ b,CutAt c0 (g.full i) n.s.log b:=h.node.cut ⟨_,of_decide_eq_true hv⟩
theorem St.outs (h:St c0 g i n) {o:Out} (e:o.msgs=n.o.msgs):St c0 g i ⟨n.s,o⟩:=⟨h.inv,h.node,fun m hm=>h.msgs m (e▸hm)⟩
theorem St.ask (h:St c0 g i n) (hb:Bd n.s) {b:Nat} (hc:CutAt c0 (g.full i) n.s.log b) (hv:n.votes=true):To c0 g i n.ask:=by
 have h2:St c0 g i (n.runs 2):=⟨h.inv,h.node.down rfl rfl ⟨by show (2:Int)≠3;decide,by show (2:Int)≠4;decide⟩ (fun _=>⟨b,hc⟩) (fun _=>by have:=of_decide_eq_true hv;unfold Node.voters at this;rw[hc.conf_,h.node.id] at this;exact this) rfl (.inl rfl),h.msgs⟩
 have e:n.ask=if (n.runs 2).tally=1 then (n.runs 2).stand else (n.runs 2).question 1 (up1 (n.runs 2).s.hard.term):=rfl
 rw[e]
 split
 ·
  exact h2.stand ⟨hb.t0,hb.term,hb.last⟩ hc
 ·
  exact (h2.question _ _ fun to=>MInv.other bare (.inl (by show (1:Int)<3;decide))).to
theorem St.tick (h:St c0 g i n) (hb:Bd n.s) (t:Int):To c0 g i (n.tick t):=by
 obtain⟨e,he⟩:∃ e,e=min (sup1 n.s.elapsed) (max n.s.elapsed 1073741824):=⟨_,rfl⟩
 have hw:St c0 g i (n.wElapsed e):=h.same rfl rfl rfl rfl rfl rfl
 by_cases hr:n.s.role≠4
 ·
  by_cases hv:max t 1≤e∧n.votes=true
  ·
   rw[Node.tick_ask e he hr hv]
   obtain⟨b,hc⟩:=h.real hv.2
   exact hw.ask ⟨hb.t0,hb.term,hb.last⟩ hc hv.2
  ·
   rw[Node.tick_no e he hr hv];exact hw.to
 ·
  have hr4:n.s.role=4:=Classical.byContradiction hr
  obtain⟨b,hbd⟩:∃ b,b=if max t 1≤e then ((n.wElapsed e).wElapsed 0).wTransfer 0 else n.wElapsed e:=⟨_,rfl⟩
  have hs:St c0 g i b∧b.s.role=4:=by
   rw[hbd];split
   ·
    exact⟨hw.same rfl rfl rfl rfl rfl rfl,hr4⟩
   ·
    exact⟨hw,hr4⟩
  rw[Node.tick_lead e he hr b hbd]
  split
  ·
   exact (St.spread (n:=(b.wBeat (sup1 b.s.beat)).wBeat 0) (hs.1.same rfl rfl rfl rfl rfl rfl) (.inl hs.2)).to
  ·
   exact (show St c0 g i (b.wBeat (sup1 b.s.beat)) from hs.1.same (r:=(b.wBeat (sup1 b.s.beat)).s) rfl rfl rfl rfl rfl rfl).to
theorem St.voted (h:St c0 g i n) (hb:Bd n.s) {m:Msg} (hm:MInv c0 g m) (hk:m.kind=4) (ht:m.term=n.s.hard.term) (hto:m.to=i):To c0 g i (n.voted m):=by
 unfold Node.voted
 split
 ·
  rename_i hr
  have h2:St c0 g i (n.addBallot m.frm (!m.reject)):=by
   refine⟨h.inv,{ h.node with lead:=fun z=>absurd (hr.symm.trans z) (by decide),cand:=fun _=>?_ },h.msgs⟩
   obtain⟨v1,v2,v3,v4,v5,v6⟩:=h.node.cand hr
   refine⟨v1,v2,v3,v4,v5,fun j hj=>?_⟩
   rcases List.mem_append.1 hj with hj | hj
   ·
    exact v6 j hj
   ·
    have e:=List.mem_singleton.1 hj
    have e1:j=m.frm:=congrArg Prod.fst e
    have e2:true = !m.reject:=congrArg Prod.snd e
    have:=hm.voted hk (by cases hx:m.reject with | false=>rfl | true=>rw[hx] at e2;cases e2)
    rw[e1]
    show g.vote m.frm n.s.hard.term=i
    rw[←ht,this.1,hto]
  unfold Node.stands
  dsimp only
  split
  ·
   rename_i htl
   exact h2.lead hr hb.last htl
  ·
   split
   ·
    exact (h2.follow _ _).to
   ·
    exact h2.to
 ·
  exact h.to
theorem St.preVoted (h:St c0 g i n) (hb:Bd n.s) (m:Msg):To c0 g i (n.preVoted m):=by
 unfold Node.preVoted
 split
 ·
  exact (h.follow _ _).to
 ·
  split
  ·
   rename_i hr
   have h2:St c0 g i (n.addBallot m.frm (!m.reject)):=⟨h.inv,{ h.node with lead:=fun z=>absurd (hr.1.symm.trans z) (by decide),cand:=fun z=>absurd (hr.1.symm.trans z) (by decide) },h.msgs⟩
   obtain⟨b,hc⟩:=h.node.real (by rw[hr.1];decide)
   unfold Node.stands
   dsimp only
   split
   ·
    exact h2.stand ⟨hb.t0,hb.term,hb.last⟩ hc
   ·
    split
    ·
     exact (h2.follow _ _).to
    ·
     exact h2.to
  ·
   exact h.to
theorem St.now (h:St c0 g i n) (hb:Bd n.s):To c0 g i n.now:=by
 unfold Node.now
 split
 ·
  rename_i hv
  obtain⟨b,hc⟩:=h.real hv.2
  exact h.stand hb hc
 ·
  exact h.to
theorem St.transfer (h:St c0 g i n) (hr:n.s.role=4) (to:Int):St c0 g i (n.transferTo to).1:=by
 unfold Node.transferTo
 split
 ·
  exact h
 ·
  rename_i p hp
  split
  ·
   exact h
  ·
   dsimp only
   have h2:St c0 g i ⟨{ n.s with transfer:=to,elapsed:=0 },n.o⟩:=h.same rfl rfl rfl rfl rfl rfl
   split
   ·
    exact h2.post (MInv.other bare (.inr (by show (7:Int)<9;decide)))
   ·
    exact h2.feed hr (((h.node.lead hr).2.2.2.2 p (List.mem_of_find?_eq_some hp)).2.2)
theorem St.asked (h:St c0 g i n) (hb:Bd n.s) (x:Inp) (hd:x.data.length≤100):To c0 g i (n.asked x).1:=by
 unfold Node.asked
 split
 ·
  exact h.to
 rename_i hr
 have hr4:n.s.role=4:=Classical.byContradiction hr
 split
 ·
  exact h.to
 split
 ·
  exact (h.transfer hr4 _).to
 dsimp only
 have h2:St c0 g i ⟨n.s,{ n.o with index:=up1 n.last,term:=n.s.hard.term }⟩:=h.outs rfl
 split
 ·
  split
  ·
   exact h.to
  ·
   rename_i hz
   refine h2.put hr4 hb.last (Nat.zero_le _) (fun z=>absurd rfl z) fun _=>?_
   have hz2:(n.changed x.chKind x.chNode).2=0:=Classical.byContradiction fun y=>hz y
   by_cases c1:n.s.hard.commit<(confP n.s.log).2
   ·
    rw[changed_busy c1] at hz2;cases hz2
   by_cases c2:(termP n.s.log n.s.hard.commit).1≠n.s.hard.term
   ·
    rw[changed_early c1 c2] at hz2;cases hz2
   have e:n.changed x.chKind x.chNode=applyP (confP n.s.log).1 x.chKind x.chNode:=by
    unfold Node.changed at hz2 ⊢
    rw[if_neg c1,if_neg c2] at hz2 ⊢
    split
    ·
     rename_i c3;rw[if_pos c3] at hz2;cases hz2
    ·
     rfl
   obtain⟨b,κ,h1,k1,k2,k3,k4,k5⟩:=h.node.leads hr4
   obtain⟨l1,l2,l3,-⟩:=h.node.lead hr4
   have hT:=h.inv.one n.s.hard.term (by rw[l2];exact l3)
   have htm:=h1.term_at h.node.idx k2 k3
   rw[←k1] at htm
   have htk:tAt (g.full i) κ=n.s.hard.term:=by
    have:=Classical.byContradiction fun y=>c2 y
    rw[htm] at this;exact this
   have hκ:κ≠0:=fun hz=>by rw[hz] at htk;simp only[tAt,if_true] at htk;omega
   have hlast:∃ y,(g.full i)[κ-1]?=some y∧y.term=n.s.hard.term:=by
    obtain⟨y,hy⟩:=get_some (a:=g.full i) (k:=κ-1) (by omega)
    refine⟨y,hy,?_⟩
    unfold tAt at htk
    rw[if_neg hκ,hy] at htk;exact htk
   obtain⟨y,hy,hyt⟩:=hlast
   rcases k4 with k4 | ⟨t,k,m,k6,k7,k8⟩
   ·
    have:=congrArg List.length k4
    rw[List.length_take,List.length_nil] at this;omega
   have hyt2:=(take_get (pre_get k8 (get_take hy (by omega)))).1
   have hle:=h.inv.right.le t y (List.mem_of_getElem? hyt2)
   have htT:t=n.s.hard.term:=by omega
   subst htT
   have hkκ:κ≤k:=by
    have:=k8.length_le
    rw[List.length_take,List.length_take] at this
    omega
   obtain⟨-,-,q3,-⟩:=h.inv.right.event _ _ _ k6
   rw[l2] at q3
   have hfl:=h1.conf_at h.node.idx k2 (by rw[k1] at c1;omega)
   refine⟨k,m,k6,q3,fun q a1 a2 z hz=>hfl q (by omega) a2 z hz,x.chKind,x.chNode,?_⟩
   show applyP (cOf c0 (g.full i)) x.chKind x.chNode=((n.changed x.chKind x.chNode).1,0)
   rw[←h1.conf_,← e]
   exact Prod.ext rfl hz2
 ·
  exact h2.put hr4 hb.last hd (fun _=>rfl) fun hz=>by cases (show (2:Int)=3 from hz)
theorem St.raise (h:St c0 g i n) (hr:n.s.role=4) {k:Nat} {q:Peer} (hq:0≤q.mat∧q.mat≤1+g.ack q.node n.s.hard.term∧q.next≤2+(g.full i).length):St c0 g i (n.raise k q):=by
 obtain⟨l1,l2,l3,l4,l5⟩:=h.node.lead hr
 refine⟨h.inv,{ h.node with lead:=fun _=>⟨l1,l2,l3,l4,fun p hp=>?_⟩,cand:=fun z=>absurd (hr.symm.trans z) (by decide) },h.msgs⟩
 rcases List.mem_or_eq_of_mem_set hp with hp | rfl
 ·
  exact l5 p hp
 ·
  exact hq
theorem St.grown (h:St c0 g i n) (hb:Bd n.s) {m:Msg} (hm:MInv c0 g m) (hk:m.kind=6) (ht:m.term=n.s.hard.term):To c0 g i (n.grown m):=by
 by_cases hno:n.s.role≠4∨n.peer m.frm=none∨n.last<m.index
 ·
  rw[grown_no hno];exact h.to
 have h0:n.s.role=4:=Classical.byContradiction fun z=>hno (.inl z)
 have h2:¬ n.last<m.index:=fun z=>hno (.inr (.inr z))
 obtain⟨q,hq⟩:∃ q,n.peer m.frm=some q:=by
  cases hp:n.peer m.frm with
  | none=>exact absurd (.inr (.inl hp)) hno
  | some q=>exact⟨q,rfl⟩
 obtain⟨k,hix⟩:=peer_find hq
 obtain⟨l1,l2,l3,l4,l5⟩:=h.node.lead h0
 obtain⟨b,κ,c1,-⟩:=h.node.leads h0
 have hlast:n.last=1+(g.full i).length:=congrArg Prod.fst (c1.last h.node.idx)
 have hlb:n.last<4611686018427387904:=hb.last
 obtain⟨q0,q1,q2⟩:=l5 q (List.mem_of_find?_eq_some hq)
 have hqn:q.node=m.frm:=of_decide_eq_true (List.find?_some (p:=fun p:Peer=>decide (p.node=m.frm)) hq)
 have hal:∀ j,(g.ack j n.s.hard.term:Int)≤(g.full i).length:=fun j=>by
  have:=h.inv.acks j n.s.hard.term
  rw[l2] at this;omega
 have ha:=hal q.node
 by_cases h3:m.reject=true
 ·
  rw[grown_rej h0 hq h2 h3 hix _ rfl]
  have hn:max (if m.hint<m.index then m.hint+1 else max m.index 1) (up1 q.mat)≤2+(g.full i).length:=by
   rw[up1_eq q0 (by omega)]
   split<;>omega
  exact ((h.raise h0 (q:={ q with next:=max (if m.hint<m.index then m.hint+1 else max m.index 1) (up1 q.mat) }) ⟨q0,q1,hn⟩).feed h0 hn).to
 ·
  rw[grown_yes h0 hq h2 h3 hix]
  have hmi:=hm.grown hk (by cases hx:m.reject with | false=>rfl | true=>exact absurd hx h3)
  rw[ht,← hqn] at hmi
  have hup:0≤(q.up m.index).mat∧(q.up m.index).mat≤1+g.ack (q.up m.index).node n.s.hard.term∧(q.up m.index).next≤2+(g.full i).length:=by
   show 0≤max q.mat m.index∧max q.mat m.index≤1+(g.ack q.node n.s.hard.term:Int)∧max q.next (up1 (max q.mat m.index))≤2+_
   rw[up1_eq (by omega) (by omega)]
   omega
  have hra:=h.raise h0 (k:=k) hup
  obtain⟨g',hG,hS,hR,hF,-⟩:=hra.count h0
  split
  ·
   exact⟨g',hG.mono (Nat.zero_le _),hS⟩
  ·
   rename_i hr4
   have hr4:(n.raise k (q.up m.index)).count.s.role=4:=Classical.byContradiction fun z=>hr4 z
   refine⟨g',hG.mono (Nat.zero_le _),?_⟩
   have e:Node.after (n.raise k (q.up m.index)) (n.raise k (q.up m.index)).count (q.up m.index) m.frm=if (n.raise k (q.up m.index)).s.transfer=m.frm∧(q.up m.index).mat=(Node.mid (n.raise k (q.up m.index)) (n.raise k (q.up m.index)).count (q.up m.index)).last then (Node.mid (n.raise k (q.up m.index)) (n.raise k (q.up m.index)).count (q.up m.index)).post { Msg.zero with kind:=9,to:=m.frm } else Node.mid (n.raise k (q.up m.index)) (n.raise k (q.up m.index)).count (q.up m.index):=rfl
   have hmid:St c0 g' i (Node.mid (n.raise k (q.up m.index)) (n.raise k (q.up m.index)).count (q.up m.index)):=by
    unfold Node.mid
    split
    ·
     exact hS.spread (.inl hr4)
    ·
     split
     ·
      exact hS.feed hr4 (by rw[hF];exact hup.2.2)
     ·
      exact hS
   rw[e]
   split
   ·
    exact hmid.post (MInv.other bare (.inr (by show (7:Int)<9;decide)))
   ·
    exact hmid
end
end Go.Lw.Safe
namespace Go.Lw.Safe
section
variable {c0:Conf} {g g' g'':G} {i:Int} {n n' n'':Node}
theorem pre_all {l m:List Entry} (hl:l.length≤m.length) (h:∀ q a b,q<l.length→l[q]?=some a→m[q]?=some b→a=b):l <+: m:=by
 rw[List.prefix_iff_getElem?]
 intro q hq
 rw[List.getElem?_eq_getElem (by omega)]
 exact congrArg some (h q _ _ hq (List.getElem?_eq_getElem hq) (List.getElem?_eq_getElem (by omega))).symm
theorem Inv.match_ (hI:Inv c0 g) {l m:List Entry} (hl:Sits Entry.term g.toRec l) (hm:Sits Entry.term g.toRec m) {k:Nat} (h1:k≤l.length) (h2:k≤m.length) (ht:tAt l k=tAt m k):l.take k=m.take k:=by
 rcases Nat.eq_zero_or_pos k with rfl | h0
 ·
  rfl
 obtain⟨a,ha⟩:=get_some (a:=l) (k:=k-1) (by omega)
 obtain⟨b,hb⟩:=get_some (a:=m) (k:=k-1) (by omega)
 unfold tAt at ht
 rw[if_neg (by omega),if_neg (by omega),ha,hb] at ht
 have ht:a.term=b.term:=ht
 have h3:=hl _ _ ha
 have h4:=hm _ _ hb
 rw[show k-1+1=k by omega] at h3 h4
 rw[←ht] at h4
 refine List.IsPrefix.eq_of_length (pre_le h3 h4 ?_) ?_<;>rw[List.length_take,List.length_take]<;>omega
theorem Sits.take {l:List Entry} (h:Sits Entry.term g.toRec l) (k:Nat):Sits Entry.term g.toRec (l.take k):=fun q e hq=>by
 obtain⟨h1,h2⟩:=take_get hq
 rw[List.take_take,show min (q+1) k=q+1 by omega]
 exact h q e h1
theorem turn_to (hI:Inv c0 g) {r r':Raft} (h:NInv c0 g i r) (hne:g.hist r.hard.term≠[]) {F':List Entry} {N:Nat} (hN:N≤(g.hist r.hard.term).length)
  (e1:r'.id=r.id) (e2:r'.hard.term=r.hard.term) (e3:r'.hard.vote=r.hard.vote) (e4:r'.role=1)
  (hs:Sits Entry.term g.toRec F') (hx:Idx F') (hl:∀ e∈F',e.term≤r.hard.term)
  (hlog:∃ b κ:Nat,CutAt c0 F' r'.log b∧r'.hard.commit=1+κ∧b≤κ∧κ≤F'.length∧Comm g r.hard.term (F'.take κ))
  (hNF:(g.hist r.hard.term).take N <+: F')
  (hk:∀ t k,0<k→k≤g.ack i t→t≤r.hard.term→(g.hist t).take k <+: g.full i→(g.hist t).take k <+: F'∨(t<r.hard.term∧parts g.toRec t r.hard.term k)) :
  ∃ g',Grow i 0 g g'∧Inv c0 g'∧NInv c0 g' i r'∧N≤g'.ack i r.hard.term:=by
 obtain⟨hI2,hG⟩:=hI.told (i:=i) (T:=r.hard.term) (a:=max (g.ack i r.hard.term) N) (F:=F') (Nat.le_max_left _ _) (Nat.max_le.2 ⟨hI.acks i _,hN⟩) h.later
 have hF:(g.told i r.hard.term (max (g.ack i r.hard.term) N) F').full i=F':=if_pos rfl
 have hA:(g.told i r.hard.term (max (g.ack i r.hard.term) N) F').ack i r.hard.term=max (g.ack i r.hard.term) N:=if_pos ⟨rfl,rfl⟩
 refine⟨_,hG,hI2,⟨e1.trans h.id,h.pos,by rw[hF];exact hs,by rw[hF];exact hx,by rw[hF,e2];exact hl,.inr ?_,fun z=>absurd e4 z,fun z=>absurd (e4.symm.trans z) (by decide),by rw[e2,e3];exact h.vote,by rw[e2];exact h.later,fun t k h0 hkk=>?_,fun z=>absurd (e4.symm.trans z) (by decide),fun z=>absurd (e4.symm.trans z) (by decide)⟩,by rw[hA];exact Nat.le_max_right _ _⟩
 ·
  obtain⟨b,κ,a1,a2,a3,a4,a5⟩:=hlog
  rw[hF,e2]
  exact⟨b,κ,a1,a2,a3,a4,hG.comm hI a5,by have:=hI.one _ hne;omega⟩
 ·
  rw[hF,e2]
  have hold:∀ t k,0<k→k≤g.ack i t→t≤r.hard.term∧((g.hist t).take k <+: F'∨∃ u,t<u∧u≤r.hard.term∧parts g.toRec t u k):=fun t k h0 hkk=>by
   obtain⟨a1,a2⟩:=h.acked t k h0 hkk
   refine⟨a1,?_⟩
   rcases a2 with a2 | a2
   ·
    rcases hk t k h0 hkk a1 a2 with a3 | ⟨a3,a4⟩
    ·
     exact .inl a3
    ·
     exact .inr ⟨_,a3,Int.le_refl _,a4⟩
   ·
    exact .inr a2
  by_cases hT:t=r.hard.term
  ·
   subst hT
   rw[hA] at hkk
   by_cases hkN:k≤N
   ·
    exact⟨Int.le_refl _,.inl ((take_pre hkN).trans hNF)⟩
   ·
    exact hold _ k h0 (by omega)
  ·
   rw[show (g.told i r.hard.term (max (g.ack i r.hard.term) N) F').ack i t=g.ack i t from if_neg fun z=>hT z.2] at hkk
   exact hold t k h0 hkk
theorem NInv.told {r:Raft} (hI:Inv c0 g) (h:NInv c0 g i r) (hne:g.hist r.hard.term≠[]) {b κ:Nat} (hκ:κ≤(g.full i).length) (hc:Comm g r.hard.term ((g.full i).take κ)):(g.full i).take κ <+: g.hist r.hard.term:=by
 rcases hc with hc | ⟨t,k,m,h1,h2,h3⟩
 ·
  rw[hc];exact List.nil_prefix
 ·
  exact h3.trans (hI.right.leads maj_meets hne h1 h2)
theorem St.tells (h:St c0 g i n) (hr:n.s.role=1) (hne:g.hist n.s.hard.term≠[]) (hx:0<n.s.hard.commit) {m:Msg} (hbr:Bare m) (hm:m.kind=6∧m.term=0∧m.index=n.s.hard.commit):To c0 g i (n.post m):=by
 rcases h.node.log with ⟨-,-,h1⟩ | ⟨b,κ,h1,h2,h3,h4,h5,h6⟩
 ·
  omega
 have hp:=h.node.told (b:=b) h.inv hne h4 h5
 have hlen:((g.full i).take κ).length=κ:=by rw[List.length_take];omega
 have hN:κ≤(g.hist n.s.hard.term).length:=by have:=hp.length_le;omega
 obtain⟨g',hG,hI,hN',hA⟩:=turn_to (r':=n.s) h.inv h.node hne (F':=g.full i) hN rfl rfl rfl hr h.node.sits h.node.idx h.node.low ⟨b,κ,h1,h2,h3,h4,h5⟩
  (by have:=pre_take hp;rw[hlen] at this;rw[←this];exact List.take_prefix _ _) (fun t k _ _ _ hk=> .inl hk)
 refine⟨g',hG.mono (Nat.zero_le _),St.post (n:=n) ⟨hI,hN',fun x hx=>(h.msgs x hx).grow_ h.inv hG⟩ (MInv.is6 ⟨hbr.1,hbr.2.1,hbr.2.2⟩ hm.1 fun _=>?_)⟩
 show m.index≤1+(g'.ack n.s.id (if m.term=0 then n.s.hard.term else m.term):Int)
 rw[if_pos hm.2.1,hm.2.2,h2,h.node.id]
 omega
theorem drop_get {l m:List Entry} {d q:Nat} {e:Entry} (h:m <+: l.drop d) (hq:m[q]?=some e):l[d+q]?=some e:=by
 have:=pre_get h hq
 rwa[List.getElem?_drop] at this
theorem merge_turn (hI:Inv c0 g) {F:List Entry} {L:Log} {b i0:Nat} {T k lt:Int} {more:List Entry} (hc:CutAt c0 F L b) (hs:Sits Entry.term g.toRec F) (hx:Idx F) (hi0:i0≤(g.hist T).length) (hlt:lt=tAt (g.hist T) i0) (hmore:more <+: (g.hist T).drop i0)
  {M:Merged} (hM:mergeP L k (1+i0) lt more=M) (h1:M.err≠1) (h2:M.err≠61) (h3:M.err≠62) :
  b≤i0∧i0≤F.length∧i0+more.length≤(g.hist T).length∧∃ F',CutAt c0 F' M.log b∧Sits Entry.term g.toRec F'∧Idx F'∧(∀ e∈F',e∈F∨e∈g.hist T)∧(g.hist T).take (i0+more.length) <+: F'∧F'.take i0=F.take i0 ∧
   ∀ t k,t≤T→(g.hist t).take k <+: F→k≤(g.hist t).length→(g.hist t).take k <+: F'∨(t<T∧parts g.toRec t T k):=by
 have hHs:Sits Entry.term g.toRec (g.hist T):=hI.right.fit T
 have hN:i0+more.length≤(g.hist T).length:=by have:=hmore.length_le;rw[List.length_drop] at this;omega
 unfold mergeP at hM
 split at hM
 ·
  subst hM;exact absurd rfl h1
 split at hM
 ·
  subst hM;exact absurd rfl h2
 rename_i hterm
 split at hM
 ·
  subst hM;exact absurd rfl h3
 have hti:(termP L (1+i0)).2=true:=by
  cases hz:(termP L (1+i0)).2 with
  | true=>rfl
  | false=>exact absurd (.inl hz) hterm
 have htv:(termP L (1+i0)).1=lt:=Classical.byContradiction fun z=>hterm (.inr z)
 obtain⟨k0,a1,a2,a3,a4⟩:=hc.term_found hx hti
 have hk0:k0=i0:=by omega
 subst hk0
 have hbase:F.take k0=(g.hist T).take k0:=hI.match_ hs hHs a3 hi0 (by rw[←a4,htv,hlt])
 -- as long as nothing is fresh, both are one
 have hmi:∀ q e,more[q]?=some e→e.index=1+((k0+q+1:Nat):Int)∧(g.hist T)[k0+q]?=some e:=fun q e hq=>by
  have h4:=drop_get hmore hq
  have:=hI.idx T _ e h4
  exact⟨by omega,h4⟩
 have hrun:∀ j,j≤more.length→(∀ q e,q<j→more[q]?=some e→freshP L e=false)→F.take (k0+j)=(g.hist T).take (k0+j)∧k0+j≤F.length:=fun j hj hf=>by
  cases j with
  | zero=>exact⟨hbase,a3⟩
  | succ j =>
   obtain⟨e,he⟩:=get_some (a:=more) (k:=j) (by omega)
   obtain⟨b1,b2⟩:=hmi j e he
   have hfe:=hf j e (by omega) he
   simp only[freshP,otherP,Bool.or_eq_false_iff,Bool.and_eq_false_iff,decide_eq_false_iff_not,Bool.not_eq_false'] at hfe
   obtain⟨kk,c1,c2,c3,c4⟩:=hc.term_found hx hfe.1
   have hkk:kk=k0+(j+1):=by omega
   subst hkk
   have hte:(termP L e.index).1=e.term:=by
    rcases hfe.2 with z | z
    ·
     rw[hfe.1] at z;cases z
    ·
     exact Classical.byContradiction fun y=>z y
   refine⟨hI.match_ hs hHs c3 (by omega) ?_,c3⟩
   rw[←c4,hte]
   unfold tAt
   rw[if_neg (by omega),show k0+(j+1)-1=k0+j by omega,b2];rfl
 refine⟨a2,a3,hN,?_⟩
 cases hf:more.findIdx? (freshP L) with
 | none =>
  rw[hf] at hM
  subst hM
  have hall:=hrun more.length (Nat.le_refl _) fun q e _ hq=>List.findIdx?_eq_none_iff.1 hf e (List.mem_of_getElem? hq)
  exact⟨F,hc,hs,hx,fun e he=> .inl he,by rw[←hall.1];exact List.take_prefix _ _,rfl,fun t k _ hk _=> .inl hk⟩
 | some j =>
  rw[hf] at hM
  obtain⟨hj,hj1,hj2⟩:=List.findIdx?_eq_some_iff_getElem.1 hf
  have hje:more[j]?=some more[j]:=List.getElem?_eq_getElem hj
  obtain⟨d1,d2⟩:=hmi j _ hje
  obtain⟨p1,p2⟩:=hrun j (by omega) fun q e hq he=>by
   have:=hj2 q hq
   rw[List.getElem?_eq_getElem (by omega)] at he
   cases he
   simpa using this
  have hfr:(more[j]?.map (·.index)).getD 0=1+((k0+j+1:Nat):Int):=by rw[hje];exact d1
  dsimp only at hM
  rw[hfr] at hM
  have hpl:=(hc.runX hx).place (1+((k0+j+1:Nat):Int))
  have hci:=hc.index
  have hcl:=hc.len
  have hp:placeP L (1+((k0+j+1:Nat):Int))=k0+j-b:=by omega
  rw[hp] at hM
  subst hM
  have hF':(g.hist T).take (k0+more.length)=F.take (k0+j)++more.drop j:=by
   have e1:(g.hist T).take (k0+more.length)=(g.hist T).take k0++more:=by
    rw[List.take_add]
    congr 1
    exact (pre_take hmore).symm
   have e2:F.take (k0+j)=(g.hist T).take k0++more.take j:=by
    rw[p1,List.take_add]
    congr 1
    have:=congrArg (List.take j) (pre_take hmore)
    rw[List.take_take,show min j more.length=j by omega] at this
    exact this.symm
   rw[e1,e2,List.append_assoc,List.take_append_drop]
  have hlenP:(F.take (k0+j)).length=k0+j:=by rw[List.length_take];omega
  refine⟨(g.hist T).take (k0+more.length),⟨?_,hci,?_,?_,?_⟩,Sits.take hHs _,fun q e hq=>hI.idx T q e (take_get hq).1,fun e he=> .inr (List.mem_of_mem_take he),List.prefix_rfl,?_,fun t k htT hk hkl=>?_⟩
  ·
   rw[List.length_take];omega
  ·
   rw[hc.term,hF',← tAt_take (l:=F) (k:=b) (n:=k0+j) (by omega)]
   exact (tAt_pre (List.prefix_append _ _) (by omega)).symm
  ·
   rw[hc.conf,hF',List.take_append_of_le_length (by omega),List.take_take,show min b (k0+j)=b by omega]
  ·
   show L.entries.take (k0+j-b)++more.drop j=((g.hist T).take (k0+more.length)).drop b
   rw[hF',List.drop_append_of_le_length (by omega),hc.entries,List.drop_take]
  ·
   rw[List.take_take,show min k0 (k0+more.length)=k0 by omega];exact hbase.symm
  ·
   by_cases hkP:k≤k0+j
   ·
    left
    have e3:(g.hist t).take k <+: F.take (k0+j):=pre_le hk (List.take_prefix _ _) (by rw[hlenP,List.length_take];omega)
    rw[hF'];exact e3.trans (List.prefix_append _ _)
   ·
    right
    obtain⟨a,ha⟩:=get_some (a:=g.hist t) (k:=k0+j) (by omega)
    have haF:=pre_get hk (get_take ha (by omega))
    have hlF:=get_lt haF
    have hta:=hc.term_at hx (k:=k0+j+1) (by omega) (by omega)
    rw[←d1] at hta
    have hneq:a.term≠more[j].term:=fun he=>by
     simp only[freshP,otherP,hta,Bool.not_true,Bool.false_or,Bool.true_and,decide_eq_true_eq] at hj1
     refine hj1 ?_
     unfold tAt
     rw[if_neg (by omega),show k0+j+1-1=k0+j by omega,haF]
     exact he
    have hae:a≠more[j]:=fun he=>hneq (by rw[he])
    refine⟨?_,k0+j,by omega,a,more[j],ha,d2,hae⟩
    rcases Int.lt_or_eq_of_le htT with hlt' | rfl
    ·
     exact hlt'
    ·
     rw[ha] at d2;exact absurd (Option.some.inj d2) hae
theorem St.grow (h:St c0 g i n) {m:Msg} (hm:MInv c0 g m) (hk:m.kind=5) (ht:m.term=n.s.hard.term):To c0 g i (n.grow m):=by
 obtain⟨i0,κm,q1,q2,q3,q4,q5,q6,q7,q8⟩:=hm.grow hk
 rw[ht] at q1 q2 q4 q5 q7 q8
 by_cases h0:n.s.role=4
 ·
  unfold Node.grow;rw[if_pos h0];exact h.to
 have hw:=h.calm m.frm
 have hcr:(n.calm m.frm).s.role=1:=rfl
 have hct:(n.calm m.frm).s.hard=n.s.hard:=by
  unfold Node.calm Node.follow
  simp only[Int.lt_irrefl,if_false];rfl
 have hcl:(n.calm m.frm).s.log=n.s.log:=rfl
 by_cases h1:m.index<(n.calm m.frm).s.hard.commit
 ·
  rw[grow_old h0 h1]
  exact hw.tells hcr (by rw[hct];exact q1) (by omega) bare ⟨rfl,rfl,rfl⟩
 obtain⟨M,hM⟩:∃ M,M=mergeP (n.calm m.frm).s.log (n.calm m.frm).s.hard.commit m.index m.logTerm m.entries:=⟨_,rfl⟩
 by_cases h2:M.err=1∨M.err=62∨m.entries.any (Node.strange (n.calm m.frm).s.hard.term)=true
 ·
  rw[grow_bad h0 h1 hM.symm h2];exact hw.to
 by_cases h3:M.err=61
 ·
  rw[grow_gap h0 h1 hM.symm h2 h3];exact (hw.post (MInv.no bare (.inr rfl) rfl)).to
 rw[grow_ok h0 h1 hM.symm h2 h3]
 have hnode:=hw.node
 have hT2:(n.calm m.frm).s.hard.term=n.s.hard.term:=by rw[hct]
 rcases h.node.log with ⟨b1,-⟩ | ⟨b,κ,c1,c2,c3,c4,c5,c6⟩
 ·
  -- a blank log has no such index
  have hti:(termP n.s.log (1+i0)).2=false:=by
   cases hz:(termP n.s.log (1+i0)).2 with
   | false=>rfl
   | true=>have:=(b1.found hz).1;omega
  rw[hcl,q3] at hM
  unfold mergeP at hM
  split at hM
  ·
   exact absurd (.inl (by rw[hM])) h2
  ·
   rw[if_pos (.inl hti)] at hM
   exact absurd (by rw[hM]) h3
 rw[hcl,q3] at hM
 obtain⟨d1,d2,d3,F',e1,e2,e3,e4,e5,e6,e7⟩:=merge_turn (T:=n.s.hard.term) h.inv c1 h.node.sits h.node.idx q2 q4 q5 hM.symm (fun z=>h2 (.inl z)) h3 (fun z=>h2 (.inr (.inl z)))
 rw[hct] at h1
 have hκi:κ≤i0:=by omega
 have hlenF':i0+m.entries.length≤F'.length:=by
  have:=e5.length_le
  rw[List.length_take] at this;omega
 obtain⟨κ',hκ'⟩:∃ κ':Nat,κ'=max κ (min κm (i0+m.entries.length)):=⟨_,rfl⟩
 have hcom:max (n.calm m.frm).s.hard.commit (min m.commit (m.index+m.entries.length))=1+(κ':Int):=by
  rw[hct];omega
 have hC:Comm g n.s.hard.term (F'.take κ'):=by
  by_cases hle:κ'≤κ
  ·
   have:κ'=κ:=by omega
   rw[this]
   have e8:F'.take κ=(g.full i).take κ:=by
    have:=congrArg (List.take κ) e6
    rw[List.take_take,List.take_take,show min κ i0=κ by omega] at this
    exact this
   rw[e8];exact c5
  ·
   have hk1:κ'≤κm∧κ'≤i0+m.entries.length:=by omega
   have e8:F'.take κ'=(g.hist n.s.hard.term).take κ':=by
    have h9:=pre_take e5
    rw[List.length_take,show min (i0+m.entries.length) (g.hist n.s.hard.term).length=i0+m.entries.length by omega] at h9
    have:=congrArg (List.take κ') h9
    rw[List.take_take,List.take_take,show min κ' (i0+m.entries.length)=κ' by omega] at this
    exact this.symm
   rw[e8];exact q8.sub (take_pre hk1.1)
 obtain⟨g',hG,hI',hN',hA⟩:=turn_to (r':=(((((n.calm m.frm).wLog M.log).wCut M.cut).wOuts M.came).wCommit (max (n.calm m.frm).s.hard.commit (min m.commit (m.index+m.entries.length)))).s) (F':=F') h.inv h.node q1 d3 rfl (by show (n.calm m.frm).s.hard.term=_;rw[hct]) (by show (n.calm m.frm).s.hard.vote=_;rw[hct]) rfl e2 e3
  (fun e he=>by
   rcases e4 e he with h9 | h9
   ·
    exact h.node.low e h9
   ·
    exact h.inv.right.le _ e h9)
  ⟨b,κ',e1,hcom,by omega,by omega,hC⟩ e5 (fun t k _ hk htT hp=>e7 t k htT hp (Nat.le_trans hk (h.inv.acks i t)))
 refine⟨g',hG.mono (Nat.zero_le _),St.post ⟨hI',hN',fun x hx=>(h.msgs x hx).grow_ h.inv hG⟩ (MInv.is6 bare rfl fun _=>?_)⟩
 show m.index+m.entries.length≤1+(g'.ack n.s.id (n.calm m.frm).s.hard.term:Int)
 rw[hct,h.node.id]
 omega
end
end Go.Lw.Safe
namespace Go.Lw.Safe
section
variable {c0:Conf} {g g' g'':G} {i:Int} {n n' n'':Node}
theorem prefix_or {l m:List Entry} (hl:l.length≤m.length) (h:¬ l <+: m):∃ q a b,q<l.length∧l[q]?=some a∧m[q]?=some b∧a≠b:=by
 refine Classical.byContradiction fun hz=>h (pre_all hl fun q a b hq ha hb=>Classical.byContradiction fun hab=>hz ⟨q,a,b,hq,ha,hb,hab⟩)
theorem sndCut {s:Snap} {H:List Entry} {k:Nat} (hk:k≤H.length) (h1:s.index=1+k) (h2:s.term=tAt H k) (h3:s.conf=cOf c0 (H.take k)):CutAt c0 (H.take k) ⟨s,[]⟩ k :=
 ⟨by rw[List.length_take];omega,h1,by rw[tAt_take (Nat.le_refl _)];exact h2,by rw[List.take_take,Nat.min_self];exact h3,by rw[List.drop_eq_nil_of_le (by rw[List.length_take];omega)]⟩
theorem St.install (h:St c0 g i n) (hr:n.s.role=1) (hne:g.hist n.s.hard.term≠[]) {s:Snap} {k:Nat} (hk:k≤(g.hist n.s.hard.term).length) (h1:s.index=1+k) (h2:s.term=tAt (g.hist n.s.hard.term) k) (h3:s.conf=cOf c0 ((g.hist n.s.hard.term).take k))
  (hC:Comm g n.s.hard.term ((g.hist n.s.hard.term).take k)) (hlt:n.s.hard.commit<s.index) {m:Msg} (hbr:Bare m) (hm:m.kind=6∧m.term=0∧m.index=s.index):To c0 g i ((n.install s).post m):=by
 have hHs:Sits Entry.term g.toRec (g.hist n.s.hard.term):=h.inv.right.fit _
 -- whatever the log is: either it goes on behind the snapshot, or it is the snapshot alone
 have hend:∀ (r':Raft) (o':Out) (F':List Entry),n.install s=⟨r',o'⟩→r'.id=n.s.id→r'.hard={ n.s.hard with commit:=s.index }→r'.role=1→o'.msgs=n.o.msgs→Sits Entry.term g.toRec F'→Idx F'→(∀ e∈F',e.term≤n.s.hard.term)→CutAt c0 F' r'.log k→(g.hist n.s.hard.term).take k <+: F' →
   (∀ t q,0<q→q≤g.ack i t→t≤n.s.hard.term→(g.hist t).take q <+: g.full i→(g.hist t).take q <+: F'∨(t<n.s.hard.term∧parts g.toRec t n.s.hard.term q))→To c0 g i ((n.install s).post m):=by
  intro r' o' F' e0 e1 e2 e3 e4 f1 f2 f3 f4 f5 f6
  have hlen:k≤F'.length:=by have:=f5.length_le;rw[List.length_take] at this;omega
  have htk:F'.take k=(g.hist n.s.hard.term).take k:=by
   have:=pre_take f5
   rw[List.length_take,show min k (g.hist n.s.hard.term).length=k by omega] at this
   exact this.symm
  obtain⟨g',hG,hI',hN',hA⟩:=turn_to (r':=r') (F':=F') h.inv h.node hne hk e1 (by rw[e2]) (by rw[e2]) e3 f1 f2 f3 ⟨k,k,f4,by rw[e2];exact h1,Nat.le_refl _,hlen,by rw[htk];exact hC⟩ f5 f6
  rw[e0]
  refine⟨g',hG.mono (Nat.zero_le _),St.post (n:=⟨r',o'⟩) ⟨hI',hN',fun x hx=>(h.msgs x (by rw[←e4];exact hx)).grow_ h.inv hG⟩ (MInv.is6 ⟨hbr.1,hbr.2.1,hbr.2.2⟩ hm.1 fun _=>?_)⟩
  show m.index≤1+(g'.ack r'.id (if m.term=0 then r'.hard.term else m.term):Int)
  rw[if_pos hm.2.1,hm.2.2,h1,e1,e2,h.node.id]
  show 1+(k:Int)≤1+(g'.ack i n.s.hard.term:Int)
  omega
 rcases hf:n.s.log.entries.findIdx? (fun e=>decide (e.index=s.index∧e.term=s.term)) with _ | j
 ·
  -- the snapshot alone
  refine hend { n.s with log:=⟨s,[]⟩,hard:={ n.s.hard with commit:=s.index },part:=Coming.zero } { n.o with install:=true,cut:=(n.s.log.entries.head?.map (·.index)).getD n.o.cut } ((g.hist n.s.hard.term).take k) (by unfold Node.install;dsimp only;rw[hf]) rfl rfl hr rfl (Sits.take hHs k) (fun q e hq=>h.inv.idx _ q e (take_get hq).1) (fun e he=>h.inv.right.le _ e (List.mem_of_mem_take he)) (sndCut hk h1 h2 h3) List.prefix_rfl ?_
  intro t q hq0 hq ht hp
  have hql:=Nat.le_trans hq (h.inv.acks i t)
  have hlq:((g.hist t).take q).length=q:=by rw[List.length_take];omega
  by_cases hin:(g.hist t).take q <+: (g.hist n.s.hard.term).take k
  ·
   exact .inl hin
  right
  -- there is a place where they part
  have hpart:∃ p a b,p<q∧(g.hist t)[p]?=some a∧(g.hist n.s.hard.term)[p]?=some b∧a≠b:=by
   by_cases hqk:q≤k
   ·
    obtain⟨p,a,b,p1,p2,p3,p4⟩:=prefix_or (by rw[hlq,List.length_take];omega) hin
    rw[hlq] at p1
    exact⟨p,a,b,p1,(take_get p2).1,(take_get p3).1,p4⟩
   ·
    -- the log goes beyond the snapshot, so it must differ at its end
    rcases h.node.log with ⟨-,b2,-⟩ | ⟨b,κ,c1,c2,c3,c4,-⟩
    ·
     rw[b2] at hp
     have:=hp.length_le
     rw[hlq] at this;simp at this;omega
    ·
     have hk1:0<k:=by omega
     obtain⟨a,ha⟩:=get_some (a:=g.hist t) (k:=k-1) (by omega)
     obtain⟨z,hz⟩:=get_some (a:=g.hist n.s.hard.term) (k:=k-1) (by omega)
     refine⟨k-1,a,z,by omega,ha,hz,fun haz=>?_⟩
     have haF:=pre_get hp (get_take ha (by omega))
     have hae:n.s.log.entries[k-1-b]?=some a:=by rw[c1.get,show b+(k-1-b)=k-1 by omega];exact haF
     have:=List.findIdx?_eq_none_iff.1 hf a (List.mem_of_getElem? hae)
     have hai:=h.node.idx _ _ haF
     have hat:a.term=s.term:=by
      rw[h2,haz];unfold tAt;rw[if_neg (by omega),hz];rfl
     rw[decide_eq_false_iff_not] at this
     exact this ⟨by omega,hat⟩
  obtain⟨p,a,b,p1,p2,p3,p4⟩:=hpart
  refine⟨?_,p,p1,a,b,p2,p3,p4⟩
  rcases Int.lt_or_eq_of_le ht with hlt' | rfl
  ·
   exact hlt'
  ·
   rw[p2] at p3;exact absurd (Option.some.inj p3) p4
 ·
  -- the log has the snapshot's end
  obtain⟨hj0,hj1,-⟩:=List.findIdx?_eq_some_iff_getElem.1 hf
  have hj2:=of_decide_eq_true hj1
  have hje:=List.getElem?_eq_getElem hj0
  rcases h.node.log with ⟨b1,-⟩ | ⟨b,κ,c1,c2,c3,c4,-⟩
  ·
   rw[b1.2.2.2] at hj0;simp at hj0
  have hF:=c1.get.1 hje
  have hidx:=h.node.idx _ _ hF
  have hbj:b+j+1=k:=by have:=hj2.1;omega
  have hkF:k≤(g.full i).length:=by have:=get_lt hF;omega
  have htF:tAt (g.full i) k=tAt (g.hist n.s.hard.term) k:=by
   rw[←h2,← hj2.2]
   unfold tAt
   rw[if_neg (by omega),show k-1=b+j by omega,hF];rfl
  have hmt:=h.inv.match_ h.node.sits hHs hkF hk htF
  refine hend { n.s with log:=⟨s,n.s.log.entries.drop (j+1)⟩,hard:={ n.s.hard with commit:=s.index },part:=Coming.zero } { n.o with install:=true } (g.full i) (by unfold Node.install;dsimp only;rw[hf]) rfl rfl hr rfl h.node.sits h.node.idx h.node.low ⟨hkF,h1,by rw[htF];exact h2,by rw[hmt];exact h3,?_⟩ (by rw[←hmt];exact List.take_prefix _ _) (fun t q _ _ _ hp=> .inl hp)
  show n.s.log.entries.drop (j+1)=(g.full i).drop k
  rw[c1.entries,List.drop_drop,show b+(j+1)=k by omega]
theorem St.chunk (h:St c0 g i n) {m:Msg} (hm:MInv c0 g m) (hk:m.kind=7) (ht:m.term=n.s.hard.term):To c0 g i (n.chunk m):=by
 obtain⟨k,q1,q2,q3,q4,q5,q6⟩:=hm.piece hk
 rw[ht] at q1 q2 q4 q5 q6
 by_cases h0:n.s.role=4∨checkP m.conf≠0∨n.s.hard.term<m.logTerm
 ·
  rw[chunk_no h0];exact h.to
 have hw:=h.calm m.frm
 have hcr:(n.calm m.frm).s.role=1:=rfl
 have hct:(n.calm m.frm).s.hard=n.s.hard:=by
  unfold Node.calm Node.follow
  simp only[Int.lt_irrefl,if_false];rfl
 by_cases h1:m.index≤(n.calm m.frm).s.hard.commit
 ·
  rw[chunk_old h0 h1]
  exact hw.tells hcr (by rw[hct];exact q1) (by omega) bare ⟨rfl,rfl,rfl⟩
 have hi:=takeP_ix (n.calm m.frm).s.part m
 obtain⟨T,hT⟩:∃ T,T=takeP (n.calm m.frm).s.part m:=⟨_,rfl⟩
 rw[←hT] at hi
 by_cases h2:T.2=false
 ·
  rw[chunk_part h0 h1 hT.symm h2]
  exact (St.post (n:=(n.calm m.frm).wPart T.1) (hw.same rfl rfl rfl rfl rfl rfl) (MInv.other bare (.inr (by show (7:Int)<8;decide)))).to
 ·
  rw[chunk_all h0 h1 hT.symm h2]
  exact hw.install hcr (by rw[hct];exact q1) (by rw[hct];exact q2) (by show T.1.index=_;rw[hi.1];exact q3) (by show T.1.term=_;rw[hi.2,hct];exact q4) (by rw[hct];exact q5) (by rw[hct];exact q6) (by show _<T.1.index;rw[hi.1];omega) bare ⟨rfl,rfl,hi.1.symm⟩
theorem St.chunked (h:St c0 g i n) (m:Msg):St c0 g i (n.chunked m):=by
 unfold Node.chunked
 split
 ·
  exact h
 ·
  split
  ·
   rename_i hr;exact h.piece hr.1 _ _
  ·
   exact h
theorem St.heard (h:St c0 g i n) (hb:Bd n.s) {m:Msg} (hm:MInv c0 g m) (ht:m.term=n.s.hard.term) (hto:m.to=i):To c0 g i (n.heard m):=by
 unfold Node.heard
 split
 ·
  rename_i hk;exact h.vote hm hk ht
 split
 ·
  rename_i hk;exact h.voted hb hm hk ht hto
 split
 ·
  rename_i hk;exact h.grow hm hk ht
 split
 ·
  rename_i hk;exact h.grown hb hm hk ht
 split
 ·
  rename_i hk;exact h.chunk hm hk ht
 split
 ·
  exact (h.chunked m).to
 ·
  exact h.now hb
theorem St.message (h:St c0 g i n) (hb:Bd n.s) {m:Msg} (hm:MInv c0 g m):To c0 g i (n.message m):=by
 by_cases h0:n.deaf m
 ·
  rw[message_deaf h0];exact h.to
 have hto:m.to=i:=by rw[←h.node.id];exact Classical.byContradiction fun z=>h0 (.inl z)
 have hterm:m.term<p61:=Classical.byContradiction fun z=>h0 (.inr (.inr (.inr (.inr (.inl (by omega))))))
 simp only[p61] at hterm
 by_cases h1:m.kind=1
 ·
  rw[message_1 h0 h1];exact (h.preVote m).to
 by_cases h2:m.kind=2
 ·
  rw[message_2 h0 h2];exact h.preVoted hb m
 by_cases h3:m.kind<3∨9<m.kind
 ·
  rw[message_no h0 h1 h2 h3];exact h.to
 have hr:St c0 g i (n.risen m)∧Bd (n.risen m).s∧(m.term=(n.risen m).s.hard.term∨m.term<(n.risen m).s.hard.term):=by
  unfold Node.risen
  split
  ·
   rename_i hlt
   have e:(n.follow m.term 0).s.hard.term=m.term:=by unfold Node.follow;simp only[if_pos hlt]
   exact⟨h.follow _ _,⟨by rw[e];have:=hb.t0;omega,by rw[e];omega,hb.last⟩,.inl e.symm⟩
  ·
   exact⟨h,hb,by omega⟩
 by_cases h4:m.term<(n.risen m).s.hard.term
 ·
  rw[message_late h0 h1 h2 h3 h4];exact (hr.1.late m).to
 ·
  rw[message_on h0 h1 h2 h3 h4];exact hr.1.heard hr.2.1 hm (by rcases hr.2.2 with z | z;exact z;exact absurd z h4) hto
theorem St.act (h:St c0 g i n) (hb:Bd n.s) {x:Inp} (hx:x.kind=2→MInv c0 g x.msg) (hd:x.data.length≤100):To c0 g i (n.act x).1:=by
 unfold Node.act
 split
 ·
  exact h.tick hb _
 split
 ·
  rename_i hk;exact h.message hb (hx hk)
 split
 ·
  exact h.asked hb x hd
 ·
  exact h.to
theorem step_safe {r:Raft} {x:Inp} (hI:Inv c0 g) (hn:NInv c0 g i r) (hb:Bd r) (hx:x.kind=2→MInv c0 g x.msg) (hd:x.data.length≤100) :
  ∃ g',Grow i 1 g g'∧Inv c0 g'∧NInv c0 g' i (stepP r x).1∧∀ m∈(stepP r x).2.1.msgs,MInv c0 g' m:=by
 have h:St c0 g i (newN r):=⟨hI,hn,fun m hm=>by cases hm⟩
 by_cases he:((newN r).act x).2≠0
 ·
  rw[stepP_err he];exact⟨g,(Grow.refl i g).mono (Nat.zero_le _),hI,hn,fun m hm=>by cases hm⟩
 ·
  obtain⟨g',hG,h1⟩:=h.act hb hx hd
  rw[stepP_ok he]
  exact⟨g',hG,h1.inv,h1.node,h1.msgs⟩
end
end Go.Lw.Safe
namespace Go.Lw.Safe
def keepL (L:Log) (o:Out) (B:Snap):Log :=
 if o.install=true then ⟨B,(L.entries.filter fun e=>decide (o.cut=0) && decide (B.index<e.index))++o.entries⟩
 else if o.cut≠0 then ⟨L.base,(L.entries.filter fun e=>decide (e.index<o.cut))++o.entries⟩ else ⟨L.base,L.entries++o.entries⟩
def Kp (L:Log) (n:Node):Prop:=keepL L n.o n.s.log.base=n.s.log
def Sm (n n':Node):Prop:=n'.s.log=n.s.log∧n'.o.cut=n.o.cut∧n'.o.entries=n.o.entries∧n'.o.install=n.o.install
structure Frsh (L:Log) (n:Node):Prop where
 log:n.s.log=L
 cut:n.o.cut=0
 entries:n.o.entries=[]
 install:n.o.install=false
section
variable {L:Log} {n n' n'':Node}
theorem Sm.refl (n:Node):Sm n n:=⟨rfl,rfl,rfl,rfl⟩
theorem Sm.trans (h:Sm n n') (k:Sm n' n''):Sm n n'':=⟨k.1.trans h.1,k.2.1.trans h.2.1,k.2.2.1.trans h.2.2.1,k.2.2.2.trans h.2.2.2⟩
theorem Kp.sm (h:Kp L n) (k:Sm n n'):Kp L n':=by
 have e:∀ B,keepL L n'.o B=keepL L n.o B:=fun B=>by
  unfold keepL
  rw[k.2.1,k.2.2.1,k.2.2.2]
 unfold Kp at h ⊢
 rw[k.1,e];exact h
theorem Frsh.kp (h:Frsh L n):Kp L n:=by
 unfold Kp keepL
 rw[h.install,h.cut,h.entries,h.log]
 simp
theorem Frsh.sm (h:Frsh L n) (k:Sm n n'):Frsh L n':=⟨k.1.trans h.log,k.2.1.trans h.cut,k.2.2.1.trans h.entries,k.2.2.2.trans h.install⟩
theorem sm_feed (n:Node) (p:Peer):Sm n (n.feed p):=by
 unfold Node.feed
 split
 ·
  unfold Node.piece;split
  ·
   exact⟨rfl,rfl,rfl,rfl⟩
  ·
   exact Sm.refl n
 ·
  exact⟨rfl,rfl,rfl,rfl⟩
theorem sm_feeds (l:List Peer):∀ n:Node,Sm n (n.feeds l):=by
 induction l with
 | nil=>exact fun n=>Sm.refl n
 | cons p l ih=>exact fun n=>(sm_feed n p).trans (ih _)
theorem sm_spread (n:Node):Sm n n.spread:=sm_feeds _ n
theorem sm_count (n:Node):Sm n n.count:=by
 by_cases hs:n.com≤n.s.hard.commit∨(termP n.s.log n.com).1≠n.s.hard.term
 ·
  rw[count_stay hs];exact Sm.refl n
 ·
  rw[count_go hs];split<;>exact⟨rfl,rfl,rfl,rfl⟩
theorem Kp.putE (h:Kp L n) (x:Entry):Kp L (n.putE x):=by
 unfold Kp at h ⊢
 show keepL L { n.o with entries:=n.o.entries++[x] } n.s.log.base=⟨n.s.log.base,n.s.log.entries++[x]⟩
 rw[show n.s.log.entries=(keepL L n.o n.s.log.base).entries by rw[h]]
 have hb:(keepL L n.o n.s.log.base).base=n.s.log.base:=by rw[h]
 unfold keepL at hb ⊢
 dsimp only
 split
 ·
  simp
 ·
  rename_i hi
  rw[if_neg hi] at hb
  split
  ·
   rename_i hc
   rw[if_pos hc] at hb
   simp only at hb ⊢
   rw[hb,List.append_assoc]
  ·
   rename_i hc
   rw[if_neg hc] at hb
   simp only at hb ⊢
   rw[hb,List.append_assoc]
theorem Kp.put (h:Kp L n) (e:Entry):Kp L (n.put e):=by
 rw[put_eq]
 refine Kp.sm ?_ ((sm_count _).trans (sm_spread _))
 split
 ·
  exact (h.putE _).sm ⟨rfl,rfl,rfl,rfl⟩
 ·
  exact h.putE _
theorem Kp.lead (h:Kp L n):Kp L n.lead:=by
 obtain⟨m,hm⟩:∃ m:Node,m=Node.meet { n with s:={ n.s with role:=4,leader:=n.s.id,ballots:=[],elapsed:=0,beat:=0,transfer:=0,peers:=[] } } (up1 n.last):=⟨_,rfl⟩
 have hk:Kp L m:=h.sm (by rw[hm];exact⟨rfl,rfl,rfl,rfl⟩)
 have e:n.lead=m.put ⟨0,0,1,[],⟨[],[]⟩⟩:=by rw[hm];rfl
 rw[e]
 exact hk.put _
theorem Kp.stand (h:Kp L n):Kp L n.stand:=by
 obtain⟨m,hm⟩:∃ m:Node,m=Node.runs { n with s:={ n.s with hard:={ n.s.hard with term:=up1 n.s.hard.term,vote:=n.s.id } } } 3:=⟨_,rfl⟩
 have hk:Kp L m:=h.sm (by rw[hm];exact⟨rfl,rfl,rfl,rfl⟩)
 have e:n.stand=if m.tally=1 then m.lead else m.question 3 m.s.hard.term:=by rw[hm];rfl
 rw[e]
 split
 ·
  exact hk.lead
 ·
  exact hk.sm ⟨rfl,rfl,rfl,rfl⟩
theorem Kp.ask (h:Kp L n):Kp L n.ask:=by
 have hk:Kp L (n.runs 2):=h.sm ⟨rfl,rfl,rfl,rfl⟩
 have e:n.ask=if (n.runs 2).tally=1 then (n.runs 2).stand else (n.runs 2).question 1 (up1 (n.runs 2).s.hard.term):=rfl
 rw[e]
 split
 ·
  exact hk.stand
 ·
  exact hk.sm ⟨rfl,rfl,rfl,rfl⟩
theorem Kp.tick (h:Kp L n) (t:Int):Kp L (n.tick t):=by
 obtain⟨e,he⟩:∃ e,e=min (sup1 n.s.elapsed) (max n.s.elapsed 1073741824):=⟨_,rfl⟩
 by_cases hr:n.s.role≠4
 ·
  by_cases hv:max t 1≤e∧n.votes=true
  ·
   rw[Node.tick_ask e he hr hv];exact Kp.ask (h.sm ⟨rfl,rfl,rfl,rfl⟩)
  ·
   rw[Node.tick_no e he hr hv];exact h.sm ⟨rfl,rfl,rfl,rfl⟩
 ·
  obtain⟨b,hb⟩:∃ b,b=if max t 1≤e then ((n.wElapsed e).wElapsed 0).wTransfer 0 else n.wElapsed e:=⟨_,rfl⟩
  have hs:Sm n b:=by rw[hb];split<;>exact⟨rfl,rfl,rfl,rfl⟩
  rw[Node.tick_lead e he hr b hb]
  split
  ·
   exact h.sm ((hs.trans ⟨rfl,rfl,rfl,rfl⟩).trans (sm_spread ((b.wBeat (sup1 b.s.beat)).wBeat 0)))
  ·
   exact h.sm (hs.trans ⟨rfl,rfl,rfl,rfl⟩)
theorem Kp.stands (h:Kp L n) {m:Msg} {won:Node→Node} (hw:∀ q,Kp L q→Kp L (won q)):Kp L (n.stands m won):=by
 have hb:Kp L (n.addBallot m.frm (!m.reject)):=h.sm ⟨rfl,rfl,rfl,rfl⟩
 unfold Node.stands
 dsimp only
 split
 ·
  exact hw _ hb
 ·
  split
  ·
   exact hb.sm ⟨rfl,rfl,rfl,rfl⟩
  ·
   exact hb
theorem Kp.transfer (h:Kp L n) (to:Int):Kp L (n.transferTo to).1:=by
 have hw:Kp L ⟨{ n.s with transfer:=to,elapsed:=0 },n.o⟩:=h.sm (n':=⟨{ n.s with transfer:=to,elapsed:=0 },n.o⟩) ⟨rfl,rfl,rfl,rfl⟩
 unfold Node.transferTo
 split
 ·
  exact h
 ·
  split
  ·
   exact h
  ·
   dsimp only
   split
   ·
    exact hw.sm ⟨rfl,rfl,rfl,rfl⟩
   ·
    exact hw.sm (sm_feed _ _)
theorem Kp.asked (h:Kp L n) (x:Inp):Kp L (n.asked x).1:=by
 have hw:Kp L ⟨n.s,{ n.o with index:=up1 n.last,term:=n.s.hard.term }⟩:=h.sm (n':=⟨n.s,{ n.o with index:=up1 n.last,term:=n.s.hard.term }⟩) ⟨rfl,rfl,rfl,rfl⟩
 unfold Node.asked
 split
 ·
  exact h
 split
 ·
  exact h
 split
 ·
  exact h.transfer _
 dsimp only
 split
 ·
  split
  ·
   exact h
  ·
   exact hw.put _
 ·
  exact hw.put _
theorem Kp.grown (h:Kp L n) (m:Msg):Kp L (n.grown m):=by
 by_cases hno:n.s.role≠4∨n.peer m.frm=none∨n.last<m.index
 ·
  rw[grown_no hno];exact h
 have h0:n.s.role=4:=Classical.byContradiction fun z=>hno (.inl z)
 have h2:¬ n.last<m.index:=fun z=>hno (.inr (.inr z))
 obtain⟨q,hq⟩:∃ q,n.peer m.frm=some q:=by
  cases hp:n.peer m.frm with
  | none=>exact absurd (.inr (.inl hp)) hno
  | some q=>exact⟨q,rfl⟩
 obtain⟨k,hix⟩:=peer_find hq
 by_cases h3:m.reject=true
 ·
  rw[grown_rej h0 hq h2 h3 hix _ rfl]
  exact Kp.sm (h.sm ⟨rfl,rfl,rfl,rfl⟩) (sm_feed _ _)
 ·
  rw[grown_yes h0 hq h2 h3 hix]
  have hu:Kp L (n.raise k (q.up m.index)).count:=Kp.sm (h.sm ⟨rfl,rfl,rfl,rfl⟩) (sm_count _)
  split
  ·
   exact hu
  ·
   generalize (n.raise k (q.up m.index)).count=b at hu
   have hmid:Kp L (Node.mid (n.raise k (q.up m.index)) b (q.up m.index)):=by
    unfold Node.mid
    split
    ·
     exact hu.sm (sm_spread _)
    ·
     split
     ·
      exact hu.sm (sm_feed _ _)
     ·
      exact hu
   have e:Node.after (n.raise k (q.up m.index)) b (q.up m.index) m.frm=if (n.raise k (q.up m.index)).s.transfer=m.frm∧(q.up m.index).mat=(Node.mid (n.raise k (q.up m.index)) b (q.up m.index)).last then (Node.mid (n.raise k (q.up m.index)) b (q.up m.index)).post { Msg.zero with kind:=9,to:=m.frm } else Node.mid (n.raise k (q.up m.index)) b (q.up m.index):=rfl
   rw[e]
   split
   ·
    exact hmid.sm ⟨rfl,rfl,rfl,rfl⟩
   ·
    exact hmid
theorem filt_take:∀ {l:List Entry} {b x:Int},(∀ (k:Nat) (e:Entry),l[k]?=some e→e.index=b+k)→(l.filter fun e=>decide (e.index<x))=l.take (x-b).toNat
 | [],_,_,_=>by simp
 | e::l,b,x,h=>by
  have h0:=h 0 e rfl
  have ih:=filt_take (l:=l) (b:=b+1) (x:=x) fun k y hk=>by have:=h (k+1) y (by simpa using hk);omega
  rw[List.filter_cons]
  by_cases hx:e.index<x
  ·
   rw[if_pos (by simpa using hx),ih,show (x-b).toNat=(x-(b+1)).toNat+1 by omega,List.take_succ_cons]
  ·
   rw[if_neg (by simpa using hx),ih,show (x-b).toNat=0 by omega,show (x-(b+1)).toNat=0 by omega];simp
theorem filt_drop:∀ {l:List Entry} {b x:Int},(∀ (k:Nat) (e:Entry),l[k]?=some e→e.index=b+k)→(l.filter fun e=>decide (x<e.index))=l.drop (x+1-b).toNat
 | [],_,_,_=>by simp
 | e::l,b,x,h=>by
  have h0:=h 0 e rfl
  have ih:=filt_drop (l:=l) (b:=b+1) (x:=x) fun k y hk=>by have:=h (k+1) y (by simpa using hk);omega
  rw[List.filter_cons]
  by_cases hx:x<e.index
  ·
   rw[if_pos (by simpa using hx),ih,show (x+1-b).toNat=0 by omega,show (x+1-(b+1)).toNat=0 by omega];simp
  ·
   rw[if_neg (by simpa using hx),ih,show (x+1-b).toNat=(x+1-(b+1)).toNat+1 by omega,List.drop_succ_cons]
theorem Frsh.grow (h:Frsh L n) (hx:RunX L) (_:0≤L.base.index) {m:Msg} (hm0:0≤m.index):Kp L (n.grow m):=by
 by_cases hr:n.s.role=4
 ·
  unfold Node.grow;rw[if_pos hr];exact h.kp
 have hc:Sm n (n.calm m.frm):=⟨rfl,rfl,rfl,rfl⟩
 have hf:=h.sm hc
 by_cases h1:m.index<(n.calm m.frm).s.hard.commit
 ·
  rw[grow_old hr h1];exact hf.kp.sm ⟨rfl,rfl,rfl,rfl⟩
 obtain⟨M,hM⟩:∃ M,M=mergeP (n.calm m.frm).s.log (n.calm m.frm).s.hard.commit m.index m.logTerm m.entries:=⟨_,rfl⟩
 by_cases h2:M.err=1∨M.err=62∨m.entries.any (Node.strange (n.calm m.frm).s.hard.term)=true
 ·
  rw[grow_bad hr h1 hM.symm h2];exact hf.kp
 by_cases h3:M.err=61
 ·
  rw[grow_gap hr h1 hM.symm h2 h3];exact hf.kp.sm ⟨rfl,rfl,rfl,rfl⟩
 rw[grow_ok hr h1 hM.symm h2 h3]
 refine Kp.sm (n:=((((n.calm m.frm).wLog M.log).wCut M.cut).wOuts M.came).wCommit (max (n.calm m.frm).s.hard.commit (min m.commit (m.index+m.entries.length)))) ?_ ⟨rfl,rfl,rfl,rfl⟩
 have hin:(n.calm m.frm).o.install=false:=hf.install
 unfold Kp keepL
 show (if (n.calm m.frm).o.install=true then _ else if M.cut≠0 then (⟨L.base,(L.entries.filter fun e=>decide (e.index<M.cut))++M.came⟩:Log) else ⟨L.base,L.entries++M.came⟩)=M.log
 rw[if_neg (by rw[hin];decide)]
 rw[hf.log] at hM
 unfold mergeP at hM
 split at hM
 ·
  exact absurd (.inl (by rw[hM])) h2
 rename_i hrun
 split at hM
 ·
  exact absurd (by rw[hM]) h3
 split at hM
 ·
  exact absurd (.inr (.inl (by rw[hM]))) h2
 have hrm:runE m.index m.logTerm m.entries=true:=by
  have:runP m.index m.logTerm m.entries=true:=by simpa using hrun
  simp only[runP,Bool.and_eq_true] at this
  exact this.2
 cases hfi:m.entries.findIdx? (freshP L) with
 | none =>
  rw[hfi] at hM
  subst hM
  simp
 | some j =>
  rw[hfi] at hM
  obtain⟨hj,-,-⟩:=List.findIdx?_eq_some_iff_getElem.1 hfi
  have hfr:(m.entries[j]?.map (·.index)).getD 0=m.index+1+j:=by
   rw[List.getElem?_eq_getElem hj]
   exact runE_get hrm j _ (List.getElem?_eq_getElem hj)
  dsimp only at hM
  rw[hfr] at hM
  have hpl:=hx.place (m.index+1+j)
  subst hM
  dsimp only
  by_cases hp:placeP L (m.index+1+j)<L.entries.length
  ·
   rw[if_pos hp,if_pos (by omega),filt_take (b:=L.base.index+1) (fun k e hk=>by have:=hx k e hk;omega)]
   congr 3
   omega
  ·
   rw[if_neg hp,if_neg (by simp),List.take_of_length_le (by omega)]
theorem Frsh.put_in (h:Frsh L n) (hx:RunX L) (h0:0≤L.base.index) (s:Snap):Kp L (n.install s):=by
 rcases hf:n.s.log.entries.findIdx? (fun e=>decide (e.index=s.index∧e.term=s.term)) with _ | j
 ·
  have e:n.install s=⟨{ n.s with log:=⟨s,[]⟩,hard:={ n.s.hard with commit:=s.index },part:=Coming.zero },{ n.o with install:=true,cut:=(n.s.log.entries.head?.map (·.index)).getD n.o.cut }⟩:=by unfold Node.install;dsimp only;rw[hf]
  rw[e]
  unfold Kp keepL
  dsimp only
  rw[if_pos rfl,h.log,h.cut,h.entries]
  congr 1
  rw[List.append_nil,List.filter_eq_nil_iff]
  intro y hy
  cases hl:L.entries with
  | nil=>rw[hl] at hy;cases hy
  | cons z t =>
   have:=hx 0 z (by rw[hl];rfl)
   simp only[List.head?_cons,Option.map_some,Option.getD_some,Bool.and_eq_true,decide_eq_true_eq]
   intro hz
   have:=of_decide_eq_true hz.1
   omega
 ·
  have e:n.install s=⟨{ n.s with log:=⟨s,n.s.log.entries.drop (j+1)⟩,hard:={ n.s.hard with commit:=s.index },part:=Coming.zero },{ n.o with install:=true }⟩:=by unfold Node.install;dsimp only;rw[hf]
  rw[e]
  obtain⟨hj0,hj1,-⟩:=List.findIdx?_eq_some_iff_getElem.1 hf
  have hj2:=(of_decide_eq_true hj1).1
  have hje:=List.getElem?_eq_getElem hj0
  unfold Kp keepL
  dsimp only
  rw[if_pos rfl,h.cut,h.entries,List.append_nil]
  congr 1
  have h3:=hx j _ (by rw[←h.log];exact hje)
  rw[h.log]
  simp only[decide_true,Bool.true_and]
  rw[filt_drop (b:=L.base.index+1) (fun k e hk=>by have:=hx k e hk;omega)]
  congr 1
  omega
theorem Frsh.chunk (h:Frsh L n) (hx:RunX L) (h0:0≤L.base.index) (m:Msg):Kp L (n.chunk m):=by
 by_cases hr:n.s.role=4∨checkP m.conf≠0∨n.s.hard.term<m.logTerm
 ·
  rw[chunk_no hr];exact h.kp
 have hf:Frsh L (n.calm m.frm):=h.sm ⟨rfl,rfl,rfl,rfl⟩
 by_cases h1:m.index≤(n.calm m.frm).s.hard.commit
 ·
  rw[chunk_old hr h1];exact hf.kp.sm ⟨rfl,rfl,rfl,rfl⟩
 obtain⟨T,hT⟩:∃ T,T=takeP (n.calm m.frm).s.part m:=⟨_,rfl⟩
 by_cases h2:T.2=false
 ·
  rw[chunk_part hr h1 hT.symm h2];exact hf.kp.sm ⟨rfl,rfl,rfl,rfl⟩
 ·
  rw[chunk_all hr h1 hT.symm h2];exact (hf.put_in hx h0 _).sm ⟨rfl,rfl,rfl,rfl⟩
theorem Frsh.heard (h:Frsh L n) (hx:RunX L) (h0:0≤L.base.index) {m:Msg} (hm0:0≤m.index):Kp L (n.heard m):=by
 unfold Node.heard
 split
 ·
  unfold Node.vote;dsimp only;split<;>exact h.kp.sm ⟨rfl,rfl,rfl,rfl⟩
 split
 ·
  unfold Node.voted;split
  ·
   exact h.kp.stands fun q hq=>hq.lead
  ·
   exact h.kp
 split
 ·
  exact h.grow hx h0 hm0
 split
 ·
  exact h.kp.grown m
 split
 ·
  exact h.chunk hx h0 m
 split
 ·
  unfold Node.chunked;split
  ·
   exact h.kp
  ·
   split
   ·
    unfold Node.piece;split
    ·
     exact h.kp.sm ⟨rfl,rfl,rfl,rfl⟩
    ·
     exact h.kp
   ·
    exact h.kp
 ·
  unfold Node.now;split
  ·
   exact h.kp.stand
  ·
   exact h.kp
theorem Frsh.message (h:Frsh L n) (hx:RunX L) (h0:0≤L.base.index) {m:Msg} (hm0:0≤m.index):Kp L (n.message m):=by
 by_cases hd:n.deaf m
 ·
  rw[message_deaf hd];exact h.kp
 by_cases h1:m.kind=1
 ·
  rw[message_1 hd h1];exact h.kp.sm ⟨rfl,rfl,rfl,rfl⟩
 by_cases h2:m.kind=2
 ·
  rw[message_2 hd h2]
  unfold Node.preVoted;split
  ·
   exact h.kp.sm ⟨rfl,rfl,rfl,rfl⟩
  ·
   split
   ·
    exact h.kp.stands fun q hq=>hq.stand
   ·
    exact h.kp
 by_cases h3:m.kind<3∨9<m.kind
 ·
  rw[message_no hd h1 h2 h3];exact h.kp
 have hr:Frsh L (n.risen m):=by unfold Node.risen;split<;>exact h.sm ⟨rfl,rfl,rfl,rfl⟩
 by_cases h4:m.term<(n.risen m).s.hard.term
 ·
  rw[message_late hd h1 h2 h3 h4]
  unfold Node.late;split
  ·
   exact hr.kp.sm ⟨rfl,rfl,rfl,rfl⟩
  ·
   split
   ·
    exact hr.kp.sm ⟨rfl,rfl,rfl,rfl⟩
   ·
    exact hr.kp
 ·
  rw[message_on hd h1 h2 h3 h4];exact hr.heard hx h0 hm0
theorem step_keeps {r:Raft} {x:Inp} (hx:RunX r.log) (h0:0≤r.log.base.index) (hm0:0≤x.msg.index):keepL r.log (stepP r x).2.1 (stepP r x).1.log.base=(stepP r x).1.log:=by
 have h:Frsh r.log (newN r):=⟨rfl,rfl,rfl,rfl⟩
 by_cases he:((newN r).act x).2≠0
 ·
  rw[stepP_err he];exact h.kp
 ·
  rw[stepP_ok he]
  have:Kp r.log ((newN r).act x).1:=by
   unfold Node.act
   split
   ·
    exact h.kp.tick _
   split
   ·
    exact h.message hx h0 hm0
   split
   ·
    exact h.kp.asked x
   ·
    exact h.kp
  exact this
theorem step_saves {r:Raft} {x:Inp}:(if (stepP r x).2.1.save=true then (stepP r x).1.hard else r.hard)=(stepP r x).1.hard:=by
 by_cases he:((newN r).act x).2≠0
 ·
  rw[stepP_err he];simp
 ·
  rw[stepP_ok he]
  show (if decide (((newN r).act x).1.s.hard≠r.hard)=true then ((newN r).act x).1.s.hard else r.hard)=_
  by_cases hh:((newN r).act x).1.s.hard=r.hard
  ·
   rw[if_neg (by simpa using hh)];exact hh.symm
  ·
   rw[if_pos (by simpa using hh)]
end
end Go.Lw.Safe
namespace Go.Lw.Safe
def takenT (m:Msg):Prop:=3≤m.kind∨m.reject=true
structure Tq (B M i:Int) (n:Node):Prop where
 id:n.s.id=i
 term:n.s.hard.term≤B
 le:B≤M
 msgs:∀ m∈n.o.msgs,m.frm=i∧m.kind≠1∧m.kind≠3∧(takenT m→m.term≤M)
structure Tv (M i:Int) (n:Node):Prop where
 id:n.s.id=i
 term:n.s.hard.term≤M
 msgs:∀ m∈n.o.msgs,m.frm=i∧(m.kind=1∨m.kind=3→i∈n.voters)∧(takenT m→m.term≤M)
section
variable {B M i:Int} {n n':Node}
theorem Tq.tv (h:Tq B M i n):Tv M i n:=⟨h.id,Int.le_trans h.term h.le,fun m hm=>⟨(h.msgs m hm).1,fun z=>by rcases z with z | z;exact absurd z (h.msgs m hm).2.1;exact absurd z (h.msgs m hm).2.2.1,(h.msgs m hm).2.2.2⟩⟩
theorem Tq.of (h:Tq B M i n) (e1:n'.s.id=n.s.id) (e2:n'.s.hard.term=n.s.hard.term) (e3:n'.o.msgs=n.o.msgs):Tq B M i n':=⟨e1.trans h.id,by rw[e2];exact h.term,h.le,by rw[e3];exact h.msgs⟩
theorem Tq.send (h:Tq B M i n) {m:Msg} (h1:m.frm=i) (h2:m.kind≠1∧m.kind≠3) (h3:takenT m→m.term≤M):Tq B M i (n.send m):=⟨h.id,h.term,h.le,fun x hx=>by
 rcases List.mem_append.1 hx with hx | hx
 ·
  exact h.msgs x hx
 ·
  rw[List.mem_singleton.1 hx];exact⟨h1,h2.1,h2.2,h3⟩⟩
theorem Tq.post (h:Tq B M i n) {m:Msg} (h0:m.term=0) (h2:m.kind≠1∧m.kind≠3):Tq B M i (n.post m):=h.send h.id h2 fun _=>by
 show (if m.term=0 then n.s.hard.term else m.term)≤_
 rw[if_pos h0];exact Int.le_trans h.term h.le
theorem Tq.follow (h:Tq B M i n) {t l:Int} (ht:t≤B):Tq B M i (n.follow t l):=⟨h.id,by
 unfold Node.follow
 by_cases hc:n.s.hard.term<t
 ·
  simp only[if_pos hc];exact ht
 ·
  simp only[if_neg hc];exact h.term,h.le,h.msgs⟩
theorem Tq.calm (h:Tq B M i n) (f:Int):Tq B M i (n.calm f):=(h.follow (t:=n.s.hard.term) (l:=f) h.term).of rfl rfl rfl
theorem Tq.piece (h:Tq B M i n) (to frm:Int):Tq B M i (n.piece to frm):=by
 unfold Node.piece
 split
 ·
  rename_i hz
  have e:(pieceP n.s.log.base frm).1.term=0∧(pieceP n.s.log.base frm).1.kind=7:=by
   unfold pieceP at hz ⊢
   split
   ·
    rename_i hc;rw[if_pos hc] at hz;cases hz
   ·
    exact⟨rfl,rfl⟩
  exact h.post e.1 ⟨by show (pieceP n.s.log.base frm).1.kind≠1;rw[e.2];decide,by show (pieceP n.s.log.base frm).1.kind≠3;rw[e.2];decide⟩
 ·
  exact h
theorem Tq.feed (h:Tq B M i n) (p:Peer):Tq B M i (n.feed p):=by
 unfold Node.feed
 split
 ·
  exact h.piece _ _
 ·
  exact h.post rfl ⟨by show (5:Int)≠1;decide,by show (5:Int)≠3;decide⟩
theorem Tq.feeds (l:List Peer):∀ {n:Node},Tq B M i n→Tq B M i (n.feeds l):=by
 induction l with
 | nil=>exact fun h=>h
 | cons p l ih=>exact fun h=>ih (h.feed p)
theorem Tq.spread (h:Tq B M i n):Tq B M i n.spread:=h.feeds _
theorem Tq.count (h:Tq B M i n):Tq B M i n.count:=by
 by_cases hs:n.com≤n.s.hard.commit∨(termP n.s.log n.com).1≠n.s.hard.term
 ·
  rw[count_stay hs];exact h
 ·
  rw[count_go hs]
  have hw:Tq B M i (n.wCommit n.com):=h.of rfl rfl rfl
  split
  ·
   exact hw.follow h.term
  ·
   exact hw
theorem Tq.put (h:Tq B M i n) (e:Entry):Tq B M i (n.put e):=by
 rw[put_eq]
 refine Tq.spread (Tq.count ?_)
 have hp:Tq B M i (n.putE { e with index:=up1 n.last,term:=n.s.hard.term }):=h.of rfl rfl rfl
 split
 ·
  exact hp.of rfl rfl rfl
 ·
  exact hp
theorem Tq.lead (h:Tq B M i n):Tq B M i n.lead:=by
 obtain⟨m,hm⟩:∃ m:Node,m=Node.meet { n with s:={ n.s with role:=4,leader:=n.s.id,ballots:=[],elapsed:=0,beat:=0,transfer:=0,peers:=[] } } (up1 n.last):=⟨_,rfl⟩
 have hk:Tq B M i m:=h.of (by rw[hm];rfl) (by rw[hm];rfl) (by rw[hm];rfl)
 have e:n.lead=m.put ⟨0,0,1,[],⟨[],[]⟩⟩:=by rw[hm];rfl
 rw[e]
 exact hk.put _
theorem Tv.question {n:Node} (hid:n.s.id=i) (ht:n.s.hard.term≤M) (hm:∀ m∈n.o.msgs,m.frm=i∧m.kind≠1∧m.kind≠3∧(takenT m→m.term≤M)) (hv:i∈n.voters) {k t:Int} (hk:k=1∨(k=3∧t≤M)):Tv M i (n.question k t):=⟨hid,ht,fun m h=>by
 rcases List.mem_append.1 h with h | h
 ·
  exact⟨(hm m h).1,fun _=>hv,(hm m h).2.2.2⟩
 ·
  obtain⟨to,-,rfl⟩:=List.mem_map.1 h
  refine⟨hid,fun _=>hv,fun z=>?_⟩
  rcases hk with rfl | ⟨-,h2⟩
  ·
   rcases z with z | z
   ·
    exact absurd (show (3:Int)≤1 from z) (by decide)
   ·
    cases z
  ·
   exact h2⟩
theorem Tq.stand (h:Tq B (B+1) i n) (hv:n.votes=true) (h0:0≤n.s.hard.term) (hB:B<4611686018427387904):Tv (B+1) i n.stand:=by
 have hu:up1 n.s.hard.term=n.s.hard.term+1:=up1_eq h0 (by have:=h.term;omega)
 obtain⟨m,hm⟩:∃ m:Node,m=Node.runs { n with s:={ n.s with hard:={ n.s.hard with term:=up1 n.s.hard.term,vote:=n.s.id } } } 3:=⟨_,rfl⟩
 have hmt:m.s.hard.term=n.s.hard.term+1:=by rw[hm];exact hu
 have hmi:m.s.id=i:=by rw[hm];exact h.id
 have hmo:m.o.msgs=n.o.msgs:=by rw[hm];rfl
 have hmv:i∈m.voters:=by
  have:=of_decide_eq_true hv
  rw[h.id] at this
  rw[hm];exact this
 have ht:=h.term
 have e:n.stand=if m.tally=1 then m.lead else m.question 3 m.s.hard.term:=by rw[hm];rfl
 rw[e]
 split
 ·
  exact (Tq.lead (B:=B+1) ⟨hmi,by omega,Int.le_refl _,by rw[hmo];exact h.msgs⟩).tv
 ·
  exact Tv.question hmi (by omega) (by rw[hmo];exact h.msgs) hmv (.inr ⟨rfl,by omega⟩)
theorem Tq.ask (h:Tq B (B+1) i n) (hv:n.votes=true) (h0:0≤n.s.hard.term) (hB:B<4611686018427387904):Tv (B+1) i n.ask:=by
 have h2:Tq B (B+1) i (n.runs 2):=h.of rfl rfl rfl
 have e:n.ask=if (n.runs 2).tally=1 then (n.runs 2).stand else (n.runs 2).question 1 (up1 (n.runs 2).s.hard.term):=rfl
 rw[e]
 split
 ·
  exact h2.stand hv h0 hB
 ·
  exact Tv.question h2.id (Int.le_trans h2.term h2.le) h2.msgs (by have:=of_decide_eq_true hv;rw[h.id] at this;exact this) (.inl rfl)
theorem Tq.tick (h:Tq B (B+1) i n) (h0:0≤n.s.hard.term) (hB:B<4611686018427387904) (t:Int):Tv (B+1) i (n.tick t):=by
 obtain⟨e,he⟩:∃ e,e=min (sup1 n.s.elapsed) (max n.s.elapsed 1073741824):=⟨_,rfl⟩
 have hw:Tq B (B+1) i (n.wElapsed e):=h.of rfl rfl rfl
 by_cases hr:n.s.role≠4
 ·
  by_cases hv:max t 1≤e∧n.votes=true
  ·
   rw[Node.tick_ask e he hr hv];exact hw.ask hv.2 h0 hB
  ·
   rw[Node.tick_no e he hr hv];exact hw.tv
 ·
  obtain⟨b,hb⟩:∃ b,b=if max t 1≤e then ((n.wElapsed e).wElapsed 0).wTransfer 0 else n.wElapsed e:=⟨_,rfl⟩
  have hs:Tq B (B+1) i b:=by
   rw[hb];split
   ·
    exact hw.of rfl rfl rfl
   ·
    exact hw
  rw[Node.tick_lead e he hr b hb]
  split
  ·
   exact (Tq.spread (n:=(b.wBeat (sup1 b.s.beat)).wBeat 0) (hs.of rfl rfl rfl)).tv
  ·
   exact (show Tq B (B+1) i (b.wBeat (sup1 b.s.beat)) from hs.of rfl rfl rfl).tv
theorem Tq.transfer (h:Tq B M i n) (to:Int):Tq B M i (n.transferTo to).1:=by
 have hw:Tq B M i ⟨{ n.s with transfer:=to,elapsed:=0 },n.o⟩:=h.of rfl rfl rfl
 unfold Node.transferTo
 split
 ·
  exact h
 ·
  split
  ·
   exact h
  ·
   dsimp only
   split
   ·
    exact hw.post rfl ⟨by show (9:Int)≠1;decide,by show (9:Int)≠3;decide⟩
   ·
    exact hw.feed _
theorem Tq.asked (h:Tq B M i n) (x:Inp):Tq B M i (n.asked x).1:=by
 have hw:Tq B M i ⟨n.s,{ n.o with index:=up1 n.last,term:=n.s.hard.term }⟩:=h.of rfl rfl rfl
 unfold Node.asked
 split
 ·
  exact h
 split
 ·
  exact h
 split
 ·
  exact h.transfer _
 dsimp only
 split
 ·
  split
  ·
   exact h
  ·
   exact hw.put _
 ·
  exact hw.put _
theorem Tq.stands (h:Tq B (B+1) i n) {m:Msg} {won:Node→Node} (hw:Tq B (B+1) i (n.addBallot m.frm (!m.reject))→Tv (B+1) i (won (n.addBallot m.frm (!m.reject)))):Tv (B+1) i (n.stands m won):=by
 have hb:Tq B (B+1) i (n.addBallot m.frm (!m.reject)):=h.of rfl rfl rfl
 unfold Node.stands
 dsimp only
 split
 ·
  exact hw hb
 ·
  split
  ·
   exact (hb.follow hb.term).tv
  ·
   exact hb.tv
theorem Tq.grown (h:Tq B M i n) (m:Msg):Tq B M i (n.grown m):=by
 by_cases hno:n.s.role≠4∨n.peer m.frm=none∨n.last<m.index
 ·
  rw[grown_no hno];exact h
 have h0:n.s.role=4:=Classical.byContradiction fun z=>hno (.inl z)
 have h2:¬ n.last<m.index:=fun z=>hno (.inr (.inr z))
 obtain⟨q,hq⟩:∃ q,n.peer m.frm=some q:=by
  cases hp:n.peer m.frm with
  | none=>exact absurd (.inr (.inl hp)) hno
  | some q=>exact⟨q,rfl⟩
 obtain⟨k,hix⟩:=peer_find hq
 by_cases h3:m.reject=true
 ·
  rw[grown_rej h0 hq h2 h3 hix _ rfl]
  exact Tq.feed (n:=n.raise k { q with next:=max (if m.hint<m.index then m.hint+1 else max m.index 1) (up1 q.mat) }) (h.of rfl rfl rfl) _
 ·
  rw[grown_yes h0 hq h2 h3 hix]
  have hra:Tq B M i (n.raise k (q.up m.index)):=h.of rfl rfl rfl
  have hu:=hra.count
  split
  ·
   exact hu
  ·
   generalize (n.raise k (q.up m.index)).count=b at hu
   have hmid:Tq B M i (Node.mid (n.raise k (q.up m.index)) b (q.up m.index)):=by
    unfold Node.mid
    split
    ·
     exact hu.spread
    ·
     split
     ·
      exact hu.feed _
     ·
      exact hu
   have e:Node.after (n.raise k (q.up m.index)) b (q.up m.index) m.frm=if (n.raise k (q.up m.index)).s.transfer=m.frm∧(q.up m.index).mat=(Node.mid (n.raise k (q.up m.index)) b (q.up m.index)).last then (Node.mid (n.raise k (q.up m.index)) b (q.up m.index)).post { Msg.zero with kind:=9,to:=m.frm } else Node.mid (n.raise k (q.up m.index)) b (q.up m.index):=rfl
   rw[e]
   split
   ·
    exact hmid.post rfl ⟨by show (9:Int)≠1;decide,by show (9:Int)≠3;decide⟩
   ·
    exact hmid
theorem six_ok:(6:Int)≠1∧(6:Int)≠3:=⟨by decide,by decide⟩
theorem Tq.grow (h:Tq B M i n) (m:Msg):Tq B M i (n.grow m):=by
 by_cases hr:n.s.role=4
 ·
  unfold Node.grow;rw[if_pos hr];exact h
 have hf:=h.calm m.frm
 by_cases h1:m.index<(n.calm m.frm).s.hard.commit
 ·
  rw[grow_old hr h1];exact hf.post rfl six_ok
 obtain⟨M',hM⟩:∃ M,M=mergeP (n.calm m.frm).s.log (n.calm m.frm).s.hard.commit m.index m.logTerm m.entries:=⟨_,rfl⟩
 by_cases h2:M'.err=1∨M'.err=62∨m.entries.any (Node.strange (n.calm m.frm).s.hard.term)=true
 ·
  rw[grow_bad hr h1 hM.symm h2];exact hf
 by_cases h3:M'.err=61
 ·
  rw[grow_gap hr h1 hM.symm h2 h3];exact hf.post rfl six_ok
 rw[grow_ok hr h1 hM.symm h2 h3]
 exact Tq.post (n:=((((n.calm m.frm).wLog M'.log).wCut M'.cut).wOuts M'.came).wCommit (max (n.calm m.frm).s.hard.commit (min m.commit (m.index+m.entries.length)))) (hf.of rfl rfl rfl) rfl six_ok
theorem Tq.chunk (h:Tq B M i n) (m:Msg):Tq B M i (n.chunk m):=by
 by_cases hr:n.s.role=4∨checkP m.conf≠0∨n.s.hard.term<m.logTerm
 ·
  rw[chunk_no hr];exact h
 have hf:=h.calm m.frm
 by_cases h1:m.index≤(n.calm m.frm).s.hard.commit
 ·
  rw[chunk_old hr h1];exact hf.post rfl six_ok
 obtain⟨T,hT⟩:∃ T,T=takeP (n.calm m.frm).s.part m:=⟨_,rfl⟩
 by_cases h2:T.2=false
 ·
  rw[chunk_part hr h1 hT.symm h2]
  exact Tq.post (n:=(n.calm m.frm).wPart T.1) (hf.of rfl rfl rfl) rfl ⟨by show (8:Int)≠1;decide,by show (8:Int)≠3;decide⟩
 ·
  rw[chunk_all hr h1 hT.symm h2]
  refine Tq.post ?_ rfl six_ok
  generalize n.calm m.frm=q at hf
  refine hf.of ?_ ?_ (install_msgs _)
  ·
   unfold Node.install;dsimp only;split<;>rfl
  ·
   unfold Node.install;dsimp only;split<;>rfl
theorem Tq.heard (h:Tq B (B+1) i n) (h0:0≤n.s.hard.term) (hB:B<4611686018427387904) (m:Msg):Tv (B+1) i (n.heard m):=by
 unfold Node.heard
 split
 ·
  unfold Node.vote;dsimp only
  split
  ·
   exact (Tq.post (n:=⟨{ n.s with hard:={ n.s.hard with vote:=m.frm },elapsed:=0 },n.o⟩) (h.of rfl rfl rfl) rfl ⟨by show (4:Int)≠1;decide,by show (4:Int)≠3;decide⟩).tv
  ·
   exact (h.post rfl ⟨by show (4:Int)≠1;decide,by show (4:Int)≠3;decide⟩).tv
 split
 ·
  unfold Node.voted;split
  ·
   exact h.stands fun hq=>hq.lead.tv
  ·
   exact h.tv
 split
 ·
  exact (h.grow m).tv
 split
 ·
  exact (h.grown m).tv
 split
 ·
  exact (h.chunk m).tv
 split
 ·
  unfold Node.chunked;split
  ·
   exact h.tv
  ·
   split
   ·
    exact (h.piece _ _).tv
   ·
    exact h.tv
 ·
  unfold Node.now;split
  ·
   rename_i hv;exact h.stand hv.2 h0 hB
  ·
   exact h.tv
theorem Tq.message (h:Tq B (B+1) i n) (h0:0≤n.s.hard.term) (hB:B<4611686018427387904) {m:Msg} (hm:takenT m→m.term≤B) (hp:n.s.role=2→n.votes=true):Tv (B+1) i (n.message m):=by
 by_cases hd:n.deaf m
 ·
  rw[message_deaf hd];exact h.tv
 by_cases h1:m.kind=1
 ·
  rw[message_1 hd h1]
  refine (h.send (m:={ Msg.zero with kind:=2,frm:=n.s.id,to:=m.frm,term:=_,reject:=_ }) h.id ⟨by show (2:Int)≠1;decide,by show (2:Int)≠3;decide⟩ fun z=>?_).tv
  rcases z with z | z
  ·
   exact absurd (show (3:Int)≤2 from z) (by decide)
  ·
   have z:(!(decide (n.s.role≠4∧(n.s.leader=0∨4≤n.s.elapsed)) && decide (n.s.hard.term<m.term) && newerP n.s.log m.index m.logTerm))=true:=z
   show (if (decide (n.s.role≠4∧(n.s.leader=0∨4≤n.s.elapsed)) && decide (n.s.hard.term<m.term) && newerP n.s.log m.index m.logTerm)=true then m.term else n.s.hard.term)≤B+1
   rw[Bool.not_eq_true'] at z
   rw[z]
   have:=h.term
   simp only[Bool.false_eq_true,if_false];omega
 by_cases h2:m.kind=2
 ·
  rw[message_2 hd h2]
  unfold Node.preVoted;split
  ·
   rename_i hr;exact (h.follow (hm (.inr hr.1))).tv
  ·
   split
   ·
    rename_i hr;exact h.stands fun hq=>hq.stand (hp hr.1) h0 hB
   ·
    exact h.tv
 by_cases h3:m.kind<3∨9<m.kind
 ·
  rw[message_no hd h1 h2 h3];exact h.tv
 have hmt:m.term≤B:=hm (.inl (by omega))
 have hr:Tq B (B+1) i (n.risen m)∧0≤(n.risen m).s.hard.term:=by
  unfold Node.risen;split
  ·
   rename_i hlt
   have e:(n.follow m.term 0).s.hard.term=m.term:=by unfold Node.follow;simp only[if_pos hlt]
   exact⟨h.follow hmt,by rw[e];omega⟩
  ·
   exact⟨h,h0⟩
 by_cases h4:m.term<(n.risen m).s.hard.term
 ·
  rw[message_late hd h1 h2 h3 h4]
  unfold Node.late;split
  ·
   exact (hr.1.post rfl ⟨by show (4:Int)≠1;decide,by show (4:Int)≠3;decide⟩).tv
  ·
   split
   ·
    exact (hr.1.post rfl six_ok).tv
   ·
    exact hr.1.tv
 ·
  rw[message_on hd h1 h2 h3 h4];exact hr.1.heard hr.2 hB m
theorem step_terms {r:Raft} {x:Inp} (hid:r.id=i) (ht:r.hard.term≤B) (h0:0≤r.hard.term) (hB:B<4611686018427387904) (hm:x.kind=2→takenT x.msg→x.msg.term≤B) (hp:r.role=2→i∈(confP r.log).1.voters) :
  (stepP r x).1.id=i∧(stepP r x).1.hard.term≤B+1∧∀ m∈(stepP r x).2.1.msgs,m.frm=i∧(m.kind=1∨m.kind=3→i∈(confP (stepP r x).1.log).1.voters)∧(takenT m→m.term≤B+1):=by
 have h:Tq B (B+1) i (newN r):=⟨hid,ht,by omega,fun m hm=>by cases hm⟩
 by_cases he:((newN r).act x).2≠0
 ·
  rw[stepP_err he];exact⟨hid,by show r.hard.term≤B+1;omega,fun m hm=>by cases hm⟩
 ·
  rw[stepP_ok he]
  have hv:Tv (B+1) i ((newN r).act x).1:=by
   unfold Node.act
   split
   ·
    exact h.tick h0 hB _
   split
   ·
    rename_i hk;exact h.message h0 hB (hm hk) fun z=>by
     have:=hp z
     show decide (r.id∈(confP r.log).1.voters)=true
     rw[hid];exact decide_eq_true this
   split
   ·
    exact (h.asked x).tv
   ·
    exact h.tv
  exact⟨hv.id,hv.term,hv.msgs⟩
end
end Go.Lw.Safe
namespace Go.Lw.Safe
structure Wd where
 s:List Raft
 kept:List View
 bag:List Msg
 lead:List Int
 term:List Int
 told:List Entry
 snap:List Entry
structure NodeOk (c0:Conf) (g:G) (c:Nat) (i:Int) (r:Raft):Prop where
 inv:NInv c0 g i r
 sound:Sound c r
 fit:Lw.Fit (200+203*c) r
 top:r.hard.term≤1+c
structure WInv (n:Nat) (c0:Conf) (g:G) (c:Nat) (w:Wd):Prop where
 len:w.s.length=n
 klen:w.kept.length=n
 seven:n≤7
 inv:Inv c0 g
 node:∀ (i:Nat) (r:Raft),w.s[i]?=some r→NodeOk c0 g c (i+1) r
 kept:∀ (i:Nat) (r:Raft) (v:View),w.s[i]?=some r→w.kept[i]?=some v→v=⟨r.hard,r.log,false⟩
 bag:∀ m∈w.bag,MInv c0 g m∧(takenT m→m.term≤1+c)
 blen:w.bag.length≤400
 led:w.lead.length=w.term.length∧∀ (k:Nat) (t b:Int),w.term[k]?=some t→w.lead[k]?=some b→g.hist t≠[]∧g.owner t=b
 told:∀ x∈w.told,∃ t k n,g.ev t k n∧x∈(g.hist t).take k
 snap:∀ x∈w.snap,x.data.length≤100
 size:∀ t,(g.hist t).length≤c
section
variable {n c:Nat} {c0:Conf} {g:G} {w:Wd}
theorem NodeOk.full_le {i:Int} {r:Raft} (h:NInv c0 g i r) {L:Nat} (hs:∀ t,(g.hist t).length≤L):(g.full i).length≤L:=by
 cases hz:(g.full i).getLast? with
 | none=>rw[List.getLast?_eq_none_iff.1 hz];exact Nat.zero_le _
 | some y=>exact Nat.le_trans (h.sits.last hz).length_le (hs _)
theorem NodeOk.last_le {i:Int} {r:Raft} (h:NInv c0 g i r) {L:Nat} (hs:∀ t,(g.hist t).length≤L):(lastP r.log).1≤1+L:=by
 have hf:=NodeOk.full_le h hs
 rcases h.log with ⟨h1,-⟩ | ⟨b,κ,h1,-⟩
 ·
  rw[h1.last];simp only;omega
 ·
  rw[h1.last h.idx];simp only;omega
theorem NodeOk.bd {i:Int} {r:Raft} (h:NodeOk c0 g c i r) (hs:∀ t,(g.hist t).length≤c) (hc:c≤1000):Bd r:=⟨h.sound.t0,by have:=h.top;omega,by have:=NodeOk.last_le h.inv hs;omega⟩
theorem WInv.sub (h:WInv n c0 g c w) {b:List Msg} (hb:∀ m∈b,m∈w.bag) (hl:b.length≤400):WInv n c0 g c { w with bag:=b }:={ h with bag:=fun m hm=>h.bag m (hb m hm),blen:=hl }
theorem NodeOk.mono {i:Int} {r:Raft} {d:Nat} (h:NodeOk c0 g c i r) (hd:c≤d):NodeOk c0 g d i r:=⟨h.inv,h.sound.mono hd,h.fit.mono (by omega),by have:=h.top;omega⟩
theorem WInv.mono {d:Nat} (h:WInv n c0 g c w) (hd:c≤d):WInv n c0 g d w :=
 { h with node:=fun i r hi=>(h.node i r hi).mono hd,bag:=fun m hm=>⟨(h.bag m hm).1,fun z=>by have:=(h.bag m hm).2 z;omega⟩,size:=fun t=>Nat.le_trans (h.size t) hd }
theorem WInv.step (h:WInv n c0 g c w) {i:Nat} {r:Raft} {x:Inp} (hi:w.s[i]?=some r) (hx:x.kind=2→MInv c0 g x.msg∧(takenT x.msg→x.msg.term≤1+c)) (hd:x.data.length≤100) (hif:IFit 200 x) (hc:c≤900) {b:List Msg} (hb:∀ m∈b,m∈w.bag∨m∈(stepP r x).2.1.msgs) (hbl:b.length≤400) :
  ∃ g',(∀ j t,g.vote j t≠0→g'.vote j t=g.vote j t)∧(∀ m∈(stepP r x).2.1.msgs,MInv c0 g' m∧m.frm=i+1∧(m.kind=1∨m.kind=3→(i:Int)+1∈(confP (stepP r x).1.log).1.voters)) ∧
   WInv n c0 g' (c+1) { w with s:=w.s.set i (stepP r x).1,kept:=w.kept.set i ⟨(stepP r x).1.hard,(stepP r x).1.log,false⟩,bag:=b }:=by
 have hn:=h.node i r hi
 obtain⟨g',hG,hI,hN,hM⟩:=step_safe h.inv hn.inv (hn.bd h.size (by omega)) (fun z=>(hx z).1) hd
 have hil:i<w.s.length:=get_lt hi
 have hr2:r.role=2→(i:Int)+1∈(confP r.log).1.voters:=fun z=>by
  obtain⟨b,hcut⟩:=hn.inv.real (by rw[z];decide)
  rw[hcut.conf_];exact hn.inv.pre z
 obtain⟨t1,t2,t3⟩:=step_terms (i:=(i:Int)+1) (B:=1+c) hn.inv.id hn.top hn.sound.t0 (by omega) (fun z=>(hx z).2) hr2
 have hgo:=go_step hn.sound hn.fit hif.msg.term (by omega) (by omega)
 have hft:=fit_step hn.fit hif (by omega)
 have hr':NodeOk c0 g' (c+1) (i+1) (stepP r x).1:=⟨hN,hgo.1,hft.mono (by omega),by omega⟩
 refine⟨g',hG.vote,fun m hm=>⟨hM m hm,(t3 m hm).1,(t3 m hm).2.1⟩,⟨by simp only[List.length_set];exact h.len,by simp only[List.length_set];exact h.klen,h.seven,hI,fun j q hj=>?_,fun j q v hj hv=>?_,fun m hm=>?_,hbl,⟨h.led.1,fun k t b h1 h2=>?_⟩,fun y hy=>?_,h.snap,fun t=>hG.size c h.size t⟩⟩
 ·
  simp only[List.getElem?_set] at hj
  by_cases hij:i=j
  ·
   subst hij
   simp only[if_true,if_pos hil,Option.some.injEq] at hj
   subst hj;exact hr'
  ·
   rw[if_neg hij] at hj
   have hq:=(h.node j q hj).mono (Nat.le_add_right c 1)
   exact⟨hq.inv.other h.inv hG (by omega),hq.sound,hq.fit,hq.top⟩
 ·
  simp only[List.getElem?_set] at hj hv
  by_cases hij:i=j
  ·
   subst hij
   have hkl:i<w.kept.length:=by rw[h.klen,← h.len];exact hil
   simp only[if_true,if_pos hil,if_pos hkl,Option.some.injEq] at hj hv
   subst hj hv;rfl
  ·
   rw[if_neg hij] at hj hv
   exact h.kept j q v hj hv
 ·
  rcases hb m hm with hm | hm
  ·
   obtain⟨a1,a2⟩:=h.bag m hm
   exact⟨a1.grow_ h.inv hG,fun z=>by have:=a2 z;omega⟩
  ·
   exact⟨hM m hm,fun z=>by have:=(t3 m hm).2.2 z;omega⟩
 ·
  obtain⟨a1,a2⟩:=h.led.2 k t b h1 h2
  exact⟨hG.some a1,(hG.owner t a1).trans a2⟩
 ·
  obtain⟨t,k,m,a1,a2⟩:=h.told y hy
  exact⟨t,k,m,hG.ev _ _ _ a1,by rw[hG.take (h.inv.ev_le a1)];exact a2⟩
theorem newR_ok {i:Int} {r:Raft} (h:NodeOk c0 g c i r):NodeOk c0 g c i (newR r.id ⟨r.hard,r.log,false⟩):=by
 have e:newR r.id ⟨r.hard,r.log,false⟩=⟨r.id,r.hard,r.log,1,0,[],[],0,0,0,⟨0,0,[]⟩⟩:=rfl
 rw[e]
 exact⟨h.inv.down rfl rfl ⟨by show (1:Int)≠3;decide,by show (1:Int)≠4;decide⟩ (fun z=>absurd rfl z) (fun z=>absurd rfl z) rfl (.inl rfl),
  { h.sound with role:=by show (1:Int)≤1∧(1:Int)≤4;omega,lead:=fun z=>by have:(3:Int)≤1:=z;omega },
  { h.fit with ballots:=Nat.zero_le _,peers:=Nat.zero_le _,mats:=fun p hp=>(by cases hp),pindex:=by simp[rng],pterm:=by simp[rng],part:=Nat.zero_le _ },h.top⟩
theorem newR_fine {i:Int} {r:Raft} (h:NodeOk c0 g c i r) (hI:Inv c0 g) (hs:∀ t,(g.hist t).length≤c) (hc:c≤1000):newBad r.id r.hard r.log false=false:=by
 have hsd:=h.sound
 have hlast:=NodeOk.last_le h.inv hs
 have htop:=h.top
 have hok:=hsd.ok h.fit (by omega) (by omega)
 have hmay:mayP (confP r.log).1=true∧mayP r.log.base.conf=true:=by
  rcases h.inv.log with ⟨h1,-⟩ | ⟨b,κ,h1,-⟩
  ·
   refine⟨by rw[h1.conf_];rfl,?_⟩
   rw[h1.2.2.1];rfl
  ·
   have ht:∀ e∈g.full i,Tiny e:=fun e he=>by
    obtain⟨k,hk,rfl⟩:=List.getElem_of_mem he
    have h2:=List.getElem?_eq_getElem hk
    exact hI.tiny _ _ (List.mem_of_getElem? (pre_get (h.inv.sits k _ h2) (get_take h2 (Nat.lt_succ_self k))))
   refine⟨?_,?_⟩
   ·
    rw[h1.conf_];unfold mayP;rw[conf_right hI.base ht];simp
   ·
    rw[h1.conf];unfold mayP;rw[conf_right hI.base fun e he=>ht e (List.mem_of_mem_take he)];simp
 unfold newBad
 have e1:=hsd.id
 have e2:=hsd.low
 have e3:=hsd.high
 have e4:=hsd.lt
 have e5:=hsd.vote
 rw[hok,hmay.1,hmay.2,decide_eq_false (show ¬ (r.id<1∨7<r.id) by omega),decide_eq_false (show ¬ (p61≤(lastP r.log).1∨p61≤r.hard.term) by simp only[p61];omega),decide_eq_false (show ¬ r.hard.term<(lastP r.log).2 by omega),
  decide_eq_false (show ¬ (r.hard.commit<r.log.base.index∨(lastP r.log).1<r.hard.commit) by omega),decide_eq_false (show ¬ (r.hard.vote<0∨7<r.hard.vote) by omega)]
 rfl
theorem set_node {l:List Raft} {i:Nat} {r q:Raft} {j:Nat} {z:Raft} (hi:l[i]?=some r) (hj:(l.set i q)[j]?=some z):(i=j∧z=q)∨(i≠j∧l[j]?=some z):=by
 rw[List.getElem?_set] at hj
 by_cases hij:i=j
 ·
  subst hij
  rw[if_pos rfl,if_pos (get_lt hi)] at hj
  exact .inl ⟨rfl,(Option.some.inj hj).symm⟩
 ·
  rw[if_neg hij] at hj;exact .inr ⟨hij,hj⟩
theorem WInv.rise (h:WInv n c0 g c w) {i:Nat} {r:Raft} {v:View} (hi:w.s[i]?=some r) (hv:w.kept[i]?=some v) (hc:c≤1000):newP r.id v.hard v.log v.gone=(newR r.id v,0)∧WInv n c0 g c { w with s:=w.s.set i (newR r.id v) }:=by
 have hk:=h.kept i r v hi hv
 subst hk
 have hn:=h.node i r hi
 refine⟨newP_ok (v:=⟨r.hard,r.log,false⟩) (newR_fine hn h.inv h.size hc),{ h with len:=by simp only[List.length_set];exact h.len,node:=fun j z hj=>?_,kept:=fun j z u hj hu=>?_ }⟩
 ·
  rcases set_node hi hj with ⟨rfl,rfl⟩ | ⟨-,hj⟩
  ·
   exact newR_ok hn
  ·
   exact h.node j z hj
 ·
  rcases set_node hi hj with ⟨rfl,rfl⟩ | ⟨-,hj⟩
  ·
   rw[hv] at hu;rw[←Option.some.inj hu];rfl
  ·
   exact h.kept j z u hj hu
theorem committed_same (hI:Inv c0 g) {x y:Entry} {t u:Int} {k m k' m':Nat} (h1:g.ev t k m) (h2:g.ev u k' m') (hx:x∈(g.hist t).take k) (hy:y∈(g.hist u).take k') (he:x.index=y.index):x=y:=by
 obtain⟨p,hp,rfl⟩:=List.getElem_of_mem hx
 obtain⟨q,hq,rfl⟩:=List.getElem_of_mem hy
 have hx1:=List.getElem?_eq_getElem hp
 have hy1:=List.getElem?_eq_getElem hq
 have e1:=hI.idx t p _ (take_get hx1).1
 have e2:=hI.idx u q _ (take_get hy1).1
 have hpq:p=q:=by omega
 subst hpq
 rcases hI.right.agree maj_meets h1 h2 with h | h
 ·
  have:=pre_get h hx1
  rw[hy1] at this;exact (Option.some.inj this).symm
 ·
  have:=pre_get h hy1
  rw[hx1] at this;exact Option.some.inj this
theorem node_told {i:Int} {r:Raft} (h:NInv c0 g i r) {x:Entry} (hx:x∈r.log.entries) (hle:x.index≤r.hard.commit):∃ t k m,g.ev t k m∧x∈(g.hist t).take k:=by
 rcases h.log with ⟨h1,-⟩ | ⟨b,κ,h1,h2,h3,h4,h5,-⟩
 ·
  rw[h1.2.2.2] at hx;cases hx
 ·
  obtain⟨q,hq,rfl⟩:=List.getElem_of_mem hx
  have hF:=h1.get.1 (List.getElem?_eq_getElem hq)
  have hix:=h.idx _ _ hF
  have hin:(g.full i).take κ≠[]:=fun hz=>by
   have:=get_take hF (show b+q<κ by omega)
   rw[hz] at this;cases this
  rcases h5 with h5 | ⟨t,k,m,a1,-,a3⟩
  ·
   exact absurd h5 hin
  ·
   exact⟨t,k,m,a1,List.mem_of_getElem? (pre_get a3 (get_take hF (by omega)))⟩
theorem WInv.tell (h:WInv n c0 g c w) {i:Nat} {r:Raft} (hi:w.s[i]?=some r) {x:Entry} (hx:x∈r.log.entries) (hle:x.index≤r.hard.commit):(∀ y∈w.told,y.index=x.index→y=x)∧WInv n c0 g c { w with told:=w.told++[x] }:=by
 obtain⟨t,k,m,a1,a2⟩:=node_told (h.node i r hi).inv hx hle
 refine⟨fun y hy he=>?_,{ h with told:=fun y hy=>?_ }⟩
 ·
  obtain⟨u,k',m',b1,b2⟩:=h.told y hy
  exact committed_same h.inv b1 a1 b2 a2 he
 ·
  rcases List.mem_append.1 hy with hy | hy
  ·
   exact h.told y hy
  ·
   rw[List.mem_singleton.1 hy];exact⟨t,k,m,a1,a2⟩
theorem WInv.leads (h:WInv n c0 g c w) {i:Nat} {r:Raft} (hi:w.s[i]?=some r) (hr:r.role=4):(∀ (k:Nat) (t b:Int),w.term[k]?=some t→w.lead[k]?=some b→t=r.hard.term→b=r.id)∧WInv n c0 g c { w with lead:=w.lead++[r.id],term:=w.term++[r.hard.term] }:=by
 have hn:=(h.node i r hi).inv
 obtain⟨l1,l2,l3,-⟩:=hn.lead hr
 have hne:g.hist r.hard.term≠[]:=by rw[l2];exact l3
 refine⟨fun k t b h1 h2 ht=>?_,{ h with led:=⟨by simp only[List.length_append,List.length_singleton];have:=h.led.1;omega,fun k t b h1 h2=>?_⟩ }⟩
 ·
  have:=(h.led.2 k t b h1 h2).2
  rw[ht,l1] at this
  rw[←this,hn.id]
 ·
  by_cases hk:k<w.term.length
  ·
   rw[List.getElem?_append_left hk] at h1
   rw[List.getElem?_append_left (by have:=h.led.1;omega)] at h2
   exact h.led.2 k t b h1 h2
  ·
   have hk1:=get_lt h1
   simp only[List.length_append,List.length_singleton] at hk1
   have hkt:k=w.term.length:=by omega
   subst hkt
   rw[List.getElem?_append_right (Nat.le_refl _)] at h1
   rw[List.getElem?_append_right (by rw[h.led.1];exact Nat.le_refl _),h.led.1] at h2
   simp at h1 h2
   subst h1 h2
   exact⟨hne,l1.trans hn.id.symm⟩
end
end Go.Lw.Safe
namespace Go.Lw.Safe
section
variable {n c:Nat} {c0:Conf} {g:G} {w:Wd}
theorem CutAt.seek_at {F:List Entry} {L:Log} {b:Nat} (h:CutAt c0 F L b) (hi:Idx F) {k:Nat} (h1:b≤k) (h2:k≤F.length):seekP L (1+k)=(tAt F k,true):=by
 by_cases hk:k=b
 ·
  subst hk
  unfold seekP
  rw[if_pos h.index.symm,h.term]
 ·
  obtain⟨e,he⟩:=get_some (a:=F) (k:=k-1) (by omega)
  have hL:L.entries[k-1-b]?=some e:=by rw[h.get,show b+(k-1-b)=k-1 by omega];exact he
  have hix:=hi _ _ he
  have:=seek_in (h.runX hi) (List.mem_of_getElem? hL)
  rw[show e.index=1+(k:Int) by omega] at this
  rw[this]
  unfold tAt
  rw[if_neg (by omega),he];rfl
def compactP (l:Log) (x:Int) (data:List Int):Log:=⟨⟨x,(seekP l x).1,((confE (l.entries.filter fun e=>decide (e.index≤x))).map (·.1)).getD l.base.conf,data⟩,l.entries.filter fun e=>decide (x<e.index)⟩
theorem filt_le {l:List Entry} {b x:Int} (h:∀ (k:Nat) (e:Entry),l[k]?=some e→e.index=b+k):(l.filter fun e=>decide (e.index≤x))=l.take (x+1-b).toNat:=by
 rw[←filt_take h]
 refine List.filter_congr fun e _=>?_
 rw[decide_eq_decide];omega
theorem CutAt.compact {F:List Entry} {L:Log} {b κ:Nat} (h:CutAt c0 F L b) (hi:Idx F) (hb:b≤κ) (hk:κ≤F.length) (data:List Int):CutAt c0 F (compactP L (1+κ) data) κ:=by
 have hx:=h.runX hi
 have hq:∀ (k:Nat) (e:Entry),L.entries[k]?=some e→e.index=(L.base.index+1)+k:=fun k e he=>hx k e he
 have hbi:=h.index
 refine⟨hk,rfl,by show (seekP L (1+κ)).1=_;rw[h.seek_at hi hb hk],?_,?_⟩
 ·
  show ((confE (L.entries.filter fun e=>decide (e.index≤1+(κ:Int)))).map (·.1)).getD L.base.conf=_
  rw[filt_le hq,show (1+(κ:Int)+1-(L.base.index+1)).toNat=κ-b by omega,← conf_confE,h.conf,h.entries]
  unfold cOf Safe.conf
  rw[←List.foldl_append,List.take_drop,show b+(κ-b)=κ by omega]
  congr 1
  have:(F.take κ).take b=F.take b:=by rw[List.take_take,Nat.min_eq_left hb]
  rw[←this,List.take_append_drop]
 ·
  show (L.entries.filter fun e=>decide (1+(κ:Int)<e.index))=_
  rw[filt_drop hq,show (1+(κ:Int)+1-(L.base.index+1)).toNat=κ-b by omega,h.entries,List.drop_drop,show b+(κ-b)=κ by omega]
theorem NodeOk.compact {i:Int} {r:Raft} (h:NodeOk c0 g c i r) (hI:Inv c0 g) (hs:∀ t,(g.hist t).length≤c) (hc:c≤1000) (h1:r.log.base.index<r.hard.commit) {data:List Int} (hd:data.length≤100):NodeOk c0 g c i { r with log:=compactP r.log r.hard.commit data }:=by
 rcases h.inv.log with ⟨-,-,h2⟩ | ⟨b,κ,k1,k2,k3,k4,k5,k6⟩
 ·
  have:=h.fit.log.index;simp only[rng] at this;omega
 have hcut:=k1.compact h.inv.idx k3 k4 data
 rw[←k2] at hcut
 have hbi:=k1.index
 have hx:=k1.runX h.inv.idx
 have hlast:=(k1.last h.inv.idx)
 have hlast':=hcut.last h.inv.idx
 have hfull:=NodeOk.full_le h.inv hs
 -- the last entry of what goes away
 obtain⟨e,he⟩:=get_some (a:=g.full i) (k:=κ-1) (by omega)
 have hL:r.log.entries[κ-1-b]?=some e:=by rw[k1.get,show b+(κ-1-b)=κ-1 by omega];exact he
 have hlt:=get_lt hL
 have hge:r.log.entries[κ-1-b]=e:=by rw[List.getElem?_eq_getElem hlt] at hL;exact Option.some.inj hL
 have hei:=h.inv.idx _ _ he
 have hte:tAt (g.full i) κ=e.term:=by unfold tAt;rw[if_neg (by omega),he];rfl
 have hrun:=runE_drop (κ-1-b) hlt h.sound.run
 rw[hge] at hrun
 have hent:(compactP r.log r.hard.commit data).entries=r.log.entries.drop (κ-1-b+1):=by
  rw[hcut.entries,k1.entries,List.drop_drop,show b+(κ-1-b+1)=κ by omega]
 have heT:=h.inv.low e (List.mem_of_getElem? he)
 have hsl:=h.sound.lt
 have hsh:=h.sound.high
 have hew:e.within (200+203*c):=by rw[←hge];exact h.fit.log.entries _ (List.getElem_mem hlt)
 have hcr:=hcut.conf
 have hck:checkP (compactP r.log r.hard.commit data).base.conf=0:=by
  rw[hcr]
  refine conf_right hI.base fun y hy=>?_
  obtain⟨q,hq,rfl⟩:=List.getElem_of_mem (List.mem_of_mem_take hy)
  have h2:=List.getElem?_eq_getElem hq
  exact hI.tiny _ _ (List.mem_of_getElem? (pre_get (h.inv.sits q _ h2) (get_take h2 (Nat.lt_succ_self q))))
 have hbt:(compactP r.log r.hard.commit data).base.term=e.term:=by rw[hcut.term,hte]
 refine⟨{ h.inv with log:= .inr ⟨κ,κ,hcut,k2,Nat.le_refl _,k4,k5,k6⟩,real:=fun _=>⟨κ,hcut⟩ },?_,?_,h.top⟩
 ·
  refine { h.sound with run:=?_,bt:=?_,low:=Int.le_refl _,high:=?_,lt:=?_ }
  ·
   show runE r.hard.commit (compactP r.log r.hard.commit data).base.term (compactP r.log r.hard.commit data).entries=true
   rw[hent,hbt,k2,show (1:Int)+κ=e.index by omega];exact hrun
  ·
   show (compactP r.log r.hard.commit data).base.term≤r.hard.term
   rw[hbt];exact heT
  ·
   show r.hard.commit≤(lastP (compactP r.log r.hard.commit data)).1
   rw[hlast',← hlast];exact hsh
  ·
   show (lastP (compactP r.log r.hard.commit data)).2≤r.hard.term
   rw[hlast',← hlast];exact hsl
 ·
  refine { h.fit with log:=⟨h.fit.commit,by rw[hbt];exact hew.2.1,⟨?_,?_⟩,by show data.length≤_;omega,fun y hy=>h.fit.log.entries y (by rw[hent] at hy;exact List.mem_of_mem_drop hy),?_,?_,fun q y hy=>?_⟩ }
  ·
   show (compactP r.log r.hard.commit data).base.conf.voters.length≤_
   have:=(check_seven hck).1;omega
  ·
   show (compactP r.log r.hard.commit data).base.conf.learners.length≤_
   have:=(check_seven hck).2;omega
  ·
   have:=h.fit.log.count
   rw[hent,List.length_drop];omega
  ·
   show r.hard.commit<p61
   simp only[p61];omega
  ·
   have:=hcut.runX h.inv.idx q y hy
   have hq:=get_lt hy
   rw[show ({ r with log:=compactP r.log r.hard.commit data }:Raft).log=compactP r.log r.hard.commit data from rfl,hent,List.length_drop] at hq
   have h9:(compactP r.log r.hard.commit data).base.index=1+(κ:Int):=hcut.index
   have h10:=h.fit.log.count
   show y.index=IntKind.u64.wrap ((compactP r.log r.hard.commit data).base.index+1+q)
   rw[wrap_id (by omega) (by omega)];exact this
theorem WInv.compact (h:WInv n c0 g c w) {i:Nat} {r:Raft} (hi:w.s[i]?=some r) (hc:c≤1000) (h1:r.log.base.index<r.hard.commit) {data:List Int} (hd:data.length≤100) {x:Entry} (hx:x.data=data) :
  WInv n c0 g c { w with s:=w.s.set i { r with log:=compactP r.log r.hard.commit data },kept:=w.kept.set i ⟨r.hard,compactP r.log r.hard.commit data,false⟩,snap:=w.snap++[x] }:=by
 have hil:=get_lt hi
 refine { h with len:=by simp only[List.length_set];exact h.len,klen:=by simp only[List.length_set];exact h.klen,node:=fun j z hj=>?_,kept:=fun j z v hj hv=>?_,snap:=fun y hy=>?_ }
 ·
  rcases set_node hi hj with ⟨rfl,rfl⟩ | ⟨-,hj⟩
  ·
   exact (h.node i r hi).compact h.inv h.size hc h1 hd
  ·
   exact h.node j z hj
 ·
  rcases set_node hi hj with ⟨rfl,rfl⟩ | ⟨hij,hj⟩
  ·
   rw[List.getElem?_set,if_pos rfl,if_pos (by rw[h.klen,← h.len];exact hil)] at hv
   rw[←Option.some.inj hv]
  ·
   rw[List.getElem?_set,if_neg hij] at hv
   exact h.kept j z v hj hv
 ·
  rcases List.mem_append.1 hy with hy | hy
  ·
   exact h.snap y hy
  ·
   rw[List.mem_singleton.1 hy,hx];exact hd
def beginV (c:Conf):View:=⟨⟨1,0,1⟩,⟨⟨1,1,c,[]⟩,[]⟩,false⟩
def blankV:View:=⟨⟨0,0,0⟩,⟨⟨0,0,⟨[],[]⟩,[]⟩,[]⟩,false⟩
def g0:G:={ hist:=fun _=>[],ack:=fun _ _=>0,ev:=fun _ _ _=>False,vote:=fun _ _=>0,vlog:=fun _ _=>[],clog:=fun _ _=>[],owner:=fun _=>0,full:=fun _=>[] }
theorem g0_inv (h:checkP c0=0):Inv c0 g0 :=
 ⟨h,fun _ e he=>(by cases he),⟨fun _ k e he=>(by cases he),fun _ _ _ _ _ _ ha=>(by cases ha),fun _ e he=>(by cases he),fun _ h=>absurd rfl h,fun _ _ _ _ h=>(by cases h),fun _ _ _ h=>h.elim,fun _ h=>absurd rfl h⟩,fun _ k e he=>(by cases he),fun _ _=>Nat.le_refl _,fun _ h=>absurd rfl h,fun _ h=>absurd rfl h,fun _ _ h=>absurd rfl h⟩
theorem start_node {i:Int} (h1:1≤i) (h7:i≤7) {v:View} (hv:v=beginV c0∨v=blankV) (h0:checkP c0=0):newP i v.hard v.log v.gone=(newR i v,0)∧NodeOk c0 g0 0 i (newR i v):=by
 have hmay:mayP c0=true:=by unfold mayP;rw[h0];simp
 have hsv:=check_seven h0
 refine⟨newP_ok ?_,?_⟩
 ·
  rcases hv with rfl | rfl
  ·
   have hz:confP (beginV c0).log=(c0,0):=rfl
   simp only[newBad,hz]
   simp[beginV,logOk,runP,runE,lastP,p61,p62,hmay]
   omega
  ·
   have hz:confP blankV.log=(⟨[],[]⟩,0):=rfl
   simp only[newBad,hz]
   simp[blankV,logOk,runP,runE,lastP,p61,p62,mayP,blankP]
   omega
 ·
  have e:∀ v,newR i v=⟨i,v.hard,v.log,1,0,[],[],0,0,0,⟨0,0,[]⟩⟩:=fun v=>rfl
  rcases hv with rfl | rfl
  ·
   rw[e]
   refine⟨⟨rfl,by omega,fun k e he=>(by cases he),fun k e he=>(by cases he),fun e he=>(by cases he),.inr ⟨0,0,⟨Nat.le_refl _,rfl,rfl,rfl,rfl⟩,rfl,Nat.le_refl _,Nat.le_refl _,.inl rfl,Int.le_refl _⟩,fun z=>absurd rfl z,fun z=>absurd (show (1:Int)=2 from z) (by decide),rfl,fun _ _=>rfl,fun t k h0 hk=>?_,fun z=>absurd (show (1:Int)=4 from z) (by decide),fun z=>absurd (show (1:Int)=3 from z) (by decide)⟩,⟨rfl,Int.le_refl _,Int.le_refl _,Int.le_refl _,Int.le_refl _,by show (1:Int)≤p61+((0:Nat):Int);simp only[p61];omega,by show (0:Int)≤0∧(0:Int)≤7;omega,by show (1:Int)≤1∧(1:Int)≤4;omega,⟨h1,h7⟩,fun _=>Int.le_refl _,by show (0:Int)≤1;omega⟩,?_,by show (1:Int)≤1+((0:Nat):Int);omega⟩
   ·
    have:k≤0:=hk
    omega
   ·
    exact⟨by simp only[rng];omega,by simp[rng,beginV],by simp[rng,beginV],by simp[rng,beginV],⟨by simp[rng,beginV],by simp[rng,beginV],⟨by show c0.voters.length≤_;omega,by show c0.learners.length≤_;omega⟩,Nat.zero_le _,fun e he=>(by cases he),Nat.zero_le _,by simp[beginV,p61],fun k e he=>(by cases he)⟩,Nat.zero_le _,Nat.zero_le _,fun p hp=>(by cases hp),by simp[rng],by simp[rng],Nat.zero_le _⟩
  ·
   rw[e]
   refine⟨⟨rfl,by omega,fun k e he=>(by cases he),fun k e he=>(by cases he),fun e he=>(by cases he),.inl ⟨⟨rfl,rfl,rfl,rfl⟩,rfl,rfl⟩,fun z=>absurd rfl z,fun z=>absurd (show (1:Int)=2 from z) (by decide),rfl,fun _ _=>rfl,fun t k h0 hk=>?_,fun z=>absurd (show (1:Int)=4 from z) (by decide),fun z=>absurd (show (1:Int)=3 from z) (by decide)⟩,⟨rfl,Int.le_refl _,Int.le_refl _,Int.le_refl _,Int.le_refl _,by show (0:Int)≤p61+((0:Nat):Int);simp only[p61];omega,by show (0:Int)≤0∧(0:Int)≤7;omega,by show (1:Int)≤1∧(1:Int)≤4;omega,⟨h1,h7⟩,fun z=>absurd (show (3:Int)≤1 from z) (by decide),Int.le_refl _⟩,?_,by show (0:Int)≤1+((0:Nat):Int);omega⟩
   ·
    have:k≤0:=hk
    omega
   ·
    exact⟨by simp only[rng];omega,by simp[rng,blankV],by simp[rng,blankV],by simp[rng,blankV],⟨by simp[rng,blankV],by simp[rng,blankV],⟨Nat.zero_le _,Nat.zero_le _⟩,Nat.zero_le _,fun e he=>(by cases he),Nat.zero_le _,by simp[blankV,p61],fun k e he=>(by cases he)⟩,Nat.zero_le _,Nat.zero_le _,fun p hp=>(by cases hp),by simp[rng],by simp[rng],Nat.zero_le _⟩
end
end Go.Lw.Safe
namespace Go.Lw
open Go.Proofs
attribute [local irreducible] RL RA
theorem compact_conf (l:Log) (x:Int) (data:List Int):(Safe.compactP l x data).base.conf=(confP (uptoL l x)).1:=by
 unfold Safe.compactP confP uptoL
 dsimp only
 cases confE (l.entries.filter fun e=>decide (e.index≤x))<;>rfl
theorem filt_gt {l:List Entry} {x:Int} {k:Nat} (hk:k<l.length) (h:x<l[k].index):((l.take (k+1)).filter fun e=>decide (x<e.index))=((l.take k).filter fun e=>decide (x<e.index))++[l[k]]:=by
 rw[List.take_succ_eq_append_getElem hk,List.filter_append];simp[h]
theorem filt_not {l:List Entry} {x:Int} {k:Nat} (hk:k<l.length) (h:¬ x<l[k].index):((l.take (k+1)).filter fun e=>decide (x<e.index))=((l.take k).filter fun e=>decide (x<e.index)):=by
 rw[List.take_succ_eq_append_getElem hk,List.filter_append];simp[h]
theorem seekP_rng {r s:Res} {l:Log} {h:Hd} {x:Int} (hl:LogAt r s l h):rng .u64 (seekP l x).1:=by
 unfold seekP
 split
 ·
  exact hl.term
 ·
  split
  ·
   rename_i e he
   obtain⟨vs,hE⟩:=hl.entries.all e (List.mem_of_find?_eq_some he)
   obtain⟨ea,ec,ea1,ec1,ea2,ec2,hvs,r1,r2,r3,hrest⟩:=hE
   exact r2
  ·
   simp[rng]
section
variable {w:World} {s r:Res} {os:List Res}
theorem RefCompact_ct {l:Log} {h:Hd} {x:Int} {data:List Int} {a:Option Addr} {c:Nat} (hg:Good w s os) (hl:LogAt s s l h) (hS:l.small) (hx:rng .u64 x) (hd:Imm (RInt .u8) 1 s a c data) (hdl:data.length≤1073741824) (h1:l.base.index<x) (h2:x≤(lastP l).1) :
  Calls Tryz.prog 82 #[logA l h,u64 x,.slice a data.length c] w (Post w s os fun s' A q=>∃ h',q = .tuple #[logA (Safe.compactP l x data) h',i64 0]∧LogOwn A s' (Safe.compactP l x data) h'):=by
 have hlen:=hS.2.2.2
 have hl0:=hl
 refine enter (l:=[logA l h,u64 x,.slice a data.length c]) Tryz.func82 rfl Tryz.ntmps82 rfl ?_
 refine go 3 ?_
 rintro b1 w1 Q1 (hg1:Good _ s (Q1::os)) hax1 hb1
 refine go 2 ?_
 rintro b2 w2 Q2 (hg2:Good _ s (Q2::Q1::os)) hax2 hb2
 refine go 7 ?_
 refine zw (RefLast_ct hg2 hl) ?_
 rintro v3 w3 (hg3:Good _ s (Q2::Q1::os)) hax3 rfl
 refine go 16 ?_
 refine RL.part 26 rfl (fun h26=>?_) (fun h26=>?_)
 ·
  have:=decide_t h26;omega
 ·
  refine go 5 ?_
  refine CW.cond rfl (fun h30=>?_) (fun h30=>?_)
  ·
   have:=decide_t h30;omega
  ·
   refine go 6 ?_
   refine zw (RefTerm_ct hg3 hl) ?_
   rintro v4 w4 (hg4:Good _ s (Q2::Q1::os)) hax4 rfl
   refine go 12 ?_
   refine zc (RefUptoX_ct hg4 hl hS) ?_
   rintro v5 s5 B5 w5 hle5 (hg5:Good _ s5 (B5::Q2::Q1::os)) hax5 ⟨us41,rfl,hU41⟩
   have hg5:=hg5.drop
   have hd:=hd.up (RInt.up _) hle5
   obtain⟨va,vc,la,lc,rfl,hva,hla⟩:=hU41
   have hl:=(hl.up hle5).mem hle5
   refine go 5 ?_
   rintro b6 w6 Q6 (hg6:Good _ s5 (Q6::Q2::Q1::os)) hax6 hb6
   refine go 2 ?_
   rintro w7 Q7 (hg7:Good _ s5 (Q7::Q2::Q1::os)) hax7 hb7
   refine go 3 ?_
   refine CW.meet (fun E' w'=>∃ QX QO pO xa xc,E'=[(1,u64 x),(3,ptr b1),(6,ptr b2),(14,ptr pO)]∧Good w' s5 (QX::QO::Q2::Q1::os)∧Aux w w'∧QO pO=some (.cells #[u64 x,u64 (seekP l x).1,.slice va (confP (uptoL l x)).1.voters.length vc,.slice la (confP (uptoL l x)).1.learners.length lc,.slice xa data.length xc,.slice none 0 0] 33 (0,0))∧Own (RInt .u8) 1 5 s5 QX xa xc data) ?_ ?_
   ·
    have hg8:=hg7.drew
    refine CW.forks (.fork [(true,0),(true,1),(true,2),(true,4)] (.fork [(false,3)] (.line [(false,5),(true,6),(true,7),(false,8),(false,9)]) (.line [(false,8),(false,5),(true,6),(true,7),(false,9)])) (.line [(false,8),(false,3),(false,5),(true,6),(true,7),(false,9)])) (fun w=>At1 b6 _ w∧True) mixed (by kernel_rfl) (by kernel_rfl) (by kernel_rfl) (by kernel_rfl) (⟨hg8.at1 (by simp) hb7,trivial⟩) ?_
    refine RT.pre (S:=fun w=>At1 b6 _ w∧True) (⟨hg8.at1 (by simp) hb7,trivial⟩) ?_
    refine go 5 ?_
    refine RT.both (S:=fun w=>At1 b6 _ w∧True) (⟨hg8.at1 (by simp) hb7,trivial⟩) (RT.pre (S:=fun w=>At1 b6 _ w∧True) (⟨hg8.at1 (by simp) hb7,trivial⟩) ?_) (RT.end_ (S:=fun w=>At1 b6 _ w∧True) (⟨hg8.at1 (by simp) hb7,trivial⟩) ?_)
    ·
     refine go 1 ?_
     rintro b9 w9 Q9 (hg9:Good _ s5 (Q9::Q7::Q2::Q1::os)) hax9 hb9
     refine go 2 ?_
     refine RT.both (S:=fun w=>At1 b6 _ w∧True) (⟨hg9.at1 (by simp) hb7,trivial⟩) (RT.end_ (S:=fun w=>At1 b6 _ w∧True) (⟨hg9.at1 (by simp) hb7,trivial⟩) ?_) (RT.end_ (S:=fun w=>At1 b6 _ w∧True) (⟨hg9.at1 (by simp) hb7,trivial⟩) ?_)
     ·
      obtain⟨news10,hsrc10,hch10⟩:=(Src.row (r:=s5) (c:=c) sl28.out hd.2.2 hg9.sh)
      refine RL.append2 (i:=0) (xs:=[]) (ys:=data) rfl rfl rfl rfl sl28.out ze5.out rfl (RInt.one .u8) (rfl) rfl hg9 rfl (Own.empty hb9) hsrc10 hch10 ((by simp only[List.length_nil];omega)) (by omega) ?_
      rintro a10 c10 A10 w10 (hg10:Good _ s5 (A10::Q7::Q2::Q1::os)) ho10 hax10 hk10 hn10
      rw[List.nil_append] at ho10
      have hoX:=ho10
      refine go 4 ?_
      rintro b11 w11 Q11 (hg11:Good _ s5 (Q11::A10::Q7::Q2::Q1::os)) hax11 hb11
      refine go 2 ?_
      rintro w12 Q12 (hg12:Good _ s5 (Q12::A10::Q7::Q2::Q1::os)) hax12 hb12
      refine go 2 ?_
      exact fun ac ha=>⟨[(1,u64 x),(3,ptr b1),(6,ptr b2),(14,ptr b11)],ha.sub ⟨rfl,rfl,rfl,rfl,trivial⟩,⟨_,_,b11,_,_,rfl,(((((hg12.front 4 rfl).front 4 rfl).front 2 rfl).front 3 rfl).dropAt 4),(hax1.trans (hax2.trans (hax3.trans (hax4.trans (hax5.trans (hax6.trans (hax7.trans ((Aux.drew _).trans (hax9.trans (hax10.trans (hax11.trans hax12))))))))))),hb12,hoX⟩⟩
     ·
      refine go 1 ?_
      rintro b13 w13 Q13 (hg13:Good _ s5 (Q13::Q9::Q7::Q2::Q1::os)) hax13 hb13
      refine go 1 ?_
      obtain⟨news14,hsrc14,hch14⟩:=(Src.row (r:=s5) (c:=c) sl28.out hd.2.2 hg13.sh)
      refine RL.append2 (i:=1) (xs:=[]) (ys:=data) rfl rfl rfl rfl sl28.out ze5.out rfl (RInt.one .u8) (rfl) rfl hg13 rfl (Own.empty hb9) hsrc14 hch14 ((by simp only[List.length_nil];omega)) (by omega) ?_
      rintro a14 c14 A14 w14 (hg14:Good _ s5 (Q13::A14::Q7::Q2::Q1::os)) ho14 hax14 hk14 hn14
      rw[List.nil_append] at ho14
      have hoX:=ho14
      refine go 4 ?_
      rintro w15 Q15 (hg15:Good _ s5 (Q15::A14::Q7::Q2::Q1::os)) hax15 hb15
      refine go 2 ?_
      exact fun ac ha=>⟨[(1,u64 x),(3,ptr b1),(6,ptr b2),(14,ptr b13)],ha.sub ⟨rfl,rfl,rfl,rfl,trivial⟩,⟨_,_,b13,_,_,rfl,(((((hg15.front 4 rfl).front 4 rfl).front 2 rfl).front 3 rfl).dropAt 4),(hax1.trans (hax2.trans (hax3.trans (hax4.trans (hax5.trans (hax6.trans (hax7.trans ((Aux.drew _).trans (hax9.trans (hax13.trans (hax14.trans hax15))))))))))),hb15,hoX⟩⟩
    ·
     refine go 1 ?_
     rintro b16 w16 Q16 (hg16:Good _ s5 (Q16::Q7::Q2::Q1::os)) hax16 hb16
     refine go 2 ?_
     rintro b17 w17 Q17 (hg17:Good _ s5 (Q17::Q16::Q7::Q2::Q1::os)) hax17 hb17
     refine go 1 ?_
     obtain⟨news18,hsrc18,hch18⟩:=(Src.row (r:=s5) (c:=c) sl28.out hd.2.2 hg17.sh)
     refine RL.append2 (i:=0) (xs:=[]) (ys:=data) rfl rfl rfl rfl sl28.out ze5.out rfl (RInt.one .u8) (rfl) rfl hg17 rfl (Own.empty hb17) hsrc18 hch18 ((by simp only[List.length_nil];omega)) (by omega) ?_
     rintro a18 c18 A18 w18 (hg18:Good _ s5 (A18::Q16::Q7::Q2::Q1::os)) ho18 hax18 hk18 hn18
     rw[List.nil_append] at ho18
     have hoX:=ho18
     refine go 4 ?_
     rintro w19 Q19 (hg19:Good _ s5 (A18::Q19::Q7::Q2::Q1::os)) hax19 hb19
     refine go 2 ?_
     exact fun ac ha=>⟨[(1,u64 x),(3,ptr b1),(6,ptr b2),(14,ptr b16)],ha.sub ⟨rfl,rfl,rfl,rfl,trivial⟩,⟨_,_,b16,_,_,rfl,(((((hg19.front 4 rfl).front 4 rfl).front 3 rfl).front 3 rfl).dropAt 4),(hax1.trans (hax2.trans (hax3.trans (hax4.trans (hax5.trans (hax6.trans (hax7.trans ((Aux.drew _).trans (hax16.trans (hax17.trans (hax18.trans hax19))))))))))),hb19,hoX⟩⟩
   rintro E6 w6 ⟨QX,QO,pO,xa,xc,rfl,hg6,hax6,hQO,hoX⟩
   refine go 6 ?_
   refine CW.loop (σ:=Nat) (fun j E w'=>∃ s' A' QO' a' c',∃ k:Nat,Good w' s' (A'::QX::QO'::Q2::Q1::os)∧Aux w w'∧Le s s'∧Le s5 s'∧E=[(1,u64 x),(3,ptr b1),(6,ptr b2),(14,ptr pO),(15,i64 k)]∧k+j=l.entries.length∧QO' pO=some (.cells #[u64 x,u64 (seekP l x).1,.slice va (confP (uptoL l x)).1.voters.length vc,.slice la (confP (uptoL l x)).1.learners.length lc,.slice xa data.length xc,.slice a' ((l.entries.take k).filter fun e=>decide (x<e.index)).length c'] 33 (0,0))∧Own REntry 6 65 s' A' a' c' ((l.entries.take k).filter fun e=>decide (x<e.index))) (fun j=>j) l.entries.length [(1,u64 x),(3,ptr b1),(6,ptr b2),(14,ptr pO),(15,i64 0)] ⟨rfl,rfl,rfl,rfl,rfl,trivial⟩ ⟨_,Res.nil,QO,none,0,0,((((hg6.front 3 rfl).front 3 rfl).front 3 rfl).front 3 rfl).nil,hax6,hle5,Le.refl _,rfl,by omega,hQO,Own.nil _ _ _ _ _⟩ ?_
   rintro j E wL ⟨sL,AL,QL,aL,cL,k,hgL,haxL,hleL,hleM,rfl,hk,hQL,hoR⟩
   have hl:=(hl.up hleM).mem hleM
   have hva:=hva.up (RInt.up _) hleM
   have hla:=hla.up (RInt.up _) hleM
   have hoX:=hoX.up (RInt.up _) hleM
   refine go 9 ?_
   refine CW.cond rfl (fun h56=>?_) (fun h56=>?_)
   ·
    have hlt:k<l.entries.length:=by have:=decide_t h56;omega
    refine go 8 ?_
    refine RL.idxL rfl rfl rfl rfl sl31.out rfl rfl hl.entries (by omega) (by omega) ?_
    rintro q vs hvl hH ⟨ea,ec,ea1,ec1,ea2,ec2,rfl,er1,er2,er3,eh1,eh2,eh3⟩
    refine go 1 ?_
    refine RL.load (j:=0) rfl rfl rfl rfl ty22.out rfl (hH) (hgL.sh) rfl ?_
    refine go 3 ?_
    refine CW.cond rfl (fun h66=>?_) (fun h66=>?_)
    ·
     have hg20:=hgL.drew
     refine CW.draws2 [(true,0),(true,1),(true,2),(true,3),(true,4),(true,5),(true,6),(false,7),(false,8),(false,9),(true,10)] [(false,11)] 11 #[true,true,true,true,true,true,true,true,true,true,true,false] (fun w=>At1 pO _ w∧At1 b1 _ w∧In s w∧True) mixed (by kernel_rfl) (by kernel_rfl) (by kernel_rfl) (by kernel_rfl) (by kernel_rfl) (⟨hg20.at1 (by simp) hQL,hg20.at1 (by simp) hb1,(hg20.sh).le (hleL),trivial⟩) ?_
     refine go 5 ?_
     refine RL.idxL rfl rfl rfl rfl sl31.out rfl rfl hl0.entries (by omega) (by omega) ?_
     rintro q2 vs2 hvl2 hH2 hE2
     have hE2':=hE2
     obtain⟨fa,fc,fa1,fc1,fa2,fc2,rfl,fr1,fr2,fr3,fh1,fh2,fh3⟩:=hE2'
     refine RL.loadsT (j:=0) (us:=_) rfl rfl rfl rfl ty65.out rfl (hH2) (fun w h=>h.2.2.1) rfl rfl ?_
     refine go 1 ?_
     refine zc (RefClone_ct hg20 (REntry.up _ _ _ _ (hleL) hE2) (hS.2.2.1 _ (List.getElem_mem _))) ?_
     rintro v21 s21 B21 w21 hle21 (hg21:Good _ s21 (B21::AL::QX::QL::Q2::Q1::os)) hax21 ⟨us,rfl,hU⟩
     have hg21:=hg21.drop
     have hoR:=hoR.up REntry.up hle21
     obtain⟨ua,uc,ua1,uc1,ua2,uc2,rfl,hU2⟩:=hU
     have hle74:=hle21
     refine⟨⟨hg21.at1 (by simp) hQL,hg21.at1 (by simp) hb1,(hg21.sh).le ((hleL.trans hle21)),trivial⟩,?_⟩
     refine go 1 ?_
     rintro b22 w22 Q22 (hg22:Good _ s21 (Q22::AL::QX::QL::Q2::Q1::os)) hax22 hb22
     refine⟨⟨hg22.at1 (by simp) hQL,hg22.at1 (by simp) hb1,(hg22.sh).le ((hleL.trans hle21)),trivial⟩,?_⟩
     obtain⟨news23,hsrc23,hch23⟩:=(one_news (R:=REntry) (xs:=[l.entries[k]]) sl31.out hb22 (hg22.mem (by simp)) (Chunks.single rfl ⟨_,_,_,_,_,_,rfl,hU2⟩))
     refine RL.append2 (i:=1) (xs:=((l.entries.take k).filter fun e=>decide (x<e.index))) (ys:=[l.entries[k]]) rfl rfl rfl rfl sl31.out ze65.out rfl REntry.one (rfl) rfl hg22 rfl (hoR) hsrc23 hch23 ((by have:=List.length_filter_le (fun e:Entry=>decide (x<e.index)) (l.entries.take k);rw[List.length_take] at this;rw[List.length_singleton];omega)) (by omega) ?_
     rintro a23 c23 A23 w23 (hg23:Good _ s21 (Q22::A23::QX::QL::Q2::Q1::os)) ho23 hax23 hk23 hn23
     have hoN:=ho23
     rw[←filt_gt hlt (decide_t h66)] at hoN
     refine⟨⟨hg23.at1 (by simp) hQL,hg23.at1 (by simp) hb1,(hg23.sh).le ((hleL.trans hle21)),trivial⟩,?_⟩
     refine go 4 ?_
     rintro w24 Q24 (hg24:Good _ s21 (Q22::A23::QX::Q24::Q2::Q1::os)) hax24 hb24
     refine go 7 ?_
     cases j with
     | zero=>omega
     | succ j=>exact fun ac ha=>⟨j,[(1,u64 x),(3,ptr b1),(6,ptr b2),(14,ptr pO),(15,i64 ((k:Int)+1))],ha.sub ⟨rfl,rfl,rfl,rfl,rfl,trivial⟩,⟨_,_,_,_,_,k+1,((((((hg24.front 5 rfl).front 5 rfl).front 5 rfl).front 5 rfl).front 5 rfl).dropAt 5),(haxL.trans ((Aux.drew _).trans (hax21.trans (hax22.trans (hax23.trans hax24))))),(hleL.trans hle21),hleM.trans hle74,rfl,by omega,by rw[filt_gt hlt (decide_t h66)];exact hb24,hoN⟩,Nat.lt_succ_self j⟩
    ·
     refine go 6 ?_
     cases j with
     | zero=>omega
     | succ j=>exact fun ac ha=>⟨j,[(1,u64 x),(3,ptr b1),(6,ptr b2),(14,ptr pO),(15,i64 ((k:Int)+1))],ha.sub ⟨rfl,rfl,rfl,rfl,rfl,trivial⟩,⟨_,_,_,_,_,k+1,(((((hgL.front 4 rfl).front 4 rfl).front 4 rfl).front 4 rfl).front 4 rfl),haxL,hleL,hleM,rfl,by omega,by rw[filt_not hlt (decide_f h66)];exact hQL,by rw[filt_not hlt (decide_f h66)];exact hoR⟩,Nat.lt_succ_self j⟩
   ·
    have hkl:k=l.entries.length:=by have:=decide_f h56;omega
    rw[hkl,List.take_length] at hQL hoR
    refine go 5 ?_
    rintro w25 Q25 (hg25:Good _ sL (AL::QX::QL::Q25::Q1::os)) hax25 hb25
    refine go 3 ?_
    refine CW.ret (ret (vs:=[_,_]) ⟨_,_,_,rfl,rfl,zl hb25,_,_,rfl,rfl,rfl⟩ ?_)
    obtain⟨s1,hs1,hl1,hm1⟩:=(hg25.front 1 rfl).letgo
    exact Post.mk (hleL.trans hl1) hs1.dropNext.dropNext.dropNext (haxL.trans hax25) ⟨⟨va,vc,la,lc,xa,xc,aL,cL,none,0,none,0,none,0,none,0,none,0⟩,(by rw[←compact_conf l x data] ;rfl),hx,seekP_rng hl,by rw[compact_conf];exact hva.up (RInt.up _) hl1,by rw[compact_conf];exact hla.up (RInt.up _) hl1,hoX.imm (RInt.up _) hl1 hm1,hoR.up REntry.up hl1⟩
end
end Go.Lw
namespace Go.Lw
open Go.Proofs
attribute [local irreducible] RL RA
def view0:View:=⟨⟨1,0,1⟩,⟨⟨1,1,⟨[1],[]⟩,[]⟩,[]⟩,false⟩
def inp0:Inp:=⟨1,1,Msg.zero,[],0,0,0⟩
def r0:Raft:=newR 1 view0
theorem new0:newP 1 view0.hard view0.log view0.gone=(r0,0):=newP_ok (by decide)
theorem uniq_one (x:Int):uniq [x]=[x]:=by
 unfold uniq
 rw[show msort [x]=[x] from List.perm_singleton.1 (msort_perm [x])]
 rfl
theorem uniq_none:uniq []=[]:=List.eq_nil_of_length_eq_zero (by have:=uniq_le [];simpa using this)
theorem tally_one {n:Node} (h1:n.voters=[1]) (h2:n.s.ballots=[(1,true)]):n.tally=1:=by
 unfold Node.tally;rw[h1,h2,uniq_one]
 decide
def e0:Entry:=⟨2,2,1,[],⟨[],[]⟩⟩
def n0:Node:=⟨⟨1,⟨2,1,1⟩,⟨⟨1,1,⟨[1],[]⟩,[]⟩,[e0]⟩,4,1,[],[],0,0,0,⟨0,0,[]⟩⟩,{ Out.zero with entries:=[e0] }⟩
theorem com0:n0.com=2:=by
 refine Node.com_eq (.inr ⟨?_,?_⟩)
 ·
  rw[show n0.voters=[1] from rfl,uniq_one];simp
 ·
  rw[show n0.voters=[1] from rfl,uniq_one];exact⟨by decide,by decide,by decide⟩
theorem term0:termP n0.s.log 2=(2,true):=by
 have hx:RunX n0.s.log:=fun k e hk=>by
  cases k with
  | zero=>cases hk;rfl
  | succ k=>simp[n0] at hk
 have hp:=hx.place 2
 have hp0:placeP n0.s.log 2=0:=by
  have e1:n0.s.log.base.index=1:=rfl
  have e2:n0.s.log.entries.length=1:=rfl
  rw[e1,e2] at hp;omega
 unfold termP
 rw[hp0]
 rfl
theorem count0:n0.count=n0.wCommit 2:=by
 rw[count_go (by rw[com0,term0];decide),com0]
 exact if_neg (by decide)
theorem act0:(newN r0).act inp0=(n0.wCommit 2,0):=by
 have h1:(newN r0).act inp0=((newN r0).tick 1,0):=if_pos rfl
 have hv:(newN r0).votes=true:=by decide
 rw[h1,Node.tick_ask 1 (by decide) (by decide) ⟨by decide,hv⟩]
 have h2:((newN r0).wElapsed 1).ask=(((newN r0).wElapsed 1).runs 2).stand:=if_pos (tally_one rfl rfl)
 rw[h2]
 obtain⟨m,hm⟩:∃ m:Node,m=Node.runs { (((newN r0).wElapsed 1).runs 2) with s:={ (((newN r0).wElapsed 1).runs 2).s with hard:=⟨2,1,1⟩ } } 3:=⟨_,rfl⟩
 have h3:(((newN r0).wElapsed 1).runs 2).stand=m.lead:=by
  rw[hm];exact if_pos (tally_one rfl rfl)
 rw[h3]
 have ho:othersP (confP m.s.log).1 m.s.id=[]:=by
  rw[hm]
  show uniq (delP 1 ([1]++[]))=[]
  rw[show delP 1 ([1]++[])=[] by decide,uniq_none]
 have h4:m.lead=(n0.count).spread:=by
  unfold Node.lead
  have e1:Node.meet { m with s:={ m.s with role:=4,leader:=m.s.id,ballots:=[],elapsed:=0,beat:=0,transfer:=0,peers:=[] } } (up1 m.last)={ m with s:={ m.s with role:=4,leader:=m.s.id,ballots:=[],elapsed:=0,beat:=0,transfer:=0,peers:=[] } }:=by
   unfold Node.meet
   simp only[ho,List.map_nil]
  rw[e1,hm]
  rfl
 rw[h4,count0]
 rfl
def r1:Raft:=⟨1,⟨2,1,2⟩,⟨⟨1,1,⟨[1],[]⟩,[]⟩,[e0]⟩,4,1,[],[],0,0,0,⟨0,0,[]⟩⟩
def o1:Out:=⟨0,[e0],true,false,[],0,0⟩
theorem step0:stepP r0 inp0=(r1,o1,0):=by
 rw[stepP_ok (by rw[act0];decide),act0]
 rfl
theorem inp0_ok (s:Res):InpOk s inp0 Lay.none none 0 :=
 ⟨MsgOk.zero s,by simp[rng,inp0],by simp[rng,inp0],by simp[rng,inp0],by simp[rng,inp0],by simp[rng,inp0],Imm.nil _ _ _ (Nat.zero_le _)⟩
def hd1 (a:Option Addr) (c:Nat):Hd:=⟨a,c,none,0,none,0,none,0,none,0,none,0,none,0,none,0,none,0⟩
section
variable {w:World} {s:Res} {os:List Res}
theorem Begin_ct {a:Option Addr} {c:Nat} (hg:Good w s os) :
  Calls Tryz.prog 28 #[.slice a 1 c,.slice none 0 0] w (PostV w s os fun q=>q = .agg (viewV view0 (hd1 a c)).toArray):=by
 refine enter (l:=[.slice a 1 c,.slice none 0 0]) Tryz.func28 rfl Tryz.ntmps28 rfl ?_
 refine go 3 ?_
 rintro b1 w1 Q1 (hg1:Good _ s (Q1::os)) hax1 hb1
 refine go 12 ?_
 rintro w2 Q2 (hg2:Good _ s (Q2::os)) hax2 hb2
 refine go 2 ?_
 refine CW.ret (ret (vs:=[_]) ⟨_,_,_,rfl,rfl,zl hb2,rfl⟩ ?_)
 exact PostV.mq (hg2.drop) rfl
theorem view0_at {a:Option Addr} {c:Nat} (h:Imm (RInt .i64) 1 s a c [1]):LogAt s s view0.log (hd1 a c) :=
 ⟨by simp[rng,view0],by simp[rng,view0],h,Imm.nil _ _ _ (Nat.zero_le _),Imm.nil _ _ _ (Nat.zero_le _),Imm.nil _ _ _ (Nat.zero_le _)⟩
theorem view0_small:view0.log.small:=⟨⟨by decide,by decide⟩,by decide,fun e he=>(by cases he),by decide⟩
theorem New0_ct {a:Option Addr} {c:Nat} (hg:Good w s os) (h:Imm (RInt .i64) 1 s a c [1]) :
  Calls Tryz.prog 10 #[i64 1,.agg (viewV view0 (hd1 a c)).toArray] w (Post w s os fun s' _ q=>∃ h',q = .tuple #[.agg (raftV r0 h').toArray,i64 0]∧RaftAt s' r0 h'):=by
 have:=New_ct (id:=1) hg (view0_at h) view0_small (by simp[rng]) (by simp[rng,view0]) (by simp[rng,view0]) (by simp[rng,view0])
 rw[new0] at this
 exact this
theorem r0_fit:Fit 1 r0 :=
 ⟨by simp[rng,r0,newR],by simp[rng,r0,newR,view0],by simp[rng,r0,newR,view0],by simp[rng,r0,newR,view0],⟨by simp[rng,r0,newR,view0],by simp[rng,r0,newR,view0],⟨by decide,by decide⟩,by decide,fun e he=>(by cases he),by decide,by simp[r0,newR,view0,p61],fun k e hk=>(by cases hk)⟩,by decide,by decide,fun p hp=>(by cases hp),by simp[rng,r0,newR],by simp[rng,r0,newR],by decide⟩
theorem Step0_ct {h:Hd} (hg:Good w s os) (hr:RaftAt s r0 h) :
  Calls Tryz.prog 11 #[.agg (raftV r0 h).toArray,.agg (inpV inp0 Lay.none none 0).toArray] w (Post w s os fun s' _ q=>∃ h1 h2,q = .tuple #[.agg (raftV r1 h1).toArray,.agg (outV o1 h2).toArray,i64 0]∧RaftAt s' r1 h1∧OutAt s' o1 h2):=by
 have hif:IFit 0 inp0:=ifit (inp0_ok s) (by decide)
 have:=Step_ct hg hr (inp0_ok s) (r0_fit.rng (n:=newN r0)) (fit_act (n:=newN r0) r0_fit hif (by decide)).rng (fit_bears r0_fit hif (by decide)) (by decide)
 rw[step0] at this
 exact this
theorem Head_ct (hg:Good w s os):Calls Tryz.prog 9 #[] w (Post w s os fun _ _ q=>q = .bool true):=by
 refine enter (l:=[]) Tryz.func9 rfl Tryz.ntmps9 rfl ?_
 refine go 7 ?_
 rintro b3 w3 Q3 (hg3:Good _ s (Q3::os)) hax3 hb3
 refine go 1 ?_
 have ho7:Own (RInt .i64) 1 3 s Q3 (some ⟨b3,0,none⟩) 1 [1]:= .inr ⟨_,_,rfl,hb3,by decide,by decide,rfl,Chunks.single rfl ⟨rfl,by simp[rng]⟩⟩
 obtain⟨s7,hg7,hle7,hm7⟩:=(hg3).letgo
 have hI7:=ho7.imm (RInt.up _) hle7 hm7
 refine go 1 ?_
 refine zw (Begin_ct hg7) ?_
 rintro v4 w4 (hg4:Good _ s7 (os)) hax4 rfl
 refine go 2 ?_
 refine zc (New0_ct hg4 hI7) ?_
 rintro v5 s5 B5 w5 hle5 (hg5:Good _ s5 (B5::os)) hax5 ⟨h9,rfl,hA9⟩
 have hg5:=hg5.drop
 refine go 5 ?_
 rintro b6 w6 Q6 (hg6:Good _ s5 (Q6::os)) hax6 hb6
 refine go 2 ?_
 rintro w7 Q7 (hg7:Good _ s5 (Q7::os)) hax7 hb7
 refine go 8 ?_
 refine zc (Step0_ct hg7 hA9) ?_
 rintro v8 s8 B8 w8 hle8 (hg8:Good _ s8 (B8::Q7::os)) hax8 ⟨g1,g2,rfl,hA15,hO15⟩
 have hg8:=hg8.drop
 refine go 6 ?_
 rintro b9 w9 Q9 (hg9:Good _ s8 (Q9::Q7::os)) hax9 hb9
 refine go 2 ?_
 rintro b10 w10 Q10 (hg10:Good _ s8 (Q10::Q9::Q7::os)) hax10 hb10
 refine go 2 ?_
 rintro w11 Q11 (hg11:Good _ s8 (Q10::Q11::Q7::os)) hax11 hb11
 refine go 2 ?_
 rintro w12 Q12 (hg12:Good _ s8 (Q12::Q11::Q7::os)) hax12 hb12
 refine go 8 ?_
 refine RL.part 21 rfl (fun h21=>?_) (fun h21=>?_)
 ·
  refine go 4 ?_
  refine RL.part 25 rfl (fun h25=>?_) (fun h25=>?_)
  ·
   refine go 5 ?_
   refine RL.part 30 rfl (fun h30=>?_) (fun h30=>?_)
   ·
    refine go 6 ?_
    refine RL.part 36 rfl (fun h36=>?_) (fun h36=>?_)
    ·
     refine go 6 ?_
     refine RL.part 42 rfl (fun h42=>?_) (fun h42=>?_)
     ·
      refine go 6 ?_
      refine RL.part 48 rfl (fun h48=>?_) (fun h48=>?_)
      ·
       refine go 5 ?_
       refine CW.ret (zr1 ?_)
       exact Post.mq (((hg12.drop).drop).drop).nil rfl
      ·
       exact absurd h48 (by decide)
     ·
      exact absurd h42 (by decide)
    ·
     exact absurd h36 (by decide)
   ·
    exact absurd h30 (by decide)
  ·
   exact absurd h25 (by decide)
 ·
  exact absurd h21 (by decide)
end
end Go.Lw
namespace Go.Lw
open Go.Proofs
open Safe (Wd)
attribute [local irreducible] RL RA
def RRaft:Res→List Value→Raft→Prop:=fun s vs r=>∃ h,vs=raftV r h∧RaftAt s r h
theorem RRaft.up:Up RRaft:=fun _ _ _ _ hl ⟨h,h1,h2⟩=>⟨h,h1,h2.up hl⟩
theorem RRaft.one:One RRaft:=fun _ _ _ ⟨h,h1,_⟩ v hv=>by
 subst h1
 simp only[List.mem_cons,List.not_mem_nil,or_false] at hv
 rcases hv with rfl | rfl | rfl | rfl | rfl | rfl | rfl | rfl | rfl | rfl | rfl | rfl | rfl | rfl | rfl | rfl | rfl | rfl | rfl | rfl<;>rfl
structure ViewOk (s:Res) (v:View) (h:Hd):Prop where
 term:rng .u64 v.hard.term
 vote:rng .i64 v.hard.vote
 commit:rng .u64 v.hard.commit
 index:rng .u64 v.log.base.index
 bterm:rng .u64 v.log.base.term
 voters:Imm (RInt .i64) 1 s h.va h.vc v.log.base.conf.voters
 learners:Imm (RInt .i64) 1 s h.la h.lc v.log.base.conf.learners
 data:Imm (RInt .u8) 1 s h.da h.dc v.log.base.data
theorem ViewOk.up {s s':Res} {v:View} {h:Hd} (k:ViewOk s v h) (hl:Le s s'):ViewOk s' v h :=
 { k with voters:=k.voters.up (RInt.up _) hl,learners:=k.learners.up (RInt.up _) hl,data:=k.data.up (RInt.up _) hl }
def RView:Res→List Value→View × Hd→Prop:=fun s vs x=>vs=viewV x.1 x.2∧ViewOk s x.1 x.2
theorem RView.up:Up RView:=fun _ _ _ _ hl ⟨h1,h2⟩=>⟨h1,h2.up hl⟩
theorem RView.one:One RView:=fun _ _ _ ⟨h1,_⟩ v hv=>by
 subst h1
 simp only[List.mem_cons,List.not_mem_nil,or_false] at hv
 rcases hv with rfl | rfl | rfl | rfl | rfl | rfl | rfl | rfl | rfl | rfl<;>rfl
def RLed:Res→List Value→Int→Prop:=fun _ vs x=>vs=[i64 x,.bool false]∧rng .i64 x
theorem RLed.up:Up RLed:=fun _ _ _ _ _ h=>h
theorem RLed.one:One RLed:=fun _ _ _ ⟨h1,_⟩ v hv=>by
 subst h1
 simp only[List.mem_cons,List.not_mem_nil,or_false] at hv
 rcases hv with rfl | rfl<;>rfl
structure WA where
 sa:Option Addr
 sc:Nat
 ka:Option Addr
 kc:Nat
 ba:Option Addr
 bc:Nat
 la:Option Addr
 lc:Nat
 ta:Option Addr
 tc:Nat
 da:Option Addr
 dc:Nat
 xa:Option Addr
 xc:Nat
 vk:List (View × Hd)
structure WP where
 W:Res
 S:Res
 K:Res
 B:Res
 L:Res
 T:Res
 D:Res
 X:Res
 E:List Res
def WP.os (P:WP):List Res:=P.W::P.S::P.K::P.B::P.L::P.T::P.D::P.X::P.E
abbrev worldV (w:Wd) (a:WA):List Value:=[.slice a.sa w.s.length a.sc,.slice a.ka a.vk.length a.kc,.slice a.ba w.bag.length a.bc,.slice a.la w.lead.length a.lc,.slice a.ta w.term.length a.tc,.slice a.da w.told.length a.dc,.slice a.xa w.snap.length a.xc]
structure WAt (s:Res) (P:WP) (p:Nat) (w:Wd) (a:WA):Prop where
 cells:P.W p=some (.cells (worldV w a).toArray 85 (0,0))
 kept:w.kept=a.vk.map (·.1)
 S:Own RRaft 20 44 s P.S a.sa a.sc w.s
 K:Own RView 10 35 s P.K a.ka a.kc a.vk
 B:Own RMsg 14 56 s P.B a.ba a.bc w.bag
 L:Own RLed 2 133 s P.L a.la a.lc w.lead
 T:Own (RInt .u64) 1 22 s P.T a.ta a.tc w.term
 D:Own REntry 6 65 s P.D a.da a.dc w.told
 X:Own REntry 6 65 s P.X a.xa a.xc w.snap
 elen:P.E.length=a.vk.length
 E:∀ (i:Nat) (v:View × Hd) (e:Res),a.vk[i]?=some v→P.E[i]?=some e→Own REntry 6 65 s e v.2.ea v.2.ec v.1.log.entries
theorem WAt.up {s s':Res} {P:WP} {p:Nat} {w:Wd} {a:WA} (k:WAt s P p w a) (hl:Le s s'):WAt s' P p w a :=
 { k with S:=k.S.up RRaft.up hl,K:=k.K.up RView.up hl,B:=k.B.up RMsg.up hl,L:=k.L.up RLed.up hl,T:=k.T.up (RInt.up _) hl,D:=k.D.up REntry.up hl,X:=k.X.up REntry.up hl,E:=fun i v e h1 h2=>(k.E i v e h1 h2).up REntry.up hl }
theorem WAt.setS {s:Res} {P:WP} {p:Nat} {w:Wd} {a:WA} (k:WAt s P p w a) {S':Res} {l:List Raft} (h:Own RRaft 20 44 s S' a.sa a.sc l) (hl:l.length=w.s.length):WAt s { P with S:=S' } p { w with s:=l } a :=
 { k with S:=h,cells:=by have:=k.cells;simp only[worldV,hl];exact this }
def WPost (w0:World) (s:Res) (os:List Res) (p:Nat) (v:Value) (w:Wd):Ending→World→Prop:=fun e w' =>
 ∃ s' P' a',e = .returned v∧Le s s'∧Good w' s' (P'.os++os)∧Aux w0 w'∧WAt s' P' p w a'
theorem WPost.mk {w0 w':World} {s s':Res} {os:List Res} {p:Nat} {v:Value} {w:Wd} {P':WP} {a':WA} (h1:Le s s') (h2:Good w' s' (P'.os++os)) (h3:Aux w0 w') (h4:WAt s' P' p w a'):WPost w0 s os p v w (.returned v) w':=⟨s',P',a',rfl,h1,h2,h3,h4⟩
def pickP (c n:Int):Int:=(if c<0 then -(c+1) else c) % n
theorem pickP_rng {c n:Int} (hc:rng .i64 c) (hn:0<n):0≤pickP c n∧pickP c n<n:=by
 simp only[rng] at hc
 unfold pickP
 have h0:0≤if c<0 then -(c+1) else c:=by split<;>omega
 exact⟨Int.emod_nonneg _ (by omega),Int.emod_lt_of_pos _ hn⟩
section
variable {w:World} {s:Res} {os:List Res}
theorem pick_ct {c n:Int} (hg:Good w s os) (hc:rng .i64 c) (hn:0<n) (hn2:n≤1000) :
  Calls Tryz.prog 14 #[i64 c,i64 n] w (PostV w s os fun q=>q=i64 (pickP c n)):=by
 simp only[rng] at hc
 refine enter (l:=[i64 c,i64 n]) Tryz.func14 rfl Tryz.ntmps14 rfl ?_
 refine go 10 ?_
 refine CW.cond rfl (fun h6=>?_) (fun h6=>?_)
 ·
  refine go 2 ?_
  refine RL.add rfl rfl rfl rfl rfl rfl ((by simp only[rng];have:=decide_t h6;omega)) ?_
  refine RL.neg rfl rfl rfl rfl rfl ((by simp only[rng];have:=decide_t h6;omega)) ?_
  refine go 6 ?_
  refine RL.rem rfl rfl rfl rfl rfl rfl ((by first | (have:=decide_t h6;omega) | (have:=decide_f h6;omega))) (hn) ?_
  refine go 2 ?_
  refine CW.ret (zr1 ?_)
  exact PostV.mq hg (by rw[pickP,if_pos (decide_t h6)];rfl)
 ·
  refine go 5 ?_
  refine RL.rem rfl rfl rfl rfl rfl rfl ((by first | (have:=decide_t h6;omega) | (have:=decide_f h6;omega))) (hn) ?_
  refine go 2 ?_
  refine CW.ret (zr1 ?_)
  exact PostV.mq hg (by rw[pickP,if_neg (decide_f h6)];rfl)
theorem rise_ct {P:WP} {p:Nat} {W:Wd} {a:WA} {i:Nat} {r:Raft} {v:View} (hg:Good w s (P.os++os)) (hw:WAt s P p W a) (hi:W.s[i]?=some r) (hv:W.kept[i]?=some v) (hN:newP r.id v.hard v.log v.gone=(newR r.id v,0)) (hS:v.log.small) (hid:rng .i64 r.id) :
  Calls Tryz.prog 41 #[ptr p,i64 i] w (WPost w s os p (.bool true) { W with s:=W.s.set i (newR r.id v) }):=by
 obtain⟨x,hx,hxv⟩:∃ x:View × Hd,a.vk[i]?=some x∧x.1=v:=by
  rw[hw.kept,List.getElem?_map] at hv
  cases hz:a.vk[i]? with
  | none=>rw[hz] at hv;cases hv
  | some x=>rw[hz] at hv;exact⟨x,rfl,Option.some.inj hv⟩
 subst hxv
 have hil:i<W.s.length:=(List.getElem?_eq_some_iff.1 hi).1
 have hik:i<a.vk.length:=(List.getElem?_eq_some_iff.1 hx).1
 have hri:W.s[i]=r:=by rw[List.getElem?_eq_getElem hil] at hi;exact Option.some.inj hi
 have hxi:a.vk[i]=x:=by rw[List.getElem?_eq_getElem hik] at hx;exact Option.some.inj hx
 subst hri hxi
 obtain⟨Ei,hEi⟩:∃ e,P.E[i]?=some e:=⟨_,List.getElem?_eq_getElem (by rw[hw.elen];exact hik)⟩
 have hEm:Ei∈P.E:=List.mem_of_getElem? hEi
 have hEo:=hw.E i _ Ei hx hEi
 have hmx:=hw.S.le_max
 have hmk:=hw.K.le_max
 simp only[maxLen] at hmx hmk
 obtain⟨T,hT⟩:∃ T,T=P.E++os:=⟨_,rfl⟩
 have hET:Ei∈T:=by rw[hT];exact List.mem_append_left _ hEm
 have hg:Good w s (P.W::P.S::P.K::P.B::P.L::P.T::P.D::P.X::T):=by rw[hT];exact hg
 have hc0:=hw.cells
 refine enter (l:=[ptr p,i64 i]) Tryz.func41 rfl Tryz.ntmps41 rfl ?_
 refine go 5 ?_
 have hg1:=hg.drew
 refine CW.forks (.fork [(true,0),(true,1),(true,2),(true,3),(true,4),(true,5),(true,6),(true,7),(true,8),(true,9),(true,10),(true,11),(true,12),(true,13),(true,14)] (.line [(false,15),(true,16),(true,17),(true,18),(false,19),(false,20),(false,21)]) (.line [(false,19),(false,15),(true,16),(true,17),(true,18),(false,20),(false,21)])) (fun w=>At1 p _ w∧(In P.S w∧In P.K w)∧True) mixed (by kernel_rfl) (by kernel_rfl) (by kernel_rfl) (by kernel_rfl) (⟨hg1.at1 (by simp) hc0,⟨hg1.mem (by simp),hg1.mem (by simp)⟩,trivial⟩) ?_
 refine RT.pre (S:=fun w=>At1 p _ w∧(In P.S w∧In P.K w)∧True) (⟨hg1.at1 (by simp) hc0,⟨hg1.mem (by simp),hg1.mem (by simp)⟩,trivial⟩) ?_
 refine go 5 ?_
 refine RL.idxL rfl rfl rfl rfl sl81.out rfl rfl hw.S.lies (by omega) (by omega) ?_
 rintro q vs hvl hH ⟨hh,rfl,hRA⟩
 refine go 1 ?_
 refine RL.loadT (j:=0) rfl rfl rfl rfl ty3.out rfl (hH) (fun w h=>h.2.1.1) rfl ?_
 refine go 5 ?_
 refine RL.idxL rfl rfl rfl rfl sl82.out rfl rfl hw.K.lies (by omega) (by omega) ?_
 rintro q2 vs2 hvl2 hH2 hV2
 obtain⟨rfl,hvo⟩:=hV2
 refine RL.loadsT (j:=0) (us:=_) rfl rfl rfl rfl ty35.out rfl (hH2) (fun w h=>h.2.1.2) rfl rfl ?_
 refine go 1 ?_
 refine RT.both (S:=fun w=>At1 p _ w∧(In P.S w∧In P.K w)∧True) (⟨hg1.at1 (by simp) hc0,⟨hg1.mem (by simp),hg1.mem (by simp)⟩,trivial⟩) (RT.end_ (S:=fun w=>At1 p _ w∧(In P.S w∧In P.K w)∧True) (⟨hg1.at1 (by simp) hc0,⟨hg1.mem (by simp),hg1.mem (by simp)⟩,trivial⟩) ?_) (RT.end_ (S:=fun w=>At1 p _ w∧(In P.S w∧In P.K w)∧True) (⟨hg1.at1 (by simp) hc0,⟨hg1.mem (by simp),hg1.mem (by simp)⟩,trivial⟩) ?_)
 ·
  have hct:=NewR_ct hg1 (q:=Ei) (id:=W.s[i].id) (v:=a.vk[i].1) (h:=a.vk[i].2) (.inr (by simp[hET])) ⟨hvo.index,hvo.bterm,hvo.voters,hvo.learners,hvo.data,hEo.lies⟩ hS hid hvo.term hvo.vote hvo.commit
  rw[hN] at hct
  refine go 1 ?_
  refine zc (hct) ?_
  rintro v2 s2 B2 w2 hle2 (hg2:Good _ s2 (B2::P.W::P.S::P.K::P.B::P.L::P.T::P.D::P.X::T)) hax2 ⟨h23,rfl,hA23⟩
  have hg2:=hg2.drop
  have hw:=hw.up hle2
  refine⟨⟨hg2.at1 (by simp) hc0,⟨hg2.mem (by simp),hg2.mem (by simp)⟩,trivial⟩,?_⟩
  refine go 4 ?_
  rintro b3 w3 Q3 (hg3:Good _ s2 (Q3::P.W::P.S::P.K::P.B::P.L::P.T::P.D::P.X::T)) hax3 hb3
  refine⟨⟨hg3.at1 (by simp) hc0,⟨hg3.mem (by simp),hg3.mem (by simp)⟩,trivial⟩,?_⟩
  refine go 1 ?_
  rintro w4 Q4 (hg4:Good _ s2 (Q4::P.W::P.S::P.K::P.B::P.L::P.T::P.D::P.X::T)) hax4 hb4
  refine⟨⟨hg4.at1 (by simp) hc0,⟨hg4.mem (by simp),hg4.mem (by simp)⟩,trivial⟩,?_⟩
  refine go 3 ?_
  have hg5:=hg4.drew
  refine CW.dx [1,3,5,7,9,11,13] [14] 7 1 (fun w=>At1 p _ w∧At1 b3 _ w∧True) ?_
  refine go 6 ?_
  refine RL.idxOwn rfl rfl rfl rfl sl81.out rfl rfl hw.S (by omega) (by omega) ?_
  rintro g' cs vs' hb' hA' hcs hvl' hcell _
  have hoS:Own RRaft 20 44 s2 P.S (some ⟨g',0,none⟩) a.sc W.s:=hb'▸hw.S
  have hset:=hoS.set hA' hil (show (raftV (newR W.s[i].id a.vk[i].1) h23).length=20 from rfl) ⟨h23,rfl,hA23⟩
  obtain⟨SN,hSN⟩:∃ Z,Z=P.S.put g' (.cells (List.take (i*20) cs.toList++raftV (newR W.s[i].id a.vk[i].1) h23++List.drop (i*20+20) cs.toList).toArray 44):=⟨_,rfl⟩
  rw[←hSN] at hset
  have hfit:i*20+20≤cs.size:=by have:=hoS.le_cap;rw[hcs];omega
  refine go 2 ?_
  refine RL.store (i:=2) (j:=i*20) rfl rfl rfl ty44.out rfl rfl hg5 rfl hA' rfl (by simp[Value.cells,Value.oneCell']) hfit ?_
  intro ws hgs haxs
  refine go 8 ?_
  refine CW.ret (zr1 ?_)
  have hgs2:Good ws s2 (P.W::SN::P.K::P.B::P.L::P.T::P.D::P.X::T):=by rw[hSN];exact hgs.drop
  subst hT
  exact⟨_,{ P with S:=SN },a,rfl,hle2,hgs2,(((Aux.drew _).trans (hax2.trans (hax3.trans (hax4.trans (Aux.drew _)))))).trans haxs,hw.setS (hb'.symm▸hset) (by simp)⟩
 ·
  refine go 1 ?_
  rintro b6 w6 Q6 (hg6:Good _ s (Q6::P.W::P.S::P.K::P.B::P.L::P.T::P.D::P.X::T)) hax6 hb6
  refine⟨⟨hg6.at1 (by simp) hc0,⟨hg6.mem (by simp),hg6.mem (by simp)⟩,trivial⟩,?_⟩
  have hct:=NewR_ct hg6 (q:=Ei) (id:=W.s[i].id) (v:=a.vk[i].1) (h:=a.vk[i].2) (.inr (by simp[hET])) ⟨hvo.index,hvo.bterm,hvo.voters,hvo.learners,hvo.data,hEo.lies⟩ hS hid hvo.term hvo.vote hvo.commit
  rw[hN] at hct
  refine go 1 ?_
  refine zc (hct) ?_
  rintro v7 s7 B7 w7 hle7 (hg7:Good _ s7 (B7::Q6::P.W::P.S::P.K::P.B::P.L::P.T::P.D::P.X::T)) hax7 ⟨h23,rfl,hA23⟩
  have hg7:=hg7.drop
  have hw:=hw.up hle7
  refine⟨⟨hg7.at1 (by simp) hc0,⟨hg7.mem (by simp),hg7.mem (by simp)⟩,trivial⟩,?_⟩
  refine go 4 ?_
  rintro w8 Q8 (hg8:Good _ s7 (Q8::P.W::P.S::P.K::P.B::P.L::P.T::P.D::P.X::T)) hax8 hb8
  refine⟨⟨hg8.at1 (by simp) hc0,⟨hg8.mem (by simp),hg8.mem (by simp)⟩,trivial⟩,?_⟩
  refine go 3 ?_
  have hg9:=hg8.drew
  refine CW.dx [1,3,5,7,9,11,13] [14] 7 1 (fun w=>At1 p _ w∧At1 b6 _ w∧True) ?_
  refine go 6 ?_
  refine RL.idxOwn rfl rfl rfl rfl sl81.out rfl rfl hw.S (by omega) (by omega) ?_
  rintro g' cs vs' hb' hA' hcs hvl' hcell _
  have hoS:Own RRaft 20 44 s7 P.S (some ⟨g',0,none⟩) a.sc W.s:=hb'▸hw.S
  have hset:=hoS.set hA' hil (show (raftV (newR W.s[i].id a.vk[i].1) h23).length=20 from rfl) ⟨h23,rfl,hA23⟩
  obtain⟨SN,hSN⟩:∃ Z,Z=P.S.put g' (.cells (List.take (i*20) cs.toList++raftV (newR W.s[i].id a.vk[i].1) h23++List.drop (i*20+20) cs.toList).toArray 44):=⟨_,rfl⟩
  rw[←hSN] at hset
  have hfit:i*20+20≤cs.size:=by have:=hoS.le_cap;rw[hcs];omega
  refine go 2 ?_
  refine RL.store (i:=2) (j:=i*20) rfl rfl rfl ty44.out rfl rfl hg9 rfl hA' rfl (by simp[Value.cells,Value.oneCell']) hfit ?_
  intro ws hgs haxs
  refine go 8 ?_
  refine CW.ret (zr1 ?_)
  have hgs2:Good ws s7 (P.W::SN::P.K::P.B::P.L::P.T::P.D::P.X::T):=by rw[hSN];exact hgs.drop
  subst hT
  exact⟨_,{ P with S:=SN },a,rfl,hle7,hgs2,(((Aux.drew _).trans (hax6.trans (hax7.trans (hax8.trans (Aux.drew _)))))).trans haxs,hw.setS (hb'.symm▸hset) (by simp)⟩
end
end Go.Lw
namespace Go.Lw
open Go.Proofs
open Safe (Wd)
attribute [local irreducible] RL RA
theorem hard_same (a:Hard) (w:World):(binOp .eql 24 (.agg (hardV a)) (.agg (hardV a))).run Tryz.prog w = .ok (.bool true) w:=by
 have u1:=Tryz.underlying3
 have a1:=Tryz.isAgg3
 have z1:=Tryz.sizeOf3
 have u2:=Tryz.underlying22
 have a2:=Tryz.isAgg22
 have z2:=Tryz.sizeOf22
 have hS:Tryz.prog.underlying 24=some (.struct (Tryz.prog.fieldsOf 24)):=by kernel_rfl
 have hp:Tryz.prog.stoodInHeld 24=false:=by kernel_rfl
 rw[run_eql_struct,show (10000:Nat)=9999+1 from rfl,run_equalIn_agg w 9999 24 _ _ hS hp]
 simp only[Program.fieldsOf,Tryz.underlying24]
 go_simp
theorem WP.out {w:World} {s e:Res} {os:List Res} {P:WP} {i:Nat} (h:P.E[i]?=some e) (hg:Good w s (P.os++os)):Good w s (e::P.W::P.S::P.K::P.B::P.L::P.T::P.D::P.X::(P.E.eraseIdx i++os)):=by
 refine hg.perm ?_
 have h1:(P.E++os).Perm (e::(P.E.eraseIdx i++os)):=(perm_pick i P.E e h).append_right os
 exact (List.Perm.append_left [P.W,P.S,P.K,P.B,P.L,P.T,P.D,P.X] h1).trans List.perm_middle
theorem WP.back {w:World} {s e y:Res} {os:List Res} {P:WP} {i:Nat} (h:P.E[i]?=some e) {W S K B L T D X:Res} (hg:Good w s (y::W::S::K::B::L::T::D::X::(P.E.eraseIdx i++os))):Good w s ((⟨W,S,K,B,L,T,D,X,P.E.set i y⟩:WP).os++os):=by
 refine hg.perm ?_
 have h1:(y::(P.E.eraseIdx i++os)).Perm (P.E.set i y++os):=(perm_back i P.E e y h).append_right os
 exact (List.perm_middle (l₁:=[W,S,K,B,L,T,D,X])).symm.trans (List.Perm.append_left [W,S,K,B,L,T,D,X] h1)
theorem WAt.setK {s:Res} {P:WP} {p:Nat} {w:Wd} {a:WA} (k:WAt s P p w a) {i:Nat} {e y K':Res} (he:P.E[i]?=some e) {x:View × Hd} (hK:Own RView 10 35 s K' a.ka a.kc (a.vk.set i x)) (hE:Own REntry 6 65 s y x.2.ea x.2.ec x.1.log.entries) :
  WAt s ⟨P.W,P.S,K',P.B,P.L,P.T,P.D,P.X,P.E.set i y⟩ p { w with kept:=w.kept.set i x.1 } { a with vk:=a.vk.set i x }:=by
 refine { k with cells:=?_,kept:=?_,K:=hK,elen:=by simp only[List.length_set];exact k.elen,E:=fun j v q h1 h2=>?_ }
 ·
  have:=k.cells
  simp only[worldV,List.length_set];exact this
 ·
  show w.kept.set i x.1=(a.vk.set i x).map (·.1)
  rw[k.kept,List.map_set]
 ·
  have h1:(a.vk.set i x)[j]?=some v:=h1
  have h2:(P.E.set i y)[j]?=some q:=h2
  rw[List.getElem?_set] at h1 h2
  by_cases hij:i=j
  ·
   subst hij
   rw[if_pos rfl] at h1 h2
   split at h1
   ·
    split at h2
    ·
     rw[←Option.some.inj h1,← Option.some.inj h2];exact hE
    ·
     cases h2
   ·
    cases h1
  ·
   rw[if_neg hij] at h1 h2
   exact k.E j v q h1 h2
def midL (L:Log) (o:Out) (B:Snap):Log :=
 if o.install=true then ⟨B,L.entries.filter fun e=>decide (o.cut=0) && decide (B.index<e.index)⟩
 else if o.cut≠0 then ⟨L.base,L.entries.filter fun e=>decide (e.index<o.cut)⟩ else L
theorem keep_mid (L:Log) (o:Out) (B:Snap):Safe.keepL L o B=⟨(midL L o B).base,(midL L o B).entries++o.entries⟩:=by
 unfold Safe.keepL midL
 split
 ·
  rfl
 ·
  split<;>rfl
theorem mid_len (L:Log) (o:Out) (B:Snap):(midL L o B).entries.length≤L.entries.length:=by
 unfold midL
 split
 ·
  exact List.length_filter_le _ _
 ·
  split
  ·
   exact List.length_filter_le _ _
  ·
   exact Nat.le_refl _
theorem RefSameLog2_ct {w:World} {s:Res} {os:List Res} {r1 r2:Res} {l l':Log} {h k:Hd} (he:l=l') (hg:Good w s os) (h1:r1=s∨r1∈os) (h2:r2=s∨r2∈os) (hl:LogAt r1 s l h) (hk:LogAt r2 s l' k) :
  Calls Tryz.prog 87 #[logA l h,logA l' k] w (PostV w s os fun r=>r = .bool true):=by
 subst he;exact RefSameLog_ct hg h1 h2 hl hk
section
variable {w:World} {s:Res} {os:List Res}
theorem keep_ct {P:WP} {p:Nat} {W:Wd} {a:WA} {i:Nat} {r:Raft} {v:View} {o:Out} {ho:Hd} (hg:Good w s (P.os++os)) (hw:WAt s P p W a) (hi:W.s[i]?=some r) (hv:W.kept[i]?=some v) (hO:OutAt s o ho)
  (hk:Safe.keepL v.log o r.log.base=r.log) (hh:(if o.save=true then r.hard else v.hard)=r.hard) (hS:r.log.small) (hoS:(∀ e∈o.entries,e.small)∧o.entries.length≤1073741824) (hvl:v.log.entries.length≤1073741824) (hR:rng .u64 r.hard.term∧rng .i64 r.hard.vote∧rng .u64 r.hard.commit) :
  Calls Tryz.prog 54 #[ptr p,i64 i,.agg (outV o ho).toArray] w (WPost w s os p (.bool true) { W with kept:=W.kept.set i ⟨r.hard,r.log,v.gone⟩ }):=by
 obtain⟨x,hx,hxv⟩:∃ x:View × Hd,a.vk[i]?=some x∧x.1=v:=by
  rw[hw.kept,List.getElem?_map] at hv
  cases hz:a.vk[i]? with
  | none=>rw[hz] at hv;cases hv
  | some x=>rw[hz] at hv;exact⟨x,rfl,Option.some.inj hv⟩
 subst hxv
 have hil:i<W.s.length:=(List.getElem?_eq_some_iff.1 hi).1
 have hik:i<a.vk.length:=(List.getElem?_eq_some_iff.1 hx).1
 have hri:W.s[i]=r:=by rw[List.getElem?_eq_getElem hil] at hi;exact Option.some.inj hi
 have hxi:a.vk[i]=x:=by rw[List.getElem?_eq_getElem hik] at hx;exact Option.some.inj hx
 subst hri hxi
 obtain⟨Ei,hEi⟩:∃ e,P.E[i]?=some e:=⟨_,List.getElem?_eq_getElem (by rw[hw.elen];exact hik)⟩
 have hEo:=hw.E i _ Ei hx hEi
 have hmx:=hw.S.le_max
 have hmk:=hw.K.le_max
 simp only[maxLen] at hmx hmk
 have hg0:=WP.out hEi hg
 obtain⟨T,hT⟩:∃ T,T=P.E.eraseIdx i++os:=⟨_,rfl⟩
 rw[←hT] at hg0
 have hc0:=hw.cells
 rw[keep_mid] at hk
 have hml:=mid_len a.vk[i].1.log o W.s[i].log.base
 refine enter (l:=[ptr p,i64 i,.agg (outV o ho).toArray]) Tryz.func54 rfl Tryz.ntmps54 rfl ?_
 refine go 3 ?_
 rintro b1 w1 Q1 (hg1:Good _ s (Q1::Ei::P.W::P.S::P.K::P.B::P.L::P.T::P.D::P.X::T)) hax1 hb1
 refine go 10 ?_
 refine RL.idxL rfl rfl rfl rfl sl82.out rfl rfl hw.K.lies (by omega) (by omega) ?_
 rintro q2 vs2 hvl2 hH2 hV2
 obtain⟨rfl,hvo⟩:=hV2
 refine RL.loads (j:=0) (us:=_) rfl rfl rfl rfl ty35.out rfl (hH2) (hg1.mem (by simp)) rfl rfl ?_
 refine go 1 ?_
 rintro b2 w2 Q2 (hg2:Good _ s (Q2::Q1::Ei::P.W::P.S::P.K::P.B::P.L::P.T::P.D::P.X::T)) hax2 hb2
 refine go 2 ?_
 rintro w3 Q3 (hg3:Good _ s (Q3::Q1::Ei::P.W::P.S::P.K::P.B::P.L::P.T::P.D::P.X::T)) hax3 hb3
 refine go 9 ?_
 refine RL.idxL rfl rfl rfl rfl sl81.out rfl rfl hw.S.lies (by omega) (by omega) ?_
 rintro q vs hvl hH ⟨hh8,rfl,hRA⟩
 refine RL.loads (j:=0) (us:=_) rfl rfl rfl rfl ty44.out rfl (hH) (hg3.mem (by simp)) rfl rfl ?_
 refine go 1 ?_
 rintro b4 w4 Q4 (hg4:Good _ s (Q4::Q3::Q1::Ei::P.W::P.S::P.K::P.B::P.L::P.T::P.D::P.X::T)) hax4 hb4
 refine go 2 ?_
 rintro w5 Q5 (hg5:Good _ s (Q5::Q3::Q1::Ei::P.W::P.S::P.K::P.B::P.L::P.T::P.D::P.X::T)) hax5 hb5
 refine go 2 ?_
 have hh7:=a.vk[i].2
 refine CW.meet (fun E' w'=>∃ Q7,E'=[(0,ptr p),(1,i64 i),(5,ptr b1),(7,ptr b2),(8,ptr b4)]∧Good w' s (Q5::Q7::Q1::Ei::P.W::P.S::P.K::P.B::P.L::P.T::P.D::P.X::T)∧Aux w w'∧Q7 b2=some (.cells (viewV ⟨W.s[i].hard,a.vk[i].1.log,a.vk[i].1.gone⟩ a.vk[i].2).toArray 35 (0,0))) ?_ ?_
 ·
  refine go 5 ?_
  refine CW.cond rfl (fun h28=>?_) (fun h28=>?_)
  ·
   refine go 5 ?_
   rintro w6 Q6 (hg6:Good _ s (Q5::Q6::Q1::Ei::P.W::P.S::P.K::P.B::P.L::P.T::P.D::P.X::T)) hax6 hb6
   refine go 2 ?_
   exact fun ac ha=>⟨[(0,ptr p),(1,i64 i),(5,ptr b1),(7,ptr b2),(8,ptr b4)],ha.sub ⟨rfl,rfl,rfl,rfl,rfl,trivial⟩,⟨_,rfl,((((((((((((hg6.front 11 rfl).front 11 rfl).front 11 rfl).front 11 rfl).front 11 rfl).front 11 rfl).front 11 rfl).front 11 rfl).front 11 rfl).front 11 rfl).front 11 rfl).front 11 rfl),(hax1.trans (hax2.trans (hax3.trans (hax4.trans (hax5.trans hax6))))),(by first | exact hb6 | (rw[←hh,if_neg (by rw[h28];decide)];exact hb6))⟩⟩
  ·
   refine go 1 ?_
   exact fun ac ha=>⟨[(0,ptr p),(1,i64 i),(5,ptr b1),(7,ptr b2),(8,ptr b4)],ha.sub ⟨rfl,rfl,rfl,rfl,rfl,trivial⟩,⟨_,rfl,((((((((((((hg5.front 11 rfl).front 11 rfl).front 11 rfl).front 11 rfl).front 11 rfl).front 11 rfl).front 11 rfl).front 11 rfl).front 11 rfl).front 11 rfl).front 11 rfl).front 11 rfl),(hax1.trans (hax2.trans (hax3.trans (hax4.trans hax5)))),(by first | exact hb3 | (rw[←hh,if_neg (by rw[h28];decide)];exact hb3))⟩⟩
 rintro E3 w3 ⟨Q7,rfl,hg3,hax3,hQ7⟩
 have hc8:=hb5
 have hc5:=hb1
 refine CW.meet (fun E' w'=>∃ s' Y Y7 h7,E'=[(0,ptr p),(1,i64 i),(5,ptr b1),(7,ptr b2),(8,ptr b4)]∧Good w' s' (Y::Q5::Y7::Q1::P.W::P.S::P.K::P.B::P.L::P.T::P.D::P.X::T)∧Aux w w'∧Le s s'∧Y7 b2=some (.cells (viewV ⟨W.s[i].hard,midL a.vk[i].1.log o W.s[i].log.base,a.vk[i].1.gone⟩ h7).toArray 35 (0,0))∧ViewOk s' ⟨W.s[i].hard,midL a.vk[i].1.log o W.s[i].log.base,a.vk[i].1.gone⟩ h7∧Own REntry 6 65 s' Y h7.ea h7.ec (midL a.vk[i].1.log o W.s[i].log.base).entries) ?_ ?_
 ·
  refine go 5 ?_
  refine CW.cond rfl (fun h33=>?_) (fun h33=>?_)
  ·
   refine go 10 ?_
   refine CW.loop (σ:=Nat) (fun j E w'=>∃ A' a' c',∃ k:Nat,Good w' s (A'::Q5::Q7::Q1::Ei::P.W::P.S::P.K::P.B::P.L::P.T::P.D::P.X::T)∧Aux w w'∧E=[(0,ptr p),(1,i64 i),(5,ptr b1),(7,ptr b2),(8,ptr b4),(9,.slice a' ((a.vk[i].1.log.entries.take k).filter fun e:Entry=>decide (o.cut=0) && decide (W.s[i].log.base.index<e.index)).length c'),(10,i64 k)]∧k+j=a.vk[i].1.log.entries.length∧Own REntry 6 65 s A' a' c' ((a.vk[i].1.log.entries.take k).filter fun e:Entry=>decide (o.cut=0) && decide (W.s[i].log.base.index<e.index))) (fun j=>j) a.vk[i].1.log.entries.length [(0,ptr p),(1,i64 i),(5,ptr b1),(7,ptr b2),(8,ptr b4),(9,.slice none 0 0),(10,i64 0)] ⟨rfl,rfl,rfl,rfl,rfl,rfl,rfl,trivial⟩ ⟨Res.nil,none,0,0,((((((((((((hg3.front 11 rfl).front 11 rfl).front 11 rfl).front 11 rfl).front 11 rfl).front 11 rfl).front 11 rfl).front 11 rfl).front 11 rfl).front 11 rfl).front 11 rfl).front 11 rfl).nil,hax3,rfl,by omega,Own.nil _ _ _ _ _⟩ ?_
   rintro j E wL ⟨AL,aL,cL,k,hgL,haxL,rfl,hk2,hoR⟩
   refine go 10 ?_
   refine CW.cond rfl (fun h39=>?_) (fun h39=>?_)
   ·
    have hlt:k<a.vk[i].1.log.entries.length:=by have h9:(k:Int)<(a.vk[i].1.log.entries.length:Int):=decide_t h39;omega
    refine go 4 ?_
    have hg7:=hgL.drew
    refine CW.dw [1,3,5,7,9,11,13,15,17,19,21,23,25,27,29,31,33] (fun w=>At1 b1 _ w∧At1 b2 _ w∧At1 b4 _ w∧In Ei w∧True) ?_
    refine go 4 ?_
    refine RL.part 45 rfl (fun h45=>?_) (fun h45=>?_)
    ·
     refine go 4 ?_
     refine RL.idxL rfl rfl rfl rfl sl31.out rfl rfl hEo.lies (by omega) (show ((k:Nat):Int)<(a.vk[i].1.log.entries.length:Int) by omega) ?_
     rintro q3 vs3 hvl3 hH3 ⟨ea,ec,ea1,ec1,ea2,ec2,rfl,er1,er2,er3,eh1,eh2,eh3⟩
     refine go 1 ?_
     refine RL.loadT (j:=0) rfl rfl rfl rfl ty22.out rfl (hH3) (fun w h=>h.2.2.2.1) rfl ?_
     refine go 7 ?_
     refine CW.cond rfl (fun h58=>?_) (fun h58=>?_)
     ·
      refine go 6 ?_
      refine RL.idxL rfl rfl rfl rfl sl31.out rfl rfl hEo.lies (by omega) (show ((k:Nat):Int)<(a.vk[i].1.log.entries.length:Int) by omega) ?_
      rintro q4 vs4 hvl4 hH4 hE4
      have hE4':=hE4
      obtain⟨fa,fc,fa1,fc1,fa2,fc2,rfl,fr1,fr2,fr3,fh1,fh2,fh3⟩:=hE4'
      refine RL.loads (j:=0) (us:=_) rfl rfl rfl rfl ty65.out rfl (hH4) (hg7.mem (by simp)) rfl rfl ?_
      refine go 1 ?_
      rintro b8 w8 Q8 (hg8:Good _ s (Q8::AL::Q5::Q7::Q1::Ei::P.W::P.S::P.K::P.B::P.L::P.T::P.D::P.X::T)) hax8 hb8
      refine go 1 ?_
      obtain⟨news9,hsrc9,hch9⟩:=(one_news (R:=REntry) (xs:=[a.vk[i].1.log.entries[k]]) sl31.out hb8 (hg8.mem (by simp)) (Chunks.single rfl hE4))
      refine RL.append2 (i:=1) (xs:=((a.vk[i].1.log.entries.take k).filter fun e:Entry=>decide (o.cut=0) && decide (W.s[i].log.base.index<e.index))) (ys:=[a.vk[i].1.log.entries[k]]) rfl rfl rfl rfl sl31.out ze65.out rfl REntry.one (rfl) rfl hg8 rfl (hoR) hsrc9 hch9 ((by have:=List.length_filter_le (fun e:Entry=>decide (o.cut=0) && decide (W.s[i].log.base.index<e.index)) (a.vk[i].1.log.entries.take k);rw[List.length_take] at this;rw[List.length_singleton];omega)) (by omega) ?_
      rintro a9 c9 A9 w9 (hg9:Good _ s (Q8::A9::Q5::Q7::Q1::Ei::P.W::P.S::P.K::P.B::P.L::P.T::P.D::P.X::T)) ho9 hax9 hk9 hn9
      have hoN:=ho9
      refine go 8 ?_
      have hf:((a.vk[i].1.log.entries.take (k+1)).filter fun e:Entry=>decide (o.cut=0) && decide (W.s[i].log.base.index<e.index))=((a.vk[i].1.log.entries.take k).filter fun e:Entry=>decide (o.cut=0) && decide (W.s[i].log.base.index<e.index))++[a.vk[i].1.log.entries[k]]:=by rw[List.take_succ_eq_append_getElem hlt,List.filter_append];simp_all
      rw[←hf] at hoN ⊢
      cases j with
      | zero=>omega
      | succ j=>exact fun ac ha=>⟨j,[(0,ptr p),(1,i64 i),(5,ptr b1),(7,ptr b2),(8,ptr b4),(9,.slice _ ((a.vk[i].1.log.entries.take (k+1)).filter fun e:Entry=>decide (o.cut=0) && decide (W.s[i].log.base.index<e.index)).length _),(10,i64 ((k:Int)+1))],ha.sub ⟨rfl,rfl,rfl,rfl,rfl,rfl,rfl,trivial⟩,⟨_,_,_,k+1,((((((((((((((hg9.front 13 rfl).front 13 rfl).front 13 rfl).front 13 rfl).front 13 rfl).front 13 rfl).front 13 rfl).front 13 rfl).front 13 rfl).front 13 rfl).front 13 rfl).front 13 rfl).front 13 rfl).dropAt 13),(haxL.trans ((Aux.drew _).trans (hax8.trans hax9))),rfl,by omega,hoN⟩,Nat.lt_succ_self j⟩
     ·
      refine go 6 ?_
      have hf:((a.vk[i].1.log.entries.take (k+1)).filter fun e:Entry=>decide (o.cut=0) && decide (W.s[i].log.base.index<e.index))=((a.vk[i].1.log.entries.take k).filter fun e:Entry=>decide (o.cut=0) && decide (W.s[i].log.base.index<e.index)):=by rw[List.take_succ_eq_append_getElem hlt,List.filter_append];simp_all
      rw[←hf] at hoR ⊢
      cases j with
      | zero=>omega
      | succ j=>exact fun ac ha=>⟨j,[(0,ptr p),(1,i64 i),(5,ptr b1),(7,ptr b2),(8,ptr b4),(9,.slice _ ((a.vk[i].1.log.entries.take (k+1)).filter fun e:Entry=>decide (o.cut=0) && decide (W.s[i].log.base.index<e.index)).length _),(10,i64 ((k:Int)+1))],ha.sub ⟨rfl,rfl,rfl,rfl,rfl,rfl,rfl,trivial⟩,⟨_,_,_,k+1,(((((((((((((hg7.front 12 rfl).front 12 rfl).front 12 rfl).front 12 rfl).front 12 rfl).front 12 rfl).front 12 rfl).front 12 rfl).front 12 rfl).front 12 rfl).front 12 rfl).front 12 rfl).front 12 rfl),(haxL.trans (Aux.drew _)),rfl,by omega,hoR⟩,Nat.lt_succ_self j⟩
    ·
     refine go 21 ?_
     have hf:((a.vk[i].1.log.entries.take (k+1)).filter fun e:Entry=>decide (o.cut=0) && decide (W.s[i].log.base.index<e.index))=((a.vk[i].1.log.entries.take k).filter fun e:Entry=>decide (o.cut=0) && decide (W.s[i].log.base.index<e.index)):=by rw[List.take_succ_eq_append_getElem hlt,List.filter_append];simp_all
     rw[←hf] at hoR ⊢
     cases j with
     | zero=>omega
     | succ j=>exact fun ac ha=>⟨j,[(0,ptr p),(1,i64 i),(5,ptr b1),(7,ptr b2),(8,ptr b4),(9,.slice _ ((a.vk[i].1.log.entries.take (k+1)).filter fun e:Entry=>decide (o.cut=0) && decide (W.s[i].log.base.index<e.index)).length _),(10,i64 ((k:Int)+1))],ha.sub ⟨rfl,rfl,rfl,rfl,rfl,rfl,rfl,trivial⟩,⟨_,_,_,k+1,(((((((((((((hg7.front 12 rfl).front 12 rfl).front 12 rfl).front 12 rfl).front 12 rfl).front 12 rfl).front 12 rfl).front 12 rfl).front 12 rfl).front 12 rfl).front 12 rfl).front 12 rfl).front 12 rfl),(haxL.trans (Aux.drew _)),rfl,by omega,hoR⟩,Nat.lt_succ_self j⟩
   ·
    refine go 6 ?_
    refine zc (RefCloneSnap_ct (x:=W.s[i].log.base) hgL hRA.log.voters hRA.log.learners hRA.log.data hS.2.1 hS.1) ?_
    rintro v10 s10 B10 w10 hle10 (hg10:Good _ s10 (B10::AL::Q5::Q7::Q1::Ei::P.W::P.S::P.K::P.B::P.L::P.T::P.D::P.X::T)) hax10 ⟨e1,d1,e2,d2,e3,d3,rfl,j1,j2,j3⟩
    have hg10:=hg10.drop
    have hw:=hw.up hle10
    have hO:=hO.up hle10
    have hEo:=hEo.up REntry.up hle10
    refine go 5 ?_
    rintro w11 Q11 (hg11:Good _ s10 (AL::Q5::Q11::Q1::Ei::P.W::P.S::P.K::P.B::P.L::P.T::P.D::P.X::T)) hax11 hb11
    refine go 2 ?_
    have hkl:k=a.vk[i].1.log.entries.length:=by have h9:¬ (k:Int)<(a.vk[i].1.log.entries.length:Int):=decide_f h39;omega
    have hmid:midL a.vk[i].1.log o W.s[i].log.base=⟨W.s[i].log.base,a.vk[i].1.log.entries.filter (fun e:Entry=>decide (o.cut=0) && decide (W.s[i].log.base.index<e.index))⟩:=if_pos h33
    rw[hkl,List.take_length] at hoR
    have hc7:=hb11
    rw[hkl,List.take_length] at hc7
    exact fun ac ha=>⟨[(0,ptr p),(1,i64 i),(5,ptr b1),(7,ptr b2),(8,ptr b4)],ha.sub ⟨rfl,rfl,rfl,rfl,rfl,trivial⟩,⟨_,_,_,⟨e1,d1,e2,d2,e3,d3,aL,cL,none,0,none,0,none,0,none,0,none,0⟩,rfl,(((((((((((((hg11.front 12 rfl).front 12 rfl).front 12 rfl).front 12 rfl).front 12 rfl).front 12 rfl).front 12 rfl).front 12 rfl).front 11 rfl).front 11 rfl).front 11 rfl).front 11 rfl).dropAt 12),(haxL.trans (hax10.trans hax11)),hle10,by rw[hmid];exact hc7,by rw[hmid];exact⟨hR.1,hR.2.1,hR.2.2,hRA.log.index,hRA.log.term,j1,j2,j3⟩,by rw[hmid];exact hoR.up REntry.up (hle10)⟩⟩
  ·
   refine go 6 ?_
   refine CW.cond rfl (fun h77=>?_) (fun h77=>?_)
   ·
    refine go 10 ?_
    refine CW.loop (σ:=Nat) (fun j E w'=>∃ A' a' c',∃ k:Nat,Good w' s (A'::Q5::Q7::Q1::Ei::P.W::P.S::P.K::P.B::P.L::P.T::P.D::P.X::T)∧Aux w w'∧E=[(0,ptr p),(1,i64 i),(5,ptr b1),(7,ptr b2),(8,ptr b4),(11,.slice a' ((a.vk[i].1.log.entries.take k).filter fun e:Entry=>decide (e.index<o.cut)).length c'),(12,i64 k)]∧k+j=a.vk[i].1.log.entries.length∧Own REntry 6 65 s A' a' c' ((a.vk[i].1.log.entries.take k).filter fun e:Entry=>decide (e.index<o.cut))) (fun j=>j) a.vk[i].1.log.entries.length [(0,ptr p),(1,i64 i),(5,ptr b1),(7,ptr b2),(8,ptr b4),(11,.slice none 0 0),(12,i64 0)] ⟨rfl,rfl,rfl,rfl,rfl,rfl,rfl,trivial⟩ ⟨Res.nil,none,0,0,((((((((((((hg3.front 11 rfl).front 11 rfl).front 11 rfl).front 11 rfl).front 11 rfl).front 11 rfl).front 11 rfl).front 11 rfl).front 11 rfl).front 11 rfl).front 11 rfl).front 11 rfl).nil,hax3,rfl,by omega,Own.nil _ _ _ _ _⟩ ?_
    rintro j E wL ⟨AL,aL,cL,k,hgL,haxL,rfl,hk2,hoR⟩
    refine go 10 ?_
    refine CW.cond rfl (fun h83=>?_) (fun h83=>?_)
    ·
     have hlt:k<a.vk[i].1.log.entries.length:=by have h9:(k:Int)<(a.vk[i].1.log.entries.length:Int):=decide_t h83;omega
     refine go 4 ?_
     have hg12:=hgL.drew
     refine CW.dw [1,3,5,7,9,11,13,15,17,19] (fun w=>At1 b2 _ w∧At1 b1 _ w∧In Ei w∧True) ?_
     refine go 4 ?_
     refine RL.idxL rfl rfl rfl rfl sl31.out rfl rfl hEo.lies (by omega) (show ((k:Nat):Int)<(a.vk[i].1.log.entries.length:Int) by omega) ?_
     rintro q5 vs5 hvl5 hH5 ⟨ea,ec,ea1,ec1,ea2,ec2,rfl,er1,er2,er3,eh1,eh2,eh3⟩
     refine go 1 ?_
     refine RL.loadT (j:=0) rfl rfl rfl rfl ty22.out rfl (hH5) (fun w h=>h.2.2.1) rfl ?_
     refine go 4 ?_
     refine CW.cond rfl (fun h95=>?_) (fun h95=>?_)
     ·
      refine go 6 ?_
      refine RL.idxL rfl rfl rfl rfl sl31.out rfl rfl hEo.lies (by omega) (show ((k:Nat):Int)<(a.vk[i].1.log.entries.length:Int) by omega) ?_
      rintro q6 vs6 hvl6 hH6 hE6
      have hE6':=hE6
      obtain⟨fa,fc,fa1,fc1,fa2,fc2,rfl,fr1,fr2,fr3,fh1,fh2,fh3⟩:=hE6'
      refine RL.loads (j:=0) (us:=_) rfl rfl rfl rfl ty65.out rfl (hH6) (hg12.mem (by simp)) rfl rfl ?_
      refine go 1 ?_
      rintro b13 w13 Q13 (hg13:Good _ s (Q13::AL::Q5::Q7::Q1::Ei::P.W::P.S::P.K::P.B::P.L::P.T::P.D::P.X::T)) hax13 hb13
      refine go 1 ?_
      obtain⟨news14,hsrc14,hch14⟩:=(one_news (R:=REntry) (xs:=[a.vk[i].1.log.entries[k]]) sl31.out hb13 (hg13.mem (by simp)) (Chunks.single rfl hE6))
      refine RL.append2 (i:=1) (xs:=((a.vk[i].1.log.entries.take k).filter fun e:Entry=>decide (e.index<o.cut))) (ys:=[a.vk[i].1.log.entries[k]]) rfl rfl rfl rfl sl31.out ze65.out rfl REntry.one (rfl) rfl hg13 rfl (hoR) hsrc14 hch14 ((by have:=List.length_filter_le (fun e:Entry=>decide (e.index<o.cut)) (a.vk[i].1.log.entries.take k);rw[List.length_take] at this;rw[List.length_singleton];omega)) (by omega) ?_
      rintro a14 c14 A14 w14 (hg14:Good _ s (Q13::A14::Q5::Q7::Q1::Ei::P.W::P.S::P.K::P.B::P.L::P.T::P.D::P.X::T)) ho14 hax14 hk14 hn14
      have hoN:=ho14
      refine go 8 ?_
      have hf:((a.vk[i].1.log.entries.take (k+1)).filter fun e:Entry=>decide (e.index<o.cut))=((a.vk[i].1.log.entries.take k).filter fun e:Entry=>decide (e.index<o.cut))++[a.vk[i].1.log.entries[k]]:=by rw[List.take_succ_eq_append_getElem hlt,List.filter_append];simp_all
      rw[←hf] at hoN ⊢
      cases j with
      | zero=>omega
      | succ j=>exact fun ac ha=>⟨j,[(0,ptr p),(1,i64 i),(5,ptr b1),(7,ptr b2),(8,ptr b4),(11,.slice _ ((a.vk[i].1.log.entries.take (k+1)).filter fun e:Entry=>decide (e.index<o.cut)).length _),(12,i64 ((k:Int)+1))],ha.sub ⟨rfl,rfl,rfl,rfl,rfl,rfl,rfl,trivial⟩,⟨_,_,_,k+1,((((((((((((((hg14.front 13 rfl).front 13 rfl).front 13 rfl).front 13 rfl).front 13 rfl).front 13 rfl).front 13 rfl).front 13 rfl).front 13 rfl).front 13 rfl).front 13 rfl).front 13 rfl).front 13 rfl).dropAt 13),(haxL.trans ((Aux.drew _).trans (hax13.trans hax14))),rfl,by omega,hoN⟩,Nat.lt_succ_self j⟩
     ·
      refine go 6 ?_
      have hf:((a.vk[i].1.log.entries.take (k+1)).filter fun e:Entry=>decide (e.index<o.cut))=((a.vk[i].1.log.entries.take k).filter fun e:Entry=>decide (e.index<o.cut)):=by rw[List.take_succ_eq_append_getElem hlt,List.filter_append];simp_all
      rw[←hf] at hoR ⊢
      cases j with
      | zero=>omega
      | succ j=>exact fun ac ha=>⟨j,[(0,ptr p),(1,i64 i),(5,ptr b1),(7,ptr b2),(8,ptr b4),(11,.slice _ ((a.vk[i].1.log.entries.take (k+1)).filter fun e:Entry=>decide (e.index<o.cut)).length _),(12,i64 ((k:Int)+1))],ha.sub ⟨rfl,rfl,rfl,rfl,rfl,rfl,rfl,trivial⟩,⟨_,_,_,k+1,(((((((((((((hg12.front 12 rfl).front 12 rfl).front 12 rfl).front 12 rfl).front 12 rfl).front 12 rfl).front 12 rfl).front 12 rfl).front 12 rfl).front 12 rfl).front 12 rfl).front 12 rfl).front 12 rfl),(haxL.trans (Aux.drew _)),rfl,by omega,hoR⟩,Nat.lt_succ_self j⟩
    ·
     refine go 6 ?_
     rintro w15 Q15 (hg15:Good _ s (AL::Q5::Q15::Q1::Ei::P.W::P.S::P.K::P.B::P.L::P.T::P.D::P.X::T)) hax15 hb15
     refine go 2 ?_
     have hkl:k=a.vk[i].1.log.entries.length:=by have h9:¬ (k:Int)<(a.vk[i].1.log.entries.length:Int):=decide_f h83;omega
     have hmid:midL a.vk[i].1.log o W.s[i].log.base=⟨a.vk[i].1.log.base,a.vk[i].1.log.entries.filter (fun e:Entry=>decide (e.index<o.cut))⟩:=(if_neg (by rw[h33];decide)).trans (if_pos (by simpa using h77))
     rw[hkl,List.take_length] at hoR
     have hc7:=hb15
     rw[hkl,List.take_length] at hc7
     exact fun ac ha=>⟨[(0,ptr p),(1,i64 i),(5,ptr b1),(7,ptr b2),(8,ptr b4)],ha.sub ⟨rfl,rfl,rfl,rfl,rfl,trivial⟩,⟨_,_,_,{ a.vk[i].2 with ea:=aL,ec:=cL },rfl,(((((((((((((hg15.front 12 rfl).front 12 rfl).front 12 rfl).front 12 rfl).front 12 rfl).front 12 rfl).front 12 rfl).front 12 rfl).front 11 rfl).front 11 rfl).front 11 rfl).front 11 rfl).dropAt 12),(haxL.trans hax15),(Le.refl _),by rw[hmid];exact hc7,by rw[hmid];exact⟨hR.1,hR.2.1,hR.2.2,hvo.index,hvo.bterm,hvo.voters,hvo.learners,hvo.data⟩,by rw[hmid];exact hoR⟩⟩
   ·
    refine go 1 ?_
    have hmid:midL a.vk[i].1.log o W.s[i].log.base=a.vk[i].1.log:=(if_neg (by rw[h33];decide)).trans (if_neg (by simpa using h77))
    exact fun ac ha=>⟨[(0,ptr p),(1,i64 i),(5,ptr b1),(7,ptr b2),(8,ptr b4)],ha.sub ⟨rfl,rfl,rfl,rfl,rfl,trivial⟩,⟨_,_,_,a.vk[i].2,rfl,((((((((((((hg3.front 11 rfl).front 11 rfl).front 11 rfl).front 11 rfl).front 11 rfl).front 11 rfl).front 11 rfl).front 11 rfl).front 10 rfl).front 10 rfl).front 10 rfl).front 11 rfl),hax3,(Le.refl _),by rw[hmid];exact hQ7,by rw[hmid];exact⟨hR.1,hR.2.1,hR.2.2,hvo.index,hvo.bterm,hvo.voters,hvo.learners,hvo.data⟩,by rw[hmid];exact hEo⟩⟩
 rintro E5 w5 ⟨s5,Y,Y7,h7,rfl,hg5,hax5,hle5,hY7,hvo7,hoY⟩
 have hw:=hw.up hle5
 have hO:=hO.up hle5
 have hRA:=hRA.up hle5
 refine go 1 ?_
 have hg16:=hg5.drew
 refine CW.dx [1,3,5,7,9,10,12,15,17] [18] 9 1 (fun w=>At1 b2 _ w∧At1 b1 _ w∧True) ?_
 refine go 6 ?_
 refine zc (RefClones_ct hg16 (.inl rfl) hO.1 hoS.1 (by omega)) ?_
 rintro v17 s17 Q17 w17 hle17 (hg17:Good _ s17 (Q17::Y::Q5::Y7::Q1::P.W::P.S::P.K::P.B::P.L::P.T::P.D::P.X::T)) hax17 ⟨a13,c13,rfl,ho13⟩
 have hw:=hw.up hle17
 have hO:=hO.up hle17
 have hRA:=hRA.up hle17
 have hvo7:=hvo7.up hle17
 have hoY:=hoY.up REntry.up hle17
 refine go 1 ?_
 obtain⟨news18,hsrc18,hch18⟩:=(Src.own sl31.out ho13 (hg17.mem (by simp)))
 refine RL.append2 (i:=1) (xs:=(midL a.vk[i].1.log o W.s[i].log.base).entries) (ys:=o.entries) rfl rfl rfl rfl sl31.out ze65.out rfl REntry.one (rfl) rfl hg17 rfl (hoY) hsrc18 hch18 ((by omega)) (by omega) ?_
 rintro a18 c18 A18 w18 (hg18:Good _ s17 (Q17::A18::Q5::Y7::Q1::P.W::P.S::P.K::P.B::P.L::P.T::P.D::P.X::T)) ho18 hax18 hk18 hn18
 have hoN:=ho18
 refine go 6 ?_
 rintro w19 Q19 (hg19:Good _ s17 (Q17::A18::Q5::Q19::Q1::P.W::P.S::P.K::P.B::P.L::P.T::P.D::P.X::T)) hax19 hb19
 refine go 3 ?_
 have hg20:=hg19.drew
 refine CW.dx [1,3,5,7,9,11,13] [14] 7 1 (fun w=>At1 p _ w∧At1 b2 _ w∧In P.K w∧True) ?_
 refine go 6 ?_
 refine RL.idxOwn rfl rfl rfl rfl sl82.out rfl rfl hw.K (by omega) (by omega) ?_
 rintro g' cs vs' hb' hA' hcs hvl' hcell _
 have hoK:Own RView 10 35 s17 P.K (some ⟨g',0,none⟩) a.kc a.vk:=hb'▸hw.K
 have hset:=hoK.set hA' hik (show (viewV (⟨W.s[i].hard,⟨(midL a.vk[i].1.log o W.s[i].log.base).base,(midL a.vk[i].1.log o W.s[i].log.base).entries++o.entries⟩,a.vk[i].1.gone⟩:View) ({ h7 with ea:=a18,ec:=c18 }:Hd)).length=10 from rfl) (show RView s17 (viewV (⟨W.s[i].hard,⟨(midL a.vk[i].1.log o W.s[i].log.base).base,(midL a.vk[i].1.log o W.s[i].log.base).entries++o.entries⟩,a.vk[i].1.gone⟩:View) ({ h7 with ea:=a18,ec:=c18 }:Hd)) ((⟨W.s[i].hard,⟨(midL a.vk[i].1.log o W.s[i].log.base).base,(midL a.vk[i].1.log o W.s[i].log.base).entries++o.entries⟩,a.vk[i].1.gone⟩:View),({ h7 with ea:=a18,ec:=c18 }:Hd)) from ⟨rfl,⟨hvo7.term,hvo7.vote,hvo7.commit,hvo7.index,hvo7.bterm,hvo7.voters,hvo7.learners,hvo7.data⟩⟩)
 obtain⟨KN,hKN⟩:∃ Z,Z=P.K.put g' (.cells (List.take (i*10) cs.toList++viewV (⟨W.s[i].hard,⟨(midL a.vk[i].1.log o W.s[i].log.base).base,(midL a.vk[i].1.log o W.s[i].log.base).entries++o.entries⟩,a.vk[i].1.gone⟩:View) ({ h7 with ea:=a18,ec:=c18 }:Hd)++List.drop (i*10+10) cs.toList).toArray 35):=⟨_,rfl⟩
 rw[←hKN] at hset
 have hfit:i*10+10≤cs.size:=by have:=hoK.le_cap;rw[hcs];omega
 refine go 2 ?_
 refine RL.store (i:=7) (j:=i*10) rfl rfl rfl ty35.out rfl rfl hg20 rfl hA' rfl (by simp[Value.cells,Value.oneCell']) hfit ?_
 intro ws hgs haxs
 have hgs2:Good ws s17 (Q17::A18::Q5::Q19::Q1::P.W::P.S::KN::P.B::P.L::P.T::P.D::P.X::T):=by rw[hKN];exact hgs
 refine go 9 ?_
 refine zw (RefSameLog2_ct (l:=⟨(midL a.vk[i].1.log o W.s[i].log.base).base,(midL a.vk[i].1.log o W.s[i].log.base).entries++o.entries⟩) (h:=({ h7 with ea:=a18,ec:=c18 }:Hd)) hk hgs2 (.inr (by simp)) (.inl rfl) ⟨hvo7.index,hvo7.bterm,hvo7.voters,hvo7.learners,hvo7.data,hoN.lies⟩ hRA.log) ?_
 rintro v21 w21 (hg21:Good _ s17 (Q17::A18::Q5::Q19::Q1::P.W::P.S::KN::P.B::P.L::P.T::P.D::P.X::T)) hax21 rfl
 refine go 2 ?_
 refine RL.part 129 rfl (fun h129=>?_) (fun h129=>?_)
 ·
  refine go 4 ?_
  refine RL.stEq rfl rfl rfl rfl (by kernel_rfl) rfl rfl (hard_same W.s[i].hard) ?_
  refine go 3 ?_
  refine CW.ret (zr1 ?_)
  have hfin:=hw.setK hEi (x:=((⟨W.s[i].hard,⟨(midL a.vk[i].1.log o W.s[i].log.base).base,(midL a.vk[i].1.log o W.s[i].log.base).entries++o.entries⟩,a.vk[i].1.gone⟩:View),({ h7 with ea:=a18,ec:=c18 }:Hd))) (hb'.symm▸hset) hoN
  have hVX:(⟨W.s[i].hard,⟨(midL a.vk[i].1.log o W.s[i].log.base).base,(midL a.vk[i].1.log o W.s[i].log.base).entries++o.entries⟩,a.vk[i].1.gone⟩:View)=⟨W.s[i].hard,W.s[i].log,a.vk[i].1.gone⟩:=by rw[hk]
  rw[hVX] at hfin
  have hgf:=(((((((((((((hg21.front 12 rfl).front 12 rfl).front 12 rfl).front 12 rfl).front 12 rfl).front 12 rfl).front 12 rfl).front 12 rfl).front 9 rfl).dropAt 9).dropAt 9).dropAt 9).dropAt 9)
  rw[hT] at hgf
  exact⟨_,_,_,rfl,(hle5.trans hle17),WP.back hEi hgf,(hax5.trans ((Aux.drew _).trans (hax17.trans (hax18.trans (hax19.trans ((Aux.drew _).trans (haxs.trans hax21))))))),hfin⟩
 ·
  refine go 8 ?_
  refine CW.ret (zr1 ?_)
  exact absurd h129 (by decide)
end
end Go.Lw
namespace Go.Lw
open Go.Proofs
open Safe (Wd)
attribute [local irreducible] RL RA
theorem WAt.setL {s:Res} {P:WP} {p:Nat} {w:Wd} {a:WA} (k:WAt s P p w a) {W' L' T':Res} {la ta:Option Addr} {lc tc:Nat} {l:List Int} {t:List Int} (hL:Own RLed 2 133 s L' la lc l) (hT:Own (RInt .u64) 1 22 s T' ta tc t) {cs:List Value} (hW:W' p=some (.cells cs.toArray 85 (0,0)))
  (hcs:cs=worldV { w with lead:=l,term:=t } { a with la:=la,lc:=lc,ta:=ta,tc:=tc }):WAt s { P with W:=W',L:=L',T:=T' } p { w with lead:=l,term:=t } { a with la:=la,lc:=lc,ta:=ta,tc:=tc } :=
 { k with cells:=hcs▸hW,L:=hL,T:=hT }
theorem WAt.setD {s:Res} {P:WP} {p:Nat} {w:Wd} {a:WA} (k:WAt s P p w a) {W' D':Res} {da:Option Addr} {dc:Nat} {l:List Entry} (hD:Own REntry 6 65 s D' da dc l) {cs:List Value} (hW:W' p=some (.cells cs.toArray 85 (0,0)))
  (hcs:cs=worldV { w with told:=l } { a with da:=da,dc:=dc }):WAt s { P with W:=W',D:=D' } p { w with told:=l } { a with da:=da,dc:=dc } :=
 { k with cells:=hcs▸hW,D:=hD }
theorem REntry.of_eq {s:Res} {vs:List Value} {x y:Entry} (h:x=y) (k:REntry s vs y):REntry s vs x:=by subst h;exact k
section
variable {w:World} {s:Res} {os:List Res}
theorem safe_ct {I:Wd→Prop} {P:WP} {p:Nat} {W:Wd} {a:WA} {i:Nat} {r:Raft} (hg:Good w s (P.os++os)) (hw:WAt s P p W a) (hi:W.s[i]?=some r) (hS:r.log.small) (hb:W.told.length≤1073741824∧W.term.length≤1073741824) (hid:rng .i64 r.id) (hrt:rng .u64 r.hard.term) (hI:I W)
  (h1:∀ W',I W'→W'.lead.length=W'.term.length∧(r.role=4→(∀ (k:Nat) (t b:Int),W'.term[k]?=some t→W'.lead[k]?=some b→t=r.hard.term→b=r.id)∧I { W' with lead:=W'.lead++[r.id],term:=W'.term++[r.hard.term] }))
  (h2:∀ W' x,I W'→x∈r.log.entries→x.index≤r.hard.commit→(∀ y∈W'.told,y.index=x.index→y=x)∧I { W' with told:=W'.told++[x] }) :
  Calls Tryz.prog 55 #[ptr p,i64 i] w (fun e w'=>∃ W',I W'∧W'.told.length≤W.told.length+r.log.entries.length∧W'.term.length≤W.term.length+1∧W'.s=W.s∧W'.kept=W.kept∧W'.bag=W.bag∧W'.snap=W.snap∧WPost w s os p (.bool true) W' e w'):=by
 have hil:i<W.s.length:=(List.getElem?_eq_some_iff.1 hi).1
 have hri:W.s[i]=r:=by rw[List.getElem?_eq_getElem hil] at hi;exact Option.some.inj hi
 subst hri
 have hmx:=hw.S.le_max
 simp only[maxLen] at hmx
 have hlen:=hS.2.2.2
 obtain⟨T,hT⟩:∃ T,T=P.E++os:=⟨_,rfl⟩
 have hg:Good w s (P.W::P.S::P.K::P.B::P.L::P.T::P.D::P.X::T):=by rw[hT];exact hg
 have hc0:=hw.cells
 have hll:=(h1 W hI).1
 refine enter (l:=[ptr p,i64 i]) Tryz.func55 rfl Tryz.ntmps55 rfl ?_
 refine go 11 ?_
 refine RL.idxL rfl rfl rfl rfl sl81.out rfl rfl hw.S.lies (by omega) (by omega) ?_
 rintro q vs hvl hH ⟨hh5,rfl,hRA⟩
 have hRA:RaftAt s W.s[i] hh5:=hRA
 have hH:Holds P.S q (raftV W.s[i] hh5):=hH
 refine RL.loads (j:=0) (us:=_) rfl rfl rfl rfl ty44.out rfl (hH) (hg.mem (by simp)) rfl rfl ?_
 refine go 1 ?_
 rintro b1 w1 Q1 (hg1:Good _ s (Q1::P.W::P.S::P.K::P.B::P.L::P.T::P.D::P.X::T)) hax1 hb1
 refine go 2 ?_
 rintro w2 Q2 (hg2:Good _ s (Q2::P.W::P.S::P.K::P.B::P.L::P.T::P.D::P.X::T)) hax2 hb2
 refine go 2 ?_
 have hc5:=hb2
 refine CW.meet (fun E' w'=>∃ WN LN TN W' a',I W'∧E'=[(0,ptr p),(5,ptr b1)]∧Good w' s (Q2::WN::P.S::P.K::P.B::LN::TN::P.D::P.X::T)∧Aux w w'∧WAt s { P with W:=WN,L:=LN,T:=TN } p W' a'∧W'.told=W.told∧W'.term.length≤W.term.length+1∧W'.s=W.s∧W'.kept=W.kept∧W'.bag=W.bag∧W'.snap=W.snap) ?_ ?_
 ·
  refine go 6 ?_
  refine CW.cond rfl (fun h21=>?_) (fun h21=>?_)
  ·
   refine go 10 ?_
   refine CW.loop (σ:=Nat) (fun j E w'=>∃ kn,∃ k:Nat,Good w' s (Q2::P.W::P.S::P.K::P.B::P.L::P.T::P.D::P.X::T)∧Aux w w'∧E=[(0,ptr p),(5,ptr b1),(6,.bool kn),(7,i64 k)]∧k+j=W.term.length) (fun j=>j) W.term.length [(0,ptr p),(5,ptr b1),(6,.bool false),(7,i64 0)] ⟨rfl,rfl,rfl,rfl,trivial⟩ ⟨false,0,(((((((((hg2.front 8 rfl).front 8 rfl).front 8 rfl).front 8 rfl).front 8 rfl).front 8 rfl).front 8 rfl).front 8 rfl).front 8 rfl),(hax1.trans hax2),rfl,by omega⟩ ?_
   rintro j E wL ⟨kn,k,hgL,haxL,rfl,hk⟩
   refine go 11 ?_
   refine CW.cond rfl (fun h28=>?_) (fun h28=>?_)
   ·
    have hlt:k<W.term.length:=by have:=decide_t h28;omega
    refine go 4 ?_
    have hg3:=hgL.drew
    refine CW.dw [1,3,5,7,9,11,13,15,17,19,21] (fun w=>At1 p _ w∧At1 b1 _ w∧In P.T w∧True) ?_
    refine go 5 ?_
    refine RL.idxL rfl rfl rfl rfl sl83.out rfl rfl hw.T.lies (by omega) (by omega) ?_
    rintro q1 vs1 hvl1 hH1 ⟨rfl,hr1⟩
    refine RL.loadT (j:=0) rfl rfl rfl rfl ty22.out rfl (hH1) (fun w h=>h.2.2.1) rfl ?_
    refine go 5 ?_
    refine CW.cond rfl (fun h41=>?_) (fun h41=>?_)
    ·
     refine go 5 ?_
     have hg4:=hg3.drew
     refine CW.dw [1,3,5,7,9,11,13,15,17,19,21] (fun w=>At1 p _ w∧At1 b1 _ w∧In P.L w∧True) ?_
     refine go 5 ?_
     refine RL.idxL rfl rfl rfl rfl sl39.out rfl rfl hw.L.lies (by omega) (by omega) ?_
     rintro q2 vs2 hvl2 hH2 ⟨rfl,hr2⟩
     refine go 1 ?_
     refine RL.loadT (j:=0) rfl rfl rfl rfl ty3.out rfl (hH2) (fun w h=>h.2.2.1) rfl ?_
     refine go 4 ?_
     refine CW.cond rfl (fun h52=>?_) (fun h52=>?_)
     ·
      have hx:=((h1 W hI).2 (by simpa using h21)).1 k _ _ (List.getElem?_eq_getElem hlt) (List.getElem?_eq_getElem (by omega)) (by simpa using h41);simp[hx] at h52
     ·
      refine go 6 ?_
      cases j with
      | zero=>omega
      | succ j=>exact fun ac ha=>⟨j,[(0,ptr p),(5,ptr b1),(6,.bool true),(7,i64 ((k:Int)+1))],ha.sub ⟨rfl,rfl,rfl,rfl,trivial⟩,⟨_,k+1,(((((((((hg4.front 8 rfl).front 8 rfl).front 8 rfl).front 8 rfl).front 8 rfl).front 8 rfl).front 8 rfl).front 8 rfl).front 8 rfl),(haxL.trans ((Aux.drew _).trans (Aux.drew _))),rfl,by omega⟩,Nat.lt_succ_self j⟩
    ·
     refine go 6 ?_
     cases j with
     | zero=>omega
     | succ j=>exact fun ac ha=>⟨j,[(0,ptr p),(5,ptr b1),(6,.bool kn),(7,i64 ((k:Int)+1))],ha.sub ⟨rfl,rfl,rfl,rfl,trivial⟩,⟨_,k+1,(((((((((hg3.front 8 rfl).front 8 rfl).front 8 rfl).front 8 rfl).front 8 rfl).front 8 rfl).front 8 rfl).front 8 rfl).front 8 rfl),(haxL.trans (Aux.drew _)),rfl,by omega⟩,Nat.lt_succ_self j⟩
   ·
    refine go 6 ?_
    refine CW.cond rfl (fun h54=>?_) (fun h54=>?_)
    ·
     refine go 1 ?_
     have hg5:=hgL.drew
     refine CW.dx [1,3,5,7,9,11,13,15,16,18,21,23] [24] 12 1 (fun w=>At1 p _ w∧At1 b1 _ w∧True) ?_
     refine go 9 ?_
     rintro b6 w6 Q6 (hg6:Good _ s (Q6::Q2::P.W::P.S::P.K::P.B::P.L::P.T::P.D::P.X::T)) hax6 hb6
     refine go 1 ?_
     obtain⟨news7,hsrc7,hch7⟩:=(one_news (R:=RInt .u64) (xs:=[W.s[i].hard.term]) sl83.out hb6 (hg6.mem (by simp)) (Chunks.single rfl ⟨rfl,hrt⟩))
     refine RL.append2 (i:=7) (xs:=W.term) (ys:=[W.s[i].hard.term]) rfl rfl rfl rfl sl83.out ze22.out rfl (RInt.one .u64) (rfl) rfl hg6 rfl (hw.T) hsrc7 hch7 ((by simp only[List.length_singleton];omega)) (by omega) ?_
     rintro a7 c7 A7 w7 (hg7:Good _ s (Q6::Q2::P.W::P.S::P.K::P.B::P.L::A7::P.D::P.X::T)) ho7 hax7 hk7 hn7
     have hoT:=ho7
     refine go 6 ?_
     rintro w8 Q8 (hg8:Good _ s (Q6::Q2::Q8::P.S::P.K::P.B::P.L::A7::P.D::P.X::T)) hax8 hb8
     refine go 2 ?_
     have hg9:=hg8.drew
     refine CW.dx [1,3,5,7,9,11,13,15,16,18,21,23] [24] 12 1 (fun w=>At1 p _ w∧At1 b1 _ w∧True) ?_
     refine go 9 ?_
     rintro b10 w10 Q10 (hg10:Good _ s (Q10::Q6::Q2::Q8::P.S::P.K::P.B::P.L::A7::P.D::P.X::T)) hax10 hb10
     refine go 1 ?_
     obtain⟨news11,hsrc11,hch11⟩:=(one_news (R:=RLed) (xs:=[W.s[i].id]) sl39.out hb10 (hg10.mem (by simp)) (Chunks.single rfl ⟨rfl,hid⟩))
     refine RL.append2 (i:=7) (xs:=W.lead) (ys:=[W.s[i].id]) rfl rfl rfl rfl sl39.out ze133.out rfl RLed.one (rfl) rfl hg10 rfl (hw.L) hsrc11 hch11 ((by simp only[List.length_singleton];omega)) (by omega) ?_
     rintro a11 c11 A11 w11 (hg11:Good _ s (Q10::Q6::Q2::Q8::P.S::P.K::P.B::A11::A7::P.D::P.X::T)) ho11 hax11 hk11 hn11
     have hoL:=ho11
     refine go 6 ?_
     rintro w12 Q12 (hg12:Good _ s (Q10::Q6::Q2::Q12::P.S::P.K::P.B::A11::A7::P.D::P.X::T)) hax12 hb12
     refine go 2 ?_
     exact fun ac ha=>⟨[(0,ptr p),(5,ptr b1)],ha.sub ⟨rfl,rfl,trivial⟩,⟨_,_,_,_,_,((h1 W hI).2 (by simpa using h21)).2,rfl,(((((((((((hg12.front 10 rfl).front 10 rfl).front 10 rfl).front 10 rfl).front 10 rfl).front 10 rfl).front 10 rfl).front 10 rfl).front 10 rfl).dropAt 9).dropAt 9),(haxL.trans ((Aux.drew _).trans (hax6.trans (hax7.trans (hax8.trans ((Aux.drew _).trans (hax10.trans (hax11.trans hax12)))))))),hw.setL hoL hoT hb12 rfl,rfl,by simp,rfl,rfl,rfl,rfl⟩⟩
    ·
     refine go 1 ?_
     exact fun ac ha=>⟨[(0,ptr p),(5,ptr b1)],ha.sub ⟨rfl,rfl,trivial⟩,⟨_,_,_,W,a,hI,rfl,(((((((((hgL.front 8 rfl).front 8 rfl).front 8 rfl).front 8 rfl).front 8 rfl).front 8 rfl).front 8 rfl).front 8 rfl).front 8 rfl),haxL,hw,rfl,by omega,rfl,rfl,rfl,rfl⟩⟩
  ·
   refine go 1 ?_
   exact fun ac ha=>⟨[(0,ptr p),(5,ptr b1)],ha.sub ⟨rfl,rfl,trivial⟩,⟨_,_,_,W,a,hI,rfl,(((((((((hg2.front 8 rfl).front 8 rfl).front 8 rfl).front 8 rfl).front 8 rfl).front 8 rfl).front 8 rfl).front 8 rfl).front 8 rfl),(hax1.trans hax2),hw,rfl,by omega,rfl,rfl,rfl,rfl⟩⟩
 rintro E2 w2 ⟨WN,LN,TN,W1,a1,hI1,rfl,hg2,hax2,hw1,e1,e2,e3,e4,e5,e6⟩
 refine go 6 ?_
 refine CW.loop (σ:=Nat) (fun j E w'=>∃ s' WM DM W' a',∃ k:Nat,I W'∧Good w' s' (Q2::WM::P.S::P.K::P.B::LN::TN::DM::P.X::T)∧Aux w w'∧Le s s'∧E=[(0,ptr p),(5,ptr b1),(8,i64 k)]∧k+j=W.s[i].log.entries.length∧WAt s' { P with W:=WM,L:=LN,T:=TN,D:=DM } p W' a'∧W'.told.length≤W.told.length+k∧W'.term.length≤W.term.length+1∧W'.s=W.s∧W'.kept=W.kept∧W'.bag=W.bag∧W'.snap=W.snap) (fun j=>j) W.s[i].log.entries.length [(0,ptr p),(5,ptr b1),(8,i64 0)] ⟨rfl,rfl,rfl,trivial⟩ ⟨s,WN,P.D,W1,a1,0,hI1,(((((((((hg2.front 8 rfl).front 8 rfl).front 8 rfl).front 8 rfl).front 8 rfl).front 8 rfl).front 8 rfl).front 8 rfl).front 8 rfl),hax2,(Le.refl _),rfl,by omega,hw1,by rw[e1];omega,e2,e3,e4,e5,e6⟩ ?_
 rintro j E wL ⟨sL,WM,DM,W2,a2,k,hI2,hgL,haxL,hleL,rfl,hk,hw2,f1,f2,f3,f4,f5,f6⟩
 have hRA:=hRA.up hleL
 have hcW:=hw2.cells
 refine go 10 ?_
 refine CW.cond rfl (fun h84=>?_) (fun h84=>?_)
 ·
  have h9:(k:Int)<(W.s[i].log.entries.length:Int):=decide_t h84
  have hlt:k<W.s[i].log.entries.length:=by omega
  refine go 9 ?_
  refine RL.idxL rfl rfl rfl rfl sl31.out rfl rfl hRA.log.entries (by omega) (by omega) ?_
  rintro q3 vs3 hvl3 hH3 hE3
  have hE3':=hE3
  obtain⟨ea,ec,ea1,ec1,ea2,ec2,rfl,er1,er2,er3,eh1,eh2,eh3⟩:=hE3'
  refine RL.loads (j:=0) (us:=_) rfl rfl rfl rfl ty65.out rfl (hH3) (hgL.sh) rfl rfl ?_
  refine go 1 ?_
  rintro b13 w13 Q13 (hg13:Good _ sL (Q13::Q2::WM::P.S::P.K::P.B::LN::TN::DM::P.X::T)) hax13 hb13
  refine go 2 ?_
  rintro w14 Q14 (hg14:Good _ sL (Q14::Q2::WM::P.S::P.K::P.B::LN::TN::DM::P.X::T)) hax14 hb14
  refine go 12 ?_
  refine CW.cond rfl (fun h98=>?_) (fun h98=>?_)
  ·
   refine go 5 ?_
   refine CW.ret (zr1 ?_)
   have hgf:=((((((((((hg14.front 9 rfl).front 9 rfl).front 9 rfl).front 9 rfl).front 9 rfl).front 9 rfl).front 9 rfl).front 9 rfl).dropAt 8).dropAt 8)
   rw[hT] at hgf
   exact⟨W2,hI2,by omega,f2,f3,f4,f5,f6,⟨_,{ P with W:=WM,L:=LN,T:=TN,D:=DM },a2,rfl,hleL,hgf,(haxL.trans (hax13.trans hax14)),hw2⟩⟩
  ·
   have h9:¬ (W.s[i].log.entries[k].index>W.s[i].hard.commit):=decide_f h98
   have hle:W.s[i].log.entries[k].index≤W.s[i].hard.commit:=by omega
   have hmem:W.s[i].log.entries[k]∈W.s[i].log.entries:=List.getElem_mem hlt
   have hc9:=hb14
   refine go 11 ?_
   refine CW.loop (σ:=Nat) (fun j E w'=>∃ kn,∃ k2:Nat,Good w' sL (Q14::Q2::WM::P.S::P.K::P.B::LN::TN::DM::P.X::T)∧Aux w w'∧E=[(0,ptr p),(5,ptr b1),(8,i64 k),(9,ptr b13),(10,.bool kn),(11,i64 k2)]∧k2+j=W2.told.length) (fun j=>j) W2.told.length [(0,ptr p),(5,ptr b1),(8,i64 k),(9,ptr b13),(10,.bool false),(11,i64 0)] ⟨rfl,rfl,rfl,rfl,rfl,rfl,trivial⟩ ⟨false,0,((((((((((hg14.front 9 rfl).front 9 rfl).front 9 rfl).front 9 rfl).front 9 rfl).front 9 rfl).front 9 rfl).front 9 rfl).front 9 rfl).front 9 rfl),(haxL.trans (hax13.trans hax14)),rfl,by omega⟩ ?_
   rintro j3 E3 wM ⟨kn,k2,hgM,haxM,rfl,hk3⟩
   refine go 11 ?_
   refine CW.cond rfl (fun h105=>?_) (fun h105=>?_)
   ·
    have hlt2:k2<W2.told.length:=by have:=decide_t h105;omega
    refine go 4 ?_
    have hg15:=hgM.drew
    refine CW.dw [1,3,5,7,9,11,13,15,17,19,21] (fun w=>At1 p _ w∧At1 b13 _ w∧In DM w∧True) ?_
    refine go 5 ?_
    refine RL.idxL rfl rfl rfl rfl sl31.out rfl rfl hw2.D.lies (by omega) (by omega) ?_
    rintro q4 vs4 hvl4 hH4 ⟨fa,fc,fa1,fc1,fa2,fc2,rfl,fr1,fr2,fr3,fh1,fh2,fh3⟩
    refine go 1 ?_
    refine RL.loadT (j:=0) rfl rfl rfl rfl ty22.out rfl (hH4) (fun w h=>h.2.2.1) rfl ?_
    refine go 4 ?_
    refine CW.cond rfl (fun h118=>?_) (fun h118=>?_)
    ·
     have heq:W2.told[k2]=W.s[i].log.entries[k]:=(h2 W2 _ hI2 hmem hle).1 _ (List.getElem_mem hlt2) (by simpa using h118)
     refine go 5 ?_
     have hg16:=hg15.drew
     refine CW.dw [1,3,5,7,9,11,13,15,16,19] (fun w=>At1 p _ w∧At1 b13 _ w∧In DM w∧True) ?_
     refine go 5 ?_
     refine RL.idxL rfl rfl rfl rfl sl31.out rfl rfl hw2.D.lies (by omega) (by omega) ?_
     rintro q5 vs5 hvl5 hH5 hE5
     have hE5':=hE5
     obtain⟨ga,gc,ga1,gc1,ga2,gc2,rfl,gr1,gr2,gr3,gh1,gh2,gh3⟩:=hE5'
     refine RL.loadsT (j:=0) (us:=_) rfl rfl rfl rfl ty65.out rfl (hH5) (fun w h=>h.2.2.1) rfl rfl ?_
     refine go 2 ?_
     refine zw (RefSame_ct (x:=W2.told[k2]) hg16 (show REntry _ _ W2.told[k2] from hE5) (REntry.of_eq heq hE3)) ?_
     rintro v17 w17 (hg17:Good _ sL (Q14::Q2::WM::P.S::P.K::P.B::LN::TN::DM::P.X::T)) hax17 rfl
     refine go 3 ?_
     refine CW.cond rfl (fun h128=>?_) (fun h128=>?_)
     ·
      simp at h128
     ·
      refine go 6 ?_
      cases j3 with
      | zero=>omega
      | succ j3=>exact fun ac ha=>⟨j3,[(0,ptr p),(5,ptr b1),(8,i64 k),(9,ptr b13),(10,.bool true),(11,i64 ((k2:Int)+1))],ha.sub ⟨rfl,rfl,rfl,rfl,rfl,rfl,trivial⟩,⟨_,k2+1,((((((((((hg17.front 9 rfl).front 9 rfl).front 9 rfl).front 9 rfl).front 9 rfl).front 9 rfl).front 9 rfl).front 9 rfl).front 9 rfl).front 9 rfl),(haxM.trans ((Aux.drew _).trans ((Aux.drew _).trans hax17))),rfl,by omega⟩,Nat.lt_succ_self j3⟩
    ·
     refine go 6 ?_
     cases j3 with
     | zero=>omega
     | succ j3=>exact fun ac ha=>⟨j3,[(0,ptr p),(5,ptr b1),(8,i64 k),(9,ptr b13),(10,.bool kn),(11,i64 ((k2:Int)+1))],ha.sub ⟨rfl,rfl,rfl,rfl,rfl,rfl,trivial⟩,⟨_,k2+1,((((((((((hg15.front 9 rfl).front 9 rfl).front 9 rfl).front 9 rfl).front 9 rfl).front 9 rfl).front 9 rfl).front 9 rfl).front 9 rfl).front 9 rfl),(haxM.trans (Aux.drew _)),rfl,by omega⟩,Nat.lt_succ_self j3⟩
   ·
    refine go 6 ?_
    refine CW.cond rfl (fun h130=>?_) (fun h130=>?_)
    ·
     have hg18:=hgM.drew
     refine CW.dx [1,3,5,7,9,11,12,14,16,19,21] [22] 11 1 (fun w=>At1 p _ w∧At1 b13 _ w∧True) ?_
     refine go 7 ?_
     refine zc (RefClone_ct hg18 hE3 (hS.2.2.1 _ hmem)) ?_
     rintro v19 s19 B19 w19 hle19 (hg19:Good _ s19 (B19::Q14::Q2::WM::P.S::P.K::P.B::LN::TN::DM::P.X::T)) hax19 ⟨us,rfl,hU⟩
     have hg19:=hg19.drop
     have hw2:=hw2.up hle19
     obtain⟨ua,uc,ua1,uc1,ua2,uc2,rfl,hU2⟩:=hU
     refine go 2 ?_
     rintro b20 w20 Q20 (hg20:Good _ s19 (Q20::Q14::Q2::WM::P.S::P.K::P.B::LN::TN::DM::P.X::T)) hax20 hb20
     refine go 1 ?_
     obtain⟨news21,hsrc21,hch21⟩:=(one_news (R:=REntry) (xs:=[W.s[i].log.entries[k]]) sl31.out hb20 (hg20.mem (by simp)) (Chunks.single rfl ⟨_,_,_,_,_,_,rfl,hU2⟩))
     refine RL.append2 (i:=9) (xs:=W2.told) (ys:=[W.s[i].log.entries[k]]) rfl rfl rfl rfl sl31.out ze65.out rfl REntry.one (rfl) rfl hg20 rfl (hw2.D) hsrc21 hch21 ((by simp only[List.length_singleton];omega)) (by omega) ?_
     rintro a21 c21 A21 w21 (hg21:Good _ s19 (Q20::Q14::Q2::WM::P.S::P.K::P.B::LN::TN::A21::P.X::T)) ho21 hax21 hk21 hn21
     have hoD:=ho21
     refine go 6 ?_
     rintro w22 Q22 (hg22:Good _ s19 (Q20::Q14::Q2::Q22::P.S::P.K::P.B::LN::TN::A21::P.X::T)) hax22 hb22
     refine go 7 ?_
     cases j with
     | zero=>omega
     | succ j=>exact fun ac ha=>⟨j,[(0,ptr p),(5,ptr b1),(8,i64 ((k:Int)+1))],ha.sub ⟨rfl,rfl,rfl,trivial⟩,⟨_,_,_,_,_,k+1,(h2 W2 _ hI2 hmem hle).2,(((((((((((hg22.front 10 rfl).front 10 rfl).front 10 rfl).front 10 rfl).front 10 rfl).front 10 rfl).front 10 rfl).front 10 rfl).front 10 rfl).dropAt 9).dropAt 9),(haxM.trans ((Aux.drew _).trans (hax19.trans (hax20.trans (hax21.trans hax22))))),(hleL.trans hle19),rfl,by omega,hw2.setD hoD hb22 rfl,by simp only[List.length_append,List.length_singleton];omega,f2,f3,f4,f5,f6⟩,Nat.lt_succ_self j⟩
    ·
     refine go 6 ?_
     cases j with
     | zero=>omega
     | succ j=>exact fun ac ha=>⟨j,[(0,ptr p),(5,ptr b1),(8,i64 ((k:Int)+1))],ha.sub ⟨rfl,rfl,rfl,trivial⟩,⟨_,_,_,_,_,k+1,hI2,((((((((((hgM.front 9 rfl).front 9 rfl).front 9 rfl).front 9 rfl).front 9 rfl).front 9 rfl).front 9 rfl).front 9 rfl).front 9 rfl).dropAt 9),haxM,hleL,rfl,by omega,hw2,by omega,f2,f3,f4,f5,f6⟩,Nat.lt_succ_self j⟩
 ·
  refine go 5 ?_
  refine CW.ret (zr1 ?_)
  have hgf:=(((((((((hgL.front 8 rfl).front 8 rfl).front 8 rfl).front 8 rfl).front 8 rfl).front 8 rfl).front 8 rfl).front 8 rfl).dropAt 8)
  rw[hT] at hgf
  exact⟨W2,hI2,by omega,f2,f3,f4,f5,f6,⟨_,{ P with W:=WM,L:=LN,T:=TN,D:=DM },a2,rfl,hleL,hgf,haxL,hw2⟩⟩
end
end Go.Lw
namespace Go.Lw
open Go.Proofs
open Safe (Wd WInv MInv G takenT)
attribute [local irreducible] RL RA
theorem WP.rot {w:World} {s:Res} {bs os:List Res} {P:WP} (hg:Good w s (bs++(P.os++os))):Good w s (P.os++(bs++os)):=hg.perm (List.perm_append_comm_assoc _ _ _)
theorem WP.unrot {w:World} {s:Res} {bs os:List Res} {P:WP} (hg:Good w s (P.os++(bs++os))):Good w s (bs++(P.os++os)):=hg.perm (List.perm_append_comm_assoc _ _ _)
theorem WAt.setB {s:Res} {P:WP} {p:Nat} {w:Wd} {a:WA} (k:WAt s P p w a) {W' B':Res} {ba:Option Addr} {bc:Nat} {l:List Msg} (hB:Own RMsg 14 56 s B' ba bc l) {cs:List Value} (hW:W' p=some (.cells cs.toArray 85 (0,0)))
  (hcs:cs=worldV { w with bag:=l } { a with ba:=ba,bc:=bc }):WAt s { P with W:=W',B:=B' } p { w with bag:=l } { a with ba:=ba,bc:=bc } :=
 { k with cells:=hcs▸hW,B:=hB }
theorem minv_fit {s:Res} {m:Msg} {y:Lay} {c0:Conf} {g:G} (h:MsgOk s m y) (hm:MInv c0 g m):MFit 200 m:=by
 obtain⟨h1,h2,h3,h4,h5⟩:=hm.fits
 refine⟨h.frm,h.term,h.index,h.logTerm,h.commit,fun e he=>?_,by omega,⟨by omega,by omega⟩,by omega⟩
 obtain⟨vs,hE⟩:=h.entries.lies.all e he
 obtain⟨ea,ec,ea1,ec1,ea2,ec2,hvs,r1,r2,r3,hrest⟩:=hE
 have ht:=h1 e he
 exact⟨r1,r2,by have:=ht.data;omega,⟨by have:=ht.voters;omega,by have:=ht.learners;omega⟩⟩
structure Did (n:Nat) (c0:Conf) (g g':G) (c:Nat) (w w':Wd):Prop where
 vote:∀ j t,g.vote j t≠0→g'.vote j t=g.vote j t
 inv:WInv n c0 g' (c+1) w'
 bag:∃ old news,w'.bag=old++news∧old.length≤w.bag.length∧∀ m∈news,∃ (q:Nat) (r:Raft),w'.s[q]?=some r∧m.frm=q+1∧(m.kind=1∨m.kind=3→(q:Int)+1∈(confP r.log).1.voters)
 told:w'.told.length≤w.told.length+1048576
 term:w'.term.length≤w.term.length+1
 snap:w'.snap.length≤w.snap.length+1
theorem Did.calm {n c:Nat} {c0:Conf} {g:G} {w w':Wd} (h:WInv n c0 g c w') (hb:w'.bag.length≤w.bag.length) (ht:w'.told=w.told) (hm:w'.term=w.term) (hs:w'.snap.length≤w.snap.length+1):Did n c0 g g c w w' :=
 ⟨fun _ _ _=>rfl,h.mono (Nat.le_add_right c 1),⟨w'.bag,[],(List.append_nil _).symm,hb,fun _ hm=>(by cases hm)⟩,by rw[ht];omega,by rw[hm];omega,hs⟩
def DidPost (n:Nat) (c0:Conf) (g:G) (c:Nat) (w0:World) (s:Res) (os:List Res) (p:Nat) (W:Wd):Ending→World→Prop:=fun e w'=>∃ W' g',Did n c0 g g' c W W'∧WPost w0 s os p (.bool true) W' e w'
theorem kept_some {n c:Nat} {c0:Conf} {g:G} {w:Wd} (h:WInv n c0 g c w) {i:Nat} {r:Raft} (hi:w.s[i]?=some r):w.kept[i]?=some ⟨r.hard,r.log,false⟩:=by
 have hl:i<w.kept.length:=by rw[h.klen,← h.len];exact (List.getElem?_eq_some_iff.1 hi).1
 have h1:=List.getElem?_eq_getElem hl
 rw[h1,h.kept i r _ hi h1]
section
variable {w:World} {s:Res} {os:List Res}
theorem give_ct {n c:Nat} {c0:Conf} {g:G} {P:WP} {p:Nat} {W:Wd} {a:WA} {i:Nat} {r:Raft} {x:Inp} {y:Lay} {da:Option Addr} {dc:Nat} {dies:Bool} (hg:Good w s (P.os++os)) (hw:WAt s P p W a) (hW:WInv n c0 g c W) (hi:W.s[i]?=some r)
  (hx:x.kind=2→MInv c0 g x.msg∧(takenT x.msg→x.msg.term≤1+c)) (hd:x.data.length≤100) (hif:IFit 200 x) (hin:InpOk s x y da dc) (hc:c≤900) (hb:W.told.length≤1073741824∧W.term.length≤1073741824) :
  Calls Tryz.prog 25 #[ptr p,i64 i,.agg (inpV x y da dc).toArray,.bool dies] w (DidPost n c0 g c w s os p W):=by
 have hil:i<W.s.length:=(List.getElem?_eq_some_iff.1 hi).1
 have hri:W.s[i]=r:=by rw[List.getElem?_eq_getElem hil] at hi;exact Option.some.inj hi
 subst hri
 have hmx:=hw.S.le_max
 simp only[maxLen] at hmx
 have hn:=hW.node i _ hi
 have hF:=hn.fit
 have hkv:=kept_some hW hi
 have hc1:(200+203*c)+200+3≤1073741824:=by omega
 have hact:=fit_act (n:=newN W.s[i]) hF hif (by omega)
 have hst2:=fit_step hF hif (by omega)
 have hbl:=hW.blen
 obtain⟨K,hK⟩:∃ K,K=min (stepP W.s[i] x).2.1.msgs.length (400-W.bag.length):=⟨_,rfl⟩
 have hKl:K≤(stepP W.s[i] x).2.1.msgs.length:=by omega
 obtain⟨gN,hv,hms,hWN⟩:=hW.step hi hx hd hif hc (b:=W.bag++(stepP W.s[i] x).2.1.msgs.take K) (fun m hm=>(List.mem_append.1 hm).imp_right List.mem_of_mem_take) (by simp only[List.length_append,List.length_take];omega)
 have hkeep:=Safe.step_keeps (r:=W.s[i]) (x:=x) hn.sound.runX (by have:=hF.log.index;simp only[rng] at this;omega) (by have:=hin.msg.index;simp only[rng] at this;omega)
 have hsave:=Safe.step_saves (r:=W.s[i]) (x:=x)
 have hlogS:=hst2.log.small (by omega)
 have hent:(∀ e∈(stepP W.s[i] x).2.1.entries,e.small)∧(stepP W.s[i] x).2.1.entries.length≤1073741824:=by
  rw[keep_mid] at hkeep
  have h1:(stepP W.s[i] x).1.log.entries=_:=congrArg Log.entries hkeep.symm
  simp only at h1
  have h2:=hst2.log.count
  rw[h1,List.length_append] at h2
  exact⟨fun e he=>hlogS.2.2.1 e (by rw[h1];exact List.mem_append_right _ he),by omega⟩
 have hc0:=hw.cells
 refine enter (l:=[ptr p,i64 i,.agg (inpV x y da dc).toArray,.bool dies]) Tryz.func25 rfl Tryz.ntmps25 rfl ?_
 refine go 3 ?_
 rintro b1 w1 Q1 (hg1:Good _ s (Q1::P.W::P.S::P.K::P.B::P.L::P.T::P.D::P.X::(P.E++os))) hax1 hb1
 refine go 3 ?_
 refine CW.meet (fun E' w'=>∃ s' QA pA hA QO pO hO,E'=[(0,ptr p),(1,i64 i),(3,.bool dies),(9,ptr pA),(10,ptr pO),(11,i64 (stepP W.s[i] x).2.2)]∧Good w' s' (QA::QO::P.W::P.S::P.K::P.B::P.L::P.T::P.D::P.X::(P.E++os))∧Aux w w'∧Le s s'∧QA pA=some (.cells (raftV (stepP W.s[i] x).1 hA).toArray 44 (0,0))∧QO pO=some (.cells (outV (stepP W.s[i] x).2.1 hO).toArray 50 (0,0))∧RaftAt s' (stepP W.s[i] x).1 hA∧OutAt s' (stepP W.s[i] x).2.1 hO) ?_ ?_
 ·
  have hg2:=hg1.drew
  refine CW.forks (.fork [(true,0),(true,1),(true,2),(true,3),(true,4),(true,5),(true,6),(true,7)] (.fork [(false,8),(true,9),(true,10),(true,11),(true,12)] (.line [(false,13),(false,14),(false,15),(false,16),(false,17)]) (.line [(false,14),(false,13),(false,15),(false,16),(false,17)])) (.fork [] (.fork [(false,13)] (.line [(false,8),(true,9),(true,10),(true,11),(true,12),(false,14),(false,15),(false,16),(false,17)]) (.line [(false,14),(false,8),(true,9),(true,10),(true,11),(true,12),(false,15),(false,16),(false,17)])) (.fork [(false,14)] (.line [(false,8),(true,9),(true,10),(true,11),(true,12),(false,13),(false,15),(false,16),(false,17)]) (.line [(false,13),(false,8),(true,9),(true,10),(true,11),(true,12),(false,15),(false,16),(false,17)])))) (fun w=>At1 p _ w∧At1 b1 _ w∧In P.S w∧True) mixed (by kernel_rfl) (by kernel_rfl) (by kernel_rfl) (by kernel_rfl) (⟨hg2.at1 (by simp) hc0,hg2.at1 (by simp) hb1,hg2.mem (by simp),trivial⟩) ?_
  refine RT.pre (S:=fun w=>At1 p _ w∧At1 b1 _ w∧In P.S w∧True) (⟨hg2.at1 (by simp) hc0,hg2.at1 (by simp) hb1,hg2.mem (by simp),trivial⟩) ?_
  refine go 5 ?_
  refine RL.idxL rfl rfl rfl rfl sl81.out rfl rfl hw.S.lies (by omega) (by omega) ?_
  rintro q vs hvl hH ⟨hh,rfl,hRA⟩
  have hRA:RaftAt s W.s[i] hh:=hRA
  have hH:Holds P.S q (raftV W.s[i] hh):=hH
  refine RL.loadsT (j:=0) (us:=_) rfl rfl rfl rfl ty44.out rfl (hH) (fun w h=>h.2.2.1) rfl rfl ?_
  refine go 2 ?_
  refine RT.both (S:=fun w=>At1 p _ w∧At1 b1 _ w∧In P.S w∧True) (⟨hg2.at1 (by simp) hc0,hg2.at1 (by simp) hb1,hg2.mem (by simp),trivial⟩) (RT.pre (S:=fun w=>At1 p _ w∧At1 b1 _ w∧In P.S w∧True) (⟨hg2.at1 (by simp) hc0,hg2.at1 (by simp) hb1,hg2.mem (by simp),trivial⟩) ?_) (RT.pre (S:=fun w=>At1 p _ w∧At1 b1 _ w∧In P.S w∧True) (⟨hg2.at1 (by simp) hc0,hg2.at1 (by simp) hb1,hg2.mem (by simp),trivial⟩) ?_)
  ·
   refine go 1 ?_
   refine zc (Step_ct hg2 hRA hin (hF.rng (n:=newN W.s[i])) hact.rng (fit_bears hF hif hc1) (show W.s[i].part.data.length≤70368744177664 by have:=hF.part;omega)) ?_
   rintro v3 s3 B3 w3 hle3 (hg3:Good _ s3 (B3::Q1::P.W::P.S::P.K::P.B::P.L::P.T::P.D::P.X::(P.E++os))) hax3 ⟨g1,g2,rfl,hA23,hO23⟩
   have hg3:=hg3.drop
   have hw:=hw.up hle3
   refine go 6 ?_
   refine RT.both (S:=fun w=>At1 p _ w∧At1 b1 _ w∧In P.S w∧True) (⟨hg3.at1 (by simp) hc0,hg3.at1 (by simp) hb1,hg3.mem (by simp),trivial⟩) (RT.end_ (S:=fun w=>At1 p _ w∧At1 b1 _ w∧In P.S w∧True) (⟨hg3.at1 (by simp) hc0,hg3.at1 (by simp) hb1,hg3.mem (by simp),trivial⟩) ?_) (RT.end_ (S:=fun w=>At1 p _ w∧At1 b1 _ w∧In P.S w∧True) (⟨hg3.at1 (by simp) hc0,hg3.at1 (by simp) hb1,hg3.mem (by simp),trivial⟩) ?_)
   ·
    refine go 1 ?_
    rintro b4 w4 Q4 (hg4:Good _ s3 (Q4::Q1::P.W::P.S::P.K::P.B::P.L::P.T::P.D::P.X::(P.E++os))) hax4 hb4
    refine go 2 ?_
    rintro b5 w5 Q5 (hg5:Good _ s3 (Q5::Q4::Q1::P.W::P.S::P.K::P.B::P.L::P.T::P.D::P.X::(P.E++os))) hax5 hb5
    refine go 2 ?_
    rintro w6 Q6 (hg6:Good _ s3 (Q5::Q6::Q1::P.W::P.S::P.K::P.B::P.L::P.T::P.D::P.X::(P.E++os))) hax6 hb6
    refine go 2 ?_
    rintro w7 Q7 (hg7:Good _ s3 (Q7::Q6::Q1::P.W::P.S::P.K::P.B::P.L::P.T::P.D::P.X::(P.E++os))) hax7 hb7
    refine go 3 ?_
    exact fun ac ha=>⟨[(0,ptr p),(1,i64 i),(3,.bool dies),(9,ptr b4),(10,ptr b5),(11,i64 (stepP W.s[i] x).2.2)],ha.sub ⟨rfl,rfl,rfl,rfl,rfl,rfl,trivial⟩,⟨_,_,b4,g1,_,b5,g2,rfl,(((((((((((hg7.front 10 rfl).front 10 rfl).front 10 rfl).front 10 rfl).front 10 rfl).front 10 rfl).front 10 rfl).front 10 rfl).front 8 rfl).front 9 rfl).dropAt 10),(hax1.trans ((Aux.drew _).trans (hax3.trans (hax4.trans (hax5.trans (hax6.trans hax7)))))),hle3,hb6,hb7,hA23,hO23⟩⟩
   ·
    refine go 1 ?_
    rintro b8 w8 Q8 (hg8:Good _ s3 (Q8::Q1::P.W::P.S::P.K::P.B::P.L::P.T::P.D::P.X::(P.E++os))) hax8 hb8
    refine go 2 ?_
    rintro b9 w9 Q9 (hg9:Good _ s3 (Q9::Q8::Q1::P.W::P.S::P.K::P.B::P.L::P.T::P.D::P.X::(P.E++os))) hax9 hb9
    refine go 2 ?_
    rintro w10 Q10 (hg10:Good _ s3 (Q10::Q8::Q1::P.W::P.S::P.K::P.B::P.L::P.T::P.D::P.X::(P.E++os))) hax10 hb10
    refine go 2 ?_
    rintro w11 Q11 (hg11:Good _ s3 (Q10::Q11::Q1::P.W::P.S::P.K::P.B::P.L::P.T::P.D::P.X::(P.E++os))) hax11 hb11
    refine go 3 ?_
    exact fun ac ha=>⟨[(0,ptr p),(1,i64 i),(3,.bool dies),(9,ptr b9),(10,ptr b8),(11,i64 (stepP W.s[i] x).2.2)],ha.sub ⟨rfl,rfl,rfl,rfl,rfl,rfl,trivial⟩,⟨_,_,b9,g1,_,b8,g2,rfl,(((((((((((hg11.front 10 rfl).front 10 rfl).front 10 rfl).front 10 rfl).front 10 rfl).front 10 rfl).front 10 rfl).front 10 rfl).front 9 rfl).front 9 rfl).dropAt 10),(hax1.trans ((Aux.drew _).trans (hax3.trans (hax8.trans (hax9.trans (hax10.trans hax11)))))),hle3,hb10,hb11,hA23,hO23⟩⟩
  ·
   refine go 1 ?_
   refine RT.both (S:=fun w=>At1 p _ w∧At1 b1 _ w∧In P.S w∧True) (⟨hg2.at1 (by simp) hc0,hg2.at1 (by simp) hb1,hg2.mem (by simp),trivial⟩) (RT.pre (S:=fun w=>At1 p _ w∧At1 b1 _ w∧In P.S w∧True) (⟨hg2.at1 (by simp) hc0,hg2.at1 (by simp) hb1,hg2.mem (by simp),trivial⟩) ?_) (RT.pre (S:=fun w=>At1 p _ w∧At1 b1 _ w∧In P.S w∧True) (⟨hg2.at1 (by simp) hc0,hg2.at1 (by simp) hb1,hg2.mem (by simp),trivial⟩) ?_)
   ·
    refine go 1 ?_
    rintro b12 w12 Q12 (hg12:Good _ s (Q12::Q1::P.W::P.S::P.K::P.B::P.L::P.T::P.D::P.X::(P.E++os))) hax12 hb12
    refine go 2 ?_
    refine RT.both (S:=fun w=>At1 p _ w∧At1 b1 _ w∧In P.S w∧True) (⟨hg12.at1 (by simp) hc0,hg12.at1 (by simp) hb1,hg12.mem (by simp),trivial⟩) (RT.end_ (S:=fun w=>At1 p _ w∧At1 b1 _ w∧In P.S w∧True) (⟨hg12.at1 (by simp) hc0,hg12.at1 (by simp) hb1,hg12.mem (by simp),trivial⟩) ?_) (RT.end_ (S:=fun w=>At1 p _ w∧At1 b1 _ w∧In P.S w∧True) (⟨hg12.at1 (by simp) hc0,hg12.at1 (by simp) hb1,hg12.mem (by simp),trivial⟩) ?_)
    ·
     refine go 1 ?_
     refine zc (Step_ct hg12 hRA hin (hF.rng (n:=newN W.s[i])) hact.rng (fit_bears hF hif hc1) (show W.s[i].part.data.length≤70368744177664 by have:=hF.part;omega)) ?_
     rintro v13 s13 B13 w13 hle13 (hg13:Good _ s13 (B13::Q12::Q1::P.W::P.S::P.K::P.B::P.L::P.T::P.D::P.X::(P.E++os))) hax13 ⟨g1,g2,rfl,hA23,hO23⟩
     have hg13:=hg13.drop
     have hw:=hw.up hle13
     refine go 6 ?_
     rintro b14 w14 Q14 (hg14:Good _ s13 (Q14::Q12::Q1::P.W::P.S::P.K::P.B::P.L::P.T::P.D::P.X::(P.E++os))) hax14 hb14
     refine go 2 ?_
     rintro w15 Q15 (hg15:Good _ s13 (Q14::Q15::Q1::P.W::P.S::P.K::P.B::P.L::P.T::P.D::P.X::(P.E++os))) hax15 hb15
     refine go 2 ?_
     rintro w16 Q16 (hg16:Good _ s13 (Q16::Q15::Q1::P.W::P.S::P.K::P.B::P.L::P.T::P.D::P.X::(P.E++os))) hax16 hb16
     refine go 3 ?_
     exact fun ac ha=>⟨[(0,ptr p),(1,i64 i),(3,.bool dies),(9,ptr b12),(10,ptr b14),(11,i64 (stepP W.s[i] x).2.2)],ha.sub ⟨rfl,rfl,rfl,rfl,rfl,rfl,trivial⟩,⟨_,_,b12,g1,_,b14,g2,rfl,(((((((((((hg16.front 10 rfl).front 10 rfl).front 10 rfl).front 10 rfl).front 10 rfl).front 10 rfl).front 10 rfl).front 10 rfl).front 8 rfl).front 9 rfl).dropAt 10),(hax1.trans ((Aux.drew _).trans (hax12.trans (hax13.trans (hax14.trans (hax15.trans hax16)))))),hle13,hb15,hb16,hA23,hO23⟩⟩
    ·
     refine go 1 ?_
     rintro b17 w17 Q17 (hg17:Good _ s (Q17::Q12::Q1::P.W::P.S::P.K::P.B::P.L::P.T::P.D::P.X::(P.E++os))) hax17 hb17
     refine go 2 ?_
     refine zc (Step_ct hg17 hRA hin (hF.rng (n:=newN W.s[i])) hact.rng (fit_bears hF hif hc1) (show W.s[i].part.data.length≤70368744177664 by have:=hF.part;omega)) ?_
     rintro v18 s18 B18 w18 hle18 (hg18:Good _ s18 (B18::Q17::Q12::Q1::P.W::P.S::P.K::P.B::P.L::P.T::P.D::P.X::(P.E++os))) hax18 ⟨g1,g2,rfl,hA23,hO23⟩
     have hg18:=hg18.drop
     have hw:=hw.up hle18
     refine go 6 ?_
     rintro w19 Q19 (hg19:Good _ s18 (Q17::Q19::Q1::P.W::P.S::P.K::P.B::P.L::P.T::P.D::P.X::(P.E++os))) hax19 hb19
     refine go 2 ?_
     rintro w20 Q20 (hg20:Good _ s18 (Q20::Q19::Q1::P.W::P.S::P.K::P.B::P.L::P.T::P.D::P.X::(P.E++os))) hax20 hb20
     refine go 3 ?_
     exact fun ac ha=>⟨[(0,ptr p),(1,i64 i),(3,.bool dies),(9,ptr b12),(10,ptr b17),(11,i64 (stepP W.s[i] x).2.2)],ha.sub ⟨rfl,rfl,rfl,rfl,rfl,rfl,trivial⟩,⟨_,_,b12,g1,_,b17,g2,rfl,(((((((((((hg20.front 10 rfl).front 10 rfl).front 10 rfl).front 10 rfl).front 10 rfl).front 10 rfl).front 10 rfl).front 10 rfl).front 8 rfl).front 9 rfl).dropAt 10),(hax1.trans ((Aux.drew _).trans (hax12.trans (hax17.trans (hax18.trans (hax19.trans hax20)))))),hle18,hb19,hb20,hA23,hO23⟩⟩
   ·
    refine go 1 ?_
    rintro b21 w21 Q21 (hg21:Good _ s (Q21::Q1::P.W::P.S::P.K::P.B::P.L::P.T::P.D::P.X::(P.E++os))) hax21 hb21
    refine go 2 ?_
    refine RT.both (S:=fun w=>At1 p _ w∧At1 b1 _ w∧In P.S w∧True) (⟨hg21.at1 (by simp) hc0,hg21.at1 (by simp) hb1,hg21.mem (by simp),trivial⟩) (RT.end_ (S:=fun w=>At1 p _ w∧At1 b1 _ w∧In P.S w∧True) (⟨hg21.at1 (by simp) hc0,hg21.at1 (by simp) hb1,hg21.mem (by simp),trivial⟩) ?_) (RT.end_ (S:=fun w=>At1 p _ w∧At1 b1 _ w∧In P.S w∧True) (⟨hg21.at1 (by simp) hc0,hg21.at1 (by simp) hb1,hg21.mem (by simp),trivial⟩) ?_)
    ·
     refine go 1 ?_
     refine zc (Step_ct hg21 hRA hin (hF.rng (n:=newN W.s[i])) hact.rng (fit_bears hF hif hc1) (show W.s[i].part.data.length≤70368744177664 by have:=hF.part;omega)) ?_
     rintro v22 s22 B22 w22 hle22 (hg22:Good _ s22 (B22::Q21::Q1::P.W::P.S::P.K::P.B::P.L::P.T::P.D::P.X::(P.E++os))) hax22 ⟨g1,g2,rfl,hA23,hO23⟩
     have hg22:=hg22.drop
     have hw:=hw.up hle22
     refine go 6 ?_
     rintro b23 w23 Q23 (hg23:Good _ s22 (Q23::Q21::Q1::P.W::P.S::P.K::P.B::P.L::P.T::P.D::P.X::(P.E++os))) hax23 hb23
     refine go 2 ?_
     rintro w24 Q24 (hg24:Good _ s22 (Q24::Q21::Q1::P.W::P.S::P.K::P.B::P.L::P.T::P.D::P.X::(P.E++os))) hax24 hb24
     refine go 2 ?_
     rintro w25 Q25 (hg25:Good _ s22 (Q24::Q25::Q1::P.W::P.S::P.K::P.B::P.L::P.T::P.D::P.X::(P.E++os))) hax25 hb25
     refine go 3 ?_
     exact fun ac ha=>⟨[(0,ptr p),(1,i64 i),(3,.bool dies),(9,ptr b23),(10,ptr b21),(11,i64 (stepP W.s[i] x).2.2)],ha.sub ⟨rfl,rfl,rfl,rfl,rfl,rfl,trivial⟩,⟨_,_,b23,g1,_,b21,g2,rfl,(((((((((((hg25.front 10 rfl).front 10 rfl).front 10 rfl).front 10 rfl).front 10 rfl).front 10 rfl).front 10 rfl).front 10 rfl).front 9 rfl).front 9 rfl).dropAt 10),(hax1.trans ((Aux.drew _).trans (hax21.trans (hax22.trans (hax23.trans (hax24.trans hax25)))))),hle22,hb24,hb25,hA23,hO23⟩⟩
    ·
     refine go 1 ?_
     rintro b26 w26 Q26 (hg26:Good _ s (Q26::Q21::Q1::P.W::P.S::P.K::P.B::P.L::P.T::P.D::P.X::(P.E++os))) hax26 hb26
     refine go 2 ?_
     refine zc (Step_ct hg26 hRA hin (hF.rng (n:=newN W.s[i])) hact.rng (fit_bears hF hif hc1) (show W.s[i].part.data.length≤70368744177664 by have:=hF.part;omega)) ?_
     rintro v27 s27 B27 w27 hle27 (hg27:Good _ s27 (B27::Q26::Q21::Q1::P.W::P.S::P.K::P.B::P.L::P.T::P.D::P.X::(P.E++os))) hax27 ⟨g1,g2,rfl,hA23,hO23⟩
     have hg27:=hg27.drop
     have hw:=hw.up hle27
     refine go 6 ?_
     rintro w28 Q28 (hg28:Good _ s27 (Q28::Q21::Q1::P.W::P.S::P.K::P.B::P.L::P.T::P.D::P.X::(P.E++os))) hax28 hb28
     refine go 2 ?_
     rintro w29 Q29 (hg29:Good _ s27 (Q28::Q29::Q1::P.W::P.S::P.K::P.B::P.L::P.T::P.D::P.X::(P.E++os))) hax29 hb29
     refine go 3 ?_
     exact fun ac ha=>⟨[(0,ptr p),(1,i64 i),(3,.bool dies),(9,ptr b26),(10,ptr b21),(11,i64 (stepP W.s[i] x).2.2)],ha.sub ⟨rfl,rfl,rfl,rfl,rfl,rfl,trivial⟩,⟨_,_,b26,g1,_,b21,g2,rfl,(((((((((((hg29.front 10 rfl).front 10 rfl).front 10 rfl).front 10 rfl).front 10 rfl).front 10 rfl).front 10 rfl).front 10 rfl).front 9 rfl).front 9 rfl).dropAt 10),(hax1.trans ((Aux.drew _).trans (hax21.trans (hax26.trans (hax27.trans (hax28.trans hax29)))))),hle27,hb28,hb29,hA23,hO23⟩⟩
 rintro E1 w1 ⟨s1,QA,pA,hA,QO,pO,hO,rfl,hg1,hax1,hle1,hQA,hQO,hRA,hOA⟩
 have hw:=hw.up hle1
 refine go 6 ?_
 refine CW.cond rfl (fun h28=>?_) (fun h28=>?_)
 ·
  refine go 4 ?_
  refine CW.ret (zr1 ?_)
  exact⟨W,g,.calm hW (Nat.le_refl _) rfl rfl (by simp),⟨_,P,a,rfl,hle1,((((((((((hg1.front 9 rfl).front 9 rfl).front 9 rfl).front 9 rfl).front 9 rfl).front 9 rfl).front 9 rfl).front 9 rfl).dropAt 8).dropAt 8),hax1,hw⟩⟩
 ·
  refine go 6 ?_
  refine CW.cond rfl (fun h29=>?_) (fun h29=>?_)
  ·
   refine go 4 ?_
   obtain⟨hNr,hWr⟩:=hW.rise hi hkv (by omega)
   have hgk:Good _ s1 (P.os++([QA,QO]++os)):=WP.rot (bs:=[QA,QO]) hg1
   refine RL.callG rfl rfl rfl rfl rfl ca41.out (rise_ct hgk hw hi hkv hNr (hF.log.small (by omega)) hF.id) ?_
   rintro e3 w3 ⟨s3,P3,a3,rfl,hle3,hgk3,hax3,hw3⟩
   have hg3:Good w3 s3 (QA::QO::P3.W::P3.S::P3.K::P3.B::P3.L::P3.T::P3.D::P3.X::(P3.E++os)):=WP.unrot (bs:=[QA,QO]) hgk3
   refine⟨_,rfl,trivial,?_⟩
   refine go 2 ?_
   refine CW.ret (zr1 ?_)
   exact⟨_,g,.calm hWr (Nat.le_refl _) rfl rfl (by simp),⟨_,P3,a3,rfl,(hle1.trans hle3),((((((((((hg3.front 9 rfl).front 9 rfl).front 9 rfl).front 9 rfl).front 9 rfl).front 9 rfl).front 9 rfl).front 9 rfl).dropAt 8).dropAt 8),(hax1.trans hax3),hw3⟩⟩
  ·
   refine go 2 ?_
   have hg30:=hg1.drew
   refine CW.dx [1,3,5,7,9,11,13] [14] 7 1 (fun w=>At1 p _ w∧At1 pA _ w∧True) ?_
   refine go 6 ?_
   refine RL.idxOwn rfl rfl rfl rfl sl81.out rfl rfl hw.S (by omega) (by omega) ?_
   rintro g' cs vs' hb' hA' hcs hvl' hcell _
   have hoS:Own RRaft 20 44 s1 P.S (some ⟨g',0,none⟩) a.sc W.s:=hb'▸hw.S
   have hset:=hoS.set hA' hil (show (raftV (stepP W.s[i] x).1 hA).length=20 from rfl) ⟨hA,rfl,hRA⟩
   obtain⟨SN,hSN⟩:∃ Z,Z=P.S.put g' (.cells (List.take (i*20) cs.toList++raftV (stepP W.s[i] x).1 hA++List.drop (i*20+20) cs.toList).toArray 44):=⟨_,rfl⟩
   rw[←hSN] at hset
   have hfit:i*20+20≤cs.size:=by have:=hoS.le_cap;rw[hcs];omega
   refine go 2 ?_
   refine RL.store (i:=3) (j:=i*20) rfl rfl rfl ty44.out rfl rfl hg30 rfl hA' rfl (by simp[Value.cells,Value.oneCell']) hfit ?_
   intro ws hgs haxs
   have hgs2:Good ws s1 (QA::QO::P.W::SN::P.K::P.B::P.L::P.T::P.D::P.X::(P.E++os)):=by rw[hSN];exact hgs
   have hw2:=hw.setS (hb'.symm▸hset) (by simp)
   refine go 7 ?_
   have hi2:(W.s.set i (stepP W.s[i] x).1)[i]?=some (stepP W.s[i] x).1:=by rw[List.getElem?_set,if_pos rfl,if_pos hil]
   have hgk:Good _ s1 (({ P with S:=SN }:WP).os++([QA,QO]++os)):=WP.rot (bs:=[QA,QO]) (P:={ P with S:=SN }) hgs2
   refine RL.callG rfl rfl rfl rfl rfl ca54.out (keep_ct hgk hw2 hi2 hkv hOA hkeep hsave hlogS hent (show W.s[i].log.entries.length≤1073741824 by have:=hF.log.count;omega) ⟨hst2.term,hst2.vote,hst2.commit⟩) ?_
   rintro e3 w3 ⟨s3,P3,a3,rfl,hle3,hgk3,hax3,hw3⟩
   have hg3:Good w3 s3 (QA::QO::P3.W::P3.S::P3.K::P3.B::P3.L::P3.T::P3.D::P3.X::(P3.E++os)):=WP.unrot (bs:=[QA,QO]) hgk3
   have hOA:=hOA.up hle3
   refine⟨_,rfl,trivial,?_⟩
   refine go 8 ?_
   obtain⟨WF,hWF⟩:∃ f:List Msg→Wd,f=fun b=>{ W with s:=W.s.set i (stepP W.s[i] x).1,kept:=W.kept.set i ⟨(stepP W.s[i] x).1.hard,(stepP W.s[i] x).1.log,false⟩,bag:=b }:=⟨_,rfl⟩
   have hw3:WAt s3 P3 p (WF W.bag) a3:=by rw[hWF];exact hw3
   have hWFb:∀ b,(WF b).bag=b:=fun b=>by rw[hWF]
   have hc10:=hQO
   refine CW.loop (σ:=Nat) (fun j E w'=>∃ s' PW PB a',∃ k:Nat,Good w' s' (QO::PW::P3.S::P3.K::PB::P3.L::P3.T::P3.D::P3.X::(P3.E++os))∧Aux w w'∧Le s s'∧Le s3 s'∧E=[(0,ptr p),(1,i64 i),(10,ptr pO),(12,.bool true),(13,i64 k)]∧k+j=K∧WAt s' { P3 with W:=PW,B:=PB } p (WF (W.bag++(stepP W.s[i] x).2.1.msgs.take k)) a') (fun j=>j) K [(0,ptr p),(1,i64 i),(10,ptr pO),(12,.bool true),(13,i64 0)] ⟨rfl,rfl,rfl,rfl,rfl,trivial⟩ ⟨s3,P3.W,P3.B,a3,0,((((((((((hg3.front 9 rfl).front 9 rfl).front 9 rfl).front 9 rfl).front 9 rfl).front 9 rfl).front 9 rfl).front 9 rfl).front 9 rfl).dropAt 9),(hax1.trans ((Aux.drew _).trans (haxs.trans hax3))),(hle1.trans hle3),Le.refl _,rfl,by omega,by rw[List.take_zero,List.append_nil];exact hw3⟩ ?_
   rintro j E wL ⟨sL,PW,PB,aL,k,hgL,haxL,hleL,hleM,rfl,hk,hwL⟩
   have hOA:=hOA.up hleM
   have hcW:=hwL.cells
   have hbL:(WF (W.bag++(stepP W.s[i] x).2.1.msgs.take k)).bag.length=W.bag.length+k:=by rw[hWFb,List.length_append,List.length_take];omega
   refine go 9 ?_
   refine RL.part 49 rfl (fun h49=>?_) (fun h49=>?_)
   ·
    refine go 8 ?_
    refine CW.cond rfl (fun h56=>?_) (fun h56=>?_)
    ·
     have hlt:k<(stepP W.s[i] x).2.1.msgs.length:=by have h9:(k:Int)<((stepP W.s[i] x).2.1.msgs.length:Int):=decide_t h49;omega
     have hlk:k<K:=by have h9:((WF (W.bag++(stepP W.s[i] x).2.1.msgs.take k)).bag.length:Int)<400:=decide_t h56;omega
     refine go 3 ?_
     have hg31:=hgL.drew
     refine CW.draws2 [(true,0),(true,1),(true,2),(true,3),(true,4),(true,5),(true,6),(true,7),(true,8),(true,9),(false,10),(false,11),(false,12),(true,13),(true,14)] [(false,15)] 15 #[true,true,true,true,true,true,true,true,true,true,true,true,true,true,true,false] (fun w=>At1 p _ w∧At1 pO _ w∧In sL w∧True) mixed (by kernel_rfl) (by kernel_rfl) (by kernel_rfl) (by kernel_rfl) (by kernel_rfl) (⟨hg31.at1 (by simp) hcW,hg31.at1 (by simp) hc10,(hg31.sh).le (Le.refl _),trivial⟩) ?_
     refine go 8 ?_
     refine RL.idxL rfl rfl rfl rfl sl48.out rfl rfl hOA.2.lies (by omega) (show ((k:Nat):Int)<((stepP W.s[i] x).2.1.msgs.length:Int) by omega) ?_
     rintro q2 vs2 hvl2 hH2 ⟨y2,rfl,hm2⟩
     refine RL.loadsT (j:=0) (us:=_) rfl rfl rfl rfl ty56.out rfl (hH2) (fun w h=>h.2.2.1) rfl rfl ?_
     refine go 1 ?_
     refine zc (cloneMsg_ct hg31 hm2 ((minv_fit hm2 (hms _ (List.getElem_mem hlt)).1).small (by omega))) ?_
     rintro v32 s32 B32 w32 hle32 (hg32:Good _ s32 (B32::QO::PW::P3.S::P3.K::PB::P3.L::P3.T::P3.D::P3.X::(P3.E++os))) hax32 ⟨y3,rfl,hm3⟩
     have hg32:=hg32.drop
     have hOA:=hOA.up hle32
     have hwL:=hwL.up hle32
     refine⟨⟨hg32.at1 (by simp) hcW,hg32.at1 (by simp) hc10,(hg32.sh).le hle32,trivial⟩,?_⟩
     refine go 1 ?_
     rintro b33 w33 Q33 (hg33:Good _ s32 (Q33::QO::PW::P3.S::P3.K::PB::P3.L::P3.T::P3.D::P3.X::(P3.E++os))) hax33 hb33
     refine⟨⟨hg33.at1 (by simp) hcW,hg33.at1 (by simp) hc10,(hg33.sh).le hle32,trivial⟩,?_⟩
     obtain⟨news34,hsrc34,hch34⟩:=(one_news (R:=RMsg) (xs:=[(stepP W.s[i] x).2.1.msgs[k]]) sl48.out hb33 (hg33.mem (by simp)) (Chunks.single rfl ⟨y3,rfl,hm3⟩))
     refine RL.append2 (i:=5) (xs:=(WF (W.bag++(stepP W.s[i] x).2.1.msgs.take k)).bag) (ys:=[(stepP W.s[i] x).2.1.msgs[k]]) rfl rfl rfl rfl sl48.out ze56.out rfl RMsg.one (rfl) rfl hg33 rfl (hwL.B) hsrc34 hch34 ((by simp only[List.length_singleton];omega)) (by omega) ?_
     rintro a34 c34 A34 w34 (hg34:Good _ s32 (Q33::QO::PW::P3.S::P3.K::A34::P3.L::P3.T::P3.D::P3.X::(P3.E++os))) ho34 hax34 hk34 hn34
     have hoB:=ho34
     refine⟨⟨hg34.at1 (by simp) hcW,hg34.at1 (by simp) hc10,(hg34.sh).le hle32,trivial⟩,?_⟩
     refine go 5 ?_
     rintro w35 Q35 (hg35:Good _ s32 (Q33::QO::Q35::P3.S::P3.K::A34::P3.L::P3.T::P3.D::P3.X::(P3.E++os))) hax35 hb35
     refine go 7 ?_
     cases j with
     | zero=>omega
     | succ j =>
      have hwB:=hwL.setB hoB hb35 rfl
      have hz:({ (WF (W.bag++(stepP W.s[i] x).2.1.msgs.take k)) with bag:=(WF (W.bag++(stepP W.s[i] x).2.1.msgs.take k)).bag++[(stepP W.s[i] x).2.1.msgs[k]] }:Wd)=WF (W.bag++(stepP W.s[i] x).2.1.msgs.take (k+1)):=by rw[hWF];simp only[List.take_succ_eq_append_getElem hlt,List.append_assoc]
      rw[hz] at hwB
      exact fun ac ha=>⟨j,[(0,ptr p),(1,i64 i),(10,ptr pO),(12,.bool true),(13,i64 ((k:Int)+1))],ha.sub ⟨rfl,rfl,rfl,rfl,rfl,trivial⟩,⟨_,_,_,_,k+1,((((((((((hg35.front 9 rfl).front 9 rfl).front 9 rfl).front 9 rfl).front 9 rfl).front 9 rfl).front 9 rfl).front 9 rfl).front 9 rfl).dropAt 9),(haxL.trans ((Aux.drew _).trans (hax32.trans (hax33.trans (hax34.trans hax35))))),(hleL.trans hle32),hleM.trans hle32,rfl,by omega,hwB⟩,Nat.lt_succ_self j⟩
    ·
     have hkK:k=K:=by have h9:¬ (((WF (W.bag++(stepP W.s[i] x).2.1.msgs.take k)).bag.length:Int)<400):=decide_f h56;omega
     refine go 7 ?_
     have hWK:WInv n c0 gN (c+1) (WF (W.bag++(stepP W.s[i] x).2.1.msgs.take k)):=by rw[hkK,hWF];exact hWN
     have hiF:(WF (W.bag++(stepP W.s[i] x).2.1.msgs.take k)).s[i]?=some (stepP W.s[i] x).1:=by rw[hWF];exact hi2
     have hbF:(WF (W.bag++(stepP W.s[i] x).2.1.msgs.take k)).told.length≤1073741824∧(WF (W.bag++(stepP W.s[i] x).2.1.msgs.take k)).term.length≤1073741824:=by rw[hWF];exact hb
     have hgk:Good _ sL (({ P3 with W:=PW,B:=PB }:WP).os++([QO]++os)):=WP.rot (bs:=[QO]) (P:={ P3 with W:=PW,B:=PB }) hgL
     refine RL.callG rfl rfl rfl rfl rfl ca55.out (safe_ct (I:=fun W'=>WInv n c0 gN (c+1) W'∧W'.s=(WF (W.bag++(stepP W.s[i] x).2.1.msgs.take k)).s) hgk hwL hiF hlogS hbF hst2.id hst2.term ⟨hWK,rfl⟩ (fun W' k1=>⟨k1.1.led.1,fun hr=>⟨(k1.1.leads (by rw[k1.2];exact hiF) hr).1,(k1.1.leads (by rw[k1.2];exact hiF) hr).2,k1.2⟩⟩) (fun W' x k1 hx hle=>⟨(k1.1.tell (by rw[k1.2];exact hiF) hx hle).1,(k1.1.tell (by rw[k1.2];exact hiF) hx hle).2,k1.2⟩)) ?_
     rintro e4 w4 ⟨W5,⟨hI5,hs5⟩,ht5,htm5,hss,hkk,hbb,hsn,s4,P4,a4,rfl,hle4,hgk4,hax4,hw5⟩
     have hg4:Good w4 s4 (QO::P4.W::P4.S::P4.K::P4.B::P4.L::P4.T::P4.D::P4.X::(P4.E++os)):=WP.unrot (bs:=[QO]) hgk4
     refine⟨_,rfl,trivial,?_⟩
     refine go 3 ?_
     refine CW.ret (zr1 ?_)
     have hcnt:=hst2.log.count
     refine⟨W5,gN,⟨hv,hI5,⟨W.bag,(stepP W.s[i] x).2.1.msgs.take k,hbb.trans (hWFb _),Nat.le_refl _,fun m hm=>⟨i,_,hss▸hiF,(hms m (List.mem_of_mem_take hm)).2⟩⟩,?_,?_,?_⟩,⟨_,P4,a4,rfl,(hleL.trans hle4),(((((((((hg4.front 8 rfl).front 8 rfl).front 8 rfl).front 8 rfl).front 8 rfl).front 8 rfl).front 8 rfl).front 8 rfl).dropAt 8),(haxL.trans hax4),hw5⟩⟩
     ·
      rw[hWF] at ht5;simp only at ht5;omega
     ·
      rw[hWF] at htm5;simp only at htm5;omega
     ·
      rw[hWF] at hsn;simp only at hsn;rw[hsn];omega
   ·
    have hkK:k=K:=by have h9:¬ ((k:Int)<((stepP W.s[i] x).2.1.msgs.length:Int)):=decide_f h49;omega
    refine go 16 ?_
    have hWK:WInv n c0 gN (c+1) (WF (W.bag++(stepP W.s[i] x).2.1.msgs.take k)):=by rw[hkK,hWF];exact hWN
    have hiF:(WF (W.bag++(stepP W.s[i] x).2.1.msgs.take k)).s[i]?=some (stepP W.s[i] x).1:=by rw[hWF];exact hi2
    have hbF:(WF (W.bag++(stepP W.s[i] x).2.1.msgs.take k)).told.length≤1073741824∧(WF (W.bag++(stepP W.s[i] x).2.1.msgs.take k)).term.length≤1073741824:=by rw[hWF];exact hb
    have hgk:Good _ sL (({ P3 with W:=PW,B:=PB }:WP).os++([QO]++os)):=WP.rot (bs:=[QO]) (P:={ P3 with W:=PW,B:=PB }) hgL
    refine RL.callG rfl rfl rfl rfl rfl ca55.out (safe_ct (I:=fun W'=>WInv n c0 gN (c+1) W'∧W'.s=(WF (W.bag++(stepP W.s[i] x).2.1.msgs.take k)).s) hgk hwL hiF hlogS hbF hst2.id hst2.term ⟨hWK,rfl⟩ (fun W' k1=>⟨k1.1.led.1,fun hr=>⟨(k1.1.leads (by rw[k1.2];exact hiF) hr).1,(k1.1.leads (by rw[k1.2];exact hiF) hr).2,k1.2⟩⟩) (fun W' x k1 hx hle=>⟨(k1.1.tell (by rw[k1.2];exact hiF) hx hle).1,(k1.1.tell (by rw[k1.2];exact hiF) hx hle).2,k1.2⟩)) ?_
    rintro e4 w4 ⟨W5,⟨hI5,hs5⟩,ht5,htm5,hss,hkk,hbb,hsn,s4,P4,a4,rfl,hle4,hgk4,hax4,hw5⟩
    have hg4:Good w4 s4 (QO::P4.W::P4.S::P4.K::P4.B::P4.L::P4.T::P4.D::P4.X::(P4.E++os)):=WP.unrot (bs:=[QO]) hgk4
    refine⟨_,rfl,trivial,?_⟩
    refine go 3 ?_
    refine CW.ret (zr1 ?_)
    have hcnt:=hst2.log.count
    refine⟨W5,gN,⟨hv,hI5,⟨W.bag,(stepP W.s[i] x).2.1.msgs.take k,hbb.trans (hWFb _),Nat.le_refl _,fun m hm=>⟨i,_,hss▸hiF,(hms m (List.mem_of_mem_take hm)).2⟩⟩,?_,?_,?_⟩,⟨_,P4,a4,rfl,(hleL.trans hle4),(((((((((hg4.front 8 rfl).front 8 rfl).front 8 rfl).front 8 rfl).front 8 rfl).front 8 rfl).front 8 rfl).front 8 rfl).dropAt 8),(haxL.trans hax4),hw5⟩⟩
    ·
     rw[hWF] at ht5;simp only at ht5;omega
    ·
     rw[hWF] at htm5;simp only at htm5;omega
    ·
     rw[hWF] at hsn;simp only at hsn;rw[hsn];omega
end
end Go.Lw
namespace Go.Lw
open Go.Proofs
open Safe (Wd WInv MInv G takenT)
attribute [local irreducible] RL RA
theorem WAt.setX {s:Res} {P:WP} {p:Nat} {w:Wd} {a:WA} (k:WAt s P p w a) {W' X':Res} {xa:Option Addr} {xc:Nat} {l:List Entry} (hX:Own REntry 6 65 s X' xa xc l) {cs:List Value} (hW:W' p=some (.cells cs.toArray 85 (0,0)))
  (hcs:cs=worldV { w with snap:=l } { a with xa:=xa,xc:=xc }):WAt s { P with W:=W',X:=X' } p { w with snap:=l } { a with xa:=xa,xc:=xc } :=
 { k with cells:=hcs▸hW,X:=hX }
theorem row_mid {cs vs us:List Value} {i:Nat} (h:∀ (j:Nat) u,vs[j]?=some u→cs[i*10+j]?=some u) (hl:vs.length=10) (hf:i*10+10≤cs.length) :
  cs.take (i*10+3)++us++cs.drop (i*10+3+6)=cs.take (i*10)++(vs.take 3++us++vs.drop 9)++cs.drop (i*10+10):=by
 have hv:vs=(cs.drop (i*10)).take 10:=by
  refine List.ext_getElem? fun j=>?_
  by_cases hj:j<10
  ·
   have h1:=List.getElem?_eq_getElem (l:=vs) (i:=j) (by omega)
   rw[List.getElem?_take_of_lt hj,List.getElem?_drop,h1]
   exact (h j _ h1).symm
  ·
   rw[List.getElem?_eq_none (by omega),List.getElem?_eq_none (by simp only[List.length_take,List.length_drop];omega)]
 have h1:cs.take (i*10+3)=cs.take (i*10)++(cs.drop (i*10)).take 3:=List.take_add
 have h2:cs.drop (i*10+3+6)=((cs.drop (i*10)).drop 9):=by rw[List.drop_drop]
 have h3:cs.drop (i*10+10)=(((cs.drop (i*10)).drop 9).drop 1):=by rw[List.drop_drop,List.drop_drop]
 have h4:(((cs.drop (i*10)).take 10).drop 9)=(((cs.drop (i*10)).drop 9).take 1):=by rw[List.drop_take]
 have h5:(((cs.drop (i*10)).take 10).take 3)=(cs.drop (i*10)).take 3:=by rw[List.take_take];rfl
 rw[hv,h1,h2,h3,h4,h5]
 simp only[List.append_assoc,List.take_append_drop]
theorem WP.inn {w:World} {s e:Res} {os:List Res} {P:WP} {i:Nat} (h:P.E[i]?=some e) (hg:Good w s (e::P.W::P.S::P.K::P.B::P.L::P.T::P.D::P.X::(P.E.eraseIdx i++os))):Good w s (P.os++os):=by
 have h1:=WP.back h hg
 obtain⟨hl,he⟩:=List.getElem?_eq_some_iff.1 h
 have h2:P.E.set i e=P.E:=by rw[←he];exact List.set_getElem_self hl
 rw[h2] at h1
 exact h1
section
variable {w:World} {s r:Res} {os:List Res}
theorem RefCompactE_ct {l:Log} {h:Hd} {x:Int} {data:List Int} {a:Option Addr} {c:Nat} (hg:Good w s os) (hl:LogAt s s l h) (h1:x≤l.base.index) :
  Calls Tryz.prog 82 #[logA l h,u64 x,.slice a data.length c] w (Post w s os fun s' A q=>∃ h',q = .tuple #[logA Log.none h',i64 61]∧LogOwn A s' Log.none h'):=by
 refine enter (l:=[logA l h,u64 x,.slice a data.length c]) Tryz.func82 rfl Tryz.ntmps82 rfl ?_
 refine go 3 ?_
 rintro b1 w1 Q1 (hg1:Good _ s (Q1::os)) hax1 hb1
 refine go 2 ?_
 rintro b2 w2 Q2 (hg2:Good _ s (Q2::Q1::os)) hax2 hb2
 refine go 7 ?_
 refine zw (RefLast_ct hg2 hl) ?_
 rintro v3 w3 (hg3:Good _ s (Q2::Q1::os)) hax3 rfl
 refine go 16 ?_
 refine RL.part 26 rfl (fun h26=>?_) (fun h26=>?_)
 ·
  refine go 10 ?_
  rintro w4 Q4 (hg4:Good _ s (Q4::Q1::os)) hax4 hb4
  refine go 3 ?_
  refine CW.ret (ret (vs:=[_,_]) ⟨_,_,_,rfl,rfl,zl hb4,_,_,rfl,rfl,rfl⟩ ?_)
  exact Post.mq ((hg4.drop).drop).nil ⟨Hd.log none 0 none 0 none 0 none 0,rfl,LogOwn.none _ _⟩
 ·
  have:=decide_f h26;omega
theorem RefCompact2_ct {l:Log} {h:Hd} {x:Int} {data:List Int} {a:Option Addr} {c:Nat} (hg:Good w s os) (hl:LogAt s s l h) (hS:l.small) (hx:rng .u64 x) (hd:Imm (RInt .u8) 1 s a c data) (hdl:data.length≤1073741824) (h2:x≤(lastP l).1) :
  Calls Tryz.prog 82 #[logA l h,u64 x,.slice a data.length c] w (Post w s os fun s' A q=>∃ l' h' e,q = .tuple #[logA l' h',i64 e]∧LogOwn A s' l' h'∧(e=0→l.base.index<x∧l'=Safe.compactP l x data)):=by
 by_cases h1:l.base.index<x
 ·
  exact (RefCompact_ct hg hl hS hx hd hdl h1 h2).mono fun e w' ⟨v,s',A,he,hle,hgd,hax,h',hq,hL⟩=>⟨v,s',A,he,hle,hgd,hax,_,h',0,hq,hL,fun _=>⟨h1,rfl⟩⟩
 ·
  exact (RefCompactE_ct hg hl (by omega)).mono fun e w' ⟨v,s',A,he,hle,hgd,hax,h',hq,hL⟩=>⟨v,s',A,he,hle,hgd,hax,_,h',61,hq,hL,fun z=>absurd z (by decide)⟩
theorem compact_ct {n c:Nat} {c0:Conf} {g:G} {P:WP} {p:Nat} {W:Wd} {a:WA} {i:Nat} {r:Raft} {data:List Int} {da:Option Addr} {dc:Nat} (hg:Good w s (P.os++os)) (hw:WAt s P p W a) (hW:WInv n c0 g c W) (hi:W.s[i]?=some r)
  (hd:Imm (RInt .u8) 1 s da dc data) (hdl:data.length≤100) (hc:c≤900) (hsn:W.snap.length≤1073741824) :
  Calls Tryz.prog 42 #[ptr p,i64 i,.slice da data.length dc] w (DidPost n c0 g c w s os p W):=by
 have hkv:=kept_some hW hi
 obtain⟨xv,hx,hxv⟩:∃ xv:View × Hd,a.vk[i]?=some xv∧xv.1=⟨r.hard,r.log,false⟩:=by
  rw[hw.kept,List.getElem?_map] at hkv
  cases hz:a.vk[i]? with
  | none=>rw[hz] at hkv;cases hkv
  | some xv=>rw[hz] at hkv;exact⟨xv,rfl,Option.some.inj hkv⟩
 have hil:i<W.s.length:=(List.getElem?_eq_some_iff.1 hi).1
 have hik:i<a.vk.length:=(List.getElem?_eq_some_iff.1 hx).1
 have hri:W.s[i]=r:=by rw[List.getElem?_eq_getElem hil] at hi;exact Option.some.inj hi
 have hxi:a.vk[i]=xv:=by rw[List.getElem?_eq_getElem hik] at hx;exact Option.some.inj hx
 subst hri hxi
 obtain⟨Ei,hEi⟩:∃ e,P.E[i]?=some e:=⟨_,List.getElem?_eq_getElem (by rw[hw.elen];exact hik)⟩
 have hmx:=hw.S.le_max
 have hmk:=hw.K.le_max
 have hmX:=hw.X.le_max
 simp only[maxLen] at hmx hmk hmX
 have hn:=hW.node i _ hi
 have hF:=hn.fit
 have hg0:=WP.out hEi hg
 obtain⟨T,hT⟩:∃ T,T=P.E.eraseIdx i++os:=⟨_,rfl⟩
 rw[←hT] at hg0
 have hc0:=hw.cells
 refine enter (l:=[ptr p,i64 i,.slice da data.length dc]) Tryz.func42 rfl Tryz.ntmps42 rfl ?_
 refine go 11 ?_
 refine RL.idxL rfl rfl rfl rfl sl81.out rfl rfl hw.S.lies (by omega) (by omega) ?_
 rintro q vs hvl hH ⟨hh,rfl,hRA⟩
 have hRA:RaftAt s W.s[i] hh:=hRA
 have hH:Holds P.S q (raftV W.s[i] hh):=hH
 refine RL.loads (j:=0) (us:=_) rfl rfl rfl rfl ty44.out rfl (hH) (hg0.mem (by simp)) rfl rfl ?_
 refine go 1 ?_
 rintro b5 w5 Q5 (hg5:Good _ s (Q5::Ei::P.W::P.S::P.K::P.B::P.L::P.T::P.D::P.X::T)) hax5 hb5
 refine go 2 ?_
 rintro w6 Q6 (hg6:Good _ s (Q6::Ei::P.W::P.S::P.K::P.B::P.L::P.T::P.D::P.X::T)) hax6 hb6
 refine go 8 ?_
 have hc7:=hb6
 have hle0:Le s s:=Le.refl _
 refine CW.loop (σ:=Nat) (fun j E w'=>∃ da' dc' data',∃ k:Nat,Good w' s (Q6::Ei::P.W::P.S::P.K::P.B::P.L::P.T::P.D::P.X::T)∧Aux w w'∧E=[(0,ptr p),(1,i64 i),(2,.slice da' data'.length dc'),(7,ptr b5),(8,i64 k)]∧k+j=W.snap.length∧Imm (RInt .u8) 1 s da' dc' data'∧data'.length≤100) (fun j=>j) W.snap.length [(0,ptr p),(1,i64 i),(2,.slice da data.length dc),(7,ptr b5),(8,i64 0)] ⟨rfl,rfl,rfl,rfl,rfl,trivial⟩ ⟨da,dc,data,0,((((((((((hg6.front 9 rfl).front 9 rfl).front 9 rfl).front 9 rfl).front 9 rfl).front 9 rfl).front 9 rfl).front 9 rfl).front 9 rfl).front 9 rfl),(hax5.trans hax6),rfl,by omega,hd,hdl⟩ ?_
 rintro j E wL ⟨ea,ec,dt,k,hgL,haxL,rfl,hk,hdt,hdtl⟩
 refine go 11 ?_
 refine CW.cond rfl (fun h24=>?_) (fun h24=>?_)
 ·
  have h9:(k:Int)<(W.snap.length:Int):=decide_t h24
  have hlt:k<W.snap.length:=by omega
  refine go 4 ?_
  have hg7:=hgL.drew
  refine CW.dw [1,3,5,7,9,11,13,15,17,19,21,23] (fun w=>At1 p _ w∧At1 b5 _ w∧In P.X w∧True) ?_
  refine go 5 ?_
  refine RL.idxL rfl rfl rfl rfl sl31.out rfl rfl hw.X.lies (by omega) (by omega) ?_
  rintro q2 vs2 hvl2 hH2 ⟨fa,fc,fa1,fc1,fa2,fc2,rfl,fr1,fr2,fr3,fh1,fh2,fh3⟩
  refine go 1 ?_
  refine RL.loadT (j:=0) rfl rfl rfl rfl ty22.out rfl (hH2) (fun w h=>h.2.2.1) rfl ?_
  refine go 5 ?_
  refine CW.cond rfl (fun h38=>?_) (fun h38=>?_)
  ·
   refine go 6 ?_
   refine RL.idxL rfl rfl rfl rfl sl31.out rfl rfl hw.X.lies (by omega) (by omega) ?_
   rintro q3 vs3 hvl3 hH3 ⟨ga,gc,ga1,gc1,ga2,gc2,rfl,gr1,gr2,gr3,gh1,gh2,gh3⟩
   refine go 1 ?_
   refine RL.load (j:=3) rfl rfl rfl rfl ty28.out rfl (hH3) (hg7.mem (by simp)) rfl ?_
   refine go 7 ?_
   cases j with
   | zero=>omega
   | succ j=>exact fun ac ha=>⟨j,[(0,ptr p),(1,i64 i),(2,.slice ga W.snap[k].data.length gc),(7,ptr b5),(8,i64 ((k:Int)+1))],ha.sub ⟨rfl,rfl,rfl,rfl,rfl,trivial⟩,⟨ga,gc,W.snap[k].data,k+1,((((((((((hg7.front 9 rfl).front 9 rfl).front 9 rfl).front 9 rfl).front 9 rfl).front 9 rfl).front 9 rfl).front 9 rfl).front 9 rfl).front 9 rfl),(haxL.trans (Aux.drew _)),rfl,by omega,gh1,hW.snap _ (List.getElem_mem hlt)⟩,Nat.lt_succ_self j⟩
  ·
   refine go 6 ?_
   cases j with
   | zero=>omega
   | succ j=>exact fun ac ha=>⟨j,[(0,ptr p),(1,i64 i),(2,.slice ea dt.length ec),(7,ptr b5),(8,i64 ((k:Int)+1))],ha.sub ⟨rfl,rfl,rfl,rfl,rfl,trivial⟩,⟨ea,ec,dt,k+1,((((((((((hg7.front 9 rfl).front 9 rfl).front 9 rfl).front 9 rfl).front 9 rfl).front 9 rfl).front 9 rfl).front 9 rfl).front 9 rfl).front 9 rfl),(haxL.trans (Aux.drew _)),rfl,by omega,hdt,hdtl⟩,Nat.lt_succ_self j⟩
 ·
  refine go 10 ?_
  refine zc (RefCompact2_ct hgL hRA.log (hF.log.small (by omega)) hF.commit hdt (by omega) hn.sound.high) ?_
  rintro v8 s8 Q8 w8 hle8 (hg8:Good _ s8 (Q8::Q6::Ei::P.W::P.S::P.K::P.B::P.L::P.T::P.D::P.X::T)) hax8 ⟨l2,h2,e2,rfl,hL2,he2⟩
  have hw:=hw.up hle8
  have hRA:=hRA.up hle8
  refine go 5 ?_
  rintro b9 w9 Q9 (hg9:Good _ s8 (Q9::Q8::Q6::Ei::P.W::P.S::P.K::P.B::P.L::P.T::P.D::P.X::T)) hax9 hb9
  refine go 2 ?_
  rintro w10 Q10 (hg10:Good _ s8 (Q10::Q8::Q6::Ei::P.W::P.S::P.K::P.B::P.L::P.T::P.D::P.X::T)) hax10 hb10
  refine go 9 ?_
  refine CW.cond rfl (fun h58=>?_) (fun h58=>?_)
  ·
   refine go 4 ?_
   refine CW.ret (zr1 ?_)
   have hgf:=((((((((((((hg10.front 11 rfl).front 11 rfl).front 11 rfl).front 11 rfl).front 11 rfl).front 11 rfl).front 11 rfl).front 11 rfl).front 11 rfl).dropAt 9).dropAt 9).dropAt 9)
   rw[hT] at hgf
   exact⟨W,g,.calm hW (Nat.le_refl _) rfl rfl (by omega),⟨_,P,a,rfl,hle8,WP.inn hEi hgf,(haxL.trans (hax8.trans (hax9.trans hax10))),hw⟩⟩
  ·
   obtain⟨hlo,rfl⟩:=he2 (by simpa using h58)
   have hWN:=hW.compact hi (by omega) hlo hdtl (x:=⟨W.s[i].hard.commit,0,0,dt,⟨[],[]⟩⟩) rfl
   have hNN:=hn.compact hW.inv hW.size (by omega) hlo hdtl
   have hlS:(Safe.compactP W.s[i].log W.s[i].hard.commit dt).small:=hNN.fit.log.small (by omega)
   refine go 2 ?_
   have hg11:=hg10.drew
   refine CW.dx [1,3,5,7,9,11,13,15,17,19,20,22,25,27] [28] 14 1 (fun w=>At1 p _ w∧At1 b5 _ w∧True) ?_
   refine go 11 ?_
   rintro b12 w12 Q12 (hg12:Good _ s8 (Q12::Q10::Q8::Q6::Ei::P.W::P.S::P.K::P.B::P.L::P.T::P.D::P.X::T)) hax12 hb12
   refine go 1 ?_
   obtain⟨news13,hsrc13,hch13⟩:=(one_news (R:=REntry) (xs:=[⟨W.s[i].hard.commit,0,0,dt,⟨[],[]⟩⟩]) sl31.out hb12 (hg12.mem (by simp)) (Chunks.single rfl ⟨ea,ec,none,0,none,0,rfl,hF.commit,by simp[rng],by simp[rng],hdt.up (RInt.up _) hle8,Imm.nil _ _ _ (Nat.zero_le _),Imm.nil _ _ _ (Nat.zero_le _)⟩))
   refine RL.append2 (i:=12) (xs:=W.snap) (ys:=[⟨W.s[i].hard.commit,0,0,dt,⟨[],[]⟩⟩]) rfl rfl rfl rfl sl31.out ze65.out rfl REntry.one (rfl) rfl hg12 rfl (hw.X) hsrc13 hch13 ((by simp only[List.length_singleton];omega)) (by omega) ?_
   rintro a13 c13 A13 w13 (hg13:Good _ s8 (Q12::Q10::Q8::Q6::Ei::P.W::P.S::P.K::P.B::P.L::P.T::P.D::A13::T)) ho13 hax13 hk13 hn13
   have hoX:=ho13
   refine go 6 ?_
   rintro w14 Q14 (hg14:Good _ s8 (Q12::Q10::Q8::Q6::Ei::Q14::P.S::P.K::P.B::P.L::P.T::P.D::A13::T)) hax14 hb14
   refine go 3 ?_
   have hg15:=hg14.drew
   refine CW.dx [1,3,5,7,9,11,13,15] [16] 8 1 (fun w=>At1 p _ w∧At1 b9 _ w∧True) ?_
   refine go 6 ?_
   refine RL.idxOwn rfl rfl rfl rfl sl82.out rfl rfl hw.K (by omega) (by omega) ?_
   rintro g' cs vs' hb' hA' hcs hvl' hcell ⟨rfl,hvo⟩
   have hvo:ViewOk s8 a.vk[i].1 a.vk[i].2:=hvo
   have hcell:∀ (j:Nat) u,(viewV a.vk[i].1 a.vk[i].2)[j]?=some u→cs.toList[i*10+j]?=some u:=hcell
   rw[hxv] at hvo hcell
   have hoK:Own RView 10 35 s8 P.K (some ⟨g',0,none⟩) a.kc a.vk:=hb'▸hw.K
   have hfit:i*10+10≤cs.toList.length:=by have:=hoK.le_cap;rw[Array.length_toList,hcs];omega
   have hset:=hoK.set hA' hik (show (viewV (⟨W.s[i].hard,(Safe.compactP W.s[i].log W.s[i].hard.commit dt),false⟩:View) h2).length=10 from rfl) (show RView s8 (viewV (⟨W.s[i].hard,(Safe.compactP W.s[i].log W.s[i].hard.commit dt),false⟩:View) h2) ((⟨W.s[i].hard,(Safe.compactP W.s[i].log W.s[i].hard.commit dt),false⟩:View),h2) from ⟨rfl,⟨hvo.term,hvo.vote,hvo.commit,hL2.index,hL2.term,hL2.voters,hL2.learners,hL2.data⟩⟩)
   obtain⟨KN,hKN⟩:∃ Z,Z=P.K.put g' (.cells (List.take (i*10) cs.toList++viewV (⟨W.s[i].hard,(Safe.compactP W.s[i].log W.s[i].hard.commit dt),false⟩:View) h2++List.drop (i*10+10) cs.toList).toArray 35):=⟨_,rfl⟩
   rw[←hKN] at hset
   have hrow:cs.toList.take (i*10+3)++logV (Safe.compactP W.s[i].log W.s[i].hard.commit dt) h2++cs.toList.drop (i*10+3+6)=cs.toList.take (i*10)++viewV (⟨W.s[i].hard,(Safe.compactP W.s[i].log W.s[i].hard.commit dt),false⟩:View) h2++cs.toList.drop (i*10+10):=row_mid hcell rfl hfit
   refine go 3 ?_
   refine RL.store (i:=7) (j:=i*10+3) (u:= .agg (logV (Safe.compactP W.s[i].log W.s[i].hard.commit dt) h2).toArray) rfl rfl rfl ty33.out (by rw[←add_add];rfl) rfl hg15 rfl hA' rfl (by simp[Value.cells,Value.oneCell']) (by rw[Array.length_toList] at hfit;omega) ?_
   intro ws hgs haxs
   have hgs2:Good ws s8 (Q10::Q8::Q6::Ei::Q14::P.S::KN::P.B::P.L::P.T::P.D::A13::T):=by rw[hKN,← hrow];exact hgs.drop
   refine go 6 ?_
   refine zc (RefCloneLog_ct hgs2 (.inr (by simp)) hL2.at hlS) ?_
   rintro v16 s16 B16 w16 hle16 (hg16:Good _ s16 (B16::Q10::Q8::Q6::Ei::Q14::P.S::KN::P.B::P.L::P.T::P.D::A13::T)) hax16 ⟨h3,rfl,hL3⟩
   have hg16:=hg16.drop
   have hw:=hw.up hle16
   have hRA:=hRA.up hle16
   have hL2:=hL2.up hle16
   have hoX:=hoX.up REntry.up hle16
   have hset:=hset.up RView.up hle16
   refine go 3 ?_
   rintro w17 Q17 (hg17:Good _ s16 (Q10::Q8::Q17::Ei::Q14::P.S::KN::P.B::P.L::P.T::P.D::A13::T)) hax17 hb17
   refine go 3 ?_
   have hg18:=hg17.drew
   refine CW.dx [1,3,5,7,9,11,13] [14] 7 1 (fun w=>At1 p _ w∧At1 b5 _ w∧True) ?_
   refine go 5 ?_
   refine RL.loadsT (ad:=⟨b5,0,none⟩) (j:=0) (us:=raftV ({ W.s[i] with log:=(Safe.compactP W.s[i].log W.s[i].hard.commit dt) }:Raft) ({ hh with va:=h3.va,vc:=h3.vc,la:=h3.la,lc:=h3.lc,da:=h3.da,dc:=h3.dc,ea:=h3.ea,ec:=h3.ec }:Hd)) rfl rfl rfl rfl ty44.out rfl (At1.holds) (fun w h=>h.2.1.inn) rfl rfl ?_
   refine RL.idxOwn rfl rfl rfl rfl sl81.out rfl rfl hw.S (by omega) (by omega) ?_
   rintro gS cS vS hbS hAS hcsS hvlS hcellS _
   have hoS:Own RRaft 20 44 s16 P.S (some ⟨gS,0,none⟩) a.sc W.s:=hbS▸hw.S
   have hRN:RaftAt s16 ({ W.s[i] with log:=(Safe.compactP W.s[i].log W.s[i].hard.commit dt) }:Raft) ({ hh with va:=h3.va,vc:=h3.vc,la:=h3.la,lc:=h3.lc,da:=h3.da,dc:=h3.dc,ea:=h3.ea,ec:=h3.ec }:Hd):={ hRA with log:=⟨hL3.index,hL3.term,hL3.voters,hL3.learners,hL3.data,hL3.entries⟩ }
   have hsetS:=hoS.set hAS hil (show (raftV ({ W.s[i] with log:=(Safe.compactP W.s[i].log W.s[i].hard.commit dt) }:Raft) ({ hh with va:=h3.va,vc:=h3.vc,la:=h3.la,lc:=h3.lc,da:=h3.da,dc:=h3.dc,ea:=h3.ea,ec:=h3.ec }:Hd)).length=20 from rfl) ⟨({ hh with va:=h3.va,vc:=h3.vc,la:=h3.la,lc:=h3.lc,da:=h3.da,dc:=h3.dc,ea:=h3.ea,ec:=h3.ec }:Hd),rfl,hRN⟩
   obtain⟨SN,hSN⟩:∃ Z,Z=P.S.put gS (.cells (List.take (i*20) cS.toList++raftV ({ W.s[i] with log:=(Safe.compactP W.s[i].log W.s[i].hard.commit dt) }:Raft) ({ hh with va:=h3.va,vc:=h3.vc,la:=h3.la,lc:=h3.lc,da:=h3.da,dc:=h3.dc,ea:=h3.ea,ec:=h3.ec }:Hd)++List.drop (i*20+20) cS.toList).toArray 44):=⟨_,rfl⟩
   rw[←hSN] at hsetS
   have hfitS:i*20+20≤cS.size:=by have:=hoS.le_cap;rw[hcsS];omega
   refine go 2 ?_
   refine RL.store (i:=5) (j:=i*20) (u:= .agg (raftV ({ W.s[i] with log:=(Safe.compactP W.s[i].log W.s[i].hard.commit dt) }:Raft) ({ hh with va:=h3.va,vc:=h3.vc,la:=h3.la,lc:=h3.lc,da:=h3.da,dc:=h3.dc,ea:=h3.ea,ec:=h3.ec }:Hd)).toArray) rfl rfl rfl ty44.out rfl rfl hg18 rfl hAS rfl (by simp[Value.cells,Value.oneCell']) hfitS ?_
   intro wt hgt haxt
   have hgt2:Good wt s16 (Q10::Q8::Q17::Ei::Q14::SN::KN::P.B::P.L::P.T::P.D::A13::T):=by rw[hSN];exact hgt
   refine go 6 ?_
   refine CW.ret (zr1 ?_)
   have hw9:=((hw.setX hoX hb14 rfl).setK hEi (x:=((⟨W.s[i].hard,(Safe.compactP W.s[i].log W.s[i].hard.commit dt),false⟩:View),h2)) (hb'.symm▸hset) hL2.entries).setS (hbS.symm▸hsetS) (by simp)
   have hgf:=((((((((((((hgt2.front 11 rfl).front 11 rfl).front 11 rfl).front 11 rfl).front 11 rfl).front 11 rfl).front 11 rfl).front 11 rfl).front 9 rfl).dropAt 9).dropAt 9).dropAt 9)
   rw[hT] at hgf
   exact⟨_,g,.calm hWN (Nat.le_refl _) rfl rfl (by simp),⟨_,_,_,rfl,(hle8.trans hle16),WP.back hEi hgf,(haxL.trans (hax8.trans (hax9.trans (hax10.trans ((Aux.drew _).trans (hax12.trans (hax13.trans (hax14.trans ((Aux.drew _).trans (haxs.trans (hax16.trans (hax17.trans ((Aux.drew _).trans haxt))))))))))))),hw9⟩⟩
end
end Go.Lw
