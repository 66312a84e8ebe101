/-
  Parts of the proof of the laws RaftcoreChangesUptoSaid: KeK, KeM, KeN, KeO, KfD, KdH, OffRow, KfE, KfF, KfG, KfH, KhA, KfI, KfJ, KgA, KgB, KgC, KgD, KgE, KgF, KgG, KgH, KgI, KgJ, KgK.
-/
import Derived.Test.YtpjclnomaemokaaGreatRhA4
set_option maxRecDepth 100000
set_option maxHeartbeats 16000000
set_option linter.all false
namespace Go.Lw.dF
def qa (L:br) (o:bz) (B:gE):br :=
 if o.dY=true then ⟨B,(L.entries.filter fun e=>decide (o.cut=0) && decide (B.index<e.index))++o.entries⟩
 else if o.cut≠0 then ⟨L.aF,(L.entries.filter fun e=>decide (e.index<o.cut))++o.entries⟩ else ⟨L.aF,L.entries++o.entries⟩
def Kp (L:br) (n:ai):Prop:=qa L n.o n.s.ah.aF=n.s.ah
def Sm (n n':ai):Prop:=n'.s.ah=n.s.ah∧n'.o.cut=n.o.cut∧n'.o.entries=n.o.entries∧n'.o.dY=n.o.dY
structure oe (L:br) (n:ai):Prop where
 ah:n.s.ah=L
 cut:n.o.cut=0
 entries:n.o.entries=[]
 dY:n.o.dY=false
section
variable {L:br} {n n' n'':ai}
theorem Sm.refl (n:ai):Sm n n:=⟨rfl,rfl,rfl,rfl⟩
theorem Sm.trans (h:Sm n n') (k:Sm n' n''):Sm n n'':=⟨k.1.trans h.1,k.2.1.trans h.2.1,k.2.2.1.trans h.2.2.1,k.2.2.2.trans h.2.2.2⟩
theorem Kp.sm (h:Kp L n) (k:Sm n n'):Kp L n':=by
 have e:∀ B,qa L n'.o B=qa L n.o B:=fun B=>by
  unfold qa
  rw[k.2.1,k.2.2.1,k.2.2.2]
 unfold Kp at h ⊢
 rw[k.1,e];exact h
theorem oe.kp (h:oe L n):Kp L n:=by
 unfold Kp qa
 rw[h.dY,h.cut,h.entries,h.ah]
 simp
theorem oe.sm (h:oe L n) (k:Sm n n'):oe L n':=⟨k.1.trans h.ah,k.2.1.trans h.cut,k.2.2.1.trans h.entries,k.2.2.2.trans h.dY⟩
theorem Lo (n:ai) (p:cK):Sm n (n.fA p):=by
 unfold ai.fA
 split
 unfold ai.lq;split
 exact⟨rfl,rfl,rfl,rfl⟩
 exact Sm.refl n
 exact⟨rfl,rfl,rfl,rfl⟩
theorem ajT (l:List cK):∀ n:ai,Sm n (n.mF l):=by
 induction l with
 | nil=>exact fun n=>Sm.refl n
 | cons p l ih=>exact fun n=>(Lo n p).trans (ih _)
theorem Ry (n:ai):Sm n n.gD:=ajT _ n
theorem YR (n:ai):Sm n n.count:=by
 by_cases hs:n.b_≤n.s.af.aB∨(cE n.s.ah n.b_).1≠n.s.af.ab
 rw[yY hs];exact Sm.refl n
 rw[yX hs];split<;>exact⟨rfl,rfl,rfl,rfl⟩
theorem Kp.fE (h:Kp L n) (x:aA):Kp L (n.fE x):=by
 unfold Kp at h ⊢
 show qa L { n.o with entries:=n.o.entries++[x] } n.s.ah.aF=⟨n.s.ah.aF,n.s.ah.entries++[x]⟩
 rw[show n.s.ah.entries=(qa L n.o n.s.ah.aF).entries by rw[h]]
 have hb:(qa L n.o n.s.ah.aF).aF=n.s.ah.aF:=by rw[h]
 unfold qa at hb ⊢
 dsimp only
 split
 simp
 rename_i hi
 rw[if_neg hi] at hb
 split
 rename_i hc
 rw[if_pos hc] at hb
 simp only at hb ⊢
 rw[hb,List.append_assoc]
 rename_i hc
 rw[if_neg hc] at hb
 simp only at hb ⊢
 rw[hb,List.append_assoc]
theorem Kp.put (h:Kp L n) (e:aA):Kp L (n.put e):=by
 rw[K4]
 refine Kp.sm ?_ ((YR _).trans (Ry _))
 split
 exact (h.fE _).sm ⟨rfl,rfl,rfl,rfl⟩
 exact h.fE _
theorem Kp.cI (h:Kp L n):Kp L n.cI:=by
 obtain⟨m,hm⟩:∃ m:ai,m=ai.cx { n with s:={ n.s with aO:=4,gq:=n.s.id,cB:=[],bi:=0,fQ:=0,eW:=0,aK:=[] } } (bF n.aZ):=⟨_,rfl⟩
 have hk:Kp L m:=h.sm (by rw[hm];exact⟨rfl,rfl,rfl,rfl⟩)
 have e:n.cI=m.put ⟨0,0,1,[],⟨[],[]⟩⟩:=by rw[hm];rfl
 rw[e]
 exact hk.put _
theorem Kp.fp (h:Kp L n):Kp L n.fp:=by
 obtain⟨m,hm⟩:∃ m:ai,m=ai.dM { n with s:={ n.s with af:={ n.s.af with ab:=bF n.s.af.ab,aT:=n.s.id } } } 3:=⟨_,rfl⟩
 have hk:Kp L m:=h.sm (by rw[hm];exact⟨rfl,rfl,rfl,rfl⟩)
 have e:n.fp=if m.gM=1 then m.cI else m.l8 3 m.s.af.ab:=by rw[hm];rfl
 rw[e]
 split
 exact hk.cI
 exact hk.sm ⟨rfl,rfl,rfl,rfl⟩
theorem Kp.eD (h:Kp L n):Kp L n.eD:=by
 have hk:Kp L (n.dM 2):=h.sm ⟨rfl,rfl,rfl,rfl⟩
 have e:n.eD=if (n.dM 2).gM=1 then (n.dM 2).fp else (n.dM 2).l8 1 (bF (n.dM 2).s.af.ab):=rfl
 rw[e]
 split
 exact hk.fp
 exact hk.sm ⟨rfl,rfl,rfl,rfl⟩
theorem Kp.tick (h:Kp L n) (t:Int):Kp L (n.tick t):=by
 obtain⟨e,he⟩:∃ e,e=min (jT n.s.bi) (max n.s.bi 1073741824):=⟨_,rfl⟩
 by_cases hr:n.s.aO≠4
 by_cases hv:max t 1≤e∧n.jz=true
 rw[ai.CY e he hr hv];exact Kp.eD (h.sm ⟨rfl,rfl,rfl,rfl⟩)
 rw[ai.CZ e he hr hv];exact h.sm ⟨rfl,rfl,rfl,rfl⟩
 obtain⟨b,hb⟩:∃ b,b=if max t 1≤e then ((n.dN e).dN 0).mC 0 else n.dN e:=⟨_,rfl⟩
 have hs:Sm n b:=by rw[hb];split<;>exact⟨rfl,rfl,rfl,rfl⟩
 rw[ai.yA e he hr b hb]
 split
 exact h.sm ((hs.trans ⟨rfl,rfl,rfl,rfl⟩).trans (Ry ((b.kD (jT b.s.fQ)).kD 0)))
 exact h.sm (hs.trans ⟨rfl,rfl,rfl,rfl⟩)
theorem Kp.jS (h:Kp L n) {m:az} {nB:ai→ai} (hw:∀ q,Kp L q→Kp L (nB q)):Kp L (n.jS m nB):=by
 have hb:Kp L (n.jm m.am (!m.bT)):=h.sm ⟨rfl,rfl,rfl,rfl⟩
 unfold ai.jS
 dsimp only
 split
 exact hw _ hb
 split
 exact hb.sm ⟨rfl,rfl,rfl,rfl⟩
 exact hb
theorem Kp.eW (h:Kp L n) (to:Int):Kp L (n.nt to).1:=by
 have hw:Kp L ⟨{ n.s with eW:=to,bi:=0 },n.o⟩:=h.sm (n':=⟨{ n.s with eW:=to,bi:=0 },n.o⟩) ⟨rfl,rfl,rfl,rfl⟩
 unfold ai.nt
 split
 exact h
 split
 exact h
 dsimp only
 split
 exact hw.sm ⟨rfl,rfl,rfl,rfl⟩
 exact hw.sm (Lo _ _)
theorem Kp.gd (h:Kp L n) (x:ez):Kp L (n.gd x).1:=by
 have hw:Kp L ⟨n.s,{ n.o with index:=bF n.aZ,ab:=n.s.af.ab }⟩:=h.sm (n':=⟨n.s,{ n.o with index:=bF n.aZ,ab:=n.s.af.ab }⟩) ⟨rfl,rfl,rfl,rfl⟩
 unfold ai.gd
 split
 exact h
 split
 exact h
 split
 exact h.eW _
 dsimp only
 split
 split
 exact h
 exact hw.put _
 exact hw.put _
theorem Kp.kM (h:Kp L n) (m:az):Kp L (n.kM m):=by
 by_cases bW:n.s.aO≠4∨n.gu m.am=none∨n.aZ<m.index
 rw[y8 bW];exact h
 have h0:n.s.aO=4:=Classical.byContradiction fun z=>bW (.inl z)
 have h2:¬ n.aZ<m.index:=fun z=>bW (.inr (.inr z))
 obtain⟨q,hq⟩:∃ q,n.gu m.am=some q:=by
  cases hp:n.gu m.am with
  | none=>exact absurd (.inr (.inl hp)) bW
  | some q=>exact⟨q,rfl⟩
 obtain⟨k,eG⟩:=H7 hq
 by_cases h3:m.bT=true
 rw[y9 h0 hq h2 h3 eG _ rfl]
 exact Kp.sm (h.sm ⟨rfl,rfl,rfl,rfl⟩) (Lo _ _)
 rw[AY h0 hq h2 h3 eG]
 have hu:Kp L (n.db k (q.up m.index)).count:=Kp.sm (h.sm ⟨rfl,rfl,rfl,rfl⟩) (YR _)
 split
 exact hu
 generalize (n.db k (q.up m.index)).count=b at hu
 have nj:Kp L (ai.fO (n.db k (q.up m.index)) b (q.up m.index)):=by
  unfold ai.fO
  split
  exact hu.sm (Ry _)
  split
  exact hu.sm (Lo _ _)
  exact hu
 have e:ai.after (n.db k (q.up m.index)) b (q.up m.index) m.am=if (n.db k (q.up m.index)).s.eW=m.am∧(q.up m.index).cA=(ai.fO (n.db k (q.up m.index)) b (q.up m.index)).aZ then (ai.fO (n.db k (q.up m.index)) b (q.up m.index)).post { az.zero with ao:=9,to:=m.am } else ai.fO (n.db k (q.up m.index)) b (q.up m.index):=rfl
 rw[e]
 split
 exact nj.sm ⟨rfl,rfl,rfl,rfl⟩
 exact nj
theorem T6:∀ {l:List aA} {b x:Int},(∀ (k:Nat) (e:aA),l[k]?=some e→e.index=b+k)→(l.filter fun e=>decide (e.index<x))=l.take (x-b).toNat
 | [],_,_,_=>by simp
 | e::l,b,x,h=>by
  have h0:=h 0 e rfl
  have ih:=T6 (l:=l) (b:=b+1) (x:=x) fun k y hk=>by have:=h (k+1) y (by simpa using hk);omega
  rw[List.filter_cons]
  by_cases hx:e.index<x
  rw[if_pos (by simpa using hx),ih,show (x-b).toNat=(x-(b+1)).toNat+1 by omega,List.take_succ_cons]
  rw[if_neg (by simpa using hx),ih,show (x-b).toNat=0 by omega,show (x-(b+1)).toNat=0 by omega];simp
theorem T5:∀ {l:List aA} {b x:Int},(∀ (k:Nat) (e:aA),l[k]?=some e→e.index=b+k)→(l.filter fun e=>decide (x<e.index))=l.drop (x+1-b).toNat
 | [],_,_,_=>by simp
 | e::l,b,x,h=>by
  have h0:=h 0 e rfl
  have ih:=T5 (l:=l) (b:=b+1) (x:=x) fun k y hk=>by have:=h (k+1) y (by simpa using hk);omega
  rw[List.filter_cons]
  by_cases hx:x<e.index
  rw[if_pos (by simpa using hx),ih,show (x+1-b).toNat=0 by omega,show (x+1-(b+1)).toNat=0 by omega];simp
  rw[if_neg (by simpa using hx),ih,show (x+1-b).toNat=(x+1-(b+1)).toNat+1 by omega,List.drop_succ_cons]
theorem oe.grow (h:oe L n) (hx:lA L) (_:0≤L.aF.index) {m:az} (nS:0≤m.index):Kp L (n.grow m):=by
 by_cases hr:n.s.aO=4
 unfold ai.grow;rw[if_pos hr];exact h.kp
 have hc:Sm n (n.calm m.am):=⟨rfl,rfl,rfl,rfl⟩
 have hf:=h.sm hc
 by_cases h1:m.index<(n.calm m.am).s.af.aB
 rw[AW hr h1];exact hf.kp.sm ⟨rfl,rfl,rfl,rfl⟩
 obtain⟨M,hM⟩:∃ M,M=fb (n.calm m.am).s.ah (n.calm m.am).s.af.aB m.index m.cn m.entries:=⟨_,rfl⟩
 by_cases h2:M.gH=1∨M.gH=62∨m.entries.any (ai.l_ (n.calm m.am).s.af.ab)=true
 rw[uC hr h1 hM.symm h2];exact hf.kp
 by_cases h3:M.gH=61
 rw[y6 hr h1 hM.symm h2 h3];exact hf.kp.sm ⟨rfl,rfl,rfl,rfl⟩
 rw[y7 hr h1 hM.symm h2 h3]
 refine Kp.sm (n:=((((n.calm m.am).C_ M.ah).xf M.cut).Db M.came).lz (max (n.calm m.am).s.af.aB (min m.aB (m.index+m.entries.length)))) ?_ ⟨rfl,rfl,rfl,rfl⟩
 have cq:(n.calm m.am).o.dY=false:=hf.dY
 unfold Kp qa
 show (if (n.calm m.am).o.dY=true then _ else if M.cut≠0 then (⟨L.aF,(L.entries.filter fun e=>decide (e.index<M.cut))++M.came⟩:br) else ⟨L.aF,L.entries++M.came⟩)=M.ah
 rw[if_neg (by rw[cq];decide)]
 rw[hf.ah] at hM
 unfold fb at hM
 split at hM
 exact absurd (.inl (by rw[hM])) h2
 rename_i fo
 split at hM
 exact absurd (by rw[hM]) h3
 split at hM
 exact absurd (.inr (.inl (by rw[hM]))) h2
 have rq:fx m.index m.cn m.entries=true:=by
  have:lI m.index m.cn m.entries=true:=by simpa using fo
  simp only[lI,Bool.and_eq_true] at this
  exact this.2
 cases GI:m.entries.findIdx? (ed L) with
 | none =>
  rw[GI] at hM
  subst hM
  simp
 | some j =>
  rw[GI] at hM
  obtain⟨hj,-,-⟩:=List.findIdx?_eq_some_iff_getElem.1 GI
  have rd:(m.entries[j]?.map (·.index)).getD 0=m.index+1+j:=by
   rw[List.getElem?_eq_getElem hj]
   exact sP rq j _ (List.getElem?_eq_getElem hj)
  dsimp only at hM
  rw[rd] at hM
  have iO:=hx.lG (m.index+1+j)
  subst hM
  dsimp only
  by_cases hp:eI L (m.index+1+j)<L.entries.length
  rw[if_pos hp,if_pos (by omega),T6 (b:=L.aF.index+1) (fun k e hk=>by have:=hx k e hk;omega)]
  congr 3
  omega
  rw[if_neg hp,if_neg (by simp),List.take_of_length_le (by omega)]
theorem oe.ajb (h:oe L n) (hx:lA L) (h0:0≤L.aF.index) (s:gE):Kp L (n.dY s):=by
 rcases hf:n.s.ah.entries.findIdx? (fun e=>decide (e.index=s.index∧e.ab=s.ab)) with _ | j
 have e:n.dY s=⟨{ n.s with ah:=⟨s,[]⟩,af:={ n.s.af with aB:=s.index },part:=fG.zero },{ n.o with dY:=true,cut:=(n.s.ah.entries.head?.map (·.index)).getD n.o.cut }⟩:=by unfold ai.dY;dsimp only;rw[hf]
 rw[e]
 unfold Kp qa
 dsimp only
 rw[if_pos rfl,h.ah,h.cut,h.entries]
 congr 1
 rw[List.append_nil,List.filter_eq_nil_iff]
 intro y hy
 cases hl:L.entries with
 | nil=>rw[hl] at hy;cases hy
 | cons z t =>
  have:=hx 0 z (by rw[hl];rfl)
  simp only[List.head?_cons,Option.map_some,Option.getD_some,Bool.and_eq_true,decide_eq_true_eq]
  intro hz
  have:=of_decide_eq_true hz.1
  omega
 have e:n.dY s=⟨{ n.s with ah:=⟨s,n.s.ah.entries.drop (j+1)⟩,af:={ n.s.af with aB:=s.index },part:=fG.zero },{ n.o with dY:=true }⟩:=by unfold ai.dY;dsimp only;rw[hf]
 rw[e]
 obtain⟨re,rf,-⟩:=List.findIdx?_eq_some_iff_getElem.1 hf
 have r_:=(of_decide_eq_true rf).1
 have Eg:=List.getElem?_eq_getElem re
 unfold Kp qa
 dsimp only
 rw[if_pos rfl,h.cut,h.entries,List.append_nil]
 congr 1
 have h3:=hx j _ (by rw[←h.ah];exact Eg)
 rw[h.ah]
 simp only[decide_true,Bool.true_and]
 rw[T5 (b:=L.aF.index+1) (fun k e hk=>by have:=hx k e hk;omega)]
 congr 1
 omega
theorem oe.lR (h:oe L n) (hx:lA L) (h0:0≤L.aF.index) (m:az):Kp L (n.lR m):=by
 by_cases hr:n.s.aO=4∨eg m.aJ≠0∨n.s.af.ab<m.cn
 rw[yW hr];exact h.kp
 have hf:oe L (n.calm m.am):=h.sm ⟨rfl,rfl,rfl,rfl⟩
 by_cases h1:m.index≤(n.calm m.am).s.af.aB
 rw[AE hr h1];exact hf.kp.sm ⟨rfl,rfl,rfl,rfl⟩
 obtain⟨T,hT⟩:∃ T,T=mb (n.calm m.am).s.part m:=⟨_,rfl⟩
 by_cases h2:T.2=false
 rw[AF hr h1 hT.symm h2];exact hf.kp.sm ⟨rfl,rfl,rfl,rfl⟩
 rw[yV hr h1 hT.symm h2];exact (hf.ajb hx h0 _).sm ⟨rfl,rfl,rfl,rfl⟩
theorem oe.dW (h:oe L n) (hx:lA L) (h0:0≤L.aF.index) {m:az} (nS:0≤m.index):Kp L (n.dW m):=by
 unfold ai.dW
 split
 unfold ai.aT;dsimp only;split<;>exact h.kp.sm ⟨rfl,rfl,rfl,rfl⟩
 split
 unfold ai.lK;split
 exact h.kp.jS fun q hq=>hq.cI
 exact h.kp
 split
 exact h.grow hx h0 nS
 split
 exact h.kp.kM m
 split
 exact h.lR hx h0 m
 split
 unfold ai.oT;split
 exact h.kp
 split
 unfold ai.lq;split
 exact h.kp.sm ⟨rfl,rfl,rfl,rfl⟩
 exact h.kp
 exact h.kp
 unfold ai.qb;split
 exact h.kp.fp
 exact h.kp
theorem oe.iQ (h:oe L n) (hx:lA L) (h0:0≤L.aF.index) {m:az} (nS:0≤m.index):Kp L (n.iQ m):=by
 by_cases hd:n.nK m
 rw[tQ hd];exact h.kp
 by_cases h1:m.ao=1
 rw[EU hd h1];exact h.kp.sm ⟨rfl,rfl,rfl,rfl⟩
 by_cases h2:m.ao=2
 rw[EV hd h2]
 unfold ai.kW;split
 exact h.kp.sm ⟨rfl,rfl,rfl,rfl⟩
 split
 exact h.kp.jS fun q hq=>hq.fp
 exact h.kp
 by_cases h3:m.ao<3∨9<m.ao
 rw[EW hd h1 h2 h3];exact h.kp
 have hr:oe L (n.gC m):=by unfold ai.gC;split<;>exact h.sm ⟨rfl,rfl,rfl,rfl⟩
 by_cases h4:m.ab<(n.gC m).s.af.ab
 rw[CC hd h1 h2 h3 h4]
 unfold ai.j6;split
 exact hr.kp.sm ⟨rfl,rfl,rfl,rfl⟩
 split
 exact hr.kp.sm ⟨rfl,rfl,rfl,rfl⟩
 exact hr.kp
 rw[CE hd h1 h2 h3 h4];exact hr.dW hx h0 nS
theorem aj5 {r:aU} {x:ez} (hx:lA r.ah) (h0:0≤r.ah.aF.index) (nS:0≤x.cr.index):qa r.ah (bI r x).2.1 (bI r x).1.ah.aF=(bI r x).1.ah:=by
 have h:oe r.ah (dA r):=⟨rfl,rfl,rfl,rfl⟩
 by_cases he:((dA r).fz x).2≠0
 rw[uf he];exact h.kp
 rw[sQ he]
 have:Kp r.ah ((dA r).fz x).1:=by
  unfold ai.fz
  split
  exact h.kp.tick _
  split
  exact h.iQ hx h0 nS
  split
  exact h.kp.gd x
  exact h.kp
 exact this
theorem aj8 {r:aU} {x:ez}:(if (bI r x).2.1.Ae=true then (bI r x).1.af else r.af)=(bI r x).1.af:=by
 by_cases he:((dA r).fz x).2≠0
 rw[uf he];simp
 rw[sQ he]
 show (if decide (((dA r).fz x).1.s.af≠r.af)=true then ((dA r).fz x).1.s.af else r.af)=_
 by_cases hh:((dA r).fz x).1.s.af=r.af
 rw[if_neg (by simpa using hh)];exact hh.symm
 rw[if_pos (by simpa using hh)]
end
end Go.Lw.dF
namespace Go.Lw.dF
def np (m:az):Prop:=3≤m.ao∨m.bT=true
structure Tq (B M i:Int) (n:ai):Prop where
 id:n.s.id=i
 ab:n.s.af.ab≤B
 le:B≤M
 aG:∀ m∈n.o.aG,m.am=i∧m.ao≠1∧m.ao≠3∧(np m→m.ab≤M)
structure Tv (M i:Int) (n:ai):Prop where
 id:n.s.id=i
 ab:n.s.af.ab≤M
 aG:∀ m∈n.o.aG,m.am=i∧(m.ao=1∨m.ao=3→i∈n.av)∧(np m→m.ab≤M)
section
variable {B M i:Int} {n n':ai}
theorem Tq.tv (h:Tq B M i n):Tv M i n:=⟨h.id,Int.le_trans h.ab h.le,fun m hm=>⟨(h.aG m hm).1,fun z=>by rcases z with z | z;exact absurd z (h.aG m hm).2.1;exact absurd z (h.aG m hm).2.2.1,(h.aG m hm).2.2.2⟩⟩
theorem Tq.of (h:Tq B M i n) (e1:n'.s.id=n.s.id) (e2:n'.s.af.ab=n.s.af.ab) (e3:n'.o.aG=n.o.aG):Tq B M i n':=⟨e1.trans h.id,by rw[e2];exact h.ab,h.le,by rw[e3];exact h.aG⟩
theorem Tq.send (h:Tq B M i n) {m:az} (h1:m.am=i) (h2:m.ao≠1∧m.ao≠3) (h3:np m→m.ab≤M):Tq B M i (n.send m):=⟨h.id,h.ab,h.le,fun x hx=>by
 rcases List.mem_append.1 hx with hx | hx
 exact h.aG x hx
 rw[List.mem_singleton.1 hx];exact⟨h1,h2.1,h2.2,h3⟩⟩
theorem Tq.post (h:Tq B M i n) {m:az} (h0:m.ab=0) (h2:m.ao≠1∧m.ao≠3):Tq B M i (n.post m):=h.send h.id h2 fun _=>by
 show (if m.ab=0 then n.s.af.ab else m.ab)≤_
 rw[if_pos h0];exact Int.le_trans h.ab h.le
theorem Tq.follow (h:Tq B M i n) {t l:Int} (ht:t≤B):Tq B M i (n.follow t l):=⟨h.id,by
 unfold ai.follow
 by_cases hc:n.s.af.ab<t
 simp only[if_pos hc];exact ht
 simp only[if_neg hc];exact h.ab,h.le,h.aG⟩
theorem Tq.calm (h:Tq B M i n) (f:Int):Tq B M i (n.calm f):=(h.follow (t:=n.s.af.ab) (l:=f) h.ab).of rfl rfl rfl
theorem Tq.lq (h:Tq B M i n) (to am:Int):Tq B M i (n.lq to am):=by
 unfold ai.lq
 split
 rename_i hz
 have e:(mW n.s.ah.aF am).1.ab=0∧(mW n.s.ah.aF am).1.ao=7:=by
  unfold mW at hz ⊢
  split
  rename_i hc;rw[if_pos hc] at hz;cases hz
  exact⟨rfl,rfl⟩
 exact h.post e.1 ⟨by show (mW n.s.ah.aF am).1.ao≠1;rw[e.2];decide,by show (mW n.s.ah.aF am).1.ao≠3;rw[e.2];decide⟩
 exact h
theorem Tq.fA (h:Tq B M i n) (p:cK):Tq B M i (n.fA p):=by
 unfold ai.fA
 split
 exact h.lq _ _
 exact h.post rfl ⟨by show (5:Int)≠1;decide,by show (5:Int)≠3;decide⟩
theorem Tq.mF (l:List cK):∀ {n:ai},Tq B M i n→Tq B M i (n.mF l):=by
 induction l with
 | nil=>exact fun h=>h
 | cons p l ih=>exact fun h=>ih (h.fA p)
theorem Tq.gD (h:Tq B M i n):Tq B M i n.gD:=h.mF _
theorem Tq.count (h:Tq B M i n):Tq B M i n.count:=by
 by_cases hs:n.b_≤n.s.af.aB∨(cE n.s.ah n.b_).1≠n.s.af.ab
 rw[yY hs];exact h
 rw[yX hs]
 have hw:Tq B M i (n.lz n.b_):=h.of rfl rfl rfl
 split
 exact hw.follow h.ab
 exact hw
theorem Tq.put (h:Tq B M i n) (e:aA):Tq B M i (n.put e):=by
 rw[K4]
 refine Tq.gD (Tq.count ?_)
 have hp:Tq B M i (n.fE { e with index:=bF n.aZ,ab:=n.s.af.ab }):=h.of rfl rfl rfl
 split
 exact hp.of rfl rfl rfl
 exact hp
theorem Tq.cI (h:Tq B M i n):Tq B M i n.cI:=by
 obtain⟨m,hm⟩:∃ m:ai,m=ai.cx { n with s:={ n.s with aO:=4,gq:=n.s.id,cB:=[],bi:=0,fQ:=0,eW:=0,aK:=[] } } (bF n.aZ):=⟨_,rfl⟩
 have hk:Tq B M i m:=h.of (by rw[hm];rfl) (by rw[hm];rfl) (by rw[hm];rfl)
 have e:n.cI=m.put ⟨0,0,1,[],⟨[],[]⟩⟩:=by rw[hm];rfl
 rw[e]
 exact hk.put _
theorem Tv.l8 {n:ai} (gK:n.s.id=i) (ht:n.s.af.ab≤M) (hm:∀ m∈n.o.aG,m.am=i∧m.ao≠1∧m.ao≠3∧(np m→m.ab≤M)) (hv:i∈n.av) {k t:Int} (hk:k=1∨(k=3∧t≤M)):Tv M i (n.l8 k t):=⟨gK,ht,fun m h=>by
 rcases List.mem_append.1 h with h | h
 exact⟨(hm m h).1,fun _=>hv,(hm m h).2.2.2⟩
 obtain⟨to,-,rfl⟩:=List.mem_map.1 h
 refine⟨gK,fun _=>hv,fun z=>?_⟩
 rcases hk with rfl | ⟨-,h2⟩
 rcases z with z | z
 exact absurd (show (3:Int)≤1 from z) (by decide)
 cases z
 exact h2⟩
theorem Tq.fp (h:Tq B (B+1) i n) (hv:n.jz=true) (h0:0≤n.s.af.ab) (hB:B<4611686018427387904):Tv (B+1) i n.fp:=by
 have hu:bF n.s.af.ab=n.s.af.ab+1:=qg h0 (by have:=h.ab;omega)
 obtain⟨m,hm⟩:∃ m:ai,m=ai.dM { n with s:={ n.s with af:={ n.s.af with ab:=bF n.s.af.ab,aT:=n.s.id } } } 3:=⟨_,rfl⟩
 have nk:m.s.af.ab=n.s.af.ab+1:=by rw[hm];exact hu
 have si:m.s.id=i:=by rw[hm];exact h.id
 have jL:m.o.aG=n.o.aG:=by rw[hm];rfl
 have Et:i∈m.av:=by
  have:=of_decide_eq_true hv
  rw[h.id] at this
  rw[hm];exact this
 have ht:=h.ab
 have e:n.fp=if m.gM=1 then m.cI else m.l8 3 m.s.af.ab:=by rw[hm];rfl
 rw[e]
 split
 exact (Tq.cI (B:=B+1) ⟨si,by omega,Int.le_refl _,by rw[jL];exact h.aG⟩).tv
 exact Tv.l8 si (by omega) (by rw[jL];exact h.aG) Et (.inr ⟨rfl,by omega⟩)
theorem Tq.eD (h:Tq B (B+1) i n) (hv:n.jz=true) (h0:0≤n.s.af.ab) (hB:B<4611686018427387904):Tv (B+1) i n.eD:=by
 have h2:Tq B (B+1) i (n.dM 2):=h.of rfl rfl rfl
 have e:n.eD=if (n.dM 2).gM=1 then (n.dM 2).fp else (n.dM 2).l8 1 (bF (n.dM 2).s.af.ab):=rfl
 rw[e]
 split
 exact h2.fp hv h0 hB
 exact Tv.l8 h2.id (Int.le_trans h2.ab h2.le) h2.aG (by have:=of_decide_eq_true hv;rw[h.id] at this;exact this) (.inl rfl)
theorem Tq.tick (h:Tq B (B+1) i n) (h0:0≤n.s.af.ab) (hB:B<4611686018427387904) (t:Int):Tv (B+1) i (n.tick t):=by
 obtain⟨e,he⟩:∃ e,e=min (jT n.s.bi) (max n.s.bi 1073741824):=⟨_,rfl⟩
 have hw:Tq B (B+1) i (n.dN e):=h.of rfl rfl rfl
 by_cases hr:n.s.aO≠4
 by_cases hv:max t 1≤e∧n.jz=true
 rw[ai.CY e he hr hv];exact hw.eD hv.2 h0 hB
 rw[ai.CZ e he hr hv];exact hw.tv
 obtain⟨b,hb⟩:∃ b,b=if max t 1≤e then ((n.dN e).dN 0).mC 0 else n.dN e:=⟨_,rfl⟩
 have hs:Tq B (B+1) i b:=by
  rw[hb];split
  exact hw.of rfl rfl rfl
  exact hw
 rw[ai.yA e he hr b hb]
 split
 exact (Tq.gD (n:=(b.kD (jT b.s.fQ)).kD 0) (hs.of rfl rfl rfl)).tv
 exact (show Tq B (B+1) i (b.kD (jT b.s.fQ)) from hs.of rfl rfl rfl).tv
theorem Tq.eW (h:Tq B M i n) (to:Int):Tq B M i (n.nt to).1:=by
 have hw:Tq B M i ⟨{ n.s with eW:=to,bi:=0 },n.o⟩:=h.of rfl rfl rfl
 unfold ai.nt
 split
 exact h
 split
 exact h
 dsimp only
 split
 exact hw.post rfl ⟨by show (9:Int)≠1;decide,by show (9:Int)≠3;decide⟩
 exact hw.fA _
theorem Tq.gd (h:Tq B M i n) (x:ez):Tq B M i (n.gd x).1:=by
 have hw:Tq B M i ⟨n.s,{ n.o with index:=bF n.aZ,ab:=n.s.af.ab }⟩:=h.of rfl rfl rfl
 unfold ai.gd
 split
 exact h
 split
 exact h
 split
 exact h.eW _
 dsimp only
 split
 split
 exact h
 exact hw.put _
 exact hw.put _
theorem Tq.jS (h:Tq B (B+1) i n) {m:az} {nB:ai→ai} (hw:Tq B (B+1) i (n.jm m.am (!m.bT))→Tv (B+1) i (nB (n.jm m.am (!m.bT)))):Tv (B+1) i (n.jS m nB):=by
 have hb:Tq B (B+1) i (n.jm m.am (!m.bT)):=h.of rfl rfl rfl
 unfold ai.jS
 dsimp only
 split
 exact hw hb
 split
 exact (hb.follow hb.ab).tv
 exact hb.tv
theorem Tq.kM (h:Tq B M i n) (m:az):Tq B M i (n.kM m):=by
 by_cases bW:n.s.aO≠4∨n.gu m.am=none∨n.aZ<m.index
 rw[y8 bW];exact h
 have h0:n.s.aO=4:=Classical.byContradiction fun z=>bW (.inl z)
 have h2:¬ n.aZ<m.index:=fun z=>bW (.inr (.inr z))
 obtain⟨q,hq⟩:∃ q,n.gu m.am=some q:=by
  cases hp:n.gu m.am with
  | none=>exact absurd (.inr (.inl hp)) bW
  | some q=>exact⟨q,rfl⟩
 obtain⟨k,eG⟩:=H7 hq
 by_cases h3:m.bT=true
 rw[y9 h0 hq h2 h3 eG _ rfl]
 exact Tq.fA (n:=n.db k { q with next:=max (if m.hint<m.index then m.hint+1 else max m.index 1) (bF q.cA) }) (h.of rfl rfl rfl) _
 rw[AY h0 hq h2 h3 eG]
 have Hz:Tq B M i (n.db k (q.up m.index)):=h.of rfl rfl rfl
 have hu:=Hz.count
 split
 exact hu
 generalize (n.db k (q.up m.index)).count=b at hu
 have nj:Tq B M i (ai.fO (n.db k (q.up m.index)) b (q.up m.index)):=by
  unfold ai.fO
  split
  exact hu.gD
  split
  exact hu.fA _
  exact hu
 have e:ai.after (n.db k (q.up m.index)) b (q.up m.index) m.am=if (n.db k (q.up m.index)).s.eW=m.am∧(q.up m.index).cA=(ai.fO (n.db k (q.up m.index)) b (q.up m.index)).aZ then (ai.fO (n.db k (q.up m.index)) b (q.up m.index)).post { az.zero with ao:=9,to:=m.am } else ai.fO (n.db k (q.up m.index)) b (q.up m.index):=rfl
 rw[e]
 split
 exact nj.post rfl ⟨by show (9:Int)≠1;decide,by show (9:Int)≠3;decide⟩
 exact nj
theorem Fg:(6:Int)≠1∧(6:Int)≠3:=⟨by decide,by decide⟩
theorem Tq.grow (h:Tq B M i n) (m:az):Tq B M i (n.grow m):=by
 by_cases hr:n.s.aO=4
 unfold ai.grow;rw[if_pos hr];exact h
 have hf:=h.calm m.am
 by_cases h1:m.index<(n.calm m.am).s.af.aB
 rw[AW hr h1];exact hf.post rfl Fg
 obtain⟨M',hM⟩:∃ M,M=fb (n.calm m.am).s.ah (n.calm m.am).s.af.aB m.index m.cn m.entries:=⟨_,rfl⟩
 by_cases h2:M'.gH=1∨M'.gH=62∨m.entries.any (ai.l_ (n.calm m.am).s.af.ab)=true
 rw[uC hr h1 hM.symm h2];exact hf
 by_cases h3:M'.gH=61
 rw[y6 hr h1 hM.symm h2 h3];exact hf.post rfl Fg
 rw[y7 hr h1 hM.symm h2 h3]
 exact Tq.post (n:=((((n.calm m.am).C_ M'.ah).xf M'.cut).Db M'.came).lz (max (n.calm m.am).s.af.aB (min m.aB (m.index+m.entries.length)))) (hf.of rfl rfl rfl) rfl Fg
theorem Tq.lR (h:Tq B M i n) (m:az):Tq B M i (n.lR m):=by
 by_cases hr:n.s.aO=4∨eg m.aJ≠0∨n.s.af.ab<m.cn
 rw[yW hr];exact h
 have hf:=h.calm m.am
 by_cases h1:m.index≤(n.calm m.am).s.af.aB
 rw[AE hr h1];exact hf.post rfl Fg
 obtain⟨T,hT⟩:∃ T,T=mb (n.calm m.am).s.part m:=⟨_,rfl⟩
 by_cases h2:T.2=false
 rw[AF hr h1 hT.symm h2]
 exact Tq.post (n:=(n.calm m.am).LL T.1) (hf.of rfl rfl rfl) rfl ⟨by show (8:Int)≠1;decide,by show (8:Int)≠3;decide⟩
 rw[yV hr h1 hT.symm h2]
 refine Tq.post ?_ rfl Fg
 generalize n.calm m.am=q at hf
 refine hf.of ?_ ?_ (Qv _)
 unfold ai.dY;dsimp only;split<;>rfl
 unfold ai.dY;dsimp only;split<;>rfl
theorem Tq.dW (h:Tq B (B+1) i n) (h0:0≤n.s.af.ab) (hB:B<4611686018427387904) (m:az):Tv (B+1) i (n.dW m):=by
 unfold ai.dW
 split
 unfold ai.aT;dsimp only
 split
 exact (Tq.post (n:=⟨{ n.s with af:={ n.s.af with aT:=m.am },bi:=0 },n.o⟩) (h.of rfl rfl rfl) rfl ⟨by show (4:Int)≠1;decide,by show (4:Int)≠3;decide⟩).tv
 exact (h.post rfl ⟨by show (4:Int)≠1;decide,by show (4:Int)≠3;decide⟩).tv
 split
 unfold ai.lK;split
 exact h.jS fun hq=>hq.cI.tv
 exact h.tv
 split
 exact (h.grow m).tv
 split
 exact (h.kM m).tv
 split
 exact (h.lR m).tv
 split
 unfold ai.oT;split
 exact h.tv
 split
 exact (h.lq _ _).tv
 exact h.tv
 unfold ai.qb;split
 rename_i hv;exact h.fp hv.2 h0 hB
 exact h.tv
theorem Tq.iQ (h:Tq B (B+1) i n) (h0:0≤n.s.af.ab) (hB:B<4611686018427387904) {m:az} (hm:np m→m.ab≤B) (hp:n.s.aO=2→n.jz=true):Tv (B+1) i (n.iQ m):=by
 by_cases hd:n.nK m
 rw[tQ hd];exact h.tv
 by_cases h1:m.ao=1
 rw[EU hd h1]
 refine (h.send (m:={ az.zero with ao:=2,am:=n.s.id,to:=m.am,ab:=_,bT:=_ }) h.id ⟨by show (2:Int)≠1;decide,by show (2:Int)≠3;decide⟩ fun z=>?_).tv
 rcases z with z | z
 exact absurd (show (3:Int)≤2 from z) (by decide)
 have z:(!(decide (n.s.aO≠4∧(n.s.gq=0∨4≤n.s.bi)) && decide (n.s.af.ab<m.ab) && mz n.s.ah m.index m.cn))=true:=z
 show (if (decide (n.s.aO≠4∧(n.s.gq=0∨4≤n.s.bi)) && decide (n.s.af.ab<m.ab) && mz n.s.ah m.index m.cn)=true then m.ab else n.s.af.ab)≤B+1
 rw[Bool.not_eq_true'] at z
 rw[z]
 have:=h.ab
 simp only[Bool.false_eq_true,if_false];omega
 by_cases h2:m.ao=2
 rw[EV hd h2]
 unfold ai.kW;split
 rename_i hr;exact (h.follow (hm (.inr hr.1))).tv
 split
 rename_i hr;exact h.jS fun hq=>hq.fp (hp hr.1) h0 hB
 exact h.tv
 by_cases h3:m.ao<3∨9<m.ao
 rw[EW hd h1 h2 h3];exact h.tv
 have nk:m.ab≤B:=hm (.inl (by omega))
 have hr:Tq B (B+1) i (n.gC m)∧0≤(n.gC m).s.af.ab:=by
  unfold ai.gC;split
  rename_i be
  have e:(n.follow m.ab 0).s.af.ab=m.ab:=by unfold ai.follow;simp only[if_pos be]
  exact⟨h.follow nk,by rw[e];omega⟩
  exact⟨h,h0⟩
 by_cases h4:m.ab<(n.gC m).s.af.ab
 rw[CC hd h1 h2 h3 h4]
 unfold ai.j6;split
 exact (hr.1.post rfl ⟨by show (4:Int)≠1;decide,by show (4:Int)≠3;decide⟩).tv
 split
 exact (hr.1.post rfl Fg).tv
 exact hr.1.tv
 rw[CE hd h1 h2 h3 h4];exact hr.1.dW hr.2 hB m
theorem aj9 {r:aU} {x:ez} (gK:r.id=i) (ht:r.af.ab≤B) (h0:0≤r.af.ab) (hB:B<4611686018427387904) (hm:x.ao=2→np x.cr→x.cr.ab≤B) (hp:r.aO=2→i∈(ce r.ah).1.av) :
  (bI r x).1.id=i∧(bI r x).1.af.ab≤B+1∧∀ m∈(bI r x).2.1.aG,m.am=i∧(m.ao=1∨m.ao=3→i∈(ce (bI r x).1.ah).1.av)∧(np m→m.ab≤B+1):=by
 have h:Tq B (B+1) i (dA r):=⟨gK,ht,by omega,fun m hm=>by cases hm⟩
 by_cases he:((dA r).fz x).2≠0
 rw[uf he];exact⟨gK,by show r.af.ab≤B+1;omega,fun m hm=>by cases hm⟩
 rw[sQ he]
 have hv:Tv (B+1) i ((dA r).fz x).1:=by
  unfold ai.fz
  split
  exact h.tick h0 hB _
  split
  rename_i hk;exact h.iQ h0 hB (hm hk) fun z=>by
   have:=hp z
   show decide (r.id∈(ce r.ah).1.av)=true
   rw[gK];exact decide_eq_true this
  split
  exact (h.gd x).tv
  exact h.tv
 exact⟨hv.id,hv.ab,hv.aG⟩
end
end Go.Lw.dF
namespace Go.Lw.dF
structure Wd where
 s:List aU
 cR:List jl
 aM:List az
 cI:List Int
 ab:List Int
 told:List aA
 nn:List aA
structure qR (c0:aY) (g:G) (c:Nat) (i:Int) (r:aU):Prop where
 cY:iG c0 g i r
 Af:fP c r
 gw:Lw.cp (200+203*c) r
 ug:r.af.ab≤1+c
structure gP (n:Nat) (c0:aY) (g:G) (c:Nat) (w:Wd):Prop where
 len:w.s.length=n
 tM:w.cR.length=n
 YI:n≤7
 cY:ia c0 g
 node:∀ (i:Nat) (r:aU),w.s[i]?=some r→qR c0 g c (i+1) r
 cR:∀ (i:Nat) (r:aU) (v:jl),w.s[i]?=some r→w.cR[i]?=some v→v=⟨r.af,r.ah,false⟩
 aM:∀ m∈w.aM,dG c0 g m∧(np m→m.ab≤1+c)
 Tc:w.aM.length≤400
 vv:w.cI.length=w.ab.length∧∀ (k:Nat) (t b:Int),w.ab[k]?=some t→w.cI[k]?=some b→g.aI t≠[]∧g.ii t=b
 told:∀ x∈w.told,∃ t k n,g.ev t k n∧x∈(g.aI t).take k
 nn:∀ x∈w.nn,x.data.length≤100
 size:∀ t,(g.aI t).length≤c
section
variable {n c:Nat} {c0:aY} {g:G} {w:Wd}
theorem qR.acO {i:Int} {r:aU} (h:iG c0 g i r) {L:Nat} (hs:∀ t,(g.aI t).length≤L):(g.full i).length≤L:=by
 cases hz:(g.full i).getLast? with
 | none=>rw[List.getLast?_eq_none_iff.1 hz];exact Nat.zero_le _
 | some y=>exact Nat.le_trans (h.j9.aZ hz).length_le (hs _)
theorem qR.W7 {i:Int} {r:aU} (h:iG c0 g i r) {L:Nat} (hs:∀ t,(g.aI t).length≤L):(bX r.ah).1≤1+L:=by
 have hf:=qR.acO h hs
 rcases h.ah with ⟨h1,-⟩ | ⟨b,κ,h1,-⟩
 rw[h1.aZ];simp only;omega
 rw[h1.aZ h.cW];simp only;omega
theorem qR.bd {i:Int} {r:aU} (h:qR c0 g c i r) (hs:∀ t,(g.aI t).length≤c) (hc:c≤2000000):Bd r:=⟨h.Af.t0,by have:=h.ug;omega,by have:=qR.W7 h.cY hs;omega⟩
theorem gP.sub (h:gP n c0 g c w) {b:List az} (hb:∀ m∈b,m∈w.aM) (hl:b.length≤400):gP n c0 g c { w with aM:=b }:={ h with aM:=fun m hm=>h.aM m (hb m hm),Tc:=hl }
theorem qR.mono {i:Int} {r:aU} {d:Nat} (h:qR c0 g c i r) (hd:c≤d):qR c0 g d i r:=⟨h.cY,h.Af.mono hd,h.gw.mono (by omega),by have:=h.ug;omega⟩
theorem gP.mono {d:Nat} (h:gP n c0 g c w) (hd:c≤d):gP n c0 g d w :=
 { h with node:=fun i r hi=>(h.node i r hi).mono hd,aM:=fun m hm=>⟨(h.aM m hm).1,fun z=>by have:=(h.aM m hm).2 z;omega⟩,size:=fun t=>Nat.le_trans (h.size t) hd }
theorem gP.step (h:gP n c0 g c w) {i:Nat} {r:aU} {x:ez} (hi:w.s[i]?=some r) (hx:x.ao=2→dG c0 g x.cr∧(np x.cr→x.cr.ab≤1+c)) (hd:x.data.length≤100) (lk:vQ 200 x) (hc:c≤1000000) {b:List az} (hb:∀ m∈b,m∈w.aM∨m∈(bI r x).2.1.aG) (io:b.length≤400) :
  ∃ g',(∀ j t,g.aT j t≠0→g'.aT j t=g.aT j t)∧(∀ m∈(bI r x).2.1.aG,dG c0 g' m∧m.am=i+1∧(m.ao=1∨m.ao=3→(i:Int)+1∈(ce (bI r x).1.ah).1.av)) ∧
   gP n c0 g' (c+1) { w with s:=w.s.set i (bI r x).1,cR:=w.cR.set i ⟨(bI r x).1.af,(bI r x).1.ah,false⟩,aM:=b }:=by
 have hn:=h.node i r hi
 obtain⟨g',hG,hI,hN,hM⟩:=aj7 h.cY hn.cY (hn.bd h.size (by omega)) (fun z=>(hx z).1) hd
 have fK:i<w.s.length:=gI hi
 have ph:r.aO=2→(i:Int)+1∈(ce r.ah).1.av:=fun z=>by
  obtain⟨b,D4⟩:=hn.cY.real (by rw[z];decide)
  rw[D4.xr];exact hn.cY.pre z
 obtain⟨t1,t2,t3⟩:=aj9 (i:=(i:Int)+1) (B:=1+c) hn.cY.id hn.ug hn.Af.t0 (by omega) (fun z=>(hx z).2) ph
 have GR:=ac7 hn.Af hn.gw lk.cr.ab (by omega) (by omega)
 have uV:=M3 hn.gw lk (by omega)
 have p5:qR c0 g' (c+1) (i+1) (bI r x).1:=⟨hN,GR.1,uV.mono (by omega),by omega⟩
 refine⟨g',hG.aT,fun m hm=>⟨hM m hm,(t3 m hm).1,(t3 m hm).2.1⟩,⟨by simp only[List.length_set];exact h.len,by simp only[List.length_set];exact h.tM,h.YI,hI,fun j q hj=>?_,fun j q v hj hv=>?_,fun m hm=>?_,io,⟨h.vv.1,fun k t b h1 h2=>?_⟩,fun y hy=>?_,h.nn,fun t=>hG.size c h.size t⟩⟩
 simp only[List.getElem?_set] at hj
 by_cases iE:i=j
 subst iE
 simp only[if_true,if_pos fK,Option.some.injEq] at hj
 subst hj;exact p5
 rw[if_neg iE] at hj
 have hq:=(h.node j q hj).mono (Nat.le_add_right c 1)
 exact⟨hq.cY.eV h.cY hG (by omega),hq.Af,hq.gw,hq.ug⟩
 simp only[List.getElem?_set] at hj hv
 by_cases iE:i=j
 subst iE
 have cv:i<w.cR.length:=by rw[h.tM,← h.len];exact fK
 simp only[if_true,if_pos fK,if_pos cv,Option.some.injEq] at hj hv
 subst hj hv;rfl
 rw[if_neg iE] at hj hv
 exact h.cR j q v hj hv
 rcases hb m hm with hm | hm
 obtain⟨a1,a2⟩:=h.aM m hm
 exact⟨a1.xx h.cY hG,fun z=>by have:=a2 z;omega⟩
 exact⟨hM m hm,fun z=>by have:=(t3 m hm).2.2 z;omega⟩
 obtain⟨a1,a2⟩:=h.vv.2 k t b h1 h2
 exact⟨hG.some a1,(hG.ii t a1).trans a2⟩
 obtain⟨t,k,m,a1,a2⟩:=h.told y hy
 exact⟨t,k,m,hG.ev _ _ _ a1,by rw[hG.take (h.cY.TZ a1)];exact a2⟩
theorem fF {l:List aU} {i:Nat} {r q:aU} {j:Nat} {z:aU} (hi:l[i]?=some r) (hj:(l.set i q)[j]?=some z):(i=j∧z=q)∨(i≠j∧l[j]?=some z):=by
 rw[List.getElem?_set] at hj
 by_cases iE:i=j
 subst iE
 rw[if_pos rfl,if_pos (gI hi)] at hj
 exact .inl ⟨rfl,(Option.some.inj hj).symm⟩
 rw[if_neg iE] at hj;exact .inr ⟨iE,hj⟩
theorem abW (hI:ia c0 g) {x y:aA} {t u:Int} {k m k' m':Nat} (h1:g.ev t k m) (h2:g.ev u k' m') (hx:x∈(g.aI t).take k) (hy:y∈(g.aI u).take k') (he:x.index=y.index):x=y:=by
 obtain⟨p,hp,rfl⟩:=List.getElem_of_mem hx
 obtain⟨q,hq,rfl⟩:=List.getElem_of_mem hy
 have HO:=List.getElem?_eq_getElem hp
 have Kw:=List.getElem?_eq_getElem hq
 have e1:=hI.cW t p _ (rF HO).1
 have e2:=hI.cW u q _ (rF Kw).1
 have hpq:p=q:=by omega
 subst hpq
 rcases hI.right.aa3 QE h1 h2 with h | h
 have:=j8 h HO
 rw[Kw] at this;exact (Option.some.inj this).symm
 have:=j8 h Kw
 rw[HO] at this;exact Option.some.inj this
theorem aix {i:Int} {r:aU} (h:iG c0 g i r) {x:aA} (hx:x∈r.ah.entries) (cg:x.index≤r.af.aB):∃ t k m,g.ev t k m∧x∈(g.aI t).take k:=by
 rcases h.ah with ⟨h1,-⟩ | ⟨b,κ,h1,h2,h3,h4,h5,-⟩
 rw[h1.2.2.2] at hx;cases hx
 obtain⟨q,hq,rfl⟩:=List.getElem_of_mem hx
 have hF:=h1.get.1 (List.getElem?_eq_getElem hq)
 have eG:=h.cW _ _ hF
 have cq:(g.full i).take κ≠[]:=fun hz=>by
  have:=jZ hF (show b+q<κ by omega)
  rw[hz] at this;cases this
 rcases h5 with h5 | ⟨t,k,m,a1,-,a3⟩
 exact absurd h5 cq
 exact⟨t,k,m,a1,List.mem_of_getElem? (j8 a3 (jZ hF (by omega)))⟩
theorem gP.Lv (h:gP n c0 g c w) {i:Nat} {r:aU} (hi:w.s[i]?=some r) {x:aA} (hx:x∈r.ah.entries) (cg:x.index≤r.af.aB):(∀ y∈w.told,y.index=x.index→y=x)∧gP n c0 g c { w with told:=w.told++[x] }:=by
 obtain⟨t,k,m,a1,a2⟩:=aix (h.node i r hi).cY hx cg
 refine⟨fun y hy he=>?_,{ h with told:=fun y hy=>?_ }⟩
 obtain⟨u,k',m',b1,b2⟩:=h.told y hy
 exact abW h.cY b1 a1 b2 a2 he
 rcases List.mem_append.1 hy with hy | hy
 exact h.told y hy
 rw[List.mem_singleton.1 hy];exact⟨t,k,m,a1,a2⟩
theorem gP.leads (h:gP n c0 g c w) {i:Nat} {r:aU} (hi:w.s[i]?=some r) (hr:r.aO=4):(∀ (k:Nat) (t b:Int),w.ab[k]?=some t→w.cI[k]?=some b→t=r.af.ab→b=r.id)∧gP n c0 g c { w with cI:=w.cI++[r.id],ab:=w.ab++[r.af.ab] }:=by
 have hn:=(h.node i r hi).cY
 obtain⟨l1,l2,l3,-⟩:=hn.cI hr
 have bH:g.aI r.af.ab≠[]:=by rw[l2];exact l3
 refine⟨fun k t b h1 h2 ht=>?_,{ h with vv:=⟨by simp only[List.length_append,List.length_singleton];have:=h.vv.1;omega,fun k t b h1 h2=>?_⟩ }⟩
 have:=(h.vv.2 k t b h1 h2).2
 rw[ht,l1] at this
 rw[←this,hn.id]
 by_cases hk:k<w.ab.length
 rw[List.getElem?_append_left hk] at h1
 rw[List.getElem?_append_left (by have:=h.vv.1;omega)] at h2
 exact h.vv.2 k t b h1 h2
 have mo:=gI h1
 simp only[List.length_append,List.length_singleton] at mo
 have O7:k=w.ab.length:=by omega
 subst O7
 rw[List.getElem?_append_right (Nat.le_refl _)] at h1
 rw[List.getElem?_append_right (by rw[h.vv.1];exact Nat.le_refl _),h.vv.1] at h2
 simp at h1 h2
 subst h1 h2
 exact⟨bH,l1.trans hn.id.symm⟩
end
end Go.Lw.dF
namespace Go.Lw.dF
section
variable {n c:Nat} {c0:aY} {g:G} {w:Wd}
theorem gv.ajG {F:List aA} {L:br} {b:Nat} (h:gv c0 F L b) (hi:pH F) {x:Int} (hx:(ue L x).2=true):∃ k:Nat,x=1+k∧b≤k∧k≤F.length∧(ue L x).1=fy F k:=by
 unfold ue at hx ⊢
 split at hx
 rename_i he
 rw[if_pos he]
 exact⟨b,by have:=h.index;omega,Nat.le_refl _,h.le,h.ab⟩
 rename_i he
 rw[if_neg he]
 split at hx
 rename_i e hf
 obtain⟨q,hq,Kk⟩:=List.getElem_of_mem (List.mem_of_find?_eq_some hf)
 have hF:=h.get.1 (List.getElem?_eq_getElem hq)
 rw[Kk] at hF
 have hei:e.index=x:=of_decide_eq_true (List.find?_some (p:=fun e:aA=>decide (e.index=x)) hf)
 have eG:=hi _ _ hF
 refine⟨b+q+1,by omega,by omega,by have:=gI hF;omega,?_⟩
 show e.ab=fy F (b+q+1)
 unfold fy
 rw[if_neg (by omega),show b+q+1-1=b+q by omega,hF];rfl
 cases hx
theorem ahL (hI:ia c0 g) {i j:Int} {r q:aU} (hr:iG c0 g i r) (hq:iG c0 g j q) {p:Nat} {e:aA} (he:r.ah.entries[p]?=some e) (hs:ue q.ah e.index=(e.ab,true)) {p':Nat} (hp:p'≤p) {x y:aA} (hx:r.ah.entries[p']?=some x) (hy:y∈q.ah.entries) (WH:y.index=x.index):y=x:=by
 rcases hr.ah with ⟨h1,-⟩ | ⟨b,κ,h1,-⟩
 rw[h1.2.2.2] at he;cases he
 rcases hq.ah with ⟨k1,-⟩ | ⟨b',κ',k1,-⟩
 rw[k1.2.2.2] at hy;cases hy
 have OA:=h1.get.1 he
 have WC:=h1.get.1 hx
 obtain⟨k,a1,a2,a3,a4⟩:=k1.ajG hq.cW (x:=e.index) (by rw[hs])
 have hei:=hr.cW _ _ OA
 have vn:=hr.cW _ _ WC
 have hk:k=b+p+1:=by omega
 subst hk
 rw[hs] at a4
 have hm:=hI.KH hr.j9 hq.j9 (k:=b+p+1) (by have:=gI OA;omega) a3 (by
  rw[←a4]
  unfold fy
  rw[if_neg (by omega),show b+p+1-1=b+p by omega,OA];rfl)
 obtain⟨z,hz,vo⟩:=List.getElem_of_mem hy
 have EH:=k1.get.1 (List.getElem?_eq_getElem hz)
 rw[vo] at EH
 have hyi:=hq.cW _ _ EH
 have tF:b'+z=b+p':=by omega
 rw[tF] at EH
 have e1:=jZ WC (show b+p'<b+p+1 by omega)
 have e2:=jZ EH (show b+p'<b+p+1 by omega)
 rw[hm] at e1
 rw[e1] at e2
 exact (Option.some.inj e2).symm
def kj (c:aY):jl:=⟨⟨1,0,1⟩,⟨⟨1,1,c,[]⟩,[]⟩,false⟩
def kY:jl:=⟨⟨0,0,0⟩,⟨⟨0,0,⟨[],[]⟩,[]⟩,[]⟩,false⟩
def g0:G:={ aI:=fun _=>[],dv:=fun _ _=>0,ev:=fun _ _ _=>False,aT:=fun _ _=>0,yE:=fun _ _=>[],jn:=fun _ _=>[],ii:=fun _=>0,full:=fun _=>[] }
theorem acP (h:eg c0=0):ia c0 g0 :=
 ⟨h,fun _ e he=>(by cases he),⟨fun _ k e he=>(by cases he),fun _ _ _ _ _ _ ha=>(by cases ha),fun _ e he=>(by cases he),fun _ h=>absurd rfl h,fun _ _ _ _ h=>(by cases h),fun _ _ _ h=>h.elim,fun _ h=>absurd rfl h⟩,fun _ k e he=>(by cases he),fun _ _=>Nat.le_refl _,fun _ h=>absurd rfl h,fun _ h=>absurd rfl h,fun _ _ h=>absurd rfl h⟩
theorem YU {i:Int} (h1:1≤i) (h7:i≤7) {v:jl} (hv:v=kj c0∨v=kY) (h0:eg c0=0):wQ i v.af v.ah v.eR=(jQ i v,0)∧qR c0 g0 0 i (jQ i v):=by
 have afE:tP c0=true:=by unfold tP;rw[h0];simp
 have hsv:=Ji h0
 refine⟨KP ?_,?_⟩
 rcases hv with rfl | rfl
 have hz:ce (kj c0).ah=(c0,0):=rfl
 simp only[mV,hz]
 simp[kj,wH,lI,fx,bX,eo,iv,afE]
 omega
 have hz:ce kY.ah=(⟨[],[]⟩,0):=rfl
 simp only[mV,hz]
 simp[kY,wH,lI,fx,bX,eo,iv,tP,Jb]
 omega
 have e:∀ v,jQ i v=⟨i,v.af,v.ah,1,0,[],[],0,0,0,⟨0,0,[]⟩⟩:=fun v=>rfl
 rcases hv with rfl | rfl
 rw[e]
 refine⟨⟨rfl,by omega,fun k e he=>(by cases he),fun k e he=>(by cases he),fun e he=>(by cases he),.inr ⟨0,0,⟨Nat.le_refl _,rfl,rfl,rfl,rfl⟩,rfl,Nat.le_refl _,Nat.le_refl _,.inl rfl,Int.le_refl _⟩,fun z=>absurd rfl z,fun z=>absurd (show (1:Int)=2 from z) (by decide),rfl,fun _ _=>rfl,fun t k h0 hk=>?_,fun z=>absurd (show (1:Int)=4 from z) (by decide),fun z=>absurd (show (1:Int)=3 from z) (by decide)⟩,⟨rfl,Int.le_refl _,Int.le_refl _,Int.le_refl _,Int.le_refl _,by show (1:Int)≤eo+((0:Nat):Int);simp only[eo];omega,by show (0:Int)≤0∧(0:Int)≤7;omega,by show (1:Int)≤1∧(1:Int)≤4;omega,⟨h1,h7⟩,fun _=>Int.le_refl _,by show (0:Int)≤1;omega⟩,?_,by show (1:Int)≤1+((0:Nat):Int);omega⟩
 have:k≤0:=hk
 omega
 exact⟨by simp only[aq];omega,by simp[aq,kj],by simp[aq,kj],by simp[aq,kj],⟨by simp[aq,kj],by simp[aq,kj],⟨by show c0.av.length≤_;omega,by show c0.aD.length≤_;omega⟩,Nat.zero_le _,fun e he=>(by cases he),Nat.zero_le _,by simp[kj,eo],fun k e he=>(by cases he)⟩,Nat.zero_le _,Nat.zero_le _,fun p hp=>(by cases hp),by simp[aq],by simp[aq],Nat.zero_le _⟩
 rw[e]
 refine⟨⟨rfl,by omega,fun k e he=>(by cases he),fun k e he=>(by cases he),fun e he=>(by cases he),.inl ⟨⟨rfl,rfl,rfl,rfl⟩,rfl,rfl⟩,fun z=>absurd rfl z,fun z=>absurd (show (1:Int)=2 from z) (by decide),rfl,fun _ _=>rfl,fun t k h0 hk=>?_,fun z=>absurd (show (1:Int)=4 from z) (by decide),fun z=>absurd (show (1:Int)=3 from z) (by decide)⟩,⟨rfl,Int.le_refl _,Int.le_refl _,Int.le_refl _,Int.le_refl _,by show (0:Int)≤eo+((0:Nat):Int);simp only[eo];omega,by show (0:Int)≤0∧(0:Int)≤7;omega,by show (1:Int)≤1∧(1:Int)≤4;omega,⟨h1,h7⟩,fun z=>absurd (show (3:Int)≤1 from z) (by decide),Int.le_refl _⟩,?_,by show (0:Int)≤1+((0:Nat):Int);omega⟩
 have:k≤0:=hk
 omega
 exact⟨by simp only[aq];omega,by simp[aq,kY],by simp[aq,kY],by simp[aq,kY],⟨by simp[aq,kY],by simp[aq,kY],⟨Nat.zero_le _,Nat.zero_le _⟩,Nat.zero_le _,fun e he=>(by cases he),Nat.zero_le _,by simp[kY,eo],fun k e he=>(by cases he)⟩,Nat.zero_le _,Nat.zero_le _,fun p hp=>(by cases hp),by simp[aq],by simp[aq],Nat.zero_le _⟩
end
end Go.Lw.dF
namespace Go.Lw
open Go.Proofs
attribute [local irreducible] RL RA
section
variable {w:World} {s r:aj} {os:List aj}
end
end Go.Lw
namespace Go.Lw
open Go.Proofs
attribute [local irreducible] RL RA
def n9:jl:=⟨⟨1,0,1⟩,⟨⟨1,1,⟨[1],[]⟩,[]⟩,[]⟩,false⟩
def vq:ez:=⟨1,1,az.zero,[],0,0,0⟩
def r0:aU:=jQ 1 n9
theorem aio:wQ 1 n9.af n9.ah n9.eR=(r0,0):=KP (by decide)
theorem RM (x:Int):cZ [x]=[x]:=by
 unfold cZ
 rw[show tR [x]=[x] from List.perm_singleton.1 (KJ [x])]
 rfl
theorem aky:cZ []=[]:=List.eq_nil_of_length_eq_zero (by have:=It [];simpa using this)
theorem Ag {n:ai} (h1:n.av=[1]) (h2:n.s.cB=[(1,true)]):n.gM=1:=by
 unfold ai.gM;rw[h1,h2,RM]
 decide
def e0:aA:=⟨2,2,1,[],⟨[],[]⟩⟩
def n0:ai:=⟨⟨1,⟨2,1,1⟩,⟨⟨1,1,⟨[1],[]⟩,[]⟩,[e0]⟩,4,1,[],[],0,0,0,⟨0,0,[]⟩⟩,{ bz.zero with entries:=[e0] }⟩
theorem rQ:n0.b_=2:=by
 refine ai.MC (.inr ⟨?_,?_⟩)
 rw[show n0.av=[1] from rfl,RM];simp
 rw[show n0.av=[1] from rfl,RM];exact⟨by decide,by decide,by decide⟩
theorem akj:cE n0.s.ah 2=(2,true):=by
 have hx:lA n0.s.ah:=fun k e hk=>by
  cases k with
  | zero=>cases hk;rfl
  | succ k=>simp[n0] at hk
 have hp:=hx.lG 2
 have Pz:eI n0.s.ah 2=0:=by
  have e1:n0.s.ah.aF.index=1:=rfl
  have e2:n0.s.ah.entries.length=1:=rfl
  rw[e1,e2] at hp;omega
 unfold cE
 rw[Pz]
 rfl
theorem ab7:n0.count=n0.lz 2:=by
 rw[yX (by rw[rQ,akj];decide),rQ]
 exact if_neg (by decide)
theorem SQ:(dA r0).fz vq=(n0.lz 2,0):=by
 have h1:(dA r0).fz vq=((dA r0).tick 1,0):=if_pos rfl
 have hv:(dA r0).jz=true:=by decide
 rw[h1,ai.CY 1 (by decide) (by decide) ⟨by decide,hv⟩]
 have h2:((dA r0).dN 1).eD=(((dA r0).dN 1).dM 2).fp:=if_pos (Ag rfl rfl)
 rw[h2]
 obtain⟨m,hm⟩:∃ m:ai,m=ai.dM { (((dA r0).dN 1).dM 2) with s:={ (((dA r0).dN 1).dM 2).s with af:=⟨2,1,1⟩ } } 3:=⟨_,rfl⟩
 have h3:(((dA r0).dN 1).dM 2).fp=m.cI:=by
  rw[hm];exact if_pos (Ag rfl rfl)
 rw[h3]
 have ho:oI (ce m.s.ah).1 m.s.id=[]:=by
  rw[hm]
  show cZ (dU 1 ([1]++[]))=[]
  rw[show dU 1 ([1]++[])=[] by decide,aky]
 have h4:m.cI=(n0.count).gD:=by
  unfold ai.cI
  have e1:ai.cx { m with s:={ m.s with aO:=4,gq:=m.s.id,cB:=[],bi:=0,fQ:=0,eW:=0,aK:=[] } } (bF m.aZ)={ m with s:={ m.s with aO:=4,gq:=m.s.id,cB:=[],bi:=0,fQ:=0,eW:=0,aK:=[] } }:=by
   unfold ai.cx
   simp only[ho,List.map_nil]
  rw[e1,hm]
  rfl
 rw[h4,ab7]
 rfl
def r1:aU:=⟨1,⟨2,1,2⟩,⟨⟨1,1,⟨[1],[]⟩,[]⟩,[e0]⟩,4,1,[],[],0,0,0,⟨0,0,[]⟩⟩
def o1:bz:=⟨0,[e0],true,false,[],0,0⟩
theorem aj4:bI r0 vq=(r1,o1,0):=by
 rw[sQ (by rw[SQ];decide),SQ]
 rfl
theorem WL (s:aj):ux s vq cG.none none 0 :=
 ⟨du.zero s,by simp[aq,vq],by simp[aq,vq],by simp[aq,vq],by simp[aq,vq],by simp[aq,vq],bm.nil _ _ _ (Nat.zero_le _)⟩
def tw (a:Option Addr) (c:Nat):Hd:=⟨a,c,none,0,none,0,none,0,none,0,none,0,none,0,none,0,none,0⟩
section
variable {w:World} {s:aj} {os:List aj}
theorem aac {a:Option Addr} {c:Nat} (hg:ak w s os) :
  Calls Tryz.prog 28 #[.slice a 1 c,.slice none 0 0] w (aQ w s os fun q=>q = .agg (uj n9 (tw a c)).toArray):=by
 refine enter (l:=[.slice a 1 c,.slice none 0 0]) Tryz.func28 rfl Tryz.ntmps28 rfl ?_
 refine go 3 ?_
 rintro b1 w1 Q1 aH aN cz
 refine go 12 ?_
 rintro w2 Q2 aS aR gj
 refine go 2 ?_
 refine CW.ret (ret (vs:=[_]) ⟨_,_,_,rfl,rfl,zl gj,rfl⟩ ?_)
 exact aQ.mq (aS.drop) rfl
theorem akD {a:Option Addr} {c:Nat} (h:bm (ax .i64) 1 s a c [1]):d_ s s n9.ah (tw a c) :=
 ⟨by simp[aq,n9],by simp[aq,n9],h,bm.nil _ _ _ (Nat.zero_le _),bm.nil _ _ _ (Nat.zero_le _),bm.nil _ _ _ (Nat.zero_le _)⟩
theorem akE:n9.ah.bL:=⟨⟨by decide,by decide⟩,by decide,fun e he=>(by cases he),by decide⟩
theorem aax {a:Option Addr} {c:Nat} (hg:ak w s os) (h:bm (ax .i64) 1 s a c [1]) :
  Calls Tryz.prog 10 #[i64 1,.agg (uj n9 (tw a c)).toArray] w (aw w s os fun s' _ q=>∃ h',q = .tuple #[.agg (jR r0 h').toArray,i64 0]∧fZ s' r0 h'):=by
 have:=Sr (id:=1) hg (akD h) akE (by simp[aq]) (by simp[aq,n9]) (by simp[aq,n9]) (by simp[aq,n9])
 rw[aio] at this
 exact this
theorem Rh:cp 1 r0 :=
 ⟨by simp[aq,r0,jQ],by simp[aq,r0,jQ,n9],by simp[aq,r0,jQ,n9],by simp[aq,r0,jQ,n9],⟨by simp[aq,r0,jQ,n9],by simp[aq,r0,jQ,n9],⟨by decide,by decide⟩,by decide,fun e he=>(by cases he),by decide,by simp[r0,jQ,n9,eo],fun k e hk=>(by cases hk)⟩,by decide,by decide,fun p hp=>(by cases hp),by simp[aq,r0,jQ],by simp[aq,r0,jQ],by decide⟩
theorem aaW {h:Hd} (hg:ak w s os) (hr:fZ s r0 h) :
  Calls Tryz.prog 11 #[.agg (jR r0 h).toArray,.agg (sw vq cG.none none 0).toArray] w (aw w s os fun s' _ q=>∃ h1 h2,q = .tuple #[.agg (jR r1 h1).toArray,.agg (H6 o1 h2).toArray,i64 0]∧fZ s' r1 h1∧Ap s' o1 h2):=by
 have lk:vQ 0 vq:=ahk (WL s) (by decide)
 have:=uA hg hr (WL s) (Rh.aq (n:=dA r0)) (Jn (n:=dA r0) Rh lk (by decide)).aq (AV Rh lk (by decide)) (by decide)
 rw[aj4] at this
 exact this
theorem aan (hg:ak w s os):Calls Tryz.prog 9 #[] w (aw w s os fun _ _ q=>q = .bool true):=by
 refine enter (l:=[]) Tryz.func9 rfl Tryz.ntmps9 rfl ?_
 refine go 7 ?_
 rintro b3 w3 Q3 aP bw ks
 refine go 1 ?_
 have pZ:aW (ax .i64) 1 3 s Q3 (some ⟨b3,0,none⟩) 1 [1]:= .inr ⟨_,_,rfl,ks,by decide,by decide,rfl,cF.jy rfl ⟨rfl,by simp[aq]⟩⟩
 obtain⟨s7,bO,jK,Pg⟩:=(aP).bY
 have NG:=pZ.ci (ax.up _) jK Pg
 refine go 1 ?_
 refine zw (aac bO) ?_
 rintro v4 w4 bp bJ rfl
 refine go 2 ?_
 refine zc (aax bp NG) ?_
 rintro v5 s5 B5 w5 dz bh bQ ⟨h9,rfl,F3⟩
 have bh:=bh.drop
 refine go 5 ?_
 rintro b6 w6 Q6 bx bM mn
 refine go 2 ?_
 rintro w7 Q7 bO cj qu
 refine go 8 ?_
 refine zc (aaW bO F3) ?_
 rintro v8 s8 B8 w8 kw bD cM ⟨g1,g2,rfl,Jv,aor⟩
 have bD:=bD.drop
 refine go 6 ?_
 rintro b9 w9 Q9 bA cu rb
 refine go 2 ?_
 rintro qU eX mE bj cm fS
 refine go 2 ?_
 rintro iS rJ cy dH rX
 refine go 2 ?_
 rintro jA me cw dK ml
 refine go 8 ?_
 refine RL.part 21 rfl (fun m_=>?_) (fun m_=>?_)
 refine go 4 ?_
 refine RL.part 25 rfl (fun pM=>?_) (fun pM=>?_)
 refine go 5 ?_
 refine RL.part 30 rfl (fun v_=>?_) (fun v_=>?_)
 refine go 6 ?_
 refine RL.part 36 rfl (fun jD=>?_) (fun jD=>?_)
 refine go 6 ?_
 refine RL.part 42 rfl (fun j0=>?_) (fun j0=>?_)
 refine go 6 ?_
 refine RL.part 48 rfl (fun om=>?_) (fun om=>?_)
 refine go 5 ?_
 refine CW.ret (bP ?_)
 exact aw.mq (((cw.drop).drop).drop).nil rfl
 exact absurd om (by decide)
 exact absurd j0 (by decide)
 exact absurd jD (by decide)
 exact absurd v_ (by decide)
 exact absurd pM (by decide)
 exact absurd m_ (by decide)
end
end Go.Lw
namespace Go.Lw
open Go.RowKit
section
variable {α:Type} {R:aj→List Value→α→Prop} {sz c:Nat} {el:TypeId} {r r' s s' A A':aj} {a:Option Addr} {xs ys:List α}
def nF (R:aj→List Value→α→Prop) (sz:Nat) (el:TypeId) (s A:aj) (a:Option Addr) (c:Nat) (xs:List α):Prop :=
 (a=none∧c=0∧xs=[]) ∨
 ∃ g off cs,a=some ⟨g,off,none⟩∧A g=some (.cells cs el (0,0))∧xs.length≤c∧c≤maxLen∧off+c*sz≤cs.size∧cF R sz s ((cs.toList.drop off).take (xs.length*sz)) xs
theorem aW.off (h:aW R sz el s A a c xs):nF R sz el s A a c xs :=
 h.imp id fun ⟨g,cs,h1,h2,h3,h4,h5,h6⟩=>⟨g,0,cs,h1,h2,h3,h4,by omega,by rw[List.drop_zero];exact h6⟩
theorem nF.up (hR:Up R) (h:nF R sz el s A a c xs) (hl:Le s s'):nF R sz el s' A a c xs :=
 h.imp id fun ⟨g,off,cs,h1,h2,h3,h4,h5,h6⟩=>⟨g,off,cs,h1,h2,h3,h4,h5,h6.up hR hl⟩
theorem nF.row (h:nF R sz el s A a c xs):xs=[]∨∃ ad,a=some ad∧kI R sz A s ad xs:=by
 rcases h with ⟨rfl,rfl,rfl⟩ | ⟨g,off,cs,rfl,hg,hl,hc,dr,hr⟩
 exact .inl rfl
 refine .inr ⟨_,rfl,_,⟨cs,el,(0,0),hg,rfl,fun j u hu=>?_⟩,hr⟩
 rw[List.getElem?_take] at hu
 split at hu
 rw[List.getElem?_drop] at hu;simpa using hu
 cases hu
theorem nF.eU (h:nF R sz el s A a c xs):ee R sz A s a c xs:=by
 have hr:=h.row
 rcases h with ⟨rfl,rfl,rfl⟩ | ⟨g,off,cs,rfl,hg,hl,hc,dr,cD⟩
 exact⟨Nat.le_refl _,Nat.zero_le _,.inl rfl⟩
 exact⟨hl,hc,hr⟩
theorem nF.tail {x:α} (h:nF R sz el s A a c (x::xs)):nF R sz el s A (if c=1 then a else a.map (·.add (1*sz))) (c-1) xs:=by
 rcases h with ⟨-,-,h⟩ | ⟨g,off,cs,rfl,hg,hl,hc,dr,hr⟩
 cases h
 simp only[List.length_cons] at hl hr
 obtain⟨vs,au,h1,h2,-,h3⟩:=hr
 have h4:=h3.length
 have hm:c*sz=(c-1)*sz+sz:=by
  conv=>lhs;rw[show c=(c-1)+1 by omega]
  rw[Nat.succ_mul]
 have h5:(cs.toList.drop (off+sz)).take (xs.length*sz)=au:=by
  have h6:=congrArg (List.drop sz) h1
  rw[List.drop_take,List.drop_drop,Nat.succ_mul,Nat.add_sub_cancel] at h6
  rw[h6,← h2,List.drop_left]
 by_cases fJ:c=1
 subst fJ
 have hx:xs=[]:=List.eq_nil_of_length_eq_zero (by omega)
 subst hx
 rw[if_pos rfl]
 exact .inr ⟨g,off,cs,rfl,hg,by simp,by omega,by omega,by simp[cF]⟩
 rw[if_neg fJ]
 refine .inr ⟨g,off+sz,cs,?_,hg,by omega,by omega,by omega,by rw[h5];exact h3⟩
 simp only[Option.map_some,Nat.one_mul]
 unfold Addr.add
 split
 rename_i h0;rw[h0];rfl
 rfl
end
section
variable {P:Program} {w:World} {s A:aj} {os:List aj}
theorem abc {α:Type} {R:aj→List Value→α→Prop} {t t2 ty e:TypeId} {sz by_ c:Nat} {x:Value} {bB z:List Value} {a:Option Addr} {xs ys:List α}
  (hg:ak w s (A::os)) (hs:eJ P t=some (e,sz,by_)) (hz:eY P e=some z) (gW:z.length=sz) (ky:lN R)
  (lD:nF R sz e s A a c xs) (fe:cU P w t2 sz x ys.length bB) (cD:cF R sz s bB ys) (o4:(xs.length+ys.length)*by_≤140737488355328) (ni:xs.length+ys.length≤maxLen) :
  ∃ a' c' A' w',(Builtin.append_ #[t,t2] ty #[.slice a xs.length c,x]).run P w = .ok (.slice a' (xs++ys).length c') w'∧ak w' s (A'::os)∧nF R sz e s A' a' c' (xs++ys)∧ar w w' ∧
   (∀ b,A b≠none→(∀ ad,a=some ad→ad.block≠b)→A' b=A b)∧(∀ ad,a'=some ad→a=some ad∨A ad.block=none):=by
 have qY:xs.length+ys.length≤9223372036854775807:=by simp only[maxLen] at ni;omega
 -- a new block
 have moved:∀ jx,(∀ w':World,w'.heap=w.heap→(Builtin.firstCells sz xs.length (.slice a xs.length c)).run P w' = .ok jx.toArray w')→cF R sz s jx xs→c<xs.length+ys.length →
   ∃ a' c' A' w',(Builtin.append_ #[t,t2] ty #[.slice a xs.length c,x]).run P w = .ok (.slice a' (xs++ys).length c') w'∧ak w' s (A'::os)∧nF R sz e s A' a' c' (xs++ys)∧ar w w' ∧
    (∀ b,A b≠none→(∀ ad,a=some ad→ad.block≠b)→A' b=A b)∧(∀ ad,a'=some ad→a=some ad∨A ad.block=none):=by
  intro jx hold kP iF
  have fo:=Rm (ty:=ty) hs hz fe hold iF qY o4
  have Eb:=grownCap_ge w (xs.length+ys.length) c e
  have ox:grownCap w (xs.length+ys.length) c e≤maxLen:=grownCap_le_maxLen w _ c e ni
  have fh:=(hg.drew.alloc (.cells (jx.toArray++bB.toArray++Builtin.zeroCells z.toArray (grownCap w (xs.length+ys.length) c e-(xs.length+ys.length))) e)).eN
  have wy:A w.heap.size=none:=by
   cases hA:A w.heap.size with
   | none=>rfl
   | some o=>exact absurd (hg.1.lt (by rw[hA];simp)) (Nat.lt_irrefl _)
  refine⟨_,_,_,_,by rw[List.length_append];exact fo,fh,.inr ⟨w.heap.size,0,_,rfl,QV _ _ _,by rw[List.length_append];exact Eb,ox,?_,?_⟩,(ar.drew w).trans (ar.alloc _ _),fun b hb _=>?_,fun ad he=>by cases he;exact .inr wy⟩
  have h1:=kP.length
  have h2:=cD.length
  simp only[Array.size_append,List.size_toArray,size_zeroCells,gW,h1,h2,← Nat.add_mul,Nat.zero_add]
  refine Nat.mul_le_mul_right _ ?_
  omega
  have h1:=kP.length
  have h2:=cD.length
  have e1:(jx.toArray++bB.toArray++Builtin.zeroCells z.toArray (grownCap w (xs.length+ys.length) c e-(xs.length+ys.length))).toList.take ((xs++ys).length*sz)=jx++bB:=by
   simp only[Array.toList_append,List.length_append,Nat.add_mul,← h1,← h2]
   rw[←List.length_append]
   exact List.take_left
  rw[List.drop_zero,e1]
  exact kP.append cD
  have Gz:b≠w.heap.size:=fun h=>by subst h;exact hb wy
  simp[aj.eN,aj.one,Gz]
 rcases lD with ⟨rfl,rfl,rfl⟩ | ⟨g,off,cs,rfl,uG,El,ox,dr,kP⟩
 by_cases hm:ys.length=0
 have hy:ys=[]:=List.eq_nil_of_length_eq_zero hm
 subst hy
 have hn:bB=[]:=cD
 subst hn
 exact⟨none,0,A,w,Fa (a:=none) hs fe (by simp) (fun _=>rfl),hg,.inl ⟨rfl,rfl,rfl⟩,ar.refl w,(fun _ _ _=>rfl),fun _ he=>nomatch he⟩
 exact moved [] (fun w' _=>by simp[Builtin.firstCells]) rfl (by simp;omega)
 have a_:Holds A ⟨g,off,none⟩ ((cs.toList.drop off).take (xs.length*sz)):=⟨cs,e,(0,0),uG,rfl,fun j u hu=>by
  rw[List.getElem?_take] at hu
  split at hu
  rw[List.getElem?_drop] at hu;simpa using hu
  cases hu⟩
 by_cases iF:xs.length+ys.length≤c
 have wD:=hg.1 g _ uG
 have h1:=kP.length
 have h2:=cD.length
 have Bu:(⟨g,off,none⟩:Addr).add (xs.length*sz)=⟨g,off+xs.length*sz,none⟩:=by
  unfold Addr.add
  split
  rename_i h0;rw[h0];rfl
  rfl
 have Cb:(xs.length+ys.length)*sz≤c*sz:=Nat.mul_le_mul_right _ iF
 rw[Nat.add_mul] at Cb
 have j5:off+xs.length*sz+bB.length≤cs.size:=by rw[h2];omega
 have cc:=run_storeCells_at P g (off+xs.length*sz) e bB 0 cs w wD (by simpa using j5) (cD.one ky)
 simp only[Nat.add_zero] at cc
 have fo:=Fa (ty:=ty) (a:=some ⟨g,off,none⟩) hs fe iF (by simp)
 simp only[Bu,cc,Result.andThen_ok] at fo
 let new:=(cs.toList.take (off+xs.length*sz)++bB++cs.toList.drop (off+xs.length*sz+bB.length)).toArray
 have zO:=hg.Al (w':=w.setRow g new) uG (setRow_heap w g cs new e (0,0) wD) (fun k _ hk=>setRow_other w g k new hk)
 refine⟨_,_,_,_,by rw[List.length_append];exact fo,zO,.inr ⟨g,off,_,rfl,dq _ _ _,by rw[List.length_append];exact iF,ox,?_,?_⟩,⟨rfl,rfl,rfl,by simp⟩,fun b _ hb=>?_,fun ad he=> .inl he⟩
 simp only[new,List.size_toArray,List.length_append,List.length_take,List.length_drop,Array.length_toList]
 omega
 have e1:((cs.toList.take (off+xs.length*sz)++bB++cs.toList.drop (off+xs.length*sz+bB.length)).toArray.toList.drop off).take ((xs++ys).length*sz)=(cs.toList.drop off).take (xs.length*sz)++bB:=by
  have hl:(cs.toList.take (off+xs.length*sz)).length=off+xs.length*sz:=by rw[List.length_take,Array.length_toList];exact Nat.min_eq_left (Nat.le_trans (Nat.le_add_right _ _) j5)
  have e2:(cs.toList.take (off+xs.length*sz)).drop off=(cs.toList.drop off).take (xs.length*sz):=by
   rw[List.drop_take,Nat.add_sub_cancel_left]
  have e0:(cs.toList.take (off+xs.length*sz)++bB++cs.toList.drop (off+xs.length*sz+bB.length)).toArray.toList.drop off=(cs.toList.drop off).take (xs.length*sz)++bB++cs.toList.drop (off+xs.length*sz+bB.length):=by
   show (cs.toList.take (off+xs.length*sz)++bB++cs.toList.drop (off+xs.length*sz+bB.length)).drop off=_
   rw[List.append_assoc,List.drop_append_of_le_length (by rw[hl];exact Nat.le_add_right _ _),e2,List.append_assoc]
  rw[e0,List.length_append,Nat.add_mul,← h2]
  have h3:((cs.toList.drop off).take (xs.length*sz)++bB).length=xs.length*sz+bB.length:=by rw[List.length_append,h1]
  rw[←h3]
  exact List.take_left
 rw[e1]
 exact kP.append cD
 have:b≠g:=fun h=>hb ⟨g,off,none⟩ rfl h.symm
 simp[aj.put,this]
 exact moved _ (fun w' hw=>run_firstCells_some w' sz xs.length ⟨g,off,none⟩ xs.length c _ kP.length (fun j v hj=>by
  have:=a_.cell hg.1 hj
  simpa [World.cell?,hw] using this)) kP (by omega)
end
section
variable {P:Program} {n:Nat} {ops:Array Oper} {Q:Exit→Act→World→Prop} {S:World→Prop} {au:List (Bool × Oper)} {E:dE} {w:World} {o:Oper} {d:Nat} {x y:Operand} {s A:aj} {os:List aj}
theorem RL.aa_ {α:Type} {R:aj→List Value→α→Prop} {t t2 e:TypeId} {sz by_ c:Nat} {i:Nat} {src:Value} {bB z:List Value} {a:Option Addr} {xs ys:List α} (hg:bR ops E o=some true) (hd:o.dst=some d) (hb:Nat.blt d n=true)
  (ho:o.op = .call { callee:= .builtin .append,args:= #[x,y],argTypes:= #[t,t2] }) (ht:eJ P t=some (e,sz,by_)) (hz:eY P e=some z) (gW:z.length=sz) (ky:lN R)
  (hx:ev E x=some (.slice a xs.length c)) (hy:ev E y=some src) (hG:ak w s os) (hi:os[i]?=some A) (lD:nF R sz e s A a c xs) (fe:cU P w t2 sz src ys.length bB) (cD:cF R sz s bB ys)
  (o4:(xs.length+ys.length)*by_≤140737488355328) (r7:0<by_)
  (h:∀ a' c' A' w',ak w' s (os.set i A')→nF R sz e s A' a' c' (xs++ys)→ar w w'→(∀ b,A b≠none→(∀ ad,a=some ad→ad.block≠b)→A' b=A b)→(∀ ad,a'=some ad→a=some ad∨A ad.block=none)→S w'∧RL P n ops Q S au ((d,.slice a' (xs++ys).length c')::E) w'):RL P n ops Q S ((false,o)::au) E w:=by
 have ni:xs.length+ys.length≤maxLen:=by
  have:(xs.length+ys.length)*1≤(xs.length+ys.length)*by_:=Nat.mul_le_mul_left _ r7
  simp only[maxLen];omega
 obtain⟨a',c',A',w',fo,Br,Ge,oV,hk,Hj⟩:=abc (ty:=o.type) (hG.ae i hi) ht hz gW ky lD fe cD o4 ni
 obtain⟨h1,h2⟩:=h a' c' A' w' (ak.xo i hi Br) Ge oV hk Hj
 refine RL.step hg hd hb (fun ac ha=>?_) h1 h2
 unfold execOp
 simp only[ho]
 simp only[resolve,invoke,builtin,Sem.run_bind,Sem.run_pure,Result.andThen_ok,List.map_toArray,List.map_cons,List.map_nil,ha.ev hx,ha.ev hy,fo]
end
end Go.Lw
namespace Go.Lw
open Go.Proofs
open dF (Wd)
attribute [local irreducible] RL RA
def uz:aj→List Value→aU→Prop:=fun s vs r=>∃ h,vs=jR r h∧fZ s r h
theorem uz.up:Up uz:=fun _ _ _ _ hl ⟨h,h1,h2⟩=>⟨h,h1,h2.up hl⟩
theorem uz.one:lN uz:=fun _ _ _ ⟨h,h1,_⟩ v hv=>by
 subst h1
 simp only[List.mem_cons,List.not_mem_nil,or_false] at hv
 rcases hv with rfl | rfl | rfl | rfl | rfl | rfl | rfl | rfl | rfl | rfl | rfl | rfl | rfl | rfl | rfl | rfl | rfl | rfl | rfl | rfl<;>rfl
structure FF (s:aj) (v:jl) (h:Hd):Prop where
 ab:aq .u64 v.af.ab
 aT:aq .i64 v.af.aT
 aB:aq .u64 v.af.aB
 index:aq .u64 v.ah.aF.index
 Jc:aq .u64 v.ah.aF.ab
 av:bm (ax .i64) 1 s h.va h.vc v.ah.aF.aJ.av
 aD:bm (ax .i64) 1 s h.la h.lc v.ah.aF.aJ.aD
 data:bm (ax .u8) 1 s h.da h.dc v.ah.aF.data
theorem FF.up {s s':aj} {v:jl} {h:Hd} (k:FF s v h) (hl:Le s s'):FF s' v h :=
 { k with av:=k.av.up (ax.up _) hl,aD:=k.aD.up (ax.up _) hl,data:=k.data.up (ax.up _) hl }
def td:aj→List Value→jl × Hd→Prop:=fun s vs x=>vs=uj x.1 x.2∧FF s x.1 x.2
theorem td.up:Up td:=fun _ _ _ _ hl ⟨h1,h2⟩=>⟨h1,h2.up hl⟩
theorem td.one:lN td:=fun _ _ _ ⟨h1,_⟩ v hv=>by
 subst h1
 simp only[List.mem_cons,List.not_mem_nil,or_false] at hv
 rcases hv with rfl | rfl | rfl | rfl | rfl | rfl | rfl | rfl | rfl | rfl<;>rfl
def xk:aj→List Value→Int→Prop:=fun _ vs x=>vs=[i64 x,.bool false]∧aq .i64 x
theorem xk.up:Up xk:=fun _ _ _ _ _ h=>h
theorem xk.one:lN xk:=fun _ _ _ ⟨h1,_⟩ v hv=>by
 subst h1
 simp only[List.mem_cons,List.not_mem_nil,or_false] at hv
 rcases hv with rfl | rfl<;>rfl
structure WA where
 sa:Option Addr
 sc:Nat
 ka:Option Addr
 kc:Nat
 ba:Option Addr
 bc:Nat
 la:Option Addr
 lc:Nat
 ta:Option Addr
 tc:Nat
 da:Option Addr
 dc:Nat
 xa:Option Addr
 xc:Nat
 vk:List (jl × Hd)
structure WP where
 W:aj
 S:aj
 K:aj
 B:aj
 L:aj
 T:aj
 D:aj
 X:aj
 E:List aj
def WP.os (P:WP):List aj:=P.W::P.S::P.K::P.B::P.L::P.T::P.D::P.X::P.E
abbrev Dd (w:Wd) (a:WA):List Value:=[.slice a.sa w.s.length a.sc,.slice a.ka a.vk.length a.kc,.slice a.ba w.aM.length a.bc,.slice a.la w.cI.length a.lc,.slice a.ta w.ab.length a.tc,.slice a.da w.told.length a.dc,.slice a.xa w.nn.length a.xc]
structure f_ (s:aj) (P:WP) (p:Nat) (w:Wd) (a:WA):Prop where
 cells:P.W p=some (.cells (Dd w a).toArray 85 (0,0))
 cR:w.cR=a.vk.map (·.1)
 S:aW uz 20 44 s P.S a.sa a.sc w.s
 K:aW td 10 35 s P.K a.ka a.kc a.vk
 B:nF iH 14 56 s P.B a.ba a.bc w.aM
 L:aW xk 2 133 s P.L a.la a.lc w.cI
 T:aW (ax .u64) 1 22 s P.T a.ta a.tc w.ab
 D:aW bg 6 65 s P.D a.da a.dc w.told
 X:aW bg 6 65 s P.X a.xa a.xc w.nn
 AQ:P.E.length=a.vk.length
 E:∀ (i:Nat) (v:jl × Hd) (e:aj),a.vk[i]?=some v→P.E[i]?=some e→aW bg 6 65 s e v.2.ea v.2.ec v.1.ah.entries
theorem f_.up {s s':aj} {P:WP} {p:Nat} {w:Wd} {a:WA} (k:f_ s P p w a) (hl:Le s s'):f_ s' P p w a :=
 { k with S:=k.S.up uz.up hl,K:=k.K.up td.up hl,B:=k.B.up iH.up hl,L:=k.L.up xk.up hl,T:=k.T.up (ax.up _) hl,D:=k.D.up bg.up hl,X:=k.X.up bg.up hl,E:=fun i v e h1 h2=>(k.E i v e h1 h2).up bg.up hl }
theorem f_.ajM {s:aj} {P:WP} {p:Nat} {w:Wd} {a:WA} (k:f_ s P p w a) {S':aj} {l:List aU} (h:aW uz 20 44 s S' a.sa a.sc l) (hl:l.length=w.s.length):f_ s { P with S:=S' } p { w with s:=l } a :=
 { k with S:=h,cells:=by have:=k.cells;simp only[Dd,hl];exact this }
def yR (w0:World) (s:aj) (os:List aj) (p:Nat) (v:Value) (w:Wd):Ending→World→Prop:=fun e w' =>
 ∃ s' P' a',e = .returned v∧Le s s'∧ak w' s' (P'.os++os)∧ar w0 w'∧f_ s' P' p w a'
theorem yR.mk {w0 w':World} {s s':aj} {os:List aj} {p:Nat} {v:Value} {w:Wd} {P':WP} {a':WA} (h1:Le s s') (h2:ak w' s' (P'.os++os)) (h3:ar w0 w') (h4:f_ s' P' p w a'):yR w0 s os p v w (.returned v) w':=⟨s',P',a',rfl,h1,h2,h3,h4⟩
def CQ (c n:Int):Int:=(if c<0 then -(c+1) else c) % n
theorem X3 {c n:Int} (hc:aq .i64 c) (hn:0<n):0≤CQ c n∧CQ c n<n:=by
 simp only[aq] at hc
 unfold CQ
 have h0:0≤if c<0 then -(c+1) else c:=by split<;>omega
 exact⟨Int.emod_nonneg _ (by omega),Int.emod_lt_of_pos _ hn⟩
section
variable {w:World} {s:aj} {os:List aj}
theorem aiZ {c n:Int} (hg:ak w s os) (hc:aq .i64 c) (hn:0<n) (sl:n≤1000) :
  Calls Tryz.prog 14 #[i64 c,i64 n] w (aQ w s os fun q=>q=i64 (CQ c n)):=by
 simp only[aq] at hc
 refine enter (l:=[i64 c,i64 n]) Tryz.func14 rfl Tryz.ntmps14 rfl ?_
 refine go 10 ?_
 refine CW.cond rfl (fun h6=>?_) (fun h6=>?_)
 refine go 2 ?_
 refine RL.add rfl rfl rfl rfl rfl rfl ((by simp only[aq];have:=bU h6;omega)) ?_
 refine RL.neg rfl rfl rfl rfl rfl ((by simp only[aq];have:=bU h6;omega)) ?_
 refine go 6 ?_
 refine RL.rem rfl rfl rfl rfl rfl rfl ((by first | (have:=bU h6;omega) | (have:=ct h6;omega))) (hn) ?_
 refine go 2 ?_
 refine CW.ret (bP ?_)
 exact aQ.mq hg (by rw[CQ,if_pos (bU h6)];rfl)
 refine go 5 ?_
 refine RL.rem rfl rfl rfl rfl rfl rfl ((by first | (have:=bU h6;omega) | (have:=ct h6;omega))) (hn) ?_
 refine go 2 ?_
 refine CW.ret (bP ?_)
 exact aQ.mq hg (by rw[CQ,if_neg (ct h6)];rfl)
end
end Go.Lw
namespace Go.Lw
open Go.Proofs
open dF (Wd)
attribute [local irreducible] RL RA
theorem adD (a:xh) (w:World):(binOp .eql 24 (.agg (JI a)) (.agg (JI a))).run Tryz.prog w = .ok (.bool true) w:=by
 have u1:=Tryz.underlying3
 have a1:=Tryz.isAgg3
 have z1:=Tryz.sizeOf3
 have u2:=Tryz.underlying22
 have a2:=Tryz.isAgg22
 have z2:=Tryz.sizeOf22
 have hS:Tryz.prog.underlying 24=some (.struct (Tryz.prog.fieldsOf 24)):=by kernel_rfl
 have hp:Tryz.prog.stoodInHeld 24=false:=by kernel_rfl
 rw[run_eql_struct,show (10000:Nat)=9999+1 from rfl,run_equalIn_agg w 9999 24 _ _ hS hp]
 simp only[Program.fieldsOf,Tryz.underlying24]
 go_simp
theorem WP.out {w:World} {s e:aj} {os:List aj} {P:WP} {i:Nat} (h:P.E[i]?=some e) (hg:ak w s (P.os++os)):ak w s (e::P.W::P.S::P.K::P.B::P.L::P.T::P.D::P.X::(P.E.eraseIdx i++os)):=by
 refine hg.perm ?_
 have h1:(P.E++os).Perm (e::(P.E.eraseIdx i++os)):=(QZ i P.E e h).append_right os
 exact (List.Perm.append_left [P.W,P.S,P.K,P.B,P.L,P.T,P.D,P.X] h1).trans List.perm_middle
theorem WP.xo {w:World} {s e y:aj} {os:List aj} {P:WP} {i:Nat} (h:P.E[i]?=some e) {W S K B L T D X:aj} (hg:ak w s (y::W::S::K::B::L::T::D::X::(P.E.eraseIdx i++os))):ak w s ((⟨W,S,K,B,L,T,D,X,P.E.set i y⟩:WP).os++os):=by
 refine hg.perm ?_
 have h1:(y::(P.E.eraseIdx i++os)).Perm (P.E.set i y++os):=(QY i P.E e y h).append_right os
 exact (List.perm_middle (l₁:=[W,S,K,B,L,T,D,X])).symm.trans (List.Perm.append_left [W,S,K,B,L,T,D,X] h1)
theorem f_.ajK {s:aj} {P:WP} {p:Nat} {w:Wd} {a:WA} (k:f_ s P p w a) {i:Nat} {e y K':aj} (he:P.E[i]?=some e) {x:jl × Hd} (hK:aW td 10 35 s K' a.ka a.kc (a.vk.set i x)) (hE:aW bg 6 65 s y x.2.ea x.2.ec x.1.ah.entries) :
  f_ s ⟨P.W,P.S,K',P.B,P.L,P.T,P.D,P.X,P.E.set i y⟩ p { w with cR:=w.cR.set i x.1 } { a with vk:=a.vk.set i x }:=by
 refine { k with cells:=?_,cR:=?_,K:=hK,AQ:=by simp only[List.length_set];exact k.AQ,E:=fun j v q h1 h2=>?_ }
 have:=k.cells
 simp only[Dd,List.length_set];exact this
 show w.cR.set i x.1=(a.vk.set i x).map (·.1)
 rw[k.cR,List.map_set]
 have h1:(a.vk.set i x)[j]?=some v:=h1
 have h2:(P.E.set i y)[j]?=some q:=h2
 rw[List.getElem?_set] at h1 h2
 by_cases iE:i=j
 subst iE
 rw[if_pos rfl] at h1 h2
 split at h1
 split at h2
 rw[←Option.some.inj h1,← Option.some.inj h2];exact hE
 cases h2
 cases h1
 rw[if_neg iE] at h1 h2
 exact k.E j v q h1 h2
def kT (L:br) (o:bz) (B:gE):br :=
 if o.dY=true then ⟨B,L.entries.filter fun e=>decide (o.cut=0) && decide (B.index<e.index)⟩
 else if o.cut≠0 then ⟨L.aF,L.entries.filter fun e=>decide (e.index<o.cut)⟩ else L
theorem W0 (L:br) (o:bz) (B:gE):dF.qa L o B=⟨(kT L o B).aF,(kT L o B).entries++o.entries⟩:=by
 unfold dF.qa kT
 split
 rfl
 split<;>rfl
theorem ah1 (L:br) (o:bz) (B:gE):(kT L o B).entries.length≤L.entries.length:=by
 unfold kT
 split
 exact List.length_filter_le _ _
 split
 exact List.length_filter_le _ _
 exact Nat.le_refl _
theorem aaJ {w:World} {s:aj} {os:List aj} {r1 r2:aj} {l l':br} {h k:Hd} (he:l=l') (hg:ak w s os) (h1:r1=s∨r1∈os) (h2:r2=s∨r2∈os) (hl:d_ r1 s l h) (hk:d_ r2 s l' k) :
  Calls Tryz.prog 87 #[gY l h,gY l' k] w (aQ w s os fun r=>r = .bool true):=by
 subst he;exact aaK hg h1 h2 hl hk
section
variable {w:World} {s:aj} {os:List aj}
theorem ahv {P:WP} {p:Nat} {W:Wd} {a:WA} {i:Nat} {r:aU} {v:jl} {o:bz} {ho:Hd} (hg:ak w s (P.os++os)) (hw:f_ s P p W a) (hi:W.s[i]?=some r) (hv:W.cR[i]?=some v) (hO:Ap s o ho)
  (hk:dF.qa v.ah o r.ah.aF=r.ah) (hh:(if o.Ae=true then r.af else v.af)=r.af) (hS:r.ah.bL) (Ev:(∀ e∈o.entries,e.bL)∧o.entries.length≤1073741824) (eH:v.ah.entries.length≤1073741824) (hR:aq .u64 r.af.ab∧aq .i64 r.af.aT∧aq .u64 r.af.aB) :
  Calls Tryz.prog 54 #[ptr p,i64 i,.agg (H6 o ho).toArray] w (yR w s os p (.bool true) { W with cR:=W.cR.set i ⟨r.af,r.ah,v.eR⟩ }):=by
 obtain⟨x,hx,hxv⟩:∃ x:jl × Hd,a.vk[i]?=some x∧x.1=v:=by
  rw[hw.cR,List.getElem?_map] at hv
  cases hz:a.vk[i]? with
  | none=>rw[hz] at hv;cases hv
  | some x=>rw[hz] at hv;exact⟨x,rfl,Option.some.inj hv⟩
 subst hxv
 have fK:i<W.s.length:=(List.getElem?_eq_some_iff.1 hi).1
 have qx:i<a.vk.length:=(List.getElem?_eq_some_iff.1 hx).1
 have Ex:W.s[i]=r:=by rw[List.getElem?_eq_getElem fK] at hi;exact Option.some.inj hi
 have vn:a.vk[i]=x:=by rw[List.getElem?_eq_getElem qx] at hx;exact Option.some.inj hx
 subst Ex vn
 obtain⟨Ei,Jz⟩:∃ e,P.E[i]?=some e:=⟨_,List.getElem?_eq_getElem (by rw[hw.AQ];exact qx)⟩
 have Bq:=hw.E i _ Ei hx Jz
 have Cc:=hw.S.gL
 have Hf:=hw.K.gL
 simp only[maxLen] at Cc Hf
 have mL:=WP.out Jz hg
 obtain⟨T,hT⟩:∃ T,T=P.E.eraseIdx i++os:=⟨_,rfl⟩
 rw[←hT] at mL
 have iK:=hw.cells
 rw[W0] at hk
 have tD:=ah1 a.vk[i].1.ah o W.s[i].ah.aF
 refine enter (l:=[ptr p,i64 i,.agg (H6 o ho).toArray]) Tryz.func54 rfl Tryz.ntmps54 rfl ?_
 refine go 3 ?_
 rintro b1 w1 Q1 aH aN cz
 refine go 10 ?_
 refine RL.dX rfl rfl rfl rfl Ln.out rfl rfl hw.K.eU (by omega) (by omega) ?_
 rintro q2 vs2 oE eS hV2
 obtain⟨rfl,p9⟩:=hV2
 refine RL.gX (j:=0) (us:=_) rfl rfl rfl rfl Ze.out rfl (eS) (aH.mem (by simp)) rfl rfl ?_
 refine go 1 ?_
 rintro b2 w2 Q2 aS aR gj
 refine go 2 ?_
 rintro w3 Q3 aP bw ks
 refine go 9 ?_
 refine RL.dX rfl rfl rfl rfl rE.out rfl rfl hw.S.eU (by omega) (by omega) ?_
 rintro q vs eH hH ⟨hh8,rfl,eA⟩
 refine RL.gX (j:=0) (us:=_) rfl rfl rfl rfl Is.out rfl (hH) (aP.mem (by simp)) rfl rfl ?_
 refine go 1 ?_
 rintro b4 w4 Q4 bp bJ o3
 refine go 2 ?_
 rintro w5 Q5 bh bQ mm
 refine go 2 ?_
 have hh7:=a.vk[i].2
 refine CW.cx (fun E' w'=>∃ Q7,E'=[(0,ptr p),(1,i64 i),(5,ptr b1),(7,ptr b2),(8,ptr b4)]∧ak w' s (Q5::Q7::Q1::Ei::P.W::P.S::P.K::P.B::P.L::P.T::P.D::P.X::T)∧ar w w'∧Q7 b2=some (.cells (uj ⟨W.s[i].af,a.vk[i].1.ah,a.vk[i].1.eR⟩ a.vk[i].2).toArray 35 (0,0))) ?_ ?_
 refine go 5 ?_
 refine CW.cond rfl (fun oU=>?_) (fun oU=>?_)
 refine go 5 ?_
 rintro w6 Q6 bx bM mn
 refine go 2 ?_
 exact fun ac ha=>⟨[(0,ptr p),(1,i64 i),(5,ptr b1),(7,ptr b2),(8,ptr b4)],ha.sub ⟨rfl,rfl,rfl,rfl,rfl,trivial⟩,⟨_,rfl,((((((((((((bx.ae 11 rfl).ae 11 rfl).ae 11 rfl).ae 11 rfl).ae 11 rfl).ae 11 rfl).ae 11 rfl).ae 11 rfl).ae 11 rfl).ae 11 rfl).ae 11 rfl).ae 11 rfl),(aN.trans (aR.trans (bw.trans (bJ.trans (bQ.trans bM))))),(by first | exact mn | (rw[←hh,if_neg (by rw[oU];decide)];exact mn))⟩⟩
 refine go 1 ?_
 exact fun ac ha=>⟨[(0,ptr p),(1,i64 i),(5,ptr b1),(7,ptr b2),(8,ptr b4)],ha.sub ⟨rfl,rfl,rfl,rfl,rfl,trivial⟩,⟨_,rfl,((((((((((((bh.ae 11 rfl).ae 11 rfl).ae 11 rfl).ae 11 rfl).ae 11 rfl).ae 11 rfl).ae 11 rfl).ae 11 rfl).ae 11 rfl).ae 11 rfl).ae 11 rfl).ae 11 rfl),(aN.trans (aR.trans (bw.trans (bJ.trans bQ)))),(by first | exact ks | (rw[←hh,if_neg (by rw[oU];decide)];exact ks))⟩⟩
 rintro E3 w3 ⟨Q7,rfl,aP,bw,hQ7⟩
 have hc8:=mm
 have tu:=cz
 refine CW.cx (fun E' w'=>∃ s' Y Y7 h7,E'=[(0,ptr p),(1,i64 i),(5,ptr b1),(7,ptr b2),(8,ptr b4)]∧ak w' s' (Y::Q5::Y7::Q1::P.W::P.S::P.K::P.B::P.L::P.T::P.D::P.X::T)∧ar w w'∧Le s s'∧Y7 b2=some (.cells (uj ⟨W.s[i].af,kT a.vk[i].1.ah o W.s[i].ah.aF,a.vk[i].1.eR⟩ h7).toArray 35 (0,0))∧FF s' ⟨W.s[i].af,kT a.vk[i].1.ah o W.s[i].ah.aF,a.vk[i].1.eR⟩ h7∧aW bg 6 65 s' Y h7.ea h7.ec (kT a.vk[i].1.ah o W.s[i].ah.aF).entries) ?_ ?_
 refine go 5 ?_
 refine CW.cond rfl (fun iV=>?_) (fun iV=>?_)
 refine go 10 ?_
 refine CW.loop (σ:=Nat) (fun j E w'=>∃ A' a' c',∃ k:Nat,ak w' s (A'::Q5::Q7::Q1::Ei::P.W::P.S::P.K::P.B::P.L::P.T::P.D::P.X::T)∧ar w w'∧E=[(0,ptr p),(1,i64 i),(5,ptr b1),(7,ptr b2),(8,ptr b4),(9,.slice a' ((a.vk[i].1.ah.entries.take k).filter fun e:aA=>decide (o.cut=0) && decide (W.s[i].ah.aF.index<e.index)).length c'),(10,i64 k)]∧k+j=a.vk[i].1.ah.entries.length∧aW bg 6 65 s A' a' c' ((a.vk[i].1.ah.entries.take k).filter fun e:aA=>decide (o.cut=0) && decide (W.s[i].ah.aF.index<e.index))) (fun j=>j) a.vk[i].1.ah.entries.length [(0,ptr p),(1,i64 i),(5,ptr b1),(7,ptr b2),(8,ptr b4),(9,.slice none 0 0),(10,i64 0)] ⟨rfl,rfl,rfl,rfl,rfl,rfl,rfl,trivial⟩ ⟨aj.nil,none,0,0,((((((((((((aP.ae 11 rfl).ae 11 rfl).ae 11 rfl).ae 11 rfl).ae 11 rfl).ae 11 rfl).ae 11 rfl).ae 11 rfl).ae 11 rfl).ae 11 rfl).ae 11 rfl).ae 11 rfl).nil,bw,rfl,by omega,aW.nil _ _ _ _ _⟩ ?_
 rintro j E wL ⟨AL,aL,cL,k,cd,cQ,rfl,o6,nl⟩
 refine go 10 ?_
 refine CW.cond rfl (fun nM=>?_) (fun nM=>?_)
 have be:k<a.vk[i].1.ah.entries.length:=by have h9:(k:Int)<(a.vk[i].1.ah.entries.length:Int):=bU nM;omega
 refine go 4 ?_
 have bO:=cd.drew
 refine CW.dw [1,3,5,7,9,11,13,15,17,19,21,23,25,27,29,31,33] (fun w=>ay b1 _ w∧ay b2 _ w∧ay b4 _ w∧In Ei w∧True) ?_
 refine go 4 ?_
 refine RL.part 45 rfl (fun ol=>?_) (fun ol=>?_)
 refine go 4 ?_
 refine RL.dX rfl rfl rfl rfl de.out rfl rfl Bq.eU (by omega) (show ((k:Nat):Int)<(a.vk[i].1.ah.entries.length:Int) by omega) ?_
 rintro q3 vs3 HL pP ⟨ea,ec,ea1,ec1,ea2,ec2,rfl,er1,er2,er3,eh1,eh2,eh3⟩
 refine go 1 ?_
 refine RL.fV (j:=0) rfl rfl rfl rfl aV.out rfl (pP) (fun w h=>h.2.2.2.1) rfl ?_
 refine go 7 ?_
 refine CW.cond rfl (fun h58=>?_) (fun h58=>?_)
 refine go 6 ?_
 refine RL.dX rfl rfl rfl rfl de.out rfl rfl Bq.eU (by omega) (show ((k:Nat):Int)<(a.vk[i].1.ah.entries.length:Int) by omega) ?_
 rintro q4 vs4 Kt uI UG
 have adr:=UG
 obtain⟨fa,fc,fa1,fc1,fa2,fc2,rfl,fr1,fr2,fr3,fh1,fh2,fh3⟩:=adr
 refine RL.gX (j:=0) (us:=_) rfl rfl rfl rfl nv.out rfl (uI) (bO.mem (by simp)) rfl rfl ?_
 refine go 1 ?_
 rintro b8 w8 Q8 bD cM ra
 refine go 1 ?_
 obtain⟨aqr,ag7,aem⟩:=(tX (R:=bg) (xs:=[a.vk[i].1.ah.entries[k]]) de.out ra (bD.mem (by simp)) (cF.jy rfl UG))
 refine RL.gQ (i:=1) (xs:=((a.vk[i].1.ah.entries.take k).filter fun e:aA=>decide (o.cut=0) && decide (W.s[i].ah.aF.index<e.index))) (ys:=[a.vk[i].1.ah.entries[k]]) rfl rfl rfl rfl de.out rI.out rfl bg.one (rfl) rfl bD rfl (nl) ag7 aem ((by have:=List.length_filter_le (fun e:aA=>decide (o.cut=0) && decide (W.s[i].ah.aF.index<e.index)) (a.vk[i].1.ah.entries.take k);rw[List.length_take] at this;rw[List.length_singleton];omega)) (by omega) ?_
 rintro a9 c9 A9 w9 bA vg cu VT hn9
 have qD:=vg
 refine go 8 ?_
 have hf:((a.vk[i].1.ah.entries.take (k+1)).filter fun e:aA=>decide (o.cut=0) && decide (W.s[i].ah.aF.index<e.index))=((a.vk[i].1.ah.entries.take k).filter fun e:aA=>decide (o.cut=0) && decide (W.s[i].ah.aF.index<e.index))++[a.vk[i].1.ah.entries[k]]:=by rw[List.take_succ_eq_append_getElem be,List.filter_append];simp_all
 rw[←hf] at qD ⊢
 cases j with
 | zero=>omega
 | succ j=>exact fun ac ha=>⟨j,[(0,ptr p),(1,i64 i),(5,ptr b1),(7,ptr b2),(8,ptr b4),(9,.slice _ ((a.vk[i].1.ah.entries.take (k+1)).filter fun e:aA=>decide (o.cut=0) && decide (W.s[i].ah.aF.index<e.index)).length _),(10,i64 ((k:Int)+1))],ha.sub ⟨rfl,rfl,rfl,rfl,rfl,rfl,rfl,trivial⟩,⟨_,_,_,k+1,((((((((((((((bA.ae 13 rfl).ae 13 rfl).ae 13 rfl).ae 13 rfl).ae 13 rfl).ae 13 rfl).ae 13 rfl).ae 13 rfl).ae 13 rfl).ae 13 rfl).ae 13 rfl).ae 13 rfl).ae 13 rfl).cC 13),(cQ.trans ((ar.drew _).trans (cM.trans cu))),rfl,by omega,qD⟩,Nat.lt_succ_self j⟩
 refine go 6 ?_
 have hf:((a.vk[i].1.ah.entries.take (k+1)).filter fun e:aA=>decide (o.cut=0) && decide (W.s[i].ah.aF.index<e.index))=((a.vk[i].1.ah.entries.take k).filter fun e:aA=>decide (o.cut=0) && decide (W.s[i].ah.aF.index<e.index)):=by rw[List.take_succ_eq_append_getElem be,List.filter_append];simp_all
 rw[←hf] at nl ⊢
 cases j with
 | zero=>omega
 | succ j=>exact fun ac ha=>⟨j,[(0,ptr p),(1,i64 i),(5,ptr b1),(7,ptr b2),(8,ptr b4),(9,.slice _ ((a.vk[i].1.ah.entries.take (k+1)).filter fun e:aA=>decide (o.cut=0) && decide (W.s[i].ah.aF.index<e.index)).length _),(10,i64 ((k:Int)+1))],ha.sub ⟨rfl,rfl,rfl,rfl,rfl,rfl,rfl,trivial⟩,⟨_,_,_,k+1,(((((((((((((bO.ae 12 rfl).ae 12 rfl).ae 12 rfl).ae 12 rfl).ae 12 rfl).ae 12 rfl).ae 12 rfl).ae 12 rfl).ae 12 rfl).ae 12 rfl).ae 12 rfl).ae 12 rfl).ae 12 rfl),(cQ.trans (ar.drew _)),rfl,by omega,nl⟩,Nat.lt_succ_self j⟩
 refine go 21 ?_
 have hf:((a.vk[i].1.ah.entries.take (k+1)).filter fun e:aA=>decide (o.cut=0) && decide (W.s[i].ah.aF.index<e.index))=((a.vk[i].1.ah.entries.take k).filter fun e:aA=>decide (o.cut=0) && decide (W.s[i].ah.aF.index<e.index)):=by rw[List.take_succ_eq_append_getElem be,List.filter_append];simp_all
 rw[←hf] at nl ⊢
 cases j with
 | zero=>omega
 | succ j=>exact fun ac ha=>⟨j,[(0,ptr p),(1,i64 i),(5,ptr b1),(7,ptr b2),(8,ptr b4),(9,.slice _ ((a.vk[i].1.ah.entries.take (k+1)).filter fun e:aA=>decide (o.cut=0) && decide (W.s[i].ah.aF.index<e.index)).length _),(10,i64 ((k:Int)+1))],ha.sub ⟨rfl,rfl,rfl,rfl,rfl,rfl,rfl,trivial⟩,⟨_,_,_,k+1,(((((((((((((bO.ae 12 rfl).ae 12 rfl).ae 12 rfl).ae 12 rfl).ae 12 rfl).ae 12 rfl).ae 12 rfl).ae 12 rfl).ae 12 rfl).ae 12 rfl).ae 12 rfl).ae 12 rfl).ae 12 rfl),(cQ.trans (ar.drew _)),rfl,by omega,nl⟩,Nat.lt_succ_self j⟩
 refine go 6 ?_
 refine zc (aaH (x:=W.s[i].ah.aF) cd eA.ah.av eA.ah.aD eA.ah.data hS.2.1 hS.1) ?_
 rintro C4 Fb B10 eX o8 bj cm ⟨e1,d1,e2,d2,e3,d3,rfl,j1,j2,j3⟩
 have bj:=bj.drop
 have hw:=hw.up o8
 have hO:=hO.up o8
 have Bq:=Bq.up bg.up o8
 refine go 5 ?_
 rintro iS rJ cy dH rX
 refine go 2 ?_
 have cv:k=a.vk[i].1.ah.entries.length:=by have h9:¬ (k:Int)<(a.vk[i].1.ah.entries.length:Int):=ct nM;omega
 have nj:kT a.vk[i].1.ah o W.s[i].ah.aF=⟨W.s[i].ah.aF,a.vk[i].1.ah.entries.filter (fun e:aA=>decide (o.cut=0) && decide (W.s[i].ah.aF.index<e.index))⟩:=if_pos iV
 rw[cv,List.take_length] at nl
 have GB:=rX
 rw[cv,List.take_length] at GB
 exact fun ac ha=>⟨[(0,ptr p),(1,i64 i),(5,ptr b1),(7,ptr b2),(8,ptr b4)],ha.sub ⟨rfl,rfl,rfl,rfl,rfl,trivial⟩,⟨_,_,_,⟨e1,d1,e2,d2,e3,d3,aL,cL,none,0,none,0,none,0,none,0,none,0⟩,rfl,(((((((((((((cy.ae 12 rfl).ae 12 rfl).ae 12 rfl).ae 12 rfl).ae 12 rfl).ae 12 rfl).ae 12 rfl).ae 12 rfl).ae 11 rfl).ae 11 rfl).ae 11 rfl).ae 11 rfl).cC 12),(cQ.trans (cm.trans dH)),o8,by rw[nj];exact GB,by rw[nj];exact⟨hR.1,hR.2.1,hR.2.2,eA.ah.index,eA.ah.ab,j1,j2,j3⟩,by rw[nj];exact nl.up bg.up (o8)⟩⟩
 refine go 6 ?_
 refine CW.cond rfl (fun Nm=>?_) (fun Nm=>?_)
 refine go 10 ?_
 refine CW.loop (σ:=Nat) (fun j E w'=>∃ A' a' c',∃ k:Nat,ak w' s (A'::Q5::Q7::Q1::Ei::P.W::P.S::P.K::P.B::P.L::P.T::P.D::P.X::T)∧ar w w'∧E=[(0,ptr p),(1,i64 i),(5,ptr b1),(7,ptr b2),(8,ptr b4),(11,.slice a' ((a.vk[i].1.ah.entries.take k).filter fun e:aA=>decide (e.index<o.cut)).length c'),(12,i64 k)]∧k+j=a.vk[i].1.ah.entries.length∧aW bg 6 65 s A' a' c' ((a.vk[i].1.ah.entries.take k).filter fun e:aA=>decide (e.index<o.cut))) (fun j=>j) a.vk[i].1.ah.entries.length [(0,ptr p),(1,i64 i),(5,ptr b1),(7,ptr b2),(8,ptr b4),(11,.slice none 0 0),(12,i64 0)] ⟨rfl,rfl,rfl,rfl,rfl,rfl,rfl,trivial⟩ ⟨aj.nil,none,0,0,((((((((((((aP.ae 11 rfl).ae 11 rfl).ae 11 rfl).ae 11 rfl).ae 11 rfl).ae 11 rfl).ae 11 rfl).ae 11 rfl).ae 11 rfl).ae 11 rfl).ae 11 rfl).ae 11 rfl).nil,bw,rfl,by omega,aW.nil _ _ _ _ _⟩ ?_
 rintro j E wL ⟨AL,aL,cL,k,cd,cQ,rfl,o6,nl⟩
 refine go 10 ?_
 refine CW.cond rfl (fun Bi=>?_) (fun Bi=>?_)
 have be:k<a.vk[i].1.ah.entries.length:=by have h9:(k:Int)<(a.vk[i].1.ah.entries.length:Int):=bU Bi;omega
 refine go 4 ?_
 have cw:=cd.drew
 refine CW.dw [1,3,5,7,9,11,13,15,17,19] (fun w=>ay b2 _ w∧ay b1 _ w∧In Ei w∧True) ?_
 refine go 4 ?_
 refine RL.dX rfl rfl rfl rfl de.out rfl rfl Bq.eU (by omega) (show ((k:Nat):Int)<(a.vk[i].1.ah.entries.length:Int) by omega) ?_
 rintro q5 vs5 Wv F9 ⟨ea,ec,ea1,ec1,ea2,ec2,rfl,er1,er2,er3,eh1,eh2,eh3⟩
 refine go 1 ?_
 refine RL.fV (j:=0) rfl rfl rfl rfl aV.out rfl (F9) (fun w h=>h.2.2.1) rfl ?_
 refine go 4 ?_
 refine CW.cond rfl (fun Np=>?_) (fun Np=>?_)
 refine go 6 ?_
 refine RL.dX rfl rfl rfl rfl de.out rfl rfl Bq.eU (by omega) (show ((k:Nat):Int)<(a.vk[i].1.ah.entries.length:Int) by omega) ?_
 rintro q6 vs6 ahg NE F6
 have NB:=F6
 obtain⟨fa,fc,fa1,fc1,fa2,fc2,rfl,fr1,fr2,fr3,fh1,fh2,fh3⟩:=NB
 refine RL.gX (j:=0) (us:=_) rfl rfl rfl rfl nv.out rfl (NE) (cw.mem (by simp)) rfl rfl ?_
 refine go 1 ?_
 rintro oP ji m7 dd eh nQ
 refine go 1 ?_
 obtain⟨aiq,PY,Ol⟩:=(tX (R:=bg) (xs:=[a.vk[i].1.ah.entries[k]]) de.out nQ (dd.mem (by simp)) (cF.jy rfl F6))
 refine RL.gQ (i:=1) (xs:=((a.vk[i].1.ah.entries.take k).filter fun e:aA=>decide (e.index<o.cut))) (ys:=[a.vk[i].1.ah.entries[k]]) rfl rfl rfl rfl de.out rI.out rfl bg.one (rfl) rfl dd rfl (nl) PY Ol ((by have:=List.length_filter_le (fun e:aA=>decide (e.index<o.cut)) (a.vk[i].1.ah.entries.take k);rw[List.length_take] at this;rw[List.length_singleton];omega)) (by omega) ?_
 rintro SI Tg yL nw ck Pm g_ ae9 afT
 have qD:=Pm
 refine go 8 ?_
 have hf:((a.vk[i].1.ah.entries.take (k+1)).filter fun e:aA=>decide (e.index<o.cut))=((a.vk[i].1.ah.entries.take k).filter fun e:aA=>decide (e.index<o.cut))++[a.vk[i].1.ah.entries[k]]:=by rw[List.take_succ_eq_append_getElem be,List.filter_append];simp_all
 rw[←hf] at qD ⊢
 cases j with
 | zero=>omega
 | succ j=>exact fun ac ha=>⟨j,[(0,ptr p),(1,i64 i),(5,ptr b1),(7,ptr b2),(8,ptr b4),(11,.slice _ ((a.vk[i].1.ah.entries.take (k+1)).filter fun e:aA=>decide (e.index<o.cut)).length _),(12,i64 ((k:Int)+1))],ha.sub ⟨rfl,rfl,rfl,rfl,rfl,rfl,rfl,trivial⟩,⟨_,_,_,k+1,((((((((((((((ck.ae 13 rfl).ae 13 rfl).ae 13 rfl).ae 13 rfl).ae 13 rfl).ae 13 rfl).ae 13 rfl).ae 13 rfl).ae 13 rfl).ae 13 rfl).ae 13 rfl).ae 13 rfl).ae 13 rfl).cC 13),(cQ.trans ((ar.drew _).trans (eh.trans g_))),rfl,by omega,qD⟩,Nat.lt_succ_self j⟩
 refine go 6 ?_
 have hf:((a.vk[i].1.ah.entries.take (k+1)).filter fun e:aA=>decide (e.index<o.cut))=((a.vk[i].1.ah.entries.take k).filter fun e:aA=>decide (e.index<o.cut)):=by rw[List.take_succ_eq_append_getElem be,List.filter_append];simp_all
 rw[←hf] at nl ⊢
 cases j with
 | zero=>omega
 | succ j=>exact fun ac ha=>⟨j,[(0,ptr p),(1,i64 i),(5,ptr b1),(7,ptr b2),(8,ptr b4),(11,.slice _ ((a.vk[i].1.ah.entries.take (k+1)).filter fun e:aA=>decide (e.index<o.cut)).length _),(12,i64 ((k:Int)+1))],ha.sub ⟨rfl,rfl,rfl,rfl,rfl,rfl,rfl,trivial⟩,⟨_,_,_,k+1,(((((((((((((cw.ae 12 rfl).ae 12 rfl).ae 12 rfl).ae 12 rfl).ae 12 rfl).ae 12 rfl).ae 12 rfl).ae 12 rfl).ae 12 rfl).ae 12 rfl).ae 12 rfl).ae 12 rfl).ae 12 rfl),(cQ.trans (ar.drew _)),rfl,by omega,nl⟩,Nat.lt_succ_self j⟩
 refine go 6 ?_
 rintro n_ xj dt iW q_
 refine go 2 ?_
 have cv:k=a.vk[i].1.ah.entries.length:=by have h9:¬ (k:Int)<(a.vk[i].1.ah.entries.length:Int):=ct Bi;omega
 have nj:kT a.vk[i].1.ah o W.s[i].ah.aF=⟨a.vk[i].1.ah.aF,a.vk[i].1.ah.entries.filter (fun e:aA=>decide (e.index<o.cut))⟩:=(if_neg (by rw[iV];decide)).trans (if_pos (by simpa using Nm))
 rw[cv,List.take_length] at nl
 have GB:=q_
 rw[cv,List.take_length] at GB
 exact fun ac ha=>⟨[(0,ptr p),(1,i64 i),(5,ptr b1),(7,ptr b2),(8,ptr b4)],ha.sub ⟨rfl,rfl,rfl,rfl,rfl,trivial⟩,⟨_,_,_,{ a.vk[i].2 with ea:=aL,ec:=cL },rfl,(((((((((((((dt.ae 12 rfl).ae 12 rfl).ae 12 rfl).ae 12 rfl).ae 12 rfl).ae 12 rfl).ae 12 rfl).ae 12 rfl).ae 11 rfl).ae 11 rfl).ae 11 rfl).ae 11 rfl).cC 12),(cQ.trans iW),(Le.refl _),by rw[nj];exact GB,by rw[nj];exact⟨hR.1,hR.2.1,hR.2.2,p9.index,p9.Jc,p9.av,p9.aD,p9.data⟩,by rw[nj];exact nl⟩⟩
 refine go 1 ?_
 have nj:kT a.vk[i].1.ah o W.s[i].ah.aF=a.vk[i].1.ah:=(if_neg (by rw[iV];decide)).trans (if_neg (by simpa using Nm))
 exact fun ac ha=>⟨[(0,ptr p),(1,i64 i),(5,ptr b1),(7,ptr b2),(8,ptr b4)],ha.sub ⟨rfl,rfl,rfl,rfl,rfl,trivial⟩,⟨_,_,_,a.vk[i].2,rfl,((((((((((((aP.ae 11 rfl).ae 11 rfl).ae 11 rfl).ae 11 rfl).ae 11 rfl).ae 11 rfl).ae 11 rfl).ae 11 rfl).ae 10 rfl).ae 10 rfl).ae 10 rfl).ae 11 rfl),bw,(Le.refl _),by rw[nj];exact hQ7,by rw[nj];exact⟨hR.1,hR.2.1,hR.2.2,p9.index,p9.Jc,p9.av,p9.aD,p9.data⟩,by rw[nj];exact Bq⟩⟩
 rintro E5 w5 ⟨s5,Y,Y7,h7,rfl,bh,bQ,dz,hY7,qH,Pv⟩
 have hw:=hw.up dz
 have hO:=hO.up dz
 have eA:=eA.up dz
 refine go 1 ?_
 have eC:=bh.drew
 refine CW.dx [1,3,5,7,9,10,12,15,17] [18] 9 1 (fun w=>ay b2 _ w∧ay b1 _ w∧True) ?_
 refine go 6 ?_
 refine zc (SB eC (.inl rfl) hO.1 Ev.1 (by omega)) ?_
 rintro C5 CU qn ny oC eZ hY ⟨SH,Tf,rfl,Pk⟩
 have hw:=hw.up oC
 have hO:=hO.up oC
 have eA:=eA.up oC
 have qH:=qH.up oC
 have Pv:=Pv.up bg.up oC
 refine go 1 ?_
 obtain⟨aqi,agY,aed⟩:=(cU.own de.out Pk (eZ.mem (by simp)))
 refine RL.gQ (i:=1) (xs:=(kT a.vk[i].1.ah o W.s[i].ah.aF).entries) (ys:=o.entries) rfl rfl rfl rfl de.out rI.out rfl bg.one (rfl) rfl eZ rfl (Pv) agY aed ((by omega)) (by omega) ?_
 rintro Do Dy R1 oM fd af2 iC aps apS
 have qD:=af2
 refine go 6 ?_
 rintro pF qS fU jr o0
 refine go 3 ?_
 have e_:=fU.drew
 refine CW.dx [1,3,5,7,9,11,13] [14] 7 1 (fun w=>ay p _ w∧ay b2 _ w∧In P.K w∧True) ?_
 refine go 6 ?_
 refine RL.Cy rfl rfl rfl rfl Ln.out rfl rfl hw.K (by omega) (by omega) ?_
 rintro g' cs vs' li oV dr Kr wi _
 have Kh:aW td 10 35 CU P.K (some ⟨g',0,none⟩) a.kc a.vk:=li▸hw.K
 have pk:=Kh.set oV qx (show (uj (⟨W.s[i].af,⟨(kT a.vk[i].1.ah o W.s[i].ah.aF).aF,(kT a.vk[i].1.ah o W.s[i].ah.aF).entries++o.entries⟩,a.vk[i].1.eR⟩:jl) ({ h7 with ea:=Do,ec:=Dy }:Hd)).length=10 from rfl) (show td CU (uj (⟨W.s[i].af,⟨(kT a.vk[i].1.ah o W.s[i].ah.aF).aF,(kT a.vk[i].1.ah o W.s[i].ah.aF).entries++o.entries⟩,a.vk[i].1.eR⟩:jl) ({ h7 with ea:=Do,ec:=Dy }:Hd)) ((⟨W.s[i].af,⟨(kT a.vk[i].1.ah o W.s[i].ah.aF).aF,(kT a.vk[i].1.ah o W.s[i].ah.aF).entries++o.entries⟩,a.vk[i].1.eR⟩:jl),({ h7 with ea:=Do,ec:=Dy }:Hd)) from ⟨rfl,⟨qH.ab,qH.aT,qH.aB,qH.index,qH.Jc,qH.av,qH.aD,qH.data⟩⟩)
 obtain⟨KN,DU⟩:∃ Z,Z=P.K.put g' (.cells (List.take (i*10) cs.toList++uj (⟨W.s[i].af,⟨(kT a.vk[i].1.ah o W.s[i].ah.aF).aF,(kT a.vk[i].1.ah o W.s[i].ah.aF).entries++o.entries⟩,a.vk[i].1.eR⟩:jl) ({ h7 with ea:=Do,ec:=Dy }:Hd)++List.drop (i*10+10) cs.toList).toArray 35):=⟨_,rfl⟩
 rw[←DU] at pk
 have j5:i*10+10≤cs.size:=by have:=Kh.EP;rw[dr];omega
 refine go 2 ?_
 refine RL.store (i:=7) (j:=i*10) rfl rfl rfl Ze.out rfl rfl e_ rfl oV rfl (by simp[Value.cells,Value.oneCell']) j5 ?_
 intro ws BL Bw
 have dI:ak ws CU (qn::R1::Q5::qS::Q1::P.W::P.S::KN::P.B::P.L::P.T::P.D::P.X::T):=by rw[DU];exact BL
 refine go 9 ?_
 refine zw (aaJ (l:=⟨(kT a.vk[i].1.ah o W.s[i].ah.aF).aF,(kT a.vk[i].1.ah o W.s[i].ah.aF).entries++o.entries⟩) (h:=({ h7 with ea:=Do,ec:=Dy }:Hd)) hk dI (.inr (by simp)) (.inl rfl) ⟨qH.index,qH.Jc,qH.av,qH.aD,qH.data,qD.eU⟩ eA.ah) ?_
 rintro Fs oN fv iX rfl
 refine go 2 ?_
 refine RL.part 129 rfl (fun Uo=>?_) (fun Uo=>?_)
 refine go 4 ?_
 refine RL.aj3 rfl rfl rfl rfl (by kernel_rfl) rfl rfl (adD W.s[i].af) ?_
 refine go 3 ?_
 refine CW.ret (bP ?_)
 have eB:=hw.ajK Jz (x:=((⟨W.s[i].af,⟨(kT a.vk[i].1.ah o W.s[i].ah.aF).aF,(kT a.vk[i].1.ah o W.s[i].ah.aF).entries++o.entries⟩,a.vk[i].1.eR⟩:jl),({ h7 with ea:=Do,ec:=Dy }:Hd))) (li.symm▸pk) qD
 have hVX:(⟨W.s[i].af,⟨(kT a.vk[i].1.ah o W.s[i].ah.aF).aF,(kT a.vk[i].1.ah o W.s[i].ah.aF).entries++o.entries⟩,a.vk[i].1.eR⟩:jl)=⟨W.s[i].af,W.s[i].ah,a.vk[i].1.eR⟩:=by rw[hk]
 rw[hVX] at eB
 have zz:=(((((((((((((fv.ae 12 rfl).ae 12 rfl).ae 12 rfl).ae 12 rfl).ae 12 rfl).ae 12 rfl).ae 12 rfl).ae 12 rfl).ae 9 rfl).cC 9).cC 9).cC 9).cC 9)
 rw[hT] at zz
 exact⟨_,_,_,rfl,(dz.trans oC),WP.xo Jz zz,(bQ.trans ((ar.drew _).trans (hY.trans (iC.trans (jr.trans ((ar.drew _).trans (Bw.trans iX))))))),eB⟩
 refine go 8 ?_
 refine CW.ret (bP ?_)
 exact absurd Uo (by decide)
end
end Go.Lw
namespace Go.Lw
open Go.Proofs
open dF (Wd)
attribute [local irreducible] RL RA
theorem f_.ajL {s:aj} {P:WP} {p:Nat} {w:Wd} {a:WA} (k:f_ s P p w a) {W' L' T':aj} {la ta:Option Addr} {lc tc:Nat} {l:List Int} {t:List Int} (hL:aW xk 2 133 s L' la lc l) (hT:aW (ax .u64) 1 22 s T' ta tc t) {cs:List Value} (hW:W' p=some (.cells cs.toArray 85 (0,0)))
  (dr:cs=Dd { w with cI:=l,ab:=t } { a with la:=la,lc:=lc,ta:=ta,tc:=tc }):f_ s { P with W:=W',L:=L',T:=T' } p { w with cI:=l,ab:=t } { a with la:=la,lc:=lc,ta:=ta,tc:=tc } :=
 { k with cells:=dr▸hW,L:=hL,T:=hT }
theorem f_.ajJ {s:aj} {P:WP} {p:Nat} {w:Wd} {a:WA} (k:f_ s P p w a) {W' D':aj} {da:Option Addr} {dc:Nat} {l:List aA} (hD:aW bg 6 65 s D' da dc l) {cs:List Value} (hW:W' p=some (.cells cs.toArray 85 (0,0)))
  (dr:cs=Dd { w with told:=l } { a with da:=da,dc:=dc }):f_ s { P with W:=W',D:=D' } p { w with told:=l } { a with da:=da,dc:=dc } :=
 { k with cells:=dr▸hW,D:=hD }
theorem bg.XT {s:aj} {vs:List Value} {x y:aA} (h:x=y) (k:bg s vs y):bg s vs x:=by subst h;exact k
section
variable {w:World} {s:aj} {os:List aj}
theorem YC {I:Wd→Prop} {P:WP} {p:Nat} {W:Wd} {a:WA} {i:Nat} {r:aU} (hg:ak w s (P.os++os)) (hw:f_ s P p W a) (hi:W.s[i]?=some r) (hS:r.ah.bL) (hb:W.told.length≤1073741824∧W.ab.length≤1073741824) (gK:aq .i64 r.id) (PQ:aq .u64 r.af.ab) (hI:I W)
  (h1:∀ W',I W'→W'.cI.length=W'.ab.length∧(r.aO=4→(∀ (k:Nat) (t b:Int),W'.ab[k]?=some t→W'.cI[k]?=some b→t=r.af.ab→b=r.id)∧I { W' with cI:=W'.cI++[r.id],ab:=W'.ab++[r.af.ab] }))
  (h2:∀ W' x,I W'→x∈r.ah.entries→x.index≤r.af.aB→(∀ y∈W'.told,y.index=x.index→y=x)∧I { W' with told:=W'.told++[x] }) :
  Calls Tryz.prog 55 #[ptr p,i64 i] w (fun e w'=>∃ W',I W'∧W'.told.length≤W.told.length+r.ah.entries.length∧W'.ab.length≤W.ab.length+1∧W'.s=W.s∧W'.cR=W.cR∧W'.aM=W.aM∧W'.nn=W.nn∧yR w s os p (.bool true) W' e w'):=by
 have fK:i<W.s.length:=(List.getElem?_eq_some_iff.1 hi).1
 have Ex:W.s[i]=r:=by rw[List.getElem?_eq_getElem fK] at hi;exact Option.some.inj hi
 subst Ex
 have Cc:=hw.S.gL
 simp only[maxLen] at Cc
 have bV:=hS.2.2.2
 obtain⟨T,hT⟩:∃ T,T=P.E++os:=⟨_,rfl⟩
 have hg:ak w s (P.W::P.S::P.K::P.B::P.L::P.T::P.D::P.X::T):=by rw[hT];exact hg
 have iK:=hw.cells
 have V0:=(h1 W hI).1
 refine enter (l:=[ptr p,i64 i]) Tryz.func55 rfl Tryz.ntmps55 rfl ?_
 refine go 11 ?_
 refine RL.dX rfl rfl rfl rfl rE.out rfl rfl hw.S.eU (by omega) (by omega) ?_
 rintro q vs eH hH ⟨VH,rfl,eA⟩
 have eA:fZ s W.s[i] VH:=eA
 have hH:Holds P.S q (jR W.s[i] VH):=hH
 refine RL.gX (j:=0) (us:=_) rfl rfl rfl rfl Is.out rfl (hH) (hg.mem (by simp)) rfl rfl ?_
 refine go 1 ?_
 rintro b1 w1 Q1 aH aN cz
 refine go 2 ?_
 rintro w2 Q2 aS aR gj
 refine go 2 ?_
 have tu:=gj
 refine CW.cx (fun E' w'=>∃ WN LN TN W' a',I W'∧E'=[(0,ptr p),(5,ptr b1)]∧ak w' s (Q2::WN::P.S::P.K::P.B::LN::TN::P.D::P.X::T)∧ar w w'∧f_ s { P with W:=WN,L:=LN,T:=TN } p W' a'∧W'.told=W.told∧W'.ab.length≤W.ab.length+1∧W'.s=W.s∧W'.cR=W.cR∧W'.aM=W.aM∧W'.nn=W.nn) ?_ ?_
 refine go 6 ?_
 refine CW.cond rfl (fun m_=>?_) (fun m_=>?_)
 refine go 10 ?_
 refine CW.loop (σ:=Nat) (fun j E w'=>∃ kn,∃ k:Nat,ak w' s (Q2::P.W::P.S::P.K::P.B::P.L::P.T::P.D::P.X::T)∧ar w w'∧E=[(0,ptr p),(5,ptr b1),(6,.bool kn),(7,i64 k)]∧k+j=W.ab.length) (fun j=>j) W.ab.length [(0,ptr p),(5,ptr b1),(6,.bool false),(7,i64 0)] ⟨rfl,rfl,rfl,rfl,trivial⟩ ⟨false,0,(((((((((aS.ae 8 rfl).ae 8 rfl).ae 8 rfl).ae 8 rfl).ae 8 rfl).ae 8 rfl).ae 8 rfl).ae 8 rfl).ae 8 rfl),(aN.trans aR),rfl,by omega⟩ ?_
 rintro j E wL ⟨kn,k,cd,cQ,rfl,hk⟩
 refine go 11 ?_
 refine CW.cond rfl (fun oU=>?_) (fun oU=>?_)
 have be:k<W.ab.length:=by have:=bU oU;omega
 refine go 4 ?_
 have aP:=cd.drew
 refine CW.dw [1,3,5,7,9,11,13,15,17,19,21] (fun w=>ay p _ w∧ay b1 _ w∧In P.T w∧True) ?_
 refine go 5 ?_
 refine RL.dX rfl rfl rfl rfl bG.out rfl rfl hw.T.eU (by omega) (by omega) ?_
 rintro q1 vs1 Ks oo ⟨rfl,zQ⟩
 refine RL.fV (j:=0) rfl rfl rfl rfl aV.out rfl (oo) (fun w h=>h.2.2.1) rfl ?_
 refine go 5 ?_
 refine CW.cond rfl (fun gi=>?_) (fun gi=>?_)
 refine go 5 ?_
 have bp:=aP.drew
 refine CW.dw [1,3,5,7,9,11,13,15,17,19,21] (fun w=>ay p _ w∧ay b1 _ w∧In P.L w∧True) ?_
 refine go 5 ?_
 refine RL.dX rfl rfl rfl rfl vF.out rfl rfl hw.L.eU (by omega) (by omega) ?_
 rintro q2 vs2 oE eS ⟨rfl,ph⟩
 refine go 1 ?_
 refine RL.fV (j:=0) rfl rfl rfl rfl ey.out rfl (eS) (fun w h=>h.2.2.1) rfl ?_
 refine go 4 ?_
 refine CW.cond rfl (fun Ni=>?_) (fun Ni=>?_)
 have hx:=((h1 W hI).2 (by simpa using m_)).1 k _ _ (List.getElem?_eq_getElem be) (List.getElem?_eq_getElem (by omega)) (by simpa using gi);simp[hx] at Ni
 refine go 6 ?_
 cases j with
 | zero=>omega
 | succ j=>exact fun ac ha=>⟨j,[(0,ptr p),(5,ptr b1),(6,.bool true),(7,i64 ((k:Int)+1))],ha.sub ⟨rfl,rfl,rfl,rfl,trivial⟩,⟨_,k+1,(((((((((bp.ae 8 rfl).ae 8 rfl).ae 8 rfl).ae 8 rfl).ae 8 rfl).ae 8 rfl).ae 8 rfl).ae 8 rfl).ae 8 rfl),(cQ.trans ((ar.drew _).trans (ar.drew _))),rfl,by omega⟩,Nat.lt_succ_self j⟩
 refine go 6 ?_
 cases j with
 | zero=>omega
 | succ j=>exact fun ac ha=>⟨j,[(0,ptr p),(5,ptr b1),(6,.bool kn),(7,i64 ((k:Int)+1))],ha.sub ⟨rfl,rfl,rfl,rfl,trivial⟩,⟨_,k+1,(((((((((aP.ae 8 rfl).ae 8 rfl).ae 8 rfl).ae 8 rfl).ae 8 rfl).ae 8 rfl).ae 8 rfl).ae 8 rfl).ae 8 rfl),(cQ.trans (ar.drew _)),rfl,by omega⟩,Nat.lt_succ_self j⟩
 refine go 6 ?_
 refine CW.cond rfl (fun h54=>?_) (fun h54=>?_)
 refine go 1 ?_
 have bh:=cd.drew
 refine CW.dx [1,3,5,7,9,11,13,15,16,18,21,23] [24] 12 1 (fun w=>ay p _ w∧ay b1 _ w∧True) ?_
 refine go 9 ?_
 rintro b6 w6 Q6 bx bM mn
 refine go 1 ?_
 obtain⟨aiu,P9,Oo⟩:=(tX (R:=ax .u64) (xs:=[W.s[i].af.ab]) bG.out mn (bx.mem (by simp)) (cF.jy rfl ⟨rfl,PQ⟩))
 refine RL.gQ (i:=7) (xs:=W.ab) (ys:=[W.s[i].af.ab]) rfl rfl rfl rfl bG.out ZI.out rfl (ax.one .u64) (rfl) rfl bx rfl (hw.T) P9 Oo ((by simp only[List.length_singleton];omega)) (by omega) ?_
 rintro a7 c7 A7 w7 bO pZ cj hk7 xX
 have hoT:=pZ
 refine go 6 ?_
 rintro w8 Q8 bD cM ra
 refine go 2 ?_
 have bA:=bD.drew
 refine CW.dx [1,3,5,7,9,11,13,15,16,18,21,23] [24] 12 1 (fun w=>ay p _ w∧ay b1 _ w∧True) ?_
 refine go 9 ?_
 rintro qU eX mE bj cm fS
 refine go 1 ?_
 obtain⟨aip,PX,Ok⟩:=(tX (R:=xk) (xs:=[W.s[i].id]) vF.out fS (bj.mem (by simp)) (cF.jy rfl ⟨rfl,gK⟩))
 refine RL.gQ (i:=7) (xs:=W.cI) (ys:=[W.s[i].id]) rfl rfl rfl rfl vF.out LQ.out rfl xk.one (rfl) rfl bj rfl (hw.L) PX Ok ((by simp only[List.length_singleton];omega)) (by omega) ?_
 rintro Mi Mt Am iS cy Hk dH ae8 afS
 have gp:=Hk
 refine go 6 ?_
 rintro jA me cw dK ml
 refine go 2 ?_
 exact fun ac ha=>⟨[(0,ptr p),(5,ptr b1)],ha.sub ⟨rfl,rfl,trivial⟩,⟨_,_,_,_,_,((h1 W hI).2 (by simpa using m_)).2,rfl,(((((((((((cw.ae 10 rfl).ae 10 rfl).ae 10 rfl).ae 10 rfl).ae 10 rfl).ae 10 rfl).ae 10 rfl).ae 10 rfl).ae 10 rfl).cC 9).cC 9),(cQ.trans ((ar.drew _).trans (bM.trans (cj.trans (cM.trans ((ar.drew _).trans (cm.trans (dH.trans dK)))))))),hw.ajL gp hoT ml rfl,rfl,by simp,rfl,rfl,rfl,rfl⟩⟩
 refine go 1 ?_
 exact fun ac ha=>⟨[(0,ptr p),(5,ptr b1)],ha.sub ⟨rfl,rfl,trivial⟩,⟨_,_,_,W,a,hI,rfl,(((((((((cd.ae 8 rfl).ae 8 rfl).ae 8 rfl).ae 8 rfl).ae 8 rfl).ae 8 rfl).ae 8 rfl).ae 8 rfl).ae 8 rfl),cQ,hw,rfl,by omega,rfl,rfl,rfl,rfl⟩⟩
 refine go 1 ?_
 exact fun ac ha=>⟨[(0,ptr p),(5,ptr b1)],ha.sub ⟨rfl,rfl,trivial⟩,⟨_,_,_,W,a,hI,rfl,(((((((((aS.ae 8 rfl).ae 8 rfl).ae 8 rfl).ae 8 rfl).ae 8 rfl).ae 8 rfl).ae 8 rfl).ae 8 rfl).ae 8 rfl),(aN.trans aR),hw,rfl,by omega,rfl,rfl,rfl,rfl⟩⟩
 rintro E2 w2 ⟨WN,LN,TN,W1,a1,zb,rfl,aS,aR,jP,e1,e2,e3,e4,e5,e6⟩
 refine go 6 ?_
 refine CW.loop (σ:=Nat) (fun j E w'=>∃ s' WM DM W' a',∃ k:Nat,I W'∧ak w' s' (Q2::WM::P.S::P.K::P.B::LN::TN::DM::P.X::T)∧ar w w'∧Le s s'∧E=[(0,ptr p),(5,ptr b1),(8,i64 k)]∧k+j=W.s[i].ah.entries.length∧f_ s' { P with W:=WM,L:=LN,T:=TN,D:=DM } p W' a'∧W'.told.length≤W.told.length+k∧W'.ab.length≤W.ab.length+1∧W'.s=W.s∧W'.cR=W.cR∧W'.aM=W.aM∧W'.nn=W.nn) (fun j=>j) W.s[i].ah.entries.length [(0,ptr p),(5,ptr b1),(8,i64 0)] ⟨rfl,rfl,rfl,trivial⟩ ⟨s,WN,P.D,W1,a1,0,zb,(((((((((aS.ae 8 rfl).ae 8 rfl).ae 8 rfl).ae 8 rfl).ae 8 rfl).ae 8 rfl).ae 8 rfl).ae 8 rfl).ae 8 rfl),aR,(Le.refl _),rfl,by omega,jP,by rw[e1];omega,e2,e3,e4,e5,e6⟩ ?_
 rintro j E wL ⟨sL,WM,DM,W2,a2,k,qZ,cd,cQ,fk,rfl,hk,ry,f1,f2,f3,f4,f5,f6⟩
 have eA:=eA.up fk
 have ku:=ry.cells
 refine go 10 ?_
 refine CW.cond rfl (fun Uy=>?_) (fun Uy=>?_)
 have h9:(k:Int)<(W.s[i].ah.entries.length:Int):=bU Uy
 have be:k<W.s[i].ah.entries.length:=by omega
 refine go 9 ?_
 refine RL.dX rfl rfl rfl rfl de.out rfl rfl eA.ah.entries (by omega) (by omega) ?_
 rintro q3 vs3 HL pP NA
 have adq:=NA
 obtain⟨ea,ec,ea1,ec1,ea2,ec2,rfl,er1,er2,er3,eh1,eh2,eh3⟩:=adq
 refine RL.gX (j:=0) (us:=_) rfl rfl rfl rfl nv.out rfl (pP) (cd.sh) rfl rfl ?_
 refine go 1 ?_
 rintro oP ji m7 dd eh nQ
 refine go 2 ?_
 rintro nw rK ck g_ tt
 refine go 12 ?_
 refine CW.cond rfl (fun Nq=>?_) (fun Nq=>?_)
 refine go 5 ?_
 refine CW.ret (bP ?_)
 have zz:=((((((((((ck.ae 9 rfl).ae 9 rfl).ae 9 rfl).ae 9 rfl).ae 9 rfl).ae 9 rfl).ae 9 rfl).ae 9 rfl).cC 8).cC 8)
 rw[hT] at zz
 exact⟨W2,qZ,by omega,f2,f3,f4,f5,f6,⟨_,{ P with W:=WM,L:=LN,T:=TN,D:=DM },a2,rfl,fk,zz,(cQ.trans (eh.trans g_)),ry⟩⟩
 have h9:¬ (W.s[i].ah.entries[k].index>W.s[i].af.aB):=ct Nq
 have cg:W.s[i].ah.entries[k].index≤W.s[i].af.aB:=by omega
 have He:W.s[i].ah.entries[k]∈W.s[i].ah.entries:=List.getElem_mem be
 have hc9:=tt
 refine go 11 ?_
 refine CW.loop (σ:=Nat) (fun j E w'=>∃ kn,∃ k2:Nat,ak w' sL (rK::Q2::WM::P.S::P.K::P.B::LN::TN::DM::P.X::T)∧ar w w'∧E=[(0,ptr p),(5,ptr b1),(8,i64 k),(9,ptr oP),(10,.bool kn),(11,i64 k2)]∧k2+j=W2.told.length) (fun j=>j) W2.told.length [(0,ptr p),(5,ptr b1),(8,i64 k),(9,ptr oP),(10,.bool false),(11,i64 0)] ⟨rfl,rfl,rfl,rfl,rfl,rfl,trivial⟩ ⟨false,0,((((((((((ck.ae 9 rfl).ae 9 rfl).ae 9 rfl).ae 9 rfl).ae 9 rfl).ae 9 rfl).ae 9 rfl).ae 9 rfl).ae 9 rfl).ae 9 rfl),(cQ.trans (eh.trans g_)),rfl,by omega⟩ ?_
 rintro j3 E3 wM ⟨kn,k2,r8,pT,rfl,pY⟩
 refine go 11 ?_
 refine CW.cond rfl (fun Uk=>?_) (fun Uk=>?_)
 have afA:k2<W2.told.length:=by have:=bU Uk;omega
 refine go 4 ?_
 have dt:=r8.drew
 refine CW.dw [1,3,5,7,9,11,13,15,17,19,21] (fun w=>ay p _ w∧ay oP _ w∧In DM w∧True) ?_
 refine go 5 ?_
 refine RL.dX rfl rfl rfl rfl de.out rfl rfl ry.D.eU (by omega) (by omega) ?_
 rintro q4 vs4 Kt uI ⟨fa,fc,fa1,fc1,fa2,fc2,rfl,fr1,fr2,fr3,fh1,fh2,fh3⟩
 refine go 1 ?_
 refine RL.fV (j:=0) rfl rfl rfl rfl aV.out rfl (uI) (fun w h=>h.2.2.1) rfl ?_
 refine go 4 ?_
 refine CW.cond rfl (fun F2=>?_) (fun F2=>?_)
 have dO:W2.told[k2]=W.s[i].ah.entries[k]:=(h2 W2 _ qZ He cg).1 _ (List.getElem_mem afA) (by simpa using F2)
 refine go 5 ?_
 have eC:=dt.drew
 refine CW.dw [1,3,5,7,9,11,13,15,16,19] (fun w=>ay p _ w∧ay oP _ w∧In DM w∧True) ?_
 refine go 5 ?_
 refine RL.dX rfl rfl rfl rfl de.out rfl rfl ry.D.eU (by omega) (by omega) ?_
 rintro q5 vs5 Wv F9 UH
 have ads:=UH
 obtain⟨ga,gc,ga1,gc1,ga2,gc2,rfl,gr1,gr2,gr3,gh1,gh2,gh3⟩:=ads
 refine RL.rB (j:=0) (us:=_) rfl rfl rfl rfl nv.out rfl (F9) (fun w h=>h.2.2.1) rfl rfl ?_
 refine go 2 ?_
 refine zw (Mf (x:=W2.told[k2]) eC (show bg _ _ W2.told[k2] from UH) (bg.XT dO NA)) ?_
 rintro C5 ny eZ hY rfl
 refine go 3 ?_
 refine CW.cond rfl (fun qX=>?_) (fun qX=>?_)
 simp at qX
 refine go 6 ?_
 cases j3 with
 | zero=>omega
 | succ j3=>exact fun ac ha=>⟨j3,[(0,ptr p),(5,ptr b1),(8,i64 k),(9,ptr oP),(10,.bool true),(11,i64 ((k2:Int)+1))],ha.sub ⟨rfl,rfl,rfl,rfl,rfl,rfl,trivial⟩,⟨_,k2+1,((((((((((eZ.ae 9 rfl).ae 9 rfl).ae 9 rfl).ae 9 rfl).ae 9 rfl).ae 9 rfl).ae 9 rfl).ae 9 rfl).ae 9 rfl).ae 9 rfl),(pT.trans ((ar.drew _).trans ((ar.drew _).trans hY))),rfl,by omega⟩,Nat.lt_succ_self j3⟩
 refine go 6 ?_
 cases j3 with
 | zero=>omega
 | succ j3=>exact fun ac ha=>⟨j3,[(0,ptr p),(5,ptr b1),(8,i64 k),(9,ptr oP),(10,.bool kn),(11,i64 ((k2:Int)+1))],ha.sub ⟨rfl,rfl,rfl,rfl,rfl,rfl,trivial⟩,⟨_,k2+1,((((((((((dt.ae 9 rfl).ae 9 rfl).ae 9 rfl).ae 9 rfl).ae 9 rfl).ae 9 rfl).ae 9 rfl).ae 9 rfl).ae 9 rfl).ae 9 rfl),(pT.trans (ar.drew _)),rfl,by omega⟩,Nat.lt_succ_self j3⟩
 refine go 6 ?_
 refine CW.cond rfl (fun adf=>?_) (fun adf=>?_)
 have fd:=r8.drew
 refine CW.dx [1,3,5,7,9,11,12,14,16,19,21] [22] 11 1 (fun w=>ay p _ w∧ay oP _ w∧True) ?_
 refine go 7 ?_
 refine zc (Md fd NA (hS.2.2.1 _ He)) ?_
 rintro Ix Rn B19 pF u9 fU jr ⟨us,rfl,hU⟩
 have fU:=fU.drop
 have ry:=ry.up u9
 obtain⟨ua,uc,ua1,uc1,ua2,uc2,rfl,Gk⟩:=hU
 refine go 2 ?_
 rintro th qh vV e_ jE uR
 refine go 1 ?_
 obtain⟨ais,P2,On⟩:=(tX (R:=bg) (xs:=[W.s[i].ah.entries[k]]) de.out uR (e_.mem (by simp)) (cF.jy rfl ⟨_,_,_,_,_,_,rfl,Gk⟩))
 refine RL.gQ (i:=9) (xs:=W2.told) (ys:=[W.s[i].ah.entries[k]]) rfl rfl rfl rfl de.out rI.out rfl bg.one (rfl) rfl e_ rfl (ry.D) P2 On ((by simp only[List.length_singleton];omega)) (by omega) ?_
 rintro a21 c21 IJ oN fv Po iX afb afV
 have hoD:=Po
 refine go 6 ?_
 rintro qN vW iL lh rZ
 refine go 7 ?_
 cases j with
 | zero=>omega
 | succ j=>exact fun ac ha=>⟨j,[(0,ptr p),(5,ptr b1),(8,i64 ((k:Int)+1))],ha.sub ⟨rfl,rfl,rfl,trivial⟩,⟨_,_,_,_,_,k+1,(h2 W2 _ qZ He cg).2,(((((((((((iL.ae 10 rfl).ae 10 rfl).ae 10 rfl).ae 10 rfl).ae 10 rfl).ae 10 rfl).ae 10 rfl).ae 10 rfl).ae 10 rfl).cC 9).cC 9),(pT.trans ((ar.drew _).trans (jr.trans (jE.trans (iX.trans lh))))),(fk.trans u9),rfl,by omega,ry.ajJ hoD rZ rfl,by simp only[List.length_append,List.length_singleton];omega,f2,f3,f4,f5,f6⟩,Nat.lt_succ_self j⟩
 refine go 6 ?_
 cases j with
 | zero=>omega
 | succ j=>exact fun ac ha=>⟨j,[(0,ptr p),(5,ptr b1),(8,i64 ((k:Int)+1))],ha.sub ⟨rfl,rfl,rfl,trivial⟩,⟨_,_,_,_,_,k+1,qZ,((((((((((r8.ae 9 rfl).ae 9 rfl).ae 9 rfl).ae 9 rfl).ae 9 rfl).ae 9 rfl).ae 9 rfl).ae 9 rfl).ae 9 rfl).cC 9),pT,fk,rfl,by omega,ry,by omega,f2,f3,f4,f5,f6⟩,Nat.lt_succ_self j⟩
 refine go 5 ?_
 refine CW.ret (bP ?_)
 have zz:=(((((((((cd.ae 8 rfl).ae 8 rfl).ae 8 rfl).ae 8 rfl).ae 8 rfl).ae 8 rfl).ae 8 rfl).ae 8 rfl).cC 8)
 rw[hT] at zz
 exact⟨W2,qZ,by omega,f2,f3,f4,f5,f6,⟨_,{ P with W:=WM,L:=LN,T:=TN,D:=DM },a2,rfl,fk,zz,cQ,ry⟩⟩
end
end Go.Lw
namespace Go.Lw
open Go.Proofs
open dF (Wd gP dG G np)
attribute [local irreducible] RL RA
theorem WP.K8 {w:World} {s:aj} {bs os:List aj} {P:WP} (hg:ak w s (bs++(P.os++os))):ak w s (P.os++(bs++os)):=hg.perm (List.perm_append_comm_assoc _ _ _)
theorem WP.Ly {w:World} {s:aj} {bs os:List aj} {P:WP} (hg:ak w s (P.os++(bs++os))):ak w s (bs++(P.os++os)):=hg.perm (List.perm_append_comm_assoc _ _ _)
theorem f_.YF {s:aj} {P:WP} {p:Nat} {w:Wd} {a:WA} (k:f_ s P p w a) {W' B':aj} {ba:Option Addr} {bc:Nat} {l:List az} (hB:nF iH 14 56 s B' ba bc l) {cs:List Value} (hW:W' p=some (.cells cs.toArray 85 (0,0)))
  (dr:cs=Dd { w with aM:=l } { a with ba:=ba,bc:=bc }):f_ s { P with W:=W',B:=B' } p { w with aM:=l } { a with ba:=ba,bc:=bc } :=
 { k with cells:=dr▸hW,B:=hB }
theorem XE {s:aj} {m:az} {y:cG} {c0:aY} {g:G} (h:du s m y) (hm:dG c0 g m):vR 200 m:=by
 obtain⟨h1,h2,h3,h4,h5⟩:=hm.ic
 refine⟨h.am,h.ab,h.index,h.cn,h.aB,fun e he=>?_,by omega,⟨by omega,by omega⟩,by omega⟩
 obtain⟨vs,hE⟩:=h.entries.eU.all e he
 obtain⟨ea,ec,ea1,ec1,ea2,ec2,wC,r1,r2,r3,pi⟩:=hE
 have ht:=h1 e he
 exact⟨r1,r2,by have:=ht.data;omega,⟨by have:=ht.av;omega,by have:=ht.aD;omega⟩⟩
structure L1 (n:Nat) (c0:aY) (g g':G) (c:Nat) (w w':Wd):Prop where
 aT:∀ j t,g.aT j t≠0→g'.aT j t=g.aT j t
 cY:gP n c0 g' (c+1) w'
 aM:∃ wV bB,w'.aM=wV++bB∧wV.length≤w.aM.length∧∀ m∈bB,∃ (q:Nat) (r:aU),w'.s[q]?=some r∧m.am=q+1∧(m.ao=1∨m.ao=3→(q:Int)+1∈(ce r.ah).1.av)
 told:w'.told.length≤w.told.length+1048576
 ab:w'.ab.length≤w.ab.length+1
 nn:w'.nn.length≤w.nn.length+1
theorem ahx {n c:Nat} {c0:aY} {g:G} {w:Wd} (h:gP n c0 g c w) {i:Nat} {r:aU} (hi:w.s[i]?=some r):w.cR[i]?=some ⟨r.af,r.ah,false⟩:=by
 have hl:i<w.cR.length:=by rw[h.tM,← h.len];exact (List.getElem?_eq_some_iff.1 hi).1
 have h1:=List.getElem?_eq_getElem hl
 rw[h1,h.cR i r _ hi h1]
section
variable {w:World} {s:aj} {os:List aj}
end
end Go.Lw
namespace Go.Lw
open Go.Proofs
open dF (Wd gP dG G np)
attribute [local irreducible] RL RA
def aal (n:Nat) (c0:aY) (c:Nat) (w0:World) (s:aj) (os:List aj) (p:Nat) (W:Wd) (i:Nat) (r:aU) (x:ez):Ending→World→Prop:=fun e w' =>
 ∃ W' g',gP n c0 g' (c+1) W'∧W'.s=W.s.set i (bI r x).1∧W'.aM=W.aM++(bI r x).2.1.aG∧W'.told.length≤W.told.length+(bI r x).1.ah.entries.length∧W'.ab.length≤W.ab.length+1∧yR w0 s os p (.bool true) W' e w'
section
variable {w:World} {s:aj} {os:List aj}
theorem acR {n c:Nat} {c0:aY} {g:G} {P:WP} {p:Nat} {W:Wd} {a:WA} {i:Nat} {r:aU} {x:ez} {y:cG} {da:Option Addr} {dc:Nat} (hg:ak w s (P.os++os)) (hw:f_ s P p W a) (hW:gP n c0 g c W) (hi:W.s[i]?=some r)
  (hx:x.ao=2→dG c0 g x.cr∧(np x.cr→x.cr.ab≤1+c)) (hd:x.data.length≤100) (lk:vQ 200 x) (cq:ux s x y da dc) (hc:c≤1000000) (hb:W.told.length≤1073741824∧W.ab.length≤1073741824) (he:(bI r x).2.2=0) (iF:W.aM.length+(bI r x).2.1.aG.length≤400) :
  Calls Tryz.prog 25 #[ptr p,i64 i,.agg (sw x y da dc).toArray,.bool false] w (aal n c0 c w s os p W i r x):=by
 have fK:i<W.s.length:=(List.getElem?_eq_some_iff.1 hi).1
 have Ex:W.s[i]=r:=by rw[List.getElem?_eq_getElem fK] at hi;exact Option.some.inj hi
 subst Ex
 have Cc:=hw.S.gL
 simp only[maxLen] at Cc
 have hn:=hW.node i _ hi
 have hF:=hn.gw
 have qA:=ahx hW hi
 have fJ:(200+203*c)+200+3≤1073741824:=by omega
 have uM:=Jn (n:=dA W.s[i]) hF lk (by omega)
 have tH:=M3 hF lk (by omega)
 have io:=hW.Tc
 obtain⟨K,hK⟩:∃ K,K=min (bI W.s[i] x).2.1.aG.length (400-W.aM.length):=⟨_,rfl⟩
 have hKl:K≤(bI W.s[i] x).2.1.aG.length:=by omega
 obtain⟨gN,hv,jw,U1⟩:=hW.step hi hx hd lk (by omega) (b:=W.aM++(bI W.s[i] x).2.1.aG.take K) (fun m hm=>(List.mem_append.1 hm).imp_right List.mem_of_mem_take) (by simp only[List.length_append,List.length_take];omega)
 have wq:=dF.aj5 (r:=W.s[i]) (x:=x) hn.Af.pD (by have:=hF.ah.index;simp only[aq] at this;omega) (by have:=cq.cr.index;simp only[aq] at this;omega)
 have agX:=dF.aj8 (r:=W.s[i]) (x:=x)
 have Kb:=tH.ah.bL (by omega)
 have aew:(∀ e∈(bI W.s[i] x).2.1.entries,e.bL)∧(bI W.s[i] x).2.1.entries.length≤1073741824:=by
  rw[W0] at wq
  have h1:(bI W.s[i] x).1.ah.entries=_:=congrArg br.entries wq.symm
  simp only at h1
  have h2:=tH.ah.count
  rw[h1,List.length_append] at h2
  exact⟨fun e he=>Kb.2.2.1 e (by rw[h1];exact List.mem_append_right _ he),by omega⟩
 have iK:=hw.cells
 refine enter (l:=[ptr p,i64 i,.agg (sw x y da dc).toArray,.bool false]) Tryz.func25 rfl Tryz.ntmps25 rfl ?_
 refine go 3 ?_
 rintro b1 w1 Q1 (aH:ak _ s (Q1::P.W::P.S::P.K::P.B::P.L::P.T::P.D::P.X::(P.E++os))) aN cz
 refine go 3 ?_
 refine CW.cx (fun E' w'=>∃ s' QA pA hA QO pO hO,E'=[(0,ptr p),(1,i64 i),(3,.bool false),(9,ptr pA),(10,ptr pO),(11,i64 (bI W.s[i] x).2.2)]∧ak w' s' (QA::QO::P.W::P.S::P.K::P.B::P.L::P.T::P.D::P.X::(P.E++os))∧ar w w'∧Le s s'∧QA pA=some (.cells (jR (bI W.s[i] x).1 hA).toArray 44 (0,0))∧QO pO=some (.cells (H6 (bI W.s[i] x).2.1 hO).toArray 50 (0,0))∧fZ s' (bI W.s[i] x).1 hA∧Ap s' (bI W.s[i] x).2.1 hO) ?_ ?_
 have aS:=aH.drew
 refine CW.lb (.dV [(true,0),(true,1),(true,2),(true,3),(true,4),(true,5),(true,6),(true,7)] (.dV [(false,8),(true,9),(true,10),(true,11),(true,12)] (.line [(false,13),(false,14),(false,15),(false,16),(false,17)]) (.line [(false,14),(false,13),(false,15),(false,16),(false,17)])) (.dV [] (.dV [(false,13)] (.line [(false,8),(true,9),(true,10),(true,11),(true,12),(false,14),(false,15),(false,16),(false,17)]) (.line [(false,14),(false,8),(true,9),(true,10),(true,11),(true,12),(false,15),(false,16),(false,17)])) (.dV [(false,14)] (.line [(false,8),(true,9),(true,10),(true,11),(true,12),(false,13),(false,15),(false,16),(false,17)]) (.line [(false,13),(false,8),(true,9),(true,10),(true,11),(true,12),(false,15),(false,16),(false,17)])))) (fun w=>ay p _ w∧ay b1 _ w∧In P.S w∧True) mixed (by kernel_rfl) (by kernel_rfl) (by kernel_rfl) (by kernel_rfl) (⟨aS.bS (by simp) iK,aS.bS (by simp) cz,aS.mem (by simp),trivial⟩) ?_
 refine RT.pre (S:=fun w=>ay p _ w∧ay b1 _ w∧In P.S w∧True) (⟨aS.bS (by simp) iK,aS.bS (by simp) cz,aS.mem (by simp),trivial⟩) ?_
 refine go 5 ?_
 refine RL.dX rfl rfl rfl rfl rE.out rfl rfl hw.S.eU (by omega) (by omega) ?_
 rintro q vs eH hH ⟨hh,rfl,eA⟩
 have eA:fZ s W.s[i] hh:=eA
 have hH:Holds P.S q (jR W.s[i] hh):=hH
 refine RL.rB (j:=0) (us:=_) rfl rfl rfl rfl Is.out rfl (hH) (fun w h=>h.2.2.1) rfl rfl ?_
 refine go 2 ?_
 refine RT.eE (S:=fun w=>ay p _ w∧ay b1 _ w∧In P.S w∧True) (⟨aS.bS (by simp) iK,aS.bS (by simp) cz,aS.mem (by simp),trivial⟩) (RT.pre (S:=fun w=>ay p _ w∧ay b1 _ w∧In P.S w∧True) (⟨aS.bS (by simp) iK,aS.bS (by simp) cz,aS.mem (by simp),trivial⟩) ?_) (RT.pre (S:=fun w=>ay p _ w∧ay b1 _ w∧In P.S w∧True) (⟨aS.bS (by simp) iK,aS.bS (by simp) cz,aS.mem (by simp),trivial⟩) ?_)
 refine go 1 ?_
 refine zc (uA aS eA cq (hF.aq (n:=dA W.s[i])) uM.aq (AV hF lk fJ) (show W.s[i].part.data.length≤70368744177664 by have:=hF.part;omega)) ?_
 rintro v3 s3 B3 w3 cO (aP:ak _ s3 (B3::Q1::P.W::P.S::P.K::P.B::P.L::P.T::P.D::P.X::(P.E++os))) bw ⟨g1,g2,rfl,wa,wg⟩
 have aP:=aP.drop
 have hw:=hw.up cO
 refine go 6 ?_
 refine RT.eE (S:=fun w=>ay p _ w∧ay b1 _ w∧In P.S w∧True) (⟨aP.bS (by simp) iK,aP.bS (by simp) cz,aP.mem (by simp),trivial⟩) (RT.di (S:=fun w=>ay p _ w∧ay b1 _ w∧In P.S w∧True) (⟨aP.bS (by simp) iK,aP.bS (by simp) cz,aP.mem (by simp),trivial⟩) ?_) (RT.di (S:=fun w=>ay p _ w∧ay b1 _ w∧In P.S w∧True) (⟨aP.bS (by simp) iK,aP.bS (by simp) cz,aP.mem (by simp),trivial⟩) ?_)
 refine go 1 ?_
 rintro b4 w4 Q4 (bp:ak _ s3 (Q4::Q1::P.W::P.S::P.K::P.B::P.L::P.T::P.D::P.X::(P.E++os))) bJ o3
 refine go 2 ?_
 rintro b5 w5 Q5 (bh:ak _ s3 (Q5::Q4::Q1::P.W::P.S::P.K::P.B::P.L::P.T::P.D::P.X::(P.E++os))) bQ mm
 refine go 2 ?_
 rintro w6 Q6 (bx:ak _ s3 (Q5::Q6::Q1::P.W::P.S::P.K::P.B::P.L::P.T::P.D::P.X::(P.E++os))) bM mn
 refine go 2 ?_
 rintro w7 Q7 (bO:ak _ s3 (Q7::Q6::Q1::P.W::P.S::P.K::P.B::P.L::P.T::P.D::P.X::(P.E++os))) cj qu
 refine go 3 ?_
 exact fun ac ha=>⟨[(0,ptr p),(1,i64 i),(3,.bool false),(9,ptr b4),(10,ptr b5),(11,i64 (bI W.s[i] x).2.2)],ha.sub ⟨rfl,rfl,rfl,rfl,rfl,rfl,trivial⟩,⟨_,_,b4,g1,_,b5,g2,rfl,(((((((((((bO.ae 10 rfl).ae 10 rfl).ae 10 rfl).ae 10 rfl).ae 10 rfl).ae 10 rfl).ae 10 rfl).ae 10 rfl).ae 8 rfl).ae 9 rfl).cC 10),(aN.trans ((ar.drew _).trans (bw.trans (bJ.trans (bQ.trans (bM.trans cj)))))),cO,mn,qu,wa,wg⟩⟩
 refine go 1 ?_
 rintro b8 w8 Q8 (bD:ak _ s3 (Q8::Q1::P.W::P.S::P.K::P.B::P.L::P.T::P.D::P.X::(P.E++os))) cM ra
 refine go 2 ?_
 rintro b9 w9 Q9 (bA:ak _ s3 (Q9::Q8::Q1::P.W::P.S::P.K::P.B::P.L::P.T::P.D::P.X::(P.E++os))) cu rb
 refine go 2 ?_
 rintro eX mE (bj:ak _ s3 (mE::Q8::Q1::P.W::P.S::P.K::P.B::P.L::P.T::P.D::P.X::(P.E++os))) cm fS
 refine go 2 ?_
 rintro iS rJ (cy:ak _ s3 (mE::rJ::Q1::P.W::P.S::P.K::P.B::P.L::P.T::P.D::P.X::(P.E++os))) dH rX
 refine go 3 ?_
 exact fun ac ha=>⟨[(0,ptr p),(1,i64 i),(3,.bool false),(9,ptr b9),(10,ptr b8),(11,i64 (bI W.s[i] x).2.2)],ha.sub ⟨rfl,rfl,rfl,rfl,rfl,rfl,trivial⟩,⟨_,_,b9,g1,_,b8,g2,rfl,(((((((((((cy.ae 10 rfl).ae 10 rfl).ae 10 rfl).ae 10 rfl).ae 10 rfl).ae 10 rfl).ae 10 rfl).ae 10 rfl).ae 9 rfl).ae 9 rfl).cC 10),(aN.trans ((ar.drew _).trans (bw.trans (cM.trans (cu.trans (cm.trans dH)))))),cO,fS,rX,wa,wg⟩⟩
 refine go 1 ?_
 refine RT.eE (S:=fun w=>ay p _ w∧ay b1 _ w∧In P.S w∧True) (⟨aS.bS (by simp) iK,aS.bS (by simp) cz,aS.mem (by simp),trivial⟩) (RT.pre (S:=fun w=>ay p _ w∧ay b1 _ w∧In P.S w∧True) (⟨aS.bS (by simp) iK,aS.bS (by simp) cz,aS.mem (by simp),trivial⟩) ?_) (RT.pre (S:=fun w=>ay p _ w∧ay b1 _ w∧In P.S w∧True) (⟨aS.bS (by simp) iK,aS.bS (by simp) cz,aS.mem (by simp),trivial⟩) ?_)
 refine go 1 ?_
 rintro kJ jA me (cw:ak _ s (me::Q1::P.W::P.S::P.K::P.B::P.L::P.T::P.D::P.X::(P.E++os))) dK ml
 refine go 2 ?_
 refine RT.eE (S:=fun w=>ay p _ w∧ay b1 _ w∧In P.S w∧True) (⟨cw.bS (by simp) iK,cw.bS (by simp) cz,cw.mem (by simp),trivial⟩) (RT.di (S:=fun w=>ay p _ w∧ay b1 _ w∧In P.S w∧True) (⟨cw.bS (by simp) iK,cw.bS (by simp) cz,cw.mem (by simp),trivial⟩) ?_) (RT.di (S:=fun w=>ay p _ w∧ay b1 _ w∧In P.S w∧True) (⟨cw.bS (by simp) iK,cw.bS (by simp) cz,cw.mem (by simp),trivial⟩) ?_)
 refine go 1 ?_
 refine zc (uA cw eA cq (hF.aq (n:=dA W.s[i])) uM.aq (AV hF lk fJ) (show W.s[i].part.data.length≤70368744177664 by have:=hF.part;omega)) ?_
 rintro yC Fc B13 ji nR (dd:ak _ Fc (B13::me::Q1::P.W::P.S::P.K::P.B::P.L::P.T::P.D::P.X::(P.E++os))) eh ⟨g1,g2,rfl,wa,wg⟩
 have dd:=dd.drop
 have hw:=hw.up nR
 refine go 6 ?_
 rintro te nw rK (ck:ak _ Fc (rK::me::Q1::P.W::P.S::P.K::P.B::P.L::P.T::P.D::P.X::(P.E++os))) g_ tt
 refine go 2 ?_
 rintro n_ xj (dt:ak _ Fc (rK::xj::Q1::P.W::P.S::P.K::P.B::P.L::P.T::P.D::P.X::(P.E++os))) iW q_
 refine go 2 ?_
 rintro md vT (eC:ak _ Fc (vT::xj::Q1::P.W::P.S::P.K::P.B::P.L::P.T::P.D::P.X::(P.E++os))) ie qt
 refine go 3 ?_
 exact fun ac ha=>⟨[(0,ptr p),(1,i64 i),(3,.bool false),(9,ptr kJ),(10,ptr te),(11,i64 (bI W.s[i] x).2.2)],ha.sub ⟨rfl,rfl,rfl,rfl,rfl,rfl,trivial⟩,⟨_,_,kJ,g1,_,te,g2,rfl,(((((((((((eC.ae 10 rfl).ae 10 rfl).ae 10 rfl).ae 10 rfl).ae 10 rfl).ae 10 rfl).ae 10 rfl).ae 10 rfl).ae 8 rfl).ae 9 rfl).cC 10),(aN.trans ((ar.drew _).trans (dK.trans (eh.trans (g_.trans (iW.trans ie)))))),nR,q_,qt,wa,wg⟩⟩
 refine go 1 ?_
 rintro qV ny qn (eZ:ak _ s (qn::me::Q1::P.W::P.S::P.K::P.B::P.L::P.T::P.D::P.X::(P.E++os))) hY nb
 refine go 2 ?_
 refine zc (uA eZ eA cq (hF.aq (n:=dA W.s[i])) uM.aq (AV hF lk fJ) (show W.s[i].part.data.length≤70368744177664 by have:=hF.part;omega)) ?_
 rintro Fr Lc B18 oM u0 (fd:ak _ Lc (B18::qn::me::Q1::P.W::P.S::P.K::P.B::P.L::P.T::P.D::P.X::(P.E++os))) iC ⟨g1,g2,rfl,wa,wg⟩
 have fd:=fd.drop
 have hw:=hw.up u0
 refine go 6 ?_
 rintro pF qS (fU:ak _ Lc (qn::qS::Q1::P.W::P.S::P.K::P.B::P.L::P.T::P.D::P.X::(P.E++os))) jr o0
 refine go 2 ?_
 rintro qh vV (e_:ak _ Lc (vV::qS::Q1::P.W::P.S::P.K::P.B::P.L::P.T::P.D::P.X::(P.E++os))) jE uR
 refine go 3 ?_
 exact fun ac ha=>⟨[(0,ptr p),(1,i64 i),(3,.bool false),(9,ptr kJ),(10,ptr qV),(11,i64 (bI W.s[i] x).2.2)],ha.sub ⟨rfl,rfl,rfl,rfl,rfl,rfl,trivial⟩,⟨_,_,kJ,g1,_,qV,g2,rfl,(((((((((((e_.ae 10 rfl).ae 10 rfl).ae 10 rfl).ae 10 rfl).ae 10 rfl).ae 10 rfl).ae 10 rfl).ae 10 rfl).ae 8 rfl).ae 9 rfl).cC 10),(aN.trans ((ar.drew _).trans (dK.trans (hY.trans (iC.trans (jr.trans jE)))))),u0,o0,uR,wa,wg⟩⟩
 refine go 1 ?_
 rintro rO oN Aq (fv:ak _ s (Aq::Q1::P.W::P.S::P.K::P.B::P.L::P.T::P.D::P.X::(P.E++os))) iX xF
 refine go 2 ?_
 refine RT.eE (S:=fun w=>ay p _ w∧ay b1 _ w∧In P.S w∧True) (⟨fv.bS (by simp) iK,fv.bS (by simp) cz,fv.mem (by simp),trivial⟩) (RT.di (S:=fun w=>ay p _ w∧ay b1 _ w∧In P.S w∧True) (⟨fv.bS (by simp) iK,fv.bS (by simp) cz,fv.mem (by simp),trivial⟩) ?_) (RT.di (S:=fun w=>ay p _ w∧ay b1 _ w∧In P.S w∧True) (⟨fv.bS (by simp) iK,fv.bS (by simp) cz,fv.mem (by simp),trivial⟩) ?_)
 refine go 1 ?_
 refine zc (uA fv eA cq (hF.aq (n:=dA W.s[i])) uM.aq (AV hF lk fJ) (show W.s[i].part.data.length≤70368744177664 by have:=hF.part;omega)) ?_
 rintro v22 s22 B22 qN BS (iL:ak _ s22 (B22::Aq::Q1::P.W::P.S::P.K::P.B::P.L::P.T::P.D::P.X::(P.E++os))) lh ⟨g1,g2,rfl,wa,wg⟩
 have iL:=iL.drop
 have hw:=hw.up BS
 refine go 6 ?_
 rintro S7 xe Ar (iM:ak _ s22 (Ar::Aq::Q1::P.W::P.S::P.K::P.B::P.L::P.T::P.D::P.X::(P.E++os))) pR D2
 refine go 2 ?_
 rintro uk As (gB:ak _ s22 (As::Aq::Q1::P.W::P.S::P.K::P.B::P.L::P.T::P.D::P.X::(P.E++os))) nP xG
 refine go 2 ?_
 rintro ul Au (js:ak _ s22 (As::Au::Q1::P.W::P.S::P.K::P.B::P.L::P.T::P.D::P.X::(P.E++os))) ou uS
 refine go 3 ?_
 exact fun ac ha=>⟨[(0,ptr p),(1,i64 i),(3,.bool false),(9,ptr S7),(10,ptr rO),(11,i64 (bI W.s[i] x).2.2)],ha.sub ⟨rfl,rfl,rfl,rfl,rfl,rfl,trivial⟩,⟨_,_,S7,g1,_,rO,g2,rfl,(((((((((((js.ae 10 rfl).ae 10 rfl).ae 10 rfl).ae 10 rfl).ae 10 rfl).ae 10 rfl).ae 10 rfl).ae 10 rfl).ae 9 rfl).ae 9 rfl).cC 10),(aN.trans ((ar.drew _).trans (iX.trans (lh.trans (pR.trans (nP.trans ou)))))),BS,xG,uS,wa,wg⟩⟩
 refine go 1 ?_
 rintro FM un yP (gk:ak _ s (yP::Aq::Q1::P.W::P.S::P.K::P.B::P.L::P.T::P.D::P.X::(P.E++os))) mJ wh
 refine go 2 ?_
 refine zc (uA gk eA cq (hF.aq (n:=dA W.s[i])) uM.aq (AV hF lk fJ) (show W.s[i].part.data.length≤70368744177664 by have:=hF.part;omega)) ?_
 rintro IC Ij B27 rH se (iN:ak _ Ij (B27::yP::Aq::Q1::P.W::P.S::P.K::P.B::P.L::P.T::P.D::P.X::(P.E++os))) mj ⟨g1,g2,rfl,wa,wg⟩
 have iN:=iN.drop
 have hw:=hw.up se
 refine go 6 ?_
 rintro vH Av (jG:ak _ Ij (Av::Aq::Q1::P.W::P.S::P.K::P.B::P.L::P.T::P.D::P.X::(P.E++os))) oZ uT
 refine go 2 ?_
 rintro vI Dk (i_:ak _ Ij (Av::Dk::Q1::P.W::P.S::P.K::P.B::P.L::P.T::P.D::P.X::(P.E++os))) pS xH
 refine go 3 ?_
 exact fun ac ha=>⟨[(0,ptr p),(1,i64 i),(3,.bool false),(9,ptr FM),(10,ptr rO),(11,i64 (bI W.s[i] x).2.2)],ha.sub ⟨rfl,rfl,rfl,rfl,rfl,rfl,trivial⟩,⟨_,_,FM,g1,_,rO,g2,rfl,(((((((((((i_.ae 10 rfl).ae 10 rfl).ae 10 rfl).ae 10 rfl).ae 10 rfl).ae 10 rfl).ae 10 rfl).ae 10 rfl).ae 9 rfl).ae 9 rfl).cC 10),(aN.trans ((ar.drew _).trans (iX.trans (mJ.trans (mj.trans (oZ.trans pS)))))),se,uT,xH,wa,wg⟩⟩
 rintro E1 w1 ⟨s1,QA,pA,hA,QO,pO,hO,rfl,aH,aN,eu,hQA,hQO,eA,zf⟩
 have hw:=hw.up eu
 refine go 6 ?_
 refine CW.cond rfl (fun oU=>?_) (fun oU=>?_)
 exact absurd oU (by rw[he];decide)
 refine go 6 ?_
 refine CW.cond rfl (fun iB=>?_) (fun iB=>?_)
 cases iB
 refine go 2 ?_
 have ja:=aH.drew
 refine CW.dx [1,3,5,7,9,11,13] [14] 7 1 (fun w=>ay p _ w∧ay pA _ w∧True) ?_
 refine go 6 ?_
 refine RL.Cy rfl rfl rfl rfl rE.out rfl rfl hw.S (by omega) (by omega) ?_
 rintro g' cs vs' li oV dr Kr wi _
 have Ev:aW uz 20 44 s1 P.S (some ⟨g',0,none⟩) a.sc W.s:=li▸hw.S
 have pk:=Ev.set oV fK (show (jR (bI W.s[i] x).1 hA).length=20 from rfl) ⟨hA,rfl,eA⟩
 obtain⟨SN,UU⟩:∃ Z,Z=P.S.put g' (.cells (List.take (i*20) cs.toList++jR (bI W.s[i] x).1 hA++List.drop (i*20+20) cs.toList).toArray 44):=⟨_,rfl⟩
 rw[←UU] at pk
 have j5:i*20+20≤cs.size:=by have:=Ev.EP;rw[dr];omega
 refine go 2 ?_
 refine RL.store (i:=3) (j:=i*20) rfl rfl rfl Is.out rfl rfl ja rfl oV rfl (by simp[Value.cells,Value.oneCell']) j5 ?_
 intro ws BL Bw
 have dI:ak ws s1 (QA::QO::P.W::SN::P.K::P.B::P.L::P.T::P.D::P.X::(P.E++os)):=by rw[UU];exact BL
 have ry:=hw.ajM (li.symm▸pk) (by simp)
 refine go 7 ?_
 have GV:(W.s.set i (bI W.s[i] x).1)[i]?=some (bI W.s[i] x).1:=by rw[List.getElem?_set,if_pos rfl,if_pos fK]
 have BK:ak _ s1 (({ P with S:=SN }:WP).os++([QA,QO]++os)):=WP.K8 (bs:=[QA,QO]) (P:={ P with S:=SN }) dI
 refine RL.rP rfl rfl rfl rfl rfl abA.out (ahv BK ry GV qA zf wq agX Kb aew (show W.s[i].ah.entries.length≤1073741824 by have:=hF.ah.count;omega) ⟨tH.ab,tH.aT,tH.aB⟩) ?_
 rintro e3 w3 ⟨s3,P3,a3,rfl,cO,OY,bw,Cs⟩
 have aP:ak w3 s3 (QA::QO::P3.W::P3.S::P3.K::P3.B::P3.L::P3.T::P3.D::P3.X::(P3.E++os)):=WP.Ly (bs:=[QA,QO]) OY
 have zf:=zf.up cO
 refine⟨_,rfl,trivial,?_⟩
 refine go 8 ?_
 obtain⟨WF,qs⟩:∃ f:List az→Wd,f=fun b=>{ W with s:=W.s.set i (bI W.s[i] x).1,cR:=W.cR.set i ⟨(bI W.s[i] x).1.af,(bI W.s[i] x).1.ah,false⟩,aM:=b }:=⟨_,rfl⟩
 have Cs:f_ s3 P3 p (WF W.aM) a3:=by rw[qs];exact Cs
 have NR:∀ b,(WF b).aM=b:=fun b=>by rw[qs]
 have JR:=hQO
 refine CW.loop (σ:=Nat) (fun j E w'=>∃ s' PW PB a',∃ k:Nat,ak w' s' (QO::PW::P3.S::P3.K::PB::P3.L::P3.T::P3.D::P3.X::(P3.E++os))∧ar w w'∧Le s s'∧Le s3 s'∧E=[(0,ptr p),(1,i64 i),(10,ptr pO),(12,.bool true),(13,i64 k)]∧k+j=K∧f_ s' { P3 with W:=PW,B:=PB } p (WF (W.aM++(bI W.s[i] x).2.1.aG.take k)) a') (fun j=>j) K [(0,ptr p),(1,i64 i),(10,ptr pO),(12,.bool true),(13,i64 0)] ⟨rfl,rfl,rfl,rfl,rfl,trivial⟩ ⟨s3,P3.W,P3.B,a3,0,((((((((((aP.ae 9 rfl).ae 9 rfl).ae 9 rfl).ae 9 rfl).ae 9 rfl).ae 9 rfl).ae 9 rfl).ae 9 rfl).ae 9 rfl).cC 9),(aN.trans ((ar.drew _).trans (Bw.trans bw))),(eu.trans cO),Le.refl _,rfl,by omega,by rw[List.take_zero,List.append_nil];exact Cs⟩ ?_
 rintro j E wL ⟨sL,PW,PB,aL,k,cd,cQ,fk,qC,rfl,hk,Ct⟩
 have zf:=zf.up qC
 have ku:=Ct.cells
 have hbL:(WF (W.aM++(bI W.s[i] x).2.1.aG.take k)).aM.length=W.aM.length+k:=by rw[NR,List.length_append,List.length_take];omega
 refine go 9 ?_
 refine RL.part 49 rfl (fun Be=>?_) (fun Be=>?_)
 refine go 8 ?_
 refine CW.cond rfl (fun za=>?_) (fun za=>?_)
 have be:k<(bI W.s[i] x).2.1.aG.length:=by have h9:(k:Int)<((bI W.s[i] x).2.1.aG.length:Int):=bU Be;omega
 have hlk:k<K:=by have h9:((WF (W.aM++(bI W.s[i] x).2.1.aG.take k)).aM.length:Int)<400:=bU za;omega
 refine go 3 ?_
 have kQ:=cd.drew
 refine CW.TV [(true,0),(true,1),(true,2),(true,3),(true,4),(true,5),(true,6),(true,7),(true,8),(true,9),(false,10),(false,11),(false,12),(true,13),(true,14)] [(false,15)] 15 #[true,true,true,true,true,true,true,true,true,true,true,true,true,true,true,false] (fun w=>ay p _ w∧ay pO _ w∧In sL w∧True) mixed (by kernel_rfl) (by kernel_rfl) (by kernel_rfl) (by kernel_rfl) (by kernel_rfl) (⟨kQ.bS (by simp) ku,kQ.bS (by simp) JR,(kQ.sh).le (Le.refl _),trivial⟩) ?_
 refine go 8 ?_
 refine RL.dX rfl rfl rfl rfl kB.out rfl rfl zf.2.eU (by omega) (show ((k:Nat):Int)<((bI W.s[i] x).2.1.aG.length:Int) by omega) ?_
 rintro q2 vs2 oE eS ⟨y2,rfl,mN⟩
 refine RL.rB (j:=0) (us:=_) rfl rfl rfl rfl Zh.out rfl (eS) (fun w h=>h.2.2.1) rfl rfl ?_
 refine go 1 ?_
 refine zc (abN kQ mN ((XE mN (jw _ (List.getElem_mem be)).1).bL (by omega))) ?_
 rintro v32 Rr B32 sW tC (iD:ak _ Rr (B32::QO::PW::P3.S::P3.K::PB::P3.L::P3.T::P3.D::P3.X::(P3.E++os))) ov ⟨y3,rfl,hm3⟩
 have iD:=iD.drop
 have zf:=zf.up tC
 have Ct:=Ct.up tC
 refine⟨⟨iD.bS (by simp) ku,iD.bS (by simp) JR,(iD.sh).le tC,trivial⟩,?_⟩
 refine go 1 ?_
 rintro I_ qi Dl (c_:ak _ Rr (Dl::QO::PW::P3.S::P3.K::PB::P3.L::P3.T::P3.D::P3.X::(P3.E++os))) gR xI
 refine⟨⟨c_.bS (by simp) ku,c_.bS (by simp) JR,(c_.sh).le tC,trivial⟩,?_⟩
 obtain⟨aqn,ag3,aei⟩:=(tX (R:=iH) (xs:=[(bI W.s[i] x).2.1.aG[k]]) kB.out xI (c_.mem (by simp)) (cF.jy rfl ⟨y3,rfl,hm3⟩))
 refine RL.aa_ (i:=5) (xs:=(WF (W.aM++(bI W.s[i] x).2.1.aG.take k)).aM) (ys:=[(bI W.s[i] x).2.1.aG[k]]) rfl rfl rfl rfl kB.out ur.out rfl iH.one (rfl) rfl c_ rfl (Ct.B) ag3 aei ((by simp only[List.length_singleton];omega)) (by omega) ?_
 rintro Dq AB R5 yH (jt:ak _ Rr (Dl::QO::PW::P3.S::P3.K::R5::P3.L::P3.T::P3.D::P3.X::(P3.E++os))) sr rW apv apX
 have hoB:=sr
 refine⟨⟨jt.bS (by simp) ku,jt.bS (by simp) JR,(jt.sh).le tC,trivial⟩,?_⟩
 refine go 5 ?_
 rintro uo L8 (jH:ak _ Rr (Dl::QO::L8::P3.S::P3.K::R5::P3.L::P3.T::P3.D::P3.X::(P3.E++os))) ow Gx
 refine go 7 ?_
 cases j with
 | zero=>omega
 | succ j =>
  have HN:=Ct.YF hoB Gx rfl
  have hz:({ (WF (W.aM++(bI W.s[i] x).2.1.aG.take k)) with aM:=(WF (W.aM++(bI W.s[i] x).2.1.aG.take k)).aM++[(bI W.s[i] x).2.1.aG[k]] }:Wd)=WF (W.aM++(bI W.s[i] x).2.1.aG.take (k+1)):=by rw[qs];simp only[List.take_succ_eq_append_getElem be,List.append_assoc]
  rw[hz] at HN
  exact fun ac ha=>⟨j,[(0,ptr p),(1,i64 i),(10,ptr pO),(12,.bool true),(13,i64 ((k:Int)+1))],ha.sub ⟨rfl,rfl,rfl,rfl,rfl,trivial⟩,⟨_,_,_,_,k+1,((((((((((jH.ae 9 rfl).ae 9 rfl).ae 9 rfl).ae 9 rfl).ae 9 rfl).ae 9 rfl).ae 9 rfl).ae 9 rfl).ae 9 rfl).cC 9),(cQ.trans ((ar.drew _).trans (ov.trans (gR.trans (rW.trans ow))))),(fk.trans tC),qC.trans tC,rfl,by omega,HN⟩,Nat.lt_succ_self j⟩
 have GX:k=K:=by have h9:¬ (((WF (W.aM++(bI W.s[i] x).2.1.aG.take k)).aM.length:Int)<400):=ct za;omega
 refine go 7 ?_
 have NS:gP n c0 gN (c+1) (WF (W.aM++(bI W.s[i] x).2.1.aG.take k)):=by rw[GX,qs];exact U1
 have uY:(WF (W.aM++(bI W.s[i] x).2.1.aG.take k)).s[i]?=some (bI W.s[i] x).1:=by rw[qs];exact GV
 have Od:(WF (W.aM++(bI W.s[i] x).2.1.aG.take k)).told.length≤1073741824∧(WF (W.aM++(bI W.s[i] x).2.1.aG.take k)).ab.length≤1073741824:=by rw[qs];exact hb
 have BK:ak _ sL (({ P3 with W:=PW,B:=PB }:WP).os++([QO]++os)):=WP.K8 (bs:=[QO]) (P:={ P3 with W:=PW,B:=PB }) cd
 refine RL.rP rfl rfl rfl rfl rfl Tn.out (YC (I:=fun W'=>gP n c0 gN (c+1) W'∧W'.s=(WF (W.aM++(bI W.s[i] x).2.1.aG.take k)).s) BK Ct uY Kb Od tH.id tH.ab ⟨NS,rfl⟩ (fun W' k1=>⟨k1.1.vv.1,fun hr=>⟨(k1.1.leads (by rw[k1.2];exact uY) hr).1,(k1.1.leads (by rw[k1.2];exact uY) hr).2,k1.2⟩⟩) (fun W' x k1 hx cg=>⟨(k1.1.Lv (by rw[k1.2];exact uY) hx cg).1,(k1.1.Lv (by rw[k1.2];exact uY) hx cg).2,k1.2⟩)) ?_
 rintro e4 w4 ⟨W5,⟨NF,PU⟩,HD,HH,P_,oB,Oe,hsn,s4,P4,a4,rfl,fL,OZ,bJ,HM⟩
 have bp:ak w4 s4 (QO::P4.W::P4.S::P4.K::P4.B::P4.L::P4.T::P4.D::P4.X::(P4.E++os)):=WP.Ly (bs:=[QO]) OZ
 refine⟨_,rfl,trivial,?_⟩
 refine go 3 ?_
 refine CW.ret (bP ?_)
 have GY:k=(bI W.s[i] x).2.1.aG.length:=by rw[GX,hK];omega
 have eb:W5.aM=W.aM++(bI W.s[i] x).2.1.aG:=by rw[Oe,NR,GY,List.take_length]
 refine⟨W5,gN,NF,by rw[P_,qs],eb,?_,?_,⟨_,P4,a4,rfl,(fk.trans fL),(((((((((bp.ae 8 rfl).ae 8 rfl).ae 8 rfl).ae 8 rfl).ae 8 rfl).ae 8 rfl).ae 8 rfl).ae 8 rfl).cC 8),(cQ.trans bJ),HM⟩⟩
 rw[qs] at HD;simp only at HD;omega
 rw[qs] at HH;simp only at HH;omega
 have GX:k=K:=by have h9:¬ ((k:Int)<((bI W.s[i] x).2.1.aG.length:Int)):=ct Be;omega
 refine go 16 ?_
 have NS:gP n c0 gN (c+1) (WF (W.aM++(bI W.s[i] x).2.1.aG.take k)):=by rw[GX,qs];exact U1
 have uY:(WF (W.aM++(bI W.s[i] x).2.1.aG.take k)).s[i]?=some (bI W.s[i] x).1:=by rw[qs];exact GV
 have Od:(WF (W.aM++(bI W.s[i] x).2.1.aG.take k)).told.length≤1073741824∧(WF (W.aM++(bI W.s[i] x).2.1.aG.take k)).ab.length≤1073741824:=by rw[qs];exact hb
 have BK:ak _ sL (({ P3 with W:=PW,B:=PB }:WP).os++([QO]++os)):=WP.K8 (bs:=[QO]) (P:={ P3 with W:=PW,B:=PB }) cd
 refine RL.rP rfl rfl rfl rfl rfl Tn.out (YC (I:=fun W'=>gP n c0 gN (c+1) W'∧W'.s=(WF (W.aM++(bI W.s[i] x).2.1.aG.take k)).s) BK Ct uY Kb Od tH.id tH.ab ⟨NS,rfl⟩ (fun W' k1=>⟨k1.1.vv.1,fun hr=>⟨(k1.1.leads (by rw[k1.2];exact uY) hr).1,(k1.1.leads (by rw[k1.2];exact uY) hr).2,k1.2⟩⟩) (fun W' x k1 hx cg=>⟨(k1.1.Lv (by rw[k1.2];exact uY) hx cg).1,(k1.1.Lv (by rw[k1.2];exact uY) hx cg).2,k1.2⟩)) ?_
 rintro e4 w4 ⟨W5,⟨NF,PU⟩,HD,HH,P_,oB,Oe,hsn,s4,P4,a4,rfl,fL,OZ,bJ,HM⟩
 have bp:ak w4 s4 (QO::P4.W::P4.S::P4.K::P4.B::P4.L::P4.T::P4.D::P4.X::(P4.E++os)):=WP.Ly (bs:=[QO]) OZ
 refine⟨_,rfl,trivial,?_⟩
 refine go 3 ?_
 refine CW.ret (bP ?_)
 have GY:k=(bI W.s[i] x).2.1.aG.length:=by rw[GX,hK];omega
 have eb:W5.aM=W.aM++(bI W.s[i] x).2.1.aG:=by rw[Oe,NR,GY,List.take_length]
 refine⟨W5,gN,NF,by rw[P_,qs],eb,?_,?_,⟨_,P4,a4,rfl,(fk.trans fL),(((((((((bp.ae 8 rfl).ae 8 rfl).ae 8 rfl).ae 8 rfl).ae 8 rfl).ae 8 rfl).ae 8 rfl).ae 8 rfl).cC 8),(cQ.trans bJ),HM⟩⟩
 rw[qs] at HD;simp only at HD;omega
 rw[qs] at HH;simp only at HH;omega
end
end Go.Lw
namespace Go.Lw
open Go.Proofs
open dF (Wd gP dG G np)
attribute [local irreducible] RL RA
theorem WP.HU {w:World} {s e:aj} {os:List aj} {P:WP} {i:Nat} (h:P.E[i]?=some e) (hg:ak w s (e::P.W::P.S::P.K::P.B::P.L::P.T::P.D::P.X::(P.E.eraseIdx i++os))):ak w s (P.os++os):=by
 have h1:=WP.xo h hg
 obtain⟨hl,he⟩:=List.getElem?_eq_some_iff.1 h
 have h2:P.E.set i e=P.E:=by rw[←he];exact List.set_getElem_self hl
 rw[h2] at h1
 exact h1
section
variable {w:World} {s r:aj} {os:List aj}
end
end Go.Lw
namespace Go.Lw
open Go.Proofs
open dF (Wd gP dG G np)
attribute [local irreducible] RL RA
section
variable {P:Program} {n:Nat} {ops:Array Oper} {Q:Exit→Act→World→Prop} {S:World→Prop} {au:List (Bool × Oper)} {E:dE} {w:World} {o:Oper} {d:Nat}
variable {x y:Operand} {T:Bool}
end
structure aaF where
 what:Int
 node:Int
 lG:Int
 n:Int
 data:List Int
structure ak1 (s:aj) (x:aaF) (a:Option Addr) (c:Nat):Prop where
 what:aq .i64 x.what
 node:aq .i64 x.node
 lG:aq .i64 x.lG
 n:aq .i64 x.n
 data:bm (ax .u8) 1 s a c x.data
theorem L1.sub {n c:Nat} {c0:aY} {g g':G} {w w1 w':Wd} (h:L1 n c0 g g' c w1 w') (hb:w1.aM.length≤w.aM.length) (ht:w1.told=w.told) (hm:w1.ab=w.ab) (hs:w1.nn=w.nn):L1 n c0 g g' c w w':=by
 obtain⟨wV,bB,h1,h2,h3⟩:=h.aM
 exact { h with aM:=⟨wV,bB,h1,Nat.le_trans h2 hb,h3⟩,told:=by have:=h.told;rw[ht] at this;exact this,ab:=by have:=h.ab;rw[hm] at this;exact this,nn:=by have:=h.nn;rw[hs] at this;exact this }
theorem WQ {s:aj} {x:ez} {da:Option Addr} {dc:Nat} (hm:x.cr=az.zero) (h1:aq .i64 x.ao) (h2:aq .i64 x.sS) (h3:aq .i64 x.kZ) (h4:aq .i64 x.k9) (h5:aq .i64 x.to) (h6:bm (ax .u8) 1 s da dc x.data):ux s x cG.none da dc :=
 ⟨by rw[hm];exact du.zero s,h1,h2,h3,h4,h5,h6⟩
theorem WO {x:ez} (hm:x.cr=az.zero) (hd:x.data.length≤100):vQ 200 x :=
 ⟨by rw[hm];exact⟨by simp[aq,az.zero],by simp[aq,az.zero],by simp[aq,az.zero],by simp[aq,az.zero],by simp[aq,az.zero],fun e he=>(by cases he),Nat.zero_le _,⟨Nat.zero_le _,Nat.zero_le _⟩,Nat.zero_le _⟩,by omega⟩
section
variable {w:World} {s:aj} {os:List aj}
theorem Q_ {c:Int} {n:Nat} (hg:ak w s os) (hc:aq .i64 c) (hn:0<n) (sl:n≤1000) :
  Calls Tryz.prog 14 #[i64 c,i64 (n:Int)] w (aQ w s os fun q=>∃ k:Nat,k<n∧q=i64 (k:Int)) :=
 (aiZ hg hc (by omega) (by omega)).mono fun e w' ⟨v,he,uX,jq,hv⟩=>⟨v,he,uX,jq,(CQ c n).toNat,by
  have:=X3 (n:=(n:Int)) hc (by omega);omega,by
  have:=X3 (n:=(n:Int)) hc (by omega)
  rw[hv,Int.toNat_of_nonneg this.1]⟩
end
end Go.Lw
namespace Go.Lw.jj
open dF
def lg (c0:aY) (F:List aA):Nat→br
 | 0=>⟨⟨0,0,⟨[],[]⟩,[]⟩,[]⟩
 | k+1=>⟨⟨1,1,c0,[]⟩,F.take k⟩
def tm (F:List aA):Nat→Int
 | 0=>0
 | k+1=>fy F k
def ef (c0:aY) (F:List aA):Nat→aY
 | 0=>⟨[],[]⟩
 | k+1=>ik c0 (F.take k)
def EK (n:Nat) (c:aY):Prop:=∀ v∈c.av++c.aD,1≤v∧v≤n
structure dg (n:Nat) (c0:aY) (F:List aA) (T:Int):Prop where
 run:fx 1 1 F=true
 right:∀ e∈F,e.ao=3→eg e.aJ=0
 ff:∀ e∈F,e.ab≤T
 t1:1≤T
 t2:T≤100
 len:F.length≤13
 aF:eg c0=0
 n7:n≤5
 mS:∀ k,EK n (ef c0 F k)
theorem Rk:∀ {l:List aA} {i t:Int},fx i t l=true→∀ (q:Nat) (b:aA),l[q]?=some b→t≤b.ab∧∀ (p:Nat) (a:aA),p≤q→l[p]?=some a→a.ab≤b.ab
 | [],_,_,_,q,b,hq=>by simp at hq
 | x::l,i,t,h,q,b,hq=>by
  simp only[fx,pL,Bool.and_eq_true,decide_eq_true_eq] at h
  have hx:t≤x.ab:=h.1.1.1.2
  cases q with
  | zero =>
   simp at hq;subst hq
   exact⟨hx,fun p a hp ha=>by
    have:p=0:=by omega
    subst this
    simp at ha;subst ha;exact Int.le_refl _⟩
  | succ q =>
   obtain⟨h1,h2⟩:=Rk h.2 q b (by simpa using hq)
   refine⟨Int.le_trans hx h1,fun p a hp ha=>?_⟩
   cases p with
   | zero=>simp at ha;subst ha;exact h1
   | succ p=>exact h2 p a (by omega) (by simpa using ha)
section
variable {n:Nat} {c0:aY} {F:List aA} {T:Int} {i l:Nat}
theorem dg.cW (h:dg n c0 F T):pH F:=fun k e hk=>by have:=sP h.run k e hk;omega
theorem dg.HT (h:dg n c0 F T) (k:Nat):pH (F.take k):=fun q e hq=>h.cW q e (rF hq).1
theorem EQ {k:Nat}:gv c0 (F.take k) (lg c0 F (k+1)) 0:=⟨Nat.zero_le _,rfl,rfl,rfl,rfl⟩
theorem Xj:yN (lg c0 F 0):=⟨rfl,rfl,rfl,rfl⟩
theorem vw (h:dg n c0 F T) (hl:l≤F.length+1):bX (lg c0 F l)=((l:Int),tm F l):=by
 cases l with
 | zero=>rfl
 | succ k =>
  rw[EQ.aZ (h.HT k),List.length_take,Nat.min_eq_left (by omega),Iq (Nat.le_refl _)]
  refine Prod.ext ?_ rfl
  simp only;omega
theorem HX (h:dg n c0 F T) (h1:1≤i) (h2:i≤l) (hl:l≤F.length+1):cE (lg c0 F l) (i:Int)=(tm F i,true):=by
 obtain⟨k,rfl⟩:∃ k,i=k+1:=⟨i-1,by omega⟩
 obtain⟨m,rfl⟩:∃ m,l=m+1:=⟨l-1,by omega⟩
 have h3:=(EQ (c0:=c0) (F:=F) (k:=m)).Ir (h.HT m) (k:=k) (Nat.zero_le _) (by rw[List.length_take];omega)
 rw[Iq (by omega)] at h3
 rw[show ((k+1:Nat):Int)=1+k by omega];exact h3
theorem Xk (h:dg n c0 F T) (h1:1≤i) (h2:l<i):(cE (lg c0 F l) (i:Int)).2=false:=by
 cases hx:(cE (lg c0 F l) (i:Int)).2 with
 | false=>rfl
 | true =>
  exfalso
  cases l with
  | zero=>have:=(Xj.Jp hx).1;omega
  | succ m =>
   obtain⟨k,a1,-,a3,-⟩:=EQ.Lx (h.HT m) hx
   rw[List.length_take] at a3;omega
theorem qJ (l:Nat):(ce (lg c0 F l)).1=ef c0 F l:=by
 cases l with
 | zero=>exact Xj.xr
 | succ k=>exact EQ.xr
theorem Xi (h:dg n c0 F T) (l:Nat):(ce (lg c0 F l)).2≤l:=by
 cases l with
 | zero=>exact Int.le_refl _
 | succ k =>
  unfold ce
  cases hz:jB (lg c0 F (k+1)).entries with
  | none=>simp only[Option.getD_none];omega
  | some r =>
   obtain⟨c,x⟩:=r
   obtain⟨q,e,h1,h2,-⟩:=TL hz
   have h3:=rF h1
   have h4:=h.cW _ _ h3.1
   simp only[Option.getD_some];omega
theorem C1 {k:Nat} {e:aA} (hk:F[k]?=some e):tm F (k+2)=e.ab:=by
 show fy F (k+1)=_
 unfold fy
 rw[if_neg (by omega),Nat.add_sub_cancel,hk];rfl
theorem Y9 (h:dg n c0 F T) (h1:1≤i) (hi:i≤F.length+1):1≤tm F i:=by
 obtain⟨k,rfl⟩:∃ k,i=k+1:=⟨i-1,by omega⟩
 cases k with
 | zero=>exact Int.le_refl _
 | succ k =>
  have hk:F[k]?=some F[k]:=List.getElem?_eq_getElem (by omega)
  rw[C1 hk]
  exact (Rk h.run k _ hk).1
theorem Y8 (h:dg n c0 F T) (fK:i≤l) (hl:l≤F.length+1):tm F i≤tm F l:=by
 cases i with
 | zero =>
  cases l with
  | zero=>exact Int.le_refl _
  | succ k=>have:=Y9 h (i:=k+1) (by omega) hl;show (0:Int)≤_;omega
 | succ i =>
  cases i with
  | zero=>exact Y9 h fK hl
  | succ i =>
   obtain⟨k,rfl⟩:∃ k,l=k+2:=⟨l-2,by omega⟩
   have hk:F[k]?=some F[k]:=List.getElem?_eq_getElem (by omega)
   have hi:F[i]?=some F[i]:=List.getElem?_eq_getElem (by omega)
   rw[C1 hk,C1 hi]
   exact (Rk h.run k _ hk).2 i _ (by omega) hi
theorem akp (h:dg n c0 F T) (hi:i≤F.length+1):tm F i≤T:=by
 cases i with
 | zero=>have:=h.t1;show (0:Int)≤_;omega
 | succ i =>
  cases i with
  | zero=>exact h.t1
  | succ i =>
   have hi:F[i]?=some F[i]:=List.getElem?_eq_getElem (by omega)
   rw[C1 hi];exact h.ff _ (List.mem_of_getElem? hi)
theorem Qz (h:dg n c0 F T) (hi:i≤F.length+1) (hl:l≤F.length+1):mz (lg c0 F l) (i:Int) (tm F i)=decide (l≤i):=by
 unfold mz
 rw[vw h hl]
 simp only
 by_cases fK:l≤i
 have:=Y8 h fK hi
 split
 rw[decide_eq_true (show tm F l<tm F i by omega),decide_eq_true fK]
 rw[decide_eq_true (show (l:Int)≤i by omega),decide_eq_true fK]
 have:=Y8 h (show i≤l by omega) hl
 split
 rw[decide_eq_false (show ¬ tm F l<tm F i by omega),decide_eq_false fK]
 rw[decide_eq_false (show ¬ (l:Int)≤i by omega),decide_eq_false fK]
abbrev es (F:List aA) (i:Nat):List aA:=(F.drop (i-1)).take 8
theorem MQ:(es F i).length=min 8 (F.length-(i-1)):=by simp[es]
theorem MP (h:dg n c0 F T) (h1:1≤i) {q:Nat} {e:aA} (hq:(es F i)[q]?=some e):F[i-1+q]?=some e∧e.index=((i+1+q:Nat):Int):=by
 have h2:=(rF hq).1
 rw[List.getElem?_drop] at h2
 have:=h.cW _ _ h2
 exact⟨h2,by omega⟩
theorem KC:lg c0 F (F.length+1)=⟨⟨1,1,c0,[]⟩,F⟩:=by show (⟨_,F.take F.length⟩:br)=_;rw[List.take_length]
theorem ahI (h:dg n c0 F T) (h1:1≤i) (hi:i≤F.length+1):(oL (lg c0 F (F.length+1)) ((i:Int)+1) 8).1=es F i:=by
 have hr:lA (lg c0 F (F.length+1)):=EQ.pD (h.HT F.length)
 have hp:=hr.lG ((i:Int)+1)
 have bV:=h.len
 unfold oL
 rw[vw h (Nat.le_refl _),if_neg]
 have zM:eI (lg c0 F (F.length+1)) ((i:Int)+1)=i-1:=by
  rw[KC] at hp ⊢;simp only at hp;omega
 rw[zM,KC];rfl
 rw[qg (by omega) (by simp only;omega)]
 show ¬ ((i:Int)+1≤1∨_)
 simp only;omega
theorem Xl (h:dg n c0 F T) (h1:1≤i) (hi:i≤F.length+1):lI (i:Int) (tm F i) (es F i)=true:=by
 have bV:=h.len
 have h3:fx (i:Int) (tm F i) (F.drop (i-1))=true:=by
  obtain⟨k,rfl⟩:∃ k,i=k+1:=⟨i-1,by omega⟩
  cases k with
  | zero=>exact h.run
  | succ k =>
   have hk:F[k]?=some F[k]:=List.getElem?_eq_getElem (by omega)
   have h4:=K_ k (by omega) h.run
   rw[C1 hk]
   have:=h.cW _ _ hk
   rw[show ((k+1+1:Nat):Int)=F[k].index by omega];exact h4
 have h5:=MQ (F:=F) (i:=i)
 unfold lI
 rw[Rl 8 h3,decide_eq_true (show (i:Int)<iv by simp only[iv];omega),decide_eq_true (show ((es F i).length:Int)<iv-i by simp only[iv];omega)]
 rfl
theorem Qy (h:dg n c0 F T) (h1:1≤i) (hl:l≤F.length+1) {q:Nat} {e:aA} (hq:(es F i)[q]?=some e):ed (lg c0 F l) e=decide (l<i+1+q):=by
 obtain⟨h2,h3⟩:=MP h h1 hq
 unfold ed sJ
 rw[h3]
 by_cases hc:l<i+1+q
 rw[Xk h (by omega) hc,decide_eq_true hc];rfl
 rw[HX h (by omega) (by omega) hl,decide_eq_false hc]
 have:tm F (i+1+q)=e.ab:=by
  rw[show i+1+q=(i-1+q)+2 by omega];exact C1 h2
 simp[this]
theorem ahG (h:dg n c0 F T) {c:Int} (h1:1≤i) (h2:i≤l) (hl:l≤F.length+1) (hc:c≤i):∃ came,fb (lg c0 F l) c i (tm F i) (es F i)=⟨lg c0 F (max l (min (i+8) (F.length+1))),0,came,0⟩:=by
 have pW:=MQ (F:=F) (i:=i)
 unfold fb
 rw[if_neg (by rw[Xl h h1 (by omega)];decide),if_neg (by rw[HX h h1 h2 hl];simp),if_neg]
 cases hf:(es F i).findIdx? (ed (lg c0 F l)) with
 | none =>
  rw[List.findIdx?_eq_none_iff] at hf
  have cg:max l (min (i+8) (F.length+1))=l:=by
   by_cases h0:(es F i).length=0
   omega
   have h3:(es F i)[(es F i).length-1]?=some ((es F i)[(es F i).length-1]'(by omega)):=List.getElem?_eq_getElem _
   have h4:=Qy h h1 hl h3
   rw[hf _ (List.mem_of_getElem? h3)] at h4
   have:=of_decide_eq_false h4.symm
   omega
  rw[cg];exact⟨[],rfl⟩
 | some k =>
  obtain⟨hk,h3,h4⟩:=List.findIdx?_eq_some_iff_getElem.1 hf
  have e3:=Qy h h1 hl (List.getElem?_eq_getElem hk)
  rw[h3] at e3
  have e3:=of_decide_eq_true e3.symm
  have cv:k=l-i:=by
   by_cases h0:k=0
   omega
   have h5:=h4 (k-1) (by omega)
   have e4:=Qy h h1 hl (List.getElem?_eq_getElem (show k-1<(es F i).length by omega))
   rw[Bool.eq_false_iff.2 h5] at e4
   have e4:=of_decide_eq_false e4.symm
   omega
  obtain⟨m,rfl⟩:∃ m,l=m+1:=⟨l-1,by omega⟩
  have eG:=(MP h h1 (List.getElem?_eq_getElem hk)).2
  have iO:eI (lg c0 F (m+1)) (((m+2:Nat):Int))=m:=by
   have h6:=(EQ (c0:=c0) (F:=F) (k:=m)).pD (h.HT m) |>.lG ((m+2:Nat):Int)
   have h7:(lg c0 F (m+1)).entries.length=m:=by show (F.take m).length=m;rw[List.length_take];omega
   have h8:(lg c0 F (m+1)).aF.index=1:=rfl
   rw[h7,h8] at h6;omega
  have h7:(lg c0 F (m+1)).entries=F.take m:=rfl
  refine⟨(es F i).drop k,?_⟩
  simp only[List.getElem?_eq_getElem hk,Option.map_some,Option.getD_some,eG]
  rw[show i+1+k=m+2 by omega,iO,h7,if_neg (by rw[List.length_take];omega)]
  have hX:max (m+1) (min (i+8) (F.length+1))=min (i+7) F.length+1:=by omega
  rw[hX]
  have h9:(F.take m).take m++(es F i).drop k=F.take (min (i+7) F.length):=by
   rw[List.take_take,Nat.min_self,es,List.drop_take,List.drop_drop,show i-1+k=m by omega,← List.take_add,show m+(8-k)=i+7 by omega]
   by_cases h0:i+7≤F.length
   rw[Nat.min_eq_left h0]
   rw[Nat.min_eq_right (by omega),List.take_of_length_le (by omega),List.take_of_length_le (by omega)]
  rw[h9];rfl
 intro hh
 obtain⟨e,he,hb⟩:=List.any_eq_true.1 hh
 obtain⟨q,hq,rfl⟩:=List.getElem_of_mem he
 have:=(MP h h1 (List.getElem?_eq_getElem hq)).2
 simp only[Bool.and_eq_true,decide_eq_true_eq] at hb
 omega
theorem ahH (h:dg n c0 F T) {c:Int} (h1:1≤i) (h2:l<i) (hi:i≤F.length+1):(fb (lg c0 F l) c i (tm F i) (es F i)).gH=61:=by
 unfold fb
 rw[if_neg (by rw[Xl h h1 (by omega)];decide),if_pos (.inl (Xk h h1 h2))]
theorem TY (h:dg n c0 F T):(es F i).any (ai.l_ T)=false:=by
 rw[List.any_eq_false]
 intro e he
 have hm:e∈F:=List.mem_of_mem_drop (List.mem_of_mem_take he)
 have h1:=h.ff e hm
 unfold ai.l_
 rw[decide_eq_false (show ¬ T<e.ab by omega)]
 by_cases hk:e.ao=3
 simp[h.right e hm hk]
 simp[hk]
theorem ahJ {x:aA} (hl:l≤F.length+1):lg c0 (F++[x]) l=lg c0 F l:=by
 cases l with
 | zero=>rfl
 | succ k=>show (⟨_,(F++[x]).take k⟩:br)=⟨_,F.take k⟩;rw[List.take_append_of_le_length (by omega)]
theorem AD {x:aA} (hl:l≤F.length+1):ef c0 (F++[x]) l=ef c0 F l:=by
 cases l with
 | zero=>rfl
 | succ k=>show ik c0 ((F++[x]).take k)=ik c0 (F.take k);rw[List.take_append_of_le_length (by omega)]
theorem Za {x:aA} (hl:l≤F.length+1):tm (F++[x]) l=tm F l:=by
 cases l with
 | zero=>rfl
 | succ k=>exact Ip (List.prefix_append _ _) (by omega)
end
end Go.Lw.jj
namespace Go.Lw.jj
open dF
structure Pl (c0:aY) (F:List aA) (T:Int) (j:Int) (r:aU) (l:Nat):Prop where
 id:r.id=j
 t0:0≤r.af.ab
 t1:r.af.ab≤T
 le:l≤F.length+1
 ah:r.ah=lg c0 F l
 b_:r.af.aB≤l
 rQ:r.af.aB=0∧l=0∨1≤r.af.aB
 part:r.part=fG.zero
 aO:r.aO=1∨r.aO=2
 lone:r.aO=2→(∀ b∈r.cB,b.2=true→b.1=j)∧∃ v∈(ef c0 F l).av,v≠j
 el:0≤r.bi∧r.bi≤1073741824
noncomputable abbrev mg (r:aU) (m:az):ai:=(ai.mk r bz.zero).iQ m
def sE (m:az):ez:=⟨2,0,m,[],0,0,0⟩
theorem aj6 (r:aU) (m:az):(bI r (sE m)).1=(mg r m).s∧(bI r (sE m)).2.1.aG=(mg r m).o.aG∧(bI r (sE m)).2.2=0:=by
 unfold bI sE
 simp
structure mD (j:Int) (m:az):Prop where
 to:m.to=j
 am:m.am≠j
 f1:1≤m.am
 f7:m.am≤7
 ab:m.ab<eo
 index:m.index<eo
 aB:m.aB<eo
section
variable {n:ai} {m:az}
theorem EX {j:Int} (h:mD j m) (hj:n.s.id=j):n.iQ m=if m.ao=1 then n.oK m else if m.ao=2 then n.kW m else if m.ao<3∨9<m.ao then n
  else if m.ab<(if n.s.af.ab<m.ab then n.follow m.ab 0 else n).s.af.ab then (if n.s.af.ab<m.ab then n.follow m.ab 0 else n).j6 m else (if n.s.af.ab<m.ab then n.follow m.ab 0 else n).dW m:=by
 subst hj
 have h1:=h.to;have h2:=h.am;have h3:=h.f1;have h4:=h.f7;have h5:=h.ab;have h6:=h.index;have h7:=h.aB
 unfold ai.iQ
 rw[if_neg (by omega)]
def gO (n:ai) (T:Int):ai:=if n.s.af.ab<T then n.follow T 0 else n
theorem zZ {j T:Int} (h:mD j m) (hj:n.s.id=j) (hk:3≤m.ao) (VT:m.ao≤9) (ht:m.ab=T) (hn:n.s.af.ab≤T):n.iQ m=(gO n T).dW m:=by
 rw[EX h hj,if_neg (by omega),if_neg (by omega),if_neg (by omega),ht]
 have h1:¬ T<(gO n T).s.af.ab:=by
  unfold gO
  split
  unfold ai.follow;simp only;split<;>simp
  omega
 exact if_neg h1
end
section
variable {c0:aY} {F:List aA} {T j:Int} {r:aU} {l:Nat} {n:ai} {m:az}
theorem DJ (n:ai) (t f:Int):(n.follow t f).s.af=if n.s.af.ab<t then { n.s.af with ab:=t,aT:=0 } else n.s.af:=rfl
theorem Pl.follow (h:Pl c0 F T j n.s l) {t f:Int} (ht:t≤T):Pl c0 F T j (n.follow t f).s l:=by
 have h0:=h.t0
 refine⟨h.id,?_,?_,h.le,h.ah,?_,?_,h.part,.inl rfl,fun z=>absurd z (by show ¬ (1:Int)=2;decide),h.el⟩
 all_goals
  rw[DJ]
  split
  all_goals first
   | exact h.t0
   | exact h.t1
   | exact h.b_
   | exact h.rQ
   | exact ht
   | (simp only;omega)
theorem Pl.up (h:Pl c0 F T j n.s l):Pl c0 F T j (gO n T).s l∧(gO n T).s.af.ab=T∧(gO n T).o=n.o∧(gO n T).s.bi=n.s.bi∧(gO n T).s.af.aB=n.s.af.aB∧(n.s.aO=1→(gO n T).s.aO=1)∧(n.s.af.ab=T→gO n T=n)∧(n.s.af.ab<T→(gO n T).s.aO=1∧(gO n T).s.af.aT=0):=by
 have h1:=h.t1
 unfold gO
 by_cases hc:n.s.af.ab<T
 ·
  rw[if_pos hc]
  refine⟨h.follow (Int.le_refl _),?_,rfl,rfl,?_,fun _=>rfl,fun z=>absurd z (by omega),fun _=>⟨rfl,?_⟩⟩
  all_goals rw[DJ,if_pos hc]
 ·
  rw[if_neg hc]
  exact⟨h,by omega,rfl,rfl,rfl,fun z=>z,fun _=>rfl,fun z=>absurd z hc⟩
theorem Tr (n:ai) (f:Int):(n.calm f).s.af=n.s.af:=by
 show (if n.s.af.ab<n.s.af.ab then _ else n.s.af)=_
 exact if_neg (Int.lt_irrefl _)
theorem Pl.calm (h:Pl c0 F T j n.s l) (f:Int):Pl c0 F T j (n.calm f).s l :=
 have h1:=h.follow (f:=f) h.t1
 ⟨h1.id,h1.t0,h1.t1,h1.le,h1.ah,h1.b_,h1.rQ,h1.part,.inl rfl,fun z=>absurd z (by show ¬ (1:Int)=2;decide),by show (0:Int)≤0∧(0:Int)≤_;omega⟩
theorem K0 (n:ai) (m:az):(n.post m).o.aG=n.o.aG++[{ m with am:=n.s.id,ab:=if m.ab=0 then n.s.af.ab else m.ab }]:=rfl
theorem wW (n:ai) (m:az):(n.post m).s=n.s:=rfl
structure Mh (T j to:Int) (x:az):Prop where
 ao:x.ao=6
 am:x.am=j
 to:x.to=to
 ab:x.ab=T
 aB:x.aB=0
def Az (j T to y:Int) (b:Bool) (h:Int):az:={ az.zero with ao:=6,am:=j,to:=to,ab:=T,index:=y,bT:=b,hint:=h }
theorem H9 {C:ai} {to y h:Int} {b:Bool} (hi:C.s.id=j) (ht:C.s.af.ab=T) (ho:C.o.aG=[]):(C.post { az.zero with ao:=6,to:=to,index:=y,bT:=b,hint:=h }).o.aG=[Az j T to y b h]:=by
 subst hi ht
 rw[K0,ho];rfl
theorem FI {to y h:Int} {b:Bool}:Mh T j to (Az j T to y b h):=⟨rfl,rfl,rfl,rfl,rfl⟩
theorem Pl.yT {N:Nat} (hF:dg N c0 F T) (h:Pl c0 F T j r l) (hm:mD j m) (hk:m.ao=5) (ht:m.ab=T) {i k:Nat} (hi:m.index=i) (h1:1≤i) (Ee:i≤F.length+1) (be:m.cn=tm F i) (D7:m.entries=es F i) (hc:m.aB=k) :
  ∃ l' x,Pl c0 F T j (mg r m).s l'∧l≤l'∧(mg r m).o.aG=[x]∧(mg r m).s.aO=1∧(mg r m).s.af.ab=T∧(mg r m).s.bi=0∧(mg r m).s.af.aB≤max r.af.aB k∧Mh T j m.am x ∧
   ((i≤l∧x.bT=false∧∃ y:Nat,x.index=y∧i≤y∧1≤y∧(i<F.length+1→i<y)∧y≤l'∧(r.af.aB≤i→min (i+8) (F.length+1)≤l'))∨(l<i∧l'=l∧x.bT=true∧x.index=i∧x.hint=l)):=by
 obtain⟨u1,u2,u3,u4,u5,-,-,-⟩:=Pl.up (n:=⟨r,bz.zero⟩) h
 have e0:mg r m=(gO ⟨r,bz.zero⟩ T).grow m:=by
  rw[show mg r m=(gO ⟨r,bz.zero⟩ T).dW m from zZ hm h.id (by omega) (by omega) ht h.t1]
  unfold ai.dW
  simp[hk]
 rw[e0]
 generalize gO ⟨r,bz.zero⟩ T=q at u1 u2 u3 u4 u5
 have jN:q.s.aO≠4:=by rcases u1.aO with z | z<;>rw[z]<;>decide
 have k1:=u1.calm m.am
 have kh:=Tr q m.am
 have ko:(q.calm m.am).o.aG=[]:=by show q.o.aG=[];rw[u3];rfl
 have ki:(q.calm m.am).s.id=j:=k1.id
 have kr:(q.calm m.am).s.aO=1:=rfl
 have ke:(q.calm m.am).s.bi=0:=rfl
 have kt:(q.calm m.am).s.af.ab=T:=by rw[kh];exact u2
 have kc:(q.calm m.am).s.af.aB=r.af.aB:=by rw[kh];exact u5
 have kl:=k1.ah
 have qB:(q.calm m.am).aZ=l:=by show (bX (q.calm m.am).s.ah).1=_;rw[kl,vw hF h.le]
 have ox:=h.b_
 have iK:=h.rQ
 have cg:=h.le
 generalize hG:q.calm m.am=C at k1 kh ko ki kr ke kt kc kl qB
 by_cases hold:m.index<C.s.af.aB
 rw[AW jN (by rw[hG];exact hold),hG]
 exact⟨l,Az j T m.am C.s.af.aB false 0,k1,Nat.le_refl _,H9 ki kt ko,kr,kt,ke,by rw[wW,kc];omega,FI,.inl ⟨by omega,rfl,C.s.af.aB.toNat,by show C.s.af.aB=_;omega,by omega,by omega,fun _=>by omega,by omega,fun z=>by omega⟩⟩
 by_cases fK:i≤l
 obtain⟨came,hM⟩:=ahG hF (c:=C.s.af.aB) h1 fK h.le (by omega)
 have NK:fb C.s.ah C.s.af.aB m.index m.cn m.entries=⟨lg c0 F (max l (min (i+8) (F.length+1))),0,came,0⟩:=by rw[kl,hi,be,D7];exact hM
 have pW:=MQ (F:=F) (i:=i)
 rw[y7 (n:=q) (m:=m) (G:=⟨lg c0 F (max l (min (i+8) (F.length+1))),0,came,0⟩) jN (by rw[hG];exact hold) (by rw[hG];exact NK) (by rw[hG,D7,kt,TY hF];simp) (by simp),hG]
 refine⟨max l (min (i+8) (F.length+1)),Az j T m.am (m.index+m.entries.length) false 0,?_,by omega,H9 (C:=((((C.C_ _).xf 0).Db came).lz _)) ki kt ko,kr,kt,ke,?_,FI,.inl ⟨fK,rfl,min (i+8) (F.length+1),?_,by omega,by omega,fun _=>by omega,by omega,fun _=>by omega⟩⟩
 rw[wW]
 refine⟨ki,k1.t0,k1.t1,by omega,rfl,?_,?_,k1.part,.inl kr,fun z=>absurd (kr.symm.trans z) (by decide),k1.el⟩
 show max C.s.af.aB (min m.aB (m.index+m.entries.length))≤_
 rw[D7,pW];omega
 show max C.s.af.aB (min m.aB (m.index+m.entries.length))=0∧_∨1≤max C.s.af.aB (min m.aB (m.index+m.entries.length))
 omega
 rw[wW];show max C.s.af.aB (min m.aB (m.index+m.entries.length))≤_;omega
 show m.index+m.entries.length=_;rw[D7,pW];omega
 have hM:=ahH hF (c:=C.s.af.aB) h1 (by omega:l<i) Ee
 have NK:fb C.s.ah C.s.af.aB m.index m.cn m.entries=fb (lg c0 F l) C.s.af.aB (i:Int) (tm F i) (es F i):=by rw[kl,hi,be,D7]
 rw[y6 (n:=q) (m:=m) (G:=fb (lg c0 F l) C.s.af.aB (i:Int) (tm F i) (es F i)) jN (by rw[hG];exact hold) (by rw[hG];exact NK) (by rw[hG,hM,D7,kt,TY hF];simp) hM,hG]
 refine⟨l,Az j T m.am m.index true (min C.aZ (max m.index 1-1)),k1,Nat.le_refl _,H9 ki kt ko,kr,kt,ke,by rw[wW,kc];omega,FI,.inr ⟨by omega,rfl,rfl,hi,?_⟩⟩
 show min C.aZ (max m.index 1-1)=_;rw[qB];omega
theorem Pl.lQ {N:Nat} (hF:dg N c0 F T) (h:Pl c0 F T j r l) (hm:mD j m) (hk:m.ao=7) (ht:m.ab=T) (hi:m.index=1) (be:m.cn=1) (fT:m.aJ=c0) (hh:m.hint=0) (hd:m.data=[]) (hdn:m.done=true) :
  ∃ l' x,Pl c0 F T j (mg r m).s l'∧l≤l'∧(mg r m).o.aG=[x]∧(mg r m).s.aO=1∧(mg r m).s.af.ab=T∧(mg r m).s.bi=0∧(mg r m).s.af.aB≤max r.af.aB 1∧Mh T j m.am x ∧
   x.bT=false∧∃ y:Nat,x.index=y∧1≤y∧y≤l':=by
 obtain⟨u1,u2,u3,u4,u5,-,-,-⟩:=Pl.up (n:=⟨r,bz.zero⟩) h
 have e0:mg r m=(gO ⟨r,bz.zero⟩ T).lR m:=by
  rw[show mg r m=(gO ⟨r,bz.zero⟩ T).dW m from zZ hm h.id (by omega) (by omega) ht h.t1]
  unfold ai.dW
  simp[hk]
 rw[e0]
 generalize gO ⟨r,bz.zero⟩ T=q at u1 u2 u3 u4 u5
 have jN:q.s.aO≠4:=by rcases u1.aO with z | z<;>rw[z]<;>decide
 have k1:=u1.calm m.am
 have kh:=Tr q m.am
 have ko:(q.calm m.am).o.aG=[]:=by show q.o.aG=[];rw[u3];rfl
 have ki:(q.calm m.am).s.id=j:=k1.id
 have kr:(q.calm m.am).s.aO=1:=rfl
 have ke:(q.calm m.am).s.bi=0:=rfl
 have kt:(q.calm m.am).s.af.ab=T:=by rw[kh];exact u2
 have kc:(q.calm m.am).s.af.aB=r.af.aB:=by rw[kh];exact u5
 have kl:=k1.ah
 have kp:=k1.part
 have ox:=h.b_
 have iK:=h.rQ
 have EC:=hF.t1
 have bW:¬ (q.s.aO=4∨eg m.aJ≠0∨q.s.af.ab<m.cn):=by rw[fT,hF.aF,u2,be];omega
 generalize hG:q.calm m.am=C at k1 kh ko ki kr ke kt kc kl kp
 by_cases hold:m.index≤C.s.af.aB
 rw[AE (n:=q) bW (by rw[hG];exact hold),hG]
 exact⟨l,Az j T m.am C.s.af.aB false 0,k1,Nat.le_refl _,H9 ki kt ko,kr,kt,ke,by rw[wW,kc];omega,FI,rfl,C.s.af.aB.toNat,by show C.s.af.aB=_;omega,by omega,by omega⟩
 have uZ:l=0:=by omega
 subst uZ
 have hT:mb C.s.part m=(⟨1,1,[]⟩,true):=by
  unfold mb
  rw[kp,hi,be,hh,hd,hdn]
  simp[fG.zero]
 have hw:Dc (⟨1,1,[]⟩:fG) m.aJ=⟨1,1,c0,[]⟩:=by rw[fT];rfl
 rw[yV (n:=q) (T:=(⟨1,1,[]⟩,true)) bW (by rw[hG];exact hold) (by rw[hG];exact hT) (by simp),hG,hw]
 have hen:C.s.ah.entries=[]:=by rw[kl];rfl
 have cq:C.dY ⟨1,1,c0,[]⟩=⟨{ C.s with ah:=⟨⟨1,1,c0,[]⟩,[]⟩,af:={ C.s.af with aB:=1 },part:=fG.zero },{ C.o with dY:=true,cut:=(C.s.ah.entries.head?.map (·.index)).getD C.o.cut }⟩:=by
  unfold ai.dY;simp only[hen];rfl
 rw[cq]
 refine⟨1,Az j T m.am m.index false 0,?_,by omega,H9 (C:=ai.mk _ _) ki kt ko,?_,?_,?_,?_,FI,rfl,1,?_,by omega,Nat.le_refl _⟩
 rw[wW]
 exact⟨ki,k1.t0,k1.t1,by omega,rfl,Int.le_refl _,.inr (Int.le_refl _),rfl,.inl kr,fun z=>absurd (kr.symm.trans z) (by decide),k1.el⟩
 rw[wW];exact kr
 rw[wW];exact kt
 rw[wW];exact ke
 rw[wW];show (1:Int)≤_;omega
 show m.index=_;rw[hi];rfl
theorem Rg (hm:mD j m) (hk:m.ao=1) (hj:n.s.id=j):n.iQ m=n.oK m:=by rw[EX hm hj,if_pos hk]
theorem K5 {N:Nat} (hF:dg N c0 F T) (hj:r.id=j) (hl:r.ah=lg c0 F l) (cg:l≤F.length+1) (hm:mD j m) (hk:m.ao=1) {i:Nat} (hi:m.index=i) (fK:i<l) (be:m.cn=tm F i) :
  (mg r m).s=r∧(mg r m).o.aG=[{ az.zero with ao:=2,am:=j,to:=m.am,ab:=r.af.ab,bT:=true }]:=by
 rw[show mg r m=(ai.mk r bz.zero).oK m from Rg hm hk hj]
 have hn:mz r.ah m.index m.cn=false:=by rw[hl,hi,be,Qz hF (by omega) cg];exact decide_eq_false (by omega)
 unfold ai.oK
 rw[hn,Bool.and_false]
 refine⟨rfl,?_⟩
 show []++[_]=_
 rw[hj];rfl
theorem Yc (hj:r.id=j) (hm:mD j m) (hk:m.ao=1) :
  (mg r m).s=r∧∃ x,(mg r m).o.aG=[x]∧x.ao=2∧x.am=j∧x.to=m.am∧(x.ab=m.ab∨x.ab=r.af.ab)∧x.index=0∧x.aB=0:=by
 rw[show mg r m=(ai.mk r bz.zero).oK m from Rg hm hk hj]
 unfold ai.oK
 refine⟨rfl,_,rfl,rfl,hj,rfl,?_,rfl,rfl⟩
 simp only
 split
 exact .inl rfl
 exact .inr rfl
theorem ajd {N:Nat} (hF:dg N c0 F T) (hj:r.id=j) (hl:r.ah=lg c0 F l) (cg:l≤F.length+1) (hm:mD j m) (hk:m.ao=1) {i:Nat} (hi:m.index=i) (Ee:i≤F.length+1) (fK:l≤i) (be:m.cn=tm F i)
  (hr:r.aO≠4) (hf:r.gq=0∨4≤r.bi) (ht:r.af.ab<m.ab) :
  (mg r m).s=r∧(mg r m).o.aG=[{ az.zero with ao:=2,am:=j,to:=m.am,ab:=m.ab,bT:=false }]:=by
 rw[show mg r m=(ai.mk r bz.zero).oK m from Rg hm hk hj]
 have hn:mz r.ah m.index m.cn=true:=by rw[hl,hi,be,Qz hF Ee cg];exact decide_eq_true fK
 unfold ai.oK
 rw[hn,decide_eq_true (show r.af.ab<m.ab from ht),decide_eq_true (show r.aO≠4∧(r.gq=0∨4≤r.bi) from ⟨hr,hf⟩)]
 refine⟨rfl,?_⟩
 show []++[_]=_
 rw[hj];rfl
theorem Xr {vs:List Int} {bl:List nD} (h1:∀ b∈bl,b.2=true→b.1=j) (h2:∃ v∈vs,v≠j):kC (cZ vs) bl≠1:=by
 obtain⟨v,hv,EF⟩:=h2
 have pm:v∈cZ vs:=sU.2 hv
 have hs:∀ x,says bl true x=true→x=j:=fun x hx=>by
  unfold says aT at hx
  cases hf:bl.find? (vr x) with
  | none=>rw[hf] at hx;simp at hx
  | some b =>
   rw[hf] at hx
   have hb:=List.find?_some hf
   have yn:b.2=true:=by simpa using hx
   have:=h1 b (List.mem_of_find?_eq_some hf) yn
   unfold vr at hb
   rw[←this];exact (by simpa using hb:b.1=x).symm
 have ve:=Fp vs
 generalize cZ vs=us at pm ve
 have fJ:us.countP (says bl true)≤1:=by
  refine Nat.le_trans (TS _ (fun x=>x==j) us fun x _ hx=>by simpa using hs x hx) ?_
  exact List.nodup_iff_count.1 ve j
 have gA:us.length=1→us.countP (says bl true)=0:=fun h=>by
  match us,h,pm with
  | [y],_,hy =>
   have:v=y:=by simpa using hy
   subst this
   rw[List.countP_eq_zero]
   intro x hx
   have:x=v:=by simpa using hx
   subst this
   exact fun z=>EF (hs _ z)
 have tF:0<us.length:=List.length_pos_iff.2 fun z=>by rw[z] at pm;cases pm
 unfold kC
 intro hh
 split at hh
 rename_i hq
 have pg:=hq.2
 unfold most at pg
 rw[if_neg (by omega)] at pg
 by_cases h1:us.length=1
 have:=gA h1;omega
 omega
 split at hh<;>omega
theorem Pl.no (h:Pl c0 F T j r l) (hm:mD j m) (hk:m.ao=2) (hr:m.bT=true) (ht:m.ab≤T) :
  Pl c0 F T j (mg r m).s l∧(mg r m).o.aG=[]∧(mg r m).s.bi=r.bi:=by
 have e0:mg r m=(ai.mk r bz.zero).kW m:=by
  rw[show mg r m=_ from EX hm h.id,if_neg (by omega),if_pos hk]
 rw[e0]
 unfold ai.kW
 by_cases hc:m.bT=true∧r.af.ab<m.ab
 rw[if_pos hc]
 exact⟨Pl.follow (n:=⟨r,bz.zero⟩) h ht,rfl,rfl⟩
 rw[if_neg hc]
 by_cases h2:r.aO=2∧(m.bT=true∨m.ab=bF r.af.ab)
 rw[if_pos h2]
 obtain⟨a1,a2⟩:=h.lone h2.1
 unfold ai.jS
 have hb:∀ b∈r.cB++[(m.am,!m.bT)],b.2=true→b.1=j:=fun b hb gj=>by
  rcases List.mem_append.1 hb with hb | hb
  exact a1 b hb gj
  rw[List.mem_singleton.1 hb,hr] at gj;cases gj
 have hP:Pl c0 F T j ((ai.mk r bz.zero).jm m.am (!m.bT)).s l:=⟨h.id,h.t0,h.t1,h.le,h.ah,h.b_,h.rQ,h.part,h.aO,fun _=>⟨hb,a2⟩,h.el⟩
 have ht:((ai.mk r bz.zero).jm m.am (!m.bT)).gM≠1:=by
  show kC (cZ (ce r.ah).1.av) _≠1
  rw[h.ah,qJ]
  exact Xr hb a2
 rw[if_neg ht]
 split
 exact⟨hP.follow hP.t1,rfl,rfl⟩
 exact⟨hP,rfl,rfl⟩
 rw[if_neg h2];exact⟨h,rfl,rfl⟩
theorem Pl.nK (h:Pl c0 F T j r l) (hm:mD j m) (hk:m.ao=6∨m.ao=4) (ht:m.ab=T) :
  Pl c0 F T j (mg r m).s l∧(mg r m).o.aG=[]∧(mg r m).s.bi=r.bi:=by
 obtain⟨u1,u2,u3,u4,u5,-,-,-⟩:=Pl.up (n:=⟨r,bz.zero⟩) h
 have e0:mg r m=(gO ⟨r,bz.zero⟩ T).dW m:=zZ hm h.id (by omega) (by omega) ht h.t1
 have e1:(gO ⟨r,bz.zero⟩ T).dW m=gO ⟨r,bz.zero⟩ T:=by
  generalize gO ⟨r,bz.zero⟩ T=q at u1
  unfold ai.dW
  rcases hk with hk | hk
  simp only[hk]
  show q.kM m=q
  unfold ai.kM
  have:q.s.aO≠4:=by rcases u1.aO with z | z<;>rw[z]<;>decide
  split
  rfl
  rw[if_pos (.inl this)]
  simp only[hk]
  show q.lK m=q
  unfold ai.lK
  have:q.s.aO≠3:=by rcases u1.aO with z | z<;>rw[z]<;>decide
  rw[if_neg this]
 rw[e0,e1]
 exact⟨u1,by rw[u3];rfl,u4⟩
theorem Pl.vt (h:Pl c0 F T j r l) (hm:mD j m) (hk:m.ao=3) (ht:m.ab=T) :
  Pl c0 F T j (mg r m).s l∧((mg r m).s.bi=0∨(mg r m).s.bi=r.bi)∧∃ x,(mg r m).o.aG=[x]∧x.ao=4∧x.am=j∧x.to=m.am∧x.ab=T∧x.index=0∧x.aB=0:=by
 obtain⟨u1,u2,u3,u4,u5,-,-,-⟩:=Pl.up (n:=⟨r,bz.zero⟩) h
 have e0:mg r m=(gO ⟨r,bz.zero⟩ T).aT m:=by
  rw[show mg r m=(gO ⟨r,bz.zero⟩ T).dW m from zZ hm h.id (by omega) (by omega) ht h.t1]
  unfold ai.dW
  simp[hk]
 rw[e0]
 generalize gO ⟨r,bz.zero⟩ T=q at u1 u2 u3 u4 u5
 have ko:q.o.aG=[]:=by rw[u3];rfl
 have kt:(if (0:Int)=0 then q.s.af.ab else 0)=T:=by rw[if_pos rfl];exact u2
 unfold ai.aT
 simp only
 split
 refine⟨⟨u1.id,u1.t0,u1.t1,u1.le,u1.ah,u1.b_,u1.rQ,u1.part,u1.aO,u1.lone,by show (0:Int)≤0∧(0:Int)≤_;omega⟩,.inl rfl,_,by rw[K0];show q.o.aG++_=_;rw[ko];rfl,rfl,u1.id,rfl,kt,rfl,rfl⟩
 exact⟨u1,.inr u4,_,by rw[K0,ko];rfl,rfl,u1.id,rfl,kt,rfl,rfl⟩
theorem Pl.akI {N:Nat} (hF:dg N c0 F T) (h:Pl c0 F T j r l) (hm:mD j m) (hk:m.ao=3) (ht:m.ab=T) {i:Nat} (hi:m.index=i) (Ee:i≤F.length+1) (fK:l≤i) (be:m.cn=tm F i)
  (hr:r.aO=1) (hv:r.af.ab<T∨r.af.aT=m.am) :
  Pl c0 F T j (mg r m).s l∧(mg r m).s.aO=1∧(mg r m).s.af.ab=T∧(mg r m).s.af.aT=m.am∧∃ x,(mg r m).o.aG=[x]∧x.ao=4∧x.am=j∧x.to=m.am∧x.ab=T∧x.bT=false∧x.index=0∧x.aB=0:=by
 obtain⟨u1,u2,u3,u4,u5,u6,u7,u8⟩:=Pl.up (n:=⟨r,bz.zero⟩) h
 have e0:mg r m=(gO ⟨r,bz.zero⟩ T).aT m:=by
  rw[show mg r m=(gO ⟨r,bz.zero⟩ T).dW m from zZ hm h.id (by omega) (by omega) ht h.t1]
  unfold ai.dW
  simp[hk]
 have rx:(gO ⟨r,bz.zero⟩ T).s.af.aT=0∨(gO ⟨r,bz.zero⟩ T).s.af.aT=m.am:=by
  rcases hv with hv | hv
  exact .inl (u8 hv).2
  by_cases hc:r.af.ab<T
  exact .inl (u8 hc).2
  have:=h.t1
  rw[u7 (show r.af.ab=T by omega)];exact .inr hv
 have u6:=u6 hr
 rw[e0]
 generalize gO ⟨r,bz.zero⟩ T=q at u1 u2 u3 u4 u5 u6 rx
 have ko:q.o.aG=[]:=by rw[u3];rfl
 have kt:(if (0:Int)=0 then q.s.af.ab else 0)=T:=by rw[if_pos rfl];exact u2
 have hn:mz q.s.ah m.index m.cn=true:=by rw[u1.ah,hi,be,Qz hF Ee h.le];exact decide_eq_true fK
 unfold ai.aT
 rw[hn,decide_eq_true rx,decide_eq_true u6]
 simp only[Bool.and_true,if_true]
 exact⟨⟨u1.id,u1.t0,u1.t1,u1.le,u1.ah,u1.b_,u1.rQ,u1.part,u1.aO,u1.lone,by show (0:Int)≤0∧(0:Int)≤_;omega⟩,u6,u2,rfl,_,by rw[K0];show q.o.aG++_=_;rw[ko];rfl,rfl,u1.id,rfl,kt,rfl,rfl,rfl⟩
end
end Go.Lw.jj
namespace Go.Lw.jj
open dF
section
variable {os:List Int} {f:Int→cK} {j:Int} {q:cK}
theorem Xu (hf:∀ o,(f o).node=o) (hj:j∈os):(os.map f).find? (fun p=>decide (p.node=j))=some (f j):=by
 induction os with
 | nil=>cases hj
 | cons x xs ih =>
  rw[List.map_cons,List.find?_cons,hf x]
  by_cases hx:x=j
  subst hx;simp
  rw[decide_eq_false hx]
  exact ih ((List.mem_cons.1 hj).resolve_left fun z=>hx z.symm)
theorem ahP (hf:∀ o,(f o).node=o) (hj:j∉os):(os.map f).find? (fun p=>decide (p.node=j))=none:=by
 rw[List.find?_eq_none]
 intro p hp
 obtain⟨o,ho,rfl⟩:=List.mem_map.1 hp
 rw[hf o]
 simp only[decide_eq_true_eq]
 rintro rfl;exact hj ho
theorem map_set (hf:∀ o,(f o).node=o) (hj:j∈os) (hn:os.Nodup):∃ k,(os.map f).findIdx? (fun p=>decide (p.node=j))=some k∧(os.map f).set k q=os.map fun o=>if o=j then q else f o:=by
 induction os with
 | nil=>cases hj
 | cons x xs ih =>
  rw[List.map_cons,List.findIdx?_cons,hf x]
  obtain⟨HO,yn⟩:=List.nodup_cons.1 hn
  by_cases hx:x=j
  subst hx
  refine⟨0,by simp,?_⟩
  rw[List.set_cons_zero,List.map_cons,if_pos rfl]
  congr 1
  refine List.map_congr_left fun o ho=>?_
  rw[if_neg];rintro rfl;exact HO ho
  obtain⟨k,h1,h2⟩:=ih ((List.mem_cons.1 hj).resolve_left fun z=>hx z.symm) yn
  refine⟨k+1,by rw[decide_eq_false hx,h1];rfl,?_⟩
  rw[List.set_cons_succ,h2,List.map_cons,if_neg hx]
end
def dC {α:Type} (f:Int→α) (j:Int) (v:α):Int→α:=fun o=>if o=j then v else f o
theorem jh {α:Type} (f:Int→α) (j:Int) (v:α):dC f j v j=v:=if_pos rfl
theorem mB {α:Type} (f:Int→α) {j o:Int} (v:α) (h:o≠j):dC f j v o=f o:=if_neg h
abbrev lw (nx mt:Int→Nat) (o:Int):cK:=⟨o,nx o,mt o⟩
theorem ai8 (nx mt:Int→Nat) (j:Int) (x y:Nat):(fun o=>if o=j then (⟨j,x,y⟩:cK) else lw nx mt o)=lw (dC nx j x) (dC mt j y):=by
 funext o
 unfold lw dC
 split
 rename_i h;subst h;rfl
 rfl
section
variable (c0:aY) (F:List aA) (T:Int)
abbrev bZ (j:Int):List Int:=oI (ef c0 F (F.length+1)) j
abbrev bE:List Int:=(ef c0 F (F.length+1)).av
def ep (j:Int) (K:Nat) (o:Int) (x:Nat):az :=
 if x≤1 then { az.zero with ao:=7,am:=j,to:=o,ab:=T,index:=1,cn:=1,aJ:=c0,done:=true }
 else { az.zero with ao:=5,am:=j,to:=o,ab:=T,index:=((x-1:Nat):Int),cn:=tm F (x-1),entries:=es F (x-1),aB:=K }
structure Ld0 (j:Int) (r:aU) (K b:Nat) (nx mt:Int→Nat):Prop where
 id:r.id=j
 ab:r.af.ab=T
 aO:r.aO=4
 ah:r.ah=lg c0 F (F.length+1)
 b_:r.af.aB=K
 k1:1≤K
 kN:K≤F.length+1
 tr:r.eW=0
 fQ:r.fQ=b
 part:r.part=fG.zero
 aK:r.aK=(bZ c0 F j).map (lw nx mt)
 el:0≤r.bi∧r.bi≤1073741824
 tW:∀ o∈bZ c0 F j,1≤nx o∧mt o+1≤nx o∧nx o≤F.length+2∧(mt o<F.length+1→nx o≤F.length+1)∧mt o≤F.length+1
 RK:∀ k,K<k→k≤F.length+1→tm F k=T→k=F.length+1
 ug:tm F (F.length+1)=T
structure Ld (j:Int) (r:aU) (K b:Nat) (nx mt:Int→Nat):Prop extends Ld0 c0 F T j r K b nx mt where
 DA:K=F.length+1∨(ai.mk r bz.zero).b_≠((F.length+1:Nat):Int)
end
section
variable {c0:aY} {F:List aA} {T j:Int} {n:ai} {K b N:Nat} {nx mt:Int→Nat}
theorem aiJ:(bZ c0 F j).Nodup:=Fp _
theorem pB {o:Int}:o∈bZ c0 F j↔(o∈bE c0 F∨o∈(ef c0 F (F.length+1)).aD)∧o≠j:=by
 show o∈cZ (dU j _)↔_
 rw[sU,m8,List.mem_append]
theorem MS (hF:dg N c0 F T) (h:Ld0 c0 F T j n.s K b nx mt) (o:Int) (x y:Nat) (h1:1≤x) (hx:x≤F.length+2):n.fA ⟨o,x,y⟩=n.send (ep c0 F T j K o x):=by
 have hT:=hF.t1
 have hb:n.s.ah.aF.index=1:=by rw[h.ah];rfl
 have JQ:n.s.ah.aF=⟨1,1,c0,[]⟩:=by rw[h.ah];rfl
 unfold ai.fA ep
 by_cases hc:x≤1
 rw[if_pos (by simp only;omega),if_pos hc]
 unfold ai.lq
 have hp:mW n.s.ah.aF 0=({ az.zero with ao:=7,index:=1,cn:=1,aJ:=c0,done:=true },0):=by
  rw[JQ];unfold mW;simp[az.zero]
 rw[hp,if_pos rfl]
 unfold ai.post
 simp only[h.id,h.ab]
 rfl
 rw[if_neg (by simp only;omega),if_neg hc]
 unfold ai.post
 have e1:((x:Int)-1)=((x-1:Nat):Int):=by omega
 have e2:(cE n.s.ah ((x-1:Nat):Int)).1=tm F (x-1):=by rw[h.ah,HX hF (by omega) (by omega) (Nat.le_refl _)]
 have e3:(oL n.s.ah (x:Int) 8).1=es F (x-1):=by
  rw[show (x:Int)=((x-1:Nat):Int)+1 by omega,h.ah];exact ahI hF (by omega) (by omega)
 simp only[h.id,h.ab,h.b_,e2,e3,e1]
 rfl
theorem T2 (hF:dg N c0 F T):∀ (l:List Int) {n:ai},Ld0 c0 F T j n.s K b nx mt→(∀ o∈l,1≤nx o∧nx o≤F.length+2)→(n.mF (l.map (lw nx mt))).o.aG=n.o.aG++l.map fun o=>ep c0 F T j K o (nx o)
 | [],n,_,_=>by simp[ai.mF]
 | o::l,n,h,hl=>by
  have h1:=hl o (List.mem_cons_self ..)
  rw[List.map_cons]
  show ((n.fA ⟨o,nx o,mt o⟩).mF (l.map (lw nx mt))).o.aG=_
  rw[MS hF h o _ _ h1.1 h1.2,T2 hF l (n:=n.send (ep c0 F T j K o (nx o))) h (fun x hx=>hl x (List.mem_cons_of_mem _ hx)),List.map_cons]
  show (n.o.aG++[_])++_=_
  rw[List.append_assoc];rfl
theorem Lp (hF:dg N c0 F T) (h:Ld0 c0 F T j n.s K b nx mt):n.gD.s=n.s∧n.gD.o.aG=n.o.aG++(bZ c0 F j).map fun o=>ep c0 F T j K o (nx o):=by
 refine⟨Lq,?_⟩
 unfold ai.gD
 rw[h.aK]
 exact T2 hF _ h fun o ho=>by have:=h.tW o ho;omega
theorem Xa (h:Ld0 c0 F T j n.s K b nx mt) (hF:dg N c0 F T) (v:Int):fW (n.s.aK++[⟨n.s.id,0,n.aZ⟩]) v≤((F.length+1:Nat):Int)∧(v=j∨v∈bZ c0 F j∧mt v=F.length+1→fW (n.s.aK++[⟨n.s.id,0,n.aZ⟩]) v=((F.length+1:Nat):Int)):=by
 have hl:n.aZ=((F.length+1:Nat):Int):=by show (bX n.s.ah).1=_;rw[h.ah,vw hF (Nat.le_refl _)]
 obtain⟨m1,m2,m3⟩:=QF (n.s.aK++[⟨n.s.id,0,n.aZ⟩]) v
 have cg:fW (n.s.aK++[⟨n.s.id,0,n.aZ⟩]) v≤((F.length+1:Nat):Int):=by
  rcases m3 with m3 | ⟨p,hp,-,he⟩
  omega
  rw[←he]
  rcases List.mem_append.1 hp with hp | hp
  rw[h.aK] at hp
  obtain⟨o,ho,rfl⟩:=List.mem_map.1 hp
  have:=h.tW o ho
  simp only;omega
  rw[List.mem_singleton.1 hp,hl];exact Int.le_refl _
 refine⟨cg,fun hv=>Int.le_antisymm cg ?_⟩
 rcases hv with rfl | ⟨hv,nk⟩
 have:=m2 ⟨n.s.id,0,n.aZ⟩ (List.mem_append_right _ (List.mem_singleton.2 rfl)) h.id
 rw[←hl];exact this
 have:=m2 (lw nx mt v) (List.mem_append_left _ (by rw[h.aK];exact List.mem_map.2 ⟨v,hv,rfl⟩)) rfl
 simp only[lw,nk] at this;exact this
theorem KB (h:Ld0 c0 F T j n.s K b nx mt):n.av=bE c0 F:=by
 show (ce n.s.ah).1.av=_
 rw[h.ah,qJ]
theorem abS (h:Ld0 c0 F T j n.s K b nx mt) (hF:dg N c0 F T):n.b_≤((F.length+1:Nat):Int):=by
 unfold ai.b_
 split
 rename_i xM
 have hs:=xM.choose_spec
 rcases hs with ⟨-,hs⟩ | ⟨-,hs,-⟩
 rw[hs];omega
 obtain⟨v,-,hv⟩:=List.mem_map.1 hs
 rw[←hv];exact (Xa h hF v).1
 omega
theorem abR (h:Ld0 c0 F T j n.s K b nx mt) (hF:dg N c0 F T) (hv:bE c0 F≠[]) (ha:∀ o∈bZ c0 F j,mt o=F.length+1):n.b_=((F.length+1:Nat):Int):=by
 refine ai.MC ?_
 have gx:∀ x∈(cZ n.av).map (fW (n.s.aK++[⟨n.s.id,0,n.aZ⟩])),x=((F.length+1:Nat):Int):=fun x hx=>by
  obtain⟨v,hv,rfl⟩:=List.mem_map.1 hx
  rw[sU,KB h] at hv
  refine (Xa h hF v).2 ?_
  by_cases EF:v=j
  exact .inl EF
  have:v∈bZ c0 F j:=pB.2 ⟨.inl hv,EF⟩
  exact .inr ⟨this,ha v this⟩
 have bH:(cZ n.av).map (fW (n.s.aK++[⟨n.s.id,0,n.aZ⟩]))≠[]:=fun hz=>by
  rw[List.map_eq_nil_iff] at hz
  obtain⟨v,pm⟩:=List.exists_mem_of_ne_nil _ hv
  have:v∈cZ n.av:=by rw[sU,KB h];exact pm
  rw[hz] at this;cases this
 unfold ai.AG
 generalize (cZ n.av).map (fW (n.s.aK++[⟨n.s.id,0,n.aZ⟩]))=M at gx bH
 refine .inr ⟨bH,?_⟩
 obtain⟨x,hx⟩:=List.exists_mem_of_ne_nil _ bH
 have tF:=List.length_pos_iff.2 bH
 have e1:M.countP (fun x=>decide (((F.length+1:Nat):Int)≤x))=M.length:=List.countP_eq_length.2 fun y hy=>by rw[gx y hy];simp
 have e2:M.countP (fun x=>decide (((F.length+1:Nat):Int)<x))=0:=List.countP_eq_zero.2 fun y hy=>by rw[gx y hy];simp
 refine⟨gx x hx▸hx,?_,?_⟩
 rw[e1];unfold most;split<;>omega
 rw[e2];unfold most;rw[if_neg (by omega)];omega
theorem W9 (h:Ld0 c0 F T j n.s K b nx mt) (hF:dg N c0 F T):(n.count=n∧(K=F.length+1∨n.b_≠((F.length+1:Nat):Int))) ∨
  (K<F.length+1∧n.b_=((F.length+1:Nat):Int)∧n.count=if j∉bE c0 F then (ai.mk { n.s with af:={ n.s.af with aB:=((F.length+1:Nat):Int) } } n.o).follow T 0 else ai.mk { n.s with af:={ n.s.af with aB:=((F.length+1:Nat):Int) } } n.o):=by
 have cg:=abS h hF
 have O6:=h.kN
 have Ot:=h.b_
 have qG:∀ k:Nat,1≤k→k≤F.length+1→(cE n.s.ah (k:Int)).1=tm F k:=fun k h1 h2=>by rw[h.ah,HX hF h1 h2 (Nat.le_refl _)]
 by_cases hc:n.b_≤n.s.af.aB∨(cE n.s.ah n.b_).1≠n.s.af.ab
 refine .inl ⟨by unfold ai.count;rw[if_pos hc],?_⟩
 by_cases hn:n.b_=((F.length+1:Nat):Int)
 left
 rcases hc with hc | hc
 omega
 rw[hn,qG _ (by omega) (Nat.le_refl _),h.ug,h.ab] at hc;exact absurd rfl hc
 exact .inr hn
 have h1:K<n.b_:=by rw[←Ot];exact Int.not_le.1 fun z=>hc (.inl z)
 have h2:(cE n.s.ah n.b_).1=n.s.af.ab:=Classical.byContradiction fun z=>hc (.inr z)
 obtain⟨k,hk⟩:∃ k:Nat,n.b_=k:=⟨n.b_.toNat,by omega⟩
 have oB:=h.RK k (by omega) (by omega) (by rw[←qG k (by omega) (by omega),← hk,h2,h.ab])
 have hn:n.b_=((F.length+1:Nat):Int):=by rw[hk,oB]
 refine .inr ⟨by omega,hn,?_⟩
 unfold ai.count
 rw[if_neg hc]
 have JL:(ce n.s.ah).2≤n.b_:=by rw[hn,h.ah];exact Xi hF _
 rw[hn] at JL ⊢
 have hv:=KB h
 by_cases hj:j∉bE c0 F
 rw[if_pos hj]
 show (if (ce n.s.ah).2≤_∧n.s.id∉n.av then _ else _)=_
 rw[if_pos ⟨JL,by rw[h.id,hv];exact hj⟩,h.ab]
 rw[if_neg hj]
 show (if (ce n.s.ah).2≤_∧n.s.id∉n.av then _ else _)=_
 rw[if_neg fun z=>hj (by rw[←hv,← h.id];exact z.2)]
end
end Go.Lw.jj
namespace Go.Lw.jj
open dF
theorem ahQ {os:List Int} {nx nx' mt:Int→Nat} {q:cK} (v:Int):fW (os.map (lw nx' mt)++[q]) v=fW (os.map (lw nx mt)++[q]) v:=by
 unfold fW
 rw[List.foldl_append,List.foldl_append]
 congr 1
 generalize (0:Int)=z
 induction os generalizing z with
 | nil=>rfl
 | cons o os ih=>rw[List.map_cons,List.map_cons,List.foldl_cons,List.foldl_cons];exact ih _
open Classical in
noncomputable def abQ (P:Int→Prop):Int:=if h:∃ k,P k then h.choose else 0
theorem TA (n:ai):n.b_=abQ n.AG:=rfl
section
variable {c0:aY} {F:List aA} {T j:Int} {r:aU} {n:ai} {m:az} {K b N:Nat} {nx mt:Int→Nat}
theorem ahD {r':aU} {nx':Int→Nat} (h:r.aK=(bZ c0 F j).map (lw nx mt)) (h':r'.aK=(bZ c0 F j).map (lw nx' mt)) (h1:r'.id=r.id) (h2:r'.ah=r.ah):(ai.mk r' bz.zero).b_=(ai.mk r bz.zero).b_:=by
 rw[TA,TA]
 congr 1
 funext k
 unfold ai.AG ai.av ai.aZ
 simp only[h,h',h1,h2]
 congr 2
 funext v
 exact ahQ v
theorem Xc (h:Ld0 c0 F T j n.s K b nx mt):gO n T=n:=by
 unfold gO
 rw[if_neg (by rw[h.ab];exact Int.lt_irrefl _)]
theorem Xb (h:Ld0 c0 F T j n.s K b nx mt) {o:Int} (ho:o∈bZ c0 F j):n.gu o=some (lw nx mt o):=by
 unfold ai.gu
 rw[h.aK];exact Xu (fun _=>rfl) ho
theorem HW (hF:dg N c0 F T) (h:Ld0 c0 F T j n.s K b nx mt):n.aZ=((F.length+1:Nat):Int):=by show (bX n.s.ah).1=_;rw[h.ah,vw hF (Nat.le_refl _)]
theorem Ld0.db (h:Ld0 c0 F T j n.s K b nx mt) {o:Int} (ho:o∈bZ c0 F j) {x y:Nat} (hx:1≤x∧y+1≤x∧x≤F.length+2∧(y<F.length+1→x≤F.length+1)∧y≤F.length+1) :
  ∃ k,n.s.aK.findIdx? (fun p=>decide (p.node=o))=some k∧Ld0 c0 F T j (n.db k ⟨o,x,y⟩).s K b (dC nx o x) (dC mt o y):=by
 obtain⟨k,h1,h2⟩:=map_set (f:=lw nx mt) (q:=⟨o,x,y⟩) (fun _=>rfl) ho aiJ
 refine⟨k,by rw[h.aK];exact h1,?_⟩
 have hp:(n.db k ⟨o,x,y⟩).s.aK=(bZ c0 F j).map (lw (dC nx o x) (dC mt o y)):=by
  show n.s.aK.set k _=_
  rw[h.aK,h2,ai8]
 refine { h with aK:=hp,tW:=fun p hp=>?_ }
 by_cases Cj:p=o
 subst Cj;rw[jh,jh];exact hx
 rw[mB _ _ Cj,mB _ _ Cj];exact h.tW p hp
theorem W_ (h:Ld0 c0 F T j r K b nx mt) (hm:mD j m) (hk:m.ao=6) (ht:m.ab=T):mg r m=(ai.mk r bz.zero).kM m:=by
 rw[show mg r m=(gO (ai.mk r bz.zero) T).dW m from zZ hm h.id (by omega) (by omega) ht (by rw[h.ab];exact Int.le_refl _),Xc (n:=⟨r,bz.zero⟩) h]
 unfold ai.dW
 simp[hk]
theorem Ld.z7 (hF:dg N c0 F T) (h:Ld c0 F T j r K b nx mt) (hm:mD j m) (hk:m.ao=6) (ht:m.ab=T) (hr:m.bT=true) {i g:Nat} (hi:m.index=i) (hg:m.hint=g) (hgi:g<i) (Ee:i≤F.length+1) {o:Int} (hf:m.am=o) (ho:o∈bZ c0 F j) :
  Ld c0 F T j (mg r m).s K b (dC nx o (max (g+1) (mt o+1))) mt∧(mg r m).o.aG=[ep c0 F T j K o (max (g+1) (mt o+1))]:=by
 rw[W_ h.toLd0 hm hk ht]
 have bV:=hF.len
 have hn:=h.tW o ho
 have hx:((max (g+1) (mt o+1):Nat):Int)=max (if m.hint<m.index then m.hint+1 else max m.index 1) (bF (mt o)):=by
  rw[if_pos (by omega),qg (by omega) (by omega),hg];omega
 obtain⟨k,h1,h2⟩:=Ld0.db (n:=⟨r,bz.zero⟩) h.toLd0 ho (x:=max (g+1) (mt o+1)) (y:=mt o) (by omega)
 have nk:dC mt o (mt o)=mt:=by funext z;unfold dC;split<;>simp_all
 rw[nk] at h2
 have e:=y9 (n:=⟨r,bz.zero⟩) (m:=m) (q:=lw nx mt o) (k:=k) h.aO (by rw[hf];exact Xb (n:=⟨r,bz.zero⟩) h.toLd0 ho) (by rw[HW hF (n:=⟨r,bz.zero⟩) h.toLd0];omega) hr (by rw[hf];exact h1) _ rfl
 rw[e]
 have hq:({ lw nx mt o with next:=max (if m.hint<m.index then m.hint+1 else max m.index 1) (bF (lw nx mt o).cA) }:cK)=⟨o,(max (g+1) (mt o+1):Nat),mt o⟩:=by rw[hx]
 rw[hq,MS hF h2 o _ _ (by omega) (by omega)]
 refine⟨⟨h2,h.DA.imp_right fun z=>?_⟩,rfl⟩
 have e9:(ai.mk ((ai.mk r bz.zero).db k ⟨o,(max (g+1) (mt o+1):Nat),mt o⟩).s bz.zero).b_=(ai.mk r bz.zero).b_:=ahD h.aK h2.aK rfl rfl
 exact fun y=>z (e9.symm.trans y)
theorem Ld.dv (hF:dg N c0 F T) (h:Ld c0 F T j r K b nx mt) (hm:mD j m) (hk:m.ao=6) (ht:m.ab=T) (hr:m.bT=false) {y:Nat} (hy:m.index=y) (hyN:y≤F.length+1) {o:Int} (hf:m.am=o) (ho:o∈bZ c0 F j)
  {x' y':Nat} (Qq:y'=max (mt o) y) (Cv:x'=max (nx o) (y'+1)) :
  (Ld c0 F T j (mg r m).s K b (dC nx o x') (dC mt o y')∧(mg r m).o.aG=if x'≤F.length+1 then [ep c0 F T j K o x'] else []) ∨
  (K<F.length+1∧j∈bE c0 F∧Ld c0 F T j (mg r m).s (F.length+1) b (dC nx o x') (dC mt o y')∧(mg r m).o.aG=(bZ c0 F j).map fun p=>ep c0 F T j (F.length+1) p (dC nx o x' p)) ∨
  (K<F.length+1∧j∉bE c0 F∧Pl c0 F T j (mg r m).s (F.length+1)∧(mg r m).s.aO=1∧(mg r m).o.aG=[]):=by
 rw[W_ h.toLd0 hm hk ht]
 have bV:=hF.len
 have hn:=h.tW o ho
 have NI:=h.k1
 have DU:=h.kN
 obtain⟨k,h1,h2⟩:=Ld0.db (n:=⟨r,bz.zero⟩) h.toLd0 ho (x:=x') (y:=y') (by omega)
 have hq:(lw nx mt o).up m.index=⟨o,x',y'⟩:=by
  unfold cK.up
  simp only[lw,hy]
  rw[qg (by omega) (by omega),Cv,Qq]
  congr 1<;>omega
 rw[AY (n:=⟨r,bz.zero⟩) (m:=m) (q:=lw nx mt o) (k:=k) h.aO (by rw[hf];exact Xb (n:=⟨r,bz.zero⟩) h.toLd0 ho) (by rw[HW hF (n:=⟨r,bz.zero⟩) h.toLd0];omega) (by rw[hr];decide) (by rw[hf];exact h1),hq]
 have Gq:((ai.mk r bz.zero).db k ⟨o,x',y'⟩).o=bz.zero:=rfl
 generalize (ai.mk r bz.zero).db k ⟨o,x',y'⟩=a at h2 Gq
 have tK:¬ a.s.eW=m.am:=by rw[h2.tr];have:=hm.f1;omega
 have Gn:=HW hF h2
 have NY:∀ (s:aU) (o':bz),(ai.mk s o').b_=(ai.mk s bz.zero).b_:=fun _ _=>rfl
 rcases W9 h2 hF with ⟨e,e2⟩ | ⟨e1,e2,e3⟩
 left
 rw[e,if_neg (by rw[h2.aO];decide)]
 unfold ai.after
 simp only
 rw[if_neg (Int.lt_irrefl _),if_neg (fun z=>tK z.1),Gn]
 have nO:Ld c0 F T j a.s K b (dC nx o x') (dC mt o y'):=⟨h2,e2.imp_right fun z=>by rw[←NY a.s a.o];exact z⟩
 by_cases hc:x'≤F.length+1
 rw[if_pos (by omega),if_pos hc,MS hF h2 o x' y' (by omega) (by omega)]
 refine⟨nO,?_⟩
 show a.o.aG++_=_
 rw[Gq];rfl
 rw[if_neg (by omega),if_neg hc]
 exact⟨nO,by rw[Gq];rfl⟩
 right
 by_cases hj:j∉bE c0 F
 right
 rw[if_pos hj] at e3
 rw[e3,if_pos (by show (1:Int)≠4;decide)]
 refine⟨e1,hj,⟨h2.id,?_,?_,Nat.le_refl _,h2.ah,?_,?_,h2.part,.inl rfl,fun z=>absurd z (by show ¬ (1:Int)=2;decide),h2.el⟩,rfl,?_⟩
 rw[DJ,if_neg (by simp only[h2.ab];exact Int.lt_irrefl _)];show 0≤a.s.af.ab;rw[h2.ab];have:=hF.t1;omega
 rw[DJ,if_neg (by simp only[h2.ab];exact Int.lt_irrefl _)];show a.s.af.ab≤T;rw[h2.ab];exact Int.le_refl _
 rw[DJ,if_neg (by simp only[h2.ab];exact Int.lt_irrefl _)];exact Int.le_refl _
 rw[DJ,if_neg (by simp only[h2.ab];exact Int.lt_irrefl _)];right;show (1:Int)≤((F.length+1:Nat):Int);omega
 show a.o.aG=[];rw[Gq];rfl
 left
 rw[if_neg hj] at e3
 have kR:j∈bE c0 F:=Classical.not_not.1 hj
 rw[e3,if_neg (by show ¬ a.s.aO≠4;rw[h2.aO];decide)]
 have h3:Ld0 c0 F T j (ai.mk { a.s with af:={ a.s.af with aB:=((F.length+1:Nat):Int) } } a.o).s (F.length+1) b (dC nx o x') (dC mt o y'):={ h2 with b_:=rfl,k1:=by omega,kN:=Nat.le_refl _,RK:=fun k h4 h5 _=>by omega }
 have hs:=Lp hF h3
 have xP:=HW hF h3
 unfold ai.after
 simp only
 have ox:a.s.af.aB<((F.length+1:Nat):Int):=by rw[h2.b_];omega
 rw[if_pos ox,if_neg (fun z=>tK z.1),hs.1,hs.2]
 refine⟨e1,kR,⟨h3,.inl rfl⟩,?_⟩
 show a.o.aG++_=_
 rw[Gq];rfl
theorem Ld0.nK (h:Ld0 c0 F T j r K b nx mt) (hm:mD j m) (hk:m.ao=2∧m.ab≤T∨m.ao=4∧m.ab=T):mg r m=⟨r,bz.zero⟩:=by
 rcases hk with ⟨hk,ht⟩ | ⟨hk,ht⟩
 rw[show mg r m=_ from EX hm h.id,if_neg (by omega),if_pos hk]
 unfold ai.kW
 rw[if_neg (by simp only[h.ab];omega),if_neg (by simp only[h.aO];omega)]
 rw[show mg r m=(gO (ai.mk r bz.zero) T).dW m from zZ hm h.id (by omega) (by omega) ht (by rw[h.ab];exact Int.le_refl _),Xc (n:=⟨r,bz.zero⟩) h]
 unfold ai.dW
 simp only[hk]
 show (ai.mk r bz.zero).lK m=_
 unfold ai.lK
 rw[if_neg (by simp only[h.aO];decide)]
def sR (t:Int):ez:=⟨1,t,az.zero,[],0,0,0⟩
noncomputable abbrev tk (r:aU) (t:Int):ai:=(ai.mk r bz.zero).tick t
theorem aj_ (r:aU) (t:Int):(bI r (sR t)).1=(tk r t).s∧(bI r (sR t)).2.1.aG=(tk r t).o.aG∧(bI r (sR t)).2.2=0:=by
 unfold bI sR
 simp
def jX (e:Int):Int:=min (e+1) (max e 1073741824)
theorem FW {e:Int} (h:0≤e∧e≤1073741824):min (jT e) (max e 1073741824)=jX e∧0≤jX e∧jX e≤1073741824∧jX e≤e+1∧(e<1073741824→jX e=e+1):=by
 rw[YZ (by omega) (by omega)]
 unfold jX;omega
theorem Ld.tick (hF:dg N c0 F T) (h:Ld c0 F T j r K b nx mt) (hb:b≤1) (t:Int):Ld c0 F T j (tk r t).s K (1-b) nx mt∧(tk r t).o.aG=if b=1 then (bZ c0 F j).map fun p=>ep c0 F T j K p (nx p) else []:=by
 obtain⟨e1,e2,e3,e4,-⟩:=FW h.el
 have hbt:=h.fQ
 unfold tk ai.tick
 simp only
 rw[e1,if_neg (by simp only[h.aO];decide)]
 obtain⟨q,hq,hqp⟩:∃ q:ai,q=(if max t 1≤jX r.bi then (ai.mk { r with bi:=0,eW:=0 } bz.zero) else ai.mk { r with bi:=jX r.bi } bz.zero)∧Ld c0 F T j q.s K b nx mt∧q.o=bz.zero:=by
  refine⟨_,rfl,?_⟩
  split
  exact⟨⟨{ h.toLd0 with tr:=rfl,el:=by simp },h.DA⟩,rfl⟩
  exact⟨⟨{ h.toLd0 with el:=⟨e2,e3⟩ },h.DA⟩,rfl⟩
 have lE:(if max t 1≤jX r.bi then (ai.mk { ({ r with bi:=jX r.bi }:aU) with bi:=0,eW:=0 } bz.zero) else ai.mk { r with bi:=jX r.bi } bz.zero)=q:=hq.symm
 obtain⟨Hx,Wg⟩:=hqp
 rw[lE]
 have hbq:=Hx.fQ
 have hsb:jT q.s.fQ=((b+1:Nat):Int):=by rw[hbq,YZ (by omega) (by omega)];omega
 rw[hsb]
 by_cases cz:b=1
 subst cz
 rw[if_pos (by omega),if_pos rfl]
 have h3:Ld c0 F T j (ai.mk { ({ q.s with fQ:=((1+1:Nat):Int) }:aU) with fQ:=0 } q.o).s K 0 nx mt:=⟨{ Hx.toLd0 with fQ:=rfl },Hx.DA⟩
 have hs:=Lp hF h3.toLd0
 refine⟨hs.1▸h3,?_⟩
 rw[hs.2]
 show q.o.aG++_=_
 rw[Wg];rfl
 have Bx:b=0:=by omega
 subst Bx
 rw[if_neg (by omega),if_neg (by omega)]
 exact⟨⟨{ Hx.toLd0 with fQ:=rfl },Hx.DA⟩,by show q.o.aG=_;rw[Wg];rfl⟩
def qM (F:List aA) (j T:Int) (l:Nat) (ao:Int) (o:Int):az:={ az.zero with ao:=ao,am:=j,to:=o,ab:=T,index:=l,cn:=tm F l }
theorem Ag {vs:List Int} {a:Int} (h:kC (cZ vs) [(a,true)]=1):∀ v∈vs,v=a:=fun v hv=>Classical.byContradiction fun z =>
 Xr (j:=a) (fun b hb _=>by rw[List.mem_singleton.1 hb]) ⟨v,hv,z⟩ h
theorem Pl.tick {l:Nat} (hF:dg N c0 F T) (h:Pl c0 F T j r l) (t:Int) (hs:j∈(ef c0 F l).av→max t 1≤r.bi+1→∃ v∈(ef c0 F l).av,v≠j) :
  (Pl c0 F T j (tk r t).s l∧(tk r t).o.aG=[]∧(tk r t).s={ r with bi:=jX r.bi }) ∨
  (j∈(ef c0 F l).av∧max t 1≤r.bi+1∧Pl c0 F T j (tk r t).s l∧(tk r t).s.bi=0∧(tk r t).o.aG=((ef c0 F l).av.filter fun o=>decide (o≠j)).map (qM F j (r.af.ab+1) l 1)):=by
 obtain⟨e1,e2,e3,e4,-⟩:=FW h.el
 have Qa:=h.t0
 have EC:=h.t1
 have ot:=hF.t2
 unfold tk ai.tick
 simp only
 rw[e1,if_pos (by rcases h.aO with z | z<;>rw[z]<;>decide)]
 have hv:(ai.mk { r with bi:=jX r.bi } bz.zero).jz=decide (j∈(ef c0 F l).av):=by
  show decide (r.id∈(ce r.ah).1.av)=_
  rw[h.id,h.ah,qJ]
 by_cases hc:max t 1≤jX r.bi∧(ai.mk { r with bi:=jX r.bi } bz.zero).jz=true
 rw[if_pos hc]
 have hj:j∈(ef c0 F l).av:=by have:=hc.2;rw[hv] at this;exact of_decide_eq_true this
 have HF:max t 1≤r.bi+1:=by have:=hc.1;omega
 obtain⟨v,Qf,rx⟩:=hs hj HF
 unfold ai.eD
 simp only
 have lm:((ai.mk { r with bi:=jX r.bi } bz.zero).dM 2).gM≠1:=by
  show kC (cZ (ce r.ah).1.av) [(r.id,true)]≠1
  rw[h.ah,qJ,h.id]
  exact fun z=>rx (Ag z v Qf)
 rw[if_neg lm]
 refine .inr ⟨hj,HF,⟨h.id,h.t0,h.t1,h.le,h.ah,h.b_,h.rQ,h.part,.inr rfl,fun _=>⟨fun b hb _=>?_,v,Qf,rx⟩,by show (0:Int)≤0∧(0:Int)≤_;omega⟩,rfl,?_⟩
 have hb:b∈[(r.id,true)]:=hb
 rw[List.mem_singleton.1 hb];exact h.id
 show []++_=_
 rw[List.nil_append]
 unfold ai.qd
 have ev:((ai.mk { r with bi:=jX r.bi } bz.zero).dM 2).av=(ef c0 F l).av:=by show (ce r.ah).1.av=_;rw[h.ah,qJ]
 have ei:((ai.mk { r with bi:=jX r.bi } bz.zero).dM 2).s.id=j:=h.id
 have el':bX ((ai.mk { r with bi:=jX r.bi } bz.zero).dM 2).s.ah=((l:Int),tm F l):=by show bX r.ah=_;rw[h.ah];exact vw hF h.le
 have eT:bF ((ai.mk { r with bi:=jX r.bi } bz.zero).dM 2).s.af.ab=r.af.ab+1:=qg h.t0 (by show r.af.ab<_;omega)
 rw[ev,ei,el',eT]
 rfl
 rw[if_neg hc]
 exact .inl ⟨⟨h.id,h.t0,h.t1,h.le,h.ah,h.b_,h.rQ,h.part,h.aO,h.lone,⟨e2,e3⟩⟩,rfl,rfl⟩
end
end Go.Lw.jj
namespace Go.Lw.jj
open dF
section
variable {c0:aY} {F:List aA} {T j:Int} {r:aU} {n:ai} {m:az} {K b N:Nat} {nx mt:Int→Nat}
theorem Jg (k:Nat) (hk:F.length+1≤k):ef c0 F k=ik c0 F:=by
 obtain⟨q,rfl⟩:∃ q,k=q+1:=⟨k-1,by omega⟩
 show ik c0 (F.take q)=_
 rw[List.take_of_length_le (by omega)]
theorem Tk (x:aA):ik c0 (F++[x])=if x.ao=3 then x.aJ else ik c0 F:=by
 show aJ gF c0 (F++[x])=_
 rw[MF]
 unfold gF
 split<;>rfl
theorem Tu (x:aA):ef c0 (F++[x]) ((F++[x]).length+1)=if x.ao=3 then x.aJ else ef c0 F (F.length+1):=by
 rw[Jg _ (Nat.le_refl _),Jg _ (Nat.le_refl _),Tk]
theorem dg.CV (hF:dg N c0 F T) {x:aA} {T':Int} (hT:T≤T') (ot:T'≤100) (hl:F.length≤12) (hi:x.index=((F.length+2:Nat):Int)) (ht:x.ab=T') (hk:sx x=true) (hc:x.ao=3→eg x.aJ=0∧EK N x.aJ):dg N c0 (F++[x]) T':=by
 have JD:=hF.t1
 refine⟨K9 hF.run ?_,fun e he h3=>?_,fun e he=>?_,by omega,ot,by simp;omega,hF.aF,hF.n7,fun k=>?_⟩
 have h1:(F.getLast?.map (·.index)).getD 1=((F.length+1:Nat):Int)∧(F.getLast?.map (·.ab)).getD 1≤T:=by
  cases hz:F.getLast? with
  | none=>rw[List.getLast?_eq_none_iff.1 hz];exact⟨rfl,JD⟩
  | some e =>
   have h2:=hz
   rw[List.getLast?_eq_getElem?] at h2
   have h3:=hF.cW _ _ h2
   have h4:=gI h2
   exact⟨by simp only[Option.map_some,Option.getD_some];omega,hF.ff e (List.mem_of_getElem? h2)⟩
 simp only[fx,pL,hk,h1.1,Bool.and_true]
 rw[decide_eq_true (show x.index=((F.length+1:Nat):Int)+1 by omega),decide_eq_true (show _≤x.ab by omega),decide_eq_true (show x.ab<iv by simp only[iv];omega)]
 rfl
 rcases List.mem_append.1 he with he | he
 exact hF.right e he h3
 rw[List.mem_singleton.1 he] at h3 ⊢;exact (hc h3).1
 rcases List.mem_append.1 he with he | he
 have:=hF.ff e he;omega
 rw[List.mem_singleton.1 he];omega
 by_cases cv:k≤F.length+1
 rw[AD cv];exact hF.mS k
 rw[Jg k (by simp;omega),Tk]
 split
 rename_i h3;exact (hc h3).2
 have:=hF.mS (F.length+1)
 rw[Jg _ (Nat.le_refl _)] at this;exact this
theorem Xm (x:aA):(⟨(lg c0 F (F.length+1)).aF,(lg c0 F (F.length+1)).entries++[x]⟩:br)=lg c0 (F++[x]) ((F++[x]).length+1):=by
 rw[KC,KC]
theorem Y_ (x:aA):tm (F++[x]) ((F++[x]).length+1)=x.ab:=by
 rw[show (F++[x]).length+1=F.length+2 by simp]
 exact C1 (by simp)
theorem TU (hF:dg N c0 F T) (h:Ld0 c0 F T j n.s K b nx mt) (hj:j∈bE c0 F∨n.b_≠((F.length+1:Nat):Int)) :
  ∃ K',(K'=K∨K'=F.length+1∧j∈bE c0 F)∧Ld c0 F T j n.count.gD.s K' b nx mt∧n.count.gD.o.aG=n.o.aG++(bZ c0 F j).map fun p=>ep c0 F T j K' p (nx p):=by
 have NY:∀ (s:aU) (o':bz),(ai.mk s o').b_=(ai.mk s bz.zero).b_:=fun _ _=>rfl
 rcases W9 h hF with ⟨e,e2⟩ | ⟨e1,e2,e3⟩
 rw[e]
 have hs:=Lp hF h
 exact⟨K,.inl rfl,hs.1▸⟨h,e2.imp_right fun z=>by rw[←NY n.s n.o];exact z⟩,hs.2⟩
 have kR:j∈bE c0 F:=hj.resolve_right fun z=>z e2
 rw[if_neg (fun z=>z kR)] at e3
 rw[e3]
 have h3:Ld0 c0 F T j (ai.mk { n.s with af:={ n.s.af with aB:=((F.length+1:Nat):Int) } } n.o).s (F.length+1) b nx mt:={ h with b_:=rfl,k1:=by omega,kN:=Nat.le_refl _,RK:=fun k h4 h5 _=>by omega }
 have hs:=Lp hF h3
 exact⟨F.length+1,.inr ⟨rfl,kR⟩,hs.1▸⟨h3,.inl rfl⟩,hs.2⟩
theorem ajE {bl:List nD} {v:Int} (h1:∀ b∈bl,b.2=true) (hv:(v,true)∈bl):says bl true v=true:=by
 unfold says Lw.aT
 cases hf:bl.find? (vr v) with
 | none =>
  rw[List.find?_eq_none] at hf
  exact absurd (show vr v (v,true)=true by simp[vr]) (hf _ hv)
 | some b =>
  have:=h1 b (List.mem_of_find?_eq_some hf)
  simp[this]
theorem Jr {vs:List Int} {bl:List nD} (bH:vs≠[]) (h1:∀ b∈bl,b.2=true) (hv:∀ v∈vs,(v,true)∈bl):kC (cZ vs) bl=1:=by
 have hc:(cZ vs).countP (says bl true)=(cZ vs).length:=List.countP_eq_length.2 fun v pm=>ajE h1 (hv v (sU.1 pm))
 obtain⟨v,pm⟩:=List.exists_mem_of_ne_nil _ bH
 have tF:0<(cZ vs).length:=List.length_pos_iff.2 fun z=>by
  have:=(sU (xs:=vs) (x:=v)).2 pm
  rw[z] at this;cases this
 unfold kC
 rw[hc,if_pos ⟨tF,by unfold most;split<;>omega⟩]
theorem ZH {vs:List Int} {bl:List nD} (bH:vs≠[]) (h1:∀ b∈bl,b.2=true):kC (cZ vs) bl ≠ -1:=by
 have hc:(cZ vs).countP (says bl false)=0:=List.countP_eq_zero.2 fun v _ hs=>by
  unfold says Lw.aT at hs
  cases hf:bl.find? (vr v) with
  | none=>rw[hf] at hs;simp at hs
  | some b =>
   rw[hf] at hs
   have:=h1 b (List.mem_of_find?_eq_some hf)
   simp[this] at hs
 obtain⟨v,pm⟩:=List.exists_mem_of_ne_nil _ bH
 have tF:0<(cZ vs).length:=List.length_pos_iff.2 fun z=>by
  have:=(sU (xs:=vs) (x:=v)).2 pm
  rw[z] at this;cases this
 unfold kC
 rw[hc]
 split
 decide
 rw[if_neg (by unfold most;split<;>omega)];decide
structure Hr (c0:aY) (F:List aA) (T:Int) (q:Int) (j:Int) (r:aU):Prop where
 id:r.id=j
 ab:r.af.ab=T
 aO:r.aO=q
 ah:r.ah=lg c0 F (F.length+1)
 b_:1≤r.af.aB∧r.af.aB≤((F.length+1:Nat):Int)
 part:r.part=fG.zero
 el:0≤r.bi∧r.bi≤1073741824
 dZ:∀ b∈r.cB,b.2=true
abbrev fR (F:List aA) (T:Int):aA:=⟨((F.length+2:Nat):Int),T,1,[],⟨[],[]⟩⟩
theorem YS {T':Int} (hF:dg N c0 F T) (hT:T≤T') (ot:T'≤100) (hl:F.length≤12):dg N c0 (F++[fR F T']) T' :=
 hF.CV hT ot hl rfl rfl rfl fun z=>by cases (show (1:Int)=3 from z)
theorem yF {T':Int}:ef c0 (F++[fR F T']) ((F++[fR F T']).length+1)=ef c0 F (F.length+1):=by
 rw[Tu,if_neg (by show ¬ (1:Int)=3;decide)]
theorem Xf {T':Int} (hF:dg N c0 F T) (hT:T<T') (ot:T'≤100) (hl:F.length≤12) (gK:n.s.id=j) (ht:n.s.af.ab=T') (ri:n.s.ah=lg c0 F (F.length+1)) (hc:n.s.af.aB=K) (hK:1≤K∧K≤F.length+1) (hp:n.s.part=fG.zero) (hj:j∈bE c0 F) :
  ∃ K',Ld c0 (F++[fR F T']) T' j n.cI.s K' 0 (fun _=>F.length+2) (fun _=>0)∧n.cI.o.aG=n.o.aG++(bZ c0 (F++[fR F T']) j).map fun p=>ep c0 (F++[fR F T']) T' j K' p (F.length+2):=by
 have oW:=YS hF (Int.le_of_lt hT) ot hl
 have bV:=hF.len
 have qB:(bX n.s.ah).1=((F.length+1:Nat):Int):=by rw[ri,vw hF (Nat.le_refl _)]
 have iu:bF (bX n.s.ah).1=((F.length+2:Nat):Int):=by rw[qB,qg (by omega) (by omega)];omega
 have fT:(ce n.s.ah).1=ef c0 F (F.length+1):=by rw[ri,qJ]
 obtain⟨m,hm,o_⟩:∃ m:ai,m=(ai.fE (ai.cx { n with s:={ n.s with aO:=4,gq:=n.s.id,cB:=[],bi:=0,fQ:=0,eW:=0,aK:=[] } } (bF n.aZ)) ⟨bF n.aZ,n.s.af.ab,1,[],⟨[],[]⟩⟩)∧Ld0 c0 (F++[fR F T']) T' j m.s K 0 (fun _=>F.length+2) (fun _=>0):=by
  refine⟨_,rfl,gK,ht,rfl,?_,hc,hK.1,by simp;omega,rfl,rfl,hp,?_,by show (0:Int)≤0∧(0:Int)≤_;omega,fun o _=>by simp,fun k h1 h2 h3=>?_,Y_ _⟩
  show (⟨n.s.ah.aF,n.s.ah.entries++[⟨bF (bX n.s.ah).1,n.s.af.ab,1,[],⟨[],[]⟩⟩]⟩:br)=_
  rw[iu,ht,ri];exact Xm _
  show (oI (ce n.s.ah).1 n.s.id).map (fun o=>ai.tY [] o (bF (bX n.s.ah).1))=_
  rw[fT,gK,iu]
  show _=(oI (ef c0 (F++[fR F T']) ((F++[fR F T']).length+1)) j).map _
  rw[yF];rfl
  by_cases hk:k≤F.length+1
  rw[Za hk] at h3
  have:=akp hF hk;omega
  simp at h2 ⊢;omega
 have e:n.cI=m.count.gD:=by rw[hm];rfl
 rw[e]
 have jL:m.o.aG=n.o.aG:=by rw[hm];rfl
 obtain⟨K',-,h1,h2⟩:=TU oW o_ (.inl (by show j∈(ef c0 _ _).av;rw[yF];exact hj))
 exact⟨K',h1,by rw[h2,jL]⟩
theorem YT (hF:dg N c0 F T) (ot:T<100) (gK:n.s.id=j) (ht:n.s.af.ab=T) (ri:n.s.ah=lg c0 F (F.length+1)) (hc:1≤n.s.af.aB∧n.s.af.aB≤((F.length+1:Nat):Int)) (hp:n.s.part=fG.zero) (hj:j∈bE c0 F) :
  ((∃ v∈bE c0 F,v≠j)∧Hr c0 F (T+1) 3 j n.fp.s∧n.fp.s.cB=[(j,true)]∧n.fp.o.aG=n.o.aG++((bE c0 F).filter fun o=>decide (o≠j)).map (qM F j (T+1) (F.length+1) 3)) ∨
  ((∀ v∈bE c0 F,v=j)∧(F.length≤12→∃ K',Ld c0 (F++[fR F (T+1)]) (T+1) j n.fp.s K' 0 (fun _=>F.length+2) (fun _=>0)∧n.fp.o.aG=n.o.aG++(bZ c0 (F++[fR F (T+1)]) j).map fun p=>ep c0 (F++[fR F (T+1)]) (T+1) j K' p (F.length+2))):=by
 have JD:=hF.t1
 have hu:bF n.s.af.ab=T+1:=by rw[ht];exact qg (by omega) (by omega)
 obtain⟨m,hm⟩:∃ m:ai,m=ai.dM { n with s:={ n.s with af:={ n.s.af with ab:=bF n.s.af.ab,aT:=n.s.id } } } 3:=⟨_,rfl⟩
 have e:n.fp=if m.gM=1 then m.cI else m.l8 3 m.s.af.ab:=by rw[hm];rfl
 have ev:m.av=bE c0 F:=by rw[hm];show (ce n.s.ah).1.av=_;rw[ri,qJ]
 have eb:m.s.cB=[(j,true)]:=by rw[hm];show [(n.s.id,true)]=_;rw[gK]
 have et:m.gM=kC (cZ (bE c0 F)) [(j,true)]:=by unfold ai.gM;rw[ev,eb]
 have e1:m.s.id=j:=by rw[hm];exact gK
 have e2:m.s.af.ab=T+1:=by rw[hm];exact hu
 have e3:m.s.ah=lg c0 F (F.length+1):=by rw[hm];exact ri
 have e4:m.s.af.aB=n.s.af.aB:=by rw[hm];rfl
 have e5:m.s.part=fG.zero:=by rw[hm];exact hp
 have e6:m.o.aG=n.o.aG:=by rw[hm];rfl
 have e7:m.s.aO=3:=by rw[hm];rfl
 have e8:m.s.bi=0:=by rw[hm];rfl
 rw[e]
 by_cases lm:m.gM=1
 rw[if_pos lm]
 rw[et] at lm
 refine .inr ⟨Ag lm,fun hl=>?_⟩
 obtain⟨K,hK⟩:∃ K:Nat,n.s.af.aB=K:=⟨n.s.af.aB.toNat,by omega⟩
 have:=Xf (n:=m) (K:=K) hF (show T<T+1 by omega) (by omega) hl e1 e2 e3 (by rw[e4,hK]) (by omega) e5 hj
 rw[e6] at this;exact this
 rw[if_neg lm]
 refine .inl ⟨Classical.byContradiction fun z=>lm ?_,⟨e1,e2,e7,e3,by show 1≤m.s.af.aB∧m.s.af.aB≤_;rw[e4];exact hc,e5,by show 0≤m.s.bi∧m.s.bi≤_;rw[e8];omega,fun b hb=>?_⟩,eb,?_⟩
 rw[et]
 refine Jr (fun h=>by rw[h] at hj;cases hj) (fun b hb=>by rw[List.mem_singleton.1 hb]) fun v hv=>?_
 have:v=j:=Classical.byContradiction fun w=>z ⟨v,hv,w⟩
 rw[this];exact List.mem_singleton.2 rfl
 have hb:b∈m.s.cB:=hb
 rw[eb] at hb;rw[List.mem_singleton.1 hb]
 show m.o.aG++m.qd 3 m.s.af.ab m.av=_
 unfold ai.qd
 rw[e6,ev,e1,e2,e3,vw hF (Nat.le_refl _)]
 rfl
theorem abf {t:Int} (hF:dg N c0 F T) (ot:T<100) (h:Pl c0 F T j r (F.length+1)) (ht:r.af.ab=T) (hj:j∈bE c0 F) (HF:max t 1≤r.bi+1) (he:r.bi<1000) :
  ((∃ v∈bE c0 F,v≠j)∧Hr c0 F T 2 j (tk r t).s∧(tk r t).s.cB=[(j,true)]∧(tk r t).o.aG=((bE c0 F).filter fun o=>decide (o≠j)).map (qM F j (T+1) (F.length+1) 1)) ∨
  ((∀ v∈bE c0 F,v=j)∧(F.length≤12→∃ K',Ld c0 (F++[fR F (T+1)]) (T+1) j (tk r t).s K' 0 (fun _=>F.length+2) (fun _=>0)∧(tk r t).o.aG=(bZ c0 (F++[fR F (T+1)]) j).map fun p=>ep c0 (F++[fR F (T+1)]) (T+1) j K' p (F.length+2))):=by
 obtain⟨e1,e2,e3,e4,e5⟩:=FW h.el
 have JD:=hF.t1
 have hc:=h.b_
 have iK:=h.rQ
 have hv:(ai.mk { r with bi:=jX r.bi } bz.zero).jz=true:=by
  show decide (r.id∈(ce r.ah).1.av)=true
  rw[h.id,h.ah,qJ];exact decide_eq_true hj
 have e:tk r t=(ai.mk { r with bi:=jX r.bi } bz.zero).eD:=by
  unfold tk ai.tick
  simp only
  rw[e1,if_pos (by rcases h.aO with z | z<;>rw[z]<;>decide),if_pos ⟨by have:=e5 (by omega);omega,hv⟩]
 rw[e]
 obtain⟨m,hm⟩:∃ m:ai,m=ai.dM (ai.mk { r with bi:=jX r.bi } bz.zero) 2:=⟨_,rfl⟩
 have ea:(ai.mk { r with bi:=jX r.bi } bz.zero).eD=if m.gM=1 then m.fp else m.l8 1 (bF m.s.af.ab):=by rw[hm];rfl
 have ev:m.av=bE c0 F:=by rw[hm];show (ce r.ah).1.av=_;rw[h.ah,qJ]
 have eb:m.s.cB=[(j,true)]:=by rw[hm];show [(r.id,true)]=_;rw[h.id]
 have et:m.gM=kC (cZ (bE c0 F)) [(j,true)]:=by unfold ai.gM;rw[ev,eb]
 have f1:m.s.id=j:=by rw[hm];exact h.id
 have f2:m.s.af.ab=T:=by rw[hm];exact ht
 have f3:m.s.ah=lg c0 F (F.length+1):=by rw[hm];exact h.ah
 have f4:m.s.af.aB=r.af.aB:=by rw[hm];rfl
 have f5:m.s.part=fG.zero:=by rw[hm];exact h.part
 have f6:m.o.aG=[]:=by rw[hm];rfl
 have f7:m.s.aO=2:=by rw[hm];rfl
 have f8:m.s.bi=0:=by rw[hm];rfl
 rw[ea]
 by_cases lm:m.gM=1
 rw[if_pos lm]
 rw[et] at lm
 have ky:=Ag lm
 rcases YT (n:=m) hF ot f1 f2 f3 (by rw[f4];omega) f5 hj with ⟨⟨v,hv,EF⟩,-⟩ | ⟨-,h2⟩
 exact absurd (ky v hv) EF
 refine .inr ⟨ky,fun hl=>?_⟩
 obtain⟨K',a1,a2⟩:=h2 hl
 rw[f6] at a2
 exact⟨K',a1,a2⟩
 rw[if_neg lm]
 refine .inl ⟨Classical.byContradiction fun z=>lm ?_,⟨f1,f2,f7,f3,by show 1≤m.s.af.aB∧m.s.af.aB≤_;rw[f4];omega,f5,by show 0≤m.s.bi∧m.s.bi≤_;rw[f8];omega,fun b hb=>?_⟩,eb,?_⟩
 rw[et]
 refine Jr (fun h=>by rw[h] at hj;cases hj) (fun b hb=>by rw[List.mem_singleton.1 hb]) fun v hv=>?_
 have:v=j:=Classical.byContradiction fun w=>z ⟨v,hv,w⟩
 rw[this];exact List.mem_singleton.2 rfl
 have hb:b∈m.s.cB:=hb
 rw[eb] at hb;rw[List.mem_singleton.1 hb]
 show m.o.aG++m.qd 1 (bF m.s.af.ab) m.av=_
 unfold ai.qd
 rw[f6,ev,f1,f2,f3,vw hF (Nat.le_refl _),qg (by omega) (by omega)]
 rfl
theorem Hr.pre (hF:dg N c0 F T) (ot:T<100) (h:Hr c0 F T 2 j r) (hj:j∈bE c0 F) (hv:∃ v∈bE c0 F,v≠j) (hm:mD j m) (hk:m.ao=2) (hr:m.bT=false) (ht:m.ab=T+1) :
  (Hr c0 F T 2 j (mg r m).s∧(mg r m).s.cB=r.cB++[(m.am,true)]∧kC (cZ (bE c0 F)) (mg r m).s.cB≠1∧(mg r m).o.aG=[]) ∨
  (Hr c0 F (T+1) 3 j (mg r m).s∧(mg r m).s.cB=[(j,true)]∧(mg r m).o.aG=((bE c0 F).filter fun o=>decide (o≠j)).map (qM F j (T+1) (F.length+1) 3)):=by
 have JD:=hF.t1
 have e0:mg r m=(ai.mk r bz.zero).kW m:=by
  rw[show mg r m=_ from EX hm h.id,if_neg (by omega),if_pos hk]
 rw[e0]
 unfold ai.kW
 rw[if_neg (by rw[hr];simp),if_pos ⟨h.aO,.inr (by show m.ab=bF r.af.ab;rw[h.ab,qg (by omega) (by omega)];exact ht)⟩]
 unfold ai.jS
 simp only
 have rz:∀ b∈r.cB++[(m.am,!m.bT)],b.2=true:=fun b hb=>by
  rcases List.mem_append.1 hb with hb | hb
  exact h.dZ b hb
  rw[List.mem_singleton.1 hb,hr];rfl
 have lm:((ai.mk r bz.zero).jm m.am (!m.bT)).gM=kC (cZ (bE c0 F)) (r.cB++[(m.am,!m.bT)]):=by
  show kC (cZ (ce r.ah).1.av) (r.cB++[(m.am,!m.bT)])=_
  rw[h.ah,qJ]
 have bH:bE c0 F≠[]:=fun z=>by rw[z] at hj;cases hj
 split
 right
 rcases YT (n:=(ai.mk r bz.zero).jm m.am (!m.bT)) hF ot h.id h.ab h.ah h.b_ h.part hj with ⟨-,h2,h3,h4⟩ | ⟨h1,-⟩
 exact⟨h2,h3,h4⟩
 obtain⟨v,a,b⟩:=hv;exact absurd (h1 v a) b
 rename_i fm
 left
 rw[if_neg (by rw[lm];exact ZH bH rz)]
 rw[lm] at fm
 rw[hr] at fm rz ⊢
 exact⟨⟨h.id,h.ab,h.aO,h.ah,h.b_,h.part,h.el,rz⟩,rfl,fm,rfl⟩
theorem Hr.nB {T':Int} (hF:dg N c0 F T) (hT:T<T') (ot:T'≤100) (hl:F.length≤12) (h:Hr c0 F T' 3 j r) (hj:j∈bE c0 F) (hm:mD j m) (hk:m.ao=4) (hr:m.bT=false) (ht:m.ab=T') :
  (Hr c0 F T' 3 j (mg r m).s∧(mg r m).s.cB=r.cB++[(m.am,true)]∧kC (cZ (bE c0 F)) (mg r m).s.cB≠1∧(mg r m).o.aG=[]) ∨
  ∃ K',Ld c0 (F++[fR F T']) T' j (mg r m).s K' 0 (fun _=>F.length+2) (fun _=>0)∧(mg r m).o.aG=(bZ c0 (F++[fR F T']) j).map fun p=>ep c0 (F++[fR F T']) T' j K' p (F.length+2):=by
 have e0:mg r m=(ai.mk r bz.zero).lK m:=by
  rw[show mg r m=(gO (ai.mk r bz.zero) T').dW m from zZ hm h.id (by omega) (by omega) ht (by show r.af.ab≤T';rw[h.ab];exact Int.le_refl _)]
  have:gO (ai.mk r bz.zero) T'=ai.mk r bz.zero:=by unfold gO;rw[if_neg (by show ¬ r.af.ab<T';rw[h.ab];exact Int.lt_irrefl _)]
  rw[this]
  unfold ai.dW
  simp[hk]
 rw[e0]
 unfold ai.lK
 rw[if_pos (show (ai.mk r bz.zero).s.aO=3 from h.aO)]
 unfold ai.jS
 simp only
 have rz:∀ b∈r.cB++[(m.am,!m.bT)],b.2=true:=fun b hb=>by
  rcases List.mem_append.1 hb with hb | hb
  exact h.dZ b hb
  rw[List.mem_singleton.1 hb,hr];rfl
 have lm:((ai.mk r bz.zero).jm m.am (!m.bT)).gM=kC (cZ (bE c0 F)) (r.cB++[(m.am,!m.bT)]):=by
  show kC (cZ (ce r.ah).1.av) (r.cB++[(m.am,!m.bT)])=_
  rw[h.ah,qJ]
 have bH:bE c0 F≠[]:=fun z=>by rw[z] at hj;cases hj
 have hc:=h.b_
 split
 right
 obtain⟨K,hK⟩:∃ K:Nat,r.af.aB=K:=⟨r.af.aB.toNat,by omega⟩
 exact Xf (n:=(ai.mk r bz.zero).jm m.am (!m.bT)) (K:=K) hF hT ot hl h.id h.ab h.ah hK (by omega) h.part hj
 rename_i fm
 left
 rw[if_neg (by rw[lm];exact ZH bH rz)]
 rw[lm] at fm
 rw[hr] at fm rz ⊢
 exact⟨⟨h.id,h.ab,h.aO,h.ah,h.b_,h.part,h.el,rz⟩,rfl,fm,rfl⟩
theorem Hr.nK (h:Hr c0 F T 3 j r) (hm:mD j m) (hk:m.ao=2) (ht:m.ab≤T):mg r m=⟨r,bz.zero⟩:=by
 rw[show mg r m=_ from EX hm h.id,if_neg (by omega),if_pos hk]
 unfold ai.kW
 rw[if_neg (by show ¬ (_∧r.af.ab<m.ab);rw[h.ab];omega),if_neg (by show ¬ (r.aO=2∧_);rw[h.aO];omega)]
end
end Go.Lw.jj
namespace Go.Lw.jj
open dF
structure kf (n:Nat) (m:az):Prop where
 f1:1≤m.am
 fn:m.am≤n
 t1:1≤m.to
 tn:m.to≤n
 ne:m.am≠m.to
 ab:m.ab≤200
 index:m.index≤200
 aB:m.aB≤200
theorem kf.acq {n:Nat} {m:az} (h:kf n m) (hn:n≤5):mD m.to m:=by
 obtain⟨h1,h2,h3,h4,h5,h6,h7,h8⟩:=h
 exact⟨rfl,h5,h1,by omega,by simp only[eo];omega,by simp only[eo];omega,by simp only[eo];omega⟩
theorem kf.vZ {n:Nat} {m:az} {j:Int} (h:kf n m) (hn:n≤5) (hj:m.to=j):mD j m:=hj▸h.acq hn
section
variable (c0:aY) (F:List aA) (T L:Int)
inductive lM (la:Int→Nat) (m:az):Prop
 | eD (i:Nat):m.ao=1→m.am∉bE c0 F→m.am≠L→m.index=i→i<la m.to→m.cn=tm F i→lM la m
 | no:m.ao=2→m.to∉bE c0 F→m.to≠L→m.bT=true→m.ab≤T→lM la m
inductive LM (la:Int→Nat) (m:az):Prop
 | yT (i k:Nat):m.ao=5→m.to∈bZ c0 F L→m.am=L→m.ab=T→m.index=i→1≤i→i≤F.length+1→m.cn=tm F i→m.entries=es F i→m.aB=k→LM la m
 | lQ:m.ao=7→m.to∈bZ c0 F L→m.am=L→m.ab=T→m.index=1→m.cn=1→m.aJ=c0→m.hint=0→m.data=[]→m.done=true→LM la m
 | dv (y:Nat):m.ao=6→m.am∈bZ c0 F L→m.to=L→m.ab=T→m.bT=false→m.index=y→1≤y→y≤la m.am→LM la m
 | z7 (i g:Nat):m.ao=6→m.am∈bZ c0 F L→m.to=L→m.ab=T→m.bT=true→m.index=i→m.hint=g→g<i→i≤F.length+1→g≤la m.am→LM la m
 | kz:lM c0 F T L la m→LM la m
 | pK:(m.ao=2∧m.ab≤T∨m.ao=4∧m.ab=T)→m.to=L→L∈bE c0 F→LM la m
 | eD:m.ao=1→m.am=L→m.ab≤T→L∈bE c0 F→LM la m
 | vt:m.ao=3→m.am=L→m.ab=T→L∈bE c0 F→LM la m
def wt (N:Nat) (la:Int→Nat) (m:az):Nat :=
 if m.ao=5 then (if m.index≤la m.to then max 2 (2*(N-m.index.toNat)) else 2*N+2)
 else if m.ao=7 then 2*N
 else if m.ao=6 then (if m.bT=true then 2*N+1 else 2*(N-m.index.toNat)+1)
 else if m.ao=1∨m.ao=3 then 2 else 1
def eQ (N:Nat) (la:Int→Nat) (b:List az):Nat:=(b.map (wt N la)).sum
end
section
variable {c0:aY} {F:List aA} {T L j:Int} {r:aU} {m:az} {n N:Nat} {la la':Int→Nat}
theorem RY (h:m.ao=5):wt N la m=if m.index≤la m.to then max 2 (2*(N-m.index.toNat)) else 2*N+2:=by unfold wt;rw[if_pos h]
theorem ZG (h:m.ao=7):wt N la m=2*N:=by unfold wt;rw[if_neg (by omega),if_pos h]
theorem ZF (h:m.ao=6) (hr:m.bT=true):wt N la m=2*N+1:=by unfold wt;rw[if_neg (by omega),if_neg (by omega),if_pos h,if_pos hr]
theorem RZ (h:m.ao=6) (hr:m.bT=false):wt N la m=2*(N-m.index.toNat)+1:=by unfold wt;rw[if_neg (by omega),if_neg (by omega),if_pos h,if_neg (by rw[hr];decide)]
theorem uq (h:m.ao=1∨m.ao=3):wt N la m=2:=by unfold wt;rw[if_neg (by omega),if_neg (by omega),if_neg (by omega),if_pos h]
theorem yJ (h:m.ao=2∨m.ao=4):wt N la m=1:=by unfold wt;rw[if_neg (by omega),if_neg (by omega),if_neg (by omega),if_neg (by omega)]
theorem sY (hN:1≤N):1≤wt N la m:=by
 unfold wt
 repeat' split
 all_goals omega
theorem akS:wt N la m≤2*N+2:=by
 unfold wt
 repeat' split
 all_goals omega
theorem akT (h:∀ o,la o≤la' o):wt N la' m≤wt N la m:=by
 have:=h m.to
 unfold wt
 by_cases h5:m.ao=5
 rw[if_pos h5,if_pos h5]
 split
 split<;>omega
 split<;>omega
 rw[if_neg h5,if_neg h5];exact Nat.le_refl _
theorem jV (b:List az):eQ N la (m::b)=wt N la m+eQ N la b:=by unfold eQ;rw[List.map_cons,List.sum_cons]
theorem m5 (a b:List az):eQ N la (a++b)=eQ N la a+eQ N la b:=by unfold eQ;rw[List.map_append,List.sum_append]
theorem Df:eQ N la []=0:=rfl
theorem sX (x:az):eQ N la [x]=wt N la x:=by rw[jV,Df];rfl
theorem ZD (h:∀ o,la o≤la' o) (b:List az):eQ N la' b≤eQ N la b:=by
 induction b with
 | nil=>exact Nat.le_refl _
 | cons x b ih=>rw[jV,jV];have:=akT (N:=N) (m:=x) h;omega
theorem De (hN:1≤N) (b:List az):b.length≤eQ N la b:=by
 induction b with
 | nil=>exact Nat.le_refl _
 | cons x b ih=>rw[jV,List.length_cons];have:=sY (la:=la) (m:=x) hN;omega
theorem LP (b:List az):eQ N la b≤b.length*(2*N+2):=by
 induction b with
 | nil=>exact Nat.zero_le _
 | cons x b ih=>rw[jV,List.length_cons,Nat.succ_mul];have:=akS (N:=N) (la:=la) (m:=x);omega
theorem Iv {f:Int→Nat} {j:Int} {v:Nat} (h:f j≤v) (o:Int):f o≤dC f j v o:=by
 unfold dC;split
 rename_i e;subst e;exact h
 exact Nat.le_refl _
theorem lM.mono (h:lM c0 F T L la m) (hl:∀ o,la o≤la' o):lM c0 F T L la' m:=by
 cases h with
 | eD i a1 a2 a3 a4 a5 a6=>exact .eD i a1 a2 a3 a4 (Nat.lt_of_lt_of_le a5 (hl _)) a6
 | no a1 a2 a3 a4 a5=>exact .no a1 a2 a3 a4 a5
theorem LM.mono (h:LM c0 F T L la m) (hl:∀ o,la o≤la' o):LM c0 F T L la' m:=by
 cases h with
 | yT i k a1 a2 a3 a4 a5 a6 a7 a8 a9 iI=>exact .yT i k a1 a2 a3 a4 a5 a6 a7 a8 a9 iI
 | lQ a1 a2 a3 a4 a5 a6 a7 a8 a9 iI=>exact .lQ a1 a2 a3 a4 a5 a6 a7 a8 a9 iI
 | dv y a1 a2 a3 a4 a5 a6 a7 a8=>exact .dv y a1 a2 a3 a4 a5 a6 a7 (Nat.le_trans a8 (hl _))
 | z7 i g a1 a2 a3 a4 a5 a6 a7 a8 a9 iI=>exact .z7 i g a1 a2 a3 a4 a5 a6 a7 a8 a9 (Nat.le_trans iI (hl _))
 | kz a=>exact .kz (a.mono hl)
 | pK a1 a2 a3=>exact .pK a1 a2 a3
 | eD a1 a2 a3 a4=>exact .eD a1 a2 a3 a4
 | vt a1 a2 a3 a4=>exact .vt a1 a2 a3 a4
structure Sa (c0:aY) (F:List aA) (T L:Int) (n:Nat) (la:Int→Nat) (j:Int) (r:aU) (m:az) (l':Nat) (xs:List az):Prop where
 pl:Pl c0 F T j (mg r m).s l'
 le:la j≤l'
 aG:(mg r m).o.aG=xs
 ok:∀ x∈xs,kf n x∧LM c0 F T L (dC la j l') x∧x.ao≠5∧x.ao≠7∧(x.ao=6→x.am=j∧(x.bT=false→m.ao=7∨m.ao=5∧m.index≤la j))
 sum:eQ (F.length+1) (dC la j l') xs<wt (F.length+1) la m
 dW:m.ao=5∨m.ao=7→(mg r m).s.bi=0∧(mg r m).s.aO=1∧(mg r m).s.af.ab=T∧∃ x∈xs,x.ao=6∧x.am=j
 el:¬ (m.ao=5∨m.ao=7)→(mg r m).s.bi=r.bi∨(mg r m).s.bi=0∧L∈bE c0 F
 qe:j∈bE c0 F→L∉bE c0 F→¬ (m.ao=5∨m.ao=7)→(mg r m).s=r
 ajl:m.ao=5→m.index=(F.length:Nat)→F.length≤la j→r.af.aB≤F.length→l'=F.length+1
 b_:m.ao=5∨m.ao=7→(mg r m).s.af.aB≤max r.af.aB (if m.ao=5 then m.aB else 1)
 out:j∉bZ c0 F L→l'=la j
theorem X5 (hF:dg n c0 F T) (hP:Pl c0 F T j r (la j)) (hm:kf n m) (hL:LM c0 F T L la m) (ew:m.to=j) (O2:j=L→L∉bE c0 F):∃ l' xs,Sa c0 F T L n la j r m l' xs:=by
 have bV:=hF.len
 have xX:=hF.n7
 have iP:=hF.t2
 have eB:=hm.vZ xX ew
 have cg:=hP.le
 have lV:=hm.f1;have uU:=hm.fn;have cH:=hm.t1;have zJ:=hm.tn;have bH:=hm.ne
 have jg:∀ {k:Int},k=6→¬ (k=5∨k=7):=fun h z=>by omega
 cases hL with
 | yT i k a1 a2 a3 a4 a5 a6 a7 a8 a9 iI =>
  obtain⟨l',x,b1,b2,b3,b4,b5,b6,b7,b8,b9⟩:=hP.yT hF eB a1 a4 a5 a6 a7 a8 a9 iI
  have afs:=b1.le
  refine⟨l',[x],b1,b2,b3,fun y hy=>?_,?_,fun _=>⟨b6,b4,b5,x,List.mem_singleton.2 rfl,b8.ao,b8.am⟩,fun z=>absurd (.inl a1) z,fun _ _ z=>absurd (.inl a1) z,fun _ e1 e2 e3=>?_,fun _=>by rw[if_pos a1,iI];exact b7,fun z=>absurd (ew▸a2) z⟩
  rw[List.mem_singleton.1 hy]
  have vn:x.index≤200:=by
   rcases b9 with ⟨-,-,y,c1,-,-,-,c5,-⟩ | ⟨-,-,-,c4,-⟩<;>omega
  refine⟨⟨by rw[b8.am];omega,by rw[b8.am];omega,by rw[b8.to];omega,by rw[b8.to];omega,by rw[b8.am,b8.to];omega,by rw[b8.ab];omega,vn,by rw[b8.aB];omega⟩,?_,by rw[b8.ao];decide,by rw[b8.ao];decide,fun _=>⟨b8.am,fun hrj=>?_⟩⟩
  rcases b9 with ⟨-,c2,y,c3,-,c5,-,c7,-⟩ | ⟨c1,c2,c3,c4,c5⟩
  exact .dv y b8.ao (by rw[b8.am,← ew];exact a2) (by rw[b8.to,a3]) b8.ab c2 c3 c5 (by rw[b8.am,jh];exact c7)
  exact .z7 i (la j) b8.ao (by rw[b8.am,← ew];exact a2) (by rw[b8.to,a3]) b8.ab c3 c4 c5 c1 a7 (by rw[b8.am,jh];exact b2)
  rcases b9 with ⟨c1,-⟩ | ⟨-,-,c3,-⟩
  exact .inr ⟨a1,by omega⟩
  rw[hrj] at c3;cases c3
  rw[sX,RY a1,ew]
  rcases b9 with ⟨c1,c2,y,c3,c4,c5,c6,-,-⟩ | ⟨c1,c2,c3,c4,c5⟩
  rw[RZ b8.ao c2,if_pos (by omega),a5,c3]
  simp only[Int.toNat_natCast]
  omega
  rw[ZF b8.ao c3,if_neg (by omega)];omega
  rcases b9 with ⟨-,-,y,-,-,-,-,-,c8⟩ | ⟨c1,-⟩
  have:=c8 (by omega);omega
  omega
 | lQ a1 a2 a3 a4 a5 a6 a7 a8 a9 iI =>
  obtain⟨l',x,b1,b2,b3,b4,b5,b6,b7,b8,b9,y,qU,Dx,kJ⟩:=hP.lQ hF eB a1 a4 a5 a6 a7 a8 a9 iI
  have afs:=b1.le
  refine⟨l',[x],b1,b2,b3,fun z hz=>?_,?_,fun _=>⟨b6,b4,b5,x,List.mem_singleton.2 rfl,b8.ao,b8.am⟩,fun z=>absurd (.inr a1) z,fun _ _ z=>absurd (.inr a1) z,fun z=>by omega,fun _=>by rw[if_neg (by omega)];exact b7,fun z=>absurd (ew▸a2) z⟩
  rw[List.mem_singleton.1 hz]
  exact⟨⟨by rw[b8.am];omega,by rw[b8.am];omega,by rw[b8.to];omega,by rw[b8.to];omega,by rw[b8.am,b8.to];omega,by rw[b8.ab];omega,by omega,by rw[b8.aB];omega⟩,
   .dv y b8.ao (by rw[b8.am,← ew];exact a2) (by rw[b8.to,a3]) b8.ab b9 qU Dx (by rw[b8.am,jh];exact kJ),by rw[b8.ao];decide,by rw[b8.ao];decide,fun _=>⟨b8.am,fun _=> .inl a1⟩⟩
  rw[sX,ZG a1,RZ b8.ao b9,qU]
  simp only[Int.toNat_natCast]
  omega
 | dv y a1 a2 a3 a4 a5 a6 a7 a8 =>
  obtain⟨b1,b2,b3⟩:=hP.nK eB (.inl a1) a4
  exact⟨la j,[],b1,Nat.le_refl _,b2,fun x hx=>(by cases hx),by rw[Df];exact sY (by omega),fun z=>by omega,fun _=> .inl b3,fun h1 h2=>absurd h1 (by rw[←ew,a3];exact h2),fun z=>by omega,fun z=>by omega,fun _=>rfl⟩
 | z7 i g a1 a2 a3 a4 a5 a6 a7 a8 a9 iI =>
  obtain⟨b1,b2,b3⟩:=hP.nK eB (.inl a1) a4
  exact⟨la j,[],b1,Nat.le_refl _,b2,fun x hx=>(by cases hx),by rw[Df];exact sY (by omega),fun z=>by omega,fun _=> .inl b3,fun h1 h2=>absurd h1 (by rw[←ew,a3];exact h2),fun z=>by omega,fun z=>by omega,fun _=>rfl⟩
 | kz a =>
  cases a with
  | eD i a1 a2 a3 a4 a5 a6 =>
   obtain⟨b1,b2⟩:=K5 hF hP.id hP.ah hP.le eB a1 a4 (by rw[←ew];exact a5) a6
   refine⟨la j,_,by rw[b1];exact hP,Nat.le_refl _,b2,fun x hx=>?_,?_,fun z=>by omega,fun _=> .inl (by rw[b1]),fun _ _ _=>b1,fun z=>by omega,fun z=>by omega,fun _=>rfl⟩
   have Qa:=hP.t1
   rw[List.mem_singleton.1 hx]
   refine⟨⟨?_,?_,?_,?_,?_,?_,?_,?_⟩,.kz (.no rfl a2 a3 rfl hP.t1),?_,?_,fun z=>?_⟩
   show 1≤j;omega
   show j≤n;omega
   exact lV
   exact uU
   show j≠m.am;omega
   show r.af.ab≤200;omega
   show (0:Int)≤200;omega
   show (0:Int)≤200;omega
   show (2:Int)≠5;decide
   show (2:Int)≠7;decide
   cases (show (2:Int)=6 from z)
   rw[sX,uq (.inl a1),yJ (.inl rfl)];omega
  | no a1 a2 a3 a4 a5 =>
   obtain⟨b1,b2,b3⟩:=hP.no eB a1 a4 a5
   exact⟨la j,[],b1,Nat.le_refl _,b2,fun x hx=>(by cases hx),by rw[Df];exact sY (by omega),fun z=>by omega,fun _=> .inl b3,fun h1=>absurd (ew▸h1) a2,fun z=>by omega,fun z=>by omega,fun _=>rfl⟩
 | pK a1 a2 a3=>exact absurd a3 (O2 (by rw[←ew];exact a2))
 | eD a1 a2 a3 a4 =>
  obtain⟨b1,x,b2,b3,b4,b5,b6,b7,b8⟩:=Yc hP.id eB a1
  have Qa:=hP.t1
  have yn:x.ab≤T:=by omega
  refine⟨la j,[x],by rw[b1];exact hP,Nat.le_refl _,b2,fun y hy=>?_,?_,fun z=>by omega,fun _=> .inl (by rw[b1]),fun _ z=>absurd a4 z,fun z=>by omega,fun z=>by omega,fun _=>rfl⟩
  rw[List.mem_singleton.1 hy]
  exact⟨⟨by omega,by omega,by omega,by omega,by omega,by omega,by omega,by omega⟩,.pK (.inl ⟨b3,yn⟩) (by rw[b5,a2]) a4,by omega,by omega,fun z=>by omega⟩
  rw[sX,uq (.inl a1),yJ (.inl b3)];omega
 | vt a1 a2 a3 a4 =>
  obtain⟨b1,b2,x,b3,b4,b5,b6,b7,b8,b9⟩:=hP.vt eB a1 a3
  refine⟨la j,[x],b1,Nat.le_refl _,b3,fun y hy=>?_,?_,fun z=>by omega,fun _=>b2.symm.imp id fun z=>⟨z,a4⟩,fun _ z=>absurd a4 z,fun z=>by omega,fun z=>by omega,fun _=>rfl⟩
  rw[List.mem_singleton.1 hy]
  exact⟨⟨by omega,by omega,by omega,by omega,by omega,by omega,by omega,by omega⟩,.pK (.inr ⟨b4,b7⟩) (by rw[b6,a2]) a4,by omega,by omega,fun z=>by omega⟩
  rw[sX,uq (.inr a1),yJ (.inr b4)];omega
end
end Go.Lw.jj
namespace Go.Lw.jj
open dF
section
variable (n:Nat) (c0:aY) (F:List aA) (T L:Int)
def yQ (la:Int→Nat) (x:Int):Prop:=x∈(ef c0 F (la x)).av→(∃ v∈(ef c0 F (la x)).av,v≠x)∧∀ v∈(ef c0 F (la x)).av,v≠x→la x<la v∨L∈bE c0 F∧la x≤F.length∧(v=L∨v∈bZ c0 F L)
def NX (nx la:Int→Nat) (m:az):Prop:=(m.ao=5→((nx m.to:Nat):Int)≤max (m.index+1) ((la m.to:Nat)+1))∧(m.ao=7→nx m.to≤la m.to+1)∧(m.ao=6→m.bT=false→nx m.am≤la m.am+1)
def rM (la:Int→Nat) (aM:List az) (j:Int) (r:aU):Prop :=
 (la j=F.length+1∧r.bi=0∧r.aO=1∧r.af.ab=T)∨(r.af.aB≤F.length∧∃ m∈aM,m.ao=5∧m.to=j∧m.index=(F.length:Nat)∧F.length≤la j)
structure LD (K b e:Nat) (nx mt la:Int→Nat) (s:List aU) (aM:List az):Prop where
 len:s.length=n
 eF:dg n c0 F T
 l1:1≤L
 ln:L≤n
 b1:b≤1
 tN:∀ (k:Nat) (r:aU),s[k]?=some r→(k:Int)+1=L→Ld c0 F T L r K b nx mt
 pl:∀ (k:Nat) (r:aU),s[k]?=some r→(k:Int)+1≠L→Pl c0 F T (k+1) r (la (k+1))
 mv:la L=F.length+1
 zY:∀ o∈bZ c0 F L,mt o≤la o
 eP:∀ m∈aM,kf n m∧LM c0 F T L la m∧NX nx la m
 Ab:∀ o∈bZ c0 F L,mt o=F.length+1∨∃ m∈aM,(m.ao=5∨m.ao=7)∧m.to=o∨m.ao=6∧m.am=o
 hb:∀ (k:Nat) (r:aU),s[k]?=some r→(k:Int)+1∈bZ c0 F L→r.bi≤e∨∃ m∈aM,(m.ao=5∨m.ao=7)∧m.to=k+1
 kb:∀ x:Int,1≤x→x≤n→x≠L→x∉bZ c0 F L→yQ c0 F L la x
 yz:L∉bE c0 F→K≤F.length∧(∀ m∈aM,m.ao=5→m.aB≤F.length)∧(∀ (k:Nat) (r:aU),s[k]?=some r→(k:Int)+1∈bE c0 F→rM F T la aM (k+1) r)∧∀ o∈bZ c0 F L,o∉bE c0 F→F.length≤la o∧o∉(ef c0 F F.length).av
 sV:bE c0 F≠[]
structure FR (E:Int) (la:Int→Nat) (s:List aU) (aM:List az):Prop where
 len:s.length=n
 eF:dg n c0 F T
 pl:∀ (k:Nat) (r:aU),s[k]?=some r→Pl c0 F T (k+1) r (la (k+1))
 eP:∀ m∈aM,kf n m∧LM c0 F T L la m
 lv:L∉bE c0 F
 ly:∀ (k:Nat) (r:aU),s[k]?=some r→(k:Int)+1∈bE c0 F→(la (k+1)=F.length+1∧r.bi=E∧r.aO=1∧r.af.ab=T)∨E=0∧rM F T la aM (k+1) r
 cl:∀ m∈aM,m.ao=5→m.aB≤F.length
 XN:E≠0→∀ m∈aM,m.ao≠5∧m.ao≠7
 kb:∀ x:Int,1≤x→x≤n→x∉bZ c0 F L→yQ c0 F L la x
 sV:bE c0 F≠[]
 e0:0≤E
 mv:1≤L→la L=F.length+1
 zW:∀ o∈bZ c0 F L,o∉bE c0 F→F.length≤la o∧o∉(ef c0 F F.length).av
end
theorem Ff {s:List aU} {k:Nat} {r:aU} (h:s[k]?=some r):s.set k r=s:=by
 apply List.ext_getElem?
 intro j
 rw[List.getElem?_set]
 split
 rename_i e;subst e
 rw[if_pos (gI h),h]
 rfl
section
variable {n:Nat} {c0:aY} {F:List aA} {T L:Int} {K b e:Nat} {nx mt la:Int→Nat} {s:List aU} {aM:List az} {m:az} {k:Nat} {r:aU} {E:Int}
theorem yQ.mono {la':Int→Nat} {x:Int} (h:yQ c0 F L la x) (h1:la' x=la x) (hl:∀ o,la o≤la' o):yQ c0 F L la' x:=by
 unfold yQ at h ⊢
 rw[h1]
 intro hx
 obtain⟨a,b⟩:=h hx
 exact⟨a,fun v hv vm=>(b v hv vm).imp (fun z=>Nat.lt_of_lt_of_le z (hl v)) id⟩
theorem NX.mono {la':Int→Nat} (h:NX nx la m) (hl:∀ o,la o≤la' o):NX nx la' m:=by
 obtain⟨a,b,c⟩:=h
 have h1:=hl m.to
 have h2:=hl m.am
 exact⟨fun z=>by have:=a z;omega,fun z=>by have:=b z;omega,fun z y=>by have:=c z y;omega⟩
theorem lH {p:az→Prop} {xs:List az} (h:∃ x∈m::aM,p x) (hm:¬ p m):∃ x∈aM++xs,p x:=by
 obtain⟨x,hx,hp⟩:=h
 rcases List.mem_cons.1 hx with rfl | hx
 exact absurd hp hm
 exact⟨x,List.mem_append_left _ hx,hp⟩
theorem rM.came {l':Nat} {xs:List az} {j:Int} (hj:j∈bE c0 F) (hL:L∉bE c0 F) (hC:Sa c0 F T L n la j r m l' xs) (kO:m.ao=5→m.aB≤F.length) (bV:1≤F.length) (h:rM F T la (m::aM) j r):rM F T (dC la j l') (aM++xs) j (mg r m).s:=by
 have cg:=hC.le
 have iO:=hC.pl.le
 by_cases hk:m.ao=5∨m.ao=7
 obtain⟨a1,a2,a3,-⟩:=hC.dW hk
 rcases h with ⟨h1,-,-,-⟩ | ⟨h1,x,hx,h2,h3,h4,h5⟩
 exact .inl ⟨by rw[jh];omega,a1,a2,a3⟩
 rcases List.mem_cons.1 hx with rfl | hx
 exact .inl ⟨by rw[jh];exact hC.ajl h2 h4 h5 h1,a1,a2,a3⟩
 refine .inr ⟨?_,x,List.mem_append_left _ hx,h2,h3,h4,by rw[jh];omega⟩
 have:=hC.b_ hk
 rcases hk with hk | hk
 rw[if_pos hk] at this;have:=kO hk;omega
 rw[if_neg (by omega)] at this;omega
 have e:=hC.qe hj hL hk
 rw[e]
 rcases h with ⟨h1,h2⟩ | ⟨h1,x,hx,h2,h3,h4,h5⟩
 exact .inl ⟨by rw[jh];omega,h2⟩
 rcases List.mem_cons.1 hx with rfl | hx
 exact absurd (.inl h2) hk
 exact .inr ⟨h1,x,List.mem_append_left _ hx,h2,h3,h4,by rw[jh];omega⟩
theorem rM.eV {l':Nat} {xs:List az} {j i:Int} (iE:i≠j) (ew:m.to=j) (h:rM F T la (m::aM) i r):rM F T (dC la j l') (aM++xs) i r:=by
 unfold rM at h ⊢
 rw[mB _ _ iE]
 refine h.imp id fun ⟨h1,h2⟩=>⟨h1,lH h2 fun z=>iE (by rw[←z.2.1];exact ew)⟩
theorem p_ {k i:Nat} (h:k≠i):((i:Int)+1)≠(k:Int)+1:=by omega
theorem LD.plain (h:LD n c0 F T L K b e nx mt la s (m::aM)) (hk:(k:Int)+1=m.to) (hr:s[k]?=some r) (ju:(k:Int)+1≠L) :
  ∃ la',LD n c0 F T L K b e nx mt la' (s.set k (mg r m).s) (aM++(mg r m).o.aG)∧eQ (F.length+1) la' (aM++(mg r m).o.aG)<eQ (F.length+1) la (m::aM):=by
 obtain⟨fM,o_,Kc⟩:=h.eP m (List.mem_cons_self ..)
 obtain⟨l',xs,hC⟩:=X5 h.eF (h.pl k r hr ju) fM o_ hk.symm (fun z=>absurd z ju)
 have iu:∀ o,la o≤dC la ((k:Int)+1) l' o:=Iv hC.le
 rw[hC.aG]
 have Kv:∀ x∈xs,x.ao≠5∧x.ao≠7:=fun x hx=>⟨(hC.ok x hx).2.2.1,(hC.ok x hx).2.2.2.1⟩
 refine⟨dC la ((k:Int)+1) l',⟨by rw[List.length_set];exact h.len,h.eF,h.l1,h.ln,h.b1,fun i q hq hi=>?_,fun i q hq hi=>?_,by rw[mB _ _ (Ne.symm ju)];exact h.mv,fun o ho=>Nat.le_trans (h.zY o ho) (iu o),fun x hx=>?_,fun o ho=>?_,fun i q hq hi=>?_,fun x h1 h2 h3 h4=>?_,fun hL=>?_,h.sV⟩,?_⟩
 rcases fF hr hq with ⟨rfl,-⟩ | ⟨-,hq⟩
 exact absurd hi ju
 exact h.tN i q hq hi
 rcases fF hr hq with ⟨rfl,rfl⟩ | ⟨bH,hq⟩
 rw[jh];exact hC.pl
 rw[mB _ _ (p_ bH)];exact h.pl i q hq hi
 rcases List.mem_append.1 hx with hx | hx
 obtain⟨a1,a2,a3⟩:=h.eP x (List.mem_cons_of_mem _ hx)
 exact⟨a1,a2.mono iu,a3.mono iu⟩
 obtain⟨a1,a2,a3,a4,a5⟩:=hC.ok x hx
 refine⟨a1,a2,fun z=>absurd z a3,fun z=>absurd z a4,fun z y=>?_⟩
 obtain⟨c1,c2⟩:=a5 z
 rw[c1,jh]
 have cg:=hC.le
 rcases c2 y with c2 | ⟨c2,c3⟩
 have:=Kc.2.1 c2;rw[←hk] at this;omega
 have:=Kc.1 c2;rw[←hk] at this;omega
 rcases h.Ab o ho with h1 | ⟨x,hx,hp⟩
 exact .inl h1
 right
 rcases List.mem_cons.1 hx with rfl | hx
 rcases hp with ⟨yf,zM⟩ | ⟨yf,zM⟩
 obtain⟨-,-,-,y,hy,a1,a2⟩:=hC.dW yf
 exact⟨y,List.mem_append_right _ hy,.inr ⟨a1,by rw[a2,hk];exact zM⟩⟩
 exfalso
 cases o_ with
 | dv y a1 a2 a3=>exact ju (hk.trans a3)
 | z7 i g a1 a2 a3=>exact ju (hk.trans a3)
 | yT i k a1=>omega
 | lQ a1=>omega
 | kz a=>cases a<;>omega
 | pK a1=>omega
 | eD a1=>omega
 | vt a1=>omega
 exact⟨x,List.mem_append_left _ hx,hp⟩
 rcases fF hr hq with ⟨rfl,rfl⟩ | ⟨bH,hq⟩
 by_cases Eh:m.ao=5∨m.ao=7
 left;rw[(hC.dW Eh).1];omega
 rcases hC.el Eh with e | ⟨e,-⟩
 rw[e];exact (h.hb k r hr hi).imp id fun z=>lH z fun y=>Eh y.1
 left;rw[e];omega
 exact (h.hb i q hq hi).imp id fun z=>lH z fun y=>p_ bH (by rw[←y.2,hk])
 refine (h.kb x h1 h2 h3 h4).mono ?_ iu
 by_cases hx:x=(k:Int)+1
 subst hx;rw[jh];exact hC.out h4
 exact mB _ _ hx
 obtain⟨a1,a2,a3,a4⟩:=h.yz hL
 refine⟨a1,fun x hx lX=>?_,fun i q hq hi=>?_,fun o ho hv=>⟨Nat.le_trans (a4 o ho hv).1 (iu o),(a4 o ho hv).2⟩⟩
 rcases List.mem_append.1 hx with hx | hx
 exact a2 x (List.mem_cons_of_mem _ hx) lX
 exact absurd lX (Kv x hx).1
 rcases fF hr hq with ⟨rfl,rfl⟩ | ⟨bH,hq⟩
 have NI:1≤K:=by
  have we:(L.toNat-1)<s.length:=by have:=h.l1;have:=h.ln;have:=h.len;omega
  exact (h.tN (L.toNat-1) _ (List.getElem?_eq_getElem we) (by have:=h.l1;omega)).k1
 exact rM.came hi hL hC (a2 m (List.mem_cons_self ..)) (by omega) (a3 _ _ hr hi)
 exact rM.eV (p_ bH) hk.symm (a3 i q hq hi)
 rw[jV,m5]
 have h1:=ZD (N:=F.length+1) iu aM
 have h2:=hC.sum
 omega
theorem FR.xt (h:FR n c0 F T L E la s (m::aM)) (hk:(k:Int)+1=m.to) (hr:s[k]?=some r) (bV:E=0→1≤F.length) :
  ∃ la',FR n c0 F T L E la' (s.set k (mg r m).s) (aM++(mg r m).o.aG)∧eQ (F.length+1) la' (aM++(mg r m).o.aG)<eQ (F.length+1) la (m::aM):=by
 obtain⟨fM,o_⟩:=h.eP m (List.mem_cons_self ..)
 obtain⟨l',xs,hC⟩:=X5 h.eF (h.pl k r hr) fM o_ hk.symm (fun _=>h.lv)
 have iu:∀ o,la o≤dC la ((k:Int)+1) l' o:=Iv hC.le
 rw[hC.aG]
 have Kv:∀ x∈xs,x.ao≠5∧x.ao≠7:=fun x hx=>⟨(hC.ok x hx).2.2.1,(hC.ok x hx).2.2.2.1⟩
 refine⟨dC la ((k:Int)+1) l',⟨by rw[List.length_set];exact h.len,h.eF,fun i q hq=>?_,fun x hx=>?_,h.lv,fun i q hq hi=>?_,fun x hx lX=>?_,fun hE x hx=>?_,fun x h1 h2 h4=>?_,h.sV,h.e0,fun h1=>?_,fun o ho hv=>⟨Nat.le_trans (h.zW o ho hv).1 (iu o),(h.zW o ho hv).2⟩⟩,?_⟩
 rcases fF hr hq with ⟨rfl,rfl⟩ | ⟨bH,hq⟩
 rw[jh];exact hC.pl
 rw[mB _ _ (p_ bH)];exact h.pl i q hq
 rcases List.mem_append.1 hx with hx | hx
 obtain⟨a1,a2⟩:=h.eP x (List.mem_cons_of_mem _ hx)
 exact⟨a1,a2.mono iu⟩
 exact⟨(hC.ok x hx).1,(hC.ok x hx).2.1⟩
 rcases fF hr hq with ⟨rfl,rfl⟩ | ⟨bH,hq⟩
 by_cases hE:E=0
 refine .inr ⟨hE,rM.came hi h.lv hC (h.cl m (List.mem_cons_self ..)) (bV hE) ?_⟩
 rcases h.ly k r hr hi with ⟨a1,a2,a3,a4⟩ | ⟨-,h1⟩
 exact .inl ⟨a1,a2.trans hE,a3,a4⟩
 exact h1
 have Ut:=h.XN hE m (List.mem_cons_self ..)
 have e:=hC.qe hi h.lv (fun z=>z.elim Ut.1 Ut.2)
 rw[e]
 rcases h.ly k r hr hi with ⟨a1,a2⟩ | ⟨h1,-⟩
 refine .inl ⟨?_,a2⟩
 have:=hC.le;have:=hC.pl.le
 rw[jh];omega
 exact absurd h1 hE
 rcases h.ly i q hq hi with ⟨a1,a2⟩ | ⟨h1,h2⟩
 exact .inl ⟨by rw[mB _ _ (p_ bH)];exact a1,a2⟩
 exact .inr ⟨h1,rM.eV (p_ bH) hk.symm h2⟩
 rcases List.mem_append.1 hx with hx | hx
 exact h.cl x (List.mem_cons_of_mem _ hx) lX
 exact absurd lX (Kv x hx).1
 rcases List.mem_append.1 hx with hx | hx
 exact h.XN hE x (List.mem_cons_of_mem _ hx)
 exact Kv x hx
 refine (h.kb x h1 h2 h4).mono ?_ iu
 by_cases hx:x=(k:Int)+1
 subst hx;rw[jh];exact hC.out h4
 exact mB _ _ hx
 by_cases hx:L=(k:Int)+1
 have h2:=h.mv h1
 have h3:=hC.le
 have h4:=hC.pl.le
 rw[hx] at h2 ⊢
 rw[jh];omega
 rw[mB _ _ hx];exact h.mv h1
 rw[jV,m5]
 have h1:=ZD (N:=F.length+1) iu aM
 have h2:=hC.sum
 omega
theorem xu (o:Int) (x:Nat):(ep c0 F T L K o x).ao=5∧1<x∨(ep c0 F T L K o x).ao=7∧x≤1:=by
 unfold ep
 split
 rename_i h;exact .inr ⟨rfl,h⟩
 rename_i h;exact .inl ⟨rfl,by omega⟩
theorem xv (o:Int) (x:Nat):(ep c0 F T L K o x).to=o:=by unfold ep;split<;>rfl
theorem Jm (o:Int) (x:Nat):(ep c0 F T L K o x).ao=5→(ep c0 F T L K o x).aB=K:=by
 unfold ep;split
 intro z;cases (show (7:Int)=5 from z)
 intro _;rfl
theorem MR (o:Int) (x:Nat) (h:1<x):(ep c0 F T L K o x).index=((x-1:Nat):Int):=by unfold ep;rw[if_neg (by omega)]
theorem DF (hF:dg n c0 F T) (hL:1≤L∧L≤n) {o:Int} (ho:o∈bZ c0 F L) {x:Nat} (hx:1≤x∧x≤F.length+2) (hK:K≤F.length+1):kf n (ep c0 F T L K o x)∧LM c0 F T L la (ep c0 F T L K o x)∧∀ nx':Int→Nat,nx' o=x→NX nx' la (ep c0 F T L K o x):=by
 have bV:=hF.len
 have iP:=hF.t2
 obtain⟨h1,h2⟩:=pB.1 ho
 have gK:=hF.mS (F.length+1) o (List.mem_append.2 h1)
 unfold ep
 by_cases hc:x≤1
 rw[if_pos hc]
 refine⟨⟨hL.1,hL.2,gK.1,gK.2,fun z=>h2 z.symm,?_,?_,?_⟩,.lQ rfl ho rfl rfl rfl rfl rfl rfl rfl rfl,fun nx' hn=>⟨fun z=>(by cases (show (7:Int)=5 from z)),fun _=>?_,fun z=>(by cases (show (7:Int)=6 from z))⟩⟩
 show T≤200;omega
 show (1:Int)≤200;omega
 show (0:Int)≤200;omega
 show nx' o≤la o+1;omega
 rw[if_neg hc]
 refine⟨⟨hL.1,hL.2,gK.1,gK.2,fun z=>h2 z.symm,?_,?_,?_⟩,.yT (x-1) K rfl ho rfl rfl rfl (by omega) (by omega) rfl rfl rfl,fun nx' hn=>⟨fun _=>?_,fun z=>(by cases (show (5:Int)=7 from z)),fun z=>(by cases (show (5:Int)=6 from z))⟩⟩
 show T≤200;omega
 show ((x-1:Nat):Int)≤200;omega
 show (K:Int)≤200;omega
 show ((nx' o:Nat):Int)≤max (((x-1:Nat):Int)+1) ((la o:Nat)+1);omega
def lr (c0:aY) (F:List aA) (L:Int) (K:Nat) (la:Int→Nat) (b:List az):Nat:=eQ (F.length+1) la b+if K<F.length+1 then (bZ c0 F L).length*(2*(F.length+1)+2) else 0
theorem LD.node (h:LD n c0 F T L K b e nx mt la s aM) {o:Int} (h1:1≤o) (hn:o≤n):∃ (k:Nat) (r:aU),s[k]?=some r∧(k:Int)+1=o:=by
 have:=h.len
 exact⟨o.toNat-1,s[o.toNat-1]'(by omega),List.getElem?_eq_getElem _,by omega⟩
theorem LD.Qw (h:LD n c0 F T L K b e nx mt la s aM) {o:Int} (h1:1≤o) (hn:o≤n):la o≤F.length+1:=by
 obtain⟨k,r,hr,rfl⟩:=h.node h1 hn
 by_cases hL:(k:Int)+1=L
 rw[hL,h.mv];exact Nat.le_refl _
 exact (h.pl k r hr hL).le
theorem LD.xt (h:LD n c0 F T L K b e nx mt la s (m::aM)) (hk:(k:Int)+1=m.to) (hr:s[k]?=some r) :
  (∃ K' nx' mt' la',(K'=K∨K'=F.length+1)∧LD n c0 F T L K' b e nx' mt' la' (s.set k (mg r m).s) (aM++(mg r m).o.aG)∧lr c0 F L K' la' (aM++(mg r m).o.aG)<lr c0 F L K la (m::aM)) ∨
  (K≤F.length∧L∉bE c0 F∧∃ la',FR n c0 F T L 0 la' (s.set k (mg r m).s) (aM++(mg r m).o.aG)∧eQ (F.length+1) la' (aM++(mg r m).o.aG)<lr c0 F L K la (m::aM)):=by
 by_cases ju:(k:Int)+1=L
 obtain⟨fM,o_,Kc⟩:=h.eP m (List.mem_cons_self ..)
 have hF:=h.eF
 have bV:=hF.len
 have sd:=h.tN k r hr ju
 have eB:=fM.vZ hF.n7 (hk.symm.trans ju)
 have ew:m.to=L:=hk.symm.trans ju
 have DU:=sd.kN
 have NI:=sd.k1
 have jg:∀ {q:aU} {i:Nat} {p:aU},(s.set k q)[i]?=some p→(i:Int)+1≠L→s[i]?=some p:=fun hq hi=>by
  rcases fF hr hq with ⟨rfl,-⟩ | ⟨-,hq⟩
  exact absurd ju hi
  exact hq
 have Ci:L∉bZ c0 F L:=fun z=>(pB.1 z).2 rfl
 -- nothing abV of it but an answer
 have VJ:∀ xs:List az,mg r m=⟨r,(mg r m).o⟩→(mg r m).o.aG=xs→(∀ x∈xs,kf n x∧LM c0 F T L la x∧x.ao≠5∧x.ao≠6∧x.ao≠7)→¬ (m.ao=5∨m.ao=6∨m.ao=7)→eQ (F.length+1) la xs<wt (F.length+1) la m →
   ∃ K' nx' mt' la',(K'=K∨K'=F.length+1)∧LD n c0 F T L K' b e nx' mt' la' (s.set k (mg r m).s) (aM++(mg r m).o.aG)∧lr c0 F L K' la' (aM++(mg r m).o.aG)<lr c0 F L K la (m::aM):=fun xs e1 e2 e3 e4 e5=>by
  have e6:s.set k (mg r m).s=s:=by rw[e1];exact Ff hr
  rw[e2,e6]
  refine⟨K,nx,mt,la,.inl rfl,{ h with eP:=fun x hx=>?_,Ab:=fun o ho=>?_,hb:=fun i q hq hi=>?_,yz:=fun hL=>?_ },?_⟩
  rcases List.mem_append.1 hx with hx | hx
  exact h.eP x (List.mem_cons_of_mem _ hx)
  obtain⟨a1,a2,a3,a4,a5⟩:=e3 x hx
  exact⟨a1,a2,fun z=>absurd z a3,fun z=>absurd z a5,fun z=>absurd z a4⟩
  exact (h.Ab o ho).imp id fun z=>lH z fun y=>by omega
  exact (h.hb i q hq hi).imp id fun z=>lH z fun y=>by omega
  obtain⟨a1,a2,a3,a4⟩:=h.yz hL
  refine⟨a1,fun x hx lX=>?_,fun i q hq hi=>?_,a4⟩
  rcases List.mem_append.1 hx with hx | hx
  exact a2 x (List.mem_cons_of_mem _ hx) lX
  exact absurd lX (e3 x hx).2.2.1
  exact (a3 i q hq hi).imp id fun ⟨z1,z2⟩=>⟨z1,lH z2 fun y=>by omega⟩
  unfold lr
  rw[jV,m5];omega
 cases o_ with
 | yT i q a1 a2=>exact absurd (ew▸a2) Ci
 | lQ a1 a2=>exact absurd (ew▸a2) Ci
 | eD a1 a2=>exact absurd (a2.trans ew.symm) fM.ne
 | vt a1 a2=>exact absurd (a2.trans ew.symm) fM.ne
 | pK a1 a2 a3 =>
  left
  have e:=sd.toLd0.nK eB a1
  exact VJ [] (by rw[e]) (by rw[e];rfl) (fun x hx=>by cases hx) (by omega) (by rw[Df];exact sY (by omega))
 | kz a =>
  cases a with
  | no a1 a2 a3=>exact absurd ew a3
  | eD i a1 a2 a3 a4 a5 a6 =>
   left
   obtain⟨b1,b2⟩:=K5 hF sd.id sd.ah (Nat.le_refl _) eB a1 a4 (by rw[ew,h.mv] at a5;exact a5) a6
   have lV:=fM.f1;have uU:=fM.fn;have bN:=h.l1;have wx:=h.ln;have iP:=hF.t2
   have be:=sd.ab
   refine VJ _ (congrArg (fun z=>ai.mk z (mg r m).o) b1) b2 (fun x hx=>?_) (by omega) (by rw[sX,uq (.inl a1),yJ (.inl rfl)];omega)
   rw[List.mem_singleton.1 hx]
   refine⟨⟨bN,wx,lV,uU,fun z=>a3 z.symm,?_,?_,?_⟩,.kz (.no rfl a2 a3 rfl (by show r.af.ab≤T;omega)),?_,?_,?_⟩
   show r.af.ab≤200;omega
   show (0:Int)≤200;omega
   show (0:Int)≤200;omega
   show (2:Int)≠5;decide
   show (2:Int)≠6;decide
   show (2:Int)≠7;decide
 | z7 i g a1 a2 a3 a4 a5 a6 a7 a8 a9 iI =>
  left
  obtain⟨b1,b2⟩:=sd.z7 hF eB a1 a4 a5 a6 a7 a8 a9 rfl a2
  have afQ:=h.zY m.am a2
  have hnx:=sd.tW m.am a2
  obtain⟨f1,f2,f3⟩:=DF (la:=la) hF ⟨h.l1,h.ln⟩ a2 (x:=max (g+1) (mt m.am+1)) (K:=K) (by omega) DU
  have Kf:∀ x,NX nx la x→NX (dC nx m.am (max (g+1) (mt m.am+1))) la x:=fun x hx=>by
   obtain⟨c1,c2,c3⟩:=hx
   refine⟨fun z=>?_,fun z=>?_,fun z y=>?_⟩
   by_cases pq:x.to=m.am
   rw[pq,jh];omega
   rw[mB _ _ pq];exact c1 z
   by_cases pq:x.to=m.am
   rw[pq,jh];omega
   rw[mB _ _ pq];exact c2 z
   by_cases pq:x.am=m.am
   rw[pq,jh];omega
   rw[mB _ _ pq];exact c3 z y
  rw[b2]
  refine⟨K,dC nx m.am (max (g+1) (mt m.am+1)),mt,la,.inl rfl,⟨by rw[List.length_set];exact h.len,hF,h.l1,h.ln,h.b1,fun i q hq hi=>?_,fun i q hq hi=>h.pl i q (jg hq hi) hi,h.mv,h.zY,fun x hx=>?_,fun o ho=>?_,fun i q hq hi=>?_,h.kb,fun hL=>?_,h.sV⟩,?_⟩
  rcases fF hr hq with ⟨rfl,rfl⟩ | ⟨bH,hq⟩
  exact b1
  exact absurd (hi.trans ju.symm) (p_ bH)
  rcases List.mem_append.1 hx with hx | hx
  obtain⟨c1,c2,c3⟩:=h.eP x (List.mem_cons_of_mem _ hx)
  exact⟨c1,c2,Kf x c3⟩
  rw[List.mem_singleton.1 hx]
  exact⟨f1,f2,f3 _ (jh _ _ _)⟩
  by_cases Ch:o=m.am
  exact .inr ⟨_,List.mem_append_right _ (List.mem_singleton.2 rfl),.inl ⟨(xu (c0:=c0) (F:=F) (T:=T) (L:=L) (K:=K) m.am _).imp (fun z=>z.1) (fun z=>z.1),by rw[xv,Ch]⟩⟩
  exact (h.Ab o ho).imp id fun z=>lH z fun y=>by omega
  have lW:(i:Int)+1≠L:=fun z=>Ci (z▸hi)
  exact (h.hb i q (jg hq lW) hi).imp id fun z=>lH z fun y=>by omega
  obtain⟨c1,c2,c3,c4⟩:=h.yz hL
  refine⟨c1,fun x hx lX=>?_,fun i q hq hi=>?_,c4⟩
  rcases List.mem_append.1 hx with hx | hx
  exact c2 x (List.mem_cons_of_mem _ hx) lX
  rw[List.mem_singleton.1 hx] at lX ⊢
  rw[Jm _ _ lX];omega
  have lW:(i:Int)+1≠L:=fun z=>hL (z▸hi)
  exact (c3 i q (jg hq lW) hi).imp id fun ⟨z1,z2⟩=>⟨z1,lH z2 fun y=>by omega⟩
  unfold lr
  rw[jV,m5,sX,ZF a1 a5]
  have:wt (F.length+1) la (ep c0 F T L K m.am (max (g+1) (mt m.am+1)))<2*(F.length+1)+1:=by
   rcases xu (c0:=c0) (F:=F) (T:=T) (L:=L) (K:=K) m.am (max (g+1) (mt m.am+1)) with ⟨z1,z2⟩ | ⟨z1,z2⟩
   rw[RY z1,xv,MR _ _ z2,if_pos (by omega)]
   simp only[Int.toNat_natCast];omega
   rw[ZG z1];omega
  omega
 | dv y a1 a2 a3 a4 a5 a6 a7 a8 =>
  have gK:1≤m.am∧m.am≤n:=⟨fM.f1,fM.fn⟩
  have gl:=h.Qw gK.1 gK.2
  have afQ:=h.zY m.am a2
  have hnx:=sd.tW m.am a2
  have mr:=Kc.2.2 a1 a5
  obtain⟨y',Qq⟩:∃ y',y'=max (mt m.am) y:=⟨_,rfl⟩
  obtain⟨x',Cv⟩:∃ x',x'=max (nx m.am) (y'+1):=⟨_,rfl⟩
  have Kf:∀ x,NX nx la x→NX (dC nx m.am x') la x:=fun x hx=>by
   obtain⟨c1,c2,c3⟩:=hx
   refine⟨fun z=>?_,fun z=>?_,fun z y=>?_⟩
   by_cases pq:x.to=m.am
   rw[pq,jh];omega
   rw[mB _ _ pq];exact c1 z
   by_cases pq:x.to=m.am
   rw[pq,jh];omega
   rw[mB _ _ pq];exact c2 z
   by_cases pq:x.am=m.am
   rw[pq,jh];omega
   rw[mB _ _ pq];exact c3 z y
  have V5:∀ o∈bZ c0 F L,dC mt m.am y' o≤la o:=fun o ho=>by
   by_cases Ch:o=m.am
   subst Ch;rw[jh];omega
   rw[mB _ _ Ch];exact h.zY o ho
  rcases sd.dv hF eB a1 a4 a5 a6 (by omega) rfl a2 Qq Cv with ⟨b1,b2⟩ | ⟨b0,bv,b1,b2⟩ | ⟨b0,bv,b1,bro,b2⟩
  left
  have af1:=b1.tW m.am a2
  rw[jh,jh] at af1
  have yo:∀ x∈(mg r m).o.aG,x'≤F.length+1∧x=ep c0 F T L K m.am x':=fun x hx=>by
   rw[b2] at hx
   split at hx
   rename_i hc;exact⟨hc,List.mem_singleton.1 hx⟩
   cases hx
  refine⟨K,dC nx m.am x',dC mt m.am y',la,.inl rfl,⟨by rw[List.length_set];exact h.len,hF,h.l1,h.ln,h.b1,fun i q hq hi=>?_,fun i q hq hi=>h.pl i q (jg hq hi) hi,h.mv,V5,fun x hx=>?_,fun o ho=>?_,fun i q hq hi=>?_,h.kb,fun hL=>?_,h.sV⟩,?_⟩
  rcases fF hr hq with ⟨rfl,rfl⟩ | ⟨bH,hq⟩
  exact b1
  exact absurd (hi.trans ju.symm) (p_ bH)
  rcases List.mem_append.1 hx with hx | hx
  obtain⟨c1,c2,c3⟩:=h.eP x (List.mem_cons_of_mem _ hx)
  exact⟨c1,c2,Kf x c3⟩
  obtain⟨z1,z2⟩:=yo x hx
  obtain⟨f1,f2,f3⟩:=DF (la:=la) hF ⟨h.l1,h.ln⟩ a2 (x:=x') (K:=K) (by omega) DU
  rw[z2]
  exact⟨f1,f2,f3 _ (jh _ _ _)⟩
  by_cases Ch:o=m.am
  subst Ch
  rw[jh]
  by_cases hc:x'≤F.length+1
  right
  rw[b2,if_pos hc]
  exact⟨_,List.mem_append_right _ (List.mem_singleton.2 rfl),.inl ⟨(xu (c0:=c0) (F:=F) (T:=T) (L:=L) (K:=K) m.am _).imp (fun z=>z.1) (fun z=>z.1),xv _ _⟩⟩
  left;omega
  rw[mB _ _ Ch]
  exact (h.Ab o ho).imp id fun z=>lH z fun y=>by omega
  have lW:(i:Int)+1≠L:=fun z=>Ci (z▸hi)
  exact (h.hb i q (jg hq lW) hi).imp id fun z=>lH z fun y=>by omega
  obtain⟨c1,c2,c3,c4⟩:=h.yz hL
  refine⟨c1,fun x hx lX=>?_,fun i q hq hi=>?_,c4⟩
  rcases List.mem_append.1 hx with hx | hx
  exact c2 x (List.mem_cons_of_mem _ hx) lX
  rw[(yo x hx).2] at lX ⊢
  rw[Jm _ _ lX];omega
  have lW:(i:Int)+1≠L:=fun z=>hL (z▸hi)
  exact (c3 i q (jg hq lW) hi).imp id fun ⟨z1,z2⟩=>⟨z1,lH z2 fun y=>by omega⟩
  unfold lr
  rw[jV,m5,RZ a1 a5,a6,b2]
  simp only[Int.toNat_natCast]
  split
  rename_i hc
  rw[sX]
  rcases xu (c0:=c0) (F:=F) (T:=T) (L:=L) (K:=K) m.am x' with ⟨z1,z2⟩ | ⟨z1,z2⟩
  rw[RY z1,xv,MR _ _ z2,if_pos (by omega)]
  simp only[Int.toNat_natCast];omega
  omega
  rw[Df];omega
  left
  rw[b2]
  have BF:∀ o∈bZ c0 F L,kf n (ep c0 F T L (F.length+1) o (dC nx m.am x' o))∧LM c0 F T L la (ep c0 F T L (F.length+1) o (dC nx m.am x' o))∧NX (dC nx m.am x') la (ep c0 F T L (F.length+1) o (dC nx m.am x' o)):=fun o ho=>by
   have:=b1.tW o ho
   obtain⟨f1,f2,f3⟩:=DF (la:=la) hF ⟨h.l1,h.ln⟩ ho (x:=dC nx m.am x' o) (K:=F.length+1) (by omega) (Nat.le_refl _)
   exact⟨f1,f2,f3 _ rfl⟩
  refine⟨F.length+1,dC nx m.am x',dC mt m.am y',la,.inr rfl,⟨by rw[List.length_set];exact h.len,hF,h.l1,h.ln,h.b1,fun i q hq hi=>?_,fun i q hq hi=>h.pl i q (jg hq hi) hi,h.mv,V5,fun x hx=>?_,fun o ho=>?_,fun i q hq hi=>?_,h.kb,fun hL=>absurd bv hL,h.sV⟩,?_⟩
  rcases fF hr hq with ⟨rfl,rfl⟩ | ⟨bH,hq⟩
  exact b1
  exact absurd (hi.trans ju.symm) (p_ bH)
  rcases List.mem_append.1 hx with hx | hx
  obtain⟨c1,c2,c3⟩:=h.eP x (List.mem_cons_of_mem _ hx)
  exact⟨c1,c2,Kf x c3⟩
  obtain⟨o,ho,rfl⟩:=List.mem_map.1 hx
  exact BF o ho
  exact .inr ⟨_,List.mem_append_right _ (List.mem_map.2 ⟨o,ho,rfl⟩),.inl ⟨(xu (c0:=c0) (F:=F) (T:=T) (L:=L) (K:=F.length+1) o _).imp (fun z=>z.1) (fun z=>z.1),xv _ _⟩⟩
  have lW:(i:Int)+1≠L:=fun z=>Ci (z▸hi)
  exact (h.hb i q (jg hq lW) hi).imp id fun z=>lH z fun y=>by omega
  unfold lr
  rw[jV,m5,if_neg (Nat.lt_irrefl _),if_pos b0]
  have h1:=LP (N:=F.length+1) (la:=la) ((bZ c0 F L).map fun p=>ep c0 F T L (F.length+1) p (dC nx m.am x' p))
  rw[List.length_map] at h1
  have h2:=sY (la:=la) (m:=m) (show 1≤F.length+1 by omega)
  omega
  right
  rw[b2,List.append_nil]
  obtain⟨c1,c2,c3,c4⟩:=h.yz bv
  refine⟨by omega,bv,la,⟨by rw[List.length_set];exact h.len,hF,fun i q hq=>?_,fun x hx=>?_,bv,fun i q hq hi=>?_,fun x hx lX=>c2 x (List.mem_cons_of_mem _ hx) lX,fun z=>absurd rfl z,fun x h1 h2 h3=>?_,h.sV,Int.le_refl _,fun _=>h.mv,c4⟩,?_⟩
  rcases fF hr hq with ⟨rfl,rfl⟩ | ⟨bH,hq⟩
  rw[ju,h.mv];exact b1
  exact h.pl i q hq (fun z=>p_ bH (z.trans ju.symm))
  obtain⟨c1,c2,-⟩:=h.eP x (List.mem_cons_of_mem _ hx)
  exact⟨c1,c2⟩
  have lW:(i:Int)+1≠L:=fun z=>bv (z▸hi)
  refine .inr ⟨rfl,(c3 i q (jg hq lW) hi).imp id fun ⟨z1,z2⟩=>⟨z1,?_⟩⟩
  have:=lH (xs:=[]) z2 fun y=>by omega
  rw[List.append_nil] at this;exact this
  by_cases WD:x=L
  subst WD
  intro hz
  rw[h.mv] at hz;exact absurd hz bv
  exact h.kb x h1 h2 WD h3
  unfold lr
  rw[jV]
  have h2:=sY (la:=la) (m:=m) (show 1≤F.length+1 by omega)
  omega
 left
 obtain⟨la',h1,h2⟩:=h.plain hk hr ju
 exact⟨K,nx,mt,la',.inl rfl,h1,by unfold lr;omega⟩
end
end Go.Lw.jj
namespace Go.Lw.jj
open dF
section
variable (n:Nat) (c0:aY) (F:List aA) (T H:Int)
def qT (la:Int→Nat) (x:Int):Prop:=x∈(ef c0 F (la x)).av→(∃ v∈(ef c0 F (la x)).av,v≠x)∧∀ v∈(ef c0 F (la x)).av,v≠x→la x<la v
inductive PM (la:Int→Nat) (m:az):Prop
 | kz:lM c0 F T H la m→PM la m
 | eD:m.ao=1→m.am=H→m.to∈bE c0 F→m.ab=T+1→m.index=(F.length+1:Nat)→m.cn=tm F (F.length+1)→PM la m
 | dZ:m.ao=2→m.to=H→m.am∈bE c0 F→m.bT=false→m.ab=T+1→PM la m
inductive CM (la:Int→Nat) (m:az):Prop
 | kz:lM c0 F (T+1) H la m→CM la m
 | wV:m.ao=1→m.am=H→m.ab≤T+1→CM la m
 | pK:m.ao=2→m.to=H→m.ab≤T+1→CM la m
 | vt:m.ao=3→m.am=H→m.to∈bE c0 F→m.ab=T+1→m.index=(F.length+1:Nat)→m.cn=tm F (F.length+1)→CM la m
 | dZ:m.ao=4→m.to=H→m.am∈bE c0 F→m.bT=false→m.ab=T+1→CM la m
structure PR (la:Int→Nat) (s:List aU) (aM:List az):Prop where
 len:s.length=n
 eF:dg n c0 F T
 t2:T<100
 fl:F.length≤12
 hv:H∈bE c0 F
 wZ:∃ v∈bE c0 F,v≠H
 jN:∀ (k:Nat) (r:aU),s[k]?=some r→(k:Int)+1=H→Hr c0 F T 2 H r∧kC (cZ (bE c0 F)) r.cB≠1
 pl:∀ (k:Nat) (r:aU),s[k]?=some r→(k:Int)+1≠H→Pl c0 F T (k+1) r (la (k+1))
 vu:la H=F.length+1
 eP:∀ m∈aM,kf n m∧PM c0 F T H la m
 ly:∀ (k:Nat) (r:aU),s[k]?=some r→(k:Int)+1∈bE c0 F→(k:Int)+1≠H→la (k+1)=F.length+1∧r.aO=1∧r.af.ab=T∧(r.gq=0∨4≤r.bi)
 nJ:∀ (k:Nat) (r:aU),s[k]?=some r→(k:Int)+1=H→∀ v∈bE c0 F,(v,true)∈r.cB∨∃ m∈aM,m.ao=1∧m.am=H∧m.to=v∨m.ao=2∧m.to=H∧m.am=v
 kb:∀ x:Int,1≤x→x≤n→x≠H→x∉bZ c0 F H→qT c0 F la x
structure CA (la:Int→Nat) (s:List aU) (aM:List az):Prop where
 len:s.length=n
 eF:dg n c0 F T
 t2:T<100
 fl:F.length≤12
 hv:H∈bE c0 F
 jN:∀ (k:Nat) (r:aU),s[k]?=some r→(k:Int)+1=H→Hr c0 F (T+1) 3 H r∧kC (cZ (bE c0 F)) r.cB≠1
 pl:∀ (k:Nat) (r:aU),s[k]?=some r→(k:Int)+1≠H→Pl c0 F (T+1) (k+1) r (la (k+1))
 vu:la H=F.length+1
 eP:∀ m∈aM,kf n m∧CM c0 F T H la m
 ly:∀ (k:Nat) (r:aU),s[k]?=some r→(k:Int)+1∈bE c0 F→(k:Int)+1≠H→la (k+1)=F.length+1∧r.aO=1∧(r.af.ab<T+1∨r.af.aT=H)
 nJ:∀ (k:Nat) (r:aU),s[k]?=some r→(k:Int)+1=H→∀ v∈bE c0 F,(v,true)∈r.cB∨∃ m∈aM,m.ao=3∧m.am=H∧m.to=v∨m.ao=4∧m.to=H∧m.am=v
 kb:∀ x:Int,1≤x→x≤n→x≠H→x∉bZ c0 F H→qT c0 F la x
def yy:Nat:=2*((bZ c0 F H).length*(2*(F.length+2)+2))
def H_:Nat:=2*(bE c0 F).length+yy c0 F H
end
section
variable {n:Nat} {c0:aY} {F:List aA} {T H:Int} {la:Int→Nat} {s:List aU} {aM:List az} {m:az} {k:Nat} {r:aU}
theorem dg.j6 (h:dg n c0 F T) {T':Int} (h1:T≤T') (h2:T'≤100):dg n c0 F T' :=
 { h with ff:=fun e he=>by have:=h.ff e he;omega,t1:=by have:=h.t1;omega,t2:=h2 }
theorem Pl.j6 {j:Int} {l:Nat} (h:Pl c0 F T j r l) {T':Int} (h1:T≤T'):Pl c0 F T' j r l:={ h with t1:=by have:=h.t1;omega }
theorem Pl.more {j:Int} {l:Nat} (h:Pl c0 F T j r l) (x:aA):Pl c0 (F++[x]) T j r l :=
 { h with le:=by have:=h.le;simp;omega,ah:=by rw[ahJ h.le];exact h.ah,lone:=by rw[AD h.le];exact h.lone }
theorem lM.j6 (h:lM c0 F T H la m) {T':Int} (h1:T≤T'):lM c0 F T' H la m:=by
 cases h with
 | eD i a1 a2 a3 a4 a5 a6=>exact .eD i a1 a2 a3 a4 a5 a6
 | no a1 a2 a3 a4 a5=>exact .no a1 a2 a3 a4 (by omega)
theorem XJ (hF:dg n c0 F T) {j:Int} (hP:Pl c0 F T j r (la j)) (hm:kf n m) (hN:lM c0 F T H la m) (ew:m.to=j) :
  Pl c0 F T j (mg r m).s (la j)∧(j∈bE c0 F→(mg r m).s=r)∧(mg r m).s.bi=r.bi∧(∀ x∈(mg r m).o.aG,kf n x∧lM c0 F T H la x∧x.ao=2∧x.to∉bE c0 F)∧eQ (F.length+1) la (mg r m).o.aG<wt (F.length+1) la m:=by
 have eB:=hm.vZ hF.n7 ew
 have lV:=hm.f1;have uU:=hm.fn;have cH:=hm.t1;have zJ:=hm.tn;have bH:=hm.ne
 have iP:=hF.t2
 cases hN with
 | eD i a1 a2 a3 a4 a5 a6 =>
  obtain⟨b1,b2⟩:=K5 hF hP.id hP.ah hP.le eB a1 a4 (by rw[←ew];exact a5) a6
  have Qa:=hP.t1
  rw[b1,b2]
  refine⟨hP,fun _=>rfl,rfl,fun x hx=>?_,by rw[sX,uq (.inl a1),yJ (.inl rfl)];omega⟩
  rw[List.mem_singleton.1 hx]
  refine⟨⟨?_,?_,lV,uU,?_,?_,?_,?_⟩,.no rfl a2 a3 rfl hP.t1,rfl,a2⟩
  show 1≤j;omega
  show j≤n;omega
  show j≠m.am;omega
  show r.af.ab≤200;omega
  show (0:Int)≤200;omega
  show (0:Int)≤200;omega
 | no a1 a2 a3 a4 a5 =>
  obtain⟨b1,b2,b3⟩:=hP.no eB a1 a4 a5
  rw[b2]
  exact⟨b1,fun h=>absurd (ew▸h) a2,b3,fun x hx=>(by cases hx),by rw[Df];exact sY (by omega)⟩
theorem Vr (hF:dg n c0 F T) (gK:r.id=H) (ri:r.ah=lg c0 F (F.length+1)) (tK:r.af.ab≤T) (hv:H∈bE c0 F) (BR:la H=F.length+1) (hm:kf n m) (hN:lM c0 F T H la m) (ew:m.to=H) :
  (mg r m).s=r∧(∀ x∈(mg r m).o.aG,kf n x∧lM c0 F T H la x∧x.ao=2∧x.to∉bE c0 F)∧eQ (F.length+1) la (mg r m).o.aG<wt (F.length+1) la m:=by
 have eB:=hm.vZ hF.n7 ew
 have lV:=hm.f1;have uU:=hm.fn;have cH:=hm.t1;have zJ:=hm.tn;have bH:=hm.ne
 have iP:=hF.t2
 cases hN with
 | no a1 a2=>exact absurd (ew▸hv) a2
 | eD i a1 a2 a3 a4 a5 a6 =>
  obtain⟨b1,b2⟩:=K5 hF gK ri (Nat.le_refl _) eB a1 a4 (by rw[ew,BR] at a5;exact a5) a6
  rw[b2]
  refine⟨b1,fun x hx=>?_,by rw[sX,uq (.inl a1),yJ (.inl rfl)];omega⟩
  rw[List.mem_singleton.1 hx]
  refine⟨⟨?_,?_,lV,uU,?_,?_,?_,?_⟩,.no rfl a2 a3 rfl tK,rfl,a2⟩
  show 1≤H;omega
  show H≤n;omega
  show H≠m.am;omega
  show r.af.ab≤200;omega
  show (0:Int)≤200;omega
  show (0:Int)≤200;omega
theorem Yd {ao T':Int} {x:az} (hx:x∈((bE c0 F).filter fun o=>decide (o≠H)).map (qM F H T' (F.length+1) ao)):∃ v∈bE c0 F,v≠H∧x=qM F H T' (F.length+1) ao v:=by
 obtain⟨v,hv,rfl⟩:=List.mem_map.1 hx
 obtain⟨h1,h2⟩:=List.mem_filter.1 hv
 exact⟨v,h1,of_decide_eq_true h2,rfl⟩
theorem XC {ao T':Int} {v:Int} (hv:v∈bE c0 F) (pn:v≠H):qM F H T' (F.length+1) ao v∈((bE c0 F).filter fun o=>decide (o≠H)).map (qM F H T' (F.length+1) ao) :=
 List.mem_map.2 ⟨v,List.mem_filter.2 ⟨hv,decide_eq_true pn⟩,rfl⟩
theorem Ye (hF:dg n c0 F T) {ao T':Int} {v:Int} (hv:v∈bE c0 F) (pn:v≠H) (hH:H∈bE c0 F) (hT:T'≤101):kf n (qM F H T' (F.length+1) ao v):=by
 have bV:=hF.len
 have h1:=hF.mS (F.length+1) v (List.mem_append_left _ hv)
 have h2:=hF.mS (F.length+1) H (List.mem_append_left _ hH)
 refine⟨h2.1,h2.2,h1.1,h1.2,fun z=>pn z.symm,?_,?_,?_⟩
 show T'≤200;omega
 show ((F.length+1:Nat):Int)≤200;omega
 show (0:Int)≤200;omega
theorem PR.xt (h:PR n c0 F T H la s (m::aM)) (hk:(k:Int)+1=m.to) (hr:s[k]?=some r) :
  (PR n c0 F T H la (s.set k (mg r m).s) (aM++(mg r m).o.aG)∧eQ (F.length+1) la (aM++(mg r m).o.aG)<eQ (F.length+1) la (m::aM)) ∨
  (CA n c0 F T H la (s.set k (mg r m).s) (aM++(mg r m).o.aG)∧eQ (F.length+1) la (aM++(mg r m).o.aG)+yy c0 F H<eQ (F.length+1) la (m::aM)+H_ c0 F H):=by
 obtain⟨fM,o_⟩:=h.eP m (List.mem_cons_self ..)
 have hF:=h.eF
 have iP:=h.t2
 by_cases ig:(k:Int)+1=H
 have ew:m.to=H:=hk.symm.trans ig
 obtain⟨hh,lm⟩:=h.jN k r hr ig
 have jg:∀ {q:aU} {i:Nat} {p:aU},(s.set k q)[i]?=some p→(i:Int)+1≠H→s[i]?=some p:=fun hq hi=>by
  rcases fF hr hq with ⟨rfl,-⟩ | ⟨-,hq⟩
  exact absurd ig hi
  exact hq
 have rv:∀ {q:aU} {i:Nat} {p:aU},(s.set k q)[i]?=some p→(i:Int)+1=H→p=q:=fun hq hi=>by
  rcases fF hr hq with ⟨-,z⟩ | ⟨bH,-⟩
  exact z
  exact absurd (hi.trans ig.symm) (p_ bH)
 cases o_ with
 | eD a1 a2=>exact absurd (a2.trans ew.symm) fM.ne
 | kz a =>
  left
  obtain⟨b1,b2,b3⟩:=Vr hF hh.id hh.ah (by rw[hh.ab];exact Int.le_refl _) h.hv h.vu fM a ew
  have e6:s.set k (mg r m).s=s:=by rw[b1];exact Ff hr
  rw[e6]
  refine⟨{ h with eP:=fun x hx=>?_,nJ:=fun i q hq hi v hv=>?_ },by rw[jV,m5];omega⟩
  rcases List.mem_append.1 hx with hx | hx
  exact h.eP x (List.mem_cons_of_mem _ hx)
  exact⟨(b2 x hx).1,.kz (b2 x hx).2.1⟩
  refine (h.nJ i q hq hi v hv).imp id fun z=>lH z fun y=>?_
  cases a with
  | eD i a1 a2 a3 =>
   rcases y with y | y
   exact a3 y.2.1
   omega
  | no a1 a2 a3=>exact a3 ew
 | dZ a1 a2 a3 a4 a5 =>
  have eB:=fM.vZ hF.n7 ew
  rcases hh.pre hF iP h.hv h.wZ eB a1 a4 a5 with ⟨b1,b2,b3,b4⟩ | ⟨b1,b2,b3⟩
  left
  rw[b4,List.append_nil]
  refine⟨⟨by rw[List.length_set];exact h.len,hF,iP,h.fl,h.hv,h.wZ,fun i q hq hi=>?_,fun i q hq hi=>h.pl i q (jg hq hi) hi,h.vu,fun x hx=>h.eP x (List.mem_cons_of_mem _ hx),fun i q hq hv hi=>h.ly i q (jg hq hi) hv hi,fun i q hq hi v hv=>?_,h.kb⟩,?_⟩
  rw[rv hq hi];exact⟨b1,b3⟩
  rw[rv hq hi,b2]
  rcases h.nJ k r hr ig v hv with z | z
  exact .inl (List.mem_append_left _ z)
  by_cases sv:v=m.am
  subst sv;exact .inl (List.mem_append_right _ (List.mem_singleton.2 rfl))
  right
  have:=lH (xs:=[]) z fun y=>by
   rcases y with y | y
   omega
   exact sv y.2.2.symm
  rw[List.append_nil] at this;exact this
  rw[jV];have:=sY (la:=la) (m:=m) (show 1≤F.length+1 by omega);omega
  right
  rw[b3]
  refine⟨⟨by rw[List.length_set];exact h.len,hF,iP,h.fl,h.hv,fun i q hq hi=>?_,fun i q hq hi=>(h.pl i q (jg hq hi) hi).j6 (by omega),h.vu,fun x hx=>?_,fun i q hq hv hi=>?_,fun i q hq hi v hv=>?_,h.kb⟩,?_⟩
  rw[rv hq hi,b2]
  obtain⟨v,hv,pn⟩:=h.wZ
  exact⟨b1,fun z=>pn (Ag z v hv)⟩
  rcases List.mem_append.1 hx with hx | hx
  obtain⟨c1,c2⟩:=h.eP x (List.mem_cons_of_mem _ hx)
  refine⟨c1,?_⟩
  cases c2 with
  | kz a=>exact .kz (a.j6 (by omega))
  | eD d1 d2 d3 d4=>exact .wV d1 d2 (by omega)
  | dZ d1 d2 d3 d4 d5=>exact .pK d1 d2 (by omega)
  obtain⟨v,hv,pn,rfl⟩:=Yd hx
  exact⟨Ye hF hv pn h.hv (by omega),.vt rfl rfl hv rfl rfl rfl⟩
  obtain⟨c1,c2,c3,-⟩:=h.ly i q (jg hq hi) hv hi
  exact⟨c1,c2,.inl (by omega)⟩
  rw[rv hq hi,b2]
  by_cases pn:v=H
  subst pn;exact .inl (List.mem_singleton.2 rfl)
  exact .inr ⟨_,List.mem_append_right _ (XC hv pn),.inl ⟨rfl,rfl,rfl⟩⟩
  rw[jV,m5]
  have h1:=sY (la:=la) (m:=m) (show 1≤F.length+1 by omega)
  have h2:eQ (F.length+1) la (((bE c0 F).filter fun o=>decide (o≠H)).map (qM F H (T+1) (F.length+1) 3))≤2*(bE c0 F).length:=by
   have h3:=List.length_filter_le (fun o=>decide (o≠H)) (bE c0 F)
   generalize (bE c0 F).filter (fun o=>decide (o≠H))=us at h3
   have h4:eQ (F.length+1) la (us.map (qM F H (T+1) (F.length+1) 3))=2*us.length:=by
    clear h3
    induction us with
    | nil=>rfl
    | cons u us ih=>rw[List.map_cons,jV,ih,uq (.inr rfl),List.length_cons];omega
   omega
  unfold H_
  omega
 left
 have hP:=h.pl k r hr ig
 have Cn:∀ {q:aU} {i:Nat} {p:aU},(s.set k q)[i]?=some p→(i:Int)+1=H→s[i]?=some p:=fun hq hi=>by
  rcases fF hr hq with ⟨rfl,-⟩ | ⟨-,hq⟩
  exact absurd hi ig
  exact hq
 cases o_ with
 | dZ a1 a2=>exact absurd (hk.trans a2) ig
 | kz a =>
  obtain⟨b1,b2,b3,b4,b5⟩:=XJ hF hP fM a hk.symm
  refine⟨⟨by rw[List.length_set];exact h.len,hF,iP,h.fl,h.hv,h.wZ,fun i q hq hi=>h.jN i q (Cn hq hi) hi,fun i q hq hi=>?_,h.vu,fun x hx=>?_,fun i q hq hv hi=>?_,fun i q hq hi v hv=>?_,h.kb⟩,by rw[jV,m5];omega⟩
  rcases fF hr hq with ⟨rfl,rfl⟩ | ⟨-,hq⟩
  exact b1
  exact h.pl i q hq hi
  rcases List.mem_append.1 hx with hx | hx
  exact h.eP x (List.mem_cons_of_mem _ hx)
  exact⟨(b4 x hx).1,.kz (b4 x hx).2.1⟩
  rcases fF hr hq with ⟨rfl,rfl⟩ | ⟨-,hq⟩
  rw[b2 hv];exact h.ly k r hr hv hi
  exact h.ly i q hq hv hi
  refine (h.nJ i q (Cn hq hi) hi v hv).imp id fun z=>lH z fun y=>?_
  cases a with
  | eD i a1 a2 a3 =>
   rcases y with y | y
   exact a3 y.2.1
   omega
  | no a1 a2 a3 =>
   rcases y with y | y
   omega
   exact a3 y.2.1
 | eD a1 a2 a3 a4 a5 a6 =>
  obtain⟨v1,v2,v3,v4⟩:=h.ly k r hr (hk▸a3) ig
  have eB:=fM.vZ hF.n7 hk.symm
  obtain⟨b1,b2⟩:=ajd hF hP.id hP.ah hP.le eB a1 a5 (Nat.le_refl _) (by omega) a6 (by omega) v4 (by omega)
  have e6:s.set k (mg r m).s=s:=by rw[b1];exact Ff hr
  rw[e6,b2]
  refine⟨{ h with eP:=fun x hx=>?_,nJ:=fun i q hq hi v hv=>?_ },by rw[jV,m5,sX,uq (.inl a1),yJ (.inl rfl)];omega⟩
  rcases List.mem_append.1 hx with hx | hx
  exact h.eP x (List.mem_cons_of_mem _ hx)
  rw[List.mem_singleton.1 hx]
  have lV:=fM.f1;have uU:=fM.fn;have cH:=fM.t1;have zJ:=fM.tn;have bH:=fM.ne;have Ko:=fM.ab
  refine⟨⟨?_,?_,lV,uU,?_,Ko,?_,?_⟩,.dZ rfl a2 (hk▸a3) rfl a4⟩
  show 1≤(k:Int)+1;omega
  show (k:Int)+1≤n;omega
  show (k:Int)+1≠m.am;omega
  show (0:Int)≤200;omega
  show (0:Int)≤200;omega
  rcases h.nJ i q hq hi v hv with z | z
  exact .inl z
  right
  by_cases sv:v=m.to
  exact⟨_,List.mem_append_right _ (List.mem_singleton.2 rfl),.inr ⟨rfl,a2,by rw[sv];exact hk⟩⟩
  exact lH z fun y=>by
   rcases y with y | y
   exact sv y.2.2.symm
   omega
theorem ZE {N N':Nat} {la':Int→Nat}:∀ {b:List az},(∀ x∈b,x.ao≠5∧x.ao≠6∧x.ao≠7)→eQ N la b=eQ N' la' b
 | [],_=>rfl
 | x::b,h=>by
  rw[jV,jV,ZE fun y hy=>h y (List.mem_cons_of_mem _ hy)]
  have:=h x (List.mem_cons_self ..)
  unfold wt
  rw[if_neg this.1,if_neg this.2.2,if_neg this.2.1,if_neg this.1,if_neg this.2.2,if_neg this.2.1]
theorem XK (bV:s.length=n) (hF:dg n c0 F T) (iP:T<100) (oy:F.length≤12) (hv:H∈bE c0 F) (iO:∀ (k:Nat) (r:aU),s[k]?=some r→(k:Int)+1≠H→Pl c0 F (T+1) (k+1) r (la (k+1))) (BR:la H=F.length+1)
  (Wx:∀ m∈aM,kf n m∧CM c0 F T H la m) (ag8:∀ x:Int,1≤x→x≤n→x≠H→x∉bZ c0 F H→qT c0 F la x) (hr:s[k]?=some r) (ig:(k:Int)+1=H) {r':aU} {K:Nat} (b1:Ld c0 (F++[fR F (T+1)]) (T+1) H r' K 0 (fun _=>F.length+2) (fun _=>0)) :
  LD n c0 (F++[fR F (T+1)]) (T+1) H K 0 0 (fun _=>F.length+2) (fun _=>0) (dC la H (F.length+2)) (s.set k r') (aM++(bZ c0 F H).map fun p=>ep c0 (F++[fR F (T+1)]) (T+1) H K p (F.length+2)) ∧
   (∀ o∈bZ c0 F H,∃ x∈aM++(bZ c0 F H).map (fun p=>ep c0 (F++[fR F (T+1)]) (T+1) H K p (F.length+2)),(x.ao=5∨x.ao=7)∧x.to=o) ∧
   lr c0 (F++[fR F (T+1)]) H K (dC la H (F.length+2)) (aM++(bZ c0 F H).map fun p=>ep c0 (F++[fR F (T+1)]) (T+1) H K p (F.length+2))≤eQ (F.length+1) la aM+yy c0 F H:=by
 have jg:∀ {q:aU} {i:Nat} {p:aU},(s.set k q)[i]?=some p→(i:Int)+1≠H→s[i]?=some p:=fun hq hi=>by
  rcases fF hr hq with ⟨rfl,-⟩ | ⟨-,hq⟩
  exact absurd ig hi
  exact hq
 have rv:∀ {q:aU} {i:Nat} {p:aU},(s.set k q)[i]?=some p→(i:Int)+1=H→p=q:=fun hq hi=>by
  rcases fF hr hq with ⟨-,z⟩ | ⟨bH,-⟩
  exact z
  exact absurd (hi.trans ig.symm) (p_ bH)
 have oW:=YS (T':=T+1) hF (by omega) (by omega) oy
 have rc:(F++[fR F (T+1)]).length=F.length+1:=by simp
 have po:bE c0 (F++[fR F (T+1)])=bE c0 F:=by show (ef c0 _ _).av=_;rw[yF]
 have ll:bZ c0 (F++[fR F (T+1)]) H=bZ c0 F H:=by show oI (ef c0 _ _) H=_;rw[yF]
 have tq:=hF.mS (F.length+1) H (List.mem_append_left _ hv)
 have gl:∀ o:Int,1≤o→o≤n→la o≤F.length+1:=fun o h1 h2=>by
  by_cases hoH:o=H
  rw[hoH,BR];exact Nat.le_refl _
  have h3:=bV
  have h4:=iO (o.toNat-1) (s[o.toNat-1]'(by omega)) (List.getElem?_eq_getElem _) (by omega)
  have h5:=h4.le
  rw[show ((o.toNat-1:Nat):Int)+1=o by omega] at h5;exact h5
 have iu:∀ o,la o≤dC la H (F.length+2) o:=Iv (by rw[BR];omega)
 have hK:=b1.kN
 have BF:∀ o∈bZ c0 F H,kf n (ep c0 (F++[fR F (T+1)]) (T+1) H K o (F.length+2))∧LM c0 (F++[fR F (T+1)]) (T+1) H (dC la H (F.length+2)) (ep c0 (F++[fR F (T+1)]) (T+1) H K o (F.length+2))∧NX (fun _=>F.length+2) (dC la H (F.length+2)) (ep c0 (F++[fR F (T+1)]) (T+1) H K o (F.length+2)):=fun o ho=>by
  obtain⟨f1,f2,f3⟩:=DF (la:=dC la H (F.length+2)) (F:=F++[fR F (T+1)]) (T:=T+1) (L:=H) oW tq (by rw[ll];exact ho) (x:=F.length+2) (K:=K) (by omega) hK
  exact⟨f1,f2,f3 _ rfl⟩
 have Cu:∀ o∈bZ c0 F H,∃ x∈aM++(bZ c0 F H).map (fun p=>ep c0 (F++[fR F (T+1)]) (T+1) H K p (F.length+2)),(x.ao=5∨x.ao=7)∧x.to=o:=fun o ho =>
  ⟨_,List.mem_append_right _ (List.mem_map.2 ⟨o,ho,rfl⟩),(xu (c0:=c0) (F:=F++[fR F (T+1)]) (T:=T+1) (L:=H) (K:=K) o _).imp (fun z=>z.1) (fun z=>z.1),xv _ _⟩
 refine⟨⟨by rw[List.length_set];exact bV,oW,tq.1,tq.2,by omega,fun i q hq hi=>?_,fun i q hq hi=>?_,by rw[jh,rc],fun o _=>Nat.zero_le _,fun x hx=>?_,fun o ho=>?_,fun i q hq hi=>?_,fun x h1 h2 h3 h4=>?_,fun z=>absurd (po▸hv) z,fun z=>?_⟩,Cu,?_⟩
 rw[rv hq hi];exact b1
 rw[mB _ _ hi];exact (iO i q (jg hq hi) hi).more _
 rcases List.mem_append.1 hx with hx | hx
 obtain⟨c1,c2⟩:=Wx x hx
 have Gc:x.ao≠5→x.ao≠6→x.ao≠7→NX (fun _=>F.length+2) (dC la H (F.length+2)) x:=fun z1 z2 z3=>⟨fun z=>absurd z z1,fun z=>absurd z z3,fun z=>absurd z z2⟩
 cases c2 with
 | kz a =>
  refine⟨c1,.kz ?_,by cases a<;>exact Gc (by omega) (by omega) (by omega)⟩
  cases a with
  | eD i d1 d2 d3 d4 d5 d6 =>
   have:=gl x.to c1.t1 c1.tn
   exact .eD i d1 (by rw[po];exact d2) d3 d4 (Nat.lt_of_lt_of_le d5 (iu _)) (by rw[Za (by omega)];exact d6)
  | no d1 d2 d3 d4 d5=>exact .no d1 (by rw[po];exact d2) d3 d4 d5
 | wV d1 d2 d3=>exact⟨c1,.eD d1 d2 d3 (by rw[po];exact hv),Gc (by omega) (by omega) (by omega)⟩
 | pK d1 d2 d3=>exact⟨c1,.pK (.inl ⟨d1,d3⟩) d2 (by rw[po];exact hv),Gc (by omega) (by omega) (by omega)⟩
 | vt d1 d2 d3 d4=>exact⟨c1,.vt d1 d2 d4 (by rw[po];exact hv),Gc (by omega) (by omega) (by omega)⟩
 | dZ d1 d2 d3 d4 d5=>exact⟨c1,.pK (.inr ⟨d1,d5⟩) d2 (by rw[po];exact hv),Gc (by omega) (by omega) (by omega)⟩
 obtain⟨o,ho,rfl⟩:=List.mem_map.1 hx
 exact BF o ho
 right
 obtain⟨x,hx,h1⟩:=Cu o (ll▸ho)
 exact⟨x,hx,.inl h1⟩
 exact .inr (Cu _ (ll▸hi))
 rw[ll] at h4
 have h5:=ag8 x h1 h2 h3 h4
 have h6:dC la H (F.length+2) x=la x:=mB _ _ h3
 unfold yQ
 unfold qT at h5
 rw[h6,AD (gl x h1 h2)]
 intro hx
 obtain⟨a,b⟩:=h5 hx
 exact⟨a,fun v hv vm=> .inl (Nat.lt_of_lt_of_le (b v hv vm) (iu v))⟩
 rw[po] at z;have:=hv;rw[z] at this;cases this
 unfold lr
 rw[m5,ll,rc]
 have h1:=LP (N:=F.length+1+1) (la:=dC la H (F.length+2)) ((bZ c0 F H).map fun p=>ep c0 (F++[fR F (T+1)]) (T+1) H K p (F.length+2))
 rw[List.length_map] at h1
 have h2:eQ (F.length+1+1) (dC la H (F.length+2)) aM=eQ (F.length+1) la aM:=ZE fun x hx=>by
  obtain⟨-,c2⟩:=Wx x hx
  cases c2 with
  | kz a=>cases a<;>omega
  | wV d1=>omega
  | pK d1=>omega
  | vt d1=>omega
  | dZ d1=>omega
 unfold yy
 rw[show 2*(F.length+1+1)+2=2*(F.length+2)+2 by omega] at h1 ⊢
 rw[h2]
 split<;>omega
theorem CA.xt (h:CA n c0 F T H la s (m::aM)) (hk:(k:Int)+1=m.to) (hr:s[k]?=some r) :
  (CA n c0 F T H la (s.set k (mg r m).s) (aM++(mg r m).o.aG)∧eQ (F.length+1) la (aM++(mg r m).o.aG)<eQ (F.length+1) la (m::aM)) ∨
  ∃ K la',LD n c0 (F++[fR F (T+1)]) (T+1) H K 0 0 (fun _=>F.length+2) (fun _=>0) la' (s.set k (mg r m).s) (aM++(mg r m).o.aG)∧lr c0 (F++[fR F (T+1)]) H K la' (aM++(mg r m).o.aG)<eQ (F.length+1) la (m::aM)+yy c0 F H:=by
 obtain⟨fM,o_⟩:=h.eP m (List.mem_cons_self ..)
 have hF:=h.eF
 have iP:=h.t2
 have ND:dg n c0 F (T+1):=hF.j6 (by omega) (by omega)
 by_cases ig:(k:Int)+1=H
 have ew:m.to=H:=hk.symm.trans ig
 obtain⟨hh,lm⟩:=h.jN k r hr ig
 have jg:∀ {q:aU} {i:Nat} {p:aU},(s.set k q)[i]?=some p→(i:Int)+1≠H→s[i]?=some p:=fun hq hi=>by
  rcases fF hr hq with ⟨rfl,-⟩ | ⟨-,hq⟩
  exact absurd ig hi
  exact hq
 have rv:∀ {q:aU} {i:Nat} {p:aU},(s.set k q)[i]?=some p→(i:Int)+1=H→p=q:=fun hq hi=>by
  rcases fF hr hq with ⟨-,z⟩ | ⟨bH,-⟩
  exact z
  exact absurd (hi.trans ig.symm) (p_ bH)
 cases o_ with
 | wV a1 a2=>exact absurd (a2.trans ew.symm) fM.ne
 | vt a1 a2=>exact absurd (a2.trans ew.symm) fM.ne
 | kz a =>
  left
  obtain⟨b1,b2,b3⟩:=Vr ND hh.id hh.ah (by rw[hh.ab];exact Int.le_refl _) h.hv h.vu fM a ew
  have e6:s.set k (mg r m).s=s:=by rw[b1];exact Ff hr
  rw[e6]
  refine⟨{ h with eP:=fun x hx=>?_,nJ:=fun i q hq hi v hv=>?_ },by rw[jV,m5];omega⟩
  rcases List.mem_append.1 hx with hx | hx
  exact h.eP x (List.mem_cons_of_mem _ hx)
  exact⟨(b2 x hx).1,.kz (b2 x hx).2.1⟩
  refine (h.nJ i q hq hi v hv).imp id fun z=>lH z fun y=>?_
  cases a<;>omega
 | pK a1 a2 a3 =>
  left
  have e:=hh.nK (fM.vZ hF.n7 ew) a1 a3
  have e6:s.set k (mg r m).s=s:=by rw[e];exact Ff hr
  have e7:(mg r m).o.aG=[]:=by rw[e];rfl
  rw[e6,e7,List.append_nil]
  refine⟨{ h with eP:=fun x hx=>h.eP x (List.mem_cons_of_mem _ hx),nJ:=fun i q hq hi v hv=>?_ },by rw[jV];have:=sY (la:=la) (m:=m) (show 1≤F.length+1 by omega);omega⟩
  refine (h.nJ i q hq hi v hv).imp id fun z=>?_
  have:=lH (xs:=[]) z fun y=>by omega
  rw[List.append_nil] at this;exact this
 | dZ a1 a2 a3 a4 a5 =>
  have eB:=fM.vZ hF.n7 ew
  rcases hh.nB hF (by omega) (by omega) h.fl h.hv eB a1 a4 a5 with ⟨b1,b2,b3,b4⟩ | ⟨K,b1,b2⟩
  left
  rw[b4,List.append_nil]
  refine⟨⟨by rw[List.length_set];exact h.len,hF,iP,h.fl,h.hv,fun i q hq hi=>?_,fun i q hq hi=>h.pl i q (jg hq hi) hi,h.vu,fun x hx=>h.eP x (List.mem_cons_of_mem _ hx),fun i q hq hv hi=>h.ly i q (jg hq hi) hv hi,fun i q hq hi v hv=>?_,h.kb⟩,?_⟩
  rw[rv hq hi];exact⟨b1,b3⟩
  rw[rv hq hi,b2]
  rcases h.nJ k r hr ig v hv with z | z
  exact .inl (List.mem_append_left _ z)
  by_cases sv:v=m.am
  subst sv;exact .inl (List.mem_append_right _ (List.mem_singleton.2 rfl))
  right
  have:=lH (xs:=[]) z fun y=>by
   rcases y with y | y
   omega
   exact sv y.2.2.symm
  rw[List.append_nil] at this;exact this
  rw[jV];have:=sY (la:=la) (m:=m) (show 1≤F.length+1 by omega);omega
  right
  rw[b2,show bZ c0 (F++[fR F (T+1)]) H=bZ c0 F H by show oI (ef c0 _ _) H=_;rw[yF]]
  obtain⟨c1,-,c3⟩:=XK h.len hF iP h.fl h.hv h.pl h.vu (fun x hx=>h.eP x (List.mem_cons_of_mem _ hx)) h.kb hr ig b1
  have h3:=sY (la:=la) (m:=m) (show 1≤F.length+1 by omega)
  exact⟨K,_,c1,by rw[jV];omega⟩
 left
 have hP:=h.pl k r hr ig
 have Cn:∀ {q:aU} {i:Nat} {p:aU},(s.set k q)[i]?=some p→(i:Int)+1=H→s[i]?=some p:=fun hq hi=>by
  rcases fF hr hq with ⟨rfl,-⟩ | ⟨-,hq⟩
  exact absurd hi ig
  exact hq
 cases o_ with
 | dZ a1 a2=>exact absurd (hk.trans a2) ig
 | pK a1 a2=>exact absurd (hk.trans a2) ig
 | kz a =>
  obtain⟨b1,b2,b3,b4,b5⟩:=XJ ND hP fM a hk.symm
  refine⟨⟨by rw[List.length_set];exact h.len,hF,iP,h.fl,h.hv,fun i q hq hi=>h.jN i q (Cn hq hi) hi,fun i q hq hi=>?_,h.vu,fun x hx=>?_,fun i q hq hv hi=>?_,fun i q hq hi v hv=>?_,h.kb⟩,by rw[jV,m5];omega⟩
  rcases fF hr hq with ⟨rfl,rfl⟩ | ⟨-,hq⟩
  exact b1
  exact h.pl i q hq hi
  rcases List.mem_append.1 hx with hx | hx
  exact h.eP x (List.mem_cons_of_mem _ hx)
  exact⟨(b4 x hx).1,.kz (b4 x hx).2.1⟩
  rcases fF hr hq with ⟨rfl,rfl⟩ | ⟨-,hq⟩
  rw[b2 hv];exact h.ly k r hr hv hi
  exact h.ly i q hq hv hi
  refine (h.nJ i q (Cn hq hi) hi v hv).imp id fun z=>lH z fun y=>?_
  cases a<;>omega
 | wV a1 a2 a3 =>
  have eB:=fM.vZ hF.n7 hk.symm
  obtain⟨b1,x,b2,b3,b4,b5,b6,b7,b8⟩:=Yc hP.id eB a1
  have e6:s.set k (mg r m).s=s:=by rw[b1];exact Ff hr
  have EC:=hP.t1
  have lV:=fM.f1;have uU:=fM.fn;have cH:=fM.t1;have zJ:=fM.tn;have bH:=fM.ne
  rw[e6,b2]
  refine⟨{ h with eP:=fun y hy=>?_,nJ:=fun i q hq hi v hv=>?_ },by rw[jV,m5,sX,uq (.inl a1),yJ (.inl b3)];omega⟩
  rcases List.mem_append.1 hy with hy | hy
  exact h.eP y (List.mem_cons_of_mem _ hy)
  rw[List.mem_singleton.1 hy]
  exact⟨⟨by omega,by omega,by omega,by omega,by omega,by omega,by omega,by omega⟩,.pK b3 (b5.trans a2) (by omega)⟩
  exact (h.nJ i q hq hi v hv).imp id fun z=>lH z fun y=>by omega
 | vt a1 a2 a3 a4 a5 a6 =>
  obtain⟨v1,v2,v3⟩:=h.ly k r hr (hk▸a3) ig
  have eB:=fM.vZ hF.n7 hk.symm
  obtain⟨b1,b2,b3,b4,x,b5,b6,b7,b8,b9,qU,Dx,kJ⟩:=hP.akI ND eB a1 a4 a5 (Nat.le_refl _) (by omega) a6 v2 (by rw[a2];exact v3)
  have lV:=fM.f1;have uU:=fM.fn;have cH:=fM.t1;have zJ:=fM.tn;have bH:=fM.ne
  rw[b5]
  refine⟨⟨by rw[List.length_set];exact h.len,hF,iP,h.fl,h.hv,fun i q hq hi=>h.jN i q (Cn hq hi) hi,fun i q hq hi=>?_,h.vu,fun y hy=>?_,fun i q hq hv hi=>?_,fun i q hq hi v hv=>?_,h.kb⟩,by rw[jV,m5,sX,uq (.inr a1),yJ (.inr b6)];omega⟩
  rcases fF hr hq with ⟨rfl,rfl⟩ | ⟨-,hq⟩
  exact b1
  exact h.pl i q hq hi
  rcases List.mem_append.1 hy with hy | hy
  exact h.eP y (List.mem_cons_of_mem _ hy)
  rw[List.mem_singleton.1 hy]
  exact⟨⟨by omega,by omega,by omega,by omega,by omega,by omega,by omega,by omega⟩,.dZ b6 (b8.trans a2) (by rw[b7];exact hk▸a3) qU b9⟩
  rcases fF hr hq with ⟨rfl,rfl⟩ | ⟨-,hq⟩
  exact⟨v1,b2,.inr (b4.trans a2)⟩
  exact h.ly i q hq hv hi
  rcases h.nJ i q (Cn hq hi) hi v hv with z | z
  exact .inl z
  right
  by_cases sv:v=m.to
  exact⟨x,List.mem_append_right _ (List.mem_singleton.2 rfl),.inr ⟨b6,b8.trans a2,by rw[b7,sv];exact hk⟩⟩
  exact lH z fun y=>by
   rcases y with y | y
   exact sv y.2.2.symm
   omega
end
end Go.Lw.jj
namespace Go.Lw.jj
open dF
theorem Ls:∀ {l:List Int} {a b:Int},l.Pairwise (· < ·)→(∀ x∈l,a≤x∧x≤b)→(l.length:Int)≤max 0 (b-a+1)
 | [],_,_,_,_=>by simp only[List.length_nil];omega
 | x::t,a,b,h,hb=>by
  obtain⟨h1,h2⟩:=List.pairwise_cons.1 h
  have hx:=hb x (by simp)
  have:=Ls (a:=x+1) (b:=b) h2 fun y hy=>⟨h1 y hy,(hb y (List.mem_cons_of_mem _ hy)).2⟩
  simp only[List.length_cons];omega
section
variable {n:Nat} {c0:aY} {F:List aA} {T L H:Int} {K b b0 e:Nat} {nx mt la:Int→Nat} {s:List aU} {aM:List az} {m:az} {k i:Nat} {r:aU} {E:Int}
theorem MA (hF:dg n c0 F T) {l:Nat} (hl:1≤l):eg (ef c0 F l)=0:=by
 obtain⟨q,rfl⟩:∃ q,l=q+1:=⟨l-1,by omega⟩
 show eg (aJ gF c0 (F.take q))=0
 rcases EO gF c0 (F.take q) with ⟨-,h1⟩ | ⟨p,x,h1,h2,-⟩
 exact (congrArg eg h1).trans hF.aF
 by_cases hk:x.ao=3
 have h3:gF x=some x.aJ:=if_pos hk
 rw[h3] at h2
 rw[←Option.some.inj h2]
 exact hF.right x (List.mem_of_mem_take (List.mem_of_getElem? h1)) hk
 have h3:gF x=none:=if_neg hk
 rw[h3] at h2;cases h2
theorem RS (hF:dg n c0 F T) (l:Nat):(ef c0 F l).av.length≤5:=by
 cases l with
 | zero=>exact Nat.zero_le _
 | succ q =>
  have h1:=(yU (MA hF (l:=q+1) (by omega))).2.1
  have h2:=Ls (a:=1) (b:=n) h1 fun x hx=>hF.mS (q+1) x (List.mem_append_left _ hx)
  have:=hF.n7
  omega
theorem KW (hF:dg n c0 F T) (hL:1≤L∧L≤n):(bZ c0 F L).length≤4:=by
 have hs:(bZ c0 F L).Pairwise (· < ·):=Iu _
 have hb:∀ x∈bZ c0 F L,(1≤x∧x≤n)∧x≠L:=fun x hx=>by
  obtain⟨h1,h2⟩:=pB.1 hx
  exact⟨hF.mS _ x (List.mem_append.2 h1),h2⟩
 have h1:=Ls (a:=1) (b:=L-1) (hs.filter fun x=>decide (x<L)) fun x hx=>by
  obtain⟨a,c⟩:=List.mem_filter.1 hx
  have:=hb x a;have:=of_decide_eq_true c;omega
 have h2:=Ls (a:=L+1) (b:=n) (hs.filter fun x=> !decide (x<L)) fun x hx=>by
  obtain⟨a,c⟩:=List.mem_filter.1 hx
  have:=hb x a
  have:¬ x<L:=by simpa using c
  omega
 have h3:(bZ c0 F L).length=((bZ c0 F L).filter fun x=>decide (x<L)).length+((bZ c0 F L).filter fun x=> !decide (x<L)).length:=by
  rw[←List.countP_eq_length_filter,← List.countP_eq_length_filter]
  have:=List.length_eq_countP_add_countP (fun x=>decide (x<L)) (l:=bZ c0 F L)
  rw[this]
  congr 2
  funext x;by_cases hx:x<L<;>simp[hx]
 have:=hF.n7
 omega
theorem FK (hF:dg n c0 F T) {j:Int} {l:Nat} (hj:1≤j∧j≤n) (hP:Pl c0 F T j r l) (hl:la j=l) (hjv:j∉bE c0 F) (O2:j≠L) (hs:qT c0 F la j) (hjc:j∈(ef c0 F l).av) :
  (∀ x∈((ef c0 F l).av.filter fun o=>decide (o≠j)).map (qM F j (r.af.ab+1) l 1),kf n x∧lM c0 F T L la x∧x.ao=1)∧eQ (F.length+1) la (((ef c0 F l).av.filter fun o=>decide (o≠j)).map (qM F j (r.af.ab+1) l 1))≤10:=by
 have cg:=hP.le
 have bV:=hF.len
 have EC:=hP.t1
 have iP:=hF.t2
 subst hl
 refine⟨fun x hx=>?_,?_⟩
 obtain⟨v,hv,rfl⟩:=List.mem_map.1 hx
 obtain⟨h1,h2⟩:=List.mem_filter.1 hv
 have h2:=of_decide_eq_true h2
 have h3:=hF.mS (la j) v (List.mem_append_left _ h1)
 refine⟨⟨hj.1,hj.2,h3.1,h3.2,fun z=>h2 z.symm,?_,?_,?_⟩,.eD (la j) rfl hjv O2 rfl ((hs hjc).2 v h1 h2) rfl,rfl⟩
 show r.af.ab+1≤200;omega
 show ((la j:Nat):Int)≤200;omega
 show (0:Int)≤200;omega
 have h1:=RS hF (la j)
 have h2:=List.length_filter_le (fun o=>decide (o≠j)) (ef c0 F (la j)).av
 generalize (ef c0 F (la j)).av.filter (fun o=>decide (o≠j))=us at h2
 have h4:eQ (F.length+1) la (us.map (qM F j (r.af.ab+1) (la j) 1))=2*us.length:=by
  clear h2
  induction us with
  | nil=>rfl
  | cons u us ih=>rw[List.map_cons,jV,ih,uq (.inl rfl),List.length_cons];omega
 omega
theorem LD.ZA (h:LD n c0 F T L K b e nx mt la s aM) {e':Nat} (he:e≤e'):LD n c0 F T L K b e' nx mt la s aM:={ h with hb:=fun k r hr hk=>(h.hb k r hr hk).imp (fun z=>by omega) id }
def fg (k:Nat):Int:=10+5*k
theorem CX (k:Nat):max (fg k) 1=fg k:=by unfold fg;omega
structure LT (n:Nat) (c0:aY) (F:List aA) (T L:Int) (K b0 i:Nat) (nx mt la:Int→Nat) (s:List aU) (aM:List az):Prop where
 ld:LD n c0 F T L K (if L≤i then 1-b0 else b0) (b0+1) nx mt la s aM
 b1:b0≤1
 Lz:∀ (k:Nat) (r:aU),i≤k→s[k]?=some r→(k:Int)+1≠L→r.bi≤1∨qT c0 F la (k+1)
 um:∀ (k:Nat) (r:aU),i≤k→s[k]?=some r→(k:Int)+1∈bZ c0 F L→r.bi≤b0∨∃ m∈aM,(m.ao=5∨m.ao=7)∧m.to=k+1
 uv:∀ (k:Nat) (r:aU),i≤k→s[k]?=some r→(k:Int)+1∈bE c0 F→(k:Int)+1≠L→r.bi≤1
 ZB:L≤i→b0=1→∀ o∈bZ c0 F L,∃ m∈aM,(m.ao=5∨m.ao=7)∧m.to=o
 K6:L∉bE c0 F→∀ (k:Nat) (r:aU),s[k]?=some r→(k:Int)+1∈bE c0 F→r.af.aB≤F.length∧∃ m∈aM,m.ao=5∧m.to=k+1∧m.index=(F.length:Nat)∧F.length≤la (k+1)
 gr:lr c0 F L K la aM≤if L≤i then 350+10*i else 240+10*i
theorem qK {p:az→Prop} {xs:List az} (h:∃ x∈aM,p x):∃ x∈aM++xs,p x:=by
 obtain⟨x,hx,hp⟩:=h
 exact⟨x,List.mem_append_left _ hx,hp⟩
theorem LT.tick (h:LT n c0 F T L K b0 k nx mt la s aM) (hr:s[k]?=some r):LT n c0 F T L K b0 (k+1) nx mt la (s.set k (tk r (fg k)).s) (aM++(tk r (fg k)).o.aG):=by
 have hD:=h.ld
 have hF:=hD.eF
 have cz:=h.b1
 have bV:=hF.len
 have o7:k<n:=by rw[←hD.len];exact gI hr
 have we:=hD.l1
 have JA:=hD.ln
 have ll:∀ {q:aU} {i:Nat} {p:aU},k+1≤i→(s.set k q)[i]?=some p→s[i]?=some p:=fun hi hq=>by
  rcases fF hr hq with ⟨rfl,-⟩ | ⟨-,hq⟩
  omega
  exact hq
 by_cases ju:(k:Int)+1=L
 have hb:(if L≤(k:Nat) then 1-b0 else b0)=b0:=if_neg (by omega)
 have li:(if L≤((k+1:Nat):Int) then 1-b0 else b0)=1-b0:=if_pos (by omega)
 have hD:=hD
 rw[hb] at hD
 obtain⟨t1,t2⟩:=(hD.tN k r hr ju).tick hF cz (fg k)
 have sd:=hD.tN k r hr ju
 have BF:∀ o∈bZ c0 F L,kf n (ep c0 F T L K o (nx o))∧LM c0 F T L la (ep c0 F T L K o (nx o))∧NX nx la (ep c0 F T L K o (nx o)):=fun o ho=>by
  have:=sd.tW o ho
  obtain⟨f1,f2,f3⟩:=DF (la:=la) hF ⟨we,JA⟩ ho (x:=nx o) (K:=K) (by omega) sd.kN
  exact⟨f1,f2,f3 _ rfl⟩
 have yo:∀ x∈(tk r (fg k)).o.aG,∃ o∈bZ c0 F L,x=ep c0 F T L K o (nx o):=fun x hx=>by
  rw[t2] at hx
  split at hx
  obtain⟨o,ho,rfl⟩:=List.mem_map.1 hx
  exact⟨o,ho,rfl⟩
  cases hx
 have Ci:∀ {i:Nat},(i:Int)+1∈bZ c0 F L→(i:Int)+1≠L:=fun hi z=>(pB.1 hi).2 z
 have jg:∀ {q:aU} {i:Nat} {p:aU},(s.set k q)[i]?=some p→(i:Int)+1≠L→s[i]?=some p:=fun hq hi=>by
  rcases fF hr hq with ⟨rfl,-⟩ | ⟨-,hq⟩
  exact absurd ju hi
  exact hq
 refine⟨?_,cz,fun i q hi hq hn=>h.Lz i q (by omega) (ll hi hq) hn,fun i q hi hq hn=>(h.um i q (by omega) (ll hi hq) hn).imp id qK,fun i q hi hq hn=>h.uv i q (by omega) (ll hi hq) hn,fun _ hb=>?_,fun hv i q hq hi=>?_,?_⟩
 rw[li]
 refine⟨by rw[List.length_set];exact hD.len,hF,we,JA,by omega,fun i q hq hi=>?_,fun i q hq hi=>hD.pl i q (jg hq hi) hi,hD.mv,hD.zY,fun x hx=>?_,fun o ho=>(hD.Ab o ho).imp id qK,fun i q hq hi=>(hD.hb i q (jg hq (Ci hi)) hi).imp id qK,hD.kb,fun hv=>?_,hD.sV⟩
 rcases fF hr hq with ⟨rfl,rfl⟩ | ⟨bH,hq⟩
 exact t1
 exact absurd (hi.trans ju.symm) (p_ bH)
 rcases List.mem_append.1 hx with hx | hx
 exact hD.eP x hx
 obtain⟨o,ho,rfl⟩:=yo x hx;exact BF o ho
 obtain⟨a1,a2,a3,a4⟩:=hD.yz hv
 refine⟨a1,fun x hx lX=>?_,fun i q hq hi=>?_,a4⟩
 rcases List.mem_append.1 hx with hx | hx
 exact a2 x hx lX
 obtain⟨o,ho,rfl⟩:=yo x hx
 rw[Jm _ _ lX];omega
 have lW:(i:Int)+1≠L:=fun z=>hv (z▸hi)
 exact (a3 i q (jg hq lW) hi).imp id fun ⟨z1,z2⟩=>⟨z1,qK z2⟩
 intro o ho
 rw[t2,if_pos hb]
 exact⟨_,List.mem_append_right _ (List.mem_map.2 ⟨o,ho,rfl⟩),(xu (c0:=c0) (F:=F) (T:=T) (L:=L) (K:=K) o _).imp (fun z=>z.1) (fun z=>z.1),xv _ _⟩
 have lW:(i:Int)+1≠L:=fun z=>hv (z▸hi)
 obtain⟨z1,z2⟩:=h.K6 hv i q (jg hq lW) hi
 exact⟨z1,qK z2⟩
 have hp:=h.gr
 rw[if_neg (by omega)] at hp
 rw[if_pos (by omega)]
 unfold lr at hp ⊢
 rw[m5]
 have h1:eQ (F.length+1) la (tk r (fg k)).o.aG≤120:=by
  rw[t2]
  split
  have h2:=LP (N:=F.length+1) (la:=la) ((bZ c0 F L).map fun p=>ep c0 F T L K p (nx p))
  rw[List.length_map] at h2
  have h3:=KW hF ⟨we,JA⟩
  have h4:(bZ c0 F L).length*(2*(F.length+1)+2)≤4*30:=Nat.mul_le_mul h3 (by omega)
  omega
  exact Nat.zero_le _
 omega
 have hb:(if L≤((k+1:Nat):Int) then 1-b0 else b0)=if L≤(k:Nat) then 1-b0 else b0:=by
  by_cases hc:L≤(k:Nat)
  rw[if_pos hc,if_pos (by omega)]
  rw[if_neg hc,if_neg (by omega)]
 have hP:=hD.pl k r hr ju
 have tI:∃ xs,Pl c0 F T (k+1) (tk r (fg k)).s (la (k+1))∧(tk r (fg k)).o.aG=xs∧(∀ x∈xs,kf n x∧lM c0 F T L la x∧x.ao=1)∧eQ (F.length+1) la xs≤10∧(tk r (fg k)).s.bi≤r.bi+1∧((k:Int)+1∈bE c0 F→(tk r (fg k)).s.af.aB=r.af.aB):=by
  rcases hP.tick hF (fg k) (fun hj ht=>by
   rcases h.Lz k r (Nat.le_refl _) hr ju with h1 | h1
   rw[CX] at ht;unfold fg at ht;omega
   exact (h1 hj).1) with ⟨a1,a2,a3⟩ | ⟨a0,a1,a2,a3,a4⟩
  obtain⟨-,-,-,e4,-⟩:=FW hP.el
  exact⟨[],a1,a2,fun x hx=>(by cases hx),Nat.zero_le _,by rw[a3];exact e4,fun _=>by rw[a3]⟩
  rw[CX] at a1
  have aqc:10≤fg k:=by unfold fg;omega
  have cc:qT c0 F la (k+1):=(h.Lz k r (Nat.le_refl _) hr ju).resolve_left (by omega)
  have V9:(k:Int)+1∉bE c0 F:=fun z=>by have:=h.uv k r (Nat.le_refl _) hr z ju;omega
  obtain⟨c1,c2⟩:=FK (L:=L) hF (j:=(k:Int)+1) (by omega) hP rfl V9 ju cc a0
  exact⟨_,a2,a4,c1,c2,by rw[a3];have:=hP.el;omega,fun z=>absurd z V9⟩
 obtain⟨xs,a1,a2,a3,a4,a5,a6⟩:=tI
 rw[a2]
 have pW:(k:Int)+1∈bZ c0 F L→(tk r (fg k)).s.bi≤((b0+1:Nat):Int)∨∃ m∈aM++xs,(m.ao=5∨m.ao=7)∧m.to=k+1:=fun hi =>
  (h.um k r (Nat.le_refl _) hr hi).imp (fun z=>by omega) qK
 refine⟨?_,cz,fun i q hi hq hn=>h.Lz i q (by omega) (ll hi hq) hn,fun i q hi hq hn=>(h.um i q (by omega) (ll hi hq) hn).imp id qK,fun i q hi hq hn=>h.uv i q (by omega) (ll hi hq) hn,fun hl hb o ho=>qK (h.ZB (by omega) hb o ho),fun hv i q hq hi=>?_,?_⟩
 rw[hb]
 refine⟨by rw[List.length_set];exact hD.len,hF,we,JA,hD.b1,fun i q hq hi=>?_,fun i q hq hi=>?_,hD.mv,hD.zY,fun x hx=>?_,fun o ho=>(hD.Ab o ho).imp id qK,fun i q hq hi=>?_,hD.kb,fun hv=>?_,hD.sV⟩
 rcases fF hr hq with ⟨rfl,-⟩ | ⟨-,hq⟩
 exact absurd hi ju
 exact hD.tN i q hq hi
 rcases fF hr hq with ⟨rfl,rfl⟩ | ⟨-,hq⟩
 exact a1
 exact hD.pl i q hq hi
 rcases List.mem_append.1 hx with hx | hx
 exact hD.eP x hx
 obtain⟨c1,c2,c3⟩:=a3 x hx
 exact⟨c1,.kz c2,fun z=>by omega,fun z=>by omega,fun z=>by omega⟩
 rcases fF hr hq with ⟨rfl,rfl⟩ | ⟨-,hq⟩
 exact pW hi
 exact (hD.hb i q hq hi).imp id qK
 obtain⟨d1,d2,d3,d4⟩:=hD.yz hv
 refine⟨d1,fun x hx lX=>?_,fun i q hq hi=>?_,d4⟩
 rcases List.mem_append.1 hx with hx | hx
 exact d2 x hx lX
 have:=(a3 x hx).2.2;omega
 rcases fF hr hq with ⟨rfl,rfl⟩ | ⟨-,hq⟩
 obtain⟨z1,z2⟩:=h.K6 hv k r hr hi
 exact .inr ⟨by rw[a6 hi];exact z1,qK z2⟩
 exact (d3 i q hq hi).imp id fun ⟨z1,z2⟩=>⟨z1,qK z2⟩
 rcases fF hr hq with ⟨rfl,rfl⟩ | ⟨-,hq⟩
 obtain⟨z1,z2⟩:=h.K6 hv k r hr hi
 exact⟨by rw[a6 hi];exact z1,qK z2⟩
 obtain⟨z1,z2⟩:=h.K6 hv i q hq hi
 exact⟨z1,qK z2⟩
 have hp:=h.gr
 by_cases hc:L≤(k:Nat)
 rw[if_pos hc] at hp;rw[if_pos (by omega)]
 unfold lr at hp ⊢
 rw[m5];omega
 rw[if_neg hc] at hp;rw[if_neg (by omega)]
 unfold lr at hp ⊢
 rw[m5];omega
theorem LT.done (h:LT n c0 F T L K b0 n nx mt la s aM):LD n c0 F T L K (1-b0) (1-b0) nx mt la s aM∧lr c0 F L K la aM≤400:=by
 have hD:=h.ld
 have cz:=h.b1
 have wx:=hD.ln
 have xX:=hD.eF.n7
 have hp:=h.gr
 rw[if_pos (by omega)] at hD hp
 refine⟨{ hD with hb:=fun k r hr hk=>?_ },by omega⟩
 by_cases hb:b0=1
 exact .inr (h.ZB (by omega) hb _ hk)
 have:=hD.hb k r hr hk
 have:b0=0:=by omega
 subst this
 exact hD.hb k r hr hk
end
end Go.Lw.jj
namespace Go.Lw.jj
open dF
section
variable (n:Nat) (c0:aY) (F:List aA) (T L H:Int)
structure FT (E:Int) (i:Nat) (la:Int→Nat) (s:List aU) (aM:List az):Prop where
 len:s.length=n
 eF:dg n c0 F T
 t2:T<100
 fl:F.length≤12
 pl:∀ (k:Nat) (r:aU),s[k]?=some r→Pl c0 F T (k+1) r (la (k+1))
 eP:∀ m∈aM,kf n m∧lM c0 F T L la m
 lv:L∉bE c0 F
 ly:∀ (k:Nat) (r:aU),s[k]?=some r→(k:Int)+1∈bE c0 F→la (k+1)=F.length+1∧r.bi=(if k<i then E+1 else E)∧r.aO=1∧r.af.ab=T
 kb:∀ x:Int,1≤x→x≤n→x∉bZ c0 F L→qT c0 F la x
 hv:H∈bE c0 F
 sj:∀ v∈bE c0 F,H≤v
 e0:0≤E
 dl:E+1≤5+5*H
 mv:1≤L→la L=F.length+1
 zW:∀ o∈bZ c0 F L,o∉bE c0 F→F.length≤la o∧o∉(ef c0 F F.length).av
 hi:(i:Int)<H∨E+1<5+5*H
 gr:eQ (F.length+1) la aM≤10*i
structure PT (i:Nat) (la:Int→Nat) (s:List aU) (aM:List az):Prop where
 pr:PR n c0 F T H la s aM
 hi:H≤i
 tv:∀ (k:Nat) (r:aU),i≤k→s[k]?=some r→(k:Int)+1∈bE c0 F→r.bi+1<fg k
 Zn:∀ (k:Nat) (r:aU),i≤k→s[k]?=some r→(k:Int)+1∉bE c0 F→qT c0 F la (k+1)
 gr:eQ (F.length+1) la aM≤10*i
end
section
variable {n:Nat} {c0:aY} {F:List aA} {T L H:Int} {la:Int→Nat} {s:List aU} {aM:List az} {m:az} {k i:Nat} {r:aU} {E:Int}
theorem XY {x:Int} (hx:x≠H) (h:x∉bZ c0 F H):x∉bZ c0 F L:=fun z=>by
 obtain⟨h1,-⟩:=pB.1 z
 exact h (pB.2 ⟨h1,hx⟩)
theorem lM.RW (h:lM c0 F T L la m) (hH:H∈bE c0 F):lM c0 F T H la m:=by
 cases h with
 | eD i a1 a2 a3 a4 a5 a6=>exact .eD i a1 a2 (fun z=>a2 (z▸hH)) a4 a5 a6
 | no a1 a2 a3 a4 a5=>exact .no a1 a2 (fun z=>a2 (z▸hH)) a4 a5
theorem FT.ahE (h:FT n c0 F T L H E i la s aM) {o:Int} (h1:1≤o) (hn:o≤n) (ho:o∈bZ c0 F L) (hv:o∉bE c0 F):o∉(ef c0 F (la o)).av:=by
 obtain⟨a,b⟩:=h.zW o ho hv
 have h2:=h.len
 have h3:=(h.pl (o.toNat-1) (s[o.toNat-1]'(by omega)) (List.getElem?_eq_getElem _)).le
 rw[show ((o.toNat-1:Nat):Int)+1=o by omega] at h3
 by_cases hc:la o=F.length
 rw[hc];exact b
 rw[show la o=F.length+1 by omega];exact hv
theorem FT.out (h:FT n c0 F T L H E i la s aM) {o:Int} (h1:1≤o) (hn:o≤n) (hv:o∉bE c0 F):qT c0 F la o:=by
 by_cases ho:o∈bZ c0 F L
 exact fun z=>absurd z (h.ahE h1 hn ho hv)
 exact h.kb o h1 hn ho
theorem FT.tick (h:FT n c0 F T L H E k la s aM) (hr:s[k]?=some r) :
  FT n c0 F T L H E (k+1) la (s.set k (tk r (fg k)).s) (aM++(tk r (fg k)).o.aG) ∨
  PT n c0 F T H (k+1) la (s.set k (tk r (fg k)).s) (aM++(tk r (fg k)).o.aG) ∨
  ∃ K la',LT n c0 (F++[fR F (T+1)]) (T+1) H K 1 (k+1) (fun _=>F.length+2) (fun _=>0) la' (s.set k (tk r (fg k)).s) (aM++(tk r (fg k)).o.aG):=by
 have hF:=h.eF
 have iP:=h.t2
 have o7:k<n:=by rw[←h.len];exact gI hr
 have hP:=h.pl k r hr
 have bV:=hF.len
 have xX:=hF.n7
 have Oz:=h.e0
 have GG:=h.dl
 have Pc:=h.gr
 have tq:=hF.mS (F.length+1) H (List.mem_append_left _ h.hv)
 have ll:∀ {q:aU} {i:Nat} {p:aU},i≠k→(s.set k q)[i]?=some p→s[i]?=some p:=fun hi hq=>by
  rcases fF hr hq with ⟨rfl,-⟩ | ⟨-,hq⟩
  exact absurd rfl hi
  exact hq
 by_cases qA:(k:Int)+1∈bE c0 F
 obtain⟨v1,v2,v3,v4⟩:=h.ly k r hr qA
 rw[if_neg (Nat.lt_irrefl _)] at v2
 have sj:=h.sj _ qA
 by_cases JK:(k:Int)+1=H∧E+1=5+5*H
 obtain⟨ig,hE⟩:=JK
 have hP':Pl c0 F T ((k:Int)+1) r (F.length+1):=v1▸hP
 have Vf:∀ {i:Nat} {p:aU},s[i]?=some p→i≠k→(i:Int)+1∈bE c0 F→(4≤p.bi)∧(k+1≤i→p.bi=E):=fun hp hi hv=>by
  obtain⟨-,w2,-⟩:=h.ly _ _ hp hv
  refine⟨by rw[w2];split<;>omega,fun Ej=>by rw[w2,if_neg (by omega)]⟩
 rcases abf (t:=fg k) hF iP hP' v4 qA (by rw[CX,v2];unfold fg;omega) (by omega) with ⟨w1,w2,w3,w4⟩ | ⟨w1,w2⟩
 right;left
 rw[ig] at w1 w2 w3 w4
 have rv:∀ {q:aU} {i:Nat} {p:aU},(s.set k q)[i]?=some p→(i:Int)+1=H→p=q:=fun hq hi=>by
  rcases fF hr hq with ⟨-,z⟩ | ⟨bH,-⟩
  exact z
  exact absurd (hi.trans ig.symm) (p_ bH)
 have bH:∀ {i:Nat},(i:Int)+1≠H→i≠k:=fun hi z=>hi (by rw[z];exact ig)
 refine⟨⟨by rw[List.length_set];exact h.len,hF,iP,h.fl,h.hv,w1,fun i q hq hi=>?_,fun i q hq hi=>h.pl i q (ll (bH hi) hq),by rw[←ig];exact v1,fun x hx=>?_,fun i q hq hv hi=>?_,fun i q hq hi v hv=>?_,fun x h1 h2 h3 h4=>h.kb x h1 h2 (XY h3 h4)⟩,by omega,fun i q hi hq hv=>?_,fun i q hi hq hv=>?_,?_⟩
 rw[rv hq hi,w3]
 obtain⟨v,hv,pn⟩:=w1
 exact⟨w2,fun z=>pn (Ag z v hv)⟩
 rcases List.mem_append.1 hx with hx | hx
 exact⟨(h.eP x hx).1,.kz ((h.eP x hx).2.RW h.hv)⟩
 rw[w4] at hx
 obtain⟨v,hv,pn,rfl⟩:=Yd hx
 exact⟨Ye hF hv pn h.hv (by omega),.eD rfl rfl hv rfl rfl rfl⟩
 have lE:=ll (bH hi) hq
 obtain⟨x1,-,x3,x4⟩:=h.ly i q lE hv
 exact⟨x1,x3,x4,.inr (Vf lE (bH hi) hv).1⟩
 rw[rv hq hi,w3,w4]
 by_cases pn:v=H
 subst pn;exact .inl (List.mem_singleton.2 rfl)
 exact .inr ⟨_,List.mem_append_right _ (XC hv pn),.inl ⟨rfl,rfl,rfl⟩⟩
 rw[(Vf (ll (by omega) hq) (by omega) hv).2 hi];unfold fg;omega
 have cq:i<n:=by rw[←h.len];exact gI (ll (by omega) hq)
 exact h.out (by omega) (by omega) hv
 rw[m5,w4]
 have h1:=RS hF (F.length+1)
 have h2:=List.length_filter_le (fun o=>decide (o≠H)) (bE c0 F)
 generalize (bE c0 F).filter (fun o=>decide (o≠H))=us at h2
 have h4:eQ (F.length+1) la (us.map (qM F H (T+1) (F.length+1) 1))=2*us.length:=by
  clear h2
  induction us with
  | nil=>rfl
  | cons u us ih=>rw[List.map_cons,jV,ih,uq (.inl rfl),List.length_cons];omega
 have h5:(bE c0 F).length≤5:=h1
 omega
 right;right
 obtain⟨K,w3,w4⟩:=w2 h.fl
 rw[ig] at w1 w3 w4
 have Py:bZ c0 (F++[fR F (T+1)]) H=bZ c0 F H:=by show oI (ef c0 _ _) H=_;rw[yF]
 have po:bE c0 (F++[fR F (T+1)])=bE c0 F:=by show (ef c0 _ _).av=_;rw[yF]
 rw[w4,Py]
 have BR:la H=F.length+1:=by rw[←ig];exact v1
 obtain⟨n1,n2,n3⟩:=XK (aM:=aM) h.len hF iP h.fl h.hv (fun i q hq _=>(h.pl i q hq).j6 (by omega)) BR (fun x hx=>⟨(h.eP x hx).1,.kz (((h.eP x hx).2.RW h.hv).j6 (by omega))⟩) (fun x h1 h2 h3 h4=>h.kb x h1 h2 (XY h3 h4)) hr ig w3
 refine⟨K,dC la H (F.length+2),⟨?_,Nat.le_refl _,fun i q hi hq hn=>?_,fun i q hi hq hn=> .inr (n2 _ (Py▸hn)),fun i q hi hq hv hn=>absurd (w1 _ (po▸hv)) hn,fun _ _ o ho=>n2 o (Py▸ho),fun z=>absurd (po▸h.hv) z,?_⟩⟩
 rw[if_pos (by omega)];exact n1.ZA (by omega)
 right
 have lE:=ll (i:=i) (by omega) hq
 have cq:i<n:=by rw[←h.len];exact gI lE
 have h5:=h.out (o:=(i:Int)+1) (by omega) (by omega) fun z=>hn (w1 _ z)
 have h6:dC la H (F.length+2) ((i:Int)+1)=la (i+1):=mB _ _ hn
 unfold qT at h5 ⊢
 rw[h6,AD (h.pl i q lE).le]
 intro hx
 obtain⟨a,c⟩:=h5 hx
 exact⟨a,fun v hv vm=>Nat.lt_of_lt_of_le (c v hv vm) (Iv (by rw[BR];omega) v)⟩
 rw[if_pos (by omega)]
 refine Nat.le_trans n3 ?_
 have h1:=KW (L:=H) hF tq
 have h2:=h.fl
 have h4:(bZ c0 F H).length*(2*(F.length+2)+2)≤4*30:=Nat.mul_le_mul h1 (by omega)
 unfold yy
 omega
 left
 rcases hP.tick hF (fg k) (fun _ ht=>by rw[CX,v2] at ht;unfold fg at ht;omega) with ⟨a1,a2,a3⟩ | ⟨a0,a1,-⟩
 rw[a2,List.append_nil]
 obtain⟨-,-,-,-,e5⟩:=FW hP.el
 refine⟨by rw[List.length_set];exact h.len,hF,iP,h.fl,fun i q hq=>?_,h.eP,h.lv,fun i q hq hv=>?_,h.kb,h.hv,h.sj,Oz,GG,h.mv,h.zW,?_,by omega⟩
 rcases fF hr hq with ⟨rfl,rfl⟩ | ⟨-,hq⟩
 exact a1
 exact h.pl i q hq
 rcases fF hr hq with ⟨rfl,rfl⟩ | ⟨bH,hq⟩
 rw[if_pos (by omega),a3]
 exact⟨v1,by show jX r.bi=_;rw[v2] at e5 ⊢;exact e5 (by omega),v3,v4⟩
 obtain⟨x1,x2,x3⟩:=h.ly i q hq hv
 refine⟨x1,?_,x3⟩
 rw[x2]
 by_cases qx:i<k
 rw[if_pos qx,if_pos (by omega)]
 rw[if_neg qx,if_neg (by omega)]
 have:=h.hi;omega
 rw[CX,v2] at a1;unfold fg at a1;omega
 left
 have cc:=h.out (o:=(k:Int)+1) (by omega) (by omega) qA
 have tI:∃ xs,Pl c0 F T (k+1) (tk r (fg k)).s (la (k+1))∧(tk r (fg k)).o.aG=xs∧(∀ x∈xs,kf n x∧lM c0 F T L la x∧x.ao=1)∧eQ (F.length+1) la xs≤10:=by
  rcases hP.tick hF (fg k) (fun hj _=>(cc hj).1) with ⟨a1,a2,a3⟩ | ⟨a0,a1,a2,a3,a4⟩
  exact⟨[],a1,a2,fun x hx=>(by cases hx),Nat.zero_le _⟩
  have ju:(k:Int)+1≠L:=fun z=>by
   have:=h.mv (by omega)
   rw[z,this] at a0;exact h.lv a0
  obtain⟨c1,c2⟩:=FK (L:=L) hF (j:=(k:Int)+1) (by omega) hP rfl qA ju cc a0
  exact⟨_,a2,a4,c1,c2⟩
 obtain⟨xs,a1,a2,a3,a4⟩:=tI
 rw[a2]
 refine⟨by rw[List.length_set];exact h.len,hF,iP,h.fl,fun i q hq=>?_,fun x hx=>?_,h.lv,fun i q hq hv=>?_,h.kb,h.hv,h.sj,Oz,GG,h.mv,h.zW,?_,by rw[m5];omega⟩
 rcases fF hr hq with ⟨rfl,rfl⟩ | ⟨-,hq⟩
 exact a1
 exact h.pl i q hq
 rcases List.mem_append.1 hx with hx | hx
 exact h.eP x hx
 exact⟨(a3 x hx).1,(a3 x hx).2.1⟩
 rcases fF hr hq with ⟨rfl,rfl⟩ | ⟨bH,hq⟩
 exact absurd hv qA
 obtain⟨x1,x2,x3⟩:=h.ly i q hq hv
 refine⟨x1,?_,x3⟩
 rw[x2]
 by_cases qx:i<k
 rw[if_pos qx,if_pos (by omega)]
 rw[if_neg qx,if_neg (by omega)]
 have:(k:Int)+1≠H:=fun z=>qA (z▸h.hv)
 have:=h.hi;omega
theorem PT.tick (h:PT n c0 F T H k la s aM) (hr:s[k]?=some r):PT n c0 F T H (k+1) la (s.set k (tk r (fg k)).s) (aM++(tk r (fg k)).o.aG):=by
 have hD:=h.pr
 have hF:=hD.eF
 have o7:k<n:=by rw[←hD.len];exact gI hr
 have zC:=h.hi
 have Pc:=h.gr
 have ig:(k:Int)+1≠H:=by omega
 have hP:=hD.pl k r hr ig
 have ll:∀ {q:aU} {i:Nat} {p:aU},i≠k→(s.set k q)[i]?=some p→s[i]?=some p:=fun hi hq=>by
  rcases fF hr hq with ⟨rfl,-⟩ | ⟨-,hq⟩
  exact absurd rfl hi
  exact hq
 have tI:∃ xs,Pl c0 F T (k+1) (tk r (fg k)).s (la (k+1))∧(tk r (fg k)).o.aG=xs∧(∀ x∈xs,kf n x∧lM c0 F T H la x∧x.ao=1)∧eQ (F.length+1) la xs≤10∧((k:Int)+1∈bE c0 F→(tk r (fg k)).s={ r with bi:=jX r.bi }):=by
  by_cases qA:(k:Int)+1∈bE c0 F
  have Ws:=h.tv k r (Nat.le_refl _) hr qA
  rcases hP.tick hF (fg k) (fun _ ht=>by rw[CX] at ht;omega) with ⟨a1,a2,a3⟩ | ⟨a0,a1,-⟩
  exact⟨[],a1,a2,fun x hx=>(by cases hx),Nat.zero_le _,fun _=>a3⟩
  rw[CX] at a1;omega
  have cc:=h.Zn k r (Nat.le_refl _) hr qA
  rcases hP.tick hF (fg k) (fun hj _=>(cc hj).1) with ⟨a1,a2,a3⟩ | ⟨a0,a1,a2,a3,a4⟩
  exact⟨[],a1,a2,fun x hx=>(by cases hx),Nat.zero_le _,fun _=>a3⟩
  obtain⟨c1,c2⟩:=FK (L:=H) hF (j:=(k:Int)+1) (by omega) hP rfl qA ig cc a0
  exact⟨_,a2,a4,c1,c2,fun z=>absurd z qA⟩
 obtain⟨xs,a1,a2,a3,a4,a5⟩:=tI
 rw[a2]
 refine⟨⟨by rw[List.length_set];exact hD.len,hF,hD.t2,hD.fl,hD.hv,hD.wZ,fun i q hq hi=>hD.jN i q (ll (by omega) hq) hi,fun i q hq hi=>?_,hD.vu,fun x hx=>?_,fun i q hq hv hi=>?_,fun i q hq hi v hv=>(hD.nJ i q (ll (by omega) hq) hi v hv).imp id qK,hD.kb⟩,by omega,fun i q hi hq=>h.tv i q (by omega) (ll (by omega) hq),fun i q hi hq=>h.Zn i q (by omega) (ll (by omega) hq),by rw[m5];omega⟩
 rcases fF hr hq with ⟨rfl,rfl⟩ | ⟨-,hq⟩
 exact a1
 exact hD.pl i q hq hi
 rcases List.mem_append.1 hx with hx | hx
 exact hD.eP x hx
 exact⟨(a3 x hx).1,.kz (a3 x hx).2.1⟩
 rcases fF hr hq with ⟨rfl,rfl⟩ | ⟨-,hq⟩
 obtain⟨v1,v2,v3,v4⟩:=hD.ly k r hr hv hi
 rw[a5 hv]
 refine⟨v1,v2,v3,v4.imp id fun z=>?_⟩
 show 4≤jX r.bi
 unfold jX;omega
 exact hD.ly i q hq hv hi
end
end Go.Lw.jj
namespace Go.Lw.jj
open dF
section
variable (n:Nat) (c0:aY) (B r:Nat)
inductive TP (i:Nat) (s:List aU) (aM:List az):Prop
 | lt (F:List aA) (T L:Int) (K b0:Nat) (nx mt la:Int→Nat):LT n c0 F T L K b0 i nx mt la s aM→F.length≤B→T≤B+2→(L∉bE c0 F→r=0∧F.length+1≤B∧T+1≤B+2)→TP i s aM
 | ft (F:List aA) (T L H:Int) (E:Int) (la:Int→Nat):FT n c0 F T L H E i la s aM→F.length+1≤B→T+1≤B+2→(r:Int)≤E+1→TP i s aM
 | pt (F:List aA) (T H:Int) (la:Int→Nat):PT n c0 F T H i la s aM→F.length+1≤B→T+1≤B+2→TP i s aM
inductive DP (P:Nat) (s:List aU) (aM:List az):Prop
 | ld (F:List aA) (T L:Int) (K b:Nat) (nx mt la:Int→Nat):LD n c0 F T L K b b nx mt la s aM→lr c0 F L K la aM≤P→F.length≤B→T≤B+2→(L∉bE c0 F→r=0∧F.length+1≤B∧T+1≤B+2)→DP P s aM
 | fr (F:List aA) (T L:Int) (E:Int) (la:Int→Nat):FR n c0 F T L E la s aM→eQ (F.length+1) la aM≤P→F.length+1≤B→T+1≤B+2→(r:Int)≤E→(E=0→1≤F.length)→(∀ v∈bE c0 F,E+1≤5+5*v)→DP P s aM
 | pr (F:List aA) (T H:Int) (la:Int→Nat):PR n c0 F T H la s aM→eQ (F.length+1) la aM+H_ c0 F H≤P→F.length+1≤B→T+1≤B+2→DP P s aM
 | ca (F:List aA) (T H:Int) (la:Int→Nat):CA n c0 F T H la s aM→eQ (F.length+1) la aM+yy c0 F H≤P→F.length+1≤B→T+1≤B+2→DP P s aM
def SL (s:List aU):Prop:=∃ F T L K b nx mt la,LD n c0 F T L K b b nx mt la s []∧F.length≤B∧T≤B+2
end
section
variable {n:Nat} {c0:aY} {F:List aA} {T L H:Int} {K b e:Nat} {nx mt la:Int→Nat} {s:List aU} {aM:List az} {m:az} {k i:Nat} {q:aU} {E:Int} {B r P:Nat}
theorem TP.tick (h:TP n c0 B r k s aM) (hq:s[k]?=some q):TP n c0 B r (k+1) (s.set k (tk q (fg k)).s) (aM++(tk q (fg k)).o.aG):=by
 cases h with
 | lt F T L K b0 nx mt la h h1 h2 h3=>exact .lt F T L K b0 nx mt la (h.tick hq) h1 h2 h3
 | pt F T H la h h1 h2=>exact .pt F T H la (h.tick hq) h1 h2
 | ft F T L H E la h h1 h2 h3 =>
  rcases h.tick hq with h4 | h4 | ⟨K,la',h4⟩
  exact .ft F T L H E la h4 h1 h2 h3
  exact .pt F T H la h4 h1 h2
  refine .lt _ _ H K 1 _ _ la' h4 (by simp;omega) h2 fun z=>absurd ?_ z
  show H∈(ef c0 _ _).av
  rw[yF];exact h.hv
theorem TP.len (h:TP n c0 B r i s aM):s.length=n∧n≤5:=by
 cases h with
 | lt F T L K b0 nx mt la h=>exact⟨h.ld.len,h.ld.eF.n7⟩
 | pt F T H la h=>exact⟨h.pr.len,h.pr.eF.n7⟩
 | ft F T L H E la h=>exact⟨h.len,h.eF.n7⟩
theorem TP.done (h:TP n c0 B r n s aM):DP n c0 B r 400 s aM:=by
 cases h with
 | lt F T L K b0 nx mt la h h1 h2 h3=>exact .ld F T L K _ nx mt la h.done.1 h.done.2 h1 h2 h3
 | pt F T H la h h1 h2 =>
  have hF:=h.pr.eF
  have hn:=hF.n7
  have hl:=h.gr
  have tq:=hF.mS (F.length+1) H (List.mem_append_left _ h.pr.hv)
  have h3:=KW (L:=H) hF tq
  have h4:(bE c0 F).length≤5:=RS hF (F.length+1)
  have h5:=h.pr.fl
  have h6:(bZ c0 F H).length*(2*(F.length+2)+2)≤4*30:=Nat.mul_le_mul h3 (by omega)
  refine .pr F T H la h.pr ?_ h1 h2
  unfold H_ yy
  omega
 | ft F T L H E la h h1 h2 h3 =>
  have hn:=h.eF.n7
  have tq:=h.eF.mS (F.length+1) H (List.mem_append_left _ h.hv)
  have hl:=h.gr
  have zC:=h.hi
  have Oz:=h.e0
  refine .fr F T L (E+1) la ⟨h.len,h.eF,h.pl,fun m hm=>⟨(h.eP m hm).1,.kz (h.eP m hm).2⟩,h.lv,fun k r hr hv=>?_,fun m hm h5=>?_,fun _ m hm=>?_,fun x a1 a2 a3 hx=>?_,?_,by omega,h.mv,h.zW⟩ (by omega) h1 h2 (by omega) (by omega) fun v hv=>?_
  obtain⟨v1,v2,v3⟩:=h.ly k r hr hv
  rw[if_pos (by rw[←h.len];exact gI hr)] at v2
  exact .inl ⟨v1,v2,v3⟩
  obtain⟨-,a⟩:=h.eP m hm
  cases a<;>omega
  obtain⟨-,a⟩:=h.eP m hm
  cases a<;>omega
  obtain⟨c1,c2⟩:=h.kb x a1 a2 a3 hx
  exact⟨c1,fun v hv vm=> .inl (c2 v hv vm)⟩
  intro z;have:=h.hv;rw[z] at this;cases this
  have:=h.sj v hv;omega
theorem DP.to (h:DP n c0 B r P s (m::aM)):1≤m.to∧m.to≤n∧s.length=n:=by
 cases h with
 | ld F T L K b nx mt la h=>have:=(h.eP m (List.mem_cons_self ..)).1;exact⟨this.t1,this.tn,h.len⟩
 | fr F T L E la h=>have:=(h.eP m (List.mem_cons_self ..)).1;exact⟨this.t1,this.tn,h.len⟩
 | pr F T H la h=>have:=(h.eP m (List.mem_cons_self ..)).1;exact⟨this.t1,this.tn,h.len⟩
 | ca F T H la h=>have:=(h.eP m (List.mem_cons_self ..)).1;exact⟨this.t1,this.tn,h.len⟩
theorem DP.xt (h:DP n c0 B r P s (m::aM)) (hk:(k:Int)+1=m.to) (hq:s[k]?=some q) (hB:B≤13):∃ P',P'<P∧DP n c0 B r P' (s.set k (mg q m).s) (aM++(mg q m).o.aG):=by
 cases h with
 | ld F T L K b nx mt la h h1 h2 h3 h4 =>
  rcases h.xt hk hq with ⟨K',nx',mt',la',h5,h6,h7⟩ | ⟨h5,h6,la',h7,h8⟩
  exact⟨_,Nat.lt_of_lt_of_le h7 h1,.ld F T L K' b nx' mt' la' h6 (Nat.le_refl _) h2 h3 h4⟩
  obtain⟨a1,a2,a3⟩:=h4 h6
  have NI:1≤K:=by
   obtain⟨i,p,hp,hi⟩:=h.node h.l1 h.ln
   exact (h.tN i p hp hi).k1
  exact⟨_,Nat.lt_of_lt_of_le h8 h1,.fr F T L 0 la' h7 (Nat.le_refl _) a2 a3 (by omega) (fun _=>by omega) fun v hv=>by have:=(h.eF.mS (F.length+1) v (List.mem_append_left _ hv)).1;omega⟩
 | fr F T L E la h h1 h2 h3 h4 h5 h6 =>
  obtain⟨la',h7,h8⟩:=h.xt hk hq h5
  exact⟨_,Nat.lt_of_lt_of_le h8 h1,.fr F T L E la' h7 (Nat.le_refl _) h2 h3 h4 h5 h6⟩
 | pr F T H la h h1 h2 h3 =>
  rcases h.xt hk hq with ⟨h4,h5⟩ | ⟨h4,h5⟩
  exact⟨eQ (F.length+1) la (aM++(mg q m).o.aG)+H_ c0 F H,by omega,.pr F T H la h4 (Nat.le_refl _) h2 h3⟩
  exact⟨_,Nat.lt_of_lt_of_le h5 h1,.ca F T H la h4 (Nat.le_refl _) h2 h3⟩
 | ca F T H la h h1 h2 h3 =>
  rcases h.xt hk hq with ⟨h4,h5⟩ | ⟨K,la',h4,h5⟩
  exact⟨eQ (F.length+1) la (aM++(mg q m).o.aG)+yy c0 F H,by omega,.ca F T H la h4 (Nat.le_refl _) h2 h3⟩
  refine⟨_,Nat.lt_of_lt_of_le h5 h1,.ld _ _ H K 0 _ _ la' h4 (Nat.le_refl _) (by simp;omega) h3 fun z=>absurd ?_ z⟩
  show H∈(ef c0 _ _).av
  rw[yF];exact h.hv
theorem DP.len (h:DP n c0 B r P s aM):aM.length≤P:=by
 cases h with
 | ld F T L K b nx mt la h h1=>have:=De (N:=F.length+1) (la:=la) (by omega) aM;unfold lr at h1;omega
 | fr F T L E la h h1=>have:=De (N:=F.length+1) (la:=la) (by omega) aM;omega
 | pr F T H la h h1=>have:=De (N:=F.length+1) (la:=la) (by omega) aM;omega
 | ca F T H la h h1=>have:=De (N:=F.length+1) (la:=la) (by omega) aM;omega
theorem E8 {p:az→Prop} (h:∃ x∈([]:List az),p x):False:=by
 obtain⟨x,hx,-⟩:=h;cases hx
theorem LD.au (h:LD n c0 F T L K b e nx mt la s []):K=F.length+1∧L∈bE c0 F∧∀ o∈bZ c0 F L,mt o=F.length+1∧la o=F.length+1∧nx o=F.length+2:=by
 obtain⟨k,r,hr,hk⟩:=h.node h.l1 h.ln
 have hl:=h.tN k r hr hk
 have nk:∀ o∈bZ c0 F L,mt o=F.length+1:=fun o ho=>(h.Ab o ho).resolve_right E8
 have hK:K=F.length+1:=hl.DA.resolve_right fun z=>z (abR (n:=⟨r,bz.zero⟩) hl.toLd0 h.eF h.sV nk)
 refine⟨hK,Classical.byContradiction fun z=>?_,fun o ho=>?_⟩
 have:=(h.yz z).1;omega
 have h1:=h.zY o ho
 have h2:=nk o ho
 have h3:=hl.tW o ho
 obtain⟨a1,a2⟩:=pB.1 ho
 have h4:=h.eF.mS (F.length+1) o (List.mem_append.2 a1)
 have h5:=h.Qw h4.1 h4.2
 omega
theorem LD.YW (h:LD n c0 F T L K b e nx mt la s []) {x:Int} (h1:1≤x) (h2:x≤n) (h3:x≠L) (h4:x∉bZ c0 F L):qT c0 F la x:=by
 obtain⟨-,-,ho⟩:=h.au
 intro hx
 obtain⟨a,c⟩:=h.kb x h1 h2 h3 h4 hx
 refine⟨a,fun v hv vm=>?_⟩
 rcases c v hv vm with z | ⟨-,z1,z2⟩
 exact z
 have:la v=F.length+1:=by
  rcases z2 with rfl | z2
  exact h.mv
  exact (ho v z2).2.1
 omega
theorem LD.start (h:LD n c0 F T L K b b nx mt la s []):LT n c0 F T L K b 0 nx mt la s []:=by
 obtain⟨hK,hL,ho⟩:=h.au
 have cz:=h.b1
 have bN:=h.l1
 have pW:∀ (k:Nat) (r:aU),s[k]?=some r→(k:Int)+1∈bZ c0 F L→r.bi≤b:=fun k r hr hk=>(h.hb k r hr hk).resolve_right E8
 refine⟨?_,cz,fun k r _ hr hk=>?_,fun k r _ hr hk=> .inl (pW k r hr hk),fun k r _ hr hv hk=>?_,fun z=>by omega,fun z=>absurd hL z,?_⟩
 rw[if_neg (by omega)];exact h.ZA (by omega)
 by_cases VW:(k:Int)+1∈bZ c0 F L
 left;have:=pW k r hr VW;omega
 have:=gI hr
 have bV:=h.len
 exact .inr (h.YW (by omega) (by omega) hk VW)
 have:=pW k r hr (pB.2 ⟨.inl hv,hk⟩);omega
 rw[if_neg (by omega)]
 unfold lr
 rw[if_neg (by omega)]
 exact Nat.zero_le _
theorem FR.start (h:FR n c0 F T L E la s []) (iP:T<100) (oy:F.length≤12) (hE:∀ v∈bE c0 F,E+1≤5+5*v):∃ H,FT n c0 F T L H E 0 la s []:=by
 have hs:=(yU (MA h.eF (l:=F.length+1) (by omega))).2.1
 obtain⟨H,hH,sj⟩:∃ H∈bE c0 F,∀ v∈bE c0 F,H≤v:=by
  have bH:=h.sV
  have zS:(bE c0 F).Pairwise (· < ·):=hs
  generalize bE c0 F=vs at bH zS
  cases vs with
  | nil=>exact absurd rfl bH
  | cons x t =>
   refine⟨x,List.mem_cons_self ..,fun v hv=>?_⟩
   rcases List.mem_cons.1 hv with rfl | hv
   exact Int.le_refl _
   have:=(List.pairwise_cons.1 zS).1 v hv;omega
 have tq:=h.eF.mS (F.length+1) H (List.mem_append_left _ hH)
 refine⟨H,h.len,h.eF,iP,oy,h.pl,fun m hm=>(by cases hm),h.lv,fun k r hr hv=>?_,fun x a1 a2 a3 hx=>?_,hH,sj,h.e0,hE H hH,h.mv,h.zW,.inl (by omega),Nat.zero_le _⟩
 rw[if_neg (Nat.not_lt_zero _)]
 rcases h.ly k r hr hv with z | ⟨z0,z⟩
 exact z
 rcases z with ⟨z1,z2,z3⟩ | ⟨-,z⟩
 exact⟨z1,by rw[z0];exact z2,z3⟩
 exact (E8 z).elim
 obtain⟨c1,c2⟩:=h.kb x a1 a2 a3 hx
 refine⟨c1,fun v hv vm=>(c2 v hv vm).resolve_right fun z=>h.lv z.1⟩
theorem SL.start (h:SL n c0 B s):TP n c0 B r 0 s []:=by
 obtain⟨F,T,L,K,b,nx,mt,la,h,h1,h2⟩:=h
 exact .lt F T L K b nx mt la h.start h1 h2 fun z=>absurd h.au.2.1 z
theorem DP.au (h:DP n c0 B r P s []) (hB:B≤13):TP n c0 B (r+1) 0 s []∧(30≤r→SL n c0 B s):=by
 cases h with
 | ld F T L K b nx mt la h h1 h2 h3 h4 =>
  have:SL n c0 B s:=⟨F,T,L,K,b,nx,mt,la,h,h2,h3⟩
  exact⟨this.start,fun _=>this⟩
 | fr F T L E la h h1 h2 h3 h4 h5 h6 =>
  obtain⟨H,h7⟩:=h.start (by omega) (by omega) h6
  refine⟨.ft F T L H E la h7 h2 h3 (by omega),fun z=>?_⟩
  have:=h6 H h7.hv
  have tq:=h.eF.mS (F.length+1) H (List.mem_append_left _ h7.hv)
  have:=h.eF.n7
  omega
 | pr F T H la h h1 =>
  exfalso
  have tq:=h.eF.mS (F.length+1) H (List.mem_append_left _ h.hv)
  have bV:=h.len
  have hr:s[H.toNat-1]?=some (s[H.toNat-1]'(by omega)):=List.getElem?_eq_getElem _
  have hk:((H.toNat-1:Nat):Int)+1=H:=by omega
  obtain⟨a1,a2⟩:=h.jN _ _ hr hk
  exact a2 (Jr (fun z=>by have:=h.hv;rw[z] at this;cases this) a1.dZ fun v hv=>(h.nJ _ _ hr hk v hv).resolve_right E8)
 | ca F T H la h h1 =>
  exfalso
  have tq:=h.eF.mS (F.length+1) H (List.mem_append_left _ h.hv)
  have bV:=h.len
  have hr:s[H.toNat-1]?=some (s[H.toNat-1]'(by omega)):=List.getElem?_eq_getElem _
  have hk:((H.toNat-1:Nat):Int)+1=H:=by omega
  obtain⟨a1,a2⟩:=h.jN _ _ hr hk
  exact a2 (Jr (fun z=>by have:=h.hv;rw[z] at this;cases this) a1.dZ fun v hv=>(h.nJ _ _ hr hk v hv).resolve_right E8)
theorem SL.gq (h:SL n c0 B s):∃ (l:Nat) (q:aU),s[l]?=some q∧q.aO=4∧q.eW=0∧q.af.aB=(bX q.ah).1∧∀ (k:Nat) (p:aU),s[k]?=some p→k≠l→p.aO≠4:=by
 obtain⟨F,T,L,K,b,nx,mt,la,h,h1,h2⟩:=h
 obtain⟨l,q,hq,hl⟩:=h.node h.l1 h.ln
 have hL:=h.tN l q hq hl
 refine⟨l,q,hq,hL.aO,hL.tr,?_,fun k p hp cv=>?_⟩
 rw[hL.b_,hL.ah,vw h.eF (Nat.le_refl _),h.au.1]
 have:=(h.pl k p hp (fun z=>cv (by omega))).aO
 omega
end
end Go.Lw.jj
