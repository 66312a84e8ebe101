/-
  Parts of the proof of the laws RaftcoreChangesUptoSaid: KgL, KgM, KhB, KfK, KfL, KfM, KdO, KhC.
-/
import Derived.Test.YtpjclnomaemokaaGreatRhA5
set_option maxRecDepth 100000
set_option maxHeartbeats 16000000
set_option linter.all false
namespace Go.Lw.jj
open dF
def iz (ao node:Int):ez:=⟨4,0,az.zero,[],ao,node,0⟩
theorem SY {c d:aY} {k x:Int} (h:gb c k x=(d,0)) :
  (∀ v,v∈d.av∨v∈d.aD→v∈c.av∨v∈c.aD∨v=x) ∧
  (∀ v∈d.av,v∈c.av∨v∈c.aD) ∧
  (∀ j∈c.av,j∉d.av→(∀ v∈d.av,v∈c.av)∧(∀ v∈d.aD,v∈c.aD)) ∧
  (∀ y,y∈c.av∨y∈c.aD→y∉d.av→y∉d.aD→∀ v∈c.av,v≠y→v∈d.av):=by
 unfold gb at h
 split at h
 rename_i h0;exact absurd (Prod.mk.inj h).2 h0
 split at h
 exact absurd (Prod.mk.inj h).2 (by decide)
 split at h
 split at h
 exact absurd (Prod.mk.inj h).2 (by decide)
 rename_i h1
 obtain⟨e,_⟩:=Prod.mk.inj h;subst e
 refine⟨fun v hv=>?_,fun v hv=> .inl hv,fun j hj hd=>absurd hj hd,fun y hy h2 h3 v hv _=>hv⟩
 rcases hv with hv | hv
 exact .inl hv
 rcases wF.1 hv with rfl | hv
 exact .inr (.inr rfl)
 exact .inr (.inl hv)
 split at h
 split at h
 rename_i h1
 obtain⟨e,_⟩:=Prod.mk.inj h;subst e
 refine⟨fun v hv=>?_,fun v hv=>?_,fun j hj hd=>absurd (wF.2 (.inr hj)) hd,fun y hy h2 h3 v hv _=>wF.2 (.inr hv)⟩
 rcases hv with hv | hv
 rcases wF.1 hv with rfl | hv
 exact .inr (.inl h1)
 exact .inl hv
 exact .inr (.inl (m8.1 hv).1)
 rcases wF.1 hv with rfl | hv
 exact .inr h1
 exact .inl hv
 exact absurd (Prod.mk.inj h).2 (by decide)
 split at h
 split at h
 exact absurd (Prod.mk.inj h).2 (by decide)
 split at h
 obtain⟨e,_⟩:=Prod.mk.inj h;subst e
 refine⟨fun v hv=>hv.imp (fun z=>(m8.1 z).1) fun z=> .inl (m8.1 z).1,fun v hv=> .inl (m8.1 hv).1,fun j hj hd=>⟨fun v hv=>(m8.1 hv).1,fun v hv=>(m8.1 hv).1⟩,fun y hy h2 h3 v hv Cr=>?_⟩
 have hyx:y=x:=Classical.byContradiction fun z=>hy.elim (fun w=>h2 (m8.2 ⟨w,z⟩)) fun w=>h3 (m8.2 ⟨w,z⟩)
 exact m8.2 ⟨hv,fun z=>Cr (z.trans hyx.symm)⟩
 split at h
 obtain⟨e,_⟩:=Prod.mk.inj h;subst e
 exact⟨fun v hv=>hv.imp id fun z=> .inl (m8.1 z).1,fun v hv=> .inl hv,fun j hj hd=>absurd hj hd,fun y hy h2 h3 v hv _=>hv⟩
 exact absurd (Prod.mk.inj h).2 (by decide)
 exact absurd (Prod.mk.inj h).2 (by decide)
section
variable {n:Nat} {c0:aY} {F:List aA} {T L:Int} {K b:Nat} {nx mt la:Int→Nat} {s:List aU} {l:Nat} {q:aU} {B:Nat}
abbrev gh (F:List aA) (T:Int) (d:aY):aA:=⟨((F.length+2:Nat):Int),T,3,[],d⟩
theorem ajV {d:aY} (hF:dg n c0 F T) (hl:F.length≤12) (hd:eg d=0) (hn:EK n d):dg n c0 (F++[gh F T d]) T :=
 hF.CV (Int.le_refl _) hF.t2 hl rfl rfl rfl fun _=>⟨hd,hn⟩
theorem Jf {d:aY}:ef c0 (F++[gh F T d]) ((F++[gh F T d]).length+1)=d:=by
 rw[Tu,if_pos rfl]
theorem abU {n':ai} (h:Ld0 c0 F T L n'.s K b nx mt) (hF:dg n c0 F T) (hz:n'.b_=((F.length+1:Nat):Int)):∃ v∈bE c0 F,v=L∨v∈bZ c0 F L∧mt v=F.length+1:=by
 have hl:n'.aZ=((F.length+1:Nat):Int):=HW hF h
 unfold ai.b_ at hz
 split at hz
 rename_i xM
 rcases xM.choose_spec with ⟨-,hs⟩ | ⟨-,hs,-⟩
 rw[hs] at hz;omega
 rw[hz] at hs
 obtain⟨v,hv,hm⟩:=List.mem_map.1 hs
 rw[sU,KB h] at hv
 refine⟨v,hv,?_⟩
 obtain⟨-,-,m3⟩:=QF (n'.s.aK++[⟨n'.s.id,0,n'.aZ⟩]) v
 rw[hm] at m3
 rcases m3 with m3 | ⟨p,hp,rp,he⟩
 omega
 rcases List.mem_append.1 hp with hp | hp
 rw[h.aK] at hp
 obtain⟨o,ho,rfl⟩:=List.mem_map.1 hp
 simp only at rp he
 subst rp
 exact .inr ⟨ho,by omega⟩
 rw[List.mem_singleton.1 hp] at rp
 left;rw[←rp];exact h.id
 omega
theorem ahV (n:ai) (x:Int):(n.cx x).s.aK=(oI (ce n.s.ah).1 n.s.id).map fun o=>ai.tY n.s.aK o x:=rfl
theorem Ya {d:aY} {kd x:Int} (hF:dg n c0 F T) (h:Ld c0 F T L q (F.length+1) b nx mt) (xU:L∈bE c0 F) (pi:∀ o∈bZ c0 F L,mt o=F.length+1∧nx o=F.length+2) (oy:F.length≤12) (ha:gb (ef c0 F (F.length+1)) kd x=(d,0)) (hx:1≤x∧x≤n) {o':bz} (sp:o'.aG=[]) :
  dg n c0 (F++[gh F T d]) T∧∃ K',(K'=F.length+1∨K'=F.length+2∧L∈d.av)∧Ld c0 (F++[gh F T d]) T L ((ai.mk q o').put ⟨0,0,3,[],d⟩).s K' b (fun _=>F.length+2) (fun o=>if o∈bZ c0 F L then F.length+1 else 0) ∧
   ((ai.mk q o').put ⟨0,0,3,[],d⟩).o.aG=(bZ c0 (F++[gh F T d]) L).map fun p=>ep c0 (F++[gh F T d]) T L K' p (F.length+2):=by
 have bV:=hF.len
 obtain⟨m1,m2,m3,m4⟩:=SY ha
 have hd:=(I7 ha).1
 have cq:EK n d:=fun v hv=>by
  rcases m1 v (List.mem_append.1 hv) with z | z | rfl
  exact hF.mS _ v (List.mem_append_left _ z)
  exact hF.mS _ v (List.mem_append_right _ z)
  exact hx
 have oW:=ajV (T:=T) hF oy hd cq
 refine⟨oW,?_⟩
 have qB:(bX q.ah).1=((F.length+1:Nat):Int):=by rw[h.ah,vw hF (Nat.le_refl _)]
 have iu:bF (bX q.ah).1=((F.length+2:Nat):Int):=by rw[qB,qg (by omega) (by omega)];omega
 have ri:(⟨q.ah.aF,q.ah.entries++[⟨bF (bX q.ah).1,q.af.ab,3,[],d⟩]⟩:br)=lg c0 (F++[gh F T d]) ((F++[gh F T d]).length+1):=by
  rw[iu,h.ab,h.ah];exact Xm _
 have vh:q.aK=(bZ c0 F L).map (lw nx mt):=h.aK
 have e0:(ai.mk q o').put ⟨0,0,3,[],d⟩=((ai.cx (ai.fE ⟨q,o'⟩ ⟨bF (bX q.ah).1,q.af.ab,3,[],d⟩) (bF (bX q.ah).1)).count).gD:=by
  unfold ai.put
  simp only[ai.aZ,if_true]
  rfl
 rw[e0]
 generalize bF (bX q.ah).1=X at iu ri
 subst iu
 obtain⟨m,hm,o_⟩:∃ m:ai,m=ai.cx (ai.fE ⟨q,o'⟩ ⟨((F.length+2:Nat):Int),q.af.ab,3,[],d⟩) ((F.length+2:Nat):Int)∧Ld0 c0 (F++[gh F T d]) T L m.s (F.length+1) b (fun _=>F.length+2) (fun o=>if o∈bZ c0 F L then F.length+1 else 0):=by
  refine⟨_,rfl,h.id,h.ab,h.aO,ri,h.b_,by omega,by simp,h.tr,h.fQ,h.part,?_,h.el,fun o _=>?_,fun k h1 h2 _=>?_,Y_ _⟩
  have p1:(ai.fE ⟨q,o'⟩ ⟨((F.length+2:Nat):Int),q.af.ab,3,[],d⟩).s.ah=lg c0 (F++[gh F T d]) ((F++[gh F T d]).length+1):=ri
  have p2:(ai.fE ⟨q,o'⟩ ⟨((F.length+2:Nat):Int),q.af.ab,3,[],d⟩).s.id=L:=h.id
  have p3:(ai.fE ⟨q,o'⟩ ⟨((F.length+2:Nat):Int),q.af.ab,3,[],d⟩).s.aK=(bZ c0 F L).map (lw nx mt):=vh
  rw[ahV,p1,p2,p3,qJ]
  refine List.map_congr_left fun o _=>?_
  unfold ai.tY
  by_cases xZ:o∈bZ c0 F L
  rw[Xu (fun _=>rfl) xZ]
  obtain⟨r1,r2⟩:=pi o xZ
  simp only[Option.getD_some,lw,r1,r2,if_pos xZ]
  rw[ahP (fun _=>rfl) xZ]
  simp only[Option.getD_none,lw,if_neg xZ]
  rfl
  simp only[List.length_append,List.length_singleton]
  split<;>omega
  simp only[List.length_append,List.length_singleton] at h2 ⊢;omega
 have jL:m.o.aG=[]:=by rw[hm];exact sp
 have vl:bE c0 (F++[gh F T d])=d.av:=by show (ef c0 _ _).av=_;rw[Jf]
 have ox:L∈bE c0 (F++[gh F T d])∨m.b_≠(((F++[gh F T d]).length+1:Nat):Int):=by
  by_cases nO:L∈d.av
  exact .inl (vl▸nO)
  right
  intro hz
  obtain⟨v,hv,rx⟩:=abU o_ oW hz
  rcases rx with rfl | ⟨-,rx⟩
  exact nO (vl▸hv)
  simp only[List.length_append,List.length_singleton] at rx
  split at rx<;>omega
 obtain⟨K',k1,k2,k3⟩:=TU oW o_ ox
 rw[←hm]
 refine⟨K',?_,k2,by rw[k3,jL];rfl⟩
 rcases k1 with k1 | ⟨k1,k4⟩
 exact .inl k1
 exact .inr ⟨by rw[k1];simp,vl▸k4⟩
theorem LD.gG {d:aY} {kd x:Int} (h:LD n c0 F T L K b b nx mt la s []) (hq:s[l]?=some q) (hl:(l:Int)+1=L) (oy:F.length≤11) (ha:gb (ef c0 F (F.length+1)) kd x=(d,0)) (hx:1≤x∧x≤n) {o':bz} (sp:o'.aG=[]) :
  ∃ K' nx' mt' la',LT n c0 (F++[gh F T d]) T L K' b 0 nx' mt' la' (s.set l ((ai.mk q o').put ⟨0,0,3,[],d⟩).s) ((ai.mk q o').put ⟨0,0,3,[],d⟩).o.aG:=by
 have hF:=h.eF
 have bV:=hF.len
 obtain⟨hK,Bs,pi⟩:=h.au
 subst hK
 have nO:=h.tN l q hq hl
 obtain⟨oW,K',k1,k2,k3⟩:=Ya hF nO Bs (fun o ho=>⟨(pi o ho).1,(pi o ho).2.2⟩) (by omega) ha hx sp
 obtain⟨m1,m2,m3,m4⟩:=SY ha
 have tu:=yU (MA hF (l:=F.length+1) (by omega))
 have JV:=yU (I7 ha).1
 have rc:(F++[gh F T d]).length=F.length+1:=by simp
 have vl:bE c0 (F++[gh F T d])=d.av:=by show (ef c0 _ _).av=_;rw[Jf]
 have Hs:∀ {o:Int},o∈bZ c0 (F++[gh F T d]) L↔(o∈d.av∨o∈d.aD)∧o≠L:=fun {o}=>by
  have:=pB (c0:=c0) (F:=F++[gh F T d]) (j:=L) (o:=o)
  rw[vl,Jf] at this;exact this
 have cz:=h.b1
 have bN:=h.l1
 have rv:∀ {p:aU} {i:Nat} {r:aU},(s.set l r)[i]?=some p→(i:Int)+1=L→p=r:=fun hp hi=>by
  rcases fF hq hp with ⟨-,z⟩ | ⟨bH,-⟩
  exact z
  exact absurd (hi.trans hl.symm) (p_ bH)
 have jg:∀ {p:aU} {i:Nat} {r:aU},(s.set l r)[i]?=some p→(i:Int)+1≠L→s[i]?=some p:=fun hp hi=>by
  rcases fF hq hp with ⟨rfl,-⟩ | ⟨-,hp⟩
  exact absurd hl hi
  exact hp
 have iu:∀ o,la o≤dC la L (F.length+2) o:=Iv (by rw[h.mv];omega)
 have HJ:∀ {o:Int},o≠L→dC la L (F.length+2) o=la o:=fun ho=>mB _ _ ho
 have BF:∀ o∈bZ c0 (F++[gh F T d]) L,kf n (ep c0 (F++[gh F T d]) T L K' o (F.length+2))∧LM c0 (F++[gh F T d]) T L (dC la L (F.length+2)) (ep c0 (F++[gh F T d]) T L K' o (F.length+2))∧NX (fun _=>F.length+2) (dC la L (F.length+2)) (ep c0 (F++[gh F T d]) T L K' o (F.length+2)):=fun o ho=>by
  obtain⟨f1,f2,f3⟩:=DF (la:=dC la L (F.length+2)) (F:=F++[gh F T d]) (T:=T) (L:=L) oW ⟨h.l1,h.ln⟩ ho (x:=F.length+2) (K:=K') (by omega) k2.kN
  exact⟨f1,f2,f3 _ rfl⟩
 rw[k3]
 have Cu:∀ o∈bZ c0 (F++[gh F T d]) L,∃ y∈(bZ c0 (F++[gh F T d]) L).map (fun p=>ep c0 (F++[gh F T d]) T L K' p (F.length+2)),(y.ao=5∨y.ao=7)∧y.to=o:=fun o ho =>
  ⟨_,List.mem_map.2 ⟨o,ho,rfl⟩,(xu (c0:=c0) (F:=F++[gh F T d]) (T:=T) (L:=L) (K:=K') o _).imp (fun z=>z.1) (fun z=>z.1),xv _ _⟩
 have pW:∀ (i:Nat) (p:aU),s[i]?=some p→(i:Int)+1∈bZ c0 F L→p.bi≤b:=fun i p hp hi=>(h.hb i p hp hi).resolve_right E8
 have cc:∀ y:Int,1≤y→y≤n→y≠L→y∉bZ c0 F L→qT c0 (F++[gh F T d]) (dC la L (F.length+2)) y:=fun y y1 y2 y3 y4=>by
  have h5:=h.YW y1 y2 y3 y4
  unfold qT at h5 ⊢
  rw[HJ y3,AD (h.Qw y1 y2)]
  intro hy
  obtain⟨a,c⟩:=h5 hy
  exact⟨a,fun v hv Cr=>Nat.lt_of_lt_of_le (c v hv Cr) (iu v)⟩
 have ae4:L∉d.av→∀ o,o∈d.av→o∈bZ c0 F L:=fun z o ho=>pB.2 ⟨.inl ((m3 L Bs z).1 o ho),fun w=>z (w▸ho)⟩
 have PL:L∉d.av→∀ (i:Nat) (p:aU),s[i]?=some p→(i:Int)+1∈d.av→p.af.aB≤((F++[gh F T d]).length:Nat)∧∃ y∈(bZ c0 (F++[gh F T d]) L).map (fun p=>ep c0 (F++[gh F T d]) T L K' p (F.length+2)),y.ao=5∧y.to=i+1∧y.index=((F++[gh F T d]).length:Nat)∧(F++[gh F T d]).length≤dC la L (F.length+2) (i+1):=fun z i p hp hi=>by
  have ho:=ae4 z _ hi
  have lW:(i:Int)+1≠L:=(pB.1 ho).2
  have hP:=h.pl i p hp lW
  have h6:=hP.b_
  obtain⟨-,r2,-⟩:=pi _ ho
  rw[rc]
  refine⟨by omega,_,List.mem_map.2 ⟨(i:Int)+1,Hs.2 ⟨.inl hi,lW⟩,rfl⟩,?_,xv _ _,?_,by rw[HJ lW];omega⟩
  rcases xu (c0:=c0) (F:=F++[gh F T d]) (T:=T) (L:=L) (K:=K') ((i:Int)+1) (F.length+2) with z | z
  exact z.1
  omega
  rw[MR _ _ (by omega)];rfl
 refine⟨K',fun _=>F.length+2,fun o=>if o∈bZ c0 F L then F.length+1 else 0,dC la L (F.length+2),?_,cz,fun i p _ hp hi=>?_,fun i p _ hp hi=> .inr (Cu _ hi),fun i p _ hp hv hi=>?_,fun z=>by omega,fun z i p hp hv=>?_,?_⟩
 rw[if_neg (by omega)]
 refine⟨by rw[List.length_set];exact h.len,oW,h.l1,h.ln,cz,fun i p hp hi=>?_,fun i p hp hi=>?_,by rw[jh,rc],fun o ho=>?_,fun y hy=>?_,fun o ho=>?_,fun i p hp hi=> .inr (Cu _ hi),fun y y1 y2 y3 y4=>?_,fun z=>?_,fun z=>?_⟩
 rw[rv hp hi];exact k2
 rw[HJ hi];exact (h.pl i p (jg hp hi) hi).more _
 show (if o∈bZ c0 F L then F.length+1 else 0)≤_
 split
 rename_i xZ
 have:=(pi o xZ).2.1
 have:=iu o;omega
 exact Nat.zero_le _
 obtain⟨o,ho,rfl⟩:=List.mem_map.1 hy
 exact BF o ho
 obtain⟨y,hy,h1⟩:=Cu o ho
 exact .inr ⟨y,hy,.inl h1⟩
 by_cases Qr:y∈bZ c0 F L
 have hly:=(pi y Qr).2.1
 obtain⟨a1,-⟩:=pB.1 Qr
 have Cx:y∉d.av∧y∉d.aD:=⟨fun z=>y4 (Hs.2 ⟨.inl z,y3⟩),fun z=>y4 (Hs.2 ⟨.inr z,y3⟩)⟩
 unfold yQ
 rw[HJ y3,hly,AD (Nat.le_refl _)]
 intro hy
 refine⟨⟨L,Bs,fun z=>y3 z.symm⟩,fun v hv Cr=> .inr ⟨?_,by rw[rc];exact Nat.le_refl _,?_⟩⟩
 rw[vl];exact m4 y a1 Cx.1 Cx.2 L Bs fun z=>y3 z.symm
 by_cases Wu:v=L
 exact .inl Wu
 exact .inr (Hs.2 ⟨.inl (m4 y a1 Cx.1 Cx.2 v hv Cr),Wu⟩)
 obtain⟨a,c⟩:=id (cc y y1 y2 y3 Qr) |> fun z=>(⟨fun w=>(z w).1,fun w=>(z w).2⟩:(_→_)∧(_→_))
 exact fun w=>⟨a w,fun v hv Cr=> .inl (c w v hv Cr)⟩
 rw[vl] at z
 have hK':K'=F.length+1:=k1.resolve_right fun w=>z w.2
 rw[vl,rc]
 refine⟨by omega,fun y hy hy5=>?_,fun i p hp hi=>?_,fun o ho Ht=>?_⟩
 obtain⟨o,ho,rfl⟩:=List.mem_map.1 hy
 rw[Jm _ _ hy5];omega
 have lW:(i:Int)+1≠L:=fun w=>z (w▸hi)
 exact .inr (PL z i p (jg hp lW) hi)
 obtain⟨a1,a2⟩:=Hs.1 ho
 have Px:=a1.resolve_left Ht
 have Wa:=(m3 L Bs z).2 o Px
 have xZ:o∈bZ c0 F L:=pB.2 ⟨.inr Wa,a2⟩
 refine⟨by rw[HJ a2,(pi o xZ).2.1];exact Nat.le_refl _,?_⟩
 rw[AD (Nat.le_refl _)]
 exact fun w=>tu.2.2.2.1 o w Wa
 rw[vl] at z;exact JV.2.2.2.2 z
 have hp:=jg hp hi
 by_cases VO:(i:Int)+1∈bZ c0 F L
 left;have:=pW i p hp VO;omega
 have:=gI hp
 have wx:=h.len
 exact .inr (cc _ (by omega) (by omega) hi VO)
 have hp:=jg hp hi
 rw[vl] at hv
 have:=pW i p hp (pB.2 ⟨m2 _ hv,hi⟩);omega
 rw[vl] at z hv
 have lW:(i:Int)+1≠L:=fun w=>z (w▸hv)
 exact PL z i p (jg hp lW) hv
 rw[if_neg (by omega)]
 unfold lr
 rw[rc]
 have h1:=LP (N:=F.length+1+1) (la:=dC la L (F.length+2)) ((bZ c0 (F++[gh F T d]) L).map fun p=>ep c0 (F++[gh F T d]) T L K' p (F.length+2))
 rw[List.length_map] at h1
 have h2:=KW (L:=L) oW ⟨h.l1,h.ln⟩
 have h4:(bZ c0 (F++[gh F T d]) L).length*(2*(F.length+1+1)+2)≤4*30:=Nat.mul_le_mul h2 (by omega)
 split<;>omega
theorem SL.change (h:SL n c0 B s) (hq:s[l]?=some q) (jN:q.aO=4) (hB:B≤11) {kd x:Int} (hx:1≤x∧x≤n) {a:aY × Int} (ha:gb (ce q.ah).1 kd x=a) :
  (a.2≠0→(bI q (iz kd x)).2.2=a.2) ∧
  (a.2=0→(bI q (iz kd x)).2.2=103∨(bI q (iz kd x)).2.2=0∧(ce (bI q (iz kd x)).1.ah).1=a.1∧TP n c0 (B+2) 0 0 (s.set l (bI q (iz kd x)).1) (bI q (iz kd x)).2.1.aG):=by
 obtain⟨F,T,L,K,b,nx,mt,la,h,h1,h2⟩:=h
 have hl:(l:Int)+1=L:=Classical.byContradiction fun z=>by
  have:=(h.pl l q hq z).aO;omega
 have hF:=h.eF
 have bV:=hF.len
 obtain⟨hK,Bs,pi⟩:=h.au
 have nO:=h.tN l q hq hl
 subst hK
 rw[nO.ah,qJ] at ha
 have cD:∃ e:Int,((ai.mk q bz.zero).gG kd x).2=e∧(a.2≠0→e=a.2)∧(a.2=0→e=103∨e=0∧((ai.mk q bz.zero).gG kd x).1=a.1):=by
  refine⟨_,rfl,?_⟩
  unfold ai.gG
  have e1:¬ q.af.aB<(ce q.ah).2:=by rw[nO.b_,nO.ah];have:=Xi (c0:=c0) hF (F.length+1);omega
  have e2:¬ (cE q.ah q.af.aB).1≠q.af.ab:=by
   rw[nO.b_,nO.ah,HX hF (by omega) (Nat.le_refl _) (Nat.le_refl _),nO.ug,nO.ab];exact fun z=>z rfl
  have e3:(ce q.ah).1=ef c0 F (F.length+1):=by rw[nO.ah,qJ]
  rw[if_neg e1,if_neg e2,e3,ha]
  split
  rename_i hc
  exact⟨fun z=>absurd hc.1 z,fun _=> .inl rfl⟩
  exact⟨fun _=>rfl,fun z=> .inr ⟨z,rfl⟩⟩
 obtain⟨e,he,he1,zr⟩:=cD
 have cc:bI q (iz kd x)=if e≠0 then (q,bz.zero,e) else ((ai.mk q { bz.zero with index:=bF (ai.mk q bz.zero).aZ,ab:=q.af.ab }).put ⟨0,0,3,[],((ai.mk q bz.zero).gG kd x).1⟩ |> fun z=>(z.s,{ z.o with Ae:=decide (z.s.af≠q.af) },0)):=by
  have e1:bI q (iz kd x)=if ((ai.mk q bz.zero).gd (iz kd x)).2≠0 then (q,bz.zero,((ai.mk q bz.zero).gd (iz kd x)).2) else (((ai.mk q bz.zero).gd (iz kd x)).1.s,{ ((ai.mk q bz.zero).gd (iz kd x)).1.o with Ae:=decide (((ai.mk q bz.zero).gd (iz kd x)).1.s.af≠q.af) },0):=rfl
  have e2:(ai.mk q bz.zero).gd (iz kd x)=if e≠0 then (⟨q,bz.zero⟩,e) else ((ai.mk q { bz.zero with index:=bF (ai.mk q bz.zero).aZ,ab:=q.af.ab }).put ⟨0,0,3,[],((ai.mk q bz.zero).gG kd x).1⟩,0):=by
   unfold ai.gd
   rw[if_neg (by show ¬ q.aO≠4;rw[nO.aO];decide),if_neg (by show ¬ q.eW≠0;rw[nO.tr];decide),if_neg (by show ¬ (4:Int)=5;decide)]
   simp only
   rw[if_pos (show (iz kd x).ao=4 from rfl)]
   show (if ((ai.mk q bz.zero).gG kd x).2≠0 then (ai.mk q bz.zero,((ai.mk q bz.zero).gG kd x).2) else _)=_
   rw[he]
   rfl
  rw[e1,e2]
  by_cases hz:e≠0
  rw[if_pos hz,if_pos hz,if_pos hz]
  rw[if_neg hz,if_neg hz,if_neg (by simp)]
 refine⟨fun hz=>?_,fun hz=>?_⟩
 have:=he1 hz
 rw[cc,if_pos (by omega)];exact this
 rcases zr hz with h3 | ⟨h3,h4⟩
 left;rw[cc,if_pos (by omega)];exact h3
 right
 have gy:gb (ef c0 F (F.length+1)) kd x=(a.1,0):=by rw[ha,← hz]
 rw[cc,if_neg (by omega),h4]
 have sp:({ bz.zero with index:=bF (ai.mk q bz.zero).aZ,ab:=q.af.ab }:bz).aG=[]:=rfl
 obtain⟨K',nx',mt',la',c1⟩:=h.gG hq hl (by omega) gy hx sp
 obtain⟨-,K2,-,c2,-⟩:=Ya hF nO Bs (fun o ho=>⟨(pi o ho).1,(pi o ho).2.2⟩) (by omega) gy hx sp
 refine⟨rfl,?_,.lt _ T L K' b nx' mt' la' c1 (by simp;omega) (by omega) fun _=>⟨rfl,by simp;omega,by omega⟩⟩
 show (ce ((ai.mk q _).put ⟨0,0,3,[],a.1⟩).s.ah).1=a.1
 rw[c2.ah,qJ,Jf]
end
theorem abj {n m:Nat} {c0:aY} {s:List aU} (bV:s.length=n) (hn:n≤5) (h0:eg c0=0) (cq:EK n c0) (uZ:c0.aD=[]) (hv:∀ v:Int,v∈c0.av↔1≤v∧v≤m)
  (hs:∀ (k:Nat) (r:aU),s[k]?=some r→r=if (k:Int)+1≤m then jQ (k+1) (kj c0) else jQ (k+1) kY) (hm:1≤m):TP n c0 1 0 0 s []:=by
 have hF:dg n c0 [] 1:=⟨rfl,fun e he=>(by cases he),fun e he=>(by cases he),Int.le_refl _,by omega,by simp,h0,hn,fun k=>by
  cases k with
  | zero=>intro v hv;cases hv
  | succ k=>show EK n (ik c0 (([]:List aA).take k));rw[List.take_nil];exact cq⟩
 have hc:ef c0 [] (([]:List aA).length+1)=c0:=rfl
 have po:bE c0 []=c0.av:=rfl
 have hb:∀ (k:Nat) (r:aU),s[k]?=some r→(k:Int)+1≤m→r=⟨k+1,⟨1,0,1⟩,⟨⟨1,1,c0,[]⟩,[]⟩,1,0,[],[],0,0,0,⟨0,0,[]⟩⟩:=fun k r hr hk=>by
  have:=hs k r hr;rw[if_pos hk] at this;rw[this];rfl
 have hz:∀ (k:Nat) (r:aU),s[k]?=some r→¬ (k:Int)+1≤m→r=⟨k+1,⟨0,0,0⟩,⟨⟨0,0,⟨[],[]⟩,[]⟩,[]⟩,1,0,[],[],0,0,0,⟨0,0,[]⟩⟩:=fun k r hr hk=>by
  have:=hs k r hr;rw[if_neg hk] at this;rw[this];rfl
 refine .ft [] 1 0 1 0 (fun o=>if o≤m then 1 else 0) ⟨bV,hF,by omega,by simp,fun k r hr=>?_,fun x hx=>(by cases hx),?_,fun k r hr hk=>?_,fun x x1 x2 x3=>?_,?_,fun v pm=>?_,Int.le_refl _,by omega,fun z=>by omega,fun o ho Ht=>?_,.inl (by omega),Nat.zero_le _⟩ (by simp) (by omega) (by omega)
 by_cases hk:(k:Int)+1≤m
 rw[hb k r hr hk]
 simp only[if_pos hk]
 exact⟨rfl,by simp,by simp,by simp,rfl,by simp,.inr (by simp),rfl,.inl rfl,fun z=>absurd z (by show ¬ (1:Int)=2;decide),by simp⟩
 rw[hz k r hr hk]
 simp only[if_neg hk]
 exact⟨rfl,by simp,by simp,by simp,rfl,by simp,.inl (by simp),rfl,.inl rfl,fun z=>absurd z (by show ¬ (1:Int)=2;decide),by simp⟩
 rw[po,hv];omega
 rw[po,hv] at hk
 rw[hb k r hr hk.2]
 simp[hk.2]
 intro z
 exfalso
 simp only at z
 by_cases hx:x≤m
 exact x3 (pB.2 ⟨.inl (by rw[po,hv];omega),by omega⟩)
 rw[if_neg hx] at z;cases z
 rw[po,hv];omega
 rw[po,hv] at pm;exact pm.1
 obtain⟨a,-⟩:=pB.1 ho
 rw[hc,uZ] at a
 exact absurd (a.resolve_right fun z=>by cases z) Ht
end Go.Lw.jj
namespace Go.Lw.jj
open dF
section
variable {n:Nat} {c0:aY} {s:List aU} {aM:List az} {i k:Nat} {q:aU} {B r P:Nat}
theorem wG {F:List aA} {l:Nat} (h:F.length≤13):(lg c0 F l).entries.length≤13:=by
 cases l with
 | zero=>exact Nat.zero_le _
 | succ k=>show (F.take k).length≤13;rw[List.length_take];omega
theorem TP.room (h:TP n c0 B r i s aM) (hi:i≤n):aM.length≤400:=by
 cases h with
 | lt F T L K b0 nx mt la h =>
  have h1:=h.gr
  have h2:=De (N:=F.length+1) (la:=la) (by omega) aM
  have hn:=h.ld.eF.n7
  have h3:lr c0 F L K la aM≤350+10*i:=by split at h1<;>omega
  unfold lr at h3;omega
 | ft F T L H E la h =>
  have h1:=h.gr
  have hn:=h.eF.n7
  have h2:=De (N:=F.length+1) (la:=la) (by omega) aM;omega
 | pt F T H la h =>
  have h1:=h.gr
  have hn:=h.pr.eF.n7
  have h2:=De (N:=F.length+1) (la:=la) (by omega) aM;omega
theorem LD.bL {F:List aA} {T L:Int} {K b e:Nat} {nx mt la:Int→Nat} (h:LD n c0 F T L K b e nx mt la s aM) (hq:s[k]?=some q):q.ah.entries.length≤13:=by
 by_cases hk:(k:Int)+1=L
 rw[(h.tN k q hq hk).ah];exact wG h.eF.len
 rw[(h.pl k q hq hk).ah];exact wG h.eF.len
theorem TP.bL (h:TP n c0 B r i s aM) (hq:s[k]?=some q):q.ah.entries.length≤13:=by
 cases h with
 | lt F T L K b0 nx mt la h=>exact h.ld.bL hq
 | ft F T L H E la h=>rw[(h.pl k q hq).ah];exact wG h.eF.len
 | pt F T H la h =>
  by_cases hk:(k:Int)+1=H
  rw[(h.pr.jN k q hq hk).1.ah];exact wG h.pr.eF.len
  rw[(h.pr.pl k q hq hk).ah];exact wG h.pr.eF.len
theorem DP.bL (h:DP n c0 B r P s aM) (hq:s[k]?=some q):q.ah.entries.length≤13:=by
 cases h with
 | ld F T L K b nx mt la h=>exact h.bL hq
 | fr F T L E la h=>rw[(h.pl k q hq).ah];exact wG h.eF.len
 | pr F T H la h =>
  by_cases hk:(k:Int)+1=H
  rw[(h.jN k q hq hk).1.ah];exact wG h.eF.len
  rw[(h.pl k q hq hk).ah];exact wG h.eF.len
 | ca F T H la h =>
  by_cases hk:(k:Int)+1=H
  rw[(h.jN k q hq hk).1.ah];exact wG h.eF.len
  rw[(h.pl k q hq hk).ah];exact wG h.eF.len
theorem DP.kA (h:DP n c0 B r P s aM):0<n:=by
 have hp:∀ {F:List aA} {T:Int},dg n c0 F T→bE c0 F≠[]→0<n:=fun {F T} hF hv=>by
  obtain⟨v,hv⟩:=List.exists_mem_of_ne_nil _ hv
  have:=hF.mS _ v (List.mem_append_left _ hv);omega
 cases h with
 | ld F T L K b nx mt la h=>exact hp h.eF h.sV
 | fr F T L E la h=>exact hp h.eF h.sV
 | pr F T H la h=>exact hp h.eF fun z=>by have:=h.hv;rw[z] at this;cases this
 | ca F T H la h=>exact hp h.eF fun z=>by have:=h.hv;rw[z] at this;cases this
end
end Go.Lw.jj
namespace Go.Lw
open Go.Proofs
open dF (Wd gP dG G np)
open jj (TP DP SL fg sR sE)
attribute [local irreducible] RL RA
def qP (n:Nat) (c0:aY) (c:Nat) (W:Wd):Prop:=∃ g,gP n c0 g c W∧W.told.length≤13*c∧W.ab.length≤c
theorem qP.len {n:Nat} {c0:aY} {c:Nat} {W:Wd} (h:qP n c0 c W):W.s.length=n:=by obtain⟨g,h,-⟩:=h;exact h.len
theorem qP.mono {n:Nat} {c0:aY} {c d:Nat} {W:Wd} (h:qP n c0 c W) (hd:c≤d):qP n c0 d W:=by
 obtain⟨g,h1,h2,h3⟩:=h
 exact⟨g,h1.mono hd,by omega,by omega⟩
theorem qP.Yh {n:Nat} {c0:aY} {c:Nat} {W:Wd} {x:ez} (h:qP n c0 c W) (hx:x.ao≠2):∃ g,gP n c0 g c W∧W.told.length≤13*c∧W.ab.length≤c∧(x.ao=2→dG c0 g x.cr∧(np x.cr→x.cr.ab≤1+c)):=by
 obtain⟨g,h1,h2,h3⟩:=h
 exact⟨g,h1,h2,h3,fun z=>absurd z hx⟩
def aak (n:Nat) (c0:aY) (c:Nat) (w0:World) (s:aj) (os:List aj) (p:Nat) (W:Wd) (i:Nat) (r:aU) (x:ez):Ending→World→Prop:=fun e w' =>
 ∃ W',qP n c0 (c+1) W'∧W'.s=W.s.set i (bI r x).1∧W'.aM=W.aM++(bI r x).2.1.aG∧yR w0 s os p (.bool true) W' e w'
def aaS (n B:Nat) (c0:aY) (c:Nat) (w0:World) (s:aj) (os:List aj) (p:Nat):Ending→World→Prop:=fun e w' =>
 ∃ (W':Wd) (l:Nat) (q:aU),qP n c0 (c+25000) W'∧W'.aM=[]∧SL n c0 B W'.s∧W'.s[l]?=some q∧q.aO=4∧yR w0 s os p (i64 (l:Int)) W' e w'
section
variable {w:World} {s:aj} {os:List aj}
theorem M6 {n c:Nat} {c0:aY} {P:WP} {p:Nat} {W:Wd} {a:WA} {i:Nat} {r:aU} {x:ez} {y:cG} {da:Option Addr} {dc:Nat} (hg:ak w s (P.os++os)) (hw:f_ s P p W a) (hW:∃ g,gP n c0 g c W∧W.told.length≤13*c∧W.ab.length≤c∧(x.ao=2→dG c0 g x.cr∧(np x.cr→x.cr.ab≤1+c))) (hi:W.s[i]?=some r) (hd:x.data.length≤100) (lk:vQ 200 x) (cq:ux s x y da dc) (hc:c≤1000000) (he:(bI r x).2.2=0) (iF:W.aM.length+(bI r x).2.1.aG.length≤400) (tG:(bI r x).1.ah.entries.length≤13) :
  Calls Tryz.prog 25 #[ptr p,i64 i,.agg (sw x y da dc).toArray,.bool false] w (aak n c0 c w s os p W i r x):=by
 obtain⟨g,h1,h2,h3,hx⟩:=hW
 refine (acR hg hw h1 hi hx hd lk cq hc ⟨by omega,by omega⟩ he iF).mono ?_
 rintro e w' ⟨W',g',a1,a2,a3,a4,a5,a6⟩
 exact⟨W',⟨g',a1,by omega,by omega⟩,a2,a3,a6⟩
theorem YH {n c B:Nat} {c0:aY} {P:WP} {p:Nat} {W:Wd} {a:WA} (hg:ak w s (P.os++os)) (hw:f_ s P p W a) (hW:qP n c0 c W) (hT:TP n c0 B 0 0 W.s W.aM) (hB:B≤13) (hc:c≤900000) :
  Calls Tryz.prog 22 #[ptr p,i64 200] w (aaS n B c0 c w s os p):=by
 have xW:=hT.len.2
 refine enter (l:=[ptr p,i64 200]) Tryz.func22 rfl Tryz.ntmps22 rfl ?_
 refine go 10 ?_
 refine CW.loop (σ:=Nat) (fun j E w'=>∃ s' P a W d,∃ r:Nat,ak w' s' (P.W::P.S::P.K::P.B::P.L::P.T::P.D::P.X::(P.E++os))∧ar w w'∧Le s s'∧E=[(0,ptr p),(1,i64 200),(5,i64 r)]∧r+j=200∧r≤51∧f_ s' P p W a∧qP n c0 d W∧d≤c+410*r∧TP n c0 B r 0 W.s W.aM) (fun j=>j) 200 [(0,ptr p),(1,i64 200),(5,i64 0)] ⟨rfl,rfl,rfl,trivial⟩ ⟨s,P,a,W,c,0,((((((((hg.ae 7 rfl).ae 7 rfl).ae 7 rfl).ae 7 rfl).ae 7 rfl).ae 7 rfl).ae 7 rfl).ae 7 rfl),(ar.refl _),(Le.refl _),rfl,by omega,by omega,hw,hW,by omega,hT⟩ ?_
 rintro j E wL ⟨sL,P,a,W,d,r,cd,cQ,fk,rfl,hj,ap9,hw,hW,hd,hT⟩
 have ku:=hw.cells
 refine go 7 ?_
 refine CW.cond rfl (fun lS=>?_) (fun lS=>?_)
 refine go 9 ?_
 refine CW.loop (σ:=Nat) (fun j E w'=>∃ s' P a W d,∃ k:Nat,ak w' s' (P.W::P.S::P.K::P.B::P.L::P.T::P.D::P.X::(P.E++os))∧ar w w'∧Le s s'∧E=[(0,ptr p),(1,i64 200),(5,i64 r),(6,i64 k)]∧k+j=n∧f_ s' P p W a∧qP n c0 d W∧d≤c+410*r+k∧TP n c0 B r k W.s W.aM) (fun j=>j) n [(0,ptr p),(1,i64 200),(5,i64 r),(6,i64 0)] ⟨rfl,rfl,rfl,rfl,trivial⟩ ⟨_,P,a,W,d,0,((((((((cd.ae 7 rfl).ae 7 rfl).ae 7 rfl).ae 7 rfl).ae 7 rfl).ae 7 rfl).ae 7 rfl).ae 7 rfl),cQ,fk,rfl,by omega,hw,hW,by omega,hT⟩ ?_
 rintro j1 E wM ⟨sM,P,a,W,d,k,r8,pT,qC,rfl,hk,hw,hW,hd,hT⟩
 have ku:=hw.cells
 have HB:=hW.len
 refine go 11 ?_
 refine CW.cond rfl (fun nL=>?_) (fun nL=>?_)
 have o7:k<W.s.length:=by have:=bU nL;omega
 obtain⟨q1,q2,q3⟩:=jj.aj_ W.s[k] (fg k)
 have tJ:=hT.tick (List.getElem?_eq_getElem o7)
 rw[←q1,← q2] at tJ
 have rq:=tJ.room (by omega)
 rw[List.length_append] at rq
 have tG:=tJ.bL (k:=k) (q:=(bI W.s[k] (sR (fg k))).1) (by rw[List.getElem?_set,if_pos rfl,if_pos o7])
 refine go 7 ?_
 refine RL.mul rfl rfl rfl rfl rfl rfl ((by simp only[aq];omega)) ?_
 refine go 2 ?_
 refine RL.rP rfl rfl rfl rfl rfl Mz.out (M6 (x:=sR (fg k)) (y:=cG.none) (da:=none) (dc:=0) (show ak _ sM (P.os++os) from r8) hw (hW.Yh (by show ¬ (1:Int)=2;decide)) (List.getElem?_eq_getElem o7) (Nat.zero_le _) (WO rfl (Nat.zero_le _)) (WQ rfl (by simp[aq,sR]) (by simp only[aq,sR,fg];omega) (by simp[aq,sR]) (by simp[aq,sR]) (by simp[aq,sR]) (bm.nil _ _ _ (Nat.zero_le _))) (by omega) q3 rq tG) ?_
 rintro e3 w3 ⟨W3,NQ,nW,ks,s3,P3,a3,rfl,cO,GO,Gw,Cs⟩
 refine⟨_,rfl,trivial,?_⟩
 refine go 6 ?_
 cases j1 with
 | zero=>omega
 | succ j1=>exact fun ac ha=>⟨j1,[(0,ptr p),(1,i64 200),(5,i64 r),(6,i64 ((k:Int)+1))],ha.sub ⟨rfl,rfl,rfl,rfl,trivial⟩,⟨_,P3,a3,W3,d+1,k+1,((((((((GO.ae 7 rfl).ae 7 rfl).ae 7 rfl).ae 7 rfl).ae 7 rfl).ae 7 rfl).ae 7 rfl).ae 7 rfl),(pT.trans Gw),(qC.trans cO),rfl,by omega,Cs,NQ,by omega,by rw[nW,ks];exact tJ⟩,Nat.lt_succ_self j1⟩
 have o7:k=n:=by have:=ct nL;omega
 have hD:=(o7▸hT).done
 refine go 7 ?_
 refine CW.loop (σ:=Nat) (fun j E w'=>∃ s' P a W d,∃ k:Nat,ak w' s' (P.W::P.S::P.K::P.B::P.L::P.T::P.D::P.X::(P.E++os))∧ar w w'∧Le s s'∧E=[(0,ptr p),(1,i64 200),(5,i64 r),(7,i64 k)]∧k+j≤400∧f_ s' P p W a∧qP n c0 d W∧d≤c+410*r+n+k∧DP n c0 B r j W.s W.aM) (fun j=>j) 400 [(0,ptr p),(1,i64 200),(5,i64 r),(7,i64 0)] ⟨rfl,rfl,rfl,rfl,trivial⟩ ⟨_,P,a,W,d,0,((((((((r8.ae 7 rfl).ae 7 rfl).ae 7 rfl).ae 7 rfl).ae 7 rfl).ae 7 rfl).ae 7 rfl).ae 7 rfl),pT,qC,rfl,by omega,hw,hW,by omega,hD⟩ ?_
 rintro j2 E wN ⟨sN,P,a,W,d,k,zy,na,BU,rfl,hk,hw,hW,hd,hD⟩
 have ku:=hw.cells
 have HB:=hW.len
 have io:=hD.len
 refine go 6 ?_
 refine RL.part 35 rfl (fun pN=>?_) (fun pN=>?_)
 refine go 8 ?_
 refine CW.cond rfl (fun j0=>?_) (fun j0=>?_)
 obtain⟨m,aM,pU⟩:∃ m aM,W.aM=m::aM:=by
  have h9:(W.aM.length:Int)>0:=bU j0
  cases hz:W.aM with
  | nil=>rw[hz] at h9;simp at h9
  | cons m aM=>exact⟨m,aM,rfl⟩
 have hD:=pU▸hD
 obtain⟨i2,GV,O1⟩:∃ i2:Nat,m.to=i2+1∧i2<W.s.length:=by
  have:=hD.to
  exact⟨(m.to-1).toNat,by omega,by omega⟩
 obtain⟨q1,q2,q3⟩:=jj.aj6 W.s[i2] m
 obtain⟨j3,VP,Jy⟩:=hD.xt (k:=i2) (by omega) (List.getElem?_eq_getElem O1) hB
 rw[←q1,← q2] at Jy
 have rq:=Jy.len
 rw[List.length_append] at rq
 have tG:=Jy.bL (k:=i2) (q:=(bI W.s[i2] (sE m)).1) (by rw[List.getElem?_set,if_pos rfl,if_pos O1])
 refine go 9 ?_
 refine RL.dX rfl rfl rfl rfl kB.out rfl rfl hw.B.eU (by omega) (by rw[pU];simp) ?_
 rintro q vs eH hH ⟨y,rfl,hm⟩
 have h0:W.aM[(0:Int).toNat]'(by rw[pU];simp)=m:=by simp[pU]
 rw[h0] at hm hH
 refine RL.gX (j:=0) (us:=_) rfl rfl rfl rfl Zh.out rfl (hH) (zy.mem (by simp)) rfl rfl ?_
 refine go 1 ?_
 rintro b1 w1 Q1 (aH:ak _ sN (Q1::P.W::P.S::P.K::P.B::P.L::P.T::P.D::P.X::(P.E++os))) aN cz
 refine go 2 ?_
 rintro w2 Q2 (aS:ak _ sN (Q2::P.W::P.S::P.K::P.B::P.L::P.T::P.D::P.X::(P.E++os))) aR gj
 refine go 9 ?_
 refine RL.cut 1 W.aM.length rfl rfl rfl rfl kB.out rfl (.inr ⟨_,_,rfl,rfl⟩) (.inl ⟨rfl,rfl⟩) (by rw[pU];simp) hw.B.eU.1 ?_
 rw[show W.aM.length-1=aM.length by rw[pU];simp]
 refine go 3 ?_
 rintro w3 Q3 (aP:ak _ sN (Q2::Q3::P.S::P.K::P.B::P.L::P.T::P.D::P.X::(P.E++os))) bw ks
 refine go 3 ?_
 have bp:=aP.drew
 refine CW.dw [1,3,5,7,9,11,13,15,17,19,21,23,25] (fun w=>ay b1 _ w∧ay p _ w∧True) ?_
 have ll:=nF.tail (pU▸hw.B)
 have HN:=hw.YF (B':=P.B) ll ks rfl
 have hcN:=HN.cells
 refine go 4 ?_
 refine RL.part 62 rfl (fun Bf=>?_) (fun Bf=>?_)
 refine go 10 ?_
 refine CW.cond rfl (fun Uv=>?_) (fun Uv=>?_)
 refine go 4 ?_
 refine RL.sub rfl rfl rfl rfl rfl rfl (by rw[GV];simp only[aq];omega) ?_
 rw[show m.to-1=(i2:Int) by omega]
 refine go 2 ?_
 obtain⟨g9,zb,qZ,UK⟩:=hW
 have Hc:=zb.aM m (by rw[pU];exact List.mem_cons_self ..)
 refine RL.rP rfl rfl rfl rfl rfl Mz.out (M6 (x:=sE m) (y:=y) (da:=none) (dc:=0) (show ak _ sN (({ P with W:=Q3 }:WP).os++([Q2]++os)) from WP.K8 (bs:=[Q2]) (P:={ P with W:=Q3 }) bp) HN ⟨g9,zb.sub (fun x hx=>by rw[pU];exact List.mem_cons_of_mem _ hx) (by rw[pU,List.length_cons] at io;omega),qZ,UK,fun _=>Hc⟩ (List.getElem?_eq_getElem O1) (Nat.zero_le _) ⟨XE hm Hc.1,Nat.zero_le _⟩ ⟨hm,by simp[aq,sE],by simp[aq,sE],by simp[aq,sE],by simp[aq,sE],by simp[aq,sE],bm.nil _ _ _ (Nat.zero_le _)⟩ (by omega) q3 (by show aM.length+_≤400;omega) tG) ?_
 rintro e3 w3 ⟨W3,NQ,nW,ks,s3,P3,a3,rfl,cO,OY,Gw,Cs⟩
 have GO:ak w3 s3 (Q2::P3.W::P3.S::P3.K::P3.B::P3.L::P3.T::P3.D::P3.X::(P3.E++os)):=WP.Ly (bs:=[Q2]) OY
 refine⟨_,rfl,trivial,?_⟩
 refine go 6 ?_
 exact fun ac ha=>⟨j3,[(0,ptr p),(1,i64 200),(5,i64 r),(7,i64 ((k:Int)+1))],ha.sub ⟨rfl,rfl,rfl,rfl,trivial⟩,⟨_,P3,a3,W3,d+1,k+1,(((((((((GO.ae 8 rfl).ae 8 rfl).ae 8 rfl).ae 8 rfl).ae 8 rfl).ae 8 rfl).ae 8 rfl).ae 8 rfl).cC 8),(na.trans (aN.trans (aR.trans (bw.trans ((ar.drew _).trans Gw))))),(BU.trans cO),rfl,by omega,Cs,NQ,by omega,by rw[nW,ks];exact Jy⟩,VP⟩
 exact absurd (ct Uv) (by omega)
 exact absurd (ct Bf) (by omega)
 have pU:W.aM=[]:=by
  have h9:¬ (W.aM.length:Int)>0:=ct j0
  exact List.eq_nil_of_length_eq_zero (by omega)
 obtain⟨hT,hS⟩:=(pU▸hD).au hB
 have Pb:30≤r→∃ l:Nat,l<W.s.length∧(∀ hl:l<W.s.length,W.s[l].aO=4∧W.s[l].eW=0∧W.s[l].af.aB=(bX W.s[l].ah).1)∧∀ (i:Nat) (hi:i<W.s.length),i≠l→W.s[i].aO≠4:=fun hr=>by
  obtain⟨l,q,z1,z2,z3,z4,z5⟩:=(hS hr).gq
  obtain⟨z6,rfl⟩:=List.getElem?_eq_some_iff.1 z1
  exact⟨l,z6,fun _=>⟨z2,z3,z4⟩,fun i hi fK=>z5 i _ (List.getElem?_eq_getElem hi) fK⟩
 have tF:0<W.s.length:=by have:=hT.len;have:=hD.kA;omega
 refine go 6 ?_
 refine CW.loop (σ:=Nat) (fun j E w'=>∃ s',∃ i:Nat,ak w' s' (P.W::P.S::P.K::P.B::P.L::P.T::P.D::P.X::(P.E++os))∧ar w w'∧Le s s'∧Le sN s'∧E=[(0,ptr p),(1,i64 200),(5,i64 r),(9,i64 i)]∧i+j=W.s.length∧(r≤50→i=0)∧∀ (k:Nat) (hk:k<W.s.length),k<i→W.s[k].aO≠4) (fun j=>j) W.s.length [(0,ptr p),(1,i64 200),(5,i64 r),(9,i64 0)] ⟨rfl,rfl,rfl,rfl,trivial⟩ ⟨_,0,((((((((zy.ae 7 rfl).ae 7 rfl).ae 7 rfl).ae 7 rfl).ae 7 rfl).ae 7 rfl).ae 7 rfl).ae 7 rfl),na,BU,Le.refl _,rfl,by omega,fun _=>rfl,fun k _ z=>absurd z (Nat.not_lt_zero _)⟩ ?_
 rintro j4 E wO ⟨sO,i,D_,zo,zI,BV,rfl,hi,tz,bW⟩
 have hw:=hw.up BV
 refine go 11 ?_
 refine RL.part 86 rfl (fun Bk=>?_) (fun Bk=>?_)
 have cq:i<W.s.length:=by have h9:(i:Int)<(W.s.length:Int):=bU Bk;omega
 refine go 4 ?_
 refine CW.cond rfl (fun DN=>?_) (fun DN=>?_)
 refine go 10 ?_
 refine RL.dX rfl rfl rfl rfl rE.out rfl rfl hw.S.eU (by omega) (by omega) ?_
 rintro q1 vs1 Ks oo ⟨BN,rfl,zi⟩
 have zi:fZ sO W.s[i] BN:=zi
 have oo:Holds P.S q1 (jR W.s[i] BN):=oo
 refine go 1 ?_
 refine RL.gX (j:=4) (us:=(yq W.s[i].ah BN)) rfl rfl rfl rfl C2.out rfl (oo) (D_.mem (by simp)) rfl rfl ?_
 refine go 1 ?_
 refine zw (Me D_ zi.ah) ?_
 rintro v5 w5 (bh:ak _ sO (P.W::P.S::P.K::P.B::P.L::P.T::P.D::P.X::(P.E++os))) bQ rfl
 refine go 14 ?_
 refine RL.dX rfl rfl rfl rfl rE.out rfl rfl hw.S.eU (by omega) (by omega) ?_
 rintro q2 vs2 oE eS ⟨zB,rfl,rT⟩
 have rT:fZ sO W.s[i] zB:=rT
 have eS:Holds P.S q2 (jR W.s[i] zB):=eS
 refine go 1 ?_
 refine RL.load (j:=10) rfl rfl rfl rfl akv.out rfl (eS) (bh.mem (by simp)) rfl ?_
 refine go 2 ?_
 refine RL.part 113 rfl (fun xy=>?_) (fun xy=>?_)
 refine go 5 ?_
 refine RL.dX rfl rfl rfl rfl rE.out rfl rfl hw.S.eU (by omega) (by omega) ?_
 rintro q3 vs3 HL pP ⟨GU,rfl,uK⟩
 have uK:fZ sO W.s[i] GU:=uK
 have pP:Holds P.S q3 (jR W.s[i] GU):=pP
 refine go 1 ?_
 refine RL.load (j:=16) rfl rfl rfl rfl ey.out rfl (pP) (bh.mem (by simp)) rfl ?_
 refine go 3 ?_
 refine RL.part 124 rfl (fun Um=>?_) (fun Um=>?_)
 refine go 5 ?_
 refine RL.dX rfl rfl rfl rfl rE.out rfl rfl hw.S.eU (by omega) (by omega) ?_
 rintro q4 vs4 Kt uI ⟨VG,rfl,UR⟩
 have UR:fZ sO W.s[i] VG:=UR
 have uI:Holds P.S q4 (jR W.s[i] VG):=uI
 refine go 2 ?_
 refine RL.load (j:=3) rfl rfl rfl rfl aV.out rfl (uI) (bh.mem (by simp)) rfl ?_
 refine go 4 ?_
 refine CW.cond rfl (fun Uq=>?_) (fun Uq=>?_)
 refine go 5 ?_
 refine CW.ret (bP ?_)
 have h9:(r:Int)>50:=bU DN
 exact⟨W,i,W.s[i],hW.mono (by omega),pU,hS (by omega),List.getElem?_eq_getElem cq,by simpa using xy,⟨_,P,_,rfl,zI,((((((((bh.ae 7 rfl).ae 7 rfl).ae 7 rfl).ae 7 rfl).ae 7 rfl).ae 7 rfl).ae 7 rfl).ae 7 rfl),(zo.trans bQ),hw⟩⟩
 refine go 6 ?_
 obtain⟨l,z1,z2,z3⟩:=Pb (by have h9:(r:Int)>50:=bU DN;omega)
 have fK:i=l:=Classical.byContradiction fun z=>z3 i cq z (by simpa using xy)
 subst fK
 exact absurd (z2 cq).2.2 (by simpa using Uq)
 refine go 20 ?_
 obtain⟨l,z1,z2,z3⟩:=Pb (by have h9:(r:Int)>50:=bU DN;omega)
 have fK:i=l:=Classical.byContradiction fun z=>z3 i cq z (by simpa using xy)
 subst fK
 exact absurd (z2 cq).2.1 (by simpa using Um)
 refine go 31 ?_
 cases j4 with
 | zero=>omega
 | succ j4=>exact fun ac ha=>⟨j4,[(0,ptr p),(1,i64 200),(5,i64 r),(9,i64 ((i:Int)+1))],ha.sub ⟨rfl,rfl,rfl,rfl,trivial⟩,⟨_,i+1,((((((((bh.ae 7 rfl).ae 7 rfl).ae 7 rfl).ae 7 rfl).ae 7 rfl).ae 7 rfl).ae 7 rfl).ae 7 rfl),(zo.trans bQ),zI,BV,rfl,by omega,fun z=>absurd (show (r:Int)>50 from bU DN) (by omega),fun k hk Ej=>by
   by_cases o6:k=i
   subst o6;simpa using xy
   exact bW k hk (by omega)⟩,Nat.lt_succ_self j4⟩
 refine go 6 ?_
 have h9:¬ (r:Int)>50:=ct DN
 cases j with
 | zero=>omega
 | succ j=>exact fun ac ha=>⟨j,[(0,ptr p),(1,i64 200),(5,i64 ((r:Int)+1))],ha.sub ⟨rfl,rfl,rfl,trivial⟩,⟨_,P,_,W,d,r+1,((((((((D_.ae 7 rfl).ae 7 rfl).ae 7 rfl).ae 7 rfl).ae 7 rfl).ae 7 rfl).ae 7 rfl).ae 7 rfl),zo,zI,rfl,by omega,by omega,hw,hW,by omega,pU▸hT⟩,Nat.lt_succ_self j⟩
 have Eb:¬ (i:Int)<(W.s.length:Int):=ct Bk
 by_cases agK:r≤50
 have:=tz agK;omega
 obtain⟨l,z1,z2,z3⟩:=Pb (by omega)
 exact absurd (z2 z1).1 (bW l z1 (by omega))
 exact absurd (ct pN) (by omega)
 exact absurd (ct lS) (by omega)
end
end Go.Lw
namespace Go.Lw
open Go.Proofs
attribute [local irreducible] RL RA
def L3 (l:List aA) (i:Int) (y:aA):Prop:=∃ k:Nat,l[k]?=some y∧i≤y.index∧∀ (j:Nat) z,j<k→l[j]?=some z→z.index<i
def vO (l:List aA) (i:Int) (k:Nat) (ys:List aA):Prop:=ys.length≤1∧(ys=[]→∀ (j:Nat) z,j<k→l[j]?=some z→z.index<i)∧∀ y∈ys,L3 l i y
theorem vO.none (l:List aA) (i:Int):vO l i 0 []:=⟨Nat.zero_le _,fun _ j z hj=>absurd hj (Nat.not_lt_zero _),fun y hy=>(by cases hy)⟩
theorem vO.over {l:List aA} {i:Int} {k:Nat} (h:vO l i k []) (hk:k<l.length) (hi:¬ l[k].index≥i):vO l i (k+1) []:=⟨Nat.zero_le _,fun _ j z hj hz=>by
 by_cases zE:j<k
 exact h.2.1 rfl j z zE hz
 have:j=k:=by omega
 subst this
 rw[List.getElem?_eq_getElem hk] at hz
 have:=Option.some.inj hz
 subst this;omega,fun y hy=>(by cases hy)⟩
theorem vO.aex {l:List aA} {i:Int} {k:Nat} (h:vO l i k []) (hk:k<l.length) (hi:l[k].index≥i):vO l i (k+1) [l[k]]:=⟨Nat.le_refl _,fun z=>(by cases z),fun y hy=>by
 rw[List.mem_singleton.1 hy]
 exact⟨k,List.getElem?_eq_getElem hk,hi,h.2.1 rfl⟩⟩
section
variable {w:World} {s r:aj} {os:List aj}
theorem aaM {l:br} {h:Hd} {i:Int} (hg:ak w s os) (hl:d_ s s l h) (hS:l.bL) (gl:0≤(bX l).1∧(bX l).1≤1073741824) :
  Calls Tryz.prog 43 #[gY l h,u64 i,i64 1] w (aw w s os fun s' _ q=>∃ ys a c e,q = .tuple #[.slice a ys.length c,i64 e]∧bm bg 6 s' a c ys∧ys.length≤1∧(ys≠[]→l.aF.index<i)∧∀ y∈ys,L3 l.entries i y):=by
 have bV:=hS.2.2.2
 have uZ:=hl
 refine enter (l:=[gY l h,u64 i,i64 1]) Tryz.func43 rfl Tryz.ntmps43 rfl ?_
 refine go 3 ?_
 rintro b1 w1 Q1 aH aN cz
 refine go 8 ?_
 refine zw (Me aH hl) ?_
 rintro v2 w2 aS aR rfl
 refine go 16 ?_
 refine RL.part 22 rfl (fun iJ=>?_) (fun iJ=>?_)
 refine go 12 ?_
 refine CW.ret (nC ?_)
 exact aw.mq (aS.drop).nil ⟨[],none,0,61,rfl,bm.nil _ _ _ (Nat.zero_le _),Nat.zero_le _,fun z=>absurd rfl z,fun y hy=>(by cases hy)⟩
 refine go 6 ?_
 refine CW.cond rfl (fun y_=>?_) (fun y_=>?_)
 refine go 5 ?_
 refine CW.ret (nC ?_)
 exact aw.mq (aS.drop).nil ⟨[],none,0,61,rfl,bm.nil _ _ _ (Nat.zero_le _),Nat.zero_le _,fun z=>absurd rfl z,fun y hy=>(by cases hy)⟩
 have Vh:l.aF.index<i:=by have h9:¬ (i≤l.aF.index):=ct iJ;omega
 refine go 11 ?_
 refine CW.loop (σ:=Nat) (fun j E w'=>∃ s' A' a' c' ys,∃ k:Nat,ak w' s' (A'::Q1::os)∧ar w w'∧Le s s'∧E=[(1,u64 i),(2,i64 1),(3,ptr b1),(10,.slice a' ys.length c'),(11,i64 k)]∧k+j=l.entries.length∧aW bg 6 65 s' A' a' c' ys∧vO l.entries i k ys) (fun j=>j) l.entries.length [(1,u64 i),(2,i64 1),(3,ptr b1),(10,.slice none 0 0),(11,i64 0)] ⟨rfl,rfl,rfl,rfl,rfl,trivial⟩ ⟨s,aj.nil,none,0,[],0,aS.nil,(aN.trans aR),(Le.refl _),rfl,by omega,aW.nil _ _ _ _ _,vO.none _ _⟩ ?_
 rintro j E wL ⟨sL,AL,aL,cL,ys,k,cd,cQ,fk,rfl,hk,nl,DS⟩
 have hl:=(hl.up fk).mem fk
 refine go 9 ?_
 refine RL.part 33 rfl (fun iV=>?_) (fun iV=>?_)
 refine go 6 ?_
 refine CW.cond rfl (fun lU=>?_) (fun lU=>?_)
 have be:k<l.entries.length:=by have h9:(k:Int)<(l.entries.length:Int):=bU iV;omega
 have hys:ys=[]:=by have h9:(ys.length:Int)<1:=bU lU;exact List.eq_nil_of_length_eq_zero (by omega)
 subst hys
 refine go 8 ?_
 refine RL.dX rfl rfl rfl rfl de.out rfl rfl hl.entries (by omega) (by omega) ?_
 rintro q vs eH hH ⟨ea,ec,ea1,ec1,ea2,ec2,rfl,er1,er2,er3,eh1,eh2,eh3⟩
 refine go 1 ?_
 refine RL.load (j:=0) rfl rfl rfl rfl aV.out rfl (hH) (cd.sh) rfl ?_
 refine go 3 ?_
 refine CW.cond rfl (fun om=>?_) (fun om=>?_)
 refine go 5 ?_
 refine RL.dX rfl rfl rfl rfl de.out rfl rfl hl.entries (by omega) (by omega) ?_
 rintro q2 vs2 oE eS mi
 have Nz:=mi
 obtain⟨fa,fc,fa1,fc1,fa2,fc2,rfl,fr1,fr2,fr3,fh1,fh2,fh3⟩:=Nz
 refine RL.gX (j:=0) (us:=_) rfl rfl rfl rfl nv.out rfl (eS) (cd.sh) rfl rfl ?_
 refine go 1 ?_
 refine zc (Md cd mi (hS.2.2.1 _ (List.getElem_mem _))) ?_
 rintro v3 s3 B3 w3 cO aP bw ⟨us,rfl,hU⟩
 have aP:=aP.drop
 have nl:=nl.up bg.up cO
 obtain⟨ua,uc,ua1,uc1,ua2,uc2,rfl,Gk⟩:=hU
 refine go 2 ?_
 rintro b4 w4 Q4 bp bJ o3
 refine go 1 ?_
 obtain⟨ait,P8,GC⟩:=(tX (R:=bg) (xs:=[l.entries[k]]) de.out o3 (bp.mem (by simp)) (cF.jy rfl ⟨_,_,_,_,_,_,rfl,Gk⟩))
 refine RL.gQ (i:=1) (xs:=[]) (ys:=[l.entries[k]]) rfl rfl rfl rfl de.out rI.out rfl bg.one (rfl) rfl bp rfl (nl) P8 GC ((by simp only[List.length_singleton,List.length_nil];omega)) (by omega) ?_
 rintro a5 c5 A5 w5 bh ms bQ Eh xW
 have qD:=ms
 refine go 8 ?_
 cases j with
 | zero=>omega
 | succ j=>exact fun ac ha=>⟨j,[(1,u64 i),(2,i64 1),(3,ptr b1),(10,.slice _ ([l.entries[k]]:List aA).length _),(11,i64 ((k:Int)+1))],ha.sub ⟨rfl,rfl,rfl,rfl,rfl,trivial⟩,⟨_,_,_,_,_,k+1,(((bh.ae 2 rfl).ae 2 rfl).cC 2),(cQ.trans (bw.trans (bJ.trans bQ))),(fk.trans cO),rfl,by omega,qD,DS.aex be (bU om)⟩,Nat.lt_succ_self j⟩
 refine go 6 ?_
 cases j with
 | zero=>omega
 | succ j=>exact fun ac ha=>⟨j,[(1,u64 i),(2,i64 1),(3,ptr b1),(10,.slice aL ([]:List aA).length cL),(11,i64 ((k:Int)+1))],ha.sub ⟨rfl,rfl,rfl,rfl,rfl,trivial⟩,⟨_,_,_,_,_,k+1,((cd.ae 1 rfl).ae 1 rfl),cQ,fk,rfl,by omega,nl,DS.over be (ct om)⟩,Nat.lt_succ_self j⟩
 refine go 7 ?_
 refine CW.ret (nC ?_)
 obtain⟨s1,fw,bN,cH⟩:=cd.bY
 exact aw.mk (fk.trans bN) fw.drop.nil cQ ⟨ys,aL,cL,0,rfl,nl.ci bg.up bN cH,DS.1,fun _=>Vh,DS.2.2⟩
 refine go 14 ?_
 refine CW.ret (nC ?_)
 obtain⟨s1,fw,bN,cH⟩:=cd.bY
 exact aw.mk (fk.trans bN) fw.drop.nil cQ ⟨ys,aL,cL,0,rfl,nl.ci bg.up bN cH,DS.1,fun _=>Vh,DS.2.2⟩
end
end Go.Lw
namespace Go.Lw
open Go.Proofs
open dF (Wd gP dG G np)
attribute [local irreducible] RL RA
theorem acr {c:Nat} {l:br} (h:lL c l) (hc:c≤1073741824) {i:Int} {y:aA} (hF:L3 l.entries i y) (hb:l.aF.index<i):y∈l.entries∧y.index=i:=by
 obtain⟨k,hk,hi,o3⟩:=hF
 have hr:=h.run k y hk
 have hl:=h.ff
 have hx:=h.index
 have cv:=(List.getElem?_eq_some_iff.1 hk).1
 have Oq:=h.count
 simp only[eo,aq] at hl hx
 rw[Fw (by omega) (by omega)] at hr
 refine⟨List.mem_of_getElem? hk,?_⟩
 cases k with
 | zero=>omega
 | succ k =>
  have h1:=List.getElem?_eq_getElem (l:=l.entries) (i:=k) (by omega)
  have h2:=o3 k _ (Nat.lt_succ_self k) h1
  have h3:=h.run k _ h1
  rw[Fw (by omega) (by omega)] at h3
  omega
theorem ahB {n c:Nat} {c0:aY} {g:G} {i:Int} {r:aU} (h:dF.qR c0 g n i r) (hs:∀ t,(g.aI t).length≤c) (hc:c≤2000000):0≤(bX r.ah).1∧(bX r.ah).1≤1073741824:=by
 have h1:=dF.qR.W7 h.cY hs
 have h2:=h.Af.ff
 have h3:=h.Af.xO
 have h4:=h.gw.ah.index
 simp only[aq] at h4
 omega
section
variable {w:World} {s:aj} {os:List aj}
theorem Xx {n c:Nat} {c0:aY} {g:G} {P:WP} {p:Nat} {W:Wd} {a:WA} (hg:ak w s (P.os++os)) (hw:f_ s P p W a) (hW:gP n c0 g c W) (hc:c≤2000000) :
  Calls Tryz.prog 17 #[ptr p] w (yR w s os p (.bool true) W):=by
 have HB:=hW.len
 have Kn:=hW.YI
 have iK:=hw.cells
 refine enter (l:=[ptr p]) Tryz.func17 rfl Tryz.ntmps17 rfl ?_
 refine go 10 ?_
 refine CW.loop (σ:=Nat) (fun j E w'=>∃ s',∃ k:Nat,ak w' s' (P.W::P.S::P.K::P.B::P.L::P.T::P.D::P.X::(P.E++os))∧ar w w'∧Le s s'∧E=[(0,ptr p),(3,i64 k)]∧k+j=W.s.length) (fun j=>j) W.s.length [(0,ptr p),(3,i64 0)] ⟨rfl,rfl,trivial⟩ ⟨s,0,((((((((hg.ae 7 rfl).ae 7 rfl).ae 7 rfl).ae 7 rfl).ae 7 rfl).ae 7 rfl).ae 7 rfl).ae 7 rfl),(ar.refl _),(Le.refl _),rfl,by omega⟩ ?_
 rintro j E wL ⟨sL,k,cd,cQ,fk,rfl,hk⟩
 have Qj:=hw.up fk
 refine go 11 ?_
 refine CW.cond rfl (fun oh=>?_) (fun oh=>?_)
 have h9:(k:Int)<(W.s.length:Int):=bU oh
 have be:k<W.s.length:=by omega
 refine go 8 ?_
 refine CW.loop (σ:=Nat) (fun j E w'=>∃ s',∃ m:Nat,ak w' s' (P.W::P.S::P.K::P.B::P.L::P.T::P.D::P.X::(P.E++os))∧ar w w'∧Le s s'∧E=[(0,ptr p),(3,i64 k),(4,i64 m)]∧m+j=k) (fun j=>j) k [(0,ptr p),(3,i64 k),(4,i64 0)] ⟨rfl,rfl,rfl,trivial⟩ ⟨_,0,((((((((cd.ae 7 rfl).ae 7 rfl).ae 7 rfl).ae 7 rfl).ae 7 rfl).ae 7 rfl).ae 7 rfl).ae 7 rfl),cQ,fk,rfl,by omega⟩ ?_
 rintro j1 E wM ⟨sM,m,r8,pT,qC,rfl,hm⟩
 have jP:=hw.up qC
 refine go 7 ?_
 refine CW.cond rfl (fun Ur=>?_) (fun Ur=>?_)
 have uD:(m:Int)<(k:Int):=bU Ur
 have BX:m<W.s.length:=by omega
 have UO:=hW.node k _ (List.getElem?_eq_getElem be)
 have JB:=hW.node m _ (List.getElem?_eq_getElem BX)
 have hck:=UO.gw.ah.count
 refine go 10 ?_
 refine RL.dX rfl rfl rfl rfl rE.out rfl rfl jP.S.eU (by omega) (by omega) ?_
 rintro q vs eH hH ⟨hh,rfl,eA⟩
 have eA:fZ sM W.s[k] hh:=eA
 have hH:Holds P.S q (jR W.s[k] hh):=hH
 refine go 1 ?_
 refine RL.gX (j:=4) (us:=(yq W.s[k].ah hh)) rfl rfl rfl rfl C2.out rfl (hH) (r8.mem (by simp)) rfl rfl ?_
 refine go 1 ?_
 rintro b1 w1 Q1 aH aN cz
 refine go 2 ?_
 rintro w2 Q2 aS aR gj
 refine go 9 ?_
 refine RL.dX rfl rfl rfl rfl rE.out rfl rfl jP.S.eU (by omega) (by omega) ?_
 rintro q2 vs2 oE eS ⟨zB,rfl,rT⟩
 have rT:fZ sM W.s[m] zB:=rT
 have eS:Holds P.S q2 (jR W.s[m] zB):=eS
 refine go 1 ?_
 refine RL.gX (j:=4) (us:=(yq W.s[m].ah zB)) rfl rfl rfl rfl C2.out rfl (eS) (aS.mem (by simp)) rfl rfl ?_
 refine go 1 ?_
 rintro b3 w3 Q3 aP bw ks
 refine go 2 ?_
 rintro w4 Q4 bp bJ o3
 refine go 11 ?_
 have tu:=gj
 have JS:=o3
 refine CW.loop (σ:=Nat) (fun j E w'=>∃ s',∃ v:Int,ak w' s' (Q4::Q2::P.W::P.S::P.K::P.B::P.L::P.T::P.D::P.X::(P.E++os))∧ar w w'∧Le s s'∧Le sM s'∧E=[(0,ptr p),(3,i64 k),(4,i64 m),(5,ptr b1),(6,ptr b3),(7,i64 v)]∧v+1=j∧v<W.s[k].ah.entries.length) (fun j=>j) W.s[k].ah.entries.length [(0,ptr p),(3,i64 k),(4,i64 m),(5,ptr b1),(6,ptr b3),(7,i64 ((W.s[k].ah.entries.length:Int)-1))] ⟨rfl,rfl,rfl,rfl,rfl,rfl,trivial⟩ ⟨_,_,((((((((((bp.ae 9 rfl).ae 9 rfl).ae 9 rfl).ae 9 rfl).ae 9 rfl).ae 9 rfl).ae 9 rfl).ae 9 rfl).ae 9 rfl).ae 9 rfl),(pT.trans (aN.trans (aR.trans (bw.trans bJ)))),qC,Le.refl _,rfl,by omega,by omega⟩ ?_
 rintro j2 E wN ⟨sN,v,zy,na,BU,BV,rfl,Qf,rx⟩
 have eA:=eA.up BV
 have rT:=rT.up BV
 refine go 6 ?_
 refine CW.cond rfl (fun om=>?_) (fun om=>?_)
 have jo:v≥0:=bU om
 obtain⟨u,rfl⟩:∃ u:Nat,v=u:=⟨v.toNat,by omega⟩
 have hlu:u<W.s[k].ah.entries.length:=by omega
 refine go 4 ?_
 have bh:=zy.drew
 refine CW.iA [(true,0),(true,1),(true,2),(true,3),(true,4),(true,5),(true,6),(false,7),(true,8),(true,9),(true,10),(false,11),(false,12)] (fun w=>ay b3 _ w∧ay b1 _ w∧In sN w∧True) mixed (by kernel_rfl) (by kernel_rfl) (by kernel_rfl) (by kernel_rfl) (⟨bh.bS (by simp) JS,bh.bS (by simp) tu,bh.sh,trivial⟩) ?_
 refine go 4 ?_
 refine RL.dX rfl rfl rfl rfl de.out rfl rfl eA.ah.entries (by omega) (show ((u:Nat):Int)<(W.s[k].ah.entries.length:Int) by omega) ?_
 rintro q3 vs3 HL pP ⟨ea,ec,ea1,ec1,ea2,ec2,rfl,er1,er2,er3,eh1,eh2,eh3⟩
 refine go 1 ?_
 refine RL.fV (j:=0) rfl rfl rfl rfl aV.out rfl (pP) (fun w h=>h.2.2.1) rfl ?_
 refine go 1 ?_
 refine zw (aaN (l:=W.s[m].ah) (h:=zB) bh rT.ah) ?_
 rintro v6 w6 bx bM rfl
 refine⟨⟨bx.bS (by simp) JS,bx.bS (by simp) tu,bx.sh,trivial⟩,?_⟩
 refine go 12 ?_
 refine RL.part 64 rfl (fun Uu=>?_) (fun Uu=>?_)
 refine go 17 ?_
 cases j2 with
 | zero=>omega
 | succ j2=>exact fun ac ha=>⟨j2,[(0,ptr p),(3,i64 k),(4,i64 m),(5,ptr b1),(6,ptr b3),(7,i64 ((u:Int)-1))],ha.sub ⟨rfl,rfl,rfl,rfl,rfl,rfl,trivial⟩,⟨_,_,((((((((((bx.ae 9 rfl).ae 9 rfl).ae 9 rfl).ae 9 rfl).ae 9 rfl).ae 9 rfl).ae 9 rfl).ae 9 rfl).ae 9 rfl).ae 9 rfl),(na.trans ((ar.drew _).trans bM)),BU,BV,rfl,by omega,by omega⟩,Nat.lt_succ_self j2⟩
 refine go 4 ?_
 refine RL.dX rfl rfl rfl rfl de.out rfl rfl eA.ah.entries (by omega) (show ((u:Nat):Int)<(W.s[k].ah.entries.length:Int) by omega) ?_
 rintro q4 vs4 Kt uI ⟨fa,fc,fa1,fc1,fa2,fc2,rfl,fr1,fr2,fr3,fh1,fh2,fh3⟩
 refine go 1 ?_
 refine RL.load (j:=1) rfl rfl rfl rfl aV.out rfl (uI) (bx.sh) rfl ?_
 refine go 3 ?_
 refine CW.cond rfl (fun Uw=>?_) (fun Uw=>?_)
 refine go 6 ?_
 cases j2 with
 | zero=>omega
 | succ j2=>exact fun ac ha=>⟨j2,[(0,ptr p),(3,i64 k),(4,i64 m),(5,ptr b1),(6,ptr b3),(7,i64 ((u:Int)-1))],ha.sub ⟨rfl,rfl,rfl,rfl,rfl,rfl,trivial⟩,⟨_,_,((((((((((bx.ae 9 rfl).ae 9 rfl).ae 9 rfl).ae 9 rfl).ae 9 rfl).ae 9 rfl).ae 9 rfl).ae 9 rfl).ae 9 rfl).ae 9 rfl),(na.trans ((ar.drew _).trans bM)),BU,BV,rfl,by omega,by omega⟩,Nat.lt_succ_self j2⟩
 have hse:ue W.s[m].ah W.s[k].ah.entries[u].index=(W.s[k].ah.entries[u].ab,true):=by
  have lB:(!(ue W.s[m].ah W.s[k].ah.entries[u].index).2)=false:=Uu
  have gJ:((ue W.s[m].ah W.s[k].ah.entries[u].index).1 != W.s[k].ah.entries[u].ab)=false:=Uw
  exact Prod.ext (by simpa using gJ) (by simpa using lB)
 refine go 7 ?_
 refine CW.loop (σ:=Nat) (fun j E w'=>∃ s',∃ x:Nat,ak w' s' (Q4::Q2::P.W::P.S::P.K::P.B::P.L::P.T::P.D::P.X::(P.E++os))∧ar w w'∧Le s s'∧Le sN s'∧E=[(0,ptr p),(3,i64 k),(4,i64 m),(5,ptr b1),(6,ptr b3),(7,i64 u),(10,i64 x)]∧x+j=u+1) (fun j=>j) (u+1) [(0,ptr p),(3,i64 k),(4,i64 m),(5,ptr b1),(6,ptr b3),(7,i64 u),(10,i64 0)] ⟨rfl,rfl,rfl,rfl,rfl,rfl,rfl,trivial⟩ ⟨_,0,((((((((((bx.ae 9 rfl).ae 9 rfl).ae 9 rfl).ae 9 rfl).ae 9 rfl).ae 9 rfl).ae 9 rfl).ae 9 rfl).ae 9 rfl).ae 9 rfl),(na.trans ((ar.drew _).trans bM)),BU,Le.refl _,rfl,by omega⟩ ?_
 rintro j3 E wO ⟨sO,x,D_,zo,zI,G4,rfl,hx⟩
 have eA:=eA.up G4
 have rT:=rT.up G4
 refine go 7 ?_
 refine CW.cond rfl (fun Ux=>?_) (fun Ux=>?_)
 have lS:(x:Int)≤(u:Int):=bU Ux
 have hlx:x<W.s[k].ah.entries.length:=by omega
 refine go 4 ?_
 have bO:=D_.drew
 refine CW.iA [(true,0),(true,1),(true,2),(true,3),(true,4),(true,5),(true,6),(false,7),(true,8),(true,9),(true,10),(false,11),(false,12)] (fun w=>ay b3 _ w∧ay b1 _ w∧In sO w∧True) mixed (by kernel_rfl) (by kernel_rfl) (by kernel_rfl) (by kernel_rfl) (⟨bO.bS (by simp) JS,bO.bS (by simp) tu,(bO.sh).le (Le.refl _),trivial⟩) ?_
 refine go 4 ?_
 refine RL.dX rfl rfl rfl rfl de.out rfl rfl eA.ah.entries (by omega) (show ((x:Nat):Int)<(W.s[k].ah.entries.length:Int) by omega) ?_
 rintro q5 vs5 Wv F9 ⟨ga,gc,ga1,gc1,ga2,gc2,rfl,gr1,gr2,gr3,gh1,gh2,gh3⟩
 refine go 1 ?_
 refine RL.fV (j:=0) rfl rfl rfl rfl aV.out rfl (F9) (fun w h=>h.2.2.1) rfl ?_
 refine go 1 ?_
 refine zc (aaM (l:=W.s[m].ah) (h:=zB) bO rT.ah (JB.gw.ah.bL (by omega)) (ahB JB hW.size hc)) ?_
 rintro v8 s8 B8 w8 kw bD cM ⟨ys,ya,yc,ye,rfl,hIy,Kw,Kx,EH⟩
 have bD:=bD.drop
 have eA:=eA.up kw
 have rT:=rT.up kw
 have O9:=kw
 refine⟨⟨bD.bS (by simp) JS,bD.bS (by simp) tu,(bD.sh).le kw,trivial⟩,?_⟩
 refine go 7 ?_
 have bA:=bD.drew
 refine CW.iA [(true,0),(true,1),(true,2),(true,3),(true,4),(true,5),(true,6),(true,7),(true,8),(true,9),(true,10),(true,11),(true,12),(true,13),(true,14),(true,15),(false,16),(true,17),(true,18)] (fun w=>ay b1 _ w∧In s8 w∧True) mixed (by kernel_rfl) (by kernel_rfl) (by kernel_rfl) (by kernel_rfl) (⟨bA.bS (by simp) tu,bA.sh,trivial⟩) ?_
 refine go 3 ?_
 refine RL.part 92 rfl (fun h92=>?_) (fun h92=>?_)
 refine go 5 ?_
 refine RL.part 97 rfl (fun DO=>?_) (fun DO=>?_)
 refine go 1 ?_
 have bN:ys.length=1:=by have mG:((ys.length:Int)==1)=true:=DO;have mH:=eq_of_beq mG;omega
 refine RL.dX rfl rfl rfl rfl de.out rfl rfl hIy.eU (by omega) (by omega) ?_
 rintro q6 vs6 ahg NE F6
 have NB:=F6
 obtain⟨ta,tc,ta1,tc1,ta2,tc2,rfl,tr1,tr2,tr3,th1,th2,th3⟩:=NB
 refine RL.rB (j:=0) (us:=_) rfl rfl rfl rfl nv.out rfl (NE) (fun w h=>h.2.1) rfl rfl ?_
 refine go 3 ?_
 refine RL.dX rfl rfl rfl rfl de.out rfl rfl eA.ah.entries (by omega) (show ((x:Nat):Int)<(W.s[k].ah.entries.length:Int) by omega) ?_
 rintro q7 vs7 aqg hH7 UI
 have adt:=UI
 obtain⟨va,vc,va1,vc1,va2,vc2,rfl,vr1,vr2,vr3,vh1,vh2,vh3⟩:=adt
 refine RL.rB (j:=0) (us:=_) rfl rfl rfl rfl nv.out rfl (hH7) (fun w h=>h.2.1) rfl rfl ?_
 obtain⟨He,eG⟩:=acr JB.gw.ah (by omega) (EH _ (List.getElem_mem (show 0<ys.length by omega))) (Kx (fun z=>by rw[z] at bN;cases bN))
 have dO:ys[0]=W.s[k].ah.entries[x]:=dF.ahL hW.cY UO.cY JB.cY (List.getElem?_eq_getElem hlu) hse (show x≤u by omega) (List.getElem?_eq_getElem hlx) He eG
 refine go 1 ?_
 refine zw (Mf (x:=ys[0]) bA F6 (bg.XT dO UI)) ?_
 rintro C4 eX bj cm rfl
 refine⟨⟨bj.bS (by simp) tu,bj.sh,trivial⟩,?_⟩
 refine go 3 ?_
 refine CW.cond rfl (fun Ul=>?_) (fun Ul=>?_)
 simp at Ul
 refine go 6 ?_
 cases j3 with
 | zero=>omega
 | succ j3=>exact fun ac ha=>⟨j3,[(0,ptr p),(3,i64 k),(4,i64 m),(5,ptr b1),(6,ptr b3),(7,i64 u),(10,i64 ((x:Int)+1))],ha.sub ⟨rfl,rfl,rfl,rfl,rfl,rfl,rfl,trivial⟩,⟨_,x+1,((((((((((bj.ae 9 rfl).ae 9 rfl).ae 9 rfl).ae 9 rfl).ae 9 rfl).ae 9 rfl).ae 9 rfl).ae 9 rfl).ae 9 rfl).ae 9 rfl),(zo.trans ((ar.drew _).trans (cM.trans ((ar.drew _).trans cm)))),(zI.trans kw),G4.trans O9,rfl,by omega⟩,Nat.lt_succ_self j3⟩
 refine go 19 ?_
 cases j3 with
 | zero=>omega
 | succ j3=>exact fun ac ha=>⟨j3,[(0,ptr p),(3,i64 k),(4,i64 m),(5,ptr b1),(6,ptr b3),(7,i64 u),(10,i64 ((x:Int)+1))],ha.sub ⟨rfl,rfl,rfl,rfl,rfl,rfl,rfl,trivial⟩,⟨_,x+1,((((((((((bA.ae 9 rfl).ae 9 rfl).ae 9 rfl).ae 9 rfl).ae 9 rfl).ae 9 rfl).ae 9 rfl).ae 9 rfl).ae 9 rfl).ae 9 rfl),(zo.trans ((ar.drew _).trans (cM.trans (ar.drew _)))),(zI.trans kw),G4.trans O9,rfl,by omega⟩,Nat.lt_succ_self j3⟩
 refine go 24 ?_
 cases j3 with
 | zero=>omega
 | succ j3=>exact fun ac ha=>⟨j3,[(0,ptr p),(3,i64 k),(4,i64 m),(5,ptr b1),(6,ptr b3),(7,i64 u),(10,i64 ((x:Int)+1))],ha.sub ⟨rfl,rfl,rfl,rfl,rfl,rfl,rfl,trivial⟩,⟨_,x+1,((((((((((bA.ae 9 rfl).ae 9 rfl).ae 9 rfl).ae 9 rfl).ae 9 rfl).ae 9 rfl).ae 9 rfl).ae 9 rfl).ae 9 rfl).ae 9 rfl),(zo.trans ((ar.drew _).trans (cM.trans (ar.drew _)))),(zI.trans kw),G4.trans O9,rfl,by omega⟩,Nat.lt_succ_self j3⟩
 refine go 7 ?_
 cases j1 with
 | zero=>omega
 | succ j1=>exact fun ac ha=>⟨j1,[(0,ptr p),(3,i64 k),(4,i64 ((m:Int)+1))],ha.sub ⟨rfl,rfl,rfl,trivial⟩,⟨_,m+1,((((((((((D_.ae 9 rfl).ae 9 rfl).ae 9 rfl).ae 9 rfl).ae 9 rfl).ae 9 rfl).ae 9 rfl).ae 9 rfl).cC 8).cC 8),zo,zI,rfl,by omega⟩,Nat.lt_succ_self j1⟩
 refine go 6 ?_
 cases j1 with
 | zero=>omega
 | succ j1=>exact fun ac ha=>⟨j1,[(0,ptr p),(3,i64 k),(4,i64 ((m:Int)+1))],ha.sub ⟨rfl,rfl,rfl,trivial⟩,⟨_,m+1,((((((((((zy.ae 9 rfl).ae 9 rfl).ae 9 rfl).ae 9 rfl).ae 9 rfl).ae 9 rfl).ae 9 rfl).ae 9 rfl).cC 8).cC 8),na,BU,rfl,by omega⟩,Nat.lt_succ_self j1⟩
 refine go 6 ?_
 cases j with
 | zero=>omega
 | succ j=>exact fun ac ha=>⟨j,[(0,ptr p),(3,i64 ((k:Int)+1))],ha.sub ⟨rfl,rfl,trivial⟩,⟨_,k+1,((((((((r8.ae 7 rfl).ae 7 rfl).ae 7 rfl).ae 7 rfl).ae 7 rfl).ae 7 rfl).ae 7 rfl).ae 7 rfl),pT,qC,rfl,by omega⟩,Nat.lt_succ_self j⟩
 refine go 5 ?_
 refine CW.ret (bP ?_)
 exact⟨_,P,a,rfl,fk,((((((((cd.ae 7 rfl).ae 7 rfl).ae 7 rfl).ae 7 rfl).ae 7 rfl).ae 7 rfl).ae 7 rfl).ae 7 rfl),cQ,Qj⟩
end
end Go.Lw
namespace Go.Lw
open Go.Proofs
open dF (Wd gP dG G np kj kY g0)
attribute [local irreducible] RL RA
def kX (n:Nat):List Int:=(List.range n).map fun x:Nat=>(x:Int)+1
theorem Lj (n:Nat):(kX n).length=n:=by simp[kX]
theorem ajH (n:Nat):kX n++[(n:Int)+1]=kX (n+1):=by simp[kX,List.range_succ]
theorem ajI {n m:Nat} (h:m≤n):((kX n).take (m:Int).toNat).drop (0:Int).toNat=kX m:=by
 show ((kX n).take m).drop 0=kX m
 rw[List.drop_zero,kX,← List.map_take,List.take_range,Nat.min_eq_left h];rfl
abbrev cN (m:Nat):aY:=⟨kX m,[]⟩
theorem Mw {m:Nat} (h1:1≤m) (h5:m≤5):eg (cN m)=0:=by
 have:m=1∨m=2∨m=3∨m=4∨m=5:=by omega
 rcases this with rfl | rfl | rfl | rfl | rfl<;>decide
structure yO (m k:Nat) (W:Wd):Prop where
 wY:W.s.length=k
 tM:W.cR.length=k
 node:∀ (i:Nat) r v,W.s[i]?=some r→W.cR[i]?=some v→(v=if (i:Int)+1≤m then kj (cN m) else kY)∧r=jQ (i+1) v
 au:W.aM=[]∧W.cI=[]∧W.ab=[]∧W.told=[]∧W.nn=[]
theorem KG {m:Nat} {v:jl} {c:Prop} [Decidable c] (h:v=if c then kj (cN m) else kY):v=kj (cN m)∨v=kY:=by
 subst h;split
 exact .inl rfl
 exact .inr rfl
theorem yO.more {m k:Nat} {W:Wd} (h:yO m k W) {v:jl} (hv:v=if (k:Int)+1≤m then kj (cN m) else kY):yO m (k+1) { W with s:=W.s++[jQ (k+1) v],cR:=W.cR++[v] }:=by
 refine⟨by simp[h.wY],by simp[h.tM],fun i r u hi hu=>?_,h.au⟩
 by_cases hk:i<k
 rw[List.getElem?_append_left (by rw[h.wY];exact hk)] at hi
 rw[List.getElem?_append_left (by rw[h.tM];exact hk)] at hu
 exact h.node i r u hi hu
 have h1:=(List.getElem?_eq_some_iff.1 hi).1
 simp only[List.length_append,List.length_singleton,h.wY] at h1
 have:i=k:=by omega
 subst this
 rw[List.getElem?_append_right (by rw[h.wY];exact Nat.le_refl _),h.wY] at hi
 rw[List.getElem?_append_right (by rw[h.tM];exact Nat.le_refl _),h.tM] at hu
 simp at hi hu
 subst hi hu
 exact⟨hv,rfl⟩
theorem yO.cY {n m:Nat} {W:Wd} (h:yO m n W) (h1:1≤m) (h5:m≤5) (hn:n≤5):gP n (cN m) g0 0 W:=by
 have h0:=Mw h1 h5
 obtain⟨r1,r2,r3,r4,r5⟩:=h.au
 have hv:∀ (i:Nat) r,W.s[i]?=some r→∃ v,(v=kj (cN m)∨v=kY)∧r=jQ (i+1) v:=fun i r hi=>by
  have h1:=(List.getElem?_eq_some_iff.1 hi).1
  have h2:=List.getElem?_eq_getElem (l:=W.cR) (i:=i) (by rw[h.tM,← h.wY];exact h1)
  exact⟨_,KG (h.node i r _ hi h2).1,(h.node i r _ hi h2).2⟩
 refine⟨h.wY,h.tM,by omega,dF.acP h0,fun i r hi=>?_,fun i r v hi hu=>?_,fun m hm=>?_,by rw[r1];exact Nat.zero_le _,⟨by rw[r2,r3],fun k t b hk=>?_⟩,fun x hx=>?_,fun x hx=>?_,fun t=>Nat.le_refl _⟩
 obtain⟨v,h2,rfl⟩:=hv i r hi
 have h3:=(List.getElem?_eq_some_iff.1 hi).1
 rw[h.wY] at h3
 exact (dF.YU (by omega) (by omega) h2 h0).2
 obtain⟨h2,rfl⟩:=h.node i r v hi hu
 rcases KG h2 with rfl | rfl<;>rfl
 rw[r1] at hm;cases hm
 rw[r3] at hk;cases hk
 rw[r4] at hx;cases hx
 rw[r5] at hx;cases hx
theorem f_.more {s:aj} {P:WP} {p:Nat} {w:Wd} {a:WA} (k:f_ s P p w a) {W' S' K':aj} {sa ka:Option Addr} {sc kc:Nat} {r:aU} {v:jl} {h:Hd} (hS:aW uz 20 44 s S' sa sc (w.s++[r])) (hK:aW td 10 35 s K' ka kc (a.vk++[(v,h)])) (he:v.ah.entries=[]) (ha:h.ea=none) (hc:h.ec=0) {cs:List Value}
  (hW:W' p=some (.cells cs.toArray 85 (0,0))) (dr:cs=Dd { w with s:=w.s++[r],cR:=w.cR++[v] } { a with sa:=sa,sc:=sc,ka:=ka,kc:=kc,vk:=a.vk++[(v,h)] }) :
  f_ s { P with W:=W',S:=S',K:=K',E:=P.E++[aj.nil] } p { w with s:=w.s++[r],cR:=w.cR++[v] } { a with sa:=sa,sc:=sc,ka:=ka,kc:=kc,vk:=a.vk++[(v,h)] } :=
 { k with
  cells:=dr▸hW
  S:=hS
  K:=hK
  cR:=by show w.cR++[v]=(a.vk++[(v,h)]).map (·.1);rw[k.cR];simp
  AQ:=by show (P.E++[aj.nil]).length=(a.vk++[(v,h)]).length;simp[k.AQ]
  E:=fun i u e h1 h2=>by
   have h1:(a.vk++[(v,h)])[i]?=some u:=h1
   have h2:(P.E++[aj.nil])[i]?=some e:=h2
   by_cases hi:i<a.vk.length
   rw[List.getElem?_append_left hi] at h1
   rw[List.getElem?_append_left (by rw[k.AQ];exact hi)] at h2
   exact k.E i u e h1 h2
   rw[List.getElem?_append_right (by omega)] at h1
   rw[List.getElem?_append_right (by rw[k.AQ];omega)] at h2
   have h3:=List.mem_singleton.1 (List.mem_of_getElem? h1)
   have h4:=List.mem_singleton.1 (List.mem_of_getElem? h2)
   subst h3 h4
   show aW bg 6 _ s aj.nil h.ea h.ec v.ah.entries
   rw[he,ha,hc]
   exact aW.nil _ _ _ _ _ }
theorem WP.grow {w:World} {s A W S K B L T D X:aj} {Es os:List aj} (h:ak w s (A::W::S::K::B::L::T::D::X::(Es++os))):ak w s (A::W::S::K::B::L::T::D::X::((Es++[aj.nil])++os)):=by
 refine h.nil.perm ?_
 have h1:(aj.nil::(([A,W,S,K,B,L,T,D,X]++Es)++os)).Perm (([A,W,S,K,B,L,T,D,X]++Es)++aj.nil::os):=List.perm_middle.symm
 simpa using h1
theorem ak.CL {w:World} {s A:aj} {os:List aj} (h:ak w s (A::os)):ak w s (A::aj.nil::os):=h.nil.swap
def aav (n m:Nat) (w0:World) (s:aj) (os:List aj):Ending→World→Prop:=fun e w' =>
 ∃ s' P p a W,e = .returned (.tuple #[ptr p,.bool true])∧Le s s'∧ak w' s' (P.os++os)∧ar w0 w'∧f_ s' P p W a∧gP n (cN m) g0 0 W∧W.told=[]∧W.ab=[]∧W.nn=[]∧W.aM=[]∧∀ (i:Nat) r,W.s[i]?=some r→r=if (i:Int)+1≤m then jQ (i+1) (kj (cN m)) else jQ (i+1) kY
theorem yO.which {n m:Nat} {W:Wd} (h:yO m n W):∀ (i:Nat) r,W.s[i]?=some r→r=if (i:Int)+1≤m then jQ (i+1) (kj (cN m)) else jQ (i+1) kY:=fun i r hi=>by
 have h1:=(List.getElem?_eq_some_iff.1 hi).1
 obtain⟨h2,h3⟩:=h.node i r _ hi (List.getElem?_eq_getElem (l:=W.cR) (i:=i) (by rw[h.tM,← h.wY];exact h1))
 rw[h3,h2];split<;>rfl
section
variable {w:World} {s:aj} {os:List aj}
theorem aab {a:Option Addr} {k c:Nat} (hg:ak w s os) :
  Calls Tryz.prog 28 #[.slice a k c,.slice none 0 0] w (aQ w s os fun q=>q = .agg #[u64 1,i64 0,u64 1,u64 1,u64 1,.slice a k c,.slice none 0 0,.slice none 0 0,.slice none 0 0,.bool false]):=by
 refine enter (l:=[.slice a k c,.slice none 0 0]) Tryz.func28 rfl Tryz.ntmps28 rfl ?_
 refine go 3 ?_
 rintro b1 w1 Q1 aH aN cz
 refine go 12 ?_
 rintro w2 Q2 aS aR gj
 refine go 2 ?_
 refine CW.ret (ret (vs:=[_]) ⟨_,_,_,rfl,rfl,zl gj,rfl⟩ ?_)
 exact aQ.mq (aS.drop) rfl
theorem aaw {n m:Nat} (hg:ak w s os) (cH:1≤m) (zJ:m≤n) (xW:n≤5) :
  Calls Tryz.prog 15 #[i64 (n:Int),i64 (m:Int)] w (aav n m w s os):=by
 have h0:=Mw cH (by omega:m≤5)
 refine enter (l:=[i64 (n:Int),i64 (m:Int)]) Tryz.func15 rfl Tryz.ntmps15 rfl ?_
 refine go 9 ?_
 rintro b3 w3 Q3 aP bw ks
 refine go 13 ?_
 obtain⟨p,hp⟩:∃ z,z=b3:=⟨_,rfl⟩
 have wj:=ks
 rw[←hp] at wj ⊢
 refine CW.loop (σ:=Nat) (fun j E w'=>∃ A' a' c',∃ k:Nat,ak w' s (A'::Q3::os)∧ar w w'∧E=[(0,i64 (n:Int)),(1,i64 (m:Int)),(6,ptr p),(7,.slice a' (kX k).length c'),(8,i64 ((k:Int)+1))]∧k+j=n∧aW (ax .i64) 1 3 s A' a' c' (kX k)) (fun j=>j) n [(0,i64 (n:Int)),(1,i64 (m:Int)),(6,ptr p),(7,.slice none 0 0),(8,i64 1)] ⟨rfl,rfl,rfl,rfl,rfl,trivial⟩ ⟨aj.nil,none,0,0,aP.nil,bw,rfl,by omega,aW.nil _ _ _ _ _⟩ ?_
 rintro j E wL ⟨AL,al,cl,k,cd,cQ,rfl,hk,zK⟩
 refine go 7 ?_
 refine CW.cond rfl (fun mf=>?_) (fun mf=>?_)
 have be:k+1≤n:=by have h9:((k:Int)+1)≤(n:Int):=bU mf;omega
 refine go 7 ?_
 rintro b4 w4 Q4 bp bJ o3
 refine go 1 ?_
 obtain⟨ait,P8,GC⟩:=(tX (R:=ax .i64) (xs:=[(k:Int)+1]) bC.out o3 (bp.mem (by simp)) (cF.jy rfl ⟨rfl,by simp only[aq];omega⟩))
 refine RL.gQ (i:=1) (xs:=(kX k)) (ys:=[(k:Int)+1]) rfl rfl rfl rfl bC.out fY.out rfl (ax.one .i64) (rfl) rfl bp rfl (zK) P8 GC ((by rw[Lj];simp only[List.length_singleton];omega)) (by omega) ?_
 rintro a5 c5 A5 w5 bh ms bQ Eh xW
 rw[ajH] at ms ⊢
 have qD:=ms
 refine go 8 ?_
 cases j with
 | zero=>omega
 | succ j=>exact fun ac ha=>⟨j,[(0,i64 (n:Int)),(1,i64 (m:Int)),(6,ptr p),(7,.slice _ (kX (k+1)).length _),(8,i64 ((k:Int)+1+1))],ha.sub ⟨rfl,rfl,rfl,rfl,rfl,trivial⟩,⟨_,_,_,k+1,(((bh.ae 2 rfl).ae 2 rfl).cC 2),(cQ.trans (bJ.trans bQ)),rfl,by omega,qD⟩,Nat.lt_succ_self j⟩
 have o7:k=n:=by have h9:¬ (((k:Int)+1)≤(n:Int)):=ct mf;omega
 subst o7
 refine go 7 ?_
 have hgZ:=(show ak wL s (Q3::AL::os) from (cd.ae 1 rfl)).CL.CL.CL.CL.CL.CL.CL
 obtain⟨P0,UP⟩:∃ P:WP,P=⟨Q3,aj.nil,aj.nil,aj.nil,aj.nil,aj.nil,aj.nil,aj.nil,[]⟩:=⟨_,rfl⟩
 have hgY:ak wL s (AL::P0.W::P0.S::P0.K::P0.B::P0.L::P0.T::P0.D::P0.X::(P0.E++os)):=by rw[UP];exact hgZ.ae 8 rfl
 have Qj:f_ s P0 p ⟨[],[],[],[],[],[],[]⟩ ⟨none,0,none,0,none,0,none,0,none,0,none,0,none,0,[]⟩:=by rw[UP];exact⟨wj,rfl,aW.nil _ _ _ _ _,aW.nil _ _ _ _ _,(aW.nil _ _ _ _ _).off,aW.nil _ _ _ _ _,aW.nil _ _ _ _ _,aW.nil _ _ _ _ _,aW.nil _ _ _ _ _,rfl,fun i v e h=>(by cases h)⟩
 refine CW.loop (σ:=Nat) (fun j E w'=>∃ s' P a W,∃ q:Nat,ak w' s' (AL::P.W::P.S::P.K::P.B::P.L::P.T::P.D::P.X::(P.E++os))∧ar w w'∧Le s s'∧E=[(0,i64 (k:Int)),(1,i64 (m:Int)),(6,ptr p),(7,.slice al (kX k).length cl),(9,i64 ((q:Int)+1))]∧q+j=k∧f_ s' P p W a∧yO m q W) (fun j=>j) k [(0,i64 (k:Int)),(1,i64 (m:Int)),(6,ptr p),(7,.slice al (kX k).length cl),(9,i64 1)] ⟨rfl,rfl,rfl,rfl,rfl,trivial⟩ ⟨s,P0,_,_,0,hgY,cQ,(Le.refl _),rfl,by omega,Qj,⟨rfl,rfl,fun i r v h=>(by cases h),rfl,rfl,rfl,rfl,rfl⟩⟩ ?_
 rintro j2 E wM ⟨sM,P,a,W,q,r8,pT,qC,rfl,hq,hw,hM⟩
 have zK:=zK.up (ax.up _) qC
 have ku:=hw.cells
 refine go 7 ?_
 refine CW.cond rfl (fun il=>?_) (fun il=>?_)
 have BZ:q+1≤k:=by have h9:((q:Int)+1)≤(k:Int):=bU il;omega
 refine go 6 ?_
 rintro b6 w6 Q6 bx bM mn
 refine go 3 ?_
 refine RL.yx 0 (m:Int) rfl rfl rfl rfl bC.out rfl (.inl ⟨rfl,rfl⟩) (.inr ⟨_,_,rfl,rfl⟩) zK.eU (by omega) (by omega) (by rw[Lj];omega) ?_
 rintro pa pc hPa
 obtain⟨aiu,P9,Oo⟩:=(cU.eU bC.out hPa (bx.mem (by simp)))
 refine RL.gQ (i:=0) (xs:=[]) (ys:=(((kX k).take (m:Int).toNat).drop (0:Int).toNat)) rfl rfl rfl rfl bC.out fY.out rfl (ax.one .i64) (rfl) rfl bx rfl (aW.empty mn) P9 Oo ((by simp only[List.length_nil,List.length_drop,List.length_take,Lj];omega)) (by omega) ?_
 rintro a7 c7 A7 w7 bO pZ cj hk7 xX
 rw[List.nil_append,ajI zJ] at pZ ⊢
 have hoV:=pZ
 refine go 1 ?_
 obtain⟨s7,bO,jK,Pg⟩:=(bO).bY
 have NG:=hoV.ci (ax.up _) jK Pg
 have hw:=hw.up jK
 have zK:=zK.up (ax.up _) jK
 refine go 1 ?_
 refine zw (aab bO) ?_
 rintro v8 w8 bD cM rfl
 refine go 2 ?_
 rintro b9 w9 Q9 bA cu rb
 refine go 2 ?_
 rintro eX mE bj cm fS
 refine go 2 ?_
 refine CW.cx (fun E' w'=>∃ mE v vj,E'=[(0,i64 (k:Int)),(1,i64 (m:Int)),(6,ptr p),(7,.slice al (kX k).length cl),(10,ptr b9),(9,i64 ((q:Int)+1))]∧ak w' s7 (mE::AL::P.W::P.S::P.K::P.B::P.L::P.T::P.D::P.X::(P.E++os))∧ar w w'∧mE b9=some (.cells (uj v vj).toArray 35 (0,0))∧(v=if (q:Int)+1≤m then kj (cN m) else kY)∧d_ s7 s7 v.ah vj∧vj.ea=none∧vj.ec=0) ?_ ?_
 refine go 6 ?_
 refine CW.cond rfl (fun Bc=>?_) (fun Bc=>?_)
 refine go 3 ?_
 rintro iS rJ cy dH rX
 refine go 2 ?_
 exact fun ac ha=>⟨[(0,i64 (k:Int)),(1,i64 (m:Int)),(6,ptr p),(7,.slice al (kX k).length cl),(10,ptr b9),(9,i64 ((q:Int)+1))],ha.sub ⟨rfl,rfl,rfl,rfl,rfl,rfl,trivial⟩,⟨_,kY,Hd.ah none 0 none 0 none 0 none 0,rfl,((((((((((cy.ae 9 rfl).ae 9 rfl).ae 9 rfl).ae 9 rfl).ae 9 rfl).ae 9 rfl).ae 9 rfl).ae 9 rfl).ae 9 rfl).ae 9 rfl),(pT.trans (bM.trans (cj.trans (cM.trans (cu.trans (cm.trans dH)))))),rX,(if_neg (by have h9:((q:Int)+1)>(m:Int):=bU Bc;omega)).symm,d_.none _ _,rfl,rfl⟩⟩
 refine go 1 ?_
 exact fun ac ha=>⟨[(0,i64 (k:Int)),(1,i64 (m:Int)),(6,ptr p),(7,.slice al (kX k).length cl),(10,ptr b9),(9,i64 ((q:Int)+1))],ha.sub ⟨rfl,rfl,rfl,rfl,rfl,rfl,trivial⟩,⟨_,kj (cN m),tw _ _,rfl,((((((((((bj.ae 9 rfl).ae 9 rfl).ae 9 rfl).ae 9 rfl).ae 9 rfl).ae 9 rfl).ae 9 rfl).ae 9 rfl).ae 9 rfl).ae 9 rfl),(pT.trans (bM.trans (cj.trans (cM.trans (cu.trans cm))))),fS,(if_pos (by have h9:¬ (((q:Int)+1)>(m:Int)):=ct Bc;omega)).symm,⟨by simp[aq,kj],by simp[aq,kj],NG,bm.nil _ _ _ (Nat.zero_le _),bm.nil _ _ _ (Nat.zero_le _),bm.nil _ _ _ (Nat.zero_le _)⟩,rfl,rfl⟩⟩
 rintro E11 iS ⟨mE,v,vj,rfl,GO,Gw,aos,EG,xU,hea,hec⟩
 have wC:v.ah.bL∧aq .u64 v.af.ab∧aq .i64 v.af.aT∧aq .u64 v.af.aB∧v.ah.entries=[]:=by
  rcases KG EG with EG | EG<;>rw[EG]
  exact⟨⟨⟨by show (kX m).length≤_;rw[Lj];omega,Nat.zero_le _⟩,Nat.zero_le _,fun e he=>(by cases he),Nat.zero_le _⟩,by simp[aq,kj],by simp[aq,kj],by simp[aq,kj],rfl⟩
  exact⟨⟨⟨Nat.zero_le _,Nat.zero_le _⟩,Nat.zero_le _,fun e he=>(by cases he),Nat.zero_le _⟩,by simp[aq,kY],by simp[aq,kY],by simp[aq,kY],rfl⟩
 refine go 4 ?_
 have eK:=Sr (id:=(q:Int)+1) GO xU wC.1 (by simp only[aq];omega) wC.2.1 wC.2.2.1 wC.2.2.2.1
 rw[(dF.YU (i:=(q:Int)+1) (by omega) (by omega) (KG EG) h0).1] at eK
 refine go 1 ?_
 refine zc (eK) ?_
 rintro ui t_ B12 jA nh cw dK ⟨j0,rfl,adh⟩
 have cw:=cw.drop
 have hw:=hw.up nh
 have zK:=zK.up (ax.up _) nh
 have xU:=xU.up nh
 have eH:a.vk.length=q:=by have h1:=hM.tM;rw[hw.cR,List.length_map] at h1;exact h1
 refine go 5 ?_
 rintro oP ji m7 dd eh nQ
 refine go 2 ?_
 rintro nw rK ck g_ tt
 refine go 9 ?_
 refine CW.cond rfl (fun mh=>?_) (fun mh=>?_)
 refine go 6 ?_
 refine CW.ret (nC ?_)
 simp at mh
 refine go 2 ?_
 have dt:=ck.drew
 refine CW.dx [1,3,5,7,9,11,12,14,17,19] [20] 10 1 (fun w=>ay p _ w∧ay oP _ w∧True) ?_
 refine go 7 ?_
 rintro xm md vT eC ie qt
 refine go 1 ?_
 obtain⟨air,PZ,Om⟩:=(tX (R:=uz) (xs:=[jQ ((q:Int)+1) v]) rE.out qt (eC.mem (by simp)) (cF.jy rfl ⟨j0,rfl,adh⟩))
 refine RL.gQ (i:=5) (xs:=W.s) (ys:=[jQ ((q:Int)+1) v]) rfl rfl rfl rfl rE.out akX.out rfl uz.one (rfl) rfl eC rfl (hw.S) PZ Om ((by rw[hM.wY];simp only[List.length_singleton];omega)) (by omega) ?_
 rintro Mj Mu Fy ny eZ Eu hY ae_ afU
 have Ev:=Eu
 refine go 6 ?_
 rintro oM vU fd iC rY
 refine go 2 ?_
 have fU:=fd.drew
 refine CW.dx [1,3,5,7,9,11,12,14,17,19] [20] 10 1 (fun w=>ay p _ w∧ay b9 _ w∧True) ?_
 refine go 7 ?_
 rintro th qh vV e_ jE uR
 refine go 1 ?_
 obtain⟨ais,P2,On⟩:=(tX (R:=td) (xs:=[(v,vj)]) Ln.out uR (e_.mem (by simp)) (cF.jy rfl ⟨rfl,⟨wC.2.1,wC.2.2.1,wC.2.2.2.1,xU.index,xU.ab,xU.av,xU.aD,xU.data⟩⟩))
 refine RL.gQ (i:=7) (xs:=a.vk) (ys:=[(v,vj)]) rfl rfl rfl rfl Ln.out akW.out rfl td.one (rfl) rfl e_ rfl (hw.K) P2 On ((by rw[eH];simp only[List.length_singleton];omega)) (by omega) ?_
 rintro a21 c21 IJ oN fv Po iX afb afV
 have Kh:=Po
 refine go 6 ?_
 rintro qN vW iL lh rZ
 refine go 7 ?_
 cases j2 with
 | zero=>omega
 | succ j2=>exact fun ac ha=>⟨j2,[(0,i64 (k:Int)),(1,i64 (m:Int)),(6,ptr p),(7,.slice al (kX k).length cl),(9,i64 ((q:Int)+1+1))],ha.sub ⟨rfl,rfl,rfl,rfl,rfl,trivial⟩,⟨_,_,_,_,q+1,WP.grow (((((((((((((iL.ae 12 rfl).ae 12 rfl).ae 12 rfl).ae 12 rfl).ae 12 rfl).ae 12 rfl).ae 12 rfl).ae 12 rfl).ae 12 rfl).cC 9).cC 9).cC 9).cC 9),(Gw.trans (dK.trans (eh.trans (g_.trans ((ar.drew _).trans (ie.trans (hY.trans (iC.trans ((ar.drew _).trans (jE.trans (iX.trans lh))))))))))),(qC.trans (jK.trans nh)),rfl,by omega,hw.more Ev Kh wC.2.2.2.2 hea hec rZ rfl,hM.more EG⟩,Nat.lt_succ_self j2⟩
 refine go 7 ?_
 refine CW.ret (nC ?_)
 have Wf:q=k:=by have h9:¬ (((q:Int)+1)≤(k:Int)):=ct il;omega
 subst Wf
 exact⟨_,P,p,a,W,rfl,qC,(((((((((r8.ae 8 rfl).ae 8 rfl).ae 8 rfl).ae 8 rfl).ae 8 rfl).ae 8 rfl).ae 8 rfl).ae 8 rfl).cC 8),pT,hw,hM.cY cH (by omega) (by omega),hM.au.2.2.2.1,hM.au.2.2.1,hM.au.2.2.2.2,hM.au.1,hM.which⟩
end
end Go.Lw
namespace Go.Lw
open Go.Proofs
section
variable {H:Type} {enc:TypeId × Value→H} {W:World}
theorem aiD:Op enc W 57 (ax .i64) (fun _=>0):=XW Tryz.underlying57
theorem aiB:Op enc W 59 (fun _ vs (x:Int × Int)=>vs=[i64 x.1,i64 x.2]∧aq .i64 x.1∧aq .i64 x.2) (fun _=>0) :=
 (aiG Tryz.underlying59 (by kernel_rfl) (XV rfl (by kernel_rfl:_=1) aiD (XV rfl (by kernel_rfl:_=1) QW (aiE _))) abp).imp
  (fun x=>(x.1,x.2.1)) (fun s vs x h=>by
   obtain⟨_,_,rfl,_,⟨rfl,r1⟩,_,_,rfl,_,⟨rfl,r2⟩,h3⟩:=h
   cases (show _=[] from h3)
   exact⟨rfl,r1,r2⟩) (fun _=>Nat.zero_le _)
end
end Go.Lw
namespace Go.Lw
open Go.Proofs
open dF (Wd gP dG G np kj kY)
open jj (TP DP SL fg sR sE iz)
attribute [local irreducible] RL RA
theorem og.one:lN og:=fun _ _ _ ⟨h1,_⟩ v hv=>by
 subst h1
 simp only[List.mem_cons,List.not_mem_nil,or_false] at hv
 rcases hv with rfl | rfl<;>rfl
section
variable {H:Type} {enc:TypeId × Value→H} {W:World}
theorem aiC:Op enc W 91 (Mb og 2) (fun xs=>xs.length) :=
 (aiF Tryz.underlying91 (by kernel_rfl:_=2) (by decide) (aiB.imp (bk':=fun _=>0) (fun x=>(⟨x.1,x.2⟩:L0)) (fun _ _ _ h=>h) (fun _=>Nat.le_refl _)) Te abq).imp id (fun _ _ _ h=>h) (fun _=>Nat.le_max_left _ _)
end
theorem ak.MN {w:World} {s:aj} {os:List aj}:∀ {Es:List aj},ak w s (Es++os)→ak w s os
 | [],h=>h
 | _::_,h=>ak.MN (ak.drop h)
theorem ahM {n m:Nat} {W:Wd} (h1:1≤m) (zJ:m≤n) (hn:n≤5) (bV:W.s.length=n) (hs:∀ (i:Nat) r,W.s[i]?=some r→r=if (i:Int)+1≤m then jQ (i+1) (kj (cN m)) else jQ (i+1) kY):TP n (cN m) 1 0 0 W.s []:=by
 have hv:∀ v:Int,v∈kX m↔1≤v∧v≤m:=fun v=>by
  simp only[kX,List.mem_map,List.mem_range]
  constructor
  rintro⟨x,hx,rfl⟩;omega
  rintro⟨h1,h2⟩;exact⟨(v-1).toNat,by omega,by omega⟩
 refine jj.abj bV hn (Mw h1 (by omega)) (fun v sv=>?_) rfl hv hs h1
 have:v∈kX m:=by simpa using sv
 have:=(hv v).1 this;omega
section
variable {w:World} {s:aj} {os:List aj}
theorem aaE {nodes av:Int} {l:List L0} {la:Option Addr} {lc:Nat} (hg:ak w s os) (h1:aq .i64 nodes) (h2:aq .i64 av) (hl:bm og 2 s la lc l) (hn:l.length≤1048576) :
  Calls Tryz.prog 7 #[i64 nodes,i64 av,.slice la l.length lc] w (aw w s os fun _ _ q=>q = .bool true):=by
 refine enter (l:=[i64 nodes,i64 av,.slice la l.length lc]) Tryz.func7 rfl Tryz.ntmps7 rfl ?_
 refine go 7 ?_
 refine zc (aan hg) ?_
 rintro v1 s1 B1 w1 eu aH aN rfl
 have aH:=aH.drop
 refine go 7 ?_
 refine zw (Q_ (n:=4) aH h1 (by omega) (by omega)) ?_
 rintro v2 w2 aS aR ⟨k5,Eh,rfl⟩
 refine go 2 ?_
 rw[show (2:Int)+(k5:Int)=((k5+2:Nat):Int) by omega]
 refine go 8 ?_
 refine zw (Q_ (n:=k5+2) aS h2 (by omega) (by omega)) ?_
 rintro v3 w3 aP bw ⟨kv,qA,rfl⟩
 refine go 2 ?_
 rw[show (1:Int)+(kv:Int)=((kv+1:Nat):Int) by omega]
 refine RL.rP rfl rfl rfl rfl rfl abx.out (aaw (n:=k5+2) (m:=kv+1) aP (by omega) (by omega) (by omega)) ?_
 rintro eM wM ⟨sM,P,p,a,W,rfl,qC,r8,pT,hw,hW,EJ,oF,WJ,hz4,hz5⟩
 have hT0:=ahM (n:=k5+2) (m:=kv+1) (W:=W) (by omega) (by omega) (by omega) hW.len hz5
 refine⟨_,rfl,trivial,?_⟩
 refine go 12 ?_
 refine RL.part 38 rfl (fun lU=>?_) (fun lU=>?_)
 simp at lU
 refine go 4 ?_
 refine CW.cond rfl (fun gi=>?_) (fun gi=>?_)
 simp at gi
 refine go 7 ?_
 refine CW.loop (σ:=Nat) (fun j E w'=>∃ s' P a W c B,∃ k:Nat,ak w' s' (P.W::P.S::P.K::P.B::P.L::P.T::P.D::P.X::(P.E++os))∧ar w w'∧Le s s'∧E=[(2,.slice la l.length lc),(8,i64 ((k5+2:Nat):Int)),(9,ptr p),(11,i64 k)]∧k+j=l.length∧k≤6∧f_ s' P p W a∧qP (k5+2) (cN (kv+1)) c W∧c≤60000*k∧B≤1+2*k∧W.aM=[]∧TP (k5+2) (cN (kv+1)) B 0 0 W.s []) (fun j=>j) l.length [(2,.slice la l.length lc),(8,i64 ((k5+2:Nat):Int)),(9,ptr p),(11,i64 0)] ⟨rfl,rfl,rfl,rfl,trivial⟩ ⟨_,P,a,W,0,1,0,((((((((r8.ae 7 rfl).ae 7 rfl).ae 7 rfl).ae 7 rfl).ae 7 rfl).ae 7 rfl).ae 7 rfl).ae 7 rfl),(aN.trans (aR.trans (bw.trans pT))),(eu.trans qC),rfl,by omega,by omega,hw,⟨_,hW,by rw[EJ];exact Nat.le_refl _,by rw[oF];exact Nat.le_refl _⟩,by omega,by omega,hz4,hT0⟩ ?_
 rintro j E wL ⟨sL,P,a,W,c,B,k,cd,cQ,fk,rfl,hk,zF,hw,hW,hc,hB,pU,hT⟩
 have hl:=hl.up og.up fk
 refine go 8 ?_
 refine RL.part 46 rfl (fun mh=>?_) (fun mh=>?_)
 refine go 4 ?_
 refine CW.cond rfl (fun Be=>?_) (fun Be=>?_)
 have be:k<l.length:=by have h9:(k:Int)<(l.length:Int):=bU mh;omega
 have hl6:k<6:=by have h9:(k:Int)<6:=bU Be;omega
 refine go 6 ?_
 have BK:ak _ sL (P.os++os):=cd
 refine RL.rP rfl rfl rfl rfl rfl Tm.out (YH BK hw hW (B:=B) (by rw[pU];exact hT) (by omega) (by omega)) ?_
 rintro e3 w3 ⟨W1,l1,q1,zn,cz,Gh,iq,agS,s1,P1,a1,rfl,eu,J1,D1,jP⟩
 have hl:=hl.up og.up eu
 have J1:ak w3 s1 (P1.W::P1.S::P1.K::P1.B::P1.L::P1.T::P1.D::P1.X::(P1.E++os)):=J1
 have ku:=jP.cells
 obtain⟨zP,Kk⟩:=List.getElem?_eq_some_iff.1 iq
 refine⟨_,rfl,trivial,?_⟩
 refine go 8 ?_
 refine CW.cond rfl (fun xC=>?_) (fun xC=>?_)
 exact absurd (bU xC) (by omega)
 refine go 8 ?_
 refine RL.dX rfl rfl rfl rfl rE.out rfl rfl jP.S.eU (by omega) (by omega) ?_
 rintro qa1 vs1 Ks oo ⟨BN,rfl,zi⟩
 have zi:fZ s1 W1.s[l1] BN:=zi
 have oo:Holds P1.S qa1 (jR W1.s[l1] BN):=oo
 rw[Kk] at zi oo
 obtain⟨gg,zb,qZ,UK⟩:=id zn
 have bW:=zb.node l1 _ iq
 refine go 1 ?_
 refine RL.gX (j:=4) (us:=(yq q1.ah BN)) rfl rfl rfl rfl C2.out rfl (oo) (J1.mem (by simp)) rfl rfl ?_
 refine go 1 ?_
 refine zc (SC J1 zi.ah (bW.gw.ah.bL (by omega)) (bW.gw.ah.Xd (by omega))) ?_
 rintro v4 s4 B4 w4 fL bp bJ ⟨vs14,rfl,adj⟩
 have bp:=bp.drop
 have jP:=jP.up fL
 have hl:=hl.up og.up fL
 obtain⟨ua,uc,ub,ud,rfl,HI,yl⟩:=adj
 refine go 5 ?_
 rintro b5 w5 Q5 bh bQ mm
 refine go 2 ?_
 rintro w6 Q6 bx bM mn
 refine go 7 ?_
 refine RL.dX rfl rfl rfl rfl ajS.out rfl rfl hl.eU (by omega) (by omega) ?_
 rintro qa2 vs2 oE eS ⟨rfl,zG,ve⟩
 have zG:aq .i64 l[k].ao:=zG
 have ve:aq .i64 l[k].node:=ve
 refine RL.gX (j:=0) (us:=_) rfl rfl rfl rfl akw.out rfl (eS) (bx.sh) rfl rfl ?_
 refine go 1 ?_
 rintro b7 w7 Q7 bO cj qu
 refine go 2 ?_
 rintro w8 Q8 bD cM ra
 refine go 8 ?_
 refine zw (Q_ (n:=k5+2) bD ve (by omega) (by omega)) ?_
 rintro v9 w9 bA cu ⟨kn,o7,rfl⟩
 refine go 2 ?_
 rw[show (1:Int)+(kn:Int)=((kn+1:Nat):Int) by omega]
 refine go 2 ?_
 rintro eX mE bj cm fS
 refine go 7 ?_
 refine zc (ajh (c:=(ce q1.ah).1) (k:=l[k].ao) (n:=((kn+1:Nat):Int)) bj ⟨_,_,_,_,rfl,HI,yl⟩ (vY (bW.gw.ah.bL (by omega))).ic zG (by simp only[aq];omega)) ?_
 rintro uh mA B11 iS dy cy dH ⟨us81,rfl,U0⟩
 have cy:=cy.drop
 have jP:=jP.up dy
 have hl:=hl.up og.up dy
 have Gl:=U0
 obtain⟨xa,xc,xb,xd,rfl,hxa,tL⟩:=U0
 refine go 5 ?_
 rintro kJ jA me cw dK ml
 refine go 2 ?_
 rintro ji m7 dd eh nQ
 refine go 3 ?_
 have ao8:=fS
 have ao9:=nQ
 obtain⟨x,hx⟩:∃ x,x=iz l[k].ao ((kn+1:Nat):Int):=⟨_,rfl⟩
 have lk:vQ 200 x:=by rw[hx];exact WO rfl (Nat.zero_le _)
 have cq:∀ s,ux s x cG.none none 0:=fun s=>by rw[hx];exact WQ rfl (by simp[aq,iz]) (by simp[aq,iz]) zG (by simp only[aq,iz];omega) (by simp[aq,iz]) (bm.nil _ _ _ (Nat.zero_le _))
 have hF:=bW.gw
 have uM:=Jn (n:=dA q1) hF lk (by omega)
 have tH:=M3 hF lk (by omega)
 have oD:q1.part.data.length≤70368744177664:=Nat.le_trans hF.part (by omega)
 have Gy:=AV hF lk (by omega)
 have cD:=Gh.change iq agS (by omega) (kd:=l[k].ao) (x:=((kn+1:Nat):Int)) ⟨by omega,by omega⟩ rfl
 rw[←hx] at cD
 refine CW.cx (fun E' w'=>∃ s' QA pA hA,E'=[(2,.slice la l.length lc),(8,i64 ((k5+2:Nat):Int)),(9,ptr p),(11,i64 k),(12,i64 l1),(15,ptr b7),(16,ptr kJ),(17,i64 (gb (ce q1.ah).1 l[k].ao ((kn+1:Nat):Int)).2),(18,ptr pA),(20,i64 (bI q1 x).2.2)]∧ak w' s' (QA::m7::mE::P1.W::P1.S::P1.K::P1.B::P1.L::P1.T::P1.D::P1.X::(P1.E++os))∧ar w w'∧Le s s'∧Le mA s'∧QA pA=some (.cells (jR (bI q1 x).1 hA).toArray 44 (0,0))∧fZ s' (bI q1 x).1 hA) ?_ ?_
 have ck:=dd.drew
 refine CW.lb (.dV [(true,0),(true,1),(true,2),(true,3),(true,4),(true,5),(true,6),(true,7),(true,8)] (.dV [(false,9),(true,10),(true,11),(true,12),(true,13)] (.line [(false,14),(false,15),(false,16),(false,17),(false,18)]) (.line [(false,15),(false,14),(false,16),(false,17),(false,18)])) (.dV [] (.dV [(false,14)] (.line [(false,9),(true,10),(true,11),(true,12),(true,13),(false,15),(false,16),(false,17),(false,18)]) (.line [(false,15),(false,9),(true,10),(true,11),(true,12),(true,13),(false,16),(false,17),(false,18)])) (.dV [(false,15)] (.line [(false,9),(true,10),(true,11),(true,12),(true,13),(false,14),(false,16),(false,17),(false,18)]) (.line [(false,14),(false,9),(true,10),(true,11),(true,12),(true,13),(false,16),(false,17),(false,18)])))) (fun w=>ay p _ w∧ay b7 _ w∧In P1.S w∧True) mixed (by kernel_rfl) (by kernel_rfl) (by kernel_rfl) (by kernel_rfl) (⟨ck.bS (by simp) ku,ck.bS (by simp) fS,ck.mem (by simp),trivial⟩) ?_
 refine RT.pre (S:=fun w=>ay p _ w∧ay b7 _ w∧In P1.S w∧True) (⟨ck.bS (by simp) ku,ck.bS (by simp) fS,ck.mem (by simp),trivial⟩) ?_
 refine go 5 ?_
 refine RL.dX rfl rfl rfl rfl rE.out rfl rfl jP.S.eU (by omega) (by omega) ?_
 rintro qa3 vs3 HL pP ⟨GU,rfl,uK⟩
 have uK:fZ mA W1.s[l1] GU:=uK
 have pP:Holds P1.S qa3 (jR W1.s[l1] GU):=pP
 rw[Kk] at uK pP
 refine RL.rB (j:=0) (us:=_) rfl rfl rfl rfl Is.out rfl (pP) (fun w h=>h.2.2.1) rfl rfl ?_
 refine go 3 ?_
 refine RT.eE (S:=fun w=>ay p _ w∧ay b7 _ w∧In P1.S w∧True) (⟨ck.bS (by simp) ku,ck.bS (by simp) fS,ck.mem (by simp),trivial⟩) (RT.pre (S:=fun w=>ay p _ w∧ay b7 _ w∧In P1.S w∧True) (⟨ck.bS (by simp) ku,ck.bS (by simp) fS,ck.mem (by simp),trivial⟩) ?_) (RT.pre (S:=fun w=>ay p _ w∧ay b7 _ w∧In P1.S w∧True) (⟨ck.bS (by simp) ku,ck.bS (by simp) fS,ck.mem (by simp),trivial⟩) ?_)
 subst hx
 refine go 1 ?_
 refine zc (uA (i:=iz l[k].ao ((kn+1:Nat):Int)) (y:=cG.none) (da:=none) (dc:=0) ck uK (cq _) (hF.aq (n:=dA q1)) uM.aq Gy oD) ?_
 rintro yD CT B15 n_ gn dt iW ⟨g1,g2,rfl,wd,JC⟩
 have dt:=dt.drop
 have jP:=jP.up gn
 have hl:=hl.up og.up gn
 refine go 6 ?_
 refine RT.eE (S:=fun w=>ay p _ w∧ay b7 _ w∧In P1.S w∧True) (⟨dt.bS (by simp) ku,dt.bS (by simp) fS,dt.mem (by simp),trivial⟩) (RT.di (S:=fun w=>ay p _ w∧ay b7 _ w∧In P1.S w∧True) (⟨dt.bS (by simp) ku,dt.bS (by simp) fS,dt.mem (by simp),trivial⟩) ?_) (RT.di (S:=fun w=>ay p _ w∧ay b7 _ w∧In P1.S w∧True) (⟨dt.bS (by simp) ku,dt.bS (by simp) fS,dt.mem (by simp),trivial⟩) ?_)
 refine go 1 ?_
 rintro xm md vT eC ie qt
 refine go 2 ?_
 rintro qV ny qn eZ hY nb
 refine go 2 ?_
 rintro oM vU fd iC rY
 refine go 2 ?_
 rintro pF qS fU jr o0
 refine go 3 ?_
 exact fun ac ha=>⟨[(2,.slice la l.length lc),(8,i64 ((k5+2:Nat):Int)),(9,ptr p),(11,i64 k),(12,i64 l1),(15,ptr b7),(16,ptr kJ),(17,i64 (gb (ce q1.ah).1 l[k].ao ((kn+1:Nat):Int)).2),(18,ptr xm),(20,i64 (bI q1 (iz l[k].ao ((kn+1:Nat):Int))).2.2)],ha.sub ⟨rfl,rfl,rfl,rfl,rfl,rfl,rfl,rfl,rfl,rfl,trivial⟩,⟨_,_,xm,g1,rfl,(((((((((((((fU.ae 12 rfl).ae 12 rfl).ae 12 rfl).ae 12 rfl).ae 12 rfl).ae 12 rfl).ae 12 rfl).ae 12 rfl).ae 11 rfl).ae 11 rfl).ae 11 rfl).cC 11).cC 11),(cQ.trans (D1.trans (bJ.trans (bQ.trans (bM.trans (cj.trans (cM.trans (cu.trans (cm.trans (dH.trans (dK.trans (eh.trans ((ar.drew _).trans (iW.trans (ie.trans (hY.trans (iC.trans jr))))))))))))))))),(fk.trans (eu.trans (fL.trans (dy.trans gn)))),gn,rY,wd⟩⟩
 refine go 1 ?_
 rintro th qh vV e_ jE uR
 refine go 2 ?_
 rintro rO oN Aq fv iX xF
 refine go 2 ?_
 rintro qN vW iL lh rZ
 refine go 2 ?_
 rintro xe Ar iM pR D2
 refine go 3 ?_
 exact fun ac ha=>⟨[(2,.slice la l.length lc),(8,i64 ((k5+2:Nat):Int)),(9,ptr p),(11,i64 k),(12,i64 l1),(15,ptr b7),(16,ptr kJ),(17,i64 (gb (ce q1.ah).1 l[k].ao ((kn+1:Nat):Int)).2),(18,ptr rO),(20,i64 (bI q1 (iz l[k].ao ((kn+1:Nat):Int))).2.2)],ha.sub ⟨rfl,rfl,rfl,rfl,rfl,rfl,rfl,rfl,rfl,rfl,trivial⟩,⟨_,_,rO,g1,rfl,(((((((((((((iM.ae 12 rfl).ae 12 rfl).ae 12 rfl).ae 12 rfl).ae 12 rfl).ae 12 rfl).ae 12 rfl).ae 12 rfl).ae 11 rfl).ae 11 rfl).ae 10 rfl).cC 11).cC 11),(cQ.trans (D1.trans (bJ.trans (bQ.trans (bM.trans (cj.trans (cM.trans (cu.trans (cm.trans (dH.trans (dK.trans (eh.trans ((ar.drew _).trans (iW.trans (jE.trans (iX.trans (lh.trans pR))))))))))))))))),(fk.trans (eu.trans (fL.trans (dy.trans gn)))),gn,rZ,wd⟩⟩
 refine go 1 ?_
 refine RT.eE (S:=fun w=>ay p _ w∧ay b7 _ w∧In P1.S w∧True) (⟨ck.bS (by simp) ku,ck.bS (by simp) fS,ck.mem (by simp),trivial⟩) (RT.pre (S:=fun w=>ay p _ w∧ay b7 _ w∧In P1.S w∧True) (⟨ck.bS (by simp) ku,ck.bS (by simp) fS,ck.mem (by simp),trivial⟩) ?_) (RT.pre (S:=fun w=>ay p _ w∧ay b7 _ w∧In P1.S w∧True) (⟨ck.bS (by simp) ku,ck.bS (by simp) fS,ck.mem (by simp),trivial⟩) ?_)
 refine go 1 ?_
 rintro oQ uk As gB nP xG
 refine go 2 ?_
 refine RT.eE (S:=fun w=>ay p _ w∧ay b7 _ w∧In P1.S w∧True) (⟨gB.bS (by simp) ku,gB.bS (by simp) fS,gB.mem (by simp),trivial⟩) (RT.di (S:=fun w=>ay p _ w∧ay b7 _ w∧In P1.S w∧True) (⟨gB.bS (by simp) ku,gB.bS (by simp) fS,gB.mem (by simp),trivial⟩) ?_) (RT.di (S:=fun w=>ay p _ w∧ay b7 _ w∧In P1.S w∧True) (⟨gB.bS (by simp) ku,gB.bS (by simp) fS,gB.mem (by simp),trivial⟩) ?_)
 subst hx
 refine go 1 ?_
 refine zc (uA (i:=iz l[k].ao ((kn+1:Nat):Int)) (y:=cG.none) (da:=none) (dc:=0) gB uK (cq _) (hF.aq (n:=dA q1)) uM.aq Gy oD) ?_
 rintro v25 Rp B25 ul wr js ou ⟨g1,g2,rfl,wd,JC⟩
 have js:=js.drop
 have jP:=jP.up wr
 have hl:=hl.up og.up wr
 refine go 6 ?_
 rintro FM un yP gk mJ wh
 refine go 2 ?_
 rintro rH Di iN mj zp
 refine go 2 ?_
 rintro vH Av jG oZ uT
 refine go 3 ?_
 exact fun ac ha=>⟨[(2,.slice la l.length lc),(8,i64 ((k5+2:Nat):Int)),(9,ptr p),(11,i64 k),(12,i64 l1),(15,ptr b7),(16,ptr kJ),(17,i64 (gb (ce q1.ah).1 l[k].ao ((kn+1:Nat):Int)).2),(18,ptr oQ),(20,i64 (bI q1 (iz l[k].ao ((kn+1:Nat):Int))).2.2)],ha.sub ⟨rfl,rfl,rfl,rfl,rfl,rfl,rfl,rfl,rfl,rfl,trivial⟩,⟨_,_,oQ,g1,rfl,(((((((((((((jG.ae 12 rfl).ae 12 rfl).ae 12 rfl).ae 12 rfl).ae 12 rfl).ae 12 rfl).ae 12 rfl).ae 12 rfl).ae 11 rfl).ae 11 rfl).ae 11 rfl).cC 11).cC 11),(cQ.trans (D1.trans (bJ.trans (bQ.trans (bM.trans (cj.trans (cM.trans (cu.trans (cm.trans (dH.trans (dK.trans (eh.trans ((ar.drew _).trans (nP.trans (ou.trans (mJ.trans (mj.trans oZ))))))))))))))))),(fk.trans (eu.trans (fL.trans (dy.trans wr)))),wr,zp,wd⟩⟩
 refine go 1 ?_
 rintro S8 vI Dk i_ pS xH
 refine go 1 ?_
 subst hx
 refine go 1 ?_
 refine zc (uA (i:=iz l[k].ao ((kn+1:Nat):Int)) (y:=cG.none) (da:=none) (dc:=0) i_ uK (cq _) (hF.aq (n:=dA q1)) uM.aq Gy oD) ?_
 rintro LA Rq B30 yG sf ja rV ⟨g1,g2,rfl,wd,JC⟩
 have ja:=ja.drop
 have jP:=jP.up sf
 have hl:=hl.up og.up sf
 refine go 6 ?_
 rintro Ah Ss kQ uO N8
 refine go 2 ?_
 rintro sW Aw iD ov r6
 refine go 3 ?_
 exact fun ac ha=>⟨[(2,.slice la l.length lc),(8,i64 ((k5+2:Nat):Int)),(9,ptr p),(11,i64 k),(12,i64 l1),(15,ptr b7),(16,ptr kJ),(17,i64 (gb (ce q1.ah).1 l[k].ao ((kn+1:Nat):Int)).2),(18,ptr oQ),(20,i64 (bI q1 (iz l[k].ao ((kn+1:Nat):Int))).2.2)],ha.sub ⟨rfl,rfl,rfl,rfl,rfl,rfl,rfl,rfl,rfl,rfl,trivial⟩,⟨_,_,oQ,g1,rfl,(((((((((((((iD.ae 12 rfl).ae 12 rfl).ae 12 rfl).ae 12 rfl).ae 12 rfl).ae 12 rfl).ae 12 rfl).ae 12 rfl).ae 11 rfl).ae 11 rfl).ae 11 rfl).cC 11).cC 11),(cQ.trans (D1.trans (bJ.trans (bQ.trans (bM.trans (cj.trans (cM.trans (cu.trans (cm.trans (dH.trans (dK.trans (eh.trans ((ar.drew _).trans (nP.trans (pS.trans (rV.trans (uO.trans ov))))))))))))))))),(fk.trans (eu.trans (fL.trans (dy.trans sf)))),sf,N8,wd⟩⟩
 refine go 1 ?_
 rintro I_ qi Dl c_ gR xI
 refine go 2 ?_
 refine RT.eE (S:=fun w=>ay p _ w∧ay b7 _ w∧In P1.S w∧True) (⟨c_.bS (by simp) ku,c_.bS (by simp) fS,c_.mem (by simp),trivial⟩) (RT.di (S:=fun w=>ay p _ w∧ay b7 _ w∧In P1.S w∧True) (⟨c_.bS (by simp) ku,c_.bS (by simp) fS,c_.mem (by simp),trivial⟩) ?_) (RT.di (S:=fun w=>ay p _ w∧ay b7 _ w∧In P1.S w∧True) (⟨c_.bS (by simp) ku,c_.bS (by simp) fS,c_.mem (by simp),trivial⟩) ?_)
 subst hx
 refine go 1 ?_
 refine zc (uA (i:=iz l[k].ao ((kn+1:Nat):Int)) (y:=cG.none) (da:=none) (dc:=0) c_ uK (cq _) (hF.aq (n:=dA q1)) uM.aq Gy oD) ?_
 rintro RQ Yy B34 yH wv jt rW ⟨g1,g2,rfl,wd,JC⟩
 have jt:=jt.drop
 have jP:=jP.up wv
 have hl:=hl.up og.up wv
 refine go 6 ?_
 rintro Ja uo L8 jH ow Gx
 refine go 2 ?_
 rintro nz I2 cS gS D3
 refine go 2 ?_
 rintro qj Su dh im N9
 refine go 3 ?_
 exact fun ac ha=>⟨[(2,.slice la l.length lc),(8,i64 ((k5+2:Nat):Int)),(9,ptr p),(11,i64 k),(12,i64 l1),(15,ptr b7),(16,ptr kJ),(17,i64 (gb (ce q1.ah).1 l[k].ao ((kn+1:Nat):Int)).2),(18,ptr Ja),(20,i64 (bI q1 (iz l[k].ao ((kn+1:Nat):Int))).2.2)],ha.sub ⟨rfl,rfl,rfl,rfl,rfl,rfl,rfl,rfl,rfl,rfl,trivial⟩,⟨_,_,Ja,g1,rfl,(((((((((((((dh.ae 12 rfl).ae 12 rfl).ae 12 rfl).ae 12 rfl).ae 12 rfl).ae 12 rfl).ae 12 rfl).ae 12 rfl).ae 11 rfl).ae 11 rfl).ae 10 rfl).cC 11).cC 11),(cQ.trans (D1.trans (bJ.trans (bQ.trans (bM.trans (cj.trans (cM.trans (cu.trans (cm.trans (dH.trans (dK.trans (eh.trans ((ar.drew _).trans (gR.trans (rW.trans (ow.trans (gS.trans im))))))))))))))))),(fk.trans (eu.trans (fL.trans (dy.trans wv)))),wv,D3,wd⟩⟩
 refine go 1 ?_
 rintro S9 Ai L_ mM uP Vb
 refine go 1 ?_
 subst hx
 refine go 1 ?_
 refine zc (uA (i:=iz l[k].ao ((kn+1:Nat):Int)) (y:=cG.none) (da:=none) (dc:=0) mM uK (cq _) (hF.aq (n:=dA q1)) uM.aq Gy oD) ?_
 rintro ID Li B39 C7 rh nf uQ ⟨g1,g2,rfl,wd,JC⟩
 have nf:=nf.drop
 have jP:=jP.up rh
 have hl:=hl.up og.up rh
 refine go 6 ?_
 rintro nA Ma en gT JO
 refine go 2 ?_
 rintro IF Sv tx DY Vc
 refine go 3 ?_
 exact fun ac ha=>⟨[(2,.slice la l.length lc),(8,i64 ((k5+2:Nat):Int)),(9,ptr p),(11,i64 k),(12,i64 l1),(15,ptr b7),(16,ptr kJ),(17,i64 (gb (ce q1.ah).1 l[k].ao ((kn+1:Nat):Int)).2),(18,ptr S9),(20,i64 (bI q1 (iz l[k].ao ((kn+1:Nat):Int))).2.2)],ha.sub ⟨rfl,rfl,rfl,rfl,rfl,rfl,rfl,rfl,rfl,rfl,trivial⟩,⟨_,_,S9,g1,rfl,(((((((((((((tx.ae 12 rfl).ae 12 rfl).ae 12 rfl).ae 12 rfl).ae 12 rfl).ae 12 rfl).ae 12 rfl).ae 12 rfl).ae 11 rfl).ae 11 rfl).ae 10 rfl).cC 11).cC 11),(cQ.trans (D1.trans (bJ.trans (bQ.trans (bM.trans (cj.trans (cM.trans (cu.trans (cm.trans (dH.trans (dK.trans (eh.trans ((ar.drew _).trans (gR.trans (uP.trans (uQ.trans (gT.trans DY))))))))))))))))),(fk.trans (eu.trans (fL.trans (dy.trans rh)))),rh,JO,wd⟩⟩
 rintro E16 md ⟨Ih,QA,pA,hA,rfl,OW,N4,O_,Pa,hcA,hAA⟩
 have jP:=jP.up Pa
 have hl:=hl.up og.up Pa
 have Gl:=fH.up _ _ _ _ Pa Gl
 refine go 6 ?_
 refine CW.cond rfl (fun Ju=>?_) (fun Ju=>?_)
 refine go 7 ?_
 refine CW.cond rfl (fun Nf=>?_) (fun Nf=>?_)
 exact absurd (cD.1 (by simpa using Ju)) (by simpa using Nf)
 refine go 7 ?_
 cases j with
 | zero=>omega
 | succ j=>exact fun ac ha=>⟨j,[(2,.slice la l.length lc),(8,i64 ((k5+2:Nat):Int)),(9,ptr p),(11,i64 ((k:Int)+1))],ha.sub ⟨rfl,rfl,rfl,rfl,trivial⟩,⟨_,P1,a1,W1,c+25000,B,k+1,(((((((((((OW.ae 10 rfl).ae 10 rfl).ae 10 rfl).ae 10 rfl).ae 10 rfl).ae 10 rfl).ae 10 rfl).ae 10 rfl).cC 8).cC 8).cC 8),N4,O_,rfl,by omega,by omega,jP,zn,by omega,by omega,cz,Gh.start⟩,Nat.lt_succ_self j⟩
 refine go 7 ?_
 refine CW.cond rfl (fun A_=>?_) (fun A_=>?_)
 refine go 6 ?_
 cases j with
 | zero=>omega
 | succ j=>exact fun ac ha=>⟨j,[(2,.slice la l.length lc),(8,i64 ((k5+2:Nat):Int)),(9,ptr p),(11,i64 ((k:Int)+1))],ha.sub ⟨rfl,rfl,rfl,rfl,trivial⟩,⟨_,P1,a1,W1,c+25000,B,k+1,(((((((((((OW.ae 10 rfl).ae 10 rfl).ae 10 rfl).ae 10 rfl).ae 10 rfl).ae 10 rfl).ae 10 rfl).ae 10 rfl).cC 8).cC 8).cC 8),N4,O_,rfl,by omega,by omega,jP,zn,by omega,by omega,cz,Gh.start⟩,Nat.lt_succ_self j⟩
 obtain⟨he,fT,ot⟩:=(cD.2 (by simpa using Ju)).resolve_left (by simpa using A_)
 have rq:=ot.room (Nat.zero_le _)
 have tG:=ot.bL (k:=l1) (q:=(bI q1 x).1) (by rw[List.getElem?_set,if_pos rfl,if_pos zP])
 refine go 6 ?_
 refine zc (SC OW hAA.ah (tH.ah.bL (by omega)) (tH.ah.Xd (by omega))) ?_
 rintro v42 YA B42 LC En wk Gr ⟨vs108,rfl,UB⟩
 have wk:=wk.drop
 have jP:=jP.up En
 have hl:=hl.up og.up En
 have Gl:=fH.up _ _ _ _ En Gl
 rw[fT] at UB
 obtain⟨ya,yc,yb,yd,rfl,hya,Kx⟩:=UB
 refine go 5 ?_
 rintro b43 LG Q43 wl DZ Vd
 refine go 2 ?_
 rintro LH Sw wn D0 JP
 refine go 9 ?_
 refine RL.part 113 rfl (fun xy=>?_) (fun xy=>?_)
 rw[he] at xy
 exact absurd xy (by decide)
 refine go 3 ?_
 refine zw (Mg wn ⟨_,_,_,_,rfl,hya,Kx⟩ Gl) ?_
 rintro v45 LI uW Gs rfl
 refine go 4 ?_
 refine CW.cond rfl (fun F2=>?_) (fun F2=>?_)
 exact absurd F2 (by decide)
 refine go 7 ?_
 subst hx
 refine RL.rP rfl rfl rfl rfl rfl Mz.out (M6 (x:=iz l[k].ao ((kn+1:Nat):Int)) (y:=cG.none) (da:=none) (dc:=0) (show ak _ YA (P1.os++os) from ((((((((((((uW.ae 11 rfl).ae 11 rfl).ae 11 rfl).ae 11 rfl).ae 11 rfl).ae 11 rfl).ae 11 rfl).ae 11 rfl).cC 8).cC 8).cC 8).cC 8)) jP (zn.Yh (by show ¬ (4:Int)=2;decide)) iq (Nat.zero_le _) lk (cq _) (by omega) he (by rw[cz];simpa using rq) tG) ?_
 rintro e5 w5 ⟨W5,hW5,PU,mm,s5,P5,a5,rfl,dz,OU,adO,HM⟩
 have OU:ak w5 s5 (P5.W::P5.S::P5.K::P5.B::P5.L::P5.T::P5.D::P5.X::(P5.E++os)):=OU
 have hl:=hl.up og.up dz
 refine⟨_,rfl,trivial,?_⟩
 refine go 4 ?_
 have hT5:TP (k5+2) (cN (kv+1)) (B+2) 0 0 W5.s W5.aM:=by rw[PU,mm,cz];exact ot
 refine RL.rP rfl rfl rfl rfl rfl Tm.out (YH (show ak _ s5 (P5.os++os) from OU) HM hW5 (B:=B+2) hT5 (by omega) (by omega)) ?_
 rintro e6 w6 ⟨W6,l6,q6,hW6,mn,hS6,hq6,ap_,s6,P6,a6,rfl,jv,OV,adP,hw6⟩
 have OV:ak w6 s6 (P6.W::P6.S::P6.K::P6.B::P6.L::P6.T::P6.D::P6.X::(P6.E++os)):=OV
 refine⟨_,rfl,trivial,?_⟩
 refine go 2 ?_
 refine CW.cond rfl (fun Un=>?_) (fun Un=>?_)
 exact absurd (bU Un) (by omega)
 refine go 6 ?_
 cases j with
 | zero=>omega
 | succ j=>exact fun ac ha=>⟨j,[(2,.slice la l.length lc),(8,i64 ((k5+2:Nat):Int)),(9,ptr p),(11,i64 ((k:Int)+1))],ha.sub ⟨rfl,rfl,rfl,rfl,trivial⟩,⟨_,P6,a6,W6,c+25000+1+25000,B+2,k+1,((((((((OV.ae 7 rfl).ae 7 rfl).ae 7 rfl).ae 7 rfl).ae 7 rfl).ae 7 rfl).ae 7 rfl).ae 7 rfl),(N4.trans (Gr.trans (DZ.trans (D0.trans (Gs.trans (adO.trans adP)))))),(O_.trans (En.trans (dz.trans jv))),rfl,by omega,by omega,hw6,hW6,by omega,by omega,mn,hS6.start⟩,Nat.lt_succ_self j⟩
 refine go 4 ?_
 obtain⟨gz,EJ,oF,WJ⟩:=hW
 refine RL.rP rfl rfl rfl rfl rfl Tl.out (Xx (show ak _ sL (P.os++os) from cd) hw EJ (by omega)) ?_
 rintro e7 w7 ⟨s7,P7,a7,rfl,jK,BJ,adQ,hw7⟩
 have BJ:ak w7 s7 (P7.W::P7.S::P7.K::P7.B::P7.L::P7.T::P7.D::P7.X::(P7.E++os)):=BJ
 refine⟨_,rfl,trivial,?_⟩
 refine go 2 ?_
 refine CW.ret (bP ?_)
 exact aw.mq (ak.MN ((((((((BJ.drop).drop).drop).drop).drop).drop).drop).drop)).nil rfl
 refine go 9 ?_
 obtain⟨gz,EJ,oF,WJ⟩:=hW
 refine RL.rP rfl rfl rfl rfl rfl Tl.out (Xx (show ak _ sL (P.os++os) from cd) hw EJ (by omega)) ?_
 rintro e7 w7 ⟨s7,P7,a7,rfl,jK,BJ,adQ,hw7⟩
 have BJ:ak w7 s7 (P7.W::P7.S::P7.K::P7.B::P7.L::P7.T::P7.D::P7.X::(P7.E++os)):=BJ
 refine⟨_,rfl,trivial,?_⟩
 refine go 2 ?_
 refine CW.ret (bP ?_)
 exact aw.mq (ak.MN ((((((((BJ.drop).drop).drop).drop).drop).drop).drop).drop)).nil rfl
end
end Go.Lw
